/- The builder of strings. -/
import Derived.Test.YtgkmmbdlclecnaaDoorLo
import Derived.Lib.Builder
import Derived.Lib.UnsafeStr
namespace Go.Proofs.YtgkmmbdlclecnaaDoor
open Go Go.Eng
set_option maxRecDepth 100000
set_option linter.unusedVariables false
set_option linter.unusedSimpArgs false
theorem cl33 : callable Tryd.prog 33 = true := by kernel_rfl
theorem co5 : Tryd.prog.cellsOf 5 = 1 := by kernel_rfl
theorem fo50_0 : fieldOff Tryd.prog 50 0 = some 0 := by kernel_rfl
theorem fo50_1 : fieldOff Tryd.prog 50 1 = some 1 := by kernel_rfl
theorem one47 : oneOf Tryd.prog 47 = true := by kernel_rfl
theorem one48 : oneOf Tryd.prog 48 = true := by kernel_rfl
theorem pn47 : Tryd.prog.underlying 47 = some (.pointer (Tryd.prog.pointee 47)) := by kernel_rfl
theorem sz47 : szOf Tryd.prog 47 = some 1 := by kernel_rfl
theorem sz48 : szOf Tryd.prog 48 = some 1 := by kernel_rfl
theorem sz50 : szOf Tryd.prog 50 = some 2 := by kernel_rfl
theorem ud96 : Tryd.prog.underlying 96 = some .unsafePointer := by kernel_rfl
theorem udp47 : Tryd.prog.underlying 47 = some (.pointer 50) := by kernel_rfl
theorem udp81 : Tryd.prog.underlying 81 = some (.pointer 5) := by kernel_rfl

section
variable {P : Program} {w w0 : World} {L : List Seg} {ρ : Operand → Value} {d : Option Tmp} {x y z : Operand} {ty : TypeId} {pos : String} {af : Array Edge} {g : Option (Nat × Bool)}
theorem shape_of {i b T : Nat} {l : List Value} (H : Hp w0 w L) (hi : L[i]? = some [(b, cel l T)]) : w.shape? b = some (T, l.length) := by
  simp [World.shape?, H.get1 hi, cel]
theorem RX.toUnsafe {src dst t i b T k : Nat} {l : List Value} (H : Hp w0 w L) (hx : ρ x = .pointer (some ⟨b, 0, none⟩)) (hi : L[i]? = some [(b, cel l T)]) (hl : 0 < l.length)
    (hs : P.underlying src = some (.pointer t)) (hd : P.underlying dst = some .unsafePointer) (ht : szOf P t = some (k + 1)) : Runs P ρ ⟨d, .convert src dst x, ty, pos, af, g⟩ w (.pointer (some ⟨b, 0, none⟩)) := by
  obtain ⟨j, hj, hjs⟩ := Option.map_eq_some_iff.1 ht
  have hr := Lib.run_to_unsafe (P := P) w ⟨b, 0, none⟩ hs hd hj (by rw [hjs]; omega) (shape_of H hi) hl
  unfold Runs
  simp [execOp, hx, hr]
theorem RX.fromUnsafe {src dst u i b T k : Nat} {l : List Value} (H : Hp w0 w L) (hx : ρ x = .pointer (some ⟨b, 0, none⟩)) (hi : L[i]? = some [(b, cel l T)])
    (hs : P.underlying src = some .unsafePointer) (hd : P.underlying dst = some (.pointer u)) (hu : szOf P u = some k) (hlies : liesAt P P.depth T (l.length / P.cellsOf T) 0 u 1 = true) : Runs P ρ ⟨d, .convert src dst x, ty, pos, af, g⟩ w (.pointer (some ⟨b, 0, none⟩)) := by
  obtain ⟨j, hj, hjs⟩ := Option.map_eq_some_iff.1 hu
  have hr := Lib.run_from_unsafe (P := P) w ⟨b, 0, none⟩ hs hd hj (shape_of H hi) hlies
  unfold Runs
  simp [execOp, hx, hr]
theorem RX.ptrself_neq {t t' u k : Nat} {a : Addr} (hx : ρ x = .pointer (some a)) (hy : ρ y = .pointer (some a)) (h : P.underlying t = some (.pointer u)) (hu : szOf P u = some k) : Runs P ρ ⟨d, .binOp .neq t x y t', ty, pos, af, g⟩ w (.bool false) := by
  obtain ⟨j, hj, hjs⟩ := Option.map_eq_some_iff.1 hu
  unfold Runs
  simp [execOp, hx, hy, eqGuard_at_pointer, Lib.run_neq_ptr_same w _ h hj]
theorem RX.sliceData {a : Addr} {n c : Nat} {ats : Array TypeId} (hx : ρ x = .slice (some a) n c) (hc : c ≠ 0) : Runs P ρ ⟨d, .call { callee := .builtin .unsafeSliceData, args := #[x], argTypes := ats }, ty, pos, af, g⟩ w (.pointer (some a)) := by
  unfold Runs
  simp [execOp, hx, resolve, invoke, builtin, Lib.run_unsafeSliceData_row w _ _ a n c hc]
theorem EX.unsafeStr {pt it e b : Nat} {cl : List Value} {fz : Nat × Nat} {l : List UInt8} (H : Hp w0 w ([(b, Obj.cells cl.toArray e fz)] :: L)) (hx : ρ x = .pointer (some ⟨b, 0, none⟩)) (hy : ρ y = .int .i64 l.length)
    (hp : P.underlying pt = some (.pointer e)) (hc : P.cellsOf e = 1) (h0 : l ≠ []) (hn : l.length ≤ cl.length) (h63 : l.length ≤ 9223372036854775807) (ht : cl.take l.length = bL l) :
    Does P ρ ⟨d, .call { callee := .builtin .unsafeString, args := #[x, y], argTypes := #[pt, it] }, ty, pos, af, g⟩ w fun v w' => v = .string ⟨l.toArray⟩ ∧ Hp w0 w' L := by
  have hb := H.get1 (i := 0) rfl
  have hl : l.length ≠ 0 := by simpa using h0
  have hr := Lib.run_unsafeString_row (P := P) w pt it ty e hp hc b cl.length (by simp [World.shape?, hb]) l h0 hn h63 (fun j v hj => by
    obtain ⟨hlt, hv⟩ := List.getElem?_eq_some_iff.1 hj
    have h1 : cl[j]? = some (.int .u8 v.toNat) := by
      have h2 : (cl.take l.length)[j]? = some (.int .u8 v.toNat) := by rw [ht]; simp [bL, hj]
      rwa [List.getElem?_take, if_pos hlt] at h2
    rw [Lib.add_plain, Nat.zero_add]
    simp [World.cell?, hb, h1])
  refine Does.of_run (v := .string ⟨l.toArray⟩) (w' := w.freeze ⟨b, 0, none⟩ l.length) ?_ ⟨rfl, ?_⟩
  · simp [execOp, hx, hy, resolve, invoke, builtin, hr]
  · unfold World.freeze
    rw [if_neg hl]
    obtain ⟨lo, hi⟩ := fz
    refine (H.set (i := 0) rfl (o' := .cells cl.toArray e (if lo == hi then (0, 0 + l.length) else (min lo 0, max hi (0 + l.length)))) (by simp) ?_ ?_).drop
    · simp [Array.getElem?_modify, hb]
    · intro c hc
      rw [Array.getElem?_modify, if_neg (fun h => hc h.symm)]
end

theorem noesc : ExtIs Tryd.prog 52 Extern.AbiNoEscape.same := ⟨_, Tryd.func52, by decide, by decide, by kernel_rfl, by kernel_rfl⟩
theorem bd_lies : liesAt Tryd.prog Tryd.prog.depth 50 (2 / Tryd.prog.cellsOf 50) 0 50 1 = true := by kernel_rfl
theorem copyCheck_b {w0 w : World} {F : List Seg} {b : Nat} {q : Option Addr} {v : Value} (H : Hp w0 w ([(b, cel [.pointer q, v] 50)] :: F)) (hq : q = none ∨ q = some ⟨b, 0, none⟩) : Ret Tryd.prog 33 [.pointer (some ⟨b, 0, none⟩)] w fun v' w' => v' = .tuple #[] ∧ Hp w0 w' ([(b, cel [.pointer (some ⟨b, 0, none⟩), v] 50)] :: F) := by
  refine Calls.of_J (n := 20) Tryd.func33 rfl rfl rfl ?_
  refine J.seq ?_
  refine J.region ?_
  refine JL.go trivial (RX.movev (v := Value.pointer _) rfl) ?_
  refine JL.go trivial (RX.nilCheck rfl) ?_
  refine JL.go trivial (RX.fieldAddr rfl fo50_0 rfl) ?_
  refine JL.go trivial (RX.load H rfl (i := 0) (v := .pointer q) rfl rfl one47) ?_
  refine JL.go trivial (RX.ptrnil_eql rfl rfl pn47) ?_
  refine JL.nil ?_
  refine J.cond rfl (fun hn => ?_) (fun hn => ?_)
  · skip
    obtain rfl : q = none := Option.isNone_iff_eq_none.1 hn
    refine J.region ?_
    refine JL.go trivial (RX.movev (v := Value.pointer _) rfl) ?_
    refine JL.go trivial (RX.movev (v := Value.pointer _) rfl) ?_
    refine JL.go trivial (RX.toUnsafe H rfl (i := 0) rfl (by simp) udp47 ud96 sz50) ?_
    refine JL.go trivial (RX.ext noesc rfl rfl (v := .pointer (some ⟨b, 0, none⟩)) rfl) ?_
    refine JL.go trivial (RX.fromUnsafe H rfl (i := 0) rfl ud96 udp47 sz50 bd_lies) ?_
    refine JL.go trivial (RX.nilCheck rfl) ?_
    refine JL.go trivial (RX.fieldAddr rfl fo50_0 rfl) ?_
    refine JL.does trivial (EX.store (v := Value.pointer _) H rfl rfl (i := 0) rfl rfl (by simp) sz47 rfl rfl) ?_
    rintro _ w H
    refine JL.nil ?_
    refine J.end0 Tryd.func33 rfl ?_
    exact ⟨_, rfl, rfl, H⟩
  · skip
    obtain rfl : q = some ⟨b, 0, none⟩ := by
      rcases hq with rfl | rfl
      · cases hn
      · rfl
    refine J.seq ?_
    refine J.region ?_
    refine JL.go trivial (RX.movev (v := Value.pointer _) rfl) ?_
    refine JL.go trivial (RX.nilCheck rfl) ?_
    refine JL.go trivial (RX.fieldAddr rfl fo50_0 rfl) ?_
    refine JL.go trivial (RX.load H rfl (i := 0) (v := .pointer (some ⟨b, 0, none⟩)) rfl rfl one47) ?_
    refine JL.go trivial (RX.movev (v := Value.pointer _) rfl) ?_
    refine JL.go trivial (RX.ptrself_neq rfl rfl udp47 sz50) ?_
    refine JL.nil ?_
    refine J.cond_f rfl rfl ?_
    refine J.skip ?_
    refine J.end0 Tryd.func33 rfl ?_
    exact ⟨_, rfl, rfl, H⟩
theorem WriteString_b {w0 w : World} {F : List Seg} {b n c : Nat} {q p : Option Addr} {xs : List Value} {s : Seg} {l : List UInt8} (H : Hp w0 w ([(b, cel [.pointer q, .slice p n c] 50)] :: s :: F)) (hq : q = none ∨ q = some ⟨b, 0, none⟩) (ho : OwnZ 5 p n c xs s) (hb : n + l.length ≤ 140737488355328) : Ret Tryd.prog 16 [.pointer (some ⟨b, 0, none⟩), .string ⟨l.toArray⟩] w fun v w' => v = .tuple #[.int .i64 (l.length : Nat), .nilIface] ∧ ∃ p' c' s', OwnZ 5 p' (n + l.length) c' (xs ++ bL l) s' ∧ Hp w0 w' ([(b, cel [.pointer (some ⟨b, 0, none⟩), .slice p' (n + l.length) c'] 50)] :: s' :: F) := by
  refine Calls.of_J (n := 19) Tryd.func16 rfl rfl rfl ?_
  refine J.seq ?_
  refine J.region ?_
  refine JL.go trivial (RX.assign) ?_
  refine JL.go trivial (RX.assign) ?_
  refine JL.nil ?_
  refine J.seq ?_
  refine J.region ?_
  refine JL.go trivial (RX.movev (v := Value.pointer _) rfl) ?_
  refine JL.does trivial (EX.call rfl cl33 rfl ((copyCheck_b H hq))) ?_
  rintro _ w ⟨rfl, H⟩
  refine JL.nil ?_
  refine J.seq ?_
  refine J.region ?_
  refine JL.go trivial (RX.movev (v := Value.pointer _) rfl) ?_
  refine JL.go trivial (RX.movev (v := Value.pointer _) rfl) ?_
  refine JL.go trivial (RX.nilCheck rfl) ?_
  refine JL.go trivial (RX.fieldAddr rfl fo50_1 rfl) ?_
  refine JL.go trivial (RX.load H rfl (i := 0) (v := .slice p n c) rfl rfl one48) ?_
  refine JL.go trivial (RX.movev (v := Value.string _) rfl) ?_
  refine JL.does trivial (EX.appendZ (m := l.length) (ys := bL l) (L' := fun s' => [(b, cel [.pointer (some ⟨b, 0, none⟩), .slice p n c] 50)] :: s' :: F) H elB rfl rfl (yv := .string ⟨l.toArray⟩) (src_str _) (i := 1) rfl ho hb (fun _ => rfl)) ?_
  rintro _ w ⟨p', c', s', rfl, ho', H⟩
  refine JL.go trivial (RX.nilCheck rfl) ?_
  refine JL.go trivial (RX.fieldAddr rfl fo50_1 rfl) ?_
  refine JL.does trivial (EX.store (v := Value.slice _ _ _) H rfl rfl (i := 0) rfl rfl (by simp) sz48 rfl rfl) ?_
  rintro _ w H
  refine JL.nil ?_
  refine J.seq ?_
  refine J.region ?_
  refine JL.go trivial (RX.movev (v := Value.string _) rfl) ?_
  refine JL.go trivial (RX.len_string rfl ud9 (r := (l.length : Int)) (by simp [ByteArray.size])) ?_
  refine JL.go trivial (RX.assignv (v := Value.int _ _) rfl) ?_
  refine JL.go trivial (RX.assign) ?_
  refine JL.nil ?_
  refine J.ret2 (v := Value.int _ _) Tryd.func16 rfl rfl rfl ?_
  exact ⟨_, rfl, rfl, p', c', s', ho', H⟩
theorem String_b {w0 w : World} {F : List Seg} {b n c : Nat} {q : Value} {p : Option Addr} {s : Seg} {l : List UInt8} (H : Hp w0 w ([(b, cel [q, .slice p n c] 50)] :: s :: F)) (ho : OwnZ 5 p n c (bL l) s) (h0 : l ≠ []) (h63 : l.length ≤ 9223372036854775807) : Ret Tryd.prog 18 [.pointer (some ⟨b, 0, none⟩)] w fun v w' => v = .string ⟨l.toArray⟩ ∧ Hp w0 w' F := by
  refine Calls.of_J (n := 14) Tryd.func18 rfl rfl rfl ?_
  refine J.seq ?_
  refine J.region ?_
  refine JL.go trivial (RX.assign) ?_
  refine JL.nil ?_
  refine J.seq ?_
  obtain ⟨hnl, ⟨rfl, h0n, rfl, rfl⟩ | ⟨g, cl, fz, rfl, rfl, hn, hcl, htk, hfz⟩⟩ := ho
  · rw [bL_len] at hnl; exact absurd (List.eq_nil_of_length_eq_zero (hnl.trans h0n)) h0
  rw [bL_len] at hnl
  subst hnl
  have hl0 : l.length ≠ 0 := by simpa using h0
  replace H := H.pull 1 rfl
  refine J.held (fun w => Hp w0 w ([(b, cel [q, .slice (some ⟨g, 0, none⟩) l.length c] 50)] :: F)) hmix fun w hs => ?_
  replace H := H.same hs; clear hs
  have hS : Hp w0 w ([(b, cel [q, .slice (some ⟨g, 0, none⟩) l.length c] 50)] :: F) := by first | exact H | exact H.drop | exact H.drop.drop | exact H.drop.drop.drop | exact H.drop.drop.drop.drop | exact H.drop.drop.drop.drop.drop | exact H.drop.drop.drop.drop.drop.drop | exact H.drop.drop.drop.drop.drop.drop.drop | exact H.drop.drop.drop.drop.drop.drop.drop.drop
  refine JH.take 0 (listed' := [true, false, false, false, false, false, false, false, false, false, false, false]) rfl (by kernel_rfl) (by kernel_rfl) (by kernel_rfl) rfl trivial (fun w H => RX.movev (v := Value.pointer _) rfl) hS ?_
  refine JH.take 1 (listed' := [true, true, false, false, false, false, false, false, false, false, false, false]) rfl (by kernel_rfl) (by kernel_rfl) (by kernel_rfl) rfl trivial (fun w H => RX.nilCheck rfl) hS ?_
  refine JH.take 2 (listed' := [true, true, true, false, false, false, false, false, false, false, false, false]) rfl (by kernel_rfl) (by kernel_rfl) (by kernel_rfl) rfl trivial (fun w H => RX.fieldAddr rfl fo50_1 rfl) hS ?_
  refine JH.take 3 (listed' := [true, true, true, true, false, false, false, false, false, false, false, false]) rfl (by kernel_rfl) (by kernel_rfl) (by kernel_rfl) rfl trivial (fun w H => RX.load H rfl (i := 0) (v := .slice (some ⟨g, 0, none⟩) l.length c) rfl rfl one48) hS ?_
  refine JH.take 5 (listed' := [true, true, true, true, false, true, false, false, false, false, false, false]) rfl (by kernel_rfl) (by kernel_rfl) (by kernel_rfl) rfl trivial (fun w H => RX.movev (v := Value.pointer _) rfl) hS ?_
  refine JH.take 6 (listed' := [true, true, true, true, false, true, true, false, false, false, false, false]) rfl (by kernel_rfl) (by kernel_rfl) (by kernel_rfl) rfl trivial (fun w H => RX.nilCheck rfl) hS ?_
  refine JH.take 7 (listed' := [true, true, true, true, false, true, true, true, false, false, false, false]) rfl (by kernel_rfl) (by kernel_rfl) (by kernel_rfl) rfl trivial (fun w H => RX.fieldAddr rfl fo50_1 rfl) hS ?_
  refine JH.take 8 (listed' := [true, true, true, true, false, true, true, true, true, false, false, false]) rfl (by kernel_rfl) (by kernel_rfl) (by kernel_rfl) rfl trivial (fun w H => RX.load H rfl (i := 0) (v := .slice (some ⟨g, 0, none⟩) l.length c) rfl rfl one48) hS ?_
  refine JH.take 9 (listed' := [true, true, true, true, false, true, true, true, true, true, false, false]) rfl (by kernel_rfl) (by kernel_rfl) (by kernel_rfl) rfl trivial (fun w H => RX.len_slice rfl (by rw [sl48]; rfl) rfl) hS ?_
  refine JH.all [4] (by kernel_rfl) (by decide) ?_
  refine JHO.go (listed' := [true, true, true, true, true, true, true, true, true, true, false, false]) rfl rfl trivial (RX.sliceData rfl (by omega)) hS ?_
  refine JH.all [10] (by kernel_rfl) (by decide) ?_
  refine JHO.does (listed' := [true, true, true, true, true, true, true, true, true, true, true, false]) rfl rfl trivial (EX.unsafeStr (l := l) H rfl rfl udp81 co5 h0 (by omega) h63 htk) ?_
  rintro _ w ⟨rfl, H⟩
  have hS : Hp w0 w ([(b, cel [q, .slice (some ⟨g, 0, none⟩) l.length c] 50)] :: F) := by first | exact H | exact H.drop | exact H.drop.drop | exact H.drop.drop.drop | exact H.drop.drop.drop.drop | exact H.drop.drop.drop.drop.drop | exact H.drop.drop.drop.drop.drop.drop | exact H.drop.drop.drop.drop.drop.drop.drop | exact H.drop.drop.drop.drop.drop.drop.drop.drop
  refine ⟨hS, ?_⟩
  refine JH.take 11 (listed' := [true, true, true, true, true, true, true, true, true, true, true, true]) rfl (by kernel_rfl) (by kernel_rfl) (by kernel_rfl) rfl trivial (fun w H => RX.assignv (v := Value.string _) rfl) hS ?_
  refine JH.done (by kernel_rfl) ?_
  refine J.ret1 (v := Value.string _) Tryd.func18 rfl rfl ?_
  exact ⟨_, rfl, rfl, H.drop⟩
end Go.Proofs.YtgkmmbdlclecnaaDoor

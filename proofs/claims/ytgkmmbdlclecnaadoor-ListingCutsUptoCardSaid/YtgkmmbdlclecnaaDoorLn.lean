/- Lines of a listing. -/
import Derived.Test.YtgkmmbdlclecnaaDoorNm
namespace Go.Proofs.YtgkmmbdlclecnaaDoor
open Go Go.Eng
set_option maxRecDepth 100000
set_option linter.unusedVariables false
set_option linter.unusedSimpArgs false
theorem cl19 : callable Tryd.prog 19 = true := by kernel_rfl
theorem ki5 : kindOf Tryd.prog 5 = some .u8 := by kernel_rfl
theorem sl48 : sliceOf Tryd.prog 48 = some (5, 1) := by kernel_rfl
theorem sl55 : sliceOf Tryd.prog 55 = some (3, 1) := by kernel_rfl
theorem ud5 : Tryd.prog.underlying 5 = some (.int .u8) := by kernel_rfl

section
variable {P : Program} {w w0 : World} {L : List Seg} {ρ : Operand → Value} {d : Option Tmp} {x y z : Operand} {ty : TypeId} {pos : String} {af : Array Edge} {g : Option (Nat × Bool)}
theorem ba_app (a b : List UInt8) : (⟨a.toArray⟩ : ByteArray) ++ ⟨b.toArray⟩ = ⟨(a ++ b).toArray⟩ := by
  apply ByteArray.ext; simp
theorem ba_inj {a b : List UInt8} (h : (⟨a.toArray⟩ : ByteArray) = ⟨b.toArray⟩) : a = b := by
  have := congrArg (fun s : ByteArray => s.data.toList) h
  simpa using this
theorem RX.strL {t t' : TypeId} {a b r : List UInt8} (hx : ρ x = .string ⟨a.toArray⟩) (hy : ρ y = .string ⟨b.toArray⟩) (hr : a ++ b = r) (hl : r.length ≤ 9223372036854775807) : Runs P ρ ⟨d, .binOp .add t x y t', ty, pos, af, g⟩ w (.string ⟨r.toArray⟩) := by
  subst hr
  rw [← ba_app]
  refine RX.str_add hx hy ?_
  simp only [List.length_append] at hl
  simp [ByteArray.size]
  omega
theorem RX.slStr {t : TypeId} {a r : List UInt8} {k k' : IntKind} {l h : Int} (hx : ρ x = .string ⟨a.toArray⟩) (hy : ρ y = .int k l) (hz : ρ z = .int k' h) (ht : P.underlying t = some .string) (h0 : 0 ≤ l) (h1 : l ≤ h) (h2 : h ≤ a.length)
    (hr : (a.drop l.toNat).take (h.toNat - l.toNat) = r) : Runs P ρ ⟨d, .slice t x (some y) (some z) none, ty, pos, af, g⟩ w (.string ⟨r.toArray⟩) := by
  subst hr
  rw [← ByteArray.extract_mk]
  unfold Runs
  have h2' : h ≤ (⟨a.toArray⟩ : ByteArray).size := by simpa [ByteArray.size] using h2
  simp [execOp, hx, hy, hz, run_sliceAt_string w t _ _ _ _ ht, run_slice_string w t _ k k' l h ht h0 h1 h2']
end
theorem dig_n (v : Nat) : (UInt8.ofNat (48 + v % 10)).toNat = 48 + v % 10 := by rw [UInt8.toNat_ofNat']; omega
theorem dec_unfold (m : Nat) : Lib.decDigits m = if m < 10 then [UInt8.ofNat (48 + m)] else Lib.decDigits (m / 10) ++ [UInt8.ofNat (48 + m % 10)] := by
  rw [Lib.decDigits]; split <;> rfl
theorem dec_len {u : Nat} (h : u < 18446744073709551616) : (Lib.decDigits u).length ≤ 20 := by rw [Lib.decDigits_length]; exact Lib.nDigits_le20 u h
theorem itoa_len {i : Int} (h : i64ok i) : (Lib.itoa i).length ≤ 21 := Lib.itoa_length_le i h.1 h.2
def nmB (op : Int) : List UInt8 := (rowOf op).nm.data.toList
theorem nm_eq (op : Int) : (rowOf op).nm = ⟨(nmB op).toArray⟩ := rfl
theorem nmB_len (op : Int) : (nmB op).length ≤ 10 := by
  unfold nmB rowOf
  have : ∀ k : Nat, ((rows.getD k row0).nm.data.toList).length ≤ 10 := by
    intro k
    match k with
    | 0 | 1 | 2 | 3 | 4 | 5 | 6 | 7 | 8 | 9 | 10 | 11 => decide
    | k + 12 => simp [rows]; decide
  exact this _
def pieceL (c : UInt8) (x : Int) : List UInt8 := if x = 0 then [] else 32 :: c :: Lib.itoa x
def letters : List UInt8 := [100, 115, 106, 99, 110, 107]
def valsL (s : Stp) : List Int := [s.dst, s.src, s.jump, s.count, s.n, s.k]
def partL (s : Stp) (k : Nat) : List UInt8 := nmB s.op ++ ((letters.zip (valsL s)).take k).flatMap fun q => pieceL q.1 q.2
def lineL (s : Stp) : List UInt8 := partL s 6
theorem part_succ {s : Stp} {k : Nat} (hk : k < 6) : partL s (k + 1) = partL s k ++ pieceL (letters.getD k 0) ((valsL s).getD k 0) := by
  unfold partL
  have h : k = 0 ∨ k = 1 ∨ k = 2 ∨ k = 3 ∨ k = 4 ∨ k = 5 := by omega
  rcases h with rfl | rfl | rfl | rfl | rfl | rfl <;> simp [letters, valsL]
theorem part_zero (s : Stp) : partL s 0 = nmB s.op := by simp [partL]
theorem vals_ok {s : Stp} (hs : s.Ok) {k : Nat} (hk : k < 6) : i64ok ((valsL s).getD k 0) := by
  have h : k = 0 ∨ k = 1 ∨ k = 2 ∨ k = 3 ∨ k = 4 ∨ k = 5 := by omega
  rcases h with rfl | rfl | rfl | rfl | rfl | rfl
  · exact hs.dst
  · exact hs.src
  · exact hs.jump
  · exact hs.count
  · exact hs.n
  · exact hs.k
theorem piece_len {c : UInt8} {x : Int} (h : i64ok x) : (pieceL c x).length ≤ 23 := by
  unfold pieceL
  split
  · simp
  · have := itoa_len h; simp; omega
theorem part_len {s : Stp} (hs : s.Ok) : ∀ {k : Nat}, k ≤ 6 → (partL s k).length ≤ 10 + 23 * k
  | 0, _ => by have := nmB_len s.op; simpa [partL] using this
  | k + 1, h => by
    rw [part_succ (by omega), List.length_append]
    have h1 := part_len hs (k := k) (by omega)
    have h2 := piece_len (c := letters.getD k 0) (vals_ok hs (k := k) (by omega))
    omega
theorem line_len {s : Stp} (hs : s.Ok) : (lineL s).length ≤ 148 := part_len hs (k := 6) (by omega)

theorem rnum_b {w0 w : World} {F : List Seg} (H : Hp w0 w F) {n : Int} (hn : i64ok n) : Ret Tryd.prog 19 [.int .i64 n] w fun v w' => v = .string ⟨(Lib.itoa n).toArray⟩ ∧ Hp w0 w' F := by
  refine Calls.of_J (n := 28) Tryd.func19 rfl rfl rfl ?_
  refine J.seq ?_
  refine J.region ?_
  refine JL.go trivial (RX.assign) ?_
  refine JL.nil ?_
  refine J.seq ?_
  obtain ⟨h0, h1⟩ := hn
  obtain ⟨m, hm, hm2⟩ : ∃ m : Nat, n % 18446744073709551616 = (m : Int) ∧ m < 18446744073709551616 := ⟨(n % 18446744073709551616).toNat, by omega, by omega⟩
  refine J.region ?_
  refine JL.go trivial (RX.movev (v := Value.int _ _) rfl) ?_
  refine JL.go trivial (RX.conv rfl (by rw [ki3]; rfl) ki82 (r := (m : Int)) (by rw [wrap_u64]; exact hm)) ?_
  refine JL.go trivial (RX.assignv (v := Value.int _ _) rfl) ?_
  refine JL.nil ?_
  refine J.seq ?_
  refine J.seq ?_
  refine J.region ?_
  refine JL.go trivial (RX.movev (v := Value.int _ _) rfl) ?_
  refine JL.go trivial (RX.lt rfl rfl) ?_
  refine JL.nil ?_
  refine J.join (ι := Nat) (fun q => [(3, .int .u64 (q : Nat))]) (fun q w => q = n.natAbs ∧ Hp w0 w F) [(0, _)] ⟨rfl, trivial⟩ ?_ ?_
  rotate_left
  · skip
    intro k2 hk2
    refine J.cond_d rfl (fun hneg => ?_) (fun hneg => ?_)
    · skip
      refine J.region ?_
      refine JL.go trivial (RX.movev (v := Value.int _ _) rfl) ?_
      refine JL.go trivial (RX.neg rfl (r := ((18446744073709551616 - m : Nat) : Int)) (by rw [wrap_u64]; omega)) ?_
      refine JL.go trivial (RX.assignv (v := Value.int _ _) rfl) ?_
      refine JL.nil ?_
      first | exact hk2 m _ _ ⟨rfl, trivial⟩ ⟨rfl, trivial⟩ ⟨by omega, H⟩ | exact hk2 (18446744073709551616 - m) _ _ ⟨rfl, trivial⟩ ⟨rfl, trivial⟩ ⟨by omega, H⟩
    · skip
      refine J.skip ?_
      first | exact hk2 m _ _ ⟨rfl, trivial⟩ ⟨rfl, trivial⟩ ⟨by omega, H⟩ | exact hk2 (18446744073709551616 - m) _ _ ⟨rfl, trivial⟩ ⟨rfl, trivial⟩ ⟨by omega, H⟩
  · skip
    clear H
    rintro u ρ w ⟨hu, H⟩
    have hu2 : u < 18446744073709551616 := by omega
    have hlen := dec_len hu2
    refine J.seq ?_
    refine J.region ?_
    refine JL.go trivial (RX.assign) ?_
    refine JL.nil ?_
    refine J.seq ?_
    refine J.block ?_
    refine J.loop (ι := Nat × List UInt8) (S := fun q => [(3, .int .u64 (q.1 : Nat)), (4, .string ⟨q.2.toArray⟩)]) (Φ := fun q w => q.1 < 18446744073709551616 ∧ Lib.decDigits u = Lib.decDigits q.1 ++ q.2 ∧ Hp w0 w F) (μ := fun q => q.1) (C := [(0, _)]) (u, []) ⟨rfl, trivial⟩ ⟨rfl, rfl, trivial⟩ ?_ ?_
    · exact ⟨hu2, (List.append_nil _).symm, H⟩
    clear H
    rintro ⟨v, l⟩ ρ w ⟨hv, hd, H⟩ IH
    simp only at hv hd H
    have hl20 : l.length ≤ 20 := by have := congrArg List.length hd; simp only [List.length_append] at this; omega
    dsimp only
    refine J.block ?_
    refine J.seq ?_
    refine J.region ?_
    refine JL.go trivial (RX.movev (v := Value.int _ _) rfl) ?_
    refine JL.go trivial (RX.rem rfl rfl (by omega) (r := ((v % 10 : Nat) : Int)) (by first | exact (Int.ofNat_tmod v 10).symm | omega)) ?_
    refine JL.go trivial (RX.add rfl rfl (w_u64 (r := ((48 + v % 10 : Nat) : Int)) (by omega) (by omega) (by omega))) ?_
    refine JL.go trivial (RX.conv rfl (by rw [ki82]; rfl) ki5 (w_u8 (r := ((UInt8.ofNat (48 + v % 10)).toNat : Int)) (by rw [dig_n]) (by omega) (by rw [dig_n]; omega))) ?_
    refine JL.does trivial (EX.buildSlice1 (v := Value.int _ _) H elB rfl rfl) ?_
    rintro _ w ⟨br, rfl, H⟩
    refine JL.go trivial (RX.b2s (l := [UInt8.ofNat (48 + v % 10)]) H rfl (SlAt.here rfl) sl48 ud5 ud9) ?_
    refine JL.go trivial (RX.movev (v := Value.string _) rfl) ?_
    refine JL.go trivial (RX.strL (a := [UInt8.ofNat (48 + v % 10)]) (b := l) rfl rfl rfl (by simp; omega)) ?_
    refine JL.go trivial (RX.assignv (v := Value.string _) rfl) ?_
    refine JL.nil ?_
    replace H := H.drop
    refine J.seq ?_
    refine J.region ?_
    refine JL.go trivial (RX.movev (v := Value.int _ _) rfl) ?_
    refine JL.go trivial (RX.quo rfl rfl (by omega) (r := ((v / 10 : Nat) : Int)) (w_u64 (by first | exact (Int.ofNat_tdiv v 10).symm | omega) (by omega) (by omega))) ?_
    refine JL.go trivial (RX.assignv (v := Value.int _ _) rfl) ?_
    refine JL.nil ?_
    refine J.seq ?_
    refine J.region ?_
    refine JL.go trivial (RX.movev (v := Value.int _ _) rfl) ?_
    refine JL.go trivial (RX.eq rfl rfl) ?_
    refine JL.nil ?_
    refine J.cond_d rfl (fun hz => ?_) (fun hz => ?_)
    · skip
      have hdone : Lib.decDigits u = UInt8.ofNat (48 + v % 10) :: l := by
        rw [hd, dec_unfold v, if_pos (by omega), show v % 10 = v by omega]; rfl
      refine J.exit rfl ?_
      refine J.seq ?_
      refine J.seq ?_
      refine J.region ?_
      refine JL.go trivial (RX.movev (v := Value.int _ _) rfl) ?_
      refine JL.go trivial (RX.lt rfl rfl) ?_
      refine JL.nil ?_
      refine J.cond_d rfl (fun hneg => ?_) (fun hneg => ?_)
      · skip
        refine J.seq ?_
        refine J.region ?_
        refine JL.go trivial (RX.movev (v := Value.string _) rfl) ?_
        refine JL.go trivial (RX.strL (a := [45]) (b := UInt8.ofNat (48 + v % 10) :: l) rfl rfl rfl (by simp; omega)) ?_
        refine JL.go trivial (RX.assignv (v := Value.string _) rfl) ?_
        refine JL.nil ?_
        refine J.ret1 (v := Value.string _) Tryd.func19 rfl rfl ?_
        have e : Lib.itoa n = 45 :: Lib.decDigits u := by unfold Lib.itoa; rw [if_pos (by omega), hu]
        rw [e, hdone]
        exact ⟨_, rfl, rfl, H⟩
      · skip
        refine J.skip ?_
        refine J.seq ?_
        refine J.region ?_
        refine JL.go trivial (RX.movev (v := Value.string _) rfl) ?_
        refine JL.go trivial (RX.assignv (v := Value.string _) rfl) ?_
        refine JL.nil ?_
        refine J.ret1 (v := Value.string _) Tryd.func19 rfl rfl ?_
        have e : Lib.itoa n = Lib.decDigits u := by unfold Lib.itoa; rw [if_neg (by omega), show u = n.toNat by omega]
        rw [e, hdone]
        exact ⟨_, rfl, rfl, H⟩
    · skip
      have hgo : Lib.decDigits u = Lib.decDigits (v / 10) ++ UInt8.ofNat (48 + v % 10) :: l := by
        rw [hd, dec_unfold v, if_neg (by omega), List.append_assoc]; rfl
      refine J.skip ?_
      refine J.inBlock ?_
      exact IH (v / 10, UInt8.ofNat (48 + v % 10) :: l) _ _ (by simp only; omega) ⟨rfl, trivial⟩ ⟨rfl, rfl, trivial⟩ ⟨by simp only; omega, hgo, H⟩
theorem rline_b {w0 w : World} {F : List Seg} (H : Hp w0 w F) {s : Stp} (hs : s.Ok) (hop : opOk s.op = true) : Ret Tryd.prog 21 [.agg s.v.toArray] w fun v w' => v = .string ⟨(lineL s).toArray⟩ ∧ Hp w0 w' F := by
  refine Calls.of_J (n := 46) Tryd.func21 rfl rfl rfl ?_
  refine J.seq ?_
  refine J.region ?_
  refine JL.does trivial (EX.box (v := Value.agg _) H rfl rfl) ?_
  rintro _ w ⟨b1, rfl, H⟩
  refine JL.go trivial (RX.assign) ?_
  refine JL.nil ?_
  refine J.seq ?_
  refine J.region ?_
  refine JL.go trivial (RX.fieldAddr rfl fo26_0 rfl) ?_
  refine JL.go trivial (by first | exact RX.load H rfl (i := 0) rfl rfl one3 | exact RX.load H rfl (i := 1) rfl rfl one3 | exact RX.load H rfl (i := 2) rfl rfl one3) ?_
  refine JL.does trivial (EX.call rfl cl34 rfl (rname_b H)) ?_
  rintro _ w ⟨rfl, H⟩
  generalize hnv : nameV s.op = nv
  refine JL.go trivial (RX.movev (v := Value.tuple _) rfl) ?_
  refine JL.go trivial (RX.extract (vs := nv) (v := .string ⟨(partL s 0).toArray⟩) rfl (by subst hnv; unfold nameV; rw [hop, part_zero]; rfl)) ?_
  refine JL.go trivial (RX.extract (vs := nv) (v := .bool true) rfl (by subst hnv; unfold nameV; rw [hop]; rfl)) ?_
  refine JL.go trivial (RX.assignv (v := Value.string _) rfl) ?_
  refine JL.go trivial (RX.assignv (v := Value.bool _) rfl) ?_
  refine JL.nil ?_
  refine J.seq ?_
  refine J.seq ?_
  refine J.region ?_
  refine JL.go trivial (RX.fieldAddr rfl fo26_1 rfl) ?_
  refine JL.go trivial (by first | exact RX.load H rfl (i := 0) rfl rfl one3 | exact RX.load H rfl (i := 1) rfl rfl one3 | exact RX.load H rfl (i := 2) rfl rfl one3) ?_
  refine JL.go trivial (RX.fieldAddr rfl fo26_2 rfl) ?_
  refine JL.go trivial (by first | exact RX.load H rfl (i := 0) rfl rfl one3 | exact RX.load H rfl (i := 1) rfl rfl one3 | exact RX.load H rfl (i := 2) rfl rfl one3) ?_
  refine JL.go trivial (RX.fieldAddr rfl fo26_3 rfl) ?_
  refine JL.go trivial (by first | exact RX.load H rfl (i := 0) rfl rfl one3 | exact RX.load H rfl (i := 1) rfl rfl one3 | exact RX.load H rfl (i := 2) rfl rfl one3) ?_
  refine JL.go trivial (RX.fieldAddr rfl fo26_4 rfl) ?_
  refine JL.go trivial (by first | exact RX.load H rfl (i := 0) rfl rfl one3 | exact RX.load H rfl (i := 1) rfl rfl one3 | exact RX.load H rfl (i := 2) rfl rfl one3) ?_
  refine JL.go trivial (RX.fieldAddr rfl fo26_5 rfl) ?_
  refine JL.go trivial (by first | exact RX.load H rfl (i := 0) rfl rfl one3 | exact RX.load H rfl (i := 1) rfl rfl one3 | exact RX.load H rfl (i := 2) rfl rfl one3) ?_
  refine JL.go trivial (RX.fieldAddr rfl fo26_6 rfl) ?_
  refine JL.go trivial (by first | exact RX.load H rfl (i := 0) rfl rfl one3 | exact RX.load H rfl (i := 1) rfl rfl one3 | exact RX.load H rfl (i := 2) rfl rfl one3) ?_
  refine JL.does trivial (EX.buildSlice (pv := [(0, .int .i64 s.dst), (1, .int .i64 s.src), (2, .int .i64 s.jump), (3, .int .i64 s.count), (4, .int .i64 s.n), (5, .int .i64 s.k)]) (l := (valsL s).map (Value.int .i64)) (e := 3) H rfl (by kernel_rfl)) ?_
  rintro _ w ⟨vb, rfl, H⟩
  refine JL.go trivial (RX.len_slice rfl (by rw [sl55]; rfl) rfl) ?_
  refine JL.go trivial (RX.move) ?_
  refine JL.nil ?_
  refine J.block ?_
  refine J.loop (ι := Nat) (S := fun k => [(27, .int .i64 (k : Nat)), (3, .string ⟨(partL s k).toArray⟩)]) (Φ := fun k w => k ≤ 6 ∧ Hp w0 w ([(vb, cel ((valsL s).map (Value.int .i64)) 3)] :: [(b1, cel s.v 26)] :: F)) (μ := fun k => 6 - k) (C := [(25, _), (26, _)]) 0 ⟨rfl, rfl, trivial⟩ ⟨rfl, rfl, trivial⟩ ?_ ?_
  · exact ⟨by omega, H⟩
  clear H
  rintro k ρ w ⟨hk, H⟩ IH
  refine J.seq ?_
  refine J.region ?_
  refine JL.go trivial (RX.lt rfl rfl) ?_
  refine JL.nil ?_
  refine J.seq ?_
  refine J.cond_d rfl (fun hlt => ?_) (fun hlt => ?_)
  · skip
    have hk6 : k < 6 := by omega
    have hk06 : k = 0 ∨ k = 1 ∨ k = 2 ∨ k = 3 ∨ k = 4 ∨ k = 5 := by omega
    have hxo := vals_ok hs hk6
    have hpl := part_len hs (k := k) (by omega)
    generalize hx : (valsL s).getD k 0 = x at hxo
    have hps := part_succ (s := s) hk6
    rw [hx] at hps
    refine J.skip ?_
    refine J.seq ?_
    refine J.block ?_
    refine J.seq ?_
    refine J.region ?_
    refine JL.go trivial (RX.movev (v := Value.int _ _) rfl) ?_
    refine JL.go trivial (RX.indexAddr rfl rfl sl55 (by omega) (by omega) rfl) ?_
    refine JL.go trivial (RX.loadS H (SlAt.here (xs := (valsL s).map (Value.int .i64)) rfl) rfl (j := k) (by omega) (v := .int .i64 x) (by rw [List.getElem?_map, List.getElem?_eq_getElem (show k < (valsL s).length from hk6), ← hx]; simp [List.getD_eq_getElem?_getD, show k < (valsL s).length from hk6]) one3) ?_
    refine JL.go trivial (RX.assignv (v := Value.int _ _) rfl) ?_
    refine JL.go trivial (RX.assignv (v := Value.int _ _) rfl) ?_
    refine JL.nil ?_
    refine J.seq ?_
    refine J.region ?_
    refine JL.go trivial (RX.movev (v := Value.int _ _) rfl) ?_
    refine JL.go trivial (RX.ne rfl rfl) ?_
    refine JL.nil ?_
    refine J.cond_d rfl (fun hx0 => ?_) (fun hx0 => ?_)
    · skip
      refine J.held (fun w => Hp w0 w ([(vb, cel ((valsL s).map (Value.int .i64)) 3)] :: [(b1, cel s.v 26)] :: F)) hmix fun w hs => ?_
      replace H := H.same hs; clear hs
      have hS : Hp w0 w ([(vb, cel ((valsL s).map (Value.int .i64)) 3)] :: [(b1, cel s.v 26)] :: F) := by first | exact H | exact H.drop | exact H.drop.drop | exact H.drop.drop.drop | exact H.drop.drop.drop.drop | exact H.drop.drop.drop.drop.drop | exact H.drop.drop.drop.drop.drop.drop | exact H.drop.drop.drop.drop.drop.drop.drop | exact H.drop.drop.drop.drop.drop.drop.drop.drop
      refine JH.take 0 (listed' := [true, false, false, false, false, false, false, false, false, false, false]) rfl (by kernel_rfl) (by kernel_rfl) (by kernel_rfl) rfl trivial (fun w H => RX.movev (v := Value.string _) rfl) hS ?_
      refine JH.take 1 (listed' := [true, true, false, false, false, false, false, false, false, false, false]) rfl (by kernel_rfl) (by kernel_rfl) (by kernel_rfl) rfl trivial (fun w H => RX.movev (v := Value.int _ _) rfl) hS ?_
      refine JH.take 2 (listed' := [true, true, true, false, false, false, false, false, false, false, false]) rfl (by kernel_rfl) (by kernel_rfl) (by kernel_rfl) rfl trivial (fun w H => RX.movev (v := Value.int _ _) rfl) hS ?_
      refine JH.take 3 (listed' := [true, true, true, true, false, false, false, false, false, false, false]) rfl (by kernel_rfl) (by kernel_rfl) (by kernel_rfl) rfl trivial (fun w H => RX.add rfl rfl (w_i64 (r := ((k + 1 : Nat) : Int)) (by omega) (by omega) (by omega))) hS ?_
      refine JH.take 4 (listed' := [true, true, true, true, true, false, false, false, false, false, false]) rfl (by kernel_rfl) (by kernel_rfl) (by kernel_rfl) rfl trivial (fun w H => RX.slStr (a := letters) (r := [letters.getD k 0]) rfl rfl rfl ud9 (by omega) (by omega) (by simp [letters]; omega) (by rcases hk06 with rfl | rfl | rfl | rfl | rfl | rfl <;> rfl)) hS ?_
      refine JH.take 5 (listed' := [true, true, true, true, true, true, false, false, false, false, false]) rfl (by kernel_rfl) (by kernel_rfl) (by kernel_rfl) rfl trivial (fun w H => RX.strL (a := [32]) (b := [letters.getD k 0]) rfl rfl rfl (by simp)) hS ?_
      refine JH.take 6 (listed' := [true, true, true, true, true, true, true, false, false, false, false]) rfl (by kernel_rfl) (by kernel_rfl) (by kernel_rfl) rfl trivial (fun w H => RX.movev (v := Value.int _ _) rfl) hS ?_
      refine JH.all [7] (by kernel_rfl) (by decide) ?_
      refine JHO.does (listed' := [true, true, true, true, true, true, true, true, false, false, false]) rfl rfl trivial (EX.call rfl cl19 rfl ((rnum_b H hxo))) ?_
      rintro _ w ⟨rfl, H⟩
      have hS : Hp w0 w ([(vb, cel ((valsL s).map (Value.int .i64)) 3)] :: [(b1, cel s.v 26)] :: F) := by first | exact H | exact H.drop | exact H.drop.drop | exact H.drop.drop.drop | exact H.drop.drop.drop.drop | exact H.drop.drop.drop.drop.drop | exact H.drop.drop.drop.drop.drop.drop | exact H.drop.drop.drop.drop.drop.drop.drop | exact H.drop.drop.drop.drop.drop.drop.drop.drop
      refine ⟨hS, ?_⟩
      refine JH.take 8 (listed' := [true, true, true, true, true, true, true, true, true, false, false]) rfl (by kernel_rfl) (by kernel_rfl) (by kernel_rfl) rfl trivial (fun w H => RX.strL (a := [32, letters.getD k 0]) (b := Lib.itoa x) rfl rfl rfl (by have := itoa_len hxo; simp; omega)) hS ?_
      refine JH.take 9 (listed' := [true, true, true, true, true, true, true, true, true, true, false]) rfl (by kernel_rfl) (by kernel_rfl) (by kernel_rfl) rfl trivial (fun w H => RX.strL (a := partL s k) (b := 32 :: letters.getD k 0 :: Lib.itoa x) (r := partL s (k + 1)) rfl rfl (by rw [hps, pieceL, if_neg hx0]) (by have := part_len hs (k := k + 1) (by omega); omega)) hS ?_
      refine JH.take 10 (listed' := [true, true, true, true, true, true, true, true, true, true, true]) rfl (by kernel_rfl) (by kernel_rfl) (by kernel_rfl) rfl trivial (fun w H => RX.assignv (v := Value.string _) rfl) hS ?_
      refine JH.done (by kernel_rfl) ?_
      refine J.inBlock ?_
      refine J.region ?_
      refine JL.go trivial (RX.add rfl rfl (w_i64 (r := ((k + 1 : Nat) : Int)) (by omega) (by omega) (by omega))) ?_
      refine JL.go trivial (RX.movev (v := Value.int _ _) rfl) ?_
      refine JL.nil ?_
      exact IH (k + 1) _ _ (by omega) ⟨rfl, rfl, trivial⟩ ⟨rfl, rfl, trivial⟩ ⟨by omega, H⟩
    · skip
      have hsame : partL s k = partL s (k + 1) := by rw [hps, pieceL, if_pos (by omega), List.append_nil]
      refine J.skip ?_
      refine J.inBlock ?_
      refine J.region ?_
      refine JL.go trivial (RX.add rfl rfl (w_i64 (r := ((k + 1 : Nat) : Int)) (by omega) (by omega) (by omega))) ?_
      refine JL.go trivial (RX.movev (v := Value.int _ _) rfl) ?_
      refine JL.nil ?_
      exact IH (k + 1) _ _ (by omega) ⟨rfl, rfl, trivial⟩ (by rw [← hsame]; exact ⟨rfl, rfl, trivial⟩) ⟨by omega, H⟩
  · skip
    refine J.exit rfl ?_
    refine J.seq ?_
    refine J.region ?_
    refine JL.go trivial (RX.movev (v := Value.string _) rfl) ?_
    refine JL.go trivial (RX.assignv (v := Value.string _) rfl) ?_
    refine JL.nil ?_
    refine J.ret1 (v := Value.string _) Tryd.func21 rfl rfl ?_
    have e : k = 6 := by omega
    subst e
    exact ⟨_, rfl, rfl, H.drop.drop⟩
end Go.Proofs.YtgkmmbdlclecnaaDoor

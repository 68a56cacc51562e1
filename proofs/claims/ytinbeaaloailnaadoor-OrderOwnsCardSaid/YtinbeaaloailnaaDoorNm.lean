/- Numbers as texts: what the library does. -/
import Derived.Test.YtinbeaaloailnaaDoorLw
import Derived.Test.YtinbeaaloailnaaDoorShelf
import Derived.Lib.ItoaMem
import Derived.Lib.ItoaLen
namespace Go.Proofs.YtinbeaaloailnaaDoor
open Go Go.Eng
set_option maxRecDepth 100000
set_option linter.unusedVariables false
set_option linter.unusedSimpArgs false
theorem ar90 : arrayOf Tryd.prog 90 = some (24, 5, 1) := by kernel_rfl
theorem cl58 : callable Tryd.prog 58 = true := by kernel_rfl
theorem cl59 : callable Tryd.prog 59 = true := by kernel_rfl
theorem cl60 : callable Tryd.prog 60 = true := by kernel_rfl
theorem cl61 : callable Tryd.prog 61 = true := by kernel_rfl
theorem cl62 : callable Tryd.prog 62 = true := by kernel_rfl
theorem ki2 : kindOf Tryd.prog 2 = some .i64 := by kernel_rfl
theorem ki3 : kindOf Tryd.prog 3 = some .i64 := by kernel_rfl
theorem ki88 : kindOf Tryd.prog 88 = some .u64 := by kernel_rfl
theorem ud64 : Tryd.prog.underlying 64 = some (.slice 5) := by kernel_rfl
theorem ud9 : Tryd.prog.underlying 9 = some .string := by kernel_rfl

section
open Go.Sort
theorem elB : Elem Tryd.prog 64 5 1 1 := Elem.of (by kernel_rfl)
def GTab (F : List Seg) : Prop := ∃ T fz, (19, Obj.cells (Lib.pow10Tab.map fun z => Value.int .u64 z).toArray T fz) ∈ F.flatten
theorem GTab.cons {F : List Seg} {s : Seg} (h : GTab F) : GTab (s :: F) := by
  obtain ⟨T, fz, h⟩ := h
  exact ⟨T, fz, by simp only [List.flatten_cons, List.mem_append]; exact .inr h⟩
theorem GTab.is {w0 w : World} {F : List Seg} (H : Hp w0 w F) (h : GTab F) : Lib.TabIs Tryd.prog w "internal/strconv.uint64pow10" .u64 Lib.pow10Tab := by
  obtain ⟨T, fz, h⟩ := h
  have hb := H.mem _ h
  have hg : Program.globalNamed Tryd.prog "internal/strconv.uint64pow10" = some 19 := by kernel_rfl
  unfold Lib.TabIs World.var?
  rw [hg]
  simp only at hb
  simp [hb]
theorem hp_drew {w0 w : World} {L : List Seg} (H : Hp w0 w L) (n : Nat) : Hp w0 (w.drewN n) L := H.same ⟨rfl, rfl, rfl, rfl⟩
theorem small_b {w0 w : World} {L : List Seg} (H : Hp w0 w L) {u : Nat} (h : u < 100) : Ret Tryd.prog 60 [.int .i64 (u : Nat)] w fun v w' => v = .string ⟨(Lib.decDigits u).toArray⟩ ∧ Hp w0 w' L :=
  (Tryd.internal_strconv_small u h w).mono fun e w' h => by
    obtain ⟨rfl, rfl⟩ := h
    exact ⟨_, rfl, rfl, H⟩
theorem numDigits_b {w0 w : World} {L : List Seg} (H : Hp w0 w L) (ht : GTab L) {u : Nat} (h1 : 1 ≤ u) (h2 : u < 18446744073709551616) : Ret Tryd.prog 61 [.int .u64 (u : Nat)] w fun v w' => v = .int .i64 (Lib.nDigits u : Nat) ∧ Hp w0 w' L :=
  (Tryd.internal_strconv_numDigits u h1 h2 w (ht.is H)).mono fun e w' h => by
    obtain ⟨rfl, rfl⟩ := h
    exact ⟨_, rfl, rfl, H⟩
def bL (l : List UInt8) : List Value := l.map fun b => .int .u8 b.toNat
theorem bL_len (l : List UInt8) : (bL l).length = l.length := by simp [bL]
theorem bL_app (a b : List UInt8) : bL (a ++ b) = bL a ++ bL b := by simp [bL]
theorem bL_bytes (l : List UInt8) : byteCells ⟨l.toArray⟩ = bL l := by simp [byteCells, bL]
theorem bL_cell (l : List UInt8) : ∀ v ∈ bL l, isCell v = true := by
  intro v hv
  obtain ⟨b, _, rfl⟩ := List.mem_map.1 hv
  rfl
theorem src_str {w : World} (l : List UInt8) : Src Tryd.prog 1 9 (.string ⟨l.toArray⟩) l.length (bL l) w := by
  have h := Src.ofString (P := Tryd.prog) w (show Program.underlying Tryd.prog 9 = some .string by kernel_rfl) ⟨l.toArray⟩
  rw [bL_bytes] at h
  simpa [ByteArray.size] using h
def bz (n : Nat) : List Value := List.replicate n (.int .u8 0)
theorem putCells_bytes (d : Array UInt8) (l : List Value) (h : d.size ≤ l.length) : putCells (fun b : UInt8 => Value.int .u8 (b.toNat : Int)) 0 d l.toArray = (bL d.toList ++ l.drop d.size).toArray := by
  apply Array.ext_getElem?
  intro k
  simp only [putCells, Array.getElem?_mapIdx, List.getElem?_toArray, List.getElem?_append, bL_len, List.getElem?_drop, Array.length_toList]
  by_cases hk : k < d.size
  · rw [if_pos hk, List.getElem?_eq_getElem (show k < l.length by omega)]
    simp [hk, bL]
  · rw [if_neg hk, show d.size + (k - d.size) = k by omega]
    cases hl : l[k]? with
    | none => rfl
    | some x => simp [hk]
theorem fmt_b {w0 w : World} {F : List Seg} {b T u : Nat} (H : Hp w0 w ([(b, cel (bz 24) T)] :: F)) (h1 : 1 ≤ u) (h2 : u < 18446744073709551616) (hn : Lib.nDigits u ≤ 24) (hp : u < 10 ^ Lib.nDigits u) :
    Ret Tryd.prog 62 [.slice (some ⟨b, 0, none⟩) (Lib.nDigits u) 24, .int .u64 (u : Nat)] w fun v w' => v = .tuple #[] ∧ ∃ r, Hp w0 w' ([(b, cel (bL (Lib.decDigits u) ++ r) T)] :: F) := by
  have hb := H.get1 (i := 0) rfl
  have hH : Holds (fun (b : UInt8) => Value.int .u8 (b.toNat : Int)) w b 0 (Array.replicate (Lib.nDigits u) (0 : UInt8)) := by
    intro j hj
    have hj' : j < Lib.nDigits u := by simpa using hj
    constructor
    · have : (bz 24)[0 + j]? = some (.int .u8 0) := by unfold bz; rw [List.getElem?_replicate, if_pos (by omega)]
      simp only [World.cell?, hb, cel]
      simp only [Option.isSome_none, Bool.false_eq_true, if_false, List.getElem?_toArray, this]
      rw [getElem!_pos _ j hj]
      simp
    · simp [World.frozen?, hb, cel]
  have hc := Tryd.internal_strconv_formatBase10 b 0 24 u (Array.replicate (Lib.nDigits u) (0 : UInt8)) w hH (by simpa using hp) h2 (by simp; omega)
  simp only [Array.size_replicate] at hc
  refine hc.mono fun e w' h => ?_
  obtain ⟨rfl, n, v', dk, rfl, hf⟩ := h
  refine ⟨_, rfl, rfl, (bz 24).drop dk.size, ?_⟩
  have hsz : dk.size = Lib.nDigits u := hf.size
  have hdk : dk.toList = Lib.decDigits u := by
    apply List.ext_getElem
    · rw [Array.length_toList, hsz, Lib.decDigits_length]
    · intro j h1 h2
      rw [Lib.row_is_numeral hf j h2, getElem!_pos dk j (by simpa using h1)]
      simp
  refine hp_drew ?_ n
  have hnd := H.nd
  simp only [List.flatten_cons, List.map_append, List.map_cons, List.map_nil, List.singleton_append, List.nodup_cons] at hnd
  refine ⟨H.os, H.tape, H.output, by rw [size_putRow]; exact H.size, by simpa using H.nd, ?_⟩
  intro e' he'
  simp only [List.flatten_cons, List.singleton_append, List.mem_cons] at he'
  have hh : ∀ k, (putRow (fun b : UInt8 => Value.int .u8 (b.toNat : Int)) w b 0 dk).heap[k]? = if b = k then (w.heap[k]?).map (onCells (putCells (fun b : UInt8 => Value.int .u8 (b.toNat : Int)) 0 dk)) else w.heap[k]? := by
    intro k
    simp only [putRow, mapBlock, Array.getElem?_modify]
  rw [hh]
  rcases he' with rfl | he'
  · simp only [if_true, hb, Option.map_some, onCells, cel, putCells_bytes dk (bz 24) (by simp [bz]; omega), hdk]
  · rw [if_neg]
    · exact H.mem e' (by simp only [List.flatten_cons, List.mem_append]; exact .inr he')
    · intro hg
      exact hnd.1 (List.mem_map.2 ⟨e', he', hg.symm⟩)
end
section
variable {P : Program} {w w0 : World} {L : List Seg} {ρ : Operand → Value} {d : Option Tmp} {x y : Operand} {ty : TypeId} {pos : String} {af : Array Edge} {g : Option (Nat × Bool)}
theorem RX.sliceArr {t e n b sz r : Nat} {k : IntKind} {h : Int} (hx : ρ x = .pointer (some ⟨b, 0, none⟩)) (hy : ρ y = .int k h) (ht : arrayOf P t = some (n, e, sz)) (h0 : 0 ≤ h) (h1 : h ≤ n) (hr : h.toNat = r) :
    Runs P ρ ⟨d, .slice t x none (some y) none, ty, pos, af, g⟩ w (.slice (some ⟨b, 0, none⟩) r n) := by
  subst hr
  obtain ⟨hu, i, hi, hs⟩ := arrayOf_run ht
  unfold Runs
  have hsz : (sizeOf e).run P w = .ok sz w := szOf_run (by unfold szOf; rw [hi]; simp [hs])
  simp [execOp, hx, hy, Instr.sliceAt, run_underlying hu, Instr.sureAddr, Instr.sliceBounds, Instr.sliceBound, asIntOf, h0, h1, hsz]
  intro _
  rw [Addr.add_lit]
end

theorem appUint_b {w0 w : World} {F : List Seg} {s : Seg} {p : Option Addr} {n c : Nat} {xs : List Value} (H : Hp w0 w (s :: F)) (ho : OwnZ 5 p n c xs s) (ht : GTab F) {u : Nat} (hu : u < 18446744073709551616) (hb : n + 20 ≤ 140737488355328) : Ret Tryd.prog 59 [.slice p n c, .int .u64 (u : Nat), .int .i64 10] w fun v w' => ∃ p' c' s', v = .slice p' (n + (Lib.decDigits u).length) c' ∧ OwnZ 5 p' (n + (Lib.decDigits u).length) c' (xs ++ bL (Lib.decDigits u)) s' ∧ Hp w0 w' (s' :: F) := by
  refine Calls.of_J (n := 36) Tryd.func59 rfl rfl rfl ?_
  refine J.seq ?_
  refine J.region ?_
  refine JL.go trivial (RX.assign) ?_
  refine JL.nil ?_
  refine J.seq ?_
  refine J.seq ?_
  refine J.region ?_
  refine JL.go trivial (RX.movev (v := Value.int _ _) rfl) ?_
  refine JL.go trivial (RX.eq rfl rfl) ?_
  refine JL.nil ?_
  refine J.cond_t rfl (by decide) ?_
  refine J.seq ?_
  refine J.seq ?_
  refine J.region ?_
  refine JL.go trivial (RX.movev (v := Value.int _ _) rfl) ?_
  refine JL.go trivial (RX.lt rfl rfl) ?_
  refine JL.nil ?_
  refine J.cond_d rfl (fun hsm => ?_) (fun hsm => ?_)
  · skip
    refine J.seq ?_
    refine J.region ?_
    refine JL.go trivial (RX.movev (v := Value.slice _ _ _) rfl) ?_
    refine JL.go trivial (RX.movev (v := Value.int _ _) rfl) ?_
    refine JL.go trivial (RX.conv rfl (by rw [ki88]; rfl) ki3 (w_i64 (r := (u : Int)) (by omega) (by omega) (by omega))) ?_
    refine JL.does trivial (EX.call rfl cl60 rfl ((small_b H (by omega)))) ?_
    rintro _ w ⟨rfl, H⟩
    have hnd := Lib.decDigits_length u
    have hn20 := Lib.nDigits_le20 u hu
    refine JL.does trivial (EX.appendZ (m := (Lib.decDigits u).length) (ys := bL (Lib.decDigits u)) (L' := fun s' => s' :: F) H elB rfl rfl (yv := .string ⟨(Lib.decDigits u).toArray⟩) (src_str _) (i := 0) rfl ho (by omega) (fun _ => rfl)) ?_
    rintro _ w ⟨p', c', s', rfl, ho', H⟩
    refine JL.go trivial (RX.assignv (v := Value.slice _ _ _) rfl) ?_
    refine JL.nil ?_
    refine J.ret1 (v := Value.slice _ _ _) Tryd.func59 rfl rfl ?_
    exact ⟨_, rfl, p', c', s', rfl, ho', H⟩
  · skip
    refine J.skip ?_
    refine J.seq ?_
    refine J.region ?_
    refine JL.does trivial (EX.alloc H (v := .agg (bz 24).toArray) (l := bz 24) (by kernel_rfl) rfl) ?_
    rintro _ w ⟨b7, rfl, H⟩
    refine JL.nil ?_
    refine J.seq ?_
    refine J.region ?_
    refine JL.go trivial (RX.movev (v := Value.int _ _) rfl) ?_
    refine JL.does trivial (EX.call rfl cl61 rfl ((numDigits_b H ht.cons.cons (by omega) hu))) ?_
    rintro _ w ⟨rfl, H⟩
    refine JL.go trivial (RX.assignv (v := Value.int _ _) rfl) ?_
    refine JL.nil ?_
    have hnd := Lib.decDigits_length u
    have hn20 := Lib.nDigits_le20 u hu
    have hp10 : u < 10 ^ Lib.nDigits u := Lib.lt_pow_nDigits u
    refine J.seq ?_
    refine J.region ?_
    refine JL.go trivial (RX.movev (v := Value.int _ _) rfl) ?_
    refine JL.go trivial (RX.sliceArr rfl rfl ar90 (by omega) (by omega) (r := Lib.nDigits u) rfl) ?_
    refine JL.go trivial (RX.movev (v := Value.int _ _) rfl) ?_
    refine JL.does trivial (EX.call rfl cl62 rfl ((fmt_b H (by omega) hu (by omega) hp10))) ?_
    rintro _ w ⟨rfl, r, H⟩
    refine JL.nil ?_
    refine J.seq ?_
    refine J.region ?_
    refine JL.go trivial (RX.movev (v := Value.slice _ _ _) rfl) ?_
    refine JL.go trivial (RX.movev (v := Value.int _ _) rfl) ?_
    refine JL.go trivial (RX.sliceArr rfl rfl ar90 (by omega) (by omega) (r := Lib.nDigits u) rfl) ?_
    refine JL.does trivial (EX.appendZ (m := Lib.nDigits u) (ys := bL (Lib.decDigits u)) (L' := fun s' => [(b7, cel (bL (Lib.decDigits u) ++ r) 90)] :: s' :: F) H elB rfl rfl (src_slice (e' := 5) H (by kernel_rfl) (SlAt.here List.take_left) (by rw [bL_len, hnd]) (bL_cell _)) (i := 1) rfl ho (by omega) (fun _ => rfl)) ?_
    rintro _ w ⟨p', c', s', rfl, ho', H⟩
    replace H := H.drop
    refine JL.go trivial (RX.assignv (v := Value.slice _ _ _) rfl) ?_
    refine JL.nil ?_
    refine J.ret1 (v := Value.slice _ _ _) Tryd.func59 rfl rfl ?_
    exact ⟨_, rfl, p', c', s', by rw [hnd], by rw [hnd]; exact ho', H⟩
theorem appInt_i {w0 w : World} {F : List Seg} {s : Seg} {p : Option Addr} {n c : Nat} {xs : List Value} (H : Hp w0 w (s :: F)) (ho : OwnZ 5 p n c xs s) (ht : GTab F) {i : Int} (h0 : -9223372036854775808 ≤ i) (h1 : i ≤ 9223372036854775807) (hb : n + 21 ≤ 140737488355328) : Ret Tryd.prog 58 [.slice p n c, .int .i64 i, .int .i64 10] w fun v w' => ∃ p' c' s', v = .slice p' (n + (Lib.itoa i).length) c' ∧ OwnZ 5 p' (n + (Lib.itoa i).length) c' (xs ++ bL (Lib.itoa i)) s' ∧ Hp w0 w' (s' :: F) := by
  refine Calls.of_J (n := 21) Tryd.func58 rfl rfl rfl ?_
  refine J.seq ?_
  refine J.region ?_
  refine JL.go trivial (RX.assign) ?_
  refine JL.nil ?_
  refine J.seq ?_
  obtain ⟨m, hm, hm2⟩ : ∃ m : Nat, i % 18446744073709551616 = (m : Int) ∧ m < 18446744073709551616 := ⟨(i % 18446744073709551616).toNat, by omega, by omega⟩
  refine J.region ?_
  refine JL.go trivial (RX.movev (v := Value.int _ _) rfl) ?_
  refine JL.go trivial (RX.conv rfl (by rw [ki2]; rfl) ki88 (r := (m : Int)) (by rw [wrap_u64]; exact hm)) ?_
  refine JL.go trivial (RX.assignv (v := Value.int _ _) rfl) ?_
  refine JL.nil ?_
  refine J.seq ?_
  refine J.seq ?_
  refine J.region ?_
  refine JL.go trivial (RX.movev (v := Value.int _ _) rfl) ?_
  refine JL.go trivial (RX.lt rfl rfl) ?_
  refine JL.nil ?_
  refine J.cond_d rfl (fun hneg => ?_) (fun hneg => ?_)
  · skip
    have him : i = -((18446744073709551616 - m : Nat) : Int) := by omega
    refine J.seq ?_
    refine J.region ?_
    refine JL.go trivial (RX.movev (v := Value.slice _ _ _) rfl) ?_
    refine JL.does trivial (EX.buildSlice1 (v := Value.int _ _) H elB rfl rfl) ?_
    rintro _ w ⟨br, rfl, H⟩
    refine JL.does trivial (EX.appendZ (m := 1) (ys := [.int .u8 45]) (L' := fun s' => [(br, cel [.int .u8 45] 5)] :: s' :: F) H elB rfl rfl (src_slice (e' := 5) H (by kernel_rfl) (SlAt.here rfl) rfl (by simp [isCell])) (i := 1) rfl ho (by omega) (fun _ => rfl)) ?_
    rintro _ w ⟨p1, c1, s1, rfl, ho1, H⟩
    replace H := H.drop
    refine JL.go trivial (RX.assignv (v := Value.slice _ _ _) rfl) ?_
    refine JL.nil ?_
    refine J.region ?_
    refine JL.go trivial (RX.movev (v := Value.int _ _) rfl) ?_
    refine JL.go trivial (RX.neg rfl (r := ((18446744073709551616 - m : Nat) : Int)) (by rw [wrap_u64]; omega)) ?_
    refine JL.go trivial (RX.assignv (v := Value.int _ _) rfl) ?_
    refine JL.nil ?_
    refine J.seq ?_
    refine J.region ?_
    refine JL.go trivial (RX.movev (v := Value.slice _ _ _) rfl) ?_
    refine JL.go trivial (RX.movev (v := Value.int _ _) rfl) ?_
    refine JL.go trivial (RX.movev (v := Value.int _ _) rfl) ?_
    refine JL.does trivial (EX.call rfl cl59 rfl ((appUint_b H ho1 ht (u := 18446744073709551616 - m) (by omega) (by omega)))) ?_
    rintro _ w ⟨p2, c2, s2, rfl, ho2, H⟩
    refine JL.go trivial (RX.assignv (v := Value.slice _ _ _) rfl) ?_
    refine JL.nil ?_
    refine J.ret1 (v := Value.slice _ _ _) Tryd.func58 rfl rfl ?_
    have e : Lib.itoa i = 45 :: Lib.decDigits (18446744073709551616 - m) := by rw [him]; exact Lib.itoa_neg _ (by omega)
    have hl : n + 1 + (Lib.decDigits (18446744073709551616 - m)).length = n + (45 :: Lib.decDigits (18446744073709551616 - m)).length := by simp; omega
    have hx : xs ++ [Value.int .u8 45] ++ bL (Lib.decDigits (18446744073709551616 - m)) = xs ++ bL (45 :: Lib.decDigits (18446744073709551616 - m)) := by simp [bL]
    rw [hl, hx] at ho2
    rw [hl, e]
    exact ⟨_, rfl, p2, c2, s2, rfl, ho2, H⟩
  · skip
    have him : i = (m : Int) := by omega
    refine J.skip ?_
    refine J.seq ?_
    refine J.region ?_
    refine JL.go trivial (RX.movev (v := Value.slice _ _ _) rfl) ?_
    refine JL.go trivial (RX.movev (v := Value.int _ _) rfl) ?_
    refine JL.go trivial (RX.movev (v := Value.int _ _) rfl) ?_
    refine JL.does trivial (EX.call rfl cl59 rfl ((appUint_b H ho ht (u := m) (by omega) (by omega)))) ?_
    rintro _ w ⟨p2, c2, s2, rfl, ho2, H⟩
    refine JL.go trivial (RX.assignv (v := Value.slice _ _ _) rfl) ?_
    refine JL.nil ?_
    refine J.ret1 (v := Value.slice _ _ _) Tryd.func58 rfl rfl ?_
    have e : Lib.itoa i = Lib.decDigits m := by rw [him]; exact Lib.itoa_nonneg m
    rw [e]
    exact ⟨_, rfl, p2, c2, s2, rfl, ho2, H⟩
theorem appInt_b {w0 w : World} {F : List Seg} {s : Seg} {p : Option Addr} {n c : Nat} {xs : List Value} (H : Hp w0 w (s :: F)) (ho : OwnZ 5 p n c xs s) (ht : GTab F) {i : Int} (h0 : -9223372036854775808 ≤ i) (h1 : i ≤ 9223372036854775807) (hb : n + 21 ≤ 140737488355328) : Ret Tryd.prog 50 [.slice p n c, .int .i64 i, .int .i64 10] w fun v w' => ∃ p' c' s', v = .slice p' (n + (Lib.itoa i).length) c' ∧ OwnZ 5 p' (n + (Lib.itoa i).length) c' (xs ++ bL (Lib.itoa i)) s' ∧ Hp w0 w' (s' :: F) := by
  refine Calls.of_J (n := 11) Tryd.func50 rfl rfl rfl ?_
  refine J.seq ?_
  refine J.region ?_
  refine JL.go trivial (RX.assign) ?_
  refine JL.nil ?_
  refine J.seq ?_
  refine J.region ?_
  refine JL.go trivial (RX.movev (v := Value.slice _ _ _) rfl) ?_
  refine JL.go trivial (RX.movev (v := Value.int _ _) rfl) ?_
  refine JL.go trivial (RX.movev (v := Value.int _ _) rfl) ?_
  refine JL.does trivial (EX.call rfl cl58 rfl ((appInt_i H ho ht h0 h1 hb))) ?_
  rintro _ w ⟨p2, c2, s2, rfl, ho2, H⟩
  refine JL.go trivial (RX.assignv (v := Value.slice _ _ _) rfl) ?_
  refine JL.nil ?_
  refine J.ret1 (v := Value.slice _ _ _) Tryd.func50 rfl rfl ?_
  exact ⟨_, rfl, p2, c2, s2, rfl, ho2, H⟩
end Go.Proofs.YtinbeaaloailnaaDoor

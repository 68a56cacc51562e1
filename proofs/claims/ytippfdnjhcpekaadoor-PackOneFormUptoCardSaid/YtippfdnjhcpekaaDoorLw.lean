/- The laws of chapter 4: what they share. -/
import Derived.Test.YtippfdnjhcpekaaDoorRf
namespace Go.Proofs.YtippfdnjhcpekaaDoor
open Go Go.Eng
set_option maxRecDepth 100000
set_option linter.unusedVariables false
set_option linter.unusedSimpArgs false
def errG : List Nat := [0, 1, 2, 4, 0, 5, 6, 7, 8, 9, 10, 11, 12, 3, 13, 14, 15, 16, 17, 18]

structure Errs (F : List Seg) (E : Nat → Value) (Q : Nat → Addr) : Prop where
  at_ : ∀ i, 1 ≤ i → i ≤ 19 → GErr F ((errG[i]?).getD 0) (E i)
  er : ∀ i, 1 ≤ i → i ≤ 19 → ErrAt F 163 (E i) (Q i)
  inj : ∀ i j, 1 ≤ i → i ≤ 19 → 1 ≤ j → j ≤ 19 → Q i = Q j → i = j
theorem Errs.cons {F : List Seg} {s : Seg} {E : Nat → Value} {Q : Nat → Addr} (h : Errs F E Q) : Errs (s :: F) E Q :=
  ⟨fun i h0 h1 => (h.at_ i h0 h1).cons, fun i h0 h1 => (h.er i h0 h1).cons, h.inj⟩
structure E5 (F : List Seg) (E : Nat → Value) : Prop where
  g1 : GErr F 1 (E 1)
  g2 : GErr F 2 (E 2)
  g3 : GErr F 4 (E 3)
  g4 : GErr F 0 (E 4)
  g9 : GErr F 9 (E 9)
theorem E5.cons {F : List Seg} {s : Seg} {E : Nat → Value} (h : E5 F E) : E5 (s :: F) E := ⟨h.g1.cons, h.g2.cons, h.g3.cons, h.g4.cons, h.g9.cons⟩
theorem Errs.five {F : List Seg} {E : Nat → Value} {Q : Nat → Addr} (h : Errs F E Q) : E5 F E :=
  ⟨h.at_ 1 (by decide) (by decide), h.at_ 2 (by decide) (by decide), h.at_ 3 (by decide) (by decide), h.at_ 4 (by decide) (by decide), h.at_ 9 (by decide) (by decide)⟩
theorem isErr_cell {v : Value} (h : isErr v = true) : isCell v = true := by cases v <;> first | rfl | cases h

def errsV (E : Nat → Value) : List Value := [E 1, E 2, E 3, E 4, E 5, E 6, E 7, E 8, E 9, E 10, E 11, E 12, E 13, E 14, E 15, E 16, E 17, E 18, E 19]

theorem errsV_get {E : Nat → Value} {i : Nat} (h : i < 19) : (errsV E)[i]? = some (E (i + 1)) := by
  have : i = 0 ∨ i = 1 ∨ i = 2 ∨ i = 3 ∨ i = 4 ∨ i = 5 ∨ i = 6 ∨ i = 7 ∨ i = 8 ∨ i = 9 ∨ i = 10 ∨ i = 11 ∨ i = 12 ∨ i = 13 ∨ i = 14 ∨ i = 15 ∨ i = 16 ∨ i = 17 ∨ i = 18 := by omega
  rcases this with rfl | rfl | rfl | rfl | rfl | rfl | rfl | rfl | rfl | rfl | rfl | rfl | rfl | rfl | rfl | rfl | rfl | rfl | rfl <;> rfl
theorem errsV_cell {F : List Seg} {E : Nat → Value} {Q : Nat → Addr} (h : Errs F E Q) : ∀ v ∈ errsV E, isCell v = true := by
  intro v hv
  obtain ⟨i, hi⟩ := List.mem_iff_getElem?.1 hv
  have h19 : i < 19 := by have := (List.getElem?_eq_some_iff.1 hi).1; simpa [errsV] using this
  rw [errsV_get h19] at hi
  rw [← Option.some.inj hi]
  exact isErr_cell (h.at_ (i + 1) (by omega) (by omega)).ie
def errV (E : Nat → Value) (n : Nat) : Value := if n = 0 then .nilIface else E n
theorem errV_pos {E : Nat → Value} {n : Nat} (h : 0 < n) : errV E n = E n := if_neg (by omega)
theorem errV_ie {F : List Seg} {E : Nat → Value} {Q : Nat → Addr} (h : Errs F E Q) {n : Nat} (hn : n ≤ 19) : isErr (errV E n) = true ∧ isNil (errV E n) = decide (n = 0) := by
  by_cases h0 : n = 0
  · subst h0; exact ⟨rfl, rfl⟩
  · have := h.at_ n (by omega) hn
    rw [errV_pos (by omega), decide_eq_false h0]
    exact ⟨this.ie, this.nn⟩
theorem err9_ie {F : List Seg} {E : Nat → Value} (h : E5 F E) {n : Nat} (hn : n = 0 ∨ n = 9) : isErr (errV E n) = true ∧ isNil (errV E n) = decide (n = 0) := by
  rcases hn with rfl | rfl
  · exact ⟨rfl, rfl⟩
  · exact ⟨h.g9.ie, h.g9.nn⟩
theorem ptE : ptrTo Tryd.prog 163 = true := by kernel_rfl
theorem list_b {w0 w : World} {F : List Seg} {E : Nat → Value} {Q : Nat → Addr} (H : Hp w0 w F) (hE : Errs F E Q) : Ret Tryd.prog 69 [] w fun v w' => v = .agg (errsV E).toArray ∧ Hp w0 w' F := by
  refine Calls.of_J (n := 21) Tryd.func69 rfl rfl rfl ?_
  refine J.seq ?_
  refine J.region ?_
  refine JL.does trivial (EX.alloc H zr128 rfl) ?_
  rintro _ w ⟨b1, rfl, H⟩
  refine JL.nil ?_
  refine J.seq ?_
  refine J.region ?_
  refine JL.go trivial (RX.loadG H rfl (hE.at_ 1 (by decide) (by decide)).at_.cons one40) ?_
  refine JL.go trivial (RX.loadG H rfl (hE.at_ 2 (by decide) (by decide)).at_.cons one40) ?_
  refine JL.go trivial (RX.loadG H rfl (hE.at_ 3 (by decide) (by decide)).at_.cons one40) ?_
  refine JL.go trivial (RX.loadG H rfl (hE.at_ 4 (by decide) (by decide)).at_.cons one40) ?_
  refine JL.go trivial (RX.loadG H rfl (hE.at_ 5 (by decide) (by decide)).at_.cons one40) ?_
  refine JL.go trivial (RX.loadG H rfl (hE.at_ 6 (by decide) (by decide)).at_.cons one40) ?_
  refine JL.go trivial (RX.loadG H rfl (hE.at_ 7 (by decide) (by decide)).at_.cons one40) ?_
  refine JL.go trivial (RX.loadG H rfl (hE.at_ 8 (by decide) (by decide)).at_.cons one40) ?_
  refine JL.go trivial (RX.loadG H rfl (hE.at_ 9 (by decide) (by decide)).at_.cons one40) ?_
  refine JL.go trivial (RX.loadG H rfl (hE.at_ 10 (by decide) (by decide)).at_.cons one40) ?_
  refine JL.go trivial (RX.loadG H rfl (hE.at_ 11 (by decide) (by decide)).at_.cons one40) ?_
  refine JL.go trivial (RX.loadG H rfl (hE.at_ 12 (by decide) (by decide)).at_.cons one40) ?_
  refine JL.go trivial (RX.loadG H rfl (hE.at_ 13 (by decide) (by decide)).at_.cons one40) ?_
  refine JL.go trivial (RX.loadG H rfl (hE.at_ 14 (by decide) (by decide)).at_.cons one40) ?_
  refine JL.go trivial (RX.loadG H rfl (hE.at_ 15 (by decide) (by decide)).at_.cons one40) ?_
  refine JL.go trivial (RX.loadG H rfl (hE.at_ 16 (by decide) (by decide)).at_.cons one40) ?_
  refine JL.go trivial (RX.loadG H rfl (hE.at_ 17 (by decide) (by decide)).at_.cons one40) ?_
  refine JL.go trivial (RX.loadG H rfl (hE.at_ 18 (by decide) (by decide)).at_.cons one40) ?_
  refine JL.go trivial (RX.loadG H rfl (hE.at_ 19 (by decide) (by decide)).at_.cons one40) ?_
  refine JL.go trivial (RX.build (pv := [(0, E 1), (1, E 2), (2, E 3), (3, E 4), (4, E 5), (5, E 6), (6, E 7), (7, E 8), (8, E 9), (9, E 10), (10, E 11), (11, E 12), (12, E 13), (13, E 14), (14, E 15), (15, E 16), (16, E 17), (17, E 18), (18, E 19)]) (res := errsV E) rfl (by simp only [errsV, (hE.er 1 (by decide) (by decide)).1, (hE.er 2 (by decide) (by decide)).1, (hE.er 3 (by decide) (by decide)).1, (hE.er 4 (by decide) (by decide)).1, (hE.er 5 (by decide) (by decide)).1, (hE.er 6 (by decide) (by decide)).1, (hE.er 7 (by decide) (by decide)).1, (hE.er 8 (by decide) (by decide)).1, (hE.er 9 (by decide) (by decide)).1, (hE.er 10 (by decide) (by decide)).1, (hE.er 11 (by decide) (by decide)).1, (hE.er 12 (by decide) (by decide)).1, (hE.er 13 (by decide) (by decide)).1, (hE.er 14 (by decide) (by decide)).1, (hE.er 15 (by decide) (by decide)).1, (hE.er 16 (by decide) (by decide)).1, (hE.er 17 (by decide) (by decide)).1, (hE.er 18 (by decide) (by decide)).1, (hE.er 19 (by decide) (by decide)).1]; kernel_rfl)) ?_
  refine JL.does trivial (EX.storeAgg H rfl rfl (i := 0) (vs := errsV E) (l' := errsV E) rfl (errsV_cell hE) (by simp [errsV]) sz128 (setN_full (by simp [errsV])) rfl) ?_
  rintro _ w H
  refine JL.nil ?_
  refine J.retc Tryd.func69 rfl H rfl (i := 0) (vs := errsV E) rfl rfl ag128 ?_
  exact ⟨_, rfl, rfl, H.drop⟩
theorem Num_b {w0 w : World} {F : List Seg} {E : Nat → Value} {Q : Nat → Addr} (H : Hp w0 w F) (hE : Errs F E Q) {n : Nat} (hn : n ≤ 19) : Ret Tryd.prog 21 [errV E n] w fun v w' => v = .int .i64 (n : Nat) ∧ Hp w0 w' F := by
  refine Calls.of_J (n := 18) Tryd.func21 rfl rfl rfl ?_
  refine J.seq ?_
  refine J.region ?_
  refine JL.go trivial (RX.assign) ?_
  refine JL.nil ?_
  refine J.seq ?_
  refine J.seq ?_
  obtain ⟨hie, hnn⟩ := errV_ie hE hn
  refine J.region ?_
  refine JL.go trivial (RX.move) ?_
  refine JL.go trivial (RX.ifnil_eql (v := errV E n) rfl rfl hie if40) ?_
  refine JL.nil ?_
  refine J.cond rfl (fun h0 => ?_) (fun h0 => ?_)
  · skip
    rw [hnn] at h0
    have hz := of_decide_eq_true h0
    refine J.seq ?_
    refine J.region ?_
    refine JL.go trivial (RX.assign) ?_
    refine JL.nil ?_
    refine J.ret1 (v := Value.int _ _) Tryd.func21 rfl rfl ?_
    subst hz
    exact ⟨_, rfl, rfl, H⟩
  · skip
    rw [hnn] at h0
    have hz := of_decide_eq_false h0
    have hev : errV E n = E n := errV_pos (by omega)
    have her := hE.er n (by omega) hn
    refine J.skip ?_
    refine J.seq ?_
    refine J.seq ?_
    refine J.region ?_
    refine JL.does trivial (EX.call rfl cl69 rfl ((list_b H hE))) ?_
    rintro _ w ⟨rfl, H⟩
    refine JL.go trivial (RX.move) ?_
    refine JL.nil ?_
    refine J.block ?_
    refine J.loop (ι := Nat) (S := fun k => [(8, .int .i64 (k : Nat))]) (Φ := fun k w => k < n ∧ Hp w0 w F) (μ := fun k => n - k) (C := [(0, _), (7, _)]) 0 ⟨rfl, rfl, trivial⟩ ⟨rfl, trivial⟩ ?_ ?_
    · exact ⟨by omega, H⟩
    clear H
    rintro k ρ w ⟨hk, H⟩ IH
    refine J.seq ?_
    refine J.region ?_
    refine JL.go trivial (RX.lt rfl rfl) ?_
    refine JL.nil ?_
    refine J.seq ?_
    refine J.cond_d rfl (fun h9 => ?_) (fun h9 => ?_)
    · skip
      refine J.skip ?_
      refine J.seq ?_
      refine J.block ?_
      refine J.seq ?_
      refine J.region ?_
      refine JL.go trivial (RX.movev (v := Value.int _ _) rfl) ?_
      refine JL.go trivial (RX.index (vs := errsV E) rfl rfl ar128 one40 (by omega) (by omega) (errsV_get (by omega))) ?_
      refine JL.go trivial (RX.assignv (v := Value.int _ _) rfl) ?_
      refine JL.go trivial (RX.assign) ?_
      refine JL.nil ?_
      refine J.seq ?_
      refine J.region ?_
      refine JL.go trivial (RX.move) ?_
      refine JL.go trivial (RX.move) ?_
      refine JL.go trivial (RX.err_eql (u := errV E n) (v := E (k + 1)) H rfl rfl (by rw [hev]; exact her) (hE.er (k + 1) (by omega) (by omega)) if40 ptE) ?_
      refine JL.nil ?_
      refine J.cond_d rfl (fun heq => ?_) (fun heq => ?_)
      · skip
        have hkn := hE.inj _ _ (by omega) (by omega) (by omega) (by omega) heq
        refine J.seq ?_
        refine J.region ?_
        refine JL.go trivial (RX.movev (v := Value.int _ _) rfl) ?_
        refine JL.go trivial (RX.add rfl rfl (w_i64 rfl (by omega) (by omega))) ?_
        refine JL.go trivial (RX.assignv (v := Value.int _ _) rfl) ?_
        refine JL.nil ?_
        refine J.ret1 (v := Value.int _ _) Tryd.func21 rfl rfl ?_
        exact ⟨_, rfl, by rw [show ((n : Nat) : Int) = (k : Int) + 1 by omega], H⟩
      · skip
        refine J.skip ?_
        refine J.inBlock ?_
        refine J.region ?_
        refine JL.go trivial (RX.add rfl rfl (w_i64 rfl (by omega) (by omega))) ?_
        refine JL.go trivial (RX.movev (v := Value.int _ _) rfl) ?_
        refine JL.nil ?_
        have hkn : n ≠ k + 1 := fun h => heq (by rw [h])
        exact IH (k + 1) _ _ (by omega) ⟨rfl, rfl, trivial⟩ ⟨rfl, trivial⟩ ⟨by omega, H⟩
    · skip
      exfalso
      omega

def pairs : List Nat → List (Nat × Nat)
  | a :: b :: l => (a, b) :: pairs l
  | _ => []
theorem pairs_len : ∀ l : List Nat, (pairs l).length = l.length / 2
  | [] => rfl
  | [_] => by simp [pairs]
  | a :: b :: l => by simp only [pairs, List.length_cons, pairs_len l]; omega
theorem pairs_get : ∀ (l : List Nat) (k a b : Nat), l[2 * k]? = some a → l[2 * k + 1]? = some b → (pairs l)[k]? = some (a, b)
  | [], k, a, b, h, _ => by simp at h
  | [x], k, a, b, _, h => by simp at h
  | x :: y :: l, 0, a, b, h, h2 => by
    have h : x = a := by simpa using h
    have h2 : y = b := by simpa using h2
    subst h h2; rfl
  | x :: y :: l, k + 1, a, b, h, h2 => by
    rw [show 2 * (k + 1) = 2 * k + 1 + 1 by omega] at h
    rw [show 2 * (k + 1) + 1 = 2 * k + 1 + 1 + 1 by omega] at h2
    simp only [List.getElem?_cons_succ] at h h2
    simpa [pairs] using pairs_get l k a b h h2
theorem pairs_mem : ∀ (l : List Nat) (q : Nat × Nat), q ∈ pairs l → q.1 ∈ l ∧ q.2 ∈ l
  | [], q, h => by simp [pairs] at h
  | [_], q, h => by simp [pairs] at h
  | a :: b :: l, q, h => by
    simp only [pairs, List.mem_cons] at h
    rcases h with rfl | h
    · simp
    · have := pairs_mem l q h; simp [this.1, this.2]
/-- A Value of the script: its fields, and where its list lies. -/
structure Va where
  kind : Int
  u : Nat
  v : Nat
  s : ByteArray
  list : List Nat
  n : Int
  lp : Option Addr
  lc : Nat
def Va.cells (x : Va) : List Value := [.int .i64 x.kind, .int .u64 x.u, .int .u64 x.v, .string x.s, .slice x.lp x.list.length x.lc, .int .i64 x.n]
structure Va.Ok (F : List Seg) (x : Va) : Prop where
  ku : u64ok x.u
  kv : u64ok x.v
  ks : x.s.size ≤ 1048576
  kl : x.list.length ≤ 1048576
  kb : ∀ b ∈ x.list, u64ok b
  at_ : SlAt F x.lp (uVs x.list)
  n0 : -9223372036854775808 ≤ x.n
  n1 : x.n ≤ 9223372036854775807
theorem Va.Ok.cons {F : List Seg} {s : Seg} {x : Va} (h : x.Ok F) : x.Ok (s :: F) := ⟨h.ku, h.kv, h.ks, h.kl, h.kb, h.at_.cons, h.n0, h.n1⟩
theorem Va.cell (x : Va) : ∀ v ∈ x.cells, isCell v = true := by
  intro v hv
  simp [Va.cells] at hv
  rcases hv with rfl | rfl | rfl | rfl | rfl | rfl <;> rfl
def toI (u : Nat) : Int := if u < 9223372036854775808 then u else (u : Int) - 18446744073709551616
theorem toI_run {u : Nat} (h : u64ok u) : IntKind.i64.wrap (u : Int) = toI u := by
  unfold u64ok at h
  unfold toI
  simp only [IntKind.wrap, IntKind.bits, IntKind.signed]; simp; split <;> omega
theorem toI_in {u : Nat} (h : u64ok u) : -9223372036854775808 ≤ toI u ∧ toI u ≤ 9223372036854775807 := by
  unfold u64ok at h
  unfold toI; split <;> omega
def lo32 (u : Nat) : Nat := u % 4294967296
theorem lo32_run {u : Nat} : IntKind.u32.wrap (u : Int) = (lo32 u : Int) := by
  unfold lo32
  simp only [IntKind.wrap, IntKind.bits, IntKind.signed]; simp
theorem lo32_ok (u : Nat) : u32ok (lo32 u) := by unfold u32ok lo32; omega
/-- The form of a value. -/
def vform (x : Va) : List UInt8 :=
  if x.kind = 0 ∨ x.kind = 8 then varint x.u else if x.kind = 1 then varint (zig (toI x.u)) else if x.kind = 2 then fB x.u else if x.kind = 3 then cB (x.u, x.v)
  else if x.kind = 4 then nB (lo32 x.u, lo32 x.v) else if x.kind = 5 then tB x.s else if x.kind = 6 then clB (pairs x.list) else if x.kind = 7 then flB x.list else []
theorem vform_len {F : List Seg} {x : Va} (h : x.Ok F) : (vform x).length ≤ 20 * (1 + x.s.size + x.list.length) := by
  have hv : ∀ n, u64ok n → (varint n).length ≤ 10 := fun n hn => varint_len10 hn
  have h1 := hv x.u h.ku
  have h2 := hv (zig (toI x.u)) (zig_le (toI_in h.ku).1 (toI_in h.ku).2)
  have h3 := hv x.s.size (by have := h.ks; unfold u64ok; omega)
  have h4 := hv (pairs x.list).length (by have := h.kl; rw [pairs_len]; unfold u64ok; omega)
  have h5 := hv x.list.length (by have := h.kl; unfold u64ok; omega)
  unfold vform
  split
  · omega
  · split
    · omega
    · split
      · rw [fB_len]; omega
      · split
        · rw [cB_len]; omega
        · split
          · rw [nB_len]; omega
          · split
            · rw [tB, List.length_append, dlen]; omega
            · split
              · rw [clB, List.length_append, flat_len8 _ 16 cB_len, pairs_len]; rw [pairs_len] at h4; omega
              · split
                · rw [flB, List.length_append, flat_len8 _ 8 fB_len]; omega
                · simp
theorem cVs_len (l : List (Nat × Nat)) : (cVs l).length = l.length := by simp [cVs]
theorem fVs_len (l : List Nat) : (fVs l).length = l.length := by simp [fVs]
theorem uVs_len (l : List Nat) : (uVs l).length = l.length := by simp [uVs]
theorem cVs_cell (l : List (Nat × Nat)) : ∀ v ∈ cVs l, isCell v = true := by
  intro v hv; obtain ⟨b, _, rfl⟩ := List.mem_map.1 hv; rfl
theorem fVs_cell (l : List Nat) : ∀ v ∈ fVs l, isCell v = true := by
  intro v hv; obtain ⟨b, _, rfl⟩ := List.mem_map.1 hv; rfl
theorem cVs_snoc (l : List (Nat × Nat)) (i : Nat) (q : Nat × Nat) (h : l[i]? = some q) : cVs (l.take (i + 1)) = cVs (l.take i) ++ [cV q] := by
  obtain ⟨hi, rfl⟩ := List.getElem?_eq_some_iff.1 h
  rw [cVs, cVs, List.take_succ_eq_append_getElem hi, List.map_append]; rfl
theorem fVs_snoc (l : List Nat) (i : Nat) (q : Nat) (h : l[i]? = some q) : fVs (l.take (i + 1)) = fVs (l.take i) ++ [fV q] := by
  obtain ⟨hi, rfl⟩ := List.getElem?_eq_some_iff.1 h
  rw [fVs, fVs, List.take_succ_eq_append_getElem hi, List.map_append]; rfl
theorem vf0 {x : Va} (h : x.kind = 0 ∨ x.kind = 8) : vform x = varint x.u := by rw [vform, if_pos h]
theorem vf1 {x : Va} (h : x.kind = 1) : vform x = varint (zig (toI x.u)) := by rw [vform, if_neg (by omega), if_pos h]
theorem vf2 {x : Va} (h : x.kind = 2) : vform x = fB x.u := by rw [vform, if_neg (by omega), if_neg (by omega), if_pos h]
theorem vf3 {x : Va} (h : x.kind = 3) : vform x = cB (x.u, x.v) := by rw [vform, if_neg (by omega), if_neg (by omega), if_neg (by omega), if_pos h]
theorem vf4 {x : Va} (h : x.kind = 4) : vform x = nB (lo32 x.u, lo32 x.v) := by rw [vform, if_neg (by omega), if_neg (by omega), if_neg (by omega), if_neg (by omega), if_pos h]
theorem vf5 {x : Va} (h : x.kind = 5) : vform x = tB x.s := by rw [vform, if_neg (by omega), if_neg (by omega), if_neg (by omega), if_neg (by omega), if_neg (by omega), if_pos h]
theorem vf6 {x : Va} (h : x.kind = 6) : vform x = clB (pairs x.list) := by rw [vform, if_neg (by omega), if_neg (by omega), if_neg (by omega), if_neg (by omega), if_neg (by omega), if_neg (by omega), if_pos h]
theorem vf7 {x : Va} (h : x.kind = 7) : vform x = flB x.list := by rw [vform, if_neg (by omega), if_neg (by omega), if_neg (by omega), if_neg (by omega), if_neg (by omega), if_neg (by omega), if_neg (by omega), if_pos h]
theorem vf9 {x : Va} (h0 : ¬ x.kind = 0) (h8 : ¬ x.kind = 8) (h1 : ¬ x.kind = 1) (h2 : ¬ x.kind = 2) (h3 : ¬ x.kind = 3) (h4 : ¬ x.kind = 4) (h5 : ¬ x.kind = 5) (h6 : ¬ x.kind = 6) (h7 : ¬ x.kind = 7) : vform x = [] := by
  rw [vform, if_neg (by omega), if_neg h1, if_neg h2, if_neg h3, if_neg h4, if_neg h5, if_neg h6, if_neg h7]

theorem elC : Elem Tryd.prog 36 38 1 16 := Elem.of (by kernel_rfl)
theorem elF : Elem Tryd.prog 75 61 1 8 := Elem.of (by kernel_rfl)
theorem of_b {w0 w : World} {F : List Seg} (H : Hp w0 w F) {x : Nat} : Ret Tryd.prog 43 [.int .u64 x] w fun v w' => v = .float .f64 x ∧ Hp w0 w' F := by
  refine Calls.of_J (n := 5) Tryd.func43 rfl rfl rfl ?_
  refine J.seq ?_
  refine J.region ?_
  refine JL.go trivial (RX.assign) ?_
  refine JL.nil ?_
  refine J.seq ?_
  refine J.region ?_
  refine JL.go trivial (RX.movev (v := Value.int _ _) rfl) ?_
  refine JL.go trivial (RX.ext ext73 rfl rfl (v := Value.float _ _) rfl) ?_
  refine JL.go trivial (RX.assignv (v := Value.float _ _) rfl) ?_
  refine JL.nil ?_
  refine J.ret1 (v := Value.float _ _) Tryd.func43 rfl rfl ?_
  exact ⟨_, rfl, rfl, H⟩
theorem complexOf_b {w0 w : World} {F : List Seg} (H : Hp w0 w F) {x : Va} : Ret Tryd.prog 45 [.agg x.cells.toArray] w fun v w' => v = cV (x.u, x.v) ∧ Hp w0 w' F := by
  refine Calls.of_J (n := 10) Tryd.func45 rfl rfl rfl ?_
  refine J.seq ?_
  refine J.region ?_
  refine JL.does trivial (EX.box (v := Value.agg _) H rfl rfl) ?_
  rintro _ w ⟨b1, rfl, H⟩
  refine JL.go trivial (RX.assign) ?_
  refine JL.nil ?_
  refine J.seq ?_
  refine J.quietH H hmix (by kernel_rfl) ?_
  refine JQ.go trivial (fun w H => RX.fieldAddr rfl fo30_1 rfl) ?_
  refine JQ.go trivial (fun w H => by first | exact RX.load H rfl (i := 0) rfl rfl one27) ?_
  refine JQ.call trivial (fun w H => run_callq rfl cl43 rfl) (fun w H => (of_b H)) ?_
  refine JQ.go trivial (fun w H => RX.fieldAddr rfl fo30_2 rfl) ?_
  refine JQ.go trivial (fun w H => by first | exact RX.load H rfl (i := 0) rfl rfl one27) ?_
  refine JQ.call trivial (fun w H => run_callq rfl cl43 rfl) (fun w H => (of_b H)) ?_
  refine JQ.go trivial (fun w H => RX.complex rfl rfl) ?_
  refine JQ.go trivial (fun w H => RX.assignv (v := Value.complex _ _ _) rfl) ?_
  refine JQ.nil fun w H => ?_
  refine J.ret1 (v := Value.complex _ _ _) Tryd.func45 rfl rfl ?_
  exact ⟨_, rfl, rfl, H.drop⟩
theorem narrowOf_b {w0 w : World} {F : List Seg} (H : Hp w0 w F) {x : Va} : Ret Tryd.prog 47 [.agg x.cells.toArray] w fun v w' => v = nV (lo32 x.u, lo32 x.v) ∧ Hp w0 w' F := by
  refine Calls.of_J (n := 12) Tryd.func47 rfl rfl rfl ?_
  refine J.seq ?_
  refine J.region ?_
  refine JL.does trivial (EX.box (v := Value.agg _) H rfl rfl) ?_
  rintro _ w ⟨b1, rfl, H⟩
  refine JL.go trivial (RX.assign) ?_
  refine JL.nil ?_
  refine J.seq ?_
  refine J.quietH H hmix (by kernel_rfl) ?_
  refine JQ.go trivial (fun w H => RX.fieldAddr rfl fo30_1 rfl) ?_
  refine JQ.go trivial (fun w H => by first | exact RX.load H rfl (i := 0) rfl rfl one27) ?_
  refine JQ.go trivial (fun w H => RX.conv rfl (by rw [ki27]; rfl) ki140 lo32_run) ?_
  refine JQ.go trivial (fun w H => RX.ext ext88 rfl rfl (v := Value.float _ _) rfl) ?_
  refine JQ.go trivial (fun w H => RX.fieldAddr rfl fo30_2 rfl) ?_
  refine JQ.go trivial (fun w H => by first | exact RX.load H rfl (i := 0) rfl rfl one27) ?_
  refine JQ.go trivial (fun w H => RX.conv rfl (by rw [ki27]; rfl) ki140 lo32_run) ?_
  refine JQ.go trivial (fun w H => RX.ext ext88 rfl rfl (v := Value.float _ _) rfl) ?_
  refine JQ.go trivial (fun w H => RX.complex rfl rfl) ?_
  refine JQ.go trivial (fun w H => RX.assignv (v := Value.complex _ _ _) rfl) ?_
  refine JQ.nil fun w H => ?_
  refine J.ret1 (v := Value.complex _ _ _) Tryd.func47 rfl rfl ?_
  exact ⟨_, rfl, rfl, H.drop⟩
theorem listOf_b {w0 w : World} {F : List Seg} (H : Hp w0 w F) {x : Va} (hx : x.Ok F) : Ret Tryd.prog 13 [.agg x.cells.toArray] w fun v w' => ∃ p c s, v = .slice p (pairs x.list).length c ∧ OwnSl 38 1 p (pairs x.list).length c (cVs (pairs x.list)) s ∧ Hp w0 w' (s :: F) := by
  refine Calls.of_J (n := 32) Tryd.func13 rfl rfl rfl ?_
  refine J.seq ?_
  refine J.region ?_
  refine JL.does trivial (EX.box (v := Value.agg _) H rfl rfl) ?_
  rintro _ w ⟨b1, rfl, H⟩
  refine JL.go trivial (RX.assign) ?_
  refine JL.nil ?_
  refine J.seq ?_
  have hpl := pairs_len x.list
  have hkl := hx.kl
  refine J.region ?_
  refine JL.does trivial (EX.buildSlice0 H elC) ?_
  rintro _ w ⟨b0, rfl, H⟩
  refine JL.go trivial (RX.assignv (v := Value.slice _ _ _) rfl) ?_
  refine JL.nil ?_
  refine J.seq ?_
  refine J.seq ?_
  refine J.region ?_
  refine JL.go trivial (RX.assign) ?_
  refine JL.nil ?_
  refine J.block ?_
  refine J.loop (ι := Nat × Option Addr × Nat × Seg) (S := fun q => [(4, .int .i64 ((2 * q.1 : Nat) : Int)), (3, .slice q.2.1 q.1 q.2.2.1)]) (Φ := fun q w => q.1 ≤ (pairs x.list).length ∧ OwnSl 38 1 q.2.1 q.1 q.2.2.1 (cVs ((pairs x.list).take q.1)) q.2.2.2 ∧ Hp w0 w (q.2.2.2 :: [(b1, cel x.cells 30)] :: F)) (μ := fun q => (pairs x.list).length - q.1) (C := [(1, _)]) (0, some ⟨b0, 0, none⟩, 0, [(b0, cel [] 38)]) ⟨rfl, trivial⟩ ⟨rfl, rfl, trivial⟩ ?_ ?_
  · exact ⟨by omega, OwnSl.empty, H⟩
  clear H
  rintro ⟨i, p, c, s⟩ ρ w ⟨hi, ho, H⟩ IH
  simp only at hi ho H
  dsimp only
  refine J.seq ?_
  refine J.seq ?_
  refine J.region ?_
  refine JL.go trivial (RX.movev (v := Value.int _ _) rfl) ?_
  refine JL.go trivial (RX.add rfl rfl (w_i64 rfl (by omega) (by omega))) ?_
  refine JL.go trivial (RX.fieldAddr rfl fo30_4 rfl) ?_
  refine JL.go trivial (by first | exact RX.load H rfl (i := 0) rfl rfl one28 | exact RX.load H rfl (i := 1) rfl rfl one28) ?_
  refine JL.go trivial (RX.len_slice rfl (by rw [sl28]; rfl) rfl) ?_
  refine JL.go trivial (RX.lt rfl rfl) ?_
  refine JL.nil ?_
  refine J.cond_d rfl (fun hlt => ?_) (fun hlt => ?_)
  · skip
    obtain ⟨a, ha⟩ : ∃ a, x.list[2 * i]? = some a := ⟨_, List.getElem?_eq_getElem (by omega)⟩
    obtain ⟨b, hb⟩ : ∃ b, x.list[2 * i + 1]? = some b := ⟨_, List.getElem?_eq_getElem (by omega)⟩
    have hq := pairs_get _ _ _ _ ha hb
    have hat := hx.at_
    obtain ⟨pb, po, hpe, _⟩ := hat.some (by rw [uVs_len]; omega)
    refine J.skip ?_
    refine J.seq ?_
    refine J.block ?_
    refine J.any hmix fun w hs => ?_
    replace H := H.same hs; clear hs
    refine JA.take 0 (listed' := [true, false, false, false, false, false, false, false, false, false, false, false, false, false, false, false, false, false]) rfl (by kernel_rfl) (by kernel_rfl) (by kernel_rfl) rfl trivial (fun w => RX.movev (v := Value.slice _ _ _) rfl) ?_
    refine JA.stage (listed := [true, false, false, false, false, false, false, false, false, false, false, false, false, false, false, false, false, false]) 15 [1, 2, 3, 4, 5, 6, 7, 8, 9, 10, 11, 12, 13, 14] H (by kernel_rfl) rfl rfl ?_
    refine JI.go rfl trivial (fun w H => RX.fieldAddr rfl fo30_4 rfl) ?_
    refine JI.go rfl trivial (fun w H => RX.load H rfl (i := 1) rfl (v := Value.slice (some ⟨pb, po, none⟩) x.list.length x.lc) (by rw [← hpe]; rfl) one28) ?_
    refine JI.go rfl trivial (fun w H => RX.movev (v := Value.int _ _) rfl) ?_
    refine JI.go rfl trivial (fun w H => RX.indexAddr rfl rfl sl28 (by omega) (by omega) rfl) ?_
    refine JI.go rfl trivial (fun w H => RX.loadS H (by rw [← hpe]; exact hat.cons.cons) rfl (j := 2 * i) (by omega) (v := uV a) (by simp [uVs, ha]) one27) ?_
    refine JI.call rfl trivial (fun w H => run_callq rfl cl43 rfl) (fun w H => (of_b H)) ?_
    refine JI.go rfl trivial (fun w H => RX.fieldAddr rfl fo30_4 rfl) ?_
    refine JI.go rfl trivial (fun w H => RX.load H rfl (i := 1) rfl (v := Value.slice (some ⟨pb, po, none⟩) x.list.length x.lc) (by rw [← hpe]; rfl) one28) ?_
    refine JI.go rfl trivial (fun w H => RX.movev (v := Value.int _ _) rfl) ?_
    refine JI.go rfl trivial (fun w H => RX.add rfl rfl (w_i64 rfl (by omega) (by omega))) ?_
    refine JI.go rfl trivial (fun w H => RX.indexAddr rfl rfl sl28 (by omega) (by omega) rfl) ?_
    refine JI.go rfl trivial (fun w H => RX.loadS H (by rw [← hpe]; exact hat.cons.cons) rfl (j := 2 * i + 1) (by omega) (v := uV b) (by simp [uVs, hb]) one27) ?_
    refine JI.call rfl trivial (fun w H => run_callq rfl cl43 rfl) (fun w H => (of_b H)) ?_
    refine JI.go rfl trivial (fun w H => RX.complex rfl rfl) ?_
    refine JI.nil fun w H => ?_
    refine JL.does trivial (EX.buildSlice1 H elC rfl rfl) ?_
    rintro _ w ⟨b2, rfl, H⟩
    refine JL.does trivial (EX.append (ys := [cV (a, b)]) (L' := fun s' => [(b2, cel [cV (a, b)] 38)] :: s' :: [(b1, cel x.cells 30)] :: F) H elC rfl rfl (i := 1) rfl ho (SlAt.here rfl) rfl (by simp [isCell, cV]) (by decide) (by omega) (by omega) (fun _ => rfl)) ?_
    rintro _ w ⟨p2, c2, s2, rfl, ho2, H⟩
    refine JL.go trivial (RX.assignv (v := Value.slice _ _ _) rfl) ?_
    refine JL.nil ?_
    refine J.inBlock ?_
    refine J.region ?_
    refine JL.go trivial (RX.movev (v := Value.int _ _) rfl) ?_
    refine JL.go trivial (RX.add rfl rfl (w_i64 rfl (by omega) (by omega))) ?_
    refine JL.go trivial (RX.assignv (v := Value.int _ _) rfl) ?_
    refine JL.nil ?_
    exact IH (i + 1, p2, c2, s2) _ _ (by simp only; omega) ⟨rfl, trivial⟩ ⟨(show Value.int .i64 ((2 * i : Nat) + 2 : Int) = Value.int .i64 ((2 * (i + 1) : Nat) : Int) by congr 1), rfl, trivial⟩ ⟨by simp only; omega, by simp only; rw [cVs_snoc _ _ _ hq]; exact ho2, H.drop⟩
  · skip
    refine J.exit rfl ?_
    refine J.seq ?_
    refine J.region ?_
    refine JL.go trivial (RX.movev (v := Value.slice _ _ _) rfl) ?_
    refine JL.go trivial (RX.assignv (v := Value.slice _ _ _) rfl) ?_
    refine JL.nil ?_
    refine J.ret1 (v := Value.slice _ _ _) Tryd.func13 rfl rfl ?_
    have : i = (pairs x.list).length := by omega
    subst this
    rw [List.take_length] at ho
    exact ⟨_, rfl, p, c, s, rfl, ho, (H.pull 1 rfl).drop⟩
theorem floatsOf_b {w0 w : World} {F : List Seg} (H : Hp w0 w F) {x : Va} (hx : x.Ok F) : Ret Tryd.prog 52 [.agg x.cells.toArray] w fun v w' => ∃ p c s, v = .slice p x.list.length c ∧ OwnSl 61 1 p x.list.length c (fVs x.list) s ∧ Hp w0 w' (s :: F) := by
  refine Calls.of_J (n := 21) Tryd.func52 rfl rfl rfl ?_
  refine J.seq ?_
  refine J.region ?_
  refine JL.does trivial (EX.box (v := Value.agg _) H rfl rfl) ?_
  rintro _ w ⟨b1, rfl, H⟩
  refine JL.go trivial (RX.assign) ?_
  refine JL.nil ?_
  refine J.seq ?_
  have hkl := hx.kl
  refine J.region ?_
  refine JL.does trivial (EX.buildSlice0 H elF) ?_
  rintro _ w ⟨b0, rfl, H⟩
  refine JL.go trivial (RX.assignv (v := Value.slice _ _ _) rfl) ?_
  refine JL.nil ?_
  refine J.seq ?_
  refine J.seq ?_
  refine J.region ?_
  refine JL.go trivial (RX.fieldAddr rfl fo30_4 rfl) ?_
  refine JL.go trivial (by first | exact RX.load H rfl (i := 0) rfl rfl one28 | exact RX.load H rfl (i := 1) rfl rfl one28) ?_
  refine JL.go trivial (RX.len_slice rfl (by rw [sl28]; rfl) rfl) ?_
  refine JL.go trivial (RX.move) ?_
  refine JL.nil ?_
  refine J.block ?_
  refine J.loop (ι := Nat × Option Addr × Nat × Seg) (S := fun q => [(10, .int .i64 (q.1 : Nat)), (3, .slice q.2.1 q.1 q.2.2.1)]) (Φ := fun q w => q.1 ≤ x.list.length ∧ OwnSl 61 1 q.2.1 q.1 q.2.2.1 (fVs (x.list.take q.1)) q.2.2.2 ∧ Hp w0 w (q.2.2.2 :: [(b1, cel x.cells 30)] :: F)) (μ := fun q => x.list.length - q.1) (C := [(8, Value.slice x.lp x.list.length x.lc), (9, _)]) (0, some ⟨b0, 0, none⟩, 0, [(b0, cel [] 61)]) ⟨rfl, rfl, trivial⟩ ⟨rfl, rfl, trivial⟩ ?_ ?_
  · exact ⟨by omega, OwnSl.empty, H⟩
  clear H
  rintro ⟨i, p, c, s⟩ ρ w ⟨hi, ho, H⟩ IH
  simp only at hi ho H
  dsimp only
  refine J.seq ?_
  refine J.region ?_
  refine JL.go trivial (RX.lt rfl rfl) ?_
  refine JL.nil ?_
  refine J.seq ?_
  refine J.cond_d rfl (fun hlt => ?_) (fun hlt => ?_)
  · skip
    obtain ⟨a, ha⟩ : ∃ a, x.list[i]? = some a := ⟨_, List.getElem?_eq_getElem (by omega)⟩
    have hat := hx.at_
    obtain ⟨pb, po, hpe, _⟩ := hat.some (by rw [uVs_len]; omega)
    rw [hpe] at hat ⊢
    refine J.skip ?_
    refine J.seq ?_
    refine J.block ?_
    refine J.seq ?_
    refine J.region ?_
    refine JL.go trivial (RX.indexAddr rfl rfl sl28 (by omega) (by omega) rfl) ?_
    refine JL.go trivial (RX.loadS H hat.cons.cons rfl (j := i) (by omega) (v := uV a) (by simp [uVs, ha]) one27) ?_
    refine JL.go trivial (RX.assignv (v := Value.int _ _) rfl) ?_
    refine JL.nil ?_
    refine J.region ?_
    refine JL.go trivial (RX.movev (v := Value.slice _ _ _) rfl) ?_
    refine JL.go trivial (RX.movev (v := Value.int _ _) rfl) ?_
    refine JL.does trivial (EX.call rfl cl43 rfl ((of_b H))) ?_
    rintro _ w ⟨rfl, H⟩
    refine JL.does trivial (EX.buildSlice1 H elF rfl rfl) ?_
    rintro _ w ⟨b2, rfl, H⟩
    refine JL.does trivial (EX.append (ys := [fV a]) (L' := fun s' => [(b2, cel [fV a] 61)] :: s' :: [(b1, cel x.cells 30)] :: F) H elF rfl rfl (i := 1) rfl ho (SlAt.here rfl) rfl (by simp [isCell, fV]) (by decide) (by omega) (by omega) (fun _ => rfl)) ?_
    rintro _ w ⟨p2, c2, s2, rfl, ho2, H⟩
    refine JL.go trivial (RX.assignv (v := Value.slice _ _ _) rfl) ?_
    refine JL.nil ?_
    refine J.inBlock ?_
    refine J.region ?_
    refine JL.go trivial (RX.add rfl rfl (w_i64 rfl (by omega) (by omega))) ?_
    refine JL.go trivial (RX.movev (v := Value.int _ _) rfl) ?_
    refine JL.nil ?_
    rw [← hpe] at *
    exact IH (i + 1, p2, c2, s2) _ _ (by simp only; omega) ⟨rfl, rfl, trivial⟩ ⟨rfl, rfl, trivial⟩ ⟨by simp only; omega, by simp only; rw [fVs_snoc _ _ _ ha]; exact ho2, H.drop⟩
  · skip
    refine J.exit rfl ?_
    refine J.seq ?_
    refine J.region ?_
    refine JL.go trivial (RX.movev (v := Value.slice _ _ _) rfl) ?_
    refine JL.go trivial (RX.assignv (v := Value.slice _ _ _) rfl) ?_
    refine JL.nil ?_
    refine J.ret1 (v := Value.slice _ _ _) Tryd.func52 rfl rfl ?_
    have : i = x.list.length := by omega
    subst this
    rw [List.take_length] at ho
    exact ⟨_, rfl, p, c, s, rfl, ho, (H.pull 1 rfl).drop⟩
end Go.Proofs.YtippfdnjhcpekaaDoor

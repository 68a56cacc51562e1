/- The errors. -/
import Derived.Test.YtfpphoapknecfaaGreatDoorBesafterBase
import Derived.Test.YtfpphoapknecfaaGreatDoorBesafterFacts
namespace Go.Proofs.YtfpphoapknecfaaGreatDoorBesafter
open Go Go.Eng
set_option maxRecDepth 100000
set_option linter.unusedVariables false
set_option linter.unusedSimpArgs false
theorem ag43 : aggOf Tryz.prog 43 = some 19 := by kernel_rfl
theorem ar43 : arrayOf Tryz.prog 43 = some (19, 25, 1) := by kernel_rfl
theorem cl18 : callable Tryz.prog 18 = true := by kernel_rfl
theorem if25 : isIface Tryz.prog 25 = true := by kernel_rfl
theorem one25 : oneOf Tryz.prog 25 = true := by kernel_rfl
theorem sz43 : szOf Tryz.prog 43 = some 19 := by kernel_rfl
theorem zr43 : (Tryz.prog.info? 43).bind (·.zero) = some (.agg #[.nilIface, .nilIface, .nilIface, .nilIface, .nilIface, .nilIface, .nilIface, .nilIface, .nilIface, .nilIface, .nilIface, .nilIface, .nilIface, .nilIface, .nilIface, .nilIface, .nilIface, .nilIface, .nilIface]) := by kernel_rfl
def i64ok (x : Int) : Prop := -9223372036854775808 ≤ x ∧ x ≤ 9223372036854775807
instance {x : Int} : Decidable (i64ok x) := inferInstanceAs (Decidable (_ ∧ _))
def errG : List Nat := [0, 2, 3, 4, 5, 6, 7, 0, 8, 9, 10, 11, 12, 13, 14, 15, 16, 17, 18, 1]
structure Errs (F : List Seg) (E : Nat → Value) (Q : Nat → Addr) : Prop where
  at_ : ∀ i, 1 ≤ i → i ≤ 19 → GErr F ((errG[i]?).getD 0) (E i)
  er : ∀ i, 1 ≤ i → i ≤ 19 → ErrAt F 252 (E i) (Q i)
  inj : ∀ i j, 1 ≤ i → i ≤ 19 → 1 ≤ j → j ≤ 19 → Q i = Q j → i = j
theorem Errs.cons {F : List Seg} {s : Seg} {E : Nat → Value} {Q : Nat → Addr} (h : Errs F E Q) : Errs (s :: F) E Q :=
  ⟨fun i h0 h1 => (h.at_ i h0 h1).cons, fun i h0 h1 => (h.er i h0 h1).cons, h.inj⟩
structure E5 (F : List Seg) (E : Nat → Value) : Prop where
  g1 : GErr F 2 (E 1)
  g2 : GErr F 3 (E 2)
  g3 : GErr F 4 (E 3)
  g4 : GErr F 5 (E 4)
  g9 : GErr F 9 (E 9)
theorem E5.cons {F : List Seg} {s : Seg} {E : Nat → Value} (h : E5 F E) : E5 (s :: F) E := ⟨h.g1.cons, h.g2.cons, h.g3.cons, h.g4.cons, h.g9.cons⟩
theorem Errs.five {F : List Seg} {E : Nat → Value} {Q : Nat → Addr} (h : Errs F E Q) : E5 F E :=
  ⟨h.at_ 1 (by decide) (by decide), h.at_ 2 (by decide) (by decide), h.at_ 3 (by decide) (by decide), h.at_ 4 (by decide) (by decide), h.at_ 9 (by decide) (by decide)⟩
theorem isErr_cell {v : Value} (h : isErr v = true) : isCell v = true := by cases v <;> first | rfl | cases h

def errsV (E : Nat → Value) : List Value := [E 1, E 2, E 3, E 4, E 5, E 6, E 7, E 8, E 9, E 10, E 11, E 12, E 13, E 14, E 15, E 16, E 17, E 18, E 19]
theorem errsV_get {E : Nat → Value} {i : Nat} (h : i < 19) : (errsV E)[i]? = some (E (i + 1)) := by
  have : i = 0 ∨ i = 1 ∨ i = 2 ∨ i = 3 ∨ i = 4 ∨ i = 5 ∨ i = 6 ∨ i = 7 ∨ i = 8 ∨ i = 9 ∨ i = 10 ∨ i = 11 ∨ i = 12 ∨ i = 13 ∨ i = 14 ∨ i = 15 ∨ i = 16 ∨ i = 17 ∨ i = 18 := by omega
  rcases this with rfl | rfl | rfl | rfl | rfl | rfl | rfl | rfl | rfl | rfl | rfl | rfl | rfl | rfl | rfl | rfl | rfl | rfl | rfl <;> rfl
theorem errsV_cell {F : List Seg} {E : Nat → Value} {Q : Nat → Addr} (h : Errs F E Q) : ∀ v ∈ errsV E, isCell v = true := by
  intro v hv
  obtain ⟨i, hi⟩ := List.mem_iff_getElem?.1 hv
  have h19 : i < 19 := by have := (List.getElem?_eq_some_iff.1 hi).1; simpa [errsV] using this
  rw [errsV_get h19] at hi
  rw [← Option.some.inj hi]
  exact isErr_cell (h.at_ (i + 1) (by omega) (by omega)).ie
def errV (E : Nat → Value) (n : Nat) : Value := if n = 0 then .nilIface else E n
theorem errV_pos {E : Nat → Value} {n : Nat} (h : 0 < n) : errV E n = E n := if_neg (by omega)
theorem errV_ie {F : List Seg} {E : Nat → Value} {Q : Nat → Addr} (h : Errs F E Q) {n : Nat} (hn : n ≤ 19) : isErr (errV E n) = true ∧ isNil (errV E n) = decide (n = 0) := by
  by_cases h0 : n = 0
  · subst h0; exact ⟨rfl, rfl⟩
  · have := h.at_ n (by omega) hn
    rw [errV_pos (by omega), decide_eq_false h0]
    exact ⟨this.ie, this.nn⟩
theorem err9_ie {F : List Seg} {E : Nat → Value} (h : E5 F E) {n : Nat} (hn : n = 0 ∨ n = 9) : isErr (errV E n) = true ∧ isNil (errV E n) = decide (n = 0) := by
  rcases hn with rfl | rfl
  · exact ⟨rfl, rfl⟩
  · exact ⟨h.g9.ie, h.g9.nn⟩
theorem ptE : ptrTo Tryz.prog 252 = true := by kernel_rfl
set_option maxHeartbeats 1600000 in
theorem list_b {w0 w : World} {F : List Seg} {E : Nat → Value} {Q : Nat → Addr} (H : Hp w0 w F) (hE : Errs F E Q) : Ret Tryz.prog 18 [] w fun v w' => v = .agg (errsV E).toArray ∧ Hp w0 w' F := by
  refine Calls.of_J (n := 21) Tryz.func18 rfl rfl rfl ?_
  refine J.seq ?_
  refine J.region ?_
  refine JL.does trivial (EX.alloc H zr43 rfl) ?_
  rintro _ w ⟨b1, rfl, H⟩
  refine JL.nil ?_
  refine J.seq ?_
  refine J.region ?_
  refine JL.go trivial (RX.loadG H rfl (hE.at_ 1 (by decide) (by decide)).at_.cons one25) ?_
  refine JL.go trivial (RX.loadG H rfl (hE.at_ 2 (by decide) (by decide)).at_.cons one25) ?_
  refine JL.go trivial (RX.loadG H rfl (hE.at_ 3 (by decide) (by decide)).at_.cons one25) ?_
  refine JL.go trivial (RX.loadG H rfl (hE.at_ 4 (by decide) (by decide)).at_.cons one25) ?_
  refine JL.go trivial (RX.loadG H rfl (hE.at_ 5 (by decide) (by decide)).at_.cons one25) ?_
  refine JL.go trivial (RX.loadG H rfl (hE.at_ 6 (by decide) (by decide)).at_.cons one25) ?_
  refine JL.go trivial (RX.loadG H rfl (hE.at_ 7 (by decide) (by decide)).at_.cons one25) ?_
  refine JL.go trivial (RX.loadG H rfl (hE.at_ 8 (by decide) (by decide)).at_.cons one25) ?_
  refine JL.go trivial (RX.loadG H rfl (hE.at_ 9 (by decide) (by decide)).at_.cons one25) ?_
  refine JL.go trivial (RX.loadG H rfl (hE.at_ 10 (by decide) (by decide)).at_.cons one25) ?_
  refine JL.go trivial (RX.loadG H rfl (hE.at_ 11 (by decide) (by decide)).at_.cons one25) ?_
  refine JL.go trivial (RX.loadG H rfl (hE.at_ 12 (by decide) (by decide)).at_.cons one25) ?_
  refine JL.go trivial (RX.loadG H rfl (hE.at_ 13 (by decide) (by decide)).at_.cons one25) ?_
  refine JL.go trivial (RX.loadG H rfl (hE.at_ 14 (by decide) (by decide)).at_.cons one25) ?_
  refine JL.go trivial (RX.loadG H rfl (hE.at_ 15 (by decide) (by decide)).at_.cons one25) ?_
  refine JL.go trivial (RX.loadG H rfl (hE.at_ 16 (by decide) (by decide)).at_.cons one25) ?_
  refine JL.go trivial (RX.loadG H rfl (hE.at_ 17 (by decide) (by decide)).at_.cons one25) ?_
  refine JL.go trivial (RX.loadG H rfl (hE.at_ 18 (by decide) (by decide)).at_.cons one25) ?_
  refine JL.go trivial (RX.loadG H rfl (hE.at_ 19 (by decide) (by decide)).at_.cons one25) ?_
  refine JL.go trivial (RX.build (pv := [(0, E 1), (1, E 2), (2, E 3), (3, E 4), (4, E 5), (5, E 6), (6, E 7), (7, E 8), (8, E 9), (9, E 10), (10, E 11), (11, E 12), (12, E 13), (13, E 14), (14, E 15), (15, E 16), (16, E 17), (17, E 18), (18, E 19)]) (res := errsV E) rfl (by simp only [errsV, (hE.er 1 (by decide) (by decide)).1, (hE.er 2 (by decide) (by decide)).1, (hE.er 3 (by decide) (by decide)).1, (hE.er 4 (by decide) (by decide)).1, (hE.er 5 (by decide) (by decide)).1, (hE.er 6 (by decide) (by decide)).1, (hE.er 7 (by decide) (by decide)).1, (hE.er 8 (by decide) (by decide)).1, (hE.er 9 (by decide) (by decide)).1, (hE.er 10 (by decide) (by decide)).1, (hE.er 11 (by decide) (by decide)).1, (hE.er 12 (by decide) (by decide)).1, (hE.er 13 (by decide) (by decide)).1, (hE.er 14 (by decide) (by decide)).1, (hE.er 15 (by decide) (by decide)).1, (hE.er 16 (by decide) (by decide)).1, (hE.er 17 (by decide) (by decide)).1, (hE.er 18 (by decide) (by decide)).1, (hE.er 19 (by decide) (by decide)).1]; kernel_rfl)) ?_
  refine JL.does trivial (EX.storeAgg H rfl rfl (i := 0) (vs := errsV E) (l' := errsV E) rfl (errsV_cell hE) (by simp [errsV]) sz43 (setN_full (by simp [errsV])) rfl) ?_
  rintro _ w H
  refine JL.nil ?_
  refine J.retc Tryz.func18 rfl H rfl (i := 0) (vs := errsV E) rfl rfl ag43 ?_
  exact ⟨_, rfl, rfl, H.drop⟩
set_option maxHeartbeats 1600000 in
theorem Num_b {w0 w : World} {F : List Seg} {E : Nat → Value} {Q : Nat → Addr} (H : Hp w0 w F) (hE : Errs F E Q) {n : Nat} (hn : n ≤ 19) : Ret Tryz.prog 6 [errV E n] w fun v w' => v = .int .i64 (n : Nat) ∧ Hp w0 w' F := by
  refine Calls.of_J (n := 18) Tryz.func6 rfl rfl rfl ?_
  refine J.seq ?_
  refine J.region ?_
  refine JL.go trivial (RX.assign) ?_
  refine JL.nil ?_
  refine J.seq ?_
  refine J.seq ?_
  obtain ⟨hie, hnn⟩ := errV_ie hE hn
  refine J.region ?_
  refine JL.go trivial (RX.move) ?_
  refine JL.go trivial (RX.ifnil_eql (v := errV E n) rfl rfl hie if25) ?_
  refine JL.nil ?_
  refine J.cond rfl (fun h0 => ?_) (fun h0 => ?_)
  · skip
    rw [hnn] at h0
    have hz := of_decide_eq_true h0
    refine J.seq ?_
    refine J.region ?_
    refine JL.go trivial (RX.assign) ?_
    refine JL.nil ?_
    refine J.ret1 (v := Value.int _ _) Tryz.func6 rfl rfl ?_
    subst hz
    exact ⟨_, rfl, rfl, H⟩
  · skip
    rw [hnn] at h0
    have hz := of_decide_eq_false h0
    have hev : errV E n = E n := errV_pos (by omega)
    have her := hE.er n (by omega) hn
    refine J.skip ?_
    refine J.seq ?_
    refine J.seq ?_
    refine J.region ?_
    refine JL.does trivial (EX.call rfl cl18 rfl ((list_b H hE))) ?_
    rintro _ w ⟨rfl, H⟩
    refine JL.go trivial (RX.move) ?_
    refine JL.nil ?_
    refine J.block ?_
    refine J.loop (ι := Nat) (S := fun k => [(8, .int .i64 (k : Nat))]) (Φ := fun k w => k < n ∧ Hp w0 w F) (μ := fun k => n - k) (C := [(0, _), (7, _)]) 0 ⟨rfl, rfl, trivial⟩ ⟨rfl, trivial⟩ ?_ ?_
    · exact ⟨by omega, H⟩
    clear H
    rintro k ρ w ⟨hk, H⟩ IH
    refine J.seq ?_
    refine J.region ?_
    refine JL.go trivial (RX.lt rfl rfl) ?_
    refine JL.nil ?_
    refine J.seq ?_
    refine J.cond_d rfl (fun h9 => ?_) (fun h9 => ?_)
    · skip
      refine J.skip ?_
      refine J.seq ?_
      refine J.block ?_
      refine J.seq ?_
      refine J.region ?_
      refine JL.go trivial (RX.movev (v := Value.int _ _) rfl) ?_
      refine JL.go trivial (RX.index (vs := errsV E) rfl rfl ar43 one25 (by omega) (by omega) (errsV_get (by omega))) ?_
      refine JL.go trivial (RX.assignv (v := Value.int _ _) rfl) ?_
      refine JL.go trivial (RX.assign) ?_
      refine JL.nil ?_
      refine J.seq ?_
      refine J.region ?_
      refine JL.go trivial (RX.move) ?_
      refine JL.go trivial (RX.move) ?_
      refine JL.go trivial (RX.err_eql (u := errV E n) (v := E (k + 1)) H rfl rfl (by rw [hev]; exact her) (hE.er (k + 1) (by omega) (by omega)) if25 ptE) ?_
      refine JL.nil ?_
      refine J.cond_d rfl (fun heq => ?_) (fun heq => ?_)
      · skip
        have hkn := hE.inj _ _ (by omega) (by omega) (by omega) (by omega) heq
        refine J.seq ?_
        refine J.region ?_
        refine JL.go trivial (RX.movev (v := Value.int _ _) rfl) ?_
        refine JL.go trivial (RX.add rfl rfl (w_i64 rfl (by omega) (by omega))) ?_
        refine JL.go trivial (RX.assignv (v := Value.int _ _) rfl) ?_
        refine JL.nil ?_
        refine J.ret1 (v := Value.int _ _) Tryz.func6 rfl rfl ?_
        exact ⟨_, rfl, by rw [show ((n : Nat) : Int) = (k : Int) + 1 by omega], H⟩
      · skip
        refine J.skip ?_
        refine J.inBlock ?_
        refine J.region ?_
        refine JL.go trivial (RX.add rfl rfl (w_i64 rfl (by omega) (by omega))) ?_
        refine JL.go trivial (RX.movev (v := Value.int _ _) rfl) ?_
        refine JL.nil ?_
        have hkn : n ≠ k + 1 := fun h => heq (by rw [h])
        exact IH (k + 1) _ _ (by omega) ⟨rfl, rfl, trivial⟩ ⟨rfl, trivial⟩ ⟨by omega, H⟩
    · skip
      exfalso
      omega
end Go.Proofs.YtfpphoapknecfaaGreatDoorBesafter

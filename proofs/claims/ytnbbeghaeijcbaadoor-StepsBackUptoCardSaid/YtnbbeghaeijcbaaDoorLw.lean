/- The laws of chapter 15: what they share. -/
import Derived.Test.YtnbbeghaeijcbaaDoorRf2
namespace Go.Proofs.YtnbbeghaeijcbaaDoor
open Go Go.Eng
set_option maxRecDepth 100000
set_option linter.unusedVariables false
set_option linter.unusedSimpArgs false
def errG : List Nat := [0, 2, 3, 4, 5, 6, 7, 8, 9, 0, 10, 11, 12, 13, 14, 15, 16, 17, 18, 19]

structure Errs (F : List Seg) (E : Nat → Value) (Q : Nat → Addr) : Prop where
  at_ : ∀ i, 1 ≤ i → i ≤ 19 → GErr F ((errG[i]?).getD 0) (E i)
  er : ∀ i, 1 ≤ i → i ≤ 19 → ErrAt F 111 (E i) (Q i)
  inj : ∀ i j, 1 ≤ i → i ≤ 19 → 1 ≤ j → j ≤ 19 → Q i = Q j → i = j
theorem Errs.cons {F : List Seg} {s : Seg} {E : Nat → Value} {Q : Nat → Addr} (h : Errs F E Q) : Errs (s :: F) E Q :=
  ⟨fun i h0 h1 => (h.at_ i h0 h1).cons, fun i h0 h1 => (h.er i h0 h1).cons, h.inj⟩
structure E5 (F : List Seg) (E : Nat → Value) : Prop where
  g1 : GErr F 2 (E 1)
  g2 : GErr F 3 (E 2)
  g3 : GErr F 4 (E 3)
  g4 : GErr F 5 (E 4)
  g9 : GErr F 0 (E 9)
theorem E5.cons {F : List Seg} {s : Seg} {E : Nat → Value} (h : E5 F E) : E5 (s :: F) E := ⟨h.g1.cons, h.g2.cons, h.g3.cons, h.g4.cons, h.g9.cons⟩
theorem Errs.five {F : List Seg} {E : Nat → Value} {Q : Nat → Addr} (h : Errs F E Q) : E5 F E :=
  ⟨h.at_ 1 (by decide) (by decide), h.at_ 2 (by decide) (by decide), h.at_ 3 (by decide) (by decide), h.at_ 4 (by decide) (by decide), h.at_ 9 (by decide) (by decide)⟩
theorem isErr_cell {v : Value} (h : isErr v = true) : isCell v = true := by cases v <;> first | rfl | cases h

def errsV (E : Nat → Value) : List Value := [E 1, E 2, E 3, E 4, E 5, E 6, E 7, E 8, E 9, E 10, E 11, E 12, E 13, E 14, E 15, E 16, E 17, E 18, E 19]

theorem errsV_get {E : Nat → Value} {i : Nat} (h : i < 19) : (errsV E)[i]? = some (E (i + 1)) := by
  have : i = 0 ∨ i = 1 ∨ i = 2 ∨ i = 3 ∨ i = 4 ∨ i = 5 ∨ i = 6 ∨ i = 7 ∨ i = 8 ∨ i = 9 ∨ i = 10 ∨ i = 11 ∨ i = 12 ∨ i = 13 ∨ i = 14 ∨ i = 15 ∨ i = 16 ∨ i = 17 ∨ i = 18 := by omega
  rcases this with rfl | rfl | rfl | rfl | rfl | rfl | rfl | rfl | rfl | rfl | rfl | rfl | rfl | rfl | rfl | rfl | rfl | rfl | rfl <;> rfl
theorem errsV_cell {F : List Seg} {E : Nat → Value} {Q : Nat → Addr} (h : Errs F E Q) : ∀ v ∈ errsV E, isCell v = true := by
  intro v hv
  obtain ⟨i, hi⟩ := List.mem_iff_getElem?.1 hv
  have h19 : i < 19 := by have := (List.getElem?_eq_some_iff.1 hi).1; simpa [errsV] using this
  rw [errsV_get h19] at hi
  rw [← Option.some.inj hi]
  exact isErr_cell (h.at_ (i + 1) (by omega) (by omega)).ie
def errV (E : Nat → Value) (n : Nat) : Value := if n = 0 then .nilIface else E n
theorem errV_pos {E : Nat → Value} {n : Nat} (h : 0 < n) : errV E n = E n := if_neg (by omega)
theorem errV_ie {F : List Seg} {E : Nat → Value} {Q : Nat → Addr} (h : Errs F E Q) {n : Nat} (hn : n ≤ 19) : isErr (errV E n) = true ∧ isNil (errV E n) = decide (n = 0) := by
  by_cases h0 : n = 0
  · subst h0; exact ⟨rfl, rfl⟩
  · have := h.at_ n (by omega) hn
    rw [errV_pos (by omega), decide_eq_false h0]
    exact ⟨this.ie, this.nn⟩
theorem err9_ie {F : List Seg} {E : Nat → Value} (h : E5 F E) {n : Nat} (hn : n = 0 ∨ n = 9) : isErr (errV E n) = true ∧ isNil (errV E n) = decide (n = 0) := by
  rcases hn with rfl | rfl
  · exact ⟨rfl, rfl⟩
  · exact ⟨h.g9.ie, h.g9.nn⟩
theorem ptE : ptrTo Tryd.prog 111 = true := by kernel_rfl
theorem list_b {w0 w : World} {F : List Seg} {E : Nat → Value} {Q : Nat → Addr} (H : Hp w0 w F) (hE : Errs F E Q) : Ret Tryd.prog 31 [] w fun v w' => v = .agg (errsV E).toArray ∧ Hp w0 w' F := by
  refine Calls.of_J (n := 21) Tryd.func31 rfl rfl rfl ?_
  refine J.seq ?_
  refine J.region ?_
  refine JL.does trivial (EX.alloc H zr66 rfl) ?_
  rintro _ w ⟨b1, rfl, H⟩
  refine JL.nil ?_
  refine J.seq ?_
  refine J.region ?_
  refine JL.go trivial (RX.loadG H rfl (hE.at_ 1 (by decide) (by decide)).at_.cons one29) ?_
  refine JL.go trivial (RX.loadG H rfl (hE.at_ 2 (by decide) (by decide)).at_.cons one29) ?_
  refine JL.go trivial (RX.loadG H rfl (hE.at_ 3 (by decide) (by decide)).at_.cons one29) ?_
  refine JL.go trivial (RX.loadG H rfl (hE.at_ 4 (by decide) (by decide)).at_.cons one29) ?_
  refine JL.go trivial (RX.loadG H rfl (hE.at_ 5 (by decide) (by decide)).at_.cons one29) ?_
  refine JL.go trivial (RX.loadG H rfl (hE.at_ 6 (by decide) (by decide)).at_.cons one29) ?_
  refine JL.go trivial (RX.loadG H rfl (hE.at_ 7 (by decide) (by decide)).at_.cons one29) ?_
  refine JL.go trivial (RX.loadG H rfl (hE.at_ 8 (by decide) (by decide)).at_.cons one29) ?_
  refine JL.go trivial (RX.loadG H rfl (hE.at_ 9 (by decide) (by decide)).at_.cons one29) ?_
  refine JL.go trivial (RX.loadG H rfl (hE.at_ 10 (by decide) (by decide)).at_.cons one29) ?_
  refine JL.go trivial (RX.loadG H rfl (hE.at_ 11 (by decide) (by decide)).at_.cons one29) ?_
  refine JL.go trivial (RX.loadG H rfl (hE.at_ 12 (by decide) (by decide)).at_.cons one29) ?_
  refine JL.go trivial (RX.loadG H rfl (hE.at_ 13 (by decide) (by decide)).at_.cons one29) ?_
  refine JL.go trivial (RX.loadG H rfl (hE.at_ 14 (by decide) (by decide)).at_.cons one29) ?_
  refine JL.go trivial (RX.loadG H rfl (hE.at_ 15 (by decide) (by decide)).at_.cons one29) ?_
  refine JL.go trivial (RX.loadG H rfl (hE.at_ 16 (by decide) (by decide)).at_.cons one29) ?_
  refine JL.go trivial (RX.loadG H rfl (hE.at_ 17 (by decide) (by decide)).at_.cons one29) ?_
  refine JL.go trivial (RX.loadG H rfl (hE.at_ 18 (by decide) (by decide)).at_.cons one29) ?_
  refine JL.go trivial (RX.loadG H rfl (hE.at_ 19 (by decide) (by decide)).at_.cons one29) ?_
  refine JL.go trivial (RX.build (pv := [(0, E 1), (1, E 2), (2, E 3), (3, E 4), (4, E 5), (5, E 6), (6, E 7), (7, E 8), (8, E 9), (9, E 10), (10, E 11), (11, E 12), (12, E 13), (13, E 14), (14, E 15), (15, E 16), (16, E 17), (17, E 18), (18, E 19)]) (res := errsV E) rfl (by simp only [errsV, (hE.er 1 (by decide) (by decide)).1, (hE.er 2 (by decide) (by decide)).1, (hE.er 3 (by decide) (by decide)).1, (hE.er 4 (by decide) (by decide)).1, (hE.er 5 (by decide) (by decide)).1, (hE.er 6 (by decide) (by decide)).1, (hE.er 7 (by decide) (by decide)).1, (hE.er 8 (by decide) (by decide)).1, (hE.er 9 (by decide) (by decide)).1, (hE.er 10 (by decide) (by decide)).1, (hE.er 11 (by decide) (by decide)).1, (hE.er 12 (by decide) (by decide)).1, (hE.er 13 (by decide) (by decide)).1, (hE.er 14 (by decide) (by decide)).1, (hE.er 15 (by decide) (by decide)).1, (hE.er 16 (by decide) (by decide)).1, (hE.er 17 (by decide) (by decide)).1, (hE.er 18 (by decide) (by decide)).1, (hE.er 19 (by decide) (by decide)).1]; kernel_rfl)) ?_
  refine JL.does trivial (EX.storeAgg H rfl rfl (i := 0) (vs := errsV E) (l' := errsV E) rfl (errsV_cell hE) (by simp [errsV]) sz66 (setN_full (by simp [errsV])) rfl) ?_
  rintro _ w H
  refine JL.nil ?_
  refine J.retc Tryd.func31 rfl H rfl (i := 0) (vs := errsV E) rfl rfl ag66 ?_
  exact ⟨_, rfl, rfl, H.drop⟩
theorem Num_b {w0 w : World} {F : List Seg} {E : Nat → Value} {Q : Nat → Addr} (H : Hp w0 w F) (hE : Errs F E Q) {n : Nat} (hn : n ≤ 19) : Ret Tryd.prog 12 [errV E n] w fun v w' => v = .int .i64 (n : Nat) ∧ Hp w0 w' F := by
  refine Calls.of_J (n := 18) Tryd.func12 rfl rfl rfl ?_
  refine J.seq ?_
  refine J.region ?_
  refine JL.go trivial (RX.assign) ?_
  refine JL.nil ?_
  refine J.seq ?_
  refine J.seq ?_
  obtain ⟨hie, hnn⟩ := errV_ie hE hn
  refine J.region ?_
  refine JL.go trivial (RX.move) ?_
  refine JL.go trivial (RX.ifnil_eql (v := errV E n) rfl rfl hie if29) ?_
  refine JL.nil ?_
  refine J.cond rfl (fun h0 => ?_) (fun h0 => ?_)
  · skip
    rw [hnn] at h0
    have hz := of_decide_eq_true h0
    refine J.seq ?_
    refine J.region ?_
    refine JL.go trivial (RX.assign) ?_
    refine JL.nil ?_
    refine J.ret1 (v := Value.int _ _) Tryd.func12 rfl rfl ?_
    subst hz
    exact ⟨_, rfl, rfl, H⟩
  · skip
    rw [hnn] at h0
    have hz := of_decide_eq_false h0
    have hev : errV E n = E n := errV_pos (by omega)
    have her := hE.er n (by omega) hn
    refine J.skip ?_
    refine J.seq ?_
    refine J.seq ?_
    refine J.region ?_
    refine JL.does trivial (EX.call rfl cl31 rfl ((list_b H hE))) ?_
    rintro _ w ⟨rfl, H⟩
    refine JL.go trivial (RX.move) ?_
    refine JL.nil ?_
    refine J.block ?_
    refine J.loop (ι := Nat) (S := fun k => [(8, .int .i64 (k : Nat))]) (Φ := fun k w => k < n ∧ Hp w0 w F) (μ := fun k => n - k) (C := [(0, _), (7, _)]) 0 ⟨rfl, rfl, trivial⟩ ⟨rfl, trivial⟩ ?_ ?_
    · exact ⟨by omega, H⟩
    clear H
    rintro k ρ w ⟨hk, H⟩ IH
    refine J.seq ?_
    refine J.region ?_
    refine JL.go trivial (RX.lt rfl rfl) ?_
    refine JL.nil ?_
    refine J.seq ?_
    refine J.cond_d rfl (fun h9 => ?_) (fun h9 => ?_)
    · skip
      refine J.skip ?_
      refine J.seq ?_
      refine J.block ?_
      refine J.seq ?_
      refine J.region ?_
      refine JL.go trivial (RX.movev (v := Value.int _ _) rfl) ?_
      refine JL.go trivial (RX.index (vs := errsV E) rfl rfl ar66 one29 (by omega) (by omega) (errsV_get (by omega))) ?_
      refine JL.go trivial (RX.assignv (v := Value.int _ _) rfl) ?_
      refine JL.go trivial (RX.assign) ?_
      refine JL.nil ?_
      refine J.seq ?_
      refine J.region ?_
      refine JL.go trivial (RX.move) ?_
      refine JL.go trivial (RX.move) ?_
      refine JL.go trivial (RX.err_eql (u := errV E n) (v := E (k + 1)) H rfl rfl (by rw [hev]; exact her) (hE.er (k + 1) (by omega) (by omega)) if29 ptE) ?_
      refine JL.nil ?_
      refine J.cond_d rfl (fun heq => ?_) (fun heq => ?_)
      · skip
        have hkn := hE.inj _ _ (by omega) (by omega) (by omega) (by omega) heq
        refine J.seq ?_
        refine J.region ?_
        refine JL.go trivial (RX.movev (v := Value.int _ _) rfl) ?_
        refine JL.go trivial (RX.add rfl rfl (w_i64 rfl (by omega) (by omega))) ?_
        refine JL.go trivial (RX.assignv (v := Value.int _ _) rfl) ?_
        refine JL.nil ?_
        refine J.ret1 (v := Value.int _ _) Tryd.func12 rfl rfl ?_
        exact ⟨_, rfl, by rw [show ((n : Nat) : Int) = (k : Int) + 1 by omega], H⟩
      · skip
        refine J.skip ?_
        refine J.inBlock ?_
        refine J.region ?_
        refine JL.go trivial (RX.add rfl rfl (w_i64 rfl (by omega) (by omega))) ?_
        refine JL.go trivial (RX.movev (v := Value.int _ _) rfl) ?_
        refine JL.nil ?_
        have hkn : n ≠ k + 1 := fun h => heq (by rw [h])
        exact IH (k + 1) _ _ (by omega) ⟨rfl, rfl, trivial⟩ ⟨rfl, trivial⟩ ⟨by omega, H⟩
    · skip
      exfalso
      omega
theorem rSame_b {w0 w : World} {F : List Seg} {p q : Prg} {pp qp : Option Addr} {pc qc : Nat} (H : Hp w0 w F) (hp : SlAt F pp (stepsV p.steps)) (hq : SlAt F qp (stepsV q.steps)) (hpl : p.steps.length ≤ 9223372036854775807) (hql : q.steps.length ≤ 9223372036854775807) :
      Ret Tryd.prog 18 [.agg (prgV p pp p.steps.length pc).toArray, .agg (prgV q qp q.steps.length qc).toArray] w fun v w' => v = .bool (decide (p = q)) ∧ Hp w0 w' F := by
  refine Calls.of_J (n := 59) Tryd.func18 rfl rfl rfl ?_
  refine J.seq ?_
  refine J.region ?_
  refine JL.does trivial (EX.box (v := Value.agg _) H rfl rfl) ?_
  rintro _ w ⟨b1, rfl, H⟩
  refine JL.does trivial (EX.box (v := Value.agg _) H rfl rfl) ?_
  rintro _ w ⟨b2, rfl, H⟩
  refine JL.go trivial (RX.assign) ?_
  refine JL.nil ?_
  refine J.seq ?_
  refine J.seq ?_
  refine J.region ?_
  refine JL.go trivial (RX.fieldAddr rfl fo33_0 rfl) ?_
  refine JL.go trivial (by first | exact RX.load H rfl (i := 0) rfl rfl one3 | exact RX.load H rfl (i := 1) rfl rfl one3 | exact RX.load H rfl (i := 2) rfl rfl one3 | exact RX.load H rfl (i := 3) rfl rfl one3 | exact RX.load H rfl (i := 4) rfl rfl one3) ?_
  refine JL.go trivial (RX.fieldAddr rfl fo33_0 rfl) ?_
  refine JL.go trivial (by first | exact RX.load H rfl (i := 0) rfl rfl one3 | exact RX.load H rfl (i := 1) rfl rfl one3 | exact RX.load H rfl (i := 2) rfl rfl one3 | exact RX.load H rfl (i := 3) rfl rfl one3 | exact RX.load H rfl (i := 4) rfl rfl one3) ?_
  refine JL.go trivial (RX.ne rfl rfl) ?_
  refine JL.go trivial (RX.movev (v := Value.bool _) rfl) ?_
  refine JL.splitS 11 rfl (fun h1 => ?_) (fun h1 => ?_)
  · skip
    first | have h1p := of_decide_eq_true h1 | skip
    refine JL.no ⟨_, rfl, gno h1⟩ ?_
    refine JL.no ⟨_, rfl, gno h1⟩ ?_
    refine JL.no ⟨_, rfl, gno h1⟩ ?_
    refine JL.no ⟨_, rfl, gno h1⟩ ?_
    refine JL.no ⟨_, rfl, gno h1⟩ ?_
    refine JL.go trivial (RX.pick_t rfl h1) ?_
    refine JL.go trivial (RX.movev (v := Value.bool _) rfl) ?_
    refine JL.no ⟨_, rfl, gno rfl⟩ ?_
    refine JL.no ⟨_, rfl, gno rfl⟩ ?_
    refine JL.no ⟨_, rfl, gno rfl⟩ ?_
    refine JL.no ⟨_, rfl, gno rfl⟩ ?_
    refine JL.no ⟨_, rfl, gno rfl⟩ ?_
    refine JL.go trivial (RX.pick_t rfl rfl) ?_
    refine JL.go trivial (RX.movev (v := Value.bool _) rfl) ?_
    refine JL.no ⟨_, rfl, gno rfl⟩ ?_
    refine JL.no ⟨_, rfl, gno rfl⟩ ?_
    refine JL.no ⟨_, rfl, gno rfl⟩ ?_
    refine JL.no ⟨_, rfl, gno rfl⟩ ?_
    refine JL.no ⟨_, rfl, gno rfl⟩ ?_
    refine JL.go trivial (RX.pick_t rfl rfl) ?_
    refine JL.go trivial (RX.movev (v := Value.bool _) rfl) ?_
    refine JL.no ⟨_, rfl, gno rfl⟩ ?_
    refine JL.no ⟨_, rfl, gno rfl⟩ ?_
    refine JL.no ⟨_, rfl, gno rfl⟩ ?_
    refine JL.no ⟨_, rfl, gno rfl⟩ ?_
    refine JL.no ⟨_, rfl, gno rfl⟩ ?_
    refine JL.no ⟨_, rfl, gno rfl⟩ ?_
    refine JL.no ⟨_, rfl, gno rfl⟩ ?_
    refine JL.go trivial (RX.pick_t rfl rfl) ?_
    refine JL.nil ?_
    refine J.cond_t rfl rfl ?_
    refine J.seq ?_
    refine J.region ?_
    refine JL.go trivial (RX.assign) ?_
    refine JL.nil ?_
    refine J.ret1 (v := Value.bool _) Tryd.func18 rfl rfl ?_
    refine ⟨_, rfl, ?_, H.drop.drop⟩
    rw [decide_eq_false]
    intro h
    first | exact h1p (congrArg Prg.len h) | exact h2p (congrArg Prg.cells h) | exact h3p (congrArg Prg.inn h) | exact h4p (congrArg Prg.out h) | exact h5 (congrArg (fun x : Prg => (x.steps.length : Int)) h)
  · skip
    first | have h1p := of_decide_eq_false h1 | skip
    refine JL.go ⟨_, rfl, h1⟩ (RX.fieldAddr rfl fo33_1 rfl) ?_
    refine JL.go ⟨_, rfl, h1⟩ (by first | exact RX.load H rfl (i := 0) rfl rfl one3 | exact RX.load H rfl (i := 1) rfl rfl one3 | exact RX.load H rfl (i := 2) rfl rfl one3 | exact RX.load H rfl (i := 3) rfl rfl one3 | exact RX.load H rfl (i := 4) rfl rfl one3) ?_
    refine JL.go ⟨_, rfl, h1⟩ (RX.fieldAddr rfl fo33_1 rfl) ?_
    refine JL.go ⟨_, rfl, h1⟩ (by first | exact RX.load H rfl (i := 0) rfl rfl one3 | exact RX.load H rfl (i := 1) rfl rfl one3 | exact RX.load H rfl (i := 2) rfl rfl one3 | exact RX.load H rfl (i := 3) rfl rfl one3 | exact RX.load H rfl (i := 4) rfl rfl one3) ?_
    refine JL.go ⟨_, rfl, h1⟩ (RX.ne rfl rfl) ?_
    refine JL.go trivial (RX.pick_f rfl h1) ?_
    refine JL.go trivial (RX.movev (v := Value.bool _) rfl) ?_
    refine JL.splitS 18 rfl (fun h2 => ?_) (fun h2 => ?_)
    · skip
      first | have h2p := of_decide_eq_true h2 | skip
      refine JL.no ⟨_, rfl, gno h2⟩ ?_
      refine JL.no ⟨_, rfl, gno h2⟩ ?_
      refine JL.no ⟨_, rfl, gno h2⟩ ?_
      refine JL.no ⟨_, rfl, gno h2⟩ ?_
      refine JL.no ⟨_, rfl, gno h2⟩ ?_
      refine JL.go trivial (RX.pick_t rfl h2) ?_
      refine JL.go trivial (RX.movev (v := Value.bool _) rfl) ?_
      refine JL.no ⟨_, rfl, gno rfl⟩ ?_
      refine JL.no ⟨_, rfl, gno rfl⟩ ?_
      refine JL.no ⟨_, rfl, gno rfl⟩ ?_
      refine JL.no ⟨_, rfl, gno rfl⟩ ?_
      refine JL.no ⟨_, rfl, gno rfl⟩ ?_
      refine JL.go trivial (RX.pick_t rfl rfl) ?_
      refine JL.go trivial (RX.movev (v := Value.bool _) rfl) ?_
      refine JL.no ⟨_, rfl, gno rfl⟩ ?_
      refine JL.no ⟨_, rfl, gno rfl⟩ ?_
      refine JL.no ⟨_, rfl, gno rfl⟩ ?_
      refine JL.no ⟨_, rfl, gno rfl⟩ ?_
      refine JL.no ⟨_, rfl, gno rfl⟩ ?_
      refine JL.no ⟨_, rfl, gno rfl⟩ ?_
      refine JL.no ⟨_, rfl, gno rfl⟩ ?_
      refine JL.go trivial (RX.pick_t rfl rfl) ?_
      refine JL.nil ?_
      refine J.cond_t rfl rfl ?_
      refine J.seq ?_
      refine J.region ?_
      refine JL.go trivial (RX.assign) ?_
      refine JL.nil ?_
      refine J.ret1 (v := Value.bool _) Tryd.func18 rfl rfl ?_
      refine ⟨_, rfl, ?_, H.drop.drop⟩
      rw [decide_eq_false]
      intro h
      first | exact h1p (congrArg Prg.len h) | exact h2p (congrArg Prg.cells h) | exact h3p (congrArg Prg.inn h) | exact h4p (congrArg Prg.out h) | exact h5 (congrArg (fun x : Prg => (x.steps.length : Int)) h)
    · skip
      first | have h2p := of_decide_eq_false h2 | skip
      refine JL.go ⟨_, rfl, h2⟩ (RX.fieldAddr rfl fo33_2 rfl) ?_
      refine JL.go ⟨_, rfl, h2⟩ (by first | exact RX.load H rfl (i := 0) rfl rfl one3 | exact RX.load H rfl (i := 1) rfl rfl one3 | exact RX.load H rfl (i := 2) rfl rfl one3 | exact RX.load H rfl (i := 3) rfl rfl one3 | exact RX.load H rfl (i := 4) rfl rfl one3) ?_
      refine JL.go ⟨_, rfl, h2⟩ (RX.fieldAddr rfl fo33_2 rfl) ?_
      refine JL.go ⟨_, rfl, h2⟩ (by first | exact RX.load H rfl (i := 0) rfl rfl one3 | exact RX.load H rfl (i := 1) rfl rfl one3 | exact RX.load H rfl (i := 2) rfl rfl one3 | exact RX.load H rfl (i := 3) rfl rfl one3 | exact RX.load H rfl (i := 4) rfl rfl one3) ?_
      refine JL.go ⟨_, rfl, h2⟩ (RX.ne rfl rfl) ?_
      refine JL.go trivial (RX.pick_f rfl h2) ?_
      refine JL.go trivial (RX.movev (v := Value.bool _) rfl) ?_
      refine JL.splitS 25 rfl (fun h3 => ?_) (fun h3 => ?_)
      · skip
        first | have h3p := of_decide_eq_true h3 | skip
        refine JL.no ⟨_, rfl, gno h3⟩ ?_
        refine JL.no ⟨_, rfl, gno h3⟩ ?_
        refine JL.no ⟨_, rfl, gno h3⟩ ?_
        refine JL.no ⟨_, rfl, gno h3⟩ ?_
        refine JL.no ⟨_, rfl, gno h3⟩ ?_
        refine JL.go trivial (RX.pick_t rfl h3) ?_
        refine JL.go trivial (RX.movev (v := Value.bool _) rfl) ?_
        refine JL.no ⟨_, rfl, gno rfl⟩ ?_
        refine JL.no ⟨_, rfl, gno rfl⟩ ?_
        refine JL.no ⟨_, rfl, gno rfl⟩ ?_
        refine JL.no ⟨_, rfl, gno rfl⟩ ?_
        refine JL.no ⟨_, rfl, gno rfl⟩ ?_
        refine JL.no ⟨_, rfl, gno rfl⟩ ?_
        refine JL.no ⟨_, rfl, gno rfl⟩ ?_
        refine JL.go trivial (RX.pick_t rfl rfl) ?_
        refine JL.nil ?_
        refine J.cond_t rfl rfl ?_
        refine J.seq ?_
        refine J.region ?_
        refine JL.go trivial (RX.assign) ?_
        refine JL.nil ?_
        refine J.ret1 (v := Value.bool _) Tryd.func18 rfl rfl ?_
        refine ⟨_, rfl, ?_, H.drop.drop⟩
        rw [decide_eq_false]
        intro h
        first | exact h1p (congrArg Prg.len h) | exact h2p (congrArg Prg.cells h) | exact h3p (congrArg Prg.inn h) | exact h4p (congrArg Prg.out h) | exact h5 (congrArg (fun x : Prg => (x.steps.length : Int)) h)
      · skip
        first | have h3p := of_decide_eq_false h3 | skip
        refine JL.go ⟨_, rfl, h3⟩ (RX.fieldAddr rfl fo33_3 rfl) ?_
        refine JL.go ⟨_, rfl, h3⟩ (by first | exact RX.load H rfl (i := 0) rfl rfl one3 | exact RX.load H rfl (i := 1) rfl rfl one3 | exact RX.load H rfl (i := 2) rfl rfl one3 | exact RX.load H rfl (i := 3) rfl rfl one3 | exact RX.load H rfl (i := 4) rfl rfl one3) ?_
        refine JL.go ⟨_, rfl, h3⟩ (RX.fieldAddr rfl fo33_3 rfl) ?_
        refine JL.go ⟨_, rfl, h3⟩ (by first | exact RX.load H rfl (i := 0) rfl rfl one3 | exact RX.load H rfl (i := 1) rfl rfl one3 | exact RX.load H rfl (i := 2) rfl rfl one3 | exact RX.load H rfl (i := 3) rfl rfl one3 | exact RX.load H rfl (i := 4) rfl rfl one3) ?_
        refine JL.go ⟨_, rfl, h3⟩ (RX.ne rfl rfl) ?_
        refine JL.go trivial (RX.pick_f rfl h3) ?_
        refine JL.go trivial (RX.movev (v := Value.bool _) rfl) ?_
        refine JL.splitS 32 rfl (fun h4 => ?_) (fun h4 => ?_)
        · skip
          first | have h4p := of_decide_eq_true h4 | skip
          refine JL.no ⟨_, rfl, gno h4⟩ ?_
          refine JL.no ⟨_, rfl, gno h4⟩ ?_
          refine JL.no ⟨_, rfl, gno h4⟩ ?_
          refine JL.no ⟨_, rfl, gno h4⟩ ?_
          refine JL.no ⟨_, rfl, gno h4⟩ ?_
          refine JL.no ⟨_, rfl, gno h4⟩ ?_
          refine JL.no ⟨_, rfl, gno h4⟩ ?_
          refine JL.go trivial (RX.pick_t rfl h4) ?_
          refine JL.nil ?_
          refine J.cond_t rfl rfl ?_
          refine J.seq ?_
          refine J.region ?_
          refine JL.go trivial (RX.assign) ?_
          refine JL.nil ?_
          refine J.ret1 (v := Value.bool _) Tryd.func18 rfl rfl ?_
          refine ⟨_, rfl, ?_, H.drop.drop⟩
          rw [decide_eq_false]
          intro h
          first | exact h1p (congrArg Prg.len h) | exact h2p (congrArg Prg.cells h) | exact h3p (congrArg Prg.inn h) | exact h4p (congrArg Prg.out h) | exact h5 (congrArg (fun x : Prg => (x.steps.length : Int)) h)
        · skip
          first | have h4p := of_decide_eq_false h4 | skip
          refine JL.go ⟨_, rfl, h4⟩ (RX.fieldAddr rfl fo33_4 rfl) ?_
          refine JL.go ⟨_, rfl, h4⟩ (by first | exact RX.load H rfl (i := 0) rfl rfl one22 | exact RX.load H rfl (i := 1) rfl rfl one22 | exact RX.load H rfl (i := 2) rfl rfl one22 | exact RX.load H rfl (i := 3) rfl rfl one22 | exact RX.load H rfl (i := 4) rfl rfl one22) ?_
          refine JL.go ⟨_, rfl, h4⟩ (RX.len_slice rfl (by rw [sl22]; rfl) rfl) ?_
          refine JL.go ⟨_, rfl, h4⟩ (RX.fieldAddr rfl fo33_4 rfl) ?_
          refine JL.go ⟨_, rfl, h4⟩ (by first | exact RX.load H rfl (i := 0) rfl rfl one22 | exact RX.load H rfl (i := 1) rfl rfl one22 | exact RX.load H rfl (i := 2) rfl rfl one22 | exact RX.load H rfl (i := 3) rfl rfl one22 | exact RX.load H rfl (i := 4) rfl rfl one22) ?_
          refine JL.go ⟨_, rfl, h4⟩ (RX.len_slice rfl (by rw [sl22]; rfl) rfl) ?_
          refine JL.go ⟨_, rfl, h4⟩ (RX.ne rfl rfl) ?_
          refine JL.go trivial (RX.pick_f rfl h4) ?_
          refine JL.nil ?_
          refine J.cond_d rfl (fun h5 => ?_) (fun h5 => ?_)
          · skip
            refine J.seq ?_
            refine J.region ?_
            refine JL.go trivial (RX.assign) ?_
            refine JL.nil ?_
            refine J.ret1 (v := Value.bool _) Tryd.func18 rfl rfl ?_
            refine ⟨_, rfl, ?_, H.drop.drop⟩
            rw [decide_eq_false]
            intro h
            first | exact h1p (congrArg Prg.len h) | exact h2p (congrArg Prg.cells h) | exact h3p (congrArg Prg.inn h) | exact h4p (congrArg Prg.out h) | exact h5 (congrArg (fun x : Prg => (x.steps.length : Int)) h)
          · skip
            refine J.skip ?_
            refine J.seq ?_
            refine J.seq ?_
            refine J.region ?_
            refine JL.go trivial (RX.fieldAddr rfl fo33_4 rfl) ?_
            refine JL.go trivial (by first | exact RX.load H rfl (i := 0) rfl rfl one22 | exact RX.load H rfl (i := 1) rfl rfl one22 | exact RX.load H rfl (i := 2) rfl rfl one22 | exact RX.load H rfl (i := 3) rfl rfl one22 | exact RX.load H rfl (i := 4) rfl rfl one22) ?_
            refine JL.go trivial (RX.len_slice rfl (by rw [sl22]; rfl) rfl) ?_
            refine JL.go trivial (RX.move) ?_
            refine JL.nil ?_
            refine J.block ?_
            refine J.loop (ι := Nat) (S := fun i => [(44, .int .i64 (i : Nat))]) (Φ := fun i w => i ≤ p.steps.length ∧ p.steps.take i = q.steps.take i ∧ Hp w0 w ([(b2, cel (prgV q qp q.steps.length qc) 33)] :: [(b1, cel (prgV p pp p.steps.length pc) 33)] :: F)) (μ := fun i => p.steps.length - i) (C := [(2, _), (3, _), (43, _)]) 0 ⟨rfl, rfl, rfl, trivial⟩ ⟨rfl, trivial⟩ ?_ ?_
            · exact ⟨by omega, by simp, H⟩
            clear H
            rintro i ρ w ⟨hi, hpre, H⟩ IH
            refine J.seq ?_
            refine J.region ?_
            refine JL.go trivial (RX.lt rfl rfl) ?_
            refine JL.nil ?_
            refine J.seq ?_
            refine J.cond_d rfl (fun hlt => ?_) (fun hlt => ?_)
            · skip
              obtain ⟨s, hs⟩ : ∃ s, p.steps[i]? = some s := ⟨_, List.getElem?_eq_getElem (by omega)⟩
              obtain ⟨t, ht⟩ : ∃ t, q.steps[i]? = some t := ⟨_, List.getElem?_eq_getElem (by omega)⟩
              obtain ⟨pb, po, rfl, _⟩ := hp.some (by rw [stepsV_len]; omega)
              obtain ⟨qb, qo, rfl, _⟩ := hq.some (by rw [stepsV_len]; omega)
              refine J.skip ?_
              refine J.seq ?_
              refine J.block ?_
              refine J.seq ?_
              refine J.region ?_
              refine JL.go trivial (RX.movev (v := Value.int _ _) rfl) ?_
              refine JL.go trivial (RX.assignv (v := Value.int _ _) rfl) ?_
              refine JL.nil ?_
              refine J.seq ?_
              refine J.quietH H hmix (by kernel_rfl) ?_
              refine JQ.go trivial (fun w H => RX.fieldAddr rfl fo33_4 rfl) ?_
              refine JQ.go trivial (fun w H => by first | exact RX.load H rfl (i := 0) rfl rfl one22 | exact RX.load H rfl (i := 1) rfl rfl one22 | exact RX.load H rfl (i := 2) rfl rfl one22 | exact RX.load H rfl (i := 3) rfl rfl one22 | exact RX.load H rfl (i := 4) rfl rfl one22) ?_
              refine JQ.go trivial (fun w H => RX.movev (v := Value.int _ _) rfl) ?_
              refine JQ.go trivial (fun w H => RX.indexAddr rfl rfl sl22 (by omega) (by omega) rfl) ?_
              refine JQ.go trivial (fun w H => RX.loadAggS H hp.cons.cons rfl (j := i * 7) (by omega) (stepsV_read _ _ _ hs) ag25) ?_
              refine JQ.go trivial (fun w H => RX.fieldAddr rfl fo33_4 rfl) ?_
              refine JQ.go trivial (fun w H => by first | exact RX.load H rfl (i := 0) rfl rfl one22 | exact RX.load H rfl (i := 1) rfl rfl one22 | exact RX.load H rfl (i := 2) rfl rfl one22 | exact RX.load H rfl (i := 3) rfl rfl one22 | exact RX.load H rfl (i := 4) rfl rfl one22) ?_
              refine JQ.go trivial (fun w H => RX.movev (v := Value.int _ _) rfl) ?_
              refine JQ.go trivial (fun w H => RX.indexAddr rfl rfl sl22 (by omega) (by omega) rfl) ?_
              refine JQ.go trivial (fun w H => RX.loadAggS H hq.cons.cons rfl (j := i * 7) (by omega) (stepsV_read _ _ _ ht) ag25) ?_
              refine JQ.go trivial (fun w H => RX.agg_neq rfl rfl fl25 (step_dec s t)) ?_
              refine JQ.nil fun w H => ?_
              refine J.cond rfl (fun hst => ?_) (fun hst => ?_)
              · skip
                refine J.seq ?_
                refine J.region ?_
                refine JL.go trivial (RX.assign) ?_
                refine JL.nil ?_
                refine J.ret1 (v := Value.bool _) Tryd.func18 rfl rfl ?_
                refine ⟨_, rfl, ?_, H.drop.drop⟩
                rw [decide_eq_false]
                intro h
                subst h
                rw [hs] at ht
                cases ht
                simp at hst
              · skip
                refine J.skip ?_
                refine J.inBlock ?_
                refine J.region ?_
                refine JL.go trivial (RX.add rfl rfl (w_i64 rfl (by omega) (by omega))) ?_
                refine JL.go trivial (RX.movev (v := Value.int _ _) rfl) ?_
                refine JL.nil ?_
                exact IH (i + 1) _ _ (by omega) ⟨rfl, rfl, rfl, trivial⟩ ⟨rfl, trivial⟩ ⟨by omega, by rw [take_succ_get hs, take_succ_get ht, hpre, of_decide_eq_true (show decide (s = t) = true by simpa using hst)], H⟩
            · skip
              refine J.exit rfl ?_
              refine J.seq ?_
              refine J.region ?_
              refine JL.go trivial (RX.assign) ?_
              refine JL.nil ?_
              refine J.ret1 (v := Value.bool _) Tryd.func18 rfl rfl ?_
              refine ⟨_, rfl, ?_, H.drop.drop⟩
              rw [decide_eq_true]
              have hst : p.steps = q.steps := by
                have h6 : i = p.steps.length := by omega
                rw [h6, List.take_length, List.take_of_length_le (by omega)] at hpre
                exact hpre
              have e1 : p.len = q.len := by omega
              have e2 : p.cells = q.cells := by omega
              have e3 : p.inn = q.inn := by omega
              have e4 : p.out = q.out := by omega
              cases p; cases q
              simp_all
theorem rOp_b {w0 w : World} {F : List Seg} (H : Hp w0 w F) {nm : ByteArray} : Ret Tryd.prog 27 [.string nm] w fun v w' => ((∃ i : Nat, 1 ≤ i ∧ i ≤ 11 ∧ (rowOf i).nm = nm ∧ v = .tuple #[.int .i64 i, .bool true]) ∨ ((∀ i : Nat, 1 ≤ i → i ≤ 11 → (rowOf i).nm ≠ nm) ∧ v = .tuple #[.int .i64 0, .bool false])) ∧ Hp w0 w' F := by
  refine Calls.of_J (n := 23) Tryd.func27 rfl rfl rfl ?_
  refine J.seq ?_
  refine J.region ?_
  refine JL.go trivial (RX.assign) ?_
  refine JL.go trivial (RX.assign) ?_
  refine JL.nil ?_
  refine J.seq ?_
  refine J.seq ?_
  refine J.region ?_
  refine JL.does trivial (EX.call rfl cl29 rfl (rrows_b H)) ?_
  rintro _ w ⟨rb, rfl, H⟩
  refine JL.go trivial (RX.len_slice rfl (by rw [sl63]; rfl) rfl) ?_
  refine JL.go trivial (RX.move) ?_
  refine JL.nil ?_
  refine J.block ?_
  refine J.loop (ι := Nat) (S := fun k => [(8, .int .i64 (k : Nat))]) (Φ := fun k w => k ≤ 12 ∧ (∀ i : Nat, 1 ≤ i → i < k → (rowOf i).nm ≠ nm) ∧ Hp w0 w ([(rb, cel rrowsV 62)] :: F)) (μ := fun k => 12 - k) (C := [(0, _), (6, _), (7, _)]) 0 ⟨rfl, rfl, rfl, trivial⟩ ⟨rfl, trivial⟩ ?_ ?_
  · exact ⟨by omega, fun i h1 h2 => by omega, H⟩
  clear H
  rintro k ρ w ⟨hk2, hne, H⟩ IH
  refine J.seq ?_
  refine J.region ?_
  refine JL.go trivial (RX.lt rfl rfl) ?_
  refine JL.nil ?_
  refine J.seq ?_
  refine J.cond_d rfl (fun hle => ?_) (fun hle => ?_)
  · skip
    have hrow := rrows_read (op := (k : Int)) (by omega) (by omega)
    refine J.skip ?_
    refine J.seq ?_
    refine J.block ?_
    refine J.seq ?_
    refine J.region ?_
    refine JL.go trivial (RX.movev (v := Value.int _ _) rfl) ?_
    refine JL.go trivial (RX.indexAddr rfl rfl sl63 (by omega) (by omega) rfl) ?_
    refine JL.go trivial (RX.loadAggS H (SlAt.here (xs := rrowsV) rfl) rfl (j := (k : Int).toNat * 5) (by omega) hrow ag62) ?_
    refine JL.does trivial (EX.alloc H zr62 rfl) ?_
    rintro _ w ⟨b1, rfl, H⟩
    refine JL.go trivial (RX.assignv (v := Value.int _ _) rfl) ?_
    refine JL.does trivial (EX.storeAgg H rfl rfl (i := 0) (vs := (rowOf (k : Int)).rv) (l' := (rowOf (k : Int)).rv) rfl (rrow_cell _) (by simp [Row.rv]) sz62 rfl rfl) ?_
    rintro _ w H
    refine JL.nil ?_
    refine J.seq ?_
    refine J.region ?_
    refine JL.go trivial (RX.movev (v := Value.int _ _) rfl) ?_
    refine JL.go trivial (RX.gt rfl rfl) ?_
    refine JL.go trivial (RX.movev (v := Value.bool _) rfl) ?_
    refine JL.splitS 15 rfl (fun hpos => ?_) (fun hpos => ?_)
    · skip
      first | have hposp := of_decide_eq_true hpos | skip
      refine JL.go ⟨_, rfl, hpos⟩ (RX.fieldAddr rfl fo62_0 rfl) ?_
      refine JL.go ⟨_, rfl, hpos⟩ (by first | exact RX.load H rfl (i := 0) rfl rfl one9 | exact RX.load H rfl (i := 1) rfl rfl one9) ?_
      refine JL.go ⟨_, rfl, hpos⟩ (RX.movev (v := Value.string _) rfl) ?_
      refine JL.go ⟨_, rfl, hpos⟩ (RX.str_eql rfl rfl) ?_
      refine JL.go trivial (RX.pick_t rfl hpos) ?_
      refine JL.nil ?_
      refine J.cond_d rfl (fun heq => ?_) (fun heq => ?_)
      · skip
        refine J.seq ?_
        refine J.region ?_
        refine JL.go trivial (RX.movev (v := Value.int _ _) rfl) ?_
        refine JL.go trivial (RX.assignv (v := Value.int _ _) rfl) ?_
        refine JL.go trivial (RX.assign) ?_
        refine JL.nil ?_
        refine J.ret2 (v := Value.int _ _) (x := Value.bool _) Tryd.func27 rfl rfl rfl ?_
        exact ⟨_, rfl, .inl ⟨k, by omega, by omega, heq, rfl⟩, H.drop.drop⟩
      · skip
        refine J.skip ?_
        refine J.inBlock ?_
        refine J.region ?_
        refine JL.go trivial (RX.add rfl rfl (w_i64 rfl (by omega) (by omega))) ?_
        refine JL.go trivial (RX.movev (v := Value.int _ _) rfl) ?_
        refine JL.nil ?_
        exact IH (k + 1) _ _ (by omega) ⟨rfl, rfl, rfl, trivial⟩ ⟨rfl, trivial⟩ ⟨by omega, fun i h1 h2 => (by rcases Nat.lt_or_ge i k with h | h; exact hne i h1 h; have : i = k := (by omega); rw [this]; exact heq), H.drop⟩
    · skip
      first | have hposp := of_decide_eq_false hpos | skip
      refine JL.no ⟨_, rfl, gno hpos⟩ ?_
      refine JL.no ⟨_, rfl, gno hpos⟩ ?_
      refine JL.no ⟨_, rfl, gno hpos⟩ ?_
      refine JL.no ⟨_, rfl, gno hpos⟩ ?_
      refine JL.go trivial (RX.pick_f rfl hpos) ?_
      refine JL.nil ?_
      refine J.cond_f rfl rfl ?_
      refine J.skip ?_
      refine J.inBlock ?_
      refine J.region ?_
      refine JL.go trivial (RX.add rfl rfl (w_i64 rfl (by omega) (by omega))) ?_
      refine JL.go trivial (RX.movev (v := Value.int _ _) rfl) ?_
      refine JL.nil ?_
      exact IH (k + 1) _ _ (by omega) ⟨rfl, rfl, rfl, trivial⟩ ⟨rfl, trivial⟩ ⟨by omega, fun i h1 h2 => (by omega), H.drop⟩
  · skip
    refine J.exit rfl ?_
    refine J.seq ?_
    refine J.region ?_
    refine JL.go trivial (RX.assign) ?_
    refine JL.go trivial (RX.assign) ?_
    refine JL.nil ?_
    refine J.ret2 (v := Value.int _ _) (x := Value.bool _) Tryd.func27 rfl rfl rfl ?_
    exact ⟨_, rfl, .inr ⟨fun i h1 h2 => hne i h1 (by omega), rfl⟩, H.drop⟩

theorem op_uniq {nm : ByteArray} {v u : Value} (h1 : (∃ i : Nat, 1 ≤ i ∧ i ≤ 11 ∧ (rowOf i).nm = nm ∧ v = .tuple #[.int .i64 i, .bool true]) ∨ ((∀ i : Nat, 1 ≤ i → i ≤ 11 → (rowOf i).nm ≠ nm) ∧ v = .tuple #[.int .i64 0, .bool false]))
    (h2 : (∃ i : Nat, 1 ≤ i ∧ i ≤ 11 ∧ (rowOf i).nm = nm ∧ u = .tuple #[.int .i64 i, .bool true]) ∨ ((∀ i : Nat, 1 ≤ i → i ≤ 11 → (rowOf i).nm ≠ nm) ∧ u = .tuple #[.int .i64 0, .bool false])) : v = u := by
  have inj : ∀ i j : Fin 12, 1 ≤ i.val → 1 ≤ j.val → (rowOf i.val).nm = (rowOf j.val).nm → i = j := by decide
  rcases h1 with ⟨i, hi0, hi1, hi, rfl⟩ | ⟨hi, rfl⟩
  · rcases h2 with ⟨j, hj0, hj1, hj, rfl⟩ | ⟨hj, rfl⟩
    · have := inj ⟨i, by omega⟩ ⟨j, by omega⟩ hi0 hj0 (hi.trans hj.symm)
      have : i = j := by simpa using this
      subst this; rfl
    · exact absurd hi (hj i hi0 hi1)
  · rcases h2 with ⟨j, hj0, hj1, hj, rfl⟩ | ⟨hj, rfl⟩
    · exact absurd hj (hi j hj0 hj1)
    · rfl
def stpM (x : Int) : Stp := ⟨x, 0, 0, 0, 0, 0, 0⟩

theorem copied_b {w0 w : World} {F : List Seg} {p : Prg} {pp : Option Addr} {pc : Nat} (H : Hp w0 w F) (hst : SlAt F pp (stepsV p.steps)) (hnum : p.steps.length ≤ 2199023255552) : Ret Tryd.prog 15 [.agg (prgV p pp p.steps.length pc).toArray] w fun v w' => ∃ fp fc fs, v = .tuple #[.agg (prgV p fp p.steps.length fc).toArray, .slice fp (p.steps.length + 1) fc] ∧ OwnSl 25 7 fp (p.steps.length + 1) fc (stepsV (p.steps ++ [stpM (-77)])) fs ∧ Hp w0 w' (fs :: F) := by
  refine Calls.of_J (n := 20) Tryd.func15 rfl rfl rfl ?_
  refine J.seq ?_
  refine J.region ?_
  refine JL.does trivial (EX.box (v := Value.agg _) H rfl rfl) ?_
  rintro _ w ⟨b1, rfl, H⟩
  refine JL.does trivial (EX.alloc H zr33 rfl) ?_
  rintro _ w ⟨b2, rfl, H⟩
  refine JL.go trivial (RX.assign) ?_
  refine JL.nil ?_
  refine J.seq ?_
  refine J.region ?_
  refine JL.does trivial (EX.buildSlice0 H elS) ?_
  rintro _ w ⟨b0, rfl, H⟩
  refine JL.go trivial (RX.fieldAddr rfl fo33_4 rfl) ?_
  refine JL.go trivial (by first | exact RX.load H rfl (i := 0) rfl rfl one22 | exact RX.load H rfl (i := 1) rfl rfl one22 | exact RX.load H rfl (i := 2) rfl rfl one22 | exact RX.load H rfl (i := 3) rfl rfl one22) ?_
  refine JL.does trivial (EX.append (ys := stepsV p.steps) (L' := fun s' => s' :: [(b2, cel (prgV prg0 none 0 0) 33)] :: [(b1, cel (prgV p pp p.steps.length pc) 33)] :: F) H elS rfl rfl (i := 0) rfl OwnSl.empty hst.cons.cons.cons (stepsV_len _) (stepsV_cell _) (by decide) (by omega) (by omega) (fun _ => rfl)) ?_
  rintro _ w ⟨p1, c1, s1, rfl, ho1, H⟩
  refine JL.go trivial (RX.build (pv := [(0, .int .i64 (-77))]) (res := (stpM (-77)).v) rfl (by kernel_rfl)) ?_
  refine JL.does trivial (EX.buildSlice (pv := [(0, .agg (stpM (-77)).v.toArray)]) (l := (stpM (-77)).v) (e := 25) H rfl (by kernel_rfl)) ?_
  rintro _ w ⟨bb, rfl, H⟩
  refine JL.does trivial (EX.append (ys := (stpM (-77)).v) (L' := fun s' => [(bb, cel (stpM (-77)).v 25)] :: s' :: [(b2, cel (prgV prg0 none 0 0) 33)] :: [(b1, cel (prgV p pp p.steps.length pc) 33)] :: F) H elS rfl rfl (i := 1) rfl ho1 (SlAt.here rfl) rfl (stp_cell _) (by decide) (by omega) (by omega) (fun _ => rfl)) ?_
  rintro _ w ⟨fp, fc, fs, rfl, hof, H⟩
  refine JL.go trivial (RX.assignv (v := Value.slice _ _ _) rfl) ?_
  refine JL.nil ?_
  replace H := H.drop
  simp only [Nat.zero_add, List.nil_append] at hof H
  have hle := hof.le
  have hspot : ∀ a, fp = some a → a.spot = none := by
    intro a ha
    obtain ⟨g, l, h1, _⟩ := hof.ptr (by omega)
    rw [h1] at ha; cases ha; rfl
  refine J.seq ?_
  refine J.region ?_
  refine JL.go trivial (RX.movev (v := Value.slice _ _ _) rfl) ?_
  refine JL.go trivial (RX.fieldAddr rfl fo33_4 rfl) ?_
  refine JL.go trivial (by first | exact RX.load H rfl (i := 0) rfl rfl one22 | exact RX.load H rfl (i := 1) rfl rfl one22 | exact RX.load H rfl (i := 2) rfl rfl one22 | exact RX.load H rfl (i := 3) rfl rfl one22) ?_
  refine JL.go trivial (RX.len_slice rfl (by rw [sl22]; rfl) rfl) ?_
  refine JL.go trivial (RX.slice_h rfl rfl sl22 hspot (by omega) (by omega) rfl) ?_
  refine JL.go trivial (RX.fieldAddr rfl fo33_4 rfl) ?_
  refine JL.does trivial (EX.store (v := Value.slice _ _ _) H rfl rfl (i := 2) (l' := prgV p fp p.steps.length fc) rfl rfl (by simp [prgV]) sz22 rfl rfl) ?_
  rintro _ w H
  refine JL.nil ?_
  refine J.seq ?_
  refine J.region ?_
  refine JL.go trivial (RX.loadAgg H rfl (i := 2) (vs := prgV p fp p.steps.length fc) rfl rfl ag33) ?_
  refine JL.go trivial (RX.movev (v := Value.slice _ _ _) rfl) ?_
  refine JL.does trivial (EX.storeAgg H rfl rfl (i := 1) (l' := prgV p fp p.steps.length fc) rfl prgV_cell (by simp [prgV]) sz33 rfl rfl) ?_
  rintro _ w H
  refine JL.go trivial (RX.assignv (v := Value.slice _ _ _) rfl) ?_
  refine JL.nil ?_
  first | refine J.retct (x := Value.slice _ _ _) Tryd.func15 rfl H rfl (i := 0) rfl rfl ag33 rfl ?_ | refine J.retct (x := Value.slice _ _ _) Tryd.func15 rfl H rfl (i := 1) rfl rfl ag33 rfl ?_ | refine J.retct (x := Value.slice _ _ _) Tryd.func15 rfl H rfl (i := 2) rfl rfl ag33 rfl ?_ | refine J.retct (x := Value.slice _ _ _) Tryd.func15 rfl H rfl (i := 3) rfl rfl ag33 rfl ?_
  exact ⟨_, rfl, fp, fc, fs, (by simp [prgV]), by rw [stepsV_app]; simpa [stepsV] using hof, (H.pull 1 rfl).drop.pull 1 rfl |>.drop⟩
theorem Encode_e {w0 w : World} {F : List Seg} {E : Nat → Value} (H : Hp w0 w F) (h5 : E5 F E) (hT : SlAt F (some ⟨1, 0, none⟩) tableC) {p : Prg} {pp : Option Addr} {pc : Nat} (hst : SlAt F pp (stepsV p.steps)) (hp : p.Ok) : Ret Tryd.prog 16 [.agg (prgV p pp p.steps.length pc).toArray] w fun v w' =>
      ∃ q c s, v = .tuple #[.slice q (encO p).length c, errV E (if encOk p then 0 else 9)] ∧ OwnSl 5 1 q (encO p).length c (bv (encO p)) s ∧ Hp w0 w' (s :: F) :=
  (Encode_b H h5.g9 hT hst hp).mono fun v w' h => by
    obtain ⟨q, c, s, rfl, h⟩ := h
    exact ⟨q, c, s, by cases encOk p <;> rfl, h⟩
theorem Decode_e {w0 w : World} {F : List Seg} {E : Nat → Value} (H : Hp w0 w F) (h5 : E5 F E) (hT : SlAt F (some ⟨1, 0, none⟩) tableC) {p : Option Addr} {c : Nat} {bs : List UInt8} (hs : SlAt F p (bv bs)) (hl : bs.length ≤ 1099511627776) :
      Ret Tryd.prog 19 [.slice p bs.length c] w fun v w' => ∃ q pp pc ps, v = .tuple #[.agg (prgV q pp q.steps.length pc).toArray, errV E (if (progS bs).isSome then 0 else 9)] ∧ OwnSl 25 7 pp q.steps.length pc (stepsV q.steps) ps ∧
        (∀ s ∈ q.steps, formB s = true) ∧ q = (progS bs).getD prg0 ∧ Hp w0 w' (ps :: F) :=
  (Decode_b H hs hl h5.g1 h5.g2 h5.g3 h5.g4 h5.g9 hT).mono fun v w' h => by
    obtain ⟨q, pp, pc, ps, rfl, h⟩ := h
    exact ⟨q, pp, pc, ps, by cases (progS bs).isSome <;> rfl, h⟩
theorem Form_e {w0 w : World} {F : List Seg} {E : Nat → Value} (H : Hp w0 w F) (h5 : E5 F E) (hT : SlAt F (some ⟨1, 0, none⟩) tableC) {s : Stp} (hs : s.Ok) : Ret Tryd.prog 13 [.agg s.v.toArray] w fun v w' => v = errV E (if formB s then 0 else 9) ∧ Hp w0 w' F :=
  (Form_b H h5.g9 hT hs).mono fun v w' h => by
    obtain ⟨rfl, h⟩ := h
    exact ⟨by cases formB s <;> rfl, h⟩
def s00 : Stp := ⟨3, 0, 0, 0, 1, 0, 0⟩
def p00 : Prg := ⟨1, 1, 0, 0, [s00]⟩
def b00 : List UInt8 := [1, 1, 0, 0, 1, 3, 0, 1]
theorem s00_ok : s00.Ok := by constructor <;> decide
theorem p00_ok : p00.Ok := ⟨by decide, by decide, by decide, by decide, fun s hs => by rw [List.mem_singleton.1 hs]; exact s00_ok, by decide⟩
theorem enc00 : encOk p00 = true ∧ encO p00 = b00 := by
  have h : encOk p00 = true := by decide
  refine ⟨h, ?_⟩
  simp only [encO, h, if_true]
  have v0 : varint 0 = [0] := varint_lt (by decide)
  have v1 : varint 1 = [1] := varint_lt (by decide)
  have v3 : varint 3 = [3] := varint_lt (by decide)
  have hn : stpNums s00 = [3, 0, 1] := by decide
  simp only [encV, encStps, encStp, p00, Prg.heads, List.map_cons, List.map_nil, hn, vints, List.flatten_cons, List.flatten_nil, List.length_cons, List.length_nil, Int.toNat, v0, v1, v3, Nat.zero_add]
  simp [v0, v1, v3, b00]
theorem dec00 : progS b00 = some p00 := by decide
theorem num63 {p : Prg} (h : p.Ok) : p.steps.length ≤ 9223372036854775807 := Nat.le_trans h.num (by decide)
theorem stp0_ok : stp0.Ok := stp0_bd.ok

theorem lives_b {w0 w : World} {F : List Seg} {E : Nat → Value} (H : Hp w0 w F) (h5 : E5 F E) (hT : SlAt F (some ⟨1, 0, none⟩) tableC) : Ret Tryd.prog 10 [] w fun v w' => v = .bool true ∧ Hp w0 w' F := by
  refine Calls.of_J (n := 67) Tryd.func10 rfl rfl rfl ?_
  refine J.seq ?_
  refine J.region ?_
  refine JL.go trivial (RX.assign) ?_
  refine JL.nil ?_
  refine J.seq ?_
  obtain ⟨hok, hen⟩ := enc00
  have hde := dec00
  refine J.region ?_
  refine JL.go trivial (RX.build (pv := [(0, .int .i64 3), (4, .int .i64 1)]) (res := s00.v) rfl (by kernel_rfl)) ?_
  refine JL.does trivial (EX.buildSlice (pv := [(0, .agg s00.v.toArray)]) (l := stepsV p00.steps) (e := 25) H rfl (by kernel_rfl)) ?_
  rintro _ w ⟨bq, rfl, H⟩
  refine JL.go trivial (RX.build (pv := [(0, .int .i64 1), (1, .int .i64 1), (4, .slice (some ⟨bq, 0, none⟩) 1 1)]) (res := prgV p00 (some ⟨bq, 0, none⟩) p00.steps.length 1) rfl (by kernel_rfl)) ?_
  refine JL.does trivial (EX.alloc H zr33 rfl) ?_
  rintro _ w ⟨ba, rfl, H⟩
  refine JL.does trivial (EX.storeAgg H rfl rfl (i := 0) (l' := prgV p00 (some ⟨bq, 0, none⟩) p00.steps.length 1) rfl prgV_cell (by simp [prgV]) sz33 rfl rfl) ?_
  rintro _ w H
  refine JL.nil ?_
  refine J.seq ?_
  refine J.region ?_
  refine JL.go trivial (RX.loadAgg H rfl (i := 0) (vs := prgV p00 (some ⟨bq, 0, none⟩) p00.steps.length 1) rfl rfl ag33) ?_
  refine JL.does trivial (EX.call rfl cl16 rfl ((Encode_e H h5.cons.cons hT.cons.cons (SlAt.here (xs := stepsV p00.steps) rfl).cons p00_ok))) ?_
  rintro _ w ⟨q, qc, qs, rfl, hoq, H⟩
  rw [hen] at hoq ⊢
  rw [hok]
  refine JL.go trivial (RX.movev (v := Value.tuple _) rfl) ?_
  refine JL.go trivial (RX.extract rfl rfl) ?_
  refine JL.go trivial (RX.extract rfl rfl) ?_
  refine JL.go trivial (RX.assignv (v := Value.slice _ _ _) rfl) ?_
  refine JL.go trivial (RX.assign) ?_
  refine JL.nil ?_
  refine J.seq ?_
  refine J.region ?_
  refine JL.go trivial (RX.movev (v := Value.slice _ _ _) rfl) ?_
  refine JL.does trivial (EX.call rfl cl19 rfl ((Decode_e H h5.cons.cons.cons hT.cons.cons.cons hoq.slAt (by decide)))) ?_
  rintro _ w ⟨q2, pp, pc, ps, rfl, hop, hfs, hq2, H⟩
  rw [hde] at hq2 ⊢
  change q2 = p00 at hq2
  subst hq2
  refine JL.go trivial (RX.movev (v := Value.tuple _) rfl) ?_
  refine JL.go trivial (RX.extract rfl rfl) ?_
  refine JL.go trivial (RX.extract rfl rfl) ?_
  refine JL.does trivial (EX.alloc H zr33 rfl) ?_
  rintro _ w ⟨bd, rfl, H⟩
  refine JL.does trivial (EX.storeAgg H rfl rfl (i := 0) (l' := prgV p00 pp p00.steps.length pc) rfl prgV_cell (by simp [prgV]) sz33 rfl rfl) ?_
  rintro _ w H
  refine JL.go trivial (RX.assign) ?_
  refine JL.nil ?_
  refine J.seq ?_
  refine J.region ?_
  refine JL.does trivial (EX.call rfl cl24 rfl ((name_b H hT.cons.cons.cons.cons.cons))) ?_
  rintro _ w ⟨rfl, H⟩
  refine JL.go trivial (RX.movev (v := Value.tuple _) rfl) ?_
  refine JL.go trivial (RX.extract (vs := nameV 4) (v := .string (rowOf 4).nm) rfl rfl) ?_
  refine JL.go trivial (RX.extract (vs := nameV 4) (v := .bool true) rfl rfl) ?_
  refine JL.go trivial (RX.assignv (v := Value.string _) rfl) ?_
  refine JL.go trivial (RX.assignv (v := Value.bool _) rfl) ?_
  refine JL.nil ?_
  refine J.seq ?_
  refine J.region ?_
  refine JL.go trivial (RX.move) ?_
  refine JL.go trivial (RX.ifnil_eql (v := errV E (if true = true then 0 else 9)) rfl rfl rfl if29) ?_
  refine JL.go trivial (RX.movev (v := Value.bool _) rfl) ?_
  refine JL.go ⟨_, rfl, rfl⟩ (RX.movev (v := Value.slice _ _ _) rfl) ?_
  refine JL.go ⟨_, rfl, rfl⟩ (RX.b2s (l := b00) H rfl hoq.slAt.cons.cons sl36 ud5 ud9) ?_
  refine JL.go ⟨_, rfl, rfl⟩ (RX.str_eql rfl rfl) ?_
  refine JL.go trivial (RX.pick_t rfl rfl) ?_
  refine JL.go trivial (RX.movev (v := Value.bool _) rfl) ?_
  refine JL.go ⟨_, rfl, (decide_eq_true rfl)⟩ (RX.move) ?_
  refine JL.go ⟨_, rfl, (decide_eq_true rfl)⟩ (RX.ifnil_eql (v := errV E (if (some p00).isSome = true then 0 else 9)) rfl rfl rfl if29) ?_
  refine JL.go trivial (RX.pick_t rfl (decide_eq_true rfl)) ?_
  refine JL.go trivial (RX.movev (v := Value.bool _) rfl) ?_
  refine JL.go ⟨_, rfl, rfl⟩ (RX.fieldAddr rfl fo33_4 rfl) ?_
  refine JL.go ⟨_, rfl, rfl⟩ (by first | exact RX.load H rfl (i := 0) rfl rfl one22 | exact RX.load H rfl (i := 1) rfl rfl one22 | exact RX.load H rfl (i := 2) rfl rfl one22 | exact RX.load H rfl (i := 3) rfl rfl one22 | exact RX.load H rfl (i := 4) rfl rfl one22) ?_
  refine JL.go ⟨_, rfl, rfl⟩ (RX.len_slice rfl (by rw [sl22]; rfl) rfl) ?_
  refine JL.go ⟨_, rfl, rfl⟩ (RX.eq rfl rfl) ?_
  refine JL.go trivial (RX.pick_t rfl rfl) ?_
  refine JL.go trivial (RX.movev (v := Value.bool _) rfl) ?_
  refine JL.go ⟨_, rfl, (decide_eq_true rfl)⟩ (RX.loadAgg H rfl (i := 3) (vs := prgV p00 (some ⟨bq, 0, none⟩) p00.steps.length 1) rfl rfl ag33) ?_
  refine JL.go ⟨_, rfl, (decide_eq_true rfl)⟩ (RX.loadAgg H rfl (i := 0) (vs := prgV p00 pp p00.steps.length pc) rfl rfl ag33) ?_
  refine JL.does ⟨_, rfl, (decide_eq_true rfl)⟩ (EX.call rfl cl21 rfl ((Same_b H (SlAt.here (xs := stepsV p00.steps) rfl).cons.cons.cons.cons hop.slAt.cons (by decide) (by decide)))) ?_
  rintro _ w ⟨rfl, H⟩
  refine JL.go trivial (RX.pick_t rfl (decide_eq_true rfl)) ?_
  refine JL.go trivial (RX.movev (v := Value.bool _) rfl) ?_
  refine JL.go ⟨_, rfl, (decide_eq_true rfl)⟩ (RX.movev (v := Value.bool _) rfl) ?_
  refine JL.go trivial (RX.pick_t rfl (decide_eq_true rfl)) ?_
  refine JL.go trivial (RX.movev (v := Value.bool _) rfl) ?_
  refine JL.go ⟨_, rfl, rfl⟩ (RX.movev (v := Value.string _) rfl) ?_
  refine JL.go ⟨_, rfl, rfl⟩ (RX.str_eql rfl rfl) ?_
  refine JL.go trivial (RX.pick_t rfl rfl) ?_
  refine JL.go trivial (RX.movev (v := Value.bool _) rfl) ?_
  refine JL.go ⟨_, rfl, (decide_eq_true rfl)⟩ (RX.fieldAddr rfl fo33_4 rfl) ?_
  refine JL.go ⟨_, rfl, (decide_eq_true rfl)⟩ (by first | exact RX.load H rfl (i := 0) rfl rfl one22 | exact RX.load H rfl (i := 1) rfl rfl one22 | exact RX.load H rfl (i := 2) rfl rfl one22 | exact RX.load H rfl (i := 3) rfl rfl one22 | exact RX.load H rfl (i := 4) rfl rfl one22) ?_
  refine JL.go ⟨_, rfl, (decide_eq_true rfl)⟩ (RX.indexAddr rfl rfl sl22 (by decide) (by decide) rfl) ?_
  refine JL.go ⟨_, rfl, (decide_eq_true rfl)⟩ (RX.loadAggS H (SlAt.here (xs := stepsV p00.steps) rfl).cons.cons.cons.cons rfl (j := 0) rfl (stepsV_read p00.steps 0 s00 rfl) ag25) ?_
  refine JL.does ⟨_, rfl, (decide_eq_true rfl)⟩ (EX.call rfl cl14 rfl ((Acts_b H hT.cons.cons.cons.cons.cons s00_ok))) ?_
  rintro _ w ⟨rfl, H⟩
  refine JL.go ⟨_, rfl, (decide_eq_true rfl)⟩ (RX.eq rfl rfl) ?_
  refine JL.go trivial (RX.pick_t rfl (decide_eq_true rfl)) ?_
  refine JL.go trivial (RX.movev (v := Value.bool _) rfl) ?_
  refine JL.go ⟨_, rfl, (decide_eq_true rfl)⟩ (RX.build (pv := []) (res := stp0.v) rfl (by kernel_rfl)) ?_
  refine JL.does ⟨_, rfl, (decide_eq_true rfl)⟩ (EX.call rfl cl13 rfl ((Form_e H h5.cons.cons.cons.cons.cons hT.cons.cons.cons.cons.cons stp0_ok))) ?_
  rintro _ w ⟨rfl, H⟩
  refine JL.go ⟨_, rfl, (decide_eq_true rfl)⟩ (RX.ifnil_neq (v := errV E (if formB stp0 = true then 0 else 9)) rfl rfl (err9_ie h5 (by decide)).1 if29) ?_
  refine JL.go trivial (RX.pick_t rfl (decide_eq_true rfl)) ?_
  refine JL.go trivial (RX.assignv (v := Value.bool _) rfl) ?_
  refine JL.nil ?_
  refine J.ret1 (v := Value.bool _) Tryd.func10 rfl rfl ?_
  have hz := (err9_ie h5 (n := if formB stp0 = true then 0 else 9) (by decide)).2
  rw [decide_eq_false (by decide)] at hz
  rw [hz]
  exact ⟨_, rfl, rfl, H.drop.drop.drop.drop.drop⟩
end Go.Proofs.YtnbbeghaeijcbaaDoor

/- The errors. -/
import Derived.Test.YtahjlcglidgadaaGreatDoorBase
import Derived.Test.YtahjlcglidgadaaGreatDoorFacts
namespace Go.Proofs.YtahjlcglidgadaaGreatDoor
open Go Go.Eng
set_option maxRecDepth 100000
set_option linter.unusedVariables false
set_option linter.unusedSimpArgs false
def i64ok (x : Int) : Prop := -9223372036854775808 ≤ x ∧ x ≤ 9223372036854775807
instance {x : Int} : Decidable (i64ok x) := inferInstanceAs (Decidable (_ ∧ _))
def errG : List Nat := [0, 0, 0, 0, 0, 0, 0, 0, 0, 0, 0, 3, 0, 0, 0, 0, 0, 2, 0, 1]
structure Errs (F : List Seg) (E : Nat → Value) (Q : Nat → Addr) : Prop where
  at_ : ∀ i, 1 ≤ i → i ≤ 19 → GErr F ((errG[i]?).getD 0) (E i)
  er : ∀ i, 1 ≤ i → i ≤ 19 → ErrAt F 263 (E i) (Q i)
  inj : True
theorem Errs.cons {F : List Seg} {s : Seg} {E : Nat → Value} {Q : Nat → Addr} (h : Errs F E Q) : Errs (s :: F) E Q :=
  ⟨fun i h0 h1 => (h.at_ i h0 h1).cons, fun i h0 h1 => (h.er i h0 h1).cons, h.inj⟩
theorem isErr_cell {v : Value} (h : isErr v = true) : isCell v = true := by cases v <;> first | rfl | cases h
def errV (E : Nat → Value) (n : Nat) : Value := if n = 0 then .nilIface else E n
theorem errV_pos {E : Nat → Value} {n : Nat} (h : 0 < n) : errV E n = E n := if_neg (by omega)
theorem errV_ie {F : List Seg} {E : Nat → Value} {Q : Nat → Addr} (h : Errs F E Q) {n : Nat} (hn : n ≤ 19) : isErr (errV E n) = true ∧ isNil (errV E n) = decide (n = 0) := by
  by_cases h0 : n = 0
  · subst h0; exact ⟨rfl, rfl⟩
  · have := h.at_ n (by omega) hn
    rw [errV_pos (by omega), decide_eq_false h0]
    exact ⟨this.ie, this.nn⟩
theorem ptE : ptrTo Tryz.prog 263 = true := by kernel_rfl
end Go.Proofs.YtahjlcglidgadaaGreatDoor

/- General rules for stepping through a function: no program stands in them. -/
import Derived.Test.YtfpphoapknecfaaGreatDoorBesafterEng11
import Derived.Laws.Pointers
namespace Go.Eng
open Go
variable {D : List Deferred}

section
variable {P : Program} {ρ : Operand → Value} {w w0 : World} {L : List Seg} {d : Option Tmp} {ty : TypeId} {pos : String} {af : Array Edge} {g : Option (Nat × Bool)} {x y : Operand}
theorem RX.ptrnil_eql {t t' : TypeId} {a : Option Addr} (hx : ρ x = .pointer a) (hy : ρ y = .pointer none) (h : P.underlying t = some (.pointer (P.pointee t))) : Runs P ρ ⟨d, .binOp .eql t x y t', ty, pos, af, g⟩ w (.bool a.isNone) := by
  unfold Runs
  simp [execOp, hx, hy, eqGuard_at_pointer, run_eql_pointer_nil w t a h]
theorem RX.ptrnil_neq {t t' : TypeId} {a : Option Addr} (hx : ρ x = .pointer a) (hy : ρ y = .pointer none) (h : P.underlying t = some (.pointer (P.pointee t))) : Runs P ρ ⟨d, .binOp .neq t x y t', ty, pos, af, g⟩ w (.bool (!a.isNone)) := by
  unfold Runs
  simp [execOp, hx, hy, eqGuard_at_pointer, run_neq_pointer_nil w t a h]
/-- The cells behind the first r elements. -/
theorem SlAt.behind {p : Option Addr} {xs : List Value} {cap r sz : Nat} (h : SlAt L p xs) (hc : xs.length ≤ cap * sz) : SlAt L (behind p cap r sz) (xs.drop (r * sz)) := by
  rcases h with rfl | ⟨b, off, C, T, fz, rfl, hm, hcell⟩
  · exact .inl (by simp)
  · unfold Eng.behind
    simp only
    split
    · rename_i hr
      exact .inl (List.drop_eq_nil_of_le (by rw [← hr]; exact hc))
    · refine .inr ⟨b, off + r * sz, C, T, fz, rfl, hm, fun j hj => ?_⟩
      rw [List.length_drop] at hj
      rw [List.getElem?_drop, ← hcell _ (by omega), Nat.add_assoc]
theorem SlAt.take {p : Option Addr} {xs : List Value} {n : Nat} (h : SlAt L p xs) : SlAt L p (xs.take n) := by
  have e : xs.take n ++ xs.drop n = xs := List.take_append_drop n xs
  rw [← e] at h
  exact h.pre
/-- One element of a list of elements of equal size. -/
theorem readN_flat {α : Type} {f : α → List Value} {sz : Nat} (hf : ∀ x, (f x).length = sz) {l : List α} {i : Nat} {x : α} (hi : l[i]? = some x) : readN ((l.map f).flatten) (i * sz) sz = some (f x) := by
  have key : ∀ (l : List α) (i : Nat), l[i]? = some x → (((l.map f).flatten).drop (i * sz)).take sz = f x := by
    intro l
    induction l with
    | nil => intro i h; simp at h
    | cons a l ih =>
      intro i h
      cases i with
      | zero =>
        have h : a = x := by simpa using h
        subst h
        simp only [List.map_cons, List.flatten_cons, Nat.zero_mul, List.drop_zero]
        rw [← hf a, List.take_left]
      | succ i =>
        have h : l[i]? = some x := by simpa using h
        rw [List.map_cons, List.flatten_cons, List.drop_append, List.drop_eq_nil_of_le (by rw [hf, Nat.add_mul]; omega), hf, List.nil_append, show (i + 1) * sz - sz = i * sz by rw [Nat.add_mul]; omega]
        exact ih i h
  unfold readN
  simp only [key l i hi, hf, if_true]
end
end Go.Eng

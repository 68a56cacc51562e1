/- General rules for stepping through a function: no program stands in them. -/
import Derived.Test.YtfpphoapknecfaaGreatDoorBesafterEng9
namespace Go.Eng
open Go
variable {D : List Deferred}

section
variable {P : Program} {w w0 : World} {L : List Seg} {A A' s s' : Seg} {i j : Nat}
theorem set_nil_perm : ∀ {L : List Seg} {i : Nat} {s s' : Seg}, i < L.length → L[i]? = some s → (s' :: L.set i []).flatten.Perm (L.set i s').flatten
  | t :: L, 0, s, s', _, _ => by simp
  | t :: L, i + 1, s, s', hi, h => by
    have ih := set_nil_perm (L := L) (i := i) (s := s) (s' := s') (by simpa using hi) (by simpa using h)
    simp only [List.set_cons_succ, List.flatten_cons] at ih ⊢
    refine List.Perm.trans ?_ (ih.append_left t)
    rw [← List.append_assoc, ← List.append_assoc]
    exact List.Perm.append_right _ List.perm_append_comm
theorem getE_lt {α : Type} {l : List α} {i : Nat} {a : α} (h : l[i]? = some a) : i < l.length := (List.getElem?_eq_some_iff.1 h).1
theorem set_self {α : Type} {l : List α} {i : Nat} {a : α} (h : l[i]? = some a) : l.set i a = l := by
  have hi := getE_lt h
  rw [List.getElem?_eq_getElem hi] at h
  cases h
  exact List.set_getElem_self hi
/-- Segment i to the front, an empty one in its place. -/
theorem Hp.out (h : Hp w0 w L) (hi : L[i]? = some s) : Hp w0 w (s :: L.set i []) := by
  have := set_nil_perm (s' := s) (getE_lt hi) hi
  rw [set_self hi] at this
  exact perm_of_flatten h this.symm
theorem Hp.back (h : Hp w0 w (s' :: L.set i [])) (hi : L[i]? = some s) : Hp w0 w (L.set i s') := perm_of_flatten h (set_nil_perm (getE_lt hi) hi)
theorem set_get {L : List Seg} {t : Seg} (hj : L[j]? = some s) (hij : i ≠ j) : (L.set i t)[j]? = some s := by rw [List.getElem?_set_ne hij]; exact hj
/-- Two segments to the front. -/
theorem Hp.two (h : Hp w0 w L) (hi : L[i]? = some A) (hj : L[j]? = some s) (hij : i ≠ j) : Hp w0 w (A :: s :: (L.set i []).set j []) :=
  perm_of_flatten ((h.out hi).out (i := j + 1) (by simpa using set_get hj hij)) (by simp only [List.set_cons_succ, List.flatten_cons]; rw [← List.append_assoc, ← List.append_assoc]; exact List.Perm.append_right _ List.perm_append_comm)
theorem Hp.twoBack (h : Hp w0 w (A' :: s' :: (L.set i []).set j [])) (hi : L[i]? = some A) (hj : L[j]? = some s) (hij : i ≠ j) : Hp w0 w ((L.set i A').set j s') := by
  have h1 : Hp w0 w (s' :: A' :: (L.set i []).set j []) := perm_of_flatten h (by simp only [List.flatten_cons]; rw [← List.append_assoc, ← List.append_assoc]; exact List.Perm.append_right _ List.perm_append_comm)
  have h2 : Hp w0 w ((A' :: L.set i []).set (j + 1) s') := Hp.back (s := s) (by simpa using h1) (by simpa using set_get hj hij)
  rw [List.set_cons_succ, List.set_comm _ _ (Ne.symm fun e => hij e.symm) ] at h2
  have h3 : Hp w0 w ((L.set j s').set i A') := Hp.back (s := A) h2 (set_get hi (Ne.symm hij))
  rwa [List.set_comm _ _ (Ne.symm hij)] at h3
end
end Go.Eng

/- Rising lists. -/
import Derived.Test.YtafhajgebhicdaaDoorSo
namespace Go.Proofs.YtafhajgebhicdaaDoor
open Go Go.Eng
set_option maxRecDepth 100000
set_option linter.unusedVariables false
set_option linter.unusedSimpArgs false

def Inc (l : List Int) : Prop := l.Pairwise (· < ·)
theorem inc_eq : ∀ {l m : List Int}, Inc l → Inc m → (∀ x, x ∈ l ↔ x ∈ m) → l = m
  | [], [], _, _, _ => rfl
  | [], b :: m, _, _, h => by have := (h b).2 List.mem_cons_self; cases this
  | a :: l, [], _, _, h => by have := (h a).1 List.mem_cons_self; cases this
  | a :: l, b :: m, hl, hm, h => by
    obtain ⟨h1, h2⟩ := List.pairwise_cons.1 hl
    obtain ⟨h3, h4⟩ := List.pairwise_cons.1 hm
    have hab : a = b := by
      rcases List.mem_cons.1 ((h a).1 List.mem_cons_self) with e | e
      · exact e
      · rcases List.mem_cons.1 ((h b).2 List.mem_cons_self) with e2 | e2
        · exact e2.symm
        · have := h3 a e; have := h1 b e2; omega
    subst hab
    congr 1
    refine inc_eq h2 h4 fun x => ⟨fun hx => ?_, fun hx => ?_⟩
    · rcases List.mem_cons.1 ((h x).1 (List.mem_cons_of_mem _ hx)) with e | e
      · have := h1 x hx; omega
      · exact e
    · rcases List.mem_cons.1 ((h x).2 (List.mem_cons_of_mem _ hx)) with e | e
      · have := h3 x hx; omega
      · exact e
theorem upto_props (l : List Int) (hl : l.Pairwise (· ≤ ·)) : ∀ m, m ≤ l.length → Inc (Lib.compactUpTo l.toArray m) ∧ (∀ x, x ∈ Lib.compactUpTo l.toArray m ↔ x ∈ l.take m)
  | 0, _ => by simp [Lib.compactUpTo, Inc]
  | m + 1, hm => by
    obtain ⟨h1, h2⟩ := upto_props l hl m (by omega)
    have hg : l.toArray[m]! = l[m] := by simp [show m < l.length by omega]
    have hget : l[m]? = some l[m] := List.getElem?_eq_getElem (by omega)
    rw [Lib.compactUpTo_succ, take_succ_get hget, hg]
    by_cases hk : Lib.keeps l.toArray m = true
    · rw [if_pos hk]
      refine ⟨List.pairwise_append.2 ⟨h1, List.pairwise_singleton _ _, fun x hx y hy => ?_⟩, fun x => by rw [List.mem_append, List.mem_append, h2]⟩
      rw [List.mem_singleton.1 hy]
      obtain ⟨i, hi⟩ := List.mem_iff_getElem?.1 ((h2 x).1 hx)
      have him : i < m := by have := (List.getElem?_eq_some_iff.1 hi).1; simp at this; omega
      rw [List.getElem?_take_of_lt him] at hi
      obtain ⟨hi1, rfl⟩ := List.getElem?_eq_some_iff.1 hi
      have hk2 : m = 0 ∨ l.toArray[m]! ≠ l.toArray[m - 1]! := of_decide_eq_true hk
      have hg1 : l.toArray[m - 1]! = l[m - 1] := by simp [show m - 1 < l.length by omega]
      rw [hg, hg1] at hk2
      have ha : l[m - 1] ≤ l[m] := List.pairwise_iff_getElem.1 hl (m - 1) m (by omega) (by omega) (by omega)
      have hb : l[i] ≤ l[m - 1] := by
        by_cases he : i = m - 1
        · subst he; exact Int.le_refl _
        · exact List.pairwise_iff_getElem.1 hl i (m - 1) (by omega) (by omega) (by omega)
      omega
    · rw [if_neg hk, List.append_nil]
      refine ⟨h1, fun x => ?_⟩
      rw [h2, List.mem_append, List.mem_singleton]
      have hk2 : ¬ (m = 0 ∨ l.toArray[m]! ≠ l.toArray[m - 1]!) := fun h => hk (decide_eq_true h)
      have hg1 : l.toArray[m - 1]! = l[m - 1] := by simp [show m - 1 < l.length by omega]
      rw [hg, hg1] at hk2
      constructor
      · exact .inl
      · rintro (h | rfl)
        · exact h
        · have e : l[m] = l[m - 1] := Decidable.not_not.1 (fun h => hk2 (.inr h))
          rw [e]
          exact List.mem_iff_getElem?.2 ⟨m - 1, by rw [List.getElem?_take_of_lt (by omega), List.getElem?_eq_getElem]⟩
def rise (l : List Int) : List Int := Lib.compact (sorted l)
theorem sorted_le (l : List Int) : (sorted l).Pairwise (· ≤ ·) := by
  have h := List.pairwise_mergeSort (le := fun x y : Int => decide (x ≤ y)) (fun a b c h1 h2 => by simp at *; omega) (fun a b => by simp; omega) l
  exact h.imp (fun h => by simpa using h)
theorem rise_inc (l : List Int) : Inc (rise l) := (upto_props _ (sorted_le l) _ (Nat.le_refl _)).1
theorem rise_mem {l : List Int} {x : Int} : x ∈ rise l ↔ x ∈ l := by
  unfold rise Lib.compact
  rw [(upto_props _ (sorted_le l) _ (Nat.le_refl _)).2, List.take_length]
  exact List.mem_mergeSort
theorem rise_eq {l m : List Int} (hm : Inc m) (h : ∀ x, x ∈ l ↔ x ∈ m) : rise l = m := inc_eq (rise_inc l) hm fun x => rise_mem.trans (h x)
theorem rise_le (l : List Int) : (rise l).length ≤ l.length := by
  unfold rise
  exact Nat.le_trans (compact_le _) (by rw [sorted_len]; exact Nat.le_refl _)
def clL (c : Cl) : List Int := upC (fun i => c.at_ + i * c.jump) c.cnt.toNat
theorem clL_len (c : Cl) : (clL c).length = c.cnt.toNat := upC_len _ _
theorem upC_mem {f : Nat → Int} {k : Nat} {x : Int} : x ∈ upC f k ↔ ∃ i, i < k ∧ f i = x := by simp [upC]
theorem upC_inc {f : Nat → Int} {k : Nat} (h : ∀ i j, i < j → f i < f j) : Inc (upC f k) := by
  unfold Inc upC
  rw [List.pairwise_map]
  exact List.pairwise_lt_range.imp (fun h' => h _ _ h')
theorem clL_inc {c : Cl} (h : 1 ≤ c.jump) : Inc (clL c) := by
  refine upC_inc fun i j hij => ?_
  have : (i : Int) * c.jump < (j : Int) * c.jump := Int.mul_lt_mul_of_pos_right (by omega) (by omega)
  omega
def flyA (s : Stp) : Nat → List Int
  | 0 => []
  | k + 1 => flyA s k ++ clL (rowC s k)
theorem flyA_len (s : Stp) (k : Nat) : (flyA s k).length = k * s.count.toNat := by
  induction k with
  | zero => simp [flyA]
  | succ k ih => rw [flyA, List.length_append, ih, clL_len, Nat.succ_mul]; rfl
theorem rowL_mem {s : Stp} {q : Nat} {x : Int} : x ∈ clL (rowC s q) ↔ ∃ i : Nat, i < s.count.toNat ∧ s.dst + q * s.jump + i = x := by
  rw [clL, upC_mem]
  simp only [rowC, Int.mul_one]
theorem flyA_mem {s : Stp} {x : Int} : ∀ {k : Nat}, x ∈ flyA s k ↔ ∃ q i : Nat, q < k ∧ i < s.count.toNat ∧ s.dst + q * s.jump + i = x
  | 0 => by simp [flyA]
  | k + 1 => by
    rw [flyA, List.mem_append, flyA_mem, rowL_mem]
    constructor
    · rintro (⟨q, i, h1, h2, h3⟩ | ⟨i, h2, h3⟩)
      · exact ⟨q, i, by omega, h2, h3⟩
      · exact ⟨k, i, by omega, h2, h3⟩
    · rintro ⟨q, i, h1, h2, h3⟩
      by_cases e : q = k
      · subst e; exact .inr ⟨i, h2, h3⟩
      · exact .inl ⟨q, i, by omega, h2, h3⟩
theorem flyA_inc {s : Stp} (h0 : 0 ≤ s.jump) (h : s.count ≤ s.jump) : ∀ k, Inc (flyA s k)
  | 0 => List.Pairwise.nil
  | k + 1 => by
    refine List.pairwise_append.2 ⟨flyA_inc h0 h k, clL_inc (show (1 : Int) ≤ 1 by decide), fun x hx y hy => ?_⟩
    obtain ⟨q, i, h1, h2, rfl⟩ := flyA_mem.1 hx
    obtain ⟨j, h4, rfl⟩ := rowL_mem.1 hy
    have e : (q : Int) * s.jump + s.jump ≤ (k : Int) * s.jump := by
      have : ((q : Int) + 1) * s.jump ≤ (k : Int) * s.jump := Int.mul_le_mul_of_nonneg_right (by omega) h0
      rw [Int.add_mul, Int.one_mul] at this
      exact this
    omega
def rdsL (s : Stp) : List Int := match rds s with
  | none => []
  | some (r, _) => clL r
def baseL (s : Stp) : List Int := if ownB s then clL (wr s) else []
def rdA (s : Stp) (k : Nat) : List Int := baseL s ++ (if k = 0 then [] else rdsL s)
def tR (s : Stp) : List Int := if formB s then (if s.op = 5 then rise (flyA s s.n.toNat) else rise (baseL s ++ rdsL s)) else []
def tW (s : Stp) : List Int := if formB s then (if s.op = 5 then rise (flyA s s.n.toNat) else rise (clL (wr s))) else []
theorem rdA_end {s : Stp} {k : Nat} (h1 : k ≤ rdsN s) (h2 : rdsN s ≤ k) : rdA s k = baseL s ++ rdsL s := by
  unfold rdA
  by_cases h : k = 0
  · rw [if_pos h]
    subst h
    have : rds s = none := by
      unfold rdsN at h2
      cases hr : rds s with
      | none => rfl
      | some x => rw [hr] at h2; simp at h2
    simp [rdsL, this]
  · rw [if_neg h]
theorem fly_len {s : Stp} (hf : formB s = true) {k : Nat} (hk : k ≤ s.n.toNat) : (flyA s k).length ≤ 4294967296 := by
  have ff := form_facts hf
  rw [flyA_len]
  have : k * s.count.toNat ≤ 16384 * 262144 := Nat.mul_le_mul (by omega) (by omega)
  omega
theorem Cl.Ok.len {c : Cl} (h : c.Ok) : (clL c).length ≤ 1048576 := by
  rw [clL_len]
  have := h.c1
  omega
theorem base_len {s : Stp} (hf : formB s = true) : (baseL s).length ≤ 1048576 := by
  unfold baseL
  split
  · exact (wr_ok hf).len
  · simp

end Go.Proofs.YtafhajgebhicdaaDoor

/- General rules for stepping through a function: no program stands in them. -/
import Derived.Test.YtfpphoapknecfaaGreatDoorBesafterEng24
namespace Go.Eng
open Go

/-! Whole numbers in floats of 64 bits: sums, products and quotients that stay whole and small are exact. -/
/-- A datum stands for this whole number (a zero may have either sign). -/
def DZ (d : Ieee.Datum) (v : Int) : Prop := ∃ (s : Bool) (k : Nat), d = .number s (v.natAbs * 2 ^ k) (-(k : Int)) ∧ (v ≠ 0 → s = decide (v < 0))
/-- A float's word stands for this whole number. -/
def IsZ (w : Nat) (v : Int) : Prop := DZ (Ieee.double.read w) v

theorem cut_exact (s : Bool) {q : Nat} (hq : 0 < q) (d : Nat) : Ieee.Toward.even.cut s (q * 2 ^ d) d = q := by
  have hp : 0 < 2 ^ d := Nat.two_pow_pos d
  have hne : q * 2 ^ d ≠ 0 := Nat.mul_ne_zero (by omega) (by omega)
  have hl : d ≤ (q * 2 ^ d).log2 := (Nat.le_log2 hne).2 (Nat.le_mul_of_pos_left _ hq)
  unfold Ieee.Toward.cut
  have hm : min d ((q * 2 ^ d).log2 + 2) = d := by omega
  rw [hm, Nat.one_shiftLeft]
  dsimp only
  rw [Nat.mul_div_cancel _ hp, Nat.mul_mod_left]
  have h1 : decide (2 ^ d < 2 * 0) = false := decide_eq_false (by omega)
  have h2 : (2 ^ d == 2 * 0) = false := by simp
  rw [h1, h2]; rfl
theorem log2_mul_pow {n : Nat} (h : 0 < n) (k : Nat) : (n * 2 ^ k).log2 = n.log2 + k := by
  have h1 := Nat.two_pow_pos k
  have hne : n * 2 ^ k ≠ 0 := Nat.mul_ne_zero (by omega) (by omega)
  have a1 := (Nat.le_log2 (n := n) (by omega)).1 (Nat.le_refl _)
  have a2 := (Nat.log2_lt (n := n) (by omega)).1 (Nat.lt_succ_self n.log2)
  refine Nat.le_antisymm ?_ ?_
  · refine Nat.le_of_lt_succ ((Nat.log2_lt hne).2 ?_)
    have h2 : 2 ^ (n.log2 + k).succ = 2 ^ n.log2.succ * 2 ^ k := by rw [← Nat.pow_add]; congr 1; omega
    rw [h2]
    exact Nat.mul_lt_mul_of_pos_right a2 h1
  · refine (Nat.le_log2 hne).2 ?_
    rw [Nat.pow_add]
    exact Nat.mul_le_mul_right _ a1
theorem lp64 : Ieee.double.leastPlace = -1074 := by decide
/-- The word of a whole number below 2^53 and not nought. -/
theorem nearest_exact (s : Bool) {n : Nat} (h0 : 0 < n) (h1 : n < 9007199254740992) (k : Nat) :
    Ieee.double.nearest s (n * 2 ^ k) (-(k : Int)) = Ieee.double.word s ((n.log2 + 1022) * 4503599627370496 + n * 2 ^ (52 - n.log2)) := by
  have hk := Nat.two_pow_pos k
  have hne : n * 2 ^ k ≠ 0 := Nat.mul_ne_zero (by omega) (by omega)
  have hl : n.log2 ≤ 52 := Nat.le_of_lt_succ ((Nat.log2_lt (by omega)).2 (by show n < 2 ^ 53; omega))
  have a1 := (Nat.le_log2 (n := n) (by omega)).1 (Nat.le_refl _)
  have a2 := (Nat.log2_lt (n := n) (by omega)).1 (Nat.lt_succ_self n.log2)
  unfold Ieee.Format.nearest
  rw [if_neg hne, log2_mul_pow h0, lp64, ir64, bn64]
  have hf : ((Ieee.double.fractionBits : Nat) : Int) = 52 := rfl
  rw [hf]
  generalize hL : n.log2 = l at hl a1 a2
  have hlast : max (-(k : Int) + ((l + k : Nat) : Int) - 52) (-1074) = (l : Int) - 52 := by omega
  dsimp only
  rw [hlast]
  have hM : 0 < n * 2 ^ (52 - l) := Nat.mul_pos h0 (Nat.two_pow_pos _)
  have hkept : Ieee.Toward.even.cut s ((n * 2 ^ k) <<< (-(k : Int) - ((l : Int) - 52)).toNat) ((l : Int) - 52 - -(k : Int)).toNat = n * 2 ^ (52 - l) := by
    rw [Nat.shiftLeft_eq, Nat.mul_assoc, ← Nat.pow_add]
    have e : k + (-(k : Int) - ((l : Int) - 52)).toNat = (52 - l) + ((l : Int) - 52 - -(k : Int)).toNat := by omega
    rw [e, Nat.pow_add, ← Nat.mul_assoc]
    exact cut_exact s hM _
  rw [hkept]
  have hb : n * 2 ^ (52 - l) < 9007199254740992 := by
    have h2 : 2 ^ l.succ * 2 ^ (52 - l) = 9007199254740992 := by
      have : l.succ + (52 - l) = 53 := by omega
      rw [← Nat.pow_add, this]
    rw [← h2]
    exact Nat.mul_lt_mul_of_pos_right a2 (Nat.two_pow_pos _)
  have ht : ((l : Int) - 52 - -1074).toNat = l + 1022 := by omega
  rw [ht, Nat.min_eq_left (by omega)]
theorem read_word (s : Bool) {M l : Nat} (hl : l ≤ 52) (h1 : 4503599627370496 ≤ M) (h2 : M < 9007199254740992) :
    Ieee.double.read (Ieee.double.word s ((l + 1022) * 4503599627370496 + M)) = .number s M ((l : Int) - 52) := by
  unfold Ieee.Format.read Ieee.Format.word
  rw [sw64, ir64, bn64, lp64]
  have hr : (l + 1022) * 4503599627370496 + M < 9223372036854775808 := by omega
  have e1 : (if s = true then 9223372036854775808 + ((l + 1022) * 4503599627370496 + M) else (l + 1022) * 4503599627370496 + M) % 9223372036854775808 = (l + 1022) * 4503599627370496 + M := by
    cases s <;> simp only [Bool.false_eq_true, if_false, if_true] <;> omega
  have e2 : ((if s = true then 9223372036854775808 + ((l + 1022) * 4503599627370496 + M) else (l + 1022) * 4503599627370496 + M) / 9223372036854775808 % 2 == 1) = s := by
    cases s <;> simp only [Bool.false_eq_true, if_false, if_true]
    · have : ((l + 1022) * 4503599627370496 + M) / 9223372036854775808 % 2 = 0 := by omega
      rw [this]; rfl
    · have : (9223372036854775808 + ((l + 1022) * 4503599627370496 + M)) / 9223372036854775808 % 2 = 1 := by omega
      rw [this]; rfl
  simp only [e1, e2]
  rw [if_neg (by omega), if_pos (by omega)]
  have e3 : 4503599627370496 + ((l + 1022) * 4503599627370496 + M) % 4503599627370496 = M := by omega
  have e4 : ((l + 1022) * 4503599627370496 + M) / 4503599627370496 - 1 = l + 1022 := by omega
  have e5 : (-1074 : Int) + ((l + 1022 : Nat) : Int) = (l : Int) - 52 := by omega
  rw [e3, e4, e5]
theorem read_zero (s : Bool) : Ieee.double.read (Ieee.double.word s 0) = .number s 0 (-1074) := by
  unfold Ieee.Format.read Ieee.Format.word
  rw [sw64, ir64, bn64, lp64]
  cases s
  · simp
  · simp
theorem isZ_nearest {v : Int} {s : Bool} (k : Nat) (hs : v ≠ 0 → s = decide (v < 0)) (hv : v.natAbs < 9007199254740992) : IsZ (Ieee.double.nearest s (v.natAbs * 2 ^ k) (-(k : Int))) v := by
  by_cases h : v = 0
  · subst h
    obtain ⟨z, hz⟩ : ∃ z : Nat, z = 1074 := ⟨_, rfl⟩
    refine ⟨s, z, ?_, fun h => absurd rfl h⟩
    have : Ieee.double.nearest s ((0 : Int).natAbs * 2 ^ k) (-(k : Int)) = Ieee.double.word s 0 := by
      unfold Ieee.Format.nearest; rw [if_pos (by simp)]
    rw [this, read_zero, show ((0 : Int).natAbs) = 0 from rfl, Nat.zero_mul, hz]
    rfl
  · have h0 : 0 < v.natAbs := by omega
    have hl : v.natAbs.log2 ≤ 52 := Nat.le_of_lt_succ ((Nat.log2_lt (by omega)).2 (by show v.natAbs < 2 ^ 53; omega))
    have a1 := (Nat.le_log2 (n := v.natAbs) (by omega)).1 (Nat.le_refl _)
    have a2 := (Nat.log2_lt (n := v.natAbs) (by omega)).1 (Nat.lt_succ_self v.natAbs.log2)
    refine ⟨s, 52 - v.natAbs.log2, ?_, hs⟩
    rw [nearest_exact s h0 hv, read_word s hl]
    · congr 1; omega
    · have h2 : 2 ^ v.natAbs.log2 * 2 ^ (52 - v.natAbs.log2) = 4503599627370496 := by rw [← Nat.pow_add, Nat.add_sub_cancel' hl]
      rw [← h2]; exact Nat.mul_le_mul_right _ a1
    · have h2 : 2 ^ v.natAbs.log2.succ * 2 ^ (52 - v.natAbs.log2) = 9007199254740992 := by
        rw [← Nat.pow_add]; have : v.natAbs.log2.succ + (52 - v.natAbs.log2) = 53 := by omega
        rw [this]
      rw [← h2]; exact Nat.mul_lt_mul_of_pos_right a2 (Nat.two_pow_pos _)
theorem DZ.write {d : Ieee.Datum} {v : Int} (h : DZ d v) (hv : v.natAbs < 9007199254740992) : IsZ (Ieee.double.write d) v := by
  obtain ⟨s, k, rfl, hs⟩ := h
  exact isZ_nearest k hs hv
theorem DZ.opp {d : Ieee.Datum} {v : Int} (h : DZ d v) : DZ d.opposite (-v) := by
  obtain ⟨s, k, rfl, hs⟩ := h
  refine ⟨!s, k, by rw [Int.natAbs_neg]; rfl, fun hv => ?_⟩
  rw [hs (by omega)]
  by_cases h : v < 0
  · rw [decide_eq_true h, decide_eq_false (by omega)]; rfl
  · rw [decide_eq_false h, decide_eq_true (by omega)]; rfl
theorem signed_eq {s : Bool} {a : Int} (hs : a ≠ 0 → s = decide (a < 0)) (i up : Nat) : Ieee.signed s (a.natAbs * 2 ^ i) up = a * ((2 ^ (i + up) : Nat) : Int) := by
  unfold Ieee.signed
  rw [Nat.shiftLeft_eq, Nat.mul_assoc, ← Nat.pow_add]
  by_cases h : a = 0
  · subst h; cases s <;> simp
  · rw [hs h]
    by_cases h2 : a < 0
    · rw [decide_eq_true h2, if_pos rfl, Int.natCast_mul, ← Int.neg_mul]; congr 1; omega
    · rw [decide_eq_false h2, if_neg (by simp), Int.natCast_mul]; congr 1; omega
theorem DZ.sum {d e : Ieee.Datum} {a b : Int} (h : DZ d a) (h' : DZ e b) : ∃ r, d.sum e = some r ∧ DZ r (a + b) := by
  obtain ⟨s, i, rfl, hs⟩ := h
  obtain ⟨t, j, rfl, ht⟩ := h'
  refine ⟨_, rfl, ?_⟩
  rw [signed_eq hs, signed_eq ht]
  have hb : min (-(i : Int)) (-(j : Int)) = -((max i j : Nat) : Int) := by omega
  rw [hb]
  have e1 : i + (-(i : Int) - -((max i j : Nat) : Int)).toNat = max i j := by omega
  have e2 : j + (-(j : Int) - -((max i j : Nat) : Int)).toNat = max i j := by omega
  rw [e1, e2, ← Int.add_mul]
  generalize max i j = K
  have hp : (0 : Int) < ((2 ^ K : Nat) : Int) := by have := Nat.two_pow_pos K; omega
  refine ⟨_, K, by rw [Int.natAbs_mul, Int.natAbs_natCast], fun hv => ?_⟩
  have hz : (a + b) * ((2 ^ K : Nat) : Int) ≠ 0 := Int.mul_ne_zero hv (by omega)
  rw [if_neg hz]
  refine decide_eq_decide.2 ⟨fun h => ?_, fun h => Int.mul_neg_of_neg_of_pos h hp⟩
  refine Int.not_le.1 fun hc => ?_
  have := Int.mul_nonneg hc (Int.le_of_lt hp)
  omega
theorem DZ.prod {d e : Ieee.Datum} {a b : Int} (h : DZ d a) (h' : DZ e b) : ∃ r, d.product e = some r ∧ DZ r (a * b) := by
  obtain ⟨s, i, rfl, hs⟩ := h
  obtain ⟨t, j, rfl, ht⟩ := h'
  refine ⟨_, rfl, s ^^ t, i + j, ?_, fun hv => ?_⟩
  · rw [Int.natAbs_mul, Nat.pow_add]
    have : a.natAbs * 2 ^ i * (b.natAbs * 2 ^ j) = a.natAbs * b.natAbs * (2 ^ i * 2 ^ j) := Nat.mul_mul_mul_comm _ _ _ _
    rw [this]
    congr 1
    omega
  · have ha : a ≠ 0 := fun h => hv (by rw [h, Int.zero_mul])
    have hb : b ≠ 0 := fun h => hv (by rw [h, Int.mul_zero])
    rw [hs ha, ht hb]
    by_cases h1 : a < 0 <;> by_cases h2 : b < 0
    · rw [decide_eq_true h1, decide_eq_true h2, decide_eq_false (Int.not_lt.2 (Int.le_of_lt (Int.mul_pos_of_neg_of_neg h1 h2)))]; rfl
    · rw [decide_eq_true h1, decide_eq_false h2, decide_eq_true (Int.mul_neg_of_neg_of_pos h1 (by omega))]; rfl
    · rw [decide_eq_false h1, decide_eq_true h2, decide_eq_true (Int.mul_neg_of_pos_of_neg (by omega) h2)]; rfl
    · rw [decide_eq_false h1, decide_eq_false h2, decide_eq_false (Int.not_lt.2 (Int.mul_nonneg (by omega) (by omega)))]; rfl
/-- The quotient by 1, 2 or 4 of a multiple of it. -/
theorem DZ.quo {d e : Ieee.Datum} {u : Int} {c : Nat} (h : DZ d (u * ((2 ^ c : Nat) : Int))) (h' : DZ e ((2 ^ c : Nat) : Int)) (hu : u.natAbs < 9007199254740992) : ∃ r, d.quotient 54 e = some r ∧ DZ r u := by
  obtain ⟨s, i, rfl, hs⟩ := h
  obtain ⟨t, j, rfl, ht⟩ := h'
  have hp : 0 < 2 ^ c := Nat.two_pow_pos c
  have hpj : 0 < 2 ^ j := Nat.two_pow_pos j
  have hn : (((2 ^ c : Nat) : Int)).natAbs * 2 ^ j = 2 ^ (c + j) := by rw [Int.natAbs_natCast, Nat.pow_add]
  have htf : t = false := by rw [ht (by omega)]; exact decide_eq_false (by omega)
  subst htf
  rw [hn, Int.natAbs_mul, Int.natAbs_natCast]
  have hm : u.natAbs * 2 ^ c * 2 ^ i = u.natAbs * 2 ^ (c + i) := by rw [Nat.mul_assoc, ← Nat.pow_add]
  rw [hm]
  have hne : (2 ^ (c + j)) ≠ 0 := by have := Nat.two_pow_pos (c + j); omega
  unfold Ieee.Datum.quotient
  simp only []
  rw [if_neg hne]
  have hl2 : (2 ^ (c + j)).log2 = c + j := Nat.log2_two_pow
  rw [hl2]
  generalize hmore : 54 + (c + j) - (u.natAbs * 2 ^ (c + i)).log2 = more
  have hle : j ≤ i + more := by
    by_cases h0 : u.natAbs = 0
    · rw [h0, Nat.zero_mul] at hmore
      have : Nat.log2 0 = 0 := by decide
      omega
    · rw [log2_mul_pow (by omega)] at hmore
      have : u.natAbs.log2 ≤ 52 := Nat.le_of_lt_succ ((Nat.log2_lt h0).2 (by show u.natAbs < 2 ^ 53; omega))
      omega
  have hdiv : (u.natAbs * 2 ^ (c + i)) <<< more = u.natAbs * 2 ^ (i + more - j) * 2 ^ (c + j) := by
    rw [Nat.shiftLeft_eq, Nat.mul_assoc, ← Nat.pow_add, Nat.mul_assoc, ← Nat.pow_add]
    congr 2; omega
  rw [hdiv, Nat.mul_div_cancel _ (Nat.two_pow_pos _), Nat.mul_mod_left]
  refine ⟨_, rfl, s ^^ false, i + more - j + 1, ?_, fun hv => ?_⟩
  · have e1 : 2 * (u.natAbs * 2 ^ (i + more - j)) + ((0 : Nat) != 0).toNat = u.natAbs * 2 ^ (i + more - j + 1) := by
      have : ((0 : Nat) != 0).toNat = 0 := by decide
      rw [this, Nat.pow_succ]
      generalize 2 ^ (i + more - j) = X
      rw [Nat.add_zero, Nat.mul_left_comm, Nat.mul_comm 2]
    rw [e1]
    congr 1
    omega
  · rw [Bool.xor_false, hs (Int.mul_ne_zero hv (by omega))]
    refine decide_eq_decide.2 ⟨fun h => ?_, fun h => Int.mul_neg_of_neg_of_pos h (by omega)⟩
    refine Int.not_le.1 fun hc => ?_
    have := Int.mul_nonneg hc (show (0 : Int) ≤ ((2 ^ c : Nat) : Int) by omega)
    omega

theorem isZ_fin {w : Nat} {v : Int} (h : IsZ w v) : fnan w = false := by
  rw [← read_nan]; obtain ⟨s, k, h, _⟩ := h; rw [h]; rfl
theorem isZ_cn {w : Nat} {v : Int} (h : IsZ (cn w) v) : IsZ w v := by
  cases hn : fnan w with
  | true => have := isZ_fin h; rw [fnan_cn, hn] at this; cases this
  | false => rw [cn_fin hn] at h; exact h
theorem cn_isZ {w : Nat} {v : Int} (h : IsZ w v) : IsZ (cn w) v := by rw [cn_fin (isZ_fin h)]; exact h
theorem isZ_add {x y : Nat} {a b : Int} (h : IsZ x a) (h' : IsZ y b) (hv : (a + b).natAbs < 9007199254740992) : IsZ (fo .add x y) (a + b) := by
  obtain ⟨r, h1, h2⟩ := DZ.sum h h'
  have : fop .add x y = some (Ieee.double.write r) := by show Option.map _ _ = _; rw [h1]; rfl
  unfold fo; rw [this]; exact h2.write hv
theorem isZ_sub {x y : Nat} {a b : Int} (h : IsZ x a) (h' : IsZ y b) (hv : (a - b).natAbs < 9007199254740992) : IsZ (fo .sub x y) (a - b) := by
  obtain ⟨r, h1, h2⟩ := DZ.sum h (DZ.opp h')
  have : fop .sub x y = some (Ieee.double.write r) := by show Option.map _ _ = _; rw [h1]; rfl
  unfold fo; rw [this, Int.sub_eq_add_neg]; exact h2.write hv
theorem isZ_mul {x y : Nat} {a b : Int} (h : IsZ x a) (h' : IsZ y b) (hv : (a * b).natAbs < 9007199254740992) : IsZ (fo .mul x y) (a * b) := by
  obtain ⟨r, h1, h2⟩ := DZ.prod h h'
  have : fop .mul x y = some (Ieee.double.write r) := by show Option.map _ _ = _; rw [h1]; rfl
  unfold fo; rw [this]; exact h2.write hv
theorem isZ_quo {x y : Nat} {u : Int} {c : Nat} (h : IsZ x (u * ((2 ^ c : Nat) : Int))) (h' : IsZ y ((2 ^ c : Nat) : Int)) (hv : u.natAbs < 9007199254740992) : IsZ (fo .quo x y) u := by
  obtain ⟨r, h1, h2⟩ := DZ.quo h h' hv
  have : fop .quo x y = some (Ieee.double.write r) := by show Option.map _ _ = _; rw [show Ieee.double.fractionBits + 2 = 54 from rfl, h1]; rfl
  unfold fo; rw [this]; exact h2.write hv
theorem isZ_fint {v : Int} (hv : v.natAbs < 9007199254740992) : IsZ (fint v) v := by
  have := isZ_nearest (v := v) (s := decide (v < 0)) 0 (fun _ => rfl) hv
  rw [Nat.pow_zero, Nat.mul_one] at this
  exact this
theorem read_neg (w : Nat) : Ieee.double.read (fneg w) = (Ieee.double.read w).opposite := by
  have hm := neg_mod w
  have hd : fneg w / 9223372036854775808 % 2 = (w / 9223372036854775808 + 1) % 2 := by
    have h : fneg w = w ^^^ 2 ^ 63 := rfl
    rw [h, show (9223372036854775808 : Nat) = 2 ^ 63 from rfl, Nat.xor_div_two_pow, Nat.div_self (Nat.two_pow_pos 63)]
    have hx := Nat.xor_mod_two_pow (a := w / 2 ^ 63) (b := 1) (n := 1)
    rw [Nat.pow_one] at hx
    rw [hx]
    have h2 : w / 2 ^ 63 % 2 = 0 ∨ w / 2 ^ 63 % 2 = 1 := by omega
    rcases h2 with h2 | h2
    · have : (w / 2 ^ 63 + 1) % 2 = 1 := by omega
      rw [h2, this]; rfl
    · have : (w / 2 ^ 63 + 1) % 2 = 0 := by omega
      rw [h2, this]; rfl
  have hs : (fneg w / 9223372036854775808 % 2 == 1) = !(w / 9223372036854775808 % 2 == 1) := by
    rw [hd]
    have : w / 9223372036854775808 % 2 = 0 ∨ w / 9223372036854775808 % 2 = 1 := by omega
    rcases this with h | h
    · have h2 : (w / 9223372036854775808 + 1) % 2 = 1 := by omega
      rw [h, h2]; rfl
    · have h2 : (w / 9223372036854775808 + 1) % 2 = 0 := by omega
      rw [h, h2]; rfl
  unfold Ieee.Format.read
  rw [sw64, ir64, bn64, lp64]
  dsimp only
  rw [hm, hs]
  split
  · rfl
  · split
    · rfl
    · split <;> rfl
theorem isZ_neg {w : Nat} {v : Int} (h : IsZ w v) : IsZ (fneg w) (-v) := by
  unfold IsZ; rw [read_neg]; exact DZ.opp h
theorem isZ_ord {x y : Nat} {a b : Int} (h : IsZ x a) (h' : IsZ y b) : ford x y = some (compare a b) := by
  obtain ⟨s, i, hx, hs⟩ := h
  obtain ⟨t, j, hy, ht⟩ := h'
  unfold ford Ieee.Format.order
  rw [hx, hy]
  show some (compare (Ieee.signed s _ _) (Ieee.signed t _ _)) = _
  rw [signed_eq hs, signed_eq ht]
  have hb : min (-(i : Int)) (-(j : Int)) = -((max i j : Nat) : Int) := by omega
  rw [hb]
  have e1 : i + (-(i : Int) - -((max i j : Nat) : Int)).toNat = max i j := by omega
  have e2 : j + (-(j : Int) - -((max i j : Nat) : Int)).toNat = max i j := by omega
  rw [e1, e2]
  generalize max i j = K
  have hp : (0 : Int) < ((2 ^ K : Nat) : Int) := by have := Nat.two_pow_pos K; omega
  congr 1
  show compareOfLessAndEq _ _ = compareOfLessAndEq _ _
  unfold compareOfLessAndEq
  have e3 : (a * ((2 ^ K : Nat) : Int) < b * ((2 ^ K : Nat) : Int)) ↔ a < b := Int.mul_lt_mul_right hp
  have e4 : (a * ((2 ^ K : Nat) : Int) = b * ((2 ^ K : Nat) : Int)) ↔ a = b := ⟨fun h => Int.eq_of_mul_eq_mul_right (by omega) h, fun h => by rw [h]⟩
  simp only [e3, e4]
end Go.Eng

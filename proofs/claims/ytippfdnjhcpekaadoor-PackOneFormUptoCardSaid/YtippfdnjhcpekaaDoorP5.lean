/- What reading comes to: plain facts. -/
import Derived.Test.YtippfdnjhcpekaaDoorLw
namespace Go.Proofs.YtippfdnjhcpekaaDoor
open Go Go.Eng
set_option maxRecDepth 100000
set_option linter.unusedVariables false
set_option linter.unusedSimpArgs false

/-- What a reading comes to: a thing and how many bytes it took, or an error's number. -/
inductive Rs (α : Type) where
  | ok (a : α) (k : Nat)
  | err (e : Nat)
def Rs.code {α : Type} : Rs α → Nat
  | .ok _ _ => 0
  | .err e => e
def Rs.k {α : Type} : Rs α → Nat
  | .ok _ k => k
  | .err _ => 0
def Rs.val {α : Type} (z : α) : Rs α → α
  | .ok a _ => a
  | .err _ => z
theorem Rs.code_ok {α : Type} {a : α} {k : Nat} : (Rs.ok a k).code = 0 := rfl
theorem Rs.code_err {α : Type} {e : Nat} : (Rs.err (α := α) e).code = e := rfl
theorem Rs.k_ok {α : Type} {a : α} {k : Nat} : (Rs.ok a k).k = k := rfl
theorem Rs.k_err {α : Type} {e : Nat} : (Rs.err (α := α) e).k = 0 := rfl
theorem Rs.val_ok {α : Type} {a z : α} {k : Nat} : (Rs.ok a k).val z = a := rfl
theorem Rs.val_err {α : Type} {z : α} {e : Nat} : (Rs.err e).val z = z := rfl
def Rs.Good {α : Type} (n : Nat) : Rs α → Prop
  | .ok _ k => k ≤ n
  | .err e => 1 ≤ e ∧ e ≤ 19
theorem Rs.Good.k {α : Type} {n : Nat} {r : Rs α} (h : r.Good n) : r.k ≤ n := by cases r with | ok a k => exact h | err e => exact Nat.zero_le _
theorem Rs.Good.code {α : Type} {n : Nat} {r : Rs α} (h : r.Good n) : r.code ≤ 19 := by cases r with | ok a k => exact Nat.zero_le _ | err e => exact h.2
theorem Rs.Good.of_ok {α : Type} {n : Nat} {r : Rs α} (h : r.Good n) (h0 : r.code = 0) : ∃ a k, r = .ok a k ∧ k ≤ n := by
  cases r with
  | ok a k => exact ⟨a, k, rfl, h⟩
  | err e => have := h.1; simp only [Rs.code_err] at h0; omega
theorem Rs.Good.of_err {α : Type} {n : Nat} {r : Rs α} (h : r.Good n) (h0 : ¬ r.code = 0) : ∃ e, r = .err e ∧ 1 ≤ e ∧ e ≤ 19 := by
  cases r with
  | ok a k => exact absurd rfl h0
  | err e => exact ⟨e, rfl, h.1, h.2⟩
def toRs : Rd → Rs Nat
  | .ok x k => .ok x k
  | .err e => .err e
def rU (l : List UInt8) : Rs Nat := toRs (rdu 0 0 l)
def rUp (most : Int) (l : List UInt8) : Rs Nat := toRs ((rdu 0 0 l).upto most)
theorem rU_good (l : List UInt8) : (rU l).Good l.length ∧ (∀ x k, rU l = .ok x k → u64ok x ∧ 0 < k) ∧ (∀ e, rU l = .err e → e = 1 ∨ e = 2) := by
  unfold rU
  cases h : rdu 0 0 l with
  | ok x k =>
    have := rdu_lt l 0 0 x k (by omega) (by decide) h
    refine ⟨by show k ≤ l.length; omega, fun y m e => ?_, fun e he => by cases he⟩
    cases e
    exact ⟨by unfold u64ok; omega, by omega⟩
  | err e =>
    have h2 := rdu_err l 0 0 e h
    refine ⟨by show 1 ≤ e ∧ e ≤ 19; omega, fun y m e => (by cases e), fun e' he => ?_⟩
    cases he; exact h2
theorem rUp_good (most : Int) (l : List UInt8) : (rUp most l).Good l.length ∧ (∀ x k, rUp most l = .ok x k → (x : Int) ≤ most ∧ 0 ≤ most ∧ rU l = .ok x k) := by
  have h := rU_good l
  unfold rUp
  unfold rU at h ⊢
  cases hr : rdu 0 0 l with
  | ok x k =>
    rw [hr] at h
    simp only [Rd.upto]
    split
    · exact ⟨by show 1 ≤ 3 ∧ 3 ≤ 19; omega, fun y m e => by cases e⟩
    · refine ⟨h.1, fun y m e => ?_⟩
      cases e
      exact ⟨by omega, by omega, rfl⟩
  | err e =>
    rw [hr] at h
    simp only [Rd.upto, toRs] at h ⊢
    exact ⟨h.1, fun y m e => by cases e⟩
def unzig (x : Nat) : Int := if x % 2 = 0 then (x / 2 : Nat) else -1 - ((x / 2 : Nat) : Int)
theorem unzig_zig {x : Int} : unzig (zig x) = x := by unfold unzig zig; split <;> split <;> omega
theorem zig_unzig {x : Nat} : zig (unzig x) = x := by unfold unzig zig; split <;> split <;> omega
theorem unzig_in {x : Nat} (h : u64ok x) : -9223372036854775808 ≤ unzig x ∧ unzig x ≤ 9223372036854775807 := by unfold u64ok at h; unfold unzig; split <;> omega
def rI (l : List UInt8) : Rs Int := match rU l with
  | .ok x k => .ok (unzig x) k
  | .err e => .err e
theorem xor_i64 {a : Nat} (ha : a < 9223372036854775808) : IntKind.i64.wrap ((BitVec.ofInt IntKind.i64.bits (a : Int) ^^^ BitVec.ofInt IntKind.i64.bits (-1)).toNat) = -1 - (a : Int) := by
  have h1 : (BitVec.ofInt IntKind.i64.bits (a : Int)).toNat = a := by
    show (BitVec.ofInt 64 (a : Int)).toNat = _
    rw [BitVec.toNat_ofInt]; omega
  have h2 : (BitVec.ofInt IntKind.i64.bits (-1)).toNat = 18446744073709551615 := by decide
  rw [BitVec.toNat_xor, h1, h2, xor_ones (by omega)]
  simp only [IntKind.wrap, IntKind.bits, IntKind.signed]; simp; omega
theorem xor_i64z {a : Nat} (ha : a < 9223372036854775808) : IntKind.i64.wrap ((BitVec.ofInt IntKind.i64.bits (a : Int) ^^^ BitVec.ofInt IntKind.i64.bits 0).toNat) = (a : Int) := by
  have h1 : (BitVec.ofInt IntKind.i64.bits (a : Int)).toNat = a := by
    show (BitVec.ofInt 64 (a : Int)).toNat = _
    rw [BitVec.toNat_ofInt]; omega
  have h2 : (BitVec.ofInt IntKind.i64.bits 0).toNat = 0 := by decide
  rw [BitVec.toNat_xor, h1, h2, Nat.xor_zero]
  simp only [IntKind.wrap, IntKind.bits, IntKind.signed]; simp; omega
theorem and_one {x : Nat} (h : u64ok x) : IntKind.u64.wrap ((BitVec.ofInt IntKind.u64.bits (x : Int) &&& BitVec.ofInt IntKind.u64.bits 1).toNat) = ((x % 2 : Nat) : Int) := by
  unfold u64ok at h
  have h1 : (BitVec.ofInt IntKind.u64.bits (x : Int)).toNat = x := by
    show (BitVec.ofInt 64 (x : Int)).toNat = _
    rw [BitVec.toNat_ofInt]; omega
  have h2 : (BitVec.ofInt IntKind.u64.bits 1).toNat = 1 := by decide
  rw [BitVec.toNat_and, h1, h2, Nat.and_one_is_mod, wrap_u64]; omega
theorem unzig_run {x : Nat} (h : u64ok x) : IntKind.i64.wrap ((BitVec.ofInt IntKind.i64.bits ((x / 2 : Nat) : Int) ^^^ BitVec.ofInt IntKind.i64.bits (-((x % 2 : Nat) : Int))).toNat) = unzig x := by
  unfold u64ok at h
  unfold unzig
  split
  · rename_i h2
    rw [h2]; exact xor_i64z (by omega)
  · rename_i h2
    have e : x % 2 = 1 := by omega
    rw [e]; exact xor_i64 (by omega)
/-- The number of bytes, the low one first. -/
def ofLE : List UInt8 → Nat
  | [] => 0
  | b :: l => b.toNat + 256 * ofLE l
theorem ofLE_lt : ∀ l : List UInt8, ofLE l < 256 ^ l.length
  | [] => by decide
  | b :: l => by
    have := ofLE_lt l
    have hb := b.toNat_lt
    simp only [ofLE, List.length_cons, Nat.pow_succ]; omega
theorem ofLE_snoc : ∀ (l : List UInt8) (b : UInt8), ofLE (l ++ [b]) = ofLE l + b.toNat * 256 ^ l.length
  | [], b => by simp [ofLE]
  | c :: l, b => by
    have e : b.toNat * (256 ^ l.length * 256) = 256 * (b.toNat * 256 ^ l.length) := by rw [← Nat.mul_assoc, Nat.mul_comm]
    simp only [List.cons_append, ofLE, ofLE_snoc l b, List.length_cons, Nat.pow_succ, e]
    omega
theorem leB_ofLE : ∀ l : List UInt8, leB (ofLE l) l.length = l
  | [] => rfl
  | b :: l => by
    have hb := b.toNat_lt
    simp only [ofLE, List.length_cons, leB]
    rw [show (b.toNat + 256 * ofLE l) % 256 = b.toNat by omega, show (b.toNat + 256 * ofLE l) / 256 = ofLE l by omega, leB_ofLE l]
    simp
theorem ofLE_leB : ∀ (n x : Nat), x < 256 ^ n → ofLE (leB x n) = x
  | 0, x, h => by have : x = 0 := by simpa using h
                  subst this; rfl
  | n + 1, x, h => by
    have h2 : ofLE (leB (x / 256) n) = x / 256 := ofLE_leB n _ (by rw [Nat.pow_succ] at h; exact Nat.div_lt_of_lt_mul (by omega))
    have hb : ((x % 256).toUInt8).toNat = x % 256 := by have := u8n (x := x % 256) (by omega); omega
    simp only [leB, ofLE, h2, hb]; omega
def rLow (n : Nat) (l : List UInt8) : Rs Nat := if l.length < n then .err 1 else .ok (ofLE (l.take n)) n
theorem rLow_good (n : Nat) (l : List UInt8) : (rLow n l).Good l.length ∧ (∀ x k, rLow n l = .ok x k → x = ofLE (l.take n) ∧ k = n ∧ n ≤ l.length ∧ x < 256 ^ n) := by
  unfold rLow
  split
  · exact ⟨by show 1 ≤ 1 ∧ 1 ≤ 19; omega, fun x k e => by cases e⟩
  · refine ⟨by show n ≤ l.length; omega, fun x k e => ?_⟩
    cases e
    have := ofLE_lt (l.take n)
    rw [List.length_take, Nat.min_eq_left (by omega)] at this
    exact ⟨rfl, rfl, by omega, this⟩
def rFl (l : List UInt8) : Rs Nat := if l.length < 8 then .err 1 else if canon (ofLE (l.take 8)) = ofLE (l.take 8) then .ok (ofLE (l.take 8)) 8 else .err 13
def rF32 (l : List UInt8) : Rs Nat := if l.length < 4 then .err 1 else if canon32 (ofLE (l.take 4)) = ofLE (l.take 4) then .ok (ofLE (l.take 4)) 4 else .err 13
theorem rFl_good (l : List UInt8) : (rFl l).Good l.length ∧ (∀ x k, rFl l = .ok x k → x = ofLE (l.take 8) ∧ k = 8 ∧ 8 ≤ l.length ∧ canon x = x ∧ u64ok x) := by
  unfold rFl
  split
  · exact ⟨by show 1 ≤ 1 ∧ 1 ≤ 19; omega, fun x k e => by cases e⟩
  · split
    · rename_i h1 h2
      refine ⟨by show 8 ≤ l.length; omega, fun x k e => ?_⟩
      cases e
      have := ofLE_lt (l.take 8)
      rw [List.length_take, Nat.min_eq_left (by omega)] at this
      exact ⟨rfl, rfl, by omega, h2, by unfold u64ok; omega⟩
    · exact ⟨by show 1 ≤ 13 ∧ 13 ≤ 19; omega, fun x k e => by cases e⟩
theorem rF32_good (l : List UInt8) : (rF32 l).Good l.length ∧ (∀ x k, rF32 l = .ok x k → x = ofLE (l.take 4) ∧ k = 4 ∧ 4 ≤ l.length ∧ canon32 x = x ∧ u32ok x) := by
  unfold rF32
  split
  · exact ⟨by show 1 ≤ 1 ∧ 1 ≤ 19; omega, fun x k e => by cases e⟩
  · split
    · rename_i h1 h2
      refine ⟨by show 4 ≤ l.length; omega, fun x k e => ?_⟩
      cases e
      have := ofLE_lt (l.take 4)
      rw [List.length_take, Nat.min_eq_left (by omega)] at this
      exact ⟨rfl, rfl, by omega, h2, by unfold u32ok; omega⟩
    · exact ⟨by show 1 ≤ 13 ∧ 13 ≤ 19; omega, fun x k e => by cases e⟩
def pair2 {α : Type} (n w : Nat) (one : List UInt8 → Rs α) (l : List UInt8) : Rs (α × α) :=
  if l.length < n then .err 1 else match one l with
    | .err e => .err e
    | .ok a _ => match one (l.drop w) with
      | .err e => .err e
      | .ok b _ => .ok (a, b) n
def rCo : List UInt8 → Rs (Nat × Nat) := pair2 16 8 rFl
def rNa : List UInt8 → Rs (Nat × Nat) := pair2 8 4 rF32
theorem pair2_good {α : Type} {n w : Nat} {one : List UInt8 → Rs α} (hg : ∀ l, (one l).Good l.length) (l : List UInt8) : (pair2 n w one l).Good l.length ∧
    (∀ q k, pair2 n w one l = .ok q k → k = n ∧ n ≤ l.length ∧ (∃ k1, one l = .ok q.1 k1) ∧ ∃ k2, one (l.drop w) = .ok q.2 k2) := by
  unfold pair2
  split
  · exact ⟨by show 1 ≤ 1 ∧ 1 ≤ 19; omega, fun x k e => by cases e⟩
  · rename_i hn
    have h1 := hg l
    have h2 := hg (l.drop w)
    cases ho : one l with
    | err e => rw [ho] at h1; exact ⟨h1, fun x k e => by cases e⟩
    | ok a k1 =>
      simp only
      cases ht : one (l.drop w) with
      | err e => rw [ht] at h2; exact ⟨h2, fun x k e => by cases e⟩
      | ok b k2 =>
        refine ⟨by show n ≤ l.length; omega, fun x k e => ?_⟩
        cases e
        exact ⟨rfl, by omega, ⟨k1, rfl⟩, ⟨k2, rfl⟩⟩
def rTx (most : Int) (l : List UInt8) : Rs (List UInt8) := match rUp most l with
  | .err e => .err e
  | .ok n k => if (l.drop k).length < n then .err 1 else .ok ((l.drop k).take n) (k + n)
def rMany {α : Type} (one : List UInt8 → Rs α) : Nat → List UInt8 → Rs (List α)
  | 0, _ => .ok [] 0
  | n + 1, l => match one l with
    | .err e => .err e
    | .ok a k => match rMany one n (l.drop k) with
      | .err e => .err e
      | .ok ys m => .ok (a :: ys) (k + m)
def rList {α : Type} (one : List UInt8 → Rs α) (l : List UInt8) : Rs (List α) := match rUp 1048576 l with
  | .err e => .err e
  | .ok n k => match rMany one n (l.drop k) with
    | .err e => .err e
    | .ok ys m => .ok ys (k + m)
theorem rTx_good (most : Int) (l : List UInt8) : (rTx most l).Good l.length ∧ (∀ x k, rTx most l = .ok x k → (x.length : Int) ≤ most ∧ ∃ j, rUp most l = .ok x.length j ∧ k = j + x.length ∧ x = (l.drop j).take x.length ∧ k ≤ l.length) := by
  have h := rUp_good most l
  unfold rTx
  cases hr : rUp most l with
  | err e => rw [hr] at h; exact ⟨h.1, fun x k e => by cases e⟩
  | ok n j =>
    rw [hr] at h
    have h1 : j ≤ l.length := h.1
    simp only
    split
    · exact ⟨by show 1 ≤ 1 ∧ 1 ≤ 19; omega, fun x k e => by cases e⟩
    · rename_i hn
      rw [List.length_drop] at hn
      refine ⟨by show j + n ≤ l.length; omega, fun x k e => ?_⟩
      cases e
      have hl : ((l.drop j).take n).length = n := by rw [List.length_take, List.length_drop]; omega
      exact ⟨by rw [hl]; exact (h.2 _ _ rfl).1, j, by rw [hl], by rw [hl], by rw [hl], by omega⟩
theorem rMany_good {α : Type} {one : List UInt8 → Rs α} (hg : ∀ l, (one l).Good l.length) : ∀ (n : Nat) (l : List UInt8), (rMany one n l).Good l.length ∧ (∀ x k, rMany one n l = .ok x k → x.length = n)
  | 0, l => ⟨Nat.zero_le _, fun x k e => by cases e; rfl⟩
  | n + 1, l => by
    have h1 := hg l
    unfold rMany
    cases ho : one l with
    | err e => rw [ho] at h1; exact ⟨h1, fun x k e => by cases e⟩
    | ok a k =>
      rw [ho] at h1
      have h2 := rMany_good hg n (l.drop k)
      simp only
      cases hm : rMany one n (l.drop k) with
      | err e => rw [hm] at h2; exact ⟨h2.1, fun x k e => by cases e⟩
      | ok ys m =>
        rw [hm] at h2
        have h3 : k ≤ l.length := h1
        have h4 : m ≤ (l.drop k).length := h2.1
        rw [List.length_drop] at h4
        refine ⟨by show k + m ≤ l.length; omega, fun x k e => ?_⟩
        cases e
        simp [h2.2 _ _ rfl]
theorem rList_good {α : Type} {one : List UInt8 → Rs α} (hg : ∀ l, (one l).Good l.length) (l : List UInt8) : (rList one l).Good l.length ∧ (∀ x k, rList one l = .ok x k → x.length ≤ 1048576) := by
  have h := rUp_good 1048576 l
  unfold rList
  cases hr : rUp 1048576 l with
  | err e => rw [hr] at h; exact ⟨h.1, fun x k e => by cases e⟩
  | ok n k =>
    rw [hr] at h
    have hm := rMany_good hg n (l.drop k)
    simp only
    cases hq : rMany one n (l.drop k) with
    | err e => rw [hq] at hm; exact ⟨hm.1, fun x k e => by cases e⟩
    | ok ys m =>
      rw [hq] at hm
      have h3 : k ≤ l.length := h.1
      have h4 : m ≤ (l.drop k).length := hm.1
      rw [List.length_drop] at h4
      refine ⟨by show k + m ≤ l.length; omega, fun x k e => ?_⟩
      cases e
      have := (h.2 _ _ rfl).1
      rw [hm.2 _ _ rfl]; omega
/-- Reading on behind n things that were read. -/
theorem rMany_step {α : Type} {one : List UInt8 → Rs α} {a : α} {k n : Nat} {l : List UInt8} (h : one l = .ok a k) : rMany one (n + 1) l = (match rMany one n (l.drop k) with
      | .err e => .err e
      | .ok ys m => .ok (a :: ys) (k + m)) := by rw [rMany, h]
def rFls := rList rFl
def rCos := rList rCo
theorem rFl_g (l : List UInt8) : (rFl l).Good l.length := (rFl_good l).1
theorem rF32_g (l : List UInt8) : (rF32 l).Good l.length := (rF32_good l).1
theorem rCo_g (l : List UInt8) : (rCo l).Good l.length := (pair2_good rFl_g l).1
theorem rNa_g (l : List UInt8) : (rNa l).Good l.length := (pair2_good rF32_g l).1
theorem or8 {x y i : Nat} (hi : i < 8) (hx : x < 256 ^ i) (hy : y < 256) :
    IntKind.u64.wrap ((BitVec.ofInt IntKind.u64.bits (x : Int) ||| BitVec.ofInt IntKind.u64.bits ((y * 256 ^ i : Nat) : Int)).toNat) = ((x + y * 256 ^ i : Nat) : Int) := by
  have h := pow256 hi
  have e := h.1
  rw [← e] at hx ⊢
  have h1 : y * 2 ^ (8 * i) ≤ 255 * 72057594037927936 := Nat.mul_le_mul (by omega) h.2.1
  exact or_shift hx (by omega) (by omega)
theorem shl8 {y i : Nat} (hi : i < 8) (hy : y < 256) : IntKind.u64.wrap ((y : Int) * 2 ^ (min ((8 * (i : Int)).toNat) IntKind.u64.bits)) = ((y * 256 ^ i : Nat) : Int) := by
  have e : min ((8 * (i : Int)).toNat) IntKind.u64.bits = 8 * i := by
    show min ((8 * (i : Int)).toNat) 64 = 8 * i
    omega
  have h := pow256 hi
  have h1 : y * 2 ^ (8 * i) ≤ 255 * 72057594037927936 := Nat.mul_le_mul (by omega) h.2.1
  rw [e, ← h.1]
  have e2 : ((y : Int) * 2 ^ (8 * i)) = ((y * 2 ^ (8 * i) : Nat) : Int) := by simp
  rw [e2, wrap_u64]; omega

end Go.Proofs.YtippfdnjhcpekaaDoor

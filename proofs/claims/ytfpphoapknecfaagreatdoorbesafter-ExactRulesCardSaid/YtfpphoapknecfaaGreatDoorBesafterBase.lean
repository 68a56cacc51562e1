/- Plain facts on bytes and varints. -/
import Derived.Test.YtfpphoapknecfaaGreatDoorBesafterEng28
namespace Go.Proofs.YtfpphoapknecfaaGreatDoorBesafter
open Go Go.Eng
set_option maxRecDepth 100000
set_option linter.unusedVariables false
set_option linter.unusedSimpArgs false
/-- The bytes as cells. -/
def bv (l : List UInt8) : List Value := l.map fun b => .int .u8 b.toNat
theorem bv_app (a b : List UInt8) : bv (a ++ b) = bv a ++ bv b := by simp [bv]
theorem bv_len (a : List UInt8) : (bv a).length = a.length := by simp [bv]
theorem bv_cell (a : List UInt8) : ∀ v ∈ bv a, isCell v = true := by
  intro v hv; obtain ⟨b, _, rfl⟩ := List.mem_map.1 hv; rfl
theorem bv_get {a : List UInt8} {j : Nat} {b : UInt8} (h : a[j]? = some b) : (bv a)[j]? = some (.int .u8 b.toNat) := by simp [bv, h]
def varint (x : Nat) : List UInt8 := if x < 128 then [x.toUInt8] else (x % 128 + 128).toUInt8 :: varint (x / 128)
  termination_by x
  decreasing_by omega
theorem varint_lt {x : Nat} (h : x < 128) : varint x = [x.toUInt8] := by rw [varint, if_pos h]
theorem varint_ge {x : Nat} (h : 128 ≤ x) : varint x = (x % 128 + 128).toUInt8 :: varint (x / 128) := by rw [varint, if_neg (by omega)]
theorem varint_len : ∀ (k x : Nat), x < 128 ^ (k + 1) → (varint x).length ≤ k + 1 := by
  intro k
  induction k with
  | zero => intro x h; rw [varint_lt (by omega)]; simp
  | succ k ih =>
    intro x h
    by_cases hx : x < 128
    · rw [varint_lt hx]; simp
    · rw [varint_ge (by omega)]
      have := ih (x / 128) (by rw [Nat.div_lt_iff_lt_mul (by decide)]; rw [Nat.pow_succ] at h; exact h)
      simp only [List.length_cons]; omega
theorem varint_len10 {x : Nat} (h : x ≤ 18446744073709551615) : (varint x).length ≤ 10 := varint_len 9 x (Nat.lt_of_le_of_lt h (by decide))
theorem wrap_u8 (a : Int) : IntKind.u8.wrap a = a % 256 := by simp [IntKind.wrap, IntKind.bits, IntKind.signed]
theorem wrap_u64 (a : Int) : IntKind.u64.wrap a = a % 18446744073709551616 := by simp [IntKind.wrap, IntKind.bits, IntKind.signed]
theorem or128n : ∀ x : Fin 256, x.val ||| 128 = x.val % 128 + 128 := by decide
theorem or128 (x : Nat) : IntKind.u8.wrap ((BitVec.ofInt IntKind.u8.bits ((x : Int) % 256) ||| BitVec.ofInt IntKind.u8.bits 128).toNat) = ((x % 128 + 128 : Nat) : Int) := by
  have h1 : (BitVec.ofInt IntKind.u8.bits ((x : Int) % 256)).toNat = x % 256 := by
    show (BitVec.ofInt 8 ((x : Int) % 256)).toNat = _
    rw [BitVec.toNat_ofInt]; omega
  have h2 : (BitVec.ofInt IntKind.u8.bits 128).toNat = 128 := rfl
  rw [BitVec.toNat_or, h1, h2, or128n ⟨x % 256, by omega⟩]
  rw [wrap_u8]; simp only; omega
theorem and127n : ∀ x : Fin 256, x.val &&& 127 = x.val % 128 := by decide
theorem and127 {b : Nat} (hb : b < 256) : IntKind.u8.wrap ((BitVec.ofInt IntKind.u8.bits (b : Int) &&& BitVec.ofInt IntKind.u8.bits 127).toNat) = ((b % 128 : Nat) : Int) := by
  have h1 : (BitVec.ofInt IntKind.u8.bits (b : Int)).toNat = b := by
    show (BitVec.ofInt 8 (b : Int)).toNat = _
    rw [BitVec.toNat_ofInt]; omega
  have h2 : (BitVec.ofInt IntKind.u8.bits 127).toNat = 127 := rfl
  rw [BitVec.toNat_and, h1, h2, and127n ⟨b, hb⟩, wrap_u8]; simp only; omega
theorem u8n {x : Nat} (h : x < 256) : ((x.toUInt8).toNat : Int) = x := by
  simp [Nat.toUInt8, UInt8.toNat_ofNat', Nat.mod_eq_of_lt h]
theorem bv1 {x : Nat} (h : x < 256) : bv [x.toUInt8] = [.int .u8 (x : Int)] := by
  simp only [bv, List.map_cons, List.map_nil]; rw [u8n h]
/-- Low bits below a shifted number: the disjunction is the sum. -/
theorem or_shift {x y i : Nat} (hx : x < 2 ^ i) (hx64 : x < 18446744073709551616) (hs : y * 2 ^ i < 18446744073709551616) :
    IntKind.u64.wrap ((BitVec.ofInt IntKind.u64.bits (x : Int) ||| BitVec.ofInt IntKind.u64.bits ((y * 2 ^ i : Nat) : Int)).toNat) = ((x + y * 2 ^ i : Nat) : Int) := by
  have hor : x ||| y * 2 ^ i = x + y * 2 ^ i := by
    rw [Nat.mul_comm y, Nat.or_comm, Nat.add_comm]; exact (Nat.two_pow_add_eq_or_of_lt hx y).symm
  have h1 : (BitVec.ofInt IntKind.u64.bits (x : Int)).toNat = x := by
    show (BitVec.ofInt 64 (x : Int)).toNat = _
    rw [BitVec.toNat_ofInt]; omega
  have h2 : (BitVec.ofInt IntKind.u64.bits ((y * 2 ^ i : Nat) : Int)).toNat = y * 2 ^ i := by
    show (BitVec.ofInt 64 ((y * 2 ^ i : Nat) : Int)).toNat = _
    rw [BitVec.toNat_ofInt]; omega
  rw [BitVec.toNat_or, h1, h2]
  have hlt : x ||| y * 2 ^ i < 2 ^ 64 := Nat.or_lt_two_pow (by omega) (by omega)
  rw [hor] at hlt ⊢
  rw [wrap_u64]; omega
/-- What reading a number comes to. -/
inductive Rd where
  | ok (x k : Nat)
  | err (e : Nat)
  deriving DecidableEq
/-- A varint out of the bytes ahead: i bytes of it are behind, their number is x. -/
def rdu : Nat → Nat → List UInt8 → Rd
  | _, _, [] => .err 1
  | i, x, b :: l =>
    if i = 9 ∧ b.toNat > 1 then .err 2
    else if b.toNat > 127 then rdu (i + 1) (x + (b.toNat % 128) * 2 ^ (7 * i)) l
    else if b.toNat = 0 ∧ i > 0 then .err 2
    else .ok (x + b.toNat * 2 ^ (7 * i)) (i + 1)
def Rd.upto (most : Int) : Rd → Rd
  | .ok x k => if most < 0 ∨ most < x then .err 3 else .ok x k
  | .err e => .err e
theorem pow7a {i : Nat} (hi : i ≤ 8) : (2 : Nat) ^ (7 * (i + 1)) = 2 ^ (7 * i) * 128 ∧ (2 : Nat) ^ (7 * (i + 1)) ≤ 9223372036854775808 ∧ 0 < (2 : Nat) ^ (7 * i) := by
  have h : i = 0 ∨ i = 1 ∨ i = 2 ∨ i = 3 ∨ i = 4 ∨ i = 5 ∨ i = 6 ∨ i = 7 ∨ i = 8 := by omega
  rcases h with rfl | rfl | rfl | rfl | rfl | rfl | rfl | rfl | rfl <;> decide
theorem pow7y {y i : Nat} (hi : i ≤ 8) (hy : y < 128) : y * 2 ^ (7 * i) + 2 ^ (7 * i) ≤ 2 ^ (7 * (i + 1)) := by
  obtain ⟨h1, _, _⟩ := pow7a hi
  rw [h1, ← Nat.succ_mul, Nat.mul_comm _ 128]; exact Nat.mul_le_mul_right _ (by omega)
theorem pow7 {y i : Nat} (hi : i ≤ 9) (hy : y < 128) (h9 : i = 9 → y ≤ 1) : y * 2 ^ (7 * i) < 18446744073709551616 := by
  by_cases h : i = 9
  · subst h
    have := h9 rfl
    have e : (2 : Nat) ^ (7 * 9) = 9223372036854775808 := by decide
    rw [e]; omega
  · have h1 := pow7y (y := y) (i := i) (by omega) hy
    obtain ⟨_, h2, h3⟩ := pow7a (i := i) (by omega)
    omega
theorem pow7x {x i : Nat} (hi : i ≤ 9) (hx : x < 2 ^ (7 * i)) : x < 9223372036854775808 := by
  by_cases h : i = 0
  · subst h; simp at hx; omega
  · obtain ⟨j, rfl⟩ : ∃ j, i = j + 1 := ⟨i - 1, by omega⟩
    have := (pow7a (i := j) (by omega)).2.1; omega
theorem pow7z {x y i : Nat} (hi : i ≤ 9) (hx : x < 2 ^ (7 * i)) (hy : y < 128) (h9 : i = 9 → y ≤ 1) : x + y * 2 ^ (7 * i) < 18446744073709551616 := by
  by_cases h : i = 9
  · subst h
    have := h9 rfl
    have e : (2 : Nat) ^ (7 * 9) = 9223372036854775808 := by decide
    rw [e] at hx ⊢; omega
  · have h1 := pow7y (y := y) (i := i) (by omega) hy
    have h2 := (pow7a (i := i) (by omega)).2.1
    omega
theorem shl64 {y i : Nat} (hi : i ≤ 9) (h : y * 2 ^ (7 * i) < 18446744073709551616) :
    IntKind.u64.wrap ((y : Int) * 2 ^ (min ((7 * (i : Int)).toNat) IntKind.u64.bits)) = ((y * 2 ^ (7 * i) : Nat) : Int) := by
  have e : min ((7 * (i : Int)).toNat) IntKind.u64.bits = 7 * i := by
    show min ((7 * (i : Int)).toNat) 64 = 7 * i
    omega
  rw [e]
  have e2 : ((y : Int) * 2 ^ (7 * i)) = ((y * 2 ^ (7 * i) : Nat) : Int) := by simp
  rw [e2, wrap_u64]; omega
def rdOut (E : Nat → Value) (mk : Nat → Value) (z : Value) : Rd → Value
  | .ok x _ => .tuple #[mk x, .nilIface]
  | .err e => .tuple #[z, E e]
def rdAt (at_ : Nat) : Rd → Nat
  | .ok _ k => at_ + k
  | .err _ => at_
def isE (E : Nat → Value) : Rd → Value
  | .ok _ _ => .nilIface
  | .err e => E e
def rdN : Rd → Nat
  | .ok x _ => x
  | .err _ => 0
theorem rdu_nil {i x : Nat} {l : List UInt8} (h : l = []) : rdu i x l = .err 1 := by subst h; rfl
theorem rdu_cons {i x : Nat} {l m : List UInt8} {b : UInt8} (h : l = b :: m) : rdu i x l = (if i = 9 ∧ b.toNat > 1 then .err 2
    else if b.toNat > 127 then rdu (i + 1) (x + (b.toNat % 128) * 2 ^ (7 * i)) m
    else if b.toNat = 0 ∧ i > 0 then .err 2
    else .ok (x + b.toNat * 2 ^ (7 * i)) (i + 1)) := by subst h; rfl
theorem drop_get {l : List UInt8} {i : Nat} (h : i < l.length) : ∃ b, l[i]? = some b ∧ l.drop i = b :: l.drop (i + 1) :=
  ⟨l[i], List.getElem?_eq_getElem h, List.drop_eq_getElem_cons h⟩
theorem xor8 (b c : UInt8) : IntKind.u8.wrap ((BitVec.ofInt IntKind.u8.bits (b.toNat : Int) ^^^ BitVec.ofInt IntKind.u8.bits (c.toNat : Int)).toNat) = ((b ^^^ c).toNat : Int) := by
  have h : ∀ d : UInt8, (BitVec.ofInt IntKind.u8.bits (d.toNat : Int)).toNat = d.toNat := by
    intro d
    show (BitVec.ofInt 8 (d.toNat : Int)).toNat = _
    have := d.toNat_lt
    rw [BitVec.toNat_ofInt]; omega
  rw [BitVec.toNat_xor, h, h, wrap_u8]
  have h2 := (b ^^^ c).toNat_lt
  rw [UInt8.toNat_xor] at h2 ⊢
  omega
theorem bv_set {l : List UInt8} {i : Nat} {b : UInt8} : (bv l).set i (.int .u8 b.toNat) = bv (l.set i b) := by simp [bv]

end Go.Proofs.YtfpphoapknecfaaGreatDoorBesafter

/- Floats, complex numbers, texts and lists as bytes: plain facts. -/
import Derived.Test.YtippfdnjhcpekaaDoorPk
namespace Go.Proofs.YtippfdnjhcpekaaDoor
open Go Go.Eng
set_option maxRecDepth 100000
set_option linter.unusedVariables false
set_option linter.unusedSimpArgs false

/-- The bits of every NaN are one. -/
def canon (b : Nat) : Nat := if 9218868437227405312 < b % 9223372036854775808 then 9221120237041090560 else b
def canon32 (b : Nat) : Nat := if 2139095040 < b % 2147483648 then 2143289344 else b
theorem canon_le {b : Nat} (h : b ≤ 18446744073709551615) : canon b ≤ 18446744073709551615 := by unfold canon; split <;> omega
theorem canon32_le {b : Nat} (h : b ≤ 4294967295) : canon32 b ≤ 4294967295 := by unfold canon32; split <;> omega
/-- So many bytes, the low one first. -/
def leB : Nat → Nat → List UInt8
  | _, 0 => []
  | x, n + 1 => (x % 256).toUInt8 :: leB (x / 256) n
theorem leB_len : ∀ (n x : Nat), (leB x n).length = n
  | 0, _ => rfl
  | n + 1, x => by simp [leB, leB_len n]
theorem leB_snoc : ∀ (n x : Nat), leB x (n + 1) = leB x n ++ [(x / 256 ^ n % 256).toUInt8]
  | 0, x => by simp [leB]
  | n + 1, x => by
    have ih := leB_snoc n (x / 256)
    rw [leB, ih]
    simp only [leB, List.cons_append]
    rw [Nat.div_div_eq_div_mul, Nat.pow_succ, Nat.mul_comm 256]
def fB (b : Nat) : List UInt8 := leB (canon b) 8
def cB (q : Nat × Nat) : List UInt8 := fB q.1 ++ fB q.2
def nB (q : Nat × Nat) : List UInt8 := leB (canon32 q.1) 4 ++ leB (canon32 q.2) 4
def tB (s : ByteArray) : List UInt8 := varint s.size ++ s.data.toList
def clB (l : List (Nat × Nat)) : List UInt8 := varint l.length ++ (l.map cB).flatten
def flB (l : List Nat) : List UInt8 := varint l.length ++ (l.map fB).flatten
theorem fB_len (b : Nat) : (fB b).length = 8 := leB_len _ _
theorem cB_len (q : Nat × Nat) : (cB q).length = 16 := by simp [cB, fB_len]
theorem nB_len (q : Nat × Nat) : (nB q).length = 8 := by simp [nB, leB_len]
theorem flat_len8 {α : Type} (f : α → List UInt8) (n : Nat) (hf : ∀ a, (f a).length = n) : ∀ l : List α, ((l.map f).flatten).length = l.length * n
  | [] => by simp
  | a :: l => by simp only [List.map_cons, List.flatten_cons, List.length_append, hf, flat_len8 f n hf l, List.length_cons, Nat.add_mul]; omega
/-- The zigzag of a signed number. -/
def zig (x : Int) : Nat := if x < 0 then (-2 * x - 1).toNat else (2 * x).toNat
theorem zig_le {x : Int} (h0 : -9223372036854775808 ≤ x) (h1 : x ≤ 9223372036854775807) : zig x ≤ 18446744073709551615 := by unfold zig; split <;> omega
theorem xor_ones {a : Nat} (h : a < 18446744073709551616) : a ^^^ 18446744073709551615 = 18446744073709551615 - a := by
  have h1 := congrArg BitVec.toNat (BitVec.xor_allOnes (x := BitVec.ofNat 64 a))
  rw [BitVec.toNat_xor, BitVec.toNat_not, BitVec.toNat_ofNat, BitVec.toNat_allOnes, Nat.mod_eq_of_lt (by simpa using h)] at h1
  exact h1
theorem zig_run {x : Int} (h0 : -9223372036854775808 ≤ x) (h1 : x ≤ 9223372036854775807) :
    IntKind.u64.wrap ((BitVec.ofInt IntKind.u64.bits (IntKind.u64.wrap (IntKind.i64.wrap (x * 2))) ^^^ BitVec.ofInt IntKind.u64.bits (IntKind.u64.wrap (x / 9223372036854775808))).toNat) = (zig x : Int) := by
  have hb : ∀ (a : Int) (n : Nat), IntKind.u64.wrap a = n → n < 18446744073709551616 → (BitVec.ofInt IntKind.u64.bits (IntKind.u64.wrap a)).toNat = n := by
    intro a n h hn
    show (BitVec.ofInt 64 (IntKind.u64.wrap a)).toNat = n
    rw [BitVec.toNat_ofInt, h]; omega
  have hw1 : IntKind.u64.wrap (IntKind.i64.wrap (x * 2)) = (((x * 2) % 18446744073709551616).toNat : Int) := by
    simp only [IntKind.wrap, IntKind.bits, IntKind.signed]; simp; omega
  rw [BitVec.toNat_xor, hb _ _ hw1 (by omega)]
  by_cases hx : x < 0
  · have hw2 : IntKind.u64.wrap (x / 9223372036854775808) = (18446744073709551615 : Nat) := by
      simp only [IntKind.wrap, IntKind.bits, IntKind.signed]; simp; omega
    rw [hb _ _ hw2 (by decide), xor_ones (by omega), wrap_u64]
    unfold zig
    rw [if_pos hx]; omega
  · have hw2 : IntKind.u64.wrap (x / 9223372036854775808) = (0 : Nat) := by
      simp only [IntKind.wrap, IntKind.bits, IntKind.signed]; simp; omega
    rw [hb _ _ hw2 (by decide), Nat.xor_zero, wrap_u64]
    unfold zig
    rw [if_neg hx]; omega
theorem pow256 {i : Nat} (h : i < 8) : (2 : Nat) ^ (8 * i) = 256 ^ i ∧ (2 : Nat) ^ (8 * i) ≤ 72057594037927936 ∧ 0 < (2 : Nat) ^ (8 * i) := by
  have : i = 0 ∨ i = 1 ∨ i = 2 ∨ i = 3 ∨ i = 4 ∨ i = 5 ∨ i = 6 ∨ i = 7 := by omega
  rcases this with rfl | rfl | rfl | rfl | rfl | rfl | rfl | rfl <;> decide
theorem shr8 {x i : Nat} (h : i < 8) : (x : Int) / (2 ^ (min ((8 * (i : Int)).toNat) IntKind.u64.bits) : Int) = ((x / 256 ^ i : Nat) : Int) := by
  have e : min ((8 * (i : Int)).toNat) IntKind.u64.bits = 8 * i := by
    show min ((8 * (i : Int)).toNat) 64 = 8 * i
    omega
  rw [e, ← (pow256 h).1]; simp
theorem fnan64 (b : Nat) : (FloatKind.f64.format.order b b != some .eq) = decide (9218868437227405312 < b % 9223372036854775808) := by
  have h : (FloatKind.f64.format.order b b == some .eq) = decide (¬ 9218868437227405312 < b % 9223372036854775808 ∨ b % 9223372036854775808 < 4503599627370496) := order_self Ieee.double b
  rw [bne, h, ← decide_not]
  congr 1
  apply propext
  omega
theorem fnan32 (b : Nat) : (FloatKind.f32.format.order b b != some .eq) = decide (2139095040 < b % 2147483648) := by
  have h : (FloatKind.f32.format.order b b == some .eq) = decide (¬ 2139095040 < b % 2147483648 ∨ b % 2147483648 < 8388608) := order_self Ieee.single b
  rw [bne, h, ← decide_not]
  congr 1
  apply propext
  omega
section
variable {P : Program} {ρ : Operand → Value} {w : World} {d : Option Tmp} {ty : TypeId} {pos : String} {af : Array Edge} {g : Option (Nat × Bool)} {x y : Operand}
theorem nan64 {t t' : TypeId} {a : Nat} (hx : ρ x = .float .f64 a) (hy : ρ y = .float .f64 a) : Runs P ρ ⟨d, .binOp .neq t x y t', ty, pos, af, g⟩ w (.bool (decide (9218868437227405312 < a % 9223372036854775808))) := by
  rw [← fnan64]; exact RX.fne hx hy
theorem nan32 {t t' : TypeId} {a : Nat} (hx : ρ x = .float .f32 a) (hy : ρ y = .float .f32 a) : Runs P ρ ⟨d, .binOp .neq t x y t', ty, pos, af, g⟩ w (.bool (decide (2139095040 < a % 2147483648))) := by
  rw [← fnan32]; exact RX.fne hx hy
end
def u64ok (x : Nat) : Prop := x ≤ 18446744073709551615
def cV (q : Nat × Nat) : Value := .complex .f64 q.1 q.2
def fV (b : Nat) : Value := .float .f64 b
def uV (b : Nat) : Value := .int .u64 b
def nV (q : Nat × Nat) : Value := .complex .f32 q.1 q.2
def u32ok (x : Nat) : Prop := x ≤ 4294967295
theorem canon32_ok {b : Nat} (h : u32ok b) : u32ok (canon32 b) := canon32_le h
theorem u32_u64 {b : Nat} (h : u32ok b) : u64ok b := by unfold u32ok at h; unfold u64ok; omega
def cVs (l : List (Nat × Nat)) : List Value := l.map cV
def fVs (l : List Nat) : List Value := l.map fV
def uVs (l : List Nat) : List Value := l.map uV
theorem byteCells_bv (s : ByteArray) : byteCells s = bv s.data.toList := by
  cases s with
  | mk a => simp [byteCells, bv, ByteArray.toList_eq]
theorem dlen (s : ByteArray) : s.data.toList.length = s.size := by cases s; rfl
def two (q : Nat × Nat) : List Nat := [q.1, q.2]
theorem nB_two (q : Nat × Nat) : nB q = ((two q).map fun z => leB (canon32 z) 4).flatten := by simp [two, nB]
/-- A Writer at the head of the memory, with what it holds. -/
abbrev Wr (w0 : World) (F : List Seg) (b T : Nat) (xs : List UInt8) (w : World) : Prop :=
  ∃ (p : Option Addr) (c : Nat) (s : Seg), OwnSl 5 1 p xs.length c (bv xs) s ∧ Hp w0 w ([(b, cel [.slice p xs.length c] T)] :: s :: F)
/-- Bytes of the call's own, handed back. -/
abbrev OutB (w0 : World) (F : List Seg) (ys : List UInt8) (v : Value) (w : World) : Prop :=
  ∃ (p : Option Addr) (c : Nat) (s : Seg), v = .slice p ys.length c ∧ OwnSl 5 1 p ys.length c (bv ys) s ∧ Hp w0 w (s :: F)
theorem bv_snoc {ys : List UInt8} {y : Nat} (hy : y < 256) : bv (ys ++ [y.toUInt8]) = bv ys ++ [.int .u8 (y : Int)] := by rw [bv_app, bv1 hy]
theorem canon_ok {b : Nat} (h : u64ok b) : u64ok (canon b) := canon_le h
theorem map_take_snoc {α β : Type} {l : List α} {i : Nat} {a : α} (f : α → List β) (h : l[i]? = some a) : ((l.take (i + 1)).map f).flatten = ((l.take i).map f).flatten ++ f a := by
  obtain ⟨hi, rfl⟩ := List.getElem?_eq_some_iff.1 h
  rw [List.take_succ_eq_append_getElem hi, List.map_append, List.flatten_append]
  simp only [List.map_cons, List.map_nil, List.flatten_cons, List.flatten_nil, List.append_nil]

end Go.Proofs.YtippfdnjhcpekaaDoor

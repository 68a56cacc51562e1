/- The numbers of 192 bits of the reference. -/
import Derived.Test.YtkgbdiahmamolaaGreatDoorBesafterSn
namespace Go.Proofs.YtkgbdiahmamolaaGreatDoorBesafter
open Go Go.Eng
set_option maxRecDepth 100000
set_option linter.unusedVariables false
set_option linter.unusedSimpArgs false
theorem ag52 : aggOf Tryz.prog 52 = some 3 := by kernel_rfl
theorem fo52_0 : fieldOff Tryz.prog 52 0 = some 0 := by kernel_rfl
theorem fo52_1 : fieldOff Tryz.prog 52 1 = some 1 := by kernel_rfl
theorem fo52_2 : fieldOff Tryz.prog 52 2 = some 2 := by kernel_rfl
theorem sz52 : szOf Tryz.prog 52 = some 3 := by kernel_rfl
theorem zr52 : (Tryz.prog.info? 52).bind (·.zero) = some (.agg #[.int .u64 0, .int .u64 0, .int .u64 0]) := by kernel_rfl

theorem and32g {x : Nat} (hx : x < 18446744073709551616) : IntKind.u64.wrap (((BitVec.ofInt IntKind.u64.bits (x : Int)) &&& BitVec.ofInt IntKind.u64.bits (4294967295 : Int)).toNat : Int) = ((x % 4294967296 : Nat) : Int) := by
  have h := and_mask (x := x) (k := 32) (by decide) hx
  rw [show ((2 ^ 32 - 1 : Nat) : Int) = 4294967295 by decide] at h
  exact h
theorem wrapU (n : Nat) : IntKind.u64.wrap (n : Int) = ((n % 18446744073709551616 : Nat) : Int) := by
  simp only [IntKind.wrap, IntKind.bits, IntKind.signed]; simp
theorem mul_le32 {x y : Nat} (hx : x < 4294967296) (hy : y < 4294967296) : x * y ≤ 18446744065119617025 := by
  have := Nat.mul_le_mul (show x ≤ 4294967295 by omega) (show y ≤ 4294967295 by omega)
  omega
theorem mul_parts (x y : Nat) : x * y = (x / 4294967296) * (y / 4294967296) * 18446744073709551616 + ((x / 4294967296) * (y % 4294967296) + (x % 4294967296) * (y / 4294967296)) * 4294967296 + (x % 4294967296) * (y % 4294967296) := by
  have e1 : x = x / 4294967296 * 4294967296 + x % 4294967296 := by omega
  have e2 : y = y / 4294967296 * 4294967296 + y % 4294967296 := by omega
  generalize x / 4294967296 = x1 at *
  generalize x % 4294967296 = x0 at *
  generalize y / 4294967296 = y1 at *
  generalize y % 4294967296 = y0 at *
  subst e1 e2
  rw [Nat.add_mul, Nat.mul_add, Nat.mul_add]
  have k1 : x1 * 4294967296 * (y1 * 4294967296) = x1 * y1 * 18446744073709551616 := by
    rw [Nat.mul_mul_mul_comm]
  have k2 : x1 * 4294967296 * y0 = x1 * y0 * 4294967296 := by rw [Nat.mul_right_comm]
  have k3 : x0 * (y1 * 4294967296) = x0 * y1 * 4294967296 := by rw [Nat.mul_assoc]
  rw [k1, k2, k3, Nat.add_mul]; omega
/-- A number's lowest word. -/
def wn64 (z : Int) : Nat := (z % 18446744073709551616).toNat
def wv (z : Int) : List Value := [.int .u64 ((wn64 (z / 18446744073709551616 / 18446744073709551616) : Nat) : Int), .int .u64 ((wn64 (z / 18446744073709551616) : Nat) : Int), .int .u64 ((wn64 z : Nat) : Int)]
theorem wn64_lt (z : Int) : wn64 z < 18446744073709551616 := by unfold wn64; omega
theorem wn64_wrap (z : Int) : IntKind.u64.wrap z = ((wn64 z : Nat) : Int) := by
  unfold wn64
  simp only [IntKind.wrap, IntKind.bits, IntKind.signed]; simp; omega
theorem wn_add (z p : Int) (c : Nat) : (wn64 z + wn64 p + c) % 18446744073709551616 = wn64 (z + p + c) ∧ (z + p + c) / 18446744073709551616 = z / 18446744073709551616 + p / 18446744073709551616 + (((wn64 z + wn64 p + c) / 18446744073709551616 : Nat) : Int) := by unfold wn64; omega
theorem wn_c {x y c : Nat} (hx : x < 18446744073709551616) (hy : y < 18446744073709551616) (hc : c ≤ 1) : (x + y + c) / 18446744073709551616 ≤ 1 := by omega
theorem wv_cell (z : Int) : ∀ v ∈ wv z, isCell v = true := by
  intro v hv
  simp only [wv, List.mem_cons, List.not_mem_nil, or_false] at hv
  rcases hv with rfl | rfl | rfl <;> rfl
theorem wv_zero : [Value.int .u64 0, Value.int .u64 0, Value.int .u64 0] = wv 0 := by simp [wv, wn64]
theorem prod_bound {a b : Int} (ha : a.natAbs ≤ 9223372036854775808) (hb : b.natAbs ≤ 9223372036854775808) : (a * b).natAbs ≤ 85070591730234615865843651857942052864 := by
  rw [Int.natAbs_mul]
  exact Nat.mul_le_mul ha hb
/-- The product of two words that are read as signed numbers. -/
theorem prod_words {a b : Int} (ha : a.natAbs ≤ 9223372036854775808) (ha2 : a < 9223372036854775808) (hb : b.natAbs ≤ 9223372036854775808) (hb2 : b < 9223372036854775808) :
    ((wn64 a * wn64 b : Nat) : Int) = a * b + 18446744073709551616 * ((if a < 0 then b else 0) + (if b < 0 then a else 0) + (if a < 0 ∧ b < 0 then 18446744073709551616 else 0)) := by
  have h1 : ((wn64 a : Nat) : Int) = a + (if a < 0 then 18446744073709551616 else 0) := by unfold wn64; split <;> omega
  have h2 : ((wn64 b : Nat) : Int) = b + (if b < 0 then 18446744073709551616 else 0) := by unfold wn64; split <;> omega
  rw [Int.natCast_mul, h1, h2, Int.add_mul, Int.mul_add, Int.mul_add]
  by_cases k1 : a < 0 <;> by_cases k2 : b < 0 <;> simp [k1, k2] <;> omega
theorem prod_lo {a b : Int} (ha : a.natAbs ≤ 9223372036854775808) (ha2 : a < 9223372036854775808) (hb : b.natAbs ≤ 9223372036854775808) (hb2 : b < 9223372036854775808) : wn64 a * wn64 b % 18446744073709551616 = wn64 (a * b) := by
  have h := prod_words ha ha2 hb hb2
  generalize wn64 a * wn64 b = N at h ⊢
  generalize a * b = P at h ⊢
  unfold wn64
  by_cases k1 : a < 0 <;> by_cases k2 : b < 0 <;> simp [k1, k2] at h <;> omega
/-- The product's higher word, put right for the signs. -/
theorem prod_hi {a b : Int} (ha : a.natAbs ≤ 9223372036854775808) (ha2 : a < 9223372036854775808) (hb : b.natAbs ≤ 9223372036854775808) (hb2 : b < 9223372036854775808) {h0 h1 h2 : Nat} (e0 : h0 = wn64 a * wn64 b / 18446744073709551616) (e1 : h1 = if a < 0 then wn64 ((h0 : Int) - (wn64 b : Int)) else h0) (e2 : h2 = if b < 0 then wn64 ((h1 : Int) - (wn64 a : Int)) else h1) : h2 = wn64 (a * b / 18446744073709551616) := by
  have h := prod_words ha ha2 hb hb2
  have hB := prod_bound ha hb
  generalize wn64 a * wn64 b = N at h e0 ⊢
  generalize a * b = P at h hB ⊢
  unfold wn64 at *
  by_cases k1 : a < 0 <;> by_cases k2 : b < 0 <;> simp [k1, k2] at h e1 e2 <;> omega
theorem prod_top {p : Int} (h : p.natAbs ≤ 85070591730234615865843651857942052864) : (wn64 (p / 18446744073709551616) / 9223372036854775808 = 1 ↔ p < 0) ∧ (if p < 0 then 18446744073709551615 else 0 : Nat) = wn64 (p / 18446744073709551616 / 18446744073709551616) := by
  unfold wn64
  constructor
  · omega
  · split <;> omega
theorem shr63 (x : Nat) : (x : Int) / (2 ^ (min (63 : Int).toNat IntKind.u64.bits) : Int) = ((x / 9223372036854775808 : Nat) : Int) := by
  have : (2 ^ (min (63 : Int).toNat IntKind.u64.bits) : Int) = 9223372036854775808 := by decide
  rw [this]; omega
theorem fits_iff {z : Int} (h : z.natAbs ≤ 1267650600228229401496703205376) {ov : Nat} (hov : ov = if wn64 z / 9223372036854775808 = 1 then 18446744073709551615 else 0) : (wn64 (z / 18446744073709551616) = ov ∧ wn64 (z / 18446744073709551616 / 18446744073709551616) = ov) ↔ i64in z := by
  unfold wn64 at *
  unfold i64in
  split at hov <;> omega
theorem fits_val {z : Int} (h : i64in z) : sgW (wn64 z) = z := by
  unfold i64in at h
  unfold sgW wn64
  split <;> omega
theorem rot_idx {n j k : Nat} (hn : n = 1 ∨ n = 2 ∨ n = 4) : 4 / n * j * k % 4 = 4 * j * k / n % 4 := by
  rw [Nat.mul_assoc 4 j k, Nat.mul_assoc (4 / n) j k]
  rcases hn with rfl | rfl | rfl <;> omega

theorem Mul64g_b {w0 w : World} {F : List Seg} (H : Hp w0 w F) {x y : Nat} (hx : x < 18446744073709551616) (hy : y < 18446744073709551616) : Ret Tryz.prog 40 [.int .u64 ((x : Nat) : Int), .int .u64 ((y : Nat) : Int)] w fun v w' => v = .tuple #[.int .u64 ((x * y / 18446744073709551616 : Nat) : Int), .int .u64 ((x * y % 18446744073709551616 : Nat) : Int)] ∧ Hp w0 w' F := by
  refine Calls.of_J (n := 51) Tryz.func40 rfl rfl rfl ?_
  refine J.seq ?_
  have hp := mul_parts x y
  have x0 := Nat.mod_lt x (show 0 < 4294967296 by decide)
  have y0 := Nat.mod_lt y (show 0 < 4294967296 by decide)
  have x1 : x / 4294967296 < 4294967296 := by omega
  have y1 : y / 4294967296 < 4294967296 := by omega
  have b00 := mul_le32 x0 y0
  have b10 := mul_le32 x1 y0
  have b01 := mul_le32 x0 y1
  have b11 := mul_le32 x1 y1
  refine J.region ?_
  refine JL.go trivial (RX.assign) ?_
  refine JL.go trivial (RX.assign) ?_
  refine JL.nil ?_
  refine J.seq ?_
  refine J.region ?_
  refine JL.go trivial (RX.movev (v := Value.int _ _) rfl) ?_
  refine JL.go trivial (RX.and rfl rfl (and32g hx)) ?_
  refine JL.go trivial (RX.assignv (v := Value.int _ _) rfl) ?_
  refine JL.nil ?_
  refine J.seq ?_
  refine J.region ?_
  refine JL.go trivial (RX.movev (v := Value.int _ _) rfl) ?_
  refine JL.go trivial (RX.shr rfl rfl (by decide) (shr32 x)) ?_
  refine JL.go trivial (RX.assignv (v := Value.int _ _) rfl) ?_
  refine JL.nil ?_
  refine J.seq ?_
  refine J.region ?_
  refine JL.go trivial (RX.movev (v := Value.int _ _) rfl) ?_
  refine JL.go trivial (RX.and rfl rfl (and32g hy)) ?_
  refine JL.go trivial (RX.assignv (v := Value.int _ _) rfl) ?_
  refine JL.nil ?_
  refine J.seq ?_
  refine J.region ?_
  refine JL.go trivial (RX.movev (v := Value.int _ _) rfl) ?_
  refine JL.go trivial (RX.shr rfl rfl (by decide) (shr32 y)) ?_
  refine JL.go trivial (RX.assignv (v := Value.int _ _) rfl) ?_
  refine JL.nil ?_
  refine J.seq ?_
  refine J.region ?_
  refine JL.go trivial (RX.movev (v := Value.int _ _) rfl) ?_
  refine JL.go trivial (RX.movev (v := Value.int _ _) rfl) ?_
  refine JL.go trivial (RX.mul rfl rfl (wn (n := x % 4294967296 * (y % 4294967296)) (Int.natCast_mul _ _).symm (by omega))) ?_
  refine JL.go trivial (RX.assignv (v := Value.int _ _) rfl) ?_
  refine JL.nil ?_
  refine J.seq ?_
  generalize hA : x % 4294967296 * (y % 4294967296) = A at *
  refine J.region ?_
  refine JL.go trivial (RX.movev (v := Value.int _ _) rfl) ?_
  refine JL.go trivial (RX.movev (v := Value.int _ _) rfl) ?_
  refine JL.go trivial (RX.mul rfl rfl (wn (n := x / 4294967296 * (y % 4294967296)) (Int.natCast_mul _ _).symm (by omega))) ?_
  refine JL.go trivial (RX.movev (v := Value.int _ _) rfl) ?_
  refine JL.go trivial (RX.shr rfl rfl (by decide) (shr32 A)) ?_
  generalize hB : x / 4294967296 * (y % 4294967296) = B at *
  refine JL.go trivial (RX.add rfl rfl (wn (n := B + A / 4294967296) (by omega) (by omega))) ?_
  refine JL.go trivial (RX.assignv (v := Value.int _ _) rfl) ?_
  refine JL.nil ?_
  refine J.seq ?_
  refine J.region ?_
  refine JL.go trivial (RX.movev (v := Value.int _ _) rfl) ?_
  refine JL.go trivial (RX.and rfl rfl (and32g (by omega))) ?_
  refine JL.go trivial (RX.assignv (v := Value.int _ _) rfl) ?_
  refine JL.nil ?_
  refine J.seq ?_
  refine J.region ?_
  refine JL.go trivial (RX.movev (v := Value.int _ _) rfl) ?_
  refine JL.go trivial (RX.shr rfl rfl (by decide) (shr32 _)) ?_
  refine JL.go trivial (RX.assignv (v := Value.int _ _) rfl) ?_
  refine JL.nil ?_
  refine J.seq ?_
  refine J.region ?_
  refine JL.go trivial (RX.movev (v := Value.int _ _) rfl) ?_
  refine JL.go trivial (RX.movev (v := Value.int _ _) rfl) ?_
  refine JL.go trivial (RX.movev (v := Value.int _ _) rfl) ?_
  refine JL.go trivial (RX.mul rfl rfl (wn (n := x % 4294967296 * (y / 4294967296)) (Int.natCast_mul _ _).symm (by omega))) ?_
  generalize hC : x % 4294967296 * (y / 4294967296) = C at *
  refine JL.go trivial (RX.add rfl rfl (wn (n := (B + A / 4294967296) % 4294967296 + C) (by omega) (by omega))) ?_
  refine JL.go trivial (RX.assignv (v := Value.int _ _) rfl) ?_
  refine JL.nil ?_
  refine J.seq ?_
  refine J.region ?_
  refine JL.go trivial (RX.movev (v := Value.int _ _) rfl) ?_
  refine JL.go trivial (RX.movev (v := Value.int _ _) rfl) ?_
  refine JL.go trivial (RX.mul rfl rfl (wn (n := x / 4294967296 * (y / 4294967296)) (Int.natCast_mul _ _).symm (by omega))) ?_
  refine JL.go trivial (RX.movev (v := Value.int _ _) rfl) ?_
  generalize hD : x / 4294967296 * (y / 4294967296) = D at *
  refine JL.go trivial (RX.add rfl rfl (wn (n := D + (B + A / 4294967296) / 4294967296) (by omega) (by omega))) ?_
  refine JL.go trivial (RX.movev (v := Value.int _ _) rfl) ?_
  refine JL.go trivial (RX.shr rfl rfl (by decide) (shr32 _)) ?_
  refine JL.go trivial (RX.add rfl rfl (wn (n := x * y / 18446744073709551616) (by omega) (by omega))) ?_
  refine JL.go trivial (RX.assignv (v := Value.int _ _) rfl) ?_
  refine JL.nil ?_
  refine J.seq ?_
  refine J.region ?_
  refine JL.go trivial (RX.movev (v := Value.int _ _) rfl) ?_
  refine JL.go trivial (RX.movev (v := Value.int _ _) rfl) ?_
  refine JL.go trivial (RX.mul rfl rfl (r := ((x * y % 18446744073709551616 : Nat) : Int)) (by rw [← Int.natCast_mul]; exact wrapU _)) ?_
  refine JL.go trivial (RX.assignv (v := Value.int _ _) rfl) ?_
  refine JL.nil ?_
  refine J.ret2 (v := Value.int _ _) (x := Value.int _ _) Tryz.func40 rfl rfl rfl ?_
  exact ⟨_, rfl, rfl, H⟩
theorem plus_eq {z a b : Int} {T : Nat} (hT : T = wn64 (a * b / 18446744073709551616 / 18446744073709551616)) : [.int .u64 (((wn64 (z / 18446744073709551616 / 18446744073709551616) + T + (wn64 (z / 18446744073709551616) + wn64 (a * b / 18446744073709551616) + (wn64 z + wn64 (a * b) + 0) / 18446744073709551616) / 18446744073709551616) % 18446744073709551616 : Nat) : Int), .int .u64 (((wn64 (z / 18446744073709551616) + wn64 (a * b / 18446744073709551616) + (wn64 z + wn64 (a * b) + 0) / 18446744073709551616) % 18446744073709551616 : Nat) : Int), .int .u64 (((wn64 z + wn64 (a * b) + 0) % 18446744073709551616 : Nat) : Int)] = wv (z + a * b) := by
  have h1 := wn_add z (a * b) 0
  have h2 := wn_add (z / 18446744073709551616) (a * b / 18446744073709551616) ((wn64 z + wn64 (a * b) + 0) / 18446744073709551616)
  have h3 := wn_add (z / 18446744073709551616 / 18446744073709551616) (a * b / 18446744073709551616 / 18446744073709551616) ((wn64 (z / 18446744073709551616) + wn64 (a * b / 18446744073709551616) + (wn64 z + wn64 (a * b) + 0) / 18446744073709551616) / 18446744073709551616)
  rw [hT, h1.1, h2.1, h3.1]
  have e1 : (z + a * b) / 18446744073709551616 = z / 18446744073709551616 + a * b / 18446744073709551616 + (((wn64 z + wn64 (a * b) + 0) / 18446744073709551616 : Nat) : Int) := by rw [← h1.2]; simp
  have e2 : (z + a * b) / 18446744073709551616 / 18446744073709551616 = z / 18446744073709551616 / 18446744073709551616 + a * b / 18446744073709551616 / 18446744073709551616 + (((wn64 (z / 18446744073709551616) + wn64 (a * b / 18446744073709551616) + (wn64 z + wn64 (a * b) + 0) / 18446744073709551616) / 18446744073709551616 : Nat) : Int) := by rw [e1, h2.2]
  unfold wv
  rw [e2, e1]
  simp
theorem plus_b {w0 w : World} {F : List Seg} (H : Hp w0 w F) {z a b : Int} (ha : a.natAbs ≤ 9223372036854775808) (ha2 : a < 9223372036854775808) (hb : b.natAbs ≤ 9223372036854775808) (hb2 : b < 9223372036854775808) : Ret Tryz.prog 21 [.agg (wv (z)).toArray, .int .i64 a, .int .i64 b] w fun v w' => v = .agg (wv (z + a * b)).toArray ∧ Hp w0 w' F := by
  refine Calls.of_J (n := 61) Tryz.func21 rfl rfl rfl ?_
  refine J.seq ?_
  refine J.region ?_
  refine JL.does trivial (EX.box (v := .agg (wv (z)).toArray) H rfl rfl) ?_
  rintro _ w ⟨bw, rfl, H⟩
  replace H : Hp w0 w ([(bw, cel (wv (z)) 52)] :: F) := H
  refine JL.does trivial (EX.alloc H zr52 rfl) ?_
  rintro _ w ⟨bt, rfl, H⟩
  refine JL.nil ?_
  refine J.seq ?_
  refine J.region ?_
  refine JL.go trivial (RX.movev (v := Value.int _ _) rfl) ?_
  refine JL.go trivial (RX.conv rfl (by rw [ki2]; rfl) ki36 (wn64_wrap a)) ?_
  refine JL.go trivial (RX.movev (v := Value.int _ _) rfl) ?_
  refine JL.go trivial (RX.conv rfl (by rw [ki2]; rfl) ki36 (wn64_wrap b)) ?_
  refine JL.does trivial (EX.call rfl cl40 rfl ((Mul64g_b H (wn64_lt a) (wn64_lt b)))) ?_
  rintro _ w ⟨rfl, H⟩
  refine JL.go trivial (RX.movev (v := Value.tuple _) rfl) ?_
  refine JL.go trivial (RX.extract rfl rfl) ?_
  refine JL.go trivial (RX.extract rfl rfl) ?_
  refine JL.go trivial (RX.assignv (v := Value.int _ _) rfl) ?_
  refine JL.go trivial (RX.assignv (v := Value.int _ _) rfl) ?_
  refine JL.nil ?_
  have hPB := prod_bound ha hb
  have hlo := prod_lo ha ha2 hb hb2
  rw [hlo]
  refine J.seq ?_
  refine J.seq ?_
  refine J.region ?_
  refine JL.go trivial (RX.movev (v := Value.int _ _) rfl) ?_
  refine JL.go trivial (RX.lt rfl rfl) ?_
  refine JL.nil ?_
  refine J.cond_d rfl (fun ka => ?_) (fun ka => ?_)
  · skip
    refine J.region ?_
    refine JL.go trivial (RX.movev (v := Value.int _ _) rfl) ?_
    refine JL.go trivial (RX.movev (v := Value.int _ _) rfl) ?_
    refine JL.go trivial (RX.conv rfl (by rw [ki2]; rfl) ki36 (wn64_wrap b)) ?_
    refine JL.go trivial (RX.sub rfl rfl (wn64_wrap _)) ?_
    refine JL.go trivial (RX.assignv (v := Value.int _ _) rfl) ?_
    refine JL.nil ?_
    refine J.seq ?_
    refine J.seq ?_
    refine J.region ?_
    refine JL.go trivial (RX.movev (v := Value.int _ _) rfl) ?_
    refine JL.go trivial (RX.lt rfl rfl) ?_
    refine JL.nil ?_
    refine J.cond_d rfl (fun kb => ?_) (fun kb => ?_)
    · skip
      refine J.region ?_
      refine JL.go trivial (RX.movev (v := Value.int _ _) rfl) ?_
      refine JL.go trivial (RX.movev (v := Value.int _ _) rfl) ?_
      refine JL.go trivial (RX.conv rfl (by rw [ki2]; rfl) ki36 (wn64_wrap a)) ?_
      refine JL.go trivial (RX.sub rfl rfl (wn64_wrap _)) ?_
      refine JL.go trivial (RX.assignv (v := Value.int _ _) rfl) ?_
      refine JL.nil ?_
      rw [prod_hi ha ha2 hb hb2 (h0 := wn64 a * wn64 b / 18446744073709551616) rfl (if_pos ka).symm (if_pos kb).symm]
      refine J.seq ?_
      refine J.region ?_
      refine JL.go trivial (RX.assign) ?_
      refine JL.nil ?_
      refine J.seq ?_
      refine J.seq ?_
      refine J.region ?_
      refine JL.go trivial (RX.movev (v := Value.int _ _) rfl) ?_
      refine JL.go trivial (RX.shr rfl rfl (by decide) (shr63 _)) ?_
      refine JL.go trivial (RX.eq rfl rfl) ?_
      refine JL.nil ?_
      refine J.cond_d rfl (fun kt => ?_) (fun kt => ?_)
      · skip
        have hT : 18446744073709551615 = wn64 (a * b / 18446744073709551616 / 18446744073709551616) := (if_pos ((prod_top hPB).1.1 (by omega))).symm.trans (prod_top hPB).2
        refine J.region ?_
        refine JL.go trivial (RX.assign) ?_
        refine JL.nil ?_
        refine J.seq ?_
        refine J.region ?_
        refine JL.go trivial (RX.fieldAddr rfl fo52_2 rfl) ?_
        refine JL.go trivial (RX.load H rfl (i := 1) (v := .int .u64 _) rfl rfl one36) ?_
        refine JL.go trivial (RX.movev (v := Value.int _ _) rfl) ?_
        refine JL.go trivial (RX.ext extAdd rfl rfl (run_addN _ _ 0 (by decide) _)) ?_
        refine JL.go trivial (RX.movev (v := Value.tuple _) rfl) ?_
        refine JL.go trivial (RX.extract rfl rfl) ?_
        refine JL.go trivial (RX.extract rfl rfl) ?_
        refine JL.go trivial (RX.assignv (v := Value.int _ _) rfl) ?_
        refine JL.go trivial (RX.assignv (v := Value.int _ _) rfl) ?_
        refine JL.nil ?_
        refine J.seq ?_
        refine J.region ?_
        refine JL.go trivial (RX.fieldAddr rfl fo52_1 rfl) ?_
        refine JL.go trivial (RX.load H rfl (i := 1) (v := .int .u64 _) rfl rfl one36) ?_
        refine JL.go trivial (RX.movev (v := Value.int _ _) rfl) ?_
        refine JL.go trivial (RX.movev (v := Value.int _ _) rfl) ?_
        refine JL.go trivial (RX.ext extAdd rfl rfl (run_addN _ _ _ (wn_c (wn64_lt _) (wn64_lt _) (by decide)) _)) ?_
        refine JL.go trivial (RX.movev (v := Value.tuple _) rfl) ?_
        refine JL.go trivial (RX.extract rfl rfl) ?_
        refine JL.go trivial (RX.extract rfl rfl) ?_
        refine JL.go trivial (RX.assignv (v := Value.int _ _) rfl) ?_
        refine JL.go trivial (RX.assignv (v := Value.int _ _) rfl) ?_
        refine JL.nil ?_
        refine J.seq ?_
        refine J.region ?_
        refine JL.go trivial (RX.fieldAddr rfl fo52_0 rfl) ?_
        refine JL.go trivial (RX.load H rfl (i := 1) (v := .int .u64 _) rfl rfl one36) ?_
        refine JL.go trivial (RX.movev (v := Value.int _ _) rfl) ?_
        refine JL.go trivial (RX.movev (v := Value.int _ _) rfl) ?_
        refine JL.go trivial (RX.ext extAdd rfl rfl (run_addN _ 18446744073709551615 _ (wn_c (wn64_lt _) (wn64_lt _) (wn_c (wn64_lt _) (wn64_lt _) (by decide))) _)) ?_
        refine JL.go trivial (RX.movev (v := Value.tuple _) rfl) ?_
        refine JL.go trivial (RX.extract rfl rfl) ?_
        refine JL.go trivial (RX.extract rfl rfl) ?_
        refine JL.go trivial (RX.assignv (v := Value.int _ _) rfl) ?_
        refine JL.nil ?_
        refine J.seq ?_
        refine J.region ?_
        refine JL.go trivial (RX.movev (v := Value.int _ _) rfl) ?_
        refine JL.go trivial (RX.movev (v := Value.int _ _) rfl) ?_
        refine JL.go trivial (RX.movev (v := Value.int _ _) rfl) ?_
        refine JL.go trivial (RX.build (pv := [(0, .int .u64 (((wn64 (z / 18446744073709551616 / 18446744073709551616) + 18446744073709551615 + (wn64 (z / 18446744073709551616) + wn64 (a * b / 18446744073709551616) + (wn64 z + wn64 (a * b) + 0) / 18446744073709551616) / 18446744073709551616) % 18446744073709551616 : Nat) : Int)), (1, .int .u64 (((wn64 (z / 18446744073709551616) + wn64 (a * b / 18446744073709551616) + (wn64 z + wn64 (a * b) + 0) / 18446744073709551616) % 18446744073709551616 : Nat) : Int)), (2, .int .u64 (((wn64 z + wn64 (a * b) + 0) % 18446744073709551616 : Nat) : Int))]) (res := [.int .u64 (((wn64 (z / 18446744073709551616 / 18446744073709551616) + 18446744073709551615 + (wn64 (z / 18446744073709551616) + wn64 (a * b / 18446744073709551616) + (wn64 z + wn64 (a * b) + 0) / 18446744073709551616) / 18446744073709551616) % 18446744073709551616 : Nat) : Int), .int .u64 (((wn64 (z / 18446744073709551616) + wn64 (a * b / 18446744073709551616) + (wn64 z + wn64 (a * b) + 0) / 18446744073709551616) % 18446744073709551616 : Nat) : Int), .int .u64 (((wn64 z + wn64 (a * b) + 0) % 18446744073709551616 : Nat) : Int)]) rfl (by kernel_rfl)) ?_
        refine JL.does trivial (by first | exact EX.storeAgg H rfl rfl (i := 0) rfl (by simp [isCell]) (by simp) sz52 rfl rfl | exact EX.storeAgg H rfl rfl (i := 1) rfl (by simp [isCell]) (by simp) sz52 rfl rfl) ?_
        rintro _ w H
        refine JL.nil ?_
        first | refine J.retc Tryz.func21 rfl H rfl (i := 0) rfl rfl ag52 ?_ | refine J.retc Tryz.func21 rfl H rfl (i := 1) rfl rfl ag52 ?_
        rw [plus_eq hT]
        exact ⟨_, rfl, rfl, H.drop.drop⟩
      · skip
        have hT : 0 = wn64 (a * b / 18446744073709551616 / 18446744073709551616) := (if_neg (fun h => kt (by have := (prod_top hPB).1.2 h; omega))).symm.trans (prod_top hPB).2
        refine J.skip ?_
        refine J.seq ?_
        refine J.region ?_
        refine JL.go trivial (RX.fieldAddr rfl fo52_2 rfl) ?_
        refine JL.go trivial (RX.load H rfl (i := 1) (v := .int .u64 _) rfl rfl one36) ?_
        refine JL.go trivial (RX.movev (v := Value.int _ _) rfl) ?_
        refine JL.go trivial (RX.ext extAdd rfl rfl (run_addN _ _ 0 (by decide) _)) ?_
        refine JL.go trivial (RX.movev (v := Value.tuple _) rfl) ?_
        refine JL.go trivial (RX.extract rfl rfl) ?_
        refine JL.go trivial (RX.extract rfl rfl) ?_
        refine JL.go trivial (RX.assignv (v := Value.int _ _) rfl) ?_
        refine JL.go trivial (RX.assignv (v := Value.int _ _) rfl) ?_
        refine JL.nil ?_
        refine J.seq ?_
        refine J.region ?_
        refine JL.go trivial (RX.fieldAddr rfl fo52_1 rfl) ?_
        refine JL.go trivial (RX.load H rfl (i := 1) (v := .int .u64 _) rfl rfl one36) ?_
        refine JL.go trivial (RX.movev (v := Value.int _ _) rfl) ?_
        refine JL.go trivial (RX.movev (v := Value.int _ _) rfl) ?_
        refine JL.go trivial (RX.ext extAdd rfl rfl (run_addN _ _ _ (wn_c (wn64_lt _) (wn64_lt _) (by decide)) _)) ?_
        refine JL.go trivial (RX.movev (v := Value.tuple _) rfl) ?_
        refine JL.go trivial (RX.extract rfl rfl) ?_
        refine JL.go trivial (RX.extract rfl rfl) ?_
        refine JL.go trivial (RX.assignv (v := Value.int _ _) rfl) ?_
        refine JL.go trivial (RX.assignv (v := Value.int _ _) rfl) ?_
        refine JL.nil ?_
        refine J.seq ?_
        refine J.region ?_
        refine JL.go trivial (RX.fieldAddr rfl fo52_0 rfl) ?_
        refine JL.go trivial (RX.load H rfl (i := 1) (v := .int .u64 _) rfl rfl one36) ?_
        refine JL.go trivial (RX.movev (v := Value.int _ _) rfl) ?_
        refine JL.go trivial (RX.movev (v := Value.int _ _) rfl) ?_
        refine JL.go trivial (RX.ext extAdd rfl rfl (run_addN _ 0 _ (wn_c (wn64_lt _) (wn64_lt _) (wn_c (wn64_lt _) (wn64_lt _) (by decide))) _)) ?_
        refine JL.go trivial (RX.movev (v := Value.tuple _) rfl) ?_
        refine JL.go trivial (RX.extract rfl rfl) ?_
        refine JL.go trivial (RX.extract rfl rfl) ?_
        refine JL.go trivial (RX.assignv (v := Value.int _ _) rfl) ?_
        refine JL.nil ?_
        refine J.seq ?_
        refine J.region ?_
        refine JL.go trivial (RX.movev (v := Value.int _ _) rfl) ?_
        refine JL.go trivial (RX.movev (v := Value.int _ _) rfl) ?_
        refine JL.go trivial (RX.movev (v := Value.int _ _) rfl) ?_
        refine JL.go trivial (RX.build (pv := [(0, .int .u64 (((wn64 (z / 18446744073709551616 / 18446744073709551616) + 0 + (wn64 (z / 18446744073709551616) + wn64 (a * b / 18446744073709551616) + (wn64 z + wn64 (a * b) + 0) / 18446744073709551616) / 18446744073709551616) % 18446744073709551616 : Nat) : Int)), (1, .int .u64 (((wn64 (z / 18446744073709551616) + wn64 (a * b / 18446744073709551616) + (wn64 z + wn64 (a * b) + 0) / 18446744073709551616) % 18446744073709551616 : Nat) : Int)), (2, .int .u64 (((wn64 z + wn64 (a * b) + 0) % 18446744073709551616 : Nat) : Int))]) (res := [.int .u64 (((wn64 (z / 18446744073709551616 / 18446744073709551616) + 0 + (wn64 (z / 18446744073709551616) + wn64 (a * b / 18446744073709551616) + (wn64 z + wn64 (a * b) + 0) / 18446744073709551616) / 18446744073709551616) % 18446744073709551616 : Nat) : Int), .int .u64 (((wn64 (z / 18446744073709551616) + wn64 (a * b / 18446744073709551616) + (wn64 z + wn64 (a * b) + 0) / 18446744073709551616) % 18446744073709551616 : Nat) : Int), .int .u64 (((wn64 z + wn64 (a * b) + 0) % 18446744073709551616 : Nat) : Int)]) rfl (by kernel_rfl)) ?_
        refine JL.does trivial (by first | exact EX.storeAgg H rfl rfl (i := 0) rfl (by simp [isCell]) (by simp) sz52 rfl rfl | exact EX.storeAgg H rfl rfl (i := 1) rfl (by simp [isCell]) (by simp) sz52 rfl rfl) ?_
        rintro _ w H
        refine JL.nil ?_
        first | refine J.retc Tryz.func21 rfl H rfl (i := 0) rfl rfl ag52 ?_ | refine J.retc Tryz.func21 rfl H rfl (i := 1) rfl rfl ag52 ?_
        rw [plus_eq hT]
        exact ⟨_, rfl, rfl, H.drop.drop⟩
    · skip
      rw [prod_hi ha ha2 hb hb2 (h0 := wn64 a * wn64 b / 18446744073709551616) rfl (if_pos ka).symm (if_neg kb).symm]
      refine J.skip ?_
      refine J.seq ?_
      refine J.region ?_
      refine JL.go trivial (RX.assign) ?_
      refine JL.nil ?_
      refine J.seq ?_
      refine J.seq ?_
      refine J.region ?_
      refine JL.go trivial (RX.movev (v := Value.int _ _) rfl) ?_
      refine JL.go trivial (RX.shr rfl rfl (by decide) (shr63 _)) ?_
      refine JL.go trivial (RX.eq rfl rfl) ?_
      refine JL.nil ?_
      refine J.cond_d rfl (fun kt => ?_) (fun kt => ?_)
      · skip
        have hT : 18446744073709551615 = wn64 (a * b / 18446744073709551616 / 18446744073709551616) := (if_pos ((prod_top hPB).1.1 (by omega))).symm.trans (prod_top hPB).2
        refine J.region ?_
        refine JL.go trivial (RX.assign) ?_
        refine JL.nil ?_
        refine J.seq ?_
        refine J.region ?_
        refine JL.go trivial (RX.fieldAddr rfl fo52_2 rfl) ?_
        refine JL.go trivial (RX.load H rfl (i := 1) (v := .int .u64 _) rfl rfl one36) ?_
        refine JL.go trivial (RX.movev (v := Value.int _ _) rfl) ?_
        refine JL.go trivial (RX.ext extAdd rfl rfl (run_addN _ _ 0 (by decide) _)) ?_
        refine JL.go trivial (RX.movev (v := Value.tuple _) rfl) ?_
        refine JL.go trivial (RX.extract rfl rfl) ?_
        refine JL.go trivial (RX.extract rfl rfl) ?_
        refine JL.go trivial (RX.assignv (v := Value.int _ _) rfl) ?_
        refine JL.go trivial (RX.assignv (v := Value.int _ _) rfl) ?_
        refine JL.nil ?_
        refine J.seq ?_
        refine J.region ?_
        refine JL.go trivial (RX.fieldAddr rfl fo52_1 rfl) ?_
        refine JL.go trivial (RX.load H rfl (i := 1) (v := .int .u64 _) rfl rfl one36) ?_
        refine JL.go trivial (RX.movev (v := Value.int _ _) rfl) ?_
        refine JL.go trivial (RX.movev (v := Value.int _ _) rfl) ?_
        refine JL.go trivial (RX.ext extAdd rfl rfl (run_addN _ _ _ (wn_c (wn64_lt _) (wn64_lt _) (by decide)) _)) ?_
        refine JL.go trivial (RX.movev (v := Value.tuple _) rfl) ?_
        refine JL.go trivial (RX.extract rfl rfl) ?_
        refine JL.go trivial (RX.extract rfl rfl) ?_
        refine JL.go trivial (RX.assignv (v := Value.int _ _) rfl) ?_
        refine JL.go trivial (RX.assignv (v := Value.int _ _) rfl) ?_
        refine JL.nil ?_
        refine J.seq ?_
        refine J.region ?_
        refine JL.go trivial (RX.fieldAddr rfl fo52_0 rfl) ?_
        refine JL.go trivial (RX.load H rfl (i := 1) (v := .int .u64 _) rfl rfl one36) ?_
        refine JL.go trivial (RX.movev (v := Value.int _ _) rfl) ?_
        refine JL.go trivial (RX.movev (v := Value.int _ _) rfl) ?_
        refine JL.go trivial (RX.ext extAdd rfl rfl (run_addN _ 18446744073709551615 _ (wn_c (wn64_lt _) (wn64_lt _) (wn_c (wn64_lt _) (wn64_lt _) (by decide))) _)) ?_
        refine JL.go trivial (RX.movev (v := Value.tuple _) rfl) ?_
        refine JL.go trivial (RX.extract rfl rfl) ?_
        refine JL.go trivial (RX.extract rfl rfl) ?_
        refine JL.go trivial (RX.assignv (v := Value.int _ _) rfl) ?_
        refine JL.nil ?_
        refine J.seq ?_
        refine J.region ?_
        refine JL.go trivial (RX.movev (v := Value.int _ _) rfl) ?_
        refine JL.go trivial (RX.movev (v := Value.int _ _) rfl) ?_
        refine JL.go trivial (RX.movev (v := Value.int _ _) rfl) ?_
        refine JL.go trivial (RX.build (pv := [(0, .int .u64 (((wn64 (z / 18446744073709551616 / 18446744073709551616) + 18446744073709551615 + (wn64 (z / 18446744073709551616) + wn64 (a * b / 18446744073709551616) + (wn64 z + wn64 (a * b) + 0) / 18446744073709551616) / 18446744073709551616) % 18446744073709551616 : Nat) : Int)), (1, .int .u64 (((wn64 (z / 18446744073709551616) + wn64 (a * b / 18446744073709551616) + (wn64 z + wn64 (a * b) + 0) / 18446744073709551616) % 18446744073709551616 : Nat) : Int)), (2, .int .u64 (((wn64 z + wn64 (a * b) + 0) % 18446744073709551616 : Nat) : Int))]) (res := [.int .u64 (((wn64 (z / 18446744073709551616 / 18446744073709551616) + 18446744073709551615 + (wn64 (z / 18446744073709551616) + wn64 (a * b / 18446744073709551616) + (wn64 z + wn64 (a * b) + 0) / 18446744073709551616) / 18446744073709551616) % 18446744073709551616 : Nat) : Int), .int .u64 (((wn64 (z / 18446744073709551616) + wn64 (a * b / 18446744073709551616) + (wn64 z + wn64 (a * b) + 0) / 18446744073709551616) % 18446744073709551616 : Nat) : Int), .int .u64 (((wn64 z + wn64 (a * b) + 0) % 18446744073709551616 : Nat) : Int)]) rfl (by kernel_rfl)) ?_
        refine JL.does trivial (by first | exact EX.storeAgg H rfl rfl (i := 0) rfl (by simp [isCell]) (by simp) sz52 rfl rfl | exact EX.storeAgg H rfl rfl (i := 1) rfl (by simp [isCell]) (by simp) sz52 rfl rfl) ?_
        rintro _ w H
        refine JL.nil ?_
        first | refine J.retc Tryz.func21 rfl H rfl (i := 0) rfl rfl ag52 ?_ | refine J.retc Tryz.func21 rfl H rfl (i := 1) rfl rfl ag52 ?_
        rw [plus_eq hT]
        exact ⟨_, rfl, rfl, H.drop.drop⟩
      · skip
        have hT : 0 = wn64 (a * b / 18446744073709551616 / 18446744073709551616) := (if_neg (fun h => kt (by have := (prod_top hPB).1.2 h; omega))).symm.trans (prod_top hPB).2
        refine J.skip ?_
        refine J.seq ?_
        refine J.region ?_
        refine JL.go trivial (RX.fieldAddr rfl fo52_2 rfl) ?_
        refine JL.go trivial (RX.load H rfl (i := 1) (v := .int .u64 _) rfl rfl one36) ?_
        refine JL.go trivial (RX.movev (v := Value.int _ _) rfl) ?_
        refine JL.go trivial (RX.ext extAdd rfl rfl (run_addN _ _ 0 (by decide) _)) ?_
        refine JL.go trivial (RX.movev (v := Value.tuple _) rfl) ?_
        refine JL.go trivial (RX.extract rfl rfl) ?_
        refine JL.go trivial (RX.extract rfl rfl) ?_
        refine JL.go trivial (RX.assignv (v := Value.int _ _) rfl) ?_
        refine JL.go trivial (RX.assignv (v := Value.int _ _) rfl) ?_
        refine JL.nil ?_
        refine J.seq ?_
        refine J.region ?_
        refine JL.go trivial (RX.fieldAddr rfl fo52_1 rfl) ?_
        refine JL.go trivial (RX.load H rfl (i := 1) (v := .int .u64 _) rfl rfl one36) ?_
        refine JL.go trivial (RX.movev (v := Value.int _ _) rfl) ?_
        refine JL.go trivial (RX.movev (v := Value.int _ _) rfl) ?_
        refine JL.go trivial (RX.ext extAdd rfl rfl (run_addN _ _ _ (wn_c (wn64_lt _) (wn64_lt _) (by decide)) _)) ?_
        refine JL.go trivial (RX.movev (v := Value.tuple _) rfl) ?_
        refine JL.go trivial (RX.extract rfl rfl) ?_
        refine JL.go trivial (RX.extract rfl rfl) ?_
        refine JL.go trivial (RX.assignv (v := Value.int _ _) rfl) ?_
        refine JL.go trivial (RX.assignv (v := Value.int _ _) rfl) ?_
        refine JL.nil ?_
        refine J.seq ?_
        refine J.region ?_
        refine JL.go trivial (RX.fieldAddr rfl fo52_0 rfl) ?_
        refine JL.go trivial (RX.load H rfl (i := 1) (v := .int .u64 _) rfl rfl one36) ?_
        refine JL.go trivial (RX.movev (v := Value.int _ _) rfl) ?_
        refine JL.go trivial (RX.movev (v := Value.int _ _) rfl) ?_
        refine JL.go trivial (RX.ext extAdd rfl rfl (run_addN _ 0 _ (wn_c (wn64_lt _) (wn64_lt _) (wn_c (wn64_lt _) (wn64_lt _) (by decide))) _)) ?_
        refine JL.go trivial (RX.movev (v := Value.tuple _) rfl) ?_
        refine JL.go trivial (RX.extract rfl rfl) ?_
        refine JL.go trivial (RX.extract rfl rfl) ?_
        refine JL.go trivial (RX.assignv (v := Value.int _ _) rfl) ?_
        refine JL.nil ?_
        refine J.seq ?_
        refine J.region ?_
        refine JL.go trivial (RX.movev (v := Value.int _ _) rfl) ?_
        refine JL.go trivial (RX.movev (v := Value.int _ _) rfl) ?_
        refine JL.go trivial (RX.movev (v := Value.int _ _) rfl) ?_
        refine JL.go trivial (RX.build (pv := [(0, .int .u64 (((wn64 (z / 18446744073709551616 / 18446744073709551616) + 0 + (wn64 (z / 18446744073709551616) + wn64 (a * b / 18446744073709551616) + (wn64 z + wn64 (a * b) + 0) / 18446744073709551616) / 18446744073709551616) % 18446744073709551616 : Nat) : Int)), (1, .int .u64 (((wn64 (z / 18446744073709551616) + wn64 (a * b / 18446744073709551616) + (wn64 z + wn64 (a * b) + 0) / 18446744073709551616) % 18446744073709551616 : Nat) : Int)), (2, .int .u64 (((wn64 z + wn64 (a * b) + 0) % 18446744073709551616 : Nat) : Int))]) (res := [.int .u64 (((wn64 (z / 18446744073709551616 / 18446744073709551616) + 0 + (wn64 (z / 18446744073709551616) + wn64 (a * b / 18446744073709551616) + (wn64 z + wn64 (a * b) + 0) / 18446744073709551616) / 18446744073709551616) % 18446744073709551616 : Nat) : Int), .int .u64 (((wn64 (z / 18446744073709551616) + wn64 (a * b / 18446744073709551616) + (wn64 z + wn64 (a * b) + 0) / 18446744073709551616) % 18446744073709551616 : Nat) : Int), .int .u64 (((wn64 z + wn64 (a * b) + 0) % 18446744073709551616 : Nat) : Int)]) rfl (by kernel_rfl)) ?_
        refine JL.does trivial (by first | exact EX.storeAgg H rfl rfl (i := 0) rfl (by simp [isCell]) (by simp) sz52 rfl rfl | exact EX.storeAgg H rfl rfl (i := 1) rfl (by simp [isCell]) (by simp) sz52 rfl rfl) ?_
        rintro _ w H
        refine JL.nil ?_
        first | refine J.retc Tryz.func21 rfl H rfl (i := 0) rfl rfl ag52 ?_ | refine J.retc Tryz.func21 rfl H rfl (i := 1) rfl rfl ag52 ?_
        rw [plus_eq hT]
        exact ⟨_, rfl, rfl, H.drop.drop⟩
  · skip
    refine J.skip ?_
    refine J.seq ?_
    refine J.seq ?_
    refine J.region ?_
    refine JL.go trivial (RX.movev (v := Value.int _ _) rfl) ?_
    refine JL.go trivial (RX.lt rfl rfl) ?_
    refine JL.nil ?_
    refine J.cond_d rfl (fun kb => ?_) (fun kb => ?_)
    · skip
      refine J.region ?_
      refine JL.go trivial (RX.movev (v := Value.int _ _) rfl) ?_
      refine JL.go trivial (RX.movev (v := Value.int _ _) rfl) ?_
      refine JL.go trivial (RX.conv rfl (by rw [ki2]; rfl) ki36 (wn64_wrap a)) ?_
      refine JL.go trivial (RX.sub rfl rfl (wn64_wrap _)) ?_
      refine JL.go trivial (RX.assignv (v := Value.int _ _) rfl) ?_
      refine JL.nil ?_
      rw [prod_hi ha ha2 hb hb2 (h0 := wn64 a * wn64 b / 18446744073709551616) rfl (if_neg ka).symm (if_pos kb).symm]
      refine J.seq ?_
      refine J.region ?_
      refine JL.go trivial (RX.assign) ?_
      refine JL.nil ?_
      refine J.seq ?_
      refine J.seq ?_
      refine J.region ?_
      refine JL.go trivial (RX.movev (v := Value.int _ _) rfl) ?_
      refine JL.go trivial (RX.shr rfl rfl (by decide) (shr63 _)) ?_
      refine JL.go trivial (RX.eq rfl rfl) ?_
      refine JL.nil ?_
      refine J.cond_d rfl (fun kt => ?_) (fun kt => ?_)
      · skip
        have hT : 18446744073709551615 = wn64 (a * b / 18446744073709551616 / 18446744073709551616) := (if_pos ((prod_top hPB).1.1 (by omega))).symm.trans (prod_top hPB).2
        refine J.region ?_
        refine JL.go trivial (RX.assign) ?_
        refine JL.nil ?_
        refine J.seq ?_
        refine J.region ?_
        refine JL.go trivial (RX.fieldAddr rfl fo52_2 rfl) ?_
        refine JL.go trivial (RX.load H rfl (i := 1) (v := .int .u64 _) rfl rfl one36) ?_
        refine JL.go trivial (RX.movev (v := Value.int _ _) rfl) ?_
        refine JL.go trivial (RX.ext extAdd rfl rfl (run_addN _ _ 0 (by decide) _)) ?_
        refine JL.go trivial (RX.movev (v := Value.tuple _) rfl) ?_
        refine JL.go trivial (RX.extract rfl rfl) ?_
        refine JL.go trivial (RX.extract rfl rfl) ?_
        refine JL.go trivial (RX.assignv (v := Value.int _ _) rfl) ?_
        refine JL.go trivial (RX.assignv (v := Value.int _ _) rfl) ?_
        refine JL.nil ?_
        refine J.seq ?_
        refine J.region ?_
        refine JL.go trivial (RX.fieldAddr rfl fo52_1 rfl) ?_
        refine JL.go trivial (RX.load H rfl (i := 1) (v := .int .u64 _) rfl rfl one36) ?_
        refine JL.go trivial (RX.movev (v := Value.int _ _) rfl) ?_
        refine JL.go trivial (RX.movev (v := Value.int _ _) rfl) ?_
        refine JL.go trivial (RX.ext extAdd rfl rfl (run_addN _ _ _ (wn_c (wn64_lt _) (wn64_lt _) (by decide)) _)) ?_
        refine JL.go trivial (RX.movev (v := Value.tuple _) rfl) ?_
        refine JL.go trivial (RX.extract rfl rfl) ?_
        refine JL.go trivial (RX.extract rfl rfl) ?_
        refine JL.go trivial (RX.assignv (v := Value.int _ _) rfl) ?_
        refine JL.go trivial (RX.assignv (v := Value.int _ _) rfl) ?_
        refine JL.nil ?_
        refine J.seq ?_
        refine J.region ?_
        refine JL.go trivial (RX.fieldAddr rfl fo52_0 rfl) ?_
        refine JL.go trivial (RX.load H rfl (i := 1) (v := .int .u64 _) rfl rfl one36) ?_
        refine JL.go trivial (RX.movev (v := Value.int _ _) rfl) ?_
        refine JL.go trivial (RX.movev (v := Value.int _ _) rfl) ?_
        refine JL.go trivial (RX.ext extAdd rfl rfl (run_addN _ 18446744073709551615 _ (wn_c (wn64_lt _) (wn64_lt _) (wn_c (wn64_lt _) (wn64_lt _) (by decide))) _)) ?_
        refine JL.go trivial (RX.movev (v := Value.tuple _) rfl) ?_
        refine JL.go trivial (RX.extract rfl rfl) ?_
        refine JL.go trivial (RX.extract rfl rfl) ?_
        refine JL.go trivial (RX.assignv (v := Value.int _ _) rfl) ?_
        refine JL.nil ?_
        refine J.seq ?_
        refine J.region ?_
        refine JL.go trivial (RX.movev (v := Value.int _ _) rfl) ?_
        refine JL.go trivial (RX.movev (v := Value.int _ _) rfl) ?_
        refine JL.go trivial (RX.movev (v := Value.int _ _) rfl) ?_
        refine JL.go trivial (RX.build (pv := [(0, .int .u64 (((wn64 (z / 18446744073709551616 / 18446744073709551616) + 18446744073709551615 + (wn64 (z / 18446744073709551616) + wn64 (a * b / 18446744073709551616) + (wn64 z + wn64 (a * b) + 0) / 18446744073709551616) / 18446744073709551616) % 18446744073709551616 : Nat) : Int)), (1, .int .u64 (((wn64 (z / 18446744073709551616) + wn64 (a * b / 18446744073709551616) + (wn64 z + wn64 (a * b) + 0) / 18446744073709551616) % 18446744073709551616 : Nat) : Int)), (2, .int .u64 (((wn64 z + wn64 (a * b) + 0) % 18446744073709551616 : Nat) : Int))]) (res := [.int .u64 (((wn64 (z / 18446744073709551616 / 18446744073709551616) + 18446744073709551615 + (wn64 (z / 18446744073709551616) + wn64 (a * b / 18446744073709551616) + (wn64 z + wn64 (a * b) + 0) / 18446744073709551616) / 18446744073709551616) % 18446744073709551616 : Nat) : Int), .int .u64 (((wn64 (z / 18446744073709551616) + wn64 (a * b / 18446744073709551616) + (wn64 z + wn64 (a * b) + 0) / 18446744073709551616) % 18446744073709551616 : Nat) : Int), .int .u64 (((wn64 z + wn64 (a * b) + 0) % 18446744073709551616 : Nat) : Int)]) rfl (by kernel_rfl)) ?_
        refine JL.does trivial (by first | exact EX.storeAgg H rfl rfl (i := 0) rfl (by simp [isCell]) (by simp) sz52 rfl rfl | exact EX.storeAgg H rfl rfl (i := 1) rfl (by simp [isCell]) (by simp) sz52 rfl rfl) ?_
        rintro _ w H
        refine JL.nil ?_
        first | refine J.retc Tryz.func21 rfl H rfl (i := 0) rfl rfl ag52 ?_ | refine J.retc Tryz.func21 rfl H rfl (i := 1) rfl rfl ag52 ?_
        rw [plus_eq hT]
        exact ⟨_, rfl, rfl, H.drop.drop⟩
      · skip
        have hT : 0 = wn64 (a * b / 18446744073709551616 / 18446744073709551616) := (if_neg (fun h => kt (by have := (prod_top hPB).1.2 h; omega))).symm.trans (prod_top hPB).2
        refine J.skip ?_
        refine J.seq ?_
        refine J.region ?_
        refine JL.go trivial (RX.fieldAddr rfl fo52_2 rfl) ?_
        refine JL.go trivial (RX.load H rfl (i := 1) (v := .int .u64 _) rfl rfl one36) ?_
        refine JL.go trivial (RX.movev (v := Value.int _ _) rfl) ?_
        refine JL.go trivial (RX.ext extAdd rfl rfl (run_addN _ _ 0 (by decide) _)) ?_
        refine JL.go trivial (RX.movev (v := Value.tuple _) rfl) ?_
        refine JL.go trivial (RX.extract rfl rfl) ?_
        refine JL.go trivial (RX.extract rfl rfl) ?_
        refine JL.go trivial (RX.assignv (v := Value.int _ _) rfl) ?_
        refine JL.go trivial (RX.assignv (v := Value.int _ _) rfl) ?_
        refine JL.nil ?_
        refine J.seq ?_
        refine J.region ?_
        refine JL.go trivial (RX.fieldAddr rfl fo52_1 rfl) ?_
        refine JL.go trivial (RX.load H rfl (i := 1) (v := .int .u64 _) rfl rfl one36) ?_
        refine JL.go trivial (RX.movev (v := Value.int _ _) rfl) ?_
        refine JL.go trivial (RX.movev (v := Value.int _ _) rfl) ?_
        refine JL.go trivial (RX.ext extAdd rfl rfl (run_addN _ _ _ (wn_c (wn64_lt _) (wn64_lt _) (by decide)) _)) ?_
        refine JL.go trivial (RX.movev (v := Value.tuple _) rfl) ?_
        refine JL.go trivial (RX.extract rfl rfl) ?_
        refine JL.go trivial (RX.extract rfl rfl) ?_
        refine JL.go trivial (RX.assignv (v := Value.int _ _) rfl) ?_
        refine JL.go trivial (RX.assignv (v := Value.int _ _) rfl) ?_
        refine JL.nil ?_
        refine J.seq ?_
        refine J.region ?_
        refine JL.go trivial (RX.fieldAddr rfl fo52_0 rfl) ?_
        refine JL.go trivial (RX.load H rfl (i := 1) (v := .int .u64 _) rfl rfl one36) ?_
        refine JL.go trivial (RX.movev (v := Value.int _ _) rfl) ?_
        refine JL.go trivial (RX.movev (v := Value.int _ _) rfl) ?_
        refine JL.go trivial (RX.ext extAdd rfl rfl (run_addN _ 0 _ (wn_c (wn64_lt _) (wn64_lt _) (wn_c (wn64_lt _) (wn64_lt _) (by decide))) _)) ?_
        refine JL.go trivial (RX.movev (v := Value.tuple _) rfl) ?_
        refine JL.go trivial (RX.extract rfl rfl) ?_
        refine JL.go trivial (RX.extract rfl rfl) ?_
        refine JL.go trivial (RX.assignv (v := Value.int _ _) rfl) ?_
        refine JL.nil ?_
        refine J.seq ?_
        refine J.region ?_
        refine JL.go trivial (RX.movev (v := Value.int _ _) rfl) ?_
        refine JL.go trivial (RX.movev (v := Value.int _ _) rfl) ?_
        refine JL.go trivial (RX.movev (v := Value.int _ _) rfl) ?_
        refine JL.go trivial (RX.build (pv := [(0, .int .u64 (((wn64 (z / 18446744073709551616 / 18446744073709551616) + 0 + (wn64 (z / 18446744073709551616) + wn64 (a * b / 18446744073709551616) + (wn64 z + wn64 (a * b) + 0) / 18446744073709551616) / 18446744073709551616) % 18446744073709551616 : Nat) : Int)), (1, .int .u64 (((wn64 (z / 18446744073709551616) + wn64 (a * b / 18446744073709551616) + (wn64 z + wn64 (a * b) + 0) / 18446744073709551616) % 18446744073709551616 : Nat) : Int)), (2, .int .u64 (((wn64 z + wn64 (a * b) + 0) % 18446744073709551616 : Nat) : Int))]) (res := [.int .u64 (((wn64 (z / 18446744073709551616 / 18446744073709551616) + 0 + (wn64 (z / 18446744073709551616) + wn64 (a * b / 18446744073709551616) + (wn64 z + wn64 (a * b) + 0) / 18446744073709551616) / 18446744073709551616) % 18446744073709551616 : Nat) : Int), .int .u64 (((wn64 (z / 18446744073709551616) + wn64 (a * b / 18446744073709551616) + (wn64 z + wn64 (a * b) + 0) / 18446744073709551616) % 18446744073709551616 : Nat) : Int), .int .u64 (((wn64 z + wn64 (a * b) + 0) % 18446744073709551616 : Nat) : Int)]) rfl (by kernel_rfl)) ?_
        refine JL.does trivial (by first | exact EX.storeAgg H rfl rfl (i := 0) rfl (by simp [isCell]) (by simp) sz52 rfl rfl | exact EX.storeAgg H rfl rfl (i := 1) rfl (by simp [isCell]) (by simp) sz52 rfl rfl) ?_
        rintro _ w H
        refine JL.nil ?_
        first | refine J.retc Tryz.func21 rfl H rfl (i := 0) rfl rfl ag52 ?_ | refine J.retc Tryz.func21 rfl H rfl (i := 1) rfl rfl ag52 ?_
        rw [plus_eq hT]
        exact ⟨_, rfl, rfl, H.drop.drop⟩
    · skip
      rw [prod_hi ha ha2 hb hb2 (h0 := wn64 a * wn64 b / 18446744073709551616) rfl (if_neg ka).symm (if_neg kb).symm]
      refine J.skip ?_
      refine J.seq ?_
      refine J.region ?_
      refine JL.go trivial (RX.assign) ?_
      refine JL.nil ?_
      refine J.seq ?_
      refine J.seq ?_
      refine J.region ?_
      refine JL.go trivial (RX.movev (v := Value.int _ _) rfl) ?_
      refine JL.go trivial (RX.shr rfl rfl (by decide) (shr63 _)) ?_
      refine JL.go trivial (RX.eq rfl rfl) ?_
      refine JL.nil ?_
      refine J.cond_d rfl (fun kt => ?_) (fun kt => ?_)
      · skip
        have hT : 18446744073709551615 = wn64 (a * b / 18446744073709551616 / 18446744073709551616) := (if_pos ((prod_top hPB).1.1 (by omega))).symm.trans (prod_top hPB).2
        refine J.region ?_
        refine JL.go trivial (RX.assign) ?_
        refine JL.nil ?_
        refine J.seq ?_
        refine J.region ?_
        refine JL.go trivial (RX.fieldAddr rfl fo52_2 rfl) ?_
        refine JL.go trivial (RX.load H rfl (i := 1) (v := .int .u64 _) rfl rfl one36) ?_
        refine JL.go trivial (RX.movev (v := Value.int _ _) rfl) ?_
        refine JL.go trivial (RX.ext extAdd rfl rfl (run_addN _ _ 0 (by decide) _)) ?_
        refine JL.go trivial (RX.movev (v := Value.tuple _) rfl) ?_
        refine JL.go trivial (RX.extract rfl rfl) ?_
        refine JL.go trivial (RX.extract rfl rfl) ?_
        refine JL.go trivial (RX.assignv (v := Value.int _ _) rfl) ?_
        refine JL.go trivial (RX.assignv (v := Value.int _ _) rfl) ?_
        refine JL.nil ?_
        refine J.seq ?_
        refine J.region ?_
        refine JL.go trivial (RX.fieldAddr rfl fo52_1 rfl) ?_
        refine JL.go trivial (RX.load H rfl (i := 1) (v := .int .u64 _) rfl rfl one36) ?_
        refine JL.go trivial (RX.movev (v := Value.int _ _) rfl) ?_
        refine JL.go trivial (RX.movev (v := Value.int _ _) rfl) ?_
        refine JL.go trivial (RX.ext extAdd rfl rfl (run_addN _ _ _ (wn_c (wn64_lt _) (wn64_lt _) (by decide)) _)) ?_
        refine JL.go trivial (RX.movev (v := Value.tuple _) rfl) ?_
        refine JL.go trivial (RX.extract rfl rfl) ?_
        refine JL.go trivial (RX.extract rfl rfl) ?_
        refine JL.go trivial (RX.assignv (v := Value.int _ _) rfl) ?_
        refine JL.go trivial (RX.assignv (v := Value.int _ _) rfl) ?_
        refine JL.nil ?_
        refine J.seq ?_
        refine J.region ?_
        refine JL.go trivial (RX.fieldAddr rfl fo52_0 rfl) ?_
        refine JL.go trivial (RX.load H rfl (i := 1) (v := .int .u64 _) rfl rfl one36) ?_
        refine JL.go trivial (RX.movev (v := Value.int _ _) rfl) ?_
        refine JL.go trivial (RX.movev (v := Value.int _ _) rfl) ?_
        refine JL.go trivial (RX.ext extAdd rfl rfl (run_addN _ 18446744073709551615 _ (wn_c (wn64_lt _) (wn64_lt _) (wn_c (wn64_lt _) (wn64_lt _) (by decide))) _)) ?_
        refine JL.go trivial (RX.movev (v := Value.tuple _) rfl) ?_
        refine JL.go trivial (RX.extract rfl rfl) ?_
        refine JL.go trivial (RX.extract rfl rfl) ?_
        refine JL.go trivial (RX.assignv (v := Value.int _ _) rfl) ?_
        refine JL.nil ?_
        refine J.seq ?_
        refine J.region ?_
        refine JL.go trivial (RX.movev (v := Value.int _ _) rfl) ?_
        refine JL.go trivial (RX.movev (v := Value.int _ _) rfl) ?_
        refine JL.go trivial (RX.movev (v := Value.int _ _) rfl) ?_
        refine JL.go trivial (RX.build (pv := [(0, .int .u64 (((wn64 (z / 18446744073709551616 / 18446744073709551616) + 18446744073709551615 + (wn64 (z / 18446744073709551616) + wn64 (a * b / 18446744073709551616) + (wn64 z + wn64 (a * b) + 0) / 18446744073709551616) / 18446744073709551616) % 18446744073709551616 : Nat) : Int)), (1, .int .u64 (((wn64 (z / 18446744073709551616) + wn64 (a * b / 18446744073709551616) + (wn64 z + wn64 (a * b) + 0) / 18446744073709551616) % 18446744073709551616 : Nat) : Int)), (2, .int .u64 (((wn64 z + wn64 (a * b) + 0) % 18446744073709551616 : Nat) : Int))]) (res := [.int .u64 (((wn64 (z / 18446744073709551616 / 18446744073709551616) + 18446744073709551615 + (wn64 (z / 18446744073709551616) + wn64 (a * b / 18446744073709551616) + (wn64 z + wn64 (a * b) + 0) / 18446744073709551616) / 18446744073709551616) % 18446744073709551616 : Nat) : Int), .int .u64 (((wn64 (z / 18446744073709551616) + wn64 (a * b / 18446744073709551616) + (wn64 z + wn64 (a * b) + 0) / 18446744073709551616) % 18446744073709551616 : Nat) : Int), .int .u64 (((wn64 z + wn64 (a * b) + 0) % 18446744073709551616 : Nat) : Int)]) rfl (by kernel_rfl)) ?_
        refine JL.does trivial (by first | exact EX.storeAgg H rfl rfl (i := 0) rfl (by simp [isCell]) (by simp) sz52 rfl rfl | exact EX.storeAgg H rfl rfl (i := 1) rfl (by simp [isCell]) (by simp) sz52 rfl rfl) ?_
        rintro _ w H
        refine JL.nil ?_
        first | refine J.retc Tryz.func21 rfl H rfl (i := 0) rfl rfl ag52 ?_ | refine J.retc Tryz.func21 rfl H rfl (i := 1) rfl rfl ag52 ?_
        rw [plus_eq hT]
        exact ⟨_, rfl, rfl, H.drop.drop⟩
      · skip
        have hT : 0 = wn64 (a * b / 18446744073709551616 / 18446744073709551616) := (if_neg (fun h => kt (by have := (prod_top hPB).1.2 h; omega))).symm.trans (prod_top hPB).2
        refine J.skip ?_
        refine J.seq ?_
        refine J.region ?_
        refine JL.go trivial (RX.fieldAddr rfl fo52_2 rfl) ?_
        refine JL.go trivial (RX.load H rfl (i := 1) (v := .int .u64 _) rfl rfl one36) ?_
        refine JL.go trivial (RX.movev (v := Value.int _ _) rfl) ?_
        refine JL.go trivial (RX.ext extAdd rfl rfl (run_addN _ _ 0 (by decide) _)) ?_
        refine JL.go trivial (RX.movev (v := Value.tuple _) rfl) ?_
        refine JL.go trivial (RX.extract rfl rfl) ?_
        refine JL.go trivial (RX.extract rfl rfl) ?_
        refine JL.go trivial (RX.assignv (v := Value.int _ _) rfl) ?_
        refine JL.go trivial (RX.assignv (v := Value.int _ _) rfl) ?_
        refine JL.nil ?_
        refine J.seq ?_
        refine J.region ?_
        refine JL.go trivial (RX.fieldAddr rfl fo52_1 rfl) ?_
        refine JL.go trivial (RX.load H rfl (i := 1) (v := .int .u64 _) rfl rfl one36) ?_
        refine JL.go trivial (RX.movev (v := Value.int _ _) rfl) ?_
        refine JL.go trivial (RX.movev (v := Value.int _ _) rfl) ?_
        refine JL.go trivial (RX.ext extAdd rfl rfl (run_addN _ _ _ (wn_c (wn64_lt _) (wn64_lt _) (by decide)) _)) ?_
        refine JL.go trivial (RX.movev (v := Value.tuple _) rfl) ?_
        refine JL.go trivial (RX.extract rfl rfl) ?_
        refine JL.go trivial (RX.extract rfl rfl) ?_
        refine JL.go trivial (RX.assignv (v := Value.int _ _) rfl) ?_
        refine JL.go trivial (RX.assignv (v := Value.int _ _) rfl) ?_
        refine JL.nil ?_
        refine J.seq ?_
        refine J.region ?_
        refine JL.go trivial (RX.fieldAddr rfl fo52_0 rfl) ?_
        refine JL.go trivial (RX.load H rfl (i := 1) (v := .int .u64 _) rfl rfl one36) ?_
        refine JL.go trivial (RX.movev (v := Value.int _ _) rfl) ?_
        refine JL.go trivial (RX.movev (v := Value.int _ _) rfl) ?_
        refine JL.go trivial (RX.ext extAdd rfl rfl (run_addN _ 0 _ (wn_c (wn64_lt _) (wn64_lt _) (wn_c (wn64_lt _) (wn64_lt _) (by decide))) _)) ?_
        refine JL.go trivial (RX.movev (v := Value.tuple _) rfl) ?_
        refine JL.go trivial (RX.extract rfl rfl) ?_
        refine JL.go trivial (RX.extract rfl rfl) ?_
        refine JL.go trivial (RX.assignv (v := Value.int _ _) rfl) ?_
        refine JL.nil ?_
        refine J.seq ?_
        refine J.region ?_
        refine JL.go trivial (RX.movev (v := Value.int _ _) rfl) ?_
        refine JL.go trivial (RX.movev (v := Value.int _ _) rfl) ?_
        refine JL.go trivial (RX.movev (v := Value.int _ _) rfl) ?_
        refine JL.go trivial (RX.build (pv := [(0, .int .u64 (((wn64 (z / 18446744073709551616 / 18446744073709551616) + 0 + (wn64 (z / 18446744073709551616) + wn64 (a * b / 18446744073709551616) + (wn64 z + wn64 (a * b) + 0) / 18446744073709551616) / 18446744073709551616) % 18446744073709551616 : Nat) : Int)), (1, .int .u64 (((wn64 (z / 18446744073709551616) + wn64 (a * b / 18446744073709551616) + (wn64 z + wn64 (a * b) + 0) / 18446744073709551616) % 18446744073709551616 : Nat) : Int)), (2, .int .u64 (((wn64 z + wn64 (a * b) + 0) % 18446744073709551616 : Nat) : Int))]) (res := [.int .u64 (((wn64 (z / 18446744073709551616 / 18446744073709551616) + 0 + (wn64 (z / 18446744073709551616) + wn64 (a * b / 18446744073709551616) + (wn64 z + wn64 (a * b) + 0) / 18446744073709551616) / 18446744073709551616) % 18446744073709551616 : Nat) : Int), .int .u64 (((wn64 (z / 18446744073709551616) + wn64 (a * b / 18446744073709551616) + (wn64 z + wn64 (a * b) + 0) / 18446744073709551616) % 18446744073709551616 : Nat) : Int), .int .u64 (((wn64 z + wn64 (a * b) + 0) % 18446744073709551616 : Nat) : Int)]) rfl (by kernel_rfl)) ?_
        refine JL.does trivial (by first | exact EX.storeAgg H rfl rfl (i := 0) rfl (by simp [isCell]) (by simp) sz52 rfl rfl | exact EX.storeAgg H rfl rfl (i := 1) rfl (by simp [isCell]) (by simp) sz52 rfl rfl) ?_
        rintro _ w H
        refine JL.nil ?_
        first | refine J.retc Tryz.func21 rfl H rfl (i := 0) rfl rfl ag52 ?_ | refine J.retc Tryz.func21 rfl H rfl (i := 1) rfl rfl ag52 ?_
        rw [plus_eq hT]
        exact ⟨_, rfl, rfl, H.drop.drop⟩
theorem fits_b {w0 w : World} {F : List Seg} (H : Hp w0 w F) {z : Int} (hz : z.natAbs ≤ 1267650600228229401496703205376) : Ret Tryz.prog 22 [.agg (wv (z)).toArray] w fun v w' => v = .tuple #[.int .i64 (sgW (wn64 z)), .bool (decide (i64in z))] ∧ Hp w0 w' F := by
  refine Calls.of_J (n := 22) Tryz.func22 rfl rfl rfl ?_
  refine J.seq ?_
  refine J.region ?_
  refine JL.does trivial (EX.box (v := .agg (wv (z)).toArray) H rfl rfl) ?_
  rintro _ w ⟨bw, rfl, H⟩
  replace H : Hp w0 w ([(bw, cel (wv (z)) 52)] :: F) := H
  refine JL.go trivial (RX.assign) ?_
  refine JL.go trivial (RX.assign) ?_
  refine JL.nil ?_
  refine J.seq ?_
  refine J.region ?_
  refine JL.go trivial (RX.assign) ?_
  refine JL.nil ?_
  refine J.seq ?_
  refine J.seq ?_
  refine J.region ?_
  refine JL.go trivial (RX.fieldAddr rfl fo52_2 rfl) ?_
  refine JL.go trivial (RX.load H rfl (i := 0) (v := .int .u64 _) rfl rfl one36) ?_
  refine JL.go trivial (RX.shr rfl rfl (by decide) (shr63 _)) ?_
  refine JL.go trivial (RX.eq rfl rfl) ?_
  refine JL.nil ?_
  refine J.cond_d rfl (fun ho => ?_) (fun ho => ?_)
  · skip
    have hF := fits_iff hz (ov := 18446744073709551615) (if_pos (by omega)).symm
    refine J.region ?_
    refine JL.go trivial (RX.assign) ?_
    refine JL.nil ?_
    refine J.seq ?_
    refine J.quietH H hmix (by kernel_rfl) ?_
    refine JQ.go trivial (fun w H => RX.fieldAddr rfl fo52_2 rfl) ?_
    refine JQ.go trivial (fun w H => RX.load H rfl (i := 0) (v := .int .u64 _) rfl rfl one36) ?_
    refine JQ.go trivial (fun w H => RX.conv rfl (by rw [ki36]; rfl) ki2 (wrapW (wn64_lt z))) ?_
    refine JQ.go trivial (fun w H => RX.fieldAddr rfl fo52_1 rfl) ?_
    refine JQ.go trivial (fun w H => RX.load H rfl (i := 0) (v := .int .u64 _) rfl rfl one36) ?_
    refine JQ.go trivial (fun w H => RX.movev (v := Value.int _ _) rfl) ?_
    refine JQ.go trivial (fun w H => RX.eq rfl rfl) ?_
    refine JQ.go trivial (fun w H => RX.movev (v := Value.bool _) rfl) ?_
    refine JQ.splitS 16 rfl (fun hg => ?_) (fun hg => ?_)
    · skip
      first | have hgp := of_decide_eq_true hg | skip
      refine JQ.go ⟨_, rfl, hg⟩ (fun w H => RX.fieldAddr rfl fo52_0 rfl) ?_
      refine JQ.go ⟨_, rfl, hg⟩ (fun w H => RX.load H rfl (i := 0) (v := .int .u64 _) rfl rfl one36) ?_
      refine JQ.go ⟨_, rfl, hg⟩ (fun w H => RX.movev (v := Value.int _ _) rfl) ?_
      refine JQ.go ⟨_, rfl, hg⟩ (fun w H => RX.eq rfl rfl) ?_
      refine JQ.go trivial (fun w H => RX.pick_t rfl hg) ?_
      refine JQ.go trivial (fun w H => RX.assignv (v := Value.int _ _) rfl) ?_
      refine JQ.go trivial (fun w H => RX.assignv (v := Value.bool _) rfl) ?_
      refine JQ.nil fun w H => ?_
      refine J.ret2 (v := Value.int _ _) (x := Value.bool _) Tryz.func22 rfl rfl rfl ?_
      have hg1 := of_decide_eq_true hg
      refine ⟨_, rfl, ?_, H.drop⟩
      rw [show decide (i64in z) = decide (((wn64 (z / 18446744073709551616 / 18446744073709551616) : Nat) : Int) = 18446744073709551615) from decide_eq_decide.2 (hF.symm.trans (by omega))]
    · skip
      first | have hgp := of_decide_eq_false hg | skip
      refine JQ.no ⟨_, rfl, gno hg⟩ ?_
      refine JQ.no ⟨_, rfl, gno hg⟩ ?_
      refine JQ.no ⟨_, rfl, gno hg⟩ ?_
      refine JQ.no ⟨_, rfl, gno hg⟩ ?_
      refine JQ.go trivial (fun w H => RX.pick_f rfl hg) ?_
      refine JQ.go trivial (fun w H => RX.assignv (v := Value.int _ _) rfl) ?_
      refine JQ.go trivial (fun w H => RX.assignv (v := Value.bool _) rfl) ?_
      refine JQ.nil fun w H => ?_
      refine J.ret2 (v := Value.int _ _) (x := Value.bool _) Tryz.func22 rfl rfl rfl ?_
      have hg1 := of_decide_eq_false hg
      have hn : ¬ i64in z := fun h => hg1 (by have := (hF.2 h).1; omega)
      refine ⟨_, rfl, ?_, H.drop⟩
      rw [decide_eq_false hn]
  · skip
    have hF := fits_iff hz (ov := 0) (if_neg (by omega)).symm
    refine J.skip ?_
    refine J.seq ?_
    refine J.quietH H hmix (by kernel_rfl) ?_
    refine JQ.go trivial (fun w H => RX.fieldAddr rfl fo52_2 rfl) ?_
    refine JQ.go trivial (fun w H => RX.load H rfl (i := 0) (v := .int .u64 _) rfl rfl one36) ?_
    refine JQ.go trivial (fun w H => RX.conv rfl (by rw [ki36]; rfl) ki2 (wrapW (wn64_lt z))) ?_
    refine JQ.go trivial (fun w H => RX.fieldAddr rfl fo52_1 rfl) ?_
    refine JQ.go trivial (fun w H => RX.load H rfl (i := 0) (v := .int .u64 _) rfl rfl one36) ?_
    refine JQ.go trivial (fun w H => RX.movev (v := Value.int _ _) rfl) ?_
    refine JQ.go trivial (fun w H => RX.eq rfl rfl) ?_
    refine JQ.go trivial (fun w H => RX.movev (v := Value.bool _) rfl) ?_
    refine JQ.splitS 16 rfl (fun hg => ?_) (fun hg => ?_)
    · skip
      first | have hgp := of_decide_eq_true hg | skip
      refine JQ.go ⟨_, rfl, hg⟩ (fun w H => RX.fieldAddr rfl fo52_0 rfl) ?_
      refine JQ.go ⟨_, rfl, hg⟩ (fun w H => RX.load H rfl (i := 0) (v := .int .u64 _) rfl rfl one36) ?_
      refine JQ.go ⟨_, rfl, hg⟩ (fun w H => RX.movev (v := Value.int _ _) rfl) ?_
      refine JQ.go ⟨_, rfl, hg⟩ (fun w H => RX.eq rfl rfl) ?_
      refine JQ.go trivial (fun w H => RX.pick_t rfl hg) ?_
      refine JQ.go trivial (fun w H => RX.assignv (v := Value.int _ _) rfl) ?_
      refine JQ.go trivial (fun w H => RX.assignv (v := Value.bool _) rfl) ?_
      refine JQ.nil fun w H => ?_
      refine J.ret2 (v := Value.int _ _) (x := Value.bool _) Tryz.func22 rfl rfl rfl ?_
      have hg1 := of_decide_eq_true hg
      refine ⟨_, rfl, ?_, H.drop⟩
      rw [show decide (i64in z) = decide (((wn64 (z / 18446744073709551616 / 18446744073709551616) : Nat) : Int) = 0) from decide_eq_decide.2 (hF.symm.trans (by omega))]
    · skip
      first | have hgp := of_decide_eq_false hg | skip
      refine JQ.no ⟨_, rfl, gno hg⟩ ?_
      refine JQ.no ⟨_, rfl, gno hg⟩ ?_
      refine JQ.no ⟨_, rfl, gno hg⟩ ?_
      refine JQ.no ⟨_, rfl, gno hg⟩ ?_
      refine JQ.go trivial (fun w H => RX.pick_f rfl hg) ?_
      refine JQ.go trivial (fun w H => RX.assignv (v := Value.int _ _) rfl) ?_
      refine JQ.go trivial (fun w H => RX.assignv (v := Value.bool _) rfl) ?_
      refine JQ.nil fun w H => ?_
      refine J.ret2 (v := Value.int _ _) (x := Value.bool _) Tryz.func22 rfl rfl rfl ?_
      have hg1 := of_decide_eq_false hg
      have hn : ¬ i64in z := fun h => hg1 (by have := (hF.2 h).1; omega)
      refine ⟨_, rfl, ?_, H.drop⟩
      rw [decide_eq_false hn]
end Go.Proofs.YtkgbdiahmamolaaGreatDoorBesafter

/- Arithmetic modulo a prime, as the program and the reference do it. -/
import Derived.Test.YtfdghjlfplhpjaaGreatDoorLw
import Derived.Test.YtfdghjlfplhpjaaGreatDoorNt
namespace Go.Proofs.YtfdghjlfplhpjaaGreatDoor
open Go Go.Eng
set_option maxRecDepth 100000
set_option linter.unusedVariables false
set_option linter.unusedSimpArgs false
theorem cl32 : callable Tryz.prog 32 = true := by kernel_rfl
theorem cl35 : callable Tryz.prog 35 = true := by kernel_rfl
theorem cl51 : callable Tryz.prog 51 = true := by kernel_rfl
theorem cl52 : callable Tryz.prog 52 = true := by kernel_rfl
theorem cl68 : callable Tryz.prog 68 = true := by kernel_rfl

theorem and32 {x : Nat} (hx : x < 4294967296) : IntKind.u64.wrap (((BitVec.ofInt IntKind.u64.bits (x : Int)) &&& BitVec.ofInt IntKind.u64.bits (4294967295 : Int)).toNat : Int) = ((x : Nat) : Int) := by
  have h := and_mask (x := x) (k := 32) (by decide) (by omega)
  rw [show ((2 ^ 32 - 1 : Nat) : Int) = 4294967295 by decide, Nat.mod_eq_of_lt (show x < 2 ^ 32 by omega)] at h
  exact h
theorem and1 {x : Nat} (hx : x < 18446744073709551616) : IntKind.u64.wrap (((BitVec.ofInt IntKind.u64.bits (x : Int)) &&& BitVec.ofInt IntKind.u64.bits (1 : Int)).toNat : Int) = ((x % 2 : Nat) : Int) := by
  have h := and_mask (x := x) (k := 1) (by decide) hx
  rw [show ((2 ^ 1 - 1 : Nat) : Int) = 1 by decide, Nat.pow_one] at h
  exact h
theorem shr32 (x : Nat) : (x : Int) / (2 ^ (min (32 : Int).toNat IntKind.u64.bits) : Int) = ((x / 4294967296 : Nat) : Int) := by
  have : (2 ^ (min (32 : Int).toNat IntKind.u64.bits) : Int) = 4294967296 := by decide
  rw [this]; omega
theorem shr1 (x : Nat) : (x : Int) / (2 ^ (min (1 : Int).toNat IntKind.u64.bits) : Int) = ((x / 2 : Nat) : Int) := by
  have : (2 ^ (min (1 : Int).toNat IntKind.u64.bits) : Int) = 2 := by decide
  rw [this]; omega
theorem shrk (x i : Nat) (hi : i < 64) : (x : Int) / (2 ^ (min (63 - (i : Int)).toNat IntKind.u64.bits) : Int) = ((x / 2 ^ (63 - i) : Nat) : Int) := by
  have : min (63 - (i : Int)).toNat IntKind.u64.bits = 63 - i := by
    show min (63 - (i : Int)).toNat 64 = 63 - i
    omega
  rw [this, Int.natCast_ediv, Int.natCast_pow]; rfl
theorem mul_lt32 {x y : Nat} (hx : x < 4294967296) (hy : y < 4294967296) : x * y < 18446744073709551616 := by
  have := Nat.mul_le_mul (show x ≤ 4294967295 by omega) (show y ≤ 4294967295 by omega)
  omega
theorem div32_lt {q : Nat} (h : q < 18446744073709551616) : q / 4294967296 < 4294967296 := by omega
theorem div32_zero {x : Nat} (hx : x < 4294967296) : x / 4294967296 = 0 := by omega
theorem rem_nat {a b : Nat} : ((a : Int)).tmod (b : Int) = ((a % b : Nat) : Int) := by rw [Int.tmod_eq_emod_of_nonneg (by omega)]; omega
theorem quo_nat {a b : Nat} : ((a : Int)).tdiv (b : Int) = ((a / b : Nat) : Int) := by rw [Int.tdiv_eq_ediv_of_nonneg (by omega)]; omega
theorem wn {a : Int} {n : Nat} (h : a = (n : Int)) (hn : n < 18446744073709551616) : IntKind.u64.wrap a = (n : Int) := w_u64 h (by omega) (by omega)
theorem wi {a : Int} {n : Nat} (h : a = (n : Int)) (hn : n < 9223372036854775808) : IntKind.i64.wrap a = (n : Int) := w_i64 h (by omega) (by omega)
theorem pow_odd {m a e o : Nat} (h : e % 2 = 1) : ((o * a) % m) * ((a * a) % m) ^ (e / 2) % m = o * a ^ e % m := by
  have e1 : e = (e / 2 + e / 2) + 1 := by omega
  rw [Nat.mul_mod, Nat.mod_mod, ← Nat.pow_mod, ← Nat.mul_mod]
  conv => rhs; rw [e1, Nat.pow_succ, Nat.pow_add, ← Nat.mul_pow]
  congr 1
  rw [Nat.mul_assoc, Nat.mul_comm a]
theorem pow_even {m a e o : Nat} (h : ¬ e % 2 = 1) : o * ((a * a) % m) ^ (e / 2) % m = o * a ^ e % m := by
  have e1 : e = e / 2 + e / 2 := by omega
  rw [Nat.mul_mod, ← Nat.pow_mod, ← Nat.mul_mod]
  conv => rhs; rw [e1, Nat.pow_add, ← Nat.mul_pow]
theorem pw_bit1 {m a e i : Nat} (hi : i < 64) (h : e / 2 ^ (63 - i) % 2 = 1) : (pw m a (e / 2 ^ (64 - i)) * pw m a (e / 2 ^ (64 - i)) % m) * a % m = pw m a (e / 2 ^ (63 - i)) := by
  have e2 : e / 2 ^ (64 - i) = e / 2 ^ (63 - i) / 2 := by rw [Nat.div_div_eq_div_mul, ← Nat.pow_succ]; congr 2; omega
  have e3 : e / 2 ^ (63 - i) = (e / 2 ^ (63 - i) / 2 + e / 2 ^ (63 - i) / 2) + 1 := by omega
  rw [e2]
  conv => rhs; rw [e3, pw_add, pw_add, pw_one]
  rw [Nat.mul_mod_mod]
theorem pw_bit0 {m a e i : Nat} (hi : i < 64) (h : ¬ e / 2 ^ (63 - i) % 2 = 1) : pw m a (e / 2 ^ (64 - i)) * pw m a (e / 2 ^ (64 - i)) % m = pw m a (e / 2 ^ (63 - i)) := by
  have e2 : e / 2 ^ (64 - i) = e / 2 ^ (63 - i) / 2 := by rw [Nat.div_div_eq_div_mul, ← Nat.pow_succ]; congr 2; omega
  have e3 : e / 2 ^ (63 - i) = (e / 2 ^ (63 - i) / 2 + e / 2 ^ (63 - i) / 2) := by omega
  rw [e2]
  conv => rhs; rw [e3, pw_add]

theorem Mul64_b {w0 w : World} {F : List Seg} (H : Hp w0 w F) {x y : Nat} (hx : x < 4294967296) (hy : y < 4294967296) : Ret Tryz.prog 51 [.int .u64 ((x : Nat) : Int), .int .u64 ((y : Nat) : Int)] w fun v w' => v = .tuple #[.int .u64 0, .int .u64 ((x * y : Nat) : Int)] ∧ Hp w0 w' F := by
  refine Calls.of_J (n := 51) Tryz.func51 rfl rfl rfl ?_
  refine J.seq ?_
  have hq := mul_lt32 hx hy
  have hq2 := div32_lt hq
  have x1 := div32_zero hx
  have y1 := div32_zero hy
  have q1 := div32_zero hq2
  refine J.region ?_
  refine JL.go trivial (RX.assign) ?_
  refine JL.go trivial (RX.assign) ?_
  refine JL.nil ?_
  refine J.seq ?_
  refine J.region ?_
  refine JL.go trivial (RX.movev (v := Value.int _ _) rfl) ?_
  refine JL.go trivial (RX.and rfl rfl (and32 hx)) ?_
  refine JL.go trivial (RX.assignv (v := Value.int _ _) rfl) ?_
  refine JL.nil ?_
  refine J.seq ?_
  refine J.region ?_
  refine JL.go trivial (RX.movev (v := Value.int _ _) rfl) ?_
  refine JL.go trivial (RX.shr rfl rfl (by decide) ((shr32 x).trans (by rw [x1]))) ?_
  refine JL.go trivial (RX.assignv (v := Value.int _ _) rfl) ?_
  refine JL.nil ?_
  refine J.seq ?_
  refine J.region ?_
  refine JL.go trivial (RX.movev (v := Value.int _ _) rfl) ?_
  refine JL.go trivial (RX.and rfl rfl (and32 hy)) ?_
  refine JL.go trivial (RX.assignv (v := Value.int _ _) rfl) ?_
  refine JL.nil ?_
  refine J.seq ?_
  refine J.region ?_
  refine JL.go trivial (RX.movev (v := Value.int _ _) rfl) ?_
  refine JL.go trivial (RX.shr rfl rfl (by decide) ((shr32 y).trans (by rw [y1]))) ?_
  refine JL.go trivial (RX.assignv (v := Value.int _ _) rfl) ?_
  refine JL.nil ?_
  refine J.seq ?_
  refine J.region ?_
  refine JL.go trivial (RX.movev (v := Value.int _ _) rfl) ?_
  refine JL.go trivial (RX.movev (v := Value.int _ _) rfl) ?_
  refine JL.go trivial (RX.mul rfl rfl (wn (n := x * y) (by rw [Int.natCast_mul]) hq)) ?_
  refine JL.go trivial (RX.assignv (v := Value.int _ _) rfl) ?_
  refine JL.nil ?_
  refine J.seq ?_
  refine J.region ?_
  refine JL.go trivial (RX.movev (v := Value.int _ _) rfl) ?_
  refine JL.go trivial (RX.movev (v := Value.int _ _) rfl) ?_
  refine JL.go trivial (RX.mul rfl rfl (wn (n := 0) (by simp) (by decide))) ?_
  refine JL.go trivial (RX.movev (v := Value.int _ _) rfl) ?_
  refine JL.go trivial (RX.shr rfl rfl (by decide) (shr32 (x * y))) ?_
  refine JL.go trivial (RX.add rfl rfl (wn (n := x * y / 4294967296) (by simp) (by omega))) ?_
  refine JL.go trivial (RX.assignv (v := Value.int _ _) rfl) ?_
  refine JL.nil ?_
  refine J.seq ?_
  refine J.region ?_
  refine JL.go trivial (RX.movev (v := Value.int _ _) rfl) ?_
  refine JL.go trivial (RX.and rfl rfl (and32 hq2)) ?_
  refine JL.go trivial (RX.assignv (v := Value.int _ _) rfl) ?_
  refine JL.nil ?_
  refine J.seq ?_
  refine J.region ?_
  refine JL.go trivial (RX.movev (v := Value.int _ _) rfl) ?_
  refine JL.go trivial (RX.shr rfl rfl (by decide) ((shr32 _).trans (by rw [q1]))) ?_
  refine JL.go trivial (RX.assignv (v := Value.int _ _) rfl) ?_
  refine JL.nil ?_
  refine J.seq ?_
  refine J.region ?_
  refine JL.go trivial (RX.movev (v := Value.int _ _) rfl) ?_
  refine JL.go trivial (RX.movev (v := Value.int _ _) rfl) ?_
  refine JL.go trivial (RX.movev (v := Value.int _ _) rfl) ?_
  refine JL.go trivial (RX.mul rfl rfl (wn (n := 0) (by simp) (by decide))) ?_
  refine JL.go trivial (RX.add rfl rfl (wn (n := x * y / 4294967296) (by simp) (by omega))) ?_
  refine JL.go trivial (RX.assignv (v := Value.int _ _) rfl) ?_
  refine JL.nil ?_
  refine J.seq ?_
  refine J.region ?_
  refine JL.go trivial (RX.movev (v := Value.int _ _) rfl) ?_
  refine JL.go trivial (RX.movev (v := Value.int _ _) rfl) ?_
  refine JL.go trivial (RX.mul rfl rfl (wn (n := 0) (by simp) (by decide))) ?_
  refine JL.go trivial (RX.movev (v := Value.int _ _) rfl) ?_
  refine JL.go trivial (RX.add rfl rfl (wn (n := 0) (by simp) (by decide))) ?_
  refine JL.go trivial (RX.movev (v := Value.int _ _) rfl) ?_
  refine JL.go trivial (RX.shr rfl rfl (by decide) ((shr32 _).trans (by rw [q1]))) ?_
  refine JL.go trivial (RX.add rfl rfl (wn (n := 0) (by simp) (by decide))) ?_
  refine JL.go trivial (RX.assignv (v := Value.int _ _) rfl) ?_
  refine JL.nil ?_
  refine J.seq ?_
  refine J.region ?_
  refine JL.go trivial (RX.movev (v := Value.int _ _) rfl) ?_
  refine JL.go trivial (RX.movev (v := Value.int _ _) rfl) ?_
  refine JL.go trivial (RX.mul rfl rfl (wn (n := x * y) (by rw [Int.natCast_mul]) hq)) ?_
  refine JL.go trivial (RX.assignv (v := Value.int _ _) rfl) ?_
  refine JL.nil ?_
  refine J.ret2 (v := Value.int _ _) (x := Value.int _ _) Tryz.func51 rfl rfl rfl ?_
  exact ⟨_, rfl, rfl, H⟩
theorem Div64_b {w0 w : World} {F : List Seg} (H : Hp w0 w F) {x y : Nat} (hy : 0 < y) (hy2 : y < 18446744073709551616) (hx : x < 18446744073709551616) : Ret Tryz.prog 68 [.int .u64 0, .int .u64 ((x : Nat) : Int), .int .u64 ((y : Nat) : Int)] w fun v w' => v = .tuple #[.int .u64 ((x / y : Nat) : Int), .int .u64 ((x % y : Nat) : Int)] ∧ Hp w0 w' F := by
  refine Calls.of_J (n := 135) Tryz.func68 rfl rfl rfl ?_
  refine J.seq ?_
  refine J.region ?_
  refine JL.go trivial (RX.assign) ?_
  refine JL.go trivial (RX.assign) ?_
  refine JL.nil ?_
  refine J.seq ?_
  refine J.seq ?_
  refine J.region ?_
  refine JL.go trivial (RX.movev (v := Value.int _ _) rfl) ?_
  refine JL.go trivial (RX.eq rfl rfl) ?_
  refine JL.nil ?_
  refine J.cond_f rfl (decide_eq_false (by omega)) ?_
  refine J.skip ?_
  refine J.seq ?_
  refine J.seq ?_
  refine J.region ?_
  refine JL.go trivial (RX.movev (v := Value.int _ _) rfl) ?_
  refine JL.go trivial (RX.movev (v := Value.int _ _) rfl) ?_
  refine JL.go trivial (RX.le rfl rfl) ?_
  refine JL.nil ?_
  refine J.cond_f rfl (decide_eq_false (by omega)) ?_
  refine J.skip ?_
  refine J.seq ?_
  refine J.seq ?_
  refine J.region ?_
  refine JL.go trivial (RX.movev (v := Value.int _ _) rfl) ?_
  refine JL.go trivial (RX.eq rfl rfl) ?_
  refine JL.nil ?_
  refine J.cond_t rfl (decide_eq_true rfl) ?_
  refine J.seq ?_
  have hd : x / y ≤ x := Nat.div_le_self _ _
  refine J.quietH H hmix (by kernel_rfl) ?_
  refine JQ.go trivial (fun w H => RX.movev (v := Value.int _ _) rfl) ?_
  refine JQ.go trivial (fun w H => RX.movev (v := Value.int _ _) rfl) ?_
  refine JQ.go trivial (fun w H => RX.quo rfl rfl (by omega) (r := ((x / y : Nat) : Int)) (by rw [quo_nat]; exact wn rfl (by omega))) ?_
  refine JQ.go trivial (fun w H => RX.movev (v := Value.int _ _) rfl) ?_
  refine JQ.go trivial (fun w H => RX.movev (v := Value.int _ _) rfl) ?_
  refine JQ.go trivial (fun w H => RX.rem rfl rfl (by omega) rem_nat) ?_
  refine JQ.go trivial (fun w H => RX.assignv (v := Value.int _ _) rfl) ?_
  refine JQ.go trivial (fun w H => RX.assignv (v := Value.int _ _) rfl) ?_
  refine JQ.nil fun w H => ?_
  refine J.ret2 (v := Value.int _ _) (x := Value.int _ _) Tryz.func68 rfl rfl rfl ?_
  exact ⟨_, rfl, rfl, H⟩
theorem Rem64_b {w0 w : World} {F : List Seg} (H : Hp w0 w F) {x y : Nat} (hy : 0 < y) (hy2 : y < 18446744073709551616) (hx : x < 18446744073709551616) : Ret Tryz.prog 52 [.int .u64 0, .int .u64 ((x : Nat) : Int), .int .u64 ((y : Nat) : Int)] w fun v w' => v = .int .u64 ((x % y : Nat) : Int) ∧ Hp w0 w' F := by
  refine Calls.of_J (n := 19) Tryz.func52 rfl rfl rfl ?_
  refine J.seq ?_
  refine J.region ?_
  refine JL.go trivial (RX.assign) ?_
  refine JL.nil ?_
  refine J.seq ?_
  refine J.region ?_
  refine JL.go trivial (RX.movev (v := Value.int _ _) rfl) ?_
  refine JL.go trivial (RX.movev (v := Value.int _ _) rfl) ?_
  refine JL.go trivial (RX.rem rfl rfl (by omega) (r := 0) (by simp)) ?_
  refine JL.go trivial (RX.movev (v := Value.int _ _) rfl) ?_
  refine JL.go trivial (RX.movev (v := Value.int _ _) rfl) ?_
  refine JL.does trivial (EX.call rfl cl68 rfl ((Div64_b H hy hy2 hx))) ?_
  rintro _ w ⟨rfl, H⟩
  refine JL.go trivial (RX.movev (v := Value.tuple _) rfl) ?_
  refine JL.go trivial (RX.extract rfl rfl) ?_
  refine JL.go trivial (RX.extract rfl rfl) ?_
  refine JL.go trivial (RX.assignv (v := Value.int _ _) rfl) ?_
  refine JL.go trivial (RX.assignv (v := Value.int _ _) rfl) ?_
  refine JL.nil ?_
  refine J.seq ?_
  refine J.region ?_
  refine JL.go trivial (RX.movev (v := Value.int _ _) rfl) ?_
  refine JL.go trivial (RX.assignv (v := Value.int _ _) rfl) ?_
  refine JL.nil ?_
  refine J.ret1 (v := Value.int _ _) Tryz.func52 rfl rfl ?_
  exact ⟨_, rfl, rfl, H⟩
theorem Mul_b {w0 w : World} {F : List Seg} (H : Hp w0 w F) {a b m : Nat} (ha : a < 18446744073709551616) (hb : b < 18446744073709551616) (hm : 0 < m) (hm2 : m < 4294967296) : Ret Tryz.prog 32 [.int .u64 ((a : Nat) : Int), .int .u64 ((b : Nat) : Int), .int .u64 ((m : Nat) : Int)] w fun v w' => v = .int .u64 ((a * b % m : Nat) : Int) ∧ Hp w0 w' F := by
  refine Calls.of_J (n := 25) Tryz.func32 rfl rfl rfl ?_
  refine J.seq ?_
  refine J.region ?_
  refine JL.go trivial (RX.assign) ?_
  refine JL.nil ?_
  refine J.seq ?_
  refine J.seq ?_
  refine J.region ?_
  refine JL.go trivial (RX.movev (v := Value.int _ _) rfl) ?_
  refine JL.go trivial (RX.eq rfl rfl) ?_
  refine JL.nil ?_
  refine J.cond_f rfl (decide_eq_false (by omega)) ?_
  refine J.skip ?_
  refine J.seq ?_
  have ha2 := Nat.mod_lt a hm
  have hb2 := Nat.mod_lt b hm
  have hq := mul_lt32 (show a % m < 4294967296 by omega) (show b % m < 4294967296 by omega)
  refine J.quietH H hmix (by kernel_rfl) ?_
  refine JQ.go trivial (fun w H => RX.movev (v := Value.int _ _) rfl) ?_
  refine JQ.go trivial (fun w H => RX.movev (v := Value.int _ _) rfl) ?_
  refine JQ.go trivial (fun w H => RX.rem rfl rfl (by omega) rem_nat) ?_
  refine JQ.go trivial (fun w H => RX.movev (v := Value.int _ _) rfl) ?_
  refine JQ.go trivial (fun w H => RX.movev (v := Value.int _ _) rfl) ?_
  refine JQ.go trivial (fun w H => RX.rem rfl rfl (by omega) rem_nat) ?_
  refine JQ.call trivial (fun w H => run_callq rfl cl51 rfl) (fun w H => (Mul64_b H (by omega) (by omega))) ?_
  refine JQ.go trivial (fun w H => RX.movev (v := Value.tuple _) rfl) ?_
  refine JQ.go trivial (fun w H => RX.extract rfl rfl) ?_
  refine JQ.go trivial (fun w H => RX.extract rfl rfl) ?_
  refine JQ.go trivial (fun w H => RX.assignv (v := Value.int _ _) rfl) ?_
  refine JQ.go trivial (fun w H => RX.assignv (v := Value.int _ _) rfl) ?_
  refine JQ.nil fun w H => ?_
  refine J.seq ?_
  refine J.region ?_
  refine JL.go trivial (RX.movev (v := Value.int _ _) rfl) ?_
  refine JL.go trivial (RX.movev (v := Value.int _ _) rfl) ?_
  refine JL.go trivial (RX.movev (v := Value.int _ _) rfl) ?_
  refine JL.does trivial (EX.call rfl cl52 rfl ((Rem64_b H hm (by omega) hq))) ?_
  rintro _ w ⟨rfl, H⟩
  refine JL.go trivial (RX.assignv (v := Value.int _ _) rfl) ?_
  refine JL.nil ?_
  refine J.ret1 (v := Value.int _ _) Tryz.func32 rfl rfl ?_
  exact ⟨_, rfl, by rw [← Nat.mul_mod], H⟩
theorem rMul_b {w0 w : World} {F : List Seg} (H : Hp w0 w F) {a b m : Nat} (ha : a < 18446744073709551616) (hb : b < 18446744073709551616) (hm : 0 < m) (hm2 : m < 4294967296) : Ret Tryz.prog 35 [.int .u64 ((a : Nat) : Int), .int .u64 ((b : Nat) : Int), .int .u64 ((m : Nat) : Int)] w fun v w' => v = .int .u64 ((a * b % m : Nat) : Int) ∧ Hp w0 w' F := by
  refine Calls.of_J (n := 25) Tryz.func35 rfl rfl rfl ?_
  refine J.seq ?_
  refine J.region ?_
  refine JL.go trivial (RX.assign) ?_
  refine JL.nil ?_
  refine J.seq ?_
  refine J.seq ?_
  refine J.region ?_
  refine JL.go trivial (RX.movev (v := Value.int _ _) rfl) ?_
  refine JL.go trivial (RX.eq rfl rfl) ?_
  refine JL.nil ?_
  refine J.cond_f rfl (decide_eq_false (by omega)) ?_
  refine J.skip ?_
  refine J.seq ?_
  have ha2 := Nat.mod_lt a hm
  have hb2 := Nat.mod_lt b hm
  have hq := mul_lt32 (show a % m < 4294967296 by omega) (show b % m < 4294967296 by omega)
  refine J.quietH H hmix (by kernel_rfl) ?_
  refine JQ.go trivial (fun w H => RX.movev (v := Value.int _ _) rfl) ?_
  refine JQ.go trivial (fun w H => RX.movev (v := Value.int _ _) rfl) ?_
  refine JQ.go trivial (fun w H => RX.rem rfl rfl (by omega) rem_nat) ?_
  refine JQ.go trivial (fun w H => RX.movev (v := Value.int _ _) rfl) ?_
  refine JQ.go trivial (fun w H => RX.movev (v := Value.int _ _) rfl) ?_
  refine JQ.go trivial (fun w H => RX.rem rfl rfl (by omega) rem_nat) ?_
  refine JQ.call trivial (fun w H => run_callq rfl cl51 rfl) (fun w H => (Mul64_b H (by omega) (by omega))) ?_
  refine JQ.go trivial (fun w H => RX.movev (v := Value.tuple _) rfl) ?_
  refine JQ.go trivial (fun w H => RX.extract rfl rfl) ?_
  refine JQ.go trivial (fun w H => RX.extract rfl rfl) ?_
  refine JQ.go trivial (fun w H => RX.assignv (v := Value.int _ _) rfl) ?_
  refine JQ.go trivial (fun w H => RX.assignv (v := Value.int _ _) rfl) ?_
  refine JQ.nil fun w H => ?_
  refine J.seq ?_
  refine J.region ?_
  refine JL.go trivial (RX.movev (v := Value.int _ _) rfl) ?_
  refine JL.go trivial (RX.movev (v := Value.int _ _) rfl) ?_
  refine JL.go trivial (RX.movev (v := Value.int _ _) rfl) ?_
  refine JL.does trivial (EX.call rfl cl52 rfl ((Rem64_b H hm (by omega) hq))) ?_
  rintro _ w ⟨rfl, H⟩
  refine JL.go trivial (RX.assignv (v := Value.int _ _) rfl) ?_
  refine JL.nil ?_
  refine J.ret1 (v := Value.int _ _) Tryz.func35 rfl rfl ?_
  exact ⟨_, rfl, by rw [← Nat.mul_mod], H⟩
theorem Pow_b {w0 w : World} {F : List Seg} (H : Hp w0 w F) {a e m : Nat} (ha : a < 18446744073709551616) (he : e < 18446744073709551616) (hm : 0 < m) (hm2 : m < 4294967296) : Ret Tryz.prog 50 [.int .u64 ((a : Nat) : Int), .int .u64 ((e : Nat) : Int), .int .u64 ((m : Nat) : Int)] w fun v w' => v = .int .u64 ((pw m a e : Nat) : Int) ∧ Hp w0 w' F := by
  refine Calls.of_J (n := 28) Tryz.func50 rfl rfl rfl ?_
  refine J.seq ?_
  refine J.region ?_
  refine JL.go trivial (RX.assign) ?_
  refine JL.nil ?_
  refine J.seq ?_
  refine J.seq ?_
  refine J.region ?_
  refine JL.go trivial (RX.movev (v := Value.int _ _) rfl) ?_
  refine JL.go trivial (RX.eq rfl rfl) ?_
  refine JL.nil ?_
  refine J.cond_f rfl (decide_eq_false (by omega)) ?_
  refine J.skip ?_
  refine J.seq ?_
  refine J.region ?_
  refine JL.go trivial (RX.movev (v := Value.int _ _) rfl) ?_
  refine JL.go trivial (RX.rem rfl rfl (by omega) (rem_nat (a := 1))) ?_
  refine JL.go trivial (RX.assignv (v := Value.int _ _) rfl) ?_
  refine JL.nil ?_
  have h1 := Nat.mod_lt 1 hm
  refine J.seq ?_
  refine J.block ?_
  refine J.loop (ι := Nat × Nat × Nat) (S := fun z => [(0, .int .u64 ((z.1 : Nat) : Int)), (1, .int .u64 ((z.2.1 : Nat) : Int)), (7, .int .u64 ((z.2.2 : Nat) : Int))]) (Φ := fun z w => z.1 < 18446744073709551616 ∧ z.2.1 < 18446744073709551616 ∧ z.2.2 < m ∧ z.2.2 * z.1 ^ z.2.1 % m = pw m a e ∧ Hp w0 w F) (μ := fun z => z.2.1) (C := [(2, _)]) (a, e, 1 % m) ⟨rfl, trivial⟩ ⟨rfl, rfl, rfl, trivial⟩ ?_ ?_
  · exact ⟨ha, he, h1, by simp only; rw [Nat.mod_mul_mod, Nat.one_mul]; rfl, H⟩
  clear H
  rintro ⟨a1, e1, o⟩ ρ w ⟨ha1, he1, ho, hp, H⟩ IH
  simp only at ha1 he1 ho hp H
  dsimp only
  refine J.seq ?_
  refine J.seq ?_
  refine J.region ?_
  refine JL.go trivial (RX.movev (v := Value.int _ _) rfl) ?_
  refine JL.go trivial (RX.gt rfl rfl) ?_
  refine JL.nil ?_
  refine J.cond_d rfl (fun hpos => ?_) (fun hpos => ?_)
  · skip
    refine J.skip ?_
    refine J.seq ?_
    refine J.block ?_
    refine J.seq ?_
    refine J.seq ?_
    refine J.region ?_
    refine JL.go trivial (RX.movev (v := Value.int _ _) rfl) ?_
    refine JL.go trivial (RX.and rfl rfl (and1 he1)) ?_
    refine JL.go trivial (RX.eq rfl rfl) ?_
    refine JL.nil ?_
    refine J.cond_d rfl (fun hodd => ?_) (fun hodd => ?_)
    · skip
      replace hodd : e1 % 2 = 1 := by omega
      refine J.region ?_
      refine JL.go trivial (RX.movev (v := Value.int _ _) rfl) ?_
      refine JL.go trivial (RX.movev (v := Value.int _ _) rfl) ?_
      refine JL.go trivial (RX.movev (v := Value.int _ _) rfl) ?_
      refine JL.does trivial (EX.call rfl cl32 rfl ((Mul_b H (by omega) ha1 hm hm2))) ?_
      rintro _ w ⟨rfl, H⟩
      refine JL.go trivial (RX.assignv (v := Value.int _ _) rfl) ?_
      refine JL.nil ?_
      refine J.region ?_
      refine JL.go trivial (RX.movev (v := Value.int _ _) rfl) ?_
      refine JL.go trivial (RX.movev (v := Value.int _ _) rfl) ?_
      refine JL.go trivial (RX.movev (v := Value.int _ _) rfl) ?_
      refine JL.does trivial (EX.call rfl cl32 rfl ((Mul_b H ha1 ha1 hm hm2))) ?_
      rintro _ w ⟨rfl, H⟩
      refine JL.go trivial (RX.assignv (v := Value.int _ _) rfl) ?_
      refine JL.nil ?_
      have hA := Nat.mod_lt (a1 * a1) hm
      have hO := Nat.mod_lt (o * a1) hm
      refine J.inBlock ?_
      refine J.region ?_
      refine JL.go trivial (RX.movev (v := Value.int _ _) rfl) ?_
      refine JL.go trivial (RX.shr rfl rfl (by decide) (shr1 e1)) ?_
      refine JL.go trivial (RX.assignv (v := Value.int _ _) rfl) ?_
      refine JL.nil ?_
      exact IH (a1 * a1 % m, e1 / 2, o * a1 % m) _ _ (by simp only; omega) ⟨rfl, trivial⟩ ⟨rfl, rfl, rfl, trivial⟩ ⟨by simp only; omega, by simp only; omega, hO, by simp only; rw [pow_odd hodd, hp], H⟩
    · skip
      replace hodd : ¬ e1 % 2 = 1 := by omega
      refine J.skip ?_
      refine J.region ?_
      refine JL.go trivial (RX.movev (v := Value.int _ _) rfl) ?_
      refine JL.go trivial (RX.movev (v := Value.int _ _) rfl) ?_
      refine JL.go trivial (RX.movev (v := Value.int _ _) rfl) ?_
      refine JL.does trivial (EX.call rfl cl32 rfl ((Mul_b H ha1 ha1 hm hm2))) ?_
      rintro _ w ⟨rfl, H⟩
      refine JL.go trivial (RX.assignv (v := Value.int _ _) rfl) ?_
      refine JL.nil ?_
      have hA := Nat.mod_lt (a1 * a1) hm
      have hO := Nat.mod_lt (o * a1) hm
      refine J.inBlock ?_
      refine J.region ?_
      refine JL.go trivial (RX.movev (v := Value.int _ _) rfl) ?_
      refine JL.go trivial (RX.shr rfl rfl (by decide) (shr1 e1)) ?_
      refine JL.go trivial (RX.assignv (v := Value.int _ _) rfl) ?_
      refine JL.nil ?_
      exact IH (a1 * a1 % m, e1 / 2, o) _ _ (by simp only; omega) ⟨rfl, trivial⟩ ⟨rfl, rfl, rfl, trivial⟩ ⟨by simp only; omega, by simp only; omega, ho, by simp only; rw [pow_even hodd, hp], H⟩
  · skip
    refine J.exit rfl ?_
    refine J.seq ?_
    refine J.region ?_
    refine JL.go trivial (RX.movev (v := Value.int _ _) rfl) ?_
    refine JL.go trivial (RX.assignv (v := Value.int _ _) rfl) ?_
    refine JL.nil ?_
    refine J.ret1 (v := Value.int _ _) Tryz.func50 rfl rfl ?_
    have hz : e1 = 0 := by omega
    subst hz
    rw [Nat.pow_zero, Nat.mul_one, Nat.mod_eq_of_lt ho] at hp
    subst hp
    exact ⟨_, rfl, rfl, H⟩
theorem rPow_b {w0 w : World} {F : List Seg} (H : Hp w0 w F) {a e m : Nat} (ha : a < 18446744073709551616) (he : e < 18446744073709551616) (hm : 0 < m) (hm2 : m < 4294967296) : Ret Tryz.prog 21 [.int .u64 ((a : Nat) : Int), .int .u64 ((e : Nat) : Int), .int .u64 ((m : Nat) : Int)] w fun v w' => v = .int .u64 ((pw m a e : Nat) : Int) ∧ Hp w0 w' F := by
  refine Calls.of_J (n := 31) Tryz.func21 rfl rfl rfl ?_
  refine J.seq ?_
  refine J.region ?_
  refine JL.go trivial (RX.assign) ?_
  refine JL.nil ?_
  refine J.seq ?_
  refine J.seq ?_
  refine J.region ?_
  refine JL.go trivial (RX.movev (v := Value.int _ _) rfl) ?_
  refine JL.go trivial (RX.eq rfl rfl) ?_
  refine JL.nil ?_
  refine J.cond_f rfl (decide_eq_false (by omega)) ?_
  refine J.skip ?_
  refine J.seq ?_
  refine J.region ?_
  refine JL.go trivial (RX.movev (v := Value.int _ _) rfl) ?_
  refine JL.go trivial (RX.rem rfl rfl (by omega) (rem_nat (a := 1))) ?_
  refine JL.go trivial (RX.assignv (v := Value.int _ _) rfl) ?_
  refine JL.nil ?_
  refine J.seq ?_
  refine J.seq ?_
  refine J.region ?_
  refine JL.go trivial (RX.assign) ?_
  refine JL.nil ?_
  refine J.block ?_
  refine J.loop (ι := Nat × Nat) (S := fun z => [(8, .int .i64 (63 - (z.1 : Nat))), (7, .int .u64 ((z.2 : Nat) : Int))]) (Φ := fun z w => z.1 ≤ 64 ∧ z.2 = pw m a (e / 2 ^ (64 - z.1)) ∧ Hp w0 w F) (μ := fun z => 64 - z.1) (C := [(0, _), (1, _), (2, _)]) (0, 1 % m) ⟨rfl, rfl, rfl, trivial⟩ ⟨rfl, rfl, trivial⟩ ?_ ?_
  · exact ⟨by simp, by simp only; rw [Nat.sub_zero, show e / 2 ^ 64 = 0 from Nat.div_eq_of_lt he]; rfl, H⟩
  clear H
  rintro ⟨i, o⟩ ρ w ⟨hi, ho, H⟩ IH
  simp only at hi ho H
  have hP := pw_lt hm a (e / 2 ^ (64 - i))
  rw [← ho] at hP
  have hP2 := Nat.mod_lt (o * o) hm
  dsimp only
  refine J.seq ?_
  refine J.seq ?_
  refine J.region ?_
  refine JL.go trivial (RX.movev (v := Value.int _ _) rfl) ?_
  refine JL.go trivial (RX.ge rfl rfl) ?_
  refine JL.nil ?_
  refine J.cond_d rfl (fun hge => ?_) (fun hge => ?_)
  · skip
    have hi2 : i < 64 := by omega
    have hE : e / 2 ^ (63 - i) ≤ e := Nat.div_le_self _ _
    refine J.skip ?_
    refine J.seq ?_
    refine J.block ?_
    refine J.seq ?_
    refine J.region ?_
    refine JL.go trivial (RX.movev (v := Value.int _ _) rfl) ?_
    refine JL.go trivial (RX.movev (v := Value.int _ _) rfl) ?_
    refine JL.go trivial (RX.movev (v := Value.int _ _) rfl) ?_
    refine JL.does trivial (EX.call rfl cl35 rfl ((rMul_b H (by omega) (by omega) hm hm2))) ?_
    rintro _ w ⟨rfl, H⟩
    refine JL.go trivial (RX.assignv (v := Value.int _ _) rfl) ?_
    refine JL.nil ?_
    refine J.seq ?_
    refine J.region ?_
    refine JL.go trivial (RX.movev (v := Value.int _ _) rfl) ?_
    refine JL.go trivial (RX.movev (v := Value.int _ _) rfl) ?_
    refine JL.go trivial (RX.shr rfl rfl (by omega) (shrk e i hi2)) ?_
    refine JL.go trivial (RX.and rfl rfl (and1 (by omega))) ?_
    refine JL.go trivial (RX.eq rfl rfl) ?_
    refine JL.nil ?_
    refine J.cond_d rfl (fun hb => ?_) (fun hb => ?_)
    · skip
      replace hb : e / 2 ^ (63 - i) % 2 = 1 := by omega
      have hst := pw_bit1 (m := m) (a := a) hi2 hb
      rw [← ho] at hst
      refine J.region ?_
      refine JL.go trivial (RX.movev (v := Value.int _ _) rfl) ?_
      refine JL.go trivial (RX.movev (v := Value.int _ _) rfl) ?_
      refine JL.go trivial (RX.movev (v := Value.int _ _) rfl) ?_
      refine JL.does trivial (EX.call rfl cl35 rfl ((rMul_b H (by omega) ha hm hm2))) ?_
      rintro _ w ⟨rfl, H⟩
      refine JL.go trivial (RX.assignv (v := Value.int _ _) rfl) ?_
      refine JL.nil ?_
      refine J.inBlock ?_
      refine J.region ?_
      refine JL.go trivial (RX.movev (v := Value.int _ _) rfl) ?_
      refine JL.go trivial (RX.sub rfl rfl (w_i64 (r := 63 - ((i + 1 : Nat) : Int)) (by omega) (by omega) (by omega))) ?_
      refine JL.go trivial (RX.assignv (v := Value.int _ _) rfl) ?_
      refine JL.nil ?_
      exact IH (i + 1, o * o % m * a % m) _ _ (by simp only; omega) ⟨rfl, rfl, rfl, trivial⟩ ⟨rfl, rfl, trivial⟩ ⟨by simp only; omega, by simp only; rw [show 64 - (i + 1) = 63 - i by omega]; exact hst, H⟩
    · skip
      replace hb : ¬ e / 2 ^ (63 - i) % 2 = 1 := by omega
      have hst := pw_bit0 (m := m) (a := a) hi2 hb
      rw [← ho] at hst
      refine J.skip ?_
      refine J.inBlock ?_
      refine J.region ?_
      refine JL.go trivial (RX.movev (v := Value.int _ _) rfl) ?_
      refine JL.go trivial (RX.sub rfl rfl (w_i64 (r := 63 - ((i + 1 : Nat) : Int)) (by omega) (by omega) (by omega))) ?_
      refine JL.go trivial (RX.assignv (v := Value.int _ _) rfl) ?_
      refine JL.nil ?_
      exact IH (i + 1, o * o % m) _ _ (by simp only; omega) ⟨rfl, rfl, rfl, trivial⟩ ⟨rfl, rfl, trivial⟩ ⟨by simp only; omega, by simp only; rw [show 64 - (i + 1) = 63 - i by omega]; exact hst, H⟩
  · skip
    have hi2 : i = 64 := by omega
    subst hi2
    refine J.exit rfl ?_
    refine J.seq ?_
    refine J.region ?_
    refine JL.go trivial (RX.movev (v := Value.int _ _) rfl) ?_
    refine JL.go trivial (RX.assignv (v := Value.int _ _) rfl) ?_
    refine JL.nil ?_
    refine J.ret1 (v := Value.int _ _) Tryz.func21 rfl rfl ?_
    rw [show e / 2 ^ (64 - 64) = e by simp] at ho
    subst ho
    exact ⟨_, rfl, rfl, H⟩
end Go.Proofs.YtfdghjlfplhpjaaGreatDoor

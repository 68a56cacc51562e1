/- Arithmetic modulo a prime, as the program does it. Primes, factors, least roots, inverses, as the program and the reference find them. Least roots and roots of unity modulo the primes. -/
import Derived.Test.YtfpphoapknecfaaGreatDoorBesafterLw
import Derived.Test.YtfpphoapknecfaaGreatDoorBesafterNt
namespace Go.Proofs.YtfpphoapknecfaaGreatDoorBesafter
open Go Go.Eng
set_option maxRecDepth 100000
set_option linter.unusedVariables false
set_option linter.unusedSimpArgs false
theorem cl29 : callable Tryz.prog 29 = true := by kernel_rfl
theorem cl44 : callable Tryz.prog 44 = true := by kernel_rfl
theorem cl45 : callable Tryz.prog 45 = true := by kernel_rfl
theorem cl46 : callable Tryz.prog 46 = true := by kernel_rfl
theorem cl47 : callable Tryz.prog 47 = true := by kernel_rfl
theorem cl48 : callable Tryz.prog 48 = true := by kernel_rfl
theorem cl61 : callable Tryz.prog 61 = true := by kernel_rfl
theorem cl62 : callable Tryz.prog 62 = true := by kernel_rfl
theorem cl63 : callable Tryz.prog 63 = true := by kernel_rfl
theorem ki3 : kindOf Tryz.prog 3 = some .i64 := by kernel_rfl
theorem ki37 : kindOf Tryz.prog 37 = some .u64 := by kernel_rfl
theorem one3 : oneOf Tryz.prog 3 = true := by kernel_rfl
theorem sl84 : sliceOf Tryz.prog 84 = some (3, 1) := by kernel_rfl
theorem and32 {x : Nat} (hx : x < 4294967296) : IntKind.u64.wrap (((BitVec.ofInt IntKind.u64.bits (x : Int)) &&& BitVec.ofInt IntKind.u64.bits (4294967295 : Int)).toNat : Int) = ((x : Nat) : Int) := by
  have h := and_mask (x := x) (k := 32) (by decide) (by omega)
  rw [show ((2 ^ 32 - 1 : Nat) : Int) = 4294967295 by decide, Nat.mod_eq_of_lt (show x < 2 ^ 32 by omega)] at h
  exact h
theorem and1 {x : Nat} (hx : x < 18446744073709551616) : IntKind.u64.wrap (((BitVec.ofInt IntKind.u64.bits (x : Int)) &&& BitVec.ofInt IntKind.u64.bits (1 : Int)).toNat : Int) = ((x % 2 : Nat) : Int) := by
  have h := and_mask (x := x) (k := 1) (by decide) hx
  rw [show ((2 ^ 1 - 1 : Nat) : Int) = 1 by decide, Nat.pow_one] at h
  exact h
theorem shr32 (x : Nat) : (x : Int) / (2 ^ (min (32 : Int).toNat IntKind.u64.bits) : Int) = ((x / 4294967296 : Nat) : Int) := by
  have : (2 ^ (min (32 : Int).toNat IntKind.u64.bits) : Int) = 4294967296 := by decide
  rw [this]; omega
theorem shr1 (x : Nat) : (x : Int) / (2 ^ (min (1 : Int).toNat IntKind.u64.bits) : Int) = ((x / 2 : Nat) : Int) := by
  have : (2 ^ (min (1 : Int).toNat IntKind.u64.bits) : Int) = 2 := by decide
  rw [this]; omega
theorem shrk (x i : Nat) (hi : i < 64) : (x : Int) / (2 ^ (min (63 - (i : Int)).toNat IntKind.u64.bits) : Int) = ((x / 2 ^ (63 - i) : Nat) : Int) := by
  have : min (63 - (i : Int)).toNat IntKind.u64.bits = 63 - i := by
    show min (63 - (i : Int)).toNat 64 = 63 - i
    omega
  rw [this, Int.natCast_ediv, Int.natCast_pow]; rfl
theorem mul_lt32 {x y : Nat} (hx : x < 4294967296) (hy : y < 4294967296) : x * y < 18446744073709551616 := by
  have := Nat.mul_le_mul (show x ≤ 4294967295 by omega) (show y ≤ 4294967295 by omega)
  omega
theorem div32_lt {q : Nat} (h : q < 18446744073709551616) : q / 4294967296 < 4294967296 := by omega
theorem div32_zero {x : Nat} (hx : x < 4294967296) : x / 4294967296 = 0 := by omega
theorem rem_nat {a b : Nat} : ((a : Int)).tmod (b : Int) = ((a % b : Nat) : Int) := by rw [Int.tmod_eq_emod_of_nonneg (by omega)]; omega
theorem quo_nat {a b : Nat} : ((a : Int)).tdiv (b : Int) = ((a / b : Nat) : Int) := by rw [Int.tdiv_eq_ediv_of_nonneg (by omega)]; omega
theorem wn {a : Int} {n : Nat} (h : a = (n : Int)) (hn : n < 18446744073709551616) : IntKind.u64.wrap a = (n : Int) := w_u64 h (by omega) (by omega)
theorem wi {a : Int} {n : Nat} (h : a = (n : Int)) (hn : n < 9223372036854775808) : IntKind.i64.wrap a = (n : Int) := w_i64 h (by omega) (by omega)
theorem pow_odd {m a e o : Nat} (h : e % 2 = 1) : ((o * a) % m) * ((a * a) % m) ^ (e / 2) % m = o * a ^ e % m := by
  have e1 : e = (e / 2 + e / 2) + 1 := by omega
  rw [Nat.mul_mod, Nat.mod_mod, ← Nat.pow_mod, ← Nat.mul_mod]
  conv => rhs; rw [e1, Nat.pow_succ, Nat.pow_add, ← Nat.mul_pow]
  congr 1
  rw [Nat.mul_assoc, Nat.mul_comm a]
theorem pow_even {m a e o : Nat} (h : ¬ e % 2 = 1) : o * ((a * a) % m) ^ (e / 2) % m = o * a ^ e % m := by
  have e1 : e = e / 2 + e / 2 := by omega
  rw [Nat.mul_mod, ← Nat.pow_mod, ← Nat.mul_mod]
  conv => rhs; rw [e1, Nat.pow_add, ← Nat.mul_pow]
theorem pw_bit1 {m a e i : Nat} (hi : i < 64) (h : e / 2 ^ (63 - i) % 2 = 1) : (pw m a (e / 2 ^ (64 - i)) * pw m a (e / 2 ^ (64 - i)) % m) * a % m = pw m a (e / 2 ^ (63 - i)) := by
  have e2 : e / 2 ^ (64 - i) = e / 2 ^ (63 - i) / 2 := by rw [Nat.div_div_eq_div_mul, ← Nat.pow_succ]; congr 2; omega
  have e3 : e / 2 ^ (63 - i) = (e / 2 ^ (63 - i) / 2 + e / 2 ^ (63 - i) / 2) + 1 := by omega
  rw [e2]
  conv => rhs; rw [e3, pw_add, pw_add, pw_one]
  rw [Nat.mul_mod_mod]
theorem pw_bit0 {m a e i : Nat} (hi : i < 64) (h : ¬ e / 2 ^ (63 - i) % 2 = 1) : pw m a (e / 2 ^ (64 - i)) * pw m a (e / 2 ^ (64 - i)) % m = pw m a (e / 2 ^ (63 - i)) := by
  have e2 : e / 2 ^ (64 - i) = e / 2 ^ (63 - i) / 2 := by rw [Nat.div_div_eq_div_mul, ← Nat.pow_succ]; congr 2; omega
  have e3 : e / 2 ^ (63 - i) = (e / 2 ^ (63 - i) / 2 + e / 2 ^ (63 - i) / 2) := by omega
  rw [e2]
  conv => rhs; rw [e3, pw_add]

set_option maxHeartbeats 1600000 in
theorem Mul64_b {w0 w : World} {F : List Seg} (H : Hp w0 w F) {x y : Nat} (hx : x < 4294967296) (hy : y < 4294967296) : Ret Tryz.prog 46 [.int .u64 ((x : Nat) : Int), .int .u64 ((y : Nat) : Int)] w fun v w' => v = .tuple #[.int .u64 0, .int .u64 ((x * y : Nat) : Int)] ∧ Hp w0 w' F := by
  refine Calls.of_J (n := 51) Tryz.func46 rfl rfl rfl ?_
  refine J.seq ?_
  have hq := mul_lt32 hx hy
  have hq2 := div32_lt hq
  have x1 := div32_zero hx
  have y1 := div32_zero hy
  have q1 := div32_zero hq2
  refine J.region ?_
  refine JL.go trivial (RX.assign) ?_
  refine JL.go trivial (RX.assign) ?_
  refine JL.nil ?_
  refine J.seq ?_
  refine J.region ?_
  refine JL.go trivial (RX.movev (v := Value.int _ _) rfl) ?_
  refine JL.go trivial (RX.and rfl rfl (and32 hx)) ?_
  refine JL.go trivial (RX.assignv (v := Value.int _ _) rfl) ?_
  refine JL.nil ?_
  refine J.seq ?_
  refine J.region ?_
  refine JL.go trivial (RX.movev (v := Value.int _ _) rfl) ?_
  refine JL.go trivial (RX.shr rfl rfl (by decide) ((shr32 x).trans (by rw [x1]))) ?_
  refine JL.go trivial (RX.assignv (v := Value.int _ _) rfl) ?_
  refine JL.nil ?_
  refine J.seq ?_
  refine J.region ?_
  refine JL.go trivial (RX.movev (v := Value.int _ _) rfl) ?_
  refine JL.go trivial (RX.and rfl rfl (and32 hy)) ?_
  refine JL.go trivial (RX.assignv (v := Value.int _ _) rfl) ?_
  refine JL.nil ?_
  refine J.seq ?_
  refine J.region ?_
  refine JL.go trivial (RX.movev (v := Value.int _ _) rfl) ?_
  refine JL.go trivial (RX.shr rfl rfl (by decide) ((shr32 y).trans (by rw [y1]))) ?_
  refine JL.go trivial (RX.assignv (v := Value.int _ _) rfl) ?_
  refine JL.nil ?_
  refine J.seq ?_
  refine J.region ?_
  refine JL.go trivial (RX.movev (v := Value.int _ _) rfl) ?_
  refine JL.go trivial (RX.movev (v := Value.int _ _) rfl) ?_
  refine JL.go trivial (RX.mul rfl rfl (wn (n := x * y) (by rw [Int.natCast_mul]) hq)) ?_
  refine JL.go trivial (RX.assignv (v := Value.int _ _) rfl) ?_
  refine JL.nil ?_
  refine J.seq ?_
  refine J.region ?_
  refine JL.go trivial (RX.movev (v := Value.int _ _) rfl) ?_
  refine JL.go trivial (RX.movev (v := Value.int _ _) rfl) ?_
  refine JL.go trivial (RX.mul rfl rfl (wn (n := 0) (by simp) (by decide))) ?_
  refine JL.go trivial (RX.movev (v := Value.int _ _) rfl) ?_
  refine JL.go trivial (RX.shr rfl rfl (by decide) (shr32 (x * y))) ?_
  refine JL.go trivial (RX.add rfl rfl (wn (n := x * y / 4294967296) (by simp) (by omega))) ?_
  refine JL.go trivial (RX.assignv (v := Value.int _ _) rfl) ?_
  refine JL.nil ?_
  refine J.seq ?_
  refine J.region ?_
  refine JL.go trivial (RX.movev (v := Value.int _ _) rfl) ?_
  refine JL.go trivial (RX.and rfl rfl (and32 hq2)) ?_
  refine JL.go trivial (RX.assignv (v := Value.int _ _) rfl) ?_
  refine JL.nil ?_
  refine J.seq ?_
  refine J.region ?_
  refine JL.go trivial (RX.movev (v := Value.int _ _) rfl) ?_
  refine JL.go trivial (RX.shr rfl rfl (by decide) ((shr32 _).trans (by rw [q1]))) ?_
  refine JL.go trivial (RX.assignv (v := Value.int _ _) rfl) ?_
  refine JL.nil ?_
  refine J.seq ?_
  refine J.region ?_
  refine JL.go trivial (RX.movev (v := Value.int _ _) rfl) ?_
  refine JL.go trivial (RX.movev (v := Value.int _ _) rfl) ?_
  refine JL.go trivial (RX.movev (v := Value.int _ _) rfl) ?_
  refine JL.go trivial (RX.mul rfl rfl (wn (n := 0) (by simp) (by decide))) ?_
  refine JL.go trivial (RX.add rfl rfl (wn (n := x * y / 4294967296) (by simp) (by omega))) ?_
  refine JL.go trivial (RX.assignv (v := Value.int _ _) rfl) ?_
  refine JL.nil ?_
  refine J.seq ?_
  refine J.region ?_
  refine JL.go trivial (RX.movev (v := Value.int _ _) rfl) ?_
  refine JL.go trivial (RX.movev (v := Value.int _ _) rfl) ?_
  refine JL.go trivial (RX.mul rfl rfl (wn (n := 0) (by simp) (by decide))) ?_
  refine JL.go trivial (RX.movev (v := Value.int _ _) rfl) ?_
  refine JL.go trivial (RX.add rfl rfl (wn (n := 0) (by simp) (by decide))) ?_
  refine JL.go trivial (RX.movev (v := Value.int _ _) rfl) ?_
  refine JL.go trivial (RX.shr rfl rfl (by decide) ((shr32 _).trans (by rw [q1]))) ?_
  refine JL.go trivial (RX.add rfl rfl (wn (n := 0) (by simp) (by decide))) ?_
  refine JL.go trivial (RX.assignv (v := Value.int _ _) rfl) ?_
  refine JL.nil ?_
  refine J.seq ?_
  refine J.region ?_
  refine JL.go trivial (RX.movev (v := Value.int _ _) rfl) ?_
  refine JL.go trivial (RX.movev (v := Value.int _ _) rfl) ?_
  refine JL.go trivial (RX.mul rfl rfl (wn (n := x * y) (by rw [Int.natCast_mul]) hq)) ?_
  refine JL.go trivial (RX.assignv (v := Value.int _ _) rfl) ?_
  refine JL.nil ?_
  refine J.ret2 (v := Value.int _ _) (x := Value.int _ _) Tryz.func46 rfl rfl rfl ?_
  exact ⟨_, rfl, rfl, H⟩
set_option maxHeartbeats 1600000 in
theorem Div64_b {w0 w : World} {F : List Seg} (H : Hp w0 w F) {x y : Nat} (hy : 0 < y) (hy2 : y < 18446744073709551616) (hx : x < 18446744073709551616) : Ret Tryz.prog 63 [.int .u64 0, .int .u64 ((x : Nat) : Int), .int .u64 ((y : Nat) : Int)] w fun v w' => v = .tuple #[.int .u64 ((x / y : Nat) : Int), .int .u64 ((x % y : Nat) : Int)] ∧ Hp w0 w' F := by
  refine Calls.of_J (n := 135) Tryz.func63 rfl rfl rfl ?_
  refine J.seq ?_
  refine J.region ?_
  refine JL.go trivial (RX.assign) ?_
  refine JL.go trivial (RX.assign) ?_
  refine JL.nil ?_
  refine J.seq ?_
  refine J.seq ?_
  refine J.region ?_
  refine JL.go trivial (RX.movev (v := Value.int _ _) rfl) ?_
  refine JL.go trivial (RX.eq rfl rfl) ?_
  refine JL.nil ?_
  refine J.cond_f rfl (decide_eq_false (by omega)) ?_
  refine J.skip ?_
  refine J.seq ?_
  refine J.seq ?_
  refine J.region ?_
  refine JL.go trivial (RX.movev (v := Value.int _ _) rfl) ?_
  refine JL.go trivial (RX.movev (v := Value.int _ _) rfl) ?_
  refine JL.go trivial (RX.le rfl rfl) ?_
  refine JL.nil ?_
  refine J.cond_f rfl (decide_eq_false (by omega)) ?_
  refine J.skip ?_
  refine J.seq ?_
  refine J.seq ?_
  refine J.region ?_
  refine JL.go trivial (RX.movev (v := Value.int _ _) rfl) ?_
  refine JL.go trivial (RX.eq rfl rfl) ?_
  refine JL.nil ?_
  refine J.cond_t rfl (decide_eq_true rfl) ?_
  refine J.seq ?_
  have hd : x / y ≤ x := Nat.div_le_self _ _
  refine J.quietH H hmix (by kernel_rfl) ?_
  refine JQ.go trivial (fun w H => RX.movev (v := Value.int _ _) rfl) ?_
  refine JQ.go trivial (fun w H => RX.movev (v := Value.int _ _) rfl) ?_
  refine JQ.go trivial (fun w H => RX.quo rfl rfl (by omega) (r := ((x / y : Nat) : Int)) (by rw [quo_nat]; exact wn rfl (by omega))) ?_
  refine JQ.go trivial (fun w H => RX.movev (v := Value.int _ _) rfl) ?_
  refine JQ.go trivial (fun w H => RX.movev (v := Value.int _ _) rfl) ?_
  refine JQ.go trivial (fun w H => RX.rem rfl rfl (by omega) rem_nat) ?_
  refine JQ.go trivial (fun w H => RX.assignv (v := Value.int _ _) rfl) ?_
  refine JQ.go trivial (fun w H => RX.assignv (v := Value.int _ _) rfl) ?_
  refine JQ.nil fun w H => ?_
  refine J.ret2 (v := Value.int _ _) (x := Value.int _ _) Tryz.func63 rfl rfl rfl ?_
  exact ⟨_, rfl, rfl, H⟩
set_option maxHeartbeats 1600000 in
theorem Rem64_b {w0 w : World} {F : List Seg} (H : Hp w0 w F) {x y : Nat} (hy : 0 < y) (hy2 : y < 18446744073709551616) (hx : x < 18446744073709551616) : Ret Tryz.prog 47 [.int .u64 0, .int .u64 ((x : Nat) : Int), .int .u64 ((y : Nat) : Int)] w fun v w' => v = .int .u64 ((x % y : Nat) : Int) ∧ Hp w0 w' F := by
  refine Calls.of_J (n := 19) Tryz.func47 rfl rfl rfl ?_
  refine J.seq ?_
  refine J.region ?_
  refine JL.go trivial (RX.assign) ?_
  refine JL.nil ?_
  refine J.seq ?_
  refine J.region ?_
  refine JL.go trivial (RX.movev (v := Value.int _ _) rfl) ?_
  refine JL.go trivial (RX.movev (v := Value.int _ _) rfl) ?_
  refine JL.go trivial (RX.rem rfl rfl (by omega) (r := 0) (by simp)) ?_
  refine JL.go trivial (RX.movev (v := Value.int _ _) rfl) ?_
  refine JL.go trivial (RX.movev (v := Value.int _ _) rfl) ?_
  refine JL.does trivial (EX.call rfl cl63 rfl ((Div64_b H hy hy2 hx))) ?_
  rintro _ w ⟨rfl, H⟩
  refine JL.go trivial (RX.movev (v := Value.tuple _) rfl) ?_
  refine JL.go trivial (RX.extract rfl rfl) ?_
  refine JL.go trivial (RX.extract rfl rfl) ?_
  refine JL.go trivial (RX.assignv (v := Value.int _ _) rfl) ?_
  refine JL.go trivial (RX.assignv (v := Value.int _ _) rfl) ?_
  refine JL.nil ?_
  refine J.seq ?_
  refine J.region ?_
  refine JL.go trivial (RX.movev (v := Value.int _ _) rfl) ?_
  refine JL.go trivial (RX.assignv (v := Value.int _ _) rfl) ?_
  refine JL.nil ?_
  refine J.ret1 (v := Value.int _ _) Tryz.func47 rfl rfl ?_
  exact ⟨_, rfl, rfl, H⟩
set_option maxHeartbeats 1600000 in
theorem Mul_b {w0 w : World} {F : List Seg} (H : Hp w0 w F) {a b m : Nat} (ha : a < 18446744073709551616) (hb : b < 18446744073709551616) (hm : 0 < m) (hm2 : m < 4294967296) : Ret Tryz.prog 29 [.int .u64 ((a : Nat) : Int), .int .u64 ((b : Nat) : Int), .int .u64 ((m : Nat) : Int)] w fun v w' => v = .int .u64 ((a * b % m : Nat) : Int) ∧ Hp w0 w' F := by
  refine Calls.of_J (n := 25) Tryz.func29 rfl rfl rfl ?_
  refine J.seq ?_
  refine J.region ?_
  refine JL.go trivial (RX.assign) ?_
  refine JL.nil ?_
  refine J.seq ?_
  refine J.seq ?_
  refine J.region ?_
  refine JL.go trivial (RX.movev (v := Value.int _ _) rfl) ?_
  refine JL.go trivial (RX.eq rfl rfl) ?_
  refine JL.nil ?_
  refine J.cond_f rfl (decide_eq_false (by omega)) ?_
  refine J.skip ?_
  refine J.seq ?_
  have ha2 := Nat.mod_lt a hm
  have hb2 := Nat.mod_lt b hm
  have hq := mul_lt32 (show a % m < 4294967296 by omega) (show b % m < 4294967296 by omega)
  refine J.quietH H hmix (by kernel_rfl) ?_
  refine JQ.go trivial (fun w H => RX.movev (v := Value.int _ _) rfl) ?_
  refine JQ.go trivial (fun w H => RX.movev (v := Value.int _ _) rfl) ?_
  refine JQ.go trivial (fun w H => RX.rem rfl rfl (by omega) rem_nat) ?_
  refine JQ.go trivial (fun w H => RX.movev (v := Value.int _ _) rfl) ?_
  refine JQ.go trivial (fun w H => RX.movev (v := Value.int _ _) rfl) ?_
  refine JQ.go trivial (fun w H => RX.rem rfl rfl (by omega) rem_nat) ?_
  refine JQ.call trivial (fun w H => run_callq rfl cl46 rfl) (fun w H => (Mul64_b H (by omega) (by omega))) ?_
  refine JQ.go trivial (fun w H => RX.movev (v := Value.tuple _) rfl) ?_
  refine JQ.go trivial (fun w H => RX.extract rfl rfl) ?_
  refine JQ.go trivial (fun w H => RX.extract rfl rfl) ?_
  refine JQ.go trivial (fun w H => RX.assignv (v := Value.int _ _) rfl) ?_
  refine JQ.go trivial (fun w H => RX.assignv (v := Value.int _ _) rfl) ?_
  refine JQ.nil fun w H => ?_
  refine J.seq ?_
  refine J.region ?_
  refine JL.go trivial (RX.movev (v := Value.int _ _) rfl) ?_
  refine JL.go trivial (RX.movev (v := Value.int _ _) rfl) ?_
  refine JL.go trivial (RX.movev (v := Value.int _ _) rfl) ?_
  refine JL.does trivial (EX.call rfl cl47 rfl ((Rem64_b H hm (by omega) hq))) ?_
  rintro _ w ⟨rfl, H⟩
  refine JL.go trivial (RX.assignv (v := Value.int _ _) rfl) ?_
  refine JL.nil ?_
  refine J.ret1 (v := Value.int _ _) Tryz.func29 rfl rfl ?_
  exact ⟨_, rfl, by rw [← Nat.mul_mod], H⟩
set_option maxHeartbeats 1600000 in
theorem Pow_b {w0 w : World} {F : List Seg} (H : Hp w0 w F) {a e m : Nat} (ha : a < 18446744073709551616) (he : e < 18446744073709551616) (hm : 0 < m) (hm2 : m < 4294967296) : Ret Tryz.prog 45 [.int .u64 ((a : Nat) : Int), .int .u64 ((e : Nat) : Int), .int .u64 ((m : Nat) : Int)] w fun v w' => v = .int .u64 ((pw m a e : Nat) : Int) ∧ Hp w0 w' F := by
  refine Calls.of_J (n := 28) Tryz.func45 rfl rfl rfl ?_
  refine J.seq ?_
  refine J.region ?_
  refine JL.go trivial (RX.assign) ?_
  refine JL.nil ?_
  refine J.seq ?_
  refine J.seq ?_
  refine J.region ?_
  refine JL.go trivial (RX.movev (v := Value.int _ _) rfl) ?_
  refine JL.go trivial (RX.eq rfl rfl) ?_
  refine JL.nil ?_
  refine J.cond_f rfl (decide_eq_false (by omega)) ?_
  refine J.skip ?_
  refine J.seq ?_
  refine J.region ?_
  refine JL.go trivial (RX.movev (v := Value.int _ _) rfl) ?_
  refine JL.go trivial (RX.rem rfl rfl (by omega) (rem_nat (a := 1))) ?_
  refine JL.go trivial (RX.assignv (v := Value.int _ _) rfl) ?_
  refine JL.nil ?_
  have h1 := Nat.mod_lt 1 hm
  refine J.seq ?_
  refine J.block ?_
  refine J.loop (ι := Nat × Nat × Nat) (S := fun z => [(0, .int .u64 ((z.1 : Nat) : Int)), (1, .int .u64 ((z.2.1 : Nat) : Int)), (7, .int .u64 ((z.2.2 : Nat) : Int))]) (Φ := fun z w => z.1 < 18446744073709551616 ∧ z.2.1 < 18446744073709551616 ∧ z.2.2 < m ∧ z.2.2 * z.1 ^ z.2.1 % m = pw m a e ∧ Hp w0 w F) (μ := fun z => z.2.1) (C := [(2, _)]) (a, e, 1 % m) ⟨rfl, trivial⟩ ⟨rfl, rfl, rfl, trivial⟩ ?_ ?_
  · exact ⟨ha, he, h1, by simp only; rw [Nat.mod_mul_mod, Nat.one_mul]; rfl, H⟩
  clear H
  rintro ⟨a1, e1, o⟩ ρ w ⟨ha1, he1, ho, hp, H⟩ IH
  simp only at ha1 he1 ho hp H
  dsimp only
  refine J.seq ?_
  refine J.seq ?_
  refine J.region ?_
  refine JL.go trivial (RX.movev (v := Value.int _ _) rfl) ?_
  refine JL.go trivial (RX.gt rfl rfl) ?_
  refine JL.nil ?_
  refine J.cond_d rfl (fun hpos => ?_) (fun hpos => ?_)
  · skip
    refine J.skip ?_
    refine J.seq ?_
    refine J.block ?_
    refine J.seq ?_
    refine J.seq ?_
    refine J.region ?_
    refine JL.go trivial (RX.movev (v := Value.int _ _) rfl) ?_
    refine JL.go trivial (RX.and rfl rfl (and1 he1)) ?_
    refine JL.go trivial (RX.eq rfl rfl) ?_
    refine JL.nil ?_
    refine J.cond_d rfl (fun hodd => ?_) (fun hodd => ?_)
    · skip
      replace hodd : e1 % 2 = 1 := by omega
      refine J.region ?_
      refine JL.go trivial (RX.movev (v := Value.int _ _) rfl) ?_
      refine JL.go trivial (RX.movev (v := Value.int _ _) rfl) ?_
      refine JL.go trivial (RX.movev (v := Value.int _ _) rfl) ?_
      refine JL.does trivial (EX.call rfl cl29 rfl ((Mul_b H (by omega) ha1 hm hm2))) ?_
      rintro _ w ⟨rfl, H⟩
      refine JL.go trivial (RX.assignv (v := Value.int _ _) rfl) ?_
      refine JL.nil ?_
      refine J.region ?_
      refine JL.go trivial (RX.movev (v := Value.int _ _) rfl) ?_
      refine JL.go trivial (RX.movev (v := Value.int _ _) rfl) ?_
      refine JL.go trivial (RX.movev (v := Value.int _ _) rfl) ?_
      refine JL.does trivial (EX.call rfl cl29 rfl ((Mul_b H ha1 ha1 hm hm2))) ?_
      rintro _ w ⟨rfl, H⟩
      refine JL.go trivial (RX.assignv (v := Value.int _ _) rfl) ?_
      refine JL.nil ?_
      have hA := Nat.mod_lt (a1 * a1) hm
      have hO := Nat.mod_lt (o * a1) hm
      refine J.inBlock ?_
      refine J.region ?_
      refine JL.go trivial (RX.movev (v := Value.int _ _) rfl) ?_
      refine JL.go trivial (RX.shr rfl rfl (by decide) (shr1 e1)) ?_
      refine JL.go trivial (RX.assignv (v := Value.int _ _) rfl) ?_
      refine JL.nil ?_
      exact IH (a1 * a1 % m, e1 / 2, o * a1 % m) _ _ (by simp only; omega) ⟨rfl, trivial⟩ ⟨rfl, rfl, rfl, trivial⟩ ⟨by simp only; omega, by simp only; omega, hO, by simp only; rw [pow_odd hodd, hp], H⟩
    · skip
      replace hodd : ¬ e1 % 2 = 1 := by omega
      refine J.skip ?_
      refine J.region ?_
      refine JL.go trivial (RX.movev (v := Value.int _ _) rfl) ?_
      refine JL.go trivial (RX.movev (v := Value.int _ _) rfl) ?_
      refine JL.go trivial (RX.movev (v := Value.int _ _) rfl) ?_
      refine JL.does trivial (EX.call rfl cl29 rfl ((Mul_b H ha1 ha1 hm hm2))) ?_
      rintro _ w ⟨rfl, H⟩
      refine JL.go trivial (RX.assignv (v := Value.int _ _) rfl) ?_
      refine JL.nil ?_
      have hA := Nat.mod_lt (a1 * a1) hm
      have hO := Nat.mod_lt (o * a1) hm
      refine J.inBlock ?_
      refine J.region ?_
      refine JL.go trivial (RX.movev (v := Value.int _ _) rfl) ?_
      refine JL.go trivial (RX.shr rfl rfl (by decide) (shr1 e1)) ?_
      refine JL.go trivial (RX.assignv (v := Value.int _ _) rfl) ?_
      refine JL.nil ?_
      exact IH (a1 * a1 % m, e1 / 2, o) _ _ (by simp only; omega) ⟨rfl, trivial⟩ ⟨rfl, rfl, rfl, trivial⟩ ⟨by simp only; omega, by simp only; omega, ho, by simp only; rw [pow_even hodd, hp], H⟩
  · skip
    refine J.exit rfl ?_
    refine J.seq ?_
    refine J.region ?_
    refine JL.go trivial (RX.movev (v := Value.int _ _) rfl) ?_
    refine JL.go trivial (RX.assignv (v := Value.int _ _) rfl) ?_
    refine JL.nil ?_
    refine J.ret1 (v := Value.int _ _) Tryz.func45 rfl rfl ?_
    have hz : e1 = 0 := by omega
    subst hz
    rw [Nat.pow_zero, Nat.mul_one, Nat.mod_eq_of_lt ho] at hp
    subst hp
    exact ⟨_, rfl, rfl, H⟩
def intsV (l : List Int) : List Value := l.map (Value.int .i64)
theorem intsV_len (l : List Int) : (intsV l).length = l.length := by simp [intsV]
theorem intsV_get {l : List Int} {i : Nat} {k : Int} (h : l[i]? = some k) : (intsV l)[i]? = some (.int .i64 k) := by simp [intsV, h]
theorem intsV_app (a b : List Int) : intsV (a ++ b) = intsV a ++ intsV b := by simp [intsV]
theorem intsV_cell (l : List Int) : ∀ v ∈ intsV l, isCell v = true := by
  intro v hv; obtain ⟨b, _, rfl⟩ := List.mem_map.1 hv; rfl
theorem elI : Elem Tryz.prog 84 3 1 8 := Elem.of (by kernel_rfl)
def facL (n : Int) (out : List Int) : List Int := if 1 < n then out ++ [n] else out
theorem GoodP.factors {p g : Nat} {fs : List Int} (h : GoodP p g fs) : ∃ n out, trialF 100 (((p - 1 : Nat)) : Int) 2 [] = some (n, out) ∧ facL n out = fs := by
  have hf := h.fac
  have hlo := h.lo
  unfold facOK at hf
  rw [show ((p : Int) - 1) = ((p - 1 : Nat) : Int) by omega] at hf
  split at hf
  · next n out he => exact ⟨n, out, he, by simpa [facL] using hf⟩
  · cases hf
theorem GoodP.trial {p g : Nat} {fs : List Int} (h : GoodP p g fs) : trialF 65537 (p : Int) 2 [] = some ((p : Int), []) :=
  trial_prime h.pr 65536 2 (by decide) (by have := h.hi; omega) []
theorem GoodP.small {p g : Nat} {fs : List Int} (h : GoodP p g fs) : g ≤ 1000 ∧ fs.length ≤ 100 := by
  have := h.gen
  unfold genOK at this
  rw [Bool.and_eq_true, Bool.and_eq_true] at this
  exact ⟨of_decide_eq_true this.1.1, of_decide_eq_true this.1.2⟩
theorem GoodP.ne {p g : Nat} {fs : List Int} (h : GoodP p g fs) {q : Int} (hq : q ∈ fs) : 0 < q ∧ q < 100 ∧ pw p g ((p - 1) / q.toNat) ≠ 1 := by
  have := h.gen
  unfold genOK at this
  rw [Bool.and_eq_true, Bool.and_eq_true (fs.all _), List.all_eq_true] at this
  have h1 := this.2.1 q hq
  rw [Bool.and_eq_true, Bool.and_eq_true] at h1
  have h2 := h.hi
  refine ⟨of_decide_eq_true h1.1.1, of_decide_eq_true h1.1.2, ?_⟩
  rw [← pm_eq p 32 g _ (Nat.lt_of_le_of_lt (Nat.div_le_self _ _) (by omega))]
  simpa using h1.2
theorem GoodP.has {p g : Nat} {fs : List Int} (h : GoodP p g fs) {k : Nat} (h1 : 1 ≤ k) (h2 : k < g) : ∃ q ∈ fs, pw p k ((p - 1) / q.toNat) = 1 := by
  have := h.gen
  unfold genOK at this
  rw [Bool.and_eq_true, Bool.and_eq_true (fs.all _), List.all_eq_true, List.all_eq_true] at this
  have h3 := this.2.2 k (List.mem_range.2 h2)
  rw [Bool.or_eq_true, List.any_eq_true] at h3
  rcases h3 with h3 | ⟨q, hq, h3⟩
  · have : k = 0 := by simpa using h3
    omega
  · refine ⟨q, hq, ?_⟩
    have hh := h.hi
    rw [← pm_eq p 32 k _ (Nat.lt_of_le_of_lt (Nat.div_le_self _ _) (by omega))]
    simpa using h3
theorem GoodP.gpos {p g : Nat} {fs : List Int} (h : GoodP p g fs) : 1 ≤ g := by
  refine Nat.one_le_iff_ne_zero.2 fun h0 => ?_
  have h1 := h.one
  have h2 := h.lo
  subst h0
  unfold pw at h1
  rw [Nat.zero_pow (by omega), Nat.zero_mod] at h1
  cases h1
/-- All the tests at the first i factors fail. -/
def AllNe (p h : Nat) (fs : List Int) (i : Nat) : Prop := ∀ j q, j < i → fs[j]? = some q → pw p h ((p - 1) / q.toNat) ≠ 1
theorem AllNe.step {p h : Nat} {fs : List Int} {i : Nat} {q : Int} (ha : AllNe p h fs i) (hq : fs[i]? = some q) (hn : pw p h ((p - 1) / q.toNat) ≠ 1) : AllNe p h fs (i + 1) := by
  intro j r hj hr
  by_cases e : j = i
  · subst e; rw [hq] at hr; cases hr; exact hn
  · exact ha j r (by omega) hr
theorem GoodP.found {p g h : Nat} {fs : List Int} (G : GoodP p g fs) (h1 : 1 ≤ h) (h2 : h ≤ g) (ha : AllNe p h fs fs.length) : h = g := by
  refine Nat.le_antisymm h2 (Nat.not_lt.1 fun hc => ?_)
  obtain ⟨q, hq, hp⟩ := G.has h1 hc
  obtain ⟨j, hj⟩ := List.mem_iff_getElem?.1 hq
  exact ha j q ((List.getElem?_eq_some_iff.1 hj).1) hj hp
theorem GoodP.all {p g : Nat} {fs : List Int} (G : GoodP p g fs) (i : Nat) : AllNe p g fs i := fun _ _ _ hq => (G.ne (List.mem_of_getElem? hq)).2.2
theorem quo_int {a : Nat} {q : Int} (hq : 0 < q) : ((a : Nat) : Int).tdiv q = ((a / q.toNat : Nat) : Int) := by
  rw [Int.tdiv_eq_ediv_of_nonneg (by omega)]
  conv => lhs; rw [show q = ((q.toNat : Nat) : Int) by omega]
  omega
theorem GoodP.euclid {p g : Nat} {fs : List Int} (h : GoodP p g fs) {n : Nat} (h1 : 1 ≤ n) (h2 : n ≤ 1024) (h3 : (p - 1) % n = 0) : ∃ x, euF p 64 p (n % p) 0 1 = some (1, x) ∧ x % p = pw p n (p - 2) := by
  have := h.inv
  unfold invOK at this
  rw [List.all_eq_true] at this
  have h4 := this n (List.mem_range.2 (by omega))
  rw [Bool.or_eq_true, Bool.or_eq_true] at h4
  rcases h4 with (h4 | h4) | h4
  · have : n = 0 := by simpa using h4
    omega
  · rw [h3] at h4; cases h4
  · split at h4
    · next r x he =>
      rw [Bool.and_eq_true] at h4
      have hr : r = 1 := by simpa using h4.1
      subst hr
      have hh := h.hi
      exact ⟨x, he, by rw [← pm_eq p 32 n _ (by omega)]; simpa using h4.2⟩
    · cases h4
theorem lessN_lt {m a b : Nat} (ha : a < m) (hb : b < m) : lessN m a b < m := by
  unfold lessN; split <;> omega

set_option maxHeartbeats 1600000 in
theorem Prime_b {w0 w : World} {F : List Seg} (H : Hp w0 w F) {p g : Nat} {fs : List Int} (G : GoodP p g fs) : Ret Tryz.prog 61 [.int .i64 ((p : Nat) : Int)] w fun v w' => v = .bool true ∧ Hp w0 w' F := by
  refine Calls.of_J (n := 21) Tryz.func61 rfl rfl rfl ?_
  refine J.seq ?_
  have h1 := G.lo
  have h2 := G.hi
  refine J.region ?_
  refine JL.go trivial (RX.assign) ?_
  refine JL.nil ?_
  refine J.seq ?_
  refine J.seq ?_
  refine J.region ?_
  refine JL.go trivial (RX.movev (v := Value.int _ _) rfl) ?_
  refine JL.go trivial (RX.lt rfl rfl) ?_
  refine JL.go trivial (RX.movev (v := Value.bool _) rfl) ?_
  refine JL.go ⟨_, rfl, (decide_eq_false (by omega))⟩ (RX.movev (v := Value.int _ _) rfl) ?_
  refine JL.go ⟨_, rfl, (decide_eq_false (by omega))⟩ (RX.gt rfl rfl) ?_
  refine JL.go trivial (RX.pick_f rfl (decide_eq_false (by omega))) ?_
  refine JL.nil ?_
  refine J.cond_f rfl (decide_eq_false (by omega)) ?_
  refine J.skip ?_
  refine J.seq ?_
  refine J.seq ?_
  refine J.region ?_
  refine JL.go trivial (RX.assign) ?_
  refine JL.nil ?_
  refine J.block ?_
  refine J.loop (ι := Nat) (S := fun d => [(3, .int .i64 ((d : Nat) : Int))]) (Φ := fun d w => 2 ≤ d ∧ d ≤ 65536 ∧ Hp w0 w F) (μ := fun d => 65536 - d) (C := [(0, _)]) 2 ⟨rfl, trivial⟩ ⟨rfl, trivial⟩ ?_ ?_
  · exact ⟨by omega, by omega, H⟩
  clear H
  rintro d ρ w ⟨hd, hd2, H⟩ IH
  have hq : d * d ≤ 65536 * 65536 := Nat.mul_le_mul hd2 hd2
  refine J.seq ?_
  refine J.seq ?_
  refine J.region ?_
  refine JL.go trivial (RX.movev (v := Value.int _ _) rfl) ?_
  refine JL.go trivial (RX.movev (v := Value.int _ _) rfl) ?_
  refine JL.go trivial (RX.mul rfl rfl (wi (n := d * d) (by rw [Int.natCast_mul]) (by omega))) ?_
  refine JL.go trivial (RX.movev (v := Value.int _ _) rfl) ?_
  refine JL.go trivial (RX.le rfl rfl) ?_
  refine JL.nil ?_
  refine J.cond_d rfl (fun hle => ?_) (fun hle => ?_)
  · skip
    have hdd : d * d ≤ p := by omega
    have hd3 : d < 65536 := by
      refine Nat.lt_of_le_of_ne hd2 fun he => ?_
      subst he; omega
    have hm := G.pr d hd hdd
    refine J.skip ?_
    refine J.seq ?_
    refine J.block ?_
    refine J.seq ?_
    refine J.region ?_
    refine JL.go trivial (RX.movev (v := Value.int _ _) rfl) ?_
    refine JL.go trivial (RX.movev (v := Value.int _ _) rfl) ?_
    refine JL.go trivial (RX.rem rfl rfl (by omega) rem_nat) ?_
    refine JL.go trivial (RX.eq rfl rfl) ?_
    refine JL.nil ?_
    refine J.cond_f rfl (decide_eq_false (by omega)) ?_
    refine J.skip ?_
    refine J.inBlock ?_
    refine J.region ?_
    refine JL.go trivial (RX.movev (v := Value.int _ _) rfl) ?_
    refine JL.go trivial (RX.add rfl rfl (wi (n := d + 1) (by omega) (by omega))) ?_
    refine JL.go trivial (RX.assignv (v := Value.int _ _) rfl) ?_
    refine JL.nil ?_
    exact IH (d + 1) _ _ (by omega) ⟨rfl, trivial⟩ ⟨rfl, trivial⟩ ⟨by omega, by omega, H⟩
  · skip
    refine J.exit rfl ?_
    refine J.seq ?_
    refine J.region ?_
    refine JL.go trivial (RX.assign) ?_
    refine JL.nil ?_
    refine J.ret1 (v := Value.bool _) Tryz.func61 rfl rfl ?_
    exact ⟨_, rfl, rfl, H⟩
set_option maxHeartbeats 1600000 in
theorem Factors_b {w0 w : World} {F : List Seg} (H : Hp w0 w F) {n f0 : Nat} {n1 : Int} {out1 : List Int} (hn : 2 ≤ n) (hn2 : n ≤ 4294967296) (hf : f0 ≤ 70000) (ht : trialF f0 (n : Int) 2 [] = some (n1, out1)) : Ret Tryz.prog 62 [.int .i64 ((n : Nat) : Int)] w fun v w' => ∃ p c sl, v = .slice p (facL n1 out1).length c ∧ OwnSl 3 1 p (facL n1 out1).length c (intsV (facL n1 out1)) sl ∧ Hp w0 w' (sl :: F) := by
  refine Calls.of_J (n := 37) Tryz.func62 rfl rfl rfl ?_
  refine J.seq ?_
  have hn1 : ¬ ((n : Nat) : Int) < 2 := by omega
  refine J.region ?_
  refine JL.go trivial (RX.assign) ?_
  refine JL.nil ?_
  refine J.seq ?_
  refine J.region ?_
  refine JL.go trivial (RX.assign) ?_
  refine JL.nil ?_
  refine J.seq ?_
  refine J.seq ?_
  refine J.region ?_
  refine JL.go trivial (RX.movev (v := Value.int _ _) rfl) ?_
  refine JL.go trivial (RX.lt rfl rfl) ?_
  refine JL.go trivial (RX.movev (v := Value.bool _) rfl) ?_
  refine JL.go ⟨_, rfl, (decide_eq_false (by omega))⟩ (RX.movev (v := Value.int _ _) rfl) ?_
  refine JL.go ⟨_, rfl, (decide_eq_false (by omega))⟩ (RX.gt rfl rfl) ?_
  refine JL.go trivial (RX.pick_f rfl (decide_eq_false (by omega))) ?_
  refine JL.nil ?_
  refine J.cond_f rfl (decide_eq_false (by omega)) ?_
  refine J.skip ?_
  refine J.seq ?_
  refine J.seq ?_
  refine J.region ?_
  refine JL.go trivial (RX.assign) ?_
  refine JL.nil ?_
  refine J.block ?_
  refine J.loop (ι := Nat × Int × Nat × List Int × Option Addr × Nat × Seg) (S := fun z => [(0, .int .i64 z.2.1), (4, .int .i64 ((z.2.2.1 : Nat) : Int)), (3, .slice z.2.2.2.2.1 z.2.2.2.1.length z.2.2.2.2.2.1)]) (Φ := fun z w => trialF z.1 z.2.1 (z.2.2.1 : Int) z.2.2.2.1 = some (n1, out1) ∧ 0 ≤ z.2.1 ∧ z.2.1 ≤ 4294967296 ∧ 2 ≤ z.2.2.1 ∧ z.2.2.1 ≤ 65537 ∧ z.2.2.2.1.length + 64 * z.1 ≤ 64 * f0 ∧ OwnSl 3 1 z.2.2.2.2.1 z.2.2.2.1.length z.2.2.2.2.2.1 (intsV z.2.2.2.1) z.2.2.2.2.2.2 ∧ Hp w0 w (z.2.2.2.2.2.2 :: F)) (μ := fun z => z.1) (C := []) (f0, (n : Int), 2, [], none, 0, []) trivial ⟨rfl, rfl, rfl, trivial⟩ ?_ ?_
  · exact ⟨ht, by simp only; omega, by simp only; omega, by simp, by simp, by simp, OwnSl.nil, H.nil⟩
  clear H
  rintro ⟨fu, a, d, o, pp, c, sl⟩ ρ w ⟨ht, ha0, ha1, hd, hd2, hol, ho, H⟩ IH
  simp only at ht ha0 ha1 hd hd2 hol ho H
  have hq : d * d ≤ 65537 * 65537 := Nat.mul_le_mul hd2 hd2
  obtain ⟨fu, rfl⟩ : ∃ q, fu = q + 1 := by
    cases fu with
    | zero => cases ht
    | succ q => exact ⟨q, rfl⟩
  rw [trialF] at ht
  dsimp only
  refine J.seq ?_
  refine J.seq ?_
  refine J.region ?_
  refine JL.go trivial (RX.movev (v := Value.int _ _) rfl) ?_
  refine JL.go trivial (RX.movev (v := Value.int _ _) rfl) ?_
  refine JL.go trivial (RX.mul rfl rfl (wi (n := d * d) (by rw [Int.natCast_mul]) (by omega))) ?_
  refine JL.go trivial (RX.movev (v := Value.int _ _) rfl) ?_
  refine JL.go trivial (RX.le rfl rfl) ?_
  refine JL.nil ?_
  refine J.cond_d rfl (fun hle => ?_) (fun hle => ?_)
  · skip
    have hle2 : (d : Int) * (d : Int) ≤ a := by rw [← Int.natCast_mul]; exact hle
    rw [if_pos hle2] at ht
    have hd3 : d < 65537 := by
      refine Nat.lt_of_le_of_ne hd2 fun he => ?_
      subst he; omega
    obtain ⟨a2, o2, hs2, ht2⟩ : ∃ a2 o2, stripF 64 a (d : Int) o = some (a2, o2) ∧ trialF fu a2 ((d : Int) + 1) o2 = some (n1, out1) := by
      split at ht
      · next x y he => exact ⟨x, y, he, ht⟩
      · cases ht
    refine J.skip ?_
    refine J.seq ?_
    refine J.block ?_
    refine J.block ?_
    refine J.loop (ι := Nat × Int × List Int × Option Addr × Nat × Seg) (S := fun z => [(0, .int .i64 z.2.1), (3, .slice z.2.2.2.1 z.2.2.1.length z.2.2.2.2.1)]) (Φ := fun z w => stripF z.1 z.2.1 (d : Int) z.2.2.1 = some (a2, o2) ∧ 0 ≤ z.2.1 ∧ z.2.1 ≤ 4294967296 ∧ z.2.2.1.length + z.1 ≤ o.length + 64 ∧ OwnSl 3 1 z.2.2.2.1 z.2.2.1.length z.2.2.2.2.1 (intsV z.2.2.1) z.2.2.2.2.2 ∧ Hp w0 w (z.2.2.2.2.2 :: F)) (μ := fun z => z.1) (C := [(4, _)]) (64, a, o, pp, c, sl) ⟨rfl, trivial⟩ ⟨rfl, rfl, trivial⟩ ?_ ?_
    · exact ⟨hs2, ha0, ha1, by simp, ho, H⟩
    clear H ho hs2
    rintro ⟨k, b, o3, pp, c, sl⟩ ρ w ⟨hs2, hb0, hb1, hol3, ho, H⟩ IH2
    simp only at hs2 hb0 hb1 hol3 ho H
    obtain ⟨k, rfl⟩ : ∃ q, k = q + 1 := by
      cases k with
      | zero => cases hs2
      | succ q => exact ⟨q, rfl⟩
    rw [stripF] at hs2
    dsimp only
    refine J.seq ?_
    refine J.seq ?_
    refine J.region ?_
    refine JL.go trivial (RX.movev (v := Value.int _ _) rfl) ?_
    refine JL.go trivial (RX.movev (v := Value.int _ _) rfl) ?_
    refine JL.go trivial (RX.rem rfl rfl (by omega) rfl) ?_
    refine JL.go trivial (RX.eq rfl rfl) ?_
    refine JL.nil ?_
    refine J.cond_d rfl (fun hz => ?_) (fun hz => ?_)
    · skip
      rw [if_pos hz] at hs2
      have hbd : b.tdiv (d : Int) ≤ b := by rw [Int.tdiv_eq_ediv_of_nonneg hb0]; exact Int.ediv_le_self _ hb0
      have hbd0 : 0 ≤ b.tdiv (d : Int) := Int.tdiv_nonneg hb0 (by omega)
      refine J.skip ?_
      refine J.block ?_
      refine J.seq ?_
      refine J.region ?_
      refine JL.go trivial (RX.movev (v := Value.slice _ _ _) rfl) ?_
      refine JL.go trivial (RX.movev (v := Value.int _ _) rfl) ?_
      refine JL.does trivial (EX.buildSlice1 H elI rfl rfl) ?_
      rintro _ w ⟨bz, rfl, H⟩
      refine JL.does trivial (EX.append (ys := [.int .i64 (d : Int)]) (L' := fun s' => [(bz, cel [.int .i64 (d : Int)] 3)] :: s' :: F) H elI rfl rfl (i := 1) rfl ho (SlAt.here rfl) rfl (intsV_cell [(d : Int)]) (by decide) (by omega) (by omega) (fun _ => rfl)) ?_
      rintro _ w ⟨p3, c3, s3, rfl, ho3, H⟩
      replace ho3 : OwnSl 3 1 p3 (o3 ++ [(d : Int)]).length c3 (intsV (o3 ++ [(d : Int)])) s3 := by rw [List.length_append, intsV_app]; exact ho3
      refine JL.go trivial (RX.assignv (v := Value.slice _ _ _) rfl) ?_
      refine JL.nil ?_
      refine J.region ?_
      refine JL.go trivial (RX.movev (v := Value.int _ _) rfl) ?_
      refine JL.go trivial (RX.movev (v := Value.int _ _) rfl) ?_
      refine JL.go trivial (RX.quo rfl rfl (by omega) (w_i64 rfl (by omega) (by omega))) ?_
      refine JL.go trivial (RX.assignv (v := Value.int _ _) rfl) ?_
      refine JL.nil ?_
      refine J.inBlock ?_
      refine IH2 (k, b.tdiv (d : Int), o3 ++ [(d : Int)], p3, c3, s3) _ _ (by simp only; omega) ⟨rfl, trivial⟩ ⟨rfl, by simp only [List.length_append]; rfl, trivial⟩ ⟨hs2, hbd0, by simp only; omega, by simp only [List.length_append, List.length_cons, List.length_nil]; omega, ho3, H.drop⟩
    · skip
      rw [if_neg hz] at hs2
      obtain ⟨rfl, rfl⟩ : b = a2 ∧ o3 = o2 := by simpa using hs2
      refine J.exit rfl ?_
      refine J.inBlock ?_
      refine J.region ?_
      refine JL.go trivial (RX.movev (v := Value.int _ _) rfl) ?_
      refine JL.go trivial (RX.add rfl rfl (wi (n := d + 1) (by omega) (by omega))) ?_
      refine JL.go trivial (RX.assignv (v := Value.int _ _) rfl) ?_
      refine JL.nil ?_
      exact IH (fu, b, d + 1, o3, pp, c, sl) _ _ (by simp only; omega) trivial ⟨rfl, rfl, rfl, trivial⟩ ⟨by simp only; rw [show ((d + 1 : Nat) : Int) = (d : Int) + 1 by omega]; exact ht2, hb0, hb1, by simp only; omega, by simp only; omega, by simp only; omega, ho, H⟩
  · skip
    have hle2 : ¬ (d : Int) * (d : Int) ≤ a := by rw [← Int.natCast_mul]; exact hle
    rw [if_neg hle2] at ht
    obtain ⟨rfl, rfl⟩ : a = n1 ∧ o = out1 := by simpa using ht
    refine J.exit rfl ?_
    refine J.seq ?_
    refine J.seq ?_
    refine J.region ?_
    refine JL.go trivial (RX.movev (v := Value.int _ _) rfl) ?_
    refine JL.go trivial (RX.gt rfl rfl) ?_
    refine JL.nil ?_
    refine J.cond_d rfl (fun h1 => ?_) (fun h1 => ?_)
    · skip
      refine J.region ?_
      refine JL.go trivial (RX.movev (v := Value.slice _ _ _) rfl) ?_
      refine JL.go trivial (RX.movev (v := Value.int _ _) rfl) ?_
      refine JL.does trivial (EX.buildSlice1 H elI rfl rfl) ?_
      rintro _ w ⟨bz, rfl, H⟩
      refine JL.does trivial (EX.append (ys := [.int .i64 a]) (L' := fun s' => [(bz, cel [.int .i64 a] 3)] :: s' :: F) H elI rfl rfl (i := 1) rfl ho (SlAt.here rfl) rfl (intsV_cell [a]) (by decide) (by omega) (by omega) (fun _ => rfl)) ?_
      rintro _ w ⟨p3, c3, s3, rfl, ho3, H⟩
      refine JL.go trivial (RX.assignv (v := Value.slice _ _ _) rfl) ?_
      refine JL.nil ?_
      refine J.seq ?_
      refine J.region ?_
      refine JL.go trivial (RX.movev (v := Value.slice _ _ _) rfl) ?_
      refine JL.go trivial (RX.assignv (v := Value.slice _ _ _) rfl) ?_
      refine JL.nil ?_
      refine J.ret1 (v := Value.slice _ _ _) Tryz.func62 rfl rfl ?_
      rw [facL, if_pos h1]
      exact ⟨_, rfl, p3, c3, s3, by rw [List.length_append]; rfl, by rw [List.length_append, intsV_app]; exact ho3, H.drop⟩
    · skip
      refine J.skip ?_
      refine J.seq ?_
      refine J.region ?_
      refine JL.go trivial (RX.movev (v := Value.slice _ _ _) rfl) ?_
      refine JL.go trivial (RX.assignv (v := Value.slice _ _ _) rfl) ?_
      refine JL.nil ?_
      refine J.ret1 (v := Value.slice _ _ _) Tryz.func62 rfl rfl ?_
      rw [facL, if_neg h1]
      exact ⟨_, rfl, pp, c, sl, rfl, ho, H⟩
set_option maxHeartbeats 1600000 in
theorem less_b {w0 w : World} {F : List Seg} (H : Hp w0 w F) {a b m : Nat} (ha : a < m) (hb : b < m) (hm : m < 4294967296) : Ret Tryz.prog 48 [.int .u64 ((a : Nat) : Int), .int .u64 ((b : Nat) : Int), .int .u64 ((m : Nat) : Int)] w fun v w' => v = .int .u64 ((lessN m a b : Nat) : Int) ∧ Hp w0 w' F := by
  refine Calls.of_J (n := 18) Tryz.func48 rfl rfl rfl ?_
  refine J.seq ?_
  refine J.region ?_
  refine JL.go trivial (RX.assign) ?_
  refine JL.nil ?_
  refine J.seq ?_
  refine J.seq ?_
  refine J.region ?_
  refine JL.go trivial (RX.movev (v := Value.int _ _) rfl) ?_
  refine JL.go trivial (RX.movev (v := Value.int _ _) rfl) ?_
  refine JL.go trivial (RX.ge rfl rfl) ?_
  refine JL.nil ?_
  refine J.cond_d rfl (fun hge => ?_) (fun hge => ?_)
  · skip
    refine J.seq ?_
    refine J.region ?_
    refine JL.go trivial (RX.movev (v := Value.int _ _) rfl) ?_
    refine JL.go trivial (RX.movev (v := Value.int _ _) rfl) ?_
    refine JL.go trivial (RX.sub rfl rfl (wn (n := a - b) (by omega) (by omega))) ?_
    refine JL.go trivial (RX.assignv (v := Value.int _ _) rfl) ?_
    refine JL.nil ?_
    refine J.ret1 (v := Value.int _ _) Tryz.func48 rfl rfl ?_
    exact ⟨_, rfl, by rw [lessN, if_pos (by omega)], H⟩
  · skip
    refine J.skip ?_
    refine J.seq ?_
    refine J.region ?_
    refine JL.go trivial (RX.movev (v := Value.int _ _) rfl) ?_
    refine JL.go trivial (RX.movev (v := Value.int _ _) rfl) ?_
    refine JL.go trivial (RX.movev (v := Value.int _ _) rfl) ?_
    refine JL.go trivial (RX.sub rfl rfl (wn (n := b - a) (by omega) (by omega))) ?_
    refine JL.go trivial (RX.sub rfl rfl (wn (n := m - (b - a)) (by omega) (by omega))) ?_
    refine JL.go trivial (RX.assignv (v := Value.int _ _) rfl) ?_
    refine JL.nil ?_
    refine J.ret1 (v := Value.int _ _) Tryz.func48 rfl rfl ?_
    exact ⟨_, rfl, by rw [lessN, if_neg (by omega)], H⟩
set_option maxHeartbeats 1600000 in
theorem Inverse_b {w0 w : World} {F : List Seg} (H : Hp w0 w F) {n m X : Nat} (hn : n < 18446744073709551616) (hm : 1 < m) (hm2 : m < 4294967296) (he : euF m 64 m (n % m) 0 1 = some (1, X)) : Ret Tryz.prog 30 [.int .u64 ((n : Nat) : Int), .int .u64 ((m : Nat) : Int)] w fun v w' => v = .tuple #[.int .u64 ((X % m : Nat) : Int), .nilIface] ∧ Hp w0 w' F := by
  refine Calls.of_J (n := 43) Tryz.func30 rfl rfl rfl ?_
  refine J.seq ?_
  refine J.region ?_
  refine JL.go trivial (RX.assign) ?_
  refine JL.go trivial (RX.assign) ?_
  refine JL.nil ?_
  refine J.seq ?_
  refine J.seq ?_
  refine J.region ?_
  refine JL.go trivial (RX.movev (v := Value.int _ _) rfl) ?_
  refine JL.go trivial (RX.eq rfl rfl) ?_
  refine JL.nil ?_
  refine J.cond_f rfl (decide_eq_false (by omega)) ?_
  refine J.skip ?_
  refine J.seq ?_
  have hnm := Nat.mod_lt n (show 0 < m by omega)
  refine J.quietH H hmix (by kernel_rfl) ?_
  refine JQ.go trivial (fun w H => RX.movev (v := Value.int _ _) rfl) ?_
  refine JQ.go trivial (fun w H => RX.movev (v := Value.int _ _) rfl) ?_
  refine JQ.go trivial (fun w H => RX.movev (v := Value.int _ _) rfl) ?_
  refine JQ.go trivial (fun w H => RX.rem rfl rfl (by omega) rem_nat) ?_
  refine JQ.go trivial (fun w H => RX.assignv (v := Value.int _ _) rfl) ?_
  refine JQ.go trivial (fun w H => RX.assignv (v := Value.int _ _) rfl) ?_
  refine JQ.nil fun w H => ?_
  refine J.seq ?_
  refine J.quietH H hmix (by kernel_rfl) ?_
  refine JQ.go trivial (fun w H => RX.movev (v := Value.int _ _) rfl) ?_
  refine JQ.go trivial (fun w H => RX.rem rfl rfl (by omega) (r := ((1 : Nat) : Int)) (by rw [show (1 : Int) = ((1 : Nat) : Int) from rfl, rem_nat, Nat.mod_eq_of_lt hm])) ?_
  refine JQ.go trivial (fun w H => RX.assign) ?_
  refine JQ.go trivial (fun w H => RX.assignv (v := Value.int _ _) rfl) ?_
  refine JQ.nil fun w H => ?_
  refine J.seq ?_
  refine J.block ?_
  refine J.loop (ι := Nat × Nat × Nat × Nat × Nat) (S := fun z => [(6, .int .u64 ((z.2.1 : Nat) : Int)), (7, .int .u64 ((z.2.2.1 : Nat) : Int)), (8, .int .u64 ((z.2.2.2.1 : Nat) : Int)), (9, .int .u64 ((z.2.2.2.2 : Nat) : Int))]) (Φ := fun z w => euF m z.1 z.2.1 z.2.2.1 z.2.2.2.1 z.2.2.2.2 = some (1, X) ∧ z.2.1 ≤ m ∧ z.2.2.1 ≤ m ∧ z.2.2.2.1 < m ∧ z.2.2.2.2 < m ∧ Hp w0 w F) (μ := fun z => z.1) (C := [(1, _)]) (64, m, n % m, 0, 1) ⟨rfl, trivial⟩ ⟨rfl, rfl, rfl, rfl, trivial⟩ ?_ ?_
  · exact ⟨he, by simp, by simp only; omega, by simp only; omega, by simp only; omega, H⟩
  clear H he
  rintro ⟨k, r, s, x, y⟩ ρ w ⟨he, hr, hs, hx, hy, H⟩ IH
  simp only at he hr hs hx hy H
  obtain ⟨k, rfl⟩ : ∃ q, k = q + 1 := by
    cases k with
    | zero => cases he
    | succ q => exact ⟨q, rfl⟩
  rw [euF] at he
  dsimp only
  refine J.seq ?_
  refine J.seq ?_
  refine J.region ?_
  refine JL.go trivial (RX.movev (v := Value.int _ _) rfl) ?_
  refine JL.go trivial (RX.ne rfl rfl) ?_
  refine JL.nil ?_
  refine J.cond_d rfl (fun hs0 => ?_) (fun hs0 => ?_)
  · skip
    have hs1 : ¬ s = 0 := by omega
    rw [if_neg hs1] at he
    have hq : r / s ≤ r := Nat.div_le_self _ _
    have hrs := Nat.mod_lt r (show 0 < s by omega)
    have hM := Nat.mod_lt (r / s * y) (show 0 < m by omega)
    have hL := lessN_lt hx hM
    refine J.skip ?_
    refine J.block ?_
    refine J.seq ?_
    refine J.region ?_
    refine JL.go trivial (RX.movev (v := Value.int _ _) rfl) ?_
    refine JL.go trivial (RX.movev (v := Value.int _ _) rfl) ?_
    refine JL.go trivial (RX.quo rfl rfl (by omega) (r := ((r / s : Nat) : Int)) (by rw [quo_nat]; exact wn rfl (by omega))) ?_
    refine JL.go trivial (RX.assignv (v := Value.int _ _) rfl) ?_
    refine JL.nil ?_
    refine J.seq ?_
    refine J.quietH H hmix (by kernel_rfl) ?_
    refine JQ.go trivial (fun w H => RX.movev (v := Value.int _ _) rfl) ?_
    refine JQ.go trivial (fun w H => RX.movev (v := Value.int _ _) rfl) ?_
    refine JQ.go trivial (fun w H => RX.movev (v := Value.int _ _) rfl) ?_
    refine JQ.go trivial (fun w H => RX.rem rfl rfl (by omega) rem_nat) ?_
    refine JQ.go trivial (fun w H => RX.assignv (v := Value.int _ _) rfl) ?_
    refine JQ.go trivial (fun w H => RX.assignv (v := Value.int _ _) rfl) ?_
    refine JQ.nil fun w H => ?_
    refine J.region ?_
    refine JL.go trivial (RX.movev (v := Value.int _ _) rfl) ?_
    refine JL.go trivial (RX.movev (v := Value.int _ _) rfl) ?_
    refine JL.go trivial (RX.movev (v := Value.int _ _) rfl) ?_
    refine JL.go trivial (RX.movev (v := Value.int _ _) rfl) ?_
    refine JL.go trivial (RX.movev (v := Value.int _ _) rfl) ?_
    refine JL.does trivial (EX.call rfl cl29 rfl ((Mul_b H (by omega) (by omega) (by omega) hm2))) ?_
    rintro _ w ⟨rfl, H⟩
    refine JL.go trivial (RX.movev (v := Value.int _ _) rfl) ?_
    refine JL.does trivial (EX.call rfl cl48 rfl ((less_b H hx hM hm2))) ?_
    rintro _ w ⟨rfl, H⟩
    refine JL.go trivial (RX.assignv (v := Value.int _ _) rfl) ?_
    refine JL.go trivial (RX.assignv (v := Value.int _ _) rfl) ?_
    refine JL.nil ?_
    refine J.inBlock ?_
    exact IH (k, s, r % s, y, lessN m x (r / s * y % m)) _ _ (by simp only; omega) ⟨rfl, trivial⟩ ⟨rfl, rfl, rfl, rfl, trivial⟩ ⟨he, by simp only; omega, by simp only; omega, hy, hL, H⟩
  · skip
    have hs1 : s = 0 := by omega
    rw [if_pos hs1] at he
    obtain ⟨rfl, rfl⟩ : r = 1 ∧ x = X := by simpa using he
    refine J.exit rfl ?_
    refine J.seq ?_
    refine J.seq ?_
    refine J.region ?_
    refine JL.go trivial (RX.movev (v := Value.int _ _) rfl) ?_
    refine JL.go trivial (RX.ne rfl rfl) ?_
    refine JL.nil ?_
    refine J.cond_f rfl (decide_eq_false (fun h => h rfl)) ?_
    refine J.skip ?_
    refine J.seq ?_
    refine J.region ?_
    refine JL.go trivial (RX.movev (v := Value.int _ _) rfl) ?_
    refine JL.go trivial (RX.movev (v := Value.int _ _) rfl) ?_
    refine JL.go trivial (RX.rem rfl rfl (by omega) rem_nat) ?_
    refine JL.go trivial (RX.assignv (v := Value.int _ _) rfl) ?_
    refine JL.go trivial (RX.assign) ?_
    refine JL.nil ?_
    refine J.ret2 (v := Value.int _ _) Tryz.func30 rfl rfl rfl ?_
    exact ⟨_, rfl, rfl, H⟩
def u64sV (l : List Nat) : List Value := l.map fun x : Nat => Value.int .u64 ((x : Nat) : Int)
theorem u64sV_len (l : List Nat) : (u64sV l).length = l.length := by simp [u64sV]
theorem u64sV_get {l : List Nat} {i : Nat} {k : Nat} (h : l[i]? = some k) : (u64sV l)[i]? = some (.int .u64 (k : Int)) := by simp [u64sV, h]
theorem u64sV_app (a b : List Nat) : u64sV (a ++ b) = u64sV a ++ u64sV b := by simp [u64sV]
theorem u64sV_cell (l : List Nat) : ∀ v ∈ u64sV l, isCell v = true := by
  intro v hv; obtain ⟨b, _, rfl⟩ := List.mem_map.1 hv; rfl
theorem u64sV_set (l : List Nat) (i x : Nat) : u64sV (l.set i x) = (u64sV l).set i (.int .u64 (x : Int)) := by simp [u64sV, List.map_set]
theorem elU : Elem Tryz.prog 33 37 1 8 := Elem.of (by kernel_rfl)

set_option maxHeartbeats 1600000 in
theorem Root_b {w0 w : World} {F : List Seg} (H : Hp w0 w F) {p g : Nat} {fs : List Int} (G : GoodP p g fs) : Ret Tryz.prog 44 [.int .i64 ((p : Nat) : Int)] w fun v w' => v = .tuple #[.int .i64 ((g : Nat) : Int), .nilIface] ∧ Hp w0 w' F := by
  refine Calls.of_J (n := 38) Tryz.func44 rfl rfl rfl ?_
  refine J.seq ?_
  have hlo := G.lo
  have hhi := G.hi
  have hg1 := G.gpos
  obtain ⟨hg2, hfl⟩ := G.small
  obtain ⟨n1, o1, hft, hfe⟩ := G.factors
  refine J.region ?_
  refine JL.go trivial (RX.assign) ?_
  refine JL.go trivial (RX.assign) ?_
  refine JL.nil ?_
  refine J.scope ?_
  refine J.seq ?_
  refine J.seq ?_
  refine J.region ?_
  refine JL.go trivial (RX.movev (v := Value.int _ _) rfl) ?_
  refine JL.does trivial (EX.call rfl cl61 rfl ((Prime_b H G))) ?_
  rintro _ w ⟨rfl, H⟩
  refine JL.go trivial (RX.not rfl) ?_
  refine JL.nil ?_
  refine J.cond_f rfl rfl ?_
  refine J.skip ?_
  refine J.seq ?_
  refine J.region ?_
  refine JL.go trivial (RX.movev (v := Value.int _ _) rfl) ?_
  refine JL.go trivial (RX.sub rfl rfl (wi (n := p - 1) (by omega) (by omega))) ?_
  refine JL.does trivial (EX.call rfl cl62 rfl ((Factors_b H (n := p - 1) (by omega) (by omega) (by decide) hft))) ?_
  rintro _ w ⟨pp, c, sl, rfl, ho, H⟩
  simp only [hfe] at ho H ⊢
  have hs : SlAt (sl :: F) pp (intsV fs) := ho.slAt
  refine JL.go trivial (RX.assignv (v := Value.slice _ _ _) rfl) ?_
  refine JL.nil ?_
  refine J.seq ?_
  refine J.region ?_
  refine JL.go trivial (RX.movev (v := Value.int _ _) rfl) ?_
  refine JL.go trivial (RX.conv rfl (by rw [ki3]; rfl) ki37 (wn (n := p) rfl (by omega))) ?_
  refine JL.go trivial (RX.assignv (v := Value.int _ _) rfl) ?_
  refine JL.nil ?_
  refine J.seq ?_
  refine J.label ?_
  refine J.seq ?_
  refine J.region ?_
  refine JL.go trivial (RX.assign) ?_
  refine JL.nil ?_
  refine J.block ?_
  refine J.loop (ι := Nat) (S := fun h => [(6, .int .u64 ((h : Nat) : Int))]) (Φ := fun h w => 1 ≤ h ∧ h ≤ g ∧ Hp w0 w (sl :: F)) (μ := fun h => g + 1 - h) (C := [(4, _), (5, _)]) 1 ⟨rfl, rfl, trivial⟩ ⟨rfl, trivial⟩ ?_ ?_
  · exact ⟨by omega, hg1, H⟩
  clear H
  rintro h ρ w ⟨hh1, hh2, H⟩ IH
  refine J.seq ?_
  refine J.block ?_
  refine J.seq ?_
  refine J.seq ?_
  refine J.region ?_
  refine JL.go trivial (RX.movev (v := Value.slice _ _ _) rfl) ?_
  refine JL.go trivial (RX.len_slice rfl (by rw [sl84]; rfl) rfl) ?_
  refine JL.go trivial (RX.move) ?_
  refine JL.nil ?_
  refine J.block ?_
  refine J.loop (ι := Nat) (S := fun i => [(22, .int .i64 ((i : Nat) : Int))]) (Φ := fun i w => i ≤ fs.length ∧ AllNe p h fs i ∧ Hp w0 w (sl :: F)) (μ := fun i => fs.length - i) (C := [(4, _), (5, _), (6, _), (20, _), (21, _)]) 0 ⟨rfl, rfl, rfl, rfl, rfl, trivial⟩ ⟨rfl, trivial⟩ ?_ ?_
  · exact ⟨by omega, fun j _ hj => absurd hj (by omega), H⟩
  clear H
  rintro i ρ w ⟨hi, ha, H⟩ IH2
  refine J.seq ?_
  refine J.region ?_
  refine JL.go trivial (RX.lt rfl rfl) ?_
  refine JL.nil ?_
  refine J.seq ?_
  refine J.cond_d rfl (fun hlt => ?_) (fun hlt => ?_)
  · skip
    obtain ⟨q, hx⟩ : ∃ q, fs[i]? = some q := ⟨_, List.getElem?_eq_getElem (by omega)⟩
    obtain ⟨hq0, hq1, _⟩ := G.ne (List.mem_of_getElem? hx)
    obtain ⟨pb, po, rfl, hpp⟩ := hs.some (by rw [intsV_len]; omega)
    have hdq : (p - 1) / q.toNat ≤ p - 1 := Nat.div_le_self _ _
    refine J.skip ?_
    refine J.seq ?_
    refine J.block ?_
    refine J.seq ?_
    refine J.region ?_
    refine JL.go trivial (RX.indexAddr rfl rfl sl84 (by omega) (by omega) (o' := po + i) (by omega)) ?_
    refine JL.go trivial (RX.loadS H hs rfl (j := i) rfl (intsV_get hx) one3) ?_
    refine JL.go trivial (RX.assignv (v := Value.int _ _) rfl) ?_
    refine JL.nil ?_
    refine J.seq ?_
    refine J.region ?_
    refine JL.go trivial (RX.movev (v := Value.int _ _) rfl) ?_
    refine JL.go trivial (RX.movev (v := Value.int _ _) rfl) ?_
    refine JL.go trivial (RX.sub rfl rfl (wn (n := p - 1) (by omega) (by omega))) ?_
    refine JL.go trivial (RX.movev (v := Value.int _ _) rfl) ?_
    refine JL.go trivial (RX.conv rfl (by rw [ki3]; rfl) ki37 (wn (n := q.toNat) (by omega) (by omega))) ?_
    refine JL.go trivial (RX.quo rfl rfl (by omega) (r := (((p - 1) / q.toNat : Nat) : Int)) (by rw [quo_nat]; exact wn rfl (by omega))) ?_
    refine JL.go trivial (RX.movev (v := Value.int _ _) rfl) ?_
    refine JL.does trivial (EX.call rfl cl45 rfl ((Pow_b H (by omega) (by omega) (by omega) hhi))) ?_
    rintro _ w ⟨rfl, H⟩
    refine JL.go trivial (RX.eq rfl rfl) ?_
    refine JL.nil ?_
    refine J.cond_d rfl (fun heq => ?_) (fun heq => ?_)
    · skip
      have hlt2 : h < g := by
        refine Nat.lt_of_le_of_ne hh2 fun he => ?_
        subst he
        exact G.all (i + 1) i q (by omega) hx (by omega)
      refine J.exit rfl ?_
      refine J.region ?_
      refine JL.go trivial (RX.movev (v := Value.int _ _) rfl) ?_
      refine JL.go trivial (RX.add rfl rfl (wn (n := h + 1) (by omega) (by omega))) ?_
      refine JL.go trivial (RX.assignv (v := Value.int _ _) rfl) ?_
      refine JL.nil ?_
      exact IH (h + 1) _ _ (by omega) ⟨rfl, rfl, trivial⟩ ⟨rfl, trivial⟩ ⟨by omega, by omega, H⟩
    · skip
      have hne : pw p h ((p - 1) / q.toNat) ≠ 1 := by omega
      refine J.skip ?_
      refine J.inBlock ?_
      refine J.region ?_
      refine JL.go trivial (RX.add rfl rfl (wi (n := i + 1) (by omega) (by omega))) ?_
      refine JL.go trivial (RX.movev (v := Value.int _ _) rfl) ?_
      refine JL.nil ?_
      exact IH2 (i + 1) _ _ (by omega) ⟨rfl, rfl, rfl, rfl, rfl, trivial⟩ ⟨rfl, trivial⟩ ⟨by omega, ha.step hx hne, H⟩
  · skip
    have hie : i = fs.length := by omega
    subst hie
    obtain rfl := G.found hh1 hh2 ha
    refine J.exit rfl ?_
    refine J.seq ?_
    refine J.region ?_
    refine JL.go trivial (RX.movev (v := Value.int _ _) rfl) ?_
    refine JL.go trivial (RX.conv rfl (by rw [ki37]; rfl) ki3 (wi rfl (by omega))) ?_
    refine JL.go trivial (RX.assignv (v := Value.int _ _) rfl) ?_
    refine JL.go trivial (RX.assign) ?_
    refine JL.nil ?_
    refine J.ret2 (v := Value.int _ _) Tryz.func44 rfl rfl rfl ?_
    exact ⟨_, rfl, rfl, H.drop⟩
set_option maxHeartbeats 1600000 in
theorem root_b {w0 w : World} {F : List Seg} (H : Hp w0 w F) {p g : Nat} {fs : List Int} (G : GoodP p g fs) {n : Nat} (h1 : 1 ≤ n) (h2 : n ≤ 1024) (hd : (p - 1) % n = 0) : Ret Tryz.prog 27 [.int .i64 ((n : Nat) : Int), .int .u64 ((p : Nat) : Int)] w fun v w' => v = .tuple #[.int .u64 ((pw p g ((p - 1) / n) : Nat) : Int), .nilIface] ∧ Hp w0 w' F := by
  refine Calls.of_J (n := 33) Tryz.func27 rfl rfl rfl ?_
  refine J.seq ?_
  have hlo := G.lo
  have hhi := G.hi
  have hg1 := G.gpos
  obtain ⟨hg2, hfl⟩ := G.small
  have hdn : (p - 1) / n ≤ p - 1 := Nat.div_le_self _ _
  refine J.region ?_
  refine JL.go trivial (RX.assign) ?_
  refine JL.go trivial (RX.assign) ?_
  refine JL.nil ?_
  refine J.seq ?_
  refine J.seq ?_
  refine J.region ?_
  refine JL.go trivial (RX.movev (v := Value.int _ _) rfl) ?_
  refine JL.go trivial (RX.sub rfl rfl (wn (n := p - 1) (by omega) (by omega))) ?_
  refine JL.go trivial (RX.movev (v := Value.int _ _) rfl) ?_
  refine JL.go trivial (RX.conv rfl (by rw [ki3]; rfl) ki37 (wn rfl (by omega))) ?_
  refine JL.go trivial (RX.rem rfl rfl (by omega) rem_nat) ?_
  refine JL.go trivial (RX.ne rfl rfl) ?_
  refine JL.nil ?_
  refine J.cond_f rfl (decide_eq_false (by omega)) ?_
  refine J.skip ?_
  refine J.seq ?_
  refine J.region ?_
  refine JL.go trivial (RX.movev (v := Value.int _ _) rfl) ?_
  refine JL.go trivial (RX.conv rfl (by rw [ki37]; rfl) ki3 (wi rfl (by omega))) ?_
  refine JL.does trivial (EX.call rfl cl44 rfl ((Root_b H G))) ?_
  rintro _ w ⟨rfl, H⟩
  refine JL.go trivial (RX.movev (v := Value.tuple _) rfl) ?_
  refine JL.go trivial (RX.extract rfl rfl) ?_
  refine JL.go trivial (RX.extract rfl rfl) ?_
  refine JL.go trivial (RX.assignv (v := Value.int _ _) rfl) ?_
  refine JL.go trivial (RX.assign) ?_
  refine JL.nil ?_
  refine J.seq ?_
  refine J.seq ?_
  refine J.region ?_
  refine JL.go trivial (RX.move) ?_
  refine JL.go trivial (RX.ifnil_neq rfl rfl rfl if25) ?_
  refine JL.nil ?_
  refine J.cond_f rfl rfl ?_
  refine J.skip ?_
  refine J.seq ?_
  refine J.region ?_
  refine JL.go trivial (RX.movev (v := Value.int _ _) rfl) ?_
  refine JL.go trivial (RX.conv rfl (by rw [ki3]; rfl) ki37 (wn rfl (by omega))) ?_
  refine JL.go trivial (RX.movev (v := Value.int _ _) rfl) ?_
  refine JL.go trivial (RX.sub rfl rfl (wn (n := p - 1) (by omega) (by omega))) ?_
  refine JL.go trivial (RX.movev (v := Value.int _ _) rfl) ?_
  refine JL.go trivial (RX.conv rfl (by rw [ki3]; rfl) ki37 (wn rfl (by omega))) ?_
  refine JL.go trivial (RX.quo rfl rfl (by omega) (r := (((p - 1) / n : Nat) : Int)) (by rw [quo_nat]; exact wn rfl (by omega))) ?_
  refine JL.go trivial (RX.movev (v := Value.int _ _) rfl) ?_
  refine JL.does trivial (EX.call rfl cl45 rfl ((Pow_b H (by omega) (by omega) (by omega) hhi))) ?_
  rintro _ w ⟨rfl, H⟩
  refine JL.go trivial (RX.assignv (v := Value.int _ _) rfl) ?_
  refine JL.go trivial (RX.assign) ?_
  refine JL.nil ?_
  refine J.ret2 (v := Value.int _ _) Tryz.func27 rfl rfl rfl ?_
  exact ⟨_, rfl, rfl, H⟩
set_option maxHeartbeats 1600000 in
theorem root_e {w0 w : World} {F : List Seg} (H : Hp w0 w F) {E : Nat → Value} {Q : Nat → Addr} (hE : Errs F E Q) {p g : Nat} {fs : List Int} (G : GoodP p g fs) {n : Nat} (h1 : 1 ≤ n) (h2 : n ≤ 1024) (hd : (p - 1) % n ≠ 0) : Ret Tryz.prog 27 [.int .i64 ((n : Nat) : Int), .int .u64 ((p : Nat) : Int)] w fun v w' => v = .tuple #[.int .u64 0, E 11] ∧ Hp w0 w' F := by
  refine Calls.of_J (n := 33) Tryz.func27 rfl rfl rfl ?_
  refine J.seq ?_
  have hlo := G.lo
  have hhi := G.hi
  have hg1 := G.gpos
  obtain ⟨hg2, hfl⟩ := G.small
  refine J.region ?_
  refine JL.go trivial (RX.assign) ?_
  refine JL.go trivial (RX.assign) ?_
  refine JL.nil ?_
  refine J.seq ?_
  refine J.seq ?_
  refine J.region ?_
  refine JL.go trivial (RX.movev (v := Value.int _ _) rfl) ?_
  refine JL.go trivial (RX.sub rfl rfl (wn (n := p - 1) (by omega) (by omega))) ?_
  refine JL.go trivial (RX.movev (v := Value.int _ _) rfl) ?_
  refine JL.go trivial (RX.conv rfl (by rw [ki3]; rfl) ki37 (wn rfl (by omega))) ?_
  refine JL.go trivial (RX.rem rfl rfl (by omega) rem_nat) ?_
  refine JL.go trivial (RX.ne rfl rfl) ?_
  refine JL.nil ?_
  refine J.cond_t rfl (decide_eq_true (by omega)) ?_
  refine J.seq ?_
  refine J.quietH H hmix (by kernel_rfl) ?_
  refine JQ.go trivial (fun w H => RX.loadG H rfl (hE.at_ 11 (by decide) (by decide)).at_ one25) ?_
  refine JQ.go trivial (fun w H => RX.assign) ?_
  refine JQ.go trivial (fun w H => RX.assignv (v := E 11) rfl) ?_
  refine JQ.nil fun w H => ?_
  refine J.ret2 (v := Value.int _ _) Tryz.func27 rfl rfl rfl ?_
  exact ⟨_, rfl, rfl, H⟩
set_option maxHeartbeats 1600000 in
theorem Primes_b {w0 w : World} {F : List Seg} (H : Hp w0 w F) : Ret Tryz.prog 10 [] w fun v w' => ∃ b, v = .slice (some ⟨b, 0, none⟩) 3 3 ∧ Hp w0 w' ([(b, cel (u64sV primes3) 37)] :: F) := by
  refine Calls.of_J (n := 2) Tryz.func10 rfl rfl rfl ?_
  refine J.seq ?_
  refine J.region ?_
  refine JL.go trivial (RX.assign) ?_
  refine JL.nil ?_
  refine J.seq ?_
  refine J.region ?_
  refine JL.does trivial (EX.buildSlice (pv := [(0, .int .u64 2013265921), (1, .int .u64 1811939329), (2, .int .u64 469762049)]) (l := u64sV primes3) (e := 37) H rfl (by kernel_rfl)) ?_
  rintro _ w ⟨b, rfl, H⟩
  refine JL.go trivial (RX.assignv (v := Value.slice _ _ _) rfl) ?_
  refine JL.nil ?_
  refine J.ret1 (v := Value.slice _ _ _) Tryz.func10 rfl rfl ?_
  exact ⟨_, rfl, b, rfl, H⟩
set_option maxHeartbeats 1600000 in
theorem rPrimes_b {w0 w : World} {F : List Seg} (H : Hp w0 w F) : Ret Tryz.prog 15 [] w fun v w' => ∃ b, v = .slice (some ⟨b, 0, none⟩) 3 3 ∧ Hp w0 w' ([(b, cel (u64sV primes3) 37)] :: F) := by
  refine Calls.of_J (n := 2) Tryz.func15 rfl rfl rfl ?_
  refine J.seq ?_
  refine J.region ?_
  refine JL.go trivial (RX.assign) ?_
  refine JL.nil ?_
  refine J.seq ?_
  refine J.region ?_
  refine JL.does trivial (EX.buildSlice (pv := [(0, .int .u64 2013265921), (1, .int .u64 1811939329), (2, .int .u64 469762049)]) (l := u64sV primes3) (e := 37) H rfl (by kernel_rfl)) ?_
  rintro _ w ⟨b, rfl, H⟩
  refine JL.go trivial (RX.assignv (v := Value.slice _ _ _) rfl) ?_
  refine JL.nil ?_
  refine J.ret1 (v := Value.slice _ _ _) Tryz.func15 rfl rfl ?_
  exact ⟨_, rfl, b, rfl, H⟩
end Go.Proofs.YtfpphoapknecfaaGreatDoorBesafter

/- Complex numbers whose parts are whole. -/
import Derived.Test.YtahjlcglidgadaaGreatDoorLf
import Derived.Test.YtahjlcglidgadaaGreatDoorSn
namespace Go.Proofs.YtahjlcglidgadaaGreatDoor
open Go Go.Eng
set_option maxRecDepth 100000
set_option linter.unusedVariables false
set_option linter.unusedSimpArgs false
theorem cl63 : callable Tryz.prog 63 = true := by kernel_rfl
theorem cl64 : callable Tryz.prog 64 = true := by kernel_rfl
theorem cl74 : callable Tryz.prog 74 = true := by kernel_rfl
theorem cl75 : callable Tryz.prog 75 = true := by kernel_rfl
namespace Cc
theorem wq_mul {z : Int × Int} {e : Nat} (h1 : z.1.natAbs ≤ 1125899906842624) (h2 : z.2.natAbs ≤ 1125899906842624) :
    (z.1 * (wq e).1).natAbs < 9007199254740992 ∧ (z.2 * (wq e).2).natAbs < 9007199254740992 ∧ (z.1 * (wq e).1 - z.2 * (wq e).2).natAbs < 9007199254740992 ∧ (z.1 * (wq e).2).natAbs < 9007199254740992 ∧ (z.2 * (wq e).1).natAbs < 9007199254740992 ∧ (z.1 * (wq e).2 + z.2 * (wq e).1).natAbs < 9007199254740992 := by
  rcases wq_cases e with h | h | h | h <;> rw [h] <;> simp <;> omega
def rotC : Nat → Int × Int
  | 0 => (1, 0)
  | t + 1 => (-(rotC t).2, (rotC t).1)
theorem rotC_small : ∀ t, (rotC t).1.natAbs ≤ 1 ∧ (rotC t).2.natAbs ≤ 1
  | 0 => by decide
  | t + 1 => by
    obtain ⟨h1, h2⟩ := rotC_small t
    simp only [rotC, Int.natAbs_neg]; exact ⟨h2, h1⟩
theorem rotC_wq {e : Nat} (h : e < 4) : ((rotC e).1, -(rotC e).2) = wq e := by
  have : e = 0 ∨ e = 1 ∨ e = 2 ∨ e = 3 := by omega
  rcases this with rfl | rfl | rfl | rfl <;> rfl
theorem num_zero (p : Nat) (e : Int) : Ieee.Datum.number false 0 e = .number false ((0 : Int).natAbs * p) e := by rw [show Int.natAbs 0 = 0 from rfl, Nat.zero_mul]
theorem isZ_zero0 : Ieee.double.read 0 = .number false 0 (-((1074 : Nat) : Int)) := by
  have h := read_zero false
  rw [show Ieee.double.word false 0 = 0 by decide] at h
  exact h
theorem dz_zero {d : Ieee.Datum} {k : Nat} (h : d = .number false 0 (-(k : Int))) : DZ d 0 := ⟨false, k, h.trans (num_zero _ _), fun h => absurd rfl h⟩
theorem isZ_zero : IsZ 0 0 := dz_zero isZ_zero0
theorem isZ_one : IsZ 4607182418800017408 1 := ⟨false, 52, by decide, fun _ => rfl⟩
theorem tmod_up {n k : Int} (hn : 0 < n) : (k.tmod n + n).tmod n = k % n := by
  have h1 := Int.tmod_lt_of_pos k hn
  have h2 : -n < k.tmod n := by
    have := Int.lt_tmod_of_pos k hn
    omega
  rw [Int.tmod_eq_emod_of_nonneg (by omega), Int.add_emod_right]
  rw [Int.tmod_def, Int.sub_emod, Int.mul_emod_right, Int.sub_zero, Int.emod_emod_of_dvd k (Int.dvd_refl n)]
theorem four_mod {n m : Nat} (hn : n = 1 ∨ n = 2 ∨ n = 4) : 4 * m % n = 0 := by rcases hn with rfl | rfl | rfl <;> omega
theorem four_div {n m : Nat} (hn : n = 1 ∨ n = 2 ∨ n = 4) (h : m < n) : 4 * m / n < 4 := by rcases hn with rfl | rfl | rfl <;> omega
theorem feq_zero {f : Nat} {v : Int} (h : IsZ f v) (he : (FloatKind.f64.format.order f 0 == some .eq) = true) : v = 0 := by
  have h1 := isZ_ord h isZ_zero
  have h2 : ford f 0 = some .eq := eq_of_beq he
  rw [h2] at h1
  have h3 : compare v 0 = .eq := (Option.some.inj h1).symm
  exact Int.compare_eq_eq.1 h3

set_option maxHeartbeats 1600000 in
theorem Mul_b {w0 w : World} {F : List Seg} (H : Hp w0 w F) {a b : Nat × Nat} {z : Int × Int} {e : Nat} (ha : Zc a z) (hb : Zc b (wq e)) (h1 : z.1.natAbs ≤ 1125899906842624) (h2 : z.2.natAbs ≤ 1125899906842624) : Ret Tryz.prog 28 [.complex .f64 a.1 a.2, .complex .f64 b.1 b.2] w fun v w' => ∃ r : Nat × Nat, v = .complex .f64 r.1 r.2 ∧ Zc r (z.1 * (wq e).1 - z.2 * (wq e).2, z.1 * (wq e).2 + z.2 * (wq e).1) ∧ Hp w0 w' F := by
  refine Calls.of_J (n := 32) Tryz.func28 rfl rfl rfl ?_
  refine J.seq ?_
  refine J.region ?_
  refine JL.go trivial (RX.assign) ?_
  refine JL.nil ?_
  refine J.seq ?_
  obtain ⟨k1, k2, k3, k4, k5, k6⟩ := wq_mul (e := e) h1 h2
  refine J.region ?_
  refine JL.go trivial (RX.movev (v := Value.complex _ _ _) rfl) ?_
  refine JL.go trivial (RX.real rfl) ?_
  refine JL.go trivial (RX.movev (v := Value.complex _ _ _) rfl) ?_
  refine JL.go trivial (RX.imag rfl) ?_
  refine JL.go trivial (RX.movev (v := Value.complex _ _ _) rfl) ?_
  refine JL.go trivial (RX.real rfl) ?_
  refine JL.go trivial (RX.movev (v := Value.complex _ _ _) rfl) ?_
  refine JL.go trivial (RX.imag rfl) ?_
  refine JL.go trivial (RX.assignv (v := Value.float _ _) rfl) ?_
  refine JL.go trivial (RX.assignv (v := Value.float _ _) rfl) ?_
  refine JL.go trivial (RX.assignv (v := Value.float _ _) rfl) ?_
  refine JL.go trivial (RX.assignv (v := Value.float _ _) rfl) ?_
  refine JL.nil ?_
  refine J.seq ?_
  refine J.region ?_
  refine JL.go trivial (RX.movev (v := Value.float _ _) rfl) ?_
  refine JL.go trivial (RX.movev (v := Value.float _ _) rfl) ?_
  refine JL.does trivial (EX.farith (.inr (.inr (.inl rfl))) H rfl rfl) ?_
  rintro _ w ⟨r1, rfl, hr1, H⟩
  have z1 := isZ_cn (show IsZ (cn r1) _ by rw [hr1]; exact isZ_mul ha.1 hb.1 k1)
  refine JL.go trivial (RX.movev (v := Value.float _ _) rfl) ?_
  refine JL.go trivial (RX.movev (v := Value.float _ _) rfl) ?_
  refine JL.does trivial (EX.farith (.inr (.inr (.inl rfl))) H rfl rfl) ?_
  rintro _ w ⟨r2, rfl, hr2, H⟩
  have z2 := isZ_cn (show IsZ (cn r2) _ by rw [hr2]; exact isZ_mul ha.2 hb.2 k2)
  refine JL.does trivial (EX.farith (.inr (.inl rfl)) H rfl rfl) ?_
  rintro _ w ⟨r3, rfl, hr3, H⟩
  have z3 := isZ_cn (show IsZ (cn r3) _ by rw [hr3]; exact isZ_sub z1 z2 k3)
  refine JL.go trivial (RX.movev (v := Value.float _ _) rfl) ?_
  refine JL.go trivial (RX.movev (v := Value.float _ _) rfl) ?_
  refine JL.does trivial (EX.farith (.inr (.inr (.inl rfl))) H rfl rfl) ?_
  rintro _ w ⟨r4, rfl, hr4, H⟩
  have z4 := isZ_cn (show IsZ (cn r4) _ by rw [hr4]; exact isZ_mul ha.1 hb.2 k4)
  refine JL.go trivial (RX.movev (v := Value.float _ _) rfl) ?_
  refine JL.go trivial (RX.movev (v := Value.float _ _) rfl) ?_
  refine JL.does trivial (EX.farith (.inr (.inr (.inl rfl))) H rfl rfl) ?_
  rintro _ w ⟨r5, rfl, hr5, H⟩
  have z5 := isZ_cn (show IsZ (cn r5) _ by rw [hr5]; exact isZ_mul ha.2 hb.1 k5)
  refine JL.does trivial (EX.farith (.inl rfl) H rfl rfl) ?_
  rintro _ w ⟨r6, rfl, hr6, H⟩
  have z6 := isZ_cn (show IsZ (cn r6) _ by rw [hr6]; exact isZ_add z4 z5 k6)
  refine JL.go trivial (RX.complex rfl rfl) ?_
  refine JL.go trivial (RX.assignv (v := Value.complex _ _ _) rfl) ?_
  refine JL.nil ?_
  refine J.ret1 (v := Value.complex _ _ _) Tryz.func28 rfl rfl ?_
  exact ⟨_, rfl, (r3, r6), rfl, ⟨z3, z6⟩, H⟩
set_option maxHeartbeats 1600000 in
theorem rplus_b {w0 w : World} {F : List Seg} (H : Hp w0 w F) {f : Nat} {x : Int} (hf : IsZ f x) : Ret Tryz.prog 64 [.float .f64 f] w fun v w' => ∃ r, v = .float .f64 r ∧ IsZ r x ∧ Hp w0 w' F := by
  refine Calls.of_J (n := 6) Tryz.func64 rfl rfl rfl ?_
  refine J.seq ?_
  refine J.region ?_
  refine JL.go trivial (RX.assign) ?_
  refine JL.nil ?_
  refine J.seq ?_
  refine J.seq ?_
  refine J.region ?_
  refine JL.go trivial (RX.movev (v := Value.float _ _) rfl) ?_
  refine JL.go trivial (RX.feq rfl rfl) ?_
  refine JL.nil ?_
  refine J.cond rfl (fun h0 => ?_) (fun h0 => ?_)
  · skip
    refine J.seq ?_
    refine J.region ?_
    refine JL.go trivial (RX.assign) ?_
    refine JL.nil ?_
    refine J.ret1 (v := Value.float _ _) Tryz.func64 rfl rfl ?_
    obtain rfl := feq_zero hf h0
    exact ⟨_, rfl, 0, rfl, isZ_zero, H⟩
  · skip
    refine J.skip ?_
    refine J.seq ?_
    refine J.region ?_
    refine JL.go trivial (RX.movev (v := Value.float _ _) rfl) ?_
    refine JL.go trivial (RX.assignv (v := Value.float _ _) rfl) ?_
    refine JL.nil ?_
    refine J.ret1 (v := Value.float _ _) Tryz.func64 rfl rfl ?_
    exact ⟨_, rfl, f, rfl, hf, H⟩
set_option maxHeartbeats 1600000 in
theorem rmod_b {w0 w : World} {F : List Seg} (H : Hp w0 w F) {n : Nat} (hn : n = 1 ∨ n = 2 ∨ n = 4) {k : Int} (hk1 : -4611686018427387904 ≤ k) (hk2 : k ≤ 4611686018427387904) : Ret Tryz.prog 74 [.int .i64 k, .int .i64 ((n : Nat) : Int)] w fun v w' => v = .int .i64 (((k % (n : Int)).toNat : Nat) : Int) ∧ Hp w0 w' F := by
  refine Calls.of_J (n := 12) Tryz.func74 rfl rfl rfl ?_
  refine J.seq ?_
  refine J.region ?_
  refine JL.go trivial (RX.assign) ?_
  refine JL.nil ?_
  refine J.seq ?_
  have t1 := Int.tmod_lt_of_pos k (show (0 : Int) < n by omega)
  have t2 : -(n : Int) < k.tmod n := by
    have := Int.lt_tmod_of_pos k (show (0 : Int) < n by omega)
    omega
  have t3 := Int.emod_nonneg k (show (n : Int) ≠ 0 by omega)
  refine J.region ?_
  refine JL.go trivial (RX.movev (v := Value.int _ _) rfl) ?_
  refine JL.go trivial (RX.movev (v := Value.int _ _) rfl) ?_
  refine JL.go trivial (RX.rem rfl rfl (by omega) (r := k.tmod n) rfl) ?_
  refine JL.go trivial (RX.movev (v := Value.int _ _) rfl) ?_
  refine JL.go trivial (RX.add rfl rfl (w_i64 (r := k.tmod n + n) rfl (by omega) (by omega))) ?_
  refine JL.go trivial (RX.movev (v := Value.int _ _) rfl) ?_
  refine JL.go trivial (RX.rem rfl rfl (by omega) (r := (((k % (n : Int)).toNat : Nat) : Int)) (by rw [tmod_up (by omega)]; omega)) ?_
  refine JL.go trivial (RX.assignv (v := Value.int _ _) rfl) ?_
  refine JL.nil ?_
  refine J.ret1 (v := Value.int _ _) Tryz.func74 rfl rfl ?_
  exact ⟨_, rfl, rfl, H⟩
set_option maxHeartbeats 1600000 in
theorem eighth_b {w0 w : World} {F : List Seg} (H : Hp w0 w F) {m : Int} : Ret Tryz.prog 75 [.int .i64 0, .int .i64 m] w fun v w' => v = .tuple #[.float .f64 4607182418800017408, .float .f64 0] ∧ Hp w0 w' F := by
  refine Calls.of_J (n := 36) Tryz.func75 rfl rfl rfl ?_
  refine J.seq ?_
  refine J.region ?_
  refine JL.go trivial (RX.assign) ?_
  refine JL.go trivial (RX.assign) ?_
  refine JL.nil ?_
  refine J.seq ?_
  refine J.block ?_
  refine J.seq ?_
  refine J.region ?_
  refine JL.go trivial (RX.movev (v := Value.int _ _) rfl) ?_
  refine JL.go trivial (RX.eq rfl rfl) ?_
  refine JL.go trivial (RX.assignv (v := Value.bool _) rfl) ?_
  refine JL.nil ?_
  refine J.cond_t rfl (decide_eq_true rfl) ?_
  refine J.seq ?_
  refine J.region ?_
  refine JL.go trivial (RX.assign) ?_
  refine JL.go trivial (RX.assign) ?_
  refine JL.nil ?_
  refine J.ret2 (v := Value.float _ _) (x := Value.float _ _) Tryz.func75 rfl rfl rfl ?_
  exact ⟨_, rfl, rfl, H⟩
set_option maxHeartbeats 1600000 in
theorem pair_b {w0 w : World} {F : List Seg} (H : Hp w0 w F) {n : Nat} (hn : n = 1 ∨ n = 2 ∨ n = 4) {k : Int} (hk1 : -4611686018427387904 ≤ k) (hk2 : k ≤ 4611686018427387904) : Ret Tryz.prog 63 [.int .i64 ((n : Nat) : Int), .int .i64 k] w fun v w' => ∃ c s, v = .tuple #[.float .f64 c, .float .f64 s, .nilIface] ∧ IsZ c (rotC (4 * (k % (n : Int)).toNat / n)).1 ∧ IsZ s (rotC (4 * (k % (n : Int)).toNat / n)).2 ∧ Hp w0 w' F := by
  refine Calls.of_J (n := 58) Tryz.func63 rfl rfl rfl ?_
  refine J.seq ?_
  refine J.region ?_
  refine JL.go trivial (RX.assign) ?_
  refine JL.go trivial (RX.assign) ?_
  refine JL.go trivial (RX.assign) ?_
  refine JL.nil ?_
  refine J.seq ?_
  refine J.seq ?_
  have t3 := Int.emod_nonneg k (show (n : Int) ≠ 0 by omega)
  have t4 := Int.emod_lt_of_pos k (show (0 : Int) < n by omega)
  have t5 : (k % (n : Int)).toNat < n := by omega
  have t6 := four_mod (m := (k % (n : Int)).toNat) hn
  have t7 := four_div hn t5
  refine J.region ?_
  refine JL.go trivial (RX.movev (v := Value.int _ _) rfl) ?_
  refine JL.go trivial (RX.lt rfl rfl) ?_
  refine JL.go trivial (RX.movev (v := Value.bool _) rfl) ?_
  refine JL.go ⟨_, rfl, (decide_eq_false (by omega))⟩ (RX.movev (v := Value.int _ _) rfl) ?_
  refine JL.go ⟨_, rfl, (decide_eq_false (by omega))⟩ (RX.gt rfl rfl) ?_
  refine JL.go trivial (RX.pick_f rfl (decide_eq_false (by omega))) ?_
  refine JL.nil ?_
  refine J.cond_f rfl (decide_eq_false (by omega)) ?_
  refine J.skip ?_
  refine J.seq ?_
  refine J.region ?_
  refine JL.go trivial (RX.movev (v := Value.int _ _) rfl) ?_
  refine JL.go trivial (RX.movev (v := Value.int _ _) rfl) ?_
  refine JL.does trivial (EX.call rfl cl74 rfl ((rmod_b H hn hk1 hk2))) ?_
  rintro _ w ⟨rfl, H⟩
  refine JL.go trivial (RX.mul rfl rfl (wi (n := 4 * (k % (n : Int)).toNat) (by omega) (by omega))) ?_
  refine JL.go trivial (RX.assignv (v := Value.int _ _) rfl) ?_
  refine JL.nil ?_
  refine J.seq ?_
  refine J.region ?_
  refine JL.go trivial (RX.movev (v := Value.int _ _) rfl) ?_
  refine JL.go trivial (RX.movev (v := Value.int _ _) rfl) ?_
  refine JL.go trivial (RX.rem rfl rfl (by omega) (r := ((0 : Nat) : Int)) (by rw [rem_nat, t6])) ?_
  refine JL.go trivial (RX.assignv (v := Value.int _ _) rfl) ?_
  refine JL.nil ?_
  refine J.seq ?_
  refine J.region ?_
  refine JL.go trivial (RX.assign) ?_
  refine JL.go trivial (RX.assign) ?_
  refine JL.nil ?_
  refine J.seq ?_
  refine J.seq ?_
  refine J.region ?_
  refine JL.go trivial (RX.movev (v := Value.int _ _) rfl) ?_
  refine JL.go trivial (RX.mul rfl rfl (w_i64 (r := 0) (by simp) (by decide) (by decide))) ?_
  refine JL.go trivial (RX.movev (v := Value.int _ _) rfl) ?_
  refine JL.go trivial (RX.le rfl rfl) ?_
  refine JL.nil ?_
  refine J.cond_t rfl (decide_eq_true (by omega)) ?_
  refine J.region ?_
  refine JL.go trivial (RX.movev (v := Value.int _ _) rfl) ?_
  refine JL.go trivial (RX.movev (v := Value.int _ _) rfl) ?_
  refine JL.go trivial (RX.mul rfl rfl (wi (n := 4 * n) (by omega) (by omega))) ?_
  refine JL.does trivial (EX.call rfl cl75 rfl ((eighth_b H))) ?_
  rintro _ w ⟨rfl, H⟩
  refine JL.go trivial (RX.movev (v := .tuple _) rfl) ?_
  refine JL.go trivial (RX.extract rfl rfl) ?_
  refine JL.go trivial (RX.extract rfl rfl) ?_
  refine JL.go trivial (RX.assignv (v := Value.float _ _) rfl) ?_
  refine JL.go trivial (RX.assignv (v := Value.float _ _) rfl) ?_
  refine JL.nil ?_
  refine J.seq ?_
  refine J.seq ?_
  refine J.region ?_
  refine JL.go trivial (RX.movev (v := Value.int _ _) rfl) ?_
  refine JL.go trivial (RX.movev (v := Value.int _ _) rfl) ?_
  refine JL.go trivial (RX.quo rfl rfl (by omega) (r := ((4 * (k % (n : Int)).toNat / n : Nat) : Int)) (by rw [quo_nat]; exact wi rfl (by omega))) ?_
  refine JL.go trivial (RX.move) ?_
  refine JL.nil ?_
  generalize 4 * (k % (n : Int)).toNat / n = T at *
  refine J.block ?_
  refine J.loop (ι := Nat × Nat × Nat) (S := fun z => [(48, .int .i64 ((z.1 : Nat) : Int)), (9, .float .f64 z.2.1), (10, .float .f64 z.2.2)]) (Φ := fun z w => z.1 ≤ T ∧ IsZ z.2.1 (rotC z.1).1 ∧ IsZ z.2.2 (rotC z.1).2 ∧ Hp w0 w F) (μ := fun z => T - z.1) (C := [(47, _)]) (0, 4607182418800017408, 0) ⟨rfl, trivial⟩ ⟨rfl, rfl, rfl, trivial⟩ ?_ ?_
  · exact ⟨by simp, isZ_one, isZ_zero, H⟩
  clear H
  rintro ⟨i, c, s⟩ ρ w ⟨hi, hc, hs, H⟩ IH
  simp only at hi hc hs H
  dsimp only
  refine J.seq ?_
  refine J.region ?_
  refine JL.go trivial (RX.lt rfl rfl) ?_
  refine JL.nil ?_
  refine J.seq ?_
  refine J.cond_d rfl (fun hlt => ?_) (fun hlt => ?_)
  · skip
    refine J.skip ?_
    refine J.seq ?_
    refine J.block ?_
    refine J.region ?_
    refine JL.go trivial (RX.movev (v := Value.float _ _) rfl) ?_
    refine JL.go trivial (RX.fneg rfl) ?_
    refine JL.go trivial (RX.movev (v := Value.float _ _) rfl) ?_
    refine JL.go trivial (RX.assignv (v := Value.float _ _) rfl) ?_
    refine JL.go trivial (RX.assignv (v := Value.float _ _) rfl) ?_
    refine JL.nil ?_
    refine J.inBlock ?_
    refine J.region ?_
    refine JL.go trivial (RX.add rfl rfl (wi (n := i + 1) (by omega) (by omega))) ?_
    refine JL.go trivial (RX.movev (v := Value.int _ _) rfl) ?_
    refine JL.nil ?_
    exact IH (i + 1, fneg s, c) _ _ (by simp only; omega) ⟨rfl, trivial⟩ ⟨rfl, rfl, rfl, trivial⟩ ⟨by simp only; omega, isZ_neg hs, hc, H⟩
  · skip
    obtain rfl : i = T := by omega
    refine J.exit rfl ?_
    refine J.seq ?_
    refine J.region ?_
    refine JL.go trivial (RX.movev (v := Value.float _ _) rfl) ?_
    refine JL.does trivial (EX.call rfl cl64 rfl ((rplus_b H hc))) ?_
    rintro _ w ⟨c2, rfl, hc2, H⟩
    refine JL.go trivial (RX.movev (v := Value.float _ _) rfl) ?_
    refine JL.does trivial (EX.call rfl cl64 rfl ((rplus_b H hs))) ?_
    rintro _ w ⟨s2, rfl, hs2, H⟩
    refine JL.go trivial (RX.assignv (v := Value.float _ _) rfl) ?_
    refine JL.go trivial (RX.assignv (v := Value.float _ _) rfl) ?_
    refine JL.go trivial (RX.assign) ?_
    refine JL.nil ?_
    refine J.ret3 (v := Value.float _ _) Tryz.func63 rfl rfl rfl rfl ?_
    exact ⟨_, rfl, c2, s2, rfl, hc2, hs2, H⟩
set_option maxHeartbeats 1600000 in
theorem Root_b {w0 w : World} {F : List Seg} (H : Hp w0 w F) {n : Nat} (hn : n = 1 ∨ n = 2 ∨ n = 4) {k : Int} (hk1 : -4611686018427387904 ≤ k) (hk2 : k ≤ 4611686018427387904) : Ret Tryz.prog 46 [.int .i64 ((n : Nat) : Int), .int .i64 k] w fun v w' => ∃ r : Nat × Nat, v = .tuple #[.complex .f64 r.1 r.2, .nilIface] ∧ Zc r (wq (4 * (k % (n : Int)).toNat / n)) ∧ Hp w0 w' F := by
  refine Calls.of_J (n := 24) Tryz.func46 rfl rfl rfl ?_
  refine J.seq ?_
  refine J.region ?_
  refine JL.go trivial (RX.assign) ?_
  refine JL.go trivial (RX.assign) ?_
  refine JL.nil ?_
  refine J.seq ?_
  refine J.region ?_
  refine JL.go trivial (RX.movev (v := Value.int _ _) rfl) ?_
  refine JL.go trivial (RX.movev (v := Value.int _ _) rfl) ?_
  refine JL.does trivial (EX.call rfl cl63 rfl ((pair_b H hn hk1 hk2))) ?_
  rintro _ w ⟨c, s, rfl, hc, hs, H⟩
  refine JL.go trivial (RX.movev (v := .tuple _) rfl) ?_
  refine JL.go trivial (RX.extract rfl rfl) ?_
  refine JL.go trivial (RX.extract rfl rfl) ?_
  refine JL.go trivial (RX.extract (v := .nilIface) rfl rfl) ?_
  refine JL.go trivial (RX.assignv (v := Value.float _ _) rfl) ?_
  refine JL.go trivial (RX.assignv (v := Value.float _ _) rfl) ?_
  refine JL.go trivial (RX.assignv (v := .nilIface) rfl) ?_
  refine JL.nil ?_
  refine J.seq ?_
  refine J.seq ?_
  refine J.region ?_
  refine JL.go trivial (RX.movev (v := .nilIface) rfl) ?_
  refine JL.go trivial (RX.ifnil_neq (v := .nilIface) rfl rfl rfl if30) ?_
  refine JL.nil ?_
  refine J.cond_f rfl rfl ?_
  refine J.skip ?_
  refine J.seq ?_
  refine J.region ?_
  refine JL.go trivial (RX.movev (v := Value.float _ _) rfl) ?_
  refine JL.go trivial (RX.movev (v := Value.float _ _) rfl) ?_
  refine JL.go trivial (RX.fneg rfl) ?_
  refine JL.does trivial (EX.call rfl cl64 rfl ((rplus_b H (isZ_neg hs)))) ?_
  rintro _ w ⟨s2, rfl, hs2, H⟩
  refine JL.go trivial (RX.complex rfl rfl) ?_
  refine JL.go trivial (RX.assignv (v := Value.complex _ _ _) rfl) ?_
  refine JL.go trivial (RX.assign) ?_
  refine JL.nil ?_
  refine J.ret2 (v := Value.complex _ _ _) Tryz.func46 rfl rfl rfl ?_
  have t3 := Int.emod_nonneg k (show (n : Int) ≠ 0 by omega)
  have t4 := Int.emod_lt_of_pos k (show (0 : Int) < n by omega)
  have hw := rotC_wq (four_div (m := (k % (n : Int)).toNat) hn (by omega))
  exact ⟨_, rfl, (c, s2), rfl, by rw [← hw]; exact ⟨hc, hs2⟩, H⟩
end Cc
end Go.Proofs.YtahjlcglidgadaaGreatDoor

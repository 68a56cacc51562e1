/- The reference: roots by definition. -/
import Derived.Test.YtmppcnbkfjeabaaDoorSz
namespace Go.Proofs.YtmppcnbkfjeabaaDoor
open Go Go.Eng
set_option maxRecDepth 100000
set_option linter.unusedVariables false
set_option linter.unusedSimpArgs false
theorem cl44 : callable Tryd.prog 44 = true := by kernel_rfl
theorem cl45 : callable Tryd.prog 45 = true := by kernel_rfl
theorem cl62 : callable Tryd.prog 62 = true := by kernel_rfl
theorem cl73 : callable Tryd.prog 73 = true := by kernel_rfl
theorem cl85 : callable Tryd.prog 85 = true := by kernel_rfl

theorem fneg_read (x : Nat) : Ieee.double.read (fneg x) = (Ieee.double.read x).opposite := by
  have h1 := neg_mod x
  have h2 : fneg x / 9223372036854775808 % 2 = 1 - x / 9223372036854775808 % 2 := by
    have e1 : ∀ y : Nat, y / 9223372036854775808 % 2 = (y.testBit 63).toNat := fun y => by rw [Nat.toNat_testBit]
    rw [e1, e1]
    have e2 : (fneg x).testBit 63 = !x.testBit 63 := by
      show (x ^^^ 2 ^ 63).testBit 63 = _
      rw [Nat.testBit_xor, Nat.testBit_two_pow_self, Bool.xor_true]
    rw [e2]
    cases x.testBit 63 <;> rfl
  unfold Ieee.Format.read
  rw [sw64, h1, h2]
  have h3 : ((1 - x / 9223372036854775808 % 2) == 1) = !((x / 9223372036854775808 % 2) == 1) := by
    have : x / 9223372036854775808 % 2 = 0 ∨ x / 9223372036854775808 % 2 = 1 := by omega
    rcases this with h | h <;> rw [h] <;> rfl
  rw [h3]
  dsimp only
  split
  · rfl
  · split
    · rfl
    · split <;> rfl
theorem order_opp (d : Ieee.Datum) (k : Int) : (d.opposite.order (.number false 0 k) == some .eq) = (d.order (.number false 0 k) == some .eq) := by
  cases d with
  | nan s t => rfl
  | infinity s => cases s <;> rfl
  | number s m i =>
    simp only [Ieee.Datum.opposite, Ieee.Datum.order, Ieee.signed]
    generalize (m <<< (i - min i k).toNat) = a
    have hz : ∀ q : Nat, (0 : Nat) <<< q = 0 := Nat.zero_shiftLeft
    rw [hz]
    cases s <;> simp [compare, compareOfLessAndEq] <;> split <;> split <;> first | rfl | omega | (split <;> first | rfl | omega) | (split <;> split <;> first | rfl | omega)
theorem ford_neg (x : Nat) : (ford (fneg x) 0 == some .eq) = (ford x 0 == some .eq) := by
  unfold ford Ieee.Format.order
  rw [fneg_read]
  exact order_opp _ _
theorem fact_max (k odd : Nat) (h : odd ≤ 1) : factN (max 1 (2 * k + odd)) = factN (2 * k + odd) := by
  by_cases h0 : 2 * k + odd = 0
  · rw [h0]; exact fact_one
  · rw [Nat.max_eq_right (by omega)]

theorem rSeries_b {w0 w : World} {F : List Seg} (H : Hp w0 w F) {y odd : Nat} (ho : odd ≤ 1) : Ret Tryd.prog 85 [.float .f64 y, .int .i64 (odd : Nat)] w fun v w' => ∃ r, v = .float .f64 r ∧ cn r = hornN y odd 8 ∧ Hp w0 w' F := by
  refine Calls.of_J (n := 37) Tryd.func85 rfl rfl rfl ?_
  refine J.seq ?_
  refine J.region ?_
  refine JL.go trivial (RX.assign) ?_
  refine JL.nil ?_
  refine J.seq ?_
  refine J.region ?_
  refine JL.go trivial (RX.assign) ?_
  refine JL.nil ?_
  refine J.seq ?_
  refine J.seq ?_
  refine J.region ?_
  refine JL.go trivial (RX.assign) ?_
  refine JL.nil ?_
  refine J.block ?_
  refine J.loop (ι := Nat × Nat) (S := fun z => [(6, .int .i64 (8 - (z.1 : Nat))), (5, .float .f64 z.2)]) (Φ := fun z w => (z.1 ≤ 9 ∧ (z.1 = 0 ∨ cn z.2 = hornN y odd (z.1 - 1))) ∧ Hp w0 w F) (μ := fun z => 9 - z.1) (C := [(0, _), (1, _)]) (0, 0) ⟨rfl, rfl, trivial⟩ ⟨rfl, rfl, trivial⟩ ?_ ?_
  · exact ⟨⟨by simp, .inl rfl⟩, H⟩
  clear H
  rintro ⟨i, p⟩ ρ w ⟨⟨hi, hp⟩, H⟩ IH
  simp only at hi hp H
  dsimp only
  refine J.seq ?_
  refine J.seq ?_
  refine J.region ?_
  refine JL.go trivial (RX.movev (v := Value.int _ _) rfl) ?_
  refine JL.go trivial (RX.ge rfl rfl) ?_
  refine JL.nil ?_
  refine J.cond_d rfl (fun hk => ?_) (fun hk => ?_)
  · skip
    obtain ⟨k, hkk⟩ : ∃ k : Nat, 8 - (i : Int) = (k : Int) := ⟨8 - i, by omega⟩
    refine J.skip ?_
    refine J.seq ?_
    refine J.block ?_
    refine J.seq ?_
    refine J.region ?_
    refine JL.go trivial (RX.assign) ?_
    refine JL.nil ?_
    refine J.seq ?_
    refine J.seq ?_
    refine J.region ?_
    refine JL.go trivial (RX.assign) ?_
    refine JL.nil ?_
    refine J.block ?_
    refine J.loop (ι := Nat × Nat) (S := fun z => [(7, .float .f64 z.2), (8, .int .i64 (z.1 : Nat))]) (Φ := fun z w => (2 ≤ z.1 ∧ z.1 ≤ max 2 (2 * k + odd + 1) ∧ cn z.2 = factN (z.1 - 1)) ∧ Hp w0 w F) (μ := fun z => 20 - z.1) (C := [(0, _), (1, _), (5, _), (6, _)]) (2, one64) ⟨rfl, rfl, rfl, rfl, trivial⟩ ⟨rfl, rfl, trivial⟩ ?_ ?_
    · exact ⟨⟨by simp, by simp only; omega, by show cn one64 = factN 1; rw [fact_one]; exact cn_one⟩, H⟩
    clear H
    rintro ⟨m, f⟩ ρ w ⟨⟨hm, hm2, hf⟩, H⟩ IH2
    simp only at hm hm2 hf H
    dsimp only
    refine J.seq ?_
    refine J.seq ?_
    refine J.region ?_
    refine JL.go trivial (RX.movev (v := Value.int _ _) rfl) ?_
    refine JL.go trivial (RX.movev (v := Value.int _ _) rfl) ?_
    refine JL.go trivial (RX.mul rfl rfl (w_i64 (r := ((2 * k : Nat) : Int)) (by omega) (by omega) (by omega))) ?_
    refine JL.go trivial (RX.movev (v := Value.int _ _) rfl) ?_
    refine JL.go trivial (RX.add rfl rfl (w_i64 (r := ((2 * k + odd : Nat) : Int)) (by omega) (by omega) (by omega))) ?_
    refine JL.go trivial (RX.le rfl rfl) ?_
    refine JL.nil ?_
    refine J.cond_d rfl (fun hle => ?_) (fun hle => ?_)
    · skip
      refine J.skip ?_
      refine J.seq ?_
      refine J.block ?_
      refine J.region ?_
      refine JL.go trivial (RX.movev (v := Value.float _ _) rfl) ?_
      refine JL.go trivial (RX.movev (v := Value.int _ _) rfl) ?_
      refine JL.go trivial (RX.i2f rfl ud3 ud71) ?_
      refine JL.does trivial (EX.farith (.inr (.inr (.inl rfl))) H rfl rfl) ?_
      rintro _ w ⟨q, rfl, hq, H⟩
      refine JL.go trivial (RX.assignv (v := Value.float _ _) rfl) ?_
      refine JL.nil ?_
      refine J.inBlock ?_
      refine J.region ?_
      refine JL.go trivial (RX.movev (v := Value.int _ _) rfl) ?_
      refine JL.go trivial (RX.add rfl rfl (w_i64 (r := ((m + 1 : Nat) : Int)) (by omega) (by omega) (by omega))) ?_
      refine JL.go trivial (RX.assignv (v := Value.int _ _) rfl) ?_
      refine JL.nil ?_
      refine IH2 (m + 1, q) _ _ (by simp only; omega) ⟨rfl, rfl, rfl, rfl, trivial⟩ ⟨rfl, rfl, trivial⟩ ⟨⟨by simp only; omega, by simp only; omega, ?_⟩, H⟩
      obtain ⟨m1, rfl⟩ : ∃ m1, m = m1 + 1 := ⟨m - 1, by omega⟩
      simp only [Nat.add_sub_cancel] at hf ⊢
      rw [hq, factN]
      exact fo_al .mul (by rw [hf, factN_cn]) rfl
    · skip
      have hfk : cn f = factN (2 * k + odd) := by rw [← fact_max k odd ho, hf, show m - 1 = max 1 (2 * k + odd) by omega]
      clear IH2
      refine J.exit rfl ?_
      refine J.seq ?_
      refine J.region ?_
      refine JL.go trivial (RX.movev (v := Value.float _ _) rfl) ?_
      refine JL.does trivial (EX.farith (.inr (.inr (.inr rfl))) H rfl rfl) ?_
      rintro _ w ⟨c, rfl, hc, H⟩
      refine JL.go trivial (RX.assignv (v := Value.float _ _) rfl) ?_
      have hck : cn c = coef odd k := hc.trans (fo_al .quo rfl (by rw [hfk, factN_cn]))
      refine JL.nil ?_
      refine J.seq ?_
      refine J.seq ?_
      refine J.region ?_
      refine JL.go trivial (RX.movev (v := Value.int _ _) rfl) ?_
      refine JL.go trivial (RX.eq rfl rfl) ?_
      refine JL.nil ?_
      refine J.cond_d rfl (fun h8 => ?_) (fun h8 => ?_)
      · skip
        refine J.seq ?_
        refine J.region ?_
        refine JL.go trivial (RX.movev (v := Value.float _ _) rfl) ?_
        refine JL.go trivial (RX.assignv (v := Value.float _ _) rfl) ?_
        refine JL.nil ?_
        refine J.exit rfl ?_
        refine J.region ?_
        refine JL.go trivial (RX.movev (v := Value.int _ _) rfl) ?_
        refine JL.go trivial (RX.sub rfl rfl (w_i64 (r := 8 - ((i + 1 : Nat) : Int)) (by omega) (by omega) (by omega))) ?_
        refine JL.go trivial (RX.assignv (v := Value.int _ _) rfl) ?_
        refine JL.nil ?_
        have h0 : i = 0 := by omega
        have hk8 : k = 8 := by omega
        subst h0 hk8
        exact IH (1, c) _ _ (by simp only; omega) ⟨rfl, rfl, trivial⟩ ⟨rfl, rfl, trivial⟩ ⟨⟨by simp, .inr hck⟩, H⟩
      · skip
        refine J.skip ?_
        refine J.region ?_
        refine JL.go trivial (RX.movev (v := Value.float _ _) rfl) ?_
        refine JL.go trivial (RX.movev (v := Value.float _ _) rfl) ?_
        refine JL.go trivial (RX.movev (v := Value.float _ _) rfl) ?_
        refine JL.does trivial (EX.farith (.inr (.inr (.inl rfl))) H rfl rfl) ?_
        rintro _ w ⟨a, rfl, ha, H⟩
        refine JL.does trivial (EX.farith (.inr (.inl rfl)) H rfl rfl) ?_
        rintro _ w ⟨b, rfl, hb, H⟩
        refine JL.go trivial (RX.assignv (v := Value.float _ _) rfl) ?_
        refine JL.nil ?_
        refine J.inBlock ?_
        refine J.region ?_
        refine JL.go trivial (RX.movev (v := Value.int _ _) rfl) ?_
        refine JL.go trivial (RX.sub rfl rfl (w_i64 (r := 8 - ((i + 1 : Nat) : Int)) (by omega) (by omega) (by omega))) ?_
        refine JL.go trivial (RX.assignv (v := Value.int _ _) rfl) ?_
        refine JL.nil ?_
        refine IH (i + 1, b) _ _ (by simp only; omega) ⟨rfl, rfl, trivial⟩ ⟨rfl, rfl, trivial⟩ ⟨⟨by simp only; omega, .inr ?_⟩, H⟩
        obtain ⟨j, rfl⟩ : ∃ j, i = j + 1 := ⟨i - 1, by omega⟩
        have hp2 := hp.resolve_left (by omega)
        simp only [Nat.add_sub_cancel] at hp2 ⊢
        rw [hb, hornN]
        exact fo_al .sub (by rw [hck, coef_cn, show k = 7 - j by omega]) (by rw [ha, fo_cn]; exact fo_al .mul rfl (by rw [hp2, hornN_cn]))
  · skip
    have hi9 : i = 9 := by omega
    subst hi9
    refine J.exit rfl ?_
    refine J.seq ?_
    refine J.region ?_
    refine JL.go trivial (RX.movev (v := Value.float _ _) rfl) ?_
    refine JL.go trivial (RX.assignv (v := Value.float _ _) rfl) ?_
    refine JL.nil ?_
    refine J.ret1 (v := Value.float _ _) Tryd.func85 rfl rfl ?_
    exact ⟨_, rfl, _, rfl, hp.resolve_left (by decide), H⟩
theorem rEighth_b {w0 w : World} {F : List Seg} (H : Hp w0 w F) {r n : Int} (hr : 0 ≤ r) (hr2 : r ≤ 33554432) (hn : 0 < n) (hn2 : n ≤ 33554432) : Ret Tryd.prog 73 [.int .i64 r, .int .i64 n] w fun v w' => ∃ a b, v = .tuple #[.float .f64 a, .float .f64 b] ∧ cn a = (eighthN r n).1 ∧ cn b = (eighthN r n).2 ∧ Hp w0 w' F := by
  refine Calls.of_J (n := 34) Tryd.func73 rfl rfl rfl ?_
  refine J.seq ?_
  refine J.region ?_
  refine JL.go trivial (RX.assign) ?_
  refine JL.go trivial (RX.assign) ?_
  refine JL.nil ?_
  refine J.seq ?_
  refine J.seq ?_
  refine J.region ?_
  refine JL.go trivial (RX.movev (v := Value.int _ _) rfl) ?_
  refine JL.go trivial (RX.eq rfl rfl) ?_
  refine JL.nil ?_
  refine J.cond_d rfl (fun h0 => ?_) (fun h0 => ?_)
  · skip
    refine J.seq ?_
    refine J.region ?_
    refine JL.go trivial (RX.assign) ?_
    refine JL.go trivial (RX.assign) ?_
    refine JL.nil ?_
    refine J.ret2 (v := Value.float _ _) (x := Value.float _ _) Tryd.func73 rfl rfl rfl ?_
    exact ⟨_, rfl, _, _, rfl, by rw [eighthN, if_pos h0]; decide, by rw [eighthN, if_pos h0]; decide, H⟩
  · skip
    refine J.skip ?_
    refine J.seq ?_
    refine J.seq ?_
    refine J.region ?_
    refine JL.go trivial (RX.movev (v := Value.int _ _) rfl) ?_
    refine JL.go trivial (RX.mul rfl rfl (w_i64 (r := 8 * r) (by omega) (by omega) (by omega))) ?_
    refine JL.go trivial (RX.movev (v := Value.int _ _) rfl) ?_
    refine JL.go trivial (RX.eq rfl rfl) ?_
    refine JL.nil ?_
    refine J.cond_d rfl (fun h8 => ?_) (fun h8 => ?_)
    · skip
      refine J.seq ?_
      refine J.region ?_
      refine JL.go trivial (RX.ext ext59 rfl rfl (v := Value.float _ _) rfl) ?_
      refine JL.go trivial (RX.assignv (v := Value.float _ _) rfl) ?_
      refine JL.nil ?_
      refine J.seq ?_
      refine J.region ?_
      refine JL.go trivial (RX.movev (v := Value.float _ _) rfl) ?_
      refine JL.go trivial (RX.movev (v := Value.float _ _) rfl) ?_
      refine JL.go trivial (RX.assignv (v := Value.float _ _) rfl) ?_
      refine JL.go trivial (RX.assignv (v := Value.float _ _) rfl) ?_
      refine JL.nil ?_
      refine J.ret2 (v := Value.float _ _) (x := Value.float _ _) Tryd.func73 rfl rfl rfl ?_
      exact ⟨_, rfl, _, _, rfl, by rw [eighthN, if_neg h0, if_pos h8]; decide, by rw [eighthN, if_neg h0, if_pos h8]; decide, H⟩
    · skip
      refine J.skip ?_
      refine J.seq ?_
      refine J.region ?_
      refine JL.go trivial (RX.ext ext59 rfl rfl (v := Value.float _ _) rfl) ?_
      refine JL.go trivial (RX.movev (v := Value.int _ _) rfl) ?_
      refine JL.go trivial (RX.i2f rfl ud3 ud71) ?_
      refine JL.does trivial (EX.farith (.inr (.inr (.inl rfl))) H rfl rfl) ?_
      rintro _ w ⟨u, rfl, hu, H⟩
      refine JL.go trivial (RX.movev (v := Value.int _ _) rfl) ?_
      refine JL.go trivial (RX.i2f rfl ud3 ud71) ?_
      refine JL.does trivial (EX.farith (.inr (.inr (.inr rfl))) H rfl rfl) ?_
      rintro _ w ⟨t, rfl, ht, H⟩
      refine JL.go trivial (RX.assignv (v := Value.float _ _) rfl) ?_
      refine JL.nil ?_
      refine J.seq ?_
      refine J.region ?_
      refine JL.go trivial (RX.movev (v := Value.float _ _) rfl) ?_
      refine JL.go trivial (RX.movev (v := Value.float _ _) rfl) ?_
      refine JL.does trivial (EX.farith (.inr (.inr (.inl rfl))) H rfl rfl) ?_
      rintro _ w ⟨y, rfl, hy, H⟩
      refine JL.go trivial (RX.assignv (v := Value.float _ _) rfl) ?_
      refine JL.nil ?_
      refine J.seq ?_
      refine J.region ?_
      refine JL.go trivial (RX.movev (v := Value.float _ _) rfl) ?_
      refine JL.does trivial (EX.call rfl cl85 rfl ((rSeries_b H (odd := 0) (by decide)))) ?_
      rintro _ w ⟨p, rfl, hp, H⟩
      refine JL.go trivial (RX.movev (v := Value.float _ _) rfl) ?_
      refine JL.go trivial (RX.movev (v := Value.float _ _) rfl) ?_
      refine JL.does trivial (EX.call rfl cl85 rfl ((rSeries_b H (odd := 1) (by decide)))) ?_
      rintro _ w ⟨q, rfl, hq, H⟩
      refine JL.does trivial (EX.farith (.inr (.inr (.inl rfl))) H rfl rfl) ?_
      rintro _ w ⟨z, rfl, hz, H⟩
      refine JL.go trivial (RX.assignv (v := Value.float _ _) rfl) ?_
      refine JL.go trivial (RX.assignv (v := Value.float _ _) rfl) ?_
      refine JL.nil ?_
      refine J.ret2 (v := Value.float _ _) (x := Value.float _ _) Tryd.func73 rfl rfl rfl ?_
      have et : cn t = cn (fo .quo (fo .mul twoPi64 (fint r)) (fint n)) := by rw [ht, fo_cn]; exact fo_al .quo (by rw [hu, fo_cn]; rfl) rfl
      have ey : cn y = cn (fo .mul (fo .quo (fo .mul twoPi64 (fint r)) (fint n)) (fo .quo (fo .mul twoPi64 (fint r)) (fint n))) := by rw [hy, fo_cn]; exact fo_al .mul et et
      refine ⟨_, rfl, _, _, rfl, ?_, ?_, H⟩
      · rw [eighthN, if_neg h0, if_neg h8, hp]; exact hornN_al ey 0 8
      · rw [eighthN, if_neg h0, if_neg h8, hz]; exact fo_al .mul et (by rw [hq, hornN_cn]; exact hornN_al ey 1 8)
theorem rMod_b {w0 w : World} {F : List Seg} (H : Hp w0 w F) {k n : Int} (hk : i64ok k) (hn : 0 < n) (hn2 : n ≤ 33554432) : Ret Tryd.prog 45 [.int .i64 k, .int .i64 n] w fun v w' => v = .int .i64 (k % n) ∧ Hp w0 w' F := by
  refine Calls.of_J (n := 12) Tryd.func45 rfl rfl rfl ?_
  refine J.seq ?_
  refine J.region ?_
  refine JL.go trivial (RX.assign) ?_
  refine JL.nil ?_
  refine J.seq ?_
  have e1 := Int.tmod_lt_of_pos k hn
  have e2 := Int.lt_tmod_of_pos k hn
  refine J.region ?_
  refine JL.go trivial (RX.movev (v := Value.int _ _) rfl) ?_
  refine JL.go trivial (RX.movev (v := Value.int _ _) rfl) ?_
  refine JL.go trivial (RX.rem rfl rfl (by omega) rfl) ?_
  refine JL.go trivial (RX.movev (v := Value.int _ _) rfl) ?_
  refine JL.go trivial (RX.add rfl rfl (w_i64 (r := k.tmod n + n) (by omega) (by omega) (by omega))) ?_
  refine JL.go trivial (RX.movev (v := Value.int _ _) rfl) ?_
  refine JL.go trivial (RX.rem rfl rfl (by omega) (tmod_up hn)) ?_
  refine JL.go trivial (RX.assignv (v := Value.int _ _) rfl) ?_
  refine JL.nil ?_
  refine J.ret1 (v := Value.int _ _) Tryd.func45 rfl rfl ?_
  exact ⟨_, rfl, rfl, H⟩
theorem rot1 (p : Nat × Nat) : rotN 1 p = (cn (fneg p.2), p.1) := rfl
theorem rot2 {p : Nat × Nat} : rotN 2 p = (cn (fneg p.1), cn (fneg p.2)) := rfl
theorem rot3 {p : Nat × Nat} (h : CnP p) : rotN 3 p = (p.2, cn (fneg p.1)) := by
  show (cn (fneg (cn (fneg p.2))), cn (fneg p.1)) = _
  rw [fneg_al (cn_cn (fneg p.2)), fneg_neg, h.2]
theorem rPair_b {w0 w : World} {F : List Seg} (H : Hp w0 w F) {n k : Int} (hn : 1 ≤ n) (hn2 : n ≤ 4194304) (hk : i64ok k) : Ret Tryd.prog 62 [.int .i64 n, .int .i64 k] w fun v w' => ∃ a b, v = .tuple #[.float .f64 a, .float .f64 b] ∧ cn a = (pairN n k).1 ∧ cn b = (pairN n k).2 ∧ Hp w0 w' F := by
  refine Calls.of_J (n := 64) Tryd.func62 rfl rfl rfl ?_
  refine J.seq ?_
  refine J.region ?_
  refine JL.go trivial (RX.assign) ?_
  refine JL.go trivial (RX.assign) ?_
  refine JL.nil ?_
  refine J.seq ?_
  have m0 := Int.emod_nonneg k (show n ≠ 0 by omega)
  have m1 := Int.emod_lt_of_pos k (show 0 < n by omega)
  have r0 := Int.emod_nonneg (4 * (k % n)) (show n ≠ 0 by omega)
  have r1 := Int.emod_lt_of_pos (4 * (k % n)) (show 0 < n by omega)
  have q0 := Int.ediv_nonneg (show 0 ≤ 4 * (k % n) by omega) (show 0 ≤ n by omega)
  have q1 : 4 * (k % n) / n < 4 := Int.ediv_lt_of_lt_mul (by omega) (by omega)
  have hcn := halfN_cn n (4 * (k % n))
  refine J.region ?_
  refine JL.go trivial (RX.movev (v := Value.int _ _) rfl) ?_
  refine JL.go trivial (RX.movev (v := Value.int _ _) rfl) ?_
  refine JL.does trivial (EX.call rfl cl45 rfl ((rMod_b H hk (by omega) (by omega)))) ?_
  rintro _ w ⟨rfl, H⟩
  refine JL.go trivial (RX.mul rfl rfl (w_i64 (r := 4 * (k % n)) (by omega) (by omega) (by omega))) ?_
  refine JL.go trivial (RX.assignv (v := Value.int _ _) rfl) ?_
  refine JL.nil ?_
  refine J.seq ?_
  refine J.quietH H hmix (by kernel_rfl) ?_
  refine JQ.go trivial (fun w H => RX.movev (v := Value.int _ _) rfl) ?_
  refine JQ.go trivial (fun w H => RX.movev (v := Value.int _ _) rfl) ?_
  refine JQ.go trivial (fun w H => RX.quo rfl rfl (by omega) (w_i64 (r := 4 * (k % n) / n) (Int.tdiv_eq_ediv_of_nonneg (by omega)) (by omega) (by omega))) ?_
  refine JQ.go trivial (fun w H => RX.movev (v := Value.int _ _) rfl) ?_
  refine JQ.go trivial (fun w H => RX.movev (v := Value.int _ _) rfl) ?_
  refine JQ.go trivial (fun w H => RX.rem rfl rfl (by omega) (r := 4 * (k % n) % n) (Int.tmod_eq_emod_of_nonneg (by omega))) ?_
  refine JQ.go trivial (fun w H => RX.assignv (v := Value.int _ _) rfl) ?_
  refine JQ.go trivial (fun w H => RX.assignv (v := Value.int _ _) rfl) ?_
  refine JQ.nil fun w H => ?_
  refine J.seq ?_
  refine J.region ?_
  refine JL.go trivial (RX.assign) ?_
  refine JL.go trivial (RX.assign) ?_
  refine JL.nil ?_
  refine J.seq ?_
  refine J.seq ?_
  refine J.region ?_
  refine JL.go trivial (RX.movev (v := Value.int _ _) rfl) ?_
  refine JL.go trivial (RX.mul rfl rfl (w_i64 (r := 2 * (4 * (k % n) % n)) (by omega) (by omega) (by omega))) ?_
  refine JL.go trivial (RX.movev (v := Value.int _ _) rfl) ?_
  refine JL.go trivial (RX.le rfl rfl) ?_
  refine JL.nil ?_
  refine J.join (ι := Nat × Nat) (fun z => [(9, .float .f64 z.1), (10, .float .f64 z.2)]) (fun z w => (cn z.1 = (halfN n (4 * (k % n))).1 ∧ cn z.2 = (halfN n (4 * (k % n))).2) ∧ Hp w0 w F) [(7, _)] ⟨rfl, trivial⟩ ?_ ?_
  rotate_left
  · skip
    intro k2 hk2
    refine J.cond_d rfl (fun hh => ?_) (fun hh => ?_)
    · skip
      refine J.region ?_
      refine JL.go trivial (RX.movev (v := Value.int _ _) rfl) ?_
      refine JL.go trivial (RX.movev (v := Value.int _ _) rfl) ?_
      refine JL.go trivial (RX.mul rfl rfl (w_i64 (r := 4 * n) (by omega) (by omega) (by omega))) ?_
      refine JL.does trivial (EX.call rfl cl73 rfl ((rEighth_b H (by omega) (by omega) (by omega) (by omega)))) ?_
      rintro _ w ⟨c, s, rfl, hc, hs, H⟩
      replace hc : cn c = (halfN n (4 * (k % n))).1 := by rw [halfN, if_pos hh]; exact hc
      replace hs : cn s = (halfN n (4 * (k % n))).2 := by rw [halfN, if_pos hh]; exact hs
      refine JL.go trivial (RX.movev (v := Value.tuple _) rfl) ?_
      refine JL.go trivial (RX.extract rfl rfl) ?_
      refine JL.go trivial (RX.extract rfl rfl) ?_
      refine JL.go trivial (RX.assignv (v := Value.float _ _) rfl) ?_
      refine JL.go trivial (RX.assignv (v := Value.float _ _) rfl) ?_
      refine JL.nil ?_
      exact hk2 (c, s) _ _ ⟨rfl, trivial⟩ ⟨rfl, rfl, trivial⟩ ⟨⟨hc, hs⟩, H⟩
    · skip
      refine J.region ?_
      refine JL.go trivial (RX.movev (v := Value.int _ _) rfl) ?_
      refine JL.go trivial (RX.movev (v := Value.int _ _) rfl) ?_
      refine JL.go trivial (RX.sub rfl rfl (w_i64 (r := n - 4 * (k % n) % n) (by omega) (by omega) (by omega))) ?_
      refine JL.go trivial (RX.movev (v := Value.int _ _) rfl) ?_
      refine JL.go trivial (RX.mul rfl rfl (w_i64 (r := 4 * n) (by omega) (by omega) (by omega))) ?_
      refine JL.does trivial (EX.call rfl cl73 rfl ((rEighth_b H (by omega) (by omega) (by omega) (by omega)))) ?_
      rintro _ w ⟨s, c, rfl, hs, hc, H⟩
      replace hc : cn c = (halfN n (4 * (k % n))).1 := by rw [halfN, if_neg hh]; exact hc
      replace hs : cn s = (halfN n (4 * (k % n))).2 := by rw [halfN, if_neg hh]; exact hs
      refine JL.go trivial (RX.movev (v := Value.tuple _) rfl) ?_
      refine JL.go trivial (RX.extract rfl rfl) ?_
      refine JL.go trivial (RX.extract rfl rfl) ?_
      refine JL.go trivial (RX.assignv (v := Value.float _ _) rfl) ?_
      refine JL.go trivial (RX.assignv (v := Value.float _ _) rfl) ?_
      refine JL.nil ?_
      exact hk2 (c, s) _ _ ⟨rfl, trivial⟩ ⟨rfl, rfl, trivial⟩ ⟨⟨hc, hs⟩, H⟩
  · skip
    clear H
    rintro ⟨c, s⟩ ρ w ⟨⟨hc, hs⟩, H⟩
    simp only at hc hs H
    try dsimp only
    refine J.seq ?_
    refine J.seq ?_
    refine J.region ?_
    refine JL.go trivial (RX.movev (v := Value.int _ _) rfl) ?_
    refine JL.nil ?_
    refine J.block ?_
    refine J.seq ?_
    refine J.region ?_
    refine JL.go trivial (RX.eq rfl rfl) ?_
    refine JL.go trivial (RX.assignv (v := Value.bool _) rfl) ?_
    refine JL.nil ?_
    refine J.join (ι := Nat × Nat) (fun z => [(9, .float .f64 z.1), (10, .float .f64 z.2)]) (fun z w => (cn z.1 = (rotN (4 * (k % n) / n).toNat (halfN n (4 * (k % n)))).1 ∧ cn z.2 = (rotN (4 * (k % n) / n).toNat (halfN n (4 * (k % n)))).2) ∧ Hp w0 w F) [] trivial ?_ ?_
    rotate_left
    · skip
      intro k2 hk2
      refine J.cond_d rfl (fun e1 => ?_) (fun e1 => ?_)
      · skip
        refine J.region ?_
        refine JL.go trivial (RX.movev (v := Value.float _ _) rfl) ?_
        refine JL.go trivial (RX.fneg rfl) ?_
        refine JL.go trivial (RX.movev (v := Value.float _ _) rfl) ?_
        refine JL.go trivial (RX.assignv (v := Value.float _ _) rfl) ?_
        refine JL.go trivial (RX.assignv (v := Value.float _ _) rfl) ?_
        refine JL.nil ?_
        first
        | exact hk2 (fneg s, c) _ _ trivial ⟨rfl, rfl, trivial⟩ ⟨by rw [show (4 * (k % n) / n).toNat = 1 by omega, rot1]; exact ⟨fneg_al (by rw [hs, hcn.2]), hc⟩, H⟩
        | exact hk2 (fneg c, fneg s) _ _ trivial ⟨rfl, rfl, trivial⟩ ⟨by rw [show (4 * (k % n) / n).toNat = 2 by omega, rot2]; exact ⟨fneg_al (by rw [hc, hcn.1]), fneg_al (by rw [hs, hcn.2])⟩, H⟩
        | exact hk2 (s, fneg c) _ _ trivial ⟨rfl, rfl, trivial⟩ ⟨by rw [show (4 * (k % n) / n).toNat = 3 by omega, rot3 hcn]; exact ⟨hs, fneg_al (by rw [hc, hcn.1])⟩, H⟩
        | exact hk2 (c, s) _ _ trivial ⟨rfl, rfl, trivial⟩ ⟨by rw [show (4 * (k % n) / n).toNat = 0 by omega]; exact ⟨hc, hs⟩, H⟩
      · skip
        refine J.seq ?_
        refine J.region ?_
        refine JL.go trivial (RX.eq rfl rfl) ?_
        refine JL.go trivial (RX.assignv (v := Value.bool _) rfl) ?_
        refine JL.nil ?_
        refine J.cond_d rfl (fun e2 => ?_) (fun e2 => ?_)
        · skip
          refine J.region ?_
          refine JL.go trivial (RX.movev (v := Value.float _ _) rfl) ?_
          refine JL.go trivial (RX.fneg rfl) ?_
          refine JL.go trivial (RX.movev (v := Value.float _ _) rfl) ?_
          refine JL.go trivial (RX.fneg rfl) ?_
          refine JL.go trivial (RX.assignv (v := Value.float _ _) rfl) ?_
          refine JL.go trivial (RX.assignv (v := Value.float _ _) rfl) ?_
          refine JL.nil ?_
          first
          | exact hk2 (fneg s, c) _ _ trivial ⟨rfl, rfl, trivial⟩ ⟨by rw [show (4 * (k % n) / n).toNat = 1 by omega, rot1]; exact ⟨fneg_al (by rw [hs, hcn.2]), hc⟩, H⟩
          | exact hk2 (fneg c, fneg s) _ _ trivial ⟨rfl, rfl, trivial⟩ ⟨by rw [show (4 * (k % n) / n).toNat = 2 by omega, rot2]; exact ⟨fneg_al (by rw [hc, hcn.1]), fneg_al (by rw [hs, hcn.2])⟩, H⟩
          | exact hk2 (s, fneg c) _ _ trivial ⟨rfl, rfl, trivial⟩ ⟨by rw [show (4 * (k % n) / n).toNat = 3 by omega, rot3 hcn]; exact ⟨hs, fneg_al (by rw [hc, hcn.1])⟩, H⟩
          | exact hk2 (c, s) _ _ trivial ⟨rfl, rfl, trivial⟩ ⟨by rw [show (4 * (k % n) / n).toNat = 0 by omega]; exact ⟨hc, hs⟩, H⟩
        · skip
          refine J.seq ?_
          refine J.region ?_
          refine JL.go trivial (RX.eq rfl rfl) ?_
          refine JL.go trivial (RX.assignv (v := Value.bool _) rfl) ?_
          refine JL.nil ?_
          refine J.cond_d rfl (fun e3 => ?_) (fun e3 => ?_)
          · skip
            refine J.region ?_
            refine JL.go trivial (RX.movev (v := Value.float _ _) rfl) ?_
            refine JL.go trivial (RX.movev (v := Value.float _ _) rfl) ?_
            refine JL.go trivial (RX.fneg rfl) ?_
            refine JL.go trivial (RX.assignv (v := Value.float _ _) rfl) ?_
            refine JL.go trivial (RX.assignv (v := Value.float _ _) rfl) ?_
            refine JL.nil ?_
            first
            | exact hk2 (fneg s, c) _ _ trivial ⟨rfl, rfl, trivial⟩ ⟨by rw [show (4 * (k % n) / n).toNat = 1 by omega, rot1]; exact ⟨fneg_al (by rw [hs, hcn.2]), hc⟩, H⟩
            | exact hk2 (fneg c, fneg s) _ _ trivial ⟨rfl, rfl, trivial⟩ ⟨by rw [show (4 * (k % n) / n).toNat = 2 by omega, rot2]; exact ⟨fneg_al (by rw [hc, hcn.1]), fneg_al (by rw [hs, hcn.2])⟩, H⟩
            | exact hk2 (s, fneg c) _ _ trivial ⟨rfl, rfl, trivial⟩ ⟨by rw [show (4 * (k % n) / n).toNat = 3 by omega, rot3 hcn]; exact ⟨hs, fneg_al (by rw [hc, hcn.1])⟩, H⟩
            | exact hk2 (c, s) _ _ trivial ⟨rfl, rfl, trivial⟩ ⟨by rw [show (4 * (k % n) / n).toNat = 0 by omega]; exact ⟨hc, hs⟩, H⟩
          · skip
            refine J.skip ?_
            first
            | exact hk2 (fneg s, c) _ _ trivial ⟨rfl, rfl, trivial⟩ ⟨by rw [show (4 * (k % n) / n).toNat = 1 by omega, rot1]; exact ⟨fneg_al (by rw [hs, hcn.2]), hc⟩, H⟩
            | exact hk2 (fneg c, fneg s) _ _ trivial ⟨rfl, rfl, trivial⟩ ⟨by rw [show (4 * (k % n) / n).toNat = 2 by omega, rot2]; exact ⟨fneg_al (by rw [hc, hcn.1]), fneg_al (by rw [hs, hcn.2])⟩, H⟩
            | exact hk2 (s, fneg c) _ _ trivial ⟨rfl, rfl, trivial⟩ ⟨by rw [show (4 * (k % n) / n).toNat = 3 by omega, rot3 hcn]; exact ⟨hs, fneg_al (by rw [hc, hcn.1])⟩, H⟩
            | exact hk2 (c, s) _ _ trivial ⟨rfl, rfl, trivial⟩ ⟨by rw [show (4 * (k % n) / n).toNat = 0 by omega]; exact ⟨hc, hs⟩, H⟩
    · skip
      clear H hc hs c s
      rintro ⟨c, s⟩ ρ w ⟨⟨hc, hs⟩, H⟩
      simp only at hc hs H
      try dsimp only
      refine J.inBlock ?_
      refine J.seq ?_
      refine J.seq ?_
      refine J.region ?_
      refine JL.go trivial (RX.movev (v := Value.float _ _) rfl) ?_
      refine JL.go trivial (RX.feq rfl rfl) ?_
      refine JL.nil ?_
      refine J.join (ι := Nat) (fun a => [(9, .float .f64 a)]) (fun a w => cn a = plusN c ∧ Hp w0 w F) [(10, _)] ⟨rfl, trivial⟩ ?_ ?_
      rotate_left
      · skip
        intro k2 hk2
        refine J.cond rfl (fun z1 => ?_) (fun z1 => ?_)
        · skip
          refine J.region ?_
          refine JL.go trivial (RX.assign) ?_
          refine JL.nil ?_
          first
          | exact hk2 0 _ _ ⟨rfl, trivial⟩ ⟨rfl, trivial⟩ ⟨by rw [plusN, if_pos (show (ford c 0 == some .eq) = true from z1)]; decide, H⟩
          | exact hk2 c _ _ ⟨rfl, trivial⟩ ⟨rfl, trivial⟩ ⟨by rw [plusN, if_neg (by rw [show (ford c 0 == some .eq) = false from z1]; decide)], H⟩
        · skip
          refine J.skip ?_
          first
          | exact hk2 0 _ _ ⟨rfl, trivial⟩ ⟨rfl, trivial⟩ ⟨by rw [plusN, if_pos (show (ford c 0 == some .eq) = true from z1)]; decide, H⟩
          | exact hk2 c _ _ ⟨rfl, trivial⟩ ⟨rfl, trivial⟩ ⟨by rw [plusN, if_neg (by rw [show (ford c 0 == some .eq) = false from z1]; decide)], H⟩
      · skip
        clear H
        rintro a ρ w ⟨ha, H⟩
        refine J.seq ?_
        refine J.seq ?_
        refine J.region ?_
        refine JL.go trivial (RX.movev (v := Value.float _ _) rfl) ?_
        refine JL.go trivial (RX.feq rfl rfl) ?_
        refine JL.nil ?_
        refine J.join (ι := Nat) (fun a => [(10, .float .f64 a)]) (fun a w => cn a = plusN s ∧ Hp w0 w F) [(9, _)] ⟨rfl, trivial⟩ ?_ ?_
        rotate_left
        · skip
          intro k2 hk2
          refine J.cond rfl (fun z2 => ?_) (fun z2 => ?_)
          · skip
            refine J.region ?_
            refine JL.go trivial (RX.assign) ?_
            refine JL.nil ?_
            first
            | exact hk2 0 _ _ ⟨rfl, trivial⟩ ⟨rfl, trivial⟩ ⟨by rw [plusN, if_pos (show (ford s 0 == some .eq) = true from z2)]; decide, H⟩
            | exact hk2 s _ _ ⟨rfl, trivial⟩ ⟨rfl, trivial⟩ ⟨by rw [plusN, if_neg (by rw [show (ford s 0 == some .eq) = false from z2]; decide)], H⟩
          · skip
            refine J.skip ?_
            first
            | exact hk2 0 _ _ ⟨rfl, trivial⟩ ⟨rfl, trivial⟩ ⟨by rw [plusN, if_pos (show (ford s 0 == some .eq) = true from z2)]; decide, H⟩
            | exact hk2 s _ _ ⟨rfl, trivial⟩ ⟨rfl, trivial⟩ ⟨by rw [plusN, if_neg (by rw [show (ford s 0 == some .eq) = false from z2]; decide)], H⟩
        · skip
          clear H
          rintro b ρ w ⟨hb, H⟩
          refine J.seq ?_
          refine J.region ?_
          refine JL.go trivial (RX.movev (v := Value.float _ _) rfl) ?_
          refine JL.go trivial (RX.movev (v := Value.float _ _) rfl) ?_
          refine JL.go trivial (RX.assignv (v := Value.float _ _) rfl) ?_
          refine JL.go trivial (RX.assignv (v := Value.float _ _) rfl) ?_
          refine JL.nil ?_
          refine J.ret2 (v := Value.float _ _) (x := Value.float _ _) Tryd.func62 rfl rfl rfl ?_
          have hrc := rotN_cn hcn (4 * (k % n) / n).toNat
          exact ⟨_, rfl, _, _, rfl, by rw [ha, pairN]; exact plusN_al (by rw [hc, hrc.1]), by rw [hb, pairN]; exact plusN_al (by rw [hs, hrc.2]), H⟩
theorem rRoot_b {w0 w : World} {F : List Seg} (H : Hp w0 w F) {n k : Int} (hn : 1 ≤ n) (hn2 : n ≤ 4194304) (hk : i64ok k) : Ret Tryd.prog 44 [.int .i64 n, .int .i64 k] w fun v w' => ∃ a b, v = .complex .f64 a b ∧ cn a = (rootN n k).1 ∧ cn b = (rootN n k).2 ∧ Hp w0 w' F := by
  refine Calls.of_J (n := 21) Tryd.func44 rfl rfl rfl ?_
  refine J.seq ?_
  refine J.region ?_
  refine JL.go trivial (RX.assign) ?_
  refine JL.nil ?_
  refine J.seq ?_
  refine J.region ?_
  refine JL.go trivial (RX.movev (v := Value.int _ _) rfl) ?_
  refine JL.go trivial (RX.movev (v := Value.int _ _) rfl) ?_
  refine JL.does trivial (EX.call rfl cl62 rfl ((rPair_b H hn hn2 hk))) ?_
  rintro _ w ⟨c, s, rfl, hc, hs, H⟩
  have hsb : cn s = cn (pairN n k).2 := by rw [hs]; exact (plusN_cn _).symm
  refine JL.go trivial (RX.movev (v := Value.tuple _) rfl) ?_
  refine JL.go trivial (RX.extract rfl rfl) ?_
  refine JL.go trivial (RX.extract rfl rfl) ?_
  refine JL.go trivial (RX.assignv (v := Value.float _ _) rfl) ?_
  refine JL.go trivial (RX.assignv (v := Value.float _ _) rfl) ?_
  refine JL.nil ?_
  refine J.seq ?_
  refine J.seq ?_
  refine J.region ?_
  refine JL.go trivial (RX.movev (v := Value.float _ _) rfl) ?_
  refine JL.go trivial (RX.feq rfl rfl) ?_
  refine JL.nil ?_
  refine J.cond rfl (fun hz => ?_) (fun hz => ?_)
  · skip
    refine J.seq ?_
    refine J.region ?_
    refine JL.go trivial (RX.movev (v := Value.float _ _) rfl) ?_
    refine JL.go trivial (RX.complex rfl rfl) ?_
    refine JL.go trivial (RX.assignv (v := Value.complex _ _ _) rfl) ?_
    refine JL.nil ?_
    refine J.ret1 (v := Value.complex _ _ _) Tryd.func44 rfl rfl ?_
    refine ⟨_, rfl, _, _, rfl, hc, ?_, H⟩
    rw [rootN]
    show cn 0 = plusN (fneg (pairN n k).2)
    rw [← plusN_al (fneg_al hsb), plusN, if_pos (by rw [ford_neg]; exact hz)]; decide
  · skip
    refine J.skip ?_
    refine J.seq ?_
    refine J.region ?_
    refine JL.go trivial (RX.movev (v := Value.float _ _) rfl) ?_
    refine JL.go trivial (RX.movev (v := Value.float _ _) rfl) ?_
    refine JL.go trivial (RX.fneg rfl) ?_
    refine JL.go trivial (RX.complex rfl rfl) ?_
    refine JL.go trivial (RX.assignv (v := Value.complex _ _ _) rfl) ?_
    refine JL.nil ?_
    refine J.ret1 (v := Value.complex _ _ _) Tryd.func44 rfl rfl ?_
    refine ⟨_, rfl, _, _, rfl, hc, ?_, H⟩
    rw [rootN]
    show cn (fneg s) = plusN (fneg (pairN n k).2)
    rw [← plusN_al (fneg_al hsb), plusN, if_neg (by rw [ford_neg, show (ford s 0 == some .eq) = false from hz]; decide)]
theorem RowUp.snoc {n : Int} {m : Nat} {xs : List Value} {a b : Nat} (h : RowUp n m xs) (hm : xs.length = m) (ha : cn a = (rootN n m).1) (hb : cn b = (rootN n m).2) : RowUp n (m + 1) (xs ++ [.complex .f64 a b]) := by
  intro k hk
  by_cases e : k = m
  · subst e
    exact ⟨a, b, by rw [← hm]; simp, ha, hb⟩
  · rw [List.getElem?_append_left (by omega)]
    exact h k (by omega)
theorem rAll_b {w0 w : World} {F : List Seg} (H : Hp w0 w F) {n : Int} (hn : 1 ≤ n) (hn2 : n ≤ 16384) : Ret Tryd.prog 46 [.int .i64 n] w fun v w' => ∃ p c xs sl, v = .tuple #[.slice p n.toNat c, .int .i64 0] ∧ OwnSl 26 1 p n.toNat c xs sl ∧ RowOf n xs ∧ Hp w0 w' (sl :: F) := by
  refine Calls.of_J (n := 25) Tryd.func46 rfl rfl rfl ?_
  refine J.seq ?_
  refine J.region ?_
  refine JL.go trivial (RX.assign) ?_
  refine JL.go trivial (RX.assign) ?_
  refine JL.nil ?_
  refine J.seq ?_
  refine J.seq ?_
  refine J.region ?_
  refine JL.go trivial (RX.movev (v := Value.int _ _) rfl) ?_
  refine JL.go trivial (RX.lt rfl rfl) ?_
  refine JL.go trivial (RX.movev (v := Value.bool _) rfl) ?_
  refine JL.go ⟨_, rfl, (decide_eq_false (by omega))⟩ (RX.movev (v := Value.int _ _) rfl) ?_
  refine JL.go ⟨_, rfl, (decide_eq_false (by omega))⟩ (RX.gt rfl rfl) ?_
  refine JL.go trivial (RX.pick_f rfl (decide_eq_false (by omega))) ?_
  refine JL.nil ?_
  refine J.cond_f rfl (decide_eq_false (by omega)) ?_
  refine J.skip ?_
  refine J.seq ?_
  refine J.region ?_
  refine JL.does trivial (EX.buildSlice0 H elC) ?_
  rintro _ w ⟨b0, rfl, H⟩
  refine JL.go trivial (RX.assignv (v := Value.slice _ _ _) rfl) ?_
  refine JL.nil ?_
  refine J.seq ?_
  refine J.seq ?_
  refine J.region ?_
  refine JL.go trivial (RX.assign) ?_
  refine JL.nil ?_
  refine J.block ?_
  refine J.loop (ι := Nat × List Value × Option Addr × Nat × Seg) (S := fun z => [(5, .int .i64 (z.1 : Nat)), (4, .slice z.2.2.1 z.1 z.2.2.2.1)]) (Φ := fun z w => z.1 ≤ n.toNat ∧ OwnSl 26 1 z.2.2.1 z.1 z.2.2.2.1 z.2.1 z.2.2.2.2 ∧ RowUp n z.1 z.2.1 ∧ Hp w0 w (z.2.2.2.2 :: F)) (μ := fun z => n.toNat - z.1) (C := [(0, _)]) (0, [], some ⟨b0, 0, none⟩, 0, [(b0, cel [] 26)]) ⟨rfl, trivial⟩ ⟨rfl, rfl, trivial⟩ ?_ ?_
  · exact ⟨by simp, OwnSl.empty, fun k hk => absurd hk (by simp), H⟩
  clear H
  rintro ⟨k, xs, p, c, sl⟩ ρ w ⟨hk, ho, hr, H⟩ IH
  simp only at hk ho hr H
  have hxl := ho.1
  dsimp only
  refine J.seq ?_
  refine J.seq ?_
  refine J.region ?_
  refine JL.go trivial (RX.movev (v := Value.int _ _) rfl) ?_
  refine JL.go trivial (RX.movev (v := Value.int _ _) rfl) ?_
  refine JL.go trivial (RX.lt rfl rfl) ?_
  refine JL.nil ?_
  refine J.cond_d rfl (fun hlt => ?_) (fun hlt => ?_)
  · skip
    refine J.skip ?_
    refine J.seq ?_
    refine J.block ?_
    refine J.region ?_
    refine JL.go trivial (RX.movev (v := Value.slice _ _ _) rfl) ?_
    refine JL.go trivial (RX.movev (v := Value.int _ _) rfl) ?_
    refine JL.go trivial (RX.movev (v := Value.int _ _) rfl) ?_
    refine JL.does trivial (EX.call rfl cl44 rfl ((rRoot_b H hn (by omega) (by constructor <;> omega)))) ?_
    rintro _ w ⟨a, b, rfl, ha, hb, H⟩
    refine JL.does trivial (EX.buildSlice1 H elC rfl rfl) ?_
    rintro _ w ⟨bz, rfl, H⟩
    refine JL.does trivial (EX.append (ys := [.complex .f64 a b]) (L' := fun s' => [(bz, cel [.complex .f64 a b] 26)] :: s' :: F) H elC rfl rfl (i := 1) rfl ho (SlAt.here rfl) rfl (fun v hv => by rw [List.mem_singleton.1 hv]; rfl) (by decide) (by omega) (by omega) (fun _ => rfl)) ?_
    rintro _ w ⟨p3, c3, s3, rfl, ho3, H⟩
    refine JL.go trivial (RX.assignv (v := Value.slice _ _ _) rfl) ?_
    refine JL.nil ?_
    refine J.inBlock ?_
    refine J.region ?_
    refine JL.go trivial (RX.movev (v := Value.int _ _) rfl) ?_
    refine JL.go trivial (RX.add rfl rfl (w_i64 (r := ((k + 1 : Nat) : Int)) (by omega) (by omega) (by omega))) ?_
    refine JL.go trivial (RX.assignv (v := Value.int _ _) rfl) ?_
    refine JL.nil ?_
    exact IH (k + 1, xs ++ [.complex .f64 a b], p3, c3, s3) _ _ (by simp only; omega) ⟨rfl, trivial⟩ ⟨rfl, rfl, trivial⟩ ⟨by simp only; omega, ho3, hr.snoc (by omega) ha hb, H.drop⟩
  · skip
    have hkk : k = n.toNat := by omega
    subst hkk
    refine J.exit rfl ?_
    refine J.seq ?_
    refine J.region ?_
    refine JL.go trivial (RX.movev (v := Value.slice _ _ _) rfl) ?_
    refine JL.go trivial (RX.assignv (v := Value.slice _ _ _) rfl) ?_
    refine JL.go trivial (RX.assign) ?_
    refine JL.nil ?_
    refine J.ret2 (v := Value.slice _ _ _) (x := Value.int _ _) Tryd.func46 rfl rfl rfl ?_
    exact ⟨_, rfl, p, c, xs, sl, rfl, ho, ⟨by omega, hr⟩, H⟩
end Go.Proofs.YtmppcnbkfjeabaaDoor

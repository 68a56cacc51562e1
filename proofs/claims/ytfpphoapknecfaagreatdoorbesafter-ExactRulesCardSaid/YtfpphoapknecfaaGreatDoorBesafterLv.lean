/- The fixed facts that the laws ask. -/
import Derived.Test.YtfpphoapknecfaaGreatDoorBesafterSn
import Derived.Test.YtfpphoapknecfaaGreatDoorBesafterEx
namespace Go.Proofs.YtfpphoapknecfaaGreatDoorBesafter
open Go Go.Eng
set_option maxRecDepth 100000
set_option linter.unusedVariables false
set_option linter.unusedSimpArgs false
theorem cl11 : callable Tryz.prog 11 = true := by kernel_rfl
theorem cl12 : callable Tryz.prog 12 = true := by kernel_rfl
theorem cl13 : callable Tryz.prog 13 = true := by kernel_rfl
theorem cl14 : callable Tryz.prog 14 = true := by kernel_rfl
theorem cl15 : callable Tryz.prog 15 = true := by kernel_rfl
theorem cl5 : callable Tryz.prog 5 = true := by kernel_rfl
theorem cl7 : callable Tryz.prog 7 = true := by kernel_rfl
theorem cl9 : callable Tryz.prog 9 = true := by kernel_rfl
theorem exF : exE [1, 2].length 0 = 0 ∧ exL [1, 2] 0 false = [3, 2013265920] := by
  have hr : pw 2013265921 31 1006632960 = 2013265920 := by rw [← pm_eq _ 32 _ _ (by decide)]; decide +kernel
  have e0 : exE [1, 2].length 0 = 0 := by decide
  refine ⟨e0, ?_⟩
  unfold exL
  rw [if_pos e0]
  show trL 2013265921 31 [1, 2] false = _
  unfold trL
  rw [show (2013265921 - 1) / [1, 2].length = 1006632960 from rfl, hr]
  decide +kernel
theorem exI : exE [3, 2013265920].length 0 = 0 ∧ exL [3, 2013265920] 0 true = [1, 2] := by
  have hr : pw 2013265921 31 1006632960 = 2013265920 := by rw [← pm_eq _ 32 _ _ (by decide)]; decide +kernel
  have hi : pw 2013265921 2 2013265919 = 1006632961 := by rw [← pm_eq _ 32 _ _ (by decide)]; decide +kernel
  have e0 : exE [3, 2013265920].length 0 = 0 := by decide
  refine ⟨e0, ?_⟩
  unfold exL
  rw [if_pos e0]
  show trL 2013265921 31 [3, 2013265920] true = _
  unfold trL
  rw [show (2013265921 - 1) / [3, 2013265920].length = 1006632960 from rfl, hr]
  simp only [if_true]
  rw [show [3, 2013265920].length = 2 from rfl, show 2013265921 - 2 = 2013265919 from rfl, hi]
  decide +kernel
theorem smF : smE [1, 2, 3, 4] [0, 0, 0, 0] = 0 ∧ smA [1, 2, 3, 4] [0, 0, 0, 0] = [10, -2, -2, -2] ∧ smB [1, 2, 3, 4] [0, 0, 0, 0] = [0, 2, 0, -2] := by decide +kernel
theorem Small_b {w0 w : World} {F : List Seg} {E : Nat → Value} {Q : Nat → Addr} (H : Hp w0 w F) (hE : Errs F E Q) {re im : List Int} {pr pi : Option Addr} {cr ci : Nat} (hsr : SlAt F pr (i64sV re)) (hsi : SlAt F pi (i64sV im)) (hre : i64all re) (him : i64all im) (hl : re.length ≤ 4611686018427387904) (hl2 : im.length ≤ 4611686018427387904) :
    Ret Tryz.prog 13 [.slice pr re.length cr, .slice pi im.length ci] w fun v w' => ∃ q1 q2 c1 c2 s1 s2, v = .tuple #[.slice q1 (smA re im).length c1, .slice q2 (smB re im).length c2, errV E (smE re im)] ∧ OwnSl 2 1 q1 (smA re im).length c1 (i64sV (smA re im)) s1 ∧ OwnSl 2 1 q2 (smB re im).length c2 (i64sV (smB re im)) s2 ∧ Hp w0 w' (s2 :: s1 :: F) := by
  have b1 : ∀ x ∈ re, x.natAbs ≤ 9223372036854775808 := fun x hx => by have := hre x hx; unfold i64in at this; omega
  have b2 : ∀ x ∈ im, x.natAbs ≤ 9223372036854775808 := fun x hx => by have := him x hx; unfold i64in at this; omega
  by_cases h : im.length = re.length
  · by_cases h1 : re.length = 1
    · exact small1_b H hE hsr hsi h1 h b1 b2
    by_cases h2 : re.length = 2
    · exact small2_b H hE hsr hsi h2 h b1 b2
    by_cases h4 : re.length = 4
    · exact small4_b H hE hsr hsi h4 h b1 b2
    · exact small_e2 H hE hsr hsi h h1 h2 h4 hl
  · exact small_e1 H hE hsr hsi h hl hl2
theorem smE_le (re im : List Int) : smE re im ≤ 19 := by unfold smE; split; split; all_goals omega
theorem smA_len (re im : List Int) : (smA re im).length ≤ 4 ∧ (smB re im).length ≤ 4 := by
  unfold smA smB
  by_cases h : smE re im = 0
  · rw [if_pos h, if_pos h]
    have hl : re.length ≤ 4 := by
      unfold smE at h
      split at h
      · omega
      · omega
    simp [smA0, smB0]; exact hl
  · rw [if_neg h, if_neg h]; simp

set_option maxHeartbeats 1600000 in
theorem lives_b {w0 w : World} {F : List Seg} {E : Nat → Value} {Q : Nat → Addr} (H : Hp w0 w F) (hE : Errs F E Q) : Ret Tryz.prog 4 [] w fun v w' => v = .bool true ∧ Hp w0 w' F := by
  refine Calls.of_J (n := 94) Tryz.func4 rfl rfl rfl ?_
  refine J.seq ?_
  refine J.region ?_
  refine JL.go trivial (RX.assign) ?_
  refine JL.nil ?_
  refine J.seq ?_
  refine J.region ?_
  refine JL.does trivial (EX.call rfl cl10 rfl ((Primes_b H))) ?_
  rintro _ w ⟨b1, rfl, H⟩
  refine JL.go trivial (RX.assignv (v := Value.slice _ _ _) rfl) ?_
  refine JL.nil ?_
  refine J.seq ?_
  refine J.region ?_
  refine JL.does trivial (EX.buildSlice (pv := [(0, .int .u64 1), (1, .int .u64 2)]) (l := u64sV [1, 2]) (e := 37) H rfl (by kernel_rfl)) ?_
  rintro _ w ⟨b2, rfl, H⟩
  refine JL.does trivial (EX.call rfl cl11 rfl ((Forward_b (xs := [1, 2]) (prime := 0) H hE.cons.cons (SlAt.here rfl) (by decide)))) ?_
  rintro _ w ⟨q1, c1, sl1, rfl, ho1, H⟩
  rw [exF.1, exF.2] at *
  refine JL.go trivial (RX.movev (v := .tuple _) rfl) ?_
  refine JL.go trivial (RX.extract rfl rfl) ?_
  refine JL.go trivial (RX.extract (v := .nilIface) rfl rfl) ?_
  refine JL.go trivial (RX.assignv (v := Value.slice _ _ _) rfl) ?_
  refine JL.go trivial (RX.assignv (v := .nilIface) rfl) ?_
  refine JL.nil ?_
  refine J.seq ?_
  refine J.region ?_
  refine JL.go trivial (RX.movev (v := Value.slice _ _ _) rfl) ?_
  refine JL.does trivial (EX.call rfl cl12 rfl ((Inverse2_b (xs := [3, 2013265920]) (prime := 0) H hE.cons.cons.cons ho1.slAt (by decide)))) ?_
  rintro _ w ⟨q2, c2, sl2, rfl, ho2, H⟩
  rw [exI.1, exI.2] at *
  refine JL.go trivial (RX.movev (v := .tuple _) rfl) ?_
  refine JL.go trivial (RX.extract rfl rfl) ?_
  refine JL.go trivial (RX.extract (v := .nilIface) rfl rfl) ?_
  refine JL.go trivial (RX.assignv (v := Value.slice _ _ _) rfl) ?_
  refine JL.go trivial (RX.assignv (v := .nilIface) rfl) ?_
  refine JL.nil ?_
  refine J.seq ?_
  refine J.region ?_
  refine JL.does trivial (EX.buildSlice (pv := [(0, .int .i64 1), (1, .int .i64 2)]) (l := i64sV [1, 2]) (e := 2) H rfl (by kernel_rfl)) ?_
  rintro _ w ⟨b3, rfl, H⟩
  refine JL.does trivial (EX.buildSlice (pv := [(0, .int .i64 3), (1, .int .i64 4), (2, .int .i64 5)]) (l := i64sV [3, 4, 5]) (e := 2) H rfl (by kernel_rfl)) ?_
  rintro _ w ⟨b4, rfl, H⟩
  refine JL.does trivial (EX.call rfl cl5 rfl ((linear1_b H (hE.cons.cons.cons.cons.cons.cons) (SlAt.cons (SlAt.here rfl)) (SlAt.here rfl)))) ?_
  rintro _ w ⟨b5, rfl, H⟩
  refine JL.go trivial (RX.movev (v := .tuple _) rfl) ?_
  refine JL.go trivial (RX.extract rfl rfl) ?_
  refine JL.go trivial (RX.extract (v := .nilIface) rfl rfl) ?_
  refine JL.go trivial (RX.assignv (v := Value.slice _ _ _) rfl) ?_
  refine JL.go trivial (RX.assignv (v := .nilIface) rfl) ?_
  refine JL.nil ?_
  refine J.seq ?_
  refine J.region ?_
  refine JL.does trivial (EX.buildSlice (pv := [(0, .int .i64 1), (1, .int .i64 2), (2, .int .i64 3)]) (l := i64sV [1, 2, 3]) (e := 2) H rfl (by kernel_rfl)) ?_
  rintro _ w ⟨b6, rfl, H⟩
  refine JL.does trivial (EX.buildSlice (pv := [(0, .int .i64 4), (1, .int .i64 5), (2, .int .i64 6)]) (l := i64sV [4, 5, 6]) (e := 2) H rfl (by kernel_rfl)) ?_
  rintro _ w ⟨b7, rfl, H⟩
  refine JL.does trivial (EX.call rfl cl9 rfl ((cyclic1_b H (hE.cons.cons.cons.cons.cons.cons.cons.cons.cons) (SlAt.cons (SlAt.here rfl)) (SlAt.here rfl)))) ?_
  rintro _ w ⟨b8, rfl, H⟩
  refine JL.go trivial (RX.movev (v := .tuple _) rfl) ?_
  refine JL.go trivial (RX.extract rfl rfl) ?_
  refine JL.go trivial (RX.extract (v := .nilIface) rfl rfl) ?_
  refine JL.go trivial (RX.assignv (v := Value.slice _ _ _) rfl) ?_
  refine JL.go trivial (RX.assignv (v := .nilIface) rfl) ?_
  refine JL.nil ?_
  refine J.seq ?_
  refine J.region ?_
  refine JL.does trivial (EX.buildSlice (pv := [(0, .int .i64 1), (1, .int .i64 2), (2, .int .i64 3), (3, .int .i64 4)]) (l := i64sV [1, 2, 3, 4]) (e := 2) H rfl (by kernel_rfl)) ?_
  rintro _ w ⟨b9, rfl, H⟩
  refine JL.does trivial (EX.makeS (e := 2) (m := 4) H mkI.1 mkI.2 rfl rfl rfl (by decide) (by decide) (by decide)) ?_
  rintro _ w ⟨b10, rfl, H⟩
  replace H : Hp w0 w ([(b10, cel (i64sV [0, 0, 0, 0]) 2)] :: _) := H
  refine JL.does trivial (EX.call rfl cl13 rfl ((Small_b (re := [1, 2, 3, 4]) (im := [0, 0, 0, 0]) H (hE.cons.cons.cons.cons.cons.cons.cons.cons.cons.cons.cons.cons) (SlAt.cons (SlAt.here rfl)) (SlAt.here rfl) (by decide) (by decide) (by decide) (by decide)))) ?_
  rintro _ w ⟨q3, q4, c3, c4, sl3, sl4, rfl, ho3, ho4, H⟩
  obtain ⟨k1, k2, k3⟩ := smF
  rw [k1, k2, k3] at *
  refine JL.go trivial (RX.movev (v := .tuple _) rfl) ?_
  refine JL.go trivial (RX.extract rfl rfl) ?_
  refine JL.go trivial (RX.extract rfl rfl) ?_
  refine JL.go trivial (RX.extract (v := .nilIface) rfl rfl) ?_
  refine JL.go trivial (RX.assignv (v := Value.slice _ _ _) rfl) ?_
  refine JL.go trivial (RX.assignv (v := Value.slice _ _ _) rfl) ?_
  refine JL.go trivial (RX.assignv (v := .nilIface) rfl) ?_
  refine JL.nil ?_
  refine J.seq ?_
  refine J.seq ?_
  refine J.region ?_
  refine JL.go trivial (RX.movev (v := .nilIface) rfl) ?_
  refine JL.go trivial (RX.ifnil_neq (v := .nilIface) rfl rfl rfl if25) ?_
  refine JL.go trivial (RX.movev (v := Value.bool _) rfl) ?_
  refine JL.go ⟨_, rfl, rfl⟩ (RX.movev (v := .nilIface) rfl) ?_
  refine JL.go ⟨_, rfl, rfl⟩ (RX.ifnil_neq (v := .nilIface) rfl rfl rfl if25) ?_
  refine JL.go trivial (RX.pick_f rfl rfl) ?_
  refine JL.go trivial (RX.movev (v := Value.bool _) rfl) ?_
  refine JL.go ⟨_, rfl, rfl⟩ (RX.movev (v := .nilIface) rfl) ?_
  refine JL.go ⟨_, rfl, rfl⟩ (RX.ifnil_neq (v := .nilIface) rfl rfl rfl if25) ?_
  refine JL.go trivial (RX.pick_f rfl rfl) ?_
  refine JL.go trivial (RX.movev (v := Value.bool _) rfl) ?_
  refine JL.go ⟨_, rfl, rfl⟩ (RX.movev (v := .nilIface) rfl) ?_
  refine JL.go ⟨_, rfl, rfl⟩ (RX.ifnil_neq (v := .nilIface) rfl rfl rfl if25) ?_
  refine JL.go trivial (RX.pick_f rfl rfl) ?_
  refine JL.go trivial (RX.movev (v := Value.bool _) rfl) ?_
  refine JL.go ⟨_, rfl, rfl⟩ (RX.movev (v := .nilIface) rfl) ?_
  refine JL.go ⟨_, rfl, rfl⟩ (RX.ifnil_neq (v := .nilIface) rfl rfl rfl if25) ?_
  refine JL.go trivial (RX.pick_f rfl rfl) ?_
  refine JL.nil ?_
  refine J.cond_f rfl rfl ?_
  refine J.skip ?_
  refine J.seq ?_
  refine J.region ?_
  refine JL.go trivial (RX.movev (v := Value.slice _ _ _) rfl) ?_
  refine JL.does trivial (EX.call rfl cl15 rfl ((rPrimes_b H))) ?_
  rintro _ w ⟨b11, rfl, H⟩
  refine JL.does trivial (EX.call rfl cl14 rfl ((sameU_b (a := primes3) (b := primes3) H (SlAt.cons (SlAt.cons (SlAt.cons (SlAt.cons (SlAt.cons (SlAt.cons (SlAt.cons (SlAt.cons (SlAt.cons (SlAt.cons (SlAt.cons (SlAt.cons (SlAt.cons (SlAt.cons (SlAt.here rfl))))))))))))))) (SlAt.here rfl) (by decide) (by decide)))) ?_
  rintro _ w ⟨rfl, H⟩
  refine JL.go trivial (RX.movev (v := Value.bool _) rfl) ?_
  refine JL.go ⟨_, rfl, (decide_eq_true rfl)⟩ (RX.movev (v := Value.slice _ _ _) rfl) ?_
  refine JL.does ⟨_, rfl, (decide_eq_true rfl)⟩ (EX.buildSlice (pv := [(0, .int .u64 3), (1, .int .u64 2013265920)]) (l := u64sV [3, 2013265920]) (e := 37) H rfl (by kernel_rfl)) ?_
  rintro _ w ⟨b12, rfl, H⟩
  refine JL.does ⟨_, rfl, (decide_eq_true rfl)⟩ (EX.call rfl cl14 rfl ((sameU_b (a := [3, 2013265920]) (b := [3, 2013265920]) H (SlAt.cons (SlAt.cons (SlAt.cons (SlAt.cons (SlAt.cons (SlAt.cons (SlAt.cons (SlAt.cons (SlAt.cons (SlAt.cons (SlAt.cons (SlAt.cons (SlAt.cons ho1.slAt))))))))))))) (SlAt.here rfl) (by decide) (by decide)))) ?_
  rintro _ w ⟨rfl, H⟩
  refine JL.go trivial (RX.pick_t rfl (decide_eq_true rfl)) ?_
  refine JL.go trivial (RX.movev (v := Value.bool _) rfl) ?_
  refine JL.go ⟨_, rfl, (decide_eq_true rfl)⟩ (RX.movev (v := Value.slice _ _ _) rfl) ?_
  refine JL.does ⟨_, rfl, (decide_eq_true rfl)⟩ (EX.buildSlice (pv := [(0, .int .u64 1), (1, .int .u64 2)]) (l := u64sV [1, 2]) (e := 37) H rfl (by kernel_rfl)) ?_
  rintro _ w ⟨b13, rfl, H⟩
  refine JL.does ⟨_, rfl, (decide_eq_true rfl)⟩ (EX.call rfl cl14 rfl ((sameU_b (a := [1, 2]) (b := [1, 2]) H (SlAt.cons (SlAt.cons (SlAt.cons (SlAt.cons (SlAt.cons (SlAt.cons (SlAt.cons (SlAt.cons (SlAt.cons (SlAt.cons (SlAt.cons (SlAt.cons (SlAt.cons ho2.slAt))))))))))))) (SlAt.here rfl) (by decide) (by decide)))) ?_
  rintro _ w ⟨rfl, H⟩
  refine JL.go trivial (RX.pick_t rfl (decide_eq_true rfl)) ?_
  refine JL.go trivial (RX.movev (v := Value.bool _) rfl) ?_
  refine JL.go ⟨_, rfl, (decide_eq_true rfl)⟩ (RX.movev (v := Value.slice _ _ _) rfl) ?_
  refine JL.does ⟨_, rfl, (decide_eq_true rfl)⟩ (EX.buildSlice (pv := [(0, .int .i64 3), (1, .int .i64 10), (2, .int .i64 13), (3, .int .i64 10)]) (l := i64sV [3, 10, 13, 10]) (e := 2) H rfl (by kernel_rfl)) ?_
  rintro _ w ⟨b14, rfl, H⟩
  refine JL.does ⟨_, rfl, (decide_eq_true rfl)⟩ (EX.call rfl cl7 rfl ((sameI_b (a := [3, 10, 13, 10]) (b := [3, 10, 13, 10]) H (SlAt.cons (SlAt.cons (SlAt.cons (SlAt.cons (SlAt.cons (SlAt.cons (SlAt.cons (SlAt.cons (SlAt.cons (SlAt.cons (SlAt.cons (SlAt.here rfl)))))))))))) (SlAt.here rfl) (by decide) (by decide)))) ?_
  rintro _ w ⟨rfl, H⟩
  refine JL.go trivial (RX.pick_t rfl (decide_eq_true rfl)) ?_
  refine JL.go trivial (RX.movev (v := Value.bool _) rfl) ?_
  refine JL.go ⟨_, rfl, (decide_eq_true rfl)⟩ (RX.movev (v := Value.slice _ _ _) rfl) ?_
  refine JL.does ⟨_, rfl, (decide_eq_true rfl)⟩ (EX.buildSlice (pv := [(0, .int .i64 31), (1, .int .i64 31), (2, .int .i64 28)]) (l := i64sV [31, 31, 28]) (e := 2) H rfl (by kernel_rfl)) ?_
  rintro _ w ⟨b15, rfl, H⟩
  refine JL.does ⟨_, rfl, (decide_eq_true rfl)⟩ (EX.call rfl cl7 rfl ((sameI_b (a := [31, 31, 28]) (b := [31, 31, 28]) H (SlAt.cons (SlAt.cons (SlAt.cons (SlAt.cons (SlAt.cons (SlAt.cons (SlAt.cons (SlAt.cons (SlAt.cons (SlAt.here rfl)))))))))) (SlAt.here rfl) (by decide) (by decide)))) ?_
  rintro _ w ⟨rfl, H⟩
  refine JL.go trivial (RX.pick_t rfl (decide_eq_true rfl)) ?_
  refine JL.go trivial (RX.movev (v := Value.bool _) rfl) ?_
  refine JL.go ⟨_, rfl, (decide_eq_true rfl)⟩ (RX.movev (v := Value.slice _ _ _) rfl) ?_
  refine JL.does ⟨_, rfl, (decide_eq_true rfl)⟩ (EX.buildSlice (pv := [(0, .int .i64 10), (1, .int .i64 (-2)), (2, .int .i64 (-2)), (3, .int .i64 (-2))]) (l := i64sV [10, -2, -2, -2]) (e := 2) H rfl (by kernel_rfl)) ?_
  rintro _ w ⟨b16, rfl, H⟩
  refine JL.does ⟨_, rfl, (decide_eq_true rfl)⟩ (EX.call rfl cl7 rfl ((sameI_b (a := [10, -2, -2, -2]) (b := [10, -2, -2, -2]) H (SlAt.cons (SlAt.cons (SlAt.cons (SlAt.cons (SlAt.cons (SlAt.cons (SlAt.cons ho3.slAt))))))) (SlAt.here rfl) (by decide) (by decide)))) ?_
  rintro _ w ⟨rfl, H⟩
  refine JL.go trivial (RX.pick_t rfl (decide_eq_true rfl)) ?_
  refine JL.go trivial (RX.movev (v := Value.bool _) rfl) ?_
  refine JL.go ⟨_, rfl, (decide_eq_true rfl)⟩ (RX.movev (v := Value.slice _ _ _) rfl) ?_
  refine JL.does ⟨_, rfl, (decide_eq_true rfl)⟩ (EX.buildSlice (pv := [(0, .int .i64 0), (1, .int .i64 2), (2, .int .i64 0), (3, .int .i64 (-2))]) (l := i64sV [0, 2, 0, -2]) (e := 2) H rfl (by kernel_rfl)) ?_
  rintro _ w ⟨b17, rfl, H⟩
  refine JL.does ⟨_, rfl, (decide_eq_true rfl)⟩ (EX.call rfl cl7 rfl ((sameI_b (a := [0, 2, 0, -2]) (b := [0, 2, 0, -2]) H (SlAt.cons (SlAt.cons (SlAt.cons (SlAt.cons (SlAt.cons (SlAt.cons (SlAt.cons ho4.slAt))))))) (SlAt.here rfl) (by decide) (by decide)))) ?_
  rintro _ w ⟨rfl, H⟩
  refine JL.go trivial (RX.pick_t rfl (decide_eq_true rfl)) ?_
  refine JL.go trivial (RX.assignv (v := Value.bool _) rfl) ?_
  refine JL.nil ?_
  refine J.ret1 (v := Value.bool _) Tryz.func4 rfl rfl ?_
  exact ⟨_, rfl, rfl, H.drop.drop.drop.drop.drop.drop.drop.drop.drop.drop.drop.drop.drop.drop.drop.drop.drop.drop.drop.drop.drop⟩
end Go.Proofs.YtfpphoapknecfaaGreatDoorBesafter

/- The law ExactTransforms: what it asks is so. -/
import Derived.Test.YtfdghjlfplhpjaaGreatDoorLv
import Derived.Test.YtfdghjlfplhpjaaGreatDoorRx
namespace Go.Proofs.YtfdghjlfplhpjaaGreatDoor
open Go Go.Eng
set_option maxRecDepth 100000
set_option linter.unusedVariables false
set_option linter.unusedSimpArgs false
theorem cl10 : callable Tryz.prog 10 = true := by kernel_rfl
theorem cl4 : callable Tryz.prog 4 = true := by kernel_rfl
theorem cl6 : callable Tryz.prog 6 = true := by kernel_rfl
theorem cl7 : callable Tryz.prog 7 = true := by kernel_rfl

theorem u64sV_last (l : List Nat) (x : Nat) : (u64sV (l ++ [x]))[l.length]? = some (.int .u64 ((x : Nat) : Int)) := u64sV_get (by simp)
theorem slu_front {L : List Seg} {p : Option Addr} {l : List Nat} {x : Nat} (h : SlAt L p (u64sV (l ++ [x]))) : SlAt L p (u64sV l) := by
  rw [u64sV_app] at h; exact h.pre
theorem exE_le (n : Nat) (prime : Int) : exE n prime ≤ 19 := by
  unfold exE
  split
  · omega
  · split
    · omega
    · split <;> omega
theorem exL_le (xs : List Nat) (prime : Int) (b : Bool) : (exL xs prime b).length ≤ xs.length := by
  unfold exL; split
  · simp [trL]
  · simp

set_option maxHeartbeats 1600000 in
theorem ExactTransforms_b {w0 w : World} {F : List Seg} {E : Nat → Value} {Q : Nat → Addr} (H : Hp w0 w F) (hE : Errs F E Q) {xs : List Nat} {px : Option Addr} {cx : Nat} {prime : Int} (hs : SlAt F px (u64sV xs)) (hx : ∀ x ∈ xs, x < 18446744073709551616) (hl : xs.length ≤ 1048576) : Ret Tryz.prog 3 [.slice px xs.length cx, .int .i64 prime] w fun v w' => v = .bool true ∧ Hp w0 w' F := by
  refine Calls.of_J (n := 134) Tryz.func3 rfl rfl rfl ?_
  refine J.seq ?_
  refine J.region ?_
  refine JL.go trivial (RX.assign) ?_
  refine JL.nil ?_
  refine J.seq ?_
  refine J.seq ?_
  have hA1 := exL_le xs prime false
  have hA2 := exL_le xs prime true
  have hEl := exE_le xs.length prime
  refine J.region ?_
  refine JL.does trivial (EX.call rfl cl4 rfl ((lives_b H hE))) ?_
  rintro _ w ⟨rfl, H⟩
  refine JL.go trivial (RX.not rfl) ?_
  refine JL.nil ?_
  refine J.cond_f rfl rfl ?_
  refine J.skip ?_
  refine J.seq ?_
  refine J.seq ?_
  refine J.region ?_
  refine JL.go trivial (RX.movev (v := Value.slice _ _ _) rfl) ?_
  refine JL.go trivial (RX.len_slice rfl (by rw [sl22]; rfl) rfl) ?_
  refine JL.go trivial (RX.gt rfl rfl) ?_
  refine JL.go trivial (RX.movev (v := Value.bool _) rfl) ?_
  refine JL.splitS 19 rfl (fun hg => ?_) (fun hg => ?_)
  · skip
    first | have hgp := of_decide_eq_true hg | skip
    refine JL.go ⟨_, rfl, hg⟩ (RX.movev (v := Value.slice _ _ _) rfl) ?_
    refine JL.go ⟨_, rfl, hg⟩ (RX.len_slice rfl (by rw [sl22]; rfl) rfl) ?_
    refine JL.go ⟨_, rfl, hg⟩ (RX.le rfl rfl) ?_
    refine JL.go trivial (RX.pick_t rfl hg) ?_
    refine JL.nil ?_
    refine J.cond_d rfl (fun h2 => ?_) (fun h2 => ?_)
    · skip
      refine J.seq ?_
      refine J.region ?_
      refine JL.go trivial (RX.assign) ?_
      refine JL.nil ?_
      refine J.ret1 (v := Value.bool _) Tryz.func3 rfl rfl ?_
      exact ⟨_, rfl, rfl, H⟩
    · skip
      refine J.skip ?_
      refine J.seq ?_
      refine J.region ?_
      refine JL.does trivial (EX.buildSlice0 H elU) ?_
      rintro _ w ⟨b0, rfl, H⟩
      refine JL.go trivial (RX.movev (v := Value.slice _ _ _) rfl) ?_
      refine JL.does trivial (EX.append (ys := u64sV xs) (L' := fun s' => s' :: F) H elU rfl rfl (i := 0) rfl OwnSl.empty hs.cons (by rw [u64sV_len, Nat.mul_one]) (u64sV_cell xs) (by decide) (by omega) (by omega) (fun _ => rfl)) ?_
      rintro _ w ⟨p1, c1, s1, rfl, ho1, H⟩
      rw [Nat.zero_add] at ho1 ⊢
      rw [List.nil_append] at ho1
      refine JL.does trivial (EX.buildSlice1 H elU rfl rfl) ?_
      rintro _ w ⟨bz, rfl, H⟩
      refine JL.does trivial (EX.append (ys := u64sV [5]) (L' := fun s' => [(bz, cel (u64sV [5]) 24)] :: s' :: F) H elU rfl rfl (i := 1) rfl ho1 (SlAt.here rfl) rfl (u64sV_cell [5]) (by decide) (by omega) (by omega) (fun _ => rfl)) ?_
      rintro _ w ⟨p1, c1, s1, rfl, ho1, H⟩
      replace ho1 : OwnSl 24 1 p1 (xs.length + 1) c1 (u64sV (xs ++ [5])) s1 := by rw [u64sV_app]; exact ho1
      replace H := H.drop
      have hle1 := ho1.le
      refine JL.go trivial (RX.assignv (v := Value.slice _ _ _) rfl) ?_
      refine JL.nil ?_
      refine J.seq ?_
      refine J.region ?_
      refine JL.go trivial (RX.movev (v := Value.slice _ _ _) rfl) ?_
      refine JL.go trivial (RX.movev (v := Value.slice _ _ _) rfl) ?_
      refine JL.go trivial (RX.len_slice rfl (by rw [sl22]; rfl) rfl) ?_
      refine JL.go trivial (RX.slice_h rfl rfl sl22 ho1.spot (by omega) (by omega) (r := xs.length) rfl) ?_
      refine JL.go trivial (RX.assignv (v := Value.slice _ _ _) rfl) ?_
      refine JL.nil ?_
      refine J.seq ?_
      refine J.region ?_
      refine JL.go trivial (RX.movev (v := Value.slice _ _ _) rfl) ?_
      refine JL.go trivial (RX.movev (v := Value.int _ _) rfl) ?_
      refine JL.does trivial (EX.call rfl cl5 rfl ((Forward_b (xs := xs) (prime := prime) H (hE.cons) (slu_front ho1.slAt) hx))) ?_
      rintro _ w ⟨q2, k2, r2, rfl, hq2, H⟩
      refine JL.go trivial (RX.movev (v := .tuple _) rfl) ?_
      refine JL.go trivial (RX.extract rfl rfl) ?_
      refine JL.go trivial (RX.extract (v := errV E (exE xs.length prime)) rfl rfl) ?_
      refine JL.go trivial (RX.assignv (v := Value.slice _ _ _) rfl) ?_
      refine JL.go trivial (RX.assignv (v := errV E (exE xs.length prime)) rfl) ?_
      refine JL.nil ?_
      refine J.seq ?_
      refine J.region ?_
      refine JL.go trivial (RX.movev (v := Value.slice _ _ _) rfl) ?_
      refine JL.go trivial (RX.movev (v := Value.int _ _) rfl) ?_
      refine JL.does trivial (EX.call rfl cl5 rfl ((Forward_b (xs := xs) (prime := prime) H (hE.cons.cons) (slu_front (SlAt.cons ho1.slAt)) hx))) ?_
      rintro _ w ⟨q3, k3, r3, rfl, hq3, H⟩
      refine JL.go trivial (RX.movev (v := .tuple _) rfl) ?_
      refine JL.go trivial (RX.extract rfl rfl) ?_
      refine JL.go trivial (RX.extract (v := errV E (exE xs.length prime)) rfl rfl) ?_
      refine JL.go trivial (RX.assignv (v := Value.slice _ _ _) rfl) ?_
      refine JL.go trivial (RX.assignv (v := errV E (exE xs.length prime)) rfl) ?_
      refine JL.nil ?_
      refine J.seq ?_
      refine J.region ?_
      refine JL.go trivial (RX.movev (v := Value.slice _ _ _) rfl) ?_
      refine JL.go trivial (RX.movev (v := Value.int _ _) rfl) ?_
      refine JL.does trivial (EX.call rfl cl6 rfl ((rForward_b (xs := xs) (prime := prime) H (SlAt.cons (SlAt.cons (SlAt.cons hs))) hx))) ?_
      rintro _ w ⟨q4, k4, r4, rfl, hq4, H⟩
      refine JL.go trivial (RX.movev (v := .tuple _) rfl) ?_
      refine JL.go trivial (RX.extract rfl rfl) ?_
      refine JL.go trivial (RX.extract rfl rfl) ?_
      refine JL.go trivial (RX.assignv (v := Value.slice _ _ _) rfl) ?_
      refine JL.go trivial (RX.assignv (v := Value.int _ _) rfl) ?_
      refine JL.nil ?_
      refine J.seq ?_
      refine J.seq ?_
      have x1 := ho1
      obtain ⟨g1, l1, rfl, rfl, _⟩ := x1.ptr (by omega)
      refine J.region ?_
      refine JL.go trivial (RX.movev (v := errV E (exE xs.length prime)) rfl) ?_
      refine JL.does trivial (EX.call rfl cl7 rfl ((Num_b H (hE.cons.cons.cons.cons) hEl))) ?_
      rintro _ w ⟨rfl, H⟩
      refine JL.go trivial (RX.movev (v := Value.int _ _) rfl) ?_
      refine JL.go trivial (RX.ne rfl rfl) ?_
      refine JL.go trivial (RX.movev (v := Value.bool _) rfl) ?_
      refine JL.go ⟨_, rfl, (decide_eq_false (fun h => h rfl))⟩ (RX.movev (v := Value.slice _ _ _) rfl) ?_
      refine JL.go ⟨_, rfl, (decide_eq_false (fun h => h rfl))⟩ (RX.movev (v := Value.slice _ _ _) rfl) ?_
      refine JL.does ⟨_, rfl, (decide_eq_false (fun h => h rfl))⟩ (EX.call rfl cl8 rfl ((sameU_b (a := exL xs prime false) (b := exL xs prime false) H (SlAt.cons (SlAt.cons hq2.slAt)) hq4.slAt (by omega) (by omega)))) ?_
      rintro _ w ⟨rfl, H⟩
      refine JL.go ⟨_, rfl, (decide_eq_false (fun h => h rfl))⟩ (RX.not rfl) ?_
      refine JL.go trivial (RX.pick_f rfl (decide_eq_false (fun h => h rfl))) ?_
      refine JL.go trivial (RX.movev (v := Value.bool _) rfl) ?_
      refine JL.go ⟨_, rfl, (congrArg not (decide_eq_true rfl))⟩ (RX.movev (v := Value.slice _ _ _) rfl) ?_
      refine JL.go ⟨_, rfl, (congrArg not (decide_eq_true rfl))⟩ (RX.movev (v := Value.slice _ _ _) rfl) ?_
      refine JL.does ⟨_, rfl, (congrArg not (decide_eq_true rfl))⟩ (EX.call rfl cl8 rfl ((sameU_b (a := xs) (b := xs) H (slu_front (SlAt.cons (SlAt.cons (SlAt.cons ho1.slAt)))) (SlAt.cons (SlAt.cons (SlAt.cons (SlAt.cons hs)))) (by omega) (by omega)))) ?_
      rintro _ w ⟨rfl, H⟩
      refine JL.go ⟨_, rfl, (congrArg not (decide_eq_true rfl))⟩ (RX.not rfl) ?_
      refine JL.go trivial (RX.pick_f rfl (congrArg not (decide_eq_true rfl))) ?_
      refine JL.go trivial (RX.movev (v := Value.bool _) rfl) ?_
      refine JL.go ⟨_, rfl, (congrArg not (decide_eq_true rfl))⟩ (RX.movev (v := Value.slice _ _ _) rfl) ?_
      refine JL.go ⟨_, rfl, (congrArg not (decide_eq_true rfl))⟩ (RX.movev (v := Value.slice _ _ _) rfl) ?_
      refine JL.go ⟨_, rfl, (congrArg not (decide_eq_true rfl))⟩ (RX.len_slice rfl (by rw [sl22]; rfl) rfl) ?_
      refine JL.go ⟨_, rfl, (congrArg not (decide_eq_true rfl))⟩ (RX.indexAddr rfl rfl sl22 (by omega) (by omega) (o' := xs.length) (by omega)) ?_
      refine JL.go ⟨_, rfl, (congrArg not (decide_eq_true rfl))⟩ (RX.loadS H (SlAt.cons (SlAt.cons (SlAt.cons ho1.slAt))) rfl (j := xs.length) (by omega) (v := .int .u64 ((5 : Nat) : Int)) (u64sV_last xs 5) one24) ?_
      refine JL.go ⟨_, rfl, (congrArg not (decide_eq_true rfl))⟩ (RX.ne rfl rfl) ?_
      refine JL.go trivial (RX.pick_f rfl (congrArg not (decide_eq_true rfl))) ?_
      refine JL.nil ?_
      refine J.cond_f rfl (decide_eq_false (fun h => h rfl)) ?_
      refine J.skip ?_
      refine J.seq ?_
      refine J.seq ?_
      refine J.region ?_
      refine JL.go trivial (RX.movev (v := Value.slice _ _ _) rfl) ?_
      refine JL.go trivial (RX.len_slice rfl (by rw [sl22]; rfl) rfl) ?_
      refine JL.go trivial (RX.move) ?_
      refine JL.nil ?_
      refine J.block ?_
      refine J.loop (ι := Nat × List Nat × Seg) (S := fun z => [(77, .int .i64 ((z.1 : Nat) : Int))]) (Φ := fun z w => z.1 ≤ (exL xs prime false).length ∧ z.2.1.length = (exL xs prime false).length ∧ OwnSl 24 1 q2 (exL xs prime false).length k2 (u64sV z.2.1) z.2.2 ∧ Hp w0 w (r4 :: r3 :: z.2.2 :: [(g1, cel l1 24)] :: F)) (μ := fun z => (exL xs prime false).length - z.1) (C := [(0, _), (1, _), (5, _), (6, _), (7, _), (9, _), (11, _), (76, _)]) (0, exL xs prime false, r2) ⟨rfl, rfl, rfl, rfl, rfl, rfl, rfl, rfl, trivial⟩ ⟨rfl, trivial⟩ ?_ ?_
      · exact ⟨by simp, rfl, hq2, H⟩
      clear H hq2
      rintro ⟨i, ys, sl⟩ ρ w ⟨hi, hyl, hq2, H⟩ IH
      simp only at hi hyl hq2 H
      dsimp only
      refine J.seq ?_
      refine J.region ?_
      refine JL.go trivial (RX.lt rfl rfl) ?_
      refine JL.nil ?_
      refine J.seq ?_
      refine J.cond_d rfl (fun hlt => ?_) (fun hlt => ?_)
      · skip
        obtain ⟨g, l, rfl, rfl, _, hll, _⟩ := hq2.ptr (by omega)
        have hkl := hq2.le
        refine J.skip ?_
        refine J.seq ?_
        refine J.block ?_
        refine J.seq ?_
        refine J.region ?_
        refine JL.go trivial (RX.movev (v := Value.int _ _) rfl) ?_
        refine JL.go trivial (RX.assignv (v := Value.int _ _) rfl) ?_
        refine JL.nil ?_
        refine J.region ?_
        refine JL.go trivial (RX.movev (v := Value.slice _ _ _) rfl) ?_
        refine JL.go trivial (RX.movev (v := Value.int _ _) rfl) ?_
        refine JL.go trivial (RX.indexAddr rfl rfl sl22 (by omega) (by omega) (o' := i) (by omega)) ?_
        refine JL.does trivial (EX.store (v := Value.int _ _) H rfl rfl (i := 2) rfl rfl (by omega) sz24 rfl rfl) ?_
        rintro _ w H
        refine JL.nil ?_
        refine J.inBlock ?_
        refine J.region ?_
        refine JL.go trivial (RX.add rfl rfl (wi (n := i + 1) (by omega) (by omega))) ?_
        refine JL.go trivial (RX.movev (v := Value.int _ _) rfl) ?_
        refine JL.nil ?_
        have ho9 := hq2.set (o := i) (v := .int .u64 ((3 : Nat) : Int))
        rw [← u64sV_set] at ho9
        exact IH (i + 1, ys.set i 3, _) _ _ (by simp only; omega) ⟨rfl, rfl, rfl, rfl, rfl, rfl, rfl, rfl, trivial⟩ ⟨rfl, trivial⟩ ⟨by simp only; omega, by simp only [List.length_set]; exact hyl, ho9, H⟩
      · skip
        clear IH
        refine J.exit rfl ?_
        refine J.seq ?_
        refine J.region ?_
        refine JL.go trivial (RX.movev (v := Value.slice _ _ _) rfl) ?_
        refine JL.does trivial (EX.buildSlice1 H elU rfl rfl) ?_
        rintro _ w ⟨bz, rfl, H⟩
        refine JL.does trivial (EX.append (ys := u64sV [4]) (L' := fun s' => [(bz, cel (u64sV [4]) 24)] :: r4 :: r3 :: s' :: [(g1, cel l1 24)] :: F) H elU rfl rfl (i := 3) rfl hq2 (SlAt.here rfl) rfl (u64sV_cell [4]) (by decide) (by omega) (by omega) (fun _ => rfl)) ?_
        rintro _ w ⟨p7, c7, s7, rfl, ho7, H⟩
        replace ho7 : OwnSl 24 1 p7 ((exL xs prime false).length + 1) c7 (u64sV (ys ++ [4])) s7 := by rw [u64sV_app]; exact ho7
        replace H := H.drop
        have hle7 := ho7.le
        refine JL.go trivial (RX.assignv (v := Value.slice _ _ _) rfl) ?_
        refine JL.nil ?_
        refine J.seq ?_
        refine J.seq ?_
        have x7 := ho7
        obtain ⟨g7, l7, rfl, rfl, _⟩ := x7.ptr (by omega)
        refine J.region ?_
        refine JL.go trivial (RX.movev (v := Value.slice _ _ _) rfl) ?_
        refine JL.go trivial (RX.movev (v := Value.slice _ _ _) rfl) ?_
        refine JL.does trivial (EX.call rfl cl8 rfl ((sameU_b (a := exL xs prime false) (b := exL xs prime false) H (SlAt.cons hq3.slAt) hq4.slAt (by omega) (by omega)))) ?_
        rintro _ w ⟨rfl, H⟩
        refine JL.go trivial (RX.not rfl) ?_
        refine JL.go trivial (RX.movev (v := Value.bool _) rfl) ?_
        refine JL.go ⟨_, rfl, (congrArg not (decide_eq_true rfl))⟩ (RX.movev (v := Value.slice _ _ _) rfl) ?_
        refine JL.go ⟨_, rfl, (congrArg not (decide_eq_true rfl))⟩ (RX.movev (v := Value.slice _ _ _) rfl) ?_
        refine JL.go ⟨_, rfl, (congrArg not (decide_eq_true rfl))⟩ (RX.len_slice rfl (by rw [sl22]; rfl) rfl) ?_
        refine JL.go ⟨_, rfl, (congrArg not (decide_eq_true rfl))⟩ (RX.sub rfl rfl (wi (n := (exL xs prime false).length) (by omega) (by omega))) ?_
        refine JL.go ⟨_, rfl, (congrArg not (decide_eq_true rfl))⟩ (RX.indexAddr rfl rfl sl22 (by omega) (by omega) (o' := (exL xs prime false).length) (by omega)) ?_
        refine JL.go ⟨_, rfl, (congrArg not (decide_eq_true rfl))⟩ (RX.loadS H (SlAt.cons (SlAt.cons ho7.slAt)) rfl (j := (exL xs prime false).length) (by omega) (v := .int .u64 ((4 : Nat) : Int)) (by rw [← hyl]; exact u64sV_last ys 4) one24) ?_
        refine JL.go ⟨_, rfl, (congrArg not (decide_eq_true rfl))⟩ (RX.ne rfl rfl) ?_
        refine JL.go trivial (RX.pick_f rfl (congrArg not (decide_eq_true rfl))) ?_
        refine JL.nil ?_
        refine J.cond_f rfl (decide_eq_false (fun h => h rfl)) ?_
        refine J.skip ?_
        refine J.seq ?_
        refine J.region ?_
        refine JL.go trivial (RX.movev (v := Value.slice _ _ _) rfl) ?_
        refine JL.go trivial (RX.movev (v := Value.int _ _) rfl) ?_
        refine JL.does trivial (EX.call rfl cl9 rfl ((Inverse2_b (xs := xs) (prime := prime) H (hE.cons.cons.cons.cons) (slu_front (SlAt.cons (SlAt.cons (SlAt.cons ho1.slAt)))) hx))) ?_
        rintro _ w ⟨q8, k8, r8, rfl, hq8, H⟩
        refine JL.go trivial (RX.movev (v := .tuple _) rfl) ?_
        refine JL.go trivial (RX.extract rfl rfl) ?_
        refine JL.go trivial (RX.extract (v := errV E (exE xs.length prime)) rfl rfl) ?_
        refine JL.go trivial (RX.assignv (v := Value.slice _ _ _) rfl) ?_
        refine JL.go trivial (RX.assignv (v := errV E (exE xs.length prime)) rfl) ?_
        refine JL.nil ?_
        refine J.seq ?_
        refine J.region ?_
        refine JL.go trivial (RX.movev (v := Value.slice _ _ _) rfl) ?_
        refine JL.go trivial (RX.movev (v := Value.int _ _) rfl) ?_
        refine JL.does trivial (EX.call rfl cl10 rfl ((rInverse_b (xs := xs) (prime := prime) H (SlAt.cons (SlAt.cons (SlAt.cons (SlAt.cons (SlAt.cons hs))))) hx))) ?_
        rintro _ w ⟨q9, k9, r9, rfl, hq9, H⟩
        refine JL.go trivial (RX.movev (v := .tuple _) rfl) ?_
        refine JL.go trivial (RX.extract rfl rfl) ?_
        refine JL.go trivial (RX.extract rfl rfl) ?_
        refine JL.go trivial (RX.assignv (v := Value.slice _ _ _) rfl) ?_
        refine JL.go trivial (RX.assignv (v := Value.int _ _) rfl) ?_
        refine JL.nil ?_
        refine J.seq ?_
        refine J.region ?_
        refine JL.go trivial (RX.movev (v := errV E (exE xs.length prime)) rfl) ?_
        refine JL.does trivial (EX.call rfl cl7 rfl ((Num_b H (hE.cons.cons.cons.cons.cons.cons) hEl))) ?_
        rintro _ w ⟨rfl, H⟩
        refine JL.go trivial (RX.movev (v := Value.int _ _) rfl) ?_
        refine JL.go trivial (RX.eq rfl rfl) ?_
        refine JL.go trivial (RX.movev (v := Value.bool _) rfl) ?_
        refine JL.go ⟨_, rfl, (decide_eq_true rfl)⟩ (RX.movev (v := Value.slice _ _ _) rfl) ?_
        refine JL.go ⟨_, rfl, (decide_eq_true rfl)⟩ (RX.movev (v := Value.slice _ _ _) rfl) ?_
        refine JL.does ⟨_, rfl, (decide_eq_true rfl)⟩ (EX.call rfl cl8 rfl ((sameU_b (a := exL xs prime true) (b := exL xs prime true) H (SlAt.cons hq8.slAt) hq9.slAt (by omega) (by omega)))) ?_
        rintro _ w ⟨rfl, H⟩
        refine JL.go trivial (RX.pick_t rfl (decide_eq_true rfl)) ?_
        refine JL.go trivial (RX.movev (v := Value.bool _) rfl) ?_
        refine JL.go ⟨_, rfl, (decide_eq_true rfl)⟩ (RX.movev (v := Value.slice _ _ _) rfl) ?_
        refine JL.go ⟨_, rfl, (decide_eq_true rfl)⟩ (RX.movev (v := Value.slice _ _ _) rfl) ?_
        refine JL.does ⟨_, rfl, (decide_eq_true rfl)⟩ (EX.call rfl cl8 rfl ((sameU_b (a := xs) (b := xs) H (slu_front (SlAt.cons (SlAt.cons (SlAt.cons (SlAt.cons (SlAt.cons ho1.slAt)))))) (SlAt.cons (SlAt.cons (SlAt.cons (SlAt.cons (SlAt.cons (SlAt.cons hs)))))) (by omega) (by omega)))) ?_
        rintro _ w ⟨rfl, H⟩
        refine JL.go trivial (RX.pick_t rfl (decide_eq_true rfl)) ?_
        refine JL.go trivial (RX.movev (v := Value.bool _) rfl) ?_
        refine JL.go ⟨_, rfl, (decide_eq_true rfl)⟩ (RX.movev (v := Value.slice _ _ _) rfl) ?_
        refine JL.go ⟨_, rfl, (decide_eq_true rfl)⟩ (RX.movev (v := Value.slice _ _ _) rfl) ?_
        refine JL.go ⟨_, rfl, (decide_eq_true rfl)⟩ (RX.len_slice rfl (by rw [sl22]; rfl) rfl) ?_
        refine JL.go ⟨_, rfl, (decide_eq_true rfl)⟩ (RX.indexAddr rfl rfl sl22 (by omega) (by omega) (o' := xs.length) (by omega)) ?_
        refine JL.go ⟨_, rfl, (decide_eq_true rfl)⟩ (RX.loadS H (SlAt.cons (SlAt.cons (SlAt.cons (SlAt.cons (SlAt.cons ho1.slAt))))) rfl (j := xs.length) (by omega) (v := .int .u64 ((5 : Nat) : Int)) (u64sV_last xs 5) one24) ?_
        refine JL.go ⟨_, rfl, (decide_eq_true rfl)⟩ (RX.eq rfl rfl) ?_
        refine JL.go trivial (RX.pick_t rfl (decide_eq_true rfl)) ?_
        refine JL.go trivial (RX.assignv (v := Value.bool _) rfl) ?_
        refine JL.nil ?_
        refine J.ret1 (v := Value.bool _) Tryz.func3 rfl rfl ?_
        exact ⟨_, rfl, rfl, H.drop.drop.drop.drop.drop.drop⟩
  · skip
    first | have hgp := of_decide_eq_false hg | skip
    refine JL.no ⟨_, rfl, gno hg⟩ ?_
    refine JL.no ⟨_, rfl, gno hg⟩ ?_
    refine JL.no ⟨_, rfl, gno hg⟩ ?_
    refine JL.go trivial (RX.pick_f rfl hg) ?_
    refine JL.nil ?_
    refine J.cond_f rfl rfl ?_
    refine J.skip ?_
    refine J.seq ?_
    refine J.region ?_
    refine JL.does trivial (EX.buildSlice0 H elU) ?_
    rintro _ w ⟨b0, rfl, H⟩
    refine JL.go trivial (RX.movev (v := Value.slice _ _ _) rfl) ?_
    refine JL.does trivial (EX.append (ys := u64sV xs) (L' := fun s' => s' :: F) H elU rfl rfl (i := 0) rfl OwnSl.empty hs.cons (by rw [u64sV_len, Nat.mul_one]) (u64sV_cell xs) (by decide) (by omega) (by omega) (fun _ => rfl)) ?_
    rintro _ w ⟨p1, c1, s1, rfl, ho1, H⟩
    rw [Nat.zero_add] at ho1 ⊢
    rw [List.nil_append] at ho1
    refine JL.does trivial (EX.buildSlice1 H elU rfl rfl) ?_
    rintro _ w ⟨bz, rfl, H⟩
    refine JL.does trivial (EX.append (ys := u64sV [5]) (L' := fun s' => [(bz, cel (u64sV [5]) 24)] :: s' :: F) H elU rfl rfl (i := 1) rfl ho1 (SlAt.here rfl) rfl (u64sV_cell [5]) (by decide) (by omega) (by omega) (fun _ => rfl)) ?_
    rintro _ w ⟨p1, c1, s1, rfl, ho1, H⟩
    replace ho1 : OwnSl 24 1 p1 (xs.length + 1) c1 (u64sV (xs ++ [5])) s1 := by rw [u64sV_app]; exact ho1
    replace H := H.drop
    have hle1 := ho1.le
    refine JL.go trivial (RX.assignv (v := Value.slice _ _ _) rfl) ?_
    refine JL.nil ?_
    refine J.seq ?_
    refine J.region ?_
    refine JL.go trivial (RX.movev (v := Value.slice _ _ _) rfl) ?_
    refine JL.go trivial (RX.movev (v := Value.slice _ _ _) rfl) ?_
    refine JL.go trivial (RX.len_slice rfl (by rw [sl22]; rfl) rfl) ?_
    refine JL.go trivial (RX.slice_h rfl rfl sl22 ho1.spot (by omega) (by omega) (r := xs.length) rfl) ?_
    refine JL.go trivial (RX.assignv (v := Value.slice _ _ _) rfl) ?_
    refine JL.nil ?_
    refine J.seq ?_
    refine J.region ?_
    refine JL.go trivial (RX.movev (v := Value.slice _ _ _) rfl) ?_
    refine JL.go trivial (RX.movev (v := Value.int _ _) rfl) ?_
    refine JL.does trivial (EX.call rfl cl5 rfl ((Forward_b (xs := xs) (prime := prime) H (hE.cons) (slu_front ho1.slAt) hx))) ?_
    rintro _ w ⟨q2, k2, r2, rfl, hq2, H⟩
    refine JL.go trivial (RX.movev (v := .tuple _) rfl) ?_
    refine JL.go trivial (RX.extract rfl rfl) ?_
    refine JL.go trivial (RX.extract (v := errV E (exE xs.length prime)) rfl rfl) ?_
    refine JL.go trivial (RX.assignv (v := Value.slice _ _ _) rfl) ?_
    refine JL.go trivial (RX.assignv (v := errV E (exE xs.length prime)) rfl) ?_
    refine JL.nil ?_
    refine J.seq ?_
    refine J.region ?_
    refine JL.go trivial (RX.movev (v := Value.slice _ _ _) rfl) ?_
    refine JL.go trivial (RX.movev (v := Value.int _ _) rfl) ?_
    refine JL.does trivial (EX.call rfl cl5 rfl ((Forward_b (xs := xs) (prime := prime) H (hE.cons.cons) (slu_front (SlAt.cons ho1.slAt)) hx))) ?_
    rintro _ w ⟨q3, k3, r3, rfl, hq3, H⟩
    refine JL.go trivial (RX.movev (v := .tuple _) rfl) ?_
    refine JL.go trivial (RX.extract rfl rfl) ?_
    refine JL.go trivial (RX.extract (v := errV E (exE xs.length prime)) rfl rfl) ?_
    refine JL.go trivial (RX.assignv (v := Value.slice _ _ _) rfl) ?_
    refine JL.go trivial (RX.assignv (v := errV E (exE xs.length prime)) rfl) ?_
    refine JL.nil ?_
    refine J.seq ?_
    refine J.region ?_
    refine JL.go trivial (RX.movev (v := Value.slice _ _ _) rfl) ?_
    refine JL.go trivial (RX.movev (v := Value.int _ _) rfl) ?_
    refine JL.does trivial (EX.call rfl cl6 rfl ((rForward_b (xs := xs) (prime := prime) H (SlAt.cons (SlAt.cons (SlAt.cons hs))) hx))) ?_
    rintro _ w ⟨q4, k4, r4, rfl, hq4, H⟩
    refine JL.go trivial (RX.movev (v := .tuple _) rfl) ?_
    refine JL.go trivial (RX.extract rfl rfl) ?_
    refine JL.go trivial (RX.extract rfl rfl) ?_
    refine JL.go trivial (RX.assignv (v := Value.slice _ _ _) rfl) ?_
    refine JL.go trivial (RX.assignv (v := Value.int _ _) rfl) ?_
    refine JL.nil ?_
    refine J.seq ?_
    refine J.seq ?_
    have x1 := ho1
    obtain ⟨g1, l1, rfl, rfl, _⟩ := x1.ptr (by omega)
    refine J.region ?_
    refine JL.go trivial (RX.movev (v := errV E (exE xs.length prime)) rfl) ?_
    refine JL.does trivial (EX.call rfl cl7 rfl ((Num_b H (hE.cons.cons.cons.cons) hEl))) ?_
    rintro _ w ⟨rfl, H⟩
    refine JL.go trivial (RX.movev (v := Value.int _ _) rfl) ?_
    refine JL.go trivial (RX.ne rfl rfl) ?_
    refine JL.go trivial (RX.movev (v := Value.bool _) rfl) ?_
    refine JL.go ⟨_, rfl, (decide_eq_false (fun h => h rfl))⟩ (RX.movev (v := Value.slice _ _ _) rfl) ?_
    refine JL.go ⟨_, rfl, (decide_eq_false (fun h => h rfl))⟩ (RX.movev (v := Value.slice _ _ _) rfl) ?_
    refine JL.does ⟨_, rfl, (decide_eq_false (fun h => h rfl))⟩ (EX.call rfl cl8 rfl ((sameU_b (a := exL xs prime false) (b := exL xs prime false) H (SlAt.cons (SlAt.cons hq2.slAt)) hq4.slAt (by omega) (by omega)))) ?_
    rintro _ w ⟨rfl, H⟩
    refine JL.go ⟨_, rfl, (decide_eq_false (fun h => h rfl))⟩ (RX.not rfl) ?_
    refine JL.go trivial (RX.pick_f rfl (decide_eq_false (fun h => h rfl))) ?_
    refine JL.go trivial (RX.movev (v := Value.bool _) rfl) ?_
    refine JL.go ⟨_, rfl, (congrArg not (decide_eq_true rfl))⟩ (RX.movev (v := Value.slice _ _ _) rfl) ?_
    refine JL.go ⟨_, rfl, (congrArg not (decide_eq_true rfl))⟩ (RX.movev (v := Value.slice _ _ _) rfl) ?_
    refine JL.does ⟨_, rfl, (congrArg not (decide_eq_true rfl))⟩ (EX.call rfl cl8 rfl ((sameU_b (a := xs) (b := xs) H (slu_front (SlAt.cons (SlAt.cons (SlAt.cons ho1.slAt)))) (SlAt.cons (SlAt.cons (SlAt.cons (SlAt.cons hs)))) (by omega) (by omega)))) ?_
    rintro _ w ⟨rfl, H⟩
    refine JL.go ⟨_, rfl, (congrArg not (decide_eq_true rfl))⟩ (RX.not rfl) ?_
    refine JL.go trivial (RX.pick_f rfl (congrArg not (decide_eq_true rfl))) ?_
    refine JL.go trivial (RX.movev (v := Value.bool _) rfl) ?_
    refine JL.go ⟨_, rfl, (congrArg not (decide_eq_true rfl))⟩ (RX.movev (v := Value.slice _ _ _) rfl) ?_
    refine JL.go ⟨_, rfl, (congrArg not (decide_eq_true rfl))⟩ (RX.movev (v := Value.slice _ _ _) rfl) ?_
    refine JL.go ⟨_, rfl, (congrArg not (decide_eq_true rfl))⟩ (RX.len_slice rfl (by rw [sl22]; rfl) rfl) ?_
    refine JL.go ⟨_, rfl, (congrArg not (decide_eq_true rfl))⟩ (RX.indexAddr rfl rfl sl22 (by omega) (by omega) (o' := xs.length) (by omega)) ?_
    refine JL.go ⟨_, rfl, (congrArg not (decide_eq_true rfl))⟩ (RX.loadS H (SlAt.cons (SlAt.cons (SlAt.cons ho1.slAt))) rfl (j := xs.length) (by omega) (v := .int .u64 ((5 : Nat) : Int)) (u64sV_last xs 5) one24) ?_
    refine JL.go ⟨_, rfl, (congrArg not (decide_eq_true rfl))⟩ (RX.ne rfl rfl) ?_
    refine JL.go trivial (RX.pick_f rfl (congrArg not (decide_eq_true rfl))) ?_
    refine JL.nil ?_
    refine J.cond_f rfl (decide_eq_false (fun h => h rfl)) ?_
    refine J.skip ?_
    refine J.seq ?_
    refine J.seq ?_
    refine J.region ?_
    refine JL.go trivial (RX.movev (v := Value.slice _ _ _) rfl) ?_
    refine JL.go trivial (RX.len_slice rfl (by rw [sl22]; rfl) rfl) ?_
    refine JL.go trivial (RX.move) ?_
    refine JL.nil ?_
    refine J.block ?_
    refine J.loop (ι := Nat × List Nat × Seg) (S := fun z => [(77, .int .i64 ((z.1 : Nat) : Int))]) (Φ := fun z w => z.1 ≤ (exL xs prime false).length ∧ z.2.1.length = (exL xs prime false).length ∧ OwnSl 24 1 q2 (exL xs prime false).length k2 (u64sV z.2.1) z.2.2 ∧ Hp w0 w (r4 :: r3 :: z.2.2 :: [(g1, cel l1 24)] :: F)) (μ := fun z => (exL xs prime false).length - z.1) (C := [(0, _), (1, _), (5, _), (6, _), (7, _), (9, _), (11, _), (76, _)]) (0, exL xs prime false, r2) ⟨rfl, rfl, rfl, rfl, rfl, rfl, rfl, rfl, trivial⟩ ⟨rfl, trivial⟩ ?_ ?_
    · exact ⟨by simp, rfl, hq2, H⟩
    clear H hq2
    rintro ⟨i, ys, sl⟩ ρ w ⟨hi, hyl, hq2, H⟩ IH
    simp only at hi hyl hq2 H
    dsimp only
    refine J.seq ?_
    refine J.region ?_
    refine JL.go trivial (RX.lt rfl rfl) ?_
    refine JL.nil ?_
    refine J.seq ?_
    refine J.cond_d rfl (fun hlt => ?_) (fun hlt => ?_)
    · skip
      obtain ⟨g, l, rfl, rfl, _, hll, _⟩ := hq2.ptr (by omega)
      have hkl := hq2.le
      refine J.skip ?_
      refine J.seq ?_
      refine J.block ?_
      refine J.seq ?_
      refine J.region ?_
      refine JL.go trivial (RX.movev (v := Value.int _ _) rfl) ?_
      refine JL.go trivial (RX.assignv (v := Value.int _ _) rfl) ?_
      refine JL.nil ?_
      refine J.region ?_
      refine JL.go trivial (RX.movev (v := Value.slice _ _ _) rfl) ?_
      refine JL.go trivial (RX.movev (v := Value.int _ _) rfl) ?_
      refine JL.go trivial (RX.indexAddr rfl rfl sl22 (by omega) (by omega) (o' := i) (by omega)) ?_
      refine JL.does trivial (EX.store (v := Value.int _ _) H rfl rfl (i := 2) rfl rfl (by omega) sz24 rfl rfl) ?_
      rintro _ w H
      refine JL.nil ?_
      refine J.inBlock ?_
      refine J.region ?_
      refine JL.go trivial (RX.add rfl rfl (wi (n := i + 1) (by omega) (by omega))) ?_
      refine JL.go trivial (RX.movev (v := Value.int _ _) rfl) ?_
      refine JL.nil ?_
      have ho9 := hq2.set (o := i) (v := .int .u64 ((3 : Nat) : Int))
      rw [← u64sV_set] at ho9
      exact IH (i + 1, ys.set i 3, _) _ _ (by simp only; omega) ⟨rfl, rfl, rfl, rfl, rfl, rfl, rfl, rfl, trivial⟩ ⟨rfl, trivial⟩ ⟨by simp only; omega, by simp only [List.length_set]; exact hyl, ho9, H⟩
    · skip
      clear IH
      refine J.exit rfl ?_
      refine J.seq ?_
      refine J.region ?_
      refine JL.go trivial (RX.movev (v := Value.slice _ _ _) rfl) ?_
      refine JL.does trivial (EX.buildSlice1 H elU rfl rfl) ?_
      rintro _ w ⟨bz, rfl, H⟩
      refine JL.does trivial (EX.append (ys := u64sV [4]) (L' := fun s' => [(bz, cel (u64sV [4]) 24)] :: r4 :: r3 :: s' :: [(g1, cel l1 24)] :: F) H elU rfl rfl (i := 3) rfl hq2 (SlAt.here rfl) rfl (u64sV_cell [4]) (by decide) (by omega) (by omega) (fun _ => rfl)) ?_
      rintro _ w ⟨p7, c7, s7, rfl, ho7, H⟩
      replace ho7 : OwnSl 24 1 p7 ((exL xs prime false).length + 1) c7 (u64sV (ys ++ [4])) s7 := by rw [u64sV_app]; exact ho7
      replace H := H.drop
      have hle7 := ho7.le
      refine JL.go trivial (RX.assignv (v := Value.slice _ _ _) rfl) ?_
      refine JL.nil ?_
      refine J.seq ?_
      refine J.seq ?_
      have x7 := ho7
      obtain ⟨g7, l7, rfl, rfl, _⟩ := x7.ptr (by omega)
      refine J.region ?_
      refine JL.go trivial (RX.movev (v := Value.slice _ _ _) rfl) ?_
      refine JL.go trivial (RX.movev (v := Value.slice _ _ _) rfl) ?_
      refine JL.does trivial (EX.call rfl cl8 rfl ((sameU_b (a := exL xs prime false) (b := exL xs prime false) H (SlAt.cons hq3.slAt) hq4.slAt (by omega) (by omega)))) ?_
      rintro _ w ⟨rfl, H⟩
      refine JL.go trivial (RX.not rfl) ?_
      refine JL.go trivial (RX.movev (v := Value.bool _) rfl) ?_
      refine JL.go ⟨_, rfl, (congrArg not (decide_eq_true rfl))⟩ (RX.movev (v := Value.slice _ _ _) rfl) ?_
      refine JL.go ⟨_, rfl, (congrArg not (decide_eq_true rfl))⟩ (RX.movev (v := Value.slice _ _ _) rfl) ?_
      refine JL.go ⟨_, rfl, (congrArg not (decide_eq_true rfl))⟩ (RX.len_slice rfl (by rw [sl22]; rfl) rfl) ?_
      refine JL.go ⟨_, rfl, (congrArg not (decide_eq_true rfl))⟩ (RX.sub rfl rfl (wi (n := (exL xs prime false).length) (by omega) (by omega))) ?_
      refine JL.go ⟨_, rfl, (congrArg not (decide_eq_true rfl))⟩ (RX.indexAddr rfl rfl sl22 (by omega) (by omega) (o' := (exL xs prime false).length) (by omega)) ?_
      refine JL.go ⟨_, rfl, (congrArg not (decide_eq_true rfl))⟩ (RX.loadS H (SlAt.cons (SlAt.cons ho7.slAt)) rfl (j := (exL xs prime false).length) (by omega) (v := .int .u64 ((4 : Nat) : Int)) (by rw [← hyl]; exact u64sV_last ys 4) one24) ?_
      refine JL.go ⟨_, rfl, (congrArg not (decide_eq_true rfl))⟩ (RX.ne rfl rfl) ?_
      refine JL.go trivial (RX.pick_f rfl (congrArg not (decide_eq_true rfl))) ?_
      refine JL.nil ?_
      refine J.cond_f rfl (decide_eq_false (fun h => h rfl)) ?_
      refine J.skip ?_
      refine J.seq ?_
      refine J.region ?_
      refine JL.go trivial (RX.movev (v := Value.slice _ _ _) rfl) ?_
      refine JL.go trivial (RX.movev (v := Value.int _ _) rfl) ?_
      refine JL.does trivial (EX.call rfl cl9 rfl ((Inverse2_b (xs := xs) (prime := prime) H (hE.cons.cons.cons.cons) (slu_front (SlAt.cons (SlAt.cons (SlAt.cons ho1.slAt)))) hx))) ?_
      rintro _ w ⟨q8, k8, r8, rfl, hq8, H⟩
      refine JL.go trivial (RX.movev (v := .tuple _) rfl) ?_
      refine JL.go trivial (RX.extract rfl rfl) ?_
      refine JL.go trivial (RX.extract (v := errV E (exE xs.length prime)) rfl rfl) ?_
      refine JL.go trivial (RX.assignv (v := Value.slice _ _ _) rfl) ?_
      refine JL.go trivial (RX.assignv (v := errV E (exE xs.length prime)) rfl) ?_
      refine JL.nil ?_
      refine J.seq ?_
      refine J.region ?_
      refine JL.go trivial (RX.movev (v := Value.slice _ _ _) rfl) ?_
      refine JL.go trivial (RX.movev (v := Value.int _ _) rfl) ?_
      refine JL.does trivial (EX.call rfl cl10 rfl ((rInverse_b (xs := xs) (prime := prime) H (SlAt.cons (SlAt.cons (SlAt.cons (SlAt.cons (SlAt.cons hs))))) hx))) ?_
      rintro _ w ⟨q9, k9, r9, rfl, hq9, H⟩
      refine JL.go trivial (RX.movev (v := .tuple _) rfl) ?_
      refine JL.go trivial (RX.extract rfl rfl) ?_
      refine JL.go trivial (RX.extract rfl rfl) ?_
      refine JL.go trivial (RX.assignv (v := Value.slice _ _ _) rfl) ?_
      refine JL.go trivial (RX.assignv (v := Value.int _ _) rfl) ?_
      refine JL.nil ?_
      refine J.seq ?_
      refine J.region ?_
      refine JL.go trivial (RX.movev (v := errV E (exE xs.length prime)) rfl) ?_
      refine JL.does trivial (EX.call rfl cl7 rfl ((Num_b H (hE.cons.cons.cons.cons.cons.cons) hEl))) ?_
      rintro _ w ⟨rfl, H⟩
      refine JL.go trivial (RX.movev (v := Value.int _ _) rfl) ?_
      refine JL.go trivial (RX.eq rfl rfl) ?_
      refine JL.go trivial (RX.movev (v := Value.bool _) rfl) ?_
      refine JL.go ⟨_, rfl, (decide_eq_true rfl)⟩ (RX.movev (v := Value.slice _ _ _) rfl) ?_
      refine JL.go ⟨_, rfl, (decide_eq_true rfl)⟩ (RX.movev (v := Value.slice _ _ _) rfl) ?_
      refine JL.does ⟨_, rfl, (decide_eq_true rfl)⟩ (EX.call rfl cl8 rfl ((sameU_b (a := exL xs prime true) (b := exL xs prime true) H (SlAt.cons hq8.slAt) hq9.slAt (by omega) (by omega)))) ?_
      rintro _ w ⟨rfl, H⟩
      refine JL.go trivial (RX.pick_t rfl (decide_eq_true rfl)) ?_
      refine JL.go trivial (RX.movev (v := Value.bool _) rfl) ?_
      refine JL.go ⟨_, rfl, (decide_eq_true rfl)⟩ (RX.movev (v := Value.slice _ _ _) rfl) ?_
      refine JL.go ⟨_, rfl, (decide_eq_true rfl)⟩ (RX.movev (v := Value.slice _ _ _) rfl) ?_
      refine JL.does ⟨_, rfl, (decide_eq_true rfl)⟩ (EX.call rfl cl8 rfl ((sameU_b (a := xs) (b := xs) H (slu_front (SlAt.cons (SlAt.cons (SlAt.cons (SlAt.cons (SlAt.cons ho1.slAt)))))) (SlAt.cons (SlAt.cons (SlAt.cons (SlAt.cons (SlAt.cons (SlAt.cons hs)))))) (by omega) (by omega)))) ?_
      rintro _ w ⟨rfl, H⟩
      refine JL.go trivial (RX.pick_t rfl (decide_eq_true rfl)) ?_
      refine JL.go trivial (RX.movev (v := Value.bool _) rfl) ?_
      refine JL.go ⟨_, rfl, (decide_eq_true rfl)⟩ (RX.movev (v := Value.slice _ _ _) rfl) ?_
      refine JL.go ⟨_, rfl, (decide_eq_true rfl)⟩ (RX.movev (v := Value.slice _ _ _) rfl) ?_
      refine JL.go ⟨_, rfl, (decide_eq_true rfl)⟩ (RX.len_slice rfl (by rw [sl22]; rfl) rfl) ?_
      refine JL.go ⟨_, rfl, (decide_eq_true rfl)⟩ (RX.indexAddr rfl rfl sl22 (by omega) (by omega) (o' := xs.length) (by omega)) ?_
      refine JL.go ⟨_, rfl, (decide_eq_true rfl)⟩ (RX.loadS H (SlAt.cons (SlAt.cons (SlAt.cons (SlAt.cons (SlAt.cons ho1.slAt))))) rfl (j := xs.length) (by omega) (v := .int .u64 ((5 : Nat) : Int)) (u64sV_last xs 5) one24) ?_
      refine JL.go ⟨_, rfl, (decide_eq_true rfl)⟩ (RX.eq rfl rfl) ?_
      refine JL.go trivial (RX.pick_t rfl (decide_eq_true rfl)) ?_
      refine JL.go trivial (RX.assignv (v := Value.bool _) rfl) ?_
      refine JL.nil ?_
      refine J.ret1 (v := Value.bool _) Tryz.func3 rfl rfl ?_
      exact ⟨_, rfl, rfl, H.drop.drop.drop.drop.drop.drop⟩
end Go.Proofs.YtfdghjlfplhpjaaGreatDoor

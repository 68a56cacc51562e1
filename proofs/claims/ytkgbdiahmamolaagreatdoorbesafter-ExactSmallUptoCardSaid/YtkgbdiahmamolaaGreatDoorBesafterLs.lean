/- The law ExactSmall: what it asks is so. -/
import Derived.Test.YtkgbdiahmamolaaGreatDoorBesafterLv
namespace Go.Proofs.YtkgbdiahmamolaaGreatDoorBesafter
open Go Go.Eng
set_option maxRecDepth 100000
set_option linter.unusedVariables false
set_option linter.unusedSimpArgs false
theorem cl4 : callable Tryz.prog 4 = true := by kernel_rfl
theorem cl6 : callable Tryz.prog 6 = true := by kernel_rfl
theorem cl7 : callable Tryz.prog 7 = true := by kernel_rfl

theorem i64sV_set (l : List Int) (i : Nat) (x : Int) : i64sV (l.set i x) = (i64sV l).set i (.int .i64 x) := by simp [i64sV, List.map_set]
theorem i64sV_last (l : List Int) (x : Int) : (i64sV (l ++ [x]))[l.length]? = some (.int .i64 x) := i64sV_get (by simp)
theorem sl_front {L : List Seg} {p : Option Addr} {l : List Int} {x : Int} (h : SlAt L p (i64sV (l ++ [x]))) : SlAt L p (i64sV l) := by
  rw [i64sV_app] at h; exact h.pre

set_option maxHeartbeats 1600000 in
theorem ExactSmall_b {w0 w : World} {F : List Seg} {E : Nat → Value} {Q : Nat → Addr} (H : Hp w0 w F) (hE : Errs F E Q) {re im : List Int} {pr pi : Option Addr} {cr ci : Nat} (hsr : SlAt F pr (i64sV re)) (hsi : SlAt F pi (i64sV im)) (hre : i64all re) (him : i64all im) (hl1 : re.length ≤ 1048576) (hl2 : im.length ≤ 1048576) : Ret Tryz.prog 3 [.slice pr re.length cr, .slice pi im.length ci] w fun v w' => v = .bool true ∧ Hp w0 w' F := by
  refine Calls.of_J (n := 143) Tryz.func3 rfl rfl rfl ?_
  refine J.seq ?_
  refine J.region ?_
  refine JL.go trivial (RX.assign) ?_
  refine JL.nil ?_
  refine J.seq ?_
  refine J.seq ?_
  have hA := smA_len re im
  have hA1 := hA.1
  have hA2 := hA.2
  refine J.region ?_
  refine JL.does trivial (EX.call rfl cl4 rfl ((lives_b H hE))) ?_
  rintro _ w ⟨rfl, H⟩
  refine JL.go trivial (RX.not rfl) ?_
  refine JL.nil ?_
  refine J.cond_f rfl rfl ?_
  refine J.skip ?_
  refine J.seq ?_
  refine J.region ?_
  refine JL.does trivial (EX.buildSlice0 H elJ) ?_
  rintro _ w ⟨b0, rfl, H⟩
  refine JL.go trivial (RX.movev (v := Value.slice _ _ _) rfl) ?_
  refine JL.does trivial (EX.append (ys := i64sV re) (L' := fun s' => s' :: F) H elJ rfl rfl (i := 0) rfl OwnSl.empty hsr.cons (by rw [i64sV_len, Nat.mul_one]) (i64s_cell re) (by decide) (by omega) (by omega) (fun _ => rfl)) ?_
  rintro _ w ⟨p1, c1, s1, rfl, ho1, H⟩
  rw [Nat.zero_add] at ho1 ⊢
  rw [List.nil_append] at ho1
  refine JL.does trivial (EX.buildSlice1 H elJ rfl rfl) ?_
  rintro _ w ⟨bz, rfl, H⟩
  refine JL.does trivial (EX.append (ys := [.int .i64 5]) (L' := fun s' => [(bz, cel [.int .i64 5] 2)] :: s' :: F) H elJ rfl rfl (i := 1) rfl ho1 (SlAt.here rfl) rfl (i64s_cell [5]) (by decide) (by omega) (by omega) (fun _ => rfl)) ?_
  rintro _ w ⟨p1, c1, s1, rfl, ho1, H⟩
  replace ho1 : OwnSl 2 1 p1 (re.length + 1) c1 (i64sV (re ++ [5])) s1 := by rw [i64sV_app]; exact ho1
  replace H := H.drop
  have hle1 := ho1.le
  refine JL.does trivial (EX.buildSlice0 H elJ) ?_
  rintro _ w ⟨b0, rfl, H⟩
  refine JL.go trivial (RX.movev (v := Value.slice _ _ _) rfl) ?_
  refine JL.does trivial (EX.append (ys := i64sV im) (L' := fun s' => s' :: s1 :: F) H elJ rfl rfl (i := 0) rfl OwnSl.empty hsi.cons.cons (by rw [i64sV_len, Nat.mul_one]) (i64s_cell im) (by decide) (by omega) (by omega) (fun _ => rfl)) ?_
  rintro _ w ⟨p2, c2, s2, rfl, ho2, H⟩
  rw [Nat.zero_add] at ho2 ⊢
  rw [List.nil_append] at ho2
  refine JL.does trivial (EX.buildSlice1 H elJ rfl rfl) ?_
  rintro _ w ⟨bz, rfl, H⟩
  refine JL.does trivial (EX.append (ys := [.int .i64 6]) (L' := fun s' => [(bz, cel [.int .i64 6] 2)] :: s' :: s1 :: F) H elJ rfl rfl (i := 1) rfl ho2 (SlAt.here rfl) rfl (i64s_cell [6]) (by decide) (by omega) (by omega) (fun _ => rfl)) ?_
  rintro _ w ⟨p2, c2, s2, rfl, ho2, H⟩
  replace ho2 : OwnSl 2 1 p2 (im.length + 1) c2 (i64sV (im ++ [6])) s2 := by rw [i64sV_app]; exact ho2
  replace H := H.drop
  have hle2 := ho2.le
  refine JL.go trivial (RX.assignv (v := Value.slice _ _ _) rfl) ?_
  refine JL.go trivial (RX.assignv (v := Value.slice _ _ _) rfl) ?_
  refine JL.nil ?_
  refine J.seq ?_
  refine J.any hmix fun w hs => ?_
  replace H := H.same hs; clear hs
  refine JA.take 0 (listed' := [true, false, false, false, false, false, false, false, false, false, false, false, false, false, false, false]) rfl (by kernel_rfl) (by kernel_rfl) (by kernel_rfl) rfl trivial (fun w => RX.movev (v := Value.slice _ _ _) rfl) ?_
  refine JA.take 1 (listed' := [true, true, false, false, false, false, false, false, false, false, false, false, false, false, false, false]) rfl (by kernel_rfl) (by kernel_rfl) (by kernel_rfl) rfl trivial (fun w => RX.movev (v := Value.slice _ _ _) rfl) ?_
  refine JA.take 2 (listed' := [true, true, true, false, false, false, false, false, false, false, false, false, false, false, false, false]) rfl (by kernel_rfl) (by kernel_rfl) (by kernel_rfl) rfl trivial (fun w => RX.len_slice rfl (by rw [sl22]; rfl) rfl) ?_
  refine JA.take 3 (listed' := [true, true, true, true, false, false, false, false, false, false, false, false, false, false, false, false]) rfl (by kernel_rfl) (by kernel_rfl) (by kernel_rfl) rfl trivial (fun w => RX.slice_h rfl rfl sl22 ho1.spot (by omega) (by omega) (r := re.length) rfl) ?_
  refine JA.take 4 (listed' := [true, true, true, true, true, false, false, false, false, false, false, false, false, false, false, false]) rfl (by kernel_rfl) (by kernel_rfl) (by kernel_rfl) rfl trivial (fun w => RX.movev (v := Value.slice _ _ _) rfl) ?_
  refine JA.take 5 (listed' := [true, true, true, true, true, true, false, false, false, false, false, false, false, false, false, false]) rfl (by kernel_rfl) (by kernel_rfl) (by kernel_rfl) rfl trivial (fun w => RX.movev (v := Value.slice _ _ _) rfl) ?_
  refine JA.take 6 (listed' := [true, true, true, true, true, true, true, false, false, false, false, false, false, false, false, false]) rfl (by kernel_rfl) (by kernel_rfl) (by kernel_rfl) rfl trivial (fun w => RX.len_slice rfl (by rw [sl22]; rfl) rfl) ?_
  refine JA.take 7 (listed' := [true, true, true, true, true, true, true, true, false, false, false, false, false, false, false, false]) rfl (by kernel_rfl) (by kernel_rfl) (by kernel_rfl) rfl trivial (fun w => RX.slice_h rfl rfl sl22 ho2.spot (by omega) (by omega) (r := im.length) rfl) ?_
  refine JA.all [8] (by kernel_rfl) (by decide) ?_
  refine JO.does (listed' := [true, true, true, true, true, true, true, true, true, false, false, false, false, false, false, false]) rfl rfl trivial (EX.call rfl cl5 rfl ((Small_b H (hE.cons.cons) (sl_front (SlAt.cons ho1.slAt)) (sl_front ho2.slAt) hre him (by omega) (by omega)))) ?_
  rintro _ w ⟨q1, q2, k1, k2, r1, r2, rfl, hq1, hq2, H⟩
  refine JA.take 9 (listed' := [true, true, true, true, true, true, true, true, true, true, false, false, false, false, false, false]) rfl (by kernel_rfl) (by kernel_rfl) (by kernel_rfl) rfl trivial (fun w => RX.movev (v := .tuple _) rfl) ?_
  refine JA.take 10 (listed' := [true, true, true, true, true, true, true, true, true, true, true, false, false, false, false, false]) rfl (by kernel_rfl) (by kernel_rfl) (by kernel_rfl) rfl trivial (fun w => RX.extract rfl rfl) ?_
  refine JA.take 11 (listed' := [true, true, true, true, true, true, true, true, true, true, true, true, false, false, false, false]) rfl (by kernel_rfl) (by kernel_rfl) (by kernel_rfl) rfl trivial (fun w => RX.extract rfl rfl) ?_
  refine JA.take 12 (listed' := [true, true, true, true, true, true, true, true, true, true, true, true, true, false, false, false]) rfl (by kernel_rfl) (by kernel_rfl) (by kernel_rfl) rfl trivial (fun w => RX.extract (v := errV E (smE re im)) rfl rfl) ?_
  refine JA.take 13 (listed' := [true, true, true, true, true, true, true, true, true, true, true, true, true, true, false, false]) rfl (by kernel_rfl) (by kernel_rfl) (by kernel_rfl) rfl trivial (fun w => RX.assignv (v := Value.slice _ _ _) rfl) ?_
  refine JA.take 14 (listed' := [true, true, true, true, true, true, true, true, true, true, true, true, true, true, true, false]) rfl (by kernel_rfl) (by kernel_rfl) (by kernel_rfl) rfl trivial (fun w => RX.assignv (v := Value.slice _ _ _) rfl) ?_
  refine JA.take 15 (listed' := [true, true, true, true, true, true, true, true, true, true, true, true, true, true, true, true]) rfl (by kernel_rfl) (by kernel_rfl) (by kernel_rfl) rfl trivial (fun w => RX.assignv (v := errV E (smE re im)) rfl) ?_
  refine JA.done (by kernel_rfl) ?_
  refine J.seq ?_
  refine J.any hmix fun w hs => ?_
  replace H := H.same hs; clear hs
  refine JA.take 0 (listed' := [true, false, false, false, false, false, false, false, false, false, false, false, false, false, false, false]) rfl (by kernel_rfl) (by kernel_rfl) (by kernel_rfl) rfl trivial (fun w => RX.movev (v := Value.slice _ _ _) rfl) ?_
  refine JA.take 1 (listed' := [true, true, false, false, false, false, false, false, false, false, false, false, false, false, false, false]) rfl (by kernel_rfl) (by kernel_rfl) (by kernel_rfl) rfl trivial (fun w => RX.movev (v := Value.slice _ _ _) rfl) ?_
  refine JA.take 2 (listed' := [true, true, true, false, false, false, false, false, false, false, false, false, false, false, false, false]) rfl (by kernel_rfl) (by kernel_rfl) (by kernel_rfl) rfl trivial (fun w => RX.len_slice rfl (by rw [sl22]; rfl) rfl) ?_
  refine JA.take 3 (listed' := [true, true, true, true, false, false, false, false, false, false, false, false, false, false, false, false]) rfl (by kernel_rfl) (by kernel_rfl) (by kernel_rfl) rfl trivial (fun w => RX.slice_h rfl rfl sl22 ho1.spot (by omega) (by omega) (r := re.length) rfl) ?_
  refine JA.take 4 (listed' := [true, true, true, true, true, false, false, false, false, false, false, false, false, false, false, false]) rfl (by kernel_rfl) (by kernel_rfl) (by kernel_rfl) rfl trivial (fun w => RX.movev (v := Value.slice _ _ _) rfl) ?_
  refine JA.take 5 (listed' := [true, true, true, true, true, true, false, false, false, false, false, false, false, false, false, false]) rfl (by kernel_rfl) (by kernel_rfl) (by kernel_rfl) rfl trivial (fun w => RX.movev (v := Value.slice _ _ _) rfl) ?_
  refine JA.take 6 (listed' := [true, true, true, true, true, true, true, false, false, false, false, false, false, false, false, false]) rfl (by kernel_rfl) (by kernel_rfl) (by kernel_rfl) rfl trivial (fun w => RX.len_slice rfl (by rw [sl22]; rfl) rfl) ?_
  refine JA.take 7 (listed' := [true, true, true, true, true, true, true, true, false, false, false, false, false, false, false, false]) rfl (by kernel_rfl) (by kernel_rfl) (by kernel_rfl) rfl trivial (fun w => RX.slice_h rfl rfl sl22 ho2.spot (by omega) (by omega) (r := im.length) rfl) ?_
  refine JA.all [8] (by kernel_rfl) (by decide) ?_
  refine JO.does (listed' := [true, true, true, true, true, true, true, true, true, false, false, false, false, false, false, false]) rfl rfl trivial (EX.call rfl cl5 rfl ((Small_b H (hE.cons.cons.cons.cons) (sl_front (SlAt.cons (SlAt.cons (SlAt.cons ho1.slAt)))) (sl_front (SlAt.cons (SlAt.cons ho2.slAt))) hre him (by omega) (by omega)))) ?_
  rintro _ w ⟨q3, q4, k3, k4, r3, r4, rfl, hq3, hq4, H⟩
  refine JA.take 9 (listed' := [true, true, true, true, true, true, true, true, true, true, false, false, false, false, false, false]) rfl (by kernel_rfl) (by kernel_rfl) (by kernel_rfl) rfl trivial (fun w => RX.movev (v := .tuple _) rfl) ?_
  refine JA.take 10 (listed' := [true, true, true, true, true, true, true, true, true, true, true, false, false, false, false, false]) rfl (by kernel_rfl) (by kernel_rfl) (by kernel_rfl) rfl trivial (fun w => RX.extract rfl rfl) ?_
  refine JA.take 11 (listed' := [true, true, true, true, true, true, true, true, true, true, true, true, false, false, false, false]) rfl (by kernel_rfl) (by kernel_rfl) (by kernel_rfl) rfl trivial (fun w => RX.extract rfl rfl) ?_
  refine JA.take 12 (listed' := [true, true, true, true, true, true, true, true, true, true, true, true, true, false, false, false]) rfl (by kernel_rfl) (by kernel_rfl) (by kernel_rfl) rfl trivial (fun w => RX.extract (v := errV E (smE re im)) rfl rfl) ?_
  refine JA.take 13 (listed' := [true, true, true, true, true, true, true, true, true, true, true, true, true, true, false, false]) rfl (by kernel_rfl) (by kernel_rfl) (by kernel_rfl) rfl trivial (fun w => RX.assignv (v := Value.slice _ _ _) rfl) ?_
  refine JA.take 14 (listed' := [true, true, true, true, true, true, true, true, true, true, true, true, true, true, true, false]) rfl (by kernel_rfl) (by kernel_rfl) (by kernel_rfl) rfl trivial (fun w => RX.assignv (v := Value.slice _ _ _) rfl) ?_
  refine JA.take 15 (listed' := [true, true, true, true, true, true, true, true, true, true, true, true, true, true, true, true]) rfl (by kernel_rfl) (by kernel_rfl) (by kernel_rfl) rfl trivial (fun w => RX.assignv (v := errV E (smE re im)) rfl) ?_
  refine JA.done (by kernel_rfl) ?_
  refine J.seq ?_
  refine J.region ?_
  refine JL.go trivial (RX.movev (v := Value.slice _ _ _) rfl) ?_
  refine JL.go trivial (RX.movev (v := Value.slice _ _ _) rfl) ?_
  refine JL.does trivial (EX.call rfl cl6 rfl ((rSmall_b H (SlAt.cons (SlAt.cons (SlAt.cons (SlAt.cons (SlAt.cons (SlAt.cons hsr)))))) (SlAt.cons (SlAt.cons (SlAt.cons (SlAt.cons (SlAt.cons (SlAt.cons hsi)))))) hre him))) ?_
  rintro _ w ⟨q5, q6, k5, k6, r5, r6, rfl, hq5, hq6, H⟩
  refine JL.go trivial (RX.movev (v := .tuple _) rfl) ?_
  refine JL.go trivial (RX.extract rfl rfl) ?_
  refine JL.go trivial (RX.extract rfl rfl) ?_
  refine JL.go trivial (RX.extract rfl rfl) ?_
  refine JL.go trivial (RX.assignv (v := Value.slice _ _ _) rfl) ?_
  refine JL.go trivial (RX.assignv (v := Value.slice _ _ _) rfl) ?_
  refine JL.go trivial (RX.assignv (v := Value.int _ _) rfl) ?_
  refine JL.nil ?_
  refine J.seq ?_
  refine J.seq ?_
  refine J.region ?_
  refine JL.go trivial (RX.movev (v := errV E (smE re im)) rfl) ?_
  refine JL.does trivial (EX.call rfl cl7 rfl ((Num_b H (hE.cons.cons.cons.cons.cons.cons.cons.cons) (smE_le re im)))) ?_
  rintro _ w ⟨rfl, H⟩
  refine JL.go trivial (RX.movev (v := Value.int _ _) rfl) ?_
  refine JL.go trivial (RX.ne rfl rfl) ?_
  refine JL.go trivial (RX.movev (v := Value.bool _) rfl) ?_
  refine JL.go ⟨_, rfl, (decide_eq_false (fun h => h rfl))⟩ (RX.movev (v := Value.slice _ _ _) rfl) ?_
  refine JL.go ⟨_, rfl, (decide_eq_false (fun h => h rfl))⟩ (RX.movev (v := Value.slice _ _ _) rfl) ?_
  refine JL.does ⟨_, rfl, (decide_eq_false (fun h => h rfl))⟩ (EX.call rfl cl8 rfl ((sameI_b (a := smA re im) (b := smA re im) H (SlAt.cons (SlAt.cons (SlAt.cons (SlAt.cons (SlAt.cons hq1.slAt))))) (SlAt.cons hq5.slAt) (by omega) (by omega)))) ?_
  rintro _ w ⟨rfl, H⟩
  refine JL.go ⟨_, rfl, (decide_eq_false (fun h => h rfl))⟩ (RX.not rfl) ?_
  refine JL.go trivial (RX.pick_f rfl (decide_eq_false (fun h => h rfl))) ?_
  refine JL.go trivial (RX.movev (v := Value.bool _) rfl) ?_
  refine JL.go ⟨_, rfl, (congrArg not (decide_eq_true rfl))⟩ (RX.movev (v := Value.slice _ _ _) rfl) ?_
  refine JL.go ⟨_, rfl, (congrArg not (decide_eq_true rfl))⟩ (RX.movev (v := Value.slice _ _ _) rfl) ?_
  refine JL.does ⟨_, rfl, (congrArg not (decide_eq_true rfl))⟩ (EX.call rfl cl8 rfl ((sameI_b (a := smB re im) (b := smB re im) H (SlAt.cons (SlAt.cons (SlAt.cons (SlAt.cons hq2.slAt)))) hq6.slAt (by omega) (by omega)))) ?_
  rintro _ w ⟨rfl, H⟩
  refine JL.go ⟨_, rfl, (congrArg not (decide_eq_true rfl))⟩ (RX.not rfl) ?_
  refine JL.go trivial (RX.pick_f rfl (congrArg not (decide_eq_true rfl))) ?_
  refine JL.nil ?_
  refine J.cond_f rfl (congrArg not (decide_eq_true rfl)) ?_
  refine J.skip ?_
  refine J.seq ?_
  refine J.seq ?_
  refine J.region ?_
  refine JL.go trivial (RX.movev (v := Value.slice _ _ _) rfl) ?_
  refine JL.go trivial (RX.len_slice rfl (by rw [sl22]; rfl) rfl) ?_
  refine JL.go trivial (RX.move) ?_
  refine JL.nil ?_
  refine J.block ?_
  refine J.loop (ι := Nat × List Int × Seg) (S := fun z => [(80, .int .i64 ((z.1 : Nat) : Int))]) (Φ := fun z w => z.1 ≤ (smA re im).length ∧ z.2.1.length = (smA re im).length ∧ OwnSl 2 1 q1 (smA re im).length k1 (i64sV z.2.1) z.2.2 ∧ Hp w0 w (r6 :: r5 :: r4 :: r3 :: r2 :: z.2.2 :: s2 :: s1 :: F)) (μ := fun z => (smA re im).length - z.1) (C := [(0, _), (1, _), (5, _), (6, _), (7, _), (8, _), (10, _), (11, _), (13, _), (14, _), (79, _)]) (0, smA re im, r1) ⟨rfl, rfl, rfl, rfl, rfl, rfl, rfl, rfl, rfl, rfl, rfl, trivial⟩ ⟨rfl, trivial⟩ ?_ ?_
  · exact ⟨by simp, rfl, hq1, H⟩
  clear H hq1
  rintro ⟨i, ys, sl⟩ ρ w ⟨hi, hyl, hq1, H⟩ IH
  simp only at hi hyl hq1 H
  dsimp only
  refine J.seq ?_
  refine J.region ?_
  refine JL.go trivial (RX.lt rfl rfl) ?_
  refine JL.nil ?_
  refine J.seq ?_
  refine J.cond_d rfl (fun hlt => ?_) (fun hlt => ?_)
  · skip
    obtain ⟨g, l, rfl, rfl, _, hll, _⟩ := hq1.ptr (by omega)
    have hkl := hq1.le
    refine J.skip ?_
    refine J.seq ?_
    refine J.block ?_
    refine J.seq ?_
    refine J.region ?_
    refine JL.go trivial (RX.movev (v := Value.int _ _) rfl) ?_
    refine JL.go trivial (RX.assignv (v := Value.int _ _) rfl) ?_
    refine JL.nil ?_
    refine J.region ?_
    refine JL.go trivial (RX.movev (v := Value.slice _ _ _) rfl) ?_
    refine JL.go trivial (RX.movev (v := Value.int _ _) rfl) ?_
    refine JL.go trivial (RX.indexAddr rfl rfl sl22 (by omega) (by omega) (o' := i) (by omega)) ?_
    refine JL.does trivial (EX.store (v := Value.int _ _) H rfl rfl (i := 5) rfl rfl (by omega) sz2 rfl rfl) ?_
    rintro _ w H
    refine JL.nil ?_
    refine J.inBlock ?_
    refine J.region ?_
    refine JL.go trivial (RX.add rfl rfl (wi (n := i + 1) (by omega) (by omega))) ?_
    refine JL.go trivial (RX.movev (v := Value.int _ _) rfl) ?_
    refine JL.nil ?_
    have ho9 := hq1.set (o := i) (v := .int .i64 3)
    rw [← i64sV_set] at ho9
    exact IH (i + 1, ys.set i 3, _) _ _ (by simp only; omega) ⟨rfl, rfl, rfl, rfl, rfl, rfl, rfl, rfl, rfl, rfl, rfl, trivial⟩ ⟨rfl, trivial⟩ ⟨by simp only; omega, by simp only [List.length_set]; exact hyl, ho9, H⟩
  · skip
    clear IH
    refine J.exit rfl ?_
    refine J.seq ?_
    refine J.seq ?_
    refine J.region ?_
    refine JL.go trivial (RX.movev (v := Value.slice _ _ _) rfl) ?_
    refine JL.go trivial (RX.movev (v := Value.slice _ _ _) rfl) ?_
    refine JL.does trivial (EX.call rfl cl8 rfl ((sameI_b (a := smB re im) (b := smB re im) H (SlAt.cons (SlAt.cons (SlAt.cons (SlAt.cons hq2.slAt)))) hq6.slAt (by omega) (by omega)))) ?_
    rintro _ w ⟨rfl, H⟩
    refine JL.go trivial (RX.not rfl) ?_
    refine JL.nil ?_
    refine J.cond_f rfl (congrArg not (decide_eq_true rfl)) ?_
    refine J.skip ?_
    refine J.seq ?_
    refine J.region ?_
    refine JL.go trivial (RX.movev (v := Value.slice _ _ _) rfl) ?_
    refine JL.does trivial (EX.buildSlice1 H elJ rfl rfl) ?_
    rintro _ w ⟨bz, rfl, H⟩
    refine JL.does trivial (EX.append (ys := [.int .i64 4]) (L' := fun s' => [(bz, cel [.int .i64 4] 2)] :: r6 :: r5 :: r4 :: r3 :: r2 :: s' :: s2 :: s1 :: F) H elJ rfl rfl (i := 6) rfl hq1 (SlAt.here rfl) rfl (i64s_cell [4]) (by decide) (by omega) (by omega) (fun _ => rfl)) ?_
    rintro _ w ⟨p7, c7, s7, rfl, ho7, H⟩
    replace ho7 : OwnSl 2 1 p7 ((smA re im).length + 1) c7 (i64sV (ys ++ [4])) s7 := by rw [i64sV_app]; exact ho7
    replace H := H.drop
    have hle7 := ho7.le
    refine JL.go trivial (RX.assignv (v := Value.slice _ _ _) rfl) ?_
    refine JL.nil ?_
    refine J.seq ?_
    have x1 := ho1
    have x2 := ho2
    have x7 := ho7
    obtain ⟨g1, l1, rfl, rfl, _⟩ := x1.ptr (by omega)
    obtain ⟨g2, l2, rfl, rfl, _⟩ := x2.ptr (by omega)
    obtain ⟨g7, l7, rfl, rfl, _⟩ := x7.ptr (by omega)
    refine J.region ?_
    refine JL.go trivial (RX.movev (v := Value.slice _ _ _) rfl) ?_
    refine JL.go trivial (RX.movev (v := Value.slice _ _ _) rfl) ?_
    refine JL.does trivial (EX.call rfl cl8 rfl ((sameI_b (a := smA re im) (b := smA re im) H (SlAt.cons (SlAt.cons (SlAt.cons hq3.slAt))) (SlAt.cons hq5.slAt) (by omega) (by omega)))) ?_
    rintro _ w ⟨rfl, H⟩
    refine JL.go trivial (RX.movev (v := Value.bool _) rfl) ?_
    refine JL.go ⟨_, rfl, (decide_eq_true rfl)⟩ (RX.movev (v := Value.slice _ _ _) rfl) ?_
    refine JL.go ⟨_, rfl, (decide_eq_true rfl)⟩ (RX.movev (v := Value.slice _ _ _) rfl) ?_
    refine JL.does ⟨_, rfl, (decide_eq_true rfl)⟩ (EX.call rfl cl8 rfl ((sameI_b (a := smB re im) (b := smB re im) H (SlAt.cons (SlAt.cons hq4.slAt)) hq6.slAt (by omega) (by omega)))) ?_
    rintro _ w ⟨rfl, H⟩
    refine JL.go trivial (RX.pick_t rfl (decide_eq_true rfl)) ?_
    refine JL.go trivial (RX.movev (v := Value.bool _) rfl) ?_
    refine JL.go ⟨_, rfl, (decide_eq_true rfl)⟩ (RX.movev (v := Value.slice _ _ _) rfl) ?_
    refine JL.go ⟨_, rfl, (decide_eq_true rfl)⟩ (RX.movev (v := Value.slice _ _ _) rfl) ?_
    refine JL.go ⟨_, rfl, (decide_eq_true rfl)⟩ (RX.len_slice rfl (by rw [sl22]; rfl) rfl) ?_
    refine JL.go ⟨_, rfl, (decide_eq_true rfl)⟩ (RX.slice_h rfl rfl sl22 ho1.spot (by omega) (by omega) (r := re.length) rfl) ?_
    refine JL.go ⟨_, rfl, (decide_eq_true rfl)⟩ (RX.movev (v := Value.slice _ _ _) rfl) ?_
    refine JL.does ⟨_, rfl, (decide_eq_true rfl)⟩ (EX.call rfl cl8 rfl ((sameI_b (a := re) (b := re) H (sl_front (SlAt.cons (SlAt.cons (SlAt.cons (SlAt.cons (SlAt.cons (SlAt.cons (SlAt.cons ho1.slAt)))))))) (SlAt.cons (SlAt.cons (SlAt.cons (SlAt.cons (SlAt.cons (SlAt.cons (SlAt.cons (SlAt.cons hsr)))))))) (by omega) (by omega)))) ?_
    rintro _ w ⟨rfl, H⟩
    refine JL.go trivial (RX.pick_t rfl (decide_eq_true rfl)) ?_
    refine JL.go trivial (RX.movev (v := Value.bool _) rfl) ?_
    refine JL.go ⟨_, rfl, (decide_eq_true rfl)⟩ (RX.movev (v := Value.slice _ _ _) rfl) ?_
    refine JL.go ⟨_, rfl, (decide_eq_true rfl)⟩ (RX.movev (v := Value.slice _ _ _) rfl) ?_
    refine JL.go ⟨_, rfl, (decide_eq_true rfl)⟩ (RX.len_slice rfl (by rw [sl22]; rfl) rfl) ?_
    refine JL.go ⟨_, rfl, (decide_eq_true rfl)⟩ (RX.slice_h rfl rfl sl22 ho2.spot (by omega) (by omega) (r := im.length) rfl) ?_
    refine JL.go ⟨_, rfl, (decide_eq_true rfl)⟩ (RX.movev (v := Value.slice _ _ _) rfl) ?_
    refine JL.does ⟨_, rfl, (decide_eq_true rfl)⟩ (EX.call rfl cl8 rfl ((sameI_b (a := im) (b := im) H (sl_front (SlAt.cons (SlAt.cons (SlAt.cons (SlAt.cons (SlAt.cons (SlAt.cons ho2.slAt))))))) (SlAt.cons (SlAt.cons (SlAt.cons (SlAt.cons (SlAt.cons (SlAt.cons (SlAt.cons (SlAt.cons hsi)))))))) (by omega) (by omega)))) ?_
    rintro _ w ⟨rfl, H⟩
    refine JL.go trivial (RX.pick_t rfl (decide_eq_true rfl)) ?_
    refine JL.go trivial (RX.movev (v := Value.bool _) rfl) ?_
    refine JL.go ⟨_, rfl, (decide_eq_true rfl)⟩ (RX.movev (v := Value.slice _ _ _) rfl) ?_
    refine JL.go ⟨_, rfl, (decide_eq_true rfl)⟩ (RX.movev (v := Value.slice _ _ _) rfl) ?_
    refine JL.go ⟨_, rfl, (decide_eq_true rfl)⟩ (RX.len_slice rfl (by rw [sl22]; rfl) rfl) ?_
    refine JL.go ⟨_, rfl, (decide_eq_true rfl)⟩ (RX.indexAddr rfl rfl sl22 (by omega) (by omega) (o' := re.length) (by omega)) ?_
    refine JL.go ⟨_, rfl, (decide_eq_true rfl)⟩ (RX.loadS H (SlAt.cons (SlAt.cons (SlAt.cons (SlAt.cons (SlAt.cons (SlAt.cons (SlAt.cons ho1.slAt))))))) rfl (j := re.length) (by omega) (v := .int .i64 5) (i64sV_last re 5) one2) ?_
    refine JL.go ⟨_, rfl, (decide_eq_true rfl)⟩ (RX.eq rfl rfl) ?_
    refine JL.go trivial (RX.pick_t rfl (decide_eq_true rfl)) ?_
    refine JL.go trivial (RX.movev (v := Value.bool _) rfl) ?_
    refine JL.go ⟨_, rfl, (decide_eq_true rfl)⟩ (RX.movev (v := Value.slice _ _ _) rfl) ?_
    refine JL.go ⟨_, rfl, (decide_eq_true rfl)⟩ (RX.movev (v := Value.slice _ _ _) rfl) ?_
    refine JL.go ⟨_, rfl, (decide_eq_true rfl)⟩ (RX.len_slice rfl (by rw [sl22]; rfl) rfl) ?_
    refine JL.go ⟨_, rfl, (decide_eq_true rfl)⟩ (RX.indexAddr rfl rfl sl22 (by omega) (by omega) (o' := im.length) (by omega)) ?_
    refine JL.go ⟨_, rfl, (decide_eq_true rfl)⟩ (RX.loadS H (SlAt.cons (SlAt.cons (SlAt.cons (SlAt.cons (SlAt.cons (SlAt.cons ho2.slAt)))))) rfl (j := im.length) (by omega) (v := .int .i64 6) (i64sV_last im 6) one2) ?_
    refine JL.go ⟨_, rfl, (decide_eq_true rfl)⟩ (RX.eq rfl rfl) ?_
    refine JL.go trivial (RX.pick_t rfl (decide_eq_true rfl)) ?_
    refine JL.go trivial (RX.movev (v := Value.bool _) rfl) ?_
    refine JL.go ⟨_, rfl, (decide_eq_true rfl)⟩ (RX.movev (v := Value.slice _ _ _) rfl) ?_
    refine JL.go ⟨_, rfl, (decide_eq_true rfl)⟩ (RX.movev (v := Value.slice _ _ _) rfl) ?_
    refine JL.go ⟨_, rfl, (decide_eq_true rfl)⟩ (RX.len_slice rfl (by rw [sl22]; rfl) rfl) ?_
    refine JL.go ⟨_, rfl, (decide_eq_true rfl)⟩ (RX.sub rfl rfl (wi (n := (smA re im).length) (by omega) (by omega))) ?_
    refine JL.go ⟨_, rfl, (decide_eq_true rfl)⟩ (RX.indexAddr rfl rfl sl22 (by omega) (by omega) (o' := (smA re im).length) (by omega)) ?_
    refine JL.go ⟨_, rfl, (decide_eq_true rfl)⟩ (RX.loadS H (SlAt.cons (SlAt.cons (SlAt.cons (SlAt.cons (SlAt.cons ho7.slAt))))) rfl (j := (smA re im).length) (by omega) (v := .int .i64 4) (by rw [← hyl]; exact i64sV_last ys 4) one2) ?_
    refine JL.go ⟨_, rfl, (decide_eq_true rfl)⟩ (RX.eq rfl rfl) ?_
    refine JL.go trivial (RX.pick_t rfl (decide_eq_true rfl)) ?_
    refine JL.go trivial (RX.assignv (v := Value.bool _) rfl) ?_
    refine JL.nil ?_
    refine J.ret1 (v := Value.bool _) Tryz.func3 rfl rfl ?_
    exact ⟨_, rfl, rfl, H.drop.drop.drop.drop.drop.drop.drop.drop⟩
end Go.Proofs.YtkgbdiahmamolaaGreatDoorBesafter

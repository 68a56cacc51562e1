/- PackWrites. -/
import Derived.Test.YtippfdnjhcpekaaDoorLx
namespace Go.Proofs.YtippfdnjhcpekaaDoor
open Go Go.Eng
set_option maxRecDepth 100000
set_option linter.unusedVariables false
set_option linter.unusedSimpArgs false
theorem PackWrites_b {w0 w : World} {F : List Seg} {E : Nat → Value} {Q : Nat → Addr} (H : Hp w0 w F) (hE : Errs F E Q) {l : List Va} {sp : Option Addr} {sc : Nat} (hs : SlAt F sp (vaVs l)) (hlk : ∀ x ∈ l, x.Ok F) (hb : (l.map bulkV).sum ≤ 1048576) (hln : l.length ≤ 1048576) : Ret Tryd.prog 3 [.slice sp l.length sc] w fun v w' => v = .bool true ∧ Hp w0 w' F := by
  refine Calls.of_J (n := 59) Tryd.func3 rfl rfl rfl ?_
  refine J.seq ?_
  refine J.region ?_
  refine JL.go trivial (RX.assign) ?_
  refine JL.nil ?_
  refine J.seq ?_
  refine J.seq ?_
  refine J.region ?_
  refine JL.does trivial (EX.call rfl cl8 rfl ((lives_b H hE.w))) ?_
  rintro _ w ⟨rfl, H⟩
  refine JL.go trivial (RX.not rfl) ?_
  refine JL.nil ?_
  refine J.cond_f rfl rfl ?_
  refine J.skip ?_
  refine J.seq ?_
  refine J.region ?_
  refine JL.does trivial (EX.call rfl cl9 rfl ((new_w H))) ?_
  rintro _ w ⟨b, rfl, H⟩
  refine JL.go trivial (RX.assignv (v := Value.pointer _) rfl) ?_
  refine JL.nil ?_
  refine J.seq ?_
  refine J.seq ?_
  refine J.region ?_
  refine JL.go trivial (RX.movev (v := Value.pointer _) rfl) ?_
  refine JL.go trivial (RX.ptrnil_eql rfl rfl pn24) ?_
  refine JL.nil ?_
  refine J.cond_f rfl rfl ?_
  refine J.skip ?_
  refine J.seq ?_
  refine J.region ?_
  refine JL.does trivial (EX.buildSlice0 H elB) ?_
  rintro _ w ⟨b0, rfl, H⟩
  replace H := ((H.pull 1 rfl).nil).pull 1 rfl
  refine JL.go trivial (RX.assignv (v := Value.slice _ _ _) rfl) ?_
  refine JL.nil ?_
  refine J.seq ?_
  refine J.seq ?_
  refine J.region ?_
  refine JL.go trivial (RX.movev (v := Value.slice _ _ _) rfl) ?_
  refine JL.go trivial (RX.len_slice rfl (by rw [sl22]; rfl) rfl) ?_
  refine JL.go trivial (RX.move) ?_
  refine JL.nil ?_
  refine J.block ?_
  refine J.loop (ι := Nat × Option Addr × Nat × Seg × Option Addr × Nat × Seg) (S := fun q => [(17, .int .i64 (q.1 : Nat)), (4, .slice q.2.2.2.2.1 (tot (l.take q.1)).length q.2.2.2.2.2.1)]) (Φ := fun q w => q.1 ≤ l.length ∧ OwnSl 5 1 q.2.1 (tot (l.take q.1)).length q.2.2.1 (bv (tot (l.take q.1))) q.2.2.2.1 ∧ OwnSl 5 1 q.2.2.2.2.1 (tot (l.take q.1)).length q.2.2.2.2.2.1 (bv (tot (l.take q.1))) q.2.2.2.2.2.2 ∧ Hp w0 w ([(b, cel [.slice q.2.1 (tot (l.take q.1)).length q.2.2.1] 86)] :: q.2.2.2.1 :: q.2.2.2.2.2.2 :: F)) (μ := fun q => l.length - q.1) (C := [(3, _), (15, _), (16, _)]) (0, none, 0, [], some ⟨b0, 0, none⟩, 0, [(b0, cel [] 5)]) ⟨rfl, rfl, rfl, trivial⟩ ⟨rfl, rfl, trivial⟩ ?_ ?_
  · exact ⟨by omega, OwnSl.nil, OwnSl.empty, H⟩
  clear H
  rintro ⟨i, p, c, s, q, qc, qs⟩ ρ w ⟨hi, ho, hoq, H⟩ IH
  simp only at hi ho hoq H
  have htl := tot_len (l.take i) (fun y hy => hlk y (List.mem_of_mem_take hy))
  have hst := sum_take_le l i
  dsimp only
  refine J.seq ?_
  refine J.region ?_
  refine JL.go trivial (RX.lt rfl rfl) ?_
  refine JL.nil ?_
  refine J.seq ?_
  refine J.cond_d rfl (fun hlt => ?_) (fun hlt => ?_)
  · skip
    obtain ⟨x, hxi⟩ : ∃ x, l[i]? = some x := ⟨_, List.getElem?_eq_getElem (by omega)⟩
    have hx := hlk x (List.mem_of_getElem? hxi)
    obtain ⟨pb, po, rfl, _⟩ := hs.some (by rw [vaVs_len]; omega)
    have hcell := x.cell
    refine J.skip ?_
    refine J.seq ?_
    refine J.block ?_
    refine J.seq ?_
    refine J.region ?_
    refine JL.go trivial (RX.indexAddr rfl rfl sl22 (by omega) (by omega) rfl) ?_
    refine JL.go trivial (RX.loadAggS H hs.cons.cons.cons rfl (j := i * 6) (by omega) (vaVs_read hxi) ag30) ?_
    refine JL.does trivial (EX.alloc H zr30 rfl) ?_
    rintro _ w ⟨b6, rfl, H⟩
    refine JL.does trivial (EX.storeAgg H rfl rfl (i := 0) (vs := x.cells) (l' := x.cells) rfl hcell (by simp [Va.cells]) sz30 rfl rfl) ?_
    rintro _ w H
    refine JL.nil ?_
    refine J.seq ?_
    refine J.region ?_
    refine JL.go trivial (RX.movev (v := Value.pointer _) rfl) ?_
    refine JL.go trivial (RX.loadAgg H rfl (i := 0) (vs := x.cells) rfl rfl ag30) ?_
    replace H := (H.pull 2 rfl).pull 2 rfl
    refine JL.does trivial (EX.call rfl cl10 rfl ((write_b ⟨p, c, s, ho, H⟩ hE.cons.cons hx.cons.cons (by omega)))) ?_
    rintro _ w ⟨p, c, s, q2, qc2, qs2, rfl, ho2, ho, H⟩
    refine JL.go trivial (RX.movev (v := Value.tuple _) rfl) ?_
    refine JL.go trivial (RX.extract rfl rfl) ?_
    refine JL.go trivial (RX.extract rfl rfl) ?_
    refine JL.go trivial (RX.assignv (v := Value.slice _ _ _) rfl) ?_
    refine JL.go trivial (RX.assignv (v := Value.bool _) rfl) ?_
    refine JL.nil ?_
    refine J.seq ?_
    refine J.region ?_
    refine JL.go trivial (RX.movev (v := Value.slice _ _ _) rfl) ?_
    refine JL.go trivial (RX.movev (v := Value.slice _ _ _) rfl) ?_
    refine JL.does trivial (EX.append (L' := fun s' => [(b, cel [.slice p ((tot (l.take i)) ++ vform x).length c] 86)] :: s :: qs2 :: [(b6, cel x.cells 30)] :: s' :: F) H elB rfl rfl (i := 4) rfl hoq (ho2.slAt.cons.cons) (by simp [bv_len]) (bv_cell _) (by decide) (by have := vform_len hx; have := hx.ks; have := hx.kl; omega) (by have := vform_len hx; have := hx.ks; have := hx.kl; omega) (fun _ => rfl)) ?_
    rintro _ w ⟨q3, qc3, qs3, rfl, ho3, H⟩
    rw [← List.length_append, ← bv_app] at ho3
    rw [show (tot (l.take i)).length + (vform x).length = ((tot (l.take i)) ++ vform x).length from List.length_append.symm]
    refine JL.go trivial (RX.assignv (v := Value.slice _ _ _) rfl) ?_
    refine JL.nil ?_
    refine J.seq ?_
    refine J.any hmix fun w hs => ?_
    replace H := H.same hs; clear hs
    refine JA.take 0 (listed' := [true, false, false, false, false, false, false, false, false, false, false, false, false, false, false, false, false, false, false, false, false, false]) rfl (by kernel_rfl) (by kernel_rfl) (by kernel_rfl) rfl trivial (fun w => RX.movev (v := Value.bool _) rfl) ?_
    refine JA.take 1 (listed' := [true, true, false, false, false, false, false, false, false, false, false, false, false, false, false, false, false, false, false, false, false, false]) rfl (by kernel_rfl) (by kernel_rfl) (by kernel_rfl) rfl trivial (fun w => RX.not rfl) ?_
    refine JA.take 2 (listed' := [true, true, true, false, false, false, false, false, false, false, false, false, false, false, false, false, false, false, false, false, false, false]) rfl (by kernel_rfl) (by kernel_rfl) (by kernel_rfl) rfl trivial (fun w => RX.movev (v := Value.bool _) rfl) ?_
    refine JA.take 3 (listed' := [true, true, true, true, false, false, false, false, false, false, false, false, false, false, false, false, false, false, false, false, false, false]) rfl (by kernel_rfl) (by kernel_rfl) (by kernel_rfl) rfl ⟨_, rfl, rfl⟩ (fun w => RX.movev (v := Value.pointer _) rfl) ?_
    refine JA.take 5 (listed' := [true, true, true, true, false, true, false, false, false, false, false, false, false, false, false, false, false, false, false, false, false, false]) rfl (by kernel_rfl) (by kernel_rfl) (by kernel_rfl) rfl ⟨_, rfl, rfl⟩ (fun w => RX.movev (v := Value.slice _ _ _) rfl) ?_
    refine JA.take 6 (listed' := [true, true, true, true, false, true, true, false, false, false, false, false, false, false, false, false, false, false, false, false, false, false]) rfl (by kernel_rfl) (by kernel_rfl) (by kernel_rfl) rfl ⟨_, rfl, rfl⟩ (fun w => RX.len_slice rfl (by rw [sl26]; rfl) rfl) ?_
    refine JA.all [4] (by kernel_rfl) (by decide) ?_
    refine JO.does (listed' := [true, true, true, true, true, true, true, false, false, false, false, false, false, false, false, false, false, false, false, false, false, false]) rfl rfl ⟨_, rfl, rfl⟩ (EX.call rfl cl11 rfl ((len_w (i := 0) H rfl))) ?_
    rintro _ w ⟨rfl, H⟩
    refine JA.take 7 (listed' := [true, true, true, true, true, true, true, true, false, false, false, false, false, false, false, false, false, false, false, false, false, false]) rfl (by kernel_rfl) (by kernel_rfl) (by kernel_rfl) rfl ⟨_, rfl, rfl⟩ (fun w => RX.ne rfl rfl) ?_
    refine JA.take 8 (listed' := [true, true, true, true, true, true, true, true, true, false, false, false, false, false, false, false, false, false, false, false, false, false]) rfl (by kernel_rfl) (by kernel_rfl) (by kernel_rfl) rfl trivial (fun w => RX.pick_f rfl rfl) ?_
    refine JA.take 9 (listed' := [true, true, true, true, true, true, true, true, true, true, false, false, false, false, false, false, false, false, false, false, false, false]) rfl (by kernel_rfl) (by kernel_rfl) (by kernel_rfl) rfl trivial (fun w => RX.movev (v := Value.bool _) rfl) ?_
    refine JA.take 10 (listed' := [true, true, true, true, true, true, true, true, true, true, true, false, false, false, false, false, false, false, false, false, false, false]) rfl (by kernel_rfl) (by kernel_rfl) (by kernel_rfl) rfl ⟨_, rfl, (decide_eq_false (fun h => h rfl))⟩ (fun w => RX.fieldAddr rfl fo30_0 rfl) ?_
    refine JA.all [11] (by kernel_rfl) (by decide) ?_
    refine JO.go (listed' := [true, true, true, true, true, true, true, true, true, true, true, true, false, false, false, false, false, false, false, false, false, false]) rfl rfl ⟨_, rfl, (decide_eq_false (fun h => h rfl))⟩ (by first | exact RX.load H rfl (i := 0) rfl rfl one3 | exact RX.load H rfl (i := 1) rfl rfl one3 | exact RX.load H rfl (i := 2) rfl rfl one3 | exact RX.load H rfl (i := 3) rfl rfl one3 | exact RX.load H rfl (i := 4) rfl rfl one3 | exact RX.load H rfl (i := 5) rfl rfl one3) ?_
    refine JA.take 12 (listed' := [true, true, true, true, true, true, true, true, true, true, true, true, true, false, false, false, false, false, false, false, false, false]) rfl (by kernel_rfl) (by kernel_rfl) (by kernel_rfl) rfl ⟨_, rfl, (decide_eq_false (fun h => h rfl))⟩ (fun w => RX.eq rfl rfl) ?_
    refine JA.take 13 (listed' := [true, true, true, true, true, true, true, true, true, true, true, true, true, true, false, false, false, false, false, false, false, false]) rfl (by kernel_rfl) (by kernel_rfl) (by kernel_rfl) rfl ⟨_, rfl, (decide_eq_false (fun h => h rfl))⟩ (fun w => RX.movev (v := Value.bool _) rfl) ?_
    refine JA.splitS 43 rfl (fun hk9 => ?_) (fun hk9 => ?_)
    · skip
      first | have hk9p := of_decide_eq_true hk9 | skip
      refine JA.take 14 (listed' := [true, true, true, true, true, true, true, true, true, true, true, true, true, true, true, false, false, false, false, false, false, false]) rfl (by kernel_rfl) (by kernel_rfl) (by kernel_rfl) rfl ⟨_, rfl, hk9⟩ (fun w => RX.movev (v := Value.pointer _) rfl) ?_
      refine JA.take 17 (listed' := [true, true, true, true, true, true, true, true, true, true, true, true, true, true, true, false, false, true, false, false, false, false]) rfl (by kernel_rfl) (by kernel_rfl) (by kernel_rfl) rfl ⟨_, rfl, hk9⟩ (fun w => RX.movev (v := Value.slice _ _ _) rfl) ?_
      refine JA.all [15, 18] (by kernel_rfl) (by decide) ?_
      refine ⟨?_, ?_⟩
      · skip
        refine JO.does (listed' := [true, true, true, true, true, true, true, true, true, true, true, true, true, true, true, true, false, true, false, false, false, false]) rfl rfl ⟨_, rfl, hk9⟩ (EX.call rfl cl12 rfl ((out_w H ho (by rw [List.length_append]; have := vform_len hx; have := hx.ks; have := hx.kl; omega)))) ?_
        rintro _ w ⟨q4, qc4, qs4, rfl, ho4, H⟩
        refine JA.all [16, 18] (by kernel_rfl) (by decide) ?_
        refine ⟨?_, ?_⟩
        · skip
          refine JO.go (listed' := [true, true, true, true, true, true, true, true, true, true, true, true, true, true, true, true, true, true, false, false, false, false]) rfl rfl ⟨_, rfl, hk9⟩ (RX.b2s (l := (tot (l.take i)) ++ vform x) H rfl ho4.slAt sl26 ud5 ud9) ?_
          refine JA.all [18] (by kernel_rfl) (by decide) ?_
          refine JO.go (listed' := [true, true, true, true, true, true, true, true, true, true, true, true, true, true, true, true, true, true, true, false, false, false]) rfl rfl ⟨_, rfl, hk9⟩ (RX.b2s (l := (tot (l.take i)) ++ vform x) H rfl (by first | exact ho3.slAt.cons.cons.cons.cons | exact ho3.slAt.cons.cons.cons.cons.cons) sl26 ud5 ud9) ?_
          refine JA.take 19 (listed' := [true, true, true, true, true, true, true, true, true, true, true, true, true, true, true, true, true, true, true, true, false, false]) rfl (by kernel_rfl) (by kernel_rfl) (by kernel_rfl) rfl ⟨_, rfl, hk9⟩ (fun w => RX.str_neq rfl rfl) ?_
          refine JA.take 20 (listed' := [true, true, true, true, true, true, true, true, true, true, true, true, true, true, true, true, true, true, true, true, true, false]) rfl (by kernel_rfl) (by kernel_rfl) (by kernel_rfl) rfl ⟨_, rfl, (decide_eq_false (fun h => h rfl))⟩ (fun w => RX.pick_t rfl hk9) ?_
          refine JA.take 21 (listed' := [true, true, true, true, true, true, true, true, true, true, true, true, true, true, true, true, true, true, true, true, true, true]) rfl (by kernel_rfl) (by kernel_rfl) (by kernel_rfl) rfl trivial (fun w => RX.pick_f rfl (decide_eq_false (fun h => h rfl))) ?_
          refine JA.done (by kernel_rfl) ?_
          refine J.cond_f rfl (by first | rfl | exact decide_eq_false (fun h => h rfl)) ?_
          refine J.skip ?_
          refine J.inBlock ?_
          refine J.region ?_
          refine JL.go trivial (RX.add rfl rfl (w_i64 rfl (by omega) (by omega))) ?_
          refine JL.go trivial (RX.movev (v := Value.int _ _) rfl) ?_
          refine JL.nil ?_
          rw [← tot_snoc hxi] at *
          first
          | exact IH (i + 1, p, c, s, q3, qc3, qs3) _ _ (by simp only; omega) ⟨rfl, rfl, rfl, trivial⟩ ⟨rfl, rfl, trivial⟩ ⟨by simp only; omega, ho, ho3, ((((H.drop).pull 2 rfl).drop).pull 2 rfl).drop⟩
          | exact IH (i + 1, p, c, s, q3, qc3, qs3) _ _ (by simp only; omega) ⟨rfl, rfl, rfl, trivial⟩ ⟨rfl, rfl, trivial⟩ ⟨by simp only; omega, ho, ho3, (((H.pull 2 rfl).drop).pull 2 rfl).drop⟩
        · skip
          refine JO.go (listed' := [true, true, true, true, true, true, true, true, true, true, true, true, true, true, true, true, false, true, true, false, false, false]) rfl rfl ⟨_, rfl, hk9⟩ (RX.b2s (l := (tot (l.take i)) ++ vform x) H rfl (by first | exact ho3.slAt.cons.cons.cons.cons | exact ho3.slAt.cons.cons.cons.cons.cons) sl26 ud5 ud9) ?_
          refine JA.all [16] (by kernel_rfl) (by decide) ?_
          refine JO.go (listed' := [true, true, true, true, true, true, true, true, true, true, true, true, true, true, true, true, true, true, true, false, false, false]) rfl rfl ⟨_, rfl, hk9⟩ (RX.b2s (l := (tot (l.take i)) ++ vform x) H rfl ho4.slAt sl26 ud5 ud9) ?_
          refine JA.take 19 (listed' := [true, true, true, true, true, true, true, true, true, true, true, true, true, true, true, true, true, true, true, true, false, false]) rfl (by kernel_rfl) (by kernel_rfl) (by kernel_rfl) rfl ⟨_, rfl, hk9⟩ (fun w => RX.str_neq rfl rfl) ?_
          refine JA.take 20 (listed' := [true, true, true, true, true, true, true, true, true, true, true, true, true, true, true, true, true, true, true, true, true, false]) rfl (by kernel_rfl) (by kernel_rfl) (by kernel_rfl) rfl ⟨_, rfl, (decide_eq_false (fun h => h rfl))⟩ (fun w => RX.pick_t rfl hk9) ?_
          refine JA.take 21 (listed' := [true, true, true, true, true, true, true, true, true, true, true, true, true, true, true, true, true, true, true, true, true, true]) rfl (by kernel_rfl) (by kernel_rfl) (by kernel_rfl) rfl trivial (fun w => RX.pick_f rfl (decide_eq_false (fun h => h rfl))) ?_
          refine JA.done (by kernel_rfl) ?_
          refine J.cond_f rfl (by first | rfl | exact decide_eq_false (fun h => h rfl)) ?_
          refine J.skip ?_
          refine J.inBlock ?_
          refine J.region ?_
          refine JL.go trivial (RX.add rfl rfl (w_i64 rfl (by omega) (by omega))) ?_
          refine JL.go trivial (RX.movev (v := Value.int _ _) rfl) ?_
          refine JL.nil ?_
          rw [← tot_snoc hxi] at *
          first
          | exact IH (i + 1, p, c, s, q3, qc3, qs3) _ _ (by simp only; omega) ⟨rfl, rfl, rfl, trivial⟩ ⟨rfl, rfl, trivial⟩ ⟨by simp only; omega, ho, ho3, ((((H.drop).pull 2 rfl).drop).pull 2 rfl).drop⟩
          | exact IH (i + 1, p, c, s, q3, qc3, qs3) _ _ (by simp only; omega) ⟨rfl, rfl, rfl, trivial⟩ ⟨rfl, rfl, trivial⟩ ⟨by simp only; omega, ho, ho3, (((H.pull 2 rfl).drop).pull 2 rfl).drop⟩
      · skip
        refine JO.go (listed' := [true, true, true, true, true, true, true, true, true, true, true, true, true, true, true, false, false, true, true, false, false, false]) rfl rfl ⟨_, rfl, hk9⟩ (RX.b2s (l := (tot (l.take i)) ++ vform x) H rfl (by first | exact ho3.slAt.cons.cons.cons.cons | exact ho3.slAt.cons.cons.cons.cons.cons) sl26 ud5 ud9) ?_
        refine JA.all [15] (by kernel_rfl) (by decide) ?_
        refine JO.does (listed' := [true, true, true, true, true, true, true, true, true, true, true, true, true, true, true, true, false, true, true, false, false, false]) rfl rfl ⟨_, rfl, hk9⟩ (EX.call rfl cl12 rfl ((out_w H ho (by rw [List.length_append]; have := vform_len hx; have := hx.ks; have := hx.kl; omega)))) ?_
        rintro _ w ⟨q4, qc4, qs4, rfl, ho4, H⟩
        refine JA.all [16] (by kernel_rfl) (by decide) ?_
        refine JO.go (listed' := [true, true, true, true, true, true, true, true, true, true, true, true, true, true, true, true, true, true, true, false, false, false]) rfl rfl ⟨_, rfl, hk9⟩ (RX.b2s (l := (tot (l.take i)) ++ vform x) H rfl ho4.slAt sl26 ud5 ud9) ?_
        refine JA.take 19 (listed' := [true, true, true, true, true, true, true, true, true, true, true, true, true, true, true, true, true, true, true, true, false, false]) rfl (by kernel_rfl) (by kernel_rfl) (by kernel_rfl) rfl ⟨_, rfl, hk9⟩ (fun w => RX.str_neq rfl rfl) ?_
        refine JA.take 20 (listed' := [true, true, true, true, true, true, true, true, true, true, true, true, true, true, true, true, true, true, true, true, true, false]) rfl (by kernel_rfl) (by kernel_rfl) (by kernel_rfl) rfl ⟨_, rfl, (decide_eq_false (fun h => h rfl))⟩ (fun w => RX.pick_t rfl hk9) ?_
        refine JA.take 21 (listed' := [true, true, true, true, true, true, true, true, true, true, true, true, true, true, true, true, true, true, true, true, true, true]) rfl (by kernel_rfl) (by kernel_rfl) (by kernel_rfl) rfl trivial (fun w => RX.pick_f rfl (decide_eq_false (fun h => h rfl))) ?_
        refine JA.done (by kernel_rfl) ?_
        refine J.cond_f rfl (by first | rfl | exact decide_eq_false (fun h => h rfl)) ?_
        refine J.skip ?_
        refine J.inBlock ?_
        refine J.region ?_
        refine JL.go trivial (RX.add rfl rfl (w_i64 rfl (by omega) (by omega))) ?_
        refine JL.go trivial (RX.movev (v := Value.int _ _) rfl) ?_
        refine JL.nil ?_
        rw [← tot_snoc hxi] at *
        first
        | exact IH (i + 1, p, c, s, q3, qc3, qs3) _ _ (by simp only; omega) ⟨rfl, rfl, rfl, trivial⟩ ⟨rfl, rfl, trivial⟩ ⟨by simp only; omega, ho, ho3, ((((H.drop).pull 2 rfl).drop).pull 2 rfl).drop⟩
        | exact IH (i + 1, p, c, s, q3, qc3, qs3) _ _ (by simp only; omega) ⟨rfl, rfl, rfl, trivial⟩ ⟨rfl, rfl, trivial⟩ ⟨by simp only; omega, ho, ho3, (((H.pull 2 rfl).drop).pull 2 rfl).drop⟩
    · skip
      first | have hk9p := of_decide_eq_false hk9 | skip
      refine JA.takeno 14 (listed' := [true, true, true, true, true, true, true, true, true, true, true, true, true, true, true, false, false, false, false, false, false, false]) rfl (by kernel_rfl) (by kernel_rfl) (by kernel_rfl) rfl ⟨_, rfl, gno hk9⟩ ?_
      refine JA.takeno 15 (listed' := [true, true, true, true, true, true, true, true, true, true, true, true, true, true, true, true, false, false, false, false, false, false]) rfl (by kernel_rfl) (by kernel_rfl) (by kernel_rfl) rfl ⟨_, rfl, gno hk9⟩ ?_
      refine JA.takeno 16 (listed' := [true, true, true, true, true, true, true, true, true, true, true, true, true, true, true, true, true, false, false, false, false, false]) rfl (by kernel_rfl) (by kernel_rfl) (by kernel_rfl) rfl ⟨_, rfl, gno hk9⟩ ?_
      refine JA.takeno 17 (listed' := [true, true, true, true, true, true, true, true, true, true, true, true, true, true, true, true, true, true, false, false, false, false]) rfl (by kernel_rfl) (by kernel_rfl) (by kernel_rfl) rfl ⟨_, rfl, gno hk9⟩ ?_
      refine JA.takeno 18 (listed' := [true, true, true, true, true, true, true, true, true, true, true, true, true, true, true, true, true, true, true, false, false, false]) rfl (by kernel_rfl) (by kernel_rfl) (by kernel_rfl) rfl ⟨_, rfl, gno hk9⟩ ?_
      refine JA.takeno 19 (listed' := [true, true, true, true, true, true, true, true, true, true, true, true, true, true, true, true, true, true, true, true, false, false]) rfl (by kernel_rfl) (by kernel_rfl) (by kernel_rfl) rfl ⟨_, rfl, gno hk9⟩ ?_
      refine JA.take 20 (listed' := [true, true, true, true, true, true, true, true, true, true, true, true, true, true, true, true, true, true, true, true, true, false]) rfl (by kernel_rfl) (by kernel_rfl) (by kernel_rfl) rfl ⟨_, rfl, (decide_eq_false (fun h => h rfl))⟩ (fun w => RX.pick_f rfl hk9) ?_
      refine JA.take 21 (listed' := [true, true, true, true, true, true, true, true, true, true, true, true, true, true, true, true, true, true, true, true, true, true]) rfl (by kernel_rfl) (by kernel_rfl) (by kernel_rfl) rfl trivial (fun w => RX.pick_f rfl (decide_eq_false (fun h => h rfl))) ?_
      refine JA.done (by kernel_rfl) ?_
      refine J.cond_f rfl (by first | rfl | exact decide_eq_false (fun h => h rfl)) ?_
      refine J.skip ?_
      refine J.inBlock ?_
      refine J.region ?_
      refine JL.go trivial (RX.add rfl rfl (w_i64 rfl (by omega) (by omega))) ?_
      refine JL.go trivial (RX.movev (v := Value.int _ _) rfl) ?_
      refine JL.nil ?_
      rw [← tot_snoc hxi] at *
      first
      | exact IH (i + 1, p, c, s, q3, qc3, qs3) _ _ (by simp only; omega) ⟨rfl, rfl, rfl, trivial⟩ ⟨rfl, rfl, trivial⟩ ⟨by simp only; omega, ho, ho3, ((((H.drop).pull 2 rfl).drop).pull 2 rfl).drop⟩
      | exact IH (i + 1, p, c, s, q3, qc3, qs3) _ _ (by simp only; omega) ⟨rfl, rfl, rfl, trivial⟩ ⟨rfl, rfl, trivial⟩ ⟨by simp only; omega, ho, ho3, (((H.pull 2 rfl).drop).pull 2 rfl).drop⟩
  · skip
    refine J.exit rfl ?_
    refine J.seq ?_
    refine J.any hmix fun w hs => ?_
    replace H := H.same hs; clear hs
    refine JA.take 0 (listed' := [true, false, false, false, false, false, false]) rfl (by kernel_rfl) (by kernel_rfl) (by kernel_rfl) rfl trivial (fun w => RX.movev (v := Value.pointer _) rfl) ?_
    refine JA.take 3 (listed' := [true, false, false, true, false, false, false]) rfl (by kernel_rfl) (by kernel_rfl) (by kernel_rfl) rfl trivial (fun w => RX.movev (v := Value.slice _ _ _) rfl) ?_
    refine JA.all [1, 4] (by kernel_rfl) (by decide) ?_
    refine ⟨?_, ?_⟩
    · skip
      refine JO.does (listed' := [true, true, false, true, false, false, false]) rfl rfl trivial (EX.call rfl cl12 rfl ((out_w H ho (by omega)))) ?_
      rintro _ w ⟨q4, qc4, qs4, rfl, ho4, H⟩
      refine JA.all [2, 4] (by kernel_rfl) (by decide) ?_
      refine ⟨?_, ?_⟩
      · skip
        refine JO.go (listed' := [true, true, true, true, false, false, false]) rfl rfl trivial (RX.b2s (l := tot (l.take i)) H rfl ho4.slAt sl26 ud5 ud9) ?_
        refine JA.all [4] (by kernel_rfl) (by decide) ?_
        refine JO.go (listed' := [true, true, true, true, true, false, false]) rfl rfl trivial (RX.b2s (l := tot (l.take i)) H rfl (by first | exact hoq.slAt.cons.cons | exact hoq.slAt.cons.cons.cons) sl26 ud5 ud9) ?_
        refine JA.take 5 (listed' := [true, true, true, true, true, true, false]) rfl (by kernel_rfl) (by kernel_rfl) (by kernel_rfl) rfl trivial (fun w => RX.str_eql rfl rfl) ?_
        refine JA.take 6 (listed' := [true, true, true, true, true, true, true]) rfl (by kernel_rfl) (by kernel_rfl) (by kernel_rfl) rfl trivial (fun w => RX.assignv (v := Value.bool _) rfl) ?_
        refine JA.done (by kernel_rfl) ?_
        refine J.ret1 (v := Value.bool _) Tryd.func3 rfl rfl ?_
        exact ⟨_, rfl, by simp, H.drop.drop.drop.drop⟩
      · skip
        refine JO.go (listed' := [true, true, false, true, true, false, false]) rfl rfl trivial (RX.b2s (l := tot (l.take i)) H rfl (by first | exact hoq.slAt.cons.cons | exact hoq.slAt.cons.cons.cons) sl26 ud5 ud9) ?_
        refine JA.all [2] (by kernel_rfl) (by decide) ?_
        refine JO.go (listed' := [true, true, true, true, true, false, false]) rfl rfl trivial (RX.b2s (l := tot (l.take i)) H rfl ho4.slAt sl26 ud5 ud9) ?_
        refine JA.take 5 (listed' := [true, true, true, true, true, true, false]) rfl (by kernel_rfl) (by kernel_rfl) (by kernel_rfl) rfl trivial (fun w => RX.str_eql rfl rfl) ?_
        refine JA.take 6 (listed' := [true, true, true, true, true, true, true]) rfl (by kernel_rfl) (by kernel_rfl) (by kernel_rfl) rfl trivial (fun w => RX.assignv (v := Value.bool _) rfl) ?_
        refine JA.done (by kernel_rfl) ?_
        refine J.ret1 (v := Value.bool _) Tryd.func3 rfl rfl ?_
        exact ⟨_, rfl, by simp, H.drop.drop.drop.drop⟩
    · skip
      refine JO.go (listed' := [true, false, false, true, true, false, false]) rfl rfl trivial (RX.b2s (l := tot (l.take i)) H rfl (by first | exact hoq.slAt.cons.cons | exact hoq.slAt.cons.cons.cons) sl26 ud5 ud9) ?_
      refine JA.all [1] (by kernel_rfl) (by decide) ?_
      refine JO.does (listed' := [true, true, false, true, true, false, false]) rfl rfl trivial (EX.call rfl cl12 rfl ((out_w H ho (by omega)))) ?_
      rintro _ w ⟨q4, qc4, qs4, rfl, ho4, H⟩
      refine JA.all [2] (by kernel_rfl) (by decide) ?_
      refine JO.go (listed' := [true, true, true, true, true, false, false]) rfl rfl trivial (RX.b2s (l := tot (l.take i)) H rfl ho4.slAt sl26 ud5 ud9) ?_
      refine JA.take 5 (listed' := [true, true, true, true, true, true, false]) rfl (by kernel_rfl) (by kernel_rfl) (by kernel_rfl) rfl trivial (fun w => RX.str_eql rfl rfl) ?_
      refine JA.take 6 (listed' := [true, true, true, true, true, true, true]) rfl (by kernel_rfl) (by kernel_rfl) (by kernel_rfl) rfl trivial (fun w => RX.assignv (v := Value.bool _) rfl) ?_
      refine JA.done (by kernel_rfl) ?_
      refine J.ret1 (v := Value.bool _) Tryd.func3 rfl rfl ?_
      exact ⟨_, rfl, by simp, H.drop.drop.drop.drop⟩
end Go.Proofs.YtippfdnjhcpekaaDoor

/- PackReads. -/
import Derived.Test.YtippfdnjhcpekaaDoorLy
namespace Go.Proofs.YtippfdnjhcpekaaDoor
open Go Go.Eng
set_option maxRecDepth 100000
set_option linter.unusedVariables false
set_option linter.unusedSimpArgs false
theorem PackReads_b {w0 w : World} {F : List Seg} {E : Nat → Value} {Q : Nat → Addr} (H : Hp w0 w F) (hE : Errs F E Q) {bs : List UInt8} {bp : Option Addr} {bc : Nat} (hbs : SlAt F bp (bv bs)) (hbl : bs.length ≤ 1048576) {l : List Va} {sp : Option Addr} {sc : Nat} (hs : SlAt F sp (vaVs l)) (hlk : ∀ x ∈ l, x.Ok F) (hb : (l.map bulkV).sum ≤ 1048576) (hln : l.length ≤ 1048576) : Ret Tryd.prog 5 [.slice bp bs.length bc, .slice sp l.length sc] w fun v w' => v = .bool true ∧ Hp w0 w' F := by
  refine Calls.of_J (n := 93) Tryd.func5 rfl rfl rfl ?_
  refine J.seq ?_
  refine J.region ?_
  refine JL.go trivial (RX.assign) ?_
  refine JL.nil ?_
  refine J.seq ?_
  refine J.seq ?_
  refine J.region ?_
  refine JL.does trivial (EX.call rfl cl8 rfl ((lives_b H hE))) ?_
  rintro _ w ⟨rfl, H⟩
  refine JL.go trivial (RX.not rfl) ?_
  refine JL.nil ?_
  refine J.cond_f rfl rfl ?_
  refine J.skip ?_
  refine J.seq ?_
  refine J.region ?_
  refine JL.does trivial (EX.buildSlice0 H elB) ?_
  rintro _ w ⟨b0, rfl, H⟩
  refine JL.go trivial (RX.movev (v := Value.slice _ _ _) rfl) ?_
  refine JL.does trivial (EX.append (ys := bv bs) (L' := fun s' => s' :: F) H elB rfl rfl (i := 0) rfl OwnSl.empty hbs.cons (by simp [bv_len]) (bv_cell _) (by decide) (by omega) (by omega) (fun _ => rfl)) ?_
  rintro _ w ⟨q0, c0, s0, rfl, ho0, H⟩
  refine JL.does trivial (EX.buildSlice (pv := [(0, .int .u8 85), (1, .int .u8 170)]) (l := bv [85, 170]) (e := 5) H rfl (by kernel_rfl)) ?_
  rintro _ w ⟨bx, rfl, H⟩
  refine JL.does trivial (EX.append (ys := bv [85, 170]) (L' := fun s' => [(bx, cel (bv [85, 170]) 5)] :: s' :: F) H elB rfl rfl (i := 1) rfl ho0 (SlAt.here rfl) rfl (bv_cell _) (by decide) (by omega) (by omega) (fun _ => rfl)) ?_
  rintro v w ⟨fq, fc, s1, hv, ho1, H⟩
  rw [show 0 + bs.length + 2 = (bs ++ [85, 170]).length by simp] at hv ho1
  rw [List.nil_append, ← bv_app] at ho1
  subst hv
  replace H := H.drop
  have hfl : (bs ++ [85, 170]).length = bs.length + 2 := by simp
  have hle := ho1.le
  refine JL.go trivial (RX.assignv (v := Value.slice _ _ _) rfl) ?_
  refine JL.nil ?_
  have hm : ∀ L, SlAt (s1 :: L) fq (bv bs) := fun L => (show SlAt (s1 :: L) fq (bv bs ++ bv [85, 170]) by rw [← bv_app]; exact ho1.slAt).pre
  refine J.seq ?_
  refine J.region ?_
  refine JL.go trivial (RX.movev (v := Value.slice _ _ _) rfl) ?_
  refine JL.go trivial (RX.movev (v := Value.slice _ _ _) rfl) ?_
  refine JL.go trivial (RX.len_slice rfl (by rw [sl26]; rfl) rfl) ?_
  refine JL.go trivial (RX.slice_h rfl rfl sl26 ho1.spot (by omega) (by omega) rfl) ?_
  refine JL.go trivial (RX.assignv (v := Value.slice _ _ _) rfl) ?_
  refine JL.nil ?_
  refine J.seq ?_
  refine J.region ?_
  refine JL.go trivial (RX.movev (v := Value.slice _ _ _) rfl) ?_
  refine JL.does trivial (EX.call rfl cl15 rfl ((read_r H (hm _) (by omega)))) ?_
  rintro _ w ⟨rb, rp, rc, rs, rfl, hor, H⟩
  refine JL.go trivial (RX.assignv (v := Value.pointer _) rfl) ?_
  refine JL.nil ?_
  refine J.seq ?_
  refine J.seq ?_
  refine J.region ?_
  refine JL.go trivial (RX.movev (v := Value.pointer _) rfl) ?_
  refine JL.go trivial (RX.ptrnil_eql rfl rfl pn42) ?_
  refine JL.go trivial (RX.movev (v := Value.bool _) rfl) ?_
  refine JL.go ⟨_, rfl, rfl⟩ (RX.movev (v := Value.slice _ _ _) rfl) ?_
  refine JL.go ⟨_, rfl, rfl⟩ (RX.b2s (l := bs ++ [85, 170]) H rfl ho1.slAt.cons.cons sl26 ud5 ud9) ?_
  refine JL.go ⟨_, rfl, rfl⟩ (RX.movev (v := Value.slice _ _ _) rfl) ?_
  refine JL.go ⟨_, rfl, rfl⟩ (RX.b2s (l := bs) H rfl hbs.cons.cons.cons sl26 ud5 ud9) ?_
  refine JL.go ⟨_, rfl, rfl⟩ (RX.str_add rfl rfl (by rw [b_size]; simp [ByteArray.size]; omega)) ?_
  refine JL.go ⟨_, rfl, rfl⟩ (RX.str_neq rfl rfl) ?_
  refine JL.go trivial (RX.pick_f rfl rfl) ?_
  refine JL.nil ?_
  refine J.cond_f rfl (decide_eq_false (fun h => h (b_app bs [85, 170]).symm)) ?_
  refine J.skip ?_
  refine J.seq ?_
  refine J.seq ?_
  refine J.region ?_
  refine JL.go trivial (RX.movev (v := Value.slice _ _ _) rfl) ?_
  refine JL.go trivial (RX.len_slice rfl (by rw [sl26]; rfl) rfl) ?_
  refine JL.go trivial (RX.move) ?_
  refine JL.nil ?_
  refine J.block ?_
  refine J.loop (ι := Nat × List UInt8 × Seg) (S := fun q => [(38, .int .i64 (q.1 : Nat))]) (Φ := fun q w => q.1 ≤ (bs ++ [85, 170]).length ∧ q.2.1.length = (bs ++ [85, 170]).length ∧ OwnSl 5 1 fq (bs ++ [85, 170]).length fc (bv q.2.1) q.2.2 ∧ Hp w0 w ([(rb, cel [.slice rp bs.length rc, .int .i64 (0 : Nat)] 102)] :: rs :: q.2.2 :: F)) (μ := fun q => (bs ++ [85, 170]).length - q.1) (C := [(0, _), (1, _), (5, _), (7, _), (37, _)]) (0, bs ++ [85, 170], s1) ⟨rfl, rfl, rfl, rfl, rfl, trivial⟩ ⟨rfl, trivial⟩ ?_ ?_
  · exact ⟨by omega, rfl, ho1, H⟩
  clear H ho1 hm
  rintro ⟨i, ys, s1⟩ ρ w ⟨hi, hyl, ho1, H⟩ IH
  simp only at hi hyl ho1 H
  dsimp only
  refine J.seq ?_
  refine J.region ?_
  refine JL.go trivial (RX.lt rfl rfl) ?_
  refine JL.nil ?_
  refine J.seq ?_
  refine J.cond_d rfl (fun hlt => ?_) (fun hlt => ?_)
  · skip
    obtain ⟨gb, l1, rfl, rfl, hll⟩ := ho1.ptr (by omega)
    obtain ⟨bb, hbb⟩ : ∃ bb, ys[i]? = some bb := ⟨_, List.getElem?_eq_getElem (by omega)⟩
    have hllen : i < l1.length := by have := hll.2.1; have := hll.1; omega
    refine J.skip ?_
    refine J.seq ?_
    refine J.block ?_
    refine J.seq ?_
    refine J.region ?_
    refine JL.go trivial (RX.movev (v := Value.int _ _) rfl) ?_
    refine JL.go trivial (RX.assignv (v := Value.int _ _) rfl) ?_
    refine JL.nil ?_
    refine J.region ?_
    refine JL.go trivial (RX.movev (v := Value.slice _ _ _) rfl) ?_
    refine JL.go trivial (RX.movev (v := Value.int _ _) rfl) ?_
    refine JL.go trivial (RX.indexAddr rfl rfl sl26 (by omega) (by omega) rfl) ?_
    refine JL.go trivial (RX.loadS H (SlAt.here hll.2.2).cons.cons rfl (j := i) (by omega) (bv_get hbb) one5) ?_
    refine JL.go trivial (RX.xor rfl rfl (xor8 bb 60)) ?_
    refine JL.go trivial (RX.indexAddr rfl rfl sl26 (by omega) (by omega) rfl) ?_
    refine JL.does trivial (EX.store (v := Value.int _ _) H rfl rfl (i := 2) rfl rfl (by omega) sz5 rfl rfl) ?_
    rintro _ w H
    refine JL.nil ?_
    refine J.inBlock ?_
    refine J.region ?_
    refine JL.go trivial (RX.add rfl rfl (w_i64 rfl (by omega) (by omega))) ?_
    refine JL.go trivial (RX.movev (v := Value.int _ _) rfl) ?_
    refine JL.nil ?_
    exact IH (i + 1, ys.set i (bb ^^^ 60), _) _ _ (by simp only; omega) ⟨rfl, rfl, rfl, rfl, rfl, trivial⟩ ⟨rfl, trivial⟩ ⟨by simp only; omega, by simp [hyl], by rw [← bv_set]; exact ho1.set, by simpa using H⟩
  · skip
    refine J.exit rfl ?_
    refine J.seq ?_
    refine J.region ?_
    refine JL.does trivial (EX.buildSlice0 H elB) ?_
    rintro _ w ⟨b2, rfl, H⟩
    refine JL.go trivial (RX.movev (v := Value.slice _ _ _) rfl) ?_
    refine JL.does trivial (EX.append (ys := bv bs) (L' := fun s' => s' :: [(rb, cel [.slice rp bs.length rc, .int .i64 (0 : Nat)] 102)] :: rs :: s1 :: F) H elB rfl rfl (i := 0) rfl OwnSl.empty hbs.cons.cons.cons.cons (by simp [bv_len]) (bv_cell _) (by decide) (by omega) (by omega) (fun _ => rfl)) ?_
    rintro v w ⟨tp, tc, s2, hv, hot, H⟩
    rw [Nat.zero_add] at hv hot
    rw [List.nil_append] at hot
    subst hv
    refine JL.go trivial (RX.build (pv := [(0, .slice tp bs.length tc)]) (res := [.slice tp bs.length tc, .int .i64 0]) rfl (by kernel_rfl)) ?_
    refine JL.does trivial (EX.box (v := Value.agg _) H rfl rfl) ?_
    rintro _ w ⟨tb, rfl, H⟩
    refine JL.go trivial (RX.assignv (v := Value.pointer _) rfl) ?_
    refine JL.nil ?_
    replace H := (H.pull 3 rfl).pull 3 rfl
    refine J.seq ?_
    refine J.seq ?_
    refine J.region ?_
    refine JL.go trivial (RX.movev (v := Value.slice _ _ _) rfl) ?_
    refine JL.go trivial (RX.len_slice rfl (by rw [sl22]; rfl) rfl) ?_
    refine JL.go trivial (RX.move) ?_
    refine JL.nil ?_
    refine J.block ?_
    refine J.loop (ι := Nat × Nat) (S := fun q => [(55, .int .i64 (q.1 : Nat))]) (Φ := fun q w => q.1 ≤ l.length ∧ q.2 ≤ bs.length ∧ Hp w0 w ([(rb, cel [.slice rp bs.length rc, .int .i64 (q.2 : Nat)] 102)] :: rs :: [(tb, cel [.slice tp bs.length tc, .int .i64 (q.2 : Nat)] 49)] :: s2 :: s1 :: F)) (μ := fun q => l.length - q.1) (C := [(0, _), (7, _), (9, _), (53, _), (54, _)]) (0, 0) ⟨rfl, rfl, rfl, rfl, rfl, trivial⟩ ⟨rfl, trivial⟩ ?_ ?_
    · exact ⟨by omega, by simp, H⟩
    clear H
    rintro ⟨i, at_⟩ ρ w ⟨hi, hat, H⟩ IH
    simp only at hi hat H
    dsimp only
    refine J.seq ?_
    refine J.region ?_
    refine JL.go trivial (RX.lt rfl rfl) ?_
    refine JL.nil ?_
    refine J.seq ?_
    refine J.cond_d rfl (fun hlt => ?_) (fun hlt => ?_)
    · skip
      obtain ⟨x, hxi⟩ : ∃ x, l[i]? = some x := ⟨_, List.getElem?_eq_getElem (by omega)⟩
      have hx := hlk x (List.mem_of_getElem? hxi)
      obtain ⟨pb, po, rfl, _⟩ := hs.some (by rw [vaVs_len]; omega)
      have hcell := x.cell
      refine J.skip ?_
      refine J.seq ?_
      refine J.block ?_
      refine J.seq ?_
      refine J.region ?_
      refine JL.go trivial (RX.indexAddr rfl rfl sl22 (by omega) (by omega) rfl) ?_
      refine JL.go trivial (RX.loadAggS H hs.cons.cons.cons.cons.cons rfl (j := i * 6) (by omega) (vaVs_read hxi) ag30) ?_
      refine JL.does trivial (EX.alloc H zr30 rfl) ?_
      rintro _ w ⟨b6, rfl, H⟩
      refine JL.does trivial (EX.storeAgg H rfl rfl (i := 0) (vs := x.cells) (l' := x.cells) rfl hcell (by simp [Va.cells]) sz30 rfl rfl) ?_
      rintro _ w H
      refine JL.nil ?_
      refine J.seq ?_
      refine J.region ?_
      refine JL.go trivial (RX.movev (v := Value.pointer _) rfl) ?_
      refine JL.go trivial (RX.movev (v := Value.pointer _) rfl) ?_
      refine JL.go trivial (RX.loadAgg H rfl (i := 0) (vs := x.cells) rfl rfl ag30) ?_
      replace H := ((H.pull 3 rfl).pull 3 rfl).pull 3 rfl
      refine JL.does trivial (EX.call rfl cl18 rfl ((read_b H hor hot.slAt.cons hot.spot hot.le hat (by omega) hE.cons.cons.cons hx.cons.cons.cons))) ?_
      rintro _ w ⟨at2, hat2, rfl, H⟩
      refine JL.go trivial (RX.assignv (v := Value.bool _) rfl) ?_
      refine JL.nil ?_
      refine J.seq ?_
      refine J.quietH H hmix (by kernel_rfl) ?_
      refine JQ.go trivial (fun w H => RX.movev (v := Value.bool _) rfl) ?_
      refine JQ.go trivial (fun w H => RX.not rfl) ?_
      refine JQ.go trivial (fun w H => RX.movev (v := Value.bool _) rfl) ?_
      refine JQ.go ⟨_, rfl, rfl⟩ (fun w H => RX.movev (v := Value.pointer _) rfl) ?_
      refine JQ.call ⟨_, rfl, rfl⟩ (fun w H => run_callq rfl cl19 rfl) (fun w H => (at_r (i := 0) H rfl)) ?_
      refine JQ.go ⟨_, rfl, rfl⟩ (fun w H => RX.movev (v := Value.pointer _) rfl) ?_
      refine JQ.go ⟨_, rfl, rfl⟩ (fun w H => RX.nilCheck rfl) ?_
      refine JQ.go ⟨_, rfl, rfl⟩ (fun w H => RX.fieldAddr rfl fo49_1 rfl) ?_
      refine JQ.go ⟨_, rfl, rfl⟩ (fun w H => by first | exact RX.load H rfl (i := 0) rfl rfl one3 | exact RX.load H rfl (i := 1) rfl rfl one3 | exact RX.load H rfl (i := 2) rfl rfl one3 | exact RX.load H rfl (i := 3) rfl rfl one3 | exact RX.load H rfl (i := 4) rfl rfl one3 | exact RX.load H rfl (i := 5) rfl rfl one3 | exact RX.load H rfl (i := 6) rfl rfl one3) ?_
      refine JQ.go ⟨_, rfl, rfl⟩ (fun w H => RX.ne rfl rfl) ?_
      refine JQ.go trivial (fun w H => RX.pick_f rfl rfl) ?_
      refine JQ.go trivial (fun w H => RX.movev (v := Value.bool _) rfl) ?_
      refine JQ.go ⟨_, rfl, (decide_eq_false (fun h => h rfl))⟩ (fun w H => RX.movev (v := Value.pointer _) rfl) ?_
      refine JQ.call ⟨_, rfl, (decide_eq_false (fun h => h rfl))⟩ (fun w H => run_callq rfl cl20 rfl) (fun w H => (left_r H hor hat2 (by omega))) ?_
      refine JQ.go ⟨_, rfl, (decide_eq_false (fun h => h rfl))⟩ (fun w H => RX.movev (v := Value.slice _ _ _) rfl) ?_
      refine JQ.go ⟨_, rfl, (decide_eq_false (fun h => h rfl))⟩ (fun w H => RX.len_slice rfl (by rw [sl26]; rfl) rfl) ?_
      refine JQ.go ⟨_, rfl, (decide_eq_false (fun h => h rfl))⟩ (fun w H => RX.movev (v := Value.pointer _) rfl) ?_
      refine JQ.go ⟨_, rfl, (decide_eq_false (fun h => h rfl))⟩ (fun w H => RX.nilCheck rfl) ?_
      refine JQ.go ⟨_, rfl, (decide_eq_false (fun h => h rfl))⟩ (fun w H => RX.fieldAddr rfl fo49_1 rfl) ?_
      refine JQ.go ⟨_, rfl, (decide_eq_false (fun h => h rfl))⟩ (fun w H => by first | exact RX.load H rfl (i := 0) rfl rfl one3 | exact RX.load H rfl (i := 1) rfl rfl one3 | exact RX.load H rfl (i := 2) rfl rfl one3 | exact RX.load H rfl (i := 3) rfl rfl one3 | exact RX.load H rfl (i := 4) rfl rfl one3 | exact RX.load H rfl (i := 5) rfl rfl one3 | exact RX.load H rfl (i := 6) rfl rfl one3) ?_
      refine JQ.go ⟨_, rfl, (decide_eq_false (fun h => h rfl))⟩ (fun w H => RX.sub rfl rfl (w_i64 (r := ((bs.length - at2 : Nat) : Int)) (by omega) (by omega) (by omega))) ?_
      refine JQ.go ⟨_, rfl, (decide_eq_false (fun h => h rfl))⟩ (fun w H => RX.ne rfl rfl) ?_
      refine JQ.go trivial (fun w H => RX.pick_f rfl (decide_eq_false (fun h => h rfl))) ?_
      refine JQ.nil fun w H => ?_
      refine J.cond_f rfl (decide_eq_false (fun h => h rfl)) ?_
      refine J.skip ?_
      refine J.inBlock ?_
      refine J.region ?_
      refine JL.go trivial (RX.add rfl rfl (w_i64 rfl (by omega) (by omega))) ?_
      refine JL.go trivial (RX.movev (v := Value.int _ _) rfl) ?_
      refine JL.nil ?_
      exact IH (i + 1, at2) _ _ (by simp only; omega) ⟨rfl, rfl, rfl, rfl, rfl, trivial⟩ ⟨rfl, trivial⟩ ⟨by simp only; omega, hat2, (H.pull 3 rfl).drop⟩
    · skip
      refine J.exit rfl ?_
      refine J.seq ?_
      refine J.region ?_
      refine JL.go trivial (RX.movev (v := Value.pointer _) rfl) ?_
      refine JL.does trivial (EX.call rfl cl22 rfl ((done_r H hor hat (by omega) hE.cons.cons.cons.five.g4))) ?_
      rintro _ w ⟨rfl, H⟩
      rw [show (if at_ < bs.length then E 4 else .nilIface) = errV E (if at_ < bs.length then 4 else 0) by split <;> rfl]
      refine JL.does trivial (EX.call rfl cl21 rfl ((Num_b H hE.cons.cons.cons.cons.cons (by split <;> omega)))) ?_
      rintro _ w ⟨rfl, H⟩
      refine JL.go trivial (RX.movev (v := Value.pointer _) rfl) ?_
      refine JL.does trivial (EX.call rfl cl23 rfl ((ref_Done (H.pull 2 rfl) hot.slAt.cons.cons hat (by omega)))) ?_
      rintro _ w ⟨rfl, H⟩
      refine JL.go trivial (RX.eq rfl rfl) ?_
      refine JL.go trivial (RX.assignv (v := Value.bool _) rfl) ?_
      refine JL.nil ?_
      refine J.ret1 (v := Value.bool _) Tryd.func5 rfl rfl ?_
      exact ⟨_, rfl, by split <;> rfl, H.drop.drop.drop.drop.drop⟩
end Go.Proofs.YtippfdnjhcpekaaDoor

/- PackThere. -/
import Derived.Test.YtippfdnjhcpekaaDoorLz
namespace Go.Proofs.YtippfdnjhcpekaaDoor
open Go Go.Eng
set_option maxRecDepth 100000
set_option linter.unusedVariables false
set_option linter.unusedSimpArgs false
theorem tot_split {l : List Va} {i : Nat} {x : Va} (h : l[i]? = some x) : (tot l).drop (tot (l.take i)).length = vform x ++ tot (l.drop (i + 1)) := by
  obtain ⟨hi, hx⟩ := List.getElem?_eq_some_iff.1 h
  have e : l = l.take i ++ (x :: l.drop (i + 1)) := by rw [← hx, ← List.drop_eq_getElem_cons hi, List.take_append_drop]
  have e2 : tot l = tot (l.take i) ++ (vform x ++ tot (l.drop (i + 1))) := by
    conv => lhs; rw [e]
    unfold tot
    rw [List.map_append, List.flatten_append, List.map_cons, List.flatten_cons]
  rw [e2]; exact List.drop_left
theorem tot_take_le (l : List Va) (i : Nat) : (tot (l.take i)).length ≤ (tot l).length := by
  conv => rhs; rw [← List.take_append_drop i l]
  unfold tot
  rw [List.map_append, List.flatten_append, List.length_append]; omega
theorem wrap_u64_nat (z : Int) : ∃ u : Nat, IntKind.u64.wrap z = (u : Int) ∧ u < 18446744073709551616 := by
  refine ⟨(z % 18446744073709551616).toNat, ?_, by omega⟩
  rw [wrap_u64]; omega
theorem PackThere_b {w0 w : World} {F : List Seg} {E : Nat → Value} {Q : Nat → Addr} (H : Hp w0 w F) (hE : Errs F E Q) {l : List Va} {sp : Option Addr} {sc : Nat} (hs : SlAt F sp (vaVs l)) (hlk : ∀ x ∈ l, x.Ok F) (hb : (l.map bulkV).sum ≤ 1048576) (hln : l.length ≤ 1048576) {cut : Int} : Ret Tryd.prog 7 [.slice sp l.length sc, .int .i64 cut] w fun v w' => v = .bool true ∧ Hp w0 w' F := by
  refine Calls.of_J (n := 109) Tryd.func7 rfl rfl rfl ?_
  refine J.seq ?_
  obtain ⟨cu, hcu, hcu2⟩ := wrap_u64_nat cut
  have htt := tot_len l hlk
  refine J.region ?_
  refine JL.go trivial (RX.assign) ?_
  refine JL.nil ?_
  refine J.seq ?_
  refine J.seq ?_
  refine J.region ?_
  refine JL.does trivial (EX.call rfl cl8 rfl ((lives_b H hE))) ?_
  rintro _ w ⟨rfl, H⟩
  refine JL.go trivial (RX.not rfl) ?_
  refine JL.nil ?_
  refine J.cond_f rfl rfl ?_
  refine J.skip ?_
  refine J.seq ?_
  refine J.region ?_
  refine JL.does trivial (EX.call rfl cl9 rfl ((new_w H))) ?_
  rintro _ w ⟨b, rfl, H⟩
  replace H := (H.nil).pull 1 rfl
  refine JL.go trivial (RX.assignv (v := Value.pointer _) rfl) ?_
  refine JL.nil ?_
  refine J.seq ?_
  refine J.seq ?_
  refine J.region ?_
  refine JL.go trivial (RX.movev (v := Value.pointer _) rfl) ?_
  refine JL.go trivial (RX.ptrnil_eql rfl rfl pn24) ?_
  refine JL.nil ?_
  refine J.cond_f rfl rfl ?_
  refine J.skip ?_
  refine J.seq ?_
  refine J.seq ?_
  refine J.region ?_
  refine JL.go trivial (RX.movev (v := Value.slice _ _ _) rfl) ?_
  refine JL.go trivial (RX.len_slice rfl (by rw [sl22]; rfl) rfl) ?_
  refine JL.go trivial (RX.move) ?_
  refine JL.nil ?_
  refine J.block ?_
  refine J.loop (ι := Nat × Option Addr × Nat × Seg) (S := fun q => [(24, .int .i64 (q.1 : Nat))]) (Φ := fun q w => q.1 ≤ l.length ∧ OwnSl 5 1 q.2.1 (tot (l.take q.1)).length q.2.2.1 (bv (tot (l.take q.1))) q.2.2.2 ∧ Hp w0 w ([(b, cel [.slice q.2.1 (tot (l.take q.1)).length q.2.2.1] 86)] :: q.2.2.2 :: F)) (μ := fun q => l.length - q.1) (C := [(0, _), (1, _), (5, _), (22, _), (23, _)]) (0, none, 0, []) ⟨rfl, rfl, rfl, rfl, rfl, trivial⟩ ⟨rfl, trivial⟩ ?_ ?_
  · exact ⟨by omega, OwnSl.nil, H⟩
  clear H
  rintro ⟨i, p, c, s⟩ ρ w ⟨hi, ho, H⟩ IH
  simp only at hi ho H
  have htl := tot_take_le l i
  dsimp only
  refine J.seq ?_
  refine J.region ?_
  refine JL.go trivial (RX.lt rfl rfl) ?_
  refine JL.nil ?_
  refine J.seq ?_
  refine J.cond_d rfl (fun hlt => ?_) (fun hlt => ?_)
  · skip
    obtain ⟨x, hxi⟩ : ∃ x, l[i]? = some x := ⟨_, List.getElem?_eq_getElem (by omega)⟩
    have hx := hlk x (List.mem_of_getElem? hxi)
    obtain ⟨pb, po, rfl, _⟩ := hs.some (by rw [vaVs_len]; omega)
    have hcell := x.cell
    refine J.skip ?_
    refine J.seq ?_
    refine J.block ?_
    refine J.seq ?_
    refine J.region ?_
    refine JL.go trivial (RX.indexAddr rfl rfl sl22 (by omega) (by omega) rfl) ?_
    refine JL.go trivial (RX.loadAggS H hs.cons.cons rfl (j := i * 6) (by omega) (vaVs_read hxi) ag30) ?_
    refine JL.does trivial (EX.alloc H zr30 rfl) ?_
    rintro _ w ⟨b7, rfl, H⟩
    refine JL.does trivial (EX.storeAgg H rfl rfl (i := 0) (vs := x.cells) (l' := x.cells) rfl hcell (by simp [Va.cells]) sz30 rfl rfl) ?_
    rintro _ w H
    refine JL.nil ?_
    refine J.seq ?_
    refine J.region ?_
    refine JL.go trivial (RX.movev (v := Value.pointer _) rfl) ?_
    refine JL.go trivial (RX.loadAgg H rfl (i := 0) (vs := x.cells) rfl rfl ag30) ?_
    replace H := (H.pull 2 rfl).pull 2 rfl
    refine JL.does trivial (EX.call rfl cl38 rfl ((put_b ⟨p, c, s, ho, H⟩ hE.cons hx.cons (by omega)))) ?_
    rintro _ w ⟨rfl, p, c, s, ho, H⟩
    refine JL.go trivial (RX.assignv (v := Value.bool _) rfl) ?_
    refine JL.nil ?_
    refine J.seq ?_
    refine J.region ?_
    refine JL.go trivial (RX.movev (v := Value.bool _) rfl) ?_
    refine JL.go trivial (RX.not rfl) ?_
    refine JL.nil ?_
    refine J.cond_f rfl rfl ?_
    refine J.skip ?_
    refine J.inBlock ?_
    refine J.region ?_
    refine JL.go trivial (RX.add rfl rfl (w_i64 rfl (by omega) (by omega))) ?_
    refine JL.go trivial (RX.movev (v := Value.int _ _) rfl) ?_
    refine JL.nil ?_
    rw [← tot_snoc hxi] at ho H
    exact IH (i + 1, p, c, s) _ _ (by simp only; omega) ⟨rfl, rfl, rfl, rfl, rfl, trivial⟩ ⟨rfl, trivial⟩ ⟨by simp only; omega, ho, (H.pull 2 rfl).drop⟩
  · skip
    refine J.exit rfl ?_
    refine J.seq ?_
    have hil : i = l.length := by omega
    subst hil
    rw [List.take_length] at ho H
    refine J.region ?_
    refine JL.does trivial (EX.buildSlice0 H elB) ?_
    rintro _ w ⟨b8, rfl, H⟩
    refine JL.go trivial (RX.movev (v := Value.pointer _) rfl) ?_
    replace H := (H.pull 2 rfl).pull 2 rfl
    refine JL.does trivial (EX.call rfl cl12 rfl ((out_w H ho (by omega)))) ?_
    rintro _ w ⟨q, qc, qs, rfl, hoq, H⟩
    refine JL.does trivial (EX.append (ys := bv (tot l)) (L' := fun s' => qs :: [(b, cel [.slice p (tot l).length c] 86)] :: s :: s' :: F) H elB rfl rfl (i := 3) rfl OwnSl.empty hoq.slAt (by simp [bv_len]) (bv_cell _) (by decide) (by omega) (by omega) (fun _ => rfl)) ?_
    rintro v w ⟨bp, bc, bg, hv, hob, H⟩
    rw [Nat.zero_add] at hv hob
    rw [List.nil_append] at hob
    subst hv
    replace H := H.drop
    refine JL.go trivial (RX.assignv (v := Value.slice _ _ _) rfl) ?_
    refine JL.nil ?_
    refine J.seq ?_
    refine J.region ?_
    refine JL.go trivial (RX.movev (v := Value.slice _ _ _) rfl) ?_
    refine JL.does trivial (EX.call rfl cl15 rfl ((read_r H hob.slAt.cons.cons (by omega)))) ?_
    rintro _ w ⟨rb, rp, rc, rs, rfl, hor, H⟩
    refine JL.go trivial (RX.assignv (v := Value.pointer _) rfl) ?_
    refine JL.nil ?_
    refine J.seq ?_
    refine J.seq ?_
    refine J.region ?_
    refine JL.go trivial (RX.movev (v := Value.pointer _) rfl) ?_
    refine JL.go trivial (RX.ptrnil_eql rfl rfl pn42) ?_
    refine JL.nil ?_
    refine J.cond_f rfl rfl ?_
    refine J.skip ?_
    refine J.seq ?_
    refine J.seq ?_
    refine J.region ?_
    refine JL.go trivial (RX.movev (v := Value.slice _ _ _) rfl) ?_
    refine JL.go trivial (RX.len_slice rfl (by rw [sl22]; rfl) rfl) ?_
    refine JL.go trivial (RX.move) ?_
    refine JL.nil ?_
    refine J.block ?_
    refine J.loop (ι := Nat) (S := fun i => [(44, .int .i64 (i : Nat))]) (Φ := fun i w => i ≤ l.length ∧ Hp w0 w ([(rb, cel [.slice rp (tot l).length rc, .int .i64 ((tot (l.take i)).length : Nat)] 102)] :: rs :: [(b, cel [.slice p (tot l).length c] 86)] :: s :: bg :: F)) (μ := fun i => l.length - i) (C := [(1, _), (5, _), (9, _), (10, _), (42, _), (43, _)]) 0 ⟨rfl, rfl, rfl, rfl, rfl, rfl, trivial⟩ ⟨rfl, trivial⟩ ?_ ?_
    · exact ⟨by omega, H⟩
    clear H
    rintro i ρ w ⟨hi, H⟩ IH
    have htl := tot_take_le l i
    refine J.seq ?_
    refine J.region ?_
    refine JL.go trivial (RX.lt rfl rfl) ?_
    refine JL.nil ?_
    refine J.seq ?_
    refine J.cond_d rfl (fun hlt => ?_) (fun hlt => ?_)
    · skip
      obtain ⟨x, hxi⟩ : ∃ x, l[i]? = some x := ⟨_, List.getElem?_eq_getElem (by omega)⟩
      have hx := hlk x (List.mem_of_getElem? hxi)
      obtain ⟨pb, po, rfl, _⟩ := hs.some (by rw [vaVs_len]; omega)
      have hcell := x.cell
      have hsp := tot_split hxi
      have hvl : (tot (l.take i)).length + (vform x).length ≤ (tot l).length := by
        have := congrArg List.length hsp
        rw [List.length_drop, List.length_append] at this; omega
      refine J.skip ?_
      refine J.seq ?_
      refine J.block ?_
      refine J.seq ?_
      refine J.region ?_
      refine JL.go trivial (RX.indexAddr rfl rfl sl22 (by omega) (by omega) rfl) ?_
      refine JL.go trivial (RX.loadAggS H hs.cons.cons.cons.cons.cons rfl (j := i * 6) (by omega) (vaVs_read hxi) ag30) ?_
      refine JL.does trivial (EX.alloc H zr30 rfl) ?_
      rintro _ w ⟨b12, rfl, H⟩
      refine JL.does trivial (EX.storeAgg H rfl rfl (i := 0) (vs := x.cells) (l' := x.cells) rfl hcell (by simp [Va.cells]) sz30 rfl rfl) ?_
      rintro _ w H
      refine JL.nil ?_
      refine J.seq ?_
      refine J.region ?_
      refine JL.go trivial (RX.movev (v := Value.pointer _) rfl) ?_
      refine JL.does trivial (EX.call rfl cl19 rfl ((at_r (i := 1) H rfl))) ?_
      rintro _ w ⟨rfl, H⟩
      refine JL.go trivial (RX.assignv (v := Value.int _ _) rfl) ?_
      refine JL.nil ?_
      refine J.seq ?_
      refine J.region ?_
      refine JL.go trivial (RX.movev (v := Value.pointer _) rfl) ?_
      refine JL.go trivial (RX.loadAgg H rfl (i := 0) (vs := x.cells) rfl rfl ag30) ?_
      replace H := (H.pull 2 rfl).pull 2 rfl
      refine JL.does trivial (EX.call rfl cl39 rfl ((back_b H hor (by omega) (by omega) hE.cons.cons.cons.cons hx.cons.cons.cons.cons hsp))) ?_
      rintro _ w ⟨rfl, H⟩
      refine JL.go trivial (RX.assignv (v := Value.bool _) rfl) ?_
      refine JL.nil ?_
      refine J.seq ?_
      refine J.seq ?_
      refine J.region ?_
      refine JL.go trivial (RX.movev (v := Value.bool _) rfl) ?_
      refine JL.go trivial (RX.not rfl) ?_
      refine JL.nil ?_
      refine J.cond_f rfl rfl ?_
      refine J.skip ?_
      refine J.seq ?_
      refine J.region ?_
      refine JL.go trivial (RX.movev (v := Value.pointer _) rfl) ?_
      refine JL.does trivial (EX.call rfl cl19 rfl ((at_r (i := 0) H rfl))) ?_
      rintro _ w ⟨rfl, H⟩
      refine JL.go trivial (RX.movev (v := Value.int _ _) rfl) ?_
      refine JL.go trivial (RX.sub rfl rfl (w_i64 (r := ((vform x).length : Int)) (by omega) (by omega) (by omega))) ?_
      refine JL.go trivial (RX.assignv (v := Value.int _ _) rfl) ?_
      refine JL.nil ?_
      refine J.seq ?_
      refine J.region ?_
      refine JL.go trivial (RX.movev (v := Value.int _ _) rfl) ?_
      refine JL.go trivial (RX.gt rfl rfl) ?_
      refine JL.go trivial (RX.movev (v := Value.bool _) rfl) ?_
      refine JL.splitS 61 rfl (fun hn => ?_) (fun hn => ?_)
      · skip
        first | have hnp := of_decide_eq_true hn | skip
        refine JL.go ⟨_, rfl, hn⟩ (RX.fieldAddr rfl fo30_0 rfl) ?_
        refine JL.go ⟨_, rfl, hn⟩ (by first | exact RX.load H rfl (i := 0) rfl rfl one3 | exact RX.load H rfl (i := 1) rfl rfl one3 | exact RX.load H rfl (i := 2) rfl rfl one3 | exact RX.load H rfl (i := 3) rfl rfl one3 | exact RX.load H rfl (i := 4) rfl rfl one3 | exact RX.load H rfl (i := 5) rfl rfl one3 | exact RX.load H rfl (i := 6) rfl rfl one3 | exact RX.load H rfl (i := 7) rfl rfl one3 | exact RX.load H rfl (i := 8) rfl rfl one3) ?_
        refine JL.go ⟨_, rfl, hn⟩ (RX.ne rfl rfl) ?_
        refine JL.go trivial (RX.pick_t rfl hn) ?_
        refine JL.nil ?_
        refine J.cond_d rfl (fun hk8 => ?_) (fun hk8 => ?_)
        · skip
          have hnp2 := of_decide_eq_true hn
          have hj : cu % (vform x).length < (vform x).length := Nat.mod_lt _ (by omega)
          have hcl : cu % (vform x).length ≤ cu := Nat.mod_le _ _
          generalize hjj : cu % (vform x).length = j at hj hcl
          refine J.seq ?_
          refine J.region ?_
          refine JL.does trivial (EX.buildSlice0 H elB) ?_
          rintro _ w ⟨b9, rfl, H⟩
          refine JL.go trivial (RX.movev (v := Value.slice _ _ _) rfl) ?_
          refine JL.go trivial (RX.movev (v := Value.int _ _) rfl) ?_
          refine JL.go trivial (RX.movev (v := Value.int _ _) rfl) ?_
          refine JL.go trivial (RX.movev (v := Value.int _ _) rfl) ?_
          refine JL.go trivial (RX.conv rfl (by rw [ki3]; rfl) ki82 (r := (cu : Int)) hcu) ?_
          refine JL.go trivial (RX.movev (v := Value.int _ _) rfl) ?_
          refine JL.go trivial (RX.conv rfl (by rw [ki3]; rfl) ki82 (w_u64 rfl (by omega) (by omega))) ?_
          refine JL.go trivial (RX.rem rfl rfl (by omega) (r := (j : Int)) (by rw [← hjj]; exact Int.tmod_eq_emod_of_nonneg (by omega))) ?_
          refine JL.go trivial (RX.conv rfl (by rw [ki82]; rfl) ki3 (w_i64 (r := (j : Int)) rfl (by omega) (by omega))) ?_
          refine JL.go trivial (RX.add rfl rfl (w_i64 (r := (((tot (l.take i)).length + j : Nat) : Int)) (by omega) (by omega) (by omega))) ?_
          have hbl2 := hob.le
          refine JL.go trivial (RX.slice_lh rfl rfl rfl sl26 hob.spot (by omega) (by omega) (by omega) (show (((tot (l.take i)).length : Nat) : Int).toNat = (tot (l.take i)).length from rfl) (show ((((tot (l.take i)).length + j : Nat)) : Int).toNat = (tot (l.take i)).length + j from rfl)) ?_
          have hsh : ∀ L, SlAt (bg :: L) (behind bp bc (tot (l.take i)).length 1) (bv ((vform x).take j)) := by
            intro L
            have h := (SlAt.behind (cap := bc) (r := (tot (l.take i)).length) (sz := 1) (hob.slAt (L := L)) (by rw [bv_len]; omega)).take (n := j)
            rw [bv_part, hsp, take_app_lt hj] at h
            exact h
          refine JL.does trivial (EX.append (ys := bv ((vform x).take j)) (m := (tot (l.take i)).length + j - (tot (l.take i)).length) (L' := fun s' => s' :: [(rb, cel [.slice rp (tot l).length rc, .int .i64 ((tot (l.take i)).length + (vform x).length : Nat)] 102)] :: rs :: [(b12, cel x.cells 30)] :: [(b, cel [.slice p (tot l).length c] 86)] :: s :: bg :: F) H elB rfl rfl (i := 0) rfl OwnSl.empty ((hsh _).cons.cons.cons.cons.cons.cons) (by rw [bv_len, List.length_take]; omega) (bv_cell _) (by decide) (by omega) (by omega) (fun _ => rfl)) ?_
          rintro v w ⟨p9, c9, s9, hv, ho9, H⟩
          rw [show 0 + ((tot (l.take i)).length + j - (tot (l.take i)).length) = ((vform x).take j).length by rw [List.length_take]; omega] at hv ho9
          rw [List.nil_append] at ho9
          subst hv
          refine JL.does trivial (EX.call rfl cl15 rfl ((read_r H ho9.slAt (by rw [List.length_take]; omega)))) ?_
          rintro _ w ⟨rb2, rp2, rc2, rs2, rfl, hor2, H⟩
          refine JL.go trivial (RX.assignv (v := Value.pointer _) rfl) ?_
          refine JL.nil ?_
          refine J.seq ?_
          refine J.region ?_
          refine JL.go trivial (RX.movev (v := Value.pointer _) rfl) ?_
          refine JL.go trivial (RX.ptrnil_eql rfl rfl pn42) ?_
          refine JL.go trivial (RX.movev (v := Value.bool _) rfl) ?_
          refine JL.go ⟨_, rfl, rfl⟩ (RX.movev (v := Value.pointer _) rfl) ?_
          refine JL.go ⟨_, rfl, rfl⟩ (RX.loadAgg H rfl (i := 5) (vs := x.cells) rfl rfl ag30) ?_
          refine JL.does ⟨_, rfl, rfl⟩ (EX.call rfl cl40 rfl ((tooShort_b (at_ := 0) H hor2 (by omega) (by rw [List.length_take]; omega) hE.cons.cons.cons.cons.cons.cons.cons hx.cons.cons.cons.cons.cons.cons.cons hj rfl hk8))) ?_
          rintro _ w ⟨rfl, H⟩
          refine JL.go ⟨_, rfl, rfl⟩ (RX.ne rfl rfl) ?_
          refine JL.go trivial (RX.pick_f rfl rfl) ?_
          refine JL.go trivial (RX.movev (v := Value.bool _) rfl) ?_
          refine JL.go ⟨_, rfl, (decide_eq_false (fun h => h rfl))⟩ (RX.movev (v := Value.pointer _) rfl) ?_
          refine JL.does ⟨_, rfl, (decide_eq_false (fun h => h rfl))⟩ (EX.call rfl cl19 rfl ((at_r (i := 0) (a := 0) H rfl))) ?_
          rintro _ w ⟨rfl, H⟩
          refine JL.go ⟨_, rfl, (decide_eq_false (fun h => h rfl))⟩ (RX.ne rfl rfl) ?_
          refine JL.go trivial (RX.pick_f rfl (decide_eq_false (fun h => h rfl))) ?_
          refine JL.nil ?_
          refine J.cond_f rfl (decide_eq_false (fun h => h rfl)) ?_
          refine J.skip ?_
          refine J.inBlock ?_
          refine J.region ?_
          refine JL.go trivial (RX.add rfl rfl (w_i64 rfl (by omega) (by omega))) ?_
          refine JL.go trivial (RX.movev (v := Value.int _ _) rfl) ?_
          refine JL.nil ?_
          have hts : (tot (l.take i)).length + (vform x).length = (tot (l.take (i + 1))).length := by rw [tot_snoc hxi, List.length_append]
          rw [hts] at H
          first
          | exact IH (i + 1) _ _ (by omega) ⟨rfl, rfl, rfl, rfl, rfl, rfl, trivial⟩ ⟨rfl, trivial⟩ ⟨by omega, (H.drop.drop.drop.pull 2 rfl).drop⟩
          | exact IH (i + 1) _ _ (by omega) ⟨rfl, rfl, rfl, rfl, rfl, rfl, trivial⟩ ⟨rfl, trivial⟩ ⟨by omega, (H.pull 2 rfl).drop⟩
        · skip
          refine J.skip ?_
          refine J.inBlock ?_
          refine J.region ?_
          refine JL.go trivial (RX.add rfl rfl (w_i64 rfl (by omega) (by omega))) ?_
          refine JL.go trivial (RX.movev (v := Value.int _ _) rfl) ?_
          refine JL.nil ?_
          have hts : (tot (l.take i)).length + (vform x).length = (tot (l.take (i + 1))).length := by rw [tot_snoc hxi, List.length_append]
          rw [hts] at H
          first
          | exact IH (i + 1) _ _ (by omega) ⟨rfl, rfl, rfl, rfl, rfl, rfl, trivial⟩ ⟨rfl, trivial⟩ ⟨by omega, (H.drop.drop.drop.pull 2 rfl).drop⟩
          | exact IH (i + 1) _ _ (by omega) ⟨rfl, rfl, rfl, rfl, rfl, rfl, trivial⟩ ⟨rfl, trivial⟩ ⟨by omega, (H.pull 2 rfl).drop⟩
      · skip
        first | have hnp := of_decide_eq_false hn | skip
        refine JL.no ⟨_, rfl, gno hn⟩ ?_
        refine JL.no ⟨_, rfl, gno hn⟩ ?_
        refine JL.no ⟨_, rfl, gno hn⟩ ?_
        refine JL.go trivial (RX.pick_f rfl hn) ?_
        refine JL.nil ?_
        refine J.cond_f rfl rfl ?_
        refine J.skip ?_
        refine J.inBlock ?_
        refine J.region ?_
        refine JL.go trivial (RX.add rfl rfl (w_i64 rfl (by omega) (by omega))) ?_
        refine JL.go trivial (RX.movev (v := Value.int _ _) rfl) ?_
        refine JL.nil ?_
        have hts : (tot (l.take i)).length + (vform x).length = (tot (l.take (i + 1))).length := by rw [tot_snoc hxi, List.length_append]
        rw [hts] at H
        first
        | exact IH (i + 1) _ _ (by omega) ⟨rfl, rfl, rfl, rfl, rfl, rfl, trivial⟩ ⟨rfl, trivial⟩ ⟨by omega, (H.drop.drop.drop.pull 2 rfl).drop⟩
        | exact IH (i + 1) _ _ (by omega) ⟨rfl, rfl, rfl, rfl, rfl, rfl, trivial⟩ ⟨rfl, trivial⟩ ⟨by omega, (H.pull 2 rfl).drop⟩
    · skip
      refine J.exit rfl ?_
      refine J.seq ?_
      have hil : i = l.length := by omega
      subst hil
      rw [List.take_length] at H
      refine J.region ?_
      refine JL.go trivial (RX.movev (v := Value.pointer _) rfl) ?_
      refine JL.does trivial (EX.call rfl cl22 rfl ((done_r H hor (Nat.le_refl _) (by omega) hE.cons.cons.cons.five.g4))) ?_
      rintro _ w ⟨rfl, H⟩
      refine JL.go trivial (RX.ifnil_eql (v := (if (tot l).length < (tot l).length then E 4 else .nilIface)) rfl rfl (by rw [if_neg (by omega)]; rfl) if40) ?_
      refine JL.go trivial (RX.movev (v := Value.bool _) rfl) ?_
      refine JL.go ⟨_, rfl, (by rw [if_neg (by omega)]; rfl)⟩ (RX.movev (v := Value.pointer _) rfl) ?_
      refine JL.does ⟨_, rfl, (by rw [if_neg (by omega)]; rfl)⟩ (EX.call rfl cl20 rfl ((left_r H hor (Nat.le_refl _) (by omega)))) ?_
      rintro _ w ⟨rfl, H⟩
      refine JL.go ⟨_, rfl, (by rw [if_neg (by omega)]; rfl)⟩ (RX.eq rfl rfl) ?_
      refine JL.go trivial (RX.pick_t rfl (by rw [if_neg (by omega)]; rfl)) ?_
      refine JL.go trivial (RX.movev (v := Value.bool _) rfl) ?_
      refine JL.go ⟨_, rfl, (decide_eq_true (by omega))⟩ (RX.movev (v := Value.pointer _) rfl) ?_
      refine JL.does ⟨_, rfl, (decide_eq_true (by omega))⟩ (EX.call rfl cl11 rfl ((len_w (i := 2) H rfl))) ?_
      rintro _ w ⟨rfl, H⟩
      refine JL.go ⟨_, rfl, (decide_eq_true (by omega))⟩ (RX.movev (v := Value.slice _ _ _) rfl) ?_
      refine JL.go ⟨_, rfl, (decide_eq_true (by omega))⟩ (RX.len_slice rfl (by rw [sl26]; rfl) rfl) ?_
      refine JL.go ⟨_, rfl, (decide_eq_true (by omega))⟩ (RX.eq rfl rfl) ?_
      refine JL.go trivial (RX.pick_t rfl (decide_eq_true (by omega))) ?_
      refine JL.go trivial (RX.assignv (v := Value.bool _) rfl) ?_
      refine JL.nil ?_
      refine J.ret1 (v := Value.bool _) Tryd.func7 rfl rfl ?_
      exact ⟨_, rfl, congrArg Value.bool (decide_eq_true rfl), H.drop.drop.drop.drop.drop⟩
end Go.Proofs.YtippfdnjhcpekaaDoor

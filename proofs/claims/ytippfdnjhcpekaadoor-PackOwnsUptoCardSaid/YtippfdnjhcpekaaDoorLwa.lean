/- PackOwns. -/
import Derived.Test.YtippfdnjhcpekaaDoorLz
namespace Go.Proofs.YtippfdnjhcpekaaDoor
open Go Go.Eng
set_option maxRecDepth 100000
set_option linter.unusedVariables false
set_option linter.unusedSimpArgs false

theorem cVs_app (a b : List (Nat × Nat)) : cVs (a ++ b) = cVs a ++ cVs b := by simp [cVs]
theorem cVs_set {l : List (Nat × Nat)} {i : Nat} {q : Nat × Nat} : (cVs l).set i (cV q) = cVs (l.set i q) := by simp [cVs, List.map_set]
theorem cVs_last {l : List (Nat × Nat)} {q : Nat × Nat} {n : Nat} (h : l.length = n) : (cVs (l ++ [q]))[n]? = some (cV q) := by
  subst h; simp [cVs]
theorem bv_last {l : List UInt8} {b : UInt8} {n : Nat} (h : l.length = n) : (bv (l ++ [b]))[n]? = some (.int .u8 b.toNat) := by
  subst h; simp [bv]
theorem clB_bound {l : List (Nat × Nat)} (h : l.length ≤ 1048576) : (clB l).length ≤ 33554432 := by
  have := varint_len10 (x := l.length) (by omega)
  rw [clB, List.length_append, flat_len8 _ 16 cB_len]; omega
theorem rCos_all {xs : List (Nat × Nat)} (hn : xs.length ≤ 1048576) (h : ∀ q ∈ xs, u64ok q.1 ∧ u64ok q.2) : rList rCo ((clB xs).drop 0) = .ok (xs.map canC) (clB xs).length := by
  have := rCos_w hn h []
  rwa [List.append_nil] at this
set_option maxHeartbeats 1600000 in
theorem PackOwns_b {w0 w : World} {F : List Seg} {E : Nat → Value} {Q : Nat → Addr} (H : Hp w0 w F) (hE : Errs F E Q) {l : List Va} {sp : Option Addr} {sc : Nat} (hs : SlAt F sp (vaVs l)) (hlk : ∀ x ∈ l, x.Ok F) (hb : (l.map bulkV).sum ≤ 1048576) (hln : l.length ≤ 1048576) : Ret Tryd.prog 4 [.slice sp l.length sc] w fun v w' => v = .bool true ∧ Hp w0 w' F := by
  refine Calls.of_J (n := 170) Tryd.func4 rfl rfl rfl ?_
  refine J.seq ?_
  refine J.region ?_
  refine JL.go trivial (RX.assign) ?_
  refine JL.nil ?_
  refine J.seq ?_
  refine J.seq ?_
  refine J.region ?_
  refine JL.does trivial (EX.call rfl cl8 rfl ((lives_b H hE))) ?_
  rintro _ w ⟨rfl, H⟩
  refine JL.go trivial (RX.not rfl) ?_
  refine JL.nil ?_
  refine J.cond_f rfl rfl ?_
  refine J.skip ?_
  refine J.seq ?_
  refine J.region ?_
  refine JL.does trivial (EX.call rfl cl9 rfl ((new_w H))) ?_
  rintro _ w ⟨b, rfl, H⟩
  refine JL.go trivial (RX.assignv (v := Value.pointer _) rfl) ?_
  refine JL.nil ?_
  refine J.seq ?_
  refine J.seq ?_
  refine J.region ?_
  refine JL.go trivial (RX.movev (v := Value.pointer _) rfl) ?_
  refine JL.go trivial (RX.ptrnil_eql rfl rfl pn24) ?_
  refine JL.nil ?_
  refine J.cond_f rfl rfl ?_
  refine J.skip ?_
  refine J.seq ?_
  refine J.region ?_
  refine JL.does trivial (EX.buildSlice0 H elB) ?_
  rintro _ w ⟨b0, rfl, H⟩
  replace H := ((H.pull 1 rfl).nil).pull 1 rfl
  refine JL.go trivial (RX.assignv (v := Value.slice _ _ _) rfl) ?_
  refine JL.nil ?_
  refine J.seq ?_
  refine J.seq ?_
  refine J.region ?_
  refine JL.go trivial (RX.movev (v := Value.slice _ _ _) rfl) ?_
  refine JL.go trivial (RX.len_slice rfl (by rw [sl22]; rfl) rfl) ?_
  refine JL.go trivial (RX.move) ?_
  refine JL.nil ?_
  refine J.block ?_
  refine J.loop (ι := Nat × Option Addr × Nat × Seg × Option Addr × Nat × Seg) (S := fun q => [(31, .int .i64 (q.1 : Nat)), (4, .slice q.2.2.2.2.1 (tot (l.take q.1)).length q.2.2.2.2.2.1)]) (Φ := fun q w => q.1 ≤ l.length ∧ OwnSl 5 1 q.2.1 (tot (l.take q.1)).length q.2.2.1 (bv (tot (l.take q.1))) q.2.2.2.1 ∧ OwnSl 5 1 q.2.2.2.2.1 (tot (l.take q.1)).length q.2.2.2.2.2.1 (bv (tot (l.take q.1))) q.2.2.2.2.2.2 ∧ Hp w0 w ([(b, cel [.slice q.2.1 (tot (l.take q.1)).length q.2.2.1] 86)] :: q.2.2.2.1 :: q.2.2.2.2.2.2 :: F)) (μ := fun q => l.length - q.1) (C := [(3, _), (29, _), (30, _)]) (0, none, 0, [], some ⟨b0, 0, none⟩, 0, [(b0, cel [] 5)]) ⟨rfl, rfl, rfl, trivial⟩ ⟨rfl, rfl, trivial⟩ ?_ ?_
  · exact ⟨by omega, OwnSl.nil, OwnSl.empty, H⟩
  clear H
  rintro ⟨i, p, cp, s, q, qc, qs⟩ ρ w ⟨hi, ho, hoq, H⟩ IH
  simp only at hi ho hoq H
  have htl := tot_len (l.take i) (fun y hy => hlk y (List.mem_of_mem_take hy))
  have hst := sum_take_le l i
  dsimp only
  refine J.seq ?_
  refine J.region ?_
  refine JL.go trivial (RX.lt rfl rfl) ?_
  refine JL.nil ?_
  refine J.seq ?_
  refine J.cond_d rfl (fun hlt => ?_) (fun hlt => ?_)
  · skip
    obtain ⟨x, hxi⟩ : ∃ x, l[i]? = some x := ⟨_, List.getElem?_eq_getElem (by omega)⟩
    have hx := hlk x (List.mem_of_getElem? hxi)
    obtain ⟨pb, po, rfl, _⟩ := hs.some (by rw [vaVs_len]; omega)
    have hcell := x.cell
    refine J.skip ?_
    refine J.seq ?_
    refine J.block ?_
    refine J.seq ?_
    refine J.region ?_
    refine JL.go trivial (RX.indexAddr rfl rfl sl22 (by omega) (by omega) rfl) ?_
    refine JL.go trivial (RX.loadAggS H hs.cons.cons.cons rfl (j := i * 6) (by omega) (vaVs_read hxi) ag30) ?_
    refine JL.does trivial (EX.alloc H zr30 rfl) ?_
    rintro _ w ⟨b6, rfl, H⟩
    refine JL.does trivial (EX.storeAgg H rfl rfl (i := 0) (vs := x.cells) (l' := x.cells) rfl hcell (by simp [Va.cells]) sz30 rfl rfl) ?_
    rintro _ w H
    refine JL.nil ?_
    refine J.seq ?_
    refine J.region ?_
    refine JL.go trivial (RX.movev (v := Value.pointer _) rfl) ?_
    refine JL.go trivial (RX.loadAgg H rfl (i := 0) (vs := x.cells) rfl rfl ag30) ?_
    replace H := (H.pull 2 rfl).pull 2 rfl
    refine JL.does trivial (EX.call rfl cl10 rfl ((write_b ⟨p, cp, s, ho, H⟩ hE.cons.cons hx.cons.cons (by omega)))) ?_
    rintro _ w ⟨p, cp, s, q2, qc2, qs2, rfl, ho2, ho, H⟩
    have hXe : (tot (l.take i)) ++ vform x = (tot (l.take (i + 1))) := (tot_snoc hxi).symm
    have hXn : (tot (l.take i)).length + (vform x).length = (tot (l.take (i + 1))).length := by rw [← hXe, List.length_append]
    have hvl := vform_len hx
    have hks := hx.ks
    have hkl := hx.kl
    rw [hXe] at ho H
    refine JL.go trivial (RX.movev (v := Value.tuple _) rfl) ?_
    refine JL.go trivial (RX.extract rfl rfl) ?_
    refine JL.go trivial (RX.extract rfl rfl) ?_
    refine JL.go trivial (RX.assignv (v := Value.slice _ _ _) rfl) ?_
    refine JL.go trivial (RX.assignv (v := Value.bool _) rfl) ?_
    refine JL.nil ?_
    refine J.seq ?_
    refine J.seq ?_
    refine J.region ?_
    refine JL.go trivial (RX.movev (v := Value.bool _) rfl) ?_
    refine JL.go trivial (RX.not rfl) ?_
    refine JL.nil ?_
    refine J.cond_f rfl rfl ?_
    refine J.skip ?_
    refine J.seq ?_
    refine J.region ?_
    refine JL.go trivial (RX.movev (v := Value.slice _ _ _) rfl) ?_
    refine JL.go trivial (RX.movev (v := Value.slice _ _ _) rfl) ?_
    refine JL.does trivial (EX.append (L' := fun s' => [(b, cel [.slice p (tot (l.take (i + 1))).length cp] 86)] :: s :: qs2 :: [(b6, cel x.cells 30)] :: s' :: F) H elB rfl rfl (i := 4) rfl hoq (ho2.slAt.cons.cons) (by simp [bv_len]) (bv_cell _) (by decide) (by omega) (by omega) (fun _ => rfl)) ?_
    rintro _ w ⟨q3, qc3, qs3, rfl, ho3, H⟩
    rw [← bv_app, hXe, hXn] at ho3
    rw [hXn]
    replace H := ((H.pull 2 rfl).drop)
    refine JL.go trivial (RX.assignv (v := Value.slice _ _ _) rfl) ?_
    refine JL.nil ?_
    refine J.seq ?_
    refine J.region ?_
    refine JL.go trivial (RX.movev (v := Value.pointer _) rfl) ?_
    refine JL.does trivial (EX.call rfl cl12 rfl ((out_w H ho (by omega)))) ?_
    rintro _ w ⟨p1, c1, s1, rfl, ho1, H⟩
    replace H := (H.pull 2 rfl).pull 2 rfl
    refine JL.go trivial (RX.movev (v := Value.pointer _) rfl) ?_
    refine JL.does trivial (EX.call rfl cl12 rfl ((out_w H ho (by omega)))) ?_
    rintro _ w ⟨p2, c2, s2, rfl, hot, H⟩
    refine JL.go trivial (RX.assignv (v := Value.slice _ _ _) rfl) ?_
    refine JL.go trivial (RX.assignv (v := Value.slice _ _ _) rfl) ?_
    refine JL.nil ?_
    refine J.seq ?_
    refine J.seq ?_
    refine J.region ?_
    refine JL.go trivial (RX.movev (v := Value.slice _ _ _) rfl) ?_
    refine JL.go trivial (RX.len_slice rfl (by rw [sl26]; rfl) rfl) ?_
    refine JL.go trivial (RX.move) ?_
    refine JL.nil ?_
    refine J.block ?_
    refine J.loop (ι := Nat × List UInt8 × Seg) (S := fun q => [(52, .int .i64 (q.1 : Nat))]) (Φ := fun q w => q.1 ≤ (tot (l.take (i + 1))).length ∧ q.2.1.length = (tot (l.take (i + 1))).length ∧ OwnSl 5 1 p1 (tot (l.take (i + 1))).length c1 (bv q.2.1) q.2.2 ∧ Hp w0 w (s2 :: [(b, cel [.slice p (tot (l.take (i + 1))).length cp] 86)] :: s :: q.2.2 :: [(b6, cel x.cells 30)] :: qs3 :: F)) (μ := fun q => (tot (l.take (i + 1))).length - q.1) (C := [(3, _), (4, _), (6, _), (9, _), (10, _), (29, _), (30, _), (31, _), (51, _)]) (0, (tot (l.take (i + 1))), s1) ⟨rfl, rfl, rfl, rfl, rfl, rfl, rfl, rfl, rfl, trivial⟩ ⟨rfl, trivial⟩ ?_ ?_
    · exact ⟨by omega, rfl, ho1, H⟩
    clear H ho1
    rintro ⟨k, ys, s1⟩ ρ w ⟨hk, hyl, ho1, H⟩ IH2
    simp only at hk hyl ho1 H
    dsimp only
    refine J.seq ?_
    refine J.region ?_
    refine JL.go trivial (RX.lt rfl rfl) ?_
    refine JL.nil ?_
    refine J.seq ?_
    refine J.cond_d rfl (fun hlt2 => ?_) (fun hlt2 => ?_)
    · skip
      obtain ⟨gb, l1, rfl, rfl, hll⟩ := ho1.ptr (by omega)
      obtain ⟨bb, hbb⟩ : ∃ bb, ys[k]? = some bb := ⟨_, List.getElem?_eq_getElem (by omega)⟩
      have hllen : k < l1.length := by have := hll.2.1; have := hll.1; omega
      refine J.skip ?_
      refine J.seq ?_
      refine J.block ?_
      refine J.seq ?_
      refine J.region ?_
      refine JL.go trivial (RX.movev (v := Value.int _ _) rfl) ?_
      refine JL.go trivial (RX.assignv (v := Value.int _ _) rfl) ?_
      refine JL.nil ?_
      refine J.region ?_
      refine JL.go trivial (RX.movev (v := Value.slice _ _ _) rfl) ?_
      refine JL.go trivial (RX.movev (v := Value.int _ _) rfl) ?_
      refine JL.go trivial (RX.indexAddr rfl rfl sl26 (by omega) (by omega) rfl) ?_
      refine JL.go trivial (RX.loadS H (SlAt.here hll.2.2).cons.cons.cons rfl (j := k) (by omega) (bv_get hbb) one5) ?_
      refine JL.go trivial (RX.xor rfl rfl (xor8 bb 255)) ?_
      refine JL.go trivial (RX.indexAddr rfl rfl sl26 (by omega) (by omega) rfl) ?_
      refine JL.does trivial (EX.store (v := Value.int _ _) H rfl rfl (i := 3) rfl rfl (by omega) sz5 rfl rfl) ?_
      rintro _ w H
      refine JL.nil ?_
      refine J.inBlock ?_
      refine J.region ?_
      refine JL.go trivial (RX.add rfl rfl (w_i64 rfl (by omega) (by omega))) ?_
      refine JL.go trivial (RX.movev (v := Value.int _ _) rfl) ?_
      refine JL.nil ?_
      exact IH2 (k + 1, ys.set k (bb ^^^ 255), _) _ _ (by simp only; omega) ⟨rfl, rfl, rfl, rfl, rfl, rfl, rfl, rfl, rfl, trivial⟩ ⟨rfl, trivial⟩ ⟨by simp only; omega, by simp [hyl], by rw [← bv_set]; exact ho1.set, by simpa using H⟩
    · skip
      refine J.exit rfl ?_
      refine J.seq ?_
      refine J.region ?_
      refine JL.go trivial (RX.movev (v := Value.slice _ _ _) rfl) ?_
      refine JL.does trivial (EX.buildSlice1 H elB rfl rfl) ?_
      rintro _ w ⟨b9, rfl, H⟩
      refine JL.does trivial (EX.append (ys := bv [9]) (L' := fun s' => [(b9, cel (bv [9]) 5)] :: s2 :: [(b, cel [.slice p (tot (l.take (i + 1))).length cp] 86)] :: s :: s' :: [(b6, cel x.cells 30)] :: qs3 :: F) H elB rfl rfl (i := 4) rfl ho1 (SlAt.here rfl) rfl (bv_cell _) (by decide) (by omega) (by omega) (fun _ => rfl)) ?_
      rintro _ w ⟨p9, c9, s9, rfl, ho9, H⟩
      rw [← bv_app] at ho9
      replace H := H.drop
      obtain ⟨pb9, po9, rfl, _⟩ := (ho9.slAt (L := [])).some (by rw [bv_len, List.length_append, List.length_singleton]; omega)
      refine JL.go trivial (RX.assignv (v := Value.slice _ _ _) rfl) ?_
      refine JL.nil ?_
      refine J.seq ?_
      refine J.seq ?_
      refine J.any hmix fun w hs => ?_
      replace H := H.same hs; clear hs
      refine JA.take 0 (listed' := [true, false, false, false, false, false, false, false, false, false, false, false, false, false, false, false, false, false, false, false, false, false]) rfl (by kernel_rfl) (by kernel_rfl) (by kernel_rfl) rfl trivial (fun w => RX.movev (v := Value.slice _ _ _) rfl) ?_
      refine JA.take 2 (listed' := [true, false, true, false, false, false, false, false, false, false, false, false, false, false, false, false, false, false, false, false, false, false]) rfl (by kernel_rfl) (by kernel_rfl) (by kernel_rfl) rfl trivial (fun w => RX.movev (v := Value.slice _ _ _) rfl) ?_
      refine JA.all [1, 3] (by kernel_rfl) (by decide) ?_
      refine ⟨?_, ?_⟩
      · skip
        refine JO.go (listed' := [true, true, true, false, false, false, false, false, false, false, false, false, false, false, false, false, false, false, false, false, false, false]) rfl rfl trivial (RX.b2s (l := (tot (l.take (i + 1)))) H rfl (by first | exact hot.slAt | exact hot.slAt.cons.cons.cons) sl26 ud5 ud9) ?_
        refine JA.all [3] (by kernel_rfl) (by decide) ?_
        refine JO.go (listed' := [true, true, true, true, false, false, false, false, false, false, false, false, false, false, false, false, false, false, false, false, false, false]) rfl rfl trivial (RX.b2s (l := (tot (l.take (i + 1)))) H rfl (by first | exact ho3.slAt.cons.cons.cons.cons.cons | exact ho3.slAt.cons.cons.cons.cons.cons.cons) sl26 ud5 ud9) ?_
        refine JA.take 4 (listed' := [true, true, true, true, true, false, false, false, false, false, false, false, false, false, false, false, false, false, false, false, false, false]) rfl (by kernel_rfl) (by kernel_rfl) (by kernel_rfl) rfl trivial (fun w => RX.str_neq rfl rfl) ?_
        refine JA.take 5 (listed' := [true, true, true, true, true, true, false, false, false, false, false, false, false, false, false, false, false, false, false, false, false, false]) rfl (by kernel_rfl) (by kernel_rfl) (by kernel_rfl) rfl trivial (fun w => RX.movev (v := Value.bool _) rfl) ?_
        refine JA.take 6 (listed' := [true, true, true, true, true, true, true, false, false, false, false, false, false, false, false, false, false, false, false, false, false, false]) rfl (by kernel_rfl) (by kernel_rfl) (by kernel_rfl) rfl ⟨_, rfl, (decide_eq_false (fun h => h rfl))⟩ (fun w => RX.movev (v := Value.pointer _) rfl) ?_
        refine JA.take 9 (listed' := [true, true, true, true, true, true, true, false, false, true, false, false, false, false, false, false, false, false, false, false, false, false]) rfl (by kernel_rfl) (by kernel_rfl) (by kernel_rfl) rfl ⟨_, rfl, (decide_eq_false (fun h => h rfl))⟩ (fun w => RX.movev (v := Value.slice _ _ _) rfl) ?_
        refine JA.all [7, 10] (by kernel_rfl) (by decide) ?_
        refine ⟨?_, ?_⟩
        · skip
          replace H := (H.pull 2 rfl).pull 2 rfl
          refine JO.does (listed' := [true, true, true, true, true, true, true, true, false, true, false, false, false, false, false, false, false, false, false, false, false, false]) rfl rfl ⟨_, rfl, (decide_eq_false (fun h => h rfl))⟩ (EX.call rfl cl12 rfl ((out_w H ho (by omega)))) ?_
          rintro _ w ⟨p5, c5, s5, rfl, hof, H⟩
          refine JA.all [8, 10] (by kernel_rfl) (by decide) ?_
          refine ⟨?_, ?_⟩
          · skip
            refine JO.go (listed' := [true, true, true, true, true, true, true, true, true, true, false, false, false, false, false, false, false, false, false, false, false, false]) rfl rfl ⟨_, rfl, (decide_eq_false (fun h => h rfl))⟩ (RX.b2s (l := (tot (l.take (i + 1)))) H rfl hof.slAt sl26 ud5 ud9) ?_
            refine JA.all [10] (by kernel_rfl) (by decide) ?_
            refine JO.go (listed' := [true, true, true, true, true, true, true, true, true, true, true, false, false, false, false, false, false, false, false, false, false, false]) rfl rfl ⟨_, rfl, (decide_eq_false (fun h => h rfl))⟩ (RX.b2s (l := (tot (l.take (i + 1)))) H rfl (by first | exact ho3.slAt.cons.cons.cons.cons.cons | exact ho3.slAt.cons.cons.cons.cons.cons.cons) sl26 ud5 ud9) ?_
            refine JA.take 11 (listed' := [true, true, true, true, true, true, true, true, true, true, true, true, false, false, false, false, false, false, false, false, false, false]) rfl (by kernel_rfl) (by kernel_rfl) (by kernel_rfl) rfl ⟨_, rfl, (decide_eq_false (fun h => h rfl))⟩ (fun w => RX.str_neq rfl rfl) ?_
            refine JA.take 12 (listed' := [true, true, true, true, true, true, true, true, true, true, true, true, true, false, false, false, false, false, false, false, false, false]) rfl (by kernel_rfl) (by kernel_rfl) (by kernel_rfl) rfl trivial (fun w => RX.pick_f rfl (decide_eq_false (fun h => h rfl))) ?_
            refine JA.take 13 (listed' := [true, true, true, true, true, true, true, true, true, true, true, true, true, true, false, false, false, false, false, false, false, false]) rfl (by kernel_rfl) (by kernel_rfl) (by kernel_rfl) rfl trivial (fun w => RX.movev (v := Value.bool _) rfl) ?_
            refine JA.take 14 (listed' := [true, true, true, true, true, true, true, true, true, true, true, true, true, true, true, false, false, false, false, false, false, false]) rfl (by kernel_rfl) (by kernel_rfl) (by kernel_rfl) rfl ⟨_, rfl, (decide_eq_false (fun h => h rfl))⟩ (fun w => RX.movev (v := Value.slice _ _ _) rfl) ?_
            refine JA.take 15 (listed' := [true, true, true, true, true, true, true, true, true, true, true, true, true, true, true, true, false, false, false, false, false, false]) rfl (by kernel_rfl) (by kernel_rfl) (by kernel_rfl) rfl ⟨_, rfl, (decide_eq_false (fun h => h rfl))⟩ (fun w => RX.movev (v := Value.slice _ _ _) rfl) ?_
            refine JA.take 16 (listed' := [true, true, true, true, true, true, true, true, true, true, true, true, true, true, true, true, true, false, false, false, false, false]) rfl (by kernel_rfl) (by kernel_rfl) (by kernel_rfl) rfl ⟨_, rfl, (decide_eq_false (fun h => h rfl))⟩ (fun w => RX.len_slice rfl (by rw [sl26]; rfl) rfl) ?_
            refine JA.take 17 (listed' := [true, true, true, true, true, true, true, true, true, true, true, true, true, true, true, true, true, true, false, false, false, false]) rfl (by kernel_rfl) (by kernel_rfl) (by kernel_rfl) rfl ⟨_, rfl, (decide_eq_false (fun h => h rfl))⟩ (fun w => RX.sub rfl rfl (w_i64 (r := ((tot (l.take (i + 1))).length : Int)) (by omega) (by omega) (by omega))) ?_
            refine JA.take 18 (listed' := [true, true, true, true, true, true, true, true, true, true, true, true, true, true, true, true, true, true, true, false, false, false]) rfl (by kernel_rfl) (by kernel_rfl) (by kernel_rfl) rfl ⟨_, rfl, (decide_eq_false (fun h => h rfl))⟩ (fun w => RX.indexAddr rfl rfl sl26 (by omega) (by omega) rfl) ?_
            refine JA.all [19] (by kernel_rfl) (by decide) ?_
            refine JO.go (listed' := [true, true, true, true, true, true, true, true, true, true, true, true, true, true, true, true, true, true, true, true, false, false]) rfl rfl ⟨_, rfl, (decide_eq_false (fun h => h rfl))⟩ (RX.loadS H (by first | exact ho9.slAt.cons.cons.cons.cons | exact ho9.slAt.cons.cons.cons) rfl (j := (tot (l.take (i + 1))).length) (by omega) (bv_last hyl) one5) ?_
            refine JA.take 20 (listed' := [true, true, true, true, true, true, true, true, true, true, true, true, true, true, true, true, true, true, true, true, true, false]) rfl (by kernel_rfl) (by kernel_rfl) (by kernel_rfl) rfl ⟨_, rfl, (decide_eq_false (fun h => h rfl))⟩ (fun w => RX.ne rfl rfl) ?_
            refine JA.take 21 (listed' := [true, true, true, true, true, true, true, true, true, true, true, true, true, true, true, true, true, true, true, true, true, true]) rfl (by kernel_rfl) (by kernel_rfl) (by kernel_rfl) rfl trivial (fun w => RX.pick_f rfl (decide_eq_false (fun h => h rfl))) ?_
            refine JA.done (by kernel_rfl) ?_
            refine J.cond_f rfl (by first | rfl | exact decide_eq_false (fun h => h rfl)) ?_
            refine J.skip ?_
            refine J.seq ?_
            replace H := ((H.drop.pull 2 rfl).drop.pull 2 rfl).drop
            refine J.region ?_
            refine JL.go trivial (RX.loadAgg H rfl (i := 2) (vs := x.cells) rfl rfl ag30) ?_
            refine JL.does trivial (EX.call rfl cl13 rfl ((listOf_b H hx.cons.cons.cons.cons))) ?_
            rintro _ w ⟨lp, lc, ls, rfl, hol, H⟩
            have hpl := pairs_len x.list
            have hsm : (pairs x.list).length ≤ 1048576 := pairs_small hx
            have hpk : ∀ q ∈ (pairs x.list), u64ok q.1 ∧ u64ok q.2 := pairs_ok hx
            refine JL.go trivial (RX.assignv (v := Value.slice _ _ _) rfl) ?_
            refine JL.nil ?_
            refine J.seq ?_
            refine J.region ?_
            refine JL.does trivial (EX.call rfl cl9 rfl ((new_w H))) ?_
            rintro _ w ⟨bx, rfl, H⟩
            replace H := (H.nil).pull 1 rfl
            refine JL.go trivial (RX.assignv (v := Value.pointer _) rfl) ?_
            refine JL.nil ?_
            refine J.seq ?_
            refine J.seq ?_
            refine J.region ?_
            refine JL.go trivial (RX.movev (v := Value.pointer _) rfl) ?_
            refine JL.go trivial (RX.ptrnil_eql rfl rfl pn24) ?_
            refine JL.nil ?_
            refine J.cond_f rfl rfl ?_
            refine J.skip ?_
            refine J.seq ?_
            refine J.region ?_
            refine JL.does trivial (EX.buildSlice0 H elC) ?_
            rintro _ w ⟨b10, rfl, H⟩
            refine JL.go trivial (RX.movev (v := Value.slice _ _ _) rfl) ?_
            refine JL.does trivial (EX.append (ys := cVs (pairs x.list)) (L' := fun s' => s' :: [(bx, cel [.slice none 0 0] 86)] :: [] :: ls :: [(b, cel [.slice p (tot (l.take (i + 1))).length cp] 86)] :: s :: [(b6, cel x.cells 30)] :: qs3 :: F) H elC rfl rfl (i := 0) rfl OwnSl.empty hol.slAt.cons.cons.cons (by simp [cVs_len]) (cVs_cell _) (by decide) (by omega) (by omega) (fun _ => rfl)) ?_
            rintro v w ⟨p11, c11, s11, hv, ho11, H⟩
            rw [Nat.zero_add] at hv ho11
            rw [List.nil_append] at ho11
            subst hv
            refine JL.does trivial (EX.buildSlice1 H elC rfl rfl) ?_
            rintro _ w ⟨b12, rfl, H⟩
            refine JL.does trivial (EX.append (ys := cVs [(4619567317775286272, 0)]) (L' := fun s' => [(b12, cel (cVs [(4619567317775286272, 0)]) 38)] :: s' :: [(bx, cel [.slice none 0 0] 86)] :: [] :: ls :: [(b, cel [.slice p (tot (l.take (i + 1))).length cp] 86)] :: s :: [(b6, cel x.cells 30)] :: qs3 :: F) H elC rfl rfl (i := 1) rfl ho11 (SlAt.here rfl) rfl (cVs_cell _) (by decide) (by omega) (by omega) (fun _ => rfl)) ?_
            rintro _ w ⟨rmp, rmc, rms, rfl, hrm, H⟩
            rw [← cVs_app] at hrm
            replace H := H.drop
            have hrl := hrm.le
            obtain ⟨pbr, por, rfl, _⟩ := (hrm.slAt (L := [])).some (by rw [cVs_len, List.length_append, List.length_singleton]; omega)
            have hmr : ∀ L, SlAt (rms :: L) (some ⟨pbr, por, none⟩) (cVs (pairs x.list)) := fun L => (show SlAt (rms :: L) _ (cVs (pairs x.list) ++ cVs [(4619567317775286272, 0)]) by rw [← cVs_app]; exact hrm.slAt).pre
            refine JL.go trivial (RX.assignv (v := Value.slice _ _ _) rfl) ?_
            refine JL.nil ?_
            refine J.seq ?_
            refine J.region ?_
            refine JL.go trivial (RX.movev (v := Value.pointer _) rfl) ?_
            refine JL.go trivial (RX.movev (v := Value.slice _ _ _) rfl) ?_
            refine JL.go trivial (RX.movev (v := Value.slice _ _ _) rfl) ?_
            refine JL.go trivial (RX.len_slice rfl (by rw [sl36]; rfl) rfl) ?_
            refine JL.go trivial (RX.slice_h rfl rfl sl36 hrm.spot (by omega) (by omega) rfl) ?_
            replace H := (H.pull 2 rfl).pull 2 rfl
            refine JL.does trivial (EX.call rfl cl14 rfl ((List_c (xs := []) ⟨none, 0, [], OwnSl.nil, H⟩ (hE.cons.cons.cons.cons.cons.cons.at_ 3 (by decide) (by decide)) (hmr _) hpk (by omega) (by simp only [List.length_nil]; omega)))) ?_
            rintro _ w h
            simp only [if_pos hsm] at h
            obtain ⟨rfl, px, cx, sx, hox, H⟩ := h
            rw [List.nil_append] at hox H
            rw [show varint (pairs x.list).length ++ ((pairs x.list).map cB).flatten = clB (pairs x.list) from rfl] at hox H
            have hcl : (clB (pairs x.list)).length ≤ 33554432 := clB_bound hsm
            refine JL.go trivial (RX.assign) ?_
            refine JL.nil ?_
            refine J.seq ?_
            refine J.seq ?_
            refine J.region ?_
            refine JL.go trivial (RX.move) ?_
            refine JL.go trivial (RX.ifnil_neq rfl rfl rfl if40) ?_
            refine JL.nil ?_
            refine J.cond_f rfl rfl ?_
            refine J.skip ?_
            refine J.seq ?_
            refine J.region ?_
            refine JL.go trivial (RX.movev (v := Value.pointer _) rfl) ?_
            refine JL.does trivial (EX.call rfl cl12 rfl ((out_w H hox (by omega)))) ?_
            rintro _ w ⟨p13, c13, s13, rfl, ho13, H⟩
            refine JL.does trivial (EX.call rfl cl15 rfl ((read_r H ho13.slAt (by omega)))) ?_
            rintro _ w ⟨rb1, rp1, rc1, rs1, rfl, hor1, H⟩
            replace H := (((H.pull 2 rfl).drop).pull 3 rfl).pull 3 rfl
            refine JL.go trivial (RX.movev (v := Value.pointer _) rfl) ?_
            refine JL.does trivial (EX.call rfl cl12 rfl ((out_w H hox (by omega)))) ?_
            rintro _ w ⟨p14, c14, s14, rfl, ho14, H⟩
            refine JL.does trivial (EX.call rfl cl15 rfl ((read_r H ho14.slAt (by omega)))) ?_
            rintro _ w ⟨rb2, rp2, rc2, rs2, rfl, hor2, H⟩
            replace H := ((((H.pull 2 rfl).drop).pull 2 rfl).drop.pull 2 rfl).drop
            refine JL.go trivial (RX.assignv (v := Value.pointer _) rfl) ?_
            refine JL.go trivial (RX.assignv (v := Value.pointer _) rfl) ?_
            refine JL.nil ?_
            refine J.seq ?_
            refine J.seq ?_
            refine J.region ?_
            refine JL.go trivial (RX.movev (v := Value.pointer _) rfl) ?_
            refine JL.go trivial (RX.ptrnil_eql rfl rfl pn42) ?_
            refine JL.go trivial (RX.movev (v := Value.bool _) rfl) ?_
            refine JL.go ⟨_, rfl, rfl⟩ (RX.movev (v := Value.pointer _) rfl) ?_
            refine JL.go ⟨_, rfl, rfl⟩ (RX.ptrnil_eql rfl rfl pn42) ?_
            refine JL.go trivial (RX.pick_f rfl rfl) ?_
            refine JL.go trivial (RX.movev (v := Value.bool _) rfl) ?_
            refine JL.go ⟨_, rfl, rfl⟩ (RX.movev (v := Value.slice _ _ _) rfl) ?_
            refine JL.go ⟨_, rfl, rfl⟩ (RX.movev (v := Value.slice _ _ _) rfl) ?_
            refine JL.go ⟨_, rfl, rfl⟩ (RX.len_slice rfl (by rw [sl36]; rfl) rfl) ?_
            refine JL.go ⟨_, rfl, rfl⟩ (RX.slice_h rfl rfl sl36 hrm.spot (by omega) (by omega) rfl) ?_
            refine JL.go ⟨_, rfl, rfl⟩ (RX.movev (v := Value.slice _ _ _) rfl) ?_
            refine JL.does ⟨_, rfl, rfl⟩ (EX.call rfl cl16 rfl ((sameList_t H (hmr _).cons.cons.cons.cons hol.slAt.cons.cons.cons.cons.cons hpk hpk rfl (by omega) (fun i q r hq hr => by rw [hq] at hr; cases hr; exact ⟨rfl, rfl⟩)))) ?_
            rintro _ w ⟨rfl, H⟩
            refine JL.go ⟨_, rfl, rfl⟩ (RX.not rfl) ?_
            refine JL.go trivial (RX.pick_f rfl rfl) ?_
            refine JL.go trivial (RX.movev (v := Value.bool _) rfl) ?_
            refine JL.go ⟨_, rfl, rfl⟩ (RX.movev (v := Value.slice _ _ _) rfl) ?_
            refine JL.go ⟨_, rfl, rfl⟩ (RX.movev (v := Value.slice _ _ _) rfl) ?_
            refine JL.go ⟨_, rfl, rfl⟩ (RX.len_slice rfl (by rw [sl36]; rfl) rfl) ?_
            refine JL.go ⟨_, rfl, rfl⟩ (RX.indexAddr rfl rfl sl36 (by omega) (by omega) rfl) ?_
            refine JL.go ⟨_, rfl, rfl⟩ (RX.loadS H hrm.slAt.cons.cons.cons.cons rfl (j := (pairs x.list).length) (by omega) (cVs_last rfl) one38) ?_
            refine JL.go ⟨_, rfl, rfl⟩ (RX.cne rfl rfl) ?_
            refine JL.go trivial (RX.pick_f rfl rfl) ?_
            refine JL.nil ?_
            refine J.cond_f rfl (by first | rfl | decide) ?_
            refine J.skip ?_
            refine J.seq ?_
            refine J.region ?_
            refine JL.go trivial (RX.movev (v := Value.pointer _) rfl) ?_
            replace H := (H.pull 3 rfl).pull 3 rfl
            have hS := rCos_all hsm hpk
            refine JL.does trivial (EX.call rfl cl17 rfl ((rList_c (at_ := 0) H hor1 (by omega) (by omega) hE.cons.cons.cons.cons.cons.cons.cons.cons))) ?_
            rintro _ w ⟨pp, pc, ps, hv, hop, H⟩
            rw [hS] at hv hop H
            simp only [Rs.val_ok, Rs.k_ok, Rs.code_ok, Rs.val_err, Rs.k_err, Rs.code_err] at hv hop H
            subst hv
            replace H := ((H.pull 1 rfl).drop.pull 1 rfl).drop
            refine JL.go trivial (RX.movev (v := Value.tuple _) rfl) ?_
            refine JL.go trivial (RX.extract rfl rfl) ?_
            refine JL.go trivial (RX.extract (v := errV E 0) rfl rfl) ?_
            refine JL.go trivial (RX.assignv (v := Value.slice _ _ _) rfl) ?_
            refine JL.go trivial (RX.assignv (v := errV E 0) rfl) ?_
            refine JL.nil ?_
            refine J.seq ?_
            refine J.region ?_
            refine JL.go trivial (RX.movev (v := Value.pointer _) rfl) ?_
            replace H := (H.pull 2 rfl).pull 2 rfl
            refine JL.does trivial (EX.call rfl cl17 rfl ((rList_c (at_ := 0) H hor2 (by omega) (by omega) hE.cons.cons.cons.cons.cons.cons.cons))) ?_
            rintro _ w ⟨fp, fc, fs, hv, hof2, H⟩
            rw [hS] at hv hof2 H
            simp only [Rs.val_ok, Rs.k_ok, Rs.code_ok, Rs.val_err, Rs.k_err, Rs.code_err] at hv hof2 H
            subst hv
            replace H := ((H.pull 1 rfl).drop.pull 1 rfl).drop
            have hml : ((pairs x.list).map canC).length = (pairs x.list).length := List.length_map _
            refine JL.go trivial (RX.movev (v := Value.tuple _) rfl) ?_
            refine JL.go trivial (RX.extract rfl rfl) ?_
            refine JL.go trivial (RX.extract (v := errV E 0) rfl rfl) ?_
            refine JL.go trivial (RX.assignv (v := Value.slice _ _ _) rfl) ?_
            refine JL.go trivial (RX.assignv (v := errV E 0) rfl) ?_
            refine JL.nil ?_
            refine J.seq ?_
            refine J.seq ?_
            refine J.region ?_
            refine JL.go trivial (RX.movev (v := Value.slice _ _ _) rfl) ?_
            refine JL.go trivial (RX.len_slice rfl (by rw [sl36]; rfl) rfl) ?_
            refine JL.go trivial (RX.move) ?_
            refine JL.nil ?_
            refine J.block ?_
            refine J.loop (ι := Nat × List (Nat × Nat) × Seg) (S := fun q => [(146, .int .i64 (q.1 : Nat))]) (Φ := fun q w => q.1 ≤ ((pairs x.list).map canC).length ∧ q.2.1.length = ((pairs x.list).map canC).length ∧ OwnSl 38 1 pp ((pairs x.list).map canC).length pc (cVs q.2.1) q.2.2 ∧ Hp w0 w (fs :: q.2.2 :: rms :: ls :: [(b, cel [.slice p (tot (l.take (i + 1))).length cp] 86)] :: s :: [(b6, cel x.cells 30)] :: qs3 :: F)) (μ := fun q => ((pairs x.list).map canC).length - q.1) (C := [(3, _), (4, _), (12, _), (18, _), (20, _), (29, _), (30, _), (31, _), (145, _)]) (0, (pairs x.list).map canC, ps) ⟨rfl, rfl, rfl, rfl, rfl, rfl, rfl, rfl, rfl, trivial⟩ ⟨rfl, trivial⟩ ?_ ?_
            · exact ⟨by omega, rfl, hop, H⟩
            clear H hop
            rintro ⟨k2, zs, ps⟩ ρ w ⟨hk2, hzl, hop, H⟩ IH3
            simp only at hk2 hzl hop H
            dsimp only
            refine J.seq ?_
            refine J.region ?_
            refine JL.go trivial (RX.lt rfl rfl) ?_
            refine JL.nil ?_
            refine J.seq ?_
            refine J.cond_d rfl (fun hlt3 => ?_) (fun hlt3 => ?_)
            · skip
              obtain ⟨gb2, l2, rfl, rfl, hll2⟩ := hop.ptr (by omega)
              have hllen2 : k2 < l2.length := by have := hll2.2.1; have := hll2.1; omega
              refine J.skip ?_
              refine J.seq ?_
              refine J.block ?_
              refine J.seq ?_
              refine J.region ?_
              refine JL.go trivial (RX.movev (v := Value.int _ _) rfl) ?_
              refine JL.go trivial (RX.assignv (v := Value.int _ _) rfl) ?_
              refine JL.nil ?_
              refine J.region ?_
              refine JL.go trivial (RX.movev (v := Value.slice _ _ _) rfl) ?_
              refine JL.go trivial (RX.movev (v := Value.int _ _) rfl) ?_
              refine JL.go trivial (RX.indexAddr rfl rfl sl36 (by omega) (by omega) rfl) ?_
              refine JL.does trivial (EX.store (v := Value.complex _ _ _) H rfl rfl (i := 1) rfl rfl (by omega) sz38 rfl rfl) ?_
              rintro _ w H
              refine JL.nil ?_
              refine J.inBlock ?_
              refine J.region ?_
              refine JL.go trivial (RX.add rfl rfl (w_i64 rfl (by omega) (by omega))) ?_
              refine JL.go trivial (RX.movev (v := Value.int _ _) rfl) ?_
              refine JL.nil ?_
              exact IH3 (k2 + 1, zs.set k2 (4617315517961601024, 0), _) _ _ (by simp only; omega) ⟨rfl, rfl, rfl, rfl, rfl, rfl, rfl, rfl, rfl, trivial⟩ ⟨rfl, trivial⟩ ⟨by simp only; omega, by simp [hzl], by rw [← cVs_set]; exact hop.set, by simpa [cV] using H⟩
            · skip
              refine J.exit rfl ?_
              refine J.seq ?_
              refine J.region ?_
              refine JL.go trivial (RX.movev (v := Value.slice _ _ _) rfl) ?_
              refine JL.does trivial (EX.buildSlice1 H elC rfl rfl) ?_
              rintro _ w ⟨b15, rfl, H⟩
              refine JL.does trivial (EX.append (ys := cVs [(4618441417868443648, 0)]) (L' := fun s' => [(b15, cel (cVs [(4618441417868443648, 0)]) 38)] :: fs :: s' :: rms :: ls :: [(b, cel [.slice p (tot (l.take (i + 1))).length cp] 86)] :: s :: [(b6, cel x.cells 30)] :: qs3 :: F) H elC rfl rfl (i := 2) rfl hop (SlAt.here rfl) rfl (cVs_cell _) (by decide) (by omega) (by omega) (fun _ => rfl)) ?_
              rintro _ w ⟨p16, c16, s16, rfl, ho16, H⟩
              rw [← cVs_app] at ho16
              replace H := H.drop
              obtain ⟨pb16, po16, rfl, _⟩ := (ho16.slAt (L := [])).some (by rw [cVs_len, List.length_append, List.length_singleton]; omega)
              refine JL.go trivial (RX.assignv (v := Value.slice _ _ _) rfl) ?_
              refine JL.nil ?_
              refine J.seq ?_
              refine J.region ?_
              refine JL.go trivial (RX.movev (v := Value.slice _ _ _) rfl) ?_
              refine JL.go trivial (RX.movev (v := Value.slice _ _ _) rfl) ?_
              refine JL.does trivial (EX.call rfl cl16 rfl ((sameList_t H hof2.slAt hol.slAt.cons.cons.cons (fun q hq => (by obtain ⟨r, hr, rfl⟩ := List.mem_map.1 hq; exact canC_ok (hpk r hr))) hpk (by simp) (by simp; omega) (fun i q r hq hr => by rw [List.getElem?_map, hr] at hq; cases hq; exact canC_eq _)))) ?_
              rintro _ w ⟨rfl, H⟩
              refine JL.go trivial (RX.not rfl) ?_
              refine JL.go trivial (RX.movev (v := Value.bool _) rfl) ?_
              refine JL.go ⟨_, rfl, rfl⟩ (RX.movev (v := Value.slice _ _ _) rfl) ?_
              refine JL.go ⟨_, rfl, rfl⟩ (RX.movev (v := Value.slice _ _ _) rfl) ?_
              refine JL.go ⟨_, rfl, rfl⟩ (RX.len_slice rfl (by rw [sl36]; rfl) rfl) ?_
              refine JL.go ⟨_, rfl, rfl⟩ (RX.sub rfl rfl (w_i64 (r := (((pairs x.list).map canC).length : Int)) (by omega) (by omega) (by omega))) ?_
              refine JL.go ⟨_, rfl, rfl⟩ (RX.indexAddr rfl rfl sl36 (by omega) (by omega) rfl) ?_
              refine JL.go ⟨_, rfl, rfl⟩ (RX.loadS H ho16.slAt.cons rfl (j := ((pairs x.list).map canC).length) (by omega) (cVs_last hzl) one38) ?_
              refine JL.go ⟨_, rfl, rfl⟩ (RX.cne rfl rfl) ?_
              refine JL.go trivial (RX.pick_f rfl rfl) ?_
              refine JL.nil ?_
              refine J.cond_f rfl (by first | rfl | decide) ?_
              refine J.skip ?_
              refine J.inBlock ?_
              refine J.region ?_
              refine JL.go trivial (RX.add rfl rfl (w_i64 rfl (by omega) (by omega))) ?_
              refine JL.go trivial (RX.movev (v := Value.int _ _) rfl) ?_
              refine JL.nil ?_
              exact IH (i + 1, p, cp, s, q3, qc3, qs3) _ _ (by simp only; omega) ⟨rfl, rfl, rfl, trivial⟩ ⟨rfl, rfl, trivial⟩ ⟨by simp only; omega, ho, ho3, (H.drop.drop.drop.drop.pull 2 rfl).drop⟩
          · skip
            refine JO.go (listed' := [true, true, true, true, true, true, true, true, false, true, true, false, false, false, false, false, false, false, false, false, false, false]) rfl rfl ⟨_, rfl, (decide_eq_false (fun h => h rfl))⟩ (RX.b2s (l := (tot (l.take (i + 1)))) H rfl (by first | exact ho3.slAt.cons.cons.cons.cons.cons | exact ho3.slAt.cons.cons.cons.cons.cons.cons) sl26 ud5 ud9) ?_
            refine JA.all [8] (by kernel_rfl) (by decide) ?_
            refine JO.go (listed' := [true, true, true, true, true, true, true, true, true, true, true, false, false, false, false, false, false, false, false, false, false, false]) rfl rfl ⟨_, rfl, (decide_eq_false (fun h => h rfl))⟩ (RX.b2s (l := (tot (l.take (i + 1)))) H rfl hof.slAt sl26 ud5 ud9) ?_
            refine JA.take 11 (listed' := [true, true, true, true, true, true, true, true, true, true, true, true, false, false, false, false, false, false, false, false, false, false]) rfl (by kernel_rfl) (by kernel_rfl) (by kernel_rfl) rfl ⟨_, rfl, (decide_eq_false (fun h => h rfl))⟩ (fun w => RX.str_neq rfl rfl) ?_
            refine JA.take 12 (listed' := [true, true, true, true, true, true, true, true, true, true, true, true, true, false, false, false, false, false, false, false, false, false]) rfl (by kernel_rfl) (by kernel_rfl) (by kernel_rfl) rfl trivial (fun w => RX.pick_f rfl (decide_eq_false (fun h => h rfl))) ?_
            refine JA.take 13 (listed' := [true, true, true, true, true, true, true, true, true, true, true, true, true, true, false, false, false, false, false, false, false, false]) rfl (by kernel_rfl) (by kernel_rfl) (by kernel_rfl) rfl trivial (fun w => RX.movev (v := Value.bool _) rfl) ?_
            refine JA.take 14 (listed' := [true, true, true, true, true, true, true, true, true, true, true, true, true, true, true, false, false, false, false, false, false, false]) rfl (by kernel_rfl) (by kernel_rfl) (by kernel_rfl) rfl ⟨_, rfl, (decide_eq_false (fun h => h rfl))⟩ (fun w => RX.movev (v := Value.slice _ _ _) rfl) ?_
            refine JA.take 15 (listed' := [true, true, true, true, true, true, true, true, true, true, true, true, true, true, true, true, false, false, false, false, false, false]) rfl (by kernel_rfl) (by kernel_rfl) (by kernel_rfl) rfl ⟨_, rfl, (decide_eq_false (fun h => h rfl))⟩ (fun w => RX.movev (v := Value.slice _ _ _) rfl) ?_
            refine JA.take 16 (listed' := [true, true, true, true, true, true, true, true, true, true, true, true, true, true, true, true, true, false, false, false, false, false]) rfl (by kernel_rfl) (by kernel_rfl) (by kernel_rfl) rfl ⟨_, rfl, (decide_eq_false (fun h => h rfl))⟩ (fun w => RX.len_slice rfl (by rw [sl26]; rfl) rfl) ?_
            refine JA.take 17 (listed' := [true, true, true, true, true, true, true, true, true, true, true, true, true, true, true, true, true, true, false, false, false, false]) rfl (by kernel_rfl) (by kernel_rfl) (by kernel_rfl) rfl ⟨_, rfl, (decide_eq_false (fun h => h rfl))⟩ (fun w => RX.sub rfl rfl (w_i64 (r := ((tot (l.take (i + 1))).length : Int)) (by omega) (by omega) (by omega))) ?_
            refine JA.take 18 (listed' := [true, true, true, true, true, true, true, true, true, true, true, true, true, true, true, true, true, true, true, false, false, false]) rfl (by kernel_rfl) (by kernel_rfl) (by kernel_rfl) rfl ⟨_, rfl, (decide_eq_false (fun h => h rfl))⟩ (fun w => RX.indexAddr rfl rfl sl26 (by omega) (by omega) rfl) ?_
            refine JA.all [19] (by kernel_rfl) (by decide) ?_
            refine JO.go (listed' := [true, true, true, true, true, true, true, true, true, true, true, true, true, true, true, true, true, true, true, true, false, false]) rfl rfl ⟨_, rfl, (decide_eq_false (fun h => h rfl))⟩ (RX.loadS H (by first | exact ho9.slAt.cons.cons.cons.cons | exact ho9.slAt.cons.cons.cons) rfl (j := (tot (l.take (i + 1))).length) (by omega) (bv_last hyl) one5) ?_
            refine JA.take 20 (listed' := [true, true, true, true, true, true, true, true, true, true, true, true, true, true, true, true, true, true, true, true, true, false]) rfl (by kernel_rfl) (by kernel_rfl) (by kernel_rfl) rfl ⟨_, rfl, (decide_eq_false (fun h => h rfl))⟩ (fun w => RX.ne rfl rfl) ?_
            refine JA.take 21 (listed' := [true, true, true, true, true, true, true, true, true, true, true, true, true, true, true, true, true, true, true, true, true, true]) rfl (by kernel_rfl) (by kernel_rfl) (by kernel_rfl) rfl trivial (fun w => RX.pick_f rfl (decide_eq_false (fun h => h rfl))) ?_
            refine JA.done (by kernel_rfl) ?_
            refine J.cond_f rfl (by first | rfl | exact decide_eq_false (fun h => h rfl)) ?_
            refine J.skip ?_
            refine J.seq ?_
            replace H := ((H.drop.pull 2 rfl).drop.pull 2 rfl).drop
            refine J.region ?_
            refine JL.go trivial (RX.loadAgg H rfl (i := 2) (vs := x.cells) rfl rfl ag30) ?_
            refine JL.does trivial (EX.call rfl cl13 rfl ((listOf_b H hx.cons.cons.cons.cons))) ?_
            rintro _ w ⟨lp, lc, ls, rfl, hol, H⟩
            have hpl := pairs_len x.list
            have hsm : (pairs x.list).length ≤ 1048576 := pairs_small hx
            have hpk : ∀ q ∈ (pairs x.list), u64ok q.1 ∧ u64ok q.2 := pairs_ok hx
            refine JL.go trivial (RX.assignv (v := Value.slice _ _ _) rfl) ?_
            refine JL.nil ?_
            refine J.seq ?_
            refine J.region ?_
            refine JL.does trivial (EX.call rfl cl9 rfl ((new_w H))) ?_
            rintro _ w ⟨bx, rfl, H⟩
            replace H := (H.nil).pull 1 rfl
            refine JL.go trivial (RX.assignv (v := Value.pointer _) rfl) ?_
            refine JL.nil ?_
            refine J.seq ?_
            refine J.seq ?_
            refine J.region ?_
            refine JL.go trivial (RX.movev (v := Value.pointer _) rfl) ?_
            refine JL.go trivial (RX.ptrnil_eql rfl rfl pn24) ?_
            refine JL.nil ?_
            refine J.cond_f rfl rfl ?_
            refine J.skip ?_
            refine J.seq ?_
            refine J.region ?_
            refine JL.does trivial (EX.buildSlice0 H elC) ?_
            rintro _ w ⟨b10, rfl, H⟩
            refine JL.go trivial (RX.movev (v := Value.slice _ _ _) rfl) ?_
            refine JL.does trivial (EX.append (ys := cVs (pairs x.list)) (L' := fun s' => s' :: [(bx, cel [.slice none 0 0] 86)] :: [] :: ls :: [(b, cel [.slice p (tot (l.take (i + 1))).length cp] 86)] :: s :: [(b6, cel x.cells 30)] :: qs3 :: F) H elC rfl rfl (i := 0) rfl OwnSl.empty hol.slAt.cons.cons.cons (by simp [cVs_len]) (cVs_cell _) (by decide) (by omega) (by omega) (fun _ => rfl)) ?_
            rintro v w ⟨p11, c11, s11, hv, ho11, H⟩
            rw [Nat.zero_add] at hv ho11
            rw [List.nil_append] at ho11
            subst hv
            refine JL.does trivial (EX.buildSlice1 H elC rfl rfl) ?_
            rintro _ w ⟨b12, rfl, H⟩
            refine JL.does trivial (EX.append (ys := cVs [(4619567317775286272, 0)]) (L' := fun s' => [(b12, cel (cVs [(4619567317775286272, 0)]) 38)] :: s' :: [(bx, cel [.slice none 0 0] 86)] :: [] :: ls :: [(b, cel [.slice p (tot (l.take (i + 1))).length cp] 86)] :: s :: [(b6, cel x.cells 30)] :: qs3 :: F) H elC rfl rfl (i := 1) rfl ho11 (SlAt.here rfl) rfl (cVs_cell _) (by decide) (by omega) (by omega) (fun _ => rfl)) ?_
            rintro _ w ⟨rmp, rmc, rms, rfl, hrm, H⟩
            rw [← cVs_app] at hrm
            replace H := H.drop
            have hrl := hrm.le
            obtain ⟨pbr, por, rfl, _⟩ := (hrm.slAt (L := [])).some (by rw [cVs_len, List.length_append, List.length_singleton]; omega)
            have hmr : ∀ L, SlAt (rms :: L) (some ⟨pbr, por, none⟩) (cVs (pairs x.list)) := fun L => (show SlAt (rms :: L) _ (cVs (pairs x.list) ++ cVs [(4619567317775286272, 0)]) by rw [← cVs_app]; exact hrm.slAt).pre
            refine JL.go trivial (RX.assignv (v := Value.slice _ _ _) rfl) ?_
            refine JL.nil ?_
            refine J.seq ?_
            refine J.region ?_
            refine JL.go trivial (RX.movev (v := Value.pointer _) rfl) ?_
            refine JL.go trivial (RX.movev (v := Value.slice _ _ _) rfl) ?_
            refine JL.go trivial (RX.movev (v := Value.slice _ _ _) rfl) ?_
            refine JL.go trivial (RX.len_slice rfl (by rw [sl36]; rfl) rfl) ?_
            refine JL.go trivial (RX.slice_h rfl rfl sl36 hrm.spot (by omega) (by omega) rfl) ?_
            replace H := (H.pull 2 rfl).pull 2 rfl
            refine JL.does trivial (EX.call rfl cl14 rfl ((List_c (xs := []) ⟨none, 0, [], OwnSl.nil, H⟩ (hE.cons.cons.cons.cons.cons.cons.at_ 3 (by decide) (by decide)) (hmr _) hpk (by omega) (by simp only [List.length_nil]; omega)))) ?_
            rintro _ w h
            simp only [if_pos hsm] at h
            obtain ⟨rfl, px, cx, sx, hox, H⟩ := h
            rw [List.nil_append] at hox H
            rw [show varint (pairs x.list).length ++ ((pairs x.list).map cB).flatten = clB (pairs x.list) from rfl] at hox H
            have hcl : (clB (pairs x.list)).length ≤ 33554432 := clB_bound hsm
            refine JL.go trivial (RX.assign) ?_
            refine JL.nil ?_
            refine J.seq ?_
            refine J.seq ?_
            refine J.region ?_
            refine JL.go trivial (RX.move) ?_
            refine JL.go trivial (RX.ifnil_neq rfl rfl rfl if40) ?_
            refine JL.nil ?_
            refine J.cond_f rfl rfl ?_
            refine J.skip ?_
            refine J.seq ?_
            refine J.region ?_
            refine JL.go trivial (RX.movev (v := Value.pointer _) rfl) ?_
            refine JL.does trivial (EX.call rfl cl12 rfl ((out_w H hox (by omega)))) ?_
            rintro _ w ⟨p13, c13, s13, rfl, ho13, H⟩
            refine JL.does trivial (EX.call rfl cl15 rfl ((read_r H ho13.slAt (by omega)))) ?_
            rintro _ w ⟨rb1, rp1, rc1, rs1, rfl, hor1, H⟩
            replace H := (((H.pull 2 rfl).drop).pull 3 rfl).pull 3 rfl
            refine JL.go trivial (RX.movev (v := Value.pointer _) rfl) ?_
            refine JL.does trivial (EX.call rfl cl12 rfl ((out_w H hox (by omega)))) ?_
            rintro _ w ⟨p14, c14, s14, rfl, ho14, H⟩
            refine JL.does trivial (EX.call rfl cl15 rfl ((read_r H ho14.slAt (by omega)))) ?_
            rintro _ w ⟨rb2, rp2, rc2, rs2, rfl, hor2, H⟩
            replace H := ((((H.pull 2 rfl).drop).pull 2 rfl).drop.pull 2 rfl).drop
            refine JL.go trivial (RX.assignv (v := Value.pointer _) rfl) ?_
            refine JL.go trivial (RX.assignv (v := Value.pointer _) rfl) ?_
            refine JL.nil ?_
            refine J.seq ?_
            refine J.seq ?_
            refine J.region ?_
            refine JL.go trivial (RX.movev (v := Value.pointer _) rfl) ?_
            refine JL.go trivial (RX.ptrnil_eql rfl rfl pn42) ?_
            refine JL.go trivial (RX.movev (v := Value.bool _) rfl) ?_
            refine JL.go ⟨_, rfl, rfl⟩ (RX.movev (v := Value.pointer _) rfl) ?_
            refine JL.go ⟨_, rfl, rfl⟩ (RX.ptrnil_eql rfl rfl pn42) ?_
            refine JL.go trivial (RX.pick_f rfl rfl) ?_
            refine JL.go trivial (RX.movev (v := Value.bool _) rfl) ?_
            refine JL.go ⟨_, rfl, rfl⟩ (RX.movev (v := Value.slice _ _ _) rfl) ?_
            refine JL.go ⟨_, rfl, rfl⟩ (RX.movev (v := Value.slice _ _ _) rfl) ?_
            refine JL.go ⟨_, rfl, rfl⟩ (RX.len_slice rfl (by rw [sl36]; rfl) rfl) ?_
            refine JL.go ⟨_, rfl, rfl⟩ (RX.slice_h rfl rfl sl36 hrm.spot (by omega) (by omega) rfl) ?_
            refine JL.go ⟨_, rfl, rfl⟩ (RX.movev (v := Value.slice _ _ _) rfl) ?_
            refine JL.does ⟨_, rfl, rfl⟩ (EX.call rfl cl16 rfl ((sameList_t H (hmr _).cons.cons.cons.cons hol.slAt.cons.cons.cons.cons.cons hpk hpk rfl (by omega) (fun i q r hq hr => by rw [hq] at hr; cases hr; exact ⟨rfl, rfl⟩)))) ?_
            rintro _ w ⟨rfl, H⟩
            refine JL.go ⟨_, rfl, rfl⟩ (RX.not rfl) ?_
            refine JL.go trivial (RX.pick_f rfl rfl) ?_
            refine JL.go trivial (RX.movev (v := Value.bool _) rfl) ?_
            refine JL.go ⟨_, rfl, rfl⟩ (RX.movev (v := Value.slice _ _ _) rfl) ?_
            refine JL.go ⟨_, rfl, rfl⟩ (RX.movev (v := Value.slice _ _ _) rfl) ?_
            refine JL.go ⟨_, rfl, rfl⟩ (RX.len_slice rfl (by rw [sl36]; rfl) rfl) ?_
            refine JL.go ⟨_, rfl, rfl⟩ (RX.indexAddr rfl rfl sl36 (by omega) (by omega) rfl) ?_
            refine JL.go ⟨_, rfl, rfl⟩ (RX.loadS H hrm.slAt.cons.cons.cons.cons rfl (j := (pairs x.list).length) (by omega) (cVs_last rfl) one38) ?_
            refine JL.go ⟨_, rfl, rfl⟩ (RX.cne rfl rfl) ?_
            refine JL.go trivial (RX.pick_f rfl rfl) ?_
            refine JL.nil ?_
            refine J.cond_f rfl (by first | rfl | decide) ?_
            refine J.skip ?_
            refine J.seq ?_
            refine J.region ?_
            refine JL.go trivial (RX.movev (v := Value.pointer _) rfl) ?_
            replace H := (H.pull 3 rfl).pull 3 rfl
            have hS := rCos_all hsm hpk
            refine JL.does trivial (EX.call rfl cl17 rfl ((rList_c (at_ := 0) H hor1 (by omega) (by omega) hE.cons.cons.cons.cons.cons.cons.cons.cons))) ?_
            rintro _ w ⟨pp, pc, ps, hv, hop, H⟩
            rw [hS] at hv hop H
            simp only [Rs.val_ok, Rs.k_ok, Rs.code_ok, Rs.val_err, Rs.k_err, Rs.code_err] at hv hop H
            subst hv
            replace H := ((H.pull 1 rfl).drop.pull 1 rfl).drop
            refine JL.go trivial (RX.movev (v := Value.tuple _) rfl) ?_
            refine JL.go trivial (RX.extract rfl rfl) ?_
            refine JL.go trivial (RX.extract (v := errV E 0) rfl rfl) ?_
            refine JL.go trivial (RX.assignv (v := Value.slice _ _ _) rfl) ?_
            refine JL.go trivial (RX.assignv (v := errV E 0) rfl) ?_
            refine JL.nil ?_
            refine J.seq ?_
            refine J.region ?_
            refine JL.go trivial (RX.movev (v := Value.pointer _) rfl) ?_
            replace H := (H.pull 2 rfl).pull 2 rfl
            refine JL.does trivial (EX.call rfl cl17 rfl ((rList_c (at_ := 0) H hor2 (by omega) (by omega) hE.cons.cons.cons.cons.cons.cons.cons))) ?_
            rintro _ w ⟨fp, fc, fs, hv, hof2, H⟩
            rw [hS] at hv hof2 H
            simp only [Rs.val_ok, Rs.k_ok, Rs.code_ok, Rs.val_err, Rs.k_err, Rs.code_err] at hv hof2 H
            subst hv
            replace H := ((H.pull 1 rfl).drop.pull 1 rfl).drop
            have hml : ((pairs x.list).map canC).length = (pairs x.list).length := List.length_map _
            refine JL.go trivial (RX.movev (v := Value.tuple _) rfl) ?_
            refine JL.go trivial (RX.extract rfl rfl) ?_
            refine JL.go trivial (RX.extract (v := errV E 0) rfl rfl) ?_
            refine JL.go trivial (RX.assignv (v := Value.slice _ _ _) rfl) ?_
            refine JL.go trivial (RX.assignv (v := errV E 0) rfl) ?_
            refine JL.nil ?_
            refine J.seq ?_
            refine J.seq ?_
            refine J.region ?_
            refine JL.go trivial (RX.movev (v := Value.slice _ _ _) rfl) ?_
            refine JL.go trivial (RX.len_slice rfl (by rw [sl36]; rfl) rfl) ?_
            refine JL.go trivial (RX.move) ?_
            refine JL.nil ?_
            refine J.block ?_
            refine J.loop (ι := Nat × List (Nat × Nat) × Seg) (S := fun q => [(146, .int .i64 (q.1 : Nat))]) (Φ := fun q w => q.1 ≤ ((pairs x.list).map canC).length ∧ q.2.1.length = ((pairs x.list).map canC).length ∧ OwnSl 38 1 pp ((pairs x.list).map canC).length pc (cVs q.2.1) q.2.2 ∧ Hp w0 w (fs :: q.2.2 :: rms :: ls :: [(b, cel [.slice p (tot (l.take (i + 1))).length cp] 86)] :: s :: [(b6, cel x.cells 30)] :: qs3 :: F)) (μ := fun q => ((pairs x.list).map canC).length - q.1) (C := [(3, _), (4, _), (12, _), (18, _), (20, _), (29, _), (30, _), (31, _), (145, _)]) (0, (pairs x.list).map canC, ps) ⟨rfl, rfl, rfl, rfl, rfl, rfl, rfl, rfl, rfl, trivial⟩ ⟨rfl, trivial⟩ ?_ ?_
            · exact ⟨by omega, rfl, hop, H⟩
            clear H hop
            rintro ⟨k2, zs, ps⟩ ρ w ⟨hk2, hzl, hop, H⟩ IH3
            simp only at hk2 hzl hop H
            dsimp only
            refine J.seq ?_
            refine J.region ?_
            refine JL.go trivial (RX.lt rfl rfl) ?_
            refine JL.nil ?_
            refine J.seq ?_
            refine J.cond_d rfl (fun hlt3 => ?_) (fun hlt3 => ?_)
            · skip
              obtain ⟨gb2, l2, rfl, rfl, hll2⟩ := hop.ptr (by omega)
              have hllen2 : k2 < l2.length := by have := hll2.2.1; have := hll2.1; omega
              refine J.skip ?_
              refine J.seq ?_
              refine J.block ?_
              refine J.seq ?_
              refine J.region ?_
              refine JL.go trivial (RX.movev (v := Value.int _ _) rfl) ?_
              refine JL.go trivial (RX.assignv (v := Value.int _ _) rfl) ?_
              refine JL.nil ?_
              refine J.region ?_
              refine JL.go trivial (RX.movev (v := Value.slice _ _ _) rfl) ?_
              refine JL.go trivial (RX.movev (v := Value.int _ _) rfl) ?_
              refine JL.go trivial (RX.indexAddr rfl rfl sl36 (by omega) (by omega) rfl) ?_
              refine JL.does trivial (EX.store (v := Value.complex _ _ _) H rfl rfl (i := 1) rfl rfl (by omega) sz38 rfl rfl) ?_
              rintro _ w H
              refine JL.nil ?_
              refine J.inBlock ?_
              refine J.region ?_
              refine JL.go trivial (RX.add rfl rfl (w_i64 rfl (by omega) (by omega))) ?_
              refine JL.go trivial (RX.movev (v := Value.int _ _) rfl) ?_
              refine JL.nil ?_
              exact IH3 (k2 + 1, zs.set k2 (4617315517961601024, 0), _) _ _ (by simp only; omega) ⟨rfl, rfl, rfl, rfl, rfl, rfl, rfl, rfl, rfl, trivial⟩ ⟨rfl, trivial⟩ ⟨by simp only; omega, by simp [hzl], by rw [← cVs_set]; exact hop.set, by simpa [cV] using H⟩
            · skip
              refine J.exit rfl ?_
              refine J.seq ?_
              refine J.region ?_
              refine JL.go trivial (RX.movev (v := Value.slice _ _ _) rfl) ?_
              refine JL.does trivial (EX.buildSlice1 H elC rfl rfl) ?_
              rintro _ w ⟨b15, rfl, H⟩
              refine JL.does trivial (EX.append (ys := cVs [(4618441417868443648, 0)]) (L' := fun s' => [(b15, cel (cVs [(4618441417868443648, 0)]) 38)] :: fs :: s' :: rms :: ls :: [(b, cel [.slice p (tot (l.take (i + 1))).length cp] 86)] :: s :: [(b6, cel x.cells 30)] :: qs3 :: F) H elC rfl rfl (i := 2) rfl hop (SlAt.here rfl) rfl (cVs_cell _) (by decide) (by omega) (by omega) (fun _ => rfl)) ?_
              rintro _ w ⟨p16, c16, s16, rfl, ho16, H⟩
              rw [← cVs_app] at ho16
              replace H := H.drop
              obtain ⟨pb16, po16, rfl, _⟩ := (ho16.slAt (L := [])).some (by rw [cVs_len, List.length_append, List.length_singleton]; omega)
              refine JL.go trivial (RX.assignv (v := Value.slice _ _ _) rfl) ?_
              refine JL.nil ?_
              refine J.seq ?_
              refine J.region ?_
              refine JL.go trivial (RX.movev (v := Value.slice _ _ _) rfl) ?_
              refine JL.go trivial (RX.movev (v := Value.slice _ _ _) rfl) ?_
              refine JL.does trivial (EX.call rfl cl16 rfl ((sameList_t H hof2.slAt hol.slAt.cons.cons.cons (fun q hq => (by obtain ⟨r, hr, rfl⟩ := List.mem_map.1 hq; exact canC_ok (hpk r hr))) hpk (by simp) (by simp; omega) (fun i q r hq hr => by rw [List.getElem?_map, hr] at hq; cases hq; exact canC_eq _)))) ?_
              rintro _ w ⟨rfl, H⟩
              refine JL.go trivial (RX.not rfl) ?_
              refine JL.go trivial (RX.movev (v := Value.bool _) rfl) ?_
              refine JL.go ⟨_, rfl, rfl⟩ (RX.movev (v := Value.slice _ _ _) rfl) ?_
              refine JL.go ⟨_, rfl, rfl⟩ (RX.movev (v := Value.slice _ _ _) rfl) ?_
              refine JL.go ⟨_, rfl, rfl⟩ (RX.len_slice rfl (by rw [sl36]; rfl) rfl) ?_
              refine JL.go ⟨_, rfl, rfl⟩ (RX.sub rfl rfl (w_i64 (r := (((pairs x.list).map canC).length : Int)) (by omega) (by omega) (by omega))) ?_
              refine JL.go ⟨_, rfl, rfl⟩ (RX.indexAddr rfl rfl sl36 (by omega) (by omega) rfl) ?_
              refine JL.go ⟨_, rfl, rfl⟩ (RX.loadS H ho16.slAt.cons rfl (j := ((pairs x.list).map canC).length) (by omega) (cVs_last hzl) one38) ?_
              refine JL.go ⟨_, rfl, rfl⟩ (RX.cne rfl rfl) ?_
              refine JL.go trivial (RX.pick_f rfl rfl) ?_
              refine JL.nil ?_
              refine J.cond_f rfl (by first | rfl | decide) ?_
              refine J.skip ?_
              refine J.inBlock ?_
              refine J.region ?_
              refine JL.go trivial (RX.add rfl rfl (w_i64 rfl (by omega) (by omega))) ?_
              refine JL.go trivial (RX.movev (v := Value.int _ _) rfl) ?_
              refine JL.nil ?_
              exact IH (i + 1, p, cp, s, q3, qc3, qs3) _ _ (by simp only; omega) ⟨rfl, rfl, rfl, trivial⟩ ⟨rfl, rfl, trivial⟩ ⟨by simp only; omega, ho, ho3, (H.drop.drop.drop.drop.pull 2 rfl).drop⟩
        · skip
          refine JO.go (listed' := [true, true, true, true, true, true, true, false, false, true, true, false, false, false, false, false, false, false, false, false, false, false]) rfl rfl ⟨_, rfl, (decide_eq_false (fun h => h rfl))⟩ (RX.b2s (l := (tot (l.take (i + 1)))) H rfl (by first | exact ho3.slAt.cons.cons.cons.cons.cons | exact ho3.slAt.cons.cons.cons.cons.cons.cons) sl26 ud5 ud9) ?_
          refine JA.all [7] (by kernel_rfl) (by decide) ?_
          replace H := (H.pull 2 rfl).pull 2 rfl
          refine JO.does (listed' := [true, true, true, true, true, true, true, true, false, true, true, false, false, false, false, false, false, false, false, false, false, false]) rfl rfl ⟨_, rfl, (decide_eq_false (fun h => h rfl))⟩ (EX.call rfl cl12 rfl ((out_w H ho (by omega)))) ?_
          rintro _ w ⟨p5, c5, s5, rfl, hof, H⟩
          refine JA.all [8] (by kernel_rfl) (by decide) ?_
          refine JO.go (listed' := [true, true, true, true, true, true, true, true, true, true, true, false, false, false, false, false, false, false, false, false, false, false]) rfl rfl ⟨_, rfl, (decide_eq_false (fun h => h rfl))⟩ (RX.b2s (l := (tot (l.take (i + 1)))) H rfl hof.slAt sl26 ud5 ud9) ?_
          refine JA.take 11 (listed' := [true, true, true, true, true, true, true, true, true, true, true, true, false, false, false, false, false, false, false, false, false, false]) rfl (by kernel_rfl) (by kernel_rfl) (by kernel_rfl) rfl ⟨_, rfl, (decide_eq_false (fun h => h rfl))⟩ (fun w => RX.str_neq rfl rfl) ?_
          refine JA.take 12 (listed' := [true, true, true, true, true, true, true, true, true, true, true, true, true, false, false, false, false, false, false, false, false, false]) rfl (by kernel_rfl) (by kernel_rfl) (by kernel_rfl) rfl trivial (fun w => RX.pick_f rfl (decide_eq_false (fun h => h rfl))) ?_
          refine JA.take 13 (listed' := [true, true, true, true, true, true, true, true, true, true, true, true, true, true, false, false, false, false, false, false, false, false]) rfl (by kernel_rfl) (by kernel_rfl) (by kernel_rfl) rfl trivial (fun w => RX.movev (v := Value.bool _) rfl) ?_
          refine JA.take 14 (listed' := [true, true, true, true, true, true, true, true, true, true, true, true, true, true, true, false, false, false, false, false, false, false]) rfl (by kernel_rfl) (by kernel_rfl) (by kernel_rfl) rfl ⟨_, rfl, (decide_eq_false (fun h => h rfl))⟩ (fun w => RX.movev (v := Value.slice _ _ _) rfl) ?_
          refine JA.take 15 (listed' := [true, true, true, true, true, true, true, true, true, true, true, true, true, true, true, true, false, false, false, false, false, false]) rfl (by kernel_rfl) (by kernel_rfl) (by kernel_rfl) rfl ⟨_, rfl, (decide_eq_false (fun h => h rfl))⟩ (fun w => RX.movev (v := Value.slice _ _ _) rfl) ?_
          refine JA.take 16 (listed' := [true, true, true, true, true, true, true, true, true, true, true, true, true, true, true, true, true, false, false, false, false, false]) rfl (by kernel_rfl) (by kernel_rfl) (by kernel_rfl) rfl ⟨_, rfl, (decide_eq_false (fun h => h rfl))⟩ (fun w => RX.len_slice rfl (by rw [sl26]; rfl) rfl) ?_
          refine JA.take 17 (listed' := [true, true, true, true, true, true, true, true, true, true, true, true, true, true, true, true, true, true, false, false, false, false]) rfl (by kernel_rfl) (by kernel_rfl) (by kernel_rfl) rfl ⟨_, rfl, (decide_eq_false (fun h => h rfl))⟩ (fun w => RX.sub rfl rfl (w_i64 (r := ((tot (l.take (i + 1))).length : Int)) (by omega) (by omega) (by omega))) ?_
          refine JA.take 18 (listed' := [true, true, true, true, true, true, true, true, true, true, true, true, true, true, true, true, true, true, true, false, false, false]) rfl (by kernel_rfl) (by kernel_rfl) (by kernel_rfl) rfl ⟨_, rfl, (decide_eq_false (fun h => h rfl))⟩ (fun w => RX.indexAddr rfl rfl sl26 (by omega) (by omega) rfl) ?_
          refine JA.all [19] (by kernel_rfl) (by decide) ?_
          refine JO.go (listed' := [true, true, true, true, true, true, true, true, true, true, true, true, true, true, true, true, true, true, true, true, false, false]) rfl rfl ⟨_, rfl, (decide_eq_false (fun h => h rfl))⟩ (RX.loadS H (by first | exact ho9.slAt.cons.cons.cons.cons | exact ho9.slAt.cons.cons.cons) rfl (j := (tot (l.take (i + 1))).length) (by omega) (bv_last hyl) one5) ?_
          refine JA.take 20 (listed' := [true, true, true, true, true, true, true, true, true, true, true, true, true, true, true, true, true, true, true, true, true, false]) rfl (by kernel_rfl) (by kernel_rfl) (by kernel_rfl) rfl ⟨_, rfl, (decide_eq_false (fun h => h rfl))⟩ (fun w => RX.ne rfl rfl) ?_
          refine JA.take 21 (listed' := [true, true, true, true, true, true, true, true, true, true, true, true, true, true, true, true, true, true, true, true, true, true]) rfl (by kernel_rfl) (by kernel_rfl) (by kernel_rfl) rfl trivial (fun w => RX.pick_f rfl (decide_eq_false (fun h => h rfl))) ?_
          refine JA.done (by kernel_rfl) ?_
          refine J.cond_f rfl (by first | rfl | exact decide_eq_false (fun h => h rfl)) ?_
          refine J.skip ?_
          refine J.seq ?_
          replace H := ((H.drop.pull 2 rfl).drop.pull 2 rfl).drop
          refine J.region ?_
          refine JL.go trivial (RX.loadAgg H rfl (i := 2) (vs := x.cells) rfl rfl ag30) ?_
          refine JL.does trivial (EX.call rfl cl13 rfl ((listOf_b H hx.cons.cons.cons.cons))) ?_
          rintro _ w ⟨lp, lc, ls, rfl, hol, H⟩
          have hpl := pairs_len x.list
          have hsm : (pairs x.list).length ≤ 1048576 := pairs_small hx
          have hpk : ∀ q ∈ (pairs x.list), u64ok q.1 ∧ u64ok q.2 := pairs_ok hx
          refine JL.go trivial (RX.assignv (v := Value.slice _ _ _) rfl) ?_
          refine JL.nil ?_
          refine J.seq ?_
          refine J.region ?_
          refine JL.does trivial (EX.call rfl cl9 rfl ((new_w H))) ?_
          rintro _ w ⟨bx, rfl, H⟩
          replace H := (H.nil).pull 1 rfl
          refine JL.go trivial (RX.assignv (v := Value.pointer _) rfl) ?_
          refine JL.nil ?_
          refine J.seq ?_
          refine J.seq ?_
          refine J.region ?_
          refine JL.go trivial (RX.movev (v := Value.pointer _) rfl) ?_
          refine JL.go trivial (RX.ptrnil_eql rfl rfl pn24) ?_
          refine JL.nil ?_
          refine J.cond_f rfl rfl ?_
          refine J.skip ?_
          refine J.seq ?_
          refine J.region ?_
          refine JL.does trivial (EX.buildSlice0 H elC) ?_
          rintro _ w ⟨b10, rfl, H⟩
          refine JL.go trivial (RX.movev (v := Value.slice _ _ _) rfl) ?_
          refine JL.does trivial (EX.append (ys := cVs (pairs x.list)) (L' := fun s' => s' :: [(bx, cel [.slice none 0 0] 86)] :: [] :: ls :: [(b, cel [.slice p (tot (l.take (i + 1))).length cp] 86)] :: s :: [(b6, cel x.cells 30)] :: qs3 :: F) H elC rfl rfl (i := 0) rfl OwnSl.empty hol.slAt.cons.cons.cons (by simp [cVs_len]) (cVs_cell _) (by decide) (by omega) (by omega) (fun _ => rfl)) ?_
          rintro v w ⟨p11, c11, s11, hv, ho11, H⟩
          rw [Nat.zero_add] at hv ho11
          rw [List.nil_append] at ho11
          subst hv
          refine JL.does trivial (EX.buildSlice1 H elC rfl rfl) ?_
          rintro _ w ⟨b12, rfl, H⟩
          refine JL.does trivial (EX.append (ys := cVs [(4619567317775286272, 0)]) (L' := fun s' => [(b12, cel (cVs [(4619567317775286272, 0)]) 38)] :: s' :: [(bx, cel [.slice none 0 0] 86)] :: [] :: ls :: [(b, cel [.slice p (tot (l.take (i + 1))).length cp] 86)] :: s :: [(b6, cel x.cells 30)] :: qs3 :: F) H elC rfl rfl (i := 1) rfl ho11 (SlAt.here rfl) rfl (cVs_cell _) (by decide) (by omega) (by omega) (fun _ => rfl)) ?_
          rintro _ w ⟨rmp, rmc, rms, rfl, hrm, H⟩
          rw [← cVs_app] at hrm
          replace H := H.drop
          have hrl := hrm.le
          obtain ⟨pbr, por, rfl, _⟩ := (hrm.slAt (L := [])).some (by rw [cVs_len, List.length_append, List.length_singleton]; omega)
          have hmr : ∀ L, SlAt (rms :: L) (some ⟨pbr, por, none⟩) (cVs (pairs x.list)) := fun L => (show SlAt (rms :: L) _ (cVs (pairs x.list) ++ cVs [(4619567317775286272, 0)]) by rw [← cVs_app]; exact hrm.slAt).pre
          refine JL.go trivial (RX.assignv (v := Value.slice _ _ _) rfl) ?_
          refine JL.nil ?_
          refine J.seq ?_
          refine J.region ?_
          refine JL.go trivial (RX.movev (v := Value.pointer _) rfl) ?_
          refine JL.go trivial (RX.movev (v := Value.slice _ _ _) rfl) ?_
          refine JL.go trivial (RX.movev (v := Value.slice _ _ _) rfl) ?_
          refine JL.go trivial (RX.len_slice rfl (by rw [sl36]; rfl) rfl) ?_
          refine JL.go trivial (RX.slice_h rfl rfl sl36 hrm.spot (by omega) (by omega) rfl) ?_
          replace H := (H.pull 2 rfl).pull 2 rfl
          refine JL.does trivial (EX.call rfl cl14 rfl ((List_c (xs := []) ⟨none, 0, [], OwnSl.nil, H⟩ (hE.cons.cons.cons.cons.cons.cons.at_ 3 (by decide) (by decide)) (hmr _) hpk (by omega) (by simp only [List.length_nil]; omega)))) ?_
          rintro _ w h
          simp only [if_pos hsm] at h
          obtain ⟨rfl, px, cx, sx, hox, H⟩ := h
          rw [List.nil_append] at hox H
          rw [show varint (pairs x.list).length ++ ((pairs x.list).map cB).flatten = clB (pairs x.list) from rfl] at hox H
          have hcl : (clB (pairs x.list)).length ≤ 33554432 := clB_bound hsm
          refine JL.go trivial (RX.assign) ?_
          refine JL.nil ?_
          refine J.seq ?_
          refine J.seq ?_
          refine J.region ?_
          refine JL.go trivial (RX.move) ?_
          refine JL.go trivial (RX.ifnil_neq rfl rfl rfl if40) ?_
          refine JL.nil ?_
          refine J.cond_f rfl rfl ?_
          refine J.skip ?_
          refine J.seq ?_
          refine J.region ?_
          refine JL.go trivial (RX.movev (v := Value.pointer _) rfl) ?_
          refine JL.does trivial (EX.call rfl cl12 rfl ((out_w H hox (by omega)))) ?_
          rintro _ w ⟨p13, c13, s13, rfl, ho13, H⟩
          refine JL.does trivial (EX.call rfl cl15 rfl ((read_r H ho13.slAt (by omega)))) ?_
          rintro _ w ⟨rb1, rp1, rc1, rs1, rfl, hor1, H⟩
          replace H := (((H.pull 2 rfl).drop).pull 3 rfl).pull 3 rfl
          refine JL.go trivial (RX.movev (v := Value.pointer _) rfl) ?_
          refine JL.does trivial (EX.call rfl cl12 rfl ((out_w H hox (by omega)))) ?_
          rintro _ w ⟨p14, c14, s14, rfl, ho14, H⟩
          refine JL.does trivial (EX.call rfl cl15 rfl ((read_r H ho14.slAt (by omega)))) ?_
          rintro _ w ⟨rb2, rp2, rc2, rs2, rfl, hor2, H⟩
          replace H := ((((H.pull 2 rfl).drop).pull 2 rfl).drop.pull 2 rfl).drop
          refine JL.go trivial (RX.assignv (v := Value.pointer _) rfl) ?_
          refine JL.go trivial (RX.assignv (v := Value.pointer _) rfl) ?_
          refine JL.nil ?_
          refine J.seq ?_
          refine J.seq ?_
          refine J.region ?_
          refine JL.go trivial (RX.movev (v := Value.pointer _) rfl) ?_
          refine JL.go trivial (RX.ptrnil_eql rfl rfl pn42) ?_
          refine JL.go trivial (RX.movev (v := Value.bool _) rfl) ?_
          refine JL.go ⟨_, rfl, rfl⟩ (RX.movev (v := Value.pointer _) rfl) ?_
          refine JL.go ⟨_, rfl, rfl⟩ (RX.ptrnil_eql rfl rfl pn42) ?_
          refine JL.go trivial (RX.pick_f rfl rfl) ?_
          refine JL.go trivial (RX.movev (v := Value.bool _) rfl) ?_
          refine JL.go ⟨_, rfl, rfl⟩ (RX.movev (v := Value.slice _ _ _) rfl) ?_
          refine JL.go ⟨_, rfl, rfl⟩ (RX.movev (v := Value.slice _ _ _) rfl) ?_
          refine JL.go ⟨_, rfl, rfl⟩ (RX.len_slice rfl (by rw [sl36]; rfl) rfl) ?_
          refine JL.go ⟨_, rfl, rfl⟩ (RX.slice_h rfl rfl sl36 hrm.spot (by omega) (by omega) rfl) ?_
          refine JL.go ⟨_, rfl, rfl⟩ (RX.movev (v := Value.slice _ _ _) rfl) ?_
          refine JL.does ⟨_, rfl, rfl⟩ (EX.call rfl cl16 rfl ((sameList_t H (hmr _).cons.cons.cons.cons hol.slAt.cons.cons.cons.cons.cons hpk hpk rfl (by omega) (fun i q r hq hr => by rw [hq] at hr; cases hr; exact ⟨rfl, rfl⟩)))) ?_
          rintro _ w ⟨rfl, H⟩
          refine JL.go ⟨_, rfl, rfl⟩ (RX.not rfl) ?_
          refine JL.go trivial (RX.pick_f rfl rfl) ?_
          refine JL.go trivial (RX.movev (v := Value.bool _) rfl) ?_
          refine JL.go ⟨_, rfl, rfl⟩ (RX.movev (v := Value.slice _ _ _) rfl) ?_
          refine JL.go ⟨_, rfl, rfl⟩ (RX.movev (v := Value.slice _ _ _) rfl) ?_
          refine JL.go ⟨_, rfl, rfl⟩ (RX.len_slice rfl (by rw [sl36]; rfl) rfl) ?_
          refine JL.go ⟨_, rfl, rfl⟩ (RX.indexAddr rfl rfl sl36 (by omega) (by omega) rfl) ?_
          refine JL.go ⟨_, rfl, rfl⟩ (RX.loadS H hrm.slAt.cons.cons.cons.cons rfl (j := (pairs x.list).length) (by omega) (cVs_last rfl) one38) ?_
          refine JL.go ⟨_, rfl, rfl⟩ (RX.cne rfl rfl) ?_
          refine JL.go trivial (RX.pick_f rfl rfl) ?_
          refine JL.nil ?_
          refine J.cond_f rfl (by first | rfl | decide) ?_
          refine J.skip ?_
          refine J.seq ?_
          refine J.region ?_
          refine JL.go trivial (RX.movev (v := Value.pointer _) rfl) ?_
          replace H := (H.pull 3 rfl).pull 3 rfl
          have hS := rCos_all hsm hpk
          refine JL.does trivial (EX.call rfl cl17 rfl ((rList_c (at_ := 0) H hor1 (by omega) (by omega) hE.cons.cons.cons.cons.cons.cons.cons.cons))) ?_
          rintro _ w ⟨pp, pc, ps, hv, hop, H⟩
          rw [hS] at hv hop H
          simp only [Rs.val_ok, Rs.k_ok, Rs.code_ok, Rs.val_err, Rs.k_err, Rs.code_err] at hv hop H
          subst hv
          replace H := ((H.pull 1 rfl).drop.pull 1 rfl).drop
          refine JL.go trivial (RX.movev (v := Value.tuple _) rfl) ?_
          refine JL.go trivial (RX.extract rfl rfl) ?_
          refine JL.go trivial (RX.extract (v := errV E 0) rfl rfl) ?_
          refine JL.go trivial (RX.assignv (v := Value.slice _ _ _) rfl) ?_
          refine JL.go trivial (RX.assignv (v := errV E 0) rfl) ?_
          refine JL.nil ?_
          refine J.seq ?_
          refine J.region ?_
          refine JL.go trivial (RX.movev (v := Value.pointer _) rfl) ?_
          replace H := (H.pull 2 rfl).pull 2 rfl
          refine JL.does trivial (EX.call rfl cl17 rfl ((rList_c (at_ := 0) H hor2 (by omega) (by omega) hE.cons.cons.cons.cons.cons.cons.cons))) ?_
          rintro _ w ⟨fp, fc, fs, hv, hof2, H⟩
          rw [hS] at hv hof2 H
          simp only [Rs.val_ok, Rs.k_ok, Rs.code_ok, Rs.val_err, Rs.k_err, Rs.code_err] at hv hof2 H
          subst hv
          replace H := ((H.pull 1 rfl).drop.pull 1 rfl).drop
          have hml : ((pairs x.list).map canC).length = (pairs x.list).length := List.length_map _
          refine JL.go trivial (RX.movev (v := Value.tuple _) rfl) ?_
          refine JL.go trivial (RX.extract rfl rfl) ?_
          refine JL.go trivial (RX.extract (v := errV E 0) rfl rfl) ?_
          refine JL.go trivial (RX.assignv (v := Value.slice _ _ _) rfl) ?_
          refine JL.go trivial (RX.assignv (v := errV E 0) rfl) ?_
          refine JL.nil ?_
          refine J.seq ?_
          refine J.seq ?_
          refine J.region ?_
          refine JL.go trivial (RX.movev (v := Value.slice _ _ _) rfl) ?_
          refine JL.go trivial (RX.len_slice rfl (by rw [sl36]; rfl) rfl) ?_
          refine JL.go trivial (RX.move) ?_
          refine JL.nil ?_
          refine J.block ?_
          refine J.loop (ι := Nat × List (Nat × Nat) × Seg) (S := fun q => [(146, .int .i64 (q.1 : Nat))]) (Φ := fun q w => q.1 ≤ ((pairs x.list).map canC).length ∧ q.2.1.length = ((pairs x.list).map canC).length ∧ OwnSl 38 1 pp ((pairs x.list).map canC).length pc (cVs q.2.1) q.2.2 ∧ Hp w0 w (fs :: q.2.2 :: rms :: ls :: [(b, cel [.slice p (tot (l.take (i + 1))).length cp] 86)] :: s :: [(b6, cel x.cells 30)] :: qs3 :: F)) (μ := fun q => ((pairs x.list).map canC).length - q.1) (C := [(3, _), (4, _), (12, _), (18, _), (20, _), (29, _), (30, _), (31, _), (145, _)]) (0, (pairs x.list).map canC, ps) ⟨rfl, rfl, rfl, rfl, rfl, rfl, rfl, rfl, rfl, trivial⟩ ⟨rfl, trivial⟩ ?_ ?_
          · exact ⟨by omega, rfl, hop, H⟩
          clear H hop
          rintro ⟨k2, zs, ps⟩ ρ w ⟨hk2, hzl, hop, H⟩ IH3
          simp only at hk2 hzl hop H
          dsimp only
          refine J.seq ?_
          refine J.region ?_
          refine JL.go trivial (RX.lt rfl rfl) ?_
          refine JL.nil ?_
          refine J.seq ?_
          refine J.cond_d rfl (fun hlt3 => ?_) (fun hlt3 => ?_)
          · skip
            obtain ⟨gb2, l2, rfl, rfl, hll2⟩ := hop.ptr (by omega)
            have hllen2 : k2 < l2.length := by have := hll2.2.1; have := hll2.1; omega
            refine J.skip ?_
            refine J.seq ?_
            refine J.block ?_
            refine J.seq ?_
            refine J.region ?_
            refine JL.go trivial (RX.movev (v := Value.int _ _) rfl) ?_
            refine JL.go trivial (RX.assignv (v := Value.int _ _) rfl) ?_
            refine JL.nil ?_
            refine J.region ?_
            refine JL.go trivial (RX.movev (v := Value.slice _ _ _) rfl) ?_
            refine JL.go trivial (RX.movev (v := Value.int _ _) rfl) ?_
            refine JL.go trivial (RX.indexAddr rfl rfl sl36 (by omega) (by omega) rfl) ?_
            refine JL.does trivial (EX.store (v := Value.complex _ _ _) H rfl rfl (i := 1) rfl rfl (by omega) sz38 rfl rfl) ?_
            rintro _ w H
            refine JL.nil ?_
            refine J.inBlock ?_
            refine J.region ?_
            refine JL.go trivial (RX.add rfl rfl (w_i64 rfl (by omega) (by omega))) ?_
            refine JL.go trivial (RX.movev (v := Value.int _ _) rfl) ?_
            refine JL.nil ?_
            exact IH3 (k2 + 1, zs.set k2 (4617315517961601024, 0), _) _ _ (by simp only; omega) ⟨rfl, rfl, rfl, rfl, rfl, rfl, rfl, rfl, rfl, trivial⟩ ⟨rfl, trivial⟩ ⟨by simp only; omega, by simp [hzl], by rw [← cVs_set]; exact hop.set, by simpa [cV] using H⟩
          · skip
            refine J.exit rfl ?_
            refine J.seq ?_
            refine J.region ?_
            refine JL.go trivial (RX.movev (v := Value.slice _ _ _) rfl) ?_
            refine JL.does trivial (EX.buildSlice1 H elC rfl rfl) ?_
            rintro _ w ⟨b15, rfl, H⟩
            refine JL.does trivial (EX.append (ys := cVs [(4618441417868443648, 0)]) (L' := fun s' => [(b15, cel (cVs [(4618441417868443648, 0)]) 38)] :: fs :: s' :: rms :: ls :: [(b, cel [.slice p (tot (l.take (i + 1))).length cp] 86)] :: s :: [(b6, cel x.cells 30)] :: qs3 :: F) H elC rfl rfl (i := 2) rfl hop (SlAt.here rfl) rfl (cVs_cell _) (by decide) (by omega) (by omega) (fun _ => rfl)) ?_
            rintro _ w ⟨p16, c16, s16, rfl, ho16, H⟩
            rw [← cVs_app] at ho16
            replace H := H.drop
            obtain ⟨pb16, po16, rfl, _⟩ := (ho16.slAt (L := [])).some (by rw [cVs_len, List.length_append, List.length_singleton]; omega)
            refine JL.go trivial (RX.assignv (v := Value.slice _ _ _) rfl) ?_
            refine JL.nil ?_
            refine J.seq ?_
            refine J.region ?_
            refine JL.go trivial (RX.movev (v := Value.slice _ _ _) rfl) ?_
            refine JL.go trivial (RX.movev (v := Value.slice _ _ _) rfl) ?_
            refine JL.does trivial (EX.call rfl cl16 rfl ((sameList_t H hof2.slAt hol.slAt.cons.cons.cons (fun q hq => (by obtain ⟨r, hr, rfl⟩ := List.mem_map.1 hq; exact canC_ok (hpk r hr))) hpk (by simp) (by simp; omega) (fun i q r hq hr => by rw [List.getElem?_map, hr] at hq; cases hq; exact canC_eq _)))) ?_
            rintro _ w ⟨rfl, H⟩
            refine JL.go trivial (RX.not rfl) ?_
            refine JL.go trivial (RX.movev (v := Value.bool _) rfl) ?_
            refine JL.go ⟨_, rfl, rfl⟩ (RX.movev (v := Value.slice _ _ _) rfl) ?_
            refine JL.go ⟨_, rfl, rfl⟩ (RX.movev (v := Value.slice _ _ _) rfl) ?_
            refine JL.go ⟨_, rfl, rfl⟩ (RX.len_slice rfl (by rw [sl36]; rfl) rfl) ?_
            refine JL.go ⟨_, rfl, rfl⟩ (RX.sub rfl rfl (w_i64 (r := (((pairs x.list).map canC).length : Int)) (by omega) (by omega) (by omega))) ?_
            refine JL.go ⟨_, rfl, rfl⟩ (RX.indexAddr rfl rfl sl36 (by omega) (by omega) rfl) ?_
            refine JL.go ⟨_, rfl, rfl⟩ (RX.loadS H ho16.slAt.cons rfl (j := ((pairs x.list).map canC).length) (by omega) (cVs_last hzl) one38) ?_
            refine JL.go ⟨_, rfl, rfl⟩ (RX.cne rfl rfl) ?_
            refine JL.go trivial (RX.pick_f rfl rfl) ?_
            refine JL.nil ?_
            refine J.cond_f rfl (by first | rfl | decide) ?_
            refine J.skip ?_
            refine J.inBlock ?_
            refine J.region ?_
            refine JL.go trivial (RX.add rfl rfl (w_i64 rfl (by omega) (by omega))) ?_
            refine JL.go trivial (RX.movev (v := Value.int _ _) rfl) ?_
            refine JL.nil ?_
            exact IH (i + 1, p, cp, s, q3, qc3, qs3) _ _ (by simp only; omega) ⟨rfl, rfl, rfl, trivial⟩ ⟨rfl, rfl, trivial⟩ ⟨by simp only; omega, ho, ho3, (H.drop.drop.drop.drop.pull 2 rfl).drop⟩
      · skip
        refine JO.go (listed' := [true, false, true, true, false, false, false, false, false, false, false, false, false, false, false, false, false, false, false, false, false, false]) rfl rfl trivial (RX.b2s (l := (tot (l.take (i + 1)))) H rfl (by first | exact ho3.slAt.cons.cons.cons.cons.cons | exact ho3.slAt.cons.cons.cons.cons.cons.cons) sl26 ud5 ud9) ?_
        refine JA.all [1] (by kernel_rfl) (by decide) ?_
        refine JO.go (listed' := [true, true, true, true, false, false, false, false, false, false, false, false, false, false, false, false, false, false, false, false, false, false]) rfl rfl trivial (RX.b2s (l := (tot (l.take (i + 1)))) H rfl (by first | exact hot.slAt | exact hot.slAt.cons.cons.cons) sl26 ud5 ud9) ?_
        refine JA.take 4 (listed' := [true, true, true, true, true, false, false, false, false, false, false, false, false, false, false, false, false, false, false, false, false, false]) rfl (by kernel_rfl) (by kernel_rfl) (by kernel_rfl) rfl trivial (fun w => RX.str_neq rfl rfl) ?_
        refine JA.take 5 (listed' := [true, true, true, true, true, true, false, false, false, false, false, false, false, false, false, false, false, false, false, false, false, false]) rfl (by kernel_rfl) (by kernel_rfl) (by kernel_rfl) rfl trivial (fun w => RX.movev (v := Value.bool _) rfl) ?_
        refine JA.take 6 (listed' := [true, true, true, true, true, true, true, false, false, false, false, false, false, false, false, false, false, false, false, false, false, false]) rfl (by kernel_rfl) (by kernel_rfl) (by kernel_rfl) rfl ⟨_, rfl, (decide_eq_false (fun h => h rfl))⟩ (fun w => RX.movev (v := Value.pointer _) rfl) ?_
        refine JA.take 9 (listed' := [true, true, true, true, true, true, true, false, false, true, false, false, false, false, false, false, false, false, false, false, false, false]) rfl (by kernel_rfl) (by kernel_rfl) (by kernel_rfl) rfl ⟨_, rfl, (decide_eq_false (fun h => h rfl))⟩ (fun w => RX.movev (v := Value.slice _ _ _) rfl) ?_
        refine JA.all [7, 10] (by kernel_rfl) (by decide) ?_
        refine ⟨?_, ?_⟩
        · skip
          replace H := (H.pull 2 rfl).pull 2 rfl
          refine JO.does (listed' := [true, true, true, true, true, true, true, true, false, true, false, false, false, false, false, false, false, false, false, false, false, false]) rfl rfl ⟨_, rfl, (decide_eq_false (fun h => h rfl))⟩ (EX.call rfl cl12 rfl ((out_w H ho (by omega)))) ?_
          rintro _ w ⟨p5, c5, s5, rfl, hof, H⟩
          refine JA.all [8, 10] (by kernel_rfl) (by decide) ?_
          refine ⟨?_, ?_⟩
          · skip
            refine JO.go (listed' := [true, true, true, true, true, true, true, true, true, true, false, false, false, false, false, false, false, false, false, false, false, false]) rfl rfl ⟨_, rfl, (decide_eq_false (fun h => h rfl))⟩ (RX.b2s (l := (tot (l.take (i + 1)))) H rfl hof.slAt sl26 ud5 ud9) ?_
            refine JA.all [10] (by kernel_rfl) (by decide) ?_
            refine JO.go (listed' := [true, true, true, true, true, true, true, true, true, true, true, false, false, false, false, false, false, false, false, false, false, false]) rfl rfl ⟨_, rfl, (decide_eq_false (fun h => h rfl))⟩ (RX.b2s (l := (tot (l.take (i + 1)))) H rfl (by first | exact ho3.slAt.cons.cons.cons.cons.cons | exact ho3.slAt.cons.cons.cons.cons.cons.cons) sl26 ud5 ud9) ?_
            refine JA.take 11 (listed' := [true, true, true, true, true, true, true, true, true, true, true, true, false, false, false, false, false, false, false, false, false, false]) rfl (by kernel_rfl) (by kernel_rfl) (by kernel_rfl) rfl ⟨_, rfl, (decide_eq_false (fun h => h rfl))⟩ (fun w => RX.str_neq rfl rfl) ?_
            refine JA.take 12 (listed' := [true, true, true, true, true, true, true, true, true, true, true, true, true, false, false, false, false, false, false, false, false, false]) rfl (by kernel_rfl) (by kernel_rfl) (by kernel_rfl) rfl trivial (fun w => RX.pick_f rfl (decide_eq_false (fun h => h rfl))) ?_
            refine JA.take 13 (listed' := [true, true, true, true, true, true, true, true, true, true, true, true, true, true, false, false, false, false, false, false, false, false]) rfl (by kernel_rfl) (by kernel_rfl) (by kernel_rfl) rfl trivial (fun w => RX.movev (v := Value.bool _) rfl) ?_
            refine JA.take 14 (listed' := [true, true, true, true, true, true, true, true, true, true, true, true, true, true, true, false, false, false, false, false, false, false]) rfl (by kernel_rfl) (by kernel_rfl) (by kernel_rfl) rfl ⟨_, rfl, (decide_eq_false (fun h => h rfl))⟩ (fun w => RX.movev (v := Value.slice _ _ _) rfl) ?_
            refine JA.take 15 (listed' := [true, true, true, true, true, true, true, true, true, true, true, true, true, true, true, true, false, false, false, false, false, false]) rfl (by kernel_rfl) (by kernel_rfl) (by kernel_rfl) rfl ⟨_, rfl, (decide_eq_false (fun h => h rfl))⟩ (fun w => RX.movev (v := Value.slice _ _ _) rfl) ?_
            refine JA.take 16 (listed' := [true, true, true, true, true, true, true, true, true, true, true, true, true, true, true, true, true, false, false, false, false, false]) rfl (by kernel_rfl) (by kernel_rfl) (by kernel_rfl) rfl ⟨_, rfl, (decide_eq_false (fun h => h rfl))⟩ (fun w => RX.len_slice rfl (by rw [sl26]; rfl) rfl) ?_
            refine JA.take 17 (listed' := [true, true, true, true, true, true, true, true, true, true, true, true, true, true, true, true, true, true, false, false, false, false]) rfl (by kernel_rfl) (by kernel_rfl) (by kernel_rfl) rfl ⟨_, rfl, (decide_eq_false (fun h => h rfl))⟩ (fun w => RX.sub rfl rfl (w_i64 (r := ((tot (l.take (i + 1))).length : Int)) (by omega) (by omega) (by omega))) ?_
            refine JA.take 18 (listed' := [true, true, true, true, true, true, true, true, true, true, true, true, true, true, true, true, true, true, true, false, false, false]) rfl (by kernel_rfl) (by kernel_rfl) (by kernel_rfl) rfl ⟨_, rfl, (decide_eq_false (fun h => h rfl))⟩ (fun w => RX.indexAddr rfl rfl sl26 (by omega) (by omega) rfl) ?_
            refine JA.all [19] (by kernel_rfl) (by decide) ?_
            refine JO.go (listed' := [true, true, true, true, true, true, true, true, true, true, true, true, true, true, true, true, true, true, true, true, false, false]) rfl rfl ⟨_, rfl, (decide_eq_false (fun h => h rfl))⟩ (RX.loadS H (by first | exact ho9.slAt.cons.cons.cons.cons | exact ho9.slAt.cons.cons.cons) rfl (j := (tot (l.take (i + 1))).length) (by omega) (bv_last hyl) one5) ?_
            refine JA.take 20 (listed' := [true, true, true, true, true, true, true, true, true, true, true, true, true, true, true, true, true, true, true, true, true, false]) rfl (by kernel_rfl) (by kernel_rfl) (by kernel_rfl) rfl ⟨_, rfl, (decide_eq_false (fun h => h rfl))⟩ (fun w => RX.ne rfl rfl) ?_
            refine JA.take 21 (listed' := [true, true, true, true, true, true, true, true, true, true, true, true, true, true, true, true, true, true, true, true, true, true]) rfl (by kernel_rfl) (by kernel_rfl) (by kernel_rfl) rfl trivial (fun w => RX.pick_f rfl (decide_eq_false (fun h => h rfl))) ?_
            refine JA.done (by kernel_rfl) ?_
            refine J.cond_f rfl (by first | rfl | exact decide_eq_false (fun h => h rfl)) ?_
            refine J.skip ?_
            refine J.seq ?_
            replace H := ((H.drop.pull 2 rfl).drop.pull 2 rfl).drop
            refine J.region ?_
            refine JL.go trivial (RX.loadAgg H rfl (i := 2) (vs := x.cells) rfl rfl ag30) ?_
            refine JL.does trivial (EX.call rfl cl13 rfl ((listOf_b H hx.cons.cons.cons.cons))) ?_
            rintro _ w ⟨lp, lc, ls, rfl, hol, H⟩
            have hpl := pairs_len x.list
            have hsm : (pairs x.list).length ≤ 1048576 := pairs_small hx
            have hpk : ∀ q ∈ (pairs x.list), u64ok q.1 ∧ u64ok q.2 := pairs_ok hx
            refine JL.go trivial (RX.assignv (v := Value.slice _ _ _) rfl) ?_
            refine JL.nil ?_
            refine J.seq ?_
            refine J.region ?_
            refine JL.does trivial (EX.call rfl cl9 rfl ((new_w H))) ?_
            rintro _ w ⟨bx, rfl, H⟩
            replace H := (H.nil).pull 1 rfl
            refine JL.go trivial (RX.assignv (v := Value.pointer _) rfl) ?_
            refine JL.nil ?_
            refine J.seq ?_
            refine J.seq ?_
            refine J.region ?_
            refine JL.go trivial (RX.movev (v := Value.pointer _) rfl) ?_
            refine JL.go trivial (RX.ptrnil_eql rfl rfl pn24) ?_
            refine JL.nil ?_
            refine J.cond_f rfl rfl ?_
            refine J.skip ?_
            refine J.seq ?_
            refine J.region ?_
            refine JL.does trivial (EX.buildSlice0 H elC) ?_
            rintro _ w ⟨b10, rfl, H⟩
            refine JL.go trivial (RX.movev (v := Value.slice _ _ _) rfl) ?_
            refine JL.does trivial (EX.append (ys := cVs (pairs x.list)) (L' := fun s' => s' :: [(bx, cel [.slice none 0 0] 86)] :: [] :: ls :: [(b, cel [.slice p (tot (l.take (i + 1))).length cp] 86)] :: s :: [(b6, cel x.cells 30)] :: qs3 :: F) H elC rfl rfl (i := 0) rfl OwnSl.empty hol.slAt.cons.cons.cons (by simp [cVs_len]) (cVs_cell _) (by decide) (by omega) (by omega) (fun _ => rfl)) ?_
            rintro v w ⟨p11, c11, s11, hv, ho11, H⟩
            rw [Nat.zero_add] at hv ho11
            rw [List.nil_append] at ho11
            subst hv
            refine JL.does trivial (EX.buildSlice1 H elC rfl rfl) ?_
            rintro _ w ⟨b12, rfl, H⟩
            refine JL.does trivial (EX.append (ys := cVs [(4619567317775286272, 0)]) (L' := fun s' => [(b12, cel (cVs [(4619567317775286272, 0)]) 38)] :: s' :: [(bx, cel [.slice none 0 0] 86)] :: [] :: ls :: [(b, cel [.slice p (tot (l.take (i + 1))).length cp] 86)] :: s :: [(b6, cel x.cells 30)] :: qs3 :: F) H elC rfl rfl (i := 1) rfl ho11 (SlAt.here rfl) rfl (cVs_cell _) (by decide) (by omega) (by omega) (fun _ => rfl)) ?_
            rintro _ w ⟨rmp, rmc, rms, rfl, hrm, H⟩
            rw [← cVs_app] at hrm
            replace H := H.drop
            have hrl := hrm.le
            obtain ⟨pbr, por, rfl, _⟩ := (hrm.slAt (L := [])).some (by rw [cVs_len, List.length_append, List.length_singleton]; omega)
            have hmr : ∀ L, SlAt (rms :: L) (some ⟨pbr, por, none⟩) (cVs (pairs x.list)) := fun L => (show SlAt (rms :: L) _ (cVs (pairs x.list) ++ cVs [(4619567317775286272, 0)]) by rw [← cVs_app]; exact hrm.slAt).pre
            refine JL.go trivial (RX.assignv (v := Value.slice _ _ _) rfl) ?_
            refine JL.nil ?_
            refine J.seq ?_
            refine J.region ?_
            refine JL.go trivial (RX.movev (v := Value.pointer _) rfl) ?_
            refine JL.go trivial (RX.movev (v := Value.slice _ _ _) rfl) ?_
            refine JL.go trivial (RX.movev (v := Value.slice _ _ _) rfl) ?_
            refine JL.go trivial (RX.len_slice rfl (by rw [sl36]; rfl) rfl) ?_
            refine JL.go trivial (RX.slice_h rfl rfl sl36 hrm.spot (by omega) (by omega) rfl) ?_
            replace H := (H.pull 2 rfl).pull 2 rfl
            refine JL.does trivial (EX.call rfl cl14 rfl ((List_c (xs := []) ⟨none, 0, [], OwnSl.nil, H⟩ (hE.cons.cons.cons.cons.cons.cons.at_ 3 (by decide) (by decide)) (hmr _) hpk (by omega) (by simp only [List.length_nil]; omega)))) ?_
            rintro _ w h
            simp only [if_pos hsm] at h
            obtain ⟨rfl, px, cx, sx, hox, H⟩ := h
            rw [List.nil_append] at hox H
            rw [show varint (pairs x.list).length ++ ((pairs x.list).map cB).flatten = clB (pairs x.list) from rfl] at hox H
            have hcl : (clB (pairs x.list)).length ≤ 33554432 := clB_bound hsm
            refine JL.go trivial (RX.assign) ?_
            refine JL.nil ?_
            refine J.seq ?_
            refine J.seq ?_
            refine J.region ?_
            refine JL.go trivial (RX.move) ?_
            refine JL.go trivial (RX.ifnil_neq rfl rfl rfl if40) ?_
            refine JL.nil ?_
            refine J.cond_f rfl rfl ?_
            refine J.skip ?_
            refine J.seq ?_
            refine J.region ?_
            refine JL.go trivial (RX.movev (v := Value.pointer _) rfl) ?_
            refine JL.does trivial (EX.call rfl cl12 rfl ((out_w H hox (by omega)))) ?_
            rintro _ w ⟨p13, c13, s13, rfl, ho13, H⟩
            refine JL.does trivial (EX.call rfl cl15 rfl ((read_r H ho13.slAt (by omega)))) ?_
            rintro _ w ⟨rb1, rp1, rc1, rs1, rfl, hor1, H⟩
            replace H := (((H.pull 2 rfl).drop).pull 3 rfl).pull 3 rfl
            refine JL.go trivial (RX.movev (v := Value.pointer _) rfl) ?_
            refine JL.does trivial (EX.call rfl cl12 rfl ((out_w H hox (by omega)))) ?_
            rintro _ w ⟨p14, c14, s14, rfl, ho14, H⟩
            refine JL.does trivial (EX.call rfl cl15 rfl ((read_r H ho14.slAt (by omega)))) ?_
            rintro _ w ⟨rb2, rp2, rc2, rs2, rfl, hor2, H⟩
            replace H := ((((H.pull 2 rfl).drop).pull 2 rfl).drop.pull 2 rfl).drop
            refine JL.go trivial (RX.assignv (v := Value.pointer _) rfl) ?_
            refine JL.go trivial (RX.assignv (v := Value.pointer _) rfl) ?_
            refine JL.nil ?_
            refine J.seq ?_
            refine J.seq ?_
            refine J.region ?_
            refine JL.go trivial (RX.movev (v := Value.pointer _) rfl) ?_
            refine JL.go trivial (RX.ptrnil_eql rfl rfl pn42) ?_
            refine JL.go trivial (RX.movev (v := Value.bool _) rfl) ?_
            refine JL.go ⟨_, rfl, rfl⟩ (RX.movev (v := Value.pointer _) rfl) ?_
            refine JL.go ⟨_, rfl, rfl⟩ (RX.ptrnil_eql rfl rfl pn42) ?_
            refine JL.go trivial (RX.pick_f rfl rfl) ?_
            refine JL.go trivial (RX.movev (v := Value.bool _) rfl) ?_
            refine JL.go ⟨_, rfl, rfl⟩ (RX.movev (v := Value.slice _ _ _) rfl) ?_
            refine JL.go ⟨_, rfl, rfl⟩ (RX.movev (v := Value.slice _ _ _) rfl) ?_
            refine JL.go ⟨_, rfl, rfl⟩ (RX.len_slice rfl (by rw [sl36]; rfl) rfl) ?_
            refine JL.go ⟨_, rfl, rfl⟩ (RX.slice_h rfl rfl sl36 hrm.spot (by omega) (by omega) rfl) ?_
            refine JL.go ⟨_, rfl, rfl⟩ (RX.movev (v := Value.slice _ _ _) rfl) ?_
            refine JL.does ⟨_, rfl, rfl⟩ (EX.call rfl cl16 rfl ((sameList_t H (hmr _).cons.cons.cons.cons hol.slAt.cons.cons.cons.cons.cons hpk hpk rfl (by omega) (fun i q r hq hr => by rw [hq] at hr; cases hr; exact ⟨rfl, rfl⟩)))) ?_
            rintro _ w ⟨rfl, H⟩
            refine JL.go ⟨_, rfl, rfl⟩ (RX.not rfl) ?_
            refine JL.go trivial (RX.pick_f rfl rfl) ?_
            refine JL.go trivial (RX.movev (v := Value.bool _) rfl) ?_
            refine JL.go ⟨_, rfl, rfl⟩ (RX.movev (v := Value.slice _ _ _) rfl) ?_
            refine JL.go ⟨_, rfl, rfl⟩ (RX.movev (v := Value.slice _ _ _) rfl) ?_
            refine JL.go ⟨_, rfl, rfl⟩ (RX.len_slice rfl (by rw [sl36]; rfl) rfl) ?_
            refine JL.go ⟨_, rfl, rfl⟩ (RX.indexAddr rfl rfl sl36 (by omega) (by omega) rfl) ?_
            refine JL.go ⟨_, rfl, rfl⟩ (RX.loadS H hrm.slAt.cons.cons.cons.cons rfl (j := (pairs x.list).length) (by omega) (cVs_last rfl) one38) ?_
            refine JL.go ⟨_, rfl, rfl⟩ (RX.cne rfl rfl) ?_
            refine JL.go trivial (RX.pick_f rfl rfl) ?_
            refine JL.nil ?_
            refine J.cond_f rfl (by first | rfl | decide) ?_
            refine J.skip ?_
            refine J.seq ?_
            refine J.region ?_
            refine JL.go trivial (RX.movev (v := Value.pointer _) rfl) ?_
            replace H := (H.pull 3 rfl).pull 3 rfl
            have hS := rCos_all hsm hpk
            refine JL.does trivial (EX.call rfl cl17 rfl ((rList_c (at_ := 0) H hor1 (by omega) (by omega) hE.cons.cons.cons.cons.cons.cons.cons.cons))) ?_
            rintro _ w ⟨pp, pc, ps, hv, hop, H⟩
            rw [hS] at hv hop H
            simp only [Rs.val_ok, Rs.k_ok, Rs.code_ok, Rs.val_err, Rs.k_err, Rs.code_err] at hv hop H
            subst hv
            replace H := ((H.pull 1 rfl).drop.pull 1 rfl).drop
            refine JL.go trivial (RX.movev (v := Value.tuple _) rfl) ?_
            refine JL.go trivial (RX.extract rfl rfl) ?_
            refine JL.go trivial (RX.extract (v := errV E 0) rfl rfl) ?_
            refine JL.go trivial (RX.assignv (v := Value.slice _ _ _) rfl) ?_
            refine JL.go trivial (RX.assignv (v := errV E 0) rfl) ?_
            refine JL.nil ?_
            refine J.seq ?_
            refine J.region ?_
            refine JL.go trivial (RX.movev (v := Value.pointer _) rfl) ?_
            replace H := (H.pull 2 rfl).pull 2 rfl
            refine JL.does trivial (EX.call rfl cl17 rfl ((rList_c (at_ := 0) H hor2 (by omega) (by omega) hE.cons.cons.cons.cons.cons.cons.cons))) ?_
            rintro _ w ⟨fp, fc, fs, hv, hof2, H⟩
            rw [hS] at hv hof2 H
            simp only [Rs.val_ok, Rs.k_ok, Rs.code_ok, Rs.val_err, Rs.k_err, Rs.code_err] at hv hof2 H
            subst hv
            replace H := ((H.pull 1 rfl).drop.pull 1 rfl).drop
            have hml : ((pairs x.list).map canC).length = (pairs x.list).length := List.length_map _
            refine JL.go trivial (RX.movev (v := Value.tuple _) rfl) ?_
            refine JL.go trivial (RX.extract rfl rfl) ?_
            refine JL.go trivial (RX.extract (v := errV E 0) rfl rfl) ?_
            refine JL.go trivial (RX.assignv (v := Value.slice _ _ _) rfl) ?_
            refine JL.go trivial (RX.assignv (v := errV E 0) rfl) ?_
            refine JL.nil ?_
            refine J.seq ?_
            refine J.seq ?_
            refine J.region ?_
            refine JL.go trivial (RX.movev (v := Value.slice _ _ _) rfl) ?_
            refine JL.go trivial (RX.len_slice rfl (by rw [sl36]; rfl) rfl) ?_
            refine JL.go trivial (RX.move) ?_
            refine JL.nil ?_
            refine J.block ?_
            refine J.loop (ι := Nat × List (Nat × Nat) × Seg) (S := fun q => [(146, .int .i64 (q.1 : Nat))]) (Φ := fun q w => q.1 ≤ ((pairs x.list).map canC).length ∧ q.2.1.length = ((pairs x.list).map canC).length ∧ OwnSl 38 1 pp ((pairs x.list).map canC).length pc (cVs q.2.1) q.2.2 ∧ Hp w0 w (fs :: q.2.2 :: rms :: ls :: [(b, cel [.slice p (tot (l.take (i + 1))).length cp] 86)] :: s :: [(b6, cel x.cells 30)] :: qs3 :: F)) (μ := fun q => ((pairs x.list).map canC).length - q.1) (C := [(3, _), (4, _), (12, _), (18, _), (20, _), (29, _), (30, _), (31, _), (145, _)]) (0, (pairs x.list).map canC, ps) ⟨rfl, rfl, rfl, rfl, rfl, rfl, rfl, rfl, rfl, trivial⟩ ⟨rfl, trivial⟩ ?_ ?_
            · exact ⟨by omega, rfl, hop, H⟩
            clear H hop
            rintro ⟨k2, zs, ps⟩ ρ w ⟨hk2, hzl, hop, H⟩ IH3
            simp only at hk2 hzl hop H
            dsimp only
            refine J.seq ?_
            refine J.region ?_
            refine JL.go trivial (RX.lt rfl rfl) ?_
            refine JL.nil ?_
            refine J.seq ?_
            refine J.cond_d rfl (fun hlt3 => ?_) (fun hlt3 => ?_)
            · skip
              obtain ⟨gb2, l2, rfl, rfl, hll2⟩ := hop.ptr (by omega)
              have hllen2 : k2 < l2.length := by have := hll2.2.1; have := hll2.1; omega
              refine J.skip ?_
              refine J.seq ?_
              refine J.block ?_
              refine J.seq ?_
              refine J.region ?_
              refine JL.go trivial (RX.movev (v := Value.int _ _) rfl) ?_
              refine JL.go trivial (RX.assignv (v := Value.int _ _) rfl) ?_
              refine JL.nil ?_
              refine J.region ?_
              refine JL.go trivial (RX.movev (v := Value.slice _ _ _) rfl) ?_
              refine JL.go trivial (RX.movev (v := Value.int _ _) rfl) ?_
              refine JL.go trivial (RX.indexAddr rfl rfl sl36 (by omega) (by omega) rfl) ?_
              refine JL.does trivial (EX.store (v := Value.complex _ _ _) H rfl rfl (i := 1) rfl rfl (by omega) sz38 rfl rfl) ?_
              rintro _ w H
              refine JL.nil ?_
              refine J.inBlock ?_
              refine J.region ?_
              refine JL.go trivial (RX.add rfl rfl (w_i64 rfl (by omega) (by omega))) ?_
              refine JL.go trivial (RX.movev (v := Value.int _ _) rfl) ?_
              refine JL.nil ?_
              exact IH3 (k2 + 1, zs.set k2 (4617315517961601024, 0), _) _ _ (by simp only; omega) ⟨rfl, rfl, rfl, rfl, rfl, rfl, rfl, rfl, rfl, trivial⟩ ⟨rfl, trivial⟩ ⟨by simp only; omega, by simp [hzl], by rw [← cVs_set]; exact hop.set, by simpa [cV] using H⟩
            · skip
              refine J.exit rfl ?_
              refine J.seq ?_
              refine J.region ?_
              refine JL.go trivial (RX.movev (v := Value.slice _ _ _) rfl) ?_
              refine JL.does trivial (EX.buildSlice1 H elC rfl rfl) ?_
              rintro _ w ⟨b15, rfl, H⟩
              refine JL.does trivial (EX.append (ys := cVs [(4618441417868443648, 0)]) (L' := fun s' => [(b15, cel (cVs [(4618441417868443648, 0)]) 38)] :: fs :: s' :: rms :: ls :: [(b, cel [.slice p (tot (l.take (i + 1))).length cp] 86)] :: s :: [(b6, cel x.cells 30)] :: qs3 :: F) H elC rfl rfl (i := 2) rfl hop (SlAt.here rfl) rfl (cVs_cell _) (by decide) (by omega) (by omega) (fun _ => rfl)) ?_
              rintro _ w ⟨p16, c16, s16, rfl, ho16, H⟩
              rw [← cVs_app] at ho16
              replace H := H.drop
              obtain ⟨pb16, po16, rfl, _⟩ := (ho16.slAt (L := [])).some (by rw [cVs_len, List.length_append, List.length_singleton]; omega)
              refine JL.go trivial (RX.assignv (v := Value.slice _ _ _) rfl) ?_
              refine JL.nil ?_
              refine J.seq ?_
              refine J.region ?_
              refine JL.go trivial (RX.movev (v := Value.slice _ _ _) rfl) ?_
              refine JL.go trivial (RX.movev (v := Value.slice _ _ _) rfl) ?_
              refine JL.does trivial (EX.call rfl cl16 rfl ((sameList_t H hof2.slAt hol.slAt.cons.cons.cons (fun q hq => (by obtain ⟨r, hr, rfl⟩ := List.mem_map.1 hq; exact canC_ok (hpk r hr))) hpk (by simp) (by simp; omega) (fun i q r hq hr => by rw [List.getElem?_map, hr] at hq; cases hq; exact canC_eq _)))) ?_
              rintro _ w ⟨rfl, H⟩
              refine JL.go trivial (RX.not rfl) ?_
              refine JL.go trivial (RX.movev (v := Value.bool _) rfl) ?_
              refine JL.go ⟨_, rfl, rfl⟩ (RX.movev (v := Value.slice _ _ _) rfl) ?_
              refine JL.go ⟨_, rfl, rfl⟩ (RX.movev (v := Value.slice _ _ _) rfl) ?_
              refine JL.go ⟨_, rfl, rfl⟩ (RX.len_slice rfl (by rw [sl36]; rfl) rfl) ?_
              refine JL.go ⟨_, rfl, rfl⟩ (RX.sub rfl rfl (w_i64 (r := (((pairs x.list).map canC).length : Int)) (by omega) (by omega) (by omega))) ?_
              refine JL.go ⟨_, rfl, rfl⟩ (RX.indexAddr rfl rfl sl36 (by omega) (by omega) rfl) ?_
              refine JL.go ⟨_, rfl, rfl⟩ (RX.loadS H ho16.slAt.cons rfl (j := ((pairs x.list).map canC).length) (by omega) (cVs_last hzl) one38) ?_
              refine JL.go ⟨_, rfl, rfl⟩ (RX.cne rfl rfl) ?_
              refine JL.go trivial (RX.pick_f rfl rfl) ?_
              refine JL.nil ?_
              refine J.cond_f rfl (by first | rfl | decide) ?_
              refine J.skip ?_
              refine J.inBlock ?_
              refine J.region ?_
              refine JL.go trivial (RX.add rfl rfl (w_i64 rfl (by omega) (by omega))) ?_
              refine JL.go trivial (RX.movev (v := Value.int _ _) rfl) ?_
              refine JL.nil ?_
              exact IH (i + 1, p, cp, s, q3, qc3, qs3) _ _ (by simp only; omega) ⟨rfl, rfl, rfl, trivial⟩ ⟨rfl, rfl, trivial⟩ ⟨by simp only; omega, ho, ho3, (H.drop.drop.drop.drop.pull 2 rfl).drop⟩
          · skip
            refine JO.go (listed' := [true, true, true, true, true, true, true, true, false, true, true, false, false, false, false, false, false, false, false, false, false, false]) rfl rfl ⟨_, rfl, (decide_eq_false (fun h => h rfl))⟩ (RX.b2s (l := (tot (l.take (i + 1)))) H rfl (by first | exact ho3.slAt.cons.cons.cons.cons.cons | exact ho3.slAt.cons.cons.cons.cons.cons.cons) sl26 ud5 ud9) ?_
            refine JA.all [8] (by kernel_rfl) (by decide) ?_
            refine JO.go (listed' := [true, true, true, true, true, true, true, true, true, true, true, false, false, false, false, false, false, false, false, false, false, false]) rfl rfl ⟨_, rfl, (decide_eq_false (fun h => h rfl))⟩ (RX.b2s (l := (tot (l.take (i + 1)))) H rfl hof.slAt sl26 ud5 ud9) ?_
            refine JA.take 11 (listed' := [true, true, true, true, true, true, true, true, true, true, true, true, false, false, false, false, false, false, false, false, false, false]) rfl (by kernel_rfl) (by kernel_rfl) (by kernel_rfl) rfl ⟨_, rfl, (decide_eq_false (fun h => h rfl))⟩ (fun w => RX.str_neq rfl rfl) ?_
            refine JA.take 12 (listed' := [true, true, true, true, true, true, true, true, true, true, true, true, true, false, false, false, false, false, false, false, false, false]) rfl (by kernel_rfl) (by kernel_rfl) (by kernel_rfl) rfl trivial (fun w => RX.pick_f rfl (decide_eq_false (fun h => h rfl))) ?_
            refine JA.take 13 (listed' := [true, true, true, true, true, true, true, true, true, true, true, true, true, true, false, false, false, false, false, false, false, false]) rfl (by kernel_rfl) (by kernel_rfl) (by kernel_rfl) rfl trivial (fun w => RX.movev (v := Value.bool _) rfl) ?_
            refine JA.take 14 (listed' := [true, true, true, true, true, true, true, true, true, true, true, true, true, true, true, false, false, false, false, false, false, false]) rfl (by kernel_rfl) (by kernel_rfl) (by kernel_rfl) rfl ⟨_, rfl, (decide_eq_false (fun h => h rfl))⟩ (fun w => RX.movev (v := Value.slice _ _ _) rfl) ?_
            refine JA.take 15 (listed' := [true, true, true, true, true, true, true, true, true, true, true, true, true, true, true, true, false, false, false, false, false, false]) rfl (by kernel_rfl) (by kernel_rfl) (by kernel_rfl) rfl ⟨_, rfl, (decide_eq_false (fun h => h rfl))⟩ (fun w => RX.movev (v := Value.slice _ _ _) rfl) ?_
            refine JA.take 16 (listed' := [true, true, true, true, true, true, true, true, true, true, true, true, true, true, true, true, true, false, false, false, false, false]) rfl (by kernel_rfl) (by kernel_rfl) (by kernel_rfl) rfl ⟨_, rfl, (decide_eq_false (fun h => h rfl))⟩ (fun w => RX.len_slice rfl (by rw [sl26]; rfl) rfl) ?_
            refine JA.take 17 (listed' := [true, true, true, true, true, true, true, true, true, true, true, true, true, true, true, true, true, true, false, false, false, false]) rfl (by kernel_rfl) (by kernel_rfl) (by kernel_rfl) rfl ⟨_, rfl, (decide_eq_false (fun h => h rfl))⟩ (fun w => RX.sub rfl rfl (w_i64 (r := ((tot (l.take (i + 1))).length : Int)) (by omega) (by omega) (by omega))) ?_
            refine JA.take 18 (listed' := [true, true, true, true, true, true, true, true, true, true, true, true, true, true, true, true, true, true, true, false, false, false]) rfl (by kernel_rfl) (by kernel_rfl) (by kernel_rfl) rfl ⟨_, rfl, (decide_eq_false (fun h => h rfl))⟩ (fun w => RX.indexAddr rfl rfl sl26 (by omega) (by omega) rfl) ?_
            refine JA.all [19] (by kernel_rfl) (by decide) ?_
            refine JO.go (listed' := [true, true, true, true, true, true, true, true, true, true, true, true, true, true, true, true, true, true, true, true, false, false]) rfl rfl ⟨_, rfl, (decide_eq_false (fun h => h rfl))⟩ (RX.loadS H (by first | exact ho9.slAt.cons.cons.cons.cons | exact ho9.slAt.cons.cons.cons) rfl (j := (tot (l.take (i + 1))).length) (by omega) (bv_last hyl) one5) ?_
            refine JA.take 20 (listed' := [true, true, true, true, true, true, true, true, true, true, true, true, true, true, true, true, true, true, true, true, true, false]) rfl (by kernel_rfl) (by kernel_rfl) (by kernel_rfl) rfl ⟨_, rfl, (decide_eq_false (fun h => h rfl))⟩ (fun w => RX.ne rfl rfl) ?_
            refine JA.take 21 (listed' := [true, true, true, true, true, true, true, true, true, true, true, true, true, true, true, true, true, true, true, true, true, true]) rfl (by kernel_rfl) (by kernel_rfl) (by kernel_rfl) rfl trivial (fun w => RX.pick_f rfl (decide_eq_false (fun h => h rfl))) ?_
            refine JA.done (by kernel_rfl) ?_
            refine J.cond_f rfl (by first | rfl | exact decide_eq_false (fun h => h rfl)) ?_
            refine J.skip ?_
            refine J.seq ?_
            replace H := ((H.drop.pull 2 rfl).drop.pull 2 rfl).drop
            refine J.region ?_
            refine JL.go trivial (RX.loadAgg H rfl (i := 2) (vs := x.cells) rfl rfl ag30) ?_
            refine JL.does trivial (EX.call rfl cl13 rfl ((listOf_b H hx.cons.cons.cons.cons))) ?_
            rintro _ w ⟨lp, lc, ls, rfl, hol, H⟩
            have hpl := pairs_len x.list
            have hsm : (pairs x.list).length ≤ 1048576 := pairs_small hx
            have hpk : ∀ q ∈ (pairs x.list), u64ok q.1 ∧ u64ok q.2 := pairs_ok hx
            refine JL.go trivial (RX.assignv (v := Value.slice _ _ _) rfl) ?_
            refine JL.nil ?_
            refine J.seq ?_
            refine J.region ?_
            refine JL.does trivial (EX.call rfl cl9 rfl ((new_w H))) ?_
            rintro _ w ⟨bx, rfl, H⟩
            replace H := (H.nil).pull 1 rfl
            refine JL.go trivial (RX.assignv (v := Value.pointer _) rfl) ?_
            refine JL.nil ?_
            refine J.seq ?_
            refine J.seq ?_
            refine J.region ?_
            refine JL.go trivial (RX.movev (v := Value.pointer _) rfl) ?_
            refine JL.go trivial (RX.ptrnil_eql rfl rfl pn24) ?_
            refine JL.nil ?_
            refine J.cond_f rfl rfl ?_
            refine J.skip ?_
            refine J.seq ?_
            refine J.region ?_
            refine JL.does trivial (EX.buildSlice0 H elC) ?_
            rintro _ w ⟨b10, rfl, H⟩
            refine JL.go trivial (RX.movev (v := Value.slice _ _ _) rfl) ?_
            refine JL.does trivial (EX.append (ys := cVs (pairs x.list)) (L' := fun s' => s' :: [(bx, cel [.slice none 0 0] 86)] :: [] :: ls :: [(b, cel [.slice p (tot (l.take (i + 1))).length cp] 86)] :: s :: [(b6, cel x.cells 30)] :: qs3 :: F) H elC rfl rfl (i := 0) rfl OwnSl.empty hol.slAt.cons.cons.cons (by simp [cVs_len]) (cVs_cell _) (by decide) (by omega) (by omega) (fun _ => rfl)) ?_
            rintro v w ⟨p11, c11, s11, hv, ho11, H⟩
            rw [Nat.zero_add] at hv ho11
            rw [List.nil_append] at ho11
            subst hv
            refine JL.does trivial (EX.buildSlice1 H elC rfl rfl) ?_
            rintro _ w ⟨b12, rfl, H⟩
            refine JL.does trivial (EX.append (ys := cVs [(4619567317775286272, 0)]) (L' := fun s' => [(b12, cel (cVs [(4619567317775286272, 0)]) 38)] :: s' :: [(bx, cel [.slice none 0 0] 86)] :: [] :: ls :: [(b, cel [.slice p (tot (l.take (i + 1))).length cp] 86)] :: s :: [(b6, cel x.cells 30)] :: qs3 :: F) H elC rfl rfl (i := 1) rfl ho11 (SlAt.here rfl) rfl (cVs_cell _) (by decide) (by omega) (by omega) (fun _ => rfl)) ?_
            rintro _ w ⟨rmp, rmc, rms, rfl, hrm, H⟩
            rw [← cVs_app] at hrm
            replace H := H.drop
            have hrl := hrm.le
            obtain ⟨pbr, por, rfl, _⟩ := (hrm.slAt (L := [])).some (by rw [cVs_len, List.length_append, List.length_singleton]; omega)
            have hmr : ∀ L, SlAt (rms :: L) (some ⟨pbr, por, none⟩) (cVs (pairs x.list)) := fun L => (show SlAt (rms :: L) _ (cVs (pairs x.list) ++ cVs [(4619567317775286272, 0)]) by rw [← cVs_app]; exact hrm.slAt).pre
            refine JL.go trivial (RX.assignv (v := Value.slice _ _ _) rfl) ?_
            refine JL.nil ?_
            refine J.seq ?_
            refine J.region ?_
            refine JL.go trivial (RX.movev (v := Value.pointer _) rfl) ?_
            refine JL.go trivial (RX.movev (v := Value.slice _ _ _) rfl) ?_
            refine JL.go trivial (RX.movev (v := Value.slice _ _ _) rfl) ?_
            refine JL.go trivial (RX.len_slice rfl (by rw [sl36]; rfl) rfl) ?_
            refine JL.go trivial (RX.slice_h rfl rfl sl36 hrm.spot (by omega) (by omega) rfl) ?_
            replace H := (H.pull 2 rfl).pull 2 rfl
            refine JL.does trivial (EX.call rfl cl14 rfl ((List_c (xs := []) ⟨none, 0, [], OwnSl.nil, H⟩ (hE.cons.cons.cons.cons.cons.cons.at_ 3 (by decide) (by decide)) (hmr _) hpk (by omega) (by simp only [List.length_nil]; omega)))) ?_
            rintro _ w h
            simp only [if_pos hsm] at h
            obtain ⟨rfl, px, cx, sx, hox, H⟩ := h
            rw [List.nil_append] at hox H
            rw [show varint (pairs x.list).length ++ ((pairs x.list).map cB).flatten = clB (pairs x.list) from rfl] at hox H
            have hcl : (clB (pairs x.list)).length ≤ 33554432 := clB_bound hsm
            refine JL.go trivial (RX.assign) ?_
            refine JL.nil ?_
            refine J.seq ?_
            refine J.seq ?_
            refine J.region ?_
            refine JL.go trivial (RX.move) ?_
            refine JL.go trivial (RX.ifnil_neq rfl rfl rfl if40) ?_
            refine JL.nil ?_
            refine J.cond_f rfl rfl ?_
            refine J.skip ?_
            refine J.seq ?_
            refine J.region ?_
            refine JL.go trivial (RX.movev (v := Value.pointer _) rfl) ?_
            refine JL.does trivial (EX.call rfl cl12 rfl ((out_w H hox (by omega)))) ?_
            rintro _ w ⟨p13, c13, s13, rfl, ho13, H⟩
            refine JL.does trivial (EX.call rfl cl15 rfl ((read_r H ho13.slAt (by omega)))) ?_
            rintro _ w ⟨rb1, rp1, rc1, rs1, rfl, hor1, H⟩
            replace H := (((H.pull 2 rfl).drop).pull 3 rfl).pull 3 rfl
            refine JL.go trivial (RX.movev (v := Value.pointer _) rfl) ?_
            refine JL.does trivial (EX.call rfl cl12 rfl ((out_w H hox (by omega)))) ?_
            rintro _ w ⟨p14, c14, s14, rfl, ho14, H⟩
            refine JL.does trivial (EX.call rfl cl15 rfl ((read_r H ho14.slAt (by omega)))) ?_
            rintro _ w ⟨rb2, rp2, rc2, rs2, rfl, hor2, H⟩
            replace H := ((((H.pull 2 rfl).drop).pull 2 rfl).drop.pull 2 rfl).drop
            refine JL.go trivial (RX.assignv (v := Value.pointer _) rfl) ?_
            refine JL.go trivial (RX.assignv (v := Value.pointer _) rfl) ?_
            refine JL.nil ?_
            refine J.seq ?_
            refine J.seq ?_
            refine J.region ?_
            refine JL.go trivial (RX.movev (v := Value.pointer _) rfl) ?_
            refine JL.go trivial (RX.ptrnil_eql rfl rfl pn42) ?_
            refine JL.go trivial (RX.movev (v := Value.bool _) rfl) ?_
            refine JL.go ⟨_, rfl, rfl⟩ (RX.movev (v := Value.pointer _) rfl) ?_
            refine JL.go ⟨_, rfl, rfl⟩ (RX.ptrnil_eql rfl rfl pn42) ?_
            refine JL.go trivial (RX.pick_f rfl rfl) ?_
            refine JL.go trivial (RX.movev (v := Value.bool _) rfl) ?_
            refine JL.go ⟨_, rfl, rfl⟩ (RX.movev (v := Value.slice _ _ _) rfl) ?_
            refine JL.go ⟨_, rfl, rfl⟩ (RX.movev (v := Value.slice _ _ _) rfl) ?_
            refine JL.go ⟨_, rfl, rfl⟩ (RX.len_slice rfl (by rw [sl36]; rfl) rfl) ?_
            refine JL.go ⟨_, rfl, rfl⟩ (RX.slice_h rfl rfl sl36 hrm.spot (by omega) (by omega) rfl) ?_
            refine JL.go ⟨_, rfl, rfl⟩ (RX.movev (v := Value.slice _ _ _) rfl) ?_
            refine JL.does ⟨_, rfl, rfl⟩ (EX.call rfl cl16 rfl ((sameList_t H (hmr _).cons.cons.cons.cons hol.slAt.cons.cons.cons.cons.cons hpk hpk rfl (by omega) (fun i q r hq hr => by rw [hq] at hr; cases hr; exact ⟨rfl, rfl⟩)))) ?_
            rintro _ w ⟨rfl, H⟩
            refine JL.go ⟨_, rfl, rfl⟩ (RX.not rfl) ?_
            refine JL.go trivial (RX.pick_f rfl rfl) ?_
            refine JL.go trivial (RX.movev (v := Value.bool _) rfl) ?_
            refine JL.go ⟨_, rfl, rfl⟩ (RX.movev (v := Value.slice _ _ _) rfl) ?_
            refine JL.go ⟨_, rfl, rfl⟩ (RX.movev (v := Value.slice _ _ _) rfl) ?_
            refine JL.go ⟨_, rfl, rfl⟩ (RX.len_slice rfl (by rw [sl36]; rfl) rfl) ?_
            refine JL.go ⟨_, rfl, rfl⟩ (RX.indexAddr rfl rfl sl36 (by omega) (by omega) rfl) ?_
            refine JL.go ⟨_, rfl, rfl⟩ (RX.loadS H hrm.slAt.cons.cons.cons.cons rfl (j := (pairs x.list).length) (by omega) (cVs_last rfl) one38) ?_
            refine JL.go ⟨_, rfl, rfl⟩ (RX.cne rfl rfl) ?_
            refine JL.go trivial (RX.pick_f rfl rfl) ?_
            refine JL.nil ?_
            refine J.cond_f rfl (by first | rfl | decide) ?_
            refine J.skip ?_
            refine J.seq ?_
            refine J.region ?_
            refine JL.go trivial (RX.movev (v := Value.pointer _) rfl) ?_
            replace H := (H.pull 3 rfl).pull 3 rfl
            have hS := rCos_all hsm hpk
            refine JL.does trivial (EX.call rfl cl17 rfl ((rList_c (at_ := 0) H hor1 (by omega) (by omega) hE.cons.cons.cons.cons.cons.cons.cons.cons))) ?_
            rintro _ w ⟨pp, pc, ps, hv, hop, H⟩
            rw [hS] at hv hop H
            simp only [Rs.val_ok, Rs.k_ok, Rs.code_ok, Rs.val_err, Rs.k_err, Rs.code_err] at hv hop H
            subst hv
            replace H := ((H.pull 1 rfl).drop.pull 1 rfl).drop
            refine JL.go trivial (RX.movev (v := Value.tuple _) rfl) ?_
            refine JL.go trivial (RX.extract rfl rfl) ?_
            refine JL.go trivial (RX.extract (v := errV E 0) rfl rfl) ?_
            refine JL.go trivial (RX.assignv (v := Value.slice _ _ _) rfl) ?_
            refine JL.go trivial (RX.assignv (v := errV E 0) rfl) ?_
            refine JL.nil ?_
            refine J.seq ?_
            refine J.region ?_
            refine JL.go trivial (RX.movev (v := Value.pointer _) rfl) ?_
            replace H := (H.pull 2 rfl).pull 2 rfl
            refine JL.does trivial (EX.call rfl cl17 rfl ((rList_c (at_ := 0) H hor2 (by omega) (by omega) hE.cons.cons.cons.cons.cons.cons.cons))) ?_
            rintro _ w ⟨fp, fc, fs, hv, hof2, H⟩
            rw [hS] at hv hof2 H
            simp only [Rs.val_ok, Rs.k_ok, Rs.code_ok, Rs.val_err, Rs.k_err, Rs.code_err] at hv hof2 H
            subst hv
            replace H := ((H.pull 1 rfl).drop.pull 1 rfl).drop
            have hml : ((pairs x.list).map canC).length = (pairs x.list).length := List.length_map _
            refine JL.go trivial (RX.movev (v := Value.tuple _) rfl) ?_
            refine JL.go trivial (RX.extract rfl rfl) ?_
            refine JL.go trivial (RX.extract (v := errV E 0) rfl rfl) ?_
            refine JL.go trivial (RX.assignv (v := Value.slice _ _ _) rfl) ?_
            refine JL.go trivial (RX.assignv (v := errV E 0) rfl) ?_
            refine JL.nil ?_
            refine J.seq ?_
            refine J.seq ?_
            refine J.region ?_
            refine JL.go trivial (RX.movev (v := Value.slice _ _ _) rfl) ?_
            refine JL.go trivial (RX.len_slice rfl (by rw [sl36]; rfl) rfl) ?_
            refine JL.go trivial (RX.move) ?_
            refine JL.nil ?_
            refine J.block ?_
            refine J.loop (ι := Nat × List (Nat × Nat) × Seg) (S := fun q => [(146, .int .i64 (q.1 : Nat))]) (Φ := fun q w => q.1 ≤ ((pairs x.list).map canC).length ∧ q.2.1.length = ((pairs x.list).map canC).length ∧ OwnSl 38 1 pp ((pairs x.list).map canC).length pc (cVs q.2.1) q.2.2 ∧ Hp w0 w (fs :: q.2.2 :: rms :: ls :: [(b, cel [.slice p (tot (l.take (i + 1))).length cp] 86)] :: s :: [(b6, cel x.cells 30)] :: qs3 :: F)) (μ := fun q => ((pairs x.list).map canC).length - q.1) (C := [(3, _), (4, _), (12, _), (18, _), (20, _), (29, _), (30, _), (31, _), (145, _)]) (0, (pairs x.list).map canC, ps) ⟨rfl, rfl, rfl, rfl, rfl, rfl, rfl, rfl, rfl, trivial⟩ ⟨rfl, trivial⟩ ?_ ?_
            · exact ⟨by omega, rfl, hop, H⟩
            clear H hop
            rintro ⟨k2, zs, ps⟩ ρ w ⟨hk2, hzl, hop, H⟩ IH3
            simp only at hk2 hzl hop H
            dsimp only
            refine J.seq ?_
            refine J.region ?_
            refine JL.go trivial (RX.lt rfl rfl) ?_
            refine JL.nil ?_
            refine J.seq ?_
            refine J.cond_d rfl (fun hlt3 => ?_) (fun hlt3 => ?_)
            · skip
              obtain ⟨gb2, l2, rfl, rfl, hll2⟩ := hop.ptr (by omega)
              have hllen2 : k2 < l2.length := by have := hll2.2.1; have := hll2.1; omega
              refine J.skip ?_
              refine J.seq ?_
              refine J.block ?_
              refine J.seq ?_
              refine J.region ?_
              refine JL.go trivial (RX.movev (v := Value.int _ _) rfl) ?_
              refine JL.go trivial (RX.assignv (v := Value.int _ _) rfl) ?_
              refine JL.nil ?_
              refine J.region ?_
              refine JL.go trivial (RX.movev (v := Value.slice _ _ _) rfl) ?_
              refine JL.go trivial (RX.movev (v := Value.int _ _) rfl) ?_
              refine JL.go trivial (RX.indexAddr rfl rfl sl36 (by omega) (by omega) rfl) ?_
              refine JL.does trivial (EX.store (v := Value.complex _ _ _) H rfl rfl (i := 1) rfl rfl (by omega) sz38 rfl rfl) ?_
              rintro _ w H
              refine JL.nil ?_
              refine J.inBlock ?_
              refine J.region ?_
              refine JL.go trivial (RX.add rfl rfl (w_i64 rfl (by omega) (by omega))) ?_
              refine JL.go trivial (RX.movev (v := Value.int _ _) rfl) ?_
              refine JL.nil ?_
              exact IH3 (k2 + 1, zs.set k2 (4617315517961601024, 0), _) _ _ (by simp only; omega) ⟨rfl, rfl, rfl, rfl, rfl, rfl, rfl, rfl, rfl, trivial⟩ ⟨rfl, trivial⟩ ⟨by simp only; omega, by simp [hzl], by rw [← cVs_set]; exact hop.set, by simpa [cV] using H⟩
            · skip
              refine J.exit rfl ?_
              refine J.seq ?_
              refine J.region ?_
              refine JL.go trivial (RX.movev (v := Value.slice _ _ _) rfl) ?_
              refine JL.does trivial (EX.buildSlice1 H elC rfl rfl) ?_
              rintro _ w ⟨b15, rfl, H⟩
              refine JL.does trivial (EX.append (ys := cVs [(4618441417868443648, 0)]) (L' := fun s' => [(b15, cel (cVs [(4618441417868443648, 0)]) 38)] :: fs :: s' :: rms :: ls :: [(b, cel [.slice p (tot (l.take (i + 1))).length cp] 86)] :: s :: [(b6, cel x.cells 30)] :: qs3 :: F) H elC rfl rfl (i := 2) rfl hop (SlAt.here rfl) rfl (cVs_cell _) (by decide) (by omega) (by omega) (fun _ => rfl)) ?_
              rintro _ w ⟨p16, c16, s16, rfl, ho16, H⟩
              rw [← cVs_app] at ho16
              replace H := H.drop
              obtain ⟨pb16, po16, rfl, _⟩ := (ho16.slAt (L := [])).some (by rw [cVs_len, List.length_append, List.length_singleton]; omega)
              refine JL.go trivial (RX.assignv (v := Value.slice _ _ _) rfl) ?_
              refine JL.nil ?_
              refine J.seq ?_
              refine J.region ?_
              refine JL.go trivial (RX.movev (v := Value.slice _ _ _) rfl) ?_
              refine JL.go trivial (RX.movev (v := Value.slice _ _ _) rfl) ?_
              refine JL.does trivial (EX.call rfl cl16 rfl ((sameList_t H hof2.slAt hol.slAt.cons.cons.cons (fun q hq => (by obtain ⟨r, hr, rfl⟩ := List.mem_map.1 hq; exact canC_ok (hpk r hr))) hpk (by simp) (by simp; omega) (fun i q r hq hr => by rw [List.getElem?_map, hr] at hq; cases hq; exact canC_eq _)))) ?_
              rintro _ w ⟨rfl, H⟩
              refine JL.go trivial (RX.not rfl) ?_
              refine JL.go trivial (RX.movev (v := Value.bool _) rfl) ?_
              refine JL.go ⟨_, rfl, rfl⟩ (RX.movev (v := Value.slice _ _ _) rfl) ?_
              refine JL.go ⟨_, rfl, rfl⟩ (RX.movev (v := Value.slice _ _ _) rfl) ?_
              refine JL.go ⟨_, rfl, rfl⟩ (RX.len_slice rfl (by rw [sl36]; rfl) rfl) ?_
              refine JL.go ⟨_, rfl, rfl⟩ (RX.sub rfl rfl (w_i64 (r := (((pairs x.list).map canC).length : Int)) (by omega) (by omega) (by omega))) ?_
              refine JL.go ⟨_, rfl, rfl⟩ (RX.indexAddr rfl rfl sl36 (by omega) (by omega) rfl) ?_
              refine JL.go ⟨_, rfl, rfl⟩ (RX.loadS H ho16.slAt.cons rfl (j := ((pairs x.list).map canC).length) (by omega) (cVs_last hzl) one38) ?_
              refine JL.go ⟨_, rfl, rfl⟩ (RX.cne rfl rfl) ?_
              refine JL.go trivial (RX.pick_f rfl rfl) ?_
              refine JL.nil ?_
              refine J.cond_f rfl (by first | rfl | decide) ?_
              refine J.skip ?_
              refine J.inBlock ?_
              refine J.region ?_
              refine JL.go trivial (RX.add rfl rfl (w_i64 rfl (by omega) (by omega))) ?_
              refine JL.go trivial (RX.movev (v := Value.int _ _) rfl) ?_
              refine JL.nil ?_
              exact IH (i + 1, p, cp, s, q3, qc3, qs3) _ _ (by simp only; omega) ⟨rfl, rfl, rfl, trivial⟩ ⟨rfl, rfl, trivial⟩ ⟨by simp only; omega, ho, ho3, (H.drop.drop.drop.drop.pull 2 rfl).drop⟩
        · skip
          refine JO.go (listed' := [true, true, true, true, true, true, true, false, false, true, true, false, false, false, false, false, false, false, false, false, false, false]) rfl rfl ⟨_, rfl, (decide_eq_false (fun h => h rfl))⟩ (RX.b2s (l := (tot (l.take (i + 1)))) H rfl (by first | exact ho3.slAt.cons.cons.cons.cons.cons | exact ho3.slAt.cons.cons.cons.cons.cons.cons) sl26 ud5 ud9) ?_
          refine JA.all [7] (by kernel_rfl) (by decide) ?_
          replace H := (H.pull 2 rfl).pull 2 rfl
          refine JO.does (listed' := [true, true, true, true, true, true, true, true, false, true, true, false, false, false, false, false, false, false, false, false, false, false]) rfl rfl ⟨_, rfl, (decide_eq_false (fun h => h rfl))⟩ (EX.call rfl cl12 rfl ((out_w H ho (by omega)))) ?_
          rintro _ w ⟨p5, c5, s5, rfl, hof, H⟩
          refine JA.all [8] (by kernel_rfl) (by decide) ?_
          refine JO.go (listed' := [true, true, true, true, true, true, true, true, true, true, true, false, false, false, false, false, false, false, false, false, false, false]) rfl rfl ⟨_, rfl, (decide_eq_false (fun h => h rfl))⟩ (RX.b2s (l := (tot (l.take (i + 1)))) H rfl hof.slAt sl26 ud5 ud9) ?_
          refine JA.take 11 (listed' := [true, true, true, true, true, true, true, true, true, true, true, true, false, false, false, false, false, false, false, false, false, false]) rfl (by kernel_rfl) (by kernel_rfl) (by kernel_rfl) rfl ⟨_, rfl, (decide_eq_false (fun h => h rfl))⟩ (fun w => RX.str_neq rfl rfl) ?_
          refine JA.take 12 (listed' := [true, true, true, true, true, true, true, true, true, true, true, true, true, false, false, false, false, false, false, false, false, false]) rfl (by kernel_rfl) (by kernel_rfl) (by kernel_rfl) rfl trivial (fun w => RX.pick_f rfl (decide_eq_false (fun h => h rfl))) ?_
          refine JA.take 13 (listed' := [true, true, true, true, true, true, true, true, true, true, true, true, true, true, false, false, false, false, false, false, false, false]) rfl (by kernel_rfl) (by kernel_rfl) (by kernel_rfl) rfl trivial (fun w => RX.movev (v := Value.bool _) rfl) ?_
          refine JA.take 14 (listed' := [true, true, true, true, true, true, true, true, true, true, true, true, true, true, true, false, false, false, false, false, false, false]) rfl (by kernel_rfl) (by kernel_rfl) (by kernel_rfl) rfl ⟨_, rfl, (decide_eq_false (fun h => h rfl))⟩ (fun w => RX.movev (v := Value.slice _ _ _) rfl) ?_
          refine JA.take 15 (listed' := [true, true, true, true, true, true, true, true, true, true, true, true, true, true, true, true, false, false, false, false, false, false]) rfl (by kernel_rfl) (by kernel_rfl) (by kernel_rfl) rfl ⟨_, rfl, (decide_eq_false (fun h => h rfl))⟩ (fun w => RX.movev (v := Value.slice _ _ _) rfl) ?_
          refine JA.take 16 (listed' := [true, true, true, true, true, true, true, true, true, true, true, true, true, true, true, true, true, false, false, false, false, false]) rfl (by kernel_rfl) (by kernel_rfl) (by kernel_rfl) rfl ⟨_, rfl, (decide_eq_false (fun h => h rfl))⟩ (fun w => RX.len_slice rfl (by rw [sl26]; rfl) rfl) ?_
          refine JA.take 17 (listed' := [true, true, true, true, true, true, true, true, true, true, true, true, true, true, true, true, true, true, false, false, false, false]) rfl (by kernel_rfl) (by kernel_rfl) (by kernel_rfl) rfl ⟨_, rfl, (decide_eq_false (fun h => h rfl))⟩ (fun w => RX.sub rfl rfl (w_i64 (r := ((tot (l.take (i + 1))).length : Int)) (by omega) (by omega) (by omega))) ?_
          refine JA.take 18 (listed' := [true, true, true, true, true, true, true, true, true, true, true, true, true, true, true, true, true, true, true, false, false, false]) rfl (by kernel_rfl) (by kernel_rfl) (by kernel_rfl) rfl ⟨_, rfl, (decide_eq_false (fun h => h rfl))⟩ (fun w => RX.indexAddr rfl rfl sl26 (by omega) (by omega) rfl) ?_
          refine JA.all [19] (by kernel_rfl) (by decide) ?_
          refine JO.go (listed' := [true, true, true, true, true, true, true, true, true, true, true, true, true, true, true, true, true, true, true, true, false, false]) rfl rfl ⟨_, rfl, (decide_eq_false (fun h => h rfl))⟩ (RX.loadS H (by first | exact ho9.slAt.cons.cons.cons.cons | exact ho9.slAt.cons.cons.cons) rfl (j := (tot (l.take (i + 1))).length) (by omega) (bv_last hyl) one5) ?_
          refine JA.take 20 (listed' := [true, true, true, true, true, true, true, true, true, true, true, true, true, true, true, true, true, true, true, true, true, false]) rfl (by kernel_rfl) (by kernel_rfl) (by kernel_rfl) rfl ⟨_, rfl, (decide_eq_false (fun h => h rfl))⟩ (fun w => RX.ne rfl rfl) ?_
          refine JA.take 21 (listed' := [true, true, true, true, true, true, true, true, true, true, true, true, true, true, true, true, true, true, true, true, true, true]) rfl (by kernel_rfl) (by kernel_rfl) (by kernel_rfl) rfl trivial (fun w => RX.pick_f rfl (decide_eq_false (fun h => h rfl))) ?_
          refine JA.done (by kernel_rfl) ?_
          refine J.cond_f rfl (by first | rfl | exact decide_eq_false (fun h => h rfl)) ?_
          refine J.skip ?_
          refine J.seq ?_
          replace H := ((H.drop.pull 2 rfl).drop.pull 2 rfl).drop
          refine J.region ?_
          refine JL.go trivial (RX.loadAgg H rfl (i := 2) (vs := x.cells) rfl rfl ag30) ?_
          refine JL.does trivial (EX.call rfl cl13 rfl ((listOf_b H hx.cons.cons.cons.cons))) ?_
          rintro _ w ⟨lp, lc, ls, rfl, hol, H⟩
          have hpl := pairs_len x.list
          have hsm : (pairs x.list).length ≤ 1048576 := pairs_small hx
          have hpk : ∀ q ∈ (pairs x.list), u64ok q.1 ∧ u64ok q.2 := pairs_ok hx
          refine JL.go trivial (RX.assignv (v := Value.slice _ _ _) rfl) ?_
          refine JL.nil ?_
          refine J.seq ?_
          refine J.region ?_
          refine JL.does trivial (EX.call rfl cl9 rfl ((new_w H))) ?_
          rintro _ w ⟨bx, rfl, H⟩
          replace H := (H.nil).pull 1 rfl
          refine JL.go trivial (RX.assignv (v := Value.pointer _) rfl) ?_
          refine JL.nil ?_
          refine J.seq ?_
          refine J.seq ?_
          refine J.region ?_
          refine JL.go trivial (RX.movev (v := Value.pointer _) rfl) ?_
          refine JL.go trivial (RX.ptrnil_eql rfl rfl pn24) ?_
          refine JL.nil ?_
          refine J.cond_f rfl rfl ?_
          refine J.skip ?_
          refine J.seq ?_
          refine J.region ?_
          refine JL.does trivial (EX.buildSlice0 H elC) ?_
          rintro _ w ⟨b10, rfl, H⟩
          refine JL.go trivial (RX.movev (v := Value.slice _ _ _) rfl) ?_
          refine JL.does trivial (EX.append (ys := cVs (pairs x.list)) (L' := fun s' => s' :: [(bx, cel [.slice none 0 0] 86)] :: [] :: ls :: [(b, cel [.slice p (tot (l.take (i + 1))).length cp] 86)] :: s :: [(b6, cel x.cells 30)] :: qs3 :: F) H elC rfl rfl (i := 0) rfl OwnSl.empty hol.slAt.cons.cons.cons (by simp [cVs_len]) (cVs_cell _) (by decide) (by omega) (by omega) (fun _ => rfl)) ?_
          rintro v w ⟨p11, c11, s11, hv, ho11, H⟩
          rw [Nat.zero_add] at hv ho11
          rw [List.nil_append] at ho11
          subst hv
          refine JL.does trivial (EX.buildSlice1 H elC rfl rfl) ?_
          rintro _ w ⟨b12, rfl, H⟩
          refine JL.does trivial (EX.append (ys := cVs [(4619567317775286272, 0)]) (L' := fun s' => [(b12, cel (cVs [(4619567317775286272, 0)]) 38)] :: s' :: [(bx, cel [.slice none 0 0] 86)] :: [] :: ls :: [(b, cel [.slice p (tot (l.take (i + 1))).length cp] 86)] :: s :: [(b6, cel x.cells 30)] :: qs3 :: F) H elC rfl rfl (i := 1) rfl ho11 (SlAt.here rfl) rfl (cVs_cell _) (by decide) (by omega) (by omega) (fun _ => rfl)) ?_
          rintro _ w ⟨rmp, rmc, rms, rfl, hrm, H⟩
          rw [← cVs_app] at hrm
          replace H := H.drop
          have hrl := hrm.le
          obtain ⟨pbr, por, rfl, _⟩ := (hrm.slAt (L := [])).some (by rw [cVs_len, List.length_append, List.length_singleton]; omega)
          have hmr : ∀ L, SlAt (rms :: L) (some ⟨pbr, por, none⟩) (cVs (pairs x.list)) := fun L => (show SlAt (rms :: L) _ (cVs (pairs x.list) ++ cVs [(4619567317775286272, 0)]) by rw [← cVs_app]; exact hrm.slAt).pre
          refine JL.go trivial (RX.assignv (v := Value.slice _ _ _) rfl) ?_
          refine JL.nil ?_
          refine J.seq ?_
          refine J.region ?_
          refine JL.go trivial (RX.movev (v := Value.pointer _) rfl) ?_
          refine JL.go trivial (RX.movev (v := Value.slice _ _ _) rfl) ?_
          refine JL.go trivial (RX.movev (v := Value.slice _ _ _) rfl) ?_
          refine JL.go trivial (RX.len_slice rfl (by rw [sl36]; rfl) rfl) ?_
          refine JL.go trivial (RX.slice_h rfl rfl sl36 hrm.spot (by omega) (by omega) rfl) ?_
          replace H := (H.pull 2 rfl).pull 2 rfl
          refine JL.does trivial (EX.call rfl cl14 rfl ((List_c (xs := []) ⟨none, 0, [], OwnSl.nil, H⟩ (hE.cons.cons.cons.cons.cons.cons.at_ 3 (by decide) (by decide)) (hmr _) hpk (by omega) (by simp only [List.length_nil]; omega)))) ?_
          rintro _ w h
          simp only [if_pos hsm] at h
          obtain ⟨rfl, px, cx, sx, hox, H⟩ := h
          rw [List.nil_append] at hox H
          rw [show varint (pairs x.list).length ++ ((pairs x.list).map cB).flatten = clB (pairs x.list) from rfl] at hox H
          have hcl : (clB (pairs x.list)).length ≤ 33554432 := clB_bound hsm
          refine JL.go trivial (RX.assign) ?_
          refine JL.nil ?_
          refine J.seq ?_
          refine J.seq ?_
          refine J.region ?_
          refine JL.go trivial (RX.move) ?_
          refine JL.go trivial (RX.ifnil_neq rfl rfl rfl if40) ?_
          refine JL.nil ?_
          refine J.cond_f rfl rfl ?_
          refine J.skip ?_
          refine J.seq ?_
          refine J.region ?_
          refine JL.go trivial (RX.movev (v := Value.pointer _) rfl) ?_
          refine JL.does trivial (EX.call rfl cl12 rfl ((out_w H hox (by omega)))) ?_
          rintro _ w ⟨p13, c13, s13, rfl, ho13, H⟩
          refine JL.does trivial (EX.call rfl cl15 rfl ((read_r H ho13.slAt (by omega)))) ?_
          rintro _ w ⟨rb1, rp1, rc1, rs1, rfl, hor1, H⟩
          replace H := (((H.pull 2 rfl).drop).pull 3 rfl).pull 3 rfl
          refine JL.go trivial (RX.movev (v := Value.pointer _) rfl) ?_
          refine JL.does trivial (EX.call rfl cl12 rfl ((out_w H hox (by omega)))) ?_
          rintro _ w ⟨p14, c14, s14, rfl, ho14, H⟩
          refine JL.does trivial (EX.call rfl cl15 rfl ((read_r H ho14.slAt (by omega)))) ?_
          rintro _ w ⟨rb2, rp2, rc2, rs2, rfl, hor2, H⟩
          replace H := ((((H.pull 2 rfl).drop).pull 2 rfl).drop.pull 2 rfl).drop
          refine JL.go trivial (RX.assignv (v := Value.pointer _) rfl) ?_
          refine JL.go trivial (RX.assignv (v := Value.pointer _) rfl) ?_
          refine JL.nil ?_
          refine J.seq ?_
          refine J.seq ?_
          refine J.region ?_
          refine JL.go trivial (RX.movev (v := Value.pointer _) rfl) ?_
          refine JL.go trivial (RX.ptrnil_eql rfl rfl pn42) ?_
          refine JL.go trivial (RX.movev (v := Value.bool _) rfl) ?_
          refine JL.go ⟨_, rfl, rfl⟩ (RX.movev (v := Value.pointer _) rfl) ?_
          refine JL.go ⟨_, rfl, rfl⟩ (RX.ptrnil_eql rfl rfl pn42) ?_
          refine JL.go trivial (RX.pick_f rfl rfl) ?_
          refine JL.go trivial (RX.movev (v := Value.bool _) rfl) ?_
          refine JL.go ⟨_, rfl, rfl⟩ (RX.movev (v := Value.slice _ _ _) rfl) ?_
          refine JL.go ⟨_, rfl, rfl⟩ (RX.movev (v := Value.slice _ _ _) rfl) ?_
          refine JL.go ⟨_, rfl, rfl⟩ (RX.len_slice rfl (by rw [sl36]; rfl) rfl) ?_
          refine JL.go ⟨_, rfl, rfl⟩ (RX.slice_h rfl rfl sl36 hrm.spot (by omega) (by omega) rfl) ?_
          refine JL.go ⟨_, rfl, rfl⟩ (RX.movev (v := Value.slice _ _ _) rfl) ?_
          refine JL.does ⟨_, rfl, rfl⟩ (EX.call rfl cl16 rfl ((sameList_t H (hmr _).cons.cons.cons.cons hol.slAt.cons.cons.cons.cons.cons hpk hpk rfl (by omega) (fun i q r hq hr => by rw [hq] at hr; cases hr; exact ⟨rfl, rfl⟩)))) ?_
          rintro _ w ⟨rfl, H⟩
          refine JL.go ⟨_, rfl, rfl⟩ (RX.not rfl) ?_
          refine JL.go trivial (RX.pick_f rfl rfl) ?_
          refine JL.go trivial (RX.movev (v := Value.bool _) rfl) ?_
          refine JL.go ⟨_, rfl, rfl⟩ (RX.movev (v := Value.slice _ _ _) rfl) ?_
          refine JL.go ⟨_, rfl, rfl⟩ (RX.movev (v := Value.slice _ _ _) rfl) ?_
          refine JL.go ⟨_, rfl, rfl⟩ (RX.len_slice rfl (by rw [sl36]; rfl) rfl) ?_
          refine JL.go ⟨_, rfl, rfl⟩ (RX.indexAddr rfl rfl sl36 (by omega) (by omega) rfl) ?_
          refine JL.go ⟨_, rfl, rfl⟩ (RX.loadS H hrm.slAt.cons.cons.cons.cons rfl (j := (pairs x.list).length) (by omega) (cVs_last rfl) one38) ?_
          refine JL.go ⟨_, rfl, rfl⟩ (RX.cne rfl rfl) ?_
          refine JL.go trivial (RX.pick_f rfl rfl) ?_
          refine JL.nil ?_
          refine J.cond_f rfl (by first | rfl | decide) ?_
          refine J.skip ?_
          refine J.seq ?_
          refine J.region ?_
          refine JL.go trivial (RX.movev (v := Value.pointer _) rfl) ?_
          replace H := (H.pull 3 rfl).pull 3 rfl
          have hS := rCos_all hsm hpk
          refine JL.does trivial (EX.call rfl cl17 rfl ((rList_c (at_ := 0) H hor1 (by omega) (by omega) hE.cons.cons.cons.cons.cons.cons.cons.cons))) ?_
          rintro _ w ⟨pp, pc, ps, hv, hop, H⟩
          rw [hS] at hv hop H
          simp only [Rs.val_ok, Rs.k_ok, Rs.code_ok, Rs.val_err, Rs.k_err, Rs.code_err] at hv hop H
          subst hv
          replace H := ((H.pull 1 rfl).drop.pull 1 rfl).drop
          refine JL.go trivial (RX.movev (v := Value.tuple _) rfl) ?_
          refine JL.go trivial (RX.extract rfl rfl) ?_
          refine JL.go trivial (RX.extract (v := errV E 0) rfl rfl) ?_
          refine JL.go trivial (RX.assignv (v := Value.slice _ _ _) rfl) ?_
          refine JL.go trivial (RX.assignv (v := errV E 0) rfl) ?_
          refine JL.nil ?_
          refine J.seq ?_
          refine J.region ?_
          refine JL.go trivial (RX.movev (v := Value.pointer _) rfl) ?_
          replace H := (H.pull 2 rfl).pull 2 rfl
          refine JL.does trivial (EX.call rfl cl17 rfl ((rList_c (at_ := 0) H hor2 (by omega) (by omega) hE.cons.cons.cons.cons.cons.cons.cons))) ?_
          rintro _ w ⟨fp, fc, fs, hv, hof2, H⟩
          rw [hS] at hv hof2 H
          simp only [Rs.val_ok, Rs.k_ok, Rs.code_ok, Rs.val_err, Rs.k_err, Rs.code_err] at hv hof2 H
          subst hv
          replace H := ((H.pull 1 rfl).drop.pull 1 rfl).drop
          have hml : ((pairs x.list).map canC).length = (pairs x.list).length := List.length_map _
          refine JL.go trivial (RX.movev (v := Value.tuple _) rfl) ?_
          refine JL.go trivial (RX.extract rfl rfl) ?_
          refine JL.go trivial (RX.extract (v := errV E 0) rfl rfl) ?_
          refine JL.go trivial (RX.assignv (v := Value.slice _ _ _) rfl) ?_
          refine JL.go trivial (RX.assignv (v := errV E 0) rfl) ?_
          refine JL.nil ?_
          refine J.seq ?_
          refine J.seq ?_
          refine J.region ?_
          refine JL.go trivial (RX.movev (v := Value.slice _ _ _) rfl) ?_
          refine JL.go trivial (RX.len_slice rfl (by rw [sl36]; rfl) rfl) ?_
          refine JL.go trivial (RX.move) ?_
          refine JL.nil ?_
          refine J.block ?_
          refine J.loop (ι := Nat × List (Nat × Nat) × Seg) (S := fun q => [(146, .int .i64 (q.1 : Nat))]) (Φ := fun q w => q.1 ≤ ((pairs x.list).map canC).length ∧ q.2.1.length = ((pairs x.list).map canC).length ∧ OwnSl 38 1 pp ((pairs x.list).map canC).length pc (cVs q.2.1) q.2.2 ∧ Hp w0 w (fs :: q.2.2 :: rms :: ls :: [(b, cel [.slice p (tot (l.take (i + 1))).length cp] 86)] :: s :: [(b6, cel x.cells 30)] :: qs3 :: F)) (μ := fun q => ((pairs x.list).map canC).length - q.1) (C := [(3, _), (4, _), (12, _), (18, _), (20, _), (29, _), (30, _), (31, _), (145, _)]) (0, (pairs x.list).map canC, ps) ⟨rfl, rfl, rfl, rfl, rfl, rfl, rfl, rfl, rfl, trivial⟩ ⟨rfl, trivial⟩ ?_ ?_
          · exact ⟨by omega, rfl, hop, H⟩
          clear H hop
          rintro ⟨k2, zs, ps⟩ ρ w ⟨hk2, hzl, hop, H⟩ IH3
          simp only at hk2 hzl hop H
          dsimp only
          refine J.seq ?_
          refine J.region ?_
          refine JL.go trivial (RX.lt rfl rfl) ?_
          refine JL.nil ?_
          refine J.seq ?_
          refine J.cond_d rfl (fun hlt3 => ?_) (fun hlt3 => ?_)
          · skip
            obtain ⟨gb2, l2, rfl, rfl, hll2⟩ := hop.ptr (by omega)
            have hllen2 : k2 < l2.length := by have := hll2.2.1; have := hll2.1; omega
            refine J.skip ?_
            refine J.seq ?_
            refine J.block ?_
            refine J.seq ?_
            refine J.region ?_
            refine JL.go trivial (RX.movev (v := Value.int _ _) rfl) ?_
            refine JL.go trivial (RX.assignv (v := Value.int _ _) rfl) ?_
            refine JL.nil ?_
            refine J.region ?_
            refine JL.go trivial (RX.movev (v := Value.slice _ _ _) rfl) ?_
            refine JL.go trivial (RX.movev (v := Value.int _ _) rfl) ?_
            refine JL.go trivial (RX.indexAddr rfl rfl sl36 (by omega) (by omega) rfl) ?_
            refine JL.does trivial (EX.store (v := Value.complex _ _ _) H rfl rfl (i := 1) rfl rfl (by omega) sz38 rfl rfl) ?_
            rintro _ w H
            refine JL.nil ?_
            refine J.inBlock ?_
            refine J.region ?_
            refine JL.go trivial (RX.add rfl rfl (w_i64 rfl (by omega) (by omega))) ?_
            refine JL.go trivial (RX.movev (v := Value.int _ _) rfl) ?_
            refine JL.nil ?_
            exact IH3 (k2 + 1, zs.set k2 (4617315517961601024, 0), _) _ _ (by simp only; omega) ⟨rfl, rfl, rfl, rfl, rfl, rfl, rfl, rfl, rfl, trivial⟩ ⟨rfl, trivial⟩ ⟨by simp only; omega, by simp [hzl], by rw [← cVs_set]; exact hop.set, by simpa [cV] using H⟩
          · skip
            refine J.exit rfl ?_
            refine J.seq ?_
            refine J.region ?_
            refine JL.go trivial (RX.movev (v := Value.slice _ _ _) rfl) ?_
            refine JL.does trivial (EX.buildSlice1 H elC rfl rfl) ?_
            rintro _ w ⟨b15, rfl, H⟩
            refine JL.does trivial (EX.append (ys := cVs [(4618441417868443648, 0)]) (L' := fun s' => [(b15, cel (cVs [(4618441417868443648, 0)]) 38)] :: fs :: s' :: rms :: ls :: [(b, cel [.slice p (tot (l.take (i + 1))).length cp] 86)] :: s :: [(b6, cel x.cells 30)] :: qs3 :: F) H elC rfl rfl (i := 2) rfl hop (SlAt.here rfl) rfl (cVs_cell _) (by decide) (by omega) (by omega) (fun _ => rfl)) ?_
            rintro _ w ⟨p16, c16, s16, rfl, ho16, H⟩
            rw [← cVs_app] at ho16
            replace H := H.drop
            obtain ⟨pb16, po16, rfl, _⟩ := (ho16.slAt (L := [])).some (by rw [cVs_len, List.length_append, List.length_singleton]; omega)
            refine JL.go trivial (RX.assignv (v := Value.slice _ _ _) rfl) ?_
            refine JL.nil ?_
            refine J.seq ?_
            refine J.region ?_
            refine JL.go trivial (RX.movev (v := Value.slice _ _ _) rfl) ?_
            refine JL.go trivial (RX.movev (v := Value.slice _ _ _) rfl) ?_
            refine JL.does trivial (EX.call rfl cl16 rfl ((sameList_t H hof2.slAt hol.slAt.cons.cons.cons (fun q hq => (by obtain ⟨r, hr, rfl⟩ := List.mem_map.1 hq; exact canC_ok (hpk r hr))) hpk (by simp) (by simp; omega) (fun i q r hq hr => by rw [List.getElem?_map, hr] at hq; cases hq; exact canC_eq _)))) ?_
            rintro _ w ⟨rfl, H⟩
            refine JL.go trivial (RX.not rfl) ?_
            refine JL.go trivial (RX.movev (v := Value.bool _) rfl) ?_
            refine JL.go ⟨_, rfl, rfl⟩ (RX.movev (v := Value.slice _ _ _) rfl) ?_
            refine JL.go ⟨_, rfl, rfl⟩ (RX.movev (v := Value.slice _ _ _) rfl) ?_
            refine JL.go ⟨_, rfl, rfl⟩ (RX.len_slice rfl (by rw [sl36]; rfl) rfl) ?_
            refine JL.go ⟨_, rfl, rfl⟩ (RX.sub rfl rfl (w_i64 (r := (((pairs x.list).map canC).length : Int)) (by omega) (by omega) (by omega))) ?_
            refine JL.go ⟨_, rfl, rfl⟩ (RX.indexAddr rfl rfl sl36 (by omega) (by omega) rfl) ?_
            refine JL.go ⟨_, rfl, rfl⟩ (RX.loadS H ho16.slAt.cons rfl (j := ((pairs x.list).map canC).length) (by omega) (cVs_last hzl) one38) ?_
            refine JL.go ⟨_, rfl, rfl⟩ (RX.cne rfl rfl) ?_
            refine JL.go trivial (RX.pick_f rfl rfl) ?_
            refine JL.nil ?_
            refine J.cond_f rfl (by first | rfl | decide) ?_
            refine J.skip ?_
            refine J.inBlock ?_
            refine J.region ?_
            refine JL.go trivial (RX.add rfl rfl (w_i64 rfl (by omega) (by omega))) ?_
            refine JL.go trivial (RX.movev (v := Value.int _ _) rfl) ?_
            refine JL.nil ?_
            exact IH (i + 1, p, cp, s, q3, qc3, qs3) _ _ (by simp only; omega) ⟨rfl, rfl, rfl, trivial⟩ ⟨rfl, rfl, trivial⟩ ⟨by simp only; omega, ho, ho3, (H.drop.drop.drop.drop.pull 2 rfl).drop⟩
  · skip
    refine J.exit rfl ?_
    refine J.seq ?_
    refine J.region ?_
    refine JL.go trivial (RX.assign) ?_
    refine JL.nil ?_
    refine J.ret1 (v := Value.bool _) Tryd.func4 rfl rfl ?_
    exact ⟨_, rfl, rfl, H.drop.drop.drop⟩
end Go.Proofs.YtippfdnjhcpekaaDoor

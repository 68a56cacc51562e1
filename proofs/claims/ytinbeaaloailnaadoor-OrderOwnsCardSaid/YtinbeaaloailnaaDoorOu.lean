/- The law OrderTrees. -/
import Derived.Test.YtinbeaaloailnaaDoorIv
import Derived.Test.YtinbeaaloailnaaDoorDt
import Derived.Test.YtinbeaaloailnaaDoorBk
namespace Go.Proofs.YtinbeaaloailnaaDoor
open Go Go.Eng
set_option maxRecDepth 100000
set_option linter.unusedVariables false
set_option linter.unusedSimpArgs false
theorem cl23 : callable Tryd.prog 23 = true := by kernel_rfl
theorem isN {L : List Seg} {t : Tr} {k n : Int} {p : Option Addr} {m c : Nat} (h : t.Is L (tv k n p m c)) : t.N = n := by
  obtain ⟨k', n', ks⟩ := t
  rw [Tr.Is] at h
  obtain ⟨p', c', xs, e, _⟩ := h
  simp only [tv, List.cons.injEq, Value.int.injEq, true_and] at e
  exact e.2.1.symm
set_option maxHeartbeats 800000 in
theorem OrderTrees_b {w0 w : World} {F : List Seg} (H : Hp w0 w F) {E : Nat → Value} {Q : Nat → Addr} (hE : EQ F E Q) (hg : GTab F) {t : Tr} {vs : List Value} (ht : t.Is F vs) (hw : t.wide) : Ret Tryd.prog 8 [.agg vs.toArray] w fun v w' => v = .bool true ∧ Hp w0 w' F := by
  refine Calls.of_J (n := 136) Tryd.func8 rfl rfl rfl ?_
  refine J.seq ?_
  obtain ⟨k, n, ks⟩ := t
  have ht0 := ht
  rw [Tr.Is] at ht
  obtain ⟨p, c, xs, rfl, hs, hk⟩ := ht
  have hkl := partsL_len ks
  have hpp : (Tr.node k n ks).parts = 1 + partsL ks := by rw [Tr.parts]
  have hdd : (Tr.node k n ks).depth = depthL ks + 1 := by rw [Tr.depth]
  refine J.region ?_
  refine JL.does trivial (EX.box (v := Value.agg _) H rfl rfl) ?_
  rintro _ w ⟨b1, rfl, H⟩
  refine JL.go trivial (RX.assign) ?_
  refine JL.nil ?_
  refine J.seq ?_
  refine J.region ?_
  refine JL.does trivial (EX.call rfl cl9 rfl ((lives_b H hE.b.cons hg.cons))) ?_
  rintro _ w ⟨rfl, H⟩
  refine JL.go trivial (RX.assignv (v := Value.bool _) rfl) ?_
  refine JL.nil ?_
  refine J.seq ?_
  refine J.seq ?_
  refine J.region ?_
  refine JL.go trivial (RX.movev (v := Value.bool _) rfl) ?_
  refine JL.go trivial (RX.not rfl) ?_
  refine JL.go trivial (RX.movev (v := Value.bool _) rfl) ?_
  refine JL.go ⟨_, rfl, rfl⟩ (RX.loadAgg H rfl (i := 0) (vs := tv k n p ks.length c) rfl rfl ag25) ?_
  refine JL.does ⟨_, rfl, rfl⟩ (EX.call rfl cl15 rfl ((large_b H ht0.cons hw))) ?_
  rintro _ w ⟨rfl, H⟩
  refine JL.go trivial (RX.pick_f rfl rfl) ?_
  refine JL.nil ?_
  refine J.cond_d rfl (fun hbig => ?_) (fun hbig => ?_)
  · skip
    refine J.seq ?_
    refine J.region ?_
    refine JL.go trivial (RX.movev (v := Value.bool _) rfl) ?_
    refine JL.go trivial (RX.assignv (v := Value.bool _) rfl) ?_
    refine JL.nil ?_
    refine J.ret1 (v := Value.bool _) Tryd.func8 rfl rfl ?_
    exact ⟨_, rfl, rfl, H.drop⟩
  · skip
    have hp : (Tr.node k n ks).parts ≤ 4500 := by omega
    refine J.skip ?_
    refine J.seq ?_
    refine J.region ?_
    refine JL.go trivial (RX.loadAgg H rfl (i := 0) (vs := tv k n p ks.length c) rfl rfl ag25) ?_
    refine JL.does trivial (EX.call rfl cl18 rfl ((Length_b H ht0.cons (by omega)))) ?_
    rintro _ w ⟨rfl, H⟩
    refine JL.go trivial (RX.assignv (v := Value.int _ _) rfl) ?_
    refine JL.nil ?_
    refine J.seq ?_
    refine J.seq ?_
    refine J.region ?_
    refine JL.go trivial (RX.movev (v := Value.int _ _) rfl) ?_
    refine JL.go trivial (RX.eq rfl rfl) ?_
    refine JL.nil ?_
    refine J.cond_d rfl (fun h0 => ?_) (fun h0 => ?_)
    · skip
      have he8 : e8 E (goodB (Tr.node k n ks)) = E 8 := e8_no h0
      refine J.seq ?_
      refine J.quietH H hmix (by kernel_rfl) ?_
      refine JQ.go trivial (fun w H => RX.loadAgg H rfl (i := 0) (vs := tv k n p ks.length c) rfl rfl ag25) ?_
      refine JQ.call trivial (fun w H => run_callq rfl cl17 rfl) (fun w H => (Check_b H ht0.cons (by omega) hE.b.t8.cons)) ?_
      refine JQ.go trivial (fun w H => RX.loadG H rfl hE.b.t8.at_.cons one27) ?_
      refine JQ.go trivial (fun w H => RX.err_eql (u := e8 E (goodB (Tr.node k n ks))) (v := E 8) H rfl rfl (by rw [he8]; exact hE.e8.cons) hE.e8.cons if27 ptE) ?_
      refine JQ.go trivial (fun w H => RX.assignv (v := Value.bool _) rfl) ?_
      refine JQ.nil fun w H => ?_
      refine J.ret1 (v := Value.bool _) Tryd.func8 rfl rfl ?_
      exact ⟨_, rfl, by rw [decide_eq_true rfl], H.drop⟩
    · skip
      obtain ⟨hle, hd16⟩ := good_len h0
      have hlr := len_range _ (Tr.node k n ks) (Nat.le_refl _)
      have hl0 : len (Tr.node k n ks) ≠ 0 := by rw [← hle]; exact h0
      have hls := len_shape hl0
      refine J.skip ?_
      refine J.seq ?_
      refine J.region ?_
      refine JL.go trivial (RX.assign) ?_
      refine JL.nil ?_
      refine J.seq ?_
      refine J.seq ?_
      refine J.region ?_
      refine JL.go trivial (RX.fieldAddr rfl fo25_2 rfl) ?_
      refine JL.go trivial (RX.load H rfl (i := 0) (v := .slice p ks.length c) rfl rfl one23) ?_
      refine JL.go trivial (RX.len_slice rfl (by rw [sl23]; rfl) rfl) ?_
      refine JL.go trivial (RX.move) ?_
      refine JL.nil ?_
      refine J.block ?_
      refine J.loop (ι := Nat) (S := fun i => [(5, .int .i64 (depthT ks i : Nat)), (31, .int .i64 (i : Nat))]) (Φ := fun i w => i ≤ ks.length ∧ Hp w0 w ([(b1, cel (tv k n p ks.length c) 25)] :: F)) (μ := fun i => ks.length - i) (C := [(1, _), (4, _), (29, _), (30, _)]) 0 ⟨rfl, rfl, rfl, rfl, trivial⟩ ⟨rfl, rfl, trivial⟩ ?_ ?_
      · exact ⟨by omega, H⟩
      clear H
      rintro i ρ w ⟨hi, H⟩ IH
      refine J.seq ?_
      refine J.region ?_
      refine JL.go trivial (RX.lt rfl rfl) ?_
      refine JL.nil ?_
      refine J.seq ?_
      refine J.cond_d rfl (fun hlt => ?_) (fun hlt => ?_)
      · skip
        obtain ⟨t1, ht1⟩ : ∃ t1, ks[i]? = some t1 := ⟨_, List.getElem?_eq_getElem (by omega)⟩
        obtain ⟨a1, ha1, hi1⟩ := hk.get ht1
        obtain ⟨k1, n1, p1, m1, c1, rfl⟩ := hi1.shape
        have hxl := hk.len
        have hlp := kid_lt (k := k) (n := n) ht1
        have hds := depthT_succ ht1
        have hgk : goodB t1 = true := decide_eq_true (kid_good h0 ht1).1
        have hd1 := depth_parts t1
        have hdT := depth_parts (.node k n ks)
        obtain ⟨pb, po, rfl⟩ := spot_some hs (by omega)
        refine J.skip ?_
        refine J.seq ?_
        refine J.block ?_
        refine J.seq ?_
        refine J.region ?_
        refine JL.go trivial (RX.indexAddr rfl rfl sl23 (by omega) (by omega) (o' := po + i * 3) (by omega)) ?_
        refine JL.go trivial (RX.loadAggS H hs.cons rfl (j := i * 3) (by omega) (vs := tv k1 n1 p1 m1 c1) ha1 ag25) ?_
        refine JL.does trivial (EX.alloc H zr25 rfl) ?_
        rintro _ w ⟨b7, rfl, H⟩
        refine JL.does trivial (EX.storeAgg H rfl rfl (i := 0) (vs := tv k1 n1 p1 m1 c1) (l' := tv k1 n1 p1 m1 c1) rfl tv_cell (by simp) sz25 rfl rfl) ?_
        rintro _ w H
        refine JL.nil ?_
        refine J.seq ?_
        refine J.seq ?_
        refine J.region ?_
        refine JL.go trivial (RX.loadAgg H rfl (i := 0) (vs := tv k1 n1 p1 m1 c1) rfl rfl ag25) ?_
        refine JL.does trivial (EX.call rfl cl17 rfl ((Check_b H hi1.cons.cons (by omega) hE.b.t8.cons.cons))) ?_
        rintro _ w ⟨rfl, H⟩
        refine JL.go trivial (RX.ifnil_neq (v := e8 E (goodB t1)) rfl rfl (e8_ie hE.b.t8 _).1 if27) ?_
        refine JL.nil ?_
        refine J.cond_f rfl (by rw [(e8_ie hE.b.t8 (goodB t1)).2, hgk]; rfl) ?_
        refine J.skip ?_
        refine J.region ?_
        refine JL.go trivial (RX.movev (v := Value.int _ _) rfl) ?_
        refine JL.go trivial (RX.loadAgg H rfl (i := 0) (vs := tv k1 n1 p1 m1 c1) rfl rfl ag25) ?_
        refine JL.does trivial (EX.call rfl cl28 rfl ((depth_b t1 (by omega) _ _ _ _ H hi1.cons.cons))) ?_
        rintro _ w ⟨rfl, H⟩
        refine JL.go trivial (RX.max_ (r := ((depthT ks (i + 1) : Nat) : Int)) rfl rfl (by omega)) ?_
        refine JL.go trivial (RX.assignv (v := Value.int _ _) rfl) ?_
        refine JL.nil ?_
        refine J.inBlock ?_
        refine J.region ?_
        refine JL.go trivial (RX.add rfl rfl (w_i64 (r := ((i + 1 : Nat) : Int)) (by omega) (by omega) (by omega))) ?_
        refine JL.go trivial (RX.movev (v := Value.int _ _) rfl) ?_
        refine JL.nil ?_
        exact IH (i + 1) _ _ (by omega) ⟨rfl, rfl, rfl, rfl, trivial⟩ ⟨rfl, rfl, trivial⟩ ⟨by omega, H.drop⟩
      · skip
        have hil : i = ks.length := by omega
        subst hil
        have hfl := depthT_full ks
        refine J.exit rfl ?_
        refine J.seq ?_
        refine J.seq ?_
        refine J.region ?_
        refine JL.go trivial (RX.loadAgg H rfl (i := 0) (vs := tv k n p ks.length c) rfl rfl ag25) ?_
        refine JL.does trivial (EX.call rfl cl28 rfl ((depth_b _ (by omega) _ _ _ _ H ht0.cons))) ?_
        rintro _ w ⟨rfl, H⟩
        refine JL.go trivial (RX.movev (v := Value.int _ _) rfl) ?_
        refine JL.go trivial (RX.add rfl rfl (w_i64 (r := (((Tr.node k n ks).depth : Nat) : Int)) (by omega) (by omega) (by omega))) ?_
        refine JL.go trivial (RX.ne rfl rfl) ?_
        refine JL.go trivial (RX.movev (v := Value.bool _) rfl) ?_
        refine JL.go ⟨_, rfl, (decide_eq_false (fun h => h rfl))⟩ (RX.loadAgg H rfl (i := 0) (vs := tv k n p ks.length c) rfl rfl ag25) ?_
        refine JL.does ⟨_, rfl, (decide_eq_false (fun h => h rfl))⟩ (EX.call rfl cl28 rfl ((depth_b _ (by omega) _ _ _ _ H ht0.cons))) ?_
        rintro _ w ⟨rfl, H⟩
        refine JL.go ⟨_, rfl, (decide_eq_false (fun h => h rfl))⟩ (RX.gt rfl rfl) ?_
        refine JL.go trivial (RX.pick_f rfl (decide_eq_false (fun h => h rfl))) ?_
        refine JL.go trivial (RX.movev (v := Value.bool _) rfl) ?_
        refine JL.go ⟨_, rfl, (decide_eq_false (by omega))⟩ (RX.movev (v := Value.int _ _) rfl) ?_
        refine JL.go ⟨_, rfl, (decide_eq_false (by omega))⟩ (RX.gt rfl rfl) ?_
        refine JL.go trivial (RX.pick_f rfl (decide_eq_false (by omega))) ?_
        refine JL.nil ?_
        refine J.cond_f rfl (decide_eq_false (by omega)) ?_
        refine J.skip ?_
        refine J.seq ?_
        refine J.seq ?_
        refine J.region ?_
        refine JL.go trivial (RX.fieldAddr rfl fo25_0 rfl) ?_
        refine JL.go trivial (RX.load H rfl (i := 0) (v := .int .i64 k) rfl rfl one3) ?_
        refine JL.nil ?_
        refine J.block ?_
        refine J.seq ?_
        refine J.region ?_
        refine JL.go trivial (RX.eq rfl rfl) ?_
        refine JL.go trivial (RX.assignv (v := Value.bool _) rfl) ?_
        refine JL.nil ?_
        refine J.join (ι := Unit) (fun _ => []) (fun _ w => Hp w0 w ([(b1, cel (tv k n p ks.length c) 25)] :: F)) [(1, _), (4, _)] ⟨rfl, rfl, trivial⟩ ?_ ?_
        rotate_left
        · skip
          intro k2 hk2
          refine J.cond_d rfl (fun hk3 => ?_) (fun hk3 => ?_)
          · skip
            obtain ⟨a, b, hab, ha2, hb2, hpr⟩ : ∃ a b, ks = [a, b] ∧ 2 ≤ len a ∧ 2 ≤ len b ∧ len (.node k n ks) = len a * len b := by
              rcases hls with ⟨h, _⟩ | ⟨_, h⟩ | ⟨h, _⟩
              · omega
              · exact h
              · omega
            subst hab
            obtain ⟨va, hva, hia⟩ := hk.get (i := 0) (t := a) rfl
            obtain ⟨vb, hvb, hib⟩ := hk.get (i := 1) (t := b) rfl
            have hpa := kid_lt (k := k) (n := n) (ks := [a, b]) (i := 0) (t := a) rfl
            have hpb := kid_lt (k := k) (n := n) (ks := [a, b]) (i := 1) (t := b) rfl
            have hga := (kid_good h0 (i := 0) (t := a) rfl).2.1
            have hgb := (kid_good h0 (i := 1) (t := b) rfl).2.1
            have hra := len_range _ a (Nat.le_refl _)
            have hrb := len_range _ b (Nat.le_refl _)
            have hms := mul_small hra.1 hra.2 hrb.1 hrb.2
            have hprod : lenO (Tr.node k n [a, b]) = lenO a * lenO b := by rw [hle, hpr, hga, hgb]
            rw [← hga, ← hgb] at hms
            have hxl := hk.len
            have hl2 : [a, b].length = 2 := rfl
            obtain ⟨pb, po, rfl⟩ := spot_some hs (by omega)
            refine J.seq ?_
            refine J.quietH H hmix (by kernel_rfl) ?_
            refine JQ.go trivial (fun w H => RX.fieldAddr rfl fo25_2 rfl) ?_
            refine JQ.go trivial (fun w H => RX.load H rfl (i := 0) (v := .slice (some ⟨pb, po, none⟩) [a, b].length c) rfl rfl one23) ?_
            refine JQ.go trivial (fun w H => RX.len_slice rfl (by rw [sl23]; rfl) rfl) ?_
            refine JQ.go trivial (fun w H => RX.ne rfl rfl) ?_
            refine JQ.go trivial (fun w H => RX.movev (v := Value.bool _) rfl) ?_
            refine JQ.go ⟨_, rfl, (decide_eq_false (fun h => h rfl))⟩ (fun w H => RX.movev (v := Value.int _ _) rfl) ?_
            refine JQ.go ⟨_, rfl, (decide_eq_false (fun h => h rfl))⟩ (fun w H => RX.fieldAddr rfl fo25_2 rfl) ?_
            refine JQ.go ⟨_, rfl, (decide_eq_false (fun h => h rfl))⟩ (fun w H => RX.load H rfl (i := 0) (v := .slice (some ⟨pb, po, none⟩) [a, b].length c) rfl rfl one23) ?_
            refine JQ.go ⟨_, rfl, (decide_eq_false (fun h => h rfl))⟩ (fun w H => RX.indexAddr rfl rfl sl23 (by omega) (by omega) (o' := po + 0 * 3) (by omega)) ?_
            refine JQ.go ⟨_, rfl, (decide_eq_false (fun h => h rfl))⟩ (fun w H => RX.loadAggS H hs.cons rfl (j := 0 * 3) (by omega) (vs := va) hva ag25) ?_
            refine JQ.call ⟨_, rfl, (decide_eq_false (fun h => h rfl))⟩ (fun w H => run_callq rfl cl18 rfl) (fun w H => (Length_b H hia.cons (by omega))) ?_
            refine JQ.go ⟨_, rfl, (decide_eq_false (fun h => h rfl))⟩ (fun w H => RX.fieldAddr rfl fo25_2 rfl) ?_
            refine JQ.go ⟨_, rfl, (decide_eq_false (fun h => h rfl))⟩ (fun w H => RX.load H rfl (i := 0) (v := .slice (some ⟨pb, po, none⟩) [a, b].length c) rfl rfl one23) ?_
            refine JQ.go ⟨_, rfl, (decide_eq_false (fun h => h rfl))⟩ (fun w H => RX.indexAddr rfl rfl sl23 (by omega) (by omega) (o' := po + 1 * 3) (by omega)) ?_
            refine JQ.go ⟨_, rfl, (decide_eq_false (fun h => h rfl))⟩ (fun w H => RX.loadAggS H hs.cons rfl (j := 1 * 3) (by omega) (vs := vb) hvb ag25) ?_
            refine JQ.call ⟨_, rfl, (decide_eq_false (fun h => h rfl))⟩ (fun w H => run_callq rfl cl18 rfl) (fun w H => (Length_b H hib.cons (by omega))) ?_
            refine JQ.go ⟨_, rfl, (decide_eq_false (fun h => h rfl))⟩ (fun w H => RX.mul rfl rfl (w_i64 (r := lenO a * lenO b) rfl (by omega) (by omega))) ?_
            refine JQ.go ⟨_, rfl, (decide_eq_false (fun h => h rfl))⟩ (fun w H => RX.ne rfl rfl) ?_
            refine JQ.go trivial (fun w H => RX.pick_f rfl (decide_eq_false (fun h => h rfl))) ?_
            refine JQ.nil fun w H => ?_
            refine J.cond_f rfl (decide_eq_false (fun h => h hprod)) ?_
            refine J.skip ?_
            exact hk2 () _ _ ⟨rfl, rfl, trivial⟩ trivial H
          · skip
            refine J.seq ?_
            refine J.region ?_
            refine JL.go trivial (RX.eq rfl rfl) ?_
            refine JL.go trivial (RX.assignv (v := Value.bool _) rfl) ?_
            refine JL.nil ?_
            refine J.cond_d rfl (fun hk4 => ?_) (fun hk4 => ?_)
            · skip
              obtain ⟨hn2, a, hab, hla, hge⟩ : 2 ≤ n ∧ ∃ a, ks = [a] ∧ len (.node k n ks) = n ∧ 2 * n - 1 ≤ len a := by
                rcases hls with ⟨h, _⟩ | ⟨h, _⟩ | ⟨_, h⟩
                · omega
                · omega
                · exact h
              subst hab
              obtain ⟨va, hva, hia⟩ := hk.get (i := 0) (t := a) rfl
              have hpa := kid_lt (k := k) (n := n) (ks := [a]) (i := 0) (t := a) rfl
              have hga := (kid_good h0 (i := 0) (t := a) rfl).2.1
              have hln : lenO (Tr.node k n [a]) = n := hle.trans hla
              have hxl := hk.len
              have hl1 : [a].length = 1 := rfl
              obtain ⟨pb, po, rfl⟩ := spot_some hs (by omega)
              refine J.seq ?_
              refine J.region ?_
              refine JL.go trivial (RX.fieldAddr rfl fo25_2 rfl) ?_
              refine JL.go trivial (RX.load H rfl (i := 0) (v := .slice (some ⟨pb, po, none⟩) [a].length c) rfl rfl one23) ?_
              refine JL.go trivial (RX.len_slice rfl (by rw [sl23]; rfl) rfl) ?_
              refine JL.go trivial (RX.eq rfl rfl) ?_
              refine JL.go trivial (RX.movev (v := Value.bool _) rfl) ?_
              refine JL.go ⟨_, rfl, (decide_eq_true rfl)⟩ (RX.movev (v := Value.int _ _) rfl) ?_
              refine JL.go ⟨_, rfl, (decide_eq_true rfl)⟩ (RX.fieldAddr rfl fo25_1 rfl) ?_
              refine JL.go ⟨_, rfl, (decide_eq_true rfl)⟩ (RX.load H rfl (i := 0) (v := .int .i64 n) rfl rfl one3) ?_
              refine JL.go ⟨_, rfl, (decide_eq_true rfl)⟩ (RX.eq rfl rfl) ?_
              refine JL.go trivial (RX.pick_t rfl (decide_eq_true rfl)) ?_
              refine JL.go trivial (RX.movev (v := Value.bool _) rfl) ?_
              refine JL.go ⟨_, rfl, (decide_eq_true hln)⟩ (RX.fieldAddr rfl fo25_2 rfl) ?_
              refine JL.go ⟨_, rfl, (decide_eq_true hln)⟩ (RX.load H rfl (i := 0) (v := .slice (some ⟨pb, po, none⟩) [a].length c) rfl rfl one23) ?_
              refine JL.go ⟨_, rfl, (decide_eq_true hln)⟩ (RX.indexAddr rfl rfl sl23 (by omega) (by omega) (o' := po + 0 * 3) (by omega)) ?_
              refine JL.go ⟨_, rfl, (decide_eq_true hln)⟩ (RX.loadAggS H hs.cons rfl (j := 0 * 3) (by omega) (vs := va) hva ag25) ?_
              refine JL.does ⟨_, rfl, (decide_eq_true hln)⟩ (EX.call rfl cl18 rfl ((Length_b H hia.cons (by omega)))) ?_
              rintro _ w ⟨rfl, H⟩
              refine JL.go ⟨_, rfl, (decide_eq_true hln)⟩ (RX.movev (v := Value.int _ _) rfl) ?_
              refine JL.go ⟨_, rfl, (decide_eq_true hln)⟩ (RX.mul rfl rfl (w_i64 (r := 2 * lenO (Tr.node k n [a])) rfl (by omega) (by omega))) ?_
              refine JL.go ⟨_, rfl, (decide_eq_true hln)⟩ (RX.sub rfl rfl (w_i64 (r := 2 * lenO (Tr.node k n [a]) - 1) rfl (by omega) (by omega))) ?_
              refine JL.go ⟨_, rfl, (decide_eq_true hln)⟩ (RX.ge rfl rfl) ?_
              refine JL.go trivial (RX.pick_t rfl (decide_eq_true hln)) ?_
              refine JL.go trivial (RX.assignv (v := Value.bool _) rfl) ?_
              refine JL.nil ?_
              refine J.ret1 (v := Value.bool _) Tryd.func8 rfl rfl ?_
              exact ⟨_, rfl, by rw [decide_eq_true (by omega)], H.drop⟩
            · skip
              refine J.skip ?_
              exact hk2 () _ _ ⟨rfl, rfl, trivial⟩ trivial H
        · skip
          clear H
          rintro _ ρ w H
          refine J.inBlock ?_
          refine J.seq ?_
          refine J.region ?_
          refine JL.go trivial (RX.loadAgg H rfl (i := 0) (vs := tv k n p ks.length c) rfl rfl ag25) ?_
          refine JL.does trivial (EX.call rfl cl23 rfl ((lawLeaves_b hp ht0.cons H))) ?_
          rintro _ w ⟨pl, cl, ys, sl, ss, rfl, hol, hkol, H⟩
          refine JL.go trivial (RX.movev (v := Value.tuple _) rfl) ?_
          refine JL.go trivial (RX.extract (v := .slice pl (Tr.node k n ks).lvs.length cl) rfl rfl) ?_
          refine JL.go trivial (RX.extract (v := .bool true) rfl rfl) ?_
          refine JL.go trivial (RX.assignv (v := Value.slice _ _ _) rfl) ?_
          refine JL.go trivial (RX.assignv (v := Value.bool _) rfl) ?_
          refine JL.nil ?_
          refine J.seq ?_
          refine J.seq ?_
          refine J.region ?_
          refine JL.go trivial (RX.movev (v := Value.bool _) rfl) ?_
          refine JL.go trivial (RX.not rfl) ?_
          refine JL.go trivial (RX.movev (v := Value.bool _) rfl) ?_
          refine JL.go ⟨_, rfl, rfl⟩ (RX.loadAgg H rfl (i := 2) (vs := tv k n p ks.length c) rfl rfl ag25) ?_
          refine JL.does ⟨_, rfl, rfl⟩ (EX.call rfl cl30 rfl ((blue_b _ (by omega) _ _ _ _ H ht0.cons.cons.cons))) ?_
          rintro _ w ⟨rfl, H⟩
          refine JL.go trivial (RX.pick_f rfl rfl) ?_
          refine JL.nil ?_
          refine J.cond rfl (fun hblu => ?_) (fun hblu => ?_)
          · skip
            refine J.seq ?_
            refine J.region ?_
            refine JL.go trivial (RX.movev (v := Value.bool _) rfl) ?_
            refine JL.go trivial (RX.assignv (v := Value.bool _) rfl) ?_
            refine JL.nil ?_
            refine J.ret1 (v := Value.bool _) Tryd.func8 rfl rfl ?_
            exact ⟨_, rfl, rfl, H.drop.drop.drop⟩
          · skip
            obtain ⟨hprd, hN1, hdl, hl1⟩ := trees_law _ _ (Nat.le_refl _) hl0 hblu
            have hll := lvs_len _ (Tr.node k n ks) (Nat.le_refl _)
            refine J.skip ?_
            refine J.seq ?_
            refine J.region ?_
            refine JL.go trivial (RX.assign) ?_
            refine JL.nil ?_
            refine J.seq ?_
            refine J.seq ?_
            refine J.region ?_
            refine JL.go trivial (RX.movev (v := Value.slice _ _ _) rfl) ?_
            refine JL.go trivial (RX.len_slice rfl (by rw [sl23]; rfl) rfl) ?_
            refine JL.go trivial (RX.move) ?_
            refine JL.nil ?_
            refine J.block ?_
            refine J.loop (ι := Nat) (S := fun i => [(9, .int .i64 (prodN ((Tr.node k n ks).lvs.take i))), (117, .int .i64 (i : Nat))]) (Φ := fun i w => i ≤ (Tr.node k n ks).lvs.length ∧ Hp w0 w (sl :: ss :: [(b1, cel (tv k n p ks.length c) 25)] :: F)) (μ := fun i => (Tr.node k n ks).lvs.length - i) (C := [(1, _), (4, _), (8, _), (115, _), (116, _)]) 0 ⟨rfl, rfl, rfl, rfl, rfl, trivial⟩ ⟨rfl, rfl, trivial⟩ ?_ ?_
            · exact ⟨by omega, H⟩
            clear H
            rintro i ρ w ⟨hi, H⟩ IH
            refine J.seq ?_
            refine J.region ?_
            refine JL.go trivial (RX.lt rfl rfl) ?_
            refine JL.nil ?_
            refine J.seq ?_
            refine J.cond_d rfl (fun hlt2 => ?_) (fun hlt2 => ?_)
            · skip
              obtain ⟨t1, ht1⟩ : ∃ t1, (Tr.node k n ks).lvs[i]? = some t1 := ⟨_, List.getElem?_eq_getElem (by omega)⟩
              obtain ⟨a1, ha1, hi1⟩ := hkol.kids.get ht1
              obtain ⟨k1, n1, p1, m1, c1, rfl⟩ := hi1.shape
              have hnn := isN hi1
              have hxl := hol.1
              have hps := prodN_take ht1
              rw [hnn] at hps
              have hpb1 := prodN_le hN1 (i + 1)
              rw [hprd] at hpb1
              obtain ⟨pb, po, rfl⟩ := spot_some (hol.slAt (L := [])) (by omega)
              refine J.skip ?_
              refine J.seq ?_
              refine J.block ?_
              refine J.seq ?_
              refine J.region ?_
              refine JL.go trivial (RX.indexAddr rfl rfl sl23 (by omega) (by omega) (o' := po + i * 3) (by omega)) ?_
              refine JL.go trivial (RX.loadAggS H hol.slAt rfl (j := i * 3) (by omega) (vs := tv k1 n1 p1 m1 c1) ha1 ag25) ?_
              refine JL.does trivial (EX.alloc H zr25 rfl) ?_
              rintro _ w ⟨b11, rfl, H⟩
              refine JL.does trivial (EX.storeAgg H rfl rfl (i := 0) (vs := tv k1 n1 p1 m1 c1) (l' := tv k1 n1 p1 m1 c1) rfl tv_cell (by simp) sz25 rfl rfl) ?_
              rintro _ w H
              refine JL.nil ?_
              refine J.region ?_
              refine JL.go trivial (RX.movev (v := Value.int _ _) rfl) ?_
              refine JL.go trivial (RX.fieldAddr rfl fo25_1 rfl) ?_
              refine JL.go trivial (RX.load H rfl (i := 0) (v := .int .i64 n1) rfl rfl one3) ?_
              refine JL.go trivial (RX.mul rfl rfl (w_i64 (r := prodN ((Tr.node k n ks).lvs.take (i + 1))) hps.symm (by omega) (by omega))) ?_
              refine JL.go trivial (RX.assignv (v := Value.int _ _) rfl) ?_
              refine JL.nil ?_
              refine J.inBlock ?_
              refine J.region ?_
              refine JL.go trivial (RX.add rfl rfl (w_i64 (r := ((i + 1 : Nat) : Int)) (by omega) (by omega) (by omega))) ?_
              refine JL.go trivial (RX.movev (v := Value.int _ _) rfl) ?_
              refine JL.nil ?_
              exact IH (i + 1) _ _ (by omega) ⟨rfl, rfl, rfl, rfl, rfl, trivial⟩ ⟨rfl, rfl, trivial⟩ ⟨by omega, H.drop⟩
            · skip
              have hil : i = (Tr.node k n ks).lvs.length := by omega
              have hfin : prodN ((Tr.node k n ks).lvs.take i) = lenO (Tr.node k n ks) := by rw [hil, List.take_length, hprd, hle]
              refine J.exit rfl ?_
              refine J.seq ?_
              refine J.region ?_
              refine JL.go trivial (RX.movev (v := Value.int _ _) rfl) ?_
              refine JL.go trivial (RX.movev (v := Value.int _ _) rfl) ?_
              refine JL.go trivial (RX.eq rfl rfl) ?_
              refine JL.go trivial (RX.movev (v := Value.bool _) rfl) ?_
              refine JL.go ⟨_, rfl, (decide_eq_true hfin)⟩ (RX.loadAgg H rfl (i := 2) (vs := tv k n p ks.length c) rfl rfl ag25) ?_
              refine JL.does ⟨_, rfl, (decide_eq_true hfin)⟩ (EX.call rfl cl28 rfl ((depth_b _ (by omega) _ _ _ _ H ht0.cons.cons.cons))) ?_
              rintro _ w ⟨rfl, H⟩
              refine JL.go ⟨_, rfl, (decide_eq_true hfin)⟩ (RX.movev (v := Value.slice _ _ _) rfl) ?_
              refine JL.go ⟨_, rfl, (decide_eq_true hfin)⟩ (RX.len_slice rfl (by rw [sl23]; rfl) rfl) ?_
              refine JL.go ⟨_, rfl, (decide_eq_true hfin)⟩ (RX.le rfl rfl) ?_
              refine JL.go trivial (RX.pick_t rfl (decide_eq_true hfin)) ?_
              refine JL.go trivial (RX.assignv (v := Value.bool _) rfl) ?_
              refine JL.nil ?_
              refine J.ret1 (v := Value.bool _) Tryd.func8 rfl rfl ?_
              exact ⟨_, rfl, by rw [decide_eq_true (by omega)], H.drop.drop.drop⟩
end Go.Proofs.YtinbeaaloailnaaDoor

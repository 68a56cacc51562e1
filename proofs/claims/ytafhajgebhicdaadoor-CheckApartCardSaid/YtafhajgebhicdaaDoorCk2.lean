/- Package check: good. -/
import Derived.Test.YtafhajgebhicdaaDoorCl
namespace Go.Proofs.YtafhajgebhicdaaDoor
open Go Go.Eng
set_option maxRecDepth 100000
set_option linter.unusedVariables false
set_option linter.unusedSimpArgs false
set_option maxHeartbeats 1600000 in
theorem good_b {w0 w : World} {F : List Seg} {E : Nat → Value} (H : Hp w0 w F) (hT : SlAt F (some ⟨19, 0, none⟩) tableC) (g9 : GErr F 0 (E 9)) {s : Stp} (hs : s.Ok) {n : Int} (hn0 : i64ok n) : Ret Tryd.prog 26 [.agg s.v.toArray, .int .i64 n] w fun v w' => v = .bool (goodP s n) ∧ Hp w0 w' F := by
  refine Calls.of_J (n := 87) Tryd.func26 rfl rfl rfl ?_
  refine J.seq ?_
  refine J.region ?_
  refine JL.does trivial (EX.box (v := Value.agg _) H rfl rfl) ?_
  rintro _ w ⟨b2, rfl, H⟩
  refine JL.go trivial (RX.assign) ?_
  refine JL.nil ?_
  refine J.seq ?_
  refine J.seq ?_
  refine J.region ?_
  refine JL.go trivial (RX.loadAgg H rfl (i := 0) (vs := s.v) rfl rfl ag39) ?_
  refine JL.does trivial (EX.call rfl cl28 rfl ((Form_b H g9.cons hT.cons hs))) ?_
  rintro _ w ⟨rfl, H⟩
  refine JL.go trivial (RX.ifnil_neq (v := (if formB s = true then Value.nilIface else E 9)) rfl rfl (by cases formB s <;> first | rfl | exact g9.ie) if30) ?_
  refine JL.nil ?_
  refine J.cond rfl (fun hfb => ?_) (fun hfb => ?_)
  · skip
    have hf : formB s = false := by
      cases h : formB s with
      | false => rfl
      | true => rw [h] at hfb; cases hfb
    refine J.seq ?_
    refine J.region ?_
    refine JL.go trivial (RX.assign) ?_
    refine JL.nil ?_
    refine J.ret1 (v := Value.bool _) Tryd.func26 rfl rfl ?_
    exact ⟨_, rfl, by rw [goodP_no hf], H.drop⟩
  · skip
    have hf : formB s = true := by
      cases h : formB s with
      | true => rfl
      | false => rw [h] at hfb; have := g9.nn; simp only [Bool.false_eq_true, if_false, this] at hfb; cases hfb
    have ff := form_facts hf
    refine J.skip ?_
    refine J.seq ?_
    refine J.seq ?_
    refine J.region ?_
    refine JL.go trivial (RX.fieldAddr rfl fo39_0 rfl) ?_
    refine JL.go trivial (RX.load H rfl (i := 0) (v := .int .i64 s.op) rfl rfl one3) ?_
    refine JL.go trivial (RX.eq rfl rfl) ?_
    refine JL.nil ?_
    refine J.cond_d rfl (fun h5 => ?_) (fun h5 => ?_)
    · skip
      have hn2 := ff.2.2.2.2.2.2.2.2.2.2.2.2.2.1 h5
      refine J.seq ?_
      refine J.held (fun w => Hp w0 w ([(b2, cel s.v 39)] :: F)) hmix fun w hs => ?_
      replace H := H.same hs; clear hs
      have hS : Hp w0 w ([(b2, cel s.v 39)] :: F) := by first | exact H | exact H.drop | exact H.drop.drop | exact H.drop.drop.drop | exact H.drop.drop.drop.drop | exact H.drop.drop.drop.drop.drop | exact H.drop.drop.drop.drop.drop.drop | exact H.drop.drop.drop.drop.drop.drop.drop | exact H.drop.drop.drop.drop.drop.drop.drop.drop
      refine JH.take 0 (listed' := [true, false, false, false, false, false, false, false, false, false, false]) rfl (by kernel_rfl) (by kernel_rfl) (by kernel_rfl) rfl trivial (fun w H => RX.loadAgg H rfl (i := 0) (vs := s.v) rfl rfl ag39) hS ?_
      refine JH.take 2 (listed' := [true, false, true, false, false, false, false, false, false, false, false]) rfl (by kernel_rfl) (by kernel_rfl) (by kernel_rfl) rfl trivial (fun w H => RX.fieldAddr rfl fo39_5 rfl) hS ?_
      refine JH.take 3 (listed' := [true, false, true, true, false, false, false, false, false, false, false]) rfl (by kernel_rfl) (by kernel_rfl) (by kernel_rfl) rfl trivial (fun w H => by first | exact RX.load H rfl (i := 0) rfl rfl one3 | exact RX.load H rfl (i := 1) rfl rfl one3 | exact RX.load H rfl (i := 2) rfl rfl one3 | exact RX.load H rfl (i := 3) rfl rfl one3 | exact RX.load H rfl (i := 4) rfl rfl one3) hS ?_
      refine JH.take 4 (listed' := [true, false, true, true, true, false, false, false, false, false, false]) rfl (by kernel_rfl) (by kernel_rfl) (by kernel_rfl) rfl trivial (fun w H => RX.sub rfl rfl (w_i64 rfl (by omega) (by omega))) hS ?_
      refine JH.take 8 (listed' := [true, false, true, true, true, false, false, false, true, false, false]) rfl (by kernel_rfl) (by kernel_rfl) (by kernel_rfl) rfl trivial (fun w H => RX.movev (v := Value.int _ _) rfl) hS ?_
      refine JH.all [1] (by kernel_rfl) (by decide) ?_
      refine JHO.does (listed' := [true, true, true, true, true, false, false, false, true, false, false]) rfl rfl trivial (EX.call rfl cl29 rfl ((flown_b H hf))) ?_
      rintro _ w ⟨p, c, g, rfl, ho, H⟩
      obtain ⟨g1, l1, rfl, hg1⟩ := ho.ptr (by omega)
      have hS : Hp w0 w ([(b2, cel s.v 39)] :: F) := by first | exact H | exact H.drop | exact H.drop.drop | exact H.drop.drop.drop | exact H.drop.drop.drop.drop | exact H.drop.drop.drop.drop.drop | exact H.drop.drop.drop.drop.drop.drop | exact H.drop.drop.drop.drop.drop.drop.drop | exact H.drop.drop.drop.drop.drop.drop.drop.drop
      refine ⟨hS, ?_⟩
      refine JH.take 5 (listed' := [true, true, true, true, true, true, false, false, true, false, false]) rfl (by kernel_rfl) (by kernel_rfl) (by kernel_rfl) rfl trivial (fun w H => RX.indexAddr rfl rfl sl60 (by omega) (by omega) (o' := (s.n - 1).toNat * 3) (by omega)) hS ?_
      refine JH.all [6] (by kernel_rfl) (by decide) ?_
      refine JHO.go (listed' := [true, true, true, true, true, true, true, false, true, false, false]) rfl rfl trivial (RX.loadAggS H ho.slAt rfl (j := (s.n - 1).toNat * 3) (by omega) (vs := (rowC s (s.n - 1).toNat).v) (clsV_read (rowsC_get (by omega))) ag63) hS ?_
      refine JH.all [7] (by kernel_rfl) (by decide) ?_
      refine JHO.does (listed' := [true, true, true, true, true, true, true, true, true, false, false]) rfl rfl trivial (EX.call rfl cl40 rfl ((last_b H (rowC_ok hf (by omega))))) ?_
      rintro _ w ⟨rfl, H⟩
      have hS : Hp w0 w ([(b2, cel s.v 39)] :: F) := by first | exact H | exact H.drop | exact H.drop.drop | exact H.drop.drop.drop | exact H.drop.drop.drop.drop | exact H.drop.drop.drop.drop.drop | exact H.drop.drop.drop.drop.drop.drop | exact H.drop.drop.drop.drop.drop.drop.drop | exact H.drop.drop.drop.drop.drop.drop.drop.drop
      refine ⟨hS, ?_⟩
      refine JH.take 9 (listed' := [true, true, true, true, true, true, true, true, true, true, false]) rfl (by kernel_rfl) (by kernel_rfl) (by kernel_rfl) rfl trivial (fun w H => RX.lt rfl rfl) hS ?_
      refine JH.take 10 (listed' := [true, true, true, true, true, true, true, true, true, true, true]) rfl (by kernel_rfl) (by kernel_rfl) (by kernel_rfl) rfl trivial (fun w H => RX.assignv (v := Value.bool _) rfl) hS ?_
      refine JH.done (by kernel_rfl) ?_
      refine J.ret1 (v := Value.bool _) Tryd.func26 rfl rfl ?_
      first
      | (exact ⟨_, rfl, by rw [goodP_w h5 hwl], H.drop.drop.drop⟩)
      | exact ⟨_, rfl, by rw [goodP_fly hf h5], H.drop.drop⟩
      | (exact ⟨_, rfl, by rw [goodP_r h5 hr hrl], H.drop.drop.drop.drop⟩)
      | (exact ⟨_, rfl, by rw [goodP_i (i := i) h5 hr (by omega) (by rw [hoi]; simp_all)], H.drop.drop.drop.drop⟩)
      | (exact ⟨_, rfl, by rw [goodP_yes hf h5 (by omega) (fun r ev hr => hall (by have := rdsN_one hr; omega) r ev hr)], H.drop.drop.drop⟩)
    · skip
      refine J.skip ?_
      refine J.seq ?_
      refine J.region ?_
      refine JL.go trivial (RX.loadAgg H rfl (i := 0) (vs := s.v) rfl rfl ag39) ?_
      refine JL.does trivial (EX.call rfl cl33 rfl ((touched_b H))) ?_
      rintro _ w ⟨rp, rc, rs, rfl, hor, H⟩
      refine JL.go trivial (RX.movev (v := Value.tuple _) rfl) ?_
      refine JL.go trivial (RX.extract rfl rfl) ?_
      refine JL.go trivial (RX.extract rfl rfl) ?_
      refine JL.go trivial (RX.extract rfl rfl) ?_
      refine JL.does trivial (EX.alloc H zr63 rfl) ?_
      rintro _ w ⟨b6, rfl, H⟩
      refine JL.go trivial (RX.assignv (v := Value.slice _ _ _) rfl) ?_
      refine JL.does trivial (EX.storeAgg H rfl rfl (i := 0) (vs := (wr s).v) (l' := (wr s).v) rfl (cl_cell _) (by simp [Cl.v]) sz63 rfl rfl) ?_
      rintro _ w H
      refine JL.go trivial (RX.assignv (v := Value.bool _) rfl) ?_
      refine JL.nil ?_
      refine J.seq ?_
      refine J.seq ?_
      refine J.region ?_
      refine JL.go trivial (RX.loadAgg H rfl (i := 0) (vs := (wr s).v) rfl rfl ag63) ?_
      refine JL.does trivial (EX.call rfl cl40 rfl ((last_b H (wr_ok hf)))) ?_
      rintro _ w ⟨rfl, H⟩
      refine JL.go trivial (RX.movev (v := Value.int _ _) rfl) ?_
      refine JL.go trivial (RX.ge rfl rfl) ?_
      refine JL.nil ?_
      refine J.cond_d rfl (fun hwl => ?_) (fun hwl => ?_)
      · skip
        refine J.seq ?_
        refine J.region ?_
        refine JL.go trivial (RX.assign) ?_
        refine JL.nil ?_
        refine J.ret1 (v := Value.bool _) Tryd.func26 rfl rfl ?_
        first
        | (exact ⟨_, rfl, by rw [goodP_w h5 hwl], H.drop.drop.drop⟩)
        | exact ⟨_, rfl, by rw [goodP_fly hf h5], H.drop.drop⟩
        | (exact ⟨_, rfl, by rw [goodP_r h5 hr hrl], H.drop.drop.drop.drop⟩)
        | (exact ⟨_, rfl, by rw [goodP_i (i := i) h5 hr (by omega) (by rw [hoi]; simp_all)], H.drop.drop.drop.drop⟩)
        | (exact ⟨_, rfl, by rw [goodP_yes hf h5 (by omega) (fun r ev hr => hall (by have := rdsN_one hr; omega) r ev hr)], H.drop.drop.drop⟩)
      · skip
        refine J.skip ?_
        refine J.seq ?_
        refine J.seq ?_
        refine J.region ?_
        refine JL.go trivial (RX.movev (v := Value.slice _ _ _) rfl) ?_
        refine JL.go trivial (RX.len_slice rfl (by rw [sl66]; rfl) rfl) ?_
        refine JL.go trivial (RX.move) ?_
        refine JL.nil ?_
        refine J.block ?_
        refine J.loop (ι := Nat) (S := fun k => [(40, .int .i64 (k : Nat))]) (Φ := fun k w => k ≤ rdsN s ∧ (k = 1 → ∀ r ev, rds s = some (r, ev) → r.last < n ∧ ∀ i : Nat, (i : Int) < r.cnt → okRead s r ev i = true) ∧ Hp w0 w ([(b6, cel (wr s).v 63)] :: rs :: [(b2, cel s.v 39)] :: F)) (μ := fun k => rdsN s - k) (C := [(1, _), (2, _), (6, _), (38, _), (39, _)]) 0 ⟨rfl, rfl, rfl, rfl, rfl, trivial⟩ ⟨rfl, trivial⟩ ?_ ?_
        · exact ⟨Nat.zero_le _, fun h => absurd h (by decide), H⟩
        clear H
        rintro k ρ w ⟨hk, hall, H⟩ IH
        refine J.seq ?_
        refine J.region ?_
        refine JL.go trivial (RX.lt rfl rfl) ?_
        refine JL.nil ?_
        refine J.seq ?_
        refine J.cond_d rfl (fun hlt => ?_) (fun hlt => ?_)
        · skip
          obtain ⟨rfl, hr1, r, ev, hr, hrv⟩ := rdsN_some (s := s) (k := k) (by omega)
          obtain ⟨g2, l2, rfl, hg2⟩ := hor.ptr (by omega)
          have hrk := rds_ok hf hr
          have hrm := hrk.mul
          have hr0 := hrk.a0
          have hr2 := hrk.a1
          have hr3 := hrk.c0
          have hr4 := hrk.c1
          have hr5 := hrk.j0
          have hr6 := hrk.j1
          rw [hrv] at hor
          refine J.skip ?_
          refine J.seq ?_
          refine J.block ?_
          refine J.seq ?_
          refine J.region ?_
          refine JL.go trivial (RX.indexAddr rfl rfl sl66 (by omega) (by omega) (o' := 0) rfl) ?_
          refine JL.go trivial (RX.loadAggS H hor.slAt.cons rfl (j := 0) (by omega) (vs := rdV r ev) rfl ag70) ?_
          refine JL.does trivial (EX.alloc H zr70 rfl) ?_
          rintro _ w ⟨b9, rfl, H⟩
          refine JL.does trivial (EX.storeAgg H rfl rfl (i := 0) (vs := rdV r ev) (l' := rdV r ev) rfl (by simp [rdV, Cl.v, isCell]) (by simp [rdV, Cl.v]) sz70 rfl rfl) ?_
          rintro _ w H
          refine JL.nil ?_
          refine J.seq ?_
          refine J.seq ?_
          refine J.region ?_
          refine JL.go trivial (RX.fieldAddr rfl fo70_0 rfl) ?_
          refine JL.go trivial (RX.loadAgg H rfl (i := 0) (vs := r.v) rfl rfl ag63) ?_
          refine JL.does trivial (EX.call rfl cl40 rfl ((last_b H hrk))) ?_
          rintro _ w ⟨rfl, H⟩
          refine JL.go trivial (RX.movev (v := Value.int _ _) rfl) ?_
          refine JL.go trivial (RX.ge rfl rfl) ?_
          refine JL.nil ?_
          refine J.cond_d rfl (fun hrl => ?_) (fun hrl => ?_)
          · skip
            refine J.seq ?_
            refine J.region ?_
            refine JL.go trivial (RX.assign) ?_
            refine JL.nil ?_
            refine J.ret1 (v := Value.bool _) Tryd.func26 rfl rfl ?_
            first
            | (exact ⟨_, rfl, by rw [goodP_w h5 hwl], H.drop.drop.drop⟩)
            | exact ⟨_, rfl, by rw [goodP_fly hf h5], H.drop.drop⟩
            | (exact ⟨_, rfl, by rw [goodP_r h5 hr hrl], H.drop.drop.drop.drop⟩)
            | (exact ⟨_, rfl, by rw [goodP_i (i := i) h5 hr (by omega) (by rw [hoi]; simp_all)], H.drop.drop.drop.drop⟩)
            | (exact ⟨_, rfl, by rw [goodP_yes hf h5 (by omega) (fun r ev hr => hall (by have := rdsN_one hr; omega) r ev hr)], H.drop.drop.drop⟩)
          · skip
            refine J.skip ?_
            refine J.seq ?_
            refine J.region ?_
            refine JL.go trivial (RX.fieldAddr rfl fo70_0 rfl) ?_
            refine JL.go trivial (RX.fieldAddr rfl fo63_2 rfl) ?_
            refine JL.go trivial (RX.load H rfl (i := 0) (v := .int .i64 r.cnt) rfl rfl one3) ?_
            refine JL.go trivial (RX.move) ?_
            refine JL.nil ?_
            refine J.block ?_
            refine J.loop (ι := Nat) (S := fun i => [(52, .int .i64 (i : Nat))]) (Φ := fun i w => (i : Int) ≤ r.cnt ∧ (∀ j : Nat, j < i → okRead s r ev j = true) ∧ Hp w0 w ([(b9, cel (rdV r ev) 70)] :: [(b6, cel (wr s).v 63)] :: rs :: [(b2, cel s.v 39)] :: F)) (μ := fun i => r.cnt.toNat - i) (C := [(1, _), (2, _), (6, _), (9, _), (38, _), (39, _), (40, _), (51, _)]) 0 ⟨rfl, rfl, rfl, rfl, rfl, rfl, rfl, rfl, trivial⟩ ⟨rfl, trivial⟩ ?_ ?_
            · exact ⟨by omega, fun i hi => absurd hi (Nat.not_lt_zero _), H⟩
            clear H
            rintro i ρ w ⟨hi, hok, H⟩ IH2
            refine J.seq ?_
            refine J.region ?_
            refine JL.go trivial (RX.lt rfl rfl) ?_
            refine JL.nil ?_
            refine J.seq ?_
            refine J.cond_d rfl (fun hilt => ?_) (fun hilt => ?_)
            · skip
              have him : 0 ≤ (i : Int) * r.jump ∧ (i : Int) * r.jump ≤ 1099511627776 := ⟨Int.mul_nonneg (by omega) (by omega), Int.le_trans (Int.mul_le_mul_of_nonneg_right (show (i : Int) ≤ r.cnt - 1 by omega) (by omega)) hrm.2⟩
              refine J.skip ?_
              refine J.seq ?_
              refine J.block ?_
              refine J.seq ?_
              refine J.region ?_
              refine JL.go trivial (RX.movev (v := Value.int _ _) rfl) ?_
              refine JL.go trivial (RX.assignv (v := Value.int _ _) rfl) ?_
              refine JL.nil ?_
              refine J.seq ?_
              refine J.region ?_
              refine JL.go trivial (RX.loadAgg H rfl (i := 1) (vs := (wr s).v) rfl rfl ag63) ?_
              refine JL.go trivial (RX.fieldAddr rfl fo70_0 rfl) ?_
              refine JL.go trivial (RX.fieldAddr rfl fo63_0 rfl) ?_
              refine JL.go trivial (RX.load H rfl (i := 0) (v := .int .i64 r.at_) rfl rfl one3) ?_
              refine JL.go trivial (RX.movev (v := Value.int _ _) rfl) ?_
              refine JL.go trivial (RX.fieldAddr rfl fo70_0 rfl) ?_
              refine JL.go trivial (RX.fieldAddr rfl fo63_1 rfl) ?_
              refine JL.go trivial (RX.load H rfl (i := 0) (v := .int .i64 r.jump) rfl rfl one3) ?_
              refine JL.go trivial (RX.mul rfl rfl (w_i64 rfl (by omega) (by omega))) ?_
              refine JL.go trivial (RX.add rfl rfl (w_i64 rfl (by omega) (by omega))) ?_
              refine JL.does trivial (EX.call rfl cl41 rfl ((has_b H (wr_ok hf) (by omega) (by omega)))) ?_
              rintro _ w ⟨rfl, H⟩
              have hoi : okRead s r ev i = (decide ((wr s).has (r.at_ + i * r.jump) < 0) || !((decide ((wr s).has (r.at_ + i * r.jump) ≠ i) && !ev) || (ev && decide (1 < s.count)))) := rfl
              generalize (wr s).has (r.at_ + i * r.jump) = x at hoi ⊢
              refine JL.go trivial (RX.assignv (v := Value.int _ _) rfl) ?_
              refine JL.nil ?_
              refine J.seq ?_
              refine J.seq ?_
              refine J.region ?_
              refine JL.go trivial (RX.movev (v := Value.int _ _) rfl) ?_
              refine JL.go trivial (RX.lt rfl rfl) ?_
              refine JL.nil ?_
              refine J.cond_d rfl (fun hx0 => ?_) (fun hx0 => ?_)
              · skip
                refine J.exit rfl ?_
                refine J.region ?_
                refine JL.go trivial (RX.add rfl rfl (w_i64 (r := ((i + 1 : Nat) : Int)) (by omega) (by omega) (by omega))) ?_
                refine JL.go trivial (RX.movev (v := Value.int _ _) rfl) ?_
                refine JL.nil ?_
                exact IH2 (i + 1) _ _ (by omega) ⟨rfl, rfl, rfl, rfl, rfl, rfl, rfl, rfl, trivial⟩ ⟨rfl, trivial⟩ ⟨by omega, fun j hj => by
                  rcases Nat.lt_succ_iff_lt_or_eq.1 hj with h | rfl
                  · exact hok j h
                  · rw [hoi]; simp_all, H⟩
              · skip
                refine J.skip ?_
                refine J.seq ?_
                refine J.region ?_
                refine JL.go trivial (RX.movev (v := Value.int _ _) rfl) ?_
                refine JL.go trivial (RX.movev (v := Value.int _ _) rfl) ?_
                refine JL.go trivial (RX.ne rfl rfl) ?_
                refine JL.go trivial (RX.movev (v := Value.bool _) rfl) ?_
                refine JL.splitS 71 rfl (fun e1 => ?_) (fun e1 => ?_)
                · skip
                  first | have e1p := of_decide_eq_true e1 | skip
                  refine JL.go ⟨_, rfl, e1⟩ (RX.fieldAddr rfl fo70_1 rfl) ?_
                  refine JL.go ⟨_, rfl, e1⟩ (RX.load H rfl (i := 0) (v := .bool ev) rfl rfl one4) ?_
                  refine JL.go ⟨_, rfl, e1⟩ (RX.not rfl) ?_
                  refine JL.go trivial (RX.pick_t rfl e1) ?_
                  refine JL.go trivial (RX.movev (v := Value.bool _) rfl) ?_
                  refine JL.splitS 76 rfl (fun e2 => ?_) (fun e2 => ?_)
                  · skip
                    first | have e2p := of_decide_eq_true e2 | skip
                    refine JL.no ⟨_, rfl, gno e2⟩ ?_
                    refine JL.no ⟨_, rfl, gno e2⟩ ?_
                    refine JL.no ⟨_, rfl, gno e2⟩ ?_
                    refine JL.no ⟨_, rfl, nofun⟩ ?_
                    refine JL.no ⟨_, rfl, nofun⟩ ?_
                    refine JL.no ⟨_, rfl, nofun⟩ ?_
                    refine JL.no ⟨_, rfl, gno e2⟩ ?_
                    refine JL.go trivial (RX.pick_t rfl e2) ?_
                    refine JL.nil ?_
                    refine J.cond_t rfl rfl ?_
                    refine J.seq ?_
                    refine J.region ?_
                    refine JL.go trivial (RX.assign) ?_
                    refine JL.nil ?_
                    refine J.ret1 (v := Value.bool _) Tryd.func26 rfl rfl ?_
                    first
                    | (exact ⟨_, rfl, by rw [goodP_w h5 hwl], H.drop.drop.drop⟩)
                    | exact ⟨_, rfl, by rw [goodP_fly hf h5], H.drop.drop⟩
                    | (exact ⟨_, rfl, by rw [goodP_r h5 hr hrl], H.drop.drop.drop.drop⟩)
                    | (exact ⟨_, rfl, by rw [goodP_i (i := i) h5 hr (by omega) (by rw [hoi]; simp_all)], H.drop.drop.drop.drop⟩)
                    | (exact ⟨_, rfl, by rw [goodP_yes hf h5 (by omega) (fun r ev hr => hall (by have := rdsN_one hr; omega) r ev hr)], H.drop.drop.drop⟩)
                  · skip
                    first | have e2p := of_decide_eq_false e2 | skip
                    refine JL.go ⟨_, rfl, e2⟩ (RX.fieldAddr rfl fo70_1 rfl) ?_
                    refine JL.go ⟨_, rfl, e2⟩ (RX.load H rfl (i := 0) (v := .bool ev) rfl rfl one4) ?_
                    refine JL.go ⟨_, rfl, e2⟩ (RX.movev (v := Value.bool _) rfl) ?_
                    refine JL.splitS 79 rfl (fun e3 => ?_) (fun e3 => ?_)
                    · skip
                      first | have e3p := of_decide_eq_true e3 | skip
                      refine JL.go ⟨_, rfl, e3⟩ (RX.fieldAddr rfl fo39_4 rfl) ?_
                      refine JL.go ⟨_, rfl, e3⟩ (RX.load H rfl (i := 3) (v := .int .i64 s.count) rfl rfl one3) ?_
                      refine JL.go ⟨_, rfl, e3⟩ (RX.gt rfl rfl) ?_
                      refine JL.go ⟨_, rfl, e2⟩ (RX.pick_t rfl e3) ?_
                      refine JL.go trivial (RX.pick_f rfl e2) ?_
                      refine JL.nil ?_
                      refine J.cond_d rfl (fun e4 => ?_) (fun e4 => ?_)
                      · skip
                        refine J.seq ?_
                        refine J.region ?_
                        refine JL.go trivial (RX.assign) ?_
                        refine JL.nil ?_
                        refine J.ret1 (v := Value.bool _) Tryd.func26 rfl rfl ?_
                        first
                        | (exact ⟨_, rfl, by rw [goodP_w h5 hwl], H.drop.drop.drop⟩)
                        | exact ⟨_, rfl, by rw [goodP_fly hf h5], H.drop.drop⟩
                        | (exact ⟨_, rfl, by rw [goodP_r h5 hr hrl], H.drop.drop.drop.drop⟩)
                        | (exact ⟨_, rfl, by rw [goodP_i (i := i) h5 hr (by omega) (by rw [hoi]; simp_all)], H.drop.drop.drop.drop⟩)
                        | (exact ⟨_, rfl, by rw [goodP_yes hf h5 (by omega) (fun r ev hr => hall (by have := rdsN_one hr; omega) r ev hr)], H.drop.drop.drop⟩)
                      · skip
                        refine J.skip ?_
                        refine J.inBlock ?_
                        refine J.region ?_
                        refine JL.go trivial (RX.add rfl rfl (w_i64 (r := ((i + 1 : Nat) : Int)) (by omega) (by omega) (by omega))) ?_
                        refine JL.go trivial (RX.movev (v := Value.int _ _) rfl) ?_
                        refine JL.nil ?_
                        exact IH2 (i + 1) _ _ (by omega) ⟨rfl, rfl, rfl, rfl, rfl, rfl, rfl, rfl, trivial⟩ ⟨rfl, trivial⟩ ⟨by omega, fun j hj => by
                          rcases Nat.lt_succ_iff_lt_or_eq.1 hj with h | rfl
                          · exact hok j h
                          · rw [hoi]; simp_all, H⟩
                    · skip
                      first | have e3p := of_decide_eq_false e3 | skip
                      refine JL.no ⟨_, rfl, gno e3⟩ ?_
                      refine JL.no ⟨_, rfl, gno e3⟩ ?_
                      refine JL.no ⟨_, rfl, gno e3⟩ ?_
                      refine JL.go ⟨_, rfl, e2⟩ (RX.pick_f rfl e3) ?_
                      refine JL.go trivial (RX.pick_f rfl e2) ?_
                      refine JL.nil ?_
                      refine J.cond_f rfl rfl ?_
                      refine J.skip ?_
                      refine J.inBlock ?_
                      refine J.region ?_
                      refine JL.go trivial (RX.add rfl rfl (w_i64 (r := ((i + 1 : Nat) : Int)) (by omega) (by omega) (by omega))) ?_
                      refine JL.go trivial (RX.movev (v := Value.int _ _) rfl) ?_
                      refine JL.nil ?_
                      exact IH2 (i + 1) _ _ (by omega) ⟨rfl, rfl, rfl, rfl, rfl, rfl, rfl, rfl, trivial⟩ ⟨rfl, trivial⟩ ⟨by omega, fun j hj => by
                        rcases Nat.lt_succ_iff_lt_or_eq.1 hj with h | rfl
                        · exact hok j h
                        · rw [hoi]; simp_all, H⟩
                · skip
                  first | have e1p := of_decide_eq_false e1 | skip
                  refine JL.no ⟨_, rfl, gno e1⟩ ?_
                  refine JL.no ⟨_, rfl, gno e1⟩ ?_
                  refine JL.no ⟨_, rfl, gno e1⟩ ?_
                  refine JL.go trivial (RX.pick_f rfl e1) ?_
                  refine JL.go trivial (RX.movev (v := Value.bool _) rfl) ?_
                  refine JL.go ⟨_, rfl, rfl⟩ (RX.fieldAddr rfl fo70_1 rfl) ?_
                  refine JL.go ⟨_, rfl, rfl⟩ (RX.load H rfl (i := 0) (v := .bool ev) rfl rfl one4) ?_
                  refine JL.go ⟨_, rfl, rfl⟩ (RX.movev (v := Value.bool _) rfl) ?_
                  refine JL.splitS 79 rfl (fun e3 => ?_) (fun e3 => ?_)
                  · skip
                    first | have e3p := of_decide_eq_true e3 | skip
                    refine JL.go ⟨_, rfl, e3⟩ (RX.fieldAddr rfl fo39_4 rfl) ?_
                    refine JL.go ⟨_, rfl, e3⟩ (RX.load H rfl (i := 3) (v := .int .i64 s.count) rfl rfl one3) ?_
                    refine JL.go ⟨_, rfl, e3⟩ (RX.gt rfl rfl) ?_
                    refine JL.go ⟨_, rfl, rfl⟩ (RX.pick_t rfl e3) ?_
                    refine JL.go trivial (RX.pick_f rfl rfl) ?_
                    refine JL.nil ?_
                    refine J.cond_d rfl (fun e4 => ?_) (fun e4 => ?_)
                    · skip
                      refine J.seq ?_
                      refine J.region ?_
                      refine JL.go trivial (RX.assign) ?_
                      refine JL.nil ?_
                      refine J.ret1 (v := Value.bool _) Tryd.func26 rfl rfl ?_
                      first
                      | (exact ⟨_, rfl, by rw [goodP_w h5 hwl], H.drop.drop.drop⟩)
                      | exact ⟨_, rfl, by rw [goodP_fly hf h5], H.drop.drop⟩
                      | (exact ⟨_, rfl, by rw [goodP_r h5 hr hrl], H.drop.drop.drop.drop⟩)
                      | (exact ⟨_, rfl, by rw [goodP_i (i := i) h5 hr (by omega) (by rw [hoi]; simp_all)], H.drop.drop.drop.drop⟩)
                      | (exact ⟨_, rfl, by rw [goodP_yes hf h5 (by omega) (fun r ev hr => hall (by have := rdsN_one hr; omega) r ev hr)], H.drop.drop.drop⟩)
                    · skip
                      refine J.skip ?_
                      refine J.inBlock ?_
                      refine J.region ?_
                      refine JL.go trivial (RX.add rfl rfl (w_i64 (r := ((i + 1 : Nat) : Int)) (by omega) (by omega) (by omega))) ?_
                      refine JL.go trivial (RX.movev (v := Value.int _ _) rfl) ?_
                      refine JL.nil ?_
                      exact IH2 (i + 1) _ _ (by omega) ⟨rfl, rfl, rfl, rfl, rfl, rfl, rfl, rfl, trivial⟩ ⟨rfl, trivial⟩ ⟨by omega, fun j hj => by
                        rcases Nat.lt_succ_iff_lt_or_eq.1 hj with h | rfl
                        · exact hok j h
                        · rw [hoi]; simp_all, H⟩
                  · skip
                    first | have e3p := of_decide_eq_false e3 | skip
                    refine JL.no ⟨_, rfl, gno e3⟩ ?_
                    refine JL.no ⟨_, rfl, gno e3⟩ ?_
                    refine JL.no ⟨_, rfl, gno e3⟩ ?_
                    refine JL.go ⟨_, rfl, rfl⟩ (RX.pick_f rfl e3) ?_
                    refine JL.go trivial (RX.pick_f rfl rfl) ?_
                    refine JL.nil ?_
                    refine J.cond_f rfl rfl ?_
                    refine J.skip ?_
                    refine J.inBlock ?_
                    refine J.region ?_
                    refine JL.go trivial (RX.add rfl rfl (w_i64 (r := ((i + 1 : Nat) : Int)) (by omega) (by omega) (by omega))) ?_
                    refine JL.go trivial (RX.movev (v := Value.int _ _) rfl) ?_
                    refine JL.nil ?_
                    exact IH2 (i + 1) _ _ (by omega) ⟨rfl, rfl, rfl, rfl, rfl, rfl, rfl, rfl, trivial⟩ ⟨rfl, trivial⟩ ⟨by omega, fun j hj => by
                      rcases Nat.lt_succ_iff_lt_or_eq.1 hj with h | rfl
                      · exact hok j h
                      · rw [hoi]; simp_all, H⟩
            · skip
              refine J.exit rfl ?_
              refine J.inBlock ?_
              refine J.region ?_
              refine JL.go trivial (RX.add rfl rfl (w_i64 (r := ((0 + 1 : Nat) : Int)) (by omega) (by omega) (by omega))) ?_
              refine JL.go trivial (RX.movev (v := Value.int _ _) rfl) ?_
              refine JL.nil ?_
              refine IH 1 _ _ (by omega) ⟨rfl, rfl, rfl, rfl, rfl, trivial⟩ ⟨rfl, trivial⟩ ⟨by omega, fun _ r2 ev2 h2 => ?_, H.drop⟩
              rw [hr] at h2
              cases h2
              exact ⟨by omega, fun j hj => hok j (by omega)⟩
        · skip
          refine J.exit rfl ?_
          refine J.seq ?_
          refine J.region ?_
          refine JL.go trivial (RX.assign) ?_
          refine JL.nil ?_
          refine J.ret1 (v := Value.bool _) Tryd.func26 rfl rfl ?_
          first
          | (exact ⟨_, rfl, by rw [goodP_w h5 hwl], H.drop.drop.drop⟩)
          | exact ⟨_, rfl, by rw [goodP_fly hf h5], H.drop.drop⟩
          | (exact ⟨_, rfl, by rw [goodP_r h5 hr hrl], H.drop.drop.drop.drop⟩)
          | (exact ⟨_, rfl, by rw [goodP_i (i := i) h5 hr (by omega) (by rw [hoi]; simp_all)], H.drop.drop.drop.drop⟩)
          | (exact ⟨_, rfl, by rw [goodP_yes hf h5 (by omega) (fun r ev hr => hall (by have := rdsN_one hr; omega) r ev hr)], H.drop.drop.drop⟩)
end Go.Proofs.YtafhajgebhicdaaDoor

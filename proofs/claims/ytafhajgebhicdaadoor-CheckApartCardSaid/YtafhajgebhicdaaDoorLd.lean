/- CheckApart. -/
import Derived.Test.YtafhajgebhicdaaDoorLc
import Derived.Test.YtafhajgebhicdaaDoorLb
namespace Go.Proofs.YtafhajgebhicdaaDoor
open Go Go.Eng
set_option maxRecDepth 100000
set_option linter.unusedVariables false
set_option linter.unusedSimpArgs false
theorem mdI : Program.underlying Tryd.prog 43 = some (.slice 3) ∧ ∃ i, Tryd.prog.info? 3 = some i ∧ i.zero = some (.int .i64 0) ∧ i.size = 1 ∧ i.bytes = 8 := ⟨by kernel_rfl, info_of (by kernel_rfl) (by kernel_rfl)⟩
theorem mdB : Program.underlying Tryd.prog 51 = some (.slice 4) ∧ ∃ i, Tryd.prog.info? 4 = some i ∧ i.zero = some (.bool false) ∧ i.size = 1 ∧ i.bytes = 1 := ⟨by kernel_rfl, info_of (by kernel_rfl) (by kernel_rfl)⟩
set_option maxHeartbeats 1600000 in
theorem CheckApart_b {w0 w : World} {F : List Seg} {E : Nat → Value} {Q : Nat → Addr} (H : Hp w0 w F) (hE : Errs F E Q) (hT : SlAt F (some ⟨19, 0, none⟩) tableC) {p : Prg} {pp : Option Addr} {pc : Nat} (hst : SlAt F pp (stepsV p.steps)) (hp : p.Ow) : Ret Tryd.prog 7 [.agg (prgV p pp p.steps.length pc).toArray] w fun v w' => v = .bool true ∧ Hp w0 w' F := by
  refine Calls.of_J (n := 166) Tryd.func7 rfl rfl rfl ?_
  refine J.seq ?_
  refine J.region ?_
  refine JL.does trivial (EX.box (v := Value.agg _) H rfl rfl) ?_
  rintro _ w ⟨b1, rfl, H⟩
  refine JL.go trivial (RX.assign) ?_
  refine JL.nil ?_
  refine J.seq ?_
  refine J.seq ?_
  refine J.region ?_
  refine JL.does trivial (EX.call rfl cl8 rfl ((lives_b H hE.cons hT.cons))) ?_
  rintro _ w ⟨rfl, H⟩
  refine JL.go trivial (RX.not rfl) ?_
  refine JL.nil ?_
  refine J.cond_f rfl rfl ?_
  refine J.skip ?_
  refine J.seq ?_
  refine J.seq ?_
  refine J.region ?_
  refine JL.go trivial (RX.loadAgg H rfl (i := 0) (vs := prgV p pp p.steps.length pc) rfl rfl ag24) ?_
  refine JL.does trivial (EX.call rfl cl9 rfl ((work_any H hst.cons hp))) ?_
  rintro _ w ⟨m, rfl, H⟩
  refine JL.go trivial (RX.gt rfl rfl) ?_
  refine JL.go trivial (RX.movev (v := Value.bool _) rfl) ?_
  refine JL.splitS 28 rfl (fun a1 => ?_) (fun a1 => ?_)
  · skip
    first | have a1p := of_decide_eq_true a1 | skip
    refine JL.no ⟨_, rfl, gno a1⟩ ?_
    refine JL.no ⟨_, rfl, gno a1⟩ ?_
    refine JL.no ⟨_, rfl, gno a1⟩ ?_
    refine JL.go trivial (RX.pick_t rfl a1) ?_
    refine JL.nil ?_
    refine J.cond_t rfl rfl ?_
    refine J.seq ?_
    refine J.region ?_
    refine JL.go trivial (RX.assign) ?_
    refine JL.nil ?_
    refine J.ret1 (v := Value.bool _) Tryd.func7 rfl rfl ?_
    exact ⟨_, rfl, rfl, H.drop⟩
  · skip
    first | have a1p := of_decide_eq_false a1 | skip
    refine JL.go ⟨_, rfl, a1⟩ (RX.loadAgg H rfl (i := 0) (vs := prgV p pp p.steps.length pc) rfl rfl ag24) ?_
    refine JL.does ⟨_, rfl, a1⟩ (EX.call rfl cl14 rfl ((Check_b H hT.cons (hE.at_ 9 (by decide) (by decide)).cons hst.cons hp))) ?_
    rintro _ w ⟨rfl, H⟩
    have hie : isErr (errV E (chkP p)) = true ∧ isNil (errV E (chkP p)) = decide (chkP p = 0) := errV_ie hE (chkP_le p)
    refine JL.go ⟨_, rfl, a1⟩ (RX.ifnil_neq (v := errV E (chkP p)) rfl rfl hie.1 if30) ?_
    refine JL.go trivial (RX.pick_f rfl a1) ?_
    refine JL.nil ?_
    refine J.cond rfl (fun a2 => ?_) (fun a2 => ?_)
    · skip
      refine J.seq ?_
      refine J.region ?_
      refine JL.go trivial (RX.assign) ?_
      refine JL.nil ?_
      refine J.ret1 (v := Value.bool _) Tryd.func7 rfl rfl ?_
      exact ⟨_, rfl, rfl, H.drop⟩
    · skip
      have hck : chkP p = 0 := by
        rw [hie.2] at a2
        simpa using a2
      obtain ⟨hlen, hgood, _⟩ := fault_none (chkP_zero hck).2
      have hhb := head_bd hck
      obtain ⟨n, hnn⟩ : ∃ n : Nat, p.cells = (n : Int) := ⟨p.cells.toNat, by omega⟩
      rw [hnn] at hhb
      refine J.skip ?_
      refine J.seq ?_
      refine J.seq ?_
      refine J.region ?_
      refine JL.go trivial (RX.fieldAddr rfl fo24_4 rfl) ?_
      refine JL.go trivial (RX.load H rfl (i := 0) (v := .slice pp p.steps.length pc) rfl rfl one22) ?_
      refine JL.go trivial (RX.len_slice rfl (by rw [sl22]; rfl) rfl) ?_
      refine JL.go trivial (RX.move) ?_
      refine JL.nil ?_
      refine J.block ?_
      refine J.loop (ι := Nat) (S := fun k => [(36, .int .i64 (k : Nat))]) (Φ := fun k w => k ≤ p.steps.length ∧ Hp w0 w ([(b1, cel (prgV p pp p.steps.length pc) 24)] :: F)) (μ := fun k => p.steps.length - k) (C := [(1, _), (34, _), (35, _)]) 0 ⟨rfl, rfl, rfl, trivial⟩ ⟨rfl, trivial⟩ ?_ ?_
      · exact ⟨Nat.zero_le _, H⟩
      clear H
      rintro k ρ w ⟨hk, H⟩ IH
      refine J.seq ?_
      refine J.region ?_
      refine JL.go trivial (RX.lt rfl rfl) ?_
      refine JL.nil ?_
      refine J.seq ?_
      refine J.cond_d rfl (fun hlt => ?_) (fun hlt => ?_)
      · skip
        obtain ⟨s, hsk⟩ : ∃ s, p.steps[k]? = some s := ⟨_, List.getElem?_eq_getElem (by omega)⟩
        have hsm := List.mem_of_getElem? hsk
        have hsok := hp.steps s hsm
        obtain ⟨pb, po, rfl, hpo⟩ := hst.some (by rw [stepsV_len]; omega)
        have hg := good_s (hgood s hsm)
        rw [hnn] at hg
        have hff := form_facts hg.f
        have htl := t_len s
        refine J.skip ?_
        refine J.seq ?_
        refine J.block ?_
        refine J.seq ?_
        refine J.region ?_
        refine JL.go trivial (RX.indexAddr rfl rfl sl22 (by omega) (by omega) (o' := po + k * 7) (by omega)) ?_
        refine JL.go trivial (RX.loadAggS H hst.cons rfl (j := k * 7) (by omega) (vs := s.v) (stepsV_read _ _ _ hsk) ag39) ?_
        refine JL.does trivial (EX.alloc H zr39 rfl) ?_
        rintro _ w ⟨b4, rfl, H⟩
        refine JL.does trivial (EX.storeAgg H rfl rfl (i := 0) (vs := s.v) (l' := s.v) rfl (stp_cell _) (by simp [Stp.v]) sz39 rfl rfl) ?_
        rintro _ w H
        refine JL.nil ?_
        refine J.seq ?_
        refine J.region ?_
        refine JL.go trivial (RX.fieldAddr rfl fo24_1 rfl) ?_
        refine JL.go trivial (RX.load H rfl (i := 1) (v := .int .i64 p.cells) rfl rfl one3) ?_
        refine JL.does trivial (EX.make1 (e := 3) (bytes := 8) (m := n) (z := .int .i64 0) H mdI.1 mdI.2 rfl rfl rfl hnn (by omega) (by omega)) ?_
        rintro _ w ⟨by_, rfl, H⟩
        rw [← by_nil (s := s)] at H
        refine JL.go trivial (RX.assignv (v := Value.slice _ _ _) rfl) ?_
        refine JL.nil ?_
        refine J.seq ?_
        refine J.region ?_
        refine JL.go trivial (RX.fieldAddr rfl fo24_1 rfl) ?_
        refine JL.go trivial (RX.load H rfl (i := 2) (v := .int .i64 p.cells) rfl rfl one3) ?_
        refine JL.does trivial (EX.make1 (e := 4) (bytes := 1) (m := n) (z := .bool false) H mdB.1 mdB.2 rfl rfl rfl hnn (by omega) (by omega)) ?_
        rintro _ w ⟨bm, rfl, H⟩
        rw [← in_nil] at H
        refine JL.go trivial (RX.assignv (v := Value.slice _ _ _) rfl) ?_
        refine JL.nil ?_
        refine J.seq ?_
        refine J.seq ?_
        refine J.region ?_
        refine JL.go trivial (RX.assign) ?_
        refine JL.nil ?_
        refine J.block ?_
        refine J.loop (ι := Nat) (S := fun i => [(7, .int .i64 (i : Nat))]) (Φ := fun i w => (i : Int) ≤ s.count ∧ Hp w0 w ([(bm, cel (fnV (inG ([])) n) 4)] :: [(by_, cel (fnV (byG s (accL (fun i : Nat => actW s i) i)) n) 3)] :: [(b4, cel s.v 39)] :: [(b1, cel (prgV p (some ⟨pb, po, none⟩) p.steps.length pc) 24)] :: F)) (μ := fun i => s.count.toNat - i) (C := [(1, _), (4, _), (5, _), (6, _), (34, _), (35, _), (36, _)]) 0 ⟨rfl, rfl, rfl, rfl, rfl, rfl, rfl, trivial⟩ ⟨rfl, trivial⟩ ?_ ?_
        · exact ⟨by omega, H⟩
        clear H
        rintro i ρ w ⟨hi, H⟩ IH1
        refine J.seq ?_
        refine J.seq ?_
        refine J.region ?_
        refine JL.go trivial (RX.movev (v := Value.int _ _) rfl) ?_
        refine JL.go trivial (RX.fieldAddr rfl fo39_4 rfl) ?_
        refine JL.go trivial (RX.load H rfl (i := 2) (v := .int .i64 s.count) rfl rfl one3) ?_
        refine JL.go trivial (RX.lt rfl rfl) ?_
        refine JL.nil ?_
        refine J.cond_d rfl (fun hl1 => ?_) (fun hl1 => ?_)
        · skip
          have hal := act_len hg.f i
          refine J.skip ?_
          refine J.seq ?_
          refine J.block ?_
          refine J.seq ?_
          refine J.region ?_
          refine JL.go trivial (RX.loadAgg H rfl (i := 2) (vs := s.v) rfl rfl ag39) ?_
          refine JL.go trivial (RX.movev (v := Value.int _ _) rfl) ?_
          refine JL.does trivial (EX.call rfl cl22 rfl ((act_b H hg.f (by omega) (by omega)))) ?_
          rintro _ w ⟨p1, c1, p2, c2, sg, rfl, hR, hW, H⟩
          refine JL.go trivial (RX.movev (v := Value.tuple _) rfl) ?_
          refine JL.go trivial (RX.extract rfl rfl) ?_
          refine JL.go trivial (RX.extract rfl rfl) ?_
          refine JL.go trivial (RX.assignv (v := Value.slice _ _ _) rfl) ?_
          refine JL.go trivial (RX.assignv (v := Value.slice _ _ _) rfl) ?_
          refine JL.nil ?_
          refine J.seq ?_
          refine J.region ?_
          refine JL.go trivial (RX.movev (v := Value.slice _ _ _) rfl) ?_
          refine JL.go trivial (RX.len_slice rfl (by rw [sl43]; rfl) rfl) ?_
          refine JL.go trivial (RX.move) ?_
          refine JL.nil ?_
          refine J.block ?_
          refine J.loop (ι := Nat) (S := fun j => [(60, .int .i64 (j : Nat))]) (Φ := fun j w => j ≤ (actW s i).length ∧ Hp w0 w (sg :: [(bm, cel (fnV (inG ([])) n) 4)] :: [(by_, cel (fnV (byG s (accL (fun i : Nat => actW s i) i ++ (actW s i).take j)) n) 3)] :: [(b4, cel s.v 39)] :: [(b1, cel (prgV p (some ⟨pb, po, none⟩) p.steps.length pc) 24)] :: F)) (μ := fun j => (actW s i).length - j) (C := [(1, _), (4, _), (5, _), (6, _), (7, _), (34, _), (35, _), (36, _), (58, _), (59, _)]) 0 ⟨rfl, rfl, rfl, rfl, rfl, rfl, rfl, rfl, rfl, rfl, trivial⟩ ⟨rfl, trivial⟩ ?_ ?_
          · exact ⟨Nat.zero_le _, by rw [List.take_zero, List.append_nil]; exact H⟩
          clear H
          rintro j ρ w ⟨hj, H⟩ IH2
          refine J.seq ?_
          refine J.region ?_
          refine JL.go trivial (RX.lt rfl rfl) ?_
          refine JL.nil ?_
          refine J.seq ?_
          refine J.cond_d rfl (fun hl2 => ?_) (fun hl2 => ?_)
          · skip
            obtain ⟨x, hx⟩ : ∃ x, (actW s i)[j]? = some x := ⟨_, List.getElem?_eq_getElem (by omega)⟩
            obtain ⟨wb, wo, rfl, _⟩ := hW.some (by rw [intsV_len]; omega)
            have hwx := hg.w i (by omega) x (List.mem_of_getElem? hx)
            have hny := not_yet hg (by omega) hx
            have hz : byG s (accL (fun i : Nat => actW s i) i ++ (actW s i).take j) x.toNat = .int .i64 0 := by unfold byG byI; rw [show ((x.toNat : Nat) : Int) = x by omega, if_neg hny]
            refine J.skip ?_
            refine J.seq ?_
            refine J.block ?_
            refine J.seq ?_
            refine J.region ?_
            refine JL.go trivial (RX.indexAddr rfl rfl sl43 (by omega) (by omega) (o' := wo + j) (by omega)) ?_
            refine JL.go trivial (RX.loadS H (sl_up hW (by simp)) rfl (j := j) rfl (v := .int .i64 x) (intsV_get hx) one3) ?_
            refine JL.go trivial (RX.assignv (v := Value.int _ _) rfl) ?_
            refine JL.nil ?_
            refine J.seq ?_
            refine J.seq ?_
            refine J.region ?_
            refine JL.go trivial (RX.movev (v := Value.int _ _) rfl) ?_
            refine JL.go trivial (RX.lt rfl rfl) ?_
            refine JL.go trivial (RX.movev (v := Value.bool _) rfl) ?_
            refine JL.go ⟨_, rfl, (decide_eq_false (by omega))⟩ (RX.movev (v := Value.int _ _) rfl) ?_
            refine JL.go ⟨_, rfl, (decide_eq_false (by omega))⟩ (RX.fieldAddr rfl fo24_1 rfl) ?_
            refine JL.go ⟨_, rfl, (decide_eq_false (by omega))⟩ (RX.load H rfl (i := 4) (v := .int .i64 p.cells) rfl rfl one3) ?_
            refine JL.go ⟨_, rfl, (decide_eq_false (by omega))⟩ (RX.ge rfl rfl) ?_
            refine JL.go trivial (RX.pick_f rfl (decide_eq_false (by omega))) ?_
            refine JL.go trivial (RX.movev (v := Value.bool _) rfl) ?_
            refine JL.go ⟨_, rfl, (decide_eq_false (by omega))⟩ (RX.movev (v := Value.slice _ _ _) rfl) ?_
            refine JL.go ⟨_, rfl, (decide_eq_false (by omega))⟩ (RX.movev (v := Value.int _ _) rfl) ?_
            refine JL.go ⟨_, rfl, (decide_eq_false (by omega))⟩ (RX.indexAddr rfl rfl sl43 (by omega) (by omega) (o' := x.toNat) (by omega)) ?_
            refine JL.go ⟨_, rfl, (decide_eq_false (by omega))⟩ (RX.load H rfl (i := 2) (v := .int .i64 0) rfl (by rw [← hz]; exact fnV_get (by omega)) one3) ?_
            refine JL.go ⟨_, rfl, (decide_eq_false (by omega))⟩ (RX.ne rfl rfl) ?_
            refine JL.go trivial (RX.pick_f rfl (decide_eq_false (by omega))) ?_
            refine JL.nil ?_
            refine J.cond_f rfl (by decide) ?_
            refine J.skip ?_
            refine J.region ?_
            refine JL.go trivial (RX.movev (v := Value.slice _ _ _) rfl) ?_
            refine JL.go trivial (RX.movev (v := Value.int _ _) rfl) ?_
            refine JL.go trivial (RX.movev (v := Value.int _ _) rfl) ?_
            refine JL.go trivial (RX.add rfl rfl (w_i64 (r := (i : Int) + 1) rfl (by omega) (by omega))) ?_
            refine JL.go trivial (RX.indexAddr rfl rfl sl43 (by omega) (by omega) (o' := x.toNat) (by omega)) ?_
            refine JL.does trivial (EX.store (v := Value.int .i64 ((i : Int) + 1)) H rfl rfl (i := 2) (l' := fnV (byG s (accL (fun i : Nat => actW s i) i ++ (actW s i).take j ++ [x])) n) rfl rfl (by rw [fnV_len]; omega) sz3 (by_set (by omega) hwx.2.2) rfl) ?_
            rintro _ w H
            refine JL.nil ?_
            refine J.inBlock ?_
            refine J.region ?_
            refine JL.go trivial (RX.add rfl rfl (w_i64 (r := ((j + 1 : Nat) : Int)) (by omega) (by omega) (by omega))) ?_
            refine JL.go trivial (RX.movev (v := Value.int _ _) rfl) ?_
            refine JL.nil ?_
            rw [List.append_assoc, ← take_succ_get hx] at H
            exact IH2 (j + 1) _ _ (by omega) ⟨rfl, rfl, rfl, rfl, rfl, rfl, rfl, rfl, rfl, rfl, trivial⟩ ⟨rfl, trivial⟩ ⟨by omega, H⟩
          · skip
            refine J.exit rfl ?_
            refine J.inBlock ?_
            refine J.region ?_
            refine JL.go trivial (RX.movev (v := Value.int _ _) rfl) ?_
            refine JL.go trivial (RX.add rfl rfl (w_i64 (r := ((i + 1 : Nat) : Int)) (by omega) (by omega) (by omega))) ?_
            refine JL.go trivial (RX.assignv (v := Value.int _ _) rfl) ?_
            refine JL.nil ?_
            rw [List.take_of_length_le (by omega)] at H
            exact IH1 (i + 1) _ _ (by omega) ⟨rfl, rfl, rfl, rfl, rfl, rfl, rfl, trivial⟩ ⟨rfl, trivial⟩ ⟨by omega, H.drop⟩
        · skip
          refine J.exit rfl ?_
          refine J.seq ?_
          refine J.seq ?_
          have hic : i = s.count.toNat := by omega
          subst hic
          refine J.region ?_
          refine JL.go trivial (RX.assign) ?_
          refine JL.nil ?_
          refine J.block ?_
          refine J.loop (ι := Nat) (S := fun i => [(12, .int .i64 (i : Nat))]) (Φ := fun i w => (i : Int) ≤ s.count ∧ Hp w0 w ([(bm, cel (fnV (inG (accL (fun i : Nat => actR s i) i)) n) 4)] :: [(by_, cel (fnV (byG s (accL (fun i : Nat => actW s i) s.count.toNat)) n) 3)] :: [(b4, cel s.v 39)] :: [(b1, cel (prgV p (some ⟨pb, po, none⟩) p.steps.length pc) 24)] :: F)) (μ := fun i => s.count.toNat - i) (C := [(1, _), (4, _), (5, _), (6, _), (34, _), (35, _), (36, _)]) 0 ⟨rfl, rfl, rfl, rfl, rfl, rfl, rfl, trivial⟩ ⟨rfl, trivial⟩ ?_ ?_
          · exact ⟨by omega, H⟩
          clear H
          rintro i ρ w ⟨hi, H⟩ IH3
          refine J.seq ?_
          refine J.seq ?_
          refine J.region ?_
          refine JL.go trivial (RX.movev (v := Value.int _ _) rfl) ?_
          refine JL.go trivial (RX.fieldAddr rfl fo39_4 rfl) ?_
          refine JL.go trivial (RX.load H rfl (i := 2) (v := .int .i64 s.count) rfl rfl one3) ?_
          refine JL.go trivial (RX.lt rfl rfl) ?_
          refine JL.nil ?_
          refine J.cond_d rfl (fun hl3 => ?_) (fun hl3 => ?_)
          · skip
            have hal := act_len hg.f i
            refine J.skip ?_
            refine J.seq ?_
            refine J.block ?_
            refine J.seq ?_
            refine J.region ?_
            refine JL.go trivial (RX.loadAgg H rfl (i := 2) (vs := s.v) rfl rfl ag39) ?_
            refine JL.go trivial (RX.movev (v := Value.int _ _) rfl) ?_
            refine JL.does trivial (EX.call rfl cl22 rfl ((act_b H hg.f (by omega) (by omega)))) ?_
            rintro _ w ⟨p1, c1, p2, c2, sg, rfl, hR, hW, H⟩
            refine JL.go trivial (RX.movev (v := Value.tuple _) rfl) ?_
            refine JL.go trivial (RX.extract rfl rfl) ?_
            refine JL.go trivial (RX.extract rfl rfl) ?_
            refine JL.go trivial (RX.assignv (v := Value.slice _ _ _) rfl) ?_
            refine JL.go trivial (RX.assignv (v := Value.slice _ _ _) rfl) ?_
            refine JL.nil ?_
            refine J.seq ?_
            refine J.region ?_
            refine JL.go trivial (RX.movev (v := Value.slice _ _ _) rfl) ?_
            refine JL.go trivial (RX.len_slice rfl (by rw [sl43]; rfl) rfl) ?_
            refine JL.go trivial (RX.move) ?_
            refine JL.nil ?_
            refine J.block ?_
            refine J.loop (ι := Nat) (S := fun j => [(99, .int .i64 (j : Nat))]) (Φ := fun j w => j ≤ (actR s i).length ∧ Hp w0 w (sg :: [(bm, cel (fnV (inG (accL (fun i : Nat => actR s i) i ++ (actR s i).take j)) n) 4)] :: [(by_, cel (fnV (byG s (accL (fun i : Nat => actW s i) s.count.toNat)) n) 3)] :: [(b4, cel s.v 39)] :: [(b1, cel (prgV p (some ⟨pb, po, none⟩) p.steps.length pc) 24)] :: F)) (μ := fun j => (actR s i).length - j) (C := [(1, _), (4, _), (5, _), (6, _), (12, _), (34, _), (35, _), (36, _), (97, _), (98, _)]) 0 ⟨rfl, rfl, rfl, rfl, rfl, rfl, rfl, rfl, rfl, rfl, trivial⟩ ⟨rfl, trivial⟩ ?_ ?_
            · exact ⟨Nat.zero_le _, by rw [List.take_zero, List.append_nil]; exact H⟩
            clear H
            rintro j ρ w ⟨hj, H⟩ IH4
            refine J.seq ?_
            refine J.region ?_
            refine JL.go trivial (RX.lt rfl rfl) ?_
            refine JL.nil ?_
            refine J.seq ?_
            refine J.cond_d rfl (fun hl4 => ?_) (fun hl4 => ?_)
            · skip
              obtain ⟨x, hx⟩ : ∃ x, (actR s i)[j]? = some x := ⟨_, List.getElem?_eq_getElem (by omega)⟩
              obtain ⟨wb, wo, rfl, _⟩ := hR.some (by rw [intsV_len]; omega)
              have hwx := hg.r i (by omega) x (List.mem_of_getElem? hx)
              have ec : ((x.toNat : Nat) : Int) = x := by omega
              have hz : (fnV (byG s (accL (fun i : Nat => actW s i) s.count.toNat)) n)[x.toNat]? = some (.int .i64 (byI s (accL (fun i : Nat => actW s i) s.count.toNat) x.toNat)) := fnV_get (by omega)
              have hbi : byI s (accL (fun i : Nat => actW s i) s.count.toNat) x.toNat = 0 ∨ byI s (accL (fun i : Nat => actW s i) s.count.toNat) x.toNat = i + 1 := by
                by_cases hm : ((x.toNat : Nat) : Int) ∈ accL (fun i : Nat => actW s i) s.count.toNat
                · obtain ⟨i2, e1, e2⟩ := by_in hg hm
                  rw [ec] at e1
                  rcases hwx.2.2 with h | h <;> omega
                · left; unfold byI; rw [if_neg hm]
              generalize byI s (accL (fun i : Nat => actW s i) s.count.toNat) x.toNat = V at hz hbi
              refine J.skip ?_
              refine J.seq ?_
              refine J.block ?_
              refine J.seq ?_
              refine J.region ?_
              refine JL.go trivial (RX.indexAddr rfl rfl sl43 (by omega) (by omega) (o' := wo + j) (by omega)) ?_
              refine JL.go trivial (RX.loadS H (sl_up hR (by simp)) rfl (j := j) rfl (v := .int .i64 x) (intsV_get hx) one3) ?_
              refine JL.go trivial (RX.assignv (v := Value.int _ _) rfl) ?_
              refine JL.nil ?_
              refine J.seq ?_
              refine J.seq ?_
              refine J.region ?_
              refine JL.go trivial (RX.movev (v := Value.int _ _) rfl) ?_
              refine JL.go trivial (RX.lt rfl rfl) ?_
              refine JL.go trivial (RX.movev (v := Value.bool _) rfl) ?_
              refine JL.go ⟨_, rfl, (decide_eq_false (by omega))⟩ (RX.movev (v := Value.int _ _) rfl) ?_
              refine JL.go ⟨_, rfl, (decide_eq_false (by omega))⟩ (RX.fieldAddr rfl fo24_1 rfl) ?_
              refine JL.go ⟨_, rfl, (decide_eq_false (by omega))⟩ (RX.load H rfl (i := 4) (v := .int .i64 p.cells) rfl rfl one3) ?_
              refine JL.go ⟨_, rfl, (decide_eq_false (by omega))⟩ (RX.ge rfl rfl) ?_
              refine JL.go trivial (RX.pick_f rfl (decide_eq_false (by omega))) ?_
              refine JL.go trivial (RX.movev (v := Value.bool _) rfl) ?_
              refine JL.go ⟨_, rfl, (decide_eq_false (by omega))⟩ (RX.movev (v := Value.slice _ _ _) rfl) ?_
              refine JL.go ⟨_, rfl, (decide_eq_false (by omega))⟩ (RX.movev (v := Value.int _ _) rfl) ?_
              refine JL.go ⟨_, rfl, (decide_eq_false (by omega))⟩ (RX.indexAddr rfl rfl sl43 (by omega) (by omega) (o' := x.toNat) (by omega)) ?_
              refine JL.go ⟨_, rfl, (decide_eq_false (by omega))⟩ (RX.load H rfl (i := 2) (v := .int .i64 V) rfl hz one3) ?_
              refine JL.go ⟨_, rfl, (decide_eq_false (by omega))⟩ (RX.ne rfl rfl) ?_
              refine JL.go ⟨_, rfl, (decide_eq_false (by omega))⟩ (RX.movev (v := Value.bool _) rfl) ?_
              refine JL.splitS 117 rfl (fun e1 => ?_) (fun e1 => ?_)
              · skip
                first | have e1p := of_decide_eq_true e1 | skip
                have e1q := of_decide_eq_true e1
                refine JL.go ⟨_, rfl, e1⟩ (RX.movev (v := Value.slice _ _ _) rfl) ?_
                refine JL.go ⟨_, rfl, e1⟩ (RX.movev (v := Value.int _ _) rfl) ?_
                refine JL.go ⟨_, rfl, e1⟩ (RX.indexAddr rfl rfl sl43 (by omega) (by omega) (o' := x.toNat) (by omega)) ?_
                refine JL.go ⟨_, rfl, e1⟩ (RX.load H rfl (i := 2) (v := .int .i64 V) rfl hz one3) ?_
                refine JL.go ⟨_, rfl, e1⟩ (RX.movev (v := Value.int _ _) rfl) ?_
                refine JL.go ⟨_, rfl, e1⟩ (RX.add rfl rfl (w_i64 (r := (i : Int) + 1) rfl (by omega) (by omega))) ?_
                refine JL.go ⟨_, rfl, e1⟩ (RX.ne rfl rfl) ?_
                refine JL.go ⟨_, rfl, (decide_eq_false (by omega))⟩ (RX.pick_t rfl e1) ?_
                refine JL.go trivial (RX.pick_f rfl (decide_eq_false (by omega))) ?_
                refine JL.nil ?_
                refine J.cond_f rfl (decide_eq_false (by omega)) ?_
                refine J.skip ?_
                refine J.region ?_
                refine JL.go trivial (RX.movev (v := Value.slice _ _ _) rfl) ?_
                refine JL.go trivial (RX.movev (v := Value.int _ _) rfl) ?_
                refine JL.go trivial (RX.indexAddr rfl rfl sl51 (by omega) (by omega) (o' := x.toNat) (by omega)) ?_
                refine JL.does trivial (EX.store (v := Value.bool true) H rfl rfl (i := 1) (l' := fnV (inG (accL (fun i : Nat => actR s i) i ++ (actR s i).take j ++ [x])) n) rfl rfl (by rw [fnV_len]; omega) sz4 (in_set (by omega)) rfl) ?_
                rintro _ w H
                refine JL.nil ?_
                refine J.inBlock ?_
                refine J.region ?_
                refine JL.go trivial (RX.add rfl rfl (w_i64 (r := ((j + 1 : Nat) : Int)) (by omega) (by omega) (by omega))) ?_
                refine JL.go trivial (RX.movev (v := Value.int _ _) rfl) ?_
                refine JL.nil ?_
                rw [List.append_assoc, ← take_succ_get hx] at H
                exact IH4 (j + 1) _ _ (by omega) ⟨rfl, rfl, rfl, rfl, rfl, rfl, rfl, rfl, rfl, rfl, trivial⟩ ⟨rfl, trivial⟩ ⟨by omega, H⟩
              · skip
                first | have e1p := of_decide_eq_false e1 | skip
                refine JL.no ⟨_, rfl, gno e1⟩ ?_
                refine JL.no ⟨_, rfl, gno e1⟩ ?_
                refine JL.no ⟨_, rfl, gno e1⟩ ?_
                refine JL.no ⟨_, rfl, gno e1⟩ ?_
                refine JL.no ⟨_, rfl, gno e1⟩ ?_
                refine JL.no ⟨_, rfl, gno e1⟩ ?_
                refine JL.no ⟨_, rfl, gno e1⟩ ?_
                refine JL.go ⟨_, rfl, (decide_eq_false (by omega))⟩ (RX.pick_f rfl e1) ?_
                refine JL.go trivial (RX.pick_f rfl (decide_eq_false (by omega))) ?_
                refine JL.nil ?_
                refine J.cond_f rfl rfl ?_
                refine J.skip ?_
                refine J.region ?_
                refine JL.go trivial (RX.movev (v := Value.slice _ _ _) rfl) ?_
                refine JL.go trivial (RX.movev (v := Value.int _ _) rfl) ?_
                refine JL.go trivial (RX.indexAddr rfl rfl sl51 (by omega) (by omega) (o' := x.toNat) (by omega)) ?_
                refine JL.does trivial (EX.store (v := Value.bool true) H rfl rfl (i := 1) (l' := fnV (inG (accL (fun i : Nat => actR s i) i ++ (actR s i).take j ++ [x])) n) rfl rfl (by rw [fnV_len]; omega) sz4 (in_set (by omega)) rfl) ?_
                rintro _ w H
                refine JL.nil ?_
                refine J.inBlock ?_
                refine J.region ?_
                refine JL.go trivial (RX.add rfl rfl (w_i64 (r := ((j + 1 : Nat) : Int)) (by omega) (by omega) (by omega))) ?_
                refine JL.go trivial (RX.movev (v := Value.int _ _) rfl) ?_
                refine JL.nil ?_
                rw [List.append_assoc, ← take_succ_get hx] at H
                exact IH4 (j + 1) _ _ (by omega) ⟨rfl, rfl, rfl, rfl, rfl, rfl, rfl, rfl, rfl, rfl, trivial⟩ ⟨rfl, trivial⟩ ⟨by omega, H⟩
            · skip
              refine J.exit rfl ?_
              refine J.inBlock ?_
              refine J.region ?_
              refine JL.go trivial (RX.movev (v := Value.int _ _) rfl) ?_
              refine JL.go trivial (RX.add rfl rfl (w_i64 (r := ((i + 1 : Nat) : Int)) (by omega) (by omega) (by omega))) ?_
              refine JL.go trivial (RX.assignv (v := Value.int _ _) rfl) ?_
              refine JL.nil ?_
              rw [List.take_of_length_le (by omega)] at H
              exact IH3 (i + 1) _ _ (by omega) ⟨rfl, rfl, rfl, rfl, rfl, rfl, rfl, trivial⟩ ⟨rfl, trivial⟩ ⟨by omega, H.drop⟩
          · skip
            refine J.exit rfl ?_
            refine J.seq ?_
            have hic : i = s.count.toNat := by omega
            subst hic
            refine J.region ?_
            refine JL.go trivial (RX.loadAgg H rfl (i := 2) (vs := s.v) rfl rfl ag39) ?_
            refine JL.does trivial (EX.call rfl cl19 rfl ((Touched_b H hT.cons.cons.cons.cons (hE.at_ 9 (by decide) (by decide)).cons.cons.cons.cons hsok))) ?_
            rintro _ w ⟨p1, c1, s1, p2, c2, s2, rfl, ho1, ho2, H⟩
            rw [show (if formB s = true then 0 else 9) = 0 from if_pos hg.f]
            refine JL.go trivial (RX.movev (v := Value.tuple _) rfl) ?_
            refine JL.go trivial (RX.extract rfl rfl) ?_
            refine JL.go trivial (RX.extract rfl rfl) ?_
            refine JL.go trivial (RX.extract (v := Value.nilIface) rfl rfl) ?_
            refine JL.go trivial (RX.assignv (v := Value.slice _ _ _) rfl) ?_
            refine JL.go trivial (RX.assignv (v := Value.slice _ _ _) rfl) ?_
            refine JL.go trivial (RX.assignv (v := Value.nilIface) rfl) ?_
            refine JL.nil ?_
            refine J.seq ?_
            refine J.seq ?_
            refine J.region ?_
            refine JL.go trivial (RX.movev (v := Value.nilIface) rfl) ?_
            refine JL.go trivial (RX.ifnil_neq (v := Value.nilIface) rfl rfl rfl if30) ?_
            refine JL.go trivial (RX.movev (v := Value.bool _) rfl) ?_
            refine JL.go ⟨_, rfl, rfl⟩ (RX.movev (v := Value.slice _ _ _) rfl) ?_
            refine JL.go ⟨_, rfl, rfl⟩ (RX.movev (v := Value.slice _ _ _) rfl) ?_
            refine JL.does ⟨_, rfl, rfl⟩ (EX.call rfl cl23 rfl ((told_b H (tR_mk hg) (sl_up (ho1.slAt (L := [])) (by simp)) (SlAt.cons (SlAt.cons (SlAt.here (show (fnV (inG (accL (fun i : Nat => actR s i) s.count.toNat)) n).take (fnV (inG (accL (fun i : Nat => actR s i) s.count.toNat)) n).length = fnV (inG (accL (fun i : Nat => actR s i) s.count.toNat)) n from List.take_length)))) (by omega) (by omega)))) ?_
            rintro _ w ⟨rfl, H⟩
            refine JL.go ⟨_, rfl, rfl⟩ (RX.not rfl) ?_
            refine JL.go trivial (RX.pick_f rfl rfl) ?_
            refine JL.nil ?_
            refine J.cond_f rfl rfl ?_
            refine J.skip ?_
            refine J.seq ?_
            refine J.region ?_
            refine JL.go trivial (RX.fieldAddr rfl fo24_1 rfl) ?_
            refine JL.go trivial (RX.load H rfl (i := 5) (v := .int .i64 p.cells) rfl rfl one3) ?_
            refine JL.does trivial (EX.make1 (e := 4) (bytes := 1) (m := n) (z := .bool false) H mdB.1 mdB.2 rfl rfl rfl hnn (by omega) (by omega)) ?_
            rintro _ w ⟨bw, rfl, H⟩
            rw [← up_zero (W := accL (fun i : Nat => actW s i) s.count.toNat)] at H
            refine JL.go trivial (RX.assignv (v := Value.slice _ _ _) rfl) ?_
            refine JL.nil ?_
            refine J.seq ?_
            refine J.seq ?_
            refine J.region ?_
            refine JL.go trivial (RX.movev (v := Value.slice _ _ _) rfl) ?_
            refine JL.go trivial (RX.len_slice rfl (by rw [sl43]; rfl) rfl) ?_
            refine JL.go trivial (RX.move) ?_
            refine JL.nil ?_
            refine J.block ?_
            refine J.loop (ι := Nat) (S := fun k2 => [(150, .int .i64 (k2 : Nat))]) (Φ := fun k2 w => k2 ≤ n ∧ Hp w0 w ([(bw, cel (fnV (upG (accL (fun i : Nat => actW s i) s.count.toNat) k2) n) 4)] :: s1 :: s2 :: [(bm, cel (fnV (inG (accL (fun i : Nat => actR s i) s.count.toNat)) n) 4)] :: [(by_, cel (fnV (byG s (accL (fun i : Nat => actW s i) s.count.toNat)) n) 3)] :: [(b4, cel s.v 39)] :: [(b1, cel (prgV p (some ⟨pb, po, none⟩) p.steps.length pc) 24)] :: F)) (μ := fun k2 => n - k2) (C := [(1, _), (18, _), (20, _), (34, _), (35, _), (36, _), (148, _), (149, _)]) 0 ⟨rfl, rfl, rfl, rfl, rfl, rfl, rfl, rfl, trivial⟩ ⟨rfl, trivial⟩ ?_ ?_
            · exact ⟨Nat.zero_le _, H⟩
            clear H
            rintro k2 ρ w ⟨hk2, H⟩ IH5
            refine J.seq ?_
            refine J.region ?_
            refine JL.go trivial (RX.lt rfl rfl) ?_
            refine JL.nil ?_
            refine J.seq ?_
            refine J.cond_d rfl (fun hl5 => ?_) (fun hl5 => ?_)
            · skip
              refine J.skip ?_
              refine J.seq ?_
              refine J.block ?_
              refine J.seq ?_
              refine J.region ?_
              refine JL.go trivial (RX.movev (v := Value.int _ _) rfl) ?_
              refine JL.go trivial (RX.indexAddr rfl rfl sl43 (by omega) (by omega) (o' := k2) (by omega)) ?_
              refine JL.go trivial (RX.load H rfl (i := 4) (v := byG s (accL (fun i : Nat => actW s i) s.count.toNat) k2) rfl (fnV_get (by omega)) one3) ?_
              refine JL.go trivial (RX.assignv (v := Value.int _ _) rfl) ?_
              refine JL.go trivial (RX.assignv (v := Value.int .i64 (byI s (accL (fun i : Nat => actW s i) s.count.toNat) k2)) rfl) ?_
              refine JL.nil ?_
              refine J.region ?_
              refine JL.go trivial (RX.movev (v := Value.slice _ _ _) rfl) ?_
              refine JL.go trivial (RX.movev (v := Value.int _ _) rfl) ?_
              refine JL.go trivial (RX.movev (v := Value.int _ _) rfl) ?_
              refine JL.go trivial (RX.ne rfl rfl) ?_
              refine JL.go trivial (RX.indexAddr rfl rfl sl51 (by omega) (by omega) (o' := k2) (by omega)) ?_
              rw [by_ne hg k2]
              refine JL.does trivial (EX.store (v := Value.bool (inB (accL (fun i : Nat => actW s i) s.count.toNat) k2)) H rfl rfl (i := 0) (l' := fnV (upG (accL (fun i : Nat => actW s i) s.count.toNat) (k2 + 1)) n) rfl rfl (by rw [fnV_len]; omega) sz4 up_set rfl) ?_
              rintro _ w H
              refine JL.nil ?_
              refine J.inBlock ?_
              refine J.region ?_
              refine JL.go trivial (RX.add rfl rfl (w_i64 (r := ((k2 + 1 : Nat) : Int)) (by omega) (by omega) (by omega))) ?_
              refine JL.go trivial (RX.movev (v := Value.int _ _) rfl) ?_
              refine JL.nil ?_
              exact IH5 (k2 + 1) _ _ (by omega) ⟨rfl, rfl, rfl, rfl, rfl, rfl, rfl, rfl, trivial⟩ ⟨rfl, trivial⟩ ⟨by omega, H⟩
            · skip
              refine J.exit rfl ?_
              refine J.seq ?_
              have hkn : k2 = n := by omega
              subst hkn
              rw [up_full] at H
              refine J.region ?_
              refine JL.go trivial (RX.movev (v := Value.slice _ _ _) rfl) ?_
              refine JL.go trivial (RX.movev (v := Value.slice _ _ _) rfl) ?_
              refine JL.does trivial (EX.call rfl cl23 rfl ((told_b H (tW_mk hg) (sl_up (ho2.slAt (L := [])) (by simp)) (SlAt.here (show (fnV (inG (accL (fun i : Nat => actW s i) s.count.toNat)) k2).take (fnV (inG (accL (fun i : Nat => actW s i) s.count.toNat)) k2).length = fnV (inG (accL (fun i : Nat => actW s i) s.count.toNat)) k2 from List.take_length)) (by omega) (by omega)))) ?_
              rintro _ w ⟨rfl, H⟩
              refine JL.go trivial (RX.not rfl) ?_
              refine JL.nil ?_
              refine J.cond_f rfl rfl ?_
              refine J.skip ?_
              refine J.inBlock ?_
              refine J.region ?_
              refine JL.go trivial (RX.add rfl rfl (w_i64 (r := ((k + 1 : Nat) : Int)) (by omega) (by omega) (by omega))) ?_
              refine JL.go trivial (RX.movev (v := Value.int _ _) rfl) ?_
              refine JL.nil ?_
              exact IH (k + 1) _ _ (by omega) ⟨rfl, rfl, rfl, trivial⟩ ⟨rfl, trivial⟩ ⟨by omega, H.drop.drop.drop.drop.drop.drop⟩
      · skip
        refine J.exit rfl ?_
        refine J.seq ?_
        refine J.region ?_
        refine JL.go trivial (RX.assign) ?_
        refine JL.nil ?_
        refine J.ret1 (v := Value.bool _) Tryd.func7 rfl rfl ?_
        exact ⟨_, rfl, rfl, H.drop⟩
end Go.Proofs.YtafhajgebhicdaaDoor

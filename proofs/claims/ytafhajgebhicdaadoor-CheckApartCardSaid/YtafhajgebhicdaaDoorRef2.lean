/- The reference's Fault, Check, Acts. -/
import Derived.Test.YtafhajgebhicdaaDoorRef
namespace Go.Proofs.YtafhajgebhicdaaDoor
open Go Go.Eng
set_option maxRecDepth 100000
set_option linter.unusedVariables false
set_option linter.unusedSimpArgs false
theorem fault_r {w0 w : World} {F : List Seg} (H : Hp w0 w F) {p : Prg} {pp : Option Addr} {pc : Nat} (hst : SlAt F pp (stepsV p.steps)) (hp : p.Ow) : Ret Tryd.prog 17 [.agg (prgV p pp p.steps.length pc).toArray] w fun v w' => v = .int .i64 (faultP p.steps p.cells) ∧ Hp w0 w' F := by
  refine Calls.of_J (n := 39) Tryd.func17 rfl rfl rfl ?_
  refine J.seq ?_
  refine J.region ?_
  refine JL.does trivial (EX.box (v := Value.agg _) H rfl rfl) ?_
  rintro _ w ⟨b1, rfl, H⟩
  refine JL.go trivial (RX.assign) ?_
  refine JL.nil ?_
  refine J.seq ?_
  refine J.region ?_
  refine JL.go trivial (RX.assign) ?_
  refine JL.nil ?_
  refine J.seq ?_
  refine J.seq ?_
  refine J.region ?_
  refine JL.go trivial (RX.fieldAddr rfl fo24_4 rfl) ?_
  refine JL.go trivial (RX.load H rfl (i := 0) (v := .slice pp p.steps.length pc) rfl rfl one22) ?_
  refine JL.go trivial (RX.len_slice rfl (by rw [sl22]; rfl) rfl) ?_
  refine JL.go trivial (RX.move) ?_
  refine JL.nil ?_
  have hnum := hp.num
  refine J.block ?_
  refine J.loop (ι := Nat × Int) (S := fun q => [(11, .int .i64 (q.1 : Nat)), (3, .int .i64 q.2)]) (Φ := fun q w => q.1 ≤ p.steps.length ∧ 0 ≤ q.2 ∧ q.2 ≤ 67108864 ∧ faultA p.cells (p.steps.drop q.1) q.1 q.2 = faultP p.steps p.cells ∧ Hp w0 w ([(b1, cel (prgV p pp p.steps.length pc) 24)] :: F)) (μ := fun q => p.steps.length - q.1) (C := [(1, _), (9, _), (10, _)]) (0, 0) ⟨rfl, rfl, rfl, trivial⟩ ⟨rfl, rfl, trivial⟩ ?_ ?_
  · exact ⟨Nat.zero_le _, by decide, by decide, rfl, H⟩
  clear H
  rintro ⟨k, sum⟩ ρ w ⟨hk, hs0, hs1, hfa, H⟩ IH
  simp only at hk hs0 hs1 hfa H
  dsimp only
  refine J.seq ?_
  refine J.region ?_
  refine JL.go trivial (RX.lt rfl rfl) ?_
  refine JL.nil ?_
  refine J.seq ?_
  refine J.cond_d rfl (fun hlt => ?_) (fun hlt => ?_)
  · skip
    obtain ⟨s, hsk⟩ : ∃ s, p.steps[k]? = some s := ⟨_, List.getElem?_eq_getElem (by omega)⟩
    have hsm := List.mem_of_getElem? hsk
    have hsok := hp.steps s hsm
    obtain ⟨pb, po, rfl, hpo⟩ := hst.some (by rw [stepsV_len]; omega)
    rw [List.drop_eq_getElem_cons (i := k) (by omega), show p.steps[k] = s from (List.getElem?_eq_some_iff.1 hsk).2] at hfa
    refine J.skip ?_
    refine J.seq ?_
    refine J.block ?_
    refine J.seq ?_
    refine J.region ?_
    refine JL.go trivial (RX.movev (v := Value.int _ _) rfl) ?_
    refine JL.go trivial (RX.indexAddr rfl rfl sl22 (by omega) (by omega) (o' := po + k * 7) (by omega)) ?_
    refine JL.go trivial (RX.loadAggS H hst.cons rfl (j := k * 7) (by omega) (vs := s.v) (stepsV_read _ _ _ hsk) ag39) ?_
    refine JL.does trivial (EX.alloc H zr39 rfl) ?_
    rintro _ w ⟨b5, rfl, H⟩
    refine JL.go trivial (RX.assignv (v := Value.int _ _) rfl) ?_
    refine JL.does trivial (EX.storeAgg H rfl rfl (i := 0) (vs := s.v) (l' := s.v) rfl (stp_cell _) (by simp [Stp.v]) sz39 rfl rfl) ?_
    rintro _ w H
    refine JL.nil ?_
    refine J.seq ?_
    refine J.seq ?_
    refine J.region ?_
    refine JL.go trivial (RX.movev (v := Value.int _ _) rfl) ?_
    refine JL.go trivial (RX.eq rfl rfl) ?_
    refine JL.nil ?_
    refine J.cond_d rfl (fun e1 => ?_) (fun e1 => ?_)
    · skip
      refine J.seq ?_
      refine J.region ?_
      refine JL.go trivial (RX.movev (v := Value.int _ _) rfl) ?_
      refine JL.go trivial (RX.assignv (v := Value.int _ _) rfl) ?_
      refine JL.nil ?_
      refine J.ret1 (v := Value.int _ _) Tryd.func17 rfl rfl ?_
      exact ⟨_, rfl, by rw [← hfa, faultA_bad (.inl (by omega))], H.drop.drop⟩
    · skip
      refine J.skip ?_
      refine J.seq ?_
      refine J.region ?_
      refine JL.go trivial (RX.loadAgg H rfl (i := 0) (vs := s.v) rfl rfl ag39) ?_
      refine JL.does trivial (EX.call rfl cl24 rfl ((rform_b H hsok))) ?_
      rintro _ w ⟨rfl, H⟩
      refine JL.go trivial (RX.assignv (v := Value.int _ _) rfl) ?_
      refine JL.nil ?_
      refine J.seq ?_
      refine J.seq ?_
      refine J.region ?_
      refine JL.go trivial (RX.movev (v := Value.int _ _) rfl) ?_
      refine JL.go trivial (RX.ne rfl rfl) ?_
      refine JL.nil ?_
      refine J.cond_d rfl (fun hfb => ?_) (fun hfb => ?_)
      · skip
        have hf : formB s = false := by
          cases h : formB s with
          | false => rfl
          | true => rw [h] at hfb; exact absurd hfb (by decide)
        refine J.seq ?_
        refine J.region ?_
        refine JL.go trivial (RX.movev (v := Value.int _ _) rfl) ?_
        refine JL.go trivial (RX.assignv (v := Value.int _ _) rfl) ?_
        refine JL.nil ?_
        refine J.ret1 (v := Value.int _ _) Tryd.func17 rfl rfl ?_
        exact ⟨_, rfl, by rw [← hfa, faultA_bad (.inr (goodP_no hf))], H.drop.drop⟩
      · skip
        have hf : formB s = true := by
          cases h : formB s with
          | true => rfl
          | false => rw [h] at hfb; exact absurd hfb (by decide)
        have ff := form_facts hf
        refine J.skip ?_
        refine J.seq ?_
        refine J.region ?_
        refine JL.go trivial (RX.movev (v := Value.int _ _) rfl) ?_
        refine JL.go trivial (RX.fieldAddr rfl fo39_4 rfl) ?_
        refine JL.go trivial (RX.load H rfl (i := 0) (v := .int .i64 s.count) rfl rfl one3) ?_
        refine JL.go trivial (RX.add rfl rfl (w_i64 rfl (by omega) (by omega))) ?_
        refine JL.go trivial (RX.assignv (v := Value.int _ _) rfl) ?_
        refine JL.nil ?_
        refine J.seq ?_
        refine J.seq ?_
        refine J.region ?_
        refine JL.go trivial (RX.movev (v := Value.int _ _) rfl) ?_
        refine JL.go trivial (RX.gt rfl rfl) ?_
        refine JL.nil ?_
        refine J.cond_d rfl (fun hmu => ?_) (fun hmu => ?_)
        · skip
          refine J.seq ?_
          refine J.region ?_
          refine JL.go trivial (RX.movev (v := Value.int _ _) rfl) ?_
          refine JL.go trivial (RX.assignv (v := Value.int _ _) rfl) ?_
          refine JL.nil ?_
          refine J.ret1 (v := Value.int _ _) Tryd.func17 rfl rfl ?_
          exact ⟨_, rfl, by rw [← hfa, faultA_much hmu], H.drop.drop⟩
        · skip
          refine J.skip ?_
          refine J.seq ?_
          refine J.region ?_
          refine JL.go trivial (RX.loadAgg H rfl (i := 0) (vs := s.v) rfl rfl ag39) ?_
          refine JL.go trivial (RX.fieldAddr rfl fo24_1 rfl) ?_
          refine JL.go trivial (RX.load H rfl (i := 1) (v := .int .i64 p.cells) rfl rfl one3) ?_
          refine JL.does trivial (EX.call rfl cl27 rfl ((good_r H hsok))) ?_
          rintro _ w ⟨rfl, H⟩
          refine JL.go trivial (RX.assignv (v := Value.bool _) rfl) ?_
          refine JL.nil ?_
          refine J.seq ?_
          refine J.region ?_
          refine JL.go trivial (RX.movev (v := Value.bool _) rfl) ?_
          refine JL.go trivial (RX.not rfl) ?_
          refine JL.nil ?_
          refine J.cond rfl (fun hg => ?_) (fun hg => ?_)
          · skip
            have hg2 : goodP s p.cells = false := by simpa using hg
            refine J.seq ?_
            refine J.region ?_
            refine JL.go trivial (RX.movev (v := Value.int _ _) rfl) ?_
            refine JL.go trivial (RX.assignv (v := Value.int _ _) rfl) ?_
            refine JL.nil ?_
            refine J.ret1 (v := Value.int _ _) Tryd.func17 rfl rfl ?_
            exact ⟨_, rfl, by rw [← hfa, faultA_bad (.inr hg2)], H.drop.drop⟩
          · skip
            have hg2 : goodP s p.cells = true := by simpa using hg
            refine J.skip ?_
            refine J.inBlock ?_
            refine J.region ?_
            refine JL.go trivial (RX.add rfl rfl (w_i64 (r := ((k + 1 : Nat) : Int)) (by omega) (by omega) (by omega))) ?_
            refine JL.go trivial (RX.movev (v := Value.int _ _) rfl) ?_
            refine JL.nil ?_
            rw [faultA_on (by omega) hg2 (by omega)] at hfa
            exact IH (k + 1, sum + s.count) _ _ (by simp only; omega) ⟨rfl, rfl, rfl, trivial⟩ ⟨rfl, rfl, trivial⟩ ⟨by simp only; omega, by simp only; omega, by simp only; omega, hfa, H.drop⟩
  · skip
    refine J.exit rfl ?_
    refine J.seq ?_
    refine J.region ?_
    refine JL.go trivial (RX.assign) ?_
    refine JL.nil ?_
    refine J.ret1 (v := Value.int _ _) Tryd.func17 rfl rfl ?_
    rw [List.drop_eq_nil_of_le (by omega)] at hfa
    exact ⟨_, rfl, by rw [← hfa]; rfl, H.drop⟩
set_option maxHeartbeats 1600000 in
theorem check_r {w0 w : World} {F : List Seg} (H : Hp w0 w F) {p : Prg} {pp : Option Addr} {pc : Nat} (hst : SlAt F pp (stepsV p.steps)) (hp : p.Ow) : Ret Tryd.prog 15 [.agg (prgV p pp p.steps.length pc).toArray] w fun v w' => v = .int .i64 (chkP p : Nat) ∧ Hp w0 w' F := by
  refine Calls.of_J (n := 55) Tryd.func15 rfl rfl rfl ?_
  refine J.seq ?_
  refine J.region ?_
  refine JL.does trivial (EX.box (v := Value.agg _) H rfl rfl) ?_
  rintro _ w ⟨b1, rfl, H⟩
  refine JL.go trivial (RX.assign) ?_
  refine JL.nil ?_
  refine J.seq ?_
  have hq1 := hp.len
  have hq2 := hp.cells
  have hq3 := hp.inn
  have hq4 := hp.out
  unfold i64ok at hq1 hq2 hq3 hq4
  refine J.region ?_
  refine JL.go trivial (RX.fieldAddr rfl fo24_0 rfl) ?_
  refine JL.go trivial (RX.load H rfl (i := 0) (v := .int .i64 p.len) rfl rfl one3) ?_
  refine JL.go trivial (RX.assignv (v := Value.int _ _) rfl) ?_
  refine JL.nil ?_
  refine J.seq ?_
  refine J.seq ?_
  refine J.region ?_
  refine JL.go trivial (RX.movev (v := Value.int _ _) rfl) ?_
  refine JL.go trivial (RX.lt rfl rfl) ?_
  refine JL.go trivial (RX.movev (v := Value.bool _) rfl) ?_
  refine JL.splitS 9 rfl (fun a1 => ?_) (fun a1 => ?_)
  · skip
    first | have a1p := of_decide_eq_true a1 | skip
    refine JL.no ⟨_, rfl, gno a1⟩ ?_
    refine JL.no ⟨_, rfl, gno a1⟩ ?_
    refine JL.go trivial (RX.pick_t rfl a1) ?_
    refine JL.go trivial (RX.movev (v := Value.bool _) rfl) ?_
    refine JL.no ⟨_, rfl, gno rfl⟩ ?_
    refine JL.no ⟨_, rfl, gno rfl⟩ ?_
    refine JL.no ⟨_, rfl, gno rfl⟩ ?_
    refine JL.go trivial (RX.pick_t rfl rfl) ?_
    refine JL.go trivial (RX.movev (v := Value.bool _) rfl) ?_
    refine JL.no ⟨_, rfl, gno rfl⟩ ?_
    refine JL.no ⟨_, rfl, gno rfl⟩ ?_
    refine JL.no ⟨_, rfl, gno rfl⟩ ?_
    refine JL.go trivial (RX.pick_t rfl rfl) ?_
    refine JL.go trivial (RX.movev (v := Value.bool _) rfl) ?_
    refine JL.no ⟨_, rfl, gno rfl⟩ ?_
    refine JL.no ⟨_, rfl, gno rfl⟩ ?_
    refine JL.no ⟨_, rfl, gno rfl⟩ ?_
    refine JL.go trivial (RX.pick_t rfl rfl) ?_
    refine JL.go trivial (RX.movev (v := Value.bool _) rfl) ?_
    refine JL.no ⟨_, rfl, gno rfl⟩ ?_
    refine JL.no ⟨_, rfl, gno rfl⟩ ?_
    refine JL.no ⟨_, rfl, gno rfl⟩ ?_
    refine JL.go trivial (RX.pick_t rfl rfl) ?_
    refine JL.go trivial (RX.movev (v := Value.bool _) rfl) ?_
    refine JL.no ⟨_, rfl, gno rfl⟩ ?_
    refine JL.no ⟨_, rfl, gno rfl⟩ ?_
    refine JL.no ⟨_, rfl, gno rfl⟩ ?_
    refine JL.no ⟨_, rfl, gno rfl⟩ ?_
    refine JL.no ⟨_, rfl, gno rfl⟩ ?_
    refine JL.no ⟨_, rfl, gno rfl⟩ ?_
    refine JL.no ⟨_, rfl, gno rfl⟩ ?_
    refine JL.go trivial (RX.pick_t rfl rfl) ?_
    refine JL.go trivial (RX.movev (v := Value.bool _) rfl) ?_
    refine JL.no ⟨_, rfl, gno rfl⟩ ?_
    refine JL.no ⟨_, rfl, gno rfl⟩ ?_
    refine JL.no ⟨_, rfl, gno rfl⟩ ?_
    refine JL.no ⟨_, rfl, gno rfl⟩ ?_
    refine JL.no ⟨_, rfl, gno rfl⟩ ?_
    refine JL.no ⟨_, rfl, gno rfl⟩ ?_
    refine JL.no ⟨_, rfl, gno rfl⟩ ?_
    refine JL.go trivial (RX.pick_t rfl rfl) ?_
    refine JL.nil ?_
    refine J.cond_t rfl rfl ?_
    refine J.seq ?_
    refine J.region ?_
    refine JL.go trivial (RX.assign) ?_
    refine JL.nil ?_
    refine J.ret1 (v := Value.int _ _) Tryd.func15 rfl rfl ?_
    first
    | (have hz : chkP p = 9 := by
        unfold chkP
        rw [if_neg]
        rintro ⟨h1, h2⟩
        simp only [headB, decide_eq_true_eq] at h1
        simp_all <;> omega
       rw [hz]
       exact ⟨_, rfl, rfl, H.drop⟩)
    | (have hz : chkP p = 0 := by
        unfold chkP
        rw [if_pos]
        refine ⟨?_, fault_neg _ _ hfl⟩
        simp only [headB, decide_eq_true_eq]
        simp_all <;> omega
       rw [hz]
       exact ⟨_, rfl, rfl, H.drop⟩)
  · skip
    first | have a1p := of_decide_eq_false a1 | skip
    refine JL.go ⟨_, rfl, a1⟩ (RX.movev (v := Value.int _ _) rfl) ?_
    refine JL.go ⟨_, rfl, a1⟩ (RX.gt rfl rfl) ?_
    refine JL.go trivial (RX.pick_f rfl a1) ?_
    refine JL.go trivial (RX.movev (v := Value.bool _) rfl) ?_
    refine JL.splitS 13 rfl (fun a2 => ?_) (fun a2 => ?_)
    · skip
      first | have a2p := of_decide_eq_true a2 | skip
      refine JL.no ⟨_, rfl, gno a2⟩ ?_
      refine JL.no ⟨_, rfl, gno a2⟩ ?_
      refine JL.no ⟨_, rfl, gno a2⟩ ?_
      refine JL.go trivial (RX.pick_t rfl a2) ?_
      refine JL.go trivial (RX.movev (v := Value.bool _) rfl) ?_
      refine JL.no ⟨_, rfl, gno rfl⟩ ?_
      refine JL.no ⟨_, rfl, gno rfl⟩ ?_
      refine JL.no ⟨_, rfl, gno rfl⟩ ?_
      refine JL.go trivial (RX.pick_t rfl rfl) ?_
      refine JL.go trivial (RX.movev (v := Value.bool _) rfl) ?_
      refine JL.no ⟨_, rfl, gno rfl⟩ ?_
      refine JL.no ⟨_, rfl, gno rfl⟩ ?_
      refine JL.no ⟨_, rfl, gno rfl⟩ ?_
      refine JL.go trivial (RX.pick_t rfl rfl) ?_
      refine JL.go trivial (RX.movev (v := Value.bool _) rfl) ?_
      refine JL.no ⟨_, rfl, gno rfl⟩ ?_
      refine JL.no ⟨_, rfl, gno rfl⟩ ?_
      refine JL.no ⟨_, rfl, gno rfl⟩ ?_
      refine JL.go trivial (RX.pick_t rfl rfl) ?_
      refine JL.go trivial (RX.movev (v := Value.bool _) rfl) ?_
      refine JL.no ⟨_, rfl, gno rfl⟩ ?_
      refine JL.no ⟨_, rfl, gno rfl⟩ ?_
      refine JL.no ⟨_, rfl, gno rfl⟩ ?_
      refine JL.no ⟨_, rfl, gno rfl⟩ ?_
      refine JL.no ⟨_, rfl, gno rfl⟩ ?_
      refine JL.no ⟨_, rfl, gno rfl⟩ ?_
      refine JL.no ⟨_, rfl, gno rfl⟩ ?_
      refine JL.go trivial (RX.pick_t rfl rfl) ?_
      refine JL.go trivial (RX.movev (v := Value.bool _) rfl) ?_
      refine JL.no ⟨_, rfl, gno rfl⟩ ?_
      refine JL.no ⟨_, rfl, gno rfl⟩ ?_
      refine JL.no ⟨_, rfl, gno rfl⟩ ?_
      refine JL.no ⟨_, rfl, gno rfl⟩ ?_
      refine JL.no ⟨_, rfl, gno rfl⟩ ?_
      refine JL.no ⟨_, rfl, gno rfl⟩ ?_
      refine JL.no ⟨_, rfl, gno rfl⟩ ?_
      refine JL.go trivial (RX.pick_t rfl rfl) ?_
      refine JL.nil ?_
      refine J.cond_t rfl rfl ?_
      refine J.seq ?_
      refine J.region ?_
      refine JL.go trivial (RX.assign) ?_
      refine JL.nil ?_
      refine J.ret1 (v := Value.int _ _) Tryd.func15 rfl rfl ?_
      first
      | (have hz : chkP p = 9 := by
          unfold chkP
          rw [if_neg]
          rintro ⟨h1, h2⟩
          simp only [headB, decide_eq_true_eq] at h1
          simp_all <;> omega
         rw [hz]
         exact ⟨_, rfl, rfl, H.drop⟩)
      | (have hz : chkP p = 0 := by
          unfold chkP
          rw [if_pos]
          refine ⟨?_, fault_neg _ _ hfl⟩
          simp only [headB, decide_eq_true_eq]
          simp_all <;> omega
         rw [hz]
         exact ⟨_, rfl, rfl, H.drop⟩)
    · skip
      first | have a2p := of_decide_eq_false a2 | skip
      refine JL.go ⟨_, rfl, a2⟩ (RX.fieldAddr rfl fo24_1 rfl) ?_
      refine JL.go ⟨_, rfl, a2⟩ (RX.load H rfl (i := 0) (v := .int .i64 p.cells) rfl rfl one3) ?_
      refine JL.go ⟨_, rfl, a2⟩ (RX.lt rfl rfl) ?_
      refine JL.go trivial (RX.pick_f rfl a2) ?_
      refine JL.go trivial (RX.movev (v := Value.bool _) rfl) ?_
      refine JL.splitS 18 rfl (fun a3 => ?_) (fun a3 => ?_)
      · skip
        first | have a3p := of_decide_eq_true a3 | skip
        refine JL.no ⟨_, rfl, gno a3⟩ ?_
        refine JL.no ⟨_, rfl, gno a3⟩ ?_
        refine JL.no ⟨_, rfl, gno a3⟩ ?_
        refine JL.go trivial (RX.pick_t rfl a3) ?_
        refine JL.go trivial (RX.movev (v := Value.bool _) rfl) ?_
        refine JL.no ⟨_, rfl, gno rfl⟩ ?_
        refine JL.no ⟨_, rfl, gno rfl⟩ ?_
        refine JL.no ⟨_, rfl, gno rfl⟩ ?_
        refine JL.go trivial (RX.pick_t rfl rfl) ?_
        refine JL.go trivial (RX.movev (v := Value.bool _) rfl) ?_
        refine JL.no ⟨_, rfl, gno rfl⟩ ?_
        refine JL.no ⟨_, rfl, gno rfl⟩ ?_
        refine JL.no ⟨_, rfl, gno rfl⟩ ?_
        refine JL.go trivial (RX.pick_t rfl rfl) ?_
        refine JL.go trivial (RX.movev (v := Value.bool _) rfl) ?_
        refine JL.no ⟨_, rfl, gno rfl⟩ ?_
        refine JL.no ⟨_, rfl, gno rfl⟩ ?_
        refine JL.no ⟨_, rfl, gno rfl⟩ ?_
        refine JL.no ⟨_, rfl, gno rfl⟩ ?_
        refine JL.no ⟨_, rfl, gno rfl⟩ ?_
        refine JL.no ⟨_, rfl, gno rfl⟩ ?_
        refine JL.no ⟨_, rfl, gno rfl⟩ ?_
        refine JL.go trivial (RX.pick_t rfl rfl) ?_
        refine JL.go trivial (RX.movev (v := Value.bool _) rfl) ?_
        refine JL.no ⟨_, rfl, gno rfl⟩ ?_
        refine JL.no ⟨_, rfl, gno rfl⟩ ?_
        refine JL.no ⟨_, rfl, gno rfl⟩ ?_
        refine JL.no ⟨_, rfl, gno rfl⟩ ?_
        refine JL.no ⟨_, rfl, gno rfl⟩ ?_
        refine JL.no ⟨_, rfl, gno rfl⟩ ?_
        refine JL.no ⟨_, rfl, gno rfl⟩ ?_
        refine JL.go trivial (RX.pick_t rfl rfl) ?_
        refine JL.nil ?_
        refine J.cond_t rfl rfl ?_
        refine J.seq ?_
        refine J.region ?_
        refine JL.go trivial (RX.assign) ?_
        refine JL.nil ?_
        refine J.ret1 (v := Value.int _ _) Tryd.func15 rfl rfl ?_
        first
        | (have hz : chkP p = 9 := by
            unfold chkP
            rw [if_neg]
            rintro ⟨h1, h2⟩
            simp only [headB, decide_eq_true_eq] at h1
            simp_all <;> omega
           rw [hz]
           exact ⟨_, rfl, rfl, H.drop⟩)
        | (have hz : chkP p = 0 := by
            unfold chkP
            rw [if_pos]
            refine ⟨?_, fault_neg _ _ hfl⟩
            simp only [headB, decide_eq_true_eq]
            simp_all <;> omega
           rw [hz]
           exact ⟨_, rfl, rfl, H.drop⟩)
      · skip
        first | have a3p := of_decide_eq_false a3 | skip
        refine JL.go ⟨_, rfl, a3⟩ (RX.fieldAddr rfl fo24_1 rfl) ?_
        refine JL.go ⟨_, rfl, a3⟩ (RX.load H rfl (i := 0) (v := .int .i64 p.cells) rfl rfl one3) ?_
        refine JL.go ⟨_, rfl, a3⟩ (RX.gt rfl rfl) ?_
        refine JL.go trivial (RX.pick_f rfl a3) ?_
        refine JL.go trivial (RX.movev (v := Value.bool _) rfl) ?_
        refine JL.splitS 23 rfl (fun a4 => ?_) (fun a4 => ?_)
        · skip
          first | have a4p := of_decide_eq_true a4 | skip
          refine JL.no ⟨_, rfl, gno a4⟩ ?_
          refine JL.no ⟨_, rfl, gno a4⟩ ?_
          refine JL.no ⟨_, rfl, gno a4⟩ ?_
          refine JL.go trivial (RX.pick_t rfl a4) ?_
          refine JL.go trivial (RX.movev (v := Value.bool _) rfl) ?_
          refine JL.no ⟨_, rfl, gno rfl⟩ ?_
          refine JL.no ⟨_, rfl, gno rfl⟩ ?_
          refine JL.no ⟨_, rfl, gno rfl⟩ ?_
          refine JL.go trivial (RX.pick_t rfl rfl) ?_
          refine JL.go trivial (RX.movev (v := Value.bool _) rfl) ?_
          refine JL.no ⟨_, rfl, gno rfl⟩ ?_
          refine JL.no ⟨_, rfl, gno rfl⟩ ?_
          refine JL.no ⟨_, rfl, gno rfl⟩ ?_
          refine JL.no ⟨_, rfl, gno rfl⟩ ?_
          refine JL.no ⟨_, rfl, gno rfl⟩ ?_
          refine JL.no ⟨_, rfl, gno rfl⟩ ?_
          refine JL.no ⟨_, rfl, gno rfl⟩ ?_
          refine JL.go trivial (RX.pick_t rfl rfl) ?_
          refine JL.go trivial (RX.movev (v := Value.bool _) rfl) ?_
          refine JL.no ⟨_, rfl, gno rfl⟩ ?_
          refine JL.no ⟨_, rfl, gno rfl⟩ ?_
          refine JL.no ⟨_, rfl, gno rfl⟩ ?_
          refine JL.no ⟨_, rfl, gno rfl⟩ ?_
          refine JL.no ⟨_, rfl, gno rfl⟩ ?_
          refine JL.no ⟨_, rfl, gno rfl⟩ ?_
          refine JL.no ⟨_, rfl, gno rfl⟩ ?_
          refine JL.go trivial (RX.pick_t rfl rfl) ?_
          refine JL.nil ?_
          refine J.cond_t rfl rfl ?_
          refine J.seq ?_
          refine J.region ?_
          refine JL.go trivial (RX.assign) ?_
          refine JL.nil ?_
          refine J.ret1 (v := Value.int _ _) Tryd.func15 rfl rfl ?_
          first
          | (have hz : chkP p = 9 := by
              unfold chkP
              rw [if_neg]
              rintro ⟨h1, h2⟩
              simp only [headB, decide_eq_true_eq] at h1
              simp_all <;> omega
             rw [hz]
             exact ⟨_, rfl, rfl, H.drop⟩)
          | (have hz : chkP p = 0 := by
              unfold chkP
              rw [if_pos]
              refine ⟨?_, fault_neg _ _ hfl⟩
              simp only [headB, decide_eq_true_eq]
              simp_all <;> omega
             rw [hz]
             exact ⟨_, rfl, rfl, H.drop⟩)
        · skip
          first | have a4p := of_decide_eq_false a4 | skip
          refine JL.go ⟨_, rfl, a4⟩ (RX.fieldAddr rfl fo24_2 rfl) ?_
          refine JL.go ⟨_, rfl, a4⟩ (RX.load H rfl (i := 0) (v := .int .i64 p.inn) rfl rfl one3) ?_
          refine JL.go ⟨_, rfl, a4⟩ (RX.lt rfl rfl) ?_
          refine JL.go trivial (RX.pick_f rfl a4) ?_
          refine JL.go trivial (RX.movev (v := Value.bool _) rfl) ?_
          refine JL.splitS 28 rfl (fun a5 => ?_) (fun a5 => ?_)
          · skip
            first | have a5p := of_decide_eq_true a5 | skip
            refine JL.no ⟨_, rfl, gno a5⟩ ?_
            refine JL.no ⟨_, rfl, gno a5⟩ ?_
            refine JL.no ⟨_, rfl, gno a5⟩ ?_
            refine JL.go trivial (RX.pick_t rfl a5) ?_
            refine JL.go trivial (RX.movev (v := Value.bool _) rfl) ?_
            refine JL.no ⟨_, rfl, gno rfl⟩ ?_
            refine JL.no ⟨_, rfl, gno rfl⟩ ?_
            refine JL.no ⟨_, rfl, gno rfl⟩ ?_
            refine JL.no ⟨_, rfl, gno rfl⟩ ?_
            refine JL.no ⟨_, rfl, gno rfl⟩ ?_
            refine JL.no ⟨_, rfl, gno rfl⟩ ?_
            refine JL.no ⟨_, rfl, gno rfl⟩ ?_
            refine JL.go trivial (RX.pick_t rfl rfl) ?_
            refine JL.go trivial (RX.movev (v := Value.bool _) rfl) ?_
            refine JL.no ⟨_, rfl, gno rfl⟩ ?_
            refine JL.no ⟨_, rfl, gno rfl⟩ ?_
            refine JL.no ⟨_, rfl, gno rfl⟩ ?_
            refine JL.no ⟨_, rfl, gno rfl⟩ ?_
            refine JL.no ⟨_, rfl, gno rfl⟩ ?_
            refine JL.no ⟨_, rfl, gno rfl⟩ ?_
            refine JL.no ⟨_, rfl, gno rfl⟩ ?_
            refine JL.go trivial (RX.pick_t rfl rfl) ?_
            refine JL.nil ?_
            refine J.cond_t rfl rfl ?_
            refine J.seq ?_
            refine J.region ?_
            refine JL.go trivial (RX.assign) ?_
            refine JL.nil ?_
            refine J.ret1 (v := Value.int _ _) Tryd.func15 rfl rfl ?_
            first
            | (have hz : chkP p = 9 := by
                unfold chkP
                rw [if_neg]
                rintro ⟨h1, h2⟩
                simp only [headB, decide_eq_true_eq] at h1
                simp_all <;> omega
               rw [hz]
               exact ⟨_, rfl, rfl, H.drop⟩)
            | (have hz : chkP p = 0 := by
                unfold chkP
                rw [if_pos]
                refine ⟨?_, fault_neg _ _ hfl⟩
                simp only [headB, decide_eq_true_eq]
                simp_all <;> omega
               rw [hz]
               exact ⟨_, rfl, rfl, H.drop⟩)
          · skip
            first | have a5p := of_decide_eq_false a5 | skip
            refine JL.go ⟨_, rfl, a5⟩ (RX.fieldAddr rfl fo24_3 rfl) ?_
            refine JL.go ⟨_, rfl, a5⟩ (RX.load H rfl (i := 0) (v := .int .i64 p.out) rfl rfl one3) ?_
            refine JL.go ⟨_, rfl, a5⟩ (RX.lt rfl rfl) ?_
            refine JL.go trivial (RX.pick_f rfl a5) ?_
            refine JL.go trivial (RX.movev (v := Value.bool _) rfl) ?_
            refine JL.splitS 33 rfl (fun a6 => ?_) (fun a6 => ?_)
            · skip
              first | have a6p := of_decide_eq_true a6 | skip
              refine JL.no ⟨_, rfl, gno a6⟩ ?_
              refine JL.no ⟨_, rfl, gno a6⟩ ?_
              refine JL.no ⟨_, rfl, gno a6⟩ ?_
              refine JL.no ⟨_, rfl, gno a6⟩ ?_
              refine JL.no ⟨_, rfl, gno a6⟩ ?_
              refine JL.no ⟨_, rfl, gno a6⟩ ?_
              refine JL.no ⟨_, rfl, gno a6⟩ ?_
              refine JL.go trivial (RX.pick_t rfl a6) ?_
              refine JL.go trivial (RX.movev (v := Value.bool _) rfl) ?_
              refine JL.no ⟨_, rfl, gno rfl⟩ ?_
              refine JL.no ⟨_, rfl, gno rfl⟩ ?_
              refine JL.no ⟨_, rfl, gno rfl⟩ ?_
              refine JL.no ⟨_, rfl, gno rfl⟩ ?_
              refine JL.no ⟨_, rfl, gno rfl⟩ ?_
              refine JL.no ⟨_, rfl, gno rfl⟩ ?_
              refine JL.no ⟨_, rfl, gno rfl⟩ ?_
              refine JL.go trivial (RX.pick_t rfl rfl) ?_
              refine JL.nil ?_
              refine J.cond_t rfl rfl ?_
              refine J.seq ?_
              refine J.region ?_
              refine JL.go trivial (RX.assign) ?_
              refine JL.nil ?_
              refine J.ret1 (v := Value.int _ _) Tryd.func15 rfl rfl ?_
              first
              | (have hz : chkP p = 9 := by
                  unfold chkP
                  rw [if_neg]
                  rintro ⟨h1, h2⟩
                  simp only [headB, decide_eq_true_eq] at h1
                  simp_all <;> omega
                 rw [hz]
                 exact ⟨_, rfl, rfl, H.drop⟩)
              | (have hz : chkP p = 0 := by
                  unfold chkP
                  rw [if_pos]
                  refine ⟨?_, fault_neg _ _ hfl⟩
                  simp only [headB, decide_eq_true_eq]
                  simp_all <;> omega
                 rw [hz]
                 exact ⟨_, rfl, rfl, H.drop⟩)
            · skip
              first | have a6p := of_decide_eq_false a6 | skip
              refine JL.go ⟨_, rfl, a6⟩ (RX.fieldAddr rfl fo24_2 rfl) ?_
              refine JL.go ⟨_, rfl, a6⟩ (RX.load H rfl (i := 0) (v := .int .i64 p.inn) rfl rfl one3) ?_
              refine JL.go ⟨_, rfl, a6⟩ (RX.fieldAddr rfl fo24_1 rfl) ?_
              refine JL.go ⟨_, rfl, a6⟩ (RX.load H rfl (i := 0) (v := .int .i64 p.cells) rfl rfl one3) ?_
              refine JL.go ⟨_, rfl, a6⟩ (RX.movev (v := Value.int _ _) rfl) ?_
              refine JL.go ⟨_, rfl, a6⟩ (RX.sub rfl rfl (w_i64 rfl (by omega) (by omega))) ?_
              refine JL.go ⟨_, rfl, a6⟩ (RX.gt rfl rfl) ?_
              refine JL.go trivial (RX.pick_f rfl a6) ?_
              refine JL.go trivial (RX.movev (v := Value.bool _) rfl) ?_
              refine JL.splitS 42 rfl (fun a7 => ?_) (fun a7 => ?_)
              · skip
                first | have a7p := of_decide_eq_true a7 | skip
                refine JL.no ⟨_, rfl, gno a7⟩ ?_
                refine JL.no ⟨_, rfl, gno a7⟩ ?_
                refine JL.no ⟨_, rfl, gno a7⟩ ?_
                refine JL.no ⟨_, rfl, gno a7⟩ ?_
                refine JL.no ⟨_, rfl, gno a7⟩ ?_
                refine JL.no ⟨_, rfl, gno a7⟩ ?_
                refine JL.no ⟨_, rfl, gno a7⟩ ?_
                refine JL.go trivial (RX.pick_t rfl a7) ?_
                refine JL.nil ?_
                refine J.cond_t rfl rfl ?_
                refine J.seq ?_
                refine J.region ?_
                refine JL.go trivial (RX.assign) ?_
                refine JL.nil ?_
                refine J.ret1 (v := Value.int _ _) Tryd.func15 rfl rfl ?_
                first
                | (have hz : chkP p = 9 := by
                    unfold chkP
                    rw [if_neg]
                    rintro ⟨h1, h2⟩
                    simp only [headB, decide_eq_true_eq] at h1
                    simp_all <;> omega
                   rw [hz]
                   exact ⟨_, rfl, rfl, H.drop⟩)
                | (have hz : chkP p = 0 := by
                    unfold chkP
                    rw [if_pos]
                    refine ⟨?_, fault_neg _ _ hfl⟩
                    simp only [headB, decide_eq_true_eq]
                    simp_all <;> omega
                   rw [hz]
                   exact ⟨_, rfl, rfl, H.drop⟩)
              · skip
                first | have a7p := of_decide_eq_false a7 | skip
                refine JL.go ⟨_, rfl, a7⟩ (RX.fieldAddr rfl fo24_3 rfl) ?_
                refine JL.go ⟨_, rfl, a7⟩ (RX.load H rfl (i := 0) (v := .int .i64 p.out) rfl rfl one3) ?_
                refine JL.go ⟨_, rfl, a7⟩ (RX.fieldAddr rfl fo24_1 rfl) ?_
                refine JL.go ⟨_, rfl, a7⟩ (RX.load H rfl (i := 0) (v := .int .i64 p.cells) rfl rfl one3) ?_
                refine JL.go ⟨_, rfl, a7⟩ (RX.movev (v := Value.int _ _) rfl) ?_
                refine JL.go ⟨_, rfl, a7⟩ (RX.sub rfl rfl (w_i64 rfl (by omega) (by omega))) ?_
                refine JL.go ⟨_, rfl, a7⟩ (RX.gt rfl rfl) ?_
                refine JL.go trivial (RX.pick_f rfl a7) ?_
                refine JL.nil ?_
                refine J.cond_d rfl (fun a8 => ?_) (fun a8 => ?_)
                · skip
                  refine J.seq ?_
                  refine J.region ?_
                  refine JL.go trivial (RX.assign) ?_
                  refine JL.nil ?_
                  refine J.ret1 (v := Value.int _ _) Tryd.func15 rfl rfl ?_
                  first
                  | (have hz : chkP p = 9 := by
                      unfold chkP
                      rw [if_neg]
                      rintro ⟨h1, h2⟩
                      simp only [headB, decide_eq_true_eq] at h1
                      simp_all <;> omega
                     rw [hz]
                     exact ⟨_, rfl, rfl, H.drop⟩)
                  | (have hz : chkP p = 0 := by
                      unfold chkP
                      rw [if_pos]
                      refine ⟨?_, fault_neg _ _ hfl⟩
                      simp only [headB, decide_eq_true_eq]
                      simp_all <;> omega
                     rw [hz]
                     exact ⟨_, rfl, rfl, H.drop⟩)
                · skip
                  refine J.skip ?_
                  refine J.seq ?_
                  refine J.region ?_
                  refine JL.go trivial (RX.loadAgg H rfl (i := 0) (vs := prgV p pp p.steps.length pc) rfl rfl ag24) ?_
                  refine JL.does trivial (EX.call rfl cl17 rfl ((fault_r H hst.cons hp))) ?_
                  rintro _ w ⟨rfl, H⟩
                  refine JL.go trivial (RX.assignv (v := Value.int _ _) rfl) ?_
                  refine JL.nil ?_
                  refine J.seq ?_
                  refine J.seq ?_
                  refine J.region ?_
                  refine JL.go trivial (RX.movev (v := Value.int _ _) rfl) ?_
                  refine JL.go trivial (RX.ge rfl rfl) ?_
                  refine JL.nil ?_
                  refine J.cond_d rfl (fun hfl => ?_) (fun hfl => ?_)
                  · skip
                    refine J.seq ?_
                    refine J.region ?_
                    refine JL.go trivial (RX.assign) ?_
                    refine JL.nil ?_
                    refine J.ret1 (v := Value.int _ _) Tryd.func15 rfl rfl ?_
                    first
                    | (have hz : chkP p = 9 := by
                        unfold chkP
                        rw [if_neg]
                        rintro ⟨h1, h2⟩
                        simp only [headB, decide_eq_true_eq] at h1
                        simp_all <;> omega
                       rw [hz]
                       exact ⟨_, rfl, rfl, H.drop⟩)
                    | (have hz : chkP p = 0 := by
                        unfold chkP
                        rw [if_pos]
                        refine ⟨?_, fault_neg _ _ hfl⟩
                        simp only [headB, decide_eq_true_eq]
                        simp_all <;> omega
                       rw [hz]
                       exact ⟨_, rfl, rfl, H.drop⟩)
                  · skip
                    refine J.skip ?_
                    refine J.seq ?_
                    refine J.region ?_
                    refine JL.go trivial (RX.assign) ?_
                    refine JL.nil ?_
                    refine J.ret1 (v := Value.int _ _) Tryd.func15 rfl rfl ?_
                    first
                    | (have hz : chkP p = 9 := by
                        unfold chkP
                        rw [if_neg]
                        rintro ⟨h1, h2⟩
                        simp only [headB, decide_eq_true_eq] at h1
                        simp_all <;> omega
                       rw [hz]
                       exact ⟨_, rfl, rfl, H.drop⟩)
                    | (have hz : chkP p = 0 := by
                        unfold chkP
                        rw [if_pos]
                        refine ⟨?_, fault_neg _ _ hfl⟩
                        simp only [headB, decide_eq_true_eq]
                        simp_all <;> omega
                       rw [hz]
                       exact ⟨_, rfl, rfl, H.drop⟩)
theorem acts_r {w0 w : World} {F : List Seg} (H : Hp w0 w F) {p : Prg} {pp : Option Addr} {pc : Nat} (hst : SlAt F pp (stepsV p.steps)) (hp : p.Ow) : Ret Tryd.prog 12 [.agg (prgV p pp p.steps.length pc).toArray] w fun v w' => v = .tuple #[.int .i64 (actsN p), .int .i64 (chkP p : Nat)] ∧ Hp w0 w' F := by
  refine Calls.of_J (n := 26) Tryd.func12 rfl rfl rfl ?_
  refine J.seq ?_
  refine J.region ?_
  refine JL.does trivial (EX.box (v := Value.agg _) H rfl rfl) ?_
  rintro _ w ⟨b1, rfl, H⟩
  refine JL.go trivial (RX.assign) ?_
  refine JL.go trivial (RX.assign) ?_
  refine JL.nil ?_
  refine J.seq ?_
  refine J.region ?_
  refine JL.go trivial (RX.loadAgg H rfl (i := 0) (vs := prgV p pp p.steps.length pc) rfl rfl ag24) ?_
  refine JL.does trivial (EX.call rfl cl15 rfl ((check_r H hst.cons hp))) ?_
  rintro _ w ⟨rfl, H⟩
  refine JL.go trivial (RX.assignv (v := Value.int _ _) rfl) ?_
  refine JL.nil ?_
  refine J.seq ?_
  refine J.seq ?_
  refine J.region ?_
  refine JL.go trivial (RX.movev (v := Value.int _ _) rfl) ?_
  refine JL.go trivial (RX.ne rfl rfl) ?_
  refine JL.nil ?_
  refine J.cond_d rfl (fun hc => ?_) (fun hc => ?_)
  · skip
    have hc0 : ¬ chkP p = 0 := by omega
    refine J.seq ?_
    refine J.region ?_
    refine JL.go trivial (RX.movev (v := Value.int _ _) rfl) ?_
    refine JL.go trivial (RX.assign) ?_
    refine JL.go trivial (RX.assignv (v := Value.int _ _) rfl) ?_
    refine JL.nil ?_
    refine J.ret2 (v := Value.int _ _) (x := Value.int _ _) Tryd.func12 rfl rfl rfl ?_
    exact ⟨_, rfl, by unfold actsN; rw [if_neg hc0], H.drop⟩
  · skip
    have hc0 : chkP p = 0 := by omega
    obtain ⟨hf1, hf2, hf3⟩ := fault_none (chkP_zero hc0).2
    have hf4 : ∀ s ∈ p.steps, formB s = true := fun s hs => good_form (hf2 s hs)
    refine J.skip ?_
    refine J.seq ?_
    refine J.region ?_
    refine JL.go trivial (RX.assign) ?_
    refine JL.nil ?_
    refine J.seq ?_
    refine J.seq ?_
    refine J.region ?_
    refine JL.go trivial (RX.fieldAddr rfl fo24_4 rfl) ?_
    refine JL.go trivial (RX.load H rfl (i := 0) (v := .slice pp p.steps.length pc) rfl rfl one22) ?_
    refine JL.go trivial (RX.len_slice rfl (by rw [sl22]; rfl) rfl) ?_
    refine JL.go trivial (RX.move) ?_
    refine JL.nil ?_
    refine J.block ?_
    refine J.loop (ι := Nat) (S := fun k => [(16, .int .i64 (k : Nat)), (5, .int .i64 (cnts (p.steps.take k)))]) (Φ := fun k w => k ≤ p.steps.length ∧ Hp w0 w ([(b1, cel (prgV p pp p.steps.length pc) 24)] :: F)) (μ := fun k => p.steps.length - k) (C := [(14, _), (15, _)]) 0 ⟨rfl, rfl, trivial⟩ ⟨rfl, rfl, trivial⟩ ?_ ?_
    · exact ⟨Nat.zero_le _, H⟩
    clear H
    rintro k ρ w ⟨hk, H⟩ IH
    refine J.seq ?_
    refine J.region ?_
    refine JL.go trivial (RX.lt rfl rfl) ?_
    refine JL.nil ?_
    refine J.seq ?_
    refine J.cond_d rfl (fun hlt => ?_) (fun hlt => ?_)
    · skip
      obtain ⟨s, hsk⟩ : ∃ s, p.steps[k]? = some s := ⟨_, List.getElem?_eq_getElem (by omega)⟩
      have hsm := List.mem_of_getElem? hsk
      have hsok := hp.steps s hsm
      obtain ⟨pb, po, rfl, hpo⟩ := hst.some (by rw [stepsV_len]; omega)
      have hct := cnts_take hf4 (k + 1)
      have hcs := cnts_succ hsk
      refine J.skip ?_
      refine J.seq ?_
      refine J.block ?_
      refine J.seq ?_
      refine J.region ?_
      refine JL.go trivial (RX.indexAddr rfl rfl sl22 (by omega) (by omega) (o' := po + k * 7) (by omega)) ?_
      refine JL.go trivial (RX.loadAggS H hst.cons rfl (j := k * 7) (by omega) (vs := s.v) (stepsV_read _ _ _ hsk) ag39) ?_
      refine JL.does trivial (EX.alloc H zr39 rfl) ?_
      rintro _ w ⟨b5, rfl, H⟩
      refine JL.does trivial (EX.storeAgg H rfl rfl (i := 0) (vs := s.v) (l' := s.v) rfl (stp_cell _) (by simp [Stp.v]) sz39 rfl rfl) ?_
      rintro _ w H
      refine JL.nil ?_
      refine J.region ?_
      refine JL.go trivial (RX.movev (v := Value.int _ _) rfl) ?_
      refine JL.go trivial (RX.fieldAddr rfl fo39_4 rfl) ?_
      refine JL.go trivial (RX.load H rfl (i := 0) (v := .int .i64 s.count) rfl rfl one3) ?_
      refine JL.go trivial (RX.add rfl rfl (w_i64 (r := cnts (p.steps.take (k + 1))) (by omega) (by omega) (by omega))) ?_
      refine JL.go trivial (RX.assignv (v := Value.int _ _) rfl) ?_
      refine JL.nil ?_
      refine J.inBlock ?_
      refine J.region ?_
      refine JL.go trivial (RX.add rfl rfl (w_i64 (r := ((k + 1 : Nat) : Int)) (by omega) (by omega) (by omega))) ?_
      refine JL.go trivial (RX.movev (v := Value.int _ _) rfl) ?_
      refine JL.nil ?_
      exact IH (k + 1) _ _ (by omega) ⟨rfl, rfl, trivial⟩ ⟨rfl, rfl, trivial⟩ ⟨by omega, H.drop⟩
    · skip
      refine J.exit rfl ?_
      refine J.seq ?_
      refine J.region ?_
      refine JL.go trivial (RX.movev (v := Value.int _ _) rfl) ?_
      refine JL.go trivial (RX.assignv (v := Value.int _ _) rfl) ?_
      refine JL.go trivial (RX.assign) ?_
      refine JL.nil ?_
      refine J.ret2 (v := Value.int _ _) (x := Value.int _ _) Tryd.func12 rfl rfl rfl ?_
      rw [List.take_of_length_le (by omega)]
      exact ⟨_, rfl, by unfold actsN; rw [if_pos hc0, hc0]; rfl, H.drop⟩
end Go.Proofs.YtafhajgebhicdaaDoor

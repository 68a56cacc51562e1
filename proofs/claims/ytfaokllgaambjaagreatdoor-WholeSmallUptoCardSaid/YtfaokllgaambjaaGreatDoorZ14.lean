/- Part 14 of the proof that WholeSmall holds: what the functions on its way do, step by step. -/
import Derived.Test.YtfaokllgaambjaaGreatDoorZ1
import Derived.Test.YtfaokllgaambjaaGreatDoorZ2
import Derived.Test.YtfaokllgaambjaaGreatDoorZ3
import Derived.Test.YtfaokllgaambjaaGreatDoorZ4
import Derived.Test.YtfaokllgaambjaaGreatDoorZ5
import Derived.Test.YtfaokllgaambjaaGreatDoorZ7
import Derived.Test.YtfaokllgaambjaaGreatDoorZ8
import Derived.Test.YtfaokllgaambjaaGreatDoorZ9
import Derived.Test.YtfaokllgaambjaaGreatDoorZ10
import Derived.Test.YtfaokllgaambjaaGreatDoorZ11
import Derived.Test.YtfaokllgaambjaaGreatDoorZ12
import Derived.Test.YtfaokllgaambjaaGreatDoorZ13
set_option linter.unusedVariables false
set_option linter.unusedSimpArgs false
namespace Go.Proofs.YtfaokllgaambjaaGreatDoor
open Go Go.Eng
set_option maxRecDepth 100000
set_option maxHeartbeats 1600000
theorem cl150 : callable Tryz.prog 150 = true := by kernel_rfl
theorem cl174 : callable Tryz.prog 174 = true := by kernel_rfl
theorem cl188 : callable Tryz.prog 188 = true := by kernel_rfl
theorem Fault_b {w0 w : World} {F : List Seg} {E : Nat → Value} (H : Hp w0 w F) (hT : SlAt F (some ⟨12, 0, none⟩) tableC) (g9 : GErr F 7 (E 9)) {p : Prg} {pp : Option Addr} {pc : Nat} (hst : SlAt F pp (stepsV p.steps)) (hp : p.Ow) : Ret Tryz.prog 174 [.agg (prgV p pp p.steps.length pc).toArray] w fun v w' => v = .int .i64 (faultP p.steps p.cells) ∧ Hp w0 w' F := by
 refine Calls.of_J (n := 32) Tryz.func174 rfl rfl rfl (J.seq (J.region (JL.e (EX.box (v := .agg _) H rfl rfl) ?_)))
 rintro _ w ⟨b1, rfl, H⟩
 refine JL.g (RX.assign) (JL.nil (J.seq (J.region (JL.g (RX.assign) (JL.nil (J.seq (J.seq (J.region (JL.g (RX.fieldAddr rfl fo74_4 rfl) (JL.g (RX.load H rfl (i := 0) (v := .slice pp p.steps.length pc) rfl rfl one72) (JL.g (RX.len_slice rfl (by rw [sl72]; rfl) rfl) ?_)))))))))))
 refine JL.g (RX.move) (JL.nil ?_)
 have hnum := hp.num
 refine J.block (J.loop (ι := Nat × Int) (S := fun q => [(9, .int .i64 (q.1 : Nat)), (3, .int .i64 q.2)]) (Φ := fun q w => q.1 ≤ p.steps.length ∧ 0 ≤ q.2 ∧ q.2 ≤ 67108864 ∧ faultA p.cells (p.steps.drop q.1) q.1 q.2 = faultP p.steps p.cells ∧ Hp w0 w ([(b1, cel (prgV p pp p.steps.length pc) 74)] :: F)) (μ := fun q => p.steps.length - q.1) (C := [(1, _), (7, _), (8, _)]) (0, 0) ⟨rfl, rfl, rfl, trivial⟩ ⟨rfl, rfl, trivial⟩ ?_ ?_)
 · exact ⟨Nat.zero_le _, by decide, by decide, rfl, H⟩
 clear H
 rintro ⟨k, sum⟩ ρ w ⟨hk, hs0, hs1, hfa, H⟩ IH
 simp only at hk hs0 hs1 hfa H
 dsimp only
 refine J.seq (J.region (JL.g (RX.lt rfl rfl) (JL.nil (J.seq (J.cond_d rfl (fun hlt => ?_) (fun hlt => ?_))))))
 ·
  obtain ⟨s, hsk⟩ : ∃ s, p.steps[k]? = some s := ⟨_, List.getElem?_eq_getElem (by omega)⟩
  have hsm := List.mem_of_getElem? hsk
  have hsok := hp.steps s hsm
  obtain ⟨pb, po, rfl, hpo⟩ := hst.some (by rw [stepsV_len]; omega)
  rw [List.drop_eq_getElem_cons (i := k) (by omega), show p.steps[k] = s from (List.getElem?_eq_some_iff.1 hsk).2] at hfa
  refine J.skip (J.seq (J.block (J.seq (J.region (JL.mi rfl (JL.g (RX.indexAddr rfl rfl sl72 (by omega) (by omega) (o' := po + k * 7) (by omega)) (JL.g (RX.loadAggS H hst.cons rfl (j := k * 7) (by omega) (vs := s.v) (stepsV_read _ _ _ hsk) ag178) (JL.e (EX.alloc H zr178 rfl) ?_))))))))
  rintro _ w ⟨b5, rfl, H⟩
  refine JL.ai rfl (JL.e (EX.storeAgg H rfl rfl (i := 0) (vs := s.v) (l' := s.v) rfl (stp_cell _) (by simp [Stp.v]) sz178 rfl rfl) ?_)
  rintro _ w H
  refine JL.nil (J.seq (J.seq (J.region (JL.mi rfl (JL.g (RX.eq rfl rfl) (JL.mb rfl (JL.splitS 16 rfl (fun e1 => ?_) (fun e1 => ?_))))))))
  ·
   first | have e1p := of_decide_eq_true e1 | skip
   refine JL.no ⟨_, rfl, gno e1⟩ (JL.no ⟨_, rfl, gno e1⟩ (JL.no ⟨_, rfl, gno e1⟩ (JL.no ⟨_, rfl, gno e1⟩ (JL.no ⟨_, rfl, gno e1⟩ (JL.g (RX.pick_t rfl e1) (JL.nil (J.cond_t rfl rfl (J.seq (J.region (JL.mi rfl (JL.ai rfl (JL.nil (J.ret1 (v := .int _ _) Tryz.func174 rfl rfl ?_)))))))))))))
   exact ⟨_, rfl, by rw [← hfa, faultA_bad (.inl (by have := of_decide_eq_true e1; omega))], H.drop.drop⟩
  ·
   first | have e1p := of_decide_eq_false e1 | skip
   refine JL.go ⟨_, rfl, e1⟩ (RX.loadAgg H rfl (i := 0) (vs := s.v) rfl rfl ag178) (JL.go ⟨_, rfl, e1⟩ (RX.fieldAddr rfl fo74_1 rfl) (JL.go ⟨_, rfl, e1⟩ (RX.load H rfl (i := 1) (v := .int .i64 p.cells) rfl rfl one3) (JL.does ⟨_, rfl, e1⟩ (EX.call rfl cl188 rfl ((good_b H hT.cons.cons g9.cons.cons hsok hp.cells))) ?_)))
   rintro _ w ⟨rfl, H⟩
   refine JL.go ⟨_, rfl, e1⟩ (RX.not rfl) (JL.g (RX.pick_f rfl e1) (JL.nil (J.cond rfl (fun hg => ?_) (fun hg => ?_))))
   ·
    have hg2 : goodP s p.cells = false := by simpa using hg
    refine J.seq (J.region (JL.mi rfl (JL.ai rfl (JL.nil (J.ret1 (v := .int _ _) Tryz.func174 rfl rfl ?_)))))
    exact ⟨_, rfl, by rw [← hfa, faultA_bad (.inr hg2)], H.drop.drop⟩
   ·
    have hg2 : goodP s p.cells = true := by simpa using hg
    have hgc := good_count hg2
    refine J.skip (J.seq (J.region (JL.mi rfl (JL.g (RX.fieldAddr rfl fo178_4 rfl) (JL.g (RX.load H rfl (i := 0) (v := .int .i64 s.count) rfl rfl one3) (JL.g (RX.add rfl rfl (w_i64 rfl (by omega) (by omega))) (JL.ai rfl (JL.nil (J.seq (J.region (JL.mi rfl (JL.g (RX.gt rfl rfl) (JL.nil (J.cond_d rfl (fun hmu => ?_) (fun hmu => ?_)))))))))))))))
    ·
     refine J.seq (J.region (JL.mi rfl (JL.ai rfl (JL.nil (J.ret1 (v := .int _ _) Tryz.func174 rfl rfl ?_)))))
     exact ⟨_, rfl, by rw [← hfa, faultA_much hmu], H.drop.drop⟩
    ·
     refine J.skip (J.inBlock (J.region (JL.g (RX.add rfl rfl (w_i64 (r := ((k + 1 : Nat) : Int)) (by omega) (by omega) (by omega))) (JL.mi rfl (JL.nil ?_)))))
     rw [faultA_on (by have := of_decide_eq_false e1; omega) hg2 (by omega)] at hfa
     exact IH (k + 1, sum + s.count) _ _ (by simp only; omega) ⟨rfl, rfl, rfl, trivial⟩ ⟨rfl, rfl, trivial⟩ ⟨by simp only; omega, by simp only; omega, by simp only; omega, hfa, H.drop⟩
 ·
  refine J.exit rfl (J.seq (J.region (JL.g (RX.assign) (JL.nil (J.ret1 (v := .int _ _) Tryz.func174 rfl rfl ?_)))))
  rw [List.drop_eq_nil_of_le (by omega)] at hfa
  exact ⟨_, rfl, by rw [← hfa]; rfl, H.drop⟩
theorem Check_b {w0 w : World} {F : List Seg} {E : Nat → Value} (H : Hp w0 w F) (hT : SlAt F (some ⟨12, 0, none⟩) tableC) (g9 : GErr F 7 (E 9)) {p : Prg} {pp : Option Addr} {pc : Nat} (hst : SlAt F pp (stepsV p.steps)) (hp : p.Ow) : Ret Tryz.prog 150 [.agg (prgV p pp p.steps.length pc).toArray] w fun v w' => v = errV E (chkP p) ∧ Hp w0 w' F := by
 refine Calls.of_J (n := 60) Tryz.func150 rfl rfl rfl (J.seq (J.region (JL.e (EX.box (v := .agg _) H rfl rfl) ?_)))
 rintro _ w ⟨b1, rfl, H⟩
 refine JL.g (RX.assign) (JL.nil (J.seq ?_))
 have hq1 := hp.len
 have hq2 := hp.cells
 have hq3 := hp.inn
 have hq4 := hp.out
 unfold i64ok at hq1 hq2 hq3 hq4
 refine J.region (JL.g (RX.fieldAddr rfl fo74_0 rfl) (JL.g (RX.load H rfl (i := 0) (v := .int .i64 p.len) rfl rfl one3) (JL.g (RX.ge rfl rfl) (JL.mb rfl (JL.splitS 7 rfl (fun a1 => ?_) (fun a1 => ?_))))))
 ·
  first | have a1p := of_decide_eq_true a1 | skip
  refine JL.go ⟨_, rfl, a1⟩ (RX.fieldAddr rfl fo74_0 rfl) (JL.go ⟨_, rfl, a1⟩ (RX.load H rfl (i := 0) (v := .int .i64 p.len) rfl rfl one3) (JL.go ⟨_, rfl, a1⟩ (RX.le rfl rfl) (JL.g (RX.pick_t rfl a1) (JL.mb rfl (JL.splitS 12 rfl (fun a2 => ?_) (fun a2 => ?_))))))
  ·
   first | have a2p := of_decide_eq_true a2 | skip
   refine JL.go ⟨_, rfl, a2⟩ (RX.fieldAddr rfl fo74_1 rfl) (JL.go ⟨_, rfl, a2⟩ (RX.load H rfl (i := 0) (v := .int .i64 p.cells) rfl rfl one3) (JL.go ⟨_, rfl, a2⟩ (RX.ge rfl rfl) (JL.g (RX.pick_t rfl a2) (JL.mb rfl (JL.splitS 17 rfl (fun a3 => ?_) (fun a3 => ?_))))))
   ·
    first | have a3p := of_decide_eq_true a3 | skip
    refine JL.go ⟨_, rfl, a3⟩ (RX.fieldAddr rfl fo74_1 rfl) (JL.go ⟨_, rfl, a3⟩ (RX.load H rfl (i := 0) (v := .int .i64 p.cells) rfl rfl one3) (JL.go ⟨_, rfl, a3⟩ (RX.le rfl rfl) (JL.g (RX.pick_t rfl a3) (JL.mb rfl (JL.splitS 22 rfl (fun a4 => ?_) (fun a4 => ?_))))))
    ·
     first | have a4p := of_decide_eq_true a4 | skip
     refine JL.go ⟨_, rfl, a4⟩ (RX.fieldAddr rfl fo74_2 rfl) (JL.go ⟨_, rfl, a4⟩ (RX.load H rfl (i := 0) (v := .int .i64 p.inn) rfl rfl one3) (JL.go ⟨_, rfl, a4⟩ (RX.ge rfl rfl) (JL.g (RX.pick_t rfl a4) (JL.mb rfl (JL.splitS 27 rfl (fun a5 => ?_) (fun a5 => ?_))))))
     ·
      first | have a5p := of_decide_eq_true a5 | skip
      refine JL.go ⟨_, rfl, a5⟩ (RX.fieldAddr rfl fo74_3 rfl) (JL.go ⟨_, rfl, a5⟩ (RX.load H rfl (i := 0) (v := .int .i64 p.out) rfl rfl one3) (JL.go ⟨_, rfl, a5⟩ (RX.ge rfl rfl) (JL.g (RX.pick_t rfl a5) (JL.mb rfl (JL.splitS 32 rfl (fun a6 => ?_) (fun a6 => ?_))))))
      ·
       first | have a6p := of_decide_eq_true a6 | skip
       refine JL.go ⟨_, rfl, a6⟩ (RX.fieldAddr rfl fo74_2 rfl) (JL.go ⟨_, rfl, a6⟩ (RX.load H rfl (i := 0) (v := .int .i64 p.inn) rfl rfl one3) (JL.go ⟨_, rfl, a6⟩ (RX.fieldAddr rfl fo74_1 rfl) (JL.go ⟨_, rfl, a6⟩ (RX.load H rfl (i := 0) (v := .int .i64 p.cells) rfl rfl one3) (JL.go ⟨_, rfl, a6⟩ (RX.fieldAddr rfl fo74_0 rfl) (JL.go ⟨_, rfl, a6⟩ (RX.load H rfl (i := 0) (v := .int .i64 p.len) rfl rfl one3) (JL.go ⟨_, rfl, a6⟩ (RX.sub rfl rfl (w_i64 rfl (by omega) (by omega))) (JL.go ⟨_, rfl, a6⟩ (RX.le rfl rfl) (JL.g (RX.pick_t rfl a6) (JL.mb rfl (JL.splitS 42 rfl (fun a7 => ?_) (fun a7 => ?_)))))))))))
       ·
        first | have a7p := of_decide_eq_true a7 | skip
        refine JL.go ⟨_, rfl, a7⟩ (RX.fieldAddr rfl fo74_3 rfl) (JL.go ⟨_, rfl, a7⟩ (RX.load H rfl (i := 0) (v := .int .i64 p.out) rfl rfl one3) (JL.go ⟨_, rfl, a7⟩ (RX.fieldAddr rfl fo74_1 rfl) (JL.go ⟨_, rfl, a7⟩ (RX.load H rfl (i := 0) (v := .int .i64 p.cells) rfl rfl one3) (JL.go ⟨_, rfl, a7⟩ (RX.fieldAddr rfl fo74_0 rfl) (JL.go ⟨_, rfl, a7⟩ (RX.load H rfl (i := 0) (v := .int .i64 p.len) rfl rfl one3) (JL.go ⟨_, rfl, a7⟩ (RX.sub rfl rfl (w_i64 rfl (by omega) (by omega))) (JL.go ⟨_, rfl, a7⟩ (RX.le rfl rfl) (JL.g (RX.pick_t rfl a7) (JL.ab rfl (JL.nil (J.seq (J.seq (J.region (JL.mb rfl (JL.g (RX.not rfl) (JL.mb rfl (JL.splitS 54 rfl (fun a8 => ?_) (fun a8 => ?_))))))))))))))))))
        ·
         first | have a8p := of_decide_eq_true a8 | skip
         refine JL.no ⟨_, rfl, gno a8⟩ (JL.no ⟨_, rfl, gno a8⟩ (JL.no ⟨_, rfl, gno a8⟩ (JL.g (RX.pick_t rfl a8) (JL.nil (J.cond_t rfl rfl (J.seq (J.region (JL.g (RX.loadG H rfl g9.at_.cons one31) (JL.g (RX.assign) (JL.nil (J.ret1 Tryz.func150 rfl rfl ?_)))))))))))
         first
         | (have hz : chkP p = 9 := by
             unfold chkP
             rw [if_neg]
             rintro ⟨h1, h2⟩
             simp only [headB, decide_eq_true_eq] at h1
             simp_all <;> omega
            rw [hz]
            exact ⟨_, rfl, rfl, H.drop⟩)
         | (have hz : chkP p = 0 := by
             unfold chkP
             rw [if_pos]
             refine ⟨?_, fault_neg _ _ hfl⟩
             simp only [headB, decide_eq_true_eq]
             simp_all
            rw [hz]
            exact ⟨_, rfl, rfl, H.drop⟩)
        ·
         first | have a8p := of_decide_eq_false a8 | skip
         refine JL.go ⟨_, rfl, a8⟩ (RX.loadAgg H rfl (i := 0) (vs := prgV p pp p.steps.length pc) rfl rfl ag74) (JL.does ⟨_, rfl, a8⟩ (EX.call rfl cl174 rfl ((Fault_b H hT.cons g9.cons hst.cons hp))) ?_)
         rintro _ w ⟨rfl, H⟩
         refine JL.go ⟨_, rfl, a8⟩ (RX.ge rfl rfl) (JL.g (RX.pick_f rfl a8) (JL.nil (J.cond_d rfl (fun hfl => ?_) (fun hfl => ?_))))
         ·
          refine J.seq (J.region (JL.g (RX.loadG H rfl g9.at_.cons one31) (JL.g (RX.assign) (JL.nil (J.ret1 Tryz.func150 rfl rfl ?_)))))
          first
          | (have hz : chkP p = 9 := by
              unfold chkP
              rw [if_neg]
              rintro ⟨h1, h2⟩
              simp only [headB, decide_eq_true_eq] at h1
              simp_all <;> omega
             rw [hz]
             exact ⟨_, rfl, rfl, H.drop⟩)
          | (have hz : chkP p = 0 := by
              unfold chkP
              rw [if_pos]
              refine ⟨?_, fault_neg _ _ hfl⟩
              simp only [headB, decide_eq_true_eq]
              simp_all
             rw [hz]
             exact ⟨_, rfl, rfl, H.drop⟩)
         ·
          refine J.skip (J.seq (J.region (JL.g (RX.assign) (JL.nil (J.ret1 Tryz.func150 rfl rfl ?_)))))
          first
          | (have hz : chkP p = 9 := by
              unfold chkP
              rw [if_neg]
              rintro ⟨h1, h2⟩
              simp only [headB, decide_eq_true_eq] at h1
              simp_all <;> omega
             rw [hz]
             exact ⟨_, rfl, rfl, H.drop⟩)
          | (have hz : chkP p = 0 := by
              unfold chkP
              rw [if_pos]
              refine ⟨?_, fault_neg _ _ hfl⟩
              simp only [headB, decide_eq_true_eq]
              simp_all
             rw [hz]
             exact ⟨_, rfl, rfl, H.drop⟩)
       ·
        first | have a7p := of_decide_eq_false a7 | skip
        refine JL.no ⟨_, rfl, gno a7⟩ (JL.no ⟨_, rfl, gno a7⟩ (JL.no ⟨_, rfl, gno a7⟩ (JL.no ⟨_, rfl, gno a7⟩ (JL.no ⟨_, rfl, gno a7⟩ (JL.no ⟨_, rfl, gno a7⟩ (JL.no ⟨_, rfl, gno a7⟩ (JL.no ⟨_, rfl, gno a7⟩ (JL.g (RX.pick_f rfl a7) (JL.ab rfl (JL.nil (J.seq (J.seq (J.region (JL.mb rfl (JL.g (RX.not rfl) (JL.mb rfl (JL.no ⟨_, rfl, gno rfl⟩ (JL.no ⟨_, rfl, gno rfl⟩ (JL.no ⟨_, rfl, gno rfl⟩ (JL.g (RX.pick_t rfl rfl) (JL.nil (J.cond_t rfl rfl (J.seq (J.region (JL.g (RX.loadG H rfl g9.at_.cons one31) (JL.g (RX.assign) (JL.nil (J.ret1 Tryz.func150 rfl rfl ?_))))))))))))))))))))))))))))
        first
        | (have hz : chkP p = 9 := by
            unfold chkP
            rw [if_neg]
            rintro ⟨h1, h2⟩
            simp only [headB, decide_eq_true_eq] at h1
            simp_all <;> omega
           rw [hz]
           exact ⟨_, rfl, rfl, H.drop⟩)
        | (have hz : chkP p = 0 := by
            unfold chkP
            rw [if_pos]
            refine ⟨?_, fault_neg _ _ hfl⟩
            simp only [headB, decide_eq_true_eq]
            simp_all
           rw [hz]
           exact ⟨_, rfl, rfl, H.drop⟩)
      ·
       first | have a6p := of_decide_eq_false a6 | skip
       refine JL.no ⟨_, rfl, gno a6⟩ (JL.no ⟨_, rfl, gno a6⟩ (JL.no ⟨_, rfl, gno a6⟩ (JL.no ⟨_, rfl, gno a6⟩ (JL.no ⟨_, rfl, gno a6⟩ (JL.no ⟨_, rfl, gno a6⟩ (JL.no ⟨_, rfl, gno a6⟩ (JL.no ⟨_, rfl, gno a6⟩ (JL.g (RX.pick_f rfl a6) (JL.mb rfl (JL.no ⟨_, rfl, gno rfl⟩ (JL.no ⟨_, rfl, gno rfl⟩ (JL.no ⟨_, rfl, gno rfl⟩ (JL.no ⟨_, rfl, gno rfl⟩ (JL.no ⟨_, rfl, gno rfl⟩ (JL.no ⟨_, rfl, gno rfl⟩ (JL.no ⟨_, rfl, gno rfl⟩ (JL.no ⟨_, rfl, gno rfl⟩ (JL.g (RX.pick_f rfl rfl) (JL.ab rfl (JL.nil (J.seq (J.seq (J.region (JL.mb rfl (JL.g (RX.not rfl) (JL.mb rfl (JL.no ⟨_, rfl, gno rfl⟩ (JL.no ⟨_, rfl, gno rfl⟩ (JL.no ⟨_, rfl, gno rfl⟩ (JL.g (RX.pick_t rfl rfl) (JL.nil (J.cond_t rfl rfl (J.seq (J.region (JL.g (RX.loadG H rfl g9.at_.cons one31) (JL.g (RX.assign) (JL.nil (J.ret1 Tryz.func150 rfl rfl ?_))))))))))))))))))))))))))))))))))))))
       first
       | (have hz : chkP p = 9 := by
           unfold chkP
           rw [if_neg]
           rintro ⟨h1, h2⟩
           simp only [headB, decide_eq_true_eq] at h1
           simp_all <;> omega
          rw [hz]
          exact ⟨_, rfl, rfl, H.drop⟩)
       | (have hz : chkP p = 0 := by
           unfold chkP
           rw [if_pos]
           refine ⟨?_, fault_neg _ _ hfl⟩
           simp only [headB, decide_eq_true_eq]
           simp_all
          rw [hz]
          exact ⟨_, rfl, rfl, H.drop⟩)
     ·
      first | have a5p := of_decide_eq_false a5 | skip
      refine JL.no ⟨_, rfl, gno a5⟩ (JL.no ⟨_, rfl, gno a5⟩ (JL.no ⟨_, rfl, gno a5⟩ (JL.g (RX.pick_f rfl a5) (JL.mb rfl (JL.no ⟨_, rfl, gno rfl⟩ (JL.no ⟨_, rfl, gno rfl⟩ (JL.no ⟨_, rfl, gno rfl⟩ (JL.no ⟨_, rfl, gno rfl⟩ (JL.no ⟨_, rfl, gno rfl⟩ (JL.no ⟨_, rfl, gno rfl⟩ (JL.no ⟨_, rfl, gno rfl⟩ (JL.no ⟨_, rfl, gno rfl⟩ (JL.g (RX.pick_f rfl rfl) (JL.mb rfl (JL.no ⟨_, rfl, gno rfl⟩ (JL.no ⟨_, rfl, gno rfl⟩ (JL.no ⟨_, rfl, gno rfl⟩ (JL.no ⟨_, rfl, gno rfl⟩ (JL.no ⟨_, rfl, gno rfl⟩ (JL.no ⟨_, rfl, gno rfl⟩ (JL.no ⟨_, rfl, gno rfl⟩ (JL.no ⟨_, rfl, gno rfl⟩ (JL.g (RX.pick_f rfl rfl) (JL.ab rfl (JL.nil (J.seq (J.seq (J.region (JL.mb rfl (JL.g (RX.not rfl) (JL.mb rfl (JL.no ⟨_, rfl, gno rfl⟩ (JL.no ⟨_, rfl, gno rfl⟩ (JL.no ⟨_, rfl, gno rfl⟩ (JL.g (RX.pick_t rfl rfl) (JL.nil (J.cond_t rfl rfl (J.seq (J.region (JL.g (RX.loadG H rfl g9.at_.cons one31) (JL.g (RX.assign) (JL.nil (J.ret1 Tryz.func150 rfl rfl ?_)))))))))))))))))))))))))))))))))))))))))))
      first
      | (have hz : chkP p = 9 := by
          unfold chkP
          rw [if_neg]
          rintro ⟨h1, h2⟩
          simp only [headB, decide_eq_true_eq] at h1
          simp_all <;> omega
         rw [hz]
         exact ⟨_, rfl, rfl, H.drop⟩)
      | (have hz : chkP p = 0 := by
          unfold chkP
          rw [if_pos]
          refine ⟨?_, fault_neg _ _ hfl⟩
          simp only [headB, decide_eq_true_eq]
          simp_all
         rw [hz]
         exact ⟨_, rfl, rfl, H.drop⟩)
    ·
     first | have a4p := of_decide_eq_false a4 | skip
     refine JL.no ⟨_, rfl, gno a4⟩ (JL.no ⟨_, rfl, gno a4⟩ (JL.no ⟨_, rfl, gno a4⟩ (JL.g (RX.pick_f rfl a4) (JL.mb rfl (JL.no ⟨_, rfl, gno rfl⟩ (JL.no ⟨_, rfl, gno rfl⟩ (JL.no ⟨_, rfl, gno rfl⟩ (JL.g (RX.pick_f rfl rfl) (JL.mb rfl (JL.no ⟨_, rfl, gno rfl⟩ (JL.no ⟨_, rfl, gno rfl⟩ (JL.no ⟨_, rfl, gno rfl⟩ (JL.no ⟨_, rfl, gno rfl⟩ (JL.no ⟨_, rfl, gno rfl⟩ (JL.no ⟨_, rfl, gno rfl⟩ (JL.no ⟨_, rfl, gno rfl⟩ (JL.no ⟨_, rfl, gno rfl⟩ (JL.g (RX.pick_f rfl rfl) (JL.mb rfl (JL.no ⟨_, rfl, gno rfl⟩ (JL.no ⟨_, rfl, gno rfl⟩ (JL.no ⟨_, rfl, gno rfl⟩ (JL.no ⟨_, rfl, gno rfl⟩ (JL.no ⟨_, rfl, gno rfl⟩ (JL.no ⟨_, rfl, gno rfl⟩ (JL.no ⟨_, rfl, gno rfl⟩ (JL.no ⟨_, rfl, gno rfl⟩ (JL.g (RX.pick_f rfl rfl) (JL.ab rfl (JL.nil (J.seq (J.seq (J.region (JL.mb rfl (JL.g (RX.not rfl) (JL.mb rfl (JL.no ⟨_, rfl, gno rfl⟩ (JL.no ⟨_, rfl, gno rfl⟩ (JL.no ⟨_, rfl, gno rfl⟩ (JL.g (RX.pick_t rfl rfl) (JL.nil (J.cond_t rfl rfl (J.seq (J.region (JL.g (RX.loadG H rfl g9.at_.cons one31) (JL.g (RX.assign) (JL.nil (J.ret1 Tryz.func150 rfl rfl ?_))))))))))))))))))))))))))))))))))))))))))))))))
     first
     | (have hz : chkP p = 9 := by
         unfold chkP
         rw [if_neg]
         rintro ⟨h1, h2⟩
         simp only [headB, decide_eq_true_eq] at h1
         simp_all <;> omega
        rw [hz]
        exact ⟨_, rfl, rfl, H.drop⟩)
     | (have hz : chkP p = 0 := by
         unfold chkP
         rw [if_pos]
         refine ⟨?_, fault_neg _ _ hfl⟩
         simp only [headB, decide_eq_true_eq]
         simp_all
        rw [hz]
        exact ⟨_, rfl, rfl, H.drop⟩)
   ·
    first | have a3p := of_decide_eq_false a3 | skip
    refine JL.no ⟨_, rfl, gno a3⟩ (JL.no ⟨_, rfl, gno a3⟩ (JL.no ⟨_, rfl, gno a3⟩ (JL.g (RX.pick_f rfl a3) (JL.mb rfl (JL.no ⟨_, rfl, gno rfl⟩ (JL.no ⟨_, rfl, gno rfl⟩ (JL.no ⟨_, rfl, gno rfl⟩ (JL.g (RX.pick_f rfl rfl) (JL.mb rfl (JL.no ⟨_, rfl, gno rfl⟩ (JL.no ⟨_, rfl, gno rfl⟩ (JL.no ⟨_, rfl, gno rfl⟩ (JL.g (RX.pick_f rfl rfl) (JL.mb rfl (JL.no ⟨_, rfl, gno rfl⟩ (JL.no ⟨_, rfl, gno rfl⟩ (JL.no ⟨_, rfl, gno rfl⟩ (JL.no ⟨_, rfl, gno rfl⟩ (JL.no ⟨_, rfl, gno rfl⟩ (JL.no ⟨_, rfl, gno rfl⟩ (JL.no ⟨_, rfl, gno rfl⟩ (JL.no ⟨_, rfl, gno rfl⟩ (JL.g (RX.pick_f rfl rfl) (JL.mb rfl (JL.no ⟨_, rfl, gno rfl⟩ (JL.no ⟨_, rfl, gno rfl⟩ (JL.no ⟨_, rfl, gno rfl⟩ (JL.no ⟨_, rfl, gno rfl⟩ (JL.no ⟨_, rfl, gno rfl⟩ (JL.no ⟨_, rfl, gno rfl⟩ (JL.no ⟨_, rfl, gno rfl⟩ (JL.no ⟨_, rfl, gno rfl⟩ (JL.g (RX.pick_f rfl rfl) (JL.ab rfl (JL.nil (J.seq (J.seq (J.region (JL.mb rfl (JL.g (RX.not rfl) (JL.mb rfl (JL.no ⟨_, rfl, gno rfl⟩ (JL.no ⟨_, rfl, gno rfl⟩ (JL.no ⟨_, rfl, gno rfl⟩ (JL.g (RX.pick_t rfl rfl) (JL.nil (J.cond_t rfl rfl (J.seq (J.region (JL.g (RX.loadG H rfl g9.at_.cons one31) (JL.g (RX.assign) (JL.nil (J.ret1 Tryz.func150 rfl rfl ?_)))))))))))))))))))))))))))))))))))))))))))))))))))))
    first
    | (have hz : chkP p = 9 := by
        unfold chkP
        rw [if_neg]
        rintro ⟨h1, h2⟩
        simp only [headB, decide_eq_true_eq] at h1
        simp_all <;> omega
       rw [hz]
       exact ⟨_, rfl, rfl, H.drop⟩)
    | (have hz : chkP p = 0 := by
        unfold chkP
        rw [if_pos]
        refine ⟨?_, fault_neg _ _ hfl⟩
        simp only [headB, decide_eq_true_eq]
        simp_all
       rw [hz]
       exact ⟨_, rfl, rfl, H.drop⟩)
  ·
   first | have a2p := of_decide_eq_false a2 | skip
   refine JL.no ⟨_, rfl, gno a2⟩ (JL.no ⟨_, rfl, gno a2⟩ (JL.no ⟨_, rfl, gno a2⟩ (JL.g (RX.pick_f rfl a2) (JL.mb rfl (JL.no ⟨_, rfl, gno rfl⟩ (JL.no ⟨_, rfl, gno rfl⟩ (JL.no ⟨_, rfl, gno rfl⟩ (JL.g (RX.pick_f rfl rfl) (JL.mb rfl (JL.no ⟨_, rfl, gno rfl⟩ (JL.no ⟨_, rfl, gno rfl⟩ (JL.no ⟨_, rfl, gno rfl⟩ (JL.g (RX.pick_f rfl rfl) (JL.mb rfl (JL.no ⟨_, rfl, gno rfl⟩ (JL.no ⟨_, rfl, gno rfl⟩ (JL.no ⟨_, rfl, gno rfl⟩ (JL.g (RX.pick_f rfl rfl) (JL.mb rfl (JL.no ⟨_, rfl, gno rfl⟩ (JL.no ⟨_, rfl, gno rfl⟩ (JL.no ⟨_, rfl, gno rfl⟩ (JL.no ⟨_, rfl, gno rfl⟩ (JL.no ⟨_, rfl, gno rfl⟩ (JL.no ⟨_, rfl, gno rfl⟩ (JL.no ⟨_, rfl, gno rfl⟩ (JL.no ⟨_, rfl, gno rfl⟩ (JL.g (RX.pick_f rfl rfl) (JL.mb rfl (JL.no ⟨_, rfl, gno rfl⟩ (JL.no ⟨_, rfl, gno rfl⟩ (JL.no ⟨_, rfl, gno rfl⟩ (JL.no ⟨_, rfl, gno rfl⟩ (JL.no ⟨_, rfl, gno rfl⟩ (JL.no ⟨_, rfl, gno rfl⟩ (JL.no ⟨_, rfl, gno rfl⟩ (JL.no ⟨_, rfl, gno rfl⟩ (JL.g (RX.pick_f rfl rfl) (JL.ab rfl (JL.nil (J.seq (J.seq (J.region (JL.mb rfl (JL.g (RX.not rfl) (JL.mb rfl (JL.no ⟨_, rfl, gno rfl⟩ (JL.no ⟨_, rfl, gno rfl⟩ (JL.no ⟨_, rfl, gno rfl⟩ (JL.g (RX.pick_t rfl rfl) (JL.nil (J.cond_t rfl rfl (J.seq (J.region (JL.g (RX.loadG H rfl g9.at_.cons one31) (JL.g (RX.assign) (JL.nil (J.ret1 Tryz.func150 rfl rfl ?_))))))))))))))))))))))))))))))))))))))))))))))))))))))))))
   first
   | (have hz : chkP p = 9 := by
       unfold chkP
       rw [if_neg]
       rintro ⟨h1, h2⟩
       simp only [headB, decide_eq_true_eq] at h1
       simp_all <;> omega
      rw [hz]
      exact ⟨_, rfl, rfl, H.drop⟩)
   | (have hz : chkP p = 0 := by
       unfold chkP
       rw [if_pos]
       refine ⟨?_, fault_neg _ _ hfl⟩
       simp only [headB, decide_eq_true_eq]
       simp_all
      rw [hz]
      exact ⟨_, rfl, rfl, H.drop⟩)
 ·
  first | have a1p := of_decide_eq_false a1 | skip
  refine JL.no ⟨_, rfl, gno a1⟩ (JL.no ⟨_, rfl, gno a1⟩ (JL.no ⟨_, rfl, gno a1⟩ (JL.g (RX.pick_f rfl a1) (JL.mb rfl (JL.no ⟨_, rfl, gno rfl⟩ (JL.no ⟨_, rfl, gno rfl⟩ (JL.no ⟨_, rfl, gno rfl⟩ (JL.g (RX.pick_f rfl rfl) (JL.mb rfl (JL.no ⟨_, rfl, gno rfl⟩ (JL.no ⟨_, rfl, gno rfl⟩ (JL.no ⟨_, rfl, gno rfl⟩ (JL.g (RX.pick_f rfl rfl) (JL.mb rfl (JL.no ⟨_, rfl, gno rfl⟩ (JL.no ⟨_, rfl, gno rfl⟩ (JL.no ⟨_, rfl, gno rfl⟩ (JL.g (RX.pick_f rfl rfl) (JL.mb rfl (JL.no ⟨_, rfl, gno rfl⟩ (JL.no ⟨_, rfl, gno rfl⟩ (JL.no ⟨_, rfl, gno rfl⟩ (JL.g (RX.pick_f rfl rfl) (JL.mb rfl (JL.no ⟨_, rfl, gno rfl⟩ (JL.no ⟨_, rfl, gno rfl⟩ (JL.no ⟨_, rfl, gno rfl⟩ (JL.no ⟨_, rfl, gno rfl⟩ (JL.no ⟨_, rfl, gno rfl⟩ (JL.no ⟨_, rfl, gno rfl⟩ (JL.no ⟨_, rfl, gno rfl⟩ (JL.no ⟨_, rfl, gno rfl⟩ (JL.g (RX.pick_f rfl rfl) (JL.mb rfl (JL.no ⟨_, rfl, gno rfl⟩ (JL.no ⟨_, rfl, gno rfl⟩ (JL.no ⟨_, rfl, gno rfl⟩ (JL.no ⟨_, rfl, gno rfl⟩ (JL.no ⟨_, rfl, gno rfl⟩ (JL.no ⟨_, rfl, gno rfl⟩ (JL.no ⟨_, rfl, gno rfl⟩ (JL.no ⟨_, rfl, gno rfl⟩ (JL.g (RX.pick_f rfl rfl) (JL.ab rfl (JL.nil (J.seq (J.seq (J.region (JL.mb rfl (JL.g (RX.not rfl) (JL.mb rfl (JL.no ⟨_, rfl, gno rfl⟩ (JL.no ⟨_, rfl, gno rfl⟩ (JL.no ⟨_, rfl, gno rfl⟩ (JL.g (RX.pick_t rfl rfl) (JL.nil (J.cond_t rfl rfl (J.seq (J.region (JL.g (RX.loadG H rfl g9.at_.cons one31) (JL.g (RX.assign) (JL.nil (J.ret1 Tryz.func150 rfl rfl ?_)))))))))))))))))))))))))))))))))))))))))))))))))))))))))))))))
  first
  | (have hz : chkP p = 9 := by
      unfold chkP
      rw [if_neg]
      rintro ⟨h1, h2⟩
      simp only [headB, decide_eq_true_eq] at h1
      simp_all <;> omega
     rw [hz]
     exact ⟨_, rfl, rfl, H.drop⟩)
  | (have hz : chkP p = 0 := by
      unfold chkP
      rw [if_pos]
      refine ⟨?_, fault_neg _ _ hfl⟩
      simp only [headB, decide_eq_true_eq]
      simp_all
     rw [hz]
     exact ⟨_, rfl, rfl, H.drop⟩)
theorem x_Acts_b {w0 w : World} {F : List Seg} {E : Nat → Value} (H : Hp w0 w F) (hT : SlAt F (some ⟨12, 0, none⟩) tableC) (g9 : GErr F 7 (E 9)) {p : Prg} {pp : Option Addr} {pc : Nat} (hst : SlAt F pp (stepsV p.steps)) (hp : p.Ow) : Ret Tryz.prog 123 [.agg (prgV p pp p.steps.length pc).toArray] w fun v w' => v = .tuple #[.int .i64 (actsN p), errV E (chkP p)] ∧ Hp w0 w' F := by
 refine Calls.of_J (n := 26) Tryz.func123 rfl rfl rfl (J.seq (J.region (JL.e (EX.box (v := .agg _) H rfl rfl) ?_)))
 rintro _ w ⟨b1, rfl, H⟩
 refine JL.g (RX.assign) (JL.g (RX.assign) (JL.nil (J.seq (J.seq (J.region (JL.g (RX.loadAgg H rfl (i := 0) (vs := prgV p pp p.steps.length pc) rfl rfl ag74) (JL.e (EX.call rfl cl150 rfl ((Check_b H hT.cons g9.cons hst.cons hp))) ?_)))))))
 rintro _ w ⟨rfl, H⟩
 refine JL.g (RX.assignv (v := errV E (chkP p)) rfl) (JL.nil (J.seq ?_))
 have hie : isErr (errV E (chkP p)) = true ∧ isNil (errV E (chkP p)) = decide (chkP p = 0) := by
   rcases chkP_cases p with h | h <;> rw [h]
   · exact ⟨rfl, rfl⟩
   · exact ⟨g9.ie, g9.nn⟩
 refine J.region (JL.g (RX.movev (v := errV E (chkP p)) rfl) (JL.g (RX.ifnil_neq (v := errV E (chkP p)) rfl rfl hie.1 if31) (JL.nil (J.cond rfl (fun hc => ?_) (fun hc => ?_)))))
 ·
  rw [hie.2] at hc
  have hc0 : ¬ chkP p = 0 := by simpa using hc
  refine J.seq (J.region (JL.g (RX.movev (v := errV E (chkP p)) rfl) (JL.g (RX.assign) (JL.g (RX.assignv (v := errV E (chkP p)) rfl) (JL.nil (J.ret2 (v := .int _ _) Tryz.func123 rfl rfl rfl (⟨_, rfl, ?_, H.drop⟩)))))))
  show Value.tuple #[.int .i64 0, errV E (chkP p)] = _
  unfold actsN
  rw [if_neg hc0]
 ·
  rw [hie.2] at hc
  have hc0 : chkP p = 0 := by simpa using hc
  obtain ⟨hf1, hf2, hf3⟩ := fault_none (chkP_zero hc0).2
  have hf4 : ∀ s ∈ p.steps, formB s = true := fun s hs => good_form (hf2 s hs)
  refine J.skip (J.seq (J.region (JL.g (RX.assign) (JL.nil (J.seq (J.seq (J.region (JL.g (RX.fieldAddr rfl fo74_4 rfl) (JL.g (RX.load H rfl (i := 0) (v := .slice pp p.steps.length pc) rfl rfl one72) (JL.g (RX.len_slice rfl (by rw [sl72]; rfl) rfl) ?_))))))))))
  refine JL.g (RX.move) (JL.nil (J.block (J.loop (ι := Nat) (S := fun k => [(16, .int .i64 (k : Nat)), (5, .int .i64 (cnts (p.steps.take k)))]) (Φ := fun k w => k ≤ p.steps.length ∧ Hp w0 w ([(b1, cel (prgV p pp p.steps.length pc) 74)] :: F)) (μ := fun k => p.steps.length - k) (C := [(14, _), (15, _)]) 0 ⟨rfl, rfl, trivial⟩ ⟨rfl, rfl, trivial⟩ ?_ ?_)))
  · exact ⟨Nat.zero_le _, H⟩
  clear H
  rintro k ρ w ⟨hk, H⟩ IH
  refine J.seq (J.region (JL.g (RX.lt rfl rfl) (JL.nil (J.seq (J.cond_d rfl (fun hlt => ?_) (fun hlt => ?_))))))
  ·
   obtain ⟨s, hsk⟩ : ∃ s, p.steps[k]? = some s := ⟨_, List.getElem?_eq_getElem (by omega)⟩
   have hsm := List.mem_of_getElem? hsk
   have hsok := hp.steps s hsm
   obtain ⟨pb, po, rfl, hpo⟩ := hst.some (by rw [stepsV_len]; omega)
   have hct := cnts_take hf4 (k + 1)
   have hcs := cnts_succ hsk
   refine J.skip (J.seq (J.block (J.seq (J.region (JL.g (RX.indexAddr rfl rfl sl72 (by omega) (by omega) (o' := po + k * 7) (by omega)) (JL.g (RX.loadAggS H hst.cons rfl (j := k * 7) (by omega) (vs := s.v) (stepsV_read _ _ _ hsk) ag178) (JL.e (EX.alloc H zr178 rfl) ?_)))))))
   rintro _ w ⟨b5, rfl, H⟩
   refine JL.e (EX.storeAgg H rfl rfl (i := 0) (vs := s.v) (l' := s.v) rfl (stp_cell _) (by simp [Stp.v]) sz178 rfl rfl) ?_
   rintro _ w H
   refine JL.nil (J.region (JL.mi rfl (JL.g (RX.fieldAddr rfl fo178_4 rfl) (JL.g (RX.load H rfl (i := 0) (v := .int .i64 s.count) rfl rfl one3) (JL.g (RX.add rfl rfl (w_i64 (r := cnts (p.steps.take (k + 1))) (by omega) (by omega) (by omega))) (JL.ai rfl (JL.nil (J.inBlock (J.region (JL.g (RX.add rfl rfl (w_i64 (r := ((k + 1 : Nat) : Int)) (by omega) (by omega) (by omega))) (JL.mi rfl (JL.nil ?_))))))))))))
   exact IH (k + 1) _ _ (by omega) ⟨rfl, rfl, trivial⟩ ⟨rfl, rfl, trivial⟩ ⟨by omega, H.drop⟩
  ·
   refine J.exit rfl (J.seq (J.region (JL.mi rfl (JL.ai rfl (JL.g (RX.assign) (JL.nil (J.ret2 (v := .int _ _) Tryz.func123 rfl rfl rfl ?_)))))))
   rw [List.take_of_length_le (by omega)]
   refine ⟨_, rfl, ?_, H.drop⟩
   show Value.tuple #[.int .i64 (cnts p.steps), .nilIface] = _
   unfold actsN
   rw [if_pos hc0, hc0]; rfl
end Go.Proofs.YtfaokllgaambjaaGreatDoor
namespace Go.Proofs.YtfaokllgaambjaaGreatDoor
open Go Go.Eng
set_option maxRecDepth 100000
set_option maxHeartbeats 1600000
theorem cl123 : callable Tryz.prog 123 = true := by kernel_rfl
theorem cl124 : callable Tryz.prog 124 = true := by kernel_rfl
theorem sl88 : sliceOf Tryz.prog 88 = some (5, 1) := by kernel_rfl
theorem ud5 : Tryz.prog.underlying 5 = some (.int .u8) := by kernel_rfl
theorem ud9 : Tryz.prog.underlying 9 = some .string := by kernel_rfl
def Sp.stp (s : Sp) : Stp := ⟨((s.op : Nat) : Int), ((s.dst : Nat) : Int), ((s.src : Nat) : Int), ((s.jump : Nat) : Int), ((s.count : Nat) : Int), ((s.n : Nat) : Int), ((s.k : Nat) : Int)⟩
theorem stp_steps (ss : List Sp) : stepsV (ss.map Sp.stp) = spsV ss := by
 simp only [stepsV, spsV, List.map_map]
 rfl
def prgS (n nc inn out : Nat) (ss : List Sp) : Prg := ⟨((n : Nat) : Int), ((nc : Nat) : Int), ((inn : Nat) : Int), ((out : Nat) : Int), ss.map Sp.stp⟩
theorem prgS_v (n nc inn out : Nat) (ss : List Sp) (p : Option Addr) (c : Nat) : prgV (prgS n nc inn out ss) p (prgS n nc inn out ss).steps.length c = pgV n nc inn out p ss.length c := by
 simp [prgV, pgV, prgS]
def Sp.sml (s : Sp) : Bool := decide (s.op ≤ 1000 ∧ s.dst ≤ 1000 ∧ s.src ≤ 1000 ∧ s.jump ≤ 1000 ∧ s.count ≤ 1000 ∧ s.n ≤ 1000 ∧ s.k ≤ 1000)
def mfine (n nc inn out ac : Nat) (ss : List Sp) : Bool := decide (n ≤ 1000 ∧ nc ≤ 1000 ∧ inn ≤ 1000 ∧ out ≤ 1000 ∧ ss.length ≤ 1000) && ss.all Sp.sml && decide (chkP (prgS n nc inn out ss) = 0) && encOk (prgS n nc inn out ss) && decide (actsN (prgS n nc inn out ss) = ((ac : Nat) : Int))
theorem prgS_ok {n nc inn out ac : Nat} {ss : List Sp} (h : mfine n nc inn out ac ss = true) : (prgS n nc inn out ss).Ok ∧ chkP (prgS n nc inn out ss) = 0 ∧ encOk (prgS n nc inn out ss) = true ∧ actsN (prgS n nc inn out ss) = ((ac : Nat) : Int) ∧ nc ≤ 1000 ∧ ss.length ≤ 1000 := by
 unfold mfine at h
 simp only [Bool.and_eq_true, decide_eq_true_eq] at h
 obtain ⟨⟨⟨⟨⟨h1, h2, h3, h4, h5⟩, h6⟩, h7⟩, h8⟩, h9⟩ := h
 refine ⟨⟨?_, ?_, ?_, ?_, ?_, ?_⟩, h7, h8, h9, h2, h5⟩
 · show _ ≤ ((n : Nat) : Int) ∧ ((n : Nat) : Int) ≤ _; omega
 · show _ ≤ ((nc : Nat) : Int) ∧ ((nc : Nat) : Int) ≤ _; omega
 · show _ ≤ ((inn : Nat) : Int) ∧ ((inn : Nat) : Int) ≤ _; omega
 · show _ ≤ ((out : Nat) : Int) ∧ ((out : Nat) : Int) ≤ _; omega
 · intro s hs
   obtain ⟨t, ht, rfl⟩ := List.mem_map.1 hs
   have hb := List.all_eq_true.1 h6 t ht
   unfold Sp.sml at hb
   simp only [decide_eq_true_eq] at hb
   obtain ⟨a1, a2, a3, a4, a5, a6, a7⟩ := hb
   refine ⟨?_, ?_, ?_, ?_, ?_, ?_, ?_⟩ <;> (simp only [Sp.stp, i64ok]; omega)
 · show (ss.map Sp.stp).length ≤ _
   rw [List.length_map]; omega
theorem mNew_b {w0 w : World} {F : List Seg} {E : Nat → Value} (H : Hp w0 w F) (g9 : GErr F 7 (E 9)) (hT : SlAt F (some ⟨12, 0, none⟩) tableC) {n nc inn out ac pc : Nat} {pp : Option Addr} {ss : List Sp} (hs : SlAt F pp (spsV ss)) (hgd : mfine n nc inn out ac ss = true) : Ret Tryz.prog 92 [.agg (pgV n nc inn out pp ss.length pc).toArray] w fun v w' => ∃ bm bc by_ q c sl, v = .tuple #[.pointer (some ⟨bm, 0, none⟩), .nilIface] ∧ OwnSl 178 7 q ss.length c (spsV ss) sl ∧ Hp w0 w' ([(bm, cel (mcV (.int .i64 ((n : Nat) : Int)) (.int .i64 ((nc : Nat) : Int)) (.int .i64 ((inn : Nat) : Int)) (.int .i64 ((out : Nat) : Int)) (.slice q ss.length c) by_ (.slice (some ⟨bc, 0, none⟩) nc nc) (.int .i64 ((ac : Nat) : Int)) (.int .i64 ((0 : Nat) : Int)) (.int .i64 ((0 : Nat) : Int)) (.int .i64 ((0 : Nat) : Int)) (.slice none 0 0) [.int .i64 0, .int .i64 0, .int .i64 0, .int .i64 0, .int .i64 0, .int .i64 0, .int .i64 0]) 185)] :: [(bc, cel (cxs (List.replicate nc (0, 0))) 49)] :: sl :: F) := by
 refine Calls.of_J (n := 36) Tryz.func92 rfl rfl rfl (J.seq ?_)
 obtain ⟨hok, hch, hen, hac, hnc, hsl⟩ := prgS_ok hgd
 have hst : SlAt F pp (stepsV (prgS n nc inn out ss).steps) := by rw [show (prgS n nc inn out ss).steps = ss.map Sp.stp from rfl, stp_steps]; exact hs
 refine J.region (JL.e (EX.box (v := .agg _) H rfl rfl) ?_)
 rintro _ w ⟨b1, rfl, H⟩
 refine JL.g (RX.assign) (JL.g (RX.assign) (JL.nil (J.seq (J.region (JL.g (RX.loadAgg H rfl (i := 0) (vs := pgV n nc inn out pp ss.length pc) rfl rfl ag74) (JL.e (EX.call rfl cl123 rfl ((show Ret _ _ [.agg (pgV n nc inn out pp ss.length pc).toArray] w _ by rw [← prgS_v]; exact x_Acts_b H hT.cons g9.cons hst.cons hok.ow))) ?_))))))
 rintro _ w ⟨rfl, H⟩
 rw [hac, hch]
 refine JL.g (RX.movev (v := .tuple _) rfl) (JL.g (RX.extract rfl rfl) (JL.g (RX.extract (v := .nilIface) rfl rfl) (JL.ai rfl (JL.g (RX.assignv (v := .nilIface) rfl) (JL.nil (J.seq (J.seq (J.region (JL.g (RX.movev (v := .nilIface) rfl) (JL.g (RX.ifnil_neq (v := .nilIface) rfl rfl rfl if31) (JL.nil (J.cond_f rfl rfl (J.skip (J.seq (J.region (JL.g (RX.loadAgg H rfl (i := 0) (vs := pgV n nc inn out pp ss.length pc) rfl rfl ag74) (JL.e (EX.call rfl cl124 rfl ((show Ret _ _ [.agg (pgV n nc inn out pp ss.length pc).toArray] w _ by rw [← prgS_v]; exact Encode_b H g9.cons hT.cons hst.cons hok))) ?_)))))))))))))))))
 rintro _ w ⟨qe, ce, se, rfl, hoe, H⟩
 rw [if_pos hen]
 refine JL.g (RX.movev (v := .tuple _) rfl) (JL.g (RX.extract rfl rfl) (JL.g (RX.extract (v := .nilIface) rfl rfl) (JL.al rfl (JL.g (RX.assignv (v := .nilIface) rfl) (JL.nil (J.seq (J.seq (J.region (JL.g (RX.movev (v := .nilIface) rfl) (JL.g (RX.ifnil_neq (v := .nilIface) rfl rfl rfl if31) (JL.nil (J.cond_f rfl rfl (J.skip (J.seq ?_))))))))))))))
 replace H := H.nil
 refine J.region (JL.g (RX.fieldAddr rfl fo74_4 rfl) (JL.g (RX.load H rfl (i := 2) (v := .slice _ _ _) rfl rfl one72) (JL.e (EX.append (ys := spsV ss) (L' := fun s' => s' :: se :: [(b1, cel (pgV n nc inn out pp ss.length pc) 74)] :: F) H elSp rfl rfl (i := 0) rfl OwnSl.nil hs.cons.cons.cons (spsV_len ss) (spsV_cell ss) (by decide) (by omega) (by omega) (fun _ => rfl)) ?_)))
 rintro _ w ⟨q, c, sl, rfl, ho, H⟩
 rw [Nat.zero_add] at ho
 rw [Nat.zero_add ss.length]
 rw [List.nil_append] at ho
 refine JL.g (RX.fieldAddr rfl fo74_4 rfl) (JL.e (EX.store (v := .slice _ _ _) H rfl rfl (i := 2) rfl rfl (by simp [pgV]) sz72 rfl rfl) ?_)
 rintro _ w H
 refine JL.nil (J.seq (J.held (fun w => Hp w0 w (sl :: se :: [(b1, cel (pgV n nc inn out q ss.length c) 74)] :: F)) hmix fun w hs => ?_))
 replace H := H.same hs; clear hs
 have hS : Hp w0 w (sl :: se :: [(b1, cel (pgV n nc inn out q ss.length c) 74)] :: F) := H
 refine JH.take 0 rfl (by kernel_rfl) (by kernel_rfl) (by kernel_rfl) rfl trivial (fun w H => RX.loadAgg H rfl (i := 2) (vs := pgV n nc inn out q ss.length c) rfl rfl ag74) hS (JH.take 1 rfl (by kernel_rfl) (by kernel_rfl) (by kernel_rfl) rfl trivial (fun w H => RX.movev (v := .slice _ _ _) rfl) hS (JH.take 2 rfl (by kernel_rfl) (by kernel_rfl) (by kernel_rfl) rfl trivial (fun w H => RX.b2s (l := encO (prgS n nc inn out ss)) H rfl hoe.slAt.cons sl88 ud5 ud9) hS (JH.take 3 rfl (by kernel_rfl) (by kernel_rfl) (by kernel_rfl) rfl trivial (fun w H => RX.fieldAddr rfl fo74_1 rfl) hS (JH.take 4 rfl (by kernel_rfl) (by kernel_rfl) (by kernel_rfl) rfl trivial (fun w H => RX.load H rfl (i := 2) (v := .int _ _) rfl rfl one3) hS (JH.take 6 rfl (by kernel_rfl) (by kernel_rfl) (by kernel_rfl) rfl trivial (fun w H => RX.movev (v := .int _ _) rfl) hS (JH.all [5] (by kernel_rfl) (by decide) (JHO.does rfl rfl trivial (EX.makeS (e := 49) (m := nc) H mkC.1 mkC.2 rfl rfl rfl (by omega) (by omega) (by omega)) ?_)))))))
 rintro _ w ⟨bc, rfl, H⟩
 rw [fnL_rep, repC] at H
 have hS : Hp w0 w (sl :: se :: [(b1, cel (pgV n nc inn out q ss.length c) 74)] :: F) := H.drop
 refine ⟨hS, ?_⟩
 refine JH.take 7 rfl (by kernel_rfl) (by kernel_rfl) (by kernel_rfl) rfl trivial (fun w H => RX.build (pv := [(0, .agg (pgV n nc inn out q ss.length c).toArray), (1, .string ⟨(encO (prgS n nc inn out ss)).toArray⟩), (2, .slice (some ⟨bc, 0, none⟩) nc nc), (3, .int .i64 ((ac : Nat) : Int))]) (res := mcV (.int .i64 ((n : Nat) : Int)) (.int .i64 ((nc : Nat) : Int)) (.int .i64 ((inn : Nat) : Int)) (.int .i64 ((out : Nat) : Int)) (.slice q ss.length c) (.string ⟨(encO (prgS n nc inn out ss)).toArray⟩) (.slice (some ⟨bc, 0, none⟩) nc nc) (.int .i64 ((ac : Nat) : Int)) (.int .i64 ((0 : Nat) : Int)) (.int .i64 ((0 : Nat) : Int)) (.int .i64 ((0 : Nat) : Int)) (.slice none 0 0) [.int .i64 0, .int .i64 0, .int .i64 0, .int .i64 0, .int .i64 0, .int .i64 0, .int .i64 0]) rfl (by kernel_rfl)) hS (JH.all [8] (by kernel_rfl) (by decide) (JHO.does rfl rfl trivial (EX.box (v := .agg _) H rfl rfl) ?_))
 rintro _ w ⟨bm, rfl, H⟩
 have hS : Hp w0 w (sl :: se :: [(b1, cel (pgV n nc inn out q ss.length c) 74)] :: F) := H.drop.drop
 refine ⟨hS, ?_⟩
 refine JH.take 9 rfl (by kernel_rfl) (by kernel_rfl) (by kernel_rfl) rfl trivial (fun w H => RX.assignv (v := .pointer _) rfl) hS (JH.take 10 rfl (by kernel_rfl) (by kernel_rfl) (by kernel_rfl) rfl trivial (fun w H => RX.assign) hS (JH.done (by kernel_rfl) (J.ret2 (v := .pointer _) Tryz.func92 rfl rfl rfl ?_)))
 exact ⟨_, rfl, bm, bc, _, q, c, sl, rfl, ho, ((H.pull 4 rfl).drop.pull 3 rfl).drop⟩
end Go.Proofs.YtfaokllgaambjaaGreatDoor
namespace Go.Proofs.YtfaokllgaambjaaGreatDoor
open Go Go.Eng
set_option maxRecDepth 100000
set_option maxHeartbeats 1600000
theorem cl30 : callable Tryz.prog 30 = true := by kernel_rfl
theorem cl57 : callable Tryz.prog 57 = true := by kernel_rfl
theorem cl58 : callable Tryz.prog 58 = true := by kernel_rfl
theorem cl59 : callable Tryz.prog 59 = true := by kernel_rfl
theorem cl60 : callable Tryz.prog 60 = true := by kernel_rfl
theorem cl91 : callable Tryz.prog 91 = true := by kernel_rfl
theorem cl92 : callable Tryz.prog 92 = true := by kernel_rfl
theorem cl93 : callable Tryz.prog 93 = true := by kernel_rfl
theorem cl95 : callable Tryz.prog 95 = true := by kernel_rfl
def wantL : Nat → List Cf
  | 1 => [([1, 0], [0, 1])]
  | 2 => [([1, 0, 1, 0], [0, 1, 0, 1]), ([1, 0, -1, 0], [0, 1, 0, -1])]
  | _ => [([1, 0, 1, 0, 1, 0, 1, 0], [0, 1, 0, 1, 0, 1, 0, 1]), ([1, 0, 0, 1, -1, 0, 0, -1], [0, 1, -1, 0, 0, -1, 1, 0]), ([1, 0, -1, 0, 1, 0, -1, 0], [0, 1, 0, -1, 0, 1, 0, -1]), ([1, 0, 0, -1, -1, 0, 0, 1], [0, 1, 1, 0, 0, -1, -1, 0])]
def inter : List Int → List Int → List Int
  | a :: us, b :: vs => a :: b :: inter us vs
  | _, _ => []
theorem len_one {l : List Int} (h : l.length = 1) : ∃ a, l = [a] := by
 match l, h with
 | [a], _ => exact ⟨a, rfl⟩
theorem len_two {l : List Int} (h : l.length = 2) : ∃ a b, l = [a, b] := by
 match l, h with
 | [a, b], _ => exact ⟨a, b, rfl⟩
theorem len_four {l : List Int} (h : l.length = 4) : ∃ a b c d, l = [a, b, c, d] := by
 match l, h with
 | [a, b, c, d], _ => exact ⟨a, b, c, d, rfl⟩
theorem dft_small {re im : List Int} (hm : im.length = re.length) (hn : re.length = 1 ∨ re.length = 2 ∨ re.length = 4) {k : Nat} {c : Cf} (hk : (wantL re.length)[k]? = some c) : ev c (inter re im) = (smU re im k re.length, smV re im k re.length) := by
 rcases hn with h | h | h
 · obtain ⟨a, rfl⟩ := len_one h
   obtain ⟨b, rfl⟩ := len_one (hm.trans h)
   match k, hk with
   | 0, hk =>
     cases hk
     simp [ev, inter, dot, smU, smV, ssum, smR, rot]
 · obtain ⟨a, b, rfl⟩ := len_two h
   obtain ⟨x, y, rfl⟩ := len_two (hm.trans h)
   match k, hk with
   | 0, hk => cases hk; simp [ev, inter, dot, smU, smV, ssum, smR, rot]
   | 1, hk => cases hk; simp [ev, inter, dot, smU, smV, ssum, smR, rot]
 · obtain ⟨a, b, c', d, rfl⟩ := len_four h
   obtain ⟨x, y, z, w, rfl⟩ := len_four (hm.trans h)
   match k, hk with
   | 0, hk => cases hk; simp [ev, inter, dot, smU, smV, ssum, smR, rot]; omega
   | 1, hk => cases hk; simp [ev, inter, dot, smU, smV, ssum, smR, rot]; omega
   | 2, hk => cases hk; simp [ev, inter, dot, smU, smV, ssum, smR, rot]; omega
   | 3, hk => cases hk; simp [ev, inter, dot, smU, smV, ssum, smR, rot]; omega
theorem back_small {re im : List Int} (hm : im.length = re.length) (hn : re.length = 1 ∨ re.length = 2 ∨ re.length = 4) {k : Nat} {a b : Int} (ha : re[k]? = some a) (hb : im[k]? = some b) :
 smU (smA0 re im) ((smB0 re im).map (- ·)) k re.length = a * (re.length : Int) ∧ smV (smA0 re im) ((smB0 re im).map (- ·)) k re.length = -b * (re.length : Int) := by
 rcases hn with h | h | h
 · obtain ⟨a, rfl⟩ := len_one h
   obtain ⟨b, rfl⟩ := len_one (hm.trans h)
   match k, ha, hb with
   | 0, ha, hb =>
     cases ha; cases hb
     simp [smA0, smB0, smU, smV, ssum, smR, rot]
 · obtain ⟨a, b, rfl⟩ := len_two h
   obtain ⟨x, y, rfl⟩ := len_two (hm.trans h)
   match k, ha, hb with
   | 0, ha, hb => cases ha; cases hb; simp [smA0, smB0, smU, smV, ssum, smR, rot, List.range_succ]; omega
   | 1, ha, hb => cases ha; cases hb; simp [smA0, smB0, smU, smV, ssum, smR, rot, List.range_succ]; omega
 · obtain ⟨a, b, c', d, rfl⟩ := len_four h
   obtain ⟨x, y, z, w, rfl⟩ := len_four (hm.trans h)
   match k, ha, hb with
   | 0, ha, hb => cases ha; cases hb; simp [smA0, smB0, smU, smV, ssum, smR, rot, List.range_succ]; omega
   | 1, ha, hb => cases ha; cases hb; simp [smA0, smB0, smU, smV, ssum, smR, rot, List.range_succ]; omega
   | 2, ha, hb => cases ha; cases hb; simp [smA0, smB0, smU, smV, ssum, smR, rot, List.range_succ]; omega
   | 3, ha, hb => cases ha; cases hb; simp [smA0, smB0, smU, smV, ssum, smR, rot, List.range_succ]; omega
structure FitP (n nc ac : Nat) (ss : List Sp) : Prop where
  fine : mfine n nc 0 n ac ss = true
  acts : ac = remS ss
  ok : ∀ s ∈ ss, s.okS
  len : ss.length ≤ 500
  one : 1 ≤ ac
  cap : ac ≤ 100000
  room : 2 * n ≤ nc
  small : nc ≤ 100
  ans : answer n (ss, nc) = some (wantL n)
  sz : n = 1 ∨ n = 2 ∨ n = 4
def zre (zs : List (Int × Int)) : List Int := zs.map (·.1)
def zim (zs : List (Int × Int)) : List Int := zs.map (·.2)
def interZ (zs : List (Int × Int)) : List Int := inter (zre zs) (zim zs)
def dftZ (zs : List (Int × Int)) : List (Int × Int) := (List.range zs.length).map fun k => (smU (zre zs) (zim zs) k zs.length, smV (zre zs) (zim zs) k zs.length)
theorem padL_succ (m : Nat) (A : List Int) : padL (m + 1) A = (A[0]?).getD 0 :: padL m A.tail := by
 unfold padL
 rw [List.range_succ_eq_map, List.map_cons, List.map_map]
 congr 1
 refine List.map_congr_left fun i _ => ?_
 cases A <;> simp
theorem dot_pad : ∀ (A X : List Int), dot (padL X.length A) X = dot A X
  | A, [] => by rw [dot_nil2, dot_nil2]
  | [], x :: X => by
    have ih := dot_pad [] X
    rw [List.length_cons, padL_succ]
    simp only [dot, List.getElem?_nil, Option.getD_none, List.tail_nil] at ih ⊢
    rw [ih]; omega
  | a :: A, x :: X => by
    have ih := dot_pad A X
    rw [List.length_cons, padL_succ]
    simp only [dot, List.getElem?_cons_zero, Option.getD_some, List.tail_cons] at ih ⊢
    rw [ih]
theorem inter_len : ∀ (u v : List Int), u.length = v.length → (inter u v).length = 2 * u.length
  | [], [], _ => rfl
  | a :: u, b :: v, h => by
    simp only [inter, List.length_cons] at h ⊢
    rw [inter_len u v (by omega)]; omega
theorem inter_mem : ∀ {u v : List Int} {x : Int}, x ∈ inter u v → x ∈ u ∨ x ∈ v
  | [], _, _, h => by simp [inter] at h
  | _ :: _, [], _, h => by simp [inter] at h
  | a :: u, b :: v, x, h => by
    simp only [inter, List.mem_cons] at h ⊢
    rcases h with h | h | h
    · exact .inl (.inl h)
    · exact .inr (.inl h)
    · rcases inter_mem h with h | h
      · exact .inl (.inr h)
      · exact .inr (.inr h)
theorem z_len1 {l : List (Int × Int)} (h : l.length = 1) : ∃ a b, l = [(a, b)] := by
 match l, h with
 | [(a, b)], _ => exact ⟨a, b, rfl⟩
theorem z_len2 {l : List (Int × Int)} (h : l.length = 2) : ∃ a b c d, l = [(a, b), (c, d)] := by
 match l, h with
 | [(a, b), (c, d)], _ => exact ⟨a, b, c, d, rfl⟩
theorem z_len4 {l : List (Int × Int)} (h : l.length = 4) : ∃ a b c d e f g i, l = [(a, b), (c, d), (e, f), (g, i)] := by
 match l, h with
 | [(a, b), (c, d), (e, f), (g, i)], _ => exact ⟨a, b, c, d, e, f, g, i, rfl⟩
theorem ev_unit {zs : List (Int × Int)} (hn : zs.length = 1 ∨ zs.length = 2 ∨ zs.length = 4) {i : Nat} {z : Int × Int} (h : zs[i]? = some z) :
 Cf.ok (unitL (2 * zs.length) (2 * i), unitL (2 * zs.length) (2 * i + 1)) = true ∧ ev (unitL (2 * zs.length) (2 * i), unitL (2 * zs.length) (2 * i + 1)) (interZ zs) = z := by
 rcases hn with hn | hn | hn
 · obtain ⟨a, b, rfl⟩ := z_len1 hn
   match i, h with
   | 0, h => cases h; exact ⟨by rfl, by simp [ev, unitL, List.range_succ, interZ, zre, zim, inter, dot]⟩
 · obtain ⟨a, b, c, d, rfl⟩ := z_len2 hn
   match i, h with
   | 0, h => cases h; exact ⟨by rfl, by simp [ev, unitL, List.range_succ, interZ, zre, zim, inter, dot]⟩
   | 1, h => cases h; exact ⟨by rfl, by simp [ev, unitL, List.range_succ, interZ, zre, zim, inter, dot]⟩
 · obtain ⟨a, b, c, d, e, f, g, k, rfl⟩ := z_len4 hn
   match i, h with
   | 0, h => cases h; exact ⟨by rfl, by simp [ev, unitL, List.range_succ, interZ, zre, zim, inter, dot]⟩
   | 1, h => cases h; exact ⟨by rfl, by simp [ev, unitL, List.range_succ, interZ, zre, zim, inter, dot]⟩
   | 2, h => cases h; exact ⟨by rfl, by simp [ev, unitL, List.range_succ, interZ, zre, zim, inter, dot]⟩
   | 3, h => cases h; exact ⟨by rfl, by simp [ev, unitL, List.range_succ, interZ, zre, zim, inter, dot]⟩
theorem init_rel {xs : List (Nat × Nat)} {zs : List (Int × Int)} {nc : Nat} (hn : zs.length = 1 ∨ zs.length = 2 ∨ zs.length = 4) (hz : ZL xs zs) (hnc : zs.length ≤ nc) : RelF (interZ zs) (xs ++ List.replicate (nc - zs.length) (0, 0)) (initF zs.length nc) := by
 refine ⟨by simp [initF, hz.1]; omega, fun i c hc => ?_⟩
 unfold initF at hc
 rw [List.getElem?_map] at hc
 by_cases hi : i < nc
 · rw [List.getElem?_range hi] at hc
   simp only [Option.map_some, Option.some.injEq] at hc
   by_cases h : i < zs.length
   · rw [if_pos h] at hc
     subst hc
     obtain ⟨z, hzi⟩ : ∃ z, zs[i]? = some z := ⟨_, List.getElem?_eq_getElem h⟩
     obtain ⟨f, hf, hfz⟩ := hz.2 i z hzi
     obtain ⟨h1, h2⟩ := ev_unit hn hzi
     exact ⟨h1, f, by rw [List.getElem?_append_left (by rw [hz.1]; exact h)]; exact hf, by rw [h2]; exact hfz⟩
   · rw [if_neg h] at hc
     subst hc
     refine ⟨by decide, (0, 0), ?_, ?_⟩
     · rw [List.getElem?_append_right (by rw [hz.1]; omega), List.getElem?_replicate, if_pos (by rw [hz.1]; omega)]
     · simp only [ev, dot_nil]; exact ⟨isZ_zero, isZ_zero⟩
 · rw [List.getElem?_eq_none (by simp; omega)] at hc; cases hc
theorem dftZ_len (zs : List (Int × Int)) : (dftZ zs).length = zs.length := by simp [dftZ]
theorem ans_rel {n nc ac : Nat} {ss : List Sp} {xs : List (Nat × Nat)} {zs : List (Int × Int)} (hf : FitP n nc ac ss) (hz : ZL xs zs) (hl : zs.length = n) (hb : ∀ z ∈ zs, z.1.natAbs ≤ 17592186044416 ∧ z.2.natAbs ≤ 17592186044416) :
 ∃ cfin, runP ss (initF n nc) = some cfin ∧ InX (interZ zs) ∧ RelF (interZ zs) (xs ++ List.replicate (nc - n) (0, 0)) (initF n nc) ∧ ∀ fs', RelF (interZ zs) fs' cfin → ZL ((fs'.drop n).take n) (dftZ zs) := by
 have ha := hf.ans
 unfold answer at ha
 simp only [Option.bind_eq_bind, Option.bind_eq_some_iff] at ha
 obtain ⟨cfin, hr, ha⟩ := ha
 have ha := Option.some.inj ha
 have hsz := hf.sz
 rw [← hl] at hsz
 refine ⟨cfin, hr, ?_, ?_, ?_⟩
 · intro x hx
   rcases inter_mem hx with h | h
   · obtain ⟨z, hz, rfl⟩ := List.mem_map.1 h; exact (hb z hz).1
   · obtain ⟨z, hz, rfl⟩ := List.mem_map.1 h; exact (hb z hz).2
 · have h9 := init_rel (nc := nc) hsz hz (by have := hf.room; omega)
   rw [hl] at h9; exact h9
 · intro fs' hr'
   have hlen : (interZ zs).length = 2 * n := by unfold interZ; rw [inter_len _ _ (by simp [zre, zim])]; simp [zre, hl]
   have hwl : (wantL n).length = n := by rcases hf.sz with h | h | h <;> rw [h] <;> rfl
   have hfl : ((fs'.drop n).take n).length = n := by
     have h1 := congrArg List.length ha
     rw [hwl] at h1
     simp only [List.length_map, List.length_take, List.length_drop] at h1 ⊢
     rw [hr'.1]; exact h1
   refine ⟨by rw [hfl, dftZ_len, hl], fun i z hi => ?_⟩
   have hin : i < n := by have := getE_lt hi; rw [dftZ_len, hl] at this; exact this
   have hzz : z = (smU (zre zs) (zim zs) i zs.length, smV (zre zs) (zim zs) i zs.length) := by
     unfold dftZ at hi
     rw [List.getElem?_map, List.getElem?_range (by omega)] at hi
     exact (Option.some.inj hi).symm
   obtain ⟨c, hc⟩ : ∃ c, (wantL n)[i]? = some c := ⟨_, List.getElem?_eq_getElem (by omega)⟩
   have hd := dft_small (re := zre zs) (im := zim zs) (by simp [zre, zim]) (by simpa [zre] using hsz) (k := i) (c := c) (by simpa [zre, hl] using hc)
   rw [← ha, List.getElem?_map, List.getElem?_take, if_pos hin, List.getElem?_drop] at hc
   cases e : cfin[n + i]? with
   | none => rw [e] at hc; cases hc
   | some d =>
     rw [e] at hc
     have hc := Option.some.inj hc
     obtain ⟨_, f, hf1, hf2⟩ := hr'.2 (n + i) d e
     refine ⟨f, by rw [List.getElem?_take, if_pos hin, List.getElem?_drop]; exact hf1, ?_⟩
     have h7 : ev d (interZ zs) = ev c (interZ zs) := by
       rw [← hc, ← hlen]
       simp only [ev, dot_pad]
     rw [h7] at hf2
     rw [hzz]
     rw [show (zre zs).length = zs.length by simp [zre]] at hd
     rw [← hd]
     exact hf2
theorem Begin_f {w0 w : World} {F : List Seg} {E : Nat → Value} {bp : Nat} {o0 o1 o2 wy tx : Value} {n nc ac cps : Nat} {ps : Option Addr} {ss : List Sp} (H : Hp w0 w ([(bp, cel (plV o0 o1 o2 wy tx n nc 0 n ps ss.length cps) 79)] :: F)) (g9 : GErr F 7 (E 9)) (hT : SlAt F (some ⟨12, 0, none⟩) tableC) {xs : List (Nat × Nat)} {zs : List (Int × Int)} {px : Option Addr} {cx : Nat} (hs : SlAt F ps (spsV ss)) (hfp : FitP n nc ac ss) (hx : SlAt F px (cxs xs)) (hz : ZL xs zs) (hxn : zs.length = n) : Ret Tryz.prog 57 [.pointer (some ⟨bp, 0, none⟩), .slice px n cx, .bool false] w fun v w' => ∃ br bm bc by_ q c sl ys, v = .tuple #[.pointer (some ⟨br, 0, none⟩), .nilIface] ∧ ys.length = n ∧ ZL ys zs ∧ OwnSl 178 7 q ss.length c (spsV ss) sl ∧ Hp w0 w' ([(br, cel [.pointer (some ⟨bp, 0, none⟩), .bool false, .pointer (some ⟨bm, 0, none⟩)] 153)] :: [(bm, cel (mcV (.int .i64 ((n : Nat) : Int)) (.int .i64 ((nc : Nat) : Int)) (.int .i64 ((0 : Nat) : Int)) (.int .i64 ((n : Nat) : Int)) (.slice q ss.length c) by_ (.slice (some ⟨bc, 0, none⟩) nc nc) (.int .i64 ((ac : Nat) : Int)) (.int .i64 ((0 : Nat) : Int)) (.int .i64 ((0 : Nat) : Int)) (.int .i64 ((0 : Nat) : Int)) (.slice none 0 0) [.int .i64 0, .int .i64 0, .int .i64 0, .int .i64 0, .int .i64 0, .int .i64 0, .int .i64 0]) 185)] :: [(bc, cel (cxs (ys ++ List.replicate (nc - n) (0, 0))) 49)] :: sl :: [(bp, cel (plV o0 o1 o2 wy tx n nc 0 n ps ss.length cps) 79)] :: F) := by
 refine Calls.of_J (n := 40) Tryz.func57 rfl rfl rfl (J.seq ?_)
 have hxl : xs.length = n := hz.1.trans hxn
 have hn1 : 1 ≤ n := by rcases hfp.sz with h | h | h <;> omega
 have hnc := hfp.room
 have hnc2 := hfp.small
 have hss := hfp.len
 have hac := hfp.cap
 subst hxl
 refine J.region (JL.g (RX.assign) (JL.g (RX.assign) (JL.nil (J.seq (J.seq (J.region (JL.ms rfl (JL.g (RX.len_slice rfl (by rw [sl27]; rfl) rfl) ?_))))))))
 refine JL.mp rfl (JL.e (EX.call rfl cl91 rfl ((pLength_b H))) ?_)
 rintro _ w ⟨rfl, H⟩
 refine JL.g (RX.ne rfl rfl) (JL.nil (J.cond_f rfl (decide_eq_false (fun h => h rfl)) (J.skip (J.seq (J.region (JL.mp rfl (JL.e (EX.call rfl cl93 rfl ((pProgram_b H hs (by omega)))) ?_)))))))
 rintro _ w ⟨q0, c0, s0, rfl, ho0, H⟩
 refine JL.e (EX.call rfl cl92 rfl ((mNew_b H g9.cons.cons hT.cons.cons ho0.slAt hfp.fine))) ?_
 rintro _ w ⟨bm, bc, by_, q, c, sl, rfl, ho, H⟩
 replace H := (H.pull 3 rfl).drop
 refine JL.g (RX.movev (v := .tuple _) rfl) (JL.g (RX.extract (v := .pointer _) rfl rfl) (JL.g (RX.extract (v := .nilIface) rfl rfl) (JL.ap rfl (JL.g (RX.assignv (v := .nilIface) rfl) (JL.nil (J.seq (J.seq (J.region (JL.g (RX.movev (v := .nilIface) rfl) (JL.g (RX.ifnil_neq (v := .nilIface) rfl rfl rfl if31) (JL.nil (J.cond_f rfl rfl (J.skip (J.seq (J.seq (J.region (JL.mb rfl (JL.nil (J.cond_f rfl rfl (J.skip (J.seq (J.seq (J.region (JL.mp rfl (JL.ms rfl (JL.e (EX.call rfl cl95 rfl ((mLoad_b (n := xs.length) (cx := cx) H (by simp) hx.cons.cons rfl hn1 (by omega) (by omega)))) ?_))))))))))))))))))))))))))
 rintro _ w ⟨rfl, H⟩
 refine JL.g (RX.assignv (v := .nilIface) rfl) (JL.nil (J.seq (J.region (JL.g (RX.movev (v := .nilIface) rfl) (JL.g (RX.ifnil_neq (v := .nilIface) rfl rfl rfl if31) (JL.nil (J.cond_f rfl rfl (J.skip (J.seq (J.region (JL.mp rfl (JL.mb rfl (JL.mp rfl (JL.g (RX.build (pv := [(0, .pointer (some ⟨bp, 0, none⟩)), (1, .bool false), (2, .pointer (some ⟨bm, 0, none⟩))]) (res := [.pointer (some ⟨bp, 0, none⟩), .bool false, .pointer (some ⟨bm, 0, none⟩)]) rfl (by kernel_rfl)) (JL.e (EX.box (v := .agg _) H rfl rfl) ?_)))))))))))))))
 rintro _ w ⟨br, rfl, H⟩
 refine JL.ap rfl (JL.g (RX.assign) (JL.nil (J.ret2 (v := .pointer _) Tryz.func57 rfl rfl rfl ?_)))
 exact ⟨_, rfl, br, bm, bc, by_, q, c, sl, xs, rfl, rfl, hz, ho, H⟩
theorem Begin_i {w0 w : World} {F : List Seg} {E : Nat → Value} {bp : Nat} {o0 o1 o2 wy tx : Value} {n nc ac cps : Nat} {ps : Option Addr} {ss : List Sp} (H : Hp w0 w ([(bp, cel (plV o0 o1 o2 wy tx n nc 0 n ps ss.length cps) 79)] :: F)) (g9 : GErr F 7 (E 9)) (hT : SlAt F (some ⟨12, 0, none⟩) tableC) {xs : List (Nat × Nat)} {zs : List (Int × Int)} {px : Option Addr} {cx : Nat} (hs : SlAt F ps (spsV ss)) (hfp : FitP n nc ac ss) (hx : SlAt F px (cxs xs)) (hz : ZL xs zs) (hxn : zs.length = n) : Ret Tryz.prog 57 [.pointer (some ⟨bp, 0, none⟩), .slice px n cx, .bool true] w fun v w' => ∃ br bm bc by_ q c sl ys, v = .tuple #[.pointer (some ⟨br, 0, none⟩), .nilIface] ∧ ys.length = n ∧ ZL ys (cjL zs) ∧ OwnSl 178 7 q ss.length c (spsV ss) sl ∧ Hp w0 w' ([(br, cel [.pointer (some ⟨bp, 0, none⟩), .bool true, .pointer (some ⟨bm, 0, none⟩)] 153)] :: [(bm, cel (mcV (.int .i64 ((n : Nat) : Int)) (.int .i64 ((nc : Nat) : Int)) (.int .i64 ((0 : Nat) : Int)) (.int .i64 ((n : Nat) : Int)) (.slice q ss.length c) by_ (.slice (some ⟨bc, 0, none⟩) nc nc) (.int .i64 ((ac : Nat) : Int)) (.int .i64 ((0 : Nat) : Int)) (.int .i64 ((0 : Nat) : Int)) (.int .i64 ((0 : Nat) : Int)) (.slice none 0 0) [.int .i64 0, .int .i64 0, .int .i64 0, .int .i64 0, .int .i64 0, .int .i64 0, .int .i64 0]) 185)] :: [(bc, cel (cxs (ys ++ List.replicate (nc - n) (0, 0))) 49)] :: sl :: [(bp, cel (plV o0 o1 o2 wy tx n nc 0 n ps ss.length cps) 79)] :: F) := by
 refine Calls.of_J (n := 40) Tryz.func57 rfl rfl rfl (J.seq ?_)
 have hxl : xs.length = n := hz.1.trans hxn
 have hn1 : 1 ≤ n := by rcases hfp.sz with h | h | h <;> omega
 have hnc := hfp.room
 have hnc2 := hfp.small
 have hss := hfp.len
 have hac := hfp.cap
 subst hxl
 refine J.region (JL.g (RX.assign) (JL.g (RX.assign) (JL.nil (J.seq (J.seq (J.region (JL.ms rfl (JL.g (RX.len_slice rfl (by rw [sl27]; rfl) rfl) ?_))))))))
 refine JL.mp rfl (JL.e (EX.call rfl cl91 rfl ((pLength_b H))) ?_)
 rintro _ w ⟨rfl, H⟩
 refine JL.g (RX.ne rfl rfl) (JL.nil (J.cond_f rfl (decide_eq_false (fun h => h rfl)) (J.skip (J.seq (J.region (JL.mp rfl (JL.e (EX.call rfl cl93 rfl ((pProgram_b H hs (by omega)))) ?_)))))))
 rintro _ w ⟨q0, c0, s0, rfl, ho0, H⟩
 refine JL.e (EX.call rfl cl92 rfl ((mNew_b H g9.cons.cons hT.cons.cons ho0.slAt hfp.fine))) ?_
 rintro _ w ⟨bm, bc, by_, q, c, sl, rfl, ho, H⟩
 replace H := (H.pull 3 rfl).drop
 refine JL.g (RX.movev (v := .tuple _) rfl) (JL.g (RX.extract (v := .pointer _) rfl rfl) (JL.g (RX.extract (v := .nilIface) rfl rfl) (JL.ap rfl (JL.g (RX.assignv (v := .nilIface) rfl) (JL.nil (J.seq (J.seq (J.region (JL.g (RX.movev (v := .nilIface) rfl) (JL.g (RX.ifnil_neq (v := .nilIface) rfl rfl rfl if31) (JL.nil (J.cond_f rfl rfl (J.skip (J.seq (J.seq (J.region (JL.mb rfl (JL.nil (J.cond_t rfl rfl (J.region (JL.ms rfl (JL.e (EX.call rfl cl94 rfl ((conj_b (cx := cx) H hx.cons.cons.cons.cons hz (by omega)))) ?_))))))))))))))))))))))
 rintro _ w ⟨bo, ys, rfl, hy, H⟩
 have hyl : ys.length = xs.length := by rw [hy.1]; simp [cjL, hz.1]
 refine JL.al rfl (JL.nil (J.seq (J.seq (J.region (JL.mp rfl (JL.ms rfl (JL.e (EX.call rfl cl95 rfl ((mLoad_b (n := xs.length) (cx := xs.length) ((H.pull 2 rfl).pull 2 rfl) (by simp) (SlAt.here List.take_length) hyl hn1 (by omega) (by omega)))) ?_)))))))
 rintro _ w ⟨rfl, H⟩
 replace H := (H.pull 2 rfl).drop
 refine JL.g (RX.assignv (v := .nilIface) rfl) (JL.nil (J.seq (J.region (JL.g (RX.movev (v := .nilIface) rfl) (JL.g (RX.ifnil_neq (v := .nilIface) rfl rfl rfl if31) (JL.nil (J.cond_f rfl rfl (J.skip (J.seq (J.region (JL.mp rfl (JL.mb rfl (JL.mp rfl (JL.g (RX.build (pv := [(0, .pointer (some ⟨bp, 0, none⟩)), (1, .bool true), (2, .pointer (some ⟨bm, 0, none⟩))]) (res := [.pointer (some ⟨bp, 0, none⟩), .bool true, .pointer (some ⟨bm, 0, none⟩)]) rfl (by kernel_rfl)) (JL.e (EX.box (v := .agg _) H rfl rfl) ?_)))))))))))))))
 rintro _ w ⟨br, rfl, H⟩
 refine JL.ap rfl (JL.g (RX.assign) (JL.nil (J.ret2 (v := .pointer _) Tryz.func57 rfl rfl rfl ?_)))
 exact ⟨_, rfl, br, bm, bc, by_, q, c, sl, ys, rfl, hyl, hy, ho, H⟩
theorem cjL_b {zs : List (Int × Int)} (hb : ∀ z ∈ zs, z.1.natAbs ≤ 17592186044416 ∧ z.2.natAbs ≤ 17592186044416) : ∀ z ∈ cjL zs, z.1.natAbs ≤ 17592186044416 ∧ z.2.natAbs ≤ 17592186044416 := by
 intro z hz
 obtain ⟨y, hy, rfl⟩ := List.mem_map.1 hz
 have := hb y hy
 simp only [Int.natAbs_neg]; exact this
theorem cjL_len (zs : List (Int × Int)) : (cjL zs).length = zs.length := by simp [cjL]
theorem initF_len (n nc : Nat) : (initF n nc).length = nc := by simp [initF]
theorem whole_f {w0 w : World} {F : List Seg} {E : Nat → Value} {bp : Nat} {o0 o1 o2 wy tx : Value} {n nc ac cps : Nat} {ps : Option Addr} {ss : List Sp} (H : Hp w0 w ([(bp, cel (plV o0 o1 o2 wy tx n nc 0 n ps ss.length cps) 79)] :: F)) (g9 : GErr F 7 (E 9)) (hT : SlAt F (some ⟨12, 0, none⟩) tableC) {xs : List (Nat × Nat)} {zs : List (Int × Int)} {px : Option Addr} {cx : Nat} (hs : SlAt F ps (spsV ss)) (hfp : FitP n nc ac ss) (hx : SlAt F px (cxs xs)) (hz : ZL xs zs) (hxn : zs.length = n) (hb : ∀ z ∈ zs, z.1.natAbs ≤ 17592186044416 ∧ z.2.natAbs ≤ 17592186044416) : Ret Tryz.prog 30 [.pointer (some ⟨bp, 0, none⟩), .slice px n cx, .bool false] w fun v w' => ∃ q c s rs, v = .tuple #[.slice q n c, .nilIface] ∧ OwnSl 49 1 q n c (cxs rs) s ∧ ZL rs (dftZ zs) ∧ Hp w0 w' (s :: [(bp, cel (plV o0 o1 o2 wy tx n nc 0 n ps ss.length cps) 79)] :: F) := by
 refine Calls.of_J (n := 39) Tryz.func30 rfl rfl rfl (J.seq ?_)
 have hn1 : 1 ≤ n := by rcases hfp.sz with h | h | h <;> omega
 have hnc := hfp.room
 have hnc2 := hfp.small
 have hac := hfp.cap
 have hac1 := hfp.one
 refine J.region (JL.g (RX.assign) (JL.g (RX.assign) (JL.nil (J.seq (J.region (JL.mp rfl (JL.ms rfl (JL.mb rfl (JL.e (EX.call rfl cl57 rfl ((Begin_f (cx := cx) H g9 hT hs hfp hx hz hxn))) ?_)))))))))
 rintro _ w ⟨br, bm, bc, by_, q, c, sl, ys, rfl, hyl, hy, ho, H⟩
 obtain ⟨cfin, hr, hX, hrel, hres⟩ := ans_rel hfp hy hxn hb
 refine JL.g (RX.movev (v := .tuple _) rfl) (JL.g (RX.extract (v := .pointer _) rfl rfl) (JL.g (RX.extract (v := .nilIface) rfl rfl) (JL.ap rfl (JL.g (RX.assignv (v := .nilIface) rfl) (JL.nil (J.seq (J.seq (J.region (JL.g (RX.movev (v := .nilIface) rfl) (JL.g (RX.ifnil_neq (v := .nilIface) rfl rfl rfl if31) (JL.nil (J.cond_f rfl rfl (J.skip (J.seq (J.seq (J.region (JL.mp rfl (JL.e (EX.call rfl cl58 rfl ((rLeft_b H (by omega) (by omega)))) ?_))))))))))))))))))
 rintro _ w ⟨rfl, H⟩
 refine JL.g (RX.gt rfl rfl) (JL.nil (J.cond_t rfl (decide_eq_true (by omega)) (J.seq (J.region (JL.mp rfl (JL.mp rfl (JL.e (EX.call rfl cl58 rfl ((rLeft_b H (by omega) (by omega)))) ?_)))))))
 rintro _ w ⟨rfl, H⟩
 rw [Nat.sub_zero]
 refine JL.e (EX.call rfl cl59 rfl ((rDo_b H (by simp [hyl]; omega) hX (by rw [initF_len]; omega) hrel ho.slAt hfp.ok hfp.acts hfp.len hac1 hac hr))) ?_
 rintro _ w ⟨rfl, fs, hfl, hfr, H⟩
 refine JL.g (RX.movev (v := .tuple _) rfl) (JL.g (RX.extract (v := .int _ _) rfl rfl) (JL.g (RX.extract (v := .nilIface) rfl rfl) (JL.ai rfl (JL.g (RX.assignv (v := .nilIface) rfl) (JL.nil (J.seq (J.region (JL.g (RX.movev (v := .nilIface) rfl) (JL.g (RX.ifnil_neq (v := .nilIface) rfl rfl rfl if31) (JL.nil (J.cond_f rfl rfl (J.skip (J.seq (J.region (JL.mp rfl (JL.e (EX.call rfl cl60 rfl ((rResF_b H hfl (by omega) (by omega) hac))) ?_))))))))))))))))
 rintro _ w ⟨q2, c2, s2, rfl, ho2, H⟩
 replace H := ((((H.pull 1 rfl).drop.pull 1 rfl).drop.pull 1 rfl).drop.pull 1 rfl).drop
 refine JL.g (RX.extract rfl rfl) (JL.g (RX.extract (v := .nilIface) rfl rfl) (JL.al rfl (JL.g (RX.assignv (v := .nilIface) rfl) (JL.nil (J.ret2 (v := .slice _ _ _) Tryz.func30 rfl rfl rfl ?_)))))
 exact ⟨_, rfl, q2, c2, s2, _, rfl, ho2, hres fs hfr, H⟩
theorem Forward_b {w0 w : World} {F : List Seg} {E : Nat → Value} {bp : Nat} {o0 o1 o2 wy tx : Value} {n nc ac cps : Nat} {ps : Option Addr} {ss : List Sp} (H : Hp w0 w ([(bp, cel (plV o0 o1 o2 wy tx n nc 0 n ps ss.length cps) 79)] :: F)) (g9 : GErr F 7 (E 9)) (hT : SlAt F (some ⟨12, 0, none⟩) tableC) {xs : List (Nat × Nat)} {zs : List (Int × Int)} {px : Option Addr} {cx : Nat} (hs : SlAt F ps (spsV ss)) (hfp : FitP n nc ac ss) (hx : SlAt F px (cxs xs)) (hz : ZL xs zs) (hxn : zs.length = n) (hb : ∀ z ∈ zs, z.1.natAbs ≤ 17592186044416 ∧ z.2.natAbs ≤ 17592186044416) : Ret Tryz.prog 10 [.pointer (some ⟨bp, 0, none⟩), .slice px n cx] w fun v w' => ∃ q c s rs, v = .tuple #[.slice q n c, .nilIface] ∧ OwnSl 49 1 q n c (cxs rs) s ∧ ZL rs (dftZ zs) ∧ Hp w0 w' (s :: [(bp, cel (plV o0 o1 o2 wy tx n nc 0 n ps ss.length cps) 79)] :: F) := by
 refine Calls.of_J (n := 11) Tryz.func10 rfl rfl rfl (J.seq (J.region (JL.g (RX.assign) (JL.g (RX.assign) (JL.nil (J.seq (J.region (JL.mp rfl (JL.ms rfl (JL.e (EX.call rfl cl30 rfl ((whole_f (cx := cx) H g9 hT hs hfp hx hz hxn hb))) ?_))))))))))
 rintro _ w ⟨q2, c2, s2, rs, rfl, ho2, hrs, H⟩
 refine JL.g (RX.extract rfl rfl) (JL.g (RX.extract (v := .nilIface) rfl rfl) (JL.al rfl (JL.g (RX.assignv (v := .nilIface) rfl) (JL.nil (J.ret2 (v := .slice _ _ _) Tryz.func10 rfl rfl rfl ?_)))))
 exact ⟨_, rfl, q2, c2, s2, rs, rfl, ho2, hrs, H⟩
theorem whole_i {w0 w : World} {F : List Seg} {E : Nat → Value} {bp : Nat} {o0 o1 o2 wy tx : Value} {n nc ac cps : Nat} {ps : Option Addr} {ss : List Sp} (H : Hp w0 w ([(bp, cel (plV o0 o1 o2 wy tx n nc 0 n ps ss.length cps) 79)] :: F)) (g9 : GErr F 7 (E 9)) (hT : SlAt F (some ⟨12, 0, none⟩) tableC) {xs : List (Nat × Nat)} {zs : List (Int × Int)} {px : Option Addr} {cx : Nat} (hs : SlAt F ps (spsV ss)) (hfp : FitP n nc ac ss) (hx : SlAt F px (cxs xs)) (hz : ZL xs zs) (hxn : zs.length = n) (hb : ∀ z ∈ zs, z.1.natAbs ≤ 17592186044416 ∧ z.2.natAbs ≤ 17592186044416) {os : List (Int × Int)} {c2 : Nat} (hc2 : c2 ≤ 2) (hn2 : n = 2 ^ c2) (hos : dftZ (cjL zs) = os.map fun z => (z.1 * ((2 ^ c2 : Nat) : Int), -(z.2 * ((2 ^ c2 : Nat) : Int)))) (hob : ∀ z ∈ os, z.1.natAbs < 9007199254740992 ∧ z.2.natAbs < 9007199254740992) : Ret Tryz.prog 30 [.pointer (some ⟨bp, 0, none⟩), .slice px n cx, .bool true] w fun v w' => ∃ b rs, v = .tuple #[.slice (some ⟨b, 0, none⟩) n n, .nilIface] ∧ ZL rs os ∧ Hp w0 w' ([(b, cel (cxs rs) 49)] :: [(bp, cel (plV o0 o1 o2 wy tx n nc 0 n ps ss.length cps) 79)] :: F) := by
 refine Calls.of_J (n := 39) Tryz.func30 rfl rfl rfl (J.seq ?_)
 have hn1 : 1 ≤ n := by rcases hfp.sz with h | h | h <;> omega
 have hnc := hfp.room
 have hnc2 := hfp.small
 have hac := hfp.cap
 have hac1 := hfp.one
 refine J.region (JL.g (RX.assign) (JL.g (RX.assign) (JL.nil (J.seq (J.region (JL.mp rfl (JL.ms rfl (JL.mb rfl (JL.e (EX.call rfl cl57 rfl ((Begin_i (cx := cx) H g9 hT hs hfp hx hz hxn))) ?_)))))))))
 rintro _ w ⟨br, bm, bc, by_, q, c, sl, ys, rfl, hyl, hy, ho, H⟩
 obtain ⟨cfin, hr, hX, hrel, hres⟩ := ans_rel hfp hy ((cjL_len zs).trans hxn) (cjL_b hb)
 refine JL.g (RX.movev (v := .tuple _) rfl) (JL.g (RX.extract (v := .pointer _) rfl rfl) (JL.g (RX.extract (v := .nilIface) rfl rfl) (JL.ap rfl (JL.g (RX.assignv (v := .nilIface) rfl) (JL.nil (J.seq (J.seq (J.region (JL.g (RX.movev (v := .nilIface) rfl) (JL.g (RX.ifnil_neq (v := .nilIface) rfl rfl rfl if31) (JL.nil (J.cond_f rfl rfl (J.skip (J.seq (J.seq (J.region (JL.mp rfl (JL.e (EX.call rfl cl58 rfl ((rLeft_b H (by omega) (by omega)))) ?_))))))))))))))))))
 rintro _ w ⟨rfl, H⟩
 refine JL.g (RX.gt rfl rfl) (JL.nil (J.cond_t rfl (decide_eq_true (by omega)) (J.seq (J.region (JL.mp rfl (JL.mp rfl (JL.e (EX.call rfl cl58 rfl ((rLeft_b H (by omega) (by omega)))) ?_)))))))
 rintro _ w ⟨rfl, H⟩
 rw [Nat.sub_zero]
 refine JL.e (EX.call rfl cl59 rfl ((rDo_b H (by simp [hyl]; omega) hX (by rw [initF_len]; omega) hrel ho.slAt hfp.ok hfp.acts hfp.len hac1 hac hr))) ?_
 rintro _ w ⟨rfl, fs, hfl, hfr, H⟩
 refine JL.g (RX.movev (v := .tuple _) rfl) (JL.g (RX.extract (v := .int _ _) rfl rfl) (JL.g (RX.extract (v := .nilIface) rfl rfl) (JL.ai rfl (JL.g (RX.assignv (v := .nilIface) rfl) (JL.nil (J.seq (J.region (JL.g (RX.movev (v := .nilIface) rfl) (JL.g (RX.ifnil_neq (v := .nilIface) rfl rfl rfl if31) (JL.nil (J.cond_f rfl rfl (J.skip (J.seq (J.region (JL.mp rfl (JL.e (EX.call rfl cl60 rfl ((rResI_b (zs := os) H hfl (by omega) (by omega) hac hc2 hn2 (by rw [← hos]; exact hres fs hfr) hob))) ?_))))))))))))))))
 rintro _ w ⟨bo, rs, rfl, hrs, H⟩
 replace H := ((((H.pull 1 rfl).drop.pull 1 rfl).drop.pull 1 rfl).drop.pull 1 rfl).drop
 refine JL.g (RX.extract rfl rfl) (JL.g (RX.extract (v := .nilIface) rfl rfl) (JL.al rfl (JL.g (RX.assignv (v := .nilIface) rfl) (JL.nil (J.ret2 (v := .slice _ _ _) Tryz.func30 rfl rfl rfl ?_)))))
 exact ⟨_, rfl, bo, rs, rfl, hrs, H⟩
theorem Inverse_b {w0 w : World} {F : List Seg} {E : Nat → Value} {bp : Nat} {o0 o1 o2 wy tx : Value} {n nc ac cps : Nat} {ps : Option Addr} {ss : List Sp} (H : Hp w0 w ([(bp, cel (plV o0 o1 o2 wy tx n nc 0 n ps ss.length cps) 79)] :: F)) (g9 : GErr F 7 (E 9)) (hT : SlAt F (some ⟨12, 0, none⟩) tableC) {xs : List (Nat × Nat)} {zs : List (Int × Int)} {px : Option Addr} {cx : Nat} (hs : SlAt F ps (spsV ss)) (hfp : FitP n nc ac ss) (hx : SlAt F px (cxs xs)) (hz : ZL xs zs) (hxn : zs.length = n) (hb : ∀ z ∈ zs, z.1.natAbs ≤ 17592186044416 ∧ z.2.natAbs ≤ 17592186044416) {os : List (Int × Int)} {c2 : Nat} (hc2 : c2 ≤ 2) (hn2 : n = 2 ^ c2) (hos : dftZ (cjL zs) = os.map fun z => (z.1 * ((2 ^ c2 : Nat) : Int), -(z.2 * ((2 ^ c2 : Nat) : Int)))) (hob : ∀ z ∈ os, z.1.natAbs < 9007199254740992 ∧ z.2.natAbs < 9007199254740992) : Ret Tryz.prog 12 [.pointer (some ⟨bp, 0, none⟩), .slice px n cx] w fun v w' => ∃ b rs, v = .tuple #[.slice (some ⟨b, 0, none⟩) n n, .nilIface] ∧ ZL rs os ∧ Hp w0 w' ([(b, cel (cxs rs) 49)] :: [(bp, cel (plV o0 o1 o2 wy tx n nc 0 n ps ss.length cps) 79)] :: F) := by
 refine Calls.of_J (n := 11) Tryz.func12 rfl rfl rfl (J.seq (J.region (JL.g (RX.assign) (JL.g (RX.assign) (JL.nil (J.seq (J.region (JL.mp rfl (JL.ms rfl (JL.e (EX.call rfl cl30 rfl ((whole_i (cx := cx) H g9 hT hs hfp hx hz hxn hb hc2 hn2 hos hob))) ?_))))))))))
 rintro _ w ⟨bo, rs, rfl, hrs, H⟩
 refine JL.g (RX.extract rfl rfl) (JL.g (RX.extract (v := .nilIface) rfl rfl) (JL.al rfl (JL.g (RX.assignv (v := .nilIface) rfl) (JL.nil (J.ret2 (v := .slice _ _ _) Tryz.func12 rfl rfl rfl ?_)))))
 exact ⟨_, rfl, bo, rs, rfl, hrs, H⟩
end Go.Proofs.YtfaokllgaambjaaGreatDoor

/- The laws of chapter 15: names, forms, the same. -/
import Derived.Test.YtnbbeghaeijcbaaDoorLw
namespace Go.Proofs.YtnbbeghaeijcbaaDoor
open Go Go.Eng
set_option maxRecDepth 100000
set_option linter.unusedVariables false
set_option linter.unusedSimpArgs false
theorem StepsNames_b {w0 w : World} {F : List Seg} {E : Nat → Value} (H : Hp w0 w F) (h5 : E5 F E) (hT : SlAt F (some ⟨1, 0, none⟩) tableC) {op : Int} {nm : ByteArray} : Ret Tryd.prog 9 [.int .i64 op, .string nm] w fun v w' => v = .bool true ∧ Hp w0 w' F := by
  refine Calls.of_J (n := 79) Tryd.func9 rfl rfl rfl ?_
  refine J.seq ?_
  refine J.region ?_
  refine JL.go trivial (RX.assign) ?_
  refine JL.nil ?_
  refine J.seq ?_
  refine J.seq ?_
  refine J.region ?_
  refine JL.does trivial (EX.call rfl cl10 rfl ((lives_b H h5 hT))) ?_
  rintro _ w ⟨rfl, H⟩
  refine JL.go trivial (RX.not rfl) ?_
  refine JL.nil ?_
  refine J.cond_f rfl rfl ?_
  refine J.skip ?_
  refine J.seq ?_
  refine J.region ?_
  refine JL.go trivial (RX.movev (v := Value.int _ _) rfl) ?_
  refine JL.does trivial (EX.call rfl cl24 rfl ((name_b H hT))) ?_
  rintro _ w ⟨rfl, H⟩
  refine JL.go trivial (RX.movev (v := Value.tuple _) rfl) ?_
  refine JL.go trivial (RX.extract (vs := nameV op) (v := .string (if opOk op then (rowOf op).nm else ⟨#[]⟩)) rfl (by unfold nameV; split <;> rfl)) ?_
  refine JL.go trivial (RX.extract (vs := nameV op) (v := .bool (opOk op)) rfl (by unfold nameV; split <;> simp_all)) ?_
  refine JL.go trivial (RX.assignv (v := Value.string _) rfl) ?_
  refine JL.go trivial (RX.assignv (v := Value.bool _) rfl) ?_
  refine JL.nil ?_
  refine J.seq ?_
  refine J.region ?_
  refine JL.go trivial (RX.movev (v := Value.int _ _) rfl) ?_
  refine JL.does trivial (EX.call rfl cl25 rfl ((rname_b H))) ?_
  rintro _ w ⟨rfl, H⟩
  refine JL.go trivial (RX.movev (v := Value.tuple _) rfl) ?_
  refine JL.go trivial (RX.extract (vs := nameV op) (v := .string (if opOk op then (rowOf op).nm else ⟨#[]⟩)) rfl (by unfold nameV; split <;> rfl)) ?_
  refine JL.go trivial (RX.extract (vs := nameV op) (v := .bool (opOk op)) rfl (by unfold nameV; split <;> simp_all)) ?_
  refine JL.go trivial (RX.assignv (v := Value.string _) rfl) ?_
  refine JL.go trivial (RX.assignv (v := Value.bool _) rfl) ?_
  refine JL.nil ?_
  refine J.seq ?_
  refine J.seq ?_
  refine J.region ?_
  refine JL.go trivial (RX.movev (v := Value.string _) rfl) ?_
  refine JL.go trivial (RX.movev (v := Value.string _) rfl) ?_
  refine JL.go trivial (RX.str_neq rfl rfl) ?_
  refine JL.go trivial (RX.movev (v := Value.bool _) rfl) ?_
  refine JL.go ⟨_, rfl, (decide_eq_false (fun h => h rfl))⟩ (RX.movev (v := Value.bool _) rfl) ?_
  refine JL.go ⟨_, rfl, (decide_eq_false (fun h => h rfl))⟩ (RX.movev (v := Value.bool _) rfl) ?_
  refine JL.go ⟨_, rfl, (decide_eq_false (fun h => h rfl))⟩ (RX.bool_neq rfl rfl ud4) ?_
  refine JL.go trivial (RX.pick_f rfl (decide_eq_false (fun h => h rfl))) ?_
  refine JL.nil ?_
  refine J.cond_f rfl (by simp) ?_
  refine J.skip ?_
  refine J.seq ?_
  refine J.region ?_
  refine JL.go trivial (RX.movev (v := Value.string _) rfl) ?_
  refine JL.does trivial (EX.call rfl cl26 rfl ((Op_b H hT))) ?_
  rintro v w ⟨hv1, H⟩
  obtain ⟨n, yes, rfl⟩ : ∃ n yes, v = Value.tuple #[.int .i64 n, .bool yes] := by
    rcases hv1 with ⟨i, _, _, _, rfl⟩ | ⟨_, rfl⟩
    · exact ⟨_, _, rfl⟩
    · exact ⟨_, _, rfl⟩
  refine JL.go trivial (RX.movev (v := Value.tuple _) rfl) ?_
  refine JL.go trivial (RX.extract rfl rfl) ?_
  refine JL.go trivial (RX.extract rfl rfl) ?_
  refine JL.go trivial (RX.assignv (v := Value.int _ _) rfl) ?_
  refine JL.go trivial (RX.assignv (v := Value.bool _) rfl) ?_
  refine JL.nil ?_
  refine J.seq ?_
  refine J.region ?_
  refine JL.go trivial (RX.movev (v := Value.string _) rfl) ?_
  refine JL.does trivial (EX.call rfl cl27 rfl ((rOp_b H))) ?_
  rintro v2 w ⟨hv2, H⟩
  have e := op_uniq hv2 hv1
  subst e
  refine JL.go trivial (RX.movev (v := Value.tuple _) rfl) ?_
  refine JL.go trivial (RX.extract rfl rfl) ?_
  refine JL.go trivial (RX.extract rfl rfl) ?_
  refine JL.go trivial (RX.assignv (v := Value.int _ _) rfl) ?_
  refine JL.go trivial (RX.assignv (v := Value.bool _) rfl) ?_
  refine JL.nil ?_
  refine J.seq ?_
  refine J.seq ?_
  refine J.region ?_
  refine JL.go trivial (RX.movev (v := Value.int _ _) rfl) ?_
  refine JL.go trivial (RX.movev (v := Value.int _ _) rfl) ?_
  refine JL.go trivial (RX.ne rfl rfl) ?_
  refine JL.go trivial (RX.movev (v := Value.bool _) rfl) ?_
  refine JL.go ⟨_, rfl, (decide_eq_false (fun h => h rfl))⟩ (RX.movev (v := Value.bool _) rfl) ?_
  refine JL.go ⟨_, rfl, (decide_eq_false (fun h => h rfl))⟩ (RX.movev (v := Value.bool _) rfl) ?_
  refine JL.go ⟨_, rfl, (decide_eq_false (fun h => h rfl))⟩ (RX.bool_neq rfl rfl ud4) ?_
  refine JL.go trivial (RX.pick_f rfl (decide_eq_false (fun h => h rfl))) ?_
  refine JL.nil ?_
  refine J.cond_f rfl (by simp) ?_
  refine J.skip ?_
  refine J.seq ?_
  refine J.seq ?_
  refine J.region ?_
  refine JL.go trivial (RX.assign) ?_
  refine JL.nil ?_
  refine J.block ?_
  refine J.loop (ι := Nat) (S := fun k => [(11, .int .i64 (k : Nat))]) (Φ := fun k w => 1 ≤ k ∧ k ≤ 12 ∧ Hp w0 w F) (μ := fun k => 12 - k) (C := []) 1 trivial ⟨rfl, trivial⟩ ?_ ?_
  · exact ⟨by omega, by omega, H⟩
  clear H
  rintro k ρ w ⟨hk1, hk2, H⟩ IH
  refine J.seq ?_
  refine J.seq ?_
  refine J.region ?_
  refine JL.go trivial (RX.movev (v := Value.int _ _) rfl) ?_
  refine JL.go trivial (RX.lt rfl rfl) ?_
  refine JL.nil ?_
  refine J.cond_d rfl (fun hlt => ?_) (fun hlt => ?_)
  · skip
    refine J.skip ?_
    refine J.seq ?_
    refine J.block ?_
    refine J.seq ?_
    refine J.region ?_
    refine JL.go trivial (RX.movev (v := Value.int _ _) rfl) ?_
    have hopk : opOk (k : Int) = true := decide_eq_true (by omega)
    refine JL.does trivial (EX.call rfl cl24 rfl ((name_b H hT))) ?_
    rintro _ w ⟨rfl, H⟩
    refine JL.go trivial (RX.movev (v := Value.tuple _) rfl) ?_
    refine JL.go trivial (RX.extract (vs := nameV (k : Int)) (v := .string (rowOf (k : Int)).nm) rfl (by rw [nameV, hopk]; rfl)) ?_
    refine JL.go trivial (RX.extract (vs := nameV (k : Int)) (v := .bool true) rfl (by rw [nameV, hopk]; rfl)) ?_
    refine JL.go trivial (RX.assignv (v := Value.string _) rfl) ?_
    refine JL.go trivial (RX.assignv (v := Value.bool _) rfl) ?_
    refine JL.nil ?_
    refine J.seq ?_
    refine J.region ?_
    refine JL.go trivial (RX.movev (v := Value.string _) rfl) ?_
    refine JL.does trivial (EX.call rfl cl26 rfl ((Op_b H hT))) ?_
    rintro v3 w ⟨hv3, H⟩
    have e := op_uniq hv3 (.inl ⟨k, hk1, by omega, rfl, rfl⟩)
    subst e
    refine JL.go trivial (RX.movev (v := Value.tuple _) rfl) ?_
    refine JL.go trivial (RX.extract rfl rfl) ?_
    refine JL.go trivial (RX.extract rfl rfl) ?_
    refine JL.go trivial (RX.assignv (v := Value.int _ _) rfl) ?_
    refine JL.go trivial (RX.assignv (v := Value.bool _) rfl) ?_
    refine JL.nil ?_
    refine J.seq ?_
    refine J.region ?_
    refine JL.go trivial (RX.movev (v := Value.bool _) rfl) ?_
    refine JL.go trivial (RX.not rfl) ?_
    refine JL.go trivial (RX.movev (v := Value.bool _) rfl) ?_
    refine JL.go ⟨_, rfl, rfl⟩ (RX.movev (v := Value.bool _) rfl) ?_
    refine JL.go ⟨_, rfl, rfl⟩ (RX.not rfl) ?_
    refine JL.go trivial (RX.pick_f rfl rfl) ?_
    refine JL.go trivial (RX.movev (v := Value.bool _) rfl) ?_
    refine JL.go ⟨_, rfl, rfl⟩ (RX.movev (v := Value.int _ _) rfl) ?_
    refine JL.go ⟨_, rfl, rfl⟩ (RX.movev (v := Value.int _ _) rfl) ?_
    refine JL.go ⟨_, rfl, rfl⟩ (RX.ne rfl rfl) ?_
    refine JL.go trivial (RX.pick_f rfl rfl) ?_
    refine JL.nil ?_
    refine J.cond_f rfl (decide_eq_false (fun h => h rfl)) ?_
    refine J.skip ?_
    refine J.inBlock ?_
    refine J.region ?_
    refine JL.go trivial (RX.movev (v := Value.int _ _) rfl) ?_
    refine JL.go trivial (RX.add rfl rfl (w_i64 rfl (by omega) (by omega))) ?_
    refine JL.go trivial (RX.assignv (v := Value.int _ _) rfl) ?_
    refine JL.nil ?_
    exact IH (k + 1) _ _ (by omega) trivial ⟨rfl, trivial⟩ ⟨by omega, by omega, H⟩
  · skip
    refine J.exit rfl ?_
    refine J.seq ?_
    refine J.region ?_
    refine JL.go trivial (RX.assign) ?_
    refine JL.nil ?_
    refine J.ret1 (v := Value.bool _) Tryd.func9 rfl rfl ?_
    exact ⟨_, rfl, rfl, H⟩
theorem StepsForms_b {w0 w : World} {F : List Seg} {E : Nat → Value} {Q : Nat → Addr} (H : Hp w0 w F) (hE : Errs F E Q) (hT : SlAt F (some ⟨1, 0, none⟩) tableC) {l : List Stp} {lp : Option Addr} {lc : Nat} (hl : SlAt F lp (stepsV l)) (hlk : ∀ s ∈ l, s.Ok) (hln : l.length ≤ 9223372036854775807) : Ret Tryd.prog 3 [.slice lp l.length lc] w fun v w' => v = .bool true ∧ Hp w0 w' F := by
  refine Calls.of_J (n := 33) Tryd.func3 rfl rfl rfl ?_
  refine J.seq ?_
  refine J.region ?_
  refine JL.go trivial (RX.assign) ?_
  refine JL.nil ?_
  refine J.seq ?_
  refine J.seq ?_
  refine J.region ?_
  refine JL.does trivial (EX.call rfl cl10 rfl ((lives_b H hE.five hT))) ?_
  rintro _ w ⟨rfl, H⟩
  refine JL.go trivial (RX.not rfl) ?_
  refine JL.nil ?_
  refine J.cond_f rfl rfl ?_
  refine J.skip ?_
  refine J.seq ?_
  refine J.seq ?_
  refine J.region ?_
  refine JL.go trivial (RX.movev (v := Value.slice _ _ _) rfl) ?_
  refine JL.go trivial (RX.len_slice rfl (by rw [sl22]; rfl) rfl) ?_
  refine JL.go trivial (RX.move) ?_
  refine JL.nil ?_
  refine J.block ?_
  refine J.loop (ι := Nat) (S := fun k => [(11, .int .i64 (k : Nat))]) (Φ := fun k w => k ≤ l.length ∧ Hp w0 w F) (μ := fun k => l.length - k) (C := [(9, _), (10, _)]) 0 ⟨rfl, rfl, trivial⟩ ⟨rfl, trivial⟩ ?_ ?_
  · exact ⟨by omega, H⟩
  clear H
  rintro k ρ w ⟨hk, H⟩ IH
  refine J.seq ?_
  refine J.region ?_
  refine JL.go trivial (RX.lt rfl rfl) ?_
  refine JL.nil ?_
  refine J.seq ?_
  refine J.cond_d rfl (fun hlt => ?_) (fun hlt => ?_)
  · skip
    obtain ⟨s, hs⟩ : ∃ s, l[k]? = some s := ⟨_, List.getElem?_eq_getElem (by omega)⟩
    have hsok := hlk s (List.mem_of_getElem? hs)
    obtain ⟨pb, po, rfl, _⟩ := hl.some (by rw [stepsV_len]; omega)
    refine J.skip ?_
    refine J.seq ?_
    refine J.block ?_
    refine J.seq ?_
    refine J.region ?_
    refine JL.go trivial (RX.indexAddr rfl rfl sl22 (by omega) (by omega) rfl) ?_
    refine JL.go trivial (RX.loadAggS H hl rfl (j := k * 7) (by omega) (stepsV_read _ _ _ hs) ag25) ?_
    refine JL.does trivial (EX.alloc H zr25 rfl) ?_
    rintro _ w ⟨b1, rfl, H⟩
    refine JL.does trivial (EX.storeAgg H rfl rfl (i := 0) (vs := s.v) (l' := s.v) rfl (stp_cell _) (by simp [Stp.v]) sz25 rfl rfl) ?_
    rintro _ w H
    refine JL.nil ?_
    refine J.seq ?_
    refine J.region ?_
    refine JL.go trivial (RX.loadAgg H rfl (i := 0) (vs := s.v) rfl rfl ag25) ?_
    refine JL.does trivial (EX.call rfl cl11 rfl ((rform_b H hsok))) ?_
    rintro _ w ⟨rfl, H⟩
    refine JL.go trivial (RX.assignv (v := Value.int _ _) rfl) ?_
    refine JL.nil ?_
    refine J.seq ?_
    refine J.region ?_
    refine JL.go trivial (RX.fieldAddr rfl fo25_4 rfl) ?_
    refine JL.go trivial (by first | exact RX.load H rfl (i := 0) rfl rfl one3 | exact RX.load H rfl (i := 1) rfl rfl one3) ?_
    refine JL.go trivial (RX.assignv (v := Value.int _ _) rfl) ?_
    refine JL.nil ?_
    refine J.seq ?_
    refine J.seq ?_
    refine J.region ?_
    refine JL.go trivial (RX.movev (v := Value.int _ _) rfl) ?_
    refine JL.go trivial (RX.ne rfl rfl) ?_
    refine JL.nil ?_
    refine J.join (ι := Unit) (fun q => [(6, .int .i64 (if formB s then s.count else 0))]) (fun q w => Hp w0 w ([(b1, cel s.v 25)] :: F)) [(4, _), (5, _), (9, _), (10, _), (11, _)] ⟨rfl, rfl, rfl, rfl, rfl, trivial⟩ ?_ ?_
    rotate_left
    · skip
      intro k2 hk2
      refine J.cond_d rfl (fun hf => ?_) (fun hf => ?_)
      · skip
        refine J.region ?_
        refine JL.go trivial (RX.assign) ?_
        refine JL.nil ?_
        first
        | exact hk2 () _ _ ⟨rfl, rfl, rfl, rfl, rfl, trivial⟩ ⟨(show Value.int .i64 0 = Value.int .i64 (if formB s then s.count else 0) by cases h : formB s; rfl; rw [h] at hf; simp at hf), trivial⟩ H
        | exact hk2 () _ _ ⟨rfl, rfl, rfl, rfl, rfl, trivial⟩ ⟨(show Value.int .i64 s.count = Value.int .i64 (if formB s then s.count else 0) by cases h : formB s; rw [h] at hf; simp at hf; rfl), trivial⟩ H
      · skip
        refine J.skip ?_
        first
        | exact hk2 () _ _ ⟨rfl, rfl, rfl, rfl, rfl, trivial⟩ ⟨(show Value.int .i64 0 = Value.int .i64 (if formB s then s.count else 0) by cases h : formB s; rfl; rw [h] at hf; simp at hf), trivial⟩ H
        | exact hk2 () _ _ ⟨rfl, rfl, rfl, rfl, rfl, trivial⟩ ⟨(show Value.int .i64 s.count = Value.int .i64 (if formB s then s.count else 0) by cases h : formB s; rw [h] at hf; simp at hf; rfl), trivial⟩ H
    · skip
      clear H
      rintro _ ρ w H
      refine J.seq ?_
      refine J.region ?_
      refine JL.go trivial (RX.loadAgg H rfl (i := 0) (vs := s.v) rfl rfl ag25) ?_
      refine JL.does trivial (EX.call rfl cl13 rfl ((Form_e H hE.five.cons hT.cons hsok))) ?_
      rintro _ w ⟨rfl, H⟩
      refine JL.does trivial (EX.call rfl cl12 rfl ((Num_b H hE.cons (by split <;> omega)))) ?_
      rintro _ w ⟨rfl, H⟩
      refine JL.go trivial (RX.movev (v := Value.int _ _) rfl) ?_
      refine JL.go trivial (RX.ne rfl rfl) ?_
      refine JL.go trivial (RX.movev (v := Value.bool _) rfl) ?_
      refine JL.go ⟨_, rfl, (decide_eq_false (by cases formB s <;> simp))⟩ (RX.loadAgg H rfl (i := 0) (vs := s.v) rfl rfl ag25) ?_
      refine JL.does ⟨_, rfl, (decide_eq_false (by cases formB s <;> simp))⟩ (EX.call rfl cl14 rfl ((Acts_b H hT.cons hsok))) ?_
      rintro _ w ⟨rfl, H⟩
      refine JL.go ⟨_, rfl, (decide_eq_false (by cases formB s <;> simp))⟩ (RX.movev (v := Value.int _ _) rfl) ?_
      refine JL.go ⟨_, rfl, (decide_eq_false (by cases formB s <;> simp))⟩ (RX.ne rfl rfl) ?_
      refine JL.go trivial (RX.pick_f rfl (decide_eq_false (by cases formB s <;> simp))) ?_
      refine JL.nil ?_
      refine J.cond_f rfl (decide_eq_false (fun h => h rfl)) ?_
      refine J.skip ?_
      refine J.inBlock ?_
      refine J.region ?_
      refine JL.go trivial (RX.add rfl rfl (w_i64 rfl (by omega) (by omega))) ?_
      refine JL.go trivial (RX.movev (v := Value.int _ _) rfl) ?_
      refine JL.nil ?_
      exact IH (k + 1) _ _ (by omega) ⟨rfl, rfl, trivial⟩ ⟨rfl, trivial⟩ ⟨by omega, H.drop⟩
  · skip
    refine J.exit rfl ?_
    refine J.seq ?_
    refine J.region ?_
    refine JL.go trivial (RX.assign) ?_
    refine JL.nil ?_
    refine J.ret1 (v := Value.bool _) Tryd.func3 rfl rfl ?_
    exact ⟨_, rfl, rfl, H⟩
theorem StepsSame_b {w0 w : World} {F : List Seg} {E : Nat → Value} (H : Hp w0 w F) (h5 : E5 F E) (hT : SlAt F (some ⟨1, 0, none⟩) tableC) {p q : Prg} {pp qp : Option Addr} {pc qc : Nat} (hp : SlAt F pp (stepsV p.steps)) (hq : SlAt F qp (stepsV q.steps)) (hpl : p.steps.length ≤ 9223372036854775807) (hql : q.steps.length ≤ 9223372036854775807) : Ret Tryd.prog 8 [.agg (prgV p pp p.steps.length pc).toArray, .agg (prgV q qp q.steps.length qc).toArray] w fun v w' => v = .bool true ∧ Hp w0 w' F := by
  refine Calls.of_J (n := 28) Tryd.func8 rfl rfl rfl ?_
  refine J.seq ?_
  refine J.region ?_
  refine JL.does trivial (EX.box (v := Value.agg _) H rfl rfl) ?_
  rintro _ w ⟨b1, rfl, H⟩
  refine JL.does trivial (EX.box (v := Value.agg _) H rfl rfl) ?_
  rintro _ w ⟨b2, rfl, H⟩
  refine JL.go trivial (RX.assign) ?_
  refine JL.nil ?_
  refine J.seq ?_
  refine J.seq ?_
  refine J.region ?_
  refine JL.does trivial (EX.call rfl cl10 rfl ((lives_b H h5.cons.cons hT.cons.cons))) ?_
  rintro _ w ⟨rfl, H⟩
  refine JL.go trivial (RX.not rfl) ?_
  refine JL.nil ?_
  refine J.cond_f rfl rfl ?_
  refine J.skip ?_
  refine J.seq ?_
  refine J.quietH H hmix (by kernel_rfl) ?_
  refine JQ.go trivial (fun w H => RX.loadAgg H rfl (i := 1) (vs := prgV p pp p.steps.length pc) rfl rfl ag33) ?_
  refine JQ.go trivial (fun w H => RX.loadAgg H rfl (i := 0) (vs := prgV q qp q.steps.length qc) rfl rfl ag33) ?_
  refine JQ.call trivial (fun w H => run_callq rfl cl21 rfl) (fun w H => (Same_b H hp.cons.cons hq.cons.cons hpl hql)) ?_
  refine JQ.go trivial (fun w H => RX.loadAgg H rfl (i := 1) (vs := prgV p pp p.steps.length pc) rfl rfl ag33) ?_
  refine JQ.go trivial (fun w H => RX.loadAgg H rfl (i := 0) (vs := prgV q qp q.steps.length qc) rfl rfl ag33) ?_
  refine JQ.call trivial (fun w H => run_callq rfl cl18 rfl) (fun w H => (rSame_b H hp.cons.cons hq.cons.cons hpl hql)) ?_
  refine JQ.go trivial (fun w H => RX.bool_eql rfl rfl ud4) ?_
  refine JQ.go trivial (fun w H => RX.movev (v := Value.bool _) rfl) ?_
  refine JQ.go ⟨_, rfl, (by simp)⟩ (fun w H => RX.loadAgg H rfl (i := 0) (vs := prgV q qp q.steps.length qc) rfl rfl ag33) ?_
  refine JQ.go ⟨_, rfl, (by simp)⟩ (fun w H => RX.loadAgg H rfl (i := 1) (vs := prgV p pp p.steps.length pc) rfl rfl ag33) ?_
  refine JQ.call ⟨_, rfl, (by simp)⟩ (fun w H => run_callq rfl cl21 rfl) (fun w H => (Same_b H hq.cons.cons hp.cons.cons hql hpl)) ?_
  refine JQ.go ⟨_, rfl, (by simp)⟩ (fun w H => RX.loadAgg H rfl (i := 1) (vs := prgV p pp p.steps.length pc) rfl rfl ag33) ?_
  refine JQ.go ⟨_, rfl, (by simp)⟩ (fun w H => RX.loadAgg H rfl (i := 0) (vs := prgV q qp q.steps.length qc) rfl rfl ag33) ?_
  refine JQ.call ⟨_, rfl, (by simp)⟩ (fun w H => run_callq rfl cl18 rfl) (fun w H => (rSame_b H hp.cons.cons hq.cons.cons hpl hql)) ?_
  refine JQ.go ⟨_, rfl, (by simp)⟩ (fun w H => RX.bool_eql rfl rfl ud4) ?_
  refine JQ.go trivial (fun w H => RX.pick_t rfl (by simp)) ?_
  refine JQ.go trivial (fun w H => RX.movev (v := Value.bool _) rfl) ?_
  refine JQ.go ⟨_, rfl, (by simp [eq_comm])⟩ (fun w H => RX.loadAgg H rfl (i := 1) (vs := prgV p pp p.steps.length pc) rfl rfl ag33) ?_
  refine JQ.go ⟨_, rfl, (by simp [eq_comm])⟩ (fun w H => RX.loadAgg H rfl (i := 1) (vs := prgV p pp p.steps.length pc) rfl rfl ag33) ?_
  refine JQ.call ⟨_, rfl, (by simp [eq_comm])⟩ (fun w H => run_callq rfl cl21 rfl) (fun w H => (Same_b H hp.cons.cons hp.cons.cons hpl hpl)) ?_
  refine JQ.go trivial (fun w H => RX.pick_t rfl (by simp [eq_comm])) ?_
  refine JQ.go trivial (fun w H => RX.assignv (v := Value.bool _) rfl) ?_
  refine JQ.nil fun w H => ?_
  refine J.ret1 (v := Value.bool _) Tryd.func8 rfl rfl ?_
  exact ⟨_, rfl, (by simp), H.drop.drop⟩
end Go.Proofs.YtnbbeghaeijcbaaDoor

/- The laws of chapter 18: what they share. -/
import Derived.Test.YtafhajgebhicdaaDoorTr
namespace Go.Proofs.YtafhajgebhicdaaDoor
open Go Go.Eng
set_option maxRecDepth 100000
set_option linter.unusedVariables false
set_option linter.unusedSimpArgs false

theorem prgV_cell {p : Prg} {pp : Option Addr} {n c : Nat} : ∀ v ∈ prgV p pp n c, isCell v = true := by
  intro v hv
  simp [prgV] at hv
  rcases hv with rfl | rfl | rfl | rfl | rfl <;> rfl
def prg0 : Prg := ⟨0, 0, 0, 0, []⟩
theorem elS : Elem Tryd.prog 22 39 7 56 := Elem.of (by kernel_rfl)
theorem step_eq (s t : Stp) : eqAnd Tryd.prog s.v t.v (Program.fieldsOf Tryd.prog 39).toList = some (s.op == t.op && (s.dst == t.dst && (s.src == t.src && (s.jump == t.jump && (s.count == t.count && (s.n == t.n && (s.k == t.k && true))))))) := by kernel_rfl
theorem step_beq (s t : Stp) : (s.op == t.op && (s.dst == t.dst && (s.src == t.src && (s.jump == t.jump && (s.count == t.count && (s.n == t.n && (s.k == t.k && true))))))) = decide (s = t) := by
  cases s; cases t
  simp [Stp.mk.injEq, Bool.decide_and]
  simp only [BEq.beq]
theorem step_dec (s t : Stp) : eqAnd Tryd.prog s.v t.v (Program.fieldsOf Tryd.prog 39).toList = some (decide (s = t)) := by rw [step_eq, step_beq]
def stpM (x : Int) : Stp := ⟨x, 0, 0, 0, 0, 0, 0⟩
theorem full_last {l : List Stp} : (stepsV (l ++ [stpM (-77)]))[l.length * 7]? = some (.int .i64 (-77)) := by
  rw [stepsV_app, List.getElem?_append_right (by rw [stepsV_len]; exact Nat.le_refl _), stepsV_len, Nat.sub_self]; rfl
theorem mine_sl {p : Prg} {fp : Option Addr} {fc : Nat} {fs : Seg} (h : OwnSl 39 7 fp (p.steps.length + 1) fc (stepsV (p.steps ++ [stpM (-77)])) fs) (L : List Seg) : SlAt (fs :: L) fp (stepsV p.steps) := by
  have := h.slAt (L := L)
  rw [stepsV_app] at this
  exact this.pre
def pLv : Prg := ⟨2, 4, 0, 2, [lv1, lv2]⟩
def pLv1 : Prg := ⟨2, 4, 0, 2, [lv1]⟩
theorem lv1_ok : lv1.Ok := by constructor <;> decide
theorem lv2_ok : lv2.Ok := by constructor <;> decide
theorem pLv_ok : pLv.Ok := ⟨by decide, by decide, by decide, by decide, fun s hs => by
  simp only [pLv, List.mem_cons, List.not_mem_nil, or_false] at hs
  rcases hs with rfl | rfl
  · exact lv1_ok
  · exact lv2_ok, by decide⟩
theorem pLv1_ok : pLv1.Ok := ⟨by decide, by decide, by decide, by decide, fun s hs => by
  simp only [pLv1, List.mem_singleton] at hs
  rw [hs]; exact lv1_ok, by decide⟩
theorem lv_t : tR lv1 = [0, 1] ∧ tW lv1 = [2, 3] := by
  constructor
  · rw [tR_eq (m := clL ⟨0, 1, 2⟩) lv_fault.2.2 (by decide) (clL_inc (show (1 : Int) ≤ 1 by decide)) (fun x => by
      have eB : baseL lv1 = [] := by decide
      have eD : rdsL lv1 = clL ⟨0, 1, 2⟩ := rfl
      rw [eB, eD]; simp)]
    decide
  · rw [tW_eq lv_fault.2.2 (by decide)]; decide
theorem chk_lv : chkP pLv = 9 := by unfold chkP; rw [if_neg]; rintro ⟨_, h⟩; rw [show faultP pLv.steps pLv.cells = 1 from lv_fault.1] at h; cases h
theorem chk_lv1 : chkP pLv1 = 0 := by unfold chkP; rw [if_pos]; exact ⟨by decide, lv_fault.2.1⟩
theorem acts_lv1 : actsN pLv1 = 2 := by unfold actsN; rw [if_pos chk_lv1]; decide
def workN (p : Prg) : Int := workA p.steps p.steps.length
theorem work_mul {s : Stp} (hf : formB s = true) : 0 ≤ s.count * (1 + s.n % 65) ∧ s.count * (1 + s.n % 65) ≤ 17039360 := by
  have ff := form_facts hf
  refine ⟨Int.mul_nonneg (by omega) (by omega), ?_⟩
  have h1 : s.count * (1 + s.n % 65) ≤ 262144 * (1 + s.n % 65) := Int.mul_le_mul_of_nonneg_right (by omega) (by omega)
  omega

theorem rSame_b {w0 w : World} {F : List Seg} {p q : Prg} {pp qp : Option Addr} {pc qc : Nat} (H : Hp w0 w F) (hp : SlAt F pp (stepsV p.steps)) (hq : SlAt F qp (stepsV q.steps)) (hpl : p.steps.length ≤ 9223372036854775807) (hql : q.steps.length ≤ 9223372036854775807) :
      Ret Tryd.prog 18 [.agg (prgV p pp p.steps.length pc).toArray, .agg (prgV q qp q.steps.length qc).toArray] w fun v w' => v = .bool (decide (p = q)) ∧ Hp w0 w' F := by
  refine Calls.of_J (n := 59) Tryd.func18 rfl rfl rfl ?_
  refine J.seq ?_
  refine J.region ?_
  refine JL.does trivial (EX.box (v := Value.agg _) H rfl rfl) ?_
  rintro _ w ⟨b1, rfl, H⟩
  refine JL.does trivial (EX.box (v := Value.agg _) H rfl rfl) ?_
  rintro _ w ⟨b2, rfl, H⟩
  refine JL.go trivial (RX.assign) ?_
  refine JL.nil ?_
  refine J.seq ?_
  refine J.seq ?_
  refine J.region ?_
  refine JL.go trivial (RX.fieldAddr rfl fo24_0 rfl) ?_
  refine JL.go trivial (by first | exact RX.load H rfl (i := 0) rfl rfl one3 | exact RX.load H rfl (i := 1) rfl rfl one3 | exact RX.load H rfl (i := 2) rfl rfl one3 | exact RX.load H rfl (i := 3) rfl rfl one3 | exact RX.load H rfl (i := 4) rfl rfl one3) ?_
  refine JL.go trivial (RX.fieldAddr rfl fo24_0 rfl) ?_
  refine JL.go trivial (by first | exact RX.load H rfl (i := 0) rfl rfl one3 | exact RX.load H rfl (i := 1) rfl rfl one3 | exact RX.load H rfl (i := 2) rfl rfl one3 | exact RX.load H rfl (i := 3) rfl rfl one3 | exact RX.load H rfl (i := 4) rfl rfl one3) ?_
  refine JL.go trivial (RX.ne rfl rfl) ?_
  refine JL.go trivial (RX.movev (v := Value.bool _) rfl) ?_
  refine JL.splitS 11 rfl (fun h1 => ?_) (fun h1 => ?_)
  · skip
    first | have h1p := of_decide_eq_true h1 | skip
    refine JL.no ⟨_, rfl, gno h1⟩ ?_
    refine JL.no ⟨_, rfl, gno h1⟩ ?_
    refine JL.no ⟨_, rfl, gno h1⟩ ?_
    refine JL.no ⟨_, rfl, gno h1⟩ ?_
    refine JL.no ⟨_, rfl, gno h1⟩ ?_
    refine JL.go trivial (RX.pick_t rfl h1) ?_
    refine JL.go trivial (RX.movev (v := Value.bool _) rfl) ?_
    refine JL.no ⟨_, rfl, gno rfl⟩ ?_
    refine JL.no ⟨_, rfl, gno rfl⟩ ?_
    refine JL.no ⟨_, rfl, gno rfl⟩ ?_
    refine JL.no ⟨_, rfl, gno rfl⟩ ?_
    refine JL.no ⟨_, rfl, gno rfl⟩ ?_
    refine JL.go trivial (RX.pick_t rfl rfl) ?_
    refine JL.go trivial (RX.movev (v := Value.bool _) rfl) ?_
    refine JL.no ⟨_, rfl, gno rfl⟩ ?_
    refine JL.no ⟨_, rfl, gno rfl⟩ ?_
    refine JL.no ⟨_, rfl, gno rfl⟩ ?_
    refine JL.no ⟨_, rfl, gno rfl⟩ ?_
    refine JL.no ⟨_, rfl, gno rfl⟩ ?_
    refine JL.go trivial (RX.pick_t rfl rfl) ?_
    refine JL.go trivial (RX.movev (v := Value.bool _) rfl) ?_
    refine JL.no ⟨_, rfl, gno rfl⟩ ?_
    refine JL.no ⟨_, rfl, gno rfl⟩ ?_
    refine JL.no ⟨_, rfl, gno rfl⟩ ?_
    refine JL.no ⟨_, rfl, gno rfl⟩ ?_
    refine JL.no ⟨_, rfl, gno rfl⟩ ?_
    refine JL.no ⟨_, rfl, gno rfl⟩ ?_
    refine JL.no ⟨_, rfl, gno rfl⟩ ?_
    refine JL.go trivial (RX.pick_t rfl rfl) ?_
    refine JL.nil ?_
    refine J.cond_t rfl rfl ?_
    refine J.seq ?_
    refine J.region ?_
    refine JL.go trivial (RX.assign) ?_
    refine JL.nil ?_
    refine J.ret1 (v := Value.bool _) Tryd.func18 rfl rfl ?_
    refine ⟨_, rfl, ?_, H.drop.drop⟩
    rw [decide_eq_false]
    intro h
    first | exact h1p (congrArg Prg.len h) | exact h2p (congrArg Prg.cells h) | exact h3p (congrArg Prg.inn h) | exact h4p (congrArg Prg.out h) | exact h5 (congrArg (fun x : Prg => (x.steps.length : Int)) h)
  · skip
    first | have h1p := of_decide_eq_false h1 | skip
    refine JL.go ⟨_, rfl, h1⟩ (RX.fieldAddr rfl fo24_1 rfl) ?_
    refine JL.go ⟨_, rfl, h1⟩ (by first | exact RX.load H rfl (i := 0) rfl rfl one3 | exact RX.load H rfl (i := 1) rfl rfl one3 | exact RX.load H rfl (i := 2) rfl rfl one3 | exact RX.load H rfl (i := 3) rfl rfl one3 | exact RX.load H rfl (i := 4) rfl rfl one3) ?_
    refine JL.go ⟨_, rfl, h1⟩ (RX.fieldAddr rfl fo24_1 rfl) ?_
    refine JL.go ⟨_, rfl, h1⟩ (by first | exact RX.load H rfl (i := 0) rfl rfl one3 | exact RX.load H rfl (i := 1) rfl rfl one3 | exact RX.load H rfl (i := 2) rfl rfl one3 | exact RX.load H rfl (i := 3) rfl rfl one3 | exact RX.load H rfl (i := 4) rfl rfl one3) ?_
    refine JL.go ⟨_, rfl, h1⟩ (RX.ne rfl rfl) ?_
    refine JL.go trivial (RX.pick_f rfl h1) ?_
    refine JL.go trivial (RX.movev (v := Value.bool _) rfl) ?_
    refine JL.splitS 18 rfl (fun h2 => ?_) (fun h2 => ?_)
    · skip
      first | have h2p := of_decide_eq_true h2 | skip
      refine JL.no ⟨_, rfl, gno h2⟩ ?_
      refine JL.no ⟨_, rfl, gno h2⟩ ?_
      refine JL.no ⟨_, rfl, gno h2⟩ ?_
      refine JL.no ⟨_, rfl, gno h2⟩ ?_
      refine JL.no ⟨_, rfl, gno h2⟩ ?_
      refine JL.go trivial (RX.pick_t rfl h2) ?_
      refine JL.go trivial (RX.movev (v := Value.bool _) rfl) ?_
      refine JL.no ⟨_, rfl, gno rfl⟩ ?_
      refine JL.no ⟨_, rfl, gno rfl⟩ ?_
      refine JL.no ⟨_, rfl, gno rfl⟩ ?_
      refine JL.no ⟨_, rfl, gno rfl⟩ ?_
      refine JL.no ⟨_, rfl, gno rfl⟩ ?_
      refine JL.go trivial (RX.pick_t rfl rfl) ?_
      refine JL.go trivial (RX.movev (v := Value.bool _) rfl) ?_
      refine JL.no ⟨_, rfl, gno rfl⟩ ?_
      refine JL.no ⟨_, rfl, gno rfl⟩ ?_
      refine JL.no ⟨_, rfl, gno rfl⟩ ?_
      refine JL.no ⟨_, rfl, gno rfl⟩ ?_
      refine JL.no ⟨_, rfl, gno rfl⟩ ?_
      refine JL.no ⟨_, rfl, gno rfl⟩ ?_
      refine JL.no ⟨_, rfl, gno rfl⟩ ?_
      refine JL.go trivial (RX.pick_t rfl rfl) ?_
      refine JL.nil ?_
      refine J.cond_t rfl rfl ?_
      refine J.seq ?_
      refine J.region ?_
      refine JL.go trivial (RX.assign) ?_
      refine JL.nil ?_
      refine J.ret1 (v := Value.bool _) Tryd.func18 rfl rfl ?_
      refine ⟨_, rfl, ?_, H.drop.drop⟩
      rw [decide_eq_false]
      intro h
      first | exact h1p (congrArg Prg.len h) | exact h2p (congrArg Prg.cells h) | exact h3p (congrArg Prg.inn h) | exact h4p (congrArg Prg.out h) | exact h5 (congrArg (fun x : Prg => (x.steps.length : Int)) h)
    · skip
      first | have h2p := of_decide_eq_false h2 | skip
      refine JL.go ⟨_, rfl, h2⟩ (RX.fieldAddr rfl fo24_2 rfl) ?_
      refine JL.go ⟨_, rfl, h2⟩ (by first | exact RX.load H rfl (i := 0) rfl rfl one3 | exact RX.load H rfl (i := 1) rfl rfl one3 | exact RX.load H rfl (i := 2) rfl rfl one3 | exact RX.load H rfl (i := 3) rfl rfl one3 | exact RX.load H rfl (i := 4) rfl rfl one3) ?_
      refine JL.go ⟨_, rfl, h2⟩ (RX.fieldAddr rfl fo24_2 rfl) ?_
      refine JL.go ⟨_, rfl, h2⟩ (by first | exact RX.load H rfl (i := 0) rfl rfl one3 | exact RX.load H rfl (i := 1) rfl rfl one3 | exact RX.load H rfl (i := 2) rfl rfl one3 | exact RX.load H rfl (i := 3) rfl rfl one3 | exact RX.load H rfl (i := 4) rfl rfl one3) ?_
      refine JL.go ⟨_, rfl, h2⟩ (RX.ne rfl rfl) ?_
      refine JL.go trivial (RX.pick_f rfl h2) ?_
      refine JL.go trivial (RX.movev (v := Value.bool _) rfl) ?_
      refine JL.splitS 25 rfl (fun h3 => ?_) (fun h3 => ?_)
      · skip
        first | have h3p := of_decide_eq_true h3 | skip
        refine JL.no ⟨_, rfl, gno h3⟩ ?_
        refine JL.no ⟨_, rfl, gno h3⟩ ?_
        refine JL.no ⟨_, rfl, gno h3⟩ ?_
        refine JL.no ⟨_, rfl, gno h3⟩ ?_
        refine JL.no ⟨_, rfl, gno h3⟩ ?_
        refine JL.go trivial (RX.pick_t rfl h3) ?_
        refine JL.go trivial (RX.movev (v := Value.bool _) rfl) ?_
        refine JL.no ⟨_, rfl, gno rfl⟩ ?_
        refine JL.no ⟨_, rfl, gno rfl⟩ ?_
        refine JL.no ⟨_, rfl, gno rfl⟩ ?_
        refine JL.no ⟨_, rfl, gno rfl⟩ ?_
        refine JL.no ⟨_, rfl, gno rfl⟩ ?_
        refine JL.no ⟨_, rfl, gno rfl⟩ ?_
        refine JL.no ⟨_, rfl, gno rfl⟩ ?_
        refine JL.go trivial (RX.pick_t rfl rfl) ?_
        refine JL.nil ?_
        refine J.cond_t rfl rfl ?_
        refine J.seq ?_
        refine J.region ?_
        refine JL.go trivial (RX.assign) ?_
        refine JL.nil ?_
        refine J.ret1 (v := Value.bool _) Tryd.func18 rfl rfl ?_
        refine ⟨_, rfl, ?_, H.drop.drop⟩
        rw [decide_eq_false]
        intro h
        first | exact h1p (congrArg Prg.len h) | exact h2p (congrArg Prg.cells h) | exact h3p (congrArg Prg.inn h) | exact h4p (congrArg Prg.out h) | exact h5 (congrArg (fun x : Prg => (x.steps.length : Int)) h)
      · skip
        first | have h3p := of_decide_eq_false h3 | skip
        refine JL.go ⟨_, rfl, h3⟩ (RX.fieldAddr rfl fo24_3 rfl) ?_
        refine JL.go ⟨_, rfl, h3⟩ (by first | exact RX.load H rfl (i := 0) rfl rfl one3 | exact RX.load H rfl (i := 1) rfl rfl one3 | exact RX.load H rfl (i := 2) rfl rfl one3 | exact RX.load H rfl (i := 3) rfl rfl one3 | exact RX.load H rfl (i := 4) rfl rfl one3) ?_
        refine JL.go ⟨_, rfl, h3⟩ (RX.fieldAddr rfl fo24_3 rfl) ?_
        refine JL.go ⟨_, rfl, h3⟩ (by first | exact RX.load H rfl (i := 0) rfl rfl one3 | exact RX.load H rfl (i := 1) rfl rfl one3 | exact RX.load H rfl (i := 2) rfl rfl one3 | exact RX.load H rfl (i := 3) rfl rfl one3 | exact RX.load H rfl (i := 4) rfl rfl one3) ?_
        refine JL.go ⟨_, rfl, h3⟩ (RX.ne rfl rfl) ?_
        refine JL.go trivial (RX.pick_f rfl h3) ?_
        refine JL.go trivial (RX.movev (v := Value.bool _) rfl) ?_
        refine JL.splitS 32 rfl (fun h4 => ?_) (fun h4 => ?_)
        · skip
          first | have h4p := of_decide_eq_true h4 | skip
          refine JL.no ⟨_, rfl, gno h4⟩ ?_
          refine JL.no ⟨_, rfl, gno h4⟩ ?_
          refine JL.no ⟨_, rfl, gno h4⟩ ?_
          refine JL.no ⟨_, rfl, gno h4⟩ ?_
          refine JL.no ⟨_, rfl, gno h4⟩ ?_
          refine JL.no ⟨_, rfl, gno h4⟩ ?_
          refine JL.no ⟨_, rfl, gno h4⟩ ?_
          refine JL.go trivial (RX.pick_t rfl h4) ?_
          refine JL.nil ?_
          refine J.cond_t rfl rfl ?_
          refine J.seq ?_
          refine J.region ?_
          refine JL.go trivial (RX.assign) ?_
          refine JL.nil ?_
          refine J.ret1 (v := Value.bool _) Tryd.func18 rfl rfl ?_
          refine ⟨_, rfl, ?_, H.drop.drop⟩
          rw [decide_eq_false]
          intro h
          first | exact h1p (congrArg Prg.len h) | exact h2p (congrArg Prg.cells h) | exact h3p (congrArg Prg.inn h) | exact h4p (congrArg Prg.out h) | exact h5 (congrArg (fun x : Prg => (x.steps.length : Int)) h)
        · skip
          first | have h4p := of_decide_eq_false h4 | skip
          refine JL.go ⟨_, rfl, h4⟩ (RX.fieldAddr rfl fo24_4 rfl) ?_
          refine JL.go ⟨_, rfl, h4⟩ (by first | exact RX.load H rfl (i := 0) rfl rfl one22 | exact RX.load H rfl (i := 1) rfl rfl one22 | exact RX.load H rfl (i := 2) rfl rfl one22 | exact RX.load H rfl (i := 3) rfl rfl one22 | exact RX.load H rfl (i := 4) rfl rfl one22) ?_
          refine JL.go ⟨_, rfl, h4⟩ (RX.len_slice rfl (by rw [sl22]; rfl) rfl) ?_
          refine JL.go ⟨_, rfl, h4⟩ (RX.fieldAddr rfl fo24_4 rfl) ?_
          refine JL.go ⟨_, rfl, h4⟩ (by first | exact RX.load H rfl (i := 0) rfl rfl one22 | exact RX.load H rfl (i := 1) rfl rfl one22 | exact RX.load H rfl (i := 2) rfl rfl one22 | exact RX.load H rfl (i := 3) rfl rfl one22 | exact RX.load H rfl (i := 4) rfl rfl one22) ?_
          refine JL.go ⟨_, rfl, h4⟩ (RX.len_slice rfl (by rw [sl22]; rfl) rfl) ?_
          refine JL.go ⟨_, rfl, h4⟩ (RX.ne rfl rfl) ?_
          refine JL.go trivial (RX.pick_f rfl h4) ?_
          refine JL.nil ?_
          refine J.cond_d rfl (fun h5 => ?_) (fun h5 => ?_)
          · skip
            refine J.seq ?_
            refine J.region ?_
            refine JL.go trivial (RX.assign) ?_
            refine JL.nil ?_
            refine J.ret1 (v := Value.bool _) Tryd.func18 rfl rfl ?_
            refine ⟨_, rfl, ?_, H.drop.drop⟩
            rw [decide_eq_false]
            intro h
            first | exact h1p (congrArg Prg.len h) | exact h2p (congrArg Prg.cells h) | exact h3p (congrArg Prg.inn h) | exact h4p (congrArg Prg.out h) | exact h5 (congrArg (fun x : Prg => (x.steps.length : Int)) h)
          · skip
            refine J.skip ?_
            refine J.seq ?_
            refine J.seq ?_
            refine J.region ?_
            refine JL.go trivial (RX.fieldAddr rfl fo24_4 rfl) ?_
            refine JL.go trivial (by first | exact RX.load H rfl (i := 0) rfl rfl one22 | exact RX.load H rfl (i := 1) rfl rfl one22 | exact RX.load H rfl (i := 2) rfl rfl one22 | exact RX.load H rfl (i := 3) rfl rfl one22 | exact RX.load H rfl (i := 4) rfl rfl one22) ?_
            refine JL.go trivial (RX.len_slice rfl (by rw [sl22]; rfl) rfl) ?_
            refine JL.go trivial (RX.move) ?_
            refine JL.nil ?_
            refine J.block ?_
            refine J.loop (ι := Nat) (S := fun i => [(44, .int .i64 (i : Nat))]) (Φ := fun i w => i ≤ p.steps.length ∧ p.steps.take i = q.steps.take i ∧ Hp w0 w ([(b2, cel (prgV q qp q.steps.length qc) 24)] :: [(b1, cel (prgV p pp p.steps.length pc) 24)] :: F)) (μ := fun i => p.steps.length - i) (C := [(2, _), (3, _), (43, _)]) 0 ⟨rfl, rfl, rfl, trivial⟩ ⟨rfl, trivial⟩ ?_ ?_
            · exact ⟨by omega, by simp, H⟩
            clear H
            rintro i ρ w ⟨hi, hpre, H⟩ IH
            refine J.seq ?_
            refine J.region ?_
            refine JL.go trivial (RX.lt rfl rfl) ?_
            refine JL.nil ?_
            refine J.seq ?_
            refine J.cond_d rfl (fun hlt => ?_) (fun hlt => ?_)
            · skip
              obtain ⟨s, hs⟩ : ∃ s, p.steps[i]? = some s := ⟨_, List.getElem?_eq_getElem (by omega)⟩
              obtain ⟨t, ht⟩ : ∃ t, q.steps[i]? = some t := ⟨_, List.getElem?_eq_getElem (by omega)⟩
              obtain ⟨pb, po, rfl, _⟩ := hp.some (by rw [stepsV_len]; omega)
              obtain ⟨qb, qo, rfl, _⟩ := hq.some (by rw [stepsV_len]; omega)
              refine J.skip ?_
              refine J.seq ?_
              refine J.block ?_
              refine J.seq ?_
              refine J.region ?_
              refine JL.go trivial (RX.movev (v := Value.int _ _) rfl) ?_
              refine JL.go trivial (RX.assignv (v := Value.int _ _) rfl) ?_
              refine JL.nil ?_
              refine J.seq ?_
              refine J.quietH H hmix (by kernel_rfl) ?_
              refine JQ.go trivial (fun w H => RX.fieldAddr rfl fo24_4 rfl) ?_
              refine JQ.go trivial (fun w H => by first | exact RX.load H rfl (i := 0) rfl rfl one22 | exact RX.load H rfl (i := 1) rfl rfl one22 | exact RX.load H rfl (i := 2) rfl rfl one22 | exact RX.load H rfl (i := 3) rfl rfl one22 | exact RX.load H rfl (i := 4) rfl rfl one22) ?_
              refine JQ.go trivial (fun w H => RX.movev (v := Value.int _ _) rfl) ?_
              refine JQ.go trivial (fun w H => RX.indexAddr rfl rfl sl22 (by omega) (by omega) rfl) ?_
              refine JQ.go trivial (fun w H => RX.loadAggS H hp.cons.cons rfl (j := i * 7) (by omega) (stepsV_read _ _ _ hs) ag39) ?_
              refine JQ.go trivial (fun w H => RX.fieldAddr rfl fo24_4 rfl) ?_
              refine JQ.go trivial (fun w H => by first | exact RX.load H rfl (i := 0) rfl rfl one22 | exact RX.load H rfl (i := 1) rfl rfl one22 | exact RX.load H rfl (i := 2) rfl rfl one22 | exact RX.load H rfl (i := 3) rfl rfl one22 | exact RX.load H rfl (i := 4) rfl rfl one22) ?_
              refine JQ.go trivial (fun w H => RX.movev (v := Value.int _ _) rfl) ?_
              refine JQ.go trivial (fun w H => RX.indexAddr rfl rfl sl22 (by omega) (by omega) rfl) ?_
              refine JQ.go trivial (fun w H => RX.loadAggS H hq.cons.cons rfl (j := i * 7) (by omega) (stepsV_read _ _ _ ht) ag39) ?_
              refine JQ.go trivial (fun w H => RX.agg_neq rfl rfl fl39 (step_dec s t)) ?_
              refine JQ.nil fun w H => ?_
              refine J.cond rfl (fun hst => ?_) (fun hst => ?_)
              · skip
                refine J.seq ?_
                refine J.region ?_
                refine JL.go trivial (RX.assign) ?_
                refine JL.nil ?_
                refine J.ret1 (v := Value.bool _) Tryd.func18 rfl rfl ?_
                refine ⟨_, rfl, ?_, H.drop.drop⟩
                rw [decide_eq_false]
                intro h
                subst h
                rw [hs] at ht
                cases ht
                simp at hst
              · skip
                refine J.skip ?_
                refine J.inBlock ?_
                refine J.region ?_
                refine JL.go trivial (RX.add rfl rfl (w_i64 rfl (by omega) (by omega))) ?_
                refine JL.go trivial (RX.movev (v := Value.int _ _) rfl) ?_
                refine JL.nil ?_
                exact IH (i + 1) _ _ (by omega) ⟨rfl, rfl, rfl, trivial⟩ ⟨rfl, trivial⟩ ⟨by omega, by rw [take_succ_get hs, take_succ_get ht, hpre, of_decide_eq_true (show decide (s = t) = true by simpa using hst)], H⟩
            · skip
              refine J.exit rfl ?_
              refine J.seq ?_
              refine J.region ?_
              refine JL.go trivial (RX.assign) ?_
              refine JL.nil ?_
              refine J.ret1 (v := Value.bool _) Tryd.func18 rfl rfl ?_
              refine ⟨_, rfl, ?_, H.drop.drop⟩
              rw [decide_eq_true]
              have hst : p.steps = q.steps := by
                have h6 : i = p.steps.length := by omega
                rw [h6, List.take_length, List.take_of_length_le (by omega)] at hpre
                exact hpre
              have e1 : p.len = q.len := by omega
              have e2 : p.cells = q.cells := by omega
              have e3 : p.inn = q.inn := by omega
              have e4 : p.out = q.out := by omega
              cases p; cases q
              simp_all
theorem copied_b {w0 w : World} {F : List Seg} {p : Prg} {pp : Option Addr} {pc : Nat} (H : Hp w0 w F) (hst : SlAt F pp (stepsV p.steps)) (hnum : p.steps.length ≤ 2199023255552) : Ret Tryd.prog 10 [.agg (prgV p pp p.steps.length pc).toArray] w fun v w' => ∃ fp fc fs, v = .tuple #[.agg (prgV p fp p.steps.length fc).toArray, .slice fp (p.steps.length + 1) fc] ∧ OwnSl 39 7 fp (p.steps.length + 1) fc (stepsV (p.steps ++ [stpM (-77)])) fs ∧ Hp w0 w' (fs :: F) := by
  refine Calls.of_J (n := 20) Tryd.func10 rfl rfl rfl ?_
  refine J.seq ?_
  refine J.region ?_
  refine JL.does trivial (EX.box (v := Value.agg _) H rfl rfl) ?_
  rintro _ w ⟨b1, rfl, H⟩
  refine JL.does trivial (EX.alloc H zr24 rfl) ?_
  rintro _ w ⟨b2, rfl, H⟩
  refine JL.go trivial (RX.assign) ?_
  refine JL.nil ?_
  refine J.seq ?_
  refine J.region ?_
  refine JL.does trivial (EX.buildSlice0 H elS) ?_
  rintro _ w ⟨b0, rfl, H⟩
  refine JL.go trivial (RX.fieldAddr rfl fo24_4 rfl) ?_
  refine JL.go trivial (by first | exact RX.load H rfl (i := 0) rfl rfl one22 | exact RX.load H rfl (i := 1) rfl rfl one22 | exact RX.load H rfl (i := 2) rfl rfl one22 | exact RX.load H rfl (i := 3) rfl rfl one22) ?_
  refine JL.does trivial (EX.append (ys := stepsV p.steps) (L' := fun s' => s' :: [(b2, cel (prgV prg0 none 0 0) 24)] :: [(b1, cel (prgV p pp p.steps.length pc) 24)] :: F) H elS rfl rfl (i := 0) rfl OwnSl.empty hst.cons.cons.cons (stepsV_len _) (stepsV_cell _) (by decide) (by omega) (by omega) (fun _ => rfl)) ?_
  rintro _ w ⟨p1, c1, s1, rfl, ho1, H⟩
  refine JL.go trivial (RX.build (pv := [(0, .int .i64 (-77))]) (res := (stpM (-77)).v) rfl (by kernel_rfl)) ?_
  refine JL.does trivial (EX.buildSlice (pv := [(0, .agg (stpM (-77)).v.toArray)]) (l := (stpM (-77)).v) (e := 39) H rfl (by kernel_rfl)) ?_
  rintro _ w ⟨bb, rfl, H⟩
  refine JL.does trivial (EX.append (ys := (stpM (-77)).v) (L' := fun s' => [(bb, cel (stpM (-77)).v 39)] :: s' :: [(b2, cel (prgV prg0 none 0 0) 24)] :: [(b1, cel (prgV p pp p.steps.length pc) 24)] :: F) H elS rfl rfl (i := 1) rfl ho1 (SlAt.here rfl) rfl (stp_cell _) (by decide) (by omega) (by omega) (fun _ => rfl)) ?_
  rintro _ w ⟨fp, fc, fs, rfl, hof, H⟩
  refine JL.go trivial (RX.assignv (v := Value.slice _ _ _) rfl) ?_
  refine JL.nil ?_
  replace H := H.drop
  simp only [Nat.zero_add, List.nil_append] at hof H
  have hle := hof.le
  have hspot : ∀ a, fp = some a → a.spot = none := by
    intro a ha
    obtain ⟨g, l, h1, _⟩ := hof.ptr (by omega)
    rw [h1] at ha; cases ha; rfl
  refine J.seq ?_
  refine J.region ?_
  refine JL.go trivial (RX.movev (v := Value.slice _ _ _) rfl) ?_
  refine JL.go trivial (RX.fieldAddr rfl fo24_4 rfl) ?_
  refine JL.go trivial (by first | exact RX.load H rfl (i := 0) rfl rfl one22 | exact RX.load H rfl (i := 1) rfl rfl one22 | exact RX.load H rfl (i := 2) rfl rfl one22 | exact RX.load H rfl (i := 3) rfl rfl one22) ?_
  refine JL.go trivial (RX.len_slice rfl (by rw [sl22]; rfl) rfl) ?_
  refine JL.go trivial (RX.slice_h rfl rfl sl22 hspot (by omega) (by omega) rfl) ?_
  refine JL.go trivial (RX.fieldAddr rfl fo24_4 rfl) ?_
  refine JL.does trivial (EX.store (v := Value.slice _ _ _) H rfl rfl (i := 2) (l' := prgV p fp p.steps.length fc) rfl rfl (by simp [prgV]) sz22 rfl rfl) ?_
  rintro _ w H
  refine JL.nil ?_
  refine J.seq ?_
  refine J.region ?_
  refine JL.go trivial (RX.loadAgg H rfl (i := 2) (vs := prgV p fp p.steps.length fc) rfl rfl ag24) ?_
  refine JL.go trivial (RX.movev (v := Value.slice _ _ _) rfl) ?_
  refine JL.does trivial (EX.storeAgg H rfl rfl (i := 1) (l' := prgV p fp p.steps.length fc) rfl prgV_cell (by simp [prgV]) sz24 rfl rfl) ?_
  rintro _ w H
  refine JL.go trivial (RX.assignv (v := Value.slice _ _ _) rfl) ?_
  refine JL.nil ?_
  first | refine J.retct (x := Value.slice _ _ _) Tryd.func10 rfl H rfl (i := 0) rfl rfl ag24 rfl ?_ | refine J.retct (x := Value.slice _ _ _) Tryd.func10 rfl H rfl (i := 1) rfl rfl ag24 rfl ?_ | refine J.retct (x := Value.slice _ _ _) Tryd.func10 rfl H rfl (i := 2) rfl rfl ag24 rfl ?_ | refine J.retct (x := Value.slice _ _ _) Tryd.func10 rfl H rfl (i := 3) rfl rfl ag24 rfl ?_
  exact ⟨_, rfl, fp, fc, fs, (by simp [prgV]), by rw [stepsV_app]; simpa [stepsV] using hof, (H.pull 1 rfl).drop.pull 1 rfl |>.drop⟩
theorem work_b {w0 w : World} {F : List Seg} (H : Hp w0 w F) {p : Prg} {pp : Option Addr} {pc : Nat} (hst : SlAt F pp (stepsV p.steps)) (hp : p.Ok) : Ret Tryd.prog 9 [.agg (prgV p pp p.steps.length pc).toArray] w fun v w' => v = .int .i64 (workN p) ∧ Hp w0 w' F := by
  refine Calls.of_J (n := 34) Tryd.func9 rfl rfl rfl ?_
  refine J.seq ?_
  refine J.region ?_
  refine JL.does trivial (EX.box (v := Value.agg _) H rfl rfl) ?_
  rintro _ w ⟨b1, rfl, H⟩
  refine JL.go trivial (RX.assign) ?_
  refine JL.nil ?_
  refine J.seq ?_
  refine J.region ?_
  refine JL.go trivial (RX.fieldAddr rfl fo24_4 rfl) ?_
  refine JL.go trivial (RX.load H rfl (i := 0) (v := .slice pp p.steps.length pc) rfl rfl one22) ?_
  refine JL.go trivial (RX.len_slice rfl (by rw [sl22]; rfl) rfl) ?_
  refine JL.go trivial (RX.assignv (v := Value.int _ _) rfl) ?_
  refine JL.nil ?_
  refine J.seq ?_
  refine J.seq ?_
  refine J.region ?_
  refine JL.go trivial (RX.fieldAddr rfl fo24_4 rfl) ?_
  refine JL.go trivial (RX.load H rfl (i := 0) (v := .slice pp p.steps.length pc) rfl rfl one22) ?_
  refine JL.go trivial (RX.len_slice rfl (by rw [sl22]; rfl) rfl) ?_
  refine JL.go trivial (RX.move) ?_
  refine JL.nil ?_
  have hnum := hp.num
  refine J.block ?_
  refine J.loop (ι := Nat × Int) (S := fun q => [(13, .int .i64 (q.1 : Nat)), (3, .int .i64 q.2)]) (Φ := fun q w => q.1 ≤ p.steps.length ∧ 0 ≤ q.2 ∧ q.2 ≤ 2199023255552 ∧ workA (p.steps.drop q.1) q.2 = workN p ∧ Hp w0 w ([(b1, cel (prgV p pp p.steps.length pc) 24)] :: F)) (μ := fun q => p.steps.length - q.1) (C := [(11, _), (12, _)]) (0, (p.steps.length : Int)) ⟨rfl, rfl, trivial⟩ ⟨rfl, rfl, trivial⟩ ?_ ?_
  · exact ⟨Nat.zero_le _, by simp only; omega, by simp only; omega, rfl, H⟩
  clear H
  rintro ⟨k, n⟩ ρ w ⟨hk, hs0, hs1, hfa, H⟩ IH
  simp only at hk hs0 hs1 hfa H
  dsimp only
  refine J.seq ?_
  refine J.region ?_
  refine JL.go trivial (RX.lt rfl rfl) ?_
  refine JL.nil ?_
  refine J.seq ?_
  refine J.cond_d rfl (fun hlt => ?_) (fun hlt => ?_)
  · skip
    obtain ⟨s, hsk⟩ : ∃ s, p.steps[k]? = some s := ⟨_, List.getElem?_eq_getElem (by omega)⟩
    have hsm := List.mem_of_getElem? hsk
    have hsok := hp.steps s hsm
    obtain ⟨pb, po, rfl, hpo⟩ := hst.some (by rw [stepsV_len]; omega)
    rw [List.drop_eq_getElem_cons (i := k) (by omega), show p.steps[k] = s from (List.getElem?_eq_some_iff.1 hsk).2, workA] at hfa
    refine J.skip ?_
    refine J.seq ?_
    refine J.block ?_
    refine J.seq ?_
    refine J.region ?_
    refine JL.go trivial (RX.indexAddr rfl rfl sl22 (by omega) (by omega) (o' := po + k * 7) (by omega)) ?_
    refine JL.go trivial (RX.loadAggS H hst.cons rfl (j := k * 7) (by omega) (vs := s.v) (stepsV_read _ _ _ hsk) ag39) ?_
    refine JL.does trivial (EX.alloc H zr39 rfl) ?_
    rintro _ w ⟨b5, rfl, H⟩
    refine JL.does trivial (EX.storeAgg H rfl rfl (i := 0) (vs := s.v) (l' := s.v) rfl (stp_cell _) (by simp [Stp.v]) sz39 rfl rfl) ?_
    rintro _ w H
    refine JL.nil ?_
    refine J.seq ?_
    refine J.region ?_
    refine JL.go trivial (RX.loadAgg H rfl (i := 0) (vs := s.v) rfl rfl ag39) ?_
    refine JL.does trivial (EX.call rfl cl24 rfl ((rform_b H hsok))) ?_
    rintro _ w ⟨rfl, H⟩
    refine JL.go trivial (RX.assignv (v := Value.int _ _) rfl) ?_
    refine JL.nil ?_
    refine J.seq ?_
    refine J.seq ?_
    refine J.region ?_
    refine JL.go trivial (RX.movev (v := Value.int _ _) rfl) ?_
    refine JL.go trivial (RX.ne rfl rfl) ?_
    refine JL.nil ?_
    refine J.cond_d rfl (fun hfb => ?_) (fun hfb => ?_)
    · skip
      have hf : formB s = false := by
        cases h : formB s with
        | false => rfl
        | true => rw [h] at hfb; exact absurd hfb (by decide)
      rw [if_pos hf] at hfa
      refine J.exit rfl ?_
      refine J.seq ?_
      refine J.region ?_
      refine JL.go trivial (RX.movev (v := Value.int _ _) rfl) ?_
      refine JL.go trivial (RX.assignv (v := Value.int _ _) rfl) ?_
      refine JL.nil ?_
      refine J.ret1 (v := Value.int _ _) Tryd.func9 rfl rfl ?_
      first
      | (rw [List.drop_eq_nil_of_le (by omega)] at hfa; exact ⟨_, rfl, by rw [← hfa]; rfl, H.drop⟩)
      | exact ⟨_, rfl, by rw [← hfa], H.drop.drop⟩
    · skip
      have hf : formB s = true := by
        cases h : formB s with
        | true => rfl
        | false => rw [h] at hfb; exact absurd hfb (by decide)
      have ff := form_facts hf
      have hwm := work_mul hf
      rw [if_neg (by rw [hf]; decide)] at hfa
      refine J.skip ?_
      refine J.seq ?_
      refine J.region ?_
      refine JL.go trivial (RX.movev (v := Value.int _ _) rfl) ?_
      refine JL.go trivial (RX.fieldAddr rfl fo39_4 rfl) ?_
      refine JL.go trivial (RX.load H rfl (i := 0) (v := .int .i64 s.count) rfl rfl one3) ?_
      refine JL.go trivial (RX.fieldAddr rfl fo39_5 rfl) ?_
      refine JL.go trivial (RX.load H rfl (i := 0) (v := .int .i64 s.n) rfl rfl one3) ?_
      refine JL.go trivial (RX.rem rfl rfl (by decide) (r := s.n % 65) (Int.tmod_eq_emod_of_nonneg (by omega))) ?_
      refine JL.go trivial (RX.add rfl rfl (w_i64 rfl (by omega) (by omega))) ?_
      refine JL.go trivial (RX.mul rfl rfl (w_i64 rfl (by omega) (by omega))) ?_
      refine JL.go trivial (RX.add rfl rfl (w_i64 rfl (by omega) (by omega))) ?_
      refine JL.go trivial (RX.assignv (v := Value.int _ _) rfl) ?_
      refine JL.nil ?_
      refine J.seq ?_
      refine J.region ?_
      refine JL.go trivial (RX.movev (v := Value.int _ _) rfl) ?_
      refine JL.go trivial (RX.gt rfl rfl) ?_
      refine JL.nil ?_
      refine J.cond_d rfl (fun hmu => ?_) (fun hmu => ?_)
      · skip
        rw [if_pos hmu] at hfa
        refine J.exit rfl ?_
        refine J.seq ?_
        refine J.region ?_
        refine JL.go trivial (RX.movev (v := Value.int _ _) rfl) ?_
        refine JL.go trivial (RX.assignv (v := Value.int _ _) rfl) ?_
        refine JL.nil ?_
        refine J.ret1 (v := Value.int _ _) Tryd.func9 rfl rfl ?_
        first
        | (rw [List.drop_eq_nil_of_le (by omega)] at hfa; exact ⟨_, rfl, by rw [← hfa]; rfl, H.drop⟩)
        | exact ⟨_, rfl, by rw [← hfa], H.drop.drop⟩
      · skip
        rw [if_neg hmu] at hfa
        refine J.skip ?_
        refine J.inBlock ?_
        refine J.region ?_
        refine JL.go trivial (RX.add rfl rfl (w_i64 (r := ((k + 1 : Nat) : Int)) (by omega) (by omega) (by omega))) ?_
        refine JL.go trivial (RX.movev (v := Value.int _ _) rfl) ?_
        refine JL.nil ?_
        exact IH (k + 1, n + s.count * (1 + s.n % 65)) _ _ (by simp only; omega) ⟨rfl, rfl, trivial⟩ ⟨rfl, rfl, trivial⟩ ⟨by simp only; omega, by simp only; omega, by simp only; omega, hfa, H.drop⟩
  · skip
    refine J.exit rfl ?_
    refine J.seq ?_
    refine J.region ?_
    refine JL.go trivial (RX.movev (v := Value.int _ _) rfl) ?_
    refine JL.go trivial (RX.assignv (v := Value.int _ _) rfl) ?_
    refine JL.nil ?_
    refine J.ret1 (v := Value.int _ _) Tryd.func9 rfl rfl ?_
    first
    | (rw [List.drop_eq_nil_of_le (by omega)] at hfa; exact ⟨_, rfl, by rw [← hfa]; rfl, H.drop⟩)
    | exact ⟨_, rfl, by rw [← hfa], H.drop.drop⟩
theorem work_any {w0 w : World} {F : List Seg} (H : Hp w0 w F) {p : Prg} {pp : Option Addr} {pc : Nat} (hst : SlAt F pp (stepsV p.steps)) (hp : p.Ow) : Ret Tryd.prog 9 [.agg (prgV p pp p.steps.length pc).toArray] w fun v w' => ∃ m : Int, v = .int .i64 m ∧ Hp w0 w' F := by
  refine Calls.of_J (n := 34) Tryd.func9 rfl rfl rfl ?_
  refine J.seq ?_
  refine J.region ?_
  refine JL.does trivial (EX.box (v := Value.agg _) H rfl rfl) ?_
  rintro _ w ⟨b1, rfl, H⟩
  refine JL.go trivial (RX.assign) ?_
  refine JL.nil ?_
  refine J.seq ?_
  refine J.region ?_
  refine JL.go trivial (RX.fieldAddr rfl fo24_4 rfl) ?_
  refine JL.go trivial (RX.load H rfl (i := 0) (v := .slice pp p.steps.length pc) rfl rfl one22) ?_
  refine JL.go trivial (RX.len_slice rfl (by rw [sl22]; rfl) rfl) ?_
  refine JL.go trivial (RX.assignv (v := Value.int _ _) rfl) ?_
  refine JL.nil ?_
  refine J.seq ?_
  refine J.seq ?_
  refine J.region ?_
  refine JL.go trivial (RX.fieldAddr rfl fo24_4 rfl) ?_
  refine JL.go trivial (RX.load H rfl (i := 0) (v := .slice pp p.steps.length pc) rfl rfl one22) ?_
  refine JL.go trivial (RX.len_slice rfl (by rw [sl22]; rfl) rfl) ?_
  refine JL.go trivial (RX.move) ?_
  refine JL.nil ?_
  have hnum := hp.num
  refine J.block ?_
  refine J.loop (ι := Nat × Int) (S := fun q => [(13, .int .i64 (q.1 : Nat)), (3, .int .i64 q.2)]) (Φ := fun q w => q.1 ≤ p.steps.length ∧ Hp w0 w ([(b1, cel (prgV p pp p.steps.length pc) 24)] :: F)) (μ := fun q => p.steps.length - q.1) (C := [(11, _), (12, _)]) (0, (p.steps.length : Int)) ⟨rfl, rfl, trivial⟩ ⟨rfl, rfl, trivial⟩ ?_ ?_
  · exact ⟨Nat.zero_le _, H⟩
  clear H
  rintro ⟨k, n⟩ ρ w ⟨hk, H⟩ IH
  simp only at hk H
  dsimp only
  refine J.seq ?_
  refine J.region ?_
  refine JL.go trivial (RX.lt rfl rfl) ?_
  refine JL.nil ?_
  refine J.seq ?_
  refine J.cond_d rfl (fun hlt => ?_) (fun hlt => ?_)
  · skip
    obtain ⟨s, hsk⟩ : ∃ s, p.steps[k]? = some s := ⟨_, List.getElem?_eq_getElem (by omega)⟩
    have hsm := List.mem_of_getElem? hsk
    have hsok := hp.steps s hsm
    obtain ⟨pb, po, rfl, hpo⟩ := hst.some (by rw [stepsV_len]; omega)
    refine J.skip ?_
    refine J.seq ?_
    refine J.block ?_
    refine J.seq ?_
    refine J.region ?_
    refine JL.go trivial (RX.indexAddr rfl rfl sl22 (by omega) (by omega) (o' := po + k * 7) (by omega)) ?_
    refine JL.go trivial (RX.loadAggS H hst.cons rfl (j := k * 7) (by omega) (vs := s.v) (stepsV_read _ _ _ hsk) ag39) ?_
    refine JL.does trivial (EX.alloc H zr39 rfl) ?_
    rintro _ w ⟨b5, rfl, H⟩
    refine JL.does trivial (EX.storeAgg H rfl rfl (i := 0) (vs := s.v) (l' := s.v) rfl (stp_cell _) (by simp [Stp.v]) sz39 rfl rfl) ?_
    rintro _ w H
    refine JL.nil ?_
    refine J.seq ?_
    refine J.region ?_
    refine JL.go trivial (RX.loadAgg H rfl (i := 0) (vs := s.v) rfl rfl ag39) ?_
    refine JL.does trivial (EX.call rfl cl24 rfl ((rform_b H hsok))) ?_
    rintro _ w ⟨rfl, H⟩
    refine JL.go trivial (RX.assignv (v := Value.int _ _) rfl) ?_
    refine JL.nil ?_
    refine J.seq ?_
    refine J.seq ?_
    refine J.region ?_
    refine JL.go trivial (RX.movev (v := Value.int _ _) rfl) ?_
    refine JL.go trivial (RX.ne rfl rfl) ?_
    refine JL.nil ?_
    refine J.cond_d rfl (fun hfb => ?_) (fun hfb => ?_)
    · skip
      have hf : formB s = false := by
        cases h : formB s with
        | false => rfl
        | true => rw [h] at hfb; exact absurd hfb (by decide)
      refine J.exit rfl ?_
      refine J.seq ?_
      refine J.region ?_
      refine JL.go trivial (RX.movev (v := Value.int _ _) rfl) ?_
      refine JL.go trivial (RX.assignv (v := Value.int _ _) rfl) ?_
      refine JL.nil ?_
      refine J.ret1 (v := Value.int _ _) Tryd.func9 rfl rfl ?_
      first
      | exact ⟨_, rfl, _, rfl, H.drop⟩
      | exact ⟨_, rfl, _, rfl, H.drop.drop⟩
    · skip
      have hf : formB s = true := by
        cases h : formB s with
        | true => rfl
        | false => rw [h] at hfb; exact absurd hfb (by decide)
      have ff := form_facts hf
      have hwm := work_mul hf
      refine J.skip ?_
      refine J.seq ?_
      refine J.region ?_
      refine JL.go trivial (RX.movev (v := Value.int _ _) rfl) ?_
      refine JL.go trivial (RX.fieldAddr rfl fo39_4 rfl) ?_
      refine JL.go trivial (RX.load H rfl (i := 0) (v := .int .i64 s.count) rfl rfl one3) ?_
      refine JL.go trivial (RX.fieldAddr rfl fo39_5 rfl) ?_
      refine JL.go trivial (RX.load H rfl (i := 0) (v := .int .i64 s.n) rfl rfl one3) ?_
      refine JL.go trivial (RX.rem rfl rfl (by decide) (r := s.n % 65) (Int.tmod_eq_emod_of_nonneg (by omega))) ?_
      refine JL.go trivial (RX.add rfl rfl (w_i64 rfl (by omega) (by omega))) ?_
      refine JL.go trivial (RX.mul rfl rfl (w_i64 rfl (by omega) (by omega))) ?_
      refine JL.go trivial (RX.add rfl rfl (r := IntKind.i64.wrap (n + s.count * (1 + s.n % 65))) rfl) ?_
      refine JL.go trivial (RX.assignv (v := Value.int _ _) rfl) ?_
      refine JL.nil ?_
      refine J.seq ?_
      refine J.region ?_
      refine JL.go trivial (RX.movev (v := Value.int _ _) rfl) ?_
      refine JL.go trivial (RX.gt rfl rfl) ?_
      refine JL.nil ?_
      refine J.cond_d rfl (fun hmu => ?_) (fun hmu => ?_)
      · skip
        refine J.exit rfl ?_
        refine J.seq ?_
        refine J.region ?_
        refine JL.go trivial (RX.movev (v := Value.int _ _) rfl) ?_
        refine JL.go trivial (RX.assignv (v := Value.int _ _) rfl) ?_
        refine JL.nil ?_
        refine J.ret1 (v := Value.int _ _) Tryd.func9 rfl rfl ?_
        first
        | exact ⟨_, rfl, _, rfl, H.drop⟩
        | exact ⟨_, rfl, _, rfl, H.drop.drop⟩
      · skip
        refine J.skip ?_
        refine J.inBlock ?_
        refine J.region ?_
        refine JL.go trivial (RX.add rfl rfl (w_i64 (r := ((k + 1 : Nat) : Int)) (by omega) (by omega) (by omega))) ?_
        refine JL.go trivial (RX.movev (v := Value.int _ _) rfl) ?_
        refine JL.nil ?_
        exact IH (k + 1, IntKind.i64.wrap (n + s.count * (1 + s.n % 65))) _ _ (by simp only; omega) ⟨rfl, rfl, trivial⟩ ⟨rfl, rfl, trivial⟩ ⟨by simp only; omega, H.drop⟩
  · skip
    refine J.exit rfl ?_
    refine J.seq ?_
    refine J.region ?_
    refine JL.go trivial (RX.movev (v := Value.int _ _) rfl) ?_
    refine JL.go trivial (RX.assignv (v := Value.int _ _) rfl) ?_
    refine JL.nil ?_
    refine J.ret1 (v := Value.int _ _) Tryd.func9 rfl rfl ?_
    first
    | exact ⟨_, rfl, _, rfl, H.drop⟩
    | exact ⟨_, rfl, _, rfl, H.drop.drop⟩
set_option maxHeartbeats 1600000 in
theorem lives_b {w0 w : World} {F : List Seg} {E : Nat → Value} {Q : Nat → Addr} (H : Hp w0 w F) (hE : Errs F E Q) (hT : SlAt F (some ⟨19, 0, none⟩) tableC) : Ret Tryd.prog 8 [] w fun v w' => v = .bool true ∧ Hp w0 w' F := by
  refine Calls.of_J (n := 68) Tryd.func8 rfl rfl rfl ?_
  refine J.seq ?_
  refine J.region ?_
  refine JL.go trivial (RX.assign) ?_
  refine JL.nil ?_
  refine J.seq ?_
  refine J.region ?_
  refine JL.go trivial (RX.build (pv := [(0, .int .i64 1), (1, .int .i64 2), (3, .int .i64 1), (4, .int .i64 2)]) (res := lv1.v) rfl (by kernel_rfl)) ?_
  refine JL.go trivial (RX.build (pv := [(0, .int .i64 1), (1, .int .i64 0), (2, .int .i64 1), (3, .int .i64 1), (4, .int .i64 2)]) (res := lv2.v) rfl (by kernel_rfl)) ?_
  refine JL.does trivial (EX.buildSlice (pv := [(0, .agg lv1.v.toArray), (1, .agg lv2.v.toArray)]) (l := stepsV [lv1, lv2]) (e := 39) H rfl (by kernel_rfl)) ?_
  rintro _ w ⟨bs, rfl, H⟩
  refine JL.go trivial (RX.build (pv := [(0, .int .i64 2), (1, .int .i64 4), (3, .int .i64 2), (4, .slice (some ⟨bs, 0, none⟩) 2 2)]) (res := prgV pLv (some ⟨bs, 0, none⟩) 2 2) rfl (by kernel_rfl)) ?_
  refine JL.does trivial (EX.alloc H zr24 rfl) ?_
  rintro _ w ⟨b1, rfl, H⟩
  refine JL.does trivial (EX.storeAgg H rfl rfl (i := 0) (vs := prgV pLv (some ⟨bs, 0, none⟩) 2 2) (l' := prgV pLv (some ⟨bs, 0, none⟩) 2 2) rfl prgV_cell (by simp [prgV]) sz24 rfl rfl) ?_
  rintro _ w H
  refine JL.nil ?_
  refine J.seq ?_
  refine J.region ?_
  refine JL.go trivial (RX.fieldAddr rfl fo24_4 rfl) ?_
  refine JL.go trivial (RX.load H rfl (i := 0) (v := .slice (some ⟨bs, 0, none⟩) 2 2) rfl rfl one22) ?_
  refine JL.go trivial (RX.indexAddr rfl rfl sl22 (by omega) (by omega) (o' := 0) rfl) ?_
  refine JL.go trivial (RX.loadAgg H rfl (i := 1) (vs := lv1.v) rfl rfl ag39) ?_
  refine JL.does trivial (EX.call rfl cl19 rfl ((Touched_b H hT.cons.cons (hE.at_ 9 (by decide) (by decide)).cons.cons lv1_ok))) ?_
  rintro _ w ⟨p1, c1, s1, p2, c2, s2, rfl, ho1, ho2, H⟩
  have hr1 := lv_t.1
  have hr2 := lv_t.2
  rw [hr1] at ho1 ⊢
  rw [hr2] at ho2 ⊢
  rw [lv_fault.2.2]
  obtain ⟨g2, l2, rfl, hg2⟩ := ho2.ptr (by decide)
  refine JL.go trivial (RX.movev (v := Value.tuple _) rfl) ?_
  refine JL.go trivial (RX.extract rfl rfl) ?_
  refine JL.go trivial (RX.extract rfl rfl) ?_
  refine JL.go trivial (RX.extract (v := Value.nilIface) rfl rfl) ?_
  refine JL.go trivial (RX.assignv (v := Value.slice _ _ _) rfl) ?_
  refine JL.go trivial (RX.assignv (v := Value.slice _ _ _) rfl) ?_
  refine JL.go trivial (RX.assignv (v := Value.nilIface) rfl) ?_
  refine JL.nil ?_
  refine J.seq ?_
  refine J.seq ?_
  refine J.region ?_
  refine JL.go trivial (RX.movev (v := Value.nilIface) rfl) ?_
  refine JL.go trivial (RX.ifnil_neq (v := Value.nilIface) rfl rfl rfl if30) ?_
  refine JL.go trivial (RX.movev (v := Value.bool _) rfl) ?_
  refine JL.go ⟨_, rfl, rfl⟩ (RX.movev (v := Value.slice _ _ _) rfl) ?_
  refine JL.go ⟨_, rfl, rfl⟩ (RX.len_slice rfl (by rw [sl43]; rfl) rfl) ?_
  refine JL.go ⟨_, rfl, rfl⟩ (RX.ne rfl rfl) ?_
  refine JL.go trivial (RX.pick_f rfl rfl) ?_
  refine JL.go trivial (RX.movev (v := Value.bool _) rfl) ?_
  refine JL.go ⟨_, rfl, (by decide)⟩ (RX.movev (v := Value.slice _ _ _) rfl) ?_
  refine JL.go ⟨_, rfl, (by decide)⟩ (RX.len_slice rfl (by rw [sl43]; rfl) rfl) ?_
  refine JL.go ⟨_, rfl, (by decide)⟩ (RX.ne rfl rfl) ?_
  refine JL.go trivial (RX.pick_f rfl (by decide)) ?_
  refine JL.go trivial (RX.movev (v := Value.bool _) rfl) ?_
  refine JL.go ⟨_, rfl, (by decide)⟩ (RX.movev (v := Value.slice _ _ _) rfl) ?_
  refine JL.go ⟨_, rfl, (by decide)⟩ (RX.indexAddr rfl rfl sl43 (by omega) (by decide) (o' := 1) rfl) ?_
  refine JL.go ⟨_, rfl, (by decide)⟩ (RX.loadS H (SlAt.cons ho2.slAt) rfl (j := 1) rfl (v := .int .i64 3) rfl one3) ?_
  refine JL.go ⟨_, rfl, (by decide)⟩ (RX.ne rfl rfl) ?_
  refine JL.go trivial (RX.pick_f rfl (by decide)) ?_
  refine JL.go trivial (RX.movev (v := Value.bool _) rfl) ?_
  refine JL.go ⟨_, rfl, (by decide)⟩ (RX.loadAgg H rfl (i := 2) (vs := prgV pLv (some ⟨bs, 0, none⟩) 2 2) rfl rfl ag24) ?_
  refine JL.does ⟨_, rfl, (by decide)⟩ (EX.call rfl cl16 rfl ((Fault_b (p := pLv) H hT.cons.cons.cons.cons (hE.at_ 9 (by decide) (by decide)).cons.cons.cons.cons (SlAt.cons (SlAt.cons (SlAt.cons (SlAt.here rfl)))) pLv_ok.ow))) ?_
  rintro _ w ⟨rfl, H⟩
  rw [show faultP pLv.steps pLv.cells = 1 from lv_fault.1]
  refine JL.go ⟨_, rfl, (by decide)⟩ (RX.ne rfl rfl) ?_
  refine JL.go trivial (RX.pick_f rfl (by decide)) ?_
  refine JL.go trivial (RX.movev (v := Value.bool _) rfl) ?_
  refine JL.go ⟨_, rfl, (by decide)⟩ (RX.loadAgg H rfl (i := 2) (vs := prgV pLv (some ⟨bs, 0, none⟩) 2 2) rfl rfl ag24) ?_
  refine JL.does ⟨_, rfl, (by decide)⟩ (EX.call rfl cl14 rfl ((Check_b (p := pLv) H hT.cons.cons.cons.cons (hE.at_ 9 (by decide) (by decide)).cons.cons.cons.cons (SlAt.cons (SlAt.cons (SlAt.cons (SlAt.here rfl)))) pLv_ok.ow))) ?_
  rintro _ w ⟨rfl, H⟩
  rw [chk_lv]
  refine JL.does ⟨_, rfl, (by decide)⟩ (EX.call rfl cl13 rfl ((Num_b (n := 9) H hE.cons.cons.cons.cons (by decide)))) ?_
  rintro _ w ⟨rfl, H⟩
  refine JL.go ⟨_, rfl, (by decide)⟩ (RX.ne rfl rfl) ?_
  refine JL.go trivial (RX.pick_f rfl (by decide)) ?_
  refine JL.nil ?_
  refine J.cond_f rfl (by decide) ?_
  refine J.skip ?_
  refine J.seq ?_
  refine J.region ?_
  refine JL.go trivial (RX.fieldAddr rfl fo24_4 rfl) ?_
  refine JL.go trivial (by first | exact RX.load H rfl (i := 0) rfl rfl one22 | exact RX.load H rfl (i := 1) rfl rfl one22 | exact RX.load H rfl (i := 2) rfl rfl one22 | exact RX.load H rfl (i := 3) rfl rfl one22) ?_
  refine JL.go trivial (RX.slice_h rfl rfl sl22 (fun a ha => by cases ha; rfl) (by decide) (by decide) (r := 1) rfl) ?_
  refine JL.go trivial (RX.fieldAddr rfl fo24_4 rfl) ?_
  refine JL.does trivial (EX.store (v := Value.slice _ _ _) H rfl rfl (i := 2) (l' := prgV pLv1 (some ⟨bs, 0, none⟩) 1 2) rfl rfl (by simp [prgV]) sz22 rfl rfl) ?_
  rintro _ w H
  refine JL.nil ?_
  refine J.seq ?_
  refine J.region ?_
  refine JL.go trivial (RX.loadAgg H rfl (i := 2) (vs := prgV pLv1 (some ⟨bs, 0, none⟩) 1 2) rfl rfl ag24) ?_
  refine JL.does trivial (EX.call rfl cl11 rfl ((Acts_b (p := pLv1) H hT.cons.cons.cons.cons (hE.at_ 9 (by decide) (by decide)).cons.cons.cons.cons (SlAt.cons (SlAt.cons (SlAt.cons (SlAt.here rfl)))) pLv1_ok.ow))) ?_
  rintro _ w ⟨rfl, H⟩
  rw [chk_lv1, acts_lv1]
  refine JL.go trivial (RX.movev (v := Value.tuple _) rfl) ?_
  refine JL.go trivial (RX.extract rfl rfl) ?_
  refine JL.go trivial (RX.extract (v := Value.nilIface) rfl rfl) ?_
  refine JL.go trivial (RX.assignv (v := Value.int _ _) rfl) ?_
  refine JL.go trivial (RX.assignv (v := Value.nilIface) rfl) ?_
  refine JL.nil ?_
  refine J.seq ?_
  refine J.region ?_
  refine JL.go trivial (RX.movev (v := Value.nilIface) rfl) ?_
  refine JL.go trivial (RX.ifnil_eql (v := Value.nilIface) rfl rfl rfl if30) ?_
  refine JL.go trivial (RX.movev (v := Value.bool _) rfl) ?_
  refine JL.go ⟨_, rfl, rfl⟩ (RX.movev (v := Value.int _ _) rfl) ?_
  refine JL.go ⟨_, rfl, rfl⟩ (RX.eq rfl rfl) ?_
  refine JL.go trivial (RX.pick_t rfl rfl) ?_
  refine JL.go trivial (RX.movev (v := Value.bool _) rfl) ?_
  refine JL.go ⟨_, rfl, (by decide)⟩ (RX.loadAgg H rfl (i := 2) (vs := prgV pLv1 (some ⟨bs, 0, none⟩) 1 2) rfl rfl ag24) ?_
  refine JL.does ⟨_, rfl, (by decide)⟩ (EX.call rfl cl14 rfl ((Check_b (p := pLv1) H hT.cons.cons.cons.cons (hE.at_ 9 (by decide) (by decide)).cons.cons.cons.cons (SlAt.cons (SlAt.cons (SlAt.cons (SlAt.here rfl)))) pLv1_ok.ow))) ?_
  rintro _ w ⟨rfl, H⟩
  rw [chk_lv1]
  refine JL.go ⟨_, rfl, (by decide)⟩ (RX.ifnil_eql (v := Value.nilIface) rfl rfl rfl if30) ?_
  refine JL.go trivial (RX.pick_t rfl (by decide)) ?_
  refine JL.go trivial (RX.assignv (v := Value.bool _) rfl) ?_
  refine JL.nil ?_
  refine J.ret1 (v := Value.bool _) Tryd.func8 rfl rfl ?_
  exact ⟨_, rfl, rfl, H.drop.drop.drop.drop⟩
theorem sameInts_b {w0 w : World} {F : List Seg} {a b : List Int} {pa pb : Option Addr} {ca cb : Nat} (H : Hp w0 w F) (ha : SlAt F pa (intsV a)) (hb : SlAt F pb (intsV b)) (al : a.length ≤ 4398046511104) : Ret Tryd.prog 21 [.slice pa a.length ca, .slice pb b.length cb] w fun v w' => v = .bool (decide (a = b)) ∧ Hp w0 w' F := by
  refine Calls.of_J (n := 26) Tryd.func21 rfl rfl rfl ?_
  refine J.seq ?_
  refine J.region ?_
  refine JL.go trivial (RX.assign) ?_
  refine JL.nil ?_
  refine J.seq ?_
  refine J.seq ?_
  refine J.region ?_
  refine JL.go trivial (RX.movev (v := Value.slice _ _ _) rfl) ?_
  refine JL.go trivial (RX.len_slice rfl (by rw [sl43]; rfl) rfl) ?_
  refine JL.go trivial (RX.movev (v := Value.slice _ _ _) rfl) ?_
  refine JL.go trivial (RX.len_slice rfl (by rw [sl43]; rfl) rfl) ?_
  refine JL.go trivial (RX.ne rfl rfl) ?_
  refine JL.nil ?_
  refine J.cond_d rfl (fun hl => ?_) (fun hl => ?_)
  · skip
    refine J.seq ?_
    refine J.region ?_
    refine JL.go trivial (RX.assign) ?_
    refine JL.nil ?_
    refine J.ret1 (v := Value.bool _) Tryd.func21 rfl rfl ?_
    exact ⟨_, rfl, by rw [decide_eq_false (fun h => hl (by rw [h]))], H⟩
  · skip
    refine J.skip ?_
    refine J.seq ?_
    refine J.seq ?_
    refine J.region ?_
    refine JL.go trivial (RX.movev (v := Value.slice _ _ _) rfl) ?_
    refine JL.go trivial (RX.len_slice rfl (by rw [sl43]; rfl) rfl) ?_
    refine JL.go trivial (RX.move) ?_
    refine JL.nil ?_
    refine J.block ?_
    refine J.loop (ι := Nat) (S := fun i => [(13, .int .i64 (i : Nat))]) (Φ := fun i w => i ≤ a.length ∧ a.take i = b.take i ∧ Hp w0 w F) (μ := fun i => a.length - i) (C := [(0, _), (1, _), (12, _)]) 0 ⟨rfl, rfl, rfl, trivial⟩ ⟨rfl, trivial⟩ ?_ ?_
    · exact ⟨Nat.zero_le _, by simp, H⟩
    clear H
    rintro i ρ w ⟨hi, hpre, H⟩ IH
    refine J.seq ?_
    refine J.region ?_
    refine JL.go trivial (RX.lt rfl rfl) ?_
    refine JL.nil ?_
    refine J.seq ?_
    refine J.cond_d rfl (fun hlt => ?_) (fun hlt => ?_)
    · skip
      obtain ⟨x, hx⟩ : ∃ x, a[i]? = some x := ⟨_, List.getElem?_eq_getElem (by omega)⟩
      obtain ⟨y, hy⟩ : ∃ y, b[i]? = some y := ⟨_, List.getElem?_eq_getElem (by omega)⟩
      obtain ⟨ab, ao, rfl, _⟩ := ha.some (by rw [intsV_len]; omega)
      obtain ⟨bb, bo, rfl, _⟩ := hb.some (by rw [intsV_len]; omega)
      refine J.skip ?_
      refine J.seq ?_
      refine J.block ?_
      refine J.seq ?_
      refine J.region ?_
      refine JL.go trivial (RX.movev (v := Value.int _ _) rfl) ?_
      refine JL.go trivial (RX.assignv (v := Value.int _ _) rfl) ?_
      refine JL.nil ?_
      refine J.seq ?_
      refine J.quietH H hmix (by kernel_rfl) ?_
      refine JQ.go trivial (fun w H => RX.movev (v := Value.slice _ _ _) rfl) ?_
      refine JQ.go trivial (fun w H => RX.movev (v := Value.int _ _) rfl) ?_
      refine JQ.go trivial (fun w H => RX.indexAddr rfl rfl sl43 (by omega) (by omega) (o' := ao + i) (by omega)) ?_
      refine JQ.go trivial (fun w H => RX.loadS H ha rfl (j := i) rfl (v := .int .i64 x) (intsV_get hx) one3) ?_
      refine JQ.go trivial (fun w H => RX.movev (v := Value.slice _ _ _) rfl) ?_
      refine JQ.go trivial (fun w H => RX.movev (v := Value.int _ _) rfl) ?_
      refine JQ.go trivial (fun w H => RX.indexAddr rfl rfl sl43 (by omega) (by omega) (o' := bo + i) (by omega)) ?_
      refine JQ.go trivial (fun w H => RX.loadS H hb rfl (j := i) rfl (v := .int .i64 y) (intsV_get hy) one3) ?_
      refine JQ.go trivial (fun w H => RX.ne rfl rfl) ?_
      refine JQ.nil fun w H => ?_
      refine J.cond_d rfl (fun hne => ?_) (fun hne => ?_)
      · skip
        refine J.seq ?_
        refine J.region ?_
        refine JL.go trivial (RX.assign) ?_
        refine JL.nil ?_
        refine J.ret1 (v := Value.bool _) Tryd.func21 rfl rfl ?_
        exact ⟨_, rfl, by rw [decide_eq_false (fun h => hne (by subst h; rw [hx] at hy; cases hy; rfl))], H⟩
      · skip
        refine J.skip ?_
        refine J.inBlock ?_
        refine J.region ?_
        refine JL.go trivial (RX.add rfl rfl (w_i64 (r := ((i + 1 : Nat) : Int)) (by omega) (by omega) (by omega))) ?_
        refine JL.go trivial (RX.movev (v := Value.int _ _) rfl) ?_
        refine JL.nil ?_
        have hxy : x = y := Decidable.not_not.1 hne
        exact IH (i + 1) _ _ (by omega) ⟨rfl, rfl, rfl, trivial⟩ ⟨rfl, trivial⟩ ⟨by omega, by rw [take_succ_get hx, take_succ_get hy, hpre, hxy], H⟩
    · skip
      refine J.exit rfl ?_
      refine J.seq ?_
      refine J.region ?_
      refine JL.go trivial (RX.assign) ?_
      refine JL.nil ?_
      refine J.ret1 (v := Value.bool _) Tryd.func21 rfl rfl ?_
      have hab : a = b := by
        rw [List.take_of_length_le (by omega), List.take_of_length_le (by omega)] at hpre
        exact hpre
      exact ⟨_, rfl, by rw [decide_eq_true hab], H⟩
end Go.Proofs.YtafhajgebhicdaaDoor

/- The laws of chapter 16: what they share. -/
import Derived.Test.YtgkmmbdlclecnaaDoorTx
namespace Go.Proofs.YtgkmmbdlclecnaaDoor
open Go Go.Eng
set_option maxRecDepth 100000
set_option linter.unusedVariables false
set_option linter.unusedSimpArgs false
theorem cl10 : callable Tryd.prog 10 = true := by kernel_rfl
theorem cl11 : callable Tryd.prog 11 = true := by kernel_rfl
theorem cl13 : callable Tryd.prog 13 = true := by kernel_rfl
theorem cl7 : callable Tryd.prog 7 = true := by kernel_rfl
theorem cl8 : callable Tryd.prog 8 = true := by kernel_rfl
theorem cl9 : callable Tryd.prog 9 = true := by kernel_rfl
theorem fl26 : flatB Tryd.prog 26 = true := by kernel_rfl
theorem sz22 : szOf Tryd.prog 22 = some 1 := by kernel_rfl
theorem sz24 : szOf Tryd.prog 24 = some 5 := by kernel_rfl
theorem zr24 : (Tryd.prog.info? 24).bind (·.zero) = some (.agg #[.int .i64 0, .int .i64 0, .int .i64 0, .int .i64 0, .slice none 0 0]) := by kernel_rfl

theorem prgV_cell {p : Prg} {pp : Option Addr} {n c : Nat} : ∀ v ∈ prgV p pp n c, isCell v = true := by
  intro v hv
  simp [prgV] at hv
  rcases hv with rfl | rfl | rfl | rfl | rfl <;> rfl
def prg0 : Prg := ⟨0, 0, 0, 0, []⟩
theorem elS : Elem Tryd.prog 22 26 7 56 := Elem.of (by kernel_rfl)
theorem step_eq (s t : Stp) : eqAnd Tryd.prog s.v t.v (Program.fieldsOf Tryd.prog 26).toList = some (s.op == t.op && (s.dst == t.dst && (s.src == t.src && (s.jump == t.jump && (s.count == t.count && (s.n == t.n && (s.k == t.k && true))))))) := by kernel_rfl
theorem step_beq (s t : Stp) : (s.op == t.op && (s.dst == t.dst && (s.src == t.src && (s.jump == t.jump && (s.count == t.count && (s.n == t.n && (s.k == t.k && true))))))) = decide (s = t) := by
  cases s; cases t
  simp [Stp.mk.injEq, Bool.decide_and]
  simp only [BEq.beq]
theorem step_dec (s t : Stp) : eqAnd Tryd.prog s.v t.v (Program.fieldsOf Tryd.prog 26).toList = some (decide (s = t)) := by rw [step_eq, step_beq]
def stpM (x : Int) : Stp := ⟨x, 0, 0, 0, 0, 0, 0⟩


def full (l : List Stp) : List Stp := l ++ [stpM 77]
theorem full_last {l : List Stp} : readN (stepsV (l ++ [stpM 77])) (l.length * 7) 7 = some (stpM 77).v := stepsV_read _ _ _ (by simp)
theorem mine_sl {p : Prg} {fp : Option Addr} {fc : Nat} {fs : Seg} (h : OwnSl 26 7 fp (p.steps.length + 1) fc (stepsV (p.steps ++ [stpM 77])) fs) (L : List Seg) : SlAt (fs :: L) fp (stepsV p.steps) := by
  have := h.slAt (L := L)
  rw [stepsV_app] at this
  exact this.pre
def lv : Stp := ⟨5, 0, 0, 1, 1, 2, 0⟩
def pLv : Prg := ⟨2, 2, 0, 0, [lv]⟩
theorem lv_ok : lv.Ok := by constructor <;> decide
theorem pLv_ok : pLv.Ok := ⟨by decide, by decide, by decide, by decide, fun s hs => by
  simp only [pLv, List.mem_singleton] at hs
  rw [hs]; exact lv_ok, by decide⟩
theorem lv_ok2 : textOk pLv = true := by decide
theorem it0 : Lib.itoa 0 = [48] := by rw [show (0 : Int) = ((0 : Nat) : Int) from rfl, Lib.itoa_nonneg, Lib.decDigits_one (by decide)]; rfl
theorem it1 : Lib.itoa 1 = [49] := by rw [show (1 : Int) = ((1 : Nat) : Int) from rfl, Lib.itoa_nonneg, Lib.decDigits_one (by decide)]; rfl
theorem it2 : Lib.itoa 2 = [50] := by rw [show (2 : Int) = ((2 : Nat) : Int) from rfl, Lib.itoa_nonneg, Lib.decDigits_one (by decide)]; rfl
theorem lv_text : textL pLv = [116, 105, 109, 98, 114, 101, 32, 50, 32, 50, 32, 48, 32, 48, 10, 102, 108, 121, 32, 106, 49, 32, 99, 49, 32, 110, 50, 10] := by
  have e : nmB 5 = [102, 108, 121] := rfl
  simp [textL, textPart, headL, headPart, timbre, stepsL, lineL, partL, letters, valsL, pieceL, pLv, lv, Prg.heads, it0, it1, it2, e]
def textO (p : Prg) : List UInt8 := if textOk p then textL p else []
theorem textR_eq (E : Nat → Value) (p : Prg) : textR E p = .tuple [.string ⟨(textO p).toArray⟩, e9 E (textOk p)].toArray := by
  unfold textR textO
  cases textOk p <;> rfl
theorem rtextR_eq (p : Prg) : rtextR p = .tuple [.string ⟨(textO p).toArray⟩, .int .i64 (if textOk p then 0 else 9)].toArray := by
  unfold rtextR textO
  cases textOk p <;> rfl
theorem rlineR_eq (s : Stp) : rlineR s = .tuple [.string ⟨(lineO s).toArray⟩, .int .i64 (if formB s then 0 else 9)].toArray := by
  unfold rlineR lineO
  cases formB s <;> rfl
theorem lv_txt : (⟨(textO pLv).toArray⟩ : ByteArray) = ⟨#[116, 105, 109, 98, 114, 101, 32, 50, 32, 50, 32, 48, 32, 48, 10, 102, 108, 121, 32, 106, 49, 32, 99, 49, 32, 110, 50, 10]⟩ := by
  unfold textO
  rw [lv_ok2, if_pos rfl, lv_text]
theorem num_b9 (b : Bool) : (if b = true then (0 : Nat) else 9) ≤ 19 := by cases b <;> decide
theorem Num_9 {w0 w : World} {F : List Seg} {E : Nat → Value} {Q : Nat → Addr} (H : Hp w0 w F) (hE : Errs F E Q) (b : Bool) : Ret Tryd.prog 10 [e9 E b] w fun v w' => v = .int .i64 (if b then 0 else 9) ∧ Hp w0 w' F := by
  rw [num_e9]
  refine (Num_b H hE (num_b9 b)).mono fun v w' h => ⟨?_, h.2⟩
  rw [h.1]
  cases b <;> rfl

theorem rSame_b {w0 w : World} {F : List Seg} {p q : Prg} {pp qp : Option Addr} {pc qc : Nat} (H : Hp w0 w F) (hp : SlAt F pp (stepsV p.steps)) (hq : SlAt F qp (stepsV q.steps)) (hpl : p.steps.length ≤ 9223372036854775807) (hql : q.steps.length ≤ 9223372036854775807) :
      Ret Tryd.prog 11 [.agg (prgV p pp p.steps.length pc).toArray, .agg (prgV q qp q.steps.length qc).toArray] w fun v w' => v = .bool (decide (p = q)) ∧ Hp w0 w' F := by
  refine Calls.of_J (n := 59) Tryd.func11 rfl rfl rfl ?_
  refine J.seq ?_
  refine J.region ?_
  refine JL.does trivial (EX.box (v := Value.agg _) H rfl rfl) ?_
  rintro _ w ⟨b1, rfl, H⟩
  refine JL.does trivial (EX.box (v := Value.agg _) H rfl rfl) ?_
  rintro _ w ⟨b2, rfl, H⟩
  refine JL.go trivial (RX.assign) ?_
  refine JL.nil ?_
  refine J.seq ?_
  refine J.seq ?_
  refine J.region ?_
  refine JL.go trivial (RX.fieldAddr rfl fo24_0 rfl) ?_
  refine JL.go trivial (by first | exact RX.load H rfl (i := 0) rfl rfl one3 | exact RX.load H rfl (i := 1) rfl rfl one3 | exact RX.load H rfl (i := 2) rfl rfl one3 | exact RX.load H rfl (i := 3) rfl rfl one3 | exact RX.load H rfl (i := 4) rfl rfl one3) ?_
  refine JL.go trivial (RX.fieldAddr rfl fo24_0 rfl) ?_
  refine JL.go trivial (by first | exact RX.load H rfl (i := 0) rfl rfl one3 | exact RX.load H rfl (i := 1) rfl rfl one3 | exact RX.load H rfl (i := 2) rfl rfl one3 | exact RX.load H rfl (i := 3) rfl rfl one3 | exact RX.load H rfl (i := 4) rfl rfl one3) ?_
  refine JL.go trivial (RX.ne rfl rfl) ?_
  refine JL.go trivial (RX.movev (v := Value.bool _) rfl) ?_
  refine JL.splitS 11 rfl (fun h1 => ?_) (fun h1 => ?_)
  · skip
    first | have h1p := of_decide_eq_true h1 | skip
    refine JL.no ⟨_, rfl, gno h1⟩ ?_
    refine JL.no ⟨_, rfl, gno h1⟩ ?_
    refine JL.no ⟨_, rfl, gno h1⟩ ?_
    refine JL.no ⟨_, rfl, gno h1⟩ ?_
    refine JL.no ⟨_, rfl, gno h1⟩ ?_
    refine JL.go trivial (RX.pick_t rfl h1) ?_
    refine JL.go trivial (RX.movev (v := Value.bool _) rfl) ?_
    refine JL.no ⟨_, rfl, gno rfl⟩ ?_
    refine JL.no ⟨_, rfl, gno rfl⟩ ?_
    refine JL.no ⟨_, rfl, gno rfl⟩ ?_
    refine JL.no ⟨_, rfl, gno rfl⟩ ?_
    refine JL.no ⟨_, rfl, gno rfl⟩ ?_
    refine JL.go trivial (RX.pick_t rfl rfl) ?_
    refine JL.go trivial (RX.movev (v := Value.bool _) rfl) ?_
    refine JL.no ⟨_, rfl, gno rfl⟩ ?_
    refine JL.no ⟨_, rfl, gno rfl⟩ ?_
    refine JL.no ⟨_, rfl, gno rfl⟩ ?_
    refine JL.no ⟨_, rfl, gno rfl⟩ ?_
    refine JL.no ⟨_, rfl, gno rfl⟩ ?_
    refine JL.go trivial (RX.pick_t rfl rfl) ?_
    refine JL.go trivial (RX.movev (v := Value.bool _) rfl) ?_
    refine JL.no ⟨_, rfl, gno rfl⟩ ?_
    refine JL.no ⟨_, rfl, gno rfl⟩ ?_
    refine JL.no ⟨_, rfl, gno rfl⟩ ?_
    refine JL.no ⟨_, rfl, gno rfl⟩ ?_
    refine JL.no ⟨_, rfl, gno rfl⟩ ?_
    refine JL.no ⟨_, rfl, gno rfl⟩ ?_
    refine JL.no ⟨_, rfl, gno rfl⟩ ?_
    refine JL.go trivial (RX.pick_t rfl rfl) ?_
    refine JL.nil ?_
    refine J.cond_t rfl rfl ?_
    refine J.seq ?_
    refine J.region ?_
    refine JL.go trivial (RX.assign) ?_
    refine JL.nil ?_
    refine J.ret1 (v := Value.bool _) Tryd.func11 rfl rfl ?_
    refine ⟨_, rfl, ?_, H.drop.drop⟩
    rw [decide_eq_false]
    intro h
    first | exact h1p (congrArg Prg.len h) | exact h2p (congrArg Prg.cells h) | exact h3p (congrArg Prg.inn h) | exact h4p (congrArg Prg.out h) | exact h5 (congrArg (fun x : Prg => (x.steps.length : Int)) h)
  · skip
    first | have h1p := of_decide_eq_false h1 | skip
    refine JL.go ⟨_, rfl, h1⟩ (RX.fieldAddr rfl fo24_1 rfl) ?_
    refine JL.go ⟨_, rfl, h1⟩ (by first | exact RX.load H rfl (i := 0) rfl rfl one3 | exact RX.load H rfl (i := 1) rfl rfl one3 | exact RX.load H rfl (i := 2) rfl rfl one3 | exact RX.load H rfl (i := 3) rfl rfl one3 | exact RX.load H rfl (i := 4) rfl rfl one3) ?_
    refine JL.go ⟨_, rfl, h1⟩ (RX.fieldAddr rfl fo24_1 rfl) ?_
    refine JL.go ⟨_, rfl, h1⟩ (by first | exact RX.load H rfl (i := 0) rfl rfl one3 | exact RX.load H rfl (i := 1) rfl rfl one3 | exact RX.load H rfl (i := 2) rfl rfl one3 | exact RX.load H rfl (i := 3) rfl rfl one3 | exact RX.load H rfl (i := 4) rfl rfl one3) ?_
    refine JL.go ⟨_, rfl, h1⟩ (RX.ne rfl rfl) ?_
    refine JL.go trivial (RX.pick_f rfl h1) ?_
    refine JL.go trivial (RX.movev (v := Value.bool _) rfl) ?_
    refine JL.splitS 18 rfl (fun h2 => ?_) (fun h2 => ?_)
    · skip
      first | have h2p := of_decide_eq_true h2 | skip
      refine JL.no ⟨_, rfl, gno h2⟩ ?_
      refine JL.no ⟨_, rfl, gno h2⟩ ?_
      refine JL.no ⟨_, rfl, gno h2⟩ ?_
      refine JL.no ⟨_, rfl, gno h2⟩ ?_
      refine JL.no ⟨_, rfl, gno h2⟩ ?_
      refine JL.go trivial (RX.pick_t rfl h2) ?_
      refine JL.go trivial (RX.movev (v := Value.bool _) rfl) ?_
      refine JL.no ⟨_, rfl, gno rfl⟩ ?_
      refine JL.no ⟨_, rfl, gno rfl⟩ ?_
      refine JL.no ⟨_, rfl, gno rfl⟩ ?_
      refine JL.no ⟨_, rfl, gno rfl⟩ ?_
      refine JL.no ⟨_, rfl, gno rfl⟩ ?_
      refine JL.go trivial (RX.pick_t rfl rfl) ?_
      refine JL.go trivial (RX.movev (v := Value.bool _) rfl) ?_
      refine JL.no ⟨_, rfl, gno rfl⟩ ?_
      refine JL.no ⟨_, rfl, gno rfl⟩ ?_
      refine JL.no ⟨_, rfl, gno rfl⟩ ?_
      refine JL.no ⟨_, rfl, gno rfl⟩ ?_
      refine JL.no ⟨_, rfl, gno rfl⟩ ?_
      refine JL.no ⟨_, rfl, gno rfl⟩ ?_
      refine JL.no ⟨_, rfl, gno rfl⟩ ?_
      refine JL.go trivial (RX.pick_t rfl rfl) ?_
      refine JL.nil ?_
      refine J.cond_t rfl rfl ?_
      refine J.seq ?_
      refine J.region ?_
      refine JL.go trivial (RX.assign) ?_
      refine JL.nil ?_
      refine J.ret1 (v := Value.bool _) Tryd.func11 rfl rfl ?_
      refine ⟨_, rfl, ?_, H.drop.drop⟩
      rw [decide_eq_false]
      intro h
      first | exact h1p (congrArg Prg.len h) | exact h2p (congrArg Prg.cells h) | exact h3p (congrArg Prg.inn h) | exact h4p (congrArg Prg.out h) | exact h5 (congrArg (fun x : Prg => (x.steps.length : Int)) h)
    · skip
      first | have h2p := of_decide_eq_false h2 | skip
      refine JL.go ⟨_, rfl, h2⟩ (RX.fieldAddr rfl fo24_2 rfl) ?_
      refine JL.go ⟨_, rfl, h2⟩ (by first | exact RX.load H rfl (i := 0) rfl rfl one3 | exact RX.load H rfl (i := 1) rfl rfl one3 | exact RX.load H rfl (i := 2) rfl rfl one3 | exact RX.load H rfl (i := 3) rfl rfl one3 | exact RX.load H rfl (i := 4) rfl rfl one3) ?_
      refine JL.go ⟨_, rfl, h2⟩ (RX.fieldAddr rfl fo24_2 rfl) ?_
      refine JL.go ⟨_, rfl, h2⟩ (by first | exact RX.load H rfl (i := 0) rfl rfl one3 | exact RX.load H rfl (i := 1) rfl rfl one3 | exact RX.load H rfl (i := 2) rfl rfl one3 | exact RX.load H rfl (i := 3) rfl rfl one3 | exact RX.load H rfl (i := 4) rfl rfl one3) ?_
      refine JL.go ⟨_, rfl, h2⟩ (RX.ne rfl rfl) ?_
      refine JL.go trivial (RX.pick_f rfl h2) ?_
      refine JL.go trivial (RX.movev (v := Value.bool _) rfl) ?_
      refine JL.splitS 25 rfl (fun h3 => ?_) (fun h3 => ?_)
      · skip
        first | have h3p := of_decide_eq_true h3 | skip
        refine JL.no ⟨_, rfl, gno h3⟩ ?_
        refine JL.no ⟨_, rfl, gno h3⟩ ?_
        refine JL.no ⟨_, rfl, gno h3⟩ ?_
        refine JL.no ⟨_, rfl, gno h3⟩ ?_
        refine JL.no ⟨_, rfl, gno h3⟩ ?_
        refine JL.go trivial (RX.pick_t rfl h3) ?_
        refine JL.go trivial (RX.movev (v := Value.bool _) rfl) ?_
        refine JL.no ⟨_, rfl, gno rfl⟩ ?_
        refine JL.no ⟨_, rfl, gno rfl⟩ ?_
        refine JL.no ⟨_, rfl, gno rfl⟩ ?_
        refine JL.no ⟨_, rfl, gno rfl⟩ ?_
        refine JL.no ⟨_, rfl, gno rfl⟩ ?_
        refine JL.no ⟨_, rfl, gno rfl⟩ ?_
        refine JL.no ⟨_, rfl, gno rfl⟩ ?_
        refine JL.go trivial (RX.pick_t rfl rfl) ?_
        refine JL.nil ?_
        refine J.cond_t rfl rfl ?_
        refine J.seq ?_
        refine J.region ?_
        refine JL.go trivial (RX.assign) ?_
        refine JL.nil ?_
        refine J.ret1 (v := Value.bool _) Tryd.func11 rfl rfl ?_
        refine ⟨_, rfl, ?_, H.drop.drop⟩
        rw [decide_eq_false]
        intro h
        first | exact h1p (congrArg Prg.len h) | exact h2p (congrArg Prg.cells h) | exact h3p (congrArg Prg.inn h) | exact h4p (congrArg Prg.out h) | exact h5 (congrArg (fun x : Prg => (x.steps.length : Int)) h)
      · skip
        first | have h3p := of_decide_eq_false h3 | skip
        refine JL.go ⟨_, rfl, h3⟩ (RX.fieldAddr rfl fo24_3 rfl) ?_
        refine JL.go ⟨_, rfl, h3⟩ (by first | exact RX.load H rfl (i := 0) rfl rfl one3 | exact RX.load H rfl (i := 1) rfl rfl one3 | exact RX.load H rfl (i := 2) rfl rfl one3 | exact RX.load H rfl (i := 3) rfl rfl one3 | exact RX.load H rfl (i := 4) rfl rfl one3) ?_
        refine JL.go ⟨_, rfl, h3⟩ (RX.fieldAddr rfl fo24_3 rfl) ?_
        refine JL.go ⟨_, rfl, h3⟩ (by first | exact RX.load H rfl (i := 0) rfl rfl one3 | exact RX.load H rfl (i := 1) rfl rfl one3 | exact RX.load H rfl (i := 2) rfl rfl one3 | exact RX.load H rfl (i := 3) rfl rfl one3 | exact RX.load H rfl (i := 4) rfl rfl one3) ?_
        refine JL.go ⟨_, rfl, h3⟩ (RX.ne rfl rfl) ?_
        refine JL.go trivial (RX.pick_f rfl h3) ?_
        refine JL.go trivial (RX.movev (v := Value.bool _) rfl) ?_
        refine JL.splitS 32 rfl (fun h4 => ?_) (fun h4 => ?_)
        · skip
          first | have h4p := of_decide_eq_true h4 | skip
          refine JL.no ⟨_, rfl, gno h4⟩ ?_
          refine JL.no ⟨_, rfl, gno h4⟩ ?_
          refine JL.no ⟨_, rfl, gno h4⟩ ?_
          refine JL.no ⟨_, rfl, gno h4⟩ ?_
          refine JL.no ⟨_, rfl, gno h4⟩ ?_
          refine JL.no ⟨_, rfl, gno h4⟩ ?_
          refine JL.no ⟨_, rfl, gno h4⟩ ?_
          refine JL.go trivial (RX.pick_t rfl h4) ?_
          refine JL.nil ?_
          refine J.cond_t rfl rfl ?_
          refine J.seq ?_
          refine J.region ?_
          refine JL.go trivial (RX.assign) ?_
          refine JL.nil ?_
          refine J.ret1 (v := Value.bool _) Tryd.func11 rfl rfl ?_
          refine ⟨_, rfl, ?_, H.drop.drop⟩
          rw [decide_eq_false]
          intro h
          first | exact h1p (congrArg Prg.len h) | exact h2p (congrArg Prg.cells h) | exact h3p (congrArg Prg.inn h) | exact h4p (congrArg Prg.out h) | exact h5 (congrArg (fun x : Prg => (x.steps.length : Int)) h)
        · skip
          first | have h4p := of_decide_eq_false h4 | skip
          refine JL.go ⟨_, rfl, h4⟩ (RX.fieldAddr rfl fo24_4 rfl) ?_
          refine JL.go ⟨_, rfl, h4⟩ (by first | exact RX.load H rfl (i := 0) rfl rfl one22 | exact RX.load H rfl (i := 1) rfl rfl one22 | exact RX.load H rfl (i := 2) rfl rfl one22 | exact RX.load H rfl (i := 3) rfl rfl one22 | exact RX.load H rfl (i := 4) rfl rfl one22) ?_
          refine JL.go ⟨_, rfl, h4⟩ (RX.len_slice rfl (by rw [sl22]; rfl) rfl) ?_
          refine JL.go ⟨_, rfl, h4⟩ (RX.fieldAddr rfl fo24_4 rfl) ?_
          refine JL.go ⟨_, rfl, h4⟩ (by first | exact RX.load H rfl (i := 0) rfl rfl one22 | exact RX.load H rfl (i := 1) rfl rfl one22 | exact RX.load H rfl (i := 2) rfl rfl one22 | exact RX.load H rfl (i := 3) rfl rfl one22 | exact RX.load H rfl (i := 4) rfl rfl one22) ?_
          refine JL.go ⟨_, rfl, h4⟩ (RX.len_slice rfl (by rw [sl22]; rfl) rfl) ?_
          refine JL.go ⟨_, rfl, h4⟩ (RX.ne rfl rfl) ?_
          refine JL.go trivial (RX.pick_f rfl h4) ?_
          refine JL.nil ?_
          refine J.cond_d rfl (fun h5 => ?_) (fun h5 => ?_)
          · skip
            refine J.seq ?_
            refine J.region ?_
            refine JL.go trivial (RX.assign) ?_
            refine JL.nil ?_
            refine J.ret1 (v := Value.bool _) Tryd.func11 rfl rfl ?_
            refine ⟨_, rfl, ?_, H.drop.drop⟩
            rw [decide_eq_false]
            intro h
            first | exact h1p (congrArg Prg.len h) | exact h2p (congrArg Prg.cells h) | exact h3p (congrArg Prg.inn h) | exact h4p (congrArg Prg.out h) | exact h5 (congrArg (fun x : Prg => (x.steps.length : Int)) h)
          · skip
            refine J.skip ?_
            refine J.seq ?_
            refine J.seq ?_
            refine J.region ?_
            refine JL.go trivial (RX.fieldAddr rfl fo24_4 rfl) ?_
            refine JL.go trivial (by first | exact RX.load H rfl (i := 0) rfl rfl one22 | exact RX.load H rfl (i := 1) rfl rfl one22 | exact RX.load H rfl (i := 2) rfl rfl one22 | exact RX.load H rfl (i := 3) rfl rfl one22 | exact RX.load H rfl (i := 4) rfl rfl one22) ?_
            refine JL.go trivial (RX.len_slice rfl (by rw [sl22]; rfl) rfl) ?_
            refine JL.go trivial (RX.move) ?_
            refine JL.nil ?_
            refine J.block ?_
            refine J.loop (ι := Nat) (S := fun i => [(44, .int .i64 (i : Nat))]) (Φ := fun i w => i ≤ p.steps.length ∧ p.steps.take i = q.steps.take i ∧ Hp w0 w ([(b2, cel (prgV q qp q.steps.length qc) 24)] :: [(b1, cel (prgV p pp p.steps.length pc) 24)] :: F)) (μ := fun i => p.steps.length - i) (C := [(2, _), (3, _), (43, _)]) 0 ⟨rfl, rfl, rfl, trivial⟩ ⟨rfl, trivial⟩ ?_ ?_
            · exact ⟨by omega, by simp, H⟩
            clear H
            rintro i ρ w ⟨hi, hpre, H⟩ IH
            refine J.seq ?_
            refine J.region ?_
            refine JL.go trivial (RX.lt rfl rfl) ?_
            refine JL.nil ?_
            refine J.seq ?_
            refine J.cond_d rfl (fun hlt => ?_) (fun hlt => ?_)
            · skip
              obtain ⟨s, hs⟩ : ∃ s, p.steps[i]? = some s := ⟨_, List.getElem?_eq_getElem (by omega)⟩
              obtain ⟨t, ht⟩ : ∃ t, q.steps[i]? = some t := ⟨_, List.getElem?_eq_getElem (by omega)⟩
              obtain ⟨pb, po, rfl, _⟩ := hp.some (by rw [stepsV_len]; omega)
              obtain ⟨qb, qo, rfl, _⟩ := hq.some (by rw [stepsV_len]; omega)
              refine J.skip ?_
              refine J.seq ?_
              refine J.block ?_
              refine J.seq ?_
              refine J.region ?_
              refine JL.go trivial (RX.movev (v := Value.int _ _) rfl) ?_
              refine JL.go trivial (RX.assignv (v := Value.int _ _) rfl) ?_
              refine JL.nil ?_
              refine J.seq ?_
              refine J.quietH H hmix (by kernel_rfl) ?_
              refine JQ.go trivial (fun w H => RX.fieldAddr rfl fo24_4 rfl) ?_
              refine JQ.go trivial (fun w H => by first | exact RX.load H rfl (i := 0) rfl rfl one22 | exact RX.load H rfl (i := 1) rfl rfl one22 | exact RX.load H rfl (i := 2) rfl rfl one22 | exact RX.load H rfl (i := 3) rfl rfl one22 | exact RX.load H rfl (i := 4) rfl rfl one22) ?_
              refine JQ.go trivial (fun w H => RX.movev (v := Value.int _ _) rfl) ?_
              refine JQ.go trivial (fun w H => RX.indexAddr rfl rfl sl22 (by omega) (by omega) rfl) ?_
              refine JQ.go trivial (fun w H => RX.loadAggS H hp.cons.cons rfl (j := i * 7) (by omega) (stepsV_read _ _ _ hs) ag26) ?_
              refine JQ.go trivial (fun w H => RX.fieldAddr rfl fo24_4 rfl) ?_
              refine JQ.go trivial (fun w H => by first | exact RX.load H rfl (i := 0) rfl rfl one22 | exact RX.load H rfl (i := 1) rfl rfl one22 | exact RX.load H rfl (i := 2) rfl rfl one22 | exact RX.load H rfl (i := 3) rfl rfl one22 | exact RX.load H rfl (i := 4) rfl rfl one22) ?_
              refine JQ.go trivial (fun w H => RX.movev (v := Value.int _ _) rfl) ?_
              refine JQ.go trivial (fun w H => RX.indexAddr rfl rfl sl22 (by omega) (by omega) rfl) ?_
              refine JQ.go trivial (fun w H => RX.loadAggS H hq.cons.cons rfl (j := i * 7) (by omega) (stepsV_read _ _ _ ht) ag26) ?_
              refine JQ.go trivial (fun w H => RX.agg_neq rfl rfl fl26 (step_dec s t)) ?_
              refine JQ.nil fun w H => ?_
              refine J.cond rfl (fun hst => ?_) (fun hst => ?_)
              · skip
                refine J.seq ?_
                refine J.region ?_
                refine JL.go trivial (RX.assign) ?_
                refine JL.nil ?_
                refine J.ret1 (v := Value.bool _) Tryd.func11 rfl rfl ?_
                refine ⟨_, rfl, ?_, H.drop.drop⟩
                rw [decide_eq_false]
                intro h
                subst h
                rw [hs] at ht
                cases ht
                simp at hst
              · skip
                refine J.skip ?_
                refine J.inBlock ?_
                refine J.region ?_
                refine JL.go trivial (RX.add rfl rfl (w_i64 rfl (by omega) (by omega))) ?_
                refine JL.go trivial (RX.movev (v := Value.int _ _) rfl) ?_
                refine JL.nil ?_
                exact IH (i + 1) _ _ (by omega) ⟨rfl, rfl, rfl, trivial⟩ ⟨rfl, trivial⟩ ⟨by omega, by rw [take_succ_get hs, take_succ_get ht, hpre, of_decide_eq_true (show decide (s = t) = true by simpa using hst)], H⟩
            · skip
              refine J.exit rfl ?_
              refine J.seq ?_
              refine J.region ?_
              refine JL.go trivial (RX.assign) ?_
              refine JL.nil ?_
              refine J.ret1 (v := Value.bool _) Tryd.func11 rfl rfl ?_
              refine ⟨_, rfl, ?_, H.drop.drop⟩
              rw [decide_eq_true]
              have hst : p.steps = q.steps := by
                have h6 : i = p.steps.length := by omega
                rw [h6, List.take_length, List.take_of_length_le (by omega)] at hpre
                exact hpre
              have e1 : p.len = q.len := by omega
              have e2 : p.cells = q.cells := by omega
              have e3 : p.inn = q.inn := by omega
              have e4 : p.out = q.out := by omega
              cases p; cases q
              simp_all
theorem lives_b {w0 w : World} {F : List Seg} {E : Nat → Value} {Q : Nat → Addr} (H : Hp w0 w F) (hE : Errs F E Q) (hT : SlAt F (some ⟨19, 0, none⟩) tableC) (ht : GTab F) : Ret Tryd.prog 7 [] w fun v w' => v = .bool true ∧ Hp w0 w' F := by
  refine Calls.of_J (n := 16) Tryd.func7 rfl rfl rfl ?_
  refine J.seq ?_
  refine J.region ?_
  refine JL.go trivial (RX.assign) ?_
  refine JL.nil ?_
  refine J.seq ?_
  refine J.region ?_
  refine JL.go trivial (RX.build (pv := [(0, .int .i64 5), (3, .int .i64 1), (4, .int .i64 1), (5, .int .i64 2)]) (res := lv.v) rfl (by kernel_rfl)) ?_
  refine JL.does trivial (EX.buildSlice (pv := [(0, .agg lv.v.toArray)]) (l := stepsV [lv]) (e := 26) H rfl (by kernel_rfl)) ?_
  rintro _ w ⟨bs, rfl, H⟩
  refine JL.go trivial (RX.build (pv := [(0, .int .i64 2), (1, .int .i64 2), (4, .slice (some ⟨bs, 0, none⟩) 1 1)]) (res := prgV pLv (some ⟨bs, 0, none⟩) 1 1) rfl (by kernel_rfl)) ?_
  refine JL.does trivial (EX.call rfl cl8 rfl ((text_b (p := pLv) H (hE.at_ 9 (by decide) (by decide)).cons hT.cons ht.cons pLv_ok (SlAt.here rfl) (by decide)))) ?_
  rintro _ w ⟨rfl, H⟩
  rw [textR_eq, lv_ok2]
  refine JL.go trivial (RX.movev (v := Value.tuple _) rfl) ?_
  refine JL.go trivial (RX.extract (v := .string ⟨(textO pLv).toArray⟩) rfl rfl) ?_
  refine JL.go trivial (RX.extract (v := Value.nilIface) rfl rfl) ?_
  refine JL.go trivial (RX.assignv (v := Value.string _) rfl) ?_
  refine JL.go trivial (RX.assignv (v := Value.nilIface) rfl) ?_
  refine JL.nil ?_
  refine J.seq ?_
  refine J.region ?_
  refine JL.go trivial (RX.movev (v := Value.string _) rfl) ?_
  refine JL.go trivial (RX.str_eql rfl rfl) ?_
  refine JL.go trivial (RX.movev (v := Value.bool _) rfl) ?_
  refine JL.go ⟨_, rfl, (decide_eq_true lv_txt)⟩ (RX.movev (v := Value.nilIface) rfl) ?_
  refine JL.go ⟨_, rfl, (decide_eq_true lv_txt)⟩ (RX.ifnil_eql (v := Value.nilIface) rfl rfl rfl if29) ?_
  refine JL.go trivial (RX.pick_t rfl (decide_eq_true lv_txt)) ?_
  refine JL.go trivial (RX.assignv (v := Value.bool _) rfl) ?_
  refine JL.nil ?_
  refine J.ret1 (v := Value.bool _) Tryd.func7 rfl rfl ?_
  exact ⟨_, rfl, rfl, H.drop⟩
theorem ListingTexts_b {w0 w : World} {F : List Seg} {E : Nat → Value} {Q : Nat → Addr} (H : Hp w0 w F) (hE : Errs F E Q) (hT : SlAt F (some ⟨19, 0, none⟩) tableC) (ht : GTab F) {p : Prg} {pp : Option Addr} {pc : Nat} (hst : SlAt F pp (stepsV p.steps)) (hp : p.Ok) (hn : p.steps.length ≤ 1099511627776 / 8) {s : Stp} (hs : s.Ok) : Ret Tryd.prog 3 [.agg (prgV p pp p.steps.length pc).toArray, .agg s.v.toArray] w fun v w' => v = .bool true ∧ Hp w0 w' F := by
  refine Calls.of_J (n := 85) Tryd.func3 rfl rfl rfl ?_
  refine J.seq ?_
  refine J.region ?_
  refine JL.does trivial (EX.box (v := Value.agg _) H rfl rfl) ?_
  rintro _ w ⟨b1, rfl, H⟩
  refine JL.does trivial (EX.box (v := Value.agg _) H rfl rfl) ?_
  rintro _ w ⟨b2, rfl, H⟩
  refine JL.go trivial (RX.assign) ?_
  refine JL.nil ?_
  refine J.seq ?_
  refine J.region ?_
  refine JL.does trivial (EX.call rfl cl7 rfl ((lives_b H hE.cons.cons hT.cons.cons ht.cons.cons))) ?_
  rintro _ w ⟨rfl, H⟩
  refine JL.go trivial (RX.assignv (v := Value.bool _) rfl) ?_
  refine JL.nil ?_
  refine J.seq ?_
  refine J.seq ?_
  refine J.region ?_
  refine JL.go trivial (RX.movev (v := Value.bool _) rfl) ?_
  refine JL.go trivial (RX.not rfl) ?_
  refine JL.nil ?_
  refine J.cond_f rfl rfl ?_
  refine J.skip ?_
  refine J.seq ?_
  refine J.region ?_
  refine JL.go trivial (RX.loadAgg H rfl (i := 1) (vs := prgV p pp p.steps.length pc) rfl rfl ag24) ?_
  refine JL.does trivial (EX.alloc H zr24 rfl) ?_
  rintro _ w ⟨b3, rfl, H⟩
  refine JL.does trivial (EX.storeAgg H rfl rfl (i := 0) (l' := prgV p pp p.steps.length pc) rfl prgV_cell (by simp [prgV]) sz24 rfl rfl) ?_
  rintro _ w H
  refine JL.nil ?_
  refine J.seq ?_
  refine J.region ?_
  refine JL.does trivial (EX.buildSlice0 H elS) ?_
  rintro _ w ⟨b0, rfl, H⟩
  refine JL.go trivial (RX.fieldAddr rfl fo24_4 rfl) ?_
  refine JL.go trivial (RX.load H rfl (i := 3) (v := .slice pp p.steps.length pc) rfl rfl one22) ?_
  refine JL.does trivial (EX.append (ys := stepsV p.steps) (L' := fun s' => s' :: [(b3, cel (prgV p pp p.steps.length pc) 24)] :: [(b2, cel s.v 26)] :: [(b1, cel (prgV p pp p.steps.length pc) 24)] :: F) H elS rfl rfl (i := 0) rfl OwnSl.empty hst.cons.cons.cons.cons (stepsV_len _) (stepsV_cell _) (by decide) (by omega) (by omega) (fun _ => rfl)) ?_
  rintro _ w ⟨p1, c1, s1, rfl, ho1, H⟩
  refine JL.go trivial (RX.build (pv := [(0, .int .i64 77)]) (res := (stpM 77).v) rfl (by kernel_rfl)) ?_
  refine JL.does trivial (EX.buildSlice (pv := [(0, .agg (stpM 77).v.toArray)]) (l := (stpM 77).v) (e := 26) H rfl (by kernel_rfl)) ?_
  rintro _ w ⟨bb, rfl, H⟩
  refine JL.does trivial (EX.append (ys := (stpM 77).v) (L' := fun s' => [(bb, cel (stpM 77).v 26)] :: s' :: [(b3, cel (prgV p pp p.steps.length pc) 24)] :: [(b2, cel s.v 26)] :: [(b1, cel (prgV p pp p.steps.length pc) 24)] :: F) H elS rfl rfl (i := 1) rfl ho1 (SlAt.here rfl) rfl (stp_cell _) (by decide) (by omega) (by omega) (fun _ => rfl)) ?_
  rintro _ w ⟨fp, fc, fs, rfl, hof, H⟩
  refine JL.go trivial (RX.assignv (v := Value.slice _ _ _) rfl) ?_
  refine JL.nil ?_
  replace H := H.drop
  simp only [Nat.zero_add, List.nil_append] at hof H
  rw [show stepsV p.steps ++ (stpM 77).v = stepsV (p.steps ++ [stpM 77]) by rw [stepsV_app]; simp [stepsV]] at hof
  have hle := hof.le
  have hspot : ∀ a, fp = some a → a.spot = none := by
    intro a ha
    obtain ⟨g, l, h1, _⟩ := hof.ptr (by omega)
    rw [h1] at ha; cases ha; rfl
  have hm := mine_sl hof
  refine J.seq ?_
  refine J.region ?_
  refine JL.go trivial (RX.movev (v := Value.slice _ _ _) rfl) ?_
  refine JL.go trivial (RX.fieldAddr rfl fo24_4 rfl) ?_
  refine JL.go trivial (RX.load H rfl (i := 3) (v := .slice pp p.steps.length pc) rfl rfl one22) ?_
  refine JL.go trivial (RX.len_slice rfl (by rw [sl22]; rfl) rfl) ?_
  refine JL.go trivial (RX.slice_h rfl rfl sl22 hspot (by omega) (by omega) rfl) ?_
  refine JL.go trivial (RX.fieldAddr rfl fo24_4 rfl) ?_
  refine JL.does trivial (EX.store (v := Value.slice _ _ _) H rfl rfl (i := 1) (l' := prgV p fp p.steps.length fc) rfl rfl (by simp [prgV]) sz22 rfl rfl) ?_
  rintro _ w H
  refine JL.nil ?_
  replace H := H.pull 1 rfl
  refine J.seq ?_
  refine J.region ?_
  refine JL.go trivial (RX.loadAgg H rfl (i := 0) (vs := prgV p fp p.steps.length fc) rfl rfl ag24) ?_
  refine JL.does trivial (EX.call rfl cl8 rfl ((text_b (p := p) H (hE.at_ 9 (by decide) (by decide)).cons.cons.cons.cons hT.cons.cons.cons.cons ht.cons.cons.cons.cons hp (hm _).cons hn))) ?_
  rintro _ w ⟨rfl, H⟩
  rw [textR_eq]
  refine JL.go trivial (RX.movev (v := Value.tuple _) rfl) ?_
  refine JL.go trivial (RX.extract (v := .string ⟨(textO p).toArray⟩) rfl rfl) ?_
  refine JL.go trivial (RX.extract (v := e9 E (textOk p)) rfl rfl) ?_
  refine JL.go trivial (RX.assignv (v := Value.string _) rfl) ?_
  refine JL.go trivial (RX.assignv (v := e9 E (textOk p)) rfl) ?_
  refine JL.nil ?_
  refine J.seq ?_
  refine J.region ?_
  refine JL.go trivial (RX.loadAgg H rfl (i := 3) (vs := prgV p pp p.steps.length pc) rfl rfl ag24) ?_
  refine JL.does trivial (EX.call rfl cl9 rfl ((rText_b H hp hst.cons.cons.cons.cons hn))) ?_
  rintro _ w ⟨rfl, H⟩
  rw [rtextR_eq]
  refine JL.go trivial (RX.movev (v := Value.tuple _) rfl) ?_
  refine JL.go trivial (RX.extract (v := .string ⟨(textO p).toArray⟩) rfl rfl) ?_
  refine JL.go trivial (RX.extract (v := .int .i64 (if textOk p then 0 else 9)) rfl rfl) ?_
  refine JL.go trivial (RX.assignv (v := Value.string _) rfl) ?_
  refine JL.go trivial (RX.assignv (v := Value.int _ _) rfl) ?_
  refine JL.nil ?_
  refine J.seq ?_
  refine J.seq ?_
  refine J.region ?_
  refine JL.go trivial (RX.movev (v := Value.string _) rfl) ?_
  refine JL.go trivial (RX.movev (v := Value.string _) rfl) ?_
  refine JL.go trivial (RX.str_neq rfl rfl) ?_
  refine JL.go trivial (RX.movev (v := Value.bool _) rfl) ?_
  refine JL.go ⟨_, rfl, (decide_eq_false (fun h => h rfl))⟩ (RX.movev (v := e9 E (textOk p)) rfl) ?_
  refine JL.does ⟨_, rfl, (decide_eq_false (fun h => h rfl))⟩ (EX.call rfl cl10 rfl ((Num_9 H hE.cons.cons.cons.cons _))) ?_
  rintro _ w ⟨rfl, H⟩
  refine JL.go ⟨_, rfl, (decide_eq_false (fun h => h rfl))⟩ (RX.movev (v := Value.int _ _) rfl) ?_
  refine JL.go ⟨_, rfl, (decide_eq_false (fun h => h rfl))⟩ (RX.ne rfl rfl) ?_
  refine JL.go trivial (RX.pick_f rfl (decide_eq_false (fun h => h rfl))) ?_
  refine JL.go trivial (RX.movev (v := Value.bool _) rfl) ?_
  refine JL.go ⟨_, rfl, (decide_eq_false (fun h => h rfl))⟩ (RX.loadAgg H rfl (i := 0) (vs := prgV p fp p.steps.length fc) rfl rfl ag24) ?_
  refine JL.go ⟨_, rfl, (decide_eq_false (fun h => h rfl))⟩ (RX.loadAgg H rfl (i := 3) (vs := prgV p pp p.steps.length pc) rfl rfl ag24) ?_
  refine JL.does ⟨_, rfl, (decide_eq_false (fun h => h rfl))⟩ (EX.call rfl cl11 rfl ((rSame_b H ((hm _).cons) hst.cons.cons.cons.cons (by omega) (by omega)))) ?_
  rintro _ w ⟨rfl, H⟩
  refine JL.go ⟨_, rfl, (decide_eq_false (fun h => h rfl))⟩ (RX.not rfl) ?_
  refine JL.go trivial (RX.pick_f rfl (decide_eq_false (fun h => h rfl))) ?_
  refine JL.go trivial (RX.movev (v := Value.bool _) rfl) ?_
  refine JL.go ⟨_, rfl, (by simp)⟩ (RX.movev (v := Value.slice _ _ _) rfl) ?_
  refine JL.go ⟨_, rfl, (by simp)⟩ (RX.fieldAddr rfl fo24_4 rfl) ?_
  obtain ⟨gf, lf, rfl, rfl, hlf⟩ := hof.ptr (by omega)
  refine JL.go ⟨_, rfl, (by simp)⟩ (RX.load H rfl (i := 3) (v := .slice pp p.steps.length pc) rfl rfl one22) ?_
  refine JL.go ⟨_, rfl, (by simp)⟩ (RX.len_slice rfl (by rw [sl22]; rfl) rfl) ?_
  refine JL.go ⟨_, rfl, (by simp)⟩ (RX.indexAddr rfl rfl sl22 (by omega) (by omega) (o' := p.steps.length * 7) (by omega)) ?_
  refine JL.go ⟨_, rfl, (by simp)⟩ (RX.loadAggS H (SlAt.cons (SlAt.here hlf.2.2)) rfl (j := p.steps.length * 7) (by omega) (vs := (stpM 77).v) full_last ag26) ?_
  refine JL.go ⟨_, rfl, (by simp)⟩ (RX.build (pv := [(0, .int .i64 77)]) (res := (stpM 77).v) rfl (by kernel_rfl)) ?_
  refine JL.go ⟨_, rfl, (by simp)⟩ (RX.agg_neq rfl rfl fl26 (step_dec (stpM 77) (stpM 77))) ?_
  refine JL.go trivial (RX.pick_f rfl (by simp)) ?_
  refine JL.nil ?_
  refine J.cond_f rfl (by simp) ?_
  refine J.skip ?_
  refine J.seq ?_
  refine J.region ?_
  refine JL.go trivial (RX.loadAgg H rfl (i := 2) (vs := s.v) rfl rfl ag26) ?_
  refine JL.does trivial (EX.call rfl cl12 rfl ((line_b H (hE.at_ 9 (by decide) (by decide)).cons.cons.cons.cons hT.cons.cons.cons.cons ht.cons.cons.cons.cons hs))) ?_
  rintro _ w ⟨rfl, H⟩
  rw [lineR_eq]
  refine JL.go trivial (RX.movev (v := Value.tuple _) rfl) ?_
  refine JL.go trivial (RX.extract (v := .string ⟨(lineO s).toArray⟩) rfl rfl) ?_
  refine JL.go trivial (RX.extract (v := e9 E (formB s)) rfl rfl) ?_
  refine JL.go trivial (RX.assignv (v := Value.string _) rfl) ?_
  refine JL.go trivial (RX.assignv (v := e9 E (formB s)) rfl) ?_
  refine JL.nil ?_
  refine J.seq ?_
  refine J.region ?_
  refine JL.go trivial (RX.loadAgg H rfl (i := 2) (vs := s.v) rfl rfl ag26) ?_
  refine JL.does trivial (EX.call rfl cl13 rfl ((rLine_b H hs))) ?_
  rintro _ w ⟨rfl, H⟩
  rw [rlineR_eq]
  refine JL.go trivial (RX.movev (v := Value.tuple _) rfl) ?_
  refine JL.go trivial (RX.extract (v := .string ⟨(lineO s).toArray⟩) rfl rfl) ?_
  refine JL.go trivial (RX.extract (v := .int .i64 (if formB s then 0 else 9)) rfl rfl) ?_
  refine JL.go trivial (RX.assignv (v := Value.string _) rfl) ?_
  refine JL.go trivial (RX.assignv (v := Value.int _ _) rfl) ?_
  refine JL.nil ?_
  refine J.seq ?_
  refine J.region ?_
  refine JL.go trivial (RX.movev (v := Value.string _) rfl) ?_
  refine JL.go trivial (RX.movev (v := Value.string _) rfl) ?_
  refine JL.go trivial (RX.str_eql rfl rfl) ?_
  refine JL.go trivial (RX.movev (v := Value.bool _) rfl) ?_
  refine JL.go ⟨_, rfl, (decide_eq_true rfl)⟩ (RX.movev (v := e9 E (formB s)) rfl) ?_
  refine JL.does ⟨_, rfl, (decide_eq_true rfl)⟩ (EX.call rfl cl10 rfl ((Num_9 H hE.cons.cons.cons.cons _))) ?_
  rintro _ w ⟨rfl, H⟩
  refine JL.go ⟨_, rfl, (decide_eq_true rfl)⟩ (RX.movev (v := Value.int _ _) rfl) ?_
  refine JL.go ⟨_, rfl, (decide_eq_true rfl)⟩ (RX.eq rfl rfl) ?_
  refine JL.go trivial (RX.pick_t rfl (decide_eq_true rfl)) ?_
  refine JL.go trivial (RX.assignv (v := Value.bool _) rfl) ?_
  refine JL.nil ?_
  refine J.ret1 (v := Value.bool _) Tryd.func3 rfl rfl ?_
  exact ⟨_, rfl, by simp, H.drop.drop.drop.drop⟩
end Go.Proofs.YtgkmmbdlclecnaaDoor

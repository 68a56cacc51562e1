/- Length and Check. -/
import Derived.Test.YtinbeaaloailnaaDoorOl
namespace Go.Proofs.YtinbeaaloailnaaDoor
open Go Go.Eng
set_option maxRecDepth 100000
set_option linter.unusedVariables false
set_option linter.unusedSimpArgs false
theorem cl18 : callable Tryd.prog 18 = true := by kernel_rfl
theorem zr68 : (Tryd.prog.info? 68).bind (·.zero) = some (.agg #[.int .i64 0]) := by kernel_rfl

theorem length_b : ∀ t, LenC t := tr_ind fun t ih hp w0 w F vs bw d c hc hd H ht => by
  obtain ⟨k, n, ks⟩ := t
  rw [Tr.Is] at ht
  obtain ⟨p, c', xs, rfl, hs, hk⟩ := ht
  exact length_step ih hp hc hd H hs hk
def goodB (t : Tr) : Bool := decide (lenO t ≠ 0)
def e8 (E : Nat → Value) (b : Bool) : Value := if b then .nilIface else E 8
theorem e8_ie {F : List Seg} {E : Nat → Value} (h : GErr F 1 (E 8)) (b : Bool) : isErr (e8 E b) = true ∧ isNil (e8 E b) = b := by
  cases b
  · exact ⟨h.ie, h.nn⟩
  · exact ⟨rfl, rfl⟩
theorem e8_no {E : Nat → Value} {t : Tr} (h : lenO t = 0) : e8 E (goodB t) = E 8 := by
  unfold goodB; rw [decide_eq_false (fun h' => h' h)]; rfl
theorem e8_yes {E : Nat → Value} {t : Tr} (h : lenO t ≠ 0) : e8 E (goodB t) = .nilIface := by
  unfold goodB; rw [decide_eq_true h]; rfl
theorem b_size (a : List UInt8) : (⟨a.toArray⟩ : ByteArray).size = a.length := by simp [ByteArray.size]

theorem Length_b {w0 w : World} {F : List Seg} (H : Hp w0 w F) {t : Tr} {vs : List Value} (ht : t.Is F vs) (hp : t.parts ≤ 4194304) : Ret Tryd.prog 18 [.agg vs.toArray] w fun v w' => v = .int .i64 (lenO t) ∧ Hp w0 w' F := by
  refine Calls.of_J (n := 6) Tryd.func18 rfl rfl rfl ?_
  refine J.seq ?_
  obtain ⟨k, n, p, m, c, rfl⟩ := ht.shape
  refine J.region ?_
  refine JL.does trivial (EX.box (v := Value.agg _) H rfl rfl) ?_
  rintro _ w ⟨b1, rfl, H⟩
  refine JL.go trivial (RX.assign) ?_
  refine JL.nil ?_
  refine J.seq ?_
  refine J.region ?_
  refine JL.does trivial (EX.alloc H zr68 rfl) ?_
  rintro _ w ⟨b2, rfl, H⟩
  refine JL.go trivial (RX.loadAgg H rfl (i := 1) (vs := tv k n p m c) rfl rfl ag25) ?_
  refine JL.does trivial (EX.call rfl cl40 rfl ((length_b t hp _ _ _ _ b2 1 0 (by decide) (by decide) H ht.cons))) ?_
  rintro _ w ⟨rfl, H⟩
  refine JL.go trivial (RX.assignv (v := Value.int _ _) rfl) ?_
  refine JL.nil ?_
  refine J.ret1 (v := Value.int _ _) Tryd.func18 rfl rfl ?_
  exact ⟨_, rfl, rfl, H.drop.drop⟩
theorem Check_b {w0 w : World} {F : List Seg} (H : Hp w0 w F) {t : Tr} {vs : List Value} (ht : t.Is F vs) (hp : t.parts ≤ 4194304) {E : Nat → Value} (g8 : GErr F 1 (E 8)) : Ret Tryd.prog 17 [.agg vs.toArray] w fun v w' => v = e8 E (goodB t) ∧ Hp w0 w' F := by
  refine Calls.of_J (n := 7) Tryd.func17 rfl rfl rfl ?_
  refine J.seq ?_
  obtain ⟨k, n, p, m, c, rfl⟩ := ht.shape
  refine J.region ?_
  refine JL.does trivial (EX.box (v := Value.agg _) H rfl rfl) ?_
  rintro _ w ⟨b1, rfl, H⟩
  refine JL.go trivial (RX.assign) ?_
  refine JL.nil ?_
  refine J.seq ?_
  refine J.seq ?_
  refine J.region ?_
  refine JL.go trivial (RX.loadAgg H rfl (i := 0) (vs := tv k n p m c) rfl rfl ag25) ?_
  refine JL.does trivial (EX.call rfl cl18 rfl ((Length_b H ht.cons hp))) ?_
  rintro _ w ⟨rfl, H⟩
  refine JL.go trivial (RX.eq rfl rfl) ?_
  refine JL.nil ?_
  refine J.cond_d rfl (fun h0 => ?_) (fun h0 => ?_)
  · skip
    refine J.seq ?_
    refine J.region ?_
    refine JL.go trivial (RX.loadG H rfl g8.at_.cons one27) ?_
    refine JL.go trivial (RX.assignv (v := E 8) rfl) ?_
    refine JL.nil ?_
    refine J.ret1 Tryd.func17 rfl rfl ?_
    exact ⟨_, rfl, (e8_no h0).symm, H.drop⟩
  · skip
    refine J.skip ?_
    refine J.seq ?_
    refine J.region ?_
    refine JL.go trivial (RX.assignv (v := Value.nilIface) rfl) ?_
    refine JL.nil ?_
    refine J.ret1 Tryd.func17 rfl rfl ?_
    exact ⟨_, rfl, (e8_yes h0).symm, H.drop⟩
end Go.Proofs.YtinbeaaloailnaaDoor

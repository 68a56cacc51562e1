/- direct.Forward of whole numbers of at most 2^40, of 1, 2 and 4 elements, equals exact.Small: the given statement ExactFloats, holds for every list and number. -/
import Derived.Test.YtahjlcglidgadaaGreatDoorRw
namespace Go.Proofs.YtahjlcglidgadaaGreatDoor
open Go Go.Eng
set_option maxRecDepth 100000
set_option linter.unusedVariables false
set_option linter.unusedSimpArgs false
open Go.ChangeShapes Go.WideShapes Go.ChangeAt Go.RowKit
theorem exactFloats_contract (H : Type) (enc : TypeId × Value → H) (W : World) (base : Nat) (args : Array Value) (ds gs : List (DataW H)) (before : List MemPlace)
    (hval : ∀ (j : Nat) t v, Tryz.f3.params[j]? = some t → args[j]? = some v → Value.okWide Tryz.prog W .any base t v)
    (hW : DataW.Whole enc Tryz.prog Tryz.f3.params.toList Rows.exactFloatsSpec.vars false W args.toList ds gs before) (hL : laidMetH Tryz.prog Rows.exactFloatsRow.laid W) :
    Calls Tryz.prog 3 args W fun e W' => ∃ v, e = .returned v ∧ Rows.exactFloatsSpec.post enc Tryz.prog Tryz.f3 false true false false W args v W' := by
  have hW' := hW
  obtain ⟨p, q, hA0, hV, rfl, hfz, hnd⟩ := hW
  have hA : DataW.TrodAll enc Tryz.prog W 0 (fun _ => true) true Tryz.f3.params.toList args.toList ds p := hA0
  rw [Tryz.params3] at hA hval
  obtain ⟨rfl, rfl⟩ := trodVars_none hV
  have hL2 := of_laid19 hL
  obtain ⟨v0, v1, d0, d1, p0, p1, rfl, rfl, rfl, h0, h1⟩ := trodAll_two hA
  obtain ⟨paxs, nxs, cxs, rfl⟩ := okWide_slice (e := 2) (by kernel_rfl) (hval 0 _ v0 rfl rfl)
  obtain ⟨fuxs, hfxs⟩ := h0
  obtain ⟨xs, rfl, slxs, okxs, lexs, buxs⟩ := read_i64s hfxs
  obtain ⟨pr, rfl, rfl, rfl, wpr⟩ := Go.ChangeShapes.open_int (k := .i64) (by kernel_rfl) (hval 1 _ v1 rfl rfl) h1
  obtain ⟨E, Q, hE⟩ := hL2
  exact calls_true (tb := 4) laidOut (Cc.ExactFloats_b (Hp.start W) hE slxs okxs lexs) (by kernel_rfl) (by rfl) (by kernel_rfl) rfl hW' rfl
theorem exactFloats_met (os : Os) : laidMetH Tryz.prog Rows.exactFloatsRow.laid ((World.doorLaid Tryz.prog 115 os).forCall (fun _ _ => 0) ⟨#[], #[.slice none 0 0, .int .i64 0], []⟩).memory := by
  rw [MakeChecks.laidMetH_plain _ _ _ (by kernel_rfl)]
  exact laidMet_of_run' 8 (by kernel_rfl) (by kernel_rfl)
theorem exactFloats_reads (os : Os) {H : Type} (enc : TypeId × Value → H) : ∃ places, DataW.whole enc Tryz.prog ((World.doorLaid Tryz.prog 115 os).forCall (fun _ _ => 0) ⟨#[], #[.slice none 0 0, .int .i64 0], []⟩).memory Tryz.f3.params.toList Rows.exactFloatsSpec.vars false (#[.slice none 0 0, .int .i64 0] : Array Value).toList 8 = some ([.nil, .lit (.int .i64 0)], [], places) :=
  ⟨[], by kernel_rfl⟩
theorem exactFloats_lifted (os : Os) (started : os.Started) (H : Type) (enc : TypeId × Value → H) (F : Stop.Interp) :
    ReturnsInHanded {} Tryz.checked os 3 .any ((OpenSpec.ofChange Rows.exactFloatsSpec).preRow enc Tryz.prog Tryz.f3 Rows.exactFloatsRow.domain false Rows.exactFloatsRow.laid) (((OpenSpec.ofChange Rows.exactFloatsSpec).at F).post enc Tryz.prog Tryz.f3 false true false false) := by
  obtain ⟨places, hx⟩ := exactFloats_reads os enc
  refine returnsInHanded_of_row (C := Tryz.checked) (s := (OpenSpec.ofChange Rows.exactFloatsSpec)) own started (by kernel_rfl) Tryz.func3
    (witness_row_atRef (enc := enc) (C := Tryz.checked) false (World.doorLaid Tryz.prog 115 os) #[.slice none 0 0, .int .i64 0] rfl (by kernel_rfl) (by kernel_rfl) (by kernel_rfl)
      (OpenSpec.preRow_of_cond 8 hx (by kernel_rfl) (fun k hk => by cases hk) (by kernel_rfl) (exactFloats_met os))) ?_
  intro W base args ds gs before hval hW _ _ _ hL _ _
  exact exactFloats_contract H enc W base args ds gs before hval hW hL
theorem exactFloats_said : Rows.ExactFloatsSaid :=
  OpenClaim.holds_of_cond 3 Tryz.f3 rfl rfl rfl rfl rfl rfl rfl ⟨rfl, rfl, rfl, rfl, rfl⟩ rfl rfl rfl rfl rfl (by kernel_rfl) Tryz.func3 (by kernel_rfl)
    (of_decide_eq_true (by kernel_rfl)) (by unfold Func.isWrapper; first | (rw [if_pos (by decide +kernel)]; kernel_rfl) | (rw [if_neg (by decide +kernel)]; exact ⟨rfl, rfl⟩))
    (fun os started H enc _ F => by rw [OpenClaim.pre_eq_preRow]; exact exactFloats_lifted os started H enc F)
theorem exactFloats_plain (f : FuncId) (fn : Func) (hf : Tryz.pinned.checked.prog.funcNamed "timbre/timbrelaw26.ExactFloats" = some f) (hfn : Tryz.pinned.checked.prog.funcs[f]? = some fn) :
    true = Tryz.pinned.checked.prog.looks [] ∧ ∀ (j : Nat) t, fn.params[j]? = some t → Tryz.pinned.checked.prog.wantsStandIn t = false := by
  obtain rfl : f = 3 := Option.some.inj ((show Tryz.prog.funcNamed "timbre/timbrelaw26.ExactFloats" = some 3 by kernel_rfl).symm.trans hf) |>.symm
  obtain rfl : fn = Tryz.f3 := (Option.some.inj (Tryz.func3.symm.trans hfn)).symm
  refine ⟨by kernel_rfl, fun j t ht => ?_⟩
  have hall : (Tryz.f3.params.toList.all fun t => !Tryz.prog.wantsStandIn t) = true := by kernel_rfl
  have := List.all_eq_true.1 hall t (by simpa using Array.mem_of_getElem? ht)
  have h2 : Tryz.prog.wantsStandIn t = false := by simpa using this
  exact h2
/-- The statement's card. -/
theorem exactFloats_card : Rows.ExactFloatsCardSaid :=
  Claim7.holds_tied_plain_at .later [] _ _ _ _ exactFloats_said (fun _ h => by cases h) (by kernel_rfl) (fun _ h => by cases h) exactFloats_row_tie rfl ⟨rfl, rfl⟩ (by kernel_rfl) rfl exactFloats_plain (by kernel_rfl)
end Go.Proofs.YtahjlcglidgadaaGreatDoor

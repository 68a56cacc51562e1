/- a good order has the length, the depth and the leaves that fit: the given statement OrderTrees holds for every tree. -/
import Derived.Test.YtinbeaaloailnaaDoorRw
import Derived.Test.YtinbeaaloailnaaDoorOu
namespace Go.Proofs.YtinbeaaloailnaaDoor
open Go Go.Eng
set_option maxRecDepth 100000
set_option linter.unusedVariables false
set_option linter.unusedSimpArgs false
open Go.ChangeShapes Go.WideShapes Go.ChangeAt Go.RowKit
theorem orderTrees_contract (H : Type) (enc : TypeId × Value → H) (W : World) (base : Nat) (args : Array Value) (ds gs : List (DataW H)) (before : List MemPlace)
    (hval : ∀ (j : Nat) t v, Tryd.f8.params[j]? = some t → args[j]? = some v → Value.okWide Tryd.prog W .any base t v)
    (hW : DataW.Whole enc Tryd.prog Tryd.f8.params.toList Rows.orderTreesSpec.vars false W args.toList ds gs before) (hL : laidMetH Tryd.prog Rows.orderTreesRow.laid W) :
    Calls Tryd.prog 8 args W fun e W' => ∃ v, e = .returned v ∧ Rows.orderTreesSpec.post enc Tryd.prog Tryd.f8 false true false false W args v W' := by
  have hW' := hW
  obtain ⟨p, q, hA0, hV, rfl, hfz, hnd⟩ := hW
  have hA : DataW.TrodAll enc Tryd.prog W 0 (fun _ => true) true Tryd.f8.params.toList args.toList ds p := hA0
  rw [Tryd.params8] at hA hval
  obtain ⟨rfl, rfl⟩ := trodVars_none hV
  have hL2 := of_laid5 hL
  obtain ⟨v0, d0, rfl, rfl, h0⟩ := trodAll_one hA
  obtain ⟨csa, rfl, _⟩ := okWide_struct (fs := Tryd.prog.fieldsOf 25) (by kernel_rfl) (hval 0 _ v0 rfl rfl)
  obtain ⟨fua, hfa⟩ := h0
  obtain ⟨la, rfl⟩ : ∃ l : List Value, csa = l.toArray := ⟨csa.toList, by simp⟩
  obtain ⟨a, isa, wda⟩ := read_tree fua (cs := la) hfa
  obtain ⟨E, Q, hE, hG⟩ := hL2
  exact calls_true (tb := 4) laidOut (OrderTrees_b (Hp.start W) hE hG isa wda) (by kernel_rfl) (by rfl) (by kernel_rfl) rfl hW' rfl
theorem orderTrees_met (os : Os) : laidMetH Tryd.prog Rows.orderTreesRow.laid ((World.doorLaid Tryd.prog 385 os).forCall (fun _ _ => 0) ⟨#[], #[.agg #[.int .i64 0, .int .i64 0, .slice none 0 0]], []⟩).memory := by
  rw [MakeChecks.laidMetH_plain _ _ _ (by kernel_rfl)]
  exact laidMet_of_run' 8 (by kernel_rfl) (by kernel_rfl)
theorem orderTrees_reads (os : Os) {H : Type} (enc : TypeId × Value → H) : ∃ places, DataW.whole enc Tryd.prog ((World.doorLaid Tryd.prog 385 os).forCall (fun _ _ => 0) ⟨#[], #[.agg #[.int .i64 0, .int .i64 0, .slice none 0 0]], []⟩).memory Tryd.f8.params.toList Rows.orderTreesSpec.vars false (#[.agg #[.int .i64 0, .int .i64 0, .slice none 0 0]] : Array Value).toList 8 = some ([.agg [.lit (.int .i64 0), .lit (.int .i64 0), .nil]], [], places) :=
  ⟨[], by kernel_rfl⟩
theorem orderTrees_lifted (os : Os) (started : os.Started) (H : Type) (enc : TypeId × Value → H) (F : Stop.Interp) :
    ReturnsInHanded {} Tryd.checked os 8 .any ((OpenSpec.ofChange Rows.orderTreesSpec).preRow enc Tryd.prog Tryd.f8 Rows.orderTreesRow.domain false Rows.orderTreesRow.laid) (((OpenSpec.ofChange Rows.orderTreesSpec).at F).post enc Tryd.prog Tryd.f8 false true false false) := by
  obtain ⟨places, hx⟩ := orderTrees_reads os enc
  refine returnsInHanded_of_row (C := Tryd.checked) (s := (OpenSpec.ofChange Rows.orderTreesSpec)) own started (by kernel_rfl) Tryd.func8
    (witness_row_atRef (enc := enc) (C := Tryd.checked) false (World.doorLaid Tryd.prog 385 os) #[.agg #[.int .i64 0, .int .i64 0, .slice none 0 0]] rfl (by kernel_rfl) (by kernel_rfl) (by kernel_rfl)
      (OpenSpec.preRow_of_cond 8 hx (by kernel_rfl) (fun k hk => by cases hk) (by kernel_rfl) (orderTrees_met os))) ?_
  intro W base args ds gs before hval hW _ _ _ hL _ _
  exact orderTrees_contract H enc W base args ds gs before hval hW hL
theorem orderTrees_said : Rows.OrderTreesSaid :=
  OpenClaim.holds_of_cond 8 Tryd.f8 rfl rfl rfl rfl rfl rfl rfl ⟨rfl, rfl, rfl, rfl, rfl⟩ rfl rfl rfl rfl rfl (by kernel_rfl) Tryd.func8 (by kernel_rfl)
    (of_decide_eq_true (by kernel_rfl)) (by unfold Func.isWrapper; first | (rw [if_pos (by decide +kernel)]; kernel_rfl) | (rw [if_neg (by decide +kernel)]; exact ⟨rfl, rfl⟩))
    (fun os started H enc _ F => by rw [OpenClaim.pre_eq_preRow]; exact orderTrees_lifted os started H enc F)
theorem orderTrees_plain (f : FuncId) (fn : Func) (hf : Tryd.pinned.checked.prog.funcNamed "timbre/timbrelaw12.OrderTrees" = some f) (hfn : Tryd.pinned.checked.prog.funcs[f]? = some fn) :
    true = Tryd.pinned.checked.prog.looks [] ∧ ∀ (j : Nat) t, fn.params[j]? = some t → Tryd.pinned.checked.prog.wantsStandIn t = false := by
  obtain rfl : f = 8 := Option.some.inj ((show Tryd.prog.funcNamed "timbre/timbrelaw12.OrderTrees" = some 8 by kernel_rfl).symm.trans hf) |>.symm
  obtain rfl : fn = Tryd.f8 := (Option.some.inj (Tryd.func8.symm.trans hfn)).symm
  refine ⟨by kernel_rfl, fun j t ht => ?_⟩
  have hall : (Tryd.f8.params.toList.all fun t => !Tryd.prog.wantsStandIn t) = true := by kernel_rfl
  have := List.all_eq_true.1 hall t (by simpa using Array.mem_of_getElem? ht)
  have h2 : Tryd.prog.wantsStandIn t = false := by simpa using this
  exact h2
/-- The statement's card. -/
theorem orderTrees_card : Rows.OrderTreesCardSaid :=
  Claim7.holds_tied_plain_at .later [] _ _ _ _ orderTrees_said (fun _ h => by cases h) (by kernel_rfl) (fun _ h => by cases h) orderTrees_row_tie rfl ⟨rfl, rfl⟩ (by kernel_rfl) rfl orderTrees_plain (by kernel_rfl)
end Go.Proofs.YtinbeaaloailnaaDoor

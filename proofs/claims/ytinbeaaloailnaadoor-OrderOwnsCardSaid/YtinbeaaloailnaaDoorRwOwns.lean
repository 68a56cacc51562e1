/- trees that are handed in stay and are not kept, answers are new memory: the given statement OrderOwns holds for every two trees and every number. -/
import Derived.Test.YtinbeaaloailnaaDoorRw
import Derived.Test.YtinbeaaloailnaaDoorWa
namespace Go.Proofs.YtinbeaaloailnaaDoor
open Go Go.Eng
set_option maxRecDepth 100000
set_option linter.unusedVariables false
set_option linter.unusedSimpArgs false
open Go.ChangeShapes Go.WideShapes Go.ChangeAt Go.RowKit
theorem orderOwns_contract (H : Type) (enc : TypeId × Value → H) (W : World) (base : Nat) (args : Array Value) (ds gs : List (DataW H)) (before : List MemPlace)
    (hval : ∀ (j : Nat) t v, Tryd.f6.params[j]? = some t → args[j]? = some v → Value.okWide Tryd.prog W .any base t v)
    (hW : DataW.Whole enc Tryd.prog Tryd.f6.params.toList Rows.orderOwnsSpec.vars false W args.toList ds gs before) (hL : laidMetH Tryd.prog Rows.orderOwnsRow.laid W) :
    Calls Tryd.prog 6 args W fun e W' => ∃ v, e = .returned v ∧ Rows.orderOwnsSpec.post enc Tryd.prog Tryd.f6 false true false false W args v W' := by
  have hW' := hW
  obtain ⟨p, q, hA0, hV, rfl, hfz, hnd⟩ := hW
  have hA : DataW.TrodAll enc Tryd.prog W 0 (fun _ => true) true Tryd.f6.params.toList args.toList ds p := hA0
  rw [Tryd.params6] at hA hval
  obtain ⟨rfl, rfl⟩ := trodVars_none hV
  have hL2 := of_laid5 hL
  obtain ⟨v0, v1, v2, d0, d1, d2, p0, p1, p2, rfl, rfl, rfl, h0, h1, h2⟩ := trodAll_three hA
  obtain ⟨csa, rfl, _⟩ := okWide_struct (fs := Tryd.prog.fieldsOf 25) (by kernel_rfl) (hval 0 _ v0 rfl rfl)
  obtain ⟨fua, hfa⟩ := h0
  obtain ⟨la, rfl⟩ : ∃ l : List Value, csa = l.toArray := ⟨csa.toList, by simp⟩
  obtain ⟨a, isa, wda⟩ := read_tree fua (cs := la) hfa
  obtain ⟨csb, rfl, _⟩ := okWide_struct (fs := Tryd.prog.fieldsOf 25) (by kernel_rfl) (hval 1 _ v1 rfl rfl)
  obtain ⟨fub, hfb⟩ := h1
  obtain ⟨lb, rfl⟩ : ∃ l : List Value, csb = l.toArray := ⟨csb.toList, by simp⟩
  obtain ⟨b, isb, wdb⟩ := read_tree fub (cs := lb) hfb
  obtain ⟨x, rfl, rfl, rfl, wx⟩ := Go.ChangeShapes.open_int (k := .i64) (by kernel_rfl) (hval 2 _ v2 rfl rfl) h2
  obtain ⟨E, Q, hE, hG⟩ := hL2
  exact calls_true (tb := 4) laidOut (OrderOwns_b (Hp.start W) hE hG isa isb wda wdb) (by kernel_rfl) (by rfl) (by kernel_rfl) rfl hW' rfl
theorem orderOwns_met (os : Os) : laidMetH Tryd.prog Rows.orderOwnsRow.laid ((World.doorLaid Tryd.prog 385 os).forCall (fun _ _ => 0) ⟨#[], #[.agg #[.int .i64 0, .int .i64 0, .slice none 0 0], .agg #[.int .i64 0, .int .i64 0, .slice none 0 0], .int .i64 0], []⟩).memory := by
  rw [MakeChecks.laidMetH_plain _ _ _ (by kernel_rfl)]
  exact laidMet_of_run' 8 (by kernel_rfl) (by kernel_rfl)
theorem orderOwns_reads (os : Os) {H : Type} (enc : TypeId × Value → H) : ∃ places, DataW.whole enc Tryd.prog ((World.doorLaid Tryd.prog 385 os).forCall (fun _ _ => 0) ⟨#[], #[.agg #[.int .i64 0, .int .i64 0, .slice none 0 0], .agg #[.int .i64 0, .int .i64 0, .slice none 0 0], .int .i64 0], []⟩).memory Tryd.f6.params.toList Rows.orderOwnsSpec.vars false (#[.agg #[.int .i64 0, .int .i64 0, .slice none 0 0], .agg #[.int .i64 0, .int .i64 0, .slice none 0 0], .int .i64 0] : Array Value).toList 8 = some ([.agg [.lit (.int .i64 0), .lit (.int .i64 0), .nil], .agg [.lit (.int .i64 0), .lit (.int .i64 0), .nil], .lit (.int .i64 0)], [], places) :=
  ⟨[], by kernel_rfl⟩
theorem orderOwns_lifted (os : Os) (started : os.Started) (H : Type) (enc : TypeId × Value → H) (F : Stop.Interp) :
    ReturnsInHanded {} Tryd.checked os 6 .any ((OpenSpec.ofChange Rows.orderOwnsSpec).preRow enc Tryd.prog Tryd.f6 Rows.orderOwnsRow.domain false Rows.orderOwnsRow.laid) (((OpenSpec.ofChange Rows.orderOwnsSpec).at F).post enc Tryd.prog Tryd.f6 false true false false) := by
  obtain ⟨places, hx⟩ := orderOwns_reads os enc
  refine returnsInHanded_of_row (C := Tryd.checked) (s := (OpenSpec.ofChange Rows.orderOwnsSpec)) own started (by kernel_rfl) Tryd.func6
    (witness_row_atRef (enc := enc) (C := Tryd.checked) false (World.doorLaid Tryd.prog 385 os) #[.agg #[.int .i64 0, .int .i64 0, .slice none 0 0], .agg #[.int .i64 0, .int .i64 0, .slice none 0 0], .int .i64 0] rfl (by kernel_rfl) (by kernel_rfl) (by kernel_rfl)
      (OpenSpec.preRow_of_cond 8 hx (by kernel_rfl) (fun k hk => by cases hk) (by kernel_rfl) (orderOwns_met os))) ?_
  intro W base args ds gs before hval hW _ _ _ hL _ _
  exact orderOwns_contract H enc W base args ds gs before hval hW hL
theorem orderOwns_said : Rows.OrderOwnsSaid :=
  OpenClaim.holds_of_cond 6 Tryd.f6 rfl rfl rfl rfl rfl rfl rfl ⟨rfl, rfl, rfl, rfl, rfl⟩ rfl rfl rfl rfl rfl (by kernel_rfl) Tryd.func6 (by kernel_rfl)
    (of_decide_eq_true (by kernel_rfl)) (by unfold Func.isWrapper; first | (rw [if_pos (by decide +kernel)]; kernel_rfl) | (rw [if_neg (by decide +kernel)]; exact ⟨rfl, rfl⟩))
    (fun os started H enc _ F => by rw [OpenClaim.pre_eq_preRow]; exact orderOwns_lifted os started H enc F)
theorem orderOwns_plain (f : FuncId) (fn : Func) (hf : Tryd.pinned.checked.prog.funcNamed "timbre/timbrelaw12.OrderOwns" = some f) (hfn : Tryd.pinned.checked.prog.funcs[f]? = some fn) :
    true = Tryd.pinned.checked.prog.looks [] ∧ ∀ (j : Nat) t, fn.params[j]? = some t → Tryd.pinned.checked.prog.wantsStandIn t = false := by
  obtain rfl : f = 6 := Option.some.inj ((show Tryd.prog.funcNamed "timbre/timbrelaw12.OrderOwns" = some 6 by kernel_rfl).symm.trans hf) |>.symm
  obtain rfl : fn = Tryd.f6 := (Option.some.inj (Tryd.func6.symm.trans hfn)).symm
  refine ⟨by kernel_rfl, fun j t ht => ?_⟩
  have hall : (Tryd.f6.params.toList.all fun t => !Tryd.prog.wantsStandIn t) = true := by kernel_rfl
  have := List.all_eq_true.1 hall t (by simpa using Array.mem_of_getElem? ht)
  have h2 : Tryd.prog.wantsStandIn t = false := by simpa using this
  exact h2
/-- The statement's card. -/
theorem orderOwns_card : Rows.OrderOwnsCardSaid :=
  Claim7.holds_tied_plain_at .later [] _ _ _ _ orderOwns_said (fun _ h => by cases h) (by kernel_rfl) (fun _ h => by cases h) orderOwns_row_tie rfl ⟨rfl, rfl⟩ (by kernel_rfl) rfl orderOwns_plain (by kernel_rfl)
end Go.Proofs.YtinbeaaloailnaaDoor

/- Linear and Cyclic: exchanged, added, and folded: the given statement ExactRules, holds for every three lists. -/
import Derived.Test.YtfpphoapknecfaaGreatDoorBesafterRw
namespace Go.Proofs.YtfpphoapknecfaaGreatDoorBesafter
open Go Go.Eng
set_option maxRecDepth 100000
set_option linter.unusedVariables false
set_option linter.unusedSimpArgs false
open Go.ChangeShapes Go.WideShapes Go.ChangeAt Go.RowKit
theorem exactRules_contract (H : Type) (enc : TypeId × Value → H) (W : World) (base : Nat) (args : Array Value) (ds gs : List (DataW H)) (before : List MemPlace)
    (hval : ∀ (j : Nat) t v, Tryz.f3.params[j]? = some t → args[j]? = some v → Value.okWide Tryz.prog W .any base t v)
    (hW : DataW.Whole enc Tryz.prog Tryz.f3.params.toList Rows.exactRulesSpec.vars false W args.toList ds gs before) (hL : laidMetH Tryz.prog Rows.exactRulesRow.laid W) :
    Calls Tryz.prog 3 args W fun e W' => ∃ v, e = .returned v ∧ Rows.exactRulesSpec.post enc Tryz.prog Tryz.f3 false true false false W args v W' := by
  have hW' := hW
  obtain ⟨p, q, hA0, hV, rfl, hfz, hnd⟩ := hW
  have hA : DataW.TrodAll enc Tryz.prog W 0 (fun _ => true) true Tryz.f3.params.toList args.toList ds p := hA0
  rw [Tryz.params3] at hA hval
  obtain ⟨rfl, rfl⟩ := trodVars_none hV
  have hL2 := of_laid19 hL
  obtain ⟨v0, v1, v2, d0, d1, d2, p0, p1, p2, rfl, rfl, rfl, h0, h1, h2⟩ := trodAll_three hA
  obtain ⟨paxs, nxs, cxs, rfl⟩ := okWide_slice (e := 2) (by kernel_rfl) (hval 0 _ v0 rfl rfl)
  obtain ⟨fuxs, hfxs⟩ := h0
  obtain ⟨xs, rfl, slxs, okxs, lexs, buxs⟩ := read_i64s hfxs
  obtain ⟨pays, nys, cys, rfl⟩ := okWide_slice (e := 2) (by kernel_rfl) (hval 1 _ v1 rfl rfl)
  obtain ⟨fuys, hfys⟩ := h1
  obtain ⟨ys, rfl, slys, okys, leys, buys⟩ := read_i64s hfys
  obtain ⟨pazs, nzs, czs, rfl⟩ := okWide_slice (e := 2) (by kernel_rfl) (hval 2 _ v2 rfl rfl)
  obtain ⟨fuzs, hfzs⟩ := h2
  obtain ⟨zs, rfl, slzs, okzs, lezs, buzs⟩ := read_i64s hfzs
  have hcxs := rd_spot (e := 2) (by kernel_rfl) hfxs (Nat.lt_of_lt_of_eq Nat.zero_lt_one (show 1 = Tryz.prog.cellsOf 2 by kernel_rfl))
  have hcys := rd_spot (e := 2) (by kernel_rfl) hfys (Nat.lt_of_lt_of_eq Nat.zero_lt_one (show 1 = Tryz.prog.cellsOf 2 by kernel_rfl))
  have hczs := rd_spot (e := 2) (by kernel_rfl) hfzs (Nat.lt_of_lt_of_eq Nat.zero_lt_one (show 1 = Tryz.prog.cellsOf 2 by kernel_rfl))
  obtain ⟨E, Q, hE⟩ := hL2
  exact calls_true (tb := 4) laidOut (Nn.ExactRules_b (Hp.start W) hE slxs slys slzs okxs okys okzs lexs leys lezs hcxs hcys hczs) (by kernel_rfl) (by rfl) (by kernel_rfl) rfl hW' rfl
theorem exactRules_met (os : Os) : laidMetH Tryz.prog Rows.exactRulesRow.laid ((World.doorLaid Tryz.prog 400 os).forCall (fun _ _ => 0) ⟨#[], #[.slice none 0 0, .slice none 0 0, .slice none 0 0], []⟩).memory := by
  rw [MakeChecks.laidMetH_plain _ _ _ (by kernel_rfl)]
  exact laidMet_of_run' 8 (by kernel_rfl) (by kernel_rfl)
theorem exactRules_reads (os : Os) {H : Type} (enc : TypeId × Value → H) : ∃ places, DataW.whole enc Tryz.prog ((World.doorLaid Tryz.prog 400 os).forCall (fun _ _ => 0) ⟨#[], #[.slice none 0 0, .slice none 0 0, .slice none 0 0], []⟩).memory Tryz.f3.params.toList Rows.exactRulesSpec.vars false (#[.slice none 0 0, .slice none 0 0, .slice none 0 0] : Array Value).toList 8 = some ([.nil, .nil, .nil], [], places) :=
  ⟨[], by kernel_rfl⟩
theorem exactRules_lifted (os : Os) (started : os.Started) (H : Type) (enc : TypeId × Value → H) (F : Stop.Interp) :
    ReturnsInHanded {} Tryz.checked os 3 .any ((OpenSpec.ofChange Rows.exactRulesSpec).preRow enc Tryz.prog Tryz.f3 Rows.exactRulesRow.domain false Rows.exactRulesRow.laid) (((OpenSpec.ofChange Rows.exactRulesSpec).at F).post enc Tryz.prog Tryz.f3 false true false false) := by
  obtain ⟨places, hx⟩ := exactRules_reads os enc
  refine returnsInHanded_of_row (C := Tryz.checked) (s := (OpenSpec.ofChange Rows.exactRulesSpec)) own started (by kernel_rfl) Tryz.func3
    (witness_row_atRef (enc := enc) (C := Tryz.checked) false (World.doorLaid Tryz.prog 400 os) #[.slice none 0 0, .slice none 0 0, .slice none 0 0] rfl (by kernel_rfl) (by kernel_rfl) (by kernel_rfl)
      (OpenSpec.preRow_of_cond 8 hx (by kernel_rfl) (fun k hk => by cases hk) (by kernel_rfl) (exactRules_met os))) ?_
  intro W base args ds gs before hval hW _ _ _ hL _ _
  exact exactRules_contract H enc W base args ds gs before hval hW hL
theorem exactRules_said : Rows.ExactRulesSaid :=
  OpenClaim.holds_of_cond 3 Tryz.f3 rfl rfl rfl rfl rfl rfl rfl ⟨rfl, rfl, rfl, rfl, rfl⟩ rfl rfl rfl rfl rfl (by kernel_rfl) Tryz.func3 (by kernel_rfl)
    (of_decide_eq_true (by kernel_rfl)) (by unfold Func.isWrapper; first | (rw [if_pos (by decide +kernel)]; kernel_rfl) | (rw [if_neg (by decide +kernel)]; exact ⟨rfl, rfl⟩))
    (fun os started H enc _ F => by rw [OpenClaim.pre_eq_preRow]; exact exactRules_lifted os started H enc F)
theorem exactRules_plain (f : FuncId) (fn : Func) (hf : Tryz.pinned.checked.prog.funcNamed "timbre/timbrelaw26.ExactRules" = some f) (hfn : Tryz.pinned.checked.prog.funcs[f]? = some fn) :
    true = Tryz.pinned.checked.prog.looks [] ∧ ∀ (j : Nat) t, fn.params[j]? = some t → Tryz.pinned.checked.prog.wantsStandIn t = false := by
  obtain rfl : f = 3 := Option.some.inj ((show Tryz.prog.funcNamed "timbre/timbrelaw26.ExactRules" = some 3 by kernel_rfl).symm.trans hf) |>.symm
  obtain rfl : fn = Tryz.f3 := (Option.some.inj (Tryz.func3.symm.trans hfn)).symm
  refine ⟨by kernel_rfl, fun j t ht => ?_⟩
  have hall : (Tryz.f3.params.toList.all fun t => !Tryz.prog.wantsStandIn t) = true := by kernel_rfl
  have := List.all_eq_true.1 hall t (by simpa using Array.mem_of_getElem? ht)
  have h2 : Tryz.prog.wantsStandIn t = false := by simpa using this
  exact h2
/-- The statement's card. -/
theorem exactRules_card : Rows.ExactRulesCardSaid :=
  Claim7.holds_tied_plain_at .later [] _ _ _ _ exactRules_said (fun _ h => by cases h) (by kernel_rfl) (fun _ h => by cases h) exactRules_row_tie rfl ⟨rfl, rfl⟩ (by kernel_rfl) rfl exactRules_plain (by kernel_rfl)
end Go.Proofs.YtfpphoapknecfaaGreatDoorBesafter

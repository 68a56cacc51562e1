/- each length is made once, and once more behind each drop; the lengths told are rising: the given statement TablesCounts holds for every list of numbers and every list of drops. -/
import Derived.Test.YtmppcnbkfjeabaaDoorRw
namespace Go.Proofs.YtmppcnbkfjeabaaDoor
open Go Go.Eng
set_option maxRecDepth 100000
set_option linter.unusedVariables false
set_option linter.unusedSimpArgs false
open Go.ChangeShapes Go.WideShapes Go.ChangeAt Go.RowKit
theorem tablesCounts_contract (H : Type) (enc : TypeId × Value → H) (W : World) (base : Nat) (args : Array Value) (ds gs : List (DataW H)) (before : List MemPlace)
    (hval : ∀ (j : Nat) t v, Tryd.f4.params[j]? = some t → args[j]? = some v → Value.okWide Tryd.prog W .any base t v)
    (hW : DataW.Whole enc Tryd.prog Tryd.f4.params.toList Rows.tablesCountsSpec.vars false W args.toList ds gs before) (hL : laidMetH Tryd.prog Rows.tablesCountsRow.laid W) :
    Calls Tryd.prog 4 args W fun e W' => ∃ v, e = .returned v ∧ Rows.tablesCountsSpec.post enc Tryd.prog Tryd.f4 false true false false W args v W' := by
  have hW' := hW
  obtain ⟨p, q, hA0, hV, rfl, hfz, hnd⟩ := hW
  have hA : DataW.TrodAll enc Tryd.prog W 0 (fun _ => true) true Tryd.f4.params.toList args.toList ds p := hA0
  rw [Tryd.params4] at hA hval
  obtain ⟨rfl, rfl⟩ := trodVars_none hV
  have hL2 := of_laid19 hL
  obtain ⟨v0, v1, d0, d1, p0, p1, rfl, rfl, rfl, h0, h1⟩ := trodAll_two hA
  obtain ⟨paks, nks, cks, rfl⟩ := okWide_slice (e := 3) (by kernel_rfl) (hval 0 _ v0 rfl rfl)
  obtain ⟨fuks, hfks⟩ := h0
  obtain ⟨ks, rfl, slks, leks, okks⟩ := read_ints hfks
  obtain ⟨pads, nds, cds, rfl⟩ := okWide_slice (e := 4) (by kernel_rfl) (hval 1 _ v1 rfl rfl)
  obtain ⟨fuds, hfds⟩ := h1
  obtain ⟨ds, rfl, slds, leds⟩ := read_bools hfds
  obtain ⟨E, Q, hE⟩ := hL2
  exact calls_true (tb := 4) laidOut (TablesCounts_b (Hp.start W) hE slks leks okks slds leds) (by kernel_rfl) (by rfl) (by kernel_rfl) rfl hW' rfl
theorem tablesCounts_met (os : Os) : laidMetH Tryd.prog Rows.tablesCountsRow.laid ((World.doorLaid Tryd.prog 370 os).forCall (fun _ _ => 0) ⟨#[], #[.slice none 0 0, .slice none 0 0], []⟩).memory := by
  rw [MakeChecks.laidMetH_plain _ _ _ (by kernel_rfl)]
  exact laidMet_of_run' 8 (by kernel_rfl) (by kernel_rfl)
theorem tablesCounts_reads (os : Os) {H : Type} (enc : TypeId × Value → H) : ∃ places, DataW.whole enc Tryd.prog ((World.doorLaid Tryd.prog 370 os).forCall (fun _ _ => 0) ⟨#[], #[.slice none 0 0, .slice none 0 0], []⟩).memory Tryd.f4.params.toList Rows.tablesCountsSpec.vars false (#[.slice none 0 0, .slice none 0 0] : Array Value).toList 8 = some ([.nil, .nil], [], places) :=
  ⟨[], by kernel_rfl⟩
theorem tablesCounts_lifted (os : Os) (started : os.Started) (H : Type) (enc : TypeId × Value → H) (F : Stop.Interp) :
    ReturnsInHanded {} Tryd.checked os 4 .any ((OpenSpec.ofChange Rows.tablesCountsSpec).preRow enc Tryd.prog Tryd.f4 Rows.tablesCountsRow.domain false Rows.tablesCountsRow.laid) (((OpenSpec.ofChange Rows.tablesCountsSpec).at F).post enc Tryd.prog Tryd.f4 false true false false) := by
  obtain ⟨places, hx⟩ := tablesCounts_reads os enc
  refine returnsInHanded_of_row (C := Tryd.checked) (s := (OpenSpec.ofChange Rows.tablesCountsSpec)) own started (by kernel_rfl) Tryd.func4
    (witness_row_atRef (enc := enc) (C := Tryd.checked) false (World.doorLaid Tryd.prog 370 os) #[.slice none 0 0, .slice none 0 0] rfl (by kernel_rfl) (by kernel_rfl) (by kernel_rfl)
      (OpenSpec.preRow_of_cond 8 hx (by kernel_rfl) (fun k hk => by cases hk) (by kernel_rfl) (tablesCounts_met os))) ?_
  intro W base args ds gs before hval hW _ _ _ hL _ _
  exact tablesCounts_contract H enc W base args ds gs before hval hW hL
theorem tablesCounts_said : Rows.TablesCountsSaid :=
  OpenClaim.holds_of_cond 4 Tryd.f4 rfl rfl rfl rfl rfl rfl rfl ⟨rfl, rfl, rfl, rfl, rfl⟩ rfl rfl rfl rfl rfl (by kernel_rfl) Tryd.func4 (by kernel_rfl)
    (of_decide_eq_true (by kernel_rfl)) (by unfold Func.isWrapper; first | (rw [if_pos (by decide +kernel)]; kernel_rfl) | (rw [if_neg (by decide +kernel)]; exact ⟨rfl, rfl⟩))
    (fun os started H enc _ F => by rw [OpenClaim.pre_eq_preRow]; exact tablesCounts_lifted os started H enc F)
theorem tablesCounts_plain (f : FuncId) (fn : Func) (hf : Tryd.pinned.checked.prog.funcNamed "timbre/timbrelaw08.TablesCounts" = some f) (hfn : Tryd.pinned.checked.prog.funcs[f]? = some fn) :
    true = Tryd.pinned.checked.prog.looks [] ∧ ∀ (j : Nat) t, fn.params[j]? = some t → Tryd.pinned.checked.prog.wantsStandIn t = false := by
  obtain rfl : f = 4 := Option.some.inj ((show Tryd.prog.funcNamed "timbre/timbrelaw08.TablesCounts" = some 4 by kernel_rfl).symm.trans hf) |>.symm
  obtain rfl : fn = Tryd.f4 := (Option.some.inj (Tryd.func4.symm.trans hfn)).symm
  refine ⟨by kernel_rfl, fun j t ht => ?_⟩
  have hall : (Tryd.f4.params.toList.all fun t => !Tryd.prog.wantsStandIn t) = true := by kernel_rfl
  have := List.all_eq_true.1 hall t (by simpa using Array.mem_of_getElem? ht)
  have h2 : Tryd.prog.wantsStandIn t = false := by simpa using this
  exact h2
/-- The statement's card. -/
theorem tablesCounts_card : Rows.TablesCountsCardSaid :=
  Claim7.holds_tied_plain_at .later [] _ _ _ _ tablesCounts_said (fun _ h => by cases h) (by kernel_rfl) (fun _ h => by cases h) tablesCounts_row_tie rfl ⟨rfl, rfl⟩ (by kernel_rfl) rfl tablesCounts_plain (by kernel_rfl)
end Go.Proofs.YtmppcnbkfjeabaaDoor

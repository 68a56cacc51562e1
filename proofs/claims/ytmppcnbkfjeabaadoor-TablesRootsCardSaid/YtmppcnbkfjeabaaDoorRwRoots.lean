/- what tables tell is what the roots tell, asked once or again, behind a drop too: the given statement TablesRoots holds for every two numbers and every list of numbers. -/
import Derived.Test.YtmppcnbkfjeabaaDoorRw
namespace Go.Proofs.YtmppcnbkfjeabaaDoor
open Go Go.Eng
set_option maxRecDepth 100000
set_option linter.unusedVariables false
set_option linter.unusedSimpArgs false
open Go.ChangeShapes Go.WideShapes Go.ChangeAt Go.RowKit
theorem tablesRoots_contract (H : Type) (enc : TypeId × Value → H) (W : World) (base : Nat) (args : Array Value) (ds gs : List (DataW H)) (before : List MemPlace)
    (hval : ∀ (j : Nat) t v, Tryd.f3.params[j]? = some t → args[j]? = some v → Value.okWide Tryd.prog W .any base t v)
    (hW : DataW.Whole enc Tryd.prog Tryd.f3.params.toList Rows.tablesRootsSpec.vars false W args.toList ds gs before) (hL : laidMetH Tryd.prog Rows.tablesRootsRow.laid W) :
    Calls Tryd.prog 3 args W fun e W' => ∃ v, e = .returned v ∧ Rows.tablesRootsSpec.post enc Tryd.prog Tryd.f3 false true false false W args v W' := by
  have hW' := hW
  obtain ⟨p, q, hA0, hV, rfl, hfz, hnd⟩ := hW
  have hA : DataW.TrodAll enc Tryd.prog W 0 (fun _ => true) true Tryd.f3.params.toList args.toList ds p := hA0
  rw [Tryd.params3] at hA hval
  obtain ⟨rfl, rfl⟩ := trodVars_none hV
  have hL2 := of_laid19 hL
  obtain ⟨v0, v1, v2, d0, d1, d2, p0, p1, p2, rfl, rfl, rfl, h0, h1, h2⟩ := trodAll_three hA
  obtain ⟨x, rfl, rfl, rfl, wx⟩ := Go.ChangeShapes.open_int (k := .i64) (by kernel_rfl) (hval 0 _ v0 rfl rfl) h0
  obtain ⟨paks, nks, cks, rfl⟩ := okWide_slice (e := 3) (by kernel_rfl) (hval 1 _ v1 rfl rfl)
  obtain ⟨fuks, hfks⟩ := h1
  obtain ⟨ks, rfl, slks, leks, okks⟩ := read_ints hfks
  obtain ⟨y, rfl, rfl, rfl, wy⟩ := Go.ChangeShapes.open_int (k := .i64) (by kernel_rfl) (hval 2 _ v2 rfl rfl) h2
  obtain ⟨E, Q, hE⟩ := hL2
  exact calls_true (tb := 4) laidOut (TablesRoots_b (Hp.start W) hE (n := x) (d := y) slks leks okks) (by kernel_rfl) (by rfl) (by kernel_rfl) rfl hW' rfl
theorem tablesRoots_met (os : Os) : laidMetH Tryd.prog Rows.tablesRootsRow.laid ((World.doorLaid Tryd.prog 370 os).forCall (fun _ _ => 0) ⟨#[], #[.int .i64 0, .slice none 0 0, .int .i64 0], []⟩).memory := by
  rw [MakeChecks.laidMetH_plain _ _ _ (by kernel_rfl)]
  exact laidMet_of_run' 8 (by kernel_rfl) (by kernel_rfl)
theorem tablesRoots_reads (os : Os) {H : Type} (enc : TypeId × Value → H) : ∃ places, DataW.whole enc Tryd.prog ((World.doorLaid Tryd.prog 370 os).forCall (fun _ _ => 0) ⟨#[], #[.int .i64 0, .slice none 0 0, .int .i64 0], []⟩).memory Tryd.f3.params.toList Rows.tablesRootsSpec.vars false (#[.int .i64 0, .slice none 0 0, .int .i64 0] : Array Value).toList 8 = some ([.lit (.int .i64 0), .nil, .lit (.int .i64 0)], [], places) :=
  ⟨[], by kernel_rfl⟩
theorem tablesRoots_lifted (os : Os) (started : os.Started) (H : Type) (enc : TypeId × Value → H) (F : Stop.Interp) :
    ReturnsInHanded {} Tryd.checked os 3 .any ((OpenSpec.ofChange Rows.tablesRootsSpec).preRow enc Tryd.prog Tryd.f3 Rows.tablesRootsRow.domain false Rows.tablesRootsRow.laid) (((OpenSpec.ofChange Rows.tablesRootsSpec).at F).post enc Tryd.prog Tryd.f3 false true false false) := by
  obtain ⟨places, hx⟩ := tablesRoots_reads os enc
  refine returnsInHanded_of_row (C := Tryd.checked) (s := (OpenSpec.ofChange Rows.tablesRootsSpec)) own started (by kernel_rfl) Tryd.func3
    (witness_row_atRef (enc := enc) (C := Tryd.checked) false (World.doorLaid Tryd.prog 370 os) #[.int .i64 0, .slice none 0 0, .int .i64 0] rfl (by kernel_rfl) (by kernel_rfl) (by kernel_rfl)
      (OpenSpec.preRow_of_cond 8 hx (by kernel_rfl) (fun k hk => by cases hk) (by kernel_rfl) (tablesRoots_met os))) ?_
  intro W base args ds gs before hval hW _ _ _ hL _ _
  exact tablesRoots_contract H enc W base args ds gs before hval hW hL
theorem tablesRoots_said : Rows.TablesRootsSaid :=
  OpenClaim.holds_of_cond 3 Tryd.f3 rfl rfl rfl rfl rfl rfl rfl ⟨rfl, rfl, rfl, rfl, rfl⟩ rfl rfl rfl rfl rfl (by kernel_rfl) Tryd.func3 (by kernel_rfl)
    (of_decide_eq_true (by kernel_rfl)) (by unfold Func.isWrapper; first | (rw [if_pos (by decide +kernel)]; kernel_rfl) | (rw [if_neg (by decide +kernel)]; exact ⟨rfl, rfl⟩))
    (fun os started H enc _ F => by rw [OpenClaim.pre_eq_preRow]; exact tablesRoots_lifted os started H enc F)
theorem tablesRoots_plain (f : FuncId) (fn : Func) (hf : Tryd.pinned.checked.prog.funcNamed "timbre/timbrelaw08.TablesRoots" = some f) (hfn : Tryd.pinned.checked.prog.funcs[f]? = some fn) :
    true = Tryd.pinned.checked.prog.looks [] ∧ ∀ (j : Nat) t, fn.params[j]? = some t → Tryd.pinned.checked.prog.wantsStandIn t = false := by
  obtain rfl : f = 3 := Option.some.inj ((show Tryd.prog.funcNamed "timbre/timbrelaw08.TablesRoots" = some 3 by kernel_rfl).symm.trans hf) |>.symm
  obtain rfl : fn = Tryd.f3 := (Option.some.inj (Tryd.func3.symm.trans hfn)).symm
  refine ⟨by kernel_rfl, fun j t ht => ?_⟩
  have hall : (Tryd.f3.params.toList.all fun t => !Tryd.prog.wantsStandIn t) = true := by kernel_rfl
  have := List.all_eq_true.1 hall t (by simpa using Array.mem_of_getElem? ht)
  have h2 : Tryd.prog.wantsStandIn t = false := by simpa using this
  exact h2
/-- The statement's card. -/
theorem tablesRoots_card : Rows.TablesRootsCardSaid :=
  Claim7.holds_tied_plain_at .later [] _ _ _ _ tablesRoots_said (fun _ h => by cases h) (by kernel_rfl) (fun _ h => by cases h) tablesRoots_row_tie rfl ⟨rfl, rfl⟩ (by kernel_rfl) rfl tablesRoots_plain (by kernel_rfl)
end Go.Proofs.YtmppcnbkfjeabaaDoor

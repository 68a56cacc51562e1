/- a listing that is cut off is refused in its last line, or is that of the first steps: the given statement ListingCuts, in its second form, holds for every program of bulk at most 1048576 and every place. -/
import Derived.Test.YtgkmmbdlclecnaaDoorRy
namespace Go.Proofs.YtgkmmbdlclecnaaDoor
open Go Go.Eng
set_option maxRecDepth 100000
set_option linter.unusedVariables false
set_option linter.unusedSimpArgs false
open Go.ChangeShapes Go.WideShapes Go.ChangeAt Go.RowKit
theorem listingCuts_contract (H : Type) (enc : TypeId × Value → H) (W : World) (base : Nat) (args : Array Value) (ds gs : List (DataW H)) (before : List MemPlace)
    (hval : ∀ (j : Nat) t v, Tryd.f6.params[j]? = some t → args[j]? = some v → Value.okWide Tryd.prog W .any base t v)
    (hW : DataW.Whole enc Tryd.prog Tryd.f6.params.toList Rows.listingCutsSpec.vars false W args.toList ds gs before) (hk : Rows.uptoSmall H (ds ++ gs) = true) (hL : laidMetH Tryd.prog Rows.listingCutsUptoRow.laid W) (hsh : W.ShapedOpen Tryd.prog) :
    Calls Tryd.prog 6 args W fun e W' => ∃ v, e = .returned v ∧ Rows.listingCutsSpec.post enc Tryd.prog Tryd.f6 false true false false W args v W' := by
  have hW' := hW
  obtain ⟨p, q, hA0, hV, rfl, hfz, hnd⟩ := hW
  have hA : DataW.TrodAll enc Tryd.prog W 0 (fun _ => true) true Tryd.f6.params.toList args.toList ds p := hA0
  rw [Tryd.params6] at hA hval
  obtain ⟨rfl, rfl⟩ := trodVars_none hV
  have hL2 := of_laidB hsh hL
  obtain ⟨v0, v1, d0, d1, p0, p1, rfl, rfl, rfl, h0, h1⟩ := trodAll_two hA
  obtain ⟨csa, rfl, _⟩ := okWide_struct (fs := Tryd.prog.fieldsOf 24) (by kernel_rfl) (hval 0 _ v0 rfl rfl)
  obtain ⟨fua, hfa⟩ := h0
  obtain ⟨a, pa, ca, hca, sla, oka, i0a, i1a, i2a, i3a, lea, bua⟩ := read_prg (cs := csa.toList) hfa
  obtain rfl : csa = (prgV a pa a.steps.length ca).toArray := by rw [← hca]
  obtain ⟨hroom, hspot⟩ := prg_spot hfa
  obtain ⟨z, rfl, rfl, rfl, wz⟩ := open_int (k := .i64) (by kernel_rfl) (hval 1 _ v1 rfl rfl) h1
  have hsm := prg_small (p := a) (List.mem_append_left _ List.mem_cons_self) (bulk_small hk) bua
  obtain ⟨E, Q, hE, hT, hG, hR⟩ := hL2
  exact calls_true (tb := 4) laidOut (ListingCuts_b (Hp.start W) hE hT hG hR sla hspot hroom ⟨i0a, i1a, i2a, i3a, oka, by omega⟩ (by omega) (at_ := z) (by have := wf_i64 wz; exact this)) (by kernel_rfl) (by rfl) (by kernel_rfl) rfl hW' rfl
theorem listingCuts_met (os : Os) : laidMetH Tryd.prog Rows.listingCutsUptoRow.laid ((World.laidAll Tryd.prog os Rows.listingCutsUptoRow.laid).forCall (fun _ _ => 0) ⟨#[], #[.agg #[.int .i64 0, .int .i64 0, .int .i64 0, .int .i64 0, .slice none 0 0], .int .i64 0], []⟩).memory := by
  rw [MakeChecks.laidMetH_plain _ _ _ (by kernel_rfl)]
  exact laidMet_laidAll _ (by kernel_rfl) (by kernel_rfl)
theorem listingCuts_reads (os : Os) {H : Type} (enc : TypeId × Value → H) : ∃ places, DataW.whole enc Tryd.prog ((World.laidAll Tryd.prog os Rows.listingCutsUptoRow.laid).forCall (fun _ _ => 0) ⟨#[], #[.agg #[.int .i64 0, .int .i64 0, .int .i64 0, .int .i64 0, .slice none 0 0], .int .i64 0], []⟩).memory Tryd.f6.params.toList Rows.listingCutsSpec.vars false (#[.agg #[.int .i64 0, .int .i64 0, .int .i64 0, .int .i64 0, .slice none 0 0], .int .i64 0] : Array Value).toList 8 = some ([.agg [.lit (.int .i64 0), .lit (.int .i64 0), .lit (.int .i64 0), .lit (.int .i64 0), .nil], .lit (.int .i64 0)], [], places) :=
  ⟨[], by kernel_rfl⟩
theorem listingCuts_lifted (os : Os) (started : os.Started) (H : Type) (enc : TypeId × Value → H) (F : Stop.Interp) :
    ReturnsInHanded {} Tryd.checked os 6 .any ((Rows.OpenSpec.upto Rows.listingCutsSpec).preRow enc Tryd.prog Tryd.f6 Rows.listingCutsUptoRow.domain false Rows.listingCutsUptoRow.laid) (((Rows.OpenSpec.upto Rows.listingCutsSpec).at F).post enc Tryd.prog Tryd.f6 false true false false) := by
  obtain ⟨places, hx⟩ := listingCuts_reads os enc
  refine returnsInHanded_of_row (C := Tryd.checked) (s := (Rows.OpenSpec.upto Rows.listingCutsSpec)) own started (by kernel_rfl) Tryd.func6
    (wit (World.laidAll Tryd.prog os Rows.listingCutsUptoRow.laid) #[.agg #[.int .i64 0, .int .i64 0, .int .i64 0, .int .i64 0, .slice none 0 0], .int .i64 0] (World.laidAll_os _ _ _) (World.shaped_of_ZipB (by kernel_rfl) (by kernel_rfl)) (by kernel_rfl)
      (OpenSpec.preRow_of_cond 8 hx (by kernel_rfl) (fun k hk => by cases hk; kernel_rfl) (by kernel_rfl) (listingCuts_met os))) ?_
  intro W base args ds gs before hval hW _ hc _ hL hsh _
  exact listingCuts_contract H enc W base args ds gs before hval hW (hc _ rfl) hL hsh
theorem listingCuts_said : Rows.ListingCutsUptoSaid :=
  OpenClaim.holds_of_cond 6 Tryd.f6 rfl rfl rfl rfl rfl rfl rfl ⟨rfl, rfl, rfl, rfl, rfl⟩ rfl rfl rfl rfl rfl (by kernel_rfl) Tryd.func6 (by kernel_rfl)
    (of_decide_eq_true (by kernel_rfl)) (by unfold Func.isWrapper; first | (rw [if_pos (by decide +kernel)]; kernel_rfl) | (rw [if_neg (by decide +kernel)]; exact ⟨rfl, rfl⟩))
    (fun os started H enc _ F => by rw [OpenClaim.pre_eq_preRow]; exact listingCuts_lifted os started H enc F)
theorem listingCuts_plain (f : FuncId) (fn : Func) (hf : Tryd.pinned.checked.prog.funcNamed "timbre/timbrelaw16.ListingCuts" = some f) (hfn : Tryd.pinned.checked.prog.funcs[f]? = some fn) :
    true = Tryd.pinned.checked.prog.looks [] ∧ ∀ (j : Nat) t, fn.params[j]? = some t → Tryd.pinned.checked.prog.wantsStandIn t = false := by
  obtain rfl : f = 6 := Option.some.inj ((show Tryd.prog.funcNamed "timbre/timbrelaw16.ListingCuts" = some 6 by kernel_rfl).symm.trans hf) |>.symm
  obtain rfl : fn = Tryd.f6 := (Option.some.inj (Tryd.func6.symm.trans hfn)).symm
  refine ⟨by kernel_rfl, fun j t ht => ?_⟩
  have hall : (Tryd.f6.params.toList.all fun t => !Tryd.prog.wantsStandIn t) = true := by kernel_rfl
  have := List.all_eq_true.1 hall t (by simpa using Array.mem_of_getElem? ht)
  have h2 : Tryd.prog.wantsStandIn t = false := by simpa using this
  exact h2
/-- The statement's card. -/
theorem listingCuts_card : Rows.ListingCutsUptoCardSaid :=
  Claim7.holds_tied_plain_at .later [] _ _ _ _ listingCuts_said (fun _ h => by cases h) (by kernel_rfl) (fun _ h => by cases h) listingCutsUpto_row_tie rfl ⟨rfl, rfl⟩ (by kernel_rfl) rfl listingCuts_plain (by kernel_rfl)
end Go.Proofs.YtgkmmbdlclecnaaDoor

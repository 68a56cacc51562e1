/- what a Reader has read a Writer writes again, byte for byte: the given statement PackOneForm, in its second form, holds for all bytes and all kinds of bulk at most 1048576 together. -/
import Derived.Test.YtippfdnjhcpekaaDoorRw
import Derived.Test.YtippfdnjhcpekaaDoorLw9
namespace Go.Proofs.YtippfdnjhcpekaaDoor
open Go Go.Eng
set_option maxRecDepth 100000
set_option linter.unusedVariables false
set_option linter.unusedSimpArgs false
open Go.ChangeShapes Go.WideShapes Go.ChangeAt Go.RowKit

variable {H : Type} {enc : TypeId × Value → H} {W : World}
theorem read_i1 {fuel : Nat} {cs : List Value} {y : DataW H × List MemPlace} (h : DataW.trod enc Tryd.prog W 0 (fun _ => true) true fuel 3 cs = some y) : ∃ z : Int, cs = [.int .i64 z] ∧ (-9223372036854775808 ≤ z ∧ z ≤ 9223372036854775807) := by
  obtain ⟨z, rfl, _, hw⟩ := DataW.trod_int (k := .i64) (by kernel_rfl) h
  exact ⟨z, rfl, wf_i64 hw⟩
theorem iV_flat (l : List Int) : (l.map fun z => [Value.int .i64 z]).flatten = iVs l := by
  induction l with
  | nil => rfl
  | cons a l ih => simp only [List.map_cons, List.flatten_cons, ih]; rfl
theorem read_ints {fuel n c : Nat} {p : Option Addr} {x : DataW H × List MemPlace} (h : DataW.trod enc Tryd.prog W 0 (fun _ => true) true fuel 54 [.slice p n c] = some x) :
    ∃ l : List Int, l.length = n ∧ SlAt [allOf W] p (iVs l) ∧ n ≤ 9223372036854775807 := by
  obtain ⟨l, h1, h2, _, h3, _⟩ := rd_slice (e := 3) (sz := 1) (by kernel_rfl) h (fun z : Int => [Value.int .i64 z]) (fun z => -9223372036854775808 ≤ z ∧ z ≤ 9223372036854775807) (by kernel_rfl) (by decide) (fun _ => rfl) (fun _ _ _ h => read_i1 h)
  rw [iV_flat] at h2
  exact ⟨l, h1, h2, h3⟩
def es5 : List (String × List UInt8) := [("timbre/api.ErrShort", [116, 105, 109, 98, 114, 101, 58, 32, 116, 111, 111, 32, 115, 104, 111, 114, 116]), ("timbre/api.ErrVarint", [116, 105, 109, 98, 114, 101, 58, 32, 118, 97, 114, 105, 110, 116]), ("timbre/api.ErrLimit", [116, 105, 109, 98, 114, 101, 58, 32, 108, 105, 109, 105, 116]), ("timbre/api.ErrTail", [116, 105, 109, 98, 114, 101, 58, 32, 116, 97, 105, 108]), ("timbre/api.ErrNumber", [116, 105, 109, 98, 114, 101, 58, 32, 110, 117, 109, 98, 101, 114])]
theorem of_laid5 {W : World} (h : laidMetH Tryd.prog (es5.map (errItem "*errors.errorString") ++ []) W) : ∃ E, Er [allOf W] E := by
  rw [MakeChecks.laidMetH_plain _ _ _ (by kernel_rfl)] at h
  obtain ⟨ps, hv, _, hrows⟩ := h
  obtain ⟨A, q, _, hq, _, hall⟩ := errs_laid errT es5 _ ps (by kernel_rfl) hv hrows
  exact ⟨fun n => .iface 163 (.pointer (some (A.getD (if n = 13 then 4 else n - 1) ⟨0, 0, none⟩))), fun _ _ _ => ⟨rfl, rfl⟩, gerr_at (hall 0 _ _ rfl) (by kernel_rfl), gerr_at (hall 1 _ _ rfl) (by kernel_rfl), gerr_at (hall 2 _ _ rfl) (by kernel_rfl), gerr_at (hall 3 _ _ rfl) (by kernel_rfl), gerr_at (hall 4 _ _ rfl) (by kernel_rfl)⟩
theorem packOneForm_contract (H : Type) (enc : TypeId × Value → H) (W : World) (base : Nat) (args : Array Value) (ds gs : List (DataW H)) (before : List MemPlace)
    (hval : ∀ (j : Nat) t v, Tryd.f6.params[j]? = some t → args[j]? = some v → Value.okWide Tryd.prog W .any base t v)
    (hW : DataW.Whole enc Tryd.prog Tryd.f6.params.toList Rows.packOneFormSpec.vars false W args.toList ds gs before) (hk : Rows.uptoSmall H (ds ++ gs) = true) (hL : laidMetH Tryd.prog Rows.packOneFormUptoRow.laid W) :
    Calls Tryd.prog 6 args W fun e W' => ∃ v, e = .returned v ∧ Rows.packOneFormSpec.post enc Tryd.prog Tryd.f6 false true false false W args v W' := by
  have hW' := hW
  obtain ⟨p, q, hA0, hV, rfl, hfz, hnd⟩ := hW
  have hA : DataW.TrodAll enc Tryd.prog W 0 (fun _ => true) true Tryd.f6.params.toList args.toList ds p := hA0
  rw [Tryd.params6] at hA hval
  obtain ⟨rfl, rfl⟩ := trodVars_none hV
  have hL2 := of_laid5 hL
  obtain ⟨v0, v1, d0, d1, p0, p1, rfl, rfl, rfl, h0, h1⟩ := trodAll_two hA
  obtain ⟨pabs, nbs, cbs, rfl⟩ := okWide_slice (e := 5) (by kernel_rfl) (hval 0 _ v0 rfl rfl)
  obtain ⟨fubs, hfbs⟩ := h0
  obtain ⟨bs, rfl, slbs, lebs, bubs⟩ := read_bytes hfbs
  have hsm := slice_small (List.mem_append_left _ List.mem_cons_self) (bulk_small hk) bubs
  obtain ⟨hbc, hsp⟩ := rd_spot (e := 5) (by kernel_rfl) hfbs (Nat.lt_of_lt_of_eq Nat.zero_lt_one (show 1 = Tryd.prog.cellsOf 5 by kernel_rfl))
  obtain ⟨pak, nk, ck, rfl⟩ := okWide_slice (e := 3) (by kernel_rfl) (hval 1 _ v1 rfl rfl)
  obtain ⟨fuk, hfk⟩ := h1
  obtain ⟨ks, rfl, slk, lek⟩ := read_ints hfk
  obtain ⟨E, hE⟩ := hL2
  exact calls_true (tb := 4) laidOut (PackOneForm_b (Hp.start W) hE slbs (by omega) hbc hsp slk lek) (by kernel_rfl) (by rfl) (by kernel_rfl) rfl hW' rfl
theorem packOneForm_met (os : Os) : laidMetH Tryd.prog Rows.packOneFormUptoRow.laid ((World.doorLaid Tryd.prog 370 os).forCall (fun _ _ => 0) ⟨#[], #[.slice none 0 0, .slice none 0 0], []⟩).memory := by
  rw [MakeChecks.laidMetH_plain _ _ _ (by kernel_rfl)]
  exact laidMet_of_run' 8 (by kernel_rfl) (by kernel_rfl)
theorem packOneForm_reads (os : Os) {H : Type} (enc : TypeId × Value → H) : ∃ places, DataW.whole enc Tryd.prog ((World.doorLaid Tryd.prog 370 os).forCall (fun _ _ => 0) ⟨#[], #[.slice none 0 0, .slice none 0 0], []⟩).memory Tryd.f6.params.toList Rows.packOneFormSpec.vars false (#[.slice none 0 0, .slice none 0 0] : Array Value).toList 8 = some ([.nil, .nil], [], places) :=
  ⟨[], by kernel_rfl⟩
theorem packOneForm_lifted (os : Os) (started : os.Started) (H : Type) (enc : TypeId × Value → H) (F : Stop.Interp) :
    ReturnsInHanded {} Tryd.checked os 6 .any ((Rows.OpenSpec.upto Rows.packOneFormSpec).preRow enc Tryd.prog Tryd.f6 Rows.packOneFormUptoRow.domain false Rows.packOneFormUptoRow.laid) (((Rows.OpenSpec.upto Rows.packOneFormSpec).at F).post enc Tryd.prog Tryd.f6 false true false false) := by
  obtain ⟨places, hx⟩ := packOneForm_reads os enc
  refine returnsInHanded_of_row (C := Tryd.checked) (s := (Rows.OpenSpec.upto Rows.packOneFormSpec)) own started (by kernel_rfl) Tryd.func6
    (witness_row_atRef (enc := enc) (C := Tryd.checked) false (World.doorLaid Tryd.prog 370 os) #[.slice none 0 0, .slice none 0 0] rfl (by kernel_rfl) (by kernel_rfl) (by kernel_rfl)
      (OpenSpec.preRow_of_cond 8 hx (by kernel_rfl) (fun k hk => by cases hk; kernel_rfl) (by kernel_rfl) (packOneForm_met os))) ?_
  intro W base args ds gs before hval hW _ hc _ hL _ _
  exact packOneForm_contract H enc W base args ds gs before hval hW (hc _ rfl) hL
theorem packOneForm_said : Rows.PackOneFormUptoSaid :=
  OpenClaim.holds_of_cond 6 Tryd.f6 rfl rfl rfl rfl rfl rfl rfl ⟨rfl, rfl, rfl, rfl, rfl⟩ rfl rfl rfl rfl rfl (by kernel_rfl) Tryd.func6 (by kernel_rfl)
    (of_decide_eq_true (by kernel_rfl)) (by unfold Func.isWrapper; first | (rw [if_pos (by decide +kernel)]; kernel_rfl) | (rw [if_neg (by decide +kernel)]; exact ⟨rfl, rfl⟩))
    (fun os started H enc _ F => by rw [OpenClaim.pre_eq_preRow]; exact packOneForm_lifted os started H enc F)
theorem packOneForm_plain (f : FuncId) (fn : Func) (hf : Tryd.pinned.checked.prog.funcNamed "timbre/timbrelaw04.PackOneForm" = some f) (hfn : Tryd.pinned.checked.prog.funcs[f]? = some fn) :
    true = Tryd.pinned.checked.prog.looks [] ∧ ∀ (j : Nat) t, fn.params[j]? = some t → Tryd.pinned.checked.prog.wantsStandIn t = false := by
  obtain rfl : f = 6 := Option.some.inj ((show Tryd.prog.funcNamed "timbre/timbrelaw04.PackOneForm" = some 6 by kernel_rfl).symm.trans hf) |>.symm
  obtain rfl : fn = Tryd.f6 := (Option.some.inj (Tryd.func6.symm.trans hfn)).symm
  refine ⟨by kernel_rfl, fun j t ht => ?_⟩
  have hall : (Tryd.f6.params.toList.all fun t => !Tryd.prog.wantsStandIn t) = true := by kernel_rfl
  have := List.all_eq_true.1 hall t (by simpa using Array.mem_of_getElem? ht)
  have h2 : Tryd.prog.wantsStandIn t = false := by simpa using this
  exact h2
/-- The statement's card. -/
theorem packOneForm_card : Rows.PackOneFormUptoCardSaid :=
  Claim7.holds_tied_plain_at .later [] _ _ _ _ packOneForm_said (fun _ h => by cases h) (by kernel_rfl) (fun _ h => by cases h) packOneFormUpto_row_tie rfl ⟨rfl, rfl⟩ (by kernel_rfl) rfl packOneForm_plain (by kernel_rfl)
end Go.Proofs.YtippfdnjhcpekaaDoor

/- every call over two Tables answers what the document answers, in every order: the given statement TablesPlays holds for every script. -/
import Derived.Test.YtmppcnbkfjeabaaDoorRw
import Derived.Test.YtmppcnbkfjeabaaDoorPy
namespace Go.Proofs.YtmppcnbkfjeabaaDoor
open Go Go.Eng
set_option maxRecDepth 100000
set_option linter.unusedVariables false
set_option linter.unusedSimpArgs false
open Go.ChangeShapes Go.WideShapes Go.ChangeAt Go.RowKit
variable {H : Type} {enc : TypeId × Value → H} {W : World}
theorem list4 {l : List Value} (h : l.length = 4) : ∃ a b c d, l = [a, b, c, d] := by
  match l, h with
  | [a, b, c, d], _ => exact ⟨a, b, c, d, rfl⟩
theorem read_op {fuel : Nat} {cs : List Value} {y : DataW H × List MemPlace} (h : DataW.trod enc Tryd.prog W 0 (fun _ => true) true fuel 51 cs = some y) : ∃ o : OpR, cs = o.v ∧ i64ok o.k := by
  obtain ⟨m0, y0, _, h0, _, _, hl⟩ := rd_field (i := 0) (u := 3) (off := 0) (n := 1) h (by kernel_rfl)
  obtain ⟨m1, y1, _, h1, _, _, _⟩ := rd_field (i := 1) (u := 4) (off := 1) (n := 1) h (by kernel_rfl)
  obtain ⟨m2, y2, _, h2, _, _, _⟩ := rd_field (i := 2) (u := 3) (off := 2) (n := 1) h (by kernel_rfl)
  obtain ⟨m3, y3, _, h3, _, _, _⟩ := rd_field (i := 3) (u := 3) (off := 3) (n := 1) h (by kernel_rfl)
  obtain ⟨c0, c1, c2, c3, rfl⟩ := list4 (hl.trans (by kernel_rfl))
  have hk : Program.underlying Tryd.prog 3 = some (.int .i64) := by kernel_rfl
  obtain ⟨z0, rfl, w0⟩ := rd_int hk h0
  obtain ⟨z1, e1, _⟩ := DataW.trod_bool (by kernel_rfl) h1
  obtain ⟨z2, rfl, w2⟩ := rd_int hk h2
  obtain ⟨z3, rfl, w3⟩ := rd_int hk h3
  obtain rfl : c1 = .bool z1 := by simpa using e1
  exact ⟨⟨z0, z1, z2, z3⟩, rfl, wf_i64 w3⟩
theorem read_ops {fuel n c : Nat} {p : Option Addr} {x : DataW H × List MemPlace} (h : DataW.trod enc Tryd.prog W 0 (fun _ => true) true fuel 45 [.slice p n c] = some x) :
    ∃ l : List OpR, l.length = n ∧ SlAt [allOf W] p (opsV l) ∧ n ≤ 9223372036854775807 ∧ ∀ o ∈ l, i64ok o.k := by
  obtain ⟨l, h1, h2, h4, h3, _⟩ := rd_slice (e := 51) (sz := 4) (by kernel_rfl) h OpR.v (fun o => i64ok o.k) (by kernel_rfl) (by decide) (fun _ => rfl) (fun _ _ _ h => read_op h)
  exact ⟨l, h1, h2, h3, h4⟩
theorem tablesPlays_contract (H : Type) (enc : TypeId × Value → H) (W : World) (base : Nat) (args : Array Value) (ds gs : List (DataW H)) (before : List MemPlace)
    (hval : ∀ (j : Nat) t v, Tryd.f5.params[j]? = some t → args[j]? = some v → Value.okWide Tryd.prog W .any base t v)
    (hW : DataW.Whole enc Tryd.prog Tryd.f5.params.toList Rows.tablesPlaysSpec.vars false W args.toList ds gs before) (hL : laidMetH Tryd.prog Rows.tablesPlaysRow.laid W) :
    Calls Tryd.prog 5 args W fun e W' => ∃ v, e = .returned v ∧ Rows.tablesPlaysSpec.post enc Tryd.prog Tryd.f5 false true false false W args v W' := by
  have hW' := hW
  obtain ⟨p, q, hA0, hV, rfl, hfz, hnd⟩ := hW
  have hA : DataW.TrodAll enc Tryd.prog W 0 (fun _ => true) true Tryd.f5.params.toList args.toList ds p := hA0
  rw [Tryd.params5] at hA hval
  obtain ⟨rfl, rfl⟩ := trodVars_none hV
  have hL2 := of_laid19 hL
  obtain ⟨v0, d0, rfl, rfl, h0⟩ := trodAll_one hA
  obtain ⟨paos, nos, cos, rfl⟩ := okWide_slice (e := 51) (by kernel_rfl) (hval 0 _ v0 rfl rfl)
  obtain ⟨fuos, hfos⟩ := h0
  obtain ⟨os, rfl, slos, leos, okos⟩ := read_ops hfos
  obtain ⟨E, Q, hE⟩ := hL2
  exact calls_true (tb := 4) laidOut (TablesPlays_b (Hp.start W) hE slos leos okos) (by kernel_rfl) (by rfl) (by kernel_rfl) rfl hW' rfl
theorem tablesPlays_met (os : Os) : laidMetH Tryd.prog Rows.tablesPlaysRow.laid ((World.doorLaid Tryd.prog 370 os).forCall (fun _ _ => 0) ⟨#[], #[.slice none 0 0], []⟩).memory := by
  rw [MakeChecks.laidMetH_plain _ _ _ (by kernel_rfl)]
  exact laidMet_of_run' 8 (by kernel_rfl) (by kernel_rfl)
theorem tablesPlays_reads (os : Os) {H : Type} (enc : TypeId × Value → H) : ∃ places, DataW.whole enc Tryd.prog ((World.doorLaid Tryd.prog 370 os).forCall (fun _ _ => 0) ⟨#[], #[.slice none 0 0], []⟩).memory Tryd.f5.params.toList Rows.tablesPlaysSpec.vars false (#[.slice none 0 0] : Array Value).toList 8 = some ([.nil], [], places) :=
  ⟨[], by kernel_rfl⟩
theorem tablesPlays_lifted (os : Os) (started : os.Started) (H : Type) (enc : TypeId × Value → H) (F : Stop.Interp) :
    ReturnsInHanded {} Tryd.checked os 5 .any ((OpenSpec.ofChange Rows.tablesPlaysSpec).preRow enc Tryd.prog Tryd.f5 Rows.tablesPlaysRow.domain false Rows.tablesPlaysRow.laid) (((OpenSpec.ofChange Rows.tablesPlaysSpec).at F).post enc Tryd.prog Tryd.f5 false true false false) := by
  obtain ⟨places, hx⟩ := tablesPlays_reads os enc
  refine returnsInHanded_of_row (C := Tryd.checked) (s := (OpenSpec.ofChange Rows.tablesPlaysSpec)) own started (by kernel_rfl) Tryd.func5
    (witness_row_atRef (enc := enc) (C := Tryd.checked) false (World.doorLaid Tryd.prog 370 os) #[.slice none 0 0] rfl (by kernel_rfl) (by kernel_rfl) (by kernel_rfl)
      (OpenSpec.preRow_of_cond 8 hx (by kernel_rfl) (fun k hk => by cases hk) (by kernel_rfl) (tablesPlays_met os))) ?_
  intro W base args ds gs before hval hW _ _ _ hL _ _
  exact tablesPlays_contract H enc W base args ds gs before hval hW hL
theorem tablesPlays_said : Rows.TablesPlaysSaid :=
  OpenClaim.holds_of_cond 5 Tryd.f5 rfl rfl rfl rfl rfl rfl rfl ⟨rfl, rfl, rfl, rfl, rfl⟩ rfl rfl rfl rfl rfl (by kernel_rfl) Tryd.func5 (by kernel_rfl)
    (of_decide_eq_true (by kernel_rfl)) (by unfold Func.isWrapper; first | (rw [if_pos (by decide +kernel)]; kernel_rfl) | (rw [if_neg (by decide +kernel)]; exact ⟨rfl, rfl⟩))
    (fun os started H enc _ F => by rw [OpenClaim.pre_eq_preRow]; exact tablesPlays_lifted os started H enc F)
theorem tablesPlays_plain (f : FuncId) (fn : Func) (hf : Tryd.pinned.checked.prog.funcNamed "timbre/timbrelaw08.TablesPlays" = some f) (hfn : Tryd.pinned.checked.prog.funcs[f]? = some fn) :
    true = Tryd.pinned.checked.prog.looks [] ∧ ∀ (j : Nat) t, fn.params[j]? = some t → Tryd.pinned.checked.prog.wantsStandIn t = false := by
  obtain rfl : f = 5 := Option.some.inj ((show Tryd.prog.funcNamed "timbre/timbrelaw08.TablesPlays" = some 5 by kernel_rfl).symm.trans hf) |>.symm
  obtain rfl : fn = Tryd.f5 := (Option.some.inj (Tryd.func5.symm.trans hfn)).symm
  refine ⟨by kernel_rfl, fun j t ht => ?_⟩
  have hall : (Tryd.f5.params.toList.all fun t => !Tryd.prog.wantsStandIn t) = true := by kernel_rfl
  have := List.all_eq_true.1 hall t (by simpa using Array.mem_of_getElem? ht)
  have h2 : Tryd.prog.wantsStandIn t = false := by simpa using this
  exact h2
/-- The statement's card. -/
theorem tablesPlays_card : Rows.TablesPlaysCardSaid :=
  Claim7.holds_tied_plain_at .later [] _ _ _ _ tablesPlays_said (fun _ h => by cases h) (by kernel_rfl) (fun _ h => by cases h) tablesPlays_row_tie rfl ⟨rfl, rfl⟩ (by kernel_rfl) rfl tablesPlays_plain (by kernel_rfl)
end Go.Proofs.YtmppcnbkfjeabaaDoor

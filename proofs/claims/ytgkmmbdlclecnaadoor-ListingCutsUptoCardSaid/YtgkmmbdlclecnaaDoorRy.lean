/- What the rows of ListingBack and ListingCuts give. -/
import Derived.Test.YtgkmmbdlclecnaaDoorRx
import Derived.Test.YtgkmmbdlclecnaaDoorBk
namespace Go.Proofs.YtgkmmbdlclecnaaDoor
open Go Go.Eng
set_option maxRecDepth 100000
set_option linter.unusedVariables false
set_option linter.unusedSimpArgs false
open Go.ChangeShapes Go.WideShapes Go.ChangeAt Go.RowKit
def es4 : List (String × List UInt8) := [("strconv.ErrRange", [118, 97, 108, 117, 101, 32, 111, 117, 116, 32, 111, 102, 32, 114, 97, 110, 103, 101]), ("strconv.ErrSyntax", [105, 110, 118, 97, 108, 105, 100, 32, 115, 121, 110, 116, 97, 120]), ("timbre/api.ErrText", [116, 105, 109, 98, 114, 101, 58, 32, 116, 101, 120, 116]), ("timbre/api.ErrProgram", [116, 105, 109, 98, 114, 101, 58, 32, 112, 114, 111, 103, 114, 97, 109])]
theorem of_laidB {W : World} (hsh : W.ShapedOpen Tryd.prog) (h : laidMetH Tryd.prog ([("math/bits.deBruijn32tab", Rows.laid_math_bits_deBruijn32tab), ("math/bits.deBruijn64tab", Rows.laid_math_bits_deBruijn64tab), ("internal/strconv.uint64pow10", Rows.laid_internal_strconv_uint64pow10), ("unicode/utf8.acceptRanges", Rows.laid_unicode_utf8_acceptRanges)] ++ (es4.map (errItem "*errors.errorString") ++ [("timbre/steps.table", Rows.laid_timbre_steps_table), ("unicode/utf8.first", Rows.laid_unicode_utf8_first)])) W) : ∃ E Q, E69 [allOf W] E Q ∧ SlAt [allOf W] (some ⟨19, 0, none⟩) tableC ∧ GTab [allOf W] ∧ RdG [allOf W] := by
  rw [MakeChecks.laidMetH_plain _ _ _ (by kernel_rfl)] at h
  obtain ⟨ps, hq, _, hrows⟩ := h
  obtain ⟨g0, t0, cs0, fuel0, p0, q0, hg0, ht0, hv0, hd0, hq, rfl⟩ := hq
  obtain ⟨g1, t1, cs1, fuel1, p1, q1, hg1, ht1, hv1, hd1, hq, rfl⟩ := hq
  obtain ⟨g2, t2, cs2, fuel2, p2, q2, hg2, ht2, hv2, hd2, hq, rfl⟩ := hq
  obtain ⟨g3, t3, cs3, fuel3, p3, q3, hg3, ht3, hv3, hd3, hq, rfl⟩ := hq
  have hgg2 : Tryd.prog.globalNamed "internal/strconv.uint64pow10" = some 21 := by kernel_rfl
  obtain rfl := Option.some.inj (hgg2.symm.trans hg2)
  obtain rfl := Option.some.inj ((show (Tryd.prog.globals[21]?).map (·.type) = some 115 by kernel_rfl).symm.trans ht2)
  obtain ⟨T2, fz2, hm2⟩ := mem_of_var hgg2 hv2
  have hc2 := flat_trod 5 _ _ _ _ (by kernel_rfl) hd2
  have hpow : GTab [allOf W] := ⟨T2, fz2, by
    have e : cs2 = (Lib.pow10Tab.map fun z => Value.int .u64 z).toArray := by
      rw [← Array.toArray_toList (xs := cs2), hc2]
      rfl
    rw [← e]; exact hm2⟩
  obtain ⟨A, q, _, hq, _, hall⟩ := errs_laid errT es4 _ _ (by kernel_rfl) hq (fun b off hm => hrows b off (List.mem_append_right _ (List.mem_append_right _ (List.mem_append_right _ (List.mem_append_right _ hm)))))
  obtain ⟨g5, t5, cs5, fuel5, p5, q5, hg5, ht5, hv5, hd5, hq, _⟩ := hq
  have hgg5 : Tryd.prog.globalNamed "timbre/steps.table" = some 19 := by kernel_rfl
  obtain rfl := Option.some.inj (hgg5.symm.trans hg5)
  obtain rfl := Option.some.inj ((show (Tryd.prog.globals[19]?).map (·.type) = some 91 by kernel_rfl).symm.trans ht5)
  have hs5 := slAt_of_var hgg5 hv5
  rw [flat_trod 5 _ _ _ _ (by kernel_rfl) hd5] at hs5
  have hrd : RdG [allOf W] := ⟨maxLen_of hsh, ⟨_, gerr_at (hall 1 _ _ rfl) (by kernel_rfl)⟩, ⟨_, gerr_at (hall 0 _ _ rfl) (by kernel_rfl)⟩⟩
  exact ⟨fun n => .iface 143 (.pointer (some (A.getD (if n = 6 then 2 else 3) ⟨0, 0, none⟩))), fun n => A.getD (if n = 6 then 2 else 3) ⟨0, 0, none⟩,
    ⟨gerr_at (hall 2 _ _ rfl) (by kernel_rfl), gerr_at (hall 3 _ _ rfl) (by kernel_rfl), (errAt_at (hall 2 _ _ rfl)).1, (errAt_at (hall 3 _ _ rfl)).1⟩, hs5, hpow, hrd⟩
variable {H : Type} {enc : TypeId × Value → H} {W : World}
theorem prg_spot {fuel : Nat} {p : Prg} {pp : Option Addr} {n pc : Nat} {x : DataW H × List MemPlace} (h : DataW.trod enc Tryd.prog W 0 (fun _ => true) true fuel 24 (prgV p pp n pc) = some x) : n ≤ pc ∧ ∀ a, pp = some a → a.spot = none ∨ pc = 0 := by
  obtain ⟨m4, y4, ds, h4, _, _, _⟩ := rd_field (i := 4) (u := 22) (off := 4) (n := 1) h (by kernel_rfl)
  exact rd_spot (t := 22) (e := 26) (by kernel_rfl) h4 (Nat.lt_of_lt_of_eq (by decide : 0 < 7) (show 7 = Program.cellsOf Tryd.prog 26 by kernel_rfl))
end Go.Proofs.YtgkmmbdlclecnaaDoor

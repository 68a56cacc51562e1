/- What the rows give: the listed variables, the witness. -/
import Derived.Test.YtnbbeghaeijcbaaDoorLw5
import Derived.Test.YtnbbeghaeijcbaaDoorCards
import Derived.Test.YtnbbeghaeijcbaaDoorTie
import Derived.LaidMore
import Derived.MakeChecks
import Derived.LaidHandle
namespace Go.Proofs.YtnbbeghaeijcbaaDoor
open Go Go.Eng
set_option maxRecDepth 100000
open Go.ChangeShapes Go.WideShapes Go.ChangeAt Go.RowKit
theorem own : ownKnob Tryd.prog.godebug = none := by kernel_rfl
theorem laidOut : laidOutB Tryd.prog = true := by kernel_rfl
theorem errRow (u : TypeId) (h : Tryd.prog.typeName? 3 u = some "*errors.errorString") : u = 111 :=
  typeName_ptr_named (nm := "errors.errorString") (by kernel_rfl) (by kernel_rfl) (by decide) u h
theorem errT : ErrType Tryd.prog "*errors.errorString" 29 111 129 9 := ErrType.of (by kernel_rfl) errRow
def es5 : List (String × List UInt8) := [("timbre/api.ErrShort", [116, 105, 109, 98, 114, 101, 58, 32, 116, 111, 111, 32, 115, 104, 111, 114, 116]), ("timbre/api.ErrVarint", [116, 105, 109, 98, 114, 101, 58, 32, 118, 97, 114, 105, 110, 116]), ("timbre/api.ErrLimit", [116, 105, 109, 98, 114, 101, 58, 32, 108, 105, 109, 105, 116]), ("timbre/api.ErrTail", [116, 105, 109, 98, 114, 101, 58, 32, 116, 97, 105, 108]), ("timbre/api.ErrProgram", [116, 105, 109, 98, 114, 101, 58, 32, 112, 114, 111, 103, 114, 97, 109])]
theorem of_laid5 {W : World} (h : laidMetH Tryd.prog (es5.map (errItem "*errors.errorString") ++ [("timbre/steps.table", Rows.laid_timbre_steps_table)]) W) : ∃ E, E5 [allOf W] E ∧ SlAt [allOf W] (some ⟨1, 0, none⟩) tableC := by
  rw [MakeChecks.laidMetH_plain _ _ _ (by kernel_rfl)] at h
  obtain ⟨ps, hv, _, hrows⟩ := h
  obtain ⟨A, q, _, hq, _, hall⟩ := errs_laid errT es5 _ ps (by kernel_rfl) hv hrows
  obtain ⟨g0, t0, cs0, fuel0, p0, q0, hg0, ht0, hv0, hd0, hq, _⟩ := hq
  have hgg0 : Tryd.prog.globalNamed "timbre/steps.table" = some 1 := by kernel_rfl
  obtain rfl := Option.some.inj (hgg0.symm.trans hg0)
  obtain rfl := Option.some.inj ((show (Tryd.prog.globals[1]?).map (·.type) = some 95 by kernel_rfl).symm.trans ht0)
  have hs0 := slAt_of_var hgg0 hv0
  rw [flat_trod 5 _ _ _ _ (by kernel_rfl) hd0] at hs0
  refine ⟨fun n => .iface 111 (.pointer (some (A.getD (if n = 9 then 4 else n - 1) ⟨0, 0, none⟩))), ⟨?_, ?_, ?_, ?_, ?_⟩, hs0⟩
  · exact gerr_at (hall 0 _ _ rfl) (by kernel_rfl)
  · exact gerr_at (hall 1 _ _ rfl) (by kernel_rfl)
  · exact gerr_at (hall 2 _ _ rfl) (by kernel_rfl)
  · exact gerr_at (hall 3 _ _ rfl) (by kernel_rfl)
  · exact gerr_at (hall 4 _ _ rfl) (by kernel_rfl)
def es19 : List (String × List UInt8) := [("timbre/api.ErrShort", [116, 105, 109, 98, 114, 101, 58, 32, 116, 111, 111, 32, 115, 104, 111, 114, 116]), ("timbre/api.ErrVarint", [116, 105, 109, 98, 114, 101, 58, 32, 118, 97, 114, 105, 110, 116]), ("timbre/api.ErrLimit", [116, 105, 109, 98, 114, 101, 58, 32, 108, 105, 109, 105, 116]), ("timbre/api.ErrTail", [116, 105, 109, 98, 114, 101, 58, 32, 116, 97, 105, 108]), ("timbre/api.ErrRange", [116, 105, 109, 98, 114, 101, 58, 32, 114, 97, 110, 103, 101]), ("timbre/api.ErrText", [116, 105, 109, 98, 114, 101, 58, 32, 116, 101, 120, 116]), ("timbre/api.ErrLength", [116, 105, 109, 98, 114, 101, 58, 32, 108, 101, 110, 103, 116, 104]), ("timbre/api.ErrOrder", [116, 105, 109, 98, 114, 101, 58, 32, 111, 114, 100, 101, 114]), ("timbre/api.ErrProgram", [116, 105, 109, 98, 114, 101, 58, 32, 112, 114, 111, 103, 114, 97, 109]), ("timbre/api.ErrState", [116, 105, 109, 98, 114, 101, 58, 32, 115, 116, 97, 116, 101]), ("timbre/api.ErrRoot", [116, 105, 109, 98, 114, 101, 58, 32, 114, 111, 111, 116]), ("timbre/api.ErrPerm", [116, 105, 109, 98, 114, 101, 58, 32, 112, 101, 114, 109, 117, 116, 97, 116, 105, 111, 110]), ("timbre/api.ErrNumber", [116, 105, 109, 98, 114, 101, 58, 32, 110, 117, 109, 98, 101, 114]), ("timbre/api.ErrWorkers", [116, 105, 109, 98, 114, 101, 58, 32, 119, 111, 114, 107, 101, 114, 115]), ("timbre/api.ErrDone", [116, 105, 109, 98, 114, 101, 58, 32, 100, 111, 110, 101]), ("timbre/api.ErrUnknown", [116, 105, 109, 98, 114, 101, 58, 32, 117, 110, 107, 110, 111, 119, 110]), ("timbre/api.ErrMode", [116, 105, 109, 98, 114, 101, 58, 32, 109, 111, 100, 101]), ("timbre/api.ErrCommand", [116, 105, 109, 98, 114, 101, 58, 32, 99, 111, 109, 109, 97, 110, 100]), ("timbre/api.ErrExact", [116, 105, 109, 98, 114, 101, 58, 32, 101, 120, 97, 99, 116])]
theorem names19 {n : Nat} (h0 : 1 ≤ n) (h1 : n ≤ 19) : ∃ nm txt, es19[n - 1]? = some (nm, txt) ∧ Tryd.prog.globalNamed nm = some ((errG[n]?).getD 0) := by
  have : n = 1 ∨ n = 2 ∨ n = 3 ∨ n = 4 ∨ n = 5 ∨ n = 6 ∨ n = 7 ∨ n = 8 ∨ n = 9 ∨ n = 10 ∨ n = 11 ∨ n = 12 ∨ n = 13 ∨ n = 14 ∨ n = 15 ∨ n = 16 ∨ n = 17 ∨ n = 18 ∨ n = 19 := by omega
  rcases this with rfl | rfl | rfl | rfl | rfl | rfl | rfl | rfl | rfl | rfl | rfl | rfl | rfl | rfl | rfl | rfl | rfl | rfl | rfl <;> exact ⟨_, _, rfl, by kernel_rfl⟩
theorem texts19 : ∀ i j : Fin 19, (es19[i.val]?).map (·.2) = (es19[j.val]?).map (·.2) → i = j := by decide
theorem of_laid19 {W : World} (h : laidMetH Tryd.prog (es19.map (errItem "*errors.errorString") ++ [("timbre/steps.table", Rows.laid_timbre_steps_table)]) W) : ∃ E Q, Errs [allOf W] E Q ∧ SlAt [allOf W] (some ⟨1, 0, none⟩) tableC := by
  rw [MakeChecks.laidMetH_plain _ _ _ (by kernel_rfl)] at h
  obtain ⟨ps, hv, _, hrows⟩ := h
  obtain ⟨A, q, _, hq, _, hall⟩ := errs_laid errT es19 _ ps (by kernel_rfl) hv hrows
  obtain ⟨g0, t0, cs0, fuel0, p0, q0, hg0, ht0, hv0, hd0, hq, _⟩ := hq
  have hgg0 : Tryd.prog.globalNamed "timbre/steps.table" = some 1 := by kernel_rfl
  obtain rfl := Option.some.inj (hgg0.symm.trans hg0)
  obtain rfl := Option.some.inj ((show (Tryd.prog.globals[1]?).map (·.type) = some 95 by kernel_rfl).symm.trans ht0)
  have hs0 := slAt_of_var hgg0 hv0
  rw [flat_trod 5 _ _ _ _ (by kernel_rfl) hd0] at hs0
  refine ⟨fun n => .iface 111 (.pointer (some (A.getD (n - 1) ⟨0, 0, none⟩))), fun n => A.getD (n - 1) ⟨0, 0, none⟩, ⟨fun n h0 h1 => ?_, fun n h0 h1 => ?_, fun n m h0 h1 k0 k1 he => ?_⟩, hs0⟩
  · obtain ⟨nm, txt, hn, hg⟩ := names19 h0 h1
    exact gerr_at (hall _ _ _ hn) hg
  · obtain ⟨nm, txt, hn, hg⟩ := names19 h0 h1
    exact (errAt_at (hall _ _ _ hn)).1
  · obtain ⟨nm, txt, hn, _⟩ := names19 h0 h1
    obtain ⟨nm', txt', hn', _⟩ := names19 k0 k1
    obtain ⟨_, s, hs1, hs2⟩ := errAt_at (hall _ _ _ hn)
    obtain ⟨_, s', hs1', hs2'⟩ := errAt_at (hall _ _ _ hn')
    rw [← he, hs1] at hs1'
    cases hs1'
    have := texts19 ⟨n - 1, by omega⟩ ⟨m - 1, by omega⟩ (by simp only [hn, hn']; rw [← hs2, ← hs2']; rfl)
    simp only [Fin.mk.injEq] at this
    omega
end Go.Proofs.YtnbbeghaeijcbaaDoor

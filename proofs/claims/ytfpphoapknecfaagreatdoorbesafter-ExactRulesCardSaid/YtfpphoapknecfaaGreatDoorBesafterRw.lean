/- What the rows give: the listed variables, the witness. -/
import Derived.Test.YtfpphoapknecfaaGreatDoorBesafterBy
import Derived.Test.YtfpphoapknecfaaGreatDoorBesafterCards
import Derived.Test.YtfpphoapknecfaaGreatDoorBesafterTie
import Derived.LaidMore
import Derived.MakeChecks
import Derived.LaidHandle
namespace Go.Proofs.YtfpphoapknecfaaGreatDoorBesafter
open Go Go.Eng
set_option maxRecDepth 100000
set_option linter.unusedVariables false
set_option linter.unusedSimpArgs false
open Go.ChangeShapes Go.WideShapes Go.ChangeAt Go.RowKit
theorem own : ownKnob Tryz.prog.godebug = none := by kernel_rfl
theorem laidOut : laidOutB Tryz.prog = true := by kernel_rfl
theorem errRow (u : TypeId) (h : Tryz.prog.typeName? 3 u = some "*errors.errorString") : u = 252 :=
  typeName_ptr_named (nm := "errors.errorString") (by kernel_rfl) (by kernel_rfl) (by decide) u h
theorem errT : ErrType Tryz.prog "*errors.errorString" 25 252 273 9 := ErrType.of (by kernel_rfl) errRow
def es19 : List (String × List UInt8) := [("timbre/api.ErrShort", [116, 105, 109, 98, 114, 101, 58, 32, 116, 111, 111, 32, 115, 104, 111, 114, 116]), ("timbre/api.ErrVarint", [116, 105, 109, 98, 114, 101, 58, 32, 118, 97, 114, 105, 110, 116]), ("timbre/api.ErrLimit", [116, 105, 109, 98, 114, 101, 58, 32, 108, 105, 109, 105, 116]), ("timbre/api.ErrTail", [116, 105, 109, 98, 114, 101, 58, 32, 116, 97, 105, 108]), ("timbre/api.ErrRange", [116, 105, 109, 98, 114, 101, 58, 32, 114, 97, 110, 103, 101]), ("timbre/api.ErrText", [116, 105, 109, 98, 114, 101, 58, 32, 116, 101, 120, 116]), ("timbre/api.ErrLength", [116, 105, 109, 98, 114, 101, 58, 32, 108, 101, 110, 103, 116, 104]), ("timbre/api.ErrOrder", [116, 105, 109, 98, 114, 101, 58, 32, 111, 114, 100, 101, 114]), ("timbre/api.ErrProgram", [116, 105, 109, 98, 114, 101, 58, 32, 112, 114, 111, 103, 114, 97, 109]), ("timbre/api.ErrState", [116, 105, 109, 98, 114, 101, 58, 32, 115, 116, 97, 116, 101]), ("timbre/api.ErrRoot", [116, 105, 109, 98, 114, 101, 58, 32, 114, 111, 111, 116]), ("timbre/api.ErrPerm", [116, 105, 109, 98, 114, 101, 58, 32, 112, 101, 114, 109, 117, 116, 97, 116, 105, 111, 110]), ("timbre/api.ErrNumber", [116, 105, 109, 98, 114, 101, 58, 32, 110, 117, 109, 98, 101, 114]), ("timbre/api.ErrWorkers", [116, 105, 109, 98, 114, 101, 58, 32, 119, 111, 114, 107, 101, 114, 115]), ("timbre/api.ErrDone", [116, 105, 109, 98, 114, 101, 58, 32, 100, 111, 110, 101]), ("timbre/api.ErrUnknown", [116, 105, 109, 98, 114, 101, 58, 32, 117, 110, 107, 110, 111, 119, 110]), ("timbre/api.ErrMode", [116, 105, 109, 98, 114, 101, 58, 32, 109, 111, 100, 101]), ("timbre/api.ErrCommand", [116, 105, 109, 98, 114, 101, 58, 32, 99, 111, 109, 109, 97, 110, 100]), ("timbre/api.ErrExact", [116, 105, 109, 98, 114, 101, 58, 32, 101, 120, 97, 99, 116])]
theorem names19 {n : Nat} (h0 : 1 ≤ n) (h1 : n ≤ 19) : ∃ nm txt, es19[n - 1]? = some (nm, txt) ∧ Tryz.prog.globalNamed nm = some ((errG[n]?).getD 0) := by
  have : n = 1 ∨ n = 2 ∨ n = 3 ∨ n = 4 ∨ n = 5 ∨ n = 6 ∨ n = 7 ∨ n = 8 ∨ n = 9 ∨ n = 10 ∨ n = 11 ∨ n = 12 ∨ n = 13 ∨ n = 14 ∨ n = 15 ∨ n = 16 ∨ n = 17 ∨ n = 18 ∨ n = 19 := by omega
  rcases this with rfl | rfl | rfl | rfl | rfl | rfl | rfl | rfl | rfl | rfl | rfl | rfl | rfl | rfl | rfl | rfl | rfl | rfl | rfl <;> exact ⟨_, _, rfl, by kernel_rfl⟩
theorem texts19 : ∀ i j : Fin 19, (es19[i.val]?).map (·.2) = (es19[j.val]?).map (·.2) → i = j := by decide
theorem of_laid19 {W : World} (h : laidMetH Tryz.prog ([("math/bits.deBruijn32tab", Rows.laid_math_bits_deBruijn32tab), ("math/bits.deBruijn64tab", Rows.laid_math_bits_deBruijn64tab)] ++ (es19.map (errItem "*errors.errorString") ++ [("math/big.leafSize", Rows.laid_math_big_leafSize), ("math/big.divRecursiveThreshold", Rows.laid_math_big_divRecursiveThreshold), ("math/big.karatsubaThreshold", Rows.laid_math_big_karatsubaThreshold), ("math/big.basicSqrThreshold", Rows.laid_math_big_basicSqrThreshold), ("math/big.karatsubaSqrThreshold", Rows.laid_math_big_karatsubaSqrThreshold)])) W) : ∃ E Q, Errs [allOf W] E Q := by
  rw [MakeChecks.laidMetH_plain _ _ _ (by kernel_rfl)] at h
  obtain ⟨ps, hv, _, hrows⟩ := h
  obtain ⟨ga0, ta0, csa0, fa0, pa0, qa0, hga0, hta0, hva0, hda0, hv, rfl⟩ := hv
  replace hrows : ∀ b off, MemPlace.cell b off ∈ qa0 → _ := fun b off hm => hrows b off (List.mem_append_right _ hm)
  obtain ⟨ga1, ta1, csa1, fa1, pa1, qa1, hga1, hta1, hva1, hda1, hv, rfl⟩ := hv
  replace hrows : ∀ b off, MemPlace.cell b off ∈ qa1 → _ := fun b off hm => hrows b off (List.mem_append_right _ hm)
  obtain ⟨A, q, _, hq, _, hall⟩ := errs_laid errT es19 _ _ (by kernel_rfl) hv hrows
  refine ⟨fun n => .iface 252 (.pointer (some (A.getD (n - 1) ⟨0, 0, none⟩))), fun n => A.getD (n - 1) ⟨0, 0, none⟩, ⟨fun n h0 h1 => ?_, fun n h0 h1 => ?_, fun n m h0 h1 k0 k1 he => ?_⟩⟩
  · obtain ⟨nm, txt, hn, hg⟩ := names19 h0 h1
    exact gerr_at (hall _ _ _ hn) hg
  · obtain ⟨nm, txt, hn, hg⟩ := names19 h0 h1
    exact (errAt_at (hall _ _ _ hn)).1
  · obtain ⟨nm, txt, hn, _⟩ := names19 h0 h1
    obtain ⟨nm', txt', hn', _⟩ := names19 k0 k1
    obtain ⟨_, s, hs1, hs2⟩ := errAt_at (hall _ _ _ hn)
    obtain ⟨_, s', hs1', hs2'⟩ := errAt_at (hall _ _ _ hn')
    rw [← he, hs1] at hs1'
    cases hs1'
    have := texts19 ⟨n - 1, by omega⟩ ⟨m - 1, by omega⟩ (by simp only [hn, hn']; rw [← hs2, ← hs2']; rfl)
    simp only [Fin.mk.injEq] at this
    omega
variable {H : Type} {enc : TypeId × Value → H} {W : World}
theorem bulk_mem {d : DataW H} {l : List (DataW H)} (h : d ∈ l) : Rows.uptoBulk d ≤ Rows.uptoBulkAll l := by
  induction l with
  | nil => cases h
  | cons x r ih =>
    simp only [Rows.uptoBulkAll]
    rcases List.mem_cons.1 h with e | e
    · subst e; omega
    · have := ih e; omega
theorem bulk_sum (l : List (DataW H)) : Rows.uptoBulkAll l = (l.map Rows.uptoBulk).sum := by
  induction l with
  | nil => rfl
  | cons x r ih => simp [Rows.uptoBulkAll, ih]
theorem bulk_two : ∀ {l : List (DataW H)} {i j : Nat} {a b : DataW H}, i < j → l[i]? = some a → l[j]? = some b → Rows.uptoBulk a + Rows.uptoBulk b ≤ Rows.uptoBulkAll l
  | [], _, _, _, _, _, h, _ => by simp at h
  | x :: l, 0, j + 1, a, b, _, h, h2 => by
    have h : x = a := by simpa using h
    subst h
    have := bulk_mem (List.mem_of_getElem? (show l[j]? = some b by simpa using h2))
    simp only [Rows.uptoBulkAll]; omega
  | x :: l, i + 1, j + 1, a, b, hij, h, h2 => by
    have := bulk_two (l := l) (i := i) (j := j) (by omega) (by simpa using h) (by simpa using h2)
    simp only [Rows.uptoBulkAll]; omega
theorem bulk_pos (d : DataW H) : 1 ≤ Rows.uptoBulk d := by
  cases d with
  | lit l => cases l <;> simp [Rows.uptoBulk]
  | nil => simp [Rows.uptoBulk]
  | ptr d => simp [Rows.uptoBulk]
  | slice elems spare => simp [Rows.uptoBulk]
  | agg parts => simp [Rows.uptoBulk]
  | iface t d => simp [Rows.uptoBulk]
  | map entries => simp [Rows.uptoBulk]
  | held h => simp [Rows.uptoBulk]
theorem bulk_len (l : List (DataW H)) : l.length ≤ Rows.uptoBulkAll l := by
  induction l with
  | nil => simp [Rows.uptoBulkAll]
  | cons x r ih => have := bulk_pos x; simp only [Rows.uptoBulkAll, List.length_cons]; omega
theorem bulk_slice {es sp : List (DataW H)} : es.length ≤ Rows.uptoBulk (.slice es sp) := by
  have := bulk_len es
  simp only [Rows.uptoBulk]; omega
theorem bulk_small {l : List (DataW H)} (h : Rows.uptoSmall H l = true) : Rows.uptoBulkAll l ≤ 1048576 := of_decide_eq_true h
theorem slice_small {ds : List (DataW H)} {d : DataW H} {n : Nat} (hd : d ∈ ds) (hk : Rows.uptoBulkAll ds ≤ 1048576) (h : n = 0 ∨ ∃ es sp, d = .slice es sp ∧ es.length = n) : n ≤ 1048576 := by
  rcases h with h | ⟨es, sp, rfl, he⟩
  · omega
  · have h1 := bulk_mem hd
    have h3 := bulk_slice (es := es) (sp := sp)
    omega
theorem slice_cell {t e : TypeId} {fuel : Nat} {c : Value} {x : DataW H × List MemPlace} (ht : Program.underlying Tryz.prog t = some (.slice e)) (h : DataW.trod enc Tryz.prog W 0 (fun _ => true) true fuel t [c] = some x) : ∃ p n k, c = .slice p n k := by
  rcases DataW.trod_slice ht h with ⟨h0, _⟩ | ⟨a, len, cap, _, _, _, _, hcs, _⟩
  · exact ⟨_, _, _, by simpa using h0⟩
  · exact ⟨_, _, _, by simpa using hcs⟩
theorem read_l1 {fuel : Nat} {cs : List Value} {y : DataW H × List MemPlace} (h : DataW.trod enc Tryz.prog W 0 (fun _ => true) true fuel 2 cs = some y) : ∃ z : Int, cs = [.int .i64 z] ∧ i64in z := by
  obtain ⟨z, rfl, _, hw⟩ := DataW.trod_int (k := .i64) (by kernel_rfl) h
  have := wf_i64 hw
  exact ⟨z, rfl, by unfold i64in; omega⟩
theorem read_u1 {fuel : Nat} {cs : List Value} {y : DataW H × List MemPlace} (h : DataW.trod enc Tryz.prog W 0 (fun _ => true) true fuel 37 cs = some y) : ∃ z : Nat, cs = [.int .u64 ((z : Nat) : Int)] ∧ z < 18446744073709551616 := by
  obtain ⟨z, rfl, _, hw⟩ := DataW.trod_int (k := .u64) (by kernel_rfl) h
  have := wf_u64 hw
  exact ⟨z.toNat, by rw [Int.toNat_of_nonneg this.1], by omega⟩
theorem uV_flat (l : List Nat) : (l.map fun z => [Value.int .u64 ((z : Nat) : Int)]).flatten = u64sV l := by
  induction l with
  | nil => rfl
  | cons a l ih => simp only [List.map_cons, List.flatten_cons, ih]; rfl
theorem read_u64s {fuel n c : Nat} {p : Option Addr} {x : DataW H × List MemPlace} (h : DataW.trod enc Tryz.prog W 0 (fun _ => true) true fuel 33 [.slice p n c] = some x) :
    ∃ l : List Nat, l.length = n ∧ SlAt [allOf W] p (u64sV l) ∧ (∀ x ∈ l, x < 18446744073709551616) ∧ n ≤ 9223372036854775807 ∧ (n = 0 ∨ ∃ es sp, x.1 = .slice es sp ∧ es.length = n) := by
  obtain ⟨l, h1, h2, h4, h3, h5⟩ := rd_slice (e := 37) (sz := 1) (by kernel_rfl) h (fun z : Nat => [Value.int .u64 ((z : Nat) : Int)]) (fun x => x < 18446744073709551616) (by kernel_rfl) (by decide) (fun _ => rfl) (fun _ _ _ h => read_u1 h)
  rw [uV_flat] at h2
  exact ⟨l, h1, h2, h4, h3, h5⟩
theorem lV_flat (l : List Int) : (l.map fun z => [Value.int .i64 z]).flatten = i64sV l := by
  induction l with
  | nil => rfl
  | cons a l ih => simp only [List.map_cons, List.flatten_cons, ih]; rfl
theorem read_i64s {fuel n c : Nat} {p : Option Addr} {x : DataW H × List MemPlace} (h : DataW.trod enc Tryz.prog W 0 (fun _ => true) true fuel 22 [.slice p n c] = some x) :
    ∃ l : List Int, l.length = n ∧ SlAt [allOf W] p (i64sV l) ∧ i64all l ∧ n ≤ 9223372036854775807 ∧ (n = 0 ∨ ∃ es sp, x.1 = .slice es sp ∧ es.length = n) := by
  obtain ⟨l, h1, h2, h4, h3, h5⟩ := rd_slice (e := 2) (sz := 1) (by kernel_rfl) h (fun z : Int => [Value.int .i64 z]) i64in (by kernel_rfl) (by decide) (fun _ => rfl) (fun _ _ _ h => read_l1 h)
  rw [lV_flat] at h2
  exact ⟨l, h1, h2, h4, h3, h5⟩
end Go.Proofs.YtfpphoapknecfaaGreatDoorBesafter

/- What the rows give: the listed variables, the witness. -/
import Derived.Test.YtinbeaaloailnaaDoorPt
import Derived.Test.YtinbeaaloailnaaDoorCards
import Derived.Test.YtinbeaaloailnaaDoorTie
import Derived.LaidMore
import Derived.MakeChecks
import Derived.LaidHandle
namespace Go.Proofs.YtinbeaaloailnaaDoor
open Go Go.Eng
set_option maxRecDepth 100000
set_option linter.unusedVariables false
set_option linter.unusedSimpArgs false
open Go.ChangeShapes Go.WideShapes Go.ChangeAt Go.RowKit
theorem own : ownKnob Tryd.prog.godebug = none := by kernel_rfl
theorem laidOut : laidOutB Tryd.prog = true := by kernel_rfl
theorem errRow (u : TypeId) (h : Tryd.prog.typeName? 3 u = some "*errors.errorString") : u = 106 :=
  typeName_ptr_named (nm := "errors.errorString") (by kernel_rfl) (by kernel_rfl) (by decide) u h
theorem errT : ErrType Tryd.prog "*errors.errorString" 27 106 122 9 := ErrType.of (by kernel_rfl) errRow
theorem mem_of_var {W : World} {n : String} {g : Nat} {cs : Array Value} (hg : Tryd.prog.globalNamed n = some g) (hv : W.var? Tryd.prog n = some cs) : ∃ T fz, (g, Obj.cells cs T fz) ∈ [allOf W].flatten := by
  unfold World.var? at hv
  rw [hg] at hv
  simp only [Option.bind_some] at hv
  split at hv
  · rename_i c t fz hb
    cases hv
    exact ⟨t, fz, by simpa using allOf_mem hb⟩
  · cases hv
def es3 : List (String × List UInt8) := [("timbre/api.ErrLimit", [116, 105, 109, 98, 114, 101, 58, 32, 108, 105, 109, 105, 116]), ("timbre/api.ErrText", [116, 105, 109, 98, 114, 101, 58, 32, 116, 101, 120, 116]), ("timbre/api.ErrOrder", [116, 105, 109, 98, 114, 101, 58, 32, 111, 114, 100, 101, 114])]
def es19 : List (String × List UInt8) := [("timbre/api.ErrShort", [116, 105, 109, 98, 114, 101, 58, 32, 116, 111, 111, 32, 115, 104, 111, 114, 116]), ("timbre/api.ErrVarint", [116, 105, 109, 98, 114, 101, 58, 32, 118, 97, 114, 105, 110, 116]), ("timbre/api.ErrLimit", [116, 105, 109, 98, 114, 101, 58, 32, 108, 105, 109, 105, 116]), ("timbre/api.ErrTail", [116, 105, 109, 98, 114, 101, 58, 32, 116, 97, 105, 108]), ("timbre/api.ErrRange", [116, 105, 109, 98, 114, 101, 58, 32, 114, 97, 110, 103, 101]), ("timbre/api.ErrText", [116, 105, 109, 98, 114, 101, 58, 32, 116, 101, 120, 116]), ("timbre/api.ErrLength", [116, 105, 109, 98, 114, 101, 58, 32, 108, 101, 110, 103, 116, 104]), ("timbre/api.ErrOrder", [116, 105, 109, 98, 114, 101, 58, 32, 111, 114, 100, 101, 114]), ("timbre/api.ErrProgram", [116, 105, 109, 98, 114, 101, 58, 32, 112, 114, 111, 103, 114, 97, 109]), ("timbre/api.ErrState", [116, 105, 109, 98, 114, 101, 58, 32, 115, 116, 97, 116, 101]), ("timbre/api.ErrRoot", [116, 105, 109, 98, 114, 101, 58, 32, 114, 111, 111, 116]), ("timbre/api.ErrPerm", [116, 105, 109, 98, 114, 101, 58, 32, 112, 101, 114, 109, 117, 116, 97, 116, 105, 111, 110]), ("timbre/api.ErrNumber", [116, 105, 109, 98, 114, 101, 58, 32, 110, 117, 109, 98, 101, 114]), ("timbre/api.ErrWorkers", [116, 105, 109, 98, 114, 101, 58, 32, 119, 111, 114, 107, 101, 114, 115]), ("timbre/api.ErrDone", [116, 105, 109, 98, 114, 101, 58, 32, 100, 111, 110, 101]), ("timbre/api.ErrUnknown", [116, 105, 109, 98, 114, 101, 58, 32, 117, 110, 107, 110, 111, 119, 110]), ("timbre/api.ErrMode", [116, 105, 109, 98, 114, 101, 58, 32, 109, 111, 100, 101]), ("timbre/api.ErrCommand", [116, 105, 109, 98, 114, 101, 58, 32, 99, 111, 109, 109, 97, 110, 100]), ("timbre/api.ErrExact", [116, 105, 109, 98, 114, 101, 58, 32, 101, 120, 97, 99, 116])]
theorem names19 {n : Nat} (h0 : 1 ≤ n) (h1 : n ≤ 19) : ∃ nm txt, es19[n - 1]? = some (nm, txt) ∧ Tryd.prog.globalNamed nm = some ((errG[n]?).getD 0) := by
  have : n = 1 ∨ n = 2 ∨ n = 3 ∨ n = 4 ∨ n = 5 ∨ n = 6 ∨ n = 7 ∨ n = 8 ∨ n = 9 ∨ n = 10 ∨ n = 11 ∨ n = 12 ∨ n = 13 ∨ n = 14 ∨ n = 15 ∨ n = 16 ∨ n = 17 ∨ n = 18 ∨ n = 19 := by omega
  rcases this with rfl | rfl | rfl | rfl | rfl | rfl | rfl | rfl | rfl | rfl | rfl | rfl | rfl | rfl | rfl | rfl | rfl | rfl | rfl <;> exact ⟨_, _, rfl, by kernel_rfl⟩
theorem texts19 : ∀ i j : Fin 19, (es19[i.val]?).map (·.2) = (es19[j.val]?).map (·.2) → i = j := by decide
theorem of_laid19 {W : World} (h : laidMetH Tryd.prog ([("math/bits.deBruijn32tab", Rows.laid_math_bits_deBruijn32tab), ("math/bits.deBruijn64tab", Rows.laid_math_bits_deBruijn64tab), ("internal/strconv.uint64pow10", Rows.laid_internal_strconv_uint64pow10)] ++ (es19.map (errItem "*errors.errorString") ++ [])) W) : ∃ E Q, Errs [allOf W] E Q ∧ GTab [allOf W] := by
  rw [MakeChecks.laidMetH_plain _ _ _ (by kernel_rfl)] at h
  obtain ⟨ps, hq, _, hrows⟩ := h
  obtain ⟨g0, t0, cs0, fuel0, p0, q0, hg0, ht0, hv0, hd0, hq, rfl⟩ := hq
  obtain ⟨g1, t1, cs1, fuel1, p1, q1, hg1, ht1, hv1, hd1, hq, rfl⟩ := hq
  obtain ⟨g2, t2, cs2, fuel2, p2, q2, hg2, ht2, hv2, hd2, hq, rfl⟩ := hq
  have hgg2 : Tryd.prog.globalNamed "internal/strconv.uint64pow10" = some 19 := by kernel_rfl
  obtain rfl := Option.some.inj (hgg2.symm.trans hg2)
  obtain rfl := Option.some.inj ((show (Tryd.prog.globals[19]?).map (·.type) = some 97 by kernel_rfl).symm.trans ht2)
  obtain ⟨T2, fz2, hm2⟩ := mem_of_var hgg2 hv2
  have hc2 := flat_trod 5 _ _ _ _ (by kernel_rfl) hd2
  have hpow : GTab [allOf W] := ⟨T2, fz2, by
    have e : cs2 = (Lib.pow10Tab.map fun z => Value.int .u64 z).toArray := by
      rw [← Array.toArray_toList (xs := cs2), hc2]
      rfl
    rw [← e]; exact hm2⟩
  obtain ⟨A, q, _, hq, _, hall⟩ := errs_laid errT es19 _ _ (by kernel_rfl) hq (fun b off hm => hrows b off (List.mem_append_right _ (List.mem_append_right _ (List.mem_append_right _ hm))))
  refine ⟨fun n => .iface 106 (.pointer (some (A.getD (n - 1) ⟨0, 0, none⟩))), fun n => A.getD (n - 1) ⟨0, 0, none⟩, ⟨fun n h0 h1 => ?_, fun n h0 h1 => ?_, fun n m h0 h1 k0 k1 he => ?_⟩, hpow⟩
  · obtain ⟨nm, txt, hn, hg⟩ := names19 h0 h1
    exact gerr_at (hall _ _ _ hn) hg
  · obtain ⟨nm, txt, hn, hg⟩ := names19 h0 h1
    exact (errAt_at (hall _ _ _ hn)).1
  · obtain ⟨nm, txt, hn, _⟩ := names19 h0 h1
    obtain ⟨nm', txt', hn', _⟩ := names19 k0 k1
    obtain ⟨_, s, hs1, hs2⟩ := errAt_at (hall _ _ _ hn)
    obtain ⟨_, s', hs1', hs2'⟩ := errAt_at (hall _ _ _ hn')
    rw [← he, hs1] at hs1'
    cases hs1'
    have := texts19 ⟨n - 1, by omega⟩ ⟨m - 1, by omega⟩ (by simp only [hn, hn']; rw [← hs2, ← hs2']; rfl)
    simp only [Fin.mk.injEq] at this
    omega
theorem of_laid5 {W : World} (h : laidMetH Tryd.prog ([("math/bits.deBruijn32tab", Rows.laid_math_bits_deBruijn32tab), ("math/bits.deBruijn64tab", Rows.laid_math_bits_deBruijn64tab), ("internal/strconv.uint64pow10", Rows.laid_internal_strconv_uint64pow10)] ++ (es3.map (errItem "*errors.errorString") ++ [])) W) : ∃ E Q, EQ [allOf W] E Q ∧ GTab [allOf W] := by
  rw [MakeChecks.laidMetH_plain _ _ _ (by kernel_rfl)] at h
  obtain ⟨ps, hq, _, hrows⟩ := h
  obtain ⟨g0, t0, cs0, fuel0, p0, q0, hg0, ht0, hv0, hd0, hq, rfl⟩ := hq
  obtain ⟨g1, t1, cs1, fuel1, p1, q1, hg1, ht1, hv1, hd1, hq, rfl⟩ := hq
  obtain ⟨g2, t2, cs2, fuel2, p2, q2, hg2, ht2, hv2, hd2, hq, rfl⟩ := hq
  have hgg2 : Tryd.prog.globalNamed "internal/strconv.uint64pow10" = some 19 := by kernel_rfl
  obtain rfl := Option.some.inj (hgg2.symm.trans hg2)
  obtain rfl := Option.some.inj ((show (Tryd.prog.globals[19]?).map (·.type) = some 97 by kernel_rfl).symm.trans ht2)
  obtain ⟨T2, fz2, hm2⟩ := mem_of_var hgg2 hv2
  have hc2 := flat_trod 5 _ _ _ _ (by kernel_rfl) hd2
  have hpow : GTab [allOf W] := ⟨T2, fz2, by
    have e : cs2 = (Lib.pow10Tab.map fun z => Value.int .u64 z).toArray := by
      rw [← Array.toArray_toList (xs := cs2), hc2]
      rfl
    rw [← e]; exact hm2⟩
  obtain ⟨A, q, _, hq, _, hall⟩ := errs_laid errT es3 _ _ (by kernel_rfl) hq (fun b off hm => hrows b off (List.mem_append_right _ (List.mem_append_right _ (List.mem_append_right _ hm))))
  refine ⟨fun n => .iface 106 (.pointer (some (A.getD (if n = 3 then 0 else if n = 6 then 1 else 2) ⟨0, 0, none⟩))), fun n => A.getD (if n = 3 then 0 else if n = 6 then 1 else 2) ⟨0, 0, none⟩,
    ⟨⟨gerr_at (hall 0 _ _ rfl) (by kernel_rfl), gerr_at (hall 1 _ _ rfl) (by kernel_rfl), gerr_at (hall 2 _ _ rfl) (by kernel_rfl)⟩, (errAt_at (hall 1 _ _ rfl)).1, (errAt_at (hall 2 _ _ rfl)).1, fun he => ?_⟩, hpow⟩
  obtain ⟨_, s, hs1, hs2⟩ := errAt_at (hall 1 _ _ rfl)
  obtain ⟨_, s', hs1', hs2'⟩ := errAt_at (hall 2 _ _ rfl)
  have he2 : A.getD 1 ⟨0, 0, none⟩ = A.getD 2 ⟨0, 0, none⟩ := he
  rw [← he2, hs1] at hs1'
  cases hs1'
  exact absurd (hs2.symm.trans hs2') (by decide)
variable {H : Type} {enc : TypeId × Value → H} {W : World}
theorem bulk_mem {d : DataW H} {l : List (DataW H)} (h : d ∈ l) : Rows.uptoBulk d ≤ Rows.uptoBulkAll l := by
  induction l with
  | nil => cases h
  | cons x r ih =>
    simp only [Rows.uptoBulkAll]
    rcases List.mem_cons.1 h with e | e
    · subst e; omega
    · have := ih e; omega
theorem bulk_sum (l : List (DataW H)) : Rows.uptoBulkAll l = (l.map Rows.uptoBulk).sum := by
  induction l with
  | nil => rfl
  | cons x r ih => simp [Rows.uptoBulkAll, ih]
theorem bulk_two : ∀ {l : List (DataW H)} {i j : Nat} {a b : DataW H}, i < j → l[i]? = some a → l[j]? = some b → Rows.uptoBulk a + Rows.uptoBulk b ≤ Rows.uptoBulkAll l
  | [], _, _, _, _, _, h, _ => by simp at h
  | x :: l, 0, j + 1, a, b, _, h, h2 => by
    have h : x = a := by simpa using h
    subst h
    have := bulk_mem (List.mem_of_getElem? (show l[j]? = some b by simpa using h2))
    simp only [Rows.uptoBulkAll]; omega
  | x :: l, i + 1, j + 1, a, b, hij, h, h2 => by
    have := bulk_two (l := l) (i := i) (j := j) (by omega) (by simpa using h) (by simpa using h2)
    simp only [Rows.uptoBulkAll]; omega
theorem bulk_pos (d : DataW H) : 1 ≤ Rows.uptoBulk d := by
  cases d with
  | lit l => cases l <;> simp [Rows.uptoBulk]
  | nil => simp [Rows.uptoBulk]
  | ptr d => simp [Rows.uptoBulk]
  | slice elems spare => simp [Rows.uptoBulk]
  | agg parts => simp [Rows.uptoBulk]
  | iface t d => simp [Rows.uptoBulk]
  | map entries => simp [Rows.uptoBulk]
  | held h => simp [Rows.uptoBulk]
theorem bulk_len (l : List (DataW H)) : l.length ≤ Rows.uptoBulkAll l := by
  induction l with
  | nil => simp [Rows.uptoBulkAll]
  | cons x r ih => have := bulk_pos x; simp only [Rows.uptoBulkAll, List.length_cons]; omega
theorem bulk_slice {es sp : List (DataW H)} : es.length ≤ Rows.uptoBulk (.slice es sp) := by
  have := bulk_len es
  simp only [Rows.uptoBulk]; omega
theorem bulk_small {l : List (DataW H)} (h : Rows.uptoSmall H l = true) : Rows.uptoBulkAll l ≤ 1048576 := of_decide_eq_true h
theorem slice_small {ds : List (DataW H)} {d : DataW H} {n : Nat} (hd : d ∈ ds) (hk : Rows.uptoBulkAll ds ≤ 1048576) (h : n = 0 ∨ ∃ es sp, d = .slice es sp ∧ es.length = n) : n ≤ 1048576 := by
  rcases h with h | ⟨es, sp, rfl, he⟩
  · omega
  · have h1 := bulk_mem hd
    have h3 := bulk_slice (es := es) (sp := sp)
    omega
theorem slice_cell {t e : TypeId} {fuel : Nat} {c : Value} {x : DataW H × List MemPlace} (ht : Program.underlying Tryd.prog t = some (.slice e)) (h : DataW.trod enc Tryd.prog W 0 (fun _ => true) true fuel t [c] = some x) : ∃ p n k, c = .slice p n k := by
  rcases DataW.trod_slice ht h with ⟨h0, _⟩ | ⟨a, len, cap, _, _, _, _, hcs, _⟩
  · exact ⟨_, _, _, by simpa using h0⟩
  · exact ⟨_, _, _, by simpa using hcs⟩
section
variable {P : Program} {W : World}
theorem rd_sliceF {H : Type} {enc : TypeId × Value → H} {α : Type} {t e : TypeId} {fuel n c sz : Nat} {p : Option Addr} {x : DataW H × List MemPlace} (ht : P.underlying t = some (.slice e))
    (h : DataW.trod enc P W 0 (fun _ => true) true fuel t [.slice p n c] = some x) (f : α → List Value) (Ok : α → Prop) (hsz : P.cellsOf e = sz) (hpos : 0 < sz) (hf : ∀ y, (f y).length = sz)
    (hread : ∀ m cs y, m < fuel → DataW.trod enc P W 0 (fun _ => true) true m e cs = some y → ∃ z, cs = f z ∧ Ok z) :
    ∃ l : List α, l.length = n ∧ SlAt [allOf W] p ((l.map f).flatten) ∧ (∀ z ∈ l, Ok z) ∧ n ≤ 9223372036854775807 ∧ (n = 0 ∨ ∃ es sp, x.1 = .slice es sp ∧ es.length = n) := by
  rcases DataW.trod_slice ht h with ⟨h0, _⟩ | ⟨a, len, cap, elems, rest, m, hfu, hcs, hx, hb, hlc, hcm, hel, hE, _, _⟩
  · cases h0
    exact ⟨[], rfl, .inl rfl, fun z hz => (by simp at hz), by omega, .inl rfl⟩
  · cases hcs
    have hall : ∀ i : Fin n, ∃ z, W.cells? 0 (a.add (i.val * sz)) sz = some (f z) ∧ Ok z := by
      intro i
      have h1 := hE i.val i.isLt
      rw [List.getElem?_eq_getElem (by omega), hsz] at h1
      obtain ⟨cs, hc, hy⟩ := Option.bind_eq_some_iff.1 h1
      obtain ⟨z, rfl, hz⟩ := hread _ _ _ (by omega) hy
      exact ⟨z, hc, hz⟩
    refine ⟨List.ofFn fun i => (hall i).choose, by simp, ?_, ?_, by unfold maxLen at hcm; omega, .inr ⟨_, _, by rw [hx], by simp [hel]⟩⟩
    · rcases Nat.eq_zero_or_pos n with h0 | hn
      · subst h0; exact .inl (by simp)
      · have hcell : ∀ i k, (hi : i < n) → k < sz → ∃ v, W.cell? ((a.add (i * sz)).add k) = some v ∧ (f (hall ⟨i, hi⟩).choose)[k]? = some v := by
          intro i k hi hk
          obtain ⟨_, hl, hc⟩ := World.cells?_some (hall ⟨i, hi⟩).choose_spec.1
          have h1 := hc k hk
          have h2 : k < (f (hall ⟨i, hi⟩).choose).length := by rw [hl]; exact hk
          rw [List.getElem?_eq_getElem h2] at h1 ⊢
          exact ⟨_, h1, rfl⟩
        obtain ⟨v0, hv0, _⟩ := hcell 0 0 hn hpos
        have hv0' : W.cell? a = some v0 := by simpa [Addr.add] using hv0
        obtain ⟨hs, C, T, fz, hblk, _⟩ := cell_block hv0'
        obtain ⟨b, off, spot⟩ := a
        simp only at hs hblk
        subst hs
        refine .inr ⟨b, off, C, T, fz, rfl, by simpa using allOf_mem hblk, fun j hj => ?_⟩
        rw [flat_len f sz hf, List.length_ofFn] at hj
        have hi : j / sz < n := by rw [Nat.div_lt_iff_lt_mul hpos]; exact hj
        have hk : j % sz < sz := Nat.mod_lt _ hpos
        obtain ⟨v, hv, hfv⟩ := hcell (j / sz) (j % sz) hi hk
        have hj2 : j / sz * sz + j % sz = j := by rw [Nat.mul_comm]; exact Nat.div_add_mod j sz
        rw [Addr.add_lit, Addr.add_lit, Nat.add_assoc, hj2] at hv
        have h3 : C[off + j]? = some v := by
          unfold World.cell? at hv
          rw [hblk] at hv
          simpa using hv
        have h4 := flat_get f sz hf (List.ofFn fun i => (hall i).choose) (j / sz) (j % sz) (hall ⟨j / sz, hi⟩).choose (by simp [hi]) hk
        rw [hj2] at h4
        rw [h3, h4, hfv]
    · intro z hz
      obtain ⟨i, rfl⟩ := List.mem_ofFn.1 hz
      exact (hall i).choose_spec.2

theorem rd_fieldF {H : Type} {enc : TypeId × Value → H} {sp : Nat → Bool} {held : Bool} {base : Nat} {t u : TypeId} {i fuel off n : Nat} {cs : List Value} {x : DataW H × List MemPlace} (h : DataW.trod enc P W base sp held fuel t cs = some x)
    (hf : fieldTy P t i = some (u, off, n)) : ∃ m y ds, m < fuel ∧ DataW.trod enc P W base sp held m u ((cs.drop off).take n) = some y ∧ x.1 = .agg ds ∧ ds[i]? = some y.1 ∧ cs.length = P.cellsOf t := by
  unfold fieldTy at hf
  split at hf
  · rename_i fs hu
    obtain ⟨f, hfi, he⟩ := Option.map_eq_some_iff.1 hf
    cases he
    obtain ⟨xs, m, hfu, rfl, hl, hlen, hall⟩ := DataW.trod_struct hu h
    have h1 := hall i f hfi
    have hlt : i < xs.length := by
      have := (Array.getElem?_eq_some_iff.1 hfi).1
      omega
    rw [List.getElem?_eq_getElem hlt] at h1
    exact ⟨m, xs[i], _, by omega, h1, rfl, by simp [hlt], hl⟩
  · cases hf
end
variable {H : Type} {enc : TypeId × Value → H} {W : World}
theorem list3 {l : List Value} (h : l.length = 3) : ∃ a b c, l = [a, b, c] := by
  match l, h with
  | [a, b, c], _ => exact ⟨a, b, c, rfl⟩
abbrev RT : Type := {q : Tr × List Value // q.2.length = 3}
theorem kids_of {F : List Seg} : ∀ l : List RT, (∀ z ∈ l, z.1.1.Is F z.1.2 ∧ z.1.1.wide) → KidsIs F (l.map (·.1.1)) ((l.map (·.1.2)).flatten) ∧ wideL (l.map (·.1.1))
  | [], _ => ⟨by rw [List.map_nil, KidsIs]; rfl, by rw [List.map_nil, wideL]; trivial⟩
  | z :: l, h => by
    obtain ⟨h1, h2⟩ := kids_of l (fun x hx => h x (List.mem_cons_of_mem _ hx))
    obtain ⟨h3, h4⟩ := h z List.mem_cons_self
    refine ⟨?_, ?_⟩
    · rw [List.map_cons, KidsIs]
      exact ⟨_, _, rfl, h3, h1⟩
    · rw [List.map_cons, wideL]
      exact ⟨h4, h2⟩
theorem read_tree (fuel : Nat) : ∀ {cs : List Value} {x : DataW H × List MemPlace}, DataW.trod enc Tryd.prog W 0 (fun _ => true) true fuel 25 cs = some x → ∃ t : Tr, t.Is [allOf W] cs ∧ t.wide := by
  induction fuel using Nat.strongRecOn with
  | _ fuel ih =>
    intro cs x h
    obtain ⟨m0, y0, _, _, h0, _, _, hl⟩ := rd_fieldF (i := 0) (u := 3) (off := 0) (n := 1) h (by kernel_rfl)
    obtain ⟨m1, y1, _, _, h1, _, _, _⟩ := rd_fieldF (i := 1) (u := 3) (off := 1) (n := 1) h (by kernel_rfl)
    obtain ⟨m2, y2, _, hm2, h2, _, _, _⟩ := rd_fieldF (i := 2) (u := 23) (off := 2) (n := 1) h (by kernel_rfl)
    obtain ⟨c0, c1, c2, rfl⟩ := list3 (hl.trans (by kernel_rfl))
    have hk : Program.underlying Tryd.prog 3 = some (.int .i64) := by kernel_rfl
    obtain ⟨z0, rfl, w0⟩ := rd_int hk h0
    obtain ⟨z1, rfl, w1⟩ := rd_int hk h1
    obtain ⟨pp, n, pc, rfl⟩ := slice_cell (e := 25) (by kernel_rfl) h2
    obtain ⟨l, rfl, hsl, hok, hn, _⟩ := rd_sliceF (e := 25) (sz := 3) (α := RT) (by kernel_rfl) h2 (fun q => q.1.2) (fun q => q.1.1.Is [allOf W] q.1.2 ∧ q.1.1.wide) (by kernel_rfl) (by decide) (fun q => q.2)
      (fun m cs y hm hy => by
        obtain ⟨t, e1, e2⟩ := ih m (by omega) hy
        exact ⟨⟨(t, cs), e1.len3⟩, rfl, e1, e2⟩)
    obtain ⟨e1, e2⟩ := kids_of l hok
    refine ⟨.node z0 z1 (l.map (·.1.1)), ?_, ?_⟩
    · rw [Tr.Is]
      exact ⟨pp, pc, _, by rw [List.length_map], hsl, e1⟩
    · rw [Tr.wide, List.length_map]
      exact ⟨hn, e2⟩
end Go.Proofs.YtinbeaaloailnaaDoor

/- General rules for stepping through a function: no program stands in them. -/
import Derived.Test.YtfpphoapknecfaaGreatDoorBesafterEng12
namespace Go.Eng
open Go Go.RowKit Go.ChangeShapes Go.WideShapes
variable {D : List Deferred}

section
variable {P : Program} {W : World}
/-- The elements of a slice, each of them read, beside its datum. -/
theorem rd_slice2 {H : Type} {enc : TypeId × Value → H} {α : Type} {t e : TypeId} {fuel n c sz : Nat} {p : Option Addr} {x : DataW H × List MemPlace} (ht : P.underlying t = some (.slice e))
    (h : DataW.trod enc P W 0 (fun _ => true) true fuel t [.slice p n c] = some x) (f : α → List Value) (Ok : α → DataW H → Prop) (hsz : P.cellsOf e = sz) (hpos : 0 < sz) (hf : ∀ y, (f y).length = sz)
    (hread : ∀ fuel cs y, DataW.trod enc P W 0 (fun _ => true) true fuel e cs = some y → ∃ z, cs = f z ∧ Ok z y.1) :
    ∃ (l : List α) (es : List (DataW H)), l.length = n ∧ es.length = n ∧ SlAt [allOf W] p ((l.map f).flatten) ∧ (∀ (i : Nat) z, l[i]? = some z → ∃ d, es[i]? = some d ∧ Ok z d) ∧ n ≤ 9223372036854775807 ∧ (n = 0 ∨ ∃ sp, x.1 = .slice es sp) := by
  rcases DataW.trod_slice ht h with ⟨h0, _⟩ | ⟨a, len, cap, elems, rest, m, _, hcs, hx, hb, hlc, hcm, hel, hE, _, _⟩
  · cases h0
    exact ⟨[], [], rfl, rfl, .inl rfl, fun i z hz => (by simp at hz), by omega, .inl rfl⟩
  · cases hcs
    have hall : ∀ i : Fin n, ∃ z, W.cells? 0 (a.add (i.val * sz)) sz = some (f z) ∧ ∃ d, (elems.map (·.1))[i.val]? = some d ∧ Ok z d := by
      intro i
      have h1 := hE i.val i.isLt
      have hlt : i.val < elems.length := by omega
      rw [List.getElem?_eq_getElem hlt, hsz] at h1
      obtain ⟨cs, hc, hy⟩ := Option.bind_eq_some_iff.1 h1
      obtain ⟨z, rfl, hz⟩ := hread _ _ _ hy
      exact ⟨z, hc, _, by simp [hlt], hz⟩
    refine ⟨List.ofFn fun i => (hall i).choose, elems.map (·.1), by simp, by simp [hel], ?_, ?_, by unfold maxLen at hcm; omega, .inr ⟨_, by rw [hx]⟩⟩
    · rcases Nat.eq_zero_or_pos n with h0 | hn
      · subst h0; exact .inl (by simp)
      · have hcell : ∀ i k, (hi : i < n) → k < sz → ∃ v, W.cell? ((a.add (i * sz)).add k) = some v ∧ (f (hall ⟨i, hi⟩).choose)[k]? = some v := by
          intro i k hi hk
          obtain ⟨_, hl, hc⟩ := World.cells?_some (hall ⟨i, hi⟩).choose_spec.1
          have h1 := hc k hk
          have h2 : k < (f (hall ⟨i, hi⟩).choose).length := by rw [hl]; exact hk
          rw [List.getElem?_eq_getElem h2] at h1 ⊢
          exact ⟨_, h1, rfl⟩
        obtain ⟨v0, hv0, _⟩ := hcell 0 0 hn hpos
        have hv0' : W.cell? a = some v0 := by simpa [Addr.add] using hv0
        obtain ⟨hs, C, T, fz, hblk, _⟩ := cell_block hv0'
        obtain ⟨b, off, spot⟩ := a
        simp only at hs hblk
        subst hs
        refine .inr ⟨b, off, C, T, fz, rfl, by simpa using allOf_mem hblk, fun j hj => ?_⟩
        rw [flat_len f sz hf, List.length_ofFn] at hj
        have hi : j / sz < n := by rw [Nat.div_lt_iff_lt_mul hpos]; exact hj
        have hk : j % sz < sz := Nat.mod_lt _ hpos
        obtain ⟨v, hv, hfv⟩ := hcell (j / sz) (j % sz) hi hk
        have hj2 : j / sz * sz + j % sz = j := by rw [Nat.mul_comm]; exact Nat.div_add_mod j sz
        rw [Addr.add_lit, Addr.add_lit, Nat.add_assoc, hj2] at hv
        have h3 : C[off + j]? = some v := by
          unfold World.cell? at hv
          rw [hblk] at hv
          simpa using hv
        have h4 := flat_get f sz hf (List.ofFn fun i => (hall i).choose) (j / sz) (j % sz) (hall ⟨j / sz, hi⟩).choose (by simp [hi]) hk
        rw [hj2] at h4
        rw [h3, h4, hfv]
    · intro i z hz
      have hlt : i < n := by have := (List.getElem?_eq_some_iff.1 hz).1; simpa using this
      have : z = (hall ⟨i, hlt⟩).choose := by
        have h2 : (List.ofFn fun i => (hall i).choose)[i]? = some (hall ⟨i, hlt⟩).choose := by simp [hlt]
        rw [h2] at hz; exact (Option.some.inj hz).symm
      subst this
      exact (hall ⟨i, hlt⟩).choose_spec.2
theorem sum_pair {α β : Type} (f : α → Nat) (g : β → Nat) : ∀ (l : List α) (es : List β), l.length = es.length → (∀ (i : Nat) z, l[i]? = some z → ∃ d, es[i]? = some d ∧ f z ≤ g d) → (l.map f).sum ≤ (es.map g).sum
  | [], [], _, _ => Nat.le_refl _
  | [], _ :: _, h, _ => by simp at h
  | _ :: _, [], h, _ => by simp at h
  | a :: l, b :: es, h, hall => by
    obtain ⟨d, hd, h0⟩ := hall 0 a rfl
    have : b = d := by simpa using hd
    subst this
    have ih := sum_pair f g l es (by simpa using h) (fun i z hz => by
      obtain ⟨d, hd, h1⟩ := hall (i + 1) z (by simpa using hz)
      exact ⟨d, by simpa using hd, h1⟩)
    simp only [List.map_cons, List.sum_cons]; omega
end
end Go.Eng

/- General rules for stepping through a function: no program stands in them. -/
import Derived.Test.YtfpphoapknecfaaGreatDoorBesafterEng14
namespace Go.Eng
open Go Go.RowKit Go.ChangeShapes Go.WideShapes
variable {D : List Deferred}

section
variable {P : Program} {ρ : Operand → Value} {w w0 W : World} {L : List Seg} {d : Option Tmp} {ty : TypeId} {pos : String} {af : Array Edge} {g : Option (Nat × Bool)} {x y : Operand}
/-- A slice that was read: its room, and that it lies at a plain place. -/
theorem rd_spot {H : Type} {enc : TypeId × Value → H} {t e : TypeId} {fuel n c : Nat} {p : Option Addr} {x : DataW H × List MemPlace} (ht : P.underlying t = some (.slice e))
    (h : DataW.trod enc P W 0 (fun _ => true) true fuel t [.slice p n c] = some x) (hsz : 0 < P.cellsOf e) : n ≤ c ∧ ∀ a, p = some a → a.spot = none ∨ c = 0 := by
  rcases DataW.trod_slice ht h with ⟨h0, _⟩ | ⟨a, len, cap, elems, rest, m, _, hcs, hx, hb, hlc, hcm, hel, hE, hR, _⟩
  · cases h0
    exact ⟨Nat.le_refl _, fun a ha => by cases ha⟩
  · cases hcs
    refine ⟨hlc, fun a' ha => ?_⟩
    cases ha
    by_cases hc : c = 0
    · exact .inr hc
    · left
      have key : ∀ k z, k = 0 → W.cells? 0 (a.add k) (P.cellsOf e) = some z → a.spot = none := by
        intro k z hk hz
        subst hk
        obtain ⟨_, hl, hcell⟩ := World.cells?_some hz
        have h1 := hcell 0 hsz
        have h2 : 0 < z.length := by rw [hl]; exact hsz
        rw [List.getElem?_eq_getElem h2] at h1
        have h3 := World.cell?_spot h1
        cases a with
        | mk b o s =>
          cases s with
          | none => rfl
          | some s => simp [Addr.add] at h3
      by_cases hn : 0 < n
      · have h1 := hE 0 hn
        rw [List.getElem?_eq_getElem (by omega)] at h1
        obtain ⟨cs, hc', _⟩ := Option.bind_eq_some_iff.1 h1
        exact key _ _ (Nat.zero_mul _) hc'
      · obtain ⟨hrl, hR⟩ := hR rfl
        have h1 := hR 0 (by omega)
        rw [List.getElem?_eq_getElem (by omega)] at h1
        obtain ⟨cs, hc', _⟩ := Option.bind_eq_some_iff.1 h1
        exact key _ _ (by rw [show n = 0 by omega]; simp) hc'
theorem sliced_plain2 {p : Option Addr} {l h m s : Nat} (hp : ∀ a, p = some a → a.spot = none ∨ m = l) : sliced p l h m s = .slice (behind p m l s) (h - l) (m - l) := by
  unfold sliced behind
  cases p with
  | none => simp
  | some a =>
    rcases hp a rfl with hv | hm
    · cases a with
      | mk b o v =>
        simp only at hv
        subst hv
        split
        · simp
        · simp [Addr.add_lit]
    · simp [hm]
theorem RX.slice_lh2 {t e : TypeId} {p : Option Addr} {n cap sz : Nat} {k k' : IntKind} {l h : Int} {z : Operand} {r s : Nat} (hx : ρ x = .slice p n cap) (hy : ρ y = .int k l) (hz : ρ z = .int k' h) (ht : sliceOf P t = some (e, sz))
    (hp : ∀ a, p = some a → a.spot = none ∨ cap = r) (h0 : 0 ≤ l) (h1 : l ≤ h) (h2 : h ≤ cap) (hr : l.toNat = r) (hs : h.toNat = s) : Runs P ρ ⟨d, .slice t x (some y) (some z) none, ty, pos, af, g⟩ w (.slice (behind p cap r sz) (s - r) (cap - r)) := by
  obtain ⟨hu, he, hs'⟩ := slice_elem (w := w) ht
  subst hr hs
  unfold Runs
  simp [execOp, hx, hy, hz, run_sliceAt_slice w t _ _ _ _ hu, run_slice_lh w t p n cap hu k k' l h h0 h1 h2, he, hs', sliced_plain2 hp]
end
end Go.Eng

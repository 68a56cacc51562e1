/- The reference parser: plain. -/
import Derived.Test.YtinbeaaloailnaaDoorPt
namespace Go.Proofs.YtinbeaaloailnaaDoor
open Go Go.Eng
set_option maxRecDepth 100000
set_option linter.unusedVariables false
set_option linter.unusedSimpArgs false

/-! The reference parser, plain: frames that are not ended. -/
def pF (r : List UInt8) : Option Tr × List UInt8 := pO (r.length + 1) r
theorem pF_of {m : Nat} {r : List UInt8} (h : r.length < m) : pO m r = pF r := pO_any h
inductive BR where
  | leaf (t : Tr) (r : List UInt8)
  | more (f : Tr) (r : List UInt8)
  | fail (r : List UInt8)
def begS : List UInt8 → BR
  | [] => .fail []
  | c :: r =>
    if c.toNat = 100 then (match numP r with | (some n, r') => .leaf (.node 1 (n : Nat) []) r' | (none, r') => .fail r')
    else if c.toNat = 102 then (match numP r with | (some n, r') => .leaf (.node 2 (n : Nat) []) r' | (none, r') => .fail r')
    else if c.toNat = 40 then .more (.node 3 0 []) r
    else if c.toNat = 98 then (match numP r with | (some n, r') => (match takeP [40] r' with | (some _, r2) => .more (.node 4 (n : Nat) []) r2 | (none, r2) => .fail r2) | (none, r') => .fail r')
    else .fail (c :: r)
def plug1 (f : Tr) (x : Option Tr × List UInt8) : Option Tr × List UInt8 :=
  match f with
  | .node k n ks =>
    if k = 3 ∧ ks.length = 0 then bindP x fun t r => bindP (takeP [32, 120, 32] r) fun _ r => bindP (pF r) fun b r => bindP (takeP [41] r) fun _ r => (some (.node k n ((ks ++ [t]) ++ [b])), r)
    else bindP x fun t r => bindP (takeP [41] r) fun _ r => (some (.node k n (ks ++ [t])), r)
def plug : List Tr → Option Tr × List UInt8 → Option Tr × List UInt8
  | [], x => x
  | f :: rf, x => plug rf (plug1 f x)
theorem plug1_none (f : Tr) (r : List UInt8) : plug1 f (none, r) = (none, r) := by
  obtain ⟨k, n, ks⟩ := f
  unfold plug1
  dsimp only
  split <;> rfl
theorem plug_none : ∀ (rf : List Tr) (r : List UInt8), plug rf (none, r) = (none, r)
  | [], r => rfl
  | f :: rf, r => by rw [plug, plug1_none, plug_none rf r]
/-- What begins, and how much is left then. -/
def begL : List UInt8 → BR → Prop
  | r, .leaf t r' => pF r = (some t, r') ∧ r'.length < r.length
  | r, .more f r' => pF r = plug1 f (pF r') ∧ r'.length < r.length
  | r, .fail r' => pF r = (none, r')
theorem num_len (s : List UInt8) : (numP s).2.length ≤ s.length := (num_suf s).length_le
theorem take_len (t s : List UInt8) : (takeP t s).2.length ≤ s.length := (take_suf t s).length_le
theorem beg_law : ∀ r : List UInt8, begL r (begS r)
  | [] => by
    rw [begS, begL]; unfold pF; rw [List.length_nil, pO]
  | c :: r => by
    have hn := num_len r
    have hp : pF (c :: r) = pO ((r.length + 1) + 1) (c :: r) := rfl
    rw [pO] at hp
    rw [begS]
    split
    · rename_i h
      rw [if_pos h] at hp
      cases hd : numP r with
      | mk o r' =>
        rw [hd] at hp hn
        cases o with
        | none => exact hp
        | some n => exact ⟨hp, by simp only [List.length_cons] at hn ⊢; omega⟩
    · rename_i h1
      rw [if_neg h1] at hp
      split
      · rename_i h
        rw [if_pos h] at hp
        cases hd : numP r with
        | mk o r' =>
          rw [hd] at hp hn
          cases o with
          | none => exact hp
          | some n => exact ⟨hp, by simp only [List.length_cons] at hn ⊢; omega⟩
      · rename_i h2
        rw [if_neg h2] at hp
        split
        · rename_i h
          rw [if_neg (by omega), if_pos h] at hp
          refine ⟨hp.trans ?_, by simp⟩
          unfold plug1
          dsimp only
          rw [if_pos ⟨rfl, rfl⟩]
          refine bind_congr rfl fun a _ => ?_
          have h1 := (pO_suf (r.length + 1) r).length_le
          refine bind_congr rfl fun _ _ => ?_
          have h2 := take_len [32, 120, 32] (pO (r.length + 1) r).2
          refine bind_congr (pF_of (by unfold pF; omega)) fun b _ => ?_
          rfl
        · rename_i h3
          split
          · rename_i h
            rw [if_pos h] at hp
            cases hd : numP r with
            | mk o r' =>
              rw [hd] at hp hn
              cases o with
              | none => exact hp
              | some n =>
                have ht := take_len [40] r'
                simp only [bindP] at hp
                simp only at hn
                cases ht2 : takeP [40] r' with
                | mk o2 r2 =>
                  rw [ht2] at hp ht
                  simp only at ht
                  dsimp only
                  rw [ht2]
                  cases o2 with
                  | none => exact hp
                  | some u =>
                    refine ⟨hp.trans ?_, by simp only [List.length_cons]; omega⟩
                    unfold plug1
                    dsimp only
                    rw [if_neg (fun h => by have := h.1; omega), ← pF_of (m := r.length + 1) (by omega)]
                    rfl
          · rename_i h4
            rw [if_neg h4, if_neg h3] at hp
            exact hp
inductive ER where
  | done (t : Tr) (r : List UInt8)
  | more (rf : List Tr) (r : List UInt8)
  | fail (r : List UInt8)
def endS : List Tr → Tr → List UInt8 → ER
  | [], t, r => .done t r
  | .node k n ks :: rf, t, r =>
    if k = 3 ∧ ks.length = 0 then (match takeP [32, 120, 32] r with | (some _, r') => .more (.node k n (ks ++ [t]) :: rf) r' | (none, r') => .fail r')
    else (match takeP [41] r with | (some _, r') => endS rf (.node k n (ks ++ [t])) r' | (none, r') => .fail r')
def endL (rf : List Tr) (t : Tr) (r : List UInt8) : ER → Prop
  | .done t' r' => plug rf (some t, r) = (some t', r')
  | .more rf' r' => plug rf (some t, r) = plug rf' (pF r')
  | .fail r' => plug rf (some t, r) = (none, r')
theorem end_law : ∀ (rf : List Tr) (t : Tr) (r : List UInt8), endL rf t r (endS rf t r)
  | [], t, r => rfl
  | .node k n ks :: rf, t, r => by
    rw [endS]
    have hp : plug (.node k n ks :: rf) (some t, r) = plug rf (plug1 (.node k n ks) (some t, r)) := rfl
    unfold plug1 at hp
    dsimp only at hp
    split
    · rename_i h
      rw [if_pos h] at hp
      simp only [bindP] at hp
      cases hd : takeP [32, 120, 32] r with
      | mk o r' =>
        rw [hd] at hp
        cases o with
        | none => exact hp.trans (plug_none _ _)
        | some u =>
          refine hp.trans ?_
          show _ = plug rf (plug1 (.node k n (ks ++ [t])) (pF r'))
          unfold plug1
          dsimp only
          rw [if_neg (fun h => by have := h.2; simp at this)]
          rfl
    · rename_i h
      rw [if_neg h] at hp
      simp only [bindP] at hp
      cases hd : takeP [41] r with
      | mk o r' =>
        rw [hd] at hp
        cases o with
        | none => exact hp.trans (plug_none _ _)
        | some u =>
          have ih := end_law rf (.node k n (ks ++ [t])) r'
          unfold endL at ih ⊢
          simp only at hp ⊢
          rw [hp]
          exact ih
theorem endS_snoc {ini : List Tr} {k n : Int} {ks : List Tr} {t : Tr} {r : List UInt8} : endS (ini ++ [Tr.node k n ks]).reverse t r =
    if k = 3 ∧ ks.length = 0 then (match takeP [32, 120, 32] r with | (some _, r') => .more (ini ++ [Tr.node k n (ks ++ [t])]).reverse r' | (none, r') => .fail r')
    else (match takeP [41] r with | (some _, r') => endS ini.reverse (Tr.node k n (ks ++ [t])) r' | (none, r') => .fail r') := by
  rw [List.reverse_append, List.reverse_append, List.reverse_singleton, List.reverse_singleton, List.singleton_append, List.singleton_append, endS]
/-! Where frames lie. -/
def Tr.kl : Tr → Nat
  | .node _ _ ks => ks.length
theorem KidsOwn.unsnoc : ∀ {ks : List Tr} {xs : List Value} {s : Seg} {t : Tr}, KidsOwn (ks ++ [t]) xs s → ∃ xa a sa s1, xs = xa ++ a ∧ s = sa ++ s1 ∧ KidsOwn ks xa sa ∧ t.Own a s1
  | [], xs, s, t, h => by
    rw [List.nil_append, KidsOwn] at h
    obtain ⟨a, b, s1, s2, rfl, rfl, ha, hb⟩ := h
    rw [KidsOwn] at hb
    obtain ⟨rfl, rfl⟩ := hb
    exact ⟨[], a, [], s1, by simp, by simp, KidsOwn.nil, ha⟩
  | x :: ks, xs, s, t, h => by
    rw [List.cons_append, KidsOwn] at h
    obtain ⟨a, b, s1, s2, rfl, rfl, ha, hb⟩ := h
    obtain ⟨xa, a', sa, s1', rfl, rfl, h1, h2⟩ := hb.unsnoc
    exact ⟨a ++ xa, a', s1 ++ sa, s1', by simp, by simp, by rw [KidsOwn]; exact ⟨a, xa, s1, sa, rfl, rfl, ha, h1⟩, h2⟩
theorem KidsOwn.kids {ks : List Tr} {xs : List Value} {s : Seg} (h : KidsOwn ks xs s) : KidsIs [s] ks xs := h.in_ (by simp)
theorem top_read {l xs xa fa : List Value} (h : l.take xs.length = xs) (hx : xs = xa ++ fa) (h3 : fa.length = 3) : readN l xa.length 3 = some fa := by
  obtain ⟨rest, rfl⟩ : ∃ rest, l = xs ++ rest := ⟨l.drop xs.length, by conv => lhs; rw [← List.take_append_drop xs.length l, h]⟩
  rw [hx, List.append_assoc]
  unfold readN
  simp [h3]
theorem OwnSl.pop {e g n c : Nat} {xa fa l : List Value} (h : OwnSl e 3 (some ⟨g, 0, none⟩) (n + 1) c (xa ++ fa) [(g, cel l e)]) (h3 : fa.length = 3) : OwnSl e 3 (some ⟨g, 0, none⟩) n c xa [(g, cel l e)] := by
  obtain ⟨hl, ⟨h1, _⟩ | ⟨g', l', h1, h2, hn, hc, ht⟩⟩ := h
  · cases h1
  · refine ⟨by rw [List.length_append] at hl; omega, .inr ⟨g', l', h1, h2, by omega, hc, ?_⟩⟩
    have := congrArg (List.take xa.length) ht
    rw [List.take_take, List.take_left', Nat.min_eq_left (by rw [List.length_append]; omega)] at this
    · exact this
    · rfl

end Go.Proofs.YtinbeaaloailnaaDoor

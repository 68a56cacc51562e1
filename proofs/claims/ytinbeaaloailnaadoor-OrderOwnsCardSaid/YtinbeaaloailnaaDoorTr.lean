/- Trees: their parts, depths and lengths; the parser: plain; where trees lie. -/
import Derived.Test.YtinbeaaloailnaaDoorNm
namespace Go.Proofs.YtinbeaaloailnaaDoor
open Go Go.Eng
set_option maxRecDepth 100000
set_option linter.unusedVariables false
set_option linter.unusedSimpArgs false

/-! Trees. -/
inductive Tr where
  | node (k n : Int) (kids : List Tr)
mutual
def Tr.parts : Tr → Nat
  | .node _ _ ks => 1 + partsL ks
def partsL : List Tr → Nat
  | [] => 0
  | t :: ts => t.parts + partsL ts
end
mutual
def Tr.depth : Tr → Nat
  | .node _ _ ks => depthL ks + 1
def depthL : List Tr → Nat
  | [] => 0
  | t :: ts => max t.depth (depthL ts)
end
mutual
def Tr.same : Tr → Tr → Bool
  | .node k n ks, .node k' n' ks' => decide (k = k') && (decide (n = n') && sameL ks ks')
def sameL : List Tr → List Tr → Bool
  | [], [] => true
  | a :: us, b :: bs => a.same b && sameL us bs
  | [], _ :: _ => false
  | _ :: _, [] => false
end
mutual
theorem Tr.same_eq : ∀ (a b : Tr), a.same b = true ↔ a = b
  | .node k n ks, .node k' n' ks' => by
    rw [Tr.same]
    simp only [Bool.and_eq_true, decide_eq_true_eq, Tr.node.injEq, sameL_eq ks ks']
theorem sameL_eq : ∀ (a b : List Tr), sameL a b = true ↔ a = b
  | [], [] => by rw [sameL]; simp
  | a :: us, b :: bs => by
    rw [sameL]
    simp only [Bool.and_eq_true, List.cons.injEq, Tr.same_eq a b, sameL_eq us bs]
  | [], _ :: _ => by rw [sameL]; simp
  | _ :: _, [] => by rw [sameL]; simp
end
theorem partsL_get : ∀ {ks : List Tr} {i : Nat} {t : Tr}, ks[i]? = some t → t.parts ≤ partsL ks
  | [], _, _, h => by simp at h
  | x :: ks, 0, t, h => by
    have : x = t := by simpa using h
    subst this
    rw [partsL]; omega
  | x :: ks, i + 1, t, h => by
    have := partsL_get (ks := ks) (i := i) (by simpa using h)
    rw [partsL]; omega
theorem parts_pos (t : Tr) : 1 ≤ t.parts := by
  cases t; rw [Tr.parts]; omega
theorem partsL_len : ∀ ks : List Tr, ks.length ≤ partsL ks
  | [] => Nat.zero_le _
  | t :: ts => by
    have := partsL_len ts
    have := parts_pos t
    rw [partsL, List.length_cons]; omega
theorem kid_lt {k n : Int} {ks : List Tr} {i : Nat} {t : Tr} (h : ks[i]? = some t) : t.parts < (Tr.node k n ks).parts := by
  have := partsL_get h
  rw [Tr.parts]; omega
theorem depth_pos (t : Tr) : 1 ≤ t.depth := by
  cases t; rw [Tr.depth]; omega
theorem depthL_get : ∀ {ks : List Tr} {i : Nat} {t : Tr}, ks[i]? = some t → t.depth ≤ depthL ks
  | [], _, _, h => by simp at h
  | x :: ks, 0, t, h => by
    have : x = t := by simpa using h
    subst this
    rw [depthL]; omega
  | x :: ks, i + 1, t, h => by
    have := depthL_get (ks := ks) (i := i) (by simpa using h)
    rw [depthL]; omega
def partsT (ks : List Tr) (i : Nat) : Nat := partsL (ks.take i)
theorem partsL_app : ∀ a b : List Tr, partsL (a ++ b) = partsL a + partsL b
  | [], b => by simp [partsL]
  | t :: a, b => by
    rw [List.cons_append, partsL, partsL, partsL_app a b]; omega
theorem depthL_app : ∀ a b : List Tr, depthL (a ++ b) = max (depthL a) (depthL b)
  | [], b => by simp [depthL]
  | t :: a, b => by
    rw [List.cons_append, depthL, depthL, depthL_app a b]; omega
theorem take_get {α : Type} {l : List α} {i : Nat} {a : α} (h : l[i]? = some a) : l.take (i + 1) = l.take i ++ [a] := by
  rw [List.take_add_one, h]; rfl
theorem partsT_succ {ks : List Tr} {i : Nat} {t : Tr} (h : ks[i]? = some t) : partsT ks (i + 1) = partsT ks i + t.parts := by
  unfold partsT
  rw [take_get h, partsL_app, partsL, partsL]; omega
theorem partsT_le (ks : List Tr) (i : Nat) : partsT ks i ≤ partsL ks := by
  have : partsL ks = partsL (ks.take i) + partsL (ks.drop i) := by rw [← partsL_app, List.take_append_drop]
  unfold partsT
  omega
theorem partsT_full (ks : List Tr) : partsT ks ks.length = partsL ks := by unfold partsT; rw [List.take_length]
def depthT (ks : List Tr) (i : Nat) : Nat := depthL (ks.take i)
theorem depthT_succ {ks : List Tr} {i : Nat} {t : Tr} (h : ks[i]? = some t) : depthT ks (i + 1) = max (depthT ks i) t.depth := by
  unfold depthT
  rw [take_get h, depthL_app, depthL, depthL]; omega
theorem depthT_full (ks : List Tr) : depthT ks ks.length = depthL ks := by unfold depthT; rw [List.take_length]
theorem depth_parts : (∀ t : Tr, t.depth ≤ t.parts) := by
  have key : ∀ m, (∀ t : Tr, t.parts ≤ m → t.depth ≤ t.parts) := by
    intro m
    induction m with
    | zero => intro t h; have := parts_pos t; omega
    | succ m ih =>
      intro t h
      obtain ⟨k, n, ks⟩ := t
      rw [Tr.parts] at h ⊢
      rw [Tr.depth]
      have : ∀ l : List Tr, partsL l ≤ m → depthL l ≤ partsL l := by
        intro l
        induction l with
        | nil => intro _; simp [depthL]
        | cons x l ihl =>
          intro hl
          rw [partsL] at hl ⊢
          rw [depthL]
          have := ih x (by omega)
          have := ihl (by omega)
          omega
      have := this ks (by omega)
      omega
  exact fun t => key _ t (Nat.le_refl _)
/-! Lengths. -/
/-- The walker: the length at a depth, behind c parts; and how many parts were met by then. -/
def lw (t : Tr) (d c : Nat) : Int × Nat :=
  match t with
  | .node k n ks =>
    if 4096 < c + 1 ∨ 16 < d then (0, c + 1)
    else if k = 1 ∧ ks.length = 0 ∧ 1 ≤ n ∧ n ≤ 64 then (n, c + 1)
    else if k = 2 ∧ ks.length = 0 ∧ 2 ≤ n ∧ n ≤ 5 then (n, c + 1)
    else match ks with
      | [a, b] =>
        if k = 3 ∧ n = 0 then
          if (lw a (d + 1) (c + 1)).1 < 2 then (0, (lw a (d + 1) (c + 1)).2)
          else if (lw b (d + 1) (lw a (d + 1) (c + 1)).2).1 < 2 ∨ 16384 < (lw a (d + 1) (c + 1)).1 * (lw b (d + 1) (lw a (d + 1) (c + 1)).2).1 then (0, (lw b (d + 1) (lw a (d + 1) (c + 1)).2).2)
          else ((lw a (d + 1) (c + 1)).1 * (lw b (d + 1) (lw a (d + 1) (c + 1)).2).1, (lw b (d + 1) (lw a (d + 1) (c + 1)).2).2)
        else (0, c + 1)
      | [a] =>
        if k = 4 ∧ 2 ≤ n ∧ n ≤ 16384 then
          if (lw a (d + 1) (c + 1)).1 < 2 * n - 1 then (0, (lw a (d + 1) (c + 1)).2) else (n, (lw a (d + 1) (c + 1)).2)
        else (0, c + 1)
      | _ => (0, c + 1)
termination_by t.parts
decreasing_by all_goals simp only [Tr.parts, partsL]; omega
/-- The document's length of a tree small enough. -/
def len (t : Tr) : Int :=
  match t with
  | .node k n ks =>
    if k = 1 then (if 1 ≤ n ∧ n ≤ 64 ∧ ks.length = 0 then n else 0)
    else if k = 2 then (if 2 ≤ n ∧ n ≤ 5 ∧ ks.length = 0 then n else 0)
    else if k = 3 then
      match ks with
      | [a, b] => if n = 0 then (if 2 ≤ len a ∧ 2 ≤ len b ∧ len a ≤ (16384 : Int).tdiv (len b) then len a * len b else 0) else 0
      | _ => 0
    else if k = 4 then
      match ks with
      | [a] => if 2 ≤ n ∧ n ≤ 8192 then (if 2 * n - 1 ≤ len a then n else 0) else 0
      | _ => 0
    else 0
termination_by t.parts
decreasing_by all_goals simp only [Tr.parts, partsL]; omega
def lenO (t : Tr) : Int := (lw t 1 0).1
def lenR (t : Tr) : Int := if t.parts ≤ 4096 ∧ t.depth ≤ 16 then len t else 0
theorem mul_le_div {x y : Int} (hy : 2 ≤ y) : x ≤ (16384 : Int).tdiv y ↔ x * y ≤ 16384 := by
  rw [Int.tdiv_eq_ediv_of_nonneg (by decide)]
  exact Int.le_ediv_iff_mul_le (by omega)
theorem len_range : ∀ (m : Nat) (t : Tr), t.parts ≤ m → 0 ≤ len t ∧ len t ≤ 16384
  | 0, t, h => by have := parts_pos t; omega
  | m + 1, t, h => by
    obtain ⟨k, n, ks⟩ := t
    rw [len.eq_def]
    dsimp only
    split
    · split <;> omega
    · split
      · split <;> omega
      · split
        · split
          · rename_i a b
            rw [Tr.parts, partsL, partsL] at h
            have ha := len_range m a (by omega)
            have hb := len_range m b (by omega)
            split
            · split
              · rename_i hc
                obtain ⟨h1, h2, h3⟩ := hc
                rw [mul_le_div h2] at h3
                exact ⟨Int.mul_nonneg ha.1 hb.1, h3⟩
              · omega
            · omega
          · omega
        · split
          · split
            · split
              · split <;> omega
              · omega
            · omega
          · omega
theorem lw_law : ∀ (m : Nat) (t : Tr) (d c : Nat), t.parts ≤ m →
    ((c + t.parts ≤ 4096 ∧ d + t.depth ≤ 17) → (lw t d c).1 = len t) ∧ ((lw t d c).1 ≠ 0 → c + t.parts ≤ 4096 ∧ d + t.depth ≤ 17 ∧ (lw t d c).2 = c + t.parts) ∧ 0 ≤ (lw t d c).1 ∧ (lw t d c).1 ≤ 16384 ∧ (lw t d c).2 ≤ c + t.parts
  | 0, t, _, _, h => by have := parts_pos t; omega
  | m + 1, t, d, c, h => by
    obtain ⟨k, n, ks⟩ := t
    have hdp := depth_pos (.node k n ks)
    have hpp := parts_pos (.node k n ks)
    rw [lw.eq_def]
    dsimp only
    split
    · rename_i h0
      exact ⟨fun h1 => by omega, fun h1 => absurd rfl h1, by simp, by simp, by simp; omega⟩
    · rename_i h0
      split
      · rename_i h1
        obtain ⟨hk, hl, hn1, hn2⟩ := h1
        obtain rfl := List.eq_nil_of_length_eq_zero hl
        refine ⟨fun _ => by rw [len.eq_def]; dsimp only; rw [if_pos hk, if_pos ⟨hn1, hn2, rfl⟩], fun _ => ?_, by simp only; omega, by simp only; omega, by simp only; omega⟩
        have e1 : (Tr.node k n []).parts = 1 := by simp [Tr.parts, partsL]
        have e2 : (Tr.node k n []).depth = 1 := by simp [Tr.depth, depthL]
        rw [e1, e2]
        exact ⟨by omega, by omega, rfl⟩
      · rename_i h1
        split
        · rename_i h2
          obtain ⟨hk, hl, hn1, hn2⟩ := h2
          obtain rfl := List.eq_nil_of_length_eq_zero hl
          refine ⟨fun _ => by rw [len.eq_def]; dsimp only; rw [if_neg (by omega), if_pos hk, if_pos ⟨hn1, hn2, rfl⟩], fun _ => ?_, by simp only; omega, by simp only; omega, by simp only; omega⟩
          have e1 : (Tr.node k n []).parts = 1 := by simp [Tr.parts, partsL]
          have e2 : (Tr.node k n []).depth = 1 := by simp [Tr.depth, depthL]
          rw [e1, e2]
          exact ⟨by omega, by omega, rfl⟩
        · rename_i h2
          split
          · rename_i a b
            have ep : (Tr.node k n [a, b]).parts = 1 + (a.parts + b.parts) := by simp only [Tr.parts, partsL]; omega
            have ed : (Tr.node k n [a, b]).depth = max a.depth b.depth + 1 := by simp only [Tr.depth, depthL]; omega
            rw [ep] at h hpp ⊢
            rw [ed] at hdp ⊢
            have ha := lw_law m a (d + 1) (c + 1) (by omega)
            have hb := lw_law m b (d + 1) (lw a (d + 1) (c + 1)).2 (by omega)
            have rb := len_range _ b (Nat.le_refl _)
            have ra := len_range _ a (Nat.le_refl _)
            split
            · rename_i h3
              obtain ⟨rfl, rfl⟩ := h3
              have el : len (.node 3 0 [a, b]) = if 2 ≤ len a ∧ 2 ≤ len b ∧ len a ≤ (16384 : Int).tdiv (len b) then len a * len b else 0 := by
                rw [len.eq_def]; dsimp only; rw [if_neg (by decide), if_neg (by decide), if_pos rfl, if_pos rfl]
              rw [el]
              generalize lw a (d + 1) (c + 1) = x at ha hb ⊢
              obtain ⟨x, c1⟩ := x
              simp only at ha hb ⊢
              generalize lw b (d + 1) c1 = y at hb ⊢
              obtain ⟨y, c2⟩ := y
              simp only at hb ⊢
              obtain ⟨a1, a2, a3, a4, a5⟩ := ha
              obtain ⟨b1, b2, b3, b4, b5⟩ := hb
              split
              · rename_i hx
                refine ⟨fun hc => ?_, fun hc => absurd rfl hc, by simp, by simp, by simp only; omega⟩
                rw [if_neg (fun hh => ?_)]
                have := a1 ⟨by omega, by omega⟩
                omega
              · rename_i hx
                obtain ⟨a6, a7, a8⟩ := a2 (by omega)
                split
                · rename_i hy
                  refine ⟨fun hc => ?_, fun hc => absurd rfl hc, by simp, by simp, by simp only; omega⟩
                  have e1 := a1 ⟨by omega, by omega⟩
                  have e2 := b1 ⟨by omega, by omega⟩
                  rw [if_neg (fun hh => ?_)]
                  obtain ⟨g1, g2, g3⟩ := hh
                  rw [mul_le_div g2, ← e1, ← e2] at g3
                  omega
                · rename_i hy
                  obtain ⟨b6, b7, b8⟩ := b2 (by omega)
                  have e1 := a1 ⟨by omega, by omega⟩
                  have e2 := b1 ⟨by omega, by omega⟩
                  refine ⟨fun _ => ?_, fun _ => ⟨by omega, by omega, by simp only; omega⟩, Int.mul_nonneg a3 b3, by simp only; omega, by simp only; omega⟩
                  rw [if_pos ⟨by omega, by omega, by rw [mul_le_div (by omega), ← e1, ← e2]; omega⟩, e1, e2]
            · rename_i h3
              refine ⟨fun _ => ?_, fun hc => absurd rfl hc, by simp, by simp, by simp only; omega⟩
              rw [len.eq_def]
              dsimp only
              simp only [List.length_cons, List.length_nil]
              split
              · split <;> omega
              · split
                · split <;> omega
                · split
                  · split <;> first | omega | rfl
                  · split <;> rfl
          · rename_i a
            have ep : (Tr.node k n [a]).parts = 1 + a.parts := by simp only [Tr.parts, partsL]; omega
            have ed : (Tr.node k n [a]).depth = a.depth + 1 := by simp only [Tr.depth, depthL]; omega
            rw [ep] at h hpp ⊢
            rw [ed] at hdp ⊢
            have ha := lw_law m a (d + 1) (c + 1) (by omega)
            have ra := len_range _ a (Nat.le_refl _)
            split
            · rename_i h3
              obtain ⟨rfl, hn1, hn2⟩ := h3
              have el : len (.node 4 n [a]) = if 2 ≤ n ∧ n ≤ 8192 then (if 2 * n - 1 ≤ len a then n else 0) else 0 := by
                rw [len.eq_def]; dsimp only; rw [if_neg (by decide), if_neg (by decide), if_neg (by decide), if_pos rfl]
              rw [el]
              generalize lw a (d + 1) (c + 1) = x at ha ⊢
              obtain ⟨x, c1⟩ := x
              simp only at ha ⊢
              obtain ⟨a1, a2, a3, a4, a5⟩ := ha
              split
              · rename_i hx
                refine ⟨fun hc => ?_, fun hc => absurd rfl hc, by simp, by simp, by simp only; omega⟩
                have e1 := a1 ⟨by omega, by omega⟩
                split
                · rw [if_neg (by omega)]
                · rfl
              · rename_i hx
                obtain ⟨a6, a7, a8⟩ := a2 (by omega)
                have e1 := a1 ⟨by omega, by omega⟩
                refine ⟨fun _ => ?_, fun _ => ⟨by omega, by omega, by simp only; omega⟩, by simp only; omega, by simp only; omega, by simp only; omega⟩
                rw [if_pos (by omega), if_pos (by omega)]
            · rename_i h3
              refine ⟨fun _ => ?_, fun hc => absurd rfl hc, by simp, by simp, by simp only; omega⟩
              rw [len.eq_def]
              dsimp only
              simp only [List.length_cons, List.length_nil]
              split
              · split <;> omega
              · split
                · split <;> omega
                · split
                  · rfl
                  · split
                    · split <;> first | omega | rfl
                    · rfl
          · rename_i hn2 hn1
            refine ⟨fun _ => ?_, fun hc => absurd rfl hc, by simp, by simp, by simp only; omega⟩
            rw [len.eq_def]
            dsimp only
            split
            · split <;> omega
            · split
              · split <;> omega
              · split
                · split
                  · rename_i a b _
                    exact absurd rfl (hn2 a b)
                  · rfl
                · split
                  · split
                    · rename_i a _
                      exact absurd rfl (hn1 a)
                    · rfl
                  · rfl
theorem len_law (t : Tr) : lenO t = lenR t := by
  have h := lw_law _ t 1 0 (Nat.le_refl _)
  unfold lenO lenR
  split
  · exact h.1 (by omega)
  · rename_i hn
    by_cases h0 : (lw t 1 0).1 = 0
    · exact h0
    · have := h.2.1 h0
      omega


/-! The parser: what it takes, and what is left. -/
def bindP {α β : Type} (p : Option α × List UInt8) (f : α → List UInt8 → Option β × List UInt8) : Option β × List UInt8 :=
  match p with
  | (none, r) => (none, r)
  | (some a, r) => f a r
def takeP : List UInt8 → List UInt8 → Option Unit × List UInt8
  | [], s => (some (), s)
  | _ :: _, [] => (none, [])
  | c :: cs, x :: s => if x = c then takeP cs s else (none, x :: s)
/-- k: how many digits may come; the first may not be 0. -/
def digs : Nat → Nat → List UInt8 → Nat × List UInt8
  | 0, n, s => (n, s)
  | _ + 1, n, [] => (n, [])
  | k + 1, n, c :: s => if (48 ≤ c.toNat ∧ c.toNat ≤ 57) ∧ ¬ (k = 5 ∧ c.toNat = 48) then digs k (10 * n + (c.toNat - 48)) s else (n, c :: s)
def numP (s : List UInt8) : Option Nat × List UInt8 := if (digs 6 0 s).1 = 0 then (none, (digs 6 0 s).2) else (some (digs 6 0 s).1, (digs 6 0 s).2)
def pO : Nat → List UInt8 → Option Tr × List UInt8
  | 0, s => (none, s)
  | _ + 1, [] => (none, [])
  | m + 1, c :: s =>
    if c.toNat = 100 then bindP (numP s) fun n r => (some (.node 1 (n : Nat) []), r)
    else if c.toNat = 102 then bindP (numP s) fun n r => (some (.node 2 (n : Nat) []), r)
    else if c.toNat = 98 then bindP (numP s) fun n r => bindP (takeP [40] r) fun _ r => bindP (pO m r) fun t r => bindP (takeP [41] r) fun _ r => (some (.node 4 (n : Nat) [t]), r)
    else if c.toNat = 40 then bindP (pO m s) fun a r => bindP (takeP [32, 120, 32] r) fun _ r => bindP (pO m r) fun b r => bindP (takeP [41] r) fun _ r => (some (.node 3 0 [a, b]), r)
    else (none, c :: s)
theorem bind_suf {α β : Type} {p : Option α × List UInt8} {f : α → List UInt8 → Option β × List UInt8} {s : List UInt8} (h : p.2 <:+ s) (hf : ∀ a r, r <:+ s → (f a r).2 <:+ s) : (bindP p f).2 <:+ s := by
  obtain ⟨o, r⟩ := p
  cases o with
  | none => exact h
  | some a => exact hf a r h
theorem take_suf : ∀ (t s : List UInt8), (takeP t s).2 <:+ s
  | [], s => List.suffix_refl s
  | _ :: _, [] => List.suffix_refl []
  | c :: cs, x :: s => by
    rw [takeP]
    split
    · exact (take_suf cs s).trans (List.suffix_cons x s)
    · exact List.suffix_refl _
theorem digs_suf : ∀ (k n : Nat) (s : List UInt8), (digs k n s).2 <:+ s
  | 0, _, s => List.suffix_refl s
  | _ + 1, _, [] => List.suffix_refl []
  | k + 1, n, c :: s => by
    rw [digs]
    split
    · exact (digs_suf k _ s).trans (List.suffix_cons c s)
    · exact List.suffix_refl _
theorem num_suf (s : List UInt8) : (numP s).2 <:+ s := by
  unfold numP
  split <;> exact digs_suf 6 0 s
theorem pO_suf : ∀ (m : Nat) (s : List UInt8), (pO m s).2 <:+ s
  | 0, s => List.suffix_refl s
  | _ + 1, [] => List.suffix_refl []
  | m + 1, c :: s => by
    have up : ∀ {r : List UInt8}, r <:+ s → r <:+ c :: s := fun h => h.trans (List.suffix_cons c s)
    rw [pO]
    split
    · exact bind_suf (up (num_suf s)) (fun _ r h => h)
    · split
      · exact bind_suf (up (num_suf s)) (fun _ r h => h)
      · split
        · refine bind_suf (up (num_suf s)) (fun _ r h => bind_suf ((take_suf _ r).trans h) (fun _ r2 h2 => bind_suf ((pO_suf m r2).trans h2) (fun _ r3 h3 => bind_suf ((take_suf _ r3).trans h3) (fun _ r4 h4 => h4))))
        · split
          · refine bind_suf (up (pO_suf m s)) (fun _ r h => bind_suf ((take_suf _ r).trans h) (fun _ r2 h2 => bind_suf ((pO_suf m r2).trans h2) (fun _ r3 h3 => bind_suf ((take_suf _ r3).trans h3) (fun _ r4 h4 => h4))))
          · exact List.suffix_refl _
/-- A place in a text, by what is left. -/
def posn (s r : List UInt8) : Nat := s.length - r.length
theorem posn_nil (s : List UInt8) : posn s [] = s.length := by simp [posn]
theorem posn_self (s : List UInt8) : posn s s = 0 := by simp [posn]
theorem posn_succ {s r : List UInt8} {c : UInt8} (h : c :: r <:+ s) : posn s (c :: r) + 1 = posn s r ∧ posn s (c :: r) < s.length := by
  have := h.length_le
  simp only [List.length_cons] at this
  simp only [posn, List.length_cons]
  omega
theorem posn_get {s r : List UInt8} {c : UInt8} (h : c :: r <:+ s) : s[posn s (c :: r)]? = some c := by
  obtain ⟨p, rfl⟩ := h
  have : posn (p ++ c :: r) (c :: r) = p.length := by simp [posn]
  rw [this]
  simp
theorem posn_le {s r : List UInt8} : posn s r ≤ s.length := Nat.sub_le _ _
theorem suf_tail {s r : List UInt8} {c : UInt8} (h : c :: r <:+ s) : r <:+ s := (List.suffix_cons c r).trans h


/-! Where trees lie. -/
def TT : Nat := 25
mutual
def Tr.Is (L : List Seg) : Tr → List Value → Prop
  | .node k n ks, vs => ∃ p c xs, vs = [.int .i64 k, .int .i64 n, .slice p ks.length c] ∧ SlAt L p xs ∧ KidsIs L ks xs
def KidsIs (L : List Seg) : List Tr → List Value → Prop
  | [], xs => xs = []
  | t :: ts, xs => ∃ a b, xs = a ++ b ∧ t.Is L a ∧ KidsIs L ts b
end
mutual
def Tr.Own : Tr → List Value → Seg → Prop
  | .node k n ks, vs, s => ∃ p c xs sl ss, vs = [.int .i64 k, .int .i64 n, .slice p ks.length c] ∧ OwnSl 25 3 p ks.length c xs sl ∧ KidsOwn ks xs ss ∧ s = sl ++ ss
def KidsOwn : List Tr → List Value → Seg → Prop
  | [], xs, s => xs = [] ∧ s = []
  | t :: ts, xs, s => ∃ a b s1 s2, xs = a ++ b ∧ s = s1 ++ s2 ∧ t.Own a s1 ∧ KidsOwn ts b s2
end
theorem Tr.Is.len3 {L : List Seg} {t : Tr} {vs : List Value} (h : t.Is L vs) : vs.length = 3 := by
  obtain ⟨k, n, ks⟩ := t
  rw [Tr.Is] at h
  obtain ⟨p, c, xs, rfl, _⟩ := h
  rfl
theorem Tr.Own.len3 {t : Tr} {vs : List Value} {s : Seg} (h : t.Own vs s) : vs.length = 3 := by
  obtain ⟨k, n, ks⟩ := t
  rw [Tr.Own] at h
  obtain ⟨p, c, xs, sl, ss, rfl, _⟩ := h
  rfl
theorem Tr.Is.cells {L : List Seg} {t : Tr} {vs : List Value} (h : t.Is L vs) : ∀ v ∈ vs, isCell v = true := by
  obtain ⟨k, n, ks⟩ := t
  rw [Tr.Is] at h
  obtain ⟨p, c, xs, rfl, _⟩ := h
  simp [isCell]
theorem Tr.Own.cells {t : Tr} {vs : List Value} {s : Seg} (h : t.Own vs s) : ∀ v ∈ vs, isCell v = true := by
  obtain ⟨k, n, ks⟩ := t
  rw [Tr.Own] at h
  obtain ⟨p, c, xs, sl, ss, rfl, _⟩ := h
  simp [isCell]
theorem KidsIs.len : ∀ {L : List Seg} {ks : List Tr} {xs : List Value}, KidsIs L ks xs → xs.length = ks.length * 3
  | L, [], xs, h => by rw [KidsIs] at h; rw [h]; rfl
  | L, t :: ts, xs, h => by
    rw [KidsIs] at h
    obtain ⟨a, b, rfl, ha, hb⟩ := h
    rw [List.length_append, ha.len3, hb.len, List.length_cons]; omega
theorem KidsIs.cells : ∀ {L : List Seg} {ks : List Tr} {xs : List Value}, KidsIs L ks xs → ∀ v ∈ xs, isCell v = true
  | L, [], xs, h, v, hv => by rw [KidsIs] at h; rw [h] at hv; simp at hv
  | L, t :: ts, xs, h, v, hv => by
    rw [KidsIs] at h
    obtain ⟨a, b, rfl, ha, hb⟩ := h
    rcases List.mem_append.1 hv with e | e
    · exact ha.cells v e
    · exact hb.cells v e
theorem KidsIs.get : ∀ {L : List Seg} {ks : List Tr} {xs : List Value} {i : Nat} {t : Tr}, KidsIs L ks xs → ks[i]? = some t → ∃ a, readN xs (i * 3) 3 = some a ∧ t.Is L a
  | L, [], xs, i, t, h, hi => by simp at hi
  | L, x :: ts, xs, 0, t, h, hi => by
    rw [KidsIs] at h
    obtain ⟨a, b, rfl, ha, hb⟩ := h
    have : x = t := by simpa using hi
    subst this
    refine ⟨a, ?_, ha⟩
    have h3 := ha.len3
    unfold readN
    rw [Nat.zero_mul, List.drop_zero, List.take_append_of_le_length (by omega), List.take_of_length_le (by omega)]
    simp [h3]
  | L, x :: ts, xs, i + 1, t, h, hi => by
    rw [KidsIs] at h
    obtain ⟨a, b, rfl, ha, hb⟩ := h
    obtain ⟨v, h1, h2⟩ := hb.get (i := i) (by simpa using hi)
    refine ⟨v, ?_, h2⟩
    have h3 := ha.len3
    unfold readN at h1 ⊢
    rw [show (i + 1) * 3 = a.length + i * 3 by omega, List.drop_length_add_append]
    exact h1
mutual
theorem Tr.Is.mono {L L' : List Seg} (hs : ∀ e, e ∈ L.flatten → e ∈ L'.flatten) : ∀ {t : Tr} {vs : List Value}, t.Is L vs → t.Is L' vs
  | .node k n ks, vs, h => by
    rw [Tr.Is] at h ⊢
    obtain ⟨p, c, xs, hv, hl, hk⟩ := h
    exact ⟨p, c, xs, hv, hl.perm hs, KidsIs.mono hs hk⟩
theorem KidsIs.mono {L L' : List Seg} (hs : ∀ e, e ∈ L.flatten → e ∈ L'.flatten) : ∀ {ks : List Tr} {xs : List Value}, KidsIs L ks xs → KidsIs L' ks xs
  | [], xs, h => by rw [KidsIs] at h ⊢; exact h
  | t :: ts, xs, h => by
    rw [KidsIs] at h ⊢
    obtain ⟨a, b, hx, ha, hb⟩ := h
    exact ⟨a, b, hx, Tr.Is.mono hs ha, KidsIs.mono hs hb⟩
end
theorem Tr.Is.cons {L : List Seg} {s : Seg} {t : Tr} {vs : List Value} (h : t.Is L vs) : t.Is (s :: L) vs := h.mono fun e he => by
  simp only [List.flatten_cons, List.mem_append]; exact .inr he
theorem KidsIs.cons {L : List Seg} {s : Seg} {ks : List Tr} {xs : List Value} (h : KidsIs L ks xs) : KidsIs (s :: L) ks xs := h.mono fun e he => by
  simp only [List.flatten_cons, List.mem_append]; exact .inr he
mutual
theorem Tr.Own.in_ {L : List Seg} : ∀ {t : Tr} {vs : List Value} {s : Seg}, t.Own vs s → (∀ e ∈ s, e ∈ L.flatten) → t.Is L vs
  | .node k n ks, vs, s, h, hs => by
    rw [Tr.Own] at h
    rw [Tr.Is]
    obtain ⟨p, c, xs, sl, ss, hv, ho, hk, rfl⟩ := h
    refine ⟨p, c, xs, hv, ?_, KidsOwn.in_ hk (fun e he => hs e (List.mem_append_right _ he))⟩
    exact (ho.slAt (L := [])).perm fun e he => hs e (List.mem_append_left _ (by simpa using he))
theorem KidsOwn.in_ {L : List Seg} : ∀ {ks : List Tr} {xs : List Value} {s : Seg}, KidsOwn ks xs s → (∀ e ∈ s, e ∈ L.flatten) → KidsIs L ks xs
  | [], xs, s, h, _ => by rw [KidsOwn] at h; rw [KidsIs]; exact h.1
  | t :: ts, xs, s, h, hs => by
    rw [KidsOwn] at h
    rw [KidsIs]
    obtain ⟨a, b, s1, s2, hx, rfl, ha, hb⟩ := h
    exact ⟨a, b, hx, Tr.Own.in_ ha (fun e he => hs e (List.mem_append_left _ he)), KidsOwn.in_ hb (fun e he => hs e (List.mem_append_right _ he))⟩
end
theorem Tr.Own.is {L : List Seg} {t : Tr} {vs : List Value} {s : Seg} (h : t.Own vs s) : t.Is (s :: L) vs := h.in_ fun e he => by
  simp only [List.flatten_cons, List.mem_append]; exact .inl he
theorem KidsOwn.snoc : ∀ {ks : List Tr} {xs : List Value} {s : Seg} {t : Tr} {a : List Value} {s1 : Seg}, KidsOwn ks xs s → t.Own a s1 → KidsOwn (ks ++ [t]) (xs ++ a) (s ++ s1)
  | [], xs, s, t, a, s1, h, ht => by
    rw [KidsOwn] at h
    obtain ⟨rfl, rfl⟩ := h
    rw [List.nil_append, KidsOwn]
    exact ⟨a, [], s1, [], by simp, by simp, ht, by rw [KidsOwn]; exact ⟨rfl, rfl⟩⟩
  | x :: ks, xs, s, t, a, s1, h, ht => by
    rw [KidsOwn] at h
    obtain ⟨a1, b1, s2, s3, rfl, rfl, h1, h2⟩ := h
    rw [List.cons_append, KidsOwn]
    exact ⟨a1, b1 ++ a, s2, s3 ++ s1, by simp, by simp, h1, h2.snoc ht⟩
theorem KidsOwn.nil : KidsOwn [] [] [] := by rw [KidsOwn]; exact ⟨rfl, rfl⟩
theorem KidsOwn.one {t : Tr} {a : List Value} {s : Seg} (h : t.Own a s) : KidsOwn [t] a s := by
  have := KidsOwn.nil.snoc h
  simpa using this
theorem KidsOwn.two {t u : Tr} {a b : List Value} {s s2 : Seg} (h : t.Own a s) (h2 : u.Own b s2) : KidsOwn [t, u] (a ++ b) (s ++ s2) := (KidsOwn.one h).snoc h2
theorem Tr.Own.mk {k n : Int} {ks : List Tr} {p : Option Addr} {c : Nat} {xs : List Value} {sl ss : Seg} (h : OwnSl 25 3 p ks.length c xs sl) (hk : KidsOwn ks xs ss) : (Tr.node k n ks).Own [.int .i64 k, .int .i64 n, .slice p ks.length c] (sl ++ ss) := by
  rw [Tr.Own]
  exact ⟨p, c, xs, sl, ss, rfl, h, hk, rfl⟩
theorem Tr.Own.leaf {k n : Int} : (Tr.node k n []).Own [.int .i64 k, .int .i64 n, .slice none 0 0] [] := Tr.Own.mk (sl := []) (ss := []) OwnSl.nil KidsOwn.nil
def zeroT : Tr := .node 0 0 []
theorem OwnSl.all {e size n : Nat} {b : Nat} {xs : List Value} (h : xs.length = n * size) : OwnSl e size (some ⟨b, 0, none⟩) n n xs [(b, cel xs e)] :=
  ⟨h, .inr ⟨b, xs, rfl, rfl, Nat.le_refl _, h, List.take_length⟩⟩

end Go.Proofs.YtinbeaaloailnaaDoor

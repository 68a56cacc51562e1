/- Numbers of several words: plain facts, rows of words. Numbers of several words in math/big: the loops. -/
import Derived.Test.YtfpphoapknecfaaGreatDoorBesafterBj
import Derived.Laws.CopyRow
namespace Go.Proofs.YtfpphoapknecfaaGreatDoorBesafter
open Go Go.Eng
set_option maxRecDepth 100000
set_option linter.unusedVariables false
set_option linter.unusedSimpArgs false
namespace Nn
/-- The words of a number: at most f of them. -/
def wdF : Nat → Nat → List Nat
  | 0, _ => []
  | f + 1, a => if a = 0 then [] else a % 18446744073709551616 :: wdF f (a / 18446744073709551616)
def wd (a : Nat) : List Nat := wdF 5 a
/-- The number that words tell. -/
def val : List Nat → Nat
  | [] => 0
  | x :: t => x + 18446744073709551616 * val t
theorem val_app : ∀ (xs ys : List Nat), val (xs ++ ys) = val xs + 18446744073709551616 ^ xs.length * val ys
  | [], ys => by simp [val]
  | x :: t, ys => by
    rw [List.cons_append, val, val, val_app t ys, List.length_cons, Nat.pow_succ, Nat.mul_add, Nat.mul_comm (18446744073709551616 ^ t.length) 18446744073709551616, Nat.mul_assoc]
    omega
theorem val_lt : ∀ {ws : List Nat}, (∀ x ∈ ws, x < 18446744073709551616) → val ws < 18446744073709551616 ^ ws.length
  | [], _ => by simp [val]
  | x :: t, h => by
    have h1 := h x List.mem_cons_self
    have h2 := val_lt (ws := t) fun y hy => h y (List.mem_cons_of_mem _ hy)
    rw [val, List.length_cons, Nat.pow_succ, Nat.mul_comm]
    omega
theorem val_zero : ∀ {ws : List Nat}, (∀ j, j < ws.length → ws[j]? = some 0) → val ws = 0
  | [], _ => rfl
  | x :: t, h => by
    have h1 := h 0 (by simp)
    have h2 := val_zero (ws := t) fun j hj => by simpa using h (j + 1) (by simpa using hj)
    simp at h1
    rw [val, h1, h2]
theorem div_pow {a f : Nat} (h : a < 18446744073709551616 ^ (f + 1)) : a / 18446744073709551616 < 18446744073709551616 ^ f :=
  Nat.div_lt_of_lt_mul (by rwa [Nat.pow_succ, Nat.mul_comm] at h)
theorem wdF_val : ∀ {f a : Nat}, a < 18446744073709551616 ^ f → val (wdF f a) = a
  | 0, a, h => by
    have : a = 0 := by rw [Nat.pow_zero] at h; omega
    subst this; rfl
  | f + 1, a, h => by
    unfold wdF
    split
    · next e => rw [e]; rfl
    · rw [val, wdF_val (div_pow h)]
      omega
theorem wdF_lt : ∀ {f a : Nat}, ∀ x ∈ wdF f a, x < 18446744073709551616
  | 0, _, x, h => by cases h
  | f + 1, a, x, h => by
    unfold wdF at h
    split at h
    · cases h
    · rcases List.mem_cons.1 h with rfl | h
      · exact Nat.mod_lt _ (by decide)
      · exact wdF_lt x h
theorem wdF_len : ∀ {f a k : Nat}, a < 18446744073709551616 ^ k → (wdF f a).length ≤ k
  | 0, _, _, _ => Nat.zero_le _
  | f + 1, a, 0, h => by
    have : a = 0 := by rw [Nat.pow_zero] at h; omega
    subst this; simp [wdF]
  | f + 1, a, k + 1, h => by
    unfold wdF
    split
    · exact Nat.zero_le _
    · rw [List.length_cons]
      exact Nat.succ_le_succ (wdF_len (div_pow h))
theorem wdF_ge : ∀ {f a : Nat}, 0 < a → a < 18446744073709551616 ^ f → 0 < (wdF f a).length ∧ 18446744073709551616 ^ ((wdF f a).length - 1) ≤ a
  | 0, a, h0, h => by rw [Nat.pow_zero] at h; omega
  | f + 1, a, h0, h => by
    unfold wdF
    rw [if_neg (by omega), List.length_cons, Nat.add_sub_cancel]
    refine ⟨Nat.succ_pos _, ?_⟩
    by_cases hd : a / 18446744073709551616 = 0
    · rw [hd]
      cases f with
      | zero => simp [wdF]; omega
      | succ f => simp [wdF]; omega
    · obtain ⟨h1, h2⟩ := wdF_ge (f := f) (a := a / 18446744073709551616) (by omega) (div_pow h)
      generalize (wdF f (a / 18446744073709551616)).length = m at h1 h2 ⊢
      obtain ⟨m, rfl⟩ : ∃ k, m = k + 1 := ⟨m - 1, by omega⟩
      rw [Nat.add_sub_cancel] at h2
      rw [Nat.pow_succ]
      generalize 18446744073709551616 ^ m = B at h2 ⊢
      omega
theorem wdF_zero (f : Nat) : wdF f 0 = [] := by cases f <;> simp [wdF]
theorem nmF : ∀ {f : Nat} {ws : List Nat} {i : Nat}, Nm ws i → (∀ x ∈ ws, x < 18446744073709551616) → ws.length ≤ f → ws.take i = wdF f (val ws)
  | f, [], i, _, _, _ => by rw [List.take_nil, val, wdF_zero]
  | 0, x :: t, i, _, _, h => by simp at h
  | f + 1, x :: t, 0, h, _, _ => by
    rw [val_zero fun j hj => h.2.1 j (Nat.zero_le _) hj, wdF_zero, List.take_zero]
  | f + 1, x :: t, i + 1, h, hw, hf => by
    obtain ⟨h1, h2, h3⟩ := h
    have hx := hw x List.mem_cons_self
    have hn : Nm t i := by
      refine ⟨by simpa using h1, fun j hj1 hj2 => by simpa using h2 (j + 1) (by omega) (by simpa using hj2), ?_⟩
      cases i with
      | zero => exact .inl rfl
      | succ i =>
        obtain ⟨y, hy, hy2⟩ := h3.resolve_left (by omega)
        exact .inr ⟨y, by simpa using hy, hy2⟩
    have ih := nmF (f := f) hn (fun y hy => hw y (List.mem_cons_of_mem _ hy)) (by simpa using hf)
    have hpos : 0 < x + 18446744073709551616 * val t := by
      cases i with
      | zero =>
        obtain ⟨y, hy, hy2⟩ := h3.resolve_left (by omega)
        have hxy : x = y := by simpa using hy
        omega
      | succ i =>
        by_cases hv : val t = 0
        · rw [hv, wdF_zero] at ih
          have e := congrArg List.length ih
          rw [List.length_take, List.length_nil] at e
          have h1' : i + 1 ≤ t.length := by simpa using h1
          omega
        · omega
    rw [val, wdF, if_neg (by omega), List.take_succ_cons, ih]
    congr 1
    · omega
    · congr 1; omega
theorem wd_val {a : Nat} (h : a < 18446744073709551616 ^ 5) : val (wd a) = a := wdF_val h
theorem wd_lt {a x : Nat} (h : x ∈ wd a) : x < 18446744073709551616 := wdF_lt x h
theorem wd_none {a : Nat} (h : a < 18446744073709551616 ^ 5) (hl : (wd a).length = 0) : a = 0 := by
  have := wd_val h
  rw [List.eq_nil_of_length_eq_zero hl] at this
  exact this.symm
theorem wd_lt_of_len {a b : Nat} (ha : a < 18446744073709551616 ^ 5) (hb : b < 18446744073709551616 ^ 5) (h : (wd a).length < (wd b).length) : a < b := by
  have h1 := val_lt (ws := wd a) fun x hx => wd_lt hx
  rw [wd_val ha] at h1
  by_cases b0 : b = 0
  · subst b0
    rw [show (wd 0).length = 0 from rfl] at h
    omega
  · obtain ⟨h2, h3⟩ := wdF_ge (f := 5) (a := b) (by omega) hb
    have h4 : 18446744073709551616 ^ (wd a).length ≤ 18446744073709551616 ^ ((wd b).length - 1) := Nat.pow_le_pow_right (by decide) (by omega)
    exact Nat.lt_of_lt_of_le h1 (Nat.le_trans h4 h3)
theorem add_join {xs ys A K : List Nat} {n k k2 : Nat} (hn : n ≤ xs.length) (hAl : A.length = n) (h1 : val A + 18446744073709551616 ^ n * k = val (xs.take n) + val ys) (h2 : val K + 18446744073709551616 ^ (xs.length - n) * k2 = val (xs.drop n) + k) (hKl : K.length = xs.length - n) : val (A ++ (K ++ [k2])) = val xs + val ys := by
  have e1 : val xs = val (xs.take n) + 18446744073709551616 ^ n * val (xs.drop n) := by
    conv => lhs; rw [← List.take_append_drop n xs, val_app, List.length_take, Nat.min_eq_left hn]
  have e2 : 18446744073709551616 ^ n * (val K + 18446744073709551616 ^ (xs.length - n) * k2) = 18446744073709551616 ^ n * val (xs.drop n) + 18446744073709551616 ^ n * k := by rw [h2, Nat.mul_add]
  rw [val_app, val_app, hAl, hKl, e1]
  simp only [val, Nat.mul_zero, Nat.add_zero]
  omega
theorem sub_join {xs ys A K : List Nat} {n k k2 : Nat} (hn : n ≤ xs.length) (hAl : A.length = n) (h1 : val (xs.take n) + 18446744073709551616 ^ n * k = val A + val ys) (h2 : val (xs.drop n) + 18446744073709551616 ^ (xs.length - n) * k2 = val K + k) (hKl : K.length = xs.length - n) (hA : ∀ z ∈ A, z < 18446744073709551616) (hK : ∀ z ∈ K, z < 18446744073709551616) (hle : val ys ≤ val xs) : k2 = 0 ∧ val (A ++ K) = val xs - val ys := by
  have e1 : val xs = val (xs.take n) + 18446744073709551616 ^ n * val (xs.drop n) := by
    conv => lhs; rw [← List.take_append_drop n xs, val_app, List.length_take, Nat.min_eq_left hn]
  have e2 : 18446744073709551616 ^ n * (val (xs.drop n) + 18446744073709551616 ^ (xs.length - n) * k2) = 18446744073709551616 ^ n * val K + 18446744073709551616 ^ n * k := by rw [h2, Nat.mul_add]
  rw [Nat.mul_add, ← Nat.mul_assoc, ← Nat.pow_add, Nat.add_sub_cancel' hn] at e2
  have hW : val (A ++ K) < 18446744073709551616 ^ xs.length := by
    have := val_lt (ws := A ++ K) fun z hz => by rcases List.mem_append.1 hz with h | h; exact hA z h; exact hK z h
    rwa [List.length_append, hAl, hKl, Nat.add_sub_cancel' hn] at this
  have e3 : val (A ++ K) = val A + 18446744073709551616 ^ n * val K := by rw [val_app, hAl]
  have key : val xs + 18446744073709551616 ^ xs.length * k2 = val (A ++ K) + val ys := by rw [e1, e3]; omega
  have hk : k2 = 0 := by
    rcases Nat.eq_zero_or_pos k2 with h | h
    · exact h
    · exfalso
      have := Nat.le_mul_of_pos_right (18446744073709551616 ^ xs.length) h
      omega
  subst hk
  exact ⟨rfl, by omega⟩
theorem nmL {ws : List Nat} {i : Nat} (h : Nm ws i) (hw : ∀ x ∈ ws, x < 18446744073709551616) (hl : ws.length ≤ 5) : i = (wd (val ws)).length ∧ ws.take i = wd (val ws) := by
  have e := nmF (f := 5) h hw hl
  refine ⟨?_, e⟩
  show i = (wdF 5 (val ws)).length
  rw [← e, List.length_take]
  have := h.1
  omega
/-- Sums word by word, with what is carried. -/
def adW : Nat → List Nat → List Nat → List Nat
  | c, x :: xs, y :: ys => (x + y + c) % 18446744073709551616 :: adW ((x + y + c) / 18446744073709551616) xs ys
  | _, _, _ => []
def adC : Nat → List Nat → List Nat → Nat
  | c, x :: xs, y :: ys => adC ((x + y + c) / 18446744073709551616) xs ys
  | c, _, _ => c
def sbW : Nat → List Nat → List Nat → List Nat
  | c, x :: xs, y :: ys => (x + 18446744073709551616 - y - c) % 18446744073709551616 :: sbW (if x < y + c then 1 else 0) xs ys
  | _, _, _ => []
def sbC : Nat → List Nat → List Nat → Nat
  | c, x :: xs, y :: ys => sbC (if x < y + c then 1 else 0) xs ys
  | c, _, _ => c
theorem ad_val : ∀ {xs ys : List Nat} {c : Nat}, xs.length = ys.length → (adW c xs ys).length = xs.length ∧ (∀ z ∈ adW c xs ys, z < 18446744073709551616) ∧ val (adW c xs ys) + 18446744073709551616 ^ xs.length * adC c xs ys = val xs + val ys + c
  | [], [], c, _ => by simp [adW, adC, val]
  | x :: xs, y :: ys, c, h => by
    obtain ⟨h1, h2, h3⟩ := ad_val (xs := xs) (ys := ys) (c := (x + y + c) / 18446744073709551616) (by simpa using h)
    refine ⟨by simp [adW, h1], ?_, ?_⟩
    · intro z hz
      rw [adW] at hz
      rcases List.mem_cons.1 hz with rfl | hz
      · exact Nat.mod_lt _ (by decide)
      · exact h2 z hz
    · rw [adW, adC, val, val, val, List.length_cons, Nat.pow_succ, Nat.mul_comm (18446744073709551616 ^ xs.length) 18446744073709551616, Nat.mul_assoc]
      generalize 18446744073709551616 ^ xs.length * adC ((x + y + c) / 18446744073709551616) xs ys = K at h3 ⊢
      omega
theorem adC_le : ∀ {xs ys : List Nat} {c : Nat}, (∀ x ∈ xs, x < 18446744073709551616) → (∀ y ∈ ys, y < 18446744073709551616) → c ≤ 1 → adC c xs ys ≤ 1
  | x :: xs, y :: ys, c, hx, hy, hc => by
    have h1 := hx x List.mem_cons_self
    have h2 := hy y List.mem_cons_self
    rw [adC]
    exact adC_le (fun z hz => hx z (List.mem_cons_of_mem _ hz)) (fun z hz => hy z (List.mem_cons_of_mem _ hz)) (by omega)
  | [], _, c, _, _, hc => by simpa [adC] using hc
  | _ :: _, [], c, _, _, hc => by simpa [adC] using hc
theorem sb_val : ∀ {xs ys : List Nat} {c : Nat}, xs.length = ys.length → (∀ x ∈ xs, x < 18446744073709551616) → (∀ y ∈ ys, y < 18446744073709551616) → c ≤ 1 → (sbW c xs ys).length = xs.length ∧ (∀ z ∈ sbW c xs ys, z < 18446744073709551616) ∧ sbC c xs ys ≤ 1 ∧ val xs + 18446744073709551616 ^ xs.length * sbC c xs ys = val (sbW c xs ys) + val ys + c
  | [], [], c, _, _, _, hc => by simp [sbW, sbC, val, hc]
  | x :: xs, y :: ys, c, h, hx, hy, hc => by
    have k1 := hx x List.mem_cons_self
    have k2 := hy y List.mem_cons_self
    obtain ⟨h1, h2, h4, h3⟩ := sb_val (xs := xs) (ys := ys) (c := if x < y + c then 1 else 0) (by simpa using h) (fun z hz => hx z (List.mem_cons_of_mem _ hz)) (fun z hz => hy z (List.mem_cons_of_mem _ hz)) (by split <;> omega)
    refine ⟨by simp [sbW, h1], ?_, by rw [sbC]; exact h4, ?_⟩
    · intro z hz
      rw [sbW] at hz
      rcases List.mem_cons.1 hz with rfl | hz
      · exact Nat.mod_lt _ (by decide)
      · exact h2 z hz
    · rw [sbW, sbC, val, val, val, List.length_cons, Nat.pow_succ, Nat.mul_comm (18446744073709551616 ^ xs.length) 18446744073709551616, Nat.mul_assoc]
      by_cases hb : x < y + c
      · rw [if_pos hb] at h3 ⊢
        generalize 18446744073709551616 ^ xs.length * sbC 1 xs ys = K at h3 ⊢
        omega
      · rw [if_neg hb] at h3 ⊢
        generalize 18446744073709551616 ^ xs.length * sbC 0 xs ys = K at h3 ⊢
        omega
/-- One carried word through a row. -/
def adK : Nat → List Nat → List Nat
  | _, [] => []
  | k, x :: t => (x + k) % 18446744073709551616 :: adK ((x + k) / 18446744073709551616) t
def adKC : Nat → List Nat → Nat
  | k, [] => k
  | k, x :: t => adKC ((x + k) / 18446744073709551616) t
def sbK : Nat → List Nat → List Nat
  | _, [] => []
  | k, x :: t => (x + 18446744073709551616 - k) % 18446744073709551616 :: sbK (if x < k then 1 else 0) t
def sbKC : Nat → List Nat → Nat
  | k, [] => k
  | k, x :: t => sbKC (if x < k then 1 else 0) t
theorem adK_val : ∀ {xs : List Nat} {k : Nat}, (adK k xs).length = xs.length ∧ (∀ z ∈ adK k xs, z < 18446744073709551616) ∧ val (adK k xs) + 18446744073709551616 ^ xs.length * adKC k xs = val xs + k
  | [], k => by simp [adK, adKC, val]
  | x :: xs, k => by
    obtain ⟨h1, h2, h3⟩ := adK_val (xs := xs) (k := (x + k) / 18446744073709551616)
    refine ⟨by simp [adK, h1], ?_, ?_⟩
    · intro z hz
      rw [adK] at hz
      rcases List.mem_cons.1 hz with rfl | hz
      · exact Nat.mod_lt _ (by decide)
      · exact h2 z hz
    · rw [adK, adKC, val, val, List.length_cons, Nat.pow_succ, Nat.mul_comm (18446744073709551616 ^ xs.length) 18446744073709551616, Nat.mul_assoc]
      generalize 18446744073709551616 ^ xs.length * adKC ((x + k) / 18446744073709551616) xs = K at h3 ⊢
      omega
theorem adK_zero : ∀ {xs : List Nat}, (∀ x ∈ xs, x < 18446744073709551616) → adK 0 xs = xs ∧ adKC 0 xs = 0
  | [], _ => ⟨rfl, rfl⟩
  | x :: xs, h => by
    have h1 := h x List.mem_cons_self
    obtain ⟨h2, h3⟩ := adK_zero (xs := xs) fun z hz => h z (List.mem_cons_of_mem _ hz)
    rw [adK, adKC, Nat.add_zero, Nat.mod_eq_of_lt h1, Nat.div_eq_of_lt h1, h2, h3]
    exact ⟨rfl, rfl⟩
theorem adKC_le : ∀ {xs : List Nat} {k : Nat}, (∀ x ∈ xs, x < 18446744073709551616) → k ≤ 1 → adKC k xs ≤ 1
  | [], k, _, hk => by simpa [adKC] using hk
  | x :: xs, k, h, hk => by
    have h1 := h x List.mem_cons_self
    rw [adKC]
    exact adKC_le (fun z hz => h z (List.mem_cons_of_mem _ hz)) (by omega)
theorem sbK_val : ∀ {xs : List Nat} {k : Nat}, (∀ x ∈ xs, x < 18446744073709551616) → k ≤ 1 → (sbK k xs).length = xs.length ∧ (∀ z ∈ sbK k xs, z < 18446744073709551616) ∧ sbKC k xs ≤ 1 ∧ val xs + 18446744073709551616 ^ xs.length * sbKC k xs = val (sbK k xs) + k
  | [], k, _, hk => by simp [sbK, sbKC, val, hk]
  | x :: xs, k, hx, hk => by
    have k1 := hx x List.mem_cons_self
    obtain ⟨h1, h2, h4, h3⟩ := sbK_val (xs := xs) (k := if x < k then 1 else 0) (fun z hz => hx z (List.mem_cons_of_mem _ hz)) (by split <;> omega)
    refine ⟨by simp [sbK, h1], ?_, by rw [sbKC]; exact h4, ?_⟩
    · intro z hz
      rw [sbK] at hz
      rcases List.mem_cons.1 hz with rfl | hz
      · exact Nat.mod_lt _ (by decide)
      · exact h2 z hz
    · rw [sbK, sbKC, val, val, List.length_cons, Nat.pow_succ, Nat.mul_comm (18446744073709551616 ^ xs.length) 18446744073709551616, Nat.mul_assoc]
      by_cases hb : x < k
      · rw [if_pos hb] at h3 ⊢
        generalize 18446744073709551616 ^ xs.length * sbKC 1 xs = K at h3 ⊢
        omega
      · rw [if_neg hb] at h3 ⊢
        generalize 18446744073709551616 ^ xs.length * sbKC 0 xs = K at h3 ⊢
        omega
theorem sbK_zero : ∀ {xs : List Nat}, (∀ x ∈ xs, x < 18446744073709551616) → sbK 0 xs = xs ∧ sbKC 0 xs = 0
  | [], _ => ⟨rfl, rfl⟩
  | x :: xs, h => by
    have h1 := h x List.mem_cons_self
    obtain ⟨h2, h3⟩ := sbK_zero (xs := xs) fun z hz => h z (List.mem_cons_of_mem _ hz)
    have e : (x + 18446744073709551616 - 0) % 18446744073709551616 = x := by omega
    rw [sbK, sbKC, e, if_neg (by omega), h2, h3]
    exact ⟨rfl, rfl⟩
/-- Rows of words of one length, held against each other from the top. -/
theorem val_cmp {xs ys : List Nat} {i x y : Nat} (hx : ∀ z ∈ xs, z < 18446744073709551616) (hy : ∀ z ∈ ys, z < 18446744073709551616) (h1 : xs[i]? = some x) (h2 : ys[i]? = some y) (ht : xs.drop (i + 1) = ys.drop (i + 1)) (h0 : x = y → i = 0) :
    (x < y → val xs < val ys) ∧ (y < x → val ys < val xs) ∧ (x = y → val xs = val ys) := by
  have split : ∀ {zs : List Nat} {z : Nat}, zs[i]? = some z → val zs = val (zs.take i) + 18446744073709551616 ^ i * (z + 18446744073709551616 * val (zs.drop (i + 1))) := by
    intro zs z h
    obtain ⟨hl, he⟩ := List.getElem?_eq_some_iff.1 h
    conv => lhs; rw [← List.take_append_drop i zs, val_app, List.drop_eq_getElem_cons hl, he, val, List.length_take, Nat.min_eq_left (by omega)]
  have k1 := split h1
  have k2 := split h2
  rw [ht] at k1
  generalize val (ys.drop (i + 1)) = D at k1 k2
  have m1 : val (xs.take i) < 18446744073709551616 ^ i := by
    have := val_lt (ws := xs.take i) fun z hz => hx z (List.mem_of_mem_take hz)
    rwa [List.length_take, Nat.min_eq_left (by have := (List.getElem?_eq_some_iff.1 h1).1; omega)] at this
  have m2 : val (ys.take i) < 18446744073709551616 ^ i := by
    have := val_lt (ws := ys.take i) fun z hz => hy z (List.mem_of_mem_take hz)
    rwa [List.length_take, Nat.min_eq_left (by have := (List.getElem?_eq_some_iff.1 h2).1; omega)] at this
  have key : ∀ {a b u v : Nat}, u < 18446744073709551616 ^ i → a < b → u + 18446744073709551616 ^ i * (a + 18446744073709551616 * D) < v + 18446744073709551616 ^ i * (b + 18446744073709551616 * D) := by
    intro a b u v hu hab
    have : 18446744073709551616 ^ i * (a + 18446744073709551616 * D) + 18446744073709551616 ^ i ≤ 18446744073709551616 ^ i * (b + 18446744073709551616 * D) := by
      rw [← Nat.mul_succ]
      exact Nat.mul_le_mul_left _ (by omega)
    omega
  refine ⟨fun h => by rw [k1, k2]; exact key m1 h, fun h => by rw [k1, k2]; exact key m2 h, fun h => ?_⟩
  have hi := h0 h
  subst hi h
  rw [k1, k2]; simp [val]


/-- A row whose cells from o on hold these words. -/
def RW (l : List Value) (o : Nat) (W : List Nat) : List Value := l.take o ++ (u64sV W ++ l.drop (o + W.length))
theorem RW_nil (l : List Value) (o : Nat) : RW l o [] = l := by simp [RW, u64sV]
theorem RW_len {l : List Value} {o : Nat} {W : List Nat} (h : o + W.length ≤ l.length) : (RW l o W).length = l.length := by
  simp [RW, u64sV]; omega
theorem RW_get {l : List Value} {o j : Nat} {W : List Nat} (h : o + W.length ≤ l.length) (hj : o + W.length ≤ j) : (RW l o W)[j]? = l[j]? := by
  unfold RW
  rw [List.getElem?_append_right (by simp; omega), List.getElem?_append_right (by simp [u64sV]; omega), List.getElem?_drop]
  congr 1
  simp [u64sV]; omega
theorem RW_set {l : List Value} {o v : Nat} {W : List Nat} (h : o + W.length < l.length) : (RW l o W).set (o + W.length) (.int .u64 (v : Int)) = RW l o (W ++ [v]) := by
  unfold RW
  rw [List.set_append_right _ _ (by simp; omega), List.set_append_right _ _ (by simp [u64sV]; omega)]
  have e1 : (l.take o).length = o := by simp; omega
  have e2 : (u64sV W).length = W.length := u64sV_len W
  rw [e1, e2, Nat.add_sub_cancel_left, Nat.sub_self, List.drop_eq_getElem_cons h, List.set_cons_zero, u64sV_app, List.append_assoc, List.length_append, ← Nat.add_assoc]
  rfl
theorem RW_own {l : List Value} {o : Nat} {W R : List Nat} (h : o + W.length + R.length ≤ l.length) (hr : ∀ j, j < R.length → l[o + W.length + j]? = (u64sV R)[j]?) : RW l o W = RW l o (W ++ R) := by
  have e : l.drop (o + W.length) = u64sV R ++ l.drop (o + W.length + R.length) := by
    refine List.ext_getElem? fun j => ?_
    rw [List.getElem?_drop]
    by_cases hj : j < R.length
    · rw [List.getElem?_append_left (by rw [u64sV_len]; exact hj), hr j hj]
    · rw [List.getElem?_append_right (by rw [u64sV_len]; omega), List.getElem?_drop, u64sV_len]
      congr 1; omega
  unfold RW
  rw [e, u64sV_app, List.append_assoc, List.length_append, Nat.add_assoc]
theorem RW_copy {l : List Value} {o : Nat} {W R : List Nat} (h : o + W.length + R.length ≤ l.length) : (RW l o W).take (o + W.length) ++ (u64sV R ++ (RW l o W).drop (o + W.length + R.length)) = RW l o (W ++ R) := by
  have e1 : (l.take o ++ u64sV W).length = o + W.length := by simp [u64sV]; omega
  have e2 : RW l o W = (l.take o ++ u64sV W) ++ l.drop (o + W.length) := by simp [RW, List.append_assoc]
  rw [e2, List.take_left' e1, List.drop_append, e1, List.drop_eq_nil_of_le (by rw [e1]; omega), List.nil_append, List.drop_drop]
  unfold RW
  rw [u64sV_app, List.append_assoc, List.append_assoc, List.length_append]
  congr 4
  omega
theorem RW_RW {l : List Value} {A K : List Nat} (h : A.length + K.length ≤ l.length) : RW (RW l 0 A) A.length K = RW l 0 (A ++ K) := by
  refine List.ext_getElem? fun j => ?_
  have hA : (RW l 0 A).take A.length = u64sV A := by
    unfold RW
    rw [List.take_zero, List.nil_append, List.take_left' (u64sV_len A)]
  have hD : (RW l 0 A).drop (A.length + K.length) = l.drop (A.length + K.length) := by
    unfold RW
    rw [List.take_zero, List.nil_append, List.drop_append, u64sV_len, List.drop_eq_nil_of_le (by rw [u64sV_len]; omega), List.nil_append, List.drop_drop]
    congr 1; omega
  rw [RW, hA, hD, RW, List.take_zero, List.nil_append, u64sV_app, List.append_assoc, List.length_append, Nat.zero_add]
theorem RW_take {l : List Value} {W : List Nat} {i : Nat} (h : i ≤ W.length) : (RW l 0 W).take i = u64sV (W.take i) := by
  unfold RW
  rw [List.take_zero, List.nil_append, List.take_append_of_le_length (by rw [u64sV_len]; exact h)]
  simp [u64sV, List.map_take]
section
variable {L : List Seg} {q : Nat} {T : TypeId} {w0 w : World}
/-- A row read while the cells ahead are written. -/
theorem see {l0 l : List Value} {b ob o i : Nat} {xs : List Nat} {x : Nat} (hs : SlAt ([(q, cel l0 T)] :: L) (some ⟨b, ob, none⟩) (u64sV xs)) (hal : b = q → o ≤ ob) (hx : xs[i]? = some x) (hd : ∀ j, o + i ≤ j → l[j]? = l0[j]?) :
    ∃ vs, SlAt ([(q, cel l T)] :: L) (some ⟨b, ob, none⟩) vs ∧ vs[i]? = some (.int .u64 (x : Int)) := by
  have hxv := u64sV_get hx
  rcases hs with hs | ⟨b', off, C, T', fz, hp, hm, hc⟩
  · rw [hs] at hxv; cases hxv
  · cases hp
    have hci := hc i (by rw [u64sV_len]; exact (List.getElem?_eq_some_iff.1 hx).1)
    rw [List.flatten_cons, List.mem_append] at hm
    rcases hm with hm | hm
    · simp only [List.mem_singleton, Prod.mk.injEq, cel, Obj.cells.injEq] at hm
      obtain ⟨rfl, rfl, rfl, rfl⟩ := hm
      refine ⟨l.drop ob, .inr ⟨b, ob, l.toArray, _, _, rfl, List.mem_append_left _ (List.mem_singleton.2 rfl), fun j _ => by simp⟩, ?_⟩
      have h0 : l0[ob + i]? = (u64sV xs)[i]? := by simpa using hci
      rw [List.getElem?_drop, hd _ (by have := hal rfl; omega), h0, hxv]
    · exact ⟨u64sV xs, .inr ⟨b, ob, C, T', fz, rfl, List.mem_append_right _ hm, hc⟩, hxv⟩
theorem tail_at {l0 l : List Value} {b ob o n : Nat} {xs : List Nat} (hs : SlAt ([(q, cel l0 T)] :: L) (some ⟨b, ob, none⟩) (u64sV xs)) (hal : b = q → o ≤ ob) (hd : ∀ j, o + n ≤ j → l[j]? = l0[j]?) :
    SlAt ([(q, cel l T)] :: L) (some ⟨b, ob + n, none⟩) (u64sV (xs.drop n)) := by
  have e : u64sV (xs.drop n) = (u64sV xs).drop n := by simp [u64sV, List.map_drop]
  rw [e]
  rcases hs with hs | ⟨b', off, C, T', fz, hp, hm, hc⟩
  · rw [hs]; exact .inl (by simp)
  · cases hp
    rw [List.flatten_cons, List.mem_append] at hm
    rcases hm with hm | hm
    · simp only [List.mem_singleton, Prod.mk.injEq, cel, Obj.cells.injEq] at hm
      obtain ⟨rfl, rfl, rfl, rfl⟩ := hm
      refine .inr ⟨b, ob + n, l.toArray, _, _, rfl, List.mem_append_left _ (List.mem_singleton.2 rfl), fun j hj => ?_⟩
      have hci := hc (n + j) (by rw [List.length_drop] at hj; omega)
      have h0 : l0[ob + (n + j)]? = (u64sV xs)[n + j]? := by simpa using hci
      rw [List.getElem?_drop, ← h0, ← hd _ (by have := hal rfl; omega)]
      simp [Nat.add_assoc]
    · refine .inr ⟨b, ob + n, C, T', fz, rfl, List.mem_append_right _ hm, fun j hj => ?_⟩
      rw [List.getElem?_drop, ← hc (n + j) (by rw [List.length_drop] at hj; omega), Nat.add_assoc]
theorem behZ {n c r q o : Nat} (h : n ≤ c) : n - r = 0 ∨ behind (some ⟨q, o, none⟩) c r 1 = some ⟨q, o + r, none⟩ := by
  by_cases e : c = r
  · exact .inl (by omega)
  · exact .inr (behind_at e)
theorem beh_at {M : List Seg} {p : Option Addr} {xs : List Nat} {c r : Nat} (h : SlAt M p (u64sV xs)) (hc : xs.length ≤ c) : SlAt M (behind p c r 1) (u64sV (xs.drop r)) := by
  have := SlAt.behind (cap := c) (r := r) (sz := 1) h (by rw [u64sV_len]; omega)
  rw [Nat.mul_one] at this
  have e : u64sV (xs.drop r) = (u64sV xs).drop r := by simp [u64sV, List.map_drop]
  rw [e]; exact this
theorem see_ne {l0 l : List Value} {b ob : Nat} {xs : List Value} (hs : SlAt ([(q, cel l0 T)] :: L) (some ⟨b, ob, none⟩) xs) (hne : b ≠ q) : SlAt ([(q, cel l T)] :: L) (some ⟨b, ob, none⟩) xs := by
  rcases hs with hs | ⟨b', off, C, T', fz, hp, hm, hc⟩
  · exact .inl hs
  · cases hp
    rw [List.flatten_cons, List.mem_append] at hm
    rcases hm with hm | hm
    · simp only [List.mem_singleton, Prod.mk.injEq] at hm
      exact absurd hm.1 hne
    · exact .inr ⟨b, ob, C, T', fz, rfl, List.mem_append_right _ hm, hc⟩
theorem own_at {l0 : List Value} {o : Nat} {xs : List Nat} (H : Hp w0 w ([(q, cel l0 T)] :: L)) (hs : SlAt ([(q, cel l0 T)] :: L) (some ⟨q, o, none⟩) (u64sV xs)) : ∀ j, j < xs.length → l0[o + j]? = (u64sV xs)[j]? := by
  intro j hj
  rcases hs with hs | ⟨b', off, C, T', fz, hp, hm, hc⟩
  · have := congrArg List.length hs
    rw [u64sV_len, List.length_nil] at this
    omega
  · cases hp
    have h1 := H.mem _ hm
    have h2 := H.mem (q, cel l0 T) (List.mem_append_left _ (List.mem_singleton.2 rfl))
    rw [h1] at h2
    cases h2
    have := hc j (by rw [u64sV_len]; exact hj)
    simpa using this
end
section
variable {P : Program} {w w0 : World} {L : List Seg} {ρ : Operand → Value} {d : Option Tmp} {x y : Operand} {ty : TypeId} {pos : String} {af : Array Edge} {g : Option (Nat × Bool)}
/-- A copy into an own row, from the cell o on. -/
theorem EX.copyO {t t' e T : TypeId} {dp p : Option Addr} {q o n c c2 i : Nat} {l ys : List Value} (H : Hp w0 w L) (hx : ρ x = .slice dp n c) (hy : ρ y = .slice p n c2) (hu : P.underlying t = some (.slice e)) (hsz : (P.info? e).map (·.size) = some 1)
    (hi : L[i]? = some [(q, cel l T)]) (hd : n = 0 ∨ dp = some ⟨q, o, none⟩) (hs : SlAt L p ys) (hl : ys.length = n) (hle : o + n ≤ l.length) (hcell : ∀ v ∈ ys, isCell v = true) :
    Does P ρ ⟨d, .call { callee := .builtin .copy, args := #[x, y], argTypes := #[t, t'] }, ty, pos, af, g⟩ w fun u w' => u = .int .i64 (n : Int) ∧ Hp w0 w' (L.set i [(q, cel (l.take o ++ (ys ++ l.drop (o + n))) T)]) := by
  subst hl
  by_cases h0 : ys.length = 0
  · have hrun := run_copy_none (P := P) w t t' ty e dp p ys.length c ys.length c2 hu hsz (by rw [h0]; rfl)
    have hyz := List.eq_nil_of_length_eq_zero h0
    subst hyz
    refine Does.of_run (v := goInt 0) (w' := w) ?_ ⟨rfl, ?_⟩
    · simp [execOp, resolve, invoke, builtin, hx, hy] at hrun ⊢
      simp [hrun]
    · rw [List.nil_append, List.length_nil, Nat.add_zero, List.take_append_drop]
      have : L.set i [(q, cel l T)] = L := by
        refine List.ext_getElem? fun j => ?_
        rw [List.getElem?_set]
        by_cases e : i = j
        · subst e
          rw [if_pos rfl, if_pos (List.getElem?_eq_some_iff.1 hi).1, hi]
        · rw [if_neg e]
      rw [this]; exact H
  · obtain rfl := hd.resolve_left h0
    rcases hs with hs | ⟨b, off, C, TT, fz, rfl, hm, hc⟩
    · subst hs; simp at h0
    have hg := H.get1 hi
    have hb := H.mem _ hm
    have hrun := run_copy_row (P := P) w t t' ty e q o ys.length c ⟨b, off, none⟩ ys.length c2 l.toArray T ys hu hsz hg (by simp) (fun j v hj => by
      have hjl := (List.getElem?_eq_some_iff.1 hj).1
      have hc2 := hc j hjl
      rw [hj] at hc2
      have e : (⟨b, off, none⟩ : Addr).add j = ⟨b, off + j, none⟩ := by
        unfold Addr.add
        split
        · next h => subst h; rfl
        · rfl
      rw [e]
      simp [World.cell?, hb, hc2]) (by simpa using hle) (fun v hv => by have := hcell v hv; cases v <;> first | rfl | cases this)
    refine Does.of_run (v := goInt ys.length) (w' := w.setRow q (l.toArray.toList.take o ++ ys ++ l.toArray.toList.drop (o + ys.length)).toArray) ?_ ⟨rfl, ?_⟩
    · simp [execOp, resolve, invoke, builtin, hx, hy] at hrun ⊢
      simp [hrun]
    · refine H.set hi (heap' := (w.setRow q _).heap) (by simp [World.setRow]) ?_ (fun c hc => setRow_other w q c _ hc)
      simp only [World.setRow, Array.getElem?_modify, if_true, hg]
      simp [cel]
end

/-- A row of words that can be read: it begins at its block's head. -/
def RowAt (L : List Seg) (p : Option Addr) (xs : List Nat) (c : Nat) : Prop :=
  xs.length ≤ c ∧ (∀ a, p = some a → a.spot = none) ∧ SlAt L p (u64sV xs) ∧ (0 < xs.length → ∃ b C T, p = some ⟨b, 0, none⟩ ∧ (b, Obj.cells C T (0, 0)) ∈ L.flatten)
theorem RowAt.mono {L L' : List Seg} {p : Option Addr} {xs : List Nat} {c : Nat} (h : RowAt L p xs c) (hs : ∀ e, e ∈ L.flatten → e ∈ L'.flatten) : RowAt L' p xs c :=
  ⟨h.1, h.2.1, h.2.2.1.perm hs, fun hx => by obtain ⟨b, C, T, h1, h2⟩ := h.2.2.2 hx; exact ⟨b, C, T, h1, hs _ h2⟩⟩
theorem RowAt.cons {L : List Seg} {s : Seg} {p : Option Addr} {xs : List Nat} {c : Nat} (h : RowAt L p xs c) : RowAt (s :: L) p xs c :=
  h.mono fun e he => by rw [List.flatten_cons]; exact List.mem_append_right _ he
theorem rowAt_own {L : List Seg} {q : Option Addr} {ws : List Nat} {c : Nat} {s : Seg} (h : OwnW q ws c s) : RowAt (s :: L) q ws c :=
  ⟨by have := h.le; simpa using this, h.spot, OwnSl.slAt h, fun hw => by
    obtain ⟨g, l, rfl, rfl, _⟩ := ownW_some h hw
    exact ⟨g, _, _, rfl, List.mem_append_left _ (List.mem_singleton.2 rfl)⟩⟩
theorem ownW_RW {q c i : Nat} {W : List Nat} {l : List Value} {a : Nat} (h : i = (wd a).length ∧ W.take i = wd a) (hi : i ≤ W.length) (hl : l.length = c) (hW : W.length ≤ c) : OwnW (some ⟨q, 0, none⟩) (wd a) c [(q, cel (RW l 0 W) 63)] := by
  obtain ⟨h1, h2⟩ := h
  refine ownW_row (by rw [RW_len (by omega)]; exact hl) (by omega) ?_
  rw [← h1, RW_take hi, h2]
theorem u64sV_drop {xs : List Nat} {n : Nat} : u64sV (xs.drop n) = (u64sV xs).drop n := by simp [u64sV, List.map_drop]
theorem u64sV_take {xs : List Nat} {n : Nat} : u64sV (xs.take n) = (u64sV xs).take n := by simp [u64sV, List.map_take]

set_option maxHeartbeats 1600000 in
theorem addVV_b {w0 w : World} {L : List Seg} {q n c1 c2 c3 : Nat} {px py : Option Addr} {xs ys : List Nat} {l0 : List Value} (H : Hp w0 w ([(q, cel (l0) 63)] :: L)) (hn : 0 < n) (hn9 : n ≤ 9) (hl : n ≤ l0.length) (hs : SlAt ([(q, cel (l0) 63)] :: L) px (u64sV xs)) (hs2 : SlAt ([(q, cel (l0) 63)] :: L) py (u64sV ys)) (hx : xs.length = n) (hy : ys.length = n) (hwx : ∀ z ∈ xs, z < 18446744073709551616) (hwy : ∀ z ∈ ys, z < 18446744073709551616) : Ret Tryz.prog 31 [.slice (some ⟨q, 0, none⟩) n c1, .slice px n c2, .slice py n c3] w fun v w' => v = .int .u64 ((adC 0 xs ys : Nat) : Int) ∧ Hp w0 w' ([(q, cel (RW l0 0 (adW 0 xs ys)) 63)] :: L) := by
  refine Calls.of_J (n := 47) Tryz.func31 rfl rfl rfl ?_
  refine J.seq ?_
  obtain ⟨pb, po, rfl, hpp⟩ := hs.some (by rw [u64sV_len]; omega)
  obtain ⟨pb2, po2, rfl, hpp2⟩ := hs2.some (by rw [u64sV_len]; omega)
  refine J.region ?_
  refine JL.go trivial (RX.assign) ?_
  refine JL.nil ?_
  refine J.seq ?_
  refine J.seq ?_
  refine J.region ?_
  refine JL.go trivial (RX.movev (v := Value.slice _ _ _) rfl) ?_
  refine JL.go trivial (RX.len_slice rfl (by rw [sl50]; rfl) rfl) ?_
  refine JL.go trivial (RX.movev (v := Value.slice _ _ _) rfl) ?_
  refine JL.go trivial (RX.len_slice rfl (by rw [sl50]; rfl) rfl) ?_
  refine JL.go trivial (RX.ne rfl rfl) ?_
  refine JL.go trivial (RX.movev (v := Value.bool _) rfl) ?_
  refine JL.go ⟨_, rfl, (decide_eq_false (by simp))⟩ (RX.movev (v := Value.slice _ _ _) rfl) ?_
  refine JL.go ⟨_, rfl, (decide_eq_false (by simp))⟩ (RX.len_slice rfl (by rw [sl50]; rfl) rfl) ?_
  refine JL.go ⟨_, rfl, (decide_eq_false (by simp))⟩ (RX.movev (v := Value.slice _ _ _) rfl) ?_
  refine JL.go ⟨_, rfl, (decide_eq_false (by simp))⟩ (RX.len_slice rfl (by rw [sl50]; rfl) rfl) ?_
  refine JL.go ⟨_, rfl, (decide_eq_false (by simp))⟩ (RX.ne rfl rfl) ?_
  refine JL.go trivial (RX.pick_f rfl (decide_eq_false (by simp))) ?_
  refine JL.nil ?_
  refine J.cond_f rfl (decide_eq_false (by simp)) ?_
  refine J.skip ?_
  refine J.seq ?_
  refine J.seq ?_
  refine J.region ?_
  refine JL.go trivial (RX.movev (v := Value.slice _ _ _) rfl) ?_
  refine JL.go trivial (RX.len_slice rfl (by rw [sl50]; rfl) rfl) ?_
  refine JL.go trivial (RX.move) ?_
  refine JL.nil ?_
  refine J.block ?_
  refine J.loop (ι := Nat × Nat × List Nat) (S := fun z => [(25, .int .i64 ((z.1 : Nat) : Int)), (6, .int .u64 ((z.2.1 : Nat) : Int))]) (Φ := fun z w => z.1 ≤ n ∧ z.2.2.length = z.1 ∧ z.2.1 ≤ 1 ∧ z.2.2 ++ adW z.2.1 (xs.drop z.1) (ys.drop z.1) = adW 0 xs ys ∧ adC z.2.1 (xs.drop z.1) (ys.drop z.1) = adC 0 xs ys ∧ Hp w0 w ([(q, cel (RW l0 0 z.2.2) 63)] :: L)) (μ := fun z => n - z.1) (C := [(0, _), (1, _), (2, _), (24, _)]) (0, 0, []) ⟨rfl, rfl, rfl, rfl, trivial⟩ ⟨rfl, rfl, trivial⟩ ?_ ?_
  · exact ⟨by simp, rfl, by simp, by simp, by simp, by rw [RW_nil]; exact H⟩
  clear H
  rintro ⟨i, c, zs⟩ ρ w ⟨hi, hzl, hc, hW, hC, H⟩ IH
  simp only at hi hzl hc hW hC H
  dsimp only
  refine J.seq ?_
  refine J.region ?_
  refine JL.go trivial (RX.lt rfl rfl) ?_
  refine JL.nil ?_
  refine J.seq ?_
  refine J.cond_d rfl (fun hlt => ?_) (fun hlt => ?_)
  · skip
    obtain ⟨x, hxi⟩ : ∃ x, xs[i]? = some x := ⟨_, List.getElem?_eq_getElem (by omega)⟩
    obtain ⟨y, hyi⟩ : ∃ y, ys[i]? = some y := ⟨_, List.getElem?_eq_getElem (by omega)⟩
    have hxb := hwx x (List.mem_of_getElem? hxi)
    have hyb := hwy y (List.mem_of_getElem? hyi)
    have hsame : ∀ j, 0 + i ≤ j → (RW l0 0 zs)[j]? = l0[j]? := fun j hj => RW_get (by omega) (by omega)
    obtain ⟨vx, hvx, hvxi⟩ := see (o := 0) hs (fun _ => Nat.zero_le _) hxi hsame
    obtain ⟨vy, hvy, hvyi⟩ := see (o := 0) hs2 (fun _ => Nat.zero_le _) hyi hsame
    refine J.skip ?_
    refine J.seq ?_
    refine J.block ?_
    refine J.seq ?_
    refine J.region ?_
    refine JL.go trivial (RX.movev (v := Value.int _ _) rfl) ?_
    refine JL.go trivial (RX.assignv (v := Value.int _ _) rfl) ?_
    refine JL.nil ?_
    refine J.seq ?_
    refine J.quietH H hmix (by kernel_rfl) ?_
    refine JQ.go trivial (fun w H => RX.movev (v := Value.slice _ _ _) rfl) ?_
    refine JQ.go trivial (fun w H => RX.movev (v := Value.int _ _) rfl) ?_
    refine JQ.go trivial (fun w H => RX.indexAddr rfl rfl sl50 (by omega) (by omega) (o' := po + i) (by omega)) ?_
    refine JQ.go trivial (fun w H => RX.loadS H hvx rfl (j := i) rfl (v := .int .u64 (x : Int)) hvxi one63) ?_
    refine JQ.go trivial (fun w H => RX.movev (v := Value.slice _ _ _) rfl) ?_
    refine JQ.go trivial (fun w H => RX.movev (v := Value.int _ _) rfl) ?_
    refine JQ.go trivial (fun w H => RX.indexAddr rfl rfl sl50 (by omega) (by omega) (o' := po2 + i) (by omega)) ?_
    refine JQ.go trivial (fun w H => RX.loadS H hvy rfl (j := i) rfl (v := .int .u64 (y : Int)) hvyi one63) ?_
    refine JQ.go trivial (fun w H => RX.movev (v := Value.int _ _) rfl) ?_
    refine JQ.call trivial (fun w H => run_callq rfl cl54 rfl) (fun w H => (bAdd_b (c := c) H hc)) ?_
    refine JQ.go trivial (fun w H => RX.movev (v := Value.tuple _) rfl) ?_
    refine JQ.go trivial (fun w H => RX.extract rfl rfl) ?_
    refine JQ.go trivial (fun w H => RX.extract rfl rfl) ?_
    refine JQ.go trivial (fun w H => RX.assignv (v := Value.int _ _) rfl) ?_
    refine JQ.go trivial (fun w H => RX.assignv (v := Value.int _ _) rfl) ?_
    refine JQ.nil fun w H => ?_
    refine J.seq ?_
    refine J.region ?_
    refine JL.go trivial (RX.movev (v := Value.slice _ _ _) rfl) ?_
    refine JL.go trivial (RX.movev (v := Value.int _ _) rfl) ?_
    refine JL.go trivial (RX.movev (v := Value.int _ _) rfl) ?_
    refine JL.go trivial (RX.indexAddr rfl rfl sl50 (by omega) (by omega) (o' := i) (by omega)) ?_
    refine JL.does trivial (EX.store (v := Value.int _ _) H rfl rfl (i := 0) rfl rfl (by rw [RW_len (by omega)]; omega) sz63 rfl rfl) ?_
    rintro _ w H
    refine JL.nil ?_
    refine J.region ?_
    refine JL.go trivial (RX.movev (v := Value.int _ _) rfl) ?_
    refine JL.go trivial (RX.assignv (v := Value.int _ _) rfl) ?_
    refine JL.nil ?_
    refine J.inBlock ?_
    refine J.region ?_
    refine JL.go trivial (RX.add rfl rfl (wi (n := i + 1) (by omega) (by omega))) ?_
    refine JL.go trivial (RX.movev (v := Value.int _ _) rfl) ?_
    refine JL.nil ?_
    simp only [List.set_cons_zero] at H
    rw [show i = 0 + zs.length by omega, RW_set (by omega)] at H
    have hdx : xs.drop i = x :: xs.drop (i + 1) := by obtain ⟨h1, h2⟩ := List.getElem?_eq_some_iff.1 hxi; rw [List.drop_eq_getElem_cons h1, h2]
    have hdy : ys.drop i = y :: ys.drop (i + 1) := by obtain ⟨h1, h2⟩ := List.getElem?_eq_some_iff.1 hyi; rw [List.drop_eq_getElem_cons h1, h2]
    rw [hdx, hdy, adW] at hW
    rw [hdx, hdy, adC] at hC
    refine IH (i + 1, (x + y + c) / 18446744073709551616, zs ++ [(x + y + c) % 18446744073709551616]) _ _ (by simp only; omega) ⟨rfl, rfl, rfl, rfl, trivial⟩ ⟨rfl, rfl, trivial⟩ ⟨by simp only; omega, by simp [hzl], by simp only; first | omega | (split <;> omega), by simp only; rw [List.append_assoc]; exact hW, hC, H⟩
  · skip
    refine J.exit rfl ?_
    refine J.ret1 (v := Value.int _ _) Tryz.func31 rfl rfl ?_
    obtain rfl : i = n := by omega
    rw [List.drop_eq_nil_of_le (by omega), List.drop_eq_nil_of_le (by omega)] at hW hC
    simp only [adW, List.append_nil] at hW
    simp only [adC] at hC
    rw [hC]
    rw [hW] at H
    exact ⟨_, rfl, rfl, H⟩
set_option maxHeartbeats 1600000 in
theorem subVV_b {w0 w : World} {L : List Seg} {q n c1 c2 c3 : Nat} {px py : Option Addr} {xs ys : List Nat} {l0 : List Value} (H : Hp w0 w ([(q, cel (l0) 63)] :: L)) (hn : 0 < n) (hn9 : n ≤ 9) (hl : n ≤ l0.length) (hs : SlAt ([(q, cel (l0) 63)] :: L) px (u64sV xs)) (hs2 : SlAt ([(q, cel (l0) 63)] :: L) py (u64sV ys)) (hx : xs.length = n) (hy : ys.length = n) (hwx : ∀ z ∈ xs, z < 18446744073709551616) (hwy : ∀ z ∈ ys, z < 18446744073709551616) : Ret Tryz.prog 32 [.slice (some ⟨q, 0, none⟩) n c1, .slice px n c2, .slice py n c3] w fun v w' => v = .int .u64 ((sbC 0 xs ys : Nat) : Int) ∧ Hp w0 w' ([(q, cel (RW l0 0 (sbW 0 xs ys)) 63)] :: L) := by
  refine Calls.of_J (n := 47) Tryz.func32 rfl rfl rfl ?_
  refine J.seq ?_
  obtain ⟨pb, po, rfl, hpp⟩ := hs.some (by rw [u64sV_len]; omega)
  obtain ⟨pb2, po2, rfl, hpp2⟩ := hs2.some (by rw [u64sV_len]; omega)
  refine J.region ?_
  refine JL.go trivial (RX.assign) ?_
  refine JL.nil ?_
  refine J.seq ?_
  refine J.seq ?_
  refine J.region ?_
  refine JL.go trivial (RX.movev (v := Value.slice _ _ _) rfl) ?_
  refine JL.go trivial (RX.len_slice rfl (by rw [sl50]; rfl) rfl) ?_
  refine JL.go trivial (RX.movev (v := Value.slice _ _ _) rfl) ?_
  refine JL.go trivial (RX.len_slice rfl (by rw [sl50]; rfl) rfl) ?_
  refine JL.go trivial (RX.ne rfl rfl) ?_
  refine JL.go trivial (RX.movev (v := Value.bool _) rfl) ?_
  refine JL.go ⟨_, rfl, (decide_eq_false (by simp))⟩ (RX.movev (v := Value.slice _ _ _) rfl) ?_
  refine JL.go ⟨_, rfl, (decide_eq_false (by simp))⟩ (RX.len_slice rfl (by rw [sl50]; rfl) rfl) ?_
  refine JL.go ⟨_, rfl, (decide_eq_false (by simp))⟩ (RX.movev (v := Value.slice _ _ _) rfl) ?_
  refine JL.go ⟨_, rfl, (decide_eq_false (by simp))⟩ (RX.len_slice rfl (by rw [sl50]; rfl) rfl) ?_
  refine JL.go ⟨_, rfl, (decide_eq_false (by simp))⟩ (RX.ne rfl rfl) ?_
  refine JL.go trivial (RX.pick_f rfl (decide_eq_false (by simp))) ?_
  refine JL.nil ?_
  refine J.cond_f rfl (decide_eq_false (by simp)) ?_
  refine J.skip ?_
  refine J.seq ?_
  refine J.seq ?_
  refine J.region ?_
  refine JL.go trivial (RX.movev (v := Value.slice _ _ _) rfl) ?_
  refine JL.go trivial (RX.len_slice rfl (by rw [sl50]; rfl) rfl) ?_
  refine JL.go trivial (RX.move) ?_
  refine JL.nil ?_
  refine J.block ?_
  refine J.loop (ι := Nat × Nat × List Nat) (S := fun z => [(25, .int .i64 ((z.1 : Nat) : Int)), (6, .int .u64 ((z.2.1 : Nat) : Int))]) (Φ := fun z w => z.1 ≤ n ∧ z.2.2.length = z.1 ∧ z.2.1 ≤ 1 ∧ z.2.2 ++ sbW z.2.1 (xs.drop z.1) (ys.drop z.1) = sbW 0 xs ys ∧ sbC z.2.1 (xs.drop z.1) (ys.drop z.1) = sbC 0 xs ys ∧ Hp w0 w ([(q, cel (RW l0 0 z.2.2) 63)] :: L)) (μ := fun z => n - z.1) (C := [(0, _), (1, _), (2, _), (24, _)]) (0, 0, []) ⟨rfl, rfl, rfl, rfl, trivial⟩ ⟨rfl, rfl, trivial⟩ ?_ ?_
  · exact ⟨by simp, rfl, by simp, by simp, by simp, by rw [RW_nil]; exact H⟩
  clear H
  rintro ⟨i, c, zs⟩ ρ w ⟨hi, hzl, hc, hW, hC, H⟩ IH
  simp only at hi hzl hc hW hC H
  dsimp only
  refine J.seq ?_
  refine J.region ?_
  refine JL.go trivial (RX.lt rfl rfl) ?_
  refine JL.nil ?_
  refine J.seq ?_
  refine J.cond_d rfl (fun hlt => ?_) (fun hlt => ?_)
  · skip
    obtain ⟨x, hxi⟩ : ∃ x, xs[i]? = some x := ⟨_, List.getElem?_eq_getElem (by omega)⟩
    obtain ⟨y, hyi⟩ : ∃ y, ys[i]? = some y := ⟨_, List.getElem?_eq_getElem (by omega)⟩
    have hxb := hwx x (List.mem_of_getElem? hxi)
    have hyb := hwy y (List.mem_of_getElem? hyi)
    have hsame : ∀ j, 0 + i ≤ j → (RW l0 0 zs)[j]? = l0[j]? := fun j hj => RW_get (by omega) (by omega)
    obtain ⟨vx, hvx, hvxi⟩ := see (o := 0) hs (fun _ => Nat.zero_le _) hxi hsame
    obtain ⟨vy, hvy, hvyi⟩ := see (o := 0) hs2 (fun _ => Nat.zero_le _) hyi hsame
    refine J.skip ?_
    refine J.seq ?_
    refine J.block ?_
    refine J.seq ?_
    refine J.region ?_
    refine JL.go trivial (RX.movev (v := Value.int _ _) rfl) ?_
    refine JL.go trivial (RX.assignv (v := Value.int _ _) rfl) ?_
    refine JL.nil ?_
    refine J.seq ?_
    refine J.quietH H hmix (by kernel_rfl) ?_
    refine JQ.go trivial (fun w H => RX.movev (v := Value.slice _ _ _) rfl) ?_
    refine JQ.go trivial (fun w H => RX.movev (v := Value.int _ _) rfl) ?_
    refine JQ.go trivial (fun w H => RX.indexAddr rfl rfl sl50 (by omega) (by omega) (o' := po + i) (by omega)) ?_
    refine JQ.go trivial (fun w H => RX.loadS H hvx rfl (j := i) rfl (v := .int .u64 (x : Int)) hvxi one63) ?_
    refine JQ.go trivial (fun w H => RX.movev (v := Value.slice _ _ _) rfl) ?_
    refine JQ.go trivial (fun w H => RX.movev (v := Value.int _ _) rfl) ?_
    refine JQ.go trivial (fun w H => RX.indexAddr rfl rfl sl50 (by omega) (by omega) (o' := po2 + i) (by omega)) ?_
    refine JQ.go trivial (fun w H => RX.loadS H hvy rfl (j := i) rfl (v := .int .u64 (y : Int)) hvyi one63) ?_
    refine JQ.go trivial (fun w H => RX.movev (v := Value.int _ _) rfl) ?_
    refine JQ.call trivial (fun w H => run_callq rfl cl57 rfl) (fun w H => (bSub_b (c := c) H hc)) ?_
    refine JQ.go trivial (fun w H => RX.movev (v := Value.tuple _) rfl) ?_
    refine JQ.go trivial (fun w H => RX.extract rfl rfl) ?_
    refine JQ.go trivial (fun w H => RX.extract rfl rfl) ?_
    refine JQ.go trivial (fun w H => RX.assignv (v := Value.int _ _) rfl) ?_
    refine JQ.go trivial (fun w H => RX.assignv (v := Value.int _ _) rfl) ?_
    refine JQ.nil fun w H => ?_
    refine J.seq ?_
    refine J.region ?_
    refine JL.go trivial (RX.movev (v := Value.slice _ _ _) rfl) ?_
    refine JL.go trivial (RX.movev (v := Value.int _ _) rfl) ?_
    refine JL.go trivial (RX.movev (v := Value.int _ _) rfl) ?_
    refine JL.go trivial (RX.indexAddr rfl rfl sl50 (by omega) (by omega) (o' := i) (by omega)) ?_
    refine JL.does trivial (EX.store (v := Value.int _ _) H rfl rfl (i := 0) rfl rfl (by rw [RW_len (by omega)]; omega) sz63 rfl rfl) ?_
    rintro _ w H
    refine JL.nil ?_
    refine J.region ?_
    refine JL.go trivial (RX.movev (v := Value.int _ _) rfl) ?_
    refine JL.go trivial (RX.assignv (v := Value.int _ _) rfl) ?_
    refine JL.nil ?_
    refine J.inBlock ?_
    refine J.region ?_
    refine JL.go trivial (RX.add rfl rfl (wi (n := i + 1) (by omega) (by omega))) ?_
    refine JL.go trivial (RX.movev (v := Value.int _ _) rfl) ?_
    refine JL.nil ?_
    simp only [List.set_cons_zero] at H
    rw [show i = 0 + zs.length by omega, RW_set (by omega)] at H
    have hdx : xs.drop i = x :: xs.drop (i + 1) := by obtain ⟨h1, h2⟩ := List.getElem?_eq_some_iff.1 hxi; rw [List.drop_eq_getElem_cons h1, h2]
    have hdy : ys.drop i = y :: ys.drop (i + 1) := by obtain ⟨h1, h2⟩ := List.getElem?_eq_some_iff.1 hyi; rw [List.drop_eq_getElem_cons h1, h2]
    rw [hdx, hdy, sbW] at hW
    rw [hdx, hdy, sbC] at hC
    refine IH (i + 1, if x < y + c then 1 else 0, zs ++ [(x + 18446744073709551616 - y - c) % 18446744073709551616]) _ _ (by simp only; omega) ⟨rfl, rfl, rfl, rfl, trivial⟩ ⟨rfl, rfl, trivial⟩ ⟨by simp only; omega, by simp [hzl], by simp only; first | omega | (split <;> omega), by simp only; rw [List.append_assoc]; exact hW, hC, H⟩
  · skip
    refine J.exit rfl ?_
    refine J.ret1 (v := Value.int _ _) Tryz.func32 rfl rfl ?_
    obtain rfl : i = n := by omega
    rw [List.drop_eq_nil_of_le (by omega), List.drop_eq_nil_of_le (by omega)] at hW hC
    simp only [sbW, List.append_nil] at hW
    simp only [sbC] at hC
    rw [hC]
    rw [hW] at H
    exact ⟨_, rfl, rfl, H⟩
set_option maxHeartbeats 1600000 in
theorem addVW_b {w0 w : World} {L : List Seg} {q o n k c1 c2 b ob : Nat} {xs : List Nat} {l0 : List Value} (H : Hp w0 w ([(q, cel (l0) 63)] :: L)) (hx : xs.length = n) (hn : 0 < n) (hn9 : n ≤ 9) (hl : o + n ≤ l0.length) (hs : SlAt ([(q, cel (l0) 63)] :: L) (some ⟨b, ob, none⟩) (u64sV xs)) (hal : b = q → ob = o) (hm : b = q ∨ ∃ C T, (b, Obj.cells C T (0, 0)) ∈ L.flatten) (hw : ∀ z ∈ xs, z < 18446744073709551616) (hk : k ≤ 1) (hc1 : n ≤ c1) (hc2 : n ≤ c2) : Ret Tryz.prog 52 [.slice (some ⟨q, o, none⟩) n c1, .slice (some ⟨b, ob, none⟩) n c2, .int .u64 ((k : Nat) : Int)] w fun v w' => v = .int .u64 ((adKC k xs : Nat) : Int) ∧ Hp w0 w' ([(q, cel (RW l0 o (adK k xs)) 63)] :: L) := by
  refine Calls.of_J (n := 78) Tryz.func52 rfl rfl rfl ?_
  refine J.seq ?_
  obtain ⟨x, xt, rfl⟩ : ∃ x xt, xs = x :: xt := by
    cases xs with
    | nil => simp at hx; omega
    | cons x xt => exact ⟨x, xt, rfl⟩
  have hx0 := hw x List.mem_cons_self
  have hwt : ∀ z ∈ xt, z < 18446744073709551616 := fun z hz => hw z (List.mem_cons_of_mem _ hz)
  have hxt : xt.length + 1 = n := by simpa using hx
  have hown : b = q → ∀ j, j < (x :: xt).length → l0[o + j]? = (u64sV (x :: xt))[j]? := fun e => own_at H (by have e2 := hal e; rw [e, e2] at hs; exact hs)
  refine J.region ?_
  refine JL.go trivial (RX.assign) ?_
  refine JL.nil ?_
  refine J.seq ?_
  refine J.seq ?_
  refine J.region ?_
  refine JL.go trivial (RX.movev (v := Value.slice _ _ _) rfl) ?_
  refine JL.go trivial (RX.len_slice rfl (by rw [sl50]; rfl) rfl) ?_
  refine JL.go trivial (RX.movev (v := Value.slice _ _ _) rfl) ?_
  refine JL.go trivial (RX.len_slice rfl (by rw [sl50]; rfl) rfl) ?_
  refine JL.go trivial (RX.ne rfl rfl) ?_
  refine JL.nil ?_
  refine J.cond_f rfl (decide_eq_false (by simp)) ?_
  refine J.skip ?_
  refine J.seq ?_
  refine J.seq ?_
  refine J.region ?_
  refine JL.go trivial (RX.movev (v := Value.slice _ _ _) rfl) ?_
  refine JL.go trivial (RX.len_slice rfl (by rw [sl50]; rfl) rfl) ?_
  refine JL.go trivial (RX.eq rfl rfl) ?_
  refine JL.nil ?_
  refine J.cond_f rfl (decide_eq_false (by omega)) ?_
  refine J.skip ?_
  refine J.seq ?_
  refine J.region ?_
  refine JL.go trivial (RX.movev (v := Value.slice _ _ _) rfl) ?_
  refine JL.go trivial (RX.indexAddr rfl rfl sl50 (by omega) (by omega) (o' := ob) (by omega)) ?_
  refine JL.go trivial (RX.loadS H hs rfl (j := 0) (by omega) (v := .int .u64 (x : Int)) rfl one63) ?_
  refine JL.go trivial (RX.movev (v := Value.int _ _) rfl) ?_
  refine JL.does trivial (EX.call rfl cl54 rfl ((bAdd_b (c := 0) H (by decide)))) ?_
  rintro _ w ⟨rfl, H⟩
  refine JL.go trivial (RX.movev (v := Value.tuple _) rfl) ?_
  refine JL.go trivial (RX.extract rfl rfl) ?_
  refine JL.go trivial (RX.extract rfl rfl) ?_
  refine JL.go trivial (RX.assignv (v := Value.int _ _) rfl) ?_
  refine JL.go trivial (RX.assignv (v := Value.int _ _) rfl) ?_
  refine JL.nil ?_
  simp only [Nat.add_zero, Nat.sub_zero]
  refine J.seq ?_
  refine J.region ?_
  refine JL.go trivial (RX.movev (v := Value.slice _ _ _) rfl) ?_
  refine JL.go trivial (RX.movev (v := Value.int _ _) rfl) ?_
  refine JL.go trivial (RX.indexAddr rfl rfl sl50 (by omega) (by omega) (o' := o) (by omega)) ?_
  refine JL.does trivial (EX.store (v := Value.int _ _) H rfl rfl (i := 0) rfl rfl (by omega) sz63 rfl rfl) ?_
  rintro _ w H
  refine JL.nil ?_
  simp only [List.set_cons_zero] at H
  have hset := RW_set (l := l0) (o := o) (W := []) (v := (x + k) % 18446744073709551616) (by simp; omega)
  rw [RW_nil, List.length_nil, Nat.add_zero, List.nil_append] at hset
  rw [hset] at H
  refine J.seq ?_
  refine J.seq ?_
  refine J.region ?_
  refine JL.go trivial (RX.movev (v := Value.int _ _) rfl) ?_
  refine JL.go trivial (RX.eq rfl rfl) ?_
  refine JL.nil ?_
  refine J.cond_d rfl (fun h0 => ?_) (fun h0 => ?_)
  · skip
    refine J.seq ?_
    refine J.seq ?_
    have hmq : (q, Obj.cells (RW l0 o [(x + k) % 18446744073709551616]).toArray 63 (0, 0)) ∈ (([(q, cel (RW l0 o [(x + k) % 18446744073709551616]) 63)] : Seg) :: L).flatten := List.mem_append_left _ (List.mem_singleton.2 rfl)
    obtain ⟨CB, TB, hmb⟩ : ∃ CB TB, (b, Obj.cells CB TB (0, 0)) ∈ (([(q, cel (RW l0 o [(x + k) % 18446744073709551616]) 63)] : Seg) :: L).flatten := by
      rcases hm with rfl | ⟨C, T, hm⟩
      · exact ⟨_, _, hmq⟩
      · exact ⟨_, _, List.mem_append_right _ hm⟩
    refine J.quietH H hmix (by kernel_rfl) ?_
    refine JQ.go trivial (fun w H => RX.movev (v := Value.slice _ _ _) rfl) ?_
    refine JQ.go trivial (fun w H => RX.indexAddr rfl rfl sl50 (by omega) (by omega) (o' := o) (by omega)) ?_
    refine JQ.go trivial (fun w H => RX.movev (v := Value.slice _ _ _) rfl) ?_
    refine JQ.go trivial (fun w H => RX.indexAddr rfl rfl sl50 (by omega) (by omega) (o' := ob) (by omega)) ?_
    refine JQ.go trivial (fun w H => RX.ptr_neq H rfl rfl ud87 (k := 0) sz63 (fun e => (hal e.symm).symm) hmq hmb) ?_
    refine JQ.nil fun w H => ?_
    refine J.cond rfl (fun hne => ?_) (fun hne => ?_)
    · skip
      replace hne := of_decide_eq_true hne
      refine J.any hmix fun w hs => ?_
      replace H := H.same hs; clear hs
      refine JA.take 0 (listed' := [true, false, false, false, false]) rfl (by kernel_rfl) (by kernel_rfl) (by kernel_rfl) rfl trivial (fun w => RX.movev (v := Value.slice _ _ _) rfl) ?_
      refine JA.take 1 (listed' := [true, true, false, false, false]) rfl (by kernel_rfl) (by kernel_rfl) (by kernel_rfl) rfl trivial (fun w => RX.slice_l rfl rfl sl50 (fun a ha => by cases ha; rfl) (by omega) (by omega) (r := 1) (by omega)) ?_
      refine JA.take 2 (listed' := [true, true, true, false, false]) rfl (by kernel_rfl) (by kernel_rfl) (by kernel_rfl) rfl trivial (fun w => RX.movev (v := Value.slice _ _ _) rfl) ?_
      refine JA.take 3 (listed' := [true, true, true, true, false]) rfl (by kernel_rfl) (by kernel_rfl) (by kernel_rfl) rfl trivial (fun w => RX.slice_l rfl rfl sl50 (fun a ha => by cases ha; rfl) (by omega) (by omega) (r := 1) (by omega)) ?_
      refine JA.all [4] (by kernel_rfl) (by decide) ?_
      refine JO.does (listed' := [true, true, true, true, true]) rfl rfl trivial (EX.copyO (ys := u64sV xt) (q := q) (o := o + 1) (i := 0) H rfl rfl ud50 (by kernel_rfl) rfl (behZ hc1) (beh_at (xs := x :: xt) (r := 1) (see_ne hs (fun e => hne e.symm)) (by omega)) (by rw [u64sV_len]; omega) (by rw [RW_len (by simp; omega)]; omega) (u64sV_cell xt)) ?_
      rintro _ w ⟨rfl, H⟩
      have hcp := RW_copy (l := l0) (o := o) (W := [(x + k) % 18446744073709551616]) (R := xt) (by simp; omega)
      simp only [List.length_singleton] at hcp
      rw [show n - 1 = xt.length by omega] at H
      simp only [List.set_cons_zero] at H
      rw [hcp] at H
      refine JA.done (by kernel_rfl) ?_
      refine J.seq ?_
      refine J.region ?_
      refine JL.go trivial (RX.assign) ?_
      refine JL.nil ?_
      refine J.ret1 (v := Value.int _ _) Tryz.func52 rfl rfl ?_
      have hz := adK_zero hwt
      have hc0 : ((x + k) / 18446744073709551616 : Nat) = 0 := by omega
      have e1 : adKC k (x :: xt) = 0 := by rw [adKC, hc0, hz.2]
      have e2 : adK k (x :: xt) = [(x + k) % 18446744073709551616] ++ xt := by rw [adK, hc0, hz.1]; rfl
      rw [e1, e2]
      exact ⟨_, rfl, rfl, H⟩
    · skip
      have hqb : b = q := (Classical.not_not.1 (of_decide_eq_false hne)).symm
      have hcp := RW_own (l := l0) (o := o) (W := [(x + k) % 18446744073709551616]) (R := xt) (by simp; omega) (fun j hj => by have := hown hqb (j + 1) (by simp; omega); rw [show o + (j + 1) = o + 1 + j by omega] at this; simpa [u64sV] using this)
      rw [hcp] at H
      refine J.skip ?_
      refine J.seq ?_
      refine J.region ?_
      refine JL.go trivial (RX.assign) ?_
      refine JL.nil ?_
      refine J.ret1 (v := Value.int _ _) Tryz.func52 rfl rfl ?_
      have hz := adK_zero hwt
      have hc0 : ((x + k) / 18446744073709551616 : Nat) = 0 := by omega
      have e1 : adKC k (x :: xt) = 0 := by rw [adKC, hc0, hz.2]
      have e2 : adK k (x :: xt) = [(x + k) % 18446744073709551616] ++ xt := by rw [adK, hc0, hz.1]; rfl
      rw [e1, e2]
      exact ⟨_, rfl, rfl, H⟩
  · skip
    have hk1 : k = 1 := by omega
    have hw1 : (x + k) % 18446744073709551616 = 0 := by omega
    have hc1v : (x + k) / 18446744073709551616 = 1 := by omega
    refine J.skip ?_
    refine J.seq ?_
    refine J.seq ?_
    refine J.region ?_
    refine JL.go trivial (RX.assign) ?_
    refine JL.nil ?_
    refine J.block ?_
    refine J.loop (ι := Nat) (S := fun i => [(9, .int .i64 ((i : Nat) : Int))]) (Φ := fun i w => 1 ≤ i ∧ i ≤ n ∧ List.replicate i 0 ++ adK 1 ((x :: xt).drop i) = adK k (x :: xt) ∧ adKC 1 ((x :: xt).drop i) = adKC k (x :: xt) ∧ Hp w0 w ([(q, cel (RW l0 o (List.replicate i 0)) 63)] :: L)) (μ := fun i => n - i) (C := [(0, _), (1, _)]) 1 ⟨rfl, rfl, trivial⟩ ⟨rfl, trivial⟩ ?_ ?_
    · exact ⟨Nat.le_refl _, by omega, by rw [adK, hc1v, hw1]; rfl, by rw [adKC, hc1v]; rfl, by rw [show List.replicate 1 0 = [(x + k) % 18446744073709551616] by rw [hw1]; rfl]; exact H⟩
    clear H
    rintro i ρ w ⟨hi1, hi, hW, hC, H⟩ IH
    refine J.seq ?_
    refine J.seq ?_
    refine J.region ?_
    refine JL.go trivial (RX.movev (v := Value.int _ _) rfl) ?_
    refine JL.go trivial (RX.movev (v := Value.slice _ _ _) rfl) ?_
    refine JL.go trivial (RX.len_slice rfl (by rw [sl50]; rfl) rfl) ?_
    refine JL.go trivial (RX.lt rfl rfl) ?_
    refine JL.nil ?_
    refine J.cond_d rfl (fun hlt => ?_) (fun hlt => ?_)
    · skip
      obtain ⟨y, hyi⟩ : ∃ y, (x :: xt)[i]? = some y := ⟨_, List.getElem?_eq_getElem (by simp; omega)⟩
      have hyb := hw y (List.mem_of_getElem? hyi)
      have hrl : (List.replicate i 0).length = i := List.length_replicate
      have hsame : ∀ j, o + i ≤ j → (RW l0 o (List.replicate i 0))[j]? = l0[j]? := fun j hj => RW_get (by omega) (by omega)
      obtain ⟨vy, hvy, hvyi⟩ := see (o := o) hs (fun e => Nat.le_of_eq (hal e).symm) hyi hsame
      have hdy : (x :: xt).drop i = y :: (x :: xt).drop (i + 1) := by obtain ⟨h1, h2⟩ := List.getElem?_eq_some_iff.1 hyi; rw [List.drop_eq_getElem_cons h1, h2]
      rw [hdy, adK] at hW
      rw [hdy, adKC] at hC
      refine J.skip ?_
      refine J.seq ?_
      refine J.block ?_
      refine J.seq ?_
      refine J.region ?_
      refine JL.go trivial (RX.movev (v := Value.slice _ _ _) rfl) ?_
      refine JL.go trivial (RX.movev (v := Value.int _ _) rfl) ?_
      refine JL.go trivial (RX.indexAddr rfl rfl sl50 (by omega) (by omega) (o' := ob + i) (by omega)) ?_
      refine JL.go trivial (RX.loadS H hvy rfl (j := i) rfl (v := .int .u64 (y : Int)) hvyi one63) ?_
      refine JL.go trivial (RX.assignv (v := Value.int _ _) rfl) ?_
      refine JL.nil ?_
      refine J.seq ?_
      refine J.seq ?_
      refine J.region ?_
      refine JL.go trivial (RX.movev (v := Value.int _ _) rfl) ?_
      refine JL.go trivial (RX.ne rfl rfl) ?_
      refine JL.nil ?_
      refine J.cond_d rfl (fun hmx => ?_) (fun hmx => ?_)
      · skip
        have hy1 : y + 1 < 18446744073709551616 := by omega
        refine J.seq ?_
        refine J.region ?_
        refine JL.go trivial (RX.movev (v := Value.slice _ _ _) rfl) ?_
        refine JL.go trivial (RX.movev (v := Value.int _ _) rfl) ?_
        refine JL.go trivial (RX.movev (v := Value.int _ _) rfl) ?_
        refine JL.go trivial (RX.add rfl rfl (wn (n := (y + 1)) (by omega) (by omega))) ?_
        refine JL.go trivial (RX.indexAddr rfl rfl sl50 (by omega) (by omega) (o' := o + i) (by omega)) ?_
        refine JL.does trivial (EX.store (v := Value.int _ _) H rfl rfl (i := 0) rfl rfl (by rw [RW_len (by omega)]; omega) sz63 rfl rfl) ?_
        rintro _ w H
        refine JL.nil ?_
        simp only [List.set_cons_zero] at H
        have hset := RW_set (l := l0) (o := o) (W := List.replicate i 0) (v := (y + 1)) (by omega)
        rw [hrl] at hset
        rw [hset] at H
        refine J.seq ?_
        refine J.seq ?_
        have hmq : (q, Obj.cells (RW l0 o (List.replicate i 0 ++ [(y + 1)])).toArray 63 (0, 0)) ∈ (([(q, cel (RW l0 o (List.replicate i 0 ++ [(y + 1)])) 63)] : Seg) :: L).flatten := List.mem_append_left _ (List.mem_singleton.2 rfl)
        obtain ⟨CB, TB, hmb⟩ : ∃ CB TB, (b, Obj.cells CB TB (0, 0)) ∈ (([(q, cel (RW l0 o (List.replicate i 0 ++ [(y + 1)])) 63)] : Seg) :: L).flatten := by
          rcases hm with rfl | ⟨C, T, hm⟩
          · exact ⟨_, _, hmq⟩
          · exact ⟨_, _, List.mem_append_right _ hm⟩
        refine J.quietH H hmix (by kernel_rfl) ?_
        refine JQ.go trivial (fun w H => RX.movev (v := Value.slice _ _ _) rfl) ?_
        refine JQ.go trivial (fun w H => RX.indexAddr rfl rfl sl50 (by omega) (by omega) (o' := o) (by omega)) ?_
        refine JQ.go trivial (fun w H => RX.movev (v := Value.slice _ _ _) rfl) ?_
        refine JQ.go trivial (fun w H => RX.indexAddr rfl rfl sl50 (by omega) (by omega) (o' := ob) (by omega)) ?_
        refine JQ.go trivial (fun w H => RX.ptr_neq H rfl rfl ud87 (k := 0) sz63 (fun e => (hal e.symm).symm) hmq hmb) ?_
        refine JQ.nil fun w H => ?_
        refine J.cond rfl (fun hne => ?_) (fun hne => ?_)
        · skip
          replace hne := of_decide_eq_true hne
          refine J.any hmix fun w hs => ?_
          replace H := H.same hs; clear hs
          refine JA.take 0 (listed' := [true, false, false, false, false, false, false, false, false]) rfl (by kernel_rfl) (by kernel_rfl) (by kernel_rfl) rfl trivial (fun w => RX.movev (v := Value.slice _ _ _) rfl) ?_
          refine JA.take 1 (listed' := [true, true, false, false, false, false, false, false, false]) rfl (by kernel_rfl) (by kernel_rfl) (by kernel_rfl) rfl trivial (fun w => RX.movev (v := Value.int _ _) rfl) ?_
          refine JA.take 2 (listed' := [true, true, true, false, false, false, false, false, false]) rfl (by kernel_rfl) (by kernel_rfl) (by kernel_rfl) rfl trivial (fun w => RX.add rfl rfl (wi (n := i + 1) (by omega) (by omega))) ?_
          refine JA.take 3 (listed' := [true, true, true, true, false, false, false, false, false]) rfl (by kernel_rfl) (by kernel_rfl) (by kernel_rfl) rfl trivial (fun w => RX.slice_l rfl rfl sl50 (fun a ha => by cases ha; rfl) (by omega) (by omega) (r := i + 1) (by omega)) ?_
          refine JA.take 4 (listed' := [true, true, true, true, true, false, false, false, false]) rfl (by kernel_rfl) (by kernel_rfl) (by kernel_rfl) rfl trivial (fun w => RX.movev (v := Value.slice _ _ _) rfl) ?_
          refine JA.take 5 (listed' := [true, true, true, true, true, true, false, false, false]) rfl (by kernel_rfl) (by kernel_rfl) (by kernel_rfl) rfl trivial (fun w => RX.movev (v := Value.int _ _) rfl) ?_
          refine JA.take 6 (listed' := [true, true, true, true, true, true, true, false, false]) rfl (by kernel_rfl) (by kernel_rfl) (by kernel_rfl) rfl trivial (fun w => RX.add rfl rfl (wi (n := i + 1) (by omega) (by omega))) ?_
          refine JA.take 7 (listed' := [true, true, true, true, true, true, true, true, false]) rfl (by kernel_rfl) (by kernel_rfl) (by kernel_rfl) rfl trivial (fun w => RX.slice_l rfl rfl sl50 (fun a ha => by cases ha; rfl) (by omega) (by omega) (r := i + 1) (by omega)) ?_
          refine JA.all [8] (by kernel_rfl) (by decide) ?_
          refine JO.does (listed' := [true, true, true, true, true, true, true, true, true]) rfl rfl trivial (EX.copyO (ys := u64sV ((x :: xt).drop (i + 1))) (q := q) (o := o + (i + 1)) (i := 0) H rfl rfl ud50 (by kernel_rfl) rfl (behZ hc1) (beh_at (xs := x :: xt) (r := i + 1) (see_ne hs (fun e => hne e.symm)) (by omega)) (by rw [u64sV_len, List.length_drop]; omega) (by rw [RW_len (by simp; omega)]; omega) (u64sV_cell _)) ?_
          rintro _ w ⟨rfl, H⟩
          have hcp := RW_copy (l := l0) (o := o) (W := List.replicate i 0 ++ [(y + 1)]) (R := (x :: xt).drop (i + 1)) (by simp; omega)
          have hl1 : (List.replicate i 0 ++ [(y + 1)] : List Nat).length = i + 1 := by simp
          have hl2 : ((x :: xt).drop (i + 1)).length = n - (i + 1) := by simp; omega
          rw [hl1, hl2] at hcp
          simp only [List.set_cons_zero] at H
          rw [hcp] at H
          refine JA.done (by kernel_rfl) ?_
          refine J.seq ?_
          refine J.region ?_
          refine JL.go trivial (RX.assign) ?_
          refine JL.nil ?_
          refine J.ret1 (v := Value.int _ _) Tryz.func52 rfl rfl ?_
          have hz := adK_zero (xs := (x :: xt).drop (i + 1)) fun z hz => hw z (List.mem_of_mem_drop hz)
          have e1 : (y + 1) % 18446744073709551616 = y + 1 := by omega
          have e2 : (y + 1) / 18446744073709551616 = 0 := by omega
          rw [e1, e2, hz.1] at hW
          rw [e2, hz.2] at hC
          rw [← hC, ← hW]
          rw [List.append_assoc] at H
          exact ⟨_, rfl, rfl, H⟩
        · skip
          have hqb : b = q := (Classical.not_not.1 (of_decide_eq_false hne)).symm
          have hcp := RW_own (l := l0) (o := o) (W := List.replicate i 0 ++ [(y + 1)]) (R := (x :: xt).drop (i + 1)) (by simp; omega) (fun j hj => by
            have := hown hqb (i + 1 + j) (by simp at hj ⊢; omega)
            have hl1 : (List.replicate i 0 ++ [(y + 1)] : List Nat).length = i + 1 := by simp
            rw [hl1, Nat.add_assoc, this, u64sV_drop, List.getElem?_drop])
          rw [hcp] at H
          refine J.skip ?_
          refine J.seq ?_
          refine J.region ?_
          refine JL.go trivial (RX.assign) ?_
          refine JL.nil ?_
          refine J.ret1 (v := Value.int _ _) Tryz.func52 rfl rfl ?_
          have hz := adK_zero (xs := (x :: xt).drop (i + 1)) fun z hz => hw z (List.mem_of_mem_drop hz)
          have e1 : (y + 1) % 18446744073709551616 = y + 1 := by omega
          have e2 : (y + 1) / 18446744073709551616 = 0 := by omega
          rw [e1, e2, hz.1] at hW
          rw [e2, hz.2] at hC
          rw [← hC, ← hW]
          rw [List.append_assoc] at H
          exact ⟨_, rfl, rfl, H⟩
      · skip
        have hyM : y = 18446744073709551616 - 1 := by omega
        have e1 : (y + 1) % 18446744073709551616 = 0 := by omega
        have e2 : (y + 1) / 18446744073709551616 = 1 := by omega
        rw [e1, e2] at hW
        rw [e2] at hC
        refine J.skip ?_
        refine J.region ?_
        refine JL.go trivial (RX.movev (v := Value.slice _ _ _) rfl) ?_
        refine JL.go trivial (RX.movev (v := Value.int _ _) rfl) ?_
        refine JL.go trivial (RX.indexAddr rfl rfl sl50 (by omega) (by omega) (o' := o + i) (by omega)) ?_
        refine JL.does trivial (EX.store (v := Value.int _ _) H rfl rfl (i := 0) rfl rfl (by rw [RW_len (by omega)]; omega) sz63 rfl rfl) ?_
        rintro _ w H
        refine JL.nil ?_
        simp only [List.set_cons_zero] at H
        have hset := RW_set (l := l0) (o := o) (W := List.replicate i 0) (v := 0) (by omega)
        rw [hrl, ← List.replicate_succ'] at hset
        replace H := hset ▸ H
        refine J.inBlock ?_
        refine J.region ?_
        refine JL.go trivial (RX.movev (v := Value.int _ _) rfl) ?_
        refine JL.go trivial (RX.add rfl rfl (wi (n := i + 1) (by omega) (by omega))) ?_
        refine JL.go trivial (RX.assignv (v := Value.int _ _) rfl) ?_
        refine JL.nil ?_
        refine IH (i + 1) _ _ (by omega) ⟨rfl, rfl, trivial⟩ ⟨rfl, trivial⟩ ⟨by omega, by omega, by rw [← hW, List.replicate_succ', List.append_assoc]; rfl, hC, H⟩
    · skip
      obtain rfl : i = n := by omega
      rw [List.drop_eq_nil_of_le (by omega)] at hW hC
      have hW2 : List.replicate i 0 = adK k (x :: xt) := (List.append_nil _).symm.trans hW
      have hC2 : 1 = adKC k (x :: xt) := hC
      rw [hW2] at H
      refine J.exit rfl ?_
      refine J.seq ?_
      refine J.region ?_
      refine JL.go trivial (RX.assign) ?_
      refine JL.nil ?_
      refine J.ret1 (v := Value.int _ _) Tryz.func52 rfl rfl ?_
      exact ⟨_, rfl, by rw [← hC2]; rfl, H⟩
set_option maxHeartbeats 1600000 in
theorem subVW_b {w0 w : World} {L : List Seg} {q o n k c1 c2 b ob : Nat} {xs : List Nat} {l0 : List Value} (H : Hp w0 w ([(q, cel (l0) 63)] :: L)) (hx : xs.length = n) (hn : 0 < n) (hn9 : n ≤ 9) (hl : o + n ≤ l0.length) (hs : SlAt ([(q, cel (l0) 63)] :: L) (some ⟨b, ob, none⟩) (u64sV xs)) (hal : b = q → ob = o) (hm : b = q ∨ ∃ C T, (b, Obj.cells C T (0, 0)) ∈ L.flatten) (hw : ∀ z ∈ xs, z < 18446744073709551616) (hk : k ≤ 1) (hc1 : n ≤ c1) (hc2 : n ≤ c2) : Ret Tryz.prog 56 [.slice (some ⟨q, o, none⟩) n c1, .slice (some ⟨b, ob, none⟩) n c2, .int .u64 ((k : Nat) : Int)] w fun v w' => v = .int .u64 ((sbKC k xs : Nat) : Int) ∧ Hp w0 w' ([(q, cel (RW l0 o (sbK k xs)) 63)] :: L) := by
  refine Calls.of_J (n := 78) Tryz.func56 rfl rfl rfl ?_
  refine J.seq ?_
  obtain ⟨x, xt, rfl⟩ : ∃ x xt, xs = x :: xt := by
    cases xs with
    | nil => simp at hx; omega
    | cons x xt => exact ⟨x, xt, rfl⟩
  have hx0 := hw x List.mem_cons_self
  have hwt : ∀ z ∈ xt, z < 18446744073709551616 := fun z hz => hw z (List.mem_cons_of_mem _ hz)
  have hxt : xt.length + 1 = n := by simpa using hx
  have hown : b = q → ∀ j, j < (x :: xt).length → l0[o + j]? = (u64sV (x :: xt))[j]? := fun e => own_at H (by have e2 := hal e; rw [e, e2] at hs; exact hs)
  refine J.region ?_
  refine JL.go trivial (RX.assign) ?_
  refine JL.nil ?_
  refine J.seq ?_
  refine J.seq ?_
  refine J.region ?_
  refine JL.go trivial (RX.movev (v := Value.slice _ _ _) rfl) ?_
  refine JL.go trivial (RX.len_slice rfl (by rw [sl50]; rfl) rfl) ?_
  refine JL.go trivial (RX.movev (v := Value.slice _ _ _) rfl) ?_
  refine JL.go trivial (RX.len_slice rfl (by rw [sl50]; rfl) rfl) ?_
  refine JL.go trivial (RX.ne rfl rfl) ?_
  refine JL.nil ?_
  refine J.cond_f rfl (decide_eq_false (by simp)) ?_
  refine J.skip ?_
  refine J.seq ?_
  refine J.seq ?_
  refine J.region ?_
  refine JL.go trivial (RX.movev (v := Value.slice _ _ _) rfl) ?_
  refine JL.go trivial (RX.len_slice rfl (by rw [sl50]; rfl) rfl) ?_
  refine JL.go trivial (RX.eq rfl rfl) ?_
  refine JL.nil ?_
  refine J.cond_f rfl (decide_eq_false (by omega)) ?_
  refine J.skip ?_
  refine J.seq ?_
  refine J.region ?_
  refine JL.go trivial (RX.movev (v := Value.slice _ _ _) rfl) ?_
  refine JL.go trivial (RX.indexAddr rfl rfl sl50 (by omega) (by omega) (o' := ob) (by omega)) ?_
  refine JL.go trivial (RX.loadS H hs rfl (j := 0) (by omega) (v := .int .u64 (x : Int)) rfl one63) ?_
  refine JL.go trivial (RX.movev (v := Value.int _ _) rfl) ?_
  refine JL.does trivial (EX.call rfl cl57 rfl ((bSub_b (c := 0) H (by decide)))) ?_
  rintro _ w ⟨rfl, H⟩
  refine JL.go trivial (RX.movev (v := Value.tuple _) rfl) ?_
  refine JL.go trivial (RX.extract rfl rfl) ?_
  refine JL.go trivial (RX.extract rfl rfl) ?_
  refine JL.go trivial (RX.assignv (v := Value.int _ _) rfl) ?_
  refine JL.go trivial (RX.assignv (v := Value.int _ _) rfl) ?_
  refine JL.nil ?_
  simp only [Nat.add_zero, Nat.sub_zero]
  refine J.seq ?_
  refine J.region ?_
  refine JL.go trivial (RX.movev (v := Value.slice _ _ _) rfl) ?_
  refine JL.go trivial (RX.movev (v := Value.int _ _) rfl) ?_
  refine JL.go trivial (RX.indexAddr rfl rfl sl50 (by omega) (by omega) (o' := o) (by omega)) ?_
  refine JL.does trivial (EX.store (v := Value.int _ _) H rfl rfl (i := 0) rfl rfl (by omega) sz63 rfl rfl) ?_
  rintro _ w H
  refine JL.nil ?_
  simp only [List.set_cons_zero] at H
  have hset := RW_set (l := l0) (o := o) (W := []) (v := (x + 18446744073709551616 - k) % 18446744073709551616) (by simp; omega)
  rw [RW_nil, List.length_nil, Nat.add_zero, List.nil_append] at hset
  rw [hset] at H
  refine J.seq ?_
  refine J.seq ?_
  refine J.region ?_
  refine JL.go trivial (RX.movev (v := Value.int _ _) rfl) ?_
  refine JL.go trivial (RX.eq rfl rfl) ?_
  refine JL.nil ?_
  refine J.cond_d rfl (fun h0 => ?_) (fun h0 => ?_)
  · skip
    refine J.seq ?_
    refine J.seq ?_
    have hmq : (q, Obj.cells (RW l0 o [(x + 18446744073709551616 - k) % 18446744073709551616]).toArray 63 (0, 0)) ∈ (([(q, cel (RW l0 o [(x + 18446744073709551616 - k) % 18446744073709551616]) 63)] : Seg) :: L).flatten := List.mem_append_left _ (List.mem_singleton.2 rfl)
    obtain ⟨CB, TB, hmb⟩ : ∃ CB TB, (b, Obj.cells CB TB (0, 0)) ∈ (([(q, cel (RW l0 o [(x + 18446744073709551616 - k) % 18446744073709551616]) 63)] : Seg) :: L).flatten := by
      rcases hm with rfl | ⟨C, T, hm⟩
      · exact ⟨_, _, hmq⟩
      · exact ⟨_, _, List.mem_append_right _ hm⟩
    refine J.quietH H hmix (by kernel_rfl) ?_
    refine JQ.go trivial (fun w H => RX.movev (v := Value.slice _ _ _) rfl) ?_
    refine JQ.go trivial (fun w H => RX.indexAddr rfl rfl sl50 (by omega) (by omega) (o' := o) (by omega)) ?_
    refine JQ.go trivial (fun w H => RX.movev (v := Value.slice _ _ _) rfl) ?_
    refine JQ.go trivial (fun w H => RX.indexAddr rfl rfl sl50 (by omega) (by omega) (o' := ob) (by omega)) ?_
    refine JQ.go trivial (fun w H => RX.ptr_neq H rfl rfl ud87 (k := 0) sz63 (fun e => (hal e.symm).symm) hmq hmb) ?_
    refine JQ.nil fun w H => ?_
    refine J.cond rfl (fun hne => ?_) (fun hne => ?_)
    · skip
      replace hne := of_decide_eq_true hne
      refine J.any hmix fun w hs => ?_
      replace H := H.same hs; clear hs
      refine JA.take 0 (listed' := [true, false, false, false, false]) rfl (by kernel_rfl) (by kernel_rfl) (by kernel_rfl) rfl trivial (fun w => RX.movev (v := Value.slice _ _ _) rfl) ?_
      refine JA.take 1 (listed' := [true, true, false, false, false]) rfl (by kernel_rfl) (by kernel_rfl) (by kernel_rfl) rfl trivial (fun w => RX.slice_l rfl rfl sl50 (fun a ha => by cases ha; rfl) (by omega) (by omega) (r := 1) (by omega)) ?_
      refine JA.take 2 (listed' := [true, true, true, false, false]) rfl (by kernel_rfl) (by kernel_rfl) (by kernel_rfl) rfl trivial (fun w => RX.movev (v := Value.slice _ _ _) rfl) ?_
      refine JA.take 3 (listed' := [true, true, true, true, false]) rfl (by kernel_rfl) (by kernel_rfl) (by kernel_rfl) rfl trivial (fun w => RX.slice_l rfl rfl sl50 (fun a ha => by cases ha; rfl) (by omega) (by omega) (r := 1) (by omega)) ?_
      refine JA.all [4] (by kernel_rfl) (by decide) ?_
      refine JO.does (listed' := [true, true, true, true, true]) rfl rfl trivial (EX.copyO (ys := u64sV xt) (q := q) (o := o + 1) (i := 0) H rfl rfl ud50 (by kernel_rfl) rfl (behZ hc1) (beh_at (xs := x :: xt) (r := 1) (see_ne hs (fun e => hne e.symm)) (by omega)) (by rw [u64sV_len]; omega) (by rw [RW_len (by simp; omega)]; omega) (u64sV_cell xt)) ?_
      rintro _ w ⟨rfl, H⟩
      have hcp := RW_copy (l := l0) (o := o) (W := [(x + 18446744073709551616 - k) % 18446744073709551616]) (R := xt) (by simp; omega)
      simp only [List.length_singleton] at hcp
      rw [show n - 1 = xt.length by omega] at H
      simp only [List.set_cons_zero] at H
      rw [hcp] at H
      refine JA.done (by kernel_rfl) ?_
      refine J.seq ?_
      refine J.region ?_
      refine JL.go trivial (RX.assign) ?_
      refine JL.nil ?_
      refine J.ret1 (v := Value.int _ _) Tryz.func56 rfl rfl ?_
      have hz := sbK_zero hwt
      have hc0 : (if x < k then 1 else 0 : Nat) = 0 := by omega
      have e1 : sbKC k (x :: xt) = 0 := by rw [sbKC, hc0, hz.2]
      have e2 : sbK k (x :: xt) = [(x + 18446744073709551616 - k) % 18446744073709551616] ++ xt := by rw [sbK, hc0, hz.1]; rfl
      rw [e1, e2]
      exact ⟨_, rfl, rfl, H⟩
    · skip
      have hqb : b = q := (Classical.not_not.1 (of_decide_eq_false hne)).symm
      have hcp := RW_own (l := l0) (o := o) (W := [(x + 18446744073709551616 - k) % 18446744073709551616]) (R := xt) (by simp; omega) (fun j hj => by have := hown hqb (j + 1) (by simp; omega); rw [show o + (j + 1) = o + 1 + j by omega] at this; simpa [u64sV] using this)
      rw [hcp] at H
      refine J.skip ?_
      refine J.seq ?_
      refine J.region ?_
      refine JL.go trivial (RX.assign) ?_
      refine JL.nil ?_
      refine J.ret1 (v := Value.int _ _) Tryz.func56 rfl rfl ?_
      have hz := sbK_zero hwt
      have hc0 : (if x < k then 1 else 0 : Nat) = 0 := by omega
      have e1 : sbKC k (x :: xt) = 0 := by rw [sbKC, hc0, hz.2]
      have e2 : sbK k (x :: xt) = [(x + 18446744073709551616 - k) % 18446744073709551616] ++ xt := by rw [sbK, hc0, hz.1]; rfl
      rw [e1, e2]
      exact ⟨_, rfl, rfl, H⟩
  · skip
    have hxk : x < k := by
      by_cases e : x < k
      · exact e
      · rw [if_neg e] at h0; simp at h0
    have hk1 : k = 1 := by omega
    have hw1 : (x + 18446744073709551616 - k) % 18446744073709551616 = 18446744073709551616 - 1 := by omega
    have hc1v : (if x < k then 1 else 0 : Nat) = 1 := if_pos hxk
    refine J.skip ?_
    refine J.seq ?_
    refine J.seq ?_
    refine J.region ?_
    refine JL.go trivial (RX.assign) ?_
    refine JL.nil ?_
    refine J.block ?_
    refine J.loop (ι := Nat) (S := fun i => [(9, .int .i64 ((i : Nat) : Int))]) (Φ := fun i w => 1 ≤ i ∧ i ≤ n ∧ List.replicate i (18446744073709551616 - 1) ++ sbK 1 ((x :: xt).drop i) = sbK k (x :: xt) ∧ sbKC 1 ((x :: xt).drop i) = sbKC k (x :: xt) ∧ Hp w0 w ([(q, cel (RW l0 o (List.replicate i (18446744073709551616 - 1))) 63)] :: L)) (μ := fun i => n - i) (C := [(0, _), (1, _)]) 1 ⟨rfl, rfl, trivial⟩ ⟨rfl, trivial⟩ ?_ ?_
    · exact ⟨Nat.le_refl _, by omega, by rw [sbK, hc1v, hw1]; rfl, by rw [sbKC, hc1v]; rfl, by rw [show List.replicate 1 (18446744073709551616 - 1) = [(x + 18446744073709551616 - k) % 18446744073709551616] by rw [hw1]; rfl]; exact H⟩
    clear H
    rintro i ρ w ⟨hi1, hi, hW, hC, H⟩ IH
    refine J.seq ?_
    refine J.seq ?_
    refine J.region ?_
    refine JL.go trivial (RX.movev (v := Value.int _ _) rfl) ?_
    refine JL.go trivial (RX.movev (v := Value.slice _ _ _) rfl) ?_
    refine JL.go trivial (RX.len_slice rfl (by rw [sl50]; rfl) rfl) ?_
    refine JL.go trivial (RX.lt rfl rfl) ?_
    refine JL.nil ?_
    refine J.cond_d rfl (fun hlt => ?_) (fun hlt => ?_)
    · skip
      obtain ⟨y, hyi⟩ : ∃ y, (x :: xt)[i]? = some y := ⟨_, List.getElem?_eq_getElem (by simp; omega)⟩
      have hyb := hw y (List.mem_of_getElem? hyi)
      have hrl : (List.replicate i (18446744073709551616 - 1)).length = i := List.length_replicate
      have hsame : ∀ j, o + i ≤ j → (RW l0 o (List.replicate i (18446744073709551616 - 1)))[j]? = l0[j]? := fun j hj => RW_get (by omega) (by omega)
      obtain ⟨vy, hvy, hvyi⟩ := see (o := o) hs (fun e => Nat.le_of_eq (hal e).symm) hyi hsame
      have hdy : (x :: xt).drop i = y :: (x :: xt).drop (i + 1) := by obtain ⟨h1, h2⟩ := List.getElem?_eq_some_iff.1 hyi; rw [List.drop_eq_getElem_cons h1, h2]
      rw [hdy, sbK] at hW
      rw [hdy, sbKC] at hC
      refine J.skip ?_
      refine J.seq ?_
      refine J.block ?_
      refine J.seq ?_
      refine J.region ?_
      refine JL.go trivial (RX.movev (v := Value.slice _ _ _) rfl) ?_
      refine JL.go trivial (RX.movev (v := Value.int _ _) rfl) ?_
      refine JL.go trivial (RX.indexAddr rfl rfl sl50 (by omega) (by omega) (o' := ob + i) (by omega)) ?_
      refine JL.go trivial (RX.loadS H hvy rfl (j := i) rfl (v := .int .u64 (y : Int)) hvyi one63) ?_
      refine JL.go trivial (RX.assignv (v := Value.int _ _) rfl) ?_
      refine JL.nil ?_
      refine J.seq ?_
      refine J.seq ?_
      refine J.region ?_
      refine JL.go trivial (RX.movev (v := Value.int _ _) rfl) ?_
      refine JL.go trivial (RX.ne rfl rfl) ?_
      refine JL.nil ?_
      refine J.cond_d rfl (fun hmx => ?_) (fun hmx => ?_)
      · skip
        have hy1 : 0 < y := by omega
        refine J.seq ?_
        refine J.region ?_
        refine JL.go trivial (RX.movev (v := Value.slice _ _ _) rfl) ?_
        refine JL.go trivial (RX.movev (v := Value.int _ _) rfl) ?_
        refine JL.go trivial (RX.movev (v := Value.int _ _) rfl) ?_
        refine JL.go trivial (RX.sub rfl rfl (wn (n := (y - 1)) (by omega) (by omega))) ?_
        refine JL.go trivial (RX.indexAddr rfl rfl sl50 (by omega) (by omega) (o' := o + i) (by omega)) ?_
        refine JL.does trivial (EX.store (v := Value.int _ _) H rfl rfl (i := 0) rfl rfl (by rw [RW_len (by omega)]; omega) sz63 rfl rfl) ?_
        rintro _ w H
        refine JL.nil ?_
        simp only [List.set_cons_zero] at H
        have hset := RW_set (l := l0) (o := o) (W := List.replicate i (18446744073709551616 - 1)) (v := (y - 1)) (by omega)
        rw [hrl] at hset
        rw [hset] at H
        refine J.seq ?_
        refine J.seq ?_
        have hmq : (q, Obj.cells (RW l0 o (List.replicate i (18446744073709551616 - 1) ++ [(y - 1)])).toArray 63 (0, 0)) ∈ (([(q, cel (RW l0 o (List.replicate i (18446744073709551616 - 1) ++ [(y - 1)])) 63)] : Seg) :: L).flatten := List.mem_append_left _ (List.mem_singleton.2 rfl)
        obtain ⟨CB, TB, hmb⟩ : ∃ CB TB, (b, Obj.cells CB TB (0, 0)) ∈ (([(q, cel (RW l0 o (List.replicate i (18446744073709551616 - 1) ++ [(y - 1)])) 63)] : Seg) :: L).flatten := by
          rcases hm with rfl | ⟨C, T, hm⟩
          · exact ⟨_, _, hmq⟩
          · exact ⟨_, _, List.mem_append_right _ hm⟩
        refine J.quietH H hmix (by kernel_rfl) ?_
        refine JQ.go trivial (fun w H => RX.movev (v := Value.slice _ _ _) rfl) ?_
        refine JQ.go trivial (fun w H => RX.indexAddr rfl rfl sl50 (by omega) (by omega) (o' := o) (by omega)) ?_
        refine JQ.go trivial (fun w H => RX.movev (v := Value.slice _ _ _) rfl) ?_
        refine JQ.go trivial (fun w H => RX.indexAddr rfl rfl sl50 (by omega) (by omega) (o' := ob) (by omega)) ?_
        refine JQ.go trivial (fun w H => RX.ptr_neq H rfl rfl ud87 (k := 0) sz63 (fun e => (hal e.symm).symm) hmq hmb) ?_
        refine JQ.nil fun w H => ?_
        refine J.cond rfl (fun hne => ?_) (fun hne => ?_)
        · skip
          replace hne := of_decide_eq_true hne
          refine J.any hmix fun w hs => ?_
          replace H := H.same hs; clear hs
          refine JA.take 0 (listed' := [true, false, false, false, false, false, false, false, false]) rfl (by kernel_rfl) (by kernel_rfl) (by kernel_rfl) rfl trivial (fun w => RX.movev (v := Value.slice _ _ _) rfl) ?_
          refine JA.take 1 (listed' := [true, true, false, false, false, false, false, false, false]) rfl (by kernel_rfl) (by kernel_rfl) (by kernel_rfl) rfl trivial (fun w => RX.movev (v := Value.int _ _) rfl) ?_
          refine JA.take 2 (listed' := [true, true, true, false, false, false, false, false, false]) rfl (by kernel_rfl) (by kernel_rfl) (by kernel_rfl) rfl trivial (fun w => RX.add rfl rfl (wi (n := i + 1) (by omega) (by omega))) ?_
          refine JA.take 3 (listed' := [true, true, true, true, false, false, false, false, false]) rfl (by kernel_rfl) (by kernel_rfl) (by kernel_rfl) rfl trivial (fun w => RX.slice_l rfl rfl sl50 (fun a ha => by cases ha; rfl) (by omega) (by omega) (r := i + 1) (by omega)) ?_
          refine JA.take 4 (listed' := [true, true, true, true, true, false, false, false, false]) rfl (by kernel_rfl) (by kernel_rfl) (by kernel_rfl) rfl trivial (fun w => RX.movev (v := Value.slice _ _ _) rfl) ?_
          refine JA.take 5 (listed' := [true, true, true, true, true, true, false, false, false]) rfl (by kernel_rfl) (by kernel_rfl) (by kernel_rfl) rfl trivial (fun w => RX.movev (v := Value.int _ _) rfl) ?_
          refine JA.take 6 (listed' := [true, true, true, true, true, true, true, false, false]) rfl (by kernel_rfl) (by kernel_rfl) (by kernel_rfl) rfl trivial (fun w => RX.add rfl rfl (wi (n := i + 1) (by omega) (by omega))) ?_
          refine JA.take 7 (listed' := [true, true, true, true, true, true, true, true, false]) rfl (by kernel_rfl) (by kernel_rfl) (by kernel_rfl) rfl trivial (fun w => RX.slice_l rfl rfl sl50 (fun a ha => by cases ha; rfl) (by omega) (by omega) (r := i + 1) (by omega)) ?_
          refine JA.all [8] (by kernel_rfl) (by decide) ?_
          refine JO.does (listed' := [true, true, true, true, true, true, true, true, true]) rfl rfl trivial (EX.copyO (ys := u64sV ((x :: xt).drop (i + 1))) (q := q) (o := o + (i + 1)) (i := 0) H rfl rfl ud50 (by kernel_rfl) rfl (behZ hc1) (beh_at (xs := x :: xt) (r := i + 1) (see_ne hs (fun e => hne e.symm)) (by omega)) (by rw [u64sV_len, List.length_drop]; omega) (by rw [RW_len (by simp; omega)]; omega) (u64sV_cell _)) ?_
          rintro _ w ⟨rfl, H⟩
          have hcp := RW_copy (l := l0) (o := o) (W := List.replicate i (18446744073709551616 - 1) ++ [(y - 1)]) (R := (x :: xt).drop (i + 1)) (by simp; omega)
          have hl1 : (List.replicate i (18446744073709551616 - 1) ++ [(y - 1)] : List Nat).length = i + 1 := by simp
          have hl2 : ((x :: xt).drop (i + 1)).length = n - (i + 1) := by simp; omega
          rw [hl1, hl2] at hcp
          simp only [List.set_cons_zero] at H
          rw [hcp] at H
          refine JA.done (by kernel_rfl) ?_
          refine J.seq ?_
          refine J.region ?_
          refine JL.go trivial (RX.assign) ?_
          refine JL.nil ?_
          refine J.ret1 (v := Value.int _ _) Tryz.func56 rfl rfl ?_
          have hz := sbK_zero (xs := (x :: xt).drop (i + 1)) fun z hz => hw z (List.mem_of_mem_drop hz)
          have e1 : (y + 18446744073709551616 - 1) % 18446744073709551616 = y - 1 := by omega
          have e2 : (if y < 1 then 1 else 0 : Nat) = 0 := if_neg (by omega)
          rw [e1, e2, hz.1] at hW
          rw [e2, hz.2] at hC
          rw [← hC, ← hW]
          rw [List.append_assoc] at H
          exact ⟨_, rfl, rfl, H⟩
        · skip
          have hqb : b = q := (Classical.not_not.1 (of_decide_eq_false hne)).symm
          have hcp := RW_own (l := l0) (o := o) (W := List.replicate i (18446744073709551616 - 1) ++ [(y - 1)]) (R := (x :: xt).drop (i + 1)) (by simp; omega) (fun j hj => by
            have := hown hqb (i + 1 + j) (by simp at hj ⊢; omega)
            have hl1 : (List.replicate i (18446744073709551616 - 1) ++ [(y - 1)] : List Nat).length = i + 1 := by simp
            rw [hl1, Nat.add_assoc, this, u64sV_drop, List.getElem?_drop])
          rw [hcp] at H
          refine J.skip ?_
          refine J.seq ?_
          refine J.region ?_
          refine JL.go trivial (RX.assign) ?_
          refine JL.nil ?_
          refine J.ret1 (v := Value.int _ _) Tryz.func56 rfl rfl ?_
          have hz := sbK_zero (xs := (x :: xt).drop (i + 1)) fun z hz => hw z (List.mem_of_mem_drop hz)
          have e1 : (y + 18446744073709551616 - 1) % 18446744073709551616 = y - 1 := by omega
          have e2 : (if y < 1 then 1 else 0 : Nat) = 0 := if_neg (by omega)
          rw [e1, e2, hz.1] at hW
          rw [e2, hz.2] at hC
          rw [← hC, ← hW]
          rw [List.append_assoc] at H
          exact ⟨_, rfl, rfl, H⟩
      · skip
        have hyM : y = 0 := by omega
        have e1 : (y + 18446744073709551616 - 1) % 18446744073709551616 = 18446744073709551616 - 1 := by omega
        have e2 : (if y < 1 then 1 else 0 : Nat) = 1 := if_pos (by omega)
        rw [e1, e2] at hW
        rw [e2] at hC
        refine J.skip ?_
        refine J.region ?_
        refine JL.go trivial (RX.movev (v := Value.slice _ _ _) rfl) ?_
        refine JL.go trivial (RX.movev (v := Value.int _ _) rfl) ?_
        refine JL.go trivial (RX.indexAddr rfl rfl sl50 (by omega) (by omega) (o' := o + i) (by omega)) ?_
        refine JL.does trivial (EX.store (v := Value.int _ _) H rfl rfl (i := 0) rfl rfl (by rw [RW_len (by omega)]; omega) sz63 rfl rfl) ?_
        rintro _ w H
        refine JL.nil ?_
        simp only [List.set_cons_zero] at H
        have hset := RW_set (l := l0) (o := o) (W := List.replicate i (18446744073709551616 - 1)) (v := (18446744073709551616 - 1)) (by omega)
        rw [hrl, ← List.replicate_succ'] at hset
        replace H := hset ▸ H
        refine J.inBlock ?_
        refine J.region ?_
        refine JL.go trivial (RX.movev (v := Value.int _ _) rfl) ?_
        refine JL.go trivial (RX.add rfl rfl (wi (n := i + 1) (by omega) (by omega))) ?_
        refine JL.go trivial (RX.assignv (v := Value.int _ _) rfl) ?_
        refine JL.nil ?_
        refine IH (i + 1) _ _ (by omega) ⟨rfl, rfl, trivial⟩ ⟨rfl, trivial⟩ ⟨by omega, by omega, by rw [← hW, List.replicate_succ', List.append_assoc]; rfl, hC, H⟩
    · skip
      obtain rfl : i = n := by omega
      rw [List.drop_eq_nil_of_le (by omega)] at hW hC
      have hW2 : List.replicate i (18446744073709551616 - 1) = sbK k (x :: xt) := (List.append_nil _).symm.trans hW
      have hC2 : 1 = sbKC k (x :: xt) := hC
      rw [hW2] at H
      refine J.exit rfl ?_
      refine J.seq ?_
      refine J.region ?_
      refine JL.go trivial (RX.assign) ?_
      refine JL.nil ?_
      refine J.ret1 (v := Value.int _ _) Tryz.func56 rfl rfl ?_
      exact ⟨_, rfl, by rw [← hC2]; rfl, H⟩
end Nn
end Go.Proofs.YtfpphoapknecfaaGreatDoorBesafter

/- Powers modulo a prime: plain facts. -/
import Derived.Test.YtfpphoapknecfaaGreatDoorBesafterBase
namespace Go.Proofs.YtfpphoapknecfaaGreatDoorBesafter
open Go Go.Eng
set_option maxRecDepth 100000
set_option linter.unusedVariables false
set_option linter.unusedSimpArgs false
/-- a^e modulo m. -/
def pw (m a e : Nat) : Nat := a ^ e % m
theorem pw_lt {m : Nat} (hm : 0 < m) (a e : Nat) : pw m a e < m := Nat.mod_lt _ hm
theorem pw_zero (m a : Nat) : pw m a 0 = 1 % m := rfl
theorem pw_add (m a e f : Nat) : pw m a (e + f) = pw m a e * pw m a f % m := by
  unfold pw; rw [Nat.pow_add, Nat.mul_mod]
theorem pw_one {m a : Nat} : pw m a 1 = a % m := by unfold pw; rw [Nat.pow_one]
theorem pw_mod (m a e : Nat) : pw m (a % m) e = pw m a e := by unfold pw; rw [← Nat.pow_mod]
theorem pw_pw (m a e f : Nat) : pw m (pw m a e) f = pw m a (e * f) := by
  unfold pw; rw [← Nat.pow_mod, ← Nat.pow_mul]
theorem pw_base_one {m : Nat} (e : Nat) : pw m 1 e = 1 % m := by unfold pw; rw [Nat.one_pow]
theorem pw_mul (m a b e : Nat) : pw m (a * b) e = pw m a e * pw m b e % m := by
  unfold pw; rw [Nat.mul_pow, Nat.mul_mod]
/-- By squares. -/
def pm (m : Nat) : Nat → Nat → Nat → Nat
  | 0, _, _ => 1 % m
  | f + 1, a, e => if e = 0 then 1 % m else if e % 2 = 1 then a * pm m f (a * a % m) (e / 2) % m else pm m f (a * a % m) (e / 2)
theorem pm_eq (m : Nat) : ∀ f a e, e < 2 ^ f → pm m f a e = pw m a e
  | 0, a, e, h => by
    have : e = 0 := by have := h; rw [Nat.pow_zero] at this; omega
    subst this; rfl
  | f + 1, a, e, h => by
    unfold pm
    have h2 : e / 2 < 2 ^ f := by rw [Nat.pow_succ] at h; omega
    have ih := pm_eq m f (a * a % m) (e / 2) h2
    have hs : pw m (a * a % m) (e / 2) = pw m a (e / 2 + e / 2) := by rw [pw_mod, pw_mul, ← pw_add]
    split
    · next h0 => subst h0; rfl
    · split
      · next h1 =>
        rw [ih, hs]
        have e1 : e = 1 + (e / 2 + e / 2) := by omega
        conv => rhs; rw [e1, pw_add, pw_one]
        rw [Nat.mod_mul_mod]
      · rw [ih, hs]
        congr 1; omega
/-- The root of unity kept small: exponents modulo n. -/
theorem pw_red {m r n : Nat} (hn : pw m r n = 1 % m) (e : Nat) : pw m r (e % n) = pw m r e := by
  have h1 : pw m r (n * (e / n)) = 1 % m := by rw [← pw_pw, hn, pw_mod, pw_base_one]
  conv => rhs; rw [← Nat.div_add_mod e n, pw_add, h1]
  rw [Nat.mod_mul_mod, Nat.one_mul]
  unfold pw; rw [Nat.mod_mod]
theorem inv_uniq {m a b c : Nat} (h1 : a * c % m = 1 % m) (h2 : b * c % m = 1 % m) : a % m = b % m := by
  have e1 : a * (b * c) % m = a % m := by rw [Nat.mul_mod, h2, ← Nat.mul_mod, Nat.mul_one]
  have e2 : b * (a * c) % m = b % m := by rw [Nat.mul_mod, h1, ← Nat.mul_mod, Nat.mul_one]
  rw [← e1, ← e2]; congr 1
  rw [← Nat.mul_assoc, ← Nat.mul_assoc, Nat.mul_comm a b]
/-- The root of the back way. -/
theorem pw_back {m r b n k j : Nat} (hn : pw m r n = 1 % m) (hb : b * r % m = 1 % m) (hk : k ≤ n) : pw m r ((n - k) * j % n) = pw m b (k * j) := by
  rw [pw_red hn]
  have h1 : pw m r ((n - k) * j) * pw m r (k * j) % m = 1 % m := by
    rw [← pw_add, ← Nat.add_mul, Nat.sub_add_cancel hk, ← pw_pw, hn, pw_mod, pw_base_one]
  have h2 : pw m b (k * j) * pw m r (k * j) % m = 1 % m := by
    rw [← pw_mul, ← pw_mod, hb, pw_mod, pw_base_one]
  have := inv_uniq h1 h2
  unfold pw at this ⊢
  rw [Nat.mod_mod, Nat.mod_mod] at this
  exact this
/-- The sum of x[j] times e j, from the left, modulo m. -/
def sm (m : Nat) (x : List Nat) (e : Nat → Nat) : Nat → Nat
  | 0 => 0
  | j + 1 => (sm m x e j + (x.getD j 0) * e j % m) % m
theorem sm_lt {m : Nat} (hm : 0 < m) (x : List Nat) (e : Nat → Nat) : ∀ j, sm m x e j < m
  | 0 => hm
  | _ + 1 => Nat.mod_lt _ hm
theorem sm_ext {m : Nat} {x : List Nat} {e f : Nat → Nat} (h : ∀ j, e j = f j) : ∀ j, sm m x e j = sm m x f j
  | 0 => rfl
  | j + 1 => by rw [sm, sm, sm_ext h j, h]
theorem sm_step (m y v f : Nat) : (y + v % m * f) % m = (y + v * f % m) % m := by
  rw [Nat.add_mod y (v % m * f), Nat.add_mod y (v * f % m), Nat.mod_mul_mod, Nat.mod_mod]
/-- The transform modulo m by the root r: all places. -/
def dft (m r : Nat) (x : List Nat) : List Nat := (List.range x.length).map fun k => sm m x (fun j => pw m r (k * j)) x.length
theorem dft_len (m r : Nat) (x : List Nat) : (dft m r x).length = x.length := by simp [dft]
theorem dft_get {m r : Nat} {x : List Nat} {k : Nat} (h : k < x.length) : (dft m r x)[k]? = some (sm m x (fun j => pw m r (k * j)) x.length) := by
  simp [dft, h]
/-- Factors, as both texts take them out: the inner and the outer loop, with fuel. -/
def stripF : Nat → Int → Int → List Int → Option (Int × List Int)
  | 0, _, _, _ => none
  | f + 1, n, p, out => if n.tmod p = 0 then stripF f (n.tdiv p) p (out ++ [p]) else some (n, out)
def trialF : Nat → Int → Int → List Int → Option (Int × List Int)
  | 0, _, _, _ => none
  | f + 1, n, p, out => if p * p ≤ n then (match stripF 64 n p out with
    | some (n', out') => trialF f n' (p + 1) out'
    | none => none) else some (n, out)
/-- No number from lo on, 2^k of them, divides p. -/
def nod (p : Nat) : Nat → Nat → Bool
  | 0, lo => p % lo != 0
  | k + 1, lo => nod p k lo && nod p k (lo + 2 ^ k)
theorem nod_spec {p : Nat} : ∀ {k lo d : Nat}, nod p k lo = true → lo ≤ d → d < lo + 2 ^ k → p % d ≠ 0
  | 0, lo, d, h, h1, h2 => by
    rw [Nat.pow_zero] at h2
    have : d = lo := by omega
    subst this
    simpa [nod] using h
  | k + 1, lo, d, h, h1, h2 => by
    rw [nod, Bool.and_eq_true] at h
    rw [Nat.pow_succ] at h2
    by_cases hd : d < lo + 2 ^ k
    · exact nod_spec h.1 h1 hd
    · exact nod_spec h.2 (by omega) (by omega)
theorem trial_prime {p : Nat} (h : ∀ d, 2 ≤ d → d * d ≤ p → p % d ≠ 0) : ∀ (f d : Nat), 2 ≤ d → p < (d + f) * (d + f) → ∀ out, trialF (f + 1) (p : Int) (d : Int) out = some ((p : Int), out)
  | 0, d, _, hf, out => by
    rw [trialF, if_neg]
    have : ¬ d * d ≤ p := by simpa using hf
    intro hc
    exact this (by exact_mod_cast hc)
  | f + 1, d, hd, hf, out => by
    rw [trialF]
    split
    · next hc =>
      have hc' : d * d ≤ p := by exact_mod_cast hc
      have hm : (p : Int).tmod (d : Int) ≠ 0 := by
        rw [Int.tmod_eq_emod_of_nonneg (by omega)]
        have := h d hd hc'
        intro he
        exact this (by exact_mod_cast he)
      rw [show stripF 64 (p : Int) (d : Int) out = some ((p : Int), out) by rw [stripF, if_neg hm]]
      have := trial_prime h f (d + 1) (by omega) (by rw [show d + 1 + f = d + (f + 1) by omega]; exact hf) out
      simpa using this
    · rfl
/-- Euclid's way: r and s, and the numbers that make them of a modulo m. -/
def lessN (m a b : Nat) : Nat := if b ≤ a then a - b else m - (b - a)
def euF (m : Nat) : Nat → Nat → Nat → Nat → Nat → Option (Nat × Nat)
  | 0, _, _, _, _ => none
  | f + 1, r, s, x, y => if s = 0 then some (r, x) else euF m f s (r % s) y (lessN m x (r / s * y % m))
/-- The three primes, their least roots. -/
def primes3 : List Nat := [2013265921, 1811939329, 469762049]
def gens3 : List Nat := [31, 13, 3]
def facs3 : List (List Int) := [List.replicate 27 2 ++ [3, 5], List.replicate 26 2 ++ [3, 3, 3], List.replicate 26 2 ++ [7]]
def prodOK (p : Nat) : Bool := nod p 16 2
def genOK (p g : Nat) (fs : List Int) : Bool := decide (g ≤ 1000) && decide (fs.length ≤ 100) && (fs.all (fun q => (decide (0 < q) && decide (q < 100)) && pm p 32 g ((p - 1) / q.toNat) != 1) && (List.range g).all (fun h => h == 0 || fs.any (fun q => pm p 32 h ((p - 1) / q.toNat) == 1)))
def facOK (p : Nat) (fs : List Int) : Bool := match trialF 100 (p - 1 : Int) 2 [] with
  | some (n, out) => (if 1 < n then out ++ [n] else out) == fs
  | none => false
def invOK (p : Nat) : Bool := (List.range 1025).all fun n => n == 0 || (p - 1) % n != 0 || (match euF p 64 p (n % p) 0 1 with
  | some (r, x) => r == 1 && x % p == pm p 32 n (p - 2)
  | none => false)
structure GoodP (p g : Nat) (fs : List Int) : Prop where
  lo : 1048576 < p
  hi : p < 4294967296
  pr : ∀ d, 2 ≤ d → d * d ≤ p → p % d ≠ 0
  gen : genOK p g fs = true
  one : pw p g (p - 1) = 1
  fac : facOK p fs = true
  inv : invOK p = true
theorem prod_spec {p : Nat} (h : prodOK p = true) (hp : p < 4294967296) : ∀ d, 2 ≤ d → d * d ≤ p → p % d ≠ 0 := by
  intro d h1 h2
  refine nod_spec h h1 ?_
  by_cases hd : d < 65536
  · exact Nat.lt_of_lt_of_le hd (by decide)
  · exfalso
    have : 65536 * 65536 ≤ d * d := Nat.mul_le_mul (by omega) (by omega)
    omega
theorem good1 : GoodP 2013265921 31 (List.replicate 27 2 ++ [3, 5]) :=
  ⟨by decide, by decide, prod_spec (by decide +kernel) (by decide), by decide +kernel, by rw [← pm_eq _ 32 _ _ (by decide)]; decide +kernel, by decide +kernel, by decide +kernel⟩
theorem good2 : GoodP 1811939329 13 (List.replicate 26 2 ++ [3, 3, 3]) :=
  ⟨by decide, by decide, prod_spec (by decide +kernel) (by decide), by decide +kernel, by rw [← pm_eq _ 32 _ _ (by decide)]; decide +kernel, by decide +kernel, by decide +kernel⟩
theorem good3 : GoodP 469762049 3 (List.replicate 26 2 ++ [7]) :=
  ⟨by decide, by decide, prod_spec (by decide +kernel) (by decide), by decide +kernel, by rw [← pm_eq _ 32 _ _ (by decide)]; decide +kernel, by decide +kernel, by decide +kernel⟩
theorem good3s {i p : Nat} (h : primes3[i]? = some p) : ∃ g fs, gens3[i]? = some g ∧ GoodP p g fs := by
  match i, h with
  | 0, h => cases h; exact ⟨_, _, rfl, good1⟩
  | 1, h => cases h; exact ⟨_, _, rfl, good2⟩
  | 2, h => cases h; exact ⟨_, _, rfl, good3⟩
  | n + 3, h => cases h

end Go.Proofs.YtfpphoapknecfaaGreatDoorBesafter

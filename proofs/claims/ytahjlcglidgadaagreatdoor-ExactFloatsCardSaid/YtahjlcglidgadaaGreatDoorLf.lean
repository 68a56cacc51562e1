/- Linear forms, and a machine over them: plain. -/
import Derived.Test.YtahjlcglidgadaaGreatDoorLw
namespace Go.Proofs.YtahjlcglidgadaaGreatDoor
open Go Go.Eng
set_option maxRecDepth 100000
set_option linter.unusedVariables false
set_option linter.unusedSimpArgs false
namespace Cc
def addL : List Int → List Int → List Int
  | [], B => B
  | a :: A, [] => a :: A
  | a :: A, b :: B => (a + b) :: addL A B
def sclL (k : Int) (A : List Int) : List Int := A.map (k * ·)
def dot : List Int → List Int → Int
  | a :: A, x :: X => a * x + dot A X
  | [], _ => 0
  | _ :: _, [] => 0
def absL : List Int → Nat
  | [] => 0
  | a :: A => a.natAbs + absL A
theorem dot_nil (X : List Int) : dot [] X = 0 := by cases X <;> rfl
theorem dot_nil2 (A : List Int) : dot A [] = 0 := by cases A <;> rfl
theorem dot_add : ∀ (A B X : List Int), dot (addL A B) X = dot A X + dot B X
  | [], B, X => by simp [addL, dot_nil]
  | a :: A, [], X => by simp [addL, dot_nil]
  | a :: A, b :: B, [] => by simp [dot_nil2]
  | a :: A, b :: B, x :: X => by
    simp only [addL, dot, dot_add A B X, Int.add_mul]; omega
theorem dot_scl (k : Int) : ∀ (A X : List Int), dot (sclL k A) X = k * dot A X
  | [], X => by simp [sclL, dot_nil]
  | a :: A, [] => by simp [dot_nil2]
  | a :: A, x :: X => by
    have ih := dot_scl k A X
    simp only [sclL, List.map_cons, dot] at ih ⊢
    rw [ih, Int.mul_add, Int.mul_assoc]
theorem dot_le {M : Nat} : ∀ (A X : List Int), (∀ x ∈ X, x.natAbs ≤ M) → (dot A X).natAbs ≤ absL A * M
  | [], X, _ => by simp [dot_nil]
  | a :: A, [], _ => by simp [dot_nil2]
  | a :: A, x :: X, h => by
    have ih := dot_le A X fun y hy => h y (List.mem_cons_of_mem _ hy)
    have h1 : (a * x).natAbs ≤ a.natAbs * M := by
      rw [Int.natAbs_mul]; exact Nat.mul_le_mul (Nat.le_refl _) (h x List.mem_cons_self)
    have h2 := Int.natAbs_add_le (a * x) (dot A X)
    simp only [dot, absL, Nat.add_mul]; omega
abbrev Cf := List Int × List Int
def Cf.add (c d : Cf) : Cf := (addL c.1 d.1, addL c.2 d.2)
def Cf.sub (c d : Cf) : Cf := (addL c.1 (sclL (-1) d.1), addL c.2 (sclL (-1) d.2))
/-- A root of unity of 4: of number e modulo 4. -/
def wq (e : Nat) : Int × Int := match e % 4 with | 0 => (1, 0) | 1 => (0, -1) | 2 => (-1, 0) | _ => (0, 1)
def Cf.mulw (c : Cf) (w : Int × Int) : Cf := (addL (sclL w.1 c.1) (sclL (-w.2) c.2), addL (sclL w.2 c.1) (sclL w.1 c.2))
def Cf.plusI (c : Cf) : Cf := (sclL (-1) c.2, c.1)
def Cf.minusI (c : Cf) : Cf := (c.2, sclL (-1) c.1)
def lim : Nat := 64
def Cf.ok (c : Cf) : Bool := decide (absL c.1 ≤ lim) && decide (absL c.2 ≤ lim)
def okF (c : Cf) : Option Cf := if c.ok then some c else none
def getF (c : List Cf) (i : Nat) : Option Cf := c[i]?
def putF (c : List Cf) (i : Nat) (v : Cf) : Option (List Cf) := if i < c.length then some (c.set i v) else none
/-- The sum number k of n numbers: its first j + 1 parts. -/
def dsum (n k : Nat) (x : Nat → Option Cf) : Nat → Option Cf
  | 0 => x 0
  | j + 1 => (dsum n k x j).bind fun s => (x (j + 1)).bind fun a =>
    (if (j + 1) * k % n = 0 then some a else okF (a.mulw (wq (4 * ((j + 1) * k % n) / n)))).bind fun b => okF (s.add b)
def flyF : List Cf → Option (List Cf)
  | [a, b] => do let s ← okF (a.add b); let d ← okF (a.sub b); some [s, d]
  | [a0, a1, a2, a3] => do
    let p ← okF (a0.add a2); let q ← okF (a0.sub a2); let s ← okF (a1.add a3); let u ← okF (a1.sub a3)
    let y0 ← okF (p.add s); let y1 ← okF (q.add u.minusI); let y2 ← okF (p.sub s); let y3 ← okF (q.add u.plusI)
    some [y0, y1, y2, y3]
  | _ => none
structure Ac where
  op : Nat
  dst : Nat
  src : Nat
  jump : Nat
  n : Nat
  k : Nat
def putsF (c : List Cf) (d j : Nat) : List Cf → Option (List Cf)
  | [] => some c
  | v :: vs => do let c' ← putF c d v; putsF c' (d + j) j vs
def actF (s : Ac) (i : Nat) (c : List Cf) : Option (List Cf) :=
  match s.op with
  | 1 => do let v ← getF c (s.src + i * s.jump); putF c (s.dst + i) v
  | 2 => do let v ← getF c (s.src + i); putF c (s.dst + i * s.jump) v
  | 4 => (getF c (s.dst + i)).bind fun v =>
    (if s.k * i % s.n = 0 then some v else okF (v.mulw (wq (4 * (s.k * i % s.n) / s.n)))).bind fun r => putF c (s.dst + i) r
  | 6 => do let r ← dsum s.n i (fun j => getF c (s.src + j * s.jump)) (s.n - 1); putF c (s.dst + i) r
  | 5 => do
    let a ← (List.range s.n).mapM fun q => getF c (s.dst + i + q * s.jump)
    let y ← flyF a
    putsF c (s.dst + i) s.jump y
  | _ => none
structure Sp where
  op : Nat
  dst : Nat
  src : Nat
  jump : Nat
  count : Nat
  n : Nat
  k : Nat
def leafS (fly : Bool) (n src jump dst : Nat) : List Sp := if fly then [⟨1, dst, src, jump, n, 0, 0⟩, ⟨5, dst, 0, 1, 1, n, 0⟩] else [⟨6, dst, src, jump, n, n, 0⟩]
def leafW (fly : Bool) (n : Nat) (xs : List (Nat × Nat × Nat)) : List Sp :=
  if fly then xs.map (fun x => ⟨1, x.2.2, x.1, x.2.1, n, 0, 0⟩) ++ xs.map (fun x => ⟨5, x.2.2, 0, 1, 1, n, 0⟩) else xs.map (fun x => ⟨6, x.2.2, x.1, x.2.1, n, n, 0⟩)
def deep2 (a b : Bool) : List Sp × Nat :=
  if a then (leafS b 2 0 2 4 ++ leafS b 2 1 2 6 ++ [⟨4, 6, 0, 0, 2, 4, 1⟩, ⟨5, 4, 0, 2, 2, 2, 0⟩], 8)
  else (leafS b 2 0 2 8 ++ leafS b 2 1 2 10 ++ [⟨4, 10, 0, 0, 2, 4, 1⟩] ++ leafS a 2 8 2 12 ++ [⟨2, 4, 12, 2, 2, 0, 0⟩] ++ leafS a 2 9 2 12 ++ [⟨2, 5, 12, 2, 2, 0, 0⟩], 14)
def wide2 (a b : Bool) : List Sp × Nat :=
  if a then (leafW b 2 [(0, 2, 4), (1, 2, 6)] ++ [⟨4, 6, 0, 0, 2, 4, 1⟩, ⟨5, 4, 0, 2, 2, 2, 0⟩], 8)
  else (leafW b 2 [(0, 2, 8), (1, 2, 10)] ++ [⟨4, 10, 0, 0, 2, 4, 1⟩] ++ leafW a 2 [(8, 2, 12), (9, 2, 14)] ++ [⟨2, 4, 12, 2, 2, 0, 0⟩, ⟨2, 5, 14, 2, 2, 0, 0⟩], 16)
def runS (s : Sp) (c : List Cf) : Nat → Option (List Cf)
  | 0 => some c
  | i + 1 => do let c' ← runS s c i; actF ⟨s.op, s.dst, s.src, s.jump, s.n, s.k⟩ i c'
def runP : List Sp → List Cf → Option (List Cf)
  | [], c => some c
  | s :: ss, c => do let c' ← runS s c s.count; runP ss c'
def unitL (m i : Nat) : List Int := (List.range m).map fun j => if j = i then 1 else 0
def initF (n cells : Nat) : List Cf := (List.range cells).map fun i => if i < n then (unitL (2 * n) (2 * i), unitL (2 * n) (2 * i + 1)) else ([], [])
def padL (m : Nat) (A : List Int) : List Int := (List.range m).map fun i => (A[i]?).getD 0
def dftF (n : Nat) : List (Option Cf) := (List.range n).map fun k => dsum n k (fun j => some (unitL (2 * n) (2 * j), unitL (2 * n) (2 * j + 1))) (n - 1)
def answer (n : Nat) (p : List Sp × Nat) : Option (List Cf) := do
  let c ← runP p.1 (initF n p.2)
  some (((c.drop n).take n).map fun c => (padL (2 * n) c.1, padL (2 * n) c.2))
def want (n : Nat) : Option (List Cf) := (dftF n).mapM fun o => o.map fun c => (padL (2 * n) c.1, padL (2 * n) c.2)

/-- A number's value. -/
def ev (c : Cf) (X : List Int) : Int × Int := (dot c.1 X, dot c.2 X)
def Zc (f : Nat × Nat) (z : Int × Int) : Prop := IsZ f.1 z.1 ∧ IsZ f.2 z.2
/-- Inputs of at most 2^44. -/
def InX (X : List Int) : Prop := ∀ x ∈ X, x.natAbs ≤ 17592186044416
theorem dot_scl' (k : Int) (A X : List Int) : dot (sclL k A) X = k * dot A X := dot_scl k A X
theorem ev_add (c d : Cf) (X : List Int) : ev (c.add d) X = ((ev c X).1 + (ev d X).1, (ev c X).2 + (ev d X).2) := by simp only [ev, Cf.add, dot_add]
theorem ev_sub (c d : Cf) (X : List Int) : ev (c.sub d) X = ((ev c X).1 - (ev d X).1, (ev c X).2 - (ev d X).2) := by
  simp only [ev, Cf.sub, dot_add, dot_scl]
  congr 1 <;> omega
theorem ev_mulw (c : Cf) (w : Int × Int) (X : List Int) : ev (c.mulw w) X = ((ev c X).1 * w.1 - (ev c X).2 * w.2, (ev c X).1 * w.2 + (ev c X).2 * w.1) := by
  simp only [ev, Cf.mulw, dot_add, dot_scl]
  congr 1
  · rw [Int.neg_mul, Int.mul_comm w.1, Int.mul_comm w.2]; omega
  · rw [Int.mul_comm w.1, Int.mul_comm w.2]
theorem ev_plusI (c : Cf) (X : List Int) : ev c.plusI X = (-(ev c X).2, (ev c X).1) := by
  simp only [ev, Cf.plusI, dot_scl]; congr 1; omega
theorem ev_minusI (c : Cf) (X : List Int) : ev c.minusI X = ((ev c X).2, -(ev c X).1) := by
  simp only [ev, Cf.minusI, dot_scl]; congr 1; omega
theorem ok_le {c : Cf} (h : c.ok = true) {X : List Int} (hX : InX X) : (ev c X).1.natAbs ≤ 1125899906842624 ∧ (ev c X).2.natAbs ≤ 1125899906842624 := by
  unfold Cf.ok at h
  obtain ⟨g1, g2⟩ := Bool.and_eq_true_iff.1 h
  replace g1 := of_decide_eq_true g1
  replace g2 := of_decide_eq_true g2
  unfold lim at g1 g2
  have h1 := dot_le c.1 X hX
  have h2 := dot_le c.2 X hX
  have k1 := Nat.mul_le_mul g1 (Nat.le_refl 17592186044416)
  have k2 := Nat.mul_le_mul g2 (Nat.le_refl 17592186044416)
  simp only [ev]; omega
theorem okF_some {c d : Cf} (h : okF c = some d) : c.ok = true ∧ d = c := by
  unfold okF at h
  split at h
  · next k => exact ⟨k, (Option.some.inj h).symm⟩
  · cases h
theorem wq_cases (e : Nat) : wq e = (1, 0) ∨ wq e = (0, -1) ∨ wq e = (-1, 0) ∨ wq e = (0, 1) := by
  unfold wq
  split <;> simp
/-- The cells: floats that are the values of linear forms. -/
def RelF (X : List Int) (fs : List (Nat × Nat)) (cs : List Cf) : Prop := fs.length = cs.length ∧ ∀ (i : Nat) (c : Cf), cs[i]? = some c → c.ok = true ∧ ∃ f, fs[i]? = some f ∧ Zc f (ev c X)
theorem RelF.set {X : List Int} {fs : List (Nat × Nat)} {cs : List Cf} (h : RelF X fs cs) {i : Nat} {f : Nat × Nat} {c : Cf} (hz : Zc f (ev c X)) (hc : c.ok = true) : RelF X (fs.set i f) (cs.set i c) := by
  refine ⟨by simp [h.1], fun j d hd => ?_⟩
  rw [List.getElem?_set] at hd ⊢
  by_cases e : i = j
  · subst e
    rw [if_pos rfl] at hd ⊢
    split at hd
    · next hl => cases hd; exact ⟨hc, f, by rw [h.1, if_pos hl], hz⟩
    · cases hd
  · rw [if_neg e] at hd ⊢
    exact h.2 j d hd
theorem putF_some {cs cs' : List Cf} {i : Nat} {c : Cf} (h : putF cs i c = some cs') : i < cs.length ∧ cs' = cs.set i c := by
  unfold putF at h
  split at h
  · next k => exact ⟨k, (Option.some.inj h).symm⟩
  · cases h


end Cc
end Go.Proofs.YtahjlcglidgadaaGreatDoor

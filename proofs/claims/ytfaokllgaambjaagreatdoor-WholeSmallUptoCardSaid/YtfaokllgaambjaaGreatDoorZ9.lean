/- Part 9 of the proof that WholeSmall holds: what the functions on its way do, step by step. -/
import Derived.Test.YtfaokllgaambjaaGreatDoorZ1
import Derived.Test.YtfaokllgaambjaaGreatDoorZ2
import Derived.Test.YtfaokllgaambjaaGreatDoorZ3
import Derived.Test.YtfaokllgaambjaaGreatDoorZ4
import Derived.Test.YtfaokllgaambjaaGreatDoorZ5
import Derived.Test.YtfaokllgaambjaaGreatDoorZ7
import Derived.Test.YtfaokllgaambjaaGreatDoorZ8
set_option linter.unusedVariables false
set_option linter.unusedSimpArgs false
namespace Go.Proofs.YtfaokllgaambjaaGreatDoor
open Go Go.Eng
set_option maxRecDepth 100000
set_option maxHeartbeats 1600000
def addL : List Int → List Int → List Int
  | [], B => B
  | a :: A, [] => a :: A
  | a :: A, b :: B => (a + b) :: addL A B
def sclL (k : Int) (A : List Int) : List Int := A.map (k * ·)
def dot : List Int → List Int → Int
  | a :: A, x :: X => a * x + dot A X
  | [], _ => 0
  | _ :: _, [] => 0
def absL : List Int → Nat
  | [] => 0
  | a :: A => a.natAbs + absL A
theorem dot_nil (X : List Int) : dot [] X = 0 := by cases X <;> rfl
theorem dot_nil2 (A : List Int) : dot A [] = 0 := by cases A <;> rfl
theorem dot_add : ∀ (A B X : List Int), dot (addL A B) X = dot A X + dot B X
  | [], B, X => by simp [addL, dot_nil]
  | a :: A, [], X => by simp [addL, dot_nil]
  | a :: A, b :: B, [] => by simp [dot_nil2]
  | a :: A, b :: B, x :: X => by
    simp only [addL, dot, dot_add A B X, Int.add_mul]; omega
theorem dot_scl (k : Int) : ∀ (A X : List Int), dot (sclL k A) X = k * dot A X
  | [], X => by simp [sclL, dot_nil]
  | a :: A, [] => by simp [dot_nil2]
  | a :: A, x :: X => by
    have ih := dot_scl k A X
    simp only [sclL, List.map_cons, dot] at ih ⊢
    rw [ih, Int.mul_add, Int.mul_assoc]
theorem dot_le {M : Nat} : ∀ (A X : List Int), (∀ x ∈ X, x.natAbs ≤ M) → (dot A X).natAbs ≤ absL A * M
 | [], X, _ => by simp [dot_nil]
 | a :: A, [], _ => by simp [dot_nil2]
 | a :: A, x :: X, h => by
   have ih := dot_le A X fun y hy => h y (List.mem_cons_of_mem _ hy)
   have h1 : (a * x).natAbs ≤ a.natAbs * M := by
     rw [Int.natAbs_mul]; exact Nat.mul_le_mul (Nat.le_refl _) (h x List.mem_cons_self)
   have h2 := Int.natAbs_add_le (a * x) (dot A X)
   simp only [dot, absL, Nat.add_mul]; omega
abbrev Cf := List Int × List Int
def Cf.add (c d : Cf) : Cf := (addL c.1 d.1, addL c.2 d.2)
def Cf.sub (c d : Cf) : Cf := (addL c.1 (sclL (-1) d.1), addL c.2 (sclL (-1) d.2))
def wq (e : Nat) : Int × Int := match e % 4 with | 0 => (1, 0) | 1 => (0, -1) | 2 => (-1, 0) | _ => (0, 1)
def Cf.mulw (c : Cf) (w : Int × Int) : Cf := (addL (sclL w.1 c.1) (sclL (-w.2) c.2), addL (sclL w.2 c.1) (sclL w.1 c.2))
def Cf.plusI (c : Cf) : Cf := (sclL (-1) c.2, c.1)
def Cf.minusI (c : Cf) : Cf := (c.2, sclL (-1) c.1)
def lim : Nat := 64
def Cf.ok (c : Cf) : Bool := decide (absL c.1 ≤ lim) && decide (absL c.2 ≤ lim)
def okF (c : Cf) : Option Cf := if c.ok then some c else none
def getF (c : List Cf) (i : Nat) : Option Cf := c[i]?
def putF (c : List Cf) (i : Nat) (v : Cf) : Option (List Cf) := if i < c.length then some (c.set i v) else none
def dsum (n k : Nat) (x : Nat → Option Cf) : Nat → Option Cf
  | 0 => x 0
  | j + 1 => (dsum n k x j).bind fun s => (x (j + 1)).bind fun a =>
    (if (j + 1) * k % n = 0 then some a else okF (a.mulw (wq (4 * ((j + 1) * k % n) / n)))).bind fun b => okF (s.add b)
def flyF : List Cf → Option (List Cf)
  | [a, b] => do let s ← okF (a.add b); let d ← okF (a.sub b); some [s, d]
  | [a0, a1, a2, a3] => do
    let p ← okF (a0.add a2); let q ← okF (a0.sub a2); let s ← okF (a1.add a3); let u ← okF (a1.sub a3)
    let y0 ← okF (p.add s); let y1 ← okF (q.add u.minusI); let y2 ← okF (p.sub s); let y3 ← okF (q.add u.plusI)
    some [y0, y1, y2, y3]
  | _ => none
structure Ac where
  op : Nat
  dst : Nat
  src : Nat
  jump : Nat
  n : Nat
  k : Nat
def putsF (c : List Cf) (d j : Nat) : List Cf → Option (List Cf)
  | [] => some c
  | v :: vs => do let c' ← putF c d v; putsF c' (d + j) j vs
def actF (s : Ac) (i : Nat) (c : List Cf) : Option (List Cf) :=
  match s.op with
  | 1 => do let v ← getF c (s.src + i * s.jump); putF c (s.dst + i) v
  | 2 => do let v ← getF c (s.src + i); putF c (s.dst + i * s.jump) v
  | 4 => (getF c (s.dst + i)).bind fun v =>
    (if s.k * i % s.n = 0 then some v else okF (v.mulw (wq (4 * (s.k * i % s.n) / s.n)))).bind fun r => putF c (s.dst + i) r
  | 6 => do let r ← dsum s.n i (fun j => getF c (s.src + j * s.jump)) (s.n - 1); putF c (s.dst + i) r
  | 5 => do
    let a ← (List.range s.n).mapM fun q => getF c (s.dst + i + q * s.jump)
    let y ← flyF a
    putsF c (s.dst + i) s.jump y
  | _ => none
structure Sp where
  op : Nat
  dst : Nat
  src : Nat
  jump : Nat
  count : Nat
  n : Nat
  k : Nat
def runS (s : Sp) (c : List Cf) : Nat → Option (List Cf)
  | 0 => some c
  | i + 1 => do let c' ← runS s c i; actF ⟨s.op, s.dst, s.src, s.jump, s.n, s.k⟩ i c'
def runP : List Sp → List Cf → Option (List Cf)
  | [], c => some c
  | s :: ss, c => do let c' ← runS s c s.count; runP ss c'
def unitL (m i : Nat) : List Int := (List.range m).map fun j => if j = i then 1 else 0
def initF (n cells : Nat) : List Cf := (List.range cells).map fun i => if i < n then (unitL (2 * n) (2 * i), unitL (2 * n) (2 * i + 1)) else ([], [])
def padL (m : Nat) (A : List Int) : List Int := (List.range m).map fun i => (A[i]?).getD 0
def answer (n : Nat) (p : List Sp × Nat) : Option (List Cf) := do
  let c ← runP p.1 (initF n p.2)
  some (((c.drop n).take n).map fun c => (padL (2 * n) c.1, padL (2 * n) c.2))
def ev (c : Cf) (X : List Int) : Int × Int := (dot c.1 X, dot c.2 X)
def Zc (f : Nat × Nat) (z : Int × Int) : Prop := IsZ f.1 z.1 ∧ IsZ f.2 z.2
def InX (X : List Int) : Prop := ∀ x ∈ X, x.natAbs ≤ 17592186044416
theorem ev_add (c d : Cf) (X : List Int) : ev (c.add d) X = ((ev c X).1 + (ev d X).1, (ev c X).2 + (ev d X).2) := by simp only [ev, Cf.add, dot_add]
theorem ev_sub (c d : Cf) (X : List Int) : ev (c.sub d) X = ((ev c X).1 - (ev d X).1, (ev c X).2 - (ev d X).2) := by
 simp only [ev, Cf.sub, dot_add, dot_scl]
 congr 1 <;> omega
theorem ev_mulw (c : Cf) (w : Int × Int) (X : List Int) : ev (c.mulw w) X = ((ev c X).1 * w.1 - (ev c X).2 * w.2, (ev c X).1 * w.2 + (ev c X).2 * w.1) := by
 simp only [ev, Cf.mulw, dot_add, dot_scl]
 congr 1
 · rw [Int.neg_mul, Int.mul_comm w.1, Int.mul_comm w.2]; omega
 · rw [Int.mul_comm w.1, Int.mul_comm w.2]
theorem ev_plusI (c : Cf) (X : List Int) : ev c.plusI X = (-(ev c X).2, (ev c X).1) := by
 simp only [ev, Cf.plusI, dot_scl]; congr 1; omega
theorem ev_minusI (c : Cf) (X : List Int) : ev c.minusI X = ((ev c X).2, -(ev c X).1) := by
 simp only [ev, Cf.minusI, dot_scl]; congr 1; omega
theorem ok_le {c : Cf} (h : c.ok = true) {X : List Int} (hX : InX X) : (ev c X).1.natAbs ≤ 1125899906842624 ∧ (ev c X).2.natAbs ≤ 1125899906842624 := by
 unfold Cf.ok at h
 obtain ⟨g1, g2⟩ := Bool.and_eq_true_iff.1 h
 replace g1 := of_decide_eq_true g1
 replace g2 := of_decide_eq_true g2
 unfold lim at g1 g2
 have h1 := dot_le c.1 X hX
 have h2 := dot_le c.2 X hX
 have k1 := Nat.mul_le_mul g1 (Nat.le_refl 17592186044416)
 have k2 := Nat.mul_le_mul g2 (Nat.le_refl 17592186044416)
 simp only [ev]; omega
theorem okF_some {c d : Cf} (h : okF c = some d) : c.ok = true ∧ d = c := by
 unfold okF at h
 split at h
 · next k => exact ⟨k, (Option.some.inj h).symm⟩
 · cases h
theorem wq_cases (e : Nat) : wq e = (1, 0) ∨ wq e = (0, -1) ∨ wq e = (-1, 0) ∨ wq e = (0, 1) := by
 unfold wq
 split <;> simp
def RelF (X : List Int) (fs : List (Nat × Nat)) (cs : List Cf) : Prop := fs.length = cs.length ∧ ∀ (i : Nat) (c : Cf), cs[i]? = some c → c.ok = true ∧ ∃ f, fs[i]? = some f ∧ Zc f (ev c X)
theorem RelF.set {X : List Int} {fs : List (Nat × Nat)} {cs : List Cf} (h : RelF X fs cs) {i : Nat} {f : Nat × Nat} {c : Cf} (hz : Zc f (ev c X)) (hc : c.ok = true) : RelF X (fs.set i f) (cs.set i c) := by
 refine ⟨by simp [h.1], fun j d hd => ?_⟩
 rw [List.getElem?_set] at hd ⊢
 by_cases e : i = j
 · subst e
   rw [if_pos rfl] at hd ⊢
   split at hd
   · next hl => cases hd; exact ⟨hc, f, by rw [h.1, if_pos hl], hz⟩
   · cases hd
 · rw [if_neg e] at hd ⊢
   exact h.2 j d hd
theorem putF_some {cs cs' : List Cf} {i : Nat} {c : Cf} (h : putF cs i c = some cs') : i < cs.length ∧ cs' = cs.set i c := by
 unfold putF at h
 split at h
 · next k => exact ⟨k, (Option.some.inj h).symm⟩
 · cases h
end Go.Proofs.YtfaokllgaambjaaGreatDoor
namespace Go.Proofs.YtfaokllgaambjaaGreatDoor
open Go Go.Eng
set_option maxRecDepth 100000
set_option maxHeartbeats 1600000
theorem cl190 : callable Tryz.prog 190 = true := by kernel_rfl
theorem cl207 : callable Tryz.prog 207 = true := by kernel_rfl
theorem cl208 : callable Tryz.prog 208 = true := by kernel_rfl
theorem cl215 : callable Tryz.prog 215 = true := by kernel_rfl
theorem ud3 : Tryz.prog.underlying 3 = some (.int .i64) := by kernel_rfl
theorem ud51 : Tryz.prog.underlying 51 = some (.float .f64) := by kernel_rfl
theorem wq_mul {z : Int × Int} {e : Nat} (h1 : z.1.natAbs ≤ 1125899906842624) (h2 : z.2.natAbs ≤ 1125899906842624) :
 (z.1 * (wq e).1).natAbs < 9007199254740992 ∧ (z.2 * (wq e).2).natAbs < 9007199254740992 ∧ (z.1 * (wq e).1 - z.2 * (wq e).2).natAbs < 9007199254740992 ∧ (z.1 * (wq e).2).natAbs < 9007199254740992 ∧ (z.2 * (wq e).1).natAbs < 9007199254740992 ∧ (z.1 * (wq e).2 + z.2 * (wq e).1).natAbs < 9007199254740992 := by
 rcases wq_cases e with h | h | h | h <;> rw [h] <;> simp <;> omega
def rotC : Nat → Int × Int
  | 0 => (1, 0)
  | t + 1 => (-(rotC t).2, (rotC t).1)
theorem rotC_wq {e : Nat} (h : e < 4) : ((rotC e).1, -(rotC e).2) = wq e := by
 have : e = 0 ∨ e = 1 ∨ e = 2 ∨ e = 3 := by omega
 rcases this with rfl | rfl | rfl | rfl <;> rfl
theorem num_zero (p : Nat) (e : Int) : Ieee.Datum.number false 0 e = .number false ((0 : Int).natAbs * p) e := by rw [show Int.natAbs 0 = 0 from rfl, Nat.zero_mul]
theorem isZ_zero0 : Ieee.double.read 0 = .number false 0 (-((1074 : Nat) : Int)) := by
 have h := read_zero false
 rw [show Ieee.double.word false 0 = 0 by decide] at h
 exact h
theorem dz_zero {d : Ieee.Datum} {k : Nat} (h : d = .number false 0 (-(k : Int))) : DZ d 0 := ⟨false, k, h.trans (num_zero _ _), fun h => absurd rfl h⟩
theorem isZ_zero : IsZ 0 0 := dz_zero isZ_zero0
theorem isZ_one : IsZ 4607182418800017408 1 := ⟨false, 52, by decide, fun _ => rfl⟩
theorem tmod_up {n k : Int} (hn : 0 < n) : (k.tmod n + n).tmod n = k % n := by
 have h1 := Int.tmod_lt_of_pos k hn
 have h2 : -n < k.tmod n := by
   have := Int.lt_tmod_of_pos k hn
   omega
 rw [Int.tmod_eq_emod_of_nonneg (by omega), Int.add_emod_right]
 rw [Int.tmod_def, Int.sub_emod, Int.mul_emod_right, Int.sub_zero, Int.emod_emod_of_dvd k (Int.dvd_refl n)]
theorem four_mod {n m : Nat} (hn : n = 1 ∨ n = 2 ∨ n = 4) : 4 * m % n = 0 := by rcases hn with rfl | rfl | rfl <;> omega
theorem four_div {n m : Nat} (hn : n = 1 ∨ n = 2 ∨ n = 4) (h : m < n) : 4 * m / n < 4 := by rcases hn with rfl | rfl | rfl <;> omega
theorem feq_zero {f : Nat} {v : Int} (h : IsZ f v) (he : (FloatKind.f64.format.order f 0 == some .eq) = true) : v = 0 := by
 have h1 := isZ_ord h isZ_zero
 have h2 : ford f 0 = some .eq := eq_of_beq he
 rw [h2] at h1
 have h3 : compare v 0 = .eq := (Option.some.inj h1).symm
 exact Int.compare_eq_eq.1 h3
theorem Mul_b {w0 w : World} {F : List Seg} (H : Hp w0 w F) {a b : Nat × Nat} {z : Int × Int} {e : Nat} (ha : Zc a z) (hb : Zc b (wq e)) (h1 : z.1.natAbs ≤ 1125899906842624) (h2 : z.2.natAbs ≤ 1125899906842624) : Ret Tryz.prog 181 [.complex .f64 a.1 a.2, .complex .f64 b.1 b.2] w fun v w' => ∃ r : Nat × Nat, v = .complex .f64 r.1 r.2 ∧ Zc r (z.1 * (wq e).1 - z.2 * (wq e).2, z.1 * (wq e).2 + z.2 * (wq e).1) ∧ Hp w0 w' F := by
 refine Calls.of_J (n := 32) Tryz.func181 rfl rfl rfl (J.seq (J.region (JL.g (RX.assign) (JL.nil (J.seq ?_)))))
 obtain ⟨k1, k2, k3, k4, k5, k6⟩ := wq_mul (e := e) h1 h2
 refine J.region (JL.g (RX.movev (v := .complex _ _ _) rfl) (JL.g (RX.real rfl) (JL.g (RX.movev (v := .complex _ _ _) rfl) (JL.g (RX.imag rfl) (JL.g (RX.movev (v := .complex _ _ _) rfl) (JL.g (RX.real rfl) (JL.g (RX.movev (v := .complex _ _ _) rfl) (JL.g (RX.imag rfl) (JL.g (RX.assignv (v := .float _ _) rfl) (JL.g (RX.assignv (v := .float _ _) rfl) (JL.g (RX.assignv (v := .float _ _) rfl) (JL.g (RX.assignv (v := .float _ _) rfl) (JL.nil (J.seq (J.region (JL.g (RX.movev (v := .float _ _) rfl) (JL.g (RX.movev (v := .float _ _) rfl) (JL.e (EX.farith (.inr (.inr (.inl rfl))) H rfl rfl) ?_))))))))))))))))))
 rintro _ w ⟨r1, rfl, hr1, H⟩
 have z1 := isZ_cn (show IsZ (cn r1) _ by rw [hr1]; exact isZ_mul ha.1 hb.1 k1)
 refine JL.g (RX.movev (v := .float _ _) rfl) (JL.g (RX.movev (v := .float _ _) rfl) (JL.e (EX.farith (.inr (.inr (.inl rfl))) H rfl rfl) ?_))
 rintro _ w ⟨r2, rfl, hr2, H⟩
 have z2 := isZ_cn (show IsZ (cn r2) _ by rw [hr2]; exact isZ_mul ha.2 hb.2 k2)
 refine JL.e (EX.farith (.inr (.inl rfl)) H rfl rfl) ?_
 rintro _ w ⟨r3, rfl, hr3, H⟩
 have z3 := isZ_cn (show IsZ (cn r3) _ by rw [hr3]; exact isZ_sub z1 z2 k3)
 refine JL.g (RX.movev (v := .float _ _) rfl) (JL.g (RX.movev (v := .float _ _) rfl) (JL.e (EX.farith (.inr (.inr (.inl rfl))) H rfl rfl) ?_))
 rintro _ w ⟨r4, rfl, hr4, H⟩
 have z4 := isZ_cn (show IsZ (cn r4) _ by rw [hr4]; exact isZ_mul ha.1 hb.2 k4)
 refine JL.g (RX.movev (v := .float _ _) rfl) (JL.g (RX.movev (v := .float _ _) rfl) (JL.e (EX.farith (.inr (.inr (.inl rfl))) H rfl rfl) ?_))
 rintro _ w ⟨r5, rfl, hr5, H⟩
 have z5 := isZ_cn (show IsZ (cn r5) _ by rw [hr5]; exact isZ_mul ha.2 hb.1 k5)
 refine JL.e (EX.farith (.inl rfl) H rfl rfl) ?_
 rintro _ w ⟨r6, rfl, hr6, H⟩
 have z6 := isZ_cn (show IsZ (cn r6) _ by rw [hr6]; exact isZ_add z4 z5 k6)
 refine JL.g (RX.complex rfl rfl) (JL.g (RX.assignv (v := .complex _ _ _) rfl) (JL.nil (J.ret1 (v := .complex _ _ _) Tryz.func181 rfl rfl ?_)))
 exact ⟨_, rfl, (r3, r6), rfl, ⟨z3, z6⟩, H⟩
theorem fplus_b {w0 w : World} {F : List Seg} (H : Hp w0 w F) {a b : Nat × Nat} {z y : Int × Int} (ha : Zc a z) (hb : Zc b y) (h1 : (z.1 + y.1).natAbs < 9007199254740992) (h2 : (z.2 + y.2).natAbs < 9007199254740992) : Ret Tryz.prog 209 [.complex .f64 a.1 a.2, .complex .f64 b.1 b.2] w fun v w' => ∃ r : Nat × Nat, v = .complex .f64 r.1 r.2 ∧ Zc r (z.1 + y.1, z.2 + y.2) ∧ Hp w0 w' F := by
 refine Calls.of_J (n := 16) Tryz.func209 rfl rfl rfl (J.seq (J.region (JL.g (RX.assign) (JL.nil (J.seq (J.region (JL.g (RX.movev (v := .complex _ _ _) rfl) (JL.g (RX.real rfl) (JL.g (RX.movev (v := .complex _ _ _) rfl) (JL.g (RX.real rfl) (JL.e (EX.farith (.inl rfl) H rfl rfl) ?_)))))))))))
 rintro _ w ⟨r1, rfl, hr1, H⟩
 have z1 := isZ_cn (show IsZ (cn r1) _ by rw [hr1]; exact isZ_add ha.1 hb.1 h1)
 refine JL.g (RX.movev (v := .complex _ _ _) rfl) (JL.g (RX.imag rfl) (JL.g (RX.movev (v := .complex _ _ _) rfl) (JL.g (RX.imag rfl) (JL.e (EX.farith (.inl rfl) H rfl rfl) ?_))))
 rintro _ w ⟨r2, rfl, hr2, H⟩
 have z2 := isZ_cn (show IsZ (cn r2) _ by rw [hr2]; exact isZ_add ha.2 hb.2 h2)
 refine JL.g (RX.complex rfl rfl) (JL.g (RX.assignv (v := .complex _ _ _) rfl) (JL.nil (J.ret1 (v := .complex _ _ _) Tryz.func209 rfl rfl ?_)))
 exact ⟨_, rfl, (r1, r2), rfl, ⟨z1, z2⟩, H⟩
theorem fless_b {w0 w : World} {F : List Seg} (H : Hp w0 w F) {a b : Nat × Nat} {z y : Int × Int} (ha : Zc a z) (hb : Zc b y) (h1 : (z.1 - y.1).natAbs < 9007199254740992) (h2 : (z.2 - y.2).natAbs < 9007199254740992) : Ret Tryz.prog 210 [.complex .f64 a.1 a.2, .complex .f64 b.1 b.2] w fun v w' => ∃ r : Nat × Nat, v = .complex .f64 r.1 r.2 ∧ Zc r (z.1 - y.1, z.2 - y.2) ∧ Hp w0 w' F := by
 refine Calls.of_J (n := 16) Tryz.func210 rfl rfl rfl (J.seq (J.region (JL.g (RX.assign) (JL.nil (J.seq (J.region (JL.g (RX.movev (v := .complex _ _ _) rfl) (JL.g (RX.real rfl) (JL.g (RX.movev (v := .complex _ _ _) rfl) (JL.g (RX.real rfl) (JL.e (EX.farith (.inr (.inl rfl)) H rfl rfl) ?_)))))))))))
 rintro _ w ⟨r1, rfl, hr1, H⟩
 have z1 := isZ_cn (show IsZ (cn r1) _ by rw [hr1]; exact isZ_sub ha.1 hb.1 h1)
 refine JL.g (RX.movev (v := .complex _ _ _) rfl) (JL.g (RX.imag rfl) (JL.g (RX.movev (v := .complex _ _ _) rfl) (JL.g (RX.imag rfl) (JL.e (EX.farith (.inr (.inl rfl)) H rfl rfl) ?_))))
 rintro _ w ⟨r2, rfl, hr2, H⟩
 have z2 := isZ_cn (show IsZ (cn r2) _ by rw [hr2]; exact isZ_sub ha.2 hb.2 h2)
 refine JL.g (RX.complex rfl rfl) (JL.g (RX.assignv (v := .complex _ _ _) rfl) (JL.nil (J.ret1 (v := .complex _ _ _) Tryz.func210 rfl rfl ?_)))
 exact ⟨_, rfl, (r1, r2), rfl, ⟨z1, z2⟩, H⟩
theorem Conj_b {w0 w : World} {F : List Seg} (H : Hp w0 w F) {a : Nat × Nat} {z : Int × Int} (ha : Zc a z) : Ret Tryz.prog 125 [.complex .f64 a.1 a.2] w fun v w' => ∃ r : Nat × Nat, v = .complex .f64 r.1 r.2 ∧ Zc r (z.1, -z.2) ∧ Hp w0 w' F := by
 refine Calls.of_J (n := 9) Tryz.func125 rfl rfl rfl (J.seq (J.region (JL.g (RX.assign) (JL.nil (J.seq (J.region (JL.g (RX.movev (v := .complex _ _ _) rfl) (JL.g (RX.real rfl) (JL.g (RX.movev (v := .complex _ _ _) rfl) (JL.g (RX.imag rfl) (JL.g (RX.fneg rfl) (JL.g (RX.complex rfl rfl) (JL.g (RX.assignv (v := .complex _ _ _) rfl) (JL.nil (J.ret1 (v := .complex _ _ _) Tryz.func125 rfl rfl ?_)))))))))))))))
 exact ⟨_, rfl, (a.1, fneg a.2), rfl, ⟨ha.1, isZ_neg ha.2⟩, H⟩
theorem MinusI_b {w0 w : World} {F : List Seg} (H : Hp w0 w F) {a : Nat × Nat} {z : Int × Int} (ha : Zc a z) : Ret Tryz.prog 212 [.complex .f64 a.1 a.2] w fun v w' => ∃ r : Nat × Nat, v = .complex .f64 r.1 r.2 ∧ Zc r (z.2, -z.1) ∧ Hp w0 w' F := by
 refine Calls.of_J (n := 9) Tryz.func212 rfl rfl rfl (J.seq (J.region (JL.g (RX.assign) (JL.nil (J.seq (J.region (JL.g (RX.movev (v := .complex _ _ _) rfl) (JL.g (RX.imag rfl) (JL.g (RX.movev (v := .complex _ _ _) rfl) (JL.g (RX.real rfl) (JL.g (RX.fneg rfl) (JL.g (RX.complex rfl rfl) (JL.g (RX.assignv (v := .complex _ _ _) rfl) (JL.nil (J.ret1 (v := .complex _ _ _) Tryz.func212 rfl rfl ?_)))))))))))))))
 exact ⟨_, rfl, (a.2, fneg a.1), rfl, ⟨ha.2, isZ_neg ha.1⟩, H⟩
theorem TimesI_b {w0 w : World} {F : List Seg} (H : Hp w0 w F) {a : Nat × Nat} {z : Int × Int} (ha : Zc a z) : Ret Tryz.prog 213 [.complex .f64 a.1 a.2] w fun v w' => ∃ r : Nat × Nat, v = .complex .f64 r.1 r.2 ∧ Zc r (-z.2, z.1) ∧ Hp w0 w' F := by
 refine Calls.of_J (n := 9) Tryz.func213 rfl rfl rfl (J.seq (J.region (JL.g (RX.assign) (JL.nil (J.seq (J.region (JL.g (RX.movev (v := .complex _ _ _) rfl) (JL.g (RX.imag rfl) (JL.g (RX.fneg rfl) (JL.g (RX.movev (v := .complex _ _ _) rfl) (JL.g (RX.real rfl) (JL.g (RX.complex rfl rfl) (JL.g (RX.assignv (v := .complex _ _ _) rfl) (JL.nil (J.ret1 (v := .complex _ _ _) Tryz.func213 rfl rfl ?_)))))))))))))))
 exact ⟨_, rfl, (fneg a.2, a.1), rfl, ⟨isZ_neg ha.2, ha.1⟩, H⟩
theorem Over_b {w0 w : World} {F : List Seg} (H : Hp w0 w F) {a : Nat × Nat} {z : Int × Int} {c : Nat} (hc : c ≤ 2) (ha : Zc a (z.1 * ((2 ^ c : Nat) : Int), z.2 * ((2 ^ c : Nat) : Int))) (h1 : z.1.natAbs < 9007199254740992) (h2 : z.2.natAbs < 9007199254740992) : Ret Tryz.prog 99 [.complex .f64 a.1 a.2, .int .i64 ((2 ^ c : Nat) : Int)] w fun v w' => ∃ r : Nat × Nat, v = .complex .f64 r.1 r.2 ∧ Zc r (z) ∧ Hp w0 w' F := by
 refine Calls.of_J (n := 17) Tryz.func99 rfl rfl rfl (J.seq (J.region (JL.g (RX.assign) (JL.nil (J.seq ?_)))))
 have hf : IsZ (fint ((2 ^ c : Nat) : Int)) ((2 ^ c : Nat) : Int) := isZ_fint (by
   have : c = 0 ∨ c = 1 ∨ c = 2 := by omega
   rcases this with rfl | rfl | rfl <;> decide)
 refine J.region (JL.mi rfl (JL.g (RX.i2f rfl ud3 ud51) (JL.g (RX.assignv (v := .float _ _) rfl) (JL.nil (J.seq (J.region (JL.g (RX.movev (v := .complex _ _ _) rfl) (JL.g (RX.real rfl) (JL.g (RX.movev (v := .float _ _) rfl) (JL.e (EX.farith (.inr (.inr (.inr rfl))) H rfl rfl) ?_))))))))))
 rintro _ w ⟨r1, rfl, hr1, H⟩
 have z1 := isZ_cn (show IsZ (cn r1) _ by rw [hr1]; exact isZ_quo ha.1 hf h1)
 refine JL.g (RX.movev (v := .complex _ _ _) rfl) (JL.g (RX.imag rfl) (JL.g (RX.movev (v := .float _ _) rfl) (JL.e (EX.farith (.inr (.inr (.inr rfl))) H rfl rfl) ?_)))
 rintro _ w ⟨r2, rfl, hr2, H⟩
 have z2 := isZ_cn (show IsZ (cn r2) _ by rw [hr2]; exact isZ_quo ha.2 hf h2)
 refine JL.g (RX.complex rfl rfl) (JL.g (RX.assignv (v := .complex _ _ _) rfl) (JL.nil (J.ret1 (v := .complex _ _ _) Tryz.func99 rfl rfl ?_)))
 exact ⟨_, rfl, (r1, r2), rfl, ⟨z1, z2⟩, H⟩
theorem rplus_b {w0 w : World} {F : List Seg} (H : Hp w0 w F) {f : Nat} {x : Int} (hf : IsZ f x) : Ret Tryz.prog 208 [.float .f64 f] w fun v w' => ∃ r, v = .float .f64 r ∧ IsZ r x ∧ Hp w0 w' F := by
 refine Calls.of_J (n := 6) Tryz.func208 rfl rfl rfl (J.seq (J.region (JL.g (RX.assign) (JL.nil (J.seq (J.seq (J.region (JL.g (RX.movev (v := .float _ _) rfl) (JL.g (RX.feq rfl rfl) (JL.nil (J.cond rfl (fun h0 => ?_) (fun h0 => ?_))))))))))))
 ·
  refine J.seq (J.region (JL.g (RX.assign) (JL.nil (J.ret1 (v := .float _ _) Tryz.func208 rfl rfl ?_))))
  obtain rfl := feq_zero hf h0
  exact ⟨_, rfl, 0, rfl, isZ_zero, H⟩
 ·
  refine J.skip (J.seq (J.region (JL.g (RX.movev (v := .float _ _) rfl) (JL.g (RX.assignv (v := .float _ _) rfl) (JL.nil (J.ret1 (v := .float _ _) Tryz.func208 rfl rfl ?_))))))
  exact ⟨_, rfl, f, rfl, hf, H⟩
theorem rmod_b {w0 w : World} {F : List Seg} (H : Hp w0 w F) {n : Nat} (hn : n = 1 ∨ n = 2 ∨ n = 4) {k : Int} (hk1 : -4611686018427387904 ≤ k) (hk2 : k ≤ 4611686018427387904) : Ret Tryz.prog 190 [.int .i64 k, .int .i64 ((n : Nat) : Int)] w fun v w' => v = .int .i64 (((k % (n : Int)).toNat : Nat) : Int) ∧ Hp w0 w' F := by
 refine Calls.of_J (n := 12) Tryz.func190 rfl rfl rfl (J.seq (J.region (JL.g (RX.assign) (JL.nil (J.seq ?_)))))
 have t1 := Int.tmod_lt_of_pos k (show (0 : Int) < n by omega)
 have t2 : -(n : Int) < k.tmod n := by
   have := Int.lt_tmod_of_pos k (show (0 : Int) < n by omega)
   omega
 have t3 := Int.emod_nonneg k (show (n : Int) ≠ 0 by omega)
 refine J.region (JL.mi rfl (JL.mi rfl (JL.g (RX.rem rfl rfl (by omega) (r := k.tmod n) rfl) (JL.mi rfl (JL.g (RX.add rfl rfl (w_i64 (r := k.tmod n + n) rfl (by omega) (by omega))) (JL.mi rfl (JL.g (RX.rem rfl rfl (by omega) (r := (((k % (n : Int)).toNat : Nat) : Int)) (by rw [tmod_up (by omega)]; omega)) ?_)))))))
 refine JL.ai rfl (JL.nil (J.ret1 (v := .int _ _) Tryz.func190 rfl rfl ?_))
 exact ⟨_, rfl, rfl, H⟩
theorem eighth_b {w0 w : World} {F : List Seg} (H : Hp w0 w F) {m : Int} : Ret Tryz.prog 215 [.int .i64 0, .int .i64 m] w fun v w' => v = .tuple #[.float .f64 4607182418800017408, .float .f64 0] ∧ Hp w0 w' F := by
 refine Calls.of_J (n := 36) Tryz.func215 rfl rfl rfl (J.seq (J.region (JL.g (RX.assign) (JL.g (RX.assign) (JL.nil (J.seq (J.block (J.seq (J.region (JL.mi rfl (JL.g (RX.eq rfl rfl) (JL.ab rfl (JL.nil (J.cond_t rfl (decide_eq_true rfl) (J.seq (J.region (JL.g (RX.assign) (JL.g (RX.assign) (JL.nil (J.ret2 (v := .float _ _) (x := Value.float _ _) Tryz.func215 rfl rfl rfl ?_))))))))))))))))))))
 exact ⟨_, rfl, rfl, H⟩
theorem pair_b {w0 w : World} {F : List Seg} (H : Hp w0 w F) {n : Nat} (hn : n = 1 ∨ n = 2 ∨ n = 4) {k : Int} (hk1 : -4611686018427387904 ≤ k) (hk2 : k ≤ 4611686018427387904) : Ret Tryz.prog 207 [.int .i64 ((n : Nat) : Int), .int .i64 k] w fun v w' => ∃ c s, v = .tuple #[.float .f64 c, .float .f64 s, .nilIface] ∧ IsZ c (rotC (4 * (k % (n : Int)).toNat / n)).1 ∧ IsZ s (rotC (4 * (k % (n : Int)).toNat / n)).2 ∧ Hp w0 w' F := by
 refine Calls.of_J (n := 58) Tryz.func207 rfl rfl rfl (J.seq (J.region (JL.g (RX.assign) (JL.g (RX.assign) (JL.g (RX.assign) (JL.nil (J.seq (J.seq ?_))))))))
 have t3 := Int.emod_nonneg k (show (n : Int) ≠ 0 by omega)
 have t4 := Int.emod_lt_of_pos k (show (0 : Int) < n by omega)
 have t5 : (k % (n : Int)).toNat < n := by omega
 have t6 := four_mod (m := (k % (n : Int)).toNat) hn
 have t7 := four_div hn t5
 refine J.region (JL.mi rfl (JL.g (RX.lt rfl rfl) (JL.mb rfl (JL.go ⟨_, rfl, (decide_eq_false (by omega))⟩ (RX.movev (v := .int _ _) rfl) (JL.go ⟨_, rfl, (decide_eq_false (by omega))⟩ (RX.gt rfl rfl) (JL.g (RX.pick_f rfl (decide_eq_false (by omega))) (JL.nil (J.cond_f rfl (decide_eq_false (by omega)) (J.skip (J.seq (J.region (JL.mi rfl (JL.mi rfl (JL.e (EX.call rfl cl190 rfl ((rmod_b H hn hk1 hk2))) ?_))))))))))))))
 rintro _ w ⟨rfl, H⟩
 refine JL.g (RX.mul rfl rfl (wi (n := 4 * (k % (n : Int)).toNat) (by omega) (by omega))) (JL.ai rfl (JL.nil (J.seq (J.region (JL.mi rfl (JL.mi rfl (JL.g (RX.rem rfl rfl (by omega) (r := ((0 : Nat) : Int)) (by rw [rem_nat, t6])) ?_)))))))
 refine JL.ai rfl (JL.nil (J.seq (J.region (JL.g (RX.assign) (JL.g (RX.assign) (JL.nil (J.seq (J.seq (J.region (JL.mi rfl (JL.g (RX.mul rfl rfl (w_i64 (r := 0) (by simp) (by decide) (by decide))) (JL.mi rfl (JL.g (RX.le rfl rfl) (JL.nil (J.cond_t rfl (decide_eq_true (by omega)) (J.region (JL.mi rfl (JL.mi rfl (JL.g (RX.mul rfl rfl (wi (n := 4 * n) (by omega) (by omega))) (JL.e (EX.call rfl cl215 rfl ((eighth_b H))) ?_))))))))))))))))))))
 rintro _ w ⟨rfl, H⟩
 refine JL.g (RX.movev (v := .tuple _) rfl) (JL.g (RX.extract rfl rfl) (JL.g (RX.extract rfl rfl) (JL.g (RX.assignv (v := .float _ _) rfl) (JL.g (RX.assignv (v := .float _ _) rfl) (JL.nil (J.seq (J.seq (J.region (JL.mi rfl (JL.mi rfl (JL.g (RX.quo rfl rfl (by omega) (r := ((4 * (k % (n : Int)).toNat / n : Nat) : Int)) (by rw [quo_nat]; exact wi rfl (by omega))) ?_)))))))))))
 refine JL.g (RX.move) (JL.nil ?_)
 generalize 4 * (k % (n : Int)).toNat / n = T at *
 refine J.block (J.loop (ι := Nat × Nat × Nat) (S := fun z => [(48, .int .i64 ((z.1 : Nat) : Int)), (9, .float .f64 z.2.1), (10, .float .f64 z.2.2)]) (Φ := fun z w => z.1 ≤ T ∧ IsZ z.2.1 (rotC z.1).1 ∧ IsZ z.2.2 (rotC z.1).2 ∧ Hp w0 w F) (μ := fun z => T - z.1) (C := [(47, _)]) (0, 4607182418800017408, 0) ⟨rfl, trivial⟩ ⟨rfl, rfl, rfl, trivial⟩ ?_ ?_)
 · exact ⟨by simp, isZ_one, isZ_zero, H⟩
 clear H
 rintro ⟨i, c, s⟩ ρ w ⟨hi, hc, hs, H⟩ IH
 simp only at hi hc hs H
 dsimp only
 refine J.seq (J.region (JL.g (RX.lt rfl rfl) (JL.nil (J.seq (J.cond_d rfl (fun hlt => ?_) (fun hlt => ?_))))))
 ·
  refine J.skip (J.seq (J.block (J.region (JL.g (RX.movev (v := .float _ _) rfl) (JL.g (RX.fneg rfl) (JL.g (RX.movev (v := .float _ _) rfl) (JL.g (RX.assignv (v := .float _ _) rfl) (JL.g (RX.assignv (v := .float _ _) rfl) (JL.nil (J.inBlock (J.region (JL.g (RX.add rfl rfl (wi (n := i + 1) (by omega) (by omega))) (JL.mi rfl (JL.nil ?_))))))))))))))
  exact IH (i + 1, fneg s, c) _ _ (by simp only; omega) ⟨rfl, trivial⟩ ⟨rfl, rfl, rfl, trivial⟩ ⟨by simp only; omega, isZ_neg hs, hc, H⟩
 ·
  obtain rfl : i = T := by omega
  refine J.exit rfl (J.seq (J.region (JL.g (RX.movev (v := .float _ _) rfl) (JL.e (EX.call rfl cl208 rfl ((rplus_b H hc))) ?_))))
  rintro _ w ⟨c2, rfl, hc2, H⟩
  refine JL.g (RX.movev (v := .float _ _) rfl) (JL.e (EX.call rfl cl208 rfl ((rplus_b H hs))) ?_)
  rintro _ w ⟨s2, rfl, hs2, H⟩
  refine JL.g (RX.assignv (v := .float _ _) rfl) (JL.g (RX.assignv (v := .float _ _) rfl) (JL.g (RX.assign) (JL.nil (J.ret3 (v := .float _ _) Tryz.func207 rfl rfl rfl rfl ?_))))
  exact ⟨_, rfl, c2, s2, rfl, hc2, hs2, H⟩
theorem Root_b {w0 w : World} {F : List Seg} (H : Hp w0 w F) {n : Nat} (hn : n = 1 ∨ n = 2 ∨ n = 4) {k : Int} (hk1 : -4611686018427387904 ≤ k) (hk2 : k ≤ 4611686018427387904) : Ret Tryz.prog 189 [.int .i64 ((n : Nat) : Int), .int .i64 k] w fun v w' => ∃ r : Nat × Nat, v = .tuple #[.complex .f64 r.1 r.2, .nilIface] ∧ Zc r (wq (4 * (k % (n : Int)).toNat / n)) ∧ Hp w0 w' F := by
 refine Calls.of_J (n := 24) Tryz.func189 rfl rfl rfl (J.seq (J.region (JL.g (RX.assign) (JL.g (RX.assign) (JL.nil (J.seq (J.region (JL.mi rfl (JL.mi rfl (JL.e (EX.call rfl cl207 rfl ((pair_b H hn hk1 hk2))) ?_))))))))))
 rintro _ w ⟨c, s, rfl, hc, hs, H⟩
 refine JL.g (RX.movev (v := .tuple _) rfl) (JL.g (RX.extract rfl rfl) (JL.g (RX.extract rfl rfl) (JL.g (RX.extract (v := .nilIface) rfl rfl) (JL.g (RX.assignv (v := .float _ _) rfl) (JL.g (RX.assignv (v := .float _ _) rfl) (JL.g (RX.assignv (v := .nilIface) rfl) (JL.nil (J.seq (J.seq (J.region (JL.g (RX.movev (v := .nilIface) rfl) (JL.g (RX.ifnil_neq (v := .nilIface) rfl rfl rfl if31) (JL.nil (J.cond_f rfl rfl (J.skip (J.seq (J.region (JL.g (RX.movev (v := .float _ _) rfl) (JL.g (RX.movev (v := .float _ _) rfl) (JL.g (RX.fneg rfl) (JL.e (EX.call rfl cl208 rfl ((rplus_b H (isZ_neg hs)))) ?_)))))))))))))))))))))
 rintro _ w ⟨s2, rfl, hs2, H⟩
 refine JL.g (RX.complex rfl rfl) (JL.g (RX.assignv (v := .complex _ _ _) rfl) (JL.g (RX.assign) (JL.nil (J.ret2 (v := .complex _ _ _) Tryz.func189 rfl rfl rfl ?_))))
 have t3 := Int.emod_nonneg k (show (n : Int) ≠ 0 by omega)
 have t4 := Int.emod_lt_of_pos k (show (0 : Int) < n by omega)
 have hw := rotC_wq (four_div (m := (k % (n : Int)).toNat) hn (by omega))
 exact ⟨_, rfl, (c, s2), rfl, by rw [← hw]; exact ⟨hc, hs2⟩, H⟩
end Go.Proofs.YtfaokllgaambjaaGreatDoor
namespace Go.Proofs.YtfaokllgaambjaaGreatDoor
open Go Go.Eng
set_option maxRecDepth 100000
set_option maxHeartbeats 1600000
theorem cl181 : callable Tryz.prog 181 = true := by kernel_rfl
theorem cl189 : callable Tryz.prog 189 = true := by kernel_rfl
theorem cl195 : callable Tryz.prog 195 = true := by kernel_rfl
theorem cl196 : callable Tryz.prog 196 = true := by kernel_rfl
theorem cl197 : callable Tryz.prog 197 = true := by kernel_rfl
theorem cl214 : callable Tryz.prog 214 = true := by kernel_rfl
theorem one27 : oneOf Tryz.prog 27 = true := by kernel_rfl
theorem one3 : oneOf Tryz.prog 3 = true := by kernel_rfl
theorem one49 : oneOf Tryz.prog 49 = true := by kernel_rfl
theorem sl27 : sliceOf Tryz.prog 27 = some (49, 1) := by kernel_rfl
theorem sz49 : szOf Tryz.prog 49 = some 1 := by kernel_rfl
def cxs (l : List (Nat × Nat)) : List Value := l.map fun c => .complex .f64 c.1 c.2
theorem cxs_len (l : List (Nat × Nat)) : (cxs l).length = l.length := by simp [cxs]
theorem cxs_get {l : List (Nat × Nat)} {i : Nat} {c : Nat × Nat} (h : l[i]? = some c) : (cxs l)[i]? = some (.complex .f64 c.1 c.2) := by simp [cxs, h]
theorem cxs_set (l : List (Nat × Nat)) (i : Nat) (c : Nat × Nat) : cxs (l.set i c) = (cxs l).set i (.complex .f64 c.1 c.2) := by simp [cxs, List.map_set]
theorem cxs_app (a b : List (Nat × Nat)) : cxs (a ++ b) = cxs a ++ cxs b := by simp [cxs]
theorem cxs_cell (l : List (Nat × Nat)) : ∀ v ∈ cxs l, isCell v = true := by
 intro v hv
 obtain ⟨c, _, rfl⟩ := List.mem_map.1 hv
 rfl
theorem mkC : Tryz.prog.underlying 27 = some (.slice 49) ∧ ∃ i, Tryz.prog.info? 49 = some i ∧ i.zero = some (.complex .f64 0 0) ∧ i.size = 1 ∧ i.bytes = 16 := ⟨by kernel_rfl, info_one (by kernel_rfl) (by kernel_rfl)⟩
theorem elCx : Elem Tryz.prog 27 49 1 16 := Elem.of (by kernel_rfl)
theorem repC (n : Nat) : List.replicate n (Value.complex .f64 0 0) = cxs (List.replicate n (0, 0)) := by simp [cxs]
def RootsL (n : Nat) (fs : List (Nat × Nat)) (m : Nat) : Prop := fs.length = n ∧ ∀ k, k < m → ∃ f, fs[k]? = some f ∧ Zc f (wq (4 * k / n))
theorem RootsL.set {n m : Nat} {fs : List (Nat × Nat)} {f : Nat × Nat} (h : RootsL n fs m) (hm : m < n) (hf : Zc f (wq (4 * m / n))) : RootsL n (fs.set m f) (m + 1) := by
 refine ⟨by simp [h.1], fun k hk => ?_⟩
 rw [List.getElem?_set]
 by_cases e : m = k
 · subst e; rw [if_pos rfl, if_pos (by rw [h.1]; exact hm)]; exact ⟨f, rfl, hf⟩
 · rw [if_neg e]; exact h.2 k (by omega)
theorem nat_mod {k n : Nat} (h : k < n) : ((k : Int) % (n : Int)).toNat = k := by rw [← Int.natCast_emod, Int.toNat_natCast, Nat.mod_eq_of_lt h]
theorem dsum_pre {n k : Nat} {x : Nat → Option Cf} : ∀ {m : Nat} {r : Cf}, dsum n k x m = some r → ∀ j, j ≤ m → ∃ s, dsum n k x j = some s
  | 0, r, h, j, hj => ⟨r, by rw [show j = 0 by omega]; exact h⟩
  | m + 1, r, h, j, hj => by
    by_cases e : j = m + 1
    · exact ⟨r, by rw [e]; exact h⟩
    · simp only [dsum, Option.bind_eq_some_iff] at h
      obtain ⟨s, hs, _⟩ := h
      exact dsum_pre hs j (by omega)
theorem dsum_step {n k j : Nat} {x : Nat → Option Cf} {r : Cf} (h : dsum n k x (j + 1) = some r) : ∃ s a b, dsum n k x j = some s ∧ x (j + 1) = some a ∧ ((j + 1) * k % n = 0 ∧ b = a ∨ (j + 1) * k % n ≠ 0 ∧ b = a.mulw (wq (4 * ((j + 1) * k % n) / n)) ∧ b.ok = true) ∧ r = s.add b ∧ r.ok = true := by
 simp only [dsum, Option.bind_eq_some_iff] at h
 obtain ⟨s, hs, a, ha, b, hb, hr⟩ := h
 obtain ⟨h1, rfl⟩ := okF_some hr
 refine ⟨s, a, b, hs, ha, ?_, rfl, h1⟩
 by_cases e : (j + 1) * k % n = 0
 · rw [if_pos e] at hb; exact .inl ⟨e, (Option.some.inj hb).symm⟩
 · rw [if_neg e] at hb
   obtain ⟨h2, rfl⟩ := okF_some hb
   exact .inr ⟨e, rfl, h2⟩
theorem Twist_b {w0 w : World} {F : List Seg} (H : Hp w0 w F) {a : Nat × Nat} {z : Int × Int} (ha : Zc a z) (h1 : z.1.natAbs ≤ 1125899906842624) (h2 : z.2.natAbs ≤ 1125899906842624) {n : Nat} (hn : n = 1 ∨ n = 2 ∨ n = 4) {k : Int} (hk1 : -4611686018427387904 ≤ k) (hk2 : k ≤ 4611686018427387904) : Ret Tryz.prog 177 [.complex .f64 a.1 a.2, .int .i64 ((n : Nat) : Int), .int .i64 k] w fun v w' => ∃ r : Nat × Nat, v = .tuple #[.complex .f64 r.1 r.2, .nilIface] ∧ Zc r (if (k % (n : Int)).toNat = 0 then z else (z.1 * (wq (4 * (k % (n : Int)).toNat / n)).1 - z.2 * (wq (4 * (k % (n : Int)).toNat / n)).2, z.1 * (wq (4 * (k % (n : Int)).toNat / n)).2 + z.2 * (wq (4 * (k % (n : Int)).toNat / n)).1)) ∧ Hp w0 w' F := by
 refine Calls.of_J (n := 27) Tryz.func177 rfl rfl rfl (J.seq (J.region (JL.g (RX.assign) (JL.g (RX.assign) (JL.nil (J.seq (J.region (JL.mi rfl (JL.mi rfl (JL.e (EX.call rfl cl189 rfl ((Root_b H hn hk1 hk2))) ?_))))))))))
 rintro _ w ⟨r, rfl, hr, H⟩
 refine JL.g (RX.movev (v := .tuple _) rfl) (JL.g (RX.extract rfl rfl) (JL.g (RX.extract (v := .nilIface) rfl rfl) (JL.g (RX.assignv (v := .complex _ _ _) rfl) (JL.g (RX.assignv (v := .nilIface) rfl) (JL.nil (J.seq (J.seq (J.region (JL.g (RX.movev (v := .nilIface) rfl) (JL.g (RX.ifnil_neq (v := .nilIface) rfl rfl rfl if31) (JL.nil (J.cond_f rfl rfl (J.skip (J.seq (J.seq (J.region (JL.mi rfl (JL.mi rfl (JL.e (EX.call rfl cl190 rfl ((rmod_b H hn hk1 hk2))) ?_)))))))))))))))))))
 rintro _ w ⟨rfl, H⟩
 refine JL.g (RX.eq rfl rfl) (JL.nil (J.cond_d rfl (fun h0 => ?_) (fun h0 => ?_)))
 ·
  refine J.seq (J.region (JL.g (RX.movev (v := .complex _ _ _) rfl) (JL.g (RX.assignv (v := .complex _ _ _) rfl) (JL.g (RX.assign) (JL.nil (J.ret2 (v := .complex _ _ _) Tryz.func177 rfl rfl rfl ?_))))))
  exact ⟨_, rfl, a, rfl, by rw [if_pos (by omega)]; exact ha, H⟩
 ·
  refine J.skip (J.seq (J.region (JL.g (RX.movev (v := .complex _ _ _) rfl) (JL.g (RX.movev (v := .complex _ _ _) rfl) (JL.e (EX.call rfl cl181 rfl ((Mul_b H ha hr h1 h2))) ?_)))))
  rintro _ w ⟨m, rfl, hm, H⟩
  refine JL.g (RX.assignv (v := .complex _ _ _) rfl) (JL.g (RX.assign) (JL.nil (J.ret2 (v := .complex _ _ _) Tryz.func177 rfl rfl rfl ?_)))
  exact ⟨_, rfl, m, rfl, by rw [if_neg (by omega)]; exact hm, H⟩
theorem All_b {w0 w : World} {F : List Seg} (H : Hp w0 w F) {n : Nat} (hn : n = 1 ∨ n = 2 ∨ n = 4) : Ret Tryz.prog 214 [.int .i64 ((n : Nat) : Int)] w fun v w' => ∃ b fs, v = .tuple #[.slice (some ⟨b, 0, none⟩) n n, .nilIface] ∧ RootsL n fs n ∧ Hp w0 w' ([(b, cel (cxs fs) 49)] :: F) := by
 refine Calls.of_J (n := 31) Tryz.func214 rfl rfl rfl (J.seq (J.region (JL.g (RX.assign) (JL.g (RX.assign) (JL.nil (J.seq (J.seq (J.region (JL.mi rfl (JL.g (RX.lt rfl rfl) (JL.mb rfl (JL.go ⟨_, rfl, (decide_eq_false (by omega))⟩ (RX.movev (v := .int _ _) rfl) (JL.go ⟨_, rfl, (decide_eq_false (by omega))⟩ (RX.gt rfl rfl) (JL.g (RX.pick_f rfl (decide_eq_false (by omega))) (JL.nil (J.cond_f rfl (decide_eq_false (by omega)) (J.skip (J.seq (J.region (JL.mi rfl (JL.e (EX.makeS (e := 49) (m := n) H mkC.1 mkC.2 rfl rfl rfl (by omega) (by omega) (by omega)) ?_)))))))))))))))))))))
 rintro _ w ⟨bo, rfl, H⟩
 rw [fnL_rep, repC] at H
 refine JL.al rfl (JL.nil (J.seq (J.seq (J.region (JL.ms rfl (JL.g (RX.len_slice rfl (by rw [sl27]; rfl) rfl) ?_))))))
 refine JL.g (RX.move) (JL.nil (J.block (J.loop (ι := Nat × List (Nat × Nat)) (S := fun z => [(17, .int .i64 ((z.1 : Nat) : Int))]) (Φ := fun z w => z.1 ≤ n ∧ RootsL n z.2 z.1 ∧ Hp w0 w ([(bo, cel (cxs z.2) 49)] :: F)) (μ := fun z => n - z.1) (C := [(0, _), (4, _), (16, _)]) (0, List.replicate n (0, 0)) ⟨rfl, rfl, rfl, trivial⟩ ⟨rfl, trivial⟩ ?_ ?_)))
 · exact ⟨by simp, ⟨by simp, fun k hk => absurd hk (Nat.not_lt_zero _)⟩, H⟩
 clear H
 rintro ⟨i, fs⟩ ρ w ⟨hi, hR, H⟩ IH
 simp only at hi hR H
 dsimp only
 refine J.seq (J.region (JL.g (RX.lt rfl rfl) (JL.nil (J.seq (J.cond_d rfl (fun hlt => ?_) (fun hlt => ?_))))))
 ·
  refine J.skip (J.seq (J.block (J.seq (J.region (JL.mi rfl (JL.ai rfl (JL.nil (J.region (JL.ms rfl (JL.mi rfl (JL.mi rfl (JL.mi rfl (JL.e (EX.call rfl cl189 rfl ((Root_b (k := (i : Int)) H hn (by omega) (by omega)))) ?_)))))))))))))
  rintro _ w ⟨r, rfl, hr, H⟩
  rw [nat_mod (show i < n by omega)] at hr
  refine JL.g (RX.movev (v := .tuple _) rfl) (JL.g (RX.extract rfl rfl) (JL.g (RX.extract (v := .nilIface) rfl rfl) (JL.g (RX.indexAddr rfl rfl sl27 (by omega) (by omega) (o' := i) (by omega)) (JL.e (EX.store (v := .complex _ _ _) H rfl rfl (i := 0) rfl rfl (by rw [cxs_len, hR.1]; omega) sz49 rfl rfl) ?_))))
  rintro _ w H
  refine JL.nil (J.inBlock (J.region (JL.g (RX.add rfl rfl (wi (n := i + 1) (by omega) (by omega))) (JL.mi rfl (JL.nil ?_)))))
  rw [← cxs_set] at H
  exact IH (i + 1, fs.set i r) _ _ (by simp only; omega) ⟨rfl, rfl, rfl, trivial⟩ ⟨rfl, trivial⟩ ⟨by simp only; omega, hR.set (by omega) hr, H⟩
 ·
  obtain rfl : i = n := by omega
  refine J.exit rfl (J.seq (J.region (JL.ms rfl (JL.al rfl (JL.g (RX.assign) (JL.nil (J.ret2 (v := .slice _ _ _) Tryz.func214 rfl rfl rfl ?_)))))))
  exact ⟨_, rfl, bo, fs, rfl, hR, H⟩
theorem table_b {w0 w : World} {F : List Seg} (H : Hp w0 w F) {n : Nat} (hn : n = 1 ∨ n = 2 ∨ n = 4) : Ret Tryz.prog 195 [.int .i64 ((n : Nat) : Int)] w fun v w' => ∃ b fs, v = .tuple #[.slice (some ⟨b, 0, none⟩) n n, .nilIface] ∧ RootsL n fs n ∧ Hp w0 w' ([(b, cel (cxs fs) 49)] :: F) := by
 refine Calls.of_J (n := 15) Tryz.func195 rfl rfl rfl (J.seq (J.region (JL.g (RX.assign) (JL.g (RX.assign) (JL.nil (J.seq (J.seq (J.region (JL.mi rfl (JL.g (RX.lt rfl rfl) (JL.mb rfl (JL.go ⟨_, rfl, (decide_eq_false (by omega))⟩ (RX.movev (v := .int _ _) rfl) (JL.go ⟨_, rfl, (decide_eq_false (by omega))⟩ (RX.gt rfl rfl) (JL.g (RX.pick_f rfl (decide_eq_false (by omega))) (JL.nil (J.cond_f rfl (decide_eq_false (by omega)) (J.skip (J.seq (J.region (JL.mi rfl (JL.e (EX.call rfl cl214 rfl ((All_b H hn))) ?_)))))))))))))))))))))
 rintro _ w ⟨b, fs, rfl, hR, H⟩
 refine JL.g (RX.extract rfl rfl) (JL.g (RX.extract (v := .nilIface) rfl rfl) (JL.al rfl (JL.g (RX.assignv (v := .nilIface) rfl) (JL.nil (J.ret2 (v := .slice _ _ _) Tryz.func195 rfl rfl rfl ?_)))))
 exact ⟨_, rfl, b, fs, rfl, hR, H⟩
theorem sum_b {w0 w : World} {F : List Seg} {b cl : Nat} {cv : List Value} {ws : List (Nat × Nat)} {n k : Nat} {x : Nat → Option Cf} {r : Cf} {X : List Int} (H : Hp w0 w ([(b, cel (cxs ws) 49)] :: F)) (hX : InX X) (hn : n = 1 ∨ n = 2 ∨ n = 4) (hk : k < n) (hR : RootsL n ws n) (hd : dsum n k x (n - 1) = some r) (hcl : callable Tryz.prog cl = true) (hat : ∀ (j : Nat) (c : Cf) (w : World), j < n → x j = some c → Hp w0 w ([(b, cel (cxs ws) 49)] :: F) → Ret Tryz.prog cl (.int .i64 ((j : Nat) : Int) :: cv) w fun v w' => ∃ f : Nat × Nat, v = .complex .f64 f.1 f.2 ∧ Zc f (ev c X) ∧ c.ok = true ∧ Hp w0 w' ([(b, cel (cxs ws) 49)] :: F)) : Ret Tryz.prog 196 [.slice (some ⟨b, 0, none⟩) n n, .int .i64 ((k : Nat) : Int), .func (.func cl) #[] cv.toArray] w fun v w' => ∃ f : Nat × Nat, v = .complex .f64 f.1 f.2 ∧ Zc f (ev r X) ∧ r.ok = true ∧ Hp w0 w' ([(b, cel (cxs ws) 49)] :: F) := by
 refine Calls.of_J (n := 56) Tryz.func196 rfl rfl rfl (J.seq (J.region (JL.g (RX.assign) (JL.nil (J.seq (J.region (JL.ms rfl (JL.g (RX.len_slice rfl (by rw [sl27]; rfl) rfl) ?_))))))))
 refine JL.ai rfl (JL.nil (J.seq ?_))
 have k1 : k % n = k := Nat.mod_eq_of_lt hk
 have k2 : (k + n) % n = k := by rw [Nat.add_mod_right, k1]
 obtain ⟨x0, hx0⟩ := dsum_pre hd 0 (by omega)
 refine J.region (JL.mi rfl (JL.mi rfl (JL.g (RX.rem rfl rfl (by omega) (r := ((k : Nat) : Int)) (by rw [rem_nat, k1])) ?_)))
 refine JL.mi rfl (JL.g (RX.add rfl rfl (wi (n := k + n) (by omega) (by omega))) (JL.mi rfl (JL.g (RX.rem rfl rfl (by omega) (r := ((k : Nat) : Int)) (by rw [rem_nat, k2])) ?_)))
 refine JL.ai rfl (JL.nil (J.seq (J.region (JL.g (RX.movev (v := .func _ _ _) rfl) (JL.e (EX.callv (f := cl) (fv := []) (cv := cv) rfl hcl rfl rfl (hat 0 x0 w (by omega) hx0 H)) ?_)))))
 rintro _ w ⟨f0, rfl, hf0, ho0, H⟩
 refine JL.g (RX.assignv (v := .complex _ _ _) rfl) (JL.nil (J.seq (J.seq (J.region (JL.g (RX.assign) (JL.nil (J.block (J.loop (ι := Nat × (Nat × Nat) × Cf) (S := fun z => [(9, .int .i64 ((z.1 : Nat) : Int)), (8, .complex .f64 z.2.1.1 z.2.1.2)]) (Φ := fun z w => 1 ≤ z.1 ∧ z.1 ≤ n ∧ dsum n k x (z.1 - 1) = some z.2.2 ∧ Zc z.2.1 (ev z.2.2 X) ∧ z.2.2.ok = true ∧ Hp w0 w ([(b, cel (cxs ws) 49)] :: F)) (μ := fun z => n - z.1) (C := [(0, _), (1, _), (2, _), (7, _)]) (1, f0, x0) ⟨rfl, rfl, rfl, rfl, trivial⟩ ⟨rfl, rfl, trivial⟩ ?_ ?_))))))))
 · exact ⟨by simp, by simp only; omega, hx0, hf0, ho0, H⟩
 clear H hf0 ho0
 rintro ⟨j, fs, s⟩ ρ w ⟨hj1, hj, hs, hfs, hso, H⟩ IH
 simp only at hj1 hj hs hfs hso H
 dsimp only
 refine J.seq (J.seq (J.region (JL.mi rfl (JL.mi rfl (JL.g (RX.lt rfl rfl) (JL.nil (J.cond_d rfl (fun hlt => ?_) (fun hlt => ?_))))))))
 ·
  obtain ⟨i, rfl⟩ : ∃ i, j = i + 1 := ⟨j - 1, by omega⟩
  rw [Nat.add_sub_cancel] at hs
  obtain ⟨s2, hs2⟩ := dsum_pre hd (i + 1) (by omega)
  obtain ⟨s1, a, b2, h1, h2, h3, rfl, h5⟩ := dsum_step hs2
  obtain rfl : s1 = s := Option.some.inj (h1.symm.trans hs)
  have hm : (i + 1) * k ≤ 4 * 4 := Nat.mul_le_mul (by omega) (by omega)
  refine J.skip (J.seq (J.block (J.seq (J.region (JL.g (RX.movev (v := .func _ _ _) rfl) (JL.mi rfl (JL.e (EX.callv (f := cl) (fv := []) (cv := cv) rfl hcl rfl rfl (hat (i + 1) a w (by omega) h2 H)) ?_)))))))
  rintro _ w ⟨fa, rfl, hfa, hao, H⟩
  refine JL.g (RX.assignv (v := .complex _ _ _) rfl) (JL.nil (J.seq (J.seq (J.region (JL.mi rfl (JL.mi rfl (JL.g (RX.mul rfl rfl (wi (n := (i + 1) * k) (Int.natCast_mul _ _).symm (by omega))) (JL.mi rfl (JL.g (RX.rem rfl rfl (by omega) rem_nat) (JL.ai rfl (JL.nil (J.seq (J.region (JL.mi rfl (JL.g (RX.ne rfl rfl) (JL.nil (J.join (ι := Nat × Nat) (fun q => [(10, .complex .f64 q.1 q.2)]) (fun q w => Zc q (ev b2 X) ∧ b2.ok = true ∧ Hp w0 w ([(b, cel (cxs ws) 49)] :: F)) [(0, _), (1, _), (2, _), (7, _), (8, _), (9, _)] ⟨rfl, rfl, rfl, rfl, rfl, rfl, trivial⟩ ?_ ?_)))))))))))))))))
  rotate_left
  ·
   intro k2 hk2
   refine J.cond_d rfl (fun he => ?_) (fun he => ?_)
   ·
    obtain ⟨g1, _⟩ | ⟨g1, rfl, g2⟩ := h3
    · exact absurd (by omega) he
    have hel := Nat.mod_lt ((i + 1) * k) (show 0 < n by omega)
    obtain ⟨fw, hw1, hw2⟩ := hR.2 ((i + 1) * k % n) hel
    have hwl := hR.1
    obtain ⟨l1, l2⟩ := ok_le hao hX
    refine J.region (JL.g (RX.movev (v := .complex _ _ _) rfl) (JL.ms rfl (JL.mi rfl (JL.g (RX.indexAddr rfl rfl sl27 (by omega) (by omega) (o' := (i + 1) * k % n) (by omega)) (JL.g (RX.load H rfl (i := 0) (v := .complex .f64 fw.1 fw.2) rfl (cxs_get hw1) one49) (JL.e (EX.call rfl cl181 rfl ((Mul_b H hfa hw2 l1 l2))) ?_))))))
    rintro _ w ⟨fm, rfl, hfm, H⟩
    rw [← ev_mulw] at hfm
    refine JL.g (RX.assignv (v := .complex _ _ _) rfl) (JL.nil ?_)
    first
    | exact hk2 fm _ _ ⟨rfl, rfl, rfl, rfl, rfl, rfl, trivial⟩ ⟨rfl, trivial⟩ ⟨hfm, g2, H⟩
    | exact hk2 fa _ _ ⟨rfl, rfl, rfl, rfl, rfl, rfl, trivial⟩ ⟨rfl, trivial⟩ ⟨hfa, hao, H⟩
   ·
    obtain ⟨_, rfl⟩ | ⟨g1, _⟩ := h3
    rotate_left
    · exact absurd (by omega) g1
    refine J.skip ?_
    first
    | exact hk2 fm _ _ ⟨rfl, rfl, rfl, rfl, rfl, rfl, trivial⟩ ⟨rfl, trivial⟩ ⟨hfm, g2, H⟩
    | exact hk2 fa _ _ ⟨rfl, rfl, rfl, rfl, rfl, rfl, trivial⟩ ⟨rfl, trivial⟩ ⟨hfa, hao, H⟩
  ·
   clear H
   rintro fb ρ w ⟨hfb, hbo, H⟩
   obtain ⟨m1, m2⟩ := ok_le hso hX
   obtain ⟨m3, m4⟩ := ok_le hbo hX
   try dsimp only
   refine J.region (JL.g (RX.movev (v := .complex _ _ _) rfl) (JL.g (RX.real rfl) (JL.g (RX.movev (v := .complex _ _ _) rfl) (JL.g (RX.real rfl) (JL.e (EX.farith (.inl rfl) H rfl rfl) ?_)))))
   rintro _ w ⟨r1, rfl, hr1, H⟩
   have z1 := isZ_cn (show IsZ (cn r1) _ by rw [hr1]; exact isZ_add hfs.1 hfb.1 (by omega))
   refine JL.g (RX.movev (v := .complex _ _ _) rfl) (JL.g (RX.imag rfl) (JL.g (RX.movev (v := .complex _ _ _) rfl) (JL.g (RX.imag rfl) (JL.e (EX.farith (.inl rfl) H rfl rfl) ?_))))
   rintro _ w ⟨r2, rfl, hr2, H⟩
   have z2 := isZ_cn (show IsZ (cn r2) _ by rw [hr2]; exact isZ_add hfs.2 hfb.2 (by omega))
   refine JL.g (RX.complex rfl rfl) (JL.g (RX.assignv (v := .complex _ _ _) rfl) (JL.nil (J.inBlock (J.region (JL.mi rfl (JL.g (RX.add rfl rfl (wi (n := i + 1 + 1) (by omega) (by omega))) (JL.ai rfl (JL.nil ?_))))))))
   exact IH (i + 1 + 1, (r1, r2), s1.add b2) _ _ (by simp only; omega) ⟨rfl, rfl, rfl, rfl, trivial⟩ ⟨rfl, rfl, trivial⟩ ⟨by simp only; omega, by simp only; omega, hs2, by rw [ev_add]; exact ⟨z1, z2⟩, h5, H⟩
 ·
  obtain rfl : j = n := by omega
  obtain rfl : s = r := Option.some.inj (hs.symm.trans hd)
  refine J.exit rfl (J.seq (J.region (JL.g (RX.movev (v := .complex _ _ _) rfl) (JL.g (RX.assignv (v := .complex _ _ _) rfl) (JL.nil (J.ret1 (v := .complex _ _ _) Tryz.func196 rfl rfl ?_))))))
  exact ⟨_, rfl, fs, rfl, hfs, hso, H⟩
theorem AtX_b {w0 w : World} {F : List Seg} {bw b5 b6 b7 at_ jump j cx : Nat} {ws fs : List (Nat × Nat)} {cs : List Cf} {c : Cf} {px : Option Addr} {X : List Int} (H : Hp w0 w ([(bw, cel (cxs ws) 49)] :: [(b7, cel [.int .i64 ((jump : Nat) : Int)] 3)] :: [(b6, cel [.int .i64 ((at_ : Nat) : Int)] 3)] :: [(b5, cel [.slice px fs.length cx] 27)] :: F)) (hs : SlAt F px (cxs fs)) (hr : RelF X fs cs) (hc : getF cs (at_ + j * jump) = some c) (hl : fs.length ≤ 1000000) : Ret Tryz.prog 197 [.int .i64 ((j : Nat) : Int), .pointer (some ⟨b5, 0, none⟩), .pointer (some ⟨b6, 0, none⟩), .pointer (some ⟨b7, 0, none⟩)] w fun v w' => ∃ f : Nat × Nat, v = .complex .f64 f.1 f.2 ∧ Zc f (ev c X) ∧ c.ok = true ∧ Hp w0 w' ([(bw, cel (cxs ws) 49)] :: [(b7, cel [.int .i64 ((jump : Nat) : Int)] 3)] :: [(b6, cel [.int .i64 ((at_ : Nat) : Int)] 3)] :: [(b5, cel [.slice px fs.length cx] 27)] :: F) := by
 refine Calls.of_J (n := 14) Tryz.func197 rfl rfl rfl (J.seq (J.region (JL.g (RX.assign) (JL.nil (J.seq ?_)))))
 have hcl := getE_lt (show cs[at_ + j * jump]? = some c from hc)
 have hfl := hr.1
 obtain ⟨ho, f, hf, hz⟩ := hr.2 _ _ hc
 obtain ⟨pb, po, rfl, hpp⟩ := hs.some (by rw [cxs_len]; omega)
 refine J.region (JL.g (RX.load H rfl (i := 3) (v := .slice _ _ _) rfl rfl one27) (JL.g (RX.load H rfl (i := 2) (v := .int _ _) rfl rfl one3) (JL.mi rfl (JL.g (RX.load H rfl (i := 1) (v := .int _ _) rfl rfl one3) (JL.g (RX.mul rfl rfl (wi (n := j * jump) (Int.natCast_mul _ _).symm (by omega))) (JL.g (RX.add rfl rfl (wi (n := at_ + j * jump) (by omega) (by omega))) (JL.g (RX.indexAddr rfl rfl sl27 (by omega) (by omega) (o' := po + (at_ + j * jump)) (by omega)) (JL.g (RX.loadS H hs.cons.cons.cons.cons rfl (j := at_ + j * jump) rfl (v := .complex .f64 f.1 f.2) (cxs_get hf) one49) (JL.g (RX.assignv (v := .complex _ _ _) rfl) (JL.nil (J.ret1 (v := .complex _ _ _) Tryz.func197 rfl rfl ?_)))))))))))
 exact ⟨_, rfl, f, rfl, hz, ho, H⟩
theorem At1_b {w0 w : World} {F : List Seg} (H : Hp w0 w F) {at_ jump n k cx : Nat} {fs : List (Nat × Nat)} {cs : List Cf} {r : Cf} {px : Option Addr} {X : List Int} (hX : InX X) (hs : SlAt F px (cxs fs)) (hr : RelF X fs cs) (hn : n = 1) (hk : k < n) (hj : 1 ≤ jump) (hd : dsum n k (fun j => getF cs (at_ + j * jump)) (n - 1) = some r) (hall : ∀ j, j < n → ∃ c, getF cs (at_ + j * jump) = some c) (hl : fs.length ≤ 1000000) : Ret Tryz.prog 179 [.slice px fs.length cx, .int .i64 ((at_ : Nat) : Int), .int .i64 ((jump : Nat) : Int), .int .i64 ((n : Nat) : Int), .int .i64 ((k : Nat) : Int)] w fun v w' => ∃ f : Nat × Nat, v = .tuple #[.complex .f64 f.1 f.2, .nilIface] ∧ Zc f (ev r X) ∧ r.ok = true ∧ Hp w0 w' F := by
 refine Calls.of_J (n := 55) Tryz.func179 rfl rfl rfl (J.seq ?_)
 have hfl := hr.1
 obtain ⟨c0, hc0⟩ := hall 0 (by omega)
 have hl0 := getE_lt (show cs[at_ + 0 * jump]? = some c0 from hc0)
 obtain ⟨c1, hc1⟩ := hall (n - 1) (by omega)
 have hl1 := getE_lt (show cs[at_ + (n - 1) * jump]? = some c1 from hc1)
 have hn3 : n = 1 ∨ n = 2 ∨ n = 4 := by omega
 refine J.region (JL.e (EX.box (v := .slice _ _ _) H rfl rfl) ?_)
 rintro _ w ⟨b5, rfl, H⟩
 refine JL.e (EX.box (v := .int _ _) H rfl rfl) ?_
 rintro _ w ⟨b6, rfl, H⟩
 refine JL.e (EX.box (v := .int _ _) H rfl rfl) ?_
 rintro _ w ⟨b7, rfl, H⟩
 refine JL.g (RX.assign) (JL.g (RX.assign) (JL.nil (J.seq (J.region (JL.mi rfl (JL.e (EX.call rfl cl195 rfl ((table_b H hn3))) ?_))))))
 rintro _ w ⟨bw, ws, rfl, hR, H⟩
 refine JL.g (RX.movev (v := .tuple _) rfl) (JL.g (RX.extract rfl rfl) (JL.g (RX.extract (v := .nilIface) rfl rfl) (JL.al rfl (JL.g (RX.assignv (v := .nilIface) rfl) (JL.nil (J.seq (J.seq (J.region (JL.g (RX.movev (v := .nilIface) rfl) (JL.g (RX.ifnil_neq (v := .nilIface) rfl rfl rfl if31) (JL.nil (J.cond_f rfl rfl (J.skip (J.seq (J.seq (J.quietH H hmix (by kernel_rfl) (JQ.g (fun w H => RX.load H rfl (i := 2) (v := .int _ _) rfl rfl one3) (JQ.g (fun w H => RX.lt rfl rfl) (JQ.g (fun w H => RX.movev (v := .bool _) rfl) (JQ.go ⟨_, rfl, (decide_eq_false (by omega))⟩ (fun w H => RX.load H rfl (i := 2) (v := .int _ _) rfl rfl one3) (JQ.go ⟨_, rfl, (decide_eq_false (by omega))⟩ (fun w H => RX.load H rfl (i := 3) (v := .slice _ _ _) rfl rfl one27) (JQ.go ⟨_, rfl, (decide_eq_false (by omega))⟩ (fun w H => RX.len_slice rfl (by rw [sl27]; rfl) rfl) ?_))))))))))))))))))))))
 refine JQ.go ⟨_, rfl, (decide_eq_false (by omega))⟩ (fun w H => RX.ge rfl rfl) (JQ.g (fun w H => RX.pick_f rfl (decide_eq_false (by omega))) (JQ.g (fun w H => RX.movev (v := .bool _) rfl) (JQ.go ⟨_, rfl, (decide_eq_false (by omega))⟩ (fun w H => RX.load H rfl (i := 1) (v := .int _ _) rfl rfl one3) (JQ.go ⟨_, rfl, (decide_eq_false (by omega))⟩ (fun w H => RX.lt rfl rfl) (JQ.g (fun w H => RX.pick_f rfl (decide_eq_false (by omega))) (JQ.g (fun w H => RX.movev (v := .bool _) rfl) (JQ.go ⟨_, rfl, (decide_eq_false (by omega))⟩ (fun w H => RX.movev (v := .int _ _) rfl) (JQ.go ⟨_, rfl, (decide_eq_false (by omega))⟩ (fun w H => RX.gt rfl rfl) (JQ.go ⟨_, rfl, (decide_eq_false (by omega))⟩ (fun w H => RX.movev (v := .bool _) rfl) (JQ.no ⟨_, rfl, gno (decide_eq_false (by omega))⟩ (JQ.no ⟨_, rfl, gno (decide_eq_false (by omega))⟩ (JQ.no ⟨_, rfl, gno (decide_eq_false (by omega))⟩ (JQ.no ⟨_, rfl, gno (decide_eq_false (by omega))⟩ (JQ.no ⟨_, rfl, gno (decide_eq_false (by omega))⟩ (JQ.no ⟨_, rfl, gno (decide_eq_false (by omega))⟩ (JQ.no ⟨_, rfl, gno (decide_eq_false (by omega))⟩ (JQ.no ⟨_, rfl, gno (decide_eq_false (by omega))⟩ (JQ.no ⟨_, rfl, gno (decide_eq_false (by omega))⟩ (JQ.no ⟨_, rfl, gno (decide_eq_false (by omega))⟩ (JQ.go ⟨_, rfl, (decide_eq_false (by omega))⟩ (fun w H => RX.pick_f rfl (decide_eq_false (by omega))) (JQ.g (fun w H => RX.pick_f rfl (decide_eq_false (by omega))) (JQ.nil fun w H => (J.cond_f rfl rfl (J.skip (J.seq (J.region (JL.ms rfl (JL.mi rfl (JL.g (RX.makeFunc rfl rfl) (JL.e (EX.call rfl cl196 rfl ((sum_b (cl := 197) (cv := [.pointer (some ⟨b5, 0, none⟩), .pointer (some ⟨b6, 0, none⟩), .pointer (some ⟨b7, 0, none⟩)]) (x := (fun j => getF cs (at_ + j * jump))) H hX hn3 hk hR hd cl197 (fun j c w hj hc H => AtX_b H hs hr hc hl)))) ?_))))))))))))))))))))))))))))))
 rintro _ w ⟨f, rfl, hf, ho, H⟩
 refine JL.g (RX.assignv (v := .complex _ _ _) rfl) (JL.g (RX.assign) (JL.nil (J.ret2 (v := .complex _ _ _) Tryz.func179 rfl rfl rfl ?_)))
 exact ⟨_, rfl, f, rfl, hf, ho, H.drop.drop.drop.drop⟩
theorem Atn_b {w0 w : World} {F : List Seg} (H : Hp w0 w F) {at_ jump n k cx : Nat} {fs : List (Nat × Nat)} {cs : List Cf} {r : Cf} {px : Option Addr} {X : List Int} (hX : InX X) (hs : SlAt F px (cxs fs)) (hr : RelF X fs cs) (hn : n = 2 ∨ n = 4) (hk : k < n) (hj : 1 ≤ jump) (hd : dsum n k (fun j => getF cs (at_ + j * jump)) (n - 1) = some r) (hall : ∀ j, j < n → ∃ c, getF cs (at_ + j * jump) = some c) (hl : fs.length ≤ 1000000) : Ret Tryz.prog 179 [.slice px fs.length cx, .int .i64 ((at_ : Nat) : Int), .int .i64 ((jump : Nat) : Int), .int .i64 ((n : Nat) : Int), .int .i64 ((k : Nat) : Int)] w fun v w' => ∃ f : Nat × Nat, v = .tuple #[.complex .f64 f.1 f.2, .nilIface] ∧ Zc f (ev r X) ∧ r.ok = true ∧ Hp w0 w' F := by
 refine Calls.of_J (n := 55) Tryz.func179 rfl rfl rfl (J.seq ?_)
 have hfl := hr.1
 obtain ⟨c0, hc0⟩ := hall 0 (by omega)
 have hl0 := getE_lt (show cs[at_ + 0 * jump]? = some c0 from hc0)
 obtain ⟨c1, hc1⟩ := hall (n - 1) (by omega)
 have hl1 := getE_lt (show cs[at_ + (n - 1) * jump]? = some c1 from hc1)
 have hn3 : n = 1 ∨ n = 2 ∨ n = 4 := by omega
 have hq : jump ≤ (fs.length - 1 - at_) / (n - 1) := (Nat.le_div_iff_mul_le (by omega)).2 (by rw [Nat.mul_comm]; omega)
 have hq2 : (fs.length - 1 - at_) / (n - 1) ≤ fs.length - 1 - at_ := Nat.div_le_self _ _
 refine J.region (JL.e (EX.box (v := .slice _ _ _) H rfl rfl) ?_)
 rintro _ w ⟨b5, rfl, H⟩
 refine JL.e (EX.box (v := .int _ _) H rfl rfl) ?_
 rintro _ w ⟨b6, rfl, H⟩
 refine JL.e (EX.box (v := .int _ _) H rfl rfl) ?_
 rintro _ w ⟨b7, rfl, H⟩
 refine JL.g (RX.assign) (JL.g (RX.assign) (JL.nil (J.seq (J.region (JL.mi rfl (JL.e (EX.call rfl cl195 rfl ((table_b H hn3))) ?_))))))
 rintro _ w ⟨bw, ws, rfl, hR, H⟩
 refine JL.g (RX.movev (v := .tuple _) rfl) (JL.g (RX.extract rfl rfl) (JL.g (RX.extract (v := .nilIface) rfl rfl) (JL.al rfl (JL.g (RX.assignv (v := .nilIface) rfl) (JL.nil (J.seq (J.seq (J.region (JL.g (RX.movev (v := .nilIface) rfl) (JL.g (RX.ifnil_neq (v := .nilIface) rfl rfl rfl if31) (JL.nil (J.cond_f rfl rfl (J.skip (J.seq (J.seq (J.quietH H hmix (by kernel_rfl) (JQ.g (fun w H => RX.load H rfl (i := 2) (v := .int _ _) rfl rfl one3) (JQ.g (fun w H => RX.lt rfl rfl) (JQ.g (fun w H => RX.movev (v := .bool _) rfl) (JQ.go ⟨_, rfl, (decide_eq_false (by omega))⟩ (fun w H => RX.load H rfl (i := 2) (v := .int _ _) rfl rfl one3) (JQ.go ⟨_, rfl, (decide_eq_false (by omega))⟩ (fun w H => RX.load H rfl (i := 3) (v := .slice _ _ _) rfl rfl one27) (JQ.go ⟨_, rfl, (decide_eq_false (by omega))⟩ (fun w H => RX.len_slice rfl (by rw [sl27]; rfl) rfl) ?_))))))))))))))))))))))
 refine JQ.go ⟨_, rfl, (decide_eq_false (by omega))⟩ (fun w H => RX.ge rfl rfl) (JQ.g (fun w H => RX.pick_f rfl (decide_eq_false (by omega))) (JQ.g (fun w H => RX.movev (v := .bool _) rfl) (JQ.go ⟨_, rfl, (decide_eq_false (by omega))⟩ (fun w H => RX.load H rfl (i := 1) (v := .int _ _) rfl rfl one3) (JQ.go ⟨_, rfl, (decide_eq_false (by omega))⟩ (fun w H => RX.lt rfl rfl) (JQ.g (fun w H => RX.pick_f rfl (decide_eq_false (by omega))) (JQ.g (fun w H => RX.movev (v := .bool _) rfl) (JQ.go ⟨_, rfl, (decide_eq_false (by omega))⟩ (fun w H => RX.movev (v := .int _ _) rfl) (JQ.go ⟨_, rfl, (decide_eq_false (by omega))⟩ (fun w H => RX.gt rfl rfl) (JQ.go ⟨_, rfl, (decide_eq_false (by omega))⟩ (fun w H => RX.movev (v := .bool _) rfl) (JQ.go ⟨_, rfl, (decide_eq_true (by omega))⟩ (fun w H => RX.load H rfl (i := 1) (v := .int _ _) rfl rfl one3) (JQ.go ⟨_, rfl, (decide_eq_true (by omega))⟩ (fun w H => RX.load H rfl (i := 3) (v := .slice _ _ _) rfl rfl one27) (JQ.go ⟨_, rfl, (decide_eq_true (by omega))⟩ (fun w H => RX.len_slice rfl (by rw [sl27]; rfl) rfl) ?_))))))))))))
 refine JQ.go ⟨_, rfl, (decide_eq_true (by omega))⟩ (fun w H => RX.sub rfl rfl (wi (n := fs.length - 1) (by omega) (by omega))) (JQ.go ⟨_, rfl, (decide_eq_true (by omega))⟩ (fun w H => RX.load H rfl (i := 2) (v := .int _ _) rfl rfl one3) (JQ.go ⟨_, rfl, (decide_eq_true (by omega))⟩ (fun w H => RX.sub rfl rfl (wi (n := fs.length - 1 - at_) (by omega) (by omega))) (JQ.go ⟨_, rfl, (decide_eq_true (by omega))⟩ (fun w H => RX.movev (v := .int _ _) rfl) (JQ.go ⟨_, rfl, (decide_eq_true (by omega))⟩ (fun w H => RX.sub rfl rfl (wi (n := n - 1) (by omega) (by omega))) (JQ.go ⟨_, rfl, (decide_eq_true (by omega))⟩ (fun w H => RX.quo rfl rfl (by omega) (r := (((fs.length - 1 - at_) / (n - 1) : Nat) : Int)) (by rw [quo_nat]; exact wi rfl (by omega))) ?_)))))
 refine JQ.go ⟨_, rfl, (decide_eq_true (by omega))⟩ (fun w H => RX.gt rfl rfl) (JQ.go ⟨_, rfl, (decide_eq_false (by omega))⟩ (fun w H => RX.pick_t rfl (decide_eq_true (by omega))) (JQ.g (fun w H => RX.pick_f rfl (decide_eq_false (by omega))) (JQ.nil fun w H => (J.cond_f rfl (decide_eq_false (by omega)) (J.skip (J.seq (J.region (JL.ms rfl (JL.mi rfl (JL.g (RX.makeFunc rfl rfl) (JL.e (EX.call rfl cl196 rfl ((sum_b (cl := 197) (cv := [.pointer (some ⟨b5, 0, none⟩), .pointer (some ⟨b6, 0, none⟩), .pointer (some ⟨b7, 0, none⟩)]) (x := (fun j => getF cs (at_ + j * jump))) H hX hn3 hk hR hd cl197 (fun j c w hj hc H => AtX_b H hs hr hc hl)))) ?_)))))))))))
 rintro _ w ⟨f, rfl, hf, ho, H⟩
 refine JL.g (RX.assignv (v := .complex _ _ _) rfl) (JL.g (RX.assign) (JL.nil (J.ret2 (v := .complex _ _ _) Tryz.func179 rfl rfl rfl ?_)))
 exact ⟨_, rfl, f, rfl, hf, ho, H.drop.drop.drop.drop⟩
end Go.Proofs.YtfaokllgaambjaaGreatDoor

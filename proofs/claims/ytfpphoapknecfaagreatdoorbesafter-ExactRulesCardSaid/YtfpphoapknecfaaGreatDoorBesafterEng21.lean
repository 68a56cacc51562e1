/- General rules for stepping through a function: no program stands in them. -/
import Derived.Test.YtfpphoapknecfaaGreatDoorBesafterEng20
import Derived.Laws.FloatArith
import Derived.Conc.MuLone
namespace Go.Eng
open Go
variable {D : List Deferred}

/-! Floats of 64 bits: which NaN it is is all one. -/
def fnan (x : Nat) : Bool := decide (9218868437227405312 < x % 9223372036854775808)
def qnan : Nat := 9221120237041090560
/-- A float's word, all NaNs made one. -/
def cn (x : Nat) : Nat := if fnan x = true then qnan else x
theorem fnan_qnan : fnan qnan = true := by decide
theorem cn_nan {x : Nat} (h : fnan x = true) : cn x = qnan := if_pos h
theorem cn_fin {x : Nat} (h : fnan x = false) : cn x = x := if_neg (by simp [h])
theorem fnan_cn (x : Nat) : fnan (cn x) = fnan x := by
  cases h : fnan x with
  | true => rw [cn_nan h]; exact fnan_qnan
  | false => rw [cn_fin h]; exact h
theorem cn_cn (x : Nat) : cn (cn x) = cn x := by
  cases h : fnan x with
  | true => rw [cn_nan h]; exact cn_nan fnan_qnan
  | false => rw [cn_fin h]; exact cn_fin h
theorem cn_eq {x y : Nat} (h : cn x = cn y) : (fnan x = true ∧ fnan y = true) ∨ (fnan x = false ∧ fnan y = false ∧ x = y) := by
  have hf : fnan x = fnan y := by rw [← fnan_cn x, h, fnan_cn]
  cases hx : fnan x with
  | true => exact .inl ⟨rfl, by rw [← hf, hx]⟩
  | false => exact .inr ⟨rfl, by rw [← hf, hx], by rw [← cn_fin hx, h, cn_fin (by rw [← hf, hx])]⟩
theorem sw64 : Ieee.double.signWeight = 9223372036854775808 := by decide
theorem ir64 : Ieee.double.infRung = 9218868437227405312 := by decide
theorem bn64 : Ieee.double.binade = 4503599627370496 := by decide
theorem read_nan (x : Nat) : (Ieee.double.read x).isNaN = fnan x := by
  unfold Ieee.Format.read fnan
  rw [sw64, ir64, bn64]
  dsimp only
  split
  · rw [decide_eq_false (by omega)]; rfl
  · split
    · rw [decide_eq_false (by omega)]; rfl
    · split
      · rw [decide_eq_false (by omega)]; rfl
      · rw [decide_eq_true (by omega)]; rfl
theorem word_fin (s : Bool) {r : Nat} (h : r ≤ 9218868437227405312) : fnan (Ieee.double.word s r) = false := by
  unfold Ieee.Format.word fnan
  rw [sw64]
  split <;> exact decide_eq_false (by omega)
theorem write_fin {d : Ieee.Datum} (h : d.isNaN = false) : fnan (Ieee.double.write d) = false := by
  cases d with
  | nan s t => simp [Ieee.Datum.isNaN] at h
  | infinity s => exact word_fin s (by decide)
  | number s m e =>
    simp only [Ieee.Format.write, Ieee.Format.nearest]
    split
    · exact word_fin s (by decide)
    · refine word_fin s ?_
      rw [ir64]; exact Nat.min_le_right _ _
theorem sum_fin {a b d : Ieee.Datum} (h : a.sum b = some d) : a.isNaN = false ∧ b.isNaN = false ∧ d.isNaN = false := by
  cases a <;> cases b <;> simp [Ieee.Datum.sum] at h
  all_goals first | (obtain ⟨_, rfl⟩ := h; exact ⟨rfl, rfl, rfl⟩) | (subst h; exact ⟨rfl, rfl, rfl⟩)
theorem product_fin {a b d : Ieee.Datum} (h : a.product b = some d) : a.isNaN = false ∧ b.isNaN = false ∧ d.isNaN = false := by
  unfold Ieee.Datum.product at h
  split at h
  · cases h
  · cases h
  · cases h; exact ⟨rfl, rfl, rfl⟩
  · split at h
    · cases h
    · cases h; exact ⟨rfl, rfl, rfl⟩
  · split at h
    · cases h
    · cases h; exact ⟨rfl, rfl, rfl⟩
  · cases h; exact ⟨rfl, rfl, rfl⟩
theorem quotient_fin {n : Nat} {a b d : Ieee.Datum} (h : a.quotient n b = some d) : a.isNaN = false ∧ b.isNaN = false ∧ d.isNaN = false := by
  unfold Ieee.Datum.quotient at h
  split at h
  · cases h
  · cases h
  · cases h
  · cases h; exact ⟨rfl, rfl, rfl⟩
  · cases h; exact ⟨rfl, rfl, rfl⟩
  · split at h
    · split at h
      · cases h
      · cases h; exact ⟨rfl, rfl, rfl⟩
    · cases h; exact ⟨rfl, rfl, rfl⟩
theorem opposite_nan (d : Ieee.Datum) : d.opposite.isNaN = d.isNaN := by cases d <;> rfl
/-- The four operations; a NaN is always the one NaN. -/
def fop (op : BinOp) (x y : Nat) : Option Nat :=
  match op with
  | .add => Ieee.double.add x y
  | .sub => Ieee.double.sub x y
  | .mul => Ieee.double.mul x y
  | .quo => Ieee.double.div x y
  | _ => none
theorem fop_fin {op : BinOp} {x y r : Nat} (h : fop op x y = some r) : fnan x = false ∧ fnan y = false ∧ fnan r = false := by
  have hx := read_nan x
  have hy := read_nan y
  cases op <;> simp only [fop] at h <;> first
    | (cases h; done)
    | (simp only [Ieee.Format.add, Option.map_eq_some_iff] at h
       obtain ⟨d, hd, rfl⟩ := h
       obtain ⟨h1, h2, h3⟩ := sum_fin hd
       exact ⟨by rw [← hx, h1], by rw [← hy, h2], write_fin h3⟩)
    | (simp only [Ieee.Format.sub, Option.map_eq_some_iff] at h
       obtain ⟨d, hd, rfl⟩ := h
       obtain ⟨h1, h2, h3⟩ := sum_fin hd
       rw [opposite_nan] at h2
       exact ⟨by rw [← hx, h1], by rw [← hy, h2], write_fin h3⟩)
    | (simp only [Ieee.Format.mul, Option.map_eq_some_iff] at h
       obtain ⟨d, hd, rfl⟩ := h
       obtain ⟨h1, h2, h3⟩ := product_fin hd
       exact ⟨by rw [← hx, h1], by rw [← hy, h2], write_fin h3⟩)
    | (simp only [Ieee.Format.div, Option.map_eq_some_iff] at h
       obtain ⟨d, hd, rfl⟩ := h
       obtain ⟨h1, h2, h3⟩ := quotient_fin hd
       exact ⟨by rw [← hx, h1], by rw [← hy, h2], write_fin h3⟩)
def fo (op : BinOp) (x y : Nat) : Nat := (fop op x y).getD qnan
theorem fo_cn (op : BinOp) (x y : Nat) : cn (fo op x y) = fo op x y := by
  unfold fo
  cases h : fop op x y with
  | none => exact cn_nan fnan_qnan
  | some r => exact cn_fin (fop_fin h).2.2
theorem fop_nan {op : BinOp} {x y : Nat} (h : fnan x = true ∨ fnan y = true) : fop op x y = none := by
  cases e : fop op x y with
  | none => rfl
  | some r =>
    obtain ⟨h1, h2, _⟩ := fop_fin e
    rcases h with h | h
    · rw [h1] at h; cases h
    · rw [h2] at h; cases h
theorem fo_al (op : BinOp) {x x' y y' : Nat} (hx : cn x = cn x') (hy : cn y = cn y') : fo op x y = fo op x' y' := by
  rcases cn_eq hx with ⟨h1, h2⟩ | ⟨_, _, rfl⟩
  · unfold fo; rw [fop_nan (.inl h1), fop_nan (.inl h2)]
  · rcases cn_eq hy with ⟨h1, h2⟩ | ⟨_, _, rfl⟩
    · unfold fo; rw [fop_nan (.inr h1), fop_nan (.inr h2)]
    · rfl
def fneg (x : Nat) : Nat := Op.negFloat .f64 x
theorem neg_mod (x : Nat) : fneg x % 9223372036854775808 = x % 9223372036854775808 := by
  have h : fneg x = x ^^^ 2 ^ 63 := rfl
  rw [h]
  have h2 := Nat.xor_mod_two_pow (a := x) (b := 2 ^ 63) (n := 63)
  rw [Nat.mod_self, Nat.xor_zero] at h2
  exact h2
theorem fnan_neg (x : Nat) : fnan (fneg x) = fnan x := by unfold fnan; rw [neg_mod]
theorem fneg_al {x y : Nat} (h : cn x = cn y) : cn (fneg x) = cn (fneg y) := by
  rcases cn_eq h with ⟨h1, h2⟩ | ⟨_, _, rfl⟩
  · rw [cn_nan (by rw [fnan_neg, h1]), cn_nan (by rw [fnan_neg, h2])]
  · rfl
theorem fneg_neg (x : Nat) : fneg (fneg x) = x := by
  show (x ^^^ 2 ^ 63) ^^^ 2 ^ 63 = x
  rw [Nat.xor_assoc, Nat.xor_self, Nat.xor_zero]
def ford (x y : Nat) : Option Ordering := Ieee.double.order x y
theorem ford_nan {x y : Nat} (h : fnan x = true ∨ fnan y = true) : ford x y = none := by
  unfold ford Ieee.Format.order
  have hx := read_nan x
  have hy := read_nan y
  revert hx hy
  generalize Ieee.double.read x = a
  generalize Ieee.double.read y = b
  intro hx hy
  rcases h with h | h
  · rw [h] at hx
    cases a <;> simp [Ieee.Datum.isNaN] at hx
    cases b <;> rfl
  · rw [h] at hy
    cases b <;> simp [Ieee.Datum.isNaN] at hy
    cases a <;> rfl
theorem ford_al {x x' y y' : Nat} (hx : cn x = cn x') (hy : cn y = cn y') : ford x y = ford x' y' := by
  rcases cn_eq hx with ⟨h1, h2⟩ | ⟨_, _, rfl⟩
  · rw [ford_nan (.inl h1), ford_nan (.inl h2)]
  · rcases cn_eq hy with ⟨h1, h2⟩ | ⟨_, _, rfl⟩
    · rw [ford_nan (.inr h1), ford_nan (.inr h2)]
    · rfl
/-- The float nearest to a whole number. -/
def fint (n : Int) : Nat := FloatKind.f64.nearest n
theorem fint_fin (n : Int) : fnan (fint n) = false := write_fin (d := .number (n < 0) n.natAbs 0) rfl
theorem cn_fint (n : Int) : cn (fint n) = fint n := cn_fin (fint_fin n)

section
variable {P : Program} {ρ : Operand → Value} {w w0 : World} {L : List Seg} {d : Option Tmp} {ty : TypeId} {pos : String} {af : Array Edge} {g : Option (Nat × Bool)} {x y : Operand}
theorem run_nanBits (a b : Nat) (k : Nat → Value) : ∃ r w', ((do pure (k (← choose (.nanBits .f64 a b)))) : Sem Value).run P w = .ok (k r) w' ∧ fnan r = true ∧ Same w w' := by
  refine ⟨Question.cut (.nanBits .f64 a b) (w.tape w.drawn (.nanBits .f64 a b)), { w with drawn := w.drawn + 1 }, ?_, ?_, ⟨rfl, rfl, rfl, rfl⟩⟩
  · simp [run_choose, Question.forced]
  · unfold fnan
    refine decide_eq_true ?_
    generalize w.tape w.drawn (.nanBits .f64 a b) = t
    show 9218868437227405312 < ((t % 2) * 2 ^ 63 + 0x7ff0000000000000 + 1 + (t / 2) % (2 ^ 52 - 1)) % 9223372036854775808
    have hb : (t / 2) % (2 ^ 52 - 1) < 4503599627370495 := Nat.mod_lt _ (by decide)
    have ha : t % 2 = 0 ∨ t % 2 = 1 := by omega
    generalize (t / 2) % (2 ^ 52 - 1) = u at hb ⊢
    rcases ha with h | h <;> rw [h] <;> omega
theorem EX.farith {op : BinOp} {t t' : TypeId} {a b : Nat} (ho : op = .add ∨ op = .sub ∨ op = .mul ∨ op = .quo) (H : Hp w0 w L) (hx : ρ x = .float .f64 a) (hy : ρ y = .float .f64 b) :
    Does P ρ ⟨d, .binOp op t x y t', ty, pos, af, g⟩ w fun u w' => ∃ r, u = .float .f64 r ∧ cn r = fo op a b ∧ Hp w0 w' L := by
  have hrun : ∀ u w', (Op.floatArith op .f64 a b).run P w = .ok u w' → (execOp ρ ⟨d, .binOp op t x y t', ty, pos, af, g⟩).run P w = .ok (.value u) w' := by
    intro u w' h
    simp only [execOp, hx, hy, eqGuard_at_float, Sem.run_bind, Sem.run_pure, Result.andThen_ok, Sem.run_map]
    have hb : binOp op t (.float .f64 a) (.float .f64 b) = Op.floatArith op .f64 a b := by
      rcases ho with rfl | rfl | rfl | rfl <;> simp [binOp]
    first | rw [hb, h]; rfl | (simp [hb, h])
  have hfop : ∀ r : Option Nat, fop op a b = r → (Op.floatArith op .f64 a b) = (match r with | some r => pure (.float .f64 r) | none => do pure (.float .f64 (← choose (.nanBits .f64 a b))) : Sem Value) := by
    intro r hr
    subst hr
    rcases ho with rfl | rfl | rfl | rfl <;> rfl
  cases hr : fop op a b with
  | some r => exact Does.of_run (hrun (.float .f64 r) w (by rw [hfop _ hr]; rfl)) ⟨r, rfl, by unfold fo; rw [hr]; exact cn_fin (fop_fin hr).2.2, H⟩
  | none =>
    obtain ⟨r, w', h1, h2, h3⟩ := run_nanBits (P := P) (w := w) a b (.float .f64)
    exact Does.of_run (hrun (.float .f64 r) w' (by rw [hfop _ hr]; exact h1)) ⟨r, rfl, by unfold fo; rw [hr]; exact cn_nan h2, H.same h3⟩
theorem RX.fneg {t : TypeId} {a : Nat} (hx : ρ x = .float .f64 a) : Runs P ρ ⟨d, .unOp .neg t x, ty, pos, af, g⟩ w (.float .f64 (fneg a)) := by
  unfold Runs; simp [execOp, hx, Op.unary, Go.Eng.fneg]
theorem RX.i2f {src dst : TypeId} {k : IntKind} {a : Int} (hx : ρ x = .int k a) (hs : P.underlying src = some (.int k)) (hd : P.underlying dst = some (.float .f64)) : Runs P ρ ⟨d, .convert src dst x, ty, pos, af, g⟩ w (.float .f64 (fint a)) := by
  unfold Runs
  simp [execOp, hx, convert, run_underlying hs, run_underlying hd, Conv.intToFloat, fint]
theorem RX.f2f {src dst : TypeId} {a : Nat} (hx : ρ x = .float .f64 a) (hs : P.underlying src = some (.float .f64)) (hd : P.underlying dst = some (.float .f64)) : Runs P ρ ⟨d, .convert src dst x, ty, pos, af, g⟩ w (.float .f64 a) := by
  unfold Runs
  simp [execOp, hx, convert, run_underlying hs, run_underlying hd, Conv.floatToFloat]
end
end Go.Eng

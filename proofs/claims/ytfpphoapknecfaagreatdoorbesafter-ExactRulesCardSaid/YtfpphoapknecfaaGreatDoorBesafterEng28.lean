/- General rules for stepping through a function: no program stands in them. -/
import Derived.Test.YtfpphoapknecfaaGreatDoorBesafterEng27
namespace Go.Eng
open Go
section
variable {P : Program} {f : FuncId} {n : Nat} {w w0 : World} {L : List Seg} {ρ : Operand → Value} {d : Option Tmp} {x y : Operand} {ty : TypeId} {pos : String} {af : Array Edge} {g : Option (Nat × Bool)}
/-- Arithmetic whose answer is a number: it draws nothing. -/
theorem RX.farith {op : BinOp} {t t' : TypeId} {a b : Nat} (ho : op = .add ∨ op = .sub ∨ op = .mul ∨ op = .quo) (hx : ρ x = .float .f64 a) (hy : ρ y = .float .f64 b) (hf : fnan (fo op a b) = false) :
    Runs P ρ ⟨d, .binOp op t x y t', ty, pos, af, g⟩ w (.float .f64 (fo op a b)) := by
  have hb : binOp op t (.float .f64 a) (.float .f64 b) = Op.floatArith op .f64 a b := by
    rcases ho with rfl | rfl | rfl | rfl <;> simp [binOp]
  have hfop : (Op.floatArith op .f64 a b) = (match fop op a b with | some r => pure (.float .f64 r) | none => do pure (.float .f64 (← choose (.nanBits .f64 a b))) : Sem Value) := by
    rcases ho with rfl | rfl | rfl | rfl <;> rfl
  cases hr : fop op a b with
  | none => unfold fo at hf; rw [hr] at hf; exact absurd hf (by decide)
  | some r =>
    rw [hr] at hfop
    have e : fo op a b = r := by unfold fo; rw [hr]; rfl
    rw [e]
    unfold Runs
    simp only [execOp, hx, hy, eqGuard_at_float, Sem.run_bind, Sem.run_pure, Result.andThen_ok]
    first | rw [hb, hfop]; rfl | simp [hb, hfop]
/-- A slice as a pointer to an array. -/
theorem RX.toArr {arr e n len cap : Nat} {a : Addr} (hx : ρ x = .slice (some a) len cap) (hu : P.underlying arr = some (.array n e)) (hl : n ≤ len) :
    Runs P ρ ⟨d, .sliceToArrayPointer arr x, ty, pos, af, g⟩ w (.pointer (some a)) := by
  unfold Runs
  have : ¬ len < n := by omega
  simp [execOp, hx, Instr.arrayAt, run_underlying hu, this]
/-- The whole of an array as a slice. -/
theorem RX.sliceArr {t e n sz b : Nat} (hx : ρ x = .pointer (some ⟨b, 0, none⟩)) (ht : arrayOf P t = some (n, e, sz)) :
    Runs P ρ ⟨d, .slice t x none none none, ty, pos, af, g⟩ w (.slice (some ⟨b, 0, none⟩) n n) := by
  obtain ⟨hu, i, hi, hs⟩ := arrayOf_run ht
  have he : P.elem t = e := by unfold Program.elem; rw [hu]
  have hn : P.arrayLen t = n := by unfold Program.arrayLen; rw [hu]
  have h := run_sliceAt_array_all w t ⟨b, 0, none⟩ (P := P) (by rw [hn, he]; exact hu)
  rw [he, hn] at h
  have hz : (sizeOf e).run P w = .ok sz w := szOf_run (by unfold szOf; rw [hi, ← hs]; rfl)
  rw [hz] at h
  have e2 : slicedAt ⟨b, 0, none⟩ 0 n n sz = .slice (some ⟨b, 0, none⟩) n n := by
    unfold slicedAt
    by_cases h0 : n = 0
    · simp [h0]
    · simp [h0, Addr.add]
  unfold Runs
  simp only [Result.andThen_ok, e2] at h
  simp [execOp, hx, h]
end
end Go.Eng

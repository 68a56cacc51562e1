/- General rules for stepping through a function: no program stands in them. -/
import Derived.Test.YtfpphoapknecfaaGreatDoorBesafterEng26
import Derived.Laws.Twins
import Derived.Laws.CopyRow
import Derived.Laws.IdiomCopy
namespace Go.Eng
open Go
variable {D : List Deferred}

/-! Calls that enter a twin, carries, room, copies: what arithmetic on words asks. -/
/-- A call of f enters g. -/
def TwinIs (P : Program) (f g : FuncId) : Prop := ∀ (args : Array Value) (w : World), (callFunc f args).run P w = .ok (.enter g args) w
def sub64Entry : Array Value → Sem Value := fun args => do
  let (x, y, b) ← Extern.MathBitsCarry.three "Sub64" args
  pure (Extern.MathBitsCarry.pair ((x + Extern.MathBitsCarry.m64 - y - b) % Extern.MathBitsCarry.m64) (if x < y + b then 1 else 0))
section
variable {P : Program} {f : FuncId} {n : Nat} {R : Ending → World → Prop} {k : List Item} {σ : Env} {w w0 : World} {L : List Seg} {ρ : Operand → Value} {d : Option Tmp} {x y : Operand} {ty : TypeId} {pos : String} {af : Array Edge} {g : Option (Nat × Bool)}
theorem EX.callT {f h : FuncId} {as : List Operand} {ats : Array TypeId} {l : List Value} {Φ : Value → World → Prop} (hρ : ρ (.func f) = .func (.func f) #[] #[]) (hf : TwinIs P f h) (ha : as.map ρ = l) (hc : Ret P h l w Φ) :
    Does P ρ ⟨d, .call { callee := .value (.func f), args := as.toArray, argTypes := ats }, ty, pos, af, g⟩ w Φ := by
  refine Does.of_enter (w' := w) ?_ hc
  rw [run_enter ha, hρ]
  simp [Deferred.ofValue, invoke, hf _ _]
theorem run_addN {P : Program} (a b c : Nat) (hc : c ≤ 1) (w : World) : (add64Entry #[.int .u64 (a : Int), .int .u64 (b : Int), .int .u64 (c : Int)]).run P w = .ok (.tuple #[.int .u64 (((a + b + c) % 18446744073709551616 : Nat) : Int), .int .u64 (((a + b + c) / 18446744073709551616 : Nat) : Int)]) w := by
  have : c = 0 ∨ c = 1 := by omega
  rcases this with rfl | rfl <;> rfl
theorem run_subN {P : Program} (a b c : Nat) (hc : c ≤ 1) (w : World) : (sub64Entry #[.int .u64 (a : Int), .int .u64 (b : Int), .int .u64 (c : Int)]).run P w = .ok (.tuple #[.int .u64 (((a + 18446744073709551616 - b - c) % 18446744073709551616 : Nat) : Int), .int .u64 ((if a < b + c then 1 else 0 : Nat) : Int)]) w := by
  have : c = 0 ∨ c = 1 := by omega
  rcases this with rfl | rfl <;> rfl
theorem RX.cap_slice {t : TypeId} {p : Option Addr} {n cap : Nat} {r : Int} (hx : ρ x = .slice p n cap) (ht : (sliceOf P t).isSome = true) (hr : (cap : Int) = r) :
    Runs P ρ ⟨d, .call { callee := .builtin .cap, args := #[x], argTypes := #[t] }, ty, pos, af, g⟩ w (.int .i64 r) := by
  subst hr
  obtain ⟨⟨e, sz⟩, hs⟩ := Option.isSome_iff_exists.1 ht
  obtain ⟨hu, _⟩ := sliceOf_run hs
  unfold Runs
  simp [execOp, resolve, invoke, builtin, Builtin.cap_, hx, run_underlying hu, goInt]
theorem EX.makeS2 {t e bytes m c : Nat} {z : Value} {kx ky : Int} (H : Hp w0 w L) (hu : P.underlying t = some (.slice e)) (hi : ∃ i, P.info? e = some i ∧ i.zero = some z ∧ i.size = 1 ∧ i.bytes = bytes) (hz : z.cells = #[z]) (hx : ρ x = .int .i64 kx) (hy : ρ y = .int .i64 ky) (hkx : kx = (m : Nat)) (hky : ky = (c : Nat)) (hmc : m ≤ c) (hb : bytes * c ≤ 281474976710656) (hm : c ≤ 4611686018427387904) :
    Does P ρ ⟨d, .makeSlice t x y, ty, pos, af, g⟩ w fun u w' => ∃ b, u = .slice (some ⟨b, 0, none⟩) m c ∧ Hp w0 w' ([(b, cel (fnL (fun _ => z) c) e)] :: L) := by
  obtain ⟨i, h1, h2, h3, h4⟩ := hi
  subst hkx hky
  have hr := run_make w t e i z hu h1 h2 .i64 .i64 (m : Int) (c : Int) (by omega) (by omega) (by rw [h4, ← Int.natCast_mul]; exact Int.ofNat_le.2 hb) (by omega)
  have hc : madeCells z.cells ((c : Int).toNat * i.size) = (fnL (fun _ => z) c).toArray := by
    rw [h3, Int.toNat_natCast, Nat.mul_one, hz]
    unfold madeCells fnL
    apply Array.ext_getElem?
    intro q
    by_cases hq : q < c
    · simp [hq, Nat.mod_one]
    · simp [hq]
  rw [hc] at hr
  refine Does.of_run (v := .slice (some ⟨w.heap.size, 0, none⟩) m c) (w' := w.alloc (cel (fnL (fun _ => z) c) e)) ?_ ⟨_, rfl, H.alloc _⟩
  simp only [execOp, hx, hy, Sem.run_bind, hr, Result.andThen_ok]
  rfl
/-- A copy to the head of an own row. -/
theorem EX.copyS {t t' e T : TypeId} {p : Option Addr} {q n c c2 i : Nat} {l ys : List Value} (H : Hp w0 w L) (hx : ρ x = .slice (some ⟨q, 0, none⟩) n c) (hy : ρ y = .slice p n c2) (hu : P.underlying t = some (.slice e)) (hsz : (P.info? e).map (·.size) = some 1)
    (hi : L[i]? = some [(q, cel l T)]) (hs : SlAt L p ys) (hl : ys.length = n) (hle : n ≤ l.length) (hcell : ∀ v ∈ ys, isCell v = true) :
    Does P ρ ⟨d, .call { callee := .builtin .copy, args := #[x, y], argTypes := #[t, t'] }, ty, pos, af, g⟩ w fun u w' => u = .int .i64 (n : Int) ∧ Hp w0 w' (L.set i [(q, cel (ys ++ l.drop n) T)]) := by
  subst hl
  by_cases h0 : ys.length = 0
  · have hrun := run_copy_none (P := P) w t t' ty e (some ⟨q, 0, none⟩) p ys.length c ys.length c2 hu hsz (by rw [h0]; rfl)
    have hyz := List.eq_nil_of_length_eq_zero h0
    subst hyz
    refine Does.of_run (v := goInt 0) (w' := w) ?_ ⟨rfl, ?_⟩
    · simp [execOp, resolve, invoke, builtin, hx, hy] at hrun ⊢
      simp [hrun]
    · rw [List.nil_append, List.length_nil, List.drop_zero]
      have : L.set i [(q, cel l T)] = L := by
        refine List.ext_getElem? fun j => ?_
        rw [List.getElem?_set]
        by_cases e : i = j
        · subst e
          rw [if_pos rfl, if_pos (List.getElem?_eq_some_iff.1 hi).1, hi]
        · rw [if_neg e]
      rw [this]; exact H
  · rcases hs with hs | ⟨b, off, C, TT, fz, rfl, hm, hc⟩
    · subst hs; simp at h0
    have hg := H.get1 hi
    have hb := H.mem _ hm
    have hrun := run_copy_row (P := P) w t t' ty e q 0 ys.length c ⟨b, off, none⟩ ys.length c2 l.toArray T ys hu hsz hg (by simp) (fun j v hj => by
      have hjl := (List.getElem?_eq_some_iff.1 hj).1
      have hc2 := hc j hjl
      rw [hj] at hc2
      have e : (⟨b, off, none⟩ : Addr).add j = ⟨b, off + j, none⟩ := by
        unfold Addr.add
        split
        · next h => subst h; rfl
        · rfl
      rw [e]
      simp [World.cell?, hb, hc2]) (by simpa using hle) (fun v hv => by have := hcell v hv; cases v <;> first | rfl | cases this)
    refine Does.of_run (v := goInt ys.length) (w' := w.setRow q (l.toArray.toList.take 0 ++ ys ++ l.toArray.toList.drop (0 + ys.length)).toArray) ?_ ⟨rfl, ?_⟩
    · simp [execOp, resolve, invoke, builtin, hx, hy] at hrun ⊢
      simp [hrun]
    · have hlt := (Array.getElem?_eq_some_iff.1 hg).1
      refine H.set hi (heap' := (w.setRow q _).heap) (by simp [World.setRow]) ?_ (fun c hc => setRow_other w q c _ hc)
      simp only [World.setRow, Array.getElem?_modify, if_true, hg]
      simp [cel]
end
end Go.Eng

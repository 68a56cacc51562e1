/- General rules for stepping through a function: no program stands in them. -/
import Derived.Test.YtfpphoapknecfaaGreatDoorBesafterEng25
import Derived.Scope
namespace Go.Eng
open Go
variable {D : List Deferred}

/-! A body with a label to which no jump goes. -/
section
variable {P : Program} {f : FuncId} {n : Nat} {R : Ending → World → Prop} {k : List Item} {σ : Env} {w : World}
theorem J.scope {c : Code} (h : J D P (.fn f) n R (.code c :: .inScope c :: k) σ w) : J D P (.fn f) n R (.code (.scope c) :: k) σ w :=
  fun a ha => jk_of fun b hb hk cs => by
    obtain ⟨e, w2, fr, hR, hc, hfn, hl⟩ := jk_to (h a ha) b hb hk cs
    exact ⟨e, w2, fr, hR, Comes.of_steps (.one step_scope) hc, hfn, hl⟩
theorem J.inScope {c : Code} (h : J D P (.fn f) n R k σ w) : J D P (.fn f) n R (.inScope c :: k) σ w :=
  fun a ha => jk_of fun b hb hk cs => by
    obtain ⟨e, w2, fr, hR, hc, hfn, hl⟩ := jk_to (h a ha) b hb hk cs
    exact ⟨e, w2, fr, hR, Comes.of_steps (.one step_inScope) hc, hfn, hl⟩
theorem J.label {l : Nat} (h : J D P (.fn f) n R k σ w) : J D P (.fn f) n R (.code (.label l) :: k) σ w :=
  fun a ha => Jk.of_steps (fun _ _ => .one stepR_label) (h a ha)
end
/-- A whole number's word cut by a mask of ones. -/
theorem and_mask {x k : Nat} (hk : k ≤ 63) (hx : x < 18446744073709551616) : IntKind.u64.wrap (((BitVec.ofInt IntKind.u64.bits (x : Int)) &&& BitVec.ofInt IntKind.u64.bits ((2 ^ k - 1 : Nat) : Int)).toNat : Int) = ((x % 2 ^ k : Nat) : Int) := by
  have hb : IntKind.u64.bits = 64 := rfl
  rw [hb, BitVec.toNat_and, BitVec.ofInt_natCast, BitVec.ofInt_natCast, BitVec.toNat_ofNat, BitVec.toNat_ofNat]
  have h2 : 2 ^ k ≤ 2 ^ 63 := Nat.pow_le_pow_right (by decide) hk
  have h3 : (2 : Nat) ^ 63 = 9223372036854775808 := by decide
  have h4 : (2 : Nat) ^ 64 = 18446744073709551616 := by decide
  rw [Nat.mod_eq_of_lt (a := x) (by omega), Nat.mod_eq_of_lt (a := 2 ^ k - 1) (by omega), Nat.and_two_pow_sub_one_eq_mod]
  have h5 : x % 2 ^ k ≤ x := Nat.mod_le _ _
  exact w_u64 rfl (by omega) (by omega)
end Go.Eng

/- General rules for stepping through a function: no program stands in them. -/
import Derived.Test.YtfpphoapknecfaaGreatDoorBesafterEng13
namespace Go.Eng
open Go
variable {D : List Deferred}

theorem cut_zero (neg : Bool) (n : Nat) : Ieee.Toward.even.cut neg n 0 = n := by
  unfold Ieee.Toward.cut
  simp [Nat.mod_one]
theorem double_fits {s : Bool} {m : Nat} {e : Int} (hm : m < 16777216) (h0 : -149 ≤ e) (h1 : e ≤ 104) : (Ieee.double.read (Ieee.double.nearest s m e)).isInfinity = false := by
  have hw : ∀ r, r < 9218868437227405312 → (Ieee.double.read (Ieee.double.word s r)).isInfinity = false := by
    intro r hr
    have hsw : Ieee.double.signWeight = 9223372036854775808 := by decide
    have hin : Ieee.double.infRung = 9218868437227405312 := by decide
    have hmod : Ieee.double.word s r % Ieee.double.signWeight = r := by
      unfold Ieee.Format.word
      rw [hsw]
      split <;> omega
    unfold Ieee.Format.read
    simp only [hmod, hin]
    split
    · rfl
    · first
      | rfl
      | (split
         · rfl
         · omega)
  unfold Ieee.Format.nearest
  split
  · exact hw 0 (by decide)
  · rename_i hm0
    have hlp : Ieee.double.leastPlace = -1074 := by decide
    have hfb : Ieee.double.fractionBits = 52 := rfl
    have hbi : Ieee.double.binade = 4503599627370496 := by decide
    have hin : Ieee.double.infRung = 9218868437227405312 := by decide
    have hlog : m.log2 < 24 := (Nat.log2_lt hm0).2 (by simpa using hm)
    have hlast : max (e + (m.log2 : Int) - (Ieee.double.fractionBits : Int)) (-1074) = e + m.log2 - 52 := by rw [hfb]; omega
    simp only [hlp, hlast, hbi, hin]
    have hd : (e + (m.log2 : Int) - 52 - e).toNat = 0 := by omega
    have hu : (e - (e + (m.log2 : Int) - 52)).toNat = 52 - m.log2 := by omega
    rw [hd, hu, cut_zero]
    have hk : m <<< (52 - m.log2) < 9007199254740992 := by
      rw [Nat.shiftLeft_eq]
      have h2 : m < 2 ^ (m.log2 + 1) := (Nat.log2_lt hm0).1 (by omega)
      have h3 : 2 ^ (m.log2 + 1) * 2 ^ (52 - m.log2) = 9007199254740992 := by
        rw [← Nat.pow_add, show m.log2 + 1 + (52 - m.log2) = 53 by omega]
      have h4 : 0 < 2 ^ (52 - m.log2) := Nat.pow_pos (by decide)
      calc m * 2 ^ (52 - m.log2) < 2 ^ (m.log2 + 1) * 2 ^ (52 - m.log2) := Nat.mul_lt_mul_of_pos_right h2 h4
        _ = _ := h3
    have ht : (e + (m.log2 : Int) - 52 - -1074).toNat ≤ 1149 := by omega
    refine hw _ (Nat.lt_of_le_of_lt (Nat.min_le_left _ _) ?_)
    generalize (e + (m.log2 : Int) - 52 - -1074).toNat = T at ht ⊢
    generalize m <<< (52 - m.log2) = K at hk ⊢
    clear hlast hd hu hw
    omega
/-- A float32 that is no NaN has one float64. -/
theorem conv32 {P : Program} {x : Nat} (hn : ¬ 2139095040 < x % 2147483648) : ∃ r, ∀ w, (Conv.floatToFloat .f32 x .f64).run P w = .ok (.float .f64 r) w := by
  have hsw : Ieee.single.signWeight = 2147483648 := by decide
  have hin : Ieee.single.infRung = 2139095040 := by decide
  have hbi : Ieee.single.binade = 8388608 := by decide
  have hlp : Ieee.single.leastPlace = -149 := by decide
  have hnum : ∀ s m e, FloatKind.f32.decode x = .number s m e → m < 16777216 ∧ -149 ≤ e ∧ e ≤ 104 := by
    intro s m e h
    change Ieee.single.read x = _ at h
    unfold Ieee.Format.read at h
    simp only [hsw, hin, hbi, hlp] at h
    split at h
    · cases h; omega
    · split at h
      · cases h; omega
      · split at h <;> cases h
  have hnan : ∀ s t, FloatKind.f32.decode x ≠ .nan s t := by
    intro s t h
    change Ieee.single.read x = _ at h
    unfold Ieee.Format.read at h
    simp only [hsw, hin, hbi, hlp] at h
    split at h
    · cases h
    · split at h
      · cases h
      · split at h
        · cases h
        · omega
  cases hd : FloatKind.f32.decode x with
  | nan s t => exact absurd hd (hnan s t)
  | infinity s => exact ⟨FloatKind.f64.encode (.infinity s), fun w => by unfold Conv.floatToFloat; simp [hd]⟩
  | number s m e =>
    obtain ⟨h1, h2, h3⟩ := hnum s m e hd
    have hf : (FloatKind.f64.decode (FloatKind.f64.encode (.number s m e))).isInfinity = false := double_fits (s := s) h1 h2 h3
    exact ⟨FloatKind.f64.encode (.number s m e), fun w => by unfold Conv.floatToFloat; simp [hd, hf]⟩
end Go.Eng

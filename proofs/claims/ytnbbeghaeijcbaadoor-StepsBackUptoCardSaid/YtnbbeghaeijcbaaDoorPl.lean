/- Plain laws: varints, programs, both ways. -/
import Derived.Test.YtnbbeghaeijcbaaDoorRf2
namespace Go.Proofs.YtnbbeghaeijcbaaDoor
open Go Go.Eng
set_option maxRecDepth 100000
set_option linter.unusedVariables false
set_option linter.unusedSimpArgs false

theorem rdu_varint : ∀ (x i acc : Nat) (l : List UInt8), i ≤ 9 → acc < 2 ^ (7 * i) → acc + x * 2 ^ (7 * i) < 18446744073709551616 → (0 < x ∨ i = 0) →
    rdu i acc (varint x ++ l) = .ok (acc + x * 2 ^ (7 * i)) (i + (varint x).length) := by
  intro x
  induction x using Nat.strongRecOn with
  | _ x ih =>
    intro i acc l hi ha hx h0
    have hp : 0 < 2 ^ (7 * i) := Nat.pow_pos (by decide)
    by_cases hs : x < 128
    · have hb : (x.toUInt8).toNat = x := by simp [Nat.toUInt8, UInt8.toNat_ofNat', Nat.mod_eq_of_lt (show x < 256 by omega)]
      rw [varint_lt hs, List.singleton_append, rdu_cons rfl, hb]
      have h9 : ¬ (i = 9 ∧ x > 1) := by
        rintro ⟨rfl, h1⟩
        have : 2 * 2 ^ (7 * 9) ≤ x * 2 ^ (7 * 9) := Nat.mul_le_mul_right _ h1
        have e : (2 : Nat) ^ (7 * 9) = 9223372036854775808 := by decide
        rw [e] at this hx; omega
      rw [if_neg h9, if_neg (by omega), if_neg (by omega)]
      simp
    · have hb : ((x % 128 + 128).toUInt8).toNat = x % 128 + 128 := by simp [Nat.toUInt8, UInt8.toNat_ofNat', Nat.mod_eq_of_lt (show x % 128 + 128 < 256 by omega)]
      rw [varint_ge (by omega), List.cons_append, rdu_cons rfl, hb]
      have h9 : i ≤ 8 := by
        rcases Nat.lt_or_ge i 9 with h | h
        · omega
        · have : i = 9 := by omega
          subst this
          have : 2 * 2 ^ (7 * 9) ≤ x * 2 ^ (7 * 9) := Nat.mul_le_mul_right _ (by omega)
          have e : (2 : Nat) ^ (7 * 9) = 9223372036854775808 := by decide
          rw [e] at this hx; omega
      have hm : (x % 128 + 128) % 128 = x % 128 := by omega
      rw [if_neg (by omega), if_pos (by omega), hm]
      obtain ⟨hpw, _, _⟩ := pow7a h9
      have hy := pow7y (y := x % 128) (i := i) h9 (by omega)
      have hsum : x % 128 * 2 ^ (7 * i) + x / 128 * 2 ^ (7 * (i + 1)) = x * 2 ^ (7 * i) := by
        rw [hpw, Nat.mul_comm (2 ^ (7 * i)) 128, ← Nat.mul_assoc, ← Nat.add_mul]; congr 1; omega
      rw [ih (x / 128) (by omega) (i + 1) _ l (by omega) (by omega) (by omega) (.inl (by omega))]
      congr 1
      · omega
      · simp only [List.length_cons]; omega
theorem u8back {b : UInt8} : b.toNat.toUInt8 = b := by simp [Nat.toUInt8]
theorem rdu_back : ∀ (l : List UInt8) (i acc y k : Nat), i ≤ 9 → rdu i acc l = .ok y k → ∃ x, y = acc + x * 2 ^ (7 * i) ∧ i ≤ k ∧ l = varint x ++ l.drop (k - i) ∧ (0 < x ∨ i = 0) := by
  intro l
  induction l with
  | nil => intro i acc y k _ h; cases h
  | cons b m ih =>
    intro i acc y k hi h
    rw [rdu_cons rfl] at h
    have hlt := b.toNat_lt
    split at h
    · cases h
    · split at h
      · rename_i h9 hb
        obtain ⟨x, hy, hk, hm, hx⟩ := ih (i + 1) _ y k (by omega) h
        have hp := (pow7a (i := i) (by omega)).1
        refine ⟨b.toNat % 128 + 128 * x, ?_, by omega, ?_, .inl (by omega)⟩
        · rw [hy, hp, Nat.add_mul, Nat.mul_comm (2 ^ (7 * i)) 128, ← Nat.mul_assoc, Nat.mul_comm x 128]; omega
        · rw [varint_ge (by omega)]
          have e1 : (b.toNat % 128 + 128 * x) % 128 + 128 = b.toNat := by omega
          have e2 : (b.toNat % 128 + 128 * x) / 128 = x := by omega
          rw [e1, e2, u8back, List.cons_append]
          have e3 : k - i = (k - (i + 1)) + 1 := by omega
          rw [e3, List.drop_succ_cons]
          congr 1
      · split at h
        · cases h
        · rename_i h9 h1 h2
          cases h
          refine ⟨b.toNat, rfl, by omega, ?_, by omega⟩
          rw [varint_lt (by omega), u8back]
          have e3 : i + 1 - i = 1 := by omega
          rw [e3]; rfl


theorem numS_varint {most x : Int} {l : List UInt8} (h0 : 0 ≤ x) (h1 : x ≤ most) (h2 : most ≤ 9223372036854775807) : numS most (varint x.toNat ++ l) = some (x, l) := by
  have h := rdu_varint x.toNat 0 0 l (by omega) (by decide) (by simp; omega) (.inr rfl)
  unfold numS
  rw [h]
  simp only [Nat.zero_add, Nat.mul_zero, Nat.pow_zero, Nat.mul_one, Rd.upto]
  rw [if_neg (by omega)]
  simp only [List.drop_left]
  congr 2; omega
theorem numS_back {most x : Int} {l m : List UInt8} (h : numS most l = some (x, m)) : l = varint x.toNat ++ m ∧ 0 ≤ x ∧ x ≤ most := by
  unfold numS at h
  rcases rd_cases (rdu 0 0 l) with ⟨y, k, hr⟩ | ⟨e, hr⟩
  · rw [hr] at h
    simp only [Rd.upto] at h
    split at h
    · rename_i x' k' hu
      split at hu
      · cases hu
      · cases hu
        cases h
        obtain ⟨z, hz, _, hl, _⟩ := rdu_back l 0 0 _ _ (by omega) hr
        simp only [Nat.zero_add, Nat.mul_zero, Nat.pow_zero, Nat.mul_one] at hz
        subst hz
        exact ⟨by simpa using hl, by omega, by omega⟩
    · cases h
  · rw [hr] at h; cases h
theorem vints_cons (x : Int) (l : List Int) : vints (x :: l) = varint x.toNat ++ vints l := rfl
theorem numsA_vints : ∀ (xs acc : List Int) (l : List UInt8), (∀ x ∈ xs, 0 ≤ x ∧ x ≤ 262144) → numsA acc xs.length (vints xs ++ l) = some (acc ++ xs, l) := by
  intro xs
  induction xs with
  | nil => intro acc l _; simp [numsA, vints]
  | cons x xs ih =>
    intro acc l h
    have hx := h x List.mem_cons_self
    rw [vints_cons, List.append_assoc, List.length_cons, numsA_some (numS_varint hx.1 hx.2 (by decide)), ih _ _ (fun y hy => h y (List.mem_cons_of_mem _ hy))]
    simp
theorem numsA_back : ∀ (n : Nat) (acc : List Int) (l : List UInt8) (ys : List Int) (m : List UInt8), numsA acc n l = some (ys, m) → ∃ xs, ys = acc ++ xs ∧ xs.length = n ∧ l = vints xs ++ m ∧ ∀ x ∈ xs, 0 ≤ x ∧ x ≤ 262144 := by
  intro n
  induction n with
  | zero => intro acc l ys m h; cases h; exact ⟨[], by simp, rfl, by simp [vints], fun x hx => by simp at hx⟩
  | succ n ih =>
    intro acc l ys m h
    rw [numsA] at h
    split at h
    · cases h
    · rename_i x l2 hn
      obtain ⟨hl, h0, h1⟩ := numS_back hn
      obtain ⟨xs, hy, hxl, hl2, hb⟩ := ih _ _ _ _ h
      refine ⟨x :: xs, by rw [hy]; simp, by simp [hxl], by rw [hl, hl2, vints_cons, List.append_assoc], fun z hz => ?_⟩
      rcases List.mem_cons.1 hz with rfl | hz
      · exact ⟨h0, h1⟩
      · exact hb z hz
theorem put_self {s : Stp} (h : formB s = true) : putAll (stp0.put 0 s.op) (fieldOffs (rowOf s.op)) ((fieldOffs (rowOf s.op)).map s.at_) = s := by
  simp only [formB, Bool.and_eq_true] at h
  obtain ⟨⟨_, ⟨⟨⟨⟨_, _⟩, hs⟩, hj⟩, hn⟩, hk⟩, _⟩ := h
  obtain ⟨op, dst, src, jump, count, n, k⟩ := s
  simp only at hs hj hn hk ⊢
  unfold fieldOffs
  cases h1 : (rowOf op).src <;> cases h2 : (rowOf op).jump <;> cases h4 : (rowOf op).k <;> by_cases h3 : 0 < (rowOf op).n <;>
    (first | rw [h1] at hs | skip) <;> (first | rw [h2] at hj | skip) <;> (first | rw [h4] at hk | skip) <;> (first | rw [decide_eq_false h3] at hn | skip) <;>
    simp only [fromB, Bool.false_eq_true, if_false, decide_eq_true_eq] at hs hj hn hk <;>
    simp [h3, putAll, Stp.put, Stp.at_, stp0, *]
theorem putAll_at_not : ∀ (os : List Nat) (xs : List Int) (s : Stp) (a : Nat), a < 7 → (∀ o ∈ os, o < 7) → a ∉ os → (putAll s os xs).at_ a = s.at_ a := by
  intro os
  induction os with
  | nil => intro xs s a _ _ _; rfl
  | cons o os ih =>
    intro xs s a ha ho hn
    cases xs with
    | nil => rfl
    | cons x xs =>
      show (putAll (s.put o x) os xs).at_ a = _
      rw [ih _ _ _ ha (fun q hq => ho q (List.mem_cons_of_mem _ hq)) (fun h => hn (List.mem_cons_of_mem _ h)), Stp.put_at (ho o List.mem_cons_self) ha, if_neg (fun h => hn (by rw [h]; exact List.mem_cons_self))]
theorem putAll_at : ∀ (os : List Nat) (xs : List Int) (s : Stp), (∀ o ∈ os, o < 7) → os.Nodup → xs.length = os.length → os.map (putAll s os xs).at_ = xs := by
  intro os
  induction os with
  | nil => intro xs s _ _ h; simp at h; rw [h]; rfl
  | cons o os ih =>
    intro xs s ho hn h
    cases xs with
    | nil => simp at h
    | cons x xs =>
      have hn2 := List.nodup_cons.1 hn
      rw [List.map_cons]
      congr 1
      · show (putAll (s.put o x) os xs).at_ o = x
        rw [putAll_at_not _ _ _ _ (ho o List.mem_cons_self) (fun q hq => ho q (List.mem_cons_of_mem _ hq)) hn2.1, Stp.put_at (ho o List.mem_cons_self) (ho o List.mem_cons_self), if_pos rfl]
      · exact ih xs (s.put o x) (fun q hq => ho q (List.mem_cons_of_mem _ hq)) hn2.2 (by simpa using h)
theorem fieldOffs_nodup (r : Row) : (fieldOffs r).Nodup := by
  unfold fieldOffs
  cases r.src <;> cases r.jump <;> cases r.k <;> by_cases h : 0 < r.n <;> simp [h]
theorem stepS_enc {s : Stp} {l : List UInt8} (h : formB s = true) : stepS (encStp s ++ l) = some (s, l) := by
  have hop := form_op h
  have h1 : numS 11 (encStp s ++ l) = some (s.op, vints ((fieldOffs (rowOf s.op)).map s.at_) ++ l) := by
    unfold encStp stpNums
    rw [vints_cons, List.append_assoc]
    exact numS_varint (by omega) hop.2 (by decide)
  have h2 := numsA_vints ((fieldOffs (rowOf s.op)).map s.at_) [] l (fun x hx => by
    obtain ⟨o, ho, rfl⟩ := List.mem_map.1 hx
    exact at_form h ho)
  rw [List.length_map, List.nil_append] at h2
  have h3 := stepS_some h1 (by omega) h2 (by rw [put_self h]; exact h)
  rw [put_self h] at h3
  exact h3
theorem stepS_back {s : Stp} {l m : List UInt8} (h : stepS l = some (s, m)) : formB s = true ∧ l = encStp s ++ m := by
  unfold stepS at h
  split at h
  · cases h
  · rename_i op l1 hn
    split at h
    · cases h
    · split at h
      · cases h
      · rename_i xs l2 hxs
        split at h
        · rename_i hf
          cases h
          obtain ⟨hl, _, _⟩ := numS_back hn
          obtain ⟨ys, hy, hyl, hl1, _⟩ := numsA_back _ _ _ _ _ hxs
          rw [List.nil_append] at hy
          subst hy
          refine ⟨hf, ?_⟩
          have hop : (putAll (stp0.put 0 op) (fieldOffs (rowOf op)) xs).op = op := by
            rw [putAll_op _ _ _ (fun o ho => (fieldOffs_lt ho).1)]; rfl
          unfold encStp stpNums
          rw [hop, putAll_at _ _ _ (fun o ho => (fieldOffs_lt ho).2) (fieldOffs_nodup _) hyl, vints_cons, List.append_assoc, ← hl1]
          exact hl
        · cases h
theorem encStps_cons (s : Stp) (l : List Stp) : encStps (s :: l) = encStp s ++ encStps l := rfl
theorem stepsA_enc : ∀ (ss acc : List Stp) (l : List UInt8), (∀ s ∈ ss, formB s = true) → stepsA acc ss.length (encStps ss ++ l) = some (acc ++ ss, l) := by
  intro ss
  induction ss with
  | nil => intro acc l _; simp [stepsA, encStps]
  | cons s ss ih =>
    intro acc l h
    rw [encStps_cons, List.append_assoc, List.length_cons, stepsA_some (stepS_enc (h s List.mem_cons_self)), ih _ _ (fun t ht => h t (List.mem_cons_of_mem _ ht))]
    simp
theorem stepsA_back : ∀ (n : Nat) (acc : List Stp) (l : List UInt8) (ys : List Stp) (m : List UInt8), stepsA acc n l = some (ys, m) → ∃ ss, ys = acc ++ ss ∧ ss.length = n ∧ l = encStps ss ++ m ∧ ∀ s ∈ ss, formB s = true := by
  intro n
  induction n with
  | zero => intro acc l ys m h; cases h; exact ⟨[], by simp, rfl, by simp [encStps], fun x hx => by simp at hx⟩
  | succ n ih =>
    intro acc l ys m h
    rw [stepsA] at h
    split at h
    · cases h
    · rename_i s l2 hn
      obtain ⟨hf, hl⟩ := stepS_back hn
      obtain ⟨ss, hy, hsl, hl2, hb⟩ := ih _ _ _ _ h
      refine ⟨s :: ss, by rw [hy]; simp, by simp [hsl], by rw [hl, hl2, encStps_cons, List.append_assoc], fun z hz => ?_⟩
      rcases List.mem_cons.1 hz with rfl | hz
      · exact hf
      · exact hb z hz
theorem decS_enc {p : Prg} {l : List UInt8} (h : encOk p = true) : decS (encV p ++ l) = some (p, l) := by
  obtain ⟨hl, hh, hf⟩ := encOk_facts h
  have h1 := numsA_vints p.heads [] (varint p.steps.length ++ (encStps p.steps ++ l)) hh
  have h2 := numS_varint (most := 65536) (x := (p.steps.length : Int)) (l := encStps p.steps ++ l) (by omega) (by omega) (by decide)
  have h3 := stepsA_enc p.steps [] l hf
  rw [List.nil_append] at h1 h3
  have e : encV p ++ l = vints p.heads ++ (varint p.steps.length ++ (encStps p.steps ++ l)) := by simp [encV, List.append_assoc]
  rw [e, decS_some h1 h2 h3]
  rfl
theorem decS_back {q : Prg} {l m : List UInt8} (h : decS l = some (q, m)) : encOk q = true ∧ l = encV q ++ m := by
  unfold decS at h
  split at h
  · cases h
  · rename_i hs l1 h1
    split at h
    · cases h
    · rename_i n l2 h2
      split at h
      · cases h
      · rename_i ss l3 h3
        cases h
        obtain ⟨xs, hx, hxl, hl1, hxb⟩ := numsA_back _ _ _ _ _ h1
        obtain ⟨hl2, hn0, hn1⟩ := numS_back h2
        obtain ⟨ys, hy, hyl, hl3, hyf⟩ := stepsA_back _ _ _ _ _ h3
        rw [List.nil_append] at hx hy
        subst hx hy
        have hheads : (hdP hs ss).heads = hs := by
          match hs, hxl with
          | [a, b, c, d], _ => rfl
        have hst : (hdP hs ss).steps = ss := rfl
        constructor
        · refine encOk_yes (by rw [hst]; omega) (fun i hi => decide_eq_true ?_) (by rw [hst]; exact hyf)
          have := hxb ((hdP hs ss).hd i) (by rw [← hheads]; exact List.mem_of_getElem? (heads_get hi))
          exact this
        · unfold encV
          rw [hheads, hst, hyl, hl1, hl2, hl3]
          simp [List.append_assoc]
theorem progS_enc {p : Prg} (h : encOk p = true) : progS (encV p) = some p := by
  have := decS_enc (l := []) h
  rw [List.append_nil] at this
  simp [progS, this]
theorem progS_back {q : Prg} {l : List UInt8} (h : progS l = some q) : encOk q = true ∧ encV q = l := by
  unfold progS at h
  split at h
  · rename_i q' hd
    cases h
    obtain ⟨h1, h2⟩ := decS_back hd
    exact ⟨h1, by rw [h2]; simp⟩
  · cases h
theorem progS_more {p : Prg} {m : List UInt8} (h : encOk p = true) (hm : m ≠ []) : progS (encV p ++ m) = none := by
  have := decS_enc (l := m) h
  cases m with
  | nil => exact absurd rfl hm
  | cons b m => simp [progS, this]
theorem progS_cut {p : Prg} {k : Nat} (h : encOk p = true) (hk : k < (encV p).length) : progS ((encV p).take k) = none := by
  cases hq : progS ((encV p).take k) with
  | none => rfl
  | some q =>
    obtain ⟨h1, h2⟩ := progS_back hq
    have h3 := decS_enc (l := (encV p).drop k) h1
    rw [h2, List.take_append_drop] at h3
    have h4 := decS_enc (l := []) h
    rw [List.append_nil, h3] at h4
    have h5 := congrArg (fun o : Option (Prg × List UInt8) => o.map (fun r => r.2.length)) h4
    simp at h5
    omega

end Go.Proofs.YtnbbeghaeijcbaaDoor

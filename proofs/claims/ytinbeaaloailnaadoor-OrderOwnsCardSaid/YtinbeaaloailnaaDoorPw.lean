/- There and back: plain. -/
import Derived.Test.YtinbeaaloailnaaDoorPl
namespace Go.Proofs.YtinbeaaloailnaaDoor
open Go Go.Eng
set_option maxRecDepth 100000
set_option linter.unusedVariables false
set_option linter.unusedSimpArgs false
theorem dig_n (v : Nat) : (UInt8.ofNat (48 + v % 10)).toNat = 48 + v % 10 := by rw [UInt8.toNat_ofNat']; omega
theorem dec_unfold (m : Nat) : Lib.decDigits m = if m < 10 then [UInt8.ofNat (48 + m)] else Lib.decDigits (m / 10) ++ [UInt8.ofNat (48 + m % 10)] := by
  rw [Lib.decDigits]; split <;> rfl


/-! Numerals. -/
@[irreducible] def dgv (c : UInt8) : Nat := c.toNat - 48
theorem dgv_eq (c : UInt8) : dgv c = c.toNat - 48 := by unfold dgv; rfl
def dval (acc : Nat) : List UInt8 → Nat
  | [] => acc
  | c :: r => dval (acc * 10 + dgv c) r
theorem dval_cons (acc : Nat) (c : UInt8) (r : List UInt8) : dval acc (c :: r) = dval (acc * 10 + dgv c) r := rfl
theorem dval_one (acc : Nat) (c : UInt8) : dval acc [c] = acc * 10 + dgv c := rfl
theorem dval_app : ∀ (a b : List UInt8) (acc : Nat), dval acc (a ++ b) = dval (dval acc a) b
  | [], _, _ => rfl
  | _ :: a, b, acc => dval_app a b _
theorem dval_dec (u : Nat) : dval 0 (Lib.decDigits u) = u := by
  induction u using Nat.strongRecOn with
  | _ u ih =>
    rw [dec_unfold]
    split
    · rename_i h
      rw [dval_one, show 48 + u = 48 + u % 10 by omega, dgv_eq, dig_n]
      omega
    · rw [dval_app, ih (u / 10) (by omega), dval_one, dgv_eq, dig_n]
      omega
theorem dec_digit (u : Nat) : ∀ c ∈ Lib.decDigits u, 48 ≤ c.toNat ∧ c.toNat ≤ 57 := by
  induction u using Nat.strongRecOn with
  | _ u ih =>
    intro c hc
    rw [dec_unfold] at hc
    split at hc
    · simp only [List.mem_singleton] at hc
      subst hc
      rename_i h
      rw [show 48 + u = 48 + u % 10 by omega, dig_n]
      omega
    · rcases List.mem_append.1 hc with h | h
      · exact ih (u / 10) (by omega) c h
      · simp only [List.mem_singleton] at h
        subst h
        rw [dig_n]
        omega
theorem dec_ne (u : Nat) : Lib.decDigits u ≠ [] := by
  rw [dec_unfold]; split <;> simp
theorem dec_head {u : Nat} {c : UInt8} {r : List UInt8} (h : Lib.decDigits u = c :: r) : 48 ≤ c.toNat ∧ c.toNat ≤ 57 := dec_digit u c (by rw [h]; exact List.mem_cons_self)
theorem itoa_neg' {n : Int} (h : n < 0) : Lib.itoa n = 45 :: Lib.decDigits n.natAbs := by unfold Lib.itoa; rw [if_pos h]
theorem itoa_pos' {n : Int} (h : ¬ n < 0) : Lib.itoa n = Lib.decDigits n.toNat := by unfold Lib.itoa; rw [if_neg h]
theorem itoa_inj {m n : Int} (h : Lib.itoa m = Lib.itoa n) : m = n := by
  by_cases hm : m < 0
  · by_cases hn : n < 0
    · rw [itoa_neg' hm, itoa_neg' hn] at h
      have h2 := congrArg (dval 0) (List.cons.inj h).2
      rw [dval_dec, dval_dec] at h2
      omega
    · rw [itoa_neg' hm, itoa_pos' hn] at h
      have := dec_head h.symm
      exact absurd this.1 (by decide)
  · by_cases hn : n < 0
    · rw [itoa_pos' hm, itoa_neg' hn] at h
      have := dec_head h
      exact absurd this.1 (by decide)
    · rw [itoa_pos' hm, itoa_pos' hn] at h
      have h2 := congrArg (dval 0) h
      rw [dval_dec, dval_dec] at h2
      omega


theorem dec_first (u : Nat) : ∀ {c : UInt8} {r : List UInt8}, 1 ≤ u → Lib.decDigits u = c :: r → c.toNat ≠ 48 := by
  induction u using Nat.strongRecOn with
  | _ u ih =>
    intro c r h1 h
    rw [dec_unfold] at h
    split at h
    · rename_i hu
      cases h
      rw [show 48 + u = 48 + u % 10 by omega, dig_n]; omega
    · obtain ⟨c', r', e⟩ := List.exists_cons_of_ne_nil (dec_ne (u / 10))
      rw [e] at h
      injection h with h2 _
      subst h2
      exact ih (u / 10) (by omega) (by omega) e
theorem dec_short : ∀ (k u : Nat), u < 10 ^ (k + 1) → (Lib.decDigits u).length ≤ k + 1
  | 0, u, h => by
    rw [dec_unfold, if_pos (by simpa using h)]; simp
  | k + 1, u, h => by
    rw [dec_unfold]
    split
    · simp
    · have := dec_short k (u / 10) (by rw [Nat.pow_succ] at h; omega)
      rw [List.length_append]
      simp only [List.length_cons, List.length_nil]
      omega
def DG (c : UInt8) : Prop := 48 ≤ c.toNat ∧ c.toNat ≤ 57
theorem dec_dval : ∀ (m : Nat) (l : List UInt8), l.length ≤ m → l ≠ [] → (∀ c ∈ l, DG c) → (∀ c r, l = c :: r → c.toNat ≠ 48) → Lib.decDigits (dval 0 l) = l ∧ 1 ≤ dval 0 l
  | 0, l, h, h0, _, _ => by
    exact absurd (List.eq_nil_of_length_eq_zero (by omega)) h0
  | m + 1, l, hm, h0, hd, h1 => by
    rcases List.eq_nil_or_concat l with e | ⟨l', c, e⟩
    · exact absurd e h0
    · rw [List.concat_eq_append] at e
      subst e
      have hc := hd c (by simp)
      have hcd := dgv_eq c
      unfold DG at hc
      have hcu : UInt8.ofNat (48 + dgv c) = c := UInt8.toNat_inj.1 (by rw [UInt8.toNat_ofNat', hcd]; omega)
      rw [dval_app, dval_one]
      by_cases hl : l' = []
      · subst hl
        have h48 := h1 c [] rfl
        rw [show dval 0 [] = 0 from rfl, Nat.zero_mul, Nat.zero_add, dec_unfold, if_pos (by omega), hcu]
        exact ⟨rfl, by omega⟩
      · obtain ⟨e1, e2⟩ := dec_dval m l' (by simp at hm; omega) hl (fun x hx => hd x (List.mem_append_left _ hx)) (fun x r hx => h1 x (r ++ [c]) (by rw [hx]; rfl))
        rw [dec_unfold, if_neg (by omega), show (dval 0 l' * 10 + dgv c) / 10 = dval 0 l' by omega, show 48 + (dval 0 l' * 10 + dgv c) % 10 = 48 + dgv c by omega, hcu, e1]
        exact ⟨rfl, by omega⟩
def headND (r : List UInt8) : Prop := ∀ c r', r = c :: r' → ¬ DG c
theorem digs_there : ∀ (l : List UInt8) (k acc : Nat) (r : List UInt8), (∀ c ∈ l, DG c) → l.length ≤ k → (k = 6 → ∀ c r', l = c :: r' → c.toNat ≠ 48) → (headND r ∨ l.length = k) → k ≤ 6 → digs k acc (l ++ r) = (dval acc l, r)
  | [], k, acc, r, _, _, _, hr, _ => by
    cases k with
    | zero => rw [List.nil_append, digs]; rfl
    | succ k =>
      cases r with
      | nil => rw [List.nil_append, digs]; rfl
      | cons c r =>
        rw [List.nil_append, digs, if_neg]
        · rfl
        · rcases hr with h | h
          · exact fun e => h c r rfl e.1
          · simp at h
  | c :: l, k, acc, r, hd, hl, h6, hr, hk6 => by
    cases k with
    | zero => simp at hl
    | succ k =>
      have hc := hd c List.mem_cons_self
      rw [List.cons_append, digs, if_pos ⟨hc, fun e => h6 (by omega) c l rfl e.2⟩, digs_there l k _ r (fun x hx => hd x (List.mem_cons_of_mem _ hx)) (by simpa using hl) (fun e => absurd e (by omega)) (by simpa using hr) (by omega), dval_cons, dgv_eq]
      congr 2
      omega
theorem num_there {n : Nat} {r : List UInt8} (h1 : 1 ≤ n) (h2 : n ≤ 999999) (hr : headND r) : numP (Lib.decDigits n ++ r) = (some n, r) := by
  have hs := dec_short 5 n (by omega)
  have e := digs_there (Lib.decDigits n) 6 0 r (dec_digit n) hs (fun _ c r' h => dec_first n h1 h) (.inl hr) (Nat.le_refl _)
  rw [dval_dec] at e
  unfold numP
  rw [e]
  exact if_neg (by simp only; omega)
theorem digs_back : ∀ (k acc : Nat) (s : List UInt8) (v : Nat) (r : List UInt8), digs k acc s = (v, r) → ∃ l, s = l ++ r ∧ v = dval acc l ∧ (∀ c ∈ l, DG c) ∧ l.length ≤ k ∧ (k = 6 → ∀ c r', l = c :: r' → c.toNat ≠ 48)
  | 0, acc, s, v, r, h => by
    rw [digs] at h; cases h
    exact ⟨[], rfl, rfl, fun c hc => by simp at hc, by simp, fun e => by omega⟩
  | k + 1, acc, [], v, r, h => by
    rw [digs] at h; cases h
    exact ⟨[], rfl, rfl, fun c hc => by simp at hc, by simp, fun _ c r' e => by cases e⟩
  | k + 1, acc, c :: s, v, r, h => by
    rw [digs] at h
    split at h
    · rename_i hc
      obtain ⟨l, h1, h2, h3, h4, _⟩ := digs_back k _ s v r h
      refine ⟨c :: l, by rw [h1]; rfl, by rw [dval_cons, dgv_eq, h2]; congr 1; omega, fun x hx => ?_, by simpa using h4, fun e x r' hx => ?_⟩
      · rcases List.mem_cons.1 hx with e | e
        · rw [e]; exact hc.1
        · exact h3 x e
      · cases hx
        exact fun e48 => hc.2 ⟨by omega, e48⟩
    · cases h
      exact ⟨[], rfl, rfl, fun c hc => by simp at hc, by simp, fun _ c r' e => by cases e⟩
theorem dval_bound : ∀ (l : List UInt8) (acc k : Nat), (∀ c ∈ l, DG c) → l.length ≤ k → dval acc l + 1 ≤ (acc + 1) * 10 ^ k
  | [], acc, k, _, _ => by
    have : 1 ≤ 10 ^ k := Nat.pos_of_ne_zero (by simp)
    exact Nat.le_mul_of_pos_right _ this
  | c :: l, acc, k, hd, hl => by
    cases k with
    | zero => simp at hl
    | succ k =>
      have hc := hd c List.mem_cons_self
      unfold DG at hc
      have ih := dval_bound l (acc * 10 + dgv c) k (fun x hx => hd x (List.mem_cons_of_mem _ hx)) (by simpa using hl)
      rw [dval_cons]
      refine Nat.le_trans ih ?_
      rw [Nat.pow_succ, Nat.mul_comm (10 ^ k) 10, ← Nat.mul_assoc]
      exact Nat.mul_le_mul_right _ (by rw [dgv_eq]; omega)
theorem num_back {s r : List UInt8} {n : Nat} (h : numP s = (some n, r)) : s = Lib.decDigits n ++ r ∧ 1 ≤ n ∧ n ≤ 999999 := by
  unfold numP at h
  split at h
  · cases h
  · rename_i h0
    cases hd : digs 6 0 s with
    | mk v r' =>
      rw [hd] at h h0
      injection h with h1 h2
      injection h1 with h1
      simp only at h1 h2 h0
      subst h1 h2
      obtain ⟨l, e1, e2, e3, e4, e5⟩ := digs_back 6 0 s v r' hd
      have hl : l ≠ [] := fun e => by rw [e] at e2; exact h0 e2
      have hb := dval_bound l 0 6 e3 e4
      have hdd := dec_dval _ l (Nat.le_refl _) hl e3 (e5 rfl)
      rw [e2]
      exact ⟨by rw [hdd.1]; exact e1, hdd.2, by simp at hb; omega⟩
theorem itoa_nat (n : Nat) : Lib.itoa (n : Int) = Lib.decDigits n := Lib.itoa_nonneg n
theorem itoa_pos {n : Int} (h : 0 ≤ n) : Lib.itoa n = Lib.decDigits n.toNat := by
  have := itoa_nat n.toNat
  rwa [show ((n.toNat : Nat) : Int) = n by omega] at this
theorem take_there : ∀ (t r : List UInt8), takeP t (t ++ r) = (some (), r)
  | [], r => by rw [List.nil_append, takeP]
  | c :: t, r => by rw [List.cons_append, takeP, if_pos rfl, take_there t r]
theorem take_back : ∀ (t s r : List UInt8) (u : Unit), takeP t s = (some u, r) → s = t ++ r
  | [], s, r, _, h => by rw [takeP] at h; cases h; rfl
  | c :: t, [], r, _, h => by rw [takeP] at h; cases h
  | c :: t, x :: s, r, u, h => by
    rw [takeP] at h
    split at h
    · rename_i hx
      rw [hx, take_back t s r u h]; rfl
    · cases h
theorem nd_of {c : UInt8} {r : List UInt8} (h : ¬ DG c) : headND (c :: r) := fun c' r' e => by cases e; exact h
theorem read_there : ∀ (m : Nat) (t : Tr) (r : List UInt8), len t ≠ 0 → headND r → (textT t ++ r).length < m → pO m (textT t ++ r) = (some t, r)
  | 0, _, _, _, _, h => absurd h (Nat.not_lt_zero _)
  | m + 1, t, r, hl, hr, hm => by
    obtain ⟨k, n, ks⟩ := t
    rcases good_form hl with ⟨rfl, rfl, h1, h2⟩ | ⟨rfl, rfl, h1, h2⟩ | ⟨rfl, rfl, a, b, rfl, ha, hb⟩ | ⟨rfl, h1, h2, a, rfl, ha⟩
    · rw [text_d, itoa_pos (by omega), List.cons_append, pO, if_pos (show UInt8.toNat 100 = 100 from rfl), num_there (by omega) (by omega) hr]
      show (some (Tr.node 1 ((n.toNat : Nat) : Int) []), r) = _
      rw [show ((n.toNat : Nat) : Int) = n by omega]
    · rw [text_f, itoa_pos (by omega), List.cons_append, pO, if_neg (by decide), if_pos (show UInt8.toNat 102 = 102 from rfl), num_there (by omega) (by omega) hr]
      show (some (Tr.node 2 ((n.toNat : Nat) : Int) []), r) = _
      rw [show ((n.toNat : Nat) : Int) = n by omega]
    · rw [text_x] at hm ⊢
      simp only [List.cons_append, List.append_assoc, List.length_cons, List.length_append, List.length_nil] at hm
      rw [List.cons_append, pO, if_neg (by decide), if_neg (by decide), if_neg (by decide), if_pos (show UInt8.toNat 40 = 40 from rfl)]
      simp only [List.append_assoc, List.cons_append, List.nil_append]
      rw [read_there m a _ ha (nd_of (by unfold DG; decide)) (by simp only [List.length_append, List.length_cons, List.length_nil]; omega)]
      simp only [bindP]
      rw [show (32 : UInt8) :: 120 :: 32 :: (textT b ++ 41 :: r) = [32, 120, 32] ++ (textT b ++ 41 :: r) from rfl, take_there [32, 120, 32]]
      simp only
      rw [read_there m b _ hb (nd_of (by unfold DG; decide)) (by simp only [List.length_append, List.length_cons, List.length_nil]; omega)]
      simp only
      rw [show (41 : UInt8) :: r = [41] ++ r from rfl, take_there [41]]
    · rw [text_b4, itoa_pos (by omega)] at hm ⊢
      simp only [List.cons_append, List.append_assoc, List.length_cons, List.length_append, List.length_nil] at hm
      rw [List.cons_append, pO, if_neg (by decide), if_neg (by decide), if_pos (show UInt8.toNat 98 = 98 from rfl)]
      simp only [List.append_assoc, List.cons_append, List.nil_append]
      rw [num_there (by omega) (by omega) (nd_of (by unfold DG; decide))]
      simp only [bindP]
      rw [show (40 : UInt8) :: (textT a ++ 41 :: r) = [40] ++ (textT a ++ 41 :: r) from rfl, take_there [40]]
      simp only
      rw [read_there m a _ ha (nd_of (by unfold DG; decide)) (by simp only [List.length_append, List.length_cons]; omega)]
      simp only
      rw [show (41 : UInt8) :: r = [41] ++ r from rfl, take_there [41]]
      simp only
      rw [show ((n.toNat : Nat) : Int) = n by omega]
theorem leaf_back {k : Int} {c : UInt8} {s : List UInt8} {t : Tr} {r : List UInt8} (h : (bindP (numP s) fun n r => ((some (.node k (n : Nat) []) : Option Tr), r)) = (some t, r)) (hk : ∀ n : Int, textT (.node k n []) = c :: Lib.itoa n) : c :: s = textT t ++ r := by
  cases hn : numP s with
  | mk o r1 =>
    rw [hn] at h
    cases o with
    | none => cases h
    | some n =>
      cases h
      rw [hk, itoa_nat, (num_back hn).1]
      rfl
theorem read_back : ∀ (m : Nat) (s : List UInt8) (t : Tr) (r : List UInt8), pO m s = (some t, r) → s = textT t ++ r
  | 0, s, t, r, h => by rw [pO] at h; cases h
  | _ + 1, [], t, r, h => by rw [pO] at h; cases h
  | m + 1, c :: s, t, r, h => by
    rw [pO] at h
    split at h
    · rename_i hc
      have e : c = 100 := UInt8.toNat_inj.1 (by rw [hc]; rfl)
      subst e
      exact leaf_back h (fun n => text_d)
    · split at h
      · rename_i hc
        have e : c = 102 := UInt8.toNat_inj.1 (by rw [hc]; rfl)
        subst e
        exact leaf_back h (fun n => text_f)
      · split at h
        · rename_i hc
          have e : c = 98 := UInt8.toNat_inj.1 (by rw [hc]; rfl)
          subst e
          cases hn : numP s with
          | mk o r1 =>
            rw [hn] at h
            cases o with
            | none => cases h
            | some n =>
              simp only [bindP] at h
              cases h2 : takeP [40] r1 with
              | mk o r2 =>
                rw [h2] at h
                cases o with
                | none => cases h
                | some _ =>
                  simp only at h
                  cases h3 : pO m r2 with
                  | mk o r3 =>
                    rw [h3] at h
                    cases o with
                    | none => cases h
                    | some a =>
                      simp only at h
                      cases h5 : takeP [41] r3 with
                      | mk o r4 =>
                        rw [h5] at h
                        cases o with
                        | none => cases h
                        | some _ =>
                          cases h
                          rw [text_b4, itoa_nat, (num_back hn).1, take_back _ _ _ _ h2, read_back m r2 a r3 h3, take_back _ _ _ _ h5]
                          simp
        · split at h
          · rename_i hc
            have e : c = 40 := UInt8.toNat_inj.1 (by rw [hc]; rfl)
            subst e
            cases h0 : pO m s with
            | mk o r1 =>
              rw [h0] at h
              cases o with
              | none => cases h
              | some a =>
                simp only [bindP] at h
                cases h2 : takeP [32, 120, 32] r1 with
                | mk o r2 =>
                  rw [h2] at h
                  cases o with
                  | none => cases h
                  | some _ =>
                    simp only at h
                    cases h3 : pO m r2 with
                    | mk o r3 =>
                      rw [h3] at h
                      cases o with
                      | none => cases h
                      | some b =>
                        simp only at h
                        cases h5 : takeP [41] r3 with
                        | mk o r4 =>
                          rw [h5] at h
                          cases o with
                          | none => cases h
                          | some _ =>
                            cases h
                            rw [text_x, read_back m s a r1 h0, take_back _ _ _ _ h2, read_back m r2 b r3 h3, take_back _ _ _ _ h5]
                            simp
          · cases h
theorem text_short : ∀ (m : Nat) (t : Tr), t.parts ≤ m → len t ≠ 0 → (textT t).length ≤ 7 * t.parts
  | 0, t, h, _ => by have := parts_pos t; omega
  | m + 1, t, h, hl => by
    obtain ⟨k, n, ks⟩ := t
    rcases good_form hl with ⟨rfl, rfl, h1, h2⟩ | ⟨rfl, rfl, h1, h2⟩ | ⟨rfl, rfl, a, b, rfl, ha, hb⟩ | ⟨rfl, h1, h2, a, rfl, ha⟩
    · have := dec_short 1 n.toNat (by omega)
      rw [text_d, Tr.parts, partsL, List.length_cons, itoa_pos (by omega)]; omega
    · have := dec_short 1 n.toNat (by omega)
      rw [text_f, Tr.parts, partsL, List.length_cons, itoa_pos (by omega)]; omega
    · rw [Tr.parts, partsL, partsL, partsL] at h ⊢
      have e1 := text_short m a (by omega) ha
      have e2 := text_short m b (by omega) hb
      rw [text_x]
      simp only [List.length_cons, List.length_append, List.length_nil]
      omega
    · rw [Tr.parts, partsL, partsL] at h ⊢
      have e1 := text_short m a (by omega) ha
      have := dec_short 3 n.toNat (by omega)
      rw [text_b4, itoa_pos (by omega)]
      simp only [List.length_cons, List.length_append, List.length_nil]
      omega
theorem parse_there {t : Tr} (h : lenO t ≠ 0) : parseS (textT t) = .ok t := by
  obtain ⟨h1, h2, _, _⟩ := lenO_good h
  have hs := text_short _ t (Nat.le_refl _) h1
  have hr := read_there ((textT t).length + 1) t [] h1 (fun c r' e => by cases e) (by simp)
  rw [List.append_nil] at hr
  unfold parseS
  rw [if_neg (by omega), hr]
  show (if ([] : List UInt8) = [] then (if lenO t = 0 then PRes.err 0 8 else .ok t) else _) = _
  rw [if_pos rfl, if_neg h]
theorem parse_back {s : List UInt8} {t : Tr} (h : parseS s = .ok t) : lenO t ≠ 0 ∧ textT t = s ∧ t.parts ≤ 65536 := by
  unfold parseS at h
  split at h
  · cases h
  · cases hp : pO (s.length + 1) s with
    | mk o r =>
      rw [hp] at h
      cases o with
      | none => cases h
      | some u =>
        simp only at h
        split at h
        · rename_i hr
          split at h
          · cases h
          · rename_i h0
            cases h
            have hb := read_back _ _ _ _ hp
            have hq := pO_parts _ _ _ _ hp
            rw [hr, List.append_nil] at hb
            exact ⟨h0, hb.symm, by omega⟩
        · cases h
theorem text_inj {a b : Tr} (ha : lenO a ≠ 0) (hb : lenO b ≠ 0) (h : textT a = textT b) : a = b := by
  have e1 := parse_there ha
  have e2 := parse_there hb
  rw [h, e2] at e1
  cases e1
  rfl

end Go.Proofs.YtinbeaaloailnaaDoor

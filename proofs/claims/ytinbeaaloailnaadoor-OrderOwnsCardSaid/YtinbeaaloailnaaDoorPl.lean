/- Beginnings of a text: plain. -/
import Derived.Test.YtinbeaaloailnaaDoorOt
namespace Go.Proofs.YtinbeaaloailnaaDoor
open Go Go.Eng
set_option maxRecDepth 100000
set_option linter.unusedVariables false
set_option linter.unusedSimpArgs false
theorem cl14 : callable Tryd.prog 14 = true := by kernel_rfl
theorem cl9 : callable Tryd.prog 9 = true := by kernel_rfl
theorem ud4 : Tryd.prog.underlying 4 = some .bool := by kernel_rfl

/-! Beginnings. -/
structure Pre {α : Type} (p : List UInt8 → Option α × List UInt8) : Prop where
  suf : ∀ s, (p s).2 <:+ s
  big : ∀ s i, i ≤ s.length → s.length - (p s).2.length ≤ i → p (s.take i) = ((p s).1, (p s).2.take (i - (s.length - (p s).2.length)))
  small : ∀ s i, i < s.length - (p s).2.length → (p (s.take i)).2 = []
theorem Pre.ret {α : Type} (x : Option α) : Pre (fun s : List UInt8 => (x, s)) :=
  ⟨fun s => List.suffix_refl s, fun s i _ _ => by simp, fun s i h => by simp at h⟩
theorem Pre.bind {α β : Type} {p : List UInt8 → Option α × List UInt8} {f : α → List UInt8 → Option β × List UInt8} (hp : Pre p) (hf : ∀ a, Pre (f a)) : Pre (fun s => bindP (p s) f) := by
  refine ⟨fun s => bind_suf (hp.suf s) (fun a r h => ((hf a).suf r).trans h), fun s i hi hc => ?_, fun s i hc => ?_⟩
  · have hs := (hp.suf s).length_le
    have hb := hp.big s i hi
    cases h : p s with
    | mk o r =>
      rw [h] at hs hb hc
      cases o with
      | none =>
        simp only [bindP] at hc ⊢
        rw [hb hc]
      | some a =>
        simp only [bindP] at hc hs hb ⊢
        have hs2 := ((hf a).suf r).length_le
        rw [hb (by omega)]
        simp only
        have h2 := (hf a).big r (i - (s.length - r.length)) (by omega) (by omega)
        rw [h2]
        congr 2
        omega
  · have hs := (hp.suf s).length_le
    have hb := hp.big s i
    have hm := hp.small s i
    cases h : p s with
    | mk o r =>
      rw [h] at hs hb hm hc
      have low : i < s.length - r.length → (bindP (p (s.take i)) f).2 = [] := fun hlt => by
        have h0 := hm hlt
        cases hq : p (s.take i) with
        | mk o' r' =>
          rw [hq] at h0
          simp only at h0
          subst h0
          cases o' with
          | none => rfl
          | some a' => exact List.suffix_nil.1 ((hf a').suf [])
      cases o with
      | none => exact low hc
      | some a =>
        simp only [bindP] at hc hs hb
        have hs2 := ((hf a).suf r).length_le
        by_cases hlt : i < s.length - r.length
        · exact low hlt
        · show (bindP (p (s.take i)) f).2 = []
          rw [hb (by omega) (by omega)]
          simp only [bindP]
          exact (hf a).small r _ (by omega)
theorem Pre.cons {α : Type} {p : List UInt8 → Option α × List UInt8} {f : UInt8 → List UInt8 → Option α × List UInt8} (h0 : p [] = (none, [])) (hc : ∀ c s, p (c :: s) = f c s) (hf : ∀ c, Pre (f c) ∨ ∀ s, f c s = (none, c :: s)) : Pre p := by
  refine ⟨fun s => ?_, fun s i hi hlt => ?_, fun s i hlt => ?_⟩
  · cases s with
    | nil => rw [h0]; exact List.suffix_refl _
    | cons c s =>
      rw [hc]
      rcases hf c with h | h
      · exact (h.suf s).trans (List.suffix_cons c s)
      · rw [h]; exact List.suffix_refl _
  · cases s with
    | nil => simp [h0]
    | cons c s =>
      rw [hc] at hlt ⊢
      rcases hf c with h | h
      · have hl := (h.suf s).length_le
        simp only [List.length_cons] at hi hlt ⊢
        obtain ⟨j, rfl⟩ : ∃ j, i = j + 1 := ⟨i - 1, by omega⟩
        rw [List.take_succ_cons, hc, h.big s j (by omega) (by omega)]
        congr 2
        omega
      · rw [h]
        cases i with
        | zero => simp [h0]
        | succ j => rw [List.take_succ_cons, hc, h]; simp
  · cases s with
    | nil => simp [h0]
    | cons c s =>
      rw [hc] at hlt
      rcases hf c with h | h
      · have hl := (h.suf s).length_le
        simp only [List.length_cons] at hlt
        cases i with
        | zero => simp [h0]
        | succ j =>
          rw [List.take_succ_cons, hc]
          exact h.small s j (by omega)
      · rw [h] at hlt
        simp at hlt
theorem pre_take : ∀ t : List UInt8, Pre (takeP t)
  | [] => by
    have e : takeP [] = fun s => (some (), s) := by funext s; rw [takeP]
    rw [e]; exact Pre.ret _
  | c :: cs => Pre.cons (f := fun x s => if x = c then takeP cs s else (none, x :: s)) (by rw [takeP]) (fun x s => by rw [takeP]) (fun x => by
    by_cases h : x = c
    · simp only [if_pos h]; exact .inl (pre_take cs)
    · exact .inr (fun s => by simp only [if_neg h]))
def digsP (k n : Nat) (s : List UInt8) : Option Nat × List UInt8 := (some (digs k n s).1, (digs k n s).2)
theorem pre_digs : ∀ k n : Nat, Pre (digsP k n)
  | 0, n => by
    have e : digsP 0 n = fun s => (some n, s) := by funext s; unfold digsP; rw [digs]
    rw [e]; exact Pre.ret _
  | k + 1, n => by
    have step : ∀ c s, digsP (k + 1) n (c :: s) = if (48 ≤ c.toNat ∧ c.toNat ≤ 57) ∧ ¬ (k = 5 ∧ c.toNat = 48) then digsP k (10 * n + (c.toNat - 48)) s else (some n, c :: s) := fun c s => by
      unfold digsP; rw [digs]; split <;> rfl
    have h0 : digsP (k + 1) n [] = (some n, []) := by unfold digsP; rw [digs]
    refine ⟨fun s => digs_suf (k + 1) n s, fun s i hi hlt => ?_, fun s i hlt => ?_⟩
    · cases s with
      | nil => simp [h0]
      | cons c s =>
        rw [step] at hlt ⊢
        split at hlt
        · rename_i hc
          rw [if_pos hc]
          have ih := pre_digs k (10 * n + (c.toNat - 48))
          have hl := (ih.suf s).length_le
          simp only [List.length_cons] at hi hlt ⊢
          obtain ⟨j, rfl⟩ : ∃ j, i = j + 1 := ⟨i - 1, by omega⟩
          rw [List.take_succ_cons, step, if_pos hc, ih.big s j (by omega) (by omega)]
          congr 2
          omega
        · rename_i hc
          rw [if_neg hc]
          cases i with
          | zero => simp [h0]
          | succ j => rw [List.take_succ_cons, step, if_neg hc]; simp
    · cases s with
      | nil => simp [h0]
      | cons c s =>
        rw [step] at hlt
        split at hlt
        · rename_i hc
          have ih := pre_digs k (10 * n + (c.toNat - 48))
          have hl := (ih.suf s).length_le
          simp only [List.length_cons] at hlt
          cases i with
          | zero => simp [h0]
          | succ j =>
            rw [List.take_succ_cons, step, if_pos hc]
            exact ih.small s j (by omega)
        · simp at hlt
theorem pre_num : Pre numP := by
  have e : numP = fun s => bindP (digsP 6 0 s) fun n r => (if n = 0 then none else some n, r) := by
    funext s
    unfold numP digsP bindP
    simp only
    split <;> rfl
  rw [e]
  exact (pre_digs 6 0).bind fun n => Pre.ret _
theorem pre_pO : ∀ m, Pre (pO m)
  | 0 => by
    have e : pO 0 = fun s => (none, s) := by funext s; rw [pO]
    rw [e]; exact Pre.ret _
  | m + 1 => Pre.cons (f := fun c s =>
      if c.toNat = 100 then bindP (numP s) fun n r => (some (.node 1 (n : Nat) []), r)
      else if c.toNat = 102 then bindP (numP s) fun n r => (some (.node 2 (n : Nat) []), r)
      else if c.toNat = 98 then bindP (numP s) fun n r => bindP (takeP [40] r) fun _ r => bindP (pO m r) fun t r => bindP (takeP [41] r) fun _ r => (some (.node 4 (n : Nat) [t]), r)
      else if c.toNat = 40 then bindP (pO m s) fun a r => bindP (takeP [32, 120, 32] r) fun _ r => bindP (pO m r) fun b r => bindP (takeP [41] r) fun _ r => (some (.node 3 0 [a, b]), r)
      else (none, c :: s)) (by rw [pO]) (fun c s => by rw [pO]) (fun c => by
    by_cases h1 : c.toNat = 100
    · simp only [if_pos h1]; exact .inl (pre_num.bind fun n => Pre.ret _)
    · by_cases h2 : c.toNat = 102
      · simp only [if_neg h1, if_pos h2]; exact .inl (pre_num.bind fun n => Pre.ret _)
      · by_cases h3 : c.toNat = 98
        · simp only [if_neg h1, if_neg h2, if_pos h3]
          exact .inl (pre_num.bind fun n => (pre_take _).bind fun _ => (pre_pO m).bind fun t => (pre_take _).bind fun _ => Pre.ret _)
        · by_cases h4 : c.toNat = 40
          · simp only [if_neg h1, if_neg h2, if_neg h3, if_pos h4]
            exact .inl ((pre_pO m).bind fun a => (pre_take _).bind fun _ => (pre_pO m).bind fun b => (pre_take _).bind fun _ => Pre.ret _)
          · exact .inr (fun s => by simp only [if_neg h1, if_neg h2, if_neg h3, if_neg h4]))
/-! How much is allowed matters not, where it is enough. -/
theorem bind_congr {α β : Type} {p q : Option α × List UInt8} {f g : α → List UInt8 → Option β × List UInt8} (h : p = q) (hf : ∀ a, q.1 = some a → f a q.2 = g a q.2) : bindP p f = bindP q g := by
  subst h
  obtain ⟨o, r⟩ := p
  cases o with
  | none => rfl
  | some a => exact hf a rfl
theorem pO_fuel : ∀ (m : Nat) (s : List UInt8), s.length < m → pO (m + 1) s = pO m s
  | 0, s, h => absurd h (Nat.not_lt_zero _)
  | m + 1, [], _ => by rw [pO, pO]
  | m + 1, c :: s, h => by
    rw [List.length_cons] at h
    rw [pO, pO]
    split
    · rfl
    · split
      · rfl
      · split
        · refine bind_congr rfl fun n _ => ?_
          have h1 := (num_suf s).length_le
          refine bind_congr rfl fun _ _ => ?_
          have h2 := (take_suf [40] (numP s).2).length_le
          refine bind_congr (pO_fuel m _ (by omega)) fun t _ => ?_
          rfl
        · split
          · refine bind_congr (pO_fuel m s (by omega)) fun a _ => ?_
            have h1 := (pO_suf m s).length_le
            refine bind_congr rfl fun _ _ => ?_
            have h2 := (take_suf [32, 120, 32] (pO m s).2).length_le
            refine bind_congr (pO_fuel m _ (by omega)) fun b _ => ?_
            rfl
          · rfl
theorem pO_more {m : Nat} {s : List UInt8} (h : s.length < m) : ∀ k, pO (m + k) s = pO m s
  | 0 => rfl
  | k + 1 => by rw [show m + (k + 1) = (m + k) + 1 by omega, pO_fuel _ _ (by omega), pO_more h k]
theorem pO_any {m : Nat} {s : List UInt8} (h : s.length < m) : pO m s = pO (s.length + 1) s := by
  have := pO_more (m := s.length + 1) (s := s) (by omega) (m - (s.length + 1))
  rwa [show s.length + 1 + (m - (s.length + 1)) = m by omega] at this
def restS (s : List UInt8) : List UInt8 := (pO (s.length + 1) s).2
/-- The place up to which a text is the beginning of an order's. -/
def lastS (s : List UInt8) : Nat := posn s (restS s)
def begB (s : List UInt8) : Bool := decide (restS s = [])
theorem rest_suf (s : List UInt8) : restS s <:+ s := pO_suf _ s
theorem beg_take {s : List UInt8} {i : Nat} (hi : i ≤ s.length) : begB (s.take i) = decide (i ≤ lastS s) := by
  have hl : (s.take i).length = i := by rw [List.length_take]; omega
  have e : pO ((s.take i).length + 1) (s.take i) = pO (s.length + 1) (s.take i) := by rw [hl, pO_any (m := s.length + 1) (by omega), hl]
  have hp := pre_pO (s.length + 1)
  have hsuf := (rest_suf s).length_le
  unfold begB lastS
  congr 1
  rw [eq_iff_iff]
  unfold restS at hsuf ⊢
  rw [e]
  by_cases hc : s.length - (pO (s.length + 1) s).2.length ≤ i
  · rw [hp.big s i hi hc]
    simp only [posn]
    generalize (pO (s.length + 1) s).2 = r at hsuf hc
    rw [List.take_eq_nil_iff]
    constructor
    · rintro (h | h)
      · omega
      · subst h; simp at hc ⊢; omega
    · intro h; left; omega
  · rw [hp.small s i (by omega)]
    simp only [posn]
    constructor
    · intro _; omega
    · intro _; trivial
theorem parse_code {s : List UInt8} (h : s.length ≤ 65536) : (∃ t, parseS s = .ok t ∧ restS s = []) ∨ (parseS s = .err 0 8 ∧ restS s = []) ∨ parseS s = .err (lastS s) 6 := by
  have hsuf := rest_suf s
  unfold lastS
  unfold restS at hsuf ⊢
  unfold parseS
  rw [if_neg (by omega)]
  cases hp : pO (s.length + 1) s with
  | mk o r =>
    cases o with
    | none => exact .inr (.inr rfl)
    | some t =>
      simp only
      by_cases hr : r = []
      · rw [if_pos hr]
        by_cases h0 : lenO t = 0
        · rw [if_pos h0]; exact .inr (.inl ⟨rfl, hr⟩)
        · rw [if_neg h0]; exact .inl ⟨t, rfl, hr⟩
      · rw [if_neg hr]; exact .inr (.inr rfl)
theorem last_full {s : List UInt8} (h : restS s = []) : lastS s = s.length := by unfold lastS; rw [h, posn_nil]
theorem last_le (s : List UInt8) : lastS s ≤ s.length := posn_le
theorem last_eq {s : List UInt8} (h : lastS s = s.length) : restS s = [] := end_of (rest_suf s) h
/-! The walk's part. -/
structure EQ (F : List Seg) (E : Nat → Value) (Q : Nat → Addr) : Prop where
  b : E368 F E
  e6 : ErrAt F 106 (E 6) (Q 6)
  e8 : ErrAt F 106 (E 8) (Q 8)
  ne : Q 6 ≠ Q 8
theorem EQ.cons {F : List Seg} {s : Seg} {E : Nat → Value} {Q : Nat → Addr} (h : EQ F E Q) : EQ (s :: F) E Q := ⟨h.b.cons, h.e6.cons, h.e8.cons, h.ne⟩
theorem ev_ie {F : List Seg} {E : Nat → Value} {Q : Nat → Addr} (h : EQ F E Q) {c : Nat} (hc : c = 0 ∨ c = 6 ∨ c = 8) : isErr (errV2 E c) = true ∧ isNil (errV2 E c) = decide (c = 0) := by
  rcases hc with rfl | rfl | rfl
  · exact ⟨rfl, rfl⟩
  · exact ⟨h.b.t6.ie, h.b.t6.nn⟩
  · exact ⟨h.b.t8.ie, h.b.t8.nn⟩
theorem EQ.at_ {F : List Seg} {E : Nat → Value} {Q : Nat → Addr} (h : EQ F E Q) {c : Nat} (hc : c = 6 ∨ c = 8) : ErrAt F 106 (errV2 E c) (Q c) := by
  rcases hc with rfl | rfl
  · exact h.e6
  · exact h.e8
theorem EQ.inj {F : List Seg} {E : Nat → Value} {Q : Nat → Addr} (h : EQ F E Q) {c j : Nat} (hc : c = 6 ∨ c = 8) (hj : j = 6 ∨ j = 8) : decide (Q c = Q j) = decide (c = j) := by
  rcases hc with rfl | rfl <;> rcases hj with rfl | rfl
  · simp
  · rw [decide_eq_false h.ne]; rfl
  · rw [decide_eq_false (Ne.symm h.ne)]; rfl
  · simp
section
variable {P : Program} {w w0 : World} {L : List Seg} {ρ : Operand → Value} {d : Option Tmp} {x y : Operand} {ty : TypeId} {pos : String} {af : Array Edge} {g : Option (Nat × Bool)}
theorem equal_nilIface {t T : TypeId} {v : Value} (ht : isIface P t = true) : (Op.equal t .nilIface (.iface T v)).run P w = .ok false w := by
  obtain ⟨ms, hms⟩ := isIface_under ht
  unfold Op.equal Op.maxDepth Op.equalIn
  simp only [Sem.run_bind, run_underlying hms, Result.andThen_ok]
  rfl
theorem RX.nil_eql {t t' T : TypeId} {v : Value} (hx : ρ x = .nilIface) (hy : ρ y = .iface T v) (ht : isIface P t = true) : Runs P ρ ⟨d, .binOp .eql t x y t', ty, pos, af, g⟩ w (.bool false) := by
  have h1 : (binOp .eql t .nilIface (.iface T v)).run P w = .ok (.bool false) w := by
    simp only [binOp]; simp [equal_nilIface ht]
  unfold Runs
  simp [execOp, hx, hy, eqGuard, h1]
theorem RX.nil_neq {t t' T : TypeId} {v : Value} (hx : ρ x = .nilIface) (hy : ρ y = .iface T v) (ht : isIface P t = true) : Runs P ρ ⟨d, .binOp .neq t x y t', ty, pos, af, g⟩ w (.bool true) := by
  have h1 : (binOp .neq t .nilIface (.iface T v)).run P w = .ok (.bool true) w := by
    simp only [binOp]; simp [equal_nilIface ht]
  unfold Runs
  simp [execOp, hx, hy, eqGuard, h1]
theorem RX.err_neq {t t' T : TypeId} {u v : Value} {a b : Addr} (H : Hp w0 w L) (hx : ρ x = u) (hy : ρ y = v) (hu : ErrAt L T u a) (hv : ErrAt L T v b) (ht : isIface P t = true) (hT : ptrTo P T = true) :
    Runs P ρ ⟨d, .binOp .neq t x y t', ty, pos, af, g⟩ w (.bool (!decide (a = b))) := by
  have h := equal_err H ht hT hu hv
  obtain ⟨rfl, _⟩ := hu
  obtain ⟨rfl, _⟩ := hv
  have h1 : (binOp .neq t (.iface T (.pointer (some a))) (.iface T (.pointer (some b)))).run P w = .ok (.bool (!decide (a = b))) w := by
    simp only [binOp]; simp [h]
  unfold Runs
  simp [execOp, hx, hy, eqGuard_at_iface, h1]
end
theorem RX.code_eql {w w0 : World} {L : List Seg} {ρ : Operand → Value} {d : Option Tmp} {x y : Operand} {ty t t' : TypeId} {pos : String} {af : Array Edge} {g : Option (Nat × Bool)} {E : Nat → Value} {Q : Nat → Addr} {c j : Nat} (H : Hp w0 w L) (hE : EQ L E Q)
    (hx : ρ x = errV2 E c) (hy : ρ y = E j) (hc : c = 0 ∨ c = 6 ∨ c = 8) (hj : j = 6 ∨ j = 8) (ht : isIface Tryd.prog t = true) : Runs Tryd.prog ρ ⟨d, .binOp .eql t x y t', ty, pos, af, g⟩ w (.bool (decide (c = j))) := by
  have hjv : errV2 E j = E j := by rcases hj with rfl | rfl <;> rfl
  rcases hc with rfl | hc
  · have e := (hE.at_ hj).1
    rw [hjv] at e
    rw [decide_eq_false (by omega)]
    exact RX.nil_eql hx (hy.trans e) ht
  · rw [← hE.inj hc hj]
    exact RX.err_eql H hx hy (hE.at_ hc) (hjv ▸ hE.at_ hj) ht ptE
theorem RX.code_neq {w w0 : World} {L : List Seg} {ρ : Operand → Value} {d : Option Tmp} {x y : Operand} {ty t t' : TypeId} {pos : String} {af : Array Edge} {g : Option (Nat × Bool)} {E : Nat → Value} {Q : Nat → Addr} {c j : Nat} (H : Hp w0 w L) (hE : EQ L E Q)
    (hx : ρ x = errV2 E c) (hy : ρ y = E j) (hc : c = 0 ∨ c = 6 ∨ c = 8) (hj : j = 6 ∨ j = 8) (ht : isIface Tryd.prog t = true) : Runs Tryd.prog ρ ⟨d, .binOp .neq t x y t', ty, pos, af, g⟩ w (.bool (!decide (c = j))) := by
  have hjv : errV2 E j = E j := by rcases hj with rfl | rfl <;> rfl
  rcases hc with rfl | hc
  · have e := (hE.at_ hj).1
    rw [hjv] at e
    rw [decide_eq_false (by omega)]
    exact RX.nil_neq hx (hy.trans e) ht
  · rw [← hE.inj hc hj]
    exact RX.err_neq H hx hy (hE.at_ hc) (hjv ▸ hE.at_ hj) ht ptE
/-- What Parse answers, in one form. -/
theorem ParseR.form {E : Nat → Value} {s : List UInt8} {v : Value} {sg : Seg} (h : ParseR (errV2 E) (parseS s) v sg) (hs : s.length ≤ 65536) : ∃ k n p m c pl code, v = .tuple #[.agg (tv k n p m c).toArray, .int .i64 (pl : Nat), errV2 E code] ∧ pl ≤ s.length ∧
    ((code = 0 ∧ pl = 0 ∧ restS s = [] ∧ ∃ t, parseS s = .ok t ∧ t.Own (tv k n p m c) sg) ∨ (tv k n p m c = tv 0 0 none 0 0 ∧ ((code = 8 ∧ pl = 0 ∧ restS s = [] ∧ parseS s = .err 0 8) ∨ (code = 6 ∧ pl = lastS s ∧ parseS s = .err pl 6)))) := by
  rcases parse_code hs with ⟨t, ht, hr⟩ | ⟨he, hr⟩ | he
  · rw [ht] at h
    obtain ⟨k, n, p, m, c, rfl, ho⟩ := h.ok
    exact ⟨k, n, p, m, c, 0, 0, rfl, Nat.zero_le _, .inl ⟨rfl, rfl, hr, t, ht, ho⟩⟩
  · rw [he] at h
    obtain ⟨rfl, rfl⟩ := h.err
    exact ⟨0, 0, none, 0, 0, 0, 8, rfl, Nat.zero_le _, .inr ⟨rfl, .inl ⟨rfl, rfl, hr, he⟩⟩⟩
  · rw [he] at h
    obtain ⟨rfl, rfl⟩ := h.err
    exact ⟨0, 0, none, 0, 0, lastS s, 6, rfl, last_le s, .inr ⟨rfl, .inr ⟨rfl, rfl, he⟩⟩⟩
theorem beg_form {s : List UInt8} {a b : List Value} {pl code : Nat} {q : Tr → Prop} {r r2 : PRes} (hcs : (code = 0 ∧ pl = 0 ∧ restS s = [] ∧ ∃ t, parseS s = .ok t ∧ q t) ∨ (a = b ∧ ((code = 8 ∧ pl = 0 ∧ restS s = [] ∧ parseS s = r) ∨ (code = 6 ∧ pl = lastS s ∧ parseS s = r2)))) : begB s = decide (code = 0 ∨ code = 8 ∨ (code = 6 ∧ pl = s.length)) := by
  unfold begB
  congr 1
  rw [eq_iff_iff]
  rcases hcs with ⟨h1, h2, h3, _⟩ | ⟨_, ⟨h1, h2, h3, _⟩ | ⟨h1, h2, _⟩⟩
  · simp [h1, h3]
  · simp [h1, h3]
  · constructor
    · intro h
      exact .inr (.inr ⟨h1, by rw [h2, last_full h]⟩)
    · intro h
      exact last_eq (by omega)
theorem RX.slStrH {P : Program} {w : World} {ρ : Operand → Value} {d : Option Tmp} {x y : Operand} {ty t : TypeId} {pos : String} {af : Array Edge} {g : Option (Nat × Bool)} {a r : List UInt8} {k : IntKind} {h : Int} (hx : ρ x = .string ⟨a.toArray⟩) (hy : ρ y = .int k h) (ht : P.underlying t = some .string) (h0 : 0 ≤ h) (h1 : h ≤ a.length)
    (hr : a.take h.toNat = r) : Runs P ρ ⟨d, .slice t x none (some y) none, ty, pos, af, g⟩ w (.string ⟨r.toArray⟩) := by
  subst hr
  have h1' : h ≤ (⟨a.toArray⟩ : ByteArray).size := by simpa [ByteArray.size] using h1
  have he : (⟨a.toArray⟩ : ByteArray).extract 0 h.toNat = ⟨(a.take h.toNat).toArray⟩ := by
    rw [ByteArray.extract_mk]
    congr 2
  rw [← he]
  unfold Runs
  simp [execOp, hx, hy, run_sliceAt_string w t _ _ _ _ ht, run_slice_string_h w t _ ht k h h0 h1']
theorem bb {b c : Bool} (h : b = c) : (!(b == c)) = false := by subst h; cases b <;> rfl

theorem begins_b {w0 w : World} {F : List Seg} (H : Hp w0 w F) {E : Nat → Value} {Q : Nat → Addr} (hE : EQ F E Q) {s : List UInt8} (hs : s.length ≤ 65536) : Ret Tryd.prog 14 [.string ⟨s.toArray⟩] w fun v w' => v = .bool (begB s) ∧ Hp w0 w' F := by
  refine Calls.of_J (n := 34) Tryd.func14 rfl rfl rfl ?_
  refine J.seq ?_
  refine J.region ?_
  refine JL.go trivial (RX.assign) ?_
  refine JL.nil ?_
  refine J.seq ?_
  refine J.region ?_
  refine JL.go trivial (RX.movev (v := Value.string _) rfl) ?_
  refine JL.does trivial (EX.call rfl cl10 rfl ((Parse_b H hE.b (s := s) (by omega)))) ?_
  rintro _ w ⟨sg, hpr, H⟩
  obtain ⟨k, n, p, m, c, pl, code, rfl, hpl, hcs⟩ := hpr.form (by omega)
  have hc3 : code = 0 ∨ code = 6 ∨ code = 8 := by omega
  refine JL.go trivial (RX.movev (v := Value.tuple _) rfl) ?_
  refine JL.go trivial (RX.extract (v := .agg (tv k n p m c).toArray) rfl rfl) ?_
  refine JL.go trivial (RX.extract (v := .int .i64 (pl : Nat)) rfl rfl) ?_
  refine JL.go trivial (RX.extract (v := errV2 E code) rfl rfl) ?_
  refine JL.does trivial (EX.alloc H zr25 rfl) ?_
  rintro _ w ⟨b3, rfl, H⟩
  refine JL.does trivial (EX.storeAgg H rfl rfl (i := 0) (vs := tv k n p m c) (l' := tv k n p m c) rfl tv_cell (by simp) sz25 rfl rfl) ?_
  rintro _ w H
  refine JL.go trivial (RX.assignv (v := Value.int _ _) rfl) ?_
  refine JL.go trivial (RX.assignv (v := errV2 E code) rfl) ?_
  refine JL.nil ?_
  refine J.seq ?_
  refine J.region ?_
  refine JL.go trivial (RX.movev (v := errV2 E code) rfl) ?_
  refine JL.go trivial (RX.ifnil_eql (v := errV2 E code) rfl rfl (ev_ie hE hc3).1 if27) ?_
  refine JL.go trivial (RX.movev (v := Value.bool _) rfl) ?_
  refine JL.splitS 14 rfl (fun hnil => ?_) (fun hnil => ?_)
  · skip
    first | have hnilp := of_decide_eq_true hnil | skip
    have hn0 := of_decide_eq_true ((ev_ie hE hc3).2.symm.trans hnil)
    refine JL.no ⟨_, rfl, gno hnil⟩ ?_
    refine JL.no ⟨_, rfl, gno hnil⟩ ?_
    refine JL.no ⟨_, rfl, gno hnil⟩ ?_
    refine JL.no ⟨_, rfl, gno hnil⟩ ?_
    refine JL.no ⟨_, rfl, nofun⟩ ?_
    refine JL.no ⟨_, rfl, nofun⟩ ?_
    refine JL.no ⟨_, rfl, gno hnil⟩ ?_
    refine JL.go trivial (RX.pick_t rfl hnil) ?_
    refine JL.go trivial (RX.movev (v := Value.bool _) rfl) ?_
    refine JL.no ⟨_, rfl, gno rfl⟩ ?_
    refine JL.no ⟨_, rfl, gno rfl⟩ ?_
    refine JL.no ⟨_, rfl, gno rfl⟩ ?_
    refine JL.no ⟨_, rfl, gno rfl⟩ ?_
    refine JL.no ⟨_, rfl, nofun⟩ ?_
    refine JL.no ⟨_, rfl, nofun⟩ ?_
    refine JL.no ⟨_, rfl, nofun⟩ ?_
    refine JL.no ⟨_, rfl, nofun⟩ ?_
    refine JL.no ⟨_, rfl, gno rfl⟩ ?_
    refine JL.go trivial (RX.pick_t rfl rfl) ?_
    refine JL.go trivial (RX.assignv (v := Value.bool _) rfl) ?_
    refine JL.nil ?_
    refine J.ret1 (v := Value.bool _) Tryd.func14 rfl rfl ?_
    refine ⟨_, rfl, ?_, H.drop.drop⟩
    rw [beg_form hcs]
    refine congrArg Value.bool ?_
    first | exact (decide_eq_true (by omega)).symm | exact (decide_eq_false (by omega)).symm | (congr 1; rw [eq_iff_iff]; omega)
  · skip
    first | have hnilp := of_decide_eq_false hnil | skip
    have hn0 := of_decide_eq_false ((ev_ie hE hc3).2.symm.trans hnil)
    refine JL.go ⟨_, rfl, hnil⟩ (RX.movev (v := errV2 E code) rfl) ?_
    refine JL.go ⟨_, rfl, hnil⟩ (RX.loadG H rfl hE.b.t8.at_.cons.cons one27) ?_
    refine JL.go ⟨_, rfl, hnil⟩ (RX.code_eql H hE.cons.cons rfl rfl hc3 (.inr rfl) if27) ?_
    refine JL.go ⟨_, rfl, hnil⟩ (RX.movev (v := Value.bool _) rfl) ?_
    refine JL.splitS 18 rfl (fun h8 => ?_) (fun h8 => ?_)
    · skip
      first | have h8p := of_decide_eq_true h8 | skip
      refine JL.go ⟨_, rfl, h8⟩ (RX.movev (v := Value.int _ _) rfl) ?_
      refine JL.go ⟨_, rfl, h8⟩ (RX.eq rfl rfl) ?_
      refine JL.go ⟨_, rfl, hnil⟩ (RX.pick_t rfl h8) ?_
      refine JL.go trivial (RX.pick_f rfl hnil) ?_
      refine JL.go trivial (RX.movev (v := Value.bool _) rfl) ?_
      refine JL.splitS 23 rfl (fun hb8 => ?_) (fun hb8 => ?_)
      · skip
        first | have hb8p := of_decide_eq_true hb8 | skip
        refine JL.no ⟨_, rfl, gno hb8⟩ ?_
        refine JL.no ⟨_, rfl, gno hb8⟩ ?_
        refine JL.no ⟨_, rfl, gno hb8⟩ ?_
        refine JL.no ⟨_, rfl, gno hb8⟩ ?_
        refine JL.no ⟨_, rfl, nofun⟩ ?_
        refine JL.no ⟨_, rfl, nofun⟩ ?_
        refine JL.no ⟨_, rfl, nofun⟩ ?_
        refine JL.no ⟨_, rfl, nofun⟩ ?_
        refine JL.no ⟨_, rfl, gno hb8⟩ ?_
        refine JL.go trivial (RX.pick_t rfl hb8) ?_
        refine JL.go trivial (RX.assignv (v := Value.bool _) rfl) ?_
        refine JL.nil ?_
        refine J.ret1 (v := Value.bool _) Tryd.func14 rfl rfl ?_
        refine ⟨_, rfl, ?_, H.drop.drop⟩
        rw [beg_form hcs]
        refine congrArg Value.bool ?_
        first | exact (decide_eq_true (by omega)).symm | exact (decide_eq_false (by omega)).symm | (congr 1; rw [eq_iff_iff]; omega)
      · skip
        first | have hb8p := of_decide_eq_false hb8 | skip
        refine JL.go ⟨_, rfl, hb8⟩ (RX.movev (v := errV2 E code) rfl) ?_
        refine JL.go ⟨_, rfl, hb8⟩ (RX.loadG H rfl hE.b.t6.at_.cons.cons one27) ?_
        refine JL.go ⟨_, rfl, hb8⟩ (RX.code_eql H hE.cons.cons rfl rfl hc3 (.inl rfl) if27) ?_
        refine JL.go ⟨_, rfl, hb8⟩ (RX.movev (v := Value.bool _) rfl) ?_
        refine JL.splitS 27 rfl (fun h6 => ?_) (fun h6 => ?_)
        · skip
          first | have h6p := of_decide_eq_true h6 | skip
          refine JL.go ⟨_, rfl, h6⟩ (RX.movev (v := Value.int _ _) rfl) ?_
          refine JL.go ⟨_, rfl, h6⟩ (RX.movev (v := Value.string _) rfl) ?_
          refine JL.go ⟨_, rfl, h6⟩ (RX.len_string rfl ud9 (r := (s.length : Int)) (by rw [b_size])) ?_
          refine JL.go ⟨_, rfl, h6⟩ (RX.eq rfl rfl) ?_
          refine JL.go ⟨_, rfl, hb8⟩ (RX.pick_t rfl h6) ?_
          refine JL.go trivial (RX.pick_f rfl hb8) ?_
          refine JL.go trivial (RX.assignv (v := Value.bool _) rfl) ?_
          refine JL.nil ?_
          refine J.ret1 (v := Value.bool _) Tryd.func14 rfl rfl ?_
          refine ⟨_, rfl, ?_, H.drop.drop⟩
          rw [beg_form hcs]
          refine congrArg Value.bool ?_
          first | exact (decide_eq_true (by omega)).symm | exact (decide_eq_false (by omega)).symm | (congr 1; rw [eq_iff_iff]; omega)
        · skip
          first | have h6p := of_decide_eq_false h6 | skip
          refine JL.no ⟨_, rfl, gno h6⟩ ?_
          refine JL.no ⟨_, rfl, gno h6⟩ ?_
          refine JL.no ⟨_, rfl, gno h6⟩ ?_
          refine JL.no ⟨_, rfl, gno h6⟩ ?_
          refine JL.go ⟨_, rfl, hb8⟩ (RX.pick_f rfl h6) ?_
          refine JL.go trivial (RX.pick_f rfl hb8) ?_
          refine JL.go trivial (RX.assignv (v := Value.bool _) rfl) ?_
          refine JL.nil ?_
          refine J.ret1 (v := Value.bool _) Tryd.func14 rfl rfl ?_
          refine ⟨_, rfl, ?_, H.drop.drop⟩
          rw [beg_form hcs]
          refine congrArg Value.bool ?_
          first | exact (decide_eq_true (by omega)).symm | exact (decide_eq_false (by omega)).symm | (congr 1; rw [eq_iff_iff]; omega)
    · skip
      first | have h8p := of_decide_eq_false h8 | skip
      refine JL.no ⟨_, rfl, gno h8⟩ ?_
      refine JL.no ⟨_, rfl, gno h8⟩ ?_
      refine JL.go ⟨_, rfl, hnil⟩ (RX.pick_f rfl h8) ?_
      refine JL.go trivial (RX.pick_f rfl hnil) ?_
      refine JL.go trivial (RX.movev (v := Value.bool _) rfl) ?_
      refine JL.go ⟨_, rfl, rfl⟩ (RX.movev (v := errV2 E code) rfl) ?_
      refine JL.go ⟨_, rfl, rfl⟩ (RX.loadG H rfl hE.b.t6.at_.cons.cons one27) ?_
      refine JL.go ⟨_, rfl, rfl⟩ (RX.code_eql H hE.cons.cons rfl rfl hc3 (.inl rfl) if27) ?_
      refine JL.go ⟨_, rfl, rfl⟩ (RX.movev (v := Value.bool _) rfl) ?_
      refine JL.splitS 27 rfl (fun h6 => ?_) (fun h6 => ?_)
      · skip
        first | have h6p := of_decide_eq_true h6 | skip
        refine JL.go ⟨_, rfl, h6⟩ (RX.movev (v := Value.int _ _) rfl) ?_
        refine JL.go ⟨_, rfl, h6⟩ (RX.movev (v := Value.string _) rfl) ?_
        refine JL.go ⟨_, rfl, h6⟩ (RX.len_string rfl ud9 (r := (s.length : Int)) (by rw [b_size])) ?_
        refine JL.go ⟨_, rfl, h6⟩ (RX.eq rfl rfl) ?_
        refine JL.go ⟨_, rfl, rfl⟩ (RX.pick_t rfl h6) ?_
        refine JL.go trivial (RX.pick_f rfl rfl) ?_
        refine JL.go trivial (RX.assignv (v := Value.bool _) rfl) ?_
        refine JL.nil ?_
        refine J.ret1 (v := Value.bool _) Tryd.func14 rfl rfl ?_
        refine ⟨_, rfl, ?_, H.drop.drop⟩
        rw [beg_form hcs]
        refine congrArg Value.bool ?_
        first | exact (decide_eq_true (by omega)).symm | exact (decide_eq_false (by omega)).symm | (congr 1; rw [eq_iff_iff]; omega)
      · skip
        first | have h6p := of_decide_eq_false h6 | skip
        refine JL.no ⟨_, rfl, gno h6⟩ ?_
        refine JL.no ⟨_, rfl, gno h6⟩ ?_
        refine JL.no ⟨_, rfl, gno h6⟩ ?_
        refine JL.no ⟨_, rfl, gno h6⟩ ?_
        refine JL.go ⟨_, rfl, rfl⟩ (RX.pick_f rfl h6) ?_
        refine JL.go trivial (RX.pick_f rfl rfl) ?_
        refine JL.go trivial (RX.assignv (v := Value.bool _) rfl) ?_
        refine JL.nil ?_
        refine J.ret1 (v := Value.bool _) Tryd.func14 rfl rfl ?_
        refine ⟨_, rfl, ?_, H.drop.drop⟩
        rw [beg_form hcs]
        refine congrArg Value.bool ?_
        first | exact (decide_eq_true (by omega)).symm | exact (decide_eq_false (by omega)).symm | (congr 1; rw [eq_iff_iff]; omega)
theorem OrderPlaces_b {w0 w : World} {F : List Seg} (H : Hp w0 w F) {E : Nat → Value} {Q : Nat → Addr} (hE : EQ F E Q) (hg : GTab F) {s : List UInt8} (hs : s.length ≤ 9223372036854775807) : Ret Tryd.prog 4 [.string ⟨s.toArray⟩] w fun v w' => v = .bool true ∧ Hp w0 w' F := by
  refine Calls.of_J (n := 81) Tryd.func4 rfl rfl rfl ?_
  refine J.seq ?_
  refine J.region ?_
  refine JL.go trivial (RX.assign) ?_
  refine JL.nil ?_
  refine J.seq ?_
  refine J.region ?_
  refine JL.does trivial (EX.call rfl cl9 rfl ((lives_b H hE.b hg))) ?_
  rintro _ w ⟨rfl, H⟩
  refine JL.go trivial (RX.assignv (v := Value.bool _) rfl) ?_
  refine JL.nil ?_
  refine J.seq ?_
  refine J.seq ?_
  refine J.region ?_
  refine JL.go trivial (RX.movev (v := Value.bool _) rfl) ?_
  refine JL.go trivial (RX.not rfl) ?_
  refine JL.go trivial (RX.movev (v := Value.bool _) rfl) ?_
  refine JL.go ⟨_, rfl, rfl⟩ (RX.movev (v := Value.string _) rfl) ?_
  refine JL.go ⟨_, rfl, rfl⟩ (RX.len_string rfl ud9 (r := (s.length : Int)) (by rw [b_size])) ?_
  refine JL.go ⟨_, rfl, rfl⟩ (RX.gt rfl rfl) ?_
  refine JL.go trivial (RX.pick_f rfl rfl) ?_
  refine JL.nil ?_
  refine J.cond_d rfl (fun hbig => ?_) (fun hbig => ?_)
  · skip
    refine J.seq ?_
    refine J.region ?_
    refine JL.go trivial (RX.movev (v := Value.bool _) rfl) ?_
    refine JL.go trivial (RX.assignv (v := Value.bool _) rfl) ?_
    refine JL.nil ?_
    refine J.ret1 (v := Value.bool _) Tryd.func4 rfl rfl ?_
    exact ⟨_, rfl, rfl, H⟩
  · skip
    refine J.skip ?_
    refine J.seq ?_
    refine J.region ?_
    refine JL.go trivial (RX.movev (v := Value.string _) rfl) ?_
    refine JL.does trivial (EX.call rfl cl10 rfl ((Parse_b H hE.b (s := s) (by omega)))) ?_
    rintro _ w ⟨sg, hpr, H⟩
    obtain ⟨k, n, p, m, c, pl, code, rfl, hpl, hcs⟩ := hpr.form (by omega)
    have hc3 : code = 0 ∨ code = 6 ∨ code = 8 := by omega
    refine JL.go trivial (RX.movev (v := Value.tuple _) rfl) ?_
    refine JL.go trivial (RX.extract (v := .agg (tv k n p m c).toArray) rfl rfl) ?_
    refine JL.go trivial (RX.extract (v := .int .i64 (pl : Nat)) rfl rfl) ?_
    refine JL.go trivial (RX.extract (v := errV2 E code) rfl rfl) ?_
    refine JL.does trivial (EX.alloc H zr25 rfl) ?_
    rintro _ w ⟨b4, rfl, H⟩
    refine JL.does trivial (EX.storeAgg H rfl rfl (i := 0) (vs := tv k n p m c) (l' := tv k n p m c) rfl tv_cell (by simp) sz25 rfl rfl) ?_
    rintro _ w H
    refine JL.go trivial (RX.assignv (v := Value.int _ _) rfl) ?_
    refine JL.go trivial (RX.assignv (v := errV2 E code) rfl) ?_
    refine JL.nil ?_
    have hll : (code = 6 → pl = lastS s) ∧ (code ≠ 6 → lastS s = s.length ∧ pl = 0) := by
      rcases hcs with ⟨h1, h2, h3, _⟩ | ⟨_, ⟨h1, h2, h3, _⟩ | ⟨h1, h2, _⟩⟩
      · exact ⟨fun h => by omega, fun _ => ⟨last_full h3, h2⟩⟩
      · exact ⟨fun h => by omega, fun _ => ⟨last_full h3, h2⟩⟩
      · exact ⟨fun _ => h2, fun h => absurd h1 h⟩
    have hlle := last_le s
    refine J.seq ?_
    refine J.seq ?_
    refine J.join (ι := Bool) (fun q => [(41, .bool q)]) (fun q w => q = false ∧ Hp w0 w ([(b4, cel (tv k n p m c) 25)] :: sg :: F)) [(0, _), (5, _), (6, _)] ⟨rfl, rfl, rfl, trivial⟩ ?_ ?_
    rotate_left
    · skip
      intro k2 hk2
      refine J.region ?_
      refine JL.go trivial (RX.movev (v := errV2 E code) rfl) ?_
      refine JL.go trivial (RX.ifnil_neq (v := errV2 E code) rfl rfl (ev_ie hE hc3).1 if27) ?_
      refine JL.go trivial (RX.movev (v := Value.bool _) rfl) ?_
      refine JL.splitS 26 rfl (fun hnn => ?_) (fun hnn => ?_)
      · skip
        first | have hnnp := of_decide_eq_true hnn | skip
        have hn0 : code ≠ 0 := by
          have hnn2 := hnn
          rw [(ev_ie hE hc3).2] at hnn2
          simpa using hnn2
        have hz : tv k n p m c = tv 0 0 none 0 0 := (hcs.resolve_left (fun h => hn0 h.1)).1
        obtain ⟨rfl, rfl, rfl, rfl, rfl⟩ : k = 0 ∧ n = 0 ∧ p = none ∧ m = 0 ∧ c = 0 := by simpa [tv] using hz
        refine JL.go ⟨_, rfl, hnn⟩ (RX.fieldAddr rfl fo25_0 rfl) ?_
        refine JL.go ⟨_, rfl, hnn⟩ (RX.load H rfl (i := 0) (v := .int .i64 0) rfl rfl one3) ?_
        refine JL.go ⟨_, rfl, hnn⟩ (RX.ne rfl rfl) ?_
        refine JL.go ⟨_, rfl, hnn⟩ (RX.movev (v := Value.bool _) rfl) ?_
        refine JL.go ⟨_, rfl, (decide_eq_false (fun h => h rfl))⟩ (RX.fieldAddr rfl fo25_1 rfl) ?_
        refine JL.go ⟨_, rfl, (decide_eq_false (fun h => h rfl))⟩ (RX.load H rfl (i := 0) (v := .int .i64 0) rfl rfl one3) ?_
        refine JL.go ⟨_, rfl, (decide_eq_false (fun h => h rfl))⟩ (RX.ne rfl rfl) ?_
        refine JL.go ⟨_, rfl, hnn⟩ (RX.pick_f rfl (decide_eq_false (fun h => h rfl))) ?_
        refine JL.go ⟨_, rfl, hnn⟩ (RX.movev (v := Value.bool _) rfl) ?_
        refine JL.go ⟨_, rfl, (decide_eq_false (fun h => h rfl))⟩ (RX.fieldAddr rfl fo25_2 rfl) ?_
        refine JL.go ⟨_, rfl, (decide_eq_false (fun h => h rfl))⟩ (RX.load H rfl (i := 0) (v := .slice none 0 0) rfl rfl one23) ?_
        refine JL.go ⟨_, rfl, (decide_eq_false (fun h => h rfl))⟩ (RX.len_slice rfl (by rw [sl23]; rfl) rfl) ?_
        refine JL.go ⟨_, rfl, (decide_eq_false (fun h => h rfl))⟩ (RX.ne rfl rfl) ?_
        refine JL.go ⟨_, rfl, hnn⟩ (RX.pick_f rfl (decide_eq_false (fun h => h rfl))) ?_
        refine JL.go trivial (RX.pick_t rfl hnn) ?_
        refine JL.nil ?_
        first
        | exact hk2 false _ _ ⟨rfl, rfl, rfl, trivial⟩ ⟨rfl, trivial⟩ ⟨rfl, H⟩
        | exact hk2 _ _ _ ⟨rfl, rfl, rfl, trivial⟩ ⟨rfl, trivial⟩ ⟨decide_eq_false (fun h => h rfl), H⟩
      · skip
        first | have hnnp := of_decide_eq_false hnn | skip
        refine JL.no ⟨_, rfl, gno hnn⟩ ?_
        refine JL.no ⟨_, rfl, gno hnn⟩ ?_
        refine JL.no ⟨_, rfl, gno hnn⟩ ?_
        refine JL.no ⟨_, rfl, gno hnn⟩ ?_
        refine JL.no ⟨_, rfl, nofun⟩ ?_
        refine JL.no ⟨_, rfl, nofun⟩ ?_
        refine JL.no ⟨_, rfl, nofun⟩ ?_
        refine JL.no ⟨_, rfl, gno hnn⟩ ?_
        refine JL.no ⟨_, rfl, gno hnn⟩ ?_
        refine JL.no ⟨_, rfl, nofun⟩ ?_
        refine JL.no ⟨_, rfl, nofun⟩ ?_
        refine JL.no ⟨_, rfl, nofun⟩ ?_
        refine JL.no ⟨_, rfl, nofun⟩ ?_
        refine JL.no ⟨_, rfl, gno hnn⟩ ?_
        refine JL.go trivial (RX.pick_f rfl hnn) ?_
        refine JL.nil ?_
        first
        | exact hk2 false _ _ ⟨rfl, rfl, rfl, trivial⟩ ⟨rfl, trivial⟩ ⟨rfl, H⟩
        | exact hk2 _ _ _ ⟨rfl, rfl, rfl, trivial⟩ ⟨rfl, trivial⟩ ⟨decide_eq_false (fun h => h rfl), H⟩
    · skip
      clear H
      rintro q ρ w ⟨hq, H⟩
      refine J.cond_f rfl hq ?_
      refine J.skip ?_
      refine J.seq ?_
      refine J.region ?_
      refine JL.go trivial (RX.movev (v := Value.string _) rfl) ?_
      refine JL.go trivial (RX.len_string rfl ud9 (r := (s.length : Int)) (by rw [b_size])) ?_
      refine JL.go trivial (RX.assignv (v := Value.int _ _) rfl) ?_
      refine JL.nil ?_
      refine J.seq ?_
      refine J.seq ?_
      refine J.region ?_
      refine JL.go trivial (RX.movev (v := errV2 E code) rfl) ?_
      refine JL.go trivial (RX.loadG H rfl hE.b.t6.at_.cons.cons one27) ?_
      refine JL.go trivial (RX.code_eql H hE.cons.cons rfl rfl hc3 (.inl rfl) if27) ?_
      refine JL.nil ?_
      refine J.join (ι := Unit) (fun _ => [(7, .int .i64 (lastS s : Nat))]) (fun _ w => Hp w0 w ([(b4, cel (tv k n p m c) 25)] :: sg :: F)) [(0, _)] ⟨rfl, trivial⟩ ?_ ?_
      rotate_left
      · skip
        intro k2 hk2
        refine J.cond_d rfl (fun h6 => ?_) (fun h6 => ?_)
        · skip
          have hpl6 := hll.1 h6
          refine J.seq ?_
          refine J.seq ?_
          refine J.region ?_
          refine JL.go trivial (RX.movev (v := Value.int _ _) rfl) ?_
          refine JL.go trivial (RX.lt rfl rfl) ?_
          refine JL.go trivial (RX.movev (v := Value.bool _) rfl) ?_
          refine JL.go ⟨_, rfl, (decide_eq_false (by omega))⟩ (RX.movev (v := Value.int _ _) rfl) ?_
          refine JL.go ⟨_, rfl, (decide_eq_false (by omega))⟩ (RX.movev (v := Value.string _) rfl) ?_
          refine JL.go ⟨_, rfl, (decide_eq_false (by omega))⟩ (RX.len_string rfl ud9 (r := (s.length : Int)) (by rw [b_size])) ?_
          refine JL.go ⟨_, rfl, (decide_eq_false (by omega))⟩ (RX.gt rfl rfl) ?_
          refine JL.go trivial (RX.pick_f rfl (decide_eq_false (by omega))) ?_
          refine JL.nil ?_
          refine J.cond_f rfl (decide_eq_false (by omega)) ?_
          refine J.skip ?_
          refine J.region ?_
          refine JL.go trivial (RX.movev (v := Value.int _ _) rfl) ?_
          refine JL.go trivial (RX.assignv (v := Value.int _ _) rfl) ?_
          refine JL.nil ?_
          first
          | exact hk2 () _ _ ⟨rfl, trivial⟩ ⟨(show Value.int .i64 (pl : Nat) = .int .i64 (lastS s : Nat) by rw [hpl6]), trivial⟩ H
          | exact hk2 () _ _ ⟨rfl, trivial⟩ ⟨(show Value.int .i64 (s.length : Nat) = .int .i64 (lastS s : Nat) by rw [hl6]), trivial⟩ H
        · skip
          obtain ⟨hl6, hpl6⟩ := hll.2 h6
          refine J.seq ?_
          refine J.region ?_
          refine JL.go trivial (RX.movev (v := errV2 E code) rfl) ?_
          refine JL.go trivial (RX.ifnil_neq (v := errV2 E code) rfl rfl (ev_ie hE hc3).1 if27) ?_
          refine JL.go trivial (RX.movev (v := Value.bool _) rfl) ?_
          refine JL.splitS 58 rfl (fun hnn => ?_) (fun hnn => ?_)
          · skip
            first | have hnnp := of_decide_eq_true hnn | skip
            have hn0 : code ≠ 0 := by
              have hnn2 := hnn
              rw [(ev_ie hE hc3).2] at hnn2
              simpa using hnn2
            refine JL.go ⟨_, rfl, hnn⟩ (RX.movev (v := errV2 E code) rfl) ?_
            refine JL.go ⟨_, rfl, hnn⟩ (RX.loadG H rfl hE.b.t8.at_.cons.cons one27) ?_
            refine JL.go ⟨_, rfl, hnn⟩ (RX.code_neq H hE.cons.cons rfl rfl hc3 (.inr rfl) if27) ?_
            refine JL.go trivial (RX.pick_t rfl hnn) ?_
            refine JL.go trivial (RX.movev (v := Value.bool _) rfl) ?_
            refine JL.go ⟨_, rfl, (by rw [decide_eq_true (show code = 8 by omega)]; rfl)⟩ (RX.movev (v := Value.int _ _) rfl) ?_
            refine JL.go ⟨_, rfl, (by rw [decide_eq_true (show code = 8 by omega)]; rfl)⟩ (RX.ne rfl rfl) ?_
            refine JL.go trivial (RX.pick_f rfl (by rw [decide_eq_true (show code = 8 by omega)]; rfl)) ?_
            refine JL.nil ?_
            refine J.cond_f rfl (decide_eq_false (by omega)) ?_
            refine J.skip ?_
            first
            | exact hk2 () _ _ ⟨rfl, trivial⟩ ⟨(show Value.int .i64 (pl : Nat) = .int .i64 (lastS s : Nat) by rw [hpl6]), trivial⟩ H
            | exact hk2 () _ _ ⟨rfl, trivial⟩ ⟨(show Value.int .i64 (s.length : Nat) = .int .i64 (lastS s : Nat) by rw [hl6]), trivial⟩ H
          · skip
            first | have hnnp := of_decide_eq_false hnn | skip
            refine JL.no ⟨_, rfl, gno hnn⟩ ?_
            refine JL.no ⟨_, rfl, gno hnn⟩ ?_
            refine JL.no ⟨_, rfl, gno hnn⟩ ?_
            refine JL.go trivial (RX.pick_f rfl hnn) ?_
            refine JL.go trivial (RX.movev (v := Value.bool _) rfl) ?_
            refine JL.go ⟨_, rfl, rfl⟩ (RX.movev (v := Value.int _ _) rfl) ?_
            refine JL.go ⟨_, rfl, rfl⟩ (RX.ne rfl rfl) ?_
            refine JL.go trivial (RX.pick_f rfl rfl) ?_
            refine JL.nil ?_
            refine J.cond_f rfl (decide_eq_false (by omega)) ?_
            refine J.skip ?_
            first
            | exact hk2 () _ _ ⟨rfl, trivial⟩ ⟨(show Value.int .i64 (pl : Nat) = .int .i64 (lastS s : Nat) by rw [hpl6]), trivial⟩ H
            | exact hk2 () _ _ ⟨rfl, trivial⟩ ⟨(show Value.int .i64 (s.length : Nat) = .int .i64 (lastS s : Nat) by rw [hl6]), trivial⟩ H
      · skip
        clear H
        rintro _ ρ w H
        refine J.seq ?_
        refine J.seq ?_
        refine J.region ?_
        refine JL.go trivial (RX.assign) ?_
        refine JL.nil ?_
        refine J.block ?_
        refine J.loop (ι := Nat) (S := fun i => [(8, .int .i64 (i : Nat))]) (Φ := fun i w => i ≤ s.length + 1 ∧ Hp w0 w ([(b4, cel (tv k n p m c) 25)] :: sg :: F)) (μ := fun i => s.length + 1 - i) (C := [(0, _), (7, _)]) 0 ⟨rfl, rfl, trivial⟩ ⟨rfl, trivial⟩ ?_ ?_
        · exact ⟨by omega, H⟩
        clear H
        rintro i ρ w ⟨hi, H⟩ IH
        refine J.seq ?_
        refine J.seq ?_
        refine J.region ?_
        refine JL.go trivial (RX.movev (v := Value.int _ _) rfl) ?_
        refine JL.go trivial (RX.movev (v := Value.string _) rfl) ?_
        refine JL.go trivial (RX.len_string rfl ud9 (r := (s.length : Int)) (by rw [b_size])) ?_
        refine JL.go trivial (RX.le rfl rfl) ?_
        refine JL.nil ?_
        refine J.cond_d rfl (fun hle => ?_) (fun hle => ?_)
        · skip
          refine J.skip ?_
          refine J.seq ?_
          refine J.block ?_
          refine J.seq ?_
          refine J.region ?_
          refine JL.go trivial (RX.movev (v := Value.string _) rfl) ?_
          refine JL.go trivial (RX.movev (v := Value.int _ _) rfl) ?_
          refine JL.go trivial (RX.slStrH (a := s) (r := s.take i) rfl rfl ud9 (by omega) (by omega) (by simp)) ?_
          refine JL.does trivial (EX.call rfl cl14 rfl ((begins_b H hE.cons.cons (s := s.take i) (by rw [List.length_take]; omega)))) ?_
          rintro _ w ⟨rfl, H⟩
          refine JL.go trivial (RX.movev (v := Value.int _ _) rfl) ?_
          refine JL.go trivial (RX.movev (v := Value.int _ _) rfl) ?_
          refine JL.go trivial (RX.le rfl rfl) ?_
          refine JL.go trivial (RX.bool_neq rfl rfl ud4) ?_
          refine JL.nil ?_
          refine J.cond_f rfl (bb (by rw [beg_take (by omega)]; congr 1; rw [eq_iff_iff]; omega)) ?_
          refine J.skip ?_
          refine J.inBlock ?_
          refine J.region ?_
          refine JL.go trivial (RX.movev (v := Value.int _ _) rfl) ?_
          refine JL.go trivial (RX.add rfl rfl (w_i64 (r := ((i + 1 : Nat) : Int)) (by omega) (by omega) (by omega))) ?_
          refine JL.go trivial (RX.assignv (v := Value.int _ _) rfl) ?_
          refine JL.nil ?_
          exact IH (i + 1) _ _ (by omega) ⟨rfl, rfl, trivial⟩ ⟨rfl, trivial⟩ ⟨by omega, H⟩
        · skip
          refine J.exit rfl ?_
          refine J.seq ?_
          refine J.region ?_
          refine JL.go trivial (RX.assign) ?_
          refine JL.nil ?_
          refine J.ret1 (v := Value.bool _) Tryd.func4 rfl rfl ?_
          exact ⟨_, rfl, rfl, H.drop.drop⟩
end Go.Proofs.YtinbeaaloailnaaDoor

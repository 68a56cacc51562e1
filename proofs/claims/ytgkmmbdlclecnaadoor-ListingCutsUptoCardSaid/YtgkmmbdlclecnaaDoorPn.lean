/- What is read: numerals, pieces, lines: plain. -/
import Derived.Test.YtgkmmbdlclecnaaDoorTx
import Derived.Lib.ParseIntB
import Derived.Lib.SplitLaws
namespace Go.Proofs.YtgkmmbdlclecnaaDoor
open Go Go.Eng
set_option maxRecDepth 100000
set_option linter.unusedVariables false
set_option linter.unusedSimpArgs false

/-! Numerals. -/
@[irreducible] def dgv (c : UInt8) : Nat := c.toNat - 48
theorem dgv_eq (c : UInt8) : dgv c = c.toNat - 48 := by unfold dgv; rfl
def dval (acc : Nat) : List UInt8 → Nat
  | [] => acc
  | c :: r => dval (acc * 10 + dgv c) r
theorem dval_cons (acc : Nat) (c : UInt8) (r : List UInt8) : dval acc (c :: r) = dval (acc * 10 + dgv c) r := rfl
theorem dval_one (acc : Nat) (c : UInt8) : dval acc [c] = acc * 10 + dgv c := rfl
theorem dval_app : ∀ (a b : List UInt8) (acc : Nat), dval acc (a ++ b) = dval (dval acc a) b
  | [], _, _ => rfl
  | _ :: a, b, acc => dval_app a b _
theorem dval_dec (u : Nat) : dval 0 (Lib.decDigits u) = u := by
  induction u using Nat.strongRecOn with
  | _ u ih =>
    rw [dec_unfold]
    split
    · rename_i h
      rw [dval_one, show 48 + u = 48 + u % 10 by omega, dgv_eq, dig_n]
      omega
    · rw [dval_app, ih (u / 10) (by omega), dval_one, dgv_eq, dig_n]
      omega
theorem dec_digit (u : Nat) : ∀ c ∈ Lib.decDigits u, 48 ≤ c.toNat ∧ c.toNat ≤ 57 := by
  induction u using Nat.strongRecOn with
  | _ u ih =>
    intro c hc
    rw [dec_unfold] at hc
    split at hc
    · simp only [List.mem_singleton] at hc
      subst hc
      rename_i h
      rw [show 48 + u = 48 + u % 10 by omega, dig_n]
      omega
    · rcases List.mem_append.1 hc with h | h
      · exact ih (u / 10) (by omega) c h
      · simp only [List.mem_singleton] at h
        subst h
        rw [dig_n]
        omega
theorem dec_ne (u : Nat) : Lib.decDigits u ≠ [] := by
  rw [dec_unfold]; split <;> simp
theorem dec_head {u : Nat} {c : UInt8} {r : List UInt8} (h : Lib.decDigits u = c :: r) : 48 ≤ c.toNat ∧ c.toNat ≤ 57 := dec_digit u c (by rw [h]; exact List.mem_cons_self)
theorem itoa_neg' {n : Int} (h : n < 0) : Lib.itoa n = 45 :: Lib.decDigits n.natAbs := by unfold Lib.itoa; rw [if_pos h]
theorem itoa_pos' {n : Int} (h : ¬ n < 0) : Lib.itoa n = Lib.decDigits n.toNat := by unfold Lib.itoa; rw [if_neg h]
theorem itoa_inj {m n : Int} (h : Lib.itoa m = Lib.itoa n) : m = n := by
  by_cases hm : m < 0
  · by_cases hn : n < 0
    · rw [itoa_neg' hm, itoa_neg' hn] at h
      have h2 := congrArg (dval 0) (List.cons.inj h).2
      rw [dval_dec, dval_dec] at h2
      omega
    · rw [itoa_neg' hm, itoa_pos' hn] at h
      have := dec_head h.symm
      exact absurd this.1 (by decide)
  · by_cases hn : n < 0
    · rw [itoa_pos' hm, itoa_neg' hn] at h
      have := dec_head h
      exact absurd this.1 (by decide)
    · rw [itoa_pos' hm, itoa_pos' hn] at h
      have h2 := congrArg (dval 0) h
      rw [dval_dec, dval_dec] at h2
      omega
theorem dval_ge (l : List UInt8) : ∀ acc : Nat, acc ≤ dval acc l := by
  induction l with
  | nil => intro acc; exact Nat.le_refl acc
  | cons c r ih =>
    intro acc
    have h := ih (acc * 10 + dgv c)
    rw [dval_cons]
    generalize dval (acc * 10 + dgv c) r = z at h
    omega
theorem parseM_ok (M : Nat) (hM : M ≤ 18446744073709551615) : ∀ (l : List UInt8) (acc : Nat), (∀ c ∈ l, 48 ≤ c.toNat ∧ c.toNat ≤ 57) → dval acc l ≤ M → Lib.parseUintM M acc l = .ok (dval acc l)
  | [], _, _, _ => rfl
  | c :: r, acc, hd, hl => by
    have hc := hd c List.mem_cons_self
    have hg := dval_ge r (acc * 10 + dgv c)
    rw [dval_cons] at hl
    rw [dval_cons]
    generalize hz : dval (acc * 10 + dgv c) r = z at hl hg
    rw [dgv_eq] at hg hz
    rw [Lib.parseUintM, if_pos hc, if_neg (by omega), if_neg (by omega), parseM_ok M hM r _ (fun x hx => hd x (List.mem_cons_of_mem _ hx)) (by rw [hz]; exact hl), hz]
theorem parse_itoa {n : Int} (h : i64ok n) : Lib.parseIntB 64 (Lib.itoa n) = .ok n := by
  obtain ⟨h0, h1⟩ := h
  have e64 : (2 : Nat) ^ 64 - 1 = 18446744073709551615 := by decide
  have e63 : (2 : Nat) ^ (64 - 1) = 9223372036854775808 := by decide
  by_cases hn : n < 0
  · rw [itoa_neg' hn]
    have hu : Lib.parseUintB 64 (Lib.decDigits n.natAbs) = .ok n.natAbs := by
      unfold Lib.parseUintB
      rw [if_neg (dec_ne _), e64, parseM_ok _ (by decide) _ _ (dec_digit _) (by rw [dval_dec]; omega), dval_dec]
    unfold Lib.parseIntB
    dsimp only
    rw [if_pos (Or.inr (by decide)), hu]
    simp only [e63]
    rw [if_neg (by intro h; exact h.1 (by decide)), if_neg (by intro h; omega), if_pos (by decide)]
    congr 1; omega
  · rw [itoa_pos' hn]
    have hu : Lib.parseUintB 64 (Lib.decDigits n.toNat) = .ok n.toNat := by
      unfold Lib.parseUintB
      rw [if_neg (dec_ne _), e64, parseM_ok _ (by decide) _ _ (dec_digit _) (by rw [dval_dec]; omega), dval_dec]
    obtain ⟨c, r, hcr⟩ := List.exists_cons_of_ne_nil (dec_ne n.toNat)
    have hc := dec_head hcr
    rw [hcr] at hu ⊢
    unfold Lib.parseIntB
    dsimp only
    have hs : ¬ (c.toNat = 43 ∨ c.toNat = 45) := by omega
    rw [if_neg hs, hu]
    simp only [e63]
    rw [if_neg (by omega), if_neg (by omega), if_neg (by omega)]
    congr 1; omega
theorem parse_ok {s : List UInt8} {v : Int} (h : Lib.parseIntB 64 s = .ok v) : i64ok v := by
  have e63 : (2 : Nat) ^ (64 - 1) = 9223372036854775808 := by decide
  unfold Lib.parseIntB at h
  split at h
  · cases h
  · rename_i c r
    simp only [e63] at h
    split at h
    · cases h
    · cases h
    · rename_i u _
      split at h
      · cases h
      · split at h
        · cases h
        · injection h with h
          subst h
          unfold i64ok
          split <;> omega
open Classical in
noncomputable def numS (s : List UInt8) : Option Int := if h : ∃ n, i64ok n ∧ Lib.itoa n = s then some h.choose else none
theorem numS_itoa {n : Int} (h : i64ok n) : numS (Lib.itoa n) = some n := by
  unfold numS
  have he : ∃ m, i64ok m ∧ Lib.itoa m = Lib.itoa n := ⟨n, h, rfl⟩
  rw [dif_pos he, itoa_inj he.choose_spec.2]
theorem numS_some {s : List UInt8} {n : Int} (h : numS s = some n) : i64ok n ∧ Lib.itoa n = s := by
  unfold numS at h
  split at h
  · rename_i he
    rw [← Option.some.inj h]
    exact he.choose_spec
  · cases h
theorem numS_dec {s : List UInt8} {m : Int} (hm : i64ok m) (hs : ∀ n, i64ok n → Lib.itoa n = s → m = n) : (numS s).isSome = decide (Lib.itoa m = s) ∧ ∀ n, numS s = some n → m = n := by
  refine ⟨?_, fun n hn => by have := numS_some hn; exact hs n this.1 this.2⟩
  cases h : numS s with
  | none =>
    rw [eq_comm]
    refine decide_eq_false (fun e => ?_)
    rw [← e, numS_itoa hm] at h
    cases h
  | some n =>
    have := numS_some h
    have e := hs n this.1 this.2
    rw [eq_comm]
    exact decide_eq_true (by rw [e]; exact this.2)
/-! Pieces. -/
def cutA (b : UInt8) : List UInt8 → List UInt8 → List (List UInt8)
  | cur, [] => [cur]
  | cur, x :: xs => if x = b then cur :: cutA b [] xs else cutA b (cur ++ [x]) xs
def cutL (b : UInt8) (s : List UInt8) : List (List UInt8) := cutA b [] s
theorem cutA_no (b : UInt8) : ∀ (l cur rest : List UInt8), b ∉ l → cutA b cur (l ++ b :: rest) = (cur ++ l) :: cutA b [] rest
  | [], cur, rest, _ => by simp [cutA]
  | x :: l, cur, rest, h => by
    have hx : x ≠ b := fun e => h (by rw [e]; exact List.mem_cons_self)
    rw [List.cons_append, cutA, if_neg hx, cutA_no b l _ rest (fun hm => h (List.mem_cons_of_mem _ hm))]
    simp
theorem cutA_end (b : UInt8) : ∀ (l cur : List UInt8), b ∉ l → cutA b cur l = [cur ++ l]
  | [], cur, _ => by simp [cutA]
  | x :: l, cur, h => by
    have hx : x ≠ b := fun e => h (by rw [e]; exact List.mem_cons_self)
    rw [cutA, if_neg hx, cutA_end b l _ (fun hm => h (List.mem_cons_of_mem _ hm))]
    simp
theorem cutA_ne (b : UInt8) : ∀ (l cur : List UInt8), cutA b cur l ≠ []
  | [], _ => by simp [cutA]
  | x :: l, cur => by
    rw [cutA]; split
    · simp
    · exact cutA_ne b l _
theorem cutL_len (b : UInt8) : ∀ (l cur : List UInt8), (cutA b cur l).length = l.count b + 1
  | [], _ => by simp [cutA]
  | x :: l, cur => by
    rw [cutA]; split
    · rename_i h
      rw [List.length_cons, cutL_len b l, h]; simp
    · rename_i h
      rw [cutL_len b l, List.count_cons_of_ne (by simpa using h)]
theorem cutA_pre (b : UInt8) : ∀ (l cur : List UInt8), ∃ p ps, cutA b cur l = (cur ++ p) :: ps ∧ cutA b [] l = p :: ps
  | [], cur => ⟨[], [], by simp [cutA], by simp [cutA]⟩
  | x :: l, cur => by
    rw [cutA, cutA]
    by_cases h : x = b
    · rw [if_pos h, if_pos h]
      exact ⟨[], _, by simp, rfl⟩
    · rw [if_neg h, if_neg h]
      obtain ⟨p, ps, h1, h2⟩ := cutA_pre b l (cur ++ [x])
      obtain ⟨p', ps', h3, h4⟩ := cutA_pre b l ([] ++ [x])
      rw [h2] at h4
      injection h4 with e1 e2
      subst e1 e2
      exact ⟨[x] ++ p, ps, by rw [h1]; simp, by rw [h3]; simp⟩
theorem index_one (b : UInt8) : ∀ l : List UInt8, (b ∉ l ∧ Lib.index l [b] = -1) ∨ ∃ a r, l = a ++ b :: r ∧ b ∉ a ∧ Lib.index l [b] = (a.length : Int)
  | [] => .inl ⟨by simp, by simp [Lib.index]⟩
  | x :: l => by
    by_cases h : x = b
    · subst h
      exact .inr ⟨[], l, rfl, by simp, by rw [Lib.index]; simp [List.isPrefixOf]⟩
    · have hp : ([b] : List UInt8).isPrefixOf (x :: l) = false := by simp [List.isPrefixOf, Ne.symm h]
      have hix : Lib.index (x :: l) [b] = if Lib.index l [b] == -1 then -1 else Lib.index l [b] + 1 := by rw [Lib.index, hp]; simp
      rcases index_one b l with ⟨h1, h2⟩ | ⟨a, r, rfl, h1, h2⟩
      · refine .inl ⟨by simp [h1, Ne.symm h], ?_⟩
        rw [hix, h2]; rfl
      · refine .inr ⟨x :: a, r, rfl, by simp [h1, Ne.symm h], ?_⟩
        rw [hix, h2, if_neg (by simp)]
        simp
theorem splitK_cut (b : UInt8) : ∀ (k : Nat) (l : List UInt8), l.count b = k → Lib.splitK [b] 0 k l = cutL b l
  | 0, l, h => by
    have hb : b ∉ l := List.count_eq_zero.1 h
    rw [cutL, cutA_end b l [] hb]; rfl
  | k + 1, l, h => by
    rcases index_one b l with ⟨h1, _⟩ | ⟨a, r, rfl, h1, h2⟩
    · rw [List.count_eq_zero.2 h1] at h; cases h
    · rw [Lib.splitK, h2, if_neg (by simp), cutL, cutA_no b a [] r h1]
      have hc : r.count b = k := by
        rw [List.count_append, List.count_eq_zero.2 h1, List.count_cons_self] at h; omega
      have e1 : ((a.length : Int)).toNat = a.length := by omega
      rw [e1, Nat.add_zero, List.take_left]
      congr 1
      rw [show a.length + [b].length = (a ++ [b]).length by simp, show a ++ b :: r = (a ++ [b]) ++ r by simp, List.drop_left, splitK_cut b k r hc]
      rfl
theorem splitB_cut (b : UInt8) (s : List UInt8) : (Lib.splitB ⟨[b].toArray⟩ 0 (Lib.countB ⟨s.toArray⟩ ⟨[b].toArray⟩) ⟨s.toArray⟩).map Value.string = (cutL b s).map fun l => Value.string ⟨l.toArray⟩ := by
  have hcnt : Lib.countB ⟨s.toArray⟩ ⟨[b].toArray⟩ = s.count b := Lib.count_one b s
  rw [hcnt]
  have h1 := Lib.splitB_data ⟨[b].toArray⟩ 0 (s.count b) ⟨s.toArray⟩
  have h2 : (Lib.splitB ⟨[b].toArray⟩ 0 (s.count b) ⟨s.toArray⟩) = (cutL b s).map fun l => (⟨l.toArray⟩ : ByteArray) := by
    rw [← splitK_cut b (s.count b) s rfl]
    have h3 := congrArg (List.map fun l : List UInt8 => (⟨l.toArray⟩ : ByteArray)) h1
    rw [List.map_map] at h3
    rw [show ((fun l : List UInt8 => (⟨l.toArray⟩ : ByteArray)) ∘ fun x : ByteArray => x.data.toList) = id from funext fun x => rfl, List.map_id] at h3
    exact h3
  rw [h2, List.map_map]
  rfl
def strsV (l : List (List UInt8)) : List Value := l.map fun x => .string ⟨x.toArray⟩
theorem strsV_len (l : List (List UInt8)) : (strsV l).length = l.length := by simp [strsV]
theorem strsV_get {l : List (List UInt8)} {i : Nat} {x : List UInt8} (h : l[i]? = some x) : (strsV l)[i]? = some (.string ⟨x.toArray⟩) := by simp [strsV, h]
theorem strsV_app (a b : List (List UInt8)) : strsV (a ++ b) = strsV a ++ strsV b := by simp [strsV]
theorem cut_one (b : UInt8) (s : List UInt8) : (∃ a r, s = a ++ b :: r ∧ b ∉ a ∧ Lib.cut s [b] = (a, r, true)) ∨ (b ∉ s ∧ Lib.cut s [b] = (s, [], false)) := by
  rcases index_one b s with ⟨h1, h2⟩ | ⟨a, r, rfl, h1, h2⟩
  · refine .inr ⟨h1, ?_⟩
    unfold Lib.cut
    rw [h2, if_neg (by decide)]
  · refine .inl ⟨a, r, rfl, h1, ?_⟩
    unfold Lib.cut
    rw [h2, if_pos (by omega)]
    have e1 : ((a.length : Int)).toNat = a.length := by omega
    rw [e1, List.take_left, show a.length + [b].length = (a ++ [b]).length by simp, show a ++ b :: r = (a ++ [b]) ++ r by simp, List.drop_left]
/-! A step's line, a head, a listing. -/
noncomputable def fillS : List UInt8 → List (List UInt8) → Option (List Int)
  | [], [] => some []
  | [], _ :: _ => none
  | _ :: cs, [] => (fillS cs []).map (0 :: ·)
  | _ :: cs, [] :: ws => (fillS cs ([] :: ws)).map (0 :: ·)
  | c :: cs, (b :: t) :: ws =>
    if b = c then
      match numS t with
      | some n => if n = 0 then none else (fillS cs ws).map (n :: ·)
      | none => none
    else (fillS cs ((b :: t) :: ws)).map (0 :: ·)
def opS (w : List UInt8) : Option Int := ([1, 2, 3, 4, 5, 6, 7, 8, 9, 10, 11] : List Int).find? fun i => decide (nmB i = w)
def stpOf (op : Int) (x : List Int) : Stp := ⟨op, x.getD 0 0, x.getD 1 0, x.getD 2 0, x.getD 3 0, x.getD 4 0, x.getD 5 0⟩
noncomputable def stepS (l : List UInt8) : Option Stp :=
  match cutL 32 l with
  | [] => none
  | w :: ws => match opS w with
    | none => none
    | some op => (fillS letters ws).map (stpOf op)
noncomputable def numsS : List (List UInt8) → Option (List Int)
  | [] => some []
  | w :: ws => match numS w with
    | none => none
    | some n => (numsS ws).map (n :: ·)
def prgOf (x : List Int) : Prg := ⟨x.getD 0 0, x.getD 1 0, x.getD 2 0, x.getD 3 0, []⟩
noncomputable def headS (l : List UInt8) : Option Prg :=
  match cutL 32 l with
  | [] => none
  | w :: ws => if ws.length = 4 ∧ w = timbre then (numsS ws).map prgOf else none
inductive RR where
  | ok (p : Prg)
  | err (line : Nat) (code : Nat)
/-- the lines behind the first; i: how many lines were read -/
noncomputable def linesS (p : Prg) : Nat → List (List UInt8) → RR
  | i, [] => .err (i + 1) 6
  | i, [l] => if l = [] then .ok p else .err (i + 1) 6
  | i, l :: l2 :: ls => match stepS l with
    | none => .err (i + 1) 6
    | some x => if formB x then linesS { p with steps := p.steps ++ [x] } (i + 1) (l2 :: ls) else .err (i + 1) 9
noncomputable def readS (s : List UInt8) : RR :=
  match cutL 10 s with
  | [] => .err 1 6
  | [_] => .err 1 6
  | l :: l2 :: ls => match headS l with
    | none => .err 1 6
    | some p => linesS p 1 (l2 :: ls)

end Go.Proofs.YtgkmmbdlclecnaaDoor

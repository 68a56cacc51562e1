/- Package check: rows of a fly; plain facts. -/
import Derived.Test.YtafhajgebhicdaaDoorCk
namespace Go.Proofs.YtafhajgebhicdaaDoor
open Go Go.Eng
set_option maxRecDepth 100000
set_option linter.unusedVariables false
set_option linter.unusedSimpArgs false

def rowC (s : Stp) (q : Nat) : Cl := ⟨s.dst + q * s.jump, 1, s.count⟩
def rowsC (s : Stp) (k : Nat) : List Cl := (List.range k).map (rowC s)
def clsV (l : List Cl) : List Value := (l.map Cl.v).flatten
theorem clsV_len (l : List Cl) : (clsV l).length = l.length * 3 := flat_len Cl.v 3 (fun _ => rfl) l
theorem rowsC_len (s : Stp) (k : Nat) : (rowsC s k).length = k := by simp [rowsC]
theorem rowsC_succ (s : Stp) (k : Nat) : rowsC s (k + 1) = rowsC s k ++ [rowC s k] := by simp [rowsC, List.range_succ]
theorem clsV_app (a b : List Cl) : clsV (a ++ b) = clsV a ++ clsV b := by simp [clsV]
theorem cl_cell (c : Cl) : ∀ v ∈ c.v, isCell v = true := by
  intro v hv
  simp only [Cl.v, List.mem_cons, List.not_mem_nil, or_false] at hv
  rcases hv with rfl | rfl | rfl <;> rfl
theorem clsV_read {l : List Cl} {i : Nat} {c : Cl} (h : l[i]? = some c) : readN (clsV l) (i * 3) 3 = some c.v := readN_flat (f := Cl.v) (sz := 3) (fun _ => rfl) h
theorem rowsC_get {s : Stp} {k i : Nat} (h : i < k) : (rowsC s k)[i]? = some (rowC s i) := by simp [rowsC, h]
theorem row_mul {s : Stp} (hf : formB s = true) {k : Nat} (hk : (k : Int) ≤ s.n) : 0 ≤ (k : Int) * s.jump ∧ (k : Int) * s.jump ≤ 4294967296 := by
  obtain ⟨_, _, _, _, _, _, _, _, hj0, hj1, _, hn1, _⟩ := form_facts hf
  refine ⟨Int.mul_nonneg (by omega) hj0, ?_⟩
  have h1 : (k : Int) * s.jump ≤ 16384 * s.jump := Int.mul_le_mul_of_nonneg_right (by omega) hj0
  omega
theorem rowC_ok {s : Stp} (hf : formB s = true) {k : Nat} (hk : (k : Int) ≤ s.n) : (rowC s k).Ok := by
  have hm := row_mul hf hk
  obtain ⟨_, _, _, _, _, _, _, _, _, _, _, _, _⟩ := form_facts hf
  constructor <;> simp only [rowC] <;> omega
theorem wr_ok {s : Stp} (hf : formB s = true) : (wr s).Ok := by
  obtain ⟨_, _, _, _, _, _, _, _, _, _, _, _, hj, _⟩ := form_facts hf
  unfold wr
  split <;> constructor <;> simp only <;> omega
theorem rds_ok {s : Stp} (hf : formB s = true) {r : Cl} {ev : Bool} (h : rds s = some (r, ev)) : r.Ok := by
  obtain ⟨_, _, _, _, _, _, _, _, _, _, _, _, hj, _, h6⟩ := form_facts hf
  unfold rds at h
  split at h
  · cases h; constructor <;> simp only <;> omega
  · split at h
    · cases h; constructor <;> simp only <;> omega
    · split at h
      · cases h; constructor <;> simp only <;> omega
      · split at h
        · cases h; constructor <;> simp only <;> omega
        · cases h
theorem goodP_no {s : Stp} {n : Int} (hf : formB s = false) : goodP s n = false := by simp [goodP, hf]
theorem goodP_fly {s : Stp} {n : Int} (hf : formB s = true) (h5 : s.op = 5) : goodP s n = decide ((rowC s (s.n - 1).toNat).last < n) := by
  have := form_facts hf
  unfold goodP
  rw [hf, Bool.true_and, if_pos h5]
  congr 1
  simp only [rowC, Cl.last]
  rw [show (((s.n - 1).toNat : Nat) : Int) = s.n - 1 by omega, Int.mul_one]
theorem goodP_w {s : Stp} {n : Int} (h5 : ¬ s.op = 5) (hw : n ≤ (wr s).last) : goodP s n = false := by
  simp only [goodP, if_neg h5, decide_eq_false (show ¬ (wr s).last < n by omega), Bool.false_and, Bool.and_false]
theorem goodP_r {s : Stp} {n : Int} {r : Cl} {ev : Bool} (h5 : ¬ s.op = 5) (hr : rds s = some (r, ev)) (hw : n ≤ r.last) : goodP s n = false := by
  simp only [goodP, if_neg h5, hr, decide_eq_false (show ¬ r.last < n by omega), Bool.false_and, Bool.and_false]
theorem goodP_i {s : Stp} {n : Int} {r : Cl} {ev : Bool} {i : Nat} (h5 : ¬ s.op = 5) (hr : rds s = some (r, ev)) (hi : (i : Int) < r.cnt) (hk : okRead s r ev i = false) : goodP s n = false := by
  have : (List.range r.cnt.toNat).all (okRead s r ev) = false := by
    cases h : (List.range r.cnt.toNat).all (okRead s r ev) with
    | false => rfl
    | true =>
      have := List.all_eq_true.1 h i (by simp; omega)
      rw [hk] at this; cases this
  simp only [goodP, if_neg h5, hr, this, Bool.and_false]
theorem goodP_yes {s : Stp} {n : Int} (hf : formB s = true) (h5 : ¬ s.op = 5) (hw : (wr s).last < n) (h : ∀ r ev, rds s = some (r, ev) → r.last < n ∧ ∀ i : Nat, (i : Int) < r.cnt → okRead s r ev i = true) : goodP s n = true := by
  simp only [goodP, if_neg h5, hf, decide_eq_true hw, Bool.true_and]
  split
  · rfl
  · rename_i r ev hr
    have ⟨h1, h2⟩ := h _ _ hr
    rw [decide_eq_true h1, Bool.true_and, List.all_eq_true]
    intro i hi
    exact h2 i (by simp at hi; omega)
theorem rdsN_some {s : Stp} {k : Nat} (h : k < rdsN s) : k = 0 ∧ rdsN s = 1 ∧ ∃ r ev, rds s = some (r, ev) ∧ rdsV s = rdV r ev := by
  unfold rdsN at h ⊢
  unfold rdsV
  cases hr : rds s with
  | none => rw [hr] at h; cases h
  | some x => rw [hr] at h; obtain ⟨r, ev⟩ := x; exact ⟨Nat.lt_one_iff.1 h, rfl, r, ev, rfl, rfl⟩
theorem rdsN_one {s : Stp} {r : Cl} {ev : Bool} (h : rds s = some (r, ev)) : rdsN s = 1 := by unfold rdsN; rw [h]
theorem fault_len {n : Int} : ∀ {l : List Stp} {i : Nat} {sum : Int}, i ≤ 65536 → faultA n l i sum = -1 → i + l.length ≤ 65536
  | [], i, _, hi, _ => by simpa using hi
  | s :: l, i, sum, hi, h => by
    unfold faultA at h
    split at h
    · omega
    · rename_i h1
      split at h
      · omega
      · have := fault_len (l := l) (i := i + 1) (by
          have : ¬ i = 65536 := fun e => h1 (.inl e)
          omega) h
        simp only [List.length_cons]; omega
theorem fault_none {n : Int} {l : List Stp} (h : faultP l n = -1) : l.length ≤ 65536 ∧ (∀ s ∈ l, goodP s n = true) ∧ cnts l ≤ 67108864 := by
  have hl := fault_len (by decide) h
  have h2 := (faultA_none (by omega)).1 h
  refine ⟨by omega, h2.1, ?_⟩
  rcases h2.2 with rfl | h
  · decide
  · omega
theorem cnts_take {l : List Stp} (h : ∀ s ∈ l, formB s = true) (k : Nat) : 0 ≤ cnts (l.take k) ∧ cnts (l.take k) ≤ cnts l := by
  have h1 := cnts_nonneg (l := l.take k) (fun s hs => h s (List.mem_of_mem_take hs))
  have h2 := cnts_nonneg (l := l.drop k) (fun s hs => h s (List.mem_of_mem_drop hs))
  have h3 : cnts (l.take k) + cnts (l.drop k) = cnts l := by rw [← cnts_app, List.take_append_drop]
  omega
theorem cnts_succ {l : List Stp} {k : Nat} {s : Stp} (h : l[k]? = some s) : cnts (l.take (k + 1)) = cnts (l.take k) + s.count := by
  rw [take_succ_get h, cnts_app]; simp [cnts]
structure Prg.Ow (p : Prg) : Prop where
  len : i64ok p.len
  cells : i64ok p.cells
  inn : i64ok p.inn
  out : i64ok p.out
  steps : ∀ s ∈ p.steps, s.Ok
  num : p.steps.length ≤ 9223372036854775807
theorem Prg.Ok.ow {p : Prg} (h : p.Ok) : p.Ow := ⟨h.len, h.cells, h.inn, h.out, h.steps, Nat.le_trans h.num (by decide)⟩
def chkP (p : Prg) : Nat := if headB p.len p.cells p.inn p.out = true ∧ faultP p.steps p.cells = -1 then 0 else 9
theorem chkP_cases (p : Prg) : chkP p = 0 ∨ chkP p = 9 := by unfold chkP; split <;> simp
theorem chkP_le (p : Prg) : chkP p ≤ 19 := by rcases chkP_cases p with h | h <;> omega
theorem chkP_zero {p : Prg} (h : chkP p = 0) : headB p.len p.cells p.inn p.out = true ∧ faultP p.steps p.cells = -1 := by
  unfold chkP at h
  split at h
  · assumption
  · cases h
def actsN (p : Prg) : Int := if chkP p = 0 then cnts p.steps else 0
theorem fault_neg (l : List Stp) (n : Int) : ¬ 0 ≤ faultP l n → faultP l n = -1 := by
  intro h
  rcases faultA_range (n := n) (l := l) (i := 0) (sum := 0) with h1 | h1
  · exact h1
  · exact absurd (by have := h1.1; simpa [faultP] using this) h
theorem fault_bd (l : List Stp) (n : Int) : -1 ≤ faultP l n ∧ faultP l n ≤ l.length := by
  rcases faultA_range (n := n) (l := l) (i := 0) (sum := 0) with h1 | h1
  · unfold faultP; omega
  · unfold faultP; omega
theorem faultA_bad {n : Int} {l : List Stp} {i : Nat} {sum : Int} {s : Stp} (h : i = 65536 ∨ goodP s n = false) : faultA n (s :: l) i sum = i := by unfold faultA; rw [if_pos h]
theorem faultA_much {n : Int} {l : List Stp} {i : Nat} {sum : Int} {s : Stp} (h : 67108864 < sum + s.count) : faultA n (s :: l) i sum = i := by
  unfold faultA
  by_cases h0 : i = 65536 ∨ goodP s n = false
  · rw [if_pos h0]
  · rw [if_neg h0, if_pos h]
theorem faultA_on {n : Int} {l : List Stp} {i : Nat} {sum : Int} {s : Stp} (h0 : ¬ i = 65536) (hg : goodP s n = true) (h : ¬ 67108864 < sum + s.count) : faultA n (s :: l) i sum = faultA n l (i + 1) (sum + s.count) := by
  rw [faultA, if_neg (by rw [hg]; simp [h0]), if_neg h]

theorem elC : Elem Tryd.prog 60 63 3 24 := Elem.of (by kernel_rfl)
theorem flown_b {w0 w : World} {F : List Seg} (H : Hp w0 w F) {s : Stp} (hf : formB s = true) : Ret Tryd.prog 29 [.agg s.v.toArray] w fun v w' => ∃ p c g, v = .slice p s.n.toNat c ∧ OwnSl 63 3 p s.n.toNat c (clsV (rowsC s s.n.toNat)) g ∧ Hp w0 w' (g :: F) := by
  refine Calls.of_J (n := 25) Tryd.func29 rfl rfl rfl ?_
  refine J.seq ?_
  refine J.region ?_
  refine JL.does trivial (EX.box (v := Value.agg _) H rfl rfl) ?_
  rintro _ w ⟨b1, rfl, H⟩
  refine JL.go trivial (RX.assign) ?_
  refine JL.nil ?_
  refine J.seq ?_
  refine J.region ?_
  refine JL.go trivial (RX.assign) ?_
  refine JL.nil ?_
  refine J.seq ?_
  refine J.seq ?_
  refine J.region ?_
  refine JL.go trivial (RX.fieldAddr rfl fo39_5 rfl) ?_
  refine JL.go trivial (RX.load H rfl (i := 0) (v := .int .i64 s.n) rfl rfl one3) ?_
  refine JL.go trivial (RX.move) ?_
  refine JL.nil ?_
  have ff := form_facts hf
  refine J.block ?_
  refine J.loop (ι := Nat × Option Addr × Nat × Seg) (S := fun q => [(7, .int .i64 (q.1 : Nat)), (3, .slice q.2.1 q.1 q.2.2.1)]) (Φ := fun q w => q.1 ≤ s.n.toNat ∧ OwnSl 63 3 q.2.1 q.1 q.2.2.1 (clsV (rowsC s q.1)) q.2.2.2 ∧ Hp w0 w (q.2.2.2 :: [(b1, cel s.v 39)] :: F)) (μ := fun q => s.n.toNat - q.1) (C := [(1, _), (6, _)]) (0, none, 0, []) ⟨rfl, rfl, trivial⟩ ⟨rfl, rfl, trivial⟩ ?_ ?_
  · exact ⟨by simp, OwnSl.nil, H.nil⟩
  clear H
  rintro ⟨k, p, c, g⟩ ρ w ⟨hk, ho, H⟩ IH
  simp only at hk ho H
  dsimp only
  refine J.seq ?_
  refine J.region ?_
  refine JL.go trivial (RX.lt rfl rfl) ?_
  refine JL.nil ?_
  refine J.seq ?_
  refine J.cond_d rfl (fun hlt => ?_) (fun hlt => ?_)
  · skip
    have hm := row_mul hf (k := k) (by omega)
    refine J.skip ?_
    refine J.seq ?_
    refine J.block ?_
    refine J.seq ?_
    refine J.region ?_
    refine JL.go trivial (RX.movev (v := Value.int _ _) rfl) ?_
    refine JL.go trivial (RX.assignv (v := Value.int _ _) rfl) ?_
    refine JL.nil ?_
    refine J.region ?_
    refine JL.go trivial (RX.movev (v := Value.slice _ _ _) rfl) ?_
    refine JL.go trivial (RX.fieldAddr rfl fo39_1 rfl) ?_
    refine JL.go trivial (RX.load H rfl (i := 1) (v := .int .i64 s.dst) rfl rfl one3) ?_
    refine JL.go trivial (RX.movev (v := Value.int _ _) rfl) ?_
    refine JL.go trivial (RX.fieldAddr rfl fo39_3 rfl) ?_
    refine JL.go trivial (RX.load H rfl (i := 1) (v := .int .i64 s.jump) rfl rfl one3) ?_
    refine JL.go trivial (RX.mul rfl rfl (w_i64 rfl (by omega) (by omega))) ?_
    refine JL.go trivial (RX.add rfl rfl (w_i64 rfl (by omega) (by omega))) ?_
    refine JL.go trivial (RX.fieldAddr rfl fo39_4 rfl) ?_
    refine JL.go trivial (RX.load H rfl (i := 1) (v := .int .i64 s.count) rfl rfl one3) ?_
    refine JL.go trivial (RX.build (pv := [(0, .int .i64 (s.dst + (k : Nat) * s.jump)), (1, .int .i64 1), (2, .int .i64 s.count)]) (res := [.int .i64 (s.dst + (k : Nat) * s.jump), .int .i64 1, .int .i64 s.count]) rfl (by kernel_rfl)) ?_
    refine JL.does trivial (EX.buildSlice (pv := [(0, .agg (rowC s k).v.toArray)]) (l := (rowC s k).v) (e := 63) H rfl (by kernel_rfl)) ?_
    rintro _ w ⟨br, rfl, H⟩
    refine JL.does trivial (EX.append (ys := (rowC s k).v) (L' := fun s' => [(br, cel (rowC s k).v 63)] :: s' :: [(b1, cel s.v 39)] :: F) H elC rfl rfl (i := 1) rfl ho (SlAt.here rfl) rfl (cl_cell _) (by decide) (by omega) (by omega) (fun _ => rfl)) ?_
    rintro _ w ⟨p3, c3, s3, rfl, ho3, H⟩
    refine JL.go trivial (RX.assignv (v := Value.slice _ _ _) rfl) ?_
    refine JL.nil ?_
    refine J.inBlock ?_
    refine J.region ?_
    refine JL.go trivial (RX.add rfl rfl (w_i64 (r := ((k + 1 : Nat) : Int)) (by omega) (by omega) (by omega))) ?_
    refine JL.go trivial (RX.movev (v := Value.int _ _) rfl) ?_
    refine JL.nil ?_
    rw [show clsV (rowsC s k) ++ (rowC s k).v = clsV (rowsC s (k + 1)) by rw [rowsC_succ, clsV_app]; simp [clsV]] at ho3
    exact IH (k + 1, p3, c3, s3) _ _ (by simp only; omega) ⟨rfl, rfl, trivial⟩ ⟨rfl, rfl, trivial⟩ ⟨by simp only; omega, ho3, H.drop⟩
  · skip
    refine J.exit rfl ?_
    refine J.seq ?_
    refine J.region ?_
    refine JL.go trivial (RX.movev (v := Value.slice _ _ _) rfl) ?_
    refine JL.go trivial (RX.assignv (v := Value.slice _ _ _) rfl) ?_
    refine JL.nil ?_
    refine J.ret1 (v := Value.slice _ _ _) Tryd.func29 rfl rfl ?_
    have hkn : k = s.n.toNat := by omega
    subst hkn
    exact ⟨_, rfl, p, c, g, rfl, ho, (H.pull 1 rfl).drop⟩
end Go.Proofs.YtafhajgebhicdaaDoor

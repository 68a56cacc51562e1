/- The laws of chapter 15: the fields. -/
import Derived.Test.YtnbbeghaeijcbaaDoorLw3
namespace Go.Proofs.YtnbbeghaeijcbaaDoor
open Go Go.Eng
set_option maxRecDepth 100000
set_option linter.unusedVariables false
set_option linter.unusedSimpArgs false

def fo5 (i : Nat) : Nat := if i = 0 then 2 else if i = 1 then 3 else if i = 2 then 5 else if i = 3 then 6 else 1
theorem fo5_lt (i : Nat) : fo5 i < 7 ∧ 1 ≤ fo5 i := by
  unfold fo5
  (repeat' split) <;> omega
def hasB (op : Int) (i : Nat) : Bool :=
  if op = 1 ∨ op = 2 then decide (i = 0 ∨ i = 1 ∨ i = 4) else if op = 4 then decide (i = 2 ∨ i = 3 ∨ i = 4) else if op = 5 then decide (i = 1 ∨ i = 2 ∨ i = 4) else if op = 6 then decide (i ≠ 3)
  else if op = 7 ∨ op = 8 ∨ op = 11 then decide (i = 2 ∨ i = 4) else if op = 9 then decide (i = 0 ∨ i = 4) else decide (i = 4)
theorem has_row {op : Int} (h0 : 1 ≤ op) (h1 : op ≤ 11) : hasB op 0 = (rowOf op).src ∧ hasB op 1 = (rowOf op).jump ∧ hasB op 2 = decide (0 < (rowOf op).n) ∧ hasB op 3 = (rowOf op).k ∧ hasB op 4 = true := by
  rcases op_cases h0 h1 with rfl | rfl | rfl | rfl | rfl | rfl | rfl | rfl | rfl | rfl | rfl <;> decide
theorem fromB_no {b : Bool} {x lo hi : Int} (hb : b = false) (h : fromB b x lo hi = true) : x = 0 := by
  subst hb; simpa [fromB] using h
theorem no_field {s : Stp} {i : Nat} (hf : formB s = true) (hi : i < 5) (hh : hasB s.op i = false) : s.at_ (fo5 i) = 0 ∧ ∀ x, x ≠ 0 → formB (s.put (fo5 i) x) = false := by
  have hop := form_op hf
  obtain ⟨r0, r1, r2, r3, r4⟩ := has_row hop.1 hop.2
  have key : ∀ x, formB (s.put (fo5 i) x) = true → x = 0 := by
    intro x h
    have hput := Stp.put_op (s := s) (x := x) (fo5_lt i).2
    simp only [formB, Bool.and_eq_true] at h
    obtain ⟨⟨_, ⟨⟨⟨⟨_, _⟩, hs⟩, hj⟩, hn⟩, hk⟩, _⟩ := h
    rw [hput] at hs hj hn hk
    have : i = 0 ∨ i = 1 ∨ i = 2 ∨ i = 3 ∨ i = 4 := by omega
    rcases this with rfl | rfl | rfl | rfl | rfl
    · exact fromB_no (by rw [← r0]; exact hh) hs
    · exact fromB_no (by rw [← r1]; exact hh) hj
    · exact fromB_no (by rw [← r2]; exact hh) hn
    · exact fromB_no (by rw [← r3]; exact hh) hk
    · rw [r4] at hh; cases hh
  have hself : s.put (fo5 i) (s.at_ (fo5 i)) = s := by
    have : i = 0 ∨ i = 1 ∨ i = 2 ∨ i = 3 ∨ i = 4 := by omega
    rcases this with rfl | rfl | rfl | rfl | rfl <;> rfl
  refine ⟨key _ (by rw [hself]; exact hf), fun x hx => ?_⟩
  cases h : formB (s.put (fo5 i) x)
  · rfl
  · exact absurd (key x h) hx
theorem put_eq {s : Stp} {o : Nat} {x : Int} (h : o < 7) : (s = s.put o x) ↔ x = s.at_ o := by
  constructor
  · intro e
    have h1 := Stp.put_at (s := s) (x := x) h h
    rw [← e, if_pos rfl] at h1
    exact h1.symm
  · intro e
    subst e
    rcases seven h with rfl | rfl | rfl | rfl | rfl | rfl | rfl <;> rfl
theorem Stp.put_ok {s : Stp} {o : Nat} {x : Int} (hs : s.Ok) (hx : i64ok x) (h : o < 7) : (s.put o x).Ok := by
  obtain ⟨a, b, c, d, e, f, g⟩ := hs
  rcases seven h with rfl | rfl | rfl | rfl | rfl | rfl | rfl <;> constructor <;> assumption
theorem at_ok {s : Stp} {o : Nat} (hs : s.Ok) (h : o < 7) : i64ok (s.at_ o) := by
  obtain ⟨a, b, c, d, e, f, g⟩ := hs
  rcases seven h with rfl | rfl | rfl | rfl | rfl | rfl | rfl <;> assumption
def oneP (s : Stp) : Prg := ⟨0, 0, 0, 0, [s]⟩
theorem oneP_len (s : Stp) : (oneP s).steps.length ≤ 9223372036854775807 := by simp [oneP]
theorem oneP_eq (s t : Stp) : (oneP s = oneP t) ↔ s = t := by simp [oneP]
theorem form_count {s : Stp} (h : formB s = true) : 1 ≤ s.count := by
  have := of_decide_eq_true (form_imp h).2.2
  omega

theorem field_b {w0 w : World} {F : List Seg} (H : Hp w0 w F) {b i : Nat} (hi : i < 5) : Ret Tryd.prog 22 [.pointer (some ⟨b, 0, none⟩), .int .i64 (i : Nat)] w fun v w' => v = .pointer (some ⟨b, fo5 i, none⟩) ∧ Hp w0 w' F := by
  refine Calls.of_J (n := 30) Tryd.func22 rfl rfl rfl ?_
  refine J.seq ?_
  refine J.region ?_
  refine JL.go trivial (RX.assign) ?_
  refine JL.nil ?_
  refine J.seq ?_
  refine J.seq ?_
  refine J.region ?_
  refine JL.go trivial (RX.movev (v := Value.int _ _) rfl) ?_
  refine JL.go trivial (RX.rem rfl rfl (by decide) (Int.tmod_eq_emod_of_nonneg (by omega))) ?_
  refine JL.nil ?_
  refine J.block ?_
  refine J.seq ?_
  refine J.region ?_
  refine JL.go trivial (RX.eq rfl rfl) ?_
  refine JL.go trivial (RX.assignv (v := Value.bool _) rfl) ?_
  refine JL.nil ?_
  refine J.cond_d rfl (fun h0 => ?_) (fun h0 => ?_)
  · skip
    refine J.seq ?_
    refine J.region ?_
    refine JL.go trivial (RX.movev (v := Value.pointer _) rfl) ?_
    refine JL.go trivial (RX.nilCheck rfl) ?_
    refine JL.go trivial (RX.fieldAddr rfl fo25_2 rfl) ?_
    refine JL.go trivial (RX.assignv (v := Value.pointer _) rfl) ?_
    refine JL.nil ?_
    refine J.ret1 (v := Value.pointer _) Tryd.func22 rfl rfl ?_
    exact ⟨_, rfl, (by rw [show i = 0 by omega]; rfl), H⟩
  · skip
    refine J.seq ?_
    refine J.region ?_
    refine JL.go trivial (RX.eq rfl rfl) ?_
    refine JL.go trivial (RX.assignv (v := Value.bool _) rfl) ?_
    refine JL.nil ?_
    refine J.cond_d rfl (fun h1 => ?_) (fun h1 => ?_)
    · skip
      refine J.seq ?_
      refine J.region ?_
      refine JL.go trivial (RX.movev (v := Value.pointer _) rfl) ?_
      refine JL.go trivial (RX.nilCheck rfl) ?_
      refine JL.go trivial (RX.fieldAddr rfl fo25_3 rfl) ?_
      refine JL.go trivial (RX.assignv (v := Value.pointer _) rfl) ?_
      refine JL.nil ?_
      refine J.ret1 (v := Value.pointer _) Tryd.func22 rfl rfl ?_
      exact ⟨_, rfl, (by rw [show i = 1 by omega]; rfl), H⟩
    · skip
      refine J.seq ?_
      refine J.region ?_
      refine JL.go trivial (RX.eq rfl rfl) ?_
      refine JL.go trivial (RX.assignv (v := Value.bool _) rfl) ?_
      refine JL.nil ?_
      refine J.cond_d rfl (fun h2 => ?_) (fun h2 => ?_)
      · skip
        refine J.seq ?_
        refine J.region ?_
        refine JL.go trivial (RX.movev (v := Value.pointer _) rfl) ?_
        refine JL.go trivial (RX.nilCheck rfl) ?_
        refine JL.go trivial (RX.fieldAddr rfl fo25_5 rfl) ?_
        refine JL.go trivial (RX.assignv (v := Value.pointer _) rfl) ?_
        refine JL.nil ?_
        refine J.ret1 (v := Value.pointer _) Tryd.func22 rfl rfl ?_
        exact ⟨_, rfl, (by rw [show i = 2 by omega]; rfl), H⟩
      · skip
        refine J.seq ?_
        refine J.region ?_
        refine JL.go trivial (RX.eq rfl rfl) ?_
        refine JL.go trivial (RX.assignv (v := Value.bool _) rfl) ?_
        refine JL.nil ?_
        refine J.cond_d rfl (fun h3 => ?_) (fun h3 => ?_)
        · skip
          refine J.seq ?_
          refine J.region ?_
          refine JL.go trivial (RX.movev (v := Value.pointer _) rfl) ?_
          refine JL.go trivial (RX.nilCheck rfl) ?_
          refine JL.go trivial (RX.fieldAddr rfl fo25_6 rfl) ?_
          refine JL.go trivial (RX.assignv (v := Value.pointer _) rfl) ?_
          refine JL.nil ?_
          refine J.ret1 (v := Value.pointer _) Tryd.func22 rfl rfl ?_
          exact ⟨_, rfl, (by rw [show i = 3 by omega]; rfl), H⟩
        · skip
          refine J.skip ?_
          refine J.inBlock ?_
          refine J.seq ?_
          refine J.region ?_
          refine JL.go trivial (RX.movev (v := Value.pointer _) rfl) ?_
          refine JL.go trivial (RX.nilCheck rfl) ?_
          refine JL.go trivial (RX.fieldAddr rfl fo25_1 rfl) ?_
          refine JL.go trivial (RX.assignv (v := Value.pointer _) rfl) ?_
          refine JL.nil ?_
          refine J.ret1 (v := Value.pointer _) Tryd.func22 rfl rfl ?_
          exact ⟨_, rfl, (by rw [show i = 4 by omega]; rfl), H⟩
theorem has_b {w0 w : World} {F : List Seg} (H : Hp w0 w F) {op : Int} {i : Nat} : Ret Tryd.prog 23 [.int .i64 op, .int .i64 (i : Nat)] w fun v w' => v = .bool (hasB op i) ∧ Hp w0 w' F := by
  refine Calls.of_J (n := 67) Tryd.func23 rfl rfl rfl ?_
  refine J.seq ?_
  refine J.region ?_
  refine JL.go trivial (RX.assign) ?_
  refine JL.nil ?_
  refine J.seq ?_
  refine J.seq ?_
  refine J.region ?_
  refine JL.go trivial (RX.movev (v := Value.int _ _) rfl) ?_
  refine JL.nil ?_
  refine J.block ?_
  refine J.seq ?_
  refine J.seq ?_
  refine J.region ?_
  refine JL.go trivial (RX.eq rfl rfl) ?_
  refine JL.go trivial (RX.assignv (v := Value.bool _) rfl) ?_
  refine JL.nil ?_
  refine J.cond_d rfl (fun h1 => ?_) (fun h1 => ?_)
  · skip
    refine J.skip ?_
    refine J.cond_t rfl (decide_eq_true h1) ?_
    refine J.seq ?_
    refine J.region ?_
    refine JL.go trivial (RX.movev (v := Value.int _ _) rfl) ?_
    refine JL.go trivial (RX.eq rfl rfl) ?_
    refine JL.go trivial (RX.movev (v := Value.bool _) rfl) ?_
    refine JL.splitS 11 rfl (fun h2 => ?_) (fun h2 => ?_)
    · skip
      first | have h2p := of_decide_eq_true h2 | skip
      refine JL.no ⟨_, rfl, gno h2⟩ ?_
      refine JL.no ⟨_, rfl, gno h2⟩ ?_
      refine JL.go trivial (RX.pick_t rfl h2) ?_
      refine JL.go trivial (RX.movev (v := Value.bool _) rfl) ?_
      refine JL.no ⟨_, rfl, gno rfl⟩ ?_
      refine JL.no ⟨_, rfl, gno rfl⟩ ?_
      refine JL.go trivial (RX.pick_t rfl rfl) ?_
      refine JL.go trivial (RX.assignv (v := Value.bool _) rfl) ?_
      refine JL.nil ?_
      refine J.ret1 (v := Value.bool _) Tryd.func23 rfl rfl ?_
      refine ⟨_, rfl, ?_, H⟩
      congr 1
      unfold hasB
      (repeat' split) <;> first | rfl | (exfalso; omega) | (symm; apply decide_eq_true; omega) | (symm; apply decide_eq_false; omega) | (rw [decide_eq_decide]; omega) | (apply decide_eq_true; omega)
    · skip
      first | have h2p := of_decide_eq_false h2 | skip
      refine JL.go ⟨_, rfl, h2⟩ (RX.movev (v := Value.int _ _) rfl) ?_
      refine JL.go ⟨_, rfl, h2⟩ (RX.eq rfl rfl) ?_
      refine JL.go trivial (RX.pick_f rfl h2) ?_
      refine JL.go trivial (RX.movev (v := Value.bool _) rfl) ?_
      refine JL.splitS 15 rfl (fun h3 => ?_) (fun h3 => ?_)
      · skip
        first | have h3p := of_decide_eq_true h3 | skip
        refine JL.no ⟨_, rfl, gno h3⟩ ?_
        refine JL.no ⟨_, rfl, gno h3⟩ ?_
        refine JL.go trivial (RX.pick_t rfl h3) ?_
        refine JL.go trivial (RX.assignv (v := Value.bool _) rfl) ?_
        refine JL.nil ?_
        refine J.ret1 (v := Value.bool _) Tryd.func23 rfl rfl ?_
        refine ⟨_, rfl, ?_, H⟩
        congr 1
        unfold hasB
        (repeat' split) <;> first | rfl | (exfalso; omega) | (symm; apply decide_eq_true; omega) | (symm; apply decide_eq_false; omega) | (rw [decide_eq_decide]; omega) | (apply decide_eq_true; omega)
      · skip
        first | have h3p := of_decide_eq_false h3 | skip
        refine JL.go ⟨_, rfl, h3⟩ (RX.movev (v := Value.int _ _) rfl) ?_
        refine JL.go ⟨_, rfl, h3⟩ (RX.eq rfl rfl) ?_
        refine JL.go trivial (RX.pick_f rfl h3) ?_
        refine JL.go trivial (RX.assignv (v := Value.bool _) rfl) ?_
        refine JL.nil ?_
        refine J.ret1 (v := Value.bool _) Tryd.func23 rfl rfl ?_
        refine ⟨_, rfl, ?_, H⟩
        congr 1
        unfold hasB
        (repeat' split) <;> first | rfl | (exfalso; omega) | (symm; apply decide_eq_true; omega) | (symm; apply decide_eq_false; omega) | (rw [decide_eq_decide]; omega) | (apply decide_eq_true; omega)
  · skip
    refine J.region ?_
    refine JL.go trivial (RX.eq rfl rfl) ?_
    refine JL.go trivial (RX.assignv (v := Value.bool _) rfl) ?_
    refine JL.nil ?_
    refine J.cond_d rfl (fun h4 => ?_) (fun h4 => ?_)
    · skip
      refine J.seq ?_
      refine J.region ?_
      refine JL.go trivial (RX.movev (v := Value.int _ _) rfl) ?_
      refine JL.go trivial (RX.eq rfl rfl) ?_
      refine JL.go trivial (RX.movev (v := Value.bool _) rfl) ?_
      refine JL.splitS 11 rfl (fun h5 => ?_) (fun h5 => ?_)
      · skip
        first | have h5p := of_decide_eq_true h5 | skip
        refine JL.no ⟨_, rfl, gno h5⟩ ?_
        refine JL.no ⟨_, rfl, gno h5⟩ ?_
        refine JL.go trivial (RX.pick_t rfl h5) ?_
        refine JL.go trivial (RX.movev (v := Value.bool _) rfl) ?_
        refine JL.no ⟨_, rfl, gno rfl⟩ ?_
        refine JL.no ⟨_, rfl, gno rfl⟩ ?_
        refine JL.go trivial (RX.pick_t rfl rfl) ?_
        refine JL.go trivial (RX.assignv (v := Value.bool _) rfl) ?_
        refine JL.nil ?_
        refine J.ret1 (v := Value.bool _) Tryd.func23 rfl rfl ?_
        refine ⟨_, rfl, ?_, H⟩
        congr 1
        unfold hasB
        (repeat' split) <;> first | rfl | (exfalso; omega) | (symm; apply decide_eq_true; omega) | (symm; apply decide_eq_false; omega) | (rw [decide_eq_decide]; omega) | (apply decide_eq_true; omega)
      · skip
        first | have h5p := of_decide_eq_false h5 | skip
        refine JL.go ⟨_, rfl, h5⟩ (RX.movev (v := Value.int _ _) rfl) ?_
        refine JL.go ⟨_, rfl, h5⟩ (RX.eq rfl rfl) ?_
        refine JL.go trivial (RX.pick_f rfl h5) ?_
        refine JL.go trivial (RX.movev (v := Value.bool _) rfl) ?_
        refine JL.splitS 15 rfl (fun h6 => ?_) (fun h6 => ?_)
        · skip
          first | have h6p := of_decide_eq_true h6 | skip
          refine JL.no ⟨_, rfl, gno h6⟩ ?_
          refine JL.no ⟨_, rfl, gno h6⟩ ?_
          refine JL.go trivial (RX.pick_t rfl h6) ?_
          refine JL.go trivial (RX.assignv (v := Value.bool _) rfl) ?_
          refine JL.nil ?_
          refine J.ret1 (v := Value.bool _) Tryd.func23 rfl rfl ?_
          refine ⟨_, rfl, ?_, H⟩
          congr 1
          unfold hasB
          (repeat' split) <;> first | rfl | (exfalso; omega) | (symm; apply decide_eq_true; omega) | (symm; apply decide_eq_false; omega) | (rw [decide_eq_decide]; omega) | (apply decide_eq_true; omega)
        · skip
          first | have h6p := of_decide_eq_false h6 | skip
          refine JL.go ⟨_, rfl, h6⟩ (RX.movev (v := Value.int _ _) rfl) ?_
          refine JL.go ⟨_, rfl, h6⟩ (RX.eq rfl rfl) ?_
          refine JL.go trivial (RX.pick_f rfl h6) ?_
          refine JL.go trivial (RX.assignv (v := Value.bool _) rfl) ?_
          refine JL.nil ?_
          refine J.ret1 (v := Value.bool _) Tryd.func23 rfl rfl ?_
          refine ⟨_, rfl, ?_, H⟩
          congr 1
          unfold hasB
          (repeat' split) <;> first | rfl | (exfalso; omega) | (symm; apply decide_eq_true; omega) | (symm; apply decide_eq_false; omega) | (rw [decide_eq_decide]; omega) | (apply decide_eq_true; omega)
    · skip
      refine J.seq ?_
      refine J.region ?_
      refine JL.go trivial (RX.eq rfl rfl) ?_
      refine JL.go trivial (RX.assignv (v := Value.bool _) rfl) ?_
      refine JL.nil ?_
      refine J.cond_d rfl (fun h7 => ?_) (fun h7 => ?_)
      · skip
        refine J.seq ?_
        refine J.region ?_
        refine JL.go trivial (RX.movev (v := Value.int _ _) rfl) ?_
        refine JL.go trivial (RX.eq rfl rfl) ?_
        refine JL.go trivial (RX.movev (v := Value.bool _) rfl) ?_
        refine JL.splitS 23 rfl (fun h8 => ?_) (fun h8 => ?_)
        · skip
          first | have h8p := of_decide_eq_true h8 | skip
          refine JL.no ⟨_, rfl, gno h8⟩ ?_
          refine JL.no ⟨_, rfl, gno h8⟩ ?_
          refine JL.go trivial (RX.pick_t rfl h8) ?_
          refine JL.go trivial (RX.movev (v := Value.bool _) rfl) ?_
          refine JL.no ⟨_, rfl, gno rfl⟩ ?_
          refine JL.no ⟨_, rfl, gno rfl⟩ ?_
          refine JL.go trivial (RX.pick_t rfl rfl) ?_
          refine JL.go trivial (RX.assignv (v := Value.bool _) rfl) ?_
          refine JL.nil ?_
          refine J.ret1 (v := Value.bool _) Tryd.func23 rfl rfl ?_
          refine ⟨_, rfl, ?_, H⟩
          congr 1
          unfold hasB
          (repeat' split) <;> first | rfl | (exfalso; omega) | (symm; apply decide_eq_true; omega) | (symm; apply decide_eq_false; omega) | (rw [decide_eq_decide]; omega) | (apply decide_eq_true; omega)
        · skip
          first | have h8p := of_decide_eq_false h8 | skip
          refine JL.go ⟨_, rfl, h8⟩ (RX.movev (v := Value.int _ _) rfl) ?_
          refine JL.go ⟨_, rfl, h8⟩ (RX.eq rfl rfl) ?_
          refine JL.go trivial (RX.pick_f rfl h8) ?_
          refine JL.go trivial (RX.movev (v := Value.bool _) rfl) ?_
          refine JL.splitS 27 rfl (fun h9 => ?_) (fun h9 => ?_)
          · skip
            first | have h9p := of_decide_eq_true h9 | skip
            refine JL.no ⟨_, rfl, gno h9⟩ ?_
            refine JL.no ⟨_, rfl, gno h9⟩ ?_
            refine JL.go trivial (RX.pick_t rfl h9) ?_
            refine JL.go trivial (RX.assignv (v := Value.bool _) rfl) ?_
            refine JL.nil ?_
            refine J.ret1 (v := Value.bool _) Tryd.func23 rfl rfl ?_
            refine ⟨_, rfl, ?_, H⟩
            congr 1
            unfold hasB
            (repeat' split) <;> first | rfl | (exfalso; omega) | (symm; apply decide_eq_true; omega) | (symm; apply decide_eq_false; omega) | (rw [decide_eq_decide]; omega) | (apply decide_eq_true; omega)
          · skip
            first | have h9p := of_decide_eq_false h9 | skip
            refine JL.go ⟨_, rfl, h9⟩ (RX.movev (v := Value.int _ _) rfl) ?_
            refine JL.go ⟨_, rfl, h9⟩ (RX.eq rfl rfl) ?_
            refine JL.go trivial (RX.pick_f rfl h9) ?_
            refine JL.go trivial (RX.assignv (v := Value.bool _) rfl) ?_
            refine JL.nil ?_
            refine J.ret1 (v := Value.bool _) Tryd.func23 rfl rfl ?_
            refine ⟨_, rfl, ?_, H⟩
            congr 1
            unfold hasB
            (repeat' split) <;> first | rfl | (exfalso; omega) | (symm; apply decide_eq_true; omega) | (symm; apply decide_eq_false; omega) | (rw [decide_eq_decide]; omega) | (apply decide_eq_true; omega)
      · skip
        refine J.seq ?_
        refine J.region ?_
        refine JL.go trivial (RX.eq rfl rfl) ?_
        refine JL.go trivial (RX.assignv (v := Value.bool _) rfl) ?_
        refine JL.nil ?_
        refine J.cond_d rfl (fun h10 => ?_) (fun h10 => ?_)
        · skip
          refine J.seq ?_
          refine J.region ?_
          refine JL.go trivial (RX.movev (v := Value.int _ _) rfl) ?_
          refine JL.go trivial (RX.eq rfl rfl) ?_
          refine JL.go trivial (RX.movev (v := Value.bool _) rfl) ?_
          refine JL.splitS 35 rfl (fun h11 => ?_) (fun h11 => ?_)
          · skip
            first | have h11p := of_decide_eq_true h11 | skip
            refine JL.no ⟨_, rfl, gno h11⟩ ?_
            refine JL.no ⟨_, rfl, gno h11⟩ ?_
            refine JL.go trivial (RX.pick_t rfl h11) ?_
            refine JL.go trivial (RX.movev (v := Value.bool _) rfl) ?_
            refine JL.no ⟨_, rfl, gno rfl⟩ ?_
            refine JL.no ⟨_, rfl, gno rfl⟩ ?_
            refine JL.go trivial (RX.pick_t rfl rfl) ?_
            refine JL.go trivial (RX.assignv (v := Value.bool _) rfl) ?_
            refine JL.nil ?_
            refine J.ret1 (v := Value.bool _) Tryd.func23 rfl rfl ?_
            refine ⟨_, rfl, ?_, H⟩
            congr 1
            unfold hasB
            (repeat' split) <;> first | rfl | (exfalso; omega) | (symm; apply decide_eq_true; omega) | (symm; apply decide_eq_false; omega) | (rw [decide_eq_decide]; omega) | (apply decide_eq_true; omega)
          · skip
            first | have h11p := of_decide_eq_false h11 | skip
            refine JL.go ⟨_, rfl, h11⟩ (RX.movev (v := Value.int _ _) rfl) ?_
            refine JL.go ⟨_, rfl, h11⟩ (RX.eq rfl rfl) ?_
            refine JL.go trivial (RX.pick_f rfl h11) ?_
            refine JL.go trivial (RX.movev (v := Value.bool _) rfl) ?_
            refine JL.splitS 39 rfl (fun h12 => ?_) (fun h12 => ?_)
            · skip
              first | have h12p := of_decide_eq_true h12 | skip
              refine JL.no ⟨_, rfl, gno h12⟩ ?_
              refine JL.no ⟨_, rfl, gno h12⟩ ?_
              refine JL.go trivial (RX.pick_t rfl h12) ?_
              refine JL.go trivial (RX.assignv (v := Value.bool _) rfl) ?_
              refine JL.nil ?_
              refine J.ret1 (v := Value.bool _) Tryd.func23 rfl rfl ?_
              refine ⟨_, rfl, ?_, H⟩
              congr 1
              unfold hasB
              (repeat' split) <;> first | rfl | (exfalso; omega) | (symm; apply decide_eq_true; omega) | (symm; apply decide_eq_false; omega) | (rw [decide_eq_decide]; omega) | (apply decide_eq_true; omega)
            · skip
              first | have h12p := of_decide_eq_false h12 | skip
              refine JL.go ⟨_, rfl, h12⟩ (RX.movev (v := Value.int _ _) rfl) ?_
              refine JL.go ⟨_, rfl, h12⟩ (RX.eq rfl rfl) ?_
              refine JL.go trivial (RX.pick_f rfl h12) ?_
              refine JL.go trivial (RX.assignv (v := Value.bool _) rfl) ?_
              refine JL.nil ?_
              refine J.ret1 (v := Value.bool _) Tryd.func23 rfl rfl ?_
              refine ⟨_, rfl, ?_, H⟩
              congr 1
              unfold hasB
              (repeat' split) <;> first | rfl | (exfalso; omega) | (symm; apply decide_eq_true; omega) | (symm; apply decide_eq_false; omega) | (rw [decide_eq_decide]; omega) | (apply decide_eq_true; omega)
        · skip
          refine J.seq ?_
          refine J.region ?_
          refine JL.go trivial (RX.eq rfl rfl) ?_
          refine JL.go trivial (RX.assignv (v := Value.bool _) rfl) ?_
          refine JL.nil ?_
          refine J.cond_d rfl (fun h13 => ?_) (fun h13 => ?_)
          · skip
            refine J.seq ?_
            refine J.region ?_
            refine JL.go trivial (RX.movev (v := Value.int _ _) rfl) ?_
            refine JL.go trivial (RX.ne rfl rfl) ?_
            refine JL.go trivial (RX.assignv (v := Value.bool _) rfl) ?_
            refine JL.nil ?_
            refine J.ret1 (v := Value.bool _) Tryd.func23 rfl rfl ?_
            refine ⟨_, rfl, ?_, H⟩
            congr 1
            unfold hasB
            (repeat' split) <;> first | rfl | (exfalso; omega) | (symm; apply decide_eq_true; omega) | (symm; apply decide_eq_false; omega) | (rw [decide_eq_decide]; omega) | (apply decide_eq_true; omega)
          · skip
            refine J.seq ?_
            refine J.seq ?_
            refine J.region ?_
            refine JL.go trivial (RX.eq rfl rfl) ?_
            refine JL.go trivial (RX.assignv (v := Value.bool _) rfl) ?_
            refine JL.nil ?_
            refine J.cond_d rfl (fun h14 => ?_) (fun h14 => ?_)
            · skip
              refine J.skip ?_
              refine J.cond_t rfl (decide_eq_true h14) ?_
              refine J.seq ?_
              refine J.region ?_
              refine JL.go trivial (RX.movev (v := Value.int _ _) rfl) ?_
              refine JL.go trivial (RX.eq rfl rfl) ?_
              refine JL.go trivial (RX.movev (v := Value.bool _) rfl) ?_
              refine JL.splitS 53 rfl (fun h15 => ?_) (fun h15 => ?_)
              · skip
                first | have h15p := of_decide_eq_true h15 | skip
                refine JL.no ⟨_, rfl, gno h15⟩ ?_
                refine JL.no ⟨_, rfl, gno h15⟩ ?_
                refine JL.go trivial (RX.pick_t rfl h15) ?_
                refine JL.go trivial (RX.assignv (v := Value.bool _) rfl) ?_
                refine JL.nil ?_
                refine J.ret1 (v := Value.bool _) Tryd.func23 rfl rfl ?_
                refine ⟨_, rfl, ?_, H⟩
                congr 1
                unfold hasB
                (repeat' split) <;> first | rfl | (exfalso; omega) | (symm; apply decide_eq_true; omega) | (symm; apply decide_eq_false; omega) | (rw [decide_eq_decide]; omega) | (apply decide_eq_true; omega)
              · skip
                first | have h15p := of_decide_eq_false h15 | skip
                refine JL.go ⟨_, rfl, h15⟩ (RX.movev (v := Value.int _ _) rfl) ?_
                refine JL.go ⟨_, rfl, h15⟩ (RX.eq rfl rfl) ?_
                refine JL.go trivial (RX.pick_f rfl h15) ?_
                refine JL.go trivial (RX.assignv (v := Value.bool _) rfl) ?_
                refine JL.nil ?_
                refine J.ret1 (v := Value.bool _) Tryd.func23 rfl rfl ?_
                refine ⟨_, rfl, ?_, H⟩
                congr 1
                unfold hasB
                (repeat' split) <;> first | rfl | (exfalso; omega) | (symm; apply decide_eq_true; omega) | (symm; apply decide_eq_false; omega) | (rw [decide_eq_decide]; omega) | (apply decide_eq_true; omega)
            · skip
              refine J.seq ?_
              refine J.region ?_
              refine JL.go trivial (RX.eq rfl rfl) ?_
              refine JL.go trivial (RX.assignv (v := Value.bool _) rfl) ?_
              refine JL.nil ?_
              refine J.cond_d rfl (fun h16 => ?_) (fun h16 => ?_)
              · skip
                refine J.skip ?_
                refine J.cond_t rfl (decide_eq_true h16) ?_
                refine J.seq ?_
                refine J.region ?_
                refine JL.go trivial (RX.movev (v := Value.int _ _) rfl) ?_
                refine JL.go trivial (RX.eq rfl rfl) ?_
                refine JL.go trivial (RX.movev (v := Value.bool _) rfl) ?_
                refine JL.splitS 53 rfl (fun h17 => ?_) (fun h17 => ?_)
                · skip
                  first | have h17p := of_decide_eq_true h17 | skip
                  refine JL.no ⟨_, rfl, gno h17⟩ ?_
                  refine JL.no ⟨_, rfl, gno h17⟩ ?_
                  refine JL.go trivial (RX.pick_t rfl h17) ?_
                  refine JL.go trivial (RX.assignv (v := Value.bool _) rfl) ?_
                  refine JL.nil ?_
                  refine J.ret1 (v := Value.bool _) Tryd.func23 rfl rfl ?_
                  refine ⟨_, rfl, ?_, H⟩
                  congr 1
                  unfold hasB
                  (repeat' split) <;> first | rfl | (exfalso; omega) | (symm; apply decide_eq_true; omega) | (symm; apply decide_eq_false; omega) | (rw [decide_eq_decide]; omega) | (apply decide_eq_true; omega)
                · skip
                  first | have h17p := of_decide_eq_false h17 | skip
                  refine JL.go ⟨_, rfl, h17⟩ (RX.movev (v := Value.int _ _) rfl) ?_
                  refine JL.go ⟨_, rfl, h17⟩ (RX.eq rfl rfl) ?_
                  refine JL.go trivial (RX.pick_f rfl h17) ?_
                  refine JL.go trivial (RX.assignv (v := Value.bool _) rfl) ?_
                  refine JL.nil ?_
                  refine J.ret1 (v := Value.bool _) Tryd.func23 rfl rfl ?_
                  refine ⟨_, rfl, ?_, H⟩
                  congr 1
                  unfold hasB
                  (repeat' split) <;> first | rfl | (exfalso; omega) | (symm; apply decide_eq_true; omega) | (symm; apply decide_eq_false; omega) | (rw [decide_eq_decide]; omega) | (apply decide_eq_true; omega)
              · skip
                refine J.region ?_
                refine JL.go trivial (RX.eq rfl rfl) ?_
                refine JL.go trivial (RX.assignv (v := Value.bool _) rfl) ?_
                refine JL.nil ?_
                refine J.cond_d rfl (fun h18 => ?_) (fun h18 => ?_)
                · skip
                  refine J.seq ?_
                  refine J.region ?_
                  refine JL.go trivial (RX.movev (v := Value.int _ _) rfl) ?_
                  refine JL.go trivial (RX.eq rfl rfl) ?_
                  refine JL.go trivial (RX.movev (v := Value.bool _) rfl) ?_
                  refine JL.splitS 53 rfl (fun h19 => ?_) (fun h19 => ?_)
                  · skip
                    first | have h19p := of_decide_eq_true h19 | skip
                    refine JL.no ⟨_, rfl, gno h19⟩ ?_
                    refine JL.no ⟨_, rfl, gno h19⟩ ?_
                    refine JL.go trivial (RX.pick_t rfl h19) ?_
                    refine JL.go trivial (RX.assignv (v := Value.bool _) rfl) ?_
                    refine JL.nil ?_
                    refine J.ret1 (v := Value.bool _) Tryd.func23 rfl rfl ?_
                    refine ⟨_, rfl, ?_, H⟩
                    congr 1
                    unfold hasB
                    (repeat' split) <;> first | rfl | (exfalso; omega) | (symm; apply decide_eq_true; omega) | (symm; apply decide_eq_false; omega) | (rw [decide_eq_decide]; omega) | (apply decide_eq_true; omega)
                  · skip
                    first | have h19p := of_decide_eq_false h19 | skip
                    refine JL.go ⟨_, rfl, h19⟩ (RX.movev (v := Value.int _ _) rfl) ?_
                    refine JL.go ⟨_, rfl, h19⟩ (RX.eq rfl rfl) ?_
                    refine JL.go trivial (RX.pick_f rfl h19) ?_
                    refine JL.go trivial (RX.assignv (v := Value.bool _) rfl) ?_
                    refine JL.nil ?_
                    refine J.ret1 (v := Value.bool _) Tryd.func23 rfl rfl ?_
                    refine ⟨_, rfl, ?_, H⟩
                    congr 1
                    unfold hasB
                    (repeat' split) <;> first | rfl | (exfalso; omega) | (symm; apply decide_eq_true; omega) | (symm; apply decide_eq_false; omega) | (rw [decide_eq_decide]; omega) | (apply decide_eq_true; omega)
                · skip
                  refine J.seq ?_
                  refine J.region ?_
                  refine JL.go trivial (RX.eq rfl rfl) ?_
                  refine JL.go trivial (RX.assignv (v := Value.bool _) rfl) ?_
                  refine JL.nil ?_
                  refine J.cond_d rfl (fun h20 => ?_) (fun h20 => ?_)
                  · skip
                    refine J.seq ?_
                    refine J.region ?_
                    refine JL.go trivial (RX.movev (v := Value.int _ _) rfl) ?_
                    refine JL.go trivial (RX.eq rfl rfl) ?_
                    refine JL.go trivial (RX.movev (v := Value.bool _) rfl) ?_
                    refine JL.splitS 61 rfl (fun h21 => ?_) (fun h21 => ?_)
                    · skip
                      first | have h21p := of_decide_eq_true h21 | skip
                      refine JL.no ⟨_, rfl, gno h21⟩ ?_
                      refine JL.no ⟨_, rfl, gno h21⟩ ?_
                      refine JL.go trivial (RX.pick_t rfl h21) ?_
                      refine JL.go trivial (RX.assignv (v := Value.bool _) rfl) ?_
                      refine JL.nil ?_
                      refine J.ret1 (v := Value.bool _) Tryd.func23 rfl rfl ?_
                      refine ⟨_, rfl, ?_, H⟩
                      congr 1
                      unfold hasB
                      (repeat' split) <;> first | rfl | (exfalso; omega) | (symm; apply decide_eq_true; omega) | (symm; apply decide_eq_false; omega) | (rw [decide_eq_decide]; omega) | (apply decide_eq_true; omega)
                    · skip
                      first | have h21p := of_decide_eq_false h21 | skip
                      refine JL.go ⟨_, rfl, h21⟩ (RX.movev (v := Value.int _ _) rfl) ?_
                      refine JL.go ⟨_, rfl, h21⟩ (RX.eq rfl rfl) ?_
                      refine JL.go trivial (RX.pick_f rfl h21) ?_
                      refine JL.go trivial (RX.assignv (v := Value.bool _) rfl) ?_
                      refine JL.nil ?_
                      refine J.ret1 (v := Value.bool _) Tryd.func23 rfl rfl ?_
                      refine ⟨_, rfl, ?_, H⟩
                      congr 1
                      unfold hasB
                      (repeat' split) <;> first | rfl | (exfalso; omega) | (symm; apply decide_eq_true; omega) | (symm; apply decide_eq_false; omega) | (rw [decide_eq_decide]; omega) | (apply decide_eq_true; omega)
                  · skip
                    refine J.skip ?_
                    refine J.inBlock ?_
                    refine J.seq ?_
                    refine J.region ?_
                    refine JL.go trivial (RX.movev (v := Value.int _ _) rfl) ?_
                    refine JL.go trivial (RX.eq rfl rfl) ?_
                    refine JL.go trivial (RX.assignv (v := Value.bool _) rfl) ?_
                    refine JL.nil ?_
                    refine J.ret1 (v := Value.bool _) Tryd.func23 rfl rfl ?_
                    refine ⟨_, rfl, ?_, H⟩
                    congr 1
                    unfold hasB
                    (repeat' split) <;> first | rfl | (exfalso; omega) | (symm; apply decide_eq_true; omega) | (symm; apply decide_eq_false; omega) | (rw [decide_eq_decide]; omega) | (apply decide_eq_true; omega)
theorem StepsFields_b {w0 w : World} {F : List Seg} {E : Nat → Value} (H : Hp w0 w F) (h5 : E5 F E) (hT : SlAt F (some ⟨1, 0, none⟩) tableC) {l : List Stp} {lp : Option Addr} {lc : Nat} {x : Int} (hl : SlAt F lp (stepsV l)) (hlk : ∀ s ∈ l, s.Ok) (hln : l.length ≤ 9223372036854775807) (hx : i64ok x) : Ret Tryd.prog 7 [.slice lp l.length lc, .int .i64 x] w fun v w' => v = .bool true ∧ Hp w0 w' F := by
  refine Calls.of_J (n := 85) Tryd.func7 rfl rfl rfl ?_
  refine J.seq ?_
  refine J.region ?_
  refine JL.go trivial (RX.assign) ?_
  refine JL.nil ?_
  refine J.seq ?_
  refine J.seq ?_
  refine J.region ?_
  refine JL.does trivial (EX.call rfl cl10 rfl ((lives_b H h5 hT))) ?_
  rintro _ w ⟨rfl, H⟩
  refine JL.go trivial (RX.not rfl) ?_
  refine JL.nil ?_
  refine J.cond_f rfl rfl ?_
  refine J.skip ?_
  refine J.seq ?_
  refine J.seq ?_
  refine J.region ?_
  refine JL.go trivial (RX.movev (v := Value.slice _ _ _) rfl) ?_
  refine JL.go trivial (RX.len_slice rfl (by rw [sl22]; rfl) rfl) ?_
  refine JL.go trivial (RX.move) ?_
  refine JL.nil ?_
  refine J.block ?_
  refine J.loop (ι := Nat) (S := fun k => [(17, .int .i64 (k : Nat))]) (Φ := fun k w => k ≤ l.length ∧ Hp w0 w F) (μ := fun k => l.length - k) (C := [(1, _), (15, _), (16, _)]) 0 ⟨rfl, rfl, rfl, trivial⟩ ⟨rfl, trivial⟩ ?_ ?_
  · exact ⟨by omega, H⟩
  clear H
  rintro k ρ w ⟨hk, H⟩ IH
  refine J.seq ?_
  refine J.region ?_
  refine JL.go trivial (RX.lt rfl rfl) ?_
  refine JL.nil ?_
  refine J.seq ?_
  refine J.cond_d rfl (fun hlt => ?_) (fun hlt => ?_)
  · skip
    obtain ⟨s, hs⟩ : ∃ s, l[k]? = some s := ⟨_, List.getElem?_eq_getElem (by omega)⟩
    have hsok := hlk s (List.mem_of_getElem? hs)
    obtain ⟨pb, po, rfl, _⟩ := hl.some (by rw [stepsV_len]; omega)
    refine J.skip ?_
    refine J.seq ?_
    refine J.block ?_
    refine J.seq ?_
    refine J.region ?_
    refine JL.go trivial (RX.indexAddr rfl rfl sl22 (by omega) (by omega) rfl) ?_
    refine JL.go trivial (RX.loadAggS H hl rfl (j := k * 7) (by omega) (stepsV_read _ _ _ hs) ag25) ?_
    refine JL.does trivial (EX.alloc H zr25 rfl) ?_
    rintro _ w ⟨b1, rfl, H⟩
    refine JL.does trivial (EX.storeAgg H rfl rfl (i := 0) (vs := s.v) (l' := s.v) rfl (stp_cell _) (by simp [Stp.v]) sz25 rfl rfl) ?_
    rintro _ w H
    refine JL.nil ?_
    refine J.seq ?_
    refine J.seq ?_
    refine J.region ?_
    refine JL.go trivial (RX.loadAgg H rfl (i := 0) (vs := s.v) rfl rfl ag25) ?_
    refine JL.does trivial (EX.call rfl cl13 rfl ((Form_e H h5.cons hT.cons hsok))) ?_
    rintro _ w ⟨rfl, H⟩
    refine JL.go trivial (RX.ifnil_neq (v := errV E (if formB s then 0 else 9)) rfl rfl (err9_ie h5 (by split <;> simp)).1 if29) ?_
    refine JL.nil ?_
    refine J.cond rfl (fun hfo => ?_) (fun hfo => ?_)
    · skip
      refine J.exit rfl ?_
      refine J.region ?_
      refine JL.go trivial (RX.add rfl rfl (w_i64 rfl (by omega) (by omega))) ?_
      refine JL.go trivial (RX.movev (v := Value.int _ _) rfl) ?_
      refine JL.nil ?_
      exact IH (k + 1) _ _ (by omega) ⟨rfl, rfl, rfl, trivial⟩ ⟨rfl, trivial⟩ ⟨by omega, H.drop⟩
    · skip
      have hf : formB s = true := by
        rw [(err9_ie h5 (by split <;> simp)).2] at hfo
        cases h : formB s
        · rw [h] at hfo; simp at hfo
        · rfl
      have hcnt := form_count hf
      refine J.skip ?_
      refine J.seq ?_
      refine J.seq ?_
      refine J.quietH H hmix (by kernel_rfl) ?_
      refine JQ.go trivial (fun w H => RX.loadAgg H rfl (i := 0) (vs := s.v) rfl rfl ag25) ?_
      refine JQ.call trivial (fun w H => run_callq rfl cl14 rfl) (fun w H => (Acts_b H hT.cons hsok)) ?_
      refine JQ.go trivial (fun w H => RX.fieldAddr rfl fo25_4 rfl) ?_
      refine JQ.go trivial (fun w H => by first | exact RX.load H rfl (i := 0) rfl rfl one3 | exact RX.load H rfl (i := 1) rfl rfl one3 | exact RX.load H rfl (i := 2) rfl rfl one3 | exact RX.load H rfl (i := 3) rfl rfl one3 | exact RX.load H rfl (i := 4) rfl rfl one3 | exact RX.load H rfl (i := 5) rfl rfl one3) ?_
      refine JQ.go trivial (fun w H => RX.ne rfl rfl) ?_
      refine JQ.go trivial (fun w H => RX.movev (v := Value.bool _) rfl) ?_
      refine JQ.go ⟨_, rfl, (by rw [hf]; exact decide_eq_false (fun h => h rfl))⟩ (fun w H => RX.fieldAddr rfl fo25_4 rfl) ?_
      refine JQ.go ⟨_, rfl, (by rw [hf]; exact decide_eq_false (fun h => h rfl))⟩ (fun w H => by first | exact RX.load H rfl (i := 0) rfl rfl one3 | exact RX.load H rfl (i := 1) rfl rfl one3 | exact RX.load H rfl (i := 2) rfl rfl one3 | exact RX.load H rfl (i := 3) rfl rfl one3 | exact RX.load H rfl (i := 4) rfl rfl one3 | exact RX.load H rfl (i := 5) rfl rfl one3) ?_
      refine JQ.go ⟨_, rfl, (by rw [hf]; exact decide_eq_false (fun h => h rfl))⟩ (fun w H => RX.lt rfl rfl) ?_
      refine JQ.go trivial (fun w H => RX.pick_f rfl (by rw [hf]; exact decide_eq_false (fun h => h rfl))) ?_
      refine JQ.nil fun w H => ?_
      refine J.cond_f rfl (decide_eq_false (by omega)) ?_
      refine J.skip ?_
      refine J.seq ?_
      refine J.region ?_
      refine JL.go trivial (RX.assign) ?_
      refine JL.nil ?_
      refine J.block ?_
      refine J.loop (ι := Nat) (S := fun i => [(7, .int .i64 (i : Nat))]) (Φ := fun i w => i ≤ 5 ∧ Hp w0 w ([(b1, cel s.v 25)] :: F)) (μ := fun i => 5 - i) (C := [(1, _), (6, _), (15, _), (16, _), (17, _)]) 0 ⟨rfl, rfl, rfl, rfl, rfl, trivial⟩ ⟨rfl, trivial⟩ ?_ ?_
      · exact ⟨by omega, H⟩
      clear H
      rintro i ρ w ⟨hi, H⟩ IH2
      refine J.seq ?_
      refine J.seq ?_
      refine J.region ?_
      refine JL.go trivial (RX.movev (v := Value.int _ _) rfl) ?_
      refine JL.go trivial (RX.lt rfl rfl) ?_
      refine JL.nil ?_
      refine J.cond_d rfl (fun hlt5 => ?_) (fun hlt5 => ?_)
      · skip
        have hlt5 : i < 5 := by omega
        have hol := (fo5_lt i).1
        have hput := Stp.put_ok (o := fo5 i) hsok hx hol
        have hsame : (!(decide (oneP s = oneP (s.put (fo5 i) x)) == decide (x = s.at_ (fo5 i)))) = false := by
          have h := (oneP_eq s (s.put (fo5 i) x)).trans (put_eq hol)
          simp [h]
        refine J.skip ?_
        refine J.seq ?_
        refine J.block ?_
        refine J.seq ?_
        refine J.region ?_
        refine JL.go trivial (RX.loadAgg H rfl (i := 0) (vs := s.v) rfl rfl ag25) ?_
        refine JL.does trivial (EX.alloc H zr25 rfl) ?_
        rintro _ w ⟨b2, rfl, H⟩
        refine JL.does trivial (EX.storeAgg H rfl rfl (i := 0) (vs := s.v) (l' := s.v) rfl (stp_cell _) (by simp [Stp.v]) sz25 rfl rfl) ?_
        rintro _ w H
        refine JL.nil ?_
        refine J.seq ?_
        refine J.region ?_
        refine JL.go trivial (RX.movev (v := Value.int _ _) rfl) ?_
        refine JL.does trivial (EX.call rfl cl22 rfl ((field_b H hlt5))) ?_
        rintro _ w ⟨rfl, H⟩
        refine JL.go trivial (RX.assignv (v := Value.pointer _) rfl) ?_
        refine JL.nil ?_
        refine J.seq ?_
        refine J.region ?_
        refine JL.go trivial (RX.movev (v := Value.pointer _) rfl) ?_
        refine JL.go trivial (RX.nilCheck rfl) ?_
        refine JL.go trivial (RX.load H rfl (i := 0) rfl (Stp.v_get hol) one3) ?_
        refine JL.go trivial (RX.assignv (v := Value.int _ _) rfl) ?_
        refine JL.nil ?_
        refine J.seq ?_
        refine J.region ?_
        refine JL.go trivial (RX.movev (v := Value.pointer _) rfl) ?_
        refine JL.go trivial (RX.movev (v := Value.int _ _) rfl) ?_
        refine JL.go trivial (RX.nilCheck rfl) ?_
        refine JL.does trivial (EX.store (v := Value.int _ _) H rfl rfl (i := 0) rfl rfl (by simp [Stp.v]; omega) sz3 rfl rfl) ?_
        rintro _ w H
        refine JL.nil ?_
        rw [Stp.put_v hol] at H
        refine J.seq ?_
        refine J.seq ?_
        refine J.join (ι := Unit) (fun q => [(64, .bool false)]) (fun q w => Hp w0 w ([(b2, cel (s.put (fo5 i) x).v 25)] :: [(b1, cel s.v 25)] :: F)) [(1, _), (6, _), (7, _), (8, _), (10, _), (15, _), (16, _), (17, _)] ⟨rfl, rfl, rfl, rfl, rfl, rfl, rfl, rfl, trivial⟩ ?_ ?_
        rotate_left
        · skip
          intro k2 hk2
          refine J.region ?_
          refine JL.go trivial (RX.fieldAddr rfl fo25_0 rfl) ?_
          refine JL.go trivial (RX.load H rfl (i := 1) rfl rfl one3) ?_
          refine JL.go trivial (RX.movev (v := Value.int _ _) rfl) ?_
          refine JL.does trivial (EX.call rfl cl23 rfl ((has_b H))) ?_
          rintro _ w ⟨rfl, H⟩
          refine JL.go trivial (RX.not rfl) ?_
          refine JL.go trivial (RX.movev (v := Value.bool _) rfl) ?_
          refine JL.splitS 52 rfl (fun hh => ?_) (fun hh => ?_)
          · skip
            first | have hhp := of_decide_eq_true hh | skip
            have hz := no_field hf hlt5 (by simpa using hh)
            refine JL.go ⟨_, rfl, hh⟩ (RX.movev (v := Value.int _ _) rfl) ?_
            refine JL.go ⟨_, rfl, hh⟩ (RX.ne rfl rfl) ?_
            refine JL.go ⟨_, rfl, hh⟩ (RX.movev (v := Value.bool _) rfl) ?_
            refine JL.go ⟨_, rfl, (decide_eq_false (fun h => h hz.1))⟩ (RX.movev (v := Value.int _ _) rfl) ?_
            refine JL.go ⟨_, rfl, (decide_eq_false (fun h => h hz.1))⟩ (RX.ne rfl rfl) ?_
            refine JL.go ⟨_, rfl, (decide_eq_false (fun h => h hz.1))⟩ (RX.movev (v := Value.bool _) rfl) ?_
            refine JL.splitS 58 rfl (fun hx0 => ?_) (fun hx0 => ?_)
            · skip
              first | have hx0p := of_decide_eq_true hx0 | skip
              have hnf := hz.2 x (of_decide_eq_true hx0)
              refine JL.go ⟨_, rfl, hx0⟩ (RX.loadAgg H rfl (i := 0) (vs := (s.put (fo5 i) x).v) rfl rfl ag25) ?_
              refine JL.does ⟨_, rfl, hx0⟩ (EX.call rfl cl13 rfl ((Form_e H h5.cons.cons hT.cons.cons hput))) ?_
              rintro _ w ⟨rfl, H⟩
              rw [hnf]
              refine JL.go ⟨_, rfl, hx0⟩ (RX.ifnil_eql (v := errV E (if false = true then 0 else 9)) rfl rfl (err9_ie h5 (by decide)).1 if29) ?_
              refine JL.go ⟨_, rfl, (decide_eq_false (fun h => h hz.1))⟩ (RX.pick_t rfl hx0) ?_
              refine JL.go ⟨_, rfl, hh⟩ (RX.pick_f rfl (decide_eq_false (fun h => h hz.1))) ?_
              first | rw [(err9_ie h5 (n := if false = true then 0 else 9) (by decide)).2] | skip
              refine JL.go trivial (RX.pick_t rfl hh) ?_
              refine JL.nil ?_
              exact hk2 () _ _ ⟨rfl, rfl, rfl, rfl, rfl, rfl, rfl, rfl, trivial⟩ ⟨rfl, trivial⟩ H
            · skip
              first | have hx0p := of_decide_eq_false hx0 | skip
              refine JL.no ⟨_, rfl, gno hx0⟩ ?_
              refine JL.no ⟨_, rfl, gno hx0⟩ ?_
              refine JL.no ⟨_, rfl, gno hx0⟩ ?_
              refine JL.go ⟨_, rfl, (decide_eq_false (fun h => h hz.1))⟩ (RX.pick_f rfl hx0) ?_
              refine JL.go ⟨_, rfl, hh⟩ (RX.pick_f rfl (decide_eq_false (fun h => h hz.1))) ?_
              first | rw [(err9_ie h5 (n := if false = true then 0 else 9) (by decide)).2] | skip
              refine JL.go trivial (RX.pick_t rfl hh) ?_
              refine JL.nil ?_
              exact hk2 () _ _ ⟨rfl, rfl, rfl, rfl, rfl, rfl, rfl, rfl, trivial⟩ ⟨rfl, trivial⟩ H
          · skip
            first | have hhp := of_decide_eq_false hh | skip
            refine JL.no ⟨_, rfl, gno hh⟩ ?_
            refine JL.no ⟨_, rfl, gno hh⟩ ?_
            refine JL.no ⟨_, rfl, gno hh⟩ ?_
            refine JL.no ⟨_, rfl, nofun⟩ ?_
            refine JL.no ⟨_, rfl, nofun⟩ ?_
            refine JL.no ⟨_, rfl, nofun⟩ ?_
            refine JL.no ⟨_, rfl, nofun⟩ ?_
            refine JL.no ⟨_, rfl, nofun⟩ ?_
            refine JL.no ⟨_, rfl, nofun⟩ ?_
            refine JL.no ⟨_, rfl, nofun⟩ ?_
            refine JL.no ⟨_, rfl, gno hh⟩ ?_
            first | rw [(err9_ie h5 (n := if false = true then 0 else 9) (by decide)).2] | skip
            refine JL.go trivial (RX.pick_f rfl hh) ?_
            refine JL.nil ?_
            exact hk2 () _ _ ⟨rfl, rfl, rfl, rfl, rfl, rfl, rfl, rfl, trivial⟩ ⟨rfl, trivial⟩ H
        · skip
          clear H
          rintro _ ρ w H
          refine J.cond_f rfl rfl ?_
          refine J.skip ?_
          refine J.seq ?_
          refine J.region ?_
          refine JL.go trivial (RX.loadAgg H rfl (i := 1) (vs := s.v) rfl rfl ag25) ?_
          refine JL.does trivial (EX.buildSlice (pv := [(0, .agg s.v.toArray)]) (l := s.v) (e := 25) H rfl (by kernel_rfl)) ?_
          rintro _ w ⟨q1, rfl, H⟩
          refine JL.go trivial (RX.build (pv := [(4, .slice (some ⟨q1, 0, none⟩) 1 1)]) (res := prgV (oneP s) (some ⟨q1, 0, none⟩) (oneP s).steps.length 1) rfl (by kernel_rfl)) ?_
          refine JL.does trivial (EX.alloc H zr33 rfl) ?_
          rintro _ w ⟨b3, rfl, H⟩
          refine JL.does trivial (EX.storeAgg H rfl rfl (i := 0) (l' := prgV (oneP s) (some ⟨q1, 0, none⟩) (oneP s).steps.length 1) rfl prgV_cell (by simp [prgV]) sz33 rfl rfl) ?_
          rintro _ w H
          refine JL.nil ?_
          refine J.seq ?_
          refine J.region ?_
          refine JL.go trivial (RX.loadAgg H rfl (i := 2) (vs := (s.put (fo5 i) x).v) rfl rfl ag25) ?_
          refine JL.does trivial (EX.buildSlice (pv := [(0, .agg (s.put (fo5 i) x).v.toArray)]) (l := (s.put (fo5 i) x).v) (e := 25) H rfl (by kernel_rfl)) ?_
          rintro _ w ⟨q2, rfl, H⟩
          refine JL.go trivial (RX.build (pv := [(4, .slice (some ⟨q2, 0, none⟩) 1 1)]) (res := prgV (oneP (s.put (fo5 i) x)) (some ⟨q2, 0, none⟩) (oneP (s.put (fo5 i) x)).steps.length 1) rfl (by kernel_rfl)) ?_
          refine JL.does trivial (EX.alloc H zr33 rfl) ?_
          rintro _ w ⟨b4, rfl, H⟩
          refine JL.does trivial (EX.storeAgg H rfl rfl (i := 0) (l' := prgV (oneP (s.put (fo5 i) x)) (some ⟨q2, 0, none⟩) (oneP (s.put (fo5 i) x)).steps.length 1) rfl prgV_cell (by simp [prgV]) sz33 rfl rfl) ?_
          rintro _ w H
          refine JL.nil ?_
          refine J.seq ?_
          refine J.region ?_
          refine JL.go trivial (RX.loadAgg H rfl (i := 2) (vs := prgV (oneP s) (some ⟨q1, 0, none⟩) (oneP s).steps.length 1) rfl rfl ag33) ?_
          refine JL.go trivial (RX.loadAgg H rfl (i := 0) (vs := prgV (oneP (s.put (fo5 i) x)) (some ⟨q2, 0, none⟩) (oneP (s.put (fo5 i) x)).steps.length 1) rfl rfl ag33) ?_
          refine JL.does trivial (EX.call rfl cl21 rfl ((Same_b H (SlAt.here (xs := stepsV (oneP s).steps) rfl).cons.cons.cons (SlAt.here (xs := stepsV (oneP (s.put (fo5 i) x)).steps) rfl).cons (oneP_len _) (oneP_len _)))) ?_
          rintro _ w ⟨rfl, H⟩
          refine JL.go trivial (RX.movev (v := Value.int _ _) rfl) ?_
          refine JL.go trivial (RX.movev (v := Value.int _ _) rfl) ?_
          refine JL.go trivial (RX.eq rfl rfl) ?_
          refine JL.go trivial (RX.bool_neq rfl rfl ud4) ?_
          refine JL.go trivial (RX.movev (v := Value.bool _) rfl) ?_
          refine JL.go ⟨_, rfl, hsame⟩ (RX.loadAgg H rfl (i := 2) (vs := prgV (oneP s) (some ⟨q1, 0, none⟩) (oneP s).steps.length 1) rfl rfl ag33) ?_
          refine JL.go ⟨_, rfl, hsame⟩ (RX.loadAgg H rfl (i := 2) (vs := prgV (oneP s) (some ⟨q1, 0, none⟩) (oneP s).steps.length 1) rfl rfl ag33) ?_
          refine JL.does ⟨_, rfl, hsame⟩ (EX.call rfl cl21 rfl ((Same_b H (SlAt.here (xs := stepsV (oneP s).steps) rfl).cons.cons.cons (SlAt.here (xs := stepsV (oneP s).steps) rfl).cons.cons.cons (oneP_len _) (oneP_len _)))) ?_
          rintro _ w ⟨rfl, H⟩
          refine JL.go ⟨_, rfl, hsame⟩ (RX.not rfl) ?_
          refine JL.go trivial (RX.pick_f rfl hsame) ?_
          refine JL.nil ?_
          refine J.cond_f rfl (by simp) ?_
          refine J.skip ?_
          refine J.inBlock ?_
          refine J.region ?_
          refine JL.go trivial (RX.movev (v := Value.int _ _) rfl) ?_
          refine JL.go trivial (RX.add rfl rfl (w_i64 rfl (by omega) (by omega))) ?_
          refine JL.go trivial (RX.assignv (v := Value.int _ _) rfl) ?_
          refine JL.nil ?_
          exact IH2 (i + 1) _ _ (by omega) ⟨rfl, rfl, rfl, rfl, rfl, trivial⟩ ⟨rfl, trivial⟩ ⟨by omega, H.drop.drop.drop.drop.drop⟩
      · skip
        refine J.exit rfl ?_
        refine J.inBlock ?_
        refine J.region ?_
        refine JL.go trivial (RX.add rfl rfl (w_i64 rfl (by omega) (by omega))) ?_
        refine JL.go trivial (RX.movev (v := Value.int _ _) rfl) ?_
        refine JL.nil ?_
        exact IH (k + 1) _ _ (by omega) ⟨rfl, rfl, rfl, trivial⟩ ⟨rfl, trivial⟩ ⟨by omega, H.drop⟩
  · skip
    refine J.exit rfl ?_
    refine J.seq ?_
    refine J.region ?_
    refine JL.go trivial (RX.assign) ?_
    refine JL.nil ?_
    refine J.ret1 (v := Value.bool _) Tryd.func7 rfl rfl ?_
    exact ⟨_, rfl, rfl, H⟩
end Go.Proofs.YtnbbeghaeijcbaaDoor

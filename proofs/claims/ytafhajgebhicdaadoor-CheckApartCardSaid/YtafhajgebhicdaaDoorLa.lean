/- CheckTouched. -/
import Derived.Test.YtafhajgebhicdaaDoorL9
namespace Go.Proofs.YtafhajgebhicdaaDoor
open Go Go.Eng
set_option maxRecDepth 100000
set_option linter.unusedVariables false
set_option linter.unusedSimpArgs false

theorem clL_le {s : Stp} (hf : formB s = true) : (clL (wr s)).length ≤ 1048576 := (wr_ok hf).len
theorem rdsL_len {s : Stp} (hf : formB s = true) : (rdsL s).length ≤ 1048576 := by
  unfold rdsL
  split
  · simp
  · rename_i r ev hr
    exact (rds_ok hf hr).len
theorem t_len (s : Stp) : (tR s).length ≤ 4294967296 ∧ (tW s).length ≤ 4294967296 := by
  unfold tR tW
  by_cases hf : formB s = true
  · rw [if_pos hf, if_pos hf]
    have h1 := rise_le (flyA s s.n.toNat)
    have h2 := fly_len hf (Nat.le_refl s.n.toNat)
    have h3 := rise_le (clL (wr s))
    have h4 := clL_le hf
    have h5 := rise_le (baseL s ++ rdsL s)
    rw [List.length_append] at h5
    have h6 := base_len hf
    have h7 := rdsL_len hf
    constructor <;> split <;> omega
  · rw [if_neg hf, if_neg hf]; simp
def spoil (l : List Int) (x : Int) (i : Nat) : List Int := List.replicate i x ++ l.drop i
theorem spoil_len {l : List Int} {x : Int} {i : Nat} (h : i ≤ l.length) : (spoil l x i).length = l.length := by simp [spoil]; omega
theorem spoil_set {l : List Int} {x : Int} {i : Nat} (h : i < l.length) : (intsV (spoil l x i)).set i (.int .i64 x) = intsV (spoil l x (i + 1)) := by
  unfold intsV
  rw [← List.map_set]
  congr 1
  unfold spoil
  rw [List.set_append_right _ _ (by simp), List.length_replicate, Nat.sub_self, List.drop_eq_getElem_cons h, List.set_cons_zero, List.replicate_succ', List.append_assoc]
  rfl
theorem last_of {l : List Int} {x y : Int} : (intsV (spoil l x l.length) ++ [Value.int .i64 y])[l.length]? = some (.int .i64 y) := by
  rw [List.getElem?_append_right (by rw [intsV_len, spoil_len (Nat.le_refl _)]; exact Nat.le_refl _), intsV_len, spoil_len (Nat.le_refl _), Nat.sub_self]; rfl
def oneP (s : Stp) : Prg := ⟨0, 0, 0, 0, [s]⟩
def oneQ (p : Prg) (s : Stp) : Prg := ⟨p.len, p.cells, p.inn, p.out, [s]⟩
def upto (p : Prg) (k : Nat) : Prg := { p with steps := p.steps.take k }
def addC (p : Prg) (m : Nat) : Prg := { p with cells := p.cells + m }
def addS (p : Prg) (s : Stp) : Prg := { p with steps := p.steps ++ [s] }
theorem fault_lt (l : List Stp) (n : Int) : faultP l n = -1 ∨ (0 ≤ faultP l n ∧ faultP l n < l.length) := by
  rcases faultA_range (n := n) (l := l) (i := 0) (sum := 0) with h | h
  · exact .inl h
  · exact .inr (by unfold faultP; omega)
theorem upto_fault {p : Prg} {k : Nat} (h : faultP p.steps p.cells = -1 ∨ (k : Int) ≤ faultP p.steps p.cells) : faultP (upto p k).steps (upto p k).cells = -1 := by
  unfold upto faultP at *
  exact faultA_take (by rw [Nat.zero_add]; exact h)
theorem upto_chk {p : Prg} {k : Nat} (h : faultP p.steps p.cells = -1) : chkP (upto p k) = chkP p := by
  unfold chkP
  rw [upto_fault (.inl h), h]
  rfl
theorem addC_chk {p : Prg} {m : Nat} (h : chkP p = 0) (hm : p.cells + m ≤ 262144) : chkP (addC p m) = 0 := by
  obtain ⟨h1, h2⟩ := chkP_zero h
  unfold chkP
  rw [if_pos]
  refine ⟨?_, faultA_mono (n := p.cells) (by simp only [addC]; omega) h2⟩
  show headB p.len (p.cells + m) p.inn p.out = true
  simp only [headB, decide_eq_true_eq] at h1 ⊢
  omega
theorem head_bd {p : Prg} (h : chkP p = 0) : 1 ≤ p.cells ∧ p.cells ≤ 262144 := by
  have h1 := (chkP_zero h).1
  simp only [headB, decide_eq_true_eq] at h1
  omega
theorem works_bd {p : Prg} {s : Stp} (hl : p.steps.length < 65536) (h : chkP p = 0) (h1 : workN p ≤ 1048576) (h2 : workN (oneP s) ≤ 1048576) (hf : formB s = true) : cnts p.steps + s.count ≤ 67108864 := by
  obtain ⟨_, hg, _⟩ := fault_none (chkP_zero h).2
  have ha := workA_cnts (l := p.steps) (n := p.steps.length) (fun x hx => good_form (hg x hx)) (by unfold workN at h1; omega)
  have e : workN (oneP s) = workA [s] 1 := rfl
  rw [e] at h2
  have hb := workA_cnts (l := [s]) (n := 1) (fun x hx => by rw [List.mem_singleton.1 hx]; exact hf) (by omega)
  unfold workN at h1
  rw [cnts_one] at hb
  omega
theorem addS_chk {p : Prg} {s : Stp} (hl : p.steps.length < 65536) (h : chkP p = 0) (h1 : workN p ≤ 1048576) (h2 : workN (oneP s) ≤ 1048576) : chkP (addS p s) = chkP (oneQ p s) := by
  obtain ⟨hh, hn⟩ := chkP_zero h
  have key : faultP (p.steps ++ [s]) p.cells = -1 ↔ faultP [s] p.cells = -1 := by
    cases hf : formB s with
    | true =>
      obtain ⟨_, hg, _⟩ := fault_none hn
      exact fault_more hl hn (works_bd hl h h1 h2 hf) (by have := cnts_nonneg (l := p.steps) (fun x hx => good_form (hg x hx)); omega)
    | false =>
      have hg := goodP_no (n := p.cells) hf
      unfold faultP at hn ⊢
      rw [faultA_snoc, if_pos hn, if_pos (.inr hg)]
      simp only [faultA, if_pos (show (0 : Nat) = 65536 ∨ goodP s p.cells = false from .inr hg)]
      constructor <;> intro h <;> omega
  unfold chkP addS oneQ
  simp only [hh, true_and, key]
theorem oneQ_form {p : Prg} {s : Stp} (h : chkP (oneQ p s) = 0) : formB s = true := by
  obtain ⟨_, hg, _⟩ := fault_none (chkP_zero h).2
  exact good_form (hg s (by simp [oneQ]))
theorem addS_acts {p : Prg} {s : Stp} (h : chkP p = 0) (h2 : chkP (addS p s) = 0) : actsN (addS p s) = actsN p + s.count := by
  unfold actsN
  rw [if_pos h, if_pos h2]
  exact cnts_snoc _ _
theorem acts_bd {p : Prg} (h : chkP p = 0) : 0 ≤ actsN p ∧ actsN p ≤ 67108864 := by
  obtain ⟨_, hg, hc⟩ := fault_none (chkP_zero h).2
  have := cnts_nonneg (l := p.steps) (fun x hx => good_form (hg x hx))
  unfold actsN
  rw [if_pos h]
  omega
theorem Prg.Ow.upto {p : Prg} (h : p.Ow) (k : Nat) : (upto p k).Ow := ⟨h.len, h.cells, h.inn, h.out, fun s hs => h.steps s (List.mem_of_mem_take hs), by
  have := h.num
  simp only [Go.Proofs.YtafhajgebhicdaaDoor.upto, List.length_take]; omega⟩
theorem sl_take {p : Prg} {k : Nat} {L : List Seg} {pt : Option Addr} (h : SlAt L pt (stepsV p.steps)) : SlAt L pt (stepsV (upto p k).steps) := by
  have e : stepsV p.steps = stepsV (p.steps.take k) ++ stepsV (p.steps.drop k) := by rw [← stepsV_app, List.take_append_drop]
  rw [e] at h
  exact h.pre
theorem upto_len {p : Prg} {k : Nat} (h : k ≤ p.steps.length) : (upto p k).steps.length = k := by simp only [upto, List.length_take]; omega
theorem addS_len (p : Prg) (s : Stp) : (addS p s).steps.length = p.steps.length + 1 := by simp [addS]

set_option maxHeartbeats 1600000 in
theorem CheckTouched_b {w0 w : World} {F : List Seg} {E : Nat → Value} {Q : Nat → Addr} (H : Hp w0 w F) (hE : Errs F E Q) (hT : SlAt F (some ⟨19, 0, none⟩) tableC) {s : Stp} (hs : s.Ok) : Ret Tryd.prog 5 [.agg s.v.toArray] w fun v w' => v = .bool true ∧ Hp w0 w' F := by
  refine Calls.of_J (n := 144) Tryd.func5 rfl rfl rfl ?_
  refine J.seq ?_
  refine J.region ?_
  refine JL.does trivial (EX.box (v := Value.agg _) H rfl rfl) ?_
  rintro _ w ⟨b1, rfl, H⟩
  refine JL.go trivial (RX.assign) ?_
  refine JL.nil ?_
  refine J.seq ?_
  refine J.seq ?_
  refine J.region ?_
  refine JL.does trivial (EX.call rfl cl8 rfl ((lives_b H hE.cons hT.cons))) ?_
  rintro _ w ⟨rfl, H⟩
  refine JL.go trivial (RX.not rfl) ?_
  refine JL.nil ?_
  refine J.cond_f rfl rfl ?_
  refine J.skip ?_
  refine J.seq ?_
  refine J.seq ?_
  refine J.join (ι := Bool) (fun q => [(37, Value.bool q)]) (fun q w => Hp w0 w ([(b1, cel s.v 39)] :: F)) [(1, _)] ⟨rfl, trivial⟩ ?_ ?_
  rotate_left
  · skip
    intro k2 hk2
    refine J.region ?_
    refine JL.go trivial (RX.fieldAddr rfl fo39_4 rfl) ?_
    refine JL.go trivial (RX.load H rfl (i := 0) (v := .int .i64 s.count) rfl rfl one3) ?_
    refine JL.go trivial (RX.gt rfl rfl) ?_
    refine JL.go trivial (RX.movev (v := Value.bool _) rfl) ?_
    refine JL.splitS 19 rfl (fun a1 => ?_) (fun a1 => ?_)
    · skip
      first | have a1p := of_decide_eq_true a1 | skip
      refine JL.no ⟨_, rfl, gno a1⟩ ?_
      refine JL.no ⟨_, rfl, gno a1⟩ ?_
      refine JL.no ⟨_, rfl, gno a1⟩ ?_
      refine JL.no ⟨_, rfl, gno a1⟩ ?_
      refine JL.no ⟨_, rfl, nofun⟩ ?_
      refine JL.no ⟨_, rfl, nofun⟩ ?_
      refine JL.no ⟨_, rfl, nofun⟩ ?_
      refine JL.no ⟨_, rfl, gno a1⟩ ?_
      refine JL.no ⟨_, rfl, gno a1⟩ ?_
      refine JL.no ⟨_, rfl, nofun⟩ ?_
      refine JL.no ⟨_, rfl, nofun⟩ ?_
      refine JL.no ⟨_, rfl, nofun⟩ ?_
      refine JL.no ⟨_, rfl, nofun⟩ ?_
      refine JL.no ⟨_, rfl, nofun⟩ ?_
      refine JL.no ⟨_, rfl, nofun⟩ ?_
      refine JL.no ⟨_, rfl, nofun⟩ ?_
      refine JL.no ⟨_, rfl, gno a1⟩ ?_
      refine JL.go trivial (RX.pick_t rfl a1) ?_
      refine JL.nil ?_
      exact hk2 _ _ _ ⟨rfl, trivial⟩ ⟨rfl, trivial⟩ H
    · skip
      first | have a1p := of_decide_eq_false a1 | skip
      refine JL.go ⟨_, rfl, a1⟩ (RX.fieldAddr rfl fo39_5 rfl) ?_
      refine JL.go ⟨_, rfl, a1⟩ (RX.load H rfl (i := 0) (v := .int .i64 s.n) rfl rfl one3) ?_
      refine JL.go ⟨_, rfl, a1⟩ (RX.gt rfl rfl) ?_
      refine JL.go ⟨_, rfl, a1⟩ (RX.movev (v := Value.bool _) rfl) ?_
      refine JL.splitS 23 rfl (fun a2 => ?_) (fun a2 => ?_)
      · skip
        first | have a2p := of_decide_eq_true a2 | skip
        refine JL.go ⟨_, rfl, a2⟩ (RX.fieldAddr rfl fo39_4 rfl) ?_
        refine JL.go ⟨_, rfl, a2⟩ (RX.load H rfl (i := 0) (v := .int .i64 s.count) rfl rfl one3) ?_
        refine JL.go ⟨_, rfl, a2⟩ (RX.gt rfl rfl) ?_
        refine JL.go ⟨_, rfl, a1⟩ (RX.pick_t rfl a2) ?_
        refine JL.go ⟨_, rfl, a1⟩ (RX.movev (v := Value.bool _) rfl) ?_
        refine JL.splitS 28 rfl (fun a3 => ?_) (fun a3 => ?_)
        · skip
          first | have a3p := of_decide_eq_true a3 | skip
          have hmm : 0 ≤ s.count * (s.n % 65) ∧ s.count * (s.n % 65) ≤ 1048576 := ⟨Int.mul_nonneg (by omega) (by omega), by
            have h1 : s.count * (s.n % 65) ≤ 16384 * (s.n % 65) := Int.mul_le_mul_of_nonneg_right (by omega) (by omega)
            omega⟩
          refine JL.go ⟨_, rfl, a3⟩ (RX.fieldAddr rfl fo39_4 rfl) ?_
          refine JL.go ⟨_, rfl, a3⟩ (RX.load H rfl (i := 0) (v := .int .i64 s.count) rfl rfl one3) ?_
          refine JL.go ⟨_, rfl, a3⟩ (RX.fieldAddr rfl fo39_5 rfl) ?_
          refine JL.go ⟨_, rfl, a3⟩ (RX.load H rfl (i := 0) (v := .int .i64 s.n) rfl rfl one3) ?_
          refine JL.go ⟨_, rfl, a3⟩ (RX.rem rfl rfl (by decide) (r := s.n % 65) (Int.tmod_eq_emod_of_nonneg (by omega))) ?_
          refine JL.go ⟨_, rfl, a3⟩ (RX.mul rfl rfl (w_i64 rfl (by omega) (by omega))) ?_
          refine JL.go ⟨_, rfl, a3⟩ (RX.gt rfl rfl) ?_
          refine JL.go ⟨_, rfl, a1⟩ (RX.pick_t rfl a3) ?_
          refine JL.go trivial (RX.pick_f rfl a1) ?_
          refine JL.nil ?_
          exact hk2 _ _ _ ⟨rfl, trivial⟩ ⟨rfl, trivial⟩ H
        · skip
          first | have a3p := of_decide_eq_false a3 | skip
          refine JL.no ⟨_, rfl, gno a3⟩ ?_
          refine JL.no ⟨_, rfl, gno a3⟩ ?_
          refine JL.no ⟨_, rfl, gno a3⟩ ?_
          refine JL.no ⟨_, rfl, gno a3⟩ ?_
          refine JL.no ⟨_, rfl, gno a3⟩ ?_
          refine JL.no ⟨_, rfl, gno a3⟩ ?_
          refine JL.no ⟨_, rfl, gno a3⟩ ?_
          refine JL.go ⟨_, rfl, a1⟩ (RX.pick_f rfl a3) ?_
          refine JL.go trivial (RX.pick_f rfl a1) ?_
          refine JL.nil ?_
          exact hk2 _ _ _ ⟨rfl, trivial⟩ ⟨rfl, trivial⟩ H
      · skip
        first | have a2p := of_decide_eq_false a2 | skip
        refine JL.no ⟨_, rfl, gno a2⟩ ?_
        refine JL.no ⟨_, rfl, gno a2⟩ ?_
        refine JL.no ⟨_, rfl, gno a2⟩ ?_
        refine JL.go ⟨_, rfl, a1⟩ (RX.pick_f rfl a2) ?_
        refine JL.go ⟨_, rfl, a1⟩ (RX.movev (v := Value.bool _) rfl) ?_
        refine JL.no ⟨_, rfl, gno rfl⟩ ?_
        refine JL.no ⟨_, rfl, gno rfl⟩ ?_
        refine JL.no ⟨_, rfl, gno rfl⟩ ?_
        refine JL.no ⟨_, rfl, gno rfl⟩ ?_
        refine JL.no ⟨_, rfl, gno rfl⟩ ?_
        refine JL.no ⟨_, rfl, gno rfl⟩ ?_
        refine JL.no ⟨_, rfl, gno rfl⟩ ?_
        refine JL.go ⟨_, rfl, a1⟩ (RX.pick_f rfl rfl) ?_
        refine JL.go trivial (RX.pick_f rfl a1) ?_
        refine JL.nil ?_
        exact hk2 _ _ _ ⟨rfl, trivial⟩ ⟨rfl, trivial⟩ H
  · skip
    clear H
    intro qb ρ w H
    refine J.cond rfl (fun hq => ?_) (fun hq => ?_)
    · skip
      refine J.seq ?_
      refine J.region ?_
      refine JL.go trivial (RX.assign) ?_
      refine JL.nil ?_
      refine J.ret1 (v := Value.bool _) Tryd.func5 rfl rfl ?_
      exact ⟨_, rfl, rfl, H.drop⟩
    · skip
      refine J.skip ?_
      refine J.seq ?_
      refine J.region ?_
      refine JL.go trivial (RX.loadAgg H rfl (i := 0) (vs := s.v) rfl rfl ag39) ?_
      refine JL.does trivial (EX.call rfl cl19 rfl ((Touched_b H hT.cons (hE.at_ 9 (by decide) (by decide)).cons hs))) ?_
      rintro _ w ⟨p1, c1, s1, p2, c2, s2, rfl, ho1, ho2, H⟩
      refine JL.go trivial (RX.movev (v := Value.tuple _) rfl) ?_
      refine JL.go trivial (RX.extract rfl rfl) ?_
      refine JL.go trivial (RX.extract rfl rfl) ?_
      refine JL.go trivial (RX.extract (v := errV E (if formB s = true then 0 else 9)) rfl rfl) ?_
      refine JL.go trivial (RX.assignv (v := Value.slice _ _ _) rfl) ?_
      refine JL.go trivial (RX.assignv (v := Value.slice _ _ _) rfl) ?_
      refine JL.go trivial (RX.assignv (v := errV E (if formB s = true then 0 else 9)) rfl) ?_
      refine JL.nil ?_
      refine J.seq ?_
      refine J.region ?_
      refine JL.go trivial (RX.loadAgg H rfl (i := 2) (vs := s.v) rfl rfl ag39) ?_
      refine JL.does trivial (EX.call rfl cl19 rfl ((Touched_b H hT.cons.cons.cons (hE.at_ 9 (by decide) (by decide)).cons.cons.cons hs))) ?_
      rintro _ w ⟨p3, c3, s3, p4, c4, s4, rfl, ho3, ho4, H⟩
      refine JL.go trivial (RX.movev (v := Value.tuple _) rfl) ?_
      refine JL.go trivial (RX.extract rfl rfl) ?_
      refine JL.go trivial (RX.extract rfl rfl) ?_
      refine JL.go trivial (RX.extract (v := errV E (if formB s = true then 0 else 9)) rfl rfl) ?_
      refine JL.go trivial (RX.assignv (v := Value.slice _ _ _) rfl) ?_
      refine JL.go trivial (RX.assignv (v := Value.slice _ _ _) rfl) ?_
      refine JL.go trivial (RX.assignv (v := errV E (if formB s = true then 0 else 9)) rfl) ?_
      refine JL.nil ?_
      refine J.seq ?_
      refine J.region ?_
      refine JL.go trivial (RX.loadAgg H rfl (i := 4) (vs := s.v) rfl rfl ag39) ?_
      refine JL.does trivial (EX.call rfl cl20 rfl ((Touched_r H hs))) ?_
      rintro _ w ⟨p5, c5, p6, c6, sg, rfl, hx, hy, H⟩
      have hlt := t_len s
      have hnn : (if formB s = true then 0 else 9) ≤ 19 := by split <;> omega
      refine JL.go trivial (RX.movev (v := Value.tuple _) rfl) ?_
      refine JL.go trivial (RX.extract rfl rfl) ?_
      refine JL.go trivial (RX.extract rfl rfl) ?_
      refine JL.go trivial (RX.extract rfl rfl) ?_
      refine JL.go trivial (RX.assignv (v := Value.slice _ _ _) rfl) ?_
      refine JL.go trivial (RX.assignv (v := Value.slice _ _ _) rfl) ?_
      refine JL.go trivial (RX.assignv (v := Value.int _ _) rfl) ?_
      refine JL.nil ?_
      refine J.seq ?_
      refine J.seq ?_
      refine J.region ?_
      refine JL.go trivial (RX.movev (v := errV E (if formB s = true then 0 else 9)) rfl) ?_
      refine JL.does trivial (EX.call rfl cl13 rfl ((Num_b H hE.cons.cons.cons.cons.cons.cons hnn))) ?_
      rintro _ w ⟨rfl, H⟩
      refine JL.go trivial (RX.movev (v := Value.int _ _) rfl) ?_
      refine JL.go trivial (RX.ne rfl rfl) ?_
      refine JL.go trivial (RX.movev (v := Value.bool _) rfl) ?_
      refine JL.go ⟨_, rfl, (decide_eq_false (fun h => h rfl))⟩ (RX.movev (v := errV E (if formB s = true then 0 else 9)) rfl) ?_
      refine JL.does ⟨_, rfl, (decide_eq_false (fun h => h rfl))⟩ (EX.call rfl cl13 rfl ((Num_b H hE.cons.cons.cons.cons.cons.cons hnn))) ?_
      rintro _ w ⟨rfl, H⟩
      refine JL.go ⟨_, rfl, (decide_eq_false (fun h => h rfl))⟩ (RX.movev (v := Value.int _ _) rfl) ?_
      refine JL.go ⟨_, rfl, (decide_eq_false (fun h => h rfl))⟩ (RX.ne rfl rfl) ?_
      refine JL.go trivial (RX.pick_f rfl (decide_eq_false (fun h => h rfl))) ?_
      refine JL.go trivial (RX.movev (v := Value.bool _) rfl) ?_
      refine JL.go ⟨_, rfl, (decide_eq_false (fun h => h rfl))⟩ (RX.movev (v := Value.slice _ _ _) rfl) ?_
      refine JL.go ⟨_, rfl, (decide_eq_false (fun h => h rfl))⟩ (RX.movev (v := Value.slice _ _ _) rfl) ?_
      refine JL.does ⟨_, rfl, (decide_eq_false (fun h => h rfl))⟩ (EX.call rfl cl21 rfl ((sameInts_b H (sl_up (ho1.slAt (L := [])) (by simp)) (sl_up hx (by simp)) (by omega)))) ?_
      rintro _ w ⟨rfl, H⟩
      refine JL.go ⟨_, rfl, (decide_eq_false (fun h => h rfl))⟩ (RX.not rfl) ?_
      refine JL.go trivial (RX.pick_f rfl (decide_eq_false (fun h => h rfl))) ?_
      refine JL.go trivial (RX.movev (v := Value.bool _) rfl) ?_
      refine JL.go ⟨_, rfl, (by simp)⟩ (RX.movev (v := Value.slice _ _ _) rfl) ?_
      refine JL.go ⟨_, rfl, (by simp)⟩ (RX.movev (v := Value.slice _ _ _) rfl) ?_
      refine JL.does ⟨_, rfl, (by simp)⟩ (EX.call rfl cl21 rfl ((sameInts_b H (sl_up (ho2.slAt (L := [])) (by simp)) (sl_up hy (by simp)) (by omega)))) ?_
      rintro _ w ⟨rfl, H⟩
      refine JL.go ⟨_, rfl, (by simp)⟩ (RX.not rfl) ?_
      refine JL.go trivial (RX.pick_f rfl (by simp)) ?_
      refine JL.go trivial (RX.movev (v := Value.bool _) rfl) ?_
      refine JL.go ⟨_, rfl, (by simp)⟩ (RX.movev (v := Value.slice _ _ _) rfl) ?_
      refine JL.go ⟨_, rfl, (by simp)⟩ (RX.movev (v := Value.slice _ _ _) rfl) ?_
      refine JL.does ⟨_, rfl, (by simp)⟩ (EX.call rfl cl21 rfl ((sameInts_b H (sl_up (ho3.slAt (L := [])) (by simp)) (sl_up hx (by simp)) (by omega)))) ?_
      rintro _ w ⟨rfl, H⟩
      refine JL.go ⟨_, rfl, (by simp)⟩ (RX.not rfl) ?_
      refine JL.go trivial (RX.pick_f rfl (by simp)) ?_
      refine JL.go trivial (RX.movev (v := Value.bool _) rfl) ?_
      refine JL.go ⟨_, rfl, (by simp)⟩ (RX.movev (v := Value.slice _ _ _) rfl) ?_
      refine JL.go ⟨_, rfl, (by simp)⟩ (RX.movev (v := Value.slice _ _ _) rfl) ?_
      refine JL.does ⟨_, rfl, (by simp)⟩ (EX.call rfl cl21 rfl ((sameInts_b H (sl_up (ho4.slAt (L := [])) (by simp)) (sl_up hy (by simp)) (by omega)))) ?_
      rintro _ w ⟨rfl, H⟩
      refine JL.go ⟨_, rfl, (by simp)⟩ (RX.not rfl) ?_
      refine JL.go trivial (RX.pick_f rfl (by simp)) ?_
      refine JL.nil ?_
      refine J.cond_f rfl (by simp) ?_
      refine J.skip ?_
      refine J.seq ?_
      refine J.seq ?_
      refine J.region ?_
      refine JL.go trivial (RX.movev (v := Value.slice _ _ _) rfl) ?_
      refine JL.go trivial (RX.len_slice rfl (by rw [sl43]; rfl) rfl) ?_
      refine JL.go trivial (RX.move) ?_
      refine JL.nil ?_
      refine J.block ?_
      refine J.loop (ι := Nat × Seg) (S := fun q => [(92, .int .i64 (q.1 : Nat))]) (Φ := fun q w => q.1 ≤ (tR s).length ∧ OwnSl 3 1 p1 (tR s).length c1 (intsV (spoil (tR s) (-5) q.1)) q.2 ∧ Hp w0 w (sg :: s3 :: s4 :: q.2 :: s2 :: [(b1, cel s.v 39)] :: F)) (μ := fun q => (tR s).length - q.1) (C := [(3, _), (4, _), (6, _), (7, _), (9, _), (10, _), (91, _)]) (0, s1) ⟨rfl, rfl, rfl, rfl, rfl, rfl, rfl, trivial⟩ ⟨rfl, trivial⟩ ?_ ?_
      · exact ⟨Nat.zero_le _, ho1, H⟩
      clear H
      rintro ⟨i, sa⟩ ρ w ⟨hi0, hoa, H⟩ IH
      simp only at hi0 hoa H
      dsimp only
      refine J.seq ?_
      refine J.region ?_
      refine JL.go trivial (RX.lt rfl rfl) ?_
      refine JL.nil ?_
      refine J.seq ?_
      refine J.cond_d rfl (fun hl0 => ?_) (fun hl0 => ?_)
      · skip
        obtain ⟨g, l, rfl, rfl, hgn, hgl, hgt⟩ := hoa.ptr (by omega)
        refine J.skip ?_
        refine J.seq ?_
        refine J.block ?_
        refine J.seq ?_
        refine J.region ?_
        refine JL.go trivial (RX.movev (v := Value.int _ _) rfl) ?_
        refine JL.go trivial (RX.assignv (v := Value.int _ _) rfl) ?_
        refine JL.nil ?_
        refine J.region ?_
        refine JL.go trivial (RX.movev (v := Value.slice _ _ _) rfl) ?_
        refine JL.go trivial (RX.movev (v := Value.int _ _) rfl) ?_
        refine JL.go trivial (RX.indexAddr rfl rfl sl43 (by omega) (by omega) (o' := i) (by omega)) ?_
        refine JL.does trivial (EX.store (v := Value.int _ _) H rfl rfl (i := 3) (l' := l.set i (.int .i64 (-5))) rfl rfl (by omega) sz3 rfl rfl) ?_
        rintro _ w H
        refine JL.nil ?_
        refine J.inBlock ?_
        refine J.region ?_
        refine JL.go trivial (RX.add rfl rfl (w_i64 (r := ((i + 1 : Nat) : Int)) (by omega) (by omega) (by omega))) ?_
        refine JL.go trivial (RX.movev (v := Value.int _ _) rfl) ?_
        refine JL.nil ?_
        have ho9 := hoa.set (o := i) (v := Value.int .i64 (-5))
        rw [spoil_set (by omega)] at ho9
        exact IH (i + 1, _) _ _ (by simp only; omega) ⟨rfl, rfl, rfl, rfl, rfl, rfl, rfl, trivial⟩ ⟨rfl, trivial⟩ ⟨by simp only; omega, ho9, H⟩
      · skip
        have hil0 : i = (tR s).length := by omega
        subst hil0
        refine J.exit rfl ?_
        refine J.seq ?_
        refine J.seq ?_
        refine J.region ?_
        refine JL.go trivial (RX.movev (v := Value.slice _ _ _) rfl) ?_
        refine JL.go trivial (RX.movev (v := Value.slice _ _ _) rfl) ?_
        refine JL.does trivial (EX.call rfl cl21 rfl ((sameInts_b H (sl_up (ho2.slAt (L := [])) (by simp)) (sl_up hy (by simp)) (by omega)))) ?_
        rintro _ w ⟨rfl, H⟩
        refine JL.go trivial (RX.not rfl) ?_
        refine JL.nil ?_
        refine J.cond_f rfl (by simp) ?_
        refine J.skip ?_
        refine J.seq ?_
        refine J.seq ?_
        refine J.region ?_
        refine JL.go trivial (RX.movev (v := Value.slice _ _ _) rfl) ?_
        refine JL.go trivial (RX.len_slice rfl (by rw [sl43]; rfl) rfl) ?_
        refine JL.go trivial (RX.move) ?_
        refine JL.nil ?_
        refine J.block ?_
        refine J.loop (ι := Nat × Seg) (S := fun q => [(105, .int .i64 (q.1 : Nat))]) (Φ := fun q w => q.1 ≤ (tW s).length ∧ OwnSl 3 1 p2 (tW s).length c2 (intsV (spoil (tW s) (-6) q.1)) q.2 ∧ Hp w0 w (sg :: s3 :: s4 :: sa :: q.2 :: [(b1, cel s.v 39)] :: F)) (μ := fun q => (tW s).length - q.1) (C := [(3, _), (4, _), (6, _), (7, _), (9, _), (10, _), (104, _)]) (0, s2) ⟨rfl, rfl, rfl, rfl, rfl, rfl, rfl, trivial⟩ ⟨rfl, trivial⟩ ?_ ?_
        · exact ⟨Nat.zero_le _, ho2, H⟩
        clear H
        rintro ⟨i, sb⟩ ρ w ⟨hi1, hob, H⟩ IH
        simp only at hi1 hob H
        dsimp only
        refine J.seq ?_
        refine J.region ?_
        refine JL.go trivial (RX.lt rfl rfl) ?_
        refine JL.nil ?_
        refine J.seq ?_
        refine J.cond_d rfl (fun hl1 => ?_) (fun hl1 => ?_)
        · skip
          obtain ⟨g, l, rfl, rfl, hgn, hgl, hgt⟩ := hob.ptr (by omega)
          refine J.skip ?_
          refine J.seq ?_
          refine J.block ?_
          refine J.seq ?_
          refine J.region ?_
          refine JL.go trivial (RX.movev (v := Value.int _ _) rfl) ?_
          refine JL.go trivial (RX.assignv (v := Value.int _ _) rfl) ?_
          refine JL.nil ?_
          refine J.region ?_
          refine JL.go trivial (RX.movev (v := Value.slice _ _ _) rfl) ?_
          refine JL.go trivial (RX.movev (v := Value.int _ _) rfl) ?_
          refine JL.go trivial (RX.indexAddr rfl rfl sl43 (by omega) (by omega) (o' := i) (by omega)) ?_
          refine JL.does trivial (EX.store (v := Value.int _ _) H rfl rfl (i := 4) (l' := l.set i (.int .i64 (-6))) rfl rfl (by omega) sz3 rfl rfl) ?_
          rintro _ w H
          refine JL.nil ?_
          refine J.inBlock ?_
          refine J.region ?_
          refine JL.go trivial (RX.add rfl rfl (w_i64 (r := ((i + 1 : Nat) : Int)) (by omega) (by omega) (by omega))) ?_
          refine JL.go trivial (RX.movev (v := Value.int _ _) rfl) ?_
          refine JL.nil ?_
          have ho9 := hob.set (o := i) (v := Value.int .i64 (-6))
          rw [spoil_set (by omega)] at ho9
          exact IH (i + 1, _) _ _ (by simp only; omega) ⟨rfl, rfl, rfl, rfl, rfl, rfl, rfl, trivial⟩ ⟨rfl, trivial⟩ ⟨by simp only; omega, ho9, H⟩
        · skip
          have hil1 : i = (tW s).length := by omega
          subst hil1
          refine J.exit rfl ?_
          refine J.seq ?_
          refine J.region ?_
          refine JL.go trivial (RX.movev (v := Value.slice _ _ _) rfl) ?_
          refine JL.does trivial (EX.buildSlice1 (v := Value.int _ _) H elI rfl rfl) ?_
          rintro _ w ⟨br, rfl, H⟩
          refine JL.does trivial (EX.append (ys := [.int .i64 (-7)]) (L' := fun s' => [(br, cel [.int .i64 (-7)] 3)] :: sg :: s3 :: s4 :: s' :: sb :: [(b1, cel s.v 39)] :: F) H elI rfl rfl (i := 4) rfl hoa (SlAt.here rfl) rfl (by simp [isCell]) (by decide) (by omega) (by omega) (fun _ => rfl)) ?_
          rintro _ w ⟨pa, ca, sa2, rfl, hoa2, H⟩
          replace H := H.drop
          refine JL.go trivial (RX.assignv (v := Value.slice _ _ _) rfl) ?_
          refine JL.nil ?_
          refine J.seq ?_
          refine J.region ?_
          refine JL.go trivial (RX.movev (v := Value.slice _ _ _) rfl) ?_
          refine JL.does trivial (EX.buildSlice1 (v := Value.int _ _) H elI rfl rfl) ?_
          rintro _ w ⟨br2, rfl, H⟩
          refine JL.does trivial (EX.append (ys := [.int .i64 (-8)]) (L' := fun s' => [(br2, cel [.int .i64 (-8)] 3)] :: sg :: s3 :: s4 :: sa2 :: s' :: [(b1, cel s.v 39)] :: F) H elI rfl rfl (i := 5) rfl hob (SlAt.here rfl) rfl (by simp [isCell]) (by decide) (by omega) (by omega) (fun _ => rfl)) ?_
          rintro _ w ⟨pb, cb, sb2, rfl, hob2, H⟩
          replace H := H.drop
          obtain ⟨g1, l1, rfl, hg1⟩ := hoa2.ptr (by omega)
          obtain ⟨g2, l2, rfl, hg2⟩ := hob2.ptr (by omega)
          refine JL.go trivial (RX.assignv (v := Value.slice _ _ _) rfl) ?_
          refine JL.nil ?_
          refine J.seq ?_
          refine J.region ?_
          refine JL.go trivial (RX.movev (v := Value.slice _ _ _) rfl) ?_
          refine JL.go trivial (RX.movev (v := Value.slice _ _ _) rfl) ?_
          refine JL.does trivial (EX.call rfl cl21 rfl ((sameInts_b H (sl_up (ho3.slAt (L := [])) (by simp)) (sl_up hx (by simp)) (by omega)))) ?_
          rintro _ w ⟨rfl, H⟩
          refine JL.go trivial (RX.movev (v := Value.bool _) rfl) ?_
          refine JL.go ⟨_, rfl, (decide_eq_true rfl)⟩ (RX.movev (v := Value.slice _ _ _) rfl) ?_
          refine JL.go ⟨_, rfl, (decide_eq_true rfl)⟩ (RX.movev (v := Value.slice _ _ _) rfl) ?_
          refine JL.does ⟨_, rfl, (decide_eq_true rfl)⟩ (EX.call rfl cl21 rfl ((sameInts_b H (sl_up (ho4.slAt (L := [])) (by simp)) (sl_up hy (by simp)) (by omega)))) ?_
          rintro _ w ⟨rfl, H⟩
          refine JL.go trivial (RX.pick_t rfl (decide_eq_true rfl)) ?_
          refine JL.go trivial (RX.movev (v := Value.bool _) rfl) ?_
          refine JL.go ⟨_, rfl, (decide_eq_true rfl)⟩ (RX.movev (v := Value.slice _ _ _) rfl) ?_
          refine JL.go ⟨_, rfl, (decide_eq_true rfl)⟩ (RX.movev (v := Value.slice _ _ _) rfl) ?_
          refine JL.go ⟨_, rfl, (decide_eq_true rfl)⟩ (RX.len_slice rfl (by rw [sl43]; rfl) rfl) ?_
          refine JL.go ⟨_, rfl, (decide_eq_true rfl)⟩ (RX.sub rfl rfl (w_i64 (r := ((tR s).length : Int)) (by omega) (by omega) (by omega))) ?_
          refine JL.go ⟨_, rfl, (decide_eq_true rfl)⟩ (RX.indexAddr rfl rfl sl43 (by omega) (by omega) (o' := (tR s).length) (by omega)) ?_
          refine JL.go ⟨_, rfl, (decide_eq_true rfl)⟩ (RX.loadS H (sl_up (hoa2.slAt (L := [])) (by simp)) rfl (j := (tR s).length) (by omega) (v := .int .i64 (-7)) last_of one3) ?_
          refine JL.go ⟨_, rfl, (decide_eq_true rfl)⟩ (RX.eq rfl rfl) ?_
          refine JL.go trivial (RX.pick_t rfl (decide_eq_true rfl)) ?_
          refine JL.go trivial (RX.movev (v := Value.bool _) rfl) ?_
          refine JL.go ⟨_, rfl, (by decide)⟩ (RX.movev (v := Value.slice _ _ _) rfl) ?_
          refine JL.go ⟨_, rfl, (by decide)⟩ (RX.movev (v := Value.slice _ _ _) rfl) ?_
          refine JL.go ⟨_, rfl, (by decide)⟩ (RX.len_slice rfl (by rw [sl43]; rfl) rfl) ?_
          refine JL.go ⟨_, rfl, (by decide)⟩ (RX.sub rfl rfl (w_i64 (r := ((tW s).length : Int)) (by omega) (by omega) (by omega))) ?_
          refine JL.go ⟨_, rfl, (by decide)⟩ (RX.indexAddr rfl rfl sl43 (by omega) (by omega) (o' := (tW s).length) (by omega)) ?_
          refine JL.go ⟨_, rfl, (by decide)⟩ (RX.loadS H (sl_up (hob2.slAt (L := [])) (by simp)) rfl (j := (tW s).length) (by omega) (v := .int .i64 (-8)) last_of one3) ?_
          refine JL.go ⟨_, rfl, (by decide)⟩ (RX.eq rfl rfl) ?_
          refine JL.go trivial (RX.pick_t rfl (by decide)) ?_
          refine JL.go trivial (RX.assignv (v := Value.bool _) rfl) ?_
          refine JL.nil ?_
          refine J.ret1 (v := Value.bool _) Tryd.func5 rfl rfl ?_
          exact ⟨_, rfl, rfl, H.drop.drop.drop.drop.drop.drop⟩
end Go.Proofs.YtafhajgebhicdaaDoor

/- Package steps: Decode, Same. -/
import Derived.Test.YtnbbeghaeijcbaaDoorSt
namespace Go.Proofs.YtnbbeghaeijcbaaDoor
open Go Go.Eng
set_option maxRecDepth 100000
set_option linter.unusedVariables false
set_option linter.unusedSimpArgs false

def numS (most : Int) (l : List UInt8) : Option (Int × List UInt8) :=
  match (rdu 0 0 l).upto most with
  | .ok x k => some (x, l.drop k)
  | .err _ => none
def numsA (acc : List Int) : Nat → List UInt8 → Option (List Int × List UInt8)
  | 0, l => some (acc, l)
  | n + 1, l => match numS 262144 l with
    | none => none
    | some (x, m) => numsA (acc ++ [x]) n m
theorem numsA_some {acc : List Int} {n : Nat} {l m : List UInt8} {x : Int} (h : numS 262144 l = some (x, m)) : numsA acc (n + 1) l = numsA (acc ++ [x]) n m := by simp [numsA, h]
theorem numsA_none {acc : List Int} {n : Nat} {l : List UInt8} (h : numS 262144 l = none) : numsA acc (n + 1) l = none := by simp [numsA, h]
theorem rdu_upto_err {l : List UInt8} {most : Int} {e : Nat} (h : (rdu 0 0 l).upto most = .err e) : e = 1 ∨ e = 2 ∨ e = 3 := by
  rcases rd_cases (rdu 0 0 l) with ⟨x, k, hr⟩ | ⟨e', hr⟩
  · rw [hr] at h
    simp only [Rd.upto] at h
    split at h
    · cases h; simp
    · cases h
  · rw [hr] at h
    cases h
    rcases rdu_err _ _ _ _ hr with h | h <;> simp [h]
theorem rdu_upto_ok {l : List UInt8} {most : Int} {x k : Nat} (h : (rdu 0 0 l).upto most = .ok x k) : (x : Int) ≤ most ∧ k ≤ l.length ∧ 0 < k := by
  rcases rd_cases (rdu 0 0 l) with ⟨x', k', hr⟩ | ⟨e', hr⟩
  · have hlt := rdu_lt l 0 0 _ _ (by omega) (by decide) hr
    rw [hr] at h
    simp only [Rd.upto] at h
    split at h
    · cases h
    · cases h
      omega
  · rw [hr] at h; cases h
theorem isE3 {E : Nat → Value} {F : List Seg} {a b c : Nat} (g1 : GErr F a (E 1)) (g2 : GErr F b (E 2)) (g3 : GErr F c (E 3)) (l : List UInt8) (most : Int) :
    isErr (isE E ((rdu 0 0 l).upto most)) = true ∧
    ((isNil (isE E ((rdu 0 0 l).upto most)) = true ∧ ∃ x k, (rdu 0 0 l).upto most = .ok x k ∧ numS most l = some ((x : Int), l.drop k) ∧ (x : Int) ≤ most ∧ k ≤ l.length) ∨
      (isNil (isE E ((rdu 0 0 l).upto most)) = false ∧ (∃ e, (rdu 0 0 l).upto most = .err e) ∧ numS most l = none)) := by
  rcases rd_cases ((rdu 0 0 l).upto most) with ⟨x, k, hr⟩ | ⟨e, hr⟩
  · rw [hr]
    have := rdu_upto_ok hr
    exact ⟨rfl, .inl ⟨rfl, x, k, rfl, by simp [numS, hr], this.1, this.2.1⟩⟩
  · rw [hr]
    have h : isErr (E e) = true ∧ isNil (E e) = false := by
      rcases rdu_upto_err hr with rfl | rfl | rfl
      · exact ⟨g1.ie, g1.nn⟩
      · exact ⟨g2.ie, g2.nn⟩
      · exact ⟨g3.ie, g3.nn⟩
    exact ⟨h.1, .inr ⟨h.2, ⟨e, rfl⟩, by simp [numS, hr]⟩⟩
theorem numS_len {most : Int} {l m : List UInt8} {x : Int} (h : numS most l = some (x, m)) : m.length < l.length ∧ 0 ≤ x ∧ x ≤ most := by
  unfold numS at h
  split at h
  · rename_i x' k hr
    have := rdu_upto_ok hr
    cases h
    simp only [List.length_drop]; omega
  · cases h
def stp0 : Stp := ⟨0, 0, 0, 0, 0, 0, 0⟩
def Stp.put (s : Stp) (o : Nat) (x : Int) : Stp :=
  match o with
  | 0 => { s with op := x }
  | 1 => { s with dst := x }
  | 2 => { s with src := x }
  | 3 => { s with jump := x }
  | 4 => { s with count := x }
  | 5 => { s with n := x }
  | 6 => { s with k := x }
  | _ => s
theorem seven {o : Nat} (h : o < 7) : o = 0 ∨ o = 1 ∨ o = 2 ∨ o = 3 ∨ o = 4 ∨ o = 5 ∨ o = 6 := by omega
theorem Stp.put_v {s : Stp} {o : Nat} {x : Int} (h : o < 7) : s.v.set o (.int .i64 x) = (s.put o x).v := by
  rcases seven h with rfl | rfl | rfl | rfl | rfl | rfl | rfl <;> rfl
theorem Stp.put_op {s : Stp} {o : Nat} {x : Int} (h : 1 ≤ o) : (s.put o x).op = s.op := by
  match o, h with
  | 1, _ => rfl
  | 2, _ => rfl
  | 3, _ => rfl
  | 4, _ => rfl
  | 5, _ => rfl
  | 6, _ => rfl
  | o + 7, _ => rfl
def Stp.Bd (s : Stp) : Prop := ∀ o, o < 7 → 0 ≤ s.at_ o ∧ s.at_ o ≤ 262144
theorem Stp.Bd.ok {s : Stp} (h : s.Bd) : s.Ok := by
  have h0 := h 0 (by omega); have h1 := h 1 (by omega); have h2 := h 2 (by omega); have h3 := h 3 (by omega); have h4 := h 4 (by omega); have h5 := h 5 (by omega); have h6 := h 6 (by omega)
  simp [Stp.at_] at h0 h1 h2 h3 h4 h5 h6
  constructor <;> unfold i64ok <;> omega
theorem Stp.put_at {s : Stp} {o q : Nat} {x : Int} (h : o < 7) (hq : q < 7) : (s.put o x).at_ q = if q = o then x else s.at_ q := by
  rcases seven h with rfl | rfl | rfl | rfl | rfl | rfl | rfl <;> rcases seven hq with rfl | rfl | rfl | rfl | rfl | rfl | rfl <;> rfl
theorem Stp.Bd.put {s : Stp} {o : Nat} {x : Int} (h : s.Bd) (ho : o < 7) (h0 : 0 ≤ x) (h1 : x ≤ 262144) : (s.put o x).Bd := by
  intro q hq
  rw [Stp.put_at ho hq]
  split
  · omega
  · exact h q hq
theorem stp0_bd : stp0.Bd := by
  intro o h
  rcases seven h with rfl | rfl | rfl | rfl | rfl | rfl | rfl <;> decide
theorem form_bd {s : Stp} (h : formB s = true) : s.Bd := by
  simp only [formB, Bool.and_eq_true] at h
  obtain ⟨⟨hop, ⟨⟨⟨⟨hd, hc⟩, hs⟩, hj⟩, hn⟩, hk⟩, _⟩ := h
  have hop := of_decide_eq_true hop
  have hrn := row_n hop.1 hop.2
  have hnb := fromB_n hn (by split <;> omega) hrn.2
  simp only [fromB, if_true, decide_eq_true_eq] at hd hc
  have hs2 : 0 ≤ s.src ∧ s.src ≤ 262144 := by
    unfold fromB at hs; split at hs <;> have := of_decide_eq_true hs <;> omega
  have hj2 : 0 ≤ s.jump ∧ s.jump ≤ 262144 := by
    unfold fromB at hj; split at hj <;> have := of_decide_eq_true hj <;> omega
  have hk2 : 0 ≤ s.k ∧ s.k ≤ 262144 := by
    unfold fromB at hk; split at hk <;> have := of_decide_eq_true hk <;> omega
  intro o ho
  rcases seven ho with rfl | rfl | rfl | rfl | rfl | rfl | rfl
  · show 0 ≤ s.op ∧ s.op ≤ 262144; omega
  · show 0 ≤ s.dst ∧ s.dst ≤ 262144; omega
  · exact hs2
  · exact hj2
  · show 0 ≤ s.count ∧ s.count ≤ 262144; omega
  · show 0 ≤ s.n ∧ s.n ≤ 262144; omega
  · exact hk2
def putAll (s : Stp) : List Nat → List Int → Stp
  | o :: os, x :: xs => putAll (s.put o x) os xs
  | _, _ => s
theorem putAll_snoc : ∀ (os : List Nat) (xs : List Int) (s : Stp) (o : Nat) (x : Int), os.length = xs.length → putAll s (os ++ [o]) (xs ++ [x]) = (putAll s os xs).put o x := by
  intro os
  induction os with
  | nil => intro xs s o x h; cases xs with
    | nil => rfl
    | cons y ys => simp at h
  | cons a os ih => intro xs s o x h; cases xs with
    | nil => simp at h
    | cons y ys => exact ih ys _ o x (by simpa using h)
theorem putAll_op : ∀ (os : List Nat) (xs : List Int) (s : Stp), (∀ o ∈ os, 1 ≤ o) → (putAll s os xs).op = s.op := by
  intro os
  induction os with
  | nil => intro xs s _; rfl
  | cons a os ih => intro xs s h; cases xs with
    | nil => rfl
    | cons y ys =>
      show (putAll (s.put a y) os ys).op = s.op
      rw [ih _ _ (fun o ho => h o (List.mem_cons_of_mem _ ho)), Stp.put_op (h a List.mem_cons_self)]
def stepS (l : List UInt8) : Option (Stp × List UInt8) :=
  match numS 11 l with
  | none => none
  | some (op, l1) => if op = 0 then none else
    match numsA [] (fieldOffs (rowOf op)).length l1 with
    | none => none
    | some (xs, l2) => if formB (putAll (stp0.put 0 op) (fieldOffs (rowOf op)) xs) then some (putAll (stp0.put 0 op) (fieldOffs (rowOf op)) xs, l2) else none
theorem stepS_none1 {l : List UInt8} (h : numS 11 l = none) : stepS l = none := by simp [stepS, h]
theorem stepS_none0 {l m : List UInt8} (h : numS 11 l = some (0, m)) : stepS l = none := by simp [stepS, h]
theorem stepS_none2 {l m : List UInt8} {op : Int} (h : numS 11 l = some (op, m)) (h2 : numsA [] (fieldOffs (rowOf op)).length m = none) : stepS l = none := by simp [stepS, h, h2]
theorem stepS_none3 {l m n : List UInt8} {op : Int} {xs : List Int} (h : numS 11 l = some (op, m)) (h2 : numsA [] (fieldOffs (rowOf op)).length m = some (xs, n))
    (h3 : formB (putAll (stp0.put 0 op) (fieldOffs (rowOf op)) xs) = false) : stepS l = none := by simp [stepS, h, h2, h3]
theorem stepS_some {l m n : List UInt8} {op : Int} {xs : List Int} (h : numS 11 l = some (op, m)) (h0 : op ≠ 0) (h2 : numsA [] (fieldOffs (rowOf op)).length m = some (xs, n))
    (h3 : formB (putAll (stp0.put 0 op) (fieldOffs (rowOf op)) xs) = true) : stepS l = some (putAll (stp0.put 0 op) (fieldOffs (rowOf op)) xs, n) := by simp [stepS, h, h0, h2, h3]
def stepsA (acc : List Stp) : Nat → List UInt8 → Option (List Stp × List UInt8)
  | 0, l => some (acc, l)
  | n + 1, l => match stepS l with
    | none => none
    | some (x, m) => stepsA (acc ++ [x]) n m
theorem stepsA_some {acc : List Stp} {n : Nat} {l m : List UInt8} {x : Stp} (h : stepS l = some (x, m)) : stepsA acc (n + 1) l = stepsA (acc ++ [x]) n m := by simp [stepsA, h]
theorem stepsA_none {acc : List Stp} {n : Nat} {l : List UInt8} (h : stepS l = none) : stepsA acc (n + 1) l = none := by simp [stepsA, h]
def hdP (acc : List Int) (ss : List Stp) : Prg := ⟨acc.getD 0 0, acc.getD 1 0, acc.getD 2 0, acc.getD 3 0, ss⟩
theorem hdP_set {acc : List Int} {ss : List Stp} {x : Int} {pp : Option Addr} {n c i : Nat} (h : acc.length = i) (hi : i < 4) : (prgV (hdP acc ss) pp n c).set i (.int .i64 x) = prgV (hdP (acc ++ [x]) ss) pp n c := by
  subst h
  match acc, hi with
  | [], _ => rfl
  | [_], _ => rfl
  | [_, _], _ => rfl
  | [_, _, _], _ => rfl
theorem prgV_steps {p : Prg} {q : List Stp} {pp : Option Addr} {n c : Nat} : prgV p pp n c = prgV { p with steps := q } pp n c := rfl
/-- What the bytes hold: a program, and the bytes behind it. -/
def decS (l : List UInt8) : Option (Prg × List UInt8) :=
  match numsA [] 4 l with
  | none => none
  | some (hs, l1) => match numS 65536 l1 with
    | none => none
    | some (n, l2) => match stepsA [] n.toNat l2 with
      | none => none
      | some (ss, l3) => some (hdP hs ss, l3)
theorem decS_none1 {l : List UInt8} (h : numsA [] 4 l = none) : decS l = none := by simp [decS, h]
theorem decS_none2 {l m : List UInt8} {hs : List Int} (h : numsA [] 4 l = some (hs, m)) (h2 : numS 65536 m = none) : decS l = none := by simp [decS, h, h2]
theorem decS_none3 {l m k : List UInt8} {hs : List Int} {n : Int} (h : numsA [] 4 l = some (hs, m)) (h2 : numS 65536 m = some (n, k)) (h3 : stepsA [] n.toNat k = none) : decS l = none := by simp [decS, h, h2, h3]
theorem decS_some {l m k j : List UInt8} {hs : List Int} {n : Int} {ss : List Stp} (h : numsA [] 4 l = some (hs, m)) (h2 : numS 65536 m = some (n, k)) (h3 : stepsA [] n.toNat k = some (ss, j)) : decS l = some (hdP hs ss, j) := by simp [decS, h, h2, h3]
theorem prgV_cell {p : Prg} {pp : Option Addr} {n c : Nat} : ∀ v ∈ prgV p pp n c, isCell v = true := by
  intro v hv
  simp [prgV] at hv
  rcases hv with rfl | rfl | rfl | rfl | rfl <;> rfl
def prg0 : Prg := ⟨0, 0, 0, 0, []⟩

theorem elS : Elem Tryd.prog 22 25 7 56 := Elem.of (by kernel_rfl)
theorem decode_b {w0 w : World} {F : List Seg} {b T c at_ : Nat} {p : Option Addr} {s : Seg} {bs : List UInt8} {E : Nat → Value} (H : Hp w0 w ([(b, cel [.slice p bs.length c, .int .i64 (at_ : Nat)] T)] :: s :: F)) (ho : OwnSl 5 1 p bs.length c (bv bs) s)
      (hat : at_ ≤ bs.length) (hl : bs.length ≤ 1099511627776) (g1 : GErr F 2 (E 1)) (g2 : GErr F 3 (E 2)) (g3 : GErr F 4 (E 3)) (hT : SlAt F (some ⟨1, 0, none⟩) tableC) : Ret Tryd.prog 42 [.pointer (some ⟨b, 0, none⟩), .agg (prgV prg0 none 0 0).toArray] w fun v w' =>
      (∃ q rest pp pc ps, decS (bs.drop at_) = some (q, rest) ∧ v = .tuple #[.agg (prgV q pp q.steps.length pc).toArray, .bool true] ∧ OwnSl 25 7 pp q.steps.length pc (stepsV q.steps) ps ∧ (∀ s ∈ q.steps, formB s = true) ∧
        ∃ at2, at2 ≤ bs.length ∧ rest = bs.drop at2 ∧ Hp w0 w' ([(b, cel [.slice p bs.length c, .int .i64 (at2 : Nat)] T)] :: s :: ps :: F)) ∨
      (decS (bs.drop at_) = none ∧ ∃ q pp n pc at2, v = .tuple #[.agg (prgV q pp n pc).toArray, .bool false] ∧ at2 ≤ bs.length ∧ Hp w0 w' ([(b, cel [.slice p bs.length c, .int .i64 (at2 : Nat)] T)] :: s :: F)) := by
  refine Calls.of_J (n := 84) Tryd.func42 rfl rfl rfl ?_
  refine J.seq ?_
  refine J.region ?_
  refine JL.does trivial (EX.box (v := Value.agg _) H rfl rfl) ?_
  rintro _ w ⟨b1, rfl, H⟩
  refine JL.does trivial (EX.alloc H zr33 rfl) ?_
  rintro _ w ⟨b2, rfl, H⟩
  refine JL.go trivial (RX.assign) ?_
  refine JL.nil ?_
  refine J.seq ?_
  refine J.region ?_
  refine JL.go trivial (RX.assign) ?_
  refine JL.nil ?_
  refine J.seq ?_
  refine J.seq ?_
  refine J.region ?_
  refine JL.does trivial (EX.call rfl cl34 rfl (head_b H)) ?_
  rintro _ w ⟨hb, rfl, H⟩
  refine JL.go trivial (RX.len_slice rfl (by rw [sl70]; rfl) rfl) ?_
  refine JL.go trivial (RX.move) ?_
  refine JL.nil ?_
  refine J.block ?_
  refine J.loop (ι := Nat × Nat × List Int) (S := fun q => [(15, .int .i64 (q.1 : Nat))]) (Φ := fun q w => q.1 ≤ 4 ∧ q.2.2.length = q.1 ∧ q.2.1 ≤ bs.length ∧ numsA [] 4 (bs.drop at_) = numsA q.2.2 (4 - q.1) (bs.drop q.2.1) ∧ Hp w0 w ([(b, cel [.slice p bs.length c, .int .i64 (q.2.1 : Nat)] T)] :: s :: [(hb, cel (ptrsV b1 [0, 1, 2, 3]) 50)] :: [(b2, cel (prgV prg0 none 0 0) 33)] :: [(b1, cel (prgV (hdP q.2.2 []) none 0 0) 33)] :: F)) (μ := fun q => 4 - q.1) (C := [(0, _), (3, _), (4, _), (13, _), (14, _)]) (0, at_, []) ⟨rfl, rfl, rfl, rfl, rfl, trivial⟩ ⟨rfl, trivial⟩ ?_ ?_
  · exact ⟨by omega, rfl, hat, rfl, (H.pull 4 rfl).pull 4 rfl⟩
  clear H
  rintro ⟨i, a, acc⟩ ρ w ⟨hi, hacl, ha, hac, H⟩ IH
  simp only at hi hacl ha hac H
  dsimp only
  refine J.seq ?_
  refine J.region ?_
  refine JL.go trivial (RX.lt rfl rfl) ?_
  refine JL.nil ?_
  refine J.seq ?_
  refine J.cond_d rfl (fun hi4 => ?_) (fun hi4 => ?_)
  · skip
    refine J.skip ?_
    refine J.seq ?_
    refine J.block ?_
    refine J.seq ?_
    refine J.region ?_
    refine JL.go trivial (RX.indexAddr rfl rfl sl70 (by omega) (by omega) rfl) ?_
    refine JL.go trivial (RX.load H rfl (i := 2) (v := .pointer (some ⟨b1, i, none⟩)) rfl (by have := ptrsV_get (b := b1) (offs := [0, 1, 2, 3]) (i := i) (o := i) (by have : i = 0 ∨ i = 1 ∨ i = 2 ∨ i = 3 := (by omega); rcases this with rfl | rfl | rfl | rfl <;> rfl); simpa using this) one50) ?_
    refine JL.go trivial (RX.assignv (v := Value.pointer _) rfl) ?_
    refine JL.nil ?_
    refine J.seq ?_
    refine J.region ?_
    refine JL.go trivial (RX.movev (v := Value.pointer _) rfl) ?_
    refine JL.go trivial (RX.movev (v := Value.pointer _) rfl) ?_
    refine JL.does trivial (EX.call rfl cl48 rfl ((upto_r H ho ha hl g1.cons.cons.cons g2.cons.cons.cons g3.cons.cons.cons (by decide) (by decide)))) ?_
    rintro _ w ⟨rfl, H⟩
    obtain ⟨hie, hcs⟩ := isE3 (most := 262144) g1 g2 g3 (bs.drop a)
    obtain ⟨i1, hi1⟩ : ∃ i1, 4 - i = i1 + 1 := ⟨3 - i, by omega⟩
    rw [hi1] at hac
    generalize (rdu 0 0 (bs.drop a)).upto 262144 = rd at hie hcs H ⊢
    refine JL.go trivial (RX.movev (v := Value.tuple _) rfl) ?_
    refine JL.go trivial (RX.extract rfl rfl) ?_
    refine JL.go trivial (RX.extract rfl rfl) ?_
    refine JL.go trivial (RX.nilCheck rfl) ?_
    refine JL.does trivial (EX.store (v := Value.int _ _) H rfl rfl (i := 4) rfl rfl (by simp [prgV]; omega) sz3 rfl rfl) ?_
    rintro _ w H
    refine JL.go trivial (RX.assign) ?_
    refine JL.nil ?_
    refine J.seq ?_
    refine J.region ?_
    refine JL.go trivial (RX.move) ?_
    refine JL.go trivial (RX.ifnil_neq (v := isE E rd) rfl rfl hie if29) ?_
    refine JL.nil ?_
    refine J.cond rfl (fun hn => ?_) (fun hn => ?_)
    · skip
      rcases hcs with ⟨hcs1, _⟩ | ⟨_, ⟨e, he⟩, hno⟩
      · rw [hcs1] at hn; cases hn
      subst he
      rw [numsA_none hno] at hac
      simp only [rdAt, rdN] at H
      rw [hdP_set hacl (by omega)] at H
      refine J.seq ?_
      refine J.region ?_
      refine JL.go trivial (RX.loadAgg H rfl (i := 4) (vs := prgV (hdP (acc ++ [((0 : Nat) : Int)]) []) none 0 0) rfl rfl ag33) ?_
      refine JL.does trivial (EX.storeAgg H rfl rfl (i := 3) rfl prgV_cell (by simp [prgV]) sz33 rfl rfl) ?_
      rintro _ w H
      refine JL.go trivial (RX.assign) ?_
      refine JL.nil ?_
      first | refine J.retct (x := Value.bool _) Tryd.func42 rfl H rfl (i := 0) rfl rfl ag33 rfl ?_ | refine J.retct (x := Value.bool _) Tryd.func42 rfl H rfl (i := 1) rfl rfl ag33 rfl ?_ | refine J.retct (x := Value.bool _) Tryd.func42 rfl H rfl (i := 2) rfl rfl ag33 rfl ?_ | refine J.retct (x := Value.bool _) Tryd.func42 rfl H rfl (i := 3) rfl rfl ag33 rfl ?_ | refine J.retct (x := Value.bool _) Tryd.func42 rfl H rfl (i := 4) rfl rfl ag33 rfl ?_ | refine J.retct (x := Value.bool _) Tryd.func42 rfl H rfl (i := 5) rfl rfl ag33 rfl ?_ | refine J.retct (x := Value.bool _) Tryd.func42 rfl H rfl (i := 6) rfl rfl ag33 rfl ?_
      exact ⟨_, rfl, .inr ⟨decS_none1 hac, _, _, _, _, a, rfl, ha, ((((H.pull 2 rfl).drop.pull 2 rfl).drop.pull 2 rfl).drop)⟩⟩
    · skip
      rcases hcs with ⟨_, x, k, he, hyes, hxm, hkl⟩ | ⟨hcs1, _⟩
      rotate_left
      · rw [hcs1] at hn; cases hn
      subst he
      simp only [List.length_drop] at hkl
      rw [numsA_some hyes] at hac
      simp only [rdN, rdAt] at H
      rw [hdP_set hacl (by omega)] at H
      refine J.skip ?_
      refine J.inBlock ?_
      refine J.region ?_
      refine JL.go trivial (RX.add rfl rfl (w_i64 rfl (by omega) (by omega))) ?_
      refine JL.go trivial (RX.movev (v := Value.int _ _) rfl) ?_
      refine JL.nil ?_
      exact IH (i + 1, a + k, acc ++ [(x : Int)]) _ _ (by simp only; omega) ⟨rfl, rfl, rfl, rfl, rfl, trivial⟩ ⟨rfl, trivial⟩ ⟨by omega, by simp [hacl], by simp only; omega, by simp only; rw [hac, List.drop_drop, show 4 - (i + 1) = i1 by omega], H⟩
  · skip
    refine J.exit rfl ?_
    refine J.seq ?_
    refine J.region ?_
    have hi4 : i = 4 := by omega
    subst hi4
    change _ = some (acc, bs.drop a) at hac
    refine JL.go trivial (RX.movev (v := Value.pointer _) rfl) ?_
    refine JL.does trivial (EX.call rfl cl48 rfl ((upto_r H ho ha hl g1.cons.cons.cons g2.cons.cons.cons g3.cons.cons.cons (by decide) (by decide)))) ?_
    rintro _ w ⟨rfl, H⟩
    obtain ⟨hie, hcs⟩ := isE3 (most := 65536) g1 g2 g3 (bs.drop a)
    generalize (rdu 0 0 (bs.drop a)).upto 65536 = rd at hie hcs H ⊢
    refine JL.go trivial (RX.movev (v := Value.tuple _) rfl) ?_
    refine JL.go trivial (RX.extract rfl rfl) ?_
    refine JL.go trivial (RX.extract rfl rfl) ?_
    refine JL.go trivial (RX.assignv (v := Value.int _ _) rfl) ?_
    refine JL.go trivial (RX.assign) ?_
    refine JL.nil ?_
    refine J.seq ?_
    refine J.seq ?_
    refine J.region ?_
    refine JL.go trivial (RX.move) ?_
    refine JL.go trivial (RX.ifnil_neq (v := isE E rd) rfl rfl hie if29) ?_
    refine JL.nil ?_
    refine J.cond rfl (fun hn => ?_) (fun hn => ?_)
    · skip
      rcases hcs with ⟨hcs1, _⟩ | ⟨_, ⟨e, he⟩, hno⟩
      · rw [hcs1] at hn; cases hn
      subst he
      simp only [rdAt] at H
      refine J.seq ?_
      refine J.region ?_
      refine JL.go trivial (RX.loadAgg H rfl (i := 4) (vs := prgV (hdP acc []) none 0 0) rfl rfl ag33) ?_
      refine JL.does trivial (EX.storeAgg H rfl rfl (i := 3) rfl prgV_cell (by simp [prgV]) sz33 rfl rfl) ?_
      rintro _ w H
      refine JL.go trivial (RX.assign) ?_
      refine JL.nil ?_
      first | refine J.retct (x := Value.bool _) Tryd.func42 rfl H rfl (i := 0) rfl rfl ag33 rfl ?_ | refine J.retct (x := Value.bool _) Tryd.func42 rfl H rfl (i := 1) rfl rfl ag33 rfl ?_ | refine J.retct (x := Value.bool _) Tryd.func42 rfl H rfl (i := 2) rfl rfl ag33 rfl ?_ | refine J.retct (x := Value.bool _) Tryd.func42 rfl H rfl (i := 3) rfl rfl ag33 rfl ?_ | refine J.retct (x := Value.bool _) Tryd.func42 rfl H rfl (i := 4) rfl rfl ag33 rfl ?_ | refine J.retct (x := Value.bool _) Tryd.func42 rfl H rfl (i := 5) rfl rfl ag33 rfl ?_ | refine J.retct (x := Value.bool _) Tryd.func42 rfl H rfl (i := 6) rfl rfl ag33 rfl ?_
      exact ⟨_, rfl, .inr ⟨decS_none2 hac hno, _, _, _, _, a, rfl, ha, ((((H.pull 2 rfl).drop.pull 2 rfl).drop.pull 2 rfl).drop)⟩⟩
    · skip
      rcases hcs with ⟨_, x2, k2, he, hyes, hxm, hkl⟩ | ⟨hcs1, _⟩
      rotate_left
      · rw [hcs1] at hn; cases hn
      subst he
      simp only [List.length_drop] at hkl
      simp only [rdN, rdAt] at H
      rw [List.drop_drop] at hyes
      have hyes2 := hyes
      refine J.skip ?_
      refine J.seq ?_
      refine J.seq ?_
      refine J.region ?_
      refine JL.go trivial (RX.movev (v := Value.int _ _) rfl) ?_
      refine JL.go trivial (RX.move) ?_
      refine JL.nil ?_
      refine J.block ?_
      refine J.loop (ι := Nat × Nat × List Stp × Option Addr × Nat × Seg) (S := fun q => [(39, .int .i64 (q.1 : Nat))]) (Φ := fun q w => q.1 ≤ x2 ∧ q.2.2.1.length = q.1 ∧ q.2.1 ≤ bs.length ∧ stepsA [] x2 (bs.drop (a + k2)) = stepsA q.2.2.1 (x2 - q.1) (bs.drop q.2.1) ∧ OwnSl 25 7 q.2.2.2.1 q.1 q.2.2.2.2.1 (stepsV q.2.2.1) q.2.2.2.2.2 ∧ (∀ s ∈ q.2.2.1, formB s = true) ∧ Hp w0 w ([(b, cel [.slice p bs.length c, .int .i64 (q.2.1 : Nat)] T)] :: s :: [(hb, cel (ptrsV b1 [0, 1, 2, 3]) 50)] :: [(b2, cel (prgV prg0 none 0 0) 33)] :: [(b1, cel (prgV (hdP acc q.2.2.1) q.2.2.2.1 q.1 q.2.2.2.2.1) 33)] :: q.2.2.2.2.2 :: F)) (μ := fun q => x2 - q.1) (C := [(0, _), (3, _), (4, _), (38, .int .i64 (x2 : Nat))]) (0, a + k2, [], none, 0, []) ⟨rfl, rfl, rfl, rfl, trivial⟩ ⟨rfl, trivial⟩ ?_ ?_
      · exact ⟨by omega, rfl, by simp only; omega, rfl, OwnSl.nil, fun s h => (by simp at h), (((((H.nil.pull 5 rfl).pull 5 rfl).pull 5 rfl).pull 5 rfl).pull 5 rfl)⟩
      clear H
      rintro ⟨k, a3, ss, pp, pc, ps⟩ ρ w ⟨hk, hsl, ha3, hss, hop, hfs, H⟩ IH
      simp only at hk hsl ha3 hss hop hfs H
      dsimp only
      refine J.seq ?_
      refine J.region ?_
      refine JL.go trivial (RX.lt rfl rfl) ?_
      refine JL.nil ?_
      refine J.seq ?_
      refine J.cond_d rfl (fun hlt => ?_) (fun hlt => ?_)
      · skip
        obtain ⟨d, hd⟩ : ∃ d, x2 - k = d + 1 := ⟨x2 - k - 1, by omega⟩
        rw [hd] at hss
        refine J.skip ?_
        refine J.seq ?_
        refine J.block ?_
        refine J.seq ?_
        refine J.region ?_
        refine JL.does trivial (EX.alloc H zr25 rfl) ?_
        rintro _ w ⟨sb, rfl, H⟩
        refine JL.nil ?_
        refine J.seq ?_
        refine J.seq ?_
        refine J.region ?_
        refine JL.go trivial (RX.movev (v := Value.pointer _) rfl) ?_
        refine JL.does trivial (EX.call rfl cl48 rfl ((upto_r ((H.pull 2 rfl).pull 2 rfl) ho ha3 hl g1.cons.cons.cons.cons.cons g2.cons.cons.cons.cons.cons g3.cons.cons.cons.cons.cons (by decide) (by decide)))) ?_
        rintro _ w ⟨rfl, H⟩
        obtain ⟨hie, hcs⟩ := isE3 (most := 11) g1 g2 g3 (bs.drop a3)
        generalize (rdu 0 0 (bs.drop a3)).upto 11 = rd at hie hcs H ⊢
        refine JL.go trivial (RX.movev (v := Value.tuple _) rfl) ?_
        refine JL.go trivial (RX.extract rfl rfl) ?_
        refine JL.go trivial (RX.extract rfl rfl) ?_
        refine JL.go trivial (RX.fieldAddr rfl fo25_0 rfl) ?_
        refine JL.does trivial (EX.store (v := Value.int _ _) H rfl rfl (i := 2) rfl rfl (by simp) sz3 rfl rfl) ?_
        rintro _ w H
        refine JL.go trivial (RX.assign) ?_
        refine JL.nil ?_
        refine J.seq ?_
        refine J.region ?_
        refine JL.go trivial (RX.move) ?_
        refine JL.go trivial (RX.ifnil_neq (v := isE E rd) rfl rfl hie if29) ?_
        refine JL.go trivial (RX.movev (v := Value.bool _) rfl) ?_
        refine JL.splitS 49 rfl (fun hn => ?_) (fun hn => ?_)
        · skip
          first | have hnp := of_decide_eq_true hn | skip
          rcases hcs with ⟨hcs1, _⟩ | ⟨_, ⟨e, he⟩, hno⟩
          · rw [hcs1] at hn; cases hn
          subst he
          rw [stepsA_none (stepS_none1 hno)] at hss
          simp only [rdAt] at H
          refine JL.no ⟨_, rfl, gno hn⟩ ?_
          refine JL.no ⟨_, rfl, gno hn⟩ ?_
          refine JL.no ⟨_, rfl, gno hn⟩ ?_
          refine JL.go trivial (RX.pick_t rfl hn) ?_
          refine JL.nil ?_
          refine J.cond_t rfl rfl ?_
          refine J.seq ?_
          refine J.region ?_
          refine JL.go trivial (RX.loadAgg H rfl (i := 5) (vs := prgV (hdP acc ss) pp k pc) rfl rfl ag33) ?_
          refine JL.does trivial (EX.storeAgg H rfl rfl (i := 4) rfl prgV_cell (by simp [prgV]) sz33 rfl rfl) ?_
          rintro _ w H
          refine JL.go trivial (RX.assign) ?_
          refine JL.nil ?_
          first | refine J.retct (x := Value.bool _) Tryd.func42 rfl H rfl (i := 0) rfl rfl ag33 rfl ?_ | refine J.retct (x := Value.bool _) Tryd.func42 rfl H rfl (i := 1) rfl rfl ag33 rfl ?_ | refine J.retct (x := Value.bool _) Tryd.func42 rfl H rfl (i := 2) rfl rfl ag33 rfl ?_ | refine J.retct (x := Value.bool _) Tryd.func42 rfl H rfl (i := 3) rfl rfl ag33 rfl ?_ | refine J.retct (x := Value.bool _) Tryd.func42 rfl H rfl (i := 4) rfl rfl ag33 rfl ?_ | refine J.retct (x := Value.bool _) Tryd.func42 rfl H rfl (i := 5) rfl rfl ag33 rfl ?_ | refine J.retct (x := Value.bool _) Tryd.func42 rfl H rfl (i := 6) rfl rfl ag33 rfl ?_
          exact ⟨_, rfl, .inr ⟨decS_none3 hac hyes2 hss, _, _, _, _, a3, rfl, ha3, ((((((H.pull 2 rfl).drop.pull 2 rfl).drop.pull 2 rfl).drop.pull 2 rfl).drop.pull 2 rfl).drop)⟩⟩
        · skip
          first | have hnp := of_decide_eq_false hn | skip
          rcases hcs with ⟨_, x3, k3, he, hyes, hxm, hkl⟩ | ⟨hcs1, _⟩
          rotate_left
          · rw [hcs1] at hn; cases hn
          subst he
          simp only [List.length_drop] at hkl
          simp only [rdN, rdAt] at H
          rw [List.drop_drop] at hyes
          refine JL.go ⟨_, rfl, hn⟩ (RX.fieldAddr rfl fo25_0 rfl) ?_
          refine JL.go ⟨_, rfl, hn⟩ (RX.load H rfl (i := 2) rfl rfl one3) ?_
          refine JL.go ⟨_, rfl, hn⟩ (RX.eq rfl rfl) ?_
          refine JL.go trivial (RX.pick_f rfl hn) ?_
          refine JL.nil ?_
          refine J.cond_d rfl (fun hop0 => ?_) (fun hop0 => ?_)
          · skip
            refine J.seq ?_
            refine J.region ?_
            refine JL.go trivial (RX.loadAgg H rfl (i := 5) (vs := prgV (hdP acc ss) pp k pc) rfl rfl ag33) ?_
            refine JL.does trivial (EX.storeAgg H rfl rfl (i := 4) rfl prgV_cell (by simp [prgV]) sz33 rfl rfl) ?_
            rintro _ w H
            refine JL.go trivial (RX.assign) ?_
            refine JL.nil ?_
            first | refine J.retct (x := Value.bool _) Tryd.func42 rfl H rfl (i := 0) rfl rfl ag33 rfl ?_ | refine J.retct (x := Value.bool _) Tryd.func42 rfl H rfl (i := 1) rfl rfl ag33 rfl ?_ | refine J.retct (x := Value.bool _) Tryd.func42 rfl H rfl (i := 2) rfl rfl ag33 rfl ?_ | refine J.retct (x := Value.bool _) Tryd.func42 rfl H rfl (i := 3) rfl rfl ag33 rfl ?_ | refine J.retct (x := Value.bool _) Tryd.func42 rfl H rfl (i := 4) rfl rfl ag33 rfl ?_ | refine J.retct (x := Value.bool _) Tryd.func42 rfl H rfl (i := 5) rfl rfl ag33 rfl ?_ | refine J.retct (x := Value.bool _) Tryd.func42 rfl H rfl (i := 6) rfl rfl ag33 rfl ?_
            have hx0 : x3 = 0 := by omega
            subst hx0
            rw [stepsA_none (stepS_none0 hyes)] at hss
            exact ⟨_, rfl, .inr ⟨decS_none3 hac hyes2 hss, _, _, _, _, a3 + k3, rfl, by omega, ((((((H.pull 2 rfl).drop.pull 2 rfl).drop.pull 2 rfl).drop.pull 2 rfl).drop.pull 2 rfl).drop)⟩⟩
          · skip
            refine J.skip ?_
            refine J.seq ?_
            refine J.seq ?_
            refine J.region ?_
            have hyes3 := hyes
            have hbd : (stp0.put 0 (x3 : Int)).Bd := stp0_bd.put (by omega) (by omega) (by omega)
            refine JL.does trivial (EX.call rfl cl36 rfl ((fields_b (s := stp0.put 0 (x3 : Int)) (H.pull 2 rfl) hT.cons.cons.cons.cons.cons.cons (show 1 ≤ (x3 : Int) by omega) (show (x3 : Int) ≤ 11 by omega)))) ?_
            rintro _ w ⟨fp, fc, fq, rfl, hof, H⟩
            change OwnSl _ _ _ (fieldOffs (rowOf (x3 : Int))).length _ (ptrsV sb (fieldOffs (rowOf (x3 : Int)))) _ at hof
            have hfle := fieldOffs_len (rowOf (x3 : Int))
            have hlf : (fieldOffs (rowOf (stp0.put 0 (x3 : Int)).op)).length = (fieldOffs (rowOf (x3 : Int))).length := rfl
            refine JL.go trivial (RX.len_slice rfl (by rw [sl70]; rfl) rfl) ?_
            refine JL.go trivial (RX.move) ?_
            refine JL.nil ?_
            refine J.block ?_
            refine J.loop (ι := Nat × Nat × List Int) (S := fun q => [(57, .int .i64 (q.1 : Nat))]) (Φ := fun q w => q.1 ≤ (fieldOffs (rowOf (x3 : Int))).length ∧ q.2.2.length = q.1 ∧ q.2.1 ≤ bs.length ∧ numsA [] (fieldOffs (rowOf (x3 : Int))).length (bs.drop (a3 + k3)) = numsA q.2.2 ((fieldOffs (rowOf (x3 : Int))).length - q.1) (bs.drop q.2.1) ∧ (putAll (stp0.put 0 (x3 : Int)) ((fieldOffs (rowOf (x3 : Int))).take q.1) q.2.2).Bd ∧ Hp w0 w ([(b, cel [.slice p bs.length c, .int .i64 (q.2.1 : Nat)] T)] :: s :: fq :: [(sb, cel (putAll (stp0.put 0 (x3 : Int)) ((fieldOffs (rowOf (x3 : Int))).take q.1) q.2.2).v 25)] :: [(hb, cel (ptrsV b1 [0, 1, 2, 3]) 50)] :: [(b2, cel (prgV prg0 none 0 0) 33)] :: [(b1, cel (prgV (hdP acc ss) pp k pc) 33)] :: ps :: F)) (μ := fun q => (fieldOffs (rowOf (x3 : Int))).length - q.1) (C := [(0, _), (3, _), (4, _), (10, _), (38, _), (39, _), (55, _), (56, .int .i64 ((fieldOffs (rowOf (x3 : Int))).length : Nat))]) (0, a3 + k3, []) ⟨rfl, rfl, rfl, rfl, rfl, rfl, rfl, rfl, trivial⟩ ⟨rfl, trivial⟩ ?_ ?_
            · exact ⟨by omega, rfl, by simp only; omega, rfl, hbd, (H.pull 3 rfl).pull 3 rfl⟩
            clear H
            rintro ⟨j, a4, xs⟩ ρ w ⟨hj, hxl, ha4, hxs, hbj, H⟩ IH2
            simp only at hj hxl ha4 hxs hbj H
            dsimp only
            refine J.seq ?_
            refine J.region ?_
            refine JL.go trivial (RX.lt rfl rfl) ?_
            refine JL.nil ?_
            refine J.seq ?_
            refine J.cond_d rfl (fun hjlt => ?_) (fun hjlt => ?_)
            · skip
              obtain ⟨d2, hd2⟩ : ∃ d2, (fieldOffs (rowOf (x3 : Int))).length - j = d2 + 1 := ⟨(fieldOffs (rowOf (x3 : Int))).length - j - 1, by omega⟩
              rw [hd2] at hxs
              obtain ⟨o, hoj⟩ : ∃ o, (fieldOffs (rowOf (x3 : Int)))[j]? = some o := ⟨_, List.getElem?_eq_getElem (by omega)⟩
              have hol := fieldOffs_lt (List.mem_of_getElem? hoj)
              obtain ⟨gq, lq, rfl, rfl, hll⟩ := hof.ptr (by omega)
              refine J.skip ?_
              refine J.seq ?_
              refine J.block ?_
              refine J.seq ?_
              refine J.region ?_
              refine JL.go trivial (RX.indexAddr rfl rfl sl70 (by omega) (by omega) rfl) ?_
              refine JL.go trivial (RX.loadS H ((SlAt.here hll.2.2).cons.cons) rfl (j := j) (by omega) (ptrsV_get hoj) one50) ?_
              refine JL.go trivial (RX.assignv (v := Value.pointer _) rfl) ?_
              refine JL.nil ?_
              refine J.seq ?_
              refine J.region ?_
              refine JL.go trivial (RX.movev (v := Value.pointer _) rfl) ?_
              refine JL.go trivial (RX.movev (v := Value.pointer _) rfl) ?_
              refine JL.does trivial (EX.call rfl cl48 rfl ((upto_r H ho ha4 hl g1.cons.cons.cons.cons.cons.cons g2.cons.cons.cons.cons.cons.cons g3.cons.cons.cons.cons.cons.cons (by decide) (by decide)))) ?_
              rintro _ w ⟨rfl, H⟩
              obtain ⟨hie, hcs⟩ := isE3 (most := 262144) g1 g2 g3 (bs.drop a4)
              generalize (rdu 0 0 (bs.drop a4)).upto 262144 = rd at hie hcs H ⊢
              refine JL.go trivial (RX.movev (v := Value.tuple _) rfl) ?_
              refine JL.go trivial (RX.extract rfl rfl) ?_
              refine JL.go trivial (RX.extract rfl rfl) ?_
              refine JL.go trivial (RX.nilCheck rfl) ?_
              refine JL.does trivial (EX.store (v := Value.int _ _) H rfl rfl (i := 3) rfl rfl (by simp [Stp.v]; omega) sz3 rfl rfl) ?_
              rintro _ w H
              refine JL.go trivial (RX.assign) ?_
              refine JL.nil ?_
              refine J.seq ?_
              refine J.region ?_
              refine JL.go trivial (RX.move) ?_
              refine JL.go trivial (RX.ifnil_neq (v := isE E rd) rfl rfl hie if29) ?_
              refine JL.nil ?_
              refine J.cond rfl (fun hn => ?_) (fun hn => ?_)
              · skip
                rcases hcs with ⟨hcs1, _⟩ | ⟨_, ⟨e, he⟩, hno⟩
                · rw [hcs1] at hn; cases hn
                subst he
                rw [numsA_none hno] at hxs
                rw [stepsA_none (stepS_none2 hyes3 hxs)] at hss
                simp only [rdAt] at H
                refine J.seq ?_
                refine J.region ?_
                refine JL.go trivial (RX.loadAgg H rfl (i := 6) (vs := prgV (hdP acc ss) pp k pc) rfl rfl ag33) ?_
                refine JL.does trivial (EX.storeAgg H rfl rfl (i := 5) rfl prgV_cell (by simp [prgV]) sz33 rfl rfl) ?_
                rintro _ w H
                refine JL.go trivial (RX.assign) ?_
                refine JL.nil ?_
                first | refine J.retct (x := Value.bool _) Tryd.func42 rfl H rfl (i := 0) rfl rfl ag33 rfl ?_ | refine J.retct (x := Value.bool _) Tryd.func42 rfl H rfl (i := 1) rfl rfl ag33 rfl ?_ | refine J.retct (x := Value.bool _) Tryd.func42 rfl H rfl (i := 2) rfl rfl ag33 rfl ?_ | refine J.retct (x := Value.bool _) Tryd.func42 rfl H rfl (i := 3) rfl rfl ag33 rfl ?_ | refine J.retct (x := Value.bool _) Tryd.func42 rfl H rfl (i := 4) rfl rfl ag33 rfl ?_ | refine J.retct (x := Value.bool _) Tryd.func42 rfl H rfl (i := 5) rfl rfl ag33 rfl ?_ | refine J.retct (x := Value.bool _) Tryd.func42 rfl H rfl (i := 6) rfl rfl ag33 rfl ?_
                exact ⟨_, rfl, .inr ⟨decS_none3 hac hyes2 hss, _, _, _, _, a4, rfl, ha4, (((((((H.pull 2 rfl).drop.pull 2 rfl).drop.pull 2 rfl).drop.pull 2 rfl).drop.pull 2 rfl).drop.pull 2 rfl).drop)⟩⟩
              · skip
                rcases hcs with ⟨_, x4, k4, he, hyes, hxm, hkl⟩ | ⟨hcs1, _⟩
                rotate_left
                · rw [hcs1] at hn; cases hn
                subst he
                simp only [List.length_drop] at hkl
                rw [numsA_some hyes] at hxs
                simp only [rdN, rdAt] at H
                have hbj2 := hbj.put (x := (x4 : Int)) hol.2 (by omega) (by omega)
                rw [Stp.put_v hol.2, ← putAll_snoc _ _ _ _ _ (by simp; omega), ← take_succ_get hoj] at H
                rw [← putAll_snoc _ _ _ _ _ (by simp; omega), ← take_succ_get hoj] at hbj2
                refine J.skip ?_
                refine J.inBlock ?_
                refine J.region ?_
                refine JL.go trivial (RX.add rfl rfl (w_i64 rfl (by omega) (by omega))) ?_
                refine JL.go trivial (RX.movev (v := Value.int _ _) rfl) ?_
                refine JL.nil ?_
                exact IH2 (j + 1, a4 + k4, xs ++ [(x4 : Int)]) _ _ (by simp only; omega) ⟨rfl, rfl, rfl, rfl, rfl, rfl, rfl, rfl, trivial⟩ ⟨rfl, trivial⟩ ⟨by simp only; omega, by simp [hxl], by simp only; omega, by simp only; rw [hxs, List.drop_drop, show (fieldOffs (rowOf (x3 : Int))).length - (j + 1) = d2 by omega], hbj2, H⟩
            · skip
              refine J.exit rfl ?_
              refine J.seq ?_
              refine J.seq ?_
              refine J.region ?_
              have hjf : j = (fieldOffs (rowOf (x3 : Int))).length := by omega
              subst hjf
              rw [List.take_length] at H hbj
              rw [Nat.sub_self] at hxs
              change _ = some (xs, bs.drop a4) at hxs
              refine JL.go trivial (RX.loadAgg H rfl (i := 3) (vs := (putAll (stp0.put 0 (x3 : Int)) (fieldOffs (rowOf (x3 : Int))) xs).v) rfl rfl ag25) ?_
              refine JL.does trivial (EX.call rfl cl32 rfl ((form_b H hT.cons.cons.cons.cons.cons.cons.cons.cons hbj.ok))) ?_
              rintro _ w ⟨rfl, H⟩
              refine JL.go trivial (RX.not rfl) ?_
              refine JL.nil ?_
              refine J.cond rfl (fun hf => ?_) (fun hf => ?_)
              · skip
                refine J.seq ?_
                refine J.region ?_
                refine JL.go trivial (RX.loadAgg H rfl (i := 6) (vs := prgV (hdP acc ss) pp k pc) rfl rfl ag33) ?_
                refine JL.does trivial (EX.storeAgg H rfl rfl (i := 5) rfl prgV_cell (by simp [prgV]) sz33 rfl rfl) ?_
                rintro _ w H
                refine JL.go trivial (RX.assign) ?_
                refine JL.nil ?_
                first | refine J.retct (x := Value.bool _) Tryd.func42 rfl H rfl (i := 0) rfl rfl ag33 rfl ?_ | refine J.retct (x := Value.bool _) Tryd.func42 rfl H rfl (i := 1) rfl rfl ag33 rfl ?_ | refine J.retct (x := Value.bool _) Tryd.func42 rfl H rfl (i := 2) rfl rfl ag33 rfl ?_ | refine J.retct (x := Value.bool _) Tryd.func42 rfl H rfl (i := 3) rfl rfl ag33 rfl ?_ | refine J.retct (x := Value.bool _) Tryd.func42 rfl H rfl (i := 4) rfl rfl ag33 rfl ?_ | refine J.retct (x := Value.bool _) Tryd.func42 rfl H rfl (i := 5) rfl rfl ag33 rfl ?_ | refine J.retct (x := Value.bool _) Tryd.func42 rfl H rfl (i := 6) rfl rfl ag33 rfl ?_
                rw [stepsA_none (stepS_none3 hyes3 hxs (by simpa using hf))] at hss
                exact ⟨_, rfl, .inr ⟨decS_none3 hac hyes2 hss, _, _, _, _, a4, rfl, ha4, (((((((H.pull 2 rfl).drop.pull 2 rfl).drop.pull 2 rfl).drop.pull 2 rfl).drop.pull 2 rfl).drop.pull 2 rfl).drop)⟩⟩
              · skip
                refine J.skip ?_
                refine J.region ?_
                have hf2 : formB (putAll (stp0.put 0 (x3 : Int)) (fieldOffs (rowOf (x3 : Int))) xs) = true := by simpa using hf
                have hss2 := hss
                rw [stepsA_some (stepS_some hyes3 (by omega) hxs hf2)] at hss2
                generalize putAll (stp0.put 0 (x3 : Int)) (fieldOffs (rowOf (x3 : Int))) xs = st at H hf2 hss2
                refine JL.go trivial (RX.fieldAddr rfl fo33_4 rfl) ?_
                refine JL.go trivial (RX.load H rfl (i := 6) rfl rfl one22) ?_
                refine JL.go trivial (RX.loadAgg H rfl (i := 3) (vs := st.v) rfl rfl ag25) ?_
                refine JL.does trivial (EX.buildSlice (pv := [(0, .agg st.v.toArray)]) (l := st.v) (e := 25) H rfl (by kernel_rfl)) ?_
                rintro _ w ⟨bb, rfl, H⟩
                refine JL.does trivial (EX.append (ys := st.v) (L' := fun s' => [(bb, cel st.v 25)] :: [(b, cel [.slice p bs.length c, .int .i64 (a4 : Nat)] T)] :: s :: fq :: [(sb, cel st.v 25)] :: [(hb, cel (ptrsV b1 [0, 1, 2, 3]) 50)] :: [(b2, cel (prgV prg0 none 0 0) 33)] :: [(b1, cel (prgV (hdP acc ss) pp k pc) 33)] :: s' :: F) H elS rfl rfl (i := 8) rfl hop (SlAt.here rfl) rfl (stp_cell _) (by decide) (by omega) (by omega) (fun _ => rfl)) ?_
                rintro _ w ⟨pp2, pc2, ps2, rfl, hop2, H⟩
                refine JL.go trivial (RX.fieldAddr rfl fo33_4 rfl) ?_
                refine JL.does trivial (EX.store (v := Value.slice _ _ _) H rfl rfl (i := 7) rfl rfl (by simp [prgV]) sz22 rfl rfl) ?_
                rintro _ w H
                refine JL.nil ?_
                refine J.inBlock ?_
                refine J.region ?_
                refine JL.go trivial (RX.add rfl rfl (w_i64 rfl (by omega) (by omega))) ?_
                refine JL.go trivial (RX.movev (v := Value.int _ _) rfl) ?_
                refine JL.nil ?_
                exact IH (k + 1, a4, ss ++ [st], pp2, pc2, ps2) _ _ (by simp only; omega) ⟨rfl, rfl, rfl, rfl, trivial⟩ ⟨rfl, trivial⟩ ⟨by simp only; omega, by simp [hsl], ha4, by simp only; rw [hss2, show x2 - (k + 1) = d by omega], by simp only [stepsV_app]; simpa [stepsV] using hop2, fun t ht => (by rcases List.mem_append.1 ht with h | h; exact hfs t h; rw [List.mem_singleton.1 h]; exact hf2), ((H.drop.pull 2 rfl).drop.pull 2 rfl).drop⟩
      · skip
        refine J.exit rfl ?_
        refine J.seq ?_
        refine J.region ?_
        refine JL.go trivial (RX.loadAgg H rfl (i := 4) (vs := prgV (hdP acc ss) pp k pc) rfl rfl ag33) ?_
        refine JL.does trivial (EX.storeAgg H rfl rfl (i := 3) rfl prgV_cell (by simp [prgV]) sz33 rfl rfl) ?_
        rintro _ w H
        refine JL.go trivial (RX.assign) ?_
        refine JL.nil ?_
        first | refine J.retct (x := Value.bool _) Tryd.func42 rfl H rfl (i := 0) rfl rfl ag33 rfl ?_ | refine J.retct (x := Value.bool _) Tryd.func42 rfl H rfl (i := 1) rfl rfl ag33 rfl ?_ | refine J.retct (x := Value.bool _) Tryd.func42 rfl H rfl (i := 2) rfl rfl ag33 rfl ?_ | refine J.retct (x := Value.bool _) Tryd.func42 rfl H rfl (i := 3) rfl rfl ag33 rfl ?_ | refine J.retct (x := Value.bool _) Tryd.func42 rfl H rfl (i := 4) rfl rfl ag33 rfl ?_ | refine J.retct (x := Value.bool _) Tryd.func42 rfl H rfl (i := 5) rfl rfl ag33 rfl ?_ | refine J.retct (x := Value.bool _) Tryd.func42 rfl H rfl (i := 6) rfl rfl ag33 rfl ?_
        have hkx : k = x2 := by omega
        subst hkx
        rw [Nat.sub_self] at hss
        change _ = some (ss, bs.drop a3) at hss
        subst hsl
        exact ⟨_, rfl, .inl ⟨_, _, pp, pc, ps, decS_some hac hyes2 hss, rfl, hop, hfs, a3, ha3, rfl, ((((H.pull 2 rfl).drop.pull 2 rfl).drop.pull 2 rfl).drop)⟩⟩
/-- What the bytes are: a program, nothing behind it. -/
def progS (l : List UInt8) : Option Prg :=
  match decS l with
  | some (q, []) => some q
  | _ => none
theorem progS_some {l : List UInt8} {q : Prg} {at2 : Nat} {bs : List UInt8} (h : decS l = some (q, bs.drop at2)) (h2 : ¬ at2 < bs.length) : progS l = some q := by
  rw [List.drop_eq_nil_of_le (by omega)] at h
  simp [progS, h]
theorem progS_tail {l : List UInt8} {q : Prg} {at2 : Nat} {bs : List UInt8} (h : decS l = some (q, bs.drop at2)) (h2 : at2 < bs.length) : progS l = none := by
  obtain ⟨b, _, hb⟩ := drop_get h2
  rw [hb] at h
  simp [progS, h]
theorem progS_none {l : List UInt8} (h : decS l = none) : progS l = none := by simp [progS, h]
theorem decode_c {w0 w : World} {F : List Seg} {b T c at_ : Nat} {p : Option Addr} {s : Seg} {bs : List UInt8} {E : Nat → Value} (H : Hp w0 w ([(b, cel [.slice p bs.length c, .int .i64 (at_ : Nat)] T)] :: s :: F)) (ho : OwnSl 5 1 p bs.length c (bv bs) s)
      (hat : at_ ≤ bs.length) (hl : bs.length ≤ 1099511627776) (g1 : GErr F 2 (E 1)) (g2 : GErr F 3 (E 2)) (g3 : GErr F 4 (E 3)) (hT : SlAt F (some ⟨1, 0, none⟩) tableC) : Ret Tryd.prog 42 [.pointer (some ⟨b, 0, none⟩), .agg (prgV prg0 none 0 0).toArray] w fun v w' =>
      ∃ q pp n pc ok at2 ps, v = .tuple #[.agg (prgV q pp n pc).toArray, .bool ok] ∧ at2 ≤ bs.length ∧ Hp w0 w' ([(b, cel [.slice p bs.length c, .int .i64 (at2 : Nat)] T)] :: s :: ps :: F) ∧
        (ok = true → n = q.steps.length ∧ decS (bs.drop at_) = some (q, bs.drop at2) ∧ OwnSl 25 7 pp q.steps.length pc (stepsV q.steps) ps ∧ (∀ s ∈ q.steps, formB s = true)) ∧ (ok = false → decS (bs.drop at_) = none) := by
  refine (decode_b H ho hat hl g1 g2 g3 hT).mono fun v w' h => ?_
  rcases h with ⟨q, rest, pp, pc, ps, h1, h2, h3, h4, at2, h5, h6, H⟩ | ⟨h1, q, pp, n, pc, at2, h2, h3, H⟩
  · exact ⟨q, pp, _, pc, true, at2, ps, h2, h5, H, fun _ => ⟨rfl, h6 ▸ h1, h3, h4⟩, fun h => (by cases h)⟩
  · exact ⟨q, pp, n, pc, false, at2, [], h2, h3, (H.nil.pull 2 rfl).pull 2 rfl, fun h => (by cases h), fun _ => h1⟩
theorem Decode_b {w0 w : World} {F : List Seg} {E : Nat → Value} {p : Option Addr} {c : Nat} {bs : List UInt8} (H : Hp w0 w F) (hs : SlAt F p (bv bs)) (hl : bs.length ≤ 1099511627776) (g1 : GErr F 2 (E 1)) (g2 : GErr F 3 (E 2)) (g3 : GErr F 4 (E 3)) (g4 : GErr F 5 (E 4)) (g9 : GErr F 0 (E 9)) (hT : SlAt F (some ⟨1, 0, none⟩) tableC) :
      Ret Tryd.prog 19 [.slice p bs.length c] w fun v w' => ∃ q pp pc ps, v = .tuple #[.agg (prgV q pp q.steps.length pc).toArray, if (progS bs).isSome then .nilIface else E 9] ∧ OwnSl 25 7 pp q.steps.length pc (stepsV q.steps) ps ∧
        (∀ s ∈ q.steps, formB s = true) ∧ q = (progS bs).getD prg0 ∧ Hp w0 w' (ps :: F) := by
  refine Calls.of_J (n := 25) Tryd.func19 rfl rfl rfl ?_
  refine J.seq ?_
  refine J.region ?_
  refine JL.does trivial (EX.alloc H zr33 rfl) ?_
  rintro _ w ⟨b1, rfl, H⟩
  refine JL.go trivial (RX.assign) ?_
  refine JL.nil ?_
  refine J.seq ?_
  refine J.region ?_
  refine JL.go trivial (RX.movev (v := Value.slice _ _ _) rfl) ?_
  refine JL.does trivial (EX.call rfl cl41 rfl ((read_r H hs.cons (by omega)))) ?_
  rintro _ w ⟨rb, rp, rc, rs, rfl, hor, H⟩
  refine JL.go trivial (RX.assignv (v := Value.pointer _) rfl) ?_
  refine JL.nil ?_
  refine J.seq ?_
  refine J.region ?_
  refine JL.does trivial (EX.alloc H zr33 rfl) ?_
  rintro _ w ⟨b2, rfl, H⟩
  refine JL.nil ?_
  refine J.seq ?_
  refine J.seq ?_
  refine J.region ?_
  refine JL.go trivial (RX.movev (v := Value.pointer _) rfl) ?_
  refine JL.go trivial (RX.loadAgg H rfl (i := 0) (vs := prgV prg0 none 0 0) rfl rfl ag33) ?_
  refine JL.does trivial (EX.call rfl cl42 rfl ((decode_c (at_ := 0) ((H.pull 2 rfl).pull 2 rfl) hor (by omega) hl g1.cons.cons g2.cons.cons g3.cons.cons hT.cons.cons))) ?_
  rintro _ w ⟨q, pp, n, pc, ok, at2, ps, rfl, hat2, H, hok, hno⟩
  refine JL.go trivial (RX.movev (v := Value.tuple _) rfl) ?_
  refine JL.go trivial (RX.extract rfl rfl) ?_
  refine JL.go trivial (RX.extract rfl rfl) ?_
  refine JL.does trivial (EX.alloc H zr33 rfl) ?_
  rintro _ w ⟨b3, rfl, H⟩
  refine JL.does trivial (EX.storeAgg H rfl rfl (i := 0) rfl prgV_cell (by simp [prgV]) sz33 rfl rfl) ?_
  rintro _ w H
  refine JL.go trivial (RX.assignv (v := Value.bool _) rfl) ?_
  refine JL.nil ?_
  refine J.seq ?_
  refine J.region ?_
  refine JL.go trivial (RX.movev (v := Value.bool _) rfl) ?_
  refine JL.go trivial (RX.movev (v := Value.bool _) rfl) ?_
  refine JL.splitS 17 rfl (fun hk => ?_) (fun hk => ?_)
  · skip
    first | have hkp := of_decide_eq_true hk | skip
    obtain ⟨hn, hds, hop, hfs⟩ := hok hk
    subst hn
    refine JL.go ⟨_, rfl, hk⟩ (RX.movev (v := Value.pointer _) rfl) ?_
    refine JL.does ⟨_, rfl, hk⟩ (EX.call rfl cl43 rfl ((done_r ((H.pull 2 rfl).pull 2 rfl) hor hat2 hl g4.cons.cons.cons.cons))) ?_
    rintro _ w ⟨rfl, H⟩
    have hie : isErr (if at2 < bs.length then E 4 else .nilIface) = true := by split; exact g4.ie; rfl
    refine JL.go ⟨_, rfl, hk⟩ (RX.ifnil_eql (v := (if at2 < bs.length then E 4 else .nilIface)) rfl rfl hie if29) ?_
    refine JL.go trivial (RX.pick_t rfl hk) ?_
    refine JL.nil ?_
    refine J.cond rfl (fun hd => ?_) (fun hd => ?_)
    · skip
      refine J.seq ?_
      refine J.region ?_
      refine JL.go trivial (RX.loadAgg H rfl (i := 2) (vs := prgV q pp q.steps.length pc) rfl rfl ag33) ?_
      refine JL.does trivial (EX.storeAgg H rfl rfl (i := 5) rfl prgV_cell (by simp [prgV]) sz33 rfl rfl) ?_
      rintro _ w H
      refine JL.go trivial (RX.assign) ?_
      refine JL.nil ?_
      first | refine J.retct Tryd.func19 rfl H rfl (i := 0) rfl rfl ag33 rfl ?_ | refine J.retct Tryd.func19 rfl H rfl (i := 1) rfl rfl ag33 rfl ?_ | refine J.retct Tryd.func19 rfl H rfl (i := 2) rfl rfl ag33 rfl ?_ | refine J.retct Tryd.func19 rfl H rfl (i := 3) rfl rfl ag33 rfl ?_ | refine J.retct Tryd.func19 rfl H rfl (i := 4) rfl rfl ag33 rfl ?_ | refine J.retct Tryd.func19 rfl H rfl (i := 5) rfl rfl ag33 rfl ?_ | refine J.retct Tryd.func19 rfl H rfl (i := 6) rfl rfl ag33 rfl ?_
      have h2 : ¬ at2 < bs.length := by
        intro h; rw [if_pos h, g4.nn] at hd; cases hd
      have hp := progS_some hds h2
      rw [List.drop_zero] at hp
      rw [hp]
      exact ⟨_, rfl, q, pp, pc, ps, rfl, hop, hfs, rfl, ((H.drop.drop.drop.pull 1 rfl).drop.pull 1 rfl).drop⟩
    · skip
      refine J.skip ?_
      refine J.seq ?_
      refine J.any hmix fun w hs => ?_
      replace H := H.same hs; clear hs
      refine JA.take 0 (listed' := [true, false, false, false]) rfl (by kernel_rfl) (by kernel_rfl) (by kernel_rfl) rfl trivial (fun w => RX.build (pv := []) (res := prgV prg0 none 0 0) rfl (by kernel_rfl)) ?_
      refine JA.all [1, 2] (by kernel_rfl) (by decide) ?_
      refine ⟨?_, ?_⟩
      · skip
        refine JO.go (listed' := [true, true, false, false]) rfl rfl trivial (RX.loadG H rfl g9.at_.cons.cons.cons.cons.cons.cons one29) ?_
        refine JA.all [2] (by kernel_rfl) (by decide) ?_
        refine JO.does (listed' := [true, true, true, false]) rfl rfl trivial (EX.storeAgg H rfl rfl (i := 5) rfl prgV_cell (by simp [prgV]) sz33 rfl rfl) ?_
        rintro _ w H
        refine JA.take 3 (listed' := [true, true, true, true]) rfl (by kernel_rfl) (by kernel_rfl) (by kernel_rfl) rfl trivial (fun w => RX.assign) ?_
        refine JA.done (by kernel_rfl) ?_
        first | refine J.retct Tryd.func19 rfl H rfl (i := 0) rfl rfl ag33 rfl ?_ | refine J.retct Tryd.func19 rfl H rfl (i := 1) rfl rfl ag33 rfl ?_ | refine J.retct Tryd.func19 rfl H rfl (i := 2) rfl rfl ag33 rfl ?_ | refine J.retct Tryd.func19 rfl H rfl (i := 3) rfl rfl ag33 rfl ?_ | refine J.retct Tryd.func19 rfl H rfl (i := 4) rfl rfl ag33 rfl ?_ | refine J.retct Tryd.func19 rfl H rfl (i := 5) rfl rfl ag33 rfl ?_ | refine J.retct Tryd.func19 rfl H rfl (i := 6) rfl rfl ag33 rfl ?_
        have hp : progS bs = none := by
          first
          | exact progS_none (by simpa using hno hk)
          | refine progS_tail (at2 := at2) (by simpa using hds) ?_; by_cases h : at2 < bs.length; exact h; rw [if_neg h] at hd; cases hd
        rw [hp]
        exact ⟨_, rfl, prg0, none, 0, [], rfl, OwnSl.nil, fun s h => (by simp [prg0] at h), rfl, H.drop.drop.drop.drop.drop.drop.nil⟩
      · skip
        refine JO.does (listed' := [true, false, true, false]) rfl rfl trivial (EX.storeAgg H rfl rfl (i := 5) rfl prgV_cell (by simp [prgV]) sz33 rfl rfl) ?_
        rintro _ w H
        refine JA.all [1] (by kernel_rfl) (by decide) ?_
        refine JO.go (listed' := [true, true, true, false]) rfl rfl trivial (RX.loadG H rfl g9.at_.cons.cons.cons.cons.cons.cons one29) ?_
        refine JA.take 3 (listed' := [true, true, true, true]) rfl (by kernel_rfl) (by kernel_rfl) (by kernel_rfl) rfl trivial (fun w => RX.assign) ?_
        refine JA.done (by kernel_rfl) ?_
        first | refine J.retct Tryd.func19 rfl H rfl (i := 0) rfl rfl ag33 rfl ?_ | refine J.retct Tryd.func19 rfl H rfl (i := 1) rfl rfl ag33 rfl ?_ | refine J.retct Tryd.func19 rfl H rfl (i := 2) rfl rfl ag33 rfl ?_ | refine J.retct Tryd.func19 rfl H rfl (i := 3) rfl rfl ag33 rfl ?_ | refine J.retct Tryd.func19 rfl H rfl (i := 4) rfl rfl ag33 rfl ?_ | refine J.retct Tryd.func19 rfl H rfl (i := 5) rfl rfl ag33 rfl ?_ | refine J.retct Tryd.func19 rfl H rfl (i := 6) rfl rfl ag33 rfl ?_
        have hp : progS bs = none := by
          first
          | exact progS_none (by simpa using hno hk)
          | refine progS_tail (at2 := at2) (by simpa using hds) ?_; by_cases h : at2 < bs.length; exact h; rw [if_neg h] at hd; cases hd
        rw [hp]
        exact ⟨_, rfl, prg0, none, 0, [], rfl, OwnSl.nil, fun s h => (by simp [prg0] at h), rfl, H.drop.drop.drop.drop.drop.drop.nil⟩
  · skip
    first | have hkp := of_decide_eq_false hk | skip
    refine JL.no ⟨_, rfl, gno hk⟩ ?_
    refine JL.no ⟨_, rfl, gno hk⟩ ?_
    refine JL.no ⟨_, rfl, gno hk⟩ ?_
    refine JL.go trivial (RX.pick_f rfl hk) ?_
    refine JL.nil ?_
    refine J.cond_f rfl rfl ?_
    refine J.skip ?_
    refine J.seq ?_
    refine J.any hmix fun w hs => ?_
    replace H := H.same hs; clear hs
    refine JA.take 0 (listed' := [true, false, false, false]) rfl (by kernel_rfl) (by kernel_rfl) (by kernel_rfl) rfl trivial (fun w => RX.build (pv := []) (res := prgV prg0 none 0 0) rfl (by kernel_rfl)) ?_
    refine JA.all [1, 2] (by kernel_rfl) (by decide) ?_
    refine ⟨?_, ?_⟩
    · skip
      refine JO.go (listed' := [true, true, false, false]) rfl rfl trivial (RX.loadG H rfl g9.at_.cons.cons.cons.cons.cons.cons one29) ?_
      refine JA.all [2] (by kernel_rfl) (by decide) ?_
      refine JO.does (listed' := [true, true, true, false]) rfl rfl trivial (EX.storeAgg H rfl rfl (i := 5) rfl prgV_cell (by simp [prgV]) sz33 rfl rfl) ?_
      rintro _ w H
      refine JA.take 3 (listed' := [true, true, true, true]) rfl (by kernel_rfl) (by kernel_rfl) (by kernel_rfl) rfl trivial (fun w => RX.assign) ?_
      refine JA.done (by kernel_rfl) ?_
      first | refine J.retct Tryd.func19 rfl H rfl (i := 0) rfl rfl ag33 rfl ?_ | refine J.retct Tryd.func19 rfl H rfl (i := 1) rfl rfl ag33 rfl ?_ | refine J.retct Tryd.func19 rfl H rfl (i := 2) rfl rfl ag33 rfl ?_ | refine J.retct Tryd.func19 rfl H rfl (i := 3) rfl rfl ag33 rfl ?_ | refine J.retct Tryd.func19 rfl H rfl (i := 4) rfl rfl ag33 rfl ?_ | refine J.retct Tryd.func19 rfl H rfl (i := 5) rfl rfl ag33 rfl ?_ | refine J.retct Tryd.func19 rfl H rfl (i := 6) rfl rfl ag33 rfl ?_
      have hp : progS bs = none := by
        first
        | exact progS_none (by simpa using hno hk)
        | refine progS_tail (at2 := at2) (by simpa using hds) ?_; by_cases h : at2 < bs.length; exact h; rw [if_neg h] at hd; cases hd
      rw [hp]
      exact ⟨_, rfl, prg0, none, 0, [], rfl, OwnSl.nil, fun s h => (by simp [prg0] at h), rfl, H.drop.drop.drop.drop.drop.drop.nil⟩
    · skip
      refine JO.does (listed' := [true, false, true, false]) rfl rfl trivial (EX.storeAgg H rfl rfl (i := 5) rfl prgV_cell (by simp [prgV]) sz33 rfl rfl) ?_
      rintro _ w H
      refine JA.all [1] (by kernel_rfl) (by decide) ?_
      refine JO.go (listed' := [true, true, true, false]) rfl rfl trivial (RX.loadG H rfl g9.at_.cons.cons.cons.cons.cons.cons one29) ?_
      refine JA.take 3 (listed' := [true, true, true, true]) rfl (by kernel_rfl) (by kernel_rfl) (by kernel_rfl) rfl trivial (fun w => RX.assign) ?_
      refine JA.done (by kernel_rfl) ?_
      first | refine J.retct Tryd.func19 rfl H rfl (i := 0) rfl rfl ag33 rfl ?_ | refine J.retct Tryd.func19 rfl H rfl (i := 1) rfl rfl ag33 rfl ?_ | refine J.retct Tryd.func19 rfl H rfl (i := 2) rfl rfl ag33 rfl ?_ | refine J.retct Tryd.func19 rfl H rfl (i := 3) rfl rfl ag33 rfl ?_ | refine J.retct Tryd.func19 rfl H rfl (i := 4) rfl rfl ag33 rfl ?_ | refine J.retct Tryd.func19 rfl H rfl (i := 5) rfl rfl ag33 rfl ?_ | refine J.retct Tryd.func19 rfl H rfl (i := 6) rfl rfl ag33 rfl ?_
      have hp : progS bs = none := by
        first
        | exact progS_none (by simpa using hno hk)
        | refine progS_tail (at2 := at2) (by simpa using hds) ?_; by_cases h : at2 < bs.length; exact h; rw [if_neg h] at hd; cases hd
      rw [hp]
      exact ⟨_, rfl, prg0, none, 0, [], rfl, OwnSl.nil, fun s h => (by simp [prg0] at h), rfl, H.drop.drop.drop.drop.drop.drop.nil⟩
theorem step_eq (s t : Stp) : eqAnd Tryd.prog s.v t.v (Program.fieldsOf Tryd.prog 25).toList = some (s.op == t.op && (s.dst == t.dst && (s.src == t.src && (s.jump == t.jump && (s.count == t.count && (s.n == t.n && (s.k == t.k && true))))))) := by kernel_rfl
theorem step_beq (s t : Stp) : (s.op == t.op && (s.dst == t.dst && (s.src == t.src && (s.jump == t.jump && (s.count == t.count && (s.n == t.n && (s.k == t.k && true))))))) = decide (s = t) := by
  cases s; cases t
  simp [Stp.mk.injEq, Bool.decide_and]
  simp only [BEq.beq]
theorem step_dec (s t : Stp) : eqAnd Tryd.prog s.v t.v (Program.fieldsOf Tryd.prog 25).toList = some (decide (s = t)) := by rw [step_eq, step_beq]
theorem Same_b {w0 w : World} {F : List Seg} {p q : Prg} {pp qp : Option Addr} {pc qc : Nat} (H : Hp w0 w F) (hp : SlAt F pp (stepsV p.steps)) (hq : SlAt F qp (stepsV q.steps)) (hpl : p.steps.length ≤ 9223372036854775807) (hql : q.steps.length ≤ 9223372036854775807) :
      Ret Tryd.prog 21 [.agg (prgV p pp p.steps.length pc).toArray, .agg (prgV q qp q.steps.length qc).toArray] w fun v w' => v = .bool (decide (p = q)) ∧ Hp w0 w' F := by
  refine Calls.of_J (n := 58) Tryd.func21 rfl rfl rfl ?_
  refine J.seq ?_
  refine J.region ?_
  refine JL.does trivial (EX.box (v := Value.agg _) H rfl rfl) ?_
  rintro _ w ⟨b1, rfl, H⟩
  refine JL.does trivial (EX.box (v := Value.agg _) H rfl rfl) ?_
  rintro _ w ⟨b2, rfl, H⟩
  refine JL.go trivial (RX.assign) ?_
  refine JL.nil ?_
  refine J.seq ?_
  refine J.seq ?_
  refine J.region ?_
  refine JL.go trivial (RX.fieldAddr rfl fo33_0 rfl) ?_
  refine JL.go trivial (by first | exact RX.load H rfl (i := 0) rfl rfl one3 | exact RX.load H rfl (i := 1) rfl rfl one3 | exact RX.load H rfl (i := 2) rfl rfl one3 | exact RX.load H rfl (i := 3) rfl rfl one3 | exact RX.load H rfl (i := 4) rfl rfl one3) ?_
  refine JL.go trivial (RX.fieldAddr rfl fo33_0 rfl) ?_
  refine JL.go trivial (by first | exact RX.load H rfl (i := 0) rfl rfl one3 | exact RX.load H rfl (i := 1) rfl rfl one3 | exact RX.load H rfl (i := 2) rfl rfl one3 | exact RX.load H rfl (i := 3) rfl rfl one3 | exact RX.load H rfl (i := 4) rfl rfl one3) ?_
  refine JL.go trivial (RX.ne rfl rfl) ?_
  refine JL.go trivial (RX.movev (v := Value.bool _) rfl) ?_
  refine JL.splitS 12 rfl (fun h1 => ?_) (fun h1 => ?_)
  · skip
    first | have h1p := of_decide_eq_true h1 | skip
    refine JL.no ⟨_, rfl, gno h1⟩ ?_
    refine JL.no ⟨_, rfl, gno h1⟩ ?_
    refine JL.no ⟨_, rfl, gno h1⟩ ?_
    refine JL.no ⟨_, rfl, gno h1⟩ ?_
    refine JL.no ⟨_, rfl, gno h1⟩ ?_
    refine JL.go trivial (RX.pick_t rfl h1) ?_
    refine JL.go trivial (RX.movev (v := Value.bool _) rfl) ?_
    refine JL.no ⟨_, rfl, gno rfl⟩ ?_
    refine JL.no ⟨_, rfl, gno rfl⟩ ?_
    refine JL.no ⟨_, rfl, gno rfl⟩ ?_
    refine JL.no ⟨_, rfl, gno rfl⟩ ?_
    refine JL.no ⟨_, rfl, gno rfl⟩ ?_
    refine JL.go trivial (RX.pick_t rfl rfl) ?_
    refine JL.go trivial (RX.movev (v := Value.bool _) rfl) ?_
    refine JL.no ⟨_, rfl, gno rfl⟩ ?_
    refine JL.no ⟨_, rfl, gno rfl⟩ ?_
    refine JL.no ⟨_, rfl, gno rfl⟩ ?_
    refine JL.no ⟨_, rfl, gno rfl⟩ ?_
    refine JL.no ⟨_, rfl, gno rfl⟩ ?_
    refine JL.go trivial (RX.pick_t rfl rfl) ?_
    refine JL.go trivial (RX.movev (v := Value.bool _) rfl) ?_
    refine JL.no ⟨_, rfl, gno rfl⟩ ?_
    refine JL.no ⟨_, rfl, gno rfl⟩ ?_
    refine JL.no ⟨_, rfl, gno rfl⟩ ?_
    refine JL.no ⟨_, rfl, gno rfl⟩ ?_
    refine JL.no ⟨_, rfl, gno rfl⟩ ?_
    refine JL.no ⟨_, rfl, gno rfl⟩ ?_
    refine JL.no ⟨_, rfl, gno rfl⟩ ?_
    refine JL.go trivial (RX.pick_t rfl rfl) ?_
    refine JL.nil ?_
    refine J.cond_t rfl rfl ?_
    refine J.seq ?_
    refine J.region ?_
    refine JL.go trivial (RX.assign) ?_
    refine JL.nil ?_
    refine J.ret1 (v := Value.bool _) Tryd.func21 rfl rfl ?_
    refine ⟨_, rfl, ?_, H.drop.drop⟩
    rw [decide_eq_false]
    intro h
    first | exact h1p (congrArg Prg.len h) | exact h2p (congrArg Prg.cells h) | exact h3p (congrArg Prg.inn h) | exact h4p (congrArg Prg.out h) | exact h5 (congrArg (fun x : Prg => (x.steps.length : Int)) h)
  · skip
    first | have h1p := of_decide_eq_false h1 | skip
    refine JL.go ⟨_, rfl, h1⟩ (RX.fieldAddr rfl fo33_1 rfl) ?_
    refine JL.go ⟨_, rfl, h1⟩ (by first | exact RX.load H rfl (i := 0) rfl rfl one3 | exact RX.load H rfl (i := 1) rfl rfl one3 | exact RX.load H rfl (i := 2) rfl rfl one3 | exact RX.load H rfl (i := 3) rfl rfl one3 | exact RX.load H rfl (i := 4) rfl rfl one3) ?_
    refine JL.go ⟨_, rfl, h1⟩ (RX.fieldAddr rfl fo33_1 rfl) ?_
    refine JL.go ⟨_, rfl, h1⟩ (by first | exact RX.load H rfl (i := 0) rfl rfl one3 | exact RX.load H rfl (i := 1) rfl rfl one3 | exact RX.load H rfl (i := 2) rfl rfl one3 | exact RX.load H rfl (i := 3) rfl rfl one3 | exact RX.load H rfl (i := 4) rfl rfl one3) ?_
    refine JL.go ⟨_, rfl, h1⟩ (RX.ne rfl rfl) ?_
    refine JL.go trivial (RX.pick_f rfl h1) ?_
    refine JL.go trivial (RX.movev (v := Value.bool _) rfl) ?_
    refine JL.splitS 19 rfl (fun h2 => ?_) (fun h2 => ?_)
    · skip
      first | have h2p := of_decide_eq_true h2 | skip
      refine JL.no ⟨_, rfl, gno h2⟩ ?_
      refine JL.no ⟨_, rfl, gno h2⟩ ?_
      refine JL.no ⟨_, rfl, gno h2⟩ ?_
      refine JL.no ⟨_, rfl, gno h2⟩ ?_
      refine JL.no ⟨_, rfl, gno h2⟩ ?_
      refine JL.go trivial (RX.pick_t rfl h2) ?_
      refine JL.go trivial (RX.movev (v := Value.bool _) rfl) ?_
      refine JL.no ⟨_, rfl, gno rfl⟩ ?_
      refine JL.no ⟨_, rfl, gno rfl⟩ ?_
      refine JL.no ⟨_, rfl, gno rfl⟩ ?_
      refine JL.no ⟨_, rfl, gno rfl⟩ ?_
      refine JL.no ⟨_, rfl, gno rfl⟩ ?_
      refine JL.go trivial (RX.pick_t rfl rfl) ?_
      refine JL.go trivial (RX.movev (v := Value.bool _) rfl) ?_
      refine JL.no ⟨_, rfl, gno rfl⟩ ?_
      refine JL.no ⟨_, rfl, gno rfl⟩ ?_
      refine JL.no ⟨_, rfl, gno rfl⟩ ?_
      refine JL.no ⟨_, rfl, gno rfl⟩ ?_
      refine JL.no ⟨_, rfl, gno rfl⟩ ?_
      refine JL.no ⟨_, rfl, gno rfl⟩ ?_
      refine JL.no ⟨_, rfl, gno rfl⟩ ?_
      refine JL.go trivial (RX.pick_t rfl rfl) ?_
      refine JL.nil ?_
      refine J.cond_t rfl rfl ?_
      refine J.seq ?_
      refine J.region ?_
      refine JL.go trivial (RX.assign) ?_
      refine JL.nil ?_
      refine J.ret1 (v := Value.bool _) Tryd.func21 rfl rfl ?_
      refine ⟨_, rfl, ?_, H.drop.drop⟩
      rw [decide_eq_false]
      intro h
      first | exact h1p (congrArg Prg.len h) | exact h2p (congrArg Prg.cells h) | exact h3p (congrArg Prg.inn h) | exact h4p (congrArg Prg.out h) | exact h5 (congrArg (fun x : Prg => (x.steps.length : Int)) h)
    · skip
      first | have h2p := of_decide_eq_false h2 | skip
      refine JL.go ⟨_, rfl, h2⟩ (RX.fieldAddr rfl fo33_2 rfl) ?_
      refine JL.go ⟨_, rfl, h2⟩ (by first | exact RX.load H rfl (i := 0) rfl rfl one3 | exact RX.load H rfl (i := 1) rfl rfl one3 | exact RX.load H rfl (i := 2) rfl rfl one3 | exact RX.load H rfl (i := 3) rfl rfl one3 | exact RX.load H rfl (i := 4) rfl rfl one3) ?_
      refine JL.go ⟨_, rfl, h2⟩ (RX.fieldAddr rfl fo33_2 rfl) ?_
      refine JL.go ⟨_, rfl, h2⟩ (by first | exact RX.load H rfl (i := 0) rfl rfl one3 | exact RX.load H rfl (i := 1) rfl rfl one3 | exact RX.load H rfl (i := 2) rfl rfl one3 | exact RX.load H rfl (i := 3) rfl rfl one3 | exact RX.load H rfl (i := 4) rfl rfl one3) ?_
      refine JL.go ⟨_, rfl, h2⟩ (RX.ne rfl rfl) ?_
      refine JL.go trivial (RX.pick_f rfl h2) ?_
      refine JL.go trivial (RX.movev (v := Value.bool _) rfl) ?_
      refine JL.splitS 26 rfl (fun h3 => ?_) (fun h3 => ?_)
      · skip
        first | have h3p := of_decide_eq_true h3 | skip
        refine JL.no ⟨_, rfl, gno h3⟩ ?_
        refine JL.no ⟨_, rfl, gno h3⟩ ?_
        refine JL.no ⟨_, rfl, gno h3⟩ ?_
        refine JL.no ⟨_, rfl, gno h3⟩ ?_
        refine JL.no ⟨_, rfl, gno h3⟩ ?_
        refine JL.go trivial (RX.pick_t rfl h3) ?_
        refine JL.go trivial (RX.movev (v := Value.bool _) rfl) ?_
        refine JL.no ⟨_, rfl, gno rfl⟩ ?_
        refine JL.no ⟨_, rfl, gno rfl⟩ ?_
        refine JL.no ⟨_, rfl, gno rfl⟩ ?_
        refine JL.no ⟨_, rfl, gno rfl⟩ ?_
        refine JL.no ⟨_, rfl, gno rfl⟩ ?_
        refine JL.no ⟨_, rfl, gno rfl⟩ ?_
        refine JL.no ⟨_, rfl, gno rfl⟩ ?_
        refine JL.go trivial (RX.pick_t rfl rfl) ?_
        refine JL.nil ?_
        refine J.cond_t rfl rfl ?_
        refine J.seq ?_
        refine J.region ?_
        refine JL.go trivial (RX.assign) ?_
        refine JL.nil ?_
        refine J.ret1 (v := Value.bool _) Tryd.func21 rfl rfl ?_
        refine ⟨_, rfl, ?_, H.drop.drop⟩
        rw [decide_eq_false]
        intro h
        first | exact h1p (congrArg Prg.len h) | exact h2p (congrArg Prg.cells h) | exact h3p (congrArg Prg.inn h) | exact h4p (congrArg Prg.out h) | exact h5 (congrArg (fun x : Prg => (x.steps.length : Int)) h)
      · skip
        first | have h3p := of_decide_eq_false h3 | skip
        refine JL.go ⟨_, rfl, h3⟩ (RX.fieldAddr rfl fo33_3 rfl) ?_
        refine JL.go ⟨_, rfl, h3⟩ (by first | exact RX.load H rfl (i := 0) rfl rfl one3 | exact RX.load H rfl (i := 1) rfl rfl one3 | exact RX.load H rfl (i := 2) rfl rfl one3 | exact RX.load H rfl (i := 3) rfl rfl one3 | exact RX.load H rfl (i := 4) rfl rfl one3) ?_
        refine JL.go ⟨_, rfl, h3⟩ (RX.fieldAddr rfl fo33_3 rfl) ?_
        refine JL.go ⟨_, rfl, h3⟩ (by first | exact RX.load H rfl (i := 0) rfl rfl one3 | exact RX.load H rfl (i := 1) rfl rfl one3 | exact RX.load H rfl (i := 2) rfl rfl one3 | exact RX.load H rfl (i := 3) rfl rfl one3 | exact RX.load H rfl (i := 4) rfl rfl one3) ?_
        refine JL.go ⟨_, rfl, h3⟩ (RX.ne rfl rfl) ?_
        refine JL.go trivial (RX.pick_f rfl h3) ?_
        refine JL.go trivial (RX.movev (v := Value.bool _) rfl) ?_
        refine JL.splitS 33 rfl (fun h4 => ?_) (fun h4 => ?_)
        · skip
          first | have h4p := of_decide_eq_true h4 | skip
          refine JL.no ⟨_, rfl, gno h4⟩ ?_
          refine JL.no ⟨_, rfl, gno h4⟩ ?_
          refine JL.no ⟨_, rfl, gno h4⟩ ?_
          refine JL.no ⟨_, rfl, gno h4⟩ ?_
          refine JL.no ⟨_, rfl, gno h4⟩ ?_
          refine JL.no ⟨_, rfl, gno h4⟩ ?_
          refine JL.no ⟨_, rfl, gno h4⟩ ?_
          refine JL.go trivial (RX.pick_t rfl h4) ?_
          refine JL.nil ?_
          refine J.cond_t rfl rfl ?_
          refine J.seq ?_
          refine J.region ?_
          refine JL.go trivial (RX.assign) ?_
          refine JL.nil ?_
          refine J.ret1 (v := Value.bool _) Tryd.func21 rfl rfl ?_
          refine ⟨_, rfl, ?_, H.drop.drop⟩
          rw [decide_eq_false]
          intro h
          first | exact h1p (congrArg Prg.len h) | exact h2p (congrArg Prg.cells h) | exact h3p (congrArg Prg.inn h) | exact h4p (congrArg Prg.out h) | exact h5 (congrArg (fun x : Prg => (x.steps.length : Int)) h)
        · skip
          first | have h4p := of_decide_eq_false h4 | skip
          refine JL.go ⟨_, rfl, h4⟩ (RX.fieldAddr rfl fo33_4 rfl) ?_
          refine JL.go ⟨_, rfl, h4⟩ (by first | exact RX.load H rfl (i := 0) rfl rfl one22 | exact RX.load H rfl (i := 1) rfl rfl one22 | exact RX.load H rfl (i := 2) rfl rfl one22 | exact RX.load H rfl (i := 3) rfl rfl one22 | exact RX.load H rfl (i := 4) rfl rfl one22) ?_
          refine JL.go ⟨_, rfl, h4⟩ (RX.len_slice rfl (by rw [sl22]; rfl) rfl) ?_
          refine JL.go ⟨_, rfl, h4⟩ (RX.fieldAddr rfl fo33_4 rfl) ?_
          refine JL.go ⟨_, rfl, h4⟩ (by first | exact RX.load H rfl (i := 0) rfl rfl one22 | exact RX.load H rfl (i := 1) rfl rfl one22 | exact RX.load H rfl (i := 2) rfl rfl one22 | exact RX.load H rfl (i := 3) rfl rfl one22 | exact RX.load H rfl (i := 4) rfl rfl one22) ?_
          refine JL.go ⟨_, rfl, h4⟩ (RX.len_slice rfl (by rw [sl22]; rfl) rfl) ?_
          refine JL.go ⟨_, rfl, h4⟩ (RX.ne rfl rfl) ?_
          refine JL.go trivial (RX.pick_f rfl h4) ?_
          refine JL.nil ?_
          refine J.cond_d rfl (fun h5 => ?_) (fun h5 => ?_)
          · skip
            refine J.seq ?_
            refine J.region ?_
            refine JL.go trivial (RX.assign) ?_
            refine JL.nil ?_
            refine J.ret1 (v := Value.bool _) Tryd.func21 rfl rfl ?_
            refine ⟨_, rfl, ?_, H.drop.drop⟩
            rw [decide_eq_false]
            intro h
            first | exact h1p (congrArg Prg.len h) | exact h2p (congrArg Prg.cells h) | exact h3p (congrArg Prg.inn h) | exact h4p (congrArg Prg.out h) | exact h5 (congrArg (fun x : Prg => (x.steps.length : Int)) h)
          · skip
            refine J.skip ?_
            refine J.seq ?_
            refine J.seq ?_
            refine J.region ?_
            refine JL.go trivial (RX.fieldAddr rfl fo33_4 rfl) ?_
            refine JL.go trivial (by first | exact RX.load H rfl (i := 0) rfl rfl one22 | exact RX.load H rfl (i := 1) rfl rfl one22 | exact RX.load H rfl (i := 2) rfl rfl one22 | exact RX.load H rfl (i := 3) rfl rfl one22 | exact RX.load H rfl (i := 4) rfl rfl one22) ?_
            refine JL.go trivial (RX.len_slice rfl (by rw [sl22]; rfl) rfl) ?_
            refine JL.go trivial (RX.move) ?_
            refine JL.nil ?_
            refine J.block ?_
            refine J.loop (ι := Nat) (S := fun i => [(45, .int .i64 (i : Nat))]) (Φ := fun i w => i ≤ p.steps.length ∧ p.steps.take i = q.steps.take i ∧ Hp w0 w ([(b2, cel (prgV q qp q.steps.length qc) 33)] :: [(b1, cel (prgV p pp p.steps.length pc) 33)] :: F)) (μ := fun i => p.steps.length - i) (C := [(3, _), (43, _), (44, _)]) 0 ⟨rfl, rfl, rfl, trivial⟩ ⟨rfl, trivial⟩ ?_ ?_
            · exact ⟨by omega, by simp, H⟩
            clear H
            rintro i ρ w ⟨hi, hpre, H⟩ IH
            refine J.seq ?_
            refine J.region ?_
            refine JL.go trivial (RX.lt rfl rfl) ?_
            refine JL.nil ?_
            refine J.seq ?_
            refine J.cond_d rfl (fun hlt => ?_) (fun hlt => ?_)
            · skip
              obtain ⟨s, hs⟩ : ∃ s, p.steps[i]? = some s := ⟨_, List.getElem?_eq_getElem (by omega)⟩
              obtain ⟨t, ht⟩ : ∃ t, q.steps[i]? = some t := ⟨_, List.getElem?_eq_getElem (by omega)⟩
              obtain ⟨pb, po, rfl, _⟩ := hp.some (by rw [stepsV_len]; omega)
              obtain ⟨qb, qo, rfl, _⟩ := hq.some (by rw [stepsV_len]; omega)
              refine J.skip ?_
              refine J.seq ?_
              refine J.block ?_
              refine J.seq ?_
              refine J.region ?_
              refine JL.go trivial (RX.movev (v := Value.int _ _) rfl) ?_
              refine JL.go trivial (RX.indexAddr rfl rfl sl22 (by omega) (by omega) rfl) ?_
              refine JL.go trivial (RX.loadAggS H hp.cons.cons rfl (j := i * 7) (by omega) (stepsV_read _ _ _ hs) ag25) ?_
              refine JL.does trivial (EX.alloc H zr25 rfl) ?_
              rintro _ w ⟨b3, rfl, H⟩
              refine JL.go trivial (RX.assignv (v := Value.int _ _) rfl) ?_
              refine JL.does trivial (EX.storeAgg H rfl rfl (i := 0) (vs := s.v) (l' := s.v) rfl (stp_cell _) (by simp [Stp.v]) sz25 rfl rfl) ?_
              rintro _ w H
              refine JL.nil ?_
              refine J.seq ?_
              refine J.quietH H hmix (by kernel_rfl) ?_
              refine JQ.go trivial (fun w H => RX.loadAgg H rfl (i := 0) (vs := s.v) rfl rfl ag25) ?_
              refine JQ.go trivial (fun w H => RX.fieldAddr rfl fo33_4 rfl) ?_
              refine JQ.go trivial (fun w H => by first | exact RX.load H rfl (i := 0) rfl rfl one22 | exact RX.load H rfl (i := 1) rfl rfl one22 | exact RX.load H rfl (i := 2) rfl rfl one22 | exact RX.load H rfl (i := 3) rfl rfl one22 | exact RX.load H rfl (i := 4) rfl rfl one22) ?_
              refine JQ.go trivial (fun w H => RX.movev (v := Value.int _ _) rfl) ?_
              refine JQ.go trivial (fun w H => RX.indexAddr rfl rfl sl22 (by omega) (by omega) rfl) ?_
              refine JQ.go trivial (fun w H => RX.loadAggS H hq.cons.cons.cons rfl (j := i * 7) (by omega) (stepsV_read _ _ _ ht) ag25) ?_
              refine JQ.go trivial (fun w H => RX.agg_neq rfl rfl fl25 (step_dec s t)) ?_
              refine JQ.nil fun w H => ?_
              refine J.cond rfl (fun hst => ?_) (fun hst => ?_)
              · skip
                refine J.seq ?_
                refine J.region ?_
                refine JL.go trivial (RX.assign) ?_
                refine JL.nil ?_
                refine J.ret1 (v := Value.bool _) Tryd.func21 rfl rfl ?_
                refine ⟨_, rfl, ?_, H.drop.drop.drop⟩
                rw [decide_eq_false]
                intro h
                subst h
                rw [hs] at ht
                cases ht
                simp at hst
              · skip
                refine J.skip ?_
                refine J.inBlock ?_
                refine J.region ?_
                refine JL.go trivial (RX.add rfl rfl (w_i64 rfl (by omega) (by omega))) ?_
                refine JL.go trivial (RX.movev (v := Value.int _ _) rfl) ?_
                refine JL.nil ?_
                exact IH (i + 1) _ _ (by omega) ⟨rfl, rfl, rfl, trivial⟩ ⟨rfl, trivial⟩ ⟨by omega, by rw [take_succ_get hs, take_succ_get ht, hpre, of_decide_eq_true (show decide (s = t) = true by simpa using hst)], H.drop⟩
            · skip
              refine J.exit rfl ?_
              refine J.seq ?_
              refine J.region ?_
              refine JL.go trivial (RX.assign) ?_
              refine JL.nil ?_
              refine J.ret1 (v := Value.bool _) Tryd.func21 rfl rfl ?_
              refine ⟨_, rfl, ?_, H.drop.drop⟩
              rw [decide_eq_true]
              have hst : p.steps = q.steps := by
                have h6 : i = p.steps.length := by omega
                rw [h6, List.take_length, List.take_of_length_le (by omega)] at hpre
                exact hpre
              have e1 : p.len = q.len := by omega
              have e2 : p.cells = q.cells := by omega
              have e3 : p.inn = q.inn := by omega
              have e4 : p.out = q.out := by omega
              cases p; cases q
              simp_all
end Go.Proofs.YtnbbeghaeijcbaaDoor

/- The reference of chapter 15: Decode, Same, Op. -/
import Derived.Test.YtnbbeghaeijcbaaDoorRf
namespace Go.Proofs.YtnbbeghaeijcbaaDoor
open Go Go.Eng
set_option maxRecDepth 100000
set_option linter.unusedVariables false
set_option linter.unusedSimpArgs false

theorem isC3 (l : List UInt8) (most : Int) :
    (rdC ((rdu 0 0 l).upto most) = 0 ∧ ∃ x k, (rdu 0 0 l).upto most = .ok x k ∧ numS most l = some ((x : Int), l.drop k) ∧ (x : Int) ≤ most ∧ k ≤ l.length) ∨
      (rdC ((rdu 0 0 l).upto most) ≠ 0 ∧ (∃ e, (rdu 0 0 l).upto most = .err e) ∧ numS most l = none) := by
  rcases rd_cases ((rdu 0 0 l).upto most) with ⟨x, k, hr⟩ | ⟨e, hr⟩
  · rw [hr]
    have := rdu_upto_ok hr
    exact .inl ⟨rfl, x, k, rfl, by simp [numS, hr], this.1, this.2.1⟩
  · rw [hr]
    exact .inr ⟨by rcases rdu_upto_err hr with rfl | rfl | rfl <;> simp [rdC], ⟨e, rfl⟩, by simp [numS, hr]⟩
theorem numS_less (l : List UInt8) : numS 65536 l = match numS 262144 l with
  | some (x, m) => if x ≤ 65536 then some (x, m) else none
  | none => none := by
  unfold numS
  rcases rd_cases (rdu 0 0 l) with ⟨x, k, hr⟩ | ⟨e, hr⟩
  · rw [hr]
    simp only [Rd.upto]
    by_cases h1 : (262144 : Int) < x
    · rw [if_pos (by omega), if_pos (by omega)]
    · by_cases h2 : (65536 : Int) < x
      · rw [if_pos (by omega), if_neg (by omega)]; simp only; rw [if_neg (by omega)]
      · rw [if_neg (by omega), if_neg (by omega)]; simp only; rw [if_pos (by omega)]
  · rw [hr]; rfl
theorem numsA_snoc : ∀ (n : Nat) (acc : List Int) (l : List UInt8), numsA acc (n + 1) l = match numsA acc n l with
  | none => none
  | some (xs, m) => match numS 262144 m with
    | none => none
    | some (x, m') => some (xs ++ [x], m') := by
  intro n
  induction n with
  | zero => intro acc l; simp only [numsA]; cases numS 262144 l with
    | none => rfl
    | some q => rfl
  | succ n ih =>
    intro acc l
    rw [numsA]
    cases h : numS 262144 l with
    | none => simp only [numsA, h]
    | some q =>
      obtain ⟨x, m⟩ := q
      simp only
      rw [ih, show numsA acc (n + 1) l = numsA (acc ++ [x]) n m from numsA_some h]
theorem numsA_len : ∀ (n : Nat) (acc : List Int) (l : List UInt8) (xs : List Int) (m : List UInt8), numsA acc n l = some (xs, m) → xs.length = acc.length + n := by
  intro n
  induction n with
  | zero => intro acc l xs m h; cases h; rfl
  | succ n ih =>
    intro acc l xs m h
    simp only [numsA] at h
    split at h
    · cases h
    · have := ih _ _ _ _ h
      simp only [List.length_append, List.length_cons, List.length_nil] at this; omega
/-- The same, the heads and the count of the steps read as five numbers. -/
theorem decS_five_none {l : List UInt8} (h : numsA [] 5 l = none) : decS l = none := by
  rw [numsA_snoc] at h
  unfold decS
  cases h4 : numsA [] 4 l with
  | none => rfl
  | some q =>
    obtain ⟨hs, m⟩ := q
    rw [h4] at h
    simp only at h ⊢
    rw [numS_less]
    cases h1 : numS 262144 m with
    | none => rfl
    | some r => rw [h1] at h; cases h
theorem numsA_five {l m : List UInt8} {acc : List Int} (h : numsA [] 5 l = some (acc, m)) : ∃ hs n m4, acc = hs ++ [n] ∧ hs.length = 4 ∧ numsA [] 4 l = some (hs, m4) ∧ numS 262144 m4 = some (n, m) := by
  rw [numsA_snoc] at h
  cases h4 : numsA [] 4 l with
  | none => rw [h4] at h; cases h
  | some q =>
    obtain ⟨hs, m4⟩ := q
    rw [h4] at h
    simp only at h
    cases h1 : numS 262144 m4 with
    | none => rw [h1] at h; cases h
    | some r =>
      obtain ⟨x, m'⟩ := r
      rw [h1] at h
      cases h
      exact ⟨hs, x, m4, rfl, by simpa using numsA_len _ _ _ _ _ h4, rfl, h1⟩
theorem decS_five_big {l m : List UInt8} {acc : List Int} (h : numsA [] 5 l = some (acc, m)) (hb : 65536 < acc.getD 4 0) : decS l = none := by
  obtain ⟨hs, n, m4, rfl, hl, h4, h1⟩ := numsA_five h
  have hn : (hs ++ [n]).getD 4 0 = n := by simp [List.getD, hl]
  rw [hn] at hb
  unfold decS
  rw [h4]
  simp only
  rw [numS_less, h1]
  simp only
  rw [if_neg (by omega)]
theorem decS_five {l m : List UInt8} {acc : List Int} (h : numsA [] 5 l = some (acc, m)) (hb : ¬ 65536 < acc.getD 4 0) :
    decS l = match stepsA [] (acc.getD 4 0).toNat m with | none => none | some (ss, l3) => some (hdP acc ss, l3) := by
  obtain ⟨hs, n, m4, rfl, hl, h4, h1⟩ := numsA_five h
  have hn : (hs ++ [n]).getD 4 0 = n := by simp [List.getD, hl]
  have hh : ∀ ss, hdP (hs ++ [n]) ss = hdP hs ss := by
    intro ss
    match hs, hl with
    | [a, b, c, d], _ => rfl
  rw [hn] at hb ⊢
  unfold decS
  rw [h4]
  simp only
  rw [numS_less, h1]
  simp only
  rw [if_pos (by omega)]
  simp only [hh]
  cases stepsA [] n.toNat m with
  | none => rfl
  | some q => rfl
def optN (b : Bool) (o : Nat) : List Nat := if b then [o] else []
def offsOf (r : Row) : List Nat := [1] ++ optN r.src 2 ++ optN r.jump 3 ++ [4] ++ optN (decide (0 < r.n)) 5 ++ optN r.k 6
theorem offsOf_eq (r : Row) : offsOf r = fieldOffs r := by
  unfold offsOf fieldOffs optN
  cases r.src <;> cases r.jump <;> cases r.k <;> by_cases h : 0 < r.n <;> simp [h]
theorem ptrsV_app (b : Nat) (x y : List Nat) : ptrsV b (x ++ y) = ptrsV b x ++ ptrsV b y := by simp [ptrsV]

theorem rstep_b {w0 w : World} {F : List Seg} {b T c at_ : Nat} {p : Option Addr} {bs : List UInt8} (H : Hp w0 w ([(b, cel [.slice p bs.length c, .int .i64 (at_ : Nat)] T)] :: F)) (hs : SlAt F p (bv bs)) (hat : at_ ≤ bs.length) (hl : bs.length ≤ 1099511627776) : Ret Tryd.prog 45 [.pointer (some ⟨b, 0, none⟩)] w fun v w' => ∃ st at2 ok, v = .tuple #[.agg (Stp.v st).toArray, .bool ok] ∧ at2 ≤ bs.length ∧ Hp w0 w' ([(b, cel [.slice p bs.length c, .int .i64 (at2 : Nat)] T)] :: F) ∧
        (ok = true → stepS (bs.drop at_) = some (st, bs.drop at2) ∧ formB st = true) ∧ (ok = false → stepS (bs.drop at_) = none) := by
  refine Calls.of_J (n := 85) Tryd.func45 rfl rfl rfl ?_
  refine J.seq ?_
  refine J.region ?_
  refine JL.does trivial (EX.alloc H zr25 rfl) ?_
  rintro _ w ⟨b1, rfl, H⟩
  refine JL.go trivial (RX.assign) ?_
  refine JL.nil ?_
  refine J.seq ?_
  refine J.region ?_
  refine JL.go trivial (RX.build (pv := []) (res := stp0.v) rfl (by kernel_rfl)) ?_
  refine JL.does trivial (EX.alloc H zr25 rfl) ?_
  rintro _ w ⟨b2, rfl, H⟩
  refine JL.does trivial (EX.storeAgg H rfl rfl (i := 0) (vs := stp0.v) rfl (stp_cell _) (by decide) sz25 rfl rfl) ?_
  rintro _ w H
  refine JL.nil ?_
  refine J.seq ?_
  refine J.region ?_
  refine JL.go trivial (RX.movev (v := Value.pointer _) rfl) ?_
  refine JL.does trivial (EX.call rfl cl44 rfl ((ref_Upto (H.pull 2 rfl) hs.cons.cons hat hl (by decide) (by decide)))) ?_
  rintro _ w ⟨rfl, H⟩
  have hcs := isC3 (bs.drop at_) 11
  generalize (rdu 0 0 (bs.drop at_)).upto 11 = rd at hcs H ⊢
  refine JL.go trivial (RX.movev (v := Value.tuple _) rfl) ?_
  refine JL.go trivial (RX.extract rfl rfl) ?_
  refine JL.go trivial (RX.extract rfl rfl) ?_
  refine JL.go trivial (RX.assignv (v := Value.int _ _) rfl) ?_
  refine JL.go trivial (RX.assignv (v := Value.int _ _) rfl) ?_
  refine JL.nil ?_
  refine J.seq ?_
  refine J.seq ?_
  refine J.region ?_
  refine JL.go trivial (RX.movev (v := Value.int _ _) rfl) ?_
  refine JL.go trivial (RX.ne rfl rfl) ?_
  refine JL.go trivial (RX.movev (v := Value.bool _) rfl) ?_
  refine JL.splitS 21 rfl (fun h1 => ?_) (fun h1 => ?_)
  · skip
    first | have h1p := of_decide_eq_true h1 | skip
    rcases hcs with ⟨hcs1, _⟩ | ⟨_, ⟨e, he⟩, hno⟩
    · exact absurd hcs1 (by omega)
    subst he
    simp only [rdAt] at H
    refine JL.no ⟨_, rfl, gno h1⟩ ?_
    refine JL.no ⟨_, rfl, gno h1⟩ ?_
    refine JL.go trivial (RX.pick_t rfl h1) ?_
    refine JL.nil ?_
    refine J.cond_t rfl rfl ?_
    refine J.seq ?_
    refine J.region ?_
    refine JL.go trivial (RX.loadAgg H rfl (i := 1) (vs := stp0.v) rfl rfl ag25) ?_
    refine JL.does trivial (EX.storeAgg H rfl rfl (i := 2) rfl (stp_cell _) (by simp [Stp.v]) sz25 rfl rfl) ?_
    rintro _ w H
    refine JL.go trivial (RX.assign) ?_
    refine JL.nil ?_
    first | refine J.retct (x := Value.bool _) Tryd.func45 rfl H rfl (i := 0) rfl rfl ag25 rfl ?_ | refine J.retct (x := Value.bool _) Tryd.func45 rfl H rfl (i := 1) rfl rfl ag25 rfl ?_ | refine J.retct (x := Value.bool _) Tryd.func45 rfl H rfl (i := 2) rfl rfl ag25 rfl ?_ | refine J.retct (x := Value.bool _) Tryd.func45 rfl H rfl (i := 3) rfl rfl ag25 rfl ?_ | refine J.retct (x := Value.bool _) Tryd.func45 rfl H rfl (i := 4) rfl rfl ag25 rfl ?_
    exact ⟨_, rfl, _, _, _, rfl, hat, (H.pull 1 rfl).drop.pull 1 rfl |>.drop, fun h => (by cases h), fun _ => stepS_none1 hno⟩
  · skip
    first | have h1p := of_decide_eq_false h1 | skip
    rcases hcs with ⟨_, x3, k3, he, hyes, hxm, hkl⟩ | ⟨hcs1, _⟩
    rotate_left
    · exact absurd (show rdC rd = 0 by omega) hcs1
    subst he
    have hrdn : rdN (Rd.ok x3 k3) = x3 := rfl
    simp only [List.length_drop] at hkl
    simp only [rdN, rdAt] at H
    rw [List.drop_drop] at hyes
    refine JL.go ⟨_, rfl, h1⟩ (RX.movev (v := Value.int _ _) rfl) ?_
    refine JL.go ⟨_, rfl, h1⟩ (RX.eq rfl rfl) ?_
    refine JL.go trivial (RX.pick_f rfl h1) ?_
    refine JL.nil ?_
    refine J.cond_d rfl (fun hop0 => ?_) (fun hop0 => ?_)
    · skip
      refine J.seq ?_
      refine J.region ?_
      refine JL.go trivial (RX.loadAgg H rfl (i := 1) (vs := stp0.v) rfl rfl ag25) ?_
      refine JL.does trivial (EX.storeAgg H rfl rfl (i := 2) rfl (stp_cell _) (by simp [Stp.v]) sz25 rfl rfl) ?_
      rintro _ w H
      refine JL.go trivial (RX.assign) ?_
      refine JL.nil ?_
      first | refine J.retct (x := Value.bool _) Tryd.func45 rfl H rfl (i := 0) rfl rfl ag25 rfl ?_ | refine J.retct (x := Value.bool _) Tryd.func45 rfl H rfl (i := 1) rfl rfl ag25 rfl ?_ | refine J.retct (x := Value.bool _) Tryd.func45 rfl H rfl (i := 2) rfl rfl ag25 rfl ?_ | refine J.retct (x := Value.bool _) Tryd.func45 rfl H rfl (i := 3) rfl rfl ag25 rfl ?_ | refine J.retct (x := Value.bool _) Tryd.func45 rfl H rfl (i := 4) rfl rfl ag25 rfl ?_
      have hx0 : x3 = 0 := by omega
      subst hx0
      exact ⟨_, rfl, _, _, _, rfl, (by omega), (H.pull 1 rfl).drop.pull 1 rfl |>.drop, fun h => (by cases h), fun _ => stepS_none0 hyes⟩
    · skip
      refine J.skip ?_
      refine J.seq ?_
      refine J.region ?_
      have hyes3 := hyes
      have hbd : (stp0.put 0 (x3 : Int)).Bd := stp0_bd.put (by omega) (by omega) (by omega)
      have hrow := rrows_read (op := (x3 : Int)) (by omega) (by omega)
      refine JL.go trivial (RX.movev (v := Value.int _ _) rfl) ?_
      refine JL.go trivial (RX.fieldAddr rfl fo25_0 rfl) ?_
      refine JL.does trivial (EX.store (v := Value.int _ _) H rfl rfl (i := 1) rfl rfl (by decide) sz3 rfl rfl) ?_
      rintro _ w H
      refine JL.nil ?_
      refine J.seq ?_
      refine J.region ?_
      refine JL.does trivial (EX.call rfl cl29 rfl (rrows_b H)) ?_
      rintro _ w ⟨rb, rfl, H⟩
      refine JL.go trivial (RX.movev (v := Value.int _ _) rfl) ?_
      refine JL.go trivial (RX.indexAddr rfl rfl sl63 (by omega) (by omega) rfl) ?_
      refine JL.go trivial (RX.loadAggS H (SlAt.here (xs := rrowsV) rfl) rfl (j := (x3 : Int).toNat * 5) (by omega) hrow ag62) ?_
      refine JL.does trivial (EX.alloc H zr62 rfl) ?_
      rintro _ w ⟨rr, rfl, H⟩
      refine JL.does trivial (EX.storeAgg H rfl rfl (i := 0) (vs := (rowOf (x3 : Int)).rv) rfl (rrow_cell _) (by simp [Row.rv]) sz62 rfl rfl) ?_
      rintro _ w H
      refine JL.nil ?_
      replace H := (H.pull 1 rfl).drop
      refine J.seq ?_
      refine J.region ?_
      refine JL.go trivial (RX.fieldAddr rfl fo25_1 rfl) ?_
      refine JL.does trivial (EX.buildSlice1 (v := Value.pointer _) H elP rfl rfl) ?_
      rintro _ w ⟨bq, rfl, H⟩
      refine JL.go trivial (RX.assignv (v := Value.slice _ _ _) rfl) ?_
      refine JL.nil ?_
      have ho : OwnSl 50 1 (some ⟨bq, 0, none⟩) 1 1 (ptrsV b2 [1]) [(bq, cel [.pointer (some ⟨b2, 1, none⟩)] 50)] := OwnSl.one
      have hsn : (1 : Nat) ≤ 1 := by omega
      refine J.seq ?_
      refine J.seq ?_
      refine J.region ?_
      refine JL.go trivial (RX.fieldAddr rfl fo62_1 rfl) ?_
      refine JL.go trivial (by first | exact RX.load H rfl (i := 0) rfl rfl one4 | exact RX.load H rfl (i := 1) rfl rfl one4 | exact RX.load H rfl (i := 2) rfl rfl one4 | exact RX.load H rfl (i := 3) rfl rfl one4 | exact RX.load H rfl (i := 4) rfl rfl one4) ?_
      refine JL.nil ?_
      refine J.join (ι := Option Addr × Nat × Nat × Seg) (fun q => [(8, .slice q.1 q.2.1 q.2.2.1)]) (fun q w => q.2.1 ≤ 2 ∧ OwnSl 50 1 q.1 q.2.1 q.2.2.1 (ptrsV b2 ([1] ++ optN (rowOf (x3 : Int)).src 2)) q.2.2.2 ∧ Hp w0 w (q.2.2.2 :: [(rr, cel (rowOf (x3 : Int)).rv 62)] :: [(b, cel [.slice p bs.length c, .int .i64 (at_ + k3 : Nat)] T)] :: [(b2, cel (stp0.put 0 (x3 : Int)).v 25)] :: [(b1, cel stp0.v 25)] :: F)) [(0, _), (2, _), (4, _), (7, _)] ⟨rfl, rfl, rfl, rfl, trivial⟩ ?_ ?_
      rotate_left
      · skip
        intro k2 hk2
        refine J.cond rfl (fun hb => ?_) (fun hb => ?_)
        · skip
          refine J.region ?_
          refine JL.go trivial (RX.movev (v := Value.slice _ _ _) rfl) ?_
          refine JL.go trivial (RX.fieldAddr rfl fo25_2 rfl) ?_
          refine JL.does trivial (EX.buildSlice1 (v := Value.pointer _) H elP rfl rfl) ?_
          rintro _ w ⟨b0, rfl, H⟩
          refine JL.does trivial (EX.append (ys := [.pointer (some ⟨b2, 2, none⟩)]) (L' := fun s' => [(b0, cel [.pointer (some ⟨b2, 2, none⟩)] 50)] :: s' :: [(rr, cel (rowOf (x3 : Int)).rv 62)] :: [(b, cel [.slice p bs.length c, .int .i64 (at_ + k3 : Nat)] T)] :: [(b2, cel (stp0.put 0 (x3 : Int)).v 25)] :: [(b1, cel stp0.v 25)] :: F) H elP rfl rfl (i := 1) rfl ho (SlAt.here rfl) rfl (by simp [isCell]) (by decide) (by omega) (by omega) (fun _ => rfl)) ?_
          rintro _ w ⟨ap, ac, as_, rfl, ho, H⟩
          refine JL.go trivial (RX.assignv (v := Value.slice _ _ _) rfl) ?_
          refine JL.nil ?_
          first | exact hk2 (_, _, _, _) _ _ ⟨rfl, rfl, rfl, rfl, trivial⟩ ⟨rfl, trivial⟩ ⟨by simp only; omega, by simpa [hb, optN, ptrsV] using ho, H.drop⟩ | exact hk2 (_, _, _, _) _ _ ⟨rfl, rfl, rfl, rfl, trivial⟩ ⟨rfl, trivial⟩ ⟨by simp only; omega, by simpa [hb, optN, ptrsV] using ho, H⟩
        · skip
          refine J.skip ?_
          first | exact hk2 (_, _, _, _) _ _ ⟨rfl, rfl, rfl, rfl, trivial⟩ ⟨rfl, trivial⟩ ⟨by simp only; omega, by simpa [hb, optN, ptrsV] using ho, H.drop⟩ | exact hk2 (_, _, _, _) _ _ ⟨rfl, rfl, rfl, rfl, trivial⟩ ⟨rfl, trivial⟩ ⟨by simp only; omega, by simpa [hb, optN, ptrsV] using ho, H⟩
      · skip
        clear H ho
        rintro ⟨sp, sn, sc, ss⟩ ρ w ⟨hsn, ho, H⟩
        simp only at hsn ho H
        dsimp only
        refine J.seq ?_
        refine J.seq ?_
        refine J.region ?_
        refine JL.go trivial (RX.fieldAddr rfl fo62_2 rfl) ?_
        refine JL.go trivial (by first | exact RX.load H rfl (i := 0) rfl rfl one4 | exact RX.load H rfl (i := 1) rfl rfl one4 | exact RX.load H rfl (i := 2) rfl rfl one4 | exact RX.load H rfl (i := 3) rfl rfl one4 | exact RX.load H rfl (i := 4) rfl rfl one4) ?_
        refine JL.nil ?_
        refine J.join (ι := Option Addr × Nat × Nat × Seg) (fun q => [(8, .slice q.1 q.2.1 q.2.2.1)]) (fun q w => q.2.1 ≤ 3 ∧ OwnSl 50 1 q.1 q.2.1 q.2.2.1 (ptrsV b2 ([1] ++ optN (rowOf (x3 : Int)).src 2 ++ optN (rowOf (x3 : Int)).jump 3)) q.2.2.2 ∧ Hp w0 w (q.2.2.2 :: [(rr, cel (rowOf (x3 : Int)).rv 62)] :: [(b, cel [.slice p bs.length c, .int .i64 (at_ + k3 : Nat)] T)] :: [(b2, cel (stp0.put 0 (x3 : Int)).v 25)] :: [(b1, cel stp0.v 25)] :: F)) [(0, _), (2, _), (4, _), (7, _)] ⟨rfl, rfl, rfl, rfl, trivial⟩ ?_ ?_
        rotate_left
        · skip
          intro k2 hk2
          refine J.cond rfl (fun hb => ?_) (fun hb => ?_)
          · skip
            refine J.region ?_
            refine JL.go trivial (RX.movev (v := Value.slice _ _ _) rfl) ?_
            refine JL.go trivial (RX.fieldAddr rfl fo25_3 rfl) ?_
            refine JL.does trivial (EX.buildSlice1 (v := Value.pointer _) H elP rfl rfl) ?_
            rintro _ w ⟨b0, rfl, H⟩
            refine JL.does trivial (EX.append (ys := [.pointer (some ⟨b2, 3, none⟩)]) (L' := fun s' => [(b0, cel [.pointer (some ⟨b2, 3, none⟩)] 50)] :: s' :: [(rr, cel (rowOf (x3 : Int)).rv 62)] :: [(b, cel [.slice p bs.length c, .int .i64 (at_ + k3 : Nat)] T)] :: [(b2, cel (stp0.put 0 (x3 : Int)).v 25)] :: [(b1, cel stp0.v 25)] :: F) H elP rfl rfl (i := 1) rfl ho (SlAt.here rfl) rfl (by simp [isCell]) (by decide) (by omega) (by omega) (fun _ => rfl)) ?_
            rintro _ w ⟨ap, ac, as_, rfl, ho, H⟩
            refine JL.go trivial (RX.assignv (v := Value.slice _ _ _) rfl) ?_
            refine JL.nil ?_
            first | exact hk2 (_, _, _, _) _ _ ⟨rfl, rfl, rfl, rfl, trivial⟩ ⟨rfl, trivial⟩ ⟨by simp only; omega, by simpa [hb, optN, ptrsV] using ho, H.drop⟩ | exact hk2 (_, _, _, _) _ _ ⟨rfl, rfl, rfl, rfl, trivial⟩ ⟨rfl, trivial⟩ ⟨by simp only; omega, by simpa [hb, optN, ptrsV] using ho, H⟩
          · skip
            refine J.skip ?_
            first | exact hk2 (_, _, _, _) _ _ ⟨rfl, rfl, rfl, rfl, trivial⟩ ⟨rfl, trivial⟩ ⟨by simp only; omega, by simpa [hb, optN, ptrsV] using ho, H.drop⟩ | exact hk2 (_, _, _, _) _ _ ⟨rfl, rfl, rfl, rfl, trivial⟩ ⟨rfl, trivial⟩ ⟨by simp only; omega, by simpa [hb, optN, ptrsV] using ho, H⟩
        · skip
          clear H ho
          rintro ⟨sp, sn, sc, ss⟩ ρ w ⟨hsn, ho, H⟩
          simp only at hsn ho H
          dsimp only
          refine J.seq ?_
          refine J.region ?_
          refine JL.go trivial (RX.movev (v := Value.slice _ _ _) rfl) ?_
          refine JL.go trivial (RX.fieldAddr rfl fo25_4 rfl) ?_
          refine JL.does trivial (EX.buildSlice1 (v := Value.pointer _) H elP rfl rfl) ?_
          rintro _ w ⟨b0, rfl, H⟩
          refine JL.does trivial (EX.append (ys := [.pointer (some ⟨b2, 4, none⟩)]) (L' := fun s' => [(b0, cel [.pointer (some ⟨b2, 4, none⟩)] 50)] :: s' :: [(rr, cel (rowOf (x3 : Int)).rv 62)] :: [(b, cel [.slice p bs.length c, .int .i64 (at_ + k3 : Nat)] T)] :: [(b2, cel (stp0.put 0 (x3 : Int)).v 25)] :: [(b1, cel stp0.v 25)] :: F) H elP rfl rfl (i := 1) rfl ho (SlAt.here rfl) rfl (by simp [isCell]) (by decide) (by omega) (by omega) (fun _ => rfl)) ?_
          rintro _ w ⟨ap, ac, as_, rfl, ho, H⟩
          refine JL.go trivial (RX.assignv (v := Value.slice _ _ _) rfl) ?_
          refine JL.nil ?_
          replace H := H.drop
          refine J.seq ?_
          refine J.seq ?_
          refine J.region ?_
          refine JL.go trivial (RX.fieldAddr rfl fo62_3 rfl) ?_
          refine JL.go trivial (by first | exact RX.load H rfl (i := 0) rfl rfl one4 | exact RX.load H rfl (i := 1) rfl rfl one4 | exact RX.load H rfl (i := 2) rfl rfl one4 | exact RX.load H rfl (i := 3) rfl rfl one4 | exact RX.load H rfl (i := 4) rfl rfl one4) ?_
          refine JL.nil ?_
          refine J.join (ι := Option Addr × Nat × Nat × Seg) (fun q => [(8, .slice q.1 q.2.1 q.2.2.1)]) (fun q w => q.2.1 ≤ 5 ∧ OwnSl 50 1 q.1 q.2.1 q.2.2.1 (ptrsV b2 ([1] ++ optN (rowOf (x3 : Int)).src 2 ++ optN (rowOf (x3 : Int)).jump 3 ++ [4] ++ optN (decide (0 < (rowOf (x3 : Int)).n)) 5)) q.2.2.2 ∧ Hp w0 w (q.2.2.2 :: [(rr, cel (rowOf (x3 : Int)).rv 62)] :: [(b, cel [.slice p bs.length c, .int .i64 (at_ + k3 : Nat)] T)] :: [(b2, cel (stp0.put 0 (x3 : Int)).v 25)] :: [(b1, cel stp0.v 25)] :: F)) [(0, _), (2, _), (4, _), (7, _)] ⟨rfl, rfl, rfl, rfl, trivial⟩ ?_ ?_
          rotate_left
          · skip
            intro k2 hk2
            refine J.cond rfl (fun hb => ?_) (fun hb => ?_)
            · skip
              refine J.region ?_
              refine JL.go trivial (RX.movev (v := Value.slice _ _ _) rfl) ?_
              refine JL.go trivial (RX.fieldAddr rfl fo25_5 rfl) ?_
              refine JL.does trivial (EX.buildSlice1 (v := Value.pointer _) H elP rfl rfl) ?_
              rintro _ w ⟨b0, rfl, H⟩
              refine JL.does trivial (EX.append (ys := [.pointer (some ⟨b2, 5, none⟩)]) (L' := fun s' => [(b0, cel [.pointer (some ⟨b2, 5, none⟩)] 50)] :: s' :: [(rr, cel (rowOf (x3 : Int)).rv 62)] :: [(b, cel [.slice p bs.length c, .int .i64 (at_ + k3 : Nat)] T)] :: [(b2, cel (stp0.put 0 (x3 : Int)).v 25)] :: [(b1, cel stp0.v 25)] :: F) H elP rfl rfl (i := 1) rfl ho (SlAt.here rfl) rfl (by simp [isCell]) (by decide) (by omega) (by omega) (fun _ => rfl)) ?_
              rintro _ w ⟨ap, ac, as_, rfl, ho, H⟩
              refine JL.go trivial (RX.assignv (v := Value.slice _ _ _) rfl) ?_
              refine JL.nil ?_
              first | exact hk2 (_, _, _, _) _ _ ⟨rfl, rfl, rfl, rfl, trivial⟩ ⟨rfl, trivial⟩ ⟨by simp only; omega, by simpa [hb, optN, ptrsV] using ho, H.drop⟩ | exact hk2 (_, _, _, _) _ _ ⟨rfl, rfl, rfl, rfl, trivial⟩ ⟨rfl, trivial⟩ ⟨by simp only; omega, by simpa [hb, optN, ptrsV] using ho, H⟩
            · skip
              refine J.skip ?_
              first | exact hk2 (_, _, _, _) _ _ ⟨rfl, rfl, rfl, rfl, trivial⟩ ⟨rfl, trivial⟩ ⟨by simp only; omega, by simpa [hb, optN, ptrsV] using ho, H.drop⟩ | exact hk2 (_, _, _, _) _ _ ⟨rfl, rfl, rfl, rfl, trivial⟩ ⟨rfl, trivial⟩ ⟨by simp only; omega, by simpa [hb, optN, ptrsV] using ho, H⟩
          · skip
            clear H ho
            rintro ⟨sp, sn, sc, ss⟩ ρ w ⟨hsn, ho, H⟩
            simp only at hsn ho H
            dsimp only
            refine J.seq ?_
            refine J.seq ?_
            refine J.region ?_
            refine JL.go trivial (RX.fieldAddr rfl fo62_4 rfl) ?_
            refine JL.go trivial (by first | exact RX.load H rfl (i := 0) rfl rfl one4 | exact RX.load H rfl (i := 1) rfl rfl one4 | exact RX.load H rfl (i := 2) rfl rfl one4 | exact RX.load H rfl (i := 3) rfl rfl one4 | exact RX.load H rfl (i := 4) rfl rfl one4) ?_
            refine JL.nil ?_
            refine J.join (ι := Option Addr × Nat × Nat × Seg) (fun q => [(8, .slice q.1 q.2.1 q.2.2.1)]) (fun q w => q.2.1 ≤ 6 ∧ OwnSl 50 1 q.1 q.2.1 q.2.2.1 (ptrsV b2 ([1] ++ optN (rowOf (x3 : Int)).src 2 ++ optN (rowOf (x3 : Int)).jump 3 ++ [4] ++ optN (decide (0 < (rowOf (x3 : Int)).n)) 5 ++ optN (rowOf (x3 : Int)).k 6)) q.2.2.2 ∧ Hp w0 w (q.2.2.2 :: [(rr, cel (rowOf (x3 : Int)).rv 62)] :: [(b, cel [.slice p bs.length c, .int .i64 (at_ + k3 : Nat)] T)] :: [(b2, cel (stp0.put 0 (x3 : Int)).v 25)] :: [(b1, cel stp0.v 25)] :: F)) [(0, _), (2, _), (4, _)] ⟨rfl, rfl, rfl, trivial⟩ ?_ ?_
            rotate_left
            · skip
              intro k2 hk2
              refine J.cond rfl (fun hb => ?_) (fun hb => ?_)
              · skip
                refine J.region ?_
                refine JL.go trivial (RX.movev (v := Value.slice _ _ _) rfl) ?_
                refine JL.go trivial (RX.fieldAddr rfl fo25_6 rfl) ?_
                refine JL.does trivial (EX.buildSlice1 (v := Value.pointer _) H elP rfl rfl) ?_
                rintro _ w ⟨b0, rfl, H⟩
                refine JL.does trivial (EX.append (ys := [.pointer (some ⟨b2, 6, none⟩)]) (L' := fun s' => [(b0, cel [.pointer (some ⟨b2, 6, none⟩)] 50)] :: s' :: [(rr, cel (rowOf (x3 : Int)).rv 62)] :: [(b, cel [.slice p bs.length c, .int .i64 (at_ + k3 : Nat)] T)] :: [(b2, cel (stp0.put 0 (x3 : Int)).v 25)] :: [(b1, cel stp0.v 25)] :: F) H elP rfl rfl (i := 1) rfl ho (SlAt.here rfl) rfl (by simp [isCell]) (by decide) (by omega) (by omega) (fun _ => rfl)) ?_
                rintro _ w ⟨ap, ac, as_, rfl, ho, H⟩
                refine JL.go trivial (RX.assignv (v := Value.slice _ _ _) rfl) ?_
                refine JL.nil ?_
                first | exact hk2 (_, _, _, _) _ _ ⟨rfl, rfl, rfl, trivial⟩ ⟨rfl, trivial⟩ ⟨by simp only; omega, by simpa [hb, optN, ptrsV] using ho, H.drop⟩ | exact hk2 (_, _, _, _) _ _ ⟨rfl, rfl, rfl, trivial⟩ ⟨rfl, trivial⟩ ⟨by simp only; omega, by simpa [hb, optN, ptrsV] using ho, H⟩
              · skip
                refine J.skip ?_
                first | exact hk2 (_, _, _, _) _ _ ⟨rfl, rfl, rfl, trivial⟩ ⟨rfl, trivial⟩ ⟨by simp only; omega, by simpa [hb, optN, ptrsV] using ho, H.drop⟩ | exact hk2 (_, _, _, _) _ _ ⟨rfl, rfl, rfl, trivial⟩ ⟨rfl, trivial⟩ ⟨by simp only; omega, by simpa [hb, optN, ptrsV] using ho, H⟩
            · skip
              clear H ho
              rintro ⟨sp, sn, sc, ss⟩ ρ w ⟨hsn, ho, H⟩
              simp only at hsn ho H
              dsimp only
              refine J.seq ?_
              refine J.seq ?_
              refine J.region ?_
              have hlen := ho.1
              rw [show [1] ++ optN (rowOf (x3 : Int)).src 2 ++ optN (rowOf (x3 : Int)).jump 3 ++ [4] ++ optN (decide (0 < (rowOf (x3 : Int)).n)) 5 ++ optN (rowOf (x3 : Int)).k 6 = fieldOffs (rowOf (x3 : Int)) from offsOf_eq _] at ho hlen
              simp only [ptrsV, List.length_map, Nat.mul_one] at hlen
              subst hlen
              clear hsn
              have hfle := fieldOffs_len (rowOf (x3 : Int))
              refine JL.go trivial (RX.movev (v := Value.slice _ _ _) rfl) ?_
              refine JL.go trivial (RX.len_slice rfl (by rw [sl70]; rfl) rfl) ?_
              refine JL.go trivial (RX.move) ?_
              refine JL.nil ?_
              refine J.block ?_
              refine J.loop (ι := Nat × Nat × List Int) (S := fun q => [(64, .int .i64 (q.1 : Nat))]) (Φ := fun q w => q.1 ≤ (fieldOffs (rowOf (x3 : Int))).length ∧ q.2.2.length = q.1 ∧ q.2.1 ≤ bs.length ∧ numsA [] (fieldOffs (rowOf (x3 : Int))).length (bs.drop (at_ + k3)) = numsA q.2.2 ((fieldOffs (rowOf (x3 : Int))).length - q.1) (bs.drop q.2.1) ∧ (putAll (stp0.put 0 (x3 : Int)) ((fieldOffs (rowOf (x3 : Int))).take q.1) q.2.2).Bd ∧ Hp w0 w ([(b, cel [.slice p bs.length c, .int .i64 (q.2.1 : Nat)] T)] :: ss :: [(rr, cel (rowOf (x3 : Int)).rv 62)] :: [(b2, cel (putAll (stp0.put 0 (x3 : Int)) ((fieldOffs (rowOf (x3 : Int))).take q.1) q.2.2).v 25)] :: [(b1, cel stp0.v 25)] :: F)) (μ := fun q => (fieldOffs (rowOf (x3 : Int))).length - q.1) (C := [(0, _), (2, _), (4, _), (62, _), (63, _)]) (0, at_ + k3, []) ⟨rfl, rfl, rfl, rfl, rfl, trivial⟩ ⟨rfl, trivial⟩ ?_ ?_
              · exact ⟨by omega, rfl, by simp only; omega, rfl, hbd, H.pull 2 rfl⟩
              clear H
              rintro ⟨j, a4, xs⟩ ρ w ⟨hj, hxl, ha, hxs, hbj, H⟩ IH2
              simp only at hj hxl ha hxs hbj H
              dsimp only
              refine J.seq ?_
              refine J.region ?_
              refine JL.go trivial (RX.lt rfl rfl) ?_
              refine JL.nil ?_
              refine J.seq ?_
              refine J.cond_d rfl (fun hjlt => ?_) (fun hjlt => ?_)
              · skip
                obtain ⟨d2, hd2⟩ : ∃ d2, (fieldOffs (rowOf (x3 : Int))).length - j = d2 + 1 := ⟨(fieldOffs (rowOf (x3 : Int))).length - j - 1, by omega⟩
                rw [hd2] at hxs
                obtain ⟨o, hoj⟩ : ∃ o, (fieldOffs (rowOf (x3 : Int)))[j]? = some o := ⟨_, List.getElem?_eq_getElem (by omega)⟩
                have hol := fieldOffs_lt (List.mem_of_getElem? hoj)
                obtain ⟨gq, lq, rfl, rfl, hll⟩ := ho.ptr (by omega)
                refine J.skip ?_
                refine J.seq ?_
                refine J.block ?_
                refine J.seq ?_
                refine J.region ?_
                refine JL.go trivial (RX.indexAddr rfl rfl sl70 (by omega) (by omega) rfl) ?_
                refine JL.go trivial (RX.loadS H ((SlAt.here hll.2.2).cons) rfl (j := j) (by omega) (ptrsV_get hoj) one50) ?_
                refine JL.go trivial (RX.assignv (v := Value.pointer _) rfl) ?_
                refine JL.nil ?_
                refine J.seq ?_
                refine J.region ?_
                refine JL.go trivial (RX.movev (v := Value.pointer _) rfl) ?_
                refine JL.does trivial (EX.call rfl cl44 rfl ((ref_Upto H hs.cons.cons.cons.cons ha hl (by decide) (by decide)))) ?_
                rintro _ w ⟨rfl, H⟩
                have hcs := isC3 (bs.drop a4) 262144
                generalize (rdu 0 0 (bs.drop a4)).upto 262144 = rd at hcs H ⊢
                refine JL.go trivial (RX.movev (v := Value.tuple _) rfl) ?_
                refine JL.go trivial (RX.extract rfl rfl) ?_
                refine JL.go trivial (RX.extract rfl rfl) ?_
                refine JL.go trivial (RX.assignv (v := Value.int _ _) rfl) ?_
                refine JL.go trivial (RX.assignv (v := Value.int _ _) rfl) ?_
                refine JL.nil ?_
                refine J.seq ?_
                refine J.seq ?_
                refine J.region ?_
                refine JL.go trivial (RX.movev (v := Value.int _ _) rfl) ?_
                refine JL.go trivial (RX.ne rfl rfl) ?_
                refine JL.nil ?_
                refine J.cond_d rfl (fun h1 => ?_) (fun h1 => ?_)
                · skip
                  rcases hcs with ⟨hcs1, _⟩ | ⟨_, ⟨e, he⟩, hno⟩
                  · exact absurd hcs1 (by omega)
                  subst he
                  rw [numsA_none hno] at hxs
                  simp only [rdAt] at H
                  refine J.seq ?_
                  refine J.region ?_
                  refine JL.go trivial (RX.loadAgg H rfl (i := 3) (vs := (putAll (stp0.put 0 (x3 : Int)) ((fieldOffs (rowOf (x3 : Int))).take j) xs).v) rfl rfl ag25) ?_
                  refine JL.does trivial (EX.storeAgg H rfl rfl (i := 4) rfl (stp_cell _) (by simp [Stp.v]) sz25 rfl rfl) ?_
                  rintro _ w H
                  refine JL.go trivial (RX.assign) ?_
                  refine JL.nil ?_
                  first | refine J.retct (x := Value.bool _) Tryd.func45 rfl H rfl (i := 0) rfl rfl ag25 rfl ?_ | refine J.retct (x := Value.bool _) Tryd.func45 rfl H rfl (i := 1) rfl rfl ag25 rfl ?_ | refine J.retct (x := Value.bool _) Tryd.func45 rfl H rfl (i := 2) rfl rfl ag25 rfl ?_ | refine J.retct (x := Value.bool _) Tryd.func45 rfl H rfl (i := 3) rfl rfl ag25 rfl ?_ | refine J.retct (x := Value.bool _) Tryd.func45 rfl H rfl (i := 4) rfl rfl ag25 rfl ?_
                  exact ⟨_, rfl, _, _, _, rfl, ha, (((H.pull 1 rfl).drop.pull 1 rfl).drop.pull 1 rfl).drop.pull 1 rfl |>.drop, fun h => (by cases h), fun _ => stepS_none2 hyes3 hxs⟩
                · skip
                  rcases hcs with ⟨_, x4, k4, he, hyes, hxm, hkl⟩ | ⟨hcs1, _⟩
                  rotate_left
                  · exact absurd (show rdC rd = 0 by omega) hcs1
                  subst he
                  have hrdn : rdN (Rd.ok x4 k4) = x4 := rfl
                  simp only [List.length_drop] at hkl
                  rw [numsA_some hyes] at hxs
                  simp only [rdN, rdAt] at H
                  have hbj2 := hbj.put (x := (x4 : Int)) hol.2 (by omega) (by omega)
                  refine J.skip ?_
                  refine J.region ?_
                  refine JL.go trivial (RX.movev (v := Value.pointer _) rfl) ?_
                  refine JL.go trivial (RX.movev (v := Value.int _ _) rfl) ?_
                  refine JL.go trivial (RX.nilCheck rfl) ?_
                  refine JL.does trivial (EX.store (v := Value.int _ _) H rfl rfl (i := 3) rfl rfl (by simp [Stp.v]; omega) sz3 rfl rfl) ?_
                  rintro _ w H
                  refine JL.nil ?_
                  rw [Stp.put_v hol.2, ← putAll_snoc _ _ _ _ _ (by simp; omega), ← take_succ_get hoj] at H
                  rw [← putAll_snoc _ _ _ _ _ (by simp; omega), ← take_succ_get hoj] at hbj2
                  refine J.inBlock ?_
                  refine J.region ?_
                  refine JL.go trivial (RX.add rfl rfl (w_i64 rfl (by omega) (by omega))) ?_
                  refine JL.go trivial (RX.movev (v := Value.int _ _) rfl) ?_
                  refine JL.nil ?_
                  exact IH2 (j + 1, a4 + k4, xs ++ [(x4 : Int)]) _ _ (by simp only; omega) ⟨rfl, rfl, rfl, rfl, rfl, trivial⟩ ⟨rfl, trivial⟩ ⟨by simp only; omega, by simp [hxl], by simp only; omega, by simp only; rw [hxs, List.drop_drop, show (fieldOffs (rowOf (x3 : Int))).length - (j + 1) = d2 by omega], hbj2, H⟩
              · skip
                refine J.exit rfl ?_
                refine J.seq ?_
                refine J.region ?_
                have hjf : j = (fieldOffs (rowOf (x3 : Int))).length := by omega
                subst hjf
                rw [List.take_length] at H hbj
                rw [Nat.sub_self] at hxs
                change _ = some (xs, bs.drop a4) at hxs
                generalize hst : putAll (stp0.put 0 (x3 : Int)) (fieldOffs (rowOf (x3 : Int))) xs = st at H hbj
                refine JL.go trivial (RX.loadAgg H rfl (i := 3) (vs := st.v) rfl rfl ag25) ?_
                refine JL.does trivial (EX.call rfl cl11 rfl ((rform_b H hbj.ok))) ?_
                rintro _ w ⟨rfl, H⟩
                refine JL.go trivial (RX.assignv (v := Value.int _ _) rfl) ?_
                refine JL.nil ?_
                refine J.seq ?_
                refine J.region ?_
                refine JL.go trivial (RX.loadAgg H rfl (i := 3) (vs := st.v) rfl rfl ag25) ?_
                refine JL.go trivial (RX.movev (v := Value.int _ _) rfl) ?_
                refine JL.go trivial (RX.eq rfl rfl) ?_
                refine JL.does trivial (EX.storeAgg H rfl rfl (i := 4) rfl (stp_cell _) (by simp [Stp.v]) sz25 rfl rfl) ?_
                rintro _ w H
                refine JL.go trivial (RX.assignv (v := Value.bool _) rfl) ?_
                refine JL.nil ?_
                first | refine J.retct (x := Value.bool _) Tryd.func45 rfl H rfl (i := 0) rfl rfl ag25 rfl ?_ | refine J.retct (x := Value.bool _) Tryd.func45 rfl H rfl (i := 1) rfl rfl ag25 rfl ?_ | refine J.retct (x := Value.bool _) Tryd.func45 rfl H rfl (i := 2) rfl rfl ag25 rfl ?_ | refine J.retct (x := Value.bool _) Tryd.func45 rfl H rfl (i := 3) rfl rfl ag25 rfl ?_ | refine J.retct (x := Value.bool _) Tryd.func45 rfl H rfl (i := 4) rfl rfl ag25 rfl ?_
                refine ⟨_, rfl, st, a4, _, rfl, ha, (((H.pull 1 rfl).drop.pull 1 rfl).drop.pull 1 rfl).drop.pull 1 rfl |>.drop, fun h => ?_, fun h => ?_⟩
                · have hf : formB st = true := by
                    cases hh : formB st
                    · have h9 := of_decide_eq_true h
                      rw [hh] at h9; simp at h9
                    · rfl
                  exact ⟨by rw [← hst] at hf ⊢; exact stepS_some hyes3 (by omega) hxs hf, hf⟩
                · have hf : formB st = false := by
                    cases hh : formB st
                    · rfl
                    · have h9 := of_decide_eq_false h
                      rw [hh] at h9; simp at h9
                  rw [← hst] at hf; exact stepS_none3 hyes3 hxs hf

def pa5 (b n i : Nat) : Addr := if i < 4 then ⟨b, i, none⟩ else ⟨n, 0, none⟩
def ptrs5 (b n : Nat) : List Value := [.pointer (some ⟨b, 0, none⟩), .pointer (some ⟨b, 1, none⟩), .pointer (some ⟨b, 2, none⟩), .pointer (some ⟨b, 3, none⟩), .pointer (some ⟨n, 0, none⟩)]
theorem ptrs5_get {b n i : Nat} (h : i < 5) : (ptrs5 b n)[i]? = some (.pointer (some (pa5 b n i))) := by
  have : i = 0 ∨ i = 1 ∨ i = 2 ∨ i = 3 ∨ i = 4 := by omega
  rcases this with rfl | rfl | rfl | rfl | rfl <;> rfl
theorem getD4_small {acc : List Int} {x : Int} (h : acc.length < 4) : (acc ++ [x]).getD 4 0 = 0 ∧ acc.getD 4 0 = 0 := by
  constructor
  · rw [List.getD_eq_getElem?_getD, List.getElem?_eq_none (by simp; omega)]; rfl
  · rw [List.getD_eq_getElem?_getD, List.getElem?_eq_none (by omega)]; rfl
theorem getD4_big {acc : List Int} {x : Int} {ss : List Stp} (h : acc.length = 4) : (acc ++ [x]).getD 4 0 = x ∧ hdP (acc ++ [x]) ss = hdP acc ss := by
  match acc, h with
  | [a, b, c, d], _ => exact ⟨rfl, rfl⟩

theorem rDecode_b {w0 w : World} {F : List Seg} {p : Option Addr} {c : Nat} {bs : List UInt8} (H : Hp w0 w F) (hs : SlAt F p (bv bs)) (hl : bs.length ≤ 1099511627776) : Ret Tryd.prog 20 [.slice p bs.length c] w fun v w' => ∃ q pp pc ps, v = .tuple #[.agg (prgV q pp q.steps.length pc).toArray, .int .i64 (if (progS bs).isSome then 0 else 9)] ∧ OwnSl 25 7 pp q.steps.length pc (stepsV q.steps) ps ∧ (∀ s ∈ q.steps, formB s = true) ∧ q = (progS bs).getD prg0 ∧ Hp w0 w' (ps :: F) := by
  refine Calls.of_J (n := 69) Tryd.func20 rfl rfl rfl ?_
  refine J.seq ?_
  have hd0 : bs.drop 0 = bs := List.drop_zero
  refine J.region ?_
  refine JL.does trivial (EX.alloc H zr33 rfl) ?_
  rintro _ w ⟨b1, rfl, H⟩
  refine JL.go trivial (RX.assign) ?_
  refine JL.nil ?_
  refine J.seq ?_
  refine J.region ?_
  refine JL.go trivial (RX.movev (v := Value.slice _ _ _) rfl) ?_
  refine JL.go trivial (RX.build (pv := [(0, .slice p bs.length c)]) (res := [.slice p bs.length c, .int .i64 0]) rfl (by kernel_rfl)) ?_
  refine JL.does trivial (EX.box (v := Value.agg _) H rfl rfl) ?_
  rintro _ w ⟨b, rfl, H⟩
  refine JL.go trivial (RX.assignv (v := Value.pointer _) rfl) ?_
  refine JL.nil ?_
  refine J.seq ?_
  refine J.region ?_
  refine JL.go trivial (RX.build (pv := []) (res := prgV prg0 none 0 0) rfl (by kernel_rfl)) ?_
  refine JL.does trivial (EX.alloc H zr33 rfl) ?_
  rintro _ w ⟨b4, rfl, H⟩
  refine JL.does trivial (EX.storeAgg H rfl rfl (i := 0) rfl prgV_cell (by decide) sz33 rfl rfl) ?_
  rintro _ w H
  refine JL.nil ?_
  refine J.seq ?_
  refine J.region ?_
  refine JL.does trivial (EX.alloc H zr3 rfl) ?_
  rintro _ w ⟨b5, rfl, H⟩
  refine JL.does trivial (EX.store (v := Value.int _ _) H rfl rfl (i := 0) rfl rfl (by simp) sz3 rfl rfl) ?_
  rintro _ w H
  refine JL.nil ?_
  refine J.seq ?_
  refine J.seq ?_
  refine J.region ?_
  refine JL.go trivial (RX.fieldAddr rfl fo33_0 rfl) ?_
  refine JL.go trivial (RX.fieldAddr rfl fo33_1 rfl) ?_
  refine JL.go trivial (RX.fieldAddr rfl fo33_2 rfl) ?_
  refine JL.go trivial (RX.fieldAddr rfl fo33_3 rfl) ?_
  refine JL.does trivial (EX.buildSlice (pv := [(0, .pointer (some ⟨b4, 0, none⟩)), (1, .pointer (some ⟨b4, 1, none⟩)), (2, .pointer (some ⟨b4, 2, none⟩)), (3, .pointer (some ⟨b4, 3, none⟩)), (4, .pointer (some ⟨b5, 0, none⟩))]) (l := ptrs5 b4 b5) (e := 50) H rfl (by kernel_rfl)) ?_
  rintro _ w ⟨hb, rfl, H⟩
  refine JL.go trivial (RX.len_slice rfl (by rw [sl70]; rfl) rfl) ?_
  refine JL.go trivial (RX.move) ?_
  refine JL.nil ?_
  refine J.block ?_
  refine J.loop (ι := Nat × Nat × List Int) (S := fun q => [(25, .int .i64 (q.1 : Nat))]) (Φ := fun q w => q.1 ≤ 5 ∧ q.2.2.length = q.1 ∧ q.2.1 ≤ bs.length ∧ (∀ x ∈ q.2.2, 0 ≤ x ∧ x ≤ 262144) ∧ numsA [] 5 (bs.drop 0) = numsA q.2.2 (5 - q.1) (bs.drop q.2.1) ∧ Hp w0 w ([(b, cel [.slice p bs.length c, .int .i64 (q.2.1 : Nat)] 87)] :: [(hb, cel (ptrs5 b4 b5) 50)] :: [(b5, cel [.int .i64 ((q.2.2).getD 4 0)] 3)] :: [(b4, cel (prgV (hdP (q.2.2) []) none 0 0) 33)] :: [(b1, cel (prgV prg0 none 0 0) 33)] :: F)) (μ := fun q => 5 - q.1) (C := [(2, _), (4, _), (5, _), (6, _), (23, _), (24, _)]) (0, 0, []) ⟨rfl, rfl, rfl, rfl, rfl, rfl, trivial⟩ ⟨rfl, trivial⟩ ?_ ?_
  · exact ⟨by omega, rfl, by simp, fun x hx => (by simp at hx), rfl, H.pull 3 rfl⟩
  clear H
  rintro ⟨i, a, acc⟩ ρ w ⟨hi, hacl, ha, hab, hac, H⟩ IH
  simp only at hi hacl ha hab hac H
  dsimp only
  refine J.seq ?_
  refine J.region ?_
  refine JL.go trivial (RX.lt rfl rfl) ?_
  refine JL.nil ?_
  refine J.seq ?_
  refine J.cond_d rfl (fun hlt => ?_) (fun hlt => ?_)
  · skip
    obtain ⟨i1, hi1⟩ : ∃ i1, 5 - i = i1 + 1 := ⟨4 - i, by omega⟩
    rw [hi1] at hac
    refine J.skip ?_
    refine J.seq ?_
    refine J.block ?_
    refine J.seq ?_
    refine J.region ?_
    refine JL.go trivial (RX.indexAddr rfl rfl sl70 (by omega) (by omega) rfl) ?_
    refine JL.go trivial (RX.loadS H (SlAt.here (xs := ptrs5 b4 b5) rfl).cons rfl (j := i) (by omega) (ptrs5_get (by omega)) one50) ?_
    refine JL.go trivial (RX.assignv (v := Value.pointer _) rfl) ?_
    refine JL.nil ?_
    refine J.seq ?_
    refine J.region ?_
    refine JL.go trivial (RX.movev (v := Value.pointer _) rfl) ?_
    refine JL.does trivial (EX.call rfl cl44 rfl ((ref_Upto H hs.cons.cons.cons.cons ha hl (by decide) (by decide)))) ?_
    rintro _ w ⟨rfl, H⟩
    have hcs := isC3 (bs.drop a) 262144
    generalize (rdu 0 0 (bs.drop a)).upto 262144 = rd at hcs H ⊢
    refine JL.go trivial (RX.movev (v := Value.tuple _) rfl) ?_
    refine JL.go trivial (RX.extract rfl rfl) ?_
    refine JL.go trivial (RX.extract rfl rfl) ?_
    refine JL.go trivial (RX.assignv (v := Value.int _ _) rfl) ?_
    refine JL.go trivial (RX.assignv (v := Value.int _ _) rfl) ?_
    refine JL.nil ?_
    refine J.seq ?_
    refine J.seq ?_
    refine J.region ?_
    refine JL.go trivial (RX.movev (v := Value.int _ _) rfl) ?_
    refine JL.go trivial (RX.ne rfl rfl) ?_
    refine JL.nil ?_
    refine J.cond_d rfl (fun h1 => ?_) (fun h1 => ?_)
    · skip
      rcases hcs with ⟨hcs1, _⟩ | ⟨_, ⟨e, he⟩, hno⟩
      · exact absurd hcs1 (by omega)
      subst he
      rw [numsA_none hno] at hac
      simp only [rdAt] at H
      refine J.seq ?_
      refine J.region ?_
      refine JL.go trivial (RX.build (pv := []) (res := prgV prg0 none 0 0) rfl (by kernel_rfl)) ?_
      refine JL.does trivial (EX.storeAgg H rfl rfl (i := 4) rfl prgV_cell (by simp [prgV]) sz33 rfl rfl) ?_
      rintro _ w H
      refine JL.go trivial (RX.assign) ?_
      refine JL.nil ?_
      first | refine J.retct (x := Value.int _ _) Tryd.func20 rfl H rfl (i := 0) rfl rfl ag33 rfl ?_ | refine J.retct (x := Value.int _ _) Tryd.func20 rfl H rfl (i := 1) rfl rfl ag33 rfl ?_ | refine J.retct (x := Value.int _ _) Tryd.func20 rfl H rfl (i := 2) rfl rfl ag33 rfl ?_ | refine J.retct (x := Value.int _ _) Tryd.func20 rfl H rfl (i := 3) rfl rfl ag33 rfl ?_ | refine J.retct (x := Value.int _ _) Tryd.func20 rfl H rfl (i := 4) rfl rfl ag33 rfl ?_ | refine J.retct (x := Value.int _ _) Tryd.func20 rfl H rfl (i := 5) rfl rfl ag33 rfl ?_ | refine J.retct (x := Value.int _ _) Tryd.func20 rfl H rfl (i := 6) rfl rfl ag33 rfl ?_
      have hpn : progS bs = none := progS_none (by rw [← hd0]; exact decS_five_none hac)
      rw [hpn]
      exact ⟨_, rfl, prg0, none, 0, [], rfl, OwnSl.nil, fun s h => (by simp [prg0] at h), rfl, H.drop.drop.drop.drop.drop.nil⟩
    · skip
      rcases hcs with ⟨_, x, k, he, hyes, hxm, hkl⟩ | ⟨hcs1, _⟩
      rotate_left
      · exact absurd (show rdC rd = 0 by omega) hcs1
      subst he
      have hrdn : rdN (Rd.ok x k) = x := rfl
      simp only [List.length_drop] at hkl
      rw [numsA_some hyes] at hac
      simp only [rdN, rdAt] at H
      refine J.skip ?_
      refine J.region ?_
      refine JL.go trivial (RX.movev (v := Value.pointer _) rfl) ?_
      refine JL.go trivial (RX.movev (v := Value.int _ _) rfl) ?_
      refine JL.go trivial (RX.nilCheck rfl) ?_
      refine JL.does trivial ((show Does _ _ _ _ (fun _ w2 => Hp w0 w2 ([(b, cel [.slice p bs.length c, .int .i64 (a + k : Nat)] 87)] :: [(hb, cel (ptrs5 b4 b5) 50)] :: [(b5, cel [.int .i64 ((acc ++ [(x : Int)]).getD 4 0)] 3)] :: [(b4, cel (prgV (hdP (acc ++ [(x : Int)]) []) none 0 0) 33)] :: [(b1, cel (prgV prg0 none 0 0) 33)] :: F)) from by
        rcases Nat.lt_or_ge i 4 with h4 | h4
        · exact EX.store (b := b4) (o := i) (v := Value.int _ _) H (by show Value.pointer (some (pa5 b4 b5 i)) = _; simp [pa5, h4]) rfl (i := 3) rfl rfl (by simp [prgV]; omega) sz3 (hdP_set hacl h4) (by rw [(getD4_small (x := (x : Int)) (show acc.length < 4 by omega)).1, (getD4_small (x := (x : Int)) (show acc.length < 4 by omega)).2]; rfl)
        · exact EX.store (b := b5) (o := 0) (v := Value.int _ _) H (by show Value.pointer (some (pa5 b4 b5 i)) = _; simp [pa5, show ¬ i < 4 by omega]) rfl (i := 2) rfl rfl (by simp) sz3 rfl (by rw [(getD4_big (ss := []) (x := (x : Int)) (show acc.length = 4 by omega)).1, (getD4_big (ss := []) (x := (x : Int)) (show acc.length = 4 by omega)).2]; rfl))) ?_
      rintro _ w H
      refine JL.nil ?_
      refine J.inBlock ?_
      refine J.region ?_
      refine JL.go trivial (RX.add rfl rfl (w_i64 rfl (by omega) (by omega))) ?_
      refine JL.go trivial (RX.movev (v := Value.int _ _) rfl) ?_
      refine JL.nil ?_
      exact IH (i + 1, a + k, acc ++ [(x : Int)]) _ _ (by simp only; omega) ⟨rfl, rfl, rfl, rfl, rfl, rfl, trivial⟩ ⟨rfl, trivial⟩ ⟨by simp only; omega, by simp [hacl], by simp only; omega, fun y hy => (by rcases List.mem_append.1 hy with h | h; exact hab y h; rw [List.mem_singleton.1 h]; omega), by simp only; rw [hac, List.drop_drop, show 5 - (i + 1) = i1 by omega], H⟩
  · skip
    refine J.exit rfl ?_
    refine J.seq ?_
    refine J.seq ?_
    refine J.region ?_
    have hi5 : i = 5 := by omega
    subst hi5
    change _ = some (acc, bs.drop a) at hac
    have hn0 : 0 ≤ acc.getD 4 0 ∧ acc.getD 4 0 ≤ 262144 := hab _ (List.mem_of_getElem? (i := 4) (by rw [List.getD_eq_getElem?_getD, List.getElem?_eq_getElem (by omega)]; rfl))
    have hnn : ((acc.getD 4 0).toNat : Int) = acc.getD 4 0 := by omega
    refine JL.go trivial (by first | exact RX.load H rfl (i := 0) rfl rfl one3 | exact RX.load H rfl (i := 1) rfl rfl one3 | exact RX.load H rfl (i := 2) rfl rfl one3 | exact RX.load H rfl (i := 3) rfl rfl one3 | exact RX.load H rfl (i := 4) rfl rfl one3 | exact RX.load H rfl (i := 5) rfl rfl one3 | exact RX.load H rfl (i := 6) rfl rfl one3) ?_
    refine JL.go trivial (RX.gt rfl rfl) ?_
    refine JL.nil ?_
    refine J.cond_d rfl (fun hbig => ?_) (fun hbig => ?_)
    · skip
      refine J.seq ?_
      refine J.region ?_
      refine JL.go trivial (RX.build (pv := []) (res := prgV prg0 none 0 0) rfl (by kernel_rfl)) ?_
      refine JL.does trivial (EX.storeAgg H rfl rfl (i := 4) rfl prgV_cell (by simp [prgV]) sz33 rfl rfl) ?_
      rintro _ w H
      refine JL.go trivial (RX.assign) ?_
      refine JL.nil ?_
      first | refine J.retct (x := Value.int _ _) Tryd.func20 rfl H rfl (i := 0) rfl rfl ag33 rfl ?_ | refine J.retct (x := Value.int _ _) Tryd.func20 rfl H rfl (i := 1) rfl rfl ag33 rfl ?_ | refine J.retct (x := Value.int _ _) Tryd.func20 rfl H rfl (i := 2) rfl rfl ag33 rfl ?_ | refine J.retct (x := Value.int _ _) Tryd.func20 rfl H rfl (i := 3) rfl rfl ag33 rfl ?_ | refine J.retct (x := Value.int _ _) Tryd.func20 rfl H rfl (i := 4) rfl rfl ag33 rfl ?_ | refine J.retct (x := Value.int _ _) Tryd.func20 rfl H rfl (i := 5) rfl rfl ag33 rfl ?_ | refine J.retct (x := Value.int _ _) Tryd.func20 rfl H rfl (i := 6) rfl rfl ag33 rfl ?_
      have hpn : progS bs = none := progS_none (by rw [← hd0]; exact decS_five_big hac hbig)
      rw [hpn]
      exact ⟨_, rfl, prg0, none, 0, [], rfl, OwnSl.nil, fun s h => (by simp [prg0] at h), rfl, H.drop.drop.drop.drop.drop.nil⟩
    · skip
      refine J.skip ?_
      refine J.seq ?_
      refine J.seq ?_
      have hdd := decS_five hac (by omega)
      rw [hd0] at hdd
      refine J.region ?_
      refine JL.go trivial (RX.assign) ?_
      refine JL.nil ?_
      refine J.block ?_
      refine J.loop (ι := Nat × Nat × List Stp × Option Addr × Nat × Seg) (S := fun q => [(11, .int .i64 (q.1 : Nat))]) (Φ := fun q w => q.1 ≤ (acc.getD 4 0).toNat ∧ q.2.2.1.length = q.1 ∧ q.2.1 ≤ bs.length ∧ stepsA [] (acc.getD 4 0).toNat (bs.drop a) = stepsA q.2.2.1 ((acc.getD 4 0).toNat - q.1) (bs.drop q.2.1) ∧ OwnSl 25 7 q.2.2.2.1 q.1 q.2.2.2.2.1 (stepsV q.2.2.1) q.2.2.2.2.2 ∧ (∀ s ∈ q.2.2.1, formB s = true) ∧ Hp w0 w ([(b, cel [.slice p bs.length c, .int .i64 (q.2.1 : Nat)] 87)] :: [(hb, cel (ptrs5 b4 b5) 50)] :: [(b5, cel [.int .i64 (acc.getD 4 0)] 3)] :: [(b4, cel (prgV (hdP acc q.2.2.1) q.2.2.2.1 q.1 q.2.2.2.2.1) 33)] :: [(b1, cel (prgV prg0 none 0 0) 33)] :: q.2.2.2.2.2 :: F)) (μ := fun q => (acc.getD 4 0).toNat - q.1) (C := [(2, _), (4, _), (5, _), (6, _)]) (0, a, [], none, 0, []) ⟨rfl, rfl, rfl, rfl, trivial⟩ ⟨rfl, trivial⟩ ?_ ?_
      · exact ⟨by omega, rfl, ha, rfl, OwnSl.nil, fun s h => (by simp at h), (((((H.nil.pull 5 rfl).pull 5 rfl).pull 5 rfl).pull 5 rfl).pull 5 rfl)⟩
      clear H
      rintro ⟨k, a3, ss, pp, pc, ps⟩ ρ w ⟨hk, hsl, ha3, hss, hop, hfs, H⟩ IH
      simp only at hk hsl ha3 hss hop hfs H
      dsimp only
      refine J.seq ?_
      refine J.seq ?_
      refine J.region ?_
      refine JL.go trivial (RX.movev (v := Value.int _ _) rfl) ?_
      refine JL.go trivial (RX.load H rfl (i := 2) rfl rfl one3) ?_
      refine JL.go trivial (RX.lt rfl rfl) ?_
      refine JL.nil ?_
      refine J.cond_d rfl (fun hlt => ?_) (fun hlt => ?_)
      · skip
        obtain ⟨d, hd⟩ : ∃ d, (acc.getD 4 0).toNat - k = d + 1 := ⟨(acc.getD 4 0).toNat - k - 1, by omega⟩
        rw [hd] at hss
        refine J.skip ?_
        refine J.seq ?_
        refine J.block ?_
        refine J.seq ?_
        refine J.region ?_
        refine JL.go trivial (RX.movev (v := Value.pointer _) rfl) ?_
        refine JL.does trivial (EX.call rfl cl45 rfl ((rstep_b H hs.cons.cons.cons.cons.cons ha3 hl))) ?_
        rintro _ w ⟨st, a4, ok, rfl, ha4, H, hok, hno⟩
        refine JL.go trivial (RX.movev (v := Value.tuple _) rfl) ?_
        refine JL.go trivial (RX.extract rfl rfl) ?_
        refine JL.go trivial (RX.extract rfl rfl) ?_
        refine JL.does trivial (EX.alloc H zr25 rfl) ?_
        rintro _ w ⟨sb, rfl, H⟩
        refine JL.does trivial (EX.storeAgg H rfl rfl (i := 0) (vs := st.v) rfl (stp_cell _) (by simp [Stp.v]) sz25 rfl rfl) ?_
        rintro _ w H
        refine JL.go trivial (RX.assignv (v := Value.bool _) rfl) ?_
        refine JL.nil ?_
        refine J.seq ?_
        refine J.seq ?_
        refine J.region ?_
        refine JL.go trivial (RX.movev (v := Value.bool _) rfl) ?_
        refine JL.go trivial (RX.not rfl) ?_
        refine JL.nil ?_
        refine J.cond rfl (fun hnk => ?_) (fun hnk => ?_)
        · skip
          refine J.seq ?_
          refine J.region ?_
          refine JL.go trivial (RX.build (pv := []) (res := prgV prg0 none 0 0) rfl (by kernel_rfl)) ?_
          refine JL.does trivial (EX.storeAgg H rfl rfl (i := 5) rfl prgV_cell (by simp [prgV]) sz33 rfl rfl) ?_
          rintro _ w H
          refine JL.go trivial (RX.assign) ?_
          refine JL.nil ?_
          first | refine J.retct (x := Value.int _ _) Tryd.func20 rfl H rfl (i := 0) rfl rfl ag33 rfl ?_ | refine J.retct (x := Value.int _ _) Tryd.func20 rfl H rfl (i := 1) rfl rfl ag33 rfl ?_ | refine J.retct (x := Value.int _ _) Tryd.func20 rfl H rfl (i := 2) rfl rfl ag33 rfl ?_ | refine J.retct (x := Value.int _ _) Tryd.func20 rfl H rfl (i := 3) rfl rfl ag33 rfl ?_ | refine J.retct (x := Value.int _ _) Tryd.func20 rfl H rfl (i := 4) rfl rfl ag33 rfl ?_ | refine J.retct (x := Value.int _ _) Tryd.func20 rfl H rfl (i := 5) rfl rfl ag33 rfl ?_ | refine J.retct (x := Value.int _ _) Tryd.func20 rfl H rfl (i := 6) rfl rfl ag33 rfl ?_
          rw [stepsA_none (hno (by simpa using hnk))] at hss
          rw [hss] at hdd
          have hpn : progS bs = none := progS_none (by rw [← hd0]; exact (by rw [hd0]; exact hdd))
          rw [hpn]
          exact ⟨_, rfl, prg0, none, 0, [], rfl, OwnSl.nil, fun s h => (by simp [prg0] at h), rfl, H.drop.drop.drop.drop.drop.drop.drop.nil⟩
        · skip
          refine J.skip ?_
          refine J.region ?_
          obtain ⟨hstep, hft⟩ := hok (by simpa using hnk)
          have hss2 := hss
          rw [stepsA_some hstep] at hss2
          refine JL.go trivial (RX.fieldAddr rfl fo33_4 rfl) ?_
          refine JL.go trivial (RX.load H rfl (i := 4) rfl rfl one22) ?_
          refine JL.go trivial (RX.loadAgg H rfl (i := 0) (vs := st.v) rfl rfl ag25) ?_
          refine JL.does trivial (EX.buildSlice (pv := [(0, .agg st.v.toArray)]) (l := st.v) (e := 25) H rfl (by kernel_rfl)) ?_
          rintro _ w ⟨bb, rfl, H⟩
          refine JL.does trivial (EX.append (ys := st.v) (L' := fun s' => [(bb, cel st.v 25)] :: [(sb, cel st.v 25)] :: [(b, cel [.slice p bs.length c, .int .i64 (a4 : Nat)] 87)] :: [(hb, cel (ptrs5 b4 b5) 50)] :: [(b5, cel [.int .i64 (acc.getD 4 0)] 3)] :: [(b4, cel (prgV (hdP acc ss) pp k pc) 33)] :: [(b1, cel (prgV prg0 none 0 0) 33)] :: s' :: F) H elS rfl rfl (i := 7) rfl hop (SlAt.here rfl) rfl (stp_cell _) (by decide) (by omega) (by omega) (fun _ => rfl)) ?_
          rintro _ w ⟨pp2, pc2, ps2, rfl, hop2, H⟩
          refine JL.go trivial (RX.fieldAddr rfl fo33_4 rfl) ?_
          refine JL.does trivial (EX.store (v := Value.slice _ _ _) H rfl rfl (i := 5) rfl rfl (by simp [prgV]) sz22 rfl rfl) ?_
          rintro _ w H
          refine JL.nil ?_
          refine J.inBlock ?_
          refine J.region ?_
          refine JL.go trivial (RX.movev (v := Value.int _ _) rfl) ?_
          refine JL.go trivial (RX.add rfl rfl (w_i64 rfl (by omega) (by omega))) ?_
          refine JL.go trivial (RX.assignv (v := Value.int _ _) rfl) ?_
          refine JL.nil ?_
          exact IH (k + 1, a4, ss ++ [st], pp2, pc2, ps2) _ _ (by simp only; omega) ⟨rfl, rfl, rfl, rfl, trivial⟩ ⟨rfl, trivial⟩ ⟨by simp only; omega, by simp [hsl], ha4, by simp only; rw [hss2, show (acc.getD 4 0).toNat - (k + 1) = d by omega], by simp only [stepsV_app]; simpa [stepsV] using hop2, fun t ht => (by rcases List.mem_append.1 ht with h | h; exact hfs t h; rw [List.mem_singleton.1 h]; exact hft), H.drop.drop⟩
      · skip
        refine J.exit rfl ?_
        refine J.seq ?_
        refine J.region ?_
        have hkx : k = (acc.getD 4 0).toNat := by omega
        subst hkx
        rw [Nat.sub_self] at hss
        change _ = some (ss, bs.drop a3) at hss
        rw [hss] at hdd
        simp only at hdd
        refine JL.go trivial (RX.movev (v := Value.pointer _) rfl) ?_
        refine JL.does trivial (EX.call rfl cl46 rfl ((ref_Done H hs.cons.cons.cons.cons.cons ha3 hl))) ?_
        rintro _ w ⟨rfl, H⟩
        refine JL.go trivial (RX.assignv (v := Value.int _ _) rfl) ?_
        refine JL.nil ?_
        refine J.seq ?_
        refine J.seq ?_
        refine J.region ?_
        refine JL.go trivial (RX.movev (v := Value.int _ _) rfl) ?_
        refine JL.go trivial (RX.ne rfl rfl) ?_
        refine JL.nil ?_
        refine J.cond_d rfl (fun hd => ?_) (fun hd => ?_)
        · skip
          refine J.seq ?_
          refine J.region ?_
          refine JL.go trivial (RX.build (pv := []) (res := prgV prg0 none 0 0) rfl (by kernel_rfl)) ?_
          refine JL.does trivial (EX.storeAgg H rfl rfl (i := 4) rfl prgV_cell (by simp [prgV]) sz33 rfl rfl) ?_
          rintro _ w H
          refine JL.go trivial (RX.assign) ?_
          refine JL.nil ?_
          first | refine J.retct (x := Value.int _ _) Tryd.func20 rfl H rfl (i := 0) rfl rfl ag33 rfl ?_ | refine J.retct (x := Value.int _ _) Tryd.func20 rfl H rfl (i := 1) rfl rfl ag33 rfl ?_ | refine J.retct (x := Value.int _ _) Tryd.func20 rfl H rfl (i := 2) rfl rfl ag33 rfl ?_ | refine J.retct (x := Value.int _ _) Tryd.func20 rfl H rfl (i := 3) rfl rfl ag33 rfl ?_ | refine J.retct (x := Value.int _ _) Tryd.func20 rfl H rfl (i := 4) rfl rfl ag33 rfl ?_ | refine J.retct (x := Value.int _ _) Tryd.func20 rfl H rfl (i := 5) rfl rfl ag33 rfl ?_ | refine J.retct (x := Value.int _ _) Tryd.func20 rfl H rfl (i := 6) rfl rfl ag33 rfl ?_
          have hlt : a3 < bs.length := by
            by_cases h : a3 < bs.length
            · exact h
            · rw [if_neg h] at hd; omega
          rw [progS_tail hdd hlt]
          exact ⟨_, rfl, prg0, none, 0, [], rfl, OwnSl.nil, fun s h => (by simp [prg0] at h), rfl, H.drop.drop.drop.drop.drop.drop.nil⟩
        · skip
          refine J.skip ?_
          refine J.seq ?_
          refine J.region ?_
          refine JL.go trivial (RX.loadAgg H rfl (i := 3) (vs := prgV (hdP acc ss) pp (acc.getD 4 0).toNat pc) rfl rfl ag33) ?_
          refine JL.does trivial (EX.storeAgg H rfl rfl (i := 4) rfl prgV_cell (by simp [prgV]) sz33 rfl rfl) ?_
          rintro _ w H
          refine JL.go trivial (RX.assign) ?_
          refine JL.nil ?_
          first | refine J.retct (x := Value.int _ _) Tryd.func20 rfl H rfl (i := 0) rfl rfl ag33 rfl ?_ | refine J.retct (x := Value.int _ _) Tryd.func20 rfl H rfl (i := 1) rfl rfl ag33 rfl ?_ | refine J.retct (x := Value.int _ _) Tryd.func20 rfl H rfl (i := 2) rfl rfl ag33 rfl ?_ | refine J.retct (x := Value.int _ _) Tryd.func20 rfl H rfl (i := 3) rfl rfl ag33 rfl ?_ | refine J.retct (x := Value.int _ _) Tryd.func20 rfl H rfl (i := 4) rfl rfl ag33 rfl ?_ | refine J.retct (x := Value.int _ _) Tryd.func20 rfl H rfl (i := 5) rfl rfl ag33 rfl ?_ | refine J.retct (x := Value.int _ _) Tryd.func20 rfl H rfl (i := 6) rfl rfl ag33 rfl ?_
          have hge : ¬ a3 < bs.length := by
            intro h; rw [if_pos h] at hd; omega
          rw [progS_some hdd hge]
          rw [← hsl] at hop
          exact ⟨_, rfl, hdP acc ss, pp, pc, ps, (by rw [← hsl]; rfl), hop, hfs, rfl, H.drop.drop.drop.drop.drop⟩
end Go.Proofs.YtnbbeghaeijcbaaDoor

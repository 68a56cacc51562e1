/- The laws of chapter 15: Encode, Decode. -/
import Derived.Test.YtnbbeghaeijcbaaDoorLw2
namespace Go.Proofs.YtnbbeghaeijcbaaDoor
open Go Go.Eng
set_option maxRecDepth 100000
set_option linter.unusedVariables false
set_option linter.unusedSimpArgs false

theorem mine_sl {p : Prg} {fp : Option Addr} {fc : Nat} {fs : Seg} (h : OwnSl 25 7 fp (p.steps.length + 1) fc (stepsV (p.steps ++ [stpM (-77)])) fs) (L : List Seg) : SlAt (fs :: L) fp (stepsV p.steps) := by
  have := h.slAt (L := L)
  rw [stepsV_app] at this
  exact this.pre
theorem full_last {l : List Stp} : (stepsV (l ++ [stpM (-77)]))[l.length * 7]? = some (.int .i64 (-77)) := by
  have h := stepsV_read (l ++ [stpM (-77)]) l.length (stpM (-77)) (by simp)
  exact (readN_get (i := 0) h (by decide)).trans rfl
theorem u90 : (90 : Int) = (90 : UInt8).toNat := rfl
theorem stepsV_put : ∀ (l : List Stp) (i : Nat) (s : Stp), i < l.length → setN (stepsV l) (i * 7) s.v = stepsV (l.set i s) := by
  have hsh : ∀ (vs a b : List Value) (o : Nat), setN (a ++ b) (a.length + o) vs = a ++ setN b o vs := by
    intro vs
    induction vs with
    | nil => intro a b o; rfl
    | cons v vs ih =>
      intro a b o
      unfold setN
      rw [List.set_append_right _ _ (by omega), Nat.add_sub_cancel_left, Nat.add_assoc, ih]
  intro l
  induction l with
  | nil => intro i s h; simp at h
  | cons a l ih =>
    intro i s h
    cases i with
    | zero =>
      rw [stepsV_cons, List.set_cons_zero, stepsV_cons]
      rfl
    | succ i =>
      have h7 : a.v.length = 7 := rfl
      rw [stepsV_cons, List.set_cons_succ, stepsV_cons, show (i + 1) * 7 = a.v.length + i * 7 by rw [h7]; omega, hsh, ih i s (by simpa using h)]

theorem StepsEncodes_b {w0 w : World} {F : List Seg} {E : Nat → Value} {Q : Nat → Addr} (H : Hp w0 w F) (hE : Errs F E Q) (hT : SlAt F (some ⟨1, 0, none⟩) tableC) {p : Prg} {pp : Option Addr} {pc : Nat} (hst : SlAt F pp (stepsV p.steps)) (hp : p.Ok) : Ret Tryd.prog 4 [.agg (prgV p pp p.steps.length pc).toArray] w fun v w' => v = .bool true ∧ Hp w0 w' F := by
  refine Calls.of_J (n := 104) Tryd.func4 rfl rfl rfl ?_
  refine J.seq ?_
  refine J.region ?_
  refine JL.does trivial (EX.box (v := Value.agg _) H rfl rfl) ?_
  rintro _ w ⟨b1, rfl, H⟩
  refine JL.go trivial (RX.assign) ?_
  refine JL.nil ?_
  refine J.seq ?_
  refine J.seq ?_
  have hnum := hp.num
  refine J.region ?_
  refine JL.does trivial (EX.call rfl cl10 rfl ((lives_b H hE.five.cons hT.cons))) ?_
  rintro _ w ⟨rfl, H⟩
  refine JL.go trivial (RX.not rfl) ?_
  refine JL.nil ?_
  refine J.cond_f rfl rfl ?_
  refine J.skip ?_
  refine J.seq ?_
  refine J.region ?_
  refine JL.go trivial (RX.loadAgg H rfl (i := 0) (vs := prgV p pp p.steps.length pc) rfl rfl ag33) ?_
  refine JL.does trivial (EX.call rfl cl15 rfl ((copied_b H hst.cons hp.num))) ?_
  rintro _ w ⟨fp, fc, fs, rfl, hof, H⟩
  have hm := mine_sl hof
  refine JL.go trivial (RX.movev (v := Value.tuple _) rfl) ?_
  refine JL.go trivial (RX.extract rfl rfl) ?_
  refine JL.go trivial (RX.extract rfl rfl) ?_
  refine JL.does trivial (EX.alloc H zr33 rfl) ?_
  rintro _ w ⟨b2, rfl, H⟩
  refine JL.does trivial (EX.storeAgg H rfl rfl (i := 0) (l' := prgV p fp p.steps.length fc) rfl prgV_cell (by simp [prgV]) sz33 rfl rfl) ?_
  rintro _ w H
  refine JL.go trivial (RX.assignv (v := Value.slice _ _ _) rfl) ?_
  refine JL.nil ?_
  refine J.seq ?_
  refine J.region ?_
  refine JL.go trivial (RX.loadAgg H rfl (i := 0) (vs := prgV p fp p.steps.length fc) rfl rfl ag33) ?_
  refine JL.does trivial (EX.call rfl cl16 rfl ((Encode_e H hE.five.cons.cons.cons hT.cons.cons.cons (hm _).cons hp))) ?_
  rintro _ w ⟨q1, c1, s1, rfl, ho1, H⟩
  refine JL.go trivial (RX.movev (v := Value.tuple _) rfl) ?_
  refine JL.go trivial (RX.extract rfl rfl) ?_
  refine JL.go trivial (RX.extract rfl rfl) ?_
  refine JL.go trivial (RX.assignv (v := Value.slice _ _ _) rfl) ?_
  refine JL.go trivial (RX.assign) ?_
  refine JL.nil ?_
  refine J.seq ?_
  refine J.region ?_
  refine JL.go trivial (RX.loadAgg H rfl (i := 1) (vs := prgV p fp p.steps.length fc) rfl rfl ag33) ?_
  refine JL.does trivial (EX.call rfl cl16 rfl ((Encode_e H hE.five.cons.cons.cons.cons hT.cons.cons.cons.cons (hm _).cons.cons hp))) ?_
  rintro _ w ⟨q2, c2, s2, rfl, ho2, H⟩
  refine JL.go trivial (RX.movev (v := Value.tuple _) rfl) ?_
  refine JL.go trivial (RX.extract rfl rfl) ?_
  refine JL.go trivial (RX.extract rfl rfl) ?_
  refine JL.go trivial (RX.assignv (v := Value.slice _ _ _) rfl) ?_
  refine JL.go trivial (RX.assign) ?_
  refine JL.nil ?_
  refine J.seq ?_
  refine J.region ?_
  refine JL.go trivial (RX.loadAgg H rfl (i := 4) (vs := prgV p pp p.steps.length pc) rfl rfl ag33) ?_
  refine JL.does trivial (EX.call rfl cl17 rfl ((rEncode_b H hst.cons.cons.cons.cons.cons hp))) ?_
  rintro _ w ⟨q3, c3, s3, rfl, ho3, H⟩
  refine JL.go trivial (RX.movev (v := Value.tuple _) rfl) ?_
  refine JL.go trivial (RX.extract rfl rfl) ?_
  refine JL.go trivial (RX.extract rfl rfl) ?_
  refine JL.go trivial (RX.assignv (v := Value.slice _ _ _) rfl) ?_
  refine JL.go trivial (RX.assignv (v := Value.int _ _) rfl) ?_
  refine JL.nil ?_
  refine J.seq ?_
  refine J.seq ?_
  refine J.region ?_
  refine JL.go trivial (RX.move) ?_
  refine JL.does trivial (EX.call rfl cl12 rfl ((Num_b H hE.cons.cons.cons.cons.cons.cons (by split <;> omega)))) ?_
  rintro _ w ⟨rfl, H⟩
  refine JL.go trivial (RX.movev (v := Value.int _ _) rfl) ?_
  refine JL.go trivial (RX.ne rfl rfl) ?_
  refine JL.go trivial (RX.movev (v := Value.bool _) rfl) ?_
  refine JL.go ⟨_, rfl, (decide_eq_false (by cases encOk p <;> simp))⟩ (RX.move) ?_
  refine JL.does ⟨_, rfl, (decide_eq_false (by cases encOk p <;> simp))⟩ (EX.call rfl cl12 rfl ((Num_b H hE.cons.cons.cons.cons.cons.cons (by split <;> omega)))) ?_
  rintro _ w ⟨rfl, H⟩
  refine JL.go ⟨_, rfl, (decide_eq_false (by cases encOk p <;> simp))⟩ (RX.movev (v := Value.int _ _) rfl) ?_
  refine JL.go ⟨_, rfl, (decide_eq_false (by cases encOk p <;> simp))⟩ (RX.ne rfl rfl) ?_
  refine JL.go trivial (RX.pick_f rfl (decide_eq_false (by cases encOk p <;> simp))) ?_
  refine JL.go trivial (RX.movev (v := Value.bool _) rfl) ?_
  refine JL.go ⟨_, rfl, (decide_eq_false (by cases encOk p <;> simp))⟩ (RX.movev (v := Value.slice _ _ _) rfl) ?_
  refine JL.go ⟨_, rfl, (decide_eq_false (by cases encOk p <;> simp))⟩ (RX.b2s (l := encO p) H rfl ho1.slAt.cons.cons sl36 ud5 ud9) ?_
  refine JL.go ⟨_, rfl, (decide_eq_false (by cases encOk p <;> simp))⟩ (RX.movev (v := Value.slice _ _ _) rfl) ?_
  refine JL.go ⟨_, rfl, (decide_eq_false (by cases encOk p <;> simp))⟩ (RX.b2s (l := encO p) H rfl ho3.slAt sl36 ud5 ud9) ?_
  refine JL.go ⟨_, rfl, (decide_eq_false (by cases encOk p <;> simp))⟩ (RX.str_neq rfl rfl) ?_
  refine JL.go trivial (RX.pick_f rfl (decide_eq_false (by cases encOk p <;> simp))) ?_
  refine JL.go trivial (RX.movev (v := Value.bool _) rfl) ?_
  refine JL.go ⟨_, rfl, (decide_eq_false (fun h => h rfl))⟩ (RX.movev (v := Value.slice _ _ _) rfl) ?_
  refine JL.go ⟨_, rfl, (decide_eq_false (fun h => h rfl))⟩ (RX.b2s (l := encO p) H rfl ho2.slAt.cons sl36 ud5 ud9) ?_
  refine JL.go ⟨_, rfl, (decide_eq_false (fun h => h rfl))⟩ (RX.movev (v := Value.slice _ _ _) rfl) ?_
  refine JL.go ⟨_, rfl, (decide_eq_false (fun h => h rfl))⟩ (RX.b2s (l := encO p) H rfl ho3.slAt sl36 ud5 ud9) ?_
  refine JL.go ⟨_, rfl, (decide_eq_false (fun h => h rfl))⟩ (RX.str_neq rfl rfl) ?_
  refine JL.go trivial (RX.pick_f rfl (decide_eq_false (fun h => h rfl))) ?_
  refine JL.nil ?_
  refine J.cond_f rfl (decide_eq_false (fun h => h rfl)) ?_
  refine J.skip ?_
  refine J.seq ?_
  refine J.seq ?_
  have hel : (encO p).length ≤ 1099511627776 := by
    unfold encO
    split
    · rename_i hy
      obtain ⟨hl6, hhd, hfs⟩ := encOk_facts hy
      have h1 := vints_len (l := p.heads) (fun x hx => (hhd x hx).2)
      have h2 := varint_len10 (x := p.steps.length) (by omega)
      have h3 := encStps_len hfs
      have h4 : p.heads.length = 4 := rfl
      unfold encV
      simp only [List.length_append]
      omega
    · simp
  refine J.region ?_
  refine JL.go trivial (RX.movev (v := Value.slice _ _ _) rfl) ?_
  refine JL.go trivial (RX.len_slice rfl (by rw [sl36]; rfl) rfl) ?_
  refine JL.go trivial (RX.move) ?_
  refine JL.nil ?_
  refine J.block ?_
  refine J.loop (ι := Nat × List UInt8 × Seg) (S := fun q => [(61, .int .i64 (q.1 : Nat))]) (Φ := fun q w => q.1 ≤ (encO p).length ∧ q.2.1.length = (encO p).length ∧ OwnSl 5 1 q1 (encO p).length c1 (bv q.2.1) q.2.2 ∧ Hp w0 w (s3 :: s2 :: q.2.2 :: [(b2, cel (prgV p fp p.steps.length fc) 33)] :: fs :: [(b1, cel (prgV p pp p.steps.length pc) 33)] :: F)) (μ := fun q => (encO p).length - q.1) (C := [(1, _), (3, _), (4, _), (5, _), (7, _), (9, _), (60, _)]) (0, encO p, s1) ⟨rfl, rfl, rfl, rfl, rfl, rfl, rfl, trivial⟩ ⟨rfl, trivial⟩ ?_ ?_
  · exact ⟨by omega, rfl, ho1, H⟩
  clear H ho1
  rintro ⟨i, ys, s1⟩ ρ w ⟨hi, hyl, ho1, H⟩ IH
  simp only at hi hyl ho1 H
  dsimp only
  refine J.seq ?_
  refine J.region ?_
  refine JL.go trivial (RX.lt rfl rfl) ?_
  refine JL.nil ?_
  refine J.seq ?_
  refine J.cond_d rfl (fun hlt => ?_) (fun hlt => ?_)
  · skip
    obtain ⟨gb, l, rfl, rfl, hll⟩ := ho1.ptr (by omega)
    obtain ⟨bb, hbb⟩ : ∃ bb, ys[i]? = some bb := ⟨_, List.getElem?_eq_getElem (by omega)⟩
    have hllen : i < l.length := by have := hll.2.1; have := hll.1; omega
    refine J.skip ?_
    refine J.seq ?_
    refine J.block ?_
    refine J.seq ?_
    refine J.region ?_
    refine JL.go trivial (RX.movev (v := Value.int _ _) rfl) ?_
    refine JL.go trivial (RX.assignv (v := Value.int _ _) rfl) ?_
    refine JL.nil ?_
    refine J.region ?_
    refine JL.go trivial (RX.movev (v := Value.slice _ _ _) rfl) ?_
    refine JL.go trivial (RX.movev (v := Value.int _ _) rfl) ?_
    refine JL.go trivial (RX.indexAddr rfl rfl sl36 (by omega) (by omega) rfl) ?_
    refine JL.go trivial (RX.loadS H (SlAt.cons (SlAt.cons (SlAt.here hll.2.2))) rfl (j := i) (by omega) (bv_get hbb) one5) ?_
    refine JL.go trivial (RX.xor rfl rfl (xor8 bb 90)) ?_
    refine JL.go trivial (RX.indexAddr rfl rfl sl36 (by omega) (by omega) rfl) ?_
    refine JL.does trivial (EX.store (v := Value.int _ _) H rfl rfl (i := 2) rfl rfl (by omega) sz5 rfl rfl) ?_
    rintro _ w H
    refine JL.nil ?_
    refine J.inBlock ?_
    refine J.region ?_
    refine JL.go trivial (RX.add rfl rfl (w_i64 rfl (by omega) (by omega))) ?_
    refine JL.go trivial (RX.movev (v := Value.int _ _) rfl) ?_
    refine JL.nil ?_
    exact IH (i + 1, ys.set i (bb ^^^ 90), _) _ _ (by simp only; omega) ⟨rfl, rfl, rfl, rfl, rfl, rfl, rfl, trivial⟩ ⟨rfl, trivial⟩ ⟨by simp only; omega, by simp [hyl], by rw [← bv_set]; exact ho1.set, by simpa using H⟩
  · skip
    refine J.exit rfl ?_
    refine J.seq ?_
    refine J.region ?_
    refine JL.go trivial (RX.movev (v := Value.slice _ _ _) rfl) ?_
    refine JL.does trivial (EX.buildSlice1 (v := Value.int _ _) H elB rfl rfl) ?_
    rintro _ w ⟨b3, rfl, H⟩
    refine JL.does trivial (EX.append (ys := [.int .u8 3]) (L' := fun s' => [(b3, cel [.int .u8 3] 5)] :: s3 :: s2 :: s' :: [(b2, cel (prgV p fp p.steps.length fc) 33)] :: fs :: [(b1, cel (prgV p pp p.steps.length pc) 33)] :: F) H elB rfl rfl (i := 3) rfl ho1 (SlAt.here rfl) rfl (by simp [isCell]) (by decide) (by omega) (by omega) (fun _ => rfl)) ?_
    rintro _ w ⟨q4, c4, s4, rfl, ho4, H⟩
    obtain ⟨g4, l4, rfl, rfl, hl4⟩ := ho4.ptr (by omega)
    refine JL.go trivial (RX.assignv (v := Value.slice _ _ _) rfl) ?_
    refine JL.nil ?_
    refine J.seq ?_
    refine J.region ?_
    refine JL.go trivial (RX.fieldAddr rfl fo33_4 rfl) ?_
    refine JL.go trivial (by first | exact RX.load H rfl (i := 0) rfl rfl one22 | exact RX.load H rfl (i := 1) rfl rfl one22 | exact RX.load H rfl (i := 2) rfl rfl one22 | exact RX.load H rfl (i := 3) rfl rfl one22 | exact RX.load H rfl (i := 4) rfl rfl one22 | exact RX.load H rfl (i := 5) rfl rfl one22 | exact RX.load H rfl (i := 6) rfl rfl one22) ?_
    refine JL.go trivial (RX.len_slice rfl (by rw [sl22]; rfl) rfl) ?_
    refine JL.go trivial (RX.assignv (v := Value.int _ _) rfl) ?_
    refine JL.nil ?_
    refine J.seq ?_
    refine J.region ?_
    refine JL.go trivial (RX.movev (v := Value.slice _ _ _) rfl) ?_
    refine JL.go trivial (RX.b2s (l := encO p) H rfl ho2.slAt.cons.cons sl36 ud5 ud9) ?_
    refine JL.go trivial (RX.movev (v := Value.slice _ _ _) rfl) ?_
    refine JL.go trivial (RX.b2s (l := encO p) H rfl ho3.slAt.cons sl36 ud5 ud9) ?_
    refine JL.go trivial (RX.str_eql rfl rfl) ?_
    refine JL.go trivial (RX.movev (v := Value.bool _) rfl) ?_
    refine JL.go ⟨_, rfl, (decide_eq_true rfl)⟩ (RX.movev (v := Value.slice _ _ _) rfl) ?_
    refine JL.go ⟨_, rfl, (decide_eq_true rfl)⟩ (RX.movev (v := Value.slice _ _ _) rfl) ?_
    refine JL.go ⟨_, rfl, (decide_eq_true rfl)⟩ (RX.len_slice rfl (by rw [sl36]; rfl) rfl) ?_
    refine JL.go ⟨_, rfl, (decide_eq_true rfl)⟩ (RX.sub rfl rfl (w_i64 rfl (by omega) (by omega))) ?_
    refine JL.go ⟨_, rfl, (decide_eq_true rfl)⟩ (RX.indexAddr rfl rfl sl36 (by omega) (by omega) rfl) ?_
    refine JL.go ⟨_, rfl, (decide_eq_true rfl)⟩ (RX.loadS H (SlAt.cons (SlAt.cons (SlAt.cons (SlAt.here hl4.2.2)))) rfl (j := (encO p).length) (by omega) (v := .int .u8 3) (by rw [List.getElem?_append_right (by rw [bv_len, hyl]; omega), bv_len, hyl, Nat.sub_self]; rfl) one5) ?_
    refine JL.go ⟨_, rfl, (decide_eq_true rfl)⟩ (RX.eq rfl rfl) ?_
    refine JL.go trivial (RX.pick_t rfl (decide_eq_true rfl)) ?_
    refine JL.go trivial (RX.movev (v := Value.bool _) rfl) ?_
    refine JL.go ⟨_, rfl, (decide_eq_true rfl)⟩ (RX.loadAgg H rfl (i := 4) (vs := prgV p fp p.steps.length fc) rfl rfl ag33) ?_
    refine JL.go ⟨_, rfl, (decide_eq_true rfl)⟩ (RX.loadAgg H rfl (i := 6) (vs := prgV p pp p.steps.length pc) rfl rfl ag33) ?_
    refine JL.does ⟨_, rfl, (decide_eq_true rfl)⟩ (EX.call rfl cl18 rfl ((rSame_b H ((hm _).cons.cons.cons.cons.cons) hst.cons.cons.cons.cons.cons.cons.cons (num63 hp) (num63 hp)))) ?_
    rintro _ w ⟨rfl, H⟩
    refine JL.go trivial (RX.pick_t rfl (decide_eq_true rfl)) ?_
    refine JL.go trivial (RX.movev (v := Value.bool _) rfl) ?_
    obtain ⟨gf, lf, rfl, rfl, hlf⟩ := hof.ptr (by omega)
    refine JL.go ⟨_, rfl, (decide_eq_true rfl)⟩ (RX.movev (v := Value.slice _ _ _) rfl) ?_
    refine JL.go ⟨_, rfl, (decide_eq_true rfl)⟩ (RX.movev (v := Value.int _ _) rfl) ?_
    refine JL.go ⟨_, rfl, (decide_eq_true rfl)⟩ (RX.indexAddr rfl rfl sl22 (by omega) (by omega) rfl) ?_
    refine JL.go ⟨_, rfl, (decide_eq_true rfl)⟩ (RX.fieldAddr rfl fo25_0 rfl) ?_
    refine JL.go ⟨_, rfl, (decide_eq_true rfl)⟩ (RX.loadS H (SlAt.cons (SlAt.cons (SlAt.cons (SlAt.cons (SlAt.cons (SlAt.here hlf.2.2)))))) rfl (j := p.steps.length * 7) (by omega) full_last one3) ?_
    refine JL.go ⟨_, rfl, (decide_eq_true rfl)⟩ (RX.eq rfl rfl) ?_
    refine JL.go trivial (RX.pick_t rfl (decide_eq_true rfl)) ?_
    refine JL.go trivial (RX.assignv (v := Value.bool _) rfl) ?_
    refine JL.nil ?_
    refine J.ret1 (v := Value.bool _) Tryd.func4 rfl rfl ?_
    exact ⟨_, rfl, rfl, H.drop.drop.drop.drop.drop.drop.drop⟩

theorem stepsA_len : ∀ (n : Nat) (acc : List Stp) (l : List UInt8) (xs : List Stp) (m : List UInt8), stepsA acc n l = some (xs, m) → xs.length = acc.length + n := by
  intro n
  induction n with
  | zero => intro acc l xs m h; cases h; rfl
  | succ n ih =>
    intro acc l xs m h
    simp only [stepsA] at h
    split at h
    · cases h
    · have := ih _ _ _ _ h
      simp only [List.length_append, List.length_cons, List.length_nil] at this; omega
theorem decS_num {l m : List UInt8} {q : Prg} (h : decS l = some (q, m)) : q.steps.length ≤ 65536 := by
  unfold decS at h
  split at h
  · cases h
  · split at h
    · cases h
    · rename_i n l2 hn
      split at h
      · cases h
      · rename_i ss l3 hss
        cases h
        have h1 := stepsA_len _ _ _ _ _ hss
        have h2 := numS_len hn
        show ss.length ≤ 65536
        simp only [List.length_nil] at h1
        omega
theorem progS_num (l : List UInt8) : ((progS l).getD prg0).steps.length ≤ 65536 := by
  unfold progS
  split
  · rename_i q h; exact decS_num h
  · decide
theorem b_app (a b : List UInt8) : (⟨a.toArray⟩ : ByteArray) ++ ⟨b.toArray⟩ = ⟨(a ++ b).toArray⟩ := by
  apply ByteArray.ext
  simp [ByteArray.data_append]
theorem b_size (a : List UInt8) : (⟨a.toArray⟩ : ByteArray).size = a.length := by simp [ByteArray.size]

theorem StepsDecodes_b {w0 w : World} {F : List Seg} {E : Nat → Value} {Q : Nat → Addr} (H : Hp w0 w F) (hE : Errs F E Q) (hT : SlAt F (some ⟨1, 0, none⟩) tableC) {bs : List UInt8} {bp : Option Addr} {bc : Nat} (hs : SlAt F bp (bv bs)) (hl : bs.length ≤ 549755813888) : Ret Tryd.prog 5 [.slice bp bs.length bc] w fun v w' => v = .bool true ∧ Hp w0 w' F := by
  refine Calls.of_J (n := 112) Tryd.func5 rfl rfl rfl ?_
  refine J.seq ?_
  refine J.region ?_
  refine JL.go trivial (RX.assign) ?_
  refine JL.nil ?_
  refine J.seq ?_
  refine J.seq ?_
  have hnum := progS_num bs
  refine J.region ?_
  refine JL.does trivial (EX.call rfl cl10 rfl ((lives_b H hE.five hT))) ?_
  rintro _ w ⟨rfl, H⟩
  refine JL.go trivial (RX.not rfl) ?_
  refine JL.nil ?_
  refine J.cond_f rfl rfl ?_
  refine J.skip ?_
  refine J.seq ?_
  refine J.region ?_
  refine JL.does trivial (EX.buildSlice0 H elB) ?_
  rintro _ w ⟨b0, rfl, H⟩
  refine JL.go trivial (RX.movev (v := Value.slice _ _ _) rfl) ?_
  refine JL.does trivial (EX.append (ys := bv bs) (L' := fun s' => s' :: F) H elB rfl rfl (i := 0) rfl OwnSl.empty hs.cons (by simp [bv_len]) (bv_cell _) (by decide) (by omega) (by omega) (fun _ => rfl)) ?_
  rintro _ w ⟨q0, c0, s0, rfl, ho0, H⟩
  refine JL.does trivial (EX.buildSlice1 (v := Value.int _ _) H elB rfl rfl) ?_
  rintro _ w ⟨bx, rfl, H⟩
  refine JL.does trivial (EX.append (ys := bv [119]) (L' := fun s' => [(bx, cel [.int .u8 119] 5)] :: s' :: F) H elB rfl rfl (i := 1) rfl ho0 (SlAt.here rfl) rfl (bv_cell _) (by decide) (by omega) (by omega) (fun _ => rfl)) ?_
  rintro v w ⟨fq, fc, s1, hv, ho1, H⟩
  rw [show 0 + bs.length + 1 = (bs ++ [119]).length by simp] at hv ho1
  rw [List.nil_append, ← bv_app] at ho1
  subst hv
  replace H := H.drop
  have hfl : (bs ++ [119]).length = bs.length + 1 := by simp
  have hle := ho1.le
  refine JL.go trivial (RX.assignv (v := Value.slice _ _ _) rfl) ?_
  refine JL.nil ?_
  have hm : ∀ L, SlAt (s1 :: L) fq (bv bs) := fun L => (show SlAt (s1 :: L) fq (bv bs ++ bv [119]) by rw [← bv_app]; exact ho1.slAt).pre
  refine J.seq ?_
  refine J.region ?_
  refine JL.go trivial (RX.movev (v := Value.slice _ _ _) rfl) ?_
  refine JL.go trivial (RX.movev (v := Value.slice _ _ _) rfl) ?_
  refine JL.go trivial (RX.len_slice rfl (by rw [sl36]; rfl) rfl) ?_
  refine JL.go trivial (RX.slice_h rfl rfl sl36 ho1.spot (by omega) (by omega) rfl) ?_
  refine JL.go trivial (RX.assignv (v := Value.slice _ _ _) rfl) ?_
  refine JL.nil ?_
  refine J.seq ?_
  refine J.region ?_
  refine JL.go trivial (RX.movev (v := Value.slice _ _ _) rfl) ?_
  refine JL.does trivial (EX.call rfl cl19 rfl ((Decode_e H hE.five.cons hT.cons (hm _) (by omega)))) ?_
  rintro _ w ⟨_, pp1, pc1, ps1, rfl, hop1, hfs1, rfl, H⟩
  refine JL.go trivial (RX.movev (v := Value.tuple _) rfl) ?_
  refine JL.go trivial (RX.extract rfl rfl) ?_
  refine JL.go trivial (RX.extract rfl rfl) ?_
  refine JL.does trivial (EX.alloc H zr33 rfl) ?_
  rintro _ w ⟨b1, rfl, H⟩
  refine JL.does trivial (EX.storeAgg H rfl rfl (i := 0) (l' := prgV ((progS bs).getD prg0) pp1 ((progS bs).getD prg0).steps.length pc1) rfl prgV_cell (by simp [prgV]) sz33 rfl rfl) ?_
  rintro _ w H
  refine JL.go trivial (RX.assign) ?_
  refine JL.nil ?_
  refine J.seq ?_
  refine J.region ?_
  refine JL.go trivial (RX.movev (v := Value.slice _ _ _) rfl) ?_
  refine JL.does trivial (EX.call rfl cl19 rfl ((Decode_e H hE.five.cons.cons.cons hT.cons.cons.cons (hm _).cons.cons (by omega)))) ?_
  rintro _ w ⟨_, pp2, pc2, ps2, rfl, hop2, hfs2, rfl, H⟩
  refine JL.go trivial (RX.movev (v := Value.tuple _) rfl) ?_
  refine JL.go trivial (RX.extract rfl rfl) ?_
  refine JL.go trivial (RX.extract rfl rfl) ?_
  refine JL.does trivial (EX.alloc H zr33 rfl) ?_
  rintro _ w ⟨b2, rfl, H⟩
  refine JL.does trivial (EX.storeAgg H rfl rfl (i := 0) (l' := prgV ((progS bs).getD prg0) pp2 ((progS bs).getD prg0).steps.length pc2) rfl prgV_cell (by simp [prgV]) sz33 rfl rfl) ?_
  rintro _ w H
  refine JL.go trivial (RX.assign) ?_
  refine JL.nil ?_
  refine J.seq ?_
  refine J.region ?_
  refine JL.go trivial (RX.movev (v := Value.slice _ _ _) rfl) ?_
  refine JL.does trivial (EX.call rfl cl20 rfl ((rDecode_b H hs.cons.cons.cons.cons.cons (by omega)))) ?_
  rintro _ w ⟨_, pp3, pc3, ps3, rfl, hop3, hfs3, rfl, H⟩
  refine JL.go trivial (RX.movev (v := Value.tuple _) rfl) ?_
  refine JL.go trivial (RX.extract rfl rfl) ?_
  refine JL.go trivial (RX.extract rfl rfl) ?_
  refine JL.does trivial (EX.alloc H zr33 rfl) ?_
  rintro _ w ⟨b3, rfl, H⟩
  refine JL.does trivial (EX.storeAgg H rfl rfl (i := 0) (l' := prgV ((progS bs).getD prg0) pp3 ((progS bs).getD prg0).steps.length pc3) rfl prgV_cell (by simp [prgV]) sz33 rfl rfl) ?_
  rintro _ w H
  refine JL.go trivial (RX.assignv (v := Value.int _ _) rfl) ?_
  refine JL.nil ?_
  refine J.seq ?_
  refine J.seq ?_
  refine J.region ?_
  refine JL.go trivial (RX.move) ?_
  refine JL.does trivial (EX.call rfl cl12 rfl ((Num_b H hE.cons.cons.cons.cons.cons.cons.cons (by split <;> omega)))) ?_
  rintro _ w ⟨rfl, H⟩
  refine JL.go trivial (RX.movev (v := Value.int _ _) rfl) ?_
  refine JL.go trivial (RX.ne rfl rfl) ?_
  refine JL.go trivial (RX.movev (v := Value.bool _) rfl) ?_
  refine JL.go ⟨_, rfl, (decide_eq_false (by cases (progS bs).isSome <;> simp))⟩ (RX.move) ?_
  refine JL.does ⟨_, rfl, (decide_eq_false (by cases (progS bs).isSome <;> simp))⟩ (EX.call rfl cl12 rfl ((Num_b H hE.cons.cons.cons.cons.cons.cons.cons (by split <;> omega)))) ?_
  rintro _ w ⟨rfl, H⟩
  refine JL.go ⟨_, rfl, (decide_eq_false (by cases (progS bs).isSome <;> simp))⟩ (RX.movev (v := Value.int _ _) rfl) ?_
  refine JL.go ⟨_, rfl, (decide_eq_false (by cases (progS bs).isSome <;> simp))⟩ (RX.ne rfl rfl) ?_
  refine JL.go trivial (RX.pick_f rfl (decide_eq_false (by cases (progS bs).isSome <;> simp))) ?_
  refine JL.go trivial (RX.movev (v := Value.bool _) rfl) ?_
  refine JL.go ⟨_, rfl, (decide_eq_false (by cases (progS bs).isSome <;> simp))⟩ (RX.movev (v := Value.slice _ _ _) rfl) ?_
  refine JL.go ⟨_, rfl, (decide_eq_false (by cases (progS bs).isSome <;> simp))⟩ (RX.b2s (l := bs ++ [119]) H rfl ho1.slAt.cons.cons.cons.cons.cons.cons sl36 ud5 ud9) ?_
  refine JL.go ⟨_, rfl, (decide_eq_false (by cases (progS bs).isSome <;> simp))⟩ (RX.movev (v := Value.slice _ _ _) rfl) ?_
  refine JL.go ⟨_, rfl, (decide_eq_false (by cases (progS bs).isSome <;> simp))⟩ (RX.b2s (l := bs) H rfl hs.cons.cons.cons.cons.cons.cons.cons sl36 ud5 ud9) ?_
  refine JL.go ⟨_, rfl, (decide_eq_false (by cases (progS bs).isSome <;> simp))⟩ (RX.str_add rfl rfl (by rw [b_size]; simp [ByteArray.size]; omega)) ?_
  refine JL.go ⟨_, rfl, (decide_eq_false (by cases (progS bs).isSome <;> simp))⟩ (RX.str_neq rfl rfl) ?_
  refine JL.go trivial (RX.pick_f rfl (decide_eq_false (by cases (progS bs).isSome <;> simp))) ?_
  refine JL.nil ?_
  refine J.cond_f rfl (decide_eq_false (fun h => h (b_app bs [119]).symm)) ?_
  refine J.skip ?_
  refine J.seq ?_
  refine J.seq ?_
  refine J.region ?_
  refine JL.go trivial (RX.movev (v := Value.slice _ _ _) rfl) ?_
  refine JL.go trivial (RX.len_slice rfl (by rw [sl36]; rfl) rfl) ?_
  refine JL.go trivial (RX.move) ?_
  refine JL.nil ?_
  refine J.block ?_
  refine J.loop (ι := Nat × List UInt8 × Seg) (S := fun q => [(59, .int .i64 (q.1 : Nat))]) (Φ := fun q w => q.1 ≤ (bs ++ [119]).length ∧ q.2.1.length = (bs ++ [119]).length ∧ OwnSl 5 1 fq (bs ++ [119]).length fc (bv q.2.1) q.2.2 ∧ Hp w0 w ([(b3, cel (prgV ((progS bs).getD prg0) pp3 ((progS bs).getD prg0).steps.length pc3) 33)] :: ps3 :: [(b2, cel (prgV ((progS bs).getD prg0) pp2 ((progS bs).getD prg0).steps.length pc2) 33)] :: ps2 :: [(b1, cel (prgV ((progS bs).getD prg0) pp1 ((progS bs).getD prg0).steps.length pc1) 33)] :: ps1 :: q.2.2 :: F)) (μ := fun q => (bs ++ [119]).length - q.1) (C := [(3, _), (5, _), (7, _), (9, _), (58, _)]) (0, bs ++ [119], s1) ⟨rfl, rfl, rfl, rfl, rfl, trivial⟩ ⟨rfl, trivial⟩ ?_ ?_
  · exact ⟨by omega, rfl, ho1, H⟩
  clear H ho1 hm
  rintro ⟨i, ys, s1⟩ ρ w ⟨hi, hyl, ho1, H⟩ IH
  simp only at hi hyl ho1 H
  dsimp only
  refine J.seq ?_
  refine J.region ?_
  refine JL.go trivial (RX.lt rfl rfl) ?_
  refine JL.nil ?_
  refine J.seq ?_
  refine J.cond_d rfl (fun hlt => ?_) (fun hlt => ?_)
  · skip
    obtain ⟨gb, l, rfl, rfl, hll⟩ := ho1.ptr (by omega)
    obtain ⟨bb, hbb⟩ : ∃ bb, ys[i]? = some bb := ⟨_, List.getElem?_eq_getElem (by omega)⟩
    have hllen : i < l.length := by have := hll.2.1; have := hll.1; omega
    refine J.skip ?_
    refine J.seq ?_
    refine J.block ?_
    refine J.seq ?_
    refine J.region ?_
    refine JL.go trivial (RX.movev (v := Value.int _ _) rfl) ?_
    refine JL.go trivial (RX.assignv (v := Value.int _ _) rfl) ?_
    refine JL.nil ?_
    refine J.region ?_
    refine JL.go trivial (RX.movev (v := Value.slice _ _ _) rfl) ?_
    refine JL.go trivial (RX.movev (v := Value.int _ _) rfl) ?_
    refine JL.go trivial (RX.indexAddr rfl rfl sl36 (by omega) (by omega) rfl) ?_
    refine JL.go trivial (RX.loadS H (SlAt.here hll.2.2).cons.cons.cons.cons.cons.cons rfl (j := i) (by omega) (bv_get hbb) one5) ?_
    refine JL.go trivial (RX.xor rfl rfl (xor8 bb 33)) ?_
    refine JL.go trivial (RX.indexAddr rfl rfl sl36 (by omega) (by omega) rfl) ?_
    refine JL.does trivial (EX.store (v := Value.int _ _) H rfl rfl (i := 6) rfl rfl (by omega) sz5 rfl rfl) ?_
    rintro _ w H
    refine JL.nil ?_
    refine J.inBlock ?_
    refine J.region ?_
    refine JL.go trivial (RX.add rfl rfl (w_i64 rfl (by omega) (by omega))) ?_
    refine JL.go trivial (RX.movev (v := Value.int _ _) rfl) ?_
    refine JL.nil ?_
    exact IH (i + 1, ys.set i (bb ^^^ 33), _) _ _ (by simp only; omega) ⟨rfl, rfl, rfl, rfl, rfl, trivial⟩ ⟨rfl, trivial⟩ ⟨by simp only; omega, by simp [hyl], by rw [← bv_set]; exact ho1.set, by simpa using H⟩
  · skip
    refine J.exit rfl ?_
    refine J.seq ?_
    refine J.seq ?_
    refine J.region ?_
    refine JL.go trivial (RX.loadAgg H rfl (i := 4) (vs := prgV ((progS bs).getD prg0) pp1 ((progS bs).getD prg0).steps.length pc1) rfl rfl ag33) ?_
    refine JL.go trivial (RX.loadAgg H rfl (i := 0) (vs := prgV ((progS bs).getD prg0) pp3 ((progS bs).getD prg0).steps.length pc3) rfl rfl ag33) ?_
    refine JL.does trivial (EX.call rfl cl18 rfl ((rSame_b H hop1.slAt.cons.cons.cons.cons.cons hop3.slAt.cons (by omega) (by omega)))) ?_
    rintro _ w ⟨rfl, H⟩
    refine JL.go trivial (RX.not rfl) ?_
    refine JL.go trivial (RX.movev (v := Value.bool _) rfl) ?_
    refine JL.go ⟨_, rfl, (by simp)⟩ (RX.loadAgg H rfl (i := 2) (vs := prgV ((progS bs).getD prg0) pp2 ((progS bs).getD prg0).steps.length pc2) rfl rfl ag33) ?_
    refine JL.go ⟨_, rfl, (by simp)⟩ (RX.loadAgg H rfl (i := 0) (vs := prgV ((progS bs).getD prg0) pp3 ((progS bs).getD prg0).steps.length pc3) rfl rfl ag33) ?_
    refine JL.does ⟨_, rfl, (by simp)⟩ (EX.call rfl cl18 rfl ((rSame_b H hop2.slAt.cons.cons.cons hop3.slAt.cons (by omega) (by omega)))) ?_
    rintro _ w ⟨rfl, H⟩
    refine JL.go ⟨_, rfl, (by simp)⟩ (RX.not rfl) ?_
    refine JL.go trivial (RX.pick_f rfl (by simp)) ?_
    refine JL.nil ?_
    refine J.cond_f rfl (by simp) ?_
    refine J.skip ?_
    refine J.seq ?_
    refine J.seq ?_
    refine J.region ?_
    refine JL.go trivial (RX.fieldAddr rfl fo33_4 rfl) ?_
    refine JL.go trivial (by first | exact RX.load H rfl (i := 0) rfl rfl one22 | exact RX.load H rfl (i := 1) rfl rfl one22 | exact RX.load H rfl (i := 2) rfl rfl one22 | exact RX.load H rfl (i := 3) rfl rfl one22 | exact RX.load H rfl (i := 4) rfl rfl one22 | exact RX.load H rfl (i := 5) rfl rfl one22 | exact RX.load H rfl (i := 6) rfl rfl one22 | exact RX.load H rfl (i := 7) rfl rfl one22) ?_
    refine JL.go trivial (RX.len_slice rfl (by rw [sl22]; rfl) rfl) ?_
    refine JL.go trivial (RX.move) ?_
    refine JL.nil ?_
    refine J.block ?_
    refine J.loop (ι := Nat × List Stp × Seg) (S := fun q => [(82, .int .i64 (q.1 : Nat))]) (Φ := fun q w => q.1 ≤ ((progS bs).getD prg0).steps.length ∧ q.2.1.length = ((progS bs).getD prg0).steps.length ∧ OwnSl 25 7 pp1 ((progS bs).getD prg0).steps.length pc1 (stepsV q.2.1) q.2.2 ∧ Hp w0 w ([(b3, cel (prgV ((progS bs).getD prg0) pp3 ((progS bs).getD prg0).steps.length pc3) 33)] :: ps3 :: [(b2, cel (prgV ((progS bs).getD prg0) pp2 ((progS bs).getD prg0).steps.length pc2) 33)] :: ps2 :: [(b1, cel (prgV ((progS bs).getD prg0) pp1 ((progS bs).getD prg0).steps.length pc1) 33)] :: q.2.2 :: s1 :: F)) (μ := fun q => ((progS bs).getD prg0).steps.length - q.1) (C := [(5, _), (7, _), (9, _), (81, _)]) (0, ((progS bs).getD prg0).steps, ps1) ⟨rfl, rfl, rfl, rfl, trivial⟩ ⟨rfl, trivial⟩ ?_ ?_
    · exact ⟨by omega, rfl, hop1, H⟩
    clear H hop1
    rintro ⟨i, ts, ps1⟩ ρ w ⟨hi, htl, hop1, H⟩ IH
    simp only at hi htl hop1 H
    dsimp only
    refine J.seq ?_
    refine J.region ?_
    refine JL.go trivial (RX.lt rfl rfl) ?_
    refine JL.nil ?_
    refine J.seq ?_
    refine J.cond_d rfl (fun hlt => ?_) (fun hlt => ?_)
    · skip
      obtain ⟨gp, l, rfl, rfl, hll⟩ := hop1.ptr (by omega)
      have hllen : i * 7 + 7 ≤ l.length := by have := hll.2.1; have := hll.1; omega
      refine J.skip ?_
      refine J.seq ?_
      refine J.block ?_
      refine J.seq ?_
      refine J.region ?_
      refine JL.go trivial (RX.movev (v := Value.int _ _) rfl) ?_
      refine JL.go trivial (RX.assignv (v := Value.int _ _) rfl) ?_
      refine JL.nil ?_
      refine J.region ?_
      refine JL.go trivial (RX.fieldAddr rfl fo33_4 rfl) ?_
      refine JL.go trivial (by first | exact RX.load H rfl (i := 0) rfl rfl one22 | exact RX.load H rfl (i := 1) rfl rfl one22 | exact RX.load H rfl (i := 2) rfl rfl one22 | exact RX.load H rfl (i := 3) rfl rfl one22 | exact RX.load H rfl (i := 4) rfl rfl one22 | exact RX.load H rfl (i := 5) rfl rfl one22 | exact RX.load H rfl (i := 6) rfl rfl one22 | exact RX.load H rfl (i := 7) rfl rfl one22) ?_
      refine JL.go trivial (RX.movev (v := Value.int _ _) rfl) ?_
      refine JL.go trivial (RX.build (pv := [(0, .int .i64 99)]) (res := (stpM 99).v) rfl (by kernel_rfl)) ?_
      refine JL.go trivial (RX.indexAddr rfl rfl sl22 (by omega) (by omega) rfl) ?_
      refine JL.does trivial (EX.storeAgg H rfl rfl (i := 5) (vs := (stpM 99).v) rfl (stp_cell _) (by simp [Stp.v]; omega) sz25 rfl rfl) ?_
      rintro _ w H
      refine JL.nil ?_
      refine J.inBlock ?_
      refine J.region ?_
      refine JL.go trivial (RX.add rfl rfl (w_i64 rfl (by omega) (by omega))) ?_
      refine JL.go trivial (RX.movev (v := Value.int _ _) rfl) ?_
      refine JL.nil ?_
      exact IH (i + 1, ts.set i (stpM 99), _) _ _ (by simp only; omega) ⟨rfl, rfl, rfl, rfl, trivial⟩ ⟨rfl, trivial⟩ ⟨by simp only; omega, by simp [htl], by rw [← stepsV_put _ _ _ (by omega)]; exact hop1.setN (o := i * 7), by simpa using H⟩
    · skip
      refine J.exit rfl ?_
      refine J.seq ?_
      refine J.region ?_
      refine JL.go trivial (RX.fieldAddr rfl fo33_4 rfl) ?_
      refine JL.go trivial (by first | exact RX.load H rfl (i := 0) rfl rfl one22 | exact RX.load H rfl (i := 1) rfl rfl one22 | exact RX.load H rfl (i := 2) rfl rfl one22 | exact RX.load H rfl (i := 3) rfl rfl one22 | exact RX.load H rfl (i := 4) rfl rfl one22 | exact RX.load H rfl (i := 5) rfl rfl one22 | exact RX.load H rfl (i := 6) rfl rfl one22 | exact RX.load H rfl (i := 7) rfl rfl one22) ?_
      refine JL.go trivial (RX.build (pv := [(0, .int .i64 98)]) (res := (stpM 98).v) rfl (by kernel_rfl)) ?_
      refine JL.does trivial (EX.buildSlice (pv := [(0, .agg (stpM 98).v.toArray)]) (l := (stpM 98).v) (e := 25) H rfl (by kernel_rfl)) ?_
      rintro _ w ⟨b9, rfl, H⟩
      refine JL.does trivial (EX.append (ys := (stpM 98).v) (L' := fun s' => [(b9, cel (stpM 98).v 25)] :: [(b3, cel (prgV ((progS bs).getD prg0) pp3 ((progS bs).getD prg0).steps.length pc3) 33)] :: ps3 :: [(b2, cel (prgV ((progS bs).getD prg0) pp2 ((progS bs).getD prg0).steps.length pc2) 33)] :: ps2 :: [(b1, cel (prgV ((progS bs).getD prg0) pp1 ((progS bs).getD prg0).steps.length pc1) 33)] :: s' :: s1 :: F) H elS rfl rfl (i := 6) rfl hop1 (SlAt.here rfl) rfl (stp_cell _) (by decide) (by omega) (by omega) (fun _ => rfl)) ?_
      rintro _ w ⟨pp4, pc4, ps4, rfl, hop4, H⟩
      obtain ⟨g4, l4, rfl, rfl, hl4⟩ := hop4.ptr (by omega)
      refine JL.go trivial (RX.fieldAddr rfl fo33_4 rfl) ?_
      refine JL.does trivial (EX.store (v := Value.slice _ _ _) H rfl rfl (i := 5) rfl rfl (by simp [prgV]) sz22 rfl rfl) ?_
      rintro _ w H
      refine JL.nil ?_
      refine J.seq ?_
      refine J.region ?_
      refine JL.go trivial (RX.loadAgg H rfl (i := 3) (vs := prgV ((progS bs).getD prg0) pp2 ((progS bs).getD prg0).steps.length pc2) rfl rfl ag33) ?_
      refine JL.go trivial (RX.loadAgg H rfl (i := 1) (vs := prgV ((progS bs).getD prg0) pp3 ((progS bs).getD prg0).steps.length pc3) rfl rfl ag33) ?_
      refine JL.does trivial (EX.call rfl cl18 rfl ((rSame_b H hop2.slAt.cons.cons.cons.cons hop3.slAt.cons.cons (by omega) (by omega)))) ?_
      rintro _ w ⟨rfl, H⟩
      refine JL.go trivial (RX.movev (v := Value.bool _) rfl) ?_
      refine JL.go ⟨_, rfl, (decide_eq_true rfl)⟩ (RX.fieldAddr rfl fo33_4 rfl) ?_
      refine JL.go ⟨_, rfl, (decide_eq_true rfl)⟩ (by first | exact RX.load H rfl (i := 0) rfl rfl one22 | exact RX.load H rfl (i := 1) rfl rfl one22 | exact RX.load H rfl (i := 2) rfl rfl one22 | exact RX.load H rfl (i := 3) rfl rfl one22 | exact RX.load H rfl (i := 4) rfl rfl one22 | exact RX.load H rfl (i := 5) rfl rfl one22 | exact RX.load H rfl (i := 6) rfl rfl one22 | exact RX.load H rfl (i := 7) rfl rfl one22) ?_
      refine JL.go ⟨_, rfl, (decide_eq_true rfl)⟩ (RX.fieldAddr rfl fo33_4 rfl) ?_
      refine JL.go ⟨_, rfl, (decide_eq_true rfl)⟩ (by first | exact RX.load H rfl (i := 0) rfl rfl one22 | exact RX.load H rfl (i := 1) rfl rfl one22 | exact RX.load H rfl (i := 2) rfl rfl one22 | exact RX.load H rfl (i := 3) rfl rfl one22 | exact RX.load H rfl (i := 4) rfl rfl one22 | exact RX.load H rfl (i := 5) rfl rfl one22 | exact RX.load H rfl (i := 6) rfl rfl one22 | exact RX.load H rfl (i := 7) rfl rfl one22) ?_
      refine JL.go ⟨_, rfl, (decide_eq_true rfl)⟩ (RX.len_slice rfl (by rw [sl22]; rfl) rfl) ?_
      refine JL.go ⟨_, rfl, (decide_eq_true rfl)⟩ (RX.sub rfl rfl (w_i64 rfl (by omega) (by omega))) ?_
      refine JL.go ⟨_, rfl, (decide_eq_true rfl)⟩ (RX.indexAddr rfl rfl sl22 (by omega) (by omega) rfl) ?_
      refine JL.go ⟨_, rfl, (decide_eq_true rfl)⟩ (RX.fieldAddr rfl fo25_0 rfl) ?_
      refine JL.go ⟨_, rfl, (decide_eq_true rfl)⟩ (RX.loadS H (SlAt.here hl4.2.2).cons.cons.cons.cons.cons.cons rfl (j := ((progS bs).getD prg0).steps.length * 7) (by omega) (v := .int .i64 98) (by rw [List.getElem?_append_right (by rw [stepsV_len, htl]; omega), stepsV_len, htl, Nat.sub_self]; rfl) one3) ?_
      refine JL.go ⟨_, rfl, (decide_eq_true rfl)⟩ (RX.eq rfl rfl) ?_
      refine JL.go trivial (RX.pick_t rfl (decide_eq_true rfl)) ?_
      refine JL.go trivial (RX.assignv (v := Value.bool _) rfl) ?_
      refine JL.nil ?_
      refine J.ret1 (v := Value.bool _) Tryd.func5 rfl rfl ?_
      exact ⟨_, rfl, rfl, H.drop.drop.drop.drop.drop.drop.drop.drop⟩
end Go.Proofs.YtnbbeghaeijcbaaDoor

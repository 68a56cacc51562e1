/- The law OrderBack. -/
import Derived.Test.YtinbeaaloailnaaDoorPt
namespace Go.Proofs.YtinbeaaloailnaaDoor
open Go Go.Eng
set_option maxRecDepth 100000
set_option linter.unusedVariables false
set_option linter.unusedSimpArgs false
theorem cl15 : callable Tryd.prog 15 = true := by kernel_rfl

theorem ev_ie4 {F : List Seg} {E : Nat → Value} (h : E368 F E) {c : Nat} (hc : c = 0 ∨ c = 3 ∨ c = 6 ∨ c = 8) : isErr (errV2 E c) = true ∧ isNil (errV2 E c) = decide (c = 0) := by
  rcases hc with rfl | rfl | rfl | rfl
  · exact ⟨rfl, rfl⟩
  · exact ⟨h.t3.ie, h.t3.nn⟩
  · exact ⟨h.t6.ie, h.t6.nn⟩
  · exact ⟨h.t8.ie, h.t8.nn⟩
theorem parse_any (s : List UInt8) : (∃ t, parseS s = .ok t) ∨ ∃ pl c, parseS s = .err pl c ∧ (c = 3 ∨ c = 6 ∨ c = 8) ∧ pl ≤ s.length := by
  by_cases h : 65536 < s.length
  · exact .inr ⟨0, 3, by unfold parseS; rw [if_pos h], .inl rfl, Nat.zero_le _⟩
  · rcases parse_code (s := s) (by omega) with ⟨t, h, _⟩ | ⟨h, _⟩ | h
    · exact .inl ⟨t, h⟩
    · exact .inr ⟨0, 8, h, .inr (.inr rfl), Nat.zero_le _⟩
    · exact .inr ⟨lastS s, 6, h, .inr (.inl rfl), last_le s⟩
theorem ParseR.form4 {E : Nat → Value} {s : List UInt8} {v : Value} {sg : Seg} (h : ParseR (errV2 E) (parseS s) v sg) : ∃ k n p m c pl code, v = .tuple #[.agg (tv k n p m c).toArray, .int .i64 (pl : Nat), errV2 E code] ∧ (code = 0 ∨ code = 3 ∨ code = 6 ∨ code = 8) ∧
    ((code = 0 ∧ pl = 0 ∧ ∃ t, parseS s = .ok t ∧ t.Own (tv k n p m c) sg) ∨ (code ≠ 0 ∧ parseS s = .err pl code ∧ tv k n p m c = tv 0 0 none 0 0 ∧ sg = [] ∧ pl ≤ s.length)) := by
  rcases parse_any s with ⟨t, ht⟩ | ⟨pl, c, he, hc, hp⟩
  · rw [ht] at h
    obtain ⟨k, n, p, m, c, rfl, ho⟩ := h.ok
    exact ⟨k, n, p, m, c, 0, 0, rfl, .inl rfl, .inl ⟨rfl, rfl, t, ht, ho⟩⟩
  · rw [he] at h
    obtain ⟨rfl, rfl⟩ := h.err
    exact ⟨0, 0, none, 0, 0, pl, c, rfl, by omega, .inr ⟨by omega, he, rfl, rfl, hp⟩⟩
theorem lenO_nn (t : Tr) : 0 ≤ lenO t := (lw_ok t 1 0).1
theorem e8_pos {F : List Seg} {E : Nat → Value} (h : GErr F 1 (E 8)) (t : Tr) : isNil (e8 E (goodB t)) = decide (0 < lenO t) := by
  rw [(e8_ie h _).2]
  unfold goodB
  congr 1
  have := lenO_nn t
  rw [eq_iff_iff]; omega
theorem text_same {a b : Tr} (ha : goodB a = true) (hb : goodB b = true) : decide ((⟨(textO b).toArray⟩ : ByteArray) = ⟨(textO a).toArray⟩) = a.same b := by
  rw [textO_yes ha, textO_yes hb]
  cases h : a.same b with
  | true => rw [(Tr.same_eq a b).1 h]; simp
  | false =>
    refine decide_eq_false (fun e => ?_)
    have e2 : textT b = textT a := by
      have := congrArg (fun x : ByteArray => x.data.toList) e
      simpa using this
    have := text_inj (goodB_yes hb) (goodB_yes ha) e2
    subst this
    rw [(Tr.same_eq b b).2 rfl] at h
    cases h

set_option maxHeartbeats 800000 in
theorem OrderBack_b {w0 w : World} {F : List Seg} (H : Hp w0 w F) {E : Nat → Value} {Q : Nat → Addr} (hE : EQ F E Q) (hg : GTab F) {a b : Tr} {va vb : List Value} (ha : a.Is F va) (hb : b.Is F vb) (hwa : a.wide) (hwb : b.wide) {s : List UInt8} (hs : s.length ≤ 9223372036854775807) : Ret Tryd.prog 5 [.agg va.toArray, .agg vb.toArray, .string ⟨s.toArray⟩] w fun v w' => v = .bool true ∧ Hp w0 w' F := by
  refine Calls.of_J (n := 117) Tryd.func5 rfl rfl rfl ?_
  refine J.seq ?_
  obtain ⟨ka, na, pa, ma, ca, rfl⟩ := ha.shape
  obtain ⟨kb, nb, pb, mb, cb, rfl⟩ := hb.shape
  refine J.region ?_
  refine JL.does trivial (EX.box (v := Value.agg _) H rfl rfl) ?_
  rintro _ w ⟨b3, rfl, H⟩
  refine JL.does trivial (EX.box (v := Value.agg _) H rfl rfl) ?_
  rintro _ w ⟨b4, rfl, H⟩
  refine JL.go trivial (RX.assign) ?_
  refine JL.nil ?_
  refine J.seq ?_
  refine J.region ?_
  refine JL.does trivial (EX.call rfl cl9 rfl ((lives_b H hE.b.cons.cons hg.cons.cons))) ?_
  rintro _ w ⟨rfl, H⟩
  refine JL.go trivial (RX.assignv (v := Value.bool _) rfl) ?_
  refine JL.nil ?_
  refine J.seq ?_
  refine J.seq ?_
  refine J.region ?_
  refine JL.go trivial (RX.movev (v := Value.bool _) rfl) ?_
  refine JL.go trivial (RX.not rfl) ?_
  refine JL.go trivial (RX.movev (v := Value.bool _) rfl) ?_
  refine JL.go ⟨_, rfl, rfl⟩ (RX.loadAgg H rfl (i := 1) (vs := tv ka na pa ma ca) rfl rfl ag25) ?_
  refine JL.does ⟨_, rfl, rfl⟩ (EX.call rfl cl15 rfl ((large_b H ha.cons.cons hwa))) ?_
  rintro _ w ⟨rfl, H⟩
  refine JL.go trivial (RX.pick_f rfl rfl) ?_
  refine JL.go trivial (RX.movev (v := Value.bool _) rfl) ?_
  refine JL.splitS 23 rfl (fun hla => ?_) (fun hla => ?_)
  · skip
    first | have hlap := of_decide_eq_true hla | skip
    refine JL.no ⟨_, rfl, gno hla⟩ ?_
    refine JL.no ⟨_, rfl, gno hla⟩ ?_
    refine JL.go trivial (RX.pick_t rfl hla) ?_
    refine JL.nil ?_
    refine J.cond_t rfl rfl ?_
    refine J.seq ?_
    refine J.region ?_
    refine JL.go trivial (RX.movev (v := Value.bool _) rfl) ?_
    refine JL.go trivial (RX.assignv (v := Value.bool _) rfl) ?_
    refine JL.nil ?_
    refine J.ret1 (v := Value.bool _) Tryd.func5 rfl rfl ?_
    exact ⟨_, rfl, rfl, H.drop.drop⟩
  · skip
    first | have hlap := of_decide_eq_false hla | skip
    refine JL.go ⟨_, rfl, hla⟩ (RX.loadAgg H rfl (i := 0) (vs := tv kb nb pb mb cb) rfl rfl ag25) ?_
    refine JL.does ⟨_, rfl, hla⟩ (EX.call rfl cl15 rfl ((large_b H hb.cons.cons hwb))) ?_
    rintro _ w ⟨rfl, H⟩
    refine JL.go trivial (RX.pick_f rfl hla) ?_
    refine JL.nil ?_
    refine J.cond_d rfl (fun hlb => ?_) (fun hlb => ?_)
    · skip
      refine J.seq ?_
      refine J.region ?_
      refine JL.go trivial (RX.movev (v := Value.bool _) rfl) ?_
      refine JL.go trivial (RX.assignv (v := Value.bool _) rfl) ?_
      refine JL.nil ?_
      refine J.ret1 (v := Value.bool _) Tryd.func5 rfl rfl ?_
      exact ⟨_, rfl, rfl, H.drop.drop⟩
    · skip
      have hpa : a.parts ≤ 4500 := by omega
      have hpb : b.parts ≤ 4500 := by omega
      refine J.skip ?_
      refine J.seq ?_
      refine J.region ?_
      refine JL.go trivial (RX.loadAgg H rfl (i := 1) (vs := tv ka na pa ma ca) rfl rfl ag25) ?_
      refine JL.does trivial (EX.call rfl cl16 rfl ((Text_b H ha.cons.cons (by omega) hE.b.t8.cons.cons hg.cons.cons))) ?_
      rintro _ w ⟨rfl, H⟩
      refine JL.go trivial (RX.movev (v := Value.tuple _) rfl) ?_
      refine JL.go trivial (RX.extract (v := .string ⟨(textO a).toArray⟩) rfl rfl) ?_
      refine JL.go trivial (RX.extract (v := e8 E (goodB a)) rfl rfl) ?_
      refine JL.go trivial (RX.assignv (v := Value.string _) rfl) ?_
      refine JL.go trivial (RX.assignv (v := e8 E (goodB a)) rfl) ?_
      refine JL.nil ?_
      refine J.seq ?_
      refine J.seq ?_
      refine J.join (ι := Bool) (fun q => [(55, .bool q)]) (fun q w => q = false ∧ Hp w0 w ([(b4, cel (tv kb nb pb mb cb) 25)] :: [(b3, cel (tv ka na pa ma ca) 25)] :: F)) [(2, _), (3, _), (4, _), (8, _), (9, _)] ⟨rfl, rfl, rfl, rfl, rfl, trivial⟩ ?_ ?_
      rotate_left
      · skip
        intro k2 hk2
        refine J.quietH H hmix (by kernel_rfl) ?_
        refine JQ.go trivial (fun w H => RX.movev (v := e8 E (goodB a)) rfl) ?_
        refine JQ.go trivial (fun w H => RX.ifnil_eql (v := e8 E (goodB a)) rfl rfl (e8_ie hE.b.t8 _).1 if27) ?_
        refine JQ.go trivial (fun w H => RX.loadAgg H rfl (i := 1) (vs := tv ka na pa ma ca) rfl rfl ag25) ?_
        refine JQ.call trivial (fun w H => run_callq rfl cl17 rfl) (fun w H => (Check_b H ha.cons.cons (by omega) hE.b.t8.cons.cons)) ?_
        refine JQ.go trivial (fun w H => RX.ifnil_eql (v := e8 E (goodB a)) rfl rfl (e8_ie hE.b.t8 _).1 if27) ?_
        refine JQ.go trivial (fun w H => RX.bool_neq rfl rfl ud4) ?_
        refine JQ.go trivial (fun w H => RX.movev (v := Value.bool _) rfl) ?_
        refine JQ.go ⟨_, rfl, (bb rfl)⟩ (fun w H => RX.movev (v := e8 E (goodB a)) rfl) ?_
        refine JQ.go ⟨_, rfl, (bb rfl)⟩ (fun w H => RX.ifnil_eql (v := e8 E (goodB a)) rfl rfl (e8_ie hE.b.t8 _).1 if27) ?_
        refine JQ.go ⟨_, rfl, (bb rfl)⟩ (fun w H => RX.loadAgg H rfl (i := 1) (vs := tv ka na pa ma ca) rfl rfl ag25) ?_
        refine JQ.call ⟨_, rfl, (bb rfl)⟩ (fun w H => run_callq rfl cl18 rfl) (fun w H => (Length_b H ha.cons.cons (by omega))) ?_
        refine JQ.go ⟨_, rfl, (bb rfl)⟩ (fun w H => RX.gt rfl rfl) ?_
        refine JQ.go ⟨_, rfl, (bb rfl)⟩ (fun w H => RX.bool_neq rfl rfl ud4) ?_
        refine JQ.go trivial (fun w H => RX.pick_f rfl (bb rfl)) ?_
        refine JQ.go trivial (fun w H => RX.movev (v := Value.bool _) rfl) ?_
        refine JQ.go ⟨_, rfl, (bb (e8_pos hE.b.t8 a))⟩ (fun w H => RX.movev (v := e8 E (goodB a)) rfl) ?_
        refine JQ.go ⟨_, rfl, (bb (e8_pos hE.b.t8 a))⟩ (fun w H => RX.ifnil_neq (v := e8 E (goodB a)) rfl rfl (e8_ie hE.b.t8 _).1 if27) ?_
        refine JQ.go ⟨_, rfl, (bb (e8_pos hE.b.t8 a))⟩ (fun w H => RX.movev (v := Value.bool _) rfl) ?_
        refine JQ.splitS 50 rfl (fun hne => ?_) (fun hne => ?_)
        · skip
          first | have hnep := of_decide_eq_true hne | skip
          have hga : goodB a = false := by simpa [(e8_ie hE.b.t8 (goodB a)).2] using hne
          refine JQ.go ⟨_, rfl, hne⟩ (fun w H => RX.movev (v := e8 E (goodB a)) rfl) ?_
          refine JQ.go ⟨_, rfl, hne⟩ (fun w H => RX.loadG H rfl hE.b.t8.at_.cons.cons one27) ?_
          refine JQ.go ⟨_, rfl, hne⟩ (fun w H => RX.err_neq (u := e8 E (goodB a)) (v := E 8) H rfl rfl (by rw [hga]; exact hE.e8.cons.cons) hE.e8.cons.cons if27 ptE) ?_
          refine JQ.go ⟨_, rfl, (bb (e8_pos hE.b.t8 a))⟩ (fun w H => RX.pick_t rfl hne) ?_
          refine JQ.go trivial (fun w H => RX.pick_f rfl (bb (e8_pos hE.b.t8 a))) ?_
          refine JQ.nil fun w H => ?_
          first
          | exact hk2 false _ _ ⟨rfl, rfl, rfl, rfl, rfl, trivial⟩ ⟨rfl, trivial⟩ ⟨rfl, H⟩
          | exact hk2 _ _ _ ⟨rfl, rfl, rfl, rfl, rfl, trivial⟩ ⟨rfl, trivial⟩ ⟨by simp, H⟩
        · skip
          first | have hnep := of_decide_eq_false hne | skip
          refine JQ.no ⟨_, rfl, gno hne⟩ ?_
          refine JQ.no ⟨_, rfl, gno hne⟩ ?_
          refine JQ.no ⟨_, rfl, gno hne⟩ ?_
          refine JQ.go ⟨_, rfl, (bb (e8_pos hE.b.t8 a))⟩ (fun w H => RX.pick_f rfl hne) ?_
          refine JQ.go trivial (fun w H => RX.pick_f rfl (bb (e8_pos hE.b.t8 a))) ?_
          refine JQ.nil fun w H => ?_
          first
          | exact hk2 false _ _ ⟨rfl, rfl, rfl, rfl, rfl, trivial⟩ ⟨rfl, trivial⟩ ⟨rfl, H⟩
          | exact hk2 _ _ _ ⟨rfl, rfl, rfl, rfl, rfl, trivial⟩ ⟨rfl, trivial⟩ ⟨by simp, H⟩
      · skip
        clear H
        rintro q ρ w ⟨hq, H⟩
        refine J.cond_f rfl hq ?_
        refine J.skip ?_
        refine J.seq ?_
        refine J.seq ?_
        refine J.region ?_
        refine JL.go trivial (RX.movev (v := e8 E (goodB a)) rfl) ?_
        refine JL.go trivial (RX.ifnil_eql (v := e8 E (goodB a)) rfl rfl (e8_ie hE.b.t8 _).1 if27) ?_
        refine JL.nil ?_
        refine J.join (ι := Unit) (fun _ => []) (fun _ w => Hp w0 w ([(b4, cel (tv kb nb pb mb cb) 25)] :: [(b3, cel (tv ka na pa ma ca) 25)] :: F)) [(2, _)] ⟨rfl, trivial⟩ ?_ ?_
        rotate_left
        · skip
          intro k2 hk2
          refine J.cond rfl (fun hok => ?_) (fun hok => ?_)
          · skip
            have hga : goodB a = true := by simpa [(e8_ie hE.b.t8 (goodB a)).2] using hok
            have hlg := lenO_good (goodB_yes hga)
            have hts := text_short _ a (Nat.le_refl _) hlg.1
            refine J.seq ?_
            refine J.region ?_
            refine JL.go trivial (RX.movev (v := Value.string _) rfl) ?_
            refine JL.does trivial (EX.call rfl cl10 rfl ((Parse_b H hE.b.cons.cons (s := textO a) (by rw [textO_yes hga]; omega)))) ?_
            rintro _ w ⟨sg, hpr, H⟩
            rw [textO_yes hga, parse_there (goodB_yes hga)] at hpr
            obtain ⟨k, n, p, m, c, rfl, ho⟩ := hpr.ok
            refine JL.go trivial (RX.movev (v := Value.tuple _) rfl) ?_
            refine JL.go trivial (RX.extract (v := .agg (tv k n p m c).toArray) rfl rfl) ?_
            refine JL.go trivial (RX.extract (v := .int .i64 0) rfl rfl) ?_
            refine JL.go trivial (RX.extract (v := Value.nilIface) rfl rfl) ?_
            refine JL.does trivial (EX.alloc H zr25 rfl) ?_
            rintro _ w ⟨b10, rfl, H⟩
            refine JL.does trivial (EX.storeAgg H rfl rfl (i := 0) (vs := tv k n p m c) (l' := tv k n p m c) rfl tv_cell (by simp) sz25 rfl rfl) ?_
            rintro _ w H
            refine JL.go trivial (RX.assignv (v := Value.int _ _) rfl) ?_
            refine JL.go trivial (RX.assignv (v := Value.nilIface) rfl) ?_
            refine JL.nil ?_
            refine J.seq ?_
            refine J.seq ?_
            refine J.region ?_
            refine JL.go trivial (RX.movev (v := Value.nilIface) rfl) ?_
            refine JL.go trivial (RX.ifnil_neq (v := Value.nilIface) rfl rfl rfl if27) ?_
            refine JL.go trivial (RX.movev (v := Value.bool _) rfl) ?_
            refine JL.go ⟨_, rfl, rfl⟩ (RX.movev (v := Value.int _ _) rfl) ?_
            refine JL.go ⟨_, rfl, rfl⟩ (RX.ne rfl rfl) ?_
            refine JL.go trivial (RX.pick_f rfl rfl) ?_
            refine JL.go trivial (RX.movev (v := Value.bool _) rfl) ?_
            refine JL.go ⟨_, rfl, (decide_eq_false (fun h => h rfl))⟩ (RX.loadAgg H rfl (i := 0) (vs := tv k n p m c) rfl rfl ag25) ?_
            refine JL.go ⟨_, rfl, (decide_eq_false (fun h => h rfl))⟩ (RX.loadAgg H rfl (i := 3) (vs := tv ka na pa ma ca) rfl rfl ag25) ?_
            refine JL.does ⟨_, rfl, (decide_eq_false (fun h => h rfl))⟩ (EX.call rfl cl19 rfl ((oSame_b a hwa a _ _ _ _ _ hwa H (Tr.Is.cons ho.is) ha.cons.cons.cons.cons))) ?_
            rintro _ w ⟨rfl, H⟩
            refine JL.go ⟨_, rfl, (decide_eq_false (fun h => h rfl))⟩ (RX.not rfl) ?_
            refine JL.go trivial (RX.pick_f rfl (decide_eq_false (fun h => h rfl))) ?_
            refine JL.nil ?_
            refine J.cond_f rfl (by rw [(Tr.same_eq a a).2 rfl]; rfl) ?_
            refine J.skip ?_
            refine J.seq ?_
            refine J.region ?_
            refine JL.go trivial (RX.loadAgg H rfl (i := 2) (vs := tv kb nb pb mb cb) rfl rfl ag25) ?_
            refine JL.does trivial (EX.call rfl cl16 rfl ((Text_b H hb.cons.cons.cons.cons (by omega) hE.b.t8.cons.cons.cons.cons hg.cons.cons.cons.cons))) ?_
            rintro _ w ⟨rfl, H⟩
            refine JL.go trivial (RX.movev (v := Value.tuple _) rfl) ?_
            refine JL.go trivial (RX.extract (v := .string ⟨(textO b).toArray⟩) rfl rfl) ?_
            refine JL.go trivial (RX.extract (v := e8 E (goodB b)) rfl rfl) ?_
            refine JL.go trivial (RX.assignv (v := Value.string _) rfl) ?_
            refine JL.go trivial (RX.assignv (v := e8 E (goodB b)) rfl) ?_
            refine JL.nil ?_
            refine J.seq ?_
            refine J.region ?_
            refine JL.go trivial (RX.movev (v := e8 E (goodB b)) rfl) ?_
            refine JL.go trivial (RX.ifnil_eql (v := e8 E (goodB b)) rfl rfl (e8_ie hE.b.t8 _).1 if27) ?_
            refine JL.go trivial (RX.movev (v := Value.bool _) rfl) ?_
            refine JL.splitS 83 rfl (fun hgb => ?_) (fun hgb => ?_)
            · skip
              first | have hgbp := of_decide_eq_true hgb | skip
              have hgb2 : goodB b = true := by simpa [(e8_ie hE.b.t8 (goodB b)).2] using hgb
              refine JL.go ⟨_, rfl, hgb⟩ (RX.movev (v := Value.string _) rfl) ?_
              refine JL.go ⟨_, rfl, hgb⟩ (RX.movev (v := Value.string _) rfl) ?_
              refine JL.go ⟨_, rfl, hgb⟩ (RX.str_eql rfl rfl) ?_
              refine JL.go ⟨_, rfl, hgb⟩ (RX.loadAgg H rfl (i := 3) (vs := tv ka na pa ma ca) rfl rfl ag25) ?_
              refine JL.go ⟨_, rfl, hgb⟩ (RX.loadAgg H rfl (i := 2) (vs := tv kb nb pb mb cb) rfl rfl ag25) ?_
              refine JL.does ⟨_, rfl, hgb⟩ (EX.call rfl cl19 rfl ((oSame_b a hwa b _ _ _ _ _ hwb H ha.cons.cons.cons.cons hb.cons.cons.cons.cons))) ?_
              rintro _ w ⟨rfl, H⟩
              refine JL.go ⟨_, rfl, hgb⟩ (RX.bool_neq rfl rfl ud4) ?_
              refine JL.go trivial (RX.pick_t rfl hgb) ?_
              refine JL.nil ?_
              refine J.cond_f rfl (bb (text_same hga hgb2)) ?_
              refine J.skip ?_
              first | exact hk2 () _ _ ⟨rfl, trivial⟩ trivial H | exact hk2 () _ _ ⟨rfl, trivial⟩ trivial H.drop.drop
            · skip
              first | have hgbp := of_decide_eq_false hgb | skip
              refine JL.no ⟨_, rfl, gno hgb⟩ ?_
              refine JL.no ⟨_, rfl, gno hgb⟩ ?_
              refine JL.no ⟨_, rfl, gno hgb⟩ ?_
              refine JL.no ⟨_, rfl, gno hgb⟩ ?_
              refine JL.no ⟨_, rfl, gno hgb⟩ ?_
              refine JL.no ⟨_, rfl, gno hgb⟩ ?_
              refine JL.no ⟨_, rfl, gno hgb⟩ ?_
              refine JL.go trivial (RX.pick_f rfl hgb) ?_
              refine JL.nil ?_
              refine J.cond_f rfl rfl ?_
              refine J.skip ?_
              first | exact hk2 () _ _ ⟨rfl, trivial⟩ trivial H | exact hk2 () _ _ ⟨rfl, trivial⟩ trivial H.drop.drop
          · skip
            refine J.skip ?_
            first | exact hk2 () _ _ ⟨rfl, trivial⟩ trivial H | exact hk2 () _ _ ⟨rfl, trivial⟩ trivial H.drop.drop
        · skip
          clear H
          rintro _ ρ w H
          refine J.seq ?_
          refine J.region ?_
          refine JL.go trivial (RX.movev (v := Value.string _) rfl) ?_
          refine JL.does trivial (EX.call rfl cl10 rfl ((Parse_b H hE.b.cons.cons (s := s) hs))) ?_
          rintro _ w ⟨sg, hpr, H⟩
          obtain ⟨k, n, p, m, c, pl, code, rfl, hc4, hcs⟩ := hpr.form4
          refine JL.go trivial (RX.movev (v := Value.tuple _) rfl) ?_
          refine JL.go trivial (RX.extract (v := .agg (tv k n p m c).toArray) rfl rfl) ?_
          refine JL.go trivial (RX.extract (v := .int .i64 (pl : Nat)) rfl rfl) ?_
          refine JL.go trivial (RX.extract (v := errV2 E code) rfl rfl) ?_
          refine JL.does trivial (EX.alloc H zr25 rfl) ?_
          rintro _ w ⟨b14, rfl, H⟩
          refine JL.does trivial (EX.storeAgg H rfl rfl (i := 0) (vs := tv k n p m c) (l' := tv k n p m c) rfl tv_cell (by simp) sz25 rfl rfl) ?_
          rintro _ w H
          refine JL.go trivial (RX.assignv (v := Value.int _ _) rfl) ?_
          refine JL.go trivial (RX.assignv (v := errV2 E code) rfl) ?_
          refine JL.nil ?_
          refine J.seq ?_
          refine J.seq ?_
          refine J.region ?_
          refine JL.go trivial (RX.movev (v := errV2 E code) rfl) ?_
          refine JL.go trivial (RX.ifnil_neq (v := errV2 E code) rfl rfl (ev_ie4 hE.b hc4).1 if27) ?_
          refine JL.nil ?_
          refine J.cond rfl (fun hee => ?_) (fun hee => ?_)
          · skip
            refine J.seq ?_
            refine J.region ?_
            refine JL.go trivial (RX.assign) ?_
            refine JL.nil ?_
            refine J.ret1 (v := Value.bool _) Tryd.func5 rfl rfl ?_
            first
            | exact ⟨_, rfl, rfl, H.drop.drop.drop.drop⟩
            | exact ⟨_, rfl, congrArg Value.bool (by rw [(e8_ie hE.b.t8 _).2]; exact hgt), H.drop.drop.drop.drop⟩
          · skip
            have hn0 : code = 0 := by simpa [(ev_ie4 hE.b hc4).2] using hee
            obtain ⟨_, _, t, hpt, ho⟩ := hcs.resolve_right (fun h => h.1 hn0)
            obtain ⟨h0, htt, htp⟩ := parse_back hpt
            have hgt : goodB t = true := decide_eq_true h0
            refine J.skip ?_
            refine J.seq ?_
            refine J.region ?_
            refine JL.go trivial (RX.loadAgg H rfl (i := 0) (vs := tv k n p m c) rfl rfl ag25) ?_
            refine JL.does trivial (EX.call rfl cl16 rfl ((Text_b H (Tr.Is.cons ho.is) (by omega) hE.b.t8.cons.cons.cons.cons hg.cons.cons.cons.cons))) ?_
            rintro _ w ⟨rfl, H⟩
            refine JL.go trivial (RX.movev (v := Value.tuple _) rfl) ?_
            refine JL.go trivial (RX.extract (v := .string ⟨(textO t).toArray⟩) rfl rfl) ?_
            refine JL.go trivial (RX.extract (v := e8 E (goodB t)) rfl rfl) ?_
            refine JL.go trivial (RX.assignv (v := Value.string _) rfl) ?_
            refine JL.go trivial (RX.assignv (v := e8 E (goodB t)) rfl) ?_
            refine JL.nil ?_
            refine J.seq ?_
            refine J.region ?_
            refine JL.go trivial (RX.movev (v := e8 E (goodB t)) rfl) ?_
            refine JL.go trivial (RX.ifnil_eql (v := e8 E (goodB t)) rfl rfl (e8_ie hE.b.t8 _).1 if27) ?_
            refine JL.go trivial (RX.movev (v := Value.bool _) rfl) ?_
            refine JL.go ⟨_, rfl, (by rw [(e8_ie hE.b.t8 _).2]; exact hgt)⟩ (RX.movev (v := Value.string _) rfl) ?_
            refine JL.go ⟨_, rfl, (by rw [(e8_ie hE.b.t8 _).2]; exact hgt)⟩ (RX.movev (v := Value.string _) rfl) ?_
            refine JL.go ⟨_, rfl, (by rw [(e8_ie hE.b.t8 _).2]; exact hgt)⟩ (RX.str_eql rfl rfl) ?_
            refine JL.go trivial (RX.pick_t rfl (by rw [(e8_ie hE.b.t8 _).2]; exact hgt)) ?_
            refine JL.go trivial (RX.movev (v := Value.bool _) rfl) ?_
            refine JL.go ⟨_, rfl, (decide_eq_true (by rw [textO_yes hgt, htt]))⟩ (RX.loadAgg H rfl (i := 0) (vs := tv k n p m c) rfl rfl ag25) ?_
            refine JL.does ⟨_, rfl, (decide_eq_true (by rw [textO_yes hgt, htt]))⟩ (EX.call rfl cl17 rfl ((Check_b H (Tr.Is.cons ho.is) (by omega) hE.b.t8.cons.cons.cons.cons))) ?_
            rintro _ w ⟨rfl, H⟩
            refine JL.go ⟨_, rfl, (decide_eq_true (by rw [textO_yes hgt, htt]))⟩ (RX.ifnil_eql (v := e8 E (goodB t)) rfl rfl (e8_ie hE.b.t8 _).1 if27) ?_
            refine JL.go trivial (RX.pick_t rfl (decide_eq_true (by rw [textO_yes hgt, htt]))) ?_
            refine JL.go trivial (RX.assignv (v := Value.bool _) rfl) ?_
            refine JL.nil ?_
            refine J.ret1 (v := Value.bool _) Tryd.func5 rfl rfl ?_
            first
            | exact ⟨_, rfl, rfl, H.drop.drop.drop.drop⟩
            | exact ⟨_, rfl, congrArg Value.bool (by rw [(e8_ie hE.b.t8 _).2]; exact hgt), H.drop.drop.drop.drop⟩
end Go.Proofs.YtinbeaaloailnaaDoor

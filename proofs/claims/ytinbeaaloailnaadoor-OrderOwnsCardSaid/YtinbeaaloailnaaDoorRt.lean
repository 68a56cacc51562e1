/- The law OrderParses. -/
import Derived.Test.YtinbeaaloailnaaDoorRs
import Derived.Test.YtinbeaaloailnaaDoorBk
namespace Go.Proofs.YtinbeaaloailnaaDoor
open Go Go.Eng
set_option maxRecDepth 100000
set_option linter.unusedVariables false
set_option linter.unusedSimpArgs false
theorem cl11 : callable Tryd.prog 11 = true := by kernel_rfl
theorem cl13 : callable Tryd.prog 13 = true := by kernel_rfl
theorem errs_ie {F : List Seg} {E : Nat → Value} {Q : Nat → Addr} (h : Errs F E Q) : E368 F E := ⟨h.at_ 3 (by decide) (by decide), h.at_ 6 (by decide) (by decide), h.at_ 8 (by decide) (by decide)⟩
theorem ParseR.both {E : Nat → Value} {s : List UInt8} {v : Value} {sg : Seg} (h : ParseR (errV2 E) (parseS s) v sg) : ∃ k n p m c pl code, v = .tuple #[.agg (tv k n p m c).toArray, .int .i64 (pl : Nat), errV E code] ∧ code ≤ 19 ∧
    ((code = 0 ∧ pl = 0 ∧ ∃ t, parseS s = .ok t ∧ t.Own (tv k n p m c) sg) ∨ (tv k n p m c = tv 0 0 none 0 0 ∧ parseS s = .err pl code)) := by
  rcases parse_any s with ⟨t, ht⟩ | ⟨pl, cd, he, hc, _⟩
  · rw [ht] at h
    obtain ⟨k, n, p, m, c, rfl, ho⟩ := h.ok
    exact ⟨k, n, p, m, c, 0, 0, rfl, by decide, .inl ⟨rfl, rfl, t, ht, ho⟩⟩
  · rw [he] at h
    obtain ⟨rfl, rfl⟩ := h.err
    refine ⟨0, 0, none, 0, 0, pl, cd, rfl, by omega, .inr ⟨rfl, he⟩⟩
/-- Both answers lie as one tree, and have one place and one number. -/
theorem both_same {s : List UInt8} {va vb : List Value} {sa sb : Seg} {pl pl2 cd cd2 : Nat} {F F2 : List Seg}
    (ha : (cd = 0 ∧ pl = 0 ∧ ∃ t, parseS s = .ok t ∧ t.Own va sa) ∨ (va = tv 0 0 none 0 0 ∧ parseS s = .err pl cd)) (hb : (cd2 = 0 ∧ pl2 = 0 ∧ ∃ t, parseS s = .ok t ∧ t.Own vb sb) ∨ (vb = tv 0 0 none 0 0 ∧ parseS s = .err pl2 cd2)) :
    pl = pl2 ∧ cd = cd2 ∧ ∃ t : Tr, t.wide ∧ t.Is (sa :: F) va ∧ t.Is (sb :: F2) vb := by
  rcases ha with ⟨rfl, rfl, t, ht, hot⟩ | ⟨rfl, he⟩
  · rcases hb with ⟨rfl, rfl, t2, ht2, hot2⟩ | ⟨_, he2⟩
    · rw [ht] at ht2
      injection ht2 with e
      subst e
      exact ⟨rfl, rfl, t, wide_small _ t (Nat.le_refl _) (by have := (parse_back ht).2.2; omega), hot.is, hot2.is⟩
    · rw [ht] at he2; cases he2
  · rcases hb with ⟨_, _, t2, ht2, _⟩ | ⟨rfl, he2⟩
    · rw [he] at ht2; cases ht2
    · rw [he] at he2
      injection he2 with e1 e2
      subst e1 e2
      refine ⟨rfl, rfl, zeroT, ?_, (Tr.Own.leaf.is).mono (L := [] :: F) ?_, (Tr.Own.leaf.is).mono (L := [] :: F2) ?_⟩
      · unfold zeroT; rw [Tr.wide, wideL]; exact ⟨by simp, trivial⟩
      · intro e h; simp only [List.flatten_cons, List.nil_append, List.mem_append] at h ⊢; exact .inr h
      · intro e h; simp only [List.flatten_cons, List.nil_append, List.mem_append] at h ⊢; exact .inr h
theorem OrderParses_b {w0 w : World} {F : List Seg} (H : Hp w0 w F) {E : Nat → Value} {Q : Nat → Addr} (hE : Errs F E Q) (hg : GTab F) {s : List UInt8} (hs : s.length ≤ 9223372036854775807) : Ret Tryd.prog 3 [.string ⟨s.toArray⟩] w fun v w' => v = .bool true ∧ Hp w0 w' F := by
  refine Calls.of_J (n := 39) Tryd.func3 rfl rfl rfl ?_
  refine J.seq ?_
  refine J.region ?_
  refine JL.go trivial (RX.assign) ?_
  refine JL.nil ?_
  refine J.seq ?_
  refine J.region ?_
  refine JL.does trivial (EX.call rfl cl9 rfl ((lives_b H (errs_ie hE) hg))) ?_
  rintro _ w ⟨rfl, H⟩
  refine JL.go trivial (RX.assignv (v := Value.bool _) rfl) ?_
  refine JL.nil ?_
  refine J.seq ?_
  refine J.seq ?_
  refine J.region ?_
  refine JL.go trivial (RX.movev (v := Value.bool _) rfl) ?_
  refine JL.go trivial (RX.not rfl) ?_
  refine JL.nil ?_
  refine J.cond_f rfl rfl ?_
  refine J.skip ?_
  refine J.seq ?_
  refine J.region ?_
  refine JL.go trivial (RX.movev (v := Value.string _) rfl) ?_
  refine JL.does trivial (EX.call rfl cl10 rfl ((Parse_b H (errs_ie hE) (s := s) hs))) ?_
  rintro _ w ⟨sa, hpa, H⟩
  obtain ⟨k, n, p, m, c, pl, cd, rfl, hcd, ha⟩ := hpa.both
  refine JL.go trivial (RX.movev (v := Value.tuple _) rfl) ?_
  refine JL.go trivial (RX.extract (v := .agg (tv k n p m c).toArray) rfl rfl) ?_
  refine JL.go trivial (RX.extract (v := .int .i64 (pl : Nat)) rfl rfl) ?_
  refine JL.go trivial (RX.extract (v := errV E cd) rfl rfl) ?_
  refine JL.does trivial (EX.alloc H zr25 rfl) ?_
  rintro _ w ⟨b4, rfl, H⟩
  refine JL.does trivial (EX.storeAgg H rfl rfl (i := 0) (vs := tv k n p m c) (l' := tv k n p m c) rfl tv_cell (by simp) sz25 rfl rfl) ?_
  rintro _ w H
  refine JL.go trivial (RX.assignv (v := Value.int _ _) rfl) ?_
  refine JL.go trivial (RX.assignv (v := errV E cd) rfl) ?_
  refine JL.nil ?_
  refine J.seq ?_
  refine J.region ?_
  refine JL.go trivial (RX.movev (v := Value.string _) rfl) ?_
  refine JL.does trivial (EX.call rfl cl11 rfl ((rParse_b H (s := s) hs))) ?_
  rintro _ w ⟨sb, ⟨k2, n2, p2, m2, c2, pl2, cd2, rfl, hb⟩, H⟩
  obtain ⟨hpl, hcc, t, hwt, hta, htb⟩ := both_same (F := F) (F2 := [(b4, cel (tv k n p m c) 25)] :: sa :: F) ha hb
  subst hpl hcc
  refine JL.go trivial (RX.movev (v := Value.tuple _) rfl) ?_
  refine JL.go trivial (RX.extract (v := .agg (tv k2 n2 p2 m2 c2).toArray) rfl rfl) ?_
  refine JL.go trivial (RX.extract (v := .int .i64 (pl : Nat)) rfl rfl) ?_
  refine JL.go trivial (RX.extract (v := .int .i64 (cd : Nat)) rfl rfl) ?_
  refine JL.does trivial (EX.alloc H zr25 rfl) ?_
  rintro _ w ⟨b7, rfl, H⟩
  refine JL.does trivial (EX.storeAgg H rfl rfl (i := 0) (vs := tv k2 n2 p2 m2 c2) (l' := tv k2 n2 p2 m2 c2) rfl tv_cell (by simp) sz25 rfl rfl) ?_
  rintro _ w H
  refine JL.go trivial (RX.assignv (v := Value.int _ _) rfl) ?_
  refine JL.go trivial (RX.assignv (v := Value.int _ _) rfl) ?_
  refine JL.nil ?_
  refine J.seq ?_
  refine J.region ?_
  refine JL.go trivial (RX.loadAgg H rfl (i := 2) (vs := tv k n p m c) rfl rfl ag25) ?_
  refine JL.go trivial (RX.loadAgg H rfl (i := 0) (vs := tv k2 n2 p2 m2 c2) rfl rfl ag25) ?_
  refine JL.does trivial (EX.call rfl cl12 rfl ((rSame_b t hwt t _ _ _ _ _ hwt H (Tr.Is.cons (Tr.Is.cons (Tr.Is.cons hta))) (Tr.Is.cons htb)))) ?_
  rintro _ w ⟨rfl, H⟩
  rw [(Tr.same_eq t t).2 rfl]
  refine JL.go trivial (RX.movev (v := Value.bool _) rfl) ?_
  refine JL.splitS 28 rfl (fun hg3 => ?_) (fun hg3 => ?_)
  · skip
    first | have hg3p := of_decide_eq_true hg3 | skip
    refine JL.go ⟨_, rfl, hg3⟩ (RX.movev (v := Value.int _ _) rfl) ?_
    refine JL.go ⟨_, rfl, hg3⟩ (RX.movev (v := Value.int _ _) rfl) ?_
    refine JL.go ⟨_, rfl, hg3⟩ (RX.eq rfl rfl) ?_
    refine JL.go trivial (RX.pick_t rfl hg3) ?_
    refine JL.go trivial (RX.movev (v := Value.bool _) rfl) ?_
    refine JL.splitS 33 rfl (fun hg8 => ?_) (fun hg8 => ?_)
    · skip
      first | have hg8p := of_decide_eq_true hg8 | skip
      refine JL.go ⟨_, rfl, hg8⟩ (RX.movev (v := errV E cd) rfl) ?_
      refine JL.does ⟨_, rfl, hg8⟩ (EX.call rfl cl13 rfl ((Num_b H hE.cons.cons.cons.cons hcd))) ?_
      rintro _ w ⟨rfl, H⟩
      refine JL.go ⟨_, rfl, hg8⟩ (RX.movev (v := Value.int _ _) rfl) ?_
      refine JL.go ⟨_, rfl, hg8⟩ (RX.eq rfl rfl) ?_
      refine JL.go trivial (RX.pick_t rfl hg8) ?_
      refine JL.go trivial (RX.assignv (v := Value.bool _) rfl) ?_
      refine JL.nil ?_
      refine J.ret1 (v := Value.bool _) Tryd.func3 rfl rfl ?_
      exact ⟨_, rfl, by rw [decide_eq_true rfl], H.drop.drop.drop.drop⟩
    · skip
      first | have hg8p := of_decide_eq_false hg8 | skip
      exfalso
      exact of_decide_eq_false hg8 rfl
  · skip
    first | have hg3p := of_decide_eq_false hg3 | skip
    exfalso
    cases hg3
end Go.Proofs.YtinbeaaloailnaaDoor

/- The reference parser: ends. -/
import Derived.Test.YtinbeaaloailnaaDoorRp
namespace Go.Proofs.YtinbeaaloailnaaDoor
open Go Go.Eng
set_option maxRecDepth 100000
set_option linter.unusedVariables false
set_option linter.unusedSimpArgs false
theorem ag82 : aggOf Tryd.prog 82 = some 3 := by kernel_rfl
theorem fo82_0 : fieldOff Tryd.prog 82 0 = some 0 := by kernel_rfl
theorem sl55 : sliceOf Tryd.prog 55 = some (82, 3) := by kernel_rfl
theorem sz82 : szOf Tryd.prog 82 = some 3 := by kernel_rfl
theorem zr82 : (Tryd.prog.info? 82).bind (·.zero) = some (.agg #[.int .i64 0, .int .i64 0, .slice none 0 0]) := by kernel_rfl

def EndR (bp : Nat) (s r : List UInt8) (st : List Tr) (t : Tr) (w0 : World) (F : List Seg) (v : Value) (w' : World) : Prop :=
  ∃ (k n : Int) (p1 : Option Addr) (m c1 : Nat) (b1 b2 : Bool) (q' : Value) (sl' ss' so' : Seg) (rr : List UInt8), v = .tuple #[.agg (tv k n p1 m c1).toArray, .bool b1, .bool b2] ∧ rr <:+ s ∧ Hp w0 w' (PR bp s rr q' :: sl' :: ss' :: so' :: F) ∧
    ((b2 = false ∧ endS st.reverse t r = .fail rr) ∨ (b1 = true ∧ b2 = true ∧ ∃ t', endS st.reverse t r = .done t' rr ∧ t'.Own (tv k n p1 m c1) so') ∨
      (b1 = false ∧ b2 = true ∧ ∃ (p' : Option Addr) (c' : Nat) (xs' : List Value) (st' : List Tr), q' = .slice p' st'.length c' ∧ OwnSl 82 3 p' st'.length c' xs' sl' ∧ KidsOwn st' xs' ss' ∧ (∀ f ∈ st', f.kl ≤ 1) ∧ st'.length ≤ st.length ∧ endS st.reverse t r = .more st'.reverse rr))
theorem take3_no {r r' : List UInt8} {ini : List Tr} {k n : Int} {ks : List Tr} {t : Tr} {b : Bool} (htk : takeP [32, 120, 32] r = (if b then some () else none, r')) (hk : k = 3) (hl : ks.length = 0) : endS (ini ++ [Tr.node k n ks]).reverse t r = if b then .more (ini ++ [Tr.node k n (ks ++ [t])]).reverse r' else .fail r' := by
  rw [endS_snoc, if_pos ⟨hk, hl⟩, htk]
  cases b <;> rfl
theorem take1_no {r r' : List UInt8} {ini : List Tr} {k n : Int} {ks : List Tr} {t : Tr} {b : Bool} (htk : takeP [41] r = (if b then some () else none, r')) (h : ¬ (k = 3 ∧ ks.length = 0)) : endS (ini ++ [Tr.node k n ks]).reverse t r = if b then endS ini.reverse (Tr.node k n (ks ++ [t])) r' else .fail r' := by
  rw [endS_snoc, if_neg h, htk]
  cases b <;> rfl
theorem Tr.Own.open_ {k n : Int} {ks : List Tr} {vs : List Value} {s : Seg} (h : (Tr.node k n ks).Own vs s) : ∃ p c xs sl ss, vs = tv k n p ks.length c ∧ OwnSl 25 3 p ks.length c xs sl ∧ KidsOwn ks xs ss ∧ s = sl ++ ss := by
  rw [Tr.Own] at h; exact h
theorem OwnSl.top {e g n c : Nat} {xa fa va l : List Value} (h : OwnSl e 3 (some ⟨g, 0, none⟩) n c (xa ++ fa) [(g, cel l e)]) (h3 : fa.length = 3) (v3 : va.length = 3) : OwnSl e 3 (some ⟨g, 0, none⟩) n c (xa ++ va) [(g, cel (setN l xa.length va) e)] := by
  have h1 := h.setN (o := xa.length) (vs := va)
  rw [setN_pre _ _ _ (by omega)] at h1
  exact h1
theorem snoc_of {st : List Tr} (h : 0 < st.length) : ∃ ini f, st = ini ++ [f] := by
  rcases List.eq_nil_or_concat st with e | ⟨l, c, e⟩
  · rw [e] at h; simp at h
  · exact ⟨l, c, by rw [e, List.concat_eq_append]⟩
theorem tv_inj {k n k2 n2 : Int} {p p2 : Option Addr} {m c m2 c2 : Nat} : (tv k n p m c).length = 3 := rfl

set_option maxHeartbeats 1600000 in
theorem rend_b {w0 w : World} {F : List Seg} {s r : List UInt8} {bp : Nat} (hr : r <:+ s) (hs : s.length ≤ 1099511627776) {st : List Tr} {t : Tr} {vt : List Value} {p : Option Addr} {c : Nat} {xs : List Value} {sl ss so : Seg} (hot : t.Own vt so) (ho : OwnSl 82 3 p st.length c xs sl) (hk : KidsOwn st xs ss) (hkl : ∀ f ∈ st, f.kl ≤ 1) (hst : st.length ≤ 1000000) (H : Hp w0 w (PR bp s r (.slice p st.length c) :: sl :: ss :: so :: F)) : Ret Tryd.prog 35 [.pointer (some ⟨bp, 0, none⟩), .agg vt.toArray] w fun v w' => EndR bp s r st t w0 F v w' := by
  refine Calls.of_J (n := 85) Tryd.func35 rfl rfl rfl ?_
  refine J.seq ?_
  obtain ⟨kt, nt, pt, mt, ct, rfl⟩ := hot.shape
  refine J.region ?_
  refine JL.does trivial (EX.box (v := Value.agg _) H rfl rfl) ?_
  rintro _ w ⟨b3, rfl, H⟩
  refine JL.does trivial (EX.alloc H zr25 rfl) ?_
  rintro _ w ⟨b4, rfl, H⟩
  refine JL.go trivial (RX.assign) ?_
  refine JL.go trivial (RX.assign) ?_
  refine JL.nil ?_
  refine J.seq ?_
  refine J.block ?_
  refine J.loop (ι := Tr × List UInt8 × List Tr × List Value × Option Addr × Nat × List Value × Seg × Seg × Seg) (S := fun z => []) (Φ := fun z w => z.1.Own z.2.2.2.1 z.2.2.2.2.2.2.2.2.2 ∧ OwnSl 82 3 z.2.2.2.2.1 z.2.2.1.length z.2.2.2.2.2.1 z.2.2.2.2.2.2.1 z.2.2.2.2.2.2.2.1 ∧ KidsOwn z.2.2.1 z.2.2.2.2.2.2.1 z.2.2.2.2.2.2.2.2.1 ∧ z.2.1 <:+ s ∧ (∀ f ∈ z.2.2.1, f.kl ≤ 1) ∧ z.2.2.1.length ≤ st.length ∧ endS st.reverse t r = endS z.2.2.1.reverse z.1 z.2.1 ∧ Hp w0 w ([(b4, cel (tv 0 0 none 0 0) 25)] :: [(b3, cel z.2.2.2.1 25)] :: PR bp s z.2.1 (.slice z.2.2.2.2.1 z.2.2.1.length z.2.2.2.2.2.1) :: z.2.2.2.2.2.2.2.1 :: z.2.2.2.2.2.2.2.2.1 :: z.2.2.2.2.2.2.2.2.2 :: F)) (μ := fun z => z.2.2.1.length) (C := [(0, _), (3, _), (4, _)]) (t, r, st, tv kt nt pt mt ct, p, c, xs, sl, ss, so) ⟨rfl, rfl, rfl, trivial⟩ trivial ?_ ?_
  · exact ⟨hot, ho, hk, hr, hkl, Nat.le_refl _, rfl, H⟩
  clear H hot ho hk hr hkl
  rintro ⟨t1, r1, st1, vt, p1, c1, xs1, sl1, ss1, so⟩ ρ w ⟨hot, ho, hk, hr, hkl, hstl, heq, H⟩ IH
  simp only at hot ho hk hr hkl hstl heq H
  obtain ⟨kt, nt, pt, mt, ct, rfl⟩ := hot.shape
  dsimp only
  refine J.seq ?_
  refine J.seq ?_
  refine J.region ?_
  refine JL.go trivial (RX.movev (v := Value.pointer _) rfl) ?_
  refine JL.go trivial (RX.nilCheck rfl) ?_
  refine JL.go trivial (RX.fieldAddr rfl fo57_2 rfl) ?_
  refine JL.go trivial (RX.load H rfl (i := 2) (v := .slice p1 st1.length c1) rfl rfl one55) ?_
  refine JL.go trivial (RX.len_slice rfl (by rw [sl55]; rfl) rfl) ?_
  refine JL.go trivial (RX.gt rfl rfl) ?_
  refine JL.nil ?_
  refine J.cond_d rfl (fun hpos => ?_) (fun hpos => ?_)
  · skip
    obtain ⟨ini, f, hie⟩ : ∃ ini f, st1 = ini ++ [f] := snoc_of (by omega)
    subst hie
    obtain ⟨kf, nf, ks2⟩ := f
    have hk2l : ks2.length ≤ 1 := hkl (.node kf nf ks2) (by simp)
    have hil : (ini ++ [Tr.node kf nf ks2]).length = ini.length + 1 := by simp
    obtain ⟨xa, fa, sa, s2, hxs, hss, hka, hfo⟩ := hk.unsnoc
    obtain ⟨p2, c2, ys, sl2, ss2, hfa, ho2, hks2, hs2⟩ := hfo.open_
    obtain ⟨g, l, hp1, hsl1, hlc, hll, hlt⟩ := ho.ptr (by omega)
    subst hxs hss hfa hs2 hp1 hsl1
    have hxal := hka.kids.len
    have hrd := top_read hlt rfl rfl
    rw [hxal] at hrd
    rw [hil] at H ho hstl
    have hysl := ho2.1
    have hysc := hks2.kids.cells
    replace H : Hp w0 w (sl2 :: ss2 :: sa :: [(b4, cel (tv 0 0 none 0 0) 25)] :: [(b3, cel (tv kt nt pt mt ct) 25)] :: PR bp s r1 (.slice (some ⟨g, 0, none⟩) (ini.length + 1) c1) :: [(g, cel l 82)] :: so :: F) := ((H.pull 4 rfl).split.pull 1 rfl).split
    refine J.skip ?_
    refine J.block ?_
    refine J.seq ?_
    refine J.held (fun w => Hp w0 w (sl2 :: ss2 :: sa :: [(b4, cel (tv 0 0 none 0 0) 25)] :: [(b3, cel (tv kt nt pt mt ct) 25)] :: PR bp s r1 (.slice (some ⟨g, 0, none⟩) (ini.length + 1) c1) :: [(g, cel l 82)] :: so :: F)) hmix fun w hs => ?_
    replace H := H.same hs; clear hs
    have hS : Hp w0 w (sl2 :: ss2 :: sa :: [(b4, cel (tv 0 0 none 0 0) 25)] :: [(b3, cel (tv kt nt pt mt ct) 25)] :: PR bp s r1 (.slice (some ⟨g, 0, none⟩) (ini.length + 1) c1) :: [(g, cel l 82)] :: so :: F) := by first | exact H | exact H.drop | exact H.drop.drop | exact H.drop.drop.drop | exact H.drop.drop.drop.drop | exact H.drop.drop.drop.drop.drop | exact H.drop.drop.drop.drop.drop.drop | exact H.drop.drop.drop.drop.drop.drop.drop | exact H.drop.drop.drop.drop.drop.drop.drop.drop
    refine JH.take 0 (listed' := [true, false, false, false, false, false, false, false, false, false, false, false, false, false]) rfl (by kernel_rfl) (by kernel_rfl) (by kernel_rfl) rfl trivial (fun w H => RX.movev (v := Value.pointer _) rfl) hS ?_
    refine JH.take 1 (listed' := [true, true, false, false, false, false, false, false, false, false, false, false, false, false]) rfl (by kernel_rfl) (by kernel_rfl) (by kernel_rfl) rfl trivial (fun w H => RX.nilCheck rfl) hS ?_
    refine JH.take 2 (listed' := [true, true, true, false, false, false, false, false, false, false, false, false, false, false]) rfl (by kernel_rfl) (by kernel_rfl) (by kernel_rfl) rfl trivial (fun w H => RX.fieldAddr rfl fo57_2 rfl) hS ?_
    refine JH.take 3 (listed' := [true, true, true, true, false, false, false, false, false, false, false, false, false, false]) rfl (by kernel_rfl) (by kernel_rfl) (by kernel_rfl) rfl trivial (fun w H => RX.load H rfl (i := 5) (v := .slice (some ⟨g, 0, none⟩) (ini.length + 1) c1) rfl rfl one55) hS ?_
    refine JH.take 4 (listed' := [true, true, true, true, true, false, false, false, false, false, false, false, false, false]) rfl (by kernel_rfl) (by kernel_rfl) (by kernel_rfl) rfl trivial (fun w H => RX.movev (v := Value.pointer _) rfl) hS ?_
    refine JH.take 5 (listed' := [true, true, true, true, true, true, false, false, false, false, false, false, false, false]) rfl (by kernel_rfl) (by kernel_rfl) (by kernel_rfl) rfl trivial (fun w H => RX.nilCheck rfl) hS ?_
    refine JH.take 6 (listed' := [true, true, true, true, true, true, true, false, false, false, false, false, false, false]) rfl (by kernel_rfl) (by kernel_rfl) (by kernel_rfl) rfl trivial (fun w H => RX.fieldAddr rfl fo57_2 rfl) hS ?_
    refine JH.take 7 (listed' := [true, true, true, true, true, true, true, true, false, false, false, false, false, false]) rfl (by kernel_rfl) (by kernel_rfl) (by kernel_rfl) rfl trivial (fun w H => RX.load H rfl (i := 5) (v := .slice (some ⟨g, 0, none⟩) (ini.length + 1) c1) rfl rfl one55) hS ?_
    refine JH.take 8 (listed' := [true, true, true, true, true, true, true, true, true, false, false, false, false, false]) rfl (by kernel_rfl) (by kernel_rfl) (by kernel_rfl) rfl trivial (fun w H => RX.len_slice rfl (by rw [sl55]; rfl) rfl) hS ?_
    refine JH.take 9 (listed' := [true, true, true, true, true, true, true, true, true, true, false, false, false, false]) rfl (by kernel_rfl) (by kernel_rfl) (by kernel_rfl) rfl trivial (fun w H => RX.sub rfl rfl (w_i64 (r := ((ini.length : Nat) : Int)) (by omega) (by omega) (by omega))) hS ?_
    refine JH.take 10 (listed' := [true, true, true, true, true, true, true, true, true, true, true, false, false, false]) rfl (by kernel_rfl) (by kernel_rfl) (by kernel_rfl) rfl trivial (fun w H => RX.indexAddr rfl rfl sl55 (by omega) (by omega) (o' := ini.length * 3) (by omega)) hS ?_
    refine JH.take 11 (listed' := [true, true, true, true, true, true, true, true, true, true, true, true, false, false]) rfl (by kernel_rfl) (by kernel_rfl) (by kernel_rfl) rfl trivial (fun w H => RX.loadAgg H rfl (i := 6) (l := l) (vs := tv kf nf p2 ks2.length c2) rfl hrd ag82) hS ?_
    refine JH.all [12] (by kernel_rfl) (by decide) ?_
    refine JHO.does (listed' := [true, true, true, true, true, true, true, true, true, true, true, true, true, false]) rfl rfl trivial (EX.alloc H zr82 rfl) ?_
    rintro _ w ⟨b7, rfl, H⟩
    have hS : Hp w0 w (sl2 :: ss2 :: sa :: [(b4, cel (tv 0 0 none 0 0) 25)] :: [(b3, cel (tv kt nt pt mt ct) 25)] :: PR bp s r1 (.slice (some ⟨g, 0, none⟩) (ini.length + 1) c1) :: [(g, cel l 82)] :: so :: F) := by first | exact H | exact H.drop | exact H.drop.drop | exact H.drop.drop.drop | exact H.drop.drop.drop.drop | exact H.drop.drop.drop.drop.drop | exact H.drop.drop.drop.drop.drop.drop | exact H.drop.drop.drop.drop.drop.drop.drop | exact H.drop.drop.drop.drop.drop.drop.drop.drop
    refine ⟨hS, ?_⟩
    refine JH.all [13] (by kernel_rfl) (by decide) ?_
    refine JHO.does (listed' := [true, true, true, true, true, true, true, true, true, true, true, true, true, true]) rfl rfl trivial (EX.storeAgg H rfl rfl (i := 0) (vs := tv kf nf p2 ks2.length c2) (l' := tv kf nf p2 ks2.length c2) rfl tv_cell (by simp) sz82 rfl rfl) ?_
    rintro _ w H
    have hS : Hp w0 w (sl2 :: ss2 :: sa :: [(b4, cel (tv 0 0 none 0 0) 25)] :: [(b3, cel (tv kt nt pt mt ct) 25)] :: PR bp s r1 (.slice (some ⟨g, 0, none⟩) (ini.length + 1) c1) :: [(g, cel l 82)] :: so :: F) := by first | exact H | exact H.drop | exact H.drop.drop | exact H.drop.drop.drop | exact H.drop.drop.drop.drop | exact H.drop.drop.drop.drop.drop | exact H.drop.drop.drop.drop.drop.drop | exact H.drop.drop.drop.drop.drop.drop.drop | exact H.drop.drop.drop.drop.drop.drop.drop.drop
    refine ⟨hS, ?_⟩
    refine JH.done (by kernel_rfl) ?_
    refine J.seq ?_
    refine J.join (ι := Option Addr × Nat × Seg) (fun z => []) (fun z w => OwnSl 25 3 z.1 (ks2 ++ [t1]).length z.2.1 (ys ++ tv kt nt pt mt ct) z.2.2 ∧ Hp w0 w (z.2.2 :: [(b7, cel (tv kf nf z.1 (ks2 ++ [t1]).length z.2.1) 82)] :: ss2 :: sa :: [(b4, cel (tv 0 0 none 0 0) 25)] :: [(b3, cel (tv kt nt pt mt ct) 25)] :: PR bp s r1 (.slice (some ⟨g, 0, none⟩) (ini.length + 1) c1) :: [(g, cel l 82)] :: so :: F)) [(0, _), (3, _), (4, _), (7, _)] ⟨rfl, rfl, rfl, rfl, trivial⟩ ?_ ?_
    rotate_left
    · skip
      intro k2 hk2
      refine J.held (fun w => Hp w0 w (sl2 :: ss2 :: sa :: [(b4, cel (tv 0 0 none 0 0) 25)] :: [(b3, cel (tv kt nt pt mt ct) 25)] :: PR bp s r1 (.slice (some ⟨g, 0, none⟩) (ini.length + 1) c1) :: [(g, cel l 82)] :: so :: F)) hmix fun w hs => ?_
      replace H := H.same hs; clear hs
      have hS : Hp w0 w (sl2 :: ss2 :: sa :: [(b4, cel (tv 0 0 none 0 0) 25)] :: [(b3, cel (tv kt nt pt mt ct) 25)] :: PR bp s r1 (.slice (some ⟨g, 0, none⟩) (ini.length + 1) c1) :: [(g, cel l 82)] :: so :: F) := by first | exact H | exact H.drop | exact H.drop.drop | exact H.drop.drop.drop | exact H.drop.drop.drop.drop | exact H.drop.drop.drop.drop.drop | exact H.drop.drop.drop.drop.drop.drop | exact H.drop.drop.drop.drop.drop.drop.drop | exact H.drop.drop.drop.drop.drop.drop.drop.drop
      refine JH.take 1 (listed' := [false, true, false, false, false, false, false, false, false, false, false]) rfl (by kernel_rfl) (by kernel_rfl) (by kernel_rfl) rfl trivial (fun w H => RX.fieldAddr rfl fo82_0 rfl) hS ?_
      refine JH.take 2 (listed' := [false, true, true, false, false, false, false, false, false, false, false]) rfl (by kernel_rfl) (by kernel_rfl) (by kernel_rfl) rfl trivial (fun w H => RX.fieldAddr rfl fo25_2 rfl) hS ?_
      refine JH.take 5 (listed' := [false, true, true, false, false, true, false, false, false, false, false]) rfl (by kernel_rfl) (by kernel_rfl) (by kernel_rfl) rfl trivial (fun w H => RX.loadAgg H rfl (i := 4) (vs := tv kt nt pt mt ct) rfl rfl ag25) hS ?_
      refine JH.all [0, 3, 6] (by kernel_rfl) (by decide) ?_
      refine ⟨?_, ?_, ?_⟩
      · skip
        refine JHO.does (listed' := [true, true, true, false, false, true, false, false, false, false, false]) rfl rfl trivial (EX.buildSlice0 H elO) ?_
        rintro _ w ⟨b0, rfl, H⟩
        have hS : Hp w0 w (sl2 :: ss2 :: sa :: [(b4, cel (tv 0 0 none 0 0) 25)] :: [(b3, cel (tv kt nt pt mt ct) 25)] :: PR bp s r1 (.slice (some ⟨g, 0, none⟩) (ini.length + 1) c1) :: [(g, cel l 82)] :: so :: F) := by first | exact H | exact H.drop | exact H.drop.drop | exact H.drop.drop.drop | exact H.drop.drop.drop.drop | exact H.drop.drop.drop.drop.drop | exact H.drop.drop.drop.drop.drop.drop | exact H.drop.drop.drop.drop.drop.drop.drop | exact H.drop.drop.drop.drop.drop.drop.drop.drop
        refine ⟨hS, ?_⟩
        refine JH.all [3, 6] (by kernel_rfl) (by decide) ?_
        refine ⟨?_, ?_⟩
        · skip
          refine JHO.go (listed' := [true, true, true, true, false, true, false, false, false, false, false]) rfl rfl trivial (by first | exact RX.load H rfl (i := 0) (v := .slice p2 ks2.length c2) rfl rfl one23 | exact RX.load H rfl (i := 1) (v := .slice p2 ks2.length c2) rfl rfl one23 | exact RX.load H rfl (i := 2) (v := .slice p2 ks2.length c2) rfl rfl one23) hS ?_
          refine JH.all [4, 6] (by kernel_rfl) (by decide) ?_
          refine ⟨?_, ?_⟩
          · skip
            refine JHO.does (listed' := [true, true, true, true, true, true, false, false, false, false, false]) rfl rfl trivial (by first | exact EX.append (ys := ys) (L' := fun s' => s' :: [(b7, cel (tv kf nf p2 ks2.length c2) 82)] :: sl2 :: ss2 :: sa :: [(b4, cel (tv 0 0 none 0 0) 25)] :: [(b3, cel (tv kt nt pt mt ct) 25)] :: PR bp s r1 (.slice (some ⟨g, 0, none⟩) (ini.length + 1) c1) :: [(g, cel l 82)] :: so :: F) H elO rfl rfl (i := 0) rfl OwnSl.empty ho2.slAt.cons.cons (by omega) hysc (by decide) (by omega) (by omega) (fun _ => rfl) | exact EX.append (ys := ys) (L' := fun s' => [(bs, cel (tv kt nt pt mt ct) 25)] :: s' :: [(b7, cel (tv kf nf p2 ks2.length c2) 82)] :: sl2 :: ss2 :: sa :: [(b4, cel (tv 0 0 none 0 0) 25)] :: [(b3, cel (tv kt nt pt mt ct) 25)] :: PR bp s r1 (.slice (some ⟨g, 0, none⟩) (ini.length + 1) c1) :: [(g, cel l 82)] :: so :: F) H elO rfl rfl (i := 1) rfl OwnSl.empty ho2.slAt.cons.cons.cons (by omega) hysc (by decide) (by omega) (by omega) (fun _ => rfl) | exact EX.append (ys := ys) (L' := fun s' => s' :: [(bs, cel (tv kt nt pt mt ct) 25)] :: [(b7, cel (tv kf nf p2 ks2.length c2) 82)] :: sl2 :: ss2 :: sa :: [(b4, cel (tv 0 0 none 0 0) 25)] :: [(b3, cel (tv kt nt pt mt ct) 25)] :: PR bp s r1 (.slice (some ⟨g, 0, none⟩) (ini.length + 1) c1) :: [(g, cel l 82)] :: so :: F) H elO rfl rfl (i := 0) rfl OwnSl.empty ho2.slAt.cons.cons.cons (by omega) hysc (by decide) (by omega) (by omega) (fun _ => rfl)) ?_
            rintro _ w ⟨pn, cn, sn, rfl, hon, H⟩
            rw [List.nil_append] at hon
            have hS : Hp w0 w (sl2 :: ss2 :: sa :: [(b4, cel (tv 0 0 none 0 0) 25)] :: [(b3, cel (tv kt nt pt mt ct) 25)] :: PR bp s r1 (.slice (some ⟨g, 0, none⟩) (ini.length + 1) c1) :: [(g, cel l 82)] :: so :: F) := by first | exact H | exact H.drop | exact H.drop.drop | exact H.drop.drop.drop | exact H.drop.drop.drop.drop | exact H.drop.drop.drop.drop.drop | exact H.drop.drop.drop.drop.drop.drop | exact H.drop.drop.drop.drop.drop.drop.drop | exact H.drop.drop.drop.drop.drop.drop.drop.drop
            refine ⟨hS, ?_⟩
            refine JH.all [6] (by kernel_rfl) (by decide) ?_
            refine JHO.does (listed' := [true, true, true, true, true, true, true, false, false, false, false]) rfl rfl trivial (EX.buildSlice (pv := [(0, .agg (tv kt nt pt mt ct).toArray)]) (l := tv kt nt pt mt ct) (e := 25) H rfl (by kernel_rfl)) ?_
            rintro _ w ⟨bs, rfl, H⟩
            have hS : Hp w0 w (sl2 :: ss2 :: sa :: [(b4, cel (tv 0 0 none 0 0) 25)] :: [(b3, cel (tv kt nt pt mt ct) 25)] :: PR bp s r1 (.slice (some ⟨g, 0, none⟩) (ini.length + 1) c1) :: [(g, cel l 82)] :: so :: F) := by first | exact H | exact H.drop | exact H.drop.drop | exact H.drop.drop.drop | exact H.drop.drop.drop.drop | exact H.drop.drop.drop.drop.drop | exact H.drop.drop.drop.drop.drop.drop | exact H.drop.drop.drop.drop.drop.drop.drop | exact H.drop.drop.drop.drop.drop.drop.drop.drop
            refine ⟨hS, ?_⟩
            refine JH.all [7] (by kernel_rfl) (by decide) ?_
            refine JHO.does (listed' := [true, true, true, true, true, true, true, true, false, false, false]) rfl rfl trivial (by first | exact EX.append (ys := tv kt nt pt mt ct) (L' := fun s' => [(bs, cel (tv kt nt pt mt ct) 25)] :: s' :: [(b7, cel (tv kf nf p2 ks2.length c2) 82)] :: sl2 :: ss2 :: sa :: [(b4, cel (tv 0 0 none 0 0) 25)] :: [(b3, cel (tv kt nt pt mt ct) 25)] :: PR bp s r1 (.slice (some ⟨g, 0, none⟩) (ini.length + 1) c1) :: [(g, cel l 82)] :: so :: F) H elO rfl rfl (i := 1) rfl hon (SlAt.here rfl) rfl tv_cell (by decide) (by omega) (by omega) (fun _ => rfl) | exact EX.append (ys := tv kt nt pt mt ct) (L' := fun s' => s' :: [(bs, cel (tv kt nt pt mt ct) 25)] :: [(b7, cel (tv kf nf p2 ks2.length c2) 82)] :: sl2 :: ss2 :: sa :: [(b4, cel (tv 0 0 none 0 0) 25)] :: [(b3, cel (tv kt nt pt mt ct) 25)] :: PR bp s r1 (.slice (some ⟨g, 0, none⟩) (ini.length + 1) c1) :: [(g, cel l 82)] :: so :: F) H elO rfl rfl (i := 0) rfl hon (SlAt.here rfl).cons rfl tv_cell (by decide) (by omega) (by omega) (fun _ => rfl)) ?_
            rintro v w ⟨pq, cq, sq, hv, hoq, H⟩
            rw [show 0 + ks2.length + 1 = (ks2 ++ [t1]).length by simp] at hv hoq
            subst hv
            have hS : Hp w0 w (sl2 :: ss2 :: sa :: [(b4, cel (tv 0 0 none 0 0) 25)] :: [(b3, cel (tv kt nt pt mt ct) 25)] :: PR bp s r1 (.slice (some ⟨g, 0, none⟩) (ini.length + 1) c1) :: [(g, cel l 82)] :: so :: F) := by first | exact H | exact H.drop | exact H.drop.drop | exact H.drop.drop.drop | exact H.drop.drop.drop.drop | exact H.drop.drop.drop.drop.drop | exact H.drop.drop.drop.drop.drop.drop | exact H.drop.drop.drop.drop.drop.drop.drop | exact H.drop.drop.drop.drop.drop.drop.drop.drop
            refine ⟨hS, ?_⟩
            refine JH.take 8 (listed' := [true, true, true, true, true, true, true, true, true, false, false]) rfl (by kernel_rfl) (by kernel_rfl) (by kernel_rfl) rfl trivial (fun w H => RX.fieldAddr rfl fo82_0 rfl) hS ?_
            refine JH.take 9 (listed' := [true, true, true, true, true, true, true, true, true, true, false]) rfl (by kernel_rfl) (by kernel_rfl) (by kernel_rfl) rfl trivial (fun w H => RX.fieldAddr rfl fo25_2 rfl) hS ?_
            refine JH.all [10] (by kernel_rfl) (by decide) ?_
            refine JHO.does (listed' := [true, true, true, true, true, true, true, true, true, true, true]) rfl rfl trivial (EX.store (v := Value.slice _ _ _) H rfl rfl (i := 2) (l' := tv kf nf pq (ks2 ++ [t1]).length cq) rfl rfl (by simp) sz23 rfl rfl) ?_
            rintro _ w H
            have hS : Hp w0 w (sl2 :: ss2 :: sa :: [(b4, cel (tv 0 0 none 0 0) 25)] :: [(b3, cel (tv kt nt pt mt ct) 25)] :: PR bp s r1 (.slice (some ⟨g, 0, none⟩) (ini.length + 1) c1) :: [(g, cel l 82)] :: so :: F) := by first | exact H | exact H.drop | exact H.drop.drop | exact H.drop.drop.drop | exact H.drop.drop.drop.drop | exact H.drop.drop.drop.drop.drop | exact H.drop.drop.drop.drop.drop.drop | exact H.drop.drop.drop.drop.drop.drop.drop | exact H.drop.drop.drop.drop.drop.drop.drop.drop
            refine ⟨hS, ?_⟩
            refine JH.done (by kernel_rfl) ?_
            first
            | exact hk2 (pq, cq, sq) _ _ ⟨rfl, rfl, rfl, rfl, trivial⟩ trivial ⟨hoq, (H.drop.pull 2 rfl).drop⟩
            | exact hk2 (pq, cq, sq) _ _ ⟨rfl, rfl, rfl, rfl, trivial⟩ trivial ⟨hoq, ((H.pull 1 rfl).drop.pull 2 rfl).drop⟩
          · skip
            refine JHO.does (listed' := [true, true, true, true, false, true, true, false, false, false, false]) rfl rfl trivial (EX.buildSlice (pv := [(0, .agg (tv kt nt pt mt ct).toArray)]) (l := tv kt nt pt mt ct) (e := 25) H rfl (by kernel_rfl)) ?_
            rintro _ w ⟨bs, rfl, H⟩
            have hS : Hp w0 w (sl2 :: ss2 :: sa :: [(b4, cel (tv 0 0 none 0 0) 25)] :: [(b3, cel (tv kt nt pt mt ct) 25)] :: PR bp s r1 (.slice (some ⟨g, 0, none⟩) (ini.length + 1) c1) :: [(g, cel l 82)] :: so :: F) := by first | exact H | exact H.drop | exact H.drop.drop | exact H.drop.drop.drop | exact H.drop.drop.drop.drop | exact H.drop.drop.drop.drop.drop | exact H.drop.drop.drop.drop.drop.drop | exact H.drop.drop.drop.drop.drop.drop.drop | exact H.drop.drop.drop.drop.drop.drop.drop.drop
            refine ⟨hS, ?_⟩
            refine JH.all [4] (by kernel_rfl) (by decide) ?_
            refine JHO.does (listed' := [true, true, true, true, true, true, true, false, false, false, false]) rfl rfl trivial (by first | exact EX.append (ys := ys) (L' := fun s' => s' :: [(b7, cel (tv kf nf p2 ks2.length c2) 82)] :: sl2 :: ss2 :: sa :: [(b4, cel (tv 0 0 none 0 0) 25)] :: [(b3, cel (tv kt nt pt mt ct) 25)] :: PR bp s r1 (.slice (some ⟨g, 0, none⟩) (ini.length + 1) c1) :: [(g, cel l 82)] :: so :: F) H elO rfl rfl (i := 0) rfl OwnSl.empty ho2.slAt.cons.cons (by omega) hysc (by decide) (by omega) (by omega) (fun _ => rfl) | exact EX.append (ys := ys) (L' := fun s' => [(bs, cel (tv kt nt pt mt ct) 25)] :: s' :: [(b7, cel (tv kf nf p2 ks2.length c2) 82)] :: sl2 :: ss2 :: sa :: [(b4, cel (tv 0 0 none 0 0) 25)] :: [(b3, cel (tv kt nt pt mt ct) 25)] :: PR bp s r1 (.slice (some ⟨g, 0, none⟩) (ini.length + 1) c1) :: [(g, cel l 82)] :: so :: F) H elO rfl rfl (i := 1) rfl OwnSl.empty ho2.slAt.cons.cons.cons (by omega) hysc (by decide) (by omega) (by omega) (fun _ => rfl) | exact EX.append (ys := ys) (L' := fun s' => s' :: [(bs, cel (tv kt nt pt mt ct) 25)] :: [(b7, cel (tv kf nf p2 ks2.length c2) 82)] :: sl2 :: ss2 :: sa :: [(b4, cel (tv 0 0 none 0 0) 25)] :: [(b3, cel (tv kt nt pt mt ct) 25)] :: PR bp s r1 (.slice (some ⟨g, 0, none⟩) (ini.length + 1) c1) :: [(g, cel l 82)] :: so :: F) H elO rfl rfl (i := 0) rfl OwnSl.empty ho2.slAt.cons.cons.cons (by omega) hysc (by decide) (by omega) (by omega) (fun _ => rfl)) ?_
            rintro _ w ⟨pn, cn, sn, rfl, hon, H⟩
            rw [List.nil_append] at hon
            have hS : Hp w0 w (sl2 :: ss2 :: sa :: [(b4, cel (tv 0 0 none 0 0) 25)] :: [(b3, cel (tv kt nt pt mt ct) 25)] :: PR bp s r1 (.slice (some ⟨g, 0, none⟩) (ini.length + 1) c1) :: [(g, cel l 82)] :: so :: F) := by first | exact H | exact H.drop | exact H.drop.drop | exact H.drop.drop.drop | exact H.drop.drop.drop.drop | exact H.drop.drop.drop.drop.drop | exact H.drop.drop.drop.drop.drop.drop | exact H.drop.drop.drop.drop.drop.drop.drop | exact H.drop.drop.drop.drop.drop.drop.drop.drop
            refine ⟨hS, ?_⟩
            refine JH.all [7] (by kernel_rfl) (by decide) ?_
            refine JHO.does (listed' := [true, true, true, true, true, true, true, true, false, false, false]) rfl rfl trivial (by first | exact EX.append (ys := tv kt nt pt mt ct) (L' := fun s' => [(bs, cel (tv kt nt pt mt ct) 25)] :: s' :: [(b7, cel (tv kf nf p2 ks2.length c2) 82)] :: sl2 :: ss2 :: sa :: [(b4, cel (tv 0 0 none 0 0) 25)] :: [(b3, cel (tv kt nt pt mt ct) 25)] :: PR bp s r1 (.slice (some ⟨g, 0, none⟩) (ini.length + 1) c1) :: [(g, cel l 82)] :: so :: F) H elO rfl rfl (i := 1) rfl hon (SlAt.here rfl) rfl tv_cell (by decide) (by omega) (by omega) (fun _ => rfl) | exact EX.append (ys := tv kt nt pt mt ct) (L' := fun s' => s' :: [(bs, cel (tv kt nt pt mt ct) 25)] :: [(b7, cel (tv kf nf p2 ks2.length c2) 82)] :: sl2 :: ss2 :: sa :: [(b4, cel (tv 0 0 none 0 0) 25)] :: [(b3, cel (tv kt nt pt mt ct) 25)] :: PR bp s r1 (.slice (some ⟨g, 0, none⟩) (ini.length + 1) c1) :: [(g, cel l 82)] :: so :: F) H elO rfl rfl (i := 0) rfl hon (SlAt.here rfl).cons rfl tv_cell (by decide) (by omega) (by omega) (fun _ => rfl)) ?_
            rintro v w ⟨pq, cq, sq, hv, hoq, H⟩
            rw [show 0 + ks2.length + 1 = (ks2 ++ [t1]).length by simp] at hv hoq
            subst hv
            have hS : Hp w0 w (sl2 :: ss2 :: sa :: [(b4, cel (tv 0 0 none 0 0) 25)] :: [(b3, cel (tv kt nt pt mt ct) 25)] :: PR bp s r1 (.slice (some ⟨g, 0, none⟩) (ini.length + 1) c1) :: [(g, cel l 82)] :: so :: F) := by first | exact H | exact H.drop | exact H.drop.drop | exact H.drop.drop.drop | exact H.drop.drop.drop.drop | exact H.drop.drop.drop.drop.drop | exact H.drop.drop.drop.drop.drop.drop | exact H.drop.drop.drop.drop.drop.drop.drop | exact H.drop.drop.drop.drop.drop.drop.drop.drop
            refine ⟨hS, ?_⟩
            refine JH.take 8 (listed' := [true, true, true, true, true, true, true, true, true, false, false]) rfl (by kernel_rfl) (by kernel_rfl) (by kernel_rfl) rfl trivial (fun w H => RX.fieldAddr rfl fo82_0 rfl) hS ?_
            refine JH.take 9 (listed' := [true, true, true, true, true, true, true, true, true, true, false]) rfl (by kernel_rfl) (by kernel_rfl) (by kernel_rfl) rfl trivial (fun w H => RX.fieldAddr rfl fo25_2 rfl) hS ?_
            refine JH.all [10] (by kernel_rfl) (by decide) ?_
            refine JHO.does (listed' := [true, true, true, true, true, true, true, true, true, true, true]) rfl rfl trivial (EX.store (v := Value.slice _ _ _) H rfl rfl (i := 2) (l' := tv kf nf pq (ks2 ++ [t1]).length cq) rfl rfl (by simp) sz23 rfl rfl) ?_
            rintro _ w H
            have hS : Hp w0 w (sl2 :: ss2 :: sa :: [(b4, cel (tv 0 0 none 0 0) 25)] :: [(b3, cel (tv kt nt pt mt ct) 25)] :: PR bp s r1 (.slice (some ⟨g, 0, none⟩) (ini.length + 1) c1) :: [(g, cel l 82)] :: so :: F) := by first | exact H | exact H.drop | exact H.drop.drop | exact H.drop.drop.drop | exact H.drop.drop.drop.drop | exact H.drop.drop.drop.drop.drop | exact H.drop.drop.drop.drop.drop.drop | exact H.drop.drop.drop.drop.drop.drop.drop | exact H.drop.drop.drop.drop.drop.drop.drop.drop
            refine ⟨hS, ?_⟩
            refine JH.done (by kernel_rfl) ?_
            first
            | exact hk2 (pq, cq, sq) _ _ ⟨rfl, rfl, rfl, rfl, trivial⟩ trivial ⟨hoq, (H.drop.pull 2 rfl).drop⟩
            | exact hk2 (pq, cq, sq) _ _ ⟨rfl, rfl, rfl, rfl, trivial⟩ trivial ⟨hoq, ((H.pull 1 rfl).drop.pull 2 rfl).drop⟩
        · skip
          refine JHO.does (listed' := [true, true, true, false, false, true, true, false, false, false, false]) rfl rfl trivial (EX.buildSlice (pv := [(0, .agg (tv kt nt pt mt ct).toArray)]) (l := tv kt nt pt mt ct) (e := 25) H rfl (by kernel_rfl)) ?_
          rintro _ w ⟨bs, rfl, H⟩
          have hS : Hp w0 w (sl2 :: ss2 :: sa :: [(b4, cel (tv 0 0 none 0 0) 25)] :: [(b3, cel (tv kt nt pt mt ct) 25)] :: PR bp s r1 (.slice (some ⟨g, 0, none⟩) (ini.length + 1) c1) :: [(g, cel l 82)] :: so :: F) := by first | exact H | exact H.drop | exact H.drop.drop | exact H.drop.drop.drop | exact H.drop.drop.drop.drop | exact H.drop.drop.drop.drop.drop | exact H.drop.drop.drop.drop.drop.drop | exact H.drop.drop.drop.drop.drop.drop.drop | exact H.drop.drop.drop.drop.drop.drop.drop.drop
          refine ⟨hS, ?_⟩
          refine JH.all [3] (by kernel_rfl) (by decide) ?_
          refine JHO.go (listed' := [true, true, true, true, false, true, true, false, false, false, false]) rfl rfl trivial (by first | exact RX.load H rfl (i := 0) (v := .slice p2 ks2.length c2) rfl rfl one23 | exact RX.load H rfl (i := 1) (v := .slice p2 ks2.length c2) rfl rfl one23 | exact RX.load H rfl (i := 2) (v := .slice p2 ks2.length c2) rfl rfl one23) hS ?_
          refine JH.all [4] (by kernel_rfl) (by decide) ?_
          refine JHO.does (listed' := [true, true, true, true, true, true, true, false, false, false, false]) rfl rfl trivial (by first | exact EX.append (ys := ys) (L' := fun s' => s' :: [(b7, cel (tv kf nf p2 ks2.length c2) 82)] :: sl2 :: ss2 :: sa :: [(b4, cel (tv 0 0 none 0 0) 25)] :: [(b3, cel (tv kt nt pt mt ct) 25)] :: PR bp s r1 (.slice (some ⟨g, 0, none⟩) (ini.length + 1) c1) :: [(g, cel l 82)] :: so :: F) H elO rfl rfl (i := 0) rfl OwnSl.empty ho2.slAt.cons.cons (by omega) hysc (by decide) (by omega) (by omega) (fun _ => rfl) | exact EX.append (ys := ys) (L' := fun s' => [(bs, cel (tv kt nt pt mt ct) 25)] :: s' :: [(b7, cel (tv kf nf p2 ks2.length c2) 82)] :: sl2 :: ss2 :: sa :: [(b4, cel (tv 0 0 none 0 0) 25)] :: [(b3, cel (tv kt nt pt mt ct) 25)] :: PR bp s r1 (.slice (some ⟨g, 0, none⟩) (ini.length + 1) c1) :: [(g, cel l 82)] :: so :: F) H elO rfl rfl (i := 1) rfl OwnSl.empty ho2.slAt.cons.cons.cons (by omega) hysc (by decide) (by omega) (by omega) (fun _ => rfl) | exact EX.append (ys := ys) (L' := fun s' => s' :: [(bs, cel (tv kt nt pt mt ct) 25)] :: [(b7, cel (tv kf nf p2 ks2.length c2) 82)] :: sl2 :: ss2 :: sa :: [(b4, cel (tv 0 0 none 0 0) 25)] :: [(b3, cel (tv kt nt pt mt ct) 25)] :: PR bp s r1 (.slice (some ⟨g, 0, none⟩) (ini.length + 1) c1) :: [(g, cel l 82)] :: so :: F) H elO rfl rfl (i := 0) rfl OwnSl.empty ho2.slAt.cons.cons.cons (by omega) hysc (by decide) (by omega) (by omega) (fun _ => rfl)) ?_
          rintro _ w ⟨pn, cn, sn, rfl, hon, H⟩
          rw [List.nil_append] at hon
          have hS : Hp w0 w (sl2 :: ss2 :: sa :: [(b4, cel (tv 0 0 none 0 0) 25)] :: [(b3, cel (tv kt nt pt mt ct) 25)] :: PR bp s r1 (.slice (some ⟨g, 0, none⟩) (ini.length + 1) c1) :: [(g, cel l 82)] :: so :: F) := by first | exact H | exact H.drop | exact H.drop.drop | exact H.drop.drop.drop | exact H.drop.drop.drop.drop | exact H.drop.drop.drop.drop.drop | exact H.drop.drop.drop.drop.drop.drop | exact H.drop.drop.drop.drop.drop.drop.drop | exact H.drop.drop.drop.drop.drop.drop.drop.drop
          refine ⟨hS, ?_⟩
          refine JH.all [7] (by kernel_rfl) (by decide) ?_
          refine JHO.does (listed' := [true, true, true, true, true, true, true, true, false, false, false]) rfl rfl trivial (by first | exact EX.append (ys := tv kt nt pt mt ct) (L' := fun s' => [(bs, cel (tv kt nt pt mt ct) 25)] :: s' :: [(b7, cel (tv kf nf p2 ks2.length c2) 82)] :: sl2 :: ss2 :: sa :: [(b4, cel (tv 0 0 none 0 0) 25)] :: [(b3, cel (tv kt nt pt mt ct) 25)] :: PR bp s r1 (.slice (some ⟨g, 0, none⟩) (ini.length + 1) c1) :: [(g, cel l 82)] :: so :: F) H elO rfl rfl (i := 1) rfl hon (SlAt.here rfl) rfl tv_cell (by decide) (by omega) (by omega) (fun _ => rfl) | exact EX.append (ys := tv kt nt pt mt ct) (L' := fun s' => s' :: [(bs, cel (tv kt nt pt mt ct) 25)] :: [(b7, cel (tv kf nf p2 ks2.length c2) 82)] :: sl2 :: ss2 :: sa :: [(b4, cel (tv 0 0 none 0 0) 25)] :: [(b3, cel (tv kt nt pt mt ct) 25)] :: PR bp s r1 (.slice (some ⟨g, 0, none⟩) (ini.length + 1) c1) :: [(g, cel l 82)] :: so :: F) H elO rfl rfl (i := 0) rfl hon (SlAt.here rfl).cons rfl tv_cell (by decide) (by omega) (by omega) (fun _ => rfl)) ?_
          rintro v w ⟨pq, cq, sq, hv, hoq, H⟩
          rw [show 0 + ks2.length + 1 = (ks2 ++ [t1]).length by simp] at hv hoq
          subst hv
          have hS : Hp w0 w (sl2 :: ss2 :: sa :: [(b4, cel (tv 0 0 none 0 0) 25)] :: [(b3, cel (tv kt nt pt mt ct) 25)] :: PR bp s r1 (.slice (some ⟨g, 0, none⟩) (ini.length + 1) c1) :: [(g, cel l 82)] :: so :: F) := by first | exact H | exact H.drop | exact H.drop.drop | exact H.drop.drop.drop | exact H.drop.drop.drop.drop | exact H.drop.drop.drop.drop.drop | exact H.drop.drop.drop.drop.drop.drop | exact H.drop.drop.drop.drop.drop.drop.drop | exact H.drop.drop.drop.drop.drop.drop.drop.drop
          refine ⟨hS, ?_⟩
          refine JH.take 8 (listed' := [true, true, true, true, true, true, true, true, true, false, false]) rfl (by kernel_rfl) (by kernel_rfl) (by kernel_rfl) rfl trivial (fun w H => RX.fieldAddr rfl fo82_0 rfl) hS ?_
          refine JH.take 9 (listed' := [true, true, true, true, true, true, true, true, true, true, false]) rfl (by kernel_rfl) (by kernel_rfl) (by kernel_rfl) rfl trivial (fun w H => RX.fieldAddr rfl fo25_2 rfl) hS ?_
          refine JH.all [10] (by kernel_rfl) (by decide) ?_
          refine JHO.does (listed' := [true, true, true, true, true, true, true, true, true, true, true]) rfl rfl trivial (EX.store (v := Value.slice _ _ _) H rfl rfl (i := 2) (l' := tv kf nf pq (ks2 ++ [t1]).length cq) rfl rfl (by simp) sz23 rfl rfl) ?_
          rintro _ w H
          have hS : Hp w0 w (sl2 :: ss2 :: sa :: [(b4, cel (tv 0 0 none 0 0) 25)] :: [(b3, cel (tv kt nt pt mt ct) 25)] :: PR bp s r1 (.slice (some ⟨g, 0, none⟩) (ini.length + 1) c1) :: [(g, cel l 82)] :: so :: F) := by first | exact H | exact H.drop | exact H.drop.drop | exact H.drop.drop.drop | exact H.drop.drop.drop.drop | exact H.drop.drop.drop.drop.drop | exact H.drop.drop.drop.drop.drop.drop | exact H.drop.drop.drop.drop.drop.drop.drop | exact H.drop.drop.drop.drop.drop.drop.drop.drop
          refine ⟨hS, ?_⟩
          refine JH.done (by kernel_rfl) ?_
          first
          | exact hk2 (pq, cq, sq) _ _ ⟨rfl, rfl, rfl, rfl, trivial⟩ trivial ⟨hoq, (H.drop.pull 2 rfl).drop⟩
          | exact hk2 (pq, cq, sq) _ _ ⟨rfl, rfl, rfl, rfl, trivial⟩ trivial ⟨hoq, ((H.pull 1 rfl).drop.pull 2 rfl).drop⟩
      · skip
        refine JHO.go (listed' := [false, true, true, true, false, true, false, false, false, false, false]) rfl rfl trivial (by first | exact RX.load H rfl (i := 0) (v := .slice p2 ks2.length c2) rfl rfl one23 | exact RX.load H rfl (i := 1) (v := .slice p2 ks2.length c2) rfl rfl one23 | exact RX.load H rfl (i := 2) (v := .slice p2 ks2.length c2) rfl rfl one23) hS ?_
        refine JH.all [0, 6] (by kernel_rfl) (by decide) ?_
        refine ⟨?_, ?_⟩
        · skip
          refine JHO.does (listed' := [true, true, true, true, false, true, false, false, false, false, false]) rfl rfl trivial (EX.buildSlice0 H elO) ?_
          rintro _ w ⟨b0, rfl, H⟩
          have hS : Hp w0 w (sl2 :: ss2 :: sa :: [(b4, cel (tv 0 0 none 0 0) 25)] :: [(b3, cel (tv kt nt pt mt ct) 25)] :: PR bp s r1 (.slice (some ⟨g, 0, none⟩) (ini.length + 1) c1) :: [(g, cel l 82)] :: so :: F) := by first | exact H | exact H.drop | exact H.drop.drop | exact H.drop.drop.drop | exact H.drop.drop.drop.drop | exact H.drop.drop.drop.drop.drop | exact H.drop.drop.drop.drop.drop.drop | exact H.drop.drop.drop.drop.drop.drop.drop | exact H.drop.drop.drop.drop.drop.drop.drop.drop
          refine ⟨hS, ?_⟩
          refine JH.all [4, 6] (by kernel_rfl) (by decide) ?_
          refine ⟨?_, ?_⟩
          · skip
            refine JHO.does (listed' := [true, true, true, true, true, true, false, false, false, false, false]) rfl rfl trivial (by first | exact EX.append (ys := ys) (L' := fun s' => s' :: [(b7, cel (tv kf nf p2 ks2.length c2) 82)] :: sl2 :: ss2 :: sa :: [(b4, cel (tv 0 0 none 0 0) 25)] :: [(b3, cel (tv kt nt pt mt ct) 25)] :: PR bp s r1 (.slice (some ⟨g, 0, none⟩) (ini.length + 1) c1) :: [(g, cel l 82)] :: so :: F) H elO rfl rfl (i := 0) rfl OwnSl.empty ho2.slAt.cons.cons (by omega) hysc (by decide) (by omega) (by omega) (fun _ => rfl) | exact EX.append (ys := ys) (L' := fun s' => [(bs, cel (tv kt nt pt mt ct) 25)] :: s' :: [(b7, cel (tv kf nf p2 ks2.length c2) 82)] :: sl2 :: ss2 :: sa :: [(b4, cel (tv 0 0 none 0 0) 25)] :: [(b3, cel (tv kt nt pt mt ct) 25)] :: PR bp s r1 (.slice (some ⟨g, 0, none⟩) (ini.length + 1) c1) :: [(g, cel l 82)] :: so :: F) H elO rfl rfl (i := 1) rfl OwnSl.empty ho2.slAt.cons.cons.cons (by omega) hysc (by decide) (by omega) (by omega) (fun _ => rfl) | exact EX.append (ys := ys) (L' := fun s' => s' :: [(bs, cel (tv kt nt pt mt ct) 25)] :: [(b7, cel (tv kf nf p2 ks2.length c2) 82)] :: sl2 :: ss2 :: sa :: [(b4, cel (tv 0 0 none 0 0) 25)] :: [(b3, cel (tv kt nt pt mt ct) 25)] :: PR bp s r1 (.slice (some ⟨g, 0, none⟩) (ini.length + 1) c1) :: [(g, cel l 82)] :: so :: F) H elO rfl rfl (i := 0) rfl OwnSl.empty ho2.slAt.cons.cons.cons (by omega) hysc (by decide) (by omega) (by omega) (fun _ => rfl)) ?_
            rintro _ w ⟨pn, cn, sn, rfl, hon, H⟩
            rw [List.nil_append] at hon
            have hS : Hp w0 w (sl2 :: ss2 :: sa :: [(b4, cel (tv 0 0 none 0 0) 25)] :: [(b3, cel (tv kt nt pt mt ct) 25)] :: PR bp s r1 (.slice (some ⟨g, 0, none⟩) (ini.length + 1) c1) :: [(g, cel l 82)] :: so :: F) := by first | exact H | exact H.drop | exact H.drop.drop | exact H.drop.drop.drop | exact H.drop.drop.drop.drop | exact H.drop.drop.drop.drop.drop | exact H.drop.drop.drop.drop.drop.drop | exact H.drop.drop.drop.drop.drop.drop.drop | exact H.drop.drop.drop.drop.drop.drop.drop.drop
            refine ⟨hS, ?_⟩
            refine JH.all [6] (by kernel_rfl) (by decide) ?_
            refine JHO.does (listed' := [true, true, true, true, true, true, true, false, false, false, false]) rfl rfl trivial (EX.buildSlice (pv := [(0, .agg (tv kt nt pt mt ct).toArray)]) (l := tv kt nt pt mt ct) (e := 25) H rfl (by kernel_rfl)) ?_
            rintro _ w ⟨bs, rfl, H⟩
            have hS : Hp w0 w (sl2 :: ss2 :: sa :: [(b4, cel (tv 0 0 none 0 0) 25)] :: [(b3, cel (tv kt nt pt mt ct) 25)] :: PR bp s r1 (.slice (some ⟨g, 0, none⟩) (ini.length + 1) c1) :: [(g, cel l 82)] :: so :: F) := by first | exact H | exact H.drop | exact H.drop.drop | exact H.drop.drop.drop | exact H.drop.drop.drop.drop | exact H.drop.drop.drop.drop.drop | exact H.drop.drop.drop.drop.drop.drop | exact H.drop.drop.drop.drop.drop.drop.drop | exact H.drop.drop.drop.drop.drop.drop.drop.drop
            refine ⟨hS, ?_⟩
            refine JH.all [7] (by kernel_rfl) (by decide) ?_
            refine JHO.does (listed' := [true, true, true, true, true, true, true, true, false, false, false]) rfl rfl trivial (by first | exact EX.append (ys := tv kt nt pt mt ct) (L' := fun s' => [(bs, cel (tv kt nt pt mt ct) 25)] :: s' :: [(b7, cel (tv kf nf p2 ks2.length c2) 82)] :: sl2 :: ss2 :: sa :: [(b4, cel (tv 0 0 none 0 0) 25)] :: [(b3, cel (tv kt nt pt mt ct) 25)] :: PR bp s r1 (.slice (some ⟨g, 0, none⟩) (ini.length + 1) c1) :: [(g, cel l 82)] :: so :: F) H elO rfl rfl (i := 1) rfl hon (SlAt.here rfl) rfl tv_cell (by decide) (by omega) (by omega) (fun _ => rfl) | exact EX.append (ys := tv kt nt pt mt ct) (L' := fun s' => s' :: [(bs, cel (tv kt nt pt mt ct) 25)] :: [(b7, cel (tv kf nf p2 ks2.length c2) 82)] :: sl2 :: ss2 :: sa :: [(b4, cel (tv 0 0 none 0 0) 25)] :: [(b3, cel (tv kt nt pt mt ct) 25)] :: PR bp s r1 (.slice (some ⟨g, 0, none⟩) (ini.length + 1) c1) :: [(g, cel l 82)] :: so :: F) H elO rfl rfl (i := 0) rfl hon (SlAt.here rfl).cons rfl tv_cell (by decide) (by omega) (by omega) (fun _ => rfl)) ?_
            rintro v w ⟨pq, cq, sq, hv, hoq, H⟩
            rw [show 0 + ks2.length + 1 = (ks2 ++ [t1]).length by simp] at hv hoq
            subst hv
            have hS : Hp w0 w (sl2 :: ss2 :: sa :: [(b4, cel (tv 0 0 none 0 0) 25)] :: [(b3, cel (tv kt nt pt mt ct) 25)] :: PR bp s r1 (.slice (some ⟨g, 0, none⟩) (ini.length + 1) c1) :: [(g, cel l 82)] :: so :: F) := by first | exact H | exact H.drop | exact H.drop.drop | exact H.drop.drop.drop | exact H.drop.drop.drop.drop | exact H.drop.drop.drop.drop.drop | exact H.drop.drop.drop.drop.drop.drop | exact H.drop.drop.drop.drop.drop.drop.drop | exact H.drop.drop.drop.drop.drop.drop.drop.drop
            refine ⟨hS, ?_⟩
            refine JH.take 8 (listed' := [true, true, true, true, true, true, true, true, true, false, false]) rfl (by kernel_rfl) (by kernel_rfl) (by kernel_rfl) rfl trivial (fun w H => RX.fieldAddr rfl fo82_0 rfl) hS ?_
            refine JH.take 9 (listed' := [true, true, true, true, true, true, true, true, true, true, false]) rfl (by kernel_rfl) (by kernel_rfl) (by kernel_rfl) rfl trivial (fun w H => RX.fieldAddr rfl fo25_2 rfl) hS ?_
            refine JH.all [10] (by kernel_rfl) (by decide) ?_
            refine JHO.does (listed' := [true, true, true, true, true, true, true, true, true, true, true]) rfl rfl trivial (EX.store (v := Value.slice _ _ _) H rfl rfl (i := 2) (l' := tv kf nf pq (ks2 ++ [t1]).length cq) rfl rfl (by simp) sz23 rfl rfl) ?_
            rintro _ w H
            have hS : Hp w0 w (sl2 :: ss2 :: sa :: [(b4, cel (tv 0 0 none 0 0) 25)] :: [(b3, cel (tv kt nt pt mt ct) 25)] :: PR bp s r1 (.slice (some ⟨g, 0, none⟩) (ini.length + 1) c1) :: [(g, cel l 82)] :: so :: F) := by first | exact H | exact H.drop | exact H.drop.drop | exact H.drop.drop.drop | exact H.drop.drop.drop.drop | exact H.drop.drop.drop.drop.drop | exact H.drop.drop.drop.drop.drop.drop | exact H.drop.drop.drop.drop.drop.drop.drop | exact H.drop.drop.drop.drop.drop.drop.drop.drop
            refine ⟨hS, ?_⟩
            refine JH.done (by kernel_rfl) ?_
            first
            | exact hk2 (pq, cq, sq) _ _ ⟨rfl, rfl, rfl, rfl, trivial⟩ trivial ⟨hoq, (H.drop.pull 2 rfl).drop⟩
            | exact hk2 (pq, cq, sq) _ _ ⟨rfl, rfl, rfl, rfl, trivial⟩ trivial ⟨hoq, ((H.pull 1 rfl).drop.pull 2 rfl).drop⟩
          · skip
            refine JHO.does (listed' := [true, true, true, true, false, true, true, false, false, false, false]) rfl rfl trivial (EX.buildSlice (pv := [(0, .agg (tv kt nt pt mt ct).toArray)]) (l := tv kt nt pt mt ct) (e := 25) H rfl (by kernel_rfl)) ?_
            rintro _ w ⟨bs, rfl, H⟩
            have hS : Hp w0 w (sl2 :: ss2 :: sa :: [(b4, cel (tv 0 0 none 0 0) 25)] :: [(b3, cel (tv kt nt pt mt ct) 25)] :: PR bp s r1 (.slice (some ⟨g, 0, none⟩) (ini.length + 1) c1) :: [(g, cel l 82)] :: so :: F) := by first | exact H | exact H.drop | exact H.drop.drop | exact H.drop.drop.drop | exact H.drop.drop.drop.drop | exact H.drop.drop.drop.drop.drop | exact H.drop.drop.drop.drop.drop.drop | exact H.drop.drop.drop.drop.drop.drop.drop | exact H.drop.drop.drop.drop.drop.drop.drop.drop
            refine ⟨hS, ?_⟩
            refine JH.all [4] (by kernel_rfl) (by decide) ?_
            refine JHO.does (listed' := [true, true, true, true, true, true, true, false, false, false, false]) rfl rfl trivial (by first | exact EX.append (ys := ys) (L' := fun s' => s' :: [(b7, cel (tv kf nf p2 ks2.length c2) 82)] :: sl2 :: ss2 :: sa :: [(b4, cel (tv 0 0 none 0 0) 25)] :: [(b3, cel (tv kt nt pt mt ct) 25)] :: PR bp s r1 (.slice (some ⟨g, 0, none⟩) (ini.length + 1) c1) :: [(g, cel l 82)] :: so :: F) H elO rfl rfl (i := 0) rfl OwnSl.empty ho2.slAt.cons.cons (by omega) hysc (by decide) (by omega) (by omega) (fun _ => rfl) | exact EX.append (ys := ys) (L' := fun s' => [(bs, cel (tv kt nt pt mt ct) 25)] :: s' :: [(b7, cel (tv kf nf p2 ks2.length c2) 82)] :: sl2 :: ss2 :: sa :: [(b4, cel (tv 0 0 none 0 0) 25)] :: [(b3, cel (tv kt nt pt mt ct) 25)] :: PR bp s r1 (.slice (some ⟨g, 0, none⟩) (ini.length + 1) c1) :: [(g, cel l 82)] :: so :: F) H elO rfl rfl (i := 1) rfl OwnSl.empty ho2.slAt.cons.cons.cons (by omega) hysc (by decide) (by omega) (by omega) (fun _ => rfl) | exact EX.append (ys := ys) (L' := fun s' => s' :: [(bs, cel (tv kt nt pt mt ct) 25)] :: [(b7, cel (tv kf nf p2 ks2.length c2) 82)] :: sl2 :: ss2 :: sa :: [(b4, cel (tv 0 0 none 0 0) 25)] :: [(b3, cel (tv kt nt pt mt ct) 25)] :: PR bp s r1 (.slice (some ⟨g, 0, none⟩) (ini.length + 1) c1) :: [(g, cel l 82)] :: so :: F) H elO rfl rfl (i := 0) rfl OwnSl.empty ho2.slAt.cons.cons.cons (by omega) hysc (by decide) (by omega) (by omega) (fun _ => rfl)) ?_
            rintro _ w ⟨pn, cn, sn, rfl, hon, H⟩
            rw [List.nil_append] at hon
            have hS : Hp w0 w (sl2 :: ss2 :: sa :: [(b4, cel (tv 0 0 none 0 0) 25)] :: [(b3, cel (tv kt nt pt mt ct) 25)] :: PR bp s r1 (.slice (some ⟨g, 0, none⟩) (ini.length + 1) c1) :: [(g, cel l 82)] :: so :: F) := by first | exact H | exact H.drop | exact H.drop.drop | exact H.drop.drop.drop | exact H.drop.drop.drop.drop | exact H.drop.drop.drop.drop.drop | exact H.drop.drop.drop.drop.drop.drop | exact H.drop.drop.drop.drop.drop.drop.drop | exact H.drop.drop.drop.drop.drop.drop.drop.drop
            refine ⟨hS, ?_⟩
            refine JH.all [7] (by kernel_rfl) (by decide) ?_
            refine JHO.does (listed' := [true, true, true, true, true, true, true, true, false, false, false]) rfl rfl trivial (by first | exact EX.append (ys := tv kt nt pt mt ct) (L' := fun s' => [(bs, cel (tv kt nt pt mt ct) 25)] :: s' :: [(b7, cel (tv kf nf p2 ks2.length c2) 82)] :: sl2 :: ss2 :: sa :: [(b4, cel (tv 0 0 none 0 0) 25)] :: [(b3, cel (tv kt nt pt mt ct) 25)] :: PR bp s r1 (.slice (some ⟨g, 0, none⟩) (ini.length + 1) c1) :: [(g, cel l 82)] :: so :: F) H elO rfl rfl (i := 1) rfl hon (SlAt.here rfl) rfl tv_cell (by decide) (by omega) (by omega) (fun _ => rfl) | exact EX.append (ys := tv kt nt pt mt ct) (L' := fun s' => s' :: [(bs, cel (tv kt nt pt mt ct) 25)] :: [(b7, cel (tv kf nf p2 ks2.length c2) 82)] :: sl2 :: ss2 :: sa :: [(b4, cel (tv 0 0 none 0 0) 25)] :: [(b3, cel (tv kt nt pt mt ct) 25)] :: PR bp s r1 (.slice (some ⟨g, 0, none⟩) (ini.length + 1) c1) :: [(g, cel l 82)] :: so :: F) H elO rfl rfl (i := 0) rfl hon (SlAt.here rfl).cons rfl tv_cell (by decide) (by omega) (by omega) (fun _ => rfl)) ?_
            rintro v w ⟨pq, cq, sq, hv, hoq, H⟩
            rw [show 0 + ks2.length + 1 = (ks2 ++ [t1]).length by simp] at hv hoq
            subst hv
            have hS : Hp w0 w (sl2 :: ss2 :: sa :: [(b4, cel (tv 0 0 none 0 0) 25)] :: [(b3, cel (tv kt nt pt mt ct) 25)] :: PR bp s r1 (.slice (some ⟨g, 0, none⟩) (ini.length + 1) c1) :: [(g, cel l 82)] :: so :: F) := by first | exact H | exact H.drop | exact H.drop.drop | exact H.drop.drop.drop | exact H.drop.drop.drop.drop | exact H.drop.drop.drop.drop.drop | exact H.drop.drop.drop.drop.drop.drop | exact H.drop.drop.drop.drop.drop.drop.drop | exact H.drop.drop.drop.drop.drop.drop.drop.drop
            refine ⟨hS, ?_⟩
            refine JH.take 8 (listed' := [true, true, true, true, true, true, true, true, true, false, false]) rfl (by kernel_rfl) (by kernel_rfl) (by kernel_rfl) rfl trivial (fun w H => RX.fieldAddr rfl fo82_0 rfl) hS ?_
            refine JH.take 9 (listed' := [true, true, true, true, true, true, true, true, true, true, false]) rfl (by kernel_rfl) (by kernel_rfl) (by kernel_rfl) rfl trivial (fun w H => RX.fieldAddr rfl fo25_2 rfl) hS ?_
            refine JH.all [10] (by kernel_rfl) (by decide) ?_
            refine JHO.does (listed' := [true, true, true, true, true, true, true, true, true, true, true]) rfl rfl trivial (EX.store (v := Value.slice _ _ _) H rfl rfl (i := 2) (l' := tv kf nf pq (ks2 ++ [t1]).length cq) rfl rfl (by simp) sz23 rfl rfl) ?_
            rintro _ w H
            have hS : Hp w0 w (sl2 :: ss2 :: sa :: [(b4, cel (tv 0 0 none 0 0) 25)] :: [(b3, cel (tv kt nt pt mt ct) 25)] :: PR bp s r1 (.slice (some ⟨g, 0, none⟩) (ini.length + 1) c1) :: [(g, cel l 82)] :: so :: F) := by first | exact H | exact H.drop | exact H.drop.drop | exact H.drop.drop.drop | exact H.drop.drop.drop.drop | exact H.drop.drop.drop.drop.drop | exact H.drop.drop.drop.drop.drop.drop | exact H.drop.drop.drop.drop.drop.drop.drop | exact H.drop.drop.drop.drop.drop.drop.drop.drop
            refine ⟨hS, ?_⟩
            refine JH.done (by kernel_rfl) ?_
            first
            | exact hk2 (pq, cq, sq) _ _ ⟨rfl, rfl, rfl, rfl, trivial⟩ trivial ⟨hoq, (H.drop.pull 2 rfl).drop⟩
            | exact hk2 (pq, cq, sq) _ _ ⟨rfl, rfl, rfl, rfl, trivial⟩ trivial ⟨hoq, ((H.pull 1 rfl).drop.pull 2 rfl).drop⟩
        · skip
          refine JHO.does (listed' := [false, true, true, true, false, true, true, false, false, false, false]) rfl rfl trivial (EX.buildSlice (pv := [(0, .agg (tv kt nt pt mt ct).toArray)]) (l := tv kt nt pt mt ct) (e := 25) H rfl (by kernel_rfl)) ?_
          rintro _ w ⟨bs, rfl, H⟩
          have hS : Hp w0 w (sl2 :: ss2 :: sa :: [(b4, cel (tv 0 0 none 0 0) 25)] :: [(b3, cel (tv kt nt pt mt ct) 25)] :: PR bp s r1 (.slice (some ⟨g, 0, none⟩) (ini.length + 1) c1) :: [(g, cel l 82)] :: so :: F) := by first | exact H | exact H.drop | exact H.drop.drop | exact H.drop.drop.drop | exact H.drop.drop.drop.drop | exact H.drop.drop.drop.drop.drop | exact H.drop.drop.drop.drop.drop.drop | exact H.drop.drop.drop.drop.drop.drop.drop | exact H.drop.drop.drop.drop.drop.drop.drop.drop
          refine ⟨hS, ?_⟩
          refine JH.all [0] (by kernel_rfl) (by decide) ?_
          refine JHO.does (listed' := [true, true, true, true, false, true, true, false, false, false, false]) rfl rfl trivial (EX.buildSlice0 H elO) ?_
          rintro _ w ⟨b0, rfl, H⟩
          have hS : Hp w0 w (sl2 :: ss2 :: sa :: [(b4, cel (tv 0 0 none 0 0) 25)] :: [(b3, cel (tv kt nt pt mt ct) 25)] :: PR bp s r1 (.slice (some ⟨g, 0, none⟩) (ini.length + 1) c1) :: [(g, cel l 82)] :: so :: F) := by first | exact H | exact H.drop | exact H.drop.drop | exact H.drop.drop.drop | exact H.drop.drop.drop.drop | exact H.drop.drop.drop.drop.drop | exact H.drop.drop.drop.drop.drop.drop | exact H.drop.drop.drop.drop.drop.drop.drop | exact H.drop.drop.drop.drop.drop.drop.drop.drop
          refine ⟨hS, ?_⟩
          refine JH.all [4] (by kernel_rfl) (by decide) ?_
          refine JHO.does (listed' := [true, true, true, true, true, true, true, false, false, false, false]) rfl rfl trivial (by first | exact EX.append (ys := ys) (L' := fun s' => s' :: [(b7, cel (tv kf nf p2 ks2.length c2) 82)] :: sl2 :: ss2 :: sa :: [(b4, cel (tv 0 0 none 0 0) 25)] :: [(b3, cel (tv kt nt pt mt ct) 25)] :: PR bp s r1 (.slice (some ⟨g, 0, none⟩) (ini.length + 1) c1) :: [(g, cel l 82)] :: so :: F) H elO rfl rfl (i := 0) rfl OwnSl.empty ho2.slAt.cons.cons (by omega) hysc (by decide) (by omega) (by omega) (fun _ => rfl) | exact EX.append (ys := ys) (L' := fun s' => [(bs, cel (tv kt nt pt mt ct) 25)] :: s' :: [(b7, cel (tv kf nf p2 ks2.length c2) 82)] :: sl2 :: ss2 :: sa :: [(b4, cel (tv 0 0 none 0 0) 25)] :: [(b3, cel (tv kt nt pt mt ct) 25)] :: PR bp s r1 (.slice (some ⟨g, 0, none⟩) (ini.length + 1) c1) :: [(g, cel l 82)] :: so :: F) H elO rfl rfl (i := 1) rfl OwnSl.empty ho2.slAt.cons.cons.cons (by omega) hysc (by decide) (by omega) (by omega) (fun _ => rfl) | exact EX.append (ys := ys) (L' := fun s' => s' :: [(bs, cel (tv kt nt pt mt ct) 25)] :: [(b7, cel (tv kf nf p2 ks2.length c2) 82)] :: sl2 :: ss2 :: sa :: [(b4, cel (tv 0 0 none 0 0) 25)] :: [(b3, cel (tv kt nt pt mt ct) 25)] :: PR bp s r1 (.slice (some ⟨g, 0, none⟩) (ini.length + 1) c1) :: [(g, cel l 82)] :: so :: F) H elO rfl rfl (i := 0) rfl OwnSl.empty ho2.slAt.cons.cons.cons (by omega) hysc (by decide) (by omega) (by omega) (fun _ => rfl)) ?_
          rintro _ w ⟨pn, cn, sn, rfl, hon, H⟩
          rw [List.nil_append] at hon
          have hS : Hp w0 w (sl2 :: ss2 :: sa :: [(b4, cel (tv 0 0 none 0 0) 25)] :: [(b3, cel (tv kt nt pt mt ct) 25)] :: PR bp s r1 (.slice (some ⟨g, 0, none⟩) (ini.length + 1) c1) :: [(g, cel l 82)] :: so :: F) := by first | exact H | exact H.drop | exact H.drop.drop | exact H.drop.drop.drop | exact H.drop.drop.drop.drop | exact H.drop.drop.drop.drop.drop | exact H.drop.drop.drop.drop.drop.drop | exact H.drop.drop.drop.drop.drop.drop.drop | exact H.drop.drop.drop.drop.drop.drop.drop.drop
          refine ⟨hS, ?_⟩
          refine JH.all [7] (by kernel_rfl) (by decide) ?_
          refine JHO.does (listed' := [true, true, true, true, true, true, true, true, false, false, false]) rfl rfl trivial (by first | exact EX.append (ys := tv kt nt pt mt ct) (L' := fun s' => [(bs, cel (tv kt nt pt mt ct) 25)] :: s' :: [(b7, cel (tv kf nf p2 ks2.length c2) 82)] :: sl2 :: ss2 :: sa :: [(b4, cel (tv 0 0 none 0 0) 25)] :: [(b3, cel (tv kt nt pt mt ct) 25)] :: PR bp s r1 (.slice (some ⟨g, 0, none⟩) (ini.length + 1) c1) :: [(g, cel l 82)] :: so :: F) H elO rfl rfl (i := 1) rfl hon (SlAt.here rfl) rfl tv_cell (by decide) (by omega) (by omega) (fun _ => rfl) | exact EX.append (ys := tv kt nt pt mt ct) (L' := fun s' => s' :: [(bs, cel (tv kt nt pt mt ct) 25)] :: [(b7, cel (tv kf nf p2 ks2.length c2) 82)] :: sl2 :: ss2 :: sa :: [(b4, cel (tv 0 0 none 0 0) 25)] :: [(b3, cel (tv kt nt pt mt ct) 25)] :: PR bp s r1 (.slice (some ⟨g, 0, none⟩) (ini.length + 1) c1) :: [(g, cel l 82)] :: so :: F) H elO rfl rfl (i := 0) rfl hon (SlAt.here rfl).cons rfl tv_cell (by decide) (by omega) (by omega) (fun _ => rfl)) ?_
          rintro v w ⟨pq, cq, sq, hv, hoq, H⟩
          rw [show 0 + ks2.length + 1 = (ks2 ++ [t1]).length by simp] at hv hoq
          subst hv
          have hS : Hp w0 w (sl2 :: ss2 :: sa :: [(b4, cel (tv 0 0 none 0 0) 25)] :: [(b3, cel (tv kt nt pt mt ct) 25)] :: PR bp s r1 (.slice (some ⟨g, 0, none⟩) (ini.length + 1) c1) :: [(g, cel l 82)] :: so :: F) := by first | exact H | exact H.drop | exact H.drop.drop | exact H.drop.drop.drop | exact H.drop.drop.drop.drop | exact H.drop.drop.drop.drop.drop | exact H.drop.drop.drop.drop.drop.drop | exact H.drop.drop.drop.drop.drop.drop.drop | exact H.drop.drop.drop.drop.drop.drop.drop.drop
          refine ⟨hS, ?_⟩
          refine JH.take 8 (listed' := [true, true, true, true, true, true, true, true, true, false, false]) rfl (by kernel_rfl) (by kernel_rfl) (by kernel_rfl) rfl trivial (fun w H => RX.fieldAddr rfl fo82_0 rfl) hS ?_
          refine JH.take 9 (listed' := [true, true, true, true, true, true, true, true, true, true, false]) rfl (by kernel_rfl) (by kernel_rfl) (by kernel_rfl) rfl trivial (fun w H => RX.fieldAddr rfl fo25_2 rfl) hS ?_
          refine JH.all [10] (by kernel_rfl) (by decide) ?_
          refine JHO.does (listed' := [true, true, true, true, true, true, true, true, true, true, true]) rfl rfl trivial (EX.store (v := Value.slice _ _ _) H rfl rfl (i := 2) (l' := tv kf nf pq (ks2 ++ [t1]).length cq) rfl rfl (by simp) sz23 rfl rfl) ?_
          rintro _ w H
          have hS : Hp w0 w (sl2 :: ss2 :: sa :: [(b4, cel (tv 0 0 none 0 0) 25)] :: [(b3, cel (tv kt nt pt mt ct) 25)] :: PR bp s r1 (.slice (some ⟨g, 0, none⟩) (ini.length + 1) c1) :: [(g, cel l 82)] :: so :: F) := by first | exact H | exact H.drop | exact H.drop.drop | exact H.drop.drop.drop | exact H.drop.drop.drop.drop | exact H.drop.drop.drop.drop.drop | exact H.drop.drop.drop.drop.drop.drop | exact H.drop.drop.drop.drop.drop.drop.drop | exact H.drop.drop.drop.drop.drop.drop.drop.drop
          refine ⟨hS, ?_⟩
          refine JH.done (by kernel_rfl) ?_
          first
          | exact hk2 (pq, cq, sq) _ _ ⟨rfl, rfl, rfl, rfl, trivial⟩ trivial ⟨hoq, (H.drop.pull 2 rfl).drop⟩
          | exact hk2 (pq, cq, sq) _ _ ⟨rfl, rfl, rfl, rfl, trivial⟩ trivial ⟨hoq, ((H.pull 1 rfl).drop.pull 2 rfl).drop⟩
      · skip
        refine JHO.does (listed' := [false, true, true, false, false, true, true, false, false, false, false]) rfl rfl trivial (EX.buildSlice (pv := [(0, .agg (tv kt nt pt mt ct).toArray)]) (l := tv kt nt pt mt ct) (e := 25) H rfl (by kernel_rfl)) ?_
        rintro _ w ⟨bs, rfl, H⟩
        have hS : Hp w0 w (sl2 :: ss2 :: sa :: [(b4, cel (tv 0 0 none 0 0) 25)] :: [(b3, cel (tv kt nt pt mt ct) 25)] :: PR bp s r1 (.slice (some ⟨g, 0, none⟩) (ini.length + 1) c1) :: [(g, cel l 82)] :: so :: F) := by first | exact H | exact H.drop | exact H.drop.drop | exact H.drop.drop.drop | exact H.drop.drop.drop.drop | exact H.drop.drop.drop.drop.drop | exact H.drop.drop.drop.drop.drop.drop | exact H.drop.drop.drop.drop.drop.drop.drop | exact H.drop.drop.drop.drop.drop.drop.drop.drop
        refine ⟨hS, ?_⟩
        refine JH.all [0, 3] (by kernel_rfl) (by decide) ?_
        refine ⟨?_, ?_⟩
        · skip
          refine JHO.does (listed' := [true, true, true, false, false, true, true, false, false, false, false]) rfl rfl trivial (EX.buildSlice0 H elO) ?_
          rintro _ w ⟨b0, rfl, H⟩
          have hS : Hp w0 w (sl2 :: ss2 :: sa :: [(b4, cel (tv 0 0 none 0 0) 25)] :: [(b3, cel (tv kt nt pt mt ct) 25)] :: PR bp s r1 (.slice (some ⟨g, 0, none⟩) (ini.length + 1) c1) :: [(g, cel l 82)] :: so :: F) := by first | exact H | exact H.drop | exact H.drop.drop | exact H.drop.drop.drop | exact H.drop.drop.drop.drop | exact H.drop.drop.drop.drop.drop | exact H.drop.drop.drop.drop.drop.drop | exact H.drop.drop.drop.drop.drop.drop.drop | exact H.drop.drop.drop.drop.drop.drop.drop.drop
          refine ⟨hS, ?_⟩
          refine JH.all [3] (by kernel_rfl) (by decide) ?_
          refine JHO.go (listed' := [true, true, true, true, false, true, true, false, false, false, false]) rfl rfl trivial (by first | exact RX.load H rfl (i := 0) (v := .slice p2 ks2.length c2) rfl rfl one23 | exact RX.load H rfl (i := 1) (v := .slice p2 ks2.length c2) rfl rfl one23 | exact RX.load H rfl (i := 2) (v := .slice p2 ks2.length c2) rfl rfl one23) hS ?_
          refine JH.all [4] (by kernel_rfl) (by decide) ?_
          refine JHO.does (listed' := [true, true, true, true, true, true, true, false, false, false, false]) rfl rfl trivial (by first | exact EX.append (ys := ys) (L' := fun s' => s' :: [(b7, cel (tv kf nf p2 ks2.length c2) 82)] :: sl2 :: ss2 :: sa :: [(b4, cel (tv 0 0 none 0 0) 25)] :: [(b3, cel (tv kt nt pt mt ct) 25)] :: PR bp s r1 (.slice (some ⟨g, 0, none⟩) (ini.length + 1) c1) :: [(g, cel l 82)] :: so :: F) H elO rfl rfl (i := 0) rfl OwnSl.empty ho2.slAt.cons.cons (by omega) hysc (by decide) (by omega) (by omega) (fun _ => rfl) | exact EX.append (ys := ys) (L' := fun s' => [(bs, cel (tv kt nt pt mt ct) 25)] :: s' :: [(b7, cel (tv kf nf p2 ks2.length c2) 82)] :: sl2 :: ss2 :: sa :: [(b4, cel (tv 0 0 none 0 0) 25)] :: [(b3, cel (tv kt nt pt mt ct) 25)] :: PR bp s r1 (.slice (some ⟨g, 0, none⟩) (ini.length + 1) c1) :: [(g, cel l 82)] :: so :: F) H elO rfl rfl (i := 1) rfl OwnSl.empty ho2.slAt.cons.cons.cons (by omega) hysc (by decide) (by omega) (by omega) (fun _ => rfl) | exact EX.append (ys := ys) (L' := fun s' => s' :: [(bs, cel (tv kt nt pt mt ct) 25)] :: [(b7, cel (tv kf nf p2 ks2.length c2) 82)] :: sl2 :: ss2 :: sa :: [(b4, cel (tv 0 0 none 0 0) 25)] :: [(b3, cel (tv kt nt pt mt ct) 25)] :: PR bp s r1 (.slice (some ⟨g, 0, none⟩) (ini.length + 1) c1) :: [(g, cel l 82)] :: so :: F) H elO rfl rfl (i := 0) rfl OwnSl.empty ho2.slAt.cons.cons.cons (by omega) hysc (by decide) (by omega) (by omega) (fun _ => rfl)) ?_
          rintro _ w ⟨pn, cn, sn, rfl, hon, H⟩
          rw [List.nil_append] at hon
          have hS : Hp w0 w (sl2 :: ss2 :: sa :: [(b4, cel (tv 0 0 none 0 0) 25)] :: [(b3, cel (tv kt nt pt mt ct) 25)] :: PR bp s r1 (.slice (some ⟨g, 0, none⟩) (ini.length + 1) c1) :: [(g, cel l 82)] :: so :: F) := by first | exact H | exact H.drop | exact H.drop.drop | exact H.drop.drop.drop | exact H.drop.drop.drop.drop | exact H.drop.drop.drop.drop.drop | exact H.drop.drop.drop.drop.drop.drop | exact H.drop.drop.drop.drop.drop.drop.drop | exact H.drop.drop.drop.drop.drop.drop.drop.drop
          refine ⟨hS, ?_⟩
          refine JH.all [7] (by kernel_rfl) (by decide) ?_
          refine JHO.does (listed' := [true, true, true, true, true, true, true, true, false, false, false]) rfl rfl trivial (by first | exact EX.append (ys := tv kt nt pt mt ct) (L' := fun s' => [(bs, cel (tv kt nt pt mt ct) 25)] :: s' :: [(b7, cel (tv kf nf p2 ks2.length c2) 82)] :: sl2 :: ss2 :: sa :: [(b4, cel (tv 0 0 none 0 0) 25)] :: [(b3, cel (tv kt nt pt mt ct) 25)] :: PR bp s r1 (.slice (some ⟨g, 0, none⟩) (ini.length + 1) c1) :: [(g, cel l 82)] :: so :: F) H elO rfl rfl (i := 1) rfl hon (SlAt.here rfl) rfl tv_cell (by decide) (by omega) (by omega) (fun _ => rfl) | exact EX.append (ys := tv kt nt pt mt ct) (L' := fun s' => s' :: [(bs, cel (tv kt nt pt mt ct) 25)] :: [(b7, cel (tv kf nf p2 ks2.length c2) 82)] :: sl2 :: ss2 :: sa :: [(b4, cel (tv 0 0 none 0 0) 25)] :: [(b3, cel (tv kt nt pt mt ct) 25)] :: PR bp s r1 (.slice (some ⟨g, 0, none⟩) (ini.length + 1) c1) :: [(g, cel l 82)] :: so :: F) H elO rfl rfl (i := 0) rfl hon (SlAt.here rfl).cons rfl tv_cell (by decide) (by omega) (by omega) (fun _ => rfl)) ?_
          rintro v w ⟨pq, cq, sq, hv, hoq, H⟩
          rw [show 0 + ks2.length + 1 = (ks2 ++ [t1]).length by simp] at hv hoq
          subst hv
          have hS : Hp w0 w (sl2 :: ss2 :: sa :: [(b4, cel (tv 0 0 none 0 0) 25)] :: [(b3, cel (tv kt nt pt mt ct) 25)] :: PR bp s r1 (.slice (some ⟨g, 0, none⟩) (ini.length + 1) c1) :: [(g, cel l 82)] :: so :: F) := by first | exact H | exact H.drop | exact H.drop.drop | exact H.drop.drop.drop | exact H.drop.drop.drop.drop | exact H.drop.drop.drop.drop.drop | exact H.drop.drop.drop.drop.drop.drop | exact H.drop.drop.drop.drop.drop.drop.drop | exact H.drop.drop.drop.drop.drop.drop.drop.drop
          refine ⟨hS, ?_⟩
          refine JH.take 8 (listed' := [true, true, true, true, true, true, true, true, true, false, false]) rfl (by kernel_rfl) (by kernel_rfl) (by kernel_rfl) rfl trivial (fun w H => RX.fieldAddr rfl fo82_0 rfl) hS ?_
          refine JH.take 9 (listed' := [true, true, true, true, true, true, true, true, true, true, false]) rfl (by kernel_rfl) (by kernel_rfl) (by kernel_rfl) rfl trivial (fun w H => RX.fieldAddr rfl fo25_2 rfl) hS ?_
          refine JH.all [10] (by kernel_rfl) (by decide) ?_
          refine JHO.does (listed' := [true, true, true, true, true, true, true, true, true, true, true]) rfl rfl trivial (EX.store (v := Value.slice _ _ _) H rfl rfl (i := 2) (l' := tv kf nf pq (ks2 ++ [t1]).length cq) rfl rfl (by simp) sz23 rfl rfl) ?_
          rintro _ w H
          have hS : Hp w0 w (sl2 :: ss2 :: sa :: [(b4, cel (tv 0 0 none 0 0) 25)] :: [(b3, cel (tv kt nt pt mt ct) 25)] :: PR bp s r1 (.slice (some ⟨g, 0, none⟩) (ini.length + 1) c1) :: [(g, cel l 82)] :: so :: F) := by first | exact H | exact H.drop | exact H.drop.drop | exact H.drop.drop.drop | exact H.drop.drop.drop.drop | exact H.drop.drop.drop.drop.drop | exact H.drop.drop.drop.drop.drop.drop | exact H.drop.drop.drop.drop.drop.drop.drop | exact H.drop.drop.drop.drop.drop.drop.drop.drop
          refine ⟨hS, ?_⟩
          refine JH.done (by kernel_rfl) ?_
          first
          | exact hk2 (pq, cq, sq) _ _ ⟨rfl, rfl, rfl, rfl, trivial⟩ trivial ⟨hoq, (H.drop.pull 2 rfl).drop⟩
          | exact hk2 (pq, cq, sq) _ _ ⟨rfl, rfl, rfl, rfl, trivial⟩ trivial ⟨hoq, ((H.pull 1 rfl).drop.pull 2 rfl).drop⟩
        · skip
          refine JHO.go (listed' := [false, true, true, true, false, true, true, false, false, false, false]) rfl rfl trivial (by first | exact RX.load H rfl (i := 0) (v := .slice p2 ks2.length c2) rfl rfl one23 | exact RX.load H rfl (i := 1) (v := .slice p2 ks2.length c2) rfl rfl one23 | exact RX.load H rfl (i := 2) (v := .slice p2 ks2.length c2) rfl rfl one23) hS ?_
          refine JH.all [0] (by kernel_rfl) (by decide) ?_
          refine JHO.does (listed' := [true, true, true, true, false, true, true, false, false, false, false]) rfl rfl trivial (EX.buildSlice0 H elO) ?_
          rintro _ w ⟨b0, rfl, H⟩
          have hS : Hp w0 w (sl2 :: ss2 :: sa :: [(b4, cel (tv 0 0 none 0 0) 25)] :: [(b3, cel (tv kt nt pt mt ct) 25)] :: PR bp s r1 (.slice (some ⟨g, 0, none⟩) (ini.length + 1) c1) :: [(g, cel l 82)] :: so :: F) := by first | exact H | exact H.drop | exact H.drop.drop | exact H.drop.drop.drop | exact H.drop.drop.drop.drop | exact H.drop.drop.drop.drop.drop | exact H.drop.drop.drop.drop.drop.drop | exact H.drop.drop.drop.drop.drop.drop.drop | exact H.drop.drop.drop.drop.drop.drop.drop.drop
          refine ⟨hS, ?_⟩
          refine JH.all [4] (by kernel_rfl) (by decide) ?_
          refine JHO.does (listed' := [true, true, true, true, true, true, true, false, false, false, false]) rfl rfl trivial (by first | exact EX.append (ys := ys) (L' := fun s' => s' :: [(b7, cel (tv kf nf p2 ks2.length c2) 82)] :: sl2 :: ss2 :: sa :: [(b4, cel (tv 0 0 none 0 0) 25)] :: [(b3, cel (tv kt nt pt mt ct) 25)] :: PR bp s r1 (.slice (some ⟨g, 0, none⟩) (ini.length + 1) c1) :: [(g, cel l 82)] :: so :: F) H elO rfl rfl (i := 0) rfl OwnSl.empty ho2.slAt.cons.cons (by omega) hysc (by decide) (by omega) (by omega) (fun _ => rfl) | exact EX.append (ys := ys) (L' := fun s' => [(bs, cel (tv kt nt pt mt ct) 25)] :: s' :: [(b7, cel (tv kf nf p2 ks2.length c2) 82)] :: sl2 :: ss2 :: sa :: [(b4, cel (tv 0 0 none 0 0) 25)] :: [(b3, cel (tv kt nt pt mt ct) 25)] :: PR bp s r1 (.slice (some ⟨g, 0, none⟩) (ini.length + 1) c1) :: [(g, cel l 82)] :: so :: F) H elO rfl rfl (i := 1) rfl OwnSl.empty ho2.slAt.cons.cons.cons (by omega) hysc (by decide) (by omega) (by omega) (fun _ => rfl) | exact EX.append (ys := ys) (L' := fun s' => s' :: [(bs, cel (tv kt nt pt mt ct) 25)] :: [(b7, cel (tv kf nf p2 ks2.length c2) 82)] :: sl2 :: ss2 :: sa :: [(b4, cel (tv 0 0 none 0 0) 25)] :: [(b3, cel (tv kt nt pt mt ct) 25)] :: PR bp s r1 (.slice (some ⟨g, 0, none⟩) (ini.length + 1) c1) :: [(g, cel l 82)] :: so :: F) H elO rfl rfl (i := 0) rfl OwnSl.empty ho2.slAt.cons.cons.cons (by omega) hysc (by decide) (by omega) (by omega) (fun _ => rfl)) ?_
          rintro _ w ⟨pn, cn, sn, rfl, hon, H⟩
          rw [List.nil_append] at hon
          have hS : Hp w0 w (sl2 :: ss2 :: sa :: [(b4, cel (tv 0 0 none 0 0) 25)] :: [(b3, cel (tv kt nt pt mt ct) 25)] :: PR bp s r1 (.slice (some ⟨g, 0, none⟩) (ini.length + 1) c1) :: [(g, cel l 82)] :: so :: F) := by first | exact H | exact H.drop | exact H.drop.drop | exact H.drop.drop.drop | exact H.drop.drop.drop.drop | exact H.drop.drop.drop.drop.drop | exact H.drop.drop.drop.drop.drop.drop | exact H.drop.drop.drop.drop.drop.drop.drop | exact H.drop.drop.drop.drop.drop.drop.drop.drop
          refine ⟨hS, ?_⟩
          refine JH.all [7] (by kernel_rfl) (by decide) ?_
          refine JHO.does (listed' := [true, true, true, true, true, true, true, true, false, false, false]) rfl rfl trivial (by first | exact EX.append (ys := tv kt nt pt mt ct) (L' := fun s' => [(bs, cel (tv kt nt pt mt ct) 25)] :: s' :: [(b7, cel (tv kf nf p2 ks2.length c2) 82)] :: sl2 :: ss2 :: sa :: [(b4, cel (tv 0 0 none 0 0) 25)] :: [(b3, cel (tv kt nt pt mt ct) 25)] :: PR bp s r1 (.slice (some ⟨g, 0, none⟩) (ini.length + 1) c1) :: [(g, cel l 82)] :: so :: F) H elO rfl rfl (i := 1) rfl hon (SlAt.here rfl) rfl tv_cell (by decide) (by omega) (by omega) (fun _ => rfl) | exact EX.append (ys := tv kt nt pt mt ct) (L' := fun s' => s' :: [(bs, cel (tv kt nt pt mt ct) 25)] :: [(b7, cel (tv kf nf p2 ks2.length c2) 82)] :: sl2 :: ss2 :: sa :: [(b4, cel (tv 0 0 none 0 0) 25)] :: [(b3, cel (tv kt nt pt mt ct) 25)] :: PR bp s r1 (.slice (some ⟨g, 0, none⟩) (ini.length + 1) c1) :: [(g, cel l 82)] :: so :: F) H elO rfl rfl (i := 0) rfl hon (SlAt.here rfl).cons rfl tv_cell (by decide) (by omega) (by omega) (fun _ => rfl)) ?_
          rintro v w ⟨pq, cq, sq, hv, hoq, H⟩
          rw [show 0 + ks2.length + 1 = (ks2 ++ [t1]).length by simp] at hv hoq
          subst hv
          have hS : Hp w0 w (sl2 :: ss2 :: sa :: [(b4, cel (tv 0 0 none 0 0) 25)] :: [(b3, cel (tv kt nt pt mt ct) 25)] :: PR bp s r1 (.slice (some ⟨g, 0, none⟩) (ini.length + 1) c1) :: [(g, cel l 82)] :: so :: F) := by first | exact H | exact H.drop | exact H.drop.drop | exact H.drop.drop.drop | exact H.drop.drop.drop.drop | exact H.drop.drop.drop.drop.drop | exact H.drop.drop.drop.drop.drop.drop | exact H.drop.drop.drop.drop.drop.drop.drop | exact H.drop.drop.drop.drop.drop.drop.drop.drop
          refine ⟨hS, ?_⟩
          refine JH.take 8 (listed' := [true, true, true, true, true, true, true, true, true, false, false]) rfl (by kernel_rfl) (by kernel_rfl) (by kernel_rfl) rfl trivial (fun w H => RX.fieldAddr rfl fo82_0 rfl) hS ?_
          refine JH.take 9 (listed' := [true, true, true, true, true, true, true, true, true, true, false]) rfl (by kernel_rfl) (by kernel_rfl) (by kernel_rfl) rfl trivial (fun w H => RX.fieldAddr rfl fo25_2 rfl) hS ?_
          refine JH.all [10] (by kernel_rfl) (by decide) ?_
          refine JHO.does (listed' := [true, true, true, true, true, true, true, true, true, true, true]) rfl rfl trivial (EX.store (v := Value.slice _ _ _) H rfl rfl (i := 2) (l' := tv kf nf pq (ks2 ++ [t1]).length cq) rfl rfl (by simp) sz23 rfl rfl) ?_
          rintro _ w H
          have hS : Hp w0 w (sl2 :: ss2 :: sa :: [(b4, cel (tv 0 0 none 0 0) 25)] :: [(b3, cel (tv kt nt pt mt ct) 25)] :: PR bp s r1 (.slice (some ⟨g, 0, none⟩) (ini.length + 1) c1) :: [(g, cel l 82)] :: so :: F) := by first | exact H | exact H.drop | exact H.drop.drop | exact H.drop.drop.drop | exact H.drop.drop.drop.drop | exact H.drop.drop.drop.drop.drop | exact H.drop.drop.drop.drop.drop.drop | exact H.drop.drop.drop.drop.drop.drop.drop | exact H.drop.drop.drop.drop.drop.drop.drop.drop
          refine ⟨hS, ?_⟩
          refine JH.done (by kernel_rfl) ?_
          first
          | exact hk2 (pq, cq, sq) _ _ ⟨rfl, rfl, rfl, rfl, trivial⟩ trivial ⟨hoq, (H.drop.pull 2 rfl).drop⟩
          | exact hk2 (pq, cq, sq) _ _ ⟨rfl, rfl, rfl, rfl, trivial⟩ trivial ⟨hoq, ((H.pull 1 rfl).drop.pull 2 rfl).drop⟩
    · skip
      clear H
      rintro ⟨pq, cq, sq⟩ ρ w ⟨hoq, H⟩
      simp only at hoq H
      have hf2 := Tr.Own.mk (k := kf) (n := nf) hoq (hks2.snoc hot)
      try dsimp only
      refine J.seq ?_
      refine J.seq ?_
      refine J.region ?_
      refine JL.go trivial (RX.fieldAddr rfl fo82_0 rfl) ?_
      refine JL.go trivial (RX.fieldAddr rfl fo25_0 rfl) ?_
      refine JL.go trivial (RX.load H rfl (i := 1) (v := .int .i64 kf) rfl rfl one3) ?_
      refine JL.go trivial (RX.eq rfl rfl) ?_
      refine JL.go trivial (RX.movev (v := Value.bool _) rfl) ?_
      refine JL.splitS 41 rfl (fun hk3 => ?_) (fun hk3 => ?_)
      · skip
        first | have hk3p := of_decide_eq_true hk3 | skip
        refine JL.go ⟨_, rfl, hk3⟩ (RX.fieldAddr rfl fo82_0 rfl) ?_
        refine JL.go ⟨_, rfl, hk3⟩ (RX.fieldAddr rfl fo25_2 rfl) ?_
        refine JL.go ⟨_, rfl, hk3⟩ (RX.load H rfl (i := 1) (v := .slice pq (ks2 ++ [t1]).length cq) rfl rfl one23) ?_
        refine JL.go ⟨_, rfl, hk3⟩ (RX.len_slice rfl (by rw [sl23]; rfl) rfl) ?_
        refine JL.go ⟨_, rfl, hk3⟩ (RX.eq rfl rfl) ?_
        refine JL.go trivial (RX.pick_t rfl hk3) ?_
        refine JL.nil ?_
        refine J.cond_d rfl (fun h1 => ?_) (fun h1 => ?_)
        · skip
          have hl0 : ks2.length = 0 := by have e := @List.length_append _ ks2 [t1]; simp only [List.length_cons, List.length_nil] at e; omega
          refine J.seq ?_
          refine J.any hmix fun w hs => ?_
          replace H := H.same hs; clear hs
          refine JA.stage (listed := [false, false, false, false, false, false, false, false, false, false, false, false, false]) 12 [0, 1, 2, 3, 4, 5, 6, 7, 8, 9, 10, 11] H (by kernel_rfl) rfl rfl ?_
          refine JI.go rfl trivial (fun w H => RX.movev (v := Value.pointer _) rfl) ?_
          refine JI.go rfl trivial (fun w H => RX.nilCheck rfl) ?_
          refine JI.go rfl trivial (fun w H => RX.fieldAddr rfl fo57_2 rfl) ?_
          refine JI.go rfl trivial (fun w H => RX.load H rfl (i := 6) (v := .slice (some ⟨g, 0, none⟩) (ini.length + 1) c1) rfl rfl one55) ?_
          refine JI.go rfl trivial (fun w H => RX.movev (v := Value.pointer _) rfl) ?_
          refine JI.go rfl trivial (fun w H => RX.nilCheck rfl) ?_
          refine JI.go rfl trivial (fun w H => RX.fieldAddr rfl fo57_2 rfl) ?_
          refine JI.go rfl trivial (fun w H => RX.load H rfl (i := 6) (v := .slice (some ⟨g, 0, none⟩) (ini.length + 1) c1) rfl rfl one55) ?_
          refine JI.go rfl trivial (fun w H => RX.len_slice rfl (by rw [sl55]; rfl) rfl) ?_
          refine JI.go rfl trivial (fun w H => RX.sub rfl rfl (w_i64 (r := ((ini.length : Nat) : Int)) (by omega) (by omega) (by omega))) ?_
          refine JI.go rfl trivial (fun w H => RX.loadAgg H rfl (i := 1) (vs := tv kf nf pq (ks2 ++ [t1]).length cq) rfl rfl ag82) ?_
          refine JI.go rfl trivial (fun w H => RX.indexAddr rfl rfl sl55 (by omega) (by omega) (o' := ini.length * 3) (by omega)) ?_
          refine JI.nil fun w H => ?_
          refine JL.does trivial (EX.storeAgg H rfl rfl (i := 7) (vs := tv kf nf pq (ks2 ++ [t1]).length cq) (l' := setN l (ini.length * 3) (tv kf nf pq (ks2 ++ [t1]).length cq)) rfl tv_cell (by simp only [List.length_cons, List.length_nil]; omega) sz82 rfl rfl) ?_
          rintro _ w H
          refine JL.nil ?_
          refine J.seq ?_
          replace H := H.pull 6 rfl
          refine J.region ?_
          refine JL.go trivial (RX.movev (v := Value.pointer _) rfl) ?_
          refine JL.does trivial (EX.call rfl cl49 rfl ((ris_b hr hs H (t := [32, 120, 32]) (by decide)))) ?_
          rintro _ w ⟨bk, r2, htk, hr2, rfl, H⟩
          have hend := heq.trans (take3_no htk (by omega) hl0)
          refine JL.go trivial (RX.assignv (v := Value.bool _) rfl) ?_
          refine JL.nil ?_
          refine J.seq ?_
          refine J.region ?_
          refine JL.go trivial (RX.build (pv := []) (res := tv 0 0 none 0 0) rfl (by kernel_rfl)) ?_
          refine JL.go trivial (RX.movev (v := Value.bool _) rfl) ?_
          refine JL.does trivial (EX.storeAgg H rfl rfl (i := 5) (vs := tv 0 0 none 0 0) (l' := tv 0 0 none 0 0) rfl tv_cell (by simp) sz25 rfl rfl) ?_
          rintro _ w H
          refine JL.go trivial (RX.assign) ?_
          refine JL.go trivial (RX.assignv (v := Value.bool _) rfl) ?_
          refine JL.nil ?_
          first
          | refine J.retctt (x := Value.bool _) Tryd.func35 rfl H rfl (i := 5) (vs := tv 0 0 none 0 0) rfl rfl ag25 rfl rfl ?_
          | refine J.retctt (x := Value.bool _) Tryd.func35 rfl H rfl (i := 0) (vs := tv kt nt pt mt ct) rfl rfl ag25 rfl rfl ?_
          have hop := (OwnSl.top ho rfl (va := tv kf nf pq (ks2 ++ [t1]).length cq) rfl)
          rw [hxal] at hop
          have hkk := hka.snoc hf2
          have hil2 : (ini ++ [Tr.node kf nf (ks2 ++ [t1])]).length = ini.length + 1 := by simp
          have H1 := (H.pull 2 rfl).drop
          have H2 := (H1.pull 4 rfl).drop
          have H3 := (H2.pull 4 rfl).drop
          have H4 := ((H3.pull 5 rfl).pull 3 rfl).join
          have H5 := (H4.pull 2 rfl).join
          have H6 := (H5.pull 2 rfl).join
          have H7 := (((H6.pull 2 rfl).pull 2 rfl).nil)
          have H8 := ((H7.pull 3 rfl).pull 3 rfl).pull 3 rfl
          refine ⟨_, rfl, 0, 0, none, 0, 0, false, bk, _, _, _, [], r2, rfl, hr2, H8, ?_⟩
          cases bk
          · exact .inl ⟨rfl, hend⟩
          · refine .inr (.inr ⟨rfl, rfl, some ⟨g, 0, none⟩, c1, _, ini ++ [.node kf nf (ks2 ++ [t1])], by rw [hil2], by rw [hil2]; exact hop, hkk, fun f hf => ?_, by rw [hil2]; exact hstl, hend.trans (if_pos rfl)⟩)
            rcases List.mem_append.1 hf with h | h
            · exact hkl f (List.mem_append_left _ h)
            · obtain rfl := List.mem_singleton.1 h
              show (ks2 ++ [t1]).length ≤ 1
              rw [List.length_append, hl0]; exact Nat.le_refl 1
        · skip
          have hn0 : ¬ (kf = 3 ∧ ks2.length = 0) := by
            have e := @List.length_append _ ks2 [t1]
            simp only [List.length_cons, List.length_nil] at e
            omega
          refine J.skip ?_
          refine J.seq ?_
          refine J.seq ?_
          replace H := H.pull 6 rfl
          refine J.region ?_
          refine JL.go trivial (RX.movev (v := Value.pointer _) rfl) ?_
          refine JL.does trivial (EX.call rfl cl49 rfl ((ris_b hr hs H (t := [41]) (by decide)))) ?_
          rintro _ w ⟨bk, r2, htk, hr2, rfl, H⟩
          have hend := heq.trans (take1_no htk hn0)
          refine JL.go trivial (RX.not rfl) ?_
          refine JL.nil ?_
          refine J.cond rfl (fun hno => ?_) (fun hno => ?_)
          · skip
            obtain rfl : bk = false := by simpa using hno
            refine J.seq ?_
            refine J.region ?_
            refine JL.go trivial (RX.build (pv := []) (res := tv 0 0 none 0 0) rfl (by kernel_rfl)) ?_
            refine JL.does trivial (EX.storeAgg H rfl rfl (i := 5) (vs := tv 0 0 none 0 0) (l' := tv 0 0 none 0 0) rfl tv_cell (by simp) sz25 rfl rfl) ?_
            rintro _ w H
            refine JL.go trivial (RX.assign) ?_
            refine JL.go trivial (RX.assign) ?_
            refine JL.nil ?_
            first
            | refine J.retctt (x := Value.bool _) Tryd.func35 rfl H rfl (i := 5) (vs := tv 0 0 none 0 0) rfl rfl ag25 rfl rfl ?_
            | refine J.retctt (x := Value.bool _) Tryd.func35 rfl H rfl (i := 0) (vs := tv kt nt pt mt ct) rfl rfl ag25 rfl rfl ?_
            have H1 := (H.pull 2 rfl).drop
            exact ⟨_, rfl, 0, 0, none, 0, 0, false, false, _, _, _, _, r2, rfl, hr2, ((H1.pull 2 rfl |> fun H => H.drop) |> fun H => ((H.pull 3 rfl).drop.pull 3 rfl).drop.pull 3 rfl |> fun H => H.drop), .inl ⟨rfl, hend⟩⟩
          · skip
            obtain rfl : bk = true := by simpa using hno
            have hop := OwnSl.pop ho rfl
            refine J.skip ?_
            refine J.seq ?_
            refine J.any hmix fun w hs => ?_
            replace H := H.same hs; clear hs
            refine JA.stage (listed := [false, false, false, false, false, false, false, false, false, false, false, false, false, false, false]) 14 [0, 1, 2, 3, 4, 5, 6, 7, 8, 9, 10, 11, 12, 13] H (by kernel_rfl) rfl rfl ?_
            refine JI.go rfl trivial (fun w H => RX.movev (v := Value.pointer _) rfl) ?_
            refine JI.go rfl trivial (fun w H => RX.movev (v := Value.pointer _) rfl) ?_
            refine JI.go rfl trivial (fun w H => RX.nilCheck rfl) ?_
            refine JI.go rfl trivial (fun w H => RX.fieldAddr rfl fo57_2 rfl) ?_
            refine JI.go rfl trivial (fun w H => RX.load H rfl (i := 0) (v := .slice (some ⟨g, 0, none⟩) (ini.length + 1) c1) rfl rfl one55) ?_
            refine JI.go rfl trivial (fun w H => RX.movev (v := Value.pointer _) rfl) ?_
            refine JI.go rfl trivial (fun w H => RX.nilCheck rfl) ?_
            refine JI.go rfl trivial (fun w H => RX.fieldAddr rfl fo57_2 rfl) ?_
            refine JI.go rfl trivial (fun w H => RX.load H rfl (i := 0) (v := .slice (some ⟨g, 0, none⟩) (ini.length + 1) c1) rfl rfl one55) ?_
            refine JI.go rfl trivial (fun w H => RX.len_slice rfl (by rw [sl55]; rfl) rfl) ?_
            refine JI.go rfl trivial (fun w H => RX.sub rfl rfl (w_i64 (r := ((ini.length : Nat) : Int)) (by omega) (by omega) (by omega))) ?_
            refine JI.go rfl trivial (fun w H => RX.slice_h rfl rfl sl55 ho.spot (by omega) (by omega) (r := ini.length) (by omega)) ?_
            refine JI.go rfl trivial (fun w H => RX.nilCheck rfl) ?_
            refine JI.go rfl trivial (fun w H => RX.fieldAddr rfl fo57_2 rfl) ?_
            refine JI.nil fun w H => ?_
            refine JL.does trivial (EX.store (v := Value.slice _ _ _) H rfl rfl (i := 0) (l' := [.string ⟨s.toArray⟩, .int .i64 (posn s r2 : Nat), .slice (some ⟨g, 0, none⟩) ini.length c1]) rfl rfl (by simp) sz55 rfl rfl) ?_
            rintro _ w H
            refine JL.nil ?_
            refine J.region ?_
            refine JL.go trivial (RX.fieldAddr rfl fo82_0 rfl) ?_
            refine JL.go trivial (RX.loadAgg H rfl (i := 2) (vs := tv kf nf pq (ks2 ++ [t1]).length cq) rfl rfl ag25) ?_
            refine JL.does trivial (EX.storeAgg H rfl rfl (i := 6) (vs := tv kf nf pq (ks2 ++ [t1]).length cq) (l' := tv kf nf pq (ks2 ++ [t1]).length cq) rfl tv_cell (by simp) sz25 rfl rfl) ?_
            rintro _ w H
            refine JL.nil ?_
            refine J.inBlock ?_
            refine IH (.node kf nf (ks2 ++ [t1]), r2, ini, tv kf nf pq (ks2 ++ [t1]).length cq, some ⟨g, 0, none⟩, c1, xa, [(g, cel l 82)], sa, sq ++ (ss2 ++ so)) _ _ (by simp only; rw [hil]; omega) ⟨rfl, rfl, rfl, trivial⟩ trivial ⟨hf2, hop, hka, hr2, fun f hf => hkl f (List.mem_append_left _ hf), by simp only; omega, hend, ?_⟩
            have H1 := (H.pull 2 rfl).drop
            have H2 := ((H1.pull 7 rfl).pull 3 rfl).join
            have H3 := (H2.pull 2 rfl).join
            exact ((((H3.pull 2 rfl).pull 5 rfl).pull 3 rfl).pull 5 rfl).pull 5 rfl
      · skip
        first | have hk3p := of_decide_eq_false hk3 | skip
        have hn0 : ¬ (kf = 3 ∧ ks2.length = 0) := fun h => by omega
        refine JL.no ⟨_, rfl, gno hk3⟩ ?_
        refine JL.no ⟨_, rfl, gno hk3⟩ ?_
        refine JL.no ⟨_, rfl, gno hk3⟩ ?_
        refine JL.no ⟨_, rfl, gno hk3⟩ ?_
        refine JL.no ⟨_, rfl, gno hk3⟩ ?_
        refine JL.go trivial (RX.pick_f rfl hk3) ?_
        refine JL.nil ?_
        refine J.cond_f rfl rfl ?_
        refine J.skip ?_
        refine J.seq ?_
        refine J.seq ?_
        replace H := H.pull 6 rfl
        refine J.region ?_
        refine JL.go trivial (RX.movev (v := Value.pointer _) rfl) ?_
        refine JL.does trivial (EX.call rfl cl49 rfl ((ris_b hr hs H (t := [41]) (by decide)))) ?_
        rintro _ w ⟨bk, r2, htk, hr2, rfl, H⟩
        have hend := heq.trans (take1_no htk hn0)
        refine JL.go trivial (RX.not rfl) ?_
        refine JL.nil ?_
        refine J.cond rfl (fun hno => ?_) (fun hno => ?_)
        · skip
          obtain rfl : bk = false := by simpa using hno
          refine J.seq ?_
          refine J.region ?_
          refine JL.go trivial (RX.build (pv := []) (res := tv 0 0 none 0 0) rfl (by kernel_rfl)) ?_
          refine JL.does trivial (EX.storeAgg H rfl rfl (i := 5) (vs := tv 0 0 none 0 0) (l' := tv 0 0 none 0 0) rfl tv_cell (by simp) sz25 rfl rfl) ?_
          rintro _ w H
          refine JL.go trivial (RX.assign) ?_
          refine JL.go trivial (RX.assign) ?_
          refine JL.nil ?_
          first
          | refine J.retctt (x := Value.bool _) Tryd.func35 rfl H rfl (i := 5) (vs := tv 0 0 none 0 0) rfl rfl ag25 rfl rfl ?_
          | refine J.retctt (x := Value.bool _) Tryd.func35 rfl H rfl (i := 0) (vs := tv kt nt pt mt ct) rfl rfl ag25 rfl rfl ?_
          have H1 := (H.pull 2 rfl).drop
          exact ⟨_, rfl, 0, 0, none, 0, 0, false, false, _, _, _, _, r2, rfl, hr2, ((H1.pull 2 rfl |> fun H => H.drop) |> fun H => ((H.pull 3 rfl).drop.pull 3 rfl).drop.pull 3 rfl |> fun H => H.drop), .inl ⟨rfl, hend⟩⟩
        · skip
          obtain rfl : bk = true := by simpa using hno
          have hop := OwnSl.pop ho rfl
          refine J.skip ?_
          refine J.seq ?_
          refine J.any hmix fun w hs => ?_
          replace H := H.same hs; clear hs
          refine JA.stage (listed := [false, false, false, false, false, false, false, false, false, false, false, false, false, false, false]) 14 [0, 1, 2, 3, 4, 5, 6, 7, 8, 9, 10, 11, 12, 13] H (by kernel_rfl) rfl rfl ?_
          refine JI.go rfl trivial (fun w H => RX.movev (v := Value.pointer _) rfl) ?_
          refine JI.go rfl trivial (fun w H => RX.movev (v := Value.pointer _) rfl) ?_
          refine JI.go rfl trivial (fun w H => RX.nilCheck rfl) ?_
          refine JI.go rfl trivial (fun w H => RX.fieldAddr rfl fo57_2 rfl) ?_
          refine JI.go rfl trivial (fun w H => RX.load H rfl (i := 0) (v := .slice (some ⟨g, 0, none⟩) (ini.length + 1) c1) rfl rfl one55) ?_
          refine JI.go rfl trivial (fun w H => RX.movev (v := Value.pointer _) rfl) ?_
          refine JI.go rfl trivial (fun w H => RX.nilCheck rfl) ?_
          refine JI.go rfl trivial (fun w H => RX.fieldAddr rfl fo57_2 rfl) ?_
          refine JI.go rfl trivial (fun w H => RX.load H rfl (i := 0) (v := .slice (some ⟨g, 0, none⟩) (ini.length + 1) c1) rfl rfl one55) ?_
          refine JI.go rfl trivial (fun w H => RX.len_slice rfl (by rw [sl55]; rfl) rfl) ?_
          refine JI.go rfl trivial (fun w H => RX.sub rfl rfl (w_i64 (r := ((ini.length : Nat) : Int)) (by omega) (by omega) (by omega))) ?_
          refine JI.go rfl trivial (fun w H => RX.slice_h rfl rfl sl55 ho.spot (by omega) (by omega) (r := ini.length) (by omega)) ?_
          refine JI.go rfl trivial (fun w H => RX.nilCheck rfl) ?_
          refine JI.go rfl trivial (fun w H => RX.fieldAddr rfl fo57_2 rfl) ?_
          refine JI.nil fun w H => ?_
          refine JL.does trivial (EX.store (v := Value.slice _ _ _) H rfl rfl (i := 0) (l' := [.string ⟨s.toArray⟩, .int .i64 (posn s r2 : Nat), .slice (some ⟨g, 0, none⟩) ini.length c1]) rfl rfl (by simp) sz55 rfl rfl) ?_
          rintro _ w H
          refine JL.nil ?_
          refine J.region ?_
          refine JL.go trivial (RX.fieldAddr rfl fo82_0 rfl) ?_
          refine JL.go trivial (RX.loadAgg H rfl (i := 2) (vs := tv kf nf pq (ks2 ++ [t1]).length cq) rfl rfl ag25) ?_
          refine JL.does trivial (EX.storeAgg H rfl rfl (i := 6) (vs := tv kf nf pq (ks2 ++ [t1]).length cq) (l' := tv kf nf pq (ks2 ++ [t1]).length cq) rfl tv_cell (by simp) sz25 rfl rfl) ?_
          rintro _ w H
          refine JL.nil ?_
          refine J.inBlock ?_
          refine IH (.node kf nf (ks2 ++ [t1]), r2, ini, tv kf nf pq (ks2 ++ [t1]).length cq, some ⟨g, 0, none⟩, c1, xa, [(g, cel l 82)], sa, sq ++ (ss2 ++ so)) _ _ (by simp only; rw [hil]; omega) ⟨rfl, rfl, rfl, trivial⟩ trivial ⟨hf2, hop, hka, hr2, fun f hf => hkl f (List.mem_append_left _ hf), by simp only; omega, hend, ?_⟩
          have H1 := (H.pull 2 rfl).drop
          have H2 := ((H1.pull 7 rfl).pull 3 rfl).join
          have H3 := (H2.pull 2 rfl).join
          exact ((((H3.pull 2 rfl).pull 5 rfl).pull 3 rfl).pull 5 rfl).pull 5 rfl
  · skip
    have hnil : st1 = [] := List.eq_nil_of_length_eq_zero (by omega)
    refine J.exit rfl ?_
    refine J.seq ?_
    refine J.region ?_
    refine JL.go trivial (RX.loadAgg H rfl (i := 1) (vs := tv kt nt pt mt ct) rfl rfl ag25) ?_
    refine JL.does trivial (EX.storeAgg H rfl rfl (i := 0) (vs := tv kt nt pt mt ct) (l' := tv kt nt pt mt ct) rfl tv_cell (by simp) sz25 rfl rfl) ?_
    rintro _ w H
    refine JL.go trivial (RX.assign) ?_
    refine JL.go trivial (RX.assign) ?_
    refine JL.nil ?_
    first
    | refine J.retctt (x := Value.bool _) Tryd.func35 rfl H rfl (i := 5) (vs := tv 0 0 none 0 0) rfl rfl ag25 rfl rfl ?_
    | refine J.retctt (x := Value.bool _) Tryd.func35 rfl H rfl (i := 0) (vs := tv kt nt pt mt ct) rfl rfl ag25 rfl rfl ?_
    subst hnil
    exact ⟨_, rfl, kt, nt, pt, mt, ct, true, true, _, sl1, ss1, so, r1, rfl, hr, H.drop.drop, .inr (.inl ⟨rfl, rfl, t1, heq, hot⟩)⟩
end Go.Proofs.YtinbeaaloailnaaDoor

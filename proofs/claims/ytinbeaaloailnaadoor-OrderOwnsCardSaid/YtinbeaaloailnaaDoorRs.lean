/- The reference Parse. -/
import Derived.Test.YtinbeaaloailnaaDoorRn
namespace Go.Proofs.YtinbeaaloailnaaDoor
open Go Go.Eng
set_option maxRecDepth 100000
set_option linter.unusedVariables false
set_option linter.unusedSimpArgs false
theorem cl34 : callable Tryd.prog 34 = true := by kernel_rfl
theorem cl35 : callable Tryd.prog 35 = true := by kernel_rfl
theorem cl36 : callable Tryd.prog 36 = true := by kernel_rfl

def ParD (s r : List UInt8) (wh ok : Bool) (vt : List Value) (q : Value) (sl ss so : Seg) (rr : List UInt8) : Prop :=
  (ok = false ∧ pF s = (none, rr)) ∨ (ok = true ∧ wh = true ∧ ∃ t, pF s = (some t, rr) ∧ t.Own vt so) ∨
  (ok = true ∧ wh = false ∧ ∃ (p : Option Addr) (c : Nat) (xs : List Value) (st : List Tr), q = .slice p st.length c ∧ OwnSl 82 3 p st.length c xs sl ∧ KidsOwn st xs ss ∧ (∀ f ∈ st, f.kl ≤ 1) ∧ st.length + rr.length ≤ s.length ∧ rr.length < r.length ∧ pF s = plug st.reverse (pF rr))
def ParseN (s : List UInt8) (v : Value) (sg : Seg) : Prop :=
  ∃ (k n : Int) (p : Option Addr) (m c pl code : Nat), v = .tuple #[.agg (tv k n p m c).toArray, .int .i64 (pl : Nat), .int .i64 (code : Nat)] ∧
    ((code = 0 ∧ pl = 0 ∧ ∃ t, parseS s = .ok t ∧ t.Own (tv k n p m c) sg) ∨ (tv k n p m c = tv 0 0 none 0 0 ∧ parseS s = .err pl code))
theorem parse_none {s r : List UInt8} (hs : s.length ≤ 65536) (h : pF s = (none, r)) : parseS s = .err (posn s r) 6 := by
  unfold parseS
  rw [if_neg (by omega), show pO (s.length + 1) s = pF s from rfl, h]
theorem parse_part {s r : List UInt8} {t : Tr} (hs : s.length ≤ 65536) (h : pF s = (some t, r)) (hr : r ≠ []) : parseS s = .err (posn s r) 6 := by
  unfold parseS
  rw [if_neg (by omega), show pO (s.length + 1) s = pF s from rfl, h]
  dsimp only
  rw [if_neg hr]
theorem parse_all {s : List UInt8} {t : Tr} (hs : s.length ≤ 65536) (h : pF s = (some t, [])) : parseS s = if lenO t = 0 then .err 0 8 else .ok t := by
  unfold parseS
  rw [if_neg (by omega), show pO (s.length + 1) s = pF s from rfl, h]
  dsimp only
  rw [if_pos rfl]
theorem end_fail {s r rr : List UInt8} {st : List Tr} {t : Tr} {r0 : List UInt8} (hpl : pF s = plug st.reverse (pF r0)) (hb : pF r0 = (some t, r)) (he : endS st.reverse t r = .fail rr) : pF s = (none, rr) := by
  have h := end_law st.reverse t r
  rw [he] at h
  rw [hpl, hb]; exact h
theorem end_done {s r rr : List UInt8} {st : List Tr} {t t' : Tr} {r0 : List UInt8} (hpl : pF s = plug st.reverse (pF r0)) (hb : pF r0 = (some t, r)) (he : endS st.reverse t r = .done t' rr) : pF s = (some t', rr) := by
  have h := end_law st.reverse t r
  rw [he] at h
  rw [hpl, hb]; exact h
theorem end_more {s r rr : List UInt8} {st : List Tr} {t : Tr} {rf : List Tr} {r0 : List UInt8} (hpl : pF s = plug st.reverse (pF r0)) (hb : pF r0 = (some t, r)) (he : endS st.reverse t r = .more rf rr) : pF s = plug rf (pF rr) := by
  have h := end_law st.reverse t r
  rw [he] at h
  rw [hpl, hb]; exact h
theorem beg_leaf {r rr : List UInt8} {t : Tr} (h : begS r = .leaf t rr) : pF r = (some t, rr) ∧ rr.length < r.length := by
  have hl := beg_law r
  rw [h] at hl; exact hl
theorem beg_more {r rr : List UInt8} {f : Tr} (h : begS r = .more f rr) : pF r = plug1 f (pF rr) ∧ rr.length < r.length := by
  have hl := beg_law r
  rw [h] at hl; exact hl
theorem beg_fail {r rr : List UInt8} (h : begS r = .fail rr) : pF r = (none, rr) := by
  have hl := beg_law r
  rw [h] at hl; exact hl
def ER.rl : ER → Nat
  | .done _ r' => r'.length
  | .more _ r' => r'.length
  | .fail r' => r'.length
theorem endS_len : ∀ (rf : List Tr) (t : Tr) (r : List UInt8), (endS rf t r).rl ≤ r.length
  | [], t, r => Nat.le_refl _
  | .node k n ks :: rf, t, r => by
    rw [endS]
    have h1 := take_len [32, 120, 32] r
    have h2 := take_len [41] r
    split
    · generalize takeP [32, 120, 32] r = x at h1
      obtain ⟨o, r'⟩ := x
      cases o <;> exact h1
    · generalize takeP [41] r = x at h2
      obtain ⟨o, r'⟩ := x
      cases o with
      | none => exact h2
      | some u => exact Nat.le_trans (endS_len rf _ r') h2
theorem more_len {st rf : List Tr} {t : Tr} {r rr : List UInt8} (h : endS st t r = .more rf rr) : rr.length ≤ r.length := by
  have := endS_len st t r
  rw [h] at this; exact this

set_option maxHeartbeats 1600000 in
theorem rParse_b {w0 w : World} {F : List Seg} (H : Hp w0 w F) {s : List UInt8} (hs : s.length ≤ 9223372036854775807) : Ret Tryd.prog 11 [.string ⟨s.toArray⟩] w fun v w' => ∃ sg, ParseN s v sg ∧ Hp w0 w' (sg :: F) := by
  refine Calls.of_J (n := 58) Tryd.func11 rfl rfl rfl ?_
  refine J.seq ?_
  refine J.region ?_
  refine JL.does trivial (EX.alloc H zr25 rfl) ?_
  rintro _ w ⟨b2, rfl, H⟩
  refine JL.go trivial (RX.assign) ?_
  refine JL.go trivial (RX.assign) ?_
  refine JL.nil ?_
  refine J.seq ?_
  refine J.seq ?_
  refine J.region ?_
  refine JL.go trivial (RX.movev (v := Value.string _) rfl) ?_
  refine JL.go trivial (RX.len_string rfl ud9 (r := (s.length : Int)) (by rw [b_size])) ?_
  refine JL.go trivial (RX.gt rfl rfl) ?_
  refine JL.nil ?_
  refine J.cond_d rfl (fun hbig => ?_) (fun hbig => ?_)
  · skip
    have hps : parseS s = .err 0 3 := by unfold parseS; rw [if_pos (by omega)]
    refine J.seq ?_
    refine J.region ?_
    refine JL.go trivial (RX.build (pv := []) (res := tv 0 0 none 0 0) rfl (by kernel_rfl)) ?_
    refine JL.does trivial (EX.storeAgg H rfl rfl (i := 0) (vs := tv 0 0 none 0 0) (l' := tv 0 0 none 0 0) rfl tv_cell (by simp) sz25 rfl rfl) ?_
    rintro _ w H
    refine JL.go trivial (RX.assign) ?_
    refine JL.go trivial (RX.assign) ?_
    refine JL.nil ?_
    first
    | refine J.retctt (x := Value.int _ _) Tryd.func11 rfl H rfl (i := 0) (vs := tv 0 0 none 0 0) rfl rfl ag25 rfl rfl ?_
    | refine J.retctt (x := Value.int _ _) Tryd.func11 rfl H rfl (i := 5) (vs := tv 0 0 none 0 0) rfl rfl ag25 rfl rfl ?_
    | refine J.retctt (x := Value.int _ _) Tryd.func11 rfl H rfl (i := 5) (vs := tv k n p1 m c1) rfl rfl ag25 rfl rfl ?_
    exact ⟨_, rfl, [], ⟨0, 0, none, 0, 0, 0, 3, rfl, .inr ⟨rfl, hps⟩⟩, H.drop.nil⟩
  · skip
    refine J.skip ?_
    refine J.seq ?_
    refine J.region ?_
    refine JL.go trivial (RX.movev (v := Value.string _) rfl) ?_
    refine JL.go trivial (RX.build (pv := [(0, .string ⟨s.toArray⟩)]) (res := [.string ⟨s.toArray⟩, .int .i64 0, .slice none 0 0]) rfl (by kernel_rfl)) ?_
    refine JL.does trivial (EX.box (v := Value.agg _) H rfl rfl) ?_
    rintro _ w ⟨bp, rfl, H⟩
    refine JL.go trivial (RX.assignv (v := Value.pointer _) rfl) ?_
    refine JL.nil ?_
    replace H : Hp w0 w (PR bp s s (.slice none 0 0) :: [] :: [] :: [(b2, cel (tv 0 0 none 0 0) 25)] :: F) := by unfold PR; rw [posn_self]; exact H.nil.nil.pull 2 rfl
    have hs5 : s.length ≤ 65536 := by omega
    refine J.block ?_
    refine J.loop (ι := List UInt8 × List Tr × Option Addr × Nat × List Value × Seg × Seg) (S := fun z => []) (Φ := fun z w => z.1 <:+ s ∧ OwnSl 82 3 z.2.2.1 z.2.1.length z.2.2.2.1 z.2.2.2.2.1 z.2.2.2.2.2.1 ∧ KidsOwn z.2.1 z.2.2.2.2.1 z.2.2.2.2.2.2 ∧ (∀ f ∈ z.2.1, f.kl ≤ 1) ∧ z.2.1.length + z.1.length ≤ s.length ∧ pF s = plug z.2.1.reverse (pF z.1) ∧ Hp w0 w (PR bp s z.1 (.slice z.2.2.1 z.2.1.length z.2.2.2.1) :: z.2.2.2.2.2.1 :: z.2.2.2.2.2.2 :: [(b2, cel (tv 0 0 none 0 0) 25)] :: F)) (μ := fun z => z.1.length) (C := [(0, _), (2, _), (5, _)]) (s, [], none, 0, [], [], []) ⟨rfl, rfl, rfl, trivial⟩ trivial ?_ ?_
    · exact ⟨List.suffix_refl s, OwnSl.nil, KidsOwn.nil, fun f hf => by simp at hf, by simp, rfl, H⟩
    clear H
    rintro ⟨r, st, p, c, xs, sl, ss⟩ ρ w ⟨hr, ho, hk, hkl, hlen, hpl, H⟩ IH
    simp only at hr ho hk hkl hlen hpl H
    dsimp only
    refine J.block ?_
    refine J.seq ?_
    refine J.region ?_
    refine JL.go trivial (RX.movev (v := Value.pointer _) rfl) ?_
    refine JL.does trivial (EX.call rfl cl34 rfl ((rbeg_b hr (by omega) ho hk (by omega) H))) ?_
    rintro _ w ⟨kb, nb, q1, q2, pb, cb, xs1, sl1, ss1, st1, rr, rfl, ho1, hk1, hr1, H, hb⟩
    refine JL.go trivial (RX.movev (v := Value.tuple _) rfl) ?_
    refine JL.go trivial (RX.extract (v := .agg (tv kb nb none 0 0).toArray) rfl rfl) ?_
    refine JL.go trivial (RX.extract (v := .bool q1) rfl rfl) ?_
    refine JL.go trivial (RX.extract (v := .bool q2) rfl rfl) ?_
    refine JL.does trivial (EX.alloc H zr25 rfl) ?_
    rintro _ w ⟨b6, rfl, H⟩
    refine JL.does trivial (EX.storeAgg H rfl rfl (i := 0) (vs := tv kb nb none 0 0) (l' := tv kb nb none 0 0) rfl tv_cell (by simp) sz25 rfl rfl) ?_
    rintro _ w H
    refine JL.go trivial (RX.assignv (v := Value.bool _) rfl) ?_
    refine JL.go trivial (RX.assignv (v := Value.bool _) rfl) ?_
    refine JL.nil ?_
    refine J.seq ?_
    refine J.seq ?_
    refine J.region ?_
    refine JL.go trivial (RX.movev (v := Value.bool _) rfl) ?_
    refine JL.go trivial (RX.movev (v := Value.bool _) rfl) ?_
    refine JL.splitS 23 rfl (fun hq2 => ?_) (fun hq2 => ?_)
    · skip
      first | have hq2p := of_decide_eq_true hq2 | skip
      refine JL.go ⟨_, rfl, hq2⟩ (RX.movev (v := Value.bool _) rfl) ?_
      refine JL.go trivial (RX.pick_t rfl hq2) ?_
      refine JL.nil ?_
      refine J.join (ι := Bool × Bool × Int × Int × Option Addr × Nat × Nat × Value × Seg × Seg × Seg × List UInt8) (fun z => [(7, .bool z.1), (8, .bool z.2.1)]) (fun z w => Hp w0 w (PR bp s z.2.2.2.2.2.2.2.2.2.2.2 z.2.2.2.2.2.2.2.1 :: z.2.2.2.2.2.2.2.2.1 :: z.2.2.2.2.2.2.2.2.2.1 :: z.2.2.2.2.2.2.2.2.2.2.1 :: [(b6, cel (tv z.2.2.1 z.2.2.2.1 z.2.2.2.2.1 z.2.2.2.2.2.1 z.2.2.2.2.2.2.1) 25)] :: [(b2, cel (tv 0 0 none 0 0) 25)] :: F) ∧ z.2.2.2.2.2.2.2.2.2.2.2 <:+ s ∧ ParD s r z.1 z.2.1 (tv z.2.2.1 z.2.2.2.1 z.2.2.2.2.1 z.2.2.2.2.2.1 z.2.2.2.2.2.2.1) z.2.2.2.2.2.2.2.1 z.2.2.2.2.2.2.2.2.1 z.2.2.2.2.2.2.2.2.2.1 z.2.2.2.2.2.2.2.2.2.2.1 z.2.2.2.2.2.2.2.2.2.2.2) [(0, _), (2, _), (5, _), (6, _)] ⟨rfl, rfl, rfl, rfl, trivial⟩ ?_ ?_
      rotate_left
      · skip
        intro k2 hk2
        refine J.cond rfl (fun hq1 => ?_) (fun hq1 => ?_)
        · skip
          obtain ⟨hbe, hst⟩ : begS r = .leaf (.node kb nb []) rr ∧ st1 = st := by
            rcases hb with ⟨h, _⟩ | ⟨_, _, h⟩ | ⟨h, _⟩
            · rw [hq2] at h; cases h
            · exact h
            · rw [hq1] at h; cases h
          obtain ⟨hb1, hb2⟩ := beg_leaf hbe
          have hkl1 : ∀ f ∈ st1, f.kl ≤ 1 := by rw [hst]; exact hkl
          have hstl : st1.length = st.length := by rw [hst]
          have hpl1 : pF s = plug st1.reverse (pF r) := by rw [hst]; exact hpl
          replace H : Hp w0 w (PR bp s rr (.slice pb st1.length cb) :: sl1 :: ss1 :: [] :: [(b6, cel (tv kb nb none 0 0) 25)] :: [(b2, cel (tv 0 0 none 0 0) 25)] :: F) := ((H.nil.pull 4 rfl).pull 4 rfl).pull 4 rfl
          refine J.region ?_
          refine JL.go trivial (RX.movev (v := Value.pointer _) rfl) ?_
          refine JL.go trivial (RX.loadAgg H rfl (i := 4) (vs := tv kb nb none 0 0) rfl rfl ag25) ?_
          refine JL.does trivial (EX.call rfl cl35 rfl ((rend_b hr1 (by omega) (t := .node kb nb []) Tr.Own.leaf ho1 hk1 hkl1 (by omega) H))) ?_
          rintro _ w ⟨ke, ne, pe, me, ce, e1, e2, qe, sl2, ss2, so2, r2, rfl, hr2, H, he⟩
          refine JL.go trivial (RX.movev (v := Value.tuple _) rfl) ?_
          refine JL.go trivial (RX.extract (v := .agg (tv ke ne pe me ce).toArray) rfl rfl) ?_
          refine JL.go trivial (RX.extract (v := .bool e1) rfl rfl) ?_
          refine JL.go trivial (RX.extract (v := .bool e2) rfl rfl) ?_
          refine JL.does trivial (EX.storeAgg H rfl rfl (i := 4) (vs := tv ke ne pe me ce) (l' := tv ke ne pe me ce) rfl tv_cell (by simp) sz25 rfl rfl) ?_
          rintro _ w H
          refine JL.go trivial (RX.assignv (v := Value.bool _) rfl) ?_
          refine JL.go trivial (RX.assignv (v := Value.bool _) rfl) ?_
          refine JL.nil ?_
          have hD : ParD s r e1 e2 (tv ke ne pe me ce) qe sl2 ss2 so2 r2 := by
            rcases he with ⟨h1, h⟩ | ⟨h1, h2, t2, h, hot⟩ | ⟨h1, h2, p2, c2, xs2, st2, hq, ho2, hk2, hkl2, hl2, h⟩
            · exact .inl ⟨h1, end_fail hpl1 hb1 h⟩
            · exact .inr (.inl ⟨h2, h1, t2, end_done hpl1 hb1 h, hot⟩)
            · have hml := more_len h
              exact .inr (.inr ⟨h2, h1, p2, c2, xs2, st2, hq, ho2, hk2, hkl2, by omega, by omega, end_more hpl1 hb1 h⟩)
          first
          | exact hk2 (e1, e2, ke, ne, pe, me, ce, qe, sl2, ss2, so2, r2) _ _ ⟨rfl, rfl, rfl, rfl, trivial⟩ ⟨rfl, rfl, trivial⟩ ⟨H, hr2, hD⟩
          | exact hk2 (q1, q2, kb, nb, none, 0, 0, .slice pb st1.length cb, sl1, ss1, [], rr) _ _ ⟨rfl, rfl, rfl, rfl, trivial⟩ ⟨rfl, rfl, trivial⟩ ⟨((H.nil.pull 4 rfl).pull 4 rfl).pull 4 rfl, hr1, hD⟩
        · skip
          have hD : ParD s r q1 q2 (tv kb nb none 0 0) (.slice pb st1.length cb) sl1 ss1 [] rr := by
            rcases hb with ⟨h, _⟩ | ⟨h, _⟩ | ⟨_, _, f, hf, hst, hfk⟩
            · rw [hq2] at h; cases h
            · rw [hq1] at h; cases h
            · obtain ⟨hb1, hb2⟩ := beg_more hf
              have hstl : st1.length = st.length + 1 := by rw [hst]; simp
              refine .inr (.inr ⟨hq2, hq1, pb, cb, xs1, st1, rfl, ho1, hk1, fun x hx => ?_, by omega, hb2, ?_⟩)
              · rw [hst] at hx
                rcases List.mem_append.1 hx with h | h
                · exact hkl x h
                · obtain rfl := List.mem_singleton.1 h; exact hfk
              · rw [hpl, hb1, hst, List.reverse_append, List.reverse_singleton, List.singleton_append]; rfl
          refine J.skip ?_
          first
          | exact hk2 (e1, e2, ke, ne, pe, me, ce, qe, sl2, ss2, so2, r2) _ _ ⟨rfl, rfl, rfl, rfl, trivial⟩ ⟨rfl, rfl, trivial⟩ ⟨H, hr2, hD⟩
          | exact hk2 (q1, q2, kb, nb, none, 0, 0, .slice pb st1.length cb, sl1, ss1, [], rr) _ _ ⟨rfl, rfl, rfl, rfl, trivial⟩ ⟨rfl, rfl, trivial⟩ ⟨((H.nil.pull 4 rfl).pull 4 rfl).pull 4 rfl, hr1, hD⟩
      · skip
        clear H hb ho1 hk1 hr1
        rintro ⟨wh, ok, k, n, p1, m, c1, q, sl3, ss3, so, r3⟩ ρ w ⟨H, hr3, hD⟩
        simp only at H hr3 hD
        try dsimp only
        refine J.seq ?_
        refine J.seq ?_
        refine J.region ?_
        refine JL.go trivial (RX.movev (v := Value.bool _) rfl) ?_
        refine JL.go trivial (RX.not rfl) ?_
        refine JL.go trivial (RX.movev (v := Value.bool _) rfl) ?_
        refine JL.splitS 35 rfl (fun hok => ?_) (fun hok => ?_)
        · skip
          first | have hokp := of_decide_eq_true hok | skip
          have hok2 : ok = false := by simpa using hok
          have hnone : pF s = (none, r3) := by
            rcases hD with ⟨_, h⟩ | ⟨h, _⟩ | ⟨h, _⟩
            · exact h
            · rw [hok2] at h; cases h
            · rw [hok2] at h; cases h
          have hps := parse_none hs5 hnone
          refine JL.no ⟨_, rfl, gno hok⟩ ?_
          refine JL.no ⟨_, rfl, gno hok⟩ ?_
          refine JL.no ⟨_, rfl, nofun⟩ ?_
          refine JL.no ⟨_, rfl, nofun⟩ ?_
          refine JL.no ⟨_, rfl, nofun⟩ ?_
          refine JL.no ⟨_, rfl, nofun⟩ ?_
          refine JL.no ⟨_, rfl, nofun⟩ ?_
          refine JL.no ⟨_, rfl, nofun⟩ ?_
          refine JL.no ⟨_, rfl, nofun⟩ ?_
          refine JL.no ⟨_, rfl, gno hok⟩ ?_
          refine JL.go trivial (RX.pick_t rfl hok) ?_
          refine JL.nil ?_
          refine J.join (ι := Unit) (fun _ => []) (fun _ w => ok = true ∧ (wh = true → r3 = []) ∧ Hp w0 w (PR bp s r3 q :: sl3 :: ss3 :: so :: [(b6, cel (tv k n p1 m c1) 25)] :: [(b2, cel (tv 0 0 none 0 0) 25)] :: F)) [(0, _), (2, _), (5, _), (6, _), (7, _)] ⟨rfl, rfl, rfl, rfl, rfl, trivial⟩ ?_ ?_
          rotate_left
          · skip
            intro k2 hk2
            refine J.cond_t rfl rfl ?_
            refine J.seq ?_
            refine J.any hmix fun w hs => ?_
            replace H := H.same hs; clear hs
            refine JA.take 0 (listed' := [true, false, false, false, false, false, false, false]) rfl (by kernel_rfl) (by kernel_rfl) (by kernel_rfl) rfl trivial (fun w => RX.build (pv := []) (res := tv 0 0 none 0 0) rfl (by kernel_rfl)) ?_
            refine JA.take 1 (listed' := [true, true, false, false, false, false, false, false]) rfl (by kernel_rfl) (by kernel_rfl) (by kernel_rfl) rfl trivial (fun w => RX.movev (v := Value.pointer _) rfl) ?_
            refine JA.take 2 (listed' := [true, true, true, false, false, false, false, false]) rfl (by kernel_rfl) (by kernel_rfl) (by kernel_rfl) rfl trivial (fun w => RX.nilCheck rfl) ?_
            refine JA.take 3 (listed' := [true, true, true, true, false, false, false, false]) rfl (by kernel_rfl) (by kernel_rfl) (by kernel_rfl) rfl trivial (fun w => RX.fieldAddr rfl fo57_1 rfl) ?_
            refine JA.all [4, 5] (by kernel_rfl) (by decide) ?_
            refine ⟨?_, ?_⟩
            · skip
              refine JO.go (listed' := [true, true, true, true, true, false, false, false]) rfl rfl trivial (RX.load H rfl (i := 0) (v := .int .i64 (posn s r3 : Nat)) rfl rfl one3) ?_
              refine JA.all [5] (by kernel_rfl) (by decide) ?_
              refine JO.does (listed' := [true, true, true, true, true, true, false, false]) rfl rfl trivial (EX.storeAgg H rfl rfl (i := 5) (vs := tv 0 0 none 0 0) (l' := tv 0 0 none 0 0) rfl tv_cell (by simp) sz25 rfl rfl) ?_
              rintro _ w H
              refine JA.take 6 (listed' := [true, true, true, true, true, true, true, false]) rfl (by kernel_rfl) (by kernel_rfl) (by kernel_rfl) rfl trivial (fun w => RX.assignv (v := Value.int _ _) rfl) ?_
              refine JA.take 7 (listed' := [true, true, true, true, true, true, true, true]) rfl (by kernel_rfl) (by kernel_rfl) (by kernel_rfl) rfl trivial (fun w => RX.assign) ?_
              refine JA.done (by kernel_rfl) ?_
              first
              | refine J.retctt (x := Value.int _ _) Tryd.func11 rfl H rfl (i := 0) (vs := tv 0 0 none 0 0) rfl rfl ag25 rfl rfl ?_
              | refine J.retctt (x := Value.int _ _) Tryd.func11 rfl H rfl (i := 5) (vs := tv 0 0 none 0 0) rfl rfl ag25 rfl rfl ?_
              | refine J.retctt (x := Value.int _ _) Tryd.func11 rfl H rfl (i := 5) (vs := tv k n p1 m c1) rfl rfl ag25 rfl rfl ?_
              first
              | exact ⟨_, rfl, [], ⟨0, 0, none, 0, 0, posn s r3, 6, rfl, .inr ⟨rfl, hps⟩⟩, H.drop.drop.drop.drop.drop.drop.nil⟩
              | exact ⟨_, rfl, [], ⟨0, 0, none, 0, 0, posn s r3, 6, rfl, .inr ⟨rfl, hps⟩⟩, H.drop.drop.drop.drop.drop.drop.nil⟩
              | exact ⟨_, rfl, [], ⟨0, 0, none, 0, 0, 0, 8, rfl, .inr ⟨rfl, hps⟩⟩, H.drop.drop.drop.drop.drop.drop.nil⟩
              | exact ⟨_, rfl, so, ⟨k, n, p1, m, c1, 0, 0, rfl, .inl ⟨rfl, rfl, t, hps, hot⟩⟩, ((H.drop.drop.drop.pull 1 rfl).drop.pull 1 rfl).drop⟩
            · skip
              refine JO.does (listed' := [true, true, true, true, false, true, false, false]) rfl rfl trivial (EX.storeAgg H rfl rfl (i := 5) (vs := tv 0 0 none 0 0) (l' := tv 0 0 none 0 0) rfl tv_cell (by simp) sz25 rfl rfl) ?_
              rintro _ w H
              refine JA.all [4] (by kernel_rfl) (by decide) ?_
              refine JO.go (listed' := [true, true, true, true, true, true, false, false]) rfl rfl trivial (RX.load H rfl (i := 0) (v := .int .i64 (posn s r3 : Nat)) rfl rfl one3) ?_
              refine JA.take 6 (listed' := [true, true, true, true, true, true, true, false]) rfl (by kernel_rfl) (by kernel_rfl) (by kernel_rfl) rfl trivial (fun w => RX.assignv (v := Value.int _ _) rfl) ?_
              refine JA.take 7 (listed' := [true, true, true, true, true, true, true, true]) rfl (by kernel_rfl) (by kernel_rfl) (by kernel_rfl) rfl trivial (fun w => RX.assign) ?_
              refine JA.done (by kernel_rfl) ?_
              first
              | refine J.retctt (x := Value.int _ _) Tryd.func11 rfl H rfl (i := 0) (vs := tv 0 0 none 0 0) rfl rfl ag25 rfl rfl ?_
              | refine J.retctt (x := Value.int _ _) Tryd.func11 rfl H rfl (i := 5) (vs := tv 0 0 none 0 0) rfl rfl ag25 rfl rfl ?_
              | refine J.retctt (x := Value.int _ _) Tryd.func11 rfl H rfl (i := 5) (vs := tv k n p1 m c1) rfl rfl ag25 rfl rfl ?_
              first
              | exact ⟨_, rfl, [], ⟨0, 0, none, 0, 0, posn s r3, 6, rfl, .inr ⟨rfl, hps⟩⟩, H.drop.drop.drop.drop.drop.drop.nil⟩
              | exact ⟨_, rfl, [], ⟨0, 0, none, 0, 0, posn s r3, 6, rfl, .inr ⟨rfl, hps⟩⟩, H.drop.drop.drop.drop.drop.drop.nil⟩
              | exact ⟨_, rfl, [], ⟨0, 0, none, 0, 0, 0, 8, rfl, .inr ⟨rfl, hps⟩⟩, H.drop.drop.drop.drop.drop.drop.nil⟩
              | exact ⟨_, rfl, so, ⟨k, n, p1, m, c1, 0, 0, rfl, .inl ⟨rfl, rfl, t, hps, hot⟩⟩, ((H.drop.drop.drop.pull 1 rfl).drop.pull 1 rfl).drop⟩
          · skip
            clear H
            rintro _ ρ w ⟨hok2, hwr, H⟩
            refine J.seq ?_
            refine J.region ?_
            refine JL.go trivial (RX.movev (v := Value.bool _) rfl) ?_
            refine JL.nil ?_
            refine J.cond rfl (fun hw => ?_) (fun hw => ?_)
            · skip
              obtain ⟨t, hpt, hot⟩ : ∃ t, pF s = (some t, r3) ∧ t.Own (tv k n p1 m c1) so := by
                rcases hD with ⟨h, _⟩ | ⟨_, _, h⟩ | ⟨_, h, _⟩
                · rw [hok2] at h; cases h
                · exact h
                · rw [hw] at h; cases h
              have hpp := pO_parts _ _ _ _ hpt
              rw [hwr hw] at hpt
              have hps := parse_all hs5 hpt
              refine J.seq ?_
              refine J.seq ?_
              refine J.region ?_
              refine JL.go trivial (RX.loadAgg H rfl (i := 4) (vs := tv k n p1 m c1) rfl rfl ag25) ?_
              refine JL.does trivial (EX.call rfl cl36 rfl ((rCheck_b H (Tr.Is.cons (Tr.Is.cons (Tr.Is.cons hot.is))) (by omega)))) ?_
              rintro _ w ⟨rfl, H⟩
              refine JL.go trivial (RX.ne rfl rfl) ?_
              refine JL.nil ?_
              refine J.cond_d rfl (fun hc8 => ?_) (fun hc8 => ?_)
              · skip
                have h0 : lenO t = 0 := by
                  unfold c8 at hc8
                  split at hc8
                  · assumption
                  · exact absurd rfl hc8
                rw [if_pos h0] at hps
                refine J.seq ?_
                refine J.region ?_
                refine JL.go trivial (RX.build (pv := []) (res := tv 0 0 none 0 0) rfl (by kernel_rfl)) ?_
                refine JL.does trivial (EX.storeAgg H rfl rfl (i := 5) (vs := tv 0 0 none 0 0) (l' := tv 0 0 none 0 0) rfl tv_cell (by simp) sz25 rfl rfl) ?_
                rintro _ w H
                refine JL.go trivial (RX.assign) ?_
                refine JL.go trivial (RX.assign) ?_
                refine JL.nil ?_
                first
                | refine J.retctt (x := Value.int _ _) Tryd.func11 rfl H rfl (i := 0) (vs := tv 0 0 none 0 0) rfl rfl ag25 rfl rfl ?_
                | refine J.retctt (x := Value.int _ _) Tryd.func11 rfl H rfl (i := 5) (vs := tv 0 0 none 0 0) rfl rfl ag25 rfl rfl ?_
                | refine J.retctt (x := Value.int _ _) Tryd.func11 rfl H rfl (i := 5) (vs := tv k n p1 m c1) rfl rfl ag25 rfl rfl ?_
                first
                | exact ⟨_, rfl, [], ⟨0, 0, none, 0, 0, posn s r3, 6, rfl, .inr ⟨rfl, hps⟩⟩, H.drop.drop.drop.drop.drop.drop.nil⟩
                | exact ⟨_, rfl, [], ⟨0, 0, none, 0, 0, posn s r3, 6, rfl, .inr ⟨rfl, hps⟩⟩, H.drop.drop.drop.drop.drop.drop.nil⟩
                | exact ⟨_, rfl, [], ⟨0, 0, none, 0, 0, 0, 8, rfl, .inr ⟨rfl, hps⟩⟩, H.drop.drop.drop.drop.drop.drop.nil⟩
                | exact ⟨_, rfl, so, ⟨k, n, p1, m, c1, 0, 0, rfl, .inl ⟨rfl, rfl, t, hps, hot⟩⟩, ((H.drop.drop.drop.pull 1 rfl).drop.pull 1 rfl).drop⟩
              · skip
                have h0 : ¬ lenO t = 0 := by
                  intro h
                  unfold c8 at hc8
                  rw [if_pos h] at hc8
                  exact hc8 (by decide)
                rw [if_neg h0] at hps
                refine J.skip ?_
                refine J.seq ?_
                refine J.region ?_
                refine JL.go trivial (RX.loadAgg H rfl (i := 4) (vs := tv k n p1 m c1) rfl rfl ag25) ?_
                refine JL.does trivial (EX.storeAgg H rfl rfl (i := 5) (vs := tv k n p1 m c1) (l' := tv k n p1 m c1) rfl tv_cell (by simp) sz25 rfl rfl) ?_
                rintro _ w H
                refine JL.go trivial (RX.assign) ?_
                refine JL.go trivial (RX.assign) ?_
                refine JL.nil ?_
                first
                | refine J.retctt (x := Value.int _ _) Tryd.func11 rfl H rfl (i := 0) (vs := tv 0 0 none 0 0) rfl rfl ag25 rfl rfl ?_
                | refine J.retctt (x := Value.int _ _) Tryd.func11 rfl H rfl (i := 5) (vs := tv 0 0 none 0 0) rfl rfl ag25 rfl rfl ?_
                | refine J.retctt (x := Value.int _ _) Tryd.func11 rfl H rfl (i := 5) (vs := tv k n p1 m c1) rfl rfl ag25 rfl rfl ?_
                first
                | exact ⟨_, rfl, [], ⟨0, 0, none, 0, 0, posn s r3, 6, rfl, .inr ⟨rfl, hps⟩⟩, H.drop.drop.drop.drop.drop.drop.nil⟩
                | exact ⟨_, rfl, [], ⟨0, 0, none, 0, 0, posn s r3, 6, rfl, .inr ⟨rfl, hps⟩⟩, H.drop.drop.drop.drop.drop.drop.nil⟩
                | exact ⟨_, rfl, [], ⟨0, 0, none, 0, 0, 0, 8, rfl, .inr ⟨rfl, hps⟩⟩, H.drop.drop.drop.drop.drop.drop.nil⟩
                | exact ⟨_, rfl, so, ⟨k, n, p1, m, c1, 0, 0, rfl, .inl ⟨rfl, rfl, t, hps, hot⟩⟩, ((H.drop.drop.drop.pull 1 rfl).drop.pull 1 rfl).drop⟩
            · skip
              obtain ⟨p2, c2, xs2, st2, hq, ho2, hk3, hkl2, hl2, hl3, hpl2⟩ : ∃ (p : Option Addr) (c : Nat) (xs : List Value) (st : List Tr), q = .slice p st.length c ∧ OwnSl 82 3 p st.length c xs sl3 ∧ KidsOwn st xs ss3 ∧ (∀ f ∈ st, f.kl ≤ 1) ∧ st.length + r3.length ≤ s.length ∧ r3.length < r.length ∧ pF s = plug st.reverse (pF r3) := by
                rcases hD with ⟨h, _⟩ | ⟨_, h, _⟩ | ⟨_, _, h⟩
                · rw [hok2] at h; cases h
                · rw [hw] at h; cases h
                · exact h
              rw [hq] at H
              refine J.skip ?_
              refine J.inBlock ?_
              exact IH (r3, st2, p2, c2, xs2, sl3, ss3) _ _ hl3 ⟨rfl, rfl, rfl, trivial⟩ trivial ⟨hr3, ho2, hk3, hkl2, hl2, hpl2, ((H.pull 3 rfl).drop.pull 3 rfl).drop⟩
        · skip
          first | have hokp := of_decide_eq_false hok | skip
          have hok2 : ok = true := by simpa using hok
          refine JL.go ⟨_, rfl, hok⟩ (RX.movev (v := Value.bool _) rfl) ?_
          refine JL.go ⟨_, rfl, hok⟩ (RX.movev (v := Value.bool _) rfl) ?_
          refine JL.splitS 37 rfl (fun hwh => ?_) (fun hwh => ?_)
          · skip
            first | have hwhp := of_decide_eq_true hwh | skip
            refine JL.go ⟨_, rfl, hwh⟩ (RX.movev (v := Value.pointer _) rfl) ?_
            refine JL.go ⟨_, rfl, hwh⟩ (RX.nilCheck rfl) ?_
            refine JL.go ⟨_, rfl, hwh⟩ (RX.fieldAddr rfl fo57_1 rfl) ?_
            refine JL.go ⟨_, rfl, hwh⟩ (RX.load H rfl (i := 0) (v := .int .i64 (posn s r3 : Nat)) rfl rfl one3) ?_
            refine JL.go ⟨_, rfl, hwh⟩ (RX.movev (v := Value.string _) rfl) ?_
            refine JL.go ⟨_, rfl, hwh⟩ (RX.len_string rfl ud9 (r := (s.length : Int)) (by rw [b_size])) ?_
            refine JL.go ⟨_, rfl, hwh⟩ (RX.lt rfl rfl) ?_
            refine JL.go ⟨_, rfl, hok⟩ (RX.pick_t rfl hwh) ?_
            refine JL.go trivial (RX.pick_f rfl hok) ?_
            refine JL.nil ?_
            refine J.join (ι := Unit) (fun _ => []) (fun _ w => ok = true ∧ (wh = true → r3 = []) ∧ Hp w0 w (PR bp s r3 q :: sl3 :: ss3 :: so :: [(b6, cel (tv k n p1 m c1) 25)] :: [(b2, cel (tv 0 0 none 0 0) 25)] :: F)) [(0, _), (2, _), (5, _), (6, _), (7, _)] ⟨rfl, rfl, rfl, rfl, rfl, trivial⟩ ?_ ?_
            rotate_left
            · skip
              intro k2 hk2
              refine J.cond_d rfl (fun hat => ?_) (fun hat => ?_)
              · skip
                obtain ⟨t, hpt, hot⟩ : ∃ t, pF s = (some t, r3) ∧ t.Own (tv k n p1 m c1) so := by
                  rcases hD with ⟨h, _⟩ | ⟨_, _, h⟩ | ⟨_, h, _⟩
                  · rw [hok2] at h; cases h
                  · exact h
                  · rw [hwh] at h; cases h
                have hps := parse_part hs5 hpt (fun h => by rw [h, posn_nil] at hat; omega)
                refine J.seq ?_
                refine J.any hmix fun w hs => ?_
                replace H := H.same hs; clear hs
                refine JA.take 0 (listed' := [true, false, false, false, false, false, false, false]) rfl (by kernel_rfl) (by kernel_rfl) (by kernel_rfl) rfl trivial (fun w => RX.build (pv := []) (res := tv 0 0 none 0 0) rfl (by kernel_rfl)) ?_
                refine JA.take 1 (listed' := [true, true, false, false, false, false, false, false]) rfl (by kernel_rfl) (by kernel_rfl) (by kernel_rfl) rfl trivial (fun w => RX.movev (v := Value.pointer _) rfl) ?_
                refine JA.take 2 (listed' := [true, true, true, false, false, false, false, false]) rfl (by kernel_rfl) (by kernel_rfl) (by kernel_rfl) rfl trivial (fun w => RX.nilCheck rfl) ?_
                refine JA.take 3 (listed' := [true, true, true, true, false, false, false, false]) rfl (by kernel_rfl) (by kernel_rfl) (by kernel_rfl) rfl trivial (fun w => RX.fieldAddr rfl fo57_1 rfl) ?_
                refine JA.all [4, 5] (by kernel_rfl) (by decide) ?_
                refine ⟨?_, ?_⟩
                · skip
                  refine JO.go (listed' := [true, true, true, true, true, false, false, false]) rfl rfl trivial (RX.load H rfl (i := 0) (v := .int .i64 (posn s r3 : Nat)) rfl rfl one3) ?_
                  refine JA.all [5] (by kernel_rfl) (by decide) ?_
                  refine JO.does (listed' := [true, true, true, true, true, true, false, false]) rfl rfl trivial (EX.storeAgg H rfl rfl (i := 5) (vs := tv 0 0 none 0 0) (l' := tv 0 0 none 0 0) rfl tv_cell (by simp) sz25 rfl rfl) ?_
                  rintro _ w H
                  refine JA.take 6 (listed' := [true, true, true, true, true, true, true, false]) rfl (by kernel_rfl) (by kernel_rfl) (by kernel_rfl) rfl trivial (fun w => RX.assignv (v := Value.int _ _) rfl) ?_
                  refine JA.take 7 (listed' := [true, true, true, true, true, true, true, true]) rfl (by kernel_rfl) (by kernel_rfl) (by kernel_rfl) rfl trivial (fun w => RX.assign) ?_
                  refine JA.done (by kernel_rfl) ?_
                  first
                  | refine J.retctt (x := Value.int _ _) Tryd.func11 rfl H rfl (i := 0) (vs := tv 0 0 none 0 0) rfl rfl ag25 rfl rfl ?_
                  | refine J.retctt (x := Value.int _ _) Tryd.func11 rfl H rfl (i := 5) (vs := tv 0 0 none 0 0) rfl rfl ag25 rfl rfl ?_
                  | refine J.retctt (x := Value.int _ _) Tryd.func11 rfl H rfl (i := 5) (vs := tv k n p1 m c1) rfl rfl ag25 rfl rfl ?_
                  first
                  | exact ⟨_, rfl, [], ⟨0, 0, none, 0, 0, posn s r3, 6, rfl, .inr ⟨rfl, hps⟩⟩, H.drop.drop.drop.drop.drop.drop.nil⟩
                  | exact ⟨_, rfl, [], ⟨0, 0, none, 0, 0, posn s r3, 6, rfl, .inr ⟨rfl, hps⟩⟩, H.drop.drop.drop.drop.drop.drop.nil⟩
                  | exact ⟨_, rfl, [], ⟨0, 0, none, 0, 0, 0, 8, rfl, .inr ⟨rfl, hps⟩⟩, H.drop.drop.drop.drop.drop.drop.nil⟩
                  | exact ⟨_, rfl, so, ⟨k, n, p1, m, c1, 0, 0, rfl, .inl ⟨rfl, rfl, t, hps, hot⟩⟩, ((H.drop.drop.drop.pull 1 rfl).drop.pull 1 rfl).drop⟩
                · skip
                  refine JO.does (listed' := [true, true, true, true, false, true, false, false]) rfl rfl trivial (EX.storeAgg H rfl rfl (i := 5) (vs := tv 0 0 none 0 0) (l' := tv 0 0 none 0 0) rfl tv_cell (by simp) sz25 rfl rfl) ?_
                  rintro _ w H
                  refine JA.all [4] (by kernel_rfl) (by decide) ?_
                  refine JO.go (listed' := [true, true, true, true, true, true, false, false]) rfl rfl trivial (RX.load H rfl (i := 0) (v := .int .i64 (posn s r3 : Nat)) rfl rfl one3) ?_
                  refine JA.take 6 (listed' := [true, true, true, true, true, true, true, false]) rfl (by kernel_rfl) (by kernel_rfl) (by kernel_rfl) rfl trivial (fun w => RX.assignv (v := Value.int _ _) rfl) ?_
                  refine JA.take 7 (listed' := [true, true, true, true, true, true, true, true]) rfl (by kernel_rfl) (by kernel_rfl) (by kernel_rfl) rfl trivial (fun w => RX.assign) ?_
                  refine JA.done (by kernel_rfl) ?_
                  first
                  | refine J.retctt (x := Value.int _ _) Tryd.func11 rfl H rfl (i := 0) (vs := tv 0 0 none 0 0) rfl rfl ag25 rfl rfl ?_
                  | refine J.retctt (x := Value.int _ _) Tryd.func11 rfl H rfl (i := 5) (vs := tv 0 0 none 0 0) rfl rfl ag25 rfl rfl ?_
                  | refine J.retctt (x := Value.int _ _) Tryd.func11 rfl H rfl (i := 5) (vs := tv k n p1 m c1) rfl rfl ag25 rfl rfl ?_
                  first
                  | exact ⟨_, rfl, [], ⟨0, 0, none, 0, 0, posn s r3, 6, rfl, .inr ⟨rfl, hps⟩⟩, H.drop.drop.drop.drop.drop.drop.nil⟩
                  | exact ⟨_, rfl, [], ⟨0, 0, none, 0, 0, posn s r3, 6, rfl, .inr ⟨rfl, hps⟩⟩, H.drop.drop.drop.drop.drop.drop.nil⟩
                  | exact ⟨_, rfl, [], ⟨0, 0, none, 0, 0, 0, 8, rfl, .inr ⟨rfl, hps⟩⟩, H.drop.drop.drop.drop.drop.drop.nil⟩
                  | exact ⟨_, rfl, so, ⟨k, n, p1, m, c1, 0, 0, rfl, .inl ⟨rfl, rfl, t, hps, hot⟩⟩, ((H.drop.drop.drop.pull 1 rfl).drop.pull 1 rfl).drop⟩
              · skip
                refine J.skip ?_
                first
                | exact hk2 () _ _ ⟨rfl, rfl, rfl, rfl, rfl, trivial⟩ trivial ⟨hok2, fun _ => end_of hr3 (Nat.le_antisymm posn_le (by omega)), H⟩
                | exact hk2 () _ _ ⟨rfl, rfl, rfl, rfl, rfl, trivial⟩ trivial ⟨hok2, fun h => (by rw [hwh] at h; cases h), H⟩
            · skip
              clear H
              rintro _ ρ w ⟨hok2, hwr, H⟩
              refine J.seq ?_
              refine J.region ?_
              refine JL.go trivial (RX.movev (v := Value.bool _) rfl) ?_
              refine JL.nil ?_
              refine J.cond rfl (fun hw => ?_) (fun hw => ?_)
              · skip
                obtain ⟨t, hpt, hot⟩ : ∃ t, pF s = (some t, r3) ∧ t.Own (tv k n p1 m c1) so := by
                  rcases hD with ⟨h, _⟩ | ⟨_, _, h⟩ | ⟨_, h, _⟩
                  · rw [hok2] at h; cases h
                  · exact h
                  · rw [hw] at h; cases h
                have hpp := pO_parts _ _ _ _ hpt
                rw [hwr hw] at hpt
                have hps := parse_all hs5 hpt
                refine J.seq ?_
                refine J.seq ?_
                refine J.region ?_
                refine JL.go trivial (RX.loadAgg H rfl (i := 4) (vs := tv k n p1 m c1) rfl rfl ag25) ?_
                refine JL.does trivial (EX.call rfl cl36 rfl ((rCheck_b H (Tr.Is.cons (Tr.Is.cons (Tr.Is.cons hot.is))) (by omega)))) ?_
                rintro _ w ⟨rfl, H⟩
                refine JL.go trivial (RX.ne rfl rfl) ?_
                refine JL.nil ?_
                refine J.cond_d rfl (fun hc8 => ?_) (fun hc8 => ?_)
                · skip
                  have h0 : lenO t = 0 := by
                    unfold c8 at hc8
                    split at hc8
                    · assumption
                    · exact absurd rfl hc8
                  rw [if_pos h0] at hps
                  refine J.seq ?_
                  refine J.region ?_
                  refine JL.go trivial (RX.build (pv := []) (res := tv 0 0 none 0 0) rfl (by kernel_rfl)) ?_
                  refine JL.does trivial (EX.storeAgg H rfl rfl (i := 5) (vs := tv 0 0 none 0 0) (l' := tv 0 0 none 0 0) rfl tv_cell (by simp) sz25 rfl rfl) ?_
                  rintro _ w H
                  refine JL.go trivial (RX.assign) ?_
                  refine JL.go trivial (RX.assign) ?_
                  refine JL.nil ?_
                  first
                  | refine J.retctt (x := Value.int _ _) Tryd.func11 rfl H rfl (i := 0) (vs := tv 0 0 none 0 0) rfl rfl ag25 rfl rfl ?_
                  | refine J.retctt (x := Value.int _ _) Tryd.func11 rfl H rfl (i := 5) (vs := tv 0 0 none 0 0) rfl rfl ag25 rfl rfl ?_
                  | refine J.retctt (x := Value.int _ _) Tryd.func11 rfl H rfl (i := 5) (vs := tv k n p1 m c1) rfl rfl ag25 rfl rfl ?_
                  first
                  | exact ⟨_, rfl, [], ⟨0, 0, none, 0, 0, posn s r3, 6, rfl, .inr ⟨rfl, hps⟩⟩, H.drop.drop.drop.drop.drop.drop.nil⟩
                  | exact ⟨_, rfl, [], ⟨0, 0, none, 0, 0, posn s r3, 6, rfl, .inr ⟨rfl, hps⟩⟩, H.drop.drop.drop.drop.drop.drop.nil⟩
                  | exact ⟨_, rfl, [], ⟨0, 0, none, 0, 0, 0, 8, rfl, .inr ⟨rfl, hps⟩⟩, H.drop.drop.drop.drop.drop.drop.nil⟩
                  | exact ⟨_, rfl, so, ⟨k, n, p1, m, c1, 0, 0, rfl, .inl ⟨rfl, rfl, t, hps, hot⟩⟩, ((H.drop.drop.drop.pull 1 rfl).drop.pull 1 rfl).drop⟩
                · skip
                  have h0 : ¬ lenO t = 0 := by
                    intro h
                    unfold c8 at hc8
                    rw [if_pos h] at hc8
                    exact hc8 (by decide)
                  rw [if_neg h0] at hps
                  refine J.skip ?_
                  refine J.seq ?_
                  refine J.region ?_
                  refine JL.go trivial (RX.loadAgg H rfl (i := 4) (vs := tv k n p1 m c1) rfl rfl ag25) ?_
                  refine JL.does trivial (EX.storeAgg H rfl rfl (i := 5) (vs := tv k n p1 m c1) (l' := tv k n p1 m c1) rfl tv_cell (by simp) sz25 rfl rfl) ?_
                  rintro _ w H
                  refine JL.go trivial (RX.assign) ?_
                  refine JL.go trivial (RX.assign) ?_
                  refine JL.nil ?_
                  first
                  | refine J.retctt (x := Value.int _ _) Tryd.func11 rfl H rfl (i := 0) (vs := tv 0 0 none 0 0) rfl rfl ag25 rfl rfl ?_
                  | refine J.retctt (x := Value.int _ _) Tryd.func11 rfl H rfl (i := 5) (vs := tv 0 0 none 0 0) rfl rfl ag25 rfl rfl ?_
                  | refine J.retctt (x := Value.int _ _) Tryd.func11 rfl H rfl (i := 5) (vs := tv k n p1 m c1) rfl rfl ag25 rfl rfl ?_
                  first
                  | exact ⟨_, rfl, [], ⟨0, 0, none, 0, 0, posn s r3, 6, rfl, .inr ⟨rfl, hps⟩⟩, H.drop.drop.drop.drop.drop.drop.nil⟩
                  | exact ⟨_, rfl, [], ⟨0, 0, none, 0, 0, posn s r3, 6, rfl, .inr ⟨rfl, hps⟩⟩, H.drop.drop.drop.drop.drop.drop.nil⟩
                  | exact ⟨_, rfl, [], ⟨0, 0, none, 0, 0, 0, 8, rfl, .inr ⟨rfl, hps⟩⟩, H.drop.drop.drop.drop.drop.drop.nil⟩
                  | exact ⟨_, rfl, so, ⟨k, n, p1, m, c1, 0, 0, rfl, .inl ⟨rfl, rfl, t, hps, hot⟩⟩, ((H.drop.drop.drop.pull 1 rfl).drop.pull 1 rfl).drop⟩
              · skip
                obtain ⟨p2, c2, xs2, st2, hq, ho2, hk3, hkl2, hl2, hl3, hpl2⟩ : ∃ (p : Option Addr) (c : Nat) (xs : List Value) (st : List Tr), q = .slice p st.length c ∧ OwnSl 82 3 p st.length c xs sl3 ∧ KidsOwn st xs ss3 ∧ (∀ f ∈ st, f.kl ≤ 1) ∧ st.length + r3.length ≤ s.length ∧ r3.length < r.length ∧ pF s = plug st.reverse (pF r3) := by
                  rcases hD with ⟨h, _⟩ | ⟨_, h, _⟩ | ⟨_, _, h⟩
                  · rw [hok2] at h; cases h
                  · rw [hw] at h; cases h
                  · exact h
                rw [hq] at H
                refine J.skip ?_
                refine J.inBlock ?_
                exact IH (r3, st2, p2, c2, xs2, sl3, ss3) _ _ hl3 ⟨rfl, rfl, rfl, trivial⟩ trivial ⟨hr3, ho2, hk3, hkl2, hl2, hpl2, ((H.pull 3 rfl).drop.pull 3 rfl).drop⟩
          · skip
            first | have hwhp := of_decide_eq_false hwh | skip
            refine JL.no ⟨_, rfl, gno hwh⟩ ?_
            refine JL.no ⟨_, rfl, gno hwh⟩ ?_
            refine JL.no ⟨_, rfl, gno hwh⟩ ?_
            refine JL.no ⟨_, rfl, gno hwh⟩ ?_
            refine JL.no ⟨_, rfl, gno hwh⟩ ?_
            refine JL.no ⟨_, rfl, gno hwh⟩ ?_
            refine JL.no ⟨_, rfl, gno hwh⟩ ?_
            refine JL.go ⟨_, rfl, hok⟩ (RX.pick_f rfl hwh) ?_
            refine JL.go trivial (RX.pick_f rfl hok) ?_
            refine JL.nil ?_
            refine J.join (ι := Unit) (fun _ => []) (fun _ w => ok = true ∧ (wh = true → r3 = []) ∧ Hp w0 w (PR bp s r3 q :: sl3 :: ss3 :: so :: [(b6, cel (tv k n p1 m c1) 25)] :: [(b2, cel (tv 0 0 none 0 0) 25)] :: F)) [(0, _), (2, _), (5, _), (6, _), (7, _)] ⟨rfl, rfl, rfl, rfl, rfl, trivial⟩ ?_ ?_
            rotate_left
            · skip
              intro k2 hk2
              refine J.cond_f rfl rfl ?_
              refine J.skip ?_
              first
              | exact hk2 () _ _ ⟨rfl, rfl, rfl, rfl, rfl, trivial⟩ trivial ⟨hok2, fun _ => end_of hr3 (Nat.le_antisymm posn_le (by omega)), H⟩
              | exact hk2 () _ _ ⟨rfl, rfl, rfl, rfl, rfl, trivial⟩ trivial ⟨hok2, fun h => (by rw [hwh] at h; cases h), H⟩
            · skip
              clear H
              rintro _ ρ w ⟨hok2, hwr, H⟩
              refine J.seq ?_
              refine J.region ?_
              refine JL.go trivial (RX.movev (v := Value.bool _) rfl) ?_
              refine JL.nil ?_
              refine J.cond rfl (fun hw => ?_) (fun hw => ?_)
              · skip
                obtain ⟨t, hpt, hot⟩ : ∃ t, pF s = (some t, r3) ∧ t.Own (tv k n p1 m c1) so := by
                  rcases hD with ⟨h, _⟩ | ⟨_, _, h⟩ | ⟨_, h, _⟩
                  · rw [hok2] at h; cases h
                  · exact h
                  · rw [hw] at h; cases h
                have hpp := pO_parts _ _ _ _ hpt
                rw [hwr hw] at hpt
                have hps := parse_all hs5 hpt
                refine J.seq ?_
                refine J.seq ?_
                refine J.region ?_
                refine JL.go trivial (RX.loadAgg H rfl (i := 4) (vs := tv k n p1 m c1) rfl rfl ag25) ?_
                refine JL.does trivial (EX.call rfl cl36 rfl ((rCheck_b H (Tr.Is.cons (Tr.Is.cons (Tr.Is.cons hot.is))) (by omega)))) ?_
                rintro _ w ⟨rfl, H⟩
                refine JL.go trivial (RX.ne rfl rfl) ?_
                refine JL.nil ?_
                refine J.cond_d rfl (fun hc8 => ?_) (fun hc8 => ?_)
                · skip
                  have h0 : lenO t = 0 := by
                    unfold c8 at hc8
                    split at hc8
                    · assumption
                    · exact absurd rfl hc8
                  rw [if_pos h0] at hps
                  refine J.seq ?_
                  refine J.region ?_
                  refine JL.go trivial (RX.build (pv := []) (res := tv 0 0 none 0 0) rfl (by kernel_rfl)) ?_
                  refine JL.does trivial (EX.storeAgg H rfl rfl (i := 5) (vs := tv 0 0 none 0 0) (l' := tv 0 0 none 0 0) rfl tv_cell (by simp) sz25 rfl rfl) ?_
                  rintro _ w H
                  refine JL.go trivial (RX.assign) ?_
                  refine JL.go trivial (RX.assign) ?_
                  refine JL.nil ?_
                  first
                  | refine J.retctt (x := Value.int _ _) Tryd.func11 rfl H rfl (i := 0) (vs := tv 0 0 none 0 0) rfl rfl ag25 rfl rfl ?_
                  | refine J.retctt (x := Value.int _ _) Tryd.func11 rfl H rfl (i := 5) (vs := tv 0 0 none 0 0) rfl rfl ag25 rfl rfl ?_
                  | refine J.retctt (x := Value.int _ _) Tryd.func11 rfl H rfl (i := 5) (vs := tv k n p1 m c1) rfl rfl ag25 rfl rfl ?_
                  first
                  | exact ⟨_, rfl, [], ⟨0, 0, none, 0, 0, posn s r3, 6, rfl, .inr ⟨rfl, hps⟩⟩, H.drop.drop.drop.drop.drop.drop.nil⟩
                  | exact ⟨_, rfl, [], ⟨0, 0, none, 0, 0, posn s r3, 6, rfl, .inr ⟨rfl, hps⟩⟩, H.drop.drop.drop.drop.drop.drop.nil⟩
                  | exact ⟨_, rfl, [], ⟨0, 0, none, 0, 0, 0, 8, rfl, .inr ⟨rfl, hps⟩⟩, H.drop.drop.drop.drop.drop.drop.nil⟩
                  | exact ⟨_, rfl, so, ⟨k, n, p1, m, c1, 0, 0, rfl, .inl ⟨rfl, rfl, t, hps, hot⟩⟩, ((H.drop.drop.drop.pull 1 rfl).drop.pull 1 rfl).drop⟩
                · skip
                  have h0 : ¬ lenO t = 0 := by
                    intro h
                    unfold c8 at hc8
                    rw [if_pos h] at hc8
                    exact hc8 (by decide)
                  rw [if_neg h0] at hps
                  refine J.skip ?_
                  refine J.seq ?_
                  refine J.region ?_
                  refine JL.go trivial (RX.loadAgg H rfl (i := 4) (vs := tv k n p1 m c1) rfl rfl ag25) ?_
                  refine JL.does trivial (EX.storeAgg H rfl rfl (i := 5) (vs := tv k n p1 m c1) (l' := tv k n p1 m c1) rfl tv_cell (by simp) sz25 rfl rfl) ?_
                  rintro _ w H
                  refine JL.go trivial (RX.assign) ?_
                  refine JL.go trivial (RX.assign) ?_
                  refine JL.nil ?_
                  first
                  | refine J.retctt (x := Value.int _ _) Tryd.func11 rfl H rfl (i := 0) (vs := tv 0 0 none 0 0) rfl rfl ag25 rfl rfl ?_
                  | refine J.retctt (x := Value.int _ _) Tryd.func11 rfl H rfl (i := 5) (vs := tv 0 0 none 0 0) rfl rfl ag25 rfl rfl ?_
                  | refine J.retctt (x := Value.int _ _) Tryd.func11 rfl H rfl (i := 5) (vs := tv k n p1 m c1) rfl rfl ag25 rfl rfl ?_
                  first
                  | exact ⟨_, rfl, [], ⟨0, 0, none, 0, 0, posn s r3, 6, rfl, .inr ⟨rfl, hps⟩⟩, H.drop.drop.drop.drop.drop.drop.nil⟩
                  | exact ⟨_, rfl, [], ⟨0, 0, none, 0, 0, posn s r3, 6, rfl, .inr ⟨rfl, hps⟩⟩, H.drop.drop.drop.drop.drop.drop.nil⟩
                  | exact ⟨_, rfl, [], ⟨0, 0, none, 0, 0, 0, 8, rfl, .inr ⟨rfl, hps⟩⟩, H.drop.drop.drop.drop.drop.drop.nil⟩
                  | exact ⟨_, rfl, so, ⟨k, n, p1, m, c1, 0, 0, rfl, .inl ⟨rfl, rfl, t, hps, hot⟩⟩, ((H.drop.drop.drop.pull 1 rfl).drop.pull 1 rfl).drop⟩
              · skip
                obtain ⟨p2, c2, xs2, st2, hq, ho2, hk3, hkl2, hl2, hl3, hpl2⟩ : ∃ (p : Option Addr) (c : Nat) (xs : List Value) (st : List Tr), q = .slice p st.length c ∧ OwnSl 82 3 p st.length c xs sl3 ∧ KidsOwn st xs ss3 ∧ (∀ f ∈ st, f.kl ≤ 1) ∧ st.length + r3.length ≤ s.length ∧ r3.length < r.length ∧ pF s = plug st.reverse (pF r3) := by
                  rcases hD with ⟨h, _⟩ | ⟨_, h, _⟩ | ⟨_, _, h⟩
                  · rw [hok2] at h; cases h
                  · rw [hw] at h; cases h
                  · exact h
                rw [hq] at H
                refine J.skip ?_
                refine J.inBlock ?_
                exact IH (r3, st2, p2, c2, xs2, sl3, ss3) _ _ hl3 ⟨rfl, rfl, rfl, trivial⟩ trivial ⟨hr3, ho2, hk3, hkl2, hl2, hpl2, ((H.pull 3 rfl).drop.pull 3 rfl).drop⟩
    · skip
      first | have hq2p := of_decide_eq_false hq2 | skip
      have hD : ParD s r q1 q2 (tv kb nb none 0 0) (.slice pb st1.length cb) sl1 ss1 [] rr := by
        rcases hb with ⟨_, h⟩ | ⟨_, h, _⟩ | ⟨_, h, _⟩
        · exact .inl ⟨hq2, by rw [hpl, beg_fail h, plug_none]⟩
        · rw [hq2] at h; cases h
        · rw [hq2] at h; cases h
      refine JL.no ⟨_, rfl, gno hq2⟩ ?_
      refine JL.go trivial (RX.pick_f rfl hq2) ?_
      refine JL.nil ?_
      refine J.join (ι := Bool × Bool × Int × Int × Option Addr × Nat × Nat × Value × Seg × Seg × Seg × List UInt8) (fun z => [(7, .bool z.1), (8, .bool z.2.1)]) (fun z w => Hp w0 w (PR bp s z.2.2.2.2.2.2.2.2.2.2.2 z.2.2.2.2.2.2.2.1 :: z.2.2.2.2.2.2.2.2.1 :: z.2.2.2.2.2.2.2.2.2.1 :: z.2.2.2.2.2.2.2.2.2.2.1 :: [(b6, cel (tv z.2.2.1 z.2.2.2.1 z.2.2.2.2.1 z.2.2.2.2.2.1 z.2.2.2.2.2.2.1) 25)] :: [(b2, cel (tv 0 0 none 0 0) 25)] :: F) ∧ z.2.2.2.2.2.2.2.2.2.2.2 <:+ s ∧ ParD s r z.1 z.2.1 (tv z.2.2.1 z.2.2.2.1 z.2.2.2.2.1 z.2.2.2.2.2.1 z.2.2.2.2.2.2.1) z.2.2.2.2.2.2.2.1 z.2.2.2.2.2.2.2.2.1 z.2.2.2.2.2.2.2.2.2.1 z.2.2.2.2.2.2.2.2.2.2.1 z.2.2.2.2.2.2.2.2.2.2.2) [(0, _), (2, _), (5, _), (6, _)] ⟨rfl, rfl, rfl, rfl, trivial⟩ ?_ ?_
      rotate_left
      · skip
        intro k2 hk2
        refine J.cond_f rfl rfl ?_
        refine J.skip ?_
        first
        | exact hk2 (e1, e2, ke, ne, pe, me, ce, qe, sl2, ss2, so2, r2) _ _ ⟨rfl, rfl, rfl, rfl, trivial⟩ ⟨rfl, rfl, trivial⟩ ⟨H, hr2, hD⟩
        | exact hk2 (q1, q2, kb, nb, none, 0, 0, .slice pb st1.length cb, sl1, ss1, [], rr) _ _ ⟨rfl, rfl, rfl, rfl, trivial⟩ ⟨rfl, rfl, trivial⟩ ⟨((H.nil.pull 4 rfl).pull 4 rfl).pull 4 rfl, hr1, hD⟩
      · skip
        clear H hb ho1 hk1 hr1
        rintro ⟨wh, ok, k, n, p1, m, c1, q, sl3, ss3, so, r3⟩ ρ w ⟨H, hr3, hD⟩
        simp only at H hr3 hD
        try dsimp only
        refine J.seq ?_
        refine J.seq ?_
        refine J.region ?_
        refine JL.go trivial (RX.movev (v := Value.bool _) rfl) ?_
        refine JL.go trivial (RX.not rfl) ?_
        refine JL.go trivial (RX.movev (v := Value.bool _) rfl) ?_
        refine JL.splitS 35 rfl (fun hok => ?_) (fun hok => ?_)
        · skip
          first | have hokp := of_decide_eq_true hok | skip
          have hok2 : ok = false := by simpa using hok
          have hnone : pF s = (none, r3) := by
            rcases hD with ⟨_, h⟩ | ⟨h, _⟩ | ⟨h, _⟩
            · exact h
            · rw [hok2] at h; cases h
            · rw [hok2] at h; cases h
          have hps := parse_none hs5 hnone
          refine JL.no ⟨_, rfl, gno hok⟩ ?_
          refine JL.no ⟨_, rfl, gno hok⟩ ?_
          refine JL.no ⟨_, rfl, nofun⟩ ?_
          refine JL.no ⟨_, rfl, nofun⟩ ?_
          refine JL.no ⟨_, rfl, nofun⟩ ?_
          refine JL.no ⟨_, rfl, nofun⟩ ?_
          refine JL.no ⟨_, rfl, nofun⟩ ?_
          refine JL.no ⟨_, rfl, nofun⟩ ?_
          refine JL.no ⟨_, rfl, nofun⟩ ?_
          refine JL.no ⟨_, rfl, gno hok⟩ ?_
          refine JL.go trivial (RX.pick_t rfl hok) ?_
          refine JL.nil ?_
          refine J.join (ι := Unit) (fun _ => []) (fun _ w => ok = true ∧ (wh = true → r3 = []) ∧ Hp w0 w (PR bp s r3 q :: sl3 :: ss3 :: so :: [(b6, cel (tv k n p1 m c1) 25)] :: [(b2, cel (tv 0 0 none 0 0) 25)] :: F)) [(0, _), (2, _), (5, _), (6, _), (7, _)] ⟨rfl, rfl, rfl, rfl, rfl, trivial⟩ ?_ ?_
          rotate_left
          · skip
            intro k2 hk2
            refine J.cond_t rfl rfl ?_
            refine J.seq ?_
            refine J.any hmix fun w hs => ?_
            replace H := H.same hs; clear hs
            refine JA.take 0 (listed' := [true, false, false, false, false, false, false, false]) rfl (by kernel_rfl) (by kernel_rfl) (by kernel_rfl) rfl trivial (fun w => RX.build (pv := []) (res := tv 0 0 none 0 0) rfl (by kernel_rfl)) ?_
            refine JA.take 1 (listed' := [true, true, false, false, false, false, false, false]) rfl (by kernel_rfl) (by kernel_rfl) (by kernel_rfl) rfl trivial (fun w => RX.movev (v := Value.pointer _) rfl) ?_
            refine JA.take 2 (listed' := [true, true, true, false, false, false, false, false]) rfl (by kernel_rfl) (by kernel_rfl) (by kernel_rfl) rfl trivial (fun w => RX.nilCheck rfl) ?_
            refine JA.take 3 (listed' := [true, true, true, true, false, false, false, false]) rfl (by kernel_rfl) (by kernel_rfl) (by kernel_rfl) rfl trivial (fun w => RX.fieldAddr rfl fo57_1 rfl) ?_
            refine JA.all [4, 5] (by kernel_rfl) (by decide) ?_
            refine ⟨?_, ?_⟩
            · skip
              refine JO.go (listed' := [true, true, true, true, true, false, false, false]) rfl rfl trivial (RX.load H rfl (i := 0) (v := .int .i64 (posn s r3 : Nat)) rfl rfl one3) ?_
              refine JA.all [5] (by kernel_rfl) (by decide) ?_
              refine JO.does (listed' := [true, true, true, true, true, true, false, false]) rfl rfl trivial (EX.storeAgg H rfl rfl (i := 5) (vs := tv 0 0 none 0 0) (l' := tv 0 0 none 0 0) rfl tv_cell (by simp) sz25 rfl rfl) ?_
              rintro _ w H
              refine JA.take 6 (listed' := [true, true, true, true, true, true, true, false]) rfl (by kernel_rfl) (by kernel_rfl) (by kernel_rfl) rfl trivial (fun w => RX.assignv (v := Value.int _ _) rfl) ?_
              refine JA.take 7 (listed' := [true, true, true, true, true, true, true, true]) rfl (by kernel_rfl) (by kernel_rfl) (by kernel_rfl) rfl trivial (fun w => RX.assign) ?_
              refine JA.done (by kernel_rfl) ?_
              first
              | refine J.retctt (x := Value.int _ _) Tryd.func11 rfl H rfl (i := 0) (vs := tv 0 0 none 0 0) rfl rfl ag25 rfl rfl ?_
              | refine J.retctt (x := Value.int _ _) Tryd.func11 rfl H rfl (i := 5) (vs := tv 0 0 none 0 0) rfl rfl ag25 rfl rfl ?_
              | refine J.retctt (x := Value.int _ _) Tryd.func11 rfl H rfl (i := 5) (vs := tv k n p1 m c1) rfl rfl ag25 rfl rfl ?_
              first
              | exact ⟨_, rfl, [], ⟨0, 0, none, 0, 0, posn s r3, 6, rfl, .inr ⟨rfl, hps⟩⟩, H.drop.drop.drop.drop.drop.drop.nil⟩
              | exact ⟨_, rfl, [], ⟨0, 0, none, 0, 0, posn s r3, 6, rfl, .inr ⟨rfl, hps⟩⟩, H.drop.drop.drop.drop.drop.drop.nil⟩
              | exact ⟨_, rfl, [], ⟨0, 0, none, 0, 0, 0, 8, rfl, .inr ⟨rfl, hps⟩⟩, H.drop.drop.drop.drop.drop.drop.nil⟩
              | exact ⟨_, rfl, so, ⟨k, n, p1, m, c1, 0, 0, rfl, .inl ⟨rfl, rfl, t, hps, hot⟩⟩, ((H.drop.drop.drop.pull 1 rfl).drop.pull 1 rfl).drop⟩
            · skip
              refine JO.does (listed' := [true, true, true, true, false, true, false, false]) rfl rfl trivial (EX.storeAgg H rfl rfl (i := 5) (vs := tv 0 0 none 0 0) (l' := tv 0 0 none 0 0) rfl tv_cell (by simp) sz25 rfl rfl) ?_
              rintro _ w H
              refine JA.all [4] (by kernel_rfl) (by decide) ?_
              refine JO.go (listed' := [true, true, true, true, true, true, false, false]) rfl rfl trivial (RX.load H rfl (i := 0) (v := .int .i64 (posn s r3 : Nat)) rfl rfl one3) ?_
              refine JA.take 6 (listed' := [true, true, true, true, true, true, true, false]) rfl (by kernel_rfl) (by kernel_rfl) (by kernel_rfl) rfl trivial (fun w => RX.assignv (v := Value.int _ _) rfl) ?_
              refine JA.take 7 (listed' := [true, true, true, true, true, true, true, true]) rfl (by kernel_rfl) (by kernel_rfl) (by kernel_rfl) rfl trivial (fun w => RX.assign) ?_
              refine JA.done (by kernel_rfl) ?_
              first
              | refine J.retctt (x := Value.int _ _) Tryd.func11 rfl H rfl (i := 0) (vs := tv 0 0 none 0 0) rfl rfl ag25 rfl rfl ?_
              | refine J.retctt (x := Value.int _ _) Tryd.func11 rfl H rfl (i := 5) (vs := tv 0 0 none 0 0) rfl rfl ag25 rfl rfl ?_
              | refine J.retctt (x := Value.int _ _) Tryd.func11 rfl H rfl (i := 5) (vs := tv k n p1 m c1) rfl rfl ag25 rfl rfl ?_
              first
              | exact ⟨_, rfl, [], ⟨0, 0, none, 0, 0, posn s r3, 6, rfl, .inr ⟨rfl, hps⟩⟩, H.drop.drop.drop.drop.drop.drop.nil⟩
              | exact ⟨_, rfl, [], ⟨0, 0, none, 0, 0, posn s r3, 6, rfl, .inr ⟨rfl, hps⟩⟩, H.drop.drop.drop.drop.drop.drop.nil⟩
              | exact ⟨_, rfl, [], ⟨0, 0, none, 0, 0, 0, 8, rfl, .inr ⟨rfl, hps⟩⟩, H.drop.drop.drop.drop.drop.drop.nil⟩
              | exact ⟨_, rfl, so, ⟨k, n, p1, m, c1, 0, 0, rfl, .inl ⟨rfl, rfl, t, hps, hot⟩⟩, ((H.drop.drop.drop.pull 1 rfl).drop.pull 1 rfl).drop⟩
          · skip
            clear H
            rintro _ ρ w ⟨hok2, hwr, H⟩
            refine J.seq ?_
            refine J.region ?_
            refine JL.go trivial (RX.movev (v := Value.bool _) rfl) ?_
            refine JL.nil ?_
            refine J.cond rfl (fun hw => ?_) (fun hw => ?_)
            · skip
              obtain ⟨t, hpt, hot⟩ : ∃ t, pF s = (some t, r3) ∧ t.Own (tv k n p1 m c1) so := by
                rcases hD with ⟨h, _⟩ | ⟨_, _, h⟩ | ⟨_, h, _⟩
                · rw [hok2] at h; cases h
                · exact h
                · rw [hw] at h; cases h
              have hpp := pO_parts _ _ _ _ hpt
              rw [hwr hw] at hpt
              have hps := parse_all hs5 hpt
              refine J.seq ?_
              refine J.seq ?_
              refine J.region ?_
              refine JL.go trivial (RX.loadAgg H rfl (i := 4) (vs := tv k n p1 m c1) rfl rfl ag25) ?_
              refine JL.does trivial (EX.call rfl cl36 rfl ((rCheck_b H (Tr.Is.cons (Tr.Is.cons (Tr.Is.cons hot.is))) (by omega)))) ?_
              rintro _ w ⟨rfl, H⟩
              refine JL.go trivial (RX.ne rfl rfl) ?_
              refine JL.nil ?_
              refine J.cond_d rfl (fun hc8 => ?_) (fun hc8 => ?_)
              · skip
                have h0 : lenO t = 0 := by
                  unfold c8 at hc8
                  split at hc8
                  · assumption
                  · exact absurd rfl hc8
                rw [if_pos h0] at hps
                refine J.seq ?_
                refine J.region ?_
                refine JL.go trivial (RX.build (pv := []) (res := tv 0 0 none 0 0) rfl (by kernel_rfl)) ?_
                refine JL.does trivial (EX.storeAgg H rfl rfl (i := 5) (vs := tv 0 0 none 0 0) (l' := tv 0 0 none 0 0) rfl tv_cell (by simp) sz25 rfl rfl) ?_
                rintro _ w H
                refine JL.go trivial (RX.assign) ?_
                refine JL.go trivial (RX.assign) ?_
                refine JL.nil ?_
                first
                | refine J.retctt (x := Value.int _ _) Tryd.func11 rfl H rfl (i := 0) (vs := tv 0 0 none 0 0) rfl rfl ag25 rfl rfl ?_
                | refine J.retctt (x := Value.int _ _) Tryd.func11 rfl H rfl (i := 5) (vs := tv 0 0 none 0 0) rfl rfl ag25 rfl rfl ?_
                | refine J.retctt (x := Value.int _ _) Tryd.func11 rfl H rfl (i := 5) (vs := tv k n p1 m c1) rfl rfl ag25 rfl rfl ?_
                first
                | exact ⟨_, rfl, [], ⟨0, 0, none, 0, 0, posn s r3, 6, rfl, .inr ⟨rfl, hps⟩⟩, H.drop.drop.drop.drop.drop.drop.nil⟩
                | exact ⟨_, rfl, [], ⟨0, 0, none, 0, 0, posn s r3, 6, rfl, .inr ⟨rfl, hps⟩⟩, H.drop.drop.drop.drop.drop.drop.nil⟩
                | exact ⟨_, rfl, [], ⟨0, 0, none, 0, 0, 0, 8, rfl, .inr ⟨rfl, hps⟩⟩, H.drop.drop.drop.drop.drop.drop.nil⟩
                | exact ⟨_, rfl, so, ⟨k, n, p1, m, c1, 0, 0, rfl, .inl ⟨rfl, rfl, t, hps, hot⟩⟩, ((H.drop.drop.drop.pull 1 rfl).drop.pull 1 rfl).drop⟩
              · skip
                have h0 : ¬ lenO t = 0 := by
                  intro h
                  unfold c8 at hc8
                  rw [if_pos h] at hc8
                  exact hc8 (by decide)
                rw [if_neg h0] at hps
                refine J.skip ?_
                refine J.seq ?_
                refine J.region ?_
                refine JL.go trivial (RX.loadAgg H rfl (i := 4) (vs := tv k n p1 m c1) rfl rfl ag25) ?_
                refine JL.does trivial (EX.storeAgg H rfl rfl (i := 5) (vs := tv k n p1 m c1) (l' := tv k n p1 m c1) rfl tv_cell (by simp) sz25 rfl rfl) ?_
                rintro _ w H
                refine JL.go trivial (RX.assign) ?_
                refine JL.go trivial (RX.assign) ?_
                refine JL.nil ?_
                first
                | refine J.retctt (x := Value.int _ _) Tryd.func11 rfl H rfl (i := 0) (vs := tv 0 0 none 0 0) rfl rfl ag25 rfl rfl ?_
                | refine J.retctt (x := Value.int _ _) Tryd.func11 rfl H rfl (i := 5) (vs := tv 0 0 none 0 0) rfl rfl ag25 rfl rfl ?_
                | refine J.retctt (x := Value.int _ _) Tryd.func11 rfl H rfl (i := 5) (vs := tv k n p1 m c1) rfl rfl ag25 rfl rfl ?_
                first
                | exact ⟨_, rfl, [], ⟨0, 0, none, 0, 0, posn s r3, 6, rfl, .inr ⟨rfl, hps⟩⟩, H.drop.drop.drop.drop.drop.drop.nil⟩
                | exact ⟨_, rfl, [], ⟨0, 0, none, 0, 0, posn s r3, 6, rfl, .inr ⟨rfl, hps⟩⟩, H.drop.drop.drop.drop.drop.drop.nil⟩
                | exact ⟨_, rfl, [], ⟨0, 0, none, 0, 0, 0, 8, rfl, .inr ⟨rfl, hps⟩⟩, H.drop.drop.drop.drop.drop.drop.nil⟩
                | exact ⟨_, rfl, so, ⟨k, n, p1, m, c1, 0, 0, rfl, .inl ⟨rfl, rfl, t, hps, hot⟩⟩, ((H.drop.drop.drop.pull 1 rfl).drop.pull 1 rfl).drop⟩
            · skip
              obtain ⟨p2, c2, xs2, st2, hq, ho2, hk3, hkl2, hl2, hl3, hpl2⟩ : ∃ (p : Option Addr) (c : Nat) (xs : List Value) (st : List Tr), q = .slice p st.length c ∧ OwnSl 82 3 p st.length c xs sl3 ∧ KidsOwn st xs ss3 ∧ (∀ f ∈ st, f.kl ≤ 1) ∧ st.length + r3.length ≤ s.length ∧ r3.length < r.length ∧ pF s = plug st.reverse (pF r3) := by
                rcases hD with ⟨h, _⟩ | ⟨_, h, _⟩ | ⟨_, _, h⟩
                · rw [hok2] at h; cases h
                · rw [hw] at h; cases h
                · exact h
              rw [hq] at H
              refine J.skip ?_
              refine J.inBlock ?_
              exact IH (r3, st2, p2, c2, xs2, sl3, ss3) _ _ hl3 ⟨rfl, rfl, rfl, trivial⟩ trivial ⟨hr3, ho2, hk3, hkl2, hl2, hpl2, ((H.pull 3 rfl).drop.pull 3 rfl).drop⟩
        · skip
          first | have hokp := of_decide_eq_false hok | skip
          have hok2 : ok = true := by simpa using hok
          refine JL.go ⟨_, rfl, hok⟩ (RX.movev (v := Value.bool _) rfl) ?_
          refine JL.go ⟨_, rfl, hok⟩ (RX.movev (v := Value.bool _) rfl) ?_
          refine JL.splitS 37 rfl (fun hwh => ?_) (fun hwh => ?_)
          · skip
            first | have hwhp := of_decide_eq_true hwh | skip
            refine JL.go ⟨_, rfl, hwh⟩ (RX.movev (v := Value.pointer _) rfl) ?_
            refine JL.go ⟨_, rfl, hwh⟩ (RX.nilCheck rfl) ?_
            refine JL.go ⟨_, rfl, hwh⟩ (RX.fieldAddr rfl fo57_1 rfl) ?_
            refine JL.go ⟨_, rfl, hwh⟩ (RX.load H rfl (i := 0) (v := .int .i64 (posn s r3 : Nat)) rfl rfl one3) ?_
            refine JL.go ⟨_, rfl, hwh⟩ (RX.movev (v := Value.string _) rfl) ?_
            refine JL.go ⟨_, rfl, hwh⟩ (RX.len_string rfl ud9 (r := (s.length : Int)) (by rw [b_size])) ?_
            refine JL.go ⟨_, rfl, hwh⟩ (RX.lt rfl rfl) ?_
            refine JL.go ⟨_, rfl, hok⟩ (RX.pick_t rfl hwh) ?_
            refine JL.go trivial (RX.pick_f rfl hok) ?_
            refine JL.nil ?_
            refine J.join (ι := Unit) (fun _ => []) (fun _ w => ok = true ∧ (wh = true → r3 = []) ∧ Hp w0 w (PR bp s r3 q :: sl3 :: ss3 :: so :: [(b6, cel (tv k n p1 m c1) 25)] :: [(b2, cel (tv 0 0 none 0 0) 25)] :: F)) [(0, _), (2, _), (5, _), (6, _), (7, _)] ⟨rfl, rfl, rfl, rfl, rfl, trivial⟩ ?_ ?_
            rotate_left
            · skip
              intro k2 hk2
              refine J.cond_d rfl (fun hat => ?_) (fun hat => ?_)
              · skip
                obtain ⟨t, hpt, hot⟩ : ∃ t, pF s = (some t, r3) ∧ t.Own (tv k n p1 m c1) so := by
                  rcases hD with ⟨h, _⟩ | ⟨_, _, h⟩ | ⟨_, h, _⟩
                  · rw [hok2] at h; cases h
                  · exact h
                  · rw [hwh] at h; cases h
                have hps := parse_part hs5 hpt (fun h => by rw [h, posn_nil] at hat; omega)
                refine J.seq ?_
                refine J.any hmix fun w hs => ?_
                replace H := H.same hs; clear hs
                refine JA.take 0 (listed' := [true, false, false, false, false, false, false, false]) rfl (by kernel_rfl) (by kernel_rfl) (by kernel_rfl) rfl trivial (fun w => RX.build (pv := []) (res := tv 0 0 none 0 0) rfl (by kernel_rfl)) ?_
                refine JA.take 1 (listed' := [true, true, false, false, false, false, false, false]) rfl (by kernel_rfl) (by kernel_rfl) (by kernel_rfl) rfl trivial (fun w => RX.movev (v := Value.pointer _) rfl) ?_
                refine JA.take 2 (listed' := [true, true, true, false, false, false, false, false]) rfl (by kernel_rfl) (by kernel_rfl) (by kernel_rfl) rfl trivial (fun w => RX.nilCheck rfl) ?_
                refine JA.take 3 (listed' := [true, true, true, true, false, false, false, false]) rfl (by kernel_rfl) (by kernel_rfl) (by kernel_rfl) rfl trivial (fun w => RX.fieldAddr rfl fo57_1 rfl) ?_
                refine JA.all [4, 5] (by kernel_rfl) (by decide) ?_
                refine ⟨?_, ?_⟩
                · skip
                  refine JO.go (listed' := [true, true, true, true, true, false, false, false]) rfl rfl trivial (RX.load H rfl (i := 0) (v := .int .i64 (posn s r3 : Nat)) rfl rfl one3) ?_
                  refine JA.all [5] (by kernel_rfl) (by decide) ?_
                  refine JO.does (listed' := [true, true, true, true, true, true, false, false]) rfl rfl trivial (EX.storeAgg H rfl rfl (i := 5) (vs := tv 0 0 none 0 0) (l' := tv 0 0 none 0 0) rfl tv_cell (by simp) sz25 rfl rfl) ?_
                  rintro _ w H
                  refine JA.take 6 (listed' := [true, true, true, true, true, true, true, false]) rfl (by kernel_rfl) (by kernel_rfl) (by kernel_rfl) rfl trivial (fun w => RX.assignv (v := Value.int _ _) rfl) ?_
                  refine JA.take 7 (listed' := [true, true, true, true, true, true, true, true]) rfl (by kernel_rfl) (by kernel_rfl) (by kernel_rfl) rfl trivial (fun w => RX.assign) ?_
                  refine JA.done (by kernel_rfl) ?_
                  first
                  | refine J.retctt (x := Value.int _ _) Tryd.func11 rfl H rfl (i := 0) (vs := tv 0 0 none 0 0) rfl rfl ag25 rfl rfl ?_
                  | refine J.retctt (x := Value.int _ _) Tryd.func11 rfl H rfl (i := 5) (vs := tv 0 0 none 0 0) rfl rfl ag25 rfl rfl ?_
                  | refine J.retctt (x := Value.int _ _) Tryd.func11 rfl H rfl (i := 5) (vs := tv k n p1 m c1) rfl rfl ag25 rfl rfl ?_
                  first
                  | exact ⟨_, rfl, [], ⟨0, 0, none, 0, 0, posn s r3, 6, rfl, .inr ⟨rfl, hps⟩⟩, H.drop.drop.drop.drop.drop.drop.nil⟩
                  | exact ⟨_, rfl, [], ⟨0, 0, none, 0, 0, posn s r3, 6, rfl, .inr ⟨rfl, hps⟩⟩, H.drop.drop.drop.drop.drop.drop.nil⟩
                  | exact ⟨_, rfl, [], ⟨0, 0, none, 0, 0, 0, 8, rfl, .inr ⟨rfl, hps⟩⟩, H.drop.drop.drop.drop.drop.drop.nil⟩
                  | exact ⟨_, rfl, so, ⟨k, n, p1, m, c1, 0, 0, rfl, .inl ⟨rfl, rfl, t, hps, hot⟩⟩, ((H.drop.drop.drop.pull 1 rfl).drop.pull 1 rfl).drop⟩
                · skip
                  refine JO.does (listed' := [true, true, true, true, false, true, false, false]) rfl rfl trivial (EX.storeAgg H rfl rfl (i := 5) (vs := tv 0 0 none 0 0) (l' := tv 0 0 none 0 0) rfl tv_cell (by simp) sz25 rfl rfl) ?_
                  rintro _ w H
                  refine JA.all [4] (by kernel_rfl) (by decide) ?_
                  refine JO.go (listed' := [true, true, true, true, true, true, false, false]) rfl rfl trivial (RX.load H rfl (i := 0) (v := .int .i64 (posn s r3 : Nat)) rfl rfl one3) ?_
                  refine JA.take 6 (listed' := [true, true, true, true, true, true, true, false]) rfl (by kernel_rfl) (by kernel_rfl) (by kernel_rfl) rfl trivial (fun w => RX.assignv (v := Value.int _ _) rfl) ?_
                  refine JA.take 7 (listed' := [true, true, true, true, true, true, true, true]) rfl (by kernel_rfl) (by kernel_rfl) (by kernel_rfl) rfl trivial (fun w => RX.assign) ?_
                  refine JA.done (by kernel_rfl) ?_
                  first
                  | refine J.retctt (x := Value.int _ _) Tryd.func11 rfl H rfl (i := 0) (vs := tv 0 0 none 0 0) rfl rfl ag25 rfl rfl ?_
                  | refine J.retctt (x := Value.int _ _) Tryd.func11 rfl H rfl (i := 5) (vs := tv 0 0 none 0 0) rfl rfl ag25 rfl rfl ?_
                  | refine J.retctt (x := Value.int _ _) Tryd.func11 rfl H rfl (i := 5) (vs := tv k n p1 m c1) rfl rfl ag25 rfl rfl ?_
                  first
                  | exact ⟨_, rfl, [], ⟨0, 0, none, 0, 0, posn s r3, 6, rfl, .inr ⟨rfl, hps⟩⟩, H.drop.drop.drop.drop.drop.drop.nil⟩
                  | exact ⟨_, rfl, [], ⟨0, 0, none, 0, 0, posn s r3, 6, rfl, .inr ⟨rfl, hps⟩⟩, H.drop.drop.drop.drop.drop.drop.nil⟩
                  | exact ⟨_, rfl, [], ⟨0, 0, none, 0, 0, 0, 8, rfl, .inr ⟨rfl, hps⟩⟩, H.drop.drop.drop.drop.drop.drop.nil⟩
                  | exact ⟨_, rfl, so, ⟨k, n, p1, m, c1, 0, 0, rfl, .inl ⟨rfl, rfl, t, hps, hot⟩⟩, ((H.drop.drop.drop.pull 1 rfl).drop.pull 1 rfl).drop⟩
              · skip
                refine J.skip ?_
                first
                | exact hk2 () _ _ ⟨rfl, rfl, rfl, rfl, rfl, trivial⟩ trivial ⟨hok2, fun _ => end_of hr3 (Nat.le_antisymm posn_le (by omega)), H⟩
                | exact hk2 () _ _ ⟨rfl, rfl, rfl, rfl, rfl, trivial⟩ trivial ⟨hok2, fun h => (by rw [hwh] at h; cases h), H⟩
            · skip
              clear H
              rintro _ ρ w ⟨hok2, hwr, H⟩
              refine J.seq ?_
              refine J.region ?_
              refine JL.go trivial (RX.movev (v := Value.bool _) rfl) ?_
              refine JL.nil ?_
              refine J.cond rfl (fun hw => ?_) (fun hw => ?_)
              · skip
                obtain ⟨t, hpt, hot⟩ : ∃ t, pF s = (some t, r3) ∧ t.Own (tv k n p1 m c1) so := by
                  rcases hD with ⟨h, _⟩ | ⟨_, _, h⟩ | ⟨_, h, _⟩
                  · rw [hok2] at h; cases h
                  · exact h
                  · rw [hw] at h; cases h
                have hpp := pO_parts _ _ _ _ hpt
                rw [hwr hw] at hpt
                have hps := parse_all hs5 hpt
                refine J.seq ?_
                refine J.seq ?_
                refine J.region ?_
                refine JL.go trivial (RX.loadAgg H rfl (i := 4) (vs := tv k n p1 m c1) rfl rfl ag25) ?_
                refine JL.does trivial (EX.call rfl cl36 rfl ((rCheck_b H (Tr.Is.cons (Tr.Is.cons (Tr.Is.cons hot.is))) (by omega)))) ?_
                rintro _ w ⟨rfl, H⟩
                refine JL.go trivial (RX.ne rfl rfl) ?_
                refine JL.nil ?_
                refine J.cond_d rfl (fun hc8 => ?_) (fun hc8 => ?_)
                · skip
                  have h0 : lenO t = 0 := by
                    unfold c8 at hc8
                    split at hc8
                    · assumption
                    · exact absurd rfl hc8
                  rw [if_pos h0] at hps
                  refine J.seq ?_
                  refine J.region ?_
                  refine JL.go trivial (RX.build (pv := []) (res := tv 0 0 none 0 0) rfl (by kernel_rfl)) ?_
                  refine JL.does trivial (EX.storeAgg H rfl rfl (i := 5) (vs := tv 0 0 none 0 0) (l' := tv 0 0 none 0 0) rfl tv_cell (by simp) sz25 rfl rfl) ?_
                  rintro _ w H
                  refine JL.go trivial (RX.assign) ?_
                  refine JL.go trivial (RX.assign) ?_
                  refine JL.nil ?_
                  first
                  | refine J.retctt (x := Value.int _ _) Tryd.func11 rfl H rfl (i := 0) (vs := tv 0 0 none 0 0) rfl rfl ag25 rfl rfl ?_
                  | refine J.retctt (x := Value.int _ _) Tryd.func11 rfl H rfl (i := 5) (vs := tv 0 0 none 0 0) rfl rfl ag25 rfl rfl ?_
                  | refine J.retctt (x := Value.int _ _) Tryd.func11 rfl H rfl (i := 5) (vs := tv k n p1 m c1) rfl rfl ag25 rfl rfl ?_
                  first
                  | exact ⟨_, rfl, [], ⟨0, 0, none, 0, 0, posn s r3, 6, rfl, .inr ⟨rfl, hps⟩⟩, H.drop.drop.drop.drop.drop.drop.nil⟩
                  | exact ⟨_, rfl, [], ⟨0, 0, none, 0, 0, posn s r3, 6, rfl, .inr ⟨rfl, hps⟩⟩, H.drop.drop.drop.drop.drop.drop.nil⟩
                  | exact ⟨_, rfl, [], ⟨0, 0, none, 0, 0, 0, 8, rfl, .inr ⟨rfl, hps⟩⟩, H.drop.drop.drop.drop.drop.drop.nil⟩
                  | exact ⟨_, rfl, so, ⟨k, n, p1, m, c1, 0, 0, rfl, .inl ⟨rfl, rfl, t, hps, hot⟩⟩, ((H.drop.drop.drop.pull 1 rfl).drop.pull 1 rfl).drop⟩
                · skip
                  have h0 : ¬ lenO t = 0 := by
                    intro h
                    unfold c8 at hc8
                    rw [if_pos h] at hc8
                    exact hc8 (by decide)
                  rw [if_neg h0] at hps
                  refine J.skip ?_
                  refine J.seq ?_
                  refine J.region ?_
                  refine JL.go trivial (RX.loadAgg H rfl (i := 4) (vs := tv k n p1 m c1) rfl rfl ag25) ?_
                  refine JL.does trivial (EX.storeAgg H rfl rfl (i := 5) (vs := tv k n p1 m c1) (l' := tv k n p1 m c1) rfl tv_cell (by simp) sz25 rfl rfl) ?_
                  rintro _ w H
                  refine JL.go trivial (RX.assign) ?_
                  refine JL.go trivial (RX.assign) ?_
                  refine JL.nil ?_
                  first
                  | refine J.retctt (x := Value.int _ _) Tryd.func11 rfl H rfl (i := 0) (vs := tv 0 0 none 0 0) rfl rfl ag25 rfl rfl ?_
                  | refine J.retctt (x := Value.int _ _) Tryd.func11 rfl H rfl (i := 5) (vs := tv 0 0 none 0 0) rfl rfl ag25 rfl rfl ?_
                  | refine J.retctt (x := Value.int _ _) Tryd.func11 rfl H rfl (i := 5) (vs := tv k n p1 m c1) rfl rfl ag25 rfl rfl ?_
                  first
                  | exact ⟨_, rfl, [], ⟨0, 0, none, 0, 0, posn s r3, 6, rfl, .inr ⟨rfl, hps⟩⟩, H.drop.drop.drop.drop.drop.drop.nil⟩
                  | exact ⟨_, rfl, [], ⟨0, 0, none, 0, 0, posn s r3, 6, rfl, .inr ⟨rfl, hps⟩⟩, H.drop.drop.drop.drop.drop.drop.nil⟩
                  | exact ⟨_, rfl, [], ⟨0, 0, none, 0, 0, 0, 8, rfl, .inr ⟨rfl, hps⟩⟩, H.drop.drop.drop.drop.drop.drop.nil⟩
                  | exact ⟨_, rfl, so, ⟨k, n, p1, m, c1, 0, 0, rfl, .inl ⟨rfl, rfl, t, hps, hot⟩⟩, ((H.drop.drop.drop.pull 1 rfl).drop.pull 1 rfl).drop⟩
              · skip
                obtain ⟨p2, c2, xs2, st2, hq, ho2, hk3, hkl2, hl2, hl3, hpl2⟩ : ∃ (p : Option Addr) (c : Nat) (xs : List Value) (st : List Tr), q = .slice p st.length c ∧ OwnSl 82 3 p st.length c xs sl3 ∧ KidsOwn st xs ss3 ∧ (∀ f ∈ st, f.kl ≤ 1) ∧ st.length + r3.length ≤ s.length ∧ r3.length < r.length ∧ pF s = plug st.reverse (pF r3) := by
                  rcases hD with ⟨h, _⟩ | ⟨_, h, _⟩ | ⟨_, _, h⟩
                  · rw [hok2] at h; cases h
                  · rw [hw] at h; cases h
                  · exact h
                rw [hq] at H
                refine J.skip ?_
                refine J.inBlock ?_
                exact IH (r3, st2, p2, c2, xs2, sl3, ss3) _ _ hl3 ⟨rfl, rfl, rfl, trivial⟩ trivial ⟨hr3, ho2, hk3, hkl2, hl2, hpl2, ((H.pull 3 rfl).drop.pull 3 rfl).drop⟩
          · skip
            first | have hwhp := of_decide_eq_false hwh | skip
            refine JL.no ⟨_, rfl, gno hwh⟩ ?_
            refine JL.no ⟨_, rfl, gno hwh⟩ ?_
            refine JL.no ⟨_, rfl, gno hwh⟩ ?_
            refine JL.no ⟨_, rfl, gno hwh⟩ ?_
            refine JL.no ⟨_, rfl, gno hwh⟩ ?_
            refine JL.no ⟨_, rfl, gno hwh⟩ ?_
            refine JL.no ⟨_, rfl, gno hwh⟩ ?_
            refine JL.go ⟨_, rfl, hok⟩ (RX.pick_f rfl hwh) ?_
            refine JL.go trivial (RX.pick_f rfl hok) ?_
            refine JL.nil ?_
            refine J.join (ι := Unit) (fun _ => []) (fun _ w => ok = true ∧ (wh = true → r3 = []) ∧ Hp w0 w (PR bp s r3 q :: sl3 :: ss3 :: so :: [(b6, cel (tv k n p1 m c1) 25)] :: [(b2, cel (tv 0 0 none 0 0) 25)] :: F)) [(0, _), (2, _), (5, _), (6, _), (7, _)] ⟨rfl, rfl, rfl, rfl, rfl, trivial⟩ ?_ ?_
            rotate_left
            · skip
              intro k2 hk2
              refine J.cond_f rfl rfl ?_
              refine J.skip ?_
              first
              | exact hk2 () _ _ ⟨rfl, rfl, rfl, rfl, rfl, trivial⟩ trivial ⟨hok2, fun _ => end_of hr3 (Nat.le_antisymm posn_le (by omega)), H⟩
              | exact hk2 () _ _ ⟨rfl, rfl, rfl, rfl, rfl, trivial⟩ trivial ⟨hok2, fun h => (by rw [hwh] at h; cases h), H⟩
            · skip
              clear H
              rintro _ ρ w ⟨hok2, hwr, H⟩
              refine J.seq ?_
              refine J.region ?_
              refine JL.go trivial (RX.movev (v := Value.bool _) rfl) ?_
              refine JL.nil ?_
              refine J.cond rfl (fun hw => ?_) (fun hw => ?_)
              · skip
                obtain ⟨t, hpt, hot⟩ : ∃ t, pF s = (some t, r3) ∧ t.Own (tv k n p1 m c1) so := by
                  rcases hD with ⟨h, _⟩ | ⟨_, _, h⟩ | ⟨_, h, _⟩
                  · rw [hok2] at h; cases h
                  · exact h
                  · rw [hw] at h; cases h
                have hpp := pO_parts _ _ _ _ hpt
                rw [hwr hw] at hpt
                have hps := parse_all hs5 hpt
                refine J.seq ?_
                refine J.seq ?_
                refine J.region ?_
                refine JL.go trivial (RX.loadAgg H rfl (i := 4) (vs := tv k n p1 m c1) rfl rfl ag25) ?_
                refine JL.does trivial (EX.call rfl cl36 rfl ((rCheck_b H (Tr.Is.cons (Tr.Is.cons (Tr.Is.cons hot.is))) (by omega)))) ?_
                rintro _ w ⟨rfl, H⟩
                refine JL.go trivial (RX.ne rfl rfl) ?_
                refine JL.nil ?_
                refine J.cond_d rfl (fun hc8 => ?_) (fun hc8 => ?_)
                · skip
                  have h0 : lenO t = 0 := by
                    unfold c8 at hc8
                    split at hc8
                    · assumption
                    · exact absurd rfl hc8
                  rw [if_pos h0] at hps
                  refine J.seq ?_
                  refine J.region ?_
                  refine JL.go trivial (RX.build (pv := []) (res := tv 0 0 none 0 0) rfl (by kernel_rfl)) ?_
                  refine JL.does trivial (EX.storeAgg H rfl rfl (i := 5) (vs := tv 0 0 none 0 0) (l' := tv 0 0 none 0 0) rfl tv_cell (by simp) sz25 rfl rfl) ?_
                  rintro _ w H
                  refine JL.go trivial (RX.assign) ?_
                  refine JL.go trivial (RX.assign) ?_
                  refine JL.nil ?_
                  first
                  | refine J.retctt (x := Value.int _ _) Tryd.func11 rfl H rfl (i := 0) (vs := tv 0 0 none 0 0) rfl rfl ag25 rfl rfl ?_
                  | refine J.retctt (x := Value.int _ _) Tryd.func11 rfl H rfl (i := 5) (vs := tv 0 0 none 0 0) rfl rfl ag25 rfl rfl ?_
                  | refine J.retctt (x := Value.int _ _) Tryd.func11 rfl H rfl (i := 5) (vs := tv k n p1 m c1) rfl rfl ag25 rfl rfl ?_
                  first
                  | exact ⟨_, rfl, [], ⟨0, 0, none, 0, 0, posn s r3, 6, rfl, .inr ⟨rfl, hps⟩⟩, H.drop.drop.drop.drop.drop.drop.nil⟩
                  | exact ⟨_, rfl, [], ⟨0, 0, none, 0, 0, posn s r3, 6, rfl, .inr ⟨rfl, hps⟩⟩, H.drop.drop.drop.drop.drop.drop.nil⟩
                  | exact ⟨_, rfl, [], ⟨0, 0, none, 0, 0, 0, 8, rfl, .inr ⟨rfl, hps⟩⟩, H.drop.drop.drop.drop.drop.drop.nil⟩
                  | exact ⟨_, rfl, so, ⟨k, n, p1, m, c1, 0, 0, rfl, .inl ⟨rfl, rfl, t, hps, hot⟩⟩, ((H.drop.drop.drop.pull 1 rfl).drop.pull 1 rfl).drop⟩
                · skip
                  have h0 : ¬ lenO t = 0 := by
                    intro h
                    unfold c8 at hc8
                    rw [if_pos h] at hc8
                    exact hc8 (by decide)
                  rw [if_neg h0] at hps
                  refine J.skip ?_
                  refine J.seq ?_
                  refine J.region ?_
                  refine JL.go trivial (RX.loadAgg H rfl (i := 4) (vs := tv k n p1 m c1) rfl rfl ag25) ?_
                  refine JL.does trivial (EX.storeAgg H rfl rfl (i := 5) (vs := tv k n p1 m c1) (l' := tv k n p1 m c1) rfl tv_cell (by simp) sz25 rfl rfl) ?_
                  rintro _ w H
                  refine JL.go trivial (RX.assign) ?_
                  refine JL.go trivial (RX.assign) ?_
                  refine JL.nil ?_
                  first
                  | refine J.retctt (x := Value.int _ _) Tryd.func11 rfl H rfl (i := 0) (vs := tv 0 0 none 0 0) rfl rfl ag25 rfl rfl ?_
                  | refine J.retctt (x := Value.int _ _) Tryd.func11 rfl H rfl (i := 5) (vs := tv 0 0 none 0 0) rfl rfl ag25 rfl rfl ?_
                  | refine J.retctt (x := Value.int _ _) Tryd.func11 rfl H rfl (i := 5) (vs := tv k n p1 m c1) rfl rfl ag25 rfl rfl ?_
                  first
                  | exact ⟨_, rfl, [], ⟨0, 0, none, 0, 0, posn s r3, 6, rfl, .inr ⟨rfl, hps⟩⟩, H.drop.drop.drop.drop.drop.drop.nil⟩
                  | exact ⟨_, rfl, [], ⟨0, 0, none, 0, 0, posn s r3, 6, rfl, .inr ⟨rfl, hps⟩⟩, H.drop.drop.drop.drop.drop.drop.nil⟩
                  | exact ⟨_, rfl, [], ⟨0, 0, none, 0, 0, 0, 8, rfl, .inr ⟨rfl, hps⟩⟩, H.drop.drop.drop.drop.drop.drop.nil⟩
                  | exact ⟨_, rfl, so, ⟨k, n, p1, m, c1, 0, 0, rfl, .inl ⟨rfl, rfl, t, hps, hot⟩⟩, ((H.drop.drop.drop.pull 1 rfl).drop.pull 1 rfl).drop⟩
              · skip
                obtain ⟨p2, c2, xs2, st2, hq, ho2, hk3, hkl2, hl2, hl3, hpl2⟩ : ∃ (p : Option Addr) (c : Nat) (xs : List Value) (st : List Tr), q = .slice p st.length c ∧ OwnSl 82 3 p st.length c xs sl3 ∧ KidsOwn st xs ss3 ∧ (∀ f ∈ st, f.kl ≤ 1) ∧ st.length + r3.length ≤ s.length ∧ r3.length < r.length ∧ pF s = plug st.reverse (pF r3) := by
                  rcases hD with ⟨h, _⟩ | ⟨_, h, _⟩ | ⟨_, _, h⟩
                  · rw [hok2] at h; cases h
                  · rw [hw] at h; cases h
                  · exact h
                rw [hq] at H
                refine J.skip ?_
                refine J.inBlock ?_
                exact IH (r3, st2, p2, c2, xs2, sl3, ss3) _ _ hl3 ⟨rfl, rfl, rfl, trivial⟩ trivial ⟨hr3, ho2, hk3, hkl2, hl2, hpl2, ((H.pull 3 rfl).drop.pull 3 rfl).drop⟩
end Go.Proofs.YtinbeaaloailnaaDoor

/- TablesPlays. -/
import Derived.Test.YtmppcnbkfjeabaaDoorRt
namespace Go.Proofs.YtmppcnbkfjeabaaDoor
open Go Go.Eng
set_option maxRecDepth 100000
set_option linter.unusedVariables false
set_option linter.unusedSimpArgs false
theorem ag51 : aggOf Tryd.prog 51 = some 4 := by kernel_rfl
theorem cl19 : callable Tryd.prog 19 = true := by kernel_rfl
theorem cl20 : callable Tryd.prog 20 = true := by kernel_rfl
theorem cl21 : callable Tryd.prog 21 = true := by kernel_rfl
theorem cl31 : callable Tryd.prog 31 = true := by kernel_rfl
theorem cl32 : callable Tryd.prog 32 = true := by kernel_rfl
theorem cl33 : callable Tryd.prog 33 = true := by kernel_rfl
theorem fo51_0 : fieldOff Tryd.prog 51 0 = some 0 := by kernel_rfl
theorem fo51_1 : fieldOff Tryd.prog 51 1 = some 1 := by kernel_rfl
theorem fo51_2 : fieldOff Tryd.prog 51 2 = some 2 := by kernel_rfl
theorem fo51_3 : fieldOff Tryd.prog 51 3 = some 3 := by kernel_rfl
theorem sl45 : sliceOf Tryd.prog 45 = some (51, 4) := by kernel_rfl
theorem sz51 : szOf Tryd.prog 51 = some 4 := by kernel_rfl
theorem zr51 : (Tryd.prog.info? 51).bind (·.zero) = some (.agg #[.int .i64 0, .bool false, .int .i64 0, .int .i64 0]) := by kernel_rfl

structure OpR where
  kind : Int
  sec : Bool
  n : Int
  k : Int
def OpR.v (o : OpR) : List Value := [.int .i64 o.kind, .bool o.sec, .int .i64 o.n, .int .i64 o.k]
theorem OpR.cell {o : OpR} : ∀ v ∈ o.v, isCell v = true := by
  intro v hv
  simp only [OpR.v, List.mem_cons, List.not_mem_nil, or_false] at hv
  rcases hv with rfl | rfl | rfl | rfl <;> rfl
def OpR.ok (o : OpR) : Prop := i64ok o.n ∧ i64ok o.k
section
variable {w0 w : World} {F : List Seg} {t b : Nat} {s : TS} {r : RS} {m : Int} {E : Nat → Value} {Q : Nat → Addr}
theorem At_any (H : Hp w0 w (s.tb t 0 :: s.mp :: s.ts :: F)) (ok : s.ok) {n k : Int} (hmm : s.m < 9223372036854775807) (hk : i64ok k) (hE : Errs F E Q) : Ret Tryd.prog 9 [.pointer (some ⟨t, 0, none⟩), .int .i64 n, .int .i64 k] w fun v w' =>
    ∃ (s' : TS) (x y q : Nat), v = .tuple #[.complex .f64 x y, errV E q] ∧ ResAt n k x y q ∧ s'.ok ∧ AskedA n s s' ∧ Hp w0 w' (s'.tb t 0 :: s'.mp :: s'.ts :: F) := by
  by_cases h : InR n
  · refine Ret.mono (At_b H ok h.1 h.2 hmm hk) ?_
    rintro v w' ⟨s', a, b, rfl, ha, hb, ok', hask, H⟩
    exact ⟨s', a, b, 0, rfl, .inl ⟨h, rfl, ha, hb⟩, ok', .inl ⟨h, hask⟩, H⟩
  · refine Ret.mono (At_e (p := t) H hE.cons.cons.cons (not_in h)) ?_
    rintro v w' ⟨rfl, H⟩
    exact ⟨s, 0, 0, 7, rfl, .inr ⟨h, rfl, rfl, rfl⟩, ok, .inr ⟨h, rfl⟩, H⟩
theorem List_any (H : Hp w0 w (s.tb t 0 :: s.mp :: s.ts :: F)) (ok : s.ok) {n : Int} (hmm : s.m < 9223372036854775807) (hE : Errs F E Q) : Ret Tryd.prog 10 [.pointer (some ⟨t, 0, none⟩), .int .i64 n] w fun v w' =>
    ∃ (s' : TS) (p : Option Addr) (ln c : Nat) (xs : List Value) (sx : Seg) (q : Nat), v = .tuple #[.slice p ln c, errV E q] ∧ OwnSl 26 1 p ln c xs sx ∧ ResL n ln xs q ∧ s'.ok ∧ AskedA n s s' ∧ Hp w0 w' (sx :: s'.tb t 0 :: s'.mp :: s'.ts :: F) := by
  by_cases h : InR n
  · refine Ret.mono (List_b H ok h.1 h.2 hmm) ?_
    rintro v w' ⟨s', q, c, xs, sl, rfl, ho, hx, ok', hask, H⟩
    exact ⟨s', q, _, c, xs, sl, 0, rfl, ho, .inl ⟨h, rfl, rfl, hx⟩, ok', .inl ⟨h, hask⟩, H⟩
  · refine Ret.mono (List_e (p := t) H hE.cons.cons.cons (not_in h)) ?_
    rintro v w' ⟨rfl, H⟩
    exact ⟨s, none, 0, 0, [], [], 7, rfl, OwnSl.nil, .inr ⟨h, rfl, rfl, rfl⟩, ok, .inr ⟨h, rfl⟩, H.nil⟩
theorem rAt_any (H : Hp w0 w (r.rb b m :: r.sl :: F)) (ok : r.ok) {n k : Int} (hm0 : 0 ≤ m) (hmm : m < 9223372036854775807) (hk : i64ok k) : Ret Tryd.prog 31 [.pointer (some ⟨b, 0, none⟩), .int .i64 n, .int .i64 k] w fun v w' =>
    ∃ (r' : RS) (m' : Int) (x y q : Nat), v = .tuple #[.complex .f64 x y, .int .i64 (q : Nat)] ∧ ResAt n k x y q ∧ r'.ok ∧ RAskA n r r' m m' ∧ Hp w0 w' (r'.rb b m' :: r'.sl :: F) := by
  by_cases h : InR n
  · refine Ret.mono (rAt_b H ok h.1 h.2 hm0 hmm hk) ?_
    rintro v w' ⟨r', m', x, y, rfl, ha, hb, ok', hask, H⟩
    exact ⟨r', m', x, y, 0, rfl, .inl ⟨h, rfl, ha, hb⟩, ok', .inl ⟨h, hask⟩, H⟩
  · refine Ret.mono (rAt_e (p := b) H h) ?_
    rintro v w' ⟨rfl, H⟩
    exact ⟨r, m, 0, 0, 7, rfl, .inr ⟨h, rfl, rfl, rfl⟩, ok, .inr ⟨h, rfl, rfl⟩, H⟩
theorem rList_any (H : Hp w0 w (r.rb b m :: r.sl :: F)) (ok : r.ok) {n : Int} (hm0 : 0 ≤ m) (hmm : m < 9223372036854775807) : Ret Tryd.prog 32 [.pointer (some ⟨b, 0, none⟩), .int .i64 n] w fun v w' =>
    ∃ (r' : RS) (m' : Int) (p : Option Addr) (ln c : Nat) (xs : List Value) (sx : Seg) (q : Nat), v = .tuple #[.slice p ln c, .int .i64 (q : Nat)] ∧ OwnSl 26 1 p ln c xs sx ∧ ResL n ln xs q ∧ r'.ok ∧ RAskA n r r' m m' ∧ Hp w0 w' (sx :: r'.rb b m' :: r'.sl :: F) := by
  by_cases h : InR n
  · refine Ret.mono (rList_b H ok h.1 h.2 hm0 hmm) ?_
    rintro v w' ⟨r', m', p, c, xs, sl, rfl, ho, hx, ok', hask, H⟩
    exact ⟨r', m', p, _, c, xs, sl, 0, rfl, ho, .inl ⟨h, rfl, rfl, hx⟩, ok', .inl ⟨h, hask⟩, H⟩
  · refine Ret.mono (rList_e (p := b) H h) ?_
    rintro v w' ⟨rfl, H⟩
    exact ⟨r, m, none, 0, 0, [], [], 7, rfl, OwnSl.nil, .inr ⟨h, rfl, rfl, rfl⟩, ok, .inr ⟨h, rfl, rfl⟩, H.nil⟩
end

set_option maxHeartbeats 800000 in
theorem step_b {w0 w : World} {F : List Seg} {t b : Nat} {s : TS} {r : RS} (H : Hp w0 w (s.tb t 0 :: s.mp :: s.ts :: r.rb b s.m :: r.sl :: F)) (hB : Both s r) {E : Nat → Value} {Q : Nat → Addr} (hE : Errs F E Q) {o : OpR} (hk : i64ok o.k) (hm : s.m < 9223372036854775807) : Ret Tryd.prog 20 [.pointer (some ⟨t, 0, none⟩), .pointer (some ⟨b, 0, none⟩), .agg o.v.toArray] w fun v w' => v = .bool true ∧ ∃ s' r', Both s' r' ∧ s'.m ≤ s.m + 1 ∧ Hp w0 w' (s'.tb t 0 :: s'.mp :: s'.ts :: r'.rb b s'.m :: r'.sl :: F) := by
  refine Calls.of_J (n := 87) Tryd.func20 rfl rfl rfl ?_
  refine J.seq ?_
  refine J.region ?_
  refine JL.does trivial (EX.box (v := Value.agg _) H rfl rfl) ?_
  rintro _ w ⟨bo, rfl, H⟩
  refine JL.go trivial (RX.assign) ?_
  refine JL.nil ?_
  have hm0 := hB.ts.made
  replace H := (((((H.pull 5 rfl).pull 5 rfl).pull 5 rfl).pull 5 rfl).pull 5 rfl)
  replace H : Hp w0 w (s.tb t 0 :: s.mp :: s.ts :: r.rb b s.m :: r.sl :: [(bo, cel o.v 51)] :: F) := H
  refine J.seq ?_
  refine J.seq ?_
  refine J.region ?_
  refine JL.go trivial (RX.fieldAddr rfl fo51_0 rfl) ?_
  refine JL.go trivial (RX.load H rfl (i := 5) (v := .int .i64 o.kind) rfl rfl one3) ?_
  refine JL.nil ?_
  refine J.block ?_
  refine J.seq ?_
  refine J.region ?_
  refine JL.go trivial (RX.eq rfl rfl) ?_
  refine JL.go trivial (RX.assignv (v := Value.bool _) rfl) ?_
  refine JL.nil ?_
  refine J.cond_d rfl (fun h1 => ?_) (fun h1 => ?_)
  · skip
    refine J.seq ?_
    refine J.region ?_
    refine JL.go trivial (RX.movev (v := Value.pointer _) rfl) ?_
    refine JL.go trivial (RX.fieldAddr rfl fo51_2 rfl) ?_
    refine JL.go trivial (RX.load H rfl (i := 5) (v := .int .i64 o.n) rfl rfl one3) ?_
    refine JL.go trivial (RX.fieldAddr rfl fo51_3 rfl) ?_
    refine JL.go trivial (RX.load H rfl (i := 5) (v := .int .i64 o.k) rfl rfl one3) ?_
    refine JL.does trivial (EX.call rfl cl9 rfl ((At_any (k := o.k) H hB.ts hm hk hE.cons.cons.cons))) ?_
    rintro _ w ⟨s1, x, y, q, rfl, hres, ok1, hask, H⟩
    refine JL.go trivial (RX.movev (v := Value.tuple _) rfl) ?_
    refine JL.go trivial (RX.extract rfl rfl) ?_
    refine JL.go trivial (RX.extract (v := errV E q) rfl rfl) ?_
    refine JL.go trivial (RX.assignv (v := Value.complex _ _ _) rfl) ?_
    refine JL.go trivial (RX.assignv (v := errV E q) rfl) ?_
    refine JL.nil ?_
    refine J.seq ?_
    refine J.region ?_
    refine JL.go trivial (RX.movev (v := Value.pointer _) rfl) ?_
    refine JL.go trivial (RX.fieldAddr rfl fo51_2 rfl) ?_
    refine JL.go trivial (RX.load H rfl (i := 5) (v := .int .i64 o.n) rfl rfl one3) ?_
    refine JL.go trivial (RX.fieldAddr rfl fo51_3 rfl) ?_
    refine JL.go trivial (RX.load H rfl (i := 5) (v := .int .i64 o.k) rfl rfl one3) ?_
    refine JL.does trivial (EX.call rfl cl31 rfl ((rAt_any ((H.pull 4 rfl).pull 4 rfl) hB.rs hm0 hm hk))) ?_
    rintro _ w ⟨r1, m1, x2, y2, q2, rfl, hres2, rok1, hrask, H⟩
    replace H := ((((((H.pull 5 rfl).pull 2 rfl).pull 2 rfl).pull 5 rfl).pull 5 rfl).pull 5 rfl)
    obtain ⟨hB1, rfl, hle⟩ := both_ask hB hask hrask ok1 rok1
    obtain ⟨hsame, rfl⟩ := hres.same hres2
    replace H : Hp w0 w (s1.tb t 0 :: s1.mp :: s1.ts :: r1.rb b s1.m :: r1.sl :: [(bo, cel o.v 51)] :: F) := H
    refine JL.go trivial (RX.movev (v := Value.tuple _) rfl) ?_
    refine JL.go trivial (RX.extract rfl rfl) ?_
    refine JL.go trivial (RX.extract rfl rfl) ?_
    refine JL.go trivial (RX.assignv (v := Value.complex _ _ _) rfl) ?_
    refine JL.go trivial (RX.assignv (v := Value.int _ _) rfl) ?_
    refine JL.nil ?_
    refine J.seq ?_
    refine J.region ?_
    refine JL.go trivial (RX.movev (v := Value.complex _ _ _) rfl) ?_
    refine JL.go trivial (RX.movev (v := Value.complex _ _ _) rfl) ?_
    refine JL.does trivial (EX.call rfl cl15 rfl ((rSame2_b H))) ?_
    rintro _ w ⟨rfl, H⟩
    refine JL.go trivial (RX.movev (v := Value.bool _) rfl) ?_
    refine JL.go ⟨_, rfl, (decide_eq_true hsame)⟩ (RX.movev (v := errV E q) rfl) ?_
    refine JL.does ⟨_, rfl, (decide_eq_true hsame)⟩ (EX.call rfl cl11 rfl ((Num_b H hE.cons.cons.cons.cons.cons.cons (n := q) hres.le))) ?_
    rintro _ w ⟨rfl, H⟩
    refine JL.go ⟨_, rfl, (decide_eq_true hsame)⟩ (RX.movev (v := Value.int _ _) rfl) ?_
    refine JL.go ⟨_, rfl, (decide_eq_true hsame)⟩ (RX.eq rfl rfl) ?_
    refine JL.go trivial (RX.pick_t rfl (decide_eq_true hsame)) ?_
    refine JL.go trivial (RX.assignv (v := Value.bool _) rfl) ?_
    refine JL.nil ?_
    refine J.ret1 (v := Value.bool _) Tryd.func20 rfl rfl ?_
    exact ⟨_, rfl, by rw [decide_eq_true rfl], s1, r1, hB1, hle, ((H.pull 5 rfl)).drop⟩
  · skip
    refine J.seq ?_
    refine J.region ?_
    refine JL.go trivial (RX.eq rfl rfl) ?_
    refine JL.go trivial (RX.assignv (v := Value.bool _) rfl) ?_
    refine JL.nil ?_
    refine J.cond_d rfl (fun h2 => ?_) (fun h2 => ?_)
    · skip
      refine J.seq ?_
      refine J.region ?_
      refine JL.go trivial (RX.movev (v := Value.pointer _) rfl) ?_
      refine JL.go trivial (RX.fieldAddr rfl fo51_2 rfl) ?_
      refine JL.go trivial (RX.load H rfl (i := 5) (v := .int .i64 o.n) rfl rfl one3) ?_
      refine JL.does trivial (EX.call rfl cl10 rfl ((List_any H hB.ts hm hE.cons.cons.cons))) ?_
      rintro _ w ⟨s1, pl, ln, cl, xs, sx, q, rfl, hox, hres, ok1, hask, H⟩
      refine JL.go trivial (RX.movev (v := Value.tuple _) rfl) ?_
      refine JL.go trivial (RX.extract rfl rfl) ?_
      refine JL.go trivial (RX.extract (v := errV E q) rfl rfl) ?_
      refine JL.go trivial (RX.assignv (v := Value.slice _ _ _) rfl) ?_
      refine JL.go trivial (RX.assignv (v := errV E q) rfl) ?_
      refine JL.nil ?_
      refine J.seq ?_
      refine J.region ?_
      refine JL.go trivial (RX.movev (v := Value.pointer _) rfl) ?_
      refine JL.go trivial (RX.fieldAddr rfl fo51_2 rfl) ?_
      refine JL.go trivial (RX.load H rfl (i := 6) (v := .int .i64 o.n) rfl rfl one3) ?_
      refine JL.does trivial (EX.call rfl cl32 rfl ((rList_any ((H.pull 5 rfl).pull 5 rfl) hB.rs hm0 hm))) ?_
      rintro _ w ⟨r1, m1, pr, ln2, cr, ys, sy, q2, rfl, hoy, hres2, rok1, hrask, H⟩
      replace H := (((((((H.pull 3 rfl).pull 7 rfl).pull 4 rfl).pull 4 rfl).pull 7 rfl).pull 7 rfl).pull 7 rfl)
      obtain ⟨hB1, rfl, hle⟩ := both_ask hB hask hrask ok1 rok1
      obtain ⟨hal, rfl, rfl, hxl, hl16⟩ := hres.same hres2
      replace H : Hp w0 w (s1.tb t 0 :: s1.mp :: s1.ts :: r1.rb b s1.m :: r1.sl :: [(bo, cel o.v 51)] :: sx :: sy :: F) := H
      refine JL.go trivial (RX.movev (v := Value.tuple _) rfl) ?_
      refine JL.go trivial (RX.extract rfl rfl) ?_
      refine JL.go trivial (RX.extract rfl rfl) ?_
      refine JL.go trivial (RX.assignv (v := Value.slice _ _ _) rfl) ?_
      refine JL.go trivial (RX.assignv (v := Value.int _ _) rfl) ?_
      refine JL.nil ?_
      refine J.seq ?_
      refine J.region ?_
      refine JL.go trivial (RX.movev (v := Value.slice _ _ _) rfl) ?_
      refine JL.go trivial (RX.movev (v := Value.slice _ _ _) rfl) ?_
      refine JL.does trivial (EX.call rfl cl17 rfl ((rSameList_b H (SlAt.cons (SlAt.cons (SlAt.cons (SlAt.cons (SlAt.cons (SlAt.cons hox.slAt)))))) (SlAt.cons (SlAt.cons (SlAt.cons (SlAt.cons (SlAt.cons (SlAt.cons (SlAt.cons hoy.slAt))))))) hxl (by omega) hal))) ?_
      rintro _ w ⟨rfl, H⟩
      refine JL.go trivial (RX.movev (v := Value.bool _) rfl) ?_
      refine JL.go ⟨_, rfl, rfl⟩ (RX.movev (v := errV E q) rfl) ?_
      refine JL.does ⟨_, rfl, rfl⟩ (EX.call rfl cl11 rfl ((Num_b H hE.cons.cons.cons.cons.cons.cons.cons.cons (n := q) hres.le))) ?_
      rintro _ w ⟨rfl, H⟩
      refine JL.go ⟨_, rfl, rfl⟩ (RX.movev (v := Value.int _ _) rfl) ?_
      refine JL.go ⟨_, rfl, rfl⟩ (RX.eq rfl rfl) ?_
      refine JL.go trivial (RX.pick_t rfl rfl) ?_
      refine JL.go trivial (RX.assignv (v := Value.bool _) rfl) ?_
      refine JL.nil ?_
      refine J.ret1 (v := Value.bool _) Tryd.func20 rfl rfl ?_
      exact ⟨_, rfl, by rw [decide_eq_true rfl], s1, r1, hB1, hle, ((((H.pull 7 rfl).pull 7 rfl).pull 7 rfl)).drop.drop.drop⟩
    · skip
      refine J.seq ?_
      refine J.region ?_
      refine JL.go trivial (RX.eq rfl rfl) ?_
      refine JL.go trivial (RX.assignv (v := Value.bool _) rfl) ?_
      refine JL.nil ?_
      refine J.cond_d rfl (fun h3 => ?_) (fun h3 => ?_)
      · skip
        refine J.seq ?_
        refine J.region ?_
        refine JL.go trivial (RX.movev (v := Value.pointer _) rfl) ?_
        refine JL.go trivial (RX.movev (v := Value.pointer _) rfl) ?_
        refine JL.does trivial (EX.call rfl cl21 rfl ((tells_b H hB))) ?_
        rintro _ w ⟨rfl, H⟩
        refine JL.go trivial (RX.assignv (v := Value.bool _) rfl) ?_
        refine JL.nil ?_
        refine J.ret1 (v := Value.bool _) Tryd.func20 rfl rfl ?_
        exact ⟨_, rfl, rfl, s, r, hB, by omega, ((H.pull 5 rfl)).drop⟩
      · skip
        refine J.seq ?_
        refine J.region ?_
        refine JL.go trivial (RX.eq rfl rfl) ?_
        refine JL.go trivial (RX.assignv (v := Value.bool _) rfl) ?_
        refine JL.nil ?_
        refine J.cond_d rfl (fun h4 => ?_) (fun h4 => ?_)
        · skip
          refine J.seq ?_
          refine J.held (fun w => Hp w0 w ([(bo, cel o.v 51)] :: F)) hmix fun w hs => ?_
          replace H := H.same hs; clear hs
          have hS : Hp w0 w ([(bo, cel o.v 51)] :: F) := by first | exact H | exact H.drop | exact H.drop.drop | exact H.drop.drop.drop | exact H.drop.drop.drop.drop | exact H.drop.drop.drop.drop.drop | exact H.drop.drop.drop.drop.drop.drop | exact H.drop.drop.drop.drop.drop.drop.drop | exact H.drop.drop.drop.drop.drop.drop.drop.drop
          refine JH.take 0 (listed' := [true, false, false, false, false, false, false, false, false, false]) rfl (by kernel_rfl) (by kernel_rfl) (by kernel_rfl) rfl trivial (fun w H => RX.movev (v := Value.pointer _) rfl) hS ?_
          refine JH.take 1 (listed' := [true, true, false, false, false, false, false, false, false, false]) rfl (by kernel_rfl) (by kernel_rfl) (by kernel_rfl) rfl trivial (fun w H => RX.fieldAddr rfl fo51_2 rfl) hS ?_
          refine JH.take 2 (listed' := [true, true, true, false, false, false, false, false, false, false]) rfl (by kernel_rfl) (by kernel_rfl) (by kernel_rfl) rfl trivial (fun w H => RX.load H rfl (i := 0) (v := .int .i64 o.n) rfl rfl one3) hS ?_
          refine JH.take 4 (listed' := [true, true, true, false, true, false, false, false, false, false]) rfl (by kernel_rfl) (by kernel_rfl) (by kernel_rfl) rfl trivial (fun w H => RX.movev (v := Value.pointer _) rfl) hS ?_
          refine JH.take 5 (listed' := [true, true, true, false, true, true, false, false, false, false]) rfl (by kernel_rfl) (by kernel_rfl) (by kernel_rfl) rfl trivial (fun w H => RX.fieldAddr rfl fo51_2 rfl) hS ?_
          refine JH.take 6 (listed' := [true, true, true, false, true, true, true, false, false, false]) rfl (by kernel_rfl) (by kernel_rfl) (by kernel_rfl) rfl trivial (fun w H => RX.load H rfl (i := 0) (v := .int .i64 o.n) rfl rfl one3) hS ?_
          refine JH.all [3] (by kernel_rfl) (by decide) ?_
          refine JHO.does (listed' := [true, true, true, true, true, true, true, false, false, false]) rfl rfl trivial (EX.call rfl cl13 rfl ((Drop_b H hB.ts (n := o.n)))) ?_
          rintro _ w ⟨rfl, H⟩
          have hS : Hp w0 w ([(bo, cel o.v 51)] :: F) := by first | exact H | exact H.drop | exact H.drop.drop | exact H.drop.drop.drop | exact H.drop.drop.drop.drop | exact H.drop.drop.drop.drop.drop | exact H.drop.drop.drop.drop.drop.drop | exact H.drop.drop.drop.drop.drop.drop.drop | exact H.drop.drop.drop.drop.drop.drop.drop.drop
          refine ⟨hS, ?_⟩
          refine JH.all [7] (by kernel_rfl) (by decide) ?_
          refine JHO.does (listed' := [true, true, true, true, true, true, true, true, false, false]) rfl rfl trivial (EX.call rfl cl33 rfl ((rDrop_b ((H.pull 4 rfl).pull 4 rfl) hB.rs (n := o.n)))) ?_
          rintro _ w ⟨r1, rfl, rok1, hzp, H⟩
          replace H := ((((((H.pull 5 rfl).pull 2 rfl).pull 2 rfl).pull 5 rfl).pull 5 rfl).pull 5 rfl)
          have hS : Hp w0 w ([(bo, cel o.v 51)] :: F) := by first | exact H | exact H.drop | exact H.drop.drop | exact H.drop.drop.drop | exact H.drop.drop.drop.drop | exact H.drop.drop.drop.drop.drop | exact H.drop.drop.drop.drop.drop.drop | exact H.drop.drop.drop.drop.drop.drop.drop | exact H.drop.drop.drop.drop.drop.drop.drop.drop
          refine ⟨hS, ?_⟩
          refine JH.take 8 (listed' := [true, true, true, true, true, true, true, true, true, false]) rfl (by kernel_rfl) (by kernel_rfl) (by kernel_rfl) rfl trivial (fun w H => RX.bool_eql rfl rfl ud4) hS ?_
          refine JH.take 9 (listed' := [true, true, true, true, true, true, true, true, true, true]) rfl (by kernel_rfl) (by kernel_rfl) (by kernel_rfl) rfl trivial (fun w H => RX.assignv (v := Value.bool _) rfl) hS ?_
          refine JH.done (by kernel_rfl) ?_
          refine J.ret1 (v := Value.bool _) Tryd.func20 rfl rfl ?_
          exact ⟨_, rfl, by rw [show decide (o.n ∈ s.keys) = decide (o.n ∈ r.zs) from decide_eq_decide.2 hB.p.mem_iff.symm]; simp, s.drop o.n, r1, ⟨hB.ts.drop _, rok1, by rw [TS.drop_keys]; exact hzp.trans (hB.p.erase _)⟩, by show s.m ≤ s.m + 1; omega, ((H.pull 5 rfl)).drop⟩
        · skip
          refine J.skip ?_
          refine J.inBlock ?_
          refine J.seq ?_
          refine J.region ?_
          refine JL.go trivial (RX.assign) ?_
          refine JL.nil ?_
          refine J.ret1 (v := Value.bool _) Tryd.func20 rfl rfl ?_
          exact ⟨_, rfl, rfl, s, r, hB, by omega, ((H.pull 5 rfl)).drop⟩
theorem both_new (mb : Nat) : Both (newTS mb) ⟨none, 0, [], []⟩ := ⟨newTS_ok mb, ⟨OwnSl.nil, List.Pairwise.nil, fun _ h => (by cases h)⟩, List.Perm.refl _⟩
def opsV (l : List OpR) : List Value := (l.map OpR.v).flatten
theorem opsV_len (l : List OpR) : (opsV l).length = l.length * 4 := flat_len OpR.v 4 (fun _ => rfl) l
theorem opsV_read {l : List OpR} {i : Nat} {o : OpR} (h : l[i]? = some o) : readN (opsV l) (i * 4) 4 = some o.v := readN_flat (f := OpR.v) (sz := 4) (fun _ => rfl) h
theorem heavy_b {w0 w : World} {F : List Seg} (H : Hp w0 w F) {p : Option Addr} {c : Nat} {ops : List OpR} (hs : SlAt F p (opsV ops)) (hl : ops.length ≤ 9223372036854775807) : Ret Tryd.prog 19 [.slice p ops.length c] w fun v w' => ∃ q, v = .bool q ∧ Hp w0 w' F := by
  refine Calls.of_J (n := 39) Tryd.func19 rfl rfl rfl ?_
  refine J.seq ?_
  refine J.region ?_
  refine JL.go trivial (RX.assign) ?_
  refine JL.nil ?_
  refine J.seq ?_
  refine J.region ?_
  refine JL.go trivial (RX.assign) ?_
  refine JL.nil ?_
  refine J.seq ?_
  refine J.seq ?_
  refine J.region ?_
  refine JL.go trivial (RX.movev (v := Value.slice _ _ _) rfl) ?_
  refine JL.go trivial (RX.len_slice rfl (by rw [sl45]; rfl) rfl) ?_
  refine JL.go trivial (RX.move) ?_
  refine JL.nil ?_
  refine J.block ?_
  refine J.loop (ι := Nat × Int) (S := fun z => [(8, .int .i64 (z.1 : Nat)), (3, .int .i64 z.2)]) (Φ := fun z w => z.1 ≤ ops.length ∧ Hp w0 w F) (μ := fun z => ops.length - z.1) (C := [(6, _), (7, _)]) (0, 0) ⟨rfl, rfl, trivial⟩ ⟨rfl, rfl, trivial⟩ ?_ ?_
  · exact ⟨by simp, H⟩
  clear H
  rintro ⟨i, x⟩ ρ w ⟨hi, H⟩ IH
  simp only at hi H
  dsimp only
  refine J.seq ?_
  refine J.region ?_
  refine JL.go trivial (RX.lt rfl rfl) ?_
  refine JL.nil ?_
  refine J.seq ?_
  refine J.cond_d rfl (fun hlt => ?_) (fun hlt => ?_)
  · skip
    obtain ⟨o, ho⟩ : ∃ o, ops[i]? = some o := ⟨_, List.getElem?_eq_getElem (by omega)⟩
    obtain ⟨pb, po, rfl, _⟩ := hs.some (by rw [opsV_len]; omega)
    refine J.skip ?_
    refine J.seq ?_
    refine J.block ?_
    refine J.seq ?_
    refine J.region ?_
    refine JL.go trivial (RX.indexAddr rfl rfl sl45 (by omega) (by omega) (o' := po + i * 4) (by omega)) ?_
    refine JL.go trivial (RX.loadAggS H hs rfl (j := i * 4) rfl (opsV_read ho) ag51) ?_
    refine JL.does trivial (EX.alloc H zr51 rfl) ?_
    rintro _ w ⟨bo, rfl, H⟩
    refine JL.does trivial (EX.storeAgg H rfl rfl (i := 0) (vs := o.v) (l' := o.v) rfl OpR.cell (by simp [OpR.v]) sz51 rfl rfl) ?_
    rintro _ w H
    refine JL.nil ?_
    refine J.seq ?_
    refine J.region ?_
    refine JL.go trivial (RX.movev (v := Value.int _ _) rfl) ?_
    refine JL.go trivial (RX.add rfl rfl rfl) ?_
    refine JL.go trivial (RX.assignv (v := Value.int _ _) rfl) ?_
    refine JL.nil ?_
    refine J.seq ?_
    refine J.join (ι := Bool) (fun q => [(31, .bool q)]) (fun q w => Hp w0 w ([(bo, cel o.v 51)] :: F)) [(3, _), (5, _), (6, _), (7, _), (8, _)] ⟨rfl, rfl, rfl, rfl, rfl, trivial⟩ ?_ ?_
    rotate_left
    · skip
      intro k2 hk2
      refine J.region ?_
      refine JL.go trivial (RX.fieldAddr rfl fo51_2 rfl) ?_
      refine JL.go trivial (RX.load H rfl (i := 0) (v := .int .i64 o.n) rfl rfl one3) ?_
      refine JL.go trivial (RX.gt rfl rfl) ?_
      refine JL.go trivial (RX.movev (v := Value.bool _) rfl) ?_
      refine JL.splitS 17 rfl (fun h2 => ?_) (fun h2 => ?_)
      · skip
        first | have h2p := of_decide_eq_true h2 | skip
        refine JL.go ⟨_, rfl, h2⟩ (RX.fieldAddr rfl fo51_2 rfl) ?_
        refine JL.go ⟨_, rfl, h2⟩ (RX.load H rfl (i := 0) (v := .int .i64 o.n) rfl rfl one3) ?_
        refine JL.go ⟨_, rfl, h2⟩ (RX.le rfl rfl) ?_
        refine JL.go trivial (RX.pick_t rfl h2) ?_
        refine JL.go trivial (RX.movev (v := Value.bool _) rfl) ?_
        refine JL.splitS 22 rfl (fun h3 => ?_) (fun h3 => ?_)
        · skip
          first | have h3p := of_decide_eq_true h3 | skip
          refine JL.go ⟨_, rfl, h3⟩ (RX.fieldAddr rfl fo51_0 rfl) ?_
          refine JL.go ⟨_, rfl, h3⟩ (RX.load H rfl (i := 0) (v := .int .i64 o.kind) rfl rfl one3) ?_
          refine JL.go ⟨_, rfl, h3⟩ (RX.eq rfl rfl) ?_
          refine JL.go ⟨_, rfl, h3⟩ (RX.movev (v := Value.bool _) rfl) ?_
          refine JL.splitS 26 rfl (fun h4 => ?_) (fun h4 => ?_)
          · skip
            first | have h4p := of_decide_eq_true h4 | skip
            refine JL.no ⟨_, rfl, gno h4⟩ ?_
            refine JL.no ⟨_, rfl, gno h4⟩ ?_
            refine JL.no ⟨_, rfl, gno h4⟩ ?_
            refine JL.go ⟨_, rfl, h3⟩ (RX.pick_t rfl h4) ?_
            refine JL.go trivial (RX.pick_t rfl h3) ?_
            refine JL.nil ?_
            exact hk2 _ _ _ ⟨rfl, rfl, rfl, rfl, rfl, trivial⟩ ⟨rfl, trivial⟩ H
          · skip
            first | have h4p := of_decide_eq_false h4 | skip
            refine JL.go ⟨_, rfl, h4⟩ (RX.fieldAddr rfl fo51_0 rfl) ?_
            refine JL.go ⟨_, rfl, h4⟩ (RX.load H rfl (i := 0) (v := .int .i64 o.kind) rfl rfl one3) ?_
            refine JL.go ⟨_, rfl, h4⟩ (RX.eq rfl rfl) ?_
            refine JL.go ⟨_, rfl, h3⟩ (RX.pick_f rfl h4) ?_
            refine JL.go trivial (RX.pick_t rfl h3) ?_
            refine JL.nil ?_
            exact hk2 _ _ _ ⟨rfl, rfl, rfl, rfl, rfl, trivial⟩ ⟨rfl, trivial⟩ H
        · skip
          first | have h3p := of_decide_eq_false h3 | skip
          refine JL.no ⟨_, rfl, gno h3⟩ ?_
          refine JL.no ⟨_, rfl, gno h3⟩ ?_
          refine JL.no ⟨_, rfl, gno h3⟩ ?_
          refine JL.no ⟨_, rfl, gno h3⟩ ?_
          refine JL.no ⟨_, rfl, nofun⟩ ?_
          refine JL.no ⟨_, rfl, nofun⟩ ?_
          refine JL.no ⟨_, rfl, nofun⟩ ?_
          refine JL.no ⟨_, rfl, gno h3⟩ ?_
          refine JL.go trivial (RX.pick_f rfl h3) ?_
          refine JL.nil ?_
          exact hk2 _ _ _ ⟨rfl, rfl, rfl, rfl, rfl, trivial⟩ ⟨rfl, trivial⟩ H
      · skip
        first | have h2p := of_decide_eq_false h2 | skip
        refine JL.no ⟨_, rfl, gno h2⟩ ?_
        refine JL.no ⟨_, rfl, gno h2⟩ ?_
        refine JL.no ⟨_, rfl, gno h2⟩ ?_
        refine JL.go trivial (RX.pick_f rfl h2) ?_
        refine JL.go trivial (RX.movev (v := Value.bool _) rfl) ?_
        refine JL.no ⟨_, rfl, gno rfl⟩ ?_
        refine JL.no ⟨_, rfl, gno rfl⟩ ?_
        refine JL.no ⟨_, rfl, gno rfl⟩ ?_
        refine JL.no ⟨_, rfl, gno rfl⟩ ?_
        refine JL.no ⟨_, rfl, nofun⟩ ?_
        refine JL.no ⟨_, rfl, nofun⟩ ?_
        refine JL.no ⟨_, rfl, nofun⟩ ?_
        refine JL.no ⟨_, rfl, gno rfl⟩ ?_
        refine JL.go trivial (RX.pick_f rfl rfl) ?_
        refine JL.nil ?_
        exact hk2 _ _ _ ⟨rfl, rfl, rfl, rfl, rfl, trivial⟩ ⟨rfl, trivial⟩ H
    · skip
      clear H
      rintro q ρ w H
      refine J.cond rfl (fun h5 => ?_) (fun h5 => ?_)
      · skip
        refine J.region ?_
        refine JL.go trivial (RX.movev (v := Value.int _ _) rfl) ?_
        refine JL.go trivial (RX.fieldAddr rfl fo51_2 rfl) ?_
        refine JL.go trivial (RX.load H rfl (i := 0) (v := .int .i64 o.n) rfl rfl one3) ?_
        refine JL.go trivial (RX.add rfl rfl rfl) ?_
        refine JL.go trivial (RX.assignv (v := Value.int _ _) rfl) ?_
        refine JL.nil ?_
        refine J.inBlock ?_
        refine J.region ?_
        refine JL.go trivial (RX.add rfl rfl (w_i64 (r := ((i + 1 : Nat) : Int)) (by omega) (by omega) (by omega))) ?_
        refine JL.go trivial (RX.movev (v := Value.int _ _) rfl) ?_
        refine JL.nil ?_
        exact IH (i + 1, _) _ _ (by simp only; omega) ⟨rfl, rfl, trivial⟩ ⟨rfl, rfl, trivial⟩ ⟨by simp only; omega, H.drop⟩
      · skip
        refine J.skip ?_
        refine J.inBlock ?_
        refine J.region ?_
        refine JL.go trivial (RX.add rfl rfl (w_i64 (r := ((i + 1 : Nat) : Int)) (by omega) (by omega) (by omega))) ?_
        refine JL.go trivial (RX.movev (v := Value.int _ _) rfl) ?_
        refine JL.nil ?_
        exact IH (i + 1, _) _ _ (by simp only; omega) ⟨rfl, rfl, trivial⟩ ⟨rfl, rfl, trivial⟩ ⟨by simp only; omega, H.drop⟩
  · skip
    refine J.exit rfl ?_
    refine J.seq ?_
    refine J.region ?_
    refine JL.go trivial (RX.movev (v := Value.int _ _) rfl) ?_
    refine JL.go trivial (RX.gt rfl rfl) ?_
    refine JL.go trivial (RX.assignv (v := Value.bool _) rfl) ?_
    refine JL.nil ?_
    refine J.ret1 (v := Value.bool _) Tryd.func19 rfl rfl ?_
    exact ⟨_, rfl, _, rfl, H⟩
set_option maxHeartbeats 1600000 in
theorem TablesPlays_b {w0 w : World} {F : List Seg} (H : Hp w0 w F) {E : Nat → Value} {Q : Nat → Addr} (hE : Errs F E Q) {p : Option Addr} {c : Nat} {ops : List OpR} (hs : SlAt F p (opsV ops)) (hl : ops.length ≤ 9223372036854775807) (hok : ∀ o ∈ ops, i64ok o.k) : Ret Tryd.prog 5 [.slice p ops.length c] w fun v w' => v = .bool true ∧ Hp w0 w' F := by
  refine Calls.of_J (n := 53) Tryd.func5 rfl rfl rfl ?_
  refine J.seq ?_
  refine J.region ?_
  refine JL.go trivial (RX.assign) ?_
  refine JL.nil ?_
  refine J.seq ?_
  refine J.seq ?_
  refine J.region ?_
  refine JL.does trivial (EX.call rfl cl7 rfl ((fixed_b H hE))) ?_
  rintro _ w ⟨rfl, H⟩
  refine JL.go trivial (RX.not rfl) ?_
  refine JL.nil ?_
  refine J.cond_f rfl rfl ?_
  refine J.skip ?_
  refine J.seq ?_
  refine J.seq ?_
  refine J.region ?_
  refine JL.go trivial (RX.movev (v := Value.slice _ _ _) rfl) ?_
  refine JL.does trivial (EX.call rfl cl19 rfl ((heavy_b H hs hl))) ?_
  rintro _ w ⟨q, rfl, H⟩
  refine JL.nil ?_
  refine J.cond rfl (fun h1 => ?_) (fun h1 => ?_)
  · skip
    refine J.seq ?_
    refine J.region ?_
    refine JL.go trivial (RX.assign) ?_
    refine JL.nil ?_
    refine J.ret1 (v := Value.bool _) Tryd.func5 rfl rfl ?_
    exact ⟨_, rfl, rfl, H⟩
  · skip
    refine J.skip ?_
    refine J.seq ?_
    refine J.region ?_
    refine JL.does trivial (EX.call rfl cl8 rfl ((New_b H))) ?_
    rintro _ w ⟨ta, mba, rfl, H⟩
    refine JL.does trivial (EX.call rfl cl8 rfl ((New_b H))) ?_
    rintro _ w ⟨tb, mbb, rfl, H⟩
    refine JL.go trivial (RX.assignv (v := Value.pointer _) rfl) ?_
    refine JL.go trivial (RX.assignv (v := Value.pointer _) rfl) ?_
    refine JL.nil ?_
    refine J.seq ?_
    refine J.seq ?_
    refine J.region ?_
    refine JL.go trivial (RX.movev (v := Value.pointer _) rfl) ?_
    refine JL.go trivial (RX.ptrnil_eql rfl rfl pn24) ?_
    refine JL.go trivial (RX.movev (v := Value.bool _) rfl) ?_
    refine JL.go ⟨_, rfl, rfl⟩ (RX.movev (v := Value.pointer _) rfl) ?_
    refine JL.go ⟨_, rfl, rfl⟩ (RX.ptrnil_eql rfl rfl pn24) ?_
    refine JL.go trivial (RX.pick_f rfl rfl) ?_
    refine JL.nil ?_
    refine J.cond_f rfl rfl ?_
    refine J.skip ?_
    refine J.seq ?_
    refine J.region ?_
    refine JL.go trivial (RX.build (pv := []) (res := [.slice none 0 0, .int .i64 0]) rfl (by kernel_rfl)) ?_
    refine JL.does trivial (EX.box (v := Value.agg _) H rfl rfl) ?_
    rintro _ w ⟨xa, rfl, H⟩
    refine JL.go trivial (RX.build (pv := []) (res := [.slice none 0 0, .int .i64 0]) rfl (by kernel_rfl)) ?_
    refine JL.does trivial (EX.box (v := Value.agg _) H rfl rfl) ?_
    rintro _ w ⟨xb, rfl, H⟩
    refine JL.go trivial (RX.assignv (v := Value.pointer _) rfl) ?_
    refine JL.go trivial (RX.assignv (v := Value.pointer _) rfl) ?_
    refine JL.nil ?_
    refine J.seq ?_
    refine J.seq ?_
    refine J.region ?_
    refine JL.go trivial (RX.movev (v := Value.slice _ _ _) rfl) ?_
    refine JL.go trivial (RX.len_slice rfl (by rw [sl45]; rfl) rfl) ?_
    refine JL.go trivial (RX.move) ?_
    refine JL.nil ?_
    refine J.block ?_
    refine J.loop (ι := Nat × TS × RS × TS × RS) (S := fun z => [(28, .int .i64 (z.1 : Nat))]) (Φ := fun z w => (z.1 ≤ ops.length ∧ Both z.2.1 z.2.2.1 ∧ Both z.2.2.2.1 z.2.2.2.2 ∧ z.2.1.m ≤ (z.1 : Nat) ∧ z.2.2.2.1.m ≤ (z.1 : Nat)) ∧ Hp w0 w (z.2.1.tb ta 0 :: z.2.1.mp :: z.2.1.ts :: z.2.2.1.rb xa z.2.1.m :: z.2.2.1.sl :: z.2.2.2.1.tb tb 0 :: z.2.2.2.1.mp :: z.2.2.2.1.ts :: z.2.2.2.2.rb xb z.2.2.2.1.m :: z.2.2.2.2.sl :: F)) (μ := fun z => ops.length - z.1) (C := [(3, _), (4, _), (5, _), (6, _), (26, _), (27, _)]) (0, newTS mba, ⟨none, 0, [], []⟩, newTS mbb, ⟨none, 0, [], []⟩) ⟨rfl, rfl, rfl, rfl, rfl, rfl, trivial⟩ ⟨rfl, trivial⟩ ?_ ?_
    · exact ⟨⟨by simp, both_new _, both_new _, by show (0 : Int) ≤ _; simp, by show (0 : Int) ≤ _; simp⟩, (((((((((H.nil.nil.pull 2 rfl).pull 6 rfl).pull 6 rfl).pull 6 rfl).pull 5 rfl).pull 6 rfl).pull 9 rfl).pull 9 rfl).pull 9 rfl)⟩
    clear H
    rintro ⟨i, sa, ra, sb, rb⟩ ρ w ⟨⟨hi, hA, hBb, hma, hmb⟩, H⟩ IH
    simp only at hi hA hBb hma hmb H
    dsimp only
    refine J.seq ?_
    refine J.region ?_
    refine JL.go trivial (RX.lt rfl rfl) ?_
    refine JL.nil ?_
    refine J.seq ?_
    refine J.cond_d rfl (fun hlt => ?_) (fun hlt => ?_)
    · skip
      obtain ⟨o, ho⟩ : ∃ o, ops[i]? = some o := ⟨_, List.getElem?_eq_getElem (by omega)⟩
      obtain ⟨pb, po, rfl, _⟩ := hs.some (by rw [opsV_len]; omega)
      have hko := hok o (List.mem_of_getElem? ho)
      refine J.skip ?_
      refine J.seq ?_
      refine J.block ?_
      refine J.seq ?_
      refine J.region ?_
      refine JL.go trivial (RX.indexAddr rfl rfl sl45 (by omega) (by omega) (o' := po + i * 4) (by omega)) ?_
      refine JL.go trivial (RX.loadAggS H (SlAt.cons (SlAt.cons (SlAt.cons (SlAt.cons (SlAt.cons (SlAt.cons (SlAt.cons (SlAt.cons (SlAt.cons (SlAt.cons hs)))))))))) rfl (j := i * 4) rfl (opsV_read ho) ag51) ?_
      refine JL.does trivial (EX.alloc H zr51 rfl) ?_
      rintro _ w ⟨bo, rfl, H⟩
      refine JL.does trivial (EX.storeAgg H rfl rfl (i := 0) (vs := o.v) (l' := o.v) rfl OpR.cell (by simp [OpR.v]) sz51 rfl rfl) ?_
      rintro _ w H
      refine JL.nil ?_
      refine J.seq ?_
      refine J.region ?_
      refine JL.go trivial (RX.assign) ?_
      refine JL.nil ?_
      refine J.seq ?_
      refine J.seq ?_
      refine J.region ?_
      refine JL.go trivial (RX.fieldAddr rfl fo51_1 rfl) ?_
      refine JL.go trivial (RX.load H rfl (i := 0) (v := .bool o.sec) rfl rfl one4) ?_
      refine JL.nil ?_
      refine J.cond rfl (fun hsec => ?_) (fun hsec => ?_)
      · skip
        refine J.region ?_
        refine JL.go trivial (RX.movev (v := Value.pointer _) rfl) ?_
        refine JL.go trivial (RX.movev (v := Value.pointer _) rfl) ?_
        refine JL.go trivial (RX.loadAgg H rfl (i := 0) (vs := o.v) rfl rfl ag51) ?_
        refine JL.does trivial (EX.call rfl cl20 rfl ((step_b ((((((((((H.pull 5 rfl).pull 5 rfl).pull 5 rfl).pull 5 rfl).pull 5 rfl).pull 10 rfl).pull 10 rfl).pull 10 rfl).pull 10 rfl).pull 10 rfl) hBb (hE.cons.cons.cons.cons.cons.cons) hko (by omega)))) ?_
        rintro _ w ⟨rfl, s1, r1, hB1, hm1, H⟩
        replace H := ((((((((((((H.pull 4 rfl).pull 4 rfl).pull 4 rfl).pull 4 rfl).pull 4 rfl).pull 9 rfl).pull 9 rfl).pull 9 rfl).pull 9 rfl).pull 9 rfl).pull 10 rfl)).drop
        refine JL.go trivial (RX.assignv (v := Value.bool _) rfl) ?_
        refine JL.nil ?_
        refine J.seq ?_
        refine J.region ?_
        refine JL.go trivial (RX.movev (v := Value.bool _) rfl) ?_
        refine JL.go trivial (RX.not rfl) ?_
        refine JL.nil ?_
        refine J.cond_f rfl rfl ?_
        refine J.skip ?_
        refine J.inBlock ?_
        refine J.region ?_
        refine JL.go trivial (RX.add rfl rfl (w_i64 (r := ((i + 1 : Nat) : Int)) (by omega) (by omega) (by omega))) ?_
        refine JL.go trivial (RX.movev (v := Value.int _ _) rfl) ?_
        refine JL.nil ?_
        exact IH (i + 1, sa, ra, s1, r1) _ _ (by simp only; omega) ⟨rfl, rfl, rfl, rfl, rfl, rfl, trivial⟩ ⟨rfl, trivial⟩ ⟨⟨by simp only; omega, hA, hB1, by simp only; omega, by simp only; omega⟩, H⟩
      · skip
        refine J.region ?_
        refine JL.go trivial (RX.movev (v := Value.pointer _) rfl) ?_
        refine JL.go trivial (RX.movev (v := Value.pointer _) rfl) ?_
        refine JL.go trivial (RX.loadAgg H rfl (i := 0) (vs := o.v) rfl rfl ag51) ?_
        refine JL.does trivial (EX.call rfl cl20 rfl ((step_b ((((((((((H.pull 10 rfl).pull 10 rfl).pull 10 rfl).pull 10 rfl).pull 10 rfl).pull 10 rfl).pull 10 rfl).pull 10 rfl).pull 10 rfl).pull 10 rfl) hA (hE.cons.cons.cons.cons.cons.cons) hko (by omega)))) ?_
        rintro _ w ⟨rfl, s1, r1, hB1, hm1, H⟩
        replace H := ((((((((((((H.pull 9 rfl).pull 9 rfl).pull 9 rfl).pull 9 rfl).pull 9 rfl).pull 9 rfl).pull 9 rfl).pull 9 rfl).pull 9 rfl).pull 9 rfl).pull 10 rfl)).drop
        refine JL.go trivial (RX.assignv (v := Value.bool _) rfl) ?_
        refine JL.nil ?_
        refine J.seq ?_
        refine J.region ?_
        refine JL.go trivial (RX.movev (v := Value.bool _) rfl) ?_
        refine JL.go trivial (RX.not rfl) ?_
        refine JL.nil ?_
        refine J.cond_f rfl rfl ?_
        refine J.skip ?_
        refine J.inBlock ?_
        refine J.region ?_
        refine JL.go trivial (RX.add rfl rfl (w_i64 (r := ((i + 1 : Nat) : Int)) (by omega) (by omega) (by omega))) ?_
        refine JL.go trivial (RX.movev (v := Value.int _ _) rfl) ?_
        refine JL.nil ?_
        exact IH (i + 1, s1, r1, sb, rb) _ _ (by simp only; omega) ⟨rfl, rfl, rfl, rfl, rfl, rfl, trivial⟩ ⟨rfl, trivial⟩ ⟨⟨by simp only; omega, hB1, hBb, by simp only; omega, by simp only; omega⟩, H⟩
    · skip
      refine J.exit rfl ?_
      refine J.seq ?_
      refine J.region ?_
      refine JL.go trivial (RX.movev (v := Value.pointer _) rfl) ?_
      refine JL.go trivial (RX.movev (v := Value.pointer _) rfl) ?_
      refine JL.does trivial (EX.call rfl cl21 rfl ((tells_b H hA))) ?_
      rintro _ w ⟨rfl, H⟩
      refine JL.go trivial (RX.movev (v := Value.bool _) rfl) ?_
      refine JL.go ⟨_, rfl, rfl⟩ (RX.movev (v := Value.pointer _) rfl) ?_
      refine JL.go ⟨_, rfl, rfl⟩ (RX.movev (v := Value.pointer _) rfl) ?_
      refine JL.does ⟨_, rfl, rfl⟩ (EX.call rfl cl21 rfl ((tells_b ((((((((((H.pull 4 rfl).pull 4 rfl).pull 4 rfl).pull 4 rfl).pull 4 rfl).pull 9 rfl).pull 9 rfl).pull 9 rfl).pull 9 rfl).pull 9 rfl) hBb))) ?_
      rintro _ w ⟨rfl, H⟩
      refine JL.go trivial (RX.pick_t rfl rfl) ?_
      refine JL.go trivial (RX.assignv (v := Value.bool _) rfl) ?_
      refine JL.nil ?_
      refine J.ret1 (v := Value.bool _) Tryd.func5 rfl rfl ?_
      exact ⟨_, rfl, rfl, H.drop.drop.drop.drop.drop.drop.drop.drop.drop.drop⟩
end Go.Proofs.YtmppcnbkfjeabaaDoor

/- What the laws share; TablesRoots. -/
import Derived.Test.YtmppcnbkfjeabaaDoorTb
namespace Go.Proofs.YtmppcnbkfjeabaaDoor
open Go Go.Eng
set_option maxRecDepth 100000
set_option linter.unusedVariables false
set_option linter.unusedSimpArgs false
theorem cl10 : callable Tryd.prog 10 = true := by kernel_rfl
theorem cl11 : callable Tryd.prog 11 = true := by kernel_rfl
theorem cl12 : callable Tryd.prog 12 = true := by kernel_rfl
theorem cl13 : callable Tryd.prog 13 = true := by kernel_rfl
theorem cl16 : callable Tryd.prog 16 = true := by kernel_rfl
theorem cl17 : callable Tryd.prog 17 = true := by kernel_rfl
theorem cl7 : callable Tryd.prog 7 = true := by kernel_rfl
theorem cl8 : callable Tryd.prog 8 = true := by kernel_rfl
theorem cl9 : callable Tryd.prog 9 = true := by kernel_rfl
theorem pn24 : Tryd.prog.underlying 24 = some (.pointer (Tryd.prog.pointee 24)) := by kernel_rfl
theorem sl22 : sliceOf Tryd.prog 22 = some (3, 1) := by kernel_rfl

theorem cn_inv {x y : Nat} (h : cn x = y) (hy : fnan y = false) : x = y := by
  cases hx : fnan x with
  | true => rw [cn_nan hx] at h; subst h; rw [fnan_qnan] at hy; cases hy
  | false => rw [cn_fin hx] at h; exact h
theorem root41 : rootN 4 1 = (0, 13830554455654793216) := by decide +kernel
theorem root43 : rootN 4 (-3) = (0, 13830554455654793216) := by decide +kernel
def intsV (l : List Int) : List Value := l.map (Value.int .i64)
theorem intsV_len (l : List Int) : (intsV l).length = l.length := by simp [intsV]
theorem intsV_get {l : List Int} {i : Nat} {k : Int} (h : l[i]? = some k) : (intsV l)[i]? = some (.int .i64 k) := by simp [intsV, h]
theorem Asked.new {n : Int} {mb : Nat} {s : TS} (h : Asked n (newTS mb) s) : s.keys = [n] ∧ s.m = 1 := by
  rcases h with ⟨h, _⟩ | ⟨_, h1, h2⟩
  · cases h
  · exact ⟨h1, h2⟩
theorem Asked.old {n : Int} {s s' : TS} (h : Asked n s s') (hn : n ∈ s.keys) : s' = s := by
  rcases h with ⟨_, h⟩ | ⟨h, _⟩
  · exact h
  · exact absurd hn h
theorem not_erase {s : TS} (ok : s.ok) (n : Int) : n ∉ (s.drop n).keys := by
  rw [TS.drop_keys]
  exact fun h => (List.Nodup.mem_erase_iff ok.ndk).1 h |>.1 rfl
/-- How many tables may have been made: one, and one more behind the drop. -/
def JR (n d : Int) (i : Nat) (s : TS) : Prop := ∃ q : Int, 0 ≤ q ∧ q ≤ 1 ∧ (q = 1 → d < i) ∧ (n ∈ s.keys → s.m ≤ q + 1) ∧ (n ∉ s.keys → s.m ≤ q)
theorem JR.bound {n d : Int} {i : Nat} {s : TS} (h : JR n d i s) : s.m ≤ 2 := by
  obtain ⟨q, h0, h1, _, h2, h3⟩ := h
  by_cases hn : n ∈ s.keys
  · have := h2 hn; omega
  · have := h3 hn; omega
theorem JR.ask {n d q : Int} {i : Nat} {s s' : TS} (h0 : 0 ≤ q) (h1 : q ≤ 1) (hq : q = 1 → d < ((i + 1 : Nat) : Int)) (h2 : n ∈ s.keys → s.m ≤ q + 1) (h3 : n ∉ s.keys → s.m ≤ q) (ha : Asked n s s') : JR n d (i + 1) s' := by
  rcases ha with ⟨hn, rfl⟩ | ⟨hn, hk, hm⟩
  · exact ⟨q, h0, h1, hq, h2, h3⟩
  · refine ⟨q, h0, h1, hq, fun _ => by have := h3 hn; omega, fun h => absurd (by rw [hk]; simp) h⟩
theorem JR.at_ {n d : Int} {i : Nat} {s s' : TS} (h : JR n d i s) (ha : Asked n s s') : JR n d (i + 1) s' := by
  obtain ⟨q, h0, h1, hq, h2, h3⟩ := h
  exact JR.ask h0 h1 (fun e => by have := hq e; omega) h2 h3 ha
theorem JR.drop {n d : Int} {i : Nat} {s s' : TS} (h : JR n d i s) (ok : s.ok) (hd : (i : Int) = d) (ha : Asked n (s.drop n) s') : JR n d (i + 1) s' := by
  obtain ⟨q, h0, h1, hq, h2, h3⟩ := h
  refine JR.ask (q := 1) (by omega) (by omega) (fun _ => by omega) (fun hn => absurd hn (not_erase ok n)) (fun _ => ?_) ha
  show s.m ≤ 1
  have hq0 : q = 0 := by
    by_cases e : q = 1
    · have := hq e; omega
    · omega
  by_cases hn : n ∈ s.keys
  · have := h2 hn; omega
  · have := h3 hn; omega

theorem fixed_b {w0 w : World} {F : List Seg} (H : Hp w0 w F) {E : Nat → Value} {Q : Nat → Addr} (hE : Errs F E Q) : Ret Tryd.prog 7 [] w fun v w' => v = .bool true ∧ Hp w0 w' F := by
  refine Calls.of_J (n := 60) Tryd.func7 rfl rfl rfl ?_
  refine J.seq ?_
  refine J.region ?_
  refine JL.go trivial (RX.assign) ?_
  refine JL.nil ?_
  refine J.seq ?_
  refine J.region ?_
  refine JL.does trivial (EX.call rfl cl8 rfl ((New_b H))) ?_
  rintro _ w ⟨t, mb, rfl, H⟩
  refine JL.go trivial (RX.assignv (v := Value.pointer _) rfl) ?_
  refine JL.nil ?_
  refine J.seq ?_
  refine J.seq ?_
  refine J.region ?_
  refine JL.go trivial (RX.movev (v := Value.pointer _) rfl) ?_
  refine JL.go trivial (RX.ptrnil_eql rfl rfl pn24) ?_
  refine JL.nil ?_
  refine J.cond_f rfl rfl ?_
  refine J.skip ?_
  refine J.seq ?_
  refine J.region ?_
  refine JL.go trivial (RX.movev (v := Value.pointer _) rfl) ?_
  refine JL.does trivial (EX.call rfl cl9 rfl ((At_b (n := 4) (k := 1) H (newTS_ok mb) (by decide) (by decide) (by show (0 : Int) < _; decide) (by decide)))) ?_
  rintro _ w ⟨s1, a, b, rfl, ha, hb, ok1, hask1, H⟩
  rw [root41] at ha hb
  obtain rfl := cn_inv ha (by decide)
  obtain rfl := cn_inv hb (by decide)
  obtain ⟨hk1, hm1⟩ := hask1.new
  refine JL.go trivial (RX.movev (v := Value.tuple _) rfl) ?_
  refine JL.go trivial (RX.extract rfl rfl) ?_
  refine JL.go trivial (RX.extract rfl rfl) ?_
  refine JL.go trivial (RX.assignv (v := Value.complex _ _ _) rfl) ?_
  refine JL.go trivial (RX.assign) ?_
  refine JL.nil ?_
  refine J.seq ?_
  refine J.region ?_
  refine JL.go trivial (RX.movev (v := Value.pointer _) rfl) ?_
  refine JL.does trivial (EX.call rfl cl9 rfl ((At_b (n := 4) (k := -3) H ok1 (by decide) (by decide) (by rw [hm1]; decide) (by decide)))) ?_
  rintro _ w ⟨s2, a2, b2, rfl, ha2, hb2, ok2, hask2, H⟩
  rw [root43] at ha2 hb2
  obtain rfl := cn_inv ha2 (by decide)
  obtain rfl := cn_inv hb2 (by decide)
  have H0 := H
  obtain rfl := hask2.old (by rw [hk1]; simp)
  have H := H0
  clear H0
  refine JL.go trivial (RX.movev (v := Value.tuple _) rfl) ?_
  refine JL.go trivial (RX.extract rfl rfl) ?_
  refine JL.go trivial (RX.extract rfl rfl) ?_
  refine JL.go trivial (RX.assignv (v := Value.complex _ _ _) rfl) ?_
  refine JL.go trivial (RX.assign) ?_
  refine JL.nil ?_
  refine J.seq ?_
  refine J.region ?_
  refine JL.go trivial (RX.movev (v := Value.pointer _) rfl) ?_
  refine JL.does trivial (EX.call rfl cl9 rfl ((At_e (p := t) (n := 0) (k := 1) H hE.cons.cons.cons (.inl (by decide))))) ?_
  rintro _ w ⟨rfl, H⟩
  refine JL.go trivial (RX.movev (v := Value.tuple _) rfl) ?_
  refine JL.go trivial (RX.extract rfl rfl) ?_
  refine JL.go trivial (RX.extract (v := E 7) rfl rfl) ?_
  refine JL.go trivial (RX.assignv (v := Value.complex _ _ _) rfl) ?_
  refine JL.go trivial (RX.assignv (v := E 7) rfl) ?_
  refine JL.nil ?_
  refine J.seq ?_
  refine J.region ?_
  refine JL.go trivial (RX.move) ?_
  refine JL.go trivial (RX.ifnil_eql rfl rfl rfl if28) ?_
  refine JL.go trivial (RX.movev (v := Value.bool _) rfl) ?_
  refine JL.go ⟨_, rfl, rfl⟩ (RX.move) ?_
  refine JL.go ⟨_, rfl, rfl⟩ (RX.ifnil_eql rfl rfl rfl if28) ?_
  refine JL.go trivial (RX.pick_t rfl rfl) ?_
  refine JL.go trivial (RX.movev (v := Value.bool _) rfl) ?_
  refine JL.go ⟨_, rfl, rfl⟩ (RX.movev (v := Value.complex _ _ _) rfl) ?_
  refine JL.go ⟨_, rfl, rfl⟩ (RX.ceq rfl rfl) ?_
  refine JL.go trivial (RX.pick_t rfl rfl) ?_
  refine JL.go trivial (RX.movev (v := Value.bool _) rfl) ?_
  refine JL.go ⟨_, rfl, (by decide +kernel)⟩ (RX.movev (v := Value.complex _ _ _) rfl) ?_
  refine JL.go ⟨_, rfl, (by decide +kernel)⟩ (RX.movev (v := Value.complex _ _ _) rfl) ?_
  refine JL.go ⟨_, rfl, (by decide +kernel)⟩ (RX.ceq rfl rfl) ?_
  refine JL.go trivial (RX.pick_t rfl (by decide +kernel)) ?_
  refine JL.go trivial (RX.movev (v := Value.bool _) rfl) ?_
  refine JL.go ⟨_, rfl, (by decide +kernel)⟩ (RX.movev (v := Value.pointer _) rfl) ?_
  refine JL.does ⟨_, rfl, (by decide +kernel)⟩ (EX.call rfl cl12 rfl ((Made_b H))) ?_
  rintro _ w ⟨rfl, H⟩
  refine JL.go ⟨_, rfl, (by decide +kernel)⟩ (RX.eq rfl rfl) ?_
  refine JL.go trivial (RX.pick_t rfl (by decide +kernel)) ?_
  refine JL.go trivial (RX.movev (v := Value.bool _) rfl) ?_
  refine JL.go ⟨_, rfl, (by rw [hm1]; rfl)⟩ (RX.movev (v := E 7) rfl) ?_
  refine JL.does ⟨_, rfl, (by rw [hm1]; rfl)⟩ (EX.call rfl cl11 rfl ((Num_b H hE.cons.cons.cons (n := 7) (by decide)))) ?_
  rintro _ w ⟨rfl, H⟩
  refine JL.go ⟨_, rfl, (by rw [hm1]; rfl)⟩ (RX.eq rfl rfl) ?_
  refine JL.go trivial (RX.pick_t rfl (by rw [hm1]; rfl)) ?_
  refine JL.go trivial (RX.movev (v := Value.bool _) rfl) ?_
  refine JL.go ⟨_, rfl, (decide_eq_true rfl)⟩ (RX.movev (v := Value.pointer _) rfl) ?_
  refine JL.does ⟨_, rfl, (decide_eq_true rfl)⟩ (EX.call rfl cl13 rfl ((Drop_b H ok2 (n := 4)))) ?_
  rintro _ w ⟨rfl, H⟩
  refine JL.go trivial (RX.pick_t rfl (decide_eq_true rfl)) ?_
  refine JL.go trivial (RX.movev (v := Value.bool _) rfl) ?_
  refine JL.go ⟨_, rfl, (decide_eq_true (by rw [hk1]; simp))⟩ (RX.movev (v := Value.pointer _) rfl) ?_
  refine JL.does ⟨_, rfl, (decide_eq_true (by rw [hk1]; simp))⟩ (EX.call rfl cl13 rfl ((Drop_b H (ok2.drop 4) (n := 4)))) ?_
  rintro _ w ⟨rfl, H⟩
  refine JL.go ⟨_, rfl, (decide_eq_true (by rw [hk1]; simp))⟩ (RX.not rfl) ?_
  refine JL.go trivial (RX.pick_t rfl (decide_eq_true (by rw [hk1]; simp))) ?_
  refine JL.go trivial (RX.assignv (v := Value.bool _) rfl) ?_
  refine JL.nil ?_
  refine J.ret1 (v := Value.bool _) Tryd.func7 rfl rfl ?_
  exact ⟨_, rfl, by rw [decide_eq_false (not_erase ok2 4)]; rfl, H.drop.drop.drop⟩
theorem TablesRoots_b {w0 w : World} {F : List Seg} (H : Hp w0 w F) {E : Nat → Value} {Q : Nat → Addr} (hE : Errs F E Q) {n d : Int} {p : Option Addr} {c : Nat} {ks : List Int} (hs : SlAt F p (intsV ks)) (hl : ks.length ≤ 9223372036854775807) (hks : ∀ k ∈ ks, i64ok k) : Ret Tryd.prog 3 [.int .i64 n, .slice p ks.length c, .int .i64 d] w fun v w' => v = .bool true ∧ Hp w0 w' F := by
  refine Calls.of_J (n := 133) Tryd.func3 rfl rfl rfl ?_
  refine J.seq ?_
  refine J.region ?_
  refine JL.go trivial (RX.assign) ?_
  refine JL.nil ?_
  refine J.seq ?_
  refine J.seq ?_
  refine J.region ?_
  refine JL.does trivial (EX.call rfl cl7 rfl ((fixed_b H hE))) ?_
  rintro _ w ⟨rfl, H⟩
  refine JL.go trivial (RX.not rfl) ?_
  refine JL.nil ?_
  refine J.cond_f rfl rfl ?_
  refine J.skip ?_
  refine J.seq ?_
  refine J.region ?_
  refine JL.does trivial (EX.call rfl cl8 rfl ((New_b H))) ?_
  rintro _ w ⟨t, mb, rfl, H⟩
  refine JL.go trivial (RX.assignv (v := Value.pointer _) rfl) ?_
  refine JL.nil ?_
  refine J.seq ?_
  refine J.seq ?_
  refine J.region ?_
  refine JL.go trivial (RX.movev (v := Value.pointer _) rfl) ?_
  refine JL.go trivial (RX.ptrnil_eql rfl rfl pn24) ?_
  refine JL.nil ?_
  refine J.cond_f rfl rfl ?_
  refine J.skip ?_
  refine J.seq ?_
  refine J.seq ?_
  refine J.region ?_
  refine JL.go trivial (RX.movev (v := Value.int _ _) rfl) ?_
  refine JL.go trivial (RX.lt rfl rfl) ?_
  refine JL.go trivial (RX.movev (v := Value.bool _) rfl) ?_
  refine JL.splitS 29 rfl (fun hg => ?_) (fun hg => ?_)
  · skip
    first | have hgp := of_decide_eq_true hg | skip
    have hout : n < 1 ∨ 16384 < n := .inl (by omega)
    refine JL.no ⟨_, rfl, gno hg⟩ ?_
    refine JL.no ⟨_, rfl, gno hg⟩ ?_
    refine JL.go trivial (RX.pick_t rfl hg) ?_
    refine JL.nil ?_
    refine J.cond_t rfl rfl ?_
    refine J.seq ?_
    refine J.region ?_
    refine JL.go trivial (RX.movev (v := Value.pointer _) rfl) ?_
    refine JL.go trivial (RX.movev (v := Value.int _ _) rfl) ?_
    refine JL.does trivial (EX.call rfl cl9 rfl ((At_e (p := t) (k := 0) H hE.cons.cons.cons hout))) ?_
    rintro _ w ⟨rfl, H⟩
    refine JL.go trivial (RX.movev (v := Value.tuple _) rfl) ?_
    refine JL.go trivial (RX.extract rfl rfl) ?_
    refine JL.go trivial (RX.extract (v := E 7) rfl rfl) ?_
    refine JL.go trivial (RX.assignv (v := Value.complex _ _ _) rfl) ?_
    refine JL.go trivial (RX.assignv (v := E 7) rfl) ?_
    refine JL.nil ?_
    refine J.seq ?_
    refine J.region ?_
    refine JL.go trivial (RX.movev (v := Value.pointer _) rfl) ?_
    refine JL.go trivial (RX.movev (v := Value.int _ _) rfl) ?_
    refine JL.does trivial (EX.call rfl cl10 rfl ((List_e (p := t) H hE.cons.cons.cons hout))) ?_
    rintro _ w ⟨rfl, H⟩
    refine JL.go trivial (RX.movev (v := Value.tuple _) rfl) ?_
    refine JL.go trivial (RX.extract rfl rfl) ?_
    refine JL.go trivial (RX.extract (v := E 7) rfl rfl) ?_
    refine JL.go trivial (RX.assignv (v := Value.slice _ _ _) rfl) ?_
    refine JL.go trivial (RX.assignv (v := E 7) rfl) ?_
    refine JL.nil ?_
    refine J.seq ?_
    refine J.region ?_
    refine JL.go trivial (RX.movev (v := E 7) rfl) ?_
    refine JL.does trivial (EX.call rfl cl11 rfl ((Num_b H hE.cons.cons.cons (n := 7) (by decide)))) ?_
    rintro _ w ⟨rfl, H⟩
    refine JL.go trivial (RX.eq rfl rfl) ?_
    refine JL.go trivial (RX.movev (v := Value.bool _) rfl) ?_
    refine JL.go ⟨_, rfl, (decide_eq_true rfl)⟩ (RX.movev (v := E 7) rfl) ?_
    refine JL.does ⟨_, rfl, (decide_eq_true rfl)⟩ (EX.call rfl cl11 rfl ((Num_b H hE.cons.cons.cons (n := 7) (by decide)))) ?_
    rintro _ w ⟨rfl, H⟩
    refine JL.go ⟨_, rfl, (decide_eq_true rfl)⟩ (RX.eq rfl rfl) ?_
    refine JL.go trivial (RX.pick_t rfl (decide_eq_true rfl)) ?_
    refine JL.go trivial (RX.movev (v := Value.bool _) rfl) ?_
    refine JL.go ⟨_, rfl, (decide_eq_true rfl)⟩ (RX.movev (v := Value.pointer _) rfl) ?_
    refine JL.does ⟨_, rfl, (decide_eq_true rfl)⟩ (EX.call rfl cl12 rfl ((Made_b H))) ?_
    rintro _ w ⟨rfl, H⟩
    refine JL.go ⟨_, rfl, (decide_eq_true rfl)⟩ (RX.eq rfl rfl) ?_
    refine JL.go trivial (RX.pick_t rfl (decide_eq_true rfl)) ?_
    refine JL.go trivial (RX.movev (v := Value.bool _) rfl) ?_
    refine JL.go ⟨_, rfl, (decide_eq_true rfl)⟩ (RX.movev (v := Value.pointer _) rfl) ?_
    refine JL.go ⟨_, rfl, (decide_eq_true rfl)⟩ (RX.movev (v := Value.int _ _) rfl) ?_
    refine JL.does ⟨_, rfl, (decide_eq_true rfl)⟩ (EX.call rfl cl13 rfl ((Drop_b H (newTS_ok mb) (n := n)))) ?_
    rintro _ w ⟨rfl, H⟩
    refine JL.go ⟨_, rfl, (decide_eq_true rfl)⟩ (RX.not rfl) ?_
    refine JL.go trivial (RX.pick_t rfl (decide_eq_true rfl)) ?_
    refine JL.go trivial (RX.assignv (v := Value.bool _) rfl) ?_
    refine JL.nil ?_
    refine J.ret1 (v := Value.bool _) Tryd.func3 rfl rfl ?_
    exact ⟨_, rfl, by rfl, H.drop.drop.drop⟩
  · skip
    first | have hgp := of_decide_eq_false hg | skip
    refine JL.go ⟨_, rfl, hg⟩ (RX.movev (v := Value.int _ _) rfl) ?_
    refine JL.go ⟨_, rfl, hg⟩ (RX.gt rfl rfl) ?_
    refine JL.go trivial (RX.pick_f rfl hg) ?_
    refine JL.nil ?_
    refine J.cond_d rfl (fun hout => ?_) (fun hout => ?_)
    · skip
      have hout : n < 1 ∨ 16384 < n := .inr (by omega)
      refine J.seq ?_
      refine J.region ?_
      refine JL.go trivial (RX.movev (v := Value.pointer _) rfl) ?_
      refine JL.go trivial (RX.movev (v := Value.int _ _) rfl) ?_
      refine JL.does trivial (EX.call rfl cl9 rfl ((At_e (p := t) (k := 0) H hE.cons.cons.cons hout))) ?_
      rintro _ w ⟨rfl, H⟩
      refine JL.go trivial (RX.movev (v := Value.tuple _) rfl) ?_
      refine JL.go trivial (RX.extract rfl rfl) ?_
      refine JL.go trivial (RX.extract (v := E 7) rfl rfl) ?_
      refine JL.go trivial (RX.assignv (v := Value.complex _ _ _) rfl) ?_
      refine JL.go trivial (RX.assignv (v := E 7) rfl) ?_
      refine JL.nil ?_
      refine J.seq ?_
      refine J.region ?_
      refine JL.go trivial (RX.movev (v := Value.pointer _) rfl) ?_
      refine JL.go trivial (RX.movev (v := Value.int _ _) rfl) ?_
      refine JL.does trivial (EX.call rfl cl10 rfl ((List_e (p := t) H hE.cons.cons.cons hout))) ?_
      rintro _ w ⟨rfl, H⟩
      refine JL.go trivial (RX.movev (v := Value.tuple _) rfl) ?_
      refine JL.go trivial (RX.extract rfl rfl) ?_
      refine JL.go trivial (RX.extract (v := E 7) rfl rfl) ?_
      refine JL.go trivial (RX.assignv (v := Value.slice _ _ _) rfl) ?_
      refine JL.go trivial (RX.assignv (v := E 7) rfl) ?_
      refine JL.nil ?_
      refine J.seq ?_
      refine J.region ?_
      refine JL.go trivial (RX.movev (v := E 7) rfl) ?_
      refine JL.does trivial (EX.call rfl cl11 rfl ((Num_b H hE.cons.cons.cons (n := 7) (by decide)))) ?_
      rintro _ w ⟨rfl, H⟩
      refine JL.go trivial (RX.eq rfl rfl) ?_
      refine JL.go trivial (RX.movev (v := Value.bool _) rfl) ?_
      refine JL.go ⟨_, rfl, (decide_eq_true rfl)⟩ (RX.movev (v := E 7) rfl) ?_
      refine JL.does ⟨_, rfl, (decide_eq_true rfl)⟩ (EX.call rfl cl11 rfl ((Num_b H hE.cons.cons.cons (n := 7) (by decide)))) ?_
      rintro _ w ⟨rfl, H⟩
      refine JL.go ⟨_, rfl, (decide_eq_true rfl)⟩ (RX.eq rfl rfl) ?_
      refine JL.go trivial (RX.pick_t rfl (decide_eq_true rfl)) ?_
      refine JL.go trivial (RX.movev (v := Value.bool _) rfl) ?_
      refine JL.go ⟨_, rfl, (decide_eq_true rfl)⟩ (RX.movev (v := Value.pointer _) rfl) ?_
      refine JL.does ⟨_, rfl, (decide_eq_true rfl)⟩ (EX.call rfl cl12 rfl ((Made_b H))) ?_
      rintro _ w ⟨rfl, H⟩
      refine JL.go ⟨_, rfl, (decide_eq_true rfl)⟩ (RX.eq rfl rfl) ?_
      refine JL.go trivial (RX.pick_t rfl (decide_eq_true rfl)) ?_
      refine JL.go trivial (RX.movev (v := Value.bool _) rfl) ?_
      refine JL.go ⟨_, rfl, (decide_eq_true rfl)⟩ (RX.movev (v := Value.pointer _) rfl) ?_
      refine JL.go ⟨_, rfl, (decide_eq_true rfl)⟩ (RX.movev (v := Value.int _ _) rfl) ?_
      refine JL.does ⟨_, rfl, (decide_eq_true rfl)⟩ (EX.call rfl cl13 rfl ((Drop_b H (newTS_ok mb) (n := n)))) ?_
      rintro _ w ⟨rfl, H⟩
      refine JL.go ⟨_, rfl, (decide_eq_true rfl)⟩ (RX.not rfl) ?_
      refine JL.go trivial (RX.pick_t rfl (decide_eq_true rfl)) ?_
      refine JL.go trivial (RX.assignv (v := Value.bool _) rfl) ?_
      refine JL.nil ?_
      refine J.ret1 (v := Value.bool _) Tryd.func3 rfl rfl ?_
      exact ⟨_, rfl, by rfl, H.drop.drop.drop⟩
    · skip
      refine J.skip ?_
      refine J.seq ?_
      refine J.seq ?_
      have hn1 : 1 ≤ n := by omega
      have hn2 : n ≤ 16384 := by omega
      refine J.region ?_
      refine JL.go trivial (RX.movev (v := Value.slice _ _ _) rfl) ?_
      refine JL.go trivial (RX.len_slice rfl (by rw [sl22]; rfl) rfl) ?_
      refine JL.go trivial (RX.move) ?_
      refine JL.nil ?_
      refine J.block ?_
      refine J.loop (ι := Nat × TS) (S := fun z => [(66, .int .i64 (z.1 : Nat))]) (Φ := fun z w => z.1 ≤ ks.length ∧ z.2.ok ∧ JR n d z.1 z.2 ∧ Hp w0 w (z.2.tb t 0 :: z.2.mp :: z.2.ts :: F)) (μ := fun z => ks.length - z.1) (C := [(0, _), (2, _), (7, _), (64, _), (65, _)]) (0, newTS mb) ⟨rfl, rfl, rfl, rfl, rfl, trivial⟩ ⟨rfl, trivial⟩ ?_ ?_
      · exact ⟨by simp, newTS_ok mb, ⟨0, by omega, by omega, fun h => (by omega), fun h => (by cases h), fun _ => (by show (0 : Int) ≤ 0; omega)⟩, H⟩
      clear H
      rintro ⟨i, s⟩ ρ w ⟨hi, ok, hJ, H⟩ IH
      simp only at hi ok hJ H
      dsimp only
      refine J.seq ?_
      refine J.region ?_
      refine JL.go trivial (RX.lt rfl rfl) ?_
      refine JL.nil ?_
      refine J.seq ?_
      refine J.cond_d rfl (fun hlt => ?_) (fun hlt => ?_)
      · skip
        obtain ⟨k, hget⟩ : ∃ k, ks[i]? = some k := ⟨_, List.getElem?_eq_getElem (by omega)⟩
        have hki := hks k (List.mem_of_getElem? hget)
        obtain ⟨pb, po, rfl, hpp⟩ := hs.some (by rw [intsV_len]; omega)
        refine J.skip ?_
        refine J.seq ?_
        refine J.block ?_
        refine J.seq ?_
        refine J.region ?_
        refine JL.go trivial (RX.movev (v := Value.int _ _) rfl) ?_
        refine JL.go trivial (RX.indexAddr rfl rfl sl22 (by omega) (by omega) (o' := po + i) (by omega)) ?_
        refine JL.go trivial (RX.loadS H hs.cons.cons.cons rfl (j := i) rfl (intsV_get hget) one3) ?_
        refine JL.go trivial (RX.assignv (v := Value.int _ _) rfl) ?_
        refine JL.go trivial (RX.assignv (v := Value.int _ _) rfl) ?_
        refine JL.nil ?_
        refine J.seq ?_
        refine J.seq ?_
        refine J.region ?_
        refine JL.go trivial (RX.movev (v := Value.int _ _) rfl) ?_
        refine JL.go trivial (RX.movev (v := Value.int _ _) rfl) ?_
        refine JL.go trivial (RX.eq rfl rfl) ?_
        refine JL.nil ?_
        refine J.cond_d rfl (fun hd => ?_) (fun hd => ?_)
        · skip
          refine J.region ?_
          refine JL.go trivial (RX.movev (v := Value.pointer _) rfl) ?_
          refine JL.go trivial (RX.movev (v := Value.int _ _) rfl) ?_
          refine JL.does trivial (EX.call rfl cl13 rfl ((Drop_b H ok (n := n)))) ?_
          rintro _ w ⟨rfl, H⟩
          refine JL.nil ?_
          have ok2 := ok.drop n
          have hnext : ∀ s1, Asked n (s.drop n) s1 → JR n d (i + 1) s1 := fun s1 h => hJ.drop ok hd h
          have hbd : (s.drop n).m < 9223372036854775807 := by have := hJ.bound; show s.m < _; omega
          refine J.seq ?_
          refine J.region ?_
          refine JL.go trivial (RX.movev (v := Value.pointer _) rfl) ?_
          refine JL.go trivial (RX.movev (v := Value.int _ _) rfl) ?_
          refine JL.go trivial (RX.movev (v := Value.int _ _) rfl) ?_
          refine JL.does trivial (EX.call rfl cl9 rfl ((At_b H ok2 hn1 hn2 hbd hki))) ?_
          rintro _ w ⟨s1, a, b, rfl, ha, hb, ok1, hask, H⟩
          refine JL.go trivial (RX.movev (v := Value.tuple _) rfl) ?_
          refine JL.go trivial (RX.extract rfl rfl) ?_
          refine JL.go trivial (RX.extract rfl rfl) ?_
          refine JL.go trivial (RX.assignv (v := Value.complex _ _ _) rfl) ?_
          refine JL.go trivial (RX.assign) ?_
          refine JL.nil ?_
          refine J.seq ?_
          refine J.region ?_
          refine JL.go trivial (RX.movev (v := Value.int _ _) rfl) ?_
          refine JL.go trivial (RX.movev (v := Value.int _ _) rfl) ?_
          refine JL.does trivial (EX.call rfl cl14 rfl ((Root_b H hn1 (by omega) hki))) ?_
          rintro _ w ⟨a2, b2, rfl, ha2, hb2, H⟩
          refine JL.go trivial (RX.movev (v := Value.tuple _) rfl) ?_
          refine JL.go trivial (RX.extract rfl rfl) ?_
          refine JL.go trivial (RX.extract rfl rfl) ?_
          refine JL.go trivial (RX.assignv (v := Value.complex _ _ _) rfl) ?_
          refine JL.go trivial (RX.assign) ?_
          refine JL.nil ?_
          refine J.seq ?_
          refine J.region ?_
          refine JL.go trivial (RX.move) ?_
          refine JL.go trivial (RX.ifnil_neq rfl rfl rfl if28) ?_
          refine JL.go trivial (RX.movev (v := Value.bool _) rfl) ?_
          refine JL.go ⟨_, rfl, rfl⟩ (RX.move) ?_
          refine JL.go ⟨_, rfl, rfl⟩ (RX.ifnil_neq rfl rfl rfl if28) ?_
          refine JL.go trivial (RX.pick_f rfl rfl) ?_
          refine JL.go trivial (RX.movev (v := Value.bool _) rfl) ?_
          refine JL.go ⟨_, rfl, rfl⟩ (RX.movev (v := Value.complex _ _ _) rfl) ?_
          refine JL.go ⟨_, rfl, rfl⟩ (RX.movev (v := Value.complex _ _ _) rfl) ?_
          refine JL.does ⟨_, rfl, rfl⟩ (EX.call rfl cl15 rfl ((rSame2_b H))) ?_
          rintro _ w ⟨rfl, H⟩
          refine JL.go ⟨_, rfl, rfl⟩ (RX.not rfl) ?_
          refine JL.go trivial (RX.pick_f rfl rfl) ?_
          refine JL.nil ?_
          refine J.cond_f rfl (by rw [decide_eq_true (show cn a = cn a2 ∧ cn b = cn b2 from ⟨ha.trans ha2.symm, hb.trans hb2.symm⟩)]; rfl) ?_
          refine J.skip ?_
          refine J.inBlock ?_
          refine J.region ?_
          refine JL.go trivial (RX.add rfl rfl (w_i64 (r := ((i + 1 : Nat) : Int)) (by omega) (by omega) (by omega))) ?_
          refine JL.go trivial (RX.movev (v := Value.int _ _) rfl) ?_
          refine JL.nil ?_
          exact IH (i + 1, s1) _ _ (by simp only; omega) ⟨rfl, rfl, rfl, rfl, rfl, trivial⟩ ⟨rfl, trivial⟩ ⟨by simp only; omega, ok1, hnext s1 hask, H⟩
        · skip
          have ok2 := ok
          have hnext : ∀ s1, Asked n (s) s1 → JR n d (i + 1) s1 := fun s1 h => hJ.at_ h
          have hbd : (s).m < 9223372036854775807 := by have := hJ.bound; show s.m < _; omega
          refine J.skip ?_
          refine J.seq ?_
          refine J.region ?_
          refine JL.go trivial (RX.movev (v := Value.pointer _) rfl) ?_
          refine JL.go trivial (RX.movev (v := Value.int _ _) rfl) ?_
          refine JL.go trivial (RX.movev (v := Value.int _ _) rfl) ?_
          refine JL.does trivial (EX.call rfl cl9 rfl ((At_b H ok2 hn1 hn2 hbd hki))) ?_
          rintro _ w ⟨s1, a, b, rfl, ha, hb, ok1, hask, H⟩
          refine JL.go trivial (RX.movev (v := Value.tuple _) rfl) ?_
          refine JL.go trivial (RX.extract rfl rfl) ?_
          refine JL.go trivial (RX.extract rfl rfl) ?_
          refine JL.go trivial (RX.assignv (v := Value.complex _ _ _) rfl) ?_
          refine JL.go trivial (RX.assign) ?_
          refine JL.nil ?_
          refine J.seq ?_
          refine J.region ?_
          refine JL.go trivial (RX.movev (v := Value.int _ _) rfl) ?_
          refine JL.go trivial (RX.movev (v := Value.int _ _) rfl) ?_
          refine JL.does trivial (EX.call rfl cl14 rfl ((Root_b H hn1 (by omega) hki))) ?_
          rintro _ w ⟨a2, b2, rfl, ha2, hb2, H⟩
          refine JL.go trivial (RX.movev (v := Value.tuple _) rfl) ?_
          refine JL.go trivial (RX.extract rfl rfl) ?_
          refine JL.go trivial (RX.extract rfl rfl) ?_
          refine JL.go trivial (RX.assignv (v := Value.complex _ _ _) rfl) ?_
          refine JL.go trivial (RX.assign) ?_
          refine JL.nil ?_
          refine J.seq ?_
          refine J.region ?_
          refine JL.go trivial (RX.move) ?_
          refine JL.go trivial (RX.ifnil_neq rfl rfl rfl if28) ?_
          refine JL.go trivial (RX.movev (v := Value.bool _) rfl) ?_
          refine JL.go ⟨_, rfl, rfl⟩ (RX.move) ?_
          refine JL.go ⟨_, rfl, rfl⟩ (RX.ifnil_neq rfl rfl rfl if28) ?_
          refine JL.go trivial (RX.pick_f rfl rfl) ?_
          refine JL.go trivial (RX.movev (v := Value.bool _) rfl) ?_
          refine JL.go ⟨_, rfl, rfl⟩ (RX.movev (v := Value.complex _ _ _) rfl) ?_
          refine JL.go ⟨_, rfl, rfl⟩ (RX.movev (v := Value.complex _ _ _) rfl) ?_
          refine JL.does ⟨_, rfl, rfl⟩ (EX.call rfl cl15 rfl ((rSame2_b H))) ?_
          rintro _ w ⟨rfl, H⟩
          refine JL.go ⟨_, rfl, rfl⟩ (RX.not rfl) ?_
          refine JL.go trivial (RX.pick_f rfl rfl) ?_
          refine JL.nil ?_
          refine J.cond_f rfl (by rw [decide_eq_true (show cn a = cn a2 ∧ cn b = cn b2 from ⟨ha.trans ha2.symm, hb.trans hb2.symm⟩)]; rfl) ?_
          refine J.skip ?_
          refine J.inBlock ?_
          refine J.region ?_
          refine JL.go trivial (RX.add rfl rfl (w_i64 (r := ((i + 1 : Nat) : Int)) (by omega) (by omega) (by omega))) ?_
          refine JL.go trivial (RX.movev (v := Value.int _ _) rfl) ?_
          refine JL.nil ?_
          exact IH (i + 1, s1) _ _ (by simp only; omega) ⟨rfl, rfl, rfl, rfl, rfl, trivial⟩ ⟨rfl, trivial⟩ ⟨by simp only; omega, ok1, hnext s1 hask, H⟩
      · skip
        refine J.exit rfl ?_
        refine J.seq ?_
        refine J.seq ?_
        refine J.region ?_
        refine JL.go trivial (RX.movev (v := Value.int _ _) rfl) ?_
        refine JL.go trivial (RX.gt rfl rfl) ?_
        refine JL.nil ?_
        refine J.cond_d rfl (fun hbig => ?_) (fun hbig => ?_)
        · skip
          refine J.seq ?_
          refine J.region ?_
          refine JL.go trivial (RX.assign) ?_
          refine JL.nil ?_
          refine J.ret1 (v := Value.bool _) Tryd.func3 rfl rfl ?_
          exact ⟨_, rfl, rfl, H.drop.drop.drop⟩
        · skip
          refine J.skip ?_
          refine J.seq ?_
          refine J.region ?_
          refine JL.go trivial (RX.movev (v := Value.pointer _) rfl) ?_
          refine JL.go trivial (RX.movev (v := Value.int _ _) rfl) ?_
          refine JL.does trivial (EX.call rfl cl10 rfl ((List_b H ok hn1 hn2 (by have := hJ.bound; omega)))) ?_
          rintro _ w ⟨s1, q, cq, xs, sl, rfl, ho, hx, ok1, hask, H⟩
          refine JL.go trivial (RX.movev (v := Value.tuple _) rfl) ?_
          refine JL.go trivial (RX.extract rfl rfl) ?_
          refine JL.go trivial (RX.extract rfl rfl) ?_
          refine JL.go trivial (RX.assignv (v := Value.slice _ _ _) rfl) ?_
          refine JL.go trivial (RX.assign) ?_
          refine JL.nil ?_
          refine J.seq ?_
          refine J.region ?_
          refine JL.go trivial (RX.movev (v := Value.int _ _) rfl) ?_
          refine JL.does trivial (EX.call rfl cl16 rfl ((All_b H hn1 hn2))) ?_
          rintro _ w ⟨b2, ys, rfl, hy, H⟩
          refine JL.go trivial (RX.movev (v := Value.tuple _) rfl) ?_
          refine JL.go trivial (RX.extract rfl rfl) ?_
          refine JL.go trivial (RX.extract rfl rfl) ?_
          refine JL.go trivial (RX.assignv (v := Value.slice _ _ _) rfl) ?_
          refine JL.go trivial (RX.assign) ?_
          refine JL.nil ?_
          refine J.seq ?_
          refine J.region ?_
          refine JL.go trivial (RX.move) ?_
          refine JL.go trivial (RX.ifnil_eql rfl rfl rfl if28) ?_
          refine JL.go trivial (RX.movev (v := Value.bool _) rfl) ?_
          refine JL.go ⟨_, rfl, rfl⟩ (RX.move) ?_
          refine JL.go ⟨_, rfl, rfl⟩ (RX.ifnil_eql rfl rfl rfl if28) ?_
          refine JL.go trivial (RX.pick_t rfl rfl) ?_
          refine JL.go trivial (RX.movev (v := Value.bool _) rfl) ?_
          refine JL.go ⟨_, rfl, rfl⟩ (RX.movev (v := Value.slice _ _ _) rfl) ?_
          refine JL.go ⟨_, rfl, rfl⟩ (RX.movev (v := Value.slice _ _ _) rfl) ?_
          refine JL.does ⟨_, rfl, rfl⟩ (EX.call rfl cl17 rfl ((rSameList_b H ho.slAt.cons (SlAt.here (by rw [List.take_length])) hx.1 (by omega) (hx.alike hy)))) ?_
          rintro _ w ⟨rfl, H⟩
          refine JL.go trivial (RX.pick_t rfl rfl) ?_
          refine JL.go trivial (RX.movev (v := Value.bool _) rfl) ?_
          refine JL.go ⟨_, rfl, rfl⟩ (RX.movev (v := Value.slice _ _ _) rfl) ?_
          refine JL.go ⟨_, rfl, rfl⟩ (RX.len_slice rfl (by rw [sl31]; rfl) rfl) ?_
          refine JL.go ⟨_, rfl, rfl⟩ (RX.movev (v := Value.int _ _) rfl) ?_
          refine JL.go ⟨_, rfl, rfl⟩ (RX.eq rfl rfl) ?_
          refine JL.go trivial (RX.pick_t rfl rfl) ?_
          refine JL.go trivial (RX.assignv (v := Value.bool _) rfl) ?_
          refine JL.nil ?_
          refine J.ret1 (v := Value.bool _) Tryd.func3 rfl rfl ?_
          exact ⟨_, rfl, by rw [decide_eq_true (show ((n.toNat : Nat) : Int) = n by omega)], H.drop.drop.drop.drop.drop⟩
end Go.Proofs.YtmppcnbkfjeabaaDoor

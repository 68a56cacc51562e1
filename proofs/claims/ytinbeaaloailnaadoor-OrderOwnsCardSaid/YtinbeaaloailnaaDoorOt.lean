/- Text, Parse, lives. -/
import Derived.Test.YtinbeaaloailnaaDoorOx
namespace Go.Proofs.YtinbeaaloailnaaDoor
open Go Go.Eng
set_option maxRecDepth 100000
set_option linter.unusedVariables false
set_option linter.unusedSimpArgs false
theorem cl10 : callable Tryd.prog 10 = true := by kernel_rfl
theorem cl16 : callable Tryd.prog 16 = true := by kernel_rfl
theorem cl17 : callable Tryd.prog 17 = true := by kernel_rfl
theorem cl21 : callable Tryd.prog 21 = true := by kernel_rfl
theorem cl31 : callable Tryd.prog 31 = true := by kernel_rfl
theorem cl32 : callable Tryd.prog 32 = true := by kernel_rfl
theorem cl33 : callable Tryd.prog 33 = true := by kernel_rfl
theorem sl64 : sliceOf Tryd.prog 64 = some (5, 1) := by kernel_rfl
theorem ud5 : Tryd.prog.underlying 5 = some (.int .u8) := by kernel_rfl

theorem text_all : ∀ t, TextC t := tr_ind fun t ih hl hp w0 w F vs p n c xs s hn H ho ht hg => by
  obtain ⟨k, m, ks⟩ := t
  rw [Tr.Is] at ht
  obtain ⟨q, e, ys, rfl, hs, hk⟩ := ht
  exact text_step ih hl hp hn H ho hs hk hg
theorem lenO_good {t : Tr} (h : lenO t ≠ 0) : len t ≠ 0 ∧ t.parts ≤ 4096 ∧ t.depth ≤ 16 ∧ lenO t = len t := by
  have e := len_law t
  rw [e] at h ⊢
  unfold lenR at h ⊢
  split at h
  · rename_i hc
    rw [if_pos hc]
    exact ⟨h, hc.1, hc.2, rfl⟩
  · exact absurd rfl h
def textO (t : Tr) : List UInt8 := if goodB t then textT t else []
theorem goodB_yes {t : Tr} (h : goodB t = true) : lenO t ≠ 0 := of_decide_eq_true h
theorem bind_parts {β : Type} {o : Option β} {r s : List UInt8} : True := trivial
theorem pO_parts : ∀ (m : Nat) (s : List UInt8) (t : Tr) (r : List UInt8), pO m s = (some t, r) → t.parts + r.length ≤ s.length
  | 0, s, t, r, h => by rw [pO] at h; cases h
  | _ + 1, [], t, r, h => by rw [pO] at h; cases h
  | m + 1, c :: s, t, r, h => by
    have leaf : ∀ {k : Int}, (bindP (numP s) fun n r => ((some (.node k (n : Nat) []) : Option Tr), r)) = (some t, r) → t.parts + r.length ≤ (c :: s).length := by
      intro k h
      have hs := num_suf s
      cases hn : numP s with
      | mk o r1 =>
        rw [hn] at h hs
        cases o with
        | none => cases h
        | some n =>
          cases h
          have := hs.length_le
          rw [Tr.parts, partsL, List.length_cons]
          simp only at this
          omega
    rw [pO] at h
    split at h
    · exact leaf h
    · split at h
      · exact leaf h
      · split at h
        · have hs := num_suf s
          cases hn : numP s with
          | mk o r1 =>
            rw [hn] at h hs
            cases o with
            | none => cases h
            | some n =>
              simp only [bindP] at h
              have h1 := take_suf [40] r1
              cases h2 : takeP [40] r1 with
              | mk o r2 =>
                rw [h2] at h h1
                cases o with
                | none => cases h
                | some _ =>
                  simp only at h
                  cases h3 : pO m r2 with
                  | mk o r3 =>
                    rw [h3] at h
                    cases o with
                    | none => cases h
                    | some a =>
                      simp only at h
                      have h4 := take_suf [41] r3
                      cases h5 : takeP [41] r3 with
                      | mk o r4 =>
                        rw [h5] at h h4
                        cases o with
                        | none => cases h
                        | some _ =>
                          cases h
                          have e1 := hs.length_le
                          have e2 := h1.length_le
                          have e3 := pO_parts m r2 a r3 h3
                          have e4 := h4.length_le
                          simp only at e1 e2 e4
                          rw [Tr.parts, partsL, partsL, List.length_cons]
                          omega
        · split at h
          · cases h0 : pO m s with
            | mk o r1 =>
              rw [h0] at h
              cases o with
              | none => cases h
              | some a =>
                simp only [bindP] at h
                have h1 := take_suf [32, 120, 32] r1
                cases h2 : takeP [32, 120, 32] r1 with
                | mk o r2 =>
                  rw [h2] at h h1
                  cases o with
                  | none => cases h
                  | some _ =>
                    simp only at h
                    cases h3 : pO m r2 with
                    | mk o r3 =>
                      rw [h3] at h
                      cases o with
                      | none => cases h
                      | some b =>
                        simp only at h
                        have h4 := take_suf [41] r3
                        cases h5 : takeP [41] r3 with
                        | mk o r4 =>
                          rw [h5] at h h4
                          cases o with
                          | none => cases h
                          | some _ =>
                            cases h
                            have e1 := pO_parts m s a r1 h0
                            have e2 := h1.length_le
                            have e3 := pO_parts m r2 b r3 h3
                            have e4 := h4.length_le
                            simp only at e2 e4
                            rw [Tr.parts, partsL, partsL, partsL, List.length_cons]
                            omega
          · cases h
inductive PRes where
  | ok (t : Tr)
  | err (place code : Nat)
def parseS (s : List UInt8) : PRes :=
  if 65536 < s.length then .err 0 3
  else match pO (s.length + 1) s with
    | (none, r) => .err (posn s r) 6
    | (some t, r) => if r = [] then (if lenO t = 0 then .err 0 8 else .ok t) else .err (posn s r) 6
def ParseR (e : Nat → Value) (x : PRes) (v : Value) (sg : Seg) : Prop :=
  (∃ t vs, x = .ok t ∧ v = .tuple #[.agg vs.toArray, .int .i64 0, e 0] ∧ t.Own vs sg) ∨
  ∃ pl c, x = .err pl c ∧ v = .tuple #[.agg (tv 0 0 none 0 0).toArray, .int .i64 (pl : Nat), e c] ∧ sg = []
theorem ReadO.form {s : List UInt8} {v : Value} {sg : Seg} (h : ReadO s v sg) (hs : s.length ≤ 65536) : ∃ k n p m c r b, v = .tuple #[.agg (tv k n p m c).toArray, .int .i64 (posn s r : Nat), .bool b] ∧
    (b = true → ∃ t, t.parts ≤ 4194304 ∧ t.Own (tv k n p m c) sg ∧ parseS s = if lenO t = 0 then .err 0 8 else .ok t) ∧ (b = false → parseS s = .err (posn s r) 6) := by
  rcases h with ⟨t, r, vs, hp, rfl, ho⟩ | ⟨r, hp, rfl, rfl⟩
  · obtain ⟨k, n, p, m, c, rfl⟩ := ho.shape
    have hsuf := pO_suf (s.length + 1) s
    rw [hp] at hsuf
    refine ⟨k, n, p, m, c, r, _, rfl, fun hb => ⟨t, ?_, ho, ?_⟩, fun hb => ?_⟩
    · have := pO_parts _ _ _ _ hp
      omega
    · have hr : r = [] := end_of hsuf (by have := of_decide_eq_true hb; omega)
      unfold parseS
      rw [if_neg (by omega), hp]
      simp only
      rw [if_pos hr]
    · have hr : r ≠ [] := fun e => by
        have := of_decide_eq_false hb
        rw [e, posn_nil] at this
        exact this rfl
      unfold parseS
      rw [if_neg (by omega), hp]
      simp only
      rw [if_neg hr]
  · refine ⟨0, 0, none, 0, 0, r, false, rfl, (fun h => by cases h), fun _ => ?_⟩
    unfold parseS
    rw [if_neg (by omega), hp]

theorem textO_no {t : Tr} (h : goodB t = false) : textO t = [] := by unfold textO; rw [h]; rfl
theorem textO_yes {t : Tr} (h : goodB t = true) : textO t = textT t := by unfold textO; rw [h]; rfl
theorem ParseR.ok {e : Nat → Value} {t : Tr} {v : Value} {sg : Seg} (h : ParseR e (.ok t) v sg) : ∃ k n p m c, v = .tuple #[.agg (tv k n p m c).toArray, .int .i64 0, e 0] ∧ t.Own (tv k n p m c) sg := by
  rcases h with ⟨t', vs, h1, rfl, ho⟩ | ⟨pl, c, h1, _⟩
  · cases h1
    obtain ⟨k, n, p, m, c, rfl⟩ := ho.shape
    exact ⟨k, n, p, m, c, rfl, ho⟩
  · cases h1
theorem ParseR.err {e : Nat → Value} {pl c : Nat} {v : Value} {sg : Seg} (h : ParseR e (.err pl c) v sg) : v = .tuple #[.agg (tv 0 0 none 0 0).toArray, .int .i64 (pl : Nat), e c] ∧ sg = [] := by
  rcases h with ⟨t', vs, h1, _⟩ | ⟨pl', c', h1, rfl, rfl⟩
  · cases h1
  · cases h1; exact ⟨rfl, rfl⟩
theorem Tr.Is.leaf {F : List Seg} {k n : Int} : (Tr.node k n []).Is F (tv k n none 0 0) := Tr.Own.leaf.in_ (fun _ h => by simp at h)
theorem len_d {n : Int} (h1 : 1 ≤ n) (h2 : n ≤ 64) : len (.node 1 n []) = n := by rw [len.eq_def]; dsimp only; rw [if_pos rfl, if_pos ⟨h1, h2, rfl⟩]
theorem len_f {n : Int} (h1 : 2 ≤ n) (h2 : n ≤ 5) : len (.node 2 n []) = n := by rw [len.eq_def]; dsimp only; rw [if_neg (by decide), if_pos rfl, if_pos ⟨h1, h2, rfl⟩]
theorem len_x {a b : Tr} (ha : 2 ≤ len a) (hb : 2 ≤ len b) (h : len a * len b ≤ 16384) : len (.node 3 0 [a, b]) = len a * len b := by
  rw [len.eq_def]; dsimp only; rw [if_neg (by decide), if_neg (by decide), if_pos rfl, if_pos rfl, if_pos ⟨ha, hb, (mul_le_div hb).2 h⟩]
theorem len_b {n : Int} {a : Tr} (h1 : 2 ≤ n) (h2 : n ≤ 8192) (h : 2 * n - 1 ≤ len a) : len (.node 4 n [a]) = n := by
  rw [len.eq_def]; dsimp only; rw [if_neg (by decide), if_neg (by decide), if_neg (by decide), if_pos rfl, if_pos ⟨h1, h2⟩, if_pos h]
def tLa : Tr := .node 3 0 [.node 2 4 [], .node 1 7 []]
def tLb : Tr := .node 4 11 [.node 3 0 [.node 2 4 [], .node 3 0 [.node 2 4 [], .node 2 2 []]]]
theorem lenO_of {t : Tr} (h1 : t.parts ≤ 4096) (h2 : t.depth ≤ 16) : lenO t = len t := by rw [len_law, lenR, if_pos ⟨h1, h2⟩]
theorem tLa_len : lenO tLa = 28 := by
  rw [lenO_of (by simp [tLa, Tr.parts, partsL]) (by simp [tLa, Tr.depth, depthL])]
  unfold tLa
  rw [len_x (by rw [len_f (by decide) (by decide)]; decide) (by rw [len_d (by decide) (by decide)]; decide) (by rw [len_f (by decide) (by decide), len_d (by decide) (by decide)]; decide), len_f (by decide) (by decide), len_d (by decide) (by decide)]
  rfl
theorem tLb_len : lenO tLb = 11 := by
  rw [lenO_of (by simp [tLb, Tr.parts, partsL]) (by simp [tLb, Tr.depth, depthL])]
  unfold tLb
  have e2 : len (.node 2 2 []) = 2 := len_f (by decide) (by decide)
  have e4 : len (.node 2 4 []) = 4 := len_f (by decide) (by decide)
  have e8 : len (.node 3 0 [.node 2 4 [], .node 2 2 []]) = 8 := by rw [len_x (by rw [e4]; decide) (by rw [e2]; decide) (by rw [e4, e2]; decide), e4, e2]; rfl
  have e32 : len (.node 3 0 [.node 2 4 [], .node 3 0 [.node 2 4 [], .node 2 2 []]]) = 32 := by rw [len_x (by rw [e4]; decide) (by rw [e8]; decide) (by rw [e4, e8]; decide), e4, e8]; rfl
  exact len_b (by decide) (by decide) (by rw [e32]; decide)
theorem it_one {n : Nat} (h : n < 10) : Lib.itoa (n : Int) = [UInt8.ofNat (48 + n)] := by rw [Lib.itoa_nonneg, Lib.decDigits_one h]
theorem tLa_good : goodB tLa = true := decide_eq_true (by rw [tLa_len]; decide)
theorem tLa_text : (⟨(textO tLa).toArray⟩ : ByteArray) = ⟨#[40, 102, 52, 32, 120, 32, 100, 55, 41]⟩ := by
  rw [textO_yes tLa_good]
  unfold tLa
  rw [text_x, text_f, text_d, show (4 : Int) = ((4 : Nat) : Int) from rfl, show (7 : Int) = ((7 : Nat) : Int) from rfl, it_one (by decide), it_one (by decide)]
  rfl
def bLb : List UInt8 := [98, 49, 49, 40, 40, 102, 52, 32, 120, 32, 40, 102, 52, 32, 120, 32, 102, 50, 41, 41, 41]
theorem tLb_read : pO 22 bLb = (some tLb, []) := by rfl
theorem tLb_parse : parseS bLb = .ok tLb := by
  unfold parseS
  rw [if_neg (by decide), show bLb.length + 1 = 22 from rfl, tLb_read]
  show (if ([] : List UInt8) = [] then (if lenO tLb = 0 then PRes.err 0 8 else .ok tLb) else _) = _
  rw [if_pos rfl, if_neg (by rw [tLb_len]; decide)]
theorem tLa_parts : tLa.parts = 3 := by simp [tLa, Tr.parts, partsL]
theorem tLb_parts : tLb.parts ≤ 4194304 := by simp [tLb, Tr.parts, partsL]
def errV2 (E : Nat → Value) (n : Nat) : Value := if n = 0 then .nilIface else E n
structure E368 (F : List Seg) (E : Nat → Value) : Prop where
  t3 : GErr F 2 (E 3)
  t6 : GErr F 0 (E 6)
  t8 : GErr F 1 (E 8)
theorem E368.cons {F : List Seg} {s : Seg} {E : Nat → Value} (h : E368 F E) : E368 (s :: F) E := ⟨h.t3.cons, h.t6.cons, h.t8.cons⟩
theorem parse_order {s : List UInt8} {t : Tr} (h : parseS s = if lenO t = 0 then .err 0 8 else .ok t) (b : Bool) (hb : goodB t = b) : parseS s = if b then .ok t else .err 0 8 := by
  rw [h, ← hb]
  unfold goodB
  by_cases h0 : lenO t = 0
  · rw [if_pos h0, decide_eq_false (fun h => h h0)]; rfl
  · rw [if_neg h0, decide_eq_true h0]; rfl

theorem Text_b {w0 w : World} {F : List Seg} (H : Hp w0 w F) {t : Tr} {vs : List Value} (ht : t.Is F vs) (hp : t.parts ≤ 4194304) {E : Nat → Value} (g8 : GErr F 1 (E 8)) (hg : GTab F) : Ret Tryd.prog 16 [.agg vs.toArray] w fun v w' => v = .tuple #[.string ⟨(textO t).toArray⟩, e8 E (goodB t)] ∧ Hp w0 w' F := by
  refine Calls.of_J (n := 13) Tryd.func16 rfl rfl rfl ?_
  refine J.seq ?_
  obtain ⟨k, n, p, m, c, rfl⟩ := ht.shape
  refine J.region ?_
  refine JL.does trivial (EX.box (v := Value.agg _) H rfl rfl) ?_
  rintro _ w ⟨b1, rfl, H⟩
  refine JL.go trivial (RX.assign) ?_
  refine JL.go trivial (RX.assign) ?_
  refine JL.nil ?_
  refine J.seq ?_
  refine J.seq ?_
  refine J.region ?_
  refine JL.go trivial (RX.loadAgg H rfl (i := 0) (vs := tv k n p m c) rfl rfl ag25) ?_
  refine JL.does trivial (EX.call rfl cl17 rfl ((Check_b H ht.cons hp g8.cons))) ?_
  rintro _ w ⟨rfl, H⟩
  refine JL.go trivial (RX.assignv (v := e8 E (goodB t)) rfl) ?_
  refine JL.nil ?_
  refine J.seq ?_
  refine J.region ?_
  refine JL.go trivial (RX.movev (v := e8 E (goodB t)) rfl) ?_
  refine JL.go trivial (RX.ifnil_neq (v := e8 E (goodB t)) rfl rfl (e8_ie g8 _).1 if27) ?_
  refine JL.nil ?_
  refine J.cond rfl (fun hne => ?_) (fun hne => ?_)
  · skip
    have hgd : goodB t = false := by simpa [(e8_ie g8 (goodB t)).2] using hne
    refine J.seq ?_
    refine J.region ?_
    refine JL.go trivial (RX.movev (v := e8 E (goodB t)) rfl) ?_
    refine JL.go trivial (RX.assign) ?_
    refine JL.go trivial (RX.assignv (v := e8 E (goodB t)) rfl) ?_
    refine JL.nil ?_
    refine J.ret2 (v := Value.string _) Tryd.func16 rfl rfl rfl ?_
    exact ⟨_, rfl, by rw [textO_no hgd]; rfl, H.drop⟩
  · skip
    have hgd : goodB t = true := by simpa [(e8_ie g8 (goodB t)).2] using hne
    have hlg := lenO_good (goodB_yes hgd)
    refine J.skip ?_
    refine J.seq ?_
    refine J.region ?_
    refine JL.go trivial (RX.loadAgg H rfl (i := 0) (vs := tv k n p m c) rfl rfl ag25) ?_
    refine JL.does trivial (EX.call rfl cl39 rfl ((text_all t hlg.1 hp _ _ _ _ none 0 0 [] [] (by omega) H.nil OwnZ.nil ht.cons hg.cons))) ?_
    rintro _ w ⟨p1, c1, s1, rfl, ho, H⟩
    rw [Nat.zero_add, List.nil_append] at ho
    rw [Nat.zero_add]
    refine JL.go trivial (RX.b2s (l := textT t) H rfl ho.slAt sl64 ud5 ud9) ?_
    refine JL.go trivial (RX.assignv (v := Value.string _) rfl) ?_
    refine JL.go trivial (RX.assignv (v := Value.nilIface) rfl) ?_
    refine JL.nil ?_
    refine J.ret2 (v := Value.string _) Tryd.func16 rfl rfl rfl ?_
    exact ⟨_, rfl, by rw [textO_yes hgd, hgd]; rfl, H.drop.drop⟩
theorem Parse_b {w0 w : World} {F : List Seg} (H : Hp w0 w F) {E : Nat → Value} (hE : E368 F E) {s : List UInt8} (hs : s.length ≤ 9223372036854775807) : Ret Tryd.prog 10 [.string ⟨s.toArray⟩] w fun v w' => ∃ sg, ParseR (errV2 E) (parseS s) v sg ∧ Hp w0 w' (sg :: F) := by
  refine Calls.of_J (n := 32) Tryd.func10 rfl rfl rfl ?_
  refine J.seq ?_
  refine J.region ?_
  refine JL.does trivial (EX.alloc H zr25 rfl) ?_
  rintro _ w ⟨b2, rfl, H⟩
  refine JL.go trivial (RX.assign) ?_
  refine JL.go trivial (RX.assignv (v := Value.nilIface) rfl) ?_
  refine JL.nil ?_
  refine J.seq ?_
  refine J.seq ?_
  refine J.region ?_
  refine JL.go trivial (RX.movev (v := Value.string _) rfl) ?_
  refine JL.go trivial (RX.len_string rfl ud9 (r := (s.length : Int)) (by rw [b_size])) ?_
  refine JL.go trivial (RX.gt rfl rfl) ?_
  refine JL.nil ?_
  refine J.cond_d rfl (fun hbig => ?_) (fun hbig => ?_)
  · skip
    have hps : parseS s = .err 0 3 := by unfold parseS; rw [if_pos (by omega)]
    refine J.seq ?_
    refine J.any hmix fun w hs => ?_
    replace H := H.same hs; clear hs
    refine JA.take 0 (listed' := [true, false, false, false, false]) rfl (by kernel_rfl) (by kernel_rfl) (by kernel_rfl) rfl trivial (fun w => RX.build (pv := []) (res := tv 0 0 none 0 0) rfl (by kernel_rfl)) ?_
    refine JA.all [1, 2] (by kernel_rfl) (by decide) ?_
    refine ⟨?_, ?_⟩
    · skip
      refine JO.go (listed' := [true, true, false, false, false]) rfl rfl trivial (RX.loadG H rfl hE.t3.at_.cons one27) ?_
      refine JA.all [2] (by kernel_rfl) (by decide) ?_
      refine JO.does (listed' := [true, true, true, false, false]) rfl rfl trivial (EX.storeAgg H rfl rfl (i := 0) (vs := tv 0 0 none 0 0) (l' := tv 0 0 none 0 0) rfl tv_cell (by simp) sz25 rfl rfl) ?_
      rintro _ w H
      refine JA.take 3 (listed' := [true, true, true, true, false]) rfl (by kernel_rfl) (by kernel_rfl) (by kernel_rfl) rfl trivial (fun w => RX.assign) ?_
      refine JA.take 4 (listed' := [true, true, true, true, true]) rfl (by kernel_rfl) (by kernel_rfl) (by kernel_rfl) rfl trivial (fun w => RX.assignv (v := E 3) rfl) ?_
      refine JA.done (by kernel_rfl) ?_
      first
      | refine J.retctt (x := Value.int _ _) Tryd.func10 rfl H rfl (i := 0) (vs := tv 0 0 none 0 0) rfl rfl ag25 rfl rfl ?_
      | refine J.retctt (x := Value.int _ _) Tryd.func10 rfl H rfl (i := 2) (vs := tv 0 0 none 0 0) rfl rfl ag25 rfl rfl ?_
      | refine J.retctt (x := Value.int _ _) Tryd.func10 rfl H rfl (i := 2) (vs := tv k n p m c) rfl rfl ag25 rfl rfl ?_
      first
      | exact ⟨_, rfl, [], .inr ⟨0, 3, hps, rfl, rfl⟩, (H.drop).nil⟩
      | exact ⟨_, rfl, [], .inr ⟨posn s r, 6, hps, rfl, rfl⟩, (H.drop.drop.drop).nil⟩
      | (rw [hgd]; exact ⟨_, rfl, [], .inr ⟨0, 8, hps, rfl, rfl⟩, (H.drop.drop.drop).nil⟩)
      | exact ⟨_, rfl, sg, .inl ⟨t, _, hps, rfl, ho⟩, (H.drop.pull 1 rfl).drop⟩
    · skip
      refine JO.does (listed' := [true, false, true, false, false]) rfl rfl trivial (EX.storeAgg H rfl rfl (i := 0) (vs := tv 0 0 none 0 0) (l' := tv 0 0 none 0 0) rfl tv_cell (by simp) sz25 rfl rfl) ?_
      rintro _ w H
      refine JA.take 3 (listed' := [true, false, true, true, false]) rfl (by kernel_rfl) (by kernel_rfl) (by kernel_rfl) rfl trivial (fun w => RX.assign) ?_
      refine JA.all [1] (by kernel_rfl) (by decide) ?_
      refine JO.go (listed' := [true, true, true, true, false]) rfl rfl trivial (RX.loadG H rfl hE.t3.at_.cons one27) ?_
      refine JA.take 4 (listed' := [true, true, true, true, true]) rfl (by kernel_rfl) (by kernel_rfl) (by kernel_rfl) rfl trivial (fun w => RX.assignv (v := E 3) rfl) ?_
      refine JA.done (by kernel_rfl) ?_
      first
      | refine J.retctt (x := Value.int _ _) Tryd.func10 rfl H rfl (i := 0) (vs := tv 0 0 none 0 0) rfl rfl ag25 rfl rfl ?_
      | refine J.retctt (x := Value.int _ _) Tryd.func10 rfl H rfl (i := 2) (vs := tv 0 0 none 0 0) rfl rfl ag25 rfl rfl ?_
      | refine J.retctt (x := Value.int _ _) Tryd.func10 rfl H rfl (i := 2) (vs := tv k n p m c) rfl rfl ag25 rfl rfl ?_
      first
      | exact ⟨_, rfl, [], .inr ⟨0, 3, hps, rfl, rfl⟩, (H.drop).nil⟩
      | exact ⟨_, rfl, [], .inr ⟨posn s r, 6, hps, rfl, rfl⟩, (H.drop.drop.drop).nil⟩
      | (rw [hgd]; exact ⟨_, rfl, [], .inr ⟨0, 8, hps, rfl, rfl⟩, (H.drop.drop.drop).nil⟩)
      | exact ⟨_, rfl, sg, .inl ⟨t, _, hps, rfl, ho⟩, (H.drop.pull 1 rfl).drop⟩
  · skip
    refine J.skip ?_
    refine J.seq ?_
    refine J.region ?_
    refine JL.go trivial (RX.movev (v := Value.string _) rfl) ?_
    refine JL.does trivial (EX.call rfl cl33 rfl ((read_b H (by omega)))) ?_
    rintro _ w ⟨sg, hro, H⟩
    obtain ⟨k, n, p, m, c, r, b, rfl, hyes, hno⟩ := hro.form (by omega)
    refine JL.go trivial (RX.movev (v := Value.tuple _) rfl) ?_
    refine JL.go trivial (RX.extract (v := .agg (tv k n p m c).toArray) rfl rfl) ?_
    refine JL.go trivial (RX.extract (v := .int .i64 (posn s r : Nat)) rfl rfl) ?_
    refine JL.go trivial (RX.extract (v := .bool b) rfl rfl) ?_
    refine JL.does trivial (EX.alloc H zr25 rfl) ?_
    rintro _ w ⟨b5, rfl, H⟩
    refine JL.does trivial (EX.storeAgg H rfl rfl (i := 0) (vs := tv k n p m c) (l' := tv k n p m c) rfl tv_cell (by simp) sz25 rfl rfl) ?_
    rintro _ w H
    refine JL.go trivial (RX.assignv (v := Value.int _ _) rfl) ?_
    refine JL.go trivial (RX.assignv (v := Value.bool _) rfl) ?_
    refine JL.nil ?_
    refine J.seq ?_
    refine J.seq ?_
    refine J.region ?_
    refine JL.go trivial (RX.movev (v := Value.bool _) rfl) ?_
    refine JL.go trivial (RX.not rfl) ?_
    refine JL.nil ?_
    refine J.cond rfl (fun hnb => ?_) (fun hnb => ?_)
    · skip
      have hps := hno (by simpa using hnb)
      refine J.seq ?_
      refine J.any hmix fun w hs => ?_
      replace H := H.same hs; clear hs
      refine JA.take 0 (listed' := [true, false, false, false, false, false]) rfl (by kernel_rfl) (by kernel_rfl) (by kernel_rfl) rfl trivial (fun w => RX.build (pv := []) (res := tv 0 0 none 0 0) rfl (by kernel_rfl)) ?_
      refine JA.take 1 (listed' := [true, true, false, false, false, false]) rfl (by kernel_rfl) (by kernel_rfl) (by kernel_rfl) rfl trivial (fun w => RX.movev (v := Value.int _ _) rfl) ?_
      refine JA.all [2, 3] (by kernel_rfl) (by decide) ?_
      refine ⟨?_, ?_⟩
      · skip
        refine JO.go (listed' := [true, true, true, false, false, false]) rfl rfl trivial (RX.loadG H rfl hE.t6.at_.cons.cons.cons one27) ?_
        refine JA.all [3] (by kernel_rfl) (by decide) ?_
        refine JO.does (listed' := [true, true, true, true, false, false]) rfl rfl trivial (EX.storeAgg H rfl rfl (i := 2) (vs := tv 0 0 none 0 0) (l' := tv 0 0 none 0 0) rfl tv_cell (by simp) sz25 rfl rfl) ?_
        rintro _ w H
        refine JA.take 4 (listed' := [true, true, true, true, true, false]) rfl (by kernel_rfl) (by kernel_rfl) (by kernel_rfl) rfl trivial (fun w => RX.assignv (v := Value.int _ _) rfl) ?_
        refine JA.take 5 (listed' := [true, true, true, true, true, true]) rfl (by kernel_rfl) (by kernel_rfl) (by kernel_rfl) rfl trivial (fun w => RX.assignv (v := E 6) rfl) ?_
        refine JA.done (by kernel_rfl) ?_
        first
        | refine J.retctt (x := Value.int _ _) Tryd.func10 rfl H rfl (i := 0) (vs := tv 0 0 none 0 0) rfl rfl ag25 rfl rfl ?_
        | refine J.retctt (x := Value.int _ _) Tryd.func10 rfl H rfl (i := 2) (vs := tv 0 0 none 0 0) rfl rfl ag25 rfl rfl ?_
        | refine J.retctt (x := Value.int _ _) Tryd.func10 rfl H rfl (i := 2) (vs := tv k n p m c) rfl rfl ag25 rfl rfl ?_
        first
        | exact ⟨_, rfl, [], .inr ⟨0, 3, hps, rfl, rfl⟩, (H.drop).nil⟩
        | exact ⟨_, rfl, [], .inr ⟨posn s r, 6, hps, rfl, rfl⟩, (H.drop.drop.drop).nil⟩
        | (rw [hgd]; exact ⟨_, rfl, [], .inr ⟨0, 8, hps, rfl, rfl⟩, (H.drop.drop.drop).nil⟩)
        | exact ⟨_, rfl, sg, .inl ⟨t, _, hps, rfl, ho⟩, (H.drop.pull 1 rfl).drop⟩
      · skip
        refine JO.does (listed' := [true, true, false, true, false, false]) rfl rfl trivial (EX.storeAgg H rfl rfl (i := 2) (vs := tv 0 0 none 0 0) (l' := tv 0 0 none 0 0) rfl tv_cell (by simp) sz25 rfl rfl) ?_
        rintro _ w H
        refine JA.take 4 (listed' := [true, true, false, true, true, false]) rfl (by kernel_rfl) (by kernel_rfl) (by kernel_rfl) rfl trivial (fun w => RX.assignv (v := Value.int _ _) rfl) ?_
        refine JA.all [2] (by kernel_rfl) (by decide) ?_
        refine JO.go (listed' := [true, true, true, true, true, false]) rfl rfl trivial (RX.loadG H rfl hE.t6.at_.cons.cons.cons one27) ?_
        refine JA.take 5 (listed' := [true, true, true, true, true, true]) rfl (by kernel_rfl) (by kernel_rfl) (by kernel_rfl) rfl trivial (fun w => RX.assignv (v := E 6) rfl) ?_
        refine JA.done (by kernel_rfl) ?_
        first
        | refine J.retctt (x := Value.int _ _) Tryd.func10 rfl H rfl (i := 0) (vs := tv 0 0 none 0 0) rfl rfl ag25 rfl rfl ?_
        | refine J.retctt (x := Value.int _ _) Tryd.func10 rfl H rfl (i := 2) (vs := tv 0 0 none 0 0) rfl rfl ag25 rfl rfl ?_
        | refine J.retctt (x := Value.int _ _) Tryd.func10 rfl H rfl (i := 2) (vs := tv k n p m c) rfl rfl ag25 rfl rfl ?_
        first
        | exact ⟨_, rfl, [], .inr ⟨0, 3, hps, rfl, rfl⟩, (H.drop).nil⟩
        | exact ⟨_, rfl, [], .inr ⟨posn s r, 6, hps, rfl, rfl⟩, (H.drop.drop.drop).nil⟩
        | (rw [hgd]; exact ⟨_, rfl, [], .inr ⟨0, 8, hps, rfl, rfl⟩, (H.drop.drop.drop).nil⟩)
        | exact ⟨_, rfl, sg, .inl ⟨t, _, hps, rfl, ho⟩, (H.drop.pull 1 rfl).drop⟩
    · skip
      obtain ⟨t, htp, ho, hps⟩ := hyes (by simpa using hnb)
      refine J.skip ?_
      refine J.seq ?_
      refine J.seq ?_
      refine J.region ?_
      refine JL.go trivial (RX.loadAgg H rfl (i := 0) (vs := tv k n p m c) rfl rfl ag25) ?_
      refine JL.does trivial (EX.call rfl cl17 rfl ((Check_b H (Tr.Is.cons ho.is) htp hE.t8.cons.cons.cons))) ?_
      rintro _ w ⟨rfl, H⟩
      refine JL.go trivial (RX.assignv (v := e8 E (goodB t)) rfl) ?_
      refine JL.nil ?_
      refine J.seq ?_
      refine J.region ?_
      refine JL.go trivial (RX.movev (v := e8 E (goodB t)) rfl) ?_
      refine JL.go trivial (RX.ifnil_neq (v := e8 E (goodB t)) rfl rfl (e8_ie hE.t8 _).1 if27) ?_
      refine JL.nil ?_
      refine J.cond rfl (fun hne => ?_) (fun hne => ?_)
      · skip
        have hgd : goodB t = false := by simpa [(e8_ie hE.t8 (goodB t)).2] using hne
        replace hps := parse_order hps _ hgd
        refine J.seq ?_
        refine J.region ?_
        refine JL.go trivial (RX.build (pv := []) (res := tv 0 0 none 0 0) rfl (by kernel_rfl)) ?_
        refine JL.go trivial (RX.movev (v := e8 E (goodB t)) rfl) ?_
        refine JL.does trivial (EX.storeAgg H rfl rfl (i := 2) (vs := tv 0 0 none 0 0) (l' := tv 0 0 none 0 0) rfl tv_cell (by simp) sz25 rfl rfl) ?_
        rintro _ w H
        refine JL.go trivial (RX.assign) ?_
        refine JL.go trivial (RX.assignv (v := e8 E (goodB t)) rfl) ?_
        refine JL.nil ?_
        first
        | refine J.retctt (x := Value.int _ _) Tryd.func10 rfl H rfl (i := 0) (vs := tv 0 0 none 0 0) rfl rfl ag25 rfl rfl ?_
        | refine J.retctt (x := Value.int _ _) Tryd.func10 rfl H rfl (i := 2) (vs := tv 0 0 none 0 0) rfl rfl ag25 rfl rfl ?_
        | refine J.retctt (x := Value.int _ _) Tryd.func10 rfl H rfl (i := 2) (vs := tv k n p m c) rfl rfl ag25 rfl rfl ?_
        first
        | exact ⟨_, rfl, [], .inr ⟨0, 3, hps, rfl, rfl⟩, (H.drop).nil⟩
        | exact ⟨_, rfl, [], .inr ⟨posn s r, 6, hps, rfl, rfl⟩, (H.drop.drop.drop).nil⟩
        | (rw [hgd]; exact ⟨_, rfl, [], .inr ⟨0, 8, hps, rfl, rfl⟩, (H.drop.drop.drop).nil⟩)
        | exact ⟨_, rfl, sg, .inl ⟨t, _, hps, rfl, ho⟩, (H.drop.pull 1 rfl).drop⟩
      · skip
        have hgd : goodB t = true := by simpa [(e8_ie hE.t8 (goodB t)).2] using hne
        replace hps := parse_order hps _ hgd
        refine J.skip ?_
        refine J.seq ?_
        refine J.region ?_
        refine JL.go trivial (RX.loadAgg H rfl (i := 0) (vs := tv k n p m c) rfl rfl ag25) ?_
        refine JL.does trivial (EX.storeAgg H rfl rfl (i := 2) (vs := tv k n p m c) (l' := tv k n p m c) rfl tv_cell (by simp) sz25 rfl rfl) ?_
        rintro _ w H
        refine JL.go trivial (RX.assign) ?_
        refine JL.go trivial (RX.assignv (v := Value.nilIface) rfl) ?_
        refine JL.nil ?_
        first
        | refine J.retctt (x := Value.int _ _) Tryd.func10 rfl H rfl (i := 0) (vs := tv 0 0 none 0 0) rfl rfl ag25 rfl rfl ?_
        | refine J.retctt (x := Value.int _ _) Tryd.func10 rfl H rfl (i := 2) (vs := tv 0 0 none 0 0) rfl rfl ag25 rfl rfl ?_
        | refine J.retctt (x := Value.int _ _) Tryd.func10 rfl H rfl (i := 2) (vs := tv k n p m c) rfl rfl ag25 rfl rfl ?_
        first
        | exact ⟨_, rfl, [], .inr ⟨0, 3, hps, rfl, rfl⟩, (H.drop).nil⟩
        | exact ⟨_, rfl, [], .inr ⟨posn s r, 6, hps, rfl, rfl⟩, (H.drop.drop.drop).nil⟩
        | (rw [hgd]; exact ⟨_, rfl, [], .inr ⟨0, 8, hps, rfl, rfl⟩, (H.drop.drop.drop).nil⟩)
        | exact ⟨_, rfl, sg, .inl ⟨t, _, hps, rfl, ho⟩, (H.drop.pull 1 rfl).drop⟩
theorem lives_b {w0 w : World} {F : List Seg} (H : Hp w0 w F) {E : Nat → Value} (hE : E368 F E) (hg : GTab F) : Ret Tryd.prog 9 [] w fun v w' => v = .bool true ∧ Hp w0 w' F := by
  refine Calls.of_J (n := 33) Tryd.func9 rfl rfl rfl ?_
  refine J.seq ?_
  refine J.region ?_
  refine JL.go trivial (RX.assign) ?_
  refine JL.nil ?_
  refine J.seq ?_
  refine J.region ?_
  refine JL.does trivial (EX.call rfl cl31 rfl ((Fly_b H))) ?_
  rintro _ w ⟨rfl, H⟩
  refine JL.does trivial (EX.call rfl cl32 rfl ((Direct_b H))) ?_
  rintro _ w ⟨rfl, H⟩
  refine JL.does trivial (EX.call rfl cl21 rfl ((Times_b H Tr.Is.leaf Tr.Is.leaf (by simp [Tr.parts, partsL]) (by simp [Tr.parts, partsL])))) ?_
  rintro _ w ⟨va, sa, rfl, hoa, H⟩
  replace hoa : tLa.Own va sa := hoa
  refine JL.does trivial (EX.call rfl cl16 rfl ((Text_b H hoa.is (by rw [tLa_parts]; decide) hE.t8.cons hg.cons))) ?_
  rintro _ w ⟨rfl, H⟩
  refine JL.go trivial (RX.movev (v := Value.tuple _) rfl) ?_
  refine JL.go trivial (RX.extract (v := .string ⟨(textO tLa).toArray⟩) rfl rfl) ?_
  refine JL.go trivial (RX.extract (v := e8 E (goodB tLa)) rfl rfl) ?_
  refine JL.go trivial (RX.assignv (v := Value.string _) rfl) ?_
  refine JL.go trivial (RX.assignv (v := e8 E (goodB tLa)) rfl) ?_
  refine JL.nil ?_
  refine J.seq ?_
  refine J.region ?_
  refine JL.does trivial (EX.call rfl cl10 rfl ((Parse_b H hE.cons (s := bLb) (by decide)))) ?_
  rintro _ w ⟨sg, hpr, H⟩
  rw [tLb_parse] at hpr
  obtain ⟨k, n, p, m, c, rfl, hob⟩ := hpr.ok
  refine JL.go trivial (RX.movev (v := Value.tuple _) rfl) ?_
  refine JL.go trivial (RX.extract (v := .agg (tv k n p m c).toArray) rfl rfl) ?_
  refine JL.go trivial (RX.extract (v := .int .i64 0) rfl rfl) ?_
  refine JL.go trivial (RX.extract (v := Value.nilIface) rfl rfl) ?_
  refine JL.does trivial (EX.alloc H zr25 rfl) ?_
  rintro _ w ⟨b3, rfl, H⟩
  refine JL.does trivial (EX.storeAgg H rfl rfl (i := 0) (vs := tv k n p m c) (l' := tv k n p m c) rfl tv_cell (by simp) sz25 rfl rfl) ?_
  rintro _ w H
  refine JL.go trivial (RX.assignv (v := Value.int _ _) rfl) ?_
  refine JL.go trivial (RX.assignv (v := Value.nilIface) rfl) ?_
  refine JL.nil ?_
  refine J.seq ?_
  refine J.region ?_
  refine JL.go trivial (RX.movev (v := Value.string _) rfl) ?_
  refine JL.go trivial (RX.str_eql rfl rfl) ?_
  refine JL.go trivial (RX.movev (v := Value.bool _) rfl) ?_
  refine JL.go ⟨_, rfl, (decide_eq_true tLa_text)⟩ (RX.movev (v := e8 E (goodB tLa)) rfl) ?_
  refine JL.go ⟨_, rfl, (decide_eq_true tLa_text)⟩ (RX.ifnil_eql (v := e8 E (goodB tLa)) rfl rfl (e8_ie hE.t8 _).1 if27) ?_
  refine JL.go trivial (RX.pick_t rfl (decide_eq_true tLa_text)) ?_
  refine JL.go trivial (RX.movev (v := Value.bool _) rfl) ?_
  refine JL.go ⟨_, rfl, (by rw [(e8_ie hE.t8 _).2]; exact tLa_good)⟩ (RX.movev (v := Value.nilIface) rfl) ?_
  refine JL.go ⟨_, rfl, (by rw [(e8_ie hE.t8 _).2]; exact tLa_good)⟩ (RX.ifnil_eql (v := Value.nilIface) rfl rfl rfl if27) ?_
  refine JL.go trivial (RX.pick_t rfl (by rw [(e8_ie hE.t8 _).2]; exact tLa_good)) ?_
  refine JL.go trivial (RX.movev (v := Value.bool _) rfl) ?_
  refine JL.go ⟨_, rfl, rfl⟩ (RX.loadAgg H rfl (i := 0) (vs := tv k n p m c) rfl rfl ag25) ?_
  refine JL.does ⟨_, rfl, rfl⟩ (EX.call rfl cl18 rfl ((Length_b H (Tr.Is.cons hob.is) tLb_parts))) ?_
  rintro _ w ⟨rfl, H⟩
  refine JL.go ⟨_, rfl, rfl⟩ (RX.eq rfl rfl) ?_
  refine JL.go trivial (RX.pick_t rfl rfl) ?_
  refine JL.go trivial (RX.assignv (v := Value.bool _) rfl) ?_
  refine JL.nil ?_
  refine J.ret1 (v := Value.bool _) Tryd.func9 rfl rfl ?_
  exact ⟨_, rfl, congrArg Value.bool (decide_eq_true tLb_len), H.drop.drop.drop⟩
end Go.Proofs.YtinbeaaloailnaaDoor

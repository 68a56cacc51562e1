/- Parts of trees counted; trees compared. -/
import Derived.Test.YtinbeaaloailnaaDoorPw
namespace Go.Proofs.YtinbeaaloailnaaDoor
open Go Go.Eng
set_option maxRecDepth 100000
set_option linter.unusedVariables false
set_option linter.unusedSimpArgs false
theorem cl12 : callable Tryd.prog 12 = true := by kernel_rfl
theorem cl19 : callable Tryd.prog 19 = true := by kernel_rfl
theorem cl38 : callable Tryd.prog 38 = true := by kernel_rfl

mutual
def Tr.wide : Tr → Prop
  | .node _ _ ks => ks.length ≤ 9223372036854775807 ∧ wideL ks
def wideL : List Tr → Prop
  | [] => True
  | t :: ts => t.wide ∧ wideL ts
end
theorem wideL_get : ∀ {ks : List Tr} {i : Nat} {t : Tr}, wideL ks → ks[i]? = some t → t.wide
  | [], _, _, _, h => by simp at h
  | x :: ks, 0, t, hw, h => by
    have : x = t := by simpa using h
    subst this
    rw [wideL] at hw; exact hw.1
  | x :: ks, i + 1, t, hw, h => by
    rw [wideL] at hw
    exact wideL_get (ks := ks) (i := i) hw.2 (by simpa using h)
theorem wide_len {k n : Int} {ks : List Tr} (h : (Tr.node k n ks).wide) : ks.length ≤ 9223372036854775807 ∧ wideL ks := by rw [Tr.wide] at h; exact h
theorem wide_small : ∀ (m : Nat) (t : Tr), t.parts ≤ m → t.parts ≤ 4194304 → t.wide
  | 0, t, h, _ => by have := parts_pos t; omega
  | m + 1, t, h, hs => by
    obtain ⟨k, n, ks⟩ := t
    rw [Tr.parts] at h hs
    rw [Tr.wide]
    have := partsL_len ks
    refine ⟨by omega, ?_⟩
    have : ∀ l : List Tr, partsL l ≤ m → partsL l ≤ 4194304 → wideL l := by
      intro l
      induction l with
      | nil => intro _ _; rw [wideL]; trivial
      | cons x l ihl =>
        intro hl hl2
        rw [partsL] at hl hl2
        rw [wideL]
        exact ⟨wide_small m x (by omega) (by omega), ihl (by omega) (by omega)⟩
    exact this ks (by omega) (by omega)
def PartC (t : Tr) : Prop := t.wide → ∀ (w0 w : World) (F : List Seg) (vs : List Value) (m : Nat), m ≤ 1099511627776 → Hp w0 w F → t.Is F vs →
  Ret Tryd.prog 38 [.agg vs.toArray, .int .i64 (m : Nat)] w fun v w' => v = .int .i64 (min t.parts (m + 1) : Nat) ∧ Hp w0 w' F
def SameC (fn : Nat) (a : Tr) : Prop := a.wide → ∀ (b : Tr) (w0 w : World) (F : List Seg) (vs us : List Value), b.wide → Hp w0 w F → a.Is F vs → b.Is F us →
  Ret Tryd.prog fn [.agg vs.toArray, .agg us.toArray] w fun v w' => v = .bool (a.same b) ∧ Hp w0 w' F
theorem sameL_take {ks us : List Tr} (hl : ks.length = us.length) : ∀ {i : Nat}, sameL (ks.take i) (us.take i) = false → sameL ks us = false := by
  intro i h
  by_cases e : sameL ks us = true
  · have := (sameL_eq ks us).1 e
    subst this
    rw [(sameL_eq _ _).2 rfl] at h
    cases h
  · simpa using e
theorem sameL_step {ks us : List Tr} {i : Nat} {a b : Tr} (ha : ks[i]? = some a) (hb : us[i]? = some b) (h : ks.take i = us.take i) : (a.same b = true → ks.take (i + 1) = us.take (i + 1)) ∧ (a.same b = false → ks ≠ us) := by
  refine ⟨fun e => ?_, fun e he => ?_⟩
  · rw [take_get ha, take_get hb, h, (Tr.same_eq a b).1 e]
  · subst he
    rw [ha] at hb
    cases hb
    rw [(Tr.same_eq a a).2 rfl] at e
    cases e
theorem same_yes {k n : Int} {ks us : List Tr} (h : ks = us) : (Tr.node k n ks).same (.node k n us) = true := by rw [Tr.same_eq, h]
theorem same_no {k n k' n' : Int} {ks us : List Tr} (h : ¬ (k = k' ∧ n = n' ∧ ks = us)) : (Tr.node k n ks).same (.node k' n' us) = false := by
  cases e : (Tr.node k n ks).same (.node k' n' us) with
  | false => rfl
  | true =>
    have := (Tr.same_eq _ _).1 e
    injection this with h1 h2 h3
    exact absurd ⟨h1, h2, h3⟩ h
theorem parts_now {k n : Int} {ks : List Tr} {i m z : Nat} (hz : z = min (1 + partsT ks i) (m + 1)) (hm : m < z) : z = min (Tr.node k n ks).parts (m + 1) := by
  have := partsT_le ks i
  rw [Tr.parts]; omega

theorem parts_step {k n : Int} {ks : List Tr} (ih : ∀ t, t.parts < (Tr.node k n ks).parts → PartC t) (hw : (Tr.node k n ks).wide) {w0 w : World} {F : List Seg} {p : Option Addr} {c m : Nat} {xs : List Value} (hm : m ≤ 1099511627776) (H : Hp w0 w F) (hs : SlAt F p xs) (hk : KidsIs F ks xs) : Ret Tryd.prog 38 [.agg (tv k n p ks.length c).toArray, .int .i64 (m : Nat)] w fun v w' => v = .int .i64 (min (Tr.node k n ks).parts (m + 1) : Nat) ∧ Hp w0 w' F := by
  refine Calls.of_J (n := 28) Tryd.func38 rfl rfl rfl ?_
  refine J.seq ?_
  obtain ⟨hwl, hwk⟩ := wide_len hw
  refine J.region ?_
  refine JL.does trivial (EX.box (v := Value.agg _) H rfl rfl) ?_
  rintro _ w ⟨b2, rfl, H⟩
  refine JL.go trivial (RX.assign) ?_
  refine JL.nil ?_
  refine J.seq ?_
  refine J.region ?_
  refine JL.go trivial (RX.assign) ?_
  refine JL.nil ?_
  refine J.seq ?_
  refine J.seq ?_
  refine J.region ?_
  refine JL.go trivial (RX.fieldAddr rfl fo25_2 rfl) ?_
  refine JL.go trivial (RX.load H rfl (i := 0) (v := .slice p ks.length c) rfl rfl one23) ?_
  refine JL.go trivial (RX.len_slice rfl (by rw [sl23]; rfl) rfl) ?_
  refine JL.go trivial (RX.move) ?_
  refine JL.nil ?_
  refine J.block ?_
  refine J.loop (ι := Nat × Nat) (S := fun z => [(5, .int .i64 (z.2 : Nat)), (11, .int .i64 (z.1 : Nat))]) (Φ := fun z w => z.1 ≤ ks.length ∧ z.2 = min (1 + partsT ks z.1) (m + 1) ∧ Hp w0 w ([(b2, cel (tv k n p ks.length c) 25)] :: F)) (μ := fun z => ks.length - z.1) (C := [(1, _), (9, _), (10, _)]) (0, 1) ⟨rfl, rfl, rfl, trivial⟩ ⟨rfl, rfl, trivial⟩ ?_ ?_
  · exact ⟨by simp, by simp [partsT, partsL], H⟩
  clear H
  rintro ⟨i, z⟩ ρ w ⟨hi, hz, H⟩ IH
  simp only at hi hz H
  dsimp only
  refine J.seq ?_
  refine J.region ?_
  refine JL.go trivial (RX.lt rfl rfl) ?_
  refine JL.nil ?_
  refine J.seq ?_
  refine J.cond_d rfl (fun hlt => ?_) (fun hlt => ?_)
  · skip
    obtain ⟨t1, ht1⟩ : ∃ t1, ks[i]? = some t1 := ⟨_, List.getElem?_eq_getElem (by omega)⟩
    obtain ⟨a1, ha1, hi1⟩ := hk.get ht1
    obtain ⟨k1, n1, p1, m1, c1, rfl⟩ := hi1.shape
    have hxl := hk.len
    obtain ⟨pb, po, rfl⟩ := spot_some hs (by omega)
    have hps := partsT_succ ht1
    refine J.skip ?_
    refine J.seq ?_
    refine J.block ?_
    refine J.seq ?_
    refine J.region ?_
    refine JL.go trivial (RX.indexAddr rfl rfl sl23 (by omega) (by omega) (o' := po + i * 3) (by omega)) ?_
    refine JL.go trivial (RX.loadAggS H hs.cons rfl (j := i * 3) (by omega) (vs := tv k1 n1 p1 m1 c1) ha1 ag25) ?_
    refine JL.does trivial (EX.alloc H zr25 rfl) ?_
    rintro _ w ⟨b7, rfl, H⟩
    refine JL.does trivial (EX.storeAgg H rfl rfl (i := 0) (vs := tv k1 n1 p1 m1 c1) (l' := tv k1 n1 p1 m1 c1) rfl tv_cell (by simp) sz25 rfl rfl) ?_
    rintro _ w H
    refine JL.nil ?_
    refine J.seq ?_
    refine J.seq ?_
    refine J.region ?_
    refine JL.go trivial (RX.movev (v := Value.int _ _) rfl) ?_
    refine JL.go trivial (RX.movev (v := Value.int _ _) rfl) ?_
    refine JL.go trivial (RX.gt rfl rfl) ?_
    refine JL.nil ?_
    refine J.cond_d rfl (fun hgt => ?_) (fun hgt => ?_)
    · skip
      refine J.seq ?_
      refine J.region ?_
      refine JL.go trivial (RX.movev (v := Value.int _ _) rfl) ?_
      refine JL.go trivial (RX.assignv (v := Value.int _ _) rfl) ?_
      refine JL.nil ?_
      refine J.ret1 (v := Value.int _ _) Tryd.func38 rfl rfl ?_
      exact ⟨_, rfl, by rw [← parts_now (k := k) (n := n) hz (by omega)], H.drop.drop⟩
    · skip
      refine J.skip ?_
      refine J.region ?_
      refine JL.go trivial (RX.movev (v := Value.int _ _) rfl) ?_
      refine JL.go trivial (RX.loadAgg H rfl (i := 0) (vs := tv k1 n1 p1 m1 c1) rfl rfl ag25) ?_
      refine JL.go trivial (RX.movev (v := Value.int _ _) rfl) ?_
      refine JL.go trivial (RX.movev (v := Value.int _ _) rfl) ?_
      refine JL.go trivial (RX.sub rfl rfl (w_i64 (r := ((m - z : Nat) : Int)) (by omega) (by omega) (by omega))) ?_
      refine JL.does trivial (EX.call rfl cl38 rfl ((ih t1 (kid_lt ht1) (wideL_get hwk ht1) _ _ _ _ (m - z) (by omega) H hi1.cons.cons))) ?_
      rintro _ w ⟨rfl, H⟩
      refine JL.go trivial (RX.add rfl rfl (w_i64 (r := ((z + min t1.parts (m - z + 1) : Nat) : Int)) (by omega) (by omega) (by omega))) ?_
      refine JL.go trivial (RX.assignv (v := Value.int _ _) rfl) ?_
      refine JL.nil ?_
      refine J.inBlock ?_
      refine J.region ?_
      refine JL.go trivial (RX.add rfl rfl (w_i64 (r := ((i + 1 : Nat) : Int)) (by omega) (by omega) (by omega))) ?_
      refine JL.go trivial (RX.movev (v := Value.int _ _) rfl) ?_
      refine JL.nil ?_
      exact IH (i + 1, z + min t1.parts (m - z + 1)) _ _ (by simp only; omega) ⟨rfl, rfl, rfl, trivial⟩ ⟨rfl, rfl, trivial⟩ ⟨by simp only; omega, by simp only; omega, H.drop⟩
  · skip
    have hil : i = ks.length := by omega
    subst hil
    rw [partsT_full] at hz
    refine J.exit rfl ?_
    refine J.seq ?_
    refine J.region ?_
    refine JL.go trivial (RX.movev (v := Value.int _ _) rfl) ?_
    refine JL.go trivial (RX.assignv (v := Value.int _ _) rfl) ?_
    refine JL.nil ?_
    refine J.ret1 (v := Value.int _ _) Tryd.func38 rfl rfl ?_
    exact ⟨_, rfl, by rw [hz, Tr.parts], H.drop⟩
theorem parts_b : ∀ t, PartC t := tr_ind fun t ih hw w0 w F vs m hm H ht => by
  obtain ⟨k, n, ks⟩ := t
  rw [Tr.Is] at ht
  obtain ⟨p, c, xs, rfl, hs, hk⟩ := ht
  exact parts_step ih hw hm H hs hk
theorem large_b {w0 w : World} {F : List Seg} (H : Hp w0 w F) {t : Tr} {vs : List Value} (ht : t.Is F vs) (hw : t.wide) : Ret Tryd.prog 15 [.agg vs.toArray] w fun v w' => v = .bool (decide (4500 < t.parts)) ∧ Hp w0 w' F := by
  refine Calls.of_J (n := 6) Tryd.func15 rfl rfl rfl ?_
  refine J.seq ?_
  obtain ⟨k, n, p, m, c, rfl⟩ := ht.shape
  refine J.region ?_
  refine JL.does trivial (EX.box (v := Value.agg _) H rfl rfl) ?_
  rintro _ w ⟨b1, rfl, H⟩
  refine JL.go trivial (RX.assign) ?_
  refine JL.nil ?_
  refine J.seq ?_
  refine J.region ?_
  refine JL.go trivial (RX.loadAgg H rfl (i := 0) (vs := tv k n p m c) rfl rfl ag25) ?_
  refine JL.does trivial (EX.call rfl cl38 rfl ((parts_b t hw _ _ _ _ 4500 (by decide) H ht.cons))) ?_
  rintro _ w ⟨rfl, H⟩
  refine JL.go trivial (RX.gt rfl rfl) ?_
  refine JL.go trivial (RX.assignv (v := Value.bool _) rfl) ?_
  refine JL.nil ?_
  refine J.ret1 (v := Value.bool _) Tryd.func15 rfl rfl ?_
  exact ⟨_, rfl, by congr 2; rw [eq_iff_iff]; omega, H.drop⟩
theorem oSame_step {k n k2 n2 : Int} {ks us : List Tr} (ih : ∀ t, t.parts < (Tr.node k n ks).parts → SameC 19 t) (hw : (Tr.node k n ks).wide) (hv : (Tr.node k2 n2 us).wide) {w0 w : World} {F : List Seg} {p p2 : Option Addr} {c c2 : Nat} {xs ys : List Value} (H : Hp w0 w F) (hs : SlAt F p xs) (hk : KidsIs F ks xs) (hs2 : SlAt F p2 ys) (hu : KidsIs F us ys) : Ret Tryd.prog 19 [.agg (tv k n p ks.length c).toArray, .agg (tv k2 n2 p2 us.length c2).toArray] w fun v w' => v = .bool ((Tr.node k n ks).same (.node k2 n2 us)) ∧ Hp w0 w' F := by
  refine Calls.of_J (n := 46) Tryd.func19 rfl rfl rfl ?_
  refine J.seq ?_
  obtain ⟨hwl, hwk⟩ := wide_len hw
  obtain ⟨hvl, hvk⟩ := wide_len hv
  refine J.region ?_
  refine JL.does trivial (EX.box (v := Value.agg _) H rfl rfl) ?_
  rintro _ w ⟨b2, rfl, H⟩
  refine JL.does trivial (EX.box (v := Value.agg _) H rfl rfl) ?_
  rintro _ w ⟨b3, rfl, H⟩
  refine JL.go trivial (RX.assign) ?_
  refine JL.nil ?_
  refine J.seq ?_
  refine J.seq ?_
  refine J.region ?_
  refine JL.go trivial (RX.fieldAddr rfl fo25_0 rfl) ?_
  refine JL.go trivial (RX.load H rfl (i := 1) (v := .int .i64 k) rfl rfl one3) ?_
  refine JL.go trivial (RX.fieldAddr rfl fo25_0 rfl) ?_
  refine JL.go trivial (RX.load H rfl (i := 0) (v := .int .i64 k2) rfl rfl one3) ?_
  refine JL.go trivial (RX.ne rfl rfl) ?_
  refine JL.go trivial (RX.movev (v := Value.bool _) rfl) ?_
  refine JL.splitS 11 rfl (fun hk1 => ?_) (fun hk1 => ?_)
  · skip
    first | have hk1p := of_decide_eq_true hk1 | skip
    refine JL.no ⟨_, rfl, gno hk1⟩ ?_
    refine JL.no ⟨_, rfl, gno hk1⟩ ?_
    refine JL.no ⟨_, rfl, gno hk1⟩ ?_
    refine JL.no ⟨_, rfl, gno hk1⟩ ?_
    refine JL.no ⟨_, rfl, gno hk1⟩ ?_
    refine JL.go trivial (RX.pick_t rfl hk1) ?_
    refine JL.go trivial (RX.movev (v := Value.bool _) rfl) ?_
    refine JL.no ⟨_, rfl, gno rfl⟩ ?_
    refine JL.no ⟨_, rfl, gno rfl⟩ ?_
    refine JL.no ⟨_, rfl, gno rfl⟩ ?_
    refine JL.no ⟨_, rfl, gno rfl⟩ ?_
    refine JL.no ⟨_, rfl, gno rfl⟩ ?_
    refine JL.no ⟨_, rfl, gno rfl⟩ ?_
    refine JL.no ⟨_, rfl, gno rfl⟩ ?_
    refine JL.go trivial (RX.pick_t rfl rfl) ?_
    refine JL.nil ?_
    refine J.cond_t rfl rfl ?_
    refine J.seq ?_
    refine J.region ?_
    refine JL.go trivial (RX.assign) ?_
    refine JL.nil ?_
    refine J.ret1 (v := Value.bool _) Tryd.func19 rfl rfl ?_
    first
    | exact ⟨_, rfl, by rw [same_no (fun h => hne h.2.2)], H.drop.drop⟩
    | (obtain rfl : k = k2 := by omega
       obtain rfl : n = n2 := by omega
       exact ⟨_, rfl, by rw [same_yes heq], H.drop.drop⟩)
    | exact ⟨_, rfl, by rw [same_no (fun h => by have hh := congrArg List.length h.2.2; omega)], H.drop.drop⟩
  · skip
    first | have hk1p := of_decide_eq_false hk1 | skip
    refine JL.go ⟨_, rfl, hk1⟩ (RX.fieldAddr rfl fo25_1 rfl) ?_
    refine JL.go ⟨_, rfl, hk1⟩ (RX.load H rfl (i := 1) (v := .int .i64 n) rfl rfl one3) ?_
    refine JL.go ⟨_, rfl, hk1⟩ (RX.fieldAddr rfl fo25_1 rfl) ?_
    refine JL.go ⟨_, rfl, hk1⟩ (RX.load H rfl (i := 0) (v := .int .i64 n2) rfl rfl one3) ?_
    refine JL.go ⟨_, rfl, hk1⟩ (RX.ne rfl rfl) ?_
    refine JL.go trivial (RX.pick_f rfl hk1) ?_
    refine JL.go trivial (RX.movev (v := Value.bool _) rfl) ?_
    refine JL.splitS 18 rfl (fun hn1 => ?_) (fun hn1 => ?_)
    · skip
      first | have hn1p := of_decide_eq_true hn1 | skip
      refine JL.no ⟨_, rfl, gno hn1⟩ ?_
      refine JL.no ⟨_, rfl, gno hn1⟩ ?_
      refine JL.no ⟨_, rfl, gno hn1⟩ ?_
      refine JL.no ⟨_, rfl, gno hn1⟩ ?_
      refine JL.no ⟨_, rfl, gno hn1⟩ ?_
      refine JL.no ⟨_, rfl, gno hn1⟩ ?_
      refine JL.no ⟨_, rfl, gno hn1⟩ ?_
      refine JL.go trivial (RX.pick_t rfl hn1) ?_
      refine JL.nil ?_
      refine J.cond_t rfl rfl ?_
      refine J.seq ?_
      refine J.region ?_
      refine JL.go trivial (RX.assign) ?_
      refine JL.nil ?_
      refine J.ret1 (v := Value.bool _) Tryd.func19 rfl rfl ?_
      first
      | exact ⟨_, rfl, by rw [same_no (fun h => hne h.2.2)], H.drop.drop⟩
      | (obtain rfl : k = k2 := by omega
         obtain rfl : n = n2 := by omega
         exact ⟨_, rfl, by rw [same_yes heq], H.drop.drop⟩)
      | exact ⟨_, rfl, by rw [same_no (fun h => by have hh := congrArg List.length h.2.2; omega)], H.drop.drop⟩
    · skip
      first | have hn1p := of_decide_eq_false hn1 | skip
      refine JL.go ⟨_, rfl, hn1⟩ (RX.fieldAddr rfl fo25_2 rfl) ?_
      refine JL.go ⟨_, rfl, hn1⟩ (RX.load H rfl (i := 1) (v := .slice p ks.length c) rfl rfl one23) ?_
      refine JL.go ⟨_, rfl, hn1⟩ (RX.len_slice rfl (by rw [sl23]; rfl) rfl) ?_
      refine JL.go ⟨_, rfl, hn1⟩ (RX.fieldAddr rfl fo25_2 rfl) ?_
      refine JL.go ⟨_, rfl, hn1⟩ (RX.load H rfl (i := 0) (v := .slice p2 us.length c2) rfl rfl one23) ?_
      refine JL.go ⟨_, rfl, hn1⟩ (RX.len_slice rfl (by rw [sl23]; rfl) rfl) ?_
      refine JL.go ⟨_, rfl, hn1⟩ (RX.ne rfl rfl) ?_
      refine JL.go trivial (RX.pick_f rfl hn1) ?_
      refine JL.nil ?_
      refine J.cond_d rfl (fun hl1 => ?_) (fun hl1 => ?_)
      · skip
        refine J.seq ?_
        refine J.region ?_
        refine JL.go trivial (RX.assign) ?_
        refine JL.nil ?_
        refine J.ret1 (v := Value.bool _) Tryd.func19 rfl rfl ?_
        first
        | exact ⟨_, rfl, by rw [same_no (fun h => hne h.2.2)], H.drop.drop⟩
        | (obtain rfl : k = k2 := by omega
           obtain rfl : n = n2 := by omega
           exact ⟨_, rfl, by rw [same_yes heq], H.drop.drop⟩)
        | exact ⟨_, rfl, by rw [same_no (fun h => by have hh := congrArg List.length h.2.2; omega)], H.drop.drop⟩
      · skip
        refine J.skip ?_
        refine J.seq ?_
        refine J.seq ?_
        refine J.region ?_
        refine JL.go trivial (RX.fieldAddr rfl fo25_2 rfl) ?_
        refine JL.go trivial (RX.load H rfl (i := 1) (v := .slice p ks.length c) rfl rfl one23) ?_
        refine JL.go trivial (RX.len_slice rfl (by rw [sl23]; rfl) rfl) ?_
        refine JL.go trivial (RX.move) ?_
        refine JL.nil ?_
        refine J.block ?_
        refine J.loop (ι := Nat) (S := fun i => [(30, .int .i64 (i : Nat))]) (Φ := fun i w => i ≤ ks.length ∧ ks.take i = us.take i ∧ Hp w0 w ([(b3, cel (tv k2 n2 p2 us.length c2) 25)] :: [(b2, cel (tv k n p ks.length c) 25)] :: F)) (μ := fun i => ks.length - i) (C := [(2, _), (3, _), (29, _)]) 0 ⟨rfl, rfl, rfl, trivial⟩ ⟨rfl, trivial⟩ ?_ ?_
        · exact ⟨by omega, by simp, H⟩
        have hul : ks.length = us.length := by omega
        clear H
        rintro i ρ w ⟨hi, hpre, H⟩ IH
        refine J.seq ?_
        refine J.region ?_
        refine JL.go trivial (RX.lt rfl rfl) ?_
        refine JL.nil ?_
        refine J.seq ?_
        refine J.cond_d rfl (fun hlt => ?_) (fun hlt => ?_)
        · skip
          obtain ⟨t1, ht1⟩ : ∃ t1, ks[i]? = some t1 := ⟨_, List.getElem?_eq_getElem (by omega)⟩
          obtain ⟨t2, ht2⟩ : ∃ t2, us[i]? = some t2 := ⟨_, List.getElem?_eq_getElem (by omega)⟩
          obtain ⟨a1, ha1, hi1⟩ := hk.get ht1
          obtain ⟨a2, ha2, hi2⟩ := hu.get ht2
          have hxl := hk.len
          have hyl := hu.len
          have hst := sameL_step ht1 ht2 hpre
          obtain ⟨pb, po, rfl⟩ := spot_some hs (by omega)
          obtain ⟨pb2, po2, rfl⟩ := spot_some hs2 (by omega)
          refine J.skip ?_
          refine J.seq ?_
          refine J.block ?_
          refine J.seq ?_
          refine J.region ?_
          refine JL.go trivial (RX.movev (v := Value.int _ _) rfl) ?_
          refine JL.go trivial (RX.assignv (v := Value.int _ _) rfl) ?_
          refine JL.nil ?_
          refine J.seq ?_
          refine J.quietH H hmix (by kernel_rfl) ?_
          refine JQ.go trivial (fun w H => RX.fieldAddr rfl fo25_2 rfl) ?_
          refine JQ.go trivial (fun w H => RX.load H rfl (i := 1) (v := .slice (some ⟨pb, po, none⟩) ks.length c) rfl rfl one23) ?_
          refine JQ.go trivial (fun w H => RX.movev (v := Value.int _ _) rfl) ?_
          refine JQ.go trivial (fun w H => RX.indexAddr rfl rfl sl23 (by omega) (by omega) (o' := po + i * 3) (by omega)) ?_
          refine JQ.go trivial (fun w H => RX.loadAggS H hs.cons.cons rfl (j := i * 3) (by omega) (vs := a1) ha1 ag25) ?_
          refine JQ.go trivial (fun w H => RX.fieldAddr rfl fo25_2 rfl) ?_
          refine JQ.go trivial (fun w H => RX.load H rfl (i := 0) (v := .slice (some ⟨pb2, po2, none⟩) us.length c2) rfl rfl one23) ?_
          refine JQ.go trivial (fun w H => RX.movev (v := Value.int _ _) rfl) ?_
          refine JQ.go trivial (fun w H => RX.indexAddr rfl rfl sl23 (by omega) (by omega) (o' := po2 + i * 3) (by omega)) ?_
          refine JQ.go trivial (fun w H => RX.loadAggS H hs2.cons.cons rfl (j := i * 3) (by omega) (vs := a2) ha2 ag25) ?_
          refine JQ.call trivial (fun w H => run_callq rfl cl19 rfl) (fun w H => (ih t1 (kid_lt ht1) (wideL_get hwk ht1) t2 _ _ _ _ _ (wideL_get hvk ht2) H hi1.cons.cons hi2.cons.cons)) ?_
          refine JQ.go trivial (fun w H => RX.not rfl) ?_
          refine JQ.nil fun w H => ?_
          refine J.cond rfl (fun hsm => ?_) (fun hsm => ?_)
          · skip
            have hne := hst.2 (by simpa using hsm)
            refine J.seq ?_
            refine J.region ?_
            refine JL.go trivial (RX.assign) ?_
            refine JL.nil ?_
            refine J.ret1 (v := Value.bool _) Tryd.func19 rfl rfl ?_
            first
            | exact ⟨_, rfl, by rw [same_no (fun h => hne h.2.2)], H.drop.drop⟩
            | (obtain rfl : k = k2 := by omega
               obtain rfl : n = n2 := by omega
               exact ⟨_, rfl, by rw [same_yes heq], H.drop.drop⟩)
            | exact ⟨_, rfl, by rw [same_no (fun h => by have hh := congrArg List.length h.2.2; omega)], H.drop.drop⟩
          · skip
            have hpre2 := hst.1 (by simpa using hsm)
            refine J.skip ?_
            refine J.inBlock ?_
            refine J.region ?_
            refine JL.go trivial (RX.add rfl rfl (w_i64 (r := ((i + 1 : Nat) : Int)) (by omega) (by omega) (by omega))) ?_
            refine JL.go trivial (RX.movev (v := Value.int _ _) rfl) ?_
            refine JL.nil ?_
            exact IH (i + 1) _ _ (by omega) ⟨rfl, rfl, rfl, trivial⟩ ⟨rfl, trivial⟩ ⟨by omega, hpre2, H⟩
        · skip
          have hil : i = ks.length := by omega
          have heq : ks = us := by rw [hil, List.take_length, hul, List.take_length] at hpre; exact hpre
          refine J.exit rfl ?_
          refine J.seq ?_
          refine J.region ?_
          refine JL.go trivial (RX.assign) ?_
          refine JL.nil ?_
          refine J.ret1 (v := Value.bool _) Tryd.func19 rfl rfl ?_
          first
          | exact ⟨_, rfl, by rw [same_no (fun h => hne h.2.2)], H.drop.drop⟩
          | (obtain rfl : k = k2 := by omega
             obtain rfl : n = n2 := by omega
             exact ⟨_, rfl, by rw [same_yes heq], H.drop.drop⟩)
          | exact ⟨_, rfl, by rw [same_no (fun h => by have hh := congrArg List.length h.2.2; omega)], H.drop.drop⟩
theorem oSame_b : ∀ a, SameC 19 a := tr_ind fun t ih hw b w0 w F vs us hv H ht hb => by
  obtain ⟨k, n, ks⟩ := t
  obtain ⟨k2, n2, us'⟩ := b
  rw [Tr.Is] at ht hb
  obtain ⟨p, c, xs, rfl, hs, hk⟩ := ht
  obtain ⟨p2, c2, ys, rfl, hs2, hu⟩ := hb
  exact oSame_step ih hw hv H hs hk hs2 hu
theorem rSame_step {k n k2 n2 : Int} {ks us : List Tr} (ih : ∀ t, t.parts < (Tr.node k n ks).parts → SameC 12 t) (hw : (Tr.node k n ks).wide) (hv : (Tr.node k2 n2 us).wide) {w0 w : World} {F : List Seg} {p p2 : Option Addr} {c c2 : Nat} {xs ys : List Value} (H : Hp w0 w F) (hs : SlAt F p xs) (hk : KidsIs F ks xs) (hs2 : SlAt F p2 ys) (hu : KidsIs F us ys) : Ret Tryd.prog 12 [.agg (tv k n p ks.length c).toArray, .agg (tv k2 n2 p2 us.length c2).toArray] w fun v w' => v = .bool ((Tr.node k n ks).same (.node k2 n2 us)) ∧ Hp w0 w' F := by
  refine Calls.of_J (n := 48) Tryd.func12 rfl rfl rfl ?_
  refine J.seq ?_
  obtain ⟨hwl, hwk⟩ := wide_len hw
  obtain ⟨hvl, hvk⟩ := wide_len hv
  refine J.region ?_
  refine JL.does trivial (EX.box (v := Value.agg _) H rfl rfl) ?_
  rintro _ w ⟨b2, rfl, H⟩
  refine JL.does trivial (EX.box (v := Value.agg _) H rfl rfl) ?_
  rintro _ w ⟨b3, rfl, H⟩
  refine JL.go trivial (RX.assign) ?_
  refine JL.nil ?_
  refine J.seq ?_
  refine J.seq ?_
  refine J.region ?_
  refine JL.go trivial (RX.fieldAddr rfl fo25_0 rfl) ?_
  refine JL.go trivial (RX.load H rfl (i := 1) (v := .int .i64 k) rfl rfl one3) ?_
  refine JL.go trivial (RX.fieldAddr rfl fo25_0 rfl) ?_
  refine JL.go trivial (RX.load H rfl (i := 0) (v := .int .i64 k2) rfl rfl one3) ?_
  refine JL.go trivial (RX.ne rfl rfl) ?_
  refine JL.go trivial (RX.movev (v := Value.bool _) rfl) ?_
  refine JL.splitS 12 rfl (fun hk1 => ?_) (fun hk1 => ?_)
  · skip
    first | have hk1p := of_decide_eq_true hk1 | skip
    refine JL.no ⟨_, rfl, gno hk1⟩ ?_
    refine JL.no ⟨_, rfl, gno hk1⟩ ?_
    refine JL.no ⟨_, rfl, gno hk1⟩ ?_
    refine JL.no ⟨_, rfl, gno hk1⟩ ?_
    refine JL.no ⟨_, rfl, gno hk1⟩ ?_
    refine JL.go trivial (RX.pick_t rfl hk1) ?_
    refine JL.go trivial (RX.movev (v := Value.bool _) rfl) ?_
    refine JL.no ⟨_, rfl, gno rfl⟩ ?_
    refine JL.no ⟨_, rfl, gno rfl⟩ ?_
    refine JL.no ⟨_, rfl, gno rfl⟩ ?_
    refine JL.no ⟨_, rfl, gno rfl⟩ ?_
    refine JL.no ⟨_, rfl, gno rfl⟩ ?_
    refine JL.no ⟨_, rfl, gno rfl⟩ ?_
    refine JL.no ⟨_, rfl, gno rfl⟩ ?_
    refine JL.go trivial (RX.pick_t rfl rfl) ?_
    refine JL.nil ?_
    refine J.cond_t rfl rfl ?_
    refine J.seq ?_
    refine J.region ?_
    refine JL.go trivial (RX.assign) ?_
    refine JL.nil ?_
    refine J.ret1 (v := Value.bool _) Tryd.func12 rfl rfl ?_
    first
    | exact ⟨_, rfl, by rw [same_no (fun h => hne h.2.2)], H.drop.drop⟩
    | (obtain rfl : k = k2 := by omega
       obtain rfl : n = n2 := by omega
       exact ⟨_, rfl, by rw [same_yes heq], H.drop.drop⟩)
    | exact ⟨_, rfl, by rw [same_no (fun h => by have hh := congrArg List.length h.2.2; omega)], H.drop.drop⟩
  · skip
    first | have hk1p := of_decide_eq_false hk1 | skip
    refine JL.go ⟨_, rfl, hk1⟩ (RX.fieldAddr rfl fo25_1 rfl) ?_
    refine JL.go ⟨_, rfl, hk1⟩ (RX.load H rfl (i := 1) (v := .int .i64 n) rfl rfl one3) ?_
    refine JL.go ⟨_, rfl, hk1⟩ (RX.fieldAddr rfl fo25_1 rfl) ?_
    refine JL.go ⟨_, rfl, hk1⟩ (RX.load H rfl (i := 0) (v := .int .i64 n2) rfl rfl one3) ?_
    refine JL.go ⟨_, rfl, hk1⟩ (RX.ne rfl rfl) ?_
    refine JL.go trivial (RX.pick_f rfl hk1) ?_
    refine JL.go trivial (RX.movev (v := Value.bool _) rfl) ?_
    refine JL.splitS 19 rfl (fun hn1 => ?_) (fun hn1 => ?_)
    · skip
      first | have hn1p := of_decide_eq_true hn1 | skip
      refine JL.no ⟨_, rfl, gno hn1⟩ ?_
      refine JL.no ⟨_, rfl, gno hn1⟩ ?_
      refine JL.no ⟨_, rfl, gno hn1⟩ ?_
      refine JL.no ⟨_, rfl, gno hn1⟩ ?_
      refine JL.no ⟨_, rfl, gno hn1⟩ ?_
      refine JL.no ⟨_, rfl, gno hn1⟩ ?_
      refine JL.no ⟨_, rfl, gno hn1⟩ ?_
      refine JL.go trivial (RX.pick_t rfl hn1) ?_
      refine JL.nil ?_
      refine J.cond_t rfl rfl ?_
      refine J.seq ?_
      refine J.region ?_
      refine JL.go trivial (RX.assign) ?_
      refine JL.nil ?_
      refine J.ret1 (v := Value.bool _) Tryd.func12 rfl rfl ?_
      first
      | exact ⟨_, rfl, by rw [same_no (fun h => hne h.2.2)], H.drop.drop⟩
      | (obtain rfl : k = k2 := by omega
         obtain rfl : n = n2 := by omega
         exact ⟨_, rfl, by rw [same_yes heq], H.drop.drop⟩)
      | exact ⟨_, rfl, by rw [same_no (fun h => by have hh := congrArg List.length h.2.2; omega)], H.drop.drop⟩
    · skip
      first | have hn1p := of_decide_eq_false hn1 | skip
      refine JL.go ⟨_, rfl, hn1⟩ (RX.fieldAddr rfl fo25_2 rfl) ?_
      refine JL.go ⟨_, rfl, hn1⟩ (RX.load H rfl (i := 1) (v := .slice p ks.length c) rfl rfl one23) ?_
      refine JL.go ⟨_, rfl, hn1⟩ (RX.len_slice rfl (by rw [sl23]; rfl) rfl) ?_
      refine JL.go ⟨_, rfl, hn1⟩ (RX.fieldAddr rfl fo25_2 rfl) ?_
      refine JL.go ⟨_, rfl, hn1⟩ (RX.load H rfl (i := 0) (v := .slice p2 us.length c2) rfl rfl one23) ?_
      refine JL.go ⟨_, rfl, hn1⟩ (RX.len_slice rfl (by rw [sl23]; rfl) rfl) ?_
      refine JL.go ⟨_, rfl, hn1⟩ (RX.ne rfl rfl) ?_
      refine JL.go trivial (RX.pick_f rfl hn1) ?_
      refine JL.nil ?_
      refine J.cond_d rfl (fun hl1 => ?_) (fun hl1 => ?_)
      · skip
        refine J.seq ?_
        refine J.region ?_
        refine JL.go trivial (RX.assign) ?_
        refine JL.nil ?_
        refine J.ret1 (v := Value.bool _) Tryd.func12 rfl rfl ?_
        first
        | exact ⟨_, rfl, by rw [same_no (fun h => hne h.2.2)], H.drop.drop⟩
        | (obtain rfl : k = k2 := by omega
           obtain rfl : n = n2 := by omega
           exact ⟨_, rfl, by rw [same_yes heq], H.drop.drop⟩)
        | exact ⟨_, rfl, by rw [same_no (fun h => by have hh := congrArg List.length h.2.2; omega)], H.drop.drop⟩
      · skip
        refine J.skip ?_
        refine J.seq ?_
        refine J.seq ?_
        refine J.region ?_
        refine JL.go trivial (RX.fieldAddr rfl fo25_2 rfl) ?_
        refine JL.go trivial (RX.load H rfl (i := 1) (v := .slice p ks.length c) rfl rfl one23) ?_
        refine JL.go trivial (RX.len_slice rfl (by rw [sl23]; rfl) rfl) ?_
        refine JL.go trivial (RX.move) ?_
        refine JL.nil ?_
        refine J.block ?_
        refine J.loop (ι := Nat) (S := fun i => [(31, .int .i64 (i : Nat))]) (Φ := fun i w => i ≤ ks.length ∧ ks.take i = us.take i ∧ Hp w0 w ([(b3, cel (tv k2 n2 p2 us.length c2) 25)] :: [(b2, cel (tv k n p ks.length c) 25)] :: F)) (μ := fun i => ks.length - i) (C := [(2, _), (3, _), (30, _)]) 0 ⟨rfl, rfl, rfl, trivial⟩ ⟨rfl, trivial⟩ ?_ ?_
        · exact ⟨by omega, by simp, H⟩
        have hul : ks.length = us.length := by omega
        clear H
        rintro i ρ w ⟨hi, hpre, H⟩ IH
        refine J.seq ?_
        refine J.region ?_
        refine JL.go trivial (RX.lt rfl rfl) ?_
        refine JL.nil ?_
        refine J.seq ?_
        refine J.cond_d rfl (fun hlt => ?_) (fun hlt => ?_)
        · skip
          obtain ⟨t1, ht1⟩ : ∃ t1, ks[i]? = some t1 := ⟨_, List.getElem?_eq_getElem (by omega)⟩
          obtain ⟨t2, ht2⟩ : ∃ t2, us[i]? = some t2 := ⟨_, List.getElem?_eq_getElem (by omega)⟩
          obtain ⟨a1, ha1, hi1⟩ := hk.get ht1
          obtain ⟨a2, ha2, hi2⟩ := hu.get ht2
          have hxl := hk.len
          have hyl := hu.len
          have hst := sameL_step ht1 ht2 hpre
          obtain ⟨pb, po, rfl⟩ := spot_some hs (by omega)
          obtain ⟨pb2, po2, rfl⟩ := spot_some hs2 (by omega)
          refine J.skip ?_
          refine J.seq ?_
          refine J.block ?_
          refine J.seq ?_
          refine J.region ?_
          refine JL.go trivial (RX.movev (v := Value.int _ _) rfl) ?_
          refine JL.go trivial (RX.assignv (v := Value.int _ _) rfl) ?_
          refine JL.nil ?_
          refine J.seq ?_
          refine J.quietH H hmix (by kernel_rfl) ?_
          refine JQ.go trivial (fun w H => RX.fieldAddr rfl fo25_2 rfl) ?_
          refine JQ.go trivial (fun w H => RX.load H rfl (i := 1) (v := .slice (some ⟨pb, po, none⟩) ks.length c) rfl rfl one23) ?_
          refine JQ.go trivial (fun w H => RX.movev (v := Value.int _ _) rfl) ?_
          refine JQ.go trivial (fun w H => RX.indexAddr rfl rfl sl23 (by omega) (by omega) (o' := po + i * 3) (by omega)) ?_
          refine JQ.go trivial (fun w H => RX.loadAggS H hs.cons.cons rfl (j := i * 3) (by omega) (vs := a1) ha1 ag25) ?_
          refine JQ.go trivial (fun w H => RX.fieldAddr rfl fo25_2 rfl) ?_
          refine JQ.go trivial (fun w H => RX.load H rfl (i := 0) (v := .slice (some ⟨pb2, po2, none⟩) us.length c2) rfl rfl one23) ?_
          refine JQ.go trivial (fun w H => RX.movev (v := Value.int _ _) rfl) ?_
          refine JQ.go trivial (fun w H => RX.indexAddr rfl rfl sl23 (by omega) (by omega) (o' := po2 + i * 3) (by omega)) ?_
          refine JQ.go trivial (fun w H => RX.loadAggS H hs2.cons.cons rfl (j := i * 3) (by omega) (vs := a2) ha2 ag25) ?_
          refine JQ.call trivial (fun w H => run_callq rfl cl12 rfl) (fun w H => (ih t1 (kid_lt ht1) (wideL_get hwk ht1) t2 _ _ _ _ _ (wideL_get hvk ht2) H hi1.cons.cons hi2.cons.cons)) ?_
          refine JQ.go trivial (fun w H => RX.assignv (v := Value.bool _) rfl) ?_
          refine JQ.nil fun w H => ?_
          refine J.seq ?_
          refine J.region ?_
          refine JL.go trivial (RX.movev (v := Value.bool _) rfl) ?_
          refine JL.go trivial (RX.not rfl) ?_
          refine JL.nil ?_
          refine J.cond rfl (fun hsm => ?_) (fun hsm => ?_)
          · skip
            have hne := hst.2 (by simpa using hsm)
            refine J.seq ?_
            refine J.region ?_
            refine JL.go trivial (RX.assign) ?_
            refine JL.nil ?_
            refine J.ret1 (v := Value.bool _) Tryd.func12 rfl rfl ?_
            first
            | exact ⟨_, rfl, by rw [same_no (fun h => hne h.2.2)], H.drop.drop⟩
            | (obtain rfl : k = k2 := by omega
               obtain rfl : n = n2 := by omega
               exact ⟨_, rfl, by rw [same_yes heq], H.drop.drop⟩)
            | exact ⟨_, rfl, by rw [same_no (fun h => by have hh := congrArg List.length h.2.2; omega)], H.drop.drop⟩
          · skip
            have hpre2 := hst.1 (by simpa using hsm)
            refine J.skip ?_
            refine J.inBlock ?_
            refine J.region ?_
            refine JL.go trivial (RX.add rfl rfl (w_i64 (r := ((i + 1 : Nat) : Int)) (by omega) (by omega) (by omega))) ?_
            refine JL.go trivial (RX.movev (v := Value.int _ _) rfl) ?_
            refine JL.nil ?_
            exact IH (i + 1) _ _ (by omega) ⟨rfl, rfl, rfl, trivial⟩ ⟨rfl, trivial⟩ ⟨by omega, hpre2, H⟩
        · skip
          have hil : i = ks.length := by omega
          have heq : ks = us := by rw [hil, List.take_length, hul, List.take_length] at hpre; exact hpre
          refine J.exit rfl ?_
          refine J.seq ?_
          refine J.region ?_
          refine JL.go trivial (RX.assign) ?_
          refine JL.nil ?_
          refine J.ret1 (v := Value.bool _) Tryd.func12 rfl rfl ?_
          first
          | exact ⟨_, rfl, by rw [same_no (fun h => hne h.2.2)], H.drop.drop⟩
          | (obtain rfl : k = k2 := by omega
             obtain rfl : n = n2 := by omega
             exact ⟨_, rfl, by rw [same_yes heq], H.drop.drop⟩)
          | exact ⟨_, rfl, by rw [same_no (fun h => by have hh := congrArg List.length h.2.2; omega)], H.drop.drop⟩
theorem rSame_b : ∀ a, SameC 12 a := tr_ind fun t ih hw b w0 w F vs us hv H ht hb => by
  obtain ⟨k, n, ks⟩ := t
  obtain ⟨k2, n2, us'⟩ := b
  rw [Tr.Is] at ht hb
  obtain ⟨p, c, xs, rfl, hs, hk⟩ := ht
  obtain ⟨p2, c2, ys, rfl, hs2, hu⟩ := hb
  exact rSame_step ih hw hv H hs hk hs2 hu
end Go.Proofs.YtinbeaaloailnaaDoor

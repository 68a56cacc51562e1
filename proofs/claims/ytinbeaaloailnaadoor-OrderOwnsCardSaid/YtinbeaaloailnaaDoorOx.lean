/- The text of an order. -/
import Derived.Test.YtinbeaaloailnaaDoorOr
import Derived.Lib.ItoaLen
namespace Go.Proofs.YtinbeaaloailnaaDoor
open Go Go.Eng
set_option maxRecDepth 100000
set_option linter.unusedVariables false
set_option linter.unusedSimpArgs false
theorem cl39 : callable Tryd.prog 39 = true := by kernel_rfl
theorem cl50 : callable Tryd.prog 50 = true := by kernel_rfl

def textT (t : Tr) : List UInt8 :=
  match t with
  | .node k n ks =>
    if k = 1 then 100 :: Lib.itoa n
    else if k = 2 then 102 :: Lib.itoa n
    else if k = 3 then
      match ks with
      | [a, b] => 40 :: (textT a ++ ([32, 120, 32] ++ (textT b ++ [41])))
      | _ => []
    else
      match ks with
      | [a] => 98 :: (Lib.itoa n ++ (40 :: (textT a ++ [41])))
      | _ => []
termination_by t.parts
decreasing_by all_goals simp only [Tr.parts, partsL]; omega
theorem text_d {n : Int} {ks : List Tr} : textT (.node 1 n ks) = 100 :: Lib.itoa n := by rw [textT.eq_def]; dsimp only; rw [if_pos rfl]
theorem text_f {n : Int} {ks : List Tr} : textT (.node 2 n ks) = 102 :: Lib.itoa n := by rw [textT.eq_def]; dsimp only; rw [if_neg (by decide), if_pos rfl]
theorem text_x {n : Int} {a b : Tr} : textT (.node 3 n [a, b]) = 40 :: (textT a ++ ([32, 120, 32] ++ (textT b ++ [41]))) := by rw [textT.eq_def]; dsimp only; rw [if_neg (by decide), if_neg (by decide), if_pos rfl]
theorem text_b4 {n : Int} {a : Tr} : textT (.node 4 n [a]) = 98 :: (Lib.itoa n ++ (40 :: (textT a ++ [41]))) := by rw [textT.eq_def]; dsimp only; rw [if_neg (by decide), if_neg (by decide), if_neg (by decide)]
/-- What a tree of a length that is not 0 looks like. -/
theorem good_form {k n : Int} {ks : List Tr} (h : len (.node k n ks) ≠ 0) : (k = 1 ∧ ks = [] ∧ 1 ≤ n ∧ n ≤ 64) ∨ (k = 2 ∧ ks = [] ∧ 2 ≤ n ∧ n ≤ 5) ∨ (k = 3 ∧ n = 0 ∧ ∃ a b, ks = [a, b] ∧ len a ≠ 0 ∧ len b ≠ 0) ∨ (k = 4 ∧ 2 ≤ n ∧ n ≤ 8192 ∧ ∃ a, ks = [a] ∧ len a ≠ 0) := by
  rw [len.eq_def] at h
  dsimp only at h
  split at h
  · rename_i hk
    split at h
    · rename_i hc
      exact .inl ⟨hk, List.eq_nil_of_length_eq_zero hc.2.2, hc.1, hc.2.1⟩
    · exact absurd rfl h
  · split at h
    · rename_i hk
      split at h
      · rename_i hc
        exact .inr (.inl ⟨hk, List.eq_nil_of_length_eq_zero hc.2.2, hc.1, hc.2.1⟩)
      · exact absurd rfl h
    · split at h
      · rename_i hk
        split at h
        · rename_i a b
          split at h
          · rename_i hn
            split at h
            · rename_i hc
              exact .inr (.inr (.inl ⟨hk, hn, a, b, rfl, by omega, by omega⟩))
            · exact absurd rfl h
          · exact absurd rfl h
        · exact absurd rfl h
      · split at h
        · rename_i hk
          split at h
          · rename_i a
            split at h
            · rename_i hn
              split at h
              · rename_i hc
                exact .inr (.inr (.inr ⟨hk, hn.1, hn.2, a, rfl, by omega⟩))
              · exact absurd rfl h
            · exact absurd rfl h
          · exact absurd rfl h
        · exact absurd rfl h
theorem itoa_len {i : Int} (h : i64ok i) : (Lib.itoa i).length ≤ 21 := Lib.itoa_length_le i h.1 h.2
theorem text_len : ∀ (m : Nat) (t : Tr), t.parts ≤ m → len t ≠ 0 → (textT t).length ≤ 40 * t.parts
  | 0, t, h, _ => by have := parts_pos t; omega
  | m + 1, t, h, hl => by
    obtain ⟨k, n, ks⟩ := t
    rcases good_form hl with ⟨rfl, rfl, h1, h2⟩ | ⟨rfl, rfl, h1, h2⟩ | ⟨rfl, rfl, a, b, rfl, ha, hb⟩ | ⟨rfl, h1, h2, a, rfl, ha⟩
    · have := itoa_len (i := n) ⟨by omega, by omega⟩
      rw [text_d, Tr.parts, partsL, List.length_cons]; omega
    · have := itoa_len (i := n) ⟨by omega, by omega⟩
      rw [text_f, Tr.parts, partsL, List.length_cons]; omega
    · rw [Tr.parts, partsL, partsL, partsL] at h ⊢
      have e1 := text_len m a (by omega) ha
      have e2 := text_len m b (by omega) hb
      rw [text_x]
      simp only [List.length_cons, List.length_append, List.length_nil]
      omega
    · rw [Tr.parts, partsL, partsL] at h ⊢
      have e1 := text_len m a (by omega) ha
      have := itoa_len (i := n) ⟨by omega, by omega⟩
      rw [text_b4]
      simp only [List.length_cons, List.length_append, List.length_nil]
      omega
def TextC (t : Tr) : Prop := len t ≠ 0 → t.parts ≤ 4194304 → ∀ (w0 w : World) (F : List Seg) (vs : List Value) (p : Option Addr) (n c : Nat) (xs : List Value) (s : Seg), n + 64 * t.parts ≤ 1099511627776 → Hp w0 w (s :: F) → OwnZ 5 p n c xs s → t.Is F vs → GTab F →
  Ret Tryd.prog 39 [.slice p n c, .agg vs.toArray] w fun v w' => ∃ p' c' s', v = .slice p' (n + (textT t).length) c' ∧ OwnZ 5 p' (n + (textT t).length) c' (xs ++ bL (textT t)) s' ∧ Hp w0 w' (s' :: F)

set_option maxHeartbeats 1600000 in
theorem text_step {k m : Int} {ks : List Tr} (ih : ∀ t, t.parts < (Tr.node k m ks).parts → TextC t) (hl : len (.node k m ks) ≠ 0) (hp : (Tr.node k m ks).parts ≤ 4194304) {w0 w : World} {F : List Seg} {p : Option Addr} {n c : Nat} {xs : List Value} {s : Seg} (hn : n + 64 * (Tr.node k m ks).parts ≤ 1099511627776) (H : Hp w0 w (s :: F)) (ho : OwnZ 5 p n c xs s) {q : Option Addr} {e : Nat} {ys : List Value} (hs : SlAt F q ys) (hk : KidsIs F ks ys) (hg : GTab F) : Ret Tryd.prog 39 [.slice p n c, .agg (tv k m q ks.length e).toArray] w fun v w' => ∃ p' c' s', v = .slice p' (n + (textT (.node k m ks)).length) c' ∧ OwnZ 5 p' (n + (textT (.node k m ks)).length) c' (xs ++ bL (textT (.node k m ks))) s' ∧ Hp w0 w' (s' :: F) := by
  refine Calls.of_J (n := 59) Tryd.func39 rfl rfl rfl ?_
  refine J.seq ?_
  have hpp : (Tr.node k m ks).parts = 1 + partsL ks := by rw [Tr.parts]
  refine J.region ?_
  refine JL.does trivial (EX.box (v := Value.agg _) H rfl rfl) ?_
  rintro _ w ⟨b3, rfl, H⟩
  refine JL.go trivial (RX.assign) ?_
  refine JL.nil ?_
  refine J.seq ?_
  refine J.seq ?_
  refine J.region ?_
  refine JL.go trivial (RX.fieldAddr rfl fo25_0 rfl) ?_
  refine JL.go trivial (RX.load H rfl (i := 0) (v := .int .i64 k) rfl rfl one3) ?_
  refine JL.nil ?_
  replace H := H.pull 1 rfl
  have hgf := good_form hl
  have hbl : ∀ c : UInt8, (bL [c]).length = 1 := fun _ => rfl
  refine J.block ?_
  refine J.seq ?_
  refine J.region ?_
  refine JL.go trivial (RX.eq rfl rfl) ?_
  refine JL.go trivial (RX.assignv (v := Value.bool _) rfl) ?_
  refine JL.nil ?_
  refine J.cond_d rfl (fun hk1 => ?_) (fun hk1 => ?_)
  · skip
    obtain ⟨rfl, rfl, hm1, hm2⟩ : k = 1 ∧ ks = [] ∧ 1 ≤ m ∧ m ≤ 64 := by
      rcases hgf with h | h | h | h
      · exact h
      · exact absurd h.1 (by omega)
      · exact absurd h.1 (by omega)
      · exact absurd h.1 (by omega)
    refine J.seq ?_
    refine J.held (fun w => Hp w0 w ([(b3, cel (tv 1 m q ([] : List Tr).length e) 25)] :: F)) hmix fun w hs => ?_
    replace H := H.same hs; clear hs
    have hS : Hp w0 w ([(b3, cel (tv 1 m q ([] : List Tr).length e) 25)] :: F) := by first | exact H | exact H.drop | exact H.drop.drop | exact H.drop.drop.drop | exact H.drop.drop.drop.drop | exact H.drop.drop.drop.drop.drop | exact H.drop.drop.drop.drop.drop.drop | exact H.drop.drop.drop.drop.drop.drop.drop | exact H.drop.drop.drop.drop.drop.drop.drop.drop
    refine JH.take 0 (listed' := [true, false, false, false, false, false, false]) rfl (by kernel_rfl) (by kernel_rfl) (by kernel_rfl) rfl trivial (fun w H => RX.movev (v := Value.slice _ _ _) rfl) hS ?_
    refine JH.take 3 (listed' := [true, false, false, true, false, false, false]) rfl (by kernel_rfl) (by kernel_rfl) (by kernel_rfl) rfl trivial (fun w H => RX.fieldAddr rfl fo25_1 rfl) hS ?_
    refine JH.take 4 (listed' := [true, false, false, true, true, false, false]) rfl (by kernel_rfl) (by kernel_rfl) (by kernel_rfl) rfl trivial (fun w H => RX.load H rfl (i := 0) (v := .int .i64 m) rfl rfl one3) hS ?_
    refine JH.all [1] (by kernel_rfl) (by decide) ?_
    refine JHO.does (listed' := [true, true, false, true, true, false, false]) rfl rfl trivial (EX.buildSlice1 (v := Value.int _ _) H elB rfl rfl) ?_
    rintro _ w ⟨br, rfl, H⟩
    have hS : Hp w0 w ([(b3, cel (tv 1 m q ([] : List Tr).length e) 25)] :: F) := by first | exact H | exact H.drop | exact H.drop.drop | exact H.drop.drop.drop | exact H.drop.drop.drop.drop | exact H.drop.drop.drop.drop.drop | exact H.drop.drop.drop.drop.drop.drop | exact H.drop.drop.drop.drop.drop.drop.drop | exact H.drop.drop.drop.drop.drop.drop.drop.drop
    refine ⟨hS, ?_⟩
    refine JH.all [2] (by kernel_rfl) (by decide) ?_
    refine JHO.does (listed' := [true, true, true, true, true, false, false]) rfl rfl trivial (EX.appendZ (m := 1) (ys := bL [100]) H elB rfl rfl (src_slice (e' := 5) H ud64 (SlAt.here rfl) rfl (bL_cell _)) (i := 1) rfl ho (by omega) (fun _ => rfl)) ?_
    rintro _ w ⟨p2, c2, s2, rfl, ho1, H⟩
    replace H := H.drop
    have hS : Hp w0 w ([(b3, cel (tv 1 m q ([] : List Tr).length e) 25)] :: F) := by first | exact H | exact H.drop | exact H.drop.drop | exact H.drop.drop.drop | exact H.drop.drop.drop.drop | exact H.drop.drop.drop.drop.drop | exact H.drop.drop.drop.drop.drop.drop | exact H.drop.drop.drop.drop.drop.drop.drop | exact H.drop.drop.drop.drop.drop.drop.drop.drop
    refine ⟨hS, ?_⟩
    refine JH.all [5] (by kernel_rfl) (by decide) ?_
    refine JHO.does (listed' := [true, true, true, true, true, true, false]) rfl rfl trivial (EX.call rfl cl50 rfl ((appInt_b H ho1 hg.cons (by omega) (by omega) (by omega)))) ?_
    rintro _ w ⟨p3, c3, s3, rfl, ho2, H⟩
    have hS : Hp w0 w ([(b3, cel (tv 1 m q ([] : List Tr).length e) 25)] :: F) := by first | exact H | exact H.drop | exact H.drop.drop | exact H.drop.drop.drop | exact H.drop.drop.drop.drop | exact H.drop.drop.drop.drop.drop | exact H.drop.drop.drop.drop.drop.drop | exact H.drop.drop.drop.drop.drop.drop.drop | exact H.drop.drop.drop.drop.drop.drop.drop.drop
    refine ⟨hS, ?_⟩
    refine JH.take 6 (listed' := [true, true, true, true, true, true, true]) rfl (by kernel_rfl) (by kernel_rfl) (by kernel_rfl) rfl trivial (fun w H => RX.assignv (v := Value.slice _ _ _) rfl) hS ?_
    refine JH.done (by kernel_rfl) ?_
    refine J.ret1 (v := Value.slice _ _ _) Tryd.func39 rfl rfl ?_
    have e1 : n + 1 + (Lib.itoa m).length = n + (textT (.node 1 m [])).length := by rw [text_d]; simp; omega
    have e2 : xs ++ bL [100] ++ bL (Lib.itoa m) = xs ++ bL (textT (.node 1 m [])) := by rw [text_d]; simp [bL]
    rw [e1, e2] at ho2
    exact ⟨_, rfl, p3, c3, s3, by rw [e1], ho2, (H.pull 1 rfl).drop⟩
  · skip
    refine J.seq ?_
    refine J.region ?_
    refine JL.go trivial (RX.eq rfl rfl) ?_
    refine JL.go trivial (RX.assignv (v := Value.bool _) rfl) ?_
    refine JL.nil ?_
    refine J.cond_d rfl (fun hk2 => ?_) (fun hk2 => ?_)
    · skip
      obtain ⟨rfl, rfl, hm1, hm2⟩ : k = 2 ∧ ks = [] ∧ 2 ≤ m ∧ m ≤ 5 := by
        rcases hgf with h | h | h | h
        · exact absurd h.1 (by omega)
        · exact h
        · exact absurd h.1 (by omega)
        · exact absurd h.1 (by omega)
      refine J.seq ?_
      refine J.held (fun w => Hp w0 w ([(b3, cel (tv 2 m q ([] : List Tr).length e) 25)] :: F)) hmix fun w hs => ?_
      replace H := H.same hs; clear hs
      have hS : Hp w0 w ([(b3, cel (tv 2 m q ([] : List Tr).length e) 25)] :: F) := by first | exact H | exact H.drop | exact H.drop.drop | exact H.drop.drop.drop | exact H.drop.drop.drop.drop | exact H.drop.drop.drop.drop.drop | exact H.drop.drop.drop.drop.drop.drop | exact H.drop.drop.drop.drop.drop.drop.drop | exact H.drop.drop.drop.drop.drop.drop.drop.drop
      refine JH.take 0 (listed' := [true, false, false, false, false, false, false]) rfl (by kernel_rfl) (by kernel_rfl) (by kernel_rfl) rfl trivial (fun w H => RX.movev (v := Value.slice _ _ _) rfl) hS ?_
      refine JH.take 3 (listed' := [true, false, false, true, false, false, false]) rfl (by kernel_rfl) (by kernel_rfl) (by kernel_rfl) rfl trivial (fun w H => RX.fieldAddr rfl fo25_1 rfl) hS ?_
      refine JH.take 4 (listed' := [true, false, false, true, true, false, false]) rfl (by kernel_rfl) (by kernel_rfl) (by kernel_rfl) rfl trivial (fun w H => RX.load H rfl (i := 0) (v := .int .i64 m) rfl rfl one3) hS ?_
      refine JH.all [1] (by kernel_rfl) (by decide) ?_
      refine JHO.does (listed' := [true, true, false, true, true, false, false]) rfl rfl trivial (EX.buildSlice1 (v := Value.int _ _) H elB rfl rfl) ?_
      rintro _ w ⟨br, rfl, H⟩
      have hS : Hp w0 w ([(b3, cel (tv 2 m q ([] : List Tr).length e) 25)] :: F) := by first | exact H | exact H.drop | exact H.drop.drop | exact H.drop.drop.drop | exact H.drop.drop.drop.drop | exact H.drop.drop.drop.drop.drop | exact H.drop.drop.drop.drop.drop.drop | exact H.drop.drop.drop.drop.drop.drop.drop | exact H.drop.drop.drop.drop.drop.drop.drop.drop
      refine ⟨hS, ?_⟩
      refine JH.all [2] (by kernel_rfl) (by decide) ?_
      refine JHO.does (listed' := [true, true, true, true, true, false, false]) rfl rfl trivial (EX.appendZ (m := 1) (ys := bL [102]) H elB rfl rfl (src_slice (e' := 5) H ud64 (SlAt.here rfl) rfl (bL_cell _)) (i := 1) rfl ho (by omega) (fun _ => rfl)) ?_
      rintro _ w ⟨p2, c2, s2, rfl, ho1, H⟩
      replace H := H.drop
      have hS : Hp w0 w ([(b3, cel (tv 2 m q ([] : List Tr).length e) 25)] :: F) := by first | exact H | exact H.drop | exact H.drop.drop | exact H.drop.drop.drop | exact H.drop.drop.drop.drop | exact H.drop.drop.drop.drop.drop | exact H.drop.drop.drop.drop.drop.drop | exact H.drop.drop.drop.drop.drop.drop.drop | exact H.drop.drop.drop.drop.drop.drop.drop.drop
      refine ⟨hS, ?_⟩
      refine JH.all [5] (by kernel_rfl) (by decide) ?_
      refine JHO.does (listed' := [true, true, true, true, true, true, false]) rfl rfl trivial (EX.call rfl cl50 rfl ((appInt_b H ho1 hg.cons (by omega) (by omega) (by omega)))) ?_
      rintro _ w ⟨p3, c3, s3, rfl, ho2, H⟩
      have hS : Hp w0 w ([(b3, cel (tv 2 m q ([] : List Tr).length e) 25)] :: F) := by first | exact H | exact H.drop | exact H.drop.drop | exact H.drop.drop.drop | exact H.drop.drop.drop.drop | exact H.drop.drop.drop.drop.drop | exact H.drop.drop.drop.drop.drop.drop | exact H.drop.drop.drop.drop.drop.drop.drop | exact H.drop.drop.drop.drop.drop.drop.drop.drop
      refine ⟨hS, ?_⟩
      refine JH.take 6 (listed' := [true, true, true, true, true, true, true]) rfl (by kernel_rfl) (by kernel_rfl) (by kernel_rfl) rfl trivial (fun w H => RX.assignv (v := Value.slice _ _ _) rfl) hS ?_
      refine JH.done (by kernel_rfl) ?_
      refine J.ret1 (v := Value.slice _ _ _) Tryd.func39 rfl rfl ?_
      have e1 : n + 1 + (Lib.itoa m).length = n + (textT (.node 2 m [])).length := by rw [text_f]; simp; omega
      have e2 : xs ++ bL [102] ++ bL (Lib.itoa m) = xs ++ bL (textT (.node 2 m [])) := by rw [text_f]; simp [bL]
      rw [e1, e2] at ho2
      exact ⟨_, rfl, p3, c3, s3, by rw [e1], ho2, (H.pull 1 rfl).drop⟩
    · skip
      refine J.seq ?_
      refine J.region ?_
      refine JL.go trivial (RX.eq rfl rfl) ?_
      refine JL.go trivial (RX.assignv (v := Value.bool _) rfl) ?_
      refine JL.nil ?_
      refine J.cond_d rfl (fun hk3 => ?_) (fun hk3 => ?_)
      · skip
        obtain ⟨rfl, rfl, a, b, rfl, hla, hlb⟩ : k = 3 ∧ m = 0 ∧ ∃ a b, ks = [a, b] ∧ len a ≠ 0 ∧ len b ≠ 0 := by
          rcases hgf with h | h | h | h
          · exact absurd h.1 (by omega)
          · exact absurd h.1 (by omega)
          · exact h
          · exact absurd h.1 (by omega)
        obtain ⟨va, hva, hia⟩ := hk.get (i := 0) (t := a) rfl
        obtain ⟨vb, hvb, hib⟩ := hk.get (i := 1) (t := b) rfl
        have hxl := hk.len
        have hl2 : [a, b].length = 2 := rfl
        obtain ⟨pb, po, rfl⟩ := spot_some hs (by omega)
        rw [partsL, partsL, partsL] at hpp
        have hta := text_len _ a (Nat.le_refl _) hla
        have htb := text_len _ b (Nat.le_refl _) hlb
        have htx := text_x (n := 0) (a := a) (b := b)
        have hlen : (textT (.node 3 0 [a, b])).length = (textT a).length + (textT b).length + 5 := by rw [htx]; simp; omega
        refine J.seq ?_
        refine J.held (fun w => Hp w0 w ([(b3, cel (tv 3 0 (some ⟨pb, po, none⟩) [a, b].length e) 25)] :: F)) hmix fun w hs => ?_
        replace H := H.same hs; clear hs
        have hS : Hp w0 w ([(b3, cel (tv 3 0 (some ⟨pb, po, none⟩) [a, b].length e) 25)] :: F) := by first | exact H | exact H.drop | exact H.drop.drop | exact H.drop.drop.drop | exact H.drop.drop.drop.drop | exact H.drop.drop.drop.drop.drop | exact H.drop.drop.drop.drop.drop.drop | exact H.drop.drop.drop.drop.drop.drop.drop | exact H.drop.drop.drop.drop.drop.drop.drop.drop
        refine JH.take 0 (listed' := [true, false, false, false, false, false, false, false, false]) rfl (by kernel_rfl) (by kernel_rfl) (by kernel_rfl) rfl trivial (fun w H => RX.movev (v := Value.slice _ _ _) rfl) hS ?_
        refine JH.take 3 (listed' := [true, false, false, true, false, false, false, false, false]) rfl (by kernel_rfl) (by kernel_rfl) (by kernel_rfl) rfl trivial (fun w H => RX.fieldAddr rfl fo25_2 rfl) hS ?_
        refine JH.take 4 (listed' := [true, false, false, true, true, false, false, false, false]) rfl (by kernel_rfl) (by kernel_rfl) (by kernel_rfl) rfl trivial (fun w H => RX.load H rfl (i := 0) (v := .slice (some ⟨pb, po, none⟩) [a, b].length e) rfl rfl one23) hS ?_
        refine JH.take 5 (listed' := [true, false, false, true, true, true, false, false, false]) rfl (by kernel_rfl) (by kernel_rfl) (by kernel_rfl) rfl trivial (fun w H => RX.indexAddr rfl rfl sl23 (by omega) (by omega) (o' := po + 0 * 3) (by omega)) hS ?_
        refine JH.take 6 (listed' := [true, false, false, true, true, true, true, false, false]) rfl (by kernel_rfl) (by kernel_rfl) (by kernel_rfl) rfl trivial (fun w H => RX.loadAggS H hs.cons rfl (j := 0 * 3) (by omega) (vs := va) hva ag25) hS ?_
        refine JH.all [1] (by kernel_rfl) (by decide) ?_
        refine JHO.does (listed' := [true, true, false, true, true, true, true, false, false]) rfl rfl trivial (EX.buildSlice1 (v := Value.int _ _) H elB rfl rfl) ?_
        rintro _ w ⟨br, rfl, H⟩
        have hS : Hp w0 w ([(b3, cel (tv 3 0 (some ⟨pb, po, none⟩) [a, b].length e) 25)] :: F) := by first | exact H | exact H.drop | exact H.drop.drop | exact H.drop.drop.drop | exact H.drop.drop.drop.drop | exact H.drop.drop.drop.drop.drop | exact H.drop.drop.drop.drop.drop.drop | exact H.drop.drop.drop.drop.drop.drop.drop | exact H.drop.drop.drop.drop.drop.drop.drop.drop
        refine ⟨hS, ?_⟩
        refine JH.all [2] (by kernel_rfl) (by decide) ?_
        refine JHO.does (listed' := [true, true, true, true, true, true, true, false, false]) rfl rfl trivial (EX.appendZ (m := 1) (ys := bL [40]) H elB rfl rfl (src_slice (e' := 5) H ud64 (SlAt.here rfl) rfl (bL_cell _)) (i := 1) rfl ho (by omega) (fun _ => rfl)) ?_
        rintro _ w ⟨p2, c2, s2, rfl, ho1, H⟩
        replace H := H.drop
        have hS : Hp w0 w ([(b3, cel (tv 3 0 (some ⟨pb, po, none⟩) [a, b].length e) 25)] :: F) := by first | exact H | exact H.drop | exact H.drop.drop | exact H.drop.drop.drop | exact H.drop.drop.drop.drop | exact H.drop.drop.drop.drop.drop | exact H.drop.drop.drop.drop.drop.drop | exact H.drop.drop.drop.drop.drop.drop.drop | exact H.drop.drop.drop.drop.drop.drop.drop.drop
        refine ⟨hS, ?_⟩
        refine JH.all [7] (by kernel_rfl) (by decide) ?_
        refine JHO.does (listed' := [true, true, true, true, true, true, true, true, false]) rfl rfl trivial (EX.call rfl cl39 rfl ((ih a (by omega) hla (by omega) _ _ _ _ _ _ _ _ _ (by omega) H ho1 hia.cons hg.cons))) ?_
        rintro _ w ⟨p3, c3, s3, rfl, ho2, H⟩
        have hS : Hp w0 w ([(b3, cel (tv 3 0 (some ⟨pb, po, none⟩) [a, b].length e) 25)] :: F) := by first | exact H | exact H.drop | exact H.drop.drop | exact H.drop.drop.drop | exact H.drop.drop.drop.drop | exact H.drop.drop.drop.drop.drop | exact H.drop.drop.drop.drop.drop.drop | exact H.drop.drop.drop.drop.drop.drop.drop | exact H.drop.drop.drop.drop.drop.drop.drop.drop
        refine ⟨hS, ?_⟩
        refine JH.take 8 (listed' := [true, true, true, true, true, true, true, true, true]) rfl (by kernel_rfl) (by kernel_rfl) (by kernel_rfl) rfl trivial (fun w H => RX.assignv (v := Value.slice _ _ _) rfl) hS ?_
        refine JH.done (by kernel_rfl) ?_
        refine J.seq ?_
        refine J.held (fun w => Hp w0 w ([(b3, cel (tv 3 0 (some ⟨pb, po, none⟩) [a, b].length e) 25)] :: F)) hmix fun w hs => ?_
        replace H := H.same hs; clear hs
        have hS : Hp w0 w ([(b3, cel (tv 3 0 (some ⟨pb, po, none⟩) [a, b].length e) 25)] :: F) := by first | exact H | exact H.drop | exact H.drop.drop | exact H.drop.drop.drop | exact H.drop.drop.drop.drop | exact H.drop.drop.drop.drop.drop | exact H.drop.drop.drop.drop.drop.drop | exact H.drop.drop.drop.drop.drop.drop.drop | exact H.drop.drop.drop.drop.drop.drop.drop.drop
        refine JH.take 0 (listed' := [true, false, false, false, false, false, false, false]) rfl (by kernel_rfl) (by kernel_rfl) (by kernel_rfl) rfl trivial (fun w H => RX.movev (v := Value.slice _ _ _) rfl) hS ?_
        refine JH.take 2 (listed' := [true, false, true, false, false, false, false, false]) rfl (by kernel_rfl) (by kernel_rfl) (by kernel_rfl) rfl trivial (fun w H => RX.fieldAddr rfl fo25_2 rfl) hS ?_
        refine JH.take 3 (listed' := [true, false, true, true, false, false, false, false]) rfl (by kernel_rfl) (by kernel_rfl) (by kernel_rfl) rfl trivial (fun w H => RX.load H rfl (i := 0) (v := .slice (some ⟨pb, po, none⟩) [a, b].length e) rfl rfl one23) hS ?_
        refine JH.take 4 (listed' := [true, false, true, true, true, false, false, false]) rfl (by kernel_rfl) (by kernel_rfl) (by kernel_rfl) rfl trivial (fun w H => RX.indexAddr rfl rfl sl23 (by omega) (by omega) (o' := po + 1 * 3) (by omega)) hS ?_
        refine JH.take 5 (listed' := [true, false, true, true, true, true, false, false]) rfl (by kernel_rfl) (by kernel_rfl) (by kernel_rfl) rfl trivial (fun w H => RX.loadAggS H hs.cons rfl (j := 1 * 3) (by omega) (vs := vb) hvb ag25) hS ?_
        refine JH.all [1] (by kernel_rfl) (by decide) ?_
        refine JHO.does (listed' := [true, true, true, true, true, true, false, false]) rfl rfl trivial (EX.appendZ (m := 3) (ys := bL [32, 120, 32]) H elB rfl rfl (yv := .string ⟨[32, 120, 32].toArray⟩) (src_str [32, 120, 32]) (i := 0) rfl ho2 (by omega) (fun _ => rfl)) ?_
        rintro _ w ⟨p4, c4, s4, rfl, ho3, H⟩
        have hS : Hp w0 w ([(b3, cel (tv 3 0 (some ⟨pb, po, none⟩) [a, b].length e) 25)] :: F) := by first | exact H | exact H.drop | exact H.drop.drop | exact H.drop.drop.drop | exact H.drop.drop.drop.drop | exact H.drop.drop.drop.drop.drop | exact H.drop.drop.drop.drop.drop.drop | exact H.drop.drop.drop.drop.drop.drop.drop | exact H.drop.drop.drop.drop.drop.drop.drop.drop
        refine ⟨hS, ?_⟩
        refine JH.all [6] (by kernel_rfl) (by decide) ?_
        refine JHO.does (listed' := [true, true, true, true, true, true, true, false]) rfl rfl trivial (EX.call rfl cl39 rfl ((ih b (by omega) hlb (by omega) _ _ _ _ _ _ _ _ _ (by omega) H ho3 hib.cons hg.cons))) ?_
        rintro _ w ⟨p5, c5, s5, rfl, ho4, H⟩
        have hS : Hp w0 w ([(b3, cel (tv 3 0 (some ⟨pb, po, none⟩) [a, b].length e) 25)] :: F) := by first | exact H | exact H.drop | exact H.drop.drop | exact H.drop.drop.drop | exact H.drop.drop.drop.drop | exact H.drop.drop.drop.drop.drop | exact H.drop.drop.drop.drop.drop.drop | exact H.drop.drop.drop.drop.drop.drop.drop | exact H.drop.drop.drop.drop.drop.drop.drop.drop
        refine ⟨hS, ?_⟩
        refine JH.take 7 (listed' := [true, true, true, true, true, true, true, true]) rfl (by kernel_rfl) (by kernel_rfl) (by kernel_rfl) rfl trivial (fun w H => RX.assignv (v := Value.slice _ _ _) rfl) hS ?_
        refine JH.done (by kernel_rfl) ?_
        refine J.seq ?_
        refine J.region ?_
        refine JL.go trivial (RX.movev (v := Value.slice _ _ _) rfl) ?_
        refine JL.does trivial (EX.buildSlice1 (v := Value.int _ _) H elB rfl rfl) ?_
        rintro _ w ⟨bc, rfl, H⟩
        refine JL.does trivial (EX.appendZ (m := 1) (ys := bL [41]) H elB rfl rfl (src_slice (e' := 5) H ud64 (SlAt.here rfl) rfl (bL_cell _)) (i := 1) rfl ho4 (by omega) (fun _ => rfl)) ?_
        rintro _ w ⟨p6, c6, s6, rfl, ho5, H⟩
        replace H := H.drop
        refine JL.go trivial (RX.assignv (v := Value.slice _ _ _) rfl) ?_
        refine JL.nil ?_
        refine J.ret1 (v := Value.slice _ _ _) Tryd.func39 rfl rfl ?_
        have e1 : n + 1 + (textT a).length + 3 + (textT b).length + 1 = n + (textT (.node 3 0 [a, b])).length := by omega
        have e2 : xs ++ bL [40] ++ bL (textT a) ++ bL [32, 120, 32] ++ bL (textT b) ++ bL [41] = xs ++ bL (textT (.node 3 0 [a, b])) := by rw [htx]; simp [bL]
        rw [e1, e2] at ho5
        exact ⟨_, rfl, p6, c6, s6, by rw [e1], ho5, (H.pull 1 rfl).drop⟩
      · skip
        obtain ⟨rfl, hm1, hm2, a, rfl, hla⟩ : k = 4 ∧ 2 ≤ m ∧ m ≤ 8192 ∧ ∃ a, ks = [a] ∧ len a ≠ 0 := by
          rcases hgf with h | h | h | h
          · exact absurd h.1 (by omega)
          · exact absurd h.1 (by omega)
          · exact absurd h.1 (by omega)
          · exact h
        obtain ⟨va, hva, hia⟩ := hk.get (i := 0) (t := a) rfl
        have hxl := hk.len
        have hl1 : [a].length = 1 := rfl
        obtain ⟨pb, po, rfl⟩ := spot_some hs (by omega)
        rw [partsL, partsL] at hpp
        have hta := text_len _ a (Nat.le_refl _) hla
        have htx := text_b4 (n := m) (a := a)
        have hil := itoa_len (i := m) ⟨by omega, by omega⟩
        have hlen : (textT (.node 4 m [a])).length = (Lib.itoa m).length + (textT a).length + 3 := by rw [htx]; simp; omega
        refine J.skip ?_
        refine J.inBlock ?_
        refine J.seq ?_
        refine J.held (fun w => Hp w0 w ([(b3, cel (tv 4 m (some ⟨pb, po, none⟩) [a].length e) 25)] :: F)) hmix fun w hs => ?_
        replace H := H.same hs; clear hs
        have hS : Hp w0 w ([(b3, cel (tv 4 m (some ⟨pb, po, none⟩) [a].length e) 25)] :: F) := by first | exact H | exact H.drop | exact H.drop.drop | exact H.drop.drop.drop | exact H.drop.drop.drop.drop | exact H.drop.drop.drop.drop.drop | exact H.drop.drop.drop.drop.drop.drop | exact H.drop.drop.drop.drop.drop.drop.drop | exact H.drop.drop.drop.drop.drop.drop.drop.drop
        refine JH.take 0 (listed' := [true, false, false, false, false, false, false]) rfl (by kernel_rfl) (by kernel_rfl) (by kernel_rfl) rfl trivial (fun w H => RX.movev (v := Value.slice _ _ _) rfl) hS ?_
        refine JH.take 3 (listed' := [true, false, false, true, false, false, false]) rfl (by kernel_rfl) (by kernel_rfl) (by kernel_rfl) rfl trivial (fun w H => RX.fieldAddr rfl fo25_1 rfl) hS ?_
        refine JH.take 4 (listed' := [true, false, false, true, true, false, false]) rfl (by kernel_rfl) (by kernel_rfl) (by kernel_rfl) rfl trivial (fun w H => RX.load H rfl (i := 0) (v := .int .i64 m) rfl rfl one3) hS ?_
        refine JH.all [1] (by kernel_rfl) (by decide) ?_
        refine JHO.does (listed' := [true, true, false, true, true, false, false]) rfl rfl trivial (EX.buildSlice1 (v := Value.int _ _) H elB rfl rfl) ?_
        rintro _ w ⟨br, rfl, H⟩
        have hS : Hp w0 w ([(b3, cel (tv 4 m (some ⟨pb, po, none⟩) [a].length e) 25)] :: F) := by first | exact H | exact H.drop | exact H.drop.drop | exact H.drop.drop.drop | exact H.drop.drop.drop.drop | exact H.drop.drop.drop.drop.drop | exact H.drop.drop.drop.drop.drop.drop | exact H.drop.drop.drop.drop.drop.drop.drop | exact H.drop.drop.drop.drop.drop.drop.drop.drop
        refine ⟨hS, ?_⟩
        refine JH.all [2] (by kernel_rfl) (by decide) ?_
        refine JHO.does (listed' := [true, true, true, true, true, false, false]) rfl rfl trivial (EX.appendZ (m := 1) (ys := bL [98]) H elB rfl rfl (src_slice (e' := 5) H ud64 (SlAt.here rfl) rfl (bL_cell _)) (i := 1) rfl ho (by omega) (fun _ => rfl)) ?_
        rintro _ w ⟨p2, c2, s2, rfl, ho1, H⟩
        replace H := H.drop
        have hS : Hp w0 w ([(b3, cel (tv 4 m (some ⟨pb, po, none⟩) [a].length e) 25)] :: F) := by first | exact H | exact H.drop | exact H.drop.drop | exact H.drop.drop.drop | exact H.drop.drop.drop.drop | exact H.drop.drop.drop.drop.drop | exact H.drop.drop.drop.drop.drop.drop | exact H.drop.drop.drop.drop.drop.drop.drop | exact H.drop.drop.drop.drop.drop.drop.drop.drop
        refine ⟨hS, ?_⟩
        refine JH.all [5] (by kernel_rfl) (by decide) ?_
        refine JHO.does (listed' := [true, true, true, true, true, true, false]) rfl rfl trivial (EX.call rfl cl50 rfl ((appInt_b H ho1 hg.cons (by omega) (by omega) (by omega)))) ?_
        rintro _ w ⟨p3, c3, s3, rfl, ho2, H⟩
        have hS : Hp w0 w ([(b3, cel (tv 4 m (some ⟨pb, po, none⟩) [a].length e) 25)] :: F) := by first | exact H | exact H.drop | exact H.drop.drop | exact H.drop.drop.drop | exact H.drop.drop.drop.drop | exact H.drop.drop.drop.drop.drop | exact H.drop.drop.drop.drop.drop.drop | exact H.drop.drop.drop.drop.drop.drop.drop | exact H.drop.drop.drop.drop.drop.drop.drop.drop
        refine ⟨hS, ?_⟩
        refine JH.take 6 (listed' := [true, true, true, true, true, true, true]) rfl (by kernel_rfl) (by kernel_rfl) (by kernel_rfl) rfl trivial (fun w H => RX.assignv (v := Value.slice _ _ _) rfl) hS ?_
        refine JH.done (by kernel_rfl) ?_
        refine J.seq ?_
        refine J.held (fun w => Hp w0 w ([(b3, cel (tv 4 m (some ⟨pb, po, none⟩) [a].length e) 25)] :: F)) hmix fun w hs => ?_
        replace H := H.same hs; clear hs
        have hS : Hp w0 w ([(b3, cel (tv 4 m (some ⟨pb, po, none⟩) [a].length e) 25)] :: F) := by first | exact H | exact H.drop | exact H.drop.drop | exact H.drop.drop.drop | exact (H.drop.pull 1 rfl).drop | exact (H.drop.drop.pull 1 rfl).drop | exact (H.drop.drop.drop.pull 1 rfl).drop
        refine JH.take 0 (listed' := [true, false, false, false, false, false, false, false, false, false, false]) rfl (by kernel_rfl) (by kernel_rfl) (by kernel_rfl) rfl trivial (fun w H => RX.movev (v := Value.slice _ _ _) rfl) hS ?_
        refine JH.take 3 (listed' := [true, false, false, true, false, false, false, false, false, false, false]) rfl (by kernel_rfl) (by kernel_rfl) (by kernel_rfl) rfl trivial (fun w H => RX.fieldAddr rfl fo25_2 rfl) hS ?_
        refine JH.take 4 (listed' := [true, false, false, true, true, false, false, false, false, false, false]) rfl (by kernel_rfl) (by kernel_rfl) (by kernel_rfl) rfl trivial (fun w H => RX.load H rfl (i := 0) (v := .slice (some ⟨pb, po, none⟩) [a].length e) rfl rfl one23) hS ?_
        refine JH.take 5 (listed' := [true, false, false, true, true, true, false, false, false, false, false]) rfl (by kernel_rfl) (by kernel_rfl) (by kernel_rfl) rfl trivial (fun w H => RX.indexAddr rfl rfl sl23 (by omega) (by omega) (o' := po + 0 * 3) (by omega)) hS ?_
        refine JH.take 6 (listed' := [true, false, false, true, true, true, true, false, false, false, false]) rfl (by kernel_rfl) (by kernel_rfl) (by kernel_rfl) rfl trivial (fun w H => RX.loadAggS H hs.cons rfl (j := 0 * 3) (by omega) (vs := va) hva ag25) hS ?_
        refine JH.all [1, 8] (by kernel_rfl) (by decide) ?_
        refine ⟨?_, ?_⟩
        · skip
          refine JHO.does (listed' := [true, true, false, true, true, true, true, false, false, false, false]) rfl rfl trivial (EX.buildSlice1 (v := Value.int _ _) H elB rfl rfl) ?_
          rintro _ w ⟨bo, rfl, H⟩
          have hS : Hp w0 w ([(b3, cel (tv 4 m (some ⟨pb, po, none⟩) [a].length e) 25)] :: F) := by first | exact H | exact H.drop | exact H.drop.drop | exact H.drop.drop.drop | exact (H.drop.pull 1 rfl).drop | exact (H.drop.drop.pull 1 rfl).drop | exact (H.drop.drop.drop.pull 1 rfl).drop
          refine ⟨hS, ?_⟩
          refine JH.all [2, 8] (by kernel_rfl) (by decide) ?_
          refine ⟨?_, ?_⟩
          · skip
            refine JHO.does (listed' := [true, true, true, true, true, true, true, false, false, false, false]) rfl rfl trivial (EX.appendZ (m := 1) (ys := bL [40]) H elB rfl rfl (src_slice (e' := 5) H ud64 (SlAt.here rfl) rfl (bL_cell _)) (i := 1) rfl ho2 (by omega) (fun _ => rfl)) ?_
            rintro _ w ⟨p4, c4, s4, rfl, ho3, H⟩
            replace H := H.drop
            have hS : Hp w0 w ([(b3, cel (tv 4 m (some ⟨pb, po, none⟩) [a].length e) 25)] :: F) := by first | exact H | exact H.drop | exact H.drop.drop | exact H.drop.drop.drop | exact (H.drop.pull 1 rfl).drop | exact (H.drop.drop.pull 1 rfl).drop | exact (H.drop.drop.drop.pull 1 rfl).drop
            refine ⟨hS, ?_⟩
            refine JH.all [7, 8] (by kernel_rfl) (by decide) ?_
            refine ⟨?_, ?_⟩
            · skip
              refine JHO.does (listed' := [true, true, true, true, true, true, true, true, false, false, false]) rfl rfl trivial (EX.call rfl cl39 rfl ((by first | exact ih a (by omega) hla (by omega) _ _ _ _ _ _ _ _ _ (by omega) H ho3 hia.cons hg.cons | exact ih a (by omega) hla (by omega) _ _ _ _ _ _ _ _ _ (by omega) H ho3 hia.cons.cons hg.cons.cons))) ?_
              rintro _ w ⟨p5, c5, s5, rfl, ho4, H⟩
              have hS : Hp w0 w ([(b3, cel (tv 4 m (some ⟨pb, po, none⟩) [a].length e) 25)] :: F) := by first | exact H | exact H.drop | exact H.drop.drop | exact H.drop.drop.drop | exact (H.drop.pull 1 rfl).drop | exact (H.drop.drop.pull 1 rfl).drop | exact (H.drop.drop.drop.pull 1 rfl).drop
              refine ⟨hS, ?_⟩
              refine JH.all [8] (by kernel_rfl) (by decide) ?_
              refine JHO.does (listed' := [true, true, true, true, true, true, true, true, true, false, false]) rfl rfl trivial (EX.buildSlice1 (v := Value.int _ _) H elB rfl rfl) ?_
              rintro _ w ⟨bc, rfl, H⟩
              first
              | replace H : Hp w0 w (_ :: [(b3, cel (tv 4 m (some ⟨pb, po, none⟩) [a].length e) 25)] :: [(bc, cel [.int .u8 41] 5)] :: F) := (H.pull 2 rfl).pull 2 rfl
              | replace H : Hp w0 w (_ :: _ :: [(b3, cel (tv 4 m (some ⟨pb, po, none⟩) [a].length e) 25)] :: [(bc, cel [.int .u8 41] 5)] :: F) := ((H.pull 3 rfl).pull 3 rfl).pull 3 rfl
              have hS : Hp w0 w ([(b3, cel (tv 4 m (some ⟨pb, po, none⟩) [a].length e) 25)] :: F) := by first | exact H | exact H.drop | exact H.drop.drop | exact H.drop.drop.drop | exact (H.drop.pull 1 rfl).drop | exact (H.drop.drop.pull 1 rfl).drop | exact (H.drop.drop.drop.pull 1 rfl).drop
              refine ⟨hS, ?_⟩
              refine JH.all [9] (by kernel_rfl) (by decide) ?_
              refine JHO.does (listed' := [true, true, true, true, true, true, true, true, true, true, false]) rfl rfl trivial (EX.appendZ (m := 1) (ys := bL [41]) H elB rfl rfl (src_slice (e' := 5) H ud64 (SlAt.cons (SlAt.cons (SlAt.here rfl))) rfl (bL_cell _)) (i := 0) rfl ho4 (by omega) (fun _ => rfl)) ?_
              rintro _ w ⟨p6, c6, s6, rfl, ho5, H⟩
              have hS : Hp w0 w ([(b3, cel (tv 4 m (some ⟨pb, po, none⟩) [a].length e) 25)] :: F) := by first | exact H | exact H.drop | exact H.drop.drop | exact H.drop.drop.drop | exact (H.drop.pull 1 rfl).drop | exact (H.drop.drop.pull 1 rfl).drop | exact (H.drop.drop.drop.pull 1 rfl).drop
              refine ⟨hS, ?_⟩
              refine JH.take 10 (listed' := [true, true, true, true, true, true, true, true, true, true, true]) rfl (by kernel_rfl) (by kernel_rfl) (by kernel_rfl) rfl trivial (fun w H => RX.assignv (v := Value.slice _ _ _) rfl) hS ?_
              refine JH.done (by kernel_rfl) ?_
              refine J.ret1 (v := Value.slice _ _ _) Tryd.func39 rfl rfl ?_
              have e1 : n + 1 + (Lib.itoa m).length + 1 + (textT a).length + 1 = n + (textT (.node 4 m [a])).length := by omega
              have e2 : xs ++ bL [98] ++ bL (Lib.itoa m) ++ bL [40] ++ bL (textT a) ++ bL [41] = xs ++ bL (textT (.node 4 m [a])) := by rw [htx]; simp [bL]
              rw [e1, e2] at ho5
              exact ⟨_, rfl, p6, c6, s6, by rw [e1], ho5, (((H.pull 1 rfl).drop.pull 1 rfl).drop)⟩
            · skip
              refine JHO.does (listed' := [true, true, true, true, true, true, true, false, true, false, false]) rfl rfl trivial (EX.buildSlice1 (v := Value.int _ _) H elB rfl rfl) ?_
              rintro _ w ⟨bc, rfl, H⟩
              first
              | replace H : Hp w0 w (_ :: [(b3, cel (tv 4 m (some ⟨pb, po, none⟩) [a].length e) 25)] :: [(bc, cel [.int .u8 41] 5)] :: F) := (H.pull 2 rfl).pull 2 rfl
              | replace H : Hp w0 w (_ :: _ :: [(b3, cel (tv 4 m (some ⟨pb, po, none⟩) [a].length e) 25)] :: [(bc, cel [.int .u8 41] 5)] :: F) := ((H.pull 3 rfl).pull 3 rfl).pull 3 rfl
              have hS : Hp w0 w ([(b3, cel (tv 4 m (some ⟨pb, po, none⟩) [a].length e) 25)] :: F) := by first | exact H | exact H.drop | exact H.drop.drop | exact H.drop.drop.drop | exact (H.drop.pull 1 rfl).drop | exact (H.drop.drop.pull 1 rfl).drop | exact (H.drop.drop.drop.pull 1 rfl).drop
              refine ⟨hS, ?_⟩
              refine JH.all [7] (by kernel_rfl) (by decide) ?_
              refine JHO.does (listed' := [true, true, true, true, true, true, true, true, true, false, false]) rfl rfl trivial (EX.call rfl cl39 rfl ((by first | exact ih a (by omega) hla (by omega) _ _ _ _ _ _ _ _ _ (by omega) H ho3 hia.cons hg.cons | exact ih a (by omega) hla (by omega) _ _ _ _ _ _ _ _ _ (by omega) H ho3 hia.cons.cons hg.cons.cons))) ?_
              rintro _ w ⟨p5, c5, s5, rfl, ho4, H⟩
              have hS : Hp w0 w ([(b3, cel (tv 4 m (some ⟨pb, po, none⟩) [a].length e) 25)] :: F) := by first | exact H | exact H.drop | exact H.drop.drop | exact H.drop.drop.drop | exact (H.drop.pull 1 rfl).drop | exact (H.drop.drop.pull 1 rfl).drop | exact (H.drop.drop.drop.pull 1 rfl).drop
              refine ⟨hS, ?_⟩
              refine JH.all [9] (by kernel_rfl) (by decide) ?_
              refine JHO.does (listed' := [true, true, true, true, true, true, true, true, true, true, false]) rfl rfl trivial (EX.appendZ (m := 1) (ys := bL [41]) H elB rfl rfl (src_slice (e' := 5) H ud64 (SlAt.cons (SlAt.cons (SlAt.here rfl))) rfl (bL_cell _)) (i := 0) rfl ho4 (by omega) (fun _ => rfl)) ?_
              rintro _ w ⟨p6, c6, s6, rfl, ho5, H⟩
              have hS : Hp w0 w ([(b3, cel (tv 4 m (some ⟨pb, po, none⟩) [a].length e) 25)] :: F) := by first | exact H | exact H.drop | exact H.drop.drop | exact H.drop.drop.drop | exact (H.drop.pull 1 rfl).drop | exact (H.drop.drop.pull 1 rfl).drop | exact (H.drop.drop.drop.pull 1 rfl).drop
              refine ⟨hS, ?_⟩
              refine JH.take 10 (listed' := [true, true, true, true, true, true, true, true, true, true, true]) rfl (by kernel_rfl) (by kernel_rfl) (by kernel_rfl) rfl trivial (fun w H => RX.assignv (v := Value.slice _ _ _) rfl) hS ?_
              refine JH.done (by kernel_rfl) ?_
              refine J.ret1 (v := Value.slice _ _ _) Tryd.func39 rfl rfl ?_
              have e1 : n + 1 + (Lib.itoa m).length + 1 + (textT a).length + 1 = n + (textT (.node 4 m [a])).length := by omega
              have e2 : xs ++ bL [98] ++ bL (Lib.itoa m) ++ bL [40] ++ bL (textT a) ++ bL [41] = xs ++ bL (textT (.node 4 m [a])) := by rw [htx]; simp [bL]
              rw [e1, e2] at ho5
              exact ⟨_, rfl, p6, c6, s6, by rw [e1], ho5, (((H.pull 1 rfl).drop.pull 1 rfl).drop)⟩
          · skip
            refine JHO.does (listed' := [true, true, false, true, true, true, true, false, true, false, false]) rfl rfl trivial (EX.buildSlice1 (v := Value.int _ _) H elB rfl rfl) ?_
            rintro _ w ⟨bc, rfl, H⟩
            first
            | replace H : Hp w0 w (_ :: [(b3, cel (tv 4 m (some ⟨pb, po, none⟩) [a].length e) 25)] :: [(bc, cel [.int .u8 41] 5)] :: F) := (H.pull 2 rfl).pull 2 rfl
            | replace H : Hp w0 w (_ :: _ :: [(b3, cel (tv 4 m (some ⟨pb, po, none⟩) [a].length e) 25)] :: [(bc, cel [.int .u8 41] 5)] :: F) := ((H.pull 3 rfl).pull 3 rfl).pull 3 rfl
            have hS : Hp w0 w ([(b3, cel (tv 4 m (some ⟨pb, po, none⟩) [a].length e) 25)] :: F) := by first | exact H | exact H.drop | exact H.drop.drop | exact H.drop.drop.drop | exact (H.drop.pull 1 rfl).drop | exact (H.drop.drop.pull 1 rfl).drop | exact (H.drop.drop.drop.pull 1 rfl).drop
            refine ⟨hS, ?_⟩
            refine JH.all [2] (by kernel_rfl) (by decide) ?_
            refine JHO.does (listed' := [true, true, true, true, true, true, true, false, true, false, false]) rfl rfl trivial (EX.appendZ (m := 1) (ys := bL [40]) H elB rfl rfl (src_slice (e' := 5) H ud64 (SlAt.here rfl) rfl (bL_cell _)) (i := 1) rfl ho2 (by omega) (fun _ => rfl)) ?_
            rintro _ w ⟨p4, c4, s4, rfl, ho3, H⟩
            replace H := H.drop
            have hS : Hp w0 w ([(b3, cel (tv 4 m (some ⟨pb, po, none⟩) [a].length e) 25)] :: F) := by first | exact H | exact H.drop | exact H.drop.drop | exact H.drop.drop.drop | exact (H.drop.pull 1 rfl).drop | exact (H.drop.drop.pull 1 rfl).drop | exact (H.drop.drop.drop.pull 1 rfl).drop
            refine ⟨hS, ?_⟩
            refine JH.all [7] (by kernel_rfl) (by decide) ?_
            refine JHO.does (listed' := [true, true, true, true, true, true, true, true, true, false, false]) rfl rfl trivial (EX.call rfl cl39 rfl ((by first | exact ih a (by omega) hla (by omega) _ _ _ _ _ _ _ _ _ (by omega) H ho3 hia.cons hg.cons | exact ih a (by omega) hla (by omega) _ _ _ _ _ _ _ _ _ (by omega) H ho3 hia.cons.cons hg.cons.cons))) ?_
            rintro _ w ⟨p5, c5, s5, rfl, ho4, H⟩
            have hS : Hp w0 w ([(b3, cel (tv 4 m (some ⟨pb, po, none⟩) [a].length e) 25)] :: F) := by first | exact H | exact H.drop | exact H.drop.drop | exact H.drop.drop.drop | exact (H.drop.pull 1 rfl).drop | exact (H.drop.drop.pull 1 rfl).drop | exact (H.drop.drop.drop.pull 1 rfl).drop
            refine ⟨hS, ?_⟩
            refine JH.all [9] (by kernel_rfl) (by decide) ?_
            refine JHO.does (listed' := [true, true, true, true, true, true, true, true, true, true, false]) rfl rfl trivial (EX.appendZ (m := 1) (ys := bL [41]) H elB rfl rfl (src_slice (e' := 5) H ud64 (SlAt.cons (SlAt.cons (SlAt.here rfl))) rfl (bL_cell _)) (i := 0) rfl ho4 (by omega) (fun _ => rfl)) ?_
            rintro _ w ⟨p6, c6, s6, rfl, ho5, H⟩
            have hS : Hp w0 w ([(b3, cel (tv 4 m (some ⟨pb, po, none⟩) [a].length e) 25)] :: F) := by first | exact H | exact H.drop | exact H.drop.drop | exact H.drop.drop.drop | exact (H.drop.pull 1 rfl).drop | exact (H.drop.drop.pull 1 rfl).drop | exact (H.drop.drop.drop.pull 1 rfl).drop
            refine ⟨hS, ?_⟩
            refine JH.take 10 (listed' := [true, true, true, true, true, true, true, true, true, true, true]) rfl (by kernel_rfl) (by kernel_rfl) (by kernel_rfl) rfl trivial (fun w H => RX.assignv (v := Value.slice _ _ _) rfl) hS ?_
            refine JH.done (by kernel_rfl) ?_
            refine J.ret1 (v := Value.slice _ _ _) Tryd.func39 rfl rfl ?_
            have e1 : n + 1 + (Lib.itoa m).length + 1 + (textT a).length + 1 = n + (textT (.node 4 m [a])).length := by omega
            have e2 : xs ++ bL [98] ++ bL (Lib.itoa m) ++ bL [40] ++ bL (textT a) ++ bL [41] = xs ++ bL (textT (.node 4 m [a])) := by rw [htx]; simp [bL]
            rw [e1, e2] at ho5
            exact ⟨_, rfl, p6, c6, s6, by rw [e1], ho5, (((H.pull 1 rfl).drop.pull 1 rfl).drop)⟩
        · skip
          refine JHO.does (listed' := [true, false, false, true, true, true, true, false, true, false, false]) rfl rfl trivial (EX.buildSlice1 (v := Value.int _ _) H elB rfl rfl) ?_
          rintro _ w ⟨bc, rfl, H⟩
          first
          | replace H : Hp w0 w (_ :: [(b3, cel (tv 4 m (some ⟨pb, po, none⟩) [a].length e) 25)] :: [(bc, cel [.int .u8 41] 5)] :: F) := (H.pull 2 rfl).pull 2 rfl
          | replace H : Hp w0 w (_ :: _ :: [(b3, cel (tv 4 m (some ⟨pb, po, none⟩) [a].length e) 25)] :: [(bc, cel [.int .u8 41] 5)] :: F) := ((H.pull 3 rfl).pull 3 rfl).pull 3 rfl
          have hS : Hp w0 w ([(b3, cel (tv 4 m (some ⟨pb, po, none⟩) [a].length e) 25)] :: F) := by first | exact H | exact H.drop | exact H.drop.drop | exact H.drop.drop.drop | exact (H.drop.pull 1 rfl).drop | exact (H.drop.drop.pull 1 rfl).drop | exact (H.drop.drop.drop.pull 1 rfl).drop
          refine ⟨hS, ?_⟩
          refine JH.all [1] (by kernel_rfl) (by decide) ?_
          refine JHO.does (listed' := [true, true, false, true, true, true, true, false, true, false, false]) rfl rfl trivial (EX.buildSlice1 (v := Value.int _ _) H elB rfl rfl) ?_
          rintro _ w ⟨bo, rfl, H⟩
          have hS : Hp w0 w ([(b3, cel (tv 4 m (some ⟨pb, po, none⟩) [a].length e) 25)] :: F) := by first | exact H | exact H.drop | exact H.drop.drop | exact H.drop.drop.drop | exact (H.drop.pull 1 rfl).drop | exact (H.drop.drop.pull 1 rfl).drop | exact (H.drop.drop.drop.pull 1 rfl).drop
          refine ⟨hS, ?_⟩
          refine JH.all [2] (by kernel_rfl) (by decide) ?_
          refine JHO.does (listed' := [true, true, true, true, true, true, true, false, true, false, false]) rfl rfl trivial (EX.appendZ (m := 1) (ys := bL [40]) H elB rfl rfl (src_slice (e' := 5) H ud64 (SlAt.here rfl) rfl (bL_cell _)) (i := 1) rfl ho2 (by omega) (fun _ => rfl)) ?_
          rintro _ w ⟨p4, c4, s4, rfl, ho3, H⟩
          replace H := H.drop
          have hS : Hp w0 w ([(b3, cel (tv 4 m (some ⟨pb, po, none⟩) [a].length e) 25)] :: F) := by first | exact H | exact H.drop | exact H.drop.drop | exact H.drop.drop.drop | exact (H.drop.pull 1 rfl).drop | exact (H.drop.drop.pull 1 rfl).drop | exact (H.drop.drop.drop.pull 1 rfl).drop
          refine ⟨hS, ?_⟩
          refine JH.all [7] (by kernel_rfl) (by decide) ?_
          refine JHO.does (listed' := [true, true, true, true, true, true, true, true, true, false, false]) rfl rfl trivial (EX.call rfl cl39 rfl ((by first | exact ih a (by omega) hla (by omega) _ _ _ _ _ _ _ _ _ (by omega) H ho3 hia.cons hg.cons | exact ih a (by omega) hla (by omega) _ _ _ _ _ _ _ _ _ (by omega) H ho3 hia.cons.cons hg.cons.cons))) ?_
          rintro _ w ⟨p5, c5, s5, rfl, ho4, H⟩
          have hS : Hp w0 w ([(b3, cel (tv 4 m (some ⟨pb, po, none⟩) [a].length e) 25)] :: F) := by first | exact H | exact H.drop | exact H.drop.drop | exact H.drop.drop.drop | exact (H.drop.pull 1 rfl).drop | exact (H.drop.drop.pull 1 rfl).drop | exact (H.drop.drop.drop.pull 1 rfl).drop
          refine ⟨hS, ?_⟩
          refine JH.all [9] (by kernel_rfl) (by decide) ?_
          refine JHO.does (listed' := [true, true, true, true, true, true, true, true, true, true, false]) rfl rfl trivial (EX.appendZ (m := 1) (ys := bL [41]) H elB rfl rfl (src_slice (e' := 5) H ud64 (SlAt.cons (SlAt.cons (SlAt.here rfl))) rfl (bL_cell _)) (i := 0) rfl ho4 (by omega) (fun _ => rfl)) ?_
          rintro _ w ⟨p6, c6, s6, rfl, ho5, H⟩
          have hS : Hp w0 w ([(b3, cel (tv 4 m (some ⟨pb, po, none⟩) [a].length e) 25)] :: F) := by first | exact H | exact H.drop | exact H.drop.drop | exact H.drop.drop.drop | exact (H.drop.pull 1 rfl).drop | exact (H.drop.drop.pull 1 rfl).drop | exact (H.drop.drop.drop.pull 1 rfl).drop
          refine ⟨hS, ?_⟩
          refine JH.take 10 (listed' := [true, true, true, true, true, true, true, true, true, true, true]) rfl (by kernel_rfl) (by kernel_rfl) (by kernel_rfl) rfl trivial (fun w H => RX.assignv (v := Value.slice _ _ _) rfl) hS ?_
          refine JH.done (by kernel_rfl) ?_
          refine J.ret1 (v := Value.slice _ _ _) Tryd.func39 rfl rfl ?_
          have e1 : n + 1 + (Lib.itoa m).length + 1 + (textT a).length + 1 = n + (textT (.node 4 m [a])).length := by omega
          have e2 : xs ++ bL [98] ++ bL (Lib.itoa m) ++ bL [40] ++ bL (textT a) ++ bL [41] = xs ++ bL (textT (.node 4 m [a])) := by rw [htx]; simp [bL]
          rw [e1, e2] at ho5
          exact ⟨_, rfl, p6, c6, s6, by rw [e1], ho5, (((H.pull 1 rfl).drop.pull 1 rfl).drop)⟩
end Go.Proofs.YtinbeaaloailnaaDoor

/- Part 18 of the proof that WholeSmall holds: what the functions on its way do, step by step. -/
import Derived.Test.YtfaokllgaambjaaGreatDoorZ1
import Derived.Test.YtfaokllgaambjaaGreatDoorZ2
import Derived.Test.YtfaokllgaambjaaGreatDoorZ3
import Derived.Test.YtfaokllgaambjaaGreatDoorZ4
import Derived.Test.YtfaokllgaambjaaGreatDoorZ5
import Derived.Test.YtfaokllgaambjaaGreatDoorZ7
import Derived.Test.YtfaokllgaambjaaGreatDoorZ8
import Derived.Test.YtfaokllgaambjaaGreatDoorZ9
import Derived.Test.YtfaokllgaambjaaGreatDoorZ12
import Derived.Test.YtfaokllgaambjaaGreatDoorZ14
import Derived.Test.YtfaokllgaambjaaGreatDoorZ15
import Derived.Test.YtfaokllgaambjaaGreatDoorZ16
import Derived.Test.YtfaokllgaambjaaGreatDoorZ17
import Derived.Lib.ItoaLen
set_option linter.unusedVariables false
set_option linter.unusedSimpArgs false
namespace Go.Proofs.YtfaokllgaambjaaGreatDoor
open Go Go.Eng
set_option maxRecDepth 100000
set_option maxHeartbeats 1600000
theorem cl55 : callable Tryz.prog 55 = true := by kernel_rfl
theorem cl86 : callable Tryz.prog 86 = true := by kernel_rfl
namespace Oo
def textT (t : Tr) : List UInt8 :=
  match t with
  | .node k n ks =>
    if k = 1 then 100 :: Lib.itoa n
    else if k = 2 then 102 :: Lib.itoa n
    else if k = 3 then
      match ks with
      | [a, b] => 40 :: (textT a ++ ([32, 120, 32] ++ (textT b ++ [41])))
      | _ => []
    else
      match ks with
      | [a] => 98 :: (Lib.itoa n ++ (40 :: (textT a ++ [41])))
      | _ => []
termination_by t.parts
decreasing_by all_goals simp only [Tr.parts, partsL]; omega
theorem text_d {n : Int} {ks : List Tr} : textT (.node 1 n ks) = 100 :: Lib.itoa n := by rw [textT.eq_def]; dsimp only; rw [if_pos rfl]
theorem text_f {n : Int} {ks : List Tr} : textT (.node 2 n ks) = 102 :: Lib.itoa n := by rw [textT.eq_def]; dsimp only; rw [if_neg (by decide), if_pos rfl]
theorem text_x {n : Int} {a b : Tr} : textT (.node 3 n [a, b]) = 40 :: (textT a ++ ([32, 120, 32] ++ (textT b ++ [41]))) := by rw [textT.eq_def]; dsimp only; rw [if_neg (by decide), if_neg (by decide), if_pos rfl]
theorem text_b4 {n : Int} {a : Tr} : textT (.node 4 n [a]) = 98 :: (Lib.itoa n ++ (40 :: (textT a ++ [41]))) := by rw [textT.eq_def]; dsimp only; rw [if_neg (by decide), if_neg (by decide), if_neg (by decide)]
theorem good_form {k n : Int} {ks : List Tr} (h : len (.node k n ks) ≠ 0) : (k = 1 ∧ ks = [] ∧ 1 ≤ n ∧ n ≤ 64) ∨ (k = 2 ∧ ks = [] ∧ 2 ≤ n ∧ n ≤ 5) ∨ (k = 3 ∧ n = 0 ∧ ∃ a b, ks = [a, b] ∧ len a ≠ 0 ∧ len b ≠ 0) ∨ (k = 4 ∧ 2 ≤ n ∧ n ≤ 8192 ∧ ∃ a, ks = [a] ∧ len a ≠ 0) := by
 rw [len.eq_def] at h
 dsimp only at h
 split at h
 · rename_i hk
   split at h
   · rename_i hc
     exact .inl ⟨hk, List.eq_nil_of_length_eq_zero hc.2.2, hc.1, hc.2.1⟩
   · exact absurd rfl h
 · split at h
   · rename_i hk
     split at h
     · rename_i hc
       exact .inr (.inl ⟨hk, List.eq_nil_of_length_eq_zero hc.2.2, hc.1, hc.2.1⟩)
     · exact absurd rfl h
   · split at h
     · rename_i hk
       split at h
       · rename_i a b
         split at h
         · rename_i hn
           split at h
           · rename_i hc
             exact .inr (.inr (.inl ⟨hk, hn, a, b, rfl, by omega, by omega⟩))
           · exact absurd rfl h
         · exact absurd rfl h
       · exact absurd rfl h
     · split at h
       · rename_i hk
         split at h
         · rename_i a
           split at h
           · rename_i hn
             split at h
             · rename_i hc
               exact .inr (.inr (.inr ⟨hk, hn.1, hn.2, a, rfl, by omega⟩))
             · exact absurd rfl h
           · exact absurd rfl h
         · exact absurd rfl h
       · exact absurd rfl h
theorem itoa_len {i : Int} (h : i64ok i) : (Lib.itoa i).length ≤ 21 := Lib.itoa_length_le i h.1 h.2
theorem text_len : ∀ (m : Nat) (t : Tr), t.parts ≤ m → len t ≠ 0 → (textT t).length ≤ 40 * t.parts
  | 0, t, h, _ => by have := parts_pos t; omega
  | m + 1, t, h, hl => by
    obtain ⟨k, n, ks⟩ := t
    rcases good_form hl with ⟨rfl, rfl, h1, h2⟩ | ⟨rfl, rfl, h1, h2⟩ | ⟨rfl, rfl, a, b, rfl, ha, hb⟩ | ⟨rfl, h1, h2, a, rfl, ha⟩
    · have := itoa_len (i := n) ⟨by omega, by omega⟩
      rw [text_d, Tr.parts, partsL, List.length_cons]; omega
    · have := itoa_len (i := n) ⟨by omega, by omega⟩
      rw [text_f, Tr.parts, partsL, List.length_cons]; omega
    · rw [Tr.parts, partsL, partsL, partsL] at h ⊢
      have e1 := text_len m a (by omega) ha
      have e2 := text_len m b (by omega) hb
      rw [text_x]
      simp only [List.length_cons, List.length_append, List.length_nil]
      omega
    · rw [Tr.parts, partsL, partsL] at h ⊢
      have e1 := text_len m a (by omega) ha
      have := itoa_len (i := n) ⟨by omega, by omega⟩
      rw [text_b4]
      simp only [List.length_cons, List.length_append, List.length_nil]
      omega
def TextC (t : Tr) : Prop := len t ≠ 0 → t.parts ≤ 4194304 → ∀ (w0 w : World) (F : List Seg) (vs : List Value) (p : Option Addr) (n c : Nat) (xs : List Value) (s : Seg), n + 64 * t.parts ≤ 1099511627776 → Hp w0 w (s :: F) → OwnZ 5 p n c xs s → t.Is F vs → GTab F →
  Ret Tryz.prog 55 [.slice p n c, .agg vs.toArray] w fun v w' => ∃ p' c' s', v = .slice p' (n + (textT t).length) c' ∧ OwnZ 5 p' (n + (textT t).length) c' (xs ++ bL (textT t)) s' ∧ Hp w0 w' (s' :: F)
theorem text_step {k m : Int} {ks : List Tr} (ih : ∀ t, t.parts < (Tr.node k m ks).parts → TextC t) (hl : len (.node k m ks) ≠ 0) (hp : (Tr.node k m ks).parts ≤ 4194304) {w0 w : World} {F : List Seg} {p : Option Addr} {n c : Nat} {xs : List Value} {s : Seg} (hn : n + 64 * (Tr.node k m ks).parts ≤ 1099511627776) (H : Hp w0 w (s :: F)) (ho : OwnZ 5 p n c xs s) {q : Option Addr} {e : Nat} {ys : List Value} (hs : SlAt F q ys) (hk : KidsIs F ks ys) (hg : GTab F) : Ret Tryz.prog 55 [.slice p n c, .agg (tv k m q ks.length e).toArray] w fun v w' => ∃ p' c' s', v = .slice p' (n + (textT (.node k m ks)).length) c' ∧ OwnZ 5 p' (n + (textT (.node k m ks)).length) c' (xs ++ bL (textT (.node k m ks))) s' ∧ Hp w0 w' (s' :: F) := by
 refine Calls.of_J (n := 59) Tryz.func55 rfl rfl rfl (J.seq ?_)
 have hpp : (Tr.node k m ks).parts = 1 + partsL ks := by rw [Tr.parts]
 refine J.region (JL.e (EX.box (v := .agg _) H rfl rfl) ?_)
 rintro _ w ⟨b3, rfl, H⟩
 refine JL.g (RX.assign) (JL.nil (J.seq (J.seq (J.region (JL.g (RX.fieldAddr rfl fo39_0 rfl) (JL.g (RX.load H rfl (i := 0) (v := .int .i64 k) rfl rfl one3) (JL.nil ?_)))))))
 replace H := H.pull 1 rfl
 have hgf := good_form hl
 have hbl : ∀ c : UInt8, (bL [c]).length = 1 := fun _ => rfl
 refine J.block (J.seq (J.region (JL.g (RX.eq rfl rfl) (JL.ab rfl (JL.nil (J.cond_d rfl (fun hk1 => ?_) (fun hk1 => ?_)))))))
 ·
  obtain ⟨rfl, rfl, hm1, hm2⟩ : k = 1 ∧ ks = [] ∧ 1 ≤ m ∧ m ≤ 64 := by
    rcases hgf with h | h | h | h
    · exact h
    · exact absurd h.1 (by omega)
    · exact absurd h.1 (by omega)
    · exact absurd h.1 (by omega)
  refine J.seq (J.held (fun w => Hp w0 w ([(b3, cel (tv 1 m q ([] : List Tr).length e) 39)] :: F)) hmix fun w hs => ?_)
  replace H := H.same hs; clear hs
  have hS : Hp w0 w ([(b3, cel (tv 1 m q ([] : List Tr).length e) 39)] :: F) := H.drop
  refine JH.take 0 rfl (by kernel_rfl) (by kernel_rfl) (by kernel_rfl) rfl trivial (fun w H => RX.movev (v := .slice _ _ _) rfl) hS (JH.take 3 rfl (by kernel_rfl) (by kernel_rfl) (by kernel_rfl) rfl trivial (fun w H => RX.fieldAddr rfl fo39_1 rfl) hS (JH.take 4 rfl (by kernel_rfl) (by kernel_rfl) (by kernel_rfl) rfl trivial (fun w H => RX.load H rfl (i := 0) (v := .int .i64 m) rfl rfl one3) hS (JH.all [1] (by kernel_rfl) (by decide) (JHO.does rfl rfl trivial (EX.buildSlice1 (v := .int _ _) H elB rfl rfl) ?_))))
  rintro _ w ⟨br, rfl, H⟩
  have hS : Hp w0 w ([(b3, cel (tv 1 m q ([] : List Tr).length e) 39)] :: F) := H.drop.drop
  refine ⟨hS, ?_⟩
  refine JH.all [2] (by kernel_rfl) (by decide) (JHO.does rfl rfl trivial (EX.appendZ (m := 1) (ys := bL [100]) H elB rfl rfl (src_slice (e' := 5) H ud88 (SlAt.here rfl) rfl (bL_cell _)) (i := 1) rfl ho (by omega) (fun _ => rfl)) ?_)
  rintro _ w ⟨p2, c2, s2, rfl, ho1, H⟩
  replace H := H.drop
  have hS : Hp w0 w ([(b3, cel (tv 1 m q ([] : List Tr).length e) 39)] :: F) := H.drop
  refine ⟨hS, ?_⟩
  refine JH.all [5] (by kernel_rfl) (by decide) (JHO.does rfl rfl trivial (EX.call rfl cl86 rfl ((appInt_b H ho1 hg.cons (by omega) (by omega) (by omega)))) ?_)
  rintro _ w ⟨p3, c3, s3, rfl, ho2, H⟩
  have hS : Hp w0 w ([(b3, cel (tv 1 m q ([] : List Tr).length e) 39)] :: F) := H.drop
  refine ⟨hS, ?_⟩
  refine JH.take 6 rfl (by kernel_rfl) (by kernel_rfl) (by kernel_rfl) rfl trivial (fun w H => RX.assignv (v := .slice _ _ _) rfl) hS (JH.done (by kernel_rfl) (J.ret1 (v := .slice _ _ _) Tryz.func55 rfl rfl ?_))
  have e1 : n + 1 + (Lib.itoa m).length = n + (textT (.node 1 m [])).length := by rw [text_d]; simp; omega
  have e2 : xs ++ bL [100] ++ bL (Lib.itoa m) = xs ++ bL (textT (.node 1 m [])) := by rw [text_d]; simp [bL]
  rw [e1, e2] at ho2
  exact ⟨_, rfl, p3, c3, s3, by rw [e1], ho2, (H.pull 1 rfl).drop⟩
 ·
  refine J.seq (J.region (JL.g (RX.eq rfl rfl) (JL.ab rfl (JL.nil (J.cond_d rfl (fun hk2 => ?_) (fun hk2 => ?_))))))
  ·
   obtain ⟨rfl, rfl, hm1, hm2⟩ : k = 2 ∧ ks = [] ∧ 2 ≤ m ∧ m ≤ 5 := by
     rcases hgf with h | h | h | h
     · exact absurd h.1 (by omega)
     · exact h
     · exact absurd h.1 (by omega)
     · exact absurd h.1 (by omega)
   refine J.seq (J.held (fun w => Hp w0 w ([(b3, cel (tv 2 m q ([] : List Tr).length e) 39)] :: F)) hmix fun w hs => ?_)
   replace H := H.same hs; clear hs
   have hS : Hp w0 w ([(b3, cel (tv 2 m q ([] : List Tr).length e) 39)] :: F) := H.drop
   refine JH.take 0 rfl (by kernel_rfl) (by kernel_rfl) (by kernel_rfl) rfl trivial (fun w H => RX.movev (v := .slice _ _ _) rfl) hS (JH.take 3 rfl (by kernel_rfl) (by kernel_rfl) (by kernel_rfl) rfl trivial (fun w H => RX.fieldAddr rfl fo39_1 rfl) hS (JH.take 4 rfl (by kernel_rfl) (by kernel_rfl) (by kernel_rfl) rfl trivial (fun w H => RX.load H rfl (i := 0) (v := .int .i64 m) rfl rfl one3) hS (JH.all [1] (by kernel_rfl) (by decide) (JHO.does rfl rfl trivial (EX.buildSlice1 (v := .int _ _) H elB rfl rfl) ?_))))
   rintro _ w ⟨br, rfl, H⟩
   have hS : Hp w0 w ([(b3, cel (tv 2 m q ([] : List Tr).length e) 39)] :: F) := H.drop.drop
   refine ⟨hS, ?_⟩
   refine JH.all [2] (by kernel_rfl) (by decide) (JHO.does rfl rfl trivial (EX.appendZ (m := 1) (ys := bL [102]) H elB rfl rfl (src_slice (e' := 5) H ud88 (SlAt.here rfl) rfl (bL_cell _)) (i := 1) rfl ho (by omega) (fun _ => rfl)) ?_)
   rintro _ w ⟨p2, c2, s2, rfl, ho1, H⟩
   replace H := H.drop
   have hS : Hp w0 w ([(b3, cel (tv 2 m q ([] : List Tr).length e) 39)] :: F) := H.drop
   refine ⟨hS, ?_⟩
   refine JH.all [5] (by kernel_rfl) (by decide) (JHO.does rfl rfl trivial (EX.call rfl cl86 rfl ((appInt_b H ho1 hg.cons (by omega) (by omega) (by omega)))) ?_)
   rintro _ w ⟨p3, c3, s3, rfl, ho2, H⟩
   have hS : Hp w0 w ([(b3, cel (tv 2 m q ([] : List Tr).length e) 39)] :: F) := H.drop
   refine ⟨hS, ?_⟩
   refine JH.take 6 rfl (by kernel_rfl) (by kernel_rfl) (by kernel_rfl) rfl trivial (fun w H => RX.assignv (v := .slice _ _ _) rfl) hS (JH.done (by kernel_rfl) (J.ret1 (v := .slice _ _ _) Tryz.func55 rfl rfl ?_))
   have e1 : n + 1 + (Lib.itoa m).length = n + (textT (.node 2 m [])).length := by rw [text_f]; simp; omega
   have e2 : xs ++ bL [102] ++ bL (Lib.itoa m) = xs ++ bL (textT (.node 2 m [])) := by rw [text_f]; simp [bL]
   rw [e1, e2] at ho2
   exact ⟨_, rfl, p3, c3, s3, by rw [e1], ho2, (H.pull 1 rfl).drop⟩
  ·
   refine J.seq (J.region (JL.g (RX.eq rfl rfl) (JL.ab rfl (JL.nil (J.cond_d rfl (fun hk3 => ?_) (fun hk3 => ?_))))))
   ·
    obtain ⟨rfl, rfl, a, b, rfl, hla, hlb⟩ : k = 3 ∧ m = 0 ∧ ∃ a b, ks = [a, b] ∧ len a ≠ 0 ∧ len b ≠ 0 := by
      rcases hgf with h | h | h | h
      · exact absurd h.1 (by omega)
      · exact absurd h.1 (by omega)
      · exact h
      · exact absurd h.1 (by omega)
    obtain ⟨va, hva, hia⟩ := hk.get (i := 0) (t := a) rfl
    obtain ⟨vb, hvb, hib⟩ := hk.get (i := 1) (t := b) rfl
    have hxl := hk.len
    have hl2 : [a, b].length = 2 := rfl
    obtain ⟨pb, po, rfl⟩ := spot_some hs (by omega)
    rw [partsL, partsL, partsL] at hpp
    have hta := text_len _ a (Nat.le_refl _) hla
    have htb := text_len _ b (Nat.le_refl _) hlb
    have htx := text_x (n := 0) (a := a) (b := b)
    have hlen : (textT (.node 3 0 [a, b])).length = (textT a).length + (textT b).length + 5 := by rw [htx]; simp; omega
    refine J.seq (J.held (fun w => Hp w0 w ([(b3, cel (tv 3 0 (some ⟨pb, po, none⟩) [a, b].length e) 39)] :: F)) hmix fun w hs => ?_)
    replace H := H.same hs; clear hs
    have hS : Hp w0 w ([(b3, cel (tv 3 0 (some ⟨pb, po, none⟩) [a, b].length e) 39)] :: F) := H.drop
    refine JH.take 0 rfl (by kernel_rfl) (by kernel_rfl) (by kernel_rfl) rfl trivial (fun w H => RX.movev (v := .slice _ _ _) rfl) hS (JH.take 3 rfl (by kernel_rfl) (by kernel_rfl) (by kernel_rfl) rfl trivial (fun w H => RX.fieldAddr rfl fo39_2 rfl) hS (JH.take 4 rfl (by kernel_rfl) (by kernel_rfl) (by kernel_rfl) rfl trivial (fun w H => RX.load H rfl (i := 0) (v := .slice (some ⟨pb, po, none⟩) [a, b].length e) rfl rfl one37) hS (JH.take 5 rfl (by kernel_rfl) (by kernel_rfl) (by kernel_rfl) rfl trivial (fun w H => RX.indexAddr rfl rfl sl37 (by omega) (by omega) (o' := po + 0 * 3) (by omega)) hS (JH.take 6 rfl (by kernel_rfl) (by kernel_rfl) (by kernel_rfl) rfl trivial (fun w H => RX.loadAggS H hs.cons rfl (j := 0 * 3) (by omega) (vs := va) hva ag39) hS (JH.all [1] (by kernel_rfl) (by decide) (JHO.does rfl rfl trivial (EX.buildSlice1 (v := .int _ _) H elB rfl rfl) ?_))))))
    rintro _ w ⟨br, rfl, H⟩
    have hS : Hp w0 w ([(b3, cel (tv 3 0 (some ⟨pb, po, none⟩) [a, b].length e) 39)] :: F) := H.drop.drop
    refine ⟨hS, ?_⟩
    refine JH.all [2] (by kernel_rfl) (by decide) (JHO.does rfl rfl trivial (EX.appendZ (m := 1) (ys := bL [40]) H elB rfl rfl (src_slice (e' := 5) H ud88 (SlAt.here rfl) rfl (bL_cell _)) (i := 1) rfl ho (by omega) (fun _ => rfl)) ?_)
    rintro _ w ⟨p2, c2, s2, rfl, ho1, H⟩
    replace H := H.drop
    have hS : Hp w0 w ([(b3, cel (tv 3 0 (some ⟨pb, po, none⟩) [a, b].length e) 39)] :: F) := H.drop
    refine ⟨hS, ?_⟩
    refine JH.all [7] (by kernel_rfl) (by decide) (JHO.does rfl rfl trivial (EX.call rfl cl55 rfl ((ih a (by omega) hla (by omega) _ _ _ _ _ _ _ _ _ (by omega) H ho1 hia.cons hg.cons))) ?_)
    rintro _ w ⟨p3, c3, s3, rfl, ho2, H⟩
    have hS : Hp w0 w ([(b3, cel (tv 3 0 (some ⟨pb, po, none⟩) [a, b].length e) 39)] :: F) := H.drop
    refine ⟨hS, ?_⟩
    refine JH.take 8 rfl (by kernel_rfl) (by kernel_rfl) (by kernel_rfl) rfl trivial (fun w H => RX.assignv (v := .slice _ _ _) rfl) hS (JH.done (by kernel_rfl) (J.seq (J.held (fun w => Hp w0 w ([(b3, cel (tv 3 0 (some ⟨pb, po, none⟩) [a, b].length e) 39)] :: F)) hmix fun w hs => ?_)))
    replace H := H.same hs; clear hs
    have hS : Hp w0 w ([(b3, cel (tv 3 0 (some ⟨pb, po, none⟩) [a, b].length e) 39)] :: F) := H.drop
    refine JH.take 0 rfl (by kernel_rfl) (by kernel_rfl) (by kernel_rfl) rfl trivial (fun w H => RX.movev (v := .slice _ _ _) rfl) hS (JH.take 2 rfl (by kernel_rfl) (by kernel_rfl) (by kernel_rfl) rfl trivial (fun w H => RX.fieldAddr rfl fo39_2 rfl) hS (JH.take 3 rfl (by kernel_rfl) (by kernel_rfl) (by kernel_rfl) rfl trivial (fun w H => RX.load H rfl (i := 0) (v := .slice (some ⟨pb, po, none⟩) [a, b].length e) rfl rfl one37) hS (JH.take 4 rfl (by kernel_rfl) (by kernel_rfl) (by kernel_rfl) rfl trivial (fun w H => RX.indexAddr rfl rfl sl37 (by omega) (by omega) (o' := po + 1 * 3) (by omega)) hS (JH.take 5 rfl (by kernel_rfl) (by kernel_rfl) (by kernel_rfl) rfl trivial (fun w H => RX.loadAggS H hs.cons rfl (j := 1 * 3) (by omega) (vs := vb) hvb ag39) hS (JH.all [1] (by kernel_rfl) (by decide) (JHO.does rfl rfl trivial (EX.appendZ (m := 3) (ys := bL [32, 120, 32]) H elB rfl rfl (yv := .string ⟨[32, 120, 32].toArray⟩) (src_str [32, 120, 32]) (i := 0) rfl ho2 (by omega) (fun _ => rfl)) ?_))))))
    rintro _ w ⟨p4, c4, s4, rfl, ho3, H⟩
    have hS : Hp w0 w ([(b3, cel (tv 3 0 (some ⟨pb, po, none⟩) [a, b].length e) 39)] :: F) := H.drop
    refine ⟨hS, ?_⟩
    refine JH.all [6] (by kernel_rfl) (by decide) (JHO.does rfl rfl trivial (EX.call rfl cl55 rfl ((ih b (by omega) hlb (by omega) _ _ _ _ _ _ _ _ _ (by omega) H ho3 hib.cons hg.cons))) ?_)
    rintro _ w ⟨p5, c5, s5, rfl, ho4, H⟩
    have hS : Hp w0 w ([(b3, cel (tv 3 0 (some ⟨pb, po, none⟩) [a, b].length e) 39)] :: F) := H.drop
    refine ⟨hS, ?_⟩
    refine JH.take 7 rfl (by kernel_rfl) (by kernel_rfl) (by kernel_rfl) rfl trivial (fun w H => RX.assignv (v := .slice _ _ _) rfl) hS (JH.done (by kernel_rfl) (J.seq (J.region (JL.ms rfl (JL.e (EX.buildSlice1 (v := .int _ _) H elB rfl rfl) ?_)))))
    rintro _ w ⟨bc, rfl, H⟩
    refine JL.e (EX.appendZ (m := 1) (ys := bL [41]) H elB rfl rfl (src_slice (e' := 5) H ud88 (SlAt.here rfl) rfl (bL_cell _)) (i := 1) rfl ho4 (by omega) (fun _ => rfl)) ?_
    rintro _ w ⟨p6, c6, s6, rfl, ho5, H⟩
    replace H := H.drop
    refine JL.al rfl (JL.nil (J.ret1 (v := .slice _ _ _) Tryz.func55 rfl rfl ?_))
    have e1 : n + 1 + (textT a).length + 3 + (textT b).length + 1 = n + (textT (.node 3 0 [a, b])).length := by omega
    have e2 : xs ++ bL [40] ++ bL (textT a) ++ bL [32, 120, 32] ++ bL (textT b) ++ bL [41] = xs ++ bL (textT (.node 3 0 [a, b])) := by rw [htx]; simp [bL]
    rw [e1, e2] at ho5
    exact ⟨_, rfl, p6, c6, s6, by rw [e1], ho5, (H.pull 1 rfl).drop⟩
   ·
    obtain ⟨rfl, hm1, hm2, a, rfl, hla⟩ : k = 4 ∧ 2 ≤ m ∧ m ≤ 8192 ∧ ∃ a, ks = [a] ∧ len a ≠ 0 := by
      rcases hgf with h | h | h | h
      · exact absurd h.1 (by omega)
      · exact absurd h.1 (by omega)
      · exact absurd h.1 (by omega)
      · exact h
    obtain ⟨va, hva, hia⟩ := hk.get (i := 0) (t := a) rfl
    have hxl := hk.len
    have hl1 : [a].length = 1 := rfl
    obtain ⟨pb, po, rfl⟩ := spot_some hs (by omega)
    rw [partsL, partsL] at hpp
    have hta := text_len _ a (Nat.le_refl _) hla
    have htx := text_b4 (n := m) (a := a)
    have hil := itoa_len (i := m) ⟨by omega, by omega⟩
    have hlen : (textT (.node 4 m [a])).length = (Lib.itoa m).length + (textT a).length + 3 := by rw [htx]; simp; omega
    refine J.skip (J.inBlock (J.seq (J.held (fun w => Hp w0 w ([(b3, cel (tv 4 m (some ⟨pb, po, none⟩) [a].length e) 39)] :: F)) hmix fun w hs => ?_)))
    replace H := H.same hs; clear hs
    have hS : Hp w0 w ([(b3, cel (tv 4 m (some ⟨pb, po, none⟩) [a].length e) 39)] :: F) := H.drop
    refine JH.take 0 rfl (by kernel_rfl) (by kernel_rfl) (by kernel_rfl) rfl trivial (fun w H => RX.movev (v := .slice _ _ _) rfl) hS (JH.take 3 rfl (by kernel_rfl) (by kernel_rfl) (by kernel_rfl) rfl trivial (fun w H => RX.fieldAddr rfl fo39_1 rfl) hS (JH.take 4 rfl (by kernel_rfl) (by kernel_rfl) (by kernel_rfl) rfl trivial (fun w H => RX.load H rfl (i := 0) (v := .int .i64 m) rfl rfl one3) hS (JH.all [1] (by kernel_rfl) (by decide) (JHO.does rfl rfl trivial (EX.buildSlice1 (v := .int _ _) H elB rfl rfl) ?_))))
    rintro _ w ⟨br, rfl, H⟩
    have hS : Hp w0 w ([(b3, cel (tv 4 m (some ⟨pb, po, none⟩) [a].length e) 39)] :: F) := H.drop.drop
    refine ⟨hS, ?_⟩
    refine JH.all [2] (by kernel_rfl) (by decide) (JHO.does rfl rfl trivial (EX.appendZ (m := 1) (ys := bL [98]) H elB rfl rfl (src_slice (e' := 5) H ud88 (SlAt.here rfl) rfl (bL_cell _)) (i := 1) rfl ho (by omega) (fun _ => rfl)) ?_)
    rintro _ w ⟨p2, c2, s2, rfl, ho1, H⟩
    replace H := H.drop
    have hS : Hp w0 w ([(b3, cel (tv 4 m (some ⟨pb, po, none⟩) [a].length e) 39)] :: F) := H.drop
    refine ⟨hS, ?_⟩
    refine JH.all [5] (by kernel_rfl) (by decide) (JHO.does rfl rfl trivial (EX.call rfl cl86 rfl ((appInt_b H ho1 hg.cons (by omega) (by omega) (by omega)))) ?_)
    rintro _ w ⟨p3, c3, s3, rfl, ho2, H⟩
    have hS : Hp w0 w ([(b3, cel (tv 4 m (some ⟨pb, po, none⟩) [a].length e) 39)] :: F) := H.drop
    refine ⟨hS, ?_⟩
    refine JH.take 6 rfl (by kernel_rfl) (by kernel_rfl) (by kernel_rfl) rfl trivial (fun w H => RX.assignv (v := .slice _ _ _) rfl) hS (JH.done (by kernel_rfl) (J.seq (J.held (fun w => Hp w0 w ([(b3, cel (tv 4 m (some ⟨pb, po, none⟩) [a].length e) 39)] :: F)) hmix fun w hs => ?_)))
    replace H := H.same hs; clear hs
    have hS : Hp w0 w ([(b3, cel (tv 4 m (some ⟨pb, po, none⟩) [a].length e) 39)] :: F) := H.drop
    refine JH.take 0 rfl (by kernel_rfl) (by kernel_rfl) (by kernel_rfl) rfl trivial (fun w H => RX.movev (v := .slice _ _ _) rfl) hS (JH.take 3 rfl (by kernel_rfl) (by kernel_rfl) (by kernel_rfl) rfl trivial (fun w H => RX.fieldAddr rfl fo39_2 rfl) hS (JH.take 4 rfl (by kernel_rfl) (by kernel_rfl) (by kernel_rfl) rfl trivial (fun w H => RX.load H rfl (i := 0) (v := .slice (some ⟨pb, po, none⟩) [a].length e) rfl rfl one37) hS (JH.take 5 rfl (by kernel_rfl) (by kernel_rfl) (by kernel_rfl) rfl trivial (fun w H => RX.indexAddr rfl rfl sl37 (by omega) (by omega) (o' := po + 0 * 3) (by omega)) hS (JH.take 6 rfl (by kernel_rfl) (by kernel_rfl) (by kernel_rfl) rfl trivial (fun w H => RX.loadAggS H hs.cons rfl (j := 0 * 3) (by omega) (vs := va) hva ag39) hS (JH.all [1, 8] (by kernel_rfl) (by decide) (⟨?_, ?_⟩))))))
    ·
     refine JHO.does rfl rfl trivial (EX.buildSlice1 (v := .int _ _) H elB rfl rfl) ?_
     rintro _ w ⟨bo, rfl, H⟩
     have hS : Hp w0 w ([(b3, cel (tv 4 m (some ⟨pb, po, none⟩) [a].length e) 39)] :: F) := H.drop.drop
     refine ⟨hS, ?_⟩
     refine JH.all [2, 8] (by kernel_rfl) (by decide) (⟨?_, ?_⟩)
     ·
      refine JHO.does rfl rfl trivial (EX.appendZ (m := 1) (ys := bL [40]) H elB rfl rfl (src_slice (e' := 5) H ud88 (SlAt.here rfl) rfl (bL_cell _)) (i := 1) rfl ho2 (by omega) (fun _ => rfl)) ?_
      rintro _ w ⟨p4, c4, s4, rfl, ho3, H⟩
      replace H := H.drop
      have hS : Hp w0 w ([(b3, cel (tv 4 m (some ⟨pb, po, none⟩) [a].length e) 39)] :: F) := H.drop
      refine ⟨hS, ?_⟩
      refine JH.all [7, 8] (by kernel_rfl) (by decide) (⟨?_, ?_⟩)
      ·
       refine JHO.does rfl rfl trivial (EX.call rfl cl55 rfl ((ih a (by omega) hla (by omega) _ _ _ _ _ _ _ _ _ (by omega) H ho3 hia.cons hg.cons))) ?_
       rintro _ w ⟨p5, c5, s5, rfl, ho4, H⟩
       have hS : Hp w0 w ([(b3, cel (tv 4 m (some ⟨pb, po, none⟩) [a].length e) 39)] :: F) := H.drop
       refine ⟨hS, ?_⟩
       refine JH.all [8] (by kernel_rfl) (by decide) (JHO.does rfl rfl trivial (EX.buildSlice1 (v := .int _ _) H elB rfl rfl) ?_)
       rintro _ w ⟨bc, rfl, H⟩
       first
       | replace H : Hp w0 w (_ :: [(b3, cel (tv 4 m (some ⟨pb, po, none⟩) [a].length e) 39)] :: [(bc, cel [.int .u8 41] 5)] :: F) := (H.pull 2 rfl).pull 2 rfl
       | replace H : Hp w0 w (_ :: _ :: [(b3, cel (tv 4 m (some ⟨pb, po, none⟩) [a].length e) 39)] :: [(bc, cel [.int .u8 41] 5)] :: F) := ((H.pull 3 rfl).pull 3 rfl).pull 3 rfl
       have hS : Hp w0 w ([(b3, cel (tv 4 m (some ⟨pb, po, none⟩) [a].length e) 39)] :: F) := (H.drop.pull 1 rfl).drop
       refine ⟨hS, ?_⟩
       refine JH.all [9] (by kernel_rfl) (by decide) (JHO.does rfl rfl trivial (EX.appendZ (m := 1) (ys := bL [41]) H elB rfl rfl (src_slice (e' := 5) H ud88 (SlAt.cons (SlAt.cons (SlAt.here rfl))) rfl (bL_cell _)) (i := 0) rfl ho4 (by omega) (fun _ => rfl)) ?_)
       rintro _ w ⟨p6, c6, s6, rfl, ho5, H⟩
       have hS : Hp w0 w ([(b3, cel (tv 4 m (some ⟨pb, po, none⟩) [a].length e) 39)] :: F) := (H.drop.pull 1 rfl).drop
       refine ⟨hS, ?_⟩
       refine JH.take 10 rfl (by kernel_rfl) (by kernel_rfl) (by kernel_rfl) rfl trivial (fun w H => RX.assignv (v := .slice _ _ _) rfl) hS (JH.done (by kernel_rfl) (J.ret1 (v := .slice _ _ _) Tryz.func55 rfl rfl ?_))
       have e1 : n + 1 + (Lib.itoa m).length + 1 + (textT a).length + 1 = n + (textT (.node 4 m [a])).length := by omega
       have e2 : xs ++ bL [98] ++ bL (Lib.itoa m) ++ bL [40] ++ bL (textT a) ++ bL [41] = xs ++ bL (textT (.node 4 m [a])) := by rw [htx]; simp [bL]
       rw [e1, e2] at ho5
       exact ⟨_, rfl, p6, c6, s6, by rw [e1], ho5, (((H.pull 1 rfl).drop.pull 1 rfl).drop)⟩
      ·
       refine JHO.does rfl rfl trivial (EX.buildSlice1 (v := .int _ _) H elB rfl rfl) ?_
       rintro _ w ⟨bc, rfl, H⟩
       first
       | replace H : Hp w0 w (_ :: [(b3, cel (tv 4 m (some ⟨pb, po, none⟩) [a].length e) 39)] :: [(bc, cel [.int .u8 41] 5)] :: F) := (H.pull 2 rfl).pull 2 rfl
       | replace H : Hp w0 w (_ :: _ :: [(b3, cel (tv 4 m (some ⟨pb, po, none⟩) [a].length e) 39)] :: [(bc, cel [.int .u8 41] 5)] :: F) := ((H.pull 3 rfl).pull 3 rfl).pull 3 rfl
       have hS : Hp w0 w ([(b3, cel (tv 4 m (some ⟨pb, po, none⟩) [a].length e) 39)] :: F) := (H.drop.pull 1 rfl).drop
       refine ⟨hS, ?_⟩
       refine JH.all [7] (by kernel_rfl) (by decide) (JHO.does rfl rfl trivial (EX.call rfl cl55 rfl ((ih a (by omega) hla (by omega) _ _ _ _ _ _ _ _ _ (by omega) H ho3 hia.cons.cons hg.cons.cons))) ?_)
       rintro _ w ⟨p5, c5, s5, rfl, ho4, H⟩
       have hS : Hp w0 w ([(b3, cel (tv 4 m (some ⟨pb, po, none⟩) [a].length e) 39)] :: F) := (H.drop.pull 1 rfl).drop
       refine ⟨hS, ?_⟩
       refine JH.all [9] (by kernel_rfl) (by decide) (JHO.does rfl rfl trivial (EX.appendZ (m := 1) (ys := bL [41]) H elB rfl rfl (src_slice (e' := 5) H ud88 (SlAt.cons (SlAt.cons (SlAt.here rfl))) rfl (bL_cell _)) (i := 0) rfl ho4 (by omega) (fun _ => rfl)) ?_)
       rintro _ w ⟨p6, c6, s6, rfl, ho5, H⟩
       have hS : Hp w0 w ([(b3, cel (tv 4 m (some ⟨pb, po, none⟩) [a].length e) 39)] :: F) := (H.drop.pull 1 rfl).drop
       refine ⟨hS, ?_⟩
       refine JH.take 10 rfl (by kernel_rfl) (by kernel_rfl) (by kernel_rfl) rfl trivial (fun w H => RX.assignv (v := .slice _ _ _) rfl) hS (JH.done (by kernel_rfl) (J.ret1 (v := .slice _ _ _) Tryz.func55 rfl rfl ?_))
       have e1 : n + 1 + (Lib.itoa m).length + 1 + (textT a).length + 1 = n + (textT (.node 4 m [a])).length := by omega
       have e2 : xs ++ bL [98] ++ bL (Lib.itoa m) ++ bL [40] ++ bL (textT a) ++ bL [41] = xs ++ bL (textT (.node 4 m [a])) := by rw [htx]; simp [bL]
       rw [e1, e2] at ho5
       exact ⟨_, rfl, p6, c6, s6, by rw [e1], ho5, (((H.pull 1 rfl).drop.pull 1 rfl).drop)⟩
     ·
      refine JHO.does rfl rfl trivial (EX.buildSlice1 (v := .int _ _) H elB rfl rfl) ?_
      rintro _ w ⟨bc, rfl, H⟩
      first
      | replace H : Hp w0 w (_ :: [(b3, cel (tv 4 m (some ⟨pb, po, none⟩) [a].length e) 39)] :: [(bc, cel [.int .u8 41] 5)] :: F) := (H.pull 2 rfl).pull 2 rfl
      | replace H : Hp w0 w (_ :: _ :: [(b3, cel (tv 4 m (some ⟨pb, po, none⟩) [a].length e) 39)] :: [(bc, cel [.int .u8 41] 5)] :: F) := ((H.pull 3 rfl).pull 3 rfl).pull 3 rfl
      have hS : Hp w0 w ([(b3, cel (tv 4 m (some ⟨pb, po, none⟩) [a].length e) 39)] :: F) := (H.drop.drop.pull 1 rfl).drop
      refine ⟨hS, ?_⟩
      refine JH.all [2] (by kernel_rfl) (by decide) (JHO.does rfl rfl trivial (EX.appendZ (m := 1) (ys := bL [40]) H elB rfl rfl (src_slice (e' := 5) H ud88 (SlAt.here rfl) rfl (bL_cell _)) (i := 1) rfl ho2 (by omega) (fun _ => rfl)) ?_)
      rintro _ w ⟨p4, c4, s4, rfl, ho3, H⟩
      replace H := H.drop
      have hS : Hp w0 w ([(b3, cel (tv 4 m (some ⟨pb, po, none⟩) [a].length e) 39)] :: F) := (H.drop.pull 1 rfl).drop
      refine ⟨hS, ?_⟩
      refine JH.all [7] (by kernel_rfl) (by decide) (JHO.does rfl rfl trivial (EX.call rfl cl55 rfl ((ih a (by omega) hla (by omega) _ _ _ _ _ _ _ _ _ (by omega) H ho3 hia.cons.cons hg.cons.cons))) ?_)
      rintro _ w ⟨p5, c5, s5, rfl, ho4, H⟩
      have hS : Hp w0 w ([(b3, cel (tv 4 m (some ⟨pb, po, none⟩) [a].length e) 39)] :: F) := (H.drop.pull 1 rfl).drop
      refine ⟨hS, ?_⟩
      refine JH.all [9] (by kernel_rfl) (by decide) (JHO.does rfl rfl trivial (EX.appendZ (m := 1) (ys := bL [41]) H elB rfl rfl (src_slice (e' := 5) H ud88 (SlAt.cons (SlAt.cons (SlAt.here rfl))) rfl (bL_cell _)) (i := 0) rfl ho4 (by omega) (fun _ => rfl)) ?_)
      rintro _ w ⟨p6, c6, s6, rfl, ho5, H⟩
      have hS : Hp w0 w ([(b3, cel (tv 4 m (some ⟨pb, po, none⟩) [a].length e) 39)] :: F) := (H.drop.pull 1 rfl).drop
      refine ⟨hS, ?_⟩
      refine JH.take 10 rfl (by kernel_rfl) (by kernel_rfl) (by kernel_rfl) rfl trivial (fun w H => RX.assignv (v := .slice _ _ _) rfl) hS (JH.done (by kernel_rfl) (J.ret1 (v := .slice _ _ _) Tryz.func55 rfl rfl ?_))
      have e1 : n + 1 + (Lib.itoa m).length + 1 + (textT a).length + 1 = n + (textT (.node 4 m [a])).length := by omega
      have e2 : xs ++ bL [98] ++ bL (Lib.itoa m) ++ bL [40] ++ bL (textT a) ++ bL [41] = xs ++ bL (textT (.node 4 m [a])) := by rw [htx]; simp [bL]
      rw [e1, e2] at ho5
      exact ⟨_, rfl, p6, c6, s6, by rw [e1], ho5, (((H.pull 1 rfl).drop.pull 1 rfl).drop)⟩
    ·
     refine JHO.does rfl rfl trivial (EX.buildSlice1 (v := .int _ _) H elB rfl rfl) ?_
     rintro _ w ⟨bc, rfl, H⟩
     first
     | replace H : Hp w0 w (_ :: [(b3, cel (tv 4 m (some ⟨pb, po, none⟩) [a].length e) 39)] :: [(bc, cel [.int .u8 41] 5)] :: F) := (H.pull 2 rfl).pull 2 rfl
     | replace H : Hp w0 w (_ :: _ :: [(b3, cel (tv 4 m (some ⟨pb, po, none⟩) [a].length e) 39)] :: [(bc, cel [.int .u8 41] 5)] :: F) := ((H.pull 3 rfl).pull 3 rfl).pull 3 rfl
     have hS : Hp w0 w ([(b3, cel (tv 4 m (some ⟨pb, po, none⟩) [a].length e) 39)] :: F) := (H.drop.pull 1 rfl).drop
     refine ⟨hS, ?_⟩
     refine JH.all [1] (by kernel_rfl) (by decide) (JHO.does rfl rfl trivial (EX.buildSlice1 (v := .int _ _) H elB rfl rfl) ?_)
     rintro _ w ⟨bo, rfl, H⟩
     have hS : Hp w0 w ([(b3, cel (tv 4 m (some ⟨pb, po, none⟩) [a].length e) 39)] :: F) := (H.drop.drop.pull 1 rfl).drop
     refine ⟨hS, ?_⟩
     refine JH.all [2] (by kernel_rfl) (by decide) (JHO.does rfl rfl trivial (EX.appendZ (m := 1) (ys := bL [40]) H elB rfl rfl (src_slice (e' := 5) H ud88 (SlAt.here rfl) rfl (bL_cell _)) (i := 1) rfl ho2 (by omega) (fun _ => rfl)) ?_)
     rintro _ w ⟨p4, c4, s4, rfl, ho3, H⟩
     replace H := H.drop
     have hS : Hp w0 w ([(b3, cel (tv 4 m (some ⟨pb, po, none⟩) [a].length e) 39)] :: F) := (H.drop.pull 1 rfl).drop
     refine ⟨hS, ?_⟩
     refine JH.all [7] (by kernel_rfl) (by decide) (JHO.does rfl rfl trivial (EX.call rfl cl55 rfl ((ih a (by omega) hla (by omega) _ _ _ _ _ _ _ _ _ (by omega) H ho3 hia.cons.cons hg.cons.cons))) ?_)
     rintro _ w ⟨p5, c5, s5, rfl, ho4, H⟩
     have hS : Hp w0 w ([(b3, cel (tv 4 m (some ⟨pb, po, none⟩) [a].length e) 39)] :: F) := (H.drop.pull 1 rfl).drop
     refine ⟨hS, ?_⟩
     refine JH.all [9] (by kernel_rfl) (by decide) (JHO.does rfl rfl trivial (EX.appendZ (m := 1) (ys := bL [41]) H elB rfl rfl (src_slice (e' := 5) H ud88 (SlAt.cons (SlAt.cons (SlAt.here rfl))) rfl (bL_cell _)) (i := 0) rfl ho4 (by omega) (fun _ => rfl)) ?_)
     rintro _ w ⟨p6, c6, s6, rfl, ho5, H⟩
     have hS : Hp w0 w ([(b3, cel (tv 4 m (some ⟨pb, po, none⟩) [a].length e) 39)] :: F) := (H.drop.pull 1 rfl).drop
     refine ⟨hS, ?_⟩
     refine JH.take 10 rfl (by kernel_rfl) (by kernel_rfl) (by kernel_rfl) rfl trivial (fun w H => RX.assignv (v := .slice _ _ _) rfl) hS (JH.done (by kernel_rfl) (J.ret1 (v := .slice _ _ _) Tryz.func55 rfl rfl ?_))
     have e1 : n + 1 + (Lib.itoa m).length + 1 + (textT a).length + 1 = n + (textT (.node 4 m [a])).length := by omega
     have e2 : xs ++ bL [98] ++ bL (Lib.itoa m) ++ bL [40] ++ bL (textT a) ++ bL [41] = xs ++ bL (textT (.node 4 m [a])) := by rw [htx]; simp [bL]
     rw [e1, e2] at ho5
     exact ⟨_, rfl, p6, c6, s6, by rw [e1], ho5, (((H.pull 1 rfl).drop.pull 1 rfl).drop)⟩
end Oo
end Go.Proofs.YtfaokllgaambjaaGreatDoor
namespace Go.Proofs.YtfaokllgaambjaaGreatDoor
open Go Go.Eng
set_option maxRecDepth 100000
set_option maxHeartbeats 1600000
theorem cl54 : callable Tryz.prog 54 = true := by kernel_rfl
theorem cl62 : callable Tryz.prog 62 = true := by kernel_rfl
namespace Oo
theorem text_all : ∀ t, TextC t := tr_ind fun t ih hl hp w0 w F vs p n c xs s hn H ho ht hg => by
  obtain ⟨k, m, ks⟩ := t
  rw [Tr.Is] at ht
  obtain ⟨q, e, ys, rfl, hs, hk⟩ := ht
  exact text_step ih hl hp hn H ho hs hk hg
theorem lenO_good {t : Tr} (h : lenO t ≠ 0) : len t ≠ 0 ∧ t.parts ≤ 4096 ∧ t.depth ≤ 16 ∧ lenO t = len t := by
 have e := len_law t
 rw [e] at h ⊢
 unfold lenR at h ⊢
 split at h
 · rename_i hc
   rw [if_pos hc]
   exact ⟨h, hc.1, hc.2, rfl⟩
 · exact absurd rfl h
def textO (t : Tr) : List UInt8 := if goodB t then textT t else []
theorem goodB_yes {t : Tr} (h : goodB t = true) : lenO t ≠ 0 := of_decide_eq_true h
theorem pO_parts : ∀ (m : Nat) (s : List UInt8) (t : Tr) (r : List UInt8), pO m s = (some t, r) → t.parts + r.length ≤ s.length
 | 0, s, t, r, h => by rw [pO] at h; cases h
 | _ + 1, [], t, r, h => by rw [pO] at h; cases h
 | m + 1, c :: s, t, r, h => by
   have leaf : ∀ {k : Int}, (bindP (numP s) fun n r => ((some (.node k (n : Nat) []) : Option Tr), r)) = (some t, r) → t.parts + r.length ≤ (c :: s).length := by
     intro k h
     have hs := num_suf s
     cases hn : numP s with
     | mk o r1 =>
       rw [hn] at h hs
       cases o with
       | none => cases h
       | some n =>
         cases h
         have := hs.length_le
         rw [Tr.parts, partsL, List.length_cons]
         simp only at this
         omega
   rw [pO] at h
   split at h
   · exact leaf h
   · split at h
     · exact leaf h
     · split at h
       · have hs := num_suf s
         cases hn : numP s with
         | mk o r1 =>
           rw [hn] at h hs
           cases o with
           | none => cases h
           | some n =>
             simp only [bindP] at h
             have h1 := take_suf [40] r1
             cases h2 : takeP [40] r1 with
             | mk o r2 =>
               rw [h2] at h h1
               cases o with
               | none => cases h
               | some _ =>
                 simp only at h
                 cases h3 : pO m r2 with
                 | mk o r3 =>
                   rw [h3] at h
                   cases o with
                   | none => cases h
                   | some a =>
                     simp only at h
                     have h4 := take_suf [41] r3
                     cases h5 : takeP [41] r3 with
                     | mk o r4 =>
                       rw [h5] at h h4
                       cases o with
                       | none => cases h
                       | some _ =>
                         cases h
                         have e1 := hs.length_le
                         have e2 := h1.length_le
                         have e3 := pO_parts m r2 a r3 h3
                         have e4 := h4.length_le
                         simp only at e1 e2 e4
                         rw [Tr.parts, partsL, partsL, List.length_cons]
                         omega
       · split at h
         · cases h0 : pO m s with
           | mk o r1 =>
             rw [h0] at h
             cases o with
             | none => cases h
             | some a =>
               simp only [bindP] at h
               have h1 := take_suf [32, 120, 32] r1
               cases h2 : takeP [32, 120, 32] r1 with
               | mk o r2 =>
                 rw [h2] at h h1
                 cases o with
                 | none => cases h
                 | some _ =>
                   simp only at h
                   cases h3 : pO m r2 with
                   | mk o r3 =>
                     rw [h3] at h
                     cases o with
                     | none => cases h
                     | some b =>
                       simp only at h
                       have h4 := take_suf [41] r3
                       cases h5 : takeP [41] r3 with
                       | mk o r4 =>
                         rw [h5] at h h4
                         cases o with
                         | none => cases h
                         | some _ =>
                           cases h
                           have e1 := pO_parts m s a r1 h0
                           have e2 := h1.length_le
                           have e3 := pO_parts m r2 b r3 h3
                           have e4 := h4.length_le
                           simp only at e2 e4
                           rw [Tr.parts, partsL, partsL, partsL, List.length_cons]
                           omega
         · cases h
inductive PRes where
  | ok (t : Tr)
  | err (place code : Nat)
def parseS (s : List UInt8) : PRes :=
  if 65536 < s.length then .err 0 3
  else match pO (s.length + 1) s with
    | (none, r) => .err (posn s r) 6
    | (some t, r) => if r = [] then (if lenO t = 0 then .err 0 8 else .ok t) else .err (posn s r) 6
def ParseR (e : Nat → Value) (x : PRes) (v : Value) (sg : Seg) : Prop :=
  (∃ t vs, x = .ok t ∧ v = .tuple #[.agg vs.toArray, .int .i64 0, e 0] ∧ t.Own vs sg) ∨
  ∃ pl c, x = .err pl c ∧ v = .tuple #[.agg (tv 0 0 none 0 0).toArray, .int .i64 (pl : Nat), e c] ∧ sg = []
theorem ReadO.form {s : List UInt8} {v : Value} {sg : Seg} (h : ReadO s v sg) (hs : s.length ≤ 65536) : ∃ k n p m c r b, v = .tuple #[.agg (tv k n p m c).toArray, .int .i64 (posn s r : Nat), .bool b] ∧
 (b = true → ∃ t, t.parts ≤ 4194304 ∧ t.Own (tv k n p m c) sg ∧ parseS s = if lenO t = 0 then .err 0 8 else .ok t) ∧ (b = false → parseS s = .err (posn s r) 6) := by
 rcases h with ⟨t, r, vs, hp, rfl, ho⟩ | ⟨r, hp, rfl, rfl⟩
 · obtain ⟨k, n, p, m, c, rfl⟩ := ho.shape
   have hsuf := pO_suf (s.length + 1) s
   rw [hp] at hsuf
   refine ⟨k, n, p, m, c, r, _, rfl, fun hb => ⟨t, ?_, ho, ?_⟩, fun hb => ?_⟩
   · have := pO_parts _ _ _ _ hp
     omega
   · have hr : r = [] := end_of hsuf (by have := of_decide_eq_true hb; omega)
     unfold parseS
     rw [if_neg (by omega), hp]
     simp only
     rw [if_pos hr]
   · have hr : r ≠ [] := fun e => by
       have := of_decide_eq_false hb
       rw [e, posn_nil] at this
       exact this rfl
     unfold parseS
     rw [if_neg (by omega), hp]
     simp only
     rw [if_neg hr]
 · refine ⟨0, 0, none, 0, 0, r, false, rfl, (fun h => by cases h), fun _ => ?_⟩
   unfold parseS
   rw [if_neg (by omega), hp]
theorem textO_no {t : Tr} (h : goodB t = false) : textO t = [] := by unfold textO; rw [h]; rfl
theorem textO_yes {t : Tr} (h : goodB t = true) : textO t = textT t := by unfold textO; rw [h]; rfl
theorem it_one {n : Nat} (h : n < 10) : Lib.itoa (n : Int) = [UInt8.ofNat (48 + n)] := by rw [Lib.itoa_nonneg, Lib.decDigits_one h]
def errV2 (E : Nat → Value) (n : Nat) : Value := if n = 0 then .nilIface else E n
structure E368 (F : List Seg) (E : Nat → Value) : Prop where
  t3 : GErr F 5 (E 3)
  t6 : GErr F 3 (E 6)
  t8 : GErr F 6 (E 8)
theorem parse_order {s : List UInt8} {t : Tr} (h : parseS s = if lenO t = 0 then .err 0 8 else .ok t) (b : Bool) (hb : goodB t = b) : parseS s = if b then .ok t else .err 0 8 := by
 rw [h, ← hb]
 unfold goodB
 by_cases h0 : lenO t = 0
 · rw [if_pos h0, decide_eq_false (fun h => h h0)]; rfl
 · rw [if_neg h0, decide_eq_true h0]; rfl
theorem Text_b {w0 w : World} {F : List Seg} (H : Hp w0 w F) {t : Tr} {vs : List Value} (ht : t.Is F vs) (hp : t.parts ≤ 4194304) {E : Nat → Value} (g8 : GErr F 6 (E 8)) (hg : GTab F) : Ret Tryz.prog 27 [.agg vs.toArray] w fun v w' => v = .tuple #[.string ⟨(textO t).toArray⟩, e8 E (goodB t)] ∧ Hp w0 w' F := by
 refine Calls.of_J (n := 13) Tryz.func27 rfl rfl rfl (J.seq ?_)
 obtain ⟨k, n, p, m, c, rfl⟩ := ht.shape
 refine J.region (JL.e (EX.box (v := .agg _) H rfl rfl) ?_)
 rintro _ w ⟨b1, rfl, H⟩
 refine JL.g (RX.assign) (JL.g (RX.assign) (JL.nil (J.seq (J.seq (J.region (JL.g (RX.loadAgg H rfl (i := 0) (vs := tv k n p m c) rfl rfl ag39) (JL.e (EX.call rfl cl54 rfl ((Check_b H ht.cons hp g8.cons))) ?_)))))))
 rintro _ w ⟨rfl, H⟩
 refine JL.g (RX.assignv (v := e8 E (goodB t)) rfl) (JL.nil (J.seq (J.region (JL.g (RX.movev (v := e8 E (goodB t)) rfl) (JL.g (RX.ifnil_neq (v := e8 E (goodB t)) rfl rfl (e8_ie g8 _).1 if31) (JL.nil (J.cond rfl (fun hne => ?_) (fun hne => ?_))))))))
 ·
  have hgd : goodB t = false := by simpa [(e8_ie g8 (goodB t)).2] using hne
  refine J.seq (J.region (JL.g (RX.movev (v := e8 E (goodB t)) rfl) (JL.g (RX.assign) (JL.g (RX.assignv (v := e8 E (goodB t)) rfl) (JL.nil (J.ret2 (v := .string _) Tryz.func27 rfl rfl rfl ?_))))))
  exact ⟨_, rfl, by rw [textO_no hgd]; rfl, H.drop⟩
 ·
  have hgd : goodB t = true := by simpa [(e8_ie g8 (goodB t)).2] using hne
  have hlg := lenO_good (goodB_yes hgd)
  refine J.skip (J.seq (J.region (JL.g (RX.loadAgg H rfl (i := 0) (vs := tv k n p m c) rfl rfl ag39) (JL.e (EX.call rfl cl55 rfl ((text_all t hlg.1 hp _ _ _ _ none 0 0 [] [] (by omega) H.nil OwnZ.nil ht.cons hg.cons))) ?_))))
  rintro _ w ⟨p1, c1, s1, rfl, ho, H⟩
  rw [Nat.zero_add, List.nil_append] at ho
  rw [Nat.zero_add]
  refine JL.g (RX.b2s (l := textT t) H rfl ho.slAt sl88 ud5 ud9) (JL.g (RX.assignv (v := .string _) rfl) (JL.g (RX.assignv (v := .nilIface) rfl) (JL.nil (J.ret2 (v := .string _) Tryz.func27 rfl rfl rfl ?_))))
  exact ⟨_, rfl, by rw [textO_yes hgd, hgd]; rfl, H.drop.drop⟩
theorem Parse_b {w0 w : World} {F : List Seg} (H : Hp w0 w F) {E : Nat → Value} (hE : E368 F E) {s : List UInt8} (hs : s.length ≤ 9223372036854775807) : Ret Tryz.prog 32 [.string ⟨s.toArray⟩] w fun v w' => ∃ sg, ParseR (errV2 E) (parseS s) v sg ∧ Hp w0 w' (sg :: F) := by
 refine Calls.of_J (n := 32) Tryz.func32 rfl rfl rfl (J.seq (J.region (JL.e (EX.alloc H zr39 rfl) ?_)))
 rintro _ w ⟨b2, rfl, H⟩
 refine JL.g (RX.assign) (JL.g (RX.assignv (v := .nilIface) rfl) (JL.nil (J.seq (J.seq (J.region (JL.g (RX.movev (v := .string _) rfl) (JL.g (RX.len_string rfl ud9 (r := (s.length : Int)) (by rw [b_size])) ?_)))))))
 refine JL.g (RX.gt rfl rfl) (JL.nil (J.cond_d rfl (fun hbig => ?_) (fun hbig => ?_)))
 ·
  have hps : parseS s = .err 0 3 := by unfold parseS; rw [if_pos (by omega)]
  refine J.seq (J.any hmix fun w hs => ?_)
  replace H := H.same hs; clear hs
  refine JA.take 0 rfl (by kernel_rfl) (by kernel_rfl) (by kernel_rfl) rfl trivial (fun w => RX.build (pv := []) (res := tv 0 0 none 0 0) rfl (by kernel_rfl)) (JA.all [1, 2] (by kernel_rfl) (by decide) (⟨?_, ?_⟩))
  ·
   refine JO.go rfl rfl trivial (RX.loadG H rfl hE.t3.at_.cons one31) (JA.all [2] (by kernel_rfl) (by decide) (JO.does rfl rfl trivial (EX.storeAgg H rfl rfl (i := 0) (vs := tv 0 0 none 0 0) (l' := tv 0 0 none 0 0) rfl tv_cell (by simp) sz39 rfl rfl) ?_))
   rintro _ w H
   refine JA.take 3 rfl (by kernel_rfl) (by kernel_rfl) (by kernel_rfl) rfl trivial (fun w => RX.assign) (JA.take 4 rfl (by kernel_rfl) (by kernel_rfl) (by kernel_rfl) rfl trivial (fun w => RX.assignv (v := E 3) rfl) (JA.done (by kernel_rfl) ?_))
   first
   | refine J.retctt (x := Value.int _ _) Tryz.func32 rfl H rfl (i := 0) (vs := tv 0 0 none 0 0) rfl rfl ag39 rfl rfl ?_
   | refine J.retctt (x := Value.int _ _) Tryz.func32 rfl H rfl (i := 2) (vs := tv 0 0 none 0 0) rfl rfl ag39 rfl rfl ?_
   | refine J.retctt (x := Value.int _ _) Tryz.func32 rfl H rfl (i := 2) (vs := tv k n p m c) rfl rfl ag39 rfl rfl ?_
   first
   | exact ⟨_, rfl, [], .inr ⟨0, 3, hps, rfl, rfl⟩, (H.drop).nil⟩
   | exact ⟨_, rfl, [], .inr ⟨posn s r, 6, hps, rfl, rfl⟩, (H.drop.drop.drop).nil⟩
   | (rw [hgd]; exact ⟨_, rfl, [], .inr ⟨0, 8, hps, rfl, rfl⟩, (H.drop.drop.drop).nil⟩)
   | exact ⟨_, rfl, sg, .inl ⟨t, _, hps, rfl, ho⟩, (H.drop.pull 1 rfl).drop⟩
  ·
   refine JO.does rfl rfl trivial (EX.storeAgg H rfl rfl (i := 0) (vs := tv 0 0 none 0 0) (l' := tv 0 0 none 0 0) rfl tv_cell (by simp) sz39 rfl rfl) ?_
   rintro _ w H
   refine JA.take 3 rfl (by kernel_rfl) (by kernel_rfl) (by kernel_rfl) rfl trivial (fun w => RX.assign) (JA.all [1] (by kernel_rfl) (by decide) (JO.go rfl rfl trivial (RX.loadG H rfl hE.t3.at_.cons one31) (JA.take 4 rfl (by kernel_rfl) (by kernel_rfl) (by kernel_rfl) rfl trivial (fun w => RX.assignv (v := E 3) rfl) (JA.done (by kernel_rfl) ?_))))
   first
   | refine J.retctt (x := Value.int _ _) Tryz.func32 rfl H rfl (i := 0) (vs := tv 0 0 none 0 0) rfl rfl ag39 rfl rfl ?_
   | refine J.retctt (x := Value.int _ _) Tryz.func32 rfl H rfl (i := 2) (vs := tv 0 0 none 0 0) rfl rfl ag39 rfl rfl ?_
   | refine J.retctt (x := Value.int _ _) Tryz.func32 rfl H rfl (i := 2) (vs := tv k n p m c) rfl rfl ag39 rfl rfl ?_
   first
   | exact ⟨_, rfl, [], .inr ⟨0, 3, hps, rfl, rfl⟩, (H.drop).nil⟩
   | exact ⟨_, rfl, [], .inr ⟨posn s r, 6, hps, rfl, rfl⟩, (H.drop.drop.drop).nil⟩
   | (rw [hgd]; exact ⟨_, rfl, [], .inr ⟨0, 8, hps, rfl, rfl⟩, (H.drop.drop.drop).nil⟩)
   | exact ⟨_, rfl, sg, .inl ⟨t, _, hps, rfl, ho⟩, (H.drop.pull 1 rfl).drop⟩
 ·
  refine J.skip (J.seq (J.region (JL.g (RX.movev (v := .string _) rfl) (JL.e (EX.call rfl cl62 rfl ((read_b H (by omega)))) ?_))))
  rintro _ w ⟨sg, hro, H⟩
  obtain ⟨k, n, p, m, c, r, b, rfl, hyes, hno⟩ := hro.form (by omega)
  refine JL.g (RX.movev (v := .tuple _) rfl) (JL.g (RX.extract (v := .agg (tv k n p m c).toArray) rfl rfl) (JL.g (RX.extract (v := .int .i64 (posn s r : Nat)) rfl rfl) (JL.g (RX.extract (v := .bool b) rfl rfl) (JL.e (EX.alloc H zr39 rfl) ?_))))
  rintro _ w ⟨b5, rfl, H⟩
  refine JL.e (EX.storeAgg H rfl rfl (i := 0) (vs := tv k n p m c) (l' := tv k n p m c) rfl tv_cell (by simp) sz39 rfl rfl) ?_
  rintro _ w H
  refine JL.ai rfl (JL.ab rfl (JL.nil (J.seq (J.seq (J.region (JL.mb rfl (JL.g (RX.not rfl) (JL.nil (J.cond rfl (fun hnb => ?_) (fun hnb => ?_))))))))))
  ·
   have hps := hno (by simpa using hnb)
   refine J.seq (J.any hmix fun w hs => ?_)
   replace H := H.same hs; clear hs
   refine JA.take 0 rfl (by kernel_rfl) (by kernel_rfl) (by kernel_rfl) rfl trivial (fun w => RX.build (pv := []) (res := tv 0 0 none 0 0) rfl (by kernel_rfl)) (JA.take 1 rfl (by kernel_rfl) (by kernel_rfl) (by kernel_rfl) rfl trivial (fun w => RX.movev (v := .int _ _) rfl) (JA.all [2, 3] (by kernel_rfl) (by decide) (⟨?_, ?_⟩)))
   ·
    refine JO.go rfl rfl trivial (RX.loadG H rfl hE.t6.at_.cons.cons.cons one31) (JA.all [3] (by kernel_rfl) (by decide) (JO.does rfl rfl trivial (EX.storeAgg H rfl rfl (i := 2) (vs := tv 0 0 none 0 0) (l' := tv 0 0 none 0 0) rfl tv_cell (by simp) sz39 rfl rfl) ?_))
    rintro _ w H
    refine JA.take 4 rfl (by kernel_rfl) (by kernel_rfl) (by kernel_rfl) rfl trivial (fun w => RX.assignv (v := .int _ _) rfl) (JA.take 5 rfl (by kernel_rfl) (by kernel_rfl) (by kernel_rfl) rfl trivial (fun w => RX.assignv (v := E 6) rfl) (JA.done (by kernel_rfl) ?_))
    first
    | refine J.retctt (x := Value.int _ _) Tryz.func32 rfl H rfl (i := 0) (vs := tv 0 0 none 0 0) rfl rfl ag39 rfl rfl ?_
    | refine J.retctt (x := Value.int _ _) Tryz.func32 rfl H rfl (i := 2) (vs := tv 0 0 none 0 0) rfl rfl ag39 rfl rfl ?_
    | refine J.retctt (x := Value.int _ _) Tryz.func32 rfl H rfl (i := 2) (vs := tv k n p m c) rfl rfl ag39 rfl rfl ?_
    first
    | exact ⟨_, rfl, [], .inr ⟨0, 3, hps, rfl, rfl⟩, (H.drop).nil⟩
    | exact ⟨_, rfl, [], .inr ⟨posn s r, 6, hps, rfl, rfl⟩, (H.drop.drop.drop).nil⟩
    | (rw [hgd]; exact ⟨_, rfl, [], .inr ⟨0, 8, hps, rfl, rfl⟩, (H.drop.drop.drop).nil⟩)
    | exact ⟨_, rfl, sg, .inl ⟨t, _, hps, rfl, ho⟩, (H.drop.pull 1 rfl).drop⟩
   ·
    refine JO.does rfl rfl trivial (EX.storeAgg H rfl rfl (i := 2) (vs := tv 0 0 none 0 0) (l' := tv 0 0 none 0 0) rfl tv_cell (by simp) sz39 rfl rfl) ?_
    rintro _ w H
    refine JA.take 4 rfl (by kernel_rfl) (by kernel_rfl) (by kernel_rfl) rfl trivial (fun w => RX.assignv (v := .int _ _) rfl) (JA.all [2] (by kernel_rfl) (by decide) (JO.go rfl rfl trivial (RX.loadG H rfl hE.t6.at_.cons.cons.cons one31) (JA.take 5 rfl (by kernel_rfl) (by kernel_rfl) (by kernel_rfl) rfl trivial (fun w => RX.assignv (v := E 6) rfl) (JA.done (by kernel_rfl) ?_))))
    first
    | refine J.retctt (x := Value.int _ _) Tryz.func32 rfl H rfl (i := 0) (vs := tv 0 0 none 0 0) rfl rfl ag39 rfl rfl ?_
    | refine J.retctt (x := Value.int _ _) Tryz.func32 rfl H rfl (i := 2) (vs := tv 0 0 none 0 0) rfl rfl ag39 rfl rfl ?_
    | refine J.retctt (x := Value.int _ _) Tryz.func32 rfl H rfl (i := 2) (vs := tv k n p m c) rfl rfl ag39 rfl rfl ?_
    first
    | exact ⟨_, rfl, [], .inr ⟨0, 3, hps, rfl, rfl⟩, (H.drop).nil⟩
    | exact ⟨_, rfl, [], .inr ⟨posn s r, 6, hps, rfl, rfl⟩, (H.drop.drop.drop).nil⟩
    | (rw [hgd]; exact ⟨_, rfl, [], .inr ⟨0, 8, hps, rfl, rfl⟩, (H.drop.drop.drop).nil⟩)
    | exact ⟨_, rfl, sg, .inl ⟨t, _, hps, rfl, ho⟩, (H.drop.pull 1 rfl).drop⟩
  ·
   obtain ⟨t, htp, ho, hps⟩ := hyes (by simpa using hnb)
   refine J.skip (J.seq (J.seq (J.region (JL.g (RX.loadAgg H rfl (i := 0) (vs := tv k n p m c) rfl rfl ag39) (JL.e (EX.call rfl cl54 rfl ((Check_b H (Tr.Is.cons ho.is) htp hE.t8.cons.cons.cons))) ?_)))))
   rintro _ w ⟨rfl, H⟩
   refine JL.g (RX.assignv (v := e8 E (goodB t)) rfl) (JL.nil (J.seq (J.region (JL.g (RX.movev (v := e8 E (goodB t)) rfl) (JL.g (RX.ifnil_neq (v := e8 E (goodB t)) rfl rfl (e8_ie hE.t8 _).1 if31) (JL.nil (J.cond rfl (fun hne => ?_) (fun hne => ?_))))))))
   ·
    have hgd : goodB t = false := by simpa [(e8_ie hE.t8 (goodB t)).2] using hne
    replace hps := parse_order hps _ hgd
    refine J.seq (J.region (JL.g (RX.build (pv := []) (res := tv 0 0 none 0 0) rfl (by kernel_rfl)) (JL.g (RX.movev (v := e8 E (goodB t)) rfl) (JL.e (EX.storeAgg H rfl rfl (i := 2) (vs := tv 0 0 none 0 0) (l' := tv 0 0 none 0 0) rfl tv_cell (by simp) sz39 rfl rfl) ?_))))
    rintro _ w H
    refine JL.g (RX.assign) (JL.g (RX.assignv (v := e8 E (goodB t)) rfl) (JL.nil ?_))
    first
    | refine J.retctt (x := Value.int _ _) Tryz.func32 rfl H rfl (i := 0) (vs := tv 0 0 none 0 0) rfl rfl ag39 rfl rfl ?_
    | refine J.retctt (x := Value.int _ _) Tryz.func32 rfl H rfl (i := 2) (vs := tv 0 0 none 0 0) rfl rfl ag39 rfl rfl ?_
    | refine J.retctt (x := Value.int _ _) Tryz.func32 rfl H rfl (i := 2) (vs := tv k n p m c) rfl rfl ag39 rfl rfl ?_
    first
    | exact ⟨_, rfl, [], .inr ⟨0, 3, hps, rfl, rfl⟩, (H.drop).nil⟩
    | exact ⟨_, rfl, [], .inr ⟨posn s r, 6, hps, rfl, rfl⟩, (H.drop.drop.drop).nil⟩
    | (rw [hgd]; exact ⟨_, rfl, [], .inr ⟨0, 8, hps, rfl, rfl⟩, (H.drop.drop.drop).nil⟩)
    | exact ⟨_, rfl, sg, .inl ⟨t, _, hps, rfl, ho⟩, (H.drop.pull 1 rfl).drop⟩
   ·
    have hgd : goodB t = true := by simpa [(e8_ie hE.t8 (goodB t)).2] using hne
    replace hps := parse_order hps _ hgd
    refine J.skip (J.seq (J.region (JL.g (RX.loadAgg H rfl (i := 0) (vs := tv k n p m c) rfl rfl ag39) (JL.e (EX.storeAgg H rfl rfl (i := 2) (vs := tv k n p m c) (l' := tv k n p m c) rfl tv_cell (by simp) sz39 rfl rfl) ?_))))
    rintro _ w H
    refine JL.g (RX.assign) (JL.g (RX.assignv (v := .nilIface) rfl) (JL.nil ?_))
    first
    | refine J.retctt (x := Value.int _ _) Tryz.func32 rfl H rfl (i := 0) (vs := tv 0 0 none 0 0) rfl rfl ag39 rfl rfl ?_
    | refine J.retctt (x := Value.int _ _) Tryz.func32 rfl H rfl (i := 2) (vs := tv 0 0 none 0 0) rfl rfl ag39 rfl rfl ?_
    | refine J.retctt (x := Value.int _ _) Tryz.func32 rfl H rfl (i := 2) (vs := tv k n p m c) rfl rfl ag39 rfl rfl ?_
    first
    | exact ⟨_, rfl, [], .inr ⟨0, 3, hps, rfl, rfl⟩, (H.drop).nil⟩
    | exact ⟨_, rfl, [], .inr ⟨posn s r, 6, hps, rfl, rfl⟩, (H.drop.drop.drop).nil⟩
    | (rw [hgd]; exact ⟨_, rfl, [], .inr ⟨0, 8, hps, rfl, rfl⟩, (H.drop.drop.drop).nil⟩)
    | exact ⟨_, rfl, sg, .inl ⟨t, _, hps, rfl, ho⟩, (H.drop.pull 1 rfl).drop⟩
end Oo
end Go.Proofs.YtfaokllgaambjaaGreatDoor

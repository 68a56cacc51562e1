/- Part 20 of the proof that WholeSmall holds: what the functions on its way do, step by step. -/
import Derived.Test.YtfaokllgaambjaaGreatDoorZ1
import Derived.Test.YtfaokllgaambjaaGreatDoorZ2
import Derived.Test.YtfaokllgaambjaaGreatDoorZ3
import Derived.Test.YtfaokllgaambjaaGreatDoorZ4
import Derived.Test.YtfaokllgaambjaaGreatDoorZ5
import Derived.Test.YtfaokllgaambjaaGreatDoorZ9
import Derived.Test.YtfaokllgaambjaaGreatDoorZ10
import Derived.Test.YtfaokllgaambjaaGreatDoorZ11
import Derived.Test.YtfaokllgaambjaaGreatDoorZ12
import Derived.Test.YtfaokllgaambjaaGreatDoorZ15
import Derived.Test.YtfaokllgaambjaaGreatDoorZ16
import Derived.Test.YtfaokllgaambjaaGreatDoorZ19
set_option linter.unusedVariables false
set_option linter.unusedSimpArgs false
namespace Go.Proofs.YtfaokllgaambjaaGreatDoor
open Go Go.Eng
set_option maxRecDepth 100000
set_option maxHeartbeats 1600000
theorem sl145 : sliceOf Tryz.prog 145 = some (142, 3) := by kernel_rfl
theorem sz142 : szOf Tryz.prog 142 = some 3 := by kernel_rfl
theorem zr142 : (Tryz.prog.info? 142).bind (·.zero) = some (.agg #[.int .i64 0, .int .i64 0, .int .i64 0]) := by kernel_rfl
namespace Oo
def insV (xs : List (Nat × Nat × Nat)) : List Value := (xs.map fun x => inV x.1 x.2.1 x.2.2).flatten
theorem insV_len (xs : List (Nat × Nat × Nat)) : (insV xs).length = xs.length * 3 := by
 induction xs with
 | nil => rfl
 | cons a l ih => simp only [insV, List.map_cons, List.flatten_cons, List.length_append, List.length_cons] at ih ⊢; rw [ih]; simp [inV]; omega
theorem insV_read : ∀ (l : List (Nat × Nat × Nat)) (i : Nat) (x : Nat × Nat × Nat), l[i]? = some x → readN (insV l) (i * 3) 3 = some (inV x.1 x.2.1 x.2.2)
  | [], i, x, h => by simp at h
  | a :: l, 0, x, h => by
    cases h
    unfold readN insV
    simp [inV]
  | a :: l, i + 1, x, h => by
    have ih := insV_read l i x (by simpa using h)
    unfold readN at ih ⊢
    rw [show insV (a :: l) = inV a.1 a.2.1 a.2.2 ++ insV l from rfl, show (i + 1) * 3 = (inV a.1 a.2.1 a.2.2).length + i * 3 by simp [inV]; omega, List.drop_length_add_append]
    exact ih
theorem inV_cell (s j d : Nat) : ∀ v ∈ inV s j d, isCell v = true := by simp [inV, isCell]
def Bd.ads (b : Bd) (l : List Sp) : Bd := l.foldl Bd.ad b
theorem Bd.ads_succ (b : Bd) {l : List Sp} {i : Nat} {s : Sp} (h : l[i]? = some s) : b.ads (l.take (i + 1)) = (b.ads (l.take i)).ad s := by
 have e : l.take (i + 1) = l.take i ++ [s] := by
   rw [List.take_add_one, h]; rfl
 rw [e]; simp [Bd.ads]
def addsO (b : Bd) (l : List Sp) : Prop := ∀ i, i < l.length → ∀ s ∈ l[i]?, addO (b.ads (l.take i)) s
instance {b : Bd} {l : List Sp} : Decidable (addsO b l) := by
 unfold addsO
 exact inferInstance
def dirS (m : Nat) (x : Nat × Nat × Nat) : Sp := ⟨6, x.2.2, x.1, x.2.1, m, m, 0⟩
def gatS (m : Nat) (x : Nat × Nat × Nat) : Sp := ⟨1, x.2.2, x.1, x.2.1, m, 0, 0⟩
def flyS (m : Nat) (x : Nat × Nat × Nat) : Sp := ⟨5, x.2.2, 0, 1, 1, m, 0⟩
theorem wideD_b {w0 w : World} {F : List Seg} {bb n m l c0 cx : Nat} {b : Bd} {p px : Option Addr} {xs : List (Nat × Nat × Nat)} (H : BHp w0 w bb n b F) (hT : SlAt F (some ⟨12, 0, none⟩) tableC) (hx : SlAt F px (insV xs)) (hxl : xs.length ≤ 1000) (hb : b.sm) (h1 : addsO b (xs.map (dirS m))) : Ret Tryz.prog 89 [.pointer (some ⟨bb, 0, none⟩), .agg (tv 1 ((m : Nat) : Int) p l c0).toArray, .slice px xs.length cx] w fun _ w' => BHp w0 w' bb n (b.ads (xs.map (dirS m))) F := by
 refine Calls.of_J (n := 87) Tryz.func89 rfl rfl rfl (J.seq ?_)
 obtain ⟨q, c, sl, hO, H⟩ := H
 refine J.region (JL.e (EX.box (v := .agg _) H rfl rfl) ?_)
 rintro _ w ⟨b4, rfl, H⟩
 refine JL.nil (J.seq (J.seq ?_))
 replace H := H.pull 1 rfl
 refine J.region (JL.mp rfl (JL.e (EX.call rfl cl90 rfl ((cfull_b H hb))) ?_))
 rintro _ w ⟨rfl, H⟩
 refine JL.nil (J.cond_f rfl rfl (J.skip (J.seq (J.region (JL.g (RX.fieldAddr rfl fo39_0 rfl) (JL.g (RX.load H rfl (i := 1) (v := .int _ _) rfl rfl one3) (JL.nil (J.block (J.seq (J.region (JL.g (RX.eq rfl rfl) (JL.ab rfl (JL.nil (J.cond_t rfl (by decide) (J.seq (J.region (JL.ms rfl (JL.g (RX.len_slice rfl (by rw [sl145]; rfl) rfl) ?_))))))))))))))))))
 refine JL.g (RX.move) (JL.nil (J.block (J.loop (ι := Nat) (S := fun i => [(20, .int .i64 ((i : Nat) : Int))]) (Φ := fun i w => i ≤ xs.length ∧ BHp w0 w bb n ((b).ads ((xs.map (dirS m)).take i)) ([(b4, cel (tv 1 ((m : Nat) : Int) p l c0) 39)] :: F)) (μ := fun i => xs.length - i) (C := [(0, _), (4, _), (18, _), (19, _)]) 0 ⟨rfl, rfl, rfl, rfl, trivial⟩ ⟨rfl, trivial⟩ ?_ ?_)))
 · exact ⟨by omega, q, c, sl, hO, (H.pull 2 rfl).pull 1 rfl⟩
 clear H
 rintro i ρ w ⟨hi, H⟩ IH
 refine J.seq (J.region (JL.g (RX.lt rfl rfl) (JL.nil (J.seq (J.cond_d rfl (fun hlt => ?_) (fun hlt => ?_))))))
 ·
  have hil : i < xs.length := by omega
  obtain ⟨x, hxi⟩ : ∃ x, xs[i]? = some x := ⟨_, List.getElem?_eq_getElem hil⟩
  have hsi : (xs.map (dirS m))[i]? = some (dirS m x) := by rw [List.getElem?_map, hxi]; rfl
  have hao := h1 i (by rw [List.length_map]; exact hil) _ hsi
  obtain ⟨pb, po, rfl⟩ := spot_some hx (by rw [insV_len]; omega)
  obtain ⟨q, c, sl, hO, H⟩ := H
  refine J.skip (J.seq (J.block (J.seq (J.region (JL.g (RX.indexAddr rfl rfl sl145 (by omega) (by omega) (o' := po + i * 3) (by omega)) (JL.g (RX.loadAggS H hx.cons.cons.cons rfl (j := i * 3) (by omega) (vs := inV x.1 x.2.1 x.2.2) (insV_read _ _ _ hxi) ag142) (JL.e (EX.alloc H zr142 rfl) ?_)))))))
  rintro _ w ⟨b7, rfl, H⟩
  refine JL.e (EX.storeAgg H rfl rfl (i := 0) (vs := inV x.1 x.2.1 x.2.2) (l' := inV x.1 x.2.1 x.2.2) rfl (inV_cell _ _ _) (by simp [inV]) sz142 rfl rfl) ?_
  rintro _ w H
  refine JL.nil ?_
  replace H : Hp w0 w ([(b7, cel (inV x.1 x.2.1 x.2.2) 142)] :: [(bb, cel (bdV n ((b).ads ((xs.map (dirS m)).take i)) q c) 115)] :: sl :: [(b4, cel (tv 1 ((m : Nat) : Int) p l c0) 39)] :: F) := H
  refine J.region (JL.mp rfl (JL.g (RX.loadAgg H rfl (i := 0) (vs := inV x.1 x.2.1 x.2.2) rfl rfl ag142) (JL.g (RX.fieldAddr rfl fo39_1 rfl) (JL.g (RX.load H rfl (i := 3) (v := .int _ _) rfl rfl one3) (JL.e (EX.call rfl cl115 rfl ((cdirect_b H))) ?_)))))
  rintro _ w ⟨rfl, H⟩
  refine JL.e (EX.call rfl cl114 rfl ((cadd_b (F := [(b7, cel (inV x.1 x.2.1 x.2.2) 142)] :: [(b4, cel (tv 1 ((m : Nat) : Int) p l c0) 39)] :: F) (s := dirS m x) ⟨q, c, sl, hO, (H.pull 2 rfl).pull 2 rfl⟩ hT.cons.cons hao))) ?_
  rintro _ w H
  refine JL.nil (J.inBlock (J.region (JL.g (RX.add rfl rfl (w_i64 rfl (by omega) (by omega))) (JL.mi rfl (JL.nil ?_)))))
  rw [← Bd.ads_succ _ hsi] at H
  obtain ⟨q, c, sl, hO, H⟩ := H
  replace H := (H.pull 2 rfl).drop
  exact IH (i + 1) _ _ (by omega) ⟨rfl, rfl, rfl, rfl, trivial⟩ ⟨rfl, trivial⟩ ⟨by omega, q, c, sl, hO, H⟩
 ·
  obtain rfl : i = xs.length := by omega
  obtain ⟨q, c, sl, hO, H⟩ := H
  refine J.exit rfl (J.inBlock (J.end0 Tryz.func89 rfl ?_))
  exact ⟨_, rfl, by rw [List.take_of_length_le (by rw [List.length_map]; omega)] at hO H; exact ⟨q, c, sl, hO, (H.pull 2 rfl).drop⟩⟩
theorem wideF_b {w0 w : World} {F : List Seg} {bb n m l c0 cx : Nat} {b : Bd} {p px : Option Addr} {xs : List (Nat × Nat × Nat)} (H : BHp w0 w bb n b F) (hT : SlAt F (some ⟨12, 0, none⟩) tableC) (hx : SlAt F px (insV xs)) (hxl : xs.length ≤ 1000) (hb : b.sm) (h1 : addsO b (xs.map (gatS m))) (h2 : addsO (b.ads (xs.map (gatS m))) (xs.map (flyS m))) : Ret Tryz.prog 89 [.pointer (some ⟨bb, 0, none⟩), .agg (tv 2 ((m : Nat) : Int) p l c0).toArray, .slice px xs.length cx] w fun _ w' => BHp w0 w' bb n ((b.ads (xs.map (gatS m))).ads (xs.map (flyS m))) F := by
 refine Calls.of_J (n := 87) Tryz.func89 rfl rfl rfl (J.seq ?_)
 obtain ⟨q, c, sl, hO, H⟩ := H
 refine J.region (JL.e (EX.box (v := .agg _) H rfl rfl) ?_)
 rintro _ w ⟨b4, rfl, H⟩
 refine JL.nil (J.seq (J.seq ?_))
 replace H := H.pull 1 rfl
 refine J.region (JL.mp rfl (JL.e (EX.call rfl cl90 rfl ((cfull_b H hb))) ?_))
 rintro _ w ⟨rfl, H⟩
 refine JL.nil (J.cond_f rfl rfl (J.skip (J.seq (J.region (JL.g (RX.fieldAddr rfl fo39_0 rfl) (JL.g (RX.load H rfl (i := 1) (v := .int _ _) rfl rfl one3) (JL.nil (J.block (J.seq (J.region (JL.g (RX.eq rfl rfl) (JL.ab rfl (JL.nil (J.cond_f rfl (by decide) (J.seq (J.region (JL.g (RX.eq rfl rfl) (JL.ab rfl (JL.nil (J.cond_t rfl (by decide) (J.seq (J.seq (J.region (JL.ms rfl (JL.g (RX.len_slice rfl (by rw [sl145]; rfl) rfl) ?_)))))))))))))))))))))))))
 refine JL.g (RX.move) (JL.nil (J.block (J.loop (ι := Nat) (S := fun i => [(35, .int .i64 ((i : Nat) : Int))]) (Φ := fun i w => i ≤ xs.length ∧ BHp w0 w bb n ((b).ads ((xs.map (gatS m)).take i)) ([(b4, cel (tv 2 ((m : Nat) : Int) p l c0) 39)] :: F)) (μ := fun i => xs.length - i) (C := [(0, _), (2, _), (4, _), (33, _), (34, _)]) 0 ⟨rfl, rfl, rfl, rfl, rfl, trivial⟩ ⟨rfl, trivial⟩ ?_ ?_)))
 · exact ⟨by omega, q, c, sl, hO, (H.pull 2 rfl).pull 1 rfl⟩
 clear H
 rintro i ρ w ⟨hi, H⟩ IH
 refine J.seq (J.region (JL.g (RX.lt rfl rfl) (JL.nil (J.seq (J.cond_d rfl (fun hlt => ?_) (fun hlt => ?_))))))
 ·
  have hil : i < xs.length := by omega
  obtain ⟨x, hxi⟩ : ∃ x, xs[i]? = some x := ⟨_, List.getElem?_eq_getElem hil⟩
  have hsi : (xs.map (gatS m))[i]? = some (gatS m x) := by rw [List.getElem?_map, hxi]; rfl
  have hao := h1 i (by rw [List.length_map]; exact hil) _ hsi
  obtain ⟨pb, po, rfl⟩ := spot_some hx (by rw [insV_len]; omega)
  obtain ⟨q, c, sl, hO, H⟩ := H
  refine J.skip (J.seq (J.block (J.seq (J.region (JL.g (RX.indexAddr rfl rfl sl145 (by omega) (by omega) (o' := po + i * 3) (by omega)) (JL.g (RX.loadAggS H hx.cons.cons.cons rfl (j := i * 3) (by omega) (vs := inV x.1 x.2.1 x.2.2) (insV_read _ _ _ hxi) ag142) (JL.e (EX.alloc H zr142 rfl) ?_)))))))
  rintro _ w ⟨b7, rfl, H⟩
  refine JL.e (EX.storeAgg H rfl rfl (i := 0) (vs := inV x.1 x.2.1 x.2.2) (l' := inV x.1 x.2.1 x.2.2) rfl (inV_cell _ _ _) (by simp [inV]) sz142 rfl rfl) ?_
  rintro _ w H
  refine JL.nil ?_
  replace H : Hp w0 w ([(b7, cel (inV x.1 x.2.1 x.2.2) 142)] :: [(bb, cel (bdV n ((b).ads ((xs.map (gatS m)).take i)) q c) 115)] :: sl :: [(b4, cel (tv 2 ((m : Nat) : Int) p l c0) 39)] :: F) := H
  refine J.region (JL.mp rfl (JL.g (RX.fieldAddr rfl fo142_2 rfl) (JL.g (RX.load H rfl (i := 0) (v := .int _ _) rfl rfl one3) (JL.g (RX.fieldAddr rfl fo142_0 rfl) (JL.g (RX.load H rfl (i := 0) (v := .int _ _) rfl rfl one3) (JL.g (RX.fieldAddr rfl fo142_1 rfl) (JL.g (RX.load H rfl (i := 0) (v := .int _ _) rfl rfl one3) (JL.g (RX.fieldAddr rfl fo39_1 rfl) (JL.g (RX.load H rfl (i := 3) (v := .int _ _) rfl rfl one3) (JL.e (EX.call rfl cl116 rfl ((cgather_b H))) ?_))))))))))
  rintro _ w ⟨rfl, H⟩
  refine JL.e (EX.call rfl cl114 rfl ((cadd_b (F := [(b7, cel (inV x.1 x.2.1 x.2.2) 142)] :: [(b4, cel (tv 2 ((m : Nat) : Int) p l c0) 39)] :: F) (s := gatS m x) ⟨q, c, sl, hO, (H.pull 2 rfl).pull 2 rfl⟩ hT.cons.cons hao))) ?_
  rintro _ w H
  refine JL.nil (J.inBlock (J.region (JL.g (RX.add rfl rfl (w_i64 rfl (by omega) (by omega))) (JL.mi rfl (JL.nil ?_)))))
  rw [← Bd.ads_succ _ hsi] at H
  obtain ⟨q, c, sl, hO, H⟩ := H
  replace H := (H.pull 2 rfl).drop
  exact IH (i + 1) _ _ (by omega) ⟨rfl, rfl, rfl, rfl, rfl, trivial⟩ ⟨rfl, trivial⟩ ⟨by omega, q, c, sl, hO, H⟩
 ·
  obtain rfl : i = xs.length := by omega
  rw [List.take_of_length_le (by rw [List.length_map]; omega)] at H
  refine J.exit rfl (J.seq (J.region (JL.ms rfl (JL.g (RX.len_slice rfl (by rw [sl145]; rfl) rfl) ?_))))
  refine JL.g (RX.move) (JL.nil (J.block (J.loop (ι := Nat) (S := fun i => [(53, .int .i64 ((i : Nat) : Int))]) (Φ := fun i w => i ≤ xs.length ∧ BHp w0 w bb n (((b.ads (xs.map (gatS m)))).ads ((xs.map (flyS m)).take i)) ([(b4, cel (tv 2 ((m : Nat) : Int) p l c0) 39)] :: F)) (μ := fun i => xs.length - i) (C := [(0, _), (4, _), (51, _), (52, _)]) 0 ⟨rfl, rfl, rfl, rfl, trivial⟩ ⟨rfl, trivial⟩ ?_ ?_)))
  · exact ⟨by omega, H⟩
  clear H
  rintro i ρ w ⟨hi, H⟩ IH
  refine J.seq (J.region (JL.g (RX.lt rfl rfl) (JL.nil (J.seq (J.cond_d rfl (fun hlt => ?_) (fun hlt => ?_))))))
  ·
   have hil : i < xs.length := by omega
   obtain ⟨x, hxi⟩ : ∃ x, xs[i]? = some x := ⟨_, List.getElem?_eq_getElem hil⟩
   have hsi : (xs.map (flyS m))[i]? = some (flyS m x) := by rw [List.getElem?_map, hxi]; rfl
   have hao := h2 i (by rw [List.length_map]; exact hil) _ hsi
   obtain ⟨pb, po, rfl⟩ := spot_some hx (by rw [insV_len]; omega)
   obtain ⟨q, c, sl, hO, H⟩ := H
   refine J.skip (J.seq (J.block (J.seq (J.region (JL.g (RX.indexAddr rfl rfl sl145 (by omega) (by omega) (o' := po + i * 3) (by omega)) (JL.g (RX.loadAggS H hx.cons.cons.cons rfl (j := i * 3) (by omega) (vs := inV x.1 x.2.1 x.2.2) (insV_read _ _ _ hxi) ag142) (JL.e (EX.alloc H zr142 rfl) ?_)))))))
   rintro _ w ⟨b7, rfl, H⟩
   refine JL.e (EX.storeAgg H rfl rfl (i := 0) (vs := inV x.1 x.2.1 x.2.2) (l' := inV x.1 x.2.1 x.2.2) rfl (inV_cell _ _ _) (by simp [inV]) sz142 rfl rfl) ?_
   rintro _ w H
   refine JL.nil ?_
   replace H : Hp w0 w ([(b7, cel (inV x.1 x.2.1 x.2.2) 142)] :: [(bb, cel (bdV n (((b.ads (xs.map (gatS m)))).ads ((xs.map (flyS m)).take i)) q c) 115)] :: sl :: [(b4, cel (tv 2 ((m : Nat) : Int) p l c0) 39)] :: F) := H
   refine J.region (JL.mp rfl (JL.g (RX.fieldAddr rfl fo142_2 rfl) (JL.g (RX.load H rfl (i := 0) (v := .int _ _) rfl rfl one3) (JL.g (RX.fieldAddr rfl fo39_1 rfl) (JL.g (RX.load H rfl (i := 3) (v := .int _ _) rfl rfl one3) (JL.e (EX.call rfl cl117 rfl ((show Ret _ _ [.int .i64 ((x.2.2 : Nat) : Int), .int .i64 ((1 : Nat) : Int), .int .i64 ((1 : Nat) : Int), .int .i64 ((m : Nat) : Int)] w _ from cfly_b H))) ?_))))))
   rintro _ w ⟨rfl, H⟩
   refine JL.e (EX.call rfl cl114 rfl ((cadd_b (F := [(b7, cel (inV x.1 x.2.1 x.2.2) 142)] :: [(b4, cel (tv 2 ((m : Nat) : Int) p l c0) 39)] :: F) (s := flyS m x) ⟨q, c, sl, hO, (H.pull 2 rfl).pull 2 rfl⟩ hT.cons.cons hao))) ?_
   rintro _ w H
   refine JL.nil (J.inBlock (J.region (JL.g (RX.add rfl rfl (w_i64 rfl (by omega) (by omega))) (JL.mi rfl (JL.nil ?_)))))
   rw [← Bd.ads_succ _ hsi] at H
   obtain ⟨q, c, sl, hO, H⟩ := H
   replace H := (H.pull 2 rfl).drop
   exact IH (i + 1) _ _ (by omega) ⟨rfl, rfl, rfl, rfl, trivial⟩ ⟨rfl, trivial⟩ ⟨by omega, q, c, sl, hO, H⟩
  ·
   obtain rfl : i = xs.length := by omega
   obtain ⟨q, c, sl, hO, H⟩ := H
   refine J.exit rfl (J.inBlock (J.end0 Tryz.func89 rfl ?_))
   exact ⟨_, rfl, by rw [List.take_of_length_le (by rw [List.length_map]; omega)] at hO H; exact ⟨q, c, sl, hO, (H.pull 2 rfl).drop⟩⟩
def wlfB (f : Bool) (xs : List (Nat × Nat × Nat)) (b : Bd) : Bd := if f then (b.ads (xs.map (gatS 2))).ads (xs.map (flyS 2)) else b.ads (xs.map (dirS 2))
def wlfO (f : Bool) (xs : List (Nat × Nat × Nat)) (b : Bd) : Prop := if f then addsO b (xs.map (gatS 2)) ∧ addsO (b.ads (xs.map (gatS 2))) (xs.map (flyS 2)) else addsO b (xs.map (dirS 2))
instance {f : Bool} {xs : List (Nat × Nat × Nat)} {b : Bd} : Decidable (wlfO f xs b) := by unfold wlfO; exact inferInstance
theorem wideL_b {w0 w : World} {F : List Seg} {bb n c0 cx : Nat} {b : Bd} {p px : Option Addr} {xs : List (Nat × Nat × Nat)} {f : Bool} (H : BHp w0 w bb n b F) (hT : SlAt F (some ⟨12, 0, none⟩) tableC) (hx : SlAt F px (insV xs)) (hxl : xs.length ≤ 1000) (hb : b.sm) (h : wlfO f xs b) :
 Ret Tryz.prog 89 [.pointer (some ⟨bb, 0, none⟩), .agg (tv (kf f) 2 p 0 c0).toArray, .slice px xs.length cx] w fun _ w' => BHp w0 w' bb n (wlfB f xs b) F := by
 cases f
 · exact wideD_b (m := 2) H hT hx hxl hb h
 · exact wideF_b (m := 2) H hT hx hxl hb h.1 h.2
end Oo
end Go.Proofs.YtfaokllgaambjaaGreatDoor
namespace Go.Proofs.YtfaokllgaambjaaGreatDoor
open Go Go.Eng
set_option maxRecDepth 100000
set_option maxHeartbeats 1600000
theorem cl89 : callable Tryz.prog 89 = true := by kernel_rfl
theorem sl23 : sliceOf Tryz.prog 23 = some (3, 1) := by kernel_rfl
namespace Oo
theorem elIn : Elem Tryz.prog 145 142 3 24 := Elem.of (by kernel_rfl)
def nxI (t i : Nat) : Nat × Nat × Nat := (0 + i * 1, 1 * 2, t + i * 2)
def nxL (t k : Nat) : List (Nat × Nat × Nat) := (List.range k).map (nxI t)
theorem nxL_len (t k : Nat) : (nxL t k).length = k := by simp [nxL]
theorem nxL_succ (t k : Nat) : insV (nxL t (k + 1)) = insV (nxL t k) ++ inV (0 + k * 1) (1 * 2) (t + k * 2) := by
 simp [nxL, List.range_succ, insV, nxI]
def wA (fa : Bool) : Bd := if fa then d0 else (d0.rg 4).rg 4
def inB (fa fb : Bool) : Bd := (wlfB fb (nxL (tmO fa) 2) (wA fa)).ad ⟨4, tmO fa + 1 * 2, 0, 0, 2, 4, 1⟩
theorem in_leaf {fa fb : Bool} : (wA fa).sm ∧ wlfO fb (nxL (tmO fa) 2) (wA fa) ∧ addO (wlfB fb (nxL (tmO fa) 2) (wA fa)) ⟨4, tmO fa + 1 * 2, 0, 0, 2, 4, 1⟩ := by
 cases fa <;> cases fb <;> decide +kernel
theorem inner_b {w0 w : World} {F : List Seg} {bb xb xo cx ab ao ca : Nat} {fa fb : Bool} {pb po c1 c2 ck : Nat} {p1 p2 : Option Addr} (H : BHp w0 w bb 4 (wA fa) F) (hT : SlAt F (some ⟨12, 0, none⟩) tableC) (hs : SlAt F (some ⟨pb, po, none⟩) (kidV fa fb p1 p2 c1 c2)) (ha : (lfT fa).Is F (tv (kf fa) 2 p1 0 c1)) (hk : (lfT fb).Is F (tv (kf fb) 2 p2 0 c2)) (hx : SlAt F (some ⟨xb, xo, none⟩) (insV [(0, 1, 4)])) (hat : SlAt F (some ⟨ab, ao, none⟩) [.int .i64 ((tmO fa : Nat) : Int)]) : Ret Tryz.prog 147 [.pointer (some ⟨bb, 0, none⟩), .agg (tv 3 0 (some ⟨pb, po, none⟩) 2 ck).toArray, .slice (some ⟨xb, xo, none⟩) 1 cx, .slice (some ⟨ab, ao, none⟩) 1 ca] w fun _ w' => BHp w0 w' bb 4 (inB fa fb) F := by
 refine Calls.of_J (n := 93) Tryz.func147 rfl rfl rfl (J.seq ?_)
 obtain ⟨q, c, sl, hO, H⟩ := H
 have ht8 : tmO fa ≤ 8 := by cases fa <;> decide
 obtain ⟨hw1, hw2, hw3⟩ := in_leaf (fa := fa) (fb := fb)
 refine J.region (JL.e (EX.box (v := .agg _) H rfl rfl) ?_)
 rintro _ w ⟨b4, rfl, H⟩
 refine JL.nil (J.seq ?_)
 replace H := H.pull 1 rfl
 refine J.region (JL.g (RX.loadAgg H rfl (i := 1) (vs := tv 3 0 (some ⟨pb, po, none⟩) 2 ck) rfl rfl ag39) (JL.e (EX.call rfl cl139 rfl ((csize_b H hs.cons.cons.cons ha.cons.cons.cons hk.cons.cons.cons))) ?_))
 rintro _ w ⟨rfl, H⟩
 refine JL.g (RX.movev (v := .tuple _) rfl) (JL.g (RX.extract (v := .int _ _) rfl rfl) (JL.g (RX.extract (v := .int _ _) rfl rfl) (JL.g (RX.extract (v := .bool _) rfl rfl) (JL.ai rfl (JL.ai rfl (JL.ab rfl (JL.nil (J.seq (J.region (JL.g (RX.assign) (JL.nil (J.seq (J.seq (J.region (JL.ms rfl (JL.g (RX.len_slice rfl (by rw [sl145]; rfl) rfl) ?_))))))))))))))))
 refine JL.g (RX.move) (JL.nil (J.block (J.loop (ι := Nat × Option Addr × Nat × Seg) (S := fun z => [(25, .int .i64 ((z.1 : Nat) : Int)), (11, .slice z.2.1 (2 * z.1) z.2.2.1)]) (Φ := fun z w => z.1 ≤ 1 ∧ OwnSl 142 3 z.2.1 (2 * z.1) z.2.2.1 (insV (nxL (tmO fa) (2 * z.1))) z.2.2.2 ∧ Hp w0 w ([(bb, cel (bdV 4 (wA fa) q c) 115)] :: sl :: z.2.2.2 :: [(b4, cel (tv 3 0 (some ⟨pb, po, none⟩) 2 ck) 39)] :: F)) (μ := fun z => 1 - z.1) (C := [(0, _), (2, _), (3, _), (5, _), (8, _), (9, _), (23, _), (24, _)]) (0, none, 0, []) ⟨rfl, rfl, rfl, rfl, rfl, rfl, rfl, rfl, trivial⟩ ⟨rfl, rfl, trivial⟩ ?_ ?_)))
 · exact ⟨by omega, OwnSl.nil, (((H.pull 1 rfl).nil).pull 3 rfl).pull 3 rfl⟩
 clear H
 rintro ⟨j, qn, cn, ns⟩ ρ w ⟨hj, ho, H⟩ IH
 simp only at hj ho H
 dsimp only
 refine J.seq (J.region (JL.g (RX.lt rfl rfl) (JL.nil (J.seq (J.cond_d rfl (fun hlt => ?_) (fun hlt => ?_))))))
 ·
  obtain rfl : j = 0 := by omega
  refine J.skip (J.seq (J.block (J.seq (J.region (JL.mi rfl (JL.g (RX.indexAddr rfl rfl sl145 (by omega) (by omega) (o' := xo + 0 * 3) (by omega)) (JL.g (RX.loadAggS H hx.cons.cons.cons.cons rfl (j := 0 * 3) (by omega) (vs := inV 0 1 4) rfl ag142) (JL.e (EX.alloc H zr142 rfl) ?_))))))))
  rintro _ w ⟨b7, rfl, H⟩
  refine JL.ai rfl (JL.e (EX.storeAgg H rfl rfl (i := 0) (vs := inV 0 1 4) (l' := inV 0 1 4) rfl (inV_cell _ _ _) (by simp [inV]) sz142 rfl rfl) ?_)
  rintro _ w H
  refine JL.nil (J.seq ?_)
  replace H : Hp w0 w ([(b7, cel (inV 0 1 4) 142)] :: [(bb, cel (bdV 4 (wA fa) q c) 115)] :: sl :: ns :: [(b4, cel (tv 3 0 (some ⟨pb, po, none⟩) 2 ck) 39)] :: F) := H
  refine J.region (JL.mi rfl (JL.g (RX.move) (JL.nil (J.block (J.loop (ι := Nat × Option Addr × Nat × Seg) (S := fun z => [(31, .int .i64 ((z.1 : Nat) : Int)), (11, .slice z.2.1 z.1 z.2.2.1)]) (Φ := fun z w => z.1 ≤ 2 ∧ OwnSl 142 3 z.2.1 z.1 z.2.2.1 (insV (nxL (tmO fa) (z.1))) z.2.2.2 ∧ Hp w0 w ([(b7, cel (inV 0 1 4) 142)] :: z.2.2.2 :: [(bb, cel (bdV 4 (wA fa) q c) 115)] :: sl :: [(b4, cel (tv 3 0 (some ⟨pb, po, none⟩) 2 ck) 39)] :: F)) (μ := fun z => 2 - z.1) (C := [(0, _), (2, _), (3, _), (5, _), (8, _), (9, _), (12, _), (13, _), (23, _), (24, _), (25, _), (30, _)]) (0, qn, cn, ns) ⟨rfl, rfl, rfl, rfl, rfl, rfl, rfl, rfl, rfl, rfl, rfl, rfl, trivial⟩ ⟨rfl, rfl, trivial⟩ ?_ ?_)))))
  · exact ⟨by omega, ho, (H.pull 3 rfl).pull 1 rfl⟩
  clear H ho
  rintro ⟨i, qm, cm, ms⟩ ρ w ⟨hi, ho, H⟩ IH2
  simp only at hi ho H
  dsimp only
  refine J.seq (J.region (JL.g (RX.lt rfl rfl) (JL.nil (J.seq (J.cond_d rfl (fun hlt2 => ?_) (fun hlt2 => ?_))))))
  ·
   have hi2 : i < 2 := by omega
   refine J.skip (J.seq (J.block (J.seq (J.region (JL.mi rfl (JL.ai rfl (JL.nil (J.any hmix fun w hs => ?_))))))))
   replace H := H.same hs; clear hs
   refine JA.take 0 rfl (by kernel_rfl) (by kernel_rfl) (by kernel_rfl) rfl trivial (fun w => RX.movev (v := .slice _ _ _) rfl) (JA.stage (listed := [true, false, false, false, false, false, false, false, false, false, false, false, false, false, false, false, false, false, false, false, false, false, false, false]) 21 [1, 2, 3, 4, 5, 6, 7, 8, 9, 10, 11, 12, 13, 14, 15, 16, 17, 18, 19, 20] H (by kernel_rfl) rfl rfl (JI.go rfl trivial (fun w H => RX.fieldAddr rfl fo142_0 rfl) (JI.go rfl trivial (fun w H => RX.load H rfl (i := 0) (v := .int _ _) rfl rfl one3) (JI.go rfl trivial (fun w H => RX.movev (v := .int _ _) rfl) (JI.go rfl trivial (fun w H => RX.fieldAddr rfl fo142_1 rfl) (JI.go rfl trivial (fun w H => RX.load H rfl (i := 0) (v := .int _ _) rfl rfl one3) (JI.go rfl trivial (fun w H => RX.mul rfl rfl (wi (n := i * 1) (by omega) (by omega))) (JI.go rfl trivial (fun w H => RX.add rfl rfl (wi (n := 0 + i * 1) (by omega) (by omega))) (JI.go rfl trivial (fun w H => RX.fieldAddr rfl fo142_1 rfl) (JI.go rfl trivial (fun w H => RX.load H rfl (i := 0) (v := .int _ _) rfl rfl one3) (JI.go rfl trivial (fun w H => RX.movev (v := .int _ _) rfl) (JI.go rfl trivial (fun w H => RX.mul rfl rfl (wi (n := 1 * 2) (by decide) (by omega))) (JI.go rfl trivial (fun w H => RX.movev (v := .slice _ _ _) rfl) (JI.go rfl trivial (fun w H => RX.movev (v := .int _ _) rfl) (JI.go rfl trivial (fun w H => RX.indexAddr rfl rfl sl23 (by omega) (by omega) (o' := ao + 0) (by omega)) (JI.go rfl trivial (fun w H => RX.loadS H hat.cons.cons.cons.cons.cons rfl (j := 0) rfl (v := .int .i64 ((tmO fa : Nat) : Int)) rfl one3) (JI.go rfl trivial (fun w H => RX.movev (v := .int _ _) rfl) (JI.go rfl trivial (fun w H => RX.movev (v := .int _ _) rfl) (JI.go rfl trivial (fun w H => RX.mul rfl rfl (wi (n := i * 2) (by omega) (by omega))) (JI.go rfl trivial (fun w H => RX.add rfl rfl (wi (n := tmO fa + i * 2) (by omega) (by omega))) (JI.go rfl trivial (fun w H => RX.build (pv := [(0, .int .i64 ((0 + i * 1 : Nat) : Int)), (1, .int .i64 ((1 * 2 : Nat) : Int)), (2, .int .i64 ((tmO fa + i * 2 : Nat) : Int))]) (res := inV (0 + i * 1) (1 * 2) (tmO fa + i * 2)) rfl (by kernel_rfl)) (JI.nil fun w H => (JL.e (EX.buildSlice (pv := [(0, .agg (inV (0 + i * 1) (1 * 2) (tmO fa + i * 2)).toArray)]) (l := inV (0 + i * 1) (1 * 2) (tmO fa + i * 2)) (e := 142) H rfl (by kernel_rfl)) ?_)))))))))))))))))))))))
   rintro _ w ⟨b9, rfl, H⟩
   refine JL.e (EX.append (ys := inV (0 + i * 1) (1 * 2) (tmO fa + i * 2)) (L' := fun s' => [(b9, cel (inV (0 + i * 1) (1 * 2) (tmO fa + i * 2)) 142)] :: [(b7, cel (inV 0 1 4) 142)] :: s' :: [(bb, cel (bdV 4 (wA fa) q c) 115)] :: sl :: [(b4, cel (tv 3 0 (some ⟨pb, po, none⟩) 2 ck) 39)] :: F) H elIn rfl rfl (i := 2) rfl ho (SlAt.here List.take_length) rfl (inV_cell _ _ _) (by decide) (by omega) (by omega) (fun _ => rfl)) ?_
   rintro _ w ⟨q2, c2, s2, rfl, ho2, H⟩
   rw [← nxL_succ] at ho2
   refine JL.al rfl (JL.nil (J.inBlock (J.region (JL.g (RX.add rfl rfl (w_i64 rfl (by omega) (by omega))) (JL.mi rfl (JL.nil ?_))))))
   exact IH2 (i + 1, q2, c2, s2) _ _ (by simp only; omega) ⟨rfl, rfl, rfl, rfl, rfl, rfl, rfl, rfl, rfl, rfl, rfl, rfl, trivial⟩ ⟨rfl, rfl, trivial⟩ ⟨by simp only; omega, ho2, H.drop⟩
  ·
   obtain rfl : i = 2 := by omega
   refine J.exit rfl (J.inBlock (J.region (JL.g (RX.add rfl rfl (w_i64 rfl (by omega) (by omega))) (JL.mi rfl (JL.nil ?_)))))
   exact IH (0 + 1, qm, cm, ms) _ _ (by simp only; omega) ⟨rfl, rfl, rfl, rfl, rfl, rfl, rfl, rfl, trivial⟩ ⟨rfl, rfl, trivial⟩ ⟨by simp only; omega, ho, (H.drop.pull 2 rfl).pull 2 rfl⟩
 ·
  obtain rfl : j = 1 := by omega
  refine J.exit rfl (J.seq (J.region (JL.mp rfl (JL.g (RX.fieldAddr rfl fo39_2 rfl) (JL.g (RX.load H rfl (i := 3) (v := .slice _ _ _) rfl rfl one37) (JL.g (RX.indexAddr rfl rfl sl37 (by omega) (by omega) (o' := po + 1 * 3) (by omega)) (JL.g (RX.loadAggS H hs.cons.cons.cons.cons rfl (j := 1 * 3) (by omega) (vs := tv (kf fb) 2 p2 0 c2) rfl ag39) (JL.ms rfl (JL.e (EX.call rfl cl89 rfl ((show Ret _ _ [.pointer (some ⟨bb, 0, none⟩), .agg (tv (kf fb) 2 p2 0 c2).toArray, .slice qn 2 cn] w _ by have h9 := wideL_b (cx := cn) (c0 := c2) (p := p2) (F := ns :: [(b4, cel (tv 3 0 (some ⟨pb, po, none⟩) 2 ck) 39)] :: F) ⟨q, c, sl, hO, H⟩ hT.cons.cons ho.slAt (by rw [nxL_len]; omega) hw1 hw2; rw [nxL_len] at h9; exact h9))) ?_)))))))))
  rintro _ w H
  refine JL.nil (J.seq (J.region (JL.ms rfl (JL.g (RX.len_slice rfl (by rw [sl145]; rfl) rfl) ?_))))
  refine JL.g (RX.move) (JL.nil (J.block (J.loop (ι := Nat) (S := fun z => [(68, .int .i64 ((z : Nat) : Int))]) (Φ := fun z w => z ≤ 1 ∧ BHp w0 w bb 4 (if z = 0 then wlfB fb (nxL (tmO fa) 2) (wA fa) else inB fa fb) (ns :: [(b4, cel (tv 3 0 (some ⟨pb, po, none⟩) 2 ck) 39)] :: F)) (μ := fun z => 1 - z) (C := [(0, _), (3, _), (8, _), (9, _), (67, _)]) 0 ⟨rfl, rfl, rfl, rfl, rfl, trivial⟩ ⟨rfl, trivial⟩ ?_ ?_)))
  · exact ⟨by omega, H⟩
  clear H
  rintro z ρ w ⟨hz, H⟩ IH3
  refine J.seq (J.region (JL.g (RX.lt rfl rfl) (JL.nil (J.seq (J.cond_d rfl (fun hlt3 => ?_) (fun hlt3 => ?_))))))
  ·
   obtain rfl : z = 0 := by omega
   refine J.skip (J.seq (J.block (J.seq (J.region (JL.mi rfl (JL.ai rfl (JL.nil (J.seq (J.region (JL.g (RX.assign) (JL.nil (J.block (J.loop (ι := Nat) (S := fun k => [(16, .int .i64 ((k : Nat) : Int))]) (Φ := fun k w => 1 ≤ k ∧ k ≤ 2 ∧ BHp w0 w bb 4 (if k = 1 then wlfB fb (nxL (tmO fa) 2) (wA fa) else inB fa fb) (ns :: [(b4, cel (tv 3 0 (some ⟨pb, po, none⟩) 2 ck) 39)] :: F)) (μ := fun k => 2 - k) (C := [(0, _), (3, _), (8, _), (9, _), (15, _), (67, _), (68, _)]) 1 ⟨rfl, rfl, rfl, rfl, rfl, rfl, rfl, trivial⟩ ⟨rfl, trivial⟩ ?_ ?_)))))))))))))
   · exact ⟨by omega, by omega, H⟩
   clear H
   rintro k ρ w ⟨hk1, hk2, H⟩ IH4
   refine J.seq (J.seq (J.region (JL.mi rfl (JL.mi rfl (JL.g (RX.lt rfl rfl) (JL.nil (J.cond_d rfl (fun hlt4 => ?_) (fun hlt4 => ?_))))))))
   ·
    obtain rfl : k = 1 := by omega
    replace H : BHp w0 w bb 4 (wlfB fb (nxL (tmO fa) 2) (wA fa)) (ns :: [(b4, cel (tv 3 0 (some ⟨pb, po, none⟩) 2 ck) 39)] :: F) := H
    obtain ⟨q, c, sl, hO, H⟩ := H
    refine J.skip (J.seq (J.block (J.region (JL.mp rfl (JL.ms rfl (JL.mi rfl (JL.g (RX.indexAddr rfl rfl sl23 (by omega) (by omega) (o' := ao + 0) (by omega)) (JL.g (RX.loadS H hat.cons.cons.cons.cons rfl (j := 0) rfl (v := .int .i64 ((tmO fa : Nat) : Int)) rfl one3) (JL.mi rfl (JL.mi rfl (JL.g (RX.mul rfl rfl (wi (n := 1 * 2) (by decide) (by omega))) (JL.g (RX.add rfl rfl (wi (n := tmO fa + 1 * 2) (by omega) (by omega))) (JL.mi rfl (JL.mi rfl (JL.mi rfl (JL.g (RX.mul rfl rfl (wi (n := 4) (by decide) (by omega))) (JL.mi rfl (JL.e (EX.call rfl cl140 rfl ((show Ret _ _ [.int .i64 ((tmO fa + 1 * 2 : Nat) : Int), .int .i64 ((2 : Nat) : Int), .int .i64 ((4 : Nat) : Int), .int .i64 ((1 : Nat) : Int)] w _ from ctwist_b H))) ?_))))))))))))))))))
    rintro _ w ⟨rfl, H⟩
    refine JL.e (EX.call rfl cl114 rfl ((cadd_b (F := ns :: [(b4, cel (tv 3 0 (some ⟨pb, po, none⟩) 2 ck) 39)] :: F) ⟨q, c, sl, hO, H⟩ hT.cons.cons hw3))) ?_
    rintro _ w H
    refine JL.nil (J.inBlock (J.region (JL.mi rfl (JL.g (RX.add rfl rfl (wi (n := 2) (by decide) (by omega))) (JL.ai rfl (JL.nil ?_))))))
    exact IH4 2 _ _ (by omega) ⟨rfl, rfl, rfl, rfl, rfl, rfl, rfl, trivial⟩ ⟨rfl, trivial⟩ ⟨by omega, by omega, H⟩
   ·
    obtain rfl : k = 2 := by omega
    refine J.exit rfl (J.inBlock (J.region (JL.g (RX.add rfl rfl (w_i64 rfl (by omega) (by omega))) (JL.mi rfl (JL.nil ?_)))))
    exact IH3 1 _ _ (by omega) ⟨rfl, rfl, rfl, rfl, rfl, trivial⟩ ⟨rfl, trivial⟩ ⟨by omega, H⟩
  ·
   obtain rfl : z = 1 := by omega
   refine J.exit rfl (J.end0 Tryz.func147 rfl ?_)
   replace H : BHp w0 w bb 4 (inB fa fb) (ns :: [(b4, cel (tv 3 0 (some ⟨pb, po, none⟩) 2 ck) 39)] :: F) := H
   obtain ⟨q, c, sl, hO, H⟩ := H
   exact ⟨_, rfl, q, c, sl, hO, (((H.pull 2 rfl).drop.pull 2 rfl).drop)⟩
end Oo
end Go.Proofs.YtfaokllgaambjaaGreatDoor
namespace Go.Proofs.YtfaokllgaambjaaGreatDoor
open Go Go.Eng
set_option maxRecDepth 100000
set_option maxHeartbeats 1600000
theorem cl147 : callable Tryz.prog 147 = true := by kernel_rfl
namespace Oo
theorem elN : Elem Tryz.prog 23 3 1 8 := Elem.of (by kernel_rfl)
def wfB (fb : Bool) : Bd := (inB true fb).ad ⟨5, 4, 0, 2, 2, 2, 0⟩
theorem wf_ok {fb : Bool} : addO (inB true fb) ⟨5, 4, 0, 2, 2, 2, 0⟩ := by cases fb <;> decide +kernel
theorem wideFly_b {w0 w : World} {F : List Seg} {bb xb xo cx : Nat} {fb : Bool} {pb po c1 c2 ck : Nat} {p1 p2 : Option Addr} (H : BHp w0 w bb 4 d0 F) (hT : SlAt F (some ⟨12, 0, none⟩) tableC) (hs : SlAt F (some ⟨pb, po, none⟩) (kidV true fb p1 p2 c1 c2)) (ha : (lfT true).Is F (tv (kf true) 2 p1 0 c1)) (hk : (lfT fb).Is F (tv (kf fb) 2 p2 0 c2)) (hx : SlAt F (some ⟨xb, xo, none⟩) (insV [(0, 1, 4)])) : Ret Tryz.prog 120 [.pointer (some ⟨bb, 0, none⟩), .agg (tv 3 0 (some ⟨pb, po, none⟩) 2 ck).toArray, .slice (some ⟨xb, xo, none⟩) 1 cx] w fun _ w' => BHp w0 w' bb 4 (wfB fb) F := by
 refine Calls.of_J (n := 52) Tryz.func120 rfl rfl rfl (J.seq ?_)
 obtain ⟨q, c, sl, hO, H⟩ := H
 refine J.region (JL.e (EX.box (v := .agg _) H rfl rfl) ?_)
 rintro _ w ⟨b4, rfl, H⟩
 refine JL.nil (J.seq ?_)
 replace H := H.pull 1 rfl
 refine J.region (JL.g (RX.loadAgg H rfl (i := 1) (vs := tv 3 0 (some ⟨pb, po, none⟩) 2 ck) rfl rfl ag39) (JL.e (EX.call rfl cl139 rfl ((csize_b H hs.cons.cons.cons ha.cons.cons.cons hk.cons.cons.cons))) ?_))
 rintro _ w ⟨rfl, H⟩
 refine JL.g (RX.movev (v := .tuple _) rfl) (JL.g (RX.extract (v := .int _ _) rfl rfl) (JL.g (RX.extract (v := .int _ _) rfl rfl) (JL.g (RX.extract (v := .bool _) rfl rfl) (JL.ai rfl (JL.ai rfl (JL.ab rfl (JL.nil (J.seq (J.region (JL.g (RX.assign) (JL.nil (J.seq (J.seq (J.region (JL.ms rfl (JL.g (RX.len_slice rfl (by rw [sl145]; rfl) rfl) ?_))))))))))))))))
 refine JL.g (RX.move) (JL.nil (J.block (J.loop (ι := Nat × Option Addr × Nat × Seg) (S := fun z => [(22, .int .i64 ((z.1 : Nat) : Int)), (9, .slice z.2.1 z.1 z.2.2.1)]) (Φ := fun z w => z.1 ≤ 1 ∧ OwnSl 3 1 z.2.1 z.1 z.2.2.1 ([.int .i64 ((4 : Nat) : Int)].take z.1) z.2.2.2 ∧ Hp w0 w ([(bb, cel (bdV 4 d0 q c) 115)] :: sl :: z.2.2.2 :: [(b4, cel (tv 3 0 (some ⟨pb, po, none⟩) 2 ck) 39)] :: F)) (μ := fun z => 1 - z.1) (C := [(0, _), (2, _), (4, _), (6, _), (7, _), (20, _), (21, _)]) (0, none, 0, []) ⟨rfl, rfl, rfl, rfl, rfl, rfl, rfl, trivial⟩ ⟨rfl, rfl, trivial⟩ ?_ ?_)))
 · exact ⟨by omega, OwnSl.nil, (((H.pull 1 rfl).nil).pull 3 rfl).pull 3 rfl⟩
 clear H
 rintro ⟨j, qn, cn, ns⟩ ρ w ⟨hj, ho, H⟩ IH
 simp only at hj ho H
 dsimp only
 refine J.seq (J.region (JL.g (RX.lt rfl rfl) (JL.nil (J.seq (J.cond_d rfl (fun hlt => ?_) (fun hlt => ?_))))))
 ·
  obtain rfl : j = 0 := by omega
  refine J.skip (J.seq (J.block (J.seq (J.region (JL.g (RX.indexAddr rfl rfl sl145 (by omega) (by omega) (o' := xo + 0 * 3) (by omega)) (JL.g (RX.loadAggS H hx.cons.cons.cons.cons rfl (j := 0 * 3) (by omega) (vs := inV 0 1 4) rfl ag142) (JL.e (EX.alloc H zr142 rfl) ?_)))))))
  rintro _ w ⟨b7, rfl, H⟩
  refine JL.e (EX.storeAgg H rfl rfl (i := 0) (vs := inV 0 1 4) (l' := inV 0 1 4) rfl (inV_cell _ _ _) (by simp [inV]) sz142 rfl rfl) ?_
  rintro _ w H
  refine JL.nil ?_
  replace H : Hp w0 w ([(b7, cel (inV 0 1 4) 142)] :: [(bb, cel (bdV 4 d0 q c) 115)] :: sl :: ns :: [(b4, cel (tv 3 0 (some ⟨pb, po, none⟩) 2 ck) 39)] :: F) := H
  refine J.region (JL.ms rfl (JL.g (RX.fieldAddr rfl fo142_2 rfl) (JL.g (RX.load H rfl (i := 0) (v := .int _ _) rfl rfl one3) (JL.e (EX.buildSlice (pv := [(0, .int .i64 ((4 : Nat) : Int))]) (l := [.int .i64 ((4 : Nat) : Int)]) (e := 3) H rfl (by kernel_rfl)) ?_))))
  rintro _ w ⟨b9, rfl, H⟩
  refine JL.e (EX.append (ys := [.int .i64 ((4 : Nat) : Int)]) (L' := fun s' => [(b9, cel [.int .i64 ((4 : Nat) : Int)] 3)] :: [(b7, cel (inV 0 1 4) 142)] :: [(bb, cel (bdV 4 d0 q c) 115)] :: sl :: s' :: [(b4, cel (tv 3 0 (some ⟨pb, po, none⟩) 2 ck) 39)] :: F) H elN rfl rfl (i := 4) rfl ho (SlAt.here List.take_length) rfl (by simp [isCell]) (by decide) (by omega) (by omega) (fun _ => rfl)) ?_
  rintro _ w ⟨q2, c2, s2, rfl, ho2, H⟩
  refine JL.al rfl (JL.nil (J.inBlock (J.region (JL.g (RX.add rfl rfl (w_i64 rfl (by omega) (by omega))) (JL.mi rfl (JL.nil ?_))))))
  exact IH (0 + 1, q2, c2, s2) _ _ (by simp only; omega) ⟨rfl, rfl, rfl, rfl, rfl, rfl, rfl, trivial⟩ ⟨rfl, rfl, trivial⟩ ⟨by simp only; omega, ho2, H.drop.drop⟩
 ·
  obtain rfl : j = 1 := by omega
  obtain ⟨ab, ao, rfl⟩ := spot_some ho.slAt (F := [ns]) (by decide)
  refine J.exit rfl (J.seq (J.region (JL.mp rfl (JL.g (RX.loadAgg H rfl (i := 3) (vs := tv 3 0 (some ⟨pb, po, none⟩) 2 ck) rfl rfl ag39) (JL.ms rfl (JL.ms rfl (JL.e (EX.call rfl cl147 rfl ((inner_b (fa := true) (cx := cx) (ca := cn) (F := ns :: [(b4, cel (tv 3 0 (some ⟨pb, po, none⟩) 2 ck) 39)] :: F) ⟨q, c, sl, hO, H⟩ hT.cons.cons hs.cons.cons ha.cons.cons hk.cons.cons hx.cons.cons ho.slAt))) ?_)))))))
  rintro _ w H
  refine JL.nil (J.seq (J.region (JL.ms rfl (JL.g (RX.len_slice rfl (by rw [sl145]; rfl) rfl) ?_))))
  refine JL.g (RX.move) (JL.nil (J.block (J.loop (ι := Nat) (S := fun z => [(39, .int .i64 ((z : Nat) : Int))]) (Φ := fun z w => z ≤ 1 ∧ BHp w0 w bb 4 (if z = 0 then inB true fb else wfB fb) (ns :: [(b4, cel (tv 3 0 (some ⟨pb, po, none⟩) 2 ck) 39)] :: F)) (μ := fun z => 1 - z) (C := [(0, _), (6, _), (7, _), (37, _), (38, _)]) 0 ⟨rfl, rfl, rfl, rfl, rfl, trivial⟩ ⟨rfl, trivial⟩ ?_ ?_)))
  · exact ⟨by omega, H⟩
  clear H
  rintro z ρ w ⟨hz, H⟩ IH3
  refine J.seq (J.region (JL.g (RX.lt rfl rfl) (JL.nil (J.seq (J.cond_d rfl (fun hlt3 => ?_) (fun hlt3 => ?_))))))
  ·
   obtain rfl : z = 0 := by omega
   replace H : BHp w0 w bb 4 (inB true fb) (ns :: [(b4, cel (tv 3 0 (some ⟨pb, po, none⟩) 2 ck) 39)] :: F) := H
   obtain ⟨q, c, sl, hO, H⟩ := H
   refine J.skip (J.seq (J.block (J.seq (J.region (JL.g (RX.indexAddr rfl rfl sl145 (by omega) (by omega) (o' := xo + 0 * 3) (by omega)) (JL.g (RX.loadAggS H hx.cons.cons.cons.cons rfl (j := 0 * 3) (by omega) (vs := inV 0 1 4) rfl ag142) (JL.e (EX.alloc H zr142 rfl) ?_)))))))
   rintro _ w ⟨b7, rfl, H⟩
   refine JL.e (EX.storeAgg H rfl rfl (i := 0) (vs := inV 0 1 4) (l' := inV 0 1 4) rfl (inV_cell _ _ _) (by simp [inV]) sz142 rfl rfl) ?_
   rintro _ w H
   refine JL.nil ?_
   replace H : Hp w0 w ([(b7, cel (inV 0 1 4) 142)] :: [(bb, cel (bdV 4 (inB true fb) q c) 115)] :: sl :: ns :: [(b4, cel (tv 3 0 (some ⟨pb, po, none⟩) 2 ck) 39)] :: F) := H
   refine J.region (JL.mp rfl (JL.g (RX.fieldAddr rfl fo142_2 rfl) (JL.g (RX.load H rfl (i := 0) (v := .int _ _) rfl rfl one3) (JL.mi rfl (JL.mi rfl (JL.mi rfl (JL.e (EX.call rfl cl117 rfl ((show Ret _ _ [.int .i64 ((4 : Nat) : Int), .int .i64 ((2 : Nat) : Int), .int .i64 ((2 : Nat) : Int), .int .i64 ((2 : Nat) : Int)] w _ from cfly_b H))) ?_)))))))
   rintro _ w ⟨rfl, H⟩
   refine JL.e (EX.call rfl cl114 rfl ((cadd_b (F := [(b7, cel (inV 0 1 4) 142)] :: ns :: [(b4, cel (tv 3 0 (some ⟨pb, po, none⟩) 2 ck) 39)] :: F) ⟨q, c, sl, hO, (H.pull 2 rfl).pull 2 rfl⟩ hT.cons.cons.cons wf_ok))) ?_
   rintro _ w H
   refine JL.nil (J.inBlock (J.region (JL.g (RX.add rfl rfl (w_i64 rfl (by omega) (by omega))) (JL.mi rfl (JL.nil ?_)))))
   obtain ⟨q, c, sl, hO, H⟩ := H
   exact IH3 1 _ _ (by omega) ⟨rfl, rfl, rfl, rfl, rfl, trivial⟩ ⟨rfl, trivial⟩ ⟨by omega, q, c, sl, hO, (H.pull 2 rfl).drop⟩
  ·
   obtain rfl : z = 1 := by omega
   refine J.exit rfl (J.end0 Tryz.func120 rfl ?_)
   replace H : BHp w0 w bb 4 (wfB fb) (ns :: [(b4, cel (tv 3 0 (some ⟨pb, po, none⟩) 2 ck) 39)] :: F) := H
   obtain ⟨q, c, sl, hO, H⟩ := H
   exact ⟨_, rfl, q, c, sl, hO, (((H.pull 2 rfl).drop.pull 2 rfl).drop)⟩
end Oo
end Go.Proofs.YtfaokllgaambjaaGreatDoor
namespace Go.Proofs.YtfaokllgaambjaaGreatDoor
open Go Go.Eng
set_option maxRecDepth 100000
set_option maxHeartbeats 1600000
namespace Oo
theorem mkN : Tryz.prog.underlying 23 = some (.slice 3) ∧ ∃ i, Tryz.prog.info? 3 = some i ∧ i.zero = some (.int .i64 0) ∧ i.size = 1 ∧ i.bytes = 8 := ⟨by kernel_rfl, info_one (by kernel_rfl) (by kernel_rfl)⟩
def rgI : Nat → Bd
  | 0 => d0
  | i + 1 => (rgI i).rg 4
def rgL (i : Nat) : List Value := [.int .i64 (((if 0 < i then 8 else 0 : Nat)) : Int), .int .i64 (((if 1 < i then 12 else 0 : Nat)) : Int)]
theorem rgI_sm {i : Nat} (h : i < 2) : (rgI i).sm ∧ (rgL i).set i (.int .i64 (((rgI i).fr : Nat) : Int)) = rgL (i + 1) := by
 have : i = 0 ∨ i = 1 := by omega
 rcases this with rfl | rfl <;> exact ⟨by decide, rfl⟩
theorem cregions_b {w0 w : World} {F : List Seg} {bb c : Nat} {q : Option Addr} (H : Hp w0 w ([(bb, cel (bdV 4 d0 q c) 115)] :: F)) : Ret Tryz.prog 148 [.pointer (some ⟨bb, 0, none⟩), .int .i64 ((2 : Nat) : Int), .int .i64 ((4 : Nat) : Int)] w fun v w' => ∃ bo, v = .slice (some ⟨bo, 0, none⟩) 2 2 ∧ Hp w0 w' ([(bb, cel (bdV 4 ((d0.rg 4).rg 4) q c) 115)] :: [(bo, cel [.int .i64 ((8 : Nat) : Int), .int .i64 ((12 : Nat) : Int)] 3)] :: F) := by
 refine Calls.of_J (n := 24) Tryz.func148 rfl rfl rfl (J.seq (J.region (JL.g (RX.assign) (JL.nil (J.seq (J.region (JL.mi rfl (JL.e (EX.makeS (e := 3) (m := 2) H mkN.1 mkN.2 rfl rfl rfl (by decide) (by decide) (by decide)) ?_))))))))
 rintro _ w ⟨bo, rfl, H⟩
 replace H : Hp w0 w ([(bo, cel (rgL 0) 3)] :: [(bb, cel (bdV 4 d0 q c) 115)] :: F) := H
 refine JL.al rfl (JL.nil (J.seq (J.seq (J.region (JL.ms rfl (JL.g (RX.len_slice rfl (by rw [sl23]; rfl) rfl) ?_))))))
 refine JL.g (RX.move) (JL.nil (J.block (J.loop (ι := Nat) (S := fun i => [(13, .int .i64 ((i : Nat) : Int))]) (Φ := fun i w => i ≤ 2 ∧ Hp w0 w ([(bb, cel (bdV 4 (rgI i) q c) 115)] :: [(bo, cel (rgL i) 3)] :: F)) (μ := fun i => 2 - i) (C := [(0, _), (2, _), (7, _), (12, _)]) 0 ⟨rfl, rfl, rfl, rfl, trivial⟩ ⟨rfl, trivial⟩ ?_ ?_)))
 · exact ⟨by omega, H.pull 1 rfl⟩
 clear H
 rintro i ρ w ⟨hi, H⟩ IH
 refine J.seq (J.region (JL.g (RX.lt rfl rfl) (JL.nil (J.seq (J.cond_d rfl (fun hlt => ?_) (fun hlt => ?_))))))
 ·
  have hi2 : i < 2 := by omega
  obtain ⟨hr1, hr2⟩ := rgI_sm hi2
  refine J.skip (J.seq (J.block (J.seq (J.region (JL.mi rfl (JL.ai rfl (JL.nil (J.region (JL.ms rfl (JL.mi rfl (JL.mp rfl (JL.mi rfl (JL.e (EX.call rfl cl87 rfl ((cregion_b (k := 4) H hr1 (by omega)))) ?_)))))))))))))
  rintro _ w ⟨rfl, H⟩
  refine JL.g (RX.indexAddr rfl rfl sl23 (by omega) (by omega) (o' := i) (by omega)) (JL.e (EX.store (v := .int _ _) H rfl rfl (i := 1) rfl rfl (by simp [rgL]; omega) sz3 rfl rfl) ?_)
  rintro _ w H
  refine JL.nil (J.inBlock (J.region (JL.g (RX.add rfl rfl (w_i64 rfl (by omega) (by omega))) (JL.mi rfl (JL.nil ?_)))))
  replace H : Hp w0 w ([(bb, cel (bdV 4 (rgI (i + 1)) q c) 115)] :: [(bo, cel ((rgL i).set i (.int .i64 (((rgI i).fr : Nat) : Int))) 3)] :: F) := H
  rw [hr2] at H
  exact IH (i + 1) _ _ (by omega) ⟨rfl, rfl, rfl, rfl, trivial⟩ ⟨rfl, trivial⟩ ⟨by omega, H⟩
 ·
  obtain rfl : i = 2 := by omega
  refine J.exit rfl (J.seq (J.region (JL.ms rfl (JL.al rfl (JL.nil (J.ret1 (v := .slice _ _ _) Tryz.func148 rfl rfl ?_))))))
  exact ⟨_, rfl, bo, rfl, H⟩
end Oo
end Go.Proofs.YtfaokllgaambjaaGreatDoor
namespace Go.Proofs.YtfaokllgaambjaaGreatDoor
open Go Go.Eng
set_option maxRecDepth 100000
set_option maxHeartbeats 1600000
theorem cl148 : callable Tryz.prog 148 = true := by kernel_rfl
namespace Oo
def nyI (k : Nat) : Nat × Nat × Nat := (8 + k, 2, 12 + k * 2)
def nyL (k : Nat) : List (Nat × Nat × Nat) := (List.range k).map nyI
theorem nyL_len (k : Nat) : (nyL k).length = k := by simp [nyL]
theorem nyL_succ (k : Nat) : insV (nyL (k + 1)) = insV (nyL k) ++ inV (8 + k) 2 (12 + k * 2) := by
 simp [nyL, List.range_succ, insV, nyI]
def w3 (fb : Bool) : Nat → Bd
  | 0 => wlfB false (nyL 2) (inB false fb)
  | k + 1 => (w3 fb k).ad ⟨2, 4 + k, 12 + k * 2, 2, 2, 0, 0⟩
theorem w2_ok {fb : Bool} : (inB false fb).sm ∧ wlfO false (nyL 2) (inB false fb) := by cases fb <;> decide +kernel
theorem w3_ok {fb : Bool} {k : Nat} (h : k < 2) : addO (w3 fb k) ⟨2, 4 + k, 12 + k * 2, 2, 2, 0, 0⟩ := by
 have : k = 0 ∨ k = 1 := by omega
 rcases this with rfl | rfl <;> cases fb <;> decide +kernel
theorem wideTimes_b {w0 w : World} {F : List Seg} {bb xb xo cx : Nat} {fb : Bool} {pb po c1 c2 ck : Nat} {p1 p2 : Option Addr} (H : BHp w0 w bb 4 d0 F) (hT : SlAt F (some ⟨12, 0, none⟩) tableC) (hs : SlAt F (some ⟨pb, po, none⟩) (kidV false fb p1 p2 c1 c2)) (ha : (lfT false).Is F (tv (kf false) 2 p1 0 c1)) (hk : (lfT fb).Is F (tv (kf fb) 2 p2 0 c2)) (hx : SlAt F (some ⟨xb, xo, none⟩) (insV [(0, 1, 4)])) : Ret Tryz.prog 121 [.pointer (some ⟨bb, 0, none⟩), .agg (tv 3 0 (some ⟨pb, po, none⟩) 2 ck).toArray, .slice (some ⟨xb, xo, none⟩) 1 cx] w fun _ w' => BHp w0 w' bb 4 (w3 fb 2) F := by
 refine Calls.of_J (n := 130) Tryz.func121 rfl rfl rfl (J.seq ?_)
 obtain ⟨q, c, sl, hO, H⟩ := H
 obtain ⟨hw1, hw2⟩ := w2_ok (fb := fb)
 refine J.region (JL.e (EX.box (v := .agg _) H rfl rfl) ?_)
 rintro _ w ⟨b4, rfl, H⟩
 refine JL.nil (J.seq ?_)
 replace H := H.pull 1 rfl
 refine J.region (JL.g (RX.loadAgg H rfl (i := 1) (vs := tv 3 0 (some ⟨pb, po, none⟩) 2 ck) rfl rfl ag39) (JL.e (EX.call rfl cl139 rfl ((csize_b H hs.cons.cons.cons ha.cons.cons.cons hk.cons.cons.cons))) ?_))
 rintro _ w ⟨rfl, H⟩
 refine JL.g (RX.movev (v := .tuple _) rfl) (JL.g (RX.extract (v := .int _ _) rfl rfl) (JL.g (RX.extract (v := .int _ _) rfl rfl) (JL.g (RX.extract (v := .bool _) rfl rfl) (JL.ai rfl (JL.ai rfl (JL.ab rfl (JL.nil (J.seq (J.region (JL.mi rfl (JL.mi rfl (JL.g (RX.mul rfl rfl (wi (n := 4) (by decide) (by omega))) (JL.ai rfl (JL.nil (J.seq (J.region (JL.mp rfl (JL.ms rfl (JL.g (RX.len_slice rfl (by rw [sl145]; rfl) rfl) ?_)))))))))))))))))))
 refine JL.g (RX.mul rfl rfl (wi (n := 2) (by decide) (by omega))) (JL.mi rfl (JL.e (EX.call rfl cl148 rfl ((cregions_b H))) ?_))
 rintro _ w ⟨bo, rfl, H⟩
 refine JL.al rfl (JL.nil (J.seq (J.region (JL.g (RX.assign) (JL.g (RX.assign) (JL.nil (J.seq (J.seq (J.region (JL.ms rfl (JL.g (RX.len_slice rfl (by rw [sl145]; rfl) rfl) ?_)))))))))))
 refine JL.g (RX.move) (JL.nil (J.block (J.loop (ι := Nat × (Option Addr × Nat × Seg) × (Option Addr × Nat × Seg)) (S := fun z => [(37, .int .i64 ((z.1 : Nat) : Int)), (11, .slice z.2.1.1 z.1 z.2.1.2.1), (12, .slice z.2.2.1 z.1 z.2.2.2.1)]) (Φ := fun z w => z.1 ≤ 1 ∧ OwnSl 3 1 z.2.1.1 z.1 z.2.1.2.1 ([.int .i64 ((8 : Nat) : Int)].take z.1) z.2.1.2.2 ∧ OwnSl 3 1 z.2.2.1 z.1 z.2.2.2.1 ([.int .i64 ((12 : Nat) : Int)].take z.1) z.2.2.2.2 ∧ Hp w0 w ([(bb, cel (bdV 4 (wA false) q c) 115)] :: sl :: z.2.1.2.2 :: z.2.2.2.2 :: [(bo, cel [.int .i64 ((8 : Nat) : Int), .int .i64 ((12 : Nat) : Int)] 3)] :: [(b4, cel (tv 3 0 (some ⟨pb, po, none⟩) 2 ck) 39)] :: F)) (μ := fun z => 1 - z.1) (C := [(0, _), (2, _), (4, _), (6, _), (7, _), (10, _), (36, _)]) (0, (none, 0, []), (none, 0, [])) ⟨rfl, rfl, rfl, rfl, rfl, rfl, rfl, trivial⟩ ⟨rfl, rfl, rfl, trivial⟩ ?_ ?_)))
 · exact ⟨by omega, OwnSl.nil, OwnSl.nil, (((((((H.pull 2 rfl).pull 2 rfl).nil).nil).pull 5 rfl).pull 5 rfl))⟩
 clear H
 rintro ⟨j, ⟨q1, c1_, s1⟩, ⟨q2, c2_, s2⟩⟩ ρ w ⟨hj, ho1, ho2, H⟩ IH
 simp only at hj ho1 ho2 H
 dsimp only
 refine J.seq (J.region (JL.g (RX.lt rfl rfl) (JL.nil (J.seq (J.cond_d rfl (fun hlt => ?_) (fun hlt => ?_))))))
 ·
  obtain rfl : j = 0 := by omega
  refine J.skip (J.seq (J.block (J.seq (J.region (JL.mi rfl (JL.ai rfl (JL.nil (J.held (fun w => Hp w0 w ([(bo, cel [.int .i64 ((8 : Nat) : Int), .int .i64 ((12 : Nat) : Int)] 3)] :: [(b4, cel (tv 3 0 (some ⟨pb, po, none⟩) 2 ck) 39)] :: F)) hmix fun w hs => ?_))))))))
  replace H := H.same hs; clear hs
  have hS : Hp w0 w ([(bo, cel [.int .i64 ((8 : Nat) : Int), .int .i64 ((12 : Nat) : Int)] 3)] :: [(b4, cel (tv 3 0 (some ⟨pb, po, none⟩) 2 ck) 39)] :: F) := H.drop.drop.drop.drop
  refine JH.take 0 rfl (by kernel_rfl) (by kernel_rfl) (by kernel_rfl) rfl trivial (fun w H => RX.movev (v := .slice _ _ _) rfl) hS (JH.take 1 rfl (by kernel_rfl) (by kernel_rfl) (by kernel_rfl) rfl trivial (fun w H => RX.movev (v := .slice _ _ _) rfl) hS (JH.take 2 rfl (by kernel_rfl) (by kernel_rfl) (by kernel_rfl) rfl trivial (fun w H => RX.movev (v := .int _ _) rfl) hS (JH.take 3 rfl (by kernel_rfl) (by kernel_rfl) (by kernel_rfl) rfl trivial (fun w H => RX.mul rfl rfl (wi (n := 0) (by decide) (by omega))) hS (JH.take 4 rfl (by kernel_rfl) (by kernel_rfl) (by kernel_rfl) rfl trivial (fun w H => RX.indexAddr rfl rfl sl23 (by omega) (by omega) (o' := 0) (by omega)) hS (JH.take 5 rfl (by kernel_rfl) (by kernel_rfl) (by kernel_rfl) rfl trivial (fun w H => RX.load H rfl (i := 0) (v := .int .i64 ((8 : Nat) : Int)) rfl rfl one3) hS (JH.take 8 rfl (by kernel_rfl) (by kernel_rfl) (by kernel_rfl) rfl trivial (fun w H => RX.movev (v := .slice _ _ _) rfl) hS (JH.take 9 rfl (by kernel_rfl) (by kernel_rfl) (by kernel_rfl) rfl trivial (fun w H => RX.movev (v := .slice _ _ _) rfl) hS (JH.take 10 rfl (by kernel_rfl) (by kernel_rfl) (by kernel_rfl) rfl trivial (fun w H => RX.movev (v := .int _ _) rfl) hS (JH.take 11 rfl (by kernel_rfl) (by kernel_rfl) (by kernel_rfl) rfl trivial (fun w H => RX.mul rfl rfl (wi (n := 0) (by decide) (by omega))) hS (JH.take 12 rfl (by kernel_rfl) (by kernel_rfl) (by kernel_rfl) rfl trivial (fun w H => RX.add rfl rfl (wi (n := 1) (by decide) (by omega))) hS (JH.take 13 rfl (by kernel_rfl) (by kernel_rfl) (by kernel_rfl) rfl trivial (fun w H => RX.indexAddr rfl rfl sl23 (by omega) (by omega) (o' := 1) (by omega)) hS (JH.take 14 rfl (by kernel_rfl) (by kernel_rfl) (by kernel_rfl) rfl trivial (fun w H => RX.load H rfl (i := 0) (v := .int .i64 ((12 : Nat) : Int)) rfl rfl one3) hS (JH.all [6, 15] (by kernel_rfl) (by decide) (⟨?_, ?_⟩))))))))))))))
  ·
   refine JHO.does rfl rfl trivial (EX.buildSlice (pv := [(0, .int .i64 ((8 : Nat) : Int))]) (l := [.int .i64 ((8 : Nat) : Int)]) (e := 3) H rfl (by kernel_rfl)) ?_
   rintro _ w ⟨b9, rfl, H⟩
   have hS : Hp w0 w ([(bo, cel [.int .i64 ((8 : Nat) : Int), .int .i64 ((12 : Nat) : Int)] 3)] :: [(b4, cel (tv 3 0 (some ⟨pb, po, none⟩) 2 ck) 39)] :: F) := H.drop.drop.drop.drop.drop
   refine ⟨hS, ?_⟩
   refine JH.all [7, 15] (by kernel_rfl) (by decide) (⟨?_, ?_⟩)
   ·
    refine JHO.does rfl rfl trivial (EX.append (ys := [.int .i64 ((8 : Nat) : Int)]) (L' := fun s' => [(b9, cel [.int .i64 ((8 : Nat) : Int)] 3)] :: [(bb, cel (bdV 4 (wA false) q c) 115)] :: sl :: s' :: s2 :: [(bo, cel [.int .i64 ((8 : Nat) : Int), .int .i64 ((12 : Nat) : Int)] 3)] :: [(b4, cel (tv 3 0 (some ⟨pb, po, none⟩) 2 ck) 39)] :: F) H elN rfl rfl (i := 3) rfl ho1 (SlAt.here List.take_length) rfl (by simp [isCell]) (by decide) (by omega) (by omega) (fun _ => rfl)) ?_
    rintro _ w ⟨q3, c3, s3, rfl, ho19, H⟩
    have hS : Hp w0 w ([(bo, cel [.int .i64 ((8 : Nat) : Int), .int .i64 ((12 : Nat) : Int)] 3)] :: [(b4, cel (tv 3 0 (some ⟨pb, po, none⟩) 2 ck) 39)] :: F) := H.drop.drop.drop.drop.drop
    refine ⟨hS, ?_⟩
    refine JH.all [15] (by kernel_rfl) (by decide) (JHO.does rfl rfl trivial (EX.buildSlice (pv := [(0, .int .i64 ((12 : Nat) : Int))]) (l := [.int .i64 ((12 : Nat) : Int)]) (e := 3) H rfl (by kernel_rfl)) ?_)
    rintro _ w ⟨b10, rfl, H⟩
    have hS : Hp w0 w ([(bo, cel [.int .i64 ((8 : Nat) : Int), .int .i64 ((12 : Nat) : Int)] 3)] :: [(b4, cel (tv 3 0 (some ⟨pb, po, none⟩) 2 ck) 39)] :: F) := H.drop.drop.drop.drop.drop.drop
    refine ⟨hS, ?_⟩
    refine JH.all [16] (by kernel_rfl) (by decide) (JHO.does rfl rfl trivial (EX.append (ys := [.int .i64 ((12 : Nat) : Int)]) (L' := fun s' => [(b10, cel [.int .i64 ((12 : Nat) : Int)] 3)] :: [(b9, cel [.int .i64 ((8 : Nat) : Int)] 3)] :: [(bb, cel (bdV 4 (wA false) q c) 115)] :: sl :: s3 :: s' :: [(bo, cel [.int .i64 ((8 : Nat) : Int), .int .i64 ((12 : Nat) : Int)] 3)] :: [(b4, cel (tv 3 0 (some ⟨pb, po, none⟩) 2 ck) 39)] :: F) H elN rfl rfl (i := 5) rfl ho2 (SlAt.here List.take_length) rfl (by simp [isCell]) (by decide) (by omega) (by omega) (fun _ => rfl)) ?_)
    rintro _ w ⟨q4, c4, s4, rfl, ho29, H⟩
    have hS : Hp w0 w ([(bo, cel [.int .i64 ((8 : Nat) : Int), .int .i64 ((12 : Nat) : Int)] 3)] :: [(b4, cel (tv 3 0 (some ⟨pb, po, none⟩) 2 ck) 39)] :: F) := H.drop.drop.drop.drop.drop.drop
    refine ⟨hS, ?_⟩
    refine JH.take 17 rfl (by kernel_rfl) (by kernel_rfl) (by kernel_rfl) rfl trivial (fun w H => RX.assignv (v := .slice _ _ _) rfl) hS (JH.take 18 rfl (by kernel_rfl) (by kernel_rfl) (by kernel_rfl) rfl trivial (fun w H => RX.assignv (v := .slice _ _ _) rfl) hS (JH.done (by kernel_rfl) (J.inBlock (J.region (JL.g (RX.add rfl rfl (w_i64 rfl (by omega) (by omega))) (JL.mi rfl (JL.nil ?_)))))))
    exact IH (0 + 1, (q3, c3, s3), (q4, c4, s4)) _ _ (by simp only; omega) ⟨rfl, rfl, rfl, rfl, rfl, rfl, rfl, trivial⟩ ⟨rfl, rfl, rfl, trivial⟩ ⟨by simp only; omega, ho19, ho29, H.drop.drop⟩
   ·
    refine JHO.does rfl rfl trivial (EX.buildSlice (pv := [(0, .int .i64 ((12 : Nat) : Int))]) (l := [.int .i64 ((12 : Nat) : Int)]) (e := 3) H rfl (by kernel_rfl)) ?_
    rintro _ w ⟨b10, rfl, H⟩
    have hS : Hp w0 w ([(bo, cel [.int .i64 ((8 : Nat) : Int), .int .i64 ((12 : Nat) : Int)] 3)] :: [(b4, cel (tv 3 0 (some ⟨pb, po, none⟩) 2 ck) 39)] :: F) := H.drop.drop.drop.drop.drop.drop
    refine ⟨hS, ?_⟩
    refine JH.all [7] (by kernel_rfl) (by decide) (JHO.does rfl rfl trivial (EX.append (ys := [.int .i64 ((8 : Nat) : Int)]) (L' := fun s' => [(b10, cel [.int .i64 ((12 : Nat) : Int)] 3)] :: [(b9, cel [.int .i64 ((8 : Nat) : Int)] 3)] :: [(bb, cel (bdV 4 (wA false) q c) 115)] :: sl :: s' :: s2 :: [(bo, cel [.int .i64 ((8 : Nat) : Int), .int .i64 ((12 : Nat) : Int)] 3)] :: [(b4, cel (tv 3 0 (some ⟨pb, po, none⟩) 2 ck) 39)] :: F) H elN rfl rfl (i := 4) rfl ho1 (SlAt.cons (SlAt.here List.take_length)) rfl (by simp [isCell]) (by decide) (by omega) (by omega) (fun _ => rfl)) ?_)
    rintro _ w ⟨q3, c3, s3, rfl, ho19, H⟩
    have hS : Hp w0 w ([(bo, cel [.int .i64 ((8 : Nat) : Int), .int .i64 ((12 : Nat) : Int)] 3)] :: [(b4, cel (tv 3 0 (some ⟨pb, po, none⟩) 2 ck) 39)] :: F) := H.drop.drop.drop.drop.drop.drop
    refine ⟨hS, ?_⟩
    refine JH.all [16] (by kernel_rfl) (by decide) (JHO.does rfl rfl trivial (EX.append (ys := [.int .i64 ((12 : Nat) : Int)]) (L' := fun s' => [(b10, cel [.int .i64 ((12 : Nat) : Int)] 3)] :: [(b9, cel [.int .i64 ((8 : Nat) : Int)] 3)] :: [(bb, cel (bdV 4 (wA false) q c) 115)] :: sl :: s3 :: s' :: [(bo, cel [.int .i64 ((8 : Nat) : Int), .int .i64 ((12 : Nat) : Int)] 3)] :: [(b4, cel (tv 3 0 (some ⟨pb, po, none⟩) 2 ck) 39)] :: F) H elN rfl rfl (i := 5) rfl ho2 (SlAt.here List.take_length) rfl (by simp [isCell]) (by decide) (by omega) (by omega) (fun _ => rfl)) ?_)
    rintro _ w ⟨q4, c4, s4, rfl, ho29, H⟩
    have hS : Hp w0 w ([(bo, cel [.int .i64 ((8 : Nat) : Int), .int .i64 ((12 : Nat) : Int)] 3)] :: [(b4, cel (tv 3 0 (some ⟨pb, po, none⟩) 2 ck) 39)] :: F) := H.drop.drop.drop.drop.drop.drop
    refine ⟨hS, ?_⟩
    refine JH.take 17 rfl (by kernel_rfl) (by kernel_rfl) (by kernel_rfl) rfl trivial (fun w H => RX.assignv (v := .slice _ _ _) rfl) hS (JH.take 18 rfl (by kernel_rfl) (by kernel_rfl) (by kernel_rfl) rfl trivial (fun w H => RX.assignv (v := .slice _ _ _) rfl) hS (JH.done (by kernel_rfl) (J.inBlock (J.region (JL.g (RX.add rfl rfl (w_i64 rfl (by omega) (by omega))) (JL.mi rfl (JL.nil ?_)))))))
    exact IH (0 + 1, (q3, c3, s3), (q4, c4, s4)) _ _ (by simp only; omega) ⟨rfl, rfl, rfl, rfl, rfl, rfl, rfl, trivial⟩ ⟨rfl, rfl, rfl, trivial⟩ ⟨by simp only; omega, ho19, ho29, H.drop.drop⟩
  ·
   refine JHO.does rfl rfl trivial (EX.buildSlice (pv := [(0, .int .i64 ((12 : Nat) : Int))]) (l := [.int .i64 ((12 : Nat) : Int)]) (e := 3) H rfl (by kernel_rfl)) ?_
   rintro _ w ⟨b10, rfl, H⟩
   have hS : Hp w0 w ([(bo, cel [.int .i64 ((8 : Nat) : Int), .int .i64 ((12 : Nat) : Int)] 3)] :: [(b4, cel (tv 3 0 (some ⟨pb, po, none⟩) 2 ck) 39)] :: F) := H.drop.drop.drop.drop.drop
   refine ⟨hS, ?_⟩
   refine JH.all [6] (by kernel_rfl) (by decide) (JHO.does rfl rfl trivial (EX.buildSlice (pv := [(0, .int .i64 ((8 : Nat) : Int))]) (l := [.int .i64 ((8 : Nat) : Int)]) (e := 3) H rfl (by kernel_rfl)) ?_)
   rintro _ w ⟨b9, rfl, H⟩
   have hS : Hp w0 w ([(bo, cel [.int .i64 ((8 : Nat) : Int), .int .i64 ((12 : Nat) : Int)] 3)] :: [(b4, cel (tv 3 0 (some ⟨pb, po, none⟩) 2 ck) 39)] :: F) := H.drop.drop.drop.drop.drop.drop
   refine ⟨hS, ?_⟩
   refine JH.all [7] (by kernel_rfl) (by decide) (JHO.does rfl rfl trivial (EX.append (ys := [.int .i64 ((8 : Nat) : Int)]) (L' := fun s' => [(b9, cel [.int .i64 ((8 : Nat) : Int)] 3)] :: [(b10, cel [.int .i64 ((12 : Nat) : Int)] 3)] :: [(bb, cel (bdV 4 (wA false) q c) 115)] :: sl :: s' :: s2 :: [(bo, cel [.int .i64 ((8 : Nat) : Int), .int .i64 ((12 : Nat) : Int)] 3)] :: [(b4, cel (tv 3 0 (some ⟨pb, po, none⟩) 2 ck) 39)] :: F) H elN rfl rfl (i := 4) rfl ho1 (SlAt.here List.take_length) rfl (by simp [isCell]) (by decide) (by omega) (by omega) (fun _ => rfl)) ?_)
   rintro _ w ⟨q3, c3, s3, rfl, ho19, H⟩
   have hS : Hp w0 w ([(bo, cel [.int .i64 ((8 : Nat) : Int), .int .i64 ((12 : Nat) : Int)] 3)] :: [(b4, cel (tv 3 0 (some ⟨pb, po, none⟩) 2 ck) 39)] :: F) := H.drop.drop.drop.drop.drop.drop
   refine ⟨hS, ?_⟩
   refine JH.all [16] (by kernel_rfl) (by decide) (JHO.does rfl rfl trivial (EX.append (ys := [.int .i64 ((12 : Nat) : Int)]) (L' := fun s' => [(b9, cel [.int .i64 ((8 : Nat) : Int)] 3)] :: [(b10, cel [.int .i64 ((12 : Nat) : Int)] 3)] :: [(bb, cel (bdV 4 (wA false) q c) 115)] :: sl :: s3 :: s' :: [(bo, cel [.int .i64 ((8 : Nat) : Int), .int .i64 ((12 : Nat) : Int)] 3)] :: [(b4, cel (tv 3 0 (some ⟨pb, po, none⟩) 2 ck) 39)] :: F) H elN rfl rfl (i := 5) rfl ho2 (SlAt.cons (SlAt.here List.take_length)) rfl (by simp [isCell]) (by decide) (by omega) (by omega) (fun _ => rfl)) ?_)
   rintro _ w ⟨q4, c4, s4, rfl, ho29, H⟩
   have hS : Hp w0 w ([(bo, cel [.int .i64 ((8 : Nat) : Int), .int .i64 ((12 : Nat) : Int)] 3)] :: [(b4, cel (tv 3 0 (some ⟨pb, po, none⟩) 2 ck) 39)] :: F) := H.drop.drop.drop.drop.drop.drop
   refine ⟨hS, ?_⟩
   refine JH.take 17 rfl (by kernel_rfl) (by kernel_rfl) (by kernel_rfl) rfl trivial (fun w H => RX.assignv (v := .slice _ _ _) rfl) hS (JH.take 18 rfl (by kernel_rfl) (by kernel_rfl) (by kernel_rfl) rfl trivial (fun w H => RX.assignv (v := .slice _ _ _) rfl) hS (JH.done (by kernel_rfl) (J.inBlock (J.region (JL.g (RX.add rfl rfl (w_i64 rfl (by omega) (by omega))) (JL.mi rfl (JL.nil ?_)))))))
   exact IH (0 + 1, (q3, c3, s3), (q4, c4, s4)) _ _ (by simp only; omega) ⟨rfl, rfl, rfl, rfl, rfl, rfl, rfl, trivial⟩ ⟨rfl, rfl, rfl, trivial⟩ ⟨by simp only; omega, ho19, ho29, H.drop.drop⟩
 ·
  obtain rfl : j = 1 := by omega
  obtain ⟨ab, ao, rfl⟩ := spot_some ho1.slAt (F := [s1]) (by decide)
  obtain ⟨ub, uo, rfl⟩ := spot_some ho2.slAt (F := [s2]) (by decide)
  refine J.exit rfl (J.seq (J.region (JL.mp rfl (JL.g (RX.loadAgg H rfl (i := 5) (vs := tv 3 0 (some ⟨pb, po, none⟩) 2 ck) rfl rfl ag39) (JL.ms rfl (JL.ms rfl (JL.e (EX.call rfl cl147 rfl ((inner_b (fa := false) (cx := cx) (ca := c1_) (F := s1 :: s2 :: [(bo, cel [.int .i64 ((8 : Nat) : Int), .int .i64 ((12 : Nat) : Int)] 3)] :: [(b4, cel (tv 3 0 (some ⟨pb, po, none⟩) 2 ck) 39)] :: F) ⟨q, c, sl, hO, H⟩ hT.cons.cons.cons.cons hs.cons.cons.cons.cons ha.cons.cons.cons.cons hk.cons.cons.cons.cons hx.cons.cons.cons.cons ho1.slAt))) ?_)))))))
  rintro _ w H
  refine JL.nil (J.seq ?_)
  obtain ⟨q, c, sl, hO, H⟩ := H
  refine J.region (JL.g (RX.assign) (JL.nil (J.seq (J.seq (J.region (JL.ms rfl (JL.g (RX.len_slice rfl (by rw [sl145]; rfl) rfl) ?_)))))))
  refine JL.g (RX.move) (JL.nil (J.block (J.loop (ι := Nat × Option Addr × Nat × Seg) (S := fun z => [(65, .int .i64 ((z.1 : Nat) : Int)), (14, .slice z.2.1 (2 * z.1) z.2.2.1)]) (Φ := fun z w => z.1 ≤ 1 ∧ OwnSl 142 3 z.2.1 (2 * z.1) z.2.2.1 (insV (nyL (2 * z.1))) z.2.2.2 ∧ Hp w0 w ([(bb, cel (bdV 4 (inB false fb) q c) 115)] :: sl :: z.2.2.2 :: s1 :: s2 :: [(bo, cel [.int .i64 ((8 : Nat) : Int), .int .i64 ((12 : Nat) : Int)] 3)] :: [(b4, cel (tv 3 0 (some ⟨pb, po, none⟩) 2 ck) 39)] :: F)) (μ := fun z => 1 - z.1) (C := [(0, _), (2, _), (4, _), (6, _), (7, _), (11, _), (12, _), (64, _)]) (0, none, 0, []) ⟨rfl, rfl, rfl, rfl, rfl, rfl, rfl, rfl, trivial⟩ ⟨rfl, rfl, trivial⟩ ?_ ?_)))
  · exact ⟨by omega, OwnSl.nil, (H.nil.pull 2 rfl).pull 2 rfl⟩
  clear H
  rintro ⟨j, qn, cn, ns⟩ ρ w ⟨hj, ho, H⟩ IH
  simp only at hj ho H
  dsimp only
  refine J.seq (J.region (JL.g (RX.lt rfl rfl) (JL.nil (J.seq (J.cond_d rfl (fun hlt1 => ?_) (fun hlt1 => ?_))))))
  ·
   obtain rfl : j = 0 := by omega
   refine J.skip (J.seq (J.block (J.seq (J.region (JL.mi rfl (JL.ai rfl (JL.nil (J.seq (J.region (JL.mi rfl (JL.g (RX.move) (JL.nil (J.block (J.loop (ι := Nat × Option Addr × Nat × Seg) (S := fun z => [(69, .int .i64 ((z.1 : Nat) : Int)), (14, .slice z.2.1 z.1 z.2.2.1)]) (Φ := fun z w => z.1 ≤ 2 ∧ OwnSl 142 3 z.2.1 (z.1) z.2.2.1 (insV (nyL (z.1))) z.2.2.2 ∧ Hp w0 w ([(bb, cel (bdV 4 (inB false fb) q c) 115)] :: sl :: z.2.2.2 :: s1 :: s2 :: [(bo, cel [.int .i64 ((8 : Nat) : Int), .int .i64 ((12 : Nat) : Int)] 3)] :: [(b4, cel (tv 3 0 (some ⟨pb, po, none⟩) 2 ck) 39)] :: F)) (μ := fun z => 2 - z.1) (C := [(0, _), (2, _), (4, _), (6, _), (7, _), (11, _), (12, _), (15, _), (64, _), (65, _), (68, _)]) (0, qn, cn, ns) ⟨rfl, rfl, rfl, rfl, rfl, rfl, rfl, rfl, rfl, rfl, rfl, trivial⟩ ⟨rfl, rfl, trivial⟩ ?_ ?_))))))))))))))
   · exact ⟨by omega, ho, H⟩
   clear H ho
   rintro ⟨k, qm, cm, ms⟩ ρ w ⟨hk9, ho, H⟩ IH2
   simp only at hk9 ho H
   dsimp only
   refine J.seq (J.region (JL.g (RX.lt rfl rfl) (JL.nil (J.seq (J.cond_d rfl (fun hlt2 => ?_) (fun hlt2 => ?_))))))
   ·
    have hk2 : k < 2 := by omega
    refine J.skip (J.seq (J.block (J.seq (J.region (JL.mi rfl (JL.ai rfl (JL.nil (J.any hmix fun w hs => ?_))))))))
    replace H := H.same hs; clear hs
    refine JA.take 0 rfl (by kernel_rfl) (by kernel_rfl) (by kernel_rfl) rfl trivial (fun w => RX.movev (v := .slice _ _ _) rfl) (JA.stage (listed := [true, false, false, false, false, false, false, false, false, false, false, false, false, false, false, false, false, false, false, false]) 17 [1, 2, 3, 4, 5, 6, 7, 8, 9, 10, 11, 12, 13, 14, 15, 16] H (by kernel_rfl) rfl rfl (JI.go rfl trivial (fun w H => RX.movev (v := .slice _ _ _) rfl) (JI.go rfl trivial (fun w H => RX.movev (v := .int _ _) rfl) (JI.go rfl trivial (fun w H => RX.indexAddr rfl rfl sl23 (by omega) (by omega) (o' := ao + 0) (by omega)) (JI.go rfl trivial (fun w H => RX.loadS H (SlAt.cons (SlAt.cons (SlAt.cons ho1.slAt))) rfl (j := 0) rfl (v := .int .i64 ((8 : Nat) : Int)) rfl one3) (JI.go rfl trivial (fun w H => RX.movev (v := .int _ _) rfl) (JI.go rfl trivial (fun w H => RX.add rfl rfl (wi (n := 8 + k) (by omega) (by omega))) (JI.go rfl trivial (fun w H => RX.movev (v := .int _ _) rfl) (JI.go rfl trivial (fun w H => RX.movev (v := .slice _ _ _) rfl) (JI.go rfl trivial (fun w H => RX.movev (v := .int _ _) rfl) (JI.go rfl trivial (fun w H => RX.indexAddr rfl rfl sl23 (by omega) (by omega) (o' := uo + 0) (by omega)) (JI.go rfl trivial (fun w H => RX.loadS H (SlAt.cons (SlAt.cons (SlAt.cons (SlAt.cons ho2.slAt)))) rfl (j := 0) rfl (v := .int .i64 ((12 : Nat) : Int)) rfl one3) (JI.go rfl trivial (fun w H => RX.movev (v := .int _ _) rfl) (JI.go rfl trivial (fun w H => RX.movev (v := .int _ _) rfl) (JI.go rfl trivial (fun w H => RX.mul rfl rfl (wi (n := k * 2) (by omega) (by omega))) (JI.go rfl trivial (fun w H => RX.add rfl rfl (wi (n := 12 + k * 2) (by omega) (by omega))) (JI.go rfl trivial (fun w H => RX.build (pv := [(0, .int .i64 ((8 + k : Nat) : Int)), (1, .int .i64 ((2 : Nat) : Int)), (2, .int .i64 ((12 + k * 2 : Nat) : Int))]) (res := inV (8 + k) 2 (12 + k * 2)) rfl (by kernel_rfl)) (JI.nil fun w H => (JL.e (EX.buildSlice (pv := [(0, .agg (inV (8 + k) 2 (12 + k * 2)).toArray)]) (l := inV (8 + k) 2 (12 + k * 2)) (e := 142) H rfl (by kernel_rfl)) ?_)))))))))))))))))))
    rintro _ w ⟨b11, rfl, H⟩
    refine JL.e (EX.append (ys := inV (8 + k) 2 (12 + k * 2)) (L' := fun s' => [(b11, cel (inV (8 + k) 2 (12 + k * 2)) 142)] :: [(bb, cel (bdV 4 (inB false fb) q c) 115)] :: sl :: s' :: s1 :: s2 :: [(bo, cel [.int .i64 ((8 : Nat) : Int), .int .i64 ((12 : Nat) : Int)] 3)] :: [(b4, cel (tv 3 0 (some ⟨pb, po, none⟩) 2 ck) 39)] :: F) H elIn rfl rfl (i := 3) rfl ho (SlAt.here List.take_length) rfl (inV_cell _ _ _) (by decide) (by omega) (by omega) (fun _ => rfl)) ?_
    rintro _ w ⟨q5, c5, s5, rfl, ho5, H⟩
    rw [← nyL_succ] at ho5
    refine JL.al rfl (JL.nil (J.inBlock (J.region (JL.g (RX.add rfl rfl (w_i64 rfl (by omega) (by omega))) (JL.mi rfl (JL.nil ?_))))))
    exact IH2 (k + 1, q5, c5, s5) _ _ (by simp only; omega) ⟨rfl, rfl, rfl, rfl, rfl, rfl, rfl, rfl, rfl, rfl, rfl, trivial⟩ ⟨rfl, rfl, trivial⟩ ⟨by simp only; omega, ho5, H.drop⟩
   ·
    obtain rfl : k = 2 := by omega
    refine J.exit rfl (J.inBlock (J.region (JL.g (RX.add rfl rfl (w_i64 rfl (by omega) (by omega))) (JL.mi rfl (JL.nil ?_)))))
    exact IH (0 + 1, qm, cm, ms) _ _ (by simp only; omega) ⟨rfl, rfl, rfl, rfl, rfl, rfl, rfl, rfl, trivial⟩ ⟨rfl, rfl, trivial⟩ ⟨by simp only; omega, ho, H⟩
  ·
   obtain rfl : j = 1 := by omega
   refine J.exit rfl (J.seq (J.region (JL.mp rfl (JL.g (RX.fieldAddr rfl fo39_2 rfl) (JL.g (RX.load H rfl (i := 6) (v := .slice _ _ _) rfl rfl one37) (JL.g (RX.indexAddr rfl rfl sl37 (by omega) (by omega) (o' := po + 0 * 3) (by omega)) (JL.g (RX.loadAggS H hs.cons.cons.cons.cons.cons.cons.cons rfl (j := 0 * 3) (by omega) (vs := tv (kf false) 2 p1 0 c1) rfl ag39) (JL.ms rfl (JL.e (EX.call rfl cl89 rfl ((show Ret _ _ [.pointer (some ⟨bb, 0, none⟩), .agg (tv (kf false) 2 p1 0 c1).toArray, .slice qn 2 cn] w _ by have h9 := wideL_b (cx := cn) (c0 := c1) (p := p1) (F := ns :: s1 :: s2 :: [(bo, cel [.int .i64 ((8 : Nat) : Int), .int .i64 ((12 : Nat) : Int)] 3)] :: [(b4, cel (tv 3 0 (some ⟨pb, po, none⟩) 2 ck) 39)] :: F) ⟨q, c, sl, hO, H⟩ hT.cons.cons.cons.cons.cons ho.slAt (by rw [nyL_len]; omega) hw1 hw2; rw [nyL_len] at h9; exact h9))) ?_)))))))))
   rintro _ w H
   refine JL.nil (J.seq (J.region (JL.ms rfl (JL.g (RX.len_slice rfl (by rw [sl145]; rfl) rfl) ?_))))
   refine JL.g (RX.move) (JL.nil (J.block (J.loop (ι := Nat) (S := fun z => [(102, .int .i64 ((z : Nat) : Int))]) (Φ := fun z w => z ≤ 1 ∧ BHp w0 w bb 4 (if z = 0 then w3 fb 0 else w3 fb 2) (ns :: s1 :: s2 :: [(bo, cel [.int .i64 ((8 : Nat) : Int), .int .i64 ((12 : Nat) : Int)] 3)] :: [(b4, cel (tv 3 0 (some ⟨pb, po, none⟩) 2 ck) 39)] :: F)) (μ := fun z => 1 - z) (C := [(0, _), (6, _), (7, _), (12, _), (100, _), (101, _)]) 0 ⟨rfl, rfl, rfl, rfl, rfl, rfl, trivial⟩ ⟨rfl, trivial⟩ ?_ ?_)))
   · exact ⟨by omega, H⟩
   clear H
   rintro z ρ w ⟨hz, H⟩ IH3
   refine J.seq (J.region (JL.g (RX.lt rfl rfl) (JL.nil (J.seq (J.cond_d rfl (fun hlt3 => ?_) (fun hlt3 => ?_))))))
   ·
    obtain rfl : z = 0 := by omega
    replace H : BHp w0 w bb 4 (w3 fb 0) (ns :: s1 :: s2 :: [(bo, cel [.int .i64 ((8 : Nat) : Int), .int .i64 ((12 : Nat) : Int)] 3)] :: [(b4, cel (tv 3 0 (some ⟨pb, po, none⟩) 2 ck) 39)] :: F) := H
    obtain ⟨q, c, sl, hO, H⟩ := H
    refine J.skip (J.seq (J.block (J.seq (J.region (JL.mi rfl (JL.g (RX.indexAddr rfl rfl sl145 (by omega) (by omega) (o' := xo + 0 * 3) (by omega)) (JL.g (RX.loadAggS H hx.cons.cons.cons.cons.cons.cons.cons rfl (j := 0 * 3) (by omega) (vs := inV 0 1 4) rfl ag142) (JL.e (EX.alloc H zr142 rfl) ?_))))))))
    rintro _ w ⟨b7, rfl, H⟩
    refine JL.ai rfl (JL.e (EX.storeAgg H rfl rfl (i := 0) (vs := inV 0 1 4) (l' := inV 0 1 4) rfl (inV_cell _ _ _) (by simp [inV]) sz142 rfl rfl) ?_)
    rintro _ w H
    refine JL.nil (J.seq (J.region (JL.mi rfl (JL.g (RX.move) (JL.nil (J.block (J.loop (ι := Nat) (S := fun k => [(108, .int .i64 ((k : Nat) : Int))]) (Φ := fun k w => k ≤ 2 ∧ BHp w0 w bb 4 (w3 fb k) ([(b7, cel (inV 0 1 4) 142)] :: ns :: s1 :: s2 :: [(bo, cel [.int .i64 ((8 : Nat) : Int), .int .i64 ((12 : Nat) : Int)] 3)] :: [(b4, cel (tv 3 0 (some ⟨pb, po, none⟩) 2 ck) 39)] :: F)) (μ := fun k => 2 - k) (C := [(0, _), (6, _), (7, _), (12, _), (17, _), (18, _), (100, _), (101, _), (102, _), (107, _)]) 0 ⟨rfl, rfl, rfl, rfl, rfl, rfl, rfl, rfl, rfl, rfl, trivial⟩ ⟨rfl, trivial⟩ ?_ ?_)))))))
    · exact ⟨by omega, q, c, sl, hO, (H.pull 2 rfl).pull 2 rfl⟩
    clear H hO
    rintro k ρ w ⟨hk9, H⟩ IH4
    refine J.seq (J.region (JL.g (RX.lt rfl rfl) (JL.nil (J.seq (J.cond_d rfl (fun hlt4 => ?_) (fun hlt4 => ?_))))))
    ·
     have hk2 : k < 2 := by omega
     obtain ⟨q, c, sl, hO, H⟩ := H
     refine J.skip (J.seq (J.block (J.seq (J.region (JL.mi rfl (JL.ai rfl (JL.nil (J.any hmix fun w hs => ?_))))))))
     replace H := H.same hs; clear hs
     refine JA.take 0 rfl (by kernel_rfl) (by kernel_rfl) (by kernel_rfl) rfl trivial (fun w => RX.movev (v := .pointer _) rfl) (JA.stage (listed := [true, false, false, false, false, false, false, false, false, false, false, false, false, false, false, false, false]) 15 [1, 2, 3, 4, 5, 6, 7, 8, 9, 10, 11, 12, 13, 14] H (by kernel_rfl) rfl rfl (JI.go rfl trivial (fun w H => RX.fieldAddr rfl fo142_2 rfl) (JI.go rfl trivial (fun w H => RX.load H rfl (i := 2) (v := .int _ _) rfl rfl one3) (JI.go rfl trivial (fun w H => RX.movev (v := .int _ _) rfl) (JI.go rfl trivial (fun w H => RX.add rfl rfl (wi (n := 4 + k) (by omega) (by omega))) (JI.go rfl trivial (fun w H => RX.movev (v := .slice _ _ _) rfl) (JI.go rfl trivial (fun w H => RX.movev (v := .int _ _) rfl) (JI.go rfl trivial (fun w H => RX.indexAddr rfl rfl sl23 (by omega) (by omega) (o' := uo + 0) (by omega)) (JI.go rfl trivial (fun w H => RX.loadS H (SlAt.cons (SlAt.cons (SlAt.cons (SlAt.cons (SlAt.cons ho2.slAt))))) rfl (j := 0) rfl (v := .int .i64 ((12 : Nat) : Int)) rfl one3) (JI.go rfl trivial (fun w H => RX.movev (v := .int _ _) rfl) (JI.go rfl trivial (fun w H => RX.movev (v := .int _ _) rfl) (JI.go rfl trivial (fun w H => RX.mul rfl rfl (wi (n := k * 2) (by omega) (by omega))) (JI.go rfl trivial (fun w H => RX.add rfl rfl (wi (n := 12 + k * 2) (by omega) (by omega))) (JI.go rfl trivial (fun w H => RX.movev (v := .int _ _) rfl) (JI.go rfl trivial (fun w H => RX.movev (v := .int _ _) rfl) (JI.nil fun w H => (JL.e (EX.call rfl cl141 rfl ((show Ret _ _ [.int .i64 ((4 + k : Nat) : Int), .int .i64 ((12 + k * 2 : Nat) : Int), .int .i64 ((2 : Nat) : Int), .int .i64 ((2 : Nat) : Int)] w _ from cscatter_b H))) ?_)))))))))))))))))
     rintro _ w ⟨rfl, H⟩
     refine JL.e (EX.call rfl cl114 rfl ((cadd_b (F := [(b7, cel (inV 0 1 4) 142)] :: ns :: s1 :: s2 :: [(bo, cel [.int .i64 ((8 : Nat) : Int), .int .i64 ((12 : Nat) : Int)] 3)] :: [(b4, cel (tv 3 0 (some ⟨pb, po, none⟩) 2 ck) 39)] :: F) ⟨q, c, sl, hO, H⟩ hT.cons.cons.cons.cons.cons.cons (w3_ok hk2)))) ?_
     rintro _ w H
     refine JL.nil (J.inBlock (J.region (JL.g (RX.add rfl rfl (w_i64 rfl (by omega) (by omega))) (JL.mi rfl (JL.nil ?_)))))
     exact IH4 (k + 1) _ _ (by omega) ⟨rfl, rfl, rfl, rfl, rfl, rfl, rfl, rfl, rfl, rfl, trivial⟩ ⟨rfl, trivial⟩ ⟨by omega, H⟩
    ·
     obtain rfl : k = 2 := by omega
     obtain ⟨q, c, sl, hO, H⟩ := H
     refine J.exit rfl (J.inBlock (J.region (JL.g (RX.add rfl rfl (w_i64 rfl (by omega) (by omega))) (JL.mi rfl (JL.nil ?_)))))
     exact IH3 1 _ _ (by omega) ⟨rfl, rfl, rfl, rfl, rfl, rfl, trivial⟩ ⟨rfl, trivial⟩ ⟨by omega, q, c, sl, hO, (H.pull 2 rfl).drop⟩
   ·
    obtain rfl : z = 1 := by omega
    refine J.exit rfl (J.end0 Tryz.func121 rfl ?_)
    replace H : BHp w0 w bb 4 (w3 fb 2) (ns :: s1 :: s2 :: [(bo, cel [.int .i64 ((8 : Nat) : Int), .int .i64 ((12 : Nat) : Int)] 3)] :: [(b4, cel (tv 3 0 (some ⟨pb, po, none⟩) 2 ck) 39)] :: F) := H
    obtain ⟨q, c, sl, hO, H⟩ := H
    exact ⟨_, rfl, q, c, sl, hO, ((((((H.pull 2 rfl).drop.pull 2 rfl).drop.pull 2 rfl).drop.pull 2 rfl).drop.pull 2 rfl).drop)⟩
end Oo
end Go.Proofs.YtfaokllgaambjaaGreatDoor

/- Convolutions of small numbers by math/big. -/
import Derived.Test.YtfdghjlfplhpjaaGreatDoorZn
namespace Go.Proofs.YtfdghjlfplhpjaaGreatDoor
open Go Go.Eng
set_option maxRecDepth 100000
set_option linter.unusedVariables false
set_option linter.unusedSimpArgs false
theorem cl25 : callable Tryz.prog 25 = true := by kernel_rfl
theorem cl26 : callable Tryz.prog 26 = true := by kernel_rfl
theorem cl28 : callable Tryz.prog 28 = true := by kernel_rfl
theorem cl29 : callable Tryz.prog 29 = true := by kernel_rfl
theorem cl36 : callable Tryz.prog 36 = true := by kernel_rfl

def accI (kf : Nat → Nat) (f : Nat → Int) (Z : Nat → Int) : Nat → Nat → Int
  | 0 => Z
  | j + 1 => fun i => if i = kf j then accI kf f Z j i + f j else accI kf f Z j i
def accO (kf : Nat → Nat → Nat) (f : Nat → Nat → Int) (m : Nat) : Nat → Nat → Int
  | 0 => fun _ => 0
  | i + 1 => accI (kf i) (f i) (accO kf f m i) m
/-- The products of two lists. -/
def prodE (us vs : List Int) (i j : Nat) : Int := (us[i]?).getD 0 * (vs[j]?).getD 0
def gatL (kf : Nat → Nat → Nat) (us vs : List Int) (n : Nat) : List Int := (List.range n).map (accO kf (prodE us vs) vs.length us.length)
theorem i64sV_range {n : Nat} {f : Nat → Int} : (i64sV ((List.range n).map f)).length = n := by simp [i64sV]

theorem gather_b {w0 w : World} {F : List Seg} {E : Nat → Value} {Q : Nat → Addr} (H : Hp w0 w F) (hE : Errs F E Q) {us vs : List Int} {pa pb : Option Addr} {ca cb : Nat} (hsa : SlAt F pa (i64sV us)) (hsb : SlAt F pb (i64sV vs)) (has : ∀ u ∈ us, 0 < u ∧ u < 4294967296) (hbs : ∀ u ∈ vs, 0 < u ∧ u < 4294967296) (hla : us.length ≤ 1048576) (hlb : vs.length ≤ 1048576) {n cl : Nat} {cv : List Value} {kf : Nat → Nat → Nat} (hn : n ≤ 1048576) (hcl : callable Tryz.prog cl = true) (hkf : ∀ i j, i < us.length → j < vs.length → kf i j < n) (hat : ∀ (i j : Nat) (w : World) (L : List Seg), i < us.length → j < vs.length → Hp w0 w L → (∀ p xs, SlAt F p xs → SlAt L p xs) → Ret Tryz.prog cl (.int .i64 ((i : Nat) : Int) :: .int .i64 ((j : Nat) : Int) :: cv) w fun v w' => v = .int .i64 ((kf i j : Nat) : Int) ∧ Hp w0 w' L) (hB : ∀ i j k, i < us.length → j ≤ vs.length → k < n → (accI (kf i) (prodE us vs i) (accO kf (prodE us vs) vs.length i) j k).natAbs < 1267650600228229401496703205376) (hI : ∀ k, k < n → i64in (accO kf (prodE us vs) vs.length us.length k)) : Ret Tryz.prog 22 [.slice pa us.length ca, .slice pb vs.length cb, .int .i64 ((n : Nat) : Int), .func (.func cl) #[] cv.toArray] w fun v w' => ∃ b, v = .tuple #[.slice (some ⟨b, 0, none⟩) n n, .nilIface] ∧ Hp w0 w' ([(b, cel (i64sV (gatL kf us vs n)) 2)] :: F) := by
  refine Calls.of_J (n := 60) Tryz.func22 rfl rfl rfl ?_
  refine J.seq ?_
  refine J.region ?_
  refine JL.go trivial (RX.assign) ?_
  refine JL.go trivial (RX.assign) ?_
  refine JL.nil ?_
  refine J.seq ?_
  refine J.region ?_
  refine JL.go trivial (RX.movev (v := Value.int _ _) rfl) ?_
  refine JL.does trivial (EX.call rfl cl25 rfl ((none_b H hn))) ?_
  rintro _ w ⟨bo, Zs, rfl, hZ, H⟩
  refine JL.go trivial (RX.assignv (v := Value.slice _ _ _) rfl) ?_
  refine JL.nil ?_
  refine J.seq ?_
  refine J.region ?_
  refine JL.does trivial (EX.alloc H zr57 rfl) ?_
  rintro _ w ⟨bx, rfl, H⟩
  replace H : Hp w0 w ((Zn.zero bx).seg :: [(bo, cel ((Zs).map Zn.p) 52)] :: (Zs.map Zn.seg ++ F)) := by rw [Zn.zero_seg]; exact H
  refine JL.go trivial (RX.assignv (v := Value.pointer _) rfl) ?_
  refine JL.nil ?_
  refine J.seq ?_
  refine J.seq ?_
  refine J.region ?_
  refine JL.go trivial (RX.movev (v := Value.slice _ _ _) rfl) ?_
  refine JL.go trivial (RX.len_slice rfl (by rw [sl35]; rfl) rfl) ?_
  refine JL.go trivial (RX.move) ?_
  refine JL.nil ?_
  refine J.block ?_
  refine J.loop (ι := Nat × List Zn × Zn) (S := fun z => [(22, .int .i64 ((z.1 : Nat) : Int))]) (Φ := fun z w => z.1 ≤ us.length ∧ RowZ z.2.1 n (accO kf (prodE us vs) vs.length z.1) ∧ z.2.2.ok ∧ z.2.2.b = bx ∧ Hp w0 w (z.2.2.seg :: [(bo, cel ((z.2.1).map Zn.p) 52)] :: (z.2.1.map Zn.seg ++ F))) (μ := fun z => us.length - z.1) (C := [(1, _), (3, _), (10, _), (11, _), (20, _), (21, _)]) (0, Zs, Zn.zero bx) ⟨rfl, rfl, rfl, rfl, rfl, rfl, trivial⟩ ⟨rfl, trivial⟩ ?_ ?_
  · exact ⟨by simp, hZ, Zn.zero_ok _, rfl, H⟩
  clear H hZ
  rintro ⟨i, Zs, x⟩ ρ w ⟨hi, hZ, hx, hxb, H⟩ IH
  simp only at hi hZ hx hxb H
  dsimp only
  refine J.seq ?_
  refine J.region ?_
  refine JL.go trivial (RX.lt rfl rfl) ?_
  refine JL.nil ?_
  refine J.seq ?_
  refine J.cond_d rfl (fun hilt => ?_) (fun hilt => ?_)
  · skip
    obtain ⟨u, hu⟩ : ∃ u, us[i]? = some u := ⟨_, List.getElem?_eq_getElem (by omega)⟩
    obtain ⟨hu1, hu2⟩ := has u (List.mem_of_getElem? hu)
    obtain ⟨qa, oa, rfl, hqa⟩ := hsa.some (by rw [i64sV_len]; omega)
    have hFL : ∀ {X F : List Seg} {p : Option Addr} {xs : List Value}, SlAt F p xs → SlAt (X ++ F) p xs := fun h => h.perm fun e he => mem_app he
    refine J.skip ?_
    refine J.seq ?_
    refine J.block ?_
    refine J.seq ?_
    refine J.region ?_
    refine JL.go trivial (RX.movev (v := Value.int _ _) rfl) ?_
    refine JL.go trivial (RX.indexAddr rfl rfl sl35 (by omega) (by omega) (o' := oa + i) (by omega)) ?_
    refine JL.go trivial (RX.loadS H (hFL (X := x.seg :: [(bo, cel ((Zs).map Zn.p) 52)] :: Zs.map Zn.seg) hsa) rfl (j := i) rfl (v := .int .i64 u) (i64sV_get hu) one2) ?_
    refine JL.go trivial (RX.assignv (v := Value.int _ _) rfl) ?_
    refine JL.go trivial (RX.assignv (v := Value.int _ _) rfl) ?_
    refine JL.nil ?_
    refine J.seq ?_
    refine J.region ?_
    refine JL.go trivial (RX.movev (v := Value.slice _ _ _) rfl) ?_
    refine JL.go trivial (RX.len_slice rfl (by rw [sl35]; rfl) rfl) ?_
    refine JL.go trivial (RX.move) ?_
    refine JL.nil ?_
    refine J.block ?_
    refine J.loop (ι := Nat × List Zn × Zn) (S := fun z => [(29, .int .i64 ((z.1 : Nat) : Int))]) (Φ := fun z w => z.1 ≤ vs.length ∧ RowZ z.2.1 n (accI (kf i) (prodE us vs i) (accO kf (prodE us vs) vs.length i) z.1) ∧ z.2.2.ok ∧ z.2.2.b = bx ∧ Hp w0 w (z.2.2.seg :: [(bo, cel ((z.2.1).map Zn.p) 52)] :: (z.2.1.map Zn.seg ++ F))) (μ := fun z => vs.length - z.1) (C := [(1, _), (3, _), (10, _), (11, _), (12, _), (13, _), (20, _), (21, _), (22, _), (27, _), (28, _)]) (0, Zs, x) ⟨rfl, rfl, rfl, rfl, rfl, rfl, rfl, rfl, rfl, rfl, rfl, trivial⟩ ⟨rfl, trivial⟩ ?_ ?_
    · exact ⟨by simp, hZ, hx, hxb, H⟩
    clear H hZ hx hxb
    rintro ⟨j, Zs, x⟩ ρ w ⟨hj, hZ, hx, hxb, H⟩ IH2
    simp only at hj hZ hx hxb H
    dsimp only
    refine J.seq ?_
    refine J.region ?_
    refine JL.go trivial (RX.lt rfl rfl) ?_
    refine JL.nil ?_
    refine J.seq ?_
    refine J.cond_d rfl (fun hjlt => ?_) (fun hjlt => ?_)
    · skip
      obtain ⟨v, hv⟩ : ∃ v, vs[j]? = some v := ⟨_, List.getElem?_eq_getElem (by omega)⟩
      obtain ⟨hv1, hv2⟩ := hbs v (List.mem_of_getElem? hv)
      obtain ⟨qb, ob, rfl, hqb⟩ := hsb.some (by rw [i64sV_len]; omega)
      refine J.skip ?_
      refine J.seq ?_
      refine J.block ?_
      refine J.seq ?_
      refine J.region ?_
      refine JL.go trivial (RX.movev (v := Value.int _ _) rfl) ?_
      refine JL.go trivial (RX.indexAddr rfl rfl sl35 (by omega) (by omega) (o' := ob + j) (by omega)) ?_
      refine JL.go trivial (RX.loadS H (hFL (X := x.seg :: [(bo, cel ((Zs).map Zn.p) 52)] :: Zs.map Zn.seg) hsb) rfl (j := j) rfl (v := .int .i64 v) (i64sV_get hv) one2) ?_
      refine JL.go trivial (RX.assignv (v := Value.int _ _) rfl) ?_
      refine JL.go trivial (RX.assignv (v := Value.int _ _) rfl) ?_
      refine JL.nil ?_
      refine J.seq ?_
      refine J.region ?_
      refine JL.go trivial (RX.movev (v := x.p) (by rw [show x.p = .pointer (some ⟨x.b, 0, none⟩) from rfl, hxb]; rfl)) ?_
      refine JL.go trivial (RX.movev (v := Value.int _ _) rfl) ?_
      refine JL.does trivial (EX.call rfl cl26 rfl ((zNew_b H (by omega)))) ?_
      rintro _ w ⟨z1, rfl, hz1, ho1, H⟩
      refine JL.go trivial (RX.movev (v := Value.int _ _) rfl) ?_
      refine JL.does trivial (EX.call rfl cl26 rfl ((zNew_b H (by omega)))) ?_
      rintro _ w ⟨z2, rfl, hz2, ho2, H⟩
      refine JL.does trivial (EX.call rfl cl36 rfl ((zMul_b (H.pull 2 rfl) hx (x := z1) (y := z2) (by simp) ho1 (by simp) ho2 (fun e => Zn.ne H (by simp) e.symm) (by omega) (by omega) (by omega) (by omega)))) ?_
      rintro _ w ⟨x1, rfl, hx1b, hx1v, hx1, H⟩
      replace H := (H.pull 1 rfl).drop
      replace H := (H.pull 1 rfl).drop
      have hxv : x1.v = prodE us vs i j := by rw [hx1v, hz1, hz2]; simp [prodE, hu, hv]
      refine JL.nil ?_
      refine J.seq ?_
      refine J.region ?_
      refine JL.go trivial (RX.movev (v := .func _ _ _) rfl) ?_
      refine JL.go trivial (RX.movev (v := Value.int _ _) rfl) ?_
      refine JL.go trivial (RX.movev (v := Value.int _ _) rfl) ?_
      refine JL.does trivial (EX.callv (f := cl) (fv := []) (cv := cv) rfl hcl rfl rfl (hat i j w _ (by omega) (by omega) H (fun p xs h => hFL (X := x1.seg :: [(bo, cel ((Zs).map Zn.p) 52)] :: Zs.map Zn.seg) h))) ?_
      rintro _ w ⟨rfl, H⟩
      refine JL.go trivial (RX.assignv (v := Value.int _ _) rfl) ?_
      refine JL.nil ?_
      have hkn := hkf i j (by omega) (by omega)
      obtain ⟨z, hzk, hzo, hzv⟩ := hZ.2 (kf i j) hkn
      have hzl : Zs.length = n := hZ.1
      refine J.any hmix fun w hs => ?_
      replace H := H.same hs; clear hs
      refine JA.stage (listed := [false, false, false, false, false, false, false, false, false, false]) 9 [0, 1, 2, 3, 4, 5, 6, 7, 8] H (by kernel_rfl) rfl rfl ?_
      refine JI.go rfl trivial (fun w H => RX.movev (v := Value.slice _ _ _) rfl) ?_
      refine JI.go rfl trivial (fun w H => RX.movev (v := Value.int _ _) rfl) ?_
      refine JI.go rfl trivial (fun w H => RX.indexAddr rfl rfl sl50 (by omega) (by omega) (o' := kf i j) (by omega)) ?_
      refine JI.go rfl trivial (fun w H => RX.load H rfl (i := 1) (v := z.p) rfl (RowZ.p_at hzk) one52) ?_
      refine JI.go rfl trivial (fun w H => RX.movev (v := Value.slice _ _ _) rfl) ?_
      refine JI.go rfl trivial (fun w H => RX.movev (v := Value.int _ _) rfl) ?_
      refine JI.go rfl trivial (fun w H => RX.indexAddr rfl rfl sl50 (by omega) (by omega) (o' := kf i j) (by omega)) ?_
      refine JI.go rfl trivial (fun w H => RX.load H rfl (i := 1) (v := z.p) rfl (RowZ.p_at hzk) one52) ?_
      refine JI.go rfl trivial (fun w H => RX.movev (v := x1.p) (by rw [show x1.p = .pointer (some ⟨x1.b, 0, none⟩) from rfl, hx1b, hxb]; rfl)) ?_
      refine JI.nil fun w H => ?_
      refine JL.does trivial (EX.call rfl cl28 rfl ((zAddAt_b (X := [x1.seg, [(bo, cel ((Zs).map Zn.p) 52)]]) H hzk hzo (by simp) hx1 (by rw [hzv]; exact hB i j _ (by omega) (by omega) hkn) (by rw [hx1v, hz1, hz2, Int.natAbs_mul]; exact mul_lt32 (by omega) (by omega))))) ?_
      rintro _ w ⟨z3, rfl, hz3b, hz3v, hz3, H⟩
      rw [← mapP_set hzk hz3b] at H
      refine JL.nil ?_
      refine J.inBlock ?_
      refine J.region ?_
      refine JL.go trivial (RX.add rfl rfl (wi (n := j + 1) (by omega) (by omega))) ?_
      refine JL.go trivial (RX.movev (v := Value.int _ _) rfl) ?_
      refine JL.nil ?_
      refine IH2 (j + 1, Zs.set (kf i j) z3, x1) _ _ (by simp only; omega) ⟨rfl, rfl, rfl, rfl, rfl, rfl, rfl, rfl, rfl, rfl, rfl, trivial⟩ ⟨rfl, trivial⟩ ⟨by simp only; omega, (hZ.set hz3).ext fun k hk => ?_, hx1, hx1b.trans hxb, H⟩
      simp only [accI]
      by_cases e : k = kf i j
      · subst e; rw [if_pos rfl, if_pos rfl, hz3v, hzv, hxv]
      · rw [if_neg e, if_neg e]
    · skip
      obtain rfl : j = vs.length := by omega
      refine J.exit rfl ?_
      refine J.inBlock ?_
      refine J.region ?_
      refine JL.go trivial (RX.add rfl rfl (wi (n := i + 1) (by omega) (by omega))) ?_
      refine JL.go trivial (RX.movev (v := Value.int _ _) rfl) ?_
      refine JL.nil ?_
      exact IH (i + 1, Zs, x) _ _ (by simp only; omega) ⟨rfl, rfl, rfl, rfl, rfl, rfl, trivial⟩ ⟨rfl, trivial⟩ ⟨by simp only; omega, hZ, hx, hxb, H⟩
  · skip
    obtain rfl : i = us.length := by omega
    have hzl : Zs.length = n := hZ.1
    refine J.exit rfl ?_
    refine J.seq ?_
    refine J.region ?_
    refine JL.go trivial (RX.movev (v := Value.slice _ _ _) rfl) ?_
    refine JL.does trivial (EX.call rfl cl29 rfl ((show Ret _ _ [.slice (some ⟨bo, 0, none⟩) n n] w _ by rw [← hzl]; exact whole_b H (hE.sub fun e he => mem_app (X := x.seg :: [(bo, cel ((Zs).map Zn.p) 52)] :: Zs.map Zn.seg) he) (SlAt.cons (SlAt.here List.take_length)) (fun z hz => List.mem_cons_of_mem _ (List.mem_cons_of_mem _ (List.mem_append_left _ (List.mem_map_of_mem hz)))) hZ.oks (by omega)))) ?_
    rintro uu w hW
    replace hW : ∃ b, uu = Value.tuple #[.slice (some ⟨b, 0, none⟩) n n, .nilIface] ∧ Hp w0 w ([(b, cel (i64sV (gatL kf us vs n)) 2)] :: F) := by
      rcases hW with ⟨_, b, h1, H⟩ | ⟨hno, _⟩
      · rw [hzl] at h1
        rw [hZ.vals] at H
        exact ⟨b, h1, Hp.cut (A := [[(b, cel (i64sV (gatL kf us vs n)) 2)]]) (B := x.seg :: [(bo, cel ((Zs).map Zn.p) 52)] :: Zs.map Zn.seg) H⟩
      · exfalso
        refine hno fun z hz => ?_
        obtain ⟨k, hk⟩ := List.mem_iff_getElem?.1 hz
        have hkl := getE_lt hk
        obtain ⟨z1, k1, _, k3⟩ := hZ.2 k (by omega)
        rw [hk] at k1; cases k1
        rw [k3]; exact hI k (by omega)
    obtain ⟨b, rfl, H⟩ := hW
    refine JL.go trivial (RX.extract rfl rfl) ?_
    refine JL.go trivial (RX.extract rfl rfl) ?_
    refine JL.go trivial (RX.assignv (v := Value.slice _ _ _) rfl) ?_
    refine JL.go trivial (RX.assign) ?_
    refine JL.nil ?_
    refine J.ret2 (v := Value.slice _ _ _) Tryz.func22 rfl rfl rfl ?_
    exact ⟨_, rfl, b, rfl, H⟩
end Go.Proofs.YtfdghjlfplhpjaaGreatDoor

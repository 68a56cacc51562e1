/- Small of the reference. -/
import Derived.Test.YtkgbdiahmamolaaGreatDoorBesafterWs
namespace Go.Proofs.YtkgbdiahmamolaaGreatDoorBesafter
open Go Go.Eng
set_option maxRecDepth 100000
set_option linter.unusedVariables false
set_option linter.unusedSimpArgs false
theorem cl21 : callable Tryz.prog 21 = true := by kernel_rfl
theorem cl22 : callable Tryz.prog 22 = true := by kernel_rfl

theorem elJ : Elem Tryz.prog 22 2 1 8 := Elem.of (by kernel_rfl)
theorem rd_wv (z : Int) : readN (wv z) 0 3 = some (wv z) := by simp [readN, wv]
theorem i64sV_app (a b : List Int) : i64sV (a ++ b) = i64sV a ++ i64sV b := by simp [i64sV]
theorem i64s_cell (l : List Int) : ∀ v ∈ i64sV l, isCell v = true := by
  intro v hv
  obtain ⟨x, _, rfl⟩ := List.mem_map.1 hv
  rfl
theorem smU_succ (re im : List Int) (k j : Nat) : smU re im k (j + 1) = smU re im k j + (smR re im k j).1 := rfl
theorem smV_succ (re im : List Int) (k j : Nat) : smV re im k (j + 1) = smV re im k j + (smR re im k j).2 := rfl
theorem i64all_nil : i64all [] := fun x h => by cases h
theorem i64all_snoc {l : List Int} {x : Int} (h : i64all l) (hx : i64in x) : i64all (l ++ [x]) := by
  intro y hy
  rcases List.mem_append.1 hy with h1 | h1
  · exact h y h1
  · rw [List.mem_singleton.1 h1]; exact hx
theorem not_all {re : List Int} {f : Nat → Int} {k : Nat} (hk : k < re.length) (h : ¬ i64in (f k)) : ¬ i64all ((List.range re.length).map f) :=
  fun hA => h (hA _ (List.mem_map.2 ⟨k, List.mem_range.2 hk, rfl⟩))
theorem smE_19 {re im : List Int} (hl : im.length = re.length) (hn : re.length = 1 ∨ re.length = 2 ∨ re.length = 4) (h : ¬ i64all (smA0 re im) ∨ ¬ i64all (smB0 re im)) : smE re im = 19 := by
  unfold smE
  rw [if_pos ⟨hl, hn⟩, if_neg]
  rintro ⟨h1, h2⟩
  rcases h with h | h
  · exact h h1
  · exact h h2
theorem smE_0 {re im : List Int} (hl : im.length = re.length) (hn : re.length = 1 ∨ re.length = 2 ∨ re.length = 4) (h1 : i64all (smA0 re im)) (h2 : i64all (smB0 re im)) : smE re im = 0 := by
  unfold smE
  rw [if_pos ⟨hl, hn⟩, if_pos ⟨h1, h2⟩]

theorem rsmall_e1 {w0 w : World} {F : List Seg} (H : Hp w0 w F) {re im : List Int} {pr pi : Option Addr} {cr ci : Nat} (hsr : SlAt F pr (i64sV re)) (hsi : SlAt F pi (i64sV im)) (h : im.length ≠ re.length) : Ret Tryz.prog 6 [.slice pr re.length cr, .slice pi im.length ci] w fun v w' => ∃ q1 q2 c1 c2 s1 s2, v = .tuple #[.slice q1 (smA re im).length c1, .slice q2 (smB re im).length c2, .int .i64 ((smE re im : Nat) : Int)] ∧ OwnSl 2 1 q1 (smA re im).length c1 (i64sV (smA re im)) s1 ∧ OwnSl 2 1 q2 (smB re im).length c2 (i64sV (smB re im)) s2 ∧ Hp w0 w' (s2 :: s1 :: F) := by
  refine Calls.of_J (n := 139) Tryz.func6 rfl rfl rfl ?_
  refine J.seq ?_
  have he : smE re im = 7 := if_neg (by omega)
  refine J.region ?_
  refine JL.go trivial (RX.assign) ?_
  refine JL.go trivial (RX.assign) ?_
  refine JL.go trivial (RX.assign) ?_
  refine JL.nil ?_
  refine J.seq ?_
  refine J.region ?_
  refine JL.go trivial (RX.movev (v := Value.slice _ _ _) rfl) ?_
  refine JL.go trivial (RX.len_slice rfl (by rw [sl22]; rfl) rfl) ?_
  refine JL.go trivial (RX.assignv (v := Value.int _ _) rfl) ?_
  refine JL.nil ?_
  refine J.seq ?_
  refine J.seq ?_
  refine J.region ?_
  refine JL.go trivial (RX.movev (v := Value.slice _ _ _) rfl) ?_
  refine JL.go trivial (RX.len_slice rfl (by rw [sl22]; rfl) rfl) ?_
  refine JL.go trivial (RX.movev (v := Value.int _ _) rfl) ?_
  refine JL.go trivial (RX.ne rfl rfl) ?_
  refine JL.go trivial (RX.movev (v := Value.bool _) rfl) ?_
  refine JL.no ⟨_, rfl, gno (decide_eq_true (by omega))⟩ ?_
  refine JL.no ⟨_, rfl, gno (decide_eq_true (by omega))⟩ ?_
  refine JL.no ⟨_, rfl, gno (decide_eq_true (by omega))⟩ ?_
  refine JL.no ⟨_, rfl, nofun⟩ ?_
  refine JL.no ⟨_, rfl, nofun⟩ ?_
  refine JL.no ⟨_, rfl, gno (decide_eq_true (by omega))⟩ ?_
  refine JL.no ⟨_, rfl, gno (decide_eq_true (by omega))⟩ ?_
  refine JL.no ⟨_, rfl, nofun⟩ ?_
  refine JL.no ⟨_, rfl, nofun⟩ ?_
  refine JL.no ⟨_, rfl, gno (decide_eq_true (by omega))⟩ ?_
  refine JL.go trivial (RX.pick_t rfl (decide_eq_true (by omega))) ?_
  refine JL.nil ?_
  refine J.cond_t rfl rfl ?_
  refine J.seq ?_
  refine J.region ?_
  refine JL.go trivial (RX.assign) ?_
  refine JL.go trivial (RX.assign) ?_
  refine JL.go trivial (RX.assign) ?_
  refine JL.nil ?_
  refine J.ret3 (v := Value.slice _ _ _) (x := Value.slice _ _ _) (y := Value.int _ _) Tryz.func6 rfl rfl rfl rfl ?_
  refine ⟨_, rfl, ?_⟩
  unfold smA smB
  rw [he]
  exact ⟨none, none, 0, 0, [], [], rfl, OwnSl.nil, OwnSl.nil, H.nil.nil⟩
theorem rsmall_e2 {w0 w : World} {F : List Seg} (H : Hp w0 w F) {re im : List Int} {pr pi : Option Addr} {cr ci : Nat} (hsr : SlAt F pr (i64sV re)) (hsi : SlAt F pi (i64sV im)) (h : im.length = re.length) (h1 : re.length ≠ 1) (h2 : re.length ≠ 2) (h4 : re.length ≠ 4) : Ret Tryz.prog 6 [.slice pr re.length cr, .slice pi im.length ci] w fun v w' => ∃ q1 q2 c1 c2 s1 s2, v = .tuple #[.slice q1 (smA re im).length c1, .slice q2 (smB re im).length c2, .int .i64 ((smE re im : Nat) : Int)] ∧ OwnSl 2 1 q1 (smA re im).length c1 (i64sV (smA re im)) s1 ∧ OwnSl 2 1 q2 (smB re im).length c2 (i64sV (smB re im)) s2 ∧ Hp w0 w' (s2 :: s1 :: F) := by
  refine Calls.of_J (n := 139) Tryz.func6 rfl rfl rfl ?_
  refine J.seq ?_
  have he : smE re im = 7 := if_neg (by omega)
  refine J.region ?_
  refine JL.go trivial (RX.assign) ?_
  refine JL.go trivial (RX.assign) ?_
  refine JL.go trivial (RX.assign) ?_
  refine JL.nil ?_
  refine J.seq ?_
  refine J.region ?_
  refine JL.go trivial (RX.movev (v := Value.slice _ _ _) rfl) ?_
  refine JL.go trivial (RX.len_slice rfl (by rw [sl22]; rfl) rfl) ?_
  refine JL.go trivial (RX.assignv (v := Value.int _ _) rfl) ?_
  refine JL.nil ?_
  refine J.seq ?_
  refine J.seq ?_
  refine J.region ?_
  refine JL.go trivial (RX.movev (v := Value.slice _ _ _) rfl) ?_
  refine JL.go trivial (RX.len_slice rfl (by rw [sl22]; rfl) rfl) ?_
  refine JL.go trivial (RX.movev (v := Value.int _ _) rfl) ?_
  refine JL.go trivial (RX.ne rfl rfl) ?_
  refine JL.go trivial (RX.movev (v := Value.bool _) rfl) ?_
  refine JL.go ⟨_, rfl, (decide_eq_false (by omega))⟩ (RX.movev (v := Value.int _ _) rfl) ?_
  refine JL.go ⟨_, rfl, (decide_eq_false (by omega))⟩ (RX.ne rfl rfl) ?_
  refine JL.go ⟨_, rfl, (decide_eq_false (by omega))⟩ (RX.movev (v := Value.bool _) rfl) ?_
  refine JL.go ⟨_, rfl, (decide_eq_true (by omega))⟩ (RX.movev (v := Value.int _ _) rfl) ?_
  refine JL.go ⟨_, rfl, (decide_eq_true (by omega))⟩ (RX.ne rfl rfl) ?_
  refine JL.go ⟨_, rfl, (decide_eq_false (by omega))⟩ (RX.pick_t rfl (decide_eq_true (by omega))) ?_
  refine JL.go ⟨_, rfl, (decide_eq_false (by omega))⟩ (RX.movev (v := Value.bool _) rfl) ?_
  refine JL.go ⟨_, rfl, (decide_eq_true (by omega))⟩ (RX.movev (v := Value.int _ _) rfl) ?_
  refine JL.go ⟨_, rfl, (decide_eq_true (by omega))⟩ (RX.ne rfl rfl) ?_
  refine JL.go ⟨_, rfl, (decide_eq_false (by omega))⟩ (RX.pick_t rfl (decide_eq_true (by omega))) ?_
  refine JL.go trivial (RX.pick_f rfl (decide_eq_false (by omega))) ?_
  refine JL.nil ?_
  refine J.cond_t rfl (decide_eq_true (by omega)) ?_
  refine J.seq ?_
  refine J.region ?_
  refine JL.go trivial (RX.assign) ?_
  refine JL.go trivial (RX.assign) ?_
  refine JL.go trivial (RX.assign) ?_
  refine JL.nil ?_
  refine J.ret3 (v := Value.slice _ _ _) (x := Value.slice _ _ _) (y := Value.int _ _) Tryz.func6 rfl rfl rfl rfl ?_
  refine ⟨_, rfl, ?_⟩
  unfold smA smB
  rw [he]
  exact ⟨none, none, 0, 0, [], [], rfl, OwnSl.nil, OwnSl.nil, H.nil.nil⟩
set_option maxHeartbeats 1600000 in
theorem rsmall1_b {w0 w : World} {F : List Seg} (H : Hp w0 w F) {re im : List Int} {pr pi : Option Addr} {cr ci : Nat} (hsr : SlAt F pr (i64sV re)) (hsi : SlAt F pi (i64sV im)) (hn : re.length = 1) (hm : im.length = re.length) (hre : ∀ x ∈ re, i64in x) (him : ∀ x ∈ im, i64in x) : Ret Tryz.prog 6 [.slice pr re.length cr, .slice pi im.length ci] w fun v w' => ∃ q1 q2 c1 c2 s1 s2, v = .tuple #[.slice q1 (smA re im).length c1, .slice q2 (smB re im).length c2, .int .i64 ((smE re im : Nat) : Int)] ∧ OwnSl 2 1 q1 (smA re im).length c1 (i64sV (smA re im)) s1 ∧ OwnSl 2 1 q2 (smB re im).length c2 (i64sV (smB re im)) s2 ∧ Hp w0 w' (s2 :: s1 :: F) := by
  refine Calls.of_J (n := 139) Tryz.func6 rfl rfl rfl ?_
  refine J.seq ?_
  have hN2 : re.length = 1 ∨ re.length = 2 ∨ re.length = 4 := by omega
  have hN : 1 ≤ re.length ∧ re.length ≤ 4 := by omega
  have hgr : ∀ j, ((re[j]?).getD (0 : Int)).natAbs ≤ 9223372036854775808 := getD_le fun x hx => by have := hre x hx; unfold i64in at this; omega
  have hgi : ∀ j, ((im[j]?).getD (0 : Int)).natAbs ≤ 9223372036854775808 := getD_le fun x hx => by have := him x hx; unfold i64in at this; omega
  have hru : ∀ k j, (smR re im k j).1.natAbs ≤ 9223372036854775808 ∧ (smR re im k j).2.natAbs ≤ 9223372036854775808 := fun k j => rot_le (hgr j) (hgi j) _
  have hsu : ∀ k j, (smU re im k j).natAbs ≤ j * 9223372036854775808 := fun k j => ssum_le (fun j => (hru k j).1) j
  have hsv : ∀ k j, (smV re im k j).natAbs ≤ j * 9223372036854775808 := fun k j => ssum_le (fun j => (hru k j).2) j
  refine J.region ?_
  refine JL.go trivial (RX.assign) ?_
  refine JL.go trivial (RX.assign) ?_
  refine JL.go trivial (RX.assign) ?_
  refine JL.nil ?_
  refine J.seq ?_
  refine J.region ?_
  refine JL.go trivial (RX.movev (v := Value.slice _ _ _) rfl) ?_
  refine JL.go trivial (RX.len_slice rfl (by rw [sl22]; rfl) rfl) ?_
  refine JL.go trivial (RX.assignv (v := Value.int _ _) rfl) ?_
  refine JL.nil ?_
  refine J.seq ?_
  refine J.seq ?_
  refine J.region ?_
  refine JL.go trivial (RX.movev (v := Value.slice _ _ _) rfl) ?_
  refine JL.go trivial (RX.len_slice rfl (by rw [sl22]; rfl) rfl) ?_
  refine JL.go trivial (RX.movev (v := Value.int _ _) rfl) ?_
  refine JL.go trivial (RX.ne rfl rfl) ?_
  refine JL.go trivial (RX.movev (v := Value.bool _) rfl) ?_
  refine JL.go ⟨_, rfl, (decide_eq_false (by omega))⟩ (RX.movev (v := Value.int _ _) rfl) ?_
  refine JL.go ⟨_, rfl, (decide_eq_false (by omega))⟩ (RX.ne rfl rfl) ?_
  refine JL.go ⟨_, rfl, (decide_eq_false (by omega))⟩ (RX.movev (v := Value.bool _) rfl) ?_
  refine JL.no ⟨_, rfl, gno (decide_eq_false (by omega))⟩ ?_
  refine JL.no ⟨_, rfl, gno (decide_eq_false (by omega))⟩ ?_
  refine JL.go ⟨_, rfl, (decide_eq_false (by omega))⟩ (RX.pick_f rfl (decide_eq_false (by omega))) ?_
  refine JL.go ⟨_, rfl, (decide_eq_false (by omega))⟩ (RX.movev (v := Value.bool _) rfl) ?_
  refine JL.no ⟨_, rfl, gno rfl⟩ ?_
  refine JL.no ⟨_, rfl, gno rfl⟩ ?_
  refine JL.go ⟨_, rfl, (decide_eq_false (by omega))⟩ (RX.pick_f rfl rfl) ?_
  refine JL.go trivial (RX.pick_f rfl (decide_eq_false (by omega))) ?_
  refine JL.nil ?_
  refine J.cond_f rfl rfl ?_
  refine J.skip ?_
  refine J.seq ?_
  refine J.region ?_
  refine JL.does trivial (EX.buildSlice0 H elJ) ?_
  rintro _ w ⟨b0, rfl, H⟩
  refine JL.does trivial (EX.buildSlice0 H elJ) ?_
  rintro _ w ⟨b1, rfl, H⟩
  refine JL.go trivial (RX.assignv (v := Value.slice _ _ _) rfl) ?_
  refine JL.go trivial (RX.assignv (v := Value.slice _ _ _) rfl) ?_
  refine JL.nil ?_
  refine J.seq ?_
  refine J.seq ?_
  refine J.region ?_
  refine JL.go trivial (RX.assign) ?_
  refine JL.nil ?_
  refine J.block ?_
  refine J.loop (ι := Nat × List Int × Option Addr × Nat × Seg × List Int × Option Addr × Nat × Seg) (S := fun z => [(10, .int .i64 ((z.1 : Nat) : Int)), (8, .slice z.2.2.1 z.2.1.length z.2.2.2.1), (9, .slice z.2.2.2.2.2.2.1 z.2.2.2.2.2.1.length z.2.2.2.2.2.2.2.1)]) (Φ := fun z w => z.1 ≤ re.length ∧ z.2.1 = (List.range z.1).map (fun k => smU re im k re.length) ∧ z.2.2.2.2.2.1 = (List.range z.1).map (fun k => smV re im k re.length) ∧ i64all z.2.1 ∧ i64all z.2.2.2.2.2.1 ∧ OwnSl 2 1 z.2.2.1 (z.2.1).length z.2.2.2.1 (i64sV (z.2.1)) z.2.2.2.2.1 ∧ OwnSl 2 1 z.2.2.2.2.2.2.1 (z.2.2.2.2.2.1).length z.2.2.2.2.2.2.2.1 (i64sV (z.2.2.2.2.2.1)) z.2.2.2.2.2.2.2.2 ∧ Hp w0 w (z.2.2.2.2.2.2.2.2 :: z.2.2.2.2.1 :: F)) (μ := fun z => re.length - z.1) (C := [(0, _), (1, _), (7, _)]) (0, [], some ⟨b0, 0, none⟩, 0, [(b0, cel [] 2)], [], some ⟨b1, 0, none⟩, 0, [(b1, cel [] 2)]) ⟨rfl, rfl, rfl, trivial⟩ ⟨rfl, rfl, rfl, trivial⟩ ?_ ?_
  · exact ⟨by simp, rfl, rfl, i64all_nil, i64all_nil, OwnSl.empty, OwnSl.empty, H⟩
  clear H
  rintro ⟨k, o1, q1, c1, s1, o2, q2, c2, s2⟩ ρ w ⟨hk, ho1, ho2, ha1, ha2, hO1, hO2, H⟩ IH
  simp only at hk ho1 ho2 ha1 ha2 hO1 hO2 H
  have hl1 : o1.length = k := by rw [ho1]; simp
  have hl2 : o2.length = k := by rw [ho2]; simp
  dsimp only
  refine J.seq ?_
  refine J.seq ?_
  refine J.region ?_
  refine JL.go trivial (RX.movev (v := Value.int _ _) rfl) ?_
  refine JL.go trivial (RX.movev (v := Value.int _ _) rfl) ?_
  refine JL.go trivial (RX.lt rfl rfl) ?_
  refine JL.nil ?_
  refine J.cond_d rfl (fun hklt => ?_) (fun hklt => ?_)
  · skip
    refine J.skip ?_
    refine J.seq ?_
    refine J.block ?_
    refine J.seq ?_
    refine J.region ?_
    refine JL.go trivial (RX.build (pv := []) (res := [.int .u64 0, .int .u64 0, .int .u64 0]) rfl (by kernel_rfl)) ?_
    refine JL.go trivial (RX.build (pv := []) (res := [.int .u64 0, .int .u64 0, .int .u64 0]) rfl (by kernel_rfl)) ?_
    refine JL.does trivial (EX.alloc H zr52 rfl) ?_
    rintro _ w ⟨bx, rfl, H⟩
    refine JL.does trivial (EX.alloc H zr52 rfl) ?_
    rintro _ w ⟨by_, rfl, H⟩
    refine JL.does trivial (by first | exact EX.storeAgg H rfl rfl (i := 0) rfl (by simp [isCell]) (by simp) sz52 rfl rfl | exact EX.storeAgg H rfl rfl (i := 1) rfl (by simp [isCell]) (by simp) sz52 rfl rfl | exact EX.storeAgg H rfl rfl (i := 2) rfl (by simp [isCell]) (by simp) sz52 rfl rfl | exact EX.storeAgg H rfl rfl (i := 3) rfl (by simp [isCell]) (by simp) sz52 rfl rfl) ?_
    rintro _ w H
    refine JL.does trivial (by first | exact EX.storeAgg H rfl rfl (i := 0) rfl (by simp [isCell]) (by simp) sz52 rfl rfl | exact EX.storeAgg H rfl rfl (i := 1) rfl (by simp [isCell]) (by simp) sz52 rfl rfl | exact EX.storeAgg H rfl rfl (i := 2) rfl (by simp [isCell]) (by simp) sz52 rfl rfl | exact EX.storeAgg H rfl rfl (i := 3) rfl (by simp [isCell]) (by simp) sz52 rfl rfl) ?_
    rintro _ w H
    refine JL.nil ?_
    replace H : Hp w0 w ([(by_, cel (wv (0)) 52)] :: [(bx, cel (wv (0)) 52)] :: s2 :: s1 :: F) := by rw [← wv_zero]; exact H
    refine J.seq ?_
    refine J.seq ?_
    refine J.region ?_
    refine JL.go trivial (RX.assign) ?_
    refine JL.nil ?_
    refine J.block ?_
    refine J.loop (ι := Nat × Int × Int) (S := fun z => [(13, .int .i64 ((z.1 : Nat) : Int))]) (Φ := fun z w => z.1 ≤ re.length ∧ z.2.1 = smU re im k z.1 ∧ z.2.2 = smV re im k z.1 ∧ Hp w0 w ([(by_, cel (wv (z.2.2)) 52)] :: [(bx, cel (wv (z.2.1)) 52)] :: s2 :: s1 :: F)) (μ := fun z => re.length - z.1) (C := [(0, _), (1, _), (7, _), (8, _), (9, _), (10, _), (11, _), (12, _)]) (0, 0, 0) ⟨rfl, rfl, rfl, rfl, rfl, rfl, rfl, rfl, trivial⟩ ⟨rfl, trivial⟩ ?_ ?_
    · exact ⟨by simp, rfl, rfl, H⟩
    clear H
    rintro ⟨j, x, y⟩ ρ w ⟨hj, hx, hy, H⟩ IH2
    simp only at hj hx hy H
    dsimp only
    refine J.seq ?_
    refine J.seq ?_
    refine J.region ?_
    refine JL.go trivial (RX.movev (v := Value.int _ _) rfl) ?_
    refine JL.go trivial (RX.movev (v := Value.int _ _) rfl) ?_
    refine JL.go trivial (RX.lt rfl rfl) ?_
    refine JL.nil ?_
    refine J.cond_d rfl (fun hjlt => ?_) (fun hjlt => ?_)
    · skip
      obtain ⟨u, hu⟩ : ∃ u, re[j]? = some u := ⟨_, List.getElem?_eq_getElem (by omega)⟩
      obtain ⟨v, hv⟩ : ∃ v, im[j]? = some v := ⟨_, List.getElem?_eq_getElem (by omega)⟩
      obtain ⟨hu1, hu2⟩ := hre u (List.mem_of_getElem? hu)
      obtain ⟨hv1, hv2⟩ := him v (List.mem_of_getElem? hv)
      obtain ⟨qa, oa, rfl, hqa⟩ := hsr.some (by rw [i64sV_len]; omega)
      obtain ⟨qb, ob, rfl, hqb⟩ := hsi.some (by rw [i64sV_len]; omega)
      have hq4 : 4 / re.length ≤ 4 := Nat.div_le_self _ _
      have hb1 : 4 / re.length * j ≤ 4 * 3 := Nat.mul_le_mul hq4 (by omega)
      have hb2 : 4 / re.length * j * k ≤ 4 * 3 * 3 := Nat.mul_le_mul hb1 (by omega)
      have hR : smR re im k j = rot (4 * j * k / re.length % 4) (u, v) := by simp [smR, hu, hv]
      have hT3 := Nat.mod_lt (4 * j * k / re.length) (show 0 < 4 by decide)
      refine J.skip ?_
      refine J.seq ?_
      refine J.block ?_
      refine J.seq ?_
      refine J.region ?_
      refine JL.go trivial (RX.movev (v := Value.int _ _) rfl) ?_
      refine JL.go trivial (RX.quo rfl rfl (by omega) (r := ((4 / re.length : Nat) : Int)) (by rw [show (4 : Int) = ((4 : Nat) : Int) from rfl, quo_nat]; exact wi rfl (by omega))) ?_
      refine JL.go trivial (RX.movev (v := Value.int _ _) rfl) ?_
      refine JL.go trivial (RX.mul rfl rfl (wi (n := 4 / re.length * j) (Int.natCast_mul _ _).symm (by omega))) ?_
      refine JL.go trivial (RX.movev (v := Value.int _ _) rfl) ?_
      refine JL.go trivial (RX.mul rfl rfl (wi (n := 4 / re.length * j * k) (Int.natCast_mul _ _).symm (by omega))) ?_
      refine JL.go trivial (RX.rem rfl rfl (by omega) (r := ((4 * j * k / re.length % 4 : Nat) : Int)) (by rw [← rot_idx hN2]; exact rem_nat (b := 4))) ?_
      refine JL.nil ?_
      generalize 4 * j * k / re.length % 4 = T at *
      refine J.block ?_
      refine J.seq ?_
      refine J.region ?_
      refine JL.go trivial (RX.eq rfl rfl) ?_
      refine JL.go trivial (RX.assignv (v := Value.bool _) rfl) ?_
      refine JL.nil ?_
      refine J.cond_d rfl (fun k0 => ?_) (fun k0 => ?_)
      · skip
        obtain rfl : T = 0 := by omega
        refine J.any hmix fun w hs => ?_
        replace H := H.same hs; clear hs
        refine JA.stage (listed := [false, false, false, false, false, false, false, false, false, false, false, false, false, false]) 12 [0, 1, 2, 3, 4, 5, 6, 7, 8, 9, 10, 11] H (by kernel_rfl) rfl rfl ?_
        refine JI.go rfl trivial (fun w H => RX.loadAgg H rfl (i := 1) (vs := wv x) rfl (rd_wv x) ag52) ?_
        refine JI.go rfl trivial (fun w H => RX.movev (v := Value.slice _ _ _) rfl) ?_
        refine JI.go rfl trivial (fun w H => RX.movev (v := Value.int _ _) rfl) ?_
        refine JI.go rfl trivial (fun w H => RX.indexAddr rfl rfl sl22 (by omega) (by omega) (o' := oa + j) (by omega)) ?_
        refine JI.go rfl trivial (fun w H => RX.loadS H hsr.cons.cons.cons.cons rfl (j := j) rfl (v := .int .i64 u) (i64sV_get hu) one2) ?_
        refine JI.call rfl trivial (fun w H => run_callq rfl cl21 rfl) (fun w H => (plus_b (z := x) (a := u) (b := 1) H (by omega) (by omega) (by decide) (by decide))) ?_
        refine JI.go rfl trivial (fun w H => RX.loadAgg H rfl (i := 0) (vs := wv y) rfl (rd_wv y) ag52) ?_
        refine JI.go rfl trivial (fun w H => RX.movev (v := Value.slice _ _ _) rfl) ?_
        refine JI.go rfl trivial (fun w H => RX.movev (v := Value.int _ _) rfl) ?_
        refine JI.go rfl trivial (fun w H => RX.indexAddr rfl rfl sl22 (by omega) (by omega) (o' := ob + j) (by omega)) ?_
        refine JI.go rfl trivial (fun w H => RX.loadS H hsi.cons.cons.cons.cons rfl (j := j) rfl (v := .int .i64 v) (i64sV_get hv) one2) ?_
        refine JI.call rfl trivial (fun w H => run_callq rfl cl21 rfl) (fun w H => (plus_b (z := y) (a := v) (b := 1) H (by omega) (by omega) (by decide) (by decide))) ?_
        refine JI.nil fun w H => ?_
        refine JL.does trivial (EX.storeAgg H rfl rfl (i := 1) (vs := wv (x + u * (1))) rfl (wv_cell _) (by simp [wv]) sz52 rfl rfl) ?_
        rintro _ w H
        refine JL.does trivial (EX.storeAgg H rfl rfl (i := 0) (vs := wv (y + v * (1))) rfl (wv_cell _) (by simp [wv]) sz52 rfl rfl) ?_
        rintro _ w H
        refine JL.nil ?_
        replace H : Hp w0 w ([(by_, cel (wv (y + v * (1))) 52)] :: [(bx, cel (wv (x + u * (1))) 52)] :: s2 :: s1 :: F) := H
        refine J.inBlock ?_
        refine J.inBlock ?_
        refine J.region ?_
        refine JL.go trivial (RX.movev (v := Value.int _ _) rfl) ?_
        refine JL.go trivial (RX.add rfl rfl (wi (n := j + 1) (by omega) (by omega))) ?_
        refine JL.go trivial (RX.assignv (v := Value.int _ _) rfl) ?_
        refine JL.nil ?_
        refine IH2 (j + 1, x + u * (1), y + v * (1)) _ _ (by simp only; omega) ⟨rfl, rfl, rfl, rfl, rfl, rfl, rfl, rfl, trivial⟩ ⟨rfl, trivial⟩ ⟨by simp only; omega, ?_, ?_, H⟩
        · simp only
          rw [smU_succ, hR, hx]; simp only [rot]; omega
        · simp only
          rw [smV_succ, hR, hy]; simp only [rot]; omega
      · skip
        refine J.seq ?_
        refine J.region ?_
        refine JL.go trivial (RX.eq rfl rfl) ?_
        refine JL.go trivial (RX.assignv (v := Value.bool _) rfl) ?_
        refine JL.nil ?_
        refine J.cond_d rfl (fun k1 => ?_) (fun k1 => ?_)
        · skip
          obtain rfl : T = 1 := by omega
          refine J.any hmix fun w hs => ?_
          replace H := H.same hs; clear hs
          refine JA.stage (listed := [false, false, false, false, false, false, false, false, false, false, false, false, false, false]) 12 [0, 1, 2, 3, 4, 5, 6, 7, 8, 9, 10, 11] H (by kernel_rfl) rfl rfl ?_
          refine JI.go rfl trivial (fun w H => RX.loadAgg H rfl (i := 1) (vs := wv x) rfl (rd_wv x) ag52) ?_
          refine JI.go rfl trivial (fun w H => RX.movev (v := Value.slice _ _ _) rfl) ?_
          refine JI.go rfl trivial (fun w H => RX.movev (v := Value.int _ _) rfl) ?_
          refine JI.go rfl trivial (fun w H => RX.indexAddr rfl rfl sl22 (by omega) (by omega) (o' := ob + j) (by omega)) ?_
          refine JI.go rfl trivial (fun w H => RX.loadS H hsi.cons.cons.cons.cons rfl (j := j) rfl (v := .int .i64 v) (i64sV_get hv) one2) ?_
          refine JI.call rfl trivial (fun w H => run_callq rfl cl21 rfl) (fun w H => (plus_b (z := x) (a := v) (b := 1) H (by omega) (by omega) (by decide) (by decide))) ?_
          refine JI.go rfl trivial (fun w H => RX.loadAgg H rfl (i := 0) (vs := wv y) rfl (rd_wv y) ag52) ?_
          refine JI.go rfl trivial (fun w H => RX.movev (v := Value.slice _ _ _) rfl) ?_
          refine JI.go rfl trivial (fun w H => RX.movev (v := Value.int _ _) rfl) ?_
          refine JI.go rfl trivial (fun w H => RX.indexAddr rfl rfl sl22 (by omega) (by omega) (o' := oa + j) (by omega)) ?_
          refine JI.go rfl trivial (fun w H => RX.loadS H hsr.cons.cons.cons.cons rfl (j := j) rfl (v := .int .i64 u) (i64sV_get hu) one2) ?_
          refine JI.call rfl trivial (fun w H => run_callq rfl cl21 rfl) (fun w H => (plus_b (z := y) (a := u) (b := -1) H (by omega) (by omega) (by decide) (by decide))) ?_
          refine JI.nil fun w H => ?_
          refine JL.does trivial (EX.storeAgg H rfl rfl (i := 1) (vs := wv (x + v * (1))) rfl (wv_cell _) (by simp [wv]) sz52 rfl rfl) ?_
          rintro _ w H
          refine JL.does trivial (EX.storeAgg H rfl rfl (i := 0) (vs := wv (y + u * (-1))) rfl (wv_cell _) (by simp [wv]) sz52 rfl rfl) ?_
          rintro _ w H
          refine JL.nil ?_
          replace H : Hp w0 w ([(by_, cel (wv (y + u * (-1))) 52)] :: [(bx, cel (wv (x + v * (1))) 52)] :: s2 :: s1 :: F) := H
          refine J.inBlock ?_
          refine J.inBlock ?_
          refine J.region ?_
          refine JL.go trivial (RX.movev (v := Value.int _ _) rfl) ?_
          refine JL.go trivial (RX.add rfl rfl (wi (n := j + 1) (by omega) (by omega))) ?_
          refine JL.go trivial (RX.assignv (v := Value.int _ _) rfl) ?_
          refine JL.nil ?_
          refine IH2 (j + 1, x + v * (1), y + u * (-1)) _ _ (by simp only; omega) ⟨rfl, rfl, rfl, rfl, rfl, rfl, rfl, rfl, trivial⟩ ⟨rfl, trivial⟩ ⟨by simp only; omega, ?_, ?_, H⟩
          · simp only
            rw [smU_succ, hR, hx]; simp only [rot]; omega
          · simp only
            rw [smV_succ, hR, hy]; simp only [rot]; omega
        · skip
          refine J.seq ?_
          refine J.region ?_
          refine JL.go trivial (RX.eq rfl rfl) ?_
          refine JL.go trivial (RX.assignv (v := Value.bool _) rfl) ?_
          refine JL.nil ?_
          refine J.cond_d rfl (fun k2 => ?_) (fun k2 => ?_)
          · skip
            obtain rfl : T = 2 := by omega
            refine J.any hmix fun w hs => ?_
            replace H := H.same hs; clear hs
            refine JA.stage (listed := [false, false, false, false, false, false, false, false, false, false, false, false, false, false]) 12 [0, 1, 2, 3, 4, 5, 6, 7, 8, 9, 10, 11] H (by kernel_rfl) rfl rfl ?_
            refine JI.go rfl trivial (fun w H => RX.loadAgg H rfl (i := 1) (vs := wv x) rfl (rd_wv x) ag52) ?_
            refine JI.go rfl trivial (fun w H => RX.movev (v := Value.slice _ _ _) rfl) ?_
            refine JI.go rfl trivial (fun w H => RX.movev (v := Value.int _ _) rfl) ?_
            refine JI.go rfl trivial (fun w H => RX.indexAddr rfl rfl sl22 (by omega) (by omega) (o' := oa + j) (by omega)) ?_
            refine JI.go rfl trivial (fun w H => RX.loadS H hsr.cons.cons.cons.cons rfl (j := j) rfl (v := .int .i64 u) (i64sV_get hu) one2) ?_
            refine JI.call rfl trivial (fun w H => run_callq rfl cl21 rfl) (fun w H => (plus_b (z := x) (a := u) (b := -1) H (by omega) (by omega) (by decide) (by decide))) ?_
            refine JI.go rfl trivial (fun w H => RX.loadAgg H rfl (i := 0) (vs := wv y) rfl (rd_wv y) ag52) ?_
            refine JI.go rfl trivial (fun w H => RX.movev (v := Value.slice _ _ _) rfl) ?_
            refine JI.go rfl trivial (fun w H => RX.movev (v := Value.int _ _) rfl) ?_
            refine JI.go rfl trivial (fun w H => RX.indexAddr rfl rfl sl22 (by omega) (by omega) (o' := ob + j) (by omega)) ?_
            refine JI.go rfl trivial (fun w H => RX.loadS H hsi.cons.cons.cons.cons rfl (j := j) rfl (v := .int .i64 v) (i64sV_get hv) one2) ?_
            refine JI.call rfl trivial (fun w H => run_callq rfl cl21 rfl) (fun w H => (plus_b (z := y) (a := v) (b := -1) H (by omega) (by omega) (by decide) (by decide))) ?_
            refine JI.nil fun w H => ?_
            refine JL.does trivial (EX.storeAgg H rfl rfl (i := 1) (vs := wv (x + u * (-1))) rfl (wv_cell _) (by simp [wv]) sz52 rfl rfl) ?_
            rintro _ w H
            refine JL.does trivial (EX.storeAgg H rfl rfl (i := 0) (vs := wv (y + v * (-1))) rfl (wv_cell _) (by simp [wv]) sz52 rfl rfl) ?_
            rintro _ w H
            refine JL.nil ?_
            replace H : Hp w0 w ([(by_, cel (wv (y + v * (-1))) 52)] :: [(bx, cel (wv (x + u * (-1))) 52)] :: s2 :: s1 :: F) := H
            refine J.inBlock ?_
            refine J.inBlock ?_
            refine J.region ?_
            refine JL.go trivial (RX.movev (v := Value.int _ _) rfl) ?_
            refine JL.go trivial (RX.add rfl rfl (wi (n := j + 1) (by omega) (by omega))) ?_
            refine JL.go trivial (RX.assignv (v := Value.int _ _) rfl) ?_
            refine JL.nil ?_
            refine IH2 (j + 1, x + u * (-1), y + v * (-1)) _ _ (by simp only; omega) ⟨rfl, rfl, rfl, rfl, rfl, rfl, rfl, rfl, trivial⟩ ⟨rfl, trivial⟩ ⟨by simp only; omega, ?_, ?_, H⟩
            · simp only
              rw [smU_succ, hR, hx]; simp only [rot]; omega
            · simp only
              rw [smV_succ, hR, hy]; simp only [rot]; omega
          · skip
            refine J.seq ?_
            refine J.region ?_
            refine JL.go trivial (RX.eq rfl rfl) ?_
            refine JL.go trivial (RX.assignv (v := Value.bool _) rfl) ?_
            refine JL.nil ?_
            refine J.cond_d rfl (fun k3 => ?_) (fun k3 => ?_)
            · skip
              obtain rfl : T = 3 := by omega
              refine J.any hmix fun w hs => ?_
              replace H := H.same hs; clear hs
              refine JA.stage (listed := [false, false, false, false, false, false, false, false, false, false, false, false, false, false]) 12 [0, 1, 2, 3, 4, 5, 6, 7, 8, 9, 10, 11] H (by kernel_rfl) rfl rfl ?_
              refine JI.go rfl trivial (fun w H => RX.loadAgg H rfl (i := 1) (vs := wv x) rfl (rd_wv x) ag52) ?_
              refine JI.go rfl trivial (fun w H => RX.movev (v := Value.slice _ _ _) rfl) ?_
              refine JI.go rfl trivial (fun w H => RX.movev (v := Value.int _ _) rfl) ?_
              refine JI.go rfl trivial (fun w H => RX.indexAddr rfl rfl sl22 (by omega) (by omega) (o' := ob + j) (by omega)) ?_
              refine JI.go rfl trivial (fun w H => RX.loadS H hsi.cons.cons.cons.cons rfl (j := j) rfl (v := .int .i64 v) (i64sV_get hv) one2) ?_
              refine JI.call rfl trivial (fun w H => run_callq rfl cl21 rfl) (fun w H => (plus_b (z := x) (a := v) (b := -1) H (by omega) (by omega) (by decide) (by decide))) ?_
              refine JI.go rfl trivial (fun w H => RX.loadAgg H rfl (i := 0) (vs := wv y) rfl (rd_wv y) ag52) ?_
              refine JI.go rfl trivial (fun w H => RX.movev (v := Value.slice _ _ _) rfl) ?_
              refine JI.go rfl trivial (fun w H => RX.movev (v := Value.int _ _) rfl) ?_
              refine JI.go rfl trivial (fun w H => RX.indexAddr rfl rfl sl22 (by omega) (by omega) (o' := oa + j) (by omega)) ?_
              refine JI.go rfl trivial (fun w H => RX.loadS H hsr.cons.cons.cons.cons rfl (j := j) rfl (v := .int .i64 u) (i64sV_get hu) one2) ?_
              refine JI.call rfl trivial (fun w H => run_callq rfl cl21 rfl) (fun w H => (plus_b (z := y) (a := u) (b := 1) H (by omega) (by omega) (by decide) (by decide))) ?_
              refine JI.nil fun w H => ?_
              refine JL.does trivial (EX.storeAgg H rfl rfl (i := 1) (vs := wv (x + v * (-1))) rfl (wv_cell _) (by simp [wv]) sz52 rfl rfl) ?_
              rintro _ w H
              refine JL.does trivial (EX.storeAgg H rfl rfl (i := 0) (vs := wv (y + u * (1))) rfl (wv_cell _) (by simp [wv]) sz52 rfl rfl) ?_
              rintro _ w H
              refine JL.nil ?_
              replace H : Hp w0 w ([(by_, cel (wv (y + u * (1))) 52)] :: [(bx, cel (wv (x + v * (-1))) 52)] :: s2 :: s1 :: F) := H
              refine J.inBlock ?_
              refine J.inBlock ?_
              refine J.region ?_
              refine JL.go trivial (RX.movev (v := Value.int _ _) rfl) ?_
              refine JL.go trivial (RX.add rfl rfl (wi (n := j + 1) (by omega) (by omega))) ?_
              refine JL.go trivial (RX.assignv (v := Value.int _ _) rfl) ?_
              refine JL.nil ?_
              refine IH2 (j + 1, x + v * (-1), y + u * (1)) _ _ (by simp only; omega) ⟨rfl, rfl, rfl, rfl, rfl, rfl, rfl, rfl, trivial⟩ ⟨rfl, trivial⟩ ⟨by simp only; omega, ?_, ?_, H⟩
              · simp only
                rw [smU_succ, hR, hx]; simp only [rot]; omega
              · simp only
                rw [smV_succ, hR, hy]; simp only [rot]; omega
            · skip
              exfalso
              omega
    · skip
      obtain rfl : j = re.length := by omega
      have hsu1 := hsu k re.length
      have hsv1 := hsv k re.length
      rw [← hx] at hsu1
      rw [← hy] at hsv1
      have hj4 : re.length * 9223372036854775808 ≤ 4 * 9223372036854775808 := Nat.mul_le_mul (by omega) (Nat.le_refl _)
      refine J.exit rfl ?_
      refine J.seq ?_
      refine J.region ?_
      refine JL.go trivial (RX.loadAgg H rfl (i := 1) (vs := wv x) rfl (rd_wv x) ag52) ?_
      refine JL.does trivial (EX.call rfl cl22 rfl ((fits_b (z := x) H (by omega)))) ?_
      rintro _ w ⟨rfl, H⟩
      refine JL.go trivial (RX.movev (v := .tuple _) rfl) ?_
      refine JL.go trivial (RX.extract rfl rfl) ?_
      refine JL.go trivial (RX.extract rfl rfl) ?_
      refine JL.go trivial (RX.assignv (v := Value.int _ _) rfl) ?_
      refine JL.go trivial (RX.assignv (v := Value.bool _) rfl) ?_
      refine JL.nil ?_
      refine J.seq ?_
      refine J.region ?_
      refine JL.go trivial (RX.loadAgg H rfl (i := 0) (vs := wv y) rfl (rd_wv y) ag52) ?_
      refine JL.does trivial (EX.call rfl cl22 rfl ((fits_b (z := y) H (by omega)))) ?_
      rintro _ w ⟨rfl, H⟩
      refine JL.go trivial (RX.movev (v := .tuple _) rfl) ?_
      refine JL.go trivial (RX.extract rfl rfl) ?_
      refine JL.go trivial (RX.extract rfl rfl) ?_
      refine JL.go trivial (RX.assignv (v := Value.int _ _) rfl) ?_
      refine JL.go trivial (RX.assignv (v := Value.bool _) rfl) ?_
      refine JL.nil ?_
      refine J.seq ?_
      refine J.seq ?_
      refine J.region ?_
      refine JL.go trivial (RX.movev (v := Value.bool _) rfl) ?_
      refine JL.go trivial (RX.not rfl) ?_
      refine JL.go trivial (RX.movev (v := Value.bool _) rfl) ?_
      refine JL.splitS 125 rfl (fun hg => ?_) (fun hg => ?_)
      · skip
        first | have hgp := of_decide_eq_true hg | skip
        have hno : ¬ i64in x := by simpa using hg
        refine JL.no ⟨_, rfl, gno hg⟩ ?_
        refine JL.no ⟨_, rfl, gno hg⟩ ?_
        refine JL.go trivial (RX.pick_t rfl hg) ?_
        refine JL.nil ?_
        refine J.cond_t rfl rfl ?_
        refine J.seq ?_
        refine J.region ?_
        refine JL.go trivial (RX.assign) ?_
        refine JL.go trivial (RX.assign) ?_
        refine JL.go trivial (RX.assign) ?_
        refine JL.nil ?_
        refine J.ret3 (v := Value.slice _ _ _) (x := Value.slice _ _ _) (y := Value.int _ _) Tryz.func6 rfl rfl rfl rfl ?_
        have he : smE re im = 19 := smE_19 hm hN2 (.inl (not_all (f := fun k => smU re im k re.length) (k := k) (by omega) (by rw [← hx]; exact hno)))
        refine ⟨_, rfl, ?_⟩
        unfold smA smB
        rw [he]
        exact ⟨none, none, 0, 0, [], [], rfl, OwnSl.nil, OwnSl.nil, H.drop.drop.drop.drop.nil.nil⟩
      · skip
        first | have hgp := of_decide_eq_false hg | skip
        have hyx : i64in x := by simpa using hg
        refine JL.go ⟨_, rfl, hg⟩ (RX.movev (v := Value.bool _) rfl) ?_
        refine JL.go ⟨_, rfl, hg⟩ (RX.not rfl) ?_
        refine JL.go trivial (RX.pick_f rfl hg) ?_
        refine JL.nil ?_
        refine J.cond rfl (fun hc => ?_) (fun hc => ?_)
        · skip
          have hno : ¬ i64in y := by simpa using hc
          refine J.seq ?_
          refine J.region ?_
          refine JL.go trivial (RX.assign) ?_
          refine JL.go trivial (RX.assign) ?_
          refine JL.go trivial (RX.assign) ?_
          refine JL.nil ?_
          refine J.ret3 (v := Value.slice _ _ _) (x := Value.slice _ _ _) (y := Value.int _ _) Tryz.func6 rfl rfl rfl rfl ?_
          have he : smE re im = 19 := smE_19 hm hN2 (.inr (not_all (f := fun k => smV re im k re.length) (k := k) (by omega) (by rw [← hy]; exact hno)))
          refine ⟨_, rfl, ?_⟩
          unfold smA smB
          rw [he]
          exact ⟨none, none, 0, 0, [], [], rfl, OwnSl.nil, OwnSl.nil, H.drop.drop.drop.drop.nil.nil⟩
        · skip
          have hyy : i64in y := by simpa using hc
          rw [fits_val hyx, fits_val hyy]
          refine J.skip ?_
          refine J.seq ?_
          replace H := H.drop.drop
          refine J.region ?_
          refine JL.go trivial (RX.movev (v := Value.slice _ _ _) rfl) ?_
          refine JL.go trivial (RX.movev (v := Value.int _ _) rfl) ?_
          refine JL.does trivial (EX.buildSlice1 H elJ rfl rfl) ?_
          rintro _ w ⟨bz, rfl, H⟩
          refine JL.does trivial (EX.append (ys := [.int .i64 x]) (L' := fun s' => [(bz, cel [.int .i64 x] 2)] :: s2 :: s' :: F) H elJ rfl rfl (i := 2) rfl hO1 (SlAt.here rfl) rfl (i64s_cell [x]) (by decide) (by omega) (by omega) (fun _ => rfl)) ?_
          rintro _ w ⟨p3, c3, s3, rfl, ho3, H⟩
          replace ho3 : OwnSl 2 1 p3 (o1 ++ [x]).length c3 (i64sV (o1 ++ [x])) s3 := by rw [List.length_append, i64sV_app]; exact ho3
          replace H := H.drop
          refine JL.go trivial (RX.assignv (v := Value.slice _ _ _) rfl) ?_
          refine JL.nil ?_
          refine J.region ?_
          refine JL.go trivial (RX.movev (v := Value.slice _ _ _) rfl) ?_
          refine JL.go trivial (RX.movev (v := Value.int _ _) rfl) ?_
          refine JL.does trivial (EX.buildSlice1 H elJ rfl rfl) ?_
          rintro _ w ⟨bz2, rfl, H⟩
          refine JL.does trivial (EX.append (ys := [.int .i64 y]) (L' := fun s' => [(bz2, cel [.int .i64 y] 2)] :: s' :: s3 :: F) H elJ rfl rfl (i := 1) rfl hO2 (SlAt.here rfl) rfl (i64s_cell [y]) (by decide) (by omega) (by omega) (fun _ => rfl)) ?_
          rintro _ w ⟨p4, c4, s4, rfl, ho4, H⟩
          replace ho4 : OwnSl 2 1 p4 (o2 ++ [y]).length c4 (i64sV (o2 ++ [y])) s4 := by rw [List.length_append, i64sV_app]; exact ho4
          replace H := H.drop
          refine JL.go trivial (RX.assignv (v := Value.slice _ _ _) rfl) ?_
          refine JL.nil ?_
          refine J.inBlock ?_
          refine J.region ?_
          refine JL.go trivial (RX.movev (v := Value.int _ _) rfl) ?_
          refine JL.go trivial (RX.add rfl rfl (wi (n := k + 1) (by omega) (by omega))) ?_
          refine JL.go trivial (RX.assignv (v := Value.int _ _) rfl) ?_
          refine JL.nil ?_
          refine IH (k + 1, o1 ++ [x], p3, c3, s3, o2 ++ [y], p4, c4, s4) _ _ (by simp only; omega) ⟨rfl, rfl, rfl, trivial⟩ ⟨rfl, by simp only [List.length_append]; rfl, by simp only [List.length_append]; rfl, trivial⟩ ⟨by simp only; omega, ?_, ?_, i64all_snoc ha1 hyx, i64all_snoc ha2 hyy, ho3, ho4, H⟩
          · simp only
            rw [List.range_succ, List.map_append, ← ho1, hx]; rfl
          · simp only
            rw [List.range_succ, List.map_append, ← ho2, hy]; rfl
  · skip
    obtain rfl : k = re.length := by omega
    refine J.exit rfl ?_
    refine J.seq ?_
    refine J.region ?_
    refine JL.go trivial (RX.movev (v := Value.slice _ _ _) rfl) ?_
    refine JL.go trivial (RX.movev (v := Value.slice _ _ _) rfl) ?_
    refine JL.go trivial (RX.assignv (v := Value.slice _ _ _) rfl) ?_
    refine JL.go trivial (RX.assignv (v := Value.slice _ _ _) rfl) ?_
    refine JL.go trivial (RX.assign) ?_
    refine JL.nil ?_
    refine J.ret3 (v := Value.slice _ _ _) (x := Value.slice _ _ _) (y := Value.int _ _) Tryz.func6 rfl rfl rfl rfl ?_
    have e1 : o1 = smA0 re im := ho1
    have e2 : o2 = smB0 re im := ho2
    have he : smE re im = 0 := smE_0 hm hN2 (e1 ▸ ha1) (e2 ▸ ha2)
    refine ⟨_, rfl, ?_⟩
    unfold smA smB
    rw [he, if_pos rfl, if_pos rfl, ← e1, ← e2]
    exact ⟨_, _, _, _, _, _, rfl, hO1, hO2, H⟩
set_option maxHeartbeats 1600000 in
theorem rsmall2_b {w0 w : World} {F : List Seg} (H : Hp w0 w F) {re im : List Int} {pr pi : Option Addr} {cr ci : Nat} (hsr : SlAt F pr (i64sV re)) (hsi : SlAt F pi (i64sV im)) (hn : re.length = 2) (hm : im.length = re.length) (hre : ∀ x ∈ re, i64in x) (him : ∀ x ∈ im, i64in x) : Ret Tryz.prog 6 [.slice pr re.length cr, .slice pi im.length ci] w fun v w' => ∃ q1 q2 c1 c2 s1 s2, v = .tuple #[.slice q1 (smA re im).length c1, .slice q2 (smB re im).length c2, .int .i64 ((smE re im : Nat) : Int)] ∧ OwnSl 2 1 q1 (smA re im).length c1 (i64sV (smA re im)) s1 ∧ OwnSl 2 1 q2 (smB re im).length c2 (i64sV (smB re im)) s2 ∧ Hp w0 w' (s2 :: s1 :: F) := by
  refine Calls.of_J (n := 139) Tryz.func6 rfl rfl rfl ?_
  refine J.seq ?_
  have hN2 : re.length = 1 ∨ re.length = 2 ∨ re.length = 4 := by omega
  have hN : 1 ≤ re.length ∧ re.length ≤ 4 := by omega
  have hgr : ∀ j, ((re[j]?).getD (0 : Int)).natAbs ≤ 9223372036854775808 := getD_le fun x hx => by have := hre x hx; unfold i64in at this; omega
  have hgi : ∀ j, ((im[j]?).getD (0 : Int)).natAbs ≤ 9223372036854775808 := getD_le fun x hx => by have := him x hx; unfold i64in at this; omega
  have hru : ∀ k j, (smR re im k j).1.natAbs ≤ 9223372036854775808 ∧ (smR re im k j).2.natAbs ≤ 9223372036854775808 := fun k j => rot_le (hgr j) (hgi j) _
  have hsu : ∀ k j, (smU re im k j).natAbs ≤ j * 9223372036854775808 := fun k j => ssum_le (fun j => (hru k j).1) j
  have hsv : ∀ k j, (smV re im k j).natAbs ≤ j * 9223372036854775808 := fun k j => ssum_le (fun j => (hru k j).2) j
  refine J.region ?_
  refine JL.go trivial (RX.assign) ?_
  refine JL.go trivial (RX.assign) ?_
  refine JL.go trivial (RX.assign) ?_
  refine JL.nil ?_
  refine J.seq ?_
  refine J.region ?_
  refine JL.go trivial (RX.movev (v := Value.slice _ _ _) rfl) ?_
  refine JL.go trivial (RX.len_slice rfl (by rw [sl22]; rfl) rfl) ?_
  refine JL.go trivial (RX.assignv (v := Value.int _ _) rfl) ?_
  refine JL.nil ?_
  refine J.seq ?_
  refine J.seq ?_
  refine J.region ?_
  refine JL.go trivial (RX.movev (v := Value.slice _ _ _) rfl) ?_
  refine JL.go trivial (RX.len_slice rfl (by rw [sl22]; rfl) rfl) ?_
  refine JL.go trivial (RX.movev (v := Value.int _ _) rfl) ?_
  refine JL.go trivial (RX.ne rfl rfl) ?_
  refine JL.go trivial (RX.movev (v := Value.bool _) rfl) ?_
  refine JL.go ⟨_, rfl, (decide_eq_false (by omega))⟩ (RX.movev (v := Value.int _ _) rfl) ?_
  refine JL.go ⟨_, rfl, (decide_eq_false (by omega))⟩ (RX.ne rfl rfl) ?_
  refine JL.go ⟨_, rfl, (decide_eq_false (by omega))⟩ (RX.movev (v := Value.bool _) rfl) ?_
  refine JL.go ⟨_, rfl, (decide_eq_true (by omega))⟩ (RX.movev (v := Value.int _ _) rfl) ?_
  refine JL.go ⟨_, rfl, (decide_eq_true (by omega))⟩ (RX.ne rfl rfl) ?_
  refine JL.go ⟨_, rfl, (decide_eq_false (by omega))⟩ (RX.pick_t rfl (decide_eq_true (by omega))) ?_
  refine JL.go ⟨_, rfl, (decide_eq_false (by omega))⟩ (RX.movev (v := Value.bool _) rfl) ?_
  refine JL.no ⟨_, rfl, gno (decide_eq_false (by omega))⟩ ?_
  refine JL.no ⟨_, rfl, gno (decide_eq_false (by omega))⟩ ?_
  refine JL.go ⟨_, rfl, (decide_eq_false (by omega))⟩ (RX.pick_f rfl (decide_eq_false (by omega))) ?_
  refine JL.go trivial (RX.pick_f rfl (decide_eq_false (by omega))) ?_
  refine JL.nil ?_
  refine J.cond_f rfl rfl ?_
  refine J.skip ?_
  refine J.seq ?_
  refine J.region ?_
  refine JL.does trivial (EX.buildSlice0 H elJ) ?_
  rintro _ w ⟨b0, rfl, H⟩
  refine JL.does trivial (EX.buildSlice0 H elJ) ?_
  rintro _ w ⟨b1, rfl, H⟩
  refine JL.go trivial (RX.assignv (v := Value.slice _ _ _) rfl) ?_
  refine JL.go trivial (RX.assignv (v := Value.slice _ _ _) rfl) ?_
  refine JL.nil ?_
  refine J.seq ?_
  refine J.seq ?_
  refine J.region ?_
  refine JL.go trivial (RX.assign) ?_
  refine JL.nil ?_
  refine J.block ?_
  refine J.loop (ι := Nat × List Int × Option Addr × Nat × Seg × List Int × Option Addr × Nat × Seg) (S := fun z => [(10, .int .i64 ((z.1 : Nat) : Int)), (8, .slice z.2.2.1 z.2.1.length z.2.2.2.1), (9, .slice z.2.2.2.2.2.2.1 z.2.2.2.2.2.1.length z.2.2.2.2.2.2.2.1)]) (Φ := fun z w => z.1 ≤ re.length ∧ z.2.1 = (List.range z.1).map (fun k => smU re im k re.length) ∧ z.2.2.2.2.2.1 = (List.range z.1).map (fun k => smV re im k re.length) ∧ i64all z.2.1 ∧ i64all z.2.2.2.2.2.1 ∧ OwnSl 2 1 z.2.2.1 (z.2.1).length z.2.2.2.1 (i64sV (z.2.1)) z.2.2.2.2.1 ∧ OwnSl 2 1 z.2.2.2.2.2.2.1 (z.2.2.2.2.2.1).length z.2.2.2.2.2.2.2.1 (i64sV (z.2.2.2.2.2.1)) z.2.2.2.2.2.2.2.2 ∧ Hp w0 w (z.2.2.2.2.2.2.2.2 :: z.2.2.2.2.1 :: F)) (μ := fun z => re.length - z.1) (C := [(0, _), (1, _), (7, _)]) (0, [], some ⟨b0, 0, none⟩, 0, [(b0, cel [] 2)], [], some ⟨b1, 0, none⟩, 0, [(b1, cel [] 2)]) ⟨rfl, rfl, rfl, trivial⟩ ⟨rfl, rfl, rfl, trivial⟩ ?_ ?_
  · exact ⟨by simp, rfl, rfl, i64all_nil, i64all_nil, OwnSl.empty, OwnSl.empty, H⟩
  clear H
  rintro ⟨k, o1, q1, c1, s1, o2, q2, c2, s2⟩ ρ w ⟨hk, ho1, ho2, ha1, ha2, hO1, hO2, H⟩ IH
  simp only at hk ho1 ho2 ha1 ha2 hO1 hO2 H
  have hl1 : o1.length = k := by rw [ho1]; simp
  have hl2 : o2.length = k := by rw [ho2]; simp
  dsimp only
  refine J.seq ?_
  refine J.seq ?_
  refine J.region ?_
  refine JL.go trivial (RX.movev (v := Value.int _ _) rfl) ?_
  refine JL.go trivial (RX.movev (v := Value.int _ _) rfl) ?_
  refine JL.go trivial (RX.lt rfl rfl) ?_
  refine JL.nil ?_
  refine J.cond_d rfl (fun hklt => ?_) (fun hklt => ?_)
  · skip
    refine J.skip ?_
    refine J.seq ?_
    refine J.block ?_
    refine J.seq ?_
    refine J.region ?_
    refine JL.go trivial (RX.build (pv := []) (res := [.int .u64 0, .int .u64 0, .int .u64 0]) rfl (by kernel_rfl)) ?_
    refine JL.go trivial (RX.build (pv := []) (res := [.int .u64 0, .int .u64 0, .int .u64 0]) rfl (by kernel_rfl)) ?_
    refine JL.does trivial (EX.alloc H zr52 rfl) ?_
    rintro _ w ⟨bx, rfl, H⟩
    refine JL.does trivial (EX.alloc H zr52 rfl) ?_
    rintro _ w ⟨by_, rfl, H⟩
    refine JL.does trivial (by first | exact EX.storeAgg H rfl rfl (i := 0) rfl (by simp [isCell]) (by simp) sz52 rfl rfl | exact EX.storeAgg H rfl rfl (i := 1) rfl (by simp [isCell]) (by simp) sz52 rfl rfl | exact EX.storeAgg H rfl rfl (i := 2) rfl (by simp [isCell]) (by simp) sz52 rfl rfl | exact EX.storeAgg H rfl rfl (i := 3) rfl (by simp [isCell]) (by simp) sz52 rfl rfl) ?_
    rintro _ w H
    refine JL.does trivial (by first | exact EX.storeAgg H rfl rfl (i := 0) rfl (by simp [isCell]) (by simp) sz52 rfl rfl | exact EX.storeAgg H rfl rfl (i := 1) rfl (by simp [isCell]) (by simp) sz52 rfl rfl | exact EX.storeAgg H rfl rfl (i := 2) rfl (by simp [isCell]) (by simp) sz52 rfl rfl | exact EX.storeAgg H rfl rfl (i := 3) rfl (by simp [isCell]) (by simp) sz52 rfl rfl) ?_
    rintro _ w H
    refine JL.nil ?_
    replace H : Hp w0 w ([(by_, cel (wv (0)) 52)] :: [(bx, cel (wv (0)) 52)] :: s2 :: s1 :: F) := by rw [← wv_zero]; exact H
    refine J.seq ?_
    refine J.seq ?_
    refine J.region ?_
    refine JL.go trivial (RX.assign) ?_
    refine JL.nil ?_
    refine J.block ?_
    refine J.loop (ι := Nat × Int × Int) (S := fun z => [(13, .int .i64 ((z.1 : Nat) : Int))]) (Φ := fun z w => z.1 ≤ re.length ∧ z.2.1 = smU re im k z.1 ∧ z.2.2 = smV re im k z.1 ∧ Hp w0 w ([(by_, cel (wv (z.2.2)) 52)] :: [(bx, cel (wv (z.2.1)) 52)] :: s2 :: s1 :: F)) (μ := fun z => re.length - z.1) (C := [(0, _), (1, _), (7, _), (8, _), (9, _), (10, _), (11, _), (12, _)]) (0, 0, 0) ⟨rfl, rfl, rfl, rfl, rfl, rfl, rfl, rfl, trivial⟩ ⟨rfl, trivial⟩ ?_ ?_
    · exact ⟨by simp, rfl, rfl, H⟩
    clear H
    rintro ⟨j, x, y⟩ ρ w ⟨hj, hx, hy, H⟩ IH2
    simp only at hj hx hy H
    dsimp only
    refine J.seq ?_
    refine J.seq ?_
    refine J.region ?_
    refine JL.go trivial (RX.movev (v := Value.int _ _) rfl) ?_
    refine JL.go trivial (RX.movev (v := Value.int _ _) rfl) ?_
    refine JL.go trivial (RX.lt rfl rfl) ?_
    refine JL.nil ?_
    refine J.cond_d rfl (fun hjlt => ?_) (fun hjlt => ?_)
    · skip
      obtain ⟨u, hu⟩ : ∃ u, re[j]? = some u := ⟨_, List.getElem?_eq_getElem (by omega)⟩
      obtain ⟨v, hv⟩ : ∃ v, im[j]? = some v := ⟨_, List.getElem?_eq_getElem (by omega)⟩
      obtain ⟨hu1, hu2⟩ := hre u (List.mem_of_getElem? hu)
      obtain ⟨hv1, hv2⟩ := him v (List.mem_of_getElem? hv)
      obtain ⟨qa, oa, rfl, hqa⟩ := hsr.some (by rw [i64sV_len]; omega)
      obtain ⟨qb, ob, rfl, hqb⟩ := hsi.some (by rw [i64sV_len]; omega)
      have hq4 : 4 / re.length ≤ 4 := Nat.div_le_self _ _
      have hb1 : 4 / re.length * j ≤ 4 * 3 := Nat.mul_le_mul hq4 (by omega)
      have hb2 : 4 / re.length * j * k ≤ 4 * 3 * 3 := Nat.mul_le_mul hb1 (by omega)
      have hR : smR re im k j = rot (4 * j * k / re.length % 4) (u, v) := by simp [smR, hu, hv]
      have hT3 := Nat.mod_lt (4 * j * k / re.length) (show 0 < 4 by decide)
      refine J.skip ?_
      refine J.seq ?_
      refine J.block ?_
      refine J.seq ?_
      refine J.region ?_
      refine JL.go trivial (RX.movev (v := Value.int _ _) rfl) ?_
      refine JL.go trivial (RX.quo rfl rfl (by omega) (r := ((4 / re.length : Nat) : Int)) (by rw [show (4 : Int) = ((4 : Nat) : Int) from rfl, quo_nat]; exact wi rfl (by omega))) ?_
      refine JL.go trivial (RX.movev (v := Value.int _ _) rfl) ?_
      refine JL.go trivial (RX.mul rfl rfl (wi (n := 4 / re.length * j) (Int.natCast_mul _ _).symm (by omega))) ?_
      refine JL.go trivial (RX.movev (v := Value.int _ _) rfl) ?_
      refine JL.go trivial (RX.mul rfl rfl (wi (n := 4 / re.length * j * k) (Int.natCast_mul _ _).symm (by omega))) ?_
      refine JL.go trivial (RX.rem rfl rfl (by omega) (r := ((4 * j * k / re.length % 4 : Nat) : Int)) (by rw [← rot_idx hN2]; exact rem_nat (b := 4))) ?_
      refine JL.nil ?_
      generalize 4 * j * k / re.length % 4 = T at *
      refine J.block ?_
      refine J.seq ?_
      refine J.region ?_
      refine JL.go trivial (RX.eq rfl rfl) ?_
      refine JL.go trivial (RX.assignv (v := Value.bool _) rfl) ?_
      refine JL.nil ?_
      refine J.cond_d rfl (fun k0 => ?_) (fun k0 => ?_)
      · skip
        obtain rfl : T = 0 := by omega
        refine J.any hmix fun w hs => ?_
        replace H := H.same hs; clear hs
        refine JA.stage (listed := [false, false, false, false, false, false, false, false, false, false, false, false, false, false]) 12 [0, 1, 2, 3, 4, 5, 6, 7, 8, 9, 10, 11] H (by kernel_rfl) rfl rfl ?_
        refine JI.go rfl trivial (fun w H => RX.loadAgg H rfl (i := 1) (vs := wv x) rfl (rd_wv x) ag52) ?_
        refine JI.go rfl trivial (fun w H => RX.movev (v := Value.slice _ _ _) rfl) ?_
        refine JI.go rfl trivial (fun w H => RX.movev (v := Value.int _ _) rfl) ?_
        refine JI.go rfl trivial (fun w H => RX.indexAddr rfl rfl sl22 (by omega) (by omega) (o' := oa + j) (by omega)) ?_
        refine JI.go rfl trivial (fun w H => RX.loadS H hsr.cons.cons.cons.cons rfl (j := j) rfl (v := .int .i64 u) (i64sV_get hu) one2) ?_
        refine JI.call rfl trivial (fun w H => run_callq rfl cl21 rfl) (fun w H => (plus_b (z := x) (a := u) (b := 1) H (by omega) (by omega) (by decide) (by decide))) ?_
        refine JI.go rfl trivial (fun w H => RX.loadAgg H rfl (i := 0) (vs := wv y) rfl (rd_wv y) ag52) ?_
        refine JI.go rfl trivial (fun w H => RX.movev (v := Value.slice _ _ _) rfl) ?_
        refine JI.go rfl trivial (fun w H => RX.movev (v := Value.int _ _) rfl) ?_
        refine JI.go rfl trivial (fun w H => RX.indexAddr rfl rfl sl22 (by omega) (by omega) (o' := ob + j) (by omega)) ?_
        refine JI.go rfl trivial (fun w H => RX.loadS H hsi.cons.cons.cons.cons rfl (j := j) rfl (v := .int .i64 v) (i64sV_get hv) one2) ?_
        refine JI.call rfl trivial (fun w H => run_callq rfl cl21 rfl) (fun w H => (plus_b (z := y) (a := v) (b := 1) H (by omega) (by omega) (by decide) (by decide))) ?_
        refine JI.nil fun w H => ?_
        refine JL.does trivial (EX.storeAgg H rfl rfl (i := 1) (vs := wv (x + u * (1))) rfl (wv_cell _) (by simp [wv]) sz52 rfl rfl) ?_
        rintro _ w H
        refine JL.does trivial (EX.storeAgg H rfl rfl (i := 0) (vs := wv (y + v * (1))) rfl (wv_cell _) (by simp [wv]) sz52 rfl rfl) ?_
        rintro _ w H
        refine JL.nil ?_
        replace H : Hp w0 w ([(by_, cel (wv (y + v * (1))) 52)] :: [(bx, cel (wv (x + u * (1))) 52)] :: s2 :: s1 :: F) := H
        refine J.inBlock ?_
        refine J.inBlock ?_
        refine J.region ?_
        refine JL.go trivial (RX.movev (v := Value.int _ _) rfl) ?_
        refine JL.go trivial (RX.add rfl rfl (wi (n := j + 1) (by omega) (by omega))) ?_
        refine JL.go trivial (RX.assignv (v := Value.int _ _) rfl) ?_
        refine JL.nil ?_
        refine IH2 (j + 1, x + u * (1), y + v * (1)) _ _ (by simp only; omega) ⟨rfl, rfl, rfl, rfl, rfl, rfl, rfl, rfl, trivial⟩ ⟨rfl, trivial⟩ ⟨by simp only; omega, ?_, ?_, H⟩
        · simp only
          rw [smU_succ, hR, hx]; simp only [rot]; omega
        · simp only
          rw [smV_succ, hR, hy]; simp only [rot]; omega
      · skip
        refine J.seq ?_
        refine J.region ?_
        refine JL.go trivial (RX.eq rfl rfl) ?_
        refine JL.go trivial (RX.assignv (v := Value.bool _) rfl) ?_
        refine JL.nil ?_
        refine J.cond_d rfl (fun k1 => ?_) (fun k1 => ?_)
        · skip
          obtain rfl : T = 1 := by omega
          refine J.any hmix fun w hs => ?_
          replace H := H.same hs; clear hs
          refine JA.stage (listed := [false, false, false, false, false, false, false, false, false, false, false, false, false, false]) 12 [0, 1, 2, 3, 4, 5, 6, 7, 8, 9, 10, 11] H (by kernel_rfl) rfl rfl ?_
          refine JI.go rfl trivial (fun w H => RX.loadAgg H rfl (i := 1) (vs := wv x) rfl (rd_wv x) ag52) ?_
          refine JI.go rfl trivial (fun w H => RX.movev (v := Value.slice _ _ _) rfl) ?_
          refine JI.go rfl trivial (fun w H => RX.movev (v := Value.int _ _) rfl) ?_
          refine JI.go rfl trivial (fun w H => RX.indexAddr rfl rfl sl22 (by omega) (by omega) (o' := ob + j) (by omega)) ?_
          refine JI.go rfl trivial (fun w H => RX.loadS H hsi.cons.cons.cons.cons rfl (j := j) rfl (v := .int .i64 v) (i64sV_get hv) one2) ?_
          refine JI.call rfl trivial (fun w H => run_callq rfl cl21 rfl) (fun w H => (plus_b (z := x) (a := v) (b := 1) H (by omega) (by omega) (by decide) (by decide))) ?_
          refine JI.go rfl trivial (fun w H => RX.loadAgg H rfl (i := 0) (vs := wv y) rfl (rd_wv y) ag52) ?_
          refine JI.go rfl trivial (fun w H => RX.movev (v := Value.slice _ _ _) rfl) ?_
          refine JI.go rfl trivial (fun w H => RX.movev (v := Value.int _ _) rfl) ?_
          refine JI.go rfl trivial (fun w H => RX.indexAddr rfl rfl sl22 (by omega) (by omega) (o' := oa + j) (by omega)) ?_
          refine JI.go rfl trivial (fun w H => RX.loadS H hsr.cons.cons.cons.cons rfl (j := j) rfl (v := .int .i64 u) (i64sV_get hu) one2) ?_
          refine JI.call rfl trivial (fun w H => run_callq rfl cl21 rfl) (fun w H => (plus_b (z := y) (a := u) (b := -1) H (by omega) (by omega) (by decide) (by decide))) ?_
          refine JI.nil fun w H => ?_
          refine JL.does trivial (EX.storeAgg H rfl rfl (i := 1) (vs := wv (x + v * (1))) rfl (wv_cell _) (by simp [wv]) sz52 rfl rfl) ?_
          rintro _ w H
          refine JL.does trivial (EX.storeAgg H rfl rfl (i := 0) (vs := wv (y + u * (-1))) rfl (wv_cell _) (by simp [wv]) sz52 rfl rfl) ?_
          rintro _ w H
          refine JL.nil ?_
          replace H : Hp w0 w ([(by_, cel (wv (y + u * (-1))) 52)] :: [(bx, cel (wv (x + v * (1))) 52)] :: s2 :: s1 :: F) := H
          refine J.inBlock ?_
          refine J.inBlock ?_
          refine J.region ?_
          refine JL.go trivial (RX.movev (v := Value.int _ _) rfl) ?_
          refine JL.go trivial (RX.add rfl rfl (wi (n := j + 1) (by omega) (by omega))) ?_
          refine JL.go trivial (RX.assignv (v := Value.int _ _) rfl) ?_
          refine JL.nil ?_
          refine IH2 (j + 1, x + v * (1), y + u * (-1)) _ _ (by simp only; omega) ⟨rfl, rfl, rfl, rfl, rfl, rfl, rfl, rfl, trivial⟩ ⟨rfl, trivial⟩ ⟨by simp only; omega, ?_, ?_, H⟩
          · simp only
            rw [smU_succ, hR, hx]; simp only [rot]; omega
          · simp only
            rw [smV_succ, hR, hy]; simp only [rot]; omega
        · skip
          refine J.seq ?_
          refine J.region ?_
          refine JL.go trivial (RX.eq rfl rfl) ?_
          refine JL.go trivial (RX.assignv (v := Value.bool _) rfl) ?_
          refine JL.nil ?_
          refine J.cond_d rfl (fun k2 => ?_) (fun k2 => ?_)
          · skip
            obtain rfl : T = 2 := by omega
            refine J.any hmix fun w hs => ?_
            replace H := H.same hs; clear hs
            refine JA.stage (listed := [false, false, false, false, false, false, false, false, false, false, false, false, false, false]) 12 [0, 1, 2, 3, 4, 5, 6, 7, 8, 9, 10, 11] H (by kernel_rfl) rfl rfl ?_
            refine JI.go rfl trivial (fun w H => RX.loadAgg H rfl (i := 1) (vs := wv x) rfl (rd_wv x) ag52) ?_
            refine JI.go rfl trivial (fun w H => RX.movev (v := Value.slice _ _ _) rfl) ?_
            refine JI.go rfl trivial (fun w H => RX.movev (v := Value.int _ _) rfl) ?_
            refine JI.go rfl trivial (fun w H => RX.indexAddr rfl rfl sl22 (by omega) (by omega) (o' := oa + j) (by omega)) ?_
            refine JI.go rfl trivial (fun w H => RX.loadS H hsr.cons.cons.cons.cons rfl (j := j) rfl (v := .int .i64 u) (i64sV_get hu) one2) ?_
            refine JI.call rfl trivial (fun w H => run_callq rfl cl21 rfl) (fun w H => (plus_b (z := x) (a := u) (b := -1) H (by omega) (by omega) (by decide) (by decide))) ?_
            refine JI.go rfl trivial (fun w H => RX.loadAgg H rfl (i := 0) (vs := wv y) rfl (rd_wv y) ag52) ?_
            refine JI.go rfl trivial (fun w H => RX.movev (v := Value.slice _ _ _) rfl) ?_
            refine JI.go rfl trivial (fun w H => RX.movev (v := Value.int _ _) rfl) ?_
            refine JI.go rfl trivial (fun w H => RX.indexAddr rfl rfl sl22 (by omega) (by omega) (o' := ob + j) (by omega)) ?_
            refine JI.go rfl trivial (fun w H => RX.loadS H hsi.cons.cons.cons.cons rfl (j := j) rfl (v := .int .i64 v) (i64sV_get hv) one2) ?_
            refine JI.call rfl trivial (fun w H => run_callq rfl cl21 rfl) (fun w H => (plus_b (z := y) (a := v) (b := -1) H (by omega) (by omega) (by decide) (by decide))) ?_
            refine JI.nil fun w H => ?_
            refine JL.does trivial (EX.storeAgg H rfl rfl (i := 1) (vs := wv (x + u * (-1))) rfl (wv_cell _) (by simp [wv]) sz52 rfl rfl) ?_
            rintro _ w H
            refine JL.does trivial (EX.storeAgg H rfl rfl (i := 0) (vs := wv (y + v * (-1))) rfl (wv_cell _) (by simp [wv]) sz52 rfl rfl) ?_
            rintro _ w H
            refine JL.nil ?_
            replace H : Hp w0 w ([(by_, cel (wv (y + v * (-1))) 52)] :: [(bx, cel (wv (x + u * (-1))) 52)] :: s2 :: s1 :: F) := H
            refine J.inBlock ?_
            refine J.inBlock ?_
            refine J.region ?_
            refine JL.go trivial (RX.movev (v := Value.int _ _) rfl) ?_
            refine JL.go trivial (RX.add rfl rfl (wi (n := j + 1) (by omega) (by omega))) ?_
            refine JL.go trivial (RX.assignv (v := Value.int _ _) rfl) ?_
            refine JL.nil ?_
            refine IH2 (j + 1, x + u * (-1), y + v * (-1)) _ _ (by simp only; omega) ⟨rfl, rfl, rfl, rfl, rfl, rfl, rfl, rfl, trivial⟩ ⟨rfl, trivial⟩ ⟨by simp only; omega, ?_, ?_, H⟩
            · simp only
              rw [smU_succ, hR, hx]; simp only [rot]; omega
            · simp only
              rw [smV_succ, hR, hy]; simp only [rot]; omega
          · skip
            refine J.seq ?_
            refine J.region ?_
            refine JL.go trivial (RX.eq rfl rfl) ?_
            refine JL.go trivial (RX.assignv (v := Value.bool _) rfl) ?_
            refine JL.nil ?_
            refine J.cond_d rfl (fun k3 => ?_) (fun k3 => ?_)
            · skip
              obtain rfl : T = 3 := by omega
              refine J.any hmix fun w hs => ?_
              replace H := H.same hs; clear hs
              refine JA.stage (listed := [false, false, false, false, false, false, false, false, false, false, false, false, false, false]) 12 [0, 1, 2, 3, 4, 5, 6, 7, 8, 9, 10, 11] H (by kernel_rfl) rfl rfl ?_
              refine JI.go rfl trivial (fun w H => RX.loadAgg H rfl (i := 1) (vs := wv x) rfl (rd_wv x) ag52) ?_
              refine JI.go rfl trivial (fun w H => RX.movev (v := Value.slice _ _ _) rfl) ?_
              refine JI.go rfl trivial (fun w H => RX.movev (v := Value.int _ _) rfl) ?_
              refine JI.go rfl trivial (fun w H => RX.indexAddr rfl rfl sl22 (by omega) (by omega) (o' := ob + j) (by omega)) ?_
              refine JI.go rfl trivial (fun w H => RX.loadS H hsi.cons.cons.cons.cons rfl (j := j) rfl (v := .int .i64 v) (i64sV_get hv) one2) ?_
              refine JI.call rfl trivial (fun w H => run_callq rfl cl21 rfl) (fun w H => (plus_b (z := x) (a := v) (b := -1) H (by omega) (by omega) (by decide) (by decide))) ?_
              refine JI.go rfl trivial (fun w H => RX.loadAgg H rfl (i := 0) (vs := wv y) rfl (rd_wv y) ag52) ?_
              refine JI.go rfl trivial (fun w H => RX.movev (v := Value.slice _ _ _) rfl) ?_
              refine JI.go rfl trivial (fun w H => RX.movev (v := Value.int _ _) rfl) ?_
              refine JI.go rfl trivial (fun w H => RX.indexAddr rfl rfl sl22 (by omega) (by omega) (o' := oa + j) (by omega)) ?_
              refine JI.go rfl trivial (fun w H => RX.loadS H hsr.cons.cons.cons.cons rfl (j := j) rfl (v := .int .i64 u) (i64sV_get hu) one2) ?_
              refine JI.call rfl trivial (fun w H => run_callq rfl cl21 rfl) (fun w H => (plus_b (z := y) (a := u) (b := 1) H (by omega) (by omega) (by decide) (by decide))) ?_
              refine JI.nil fun w H => ?_
              refine JL.does trivial (EX.storeAgg H rfl rfl (i := 1) (vs := wv (x + v * (-1))) rfl (wv_cell _) (by simp [wv]) sz52 rfl rfl) ?_
              rintro _ w H
              refine JL.does trivial (EX.storeAgg H rfl rfl (i := 0) (vs := wv (y + u * (1))) rfl (wv_cell _) (by simp [wv]) sz52 rfl rfl) ?_
              rintro _ w H
              refine JL.nil ?_
              replace H : Hp w0 w ([(by_, cel (wv (y + u * (1))) 52)] :: [(bx, cel (wv (x + v * (-1))) 52)] :: s2 :: s1 :: F) := H
              refine J.inBlock ?_
              refine J.inBlock ?_
              refine J.region ?_
              refine JL.go trivial (RX.movev (v := Value.int _ _) rfl) ?_
              refine JL.go trivial (RX.add rfl rfl (wi (n := j + 1) (by omega) (by omega))) ?_
              refine JL.go trivial (RX.assignv (v := Value.int _ _) rfl) ?_
              refine JL.nil ?_
              refine IH2 (j + 1, x + v * (-1), y + u * (1)) _ _ (by simp only; omega) ⟨rfl, rfl, rfl, rfl, rfl, rfl, rfl, rfl, trivial⟩ ⟨rfl, trivial⟩ ⟨by simp only; omega, ?_, ?_, H⟩
              · simp only
                rw [smU_succ, hR, hx]; simp only [rot]; omega
              · simp only
                rw [smV_succ, hR, hy]; simp only [rot]; omega
            · skip
              exfalso
              omega
    · skip
      obtain rfl : j = re.length := by omega
      have hsu1 := hsu k re.length
      have hsv1 := hsv k re.length
      rw [← hx] at hsu1
      rw [← hy] at hsv1
      have hj4 : re.length * 9223372036854775808 ≤ 4 * 9223372036854775808 := Nat.mul_le_mul (by omega) (Nat.le_refl _)
      refine J.exit rfl ?_
      refine J.seq ?_
      refine J.region ?_
      refine JL.go trivial (RX.loadAgg H rfl (i := 1) (vs := wv x) rfl (rd_wv x) ag52) ?_
      refine JL.does trivial (EX.call rfl cl22 rfl ((fits_b (z := x) H (by omega)))) ?_
      rintro _ w ⟨rfl, H⟩
      refine JL.go trivial (RX.movev (v := .tuple _) rfl) ?_
      refine JL.go trivial (RX.extract rfl rfl) ?_
      refine JL.go trivial (RX.extract rfl rfl) ?_
      refine JL.go trivial (RX.assignv (v := Value.int _ _) rfl) ?_
      refine JL.go trivial (RX.assignv (v := Value.bool _) rfl) ?_
      refine JL.nil ?_
      refine J.seq ?_
      refine J.region ?_
      refine JL.go trivial (RX.loadAgg H rfl (i := 0) (vs := wv y) rfl (rd_wv y) ag52) ?_
      refine JL.does trivial (EX.call rfl cl22 rfl ((fits_b (z := y) H (by omega)))) ?_
      rintro _ w ⟨rfl, H⟩
      refine JL.go trivial (RX.movev (v := .tuple _) rfl) ?_
      refine JL.go trivial (RX.extract rfl rfl) ?_
      refine JL.go trivial (RX.extract rfl rfl) ?_
      refine JL.go trivial (RX.assignv (v := Value.int _ _) rfl) ?_
      refine JL.go trivial (RX.assignv (v := Value.bool _) rfl) ?_
      refine JL.nil ?_
      refine J.seq ?_
      refine J.seq ?_
      refine J.region ?_
      refine JL.go trivial (RX.movev (v := Value.bool _) rfl) ?_
      refine JL.go trivial (RX.not rfl) ?_
      refine JL.go trivial (RX.movev (v := Value.bool _) rfl) ?_
      refine JL.splitS 125 rfl (fun hg => ?_) (fun hg => ?_)
      · skip
        first | have hgp := of_decide_eq_true hg | skip
        have hno : ¬ i64in x := by simpa using hg
        refine JL.no ⟨_, rfl, gno hg⟩ ?_
        refine JL.no ⟨_, rfl, gno hg⟩ ?_
        refine JL.go trivial (RX.pick_t rfl hg) ?_
        refine JL.nil ?_
        refine J.cond_t rfl rfl ?_
        refine J.seq ?_
        refine J.region ?_
        refine JL.go trivial (RX.assign) ?_
        refine JL.go trivial (RX.assign) ?_
        refine JL.go trivial (RX.assign) ?_
        refine JL.nil ?_
        refine J.ret3 (v := Value.slice _ _ _) (x := Value.slice _ _ _) (y := Value.int _ _) Tryz.func6 rfl rfl rfl rfl ?_
        have he : smE re im = 19 := smE_19 hm hN2 (.inl (not_all (f := fun k => smU re im k re.length) (k := k) (by omega) (by rw [← hx]; exact hno)))
        refine ⟨_, rfl, ?_⟩
        unfold smA smB
        rw [he]
        exact ⟨none, none, 0, 0, [], [], rfl, OwnSl.nil, OwnSl.nil, H.drop.drop.drop.drop.nil.nil⟩
      · skip
        first | have hgp := of_decide_eq_false hg | skip
        have hyx : i64in x := by simpa using hg
        refine JL.go ⟨_, rfl, hg⟩ (RX.movev (v := Value.bool _) rfl) ?_
        refine JL.go ⟨_, rfl, hg⟩ (RX.not rfl) ?_
        refine JL.go trivial (RX.pick_f rfl hg) ?_
        refine JL.nil ?_
        refine J.cond rfl (fun hc => ?_) (fun hc => ?_)
        · skip
          have hno : ¬ i64in y := by simpa using hc
          refine J.seq ?_
          refine J.region ?_
          refine JL.go trivial (RX.assign) ?_
          refine JL.go trivial (RX.assign) ?_
          refine JL.go trivial (RX.assign) ?_
          refine JL.nil ?_
          refine J.ret3 (v := Value.slice _ _ _) (x := Value.slice _ _ _) (y := Value.int _ _) Tryz.func6 rfl rfl rfl rfl ?_
          have he : smE re im = 19 := smE_19 hm hN2 (.inr (not_all (f := fun k => smV re im k re.length) (k := k) (by omega) (by rw [← hy]; exact hno)))
          refine ⟨_, rfl, ?_⟩
          unfold smA smB
          rw [he]
          exact ⟨none, none, 0, 0, [], [], rfl, OwnSl.nil, OwnSl.nil, H.drop.drop.drop.drop.nil.nil⟩
        · skip
          have hyy : i64in y := by simpa using hc
          rw [fits_val hyx, fits_val hyy]
          refine J.skip ?_
          refine J.seq ?_
          replace H := H.drop.drop
          refine J.region ?_
          refine JL.go trivial (RX.movev (v := Value.slice _ _ _) rfl) ?_
          refine JL.go trivial (RX.movev (v := Value.int _ _) rfl) ?_
          refine JL.does trivial (EX.buildSlice1 H elJ rfl rfl) ?_
          rintro _ w ⟨bz, rfl, H⟩
          refine JL.does trivial (EX.append (ys := [.int .i64 x]) (L' := fun s' => [(bz, cel [.int .i64 x] 2)] :: s2 :: s' :: F) H elJ rfl rfl (i := 2) rfl hO1 (SlAt.here rfl) rfl (i64s_cell [x]) (by decide) (by omega) (by omega) (fun _ => rfl)) ?_
          rintro _ w ⟨p3, c3, s3, rfl, ho3, H⟩
          replace ho3 : OwnSl 2 1 p3 (o1 ++ [x]).length c3 (i64sV (o1 ++ [x])) s3 := by rw [List.length_append, i64sV_app]; exact ho3
          replace H := H.drop
          refine JL.go trivial (RX.assignv (v := Value.slice _ _ _) rfl) ?_
          refine JL.nil ?_
          refine J.region ?_
          refine JL.go trivial (RX.movev (v := Value.slice _ _ _) rfl) ?_
          refine JL.go trivial (RX.movev (v := Value.int _ _) rfl) ?_
          refine JL.does trivial (EX.buildSlice1 H elJ rfl rfl) ?_
          rintro _ w ⟨bz2, rfl, H⟩
          refine JL.does trivial (EX.append (ys := [.int .i64 y]) (L' := fun s' => [(bz2, cel [.int .i64 y] 2)] :: s' :: s3 :: F) H elJ rfl rfl (i := 1) rfl hO2 (SlAt.here rfl) rfl (i64s_cell [y]) (by decide) (by omega) (by omega) (fun _ => rfl)) ?_
          rintro _ w ⟨p4, c4, s4, rfl, ho4, H⟩
          replace ho4 : OwnSl 2 1 p4 (o2 ++ [y]).length c4 (i64sV (o2 ++ [y])) s4 := by rw [List.length_append, i64sV_app]; exact ho4
          replace H := H.drop
          refine JL.go trivial (RX.assignv (v := Value.slice _ _ _) rfl) ?_
          refine JL.nil ?_
          refine J.inBlock ?_
          refine J.region ?_
          refine JL.go trivial (RX.movev (v := Value.int _ _) rfl) ?_
          refine JL.go trivial (RX.add rfl rfl (wi (n := k + 1) (by omega) (by omega))) ?_
          refine JL.go trivial (RX.assignv (v := Value.int _ _) rfl) ?_
          refine JL.nil ?_
          refine IH (k + 1, o1 ++ [x], p3, c3, s3, o2 ++ [y], p4, c4, s4) _ _ (by simp only; omega) ⟨rfl, rfl, rfl, trivial⟩ ⟨rfl, by simp only [List.length_append]; rfl, by simp only [List.length_append]; rfl, trivial⟩ ⟨by simp only; omega, ?_, ?_, i64all_snoc ha1 hyx, i64all_snoc ha2 hyy, ho3, ho4, H⟩
          · simp only
            rw [List.range_succ, List.map_append, ← ho1, hx]; rfl
          · simp only
            rw [List.range_succ, List.map_append, ← ho2, hy]; rfl
  · skip
    obtain rfl : k = re.length := by omega
    refine J.exit rfl ?_
    refine J.seq ?_
    refine J.region ?_
    refine JL.go trivial (RX.movev (v := Value.slice _ _ _) rfl) ?_
    refine JL.go trivial (RX.movev (v := Value.slice _ _ _) rfl) ?_
    refine JL.go trivial (RX.assignv (v := Value.slice _ _ _) rfl) ?_
    refine JL.go trivial (RX.assignv (v := Value.slice _ _ _) rfl) ?_
    refine JL.go trivial (RX.assign) ?_
    refine JL.nil ?_
    refine J.ret3 (v := Value.slice _ _ _) (x := Value.slice _ _ _) (y := Value.int _ _) Tryz.func6 rfl rfl rfl rfl ?_
    have e1 : o1 = smA0 re im := ho1
    have e2 : o2 = smB0 re im := ho2
    have he : smE re im = 0 := smE_0 hm hN2 (e1 ▸ ha1) (e2 ▸ ha2)
    refine ⟨_, rfl, ?_⟩
    unfold smA smB
    rw [he, if_pos rfl, if_pos rfl, ← e1, ← e2]
    exact ⟨_, _, _, _, _, _, rfl, hO1, hO2, H⟩
set_option maxHeartbeats 1600000 in
theorem rsmall4_b {w0 w : World} {F : List Seg} (H : Hp w0 w F) {re im : List Int} {pr pi : Option Addr} {cr ci : Nat} (hsr : SlAt F pr (i64sV re)) (hsi : SlAt F pi (i64sV im)) (hn : re.length = 4) (hm : im.length = re.length) (hre : ∀ x ∈ re, i64in x) (him : ∀ x ∈ im, i64in x) : Ret Tryz.prog 6 [.slice pr re.length cr, .slice pi im.length ci] w fun v w' => ∃ q1 q2 c1 c2 s1 s2, v = .tuple #[.slice q1 (smA re im).length c1, .slice q2 (smB re im).length c2, .int .i64 ((smE re im : Nat) : Int)] ∧ OwnSl 2 1 q1 (smA re im).length c1 (i64sV (smA re im)) s1 ∧ OwnSl 2 1 q2 (smB re im).length c2 (i64sV (smB re im)) s2 ∧ Hp w0 w' (s2 :: s1 :: F) := by
  refine Calls.of_J (n := 139) Tryz.func6 rfl rfl rfl ?_
  refine J.seq ?_
  have hN2 : re.length = 1 ∨ re.length = 2 ∨ re.length = 4 := by omega
  have hN : 1 ≤ re.length ∧ re.length ≤ 4 := by omega
  have hgr : ∀ j, ((re[j]?).getD (0 : Int)).natAbs ≤ 9223372036854775808 := getD_le fun x hx => by have := hre x hx; unfold i64in at this; omega
  have hgi : ∀ j, ((im[j]?).getD (0 : Int)).natAbs ≤ 9223372036854775808 := getD_le fun x hx => by have := him x hx; unfold i64in at this; omega
  have hru : ∀ k j, (smR re im k j).1.natAbs ≤ 9223372036854775808 ∧ (smR re im k j).2.natAbs ≤ 9223372036854775808 := fun k j => rot_le (hgr j) (hgi j) _
  have hsu : ∀ k j, (smU re im k j).natAbs ≤ j * 9223372036854775808 := fun k j => ssum_le (fun j => (hru k j).1) j
  have hsv : ∀ k j, (smV re im k j).natAbs ≤ j * 9223372036854775808 := fun k j => ssum_le (fun j => (hru k j).2) j
  refine J.region ?_
  refine JL.go trivial (RX.assign) ?_
  refine JL.go trivial (RX.assign) ?_
  refine JL.go trivial (RX.assign) ?_
  refine JL.nil ?_
  refine J.seq ?_
  refine J.region ?_
  refine JL.go trivial (RX.movev (v := Value.slice _ _ _) rfl) ?_
  refine JL.go trivial (RX.len_slice rfl (by rw [sl22]; rfl) rfl) ?_
  refine JL.go trivial (RX.assignv (v := Value.int _ _) rfl) ?_
  refine JL.nil ?_
  refine J.seq ?_
  refine J.seq ?_
  refine J.region ?_
  refine JL.go trivial (RX.movev (v := Value.slice _ _ _) rfl) ?_
  refine JL.go trivial (RX.len_slice rfl (by rw [sl22]; rfl) rfl) ?_
  refine JL.go trivial (RX.movev (v := Value.int _ _) rfl) ?_
  refine JL.go trivial (RX.ne rfl rfl) ?_
  refine JL.go trivial (RX.movev (v := Value.bool _) rfl) ?_
  refine JL.go ⟨_, rfl, (decide_eq_false (by omega))⟩ (RX.movev (v := Value.int _ _) rfl) ?_
  refine JL.go ⟨_, rfl, (decide_eq_false (by omega))⟩ (RX.ne rfl rfl) ?_
  refine JL.go ⟨_, rfl, (decide_eq_false (by omega))⟩ (RX.movev (v := Value.bool _) rfl) ?_
  refine JL.go ⟨_, rfl, (decide_eq_true (by omega))⟩ (RX.movev (v := Value.int _ _) rfl) ?_
  refine JL.go ⟨_, rfl, (decide_eq_true (by omega))⟩ (RX.ne rfl rfl) ?_
  refine JL.go ⟨_, rfl, (decide_eq_false (by omega))⟩ (RX.pick_t rfl (decide_eq_true (by omega))) ?_
  refine JL.go ⟨_, rfl, (decide_eq_false (by omega))⟩ (RX.movev (v := Value.bool _) rfl) ?_
  refine JL.go ⟨_, rfl, (decide_eq_true (by omega))⟩ (RX.movev (v := Value.int _ _) rfl) ?_
  refine JL.go ⟨_, rfl, (decide_eq_true (by omega))⟩ (RX.ne rfl rfl) ?_
  refine JL.go ⟨_, rfl, (decide_eq_false (by omega))⟩ (RX.pick_t rfl (decide_eq_true (by omega))) ?_
  refine JL.go trivial (RX.pick_f rfl (decide_eq_false (by omega))) ?_
  refine JL.nil ?_
  refine J.cond_f rfl (decide_eq_false (by omega)) ?_
  refine J.skip ?_
  refine J.seq ?_
  refine J.region ?_
  refine JL.does trivial (EX.buildSlice0 H elJ) ?_
  rintro _ w ⟨b0, rfl, H⟩
  refine JL.does trivial (EX.buildSlice0 H elJ) ?_
  rintro _ w ⟨b1, rfl, H⟩
  refine JL.go trivial (RX.assignv (v := Value.slice _ _ _) rfl) ?_
  refine JL.go trivial (RX.assignv (v := Value.slice _ _ _) rfl) ?_
  refine JL.nil ?_
  refine J.seq ?_
  refine J.seq ?_
  refine J.region ?_
  refine JL.go trivial (RX.assign) ?_
  refine JL.nil ?_
  refine J.block ?_
  refine J.loop (ι := Nat × List Int × Option Addr × Nat × Seg × List Int × Option Addr × Nat × Seg) (S := fun z => [(10, .int .i64 ((z.1 : Nat) : Int)), (8, .slice z.2.2.1 z.2.1.length z.2.2.2.1), (9, .slice z.2.2.2.2.2.2.1 z.2.2.2.2.2.1.length z.2.2.2.2.2.2.2.1)]) (Φ := fun z w => z.1 ≤ re.length ∧ z.2.1 = (List.range z.1).map (fun k => smU re im k re.length) ∧ z.2.2.2.2.2.1 = (List.range z.1).map (fun k => smV re im k re.length) ∧ i64all z.2.1 ∧ i64all z.2.2.2.2.2.1 ∧ OwnSl 2 1 z.2.2.1 (z.2.1).length z.2.2.2.1 (i64sV (z.2.1)) z.2.2.2.2.1 ∧ OwnSl 2 1 z.2.2.2.2.2.2.1 (z.2.2.2.2.2.1).length z.2.2.2.2.2.2.2.1 (i64sV (z.2.2.2.2.2.1)) z.2.2.2.2.2.2.2.2 ∧ Hp w0 w (z.2.2.2.2.2.2.2.2 :: z.2.2.2.2.1 :: F)) (μ := fun z => re.length - z.1) (C := [(0, _), (1, _), (7, _)]) (0, [], some ⟨b0, 0, none⟩, 0, [(b0, cel [] 2)], [], some ⟨b1, 0, none⟩, 0, [(b1, cel [] 2)]) ⟨rfl, rfl, rfl, trivial⟩ ⟨rfl, rfl, rfl, trivial⟩ ?_ ?_
  · exact ⟨by simp, rfl, rfl, i64all_nil, i64all_nil, OwnSl.empty, OwnSl.empty, H⟩
  clear H
  rintro ⟨k, o1, q1, c1, s1, o2, q2, c2, s2⟩ ρ w ⟨hk, ho1, ho2, ha1, ha2, hO1, hO2, H⟩ IH
  simp only at hk ho1 ho2 ha1 ha2 hO1 hO2 H
  have hl1 : o1.length = k := by rw [ho1]; simp
  have hl2 : o2.length = k := by rw [ho2]; simp
  dsimp only
  refine J.seq ?_
  refine J.seq ?_
  refine J.region ?_
  refine JL.go trivial (RX.movev (v := Value.int _ _) rfl) ?_
  refine JL.go trivial (RX.movev (v := Value.int _ _) rfl) ?_
  refine JL.go trivial (RX.lt rfl rfl) ?_
  refine JL.nil ?_
  refine J.cond_d rfl (fun hklt => ?_) (fun hklt => ?_)
  · skip
    refine J.skip ?_
    refine J.seq ?_
    refine J.block ?_
    refine J.seq ?_
    refine J.region ?_
    refine JL.go trivial (RX.build (pv := []) (res := [.int .u64 0, .int .u64 0, .int .u64 0]) rfl (by kernel_rfl)) ?_
    refine JL.go trivial (RX.build (pv := []) (res := [.int .u64 0, .int .u64 0, .int .u64 0]) rfl (by kernel_rfl)) ?_
    refine JL.does trivial (EX.alloc H zr52 rfl) ?_
    rintro _ w ⟨bx, rfl, H⟩
    refine JL.does trivial (EX.alloc H zr52 rfl) ?_
    rintro _ w ⟨by_, rfl, H⟩
    refine JL.does trivial (by first | exact EX.storeAgg H rfl rfl (i := 0) rfl (by simp [isCell]) (by simp) sz52 rfl rfl | exact EX.storeAgg H rfl rfl (i := 1) rfl (by simp [isCell]) (by simp) sz52 rfl rfl | exact EX.storeAgg H rfl rfl (i := 2) rfl (by simp [isCell]) (by simp) sz52 rfl rfl | exact EX.storeAgg H rfl rfl (i := 3) rfl (by simp [isCell]) (by simp) sz52 rfl rfl) ?_
    rintro _ w H
    refine JL.does trivial (by first | exact EX.storeAgg H rfl rfl (i := 0) rfl (by simp [isCell]) (by simp) sz52 rfl rfl | exact EX.storeAgg H rfl rfl (i := 1) rfl (by simp [isCell]) (by simp) sz52 rfl rfl | exact EX.storeAgg H rfl rfl (i := 2) rfl (by simp [isCell]) (by simp) sz52 rfl rfl | exact EX.storeAgg H rfl rfl (i := 3) rfl (by simp [isCell]) (by simp) sz52 rfl rfl) ?_
    rintro _ w H
    refine JL.nil ?_
    replace H : Hp w0 w ([(by_, cel (wv (0)) 52)] :: [(bx, cel (wv (0)) 52)] :: s2 :: s1 :: F) := by rw [← wv_zero]; exact H
    refine J.seq ?_
    refine J.seq ?_
    refine J.region ?_
    refine JL.go trivial (RX.assign) ?_
    refine JL.nil ?_
    refine J.block ?_
    refine J.loop (ι := Nat × Int × Int) (S := fun z => [(13, .int .i64 ((z.1 : Nat) : Int))]) (Φ := fun z w => z.1 ≤ re.length ∧ z.2.1 = smU re im k z.1 ∧ z.2.2 = smV re im k z.1 ∧ Hp w0 w ([(by_, cel (wv (z.2.2)) 52)] :: [(bx, cel (wv (z.2.1)) 52)] :: s2 :: s1 :: F)) (μ := fun z => re.length - z.1) (C := [(0, _), (1, _), (7, _), (8, _), (9, _), (10, _), (11, _), (12, _)]) (0, 0, 0) ⟨rfl, rfl, rfl, rfl, rfl, rfl, rfl, rfl, trivial⟩ ⟨rfl, trivial⟩ ?_ ?_
    · exact ⟨by simp, rfl, rfl, H⟩
    clear H
    rintro ⟨j, x, y⟩ ρ w ⟨hj, hx, hy, H⟩ IH2
    simp only at hj hx hy H
    dsimp only
    refine J.seq ?_
    refine J.seq ?_
    refine J.region ?_
    refine JL.go trivial (RX.movev (v := Value.int _ _) rfl) ?_
    refine JL.go trivial (RX.movev (v := Value.int _ _) rfl) ?_
    refine JL.go trivial (RX.lt rfl rfl) ?_
    refine JL.nil ?_
    refine J.cond_d rfl (fun hjlt => ?_) (fun hjlt => ?_)
    · skip
      obtain ⟨u, hu⟩ : ∃ u, re[j]? = some u := ⟨_, List.getElem?_eq_getElem (by omega)⟩
      obtain ⟨v, hv⟩ : ∃ v, im[j]? = some v := ⟨_, List.getElem?_eq_getElem (by omega)⟩
      obtain ⟨hu1, hu2⟩ := hre u (List.mem_of_getElem? hu)
      obtain ⟨hv1, hv2⟩ := him v (List.mem_of_getElem? hv)
      obtain ⟨qa, oa, rfl, hqa⟩ := hsr.some (by rw [i64sV_len]; omega)
      obtain ⟨qb, ob, rfl, hqb⟩ := hsi.some (by rw [i64sV_len]; omega)
      have hq4 : 4 / re.length ≤ 4 := Nat.div_le_self _ _
      have hb1 : 4 / re.length * j ≤ 4 * 3 := Nat.mul_le_mul hq4 (by omega)
      have hb2 : 4 / re.length * j * k ≤ 4 * 3 * 3 := Nat.mul_le_mul hb1 (by omega)
      have hR : smR re im k j = rot (4 * j * k / re.length % 4) (u, v) := by simp [smR, hu, hv]
      have hT3 := Nat.mod_lt (4 * j * k / re.length) (show 0 < 4 by decide)
      refine J.skip ?_
      refine J.seq ?_
      refine J.block ?_
      refine J.seq ?_
      refine J.region ?_
      refine JL.go trivial (RX.movev (v := Value.int _ _) rfl) ?_
      refine JL.go trivial (RX.quo rfl rfl (by omega) (r := ((4 / re.length : Nat) : Int)) (by rw [show (4 : Int) = ((4 : Nat) : Int) from rfl, quo_nat]; exact wi rfl (by omega))) ?_
      refine JL.go trivial (RX.movev (v := Value.int _ _) rfl) ?_
      refine JL.go trivial (RX.mul rfl rfl (wi (n := 4 / re.length * j) (Int.natCast_mul _ _).symm (by omega))) ?_
      refine JL.go trivial (RX.movev (v := Value.int _ _) rfl) ?_
      refine JL.go trivial (RX.mul rfl rfl (wi (n := 4 / re.length * j * k) (Int.natCast_mul _ _).symm (by omega))) ?_
      refine JL.go trivial (RX.rem rfl rfl (by omega) (r := ((4 * j * k / re.length % 4 : Nat) : Int)) (by rw [← rot_idx hN2]; exact rem_nat (b := 4))) ?_
      refine JL.nil ?_
      generalize 4 * j * k / re.length % 4 = T at *
      refine J.block ?_
      refine J.seq ?_
      refine J.region ?_
      refine JL.go trivial (RX.eq rfl rfl) ?_
      refine JL.go trivial (RX.assignv (v := Value.bool _) rfl) ?_
      refine JL.nil ?_
      refine J.cond_d rfl (fun k0 => ?_) (fun k0 => ?_)
      · skip
        obtain rfl : T = 0 := by omega
        refine J.any hmix fun w hs => ?_
        replace H := H.same hs; clear hs
        refine JA.stage (listed := [false, false, false, false, false, false, false, false, false, false, false, false, false, false]) 12 [0, 1, 2, 3, 4, 5, 6, 7, 8, 9, 10, 11] H (by kernel_rfl) rfl rfl ?_
        refine JI.go rfl trivial (fun w H => RX.loadAgg H rfl (i := 1) (vs := wv x) rfl (rd_wv x) ag52) ?_
        refine JI.go rfl trivial (fun w H => RX.movev (v := Value.slice _ _ _) rfl) ?_
        refine JI.go rfl trivial (fun w H => RX.movev (v := Value.int _ _) rfl) ?_
        refine JI.go rfl trivial (fun w H => RX.indexAddr rfl rfl sl22 (by omega) (by omega) (o' := oa + j) (by omega)) ?_
        refine JI.go rfl trivial (fun w H => RX.loadS H hsr.cons.cons.cons.cons rfl (j := j) rfl (v := .int .i64 u) (i64sV_get hu) one2) ?_
        refine JI.call rfl trivial (fun w H => run_callq rfl cl21 rfl) (fun w H => (plus_b (z := x) (a := u) (b := 1) H (by omega) (by omega) (by decide) (by decide))) ?_
        refine JI.go rfl trivial (fun w H => RX.loadAgg H rfl (i := 0) (vs := wv y) rfl (rd_wv y) ag52) ?_
        refine JI.go rfl trivial (fun w H => RX.movev (v := Value.slice _ _ _) rfl) ?_
        refine JI.go rfl trivial (fun w H => RX.movev (v := Value.int _ _) rfl) ?_
        refine JI.go rfl trivial (fun w H => RX.indexAddr rfl rfl sl22 (by omega) (by omega) (o' := ob + j) (by omega)) ?_
        refine JI.go rfl trivial (fun w H => RX.loadS H hsi.cons.cons.cons.cons rfl (j := j) rfl (v := .int .i64 v) (i64sV_get hv) one2) ?_
        refine JI.call rfl trivial (fun w H => run_callq rfl cl21 rfl) (fun w H => (plus_b (z := y) (a := v) (b := 1) H (by omega) (by omega) (by decide) (by decide))) ?_
        refine JI.nil fun w H => ?_
        refine JL.does trivial (EX.storeAgg H rfl rfl (i := 1) (vs := wv (x + u * (1))) rfl (wv_cell _) (by simp [wv]) sz52 rfl rfl) ?_
        rintro _ w H
        refine JL.does trivial (EX.storeAgg H rfl rfl (i := 0) (vs := wv (y + v * (1))) rfl (wv_cell _) (by simp [wv]) sz52 rfl rfl) ?_
        rintro _ w H
        refine JL.nil ?_
        replace H : Hp w0 w ([(by_, cel (wv (y + v * (1))) 52)] :: [(bx, cel (wv (x + u * (1))) 52)] :: s2 :: s1 :: F) := H
        refine J.inBlock ?_
        refine J.inBlock ?_
        refine J.region ?_
        refine JL.go trivial (RX.movev (v := Value.int _ _) rfl) ?_
        refine JL.go trivial (RX.add rfl rfl (wi (n := j + 1) (by omega) (by omega))) ?_
        refine JL.go trivial (RX.assignv (v := Value.int _ _) rfl) ?_
        refine JL.nil ?_
        refine IH2 (j + 1, x + u * (1), y + v * (1)) _ _ (by simp only; omega) ⟨rfl, rfl, rfl, rfl, rfl, rfl, rfl, rfl, trivial⟩ ⟨rfl, trivial⟩ ⟨by simp only; omega, ?_, ?_, H⟩
        · simp only
          rw [smU_succ, hR, hx]; simp only [rot]; omega
        · simp only
          rw [smV_succ, hR, hy]; simp only [rot]; omega
      · skip
        refine J.seq ?_
        refine J.region ?_
        refine JL.go trivial (RX.eq rfl rfl) ?_
        refine JL.go trivial (RX.assignv (v := Value.bool _) rfl) ?_
        refine JL.nil ?_
        refine J.cond_d rfl (fun k1 => ?_) (fun k1 => ?_)
        · skip
          obtain rfl : T = 1 := by omega
          refine J.any hmix fun w hs => ?_
          replace H := H.same hs; clear hs
          refine JA.stage (listed := [false, false, false, false, false, false, false, false, false, false, false, false, false, false]) 12 [0, 1, 2, 3, 4, 5, 6, 7, 8, 9, 10, 11] H (by kernel_rfl) rfl rfl ?_
          refine JI.go rfl trivial (fun w H => RX.loadAgg H rfl (i := 1) (vs := wv x) rfl (rd_wv x) ag52) ?_
          refine JI.go rfl trivial (fun w H => RX.movev (v := Value.slice _ _ _) rfl) ?_
          refine JI.go rfl trivial (fun w H => RX.movev (v := Value.int _ _) rfl) ?_
          refine JI.go rfl trivial (fun w H => RX.indexAddr rfl rfl sl22 (by omega) (by omega) (o' := ob + j) (by omega)) ?_
          refine JI.go rfl trivial (fun w H => RX.loadS H hsi.cons.cons.cons.cons rfl (j := j) rfl (v := .int .i64 v) (i64sV_get hv) one2) ?_
          refine JI.call rfl trivial (fun w H => run_callq rfl cl21 rfl) (fun w H => (plus_b (z := x) (a := v) (b := 1) H (by omega) (by omega) (by decide) (by decide))) ?_
          refine JI.go rfl trivial (fun w H => RX.loadAgg H rfl (i := 0) (vs := wv y) rfl (rd_wv y) ag52) ?_
          refine JI.go rfl trivial (fun w H => RX.movev (v := Value.slice _ _ _) rfl) ?_
          refine JI.go rfl trivial (fun w H => RX.movev (v := Value.int _ _) rfl) ?_
          refine JI.go rfl trivial (fun w H => RX.indexAddr rfl rfl sl22 (by omega) (by omega) (o' := oa + j) (by omega)) ?_
          refine JI.go rfl trivial (fun w H => RX.loadS H hsr.cons.cons.cons.cons rfl (j := j) rfl (v := .int .i64 u) (i64sV_get hu) one2) ?_
          refine JI.call rfl trivial (fun w H => run_callq rfl cl21 rfl) (fun w H => (plus_b (z := y) (a := u) (b := -1) H (by omega) (by omega) (by decide) (by decide))) ?_
          refine JI.nil fun w H => ?_
          refine JL.does trivial (EX.storeAgg H rfl rfl (i := 1) (vs := wv (x + v * (1))) rfl (wv_cell _) (by simp [wv]) sz52 rfl rfl) ?_
          rintro _ w H
          refine JL.does trivial (EX.storeAgg H rfl rfl (i := 0) (vs := wv (y + u * (-1))) rfl (wv_cell _) (by simp [wv]) sz52 rfl rfl) ?_
          rintro _ w H
          refine JL.nil ?_
          replace H : Hp w0 w ([(by_, cel (wv (y + u * (-1))) 52)] :: [(bx, cel (wv (x + v * (1))) 52)] :: s2 :: s1 :: F) := H
          refine J.inBlock ?_
          refine J.inBlock ?_
          refine J.region ?_
          refine JL.go trivial (RX.movev (v := Value.int _ _) rfl) ?_
          refine JL.go trivial (RX.add rfl rfl (wi (n := j + 1) (by omega) (by omega))) ?_
          refine JL.go trivial (RX.assignv (v := Value.int _ _) rfl) ?_
          refine JL.nil ?_
          refine IH2 (j + 1, x + v * (1), y + u * (-1)) _ _ (by simp only; omega) ⟨rfl, rfl, rfl, rfl, rfl, rfl, rfl, rfl, trivial⟩ ⟨rfl, trivial⟩ ⟨by simp only; omega, ?_, ?_, H⟩
          · simp only
            rw [smU_succ, hR, hx]; simp only [rot]; omega
          · simp only
            rw [smV_succ, hR, hy]; simp only [rot]; omega
        · skip
          refine J.seq ?_
          refine J.region ?_
          refine JL.go trivial (RX.eq rfl rfl) ?_
          refine JL.go trivial (RX.assignv (v := Value.bool _) rfl) ?_
          refine JL.nil ?_
          refine J.cond_d rfl (fun k2 => ?_) (fun k2 => ?_)
          · skip
            obtain rfl : T = 2 := by omega
            refine J.any hmix fun w hs => ?_
            replace H := H.same hs; clear hs
            refine JA.stage (listed := [false, false, false, false, false, false, false, false, false, false, false, false, false, false]) 12 [0, 1, 2, 3, 4, 5, 6, 7, 8, 9, 10, 11] H (by kernel_rfl) rfl rfl ?_
            refine JI.go rfl trivial (fun w H => RX.loadAgg H rfl (i := 1) (vs := wv x) rfl (rd_wv x) ag52) ?_
            refine JI.go rfl trivial (fun w H => RX.movev (v := Value.slice _ _ _) rfl) ?_
            refine JI.go rfl trivial (fun w H => RX.movev (v := Value.int _ _) rfl) ?_
            refine JI.go rfl trivial (fun w H => RX.indexAddr rfl rfl sl22 (by omega) (by omega) (o' := oa + j) (by omega)) ?_
            refine JI.go rfl trivial (fun w H => RX.loadS H hsr.cons.cons.cons.cons rfl (j := j) rfl (v := .int .i64 u) (i64sV_get hu) one2) ?_
            refine JI.call rfl trivial (fun w H => run_callq rfl cl21 rfl) (fun w H => (plus_b (z := x) (a := u) (b := -1) H (by omega) (by omega) (by decide) (by decide))) ?_
            refine JI.go rfl trivial (fun w H => RX.loadAgg H rfl (i := 0) (vs := wv y) rfl (rd_wv y) ag52) ?_
            refine JI.go rfl trivial (fun w H => RX.movev (v := Value.slice _ _ _) rfl) ?_
            refine JI.go rfl trivial (fun w H => RX.movev (v := Value.int _ _) rfl) ?_
            refine JI.go rfl trivial (fun w H => RX.indexAddr rfl rfl sl22 (by omega) (by omega) (o' := ob + j) (by omega)) ?_
            refine JI.go rfl trivial (fun w H => RX.loadS H hsi.cons.cons.cons.cons rfl (j := j) rfl (v := .int .i64 v) (i64sV_get hv) one2) ?_
            refine JI.call rfl trivial (fun w H => run_callq rfl cl21 rfl) (fun w H => (plus_b (z := y) (a := v) (b := -1) H (by omega) (by omega) (by decide) (by decide))) ?_
            refine JI.nil fun w H => ?_
            refine JL.does trivial (EX.storeAgg H rfl rfl (i := 1) (vs := wv (x + u * (-1))) rfl (wv_cell _) (by simp [wv]) sz52 rfl rfl) ?_
            rintro _ w H
            refine JL.does trivial (EX.storeAgg H rfl rfl (i := 0) (vs := wv (y + v * (-1))) rfl (wv_cell _) (by simp [wv]) sz52 rfl rfl) ?_
            rintro _ w H
            refine JL.nil ?_
            replace H : Hp w0 w ([(by_, cel (wv (y + v * (-1))) 52)] :: [(bx, cel (wv (x + u * (-1))) 52)] :: s2 :: s1 :: F) := H
            refine J.inBlock ?_
            refine J.inBlock ?_
            refine J.region ?_
            refine JL.go trivial (RX.movev (v := Value.int _ _) rfl) ?_
            refine JL.go trivial (RX.add rfl rfl (wi (n := j + 1) (by omega) (by omega))) ?_
            refine JL.go trivial (RX.assignv (v := Value.int _ _) rfl) ?_
            refine JL.nil ?_
            refine IH2 (j + 1, x + u * (-1), y + v * (-1)) _ _ (by simp only; omega) ⟨rfl, rfl, rfl, rfl, rfl, rfl, rfl, rfl, trivial⟩ ⟨rfl, trivial⟩ ⟨by simp only; omega, ?_, ?_, H⟩
            · simp only
              rw [smU_succ, hR, hx]; simp only [rot]; omega
            · simp only
              rw [smV_succ, hR, hy]; simp only [rot]; omega
          · skip
            refine J.seq ?_
            refine J.region ?_
            refine JL.go trivial (RX.eq rfl rfl) ?_
            refine JL.go trivial (RX.assignv (v := Value.bool _) rfl) ?_
            refine JL.nil ?_
            refine J.cond_d rfl (fun k3 => ?_) (fun k3 => ?_)
            · skip
              obtain rfl : T = 3 := by omega
              refine J.any hmix fun w hs => ?_
              replace H := H.same hs; clear hs
              refine JA.stage (listed := [false, false, false, false, false, false, false, false, false, false, false, false, false, false]) 12 [0, 1, 2, 3, 4, 5, 6, 7, 8, 9, 10, 11] H (by kernel_rfl) rfl rfl ?_
              refine JI.go rfl trivial (fun w H => RX.loadAgg H rfl (i := 1) (vs := wv x) rfl (rd_wv x) ag52) ?_
              refine JI.go rfl trivial (fun w H => RX.movev (v := Value.slice _ _ _) rfl) ?_
              refine JI.go rfl trivial (fun w H => RX.movev (v := Value.int _ _) rfl) ?_
              refine JI.go rfl trivial (fun w H => RX.indexAddr rfl rfl sl22 (by omega) (by omega) (o' := ob + j) (by omega)) ?_
              refine JI.go rfl trivial (fun w H => RX.loadS H hsi.cons.cons.cons.cons rfl (j := j) rfl (v := .int .i64 v) (i64sV_get hv) one2) ?_
              refine JI.call rfl trivial (fun w H => run_callq rfl cl21 rfl) (fun w H => (plus_b (z := x) (a := v) (b := -1) H (by omega) (by omega) (by decide) (by decide))) ?_
              refine JI.go rfl trivial (fun w H => RX.loadAgg H rfl (i := 0) (vs := wv y) rfl (rd_wv y) ag52) ?_
              refine JI.go rfl trivial (fun w H => RX.movev (v := Value.slice _ _ _) rfl) ?_
              refine JI.go rfl trivial (fun w H => RX.movev (v := Value.int _ _) rfl) ?_
              refine JI.go rfl trivial (fun w H => RX.indexAddr rfl rfl sl22 (by omega) (by omega) (o' := oa + j) (by omega)) ?_
              refine JI.go rfl trivial (fun w H => RX.loadS H hsr.cons.cons.cons.cons rfl (j := j) rfl (v := .int .i64 u) (i64sV_get hu) one2) ?_
              refine JI.call rfl trivial (fun w H => run_callq rfl cl21 rfl) (fun w H => (plus_b (z := y) (a := u) (b := 1) H (by omega) (by omega) (by decide) (by decide))) ?_
              refine JI.nil fun w H => ?_
              refine JL.does trivial (EX.storeAgg H rfl rfl (i := 1) (vs := wv (x + v * (-1))) rfl (wv_cell _) (by simp [wv]) sz52 rfl rfl) ?_
              rintro _ w H
              refine JL.does trivial (EX.storeAgg H rfl rfl (i := 0) (vs := wv (y + u * (1))) rfl (wv_cell _) (by simp [wv]) sz52 rfl rfl) ?_
              rintro _ w H
              refine JL.nil ?_
              replace H : Hp w0 w ([(by_, cel (wv (y + u * (1))) 52)] :: [(bx, cel (wv (x + v * (-1))) 52)] :: s2 :: s1 :: F) := H
              refine J.inBlock ?_
              refine J.inBlock ?_
              refine J.region ?_
              refine JL.go trivial (RX.movev (v := Value.int _ _) rfl) ?_
              refine JL.go trivial (RX.add rfl rfl (wi (n := j + 1) (by omega) (by omega))) ?_
              refine JL.go trivial (RX.assignv (v := Value.int _ _) rfl) ?_
              refine JL.nil ?_
              refine IH2 (j + 1, x + v * (-1), y + u * (1)) _ _ (by simp only; omega) ⟨rfl, rfl, rfl, rfl, rfl, rfl, rfl, rfl, trivial⟩ ⟨rfl, trivial⟩ ⟨by simp only; omega, ?_, ?_, H⟩
              · simp only
                rw [smU_succ, hR, hx]; simp only [rot]; omega
              · simp only
                rw [smV_succ, hR, hy]; simp only [rot]; omega
            · skip
              exfalso
              omega
    · skip
      obtain rfl : j = re.length := by omega
      have hsu1 := hsu k re.length
      have hsv1 := hsv k re.length
      rw [← hx] at hsu1
      rw [← hy] at hsv1
      have hj4 : re.length * 9223372036854775808 ≤ 4 * 9223372036854775808 := Nat.mul_le_mul (by omega) (Nat.le_refl _)
      refine J.exit rfl ?_
      refine J.seq ?_
      refine J.region ?_
      refine JL.go trivial (RX.loadAgg H rfl (i := 1) (vs := wv x) rfl (rd_wv x) ag52) ?_
      refine JL.does trivial (EX.call rfl cl22 rfl ((fits_b (z := x) H (by omega)))) ?_
      rintro _ w ⟨rfl, H⟩
      refine JL.go trivial (RX.movev (v := .tuple _) rfl) ?_
      refine JL.go trivial (RX.extract rfl rfl) ?_
      refine JL.go trivial (RX.extract rfl rfl) ?_
      refine JL.go trivial (RX.assignv (v := Value.int _ _) rfl) ?_
      refine JL.go trivial (RX.assignv (v := Value.bool _) rfl) ?_
      refine JL.nil ?_
      refine J.seq ?_
      refine J.region ?_
      refine JL.go trivial (RX.loadAgg H rfl (i := 0) (vs := wv y) rfl (rd_wv y) ag52) ?_
      refine JL.does trivial (EX.call rfl cl22 rfl ((fits_b (z := y) H (by omega)))) ?_
      rintro _ w ⟨rfl, H⟩
      refine JL.go trivial (RX.movev (v := .tuple _) rfl) ?_
      refine JL.go trivial (RX.extract rfl rfl) ?_
      refine JL.go trivial (RX.extract rfl rfl) ?_
      refine JL.go trivial (RX.assignv (v := Value.int _ _) rfl) ?_
      refine JL.go trivial (RX.assignv (v := Value.bool _) rfl) ?_
      refine JL.nil ?_
      refine J.seq ?_
      refine J.seq ?_
      refine J.region ?_
      refine JL.go trivial (RX.movev (v := Value.bool _) rfl) ?_
      refine JL.go trivial (RX.not rfl) ?_
      refine JL.go trivial (RX.movev (v := Value.bool _) rfl) ?_
      refine JL.splitS 125 rfl (fun hg => ?_) (fun hg => ?_)
      · skip
        first | have hgp := of_decide_eq_true hg | skip
        have hno : ¬ i64in x := by simpa using hg
        refine JL.no ⟨_, rfl, gno hg⟩ ?_
        refine JL.no ⟨_, rfl, gno hg⟩ ?_
        refine JL.go trivial (RX.pick_t rfl hg) ?_
        refine JL.nil ?_
        refine J.cond_t rfl rfl ?_
        refine J.seq ?_
        refine J.region ?_
        refine JL.go trivial (RX.assign) ?_
        refine JL.go trivial (RX.assign) ?_
        refine JL.go trivial (RX.assign) ?_
        refine JL.nil ?_
        refine J.ret3 (v := Value.slice _ _ _) (x := Value.slice _ _ _) (y := Value.int _ _) Tryz.func6 rfl rfl rfl rfl ?_
        have he : smE re im = 19 := smE_19 hm hN2 (.inl (not_all (f := fun k => smU re im k re.length) (k := k) (by omega) (by rw [← hx]; exact hno)))
        refine ⟨_, rfl, ?_⟩
        unfold smA smB
        rw [he]
        exact ⟨none, none, 0, 0, [], [], rfl, OwnSl.nil, OwnSl.nil, H.drop.drop.drop.drop.nil.nil⟩
      · skip
        first | have hgp := of_decide_eq_false hg | skip
        have hyx : i64in x := by simpa using hg
        refine JL.go ⟨_, rfl, hg⟩ (RX.movev (v := Value.bool _) rfl) ?_
        refine JL.go ⟨_, rfl, hg⟩ (RX.not rfl) ?_
        refine JL.go trivial (RX.pick_f rfl hg) ?_
        refine JL.nil ?_
        refine J.cond rfl (fun hc => ?_) (fun hc => ?_)
        · skip
          have hno : ¬ i64in y := by simpa using hc
          refine J.seq ?_
          refine J.region ?_
          refine JL.go trivial (RX.assign) ?_
          refine JL.go trivial (RX.assign) ?_
          refine JL.go trivial (RX.assign) ?_
          refine JL.nil ?_
          refine J.ret3 (v := Value.slice _ _ _) (x := Value.slice _ _ _) (y := Value.int _ _) Tryz.func6 rfl rfl rfl rfl ?_
          have he : smE re im = 19 := smE_19 hm hN2 (.inr (not_all (f := fun k => smV re im k re.length) (k := k) (by omega) (by rw [← hy]; exact hno)))
          refine ⟨_, rfl, ?_⟩
          unfold smA smB
          rw [he]
          exact ⟨none, none, 0, 0, [], [], rfl, OwnSl.nil, OwnSl.nil, H.drop.drop.drop.drop.nil.nil⟩
        · skip
          have hyy : i64in y := by simpa using hc
          rw [fits_val hyx, fits_val hyy]
          refine J.skip ?_
          refine J.seq ?_
          replace H := H.drop.drop
          refine J.region ?_
          refine JL.go trivial (RX.movev (v := Value.slice _ _ _) rfl) ?_
          refine JL.go trivial (RX.movev (v := Value.int _ _) rfl) ?_
          refine JL.does trivial (EX.buildSlice1 H elJ rfl rfl) ?_
          rintro _ w ⟨bz, rfl, H⟩
          refine JL.does trivial (EX.append (ys := [.int .i64 x]) (L' := fun s' => [(bz, cel [.int .i64 x] 2)] :: s2 :: s' :: F) H elJ rfl rfl (i := 2) rfl hO1 (SlAt.here rfl) rfl (i64s_cell [x]) (by decide) (by omega) (by omega) (fun _ => rfl)) ?_
          rintro _ w ⟨p3, c3, s3, rfl, ho3, H⟩
          replace ho3 : OwnSl 2 1 p3 (o1 ++ [x]).length c3 (i64sV (o1 ++ [x])) s3 := by rw [List.length_append, i64sV_app]; exact ho3
          replace H := H.drop
          refine JL.go trivial (RX.assignv (v := Value.slice _ _ _) rfl) ?_
          refine JL.nil ?_
          refine J.region ?_
          refine JL.go trivial (RX.movev (v := Value.slice _ _ _) rfl) ?_
          refine JL.go trivial (RX.movev (v := Value.int _ _) rfl) ?_
          refine JL.does trivial (EX.buildSlice1 H elJ rfl rfl) ?_
          rintro _ w ⟨bz2, rfl, H⟩
          refine JL.does trivial (EX.append (ys := [.int .i64 y]) (L' := fun s' => [(bz2, cel [.int .i64 y] 2)] :: s' :: s3 :: F) H elJ rfl rfl (i := 1) rfl hO2 (SlAt.here rfl) rfl (i64s_cell [y]) (by decide) (by omega) (by omega) (fun _ => rfl)) ?_
          rintro _ w ⟨p4, c4, s4, rfl, ho4, H⟩
          replace ho4 : OwnSl 2 1 p4 (o2 ++ [y]).length c4 (i64sV (o2 ++ [y])) s4 := by rw [List.length_append, i64sV_app]; exact ho4
          replace H := H.drop
          refine JL.go trivial (RX.assignv (v := Value.slice _ _ _) rfl) ?_
          refine JL.nil ?_
          refine J.inBlock ?_
          refine J.region ?_
          refine JL.go trivial (RX.movev (v := Value.int _ _) rfl) ?_
          refine JL.go trivial (RX.add rfl rfl (wi (n := k + 1) (by omega) (by omega))) ?_
          refine JL.go trivial (RX.assignv (v := Value.int _ _) rfl) ?_
          refine JL.nil ?_
          refine IH (k + 1, o1 ++ [x], p3, c3, s3, o2 ++ [y], p4, c4, s4) _ _ (by simp only; omega) ⟨rfl, rfl, rfl, trivial⟩ ⟨rfl, by simp only [List.length_append]; rfl, by simp only [List.length_append]; rfl, trivial⟩ ⟨by simp only; omega, ?_, ?_, i64all_snoc ha1 hyx, i64all_snoc ha2 hyy, ho3, ho4, H⟩
          · simp only
            rw [List.range_succ, List.map_append, ← ho1, hx]; rfl
          · simp only
            rw [List.range_succ, List.map_append, ← ho2, hy]; rfl
  · skip
    obtain rfl : k = re.length := by omega
    refine J.exit rfl ?_
    refine J.seq ?_
    refine J.region ?_
    refine JL.go trivial (RX.movev (v := Value.slice _ _ _) rfl) ?_
    refine JL.go trivial (RX.movev (v := Value.slice _ _ _) rfl) ?_
    refine JL.go trivial (RX.assignv (v := Value.slice _ _ _) rfl) ?_
    refine JL.go trivial (RX.assignv (v := Value.slice _ _ _) rfl) ?_
    refine JL.go trivial (RX.assign) ?_
    refine JL.nil ?_
    refine J.ret3 (v := Value.slice _ _ _) (x := Value.slice _ _ _) (y := Value.int _ _) Tryz.func6 rfl rfl rfl rfl ?_
    have e1 : o1 = smA0 re im := ho1
    have e2 : o2 = smB0 re im := ho2
    have he : smE re im = 0 := smE_0 hm hN2 (e1 ▸ ha1) (e2 ▸ ha2)
    refine ⟨_, rfl, ?_⟩
    unfold smA smB
    rw [he, if_pos rfl, if_pos rfl, ← e1, ← e2]
    exact ⟨_, _, _, _, _, _, rfl, hO1, hO2, H⟩
end Go.Proofs.YtkgbdiahmamolaaGreatDoorBesafter

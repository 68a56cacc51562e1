/- Small: the transform of one, two or four whole numbers. -/
import Derived.Test.YtfpphoapknecfaaGreatDoorBesafterZn
namespace Go.Proofs.YtfpphoapknecfaaGreatDoorBesafter
open Go Go.Eng
set_option maxRecDepth 100000
set_option linter.unusedVariables false
set_option linter.unusedSimpArgs false
theorem cl23 : callable Tryz.prog 23 = true := by kernel_rfl
def rot : Nat → Int × Int → Int × Int
  | 0, p => p
  | t + 1, p => ((rot t p).2, -(rot t p).1)
def ssum (f : Nat → Int) : Nat → Int
  | 0 => 0
  | j + 1 => ssum f j + f j
def smR (re im : List Int) (k j : Nat) : Int × Int := rot (4 * j * k / re.length % 4) ((re[j]?).getD 0, (im[j]?).getD 0)
def smU (re im : List Int) (k j : Nat) : Int := ssum (fun j => (smR re im k j).1) j
def smV (re im : List Int) (k j : Nat) : Int := ssum (fun j => (smR re im k j).2) j
theorem rot_le {B : Nat} {p : Int × Int} (h1 : p.1.natAbs ≤ B) (h2 : p.2.natAbs ≤ B) : ∀ t, (rot t p).1.natAbs ≤ B ∧ (rot t p).2.natAbs ≤ B
  | 0 => ⟨h1, h2⟩
  | t + 1 => by
    obtain ⟨k1, k2⟩ := rot_le h1 h2 t
    exact ⟨k2, by simp only [rot, Int.natAbs_neg]; exact k1⟩
theorem ssum_le {B : Nat} {f : Nat → Int} (h : ∀ j, (f j).natAbs ≤ B) : ∀ m, (ssum f m).natAbs ≤ m * B
  | 0 => by simp [ssum]
  | m + 1 => by
    have h1 := ssum_le h m
    have h2 := h m
    have h3 : (ssum f m + f m).natAbs ≤ (ssum f m).natAbs + (f m).natAbs := Int.natAbs_add_le _ _
    rw [Nat.succ_mul]; simp only [ssum]; omega
theorem sm_init {i k : Nat} {a b : Int} (h : b = 0) : (if i < k then a else 0) = if i = k then b else if i < k then a else 0 := by
  by_cases e : i = k
  · subst e; rw [if_neg (by omega), if_pos rfl, h]
  · rw [if_neg e]
theorem getD_le {l : List Int} {B : Nat} (h : ∀ x ∈ l, x.natAbs ≤ B) (j : Nat) : ((l[j]?).getD 0).natAbs ≤ B := by
  cases e : l[j]? with
  | none => simp
  | some x => exact h x (List.mem_of_getElem? e)
def i64all (l : List Int) : Prop := ∀ x ∈ l, i64in x
instance {l : List Int} : Decidable (i64all l) := inferInstanceAs (Decidable (∀ x ∈ l, i64in x))
def smA0 (re im : List Int) : List Int := (List.range re.length).map fun k => smU re im k re.length
def smB0 (re im : List Int) : List Int := (List.range re.length).map fun k => smV re im k re.length
/-- The error's number. -/
def smE (re im : List Int) : Nat := if im.length = re.length ∧ (re.length = 1 ∨ re.length = 2 ∨ re.length = 4) then (if i64all (smA0 re im) ∧ i64all (smB0 re im) then 0 else 19) else 7
def smA (re im : List Int) : List Int := if smE re im = 0 then smA0 re im else []
def smB (re im : List Int) : List Int := if smE re im = 0 then smB0 re im else []
theorem none_two {w0 w : World} {a b : Seg} {A B F : List Seg} (H : Hp w0 w (b :: (B ++ (a :: (A ++ F))))) : Hp w0 w (a :: b :: (A ++ (B ++ F))) :=
  perm_of_flatten H (by
    simp only [List.flatten_cons, List.flatten_append]
    refine (List.Perm.append_left _ (List.perm_append_comm_assoc _ _ _)).trans ?_
    refine (List.perm_append_comm_assoc _ _ _).trans ?_
    exact List.Perm.append_left _ (List.Perm.append_left _ (List.perm_append_comm_assoc _ _ _)))
theorem whole_u {w0 w : World} {L : List Seg} {E : Nat → Value} {Q : Nat → Addr} (H : Hp w0 w L) (hE : Errs L E Q) {Zs : List Zn} {n : Nat} {f : Nat → Int} {b c : Nat} (hs : SlAt L (some ⟨b, 0, none⟩) (Zs.map Zn.p)) (hm : ∀ z ∈ Zs, z.seg ∈ L) (hZ : RowZ Zs n f) (hn : n ≤ 1048576) :
    Ret Tryz.prog 25 [.slice (some ⟨b, 0, none⟩) n c] w fun v w' => ∃ p m c e sl, v = .tuple #[.slice p m c, errV E e] ∧ e ≤ 19 ∧ ((e = 0 ∧ i64all ((List.range n).map f) ∧ ∃ b, p = some ⟨b, 0, none⟩ ∧ m = n ∧ c = n ∧ sl = [(b, cel (i64sV ((List.range n).map f)) 2)]) ∨ (e = 19 ∧ ¬ i64all ((List.range n).map f))) ∧ Hp w0 w' (sl :: L) := by
  have hl : Zs.length = n := hZ.1
  have hv := hZ.vals
  have hall : (∀ z ∈ Zs, i64in z.v) ↔ i64all ((List.range n).map f) := by
    rw [← hv]; unfold i64all; simp
  have h := whole_b (c := c) H hE hs hm hZ.oks (by omega)
  rw [hl] at h
  refine Ret.mono h ?_
  rintro v w' (⟨h1, b1, rfl, H⟩ | ⟨h1, rfl, H⟩)
  · rw [hv] at H
    exact ⟨_, _, _, 0, _, rfl, by decide, .inl ⟨rfl, hall.1 h1, b1, rfl, rfl, rfl, rfl⟩, H⟩
  · exact ⟨_, _, _, 19, [], rfl, by decide, .inr ⟨rfl, fun h => h1 (hall.2 h)⟩, H.nil⟩
theorem ownI {b : Nat} (ys : List Int) : OwnSl 2 1 (some ⟨b, 0, none⟩) ys.length ys.length (i64sV ys) [(b, cel (i64sV ys) 2)] :=
  ⟨by simp [i64sV], .inr ⟨b, i64sV ys, rfl, rfl, Nat.le_refl _, by simp [i64sV], by simp [i64sV, List.take_of_length_le]⟩⟩

set_option maxHeartbeats 1600000 in
theorem small_e1 {w0 w : World} {F : List Seg} {E : Nat → Value} {Q : Nat → Addr} (H : Hp w0 w F) (hE : Errs F E Q) {re im : List Int} {pr pi : Option Addr} {cr ci : Nat} (hsr : SlAt F pr (i64sV re)) (hsi : SlAt F pi (i64sV im)) (h : im.length ≠ re.length) (hl : re.length ≤ 4611686018427387904) (hl2 : im.length ≤ 4611686018427387904) : Ret Tryz.prog 13 [.slice pr re.length cr, .slice pi im.length ci] w fun v w' => ∃ q1 q2 c1 c2 s1 s2, v = .tuple #[.slice q1 (smA re im).length c1, .slice q2 (smB re im).length c2, errV E (smE re im)] ∧ OwnSl 2 1 q1 (smA re im).length c1 (i64sV (smA re im)) s1 ∧ OwnSl 2 1 q2 (smB re im).length c2 (i64sV (smB re im)) s2 ∧ Hp w0 w' (s2 :: s1 :: F) := by
  refine Calls.of_J (n := 114) Tryz.func13 rfl rfl rfl ?_
  refine J.seq ?_
  have he : smE re im = 7 := if_neg (by omega)
  refine J.region ?_
  refine JL.go trivial (RX.assign) ?_
  refine JL.go trivial (RX.assign) ?_
  refine JL.go trivial (RX.assign) ?_
  refine JL.nil ?_
  refine J.seq ?_
  refine J.region ?_
  refine JL.go trivial (RX.movev (v := Value.slice _ _ _) rfl) ?_
  refine JL.go trivial (RX.len_slice rfl (by rw [sl22]; rfl) rfl) ?_
  refine JL.go trivial (RX.assignv (v := Value.int _ _) rfl) ?_
  refine JL.nil ?_
  refine J.seq ?_
  refine J.seq ?_
  refine J.region ?_
  refine JL.go trivial (RX.movev (v := Value.slice _ _ _) rfl) ?_
  refine JL.go trivial (RX.len_slice rfl (by rw [sl22]; rfl) rfl) ?_
  refine JL.go trivial (RX.movev (v := Value.int _ _) rfl) ?_
  refine JL.go trivial (RX.ne rfl rfl) ?_
  refine JL.go trivial (RX.movev (v := Value.bool _) rfl) ?_
  refine JL.no ⟨_, rfl, gno (decide_eq_true (by omega))⟩ ?_
  refine JL.no ⟨_, rfl, gno (decide_eq_true (by omega))⟩ ?_
  refine JL.no ⟨_, rfl, gno (decide_eq_true (by omega))⟩ ?_
  refine JL.no ⟨_, rfl, nofun⟩ ?_
  refine JL.no ⟨_, rfl, nofun⟩ ?_
  refine JL.no ⟨_, rfl, gno (decide_eq_true (by omega))⟩ ?_
  refine JL.no ⟨_, rfl, gno (decide_eq_true (by omega))⟩ ?_
  refine JL.no ⟨_, rfl, nofun⟩ ?_
  refine JL.no ⟨_, rfl, nofun⟩ ?_
  refine JL.no ⟨_, rfl, gno (decide_eq_true (by omega))⟩ ?_
  refine JL.go trivial (RX.pick_t rfl (decide_eq_true (by omega))) ?_
  refine JL.nil ?_
  refine J.cond_t rfl rfl ?_
  refine J.seq ?_
  refine J.quietH H hmix (by kernel_rfl) ?_
  refine JQ.go trivial (fun w H => RX.loadG H rfl (hE.at_ 7 (by decide) (by decide)).at_ one25) ?_
  refine JQ.go trivial (fun w H => RX.assign) ?_
  refine JQ.go trivial (fun w H => RX.assign) ?_
  refine JQ.go trivial (fun w H => RX.assignv (v := E 7) rfl) ?_
  refine JQ.nil fun w H => ?_
  refine J.ret3 (v := Value.slice _ _ _) Tryz.func13 rfl rfl rfl rfl ?_
  refine ⟨_, rfl, ?_⟩
  unfold smA smB
  rw [he]
  exact ⟨none, none, 0, 0, [], [], rfl, OwnSl.nil, OwnSl.nil, H.nil.nil⟩
set_option maxHeartbeats 1600000 in
theorem small_e2 {w0 w : World} {F : List Seg} {E : Nat → Value} {Q : Nat → Addr} (H : Hp w0 w F) (hE : Errs F E Q) {re im : List Int} {pr pi : Option Addr} {cr ci : Nat} (hsr : SlAt F pr (i64sV re)) (hsi : SlAt F pi (i64sV im)) (h : im.length = re.length) (h1 : re.length ≠ 1) (h2 : re.length ≠ 2) (h4 : re.length ≠ 4) (hl : re.length ≤ 4611686018427387904) : Ret Tryz.prog 13 [.slice pr re.length cr, .slice pi im.length ci] w fun v w' => ∃ q1 q2 c1 c2 s1 s2, v = .tuple #[.slice q1 (smA re im).length c1, .slice q2 (smB re im).length c2, errV E (smE re im)] ∧ OwnSl 2 1 q1 (smA re im).length c1 (i64sV (smA re im)) s1 ∧ OwnSl 2 1 q2 (smB re im).length c2 (i64sV (smB re im)) s2 ∧ Hp w0 w' (s2 :: s1 :: F) := by
  refine Calls.of_J (n := 114) Tryz.func13 rfl rfl rfl ?_
  refine J.seq ?_
  have he : smE re im = 7 := if_neg (by omega)
  refine J.region ?_
  refine JL.go trivial (RX.assign) ?_
  refine JL.go trivial (RX.assign) ?_
  refine JL.go trivial (RX.assign) ?_
  refine JL.nil ?_
  refine J.seq ?_
  refine J.region ?_
  refine JL.go trivial (RX.movev (v := Value.slice _ _ _) rfl) ?_
  refine JL.go trivial (RX.len_slice rfl (by rw [sl22]; rfl) rfl) ?_
  refine JL.go trivial (RX.assignv (v := Value.int _ _) rfl) ?_
  refine JL.nil ?_
  refine J.seq ?_
  refine J.seq ?_
  refine J.region ?_
  refine JL.go trivial (RX.movev (v := Value.slice _ _ _) rfl) ?_
  refine JL.go trivial (RX.len_slice rfl (by rw [sl22]; rfl) rfl) ?_
  refine JL.go trivial (RX.movev (v := Value.int _ _) rfl) ?_
  refine JL.go trivial (RX.ne rfl rfl) ?_
  refine JL.go trivial (RX.movev (v := Value.bool _) rfl) ?_
  refine JL.go ⟨_, rfl, (decide_eq_false (by omega))⟩ (RX.movev (v := Value.int _ _) rfl) ?_
  refine JL.go ⟨_, rfl, (decide_eq_false (by omega))⟩ (RX.ne rfl rfl) ?_
  refine JL.go ⟨_, rfl, (decide_eq_false (by omega))⟩ (RX.movev (v := Value.bool _) rfl) ?_
  refine JL.go ⟨_, rfl, (decide_eq_true (by omega))⟩ (RX.movev (v := Value.int _ _) rfl) ?_
  refine JL.go ⟨_, rfl, (decide_eq_true (by omega))⟩ (RX.ne rfl rfl) ?_
  refine JL.go ⟨_, rfl, (decide_eq_false (by omega))⟩ (RX.pick_t rfl (decide_eq_true (by omega))) ?_
  refine JL.go ⟨_, rfl, (decide_eq_false (by omega))⟩ (RX.movev (v := Value.bool _) rfl) ?_
  refine JL.go ⟨_, rfl, (decide_eq_true (by omega))⟩ (RX.movev (v := Value.int _ _) rfl) ?_
  refine JL.go ⟨_, rfl, (decide_eq_true (by omega))⟩ (RX.ne rfl rfl) ?_
  refine JL.go ⟨_, rfl, (decide_eq_false (by omega))⟩ (RX.pick_t rfl (decide_eq_true (by omega))) ?_
  refine JL.go trivial (RX.pick_f rfl (decide_eq_false (by omega))) ?_
  refine JL.nil ?_
  refine J.cond_t rfl (decide_eq_true (by omega)) ?_
  refine J.seq ?_
  refine J.quietH H hmix (by kernel_rfl) ?_
  refine JQ.go trivial (fun w H => RX.loadG H rfl (hE.at_ 7 (by decide) (by decide)).at_ one25) ?_
  refine JQ.go trivial (fun w H => RX.assign) ?_
  refine JQ.go trivial (fun w H => RX.assign) ?_
  refine JQ.go trivial (fun w H => RX.assignv (v := E 7) rfl) ?_
  refine JQ.nil fun w H => ?_
  refine J.ret3 (v := Value.slice _ _ _) Tryz.func13 rfl rfl rfl rfl ?_
  refine ⟨_, rfl, ?_⟩
  unfold smA smB
  rw [he]
  exact ⟨none, none, 0, 0, [], [], rfl, OwnSl.nil, OwnSl.nil, H.nil.nil⟩
set_option maxHeartbeats 1600000 in
theorem small1_b {w0 w : World} {F : List Seg} {E : Nat → Value} {Q : Nat → Addr} (H : Hp w0 w F) (hE : Errs F E Q) {re im : List Int} {pr pi : Option Addr} {cr ci : Nat} (hsr : SlAt F pr (i64sV re)) (hsi : SlAt F pi (i64sV im)) (hn : re.length = 1) (hm : im.length = re.length) (hre : ∀ x ∈ re, x.natAbs ≤ 9223372036854775808) (him : ∀ x ∈ im, x.natAbs ≤ 9223372036854775808) : Ret Tryz.prog 13 [.slice pr re.length cr, .slice pi im.length ci] w fun v w' => ∃ q1 q2 c1 c2 s1 s2, v = .tuple #[.slice q1 (smA re im).length c1, .slice q2 (smB re im).length c2, errV E (smE re im)] ∧ OwnSl 2 1 q1 (smA re im).length c1 (i64sV (smA re im)) s1 ∧ OwnSl 2 1 q2 (smB re im).length c2 (i64sV (smB re im)) s2 ∧ Hp w0 w' (s2 :: s1 :: F) := by
  refine Calls.of_J (n := 114) Tryz.func13 rfl rfl rfl ?_
  refine J.seq ?_
  have hFL : ∀ {X F : List Seg} {p : Option Addr} {xs : List Value}, SlAt F p xs → SlAt (X ++ F) p xs := fun h => h.perm fun e he => mem_app he
  have hE2 : ∀ X : List Seg, Errs (X ++ F) E Q := fun X => hE.sub fun e he => mem_app he
  have hN : 1 ≤ re.length ∧ re.length ≤ 4 := by omega
  have hru : ∀ k j, (smR re im k j).1.natAbs ≤ 9223372036854775808 ∧ (smR re im k j).2.natAbs ≤ 9223372036854775808 := fun k j => rot_le (getD_le hre j) (getD_le him j) _
  have hsu : ∀ k j, (smU re im k j).natAbs ≤ j * 9223372036854775808 := fun k j => ssum_le (fun j => (hru k j).1) j
  have hsv : ∀ k j, (smV re im k j).natAbs ≤ j * 9223372036854775808 := fun k j => ssum_le (fun j => (hru k j).2) j
  refine J.region ?_
  refine JL.go trivial (RX.assign) ?_
  refine JL.go trivial (RX.assign) ?_
  refine JL.go trivial (RX.assign) ?_
  refine JL.nil ?_
  refine J.seq ?_
  refine J.region ?_
  refine JL.go trivial (RX.movev (v := Value.slice _ _ _) rfl) ?_
  refine JL.go trivial (RX.len_slice rfl (by rw [sl22]; rfl) rfl) ?_
  refine JL.go trivial (RX.assignv (v := Value.int _ _) rfl) ?_
  refine JL.nil ?_
  refine J.seq ?_
  refine J.seq ?_
  refine J.region ?_
  refine JL.go trivial (RX.movev (v := Value.slice _ _ _) rfl) ?_
  refine JL.go trivial (RX.len_slice rfl (by rw [sl22]; rfl) rfl) ?_
  refine JL.go trivial (RX.movev (v := Value.int _ _) rfl) ?_
  refine JL.go trivial (RX.ne rfl rfl) ?_
  refine JL.go trivial (RX.movev (v := Value.bool _) rfl) ?_
  refine JL.go ⟨_, rfl, (decide_eq_false (by omega))⟩ (RX.movev (v := Value.int _ _) rfl) ?_
  refine JL.go ⟨_, rfl, (decide_eq_false (by omega))⟩ (RX.ne rfl rfl) ?_
  refine JL.go ⟨_, rfl, (decide_eq_false (by omega))⟩ (RX.movev (v := Value.bool _) rfl) ?_
  refine JL.no ⟨_, rfl, gno (decide_eq_false (by omega))⟩ ?_
  refine JL.no ⟨_, rfl, gno (decide_eq_false (by omega))⟩ ?_
  refine JL.go ⟨_, rfl, (decide_eq_false (by omega))⟩ (RX.pick_f rfl (decide_eq_false (by omega))) ?_
  refine JL.go ⟨_, rfl, (decide_eq_false (by omega))⟩ (RX.movev (v := Value.bool _) rfl) ?_
  refine JL.no ⟨_, rfl, gno rfl⟩ ?_
  refine JL.no ⟨_, rfl, gno rfl⟩ ?_
  refine JL.go ⟨_, rfl, (decide_eq_false (by omega))⟩ (RX.pick_f rfl rfl) ?_
  refine JL.go trivial (RX.pick_f rfl (decide_eq_false (by omega))) ?_
  refine JL.nil ?_
  refine J.cond_f rfl rfl ?_
  refine J.skip ?_
  refine J.seq ?_
  refine J.region ?_
  refine JL.go trivial (RX.movev (v := Value.int _ _) rfl) ?_
  refine JL.does trivial (EX.call rfl cl21 rfl ((none_b H (by omega)))) ?_
  rintro _ w ⟨bu, Us, rfl, hU, H⟩
  refine JL.go trivial (RX.movev (v := Value.int _ _) rfl) ?_
  refine JL.does trivial (EX.call rfl cl21 rfl ((none_b H (by omega)))) ?_
  rintro _ w ⟨bv, Vs, rfl, hV, H⟩
  replace H := none_two H
  refine JL.go trivial (RX.assignv (v := Value.slice _ _ _) rfl) ?_
  refine JL.go trivial (RX.assignv (v := Value.slice _ _ _) rfl) ?_
  refine JL.nil ?_
  refine J.seq ?_
  refine J.seq ?_
  refine J.region ?_
  refine JL.go trivial (RX.movev (v := Value.int _ _) rfl) ?_
  refine JL.go trivial (RX.move) ?_
  refine JL.nil ?_
  refine J.block ?_
  refine J.loop (ι := Nat × List Zn × List Zn) (S := fun z => [(42, .int .i64 ((z.1 : Nat) : Int))]) (Φ := fun z w => z.1 ≤ re.length ∧ RowZ z.2.1 re.length (fun i => if i < z.1 then smU re im i re.length else 0) ∧ RowZ z.2.2 re.length (fun i => if i < z.1 then smV re im i re.length else 0) ∧ Hp w0 w ([(bu, cel ((z.2.1).map Zn.p) 48)] :: [(bv, cel ((z.2.2).map Zn.p) 48)] :: ((z.2.1).map Zn.seg ++ ((z.2.2).map Zn.seg ++ F)))) (μ := fun z => re.length - z.1) (C := [(0, _), (1, _), (7, _), (8, _), (9, _), (41, _)]) (0, Us, Vs) ⟨rfl, rfl, rfl, rfl, rfl, rfl, trivial⟩ ⟨rfl, trivial⟩ ?_ ?_
  · exact ⟨by simp, hU.ext fun i _ => by simp, hV.ext fun i _ => by simp, H⟩
  clear H hU hV
  rintro ⟨k, Us, Vs⟩ ρ w ⟨hk, hU, hV, H⟩ IH
  simp only at hk hU hV H
  dsimp only
  refine J.seq ?_
  refine J.region ?_
  refine JL.go trivial (RX.lt rfl rfl) ?_
  refine JL.nil ?_
  refine J.seq ?_
  refine J.cond_d rfl (fun hklt => ?_) (fun hklt => ?_)
  · skip
    refine J.skip ?_
    refine J.seq ?_
    refine J.block ?_
    refine J.seq ?_
    refine J.region ?_
    refine JL.go trivial (RX.movev (v := Value.int _ _) rfl) ?_
    refine JL.go trivial (RX.assignv (v := Value.int _ _) rfl) ?_
    refine JL.nil ?_
    refine J.seq ?_
    refine J.region ?_
    refine JL.go trivial (RX.movev (v := Value.int _ _) rfl) ?_
    refine JL.go trivial (RX.move) ?_
    refine JL.nil ?_
    refine J.block ?_
    refine J.loop (ι := Nat × List Zn × List Zn) (S := fun z => [(46, .int .i64 ((z.1 : Nat) : Int))]) (Φ := fun z w => z.1 ≤ re.length ∧ RowZ z.2.1 re.length (fun i => if i = k then smU re im k z.1 else if i < k then smU re im i re.length else 0) ∧ RowZ z.2.2 re.length (fun i => if i = k then smV re im k z.1 else if i < k then smV re im i re.length else 0) ∧ Hp w0 w ([(bu, cel ((z.2.1).map Zn.p) 48)] :: [(bv, cel ((z.2.2).map Zn.p) 48)] :: ((z.2.1).map Zn.seg ++ ((z.2.2).map Zn.seg ++ F)))) (μ := fun z => re.length - z.1) (C := [(0, _), (1, _), (7, _), (8, _), (9, _), (10, _), (41, _), (42, _), (45, _)]) (0, Us, Vs) ⟨rfl, rfl, rfl, rfl, rfl, rfl, rfl, rfl, rfl, trivial⟩ ⟨rfl, trivial⟩ ?_ ?_
    · exact ⟨by simp, hU.ext fun i _ => sm_init rfl, hV.ext fun i _ => sm_init rfl, H⟩
    clear H hU hV
    rintro ⟨j, Us, Vs⟩ ρ w ⟨hj, hU, hV, H⟩ IH2
    simp only at hj hU hV H
    dsimp only
    refine J.seq ?_
    refine J.region ?_
    refine JL.go trivial (RX.lt rfl rfl) ?_
    refine JL.nil ?_
    refine J.seq ?_
    refine J.cond_d rfl (fun hjlt => ?_) (fun hjlt => ?_)
    · skip
      obtain ⟨x, hx⟩ : ∃ x, re[j]? = some x := ⟨_, List.getElem?_eq_getElem (by omega)⟩
      obtain ⟨y, hy⟩ : ∃ y, im[j]? = some y := ⟨_, List.getElem?_eq_getElem (by omega)⟩
      have hx1 := hre x (List.mem_of_getElem? hx)
      have hy1 := him y (List.mem_of_getElem? hy)
      obtain ⟨qa, oa, rfl, hqa⟩ := hsr.some (by rw [i64sV_len]; omega)
      obtain ⟨qb, ob, rfl, hqb⟩ := hsi.some (by rw [i64sV_len]; omega)
      refine J.skip ?_
      refine J.seq ?_
      refine J.block ?_
      refine J.seq ?_
      refine J.region ?_
      refine JL.go trivial (RX.movev (v := Value.int _ _) rfl) ?_
      refine JL.go trivial (RX.assignv (v := Value.int _ _) rfl) ?_
      refine JL.nil ?_
      refine J.seq ?_
      refine J.held (fun w => Hp w0 w ([(bu, cel ((Us).map Zn.p) 48)] :: [(bv, cel ((Vs).map Zn.p) 48)] :: ((Us).map Zn.seg ++ ((Vs).map Zn.seg ++ F)))) hmix fun w hs => ?_
      replace H := H.same hs; clear hs
      have hS : Hp w0 w ([(bu, cel ((Us).map Zn.p) 48)] :: [(bv, cel ((Vs).map Zn.p) 48)] :: ((Us).map Zn.seg ++ ((Vs).map Zn.seg ++ F))) := by first | exact H | exact H.drop | exact H.drop.drop | exact H.drop.drop.drop | exact H.drop.drop.drop.drop | exact H.drop.drop.drop.drop.drop | exact H.drop.drop.drop.drop.drop.drop | exact H.drop.drop.drop.drop.drop.drop.drop | exact H.drop.drop.drop.drop.drop.drop.drop.drop
      refine JH.take 0 (listed' := [true, false, false, false, false, false, false, false, false, false, false, false]) rfl (by kernel_rfl) (by kernel_rfl) (by kernel_rfl) rfl trivial (fun w H => RX.movev (v := Value.slice _ _ _) rfl) hS ?_
      refine JH.take 1 (listed' := [true, true, false, false, false, false, false, false, false, false, false, false]) rfl (by kernel_rfl) (by kernel_rfl) (by kernel_rfl) rfl trivial (fun w H => RX.movev (v := Value.int _ _) rfl) hS ?_
      refine JH.take 2 (listed' := [true, true, true, false, false, false, false, false, false, false, false, false]) rfl (by kernel_rfl) (by kernel_rfl) (by kernel_rfl) rfl trivial (fun w H => RX.indexAddr rfl rfl sl22 (by omega) (by omega) (o' := oa + j) (by omega)) hS ?_
      refine JH.take 3 (listed' := [true, true, true, true, false, false, false, false, false, false, false, false]) rfl (by kernel_rfl) (by kernel_rfl) (by kernel_rfl) rfl trivial (fun w H => RX.loadS H (hFL (X := [(bu, cel ((Us).map Zn.p) 48)] :: [(bv, cel ((Vs).map Zn.p) 48)] :: Us.map Zn.seg) (hFL (X := Vs.map Zn.seg) hsr)) rfl (j := j) rfl (v := .int .i64 x) (i64sV_get hx) one2) hS ?_
      refine JH.take 5 (listed' := [true, true, true, true, false, true, false, false, false, false, false, false]) rfl (by kernel_rfl) (by kernel_rfl) (by kernel_rfl) rfl trivial (fun w H => RX.movev (v := Value.slice _ _ _) rfl) hS ?_
      refine JH.take 6 (listed' := [true, true, true, true, false, true, true, false, false, false, false, false]) rfl (by kernel_rfl) (by kernel_rfl) (by kernel_rfl) rfl trivial (fun w H => RX.movev (v := Value.int _ _) rfl) hS ?_
      refine JH.take 7 (listed' := [true, true, true, true, false, true, true, true, false, false, false, false]) rfl (by kernel_rfl) (by kernel_rfl) (by kernel_rfl) rfl trivial (fun w H => RX.indexAddr rfl rfl sl22 (by omega) (by omega) (o' := ob + j) (by omega)) hS ?_
      refine JH.take 8 (listed' := [true, true, true, true, false, true, true, true, true, false, false, false]) rfl (by kernel_rfl) (by kernel_rfl) (by kernel_rfl) rfl trivial (fun w H => RX.loadS H (hFL (X := [(bu, cel ((Us).map Zn.p) 48)] :: [(bv, cel ((Vs).map Zn.p) 48)] :: Us.map Zn.seg) (hFL (X := Vs.map Zn.seg) hsi)) rfl (j := j) rfl (v := .int .i64 y) (i64sV_get hy) one2) hS ?_
      refine JH.all [4] (by kernel_rfl) (by decide) ?_
      refine JHO.does (listed' := [true, true, true, true, true, true, true, true, true, false, false, false]) rfl rfl trivial (EX.call rfl cl22 rfl ((zNew_b H (by omega)))) ?_
      rintro _ w ⟨A, rfl, hAv, hA, H⟩
      have hS : Hp w0 w ([(bu, cel ((Us).map Zn.p) 48)] :: [(bv, cel ((Vs).map Zn.p) 48)] :: ((Us).map Zn.seg ++ ((Vs).map Zn.seg ++ F))) := by first | exact H | exact H.drop | exact H.drop.drop | exact H.drop.drop.drop | exact H.drop.drop.drop.drop | exact H.drop.drop.drop.drop.drop | exact H.drop.drop.drop.drop.drop.drop | exact H.drop.drop.drop.drop.drop.drop.drop | exact H.drop.drop.drop.drop.drop.drop.drop.drop
      refine ⟨hS, ?_⟩
      refine JH.all [9] (by kernel_rfl) (by decide) ?_
      refine JHO.does (listed' := [true, true, true, true, true, true, true, true, true, true, false, false]) rfl rfl trivial (EX.call rfl cl22 rfl ((zNew_b H (by omega)))) ?_
      rintro _ w ⟨C, rfl, hCv, hC, H⟩
      have hS : Hp w0 w ([(bu, cel ((Us).map Zn.p) 48)] :: [(bv, cel ((Vs).map Zn.p) 48)] :: ((Us).map Zn.seg ++ ((Vs).map Zn.seg ++ F))) := by first | exact H | exact H.drop | exact H.drop.drop | exact H.drop.drop.drop | exact H.drop.drop.drop.drop | exact H.drop.drop.drop.drop.drop | exact H.drop.drop.drop.drop.drop.drop | exact H.drop.drop.drop.drop.drop.drop.drop | exact H.drop.drop.drop.drop.drop.drop.drop.drop
      refine ⟨hS, ?_⟩
      refine JH.take 10 (listed' := [true, true, true, true, true, true, true, true, true, true, true, false]) rfl (by kernel_rfl) (by kernel_rfl) (by kernel_rfl) rfl trivial (fun w H => RX.assignv (v := A.p) rfl) hS ?_
      refine JH.take 11 (listed' := [true, true, true, true, true, true, true, true, true, true, true, true]) rfl (by kernel_rfl) (by kernel_rfl) (by kernel_rfl) rfl trivial (fun w H => RX.assignv (v := C.p) rfl) hS ?_
      refine JH.done (by kernel_rfl) ?_
      refine J.seq ?_
      refine J.seq ?_
      replace H := H.pull 1 rfl
      have hjk : 4 * j * k ≤ 16 * 3 := Nat.mul_le_mul (show 4 * j ≤ 16 by omega) (show k ≤ 3 by omega)
      have hdv : 4 * j * k / re.length ≤ 4 * j * k := Nat.div_le_self _ _
      refine J.region ?_
      refine JL.go trivial (RX.movev (v := Value.int _ _) rfl) ?_
      refine JL.go trivial (RX.mul rfl rfl (wi (n := 4 * j) (by omega) (by omega))) ?_
      refine JL.go trivial (RX.movev (v := Value.int _ _) rfl) ?_
      refine JL.go trivial (RX.mul rfl rfl (wi (n := 4 * j * k) (Int.natCast_mul _ _).symm (by omega))) ?_
      refine JL.go trivial (RX.movev (v := Value.int _ _) rfl) ?_
      refine JL.go trivial (RX.quo rfl rfl (by omega) (r := ((4 * j * k / re.length : Nat) : Int)) (by rw [quo_nat]; exact wi rfl (by omega))) ?_
      refine JL.go trivial (RX.rem rfl rfl (by omega) (rem_nat (b := 4))) ?_
      refine JL.go trivial (RX.move) ?_
      refine JL.nil ?_
      refine J.block ?_
      refine J.loop (ι := Nat × Zn × Zn) (S := fun z => [(66, .int .i64 ((z.1 : Nat) : Int)), (12, z.2.1.p), (13, z.2.2.p)]) (Φ := fun z w => z.1 ≤ 4 * j * k / re.length % 4 ∧ z.2.1.ok ∧ z.2.2.ok ∧ (z.2.1.v, z.2.2.v) = rot z.1 (x, y) ∧ Hp w0 w (z.2.1.seg :: z.2.2.seg :: [(bu, cel ((Us).map Zn.p) 48)] :: [(bv, cel ((Vs).map Zn.p) 48)] :: ((Us).map Zn.seg ++ ((Vs).map Zn.seg ++ F)))) (μ := fun z => 4 * j * k / re.length % 4 - z.1) (C := [(0, _), (1, _), (7, _), (8, _), (9, _), (10, _), (41, _), (42, _), (45, _), (46, _), (65, _)]) (0, A, C) ⟨rfl, rfl, rfl, rfl, rfl, rfl, rfl, rfl, rfl, rfl, rfl, trivial⟩ ⟨rfl, rfl, rfl, trivial⟩ ?_ ?_
      · exact ⟨by simp, hA, hC, by simp only [rot, hAv, hCv], H⟩
      clear H hA hC hAv hCv
      rintro ⟨t, A, C⟩ ρ w ⟨ht, hA, hC, hAC, H⟩ IH3
      simp only at ht hA hC hAC H
      dsimp only
      refine J.seq ?_
      refine J.region ?_
      refine JL.go trivial (RX.lt rfl rfl) ?_
      refine JL.nil ?_
      refine J.seq ?_
      refine J.cond_d rfl (fun htlt => ?_) (fun htlt => ?_)
      · skip
        refine J.skip ?_
        refine J.seq ?_
        refine J.block ?_
        refine J.region ?_
        refine JL.go trivial (RX.movev (v := C.p) rfl) ?_
        refine JL.does trivial (EX.alloc H zr53 rfl) ?_
        rintro _ w ⟨bz, rfl, H⟩
        replace H : Hp w0 w ((Zn.zero bz).seg :: A.seg :: C.seg :: [(bu, cel ((Us).map Zn.p) 48)] :: [(bv, cel ((Vs).map Zn.p) 48)] :: ((Us).map Zn.seg ++ ((Vs).map Zn.seg ++ F))) := by rw [Zn.zero_seg]; exact H
        refine JL.go trivial (RX.movev (v := A.p) rfl) ?_
        refine JL.does trivial (EX.call rfl cl23 rfl ((zNeg_b (z := Zn.zero bz) (y := A) H (Zn.zero_ok bz) List.mem_cons_self hA))) ?_
        rintro _ w ⟨⟨nb, nv, nq, nc, nsl⟩, rfl, hNb, hNv, hN, H⟩
        simp only at hNb hNv
        have H0 := H
        subst hNb
        have H := H0
        refine JL.go trivial (RX.assignv (v := C.p) rfl) ?_
        refine JL.go trivial (RX.assignv (v := Value.pointer _) rfl) ?_
        refine JL.nil ?_
        refine J.inBlock ?_
        refine J.region ?_
        refine JL.go trivial (RX.add rfl rfl (wi (n := t + 1) (by omega) (by omega))) ?_
        refine JL.go trivial (RX.movev (v := Value.int _ _) rfl) ?_
        refine JL.nil ?_
        exact IH3 (t + 1, C, ⟨nb, nv, nq, nc, nsl⟩) _ _ (by simp only; omega) ⟨rfl, rfl, rfl, rfl, rfl, rfl, rfl, rfl, rfl, rfl, rfl, trivial⟩ ⟨rfl, rfl, rfl, trivial⟩ ⟨by simp only; omega, hC, hN, by simp only [rot, ← hAC, hNv], ((H.pull 1 rfl).drop).pull 1 rfl⟩
      · skip
        obtain rfl : t = 4 * j * k / re.length % 4 := by omega
        replace hAC : (A.v, C.v) = smR re im k j := by rw [hAC, smR, hx, hy]; rfl
        obtain ⟨zu, hzu, hzuo, hzuv⟩ := hU.2 k (by omega)
        obtain ⟨zv, hzv, hzvo, hzvv⟩ := hV.2 k (by omega)
        replace hzuv : zu.v = smU re im k j := hzuv.trans (if_pos rfl)
        replace hzvv : zv.v = smV re im k j := hzvv.trans (if_pos rfl)
        have hul : Us.length = re.length := hU.1
        have hvl : Vs.length = re.length := hV.1
        have hsu1 := hsu k j
        have hsv1 := hsv k j
        have hr1 := (hru k j).1
        have hr2 := (hru k j).2
        rw [← hAC] at hr1 hr2
        simp only at hr1 hr2
        have hj4 : j * 9223372036854775808 ≤ 4 * 9223372036854775808 := Nat.mul_le_mul (by omega) (Nat.le_refl _)
        refine J.exit rfl ?_
        refine J.seq ?_
        refine J.any hmix fun w hs => ?_
        replace H := H.same hs; clear hs
        refine JA.stage (listed := [false, false, false, false, false, false, false, false, false, false]) 9 [0, 1, 2, 3, 4, 5, 6, 7, 8] H (by kernel_rfl) rfl rfl ?_
        refine JI.go rfl trivial (fun w H => RX.movev (v := Value.slice _ _ _) rfl) ?_
        refine JI.go rfl trivial (fun w H => RX.movev (v := Value.int _ _) rfl) ?_
        refine JI.go rfl trivial (fun w H => RX.indexAddr rfl rfl sl46 (by omega) (by omega) (o' := k) (by omega)) ?_
        refine JI.go rfl trivial (fun w H => RX.load H rfl (i := 2) (v := zu.p) rfl (RowZ.p_at hzu) one48) ?_
        refine JI.go rfl trivial (fun w H => RX.movev (v := Value.slice _ _ _) rfl) ?_
        refine JI.go rfl trivial (fun w H => RX.movev (v := Value.int _ _) rfl) ?_
        refine JI.go rfl trivial (fun w H => RX.indexAddr rfl rfl sl46 (by omega) (by omega) (o' := k) (by omega)) ?_
        refine JI.go rfl trivial (fun w H => RX.load H rfl (i := 2) (v := zu.p) rfl (RowZ.p_at hzu) one48) ?_
        refine JI.go rfl trivial (fun w H => RX.movev (v := A.p) rfl) ?_
        refine JI.nil fun w H => ?_
        refine JL.does trivial (EX.call rfl cl24 rfl ((zAddAt_b (X := [A.seg, C.seg, [(bu, cel ((Us).map Zn.p) 48)], [(bv, cel ((Vs).map Zn.p) 48)]]) H hzu hzuo (by simp) hA (by rw [hzuv]; omega) (by omega)))) ?_
        rintro _ w ⟨z3, rfl, hz3b, hz3v, hz3, H⟩
        rw [← mapP_set hzu hz3b] at H
        refine JL.nil ?_
        refine J.any hmix fun w hs => ?_
        replace H := H.same hs; clear hs
        refine JA.stage (listed := [false, false, false, false, false, false, false, false, false, false]) 9 [0, 1, 2, 3, 4, 5, 6, 7, 8] H (by kernel_rfl) rfl rfl ?_
        refine JI.go rfl trivial (fun w H => RX.movev (v := Value.slice _ _ _) rfl) ?_
        refine JI.go rfl trivial (fun w H => RX.movev (v := Value.int _ _) rfl) ?_
        refine JI.go rfl trivial (fun w H => RX.indexAddr rfl rfl sl46 (by omega) (by omega) (o' := k) (by omega)) ?_
        refine JI.go rfl trivial (fun w H => RX.load H rfl (i := 3) (v := zv.p) rfl (RowZ.p_at hzv) one48) ?_
        refine JI.go rfl trivial (fun w H => RX.movev (v := Value.slice _ _ _) rfl) ?_
        refine JI.go rfl trivial (fun w H => RX.movev (v := Value.int _ _) rfl) ?_
        refine JI.go rfl trivial (fun w H => RX.indexAddr rfl rfl sl46 (by omega) (by omega) (o' := k) (by omega)) ?_
        refine JI.go rfl trivial (fun w H => RX.load H rfl (i := 3) (v := zv.p) rfl (RowZ.p_at hzv) one48) ?_
        refine JI.go rfl trivial (fun w H => RX.movev (v := C.p) rfl) ?_
        refine JI.nil fun w H => ?_
        refine JL.does trivial (EX.call rfl cl24 rfl ((zAddAt_b (X := [A.seg, C.seg, [(bu, cel ((Us.set k z3).map Zn.p) 48)], [(bv, cel ((Vs).map Zn.p) 48)]]) (Hp.swap (A := [A.seg, C.seg, [(bu, cel ((Us.set k z3).map Zn.p) 48)], [(bv, cel ((Vs).map Zn.p) 48)]]) H) hzv hzvo (by simp) hC (by rw [hzvv]; omega) (by omega)))) ?_
        rintro _ w ⟨z4, rfl, hz4b, hz4v, hz4, H⟩
        replace H := Hp.swap (A := [A.seg, C.seg, [(bu, cel ((Us.set k z3).map Zn.p) 48)], [(bv, cel ((Vs).map Zn.p) 48)]]) H
        rw [← mapP_set hzv hz4b] at H
        refine JL.nil ?_
        refine J.inBlock ?_
        refine J.region ?_
        refine JL.go trivial (RX.add rfl rfl (wi (n := j + 1) (by omega) (by omega))) ?_
        refine JL.go trivial (RX.movev (v := Value.int _ _) rfl) ?_
        refine JL.nil ?_
        refine IH2 (j + 1, Us.set k z3, Vs.set k z4) _ _ (by simp only; omega) ⟨rfl, rfl, rfl, rfl, rfl, rfl, rfl, rfl, rfl, trivial⟩ ⟨rfl, trivial⟩ ⟨by simp only; omega, (hU.set hz3).ext fun i hi => ?_, (hV.set hz4).ext fun i hi => ?_, H.drop.drop⟩
        · simp only
          by_cases e : i = k
          · subst e; rw [if_pos rfl, if_pos rfl, hz3v, hzuv]; simp only [smU, ssum, ← hAC]
          · rw [if_neg e, if_neg e, if_neg e]
        · simp only
          by_cases e : i = k
          · subst e; rw [if_pos rfl, if_pos rfl, hz4v, hzvv]; simp only [smV, ssum, ← hAC]
          · rw [if_neg e, if_neg e, if_neg e]
    · skip
      obtain rfl : j = re.length := by omega
      refine J.exit rfl ?_
      refine J.inBlock ?_
      refine J.region ?_
      refine JL.go trivial (RX.add rfl rfl (wi (n := k + 1) (by omega) (by omega))) ?_
      refine JL.go trivial (RX.movev (v := Value.int _ _) rfl) ?_
      refine JL.nil ?_
      refine IH (k + 1, Us, Vs) _ _ (by simp only; omega) ⟨rfl, rfl, rfl, rfl, rfl, rfl, trivial⟩ ⟨rfl, trivial⟩ ⟨by simp only; omega, hU.ext fun i hi => ?_, hV.ext fun i hi => ?_, H⟩
      · simp only
        by_cases e : i = k
        · subst e; rw [if_pos rfl, if_pos (by omega)]
        · rw [if_neg e]
          by_cases e2 : i < k
          · rw [if_pos e2, if_pos (by omega)]
          · rw [if_neg e2, if_neg (by omega)]
      · simp only
        by_cases e : i = k
        · subst e; rw [if_pos rfl, if_pos (by omega)]
        · rw [if_neg e]
          by_cases e2 : i < k
          · rw [if_pos e2, if_pos (by omega)]
          · rw [if_neg e2, if_neg (by omega)]
  · skip
    obtain rfl : k = re.length := by omega
    replace hU := hU.ext (g := fun i => smU re im i re.length) fun i hi => if_pos hi
    replace hV := hV.ext (g := fun i => smV re im i re.length) fun i hi => if_pos hi
    refine J.exit rfl ?_
    refine J.seq ?_
    refine J.region ?_
    refine JL.go trivial (RX.movev (v := .slice _ _ _) rfl) ?_
    refine JL.does trivial (EX.call rfl cl25 rfl ((whole_u H ((hE2 (Vs.map Zn.seg)).sub fun e he => mem_app (X := [(bu, cel ((Us).map Zn.p) 48)] :: [(bv, cel ((Vs).map Zn.p) 48)] :: Us.map Zn.seg) he) (SlAt.here List.take_length) (fun z hz => List.mem_cons_of_mem _ (List.mem_cons_of_mem _ (List.mem_append_left _ (List.mem_map_of_mem hz)))) hU (by omega)))) ?_
    rintro _ w ⟨p1, m1, k1, e1, sl1, rfl, he1, hW1, H⟩
    refine JL.go trivial (RX.movev (v := .tuple _) rfl) ?_
    refine JL.go trivial (RX.extract rfl rfl) ?_
    refine JL.go trivial (RX.extract (v := errV E e1) rfl rfl) ?_
    refine JL.go trivial (RX.assignv (v := Value.slice _ _ _) rfl) ?_
    refine JL.go trivial (RX.assignv (v := errV E e1) rfl) ?_
    refine JL.nil ?_
    refine J.seq ?_
    refine J.region ?_
    refine JL.go trivial (RX.movev (v := Value.slice _ _ _) rfl) ?_
    refine JL.does trivial (EX.call rfl cl25 rfl ((whole_u H (((hE2 (Vs.map Zn.seg)).sub fun e he => mem_app (X := [(bu, cel ((Us).map Zn.p) 48)] :: [(bv, cel ((Vs).map Zn.p) 48)] :: Us.map Zn.seg) he).cons) (SlAt.cons (SlAt.cons (SlAt.here List.take_length))) (fun z hz => List.mem_cons_of_mem _ (List.mem_cons_of_mem _ (List.mem_cons_of_mem _ (List.mem_append_right _ (List.mem_append_left _ (List.mem_map_of_mem hz)))))) hV (by omega)))) ?_
    rintro _ w ⟨p2, m2, k2, e2, sl2, rfl, he2, hW2, H⟩
    replace H : Hp w0 w (sl2 :: sl1 :: F) := Hp.cut (A := [sl2, sl1]) (B := Vs.map Zn.seg) (Hp.cut (A := [sl2, sl1]) (B := [(bu, cel ((Us).map Zn.p) 48)] :: [(bv, cel ((Vs).map Zn.p) 48)] :: Us.map Zn.seg) H)
    obtain ⟨hi1, hn1⟩ := errV_ie hE he1
    obtain ⟨hi2, hn2⟩ := errV_ie hE he2
    replace hW1 : (e1 = 0 ∧ i64all (smA0 re im) ∧ ∃ b, p1 = some ⟨b, 0, none⟩ ∧ m1 = re.length ∧ k1 = re.length ∧ sl1 = [(b, cel (i64sV (smA0 re im)) 2)]) ∨ (e1 = 19 ∧ ¬ i64all (smA0 re im)) := hW1
    replace hW2 : (e2 = 0 ∧ i64all (smB0 re im) ∧ ∃ b, p2 = some ⟨b, 0, none⟩ ∧ m2 = re.length ∧ k2 = re.length ∧ sl2 = [(b, cel (i64sV (smB0 re im)) 2)]) ∨ (e2 = 19 ∧ ¬ i64all (smB0 re im)) := hW2
    refine JL.go trivial (RX.movev (v := .tuple _) rfl) ?_
    refine JL.go trivial (RX.extract rfl rfl) ?_
    refine JL.go trivial (RX.extract (v := errV E e2) rfl rfl) ?_
    refine JL.go trivial (RX.assignv (v := Value.slice _ _ _) rfl) ?_
    refine JL.go trivial (RX.assignv (v := errV E e2) rfl) ?_
    refine JL.nil ?_
    refine J.seq ?_
    refine J.seq ?_
    refine J.region ?_
    refine JL.go trivial (RX.movev (v := errV E e1) rfl) ?_
    refine JL.go trivial (RX.ifnil_neq (v := errV E e1) rfl rfl hi1 if25) ?_
    refine JL.go trivial (RX.movev (v := Value.bool _) rfl) ?_
    refine JL.splitS 107 rfl (fun hg => ?_) (fun hg => ?_)
    · skip
      first | have hgp := of_decide_eq_true hg | skip
      have he1n : e1 ≠ 0 := by rw [hn1] at hg; simpa using hg
      refine JL.no ⟨_, rfl, gno hg⟩ ?_
      refine JL.no ⟨_, rfl, gno hg⟩ ?_
      refine JL.go trivial (RX.pick_t rfl hg) ?_
      refine JL.nil ?_
      refine J.cond_t rfl rfl ?_
      refine J.seq ?_
      refine J.quietH H hmix (by kernel_rfl) ?_
      refine JQ.go trivial (fun w H => RX.loadG H rfl (hE.cons.cons.at_ 19 (by decide) (by decide)).at_ one25) ?_
      refine JQ.go trivial (fun w H => RX.assign) ?_
      refine JQ.go trivial (fun w H => RX.assign) ?_
      refine JQ.go trivial (fun w H => RX.assignv (v := E 19) rfl) ?_
      refine JQ.nil fun w H => ?_
      refine J.ret3 (v := Value.slice _ _ _) Tryz.func13 rfl rfl rfl rfl ?_
      have he : smE re im = 19 := by
        unfold smE
        rw [if_pos (by omega), if_neg]
        rintro ⟨h1, _⟩
        rcases hW1 with ⟨h, _⟩ | ⟨_, h⟩
        · exact he1n h
        · exact h h1
      refine ⟨_, rfl, ?_⟩
      unfold smA smB
      rw [he]
      exact ⟨none, none, 0, 0, [], [], rfl, OwnSl.nil, OwnSl.nil, H.drop.drop.nil.nil⟩
    · skip
      first | have hgp := of_decide_eq_false hg | skip
      have he1z : e1 = 0 := by rw [hn1] at hg; simpa using hg
      refine JL.go ⟨_, rfl, hg⟩ (RX.movev (v := errV E e2) rfl) ?_
      refine JL.go ⟨_, rfl, hg⟩ (RX.ifnil_neq (v := errV E e2) rfl rfl hi2 if25) ?_
      refine JL.go trivial (RX.pick_f rfl hg) ?_
      refine JL.nil ?_
      refine J.cond rfl (fun hc => ?_) (fun hc => ?_)
      · skip
        have he2n : e2 ≠ 0 := by rw [hn2] at hc; simpa using hc
        refine J.seq ?_
        refine J.quietH H hmix (by kernel_rfl) ?_
        refine JQ.go trivial (fun w H => RX.loadG H rfl (hE.cons.cons.at_ 19 (by decide) (by decide)).at_ one25) ?_
        refine JQ.go trivial (fun w H => RX.assign) ?_
        refine JQ.go trivial (fun w H => RX.assign) ?_
        refine JQ.go trivial (fun w H => RX.assignv (v := E 19) rfl) ?_
        refine JQ.nil fun w H => ?_
        refine J.ret3 (v := Value.slice _ _ _) Tryz.func13 rfl rfl rfl rfl ?_
        have he : smE re im = 19 := by
          unfold smE
          rw [if_pos (by omega), if_neg]
          rintro ⟨_, h1⟩
          rcases hW2 with ⟨h, _⟩ | ⟨_, h⟩
          · exact he2n h
          · exact h h1
        refine ⟨_, rfl, ?_⟩
        unfold smA smB
        rw [he]
        exact ⟨none, none, 0, 0, [], [], rfl, OwnSl.nil, OwnSl.nil, H.drop.drop.nil.nil⟩
      · skip
        have he2z : e2 = 0 := by rw [hn2] at hc; simpa using hc
        refine J.skip ?_
        refine J.seq ?_
        refine J.region ?_
        refine JL.go trivial (RX.movev (v := Value.slice _ _ _) rfl) ?_
        refine JL.go trivial (RX.movev (v := Value.slice _ _ _) rfl) ?_
        refine JL.go trivial (RX.assignv (v := Value.slice _ _ _) rfl) ?_
        refine JL.go trivial (RX.assignv (v := Value.slice _ _ _) rfl) ?_
        refine JL.go trivial (RX.assign) ?_
        refine JL.nil ?_
        refine J.ret3 (v := Value.slice _ _ _) Tryz.func13 rfl rfl rfl rfl ?_
        obtain ⟨_, ha1, b1, rfl, rfl, rfl, rfl⟩ | ⟨h, _⟩ := hW1
        rotate_left
        · omega
        obtain ⟨_, ha2, b2, rfl, rfl, rfl, rfl⟩ | ⟨h, _⟩ := hW2
        rotate_left
        · omega
        have he : smE re im = 0 := by
          unfold smE
          rw [if_pos (by omega), if_pos ⟨ha1, ha2⟩]
        have hlA : (smA0 re im).length = re.length := by simp [smA0]
        have hlB : (smB0 re im).length = re.length := by simp [smB0]
        refine ⟨_, rfl, ?_⟩
        unfold smA smB
        rw [he, if_pos rfl, if_pos rfl, hlA, hlB]
        have o1 := ownI (b := b1) (smA0 re im)
        have o2 := ownI (b := b2) (smB0 re im)
        rw [hlA] at o1
        rw [hlB] at o2
        exact ⟨_, _, _, _, _, _, rfl, o1, o2, H⟩
set_option maxHeartbeats 1600000 in
theorem small2_b {w0 w : World} {F : List Seg} {E : Nat → Value} {Q : Nat → Addr} (H : Hp w0 w F) (hE : Errs F E Q) {re im : List Int} {pr pi : Option Addr} {cr ci : Nat} (hsr : SlAt F pr (i64sV re)) (hsi : SlAt F pi (i64sV im)) (hn : re.length = 2) (hm : im.length = re.length) (hre : ∀ x ∈ re, x.natAbs ≤ 9223372036854775808) (him : ∀ x ∈ im, x.natAbs ≤ 9223372036854775808) : Ret Tryz.prog 13 [.slice pr re.length cr, .slice pi im.length ci] w fun v w' => ∃ q1 q2 c1 c2 s1 s2, v = .tuple #[.slice q1 (smA re im).length c1, .slice q2 (smB re im).length c2, errV E (smE re im)] ∧ OwnSl 2 1 q1 (smA re im).length c1 (i64sV (smA re im)) s1 ∧ OwnSl 2 1 q2 (smB re im).length c2 (i64sV (smB re im)) s2 ∧ Hp w0 w' (s2 :: s1 :: F) := by
  refine Calls.of_J (n := 114) Tryz.func13 rfl rfl rfl ?_
  refine J.seq ?_
  have hFL : ∀ {X F : List Seg} {p : Option Addr} {xs : List Value}, SlAt F p xs → SlAt (X ++ F) p xs := fun h => h.perm fun e he => mem_app he
  have hE2 : ∀ X : List Seg, Errs (X ++ F) E Q := fun X => hE.sub fun e he => mem_app he
  have hN : 1 ≤ re.length ∧ re.length ≤ 4 := by omega
  have hru : ∀ k j, (smR re im k j).1.natAbs ≤ 9223372036854775808 ∧ (smR re im k j).2.natAbs ≤ 9223372036854775808 := fun k j => rot_le (getD_le hre j) (getD_le him j) _
  have hsu : ∀ k j, (smU re im k j).natAbs ≤ j * 9223372036854775808 := fun k j => ssum_le (fun j => (hru k j).1) j
  have hsv : ∀ k j, (smV re im k j).natAbs ≤ j * 9223372036854775808 := fun k j => ssum_le (fun j => (hru k j).2) j
  refine J.region ?_
  refine JL.go trivial (RX.assign) ?_
  refine JL.go trivial (RX.assign) ?_
  refine JL.go trivial (RX.assign) ?_
  refine JL.nil ?_
  refine J.seq ?_
  refine J.region ?_
  refine JL.go trivial (RX.movev (v := Value.slice _ _ _) rfl) ?_
  refine JL.go trivial (RX.len_slice rfl (by rw [sl22]; rfl) rfl) ?_
  refine JL.go trivial (RX.assignv (v := Value.int _ _) rfl) ?_
  refine JL.nil ?_
  refine J.seq ?_
  refine J.seq ?_
  refine J.region ?_
  refine JL.go trivial (RX.movev (v := Value.slice _ _ _) rfl) ?_
  refine JL.go trivial (RX.len_slice rfl (by rw [sl22]; rfl) rfl) ?_
  refine JL.go trivial (RX.movev (v := Value.int _ _) rfl) ?_
  refine JL.go trivial (RX.ne rfl rfl) ?_
  refine JL.go trivial (RX.movev (v := Value.bool _) rfl) ?_
  refine JL.go ⟨_, rfl, (decide_eq_false (by omega))⟩ (RX.movev (v := Value.int _ _) rfl) ?_
  refine JL.go ⟨_, rfl, (decide_eq_false (by omega))⟩ (RX.ne rfl rfl) ?_
  refine JL.go ⟨_, rfl, (decide_eq_false (by omega))⟩ (RX.movev (v := Value.bool _) rfl) ?_
  refine JL.go ⟨_, rfl, (decide_eq_true (by omega))⟩ (RX.movev (v := Value.int _ _) rfl) ?_
  refine JL.go ⟨_, rfl, (decide_eq_true (by omega))⟩ (RX.ne rfl rfl) ?_
  refine JL.go ⟨_, rfl, (decide_eq_false (by omega))⟩ (RX.pick_t rfl (decide_eq_true (by omega))) ?_
  refine JL.go ⟨_, rfl, (decide_eq_false (by omega))⟩ (RX.movev (v := Value.bool _) rfl) ?_
  refine JL.no ⟨_, rfl, gno (decide_eq_false (by omega))⟩ ?_
  refine JL.no ⟨_, rfl, gno (decide_eq_false (by omega))⟩ ?_
  refine JL.go ⟨_, rfl, (decide_eq_false (by omega))⟩ (RX.pick_f rfl (decide_eq_false (by omega))) ?_
  refine JL.go trivial (RX.pick_f rfl (decide_eq_false (by omega))) ?_
  refine JL.nil ?_
  refine J.cond_f rfl rfl ?_
  refine J.skip ?_
  refine J.seq ?_
  refine J.region ?_
  refine JL.go trivial (RX.movev (v := Value.int _ _) rfl) ?_
  refine JL.does trivial (EX.call rfl cl21 rfl ((none_b H (by omega)))) ?_
  rintro _ w ⟨bu, Us, rfl, hU, H⟩
  refine JL.go trivial (RX.movev (v := Value.int _ _) rfl) ?_
  refine JL.does trivial (EX.call rfl cl21 rfl ((none_b H (by omega)))) ?_
  rintro _ w ⟨bv, Vs, rfl, hV, H⟩
  replace H := none_two H
  refine JL.go trivial (RX.assignv (v := Value.slice _ _ _) rfl) ?_
  refine JL.go trivial (RX.assignv (v := Value.slice _ _ _) rfl) ?_
  refine JL.nil ?_
  refine J.seq ?_
  refine J.seq ?_
  refine J.region ?_
  refine JL.go trivial (RX.movev (v := Value.int _ _) rfl) ?_
  refine JL.go trivial (RX.move) ?_
  refine JL.nil ?_
  refine J.block ?_
  refine J.loop (ι := Nat × List Zn × List Zn) (S := fun z => [(42, .int .i64 ((z.1 : Nat) : Int))]) (Φ := fun z w => z.1 ≤ re.length ∧ RowZ z.2.1 re.length (fun i => if i < z.1 then smU re im i re.length else 0) ∧ RowZ z.2.2 re.length (fun i => if i < z.1 then smV re im i re.length else 0) ∧ Hp w0 w ([(bu, cel ((z.2.1).map Zn.p) 48)] :: [(bv, cel ((z.2.2).map Zn.p) 48)] :: ((z.2.1).map Zn.seg ++ ((z.2.2).map Zn.seg ++ F)))) (μ := fun z => re.length - z.1) (C := [(0, _), (1, _), (7, _), (8, _), (9, _), (41, _)]) (0, Us, Vs) ⟨rfl, rfl, rfl, rfl, rfl, rfl, trivial⟩ ⟨rfl, trivial⟩ ?_ ?_
  · exact ⟨by simp, hU.ext fun i _ => by simp, hV.ext fun i _ => by simp, H⟩
  clear H hU hV
  rintro ⟨k, Us, Vs⟩ ρ w ⟨hk, hU, hV, H⟩ IH
  simp only at hk hU hV H
  dsimp only
  refine J.seq ?_
  refine J.region ?_
  refine JL.go trivial (RX.lt rfl rfl) ?_
  refine JL.nil ?_
  refine J.seq ?_
  refine J.cond_d rfl (fun hklt => ?_) (fun hklt => ?_)
  · skip
    refine J.skip ?_
    refine J.seq ?_
    refine J.block ?_
    refine J.seq ?_
    refine J.region ?_
    refine JL.go trivial (RX.movev (v := Value.int _ _) rfl) ?_
    refine JL.go trivial (RX.assignv (v := Value.int _ _) rfl) ?_
    refine JL.nil ?_
    refine J.seq ?_
    refine J.region ?_
    refine JL.go trivial (RX.movev (v := Value.int _ _) rfl) ?_
    refine JL.go trivial (RX.move) ?_
    refine JL.nil ?_
    refine J.block ?_
    refine J.loop (ι := Nat × List Zn × List Zn) (S := fun z => [(46, .int .i64 ((z.1 : Nat) : Int))]) (Φ := fun z w => z.1 ≤ re.length ∧ RowZ z.2.1 re.length (fun i => if i = k then smU re im k z.1 else if i < k then smU re im i re.length else 0) ∧ RowZ z.2.2 re.length (fun i => if i = k then smV re im k z.1 else if i < k then smV re im i re.length else 0) ∧ Hp w0 w ([(bu, cel ((z.2.1).map Zn.p) 48)] :: [(bv, cel ((z.2.2).map Zn.p) 48)] :: ((z.2.1).map Zn.seg ++ ((z.2.2).map Zn.seg ++ F)))) (μ := fun z => re.length - z.1) (C := [(0, _), (1, _), (7, _), (8, _), (9, _), (10, _), (41, _), (42, _), (45, _)]) (0, Us, Vs) ⟨rfl, rfl, rfl, rfl, rfl, rfl, rfl, rfl, rfl, trivial⟩ ⟨rfl, trivial⟩ ?_ ?_
    · exact ⟨by simp, hU.ext fun i _ => sm_init rfl, hV.ext fun i _ => sm_init rfl, H⟩
    clear H hU hV
    rintro ⟨j, Us, Vs⟩ ρ w ⟨hj, hU, hV, H⟩ IH2
    simp only at hj hU hV H
    dsimp only
    refine J.seq ?_
    refine J.region ?_
    refine JL.go trivial (RX.lt rfl rfl) ?_
    refine JL.nil ?_
    refine J.seq ?_
    refine J.cond_d rfl (fun hjlt => ?_) (fun hjlt => ?_)
    · skip
      obtain ⟨x, hx⟩ : ∃ x, re[j]? = some x := ⟨_, List.getElem?_eq_getElem (by omega)⟩
      obtain ⟨y, hy⟩ : ∃ y, im[j]? = some y := ⟨_, List.getElem?_eq_getElem (by omega)⟩
      have hx1 := hre x (List.mem_of_getElem? hx)
      have hy1 := him y (List.mem_of_getElem? hy)
      obtain ⟨qa, oa, rfl, hqa⟩ := hsr.some (by rw [i64sV_len]; omega)
      obtain ⟨qb, ob, rfl, hqb⟩ := hsi.some (by rw [i64sV_len]; omega)
      refine J.skip ?_
      refine J.seq ?_
      refine J.block ?_
      refine J.seq ?_
      refine J.region ?_
      refine JL.go trivial (RX.movev (v := Value.int _ _) rfl) ?_
      refine JL.go trivial (RX.assignv (v := Value.int _ _) rfl) ?_
      refine JL.nil ?_
      refine J.seq ?_
      refine J.held (fun w => Hp w0 w ([(bu, cel ((Us).map Zn.p) 48)] :: [(bv, cel ((Vs).map Zn.p) 48)] :: ((Us).map Zn.seg ++ ((Vs).map Zn.seg ++ F)))) hmix fun w hs => ?_
      replace H := H.same hs; clear hs
      have hS : Hp w0 w ([(bu, cel ((Us).map Zn.p) 48)] :: [(bv, cel ((Vs).map Zn.p) 48)] :: ((Us).map Zn.seg ++ ((Vs).map Zn.seg ++ F))) := by first | exact H | exact H.drop | exact H.drop.drop | exact H.drop.drop.drop | exact H.drop.drop.drop.drop | exact H.drop.drop.drop.drop.drop | exact H.drop.drop.drop.drop.drop.drop | exact H.drop.drop.drop.drop.drop.drop.drop | exact H.drop.drop.drop.drop.drop.drop.drop.drop
      refine JH.take 0 (listed' := [true, false, false, false, false, false, false, false, false, false, false, false]) rfl (by kernel_rfl) (by kernel_rfl) (by kernel_rfl) rfl trivial (fun w H => RX.movev (v := Value.slice _ _ _) rfl) hS ?_
      refine JH.take 1 (listed' := [true, true, false, false, false, false, false, false, false, false, false, false]) rfl (by kernel_rfl) (by kernel_rfl) (by kernel_rfl) rfl trivial (fun w H => RX.movev (v := Value.int _ _) rfl) hS ?_
      refine JH.take 2 (listed' := [true, true, true, false, false, false, false, false, false, false, false, false]) rfl (by kernel_rfl) (by kernel_rfl) (by kernel_rfl) rfl trivial (fun w H => RX.indexAddr rfl rfl sl22 (by omega) (by omega) (o' := oa + j) (by omega)) hS ?_
      refine JH.take 3 (listed' := [true, true, true, true, false, false, false, false, false, false, false, false]) rfl (by kernel_rfl) (by kernel_rfl) (by kernel_rfl) rfl trivial (fun w H => RX.loadS H (hFL (X := [(bu, cel ((Us).map Zn.p) 48)] :: [(bv, cel ((Vs).map Zn.p) 48)] :: Us.map Zn.seg) (hFL (X := Vs.map Zn.seg) hsr)) rfl (j := j) rfl (v := .int .i64 x) (i64sV_get hx) one2) hS ?_
      refine JH.take 5 (listed' := [true, true, true, true, false, true, false, false, false, false, false, false]) rfl (by kernel_rfl) (by kernel_rfl) (by kernel_rfl) rfl trivial (fun w H => RX.movev (v := Value.slice _ _ _) rfl) hS ?_
      refine JH.take 6 (listed' := [true, true, true, true, false, true, true, false, false, false, false, false]) rfl (by kernel_rfl) (by kernel_rfl) (by kernel_rfl) rfl trivial (fun w H => RX.movev (v := Value.int _ _) rfl) hS ?_
      refine JH.take 7 (listed' := [true, true, true, true, false, true, true, true, false, false, false, false]) rfl (by kernel_rfl) (by kernel_rfl) (by kernel_rfl) rfl trivial (fun w H => RX.indexAddr rfl rfl sl22 (by omega) (by omega) (o' := ob + j) (by omega)) hS ?_
      refine JH.take 8 (listed' := [true, true, true, true, false, true, true, true, true, false, false, false]) rfl (by kernel_rfl) (by kernel_rfl) (by kernel_rfl) rfl trivial (fun w H => RX.loadS H (hFL (X := [(bu, cel ((Us).map Zn.p) 48)] :: [(bv, cel ((Vs).map Zn.p) 48)] :: Us.map Zn.seg) (hFL (X := Vs.map Zn.seg) hsi)) rfl (j := j) rfl (v := .int .i64 y) (i64sV_get hy) one2) hS ?_
      refine JH.all [4] (by kernel_rfl) (by decide) ?_
      refine JHO.does (listed' := [true, true, true, true, true, true, true, true, true, false, false, false]) rfl rfl trivial (EX.call rfl cl22 rfl ((zNew_b H (by omega)))) ?_
      rintro _ w ⟨A, rfl, hAv, hA, H⟩
      have hS : Hp w0 w ([(bu, cel ((Us).map Zn.p) 48)] :: [(bv, cel ((Vs).map Zn.p) 48)] :: ((Us).map Zn.seg ++ ((Vs).map Zn.seg ++ F))) := by first | exact H | exact H.drop | exact H.drop.drop | exact H.drop.drop.drop | exact H.drop.drop.drop.drop | exact H.drop.drop.drop.drop.drop | exact H.drop.drop.drop.drop.drop.drop | exact H.drop.drop.drop.drop.drop.drop.drop | exact H.drop.drop.drop.drop.drop.drop.drop.drop
      refine ⟨hS, ?_⟩
      refine JH.all [9] (by kernel_rfl) (by decide) ?_
      refine JHO.does (listed' := [true, true, true, true, true, true, true, true, true, true, false, false]) rfl rfl trivial (EX.call rfl cl22 rfl ((zNew_b H (by omega)))) ?_
      rintro _ w ⟨C, rfl, hCv, hC, H⟩
      have hS : Hp w0 w ([(bu, cel ((Us).map Zn.p) 48)] :: [(bv, cel ((Vs).map Zn.p) 48)] :: ((Us).map Zn.seg ++ ((Vs).map Zn.seg ++ F))) := by first | exact H | exact H.drop | exact H.drop.drop | exact H.drop.drop.drop | exact H.drop.drop.drop.drop | exact H.drop.drop.drop.drop.drop | exact H.drop.drop.drop.drop.drop.drop | exact H.drop.drop.drop.drop.drop.drop.drop | exact H.drop.drop.drop.drop.drop.drop.drop.drop
      refine ⟨hS, ?_⟩
      refine JH.take 10 (listed' := [true, true, true, true, true, true, true, true, true, true, true, false]) rfl (by kernel_rfl) (by kernel_rfl) (by kernel_rfl) rfl trivial (fun w H => RX.assignv (v := A.p) rfl) hS ?_
      refine JH.take 11 (listed' := [true, true, true, true, true, true, true, true, true, true, true, true]) rfl (by kernel_rfl) (by kernel_rfl) (by kernel_rfl) rfl trivial (fun w H => RX.assignv (v := C.p) rfl) hS ?_
      refine JH.done (by kernel_rfl) ?_
      refine J.seq ?_
      refine J.seq ?_
      replace H := H.pull 1 rfl
      have hjk : 4 * j * k ≤ 16 * 3 := Nat.mul_le_mul (show 4 * j ≤ 16 by omega) (show k ≤ 3 by omega)
      have hdv : 4 * j * k / re.length ≤ 4 * j * k := Nat.div_le_self _ _
      refine J.region ?_
      refine JL.go trivial (RX.movev (v := Value.int _ _) rfl) ?_
      refine JL.go trivial (RX.mul rfl rfl (wi (n := 4 * j) (by omega) (by omega))) ?_
      refine JL.go trivial (RX.movev (v := Value.int _ _) rfl) ?_
      refine JL.go trivial (RX.mul rfl rfl (wi (n := 4 * j * k) (Int.natCast_mul _ _).symm (by omega))) ?_
      refine JL.go trivial (RX.movev (v := Value.int _ _) rfl) ?_
      refine JL.go trivial (RX.quo rfl rfl (by omega) (r := ((4 * j * k / re.length : Nat) : Int)) (by rw [quo_nat]; exact wi rfl (by omega))) ?_
      refine JL.go trivial (RX.rem rfl rfl (by omega) (rem_nat (b := 4))) ?_
      refine JL.go trivial (RX.move) ?_
      refine JL.nil ?_
      refine J.block ?_
      refine J.loop (ι := Nat × Zn × Zn) (S := fun z => [(66, .int .i64 ((z.1 : Nat) : Int)), (12, z.2.1.p), (13, z.2.2.p)]) (Φ := fun z w => z.1 ≤ 4 * j * k / re.length % 4 ∧ z.2.1.ok ∧ z.2.2.ok ∧ (z.2.1.v, z.2.2.v) = rot z.1 (x, y) ∧ Hp w0 w (z.2.1.seg :: z.2.2.seg :: [(bu, cel ((Us).map Zn.p) 48)] :: [(bv, cel ((Vs).map Zn.p) 48)] :: ((Us).map Zn.seg ++ ((Vs).map Zn.seg ++ F)))) (μ := fun z => 4 * j * k / re.length % 4 - z.1) (C := [(0, _), (1, _), (7, _), (8, _), (9, _), (10, _), (41, _), (42, _), (45, _), (46, _), (65, _)]) (0, A, C) ⟨rfl, rfl, rfl, rfl, rfl, rfl, rfl, rfl, rfl, rfl, rfl, trivial⟩ ⟨rfl, rfl, rfl, trivial⟩ ?_ ?_
      · exact ⟨by simp, hA, hC, by simp only [rot, hAv, hCv], H⟩
      clear H hA hC hAv hCv
      rintro ⟨t, A, C⟩ ρ w ⟨ht, hA, hC, hAC, H⟩ IH3
      simp only at ht hA hC hAC H
      dsimp only
      refine J.seq ?_
      refine J.region ?_
      refine JL.go trivial (RX.lt rfl rfl) ?_
      refine JL.nil ?_
      refine J.seq ?_
      refine J.cond_d rfl (fun htlt => ?_) (fun htlt => ?_)
      · skip
        refine J.skip ?_
        refine J.seq ?_
        refine J.block ?_
        refine J.region ?_
        refine JL.go trivial (RX.movev (v := C.p) rfl) ?_
        refine JL.does trivial (EX.alloc H zr53 rfl) ?_
        rintro _ w ⟨bz, rfl, H⟩
        replace H : Hp w0 w ((Zn.zero bz).seg :: A.seg :: C.seg :: [(bu, cel ((Us).map Zn.p) 48)] :: [(bv, cel ((Vs).map Zn.p) 48)] :: ((Us).map Zn.seg ++ ((Vs).map Zn.seg ++ F))) := by rw [Zn.zero_seg]; exact H
        refine JL.go trivial (RX.movev (v := A.p) rfl) ?_
        refine JL.does trivial (EX.call rfl cl23 rfl ((zNeg_b (z := Zn.zero bz) (y := A) H (Zn.zero_ok bz) List.mem_cons_self hA))) ?_
        rintro _ w ⟨⟨nb, nv, nq, nc, nsl⟩, rfl, hNb, hNv, hN, H⟩
        simp only at hNb hNv
        have H0 := H
        subst hNb
        have H := H0
        refine JL.go trivial (RX.assignv (v := C.p) rfl) ?_
        refine JL.go trivial (RX.assignv (v := Value.pointer _) rfl) ?_
        refine JL.nil ?_
        refine J.inBlock ?_
        refine J.region ?_
        refine JL.go trivial (RX.add rfl rfl (wi (n := t + 1) (by omega) (by omega))) ?_
        refine JL.go trivial (RX.movev (v := Value.int _ _) rfl) ?_
        refine JL.nil ?_
        exact IH3 (t + 1, C, ⟨nb, nv, nq, nc, nsl⟩) _ _ (by simp only; omega) ⟨rfl, rfl, rfl, rfl, rfl, rfl, rfl, rfl, rfl, rfl, rfl, trivial⟩ ⟨rfl, rfl, rfl, trivial⟩ ⟨by simp only; omega, hC, hN, by simp only [rot, ← hAC, hNv], ((H.pull 1 rfl).drop).pull 1 rfl⟩
      · skip
        obtain rfl : t = 4 * j * k / re.length % 4 := by omega
        replace hAC : (A.v, C.v) = smR re im k j := by rw [hAC, smR, hx, hy]; rfl
        obtain ⟨zu, hzu, hzuo, hzuv⟩ := hU.2 k (by omega)
        obtain ⟨zv, hzv, hzvo, hzvv⟩ := hV.2 k (by omega)
        replace hzuv : zu.v = smU re im k j := hzuv.trans (if_pos rfl)
        replace hzvv : zv.v = smV re im k j := hzvv.trans (if_pos rfl)
        have hul : Us.length = re.length := hU.1
        have hvl : Vs.length = re.length := hV.1
        have hsu1 := hsu k j
        have hsv1 := hsv k j
        have hr1 := (hru k j).1
        have hr2 := (hru k j).2
        rw [← hAC] at hr1 hr2
        simp only at hr1 hr2
        have hj4 : j * 9223372036854775808 ≤ 4 * 9223372036854775808 := Nat.mul_le_mul (by omega) (Nat.le_refl _)
        refine J.exit rfl ?_
        refine J.seq ?_
        refine J.any hmix fun w hs => ?_
        replace H := H.same hs; clear hs
        refine JA.stage (listed := [false, false, false, false, false, false, false, false, false, false]) 9 [0, 1, 2, 3, 4, 5, 6, 7, 8] H (by kernel_rfl) rfl rfl ?_
        refine JI.go rfl trivial (fun w H => RX.movev (v := Value.slice _ _ _) rfl) ?_
        refine JI.go rfl trivial (fun w H => RX.movev (v := Value.int _ _) rfl) ?_
        refine JI.go rfl trivial (fun w H => RX.indexAddr rfl rfl sl46 (by omega) (by omega) (o' := k) (by omega)) ?_
        refine JI.go rfl trivial (fun w H => RX.load H rfl (i := 2) (v := zu.p) rfl (RowZ.p_at hzu) one48) ?_
        refine JI.go rfl trivial (fun w H => RX.movev (v := Value.slice _ _ _) rfl) ?_
        refine JI.go rfl trivial (fun w H => RX.movev (v := Value.int _ _) rfl) ?_
        refine JI.go rfl trivial (fun w H => RX.indexAddr rfl rfl sl46 (by omega) (by omega) (o' := k) (by omega)) ?_
        refine JI.go rfl trivial (fun w H => RX.load H rfl (i := 2) (v := zu.p) rfl (RowZ.p_at hzu) one48) ?_
        refine JI.go rfl trivial (fun w H => RX.movev (v := A.p) rfl) ?_
        refine JI.nil fun w H => ?_
        refine JL.does trivial (EX.call rfl cl24 rfl ((zAddAt_b (X := [A.seg, C.seg, [(bu, cel ((Us).map Zn.p) 48)], [(bv, cel ((Vs).map Zn.p) 48)]]) H hzu hzuo (by simp) hA (by rw [hzuv]; omega) (by omega)))) ?_
        rintro _ w ⟨z3, rfl, hz3b, hz3v, hz3, H⟩
        rw [← mapP_set hzu hz3b] at H
        refine JL.nil ?_
        refine J.any hmix fun w hs => ?_
        replace H := H.same hs; clear hs
        refine JA.stage (listed := [false, false, false, false, false, false, false, false, false, false]) 9 [0, 1, 2, 3, 4, 5, 6, 7, 8] H (by kernel_rfl) rfl rfl ?_
        refine JI.go rfl trivial (fun w H => RX.movev (v := Value.slice _ _ _) rfl) ?_
        refine JI.go rfl trivial (fun w H => RX.movev (v := Value.int _ _) rfl) ?_
        refine JI.go rfl trivial (fun w H => RX.indexAddr rfl rfl sl46 (by omega) (by omega) (o' := k) (by omega)) ?_
        refine JI.go rfl trivial (fun w H => RX.load H rfl (i := 3) (v := zv.p) rfl (RowZ.p_at hzv) one48) ?_
        refine JI.go rfl trivial (fun w H => RX.movev (v := Value.slice _ _ _) rfl) ?_
        refine JI.go rfl trivial (fun w H => RX.movev (v := Value.int _ _) rfl) ?_
        refine JI.go rfl trivial (fun w H => RX.indexAddr rfl rfl sl46 (by omega) (by omega) (o' := k) (by omega)) ?_
        refine JI.go rfl trivial (fun w H => RX.load H rfl (i := 3) (v := zv.p) rfl (RowZ.p_at hzv) one48) ?_
        refine JI.go rfl trivial (fun w H => RX.movev (v := C.p) rfl) ?_
        refine JI.nil fun w H => ?_
        refine JL.does trivial (EX.call rfl cl24 rfl ((zAddAt_b (X := [A.seg, C.seg, [(bu, cel ((Us.set k z3).map Zn.p) 48)], [(bv, cel ((Vs).map Zn.p) 48)]]) (Hp.swap (A := [A.seg, C.seg, [(bu, cel ((Us.set k z3).map Zn.p) 48)], [(bv, cel ((Vs).map Zn.p) 48)]]) H) hzv hzvo (by simp) hC (by rw [hzvv]; omega) (by omega)))) ?_
        rintro _ w ⟨z4, rfl, hz4b, hz4v, hz4, H⟩
        replace H := Hp.swap (A := [A.seg, C.seg, [(bu, cel ((Us.set k z3).map Zn.p) 48)], [(bv, cel ((Vs).map Zn.p) 48)]]) H
        rw [← mapP_set hzv hz4b] at H
        refine JL.nil ?_
        refine J.inBlock ?_
        refine J.region ?_
        refine JL.go trivial (RX.add rfl rfl (wi (n := j + 1) (by omega) (by omega))) ?_
        refine JL.go trivial (RX.movev (v := Value.int _ _) rfl) ?_
        refine JL.nil ?_
        refine IH2 (j + 1, Us.set k z3, Vs.set k z4) _ _ (by simp only; omega) ⟨rfl, rfl, rfl, rfl, rfl, rfl, rfl, rfl, rfl, trivial⟩ ⟨rfl, trivial⟩ ⟨by simp only; omega, (hU.set hz3).ext fun i hi => ?_, (hV.set hz4).ext fun i hi => ?_, H.drop.drop⟩
        · simp only
          by_cases e : i = k
          · subst e; rw [if_pos rfl, if_pos rfl, hz3v, hzuv]; simp only [smU, ssum, ← hAC]
          · rw [if_neg e, if_neg e, if_neg e]
        · simp only
          by_cases e : i = k
          · subst e; rw [if_pos rfl, if_pos rfl, hz4v, hzvv]; simp only [smV, ssum, ← hAC]
          · rw [if_neg e, if_neg e, if_neg e]
    · skip
      obtain rfl : j = re.length := by omega
      refine J.exit rfl ?_
      refine J.inBlock ?_
      refine J.region ?_
      refine JL.go trivial (RX.add rfl rfl (wi (n := k + 1) (by omega) (by omega))) ?_
      refine JL.go trivial (RX.movev (v := Value.int _ _) rfl) ?_
      refine JL.nil ?_
      refine IH (k + 1, Us, Vs) _ _ (by simp only; omega) ⟨rfl, rfl, rfl, rfl, rfl, rfl, trivial⟩ ⟨rfl, trivial⟩ ⟨by simp only; omega, hU.ext fun i hi => ?_, hV.ext fun i hi => ?_, H⟩
      · simp only
        by_cases e : i = k
        · subst e; rw [if_pos rfl, if_pos (by omega)]
        · rw [if_neg e]
          by_cases e2 : i < k
          · rw [if_pos e2, if_pos (by omega)]
          · rw [if_neg e2, if_neg (by omega)]
      · simp only
        by_cases e : i = k
        · subst e; rw [if_pos rfl, if_pos (by omega)]
        · rw [if_neg e]
          by_cases e2 : i < k
          · rw [if_pos e2, if_pos (by omega)]
          · rw [if_neg e2, if_neg (by omega)]
  · skip
    obtain rfl : k = re.length := by omega
    replace hU := hU.ext (g := fun i => smU re im i re.length) fun i hi => if_pos hi
    replace hV := hV.ext (g := fun i => smV re im i re.length) fun i hi => if_pos hi
    refine J.exit rfl ?_
    refine J.seq ?_
    refine J.region ?_
    refine JL.go trivial (RX.movev (v := .slice _ _ _) rfl) ?_
    refine JL.does trivial (EX.call rfl cl25 rfl ((whole_u H ((hE2 (Vs.map Zn.seg)).sub fun e he => mem_app (X := [(bu, cel ((Us).map Zn.p) 48)] :: [(bv, cel ((Vs).map Zn.p) 48)] :: Us.map Zn.seg) he) (SlAt.here List.take_length) (fun z hz => List.mem_cons_of_mem _ (List.mem_cons_of_mem _ (List.mem_append_left _ (List.mem_map_of_mem hz)))) hU (by omega)))) ?_
    rintro _ w ⟨p1, m1, k1, e1, sl1, rfl, he1, hW1, H⟩
    refine JL.go trivial (RX.movev (v := .tuple _) rfl) ?_
    refine JL.go trivial (RX.extract rfl rfl) ?_
    refine JL.go trivial (RX.extract (v := errV E e1) rfl rfl) ?_
    refine JL.go trivial (RX.assignv (v := Value.slice _ _ _) rfl) ?_
    refine JL.go trivial (RX.assignv (v := errV E e1) rfl) ?_
    refine JL.nil ?_
    refine J.seq ?_
    refine J.region ?_
    refine JL.go trivial (RX.movev (v := Value.slice _ _ _) rfl) ?_
    refine JL.does trivial (EX.call rfl cl25 rfl ((whole_u H (((hE2 (Vs.map Zn.seg)).sub fun e he => mem_app (X := [(bu, cel ((Us).map Zn.p) 48)] :: [(bv, cel ((Vs).map Zn.p) 48)] :: Us.map Zn.seg) he).cons) (SlAt.cons (SlAt.cons (SlAt.here List.take_length))) (fun z hz => List.mem_cons_of_mem _ (List.mem_cons_of_mem _ (List.mem_cons_of_mem _ (List.mem_append_right _ (List.mem_append_left _ (List.mem_map_of_mem hz)))))) hV (by omega)))) ?_
    rintro _ w ⟨p2, m2, k2, e2, sl2, rfl, he2, hW2, H⟩
    replace H : Hp w0 w (sl2 :: sl1 :: F) := Hp.cut (A := [sl2, sl1]) (B := Vs.map Zn.seg) (Hp.cut (A := [sl2, sl1]) (B := [(bu, cel ((Us).map Zn.p) 48)] :: [(bv, cel ((Vs).map Zn.p) 48)] :: Us.map Zn.seg) H)
    obtain ⟨hi1, hn1⟩ := errV_ie hE he1
    obtain ⟨hi2, hn2⟩ := errV_ie hE he2
    replace hW1 : (e1 = 0 ∧ i64all (smA0 re im) ∧ ∃ b, p1 = some ⟨b, 0, none⟩ ∧ m1 = re.length ∧ k1 = re.length ∧ sl1 = [(b, cel (i64sV (smA0 re im)) 2)]) ∨ (e1 = 19 ∧ ¬ i64all (smA0 re im)) := hW1
    replace hW2 : (e2 = 0 ∧ i64all (smB0 re im) ∧ ∃ b, p2 = some ⟨b, 0, none⟩ ∧ m2 = re.length ∧ k2 = re.length ∧ sl2 = [(b, cel (i64sV (smB0 re im)) 2)]) ∨ (e2 = 19 ∧ ¬ i64all (smB0 re im)) := hW2
    refine JL.go trivial (RX.movev (v := .tuple _) rfl) ?_
    refine JL.go trivial (RX.extract rfl rfl) ?_
    refine JL.go trivial (RX.extract (v := errV E e2) rfl rfl) ?_
    refine JL.go trivial (RX.assignv (v := Value.slice _ _ _) rfl) ?_
    refine JL.go trivial (RX.assignv (v := errV E e2) rfl) ?_
    refine JL.nil ?_
    refine J.seq ?_
    refine J.seq ?_
    refine J.region ?_
    refine JL.go trivial (RX.movev (v := errV E e1) rfl) ?_
    refine JL.go trivial (RX.ifnil_neq (v := errV E e1) rfl rfl hi1 if25) ?_
    refine JL.go trivial (RX.movev (v := Value.bool _) rfl) ?_
    refine JL.splitS 107 rfl (fun hg => ?_) (fun hg => ?_)
    · skip
      first | have hgp := of_decide_eq_true hg | skip
      have he1n : e1 ≠ 0 := by rw [hn1] at hg; simpa using hg
      refine JL.no ⟨_, rfl, gno hg⟩ ?_
      refine JL.no ⟨_, rfl, gno hg⟩ ?_
      refine JL.go trivial (RX.pick_t rfl hg) ?_
      refine JL.nil ?_
      refine J.cond_t rfl rfl ?_
      refine J.seq ?_
      refine J.quietH H hmix (by kernel_rfl) ?_
      refine JQ.go trivial (fun w H => RX.loadG H rfl (hE.cons.cons.at_ 19 (by decide) (by decide)).at_ one25) ?_
      refine JQ.go trivial (fun w H => RX.assign) ?_
      refine JQ.go trivial (fun w H => RX.assign) ?_
      refine JQ.go trivial (fun w H => RX.assignv (v := E 19) rfl) ?_
      refine JQ.nil fun w H => ?_
      refine J.ret3 (v := Value.slice _ _ _) Tryz.func13 rfl rfl rfl rfl ?_
      have he : smE re im = 19 := by
        unfold smE
        rw [if_pos (by omega), if_neg]
        rintro ⟨h1, _⟩
        rcases hW1 with ⟨h, _⟩ | ⟨_, h⟩
        · exact he1n h
        · exact h h1
      refine ⟨_, rfl, ?_⟩
      unfold smA smB
      rw [he]
      exact ⟨none, none, 0, 0, [], [], rfl, OwnSl.nil, OwnSl.nil, H.drop.drop.nil.nil⟩
    · skip
      first | have hgp := of_decide_eq_false hg | skip
      have he1z : e1 = 0 := by rw [hn1] at hg; simpa using hg
      refine JL.go ⟨_, rfl, hg⟩ (RX.movev (v := errV E e2) rfl) ?_
      refine JL.go ⟨_, rfl, hg⟩ (RX.ifnil_neq (v := errV E e2) rfl rfl hi2 if25) ?_
      refine JL.go trivial (RX.pick_f rfl hg) ?_
      refine JL.nil ?_
      refine J.cond rfl (fun hc => ?_) (fun hc => ?_)
      · skip
        have he2n : e2 ≠ 0 := by rw [hn2] at hc; simpa using hc
        refine J.seq ?_
        refine J.quietH H hmix (by kernel_rfl) ?_
        refine JQ.go trivial (fun w H => RX.loadG H rfl (hE.cons.cons.at_ 19 (by decide) (by decide)).at_ one25) ?_
        refine JQ.go trivial (fun w H => RX.assign) ?_
        refine JQ.go trivial (fun w H => RX.assign) ?_
        refine JQ.go trivial (fun w H => RX.assignv (v := E 19) rfl) ?_
        refine JQ.nil fun w H => ?_
        refine J.ret3 (v := Value.slice _ _ _) Tryz.func13 rfl rfl rfl rfl ?_
        have he : smE re im = 19 := by
          unfold smE
          rw [if_pos (by omega), if_neg]
          rintro ⟨_, h1⟩
          rcases hW2 with ⟨h, _⟩ | ⟨_, h⟩
          · exact he2n h
          · exact h h1
        refine ⟨_, rfl, ?_⟩
        unfold smA smB
        rw [he]
        exact ⟨none, none, 0, 0, [], [], rfl, OwnSl.nil, OwnSl.nil, H.drop.drop.nil.nil⟩
      · skip
        have he2z : e2 = 0 := by rw [hn2] at hc; simpa using hc
        refine J.skip ?_
        refine J.seq ?_
        refine J.region ?_
        refine JL.go trivial (RX.movev (v := Value.slice _ _ _) rfl) ?_
        refine JL.go trivial (RX.movev (v := Value.slice _ _ _) rfl) ?_
        refine JL.go trivial (RX.assignv (v := Value.slice _ _ _) rfl) ?_
        refine JL.go trivial (RX.assignv (v := Value.slice _ _ _) rfl) ?_
        refine JL.go trivial (RX.assign) ?_
        refine JL.nil ?_
        refine J.ret3 (v := Value.slice _ _ _) Tryz.func13 rfl rfl rfl rfl ?_
        obtain ⟨_, ha1, b1, rfl, rfl, rfl, rfl⟩ | ⟨h, _⟩ := hW1
        rotate_left
        · omega
        obtain ⟨_, ha2, b2, rfl, rfl, rfl, rfl⟩ | ⟨h, _⟩ := hW2
        rotate_left
        · omega
        have he : smE re im = 0 := by
          unfold smE
          rw [if_pos (by omega), if_pos ⟨ha1, ha2⟩]
        have hlA : (smA0 re im).length = re.length := by simp [smA0]
        have hlB : (smB0 re im).length = re.length := by simp [smB0]
        refine ⟨_, rfl, ?_⟩
        unfold smA smB
        rw [he, if_pos rfl, if_pos rfl, hlA, hlB]
        have o1 := ownI (b := b1) (smA0 re im)
        have o2 := ownI (b := b2) (smB0 re im)
        rw [hlA] at o1
        rw [hlB] at o2
        exact ⟨_, _, _, _, _, _, rfl, o1, o2, H⟩
set_option maxHeartbeats 1600000 in
theorem small4_b {w0 w : World} {F : List Seg} {E : Nat → Value} {Q : Nat → Addr} (H : Hp w0 w F) (hE : Errs F E Q) {re im : List Int} {pr pi : Option Addr} {cr ci : Nat} (hsr : SlAt F pr (i64sV re)) (hsi : SlAt F pi (i64sV im)) (hn : re.length = 4) (hm : im.length = re.length) (hre : ∀ x ∈ re, x.natAbs ≤ 9223372036854775808) (him : ∀ x ∈ im, x.natAbs ≤ 9223372036854775808) : Ret Tryz.prog 13 [.slice pr re.length cr, .slice pi im.length ci] w fun v w' => ∃ q1 q2 c1 c2 s1 s2, v = .tuple #[.slice q1 (smA re im).length c1, .slice q2 (smB re im).length c2, errV E (smE re im)] ∧ OwnSl 2 1 q1 (smA re im).length c1 (i64sV (smA re im)) s1 ∧ OwnSl 2 1 q2 (smB re im).length c2 (i64sV (smB re im)) s2 ∧ Hp w0 w' (s2 :: s1 :: F) := by
  refine Calls.of_J (n := 114) Tryz.func13 rfl rfl rfl ?_
  refine J.seq ?_
  have hFL : ∀ {X F : List Seg} {p : Option Addr} {xs : List Value}, SlAt F p xs → SlAt (X ++ F) p xs := fun h => h.perm fun e he => mem_app he
  have hE2 : ∀ X : List Seg, Errs (X ++ F) E Q := fun X => hE.sub fun e he => mem_app he
  have hN : 1 ≤ re.length ∧ re.length ≤ 4 := by omega
  have hru : ∀ k j, (smR re im k j).1.natAbs ≤ 9223372036854775808 ∧ (smR re im k j).2.natAbs ≤ 9223372036854775808 := fun k j => rot_le (getD_le hre j) (getD_le him j) _
  have hsu : ∀ k j, (smU re im k j).natAbs ≤ j * 9223372036854775808 := fun k j => ssum_le (fun j => (hru k j).1) j
  have hsv : ∀ k j, (smV re im k j).natAbs ≤ j * 9223372036854775808 := fun k j => ssum_le (fun j => (hru k j).2) j
  refine J.region ?_
  refine JL.go trivial (RX.assign) ?_
  refine JL.go trivial (RX.assign) ?_
  refine JL.go trivial (RX.assign) ?_
  refine JL.nil ?_
  refine J.seq ?_
  refine J.region ?_
  refine JL.go trivial (RX.movev (v := Value.slice _ _ _) rfl) ?_
  refine JL.go trivial (RX.len_slice rfl (by rw [sl22]; rfl) rfl) ?_
  refine JL.go trivial (RX.assignv (v := Value.int _ _) rfl) ?_
  refine JL.nil ?_
  refine J.seq ?_
  refine J.seq ?_
  refine J.region ?_
  refine JL.go trivial (RX.movev (v := Value.slice _ _ _) rfl) ?_
  refine JL.go trivial (RX.len_slice rfl (by rw [sl22]; rfl) rfl) ?_
  refine JL.go trivial (RX.movev (v := Value.int _ _) rfl) ?_
  refine JL.go trivial (RX.ne rfl rfl) ?_
  refine JL.go trivial (RX.movev (v := Value.bool _) rfl) ?_
  refine JL.go ⟨_, rfl, (decide_eq_false (by omega))⟩ (RX.movev (v := Value.int _ _) rfl) ?_
  refine JL.go ⟨_, rfl, (decide_eq_false (by omega))⟩ (RX.ne rfl rfl) ?_
  refine JL.go ⟨_, rfl, (decide_eq_false (by omega))⟩ (RX.movev (v := Value.bool _) rfl) ?_
  refine JL.go ⟨_, rfl, (decide_eq_true (by omega))⟩ (RX.movev (v := Value.int _ _) rfl) ?_
  refine JL.go ⟨_, rfl, (decide_eq_true (by omega))⟩ (RX.ne rfl rfl) ?_
  refine JL.go ⟨_, rfl, (decide_eq_false (by omega))⟩ (RX.pick_t rfl (decide_eq_true (by omega))) ?_
  refine JL.go ⟨_, rfl, (decide_eq_false (by omega))⟩ (RX.movev (v := Value.bool _) rfl) ?_
  refine JL.go ⟨_, rfl, (decide_eq_true (by omega))⟩ (RX.movev (v := Value.int _ _) rfl) ?_
  refine JL.go ⟨_, rfl, (decide_eq_true (by omega))⟩ (RX.ne rfl rfl) ?_
  refine JL.go ⟨_, rfl, (decide_eq_false (by omega))⟩ (RX.pick_t rfl (decide_eq_true (by omega))) ?_
  refine JL.go trivial (RX.pick_f rfl (decide_eq_false (by omega))) ?_
  refine JL.nil ?_
  refine J.cond_f rfl (decide_eq_false (by omega)) ?_
  refine J.skip ?_
  refine J.seq ?_
  refine J.region ?_
  refine JL.go trivial (RX.movev (v := Value.int _ _) rfl) ?_
  refine JL.does trivial (EX.call rfl cl21 rfl ((none_b H (by omega)))) ?_
  rintro _ w ⟨bu, Us, rfl, hU, H⟩
  refine JL.go trivial (RX.movev (v := Value.int _ _) rfl) ?_
  refine JL.does trivial (EX.call rfl cl21 rfl ((none_b H (by omega)))) ?_
  rintro _ w ⟨bv, Vs, rfl, hV, H⟩
  replace H := none_two H
  refine JL.go trivial (RX.assignv (v := Value.slice _ _ _) rfl) ?_
  refine JL.go trivial (RX.assignv (v := Value.slice _ _ _) rfl) ?_
  refine JL.nil ?_
  refine J.seq ?_
  refine J.seq ?_
  refine J.region ?_
  refine JL.go trivial (RX.movev (v := Value.int _ _) rfl) ?_
  refine JL.go trivial (RX.move) ?_
  refine JL.nil ?_
  refine J.block ?_
  refine J.loop (ι := Nat × List Zn × List Zn) (S := fun z => [(42, .int .i64 ((z.1 : Nat) : Int))]) (Φ := fun z w => z.1 ≤ re.length ∧ RowZ z.2.1 re.length (fun i => if i < z.1 then smU re im i re.length else 0) ∧ RowZ z.2.2 re.length (fun i => if i < z.1 then smV re im i re.length else 0) ∧ Hp w0 w ([(bu, cel ((z.2.1).map Zn.p) 48)] :: [(bv, cel ((z.2.2).map Zn.p) 48)] :: ((z.2.1).map Zn.seg ++ ((z.2.2).map Zn.seg ++ F)))) (μ := fun z => re.length - z.1) (C := [(0, _), (1, _), (7, _), (8, _), (9, _), (41, _)]) (0, Us, Vs) ⟨rfl, rfl, rfl, rfl, rfl, rfl, trivial⟩ ⟨rfl, trivial⟩ ?_ ?_
  · exact ⟨by simp, hU.ext fun i _ => by simp, hV.ext fun i _ => by simp, H⟩
  clear H hU hV
  rintro ⟨k, Us, Vs⟩ ρ w ⟨hk, hU, hV, H⟩ IH
  simp only at hk hU hV H
  dsimp only
  refine J.seq ?_
  refine J.region ?_
  refine JL.go trivial (RX.lt rfl rfl) ?_
  refine JL.nil ?_
  refine J.seq ?_
  refine J.cond_d rfl (fun hklt => ?_) (fun hklt => ?_)
  · skip
    refine J.skip ?_
    refine J.seq ?_
    refine J.block ?_
    refine J.seq ?_
    refine J.region ?_
    refine JL.go trivial (RX.movev (v := Value.int _ _) rfl) ?_
    refine JL.go trivial (RX.assignv (v := Value.int _ _) rfl) ?_
    refine JL.nil ?_
    refine J.seq ?_
    refine J.region ?_
    refine JL.go trivial (RX.movev (v := Value.int _ _) rfl) ?_
    refine JL.go trivial (RX.move) ?_
    refine JL.nil ?_
    refine J.block ?_
    refine J.loop (ι := Nat × List Zn × List Zn) (S := fun z => [(46, .int .i64 ((z.1 : Nat) : Int))]) (Φ := fun z w => z.1 ≤ re.length ∧ RowZ z.2.1 re.length (fun i => if i = k then smU re im k z.1 else if i < k then smU re im i re.length else 0) ∧ RowZ z.2.2 re.length (fun i => if i = k then smV re im k z.1 else if i < k then smV re im i re.length else 0) ∧ Hp w0 w ([(bu, cel ((z.2.1).map Zn.p) 48)] :: [(bv, cel ((z.2.2).map Zn.p) 48)] :: ((z.2.1).map Zn.seg ++ ((z.2.2).map Zn.seg ++ F)))) (μ := fun z => re.length - z.1) (C := [(0, _), (1, _), (7, _), (8, _), (9, _), (10, _), (41, _), (42, _), (45, _)]) (0, Us, Vs) ⟨rfl, rfl, rfl, rfl, rfl, rfl, rfl, rfl, rfl, trivial⟩ ⟨rfl, trivial⟩ ?_ ?_
    · exact ⟨by simp, hU.ext fun i _ => sm_init rfl, hV.ext fun i _ => sm_init rfl, H⟩
    clear H hU hV
    rintro ⟨j, Us, Vs⟩ ρ w ⟨hj, hU, hV, H⟩ IH2
    simp only at hj hU hV H
    dsimp only
    refine J.seq ?_
    refine J.region ?_
    refine JL.go trivial (RX.lt rfl rfl) ?_
    refine JL.nil ?_
    refine J.seq ?_
    refine J.cond_d rfl (fun hjlt => ?_) (fun hjlt => ?_)
    · skip
      obtain ⟨x, hx⟩ : ∃ x, re[j]? = some x := ⟨_, List.getElem?_eq_getElem (by omega)⟩
      obtain ⟨y, hy⟩ : ∃ y, im[j]? = some y := ⟨_, List.getElem?_eq_getElem (by omega)⟩
      have hx1 := hre x (List.mem_of_getElem? hx)
      have hy1 := him y (List.mem_of_getElem? hy)
      obtain ⟨qa, oa, rfl, hqa⟩ := hsr.some (by rw [i64sV_len]; omega)
      obtain ⟨qb, ob, rfl, hqb⟩ := hsi.some (by rw [i64sV_len]; omega)
      refine J.skip ?_
      refine J.seq ?_
      refine J.block ?_
      refine J.seq ?_
      refine J.region ?_
      refine JL.go trivial (RX.movev (v := Value.int _ _) rfl) ?_
      refine JL.go trivial (RX.assignv (v := Value.int _ _) rfl) ?_
      refine JL.nil ?_
      refine J.seq ?_
      refine J.held (fun w => Hp w0 w ([(bu, cel ((Us).map Zn.p) 48)] :: [(bv, cel ((Vs).map Zn.p) 48)] :: ((Us).map Zn.seg ++ ((Vs).map Zn.seg ++ F)))) hmix fun w hs => ?_
      replace H := H.same hs; clear hs
      have hS : Hp w0 w ([(bu, cel ((Us).map Zn.p) 48)] :: [(bv, cel ((Vs).map Zn.p) 48)] :: ((Us).map Zn.seg ++ ((Vs).map Zn.seg ++ F))) := by first | exact H | exact H.drop | exact H.drop.drop | exact H.drop.drop.drop | exact H.drop.drop.drop.drop | exact H.drop.drop.drop.drop.drop | exact H.drop.drop.drop.drop.drop.drop | exact H.drop.drop.drop.drop.drop.drop.drop | exact H.drop.drop.drop.drop.drop.drop.drop.drop
      refine JH.take 0 (listed' := [true, false, false, false, false, false, false, false, false, false, false, false]) rfl (by kernel_rfl) (by kernel_rfl) (by kernel_rfl) rfl trivial (fun w H => RX.movev (v := Value.slice _ _ _) rfl) hS ?_
      refine JH.take 1 (listed' := [true, true, false, false, false, false, false, false, false, false, false, false]) rfl (by kernel_rfl) (by kernel_rfl) (by kernel_rfl) rfl trivial (fun w H => RX.movev (v := Value.int _ _) rfl) hS ?_
      refine JH.take 2 (listed' := [true, true, true, false, false, false, false, false, false, false, false, false]) rfl (by kernel_rfl) (by kernel_rfl) (by kernel_rfl) rfl trivial (fun w H => RX.indexAddr rfl rfl sl22 (by omega) (by omega) (o' := oa + j) (by omega)) hS ?_
      refine JH.take 3 (listed' := [true, true, true, true, false, false, false, false, false, false, false, false]) rfl (by kernel_rfl) (by kernel_rfl) (by kernel_rfl) rfl trivial (fun w H => RX.loadS H (hFL (X := [(bu, cel ((Us).map Zn.p) 48)] :: [(bv, cel ((Vs).map Zn.p) 48)] :: Us.map Zn.seg) (hFL (X := Vs.map Zn.seg) hsr)) rfl (j := j) rfl (v := .int .i64 x) (i64sV_get hx) one2) hS ?_
      refine JH.take 5 (listed' := [true, true, true, true, false, true, false, false, false, false, false, false]) rfl (by kernel_rfl) (by kernel_rfl) (by kernel_rfl) rfl trivial (fun w H => RX.movev (v := Value.slice _ _ _) rfl) hS ?_
      refine JH.take 6 (listed' := [true, true, true, true, false, true, true, false, false, false, false, false]) rfl (by kernel_rfl) (by kernel_rfl) (by kernel_rfl) rfl trivial (fun w H => RX.movev (v := Value.int _ _) rfl) hS ?_
      refine JH.take 7 (listed' := [true, true, true, true, false, true, true, true, false, false, false, false]) rfl (by kernel_rfl) (by kernel_rfl) (by kernel_rfl) rfl trivial (fun w H => RX.indexAddr rfl rfl sl22 (by omega) (by omega) (o' := ob + j) (by omega)) hS ?_
      refine JH.take 8 (listed' := [true, true, true, true, false, true, true, true, true, false, false, false]) rfl (by kernel_rfl) (by kernel_rfl) (by kernel_rfl) rfl trivial (fun w H => RX.loadS H (hFL (X := [(bu, cel ((Us).map Zn.p) 48)] :: [(bv, cel ((Vs).map Zn.p) 48)] :: Us.map Zn.seg) (hFL (X := Vs.map Zn.seg) hsi)) rfl (j := j) rfl (v := .int .i64 y) (i64sV_get hy) one2) hS ?_
      refine JH.all [4] (by kernel_rfl) (by decide) ?_
      refine JHO.does (listed' := [true, true, true, true, true, true, true, true, true, false, false, false]) rfl rfl trivial (EX.call rfl cl22 rfl ((zNew_b H (by omega)))) ?_
      rintro _ w ⟨A, rfl, hAv, hA, H⟩
      have hS : Hp w0 w ([(bu, cel ((Us).map Zn.p) 48)] :: [(bv, cel ((Vs).map Zn.p) 48)] :: ((Us).map Zn.seg ++ ((Vs).map Zn.seg ++ F))) := by first | exact H | exact H.drop | exact H.drop.drop | exact H.drop.drop.drop | exact H.drop.drop.drop.drop | exact H.drop.drop.drop.drop.drop | exact H.drop.drop.drop.drop.drop.drop | exact H.drop.drop.drop.drop.drop.drop.drop | exact H.drop.drop.drop.drop.drop.drop.drop.drop
      refine ⟨hS, ?_⟩
      refine JH.all [9] (by kernel_rfl) (by decide) ?_
      refine JHO.does (listed' := [true, true, true, true, true, true, true, true, true, true, false, false]) rfl rfl trivial (EX.call rfl cl22 rfl ((zNew_b H (by omega)))) ?_
      rintro _ w ⟨C, rfl, hCv, hC, H⟩
      have hS : Hp w0 w ([(bu, cel ((Us).map Zn.p) 48)] :: [(bv, cel ((Vs).map Zn.p) 48)] :: ((Us).map Zn.seg ++ ((Vs).map Zn.seg ++ F))) := by first | exact H | exact H.drop | exact H.drop.drop | exact H.drop.drop.drop | exact H.drop.drop.drop.drop | exact H.drop.drop.drop.drop.drop | exact H.drop.drop.drop.drop.drop.drop | exact H.drop.drop.drop.drop.drop.drop.drop | exact H.drop.drop.drop.drop.drop.drop.drop.drop
      refine ⟨hS, ?_⟩
      refine JH.take 10 (listed' := [true, true, true, true, true, true, true, true, true, true, true, false]) rfl (by kernel_rfl) (by kernel_rfl) (by kernel_rfl) rfl trivial (fun w H => RX.assignv (v := A.p) rfl) hS ?_
      refine JH.take 11 (listed' := [true, true, true, true, true, true, true, true, true, true, true, true]) rfl (by kernel_rfl) (by kernel_rfl) (by kernel_rfl) rfl trivial (fun w H => RX.assignv (v := C.p) rfl) hS ?_
      refine JH.done (by kernel_rfl) ?_
      refine J.seq ?_
      refine J.seq ?_
      replace H := H.pull 1 rfl
      have hjk : 4 * j * k ≤ 16 * 3 := Nat.mul_le_mul (show 4 * j ≤ 16 by omega) (show k ≤ 3 by omega)
      have hdv : 4 * j * k / re.length ≤ 4 * j * k := Nat.div_le_self _ _
      refine J.region ?_
      refine JL.go trivial (RX.movev (v := Value.int _ _) rfl) ?_
      refine JL.go trivial (RX.mul rfl rfl (wi (n := 4 * j) (by omega) (by omega))) ?_
      refine JL.go trivial (RX.movev (v := Value.int _ _) rfl) ?_
      refine JL.go trivial (RX.mul rfl rfl (wi (n := 4 * j * k) (Int.natCast_mul _ _).symm (by omega))) ?_
      refine JL.go trivial (RX.movev (v := Value.int _ _) rfl) ?_
      refine JL.go trivial (RX.quo rfl rfl (by omega) (r := ((4 * j * k / re.length : Nat) : Int)) (by rw [quo_nat]; exact wi rfl (by omega))) ?_
      refine JL.go trivial (RX.rem rfl rfl (by omega) (rem_nat (b := 4))) ?_
      refine JL.go trivial (RX.move) ?_
      refine JL.nil ?_
      refine J.block ?_
      refine J.loop (ι := Nat × Zn × Zn) (S := fun z => [(66, .int .i64 ((z.1 : Nat) : Int)), (12, z.2.1.p), (13, z.2.2.p)]) (Φ := fun z w => z.1 ≤ 4 * j * k / re.length % 4 ∧ z.2.1.ok ∧ z.2.2.ok ∧ (z.2.1.v, z.2.2.v) = rot z.1 (x, y) ∧ Hp w0 w (z.2.1.seg :: z.2.2.seg :: [(bu, cel ((Us).map Zn.p) 48)] :: [(bv, cel ((Vs).map Zn.p) 48)] :: ((Us).map Zn.seg ++ ((Vs).map Zn.seg ++ F)))) (μ := fun z => 4 * j * k / re.length % 4 - z.1) (C := [(0, _), (1, _), (7, _), (8, _), (9, _), (10, _), (41, _), (42, _), (45, _), (46, _), (65, _)]) (0, A, C) ⟨rfl, rfl, rfl, rfl, rfl, rfl, rfl, rfl, rfl, rfl, rfl, trivial⟩ ⟨rfl, rfl, rfl, trivial⟩ ?_ ?_
      · exact ⟨by simp, hA, hC, by simp only [rot, hAv, hCv], H⟩
      clear H hA hC hAv hCv
      rintro ⟨t, A, C⟩ ρ w ⟨ht, hA, hC, hAC, H⟩ IH3
      simp only at ht hA hC hAC H
      dsimp only
      refine J.seq ?_
      refine J.region ?_
      refine JL.go trivial (RX.lt rfl rfl) ?_
      refine JL.nil ?_
      refine J.seq ?_
      refine J.cond_d rfl (fun htlt => ?_) (fun htlt => ?_)
      · skip
        refine J.skip ?_
        refine J.seq ?_
        refine J.block ?_
        refine J.region ?_
        refine JL.go trivial (RX.movev (v := C.p) rfl) ?_
        refine JL.does trivial (EX.alloc H zr53 rfl) ?_
        rintro _ w ⟨bz, rfl, H⟩
        replace H : Hp w0 w ((Zn.zero bz).seg :: A.seg :: C.seg :: [(bu, cel ((Us).map Zn.p) 48)] :: [(bv, cel ((Vs).map Zn.p) 48)] :: ((Us).map Zn.seg ++ ((Vs).map Zn.seg ++ F))) := by rw [Zn.zero_seg]; exact H
        refine JL.go trivial (RX.movev (v := A.p) rfl) ?_
        refine JL.does trivial (EX.call rfl cl23 rfl ((zNeg_b (z := Zn.zero bz) (y := A) H (Zn.zero_ok bz) List.mem_cons_self hA))) ?_
        rintro _ w ⟨⟨nb, nv, nq, nc, nsl⟩, rfl, hNb, hNv, hN, H⟩
        simp only at hNb hNv
        have H0 := H
        subst hNb
        have H := H0
        refine JL.go trivial (RX.assignv (v := C.p) rfl) ?_
        refine JL.go trivial (RX.assignv (v := Value.pointer _) rfl) ?_
        refine JL.nil ?_
        refine J.inBlock ?_
        refine J.region ?_
        refine JL.go trivial (RX.add rfl rfl (wi (n := t + 1) (by omega) (by omega))) ?_
        refine JL.go trivial (RX.movev (v := Value.int _ _) rfl) ?_
        refine JL.nil ?_
        exact IH3 (t + 1, C, ⟨nb, nv, nq, nc, nsl⟩) _ _ (by simp only; omega) ⟨rfl, rfl, rfl, rfl, rfl, rfl, rfl, rfl, rfl, rfl, rfl, trivial⟩ ⟨rfl, rfl, rfl, trivial⟩ ⟨by simp only; omega, hC, hN, by simp only [rot, ← hAC, hNv], ((H.pull 1 rfl).drop).pull 1 rfl⟩
      · skip
        obtain rfl : t = 4 * j * k / re.length % 4 := by omega
        replace hAC : (A.v, C.v) = smR re im k j := by rw [hAC, smR, hx, hy]; rfl
        obtain ⟨zu, hzu, hzuo, hzuv⟩ := hU.2 k (by omega)
        obtain ⟨zv, hzv, hzvo, hzvv⟩ := hV.2 k (by omega)
        replace hzuv : zu.v = smU re im k j := hzuv.trans (if_pos rfl)
        replace hzvv : zv.v = smV re im k j := hzvv.trans (if_pos rfl)
        have hul : Us.length = re.length := hU.1
        have hvl : Vs.length = re.length := hV.1
        have hsu1 := hsu k j
        have hsv1 := hsv k j
        have hr1 := (hru k j).1
        have hr2 := (hru k j).2
        rw [← hAC] at hr1 hr2
        simp only at hr1 hr2
        have hj4 : j * 9223372036854775808 ≤ 4 * 9223372036854775808 := Nat.mul_le_mul (by omega) (Nat.le_refl _)
        refine J.exit rfl ?_
        refine J.seq ?_
        refine J.any hmix fun w hs => ?_
        replace H := H.same hs; clear hs
        refine JA.stage (listed := [false, false, false, false, false, false, false, false, false, false]) 9 [0, 1, 2, 3, 4, 5, 6, 7, 8] H (by kernel_rfl) rfl rfl ?_
        refine JI.go rfl trivial (fun w H => RX.movev (v := Value.slice _ _ _) rfl) ?_
        refine JI.go rfl trivial (fun w H => RX.movev (v := Value.int _ _) rfl) ?_
        refine JI.go rfl trivial (fun w H => RX.indexAddr rfl rfl sl46 (by omega) (by omega) (o' := k) (by omega)) ?_
        refine JI.go rfl trivial (fun w H => RX.load H rfl (i := 2) (v := zu.p) rfl (RowZ.p_at hzu) one48) ?_
        refine JI.go rfl trivial (fun w H => RX.movev (v := Value.slice _ _ _) rfl) ?_
        refine JI.go rfl trivial (fun w H => RX.movev (v := Value.int _ _) rfl) ?_
        refine JI.go rfl trivial (fun w H => RX.indexAddr rfl rfl sl46 (by omega) (by omega) (o' := k) (by omega)) ?_
        refine JI.go rfl trivial (fun w H => RX.load H rfl (i := 2) (v := zu.p) rfl (RowZ.p_at hzu) one48) ?_
        refine JI.go rfl trivial (fun w H => RX.movev (v := A.p) rfl) ?_
        refine JI.nil fun w H => ?_
        refine JL.does trivial (EX.call rfl cl24 rfl ((zAddAt_b (X := [A.seg, C.seg, [(bu, cel ((Us).map Zn.p) 48)], [(bv, cel ((Vs).map Zn.p) 48)]]) H hzu hzuo (by simp) hA (by rw [hzuv]; omega) (by omega)))) ?_
        rintro _ w ⟨z3, rfl, hz3b, hz3v, hz3, H⟩
        rw [← mapP_set hzu hz3b] at H
        refine JL.nil ?_
        refine J.any hmix fun w hs => ?_
        replace H := H.same hs; clear hs
        refine JA.stage (listed := [false, false, false, false, false, false, false, false, false, false]) 9 [0, 1, 2, 3, 4, 5, 6, 7, 8] H (by kernel_rfl) rfl rfl ?_
        refine JI.go rfl trivial (fun w H => RX.movev (v := Value.slice _ _ _) rfl) ?_
        refine JI.go rfl trivial (fun w H => RX.movev (v := Value.int _ _) rfl) ?_
        refine JI.go rfl trivial (fun w H => RX.indexAddr rfl rfl sl46 (by omega) (by omega) (o' := k) (by omega)) ?_
        refine JI.go rfl trivial (fun w H => RX.load H rfl (i := 3) (v := zv.p) rfl (RowZ.p_at hzv) one48) ?_
        refine JI.go rfl trivial (fun w H => RX.movev (v := Value.slice _ _ _) rfl) ?_
        refine JI.go rfl trivial (fun w H => RX.movev (v := Value.int _ _) rfl) ?_
        refine JI.go rfl trivial (fun w H => RX.indexAddr rfl rfl sl46 (by omega) (by omega) (o' := k) (by omega)) ?_
        refine JI.go rfl trivial (fun w H => RX.load H rfl (i := 3) (v := zv.p) rfl (RowZ.p_at hzv) one48) ?_
        refine JI.go rfl trivial (fun w H => RX.movev (v := C.p) rfl) ?_
        refine JI.nil fun w H => ?_
        refine JL.does trivial (EX.call rfl cl24 rfl ((zAddAt_b (X := [A.seg, C.seg, [(bu, cel ((Us.set k z3).map Zn.p) 48)], [(bv, cel ((Vs).map Zn.p) 48)]]) (Hp.swap (A := [A.seg, C.seg, [(bu, cel ((Us.set k z3).map Zn.p) 48)], [(bv, cel ((Vs).map Zn.p) 48)]]) H) hzv hzvo (by simp) hC (by rw [hzvv]; omega) (by omega)))) ?_
        rintro _ w ⟨z4, rfl, hz4b, hz4v, hz4, H⟩
        replace H := Hp.swap (A := [A.seg, C.seg, [(bu, cel ((Us.set k z3).map Zn.p) 48)], [(bv, cel ((Vs).map Zn.p) 48)]]) H
        rw [← mapP_set hzv hz4b] at H
        refine JL.nil ?_
        refine J.inBlock ?_
        refine J.region ?_
        refine JL.go trivial (RX.add rfl rfl (wi (n := j + 1) (by omega) (by omega))) ?_
        refine JL.go trivial (RX.movev (v := Value.int _ _) rfl) ?_
        refine JL.nil ?_
        refine IH2 (j + 1, Us.set k z3, Vs.set k z4) _ _ (by simp only; omega) ⟨rfl, rfl, rfl, rfl, rfl, rfl, rfl, rfl, rfl, trivial⟩ ⟨rfl, trivial⟩ ⟨by simp only; omega, (hU.set hz3).ext fun i hi => ?_, (hV.set hz4).ext fun i hi => ?_, H.drop.drop⟩
        · simp only
          by_cases e : i = k
          · subst e; rw [if_pos rfl, if_pos rfl, hz3v, hzuv]; simp only [smU, ssum, ← hAC]
          · rw [if_neg e, if_neg e, if_neg e]
        · simp only
          by_cases e : i = k
          · subst e; rw [if_pos rfl, if_pos rfl, hz4v, hzvv]; simp only [smV, ssum, ← hAC]
          · rw [if_neg e, if_neg e, if_neg e]
    · skip
      obtain rfl : j = re.length := by omega
      refine J.exit rfl ?_
      refine J.inBlock ?_
      refine J.region ?_
      refine JL.go trivial (RX.add rfl rfl (wi (n := k + 1) (by omega) (by omega))) ?_
      refine JL.go trivial (RX.movev (v := Value.int _ _) rfl) ?_
      refine JL.nil ?_
      refine IH (k + 1, Us, Vs) _ _ (by simp only; omega) ⟨rfl, rfl, rfl, rfl, rfl, rfl, trivial⟩ ⟨rfl, trivial⟩ ⟨by simp only; omega, hU.ext fun i hi => ?_, hV.ext fun i hi => ?_, H⟩
      · simp only
        by_cases e : i = k
        · subst e; rw [if_pos rfl, if_pos (by omega)]
        · rw [if_neg e]
          by_cases e2 : i < k
          · rw [if_pos e2, if_pos (by omega)]
          · rw [if_neg e2, if_neg (by omega)]
      · simp only
        by_cases e : i = k
        · subst e; rw [if_pos rfl, if_pos (by omega)]
        · rw [if_neg e]
          by_cases e2 : i < k
          · rw [if_pos e2, if_pos (by omega)]
          · rw [if_neg e2, if_neg (by omega)]
  · skip
    obtain rfl : k = re.length := by omega
    replace hU := hU.ext (g := fun i => smU re im i re.length) fun i hi => if_pos hi
    replace hV := hV.ext (g := fun i => smV re im i re.length) fun i hi => if_pos hi
    refine J.exit rfl ?_
    refine J.seq ?_
    refine J.region ?_
    refine JL.go trivial (RX.movev (v := .slice _ _ _) rfl) ?_
    refine JL.does trivial (EX.call rfl cl25 rfl ((whole_u H ((hE2 (Vs.map Zn.seg)).sub fun e he => mem_app (X := [(bu, cel ((Us).map Zn.p) 48)] :: [(bv, cel ((Vs).map Zn.p) 48)] :: Us.map Zn.seg) he) (SlAt.here List.take_length) (fun z hz => List.mem_cons_of_mem _ (List.mem_cons_of_mem _ (List.mem_append_left _ (List.mem_map_of_mem hz)))) hU (by omega)))) ?_
    rintro _ w ⟨p1, m1, k1, e1, sl1, rfl, he1, hW1, H⟩
    refine JL.go trivial (RX.movev (v := .tuple _) rfl) ?_
    refine JL.go trivial (RX.extract rfl rfl) ?_
    refine JL.go trivial (RX.extract (v := errV E e1) rfl rfl) ?_
    refine JL.go trivial (RX.assignv (v := Value.slice _ _ _) rfl) ?_
    refine JL.go trivial (RX.assignv (v := errV E e1) rfl) ?_
    refine JL.nil ?_
    refine J.seq ?_
    refine J.region ?_
    refine JL.go trivial (RX.movev (v := Value.slice _ _ _) rfl) ?_
    refine JL.does trivial (EX.call rfl cl25 rfl ((whole_u H (((hE2 (Vs.map Zn.seg)).sub fun e he => mem_app (X := [(bu, cel ((Us).map Zn.p) 48)] :: [(bv, cel ((Vs).map Zn.p) 48)] :: Us.map Zn.seg) he).cons) (SlAt.cons (SlAt.cons (SlAt.here List.take_length))) (fun z hz => List.mem_cons_of_mem _ (List.mem_cons_of_mem _ (List.mem_cons_of_mem _ (List.mem_append_right _ (List.mem_append_left _ (List.mem_map_of_mem hz)))))) hV (by omega)))) ?_
    rintro _ w ⟨p2, m2, k2, e2, sl2, rfl, he2, hW2, H⟩
    replace H : Hp w0 w (sl2 :: sl1 :: F) := Hp.cut (A := [sl2, sl1]) (B := Vs.map Zn.seg) (Hp.cut (A := [sl2, sl1]) (B := [(bu, cel ((Us).map Zn.p) 48)] :: [(bv, cel ((Vs).map Zn.p) 48)] :: Us.map Zn.seg) H)
    obtain ⟨hi1, hn1⟩ := errV_ie hE he1
    obtain ⟨hi2, hn2⟩ := errV_ie hE he2
    replace hW1 : (e1 = 0 ∧ i64all (smA0 re im) ∧ ∃ b, p1 = some ⟨b, 0, none⟩ ∧ m1 = re.length ∧ k1 = re.length ∧ sl1 = [(b, cel (i64sV (smA0 re im)) 2)]) ∨ (e1 = 19 ∧ ¬ i64all (smA0 re im)) := hW1
    replace hW2 : (e2 = 0 ∧ i64all (smB0 re im) ∧ ∃ b, p2 = some ⟨b, 0, none⟩ ∧ m2 = re.length ∧ k2 = re.length ∧ sl2 = [(b, cel (i64sV (smB0 re im)) 2)]) ∨ (e2 = 19 ∧ ¬ i64all (smB0 re im)) := hW2
    refine JL.go trivial (RX.movev (v := .tuple _) rfl) ?_
    refine JL.go trivial (RX.extract rfl rfl) ?_
    refine JL.go trivial (RX.extract (v := errV E e2) rfl rfl) ?_
    refine JL.go trivial (RX.assignv (v := Value.slice _ _ _) rfl) ?_
    refine JL.go trivial (RX.assignv (v := errV E e2) rfl) ?_
    refine JL.nil ?_
    refine J.seq ?_
    refine J.seq ?_
    refine J.region ?_
    refine JL.go trivial (RX.movev (v := errV E e1) rfl) ?_
    refine JL.go trivial (RX.ifnil_neq (v := errV E e1) rfl rfl hi1 if25) ?_
    refine JL.go trivial (RX.movev (v := Value.bool _) rfl) ?_
    refine JL.splitS 107 rfl (fun hg => ?_) (fun hg => ?_)
    · skip
      first | have hgp := of_decide_eq_true hg | skip
      have he1n : e1 ≠ 0 := by rw [hn1] at hg; simpa using hg
      refine JL.no ⟨_, rfl, gno hg⟩ ?_
      refine JL.no ⟨_, rfl, gno hg⟩ ?_
      refine JL.go trivial (RX.pick_t rfl hg) ?_
      refine JL.nil ?_
      refine J.cond_t rfl rfl ?_
      refine J.seq ?_
      refine J.quietH H hmix (by kernel_rfl) ?_
      refine JQ.go trivial (fun w H => RX.loadG H rfl (hE.cons.cons.at_ 19 (by decide) (by decide)).at_ one25) ?_
      refine JQ.go trivial (fun w H => RX.assign) ?_
      refine JQ.go trivial (fun w H => RX.assign) ?_
      refine JQ.go trivial (fun w H => RX.assignv (v := E 19) rfl) ?_
      refine JQ.nil fun w H => ?_
      refine J.ret3 (v := Value.slice _ _ _) Tryz.func13 rfl rfl rfl rfl ?_
      have he : smE re im = 19 := by
        unfold smE
        rw [if_pos (by omega), if_neg]
        rintro ⟨h1, _⟩
        rcases hW1 with ⟨h, _⟩ | ⟨_, h⟩
        · exact he1n h
        · exact h h1
      refine ⟨_, rfl, ?_⟩
      unfold smA smB
      rw [he]
      exact ⟨none, none, 0, 0, [], [], rfl, OwnSl.nil, OwnSl.nil, H.drop.drop.nil.nil⟩
    · skip
      first | have hgp := of_decide_eq_false hg | skip
      have he1z : e1 = 0 := by rw [hn1] at hg; simpa using hg
      refine JL.go ⟨_, rfl, hg⟩ (RX.movev (v := errV E e2) rfl) ?_
      refine JL.go ⟨_, rfl, hg⟩ (RX.ifnil_neq (v := errV E e2) rfl rfl hi2 if25) ?_
      refine JL.go trivial (RX.pick_f rfl hg) ?_
      refine JL.nil ?_
      refine J.cond rfl (fun hc => ?_) (fun hc => ?_)
      · skip
        have he2n : e2 ≠ 0 := by rw [hn2] at hc; simpa using hc
        refine J.seq ?_
        refine J.quietH H hmix (by kernel_rfl) ?_
        refine JQ.go trivial (fun w H => RX.loadG H rfl (hE.cons.cons.at_ 19 (by decide) (by decide)).at_ one25) ?_
        refine JQ.go trivial (fun w H => RX.assign) ?_
        refine JQ.go trivial (fun w H => RX.assign) ?_
        refine JQ.go trivial (fun w H => RX.assignv (v := E 19) rfl) ?_
        refine JQ.nil fun w H => ?_
        refine J.ret3 (v := Value.slice _ _ _) Tryz.func13 rfl rfl rfl rfl ?_
        have he : smE re im = 19 := by
          unfold smE
          rw [if_pos (by omega), if_neg]
          rintro ⟨_, h1⟩
          rcases hW2 with ⟨h, _⟩ | ⟨_, h⟩
          · exact he2n h
          · exact h h1
        refine ⟨_, rfl, ?_⟩
        unfold smA smB
        rw [he]
        exact ⟨none, none, 0, 0, [], [], rfl, OwnSl.nil, OwnSl.nil, H.drop.drop.nil.nil⟩
      · skip
        have he2z : e2 = 0 := by rw [hn2] at hc; simpa using hc
        refine J.skip ?_
        refine J.seq ?_
        refine J.region ?_
        refine JL.go trivial (RX.movev (v := Value.slice _ _ _) rfl) ?_
        refine JL.go trivial (RX.movev (v := Value.slice _ _ _) rfl) ?_
        refine JL.go trivial (RX.assignv (v := Value.slice _ _ _) rfl) ?_
        refine JL.go trivial (RX.assignv (v := Value.slice _ _ _) rfl) ?_
        refine JL.go trivial (RX.assign) ?_
        refine JL.nil ?_
        refine J.ret3 (v := Value.slice _ _ _) Tryz.func13 rfl rfl rfl rfl ?_
        obtain ⟨_, ha1, b1, rfl, rfl, rfl, rfl⟩ | ⟨h, _⟩ := hW1
        rotate_left
        · omega
        obtain ⟨_, ha2, b2, rfl, rfl, rfl, rfl⟩ | ⟨h, _⟩ := hW2
        rotate_left
        · omega
        have he : smE re im = 0 := by
          unfold smE
          rw [if_pos (by omega), if_pos ⟨ha1, ha2⟩]
        have hlA : (smA0 re im).length = re.length := by simp [smA0]
        have hlB : (smB0 re im).length = re.length := by simp [smB0]
        refine ⟨_, rfl, ?_⟩
        unfold smA smB
        rw [he, if_pos rfl, if_pos rfl, hlA, hlB]
        have o1 := ownI (b := b1) (smA0 re im)
        have o2 := ownI (b := b2) (smB0 re im)
        rw [hlA] at o1
        rw [hlB] at o2
        exact ⟨_, _, _, _, _, _, rfl, o1, o2, H⟩
end Go.Proofs.YtfpphoapknecfaaGreatDoorBesafter

/- Roots, and the transform by its sum, on whole numbers. -/
import Derived.Test.YtahjlcglidgadaaGreatDoorFz
namespace Go.Proofs.YtahjlcglidgadaaGreatDoor
open Go Go.Eng
set_option maxRecDepth 100000
set_option linter.unusedVariables false
set_option linter.unusedSimpArgs false
theorem cl27 : callable Tryz.prog 27 = true := by kernel_rfl
theorem cl28 : callable Tryz.prog 28 = true := by kernel_rfl
theorem cl46 : callable Tryz.prog 46 = true := by kernel_rfl
theorem one27 : oneOf Tryz.prog 27 = true := by kernel_rfl
theorem sl26 : sliceOf Tryz.prog 26 = some (27, 1) := by kernel_rfl
theorem sz27 : szOf Tryz.prog 27 = some 1 := by kernel_rfl
namespace Cc
def cxs (l : List (Nat × Nat)) : List Value := l.map fun c => .complex .f64 c.1 c.2
theorem cxs_len (l : List (Nat × Nat)) : (cxs l).length = l.length := by simp [cxs]
theorem cxs_get {l : List (Nat × Nat)} {i : Nat} {c : Nat × Nat} (h : l[i]? = some c) : (cxs l)[i]? = some (.complex .f64 c.1 c.2) := by simp [cxs, h]
theorem cxs_set (l : List (Nat × Nat)) (i : Nat) (c : Nat × Nat) : cxs (l.set i c) = (cxs l).set i (.complex .f64 c.1 c.2) := by simp [cxs, List.map_set]
theorem cxs_app (a b : List (Nat × Nat)) : cxs (a ++ b) = cxs a ++ cxs b := by simp [cxs]
theorem cxs_cell (l : List (Nat × Nat)) : ∀ v ∈ cxs l, isCell v = true := by
  intro v hv
  obtain ⟨c, _, rfl⟩ := List.mem_map.1 hv
  rfl
theorem mkC : Tryz.prog.underlying 26 = some (.slice 27) ∧ ∃ i, Tryz.prog.info? 27 = some i ∧ i.zero = some (.complex .f64 0 0) ∧ i.size = 1 ∧ i.bytes = 16 := ⟨by kernel_rfl, info_one (by kernel_rfl) (by kernel_rfl)⟩
theorem elCx : Elem Tryz.prog 26 27 1 16 := Elem.of (by kernel_rfl)
theorem repC (n : Nat) : List.replicate n (Value.complex .f64 0 0) = cxs (List.replicate n (0, 0)) := by simp [cxs]
/-- The roots of n. -/
def RootsL (n : Nat) (fs : List (Nat × Nat)) (m : Nat) : Prop := fs.length = n ∧ ∀ k, k < m → ∃ f, fs[k]? = some f ∧ Zc f (wq (4 * k / n))
theorem RootsL.set {n m : Nat} {fs : List (Nat × Nat)} {f : Nat × Nat} (h : RootsL n fs m) (hm : m < n) (hf : Zc f (wq (4 * m / n))) : RootsL n (fs.set m f) (m + 1) := by
  refine ⟨by simp [h.1], fun k hk => ?_⟩
  rw [List.getElem?_set]
  by_cases e : m = k
  · subst e; rw [if_pos rfl, if_pos (by rw [h.1]; exact hm)]; exact ⟨f, rfl, hf⟩
  · rw [if_neg e]; exact h.2 k (by omega)
theorem nat_mod {k n : Nat} (h : k < n) : ((k : Int) % (n : Int)).toNat = k := by rw [← Int.natCast_emod, Int.toNat_natCast, Nat.mod_eq_of_lt h]
theorem dsum_pre {n k : Nat} {x : Nat → Option Cf} : ∀ {m : Nat} {r : Cf}, dsum n k x m = some r → ∀ j, j ≤ m → ∃ s, dsum n k x j = some s
  | 0, r, h, j, hj => ⟨r, by rw [show j = 0 by omega]; exact h⟩
  | m + 1, r, h, j, hj => by
    by_cases e : j = m + 1
    · exact ⟨r, by rw [e]; exact h⟩
    · simp only [dsum, Option.bind_eq_some_iff] at h
      obtain ⟨s, hs, _⟩ := h
      exact dsum_pre hs j (by omega)
theorem dsum_step {n k j : Nat} {x : Nat → Option Cf} {r : Cf} (h : dsum n k x (j + 1) = some r) : ∃ s a b, dsum n k x j = some s ∧ x (j + 1) = some a ∧ ((j + 1) * k % n = 0 ∧ b = a ∨ (j + 1) * k % n ≠ 0 ∧ b = a.mulw (wq (4 * ((j + 1) * k % n) / n)) ∧ b.ok = true) ∧ r = s.add b ∧ r.ok = true := by
  simp only [dsum, Option.bind_eq_some_iff] at h
  obtain ⟨s, hs, a, ha, b, hb, hr⟩ := h
  obtain ⟨h1, rfl⟩ := okF_some hr
  refine ⟨s, a, b, hs, ha, ?_, rfl, h1⟩
  by_cases e : (j + 1) * k % n = 0
  · rw [if_pos e] at hb; exact .inl ⟨e, (Option.some.inj hb).symm⟩
  · rw [if_neg e] at hb
    obtain ⟨h2, rfl⟩ := okF_some hb
    exact .inr ⟨e, rfl, h2⟩

set_option maxHeartbeats 1600000 in
theorem All_b {w0 w : World} {F : List Seg} (H : Hp w0 w F) {n : Nat} (hn : n = 1 ∨ n = 2 ∨ n = 4) : Ret Tryz.prog 27 [.int .i64 ((n : Nat) : Int)] w fun v w' => ∃ b fs, v = .tuple #[.slice (some ⟨b, 0, none⟩) n n, .nilIface] ∧ RootsL n fs n ∧ Hp w0 w' ([(b, cel (cxs fs) 27)] :: F) := by
  refine Calls.of_J (n := 31) Tryz.func27 rfl rfl rfl ?_
  refine J.seq ?_
  refine J.region ?_
  refine JL.go trivial (RX.assign) ?_
  refine JL.go trivial (RX.assign) ?_
  refine JL.nil ?_
  refine J.seq ?_
  refine J.seq ?_
  refine J.region ?_
  refine JL.go trivial (RX.movev (v := Value.int _ _) rfl) ?_
  refine JL.go trivial (RX.lt rfl rfl) ?_
  refine JL.go trivial (RX.movev (v := Value.bool _) rfl) ?_
  refine JL.go ⟨_, rfl, (decide_eq_false (by omega))⟩ (RX.movev (v := Value.int _ _) rfl) ?_
  refine JL.go ⟨_, rfl, (decide_eq_false (by omega))⟩ (RX.gt rfl rfl) ?_
  refine JL.go trivial (RX.pick_f rfl (decide_eq_false (by omega))) ?_
  refine JL.nil ?_
  refine J.cond_f rfl (decide_eq_false (by omega)) ?_
  refine J.skip ?_
  refine J.seq ?_
  refine J.region ?_
  refine JL.go trivial (RX.movev (v := Value.int _ _) rfl) ?_
  refine JL.does trivial (EX.makeS (e := 27) (m := n) H mkC.1 mkC.2 rfl rfl rfl (by omega) (by omega) (by omega)) ?_
  rintro _ w ⟨bo, rfl, H⟩
  rw [fnL_rep, repC] at H
  refine JL.go trivial (RX.assignv (v := Value.slice _ _ _) rfl) ?_
  refine JL.nil ?_
  refine J.seq ?_
  refine J.seq ?_
  refine J.region ?_
  refine JL.go trivial (RX.movev (v := Value.slice _ _ _) rfl) ?_
  refine JL.go trivial (RX.len_slice rfl (by rw [sl26]; rfl) rfl) ?_
  refine JL.go trivial (RX.move) ?_
  refine JL.nil ?_
  refine J.block ?_
  refine J.loop (ι := Nat × List (Nat × Nat)) (S := fun z => [(17, .int .i64 ((z.1 : Nat) : Int))]) (Φ := fun z w => z.1 ≤ n ∧ RootsL n z.2 z.1 ∧ Hp w0 w ([(bo, cel (cxs z.2) 27)] :: F)) (μ := fun z => n - z.1) (C := [(0, _), (4, _), (16, _)]) (0, List.replicate n (0, 0)) ⟨rfl, rfl, rfl, trivial⟩ ⟨rfl, trivial⟩ ?_ ?_
  · exact ⟨by simp, ⟨by simp, fun k hk => absurd hk (Nat.not_lt_zero _)⟩, H⟩
  clear H
  rintro ⟨i, fs⟩ ρ w ⟨hi, hR, H⟩ IH
  simp only at hi hR H
  dsimp only
  refine J.seq ?_
  refine J.region ?_
  refine JL.go trivial (RX.lt rfl rfl) ?_
  refine JL.nil ?_
  refine J.seq ?_
  refine J.cond_d rfl (fun hlt => ?_) (fun hlt => ?_)
  · skip
    refine J.skip ?_
    refine J.seq ?_
    refine J.block ?_
    refine J.seq ?_
    refine J.region ?_
    refine JL.go trivial (RX.movev (v := Value.int _ _) rfl) ?_
    refine JL.go trivial (RX.assignv (v := Value.int _ _) rfl) ?_
    refine JL.nil ?_
    refine J.region ?_
    refine JL.go trivial (RX.movev (v := Value.slice _ _ _) rfl) ?_
    refine JL.go trivial (RX.movev (v := Value.int _ _) rfl) ?_
    refine JL.go trivial (RX.movev (v := Value.int _ _) rfl) ?_
    refine JL.go trivial (RX.movev (v := Value.int _ _) rfl) ?_
    refine JL.does trivial (EX.call rfl cl46 rfl ((Root_b (k := (i : Int)) H hn (by omega) (by omega)))) ?_
    rintro _ w ⟨r, rfl, hr, H⟩
    rw [nat_mod (show i < n by omega)] at hr
    refine JL.go trivial (RX.movev (v := .tuple _) rfl) ?_
    refine JL.go trivial (RX.extract rfl rfl) ?_
    refine JL.go trivial (RX.extract (v := .nilIface) rfl rfl) ?_
    refine JL.go trivial (RX.indexAddr rfl rfl sl26 (by omega) (by omega) (o' := i) (by omega)) ?_
    refine JL.does trivial (EX.store (v := Value.complex _ _ _) H rfl rfl (i := 0) rfl rfl (by rw [cxs_len, hR.1]; omega) sz27 rfl rfl) ?_
    rintro _ w H
    refine JL.nil ?_
    refine J.inBlock ?_
    refine J.region ?_
    refine JL.go trivial (RX.add rfl rfl (wi (n := i + 1) (by omega) (by omega))) ?_
    refine JL.go trivial (RX.movev (v := Value.int _ _) rfl) ?_
    refine JL.nil ?_
    rw [← cxs_set] at H
    exact IH (i + 1, fs.set i r) _ _ (by simp only; omega) ⟨rfl, rfl, rfl, trivial⟩ ⟨rfl, trivial⟩ ⟨by simp only; omega, hR.set (by omega) hr, H⟩
  · skip
    obtain rfl : i = n := by omega
    refine J.exit rfl ?_
    refine J.seq ?_
    refine J.region ?_
    refine JL.go trivial (RX.movev (v := Value.slice _ _ _) rfl) ?_
    refine JL.go trivial (RX.assignv (v := Value.slice _ _ _) rfl) ?_
    refine JL.go trivial (RX.assign) ?_
    refine JL.nil ?_
    refine J.ret2 (v := Value.slice _ _ _) Tryz.func27 rfl rfl rfl ?_
    exact ⟨_, rfl, bo, fs, rfl, hR, H⟩
set_option maxHeartbeats 1600000 in
theorem table_b {w0 w : World} {F : List Seg} (H : Hp w0 w F) {n : Nat} (hn : n = 1 ∨ n = 2 ∨ n = 4) : Ret Tryz.prog 15 [.int .i64 ((n : Nat) : Int)] w fun v w' => ∃ b fs, v = .tuple #[.slice (some ⟨b, 0, none⟩) n n, .nilIface] ∧ RootsL n fs n ∧ Hp w0 w' ([(b, cel (cxs fs) 27)] :: F) := by
  refine Calls.of_J (n := 15) Tryz.func15 rfl rfl rfl ?_
  refine J.seq ?_
  refine J.region ?_
  refine JL.go trivial (RX.assign) ?_
  refine JL.go trivial (RX.assign) ?_
  refine JL.nil ?_
  refine J.seq ?_
  refine J.seq ?_
  refine J.region ?_
  refine JL.go trivial (RX.movev (v := Value.int _ _) rfl) ?_
  refine JL.go trivial (RX.lt rfl rfl) ?_
  refine JL.go trivial (RX.movev (v := Value.bool _) rfl) ?_
  refine JL.go ⟨_, rfl, (decide_eq_false (by omega))⟩ (RX.movev (v := Value.int _ _) rfl) ?_
  refine JL.go ⟨_, rfl, (decide_eq_false (by omega))⟩ (RX.gt rfl rfl) ?_
  refine JL.go trivial (RX.pick_f rfl (decide_eq_false (by omega))) ?_
  refine JL.nil ?_
  refine J.cond_f rfl (decide_eq_false (by omega)) ?_
  refine J.skip ?_
  refine J.seq ?_
  refine J.region ?_
  refine JL.go trivial (RX.movev (v := Value.int _ _) rfl) ?_
  refine JL.does trivial (EX.call rfl cl27 rfl ((All_b H hn))) ?_
  rintro _ w ⟨b, fs, rfl, hR, H⟩
  refine JL.go trivial (RX.extract rfl rfl) ?_
  refine JL.go trivial (RX.extract (v := .nilIface) rfl rfl) ?_
  refine JL.go trivial (RX.assignv (v := Value.slice _ _ _) rfl) ?_
  refine JL.go trivial (RX.assignv (v := .nilIface) rfl) ?_
  refine JL.nil ?_
  refine J.ret2 (v := Value.slice _ _ _) Tryz.func15 rfl rfl rfl ?_
  exact ⟨_, rfl, b, fs, rfl, hR, H⟩
set_option maxHeartbeats 1600000 in
theorem sum_b {w0 w : World} {F : List Seg} {b cl : Nat} {cv : List Value} {ws : List (Nat × Nat)} {n k : Nat} {x : Nat → Option Cf} {r : Cf} {X : List Int} (H : Hp w0 w ([(b, cel (cxs ws) 27)] :: F)) (hX : InX X) (hn : n = 1 ∨ n = 2 ∨ n = 4) (hk : k < n) (hR : RootsL n ws n) (hd : dsum n k x (n - 1) = some r) (hcl : callable Tryz.prog cl = true) (hat : ∀ (j : Nat) (c : Cf) (w : World), j < n → x j = some c → Hp w0 w ([(b, cel (cxs ws) 27)] :: F) → Ret Tryz.prog cl (.int .i64 ((j : Nat) : Int) :: cv) w fun v w' => ∃ f : Nat × Nat, v = .complex .f64 f.1 f.2 ∧ Zc f (ev c X) ∧ c.ok = true ∧ Hp w0 w' ([(b, cel (cxs ws) 27)] :: F)) : Ret Tryz.prog 16 [.slice (some ⟨b, 0, none⟩) n n, .int .i64 ((k : Nat) : Int), .func (.func cl) #[] cv.toArray] w fun v w' => ∃ f : Nat × Nat, v = .complex .f64 f.1 f.2 ∧ Zc f (ev r X) ∧ r.ok = true ∧ Hp w0 w' ([(b, cel (cxs ws) 27)] :: F) := by
  refine Calls.of_J (n := 56) Tryz.func16 rfl rfl rfl ?_
  refine J.seq ?_
  refine J.region ?_
  refine JL.go trivial (RX.assign) ?_
  refine JL.nil ?_
  refine J.seq ?_
  refine J.region ?_
  refine JL.go trivial (RX.movev (v := Value.slice _ _ _) rfl) ?_
  refine JL.go trivial (RX.len_slice rfl (by rw [sl26]; rfl) rfl) ?_
  refine JL.go trivial (RX.assignv (v := Value.int _ _) rfl) ?_
  refine JL.nil ?_
  refine J.seq ?_
  have k1 : k % n = k := Nat.mod_eq_of_lt hk
  have k2 : (k + n) % n = k := by rw [Nat.add_mod_right, k1]
  obtain ⟨x0, hx0⟩ := dsum_pre hd 0 (by omega)
  refine J.region ?_
  refine JL.go trivial (RX.movev (v := Value.int _ _) rfl) ?_
  refine JL.go trivial (RX.movev (v := Value.int _ _) rfl) ?_
  refine JL.go trivial (RX.rem rfl rfl (by omega) (r := ((k : Nat) : Int)) (by rw [rem_nat, k1])) ?_
  refine JL.go trivial (RX.movev (v := Value.int _ _) rfl) ?_
  refine JL.go trivial (RX.add rfl rfl (wi (n := k + n) (by omega) (by omega))) ?_
  refine JL.go trivial (RX.movev (v := Value.int _ _) rfl) ?_
  refine JL.go trivial (RX.rem rfl rfl (by omega) (r := ((k : Nat) : Int)) (by rw [rem_nat, k2])) ?_
  refine JL.go trivial (RX.assignv (v := Value.int _ _) rfl) ?_
  refine JL.nil ?_
  refine J.seq ?_
  refine J.region ?_
  refine JL.go trivial (RX.movev (v := .func _ _ _) rfl) ?_
  refine JL.does trivial (EX.callv (f := cl) (fv := []) (cv := cv) rfl hcl rfl rfl (hat 0 x0 w (by omega) hx0 H)) ?_
  rintro _ w ⟨f0, rfl, hf0, ho0, H⟩
  refine JL.go trivial (RX.assignv (v := Value.complex _ _ _) rfl) ?_
  refine JL.nil ?_
  refine J.seq ?_
  refine J.seq ?_
  refine J.region ?_
  refine JL.go trivial (RX.assign) ?_
  refine JL.nil ?_
  refine J.block ?_
  refine J.loop (ι := Nat × (Nat × Nat) × Cf) (S := fun z => [(9, .int .i64 ((z.1 : Nat) : Int)), (8, .complex .f64 z.2.1.1 z.2.1.2)]) (Φ := fun z w => 1 ≤ z.1 ∧ z.1 ≤ n ∧ dsum n k x (z.1 - 1) = some z.2.2 ∧ Zc z.2.1 (ev z.2.2 X) ∧ z.2.2.ok = true ∧ Hp w0 w ([(b, cel (cxs ws) 27)] :: F)) (μ := fun z => n - z.1) (C := [(0, _), (1, _), (2, _), (7, _)]) (1, f0, x0) ⟨rfl, rfl, rfl, rfl, trivial⟩ ⟨rfl, rfl, trivial⟩ ?_ ?_
  · exact ⟨by simp, by simp only; omega, hx0, hf0, ho0, H⟩
  clear H hf0 ho0
  rintro ⟨j, fs, s⟩ ρ w ⟨hj1, hj, hs, hfs, hso, H⟩ IH
  simp only at hj1 hj hs hfs hso H
  dsimp only
  refine J.seq ?_
  refine J.seq ?_
  refine J.region ?_
  refine JL.go trivial (RX.movev (v := Value.int _ _) rfl) ?_
  refine JL.go trivial (RX.movev (v := Value.int _ _) rfl) ?_
  refine JL.go trivial (RX.lt rfl rfl) ?_
  refine JL.nil ?_
  refine J.cond_d rfl (fun hlt => ?_) (fun hlt => ?_)
  · skip
    obtain ⟨i, rfl⟩ : ∃ i, j = i + 1 := ⟨j - 1, by omega⟩
    rw [Nat.add_sub_cancel] at hs
    obtain ⟨s2, hs2⟩ := dsum_pre hd (i + 1) (by omega)
    obtain ⟨s1, a, b2, h1, h2, h3, rfl, h5⟩ := dsum_step hs2
    obtain rfl : s1 = s := Option.some.inj (h1.symm.trans hs)
    have hm : (i + 1) * k ≤ 4 * 4 := Nat.mul_le_mul (by omega) (by omega)
    refine J.skip ?_
    refine J.seq ?_
    refine J.block ?_
    refine J.seq ?_
    refine J.region ?_
    refine JL.go trivial (RX.movev (v := .func _ _ _) rfl) ?_
    refine JL.go trivial (RX.movev (v := Value.int _ _) rfl) ?_
    refine JL.does trivial (EX.callv (f := cl) (fv := []) (cv := cv) rfl hcl rfl rfl (hat (i + 1) a w (by omega) h2 H)) ?_
    rintro _ w ⟨fa, rfl, hfa, hao, H⟩
    refine JL.go trivial (RX.assignv (v := Value.complex _ _ _) rfl) ?_
    refine JL.nil ?_
    refine J.seq ?_
    refine J.seq ?_
    refine J.region ?_
    refine JL.go trivial (RX.movev (v := Value.int _ _) rfl) ?_
    refine JL.go trivial (RX.movev (v := Value.int _ _) rfl) ?_
    refine JL.go trivial (RX.mul rfl rfl (wi (n := (i + 1) * k) (Int.natCast_mul _ _).symm (by omega))) ?_
    refine JL.go trivial (RX.movev (v := Value.int _ _) rfl) ?_
    refine JL.go trivial (RX.rem rfl rfl (by omega) rem_nat) ?_
    refine JL.go trivial (RX.assignv (v := Value.int _ _) rfl) ?_
    refine JL.nil ?_
    refine J.seq ?_
    refine J.region ?_
    refine JL.go trivial (RX.movev (v := Value.int _ _) rfl) ?_
    refine JL.go trivial (RX.ne rfl rfl) ?_
    refine JL.nil ?_
    refine J.join (ι := Nat × Nat) (fun q => [(10, .complex .f64 q.1 q.2)]) (fun q w => Zc q (ev b2 X) ∧ b2.ok = true ∧ Hp w0 w ([(b, cel (cxs ws) 27)] :: F)) [(0, _), (1, _), (2, _), (7, _), (8, _), (9, _)] ⟨rfl, rfl, rfl, rfl, rfl, rfl, trivial⟩ ?_ ?_
    rotate_left
    · skip
      intro k2 hk2
      refine J.cond_d rfl (fun he => ?_) (fun he => ?_)
      · skip
        obtain ⟨g1, _⟩ | ⟨g1, rfl, g2⟩ := h3
        · exact absurd (by omega) he
        have hel := Nat.mod_lt ((i + 1) * k) (show 0 < n by omega)
        obtain ⟨fw, hw1, hw2⟩ := hR.2 ((i + 1) * k % n) hel
        have hwl := hR.1
        obtain ⟨l1, l2⟩ := ok_le hao hX
        refine J.region ?_
        refine JL.go trivial (RX.movev (v := Value.complex _ _ _) rfl) ?_
        refine JL.go trivial (RX.movev (v := Value.slice _ _ _) rfl) ?_
        refine JL.go trivial (RX.movev (v := Value.int _ _) rfl) ?_
        refine JL.go trivial (RX.indexAddr rfl rfl sl26 (by omega) (by omega) (o' := (i + 1) * k % n) (by omega)) ?_
        refine JL.go trivial (RX.load H rfl (i := 0) (v := .complex .f64 fw.1 fw.2) rfl (cxs_get hw1) one27) ?_
        refine JL.does trivial (EX.call rfl cl28 rfl ((Mul_b H hfa hw2 l1 l2))) ?_
        rintro _ w ⟨fm, rfl, hfm, H⟩
        rw [← ev_mulw] at hfm
        refine JL.go trivial (RX.assignv (v := Value.complex _ _ _) rfl) ?_
        refine JL.nil ?_
        first
        | exact hk2 fm _ _ ⟨rfl, rfl, rfl, rfl, rfl, rfl, trivial⟩ ⟨rfl, trivial⟩ ⟨hfm, g2, H⟩
        | exact hk2 fa _ _ ⟨rfl, rfl, rfl, rfl, rfl, rfl, trivial⟩ ⟨rfl, trivial⟩ ⟨hfa, hao, H⟩
      · skip
        obtain ⟨_, rfl⟩ | ⟨g1, _⟩ := h3
        rotate_left
        · exact absurd (by omega) g1
        refine J.skip ?_
        first
        | exact hk2 fm _ _ ⟨rfl, rfl, rfl, rfl, rfl, rfl, trivial⟩ ⟨rfl, trivial⟩ ⟨hfm, g2, H⟩
        | exact hk2 fa _ _ ⟨rfl, rfl, rfl, rfl, rfl, rfl, trivial⟩ ⟨rfl, trivial⟩ ⟨hfa, hao, H⟩
    · skip
      clear H
      rintro fb ρ w ⟨hfb, hbo, H⟩
      obtain ⟨m1, m2⟩ := ok_le hso hX
      obtain ⟨m3, m4⟩ := ok_le hbo hX
      try dsimp only
      refine J.region ?_
      refine JL.go trivial (RX.movev (v := Value.complex _ _ _) rfl) ?_
      refine JL.go trivial (RX.real rfl) ?_
      refine JL.go trivial (RX.movev (v := Value.complex _ _ _) rfl) ?_
      refine JL.go trivial (RX.real rfl) ?_
      refine JL.does trivial (EX.farith (.inl rfl) H rfl rfl) ?_
      rintro _ w ⟨r1, rfl, hr1, H⟩
      have z1 := isZ_cn (show IsZ (cn r1) _ by rw [hr1]; exact isZ_add hfs.1 hfb.1 (by omega))
      refine JL.go trivial (RX.movev (v := Value.complex _ _ _) rfl) ?_
      refine JL.go trivial (RX.imag rfl) ?_
      refine JL.go trivial (RX.movev (v := Value.complex _ _ _) rfl) ?_
      refine JL.go trivial (RX.imag rfl) ?_
      refine JL.does trivial (EX.farith (.inl rfl) H rfl rfl) ?_
      rintro _ w ⟨r2, rfl, hr2, H⟩
      have z2 := isZ_cn (show IsZ (cn r2) _ by rw [hr2]; exact isZ_add hfs.2 hfb.2 (by omega))
      refine JL.go trivial (RX.complex rfl rfl) ?_
      refine JL.go trivial (RX.assignv (v := Value.complex _ _ _) rfl) ?_
      refine JL.nil ?_
      refine J.inBlock ?_
      refine J.region ?_
      refine JL.go trivial (RX.movev (v := Value.int _ _) rfl) ?_
      refine JL.go trivial (RX.add rfl rfl (wi (n := i + 1 + 1) (by omega) (by omega))) ?_
      refine JL.go trivial (RX.assignv (v := Value.int _ _) rfl) ?_
      refine JL.nil ?_
      exact IH (i + 1 + 1, (r1, r2), s1.add b2) _ _ (by simp only; omega) ⟨rfl, rfl, rfl, rfl, trivial⟩ ⟨rfl, rfl, trivial⟩ ⟨by simp only; omega, by simp only; omega, hs2, by rw [ev_add]; exact ⟨z1, z2⟩, h5, H⟩
  · skip
    obtain rfl : j = n := by omega
    obtain rfl : s = r := Option.some.inj (hs.symm.trans hd)
    refine J.exit rfl ?_
    refine J.seq ?_
    refine J.region ?_
    refine JL.go trivial (RX.movev (v := Value.complex _ _ _) rfl) ?_
    refine JL.go trivial (RX.assignv (v := Value.complex _ _ _) rfl) ?_
    refine JL.nil ?_
    refine J.ret1 (v := Value.complex _ _ _) Tryz.func16 rfl rfl ?_
    exact ⟨_, rfl, fs, rfl, hfs, hso, H⟩
end Cc
end Go.Proofs.YtahjlcglidgadaaGreatDoor

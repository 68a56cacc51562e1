/- Part 16 of the proof that WholeSmall holds: what the functions on its way do, step by step. -/
import Derived.Test.YtfaokllgaambjaaGreatDoorZ1
import Derived.Test.YtfaokllgaambjaaGreatDoorZ2
import Derived.Test.YtfaokllgaambjaaGreatDoorZ3
import Derived.Test.YtfaokllgaambjaaGreatDoorZ4
import Derived.Test.YtfaokllgaambjaaGreatDoorZ5
import Derived.Test.YtfaokllgaambjaaGreatDoorZ7
import Derived.Test.YtfaokllgaambjaaGreatDoorZ9
import Derived.Test.YtfaokllgaambjaaGreatDoorZ11
import Derived.Test.YtfaokllgaambjaaGreatDoorZ15
set_option linter.unusedVariables false
set_option linter.unusedSimpArgs false
namespace Go.Proofs.YtfaokllgaambjaaGreatDoor
open Go Go.Eng
set_option maxRecDepth 100000
set_option maxHeartbeats 1600000
theorem cl112 : callable Tryz.prog 112 = true := by kernel_rfl
theorem fo174_0 : fieldOff Tryz.prog 174 0 = some 0 := by kernel_rfl
theorem fo39_0 : fieldOff Tryz.prog 39 0 = some 0 := by kernel_rfl
theorem fo39_1 : fieldOff Tryz.prog 39 1 = some 1 := by kernel_rfl
namespace Oo
theorem lw_stop {t : Tr} {d c : Nat} (h : 4096 < c + 1 ∨ 16 < d) : lw t d c = (0, c + 1) := by
 obtain ⟨k, n, ks⟩ := t
 rw [lw.eq_def]; dsimp only; rw [if_pos h]
theorem lw_dir {k n : Int} {ks : List Tr} {d c : Nat} (h0 : ¬ (4096 < c + 1 ∨ 16 < d)) (h : k = 1 ∧ ks.length = 0 ∧ 1 ≤ n ∧ n ≤ 64) : lw (.node k n ks) d c = (n, c + 1) := by
 rw [lw.eq_def]; dsimp only; rw [if_neg h0, if_pos h]
theorem lw_fly {k n : Int} {ks : List Tr} {d c : Nat} (h0 : ¬ (4096 < c + 1 ∨ 16 < d)) (h1 : ¬ (k = 1 ∧ ks.length = 0 ∧ 1 ≤ n ∧ n ≤ 64)) (h : k = 2 ∧ ks.length = 0 ∧ 2 ≤ n ∧ n ≤ 5) : lw (.node k n ks) d c = (n, c + 1) := by
 rw [lw.eq_def]; dsimp only; rw [if_neg h0, if_neg h1, if_pos h]
theorem lw_two {a b : Tr} {d c : Nat} (h0 : ¬ (4096 < c + 1 ∨ 16 < d)) : lw (.node 3 0 [a, b]) d c =
 if (lw a (d + 1) (c + 1)).1 < 2 then (0, (lw a (d + 1) (c + 1)).2)
 else if (lw b (d + 1) (lw a (d + 1) (c + 1)).2).1 < 2 ∨ 16384 < (lw a (d + 1) (c + 1)).1 * (lw b (d + 1) (lw a (d + 1) (c + 1)).2).1 then (0, (lw b (d + 1) (lw a (d + 1) (c + 1)).2).2)
 else ((lw a (d + 1) (c + 1)).1 * (lw b (d + 1) (lw a (d + 1) (c + 1)).2).1, (lw b (d + 1) (lw a (d + 1) (c + 1)).2).2) := by
 rw [lw.eq_def]; dsimp only; rw [if_neg h0, if_neg (by simp), if_neg (by simp), if_pos ⟨rfl, rfl⟩]
theorem lw_one {a : Tr} {n : Int} {d c : Nat} (h0 : ¬ (4096 < c + 1 ∨ 16 < d)) (h1 : 2 ≤ n) (h2 : n ≤ 16384) : lw (.node 4 n [a]) d c =
 if (lw a (d + 1) (c + 1)).1 < 2 * n - 1 then (0, (lw a (d + 1) (c + 1)).2) else (n, (lw a (d + 1) (c + 1)).2) := by
 rw [lw.eq_def]; dsimp only; rw [if_neg h0, if_neg (by simp), if_neg (by simp), if_pos ⟨rfl, h1, h2⟩]
theorem lw_else {k n : Int} {ks : List Tr} {d c : Nat} (h0 : ¬ (4096 < c + 1 ∨ 16 < d)) (h1 : ¬ (k = 1 ∧ ks.length = 0 ∧ 1 ≤ n ∧ n ≤ 64)) (h2 : ¬ (k = 2 ∧ ks.length = 0 ∧ 2 ≤ n ∧ n ≤ 5))
 (h3 : ¬ (k = 3 ∧ ks.length = 2 ∧ n = 0)) (h4 : ¬ (k = 4 ∧ ks.length = 1 ∧ 2 ≤ n ∧ n ≤ 16384)) : lw (.node k n ks) d c = (0, c + 1) := by
 rw [lw.eq_def]; dsimp only; rw [if_neg h0, if_neg h1, if_neg h2]
 split
 · rw [if_neg (fun h => h3 ⟨h.1, rfl, h.2⟩)]
 · rw [if_neg (fun h => h4 ⟨h.1, rfl, h.2⟩)]
 · rfl
theorem two_of {ks : List Tr} (h : ks.length = 2) : ∃ a b, ks = [a, b] := by
 match ks, h with
 | [a, b], _ => exact ⟨a, b, rfl⟩
theorem one_of {ks : List Tr} (h : ks.length = 1) : ∃ a, ks = [a] := by
 match ks, h with
 | [a], _ => exact ⟨a, rfl⟩
theorem lw_ok (t : Tr) (d c : Nat) : 0 ≤ (lw t d c).1 ∧ (lw t d c).1 ≤ 16384 ∧ (lw t d c).2 ≤ c + t.parts :=
  ⟨(lw_law _ t d c (Nat.le_refl _)).2.2.1, (lw_law _ t d c (Nat.le_refl _)).2.2.2.1, (lw_law _ t d c (Nat.le_refl _)).2.2.2.2⟩
theorem mul_small {x y : Int} (h1 : 0 ≤ x) (h2 : x ≤ 16384) (h3 : 0 ≤ y) (h4 : y ≤ 16384) : 0 ≤ x * y ∧ x * y ≤ 268435456 :=
  ⟨Int.mul_nonneg h1 h3, Int.le_trans (Int.mul_le_mul h2 h4 h3 (by decide)) (by decide)⟩
def WB (bw : Nat) (c : Nat) : Seg := [(bw, cel [.int .i64 (c : Nat)] 174)]
def LenC (t : Tr) : Prop := t.parts ≤ 4194304 → ∀ (w0 w : World) (F : List Seg) (vs : List Value) (bw d c : Nat), c ≤ 1099511627776 → d ≤ 1099511627776 → Hp w0 w (WB bw c :: F) → t.Is F vs →
  Ret Tryz.prog 112 [.pointer (some ⟨bw, 0, none⟩), .agg vs.toArray, .int .i64 (d : Nat)] w fun v w' => v = .int .i64 (lw t d c).1 ∧ Hp w0 w' (WB bw (lw t d c).2 :: F)
set_option maxHeartbeats 800000 in
theorem length_step {k n : Int} {ks : List Tr} (ih : ∀ t, t.parts < (Tr.node k n ks).parts → LenC t) (hp : (Tr.node k n ks).parts ≤ 4194304) {w0 w : World} {F : List Seg} {p : Option Addr} {c : Nat} {xs : List Value} {bw d cnt : Nat} (hcnt : cnt ≤ 1099511627776) (hdb : d ≤ 1099511627776) (H : Hp w0 w (WB bw cnt :: F)) (hs : SlAt F p xs) (hk : KidsIs F ks xs) : Ret Tryz.prog 112 [.pointer (some ⟨bw, 0, none⟩), .agg (tv k n p ks.length c).toArray, .int .i64 (d : Nat)] w fun v w' => v = .int .i64 (lw (.node k n ks) d cnt).1 ∧ Hp w0 w' (WB bw (lw (.node k n ks) d cnt).2 :: F) := by
 refine Calls.of_J (n := 148) Tryz.func112 rfl rfl rfl (J.seq ?_)
 have hkl := partsL_len ks
 have hpp : (Tr.node k n ks).parts = 1 + partsL ks := by rw [Tr.parts]
 refine J.region (JL.e (EX.box (v := .agg _) H rfl rfl) ?_)
 rintro _ w ⟨b1, rfl, H⟩
 refine JL.g (RX.assign) (JL.nil (J.seq (J.region (JL.mp rfl (JL.g (RX.nilCheck rfl) (JL.g (RX.fieldAddr rfl fo174_0 rfl) (JL.g (RX.load H rfl (i := 1) (v := .int .i64 (cnt : Nat)) rfl rfl one3) (JL.g (RX.add rfl rfl (w_i64 (r := ((cnt + 1 : Nat) : Int)) (by omega) (by omega) (by omega))) (JL.g (RX.nilCheck rfl) (JL.g (RX.fieldAddr rfl fo174_0 rfl) (JL.e (EX.store (v := .int _ _) H rfl rfl (i := 1) (l' := [.int .i64 ((cnt + 1 : Nat) : Int)]) rfl rfl (by simp) sz3 rfl rfl) ?_)))))))))))
 rintro _ w H
 refine JL.nil ?_
 replace H : Hp w0 w ([(b1, cel (tv k n p ks.length c) 39)] :: WB bw (cnt + 1) :: F) := H
 refine J.seq (J.seq (J.region (JL.mp rfl (JL.g (RX.nilCheck rfl) (JL.g (RX.fieldAddr rfl fo174_0 rfl) (JL.g (RX.load H rfl (i := 1) (v := .int .i64 ((cnt + 1 : Nat) : Int)) rfl rfl one3) (JL.g (RX.gt rfl rfl) (JL.mb rfl (JL.splitS 21 rfl (fun h1 => ?_) (fun h1 => ?_))))))))))
 ·
  first | have h1p := of_decide_eq_true h1 | skip
  refine JL.no ⟨_, rfl, gno h1⟩ (JL.no ⟨_, rfl, gno h1⟩ (JL.g (RX.pick_t rfl h1) (JL.nil (J.cond_t rfl rfl (J.seq (J.region (JL.g (RX.assign) (JL.nil (J.ret1 (v := .int _ _) Tryz.func112 rfl rfl ?_)))))))))
  first
  | (rw [lw_stop (by omega)]; exact ⟨_, rfl, rfl, H.drop⟩)
  | (rw [lw_dir h0 hc1]; exact ⟨_, rfl, rfl, H.drop⟩)
  | (rw [lw_fly h0 hn1 hc2]; exact ⟨_, rfl, rfl, H.drop⟩)
  | (rw [if_pos hx2]; exact ⟨_, rfl, rfl, H.drop⟩)
  | (rw [if_neg hx2, if_pos (by omega)]; exact ⟨_, rfl, rfl, H.drop⟩)
  | (rw [if_neg hx2, if_neg (by omega)]; exact ⟨_, rfl, rfl, H.drop⟩)
  | (rw [if_pos hx2]; exact ⟨_, rfl, rfl, (H.pull 1 rfl).drop⟩)
  | (rw [if_neg hx2]; exact ⟨_, rfl, rfl, (H.pull 1 rfl).drop⟩)
  | (rw [lw_else h0 hn1 hn2 hn3 hn4]; exact ⟨_, rfl, rfl, H.drop⟩)
 ·
  first | have h1p := of_decide_eq_false h1 | skip
  refine JL.go ⟨_, rfl, h1⟩ (RX.movev (v := .int _ _) rfl) (JL.go ⟨_, rfl, h1⟩ (RX.gt rfl rfl) (JL.g (RX.pick_f rfl h1) (JL.nil (J.cond_d rfl (fun hd => ?_) (fun hd => ?_)))))
  ·
   refine J.seq (J.region (JL.g (RX.assign) (JL.nil (J.ret1 (v := .int _ _) Tryz.func112 rfl rfl ?_))))
   first
   | (rw [lw_stop (by omega)]; exact ⟨_, rfl, rfl, H.drop⟩)
   | (rw [lw_dir h0 hc1]; exact ⟨_, rfl, rfl, H.drop⟩)
   | (rw [lw_fly h0 hn1 hc2]; exact ⟨_, rfl, rfl, H.drop⟩)
   | (rw [if_pos hx2]; exact ⟨_, rfl, rfl, H.drop⟩)
   | (rw [if_neg hx2, if_pos (by omega)]; exact ⟨_, rfl, rfl, H.drop⟩)
   | (rw [if_neg hx2, if_neg (by omega)]; exact ⟨_, rfl, rfl, H.drop⟩)
   | (rw [if_pos hx2]; exact ⟨_, rfl, rfl, (H.pull 1 rfl).drop⟩)
   | (rw [if_neg hx2]; exact ⟨_, rfl, rfl, (H.pull 1 rfl).drop⟩)
   | (rw [lw_else h0 hn1 hn2 hn3 hn4]; exact ⟨_, rfl, rfl, H.drop⟩)
  ·
   have h0 : ¬ (4096 < cnt + 1 ∨ 16 < d) := by omega
   refine J.skip (J.seq (J.block (J.seq (J.join (ι := Bool) (fun q => [(25, .bool q)]) (fun q w => q = decide (k = 1 ∧ ks.length = 0 ∧ 1 ≤ n ∧ n ≤ 64) ∧ Hp w0 w ([(b1, cel (tv k n p ks.length c) 39)] :: WB bw (cnt + 1) :: F)) [(0, _), (2, _), (4, _)] ⟨rfl, rfl, rfl, trivial⟩ ?_ ?_))))
   rotate_left
   ·
    intro k2 hk2
    refine J.region (JL.g (RX.fieldAddr rfl fo39_0 rfl) (JL.g (RX.load H rfl (i := 0) (v := .int .i64 k) rfl rfl one3) (JL.g (RX.eq rfl rfl) (JL.mb rfl (JL.splitS 29 rfl (fun h3 => ?_) (fun h3 => ?_))))))
    ·
     first | have h3p := of_decide_eq_true h3 | skip
     refine JL.go ⟨_, rfl, h3⟩ (RX.fieldAddr rfl fo39_2 rfl) (JL.go ⟨_, rfl, h3⟩ (RX.load H rfl (i := 0) (v := .slice p ks.length c) rfl rfl one37) (JL.go ⟨_, rfl, h3⟩ (RX.len_slice rfl (by rw [sl37]; rfl) rfl) ?_))
     refine JL.go ⟨_, rfl, h3⟩ (RX.eq rfl rfl) (JL.g (RX.pick_t rfl h3) (JL.mb rfl (JL.splitS 35 rfl (fun h4 => ?_) (fun h4 => ?_))))
     ·
      first | have h4p := of_decide_eq_true h4 | skip
      refine JL.go ⟨_, rfl, h4⟩ (RX.fieldAddr rfl fo39_1 rfl) (JL.go ⟨_, rfl, h4⟩ (RX.load H rfl (i := 0) (v := .int .i64 n) rfl rfl one3) (JL.go ⟨_, rfl, h4⟩ (RX.ge rfl rfl) (JL.g (RX.pick_t rfl h4) (JL.mb rfl (JL.splitS 40 rfl (fun h5 => ?_) (fun h5 => ?_))))))
      ·
       first | have h5p := of_decide_eq_true h5 | skip
       refine JL.go ⟨_, rfl, h5⟩ (RX.fieldAddr rfl fo39_1 rfl) (JL.go ⟨_, rfl, h5⟩ (RX.load H rfl (i := 0) (v := .int .i64 n) rfl rfl one3) (JL.go ⟨_, rfl, h5⟩ (RX.le rfl rfl) (JL.g (RX.pick_t rfl h5) (JL.ab rfl (JL.nil ?_)))))
       first
       | exact hk2 false _ _ ⟨rfl, rfl, rfl, trivial⟩ ⟨rfl, trivial⟩ ⟨(decide_eq_false (by omega)).symm, H⟩
       | exact hk2 _ _ _ ⟨rfl, rfl, rfl, trivial⟩ ⟨rfl, trivial⟩ ⟨by congr 1; rw [eq_iff_iff]; omega, H⟩
      ·
       first | have h5p := of_decide_eq_false h5 | skip
       refine JL.no ⟨_, rfl, gno h5⟩ (JL.no ⟨_, rfl, gno h5⟩ (JL.no ⟨_, rfl, gno h5⟩ (JL.g (RX.pick_f rfl h5) (JL.ab rfl (JL.nil ?_)))))
       first
       | exact hk2 false _ _ ⟨rfl, rfl, rfl, trivial⟩ ⟨rfl, trivial⟩ ⟨(decide_eq_false (by omega)).symm, H⟩
       | exact hk2 _ _ _ ⟨rfl, rfl, rfl, trivial⟩ ⟨rfl, trivial⟩ ⟨by congr 1; rw [eq_iff_iff]; omega, H⟩
     ·
      first | have h4p := of_decide_eq_false h4 | skip
      refine JL.no ⟨_, rfl, gno h4⟩ (JL.no ⟨_, rfl, gno h4⟩ (JL.no ⟨_, rfl, gno h4⟩ (JL.g (RX.pick_f rfl h4) (JL.mb rfl (JL.no ⟨_, rfl, gno rfl⟩ (JL.no ⟨_, rfl, gno rfl⟩ (JL.no ⟨_, rfl, gno rfl⟩ (JL.g (RX.pick_f rfl rfl) (JL.ab rfl (JL.nil ?_))))))))))
      first
      | exact hk2 false _ _ ⟨rfl, rfl, rfl, trivial⟩ ⟨rfl, trivial⟩ ⟨(decide_eq_false (by omega)).symm, H⟩
      | exact hk2 _ _ _ ⟨rfl, rfl, rfl, trivial⟩ ⟨rfl, trivial⟩ ⟨by congr 1; rw [eq_iff_iff]; omega, H⟩
    ·
     first | have h3p := of_decide_eq_false h3 | skip
     refine JL.no ⟨_, rfl, gno h3⟩ (JL.no ⟨_, rfl, gno h3⟩ (JL.no ⟨_, rfl, gno h3⟩ (JL.no ⟨_, rfl, gno h3⟩ (JL.g (RX.pick_f rfl h3) (JL.mb rfl (JL.no ⟨_, rfl, gno rfl⟩ (JL.no ⟨_, rfl, gno rfl⟩ (JL.no ⟨_, rfl, gno rfl⟩ (JL.g (RX.pick_f rfl rfl) (JL.mb rfl (JL.no ⟨_, rfl, gno rfl⟩ (JL.no ⟨_, rfl, gno rfl⟩ (JL.no ⟨_, rfl, gno rfl⟩ (JL.g (RX.pick_f rfl rfl) (JL.ab rfl (JL.nil ?_))))))))))))))))
     first
     | exact hk2 false _ _ ⟨rfl, rfl, rfl, trivial⟩ ⟨rfl, trivial⟩ ⟨(decide_eq_false (by omega)).symm, H⟩
     | exact hk2 _ _ _ ⟨rfl, rfl, rfl, trivial⟩ ⟨rfl, trivial⟩ ⟨by congr 1; rw [eq_iff_iff]; omega, H⟩
   ·
    clear H
    rintro q ρ w ⟨hq4, H⟩
    refine J.cond rfl (fun hb25 => ?_) (fun hb25 => ?_)
    ·
     have hc1 := of_decide_eq_true (hq4.symm.trans hb25)
     refine J.seq (J.region (JL.g (RX.fieldAddr rfl fo39_1 rfl) (JL.g (RX.load H rfl (i := 0) (v := .int .i64 n) rfl rfl one3) (JL.ai rfl (JL.nil (J.ret1 (v := .int _ _) Tryz.func112 rfl rfl ?_))))))
     first
     | (rw [lw_stop (by omega)]; exact ⟨_, rfl, rfl, H.drop⟩)
     | (rw [lw_dir h0 hc1]; exact ⟨_, rfl, rfl, H.drop⟩)
     | (rw [lw_fly h0 hn1 hc2]; exact ⟨_, rfl, rfl, H.drop⟩)
     | (rw [if_pos hx2]; exact ⟨_, rfl, rfl, H.drop⟩)
     | (rw [if_neg hx2, if_pos (by omega)]; exact ⟨_, rfl, rfl, H.drop⟩)
     | (rw [if_neg hx2, if_neg (by omega)]; exact ⟨_, rfl, rfl, H.drop⟩)
     | (rw [if_pos hx2]; exact ⟨_, rfl, rfl, (H.pull 1 rfl).drop⟩)
     | (rw [if_neg hx2]; exact ⟨_, rfl, rfl, (H.pull 1 rfl).drop⟩)
     | (rw [lw_else h0 hn1 hn2 hn3 hn4]; exact ⟨_, rfl, rfl, H.drop⟩)
    ·
     have hn1 := of_decide_eq_false (hq4.symm.trans hb25)
     refine J.seq (J.join (ι := Bool) (fun q => [(47, .bool q)]) (fun q w => q = decide (k = 2 ∧ ks.length = 0 ∧ 2 ≤ n ∧ n ≤ 5) ∧ Hp w0 w ([(b1, cel (tv k n p ks.length c) 39)] :: WB bw (cnt + 1) :: F)) [(0, _), (2, _), (4, _)] ⟨rfl, rfl, rfl, trivial⟩ ?_ ?_)
     rotate_left
     ·
      intro k2 hk2
      refine J.region (JL.g (RX.fieldAddr rfl fo39_0 rfl) (JL.g (RX.load H rfl (i := 0) (v := .int .i64 k) rfl rfl one3) (JL.g (RX.eq rfl rfl) (JL.mb rfl (JL.splitS 51 rfl (fun h7 => ?_) (fun h7 => ?_))))))
      ·
       first | have h7p := of_decide_eq_true h7 | skip
       refine JL.go ⟨_, rfl, h7⟩ (RX.fieldAddr rfl fo39_2 rfl) (JL.go ⟨_, rfl, h7⟩ (RX.load H rfl (i := 0) (v := .slice p ks.length c) rfl rfl one37) (JL.go ⟨_, rfl, h7⟩ (RX.len_slice rfl (by rw [sl37]; rfl) rfl) ?_))
       refine JL.go ⟨_, rfl, h7⟩ (RX.eq rfl rfl) (JL.g (RX.pick_t rfl h7) (JL.mb rfl (JL.splitS 57 rfl (fun h8 => ?_) (fun h8 => ?_))))
       ·
        first | have h8p := of_decide_eq_true h8 | skip
        refine JL.go ⟨_, rfl, h8⟩ (RX.fieldAddr rfl fo39_1 rfl) (JL.go ⟨_, rfl, h8⟩ (RX.load H rfl (i := 0) (v := .int .i64 n) rfl rfl one3) (JL.go ⟨_, rfl, h8⟩ (RX.ge rfl rfl) (JL.g (RX.pick_t rfl h8) (JL.mb rfl (JL.splitS 62 rfl (fun h9 => ?_) (fun h9 => ?_))))))
        ·
         first | have h9p := of_decide_eq_true h9 | skip
         refine JL.go ⟨_, rfl, h9⟩ (RX.fieldAddr rfl fo39_1 rfl) (JL.go ⟨_, rfl, h9⟩ (RX.load H rfl (i := 0) (v := .int .i64 n) rfl rfl one3) (JL.go ⟨_, rfl, h9⟩ (RX.le rfl rfl) (JL.g (RX.pick_t rfl h9) (JL.ab rfl (JL.nil ?_)))))
         first
         | exact hk2 false _ _ ⟨rfl, rfl, rfl, trivial⟩ ⟨rfl, trivial⟩ ⟨(decide_eq_false (by omega)).symm, H⟩
         | exact hk2 _ _ _ ⟨rfl, rfl, rfl, trivial⟩ ⟨rfl, trivial⟩ ⟨by congr 1; rw [eq_iff_iff]; omega, H⟩
        ·
         first | have h9p := of_decide_eq_false h9 | skip
         refine JL.no ⟨_, rfl, gno h9⟩ (JL.no ⟨_, rfl, gno h9⟩ (JL.no ⟨_, rfl, gno h9⟩ (JL.g (RX.pick_f rfl h9) (JL.ab rfl (JL.nil ?_)))))
         first
         | exact hk2 false _ _ ⟨rfl, rfl, rfl, trivial⟩ ⟨rfl, trivial⟩ ⟨(decide_eq_false (by omega)).symm, H⟩
         | exact hk2 _ _ _ ⟨rfl, rfl, rfl, trivial⟩ ⟨rfl, trivial⟩ ⟨by congr 1; rw [eq_iff_iff]; omega, H⟩
       ·
        first | have h8p := of_decide_eq_false h8 | skip
        refine JL.no ⟨_, rfl, gno h8⟩ (JL.no ⟨_, rfl, gno h8⟩ (JL.no ⟨_, rfl, gno h8⟩ (JL.g (RX.pick_f rfl h8) (JL.mb rfl (JL.no ⟨_, rfl, gno rfl⟩ (JL.no ⟨_, rfl, gno rfl⟩ (JL.no ⟨_, rfl, gno rfl⟩ (JL.g (RX.pick_f rfl rfl) (JL.ab rfl (JL.nil ?_))))))))))
        first
        | exact hk2 false _ _ ⟨rfl, rfl, rfl, trivial⟩ ⟨rfl, trivial⟩ ⟨(decide_eq_false (by omega)).symm, H⟩
        | exact hk2 _ _ _ ⟨rfl, rfl, rfl, trivial⟩ ⟨rfl, trivial⟩ ⟨by congr 1; rw [eq_iff_iff]; omega, H⟩
      ·
       first | have h7p := of_decide_eq_false h7 | skip
       refine JL.no ⟨_, rfl, gno h7⟩ (JL.no ⟨_, rfl, gno h7⟩ (JL.no ⟨_, rfl, gno h7⟩ (JL.no ⟨_, rfl, gno h7⟩ (JL.g (RX.pick_f rfl h7) (JL.mb rfl (JL.no ⟨_, rfl, gno rfl⟩ (JL.no ⟨_, rfl, gno rfl⟩ (JL.no ⟨_, rfl, gno rfl⟩ (JL.g (RX.pick_f rfl rfl) (JL.mb rfl (JL.no ⟨_, rfl, gno rfl⟩ (JL.no ⟨_, rfl, gno rfl⟩ (JL.no ⟨_, rfl, gno rfl⟩ (JL.g (RX.pick_f rfl rfl) (JL.ab rfl (JL.nil ?_))))))))))))))))
       first
       | exact hk2 false _ _ ⟨rfl, rfl, rfl, trivial⟩ ⟨rfl, trivial⟩ ⟨(decide_eq_false (by omega)).symm, H⟩
       | exact hk2 _ _ _ ⟨rfl, rfl, rfl, trivial⟩ ⟨rfl, trivial⟩ ⟨by congr 1; rw [eq_iff_iff]; omega, H⟩
     ·
      clear H
      rintro q ρ w ⟨hq6, H⟩
      refine J.cond rfl (fun hb47 => ?_) (fun hb47 => ?_)
      ·
       have hc2 := of_decide_eq_true (hq6.symm.trans hb47)
       refine J.seq (J.region (JL.g (RX.fieldAddr rfl fo39_1 rfl) (JL.g (RX.load H rfl (i := 0) (v := .int .i64 n) rfl rfl one3) (JL.ai rfl (JL.nil (J.ret1 (v := .int _ _) Tryz.func112 rfl rfl ?_))))))
       first
       | (rw [lw_stop (by omega)]; exact ⟨_, rfl, rfl, H.drop⟩)
       | (rw [lw_dir h0 hc1]; exact ⟨_, rfl, rfl, H.drop⟩)
       | (rw [lw_fly h0 hn1 hc2]; exact ⟨_, rfl, rfl, H.drop⟩)
       | (rw [if_pos hx2]; exact ⟨_, rfl, rfl, H.drop⟩)
       | (rw [if_neg hx2, if_pos (by omega)]; exact ⟨_, rfl, rfl, H.drop⟩)
       | (rw [if_neg hx2, if_neg (by omega)]; exact ⟨_, rfl, rfl, H.drop⟩)
       | (rw [if_pos hx2]; exact ⟨_, rfl, rfl, (H.pull 1 rfl).drop⟩)
       | (rw [if_neg hx2]; exact ⟨_, rfl, rfl, (H.pull 1 rfl).drop⟩)
       | (rw [lw_else h0 hn1 hn2 hn3 hn4]; exact ⟨_, rfl, rfl, H.drop⟩)
      ·
       have hn2 := of_decide_eq_false (hq6.symm.trans hb47)
       refine J.seq (J.join (ι := Bool) (fun q => [(69, .bool q)]) (fun q w => q = decide (k = 3 ∧ ks.length = 2 ∧ n = 0) ∧ Hp w0 w ([(b1, cel (tv k n p ks.length c) 39)] :: WB bw (cnt + 1) :: F)) [(0, _), (2, _), (4, _)] ⟨rfl, rfl, rfl, trivial⟩ ?_ ?_)
       rotate_left
       ·
        intro k2 hk2
        refine J.region (JL.g (RX.fieldAddr rfl fo39_0 rfl) (JL.g (RX.load H rfl (i := 0) (v := .int .i64 k) rfl rfl one3) (JL.g (RX.eq rfl rfl) (JL.mb rfl (JL.splitS 73 rfl (fun h11 => ?_) (fun h11 => ?_))))))
        ·
         first | have h11p := of_decide_eq_true h11 | skip
         refine JL.go ⟨_, rfl, h11⟩ (RX.fieldAddr rfl fo39_2 rfl) (JL.go ⟨_, rfl, h11⟩ (RX.load H rfl (i := 0) (v := .slice p ks.length c) rfl rfl one37) (JL.go ⟨_, rfl, h11⟩ (RX.len_slice rfl (by rw [sl37]; rfl) rfl) ?_))
         refine JL.go ⟨_, rfl, h11⟩ (RX.eq rfl rfl) (JL.g (RX.pick_t rfl h11) (JL.mb rfl (JL.splitS 79 rfl (fun h12 => ?_) (fun h12 => ?_))))
         ·
          first | have h12p := of_decide_eq_true h12 | skip
          refine JL.go ⟨_, rfl, h12⟩ (RX.fieldAddr rfl fo39_1 rfl) (JL.go ⟨_, rfl, h12⟩ (RX.load H rfl (i := 0) (v := .int .i64 n) rfl rfl one3) (JL.go ⟨_, rfl, h12⟩ (RX.eq rfl rfl) (JL.g (RX.pick_t rfl h12) (JL.ab rfl (JL.nil ?_)))))
          first
          | exact hk2 false _ _ ⟨rfl, rfl, rfl, trivial⟩ ⟨rfl, trivial⟩ ⟨(decide_eq_false (by omega)).symm, H⟩
          | exact hk2 _ _ _ ⟨rfl, rfl, rfl, trivial⟩ ⟨rfl, trivial⟩ ⟨by congr 1; rw [eq_iff_iff]; omega, H⟩
         ·
          first | have h12p := of_decide_eq_false h12 | skip
          refine JL.no ⟨_, rfl, gno h12⟩ (JL.no ⟨_, rfl, gno h12⟩ (JL.no ⟨_, rfl, gno h12⟩ (JL.g (RX.pick_f rfl h12) (JL.ab rfl (JL.nil ?_)))))
          first
          | exact hk2 false _ _ ⟨rfl, rfl, rfl, trivial⟩ ⟨rfl, trivial⟩ ⟨(decide_eq_false (by omega)).symm, H⟩
          | exact hk2 _ _ _ ⟨rfl, rfl, rfl, trivial⟩ ⟨rfl, trivial⟩ ⟨by congr 1; rw [eq_iff_iff]; omega, H⟩
        ·
         first | have h11p := of_decide_eq_false h11 | skip
         refine JL.no ⟨_, rfl, gno h11⟩ (JL.no ⟨_, rfl, gno h11⟩ (JL.no ⟨_, rfl, gno h11⟩ (JL.no ⟨_, rfl, gno h11⟩ (JL.g (RX.pick_f rfl h11) (JL.mb rfl (JL.no ⟨_, rfl, gno rfl⟩ (JL.no ⟨_, rfl, gno rfl⟩ (JL.no ⟨_, rfl, gno rfl⟩ (JL.g (RX.pick_f rfl rfl) (JL.ab rfl (JL.nil ?_)))))))))))
         first
         | exact hk2 false _ _ ⟨rfl, rfl, rfl, trivial⟩ ⟨rfl, trivial⟩ ⟨(decide_eq_false (by omega)).symm, H⟩
         | exact hk2 _ _ _ ⟨rfl, rfl, rfl, trivial⟩ ⟨rfl, trivial⟩ ⟨by congr 1; rw [eq_iff_iff]; omega, H⟩
       ·
        clear H
        rintro q ρ w ⟨hq8, H⟩
        refine J.cond rfl (fun hb69 => ?_) (fun hb69 => ?_)
        ·
         have hc3 := of_decide_eq_true (hq8.symm.trans hb69)
         obtain ⟨rfl, hl2, rfl⟩ := hc3
         obtain ⟨a, b, rfl⟩ := two_of hl2
         obtain ⟨va, hva, hia⟩ := hk.get (i := 0) (t := a) rfl
         obtain ⟨vb, hvb, hib⟩ := hk.get (i := 1) (t := b) rfl
         have hpa := kid_lt (k := 3) (n := 0) (ks := [a, b]) (i := 0) (t := a) rfl
         have hpb := kid_lt (k := 3) (n := 0) (ks := [a, b]) (i := 1) (t := b) rfl
         have hxl := hk.len
         have hl2 : [a, b].length = 2 := rfl
         obtain ⟨pb, po, rfl⟩ := spot_some hs (by omega)
         have hla := lw_ok a (d + 1) (cnt + 1)
         have hlb := lw_ok b (d + 1) (lw a (d + 1) (cnt + 1)).2
         rw [lw_two h0]
         generalize hxa : lw a (d + 1) (cnt + 1) = xa at hla hlb ⊢
         generalize hxb : lw b (d + 1) xa.2 = xb at hlb ⊢
         refine J.seq (J.region (JL.mp rfl (JL.g (RX.fieldAddr rfl fo39_2 rfl) (JL.g (RX.load H rfl (i := 0) (v := .slice (some ⟨pb, po, none⟩) [a, b].length c) rfl rfl one37) (JL.g (RX.indexAddr rfl rfl sl37 (by omega) (by omega) (o' := po + 0 * 3) (by omega)) (JL.g (RX.loadAggS H hs.cons.cons rfl (j := 0 * 3) (by omega) (vs := va) hva ag39) (JL.mi rfl (JL.g (RX.add rfl rfl (w_i64 (r := ((d + 1 : Nat) : Int)) (by omega) (by omega) (by omega))) (JL.e (EX.call rfl cl112 rfl ((ih a hpa (by omega) _ _ _ _ bw (d + 1) (cnt + 1) (by omega) (by omega) (H.pull 1 rfl) hia.cons))) ?_)))))))))
         rintro _ w ⟨rfl, H⟩
         replace H := H.pull 1 rfl
         rw [hxa] at H ⊢
         refine JL.ai rfl (JL.nil (J.seq (J.seq (J.region (JL.mi rfl (JL.g (RX.lt rfl rfl) (JL.nil (J.cond_d rfl (fun hx2 => ?_) (fun hx2 => ?_)))))))))
         ·
          refine J.seq (J.region (JL.g (RX.assign) (JL.nil (J.ret1 (v := .int _ _) Tryz.func112 rfl rfl ?_))))
          first
          | (rw [lw_stop (by omega)]; exact ⟨_, rfl, rfl, H.drop⟩)
          | (rw [lw_dir h0 hc1]; exact ⟨_, rfl, rfl, H.drop⟩)
          | (rw [lw_fly h0 hn1 hc2]; exact ⟨_, rfl, rfl, H.drop⟩)
          | (rw [if_pos hx2]; exact ⟨_, rfl, rfl, H.drop⟩)
          | (rw [if_neg hx2, if_pos (by omega)]; exact ⟨_, rfl, rfl, H.drop⟩)
          | (rw [if_neg hx2, if_neg (by omega)]; exact ⟨_, rfl, rfl, H.drop⟩)
          | (rw [if_pos hx2]; exact ⟨_, rfl, rfl, (H.pull 1 rfl).drop⟩)
          | (rw [if_neg hx2]; exact ⟨_, rfl, rfl, (H.pull 1 rfl).drop⟩)
          | (rw [lw_else h0 hn1 hn2 hn3 hn4]; exact ⟨_, rfl, rfl, H.drop⟩)
         ·
          refine J.skip (J.seq (J.region (JL.mp rfl (JL.g (RX.fieldAddr rfl fo39_2 rfl) (JL.g (RX.load H rfl (i := 0) (v := .slice (some ⟨pb, po, none⟩) [a, b].length c) rfl rfl one37) (JL.g (RX.indexAddr rfl rfl sl37 (by omega) (by omega) (o' := po + 1 * 3) (by omega)) (JL.g (RX.loadAggS H hs.cons.cons rfl (j := 1 * 3) (by omega) (vs := vb) hvb ag39) (JL.mi rfl (JL.g (RX.add rfl rfl (w_i64 (r := ((d + 1 : Nat) : Int)) (by omega) (by omega) (by omega))) (JL.e (EX.call rfl cl112 rfl ((ih b hpb (by omega) _ _ _ _ bw (d + 1) xa.2 (by omega) (by omega) (H.pull 1 rfl) hib.cons))) ?_))))))))))
          rintro _ w ⟨rfl, H⟩
          replace H := H.pull 1 rfl
          rw [hxb] at H ⊢
          have hmu := mul_small hla.1 hla.2.1 hlb.1 hlb.2.1
          refine JL.ai rfl (JL.nil (J.seq (J.seq (J.region (JL.mi rfl (JL.g (RX.lt rfl rfl) (JL.mb rfl (JL.splitS 104 rfl (fun hy2 => ?_) (fun hy2 => ?_)))))))))
          ·
           first | have hy2p := of_decide_eq_true hy2 | skip
           refine JL.no ⟨_, rfl, gno hy2⟩ (JL.no ⟨_, rfl, gno hy2⟩ (JL.no ⟨_, rfl, gno hy2⟩ (JL.no ⟨_, rfl, gno hy2⟩ (JL.g (RX.pick_t rfl hy2) (JL.nil (J.cond_t rfl rfl (J.seq (J.region (JL.g (RX.assign) (JL.nil (J.ret1 (v := .int _ _) Tryz.func112 rfl rfl ?_)))))))))))
           first
           | (rw [lw_stop (by omega)]; exact ⟨_, rfl, rfl, H.drop⟩)
           | (rw [lw_dir h0 hc1]; exact ⟨_, rfl, rfl, H.drop⟩)
           | (rw [lw_fly h0 hn1 hc2]; exact ⟨_, rfl, rfl, H.drop⟩)
           | (rw [if_pos hx2]; exact ⟨_, rfl, rfl, H.drop⟩)
           | (rw [if_neg hx2, if_pos (by omega)]; exact ⟨_, rfl, rfl, H.drop⟩)
           | (rw [if_neg hx2, if_neg (by omega)]; exact ⟨_, rfl, rfl, H.drop⟩)
           | (rw [if_pos hx2]; exact ⟨_, rfl, rfl, (H.pull 1 rfl).drop⟩)
           | (rw [if_neg hx2]; exact ⟨_, rfl, rfl, (H.pull 1 rfl).drop⟩)
           | (rw [lw_else h0 hn1 hn2 hn3 hn4]; exact ⟨_, rfl, rfl, H.drop⟩)
          ·
           first | have hy2p := of_decide_eq_false hy2 | skip
           refine JL.go ⟨_, rfl, hy2⟩ (RX.movev (v := .int _ _) rfl) (JL.go ⟨_, rfl, hy2⟩ (RX.movev (v := .int _ _) rfl) (JL.go ⟨_, rfl, hy2⟩ (RX.mul rfl rfl (w_i64 (r := xa.1 * xb.1) rfl (by omega) (by omega))) (JL.go ⟨_, rfl, hy2⟩ (RX.gt rfl rfl) (JL.g (RX.pick_f rfl hy2) (JL.nil (J.cond_d rfl (fun hxy => ?_) (fun hxy => ?_)))))))
           ·
            refine J.seq (J.region (JL.g (RX.assign) (JL.nil (J.ret1 (v := .int _ _) Tryz.func112 rfl rfl ?_))))
            first
            | (rw [lw_stop (by omega)]; exact ⟨_, rfl, rfl, H.drop⟩)
            | (rw [lw_dir h0 hc1]; exact ⟨_, rfl, rfl, H.drop⟩)
            | (rw [lw_fly h0 hn1 hc2]; exact ⟨_, rfl, rfl, H.drop⟩)
            | (rw [if_pos hx2]; exact ⟨_, rfl, rfl, H.drop⟩)
            | (rw [if_neg hx2, if_pos (by omega)]; exact ⟨_, rfl, rfl, H.drop⟩)
            | (rw [if_neg hx2, if_neg (by omega)]; exact ⟨_, rfl, rfl, H.drop⟩)
            | (rw [if_pos hx2]; exact ⟨_, rfl, rfl, (H.pull 1 rfl).drop⟩)
            | (rw [if_neg hx2]; exact ⟨_, rfl, rfl, (H.pull 1 rfl).drop⟩)
            | (rw [lw_else h0 hn1 hn2 hn3 hn4]; exact ⟨_, rfl, rfl, H.drop⟩)
           ·
            refine J.skip (J.seq (J.region (JL.mi rfl (JL.mi rfl (JL.g (RX.mul rfl rfl (w_i64 (r := xa.1 * xb.1) rfl (by omega) (by omega))) (JL.ai rfl (JL.nil (J.ret1 (v := .int _ _) Tryz.func112 rfl rfl ?_))))))))
            first
            | (rw [lw_stop (by omega)]; exact ⟨_, rfl, rfl, H.drop⟩)
            | (rw [lw_dir h0 hc1]; exact ⟨_, rfl, rfl, H.drop⟩)
            | (rw [lw_fly h0 hn1 hc2]; exact ⟨_, rfl, rfl, H.drop⟩)
            | (rw [if_pos hx2]; exact ⟨_, rfl, rfl, H.drop⟩)
            | (rw [if_neg hx2, if_pos (by omega)]; exact ⟨_, rfl, rfl, H.drop⟩)
            | (rw [if_neg hx2, if_neg (by omega)]; exact ⟨_, rfl, rfl, H.drop⟩)
            | (rw [if_pos hx2]; exact ⟨_, rfl, rfl, (H.pull 1 rfl).drop⟩)
            | (rw [if_neg hx2]; exact ⟨_, rfl, rfl, (H.pull 1 rfl).drop⟩)
            | (rw [lw_else h0 hn1 hn2 hn3 hn4]; exact ⟨_, rfl, rfl, H.drop⟩)
        ·
         have hn3 := of_decide_eq_false (hq8.symm.trans hb69)
         refine J.seq (J.join (ι := Bool) (fun q => [(113, .bool q)]) (fun q w => q = decide (k = 4 ∧ ks.length = 1 ∧ 2 ≤ n ∧ n ≤ 16384) ∧ Hp w0 w ([(b1, cel (tv k n p ks.length c) 39)] :: WB bw (cnt + 1) :: F)) [(0, _), (2, _), (4, _)] ⟨rfl, rfl, rfl, trivial⟩ ?_ ?_)
         rotate_left
         ·
          intro k2 hk2
          refine J.region (JL.g (RX.fieldAddr rfl fo39_0 rfl) (JL.g (RX.load H rfl (i := 0) (v := .int .i64 k) rfl rfl one3) (JL.g (RX.eq rfl rfl) (JL.mb rfl (JL.splitS 117 rfl (fun h17 => ?_) (fun h17 => ?_))))))
          ·
           first | have h17p := of_decide_eq_true h17 | skip
           refine JL.go ⟨_, rfl, h17⟩ (RX.fieldAddr rfl fo39_2 rfl) (JL.go ⟨_, rfl, h17⟩ (RX.load H rfl (i := 0) (v := .slice p ks.length c) rfl rfl one37) (JL.go ⟨_, rfl, h17⟩ (RX.len_slice rfl (by rw [sl37]; rfl) rfl) ?_))
           refine JL.go ⟨_, rfl, h17⟩ (RX.eq rfl rfl) (JL.g (RX.pick_t rfl h17) (JL.mb rfl (JL.splitS 123 rfl (fun h18 => ?_) (fun h18 => ?_))))
           ·
            first | have h18p := of_decide_eq_true h18 | skip
            refine JL.go ⟨_, rfl, h18⟩ (RX.fieldAddr rfl fo39_1 rfl) (JL.go ⟨_, rfl, h18⟩ (RX.load H rfl (i := 0) (v := .int .i64 n) rfl rfl one3) (JL.go ⟨_, rfl, h18⟩ (RX.ge rfl rfl) (JL.g (RX.pick_t rfl h18) (JL.mb rfl (JL.splitS 128 rfl (fun h19 => ?_) (fun h19 => ?_))))))
            ·
             first | have h19p := of_decide_eq_true h19 | skip
             refine JL.go ⟨_, rfl, h19⟩ (RX.fieldAddr rfl fo39_1 rfl) (JL.go ⟨_, rfl, h19⟩ (RX.load H rfl (i := 0) (v := .int .i64 n) rfl rfl one3) (JL.go ⟨_, rfl, h19⟩ (RX.le rfl rfl) (JL.g (RX.pick_t rfl h19) (JL.ab rfl (JL.nil ?_)))))
             first
             | exact hk2 false _ _ ⟨rfl, rfl, rfl, trivial⟩ ⟨rfl, trivial⟩ ⟨(decide_eq_false (by omega)).symm, H⟩
             | exact hk2 _ _ _ ⟨rfl, rfl, rfl, trivial⟩ ⟨rfl, trivial⟩ ⟨by congr 1; rw [eq_iff_iff]; omega, H⟩
            ·
             first | have h19p := of_decide_eq_false h19 | skip
             refine JL.no ⟨_, rfl, gno h19⟩ (JL.no ⟨_, rfl, gno h19⟩ (JL.no ⟨_, rfl, gno h19⟩ (JL.g (RX.pick_f rfl h19) (JL.ab rfl (JL.nil ?_)))))
             first
             | exact hk2 false _ _ ⟨rfl, rfl, rfl, trivial⟩ ⟨rfl, trivial⟩ ⟨(decide_eq_false (by omega)).symm, H⟩
             | exact hk2 _ _ _ ⟨rfl, rfl, rfl, trivial⟩ ⟨rfl, trivial⟩ ⟨by congr 1; rw [eq_iff_iff]; omega, H⟩
           ·
            first | have h18p := of_decide_eq_false h18 | skip
            refine JL.no ⟨_, rfl, gno h18⟩ (JL.no ⟨_, rfl, gno h18⟩ (JL.no ⟨_, rfl, gno h18⟩ (JL.g (RX.pick_f rfl h18) (JL.mb rfl (JL.no ⟨_, rfl, gno rfl⟩ (JL.no ⟨_, rfl, gno rfl⟩ (JL.no ⟨_, rfl, gno rfl⟩ (JL.g (RX.pick_f rfl rfl) (JL.ab rfl (JL.nil ?_))))))))))
            first
            | exact hk2 false _ _ ⟨rfl, rfl, rfl, trivial⟩ ⟨rfl, trivial⟩ ⟨(decide_eq_false (by omega)).symm, H⟩
            | exact hk2 _ _ _ ⟨rfl, rfl, rfl, trivial⟩ ⟨rfl, trivial⟩ ⟨by congr 1; rw [eq_iff_iff]; omega, H⟩
          ·
           first | have h17p := of_decide_eq_false h17 | skip
           refine JL.no ⟨_, rfl, gno h17⟩ (JL.no ⟨_, rfl, gno h17⟩ (JL.no ⟨_, rfl, gno h17⟩ (JL.no ⟨_, rfl, gno h17⟩ (JL.g (RX.pick_f rfl h17) (JL.mb rfl (JL.no ⟨_, rfl, gno rfl⟩ (JL.no ⟨_, rfl, gno rfl⟩ (JL.no ⟨_, rfl, gno rfl⟩ (JL.g (RX.pick_f rfl rfl) (JL.mb rfl (JL.no ⟨_, rfl, gno rfl⟩ (JL.no ⟨_, rfl, gno rfl⟩ (JL.no ⟨_, rfl, gno rfl⟩ (JL.g (RX.pick_f rfl rfl) (JL.ab rfl (JL.nil ?_))))))))))))))))
           first
           | exact hk2 false _ _ ⟨rfl, rfl, rfl, trivial⟩ ⟨rfl, trivial⟩ ⟨(decide_eq_false (by omega)).symm, H⟩
           | exact hk2 _ _ _ ⟨rfl, rfl, rfl, trivial⟩ ⟨rfl, trivial⟩ ⟨by congr 1; rw [eq_iff_iff]; omega, H⟩
         ·
          clear H
          rintro q ρ w ⟨hq16, H⟩
          refine J.cond rfl (fun hb113 => ?_) (fun hb113 => ?_)
          ·
           have hc4 := of_decide_eq_true (hq16.symm.trans hb113)
           obtain ⟨rfl, hl1, hm1, hm2⟩ := hc4
           obtain ⟨a, rfl⟩ := one_of hl1
           obtain ⟨va, hva, hia⟩ := hk.get (i := 0) (t := a) rfl
           have hpa := kid_lt (k := 4) (n := n) (ks := [a]) (i := 0) (t := a) rfl
           have hxl := hk.len
           have hl1 : [a].length = 1 := rfl
           obtain ⟨pb, po, rfl⟩ := spot_some hs (by omega)
           have hla := lw_ok a (d + 1) (cnt + 1)
           rw [lw_one h0 hm1 hm2]
           generalize hxa : lw a (d + 1) (cnt + 1) = xa at hla ⊢
           refine J.seq (J.seq ?_)
           replace H := H.pull 1 rfl
           refine J.held (fun w => Hp w0 w ([(b1, cel (tv 4 n (some ⟨pb, po, none⟩) [a].length c) 39)] :: F)) hmix fun w hs => ?_
           replace H := H.same hs; clear hs
           have hS : Hp w0 w ([(b1, cel (tv 4 n (some ⟨pb, po, none⟩) [a].length c) 39)] :: F) := H.drop
           refine JH.take 0 rfl (by kernel_rfl) (by kernel_rfl) (by kernel_rfl) rfl trivial (fun w H => RX.movev (v := .pointer _) rfl) hS (JH.take 1 rfl (by kernel_rfl) (by kernel_rfl) (by kernel_rfl) rfl trivial (fun w H => RX.fieldAddr rfl fo39_2 rfl) hS (JH.take 2 rfl (by kernel_rfl) (by kernel_rfl) (by kernel_rfl) rfl trivial (fun w H => RX.load H rfl (i := 0) (v := .slice (some ⟨pb, po, none⟩) [a].length c) rfl rfl one37) hS (JH.take 3 rfl (by kernel_rfl) (by kernel_rfl) (by kernel_rfl) rfl trivial (fun w H => RX.indexAddr rfl rfl sl37 (by omega) (by omega) (o' := po + 0 * 3) (by omega)) hS (JH.take 4 rfl (by kernel_rfl) (by kernel_rfl) (by kernel_rfl) rfl trivial (fun w H => RX.loadAggS H hs.cons rfl (j := 0 * 3) (by omega) (vs := va) hva ag39) hS (JH.take 5 rfl (by kernel_rfl) (by kernel_rfl) (by kernel_rfl) rfl trivial (fun w H => RX.movev (v := .int _ _) rfl) hS (JH.take 6 rfl (by kernel_rfl) (by kernel_rfl) (by kernel_rfl) rfl trivial (fun w H => RX.add rfl rfl (w_i64 (r := ((d + 1 : Nat) : Int)) (by omega) (by omega) (by omega))) hS (JH.take 8 rfl (by kernel_rfl) (by kernel_rfl) (by kernel_rfl) rfl trivial (fun w H => RX.fieldAddr rfl fo39_1 rfl) hS (JH.take 9 rfl (by kernel_rfl) (by kernel_rfl) (by kernel_rfl) rfl trivial (fun w H => RX.load H rfl (i := 0) (v := .int .i64 n) rfl rfl one3) hS (JH.take 10 rfl (by kernel_rfl) (by kernel_rfl) (by kernel_rfl) rfl trivial (fun w H => RX.mul rfl rfl (w_i64 (r := 2 * n) rfl (by omega) (by omega))) hS (JH.take 11 rfl (by kernel_rfl) (by kernel_rfl) (by kernel_rfl) rfl trivial (fun w H => RX.sub rfl rfl (w_i64 (r := 2 * n - 1) rfl (by omega) (by omega))) hS (JH.all [7] (by kernel_rfl) (by decide) (JHO.does rfl rfl trivial (EX.call rfl cl112 rfl ((ih a hpa (by omega) _ _ _ _ bw (d + 1) (cnt + 1) (by omega) (by omega) H hia.cons))) ?_))))))))))))
           rintro _ w ⟨rfl, H⟩
           rw [hxa] at H ⊢
           have hS : Hp w0 w ([(b1, cel (tv 4 n (some ⟨pb, po, none⟩) [a].length c) 39)] :: F) := H.drop
           refine ⟨hS, ?_⟩
           refine JH.take 12 rfl (by kernel_rfl) (by kernel_rfl) (by kernel_rfl) rfl trivial (fun w H => RX.lt rfl rfl) hS (JH.done (by kernel_rfl) (J.cond_d rfl (fun hx2 => ?_) (fun hx2 => ?_)))
           ·
            refine J.seq (J.region (JL.g (RX.assign) (JL.nil (J.ret1 (v := .int _ _) Tryz.func112 rfl rfl ?_))))
            first
            | (rw [lw_stop (by omega)]; exact ⟨_, rfl, rfl, H.drop⟩)
            | (rw [lw_dir h0 hc1]; exact ⟨_, rfl, rfl, H.drop⟩)
            | (rw [lw_fly h0 hn1 hc2]; exact ⟨_, rfl, rfl, H.drop⟩)
            | (rw [if_pos hx2]; exact ⟨_, rfl, rfl, H.drop⟩)
            | (rw [if_neg hx2, if_pos (by omega)]; exact ⟨_, rfl, rfl, H.drop⟩)
            | (rw [if_neg hx2, if_neg (by omega)]; exact ⟨_, rfl, rfl, H.drop⟩)
            | (rw [if_pos hx2]; exact ⟨_, rfl, rfl, (H.pull 1 rfl).drop⟩)
            | (rw [if_neg hx2]; exact ⟨_, rfl, rfl, (H.pull 1 rfl).drop⟩)
            | (rw [lw_else h0 hn1 hn2 hn3 hn4]; exact ⟨_, rfl, rfl, H.drop⟩)
           ·
            refine J.skip (J.seq (J.region (JL.g (RX.fieldAddr rfl fo39_1 rfl) (JL.g (RX.load H rfl (i := 1) (v := .int .i64 n) rfl rfl one3) (JL.ai rfl (JL.nil (J.ret1 (v := .int _ _) Tryz.func112 rfl rfl ?_)))))))
            first
            | (rw [lw_stop (by omega)]; exact ⟨_, rfl, rfl, H.drop⟩)
            | (rw [lw_dir h0 hc1]; exact ⟨_, rfl, rfl, H.drop⟩)
            | (rw [lw_fly h0 hn1 hc2]; exact ⟨_, rfl, rfl, H.drop⟩)
            | (rw [if_pos hx2]; exact ⟨_, rfl, rfl, H.drop⟩)
            | (rw [if_neg hx2, if_pos (by omega)]; exact ⟨_, rfl, rfl, H.drop⟩)
            | (rw [if_neg hx2, if_neg (by omega)]; exact ⟨_, rfl, rfl, H.drop⟩)
            | (rw [if_pos hx2]; exact ⟨_, rfl, rfl, (H.pull 1 rfl).drop⟩)
            | (rw [if_neg hx2]; exact ⟨_, rfl, rfl, (H.pull 1 rfl).drop⟩)
            | (rw [lw_else h0 hn1 hn2 hn3 hn4]; exact ⟨_, rfl, rfl, H.drop⟩)
          ·
           have hn4 := of_decide_eq_false (hq16.symm.trans hb113)
           refine J.skip (J.inBlock (J.seq (J.region (JL.g (RX.assign) (JL.nil (J.ret1 (v := .int _ _) Tryz.func112 rfl rfl ?_))))))
           first
           | (rw [lw_stop (by omega)]; exact ⟨_, rfl, rfl, H.drop⟩)
           | (rw [lw_dir h0 hc1]; exact ⟨_, rfl, rfl, H.drop⟩)
           | (rw [lw_fly h0 hn1 hc2]; exact ⟨_, rfl, rfl, H.drop⟩)
           | (rw [if_pos hx2]; exact ⟨_, rfl, rfl, H.drop⟩)
           | (rw [if_neg hx2, if_pos (by omega)]; exact ⟨_, rfl, rfl, H.drop⟩)
           | (rw [if_neg hx2, if_neg (by omega)]; exact ⟨_, rfl, rfl, H.drop⟩)
           | (rw [if_pos hx2]; exact ⟨_, rfl, rfl, (H.pull 1 rfl).drop⟩)
           | (rw [if_neg hx2]; exact ⟨_, rfl, rfl, (H.pull 1 rfl).drop⟩)
           | (rw [lw_else h0 hn1 hn2 hn3 hn4]; exact ⟨_, rfl, rfl, H.drop⟩)
end Oo
end Go.Proofs.YtfaokllgaambjaaGreatDoor
namespace Go.Proofs.YtfaokllgaambjaaGreatDoor
open Go Go.Eng
set_option maxRecDepth 100000
set_option maxHeartbeats 1600000
theorem cl85 : callable Tryz.prog 85 = true := by kernel_rfl
theorem zr174 : (Tryz.prog.info? 174).bind (·.zero) = some (.agg #[.int .i64 0]) := by kernel_rfl
namespace Oo
theorem length_b : ∀ t, LenC t := tr_ind fun t ih hp w0 w F vs bw d c hc hd H ht => by
  obtain ⟨k, n, ks⟩ := t
  rw [Tr.Is] at ht
  obtain ⟨p, c', xs, rfl, hs, hk⟩ := ht
  exact length_step ih hp hc hd H hs hk
def goodB (t : Tr) : Bool := decide (lenO t ≠ 0)
def e8 (E : Nat → Value) (b : Bool) : Value := if b then .nilIface else E 8
theorem e8_ie {F : List Seg} {E : Nat → Value} (h : GErr F 6 (E 8)) (b : Bool) : isErr (e8 E b) = true ∧ isNil (e8 E b) = b := by
 cases b
 · exact ⟨h.ie, h.nn⟩
 · exact ⟨rfl, rfl⟩
theorem e8_no {E : Nat → Value} {t : Tr} (h : lenO t = 0) : e8 E (goodB t) = E 8 := by
 unfold goodB; rw [decide_eq_false (fun h' => h' h)]; rfl
theorem e8_yes {E : Nat → Value} {t : Tr} (h : lenO t ≠ 0) : e8 E (goodB t) = .nilIface := by
 unfold goodB; rw [decide_eq_true h]; rfl
theorem b_size (a : List UInt8) : (⟨a.toArray⟩ : ByteArray).size = a.length := by simp [ByteArray.size]
theorem Length_b {w0 w : World} {F : List Seg} (H : Hp w0 w F) {t : Tr} {vs : List Value} (ht : t.Is F vs) (hp : t.parts ≤ 4194304) : Ret Tryz.prog 85 [.agg vs.toArray] w fun v w' => v = .int .i64 (lenO t) ∧ Hp w0 w' F := by
 refine Calls.of_J (n := 6) Tryz.func85 rfl rfl rfl (J.seq ?_)
 obtain ⟨k, n, p, m, c, rfl⟩ := ht.shape
 refine J.region (JL.e (EX.box (v := .agg _) H rfl rfl) ?_)
 rintro _ w ⟨b1, rfl, H⟩
 refine JL.g (RX.assign) (JL.nil (J.seq (J.region (JL.e (EX.alloc H zr174 rfl) ?_))))
 rintro _ w ⟨b2, rfl, H⟩
 refine JL.g (RX.loadAgg H rfl (i := 1) (vs := tv k n p m c) rfl rfl ag39) (JL.e (EX.call rfl cl112 rfl ((length_b t hp _ _ _ _ b2 1 0 (by decide) (by decide) H ht.cons))) ?_)
 rintro _ w ⟨rfl, H⟩
 refine JL.ai rfl (JL.nil (J.ret1 (v := .int _ _) Tryz.func85 rfl rfl ?_))
 exact ⟨_, rfl, rfl, H.drop.drop⟩
theorem Check_b {w0 w : World} {F : List Seg} (H : Hp w0 w F) {t : Tr} {vs : List Value} (ht : t.Is F vs) (hp : t.parts ≤ 4194304) {E : Nat → Value} (g8 : GErr F 6 (E 8)) : Ret Tryz.prog 54 [.agg vs.toArray] w fun v w' => v = e8 E (goodB t) ∧ Hp w0 w' F := by
 refine Calls.of_J (n := 7) Tryz.func54 rfl rfl rfl (J.seq ?_)
 obtain ⟨k, n, p, m, c, rfl⟩ := ht.shape
 refine J.region (JL.e (EX.box (v := .agg _) H rfl rfl) ?_)
 rintro _ w ⟨b1, rfl, H⟩
 refine JL.g (RX.assign) (JL.nil (J.seq (J.seq (J.region (JL.g (RX.loadAgg H rfl (i := 0) (vs := tv k n p m c) rfl rfl ag39) (JL.e (EX.call rfl cl85 rfl ((Length_b H ht.cons hp))) ?_))))))
 rintro _ w ⟨rfl, H⟩
 refine JL.g (RX.eq rfl rfl) (JL.nil (J.cond_d rfl (fun h0 => ?_) (fun h0 => ?_)))
 ·
  refine J.seq (J.region (JL.g (RX.loadG H rfl g8.at_.cons one31) (JL.g (RX.assignv (v := E 8) rfl) (JL.nil (J.ret1 Tryz.func54 rfl rfl ?_)))))
  exact ⟨_, rfl, (e8_no h0).symm, H.drop⟩
 ·
  refine J.skip (J.seq (J.region (JL.g (RX.assignv (v := .nilIface) rfl) (JL.nil (J.ret1 Tryz.func54 rfl rfl ?_)))))
  exact ⟨_, rfl, (e8_yes h0).symm, H.drop⟩
end Oo
end Go.Proofs.YtfaokllgaambjaaGreatDoor

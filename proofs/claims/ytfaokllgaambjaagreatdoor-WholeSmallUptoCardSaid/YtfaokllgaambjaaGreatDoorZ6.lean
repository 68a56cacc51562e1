/- Part 6 of the proof that WholeSmall holds: what the functions on its way do, step by step. -/
import Derived.Test.YtfaokllgaambjaaGreatDoorZ1
import Derived.Test.YtfaokllgaambjaaGreatDoorZ2
import Derived.Test.YtfaokllgaambjaaGreatDoorZ3
import Derived.Test.YtfaokllgaambjaaGreatDoorZ4
import Derived.Test.YtfaokllgaambjaaGreatDoorZ5
set_option linter.unusedVariables false
set_option linter.unusedSimpArgs false
namespace Go.Proofs.YtfaokllgaambjaaGreatDoor
open Go Go.Eng
set_option maxRecDepth 100000
set_option maxHeartbeats 1600000
theorem cl41 : callable Tryz.prog 41 = true := by kernel_rfl
theorem cl64 : callable Tryz.prog 64 = true := by kernel_rfl
theorem cl65 : callable Tryz.prog 65 = true := by kernel_rfl
theorem cl67 : callable Tryz.prog 67 = true := by kernel_rfl
theorem cl68 : callable Tryz.prog 68 = true := by kernel_rfl
theorem cl71 : callable Tryz.prog 71 = true := by kernel_rfl
theorem ud57 : Tryz.prog.underlying 57 = some (.slice 90) := by kernel_rfl
theorem three_of {l : List Value} (h : 3 ≤ l.length) : ∃ a b c t, l = a :: b :: c :: t := by
 match l, h with
 | a :: b :: c :: t, _ => exact ⟨a, b, c, t, rfl⟩
theorem make0_b {w0 w : World} {F : List Seg} (H : Hp w0 w F) {p : Option Addr} {m c : Nat} (hp : ∀ a, p = some a → a.spot = none) : Ret Tryz.prog 65 [.slice p m c, .int .i64 0] w fun v w' => v = .slice p 0 c ∧ Hp w0 w' F := by
 refine Calls.of_J (n := 19) Tryz.func65 rfl rfl rfl (J.seq (J.region (JL.g (RX.assign) (JL.nil (J.seq (J.seq (J.region (JL.mi rfl (JL.ms rfl (JL.g (RX.cap_slice rfl (by rw [sl57]; rfl) rfl) ?_))))))))))
 refine JL.g (RX.le rfl rfl) (JL.nil (J.cond_t rfl (decide_eq_true (by omega)) (J.seq (J.region (JL.ms rfl (JL.mi rfl (JL.g (RX.slice_h rfl rfl sl57 hp (by omega) (by omega) (r := 0) rfl) (JL.al rfl (JL.nil (J.ret1 (v := .slice _ _ _) Tryz.func65 rfl rfl ?_))))))))))
 exact ⟨_, rfl, rfl, H⟩
theorem set_b {w0 w : World} {s0 : Seg} {L : List Seg} (H : Hp w0 w (s0 :: L)) {q0 : Option Addr} {ws : List Nat} {c0 : Nat} (ho : OwnW q0 ws c0 s0) {px : Option Addr} {c2 : Nat} {xs : List Nat} (hs : SlAt (s0 :: L) px (u64sV xs)) (h1 : 1 ≤ xs.length) (h2 : xs.length ≤ 2) : Ret Tryz.prog 64 [.slice q0 ws.length c0, .slice px xs.length c2] w fun v w' => ∃ q c s' G, v = .slice q xs.length c ∧ OwnW q (xs) c s' ∧ Left s0 G ∧ Hp w0 w' (s' :: (G ++ L)) := by
 refine Calls.of_J (n := 13) Tryz.func64 rfl rfl rfl (J.seq (J.region (JL.g (RX.assign) (JL.nil (J.seq (J.region (JL.ms rfl (JL.ms rfl (JL.g (RX.len_slice rfl (by rw [sl57]; rfl) rfl) ?_)))))))))
 refine JL.e (EX.call rfl cl65 rfl ((make_b H ho h1 (by omega)))) ?_
 rintro _ w ⟨q, l, c, G, rfl, hle, hll, hG, H, hk⟩
 have hs2 := hk _ _ hs
 refine JL.al rfl (JL.nil (J.seq (J.region (JL.ms rfl (JL.ms rfl (JL.e (EX.copyS (ys := u64sV xs) H rfl rfl ud57 (by kernel_rfl) (i := 0) rfl hs2 (u64sV_len xs) (by omega) (u64sV_cell xs)) ?_))))))
 rintro _ w ⟨rfl, H⟩
 refine JL.nil (J.seq (J.region (JL.ms rfl (JL.al rfl (JL.nil (J.ret1 (v := .slice _ _ _) Tryz.func64 rfl rfl ?_))))))
 exact ⟨_, rfl, _, c, _, G, rfl, ownW_row (by simp [u64sV]; omega) hle (by rw [List.take_append_of_le_length (by rw [u64sV_len]; exact Nat.le_refl _), ← u64sV_len xs, List.take_length]), hG, H⟩
theorem set0_b {w0 w : World} {s0 : Seg} {L : List Seg} (H : Hp w0 w (s0 :: L)) {q0 : Option Addr} {ws : List Nat} {c0 : Nat} (ho : OwnW q0 ws c0 s0) {px : Option Addr} {c2 : Nat} : Ret Tryz.prog 64 [.slice q0 ws.length c0, .slice px 0 c2] w fun v w' => v = .slice q0 0 c0 ∧ Hp w0 w' (s0 :: L) := by
 refine Calls.of_J (n := 13) Tryz.func64 rfl rfl rfl (J.seq (J.region (JL.g (RX.assign) (JL.nil (J.seq (J.region (JL.ms rfl (JL.ms rfl (JL.g (RX.len_slice rfl (by rw [sl57]; rfl) rfl) ?_)))))))))
 refine JL.e (EX.call rfl cl65 rfl ((make0_b H ho.spot))) ?_
 rintro _ w ⟨rfl, H⟩
 refine JL.al rfl (JL.nil (J.seq (J.region (JL.ms rfl (JL.ms rfl (JL.e (EX.copy0 H rfl rfl ud57 (by kernel_rfl) rfl) ?_))))))
 rintro _ w ⟨rfl, H⟩
 refine JL.nil (J.seq (J.region (JL.ms rfl (JL.al rfl (JL.nil (J.ret1 (v := .slice _ _ _) Tryz.func64 rfl rfl ?_))))))
 exact ⟨_, rfl, rfl, H⟩
theorem addSet_b {w0 w : World} {s0 : Seg} {L : List Seg} (H : Hp w0 w (s0 :: L)) {q0 : Option Addr} {ws : List Nat} {c0 : Nat} (ho : OwnW q0 ws c0 s0) {px py : Option Addr} {c2 c3 : Nat} {xs : List Nat} (hs : SlAt (s0 :: L) px (u64sV xs)) (h1 : 1 ≤ xs.length) (h2 : xs.length ≤ 2) : Ret Tryz.prog 41 [.slice q0 ws.length c0, .slice px xs.length c2, .slice py 0 c3] w fun v w' => ∃ q c s' G, v = .slice q xs.length c ∧ OwnW q (xs) c s' ∧ Left s0 G ∧ Hp w0 w' (s' :: (G ++ L)) := by
 refine Calls.of_J (n := 65) Tryz.func41 rfl rfl rfl (J.seq (J.region (JL.g (RX.assign) (JL.nil (J.seq (J.region (JL.ms rfl (JL.g (RX.len_slice rfl (by rw [sl57]; rfl) rfl) ?_))))))))
 refine JL.ai rfl (JL.nil (J.seq (J.region (JL.ms rfl (JL.g (RX.len_slice rfl (by rw [sl57]; rfl) rfl) ?_)))))
 refine JL.ai rfl (JL.nil (J.seq (J.block (J.seq (J.region (JL.mi rfl (JL.mi rfl (JL.g (RX.lt rfl rfl) (JL.ab rfl (JL.nil (J.cond_f rfl (decide_eq_false (by omega)) (J.seq (J.region (JL.mi rfl (JL.g (RX.eq rfl rfl) (JL.ab rfl (JL.nil (J.cond_f rfl (decide_eq_false (by omega)) (J.seq (J.region (JL.mi rfl (JL.g (RX.eq rfl rfl) (JL.ab rfl (JL.nil (J.cond_t rfl (decide_eq_true rfl) (J.seq (J.region (JL.ms rfl (JL.ms rfl (JL.e (EX.call rfl cl64 rfl ((set_b H ho hs h1 h2))) ?_))))))))))))))))))))))))))))))
 rintro _ w ⟨q, c, s1, G, rfl, ho1, hG, H⟩
 refine JL.al rfl (JL.nil (J.ret1 (v := .slice _ _ _) Tryz.func41 rfl rfl ?_))
 exact ⟨_, rfl, q, c, s1, G, rfl, ho1, hG, H⟩
theorem subSet_b {w0 w : World} {s0 : Seg} {L : List Seg} (H : Hp w0 w (s0 :: L)) {q0 : Option Addr} {ws : List Nat} {c0 : Nat} (ho : OwnW q0 ws c0 s0) {px py : Option Addr} {c2 c3 : Nat} {xs : List Nat} (hs : SlAt (s0 :: L) px (u64sV xs)) (h1 : 1 ≤ xs.length) (h2 : xs.length ≤ 2) : Ret Tryz.prog 43 [.slice q0 ws.length c0, .slice px xs.length c2, .slice py 0 c3] w fun v w' => ∃ q c s' G, v = .slice q xs.length c ∧ OwnW q (xs) c s' ∧ Left s0 G ∧ Hp w0 w' (s' :: (G ++ L)) := by
 refine Calls.of_J (n := 59) Tryz.func43 rfl rfl rfl (J.seq (J.region (JL.g (RX.assign) (JL.nil (J.seq (J.region (JL.ms rfl (JL.g (RX.len_slice rfl (by rw [sl57]; rfl) rfl) ?_))))))))
 refine JL.ai rfl (JL.nil (J.seq (J.region (JL.ms rfl (JL.g (RX.len_slice rfl (by rw [sl57]; rfl) rfl) ?_)))))
 refine JL.ai rfl (JL.nil (J.seq (J.block (J.seq (J.region (JL.mi rfl (JL.mi rfl (JL.g (RX.lt rfl rfl) (JL.ab rfl (JL.nil (J.cond_f rfl (decide_eq_false (by omega)) (J.seq (J.region (JL.mi rfl (JL.g (RX.eq rfl rfl) (JL.ab rfl (JL.nil (J.cond_f rfl (decide_eq_false (by omega)) (J.seq (J.region (JL.mi rfl (JL.g (RX.eq rfl rfl) (JL.ab rfl (JL.nil (J.cond_t rfl (decide_eq_true rfl) (J.seq (J.region (JL.ms rfl (JL.ms rfl (JL.e (EX.call rfl cl64 rfl ((set_b H ho hs h1 h2))) ?_))))))))))))))))))))))))))))))
 rintro _ w ⟨q, c, s1, G, rfl, ho1, hG, H⟩
 refine JL.al rfl (JL.nil (J.ret1 (v := .slice _ _ _) Tryz.func43 rfl rfl ?_))
 exact ⟨_, rfl, q, c, s1, G, rfl, ho1, hG, H⟩
theorem addSwap_b {w0 w : World} {s0 : Seg} {L : List Seg} (H : Hp w0 w (s0 :: L)) {q0 : Option Addr} {ws : List Nat} {c0 : Nat} (ho : OwnW q0 ws c0 s0) {px py : Option Addr} {c2 c3 : Nat} {ys : List Nat} (hs : SlAt (s0 :: L) py (u64sV ys)) (h1 : 1 ≤ ys.length) (h2 : ys.length ≤ 2) : Ret Tryz.prog 41 [.slice q0 ws.length c0, .slice px 0 c2, .slice py ys.length c3] w fun v w' => ∃ q c s' G, v = .slice q ys.length c ∧ OwnW q (ys) c s' ∧ Left s0 G ∧ Hp w0 w' (s' :: (G ++ L)) := by
 refine Calls.of_J (n := 65) Tryz.func41 rfl rfl rfl (J.seq (J.region (JL.g (RX.assign) (JL.nil (J.seq (J.region (JL.ms rfl (JL.g (RX.len_slice rfl (by rw [sl57]; rfl) rfl) ?_))))))))
 refine JL.ai rfl (JL.nil (J.seq (J.region (JL.ms rfl (JL.g (RX.len_slice rfl (by rw [sl57]; rfl) rfl) ?_)))))
 refine JL.ai rfl (JL.nil (J.seq (J.block (J.seq (J.region (JL.mi rfl (JL.mi rfl (JL.g (RX.lt rfl rfl) (JL.ab rfl (JL.nil (J.cond_t rfl (decide_eq_true (by omega)) (J.seq (J.region (JL.ms rfl (JL.ms rfl (JL.ms rfl (JL.e (EX.call rfl cl41 rfl ((addSet_b H ho hs h1 h2))) ?_)))))))))))))))))
 rintro _ w ⟨q, c, s1, G, rfl, ho1, hG, H⟩
 refine JL.al rfl (JL.nil (J.ret1 (v := .slice _ _ _) Tryz.func41 rfl rfl ?_))
 exact ⟨_, rfl, q, c, s1, G, rfl, ho1, hG, H⟩
theorem addZero_b {w0 w : World} {s0 : Seg} {L : List Seg} (H : Hp w0 w (s0 :: L)) {q0 : Option Addr} {ws : List Nat} {c0 : Nat} (ho : OwnW q0 ws c0 s0) {px py : Option Addr} {c2 c3 : Nat} : Ret Tryz.prog 41 [.slice q0 ws.length c0, .slice px 0 c2, .slice py 0 c3] w fun v w' => ∃ q c s' G, v = .slice q 0 c ∧ OwnW q (([] : List Nat)) c s' ∧ Left s0 G ∧ Hp w0 w' (s' :: (G ++ L)) := by
 refine Calls.of_J (n := 65) Tryz.func41 rfl rfl rfl (J.seq (J.region (JL.g (RX.assign) (JL.nil (J.seq (J.region (JL.ms rfl (JL.g (RX.len_slice rfl (by rw [sl57]; rfl) rfl) ?_))))))))
 refine JL.ai rfl (JL.nil (J.seq (J.region (JL.ms rfl (JL.g (RX.len_slice rfl (by rw [sl57]; rfl) rfl) ?_)))))
 refine JL.ai rfl (JL.nil (J.seq (J.block (J.seq (J.region (JL.mi rfl (JL.mi rfl (JL.g (RX.lt rfl rfl) (JL.ab rfl (JL.nil (J.cond_f rfl (decide_eq_false (by decide)) (J.seq (J.region (JL.mi rfl (JL.g (RX.eq rfl rfl) (JL.ab rfl (JL.nil (J.cond_t rfl (decide_eq_true rfl) (J.seq (J.region (JL.ms rfl (JL.g (RX.slice_h rfl rfl sl57 ho.spot (by decide) (by omega) (r := 0) rfl) (JL.al rfl (JL.nil (J.ret1 (v := .slice _ _ _) Tryz.func41 rfl rfl ?_)))))))))))))))))))))))))
 exact ⟨_, rfl, q0, c0, s0, [], rfl, ho.none_, .inl rfl, H⟩
theorem subZero_b {w0 w : World} {s0 : Seg} {L : List Seg} (H : Hp w0 w (s0 :: L)) {q0 : Option Addr} {ws : List Nat} {c0 : Nat} (ho : OwnW q0 ws c0 s0) {px py : Option Addr} {c2 c3 : Nat} : Ret Tryz.prog 43 [.slice q0 ws.length c0, .slice px 0 c2, .slice py 0 c3] w fun v w' => ∃ q c s' G, v = .slice q 0 c ∧ OwnW q (([] : List Nat)) c s' ∧ Left s0 G ∧ Hp w0 w' (s' :: (G ++ L)) := by
 refine Calls.of_J (n := 59) Tryz.func43 rfl rfl rfl (J.seq (J.region (JL.g (RX.assign) (JL.nil (J.seq (J.region (JL.ms rfl (JL.g (RX.len_slice rfl (by rw [sl57]; rfl) rfl) ?_))))))))
 refine JL.ai rfl (JL.nil (J.seq (J.region (JL.ms rfl (JL.g (RX.len_slice rfl (by rw [sl57]; rfl) rfl) ?_)))))
 refine JL.ai rfl (JL.nil (J.seq (J.block (J.seq (J.region (JL.mi rfl (JL.mi rfl (JL.g (RX.lt rfl rfl) (JL.ab rfl (JL.nil (J.cond_f rfl (decide_eq_false (by decide)) (J.seq (J.region (JL.mi rfl (JL.g (RX.eq rfl rfl) (JL.ab rfl (JL.nil (J.cond_t rfl (decide_eq_true rfl) (J.seq (J.region (JL.ms rfl (JL.g (RX.slice_h rfl rfl sl57 ho.spot (by decide) (by omega) (r := 0) rfl) (JL.al rfl (JL.nil (J.ret1 (v := .slice _ _ _) Tryz.func43 rfl rfl ?_)))))))))))))))))))))))))
 exact ⟨_, rfl, q0, c0, s0, [], rfl, ho.none_, .inl rfl, H⟩
theorem add11_b {w0 w : World} {s0 : Seg} {L : List Seg} (H : Hp w0 w (s0 :: L)) {q0 : Option Addr} {ws : List Nat} {c0 : Nat} (ho : OwnW q0 ws c0 s0) {px py : Option Addr} {c2 c3 x y : Nat} (hs : SlAt (s0 :: L) px (u64sV [x])) (hs3 : SlAt (s0 :: L) py (u64sV [y])) (hp2 : ∀ a, px = some a → a.spot = none) (hp3 : ∀ a, py = some a → a.spot = none) (hc2 : 1 ≤ c2) (hc3 : 1 ≤ c3) (hx : x < 18446744073709551616) (hy : y < 18446744073709551616) : Ret Tryz.prog 41 [.slice q0 ws.length c0, .slice px 1 c2, .slice py 1 c3] w fun v w' => ∃ q c s' G, v = .slice q (wd (x + y)).length c ∧ OwnW q (wd (x + y)) c s' ∧ Left s0 G ∧ Hp w0 w' (s' :: (G ++ L)) := by
 refine Calls.of_J (n := 65) Tryz.func41 rfl rfl rfl (J.seq (J.region (JL.g (RX.assign) (JL.nil (J.seq (J.region (JL.ms rfl (JL.g (RX.len_slice rfl (by rw [sl57]; rfl) rfl) ?_))))))))
 refine JL.ai rfl (JL.nil (J.seq (J.region (JL.ms rfl (JL.g (RX.len_slice rfl (by rw [sl57]; rfl) rfl) ?_)))))
 refine JL.ai rfl (JL.nil (J.seq (J.block (J.seq (J.region (JL.mi rfl (JL.mi rfl (JL.g (RX.lt rfl rfl) (JL.ab rfl (JL.nil (J.cond_f rfl (decide_eq_false (by decide)) (J.seq (J.region (JL.mi rfl (JL.g (RX.eq rfl rfl) (JL.ab rfl (JL.nil (J.cond_f rfl (decide_eq_false (by decide)) (J.seq (J.region (JL.mi rfl (JL.g (RX.eq rfl rfl) (JL.ab rfl (JL.nil (J.cond_f rfl (decide_eq_false (by decide)) (J.skip (J.inBlock (J.seq (J.region (JL.ms rfl (JL.mi rfl (JL.g (RX.add rfl rfl (wi (n := 2) (by simp) (by decide))) (JL.e (EX.call rfl cl65 rfl ((make_b H ho (by decide) (by decide)))) ?_)))))))))))))))))))))))))))))))))
 rintro _ w ⟨q, l, c, G, rfl, hle, hll, hG, H, hk⟩
 have hs2 := hk _ _ hs
 have hs4 := hk _ _ hs3
 obtain ⟨z0, z1, l, rfl⟩ := two_of (l := l) (by omega)
 refine JL.al rfl (JL.nil (J.seq (J.any hmix fun w hs => ?_)))
 replace H := H.same hs; clear hs
 refine JA.take 0 rfl (by kernel_rfl) (by kernel_rfl) (by kernel_rfl) rfl trivial (fun w => RX.movev (v := .slice _ _ _) rfl) (JA.take 1 rfl (by kernel_rfl) (by kernel_rfl) (by kernel_rfl) rfl trivial (fun w => RX.movev (v := .int _ _) rfl) (JA.take 2 rfl (by kernel_rfl) (by kernel_rfl) (by kernel_rfl) rfl trivial (fun w => RX.slice_h rfl rfl sl57 (fun a ha => by cases ha; rfl) (by decide) (by omega) (r := 1) (by decide)) ?_))
 refine JA.take 3 rfl (by kernel_rfl) (by kernel_rfl) (by kernel_rfl) rfl trivial (fun w => RX.movev (v := .slice _ _ _) rfl) (JA.take 4 rfl (by kernel_rfl) (by kernel_rfl) (by kernel_rfl) rfl trivial (fun w => RX.movev (v := .int _ _) rfl) (JA.take 5 rfl (by kernel_rfl) (by kernel_rfl) (by kernel_rfl) rfl trivial (fun w => RX.slice_h rfl rfl sl57 hp2 (by decide) (by omega) (r := 1) (by decide)) (JA.take 6 rfl (by kernel_rfl) (by kernel_rfl) (by kernel_rfl) rfl trivial (fun w => RX.movev (v := .slice _ _ _) rfl) (JA.take 7 rfl (by kernel_rfl) (by kernel_rfl) (by kernel_rfl) rfl trivial (fun w => RX.movev (v := .int _ _) rfl) (JA.take 8 rfl (by kernel_rfl) (by kernel_rfl) (by kernel_rfl) rfl trivial (fun w => RX.slice_h rfl rfl sl57 hp3 (by decide) (by omega) (r := 1) (by decide)) (JA.all [9] (by kernel_rfl) (by decide) (JO.does rfl rfl trivial (EX.callT rfl twAdd rfl (addVV_b H hs2 hs4)) ?_)))))))
 rintro _ w ⟨rfl, H⟩
 refine JA.take 10 rfl (by kernel_rfl) (by kernel_rfl) (by kernel_rfl) rfl trivial (fun w => RX.assignv (v := .int _ _) rfl) (JA.done (by kernel_rfl) (J.seq (J.seq (J.region (JL.mi rfl (JL.mi rfl (JL.g (RX.gt rfl rfl) (JL.nil (J.cond_f rfl (decide_eq_false (by decide)) (J.skip (J.seq (J.region (JL.ms rfl (JL.mi rfl (JL.mi rfl (JL.g (RX.indexAddr rfl rfl sl57 (by omega) (by omega) (o' := 1) (by omega)) (JL.e (EX.store (v := .int _ _) H rfl rfl (i := 0) rfl rfl (by simp) sz90 rfl rfl) ?_)))))))))))))))))
 rintro _ w H
 refine JL.nil (J.seq (J.region (JL.ms rfl (JL.e (EX.call rfl cl68 rfl ((norm_b (ws := [(x + y) % 18446744073709551616, (x + y) / 18446744073709551616]) H (SlAt.here rfl) hle (by omega) (by simp)))) ?_))))
 rintro _ w ⟨i, rfl, hi, H⟩
 have h2 := nm2 hi (Nat.mod_lt _ (by decide)) (by omega)
 have hi1 := hi.1
 rw [show (x + y) % 18446744073709551616 + (x + y) / 18446744073709551616 * 18446744073709551616 = x + y from by omega] at h2
 obtain ⟨rfl, h3⟩ := h2
 refine JL.al rfl (JL.nil (J.ret1 (v := .slice _ _ _) Tryz.func41 rfl rfl ?_))
 exact ⟨_, rfl, _, c, _, G, rfl, ownW_nm (l := l) ⟨rfl, h3⟩ hi1 (by simpa [u64sV] using hll), hG, H⟩
theorem add21_b {w0 w : World} {L : List Seg} {g c0 x0 x1 y : Nat} {l0 : List Value} (H : Hp w0 w ([(g, cel (l0) 90)] :: L)) (hl0 : l0.length = c0) (hx : l0.take 2 = u64sV [x0, x1]) (h2c : 2 ≤ c0) {py : Option Addr} {c3 : Nat} (hs3 : SlAt ([(g, cel (l0) 90)] :: L) py (u64sV [y])) (hp3 : ∀ a, py = some a → a.spot = none) (hc3 : 1 ≤ c3) (hx0 : x0 < 18446744073709551616) (hx1 : x1 + 1 < 18446744073709551616) (hy : y < 18446744073709551616) : Ret Tryz.prog 41 [.slice (some ⟨g, 0, none⟩) 2 c0, .slice (some ⟨g, 0, none⟩) 2 c0, .slice py 1 c3] w fun v w' => ∃ q c s' G, v = .slice q (wd (x0 + x1 * 18446744073709551616 + y)).length c ∧ OwnW q (wd (x0 + x1 * 18446744073709551616 + y)) c s' ∧ Left [(g, cel (l0) 90)] G ∧ Hp w0 w' (s' :: (G ++ L)) := by
 refine Calls.of_J (n := 65) Tryz.func41 rfl rfl rfl (J.seq (J.region (JL.g (RX.assign) (JL.nil (J.seq (J.region (JL.ms rfl (JL.g (RX.len_slice rfl (by rw [sl57]; rfl) rfl) ?_))))))))
 refine JL.ai rfl (JL.nil (J.seq (J.region (JL.ms rfl (JL.g (RX.len_slice rfl (by rw [sl57]; rfl) rfl) ?_)))))
 refine JL.ai rfl (JL.nil (J.seq (J.block (J.seq (J.region (JL.mi rfl (JL.mi rfl (JL.g (RX.lt rfl rfl) (JL.ab rfl (JL.nil (J.cond_f rfl (decide_eq_false (by decide)) (J.seq (J.region (JL.mi rfl (JL.g (RX.eq rfl rfl) (JL.ab rfl (JL.nil (J.cond_f rfl (decide_eq_false (by decide)) (J.seq (J.region (JL.mi rfl (JL.g (RX.eq rfl rfl) (JL.ab rfl (JL.nil (J.cond_f rfl (decide_eq_false (by decide)) (J.skip (J.inBlock (J.seq (J.region (JL.ms rfl (JL.mi rfl (JL.g (RX.add rfl rfl (wi (n := 3) (by simp) (by decide))) (JL.e (EX.call rfl cl65 rfl ((make_own H hl0 (by decide) (by decide)))) ?_)))))))))))))))))))))))))))))))))
 rintro _ w ⟨q, l, c, G, rfl, hle, hll, hG1, H⟩
 have hk : ∀ p xs, SlAt ([(g, cel (l0) 90)] :: L) p xs → SlAt ([(q, cel l 90)] :: (G ++ L)) p xs := by
   rcases hG1 with ⟨rfl, rfl, rfl⟩ | ⟨_, rfl⟩
   · exact fun _ _ h => h
   · exact fun _ _ h => h.cons
 have hm : g = q ∨ (g, Obj.cells l0.toArray 90 (0, 0)) ∈ (G ++ L).flatten := by
   rcases hG1 with ⟨rfl, rfl, rfl⟩ | ⟨_, rfl⟩
   · exact .inl rfl
   · exact .inr (by simp [cel])
 have hG : Left [(g, cel (l0) 90)] G := by
   rcases hG1 with ⟨rfl, rfl, rfl⟩ | ⟨_, rfl⟩
   · exact .inl rfl
   · exact .inr rfl
 have hs2 := hk _ _ (SlAt.here (xs := u64sV [x0, x1]) hx)
 have hs4 := hk _ _ hs3
 obtain ⟨z0, z1, z2, l, rfl⟩ := three_of (l := l) (by omega)
 refine JL.al rfl (JL.nil (J.seq (J.any hmix fun w hs => ?_)))
 replace H := H.same hs; clear hs
 refine JA.take 0 rfl (by kernel_rfl) (by kernel_rfl) (by kernel_rfl) rfl trivial (fun w => RX.movev (v := .slice _ _ _) rfl) (JA.take 1 rfl (by kernel_rfl) (by kernel_rfl) (by kernel_rfl) rfl trivial (fun w => RX.movev (v := .int _ _) rfl) (JA.take 2 rfl (by kernel_rfl) (by kernel_rfl) (by kernel_rfl) rfl trivial (fun w => RX.slice_h rfl rfl sl57 (fun a ha => by cases ha; rfl) (by decide) (by omega) (r := 1) (by decide)) ?_))
 refine JA.take 3 rfl (by kernel_rfl) (by kernel_rfl) (by kernel_rfl) rfl trivial (fun w => RX.movev (v := .slice _ _ _) rfl) (JA.take 4 rfl (by kernel_rfl) (by kernel_rfl) (by kernel_rfl) rfl trivial (fun w => RX.movev (v := .int _ _) rfl) (JA.take 5 rfl (by kernel_rfl) (by kernel_rfl) (by kernel_rfl) rfl trivial (fun w => RX.slice_h rfl rfl sl57 (fun a ha => by cases ha; rfl) (by decide) (by omega) (r := 1) (by decide)) ?_))
 refine JA.take 6 rfl (by kernel_rfl) (by kernel_rfl) (by kernel_rfl) rfl trivial (fun w => RX.movev (v := .slice _ _ _) rfl) (JA.take 7 rfl (by kernel_rfl) (by kernel_rfl) (by kernel_rfl) rfl trivial (fun w => RX.movev (v := .int _ _) rfl) (JA.take 8 rfl (by kernel_rfl) (by kernel_rfl) (by kernel_rfl) rfl trivial (fun w => RX.slice_h rfl rfl sl57 hp3 (by decide) (by omega) (r := 1) (by decide)) (JA.all [9] (by kernel_rfl) (by decide) (JO.does rfl rfl trivial (EX.callT rfl twAdd rfl (addVV_b H (SlAt.pre (xs := u64sV [x0]) (ys := u64sV [x1]) hs2) hs4)) ?_))))
 rintro _ w ⟨rfl, H⟩
 refine JA.take 10 rfl (by kernel_rfl) (by kernel_rfl) (by kernel_rfl) rfl trivial (fun w => RX.assignv (v := .int _ _) rfl) (JA.done (by kernel_rfl) (J.seq (J.seq (J.region (JL.mi rfl (JL.mi rfl (JL.g (RX.gt rfl rfl) (JL.nil (J.cond_t rfl (decide_eq_true (by decide)) (J.any hmix fun w hs => ?_))))))))))
 replace H := H.same hs; clear hs
 refine JA.take 0 rfl (by kernel_rfl) (by kernel_rfl) (by kernel_rfl) rfl trivial (fun w => RX.movev (v := .slice _ _ _) rfl) (JA.take 1 rfl (by kernel_rfl) (by kernel_rfl) (by kernel_rfl) rfl trivial (fun w => RX.movev (v := .int _ _) rfl) (JA.take 2 rfl (by kernel_rfl) (by kernel_rfl) (by kernel_rfl) rfl trivial (fun w => RX.movev (v := .int _ _) rfl) (JA.take 3 rfl (by kernel_rfl) (by kernel_rfl) (by kernel_rfl) rfl trivial (fun w => RX.slice_lh rfl rfl rfl sl57 (fun a ha => by cases ha; rfl) (by decide) (by decide) (by omega) (r := 1) (s := 2) rfl rfl) ?_)))
 rw [behind_at (by omega)]
 refine JA.take 4 rfl (by kernel_rfl) (by kernel_rfl) (by kernel_rfl) rfl trivial (fun w => RX.movev (v := .slice _ _ _) rfl) (JA.take 5 rfl (by kernel_rfl) (by kernel_rfl) (by kernel_rfl) rfl trivial (fun w => RX.movev (v := .int _ _) rfl) (JA.take 6 rfl (by kernel_rfl) (by kernel_rfl) (by kernel_rfl) rfl trivial (fun w => RX.slice_l rfl rfl sl57 (fun a ha => by cases ha; rfl) (by decide) (by decide) (r := 1) rfl) ?_))
 rw [behind_at (by omega)]
 refine JA.take 7 rfl (by kernel_rfl) (by kernel_rfl) (by kernel_rfl) rfl trivial (fun w => RX.movev (v := .int _ _) rfl) (JA.all [8] (by kernel_rfl) (by decide) (JO.does rfl rfl trivial (EX.call rfl cl67 rfl ((addVW_b (k := (x0 + y) / 18446744073709551616) H (sl_next hs2) (fun _ => rfl) hm (by omega) (by omega)))) ?_))
 rintro _ w ⟨rfl, H⟩
 refine JA.take 9 rfl (by kernel_rfl) (by kernel_rfl) (by kernel_rfl) rfl trivial (fun w => RX.assignv (v := .int _ _) rfl) (JA.done (by kernel_rfl) (J.seq (J.region (JL.ms rfl (JL.mi rfl (JL.mi rfl (JL.g (RX.indexAddr rfl rfl sl57 (by omega) (by omega) (o' := 2) (by omega)) (JL.e (EX.store (v := .int _ _) H rfl rfl (i := 0) rfl rfl (by simp) sz90 rfl rfl) ?_))))))))
 rintro _ w H
 refine JL.nil (J.seq (J.region (JL.ms rfl (JL.e (EX.call rfl cl68 rfl ((norm_b (ws := [(x0 + y) % 18446744073709551616, x1 + (x0 + y) / 18446744073709551616, 0]) H (SlAt.here rfl) hle (by omega) (by simp)))) ?_))))
 rintro _ w ⟨i, rfl, hi, H⟩
 have h2 := nm3 hi (Nat.mod_lt _ (by decide)) (by omega)
 have hi1 := hi.1
 rw [show (x0 + y) % 18446744073709551616 + (x1 + (x0 + y) / 18446744073709551616) * 18446744073709551616 = x0 + x1 * 18446744073709551616 + y from by omega] at h2
 obtain ⟨rfl, h3⟩ := h2
 refine JL.al rfl (JL.nil (J.ret1 (v := .slice _ _ _) Tryz.func41 rfl rfl ?_))
 exact ⟨_, rfl, _, c, _, G, rfl, ownW_nm (l := l) ⟨rfl, h3⟩ hi1 (by simpa [u64sV] using hll), hG, H⟩
theorem sub11_b {w0 w : World} {s0 : Seg} {L : List Seg} (H : Hp w0 w (s0 :: L)) {q0 : Option Addr} {ws : List Nat} {c0 : Nat} (ho : OwnW q0 ws c0 s0) {px py : Option Addr} {c2 c3 x y : Nat} (hs : SlAt (s0 :: L) px (u64sV [x])) (hs3 : SlAt (s0 :: L) py (u64sV [y])) (hp2 : ∀ a, px = some a → a.spot = none) (hp3 : ∀ a, py = some a → a.spot = none) (hc2 : 1 ≤ c2) (hc3 : 1 ≤ c3) (hyx : y ≤ x) (hx : x < 18446744073709551616) : Ret Tryz.prog 43 [.slice q0 ws.length c0, .slice px 1 c2, .slice py 1 c3] w fun v w' => ∃ q c s' G, v = .slice q (wd (x - y)).length c ∧ OwnW q (wd (x - y)) c s' ∧ Left s0 G ∧ Hp w0 w' (s' :: (G ++ L)) := by
 refine Calls.of_J (n := 59) Tryz.func43 rfl rfl rfl (J.seq (J.region (JL.g (RX.assign) (JL.nil (J.seq (J.region (JL.ms rfl (JL.g (RX.len_slice rfl (by rw [sl57]; rfl) rfl) ?_))))))))
 refine JL.ai rfl (JL.nil (J.seq (J.region (JL.ms rfl (JL.g (RX.len_slice rfl (by rw [sl57]; rfl) rfl) ?_)))))
 refine JL.ai rfl (JL.nil (J.seq (J.block (J.seq (J.region (JL.mi rfl (JL.mi rfl (JL.g (RX.lt rfl rfl) (JL.ab rfl (JL.nil (J.cond_f rfl (decide_eq_false (by decide)) (J.seq (J.region (JL.mi rfl (JL.g (RX.eq rfl rfl) (JL.ab rfl (JL.nil (J.cond_f rfl (decide_eq_false (by decide)) (J.seq (J.region (JL.mi rfl (JL.g (RX.eq rfl rfl) (JL.ab rfl (JL.nil (J.cond_f rfl (decide_eq_false (by decide)) (J.skip (J.inBlock (J.seq (J.region (JL.ms rfl (JL.mi rfl (JL.e (EX.call rfl cl65 rfl ((make_b H ho (by decide) (by decide)))) ?_))))))))))))))))))))))))))))))))
 rintro _ w ⟨q, l, c, G, rfl, hle, hll, hG, H, hk⟩
 have hs2 := hk _ _ hs
 have hs4 := hk _ _ hs3
 obtain ⟨z0, l, rfl⟩ := one_of (l := l) (by omega)
 refine JL.al rfl (JL.nil (J.seq (J.any hmix fun w hs => ?_)))
 replace H := H.same hs; clear hs
 refine JA.take 0 rfl (by kernel_rfl) (by kernel_rfl) (by kernel_rfl) rfl trivial (fun w => RX.movev (v := .slice _ _ _) rfl) (JA.take 1 rfl (by kernel_rfl) (by kernel_rfl) (by kernel_rfl) rfl trivial (fun w => RX.movev (v := .int _ _) rfl) (JA.take 2 rfl (by kernel_rfl) (by kernel_rfl) (by kernel_rfl) rfl trivial (fun w => RX.slice_h rfl rfl sl57 (fun a ha => by cases ha; rfl) (by decide) (by omega) (r := 1) (by decide)) ?_))
 refine JA.take 3 rfl (by kernel_rfl) (by kernel_rfl) (by kernel_rfl) rfl trivial (fun w => RX.movev (v := .slice _ _ _) rfl) (JA.take 4 rfl (by kernel_rfl) (by kernel_rfl) (by kernel_rfl) rfl trivial (fun w => RX.movev (v := .int _ _) rfl) (JA.take 5 rfl (by kernel_rfl) (by kernel_rfl) (by kernel_rfl) rfl trivial (fun w => RX.slice_h rfl rfl sl57 hp2 (by decide) (by omega) (r := 1) (by decide)) (JA.take 6 rfl (by kernel_rfl) (by kernel_rfl) (by kernel_rfl) rfl trivial (fun w => RX.movev (v := .slice _ _ _) rfl) (JA.take 7 rfl (by kernel_rfl) (by kernel_rfl) (by kernel_rfl) rfl trivial (fun w => RX.movev (v := .int _ _) rfl) (JA.take 8 rfl (by kernel_rfl) (by kernel_rfl) (by kernel_rfl) rfl trivial (fun w => RX.slice_h rfl rfl sl57 hp3 (by decide) (by omega) (r := 1) (by decide)) (JA.all [9] (by kernel_rfl) (by decide) (JO.does rfl rfl trivial (EX.callT rfl twSub rfl (subVV_b H hs2 hs4)) ?_)))))))
 rintro _ w ⟨rfl, H⟩
 have e1 : (if x < y then 1 else 0 : Nat) = 0 := if_neg (by omega)
 have e2 : (x + 18446744073709551616 - y) % 18446744073709551616 = x - y := by omega
 rw [e1]
 rw [e2] at H
 refine JA.take 10 rfl (by kernel_rfl) (by kernel_rfl) (by kernel_rfl) rfl trivial (fun w => RX.assignv (v := .int _ _) rfl) (JA.done (by kernel_rfl) (J.seq (J.seq (J.region (JL.mi rfl (JL.mi rfl (JL.g (RX.gt rfl rfl) (JL.nil (J.cond_f rfl (decide_eq_false (by decide)) (J.skip (J.seq (J.seq (J.region (JL.mi rfl (JL.g (RX.ne rfl rfl) (JL.nil (J.cond_f rfl (decide_eq_false (by simp)) (J.skip (J.seq (J.region (JL.ms rfl (JL.e (EX.call rfl cl68 rfl ((norm_b (ws := [x - y]) H (SlAt.here rfl) hle (by omega) (by simp)))) ?_))))))))))))))))))))))
 rintro _ w ⟨i, rfl, hi, H⟩
 have h2 := nm1 hi (by omega)
 have hi1 := hi.1
 rw [show x - y = x - y from by rfl] at h2
 obtain ⟨rfl, h3⟩ := h2
 refine JL.al rfl (JL.nil (J.ret1 (v := .slice _ _ _) Tryz.func43 rfl rfl ?_))
 exact ⟨_, rfl, _, c, _, G, rfl, ownW_nm (l := l) ⟨rfl, h3⟩ hi1 (by simpa [u64sV] using hll), hG, H⟩
theorem sub21_b {w0 w : World} {L : List Seg} {g c0 x0 x1 y : Nat} {l0 : List Value} {l : List Value} (H : Hp w0 w ([(g, cel (.int .u64 (x0 : Int) :: .int .u64 (x1 : Int) :: l) 90)] :: L)) (hll : l.length + 2 = c0) {py : Option Addr} {c3 : Nat} (hs4 : SlAt ([(g, cel (.int .u64 (x0 : Int) :: .int .u64 (x1 : Int) :: l) 90)] :: L) py (u64sV [y])) (hp3 : ∀ a, py = some a → a.spot = none) (hc3 : 1 ≤ c3) (hx0 : x0 < 18446744073709551616) (hx1 : x1 < 18446744073709551616) (hx1p : 0 < x1) (hy : y < 18446744073709551616) : Ret Tryz.prog 43 [.slice (some ⟨g, 0, none⟩) 2 c0, .slice (some ⟨g, 0, none⟩) 2 c0, .slice py 1 c3] w fun v w' => ∃ q c s' G, v = .slice q (wd (x0 + x1 * 18446744073709551616 - y)).length c ∧ OwnW q (wd (x0 + x1 * 18446744073709551616 - y)) c s' ∧ Left [(g, cel (.int .u64 (x0 : Int) :: .int .u64 (x1 : Int) :: l) 90)] G ∧ Hp w0 w' (s' :: (G ++ L)) := by
 refine Calls.of_J (n := 59) Tryz.func43 rfl rfl rfl (J.seq ?_)
 have hs2 : SlAt ([(g, cel (.int .u64 (x0 : Int) :: .int .u64 (x1 : Int) :: l) 90)] :: L) (some ⟨g, 0, none⟩) (u64sV [x0, x1]) := SlAt.here rfl
 refine J.region (JL.g (RX.assign) (JL.nil (J.seq (J.region (JL.ms rfl (JL.g (RX.len_slice rfl (by rw [sl57]; rfl) rfl) ?_))))))
 refine JL.ai rfl (JL.nil (J.seq (J.region (JL.ms rfl (JL.g (RX.len_slice rfl (by rw [sl57]; rfl) rfl) ?_)))))
 refine JL.ai rfl (JL.nil (J.seq (J.block (J.seq (J.region (JL.mi rfl (JL.mi rfl (JL.g (RX.lt rfl rfl) (JL.ab rfl (JL.nil (J.cond_f rfl (decide_eq_false (by decide)) (J.seq (J.region (JL.mi rfl (JL.g (RX.eq rfl rfl) (JL.ab rfl (JL.nil (J.cond_f rfl (decide_eq_false (by decide)) (J.seq (J.region (JL.mi rfl (JL.g (RX.eq rfl rfl) (JL.ab rfl (JL.nil (J.cond_f rfl (decide_eq_false (by decide)) (J.skip (J.inBlock (J.seq (J.region (JL.ms rfl (JL.mi rfl (JL.e (EX.call rfl cl65 rfl ((make_old (n := 2) H (by omega)))) ?_))))))))))))))))))))))))))))))))
 rintro _ w ⟨rfl, H⟩
 refine JL.al rfl (JL.nil (J.seq (J.any hmix fun w hs => ?_)))
 replace H := H.same hs; clear hs
 refine JA.take 0 rfl (by kernel_rfl) (by kernel_rfl) (by kernel_rfl) rfl trivial (fun w => RX.movev (v := .slice _ _ _) rfl) (JA.take 1 rfl (by kernel_rfl) (by kernel_rfl) (by kernel_rfl) rfl trivial (fun w => RX.movev (v := .int _ _) rfl) (JA.take 2 rfl (by kernel_rfl) (by kernel_rfl) (by kernel_rfl) rfl trivial (fun w => RX.slice_h rfl rfl sl57 (fun a ha => by cases ha; rfl) (by decide) (by omega) (r := 1) (by decide)) ?_))
 refine JA.take 3 rfl (by kernel_rfl) (by kernel_rfl) (by kernel_rfl) rfl trivial (fun w => RX.movev (v := .slice _ _ _) rfl) (JA.take 4 rfl (by kernel_rfl) (by kernel_rfl) (by kernel_rfl) rfl trivial (fun w => RX.movev (v := .int _ _) rfl) (JA.take 5 rfl (by kernel_rfl) (by kernel_rfl) (by kernel_rfl) rfl trivial (fun w => RX.slice_h rfl rfl sl57 (fun a ha => by cases ha; rfl) (by decide) (by omega) (r := 1) (by decide)) ?_))
 refine JA.take 6 rfl (by kernel_rfl) (by kernel_rfl) (by kernel_rfl) rfl trivial (fun w => RX.movev (v := .slice _ _ _) rfl) (JA.take 7 rfl (by kernel_rfl) (by kernel_rfl) (by kernel_rfl) rfl trivial (fun w => RX.movev (v := .int _ _) rfl) (JA.take 8 rfl (by kernel_rfl) (by kernel_rfl) (by kernel_rfl) rfl trivial (fun w => RX.slice_h rfl rfl sl57 hp3 (by decide) (by omega) (r := 1) (by decide)) (JA.all [9] (by kernel_rfl) (by decide) (JO.does rfl rfl trivial (EX.callT rfl twSub rfl (subVV_b H (SlAt.pre (xs := u64sV [x0]) (ys := u64sV [x1]) hs2) hs4)) ?_))))
 rintro _ w ⟨rfl, H⟩
 generalize hbw : (if x0 < y then 1 else 0 : Nat) = bw
 have hbw1 : bw = 0 ∧ y ≤ x0 ∨ bw = 1 ∧ x0 < y := by split at hbw <;> omega
 refine JA.take 10 rfl (by kernel_rfl) (by kernel_rfl) (by kernel_rfl) rfl trivial (fun w => RX.assignv (v := .int _ _) rfl) (JA.done (by kernel_rfl) (J.seq (J.seq (J.region (JL.mi rfl (JL.mi rfl (JL.g (RX.gt rfl rfl) (JL.nil (J.cond_t rfl (decide_eq_true (by decide)) (J.any hmix fun w hs => ?_))))))))))
 replace H := H.same hs; clear hs
 refine JA.take 0 rfl (by kernel_rfl) (by kernel_rfl) (by kernel_rfl) rfl trivial (fun w => RX.movev (v := .slice _ _ _) rfl) (JA.take 1 rfl (by kernel_rfl) (by kernel_rfl) (by kernel_rfl) rfl trivial (fun w => RX.movev (v := .int _ _) rfl) (JA.take 2 rfl (by kernel_rfl) (by kernel_rfl) (by kernel_rfl) rfl trivial (fun w => RX.slice_l rfl rfl sl57 (fun a ha => by cases ha; rfl) (by decide) (by decide) (r := 1) rfl) ?_))
 rw [behind_at (by omega)]
 refine JA.take 3 rfl (by kernel_rfl) (by kernel_rfl) (by kernel_rfl) rfl trivial (fun w => RX.movev (v := .slice _ _ _) rfl) (JA.take 4 rfl (by kernel_rfl) (by kernel_rfl) (by kernel_rfl) rfl trivial (fun w => RX.movev (v := .int _ _) rfl) (JA.take 5 rfl (by kernel_rfl) (by kernel_rfl) (by kernel_rfl) rfl trivial (fun w => RX.slice_l rfl rfl sl57 (fun a ha => by cases ha; rfl) (by decide) (by decide) (r := 1) rfl) ?_))
 rw [behind_at (by omega)]
 refine JA.take 6 rfl (by kernel_rfl) (by kernel_rfl) (by kernel_rfl) rfl trivial (fun w => RX.movev (v := .int _ _) rfl) (JA.all [7] (by kernel_rfl) (by decide) (JO.does rfl rfl trivial (EX.call rfl cl71 rfl ((subVW_b (k := bw) (C := #[]) (TC := 0) H (sl_next hs2) (fun _ => rfl) (.inl rfl) (by omega) (by omega) hx1))) ?_))
 rintro _ w ⟨rfl, H⟩
 refine JA.take 8 rfl (by kernel_rfl) (by kernel_rfl) (by kernel_rfl) rfl trivial (fun w => RX.assignv (v := .int _ _) rfl) (JA.done (by kernel_rfl) (J.seq (J.seq (J.region (JL.mi rfl (JL.g (RX.ne rfl rfl) (JL.nil (J.cond_f rfl (decide_eq_false (by simp)) (J.skip (J.seq ?_))))))))))
 have hle : 2 ≤ c0 := by omega
 refine J.region (JL.ms rfl (JL.e (EX.call rfl cl68 rfl ((norm_b (ws := [(x0 + 18446744073709551616 - y) % 18446744073709551616, x1 - bw]) H (SlAt.here rfl) hle (by omega) (by simp)))) ?_))
 rintro _ w ⟨i, rfl, hi, H⟩
 have h2 := nm2 hi (Nat.mod_lt _ (by decide)) (by omega)
 have hi1 := hi.1
 rw [show (x0 + 18446744073709551616 - y) % 18446744073709551616 + (x1 - bw) * 18446744073709551616 = x0 + x1 * 18446744073709551616 - y from by omega] at h2
 obtain ⟨rfl, h3⟩ := h2
 refine JL.al rfl (JL.nil (J.ret1 (v := .slice _ _ _) Tryz.func43 rfl rfl ?_))
 exact ⟨_, rfl, _, c0, _, [], rfl, ownW_nm (l := l) ⟨rfl, h3⟩ hi1 (by simp [u64sV]; omega), .inl rfl, H⟩
theorem cmp1_b {w0 w : World} {F : List Seg} (H : Hp w0 w F) {px py : Option Addr} {c2 c3 x y : Nat} (hs : SlAt F px (u64sV [x])) (hs2 : SlAt F py (u64sV [y])) : Ret Tryz.prog 42 [.slice px 1 c2, .slice py 1 c3] w fun v w' => v = .int .i64 (if x < y then -1 else if y < x then 1 else 0) ∧ Hp w0 w' F := by
 refine Calls.of_J (n := 64) Tryz.func42 rfl rfl rfl (J.seq ?_)
 obtain ⟨pb, po, rfl, hpp⟩ := hs.some (by rw [u64sV_len]; exact Nat.one_pos)
 obtain ⟨pb2, po2, rfl, hpp2⟩ := hs2.some (by rw [u64sV_len]; exact Nat.one_pos)
 refine J.region (JL.g (RX.assign) (JL.nil (J.seq (J.region (JL.ms rfl (JL.g (RX.len_slice rfl (by rw [sl57]; rfl) rfl) ?_))))))
 refine JL.ai rfl (JL.nil (J.seq (J.region (JL.ms rfl (JL.g (RX.len_slice rfl (by rw [sl57]; rfl) rfl) ?_)))))
 refine JL.ai rfl (JL.nil (J.seq (J.seq (J.region (JL.mi rfl (JL.mi rfl (JL.g (RX.ne rfl rfl) (JL.mb rfl (JL.go ⟨_, rfl, rfl⟩ (RX.movev (v := .int _ _) rfl) (JL.go ⟨_, rfl, rfl⟩ (RX.eq rfl rfl) (JL.g (RX.pick_f rfl rfl) (JL.nil (J.cond_f rfl rfl (J.skip (J.seq (J.region (JL.mi rfl (JL.g (RX.sub rfl rfl (wi (n := 0) (by simp) (by decide))) (JL.ai rfl (JL.nil (J.seq (J.block (J.unroll (J.seq (J.seq (J.quietH H hmix (by kernel_rfl) (JQ.g (fun w H => RX.movev (v := .int _ _) rfl) (JQ.g (fun w H => RX.gt rfl rfl) (JQ.g (fun w H => RX.movev (v := .bool _) rfl) (JQ.no ⟨_, rfl, gno rfl⟩ (JQ.no ⟨_, rfl, gno rfl⟩ (JQ.no ⟨_, rfl, gno rfl⟩ (JQ.no ⟨_, rfl, gno rfl⟩ (JQ.no ⟨_, rfl, gno rfl⟩ (JQ.no ⟨_, rfl, gno rfl⟩ (JQ.no ⟨_, rfl, gno rfl⟩ (JQ.no ⟨_, rfl, gno rfl⟩ (JQ.no ⟨_, rfl, gno rfl⟩ (JQ.g (fun w H => RX.pick_f rfl rfl) (JQ.nil fun w H => (J.cond_f rfl rfl (J.exit rfl (J.seq (J.block (J.seq (J.quietH H hmix (by kernel_rfl) (JQ.g (fun w H => RX.movev (v := .slice _ _ _) rfl) (JQ.g (fun w H => RX.movev (v := .int _ _) rfl) (JQ.g (fun w H => RX.indexAddr rfl rfl sl57 (by omega) (by omega) (o' := po) (by omega)) (JQ.g (fun w H => RX.loadS H hs rfl (j := 0) (by omega) (v := .int .u64 (x : Int)) rfl one90) (JQ.g (fun w H => RX.movev (v := .slice _ _ _) rfl) (JQ.g (fun w H => RX.movev (v := .int _ _) rfl) (JQ.g (fun w H => RX.indexAddr rfl rfl sl57 (by omega) (by omega) (o' := po2) (by omega)) (JQ.g (fun w H => RX.loadS H hs2 rfl (j := 0) (by omega) (v := .int .u64 (y : Int)) rfl one90) (JQ.g (fun w H => RX.lt rfl rfl) (JQ.g (fun w H => RX.assignv (v := .bool _) rfl) (JQ.nil fun w H => (J.cond_d rfl (fun h1 => ?_) (fun h1 => ?_)))))))))))))))))))))))))))))))))))))))))))))))))))))))))))
 ·
  refine J.region (JL.g (RX.assign) (JL.nil (J.inBlock (J.ret1 (v := .int _ _) Tryz.func42 rfl rfl ?_))))
  exact ⟨_, rfl, by rw [if_pos (by omega)], H⟩
 ·
  refine J.seq (J.quietH H hmix (by kernel_rfl) (JQ.g (fun w H => RX.movev (v := .slice _ _ _) rfl) (JQ.g (fun w H => RX.movev (v := .int _ _) rfl) (JQ.g (fun w H => RX.indexAddr rfl rfl sl57 (by omega) (by omega) (o' := po) (by omega)) (JQ.g (fun w H => RX.loadS H hs rfl (j := 0) (by omega) (v := .int .u64 (x : Int)) rfl one90) (JQ.g (fun w H => RX.movev (v := .slice _ _ _) rfl) (JQ.g (fun w H => RX.movev (v := .int _ _) rfl) (JQ.g (fun w H => RX.indexAddr rfl rfl sl57 (by omega) (by omega) (o' := po2) (by omega)) (JQ.g (fun w H => RX.loadS H hs2 rfl (j := 0) (by omega) (v := .int .u64 (y : Int)) rfl one90) (JQ.g (fun w H => RX.gt rfl rfl) (JQ.g (fun w H => RX.assignv (v := .bool _) rfl) (JQ.nil fun w H => (J.cond_d rfl (fun h2 => ?_) (fun h2 => ?_))))))))))))))
  ·
   refine J.region (JL.g (RX.assign) (JL.nil (J.inBlock (J.ret1 (v := .int _ _) Tryz.func42 rfl rfl ?_))))
   exact ⟨_, rfl, by rw [if_neg (by omega), if_pos (by omega)], H⟩
  ·
   refine J.skip (J.inBlock (J.ret1 (v := .int _ _) Tryz.func42 rfl rfl ?_))
   exact ⟨_, rfl, by rw [if_neg (by omega), if_neg (by omega)], H⟩
theorem cmpLen_b {w0 w : World} {F : List Seg} (H : Hp w0 w F) {px py : Option Addr} {m n c2 c3 : Nat} (hmn : m ≠ n ∨ m = 0) : Ret Tryz.prog 42 [.slice px m c2, .slice py n c3] w fun v w' => v = .int .i64 (if m < n then -1 else if n < m then 1 else 0) ∧ Hp w0 w' F := by
 refine Calls.of_J (n := 64) Tryz.func42 rfl rfl rfl (J.seq (J.region (JL.g (RX.assign) (JL.nil (J.seq (J.region (JL.ms rfl (JL.g (RX.len_slice rfl (by rw [sl57]; rfl) rfl) ?_))))))))
 refine JL.ai rfl (JL.nil (J.seq (J.region (JL.ms rfl (JL.g (RX.len_slice rfl (by rw [sl57]; rfl) rfl) ?_)))))
 refine JL.ai rfl (JL.nil (J.seq (J.seq (J.region (JL.mi rfl (JL.mi rfl (JL.g (RX.ne rfl rfl) (JL.mb rfl (JL.splitS 15 rfl (fun hg => ?_) (fun hg => ?_))))))))))
 ·
  first | have hgp := of_decide_eq_true hg | skip
  refine JL.no ⟨_, rfl, gno hg⟩ (JL.no ⟨_, rfl, gno hg⟩ (JL.g (RX.pick_t rfl hg) (JL.nil (J.cond_t rfl rfl (J.seq (J.block (J.seq (J.region (JL.mi rfl (JL.mi rfl (JL.g (RX.lt rfl rfl) (JL.ab rfl (JL.nil (J.cond_d rfl (fun h1 => ?_) (fun h1 => ?_)))))))))))))))
  ·
   refine J.region (JL.g (RX.assign) (JL.nil (J.inBlock (J.ret1 (v := .int _ _) Tryz.func42 rfl rfl (⟨_, rfl, ?_, H⟩)))))
   first
     | (rw [if_pos (by omega)]; done)
     | (rw [if_neg (by omega), if_pos (by omega)]; done)
     | (rw [if_neg (by omega), if_neg (by omega)]; done)
  ·
   refine J.seq (J.region (JL.mi rfl (JL.mi rfl (JL.g (RX.gt rfl rfl) (JL.ab rfl (JL.nil (J.cond_d rfl (fun h2 => ?_) (fun h2 => ?_))))))))
   ·
    refine J.region (JL.g (RX.assign) (JL.nil (J.inBlock (J.ret1 (v := .int _ _) Tryz.func42 rfl rfl (⟨_, rfl, ?_, H⟩)))))
    first
      | (rw [if_pos (by omega)]; done)
      | (rw [if_neg (by omega), if_pos (by omega)]; done)
      | (rw [if_neg (by omega), if_neg (by omega)]; done)
   ·
    refine J.skip (J.inBlock (J.ret1 (v := .int _ _) Tryz.func42 rfl rfl (⟨_, rfl, ?_, H⟩)))
    first
      | (rw [if_pos (by omega)]; done)
      | (rw [if_neg (by omega), if_pos (by omega)]; done)
      | (rw [if_neg (by omega), if_neg (by omega)]; done)
 ·
  first | have hgp := of_decide_eq_false hg | skip
  refine JL.go ⟨_, rfl, hg⟩ (RX.movev (v := .int _ _) rfl) (JL.go ⟨_, rfl, hg⟩ (RX.eq rfl rfl) (JL.g (RX.pick_f rfl hg) (JL.nil (J.cond_t rfl (decide_eq_true (by omega)) (J.seq (J.block (J.seq (J.region (JL.mi rfl (JL.mi rfl (JL.g (RX.lt rfl rfl) (JL.ab rfl (JL.nil (J.cond_d rfl (fun h1 => ?_) (fun h1 => ?_)))))))))))))))
  ·
   refine J.region (JL.g (RX.assign) (JL.nil (J.inBlock (J.ret1 (v := .int _ _) Tryz.func42 rfl rfl (⟨_, rfl, ?_, H⟩)))))
   first
     | (rw [if_pos (by omega)]; done)
     | (rw [if_neg (by omega), if_pos (by omega)]; done)
     | (rw [if_neg (by omega), if_neg (by omega)]; done)
  ·
   refine J.seq (J.region (JL.mi rfl (JL.mi rfl (JL.g (RX.gt rfl rfl) (JL.ab rfl (JL.nil (J.cond_d rfl (fun h2 => ?_) (fun h2 => ?_))))))))
   ·
    refine J.region (JL.g (RX.assign) (JL.nil (J.inBlock (J.ret1 (v := .int _ _) Tryz.func42 rfl rfl (⟨_, rfl, ?_, H⟩)))))
    first
      | (rw [if_pos (by omega)]; done)
      | (rw [if_neg (by omega), if_pos (by omega)]; done)
      | (rw [if_neg (by omega), if_neg (by omega)]; done)
   ·
    refine J.skip (J.inBlock (J.ret1 (v := .int _ _) Tryz.func42 rfl rfl (⟨_, rfl, ?_, H⟩)))
    first
      | (rw [if_pos (by omega)]; done)
      | (rw [if_neg (by omega), if_pos (by omega)]; done)
      | (rw [if_neg (by omega), if_neg (by omega)]; done)
end Go.Proofs.YtfaokllgaambjaaGreatDoor

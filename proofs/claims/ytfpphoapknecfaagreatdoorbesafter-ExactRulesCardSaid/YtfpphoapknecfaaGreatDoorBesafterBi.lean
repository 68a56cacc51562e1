/- Numbers of two words in math/big: add, sub, cmp, set. -/
import Derived.Test.YtfpphoapknecfaaGreatDoorBesafterBh
namespace Go.Proofs.YtfpphoapknecfaaGreatDoorBesafter
open Go Go.Eng
set_option maxRecDepth 100000
set_option linter.unusedVariables false
set_option linter.unusedSimpArgs false
theorem cl38 : callable Tryz.prog 38 = true := by kernel_rfl
theorem cl49 : callable Tryz.prog 49 = true := by kernel_rfl
theorem cl52 : callable Tryz.prog 52 = true := by kernel_rfl
theorem cl56 : callable Tryz.prog 56 = true := by kernel_rfl
theorem ud51 : Tryz.prog.underlying 51 = some (.slice 63) := by kernel_rfl
theorem three_of {l : List Value} (h : 3 ≤ l.length) : ∃ a b c t, l = a :: b :: c :: t := by
  match l, h with
  | a :: b :: c :: t, _ => exact ⟨a, b, c, t, rfl⟩
theorem OwnW.grow {q0 : Option Addr} {ws : List Nat} {c0 : Nat} {s0 : Seg} (ho : OwnW q0 ws c0 s0) : ∀ a, q0 = some a → a.spot = none := ho.spot
set_option maxHeartbeats 1600000 in
theorem make0_b {w0 w : World} {F : List Seg} (H : Hp w0 w F) {p : Option Addr} {m c : Nat} (hp : ∀ a, p = some a → a.spot = none) : Ret Tryz.prog 50 [.slice p m c, .int .i64 0] w fun v w' => v = .slice p 0 c ∧ Hp w0 w' F := by
  refine Calls.of_J (n := 19) Tryz.func50 rfl rfl rfl ?_
  refine J.seq ?_
  refine J.region ?_
  refine JL.go trivial (RX.assign) ?_
  refine JL.nil ?_
  refine J.seq ?_
  refine J.seq ?_
  refine J.region ?_
  refine JL.go trivial (RX.movev (v := Value.int _ _) rfl) ?_
  refine JL.go trivial (RX.movev (v := Value.slice _ _ _) rfl) ?_
  refine JL.go trivial (RX.cap_slice rfl (by rw [sl51]; rfl) rfl) ?_
  refine JL.go trivial (RX.le rfl rfl) ?_
  refine JL.nil ?_
  refine J.cond_t rfl (decide_eq_true (by omega)) ?_
  refine J.seq ?_
  refine J.region ?_
  refine JL.go trivial (RX.movev (v := Value.slice _ _ _) rfl) ?_
  refine JL.go trivial (RX.movev (v := Value.int _ _) rfl) ?_
  refine JL.go trivial (RX.slice_h rfl rfl sl51 hp (by omega) (by omega) (r := 0) rfl) ?_
  refine JL.go trivial (RX.assignv (v := Value.slice _ _ _) rfl) ?_
  refine JL.nil ?_
  refine J.ret1 (v := Value.slice _ _ _) Tryz.func50 rfl rfl ?_
  exact ⟨_, rfl, rfl, H⟩
set_option maxHeartbeats 1600000 in
theorem set_b {w0 w : World} {s0 : Seg} {L : List Seg} (H : Hp w0 w (s0 :: L)) {q0 : Option Addr} {ws : List Nat} {c0 : Nat} (ho : OwnW q0 ws c0 s0) {px : Option Addr} {c2 : Nat} {xs : List Nat} (hs : SlAt (s0 :: L) px (u64sV xs)) (h1 : 1 ≤ xs.length) (h2 : xs.length ≤ 2) : Ret Tryz.prog 49 [.slice q0 ws.length c0, .slice px xs.length c2] w fun v w' => ∃ q c s' G, v = .slice q xs.length c ∧ OwnW q (xs) c s' ∧ Left s0 G ∧ Hp w0 w' (s' :: (G ++ L)) := by
  refine Calls.of_J (n := 13) Tryz.func49 rfl rfl rfl ?_
  refine J.seq ?_
  refine J.region ?_
  refine JL.go trivial (RX.assign) ?_
  refine JL.nil ?_
  refine J.seq ?_
  refine J.region ?_
  refine JL.go trivial (RX.movev (v := Value.slice _ _ _) rfl) ?_
  refine JL.go trivial (RX.movev (v := Value.slice _ _ _) rfl) ?_
  refine JL.go trivial (RX.len_slice rfl (by rw [sl51]; rfl) rfl) ?_
  refine JL.does trivial (EX.call rfl cl50 rfl ((make_b H ho h1 (by omega)))) ?_
  rintro _ w ⟨q, l, c, G, rfl, hle, hll, hG, H, hk⟩
  have hs2 := hk _ _ hs
  refine JL.go trivial (RX.assignv (v := Value.slice _ _ _) rfl) ?_
  refine JL.nil ?_
  refine J.seq ?_
  refine J.region ?_
  refine JL.go trivial (RX.movev (v := Value.slice _ _ _) rfl) ?_
  refine JL.go trivial (RX.movev (v := Value.slice _ _ _) rfl) ?_
  refine JL.does trivial (EX.copyS (ys := u64sV xs) H rfl rfl ud51 (by kernel_rfl) (i := 0) rfl hs2 (u64sV_len xs) (by omega) (u64sV_cell xs)) ?_
  rintro _ w ⟨rfl, H⟩
  refine JL.nil ?_
  refine J.seq ?_
  refine J.region ?_
  refine JL.go trivial (RX.movev (v := Value.slice _ _ _) rfl) ?_
  refine JL.go trivial (RX.assignv (v := Value.slice _ _ _) rfl) ?_
  refine JL.nil ?_
  refine J.ret1 (v := Value.slice _ _ _) Tryz.func49 rfl rfl ?_
  exact ⟨_, rfl, _, c, _, G, rfl, ownW_row (by simp [u64sV]; omega) hle (by rw [List.take_append_of_le_length (by rw [u64sV_len]; exact Nat.le_refl _), ← u64sV_len xs, List.take_length]), hG, H⟩
set_option maxHeartbeats 1600000 in
theorem set0_b {w0 w : World} {s0 : Seg} {L : List Seg} (H : Hp w0 w (s0 :: L)) {q0 : Option Addr} {ws : List Nat} {c0 : Nat} (ho : OwnW q0 ws c0 s0) {px : Option Addr} {c2 : Nat} : Ret Tryz.prog 49 [.slice q0 ws.length c0, .slice px 0 c2] w fun v w' => v = .slice q0 0 c0 ∧ Hp w0 w' (s0 :: L) := by
  refine Calls.of_J (n := 13) Tryz.func49 rfl rfl rfl ?_
  refine J.seq ?_
  refine J.region ?_
  refine JL.go trivial (RX.assign) ?_
  refine JL.nil ?_
  refine J.seq ?_
  refine J.region ?_
  refine JL.go trivial (RX.movev (v := Value.slice _ _ _) rfl) ?_
  refine JL.go trivial (RX.movev (v := Value.slice _ _ _) rfl) ?_
  refine JL.go trivial (RX.len_slice rfl (by rw [sl51]; rfl) rfl) ?_
  refine JL.does trivial (EX.call rfl cl50 rfl ((make0_b H ho.spot))) ?_
  rintro _ w ⟨rfl, H⟩
  refine JL.go trivial (RX.assignv (v := Value.slice _ _ _) rfl) ?_
  refine JL.nil ?_
  refine J.seq ?_
  refine J.region ?_
  refine JL.go trivial (RX.movev (v := Value.slice _ _ _) rfl) ?_
  refine JL.go trivial (RX.movev (v := Value.slice _ _ _) rfl) ?_
  refine JL.does trivial (EX.copy0 H rfl rfl ud51 (by kernel_rfl) rfl) ?_
  rintro _ w ⟨rfl, H⟩
  refine JL.nil ?_
  refine J.seq ?_
  refine J.region ?_
  refine JL.go trivial (RX.movev (v := Value.slice _ _ _) rfl) ?_
  refine JL.go trivial (RX.assignv (v := Value.slice _ _ _) rfl) ?_
  refine JL.nil ?_
  refine J.ret1 (v := Value.slice _ _ _) Tryz.func49 rfl rfl ?_
  exact ⟨_, rfl, rfl, H⟩
set_option maxHeartbeats 1600000 in
theorem addSet_b {w0 w : World} {s0 : Seg} {L : List Seg} (H : Hp w0 w (s0 :: L)) {q0 : Option Addr} {ws : List Nat} {c0 : Nat} (ho : OwnW q0 ws c0 s0) {px py : Option Addr} {c2 c3 : Nat} {xs : List Nat} (hs : SlAt (s0 :: L) px (u64sV xs)) (h1 : 1 ≤ xs.length) (h2 : xs.length ≤ 2) : Ret Tryz.prog 38 [.slice q0 ws.length c0, .slice px xs.length c2, .slice py 0 c3] w fun v w' => ∃ q c s' G, v = .slice q xs.length c ∧ OwnW q (xs) c s' ∧ Left s0 G ∧ Hp w0 w' (s' :: (G ++ L)) := by
  refine Calls.of_J (n := 65) Tryz.func38 rfl rfl rfl ?_
  refine J.seq ?_
  refine J.region ?_
  refine JL.go trivial (RX.assign) ?_
  refine JL.nil ?_
  refine J.seq ?_
  refine J.region ?_
  refine JL.go trivial (RX.movev (v := Value.slice _ _ _) rfl) ?_
  refine JL.go trivial (RX.len_slice rfl (by rw [sl51]; rfl) rfl) ?_
  refine JL.go trivial (RX.assignv (v := Value.int _ _) rfl) ?_
  refine JL.nil ?_
  refine J.seq ?_
  refine J.region ?_
  refine JL.go trivial (RX.movev (v := Value.slice _ _ _) rfl) ?_
  refine JL.go trivial (RX.len_slice rfl (by rw [sl51]; rfl) rfl) ?_
  refine JL.go trivial (RX.assignv (v := Value.int _ _) rfl) ?_
  refine JL.nil ?_
  refine J.seq ?_
  refine J.block ?_
  refine J.seq ?_
  refine J.region ?_
  refine JL.go trivial (RX.movev (v := Value.int _ _) rfl) ?_
  refine JL.go trivial (RX.movev (v := Value.int _ _) rfl) ?_
  refine JL.go trivial (RX.lt rfl rfl) ?_
  refine JL.go trivial (RX.assignv (v := Value.bool _) rfl) ?_
  refine JL.nil ?_
  refine J.cond_f rfl (decide_eq_false (by omega)) ?_
  refine J.seq ?_
  refine J.region ?_
  refine JL.go trivial (RX.movev (v := Value.int _ _) rfl) ?_
  refine JL.go trivial (RX.eq rfl rfl) ?_
  refine JL.go trivial (RX.assignv (v := Value.bool _) rfl) ?_
  refine JL.nil ?_
  refine J.cond_f rfl (decide_eq_false (by omega)) ?_
  refine J.seq ?_
  refine J.region ?_
  refine JL.go trivial (RX.movev (v := Value.int _ _) rfl) ?_
  refine JL.go trivial (RX.eq rfl rfl) ?_
  refine JL.go trivial (RX.assignv (v := Value.bool _) rfl) ?_
  refine JL.nil ?_
  refine J.cond_t rfl (decide_eq_true rfl) ?_
  refine J.seq ?_
  refine J.region ?_
  refine JL.go trivial (RX.movev (v := Value.slice _ _ _) rfl) ?_
  refine JL.go trivial (RX.movev (v := Value.slice _ _ _) rfl) ?_
  refine JL.does trivial (EX.call rfl cl49 rfl ((set_b H ho hs h1 h2))) ?_
  rintro _ w ⟨q, c, s1, G, rfl, ho1, hG, H⟩
  refine JL.go trivial (RX.assignv (v := Value.slice _ _ _) rfl) ?_
  refine JL.nil ?_
  refine J.ret1 (v := Value.slice _ _ _) Tryz.func38 rfl rfl ?_
  exact ⟨_, rfl, q, c, s1, G, rfl, ho1, hG, H⟩
set_option maxHeartbeats 1600000 in
theorem subSet_b {w0 w : World} {s0 : Seg} {L : List Seg} (H : Hp w0 w (s0 :: L)) {q0 : Option Addr} {ws : List Nat} {c0 : Nat} (ho : OwnW q0 ws c0 s0) {px py : Option Addr} {c2 c3 : Nat} {xs : List Nat} (hs : SlAt (s0 :: L) px (u64sV xs)) (h1 : 1 ≤ xs.length) (h2 : xs.length ≤ 2) : Ret Tryz.prog 40 [.slice q0 ws.length c0, .slice px xs.length c2, .slice py 0 c3] w fun v w' => ∃ q c s' G, v = .slice q xs.length c ∧ OwnW q (xs) c s' ∧ Left s0 G ∧ Hp w0 w' (s' :: (G ++ L)) := by
  refine Calls.of_J (n := 59) Tryz.func40 rfl rfl rfl ?_
  refine J.seq ?_
  refine J.region ?_
  refine JL.go trivial (RX.assign) ?_
  refine JL.nil ?_
  refine J.seq ?_
  refine J.region ?_
  refine JL.go trivial (RX.movev (v := Value.slice _ _ _) rfl) ?_
  refine JL.go trivial (RX.len_slice rfl (by rw [sl51]; rfl) rfl) ?_
  refine JL.go trivial (RX.assignv (v := Value.int _ _) rfl) ?_
  refine JL.nil ?_
  refine J.seq ?_
  refine J.region ?_
  refine JL.go trivial (RX.movev (v := Value.slice _ _ _) rfl) ?_
  refine JL.go trivial (RX.len_slice rfl (by rw [sl51]; rfl) rfl) ?_
  refine JL.go trivial (RX.assignv (v := Value.int _ _) rfl) ?_
  refine JL.nil ?_
  refine J.seq ?_
  refine J.block ?_
  refine J.seq ?_
  refine J.region ?_
  refine JL.go trivial (RX.movev (v := Value.int _ _) rfl) ?_
  refine JL.go trivial (RX.movev (v := Value.int _ _) rfl) ?_
  refine JL.go trivial (RX.lt rfl rfl) ?_
  refine JL.go trivial (RX.assignv (v := Value.bool _) rfl) ?_
  refine JL.nil ?_
  refine J.cond_f rfl (decide_eq_false (by omega)) ?_
  refine J.seq ?_
  refine J.region ?_
  refine JL.go trivial (RX.movev (v := Value.int _ _) rfl) ?_
  refine JL.go trivial (RX.eq rfl rfl) ?_
  refine JL.go trivial (RX.assignv (v := Value.bool _) rfl) ?_
  refine JL.nil ?_
  refine J.cond_f rfl (decide_eq_false (by omega)) ?_
  refine J.seq ?_
  refine J.region ?_
  refine JL.go trivial (RX.movev (v := Value.int _ _) rfl) ?_
  refine JL.go trivial (RX.eq rfl rfl) ?_
  refine JL.go trivial (RX.assignv (v := Value.bool _) rfl) ?_
  refine JL.nil ?_
  refine J.cond_t rfl (decide_eq_true rfl) ?_
  refine J.seq ?_
  refine J.region ?_
  refine JL.go trivial (RX.movev (v := Value.slice _ _ _) rfl) ?_
  refine JL.go trivial (RX.movev (v := Value.slice _ _ _) rfl) ?_
  refine JL.does trivial (EX.call rfl cl49 rfl ((set_b H ho hs h1 h2))) ?_
  rintro _ w ⟨q, c, s1, G, rfl, ho1, hG, H⟩
  refine JL.go trivial (RX.assignv (v := Value.slice _ _ _) rfl) ?_
  refine JL.nil ?_
  refine J.ret1 (v := Value.slice _ _ _) Tryz.func40 rfl rfl ?_
  exact ⟨_, rfl, q, c, s1, G, rfl, ho1, hG, H⟩
set_option maxHeartbeats 1600000 in
theorem addSwap_b {w0 w : World} {s0 : Seg} {L : List Seg} (H : Hp w0 w (s0 :: L)) {q0 : Option Addr} {ws : List Nat} {c0 : Nat} (ho : OwnW q0 ws c0 s0) {px py : Option Addr} {c2 c3 : Nat} {ys : List Nat} (hs : SlAt (s0 :: L) py (u64sV ys)) (h1 : 1 ≤ ys.length) (h2 : ys.length ≤ 2) : Ret Tryz.prog 38 [.slice q0 ws.length c0, .slice px 0 c2, .slice py ys.length c3] w fun v w' => ∃ q c s' G, v = .slice q ys.length c ∧ OwnW q (ys) c s' ∧ Left s0 G ∧ Hp w0 w' (s' :: (G ++ L)) := by
  refine Calls.of_J (n := 65) Tryz.func38 rfl rfl rfl ?_
  refine J.seq ?_
  refine J.region ?_
  refine JL.go trivial (RX.assign) ?_
  refine JL.nil ?_
  refine J.seq ?_
  refine J.region ?_
  refine JL.go trivial (RX.movev (v := Value.slice _ _ _) rfl) ?_
  refine JL.go trivial (RX.len_slice rfl (by rw [sl51]; rfl) rfl) ?_
  refine JL.go trivial (RX.assignv (v := Value.int _ _) rfl) ?_
  refine JL.nil ?_
  refine J.seq ?_
  refine J.region ?_
  refine JL.go trivial (RX.movev (v := Value.slice _ _ _) rfl) ?_
  refine JL.go trivial (RX.len_slice rfl (by rw [sl51]; rfl) rfl) ?_
  refine JL.go trivial (RX.assignv (v := Value.int _ _) rfl) ?_
  refine JL.nil ?_
  refine J.seq ?_
  refine J.block ?_
  refine J.seq ?_
  refine J.region ?_
  refine JL.go trivial (RX.movev (v := Value.int _ _) rfl) ?_
  refine JL.go trivial (RX.movev (v := Value.int _ _) rfl) ?_
  refine JL.go trivial (RX.lt rfl rfl) ?_
  refine JL.go trivial (RX.assignv (v := Value.bool _) rfl) ?_
  refine JL.nil ?_
  refine J.cond_t rfl (decide_eq_true (by omega)) ?_
  refine J.seq ?_
  refine J.region ?_
  refine JL.go trivial (RX.movev (v := Value.slice _ _ _) rfl) ?_
  refine JL.go trivial (RX.movev (v := Value.slice _ _ _) rfl) ?_
  refine JL.go trivial (RX.movev (v := Value.slice _ _ _) rfl) ?_
  refine JL.does trivial (EX.call rfl cl38 rfl ((addSet_b H ho hs h1 h2))) ?_
  rintro _ w ⟨q, c, s1, G, rfl, ho1, hG, H⟩
  refine JL.go trivial (RX.assignv (v := Value.slice _ _ _) rfl) ?_
  refine JL.nil ?_
  refine J.ret1 (v := Value.slice _ _ _) Tryz.func38 rfl rfl ?_
  exact ⟨_, rfl, q, c, s1, G, rfl, ho1, hG, H⟩
set_option maxHeartbeats 1600000 in
theorem addZero_b {w0 w : World} {s0 : Seg} {L : List Seg} (H : Hp w0 w (s0 :: L)) {q0 : Option Addr} {ws : List Nat} {c0 : Nat} (ho : OwnW q0 ws c0 s0) {px py : Option Addr} {c2 c3 : Nat} : Ret Tryz.prog 38 [.slice q0 ws.length c0, .slice px 0 c2, .slice py 0 c3] w fun v w' => ∃ q c s' G, v = .slice q 0 c ∧ OwnW q (([] : List Nat)) c s' ∧ Left s0 G ∧ Hp w0 w' (s' :: (G ++ L)) := by
  refine Calls.of_J (n := 65) Tryz.func38 rfl rfl rfl ?_
  refine J.seq ?_
  refine J.region ?_
  refine JL.go trivial (RX.assign) ?_
  refine JL.nil ?_
  refine J.seq ?_
  refine J.region ?_
  refine JL.go trivial (RX.movev (v := Value.slice _ _ _) rfl) ?_
  refine JL.go trivial (RX.len_slice rfl (by rw [sl51]; rfl) rfl) ?_
  refine JL.go trivial (RX.assignv (v := Value.int _ _) rfl) ?_
  refine JL.nil ?_
  refine J.seq ?_
  refine J.region ?_
  refine JL.go trivial (RX.movev (v := Value.slice _ _ _) rfl) ?_
  refine JL.go trivial (RX.len_slice rfl (by rw [sl51]; rfl) rfl) ?_
  refine JL.go trivial (RX.assignv (v := Value.int _ _) rfl) ?_
  refine JL.nil ?_
  refine J.seq ?_
  refine J.block ?_
  refine J.seq ?_
  refine J.region ?_
  refine JL.go trivial (RX.movev (v := Value.int _ _) rfl) ?_
  refine JL.go trivial (RX.movev (v := Value.int _ _) rfl) ?_
  refine JL.go trivial (RX.lt rfl rfl) ?_
  refine JL.go trivial (RX.assignv (v := Value.bool _) rfl) ?_
  refine JL.nil ?_
  refine J.cond_f rfl (decide_eq_false (by decide)) ?_
  refine J.seq ?_
  refine J.region ?_
  refine JL.go trivial (RX.movev (v := Value.int _ _) rfl) ?_
  refine JL.go trivial (RX.eq rfl rfl) ?_
  refine JL.go trivial (RX.assignv (v := Value.bool _) rfl) ?_
  refine JL.nil ?_
  refine J.cond_t rfl (decide_eq_true rfl) ?_
  refine J.seq ?_
  refine J.region ?_
  refine JL.go trivial (RX.movev (v := Value.slice _ _ _) rfl) ?_
  refine JL.go trivial (RX.slice_h rfl rfl sl51 ho.spot (by decide) (by omega) (r := 0) rfl) ?_
  refine JL.go trivial (RX.assignv (v := Value.slice _ _ _) rfl) ?_
  refine JL.nil ?_
  refine J.ret1 (v := Value.slice _ _ _) Tryz.func38 rfl rfl ?_
  exact ⟨_, rfl, q0, c0, s0, [], rfl, ho.none_, .inl rfl, H⟩
set_option maxHeartbeats 1600000 in
theorem subZero_b {w0 w : World} {s0 : Seg} {L : List Seg} (H : Hp w0 w (s0 :: L)) {q0 : Option Addr} {ws : List Nat} {c0 : Nat} (ho : OwnW q0 ws c0 s0) {px py : Option Addr} {c2 c3 : Nat} : Ret Tryz.prog 40 [.slice q0 ws.length c0, .slice px 0 c2, .slice py 0 c3] w fun v w' => ∃ q c s' G, v = .slice q 0 c ∧ OwnW q (([] : List Nat)) c s' ∧ Left s0 G ∧ Hp w0 w' (s' :: (G ++ L)) := by
  refine Calls.of_J (n := 59) Tryz.func40 rfl rfl rfl ?_
  refine J.seq ?_
  refine J.region ?_
  refine JL.go trivial (RX.assign) ?_
  refine JL.nil ?_
  refine J.seq ?_
  refine J.region ?_
  refine JL.go trivial (RX.movev (v := Value.slice _ _ _) rfl) ?_
  refine JL.go trivial (RX.len_slice rfl (by rw [sl51]; rfl) rfl) ?_
  refine JL.go trivial (RX.assignv (v := Value.int _ _) rfl) ?_
  refine JL.nil ?_
  refine J.seq ?_
  refine J.region ?_
  refine JL.go trivial (RX.movev (v := Value.slice _ _ _) rfl) ?_
  refine JL.go trivial (RX.len_slice rfl (by rw [sl51]; rfl) rfl) ?_
  refine JL.go trivial (RX.assignv (v := Value.int _ _) rfl) ?_
  refine JL.nil ?_
  refine J.seq ?_
  refine J.block ?_
  refine J.seq ?_
  refine J.region ?_
  refine JL.go trivial (RX.movev (v := Value.int _ _) rfl) ?_
  refine JL.go trivial (RX.movev (v := Value.int _ _) rfl) ?_
  refine JL.go trivial (RX.lt rfl rfl) ?_
  refine JL.go trivial (RX.assignv (v := Value.bool _) rfl) ?_
  refine JL.nil ?_
  refine J.cond_f rfl (decide_eq_false (by decide)) ?_
  refine J.seq ?_
  refine J.region ?_
  refine JL.go trivial (RX.movev (v := Value.int _ _) rfl) ?_
  refine JL.go trivial (RX.eq rfl rfl) ?_
  refine JL.go trivial (RX.assignv (v := Value.bool _) rfl) ?_
  refine JL.nil ?_
  refine J.cond_t rfl (decide_eq_true rfl) ?_
  refine J.seq ?_
  refine J.region ?_
  refine JL.go trivial (RX.movev (v := Value.slice _ _ _) rfl) ?_
  refine JL.go trivial (RX.slice_h rfl rfl sl51 ho.spot (by decide) (by omega) (r := 0) rfl) ?_
  refine JL.go trivial (RX.assignv (v := Value.slice _ _ _) rfl) ?_
  refine JL.nil ?_
  refine J.ret1 (v := Value.slice _ _ _) Tryz.func40 rfl rfl ?_
  exact ⟨_, rfl, q0, c0, s0, [], rfl, ho.none_, .inl rfl, H⟩
set_option maxHeartbeats 1600000 in
theorem add11_b {w0 w : World} {s0 : Seg} {L : List Seg} (H : Hp w0 w (s0 :: L)) {q0 : Option Addr} {ws : List Nat} {c0 : Nat} (ho : OwnW q0 ws c0 s0) {px py : Option Addr} {c2 c3 x y : Nat} (hs : SlAt (s0 :: L) px (u64sV [x])) (hs3 : SlAt (s0 :: L) py (u64sV [y])) (hp2 : ∀ a, px = some a → a.spot = none) (hp3 : ∀ a, py = some a → a.spot = none) (hc2 : 1 ≤ c2) (hc3 : 1 ≤ c3) (hx : x < 18446744073709551616) (hy : y < 18446744073709551616) : Ret Tryz.prog 38 [.slice q0 ws.length c0, .slice px 1 c2, .slice py 1 c3] w fun v w' => ∃ q c s' G, v = .slice q (wd (x + y)).length c ∧ OwnW q (wd (x + y)) c s' ∧ Left s0 G ∧ Hp w0 w' (s' :: (G ++ L)) := by
  refine Calls.of_J (n := 65) Tryz.func38 rfl rfl rfl ?_
  refine J.seq ?_
  refine J.region ?_
  refine JL.go trivial (RX.assign) ?_
  refine JL.nil ?_
  refine J.seq ?_
  refine J.region ?_
  refine JL.go trivial (RX.movev (v := Value.slice _ _ _) rfl) ?_
  refine JL.go trivial (RX.len_slice rfl (by rw [sl51]; rfl) rfl) ?_
  refine JL.go trivial (RX.assignv (v := Value.int _ _) rfl) ?_
  refine JL.nil ?_
  refine J.seq ?_
  refine J.region ?_
  refine JL.go trivial (RX.movev (v := Value.slice _ _ _) rfl) ?_
  refine JL.go trivial (RX.len_slice rfl (by rw [sl51]; rfl) rfl) ?_
  refine JL.go trivial (RX.assignv (v := Value.int _ _) rfl) ?_
  refine JL.nil ?_
  refine J.seq ?_
  refine J.block ?_
  refine J.seq ?_
  refine J.region ?_
  refine JL.go trivial (RX.movev (v := Value.int _ _) rfl) ?_
  refine JL.go trivial (RX.movev (v := Value.int _ _) rfl) ?_
  refine JL.go trivial (RX.lt rfl rfl) ?_
  refine JL.go trivial (RX.assignv (v := Value.bool _) rfl) ?_
  refine JL.nil ?_
  refine J.cond_f rfl (decide_eq_false (by decide)) ?_
  refine J.seq ?_
  refine J.region ?_
  refine JL.go trivial (RX.movev (v := Value.int _ _) rfl) ?_
  refine JL.go trivial (RX.eq rfl rfl) ?_
  refine JL.go trivial (RX.assignv (v := Value.bool _) rfl) ?_
  refine JL.nil ?_
  refine J.cond_f rfl (decide_eq_false (by decide)) ?_
  refine J.seq ?_
  refine J.region ?_
  refine JL.go trivial (RX.movev (v := Value.int _ _) rfl) ?_
  refine JL.go trivial (RX.eq rfl rfl) ?_
  refine JL.go trivial (RX.assignv (v := Value.bool _) rfl) ?_
  refine JL.nil ?_
  refine J.cond_f rfl (decide_eq_false (by decide)) ?_
  refine J.skip ?_
  refine J.inBlock ?_
  refine J.seq ?_
  refine J.region ?_
  refine JL.go trivial (RX.movev (v := Value.slice _ _ _) rfl) ?_
  refine JL.go trivial (RX.movev (v := Value.int _ _) rfl) ?_
  refine JL.go trivial (RX.add rfl rfl (wi (n := 2) (by simp) (by decide))) ?_
  refine JL.does trivial (EX.call rfl cl50 rfl ((make_b H ho (by decide) (by decide)))) ?_
  rintro _ w ⟨q, l, c, G, rfl, hle, hll, hG, H, hk⟩
  have hs2 := hk _ _ hs
  have hs4 := hk _ _ hs3
  obtain ⟨z0, z1, l, rfl⟩ := two_of (l := l) (by omega)
  refine JL.go trivial (RX.assignv (v := Value.slice _ _ _) rfl) ?_
  refine JL.nil ?_
  refine J.seq ?_
  refine J.any hmix fun w hs => ?_
  replace H := H.same hs; clear hs
  refine JA.take 0 (listed' := [true, false, false, false, false, false, false, false, false, false, false]) rfl (by kernel_rfl) (by kernel_rfl) (by kernel_rfl) rfl trivial (fun w => RX.movev (v := Value.slice _ _ _) rfl) ?_
  refine JA.take 1 (listed' := [true, true, false, false, false, false, false, false, false, false, false]) rfl (by kernel_rfl) (by kernel_rfl) (by kernel_rfl) rfl trivial (fun w => RX.movev (v := Value.int _ _) rfl) ?_
  refine JA.take 2 (listed' := [true, true, true, false, false, false, false, false, false, false, false]) rfl (by kernel_rfl) (by kernel_rfl) (by kernel_rfl) rfl trivial (fun w => RX.slice_h rfl rfl sl51 (fun a ha => by cases ha; rfl) (by decide) (by omega) (r := 1) (by decide)) ?_
  refine JA.take 3 (listed' := [true, true, true, true, false, false, false, false, false, false, false]) rfl (by kernel_rfl) (by kernel_rfl) (by kernel_rfl) rfl trivial (fun w => RX.movev (v := Value.slice _ _ _) rfl) ?_
  refine JA.take 4 (listed' := [true, true, true, true, true, false, false, false, false, false, false]) rfl (by kernel_rfl) (by kernel_rfl) (by kernel_rfl) rfl trivial (fun w => RX.movev (v := Value.int _ _) rfl) ?_
  refine JA.take 5 (listed' := [true, true, true, true, true, true, false, false, false, false, false]) rfl (by kernel_rfl) (by kernel_rfl) (by kernel_rfl) rfl trivial (fun w => RX.slice_h rfl rfl sl51 hp2 (by decide) (by omega) (r := 1) (by decide)) ?_
  refine JA.take 6 (listed' := [true, true, true, true, true, true, true, false, false, false, false]) rfl (by kernel_rfl) (by kernel_rfl) (by kernel_rfl) rfl trivial (fun w => RX.movev (v := Value.slice _ _ _) rfl) ?_
  refine JA.take 7 (listed' := [true, true, true, true, true, true, true, true, false, false, false]) rfl (by kernel_rfl) (by kernel_rfl) (by kernel_rfl) rfl trivial (fun w => RX.movev (v := Value.int _ _) rfl) ?_
  refine JA.take 8 (listed' := [true, true, true, true, true, true, true, true, true, false, false]) rfl (by kernel_rfl) (by kernel_rfl) (by kernel_rfl) rfl trivial (fun w => RX.slice_h rfl rfl sl51 hp3 (by decide) (by omega) (r := 1) (by decide)) ?_
  refine JA.all [9] (by kernel_rfl) (by decide) ?_
  refine JO.does (listed' := [true, true, true, true, true, true, true, true, true, true, false]) rfl rfl trivial (EX.callT rfl twAdd rfl (addVV_b H hs2 hs4)) ?_
  rintro _ w ⟨rfl, H⟩
  refine JA.take 10 (listed' := [true, true, true, true, true, true, true, true, true, true, true]) rfl (by kernel_rfl) (by kernel_rfl) (by kernel_rfl) rfl trivial (fun w => RX.assignv (v := Value.int _ _) rfl) ?_
  refine JA.done (by kernel_rfl) ?_
  refine J.seq ?_
  refine J.seq ?_
  refine J.region ?_
  refine JL.go trivial (RX.movev (v := Value.int _ _) rfl) ?_
  refine JL.go trivial (RX.movev (v := Value.int _ _) rfl) ?_
  refine JL.go trivial (RX.gt rfl rfl) ?_
  refine JL.nil ?_
  refine J.cond_f rfl (decide_eq_false (by decide)) ?_
  refine J.skip ?_
  refine J.seq ?_
  refine J.region ?_
  refine JL.go trivial (RX.movev (v := Value.slice _ _ _) rfl) ?_
  refine JL.go trivial (RX.movev (v := Value.int _ _) rfl) ?_
  refine JL.go trivial (RX.movev (v := Value.int _ _) rfl) ?_
  refine JL.go trivial (RX.indexAddr rfl rfl sl51 (by omega) (by omega) (o' := 1) (by omega)) ?_
  refine JL.does trivial (EX.store (v := Value.int _ _) H rfl rfl (i := 0) rfl rfl (by simp) sz63 rfl rfl) ?_
  rintro _ w H
  refine JL.nil ?_
  refine J.seq ?_
  refine J.region ?_
  refine JL.go trivial (RX.movev (v := Value.slice _ _ _) rfl) ?_
  refine JL.does trivial (EX.call rfl cl53 rfl ((norm_b (ws := [(x + y) % 18446744073709551616, (x + y) / 18446744073709551616]) H (SlAt.here rfl) hle (by omega) (by simp)))) ?_
  rintro _ w ⟨i, rfl, hi, H⟩
  have h2 := nm2 hi (Nat.mod_lt _ (by decide)) (by omega)
  have hi1 := hi.1
  rw [show (x + y) % 18446744073709551616 + (x + y) / 18446744073709551616 * 18446744073709551616 = x + y from by omega] at h2
  obtain ⟨rfl, h3⟩ := h2
  refine JL.go trivial (RX.assignv (v := Value.slice _ _ _) rfl) ?_
  refine JL.nil ?_
  refine J.ret1 (v := Value.slice _ _ _) Tryz.func38 rfl rfl ?_
  exact ⟨_, rfl, _, c, _, G, rfl, ownW_nm (l := l) ⟨rfl, h3⟩ hi1 (by simpa [u64sV] using hll), hG, H⟩
set_option maxHeartbeats 1600000 in
theorem add21_b {w0 w : World} {L : List Seg} {g c0 x0 x1 y : Nat} {l0 : List Value} (H : Hp w0 w ([(g, cel (l0) 63)] :: L)) (hl0 : l0.length = c0) (hx : l0.take 2 = u64sV [x0, x1]) (h2c : 2 ≤ c0) {py : Option Addr} {c3 : Nat} (hs3 : SlAt ([(g, cel (l0) 63)] :: L) py (u64sV [y])) (hp3 : ∀ a, py = some a → a.spot = none) (hc3 : 1 ≤ c3) (hx0 : x0 < 18446744073709551616) (hx1 : x1 + 1 < 18446744073709551616) (hy : y < 18446744073709551616) : Ret Tryz.prog 38 [.slice (some ⟨g, 0, none⟩) 2 c0, .slice (some ⟨g, 0, none⟩) 2 c0, .slice py 1 c3] w fun v w' => ∃ q c s' G, v = .slice q (wd (x0 + x1 * 18446744073709551616 + y)).length c ∧ OwnW q (wd (x0 + x1 * 18446744073709551616 + y)) c s' ∧ Left [(g, cel (l0) 63)] G ∧ Hp w0 w' (s' :: (G ++ L)) := by
  refine Calls.of_J (n := 65) Tryz.func38 rfl rfl rfl ?_
  refine J.seq ?_
  refine J.region ?_
  refine JL.go trivial (RX.assign) ?_
  refine JL.nil ?_
  refine J.seq ?_
  refine J.region ?_
  refine JL.go trivial (RX.movev (v := Value.slice _ _ _) rfl) ?_
  refine JL.go trivial (RX.len_slice rfl (by rw [sl51]; rfl) rfl) ?_
  refine JL.go trivial (RX.assignv (v := Value.int _ _) rfl) ?_
  refine JL.nil ?_
  refine J.seq ?_
  refine J.region ?_
  refine JL.go trivial (RX.movev (v := Value.slice _ _ _) rfl) ?_
  refine JL.go trivial (RX.len_slice rfl (by rw [sl51]; rfl) rfl) ?_
  refine JL.go trivial (RX.assignv (v := Value.int _ _) rfl) ?_
  refine JL.nil ?_
  refine J.seq ?_
  refine J.block ?_
  refine J.seq ?_
  refine J.region ?_
  refine JL.go trivial (RX.movev (v := Value.int _ _) rfl) ?_
  refine JL.go trivial (RX.movev (v := Value.int _ _) rfl) ?_
  refine JL.go trivial (RX.lt rfl rfl) ?_
  refine JL.go trivial (RX.assignv (v := Value.bool _) rfl) ?_
  refine JL.nil ?_
  refine J.cond_f rfl (decide_eq_false (by decide)) ?_
  refine J.seq ?_
  refine J.region ?_
  refine JL.go trivial (RX.movev (v := Value.int _ _) rfl) ?_
  refine JL.go trivial (RX.eq rfl rfl) ?_
  refine JL.go trivial (RX.assignv (v := Value.bool _) rfl) ?_
  refine JL.nil ?_
  refine J.cond_f rfl (decide_eq_false (by decide)) ?_
  refine J.seq ?_
  refine J.region ?_
  refine JL.go trivial (RX.movev (v := Value.int _ _) rfl) ?_
  refine JL.go trivial (RX.eq rfl rfl) ?_
  refine JL.go trivial (RX.assignv (v := Value.bool _) rfl) ?_
  refine JL.nil ?_
  refine J.cond_f rfl (decide_eq_false (by decide)) ?_
  refine J.skip ?_
  refine J.inBlock ?_
  refine J.seq ?_
  refine J.region ?_
  refine JL.go trivial (RX.movev (v := Value.slice _ _ _) rfl) ?_
  refine JL.go trivial (RX.movev (v := Value.int _ _) rfl) ?_
  refine JL.go trivial (RX.add rfl rfl (wi (n := 3) (by simp) (by decide))) ?_
  refine JL.does trivial (EX.call rfl cl50 rfl ((make_own H hl0 (by decide) (by decide)))) ?_
  rintro _ w ⟨q, l, c, G, rfl, hle, hll, hG1, H⟩
  have hk : ∀ p xs, SlAt ([(g, cel (l0) 63)] :: L) p xs → SlAt ([(q, cel l 63)] :: (G ++ L)) p xs := by
    rcases hG1 with ⟨rfl, rfl, rfl⟩ | ⟨_, rfl⟩
    · exact fun _ _ h => h
    · exact fun _ _ h => h.cons
  have hm : g = q ∨ (g, Obj.cells l0.toArray 63 (0, 0)) ∈ (G ++ L).flatten := by
    rcases hG1 with ⟨rfl, rfl, rfl⟩ | ⟨_, rfl⟩
    · exact .inl rfl
    · exact .inr (by simp [cel])
  have hG : Left [(g, cel (l0) 63)] G := by
    rcases hG1 with ⟨rfl, rfl, rfl⟩ | ⟨_, rfl⟩
    · exact .inl rfl
    · exact .inr rfl
  have hs2 := hk _ _ (SlAt.here (xs := u64sV [x0, x1]) hx)
  have hs4 := hk _ _ hs3
  obtain ⟨z0, z1, z2, l, rfl⟩ := three_of (l := l) (by omega)
  refine JL.go trivial (RX.assignv (v := Value.slice _ _ _) rfl) ?_
  refine JL.nil ?_
  refine J.seq ?_
  refine J.any hmix fun w hs => ?_
  replace H := H.same hs; clear hs
  refine JA.take 0 (listed' := [true, false, false, false, false, false, false, false, false, false, false]) rfl (by kernel_rfl) (by kernel_rfl) (by kernel_rfl) rfl trivial (fun w => RX.movev (v := Value.slice _ _ _) rfl) ?_
  refine JA.take 1 (listed' := [true, true, false, false, false, false, false, false, false, false, false]) rfl (by kernel_rfl) (by kernel_rfl) (by kernel_rfl) rfl trivial (fun w => RX.movev (v := Value.int _ _) rfl) ?_
  refine JA.take 2 (listed' := [true, true, true, false, false, false, false, false, false, false, false]) rfl (by kernel_rfl) (by kernel_rfl) (by kernel_rfl) rfl trivial (fun w => RX.slice_h rfl rfl sl51 (fun a ha => by cases ha; rfl) (by decide) (by omega) (r := 1) (by decide)) ?_
  refine JA.take 3 (listed' := [true, true, true, true, false, false, false, false, false, false, false]) rfl (by kernel_rfl) (by kernel_rfl) (by kernel_rfl) rfl trivial (fun w => RX.movev (v := Value.slice _ _ _) rfl) ?_
  refine JA.take 4 (listed' := [true, true, true, true, true, false, false, false, false, false, false]) rfl (by kernel_rfl) (by kernel_rfl) (by kernel_rfl) rfl trivial (fun w => RX.movev (v := Value.int _ _) rfl) ?_
  refine JA.take 5 (listed' := [true, true, true, true, true, true, false, false, false, false, false]) rfl (by kernel_rfl) (by kernel_rfl) (by kernel_rfl) rfl trivial (fun w => RX.slice_h rfl rfl sl51 (fun a ha => by cases ha; rfl) (by decide) (by omega) (r := 1) (by decide)) ?_
  refine JA.take 6 (listed' := [true, true, true, true, true, true, true, false, false, false, false]) rfl (by kernel_rfl) (by kernel_rfl) (by kernel_rfl) rfl trivial (fun w => RX.movev (v := Value.slice _ _ _) rfl) ?_
  refine JA.take 7 (listed' := [true, true, true, true, true, true, true, true, false, false, false]) rfl (by kernel_rfl) (by kernel_rfl) (by kernel_rfl) rfl trivial (fun w => RX.movev (v := Value.int _ _) rfl) ?_
  refine JA.take 8 (listed' := [true, true, true, true, true, true, true, true, true, false, false]) rfl (by kernel_rfl) (by kernel_rfl) (by kernel_rfl) rfl trivial (fun w => RX.slice_h rfl rfl sl51 hp3 (by decide) (by omega) (r := 1) (by decide)) ?_
  refine JA.all [9] (by kernel_rfl) (by decide) ?_
  refine JO.does (listed' := [true, true, true, true, true, true, true, true, true, true, false]) rfl rfl trivial (EX.callT rfl twAdd rfl (addVV_b H (SlAt.pre (xs := u64sV [x0]) (ys := u64sV [x1]) hs2) hs4)) ?_
  rintro _ w ⟨rfl, H⟩
  refine JA.take 10 (listed' := [true, true, true, true, true, true, true, true, true, true, true]) rfl (by kernel_rfl) (by kernel_rfl) (by kernel_rfl) rfl trivial (fun w => RX.assignv (v := Value.int _ _) rfl) ?_
  refine JA.done (by kernel_rfl) ?_
  refine J.seq ?_
  refine J.seq ?_
  refine J.region ?_
  refine JL.go trivial (RX.movev (v := Value.int _ _) rfl) ?_
  refine JL.go trivial (RX.movev (v := Value.int _ _) rfl) ?_
  refine JL.go trivial (RX.gt rfl rfl) ?_
  refine JL.nil ?_
  refine J.cond_t rfl (decide_eq_true (by decide)) ?_
  refine J.any hmix fun w hs => ?_
  replace H := H.same hs; clear hs
  refine JA.take 0 (listed' := [true, false, false, false, false, false, false, false, false, false]) rfl (by kernel_rfl) (by kernel_rfl) (by kernel_rfl) rfl trivial (fun w => RX.movev (v := Value.slice _ _ _) rfl) ?_
  refine JA.take 1 (listed' := [true, true, false, false, false, false, false, false, false, false]) rfl (by kernel_rfl) (by kernel_rfl) (by kernel_rfl) rfl trivial (fun w => RX.movev (v := Value.int _ _) rfl) ?_
  refine JA.take 2 (listed' := [true, true, true, false, false, false, false, false, false, false]) rfl (by kernel_rfl) (by kernel_rfl) (by kernel_rfl) rfl trivial (fun w => RX.movev (v := Value.int _ _) rfl) ?_
  refine JA.take 3 (listed' := [true, true, true, true, false, false, false, false, false, false]) rfl (by kernel_rfl) (by kernel_rfl) (by kernel_rfl) rfl trivial (fun w => RX.slice_lh rfl rfl rfl sl51 (fun a ha => by cases ha; rfl) (by decide) (by decide) (by omega) (r := 1) (s := 2) rfl rfl) ?_
  rw [behind_at (by omega)]
  refine JA.take 4 (listed' := [true, true, true, true, true, false, false, false, false, false]) rfl (by kernel_rfl) (by kernel_rfl) (by kernel_rfl) rfl trivial (fun w => RX.movev (v := Value.slice _ _ _) rfl) ?_
  refine JA.take 5 (listed' := [true, true, true, true, true, true, false, false, false, false]) rfl (by kernel_rfl) (by kernel_rfl) (by kernel_rfl) rfl trivial (fun w => RX.movev (v := Value.int _ _) rfl) ?_
  refine JA.take 6 (listed' := [true, true, true, true, true, true, true, false, false, false]) rfl (by kernel_rfl) (by kernel_rfl) (by kernel_rfl) rfl trivial (fun w => RX.slice_l rfl rfl sl51 (fun a ha => by cases ha; rfl) (by decide) (by decide) (r := 1) rfl) ?_
  rw [behind_at (by omega)]
  refine JA.take 7 (listed' := [true, true, true, true, true, true, true, true, false, false]) rfl (by kernel_rfl) (by kernel_rfl) (by kernel_rfl) rfl trivial (fun w => RX.movev (v := Value.int _ _) rfl) ?_
  refine JA.all [8] (by kernel_rfl) (by decide) ?_
  refine JO.does (listed' := [true, true, true, true, true, true, true, true, true, false]) rfl rfl trivial (EX.call rfl cl52 rfl ((addVW_b (k := (x0 + y) / 18446744073709551616) H (sl_next hs2) (fun _ => rfl) hm (by omega) (by omega)))) ?_
  rintro _ w ⟨rfl, H⟩
  refine JA.take 9 (listed' := [true, true, true, true, true, true, true, true, true, true]) rfl (by kernel_rfl) (by kernel_rfl) (by kernel_rfl) rfl trivial (fun w => RX.assignv (v := Value.int _ _) rfl) ?_
  refine JA.done (by kernel_rfl) ?_
  refine J.seq ?_
  refine J.region ?_
  refine JL.go trivial (RX.movev (v := Value.slice _ _ _) rfl) ?_
  refine JL.go trivial (RX.movev (v := Value.int _ _) rfl) ?_
  refine JL.go trivial (RX.movev (v := Value.int _ _) rfl) ?_
  refine JL.go trivial (RX.indexAddr rfl rfl sl51 (by omega) (by omega) (o' := 2) (by omega)) ?_
  refine JL.does trivial (EX.store (v := Value.int _ _) H rfl rfl (i := 0) rfl rfl (by simp) sz63 rfl rfl) ?_
  rintro _ w H
  refine JL.nil ?_
  refine J.seq ?_
  refine J.region ?_
  refine JL.go trivial (RX.movev (v := Value.slice _ _ _) rfl) ?_
  refine JL.does trivial (EX.call rfl cl53 rfl ((norm_b (ws := [(x0 + y) % 18446744073709551616, x1 + (x0 + y) / 18446744073709551616, 0]) H (SlAt.here rfl) hle (by omega) (by simp)))) ?_
  rintro _ w ⟨i, rfl, hi, H⟩
  have h2 := nm3 hi (Nat.mod_lt _ (by decide)) (by omega)
  have hi1 := hi.1
  rw [show (x0 + y) % 18446744073709551616 + (x1 + (x0 + y) / 18446744073709551616) * 18446744073709551616 = x0 + x1 * 18446744073709551616 + y from by omega] at h2
  obtain ⟨rfl, h3⟩ := h2
  refine JL.go trivial (RX.assignv (v := Value.slice _ _ _) rfl) ?_
  refine JL.nil ?_
  refine J.ret1 (v := Value.slice _ _ _) Tryz.func38 rfl rfl ?_
  exact ⟨_, rfl, _, c, _, G, rfl, ownW_nm (l := l) ⟨rfl, h3⟩ hi1 (by simpa [u64sV] using hll), hG, H⟩
set_option maxHeartbeats 1600000 in
theorem sub11_b {w0 w : World} {s0 : Seg} {L : List Seg} (H : Hp w0 w (s0 :: L)) {q0 : Option Addr} {ws : List Nat} {c0 : Nat} (ho : OwnW q0 ws c0 s0) {px py : Option Addr} {c2 c3 x y : Nat} (hs : SlAt (s0 :: L) px (u64sV [x])) (hs3 : SlAt (s0 :: L) py (u64sV [y])) (hp2 : ∀ a, px = some a → a.spot = none) (hp3 : ∀ a, py = some a → a.spot = none) (hc2 : 1 ≤ c2) (hc3 : 1 ≤ c3) (hyx : y ≤ x) (hx : x < 18446744073709551616) : Ret Tryz.prog 40 [.slice q0 ws.length c0, .slice px 1 c2, .slice py 1 c3] w fun v w' => ∃ q c s' G, v = .slice q (wd (x - y)).length c ∧ OwnW q (wd (x - y)) c s' ∧ Left s0 G ∧ Hp w0 w' (s' :: (G ++ L)) := by
  refine Calls.of_J (n := 59) Tryz.func40 rfl rfl rfl ?_
  refine J.seq ?_
  refine J.region ?_
  refine JL.go trivial (RX.assign) ?_
  refine JL.nil ?_
  refine J.seq ?_
  refine J.region ?_
  refine JL.go trivial (RX.movev (v := Value.slice _ _ _) rfl) ?_
  refine JL.go trivial (RX.len_slice rfl (by rw [sl51]; rfl) rfl) ?_
  refine JL.go trivial (RX.assignv (v := Value.int _ _) rfl) ?_
  refine JL.nil ?_
  refine J.seq ?_
  refine J.region ?_
  refine JL.go trivial (RX.movev (v := Value.slice _ _ _) rfl) ?_
  refine JL.go trivial (RX.len_slice rfl (by rw [sl51]; rfl) rfl) ?_
  refine JL.go trivial (RX.assignv (v := Value.int _ _) rfl) ?_
  refine JL.nil ?_
  refine J.seq ?_
  refine J.block ?_
  refine J.seq ?_
  refine J.region ?_
  refine JL.go trivial (RX.movev (v := Value.int _ _) rfl) ?_
  refine JL.go trivial (RX.movev (v := Value.int _ _) rfl) ?_
  refine JL.go trivial (RX.lt rfl rfl) ?_
  refine JL.go trivial (RX.assignv (v := Value.bool _) rfl) ?_
  refine JL.nil ?_
  refine J.cond_f rfl (decide_eq_false (by decide)) ?_
  refine J.seq ?_
  refine J.region ?_
  refine JL.go trivial (RX.movev (v := Value.int _ _) rfl) ?_
  refine JL.go trivial (RX.eq rfl rfl) ?_
  refine JL.go trivial (RX.assignv (v := Value.bool _) rfl) ?_
  refine JL.nil ?_
  refine J.cond_f rfl (decide_eq_false (by decide)) ?_
  refine J.seq ?_
  refine J.region ?_
  refine JL.go trivial (RX.movev (v := Value.int _ _) rfl) ?_
  refine JL.go trivial (RX.eq rfl rfl) ?_
  refine JL.go trivial (RX.assignv (v := Value.bool _) rfl) ?_
  refine JL.nil ?_
  refine J.cond_f rfl (decide_eq_false (by decide)) ?_
  refine J.skip ?_
  refine J.inBlock ?_
  refine J.seq ?_
  refine J.region ?_
  refine JL.go trivial (RX.movev (v := Value.slice _ _ _) rfl) ?_
  refine JL.go trivial (RX.movev (v := Value.int _ _) rfl) ?_
  refine JL.does trivial (EX.call rfl cl50 rfl ((make_b H ho (by decide) (by decide)))) ?_
  rintro _ w ⟨q, l, c, G, rfl, hle, hll, hG, H, hk⟩
  have hs2 := hk _ _ hs
  have hs4 := hk _ _ hs3
  obtain ⟨z0, l, rfl⟩ := one_of (l := l) (by omega)
  refine JL.go trivial (RX.assignv (v := Value.slice _ _ _) rfl) ?_
  refine JL.nil ?_
  refine J.seq ?_
  refine J.any hmix fun w hs => ?_
  replace H := H.same hs; clear hs
  refine JA.take 0 (listed' := [true, false, false, false, false, false, false, false, false, false, false]) rfl (by kernel_rfl) (by kernel_rfl) (by kernel_rfl) rfl trivial (fun w => RX.movev (v := Value.slice _ _ _) rfl) ?_
  refine JA.take 1 (listed' := [true, true, false, false, false, false, false, false, false, false, false]) rfl (by kernel_rfl) (by kernel_rfl) (by kernel_rfl) rfl trivial (fun w => RX.movev (v := Value.int _ _) rfl) ?_
  refine JA.take 2 (listed' := [true, true, true, false, false, false, false, false, false, false, false]) rfl (by kernel_rfl) (by kernel_rfl) (by kernel_rfl) rfl trivial (fun w => RX.slice_h rfl rfl sl51 (fun a ha => by cases ha; rfl) (by decide) (by omega) (r := 1) (by decide)) ?_
  refine JA.take 3 (listed' := [true, true, true, true, false, false, false, false, false, false, false]) rfl (by kernel_rfl) (by kernel_rfl) (by kernel_rfl) rfl trivial (fun w => RX.movev (v := Value.slice _ _ _) rfl) ?_
  refine JA.take 4 (listed' := [true, true, true, true, true, false, false, false, false, false, false]) rfl (by kernel_rfl) (by kernel_rfl) (by kernel_rfl) rfl trivial (fun w => RX.movev (v := Value.int _ _) rfl) ?_
  refine JA.take 5 (listed' := [true, true, true, true, true, true, false, false, false, false, false]) rfl (by kernel_rfl) (by kernel_rfl) (by kernel_rfl) rfl trivial (fun w => RX.slice_h rfl rfl sl51 hp2 (by decide) (by omega) (r := 1) (by decide)) ?_
  refine JA.take 6 (listed' := [true, true, true, true, true, true, true, false, false, false, false]) rfl (by kernel_rfl) (by kernel_rfl) (by kernel_rfl) rfl trivial (fun w => RX.movev (v := Value.slice _ _ _) rfl) ?_
  refine JA.take 7 (listed' := [true, true, true, true, true, true, true, true, false, false, false]) rfl (by kernel_rfl) (by kernel_rfl) (by kernel_rfl) rfl trivial (fun w => RX.movev (v := Value.int _ _) rfl) ?_
  refine JA.take 8 (listed' := [true, true, true, true, true, true, true, true, true, false, false]) rfl (by kernel_rfl) (by kernel_rfl) (by kernel_rfl) rfl trivial (fun w => RX.slice_h rfl rfl sl51 hp3 (by decide) (by omega) (r := 1) (by decide)) ?_
  refine JA.all [9] (by kernel_rfl) (by decide) ?_
  refine JO.does (listed' := [true, true, true, true, true, true, true, true, true, true, false]) rfl rfl trivial (EX.callT rfl twSub rfl (subVV_b H hs2 hs4)) ?_
  rintro _ w ⟨rfl, H⟩
  have e1 : (if x < y then 1 else 0 : Nat) = 0 := if_neg (by omega)
  have e2 : (x + 18446744073709551616 - y) % 18446744073709551616 = x - y := by omega
  rw [e1]
  rw [e2] at H
  refine JA.take 10 (listed' := [true, true, true, true, true, true, true, true, true, true, true]) rfl (by kernel_rfl) (by kernel_rfl) (by kernel_rfl) rfl trivial (fun w => RX.assignv (v := Value.int _ _) rfl) ?_
  refine JA.done (by kernel_rfl) ?_
  refine J.seq ?_
  refine J.seq ?_
  refine J.region ?_
  refine JL.go trivial (RX.movev (v := Value.int _ _) rfl) ?_
  refine JL.go trivial (RX.movev (v := Value.int _ _) rfl) ?_
  refine JL.go trivial (RX.gt rfl rfl) ?_
  refine JL.nil ?_
  refine J.cond_f rfl (decide_eq_false (by decide)) ?_
  refine J.skip ?_
  refine J.seq ?_
  refine J.seq ?_
  refine J.region ?_
  refine JL.go trivial (RX.movev (v := Value.int _ _) rfl) ?_
  refine JL.go trivial (RX.ne rfl rfl) ?_
  refine JL.nil ?_
  refine J.cond_f rfl (decide_eq_false (by simp)) ?_
  refine J.skip ?_
  refine J.seq ?_
  refine J.region ?_
  refine JL.go trivial (RX.movev (v := Value.slice _ _ _) rfl) ?_
  refine JL.does trivial (EX.call rfl cl53 rfl ((norm_b (ws := [x - y]) H (SlAt.here rfl) hle (by omega) (by simp)))) ?_
  rintro _ w ⟨i, rfl, hi, H⟩
  have h2 := nm1 hi (by omega)
  have hi1 := hi.1
  rw [show x - y = x - y from by rfl] at h2
  obtain ⟨rfl, h3⟩ := h2
  refine JL.go trivial (RX.assignv (v := Value.slice _ _ _) rfl) ?_
  refine JL.nil ?_
  refine J.ret1 (v := Value.slice _ _ _) Tryz.func40 rfl rfl ?_
  exact ⟨_, rfl, _, c, _, G, rfl, ownW_nm (l := l) ⟨rfl, h3⟩ hi1 (by simpa [u64sV] using hll), hG, H⟩
set_option maxHeartbeats 1600000 in
theorem sub21_b {w0 w : World} {L : List Seg} {g c0 x0 x1 y : Nat} {l0 : List Value} {l : List Value} (H : Hp w0 w ([(g, cel (.int .u64 (x0 : Int) :: .int .u64 (x1 : Int) :: l) 63)] :: L)) (hll : l.length + 2 = c0) {py : Option Addr} {c3 : Nat} (hs4 : SlAt ([(g, cel (.int .u64 (x0 : Int) :: .int .u64 (x1 : Int) :: l) 63)] :: L) py (u64sV [y])) (hp3 : ∀ a, py = some a → a.spot = none) (hc3 : 1 ≤ c3) (hx0 : x0 < 18446744073709551616) (hx1 : x1 < 18446744073709551616) (hx1p : 0 < x1) (hy : y < 18446744073709551616) : Ret Tryz.prog 40 [.slice (some ⟨g, 0, none⟩) 2 c0, .slice (some ⟨g, 0, none⟩) 2 c0, .slice py 1 c3] w fun v w' => ∃ q c s' G, v = .slice q (wd (x0 + x1 * 18446744073709551616 - y)).length c ∧ OwnW q (wd (x0 + x1 * 18446744073709551616 - y)) c s' ∧ Left [(g, cel (.int .u64 (x0 : Int) :: .int .u64 (x1 : Int) :: l) 63)] G ∧ Hp w0 w' (s' :: (G ++ L)) := by
  refine Calls.of_J (n := 59) Tryz.func40 rfl rfl rfl ?_
  refine J.seq ?_
  have hs2 : SlAt ([(g, cel (.int .u64 (x0 : Int) :: .int .u64 (x1 : Int) :: l) 63)] :: L) (some ⟨g, 0, none⟩) (u64sV [x0, x1]) := SlAt.here rfl
  refine J.region ?_
  refine JL.go trivial (RX.assign) ?_
  refine JL.nil ?_
  refine J.seq ?_
  refine J.region ?_
  refine JL.go trivial (RX.movev (v := Value.slice _ _ _) rfl) ?_
  refine JL.go trivial (RX.len_slice rfl (by rw [sl51]; rfl) rfl) ?_
  refine JL.go trivial (RX.assignv (v := Value.int _ _) rfl) ?_
  refine JL.nil ?_
  refine J.seq ?_
  refine J.region ?_
  refine JL.go trivial (RX.movev (v := Value.slice _ _ _) rfl) ?_
  refine JL.go trivial (RX.len_slice rfl (by rw [sl51]; rfl) rfl) ?_
  refine JL.go trivial (RX.assignv (v := Value.int _ _) rfl) ?_
  refine JL.nil ?_
  refine J.seq ?_
  refine J.block ?_
  refine J.seq ?_
  refine J.region ?_
  refine JL.go trivial (RX.movev (v := Value.int _ _) rfl) ?_
  refine JL.go trivial (RX.movev (v := Value.int _ _) rfl) ?_
  refine JL.go trivial (RX.lt rfl rfl) ?_
  refine JL.go trivial (RX.assignv (v := Value.bool _) rfl) ?_
  refine JL.nil ?_
  refine J.cond_f rfl (decide_eq_false (by decide)) ?_
  refine J.seq ?_
  refine J.region ?_
  refine JL.go trivial (RX.movev (v := Value.int _ _) rfl) ?_
  refine JL.go trivial (RX.eq rfl rfl) ?_
  refine JL.go trivial (RX.assignv (v := Value.bool _) rfl) ?_
  refine JL.nil ?_
  refine J.cond_f rfl (decide_eq_false (by decide)) ?_
  refine J.seq ?_
  refine J.region ?_
  refine JL.go trivial (RX.movev (v := Value.int _ _) rfl) ?_
  refine JL.go trivial (RX.eq rfl rfl) ?_
  refine JL.go trivial (RX.assignv (v := Value.bool _) rfl) ?_
  refine JL.nil ?_
  refine J.cond_f rfl (decide_eq_false (by decide)) ?_
  refine J.skip ?_
  refine J.inBlock ?_
  refine J.seq ?_
  refine J.region ?_
  refine JL.go trivial (RX.movev (v := Value.slice _ _ _) rfl) ?_
  refine JL.go trivial (RX.movev (v := Value.int _ _) rfl) ?_
  refine JL.does trivial (EX.call rfl cl50 rfl ((make_old (n := 2) H (by omega)))) ?_
  rintro _ w ⟨rfl, H⟩
  refine JL.go trivial (RX.assignv (v := Value.slice _ _ _) rfl) ?_
  refine JL.nil ?_
  refine J.seq ?_
  refine J.any hmix fun w hs => ?_
  replace H := H.same hs; clear hs
  refine JA.take 0 (listed' := [true, false, false, false, false, false, false, false, false, false, false]) rfl (by kernel_rfl) (by kernel_rfl) (by kernel_rfl) rfl trivial (fun w => RX.movev (v := Value.slice _ _ _) rfl) ?_
  refine JA.take 1 (listed' := [true, true, false, false, false, false, false, false, false, false, false]) rfl (by kernel_rfl) (by kernel_rfl) (by kernel_rfl) rfl trivial (fun w => RX.movev (v := Value.int _ _) rfl) ?_
  refine JA.take 2 (listed' := [true, true, true, false, false, false, false, false, false, false, false]) rfl (by kernel_rfl) (by kernel_rfl) (by kernel_rfl) rfl trivial (fun w => RX.slice_h rfl rfl sl51 (fun a ha => by cases ha; rfl) (by decide) (by omega) (r := 1) (by decide)) ?_
  refine JA.take 3 (listed' := [true, true, true, true, false, false, false, false, false, false, false]) rfl (by kernel_rfl) (by kernel_rfl) (by kernel_rfl) rfl trivial (fun w => RX.movev (v := Value.slice _ _ _) rfl) ?_
  refine JA.take 4 (listed' := [true, true, true, true, true, false, false, false, false, false, false]) rfl (by kernel_rfl) (by kernel_rfl) (by kernel_rfl) rfl trivial (fun w => RX.movev (v := Value.int _ _) rfl) ?_
  refine JA.take 5 (listed' := [true, true, true, true, true, true, false, false, false, false, false]) rfl (by kernel_rfl) (by kernel_rfl) (by kernel_rfl) rfl trivial (fun w => RX.slice_h rfl rfl sl51 (fun a ha => by cases ha; rfl) (by decide) (by omega) (r := 1) (by decide)) ?_
  refine JA.take 6 (listed' := [true, true, true, true, true, true, true, false, false, false, false]) rfl (by kernel_rfl) (by kernel_rfl) (by kernel_rfl) rfl trivial (fun w => RX.movev (v := Value.slice _ _ _) rfl) ?_
  refine JA.take 7 (listed' := [true, true, true, true, true, true, true, true, false, false, false]) rfl (by kernel_rfl) (by kernel_rfl) (by kernel_rfl) rfl trivial (fun w => RX.movev (v := Value.int _ _) rfl) ?_
  refine JA.take 8 (listed' := [true, true, true, true, true, true, true, true, true, false, false]) rfl (by kernel_rfl) (by kernel_rfl) (by kernel_rfl) rfl trivial (fun w => RX.slice_h rfl rfl sl51 hp3 (by decide) (by omega) (r := 1) (by decide)) ?_
  refine JA.all [9] (by kernel_rfl) (by decide) ?_
  refine JO.does (listed' := [true, true, true, true, true, true, true, true, true, true, false]) rfl rfl trivial (EX.callT rfl twSub rfl (subVV_b H (SlAt.pre (xs := u64sV [x0]) (ys := u64sV [x1]) hs2) hs4)) ?_
  rintro _ w ⟨rfl, H⟩
  generalize hbw : (if x0 < y then 1 else 0 : Nat) = bw
  have hbw1 : bw = 0 ∧ y ≤ x0 ∨ bw = 1 ∧ x0 < y := by split at hbw <;> omega
  refine JA.take 10 (listed' := [true, true, true, true, true, true, true, true, true, true, true]) rfl (by kernel_rfl) (by kernel_rfl) (by kernel_rfl) rfl trivial (fun w => RX.assignv (v := Value.int _ _) rfl) ?_
  refine JA.done (by kernel_rfl) ?_
  refine J.seq ?_
  refine J.seq ?_
  refine J.region ?_
  refine JL.go trivial (RX.movev (v := Value.int _ _) rfl) ?_
  refine JL.go trivial (RX.movev (v := Value.int _ _) rfl) ?_
  refine JL.go trivial (RX.gt rfl rfl) ?_
  refine JL.nil ?_
  refine J.cond_t rfl (decide_eq_true (by decide)) ?_
  refine J.any hmix fun w hs => ?_
  replace H := H.same hs; clear hs
  refine JA.take 0 (listed' := [true, false, false, false, false, false, false, false, false]) rfl (by kernel_rfl) (by kernel_rfl) (by kernel_rfl) rfl trivial (fun w => RX.movev (v := Value.slice _ _ _) rfl) ?_
  refine JA.take 1 (listed' := [true, true, false, false, false, false, false, false, false]) rfl (by kernel_rfl) (by kernel_rfl) (by kernel_rfl) rfl trivial (fun w => RX.movev (v := Value.int _ _) rfl) ?_
  refine JA.take 2 (listed' := [true, true, true, false, false, false, false, false, false]) rfl (by kernel_rfl) (by kernel_rfl) (by kernel_rfl) rfl trivial (fun w => RX.slice_l rfl rfl sl51 (fun a ha => by cases ha; rfl) (by decide) (by decide) (r := 1) rfl) ?_
  rw [behind_at (by omega)]
  refine JA.take 3 (listed' := [true, true, true, true, false, false, false, false, false]) rfl (by kernel_rfl) (by kernel_rfl) (by kernel_rfl) rfl trivial (fun w => RX.movev (v := Value.slice _ _ _) rfl) ?_
  refine JA.take 4 (listed' := [true, true, true, true, true, false, false, false, false]) rfl (by kernel_rfl) (by kernel_rfl) (by kernel_rfl) rfl trivial (fun w => RX.movev (v := Value.int _ _) rfl) ?_
  refine JA.take 5 (listed' := [true, true, true, true, true, true, false, false, false]) rfl (by kernel_rfl) (by kernel_rfl) (by kernel_rfl) rfl trivial (fun w => RX.slice_l rfl rfl sl51 (fun a ha => by cases ha; rfl) (by decide) (by decide) (r := 1) rfl) ?_
  rw [behind_at (by omega)]
  refine JA.take 6 (listed' := [true, true, true, true, true, true, true, false, false]) rfl (by kernel_rfl) (by kernel_rfl) (by kernel_rfl) rfl trivial (fun w => RX.movev (v := Value.int _ _) rfl) ?_
  refine JA.all [7] (by kernel_rfl) (by decide) ?_
  refine JO.does (listed' := [true, true, true, true, true, true, true, true, false]) rfl rfl trivial (EX.call rfl cl56 rfl ((subVW_b (k := bw) (C := #[]) (TC := 0) H (sl_next hs2) (fun _ => rfl) (.inl rfl) (by omega) (by omega) hx1))) ?_
  rintro _ w ⟨rfl, H⟩
  refine JA.take 8 (listed' := [true, true, true, true, true, true, true, true, true]) rfl (by kernel_rfl) (by kernel_rfl) (by kernel_rfl) rfl trivial (fun w => RX.assignv (v := Value.int _ _) rfl) ?_
  refine JA.done (by kernel_rfl) ?_
  refine J.seq ?_
  refine J.seq ?_
  refine J.region ?_
  refine JL.go trivial (RX.movev (v := Value.int _ _) rfl) ?_
  refine JL.go trivial (RX.ne rfl rfl) ?_
  refine JL.nil ?_
  refine J.cond_f rfl (decide_eq_false (by simp)) ?_
  refine J.skip ?_
  refine J.seq ?_
  have hle : 2 ≤ c0 := by omega
  refine J.region ?_
  refine JL.go trivial (RX.movev (v := Value.slice _ _ _) rfl) ?_
  refine JL.does trivial (EX.call rfl cl53 rfl ((norm_b (ws := [(x0 + 18446744073709551616 - y) % 18446744073709551616, x1 - bw]) H (SlAt.here rfl) hle (by omega) (by simp)))) ?_
  rintro _ w ⟨i, rfl, hi, H⟩
  have h2 := nm2 hi (Nat.mod_lt _ (by decide)) (by omega)
  have hi1 := hi.1
  rw [show (x0 + 18446744073709551616 - y) % 18446744073709551616 + (x1 - bw) * 18446744073709551616 = x0 + x1 * 18446744073709551616 - y from by omega] at h2
  obtain ⟨rfl, h3⟩ := h2
  refine JL.go trivial (RX.assignv (v := Value.slice _ _ _) rfl) ?_
  refine JL.nil ?_
  refine J.ret1 (v := Value.slice _ _ _) Tryz.func40 rfl rfl ?_
  exact ⟨_, rfl, _, c0, _, [], rfl, ownW_nm (l := l) ⟨rfl, h3⟩ hi1 (by simp [u64sV]; omega), .inl rfl, H⟩
set_option maxHeartbeats 1600000 in
theorem cmp1_b {w0 w : World} {F : List Seg} (H : Hp w0 w F) {px py : Option Addr} {c2 c3 x y : Nat} (hs : SlAt F px (u64sV [x])) (hs2 : SlAt F py (u64sV [y])) : Ret Tryz.prog 39 [.slice px 1 c2, .slice py 1 c3] w fun v w' => v = .int .i64 (if x < y then -1 else if y < x then 1 else 0) ∧ Hp w0 w' F := by
  refine Calls.of_J (n := 64) Tryz.func39 rfl rfl rfl ?_
  refine J.seq ?_
  obtain ⟨pb, po, rfl, hpp⟩ := hs.some (by rw [u64sV_len]; exact Nat.one_pos)
  obtain ⟨pb2, po2, rfl, hpp2⟩ := hs2.some (by rw [u64sV_len]; exact Nat.one_pos)
  refine J.region ?_
  refine JL.go trivial (RX.assign) ?_
  refine JL.nil ?_
  refine J.seq ?_
  refine J.region ?_
  refine JL.go trivial (RX.movev (v := Value.slice _ _ _) rfl) ?_
  refine JL.go trivial (RX.len_slice rfl (by rw [sl51]; rfl) rfl) ?_
  refine JL.go trivial (RX.assignv (v := Value.int _ _) rfl) ?_
  refine JL.nil ?_
  refine J.seq ?_
  refine J.region ?_
  refine JL.go trivial (RX.movev (v := Value.slice _ _ _) rfl) ?_
  refine JL.go trivial (RX.len_slice rfl (by rw [sl51]; rfl) rfl) ?_
  refine JL.go trivial (RX.assignv (v := Value.int _ _) rfl) ?_
  refine JL.nil ?_
  refine J.seq ?_
  refine J.seq ?_
  refine J.region ?_
  refine JL.go trivial (RX.movev (v := Value.int _ _) rfl) ?_
  refine JL.go trivial (RX.movev (v := Value.int _ _) rfl) ?_
  refine JL.go trivial (RX.ne rfl rfl) ?_
  refine JL.go trivial (RX.movev (v := Value.bool _) rfl) ?_
  refine JL.go ⟨_, rfl, rfl⟩ (RX.movev (v := Value.int _ _) rfl) ?_
  refine JL.go ⟨_, rfl, rfl⟩ (RX.eq rfl rfl) ?_
  refine JL.go trivial (RX.pick_f rfl rfl) ?_
  refine JL.nil ?_
  refine J.cond_f rfl rfl ?_
  refine J.skip ?_
  refine J.seq ?_
  refine J.region ?_
  refine JL.go trivial (RX.movev (v := Value.int _ _) rfl) ?_
  refine JL.go trivial (RX.sub rfl rfl (wi (n := 0) (by simp) (by decide))) ?_
  refine JL.go trivial (RX.assignv (v := Value.int _ _) rfl) ?_
  refine JL.nil ?_
  refine J.seq ?_
  refine J.block ?_
  refine J.unroll ?_
  refine J.seq ?_
  refine J.seq ?_
  refine J.quietH H hmix (by kernel_rfl) ?_
  refine JQ.go trivial (fun w H => RX.movev (v := Value.int _ _) rfl) ?_
  refine JQ.go trivial (fun w H => RX.gt rfl rfl) ?_
  refine JQ.go trivial (fun w H => RX.movev (v := Value.bool _) rfl) ?_
  refine JQ.no ⟨_, rfl, gno rfl⟩ ?_
  refine JQ.no ⟨_, rfl, gno rfl⟩ ?_
  refine JQ.no ⟨_, rfl, gno rfl⟩ ?_
  refine JQ.no ⟨_, rfl, gno rfl⟩ ?_
  refine JQ.no ⟨_, rfl, gno rfl⟩ ?_
  refine JQ.no ⟨_, rfl, gno rfl⟩ ?_
  refine JQ.no ⟨_, rfl, gno rfl⟩ ?_
  refine JQ.no ⟨_, rfl, gno rfl⟩ ?_
  refine JQ.no ⟨_, rfl, gno rfl⟩ ?_
  refine JQ.go trivial (fun w H => RX.pick_f rfl rfl) ?_
  refine JQ.nil fun w H => ?_
  refine J.cond_f rfl rfl ?_
  refine J.exit rfl ?_
  refine J.seq ?_
  refine J.block ?_
  refine J.seq ?_
  refine J.quietH H hmix (by kernel_rfl) ?_
  refine JQ.go trivial (fun w H => RX.movev (v := Value.slice _ _ _) rfl) ?_
  refine JQ.go trivial (fun w H => RX.movev (v := Value.int _ _) rfl) ?_
  refine JQ.go trivial (fun w H => RX.indexAddr rfl rfl sl51 (by omega) (by omega) (o' := po) (by omega)) ?_
  refine JQ.go trivial (fun w H => RX.loadS H hs rfl (j := 0) (by omega) (v := .int .u64 (x : Int)) rfl one63) ?_
  refine JQ.go trivial (fun w H => RX.movev (v := Value.slice _ _ _) rfl) ?_
  refine JQ.go trivial (fun w H => RX.movev (v := Value.int _ _) rfl) ?_
  refine JQ.go trivial (fun w H => RX.indexAddr rfl rfl sl51 (by omega) (by omega) (o' := po2) (by omega)) ?_
  refine JQ.go trivial (fun w H => RX.loadS H hs2 rfl (j := 0) (by omega) (v := .int .u64 (y : Int)) rfl one63) ?_
  refine JQ.go trivial (fun w H => RX.lt rfl rfl) ?_
  refine JQ.go trivial (fun w H => RX.assignv (v := Value.bool _) rfl) ?_
  refine JQ.nil fun w H => ?_
  refine J.cond_d rfl (fun h1 => ?_) (fun h1 => ?_)
  · skip
    refine J.region ?_
    refine JL.go trivial (RX.assign) ?_
    refine JL.nil ?_
    refine J.inBlock ?_
    refine J.ret1 (v := Value.int _ _) Tryz.func39 rfl rfl ?_
    exact ⟨_, rfl, by rw [if_pos (by omega)], H⟩
  · skip
    refine J.seq ?_
    refine J.quietH H hmix (by kernel_rfl) ?_
    refine JQ.go trivial (fun w H => RX.movev (v := Value.slice _ _ _) rfl) ?_
    refine JQ.go trivial (fun w H => RX.movev (v := Value.int _ _) rfl) ?_
    refine JQ.go trivial (fun w H => RX.indexAddr rfl rfl sl51 (by omega) (by omega) (o' := po) (by omega)) ?_
    refine JQ.go trivial (fun w H => RX.loadS H hs rfl (j := 0) (by omega) (v := .int .u64 (x : Int)) rfl one63) ?_
    refine JQ.go trivial (fun w H => RX.movev (v := Value.slice _ _ _) rfl) ?_
    refine JQ.go trivial (fun w H => RX.movev (v := Value.int _ _) rfl) ?_
    refine JQ.go trivial (fun w H => RX.indexAddr rfl rfl sl51 (by omega) (by omega) (o' := po2) (by omega)) ?_
    refine JQ.go trivial (fun w H => RX.loadS H hs2 rfl (j := 0) (by omega) (v := .int .u64 (y : Int)) rfl one63) ?_
    refine JQ.go trivial (fun w H => RX.gt rfl rfl) ?_
    refine JQ.go trivial (fun w H => RX.assignv (v := Value.bool _) rfl) ?_
    refine JQ.nil fun w H => ?_
    refine J.cond_d rfl (fun h2 => ?_) (fun h2 => ?_)
    · skip
      refine J.region ?_
      refine JL.go trivial (RX.assign) ?_
      refine JL.nil ?_
      refine J.inBlock ?_
      refine J.ret1 (v := Value.int _ _) Tryz.func39 rfl rfl ?_
      exact ⟨_, rfl, by rw [if_neg (by omega), if_pos (by omega)], H⟩
    · skip
      refine J.skip ?_
      refine J.inBlock ?_
      refine J.ret1 (v := Value.int _ _) Tryz.func39 rfl rfl ?_
      exact ⟨_, rfl, by rw [if_neg (by omega), if_neg (by omega)], H⟩
set_option maxHeartbeats 1600000 in
theorem cmpLen_b {w0 w : World} {F : List Seg} (H : Hp w0 w F) {px py : Option Addr} {m n c2 c3 : Nat} (hmn : m ≠ n ∨ m = 0) : Ret Tryz.prog 39 [.slice px m c2, .slice py n c3] w fun v w' => v = .int .i64 (if m < n then -1 else if n < m then 1 else 0) ∧ Hp w0 w' F := by
  refine Calls.of_J (n := 64) Tryz.func39 rfl rfl rfl ?_
  refine J.seq ?_
  refine J.region ?_
  refine JL.go trivial (RX.assign) ?_
  refine JL.nil ?_
  refine J.seq ?_
  refine J.region ?_
  refine JL.go trivial (RX.movev (v := Value.slice _ _ _) rfl) ?_
  refine JL.go trivial (RX.len_slice rfl (by rw [sl51]; rfl) rfl) ?_
  refine JL.go trivial (RX.assignv (v := Value.int _ _) rfl) ?_
  refine JL.nil ?_
  refine J.seq ?_
  refine J.region ?_
  refine JL.go trivial (RX.movev (v := Value.slice _ _ _) rfl) ?_
  refine JL.go trivial (RX.len_slice rfl (by rw [sl51]; rfl) rfl) ?_
  refine JL.go trivial (RX.assignv (v := Value.int _ _) rfl) ?_
  refine JL.nil ?_
  refine J.seq ?_
  refine J.seq ?_
  refine J.region ?_
  refine JL.go trivial (RX.movev (v := Value.int _ _) rfl) ?_
  refine JL.go trivial (RX.movev (v := Value.int _ _) rfl) ?_
  refine JL.go trivial (RX.ne rfl rfl) ?_
  refine JL.go trivial (RX.movev (v := Value.bool _) rfl) ?_
  refine JL.splitS 15 rfl (fun hg => ?_) (fun hg => ?_)
  · skip
    first | have hgp := of_decide_eq_true hg | skip
    refine JL.no ⟨_, rfl, gno hg⟩ ?_
    refine JL.no ⟨_, rfl, gno hg⟩ ?_
    refine JL.go trivial (RX.pick_t rfl hg) ?_
    refine JL.nil ?_
    refine J.cond_t rfl rfl ?_
    refine J.seq ?_
    refine J.block ?_
    refine J.seq ?_
    refine J.region ?_
    refine JL.go trivial (RX.movev (v := Value.int _ _) rfl) ?_
    refine JL.go trivial (RX.movev (v := Value.int _ _) rfl) ?_
    refine JL.go trivial (RX.lt rfl rfl) ?_
    refine JL.go trivial (RX.assignv (v := Value.bool _) rfl) ?_
    refine JL.nil ?_
    refine J.cond_d rfl (fun h1 => ?_) (fun h1 => ?_)
    · skip
      refine J.region ?_
      refine JL.go trivial (RX.assign) ?_
      refine JL.nil ?_
      refine J.inBlock ?_
      refine J.ret1 (v := Value.int _ _) Tryz.func39 rfl rfl ?_
      refine ⟨_, rfl, ?_, H⟩
      first
        | (rw [if_pos (by omega)]; done)
        | (rw [if_neg (by omega), if_pos (by omega)]; done)
        | (rw [if_neg (by omega), if_neg (by omega)]; done)
    · skip
      refine J.seq ?_
      refine J.region ?_
      refine JL.go trivial (RX.movev (v := Value.int _ _) rfl) ?_
      refine JL.go trivial (RX.movev (v := Value.int _ _) rfl) ?_
      refine JL.go trivial (RX.gt rfl rfl) ?_
      refine JL.go trivial (RX.assignv (v := Value.bool _) rfl) ?_
      refine JL.nil ?_
      refine J.cond_d rfl (fun h2 => ?_) (fun h2 => ?_)
      · skip
        refine J.region ?_
        refine JL.go trivial (RX.assign) ?_
        refine JL.nil ?_
        refine J.inBlock ?_
        refine J.ret1 (v := Value.int _ _) Tryz.func39 rfl rfl ?_
        refine ⟨_, rfl, ?_, H⟩
        first
          | (rw [if_pos (by omega)]; done)
          | (rw [if_neg (by omega), if_pos (by omega)]; done)
          | (rw [if_neg (by omega), if_neg (by omega)]; done)
      · skip
        refine J.skip ?_
        refine J.inBlock ?_
        refine J.ret1 (v := Value.int _ _) Tryz.func39 rfl rfl ?_
        refine ⟨_, rfl, ?_, H⟩
        first
          | (rw [if_pos (by omega)]; done)
          | (rw [if_neg (by omega), if_pos (by omega)]; done)
          | (rw [if_neg (by omega), if_neg (by omega)]; done)
  · skip
    first | have hgp := of_decide_eq_false hg | skip
    refine JL.go ⟨_, rfl, hg⟩ (RX.movev (v := Value.int _ _) rfl) ?_
    refine JL.go ⟨_, rfl, hg⟩ (RX.eq rfl rfl) ?_
    refine JL.go trivial (RX.pick_f rfl hg) ?_
    refine JL.nil ?_
    refine J.cond_t rfl (decide_eq_true (by omega)) ?_
    refine J.seq ?_
    refine J.block ?_
    refine J.seq ?_
    refine J.region ?_
    refine JL.go trivial (RX.movev (v := Value.int _ _) rfl) ?_
    refine JL.go trivial (RX.movev (v := Value.int _ _) rfl) ?_
    refine JL.go trivial (RX.lt rfl rfl) ?_
    refine JL.go trivial (RX.assignv (v := Value.bool _) rfl) ?_
    refine JL.nil ?_
    refine J.cond_d rfl (fun h1 => ?_) (fun h1 => ?_)
    · skip
      refine J.region ?_
      refine JL.go trivial (RX.assign) ?_
      refine JL.nil ?_
      refine J.inBlock ?_
      refine J.ret1 (v := Value.int _ _) Tryz.func39 rfl rfl ?_
      refine ⟨_, rfl, ?_, H⟩
      first
        | (rw [if_pos (by omega)]; done)
        | (rw [if_neg (by omega), if_pos (by omega)]; done)
        | (rw [if_neg (by omega), if_neg (by omega)]; done)
    · skip
      refine J.seq ?_
      refine J.region ?_
      refine JL.go trivial (RX.movev (v := Value.int _ _) rfl) ?_
      refine JL.go trivial (RX.movev (v := Value.int _ _) rfl) ?_
      refine JL.go trivial (RX.gt rfl rfl) ?_
      refine JL.go trivial (RX.assignv (v := Value.bool _) rfl) ?_
      refine JL.nil ?_
      refine J.cond_d rfl (fun h2 => ?_) (fun h2 => ?_)
      · skip
        refine J.region ?_
        refine JL.go trivial (RX.assign) ?_
        refine JL.nil ?_
        refine J.inBlock ?_
        refine J.ret1 (v := Value.int _ _) Tryz.func39 rfl rfl ?_
        refine ⟨_, rfl, ?_, H⟩
        first
          | (rw [if_pos (by omega)]; done)
          | (rw [if_neg (by omega), if_pos (by omega)]; done)
          | (rw [if_neg (by omega), if_neg (by omega)]; done)
      · skip
        refine J.skip ?_
        refine J.inBlock ?_
        refine J.ret1 (v := Value.int _ _) Tryz.func39 rfl rfl ?_
        refine ⟨_, rfl, ?_, H⟩
        first
          | (rw [if_pos (by omega)]; done)
          | (rw [if_neg (by omega), if_pos (by omega)]; done)
          | (rw [if_neg (by omega), if_neg (by omega)]; done)
end Go.Proofs.YtfpphoapknecfaaGreatDoorBesafter

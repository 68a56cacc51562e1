/- Numbers of several words in math/big: sums, differences, products. math/big.Int with several words: sums, words. Products of numbers of one word in math/big. -/
import Derived.Test.YtfpphoapknecfaaGreatDoorBesafterBn
namespace Go.Proofs.YtfpphoapknecfaaGreatDoorBesafter
open Go Go.Eng
set_option maxRecDepth 100000
set_option linter.unusedVariables false
set_option linter.unusedSimpArgs false
namespace Nn
set_option maxHeartbeats 1600000 in
theorem make_newN {w0 w : World} {F : List Seg} (H : Hp w0 w F) {p : Option Addr} {n m c : Nat} (hn : c < n) (hn1 : 1 ≤ n) (hn2 : n ≤ 9) : Ret Tryz.prog 50 [.slice p m c, .int .i64 ((n : Nat) : Int)] w fun v w' => ∃ b c', v = .slice (some ⟨b, 0, none⟩) n c' ∧ n ≤ c' ∧ Hp w0 w' ([(b, cel (fnL (fun _ => Value.int .u64 0) c') 63)] :: F) := by
  refine Calls.of_J (n := 19) Tryz.func50 rfl rfl rfl ?_
  refine J.seq ?_
  refine J.region ?_
  refine JL.go trivial (RX.assign) ?_
  refine JL.nil ?_
  refine J.seq ?_
  refine J.seq ?_
  refine J.region ?_
  refine JL.go trivial (RX.movev (v := Value.int _ _) rfl) ?_
  refine JL.go trivial (RX.movev (v := Value.slice _ _ _) rfl) ?_
  refine JL.go trivial (RX.cap_slice rfl (by rw [sl51]; rfl) rfl) ?_
  refine JL.go trivial (RX.le rfl rfl) ?_
  refine JL.nil ?_
  refine J.cond_f rfl (decide_eq_false (by omega)) ?_
  refine J.skip ?_
  refine J.seq ?_
  refine J.seq ?_
  refine J.region ?_
  refine JL.go trivial (RX.movev (v := Value.int _ _) rfl) ?_
  refine JL.go trivial (RX.eq rfl rfl) ?_
  refine JL.nil ?_
  refine J.cond_d rfl (fun h1 => ?_) (fun h1 => ?_)
  · skip
    obtain rfl : n = 1 := by omega
    refine J.seq ?_
    refine J.region ?_
    refine JL.does trivial (EX.makeS2 (e := 63) (m := 1) (c := 1) H mkW.1 mkW.2 rfl rfl rfl rfl rfl (by decide) (by decide) (by decide)) ?_
    rintro _ w ⟨b1, rfl, H⟩
    refine JL.go trivial (RX.assignv (v := Value.slice _ _ _) rfl) ?_
    refine JL.nil ?_
    refine J.ret1 (v := Value.slice _ _ _) Tryz.func50 rfl rfl ?_
    exact ⟨_, rfl, b1, 1, rfl, by decide, H⟩
  · skip
    refine J.skip ?_
    refine J.seq ?_
    refine J.region ?_
    refine JL.go trivial (RX.movev (v := Value.int _ _) rfl) ?_
    refine JL.go trivial (RX.movev (v := Value.int _ _) rfl) ?_
    refine JL.go trivial (RX.add rfl rfl (wi (n := n + 4) (by omega) (by omega))) ?_
    refine JL.does trivial (EX.makeS2 (e := 63) (m := n) (c := n + 4) H mkW.1 mkW.2 rfl rfl rfl rfl rfl (by omega) (by omega) (by omega)) ?_
    rintro _ w ⟨b1, rfl, H⟩
    refine JL.go trivial (RX.assignv (v := Value.slice _ _ _) rfl) ?_
    refine JL.nil ?_
    refine J.ret1 (v := Value.slice _ _ _) Tryz.func50 rfl rfl ?_
    exact ⟨_, rfl, b1, n + 4, rfl, by omega, H⟩

theorem make_c {w0 w : World} {s0 : Seg} {L : List Seg} (H : Hp w0 w (s0 :: L)) {q0 : Option Addr} {ws : List Nat} {c0 n : Nat} (ho : OwnW q0 ws c0 s0) (hn1 : 1 ≤ n) (hn2 : n ≤ 9) : Ret Tryz.prog 50 [.slice q0 ws.length c0, .int .i64 (n : Int)] w fun v w' =>
    ∃ q l c G, v = .slice (some ⟨q, 0, none⟩) n c ∧ n ≤ c ∧ l.length = c ∧ Left s0 G ∧ Hp w0 w' ([(q, cel l 63)] :: (G ++ L)) ∧ (∀ p xs c2, RowAt (s0 :: L) p xs c2 → RowAt ([(q, cel l 63)] :: (G ++ L)) p xs c2) := by
  by_cases hc : n ≤ c0
  · obtain ⟨_, ⟨_, _, h, _⟩ | ⟨g, l, rfl, rfl, _, hl, _⟩⟩ := ho
    · omega
    · refine Ret.mono (make_old H hc) ?_
      rintro v w' ⟨rfl, H⟩
      exact ⟨g, l, c0, [], rfl, hc, by rw [hl, Nat.mul_one], .inl rfl, H, fun _ _ _ h => h⟩
  · refine Ret.mono (make_newN H (by omega) hn1 hn2) ?_
    rintro v w' ⟨b, c, rfl, hle, H⟩
    exact ⟨b, _, c, [s0], rfl, hle, fnL_len, .inr rfl, H, fun _ _ _ h => h.cons⟩

set_option maxHeartbeats 1600000 in
theorem addG_b {w0 w : World} {s0 : Seg} {L : List Seg} (H : Hp w0 w (s0 :: L)) {q0 : Option Addr} {ws : List Nat} {c0 : Nat} (ho : OwnW q0 ws c0 s0) {px py : Option Addr} {c2 c3 : Nat} {xs ys : List Nat} (hX : RowAt (s0 :: L) px xs c2) (hY : RowAt (s0 :: L) py ys c3) (hwx : ∀ z ∈ xs, z < 18446744073709551616) (hwy : ∀ z ∈ ys, z < 18446744073709551616) (hn : 1 ≤ ys.length) (hm : ys.length ≤ xs.length) (hm4 : xs.length ≤ 4) : Ret Tryz.prog 38 [.slice q0 ws.length c0, .slice px xs.length c2, .slice py ys.length c3] w fun v w' => ∃ q c s' G, v = .slice q (wd (val xs + val ys)).length c ∧ OwnW q (wd (val xs + val ys)) c s' ∧ Left s0 G ∧ Hp w0 w' (s' :: (G ++ L)) := by
  refine Calls.of_J (n := 65) Tryz.func38 rfl rfl rfl ?_
  refine J.seq ?_
  refine J.region ?_
  refine JL.go trivial (RX.assign) ?_
  refine JL.nil ?_
  refine J.seq ?_
  refine J.region ?_
  refine JL.go trivial (RX.movev (v := Value.slice _ _ _) rfl) ?_
  refine JL.go trivial (RX.len_slice rfl (by rw [sl51]; rfl) rfl) ?_
  refine JL.go trivial (RX.assignv (v := Value.int _ _) rfl) ?_
  refine JL.nil ?_
  refine J.seq ?_
  refine J.region ?_
  refine JL.go trivial (RX.movev (v := Value.slice _ _ _) rfl) ?_
  refine JL.go trivial (RX.len_slice rfl (by rw [sl51]; rfl) rfl) ?_
  refine JL.go trivial (RX.assignv (v := Value.int _ _) rfl) ?_
  refine JL.nil ?_
  refine J.seq ?_
  refine J.block ?_
  refine J.seq ?_
  refine J.region ?_
  refine JL.go trivial (RX.movev (v := Value.int _ _) rfl) ?_
  refine JL.go trivial (RX.movev (v := Value.int _ _) rfl) ?_
  refine JL.go trivial (RX.lt rfl rfl) ?_
  refine JL.go trivial (RX.assignv (v := Value.bool _) rfl) ?_
  refine JL.nil ?_
  refine J.cond_f rfl (decide_eq_false (by omega)) ?_
  refine J.seq ?_
  refine J.region ?_
  refine JL.go trivial (RX.movev (v := Value.int _ _) rfl) ?_
  refine JL.go trivial (RX.eq rfl rfl) ?_
  refine JL.go trivial (RX.assignv (v := Value.bool _) rfl) ?_
  refine JL.nil ?_
  refine J.cond_f rfl (decide_eq_false (by omega)) ?_
  refine J.seq ?_
  refine J.region ?_
  refine JL.go trivial (RX.movev (v := Value.int _ _) rfl) ?_
  refine JL.go trivial (RX.eq rfl rfl) ?_
  refine JL.go trivial (RX.assignv (v := Value.bool _) rfl) ?_
  refine JL.nil ?_
  refine J.cond_f rfl (decide_eq_false (by omega)) ?_
  refine J.skip ?_
  refine J.inBlock ?_
  refine J.seq ?_
  refine J.region ?_
  refine JL.go trivial (RX.movev (v := Value.slice _ _ _) rfl) ?_
  refine JL.go trivial (RX.movev (v := Value.int _ _) rfl) ?_
  refine JL.go trivial (RX.add rfl rfl (wi (n := xs.length + 1) (by omega) (by omega))) ?_
  refine JL.does trivial (EX.call rfl cl50 rfl ((make_c H ho (by omega) (by omega)))) ?_
  rintro _ w ⟨q, l, c, G, rfl, hle, hll, hG, H, hk⟩
  have hX2 := hk _ _ _ hX
  have hY2 := hk _ _ _ hY
  obtain ⟨xb, CX, TX, rfl, hxm⟩ := hX2.2.2.2 (by omega)
  have hxc := hX2.1
  have hyc := hY2.1
  have htk : (xs.take ys.length).length = ys.length := by simp; omega
  have hpx : SlAt ([(q, cel (l) 63)] :: (G ++ L)) (some ⟨xb, 0, none⟩) (u64sV (xs.take ys.length)) := by rw [u64sV_take]; exact hX2.2.2.1.take
  refine JL.go trivial (RX.assignv (v := Value.slice _ _ _) rfl) ?_
  refine JL.nil ?_
  refine J.seq ?_
  refine J.any hmix fun w hs => ?_
  replace H := H.same hs; clear hs
  refine JA.take 0 (listed' := [true, false, false, false, false, false, false, false, false, false, false]) rfl (by kernel_rfl) (by kernel_rfl) (by kernel_rfl) rfl trivial (fun w => RX.movev (v := Value.slice _ _ _) rfl) ?_
  refine JA.take 1 (listed' := [true, true, false, false, false, false, false, false, false, false, false]) rfl (by kernel_rfl) (by kernel_rfl) (by kernel_rfl) rfl trivial (fun w => RX.movev (v := Value.int _ _) rfl) ?_
  refine JA.take 2 (listed' := [true, true, true, false, false, false, false, false, false, false, false]) rfl (by kernel_rfl) (by kernel_rfl) (by kernel_rfl) rfl trivial (fun w => RX.slice_h rfl rfl sl51 (fun a ha => by cases ha; rfl) (by omega) (by omega) (r := ys.length) (by omega)) ?_
  refine JA.take 3 (listed' := [true, true, true, true, false, false, false, false, false, false, false]) rfl (by kernel_rfl) (by kernel_rfl) (by kernel_rfl) rfl trivial (fun w => RX.movev (v := Value.slice _ _ _) rfl) ?_
  refine JA.take 4 (listed' := [true, true, true, true, true, false, false, false, false, false, false]) rfl (by kernel_rfl) (by kernel_rfl) (by kernel_rfl) rfl trivial (fun w => RX.movev (v := Value.int _ _) rfl) ?_
  refine JA.take 5 (listed' := [true, true, true, true, true, true, false, false, false, false, false]) rfl (by kernel_rfl) (by kernel_rfl) (by kernel_rfl) rfl trivial (fun w => RX.slice_h rfl rfl sl51 hX2.2.1 (by omega) (by omega) (r := ys.length) (by omega)) ?_
  refine JA.take 6 (listed' := [true, true, true, true, true, true, true, false, false, false, false]) rfl (by kernel_rfl) (by kernel_rfl) (by kernel_rfl) rfl trivial (fun w => RX.movev (v := Value.slice _ _ _) rfl) ?_
  refine JA.take 7 (listed' := [true, true, true, true, true, true, true, true, false, false, false]) rfl (by kernel_rfl) (by kernel_rfl) (by kernel_rfl) rfl trivial (fun w => RX.movev (v := Value.int _ _) rfl) ?_
  refine JA.take 8 (listed' := [true, true, true, true, true, true, true, true, true, false, false]) rfl (by kernel_rfl) (by kernel_rfl) (by kernel_rfl) rfl trivial (fun w => RX.slice_h rfl rfl sl51 hY2.2.1 (by omega) (by omega) (r := ys.length) (by omega)) ?_
  refine JA.all [9] (by kernel_rfl) (by decide) ?_
  refine JO.does (listed' := [true, true, true, true, true, true, true, true, true, true, false]) rfl rfl trivial (EX.callT rfl twAdd rfl (addVV_b (n := ys.length) (xs := xs.take ys.length) (ys := ys) H (by omega) (by omega) (by omega) hpx hY2.2.2.1 htk rfl (fun z hz => hwx z (List.mem_of_mem_take hz)) hwy)) ?_
  rintro _ w ⟨rfl, H⟩
  generalize hAe : adW 0 (xs.take ys.length) ys = A at H
  generalize hke : adC 0 (xs.take ys.length) ys = k
  have hA := ad_val (xs := xs.take ys.length) (ys := ys) (c := 0) htk
  have hkc := adC_le (xs := xs.take ys.length) (ys := ys) (c := 0) (fun z hz => hwx z (List.mem_of_mem_take hz)) hwy (by decide)
  rw [hAe, hke, htk] at hA
  rw [hke] at hkc
  obtain ⟨hAl, hAw, hAv⟩ := hA
  refine JA.take 10 (listed' := [true, true, true, true, true, true, true, true, true, true, true]) rfl (by kernel_rfl) (by kernel_rfl) (by kernel_rfl) rfl trivial (fun w => RX.assignv (v := Value.int _ _) rfl) ?_
  refine JA.done (by kernel_rfl) ?_
  refine J.seq ?_
  refine J.seq ?_
  refine J.region ?_
  refine JL.go trivial (RX.movev (v := Value.int _ _) rfl) ?_
  refine JL.go trivial (RX.movev (v := Value.int _ _) rfl) ?_
  refine JL.go trivial (RX.gt rfl rfl) ?_
  refine JL.nil ?_
  refine J.cond_d rfl (fun hgt => ?_) (fun hgt => ?_)
  · skip
    have htl : SlAt ([(q, cel (RW l 0 A) 63)] :: (G ++ L)) (some ⟨xb, ys.length, none⟩) (u64sV (xs.drop ys.length)) := by
      have := tail_at (o := 0) (n := ys.length) (l := RW l 0 A) hX2.2.2.1 (fun _ => Nat.zero_le _) (fun j hj => RW_get (by omega) (by omega))
      rwa [Nat.zero_add] at this
    have hmb : xb = q ∨ ∃ C T, (xb, Obj.cells C T (0, 0)) ∈ (G ++ L).flatten := by
      rw [List.flatten_cons, List.mem_append] at hxm
      rcases hxm with h | h
      · simp only [List.mem_singleton, Prod.mk.injEq] at h
        exact .inl h.1
      · exact .inr ⟨_, _, h⟩
    refine J.any hmix fun w hs => ?_
    replace H := H.same hs; clear hs
    refine JA.take 0 (listed' := [true, false, false, false, false, false, false, false, false, false]) rfl (by kernel_rfl) (by kernel_rfl) (by kernel_rfl) rfl trivial (fun w => RX.movev (v := Value.slice _ _ _) rfl) ?_
    refine JA.take 1 (listed' := [true, true, false, false, false, false, false, false, false, false]) rfl (by kernel_rfl) (by kernel_rfl) (by kernel_rfl) rfl trivial (fun w => RX.movev (v := Value.int _ _) rfl) ?_
    refine JA.take 2 (listed' := [true, true, true, false, false, false, false, false, false, false]) rfl (by kernel_rfl) (by kernel_rfl) (by kernel_rfl) rfl trivial (fun w => RX.movev (v := Value.int _ _) rfl) ?_
    refine JA.take 3 (listed' := [true, true, true, true, false, false, false, false, false, false]) rfl (by kernel_rfl) (by kernel_rfl) (by kernel_rfl) rfl trivial (fun w => RX.slice_lh rfl rfl rfl sl51 (fun a ha => by cases ha; rfl) (by omega) (by omega) (by omega) (r := ys.length) (s := xs.length) (by omega) (by omega)) ?_
    rw [behind_at (by omega), Nat.zero_add]
    refine JA.take 4 (listed' := [true, true, true, true, true, false, false, false, false, false]) rfl (by kernel_rfl) (by kernel_rfl) (by kernel_rfl) rfl trivial (fun w => RX.movev (v := Value.slice _ _ _) rfl) ?_
    refine JA.take 5 (listed' := [true, true, true, true, true, true, false, false, false, false]) rfl (by kernel_rfl) (by kernel_rfl) (by kernel_rfl) rfl trivial (fun w => RX.movev (v := Value.int _ _) rfl) ?_
    refine JA.take 6 (listed' := [true, true, true, true, true, true, true, false, false, false]) rfl (by kernel_rfl) (by kernel_rfl) (by kernel_rfl) rfl trivial (fun w => RX.slice_l rfl rfl sl51 (fun a ha => by cases ha; rfl) (by omega) (by omega) (r := ys.length) (by omega)) ?_
    rw [behind_at (by omega), Nat.zero_add]
    refine JA.take 7 (listed' := [true, true, true, true, true, true, true, true, false, false]) rfl (by kernel_rfl) (by kernel_rfl) (by kernel_rfl) rfl trivial (fun w => RX.movev (v := Value.int _ _) rfl) ?_
    refine JA.all [8] (by kernel_rfl) (by decide) ?_
    refine JO.does (listed' := [true, true, true, true, true, true, true, true, true, false]) rfl rfl trivial (EX.call rfl cl52 rfl ((addVW_b (n := xs.length - ys.length) (k := k) (xs := xs.drop ys.length) H (by simp) (by omega) (by omega) (by rw [RW_len (by omega)]; omega) htl (fun _ => rfl) hmb (fun z hz => hwx z (List.mem_of_mem_drop hz)) hkc (by omega) (by omega)))) ?_
    rintro _ w ⟨rfl, H⟩
    have hK := adK_val (xs := xs.drop ys.length) (k := k)
    generalize adK k (xs.drop ys.length) = K at H hK
    have hk2 := adKC_le (xs := xs.drop ys.length) (fun z hz => hwx z (List.mem_of_mem_drop hz)) hkc
    generalize adKC k (xs.drop ys.length) = k2 at hK hk2 ⊢
    obtain ⟨hKl, hKw, hKv⟩ := hK
    rw [List.length_drop] at hKl hKv
    rw [← hAl, RW_RW (by omega)] at H
    have hWl : (A ++ K).length = xs.length := by simp; omega
    have hV := add_join hm hAl (by simpa using hAv) hKv hKl
    rw [← List.append_assoc] at hV
    have hWw : ∀ z ∈ A ++ K, z < 18446744073709551616 := fun z hz => by rcases List.mem_append.1 hz with h | h; exact hAw z h; exact hKw z h
    generalize A ++ K = W at H hWl hV hWw
    refine JA.take 9 (listed' := [true, true, true, true, true, true, true, true, true, true]) rfl (by kernel_rfl) (by kernel_rfl) (by kernel_rfl) rfl trivial (fun w => RX.assignv (v := Value.int _ _) rfl) ?_
    refine JA.done (by kernel_rfl) ?_
    refine J.seq ?_
    refine J.region ?_
    refine JL.go trivial (RX.movev (v := Value.slice _ _ _) rfl) ?_
    refine JL.go trivial (RX.movev (v := Value.int _ _) rfl) ?_
    refine JL.go trivial (RX.movev (v := Value.int _ _) rfl) ?_
    refine JL.go trivial (RX.indexAddr rfl rfl sl51 (by omega) (by omega) (o' := xs.length) (by omega)) ?_
    refine JL.does trivial (EX.store (v := Value.int _ _) H rfl rfl (i := 0) rfl rfl (by rw [RW_len (by omega)]; omega) sz63 rfl rfl) ?_
    rintro _ w H
    refine JL.nil ?_
    simp only [List.set_cons_zero] at H
    have hset := RW_set (l := l) (o := 0) (W := W) (v := k2) (by omega)
    rw [Nat.zero_add, hWl] at hset
    rw [hset] at H
    have hl1 : (W ++ [k2] : List Nat).length = xs.length + 1 := by simp; omega
    refine J.seq ?_
    refine J.region ?_
    refine JL.go trivial (RX.movev (v := Value.slice _ _ _) rfl) ?_
    refine JL.does trivial (EX.call rfl cl53 rfl ((show Ret _ _ [.slice (some ⟨q, 0, none⟩) (xs.length + 1) c] w _ by rw [← hl1]; exact norm_b (ws := W ++ [k2]) H (SlAt.here (by rw [u64sV_len, RW_take (Nat.le_refl _), List.take_length])) (by omega) (by omega) (by omega)))) ?_
    rintro _ w ⟨i, rfl, hi, H⟩
    have hz := nmL hi (fun z hz => by
      rcases List.mem_append.1 hz with h | h
      · exact hWw z h
      · rw [List.mem_singleton.1 h]; omega) (by omega)
    rw [hV] at hz
    refine JL.go trivial (RX.assignv (v := Value.slice _ _ _) rfl) ?_
    refine JL.nil ?_
    refine J.ret1 (v := Value.slice _ _ _) Tryz.func38 rfl rfl ?_
    obtain ⟨rfl, hz2⟩ := hz
    exact ⟨_, rfl, _, c, _, G, rfl, ownW_RW ⟨rfl, hz2⟩ hi.1 hll (by omega), hG, H⟩
  · skip
    have hWl : A.length = xs.length := by omega
    have hV := add_join (K := []) (k2 := k) hm hAl (by simpa using hAv) (by rw [List.drop_eq_nil_of_le (by omega), show xs.length - ys.length = 0 by omega]; simp [val]) (by simp; omega)
    rw [List.nil_append] at hV
    have hWw := hAw
    refine J.skip ?_
    refine J.seq ?_
    refine J.region ?_
    refine JL.go trivial (RX.movev (v := Value.slice _ _ _) rfl) ?_
    refine JL.go trivial (RX.movev (v := Value.int _ _) rfl) ?_
    refine JL.go trivial (RX.movev (v := Value.int _ _) rfl) ?_
    refine JL.go trivial (RX.indexAddr rfl rfl sl51 (by omega) (by omega) (o' := xs.length) (by omega)) ?_
    refine JL.does trivial (EX.store (v := Value.int _ _) H rfl rfl (i := 0) rfl rfl (by rw [RW_len (by omega)]; omega) sz63 rfl rfl) ?_
    rintro _ w H
    refine JL.nil ?_
    simp only [List.set_cons_zero] at H
    have hset := RW_set (l := l) (o := 0) (W := A) (v := k) (by omega)
    rw [Nat.zero_add, hWl] at hset
    rw [hset] at H
    have hl1 : (A ++ [k] : List Nat).length = xs.length + 1 := by simp; omega
    refine J.seq ?_
    refine J.region ?_
    refine JL.go trivial (RX.movev (v := Value.slice _ _ _) rfl) ?_
    refine JL.does trivial (EX.call rfl cl53 rfl ((show Ret _ _ [.slice (some ⟨q, 0, none⟩) (xs.length + 1) c] w _ by rw [← hl1]; exact norm_b (ws := A ++ [k]) H (SlAt.here (by rw [u64sV_len, RW_take (Nat.le_refl _), List.take_length])) (by omega) (by omega) (by omega)))) ?_
    rintro _ w ⟨i, rfl, hi, H⟩
    have hz := nmL hi (fun z hz => by
      rcases List.mem_append.1 hz with h | h
      · exact hWw z h
      · rw [List.mem_singleton.1 h]; omega) (by omega)
    rw [hV] at hz
    refine JL.go trivial (RX.assignv (v := Value.slice _ _ _) rfl) ?_
    refine JL.nil ?_
    refine J.ret1 (v := Value.slice _ _ _) Tryz.func38 rfl rfl ?_
    obtain ⟨rfl, hz2⟩ := hz
    exact ⟨_, rfl, _, c, _, G, rfl, ownW_RW ⟨rfl, hz2⟩ hi.1 hll (by omega), hG, H⟩
set_option maxHeartbeats 1600000 in
theorem subG_b {w0 w : World} {s0 : Seg} {L : List Seg} (H : Hp w0 w (s0 :: L)) {q0 : Option Addr} {ws : List Nat} {c0 : Nat} (ho : OwnW q0 ws c0 s0) {px py : Option Addr} {c2 c3 : Nat} {xs ys : List Nat} (hX : RowAt (s0 :: L) px xs c2) (hY : RowAt (s0 :: L) py ys c3) (hwx : ∀ z ∈ xs, z < 18446744073709551616) (hwy : ∀ z ∈ ys, z < 18446744073709551616) (hn : 1 ≤ ys.length) (hm : ys.length ≤ xs.length) (hm4 : xs.length ≤ 4) (hle2 : val ys ≤ val xs) : Ret Tryz.prog 40 [.slice q0 ws.length c0, .slice px xs.length c2, .slice py ys.length c3] w fun v w' => ∃ q c s' G, v = .slice q (wd (val xs - val ys)).length c ∧ OwnW q (wd (val xs - val ys)) c s' ∧ Left s0 G ∧ Hp w0 w' (s' :: (G ++ L)) := by
  refine Calls.of_J (n := 59) Tryz.func40 rfl rfl rfl ?_
  refine J.seq ?_
  refine J.region ?_
  refine JL.go trivial (RX.assign) ?_
  refine JL.nil ?_
  refine J.seq ?_
  refine J.region ?_
  refine JL.go trivial (RX.movev (v := Value.slice _ _ _) rfl) ?_
  refine JL.go trivial (RX.len_slice rfl (by rw [sl51]; rfl) rfl) ?_
  refine JL.go trivial (RX.assignv (v := Value.int _ _) rfl) ?_
  refine JL.nil ?_
  refine J.seq ?_
  refine J.region ?_
  refine JL.go trivial (RX.movev (v := Value.slice _ _ _) rfl) ?_
  refine JL.go trivial (RX.len_slice rfl (by rw [sl51]; rfl) rfl) ?_
  refine JL.go trivial (RX.assignv (v := Value.int _ _) rfl) ?_
  refine JL.nil ?_
  refine J.seq ?_
  refine J.block ?_
  refine J.seq ?_
  refine J.region ?_
  refine JL.go trivial (RX.movev (v := Value.int _ _) rfl) ?_
  refine JL.go trivial (RX.movev (v := Value.int _ _) rfl) ?_
  refine JL.go trivial (RX.lt rfl rfl) ?_
  refine JL.go trivial (RX.assignv (v := Value.bool _) rfl) ?_
  refine JL.nil ?_
  refine J.cond_f rfl (decide_eq_false (by omega)) ?_
  refine J.seq ?_
  refine J.region ?_
  refine JL.go trivial (RX.movev (v := Value.int _ _) rfl) ?_
  refine JL.go trivial (RX.eq rfl rfl) ?_
  refine JL.go trivial (RX.assignv (v := Value.bool _) rfl) ?_
  refine JL.nil ?_
  refine J.cond_f rfl (decide_eq_false (by omega)) ?_
  refine J.seq ?_
  refine J.region ?_
  refine JL.go trivial (RX.movev (v := Value.int _ _) rfl) ?_
  refine JL.go trivial (RX.eq rfl rfl) ?_
  refine JL.go trivial (RX.assignv (v := Value.bool _) rfl) ?_
  refine JL.nil ?_
  refine J.cond_f rfl (decide_eq_false (by omega)) ?_
  refine J.skip ?_
  refine J.inBlock ?_
  refine J.seq ?_
  refine J.region ?_
  refine JL.go trivial (RX.movev (v := Value.slice _ _ _) rfl) ?_
  refine JL.go trivial (RX.movev (v := Value.int _ _) rfl) ?_
  refine JL.does trivial (EX.call rfl cl50 rfl ((make_c H ho (by omega) (by omega)))) ?_
  rintro _ w ⟨q, l, c, G, rfl, hle, hll, hG, H, hk⟩
  have hX2 := hk _ _ _ hX
  have hY2 := hk _ _ _ hY
  obtain ⟨xb, CX, TX, rfl, hxm⟩ := hX2.2.2.2 (by omega)
  have hxc := hX2.1
  have hyc := hY2.1
  have htk : (xs.take ys.length).length = ys.length := by simp; omega
  have hpx : SlAt ([(q, cel (l) 63)] :: (G ++ L)) (some ⟨xb, 0, none⟩) (u64sV (xs.take ys.length)) := by rw [u64sV_take]; exact hX2.2.2.1.take
  refine JL.go trivial (RX.assignv (v := Value.slice _ _ _) rfl) ?_
  refine JL.nil ?_
  refine J.seq ?_
  refine J.any hmix fun w hs => ?_
  replace H := H.same hs; clear hs
  refine JA.take 0 (listed' := [true, false, false, false, false, false, false, false, false, false, false]) rfl (by kernel_rfl) (by kernel_rfl) (by kernel_rfl) rfl trivial (fun w => RX.movev (v := Value.slice _ _ _) rfl) ?_
  refine JA.take 1 (listed' := [true, true, false, false, false, false, false, false, false, false, false]) rfl (by kernel_rfl) (by kernel_rfl) (by kernel_rfl) rfl trivial (fun w => RX.movev (v := Value.int _ _) rfl) ?_
  refine JA.take 2 (listed' := [true, true, true, false, false, false, false, false, false, false, false]) rfl (by kernel_rfl) (by kernel_rfl) (by kernel_rfl) rfl trivial (fun w => RX.slice_h rfl rfl sl51 (fun a ha => by cases ha; rfl) (by omega) (by omega) (r := ys.length) (by omega)) ?_
  refine JA.take 3 (listed' := [true, true, true, true, false, false, false, false, false, false, false]) rfl (by kernel_rfl) (by kernel_rfl) (by kernel_rfl) rfl trivial (fun w => RX.movev (v := Value.slice _ _ _) rfl) ?_
  refine JA.take 4 (listed' := [true, true, true, true, true, false, false, false, false, false, false]) rfl (by kernel_rfl) (by kernel_rfl) (by kernel_rfl) rfl trivial (fun w => RX.movev (v := Value.int _ _) rfl) ?_
  refine JA.take 5 (listed' := [true, true, true, true, true, true, false, false, false, false, false]) rfl (by kernel_rfl) (by kernel_rfl) (by kernel_rfl) rfl trivial (fun w => RX.slice_h rfl rfl sl51 hX2.2.1 (by omega) (by omega) (r := ys.length) (by omega)) ?_
  refine JA.take 6 (listed' := [true, true, true, true, true, true, true, false, false, false, false]) rfl (by kernel_rfl) (by kernel_rfl) (by kernel_rfl) rfl trivial (fun w => RX.movev (v := Value.slice _ _ _) rfl) ?_
  refine JA.take 7 (listed' := [true, true, true, true, true, true, true, true, false, false, false]) rfl (by kernel_rfl) (by kernel_rfl) (by kernel_rfl) rfl trivial (fun w => RX.movev (v := Value.int _ _) rfl) ?_
  refine JA.take 8 (listed' := [true, true, true, true, true, true, true, true, true, false, false]) rfl (by kernel_rfl) (by kernel_rfl) (by kernel_rfl) rfl trivial (fun w => RX.slice_h rfl rfl sl51 hY2.2.1 (by omega) (by omega) (r := ys.length) (by omega)) ?_
  refine JA.all [9] (by kernel_rfl) (by decide) ?_
  refine JO.does (listed' := [true, true, true, true, true, true, true, true, true, true, false]) rfl rfl trivial (EX.callT rfl twSub rfl (subVV_b (n := ys.length) (xs := xs.take ys.length) (ys := ys) H (by omega) (by omega) (by omega) hpx hY2.2.2.1 htk rfl (fun z hz => hwx z (List.mem_of_mem_take hz)) hwy)) ?_
  rintro _ w ⟨rfl, H⟩
  generalize hAe : sbW 0 (xs.take ys.length) ys = A at H
  generalize hke : sbC 0 (xs.take ys.length) ys = k
  have hA := sb_val (xs := xs.take ys.length) (ys := ys) (c := 0) htk (fun z hz => hwx z (List.mem_of_mem_take hz)) hwy (by decide)
  rw [hAe, hke, htk] at hA
  obtain ⟨hAl, hAw, hkc, hAv⟩ := hA
  refine JA.take 10 (listed' := [true, true, true, true, true, true, true, true, true, true, true]) rfl (by kernel_rfl) (by kernel_rfl) (by kernel_rfl) rfl trivial (fun w => RX.assignv (v := Value.int _ _) rfl) ?_
  refine JA.done (by kernel_rfl) ?_
  refine J.seq ?_
  refine J.seq ?_
  refine J.region ?_
  refine JL.go trivial (RX.movev (v := Value.int _ _) rfl) ?_
  refine JL.go trivial (RX.movev (v := Value.int _ _) rfl) ?_
  refine JL.go trivial (RX.gt rfl rfl) ?_
  refine JL.nil ?_
  refine J.cond_d rfl (fun hgt => ?_) (fun hgt => ?_)
  · skip
    have htl : SlAt ([(q, cel (RW l 0 A) 63)] :: (G ++ L)) (some ⟨xb, ys.length, none⟩) (u64sV (xs.drop ys.length)) := by
      have := tail_at (o := 0) (n := ys.length) (l := RW l 0 A) hX2.2.2.1 (fun _ => Nat.zero_le _) (fun j hj => RW_get (by omega) (by omega))
      rwa [Nat.zero_add] at this
    have hmb : xb = q ∨ ∃ C T, (xb, Obj.cells C T (0, 0)) ∈ (G ++ L).flatten := by
      rw [List.flatten_cons, List.mem_append] at hxm
      rcases hxm with h | h
      · simp only [List.mem_singleton, Prod.mk.injEq] at h
        exact .inl h.1
      · exact .inr ⟨_, _, h⟩
    refine J.any hmix fun w hs => ?_
    replace H := H.same hs; clear hs
    refine JA.take 0 (listed' := [true, false, false, false, false, false, false, false, false]) rfl (by kernel_rfl) (by kernel_rfl) (by kernel_rfl) rfl trivial (fun w => RX.movev (v := Value.slice _ _ _) rfl) ?_
    refine JA.take 1 (listed' := [true, true, false, false, false, false, false, false, false]) rfl (by kernel_rfl) (by kernel_rfl) (by kernel_rfl) rfl trivial (fun w => RX.movev (v := Value.int _ _) rfl) ?_
    refine JA.take 2 (listed' := [true, true, true, false, false, false, false, false, false]) rfl (by kernel_rfl) (by kernel_rfl) (by kernel_rfl) rfl trivial (fun w => RX.slice_l rfl rfl sl51 (fun a ha => by cases ha; rfl) (by omega) (by omega) (r := ys.length) (by omega)) ?_
    rw [behind_at (by omega), Nat.zero_add]
    refine JA.take 3 (listed' := [true, true, true, true, false, false, false, false, false]) rfl (by kernel_rfl) (by kernel_rfl) (by kernel_rfl) rfl trivial (fun w => RX.movev (v := Value.slice _ _ _) rfl) ?_
    refine JA.take 4 (listed' := [true, true, true, true, true, false, false, false, false]) rfl (by kernel_rfl) (by kernel_rfl) (by kernel_rfl) rfl trivial (fun w => RX.movev (v := Value.int _ _) rfl) ?_
    refine JA.take 5 (listed' := [true, true, true, true, true, true, false, false, false]) rfl (by kernel_rfl) (by kernel_rfl) (by kernel_rfl) rfl trivial (fun w => RX.slice_l rfl rfl sl51 (fun a ha => by cases ha; rfl) (by omega) (by omega) (r := ys.length) (by omega)) ?_
    rw [behind_at (by omega), Nat.zero_add]
    refine JA.take 6 (listed' := [true, true, true, true, true, true, true, false, false]) rfl (by kernel_rfl) (by kernel_rfl) (by kernel_rfl) rfl trivial (fun w => RX.movev (v := Value.int _ _) rfl) ?_
    refine JA.all [7] (by kernel_rfl) (by decide) ?_
    refine JO.does (listed' := [true, true, true, true, true, true, true, true, false]) rfl rfl trivial (EX.call rfl cl56 rfl ((subVW_b (n := xs.length - ys.length) (k := k) (xs := xs.drop ys.length) H (by simp) (by omega) (by omega) (by rw [RW_len (by omega)]; omega) htl (fun _ => rfl) hmb (fun z hz => hwx z (List.mem_of_mem_drop hz)) hkc (by omega) (by omega)))) ?_
    rintro _ w ⟨rfl, H⟩
    have hK := sbK_val (xs := xs.drop ys.length) (k := k) (fun z hz => hwx z (List.mem_of_mem_drop hz)) hkc
    generalize sbK k (xs.drop ys.length) = K at H hK
    generalize sbKC k (xs.drop ys.length) = k2 at hK ⊢
    obtain ⟨hKl, hKw, hk2, hKv⟩ := hK
    rw [List.length_drop] at hKl hKv
    rw [← hAl, RW_RW (by omega)] at H
    have hWl : (A ++ K).length = xs.length := by simp; omega
    obtain ⟨hk0, hV⟩ := sub_join hm hAl (by simpa using hAv) hKv hKl hAw hKw hle2
    subst hk0
    have hWw : ∀ z ∈ A ++ K, z < 18446744073709551616 := fun z hz => by rcases List.mem_append.1 hz with h | h; exact hAw z h; exact hKw z h
    generalize A ++ K = W at H hWl hV hWw
    refine JA.take 8 (listed' := [true, true, true, true, true, true, true, true, true]) rfl (by kernel_rfl) (by kernel_rfl) (by kernel_rfl) rfl trivial (fun w => RX.assignv (v := Value.int _ _) rfl) ?_
    refine JA.done (by kernel_rfl) ?_
    refine J.seq ?_
    refine J.seq ?_
    refine J.region ?_
    refine JL.go trivial (RX.movev (v := Value.int _ _) rfl) ?_
    refine JL.go trivial (RX.ne rfl rfl) ?_
    refine JL.nil ?_
    refine J.cond_f rfl (decide_eq_false (by simp)) ?_
    refine J.skip ?_
    refine J.seq ?_
    refine J.region ?_
    refine JL.go trivial (RX.movev (v := Value.slice _ _ _) rfl) ?_
    refine JL.does trivial (EX.call rfl cl53 rfl ((show Ret _ _ [.slice (some ⟨q, 0, none⟩) xs.length c] w _ by rw [← hWl]; exact norm_b (ws := W) H (SlAt.here (by rw [u64sV_len, RW_take (Nat.le_refl _), List.take_length])) (by omega) (by omega) (by omega)))) ?_
    rintro _ w ⟨i, rfl, hi, H⟩
    have hz := nmL hi hWw (by omega)
    rw [hV] at hz
    refine JL.go trivial (RX.assignv (v := Value.slice _ _ _) rfl) ?_
    refine JL.nil ?_
    refine J.ret1 (v := Value.slice _ _ _) Tryz.func40 rfl rfl ?_
    obtain ⟨rfl, hz2⟩ := hz
    exact ⟨_, rfl, _, c, _, G, rfl, ownW_RW ⟨rfl, hz2⟩ hi.1 hll (by omega), hG, H⟩
  · skip
    have hWl : A.length = xs.length := by omega
    obtain ⟨hk0, hV⟩ := sub_join (K := []) (k2 := k) hm hAl (by simpa using hAv) (by rw [List.drop_eq_nil_of_le (by omega), show xs.length - ys.length = 0 by omega]; simp [val]) (by simp; omega) hAw (fun z hz => by cases hz) hle2
    subst hk0
    rw [List.append_nil] at hV
    have hWw := hAw
    refine J.skip ?_
    refine J.seq ?_
    refine J.seq ?_
    refine J.region ?_
    refine JL.go trivial (RX.movev (v := Value.int _ _) rfl) ?_
    refine JL.go trivial (RX.ne rfl rfl) ?_
    refine JL.nil ?_
    refine J.cond_f rfl (decide_eq_false (by simp)) ?_
    refine J.skip ?_
    refine J.seq ?_
    refine J.region ?_
    refine JL.go trivial (RX.movev (v := Value.slice _ _ _) rfl) ?_
    refine JL.does trivial (EX.call rfl cl53 rfl ((show Ret _ _ [.slice (some ⟨q, 0, none⟩) xs.length c] w _ by rw [← hWl]; exact norm_b (ws := A) H (SlAt.here (by rw [u64sV_len, RW_take (Nat.le_refl _), List.take_length])) (by omega) (by omega) (by omega)))) ?_
    rintro _ w ⟨i, rfl, hi, H⟩
    have hz := nmL hi hWw (by omega)
    rw [hV] at hz
    refine JL.go trivial (RX.assignv (v := Value.slice _ _ _) rfl) ?_
    refine JL.nil ?_
    refine J.ret1 (v := Value.slice _ _ _) Tryz.func40 rfl rfl ?_
    obtain ⟨rfl, hz2⟩ := hz
    exact ⟨_, rfl, _, c, _, G, rfl, ownW_RW ⟨rfl, hz2⟩ hi.1 hll (by omega), hG, H⟩
set_option maxHeartbeats 1600000 in
theorem setG_b {w0 w : World} {s0 : Seg} {L : List Seg} (H : Hp w0 w (s0 :: L)) {q0 : Option Addr} {ws : List Nat} {c0 : Nat} (ho : OwnW q0 ws c0 s0) {px : Option Addr} {c2 : Nat} {xs : List Nat} (hX : RowAt (s0 :: L) px xs c2) (h1 : 1 ≤ xs.length) (h2 : xs.length ≤ 5) : Ret Tryz.prog 49 [.slice q0 ws.length c0, .slice px xs.length c2] w fun v w' => ∃ q c s' G, v = .slice q xs.length c ∧ OwnW q (xs) c s' ∧ Left s0 G ∧ Hp w0 w' (s' :: (G ++ L)) := by
  refine Calls.of_J (n := 13) Tryz.func49 rfl rfl rfl ?_
  refine J.seq ?_
  refine J.region ?_
  refine JL.go trivial (RX.assign) ?_
  refine JL.nil ?_
  refine J.seq ?_
  refine J.region ?_
  refine JL.go trivial (RX.movev (v := Value.slice _ _ _) rfl) ?_
  refine JL.go trivial (RX.movev (v := Value.slice _ _ _) rfl) ?_
  refine JL.go trivial (RX.len_slice rfl (by rw [sl51]; rfl) rfl) ?_
  refine JL.does trivial (EX.call rfl cl50 rfl ((make_c H ho h1 (by omega)))) ?_
  rintro _ w ⟨q, l, c, G, rfl, hle, hll, hG, H, hk⟩
  have hs2 := (hk _ _ _ hX).2.2.1
  refine JL.go trivial (RX.assignv (v := Value.slice _ _ _) rfl) ?_
  refine JL.nil ?_
  refine J.seq ?_
  refine J.region ?_
  refine JL.go trivial (RX.movev (v := Value.slice _ _ _) rfl) ?_
  refine JL.go trivial (RX.movev (v := Value.slice _ _ _) rfl) ?_
  refine JL.does trivial (EX.copyS (ys := u64sV xs) H rfl rfl ud51 (by kernel_rfl) (i := 0) rfl hs2 (u64sV_len xs) (by omega) (u64sV_cell xs)) ?_
  rintro _ w ⟨rfl, H⟩
  refine JL.nil ?_
  refine J.seq ?_
  refine J.region ?_
  refine JL.go trivial (RX.movev (v := Value.slice _ _ _) rfl) ?_
  refine JL.go trivial (RX.assignv (v := Value.slice _ _ _) rfl) ?_
  refine JL.nil ?_
  refine J.ret1 (v := Value.slice _ _ _) Tryz.func49 rfl rfl ?_
  exact ⟨_, rfl, _, c, _, G, rfl, ownW_row (by simp [u64sV]; omega) hle (by rw [List.take_append_of_le_length (by rw [u64sV_len]; exact Nat.le_refl _), ← u64sV_len xs, List.take_length]), hG, H⟩
set_option maxHeartbeats 1600000 in
theorem addSetG_b {w0 w : World} {s0 : Seg} {L : List Seg} (H : Hp w0 w (s0 :: L)) {q0 : Option Addr} {ws : List Nat} {c0 : Nat} (ho : OwnW q0 ws c0 s0) {px py : Option Addr} {c2 c3 : Nat} {xs : List Nat} (hX : RowAt (s0 :: L) px xs c2) (h1 : 1 ≤ xs.length) (h2 : xs.length ≤ 5) : Ret Tryz.prog 38 [.slice q0 ws.length c0, .slice px xs.length c2, .slice py 0 c3] w fun v w' => ∃ q c s' G, v = .slice q xs.length c ∧ OwnW q (xs) c s' ∧ Left s0 G ∧ Hp w0 w' (s' :: (G ++ L)) := by
  refine Calls.of_J (n := 65) Tryz.func38 rfl rfl rfl ?_
  refine J.seq ?_
  refine J.region ?_
  refine JL.go trivial (RX.assign) ?_
  refine JL.nil ?_
  refine J.seq ?_
  refine J.region ?_
  refine JL.go trivial (RX.movev (v := Value.slice _ _ _) rfl) ?_
  refine JL.go trivial (RX.len_slice rfl (by rw [sl51]; rfl) rfl) ?_
  refine JL.go trivial (RX.assignv (v := Value.int _ _) rfl) ?_
  refine JL.nil ?_
  refine J.seq ?_
  refine J.region ?_
  refine JL.go trivial (RX.movev (v := Value.slice _ _ _) rfl) ?_
  refine JL.go trivial (RX.len_slice rfl (by rw [sl51]; rfl) rfl) ?_
  refine JL.go trivial (RX.assignv (v := Value.int _ _) rfl) ?_
  refine JL.nil ?_
  refine J.seq ?_
  refine J.block ?_
  refine J.seq ?_
  refine J.region ?_
  refine JL.go trivial (RX.movev (v := Value.int _ _) rfl) ?_
  refine JL.go trivial (RX.movev (v := Value.int _ _) rfl) ?_
  refine JL.go trivial (RX.lt rfl rfl) ?_
  refine JL.go trivial (RX.assignv (v := Value.bool _) rfl) ?_
  refine JL.nil ?_
  refine J.cond_f rfl (decide_eq_false (by omega)) ?_
  refine J.seq ?_
  refine J.region ?_
  refine JL.go trivial (RX.movev (v := Value.int _ _) rfl) ?_
  refine JL.go trivial (RX.eq rfl rfl) ?_
  refine JL.go trivial (RX.assignv (v := Value.bool _) rfl) ?_
  refine JL.nil ?_
  refine J.cond_f rfl (decide_eq_false (by omega)) ?_
  refine J.seq ?_
  refine J.region ?_
  refine JL.go trivial (RX.movev (v := Value.int _ _) rfl) ?_
  refine JL.go trivial (RX.eq rfl rfl) ?_
  refine JL.go trivial (RX.assignv (v := Value.bool _) rfl) ?_
  refine JL.nil ?_
  refine J.cond_t rfl (decide_eq_true rfl) ?_
  refine J.seq ?_
  refine J.region ?_
  refine JL.go trivial (RX.movev (v := Value.slice _ _ _) rfl) ?_
  refine JL.go trivial (RX.movev (v := Value.slice _ _ _) rfl) ?_
  refine JL.does trivial (EX.call rfl cl49 rfl ((setG_b H ho hX h1 h2))) ?_
  rintro _ w ⟨q, c, s1, G, rfl, ho1, hG, H⟩
  refine JL.go trivial (RX.assignv (v := Value.slice _ _ _) rfl) ?_
  refine JL.nil ?_
  refine J.ret1 (v := Value.slice _ _ _) Tryz.func38 rfl rfl ?_
  exact ⟨_, rfl, q, c, s1, G, rfl, ho1, hG, H⟩
set_option maxHeartbeats 1600000 in
theorem subSetG_b {w0 w : World} {s0 : Seg} {L : List Seg} (H : Hp w0 w (s0 :: L)) {q0 : Option Addr} {ws : List Nat} {c0 : Nat} (ho : OwnW q0 ws c0 s0) {px py : Option Addr} {c2 c3 : Nat} {xs : List Nat} (hX : RowAt (s0 :: L) px xs c2) (h1 : 1 ≤ xs.length) (h2 : xs.length ≤ 5) : Ret Tryz.prog 40 [.slice q0 ws.length c0, .slice px xs.length c2, .slice py 0 c3] w fun v w' => ∃ q c s' G, v = .slice q xs.length c ∧ OwnW q (xs) c s' ∧ Left s0 G ∧ Hp w0 w' (s' :: (G ++ L)) := by
  refine Calls.of_J (n := 59) Tryz.func40 rfl rfl rfl ?_
  refine J.seq ?_
  refine J.region ?_
  refine JL.go trivial (RX.assign) ?_
  refine JL.nil ?_
  refine J.seq ?_
  refine J.region ?_
  refine JL.go trivial (RX.movev (v := Value.slice _ _ _) rfl) ?_
  refine JL.go trivial (RX.len_slice rfl (by rw [sl51]; rfl) rfl) ?_
  refine JL.go trivial (RX.assignv (v := Value.int _ _) rfl) ?_
  refine JL.nil ?_
  refine J.seq ?_
  refine J.region ?_
  refine JL.go trivial (RX.movev (v := Value.slice _ _ _) rfl) ?_
  refine JL.go trivial (RX.len_slice rfl (by rw [sl51]; rfl) rfl) ?_
  refine JL.go trivial (RX.assignv (v := Value.int _ _) rfl) ?_
  refine JL.nil ?_
  refine J.seq ?_
  refine J.block ?_
  refine J.seq ?_
  refine J.region ?_
  refine JL.go trivial (RX.movev (v := Value.int _ _) rfl) ?_
  refine JL.go trivial (RX.movev (v := Value.int _ _) rfl) ?_
  refine JL.go trivial (RX.lt rfl rfl) ?_
  refine JL.go trivial (RX.assignv (v := Value.bool _) rfl) ?_
  refine JL.nil ?_
  refine J.cond_f rfl (decide_eq_false (by omega)) ?_
  refine J.seq ?_
  refine J.region ?_
  refine JL.go trivial (RX.movev (v := Value.int _ _) rfl) ?_
  refine JL.go trivial (RX.eq rfl rfl) ?_
  refine JL.go trivial (RX.assignv (v := Value.bool _) rfl) ?_
  refine JL.nil ?_
  refine J.cond_f rfl (decide_eq_false (by omega)) ?_
  refine J.seq ?_
  refine J.region ?_
  refine JL.go trivial (RX.movev (v := Value.int _ _) rfl) ?_
  refine JL.go trivial (RX.eq rfl rfl) ?_
  refine JL.go trivial (RX.assignv (v := Value.bool _) rfl) ?_
  refine JL.nil ?_
  refine J.cond_t rfl (decide_eq_true rfl) ?_
  refine J.seq ?_
  refine J.region ?_
  refine JL.go trivial (RX.movev (v := Value.slice _ _ _) rfl) ?_
  refine JL.go trivial (RX.movev (v := Value.slice _ _ _) rfl) ?_
  refine JL.does trivial (EX.call rfl cl49 rfl ((setG_b H ho hX h1 h2))) ?_
  rintro _ w ⟨q, c, s1, G, rfl, ho1, hG, H⟩
  refine JL.go trivial (RX.assignv (v := Value.slice _ _ _) rfl) ?_
  refine JL.nil ?_
  refine J.ret1 (v := Value.slice _ _ _) Tryz.func40 rfl rfl ?_
  exact ⟨_, rfl, q, c, s1, G, rfl, ho1, hG, H⟩
set_option maxHeartbeats 1600000 in
theorem addSwap0_b {w0 w : World} {s0 : Seg} {L : List Seg} (H : Hp w0 w (s0 :: L)) {q0 : Option Addr} {ws : List Nat} {c0 : Nat} (ho : OwnW q0 ws c0 s0) {px py : Option Addr} {c2 c3 : Nat} {ys : List Nat} (hY : RowAt (s0 :: L) py ys c3) (h1 : 1 ≤ ys.length) (h2 : ys.length ≤ 5) : Ret Tryz.prog 38 [.slice q0 ws.length c0, .slice px 0 c2, .slice py ys.length c3] w fun v w' => ∃ q c s' G, v = .slice q ys.length c ∧ OwnW q (ys) c s' ∧ Left s0 G ∧ Hp w0 w' (s' :: (G ++ L)) := by
  refine Calls.of_J (n := 65) Tryz.func38 rfl rfl rfl ?_
  refine J.seq ?_
  refine J.region ?_
  refine JL.go trivial (RX.assign) ?_
  refine JL.nil ?_
  refine J.seq ?_
  refine J.region ?_
  refine JL.go trivial (RX.movev (v := Value.slice _ _ _) rfl) ?_
  refine JL.go trivial (RX.len_slice rfl (by rw [sl51]; rfl) rfl) ?_
  refine JL.go trivial (RX.assignv (v := Value.int _ _) rfl) ?_
  refine JL.nil ?_
  refine J.seq ?_
  refine J.region ?_
  refine JL.go trivial (RX.movev (v := Value.slice _ _ _) rfl) ?_
  refine JL.go trivial (RX.len_slice rfl (by rw [sl51]; rfl) rfl) ?_
  refine JL.go trivial (RX.assignv (v := Value.int _ _) rfl) ?_
  refine JL.nil ?_
  refine J.seq ?_
  refine J.block ?_
  refine J.seq ?_
  refine J.region ?_
  refine JL.go trivial (RX.movev (v := Value.int _ _) rfl) ?_
  refine JL.go trivial (RX.movev (v := Value.int _ _) rfl) ?_
  refine JL.go trivial (RX.lt rfl rfl) ?_
  refine JL.go trivial (RX.assignv (v := Value.bool _) rfl) ?_
  refine JL.nil ?_
  refine J.cond_t rfl (decide_eq_true (by omega)) ?_
  refine J.seq ?_
  refine J.region ?_
  refine JL.go trivial (RX.movev (v := Value.slice _ _ _) rfl) ?_
  refine JL.go trivial (RX.movev (v := Value.slice _ _ _) rfl) ?_
  refine JL.go trivial (RX.movev (v := Value.slice _ _ _) rfl) ?_
  refine JL.does trivial (EX.call rfl cl38 rfl ((addSetG_b H ho hY h1 h2))) ?_
  rintro _ w ⟨q, c, s1, G, rfl, ho1, hG, H⟩
  refine JL.go trivial (RX.assignv (v := Value.slice _ _ _) rfl) ?_
  refine JL.nil ?_
  refine J.ret1 (v := Value.slice _ _ _) Tryz.func38 rfl rfl ?_
  exact ⟨_, rfl, q, c, s1, G, rfl, ho1, hG, H⟩
set_option maxHeartbeats 1600000 in
theorem addSwapG_b {w0 w : World} {s0 : Seg} {L : List Seg} (H : Hp w0 w (s0 :: L)) {q0 : Option Addr} {ws : List Nat} {c0 : Nat} (ho : OwnW q0 ws c0 s0) {px py : Option Addr} {c2 c3 : Nat} {xs ys : List Nat} (hX : RowAt (s0 :: L) px xs c2) (hY : RowAt (s0 :: L) py ys c3) (hwx : ∀ z ∈ xs, z < 18446744073709551616) (hwy : ∀ z ∈ ys, z < 18446744073709551616) (hn : 1 ≤ xs.length) (hm : xs.length < ys.length) (hm4 : ys.length ≤ 4) : Ret Tryz.prog 38 [.slice q0 ws.length c0, .slice px xs.length c2, .slice py ys.length c3] w fun v w' => ∃ q c s' G, v = .slice q (wd (val ys + val xs)).length c ∧ OwnW q (wd (val ys + val xs)) c s' ∧ Left s0 G ∧ Hp w0 w' (s' :: (G ++ L)) := by
  refine Calls.of_J (n := 65) Tryz.func38 rfl rfl rfl ?_
  refine J.seq ?_
  refine J.region ?_
  refine JL.go trivial (RX.assign) ?_
  refine JL.nil ?_
  refine J.seq ?_
  refine J.region ?_
  refine JL.go trivial (RX.movev (v := Value.slice _ _ _) rfl) ?_
  refine JL.go trivial (RX.len_slice rfl (by rw [sl51]; rfl) rfl) ?_
  refine JL.go trivial (RX.assignv (v := Value.int _ _) rfl) ?_
  refine JL.nil ?_
  refine J.seq ?_
  refine J.region ?_
  refine JL.go trivial (RX.movev (v := Value.slice _ _ _) rfl) ?_
  refine JL.go trivial (RX.len_slice rfl (by rw [sl51]; rfl) rfl) ?_
  refine JL.go trivial (RX.assignv (v := Value.int _ _) rfl) ?_
  refine JL.nil ?_
  refine J.seq ?_
  refine J.block ?_
  refine J.seq ?_
  refine J.region ?_
  refine JL.go trivial (RX.movev (v := Value.int _ _) rfl) ?_
  refine JL.go trivial (RX.movev (v := Value.int _ _) rfl) ?_
  refine JL.go trivial (RX.lt rfl rfl) ?_
  refine JL.go trivial (RX.assignv (v := Value.bool _) rfl) ?_
  refine JL.nil ?_
  refine J.cond_t rfl (decide_eq_true (by omega)) ?_
  refine J.seq ?_
  refine J.region ?_
  refine JL.go trivial (RX.movev (v := Value.slice _ _ _) rfl) ?_
  refine JL.go trivial (RX.movev (v := Value.slice _ _ _) rfl) ?_
  refine JL.go trivial (RX.movev (v := Value.slice _ _ _) rfl) ?_
  refine JL.does trivial (EX.call rfl cl38 rfl ((addG_b H ho hY hX hwy hwx hn (by omega) hm4))) ?_
  rintro _ w ⟨q, c, s1, G, rfl, ho1, hG, H⟩
  refine JL.go trivial (RX.assignv (v := Value.slice _ _ _) rfl) ?_
  refine JL.nil ?_
  refine J.ret1 (v := Value.slice _ _ _) Tryz.func38 rfl rfl ?_
  exact ⟨_, rfl, q, c, s1, G, rfl, ho1, hG, H⟩
set_option maxHeartbeats 1600000 in
theorem cmpG_b {w0 w : World} {F : List Seg} (H : Hp w0 w F) {px py : Option Addr} {c2 c3 n : Nat} {xs ys : List Nat} (hs : SlAt F px (u64sV xs)) (hs2 : SlAt F py (u64sV ys)) (hwx : ∀ z ∈ xs, z < 18446744073709551616) (hwy : ∀ z ∈ ys, z < 18446744073709551616) (hx : xs.length = n) (hy : ys.length = n) (hn : 1 ≤ n) (hn9 : n ≤ 9) : Ret Tryz.prog 39 [.slice px n c2, .slice py n c3] w fun v w' => ∃ r : Int, v = .int .i64 r ∧ (0 ≤ r ↔ val ys ≤ val xs) ∧ Hp w0 w' F := by
  refine Calls.of_J (n := 64) Tryz.func39 rfl rfl rfl ?_
  refine J.seq ?_
  obtain ⟨qb, pb, rfl, hpp⟩ := hs.some (by rw [u64sV_len]; omega)
  obtain ⟨qb2, pb2, rfl, hpp2⟩ := hs2.some (by rw [u64sV_len]; omega)
  refine J.region ?_
  refine JL.go trivial (RX.assign) ?_
  refine JL.nil ?_
  refine J.seq ?_
  refine J.region ?_
  refine JL.go trivial (RX.movev (v := Value.slice _ _ _) rfl) ?_
  refine JL.go trivial (RX.len_slice rfl (by rw [sl51]; rfl) rfl) ?_
  refine JL.go trivial (RX.assignv (v := Value.int _ _) rfl) ?_
  refine JL.nil ?_
  refine J.seq ?_
  refine J.region ?_
  refine JL.go trivial (RX.movev (v := Value.slice _ _ _) rfl) ?_
  refine JL.go trivial (RX.len_slice rfl (by rw [sl51]; rfl) rfl) ?_
  refine JL.go trivial (RX.assignv (v := Value.int _ _) rfl) ?_
  refine JL.nil ?_
  refine J.seq ?_
  refine J.seq ?_
  refine J.region ?_
  refine JL.go trivial (RX.movev (v := Value.int _ _) rfl) ?_
  refine JL.go trivial (RX.movev (v := Value.int _ _) rfl) ?_
  refine JL.go trivial (RX.ne rfl rfl) ?_
  refine JL.go trivial (RX.movev (v := Value.bool _) rfl) ?_
  refine JL.go ⟨_, rfl, (decide_eq_false (by simp))⟩ (RX.movev (v := Value.int _ _) rfl) ?_
  refine JL.go ⟨_, rfl, (decide_eq_false (by simp))⟩ (RX.eq rfl rfl) ?_
  refine JL.go trivial (RX.pick_f rfl (decide_eq_false (by simp))) ?_
  refine JL.nil ?_
  refine J.cond_f rfl (decide_eq_false (by omega)) ?_
  refine J.skip ?_
  refine J.seq ?_
  refine J.region ?_
  refine JL.go trivial (RX.movev (v := Value.int _ _) rfl) ?_
  refine JL.go trivial (RX.sub rfl rfl (wi (n := n - 1) (by omega) (by omega))) ?_
  refine JL.go trivial (RX.assignv (v := Value.int _ _) rfl) ?_
  refine JL.nil ?_
  refine J.seq ?_
  refine J.block ?_
  refine J.loop (ι := Nat) (S := fun i => [(7, .int .i64 ((i : Nat) : Int))]) (Φ := fun i w => i < n ∧ xs.drop (i + 1) = ys.drop (i + 1) ∧ Hp w0 w F) (μ := fun i => i) (C := [(0, _), (1, _), (4, _)]) (n - 1) ⟨rfl, rfl, rfl, trivial⟩ ⟨rfl, trivial⟩ ?_ ?_
  · exact ⟨by omega, by rw [List.drop_eq_nil_of_le (by omega), List.drop_eq_nil_of_le (by omega)], H⟩
  clear H
  rintro i ρ w ⟨hi, hd, H⟩ IH
  obtain ⟨x, hxi⟩ : ∃ x, xs[i]? = some x := ⟨_, List.getElem?_eq_getElem (by omega)⟩
  obtain ⟨y, hyi⟩ : ∃ y, ys[i]? = some y := ⟨_, List.getElem?_eq_getElem (by omega)⟩
  refine J.seq ?_
  refine J.seq ?_
  refine J.quietH H hmix (by kernel_rfl) ?_
  refine JQ.go trivial (fun w H => RX.movev (v := Value.int _ _) rfl) ?_
  refine JQ.go trivial (fun w H => RX.gt rfl rfl) ?_
  refine JQ.go trivial (fun w H => RX.movev (v := Value.bool _) rfl) ?_
  refine JQ.splitS 31 rfl (fun hg => ?_) (fun hg => ?_)
  · skip
    first | have hgp := of_decide_eq_true hg | skip
    have hg1 := of_decide_eq_true hg
    refine JQ.go ⟨_, rfl, hg⟩ (fun w H => RX.movev (v := Value.slice _ _ _) rfl) ?_
    refine JQ.go ⟨_, rfl, hg⟩ (fun w H => RX.movev (v := Value.int _ _) rfl) ?_
    refine JQ.go ⟨_, rfl, hg⟩ (fun w H => RX.indexAddr rfl rfl sl51 (by omega) (by omega) (o' := pb + i) (by omega)) ?_
    refine JQ.go ⟨_, rfl, hg⟩ (fun w H => RX.loadS H hs rfl (j := i) rfl (v := .int .u64 (x : Int)) (u64sV_get hxi) one63) ?_
    refine JQ.go ⟨_, rfl, hg⟩ (fun w H => RX.movev (v := Value.slice _ _ _) rfl) ?_
    refine JQ.go ⟨_, rfl, hg⟩ (fun w H => RX.movev (v := Value.int _ _) rfl) ?_
    refine JQ.go ⟨_, rfl, hg⟩ (fun w H => RX.indexAddr rfl rfl sl51 (by omega) (by omega) (o' := pb2 + i) (by omega)) ?_
    refine JQ.go ⟨_, rfl, hg⟩ (fun w H => RX.loadS H hs2 rfl (j := i) rfl (v := .int .u64 (y : Int)) (u64sV_get hyi) one63) ?_
    refine JQ.go ⟨_, rfl, hg⟩ (fun w H => RX.eq rfl rfl) ?_
    refine JQ.go trivial (fun w H => RX.pick_t rfl hg) ?_
    refine JQ.nil fun w H => ?_
    refine J.cond_d rfl (fun heq => ?_) (fun heq => ?_)
    · skip
      refine J.skip ?_
      refine J.block ?_
      refine J.region ?_
      refine JL.go trivial (RX.movev (v := Value.int _ _) rfl) ?_
      refine JL.go trivial (RX.sub rfl rfl (wi (n := i - 1) (by omega) (by omega))) ?_
      refine JL.go trivial (RX.assignv (v := Value.int _ _) rfl) ?_
      refine JL.nil ?_
      refine J.inBlock ?_
      refine IH (i - 1) _ _ (by omega) ⟨rfl, rfl, rfl, trivial⟩ ⟨rfl, trivial⟩ ⟨by omega, ?_, H⟩
      have hdx : xs.drop i = x :: xs.drop (i + 1) := by obtain ⟨h1, h2⟩ := List.getElem?_eq_some_iff.1 hxi; rw [List.drop_eq_getElem_cons h1, h2]
      have hdy : ys.drop i = y :: ys.drop (i + 1) := by obtain ⟨h1, h2⟩ := List.getElem?_eq_some_iff.1 hyi; rw [List.drop_eq_getElem_cons h1, h2]
      rw [show i - 1 + 1 = i by omega, hdx, hdy, hd]
      congr 1
      omega
    · skip
      have h0 : x = y → i = 0 := fun e => absurd (by rw [e]) heq
      refine J.exit rfl ?_
      refine J.seq ?_
      refine J.block ?_
      refine J.seq ?_
      refine J.quietH H hmix (by kernel_rfl) ?_
      refine JQ.go trivial (fun w H => RX.movev (v := Value.slice _ _ _) rfl) ?_
      refine JQ.go trivial (fun w H => RX.movev (v := Value.int _ _) rfl) ?_
      refine JQ.go trivial (fun w H => RX.indexAddr rfl rfl sl51 (by omega) (by omega) (o' := pb + i) (by omega)) ?_
      refine JQ.go trivial (fun w H => RX.loadS H hs rfl (j := i) rfl (v := .int .u64 (x : Int)) (u64sV_get hxi) one63) ?_
      refine JQ.go trivial (fun w H => RX.movev (v := Value.slice _ _ _) rfl) ?_
      refine JQ.go trivial (fun w H => RX.movev (v := Value.int _ _) rfl) ?_
      refine JQ.go trivial (fun w H => RX.indexAddr rfl rfl sl51 (by omega) (by omega) (o' := pb2 + i) (by omega)) ?_
      refine JQ.go trivial (fun w H => RX.loadS H hs2 rfl (j := i) rfl (v := .int .u64 (y : Int)) (u64sV_get hyi) one63) ?_
      refine JQ.go trivial (fun w H => RX.lt rfl rfl) ?_
      refine JQ.go trivial (fun w H => RX.assignv (v := Value.bool _) rfl) ?_
      refine JQ.nil fun w H => ?_
      refine J.cond_d rfl (fun h1 => ?_) (fun h1 => ?_)
      · skip
        refine J.region ?_
        refine JL.go trivial (RX.assign) ?_
        refine JL.nil ?_
        refine J.inBlock ?_
        refine J.ret1 (v := Value.int _ _) Tryz.func39 rfl rfl ?_
        obtain ⟨k1, k2, k3⟩ := val_cmp hwx hwy hxi hyi hd h0
        refine ⟨_, rfl, _, rfl, ?_, H⟩
        first
          | (have := k1 (by omega); constructor <;> intro _ <;> omega)
          | (have := k2 (by omega); constructor <;> intro _ <;> omega)
          | (have := k3 (by omega); constructor <;> intro _ <;> omega)
      · skip
        refine J.seq ?_
        refine J.quietH H hmix (by kernel_rfl) ?_
        refine JQ.go trivial (fun w H => RX.movev (v := Value.slice _ _ _) rfl) ?_
        refine JQ.go trivial (fun w H => RX.movev (v := Value.int _ _) rfl) ?_
        refine JQ.go trivial (fun w H => RX.indexAddr rfl rfl sl51 (by omega) (by omega) (o' := pb + i) (by omega)) ?_
        refine JQ.go trivial (fun w H => RX.loadS H hs rfl (j := i) rfl (v := .int .u64 (x : Int)) (u64sV_get hxi) one63) ?_
        refine JQ.go trivial (fun w H => RX.movev (v := Value.slice _ _ _) rfl) ?_
        refine JQ.go trivial (fun w H => RX.movev (v := Value.int _ _) rfl) ?_
        refine JQ.go trivial (fun w H => RX.indexAddr rfl rfl sl51 (by omega) (by omega) (o' := pb2 + i) (by omega)) ?_
        refine JQ.go trivial (fun w H => RX.loadS H hs2 rfl (j := i) rfl (v := .int .u64 (y : Int)) (u64sV_get hyi) one63) ?_
        refine JQ.go trivial (fun w H => RX.gt rfl rfl) ?_
        refine JQ.go trivial (fun w H => RX.assignv (v := Value.bool _) rfl) ?_
        refine JQ.nil fun w H => ?_
        refine J.cond_d rfl (fun h2 => ?_) (fun h2 => ?_)
        · skip
          refine J.region ?_
          refine JL.go trivial (RX.assign) ?_
          refine JL.nil ?_
          refine J.inBlock ?_
          refine J.ret1 (v := Value.int _ _) Tryz.func39 rfl rfl ?_
          obtain ⟨k1, k2, k3⟩ := val_cmp hwx hwy hxi hyi hd h0
          refine ⟨_, rfl, _, rfl, ?_, H⟩
          first
            | (have := k1 (by omega); constructor <;> intro _ <;> omega)
            | (have := k2 (by omega); constructor <;> intro _ <;> omega)
            | (have := k3 (by omega); constructor <;> intro _ <;> omega)
        · skip
          refine J.skip ?_
          refine J.inBlock ?_
          refine J.ret1 (v := Value.int _ _) Tryz.func39 rfl rfl ?_
          obtain ⟨k1, k2, k3⟩ := val_cmp hwx hwy hxi hyi hd h0
          refine ⟨_, rfl, _, rfl, ?_, H⟩
          first
            | (have := k1 (by omega); constructor <;> intro _ <;> omega)
            | (have := k2 (by omega); constructor <;> intro _ <;> omega)
            | (have := k3 (by omega); constructor <;> intro _ <;> omega)
  · skip
    first | have hgp := of_decide_eq_false hg | skip
    have hg1 := of_decide_eq_false hg
    have h0 : x = y → i = 0 := fun _ => by omega
    refine JQ.no ⟨_, rfl, gno hg⟩ ?_
    refine JQ.no ⟨_, rfl, gno hg⟩ ?_
    refine JQ.no ⟨_, rfl, gno hg⟩ ?_
    refine JQ.no ⟨_, rfl, gno hg⟩ ?_
    refine JQ.no ⟨_, rfl, gno hg⟩ ?_
    refine JQ.no ⟨_, rfl, gno hg⟩ ?_
    refine JQ.no ⟨_, rfl, gno hg⟩ ?_
    refine JQ.no ⟨_, rfl, gno hg⟩ ?_
    refine JQ.no ⟨_, rfl, gno hg⟩ ?_
    refine JQ.go trivial (fun w H => RX.pick_f rfl hg) ?_
    refine JQ.nil fun w H => ?_
    refine J.cond_f rfl rfl ?_
    refine J.exit rfl ?_
    refine J.seq ?_
    refine J.block ?_
    refine J.seq ?_
    refine J.quietH H hmix (by kernel_rfl) ?_
    refine JQ.go trivial (fun w H => RX.movev (v := Value.slice _ _ _) rfl) ?_
    refine JQ.go trivial (fun w H => RX.movev (v := Value.int _ _) rfl) ?_
    refine JQ.go trivial (fun w H => RX.indexAddr rfl rfl sl51 (by omega) (by omega) (o' := pb + i) (by omega)) ?_
    refine JQ.go trivial (fun w H => RX.loadS H hs rfl (j := i) rfl (v := .int .u64 (x : Int)) (u64sV_get hxi) one63) ?_
    refine JQ.go trivial (fun w H => RX.movev (v := Value.slice _ _ _) rfl) ?_
    refine JQ.go trivial (fun w H => RX.movev (v := Value.int _ _) rfl) ?_
    refine JQ.go trivial (fun w H => RX.indexAddr rfl rfl sl51 (by omega) (by omega) (o' := pb2 + i) (by omega)) ?_
    refine JQ.go trivial (fun w H => RX.loadS H hs2 rfl (j := i) rfl (v := .int .u64 (y : Int)) (u64sV_get hyi) one63) ?_
    refine JQ.go trivial (fun w H => RX.lt rfl rfl) ?_
    refine JQ.go trivial (fun w H => RX.assignv (v := Value.bool _) rfl) ?_
    refine JQ.nil fun w H => ?_
    refine J.cond_d rfl (fun h1 => ?_) (fun h1 => ?_)
    · skip
      refine J.region ?_
      refine JL.go trivial (RX.assign) ?_
      refine JL.nil ?_
      refine J.inBlock ?_
      refine J.ret1 (v := Value.int _ _) Tryz.func39 rfl rfl ?_
      obtain ⟨k1, k2, k3⟩ := val_cmp hwx hwy hxi hyi hd h0
      refine ⟨_, rfl, _, rfl, ?_, H⟩
      first
        | (have := k1 (by omega); constructor <;> intro _ <;> omega)
        | (have := k2 (by omega); constructor <;> intro _ <;> omega)
        | (have := k3 (by omega); constructor <;> intro _ <;> omega)
    · skip
      refine J.seq ?_
      refine J.quietH H hmix (by kernel_rfl) ?_
      refine JQ.go trivial (fun w H => RX.movev (v := Value.slice _ _ _) rfl) ?_
      refine JQ.go trivial (fun w H => RX.movev (v := Value.int _ _) rfl) ?_
      refine JQ.go trivial (fun w H => RX.indexAddr rfl rfl sl51 (by omega) (by omega) (o' := pb + i) (by omega)) ?_
      refine JQ.go trivial (fun w H => RX.loadS H hs rfl (j := i) rfl (v := .int .u64 (x : Int)) (u64sV_get hxi) one63) ?_
      refine JQ.go trivial (fun w H => RX.movev (v := Value.slice _ _ _) rfl) ?_
      refine JQ.go trivial (fun w H => RX.movev (v := Value.int _ _) rfl) ?_
      refine JQ.go trivial (fun w H => RX.indexAddr rfl rfl sl51 (by omega) (by omega) (o' := pb2 + i) (by omega)) ?_
      refine JQ.go trivial (fun w H => RX.loadS H hs2 rfl (j := i) rfl (v := .int .u64 (y : Int)) (u64sV_get hyi) one63) ?_
      refine JQ.go trivial (fun w H => RX.gt rfl rfl) ?_
      refine JQ.go trivial (fun w H => RX.assignv (v := Value.bool _) rfl) ?_
      refine JQ.nil fun w H => ?_
      refine J.cond_d rfl (fun h2 => ?_) (fun h2 => ?_)
      · skip
        refine J.region ?_
        refine JL.go trivial (RX.assign) ?_
        refine JL.nil ?_
        refine J.inBlock ?_
        refine J.ret1 (v := Value.int _ _) Tryz.func39 rfl rfl ?_
        obtain ⟨k1, k2, k3⟩ := val_cmp hwx hwy hxi hyi hd h0
        refine ⟨_, rfl, _, rfl, ?_, H⟩
        first
          | (have := k1 (by omega); constructor <;> intro _ <;> omega)
          | (have := k2 (by omega); constructor <;> intro _ <;> omega)
          | (have := k3 (by omega); constructor <;> intro _ <;> omega)
      · skip
        refine J.skip ?_
        refine J.inBlock ?_
        refine J.ret1 (v := Value.int _ _) Tryz.func39 rfl rfl ?_
        obtain ⟨k1, k2, k3⟩ := val_cmp hwx hwy hxi hyi hd h0
        refine ⟨_, rfl, _, rfl, ?_, H⟩
        first
          | (have := k1 (by omega); constructor <;> intro _ <;> omega)
          | (have := k2 (by omega); constructor <;> intro _ <;> omega)
          | (have := k3 (by omega); constructor <;> intro _ <;> omega)
theorem b45 {a : Nat} (h : a < 18446744073709551616 ^ 4) : a < 18446744073709551616 ^ 5 := Nat.lt_trans h (by decide)
theorem wd_le4 {a : Nat} (h : a < 18446744073709551616 ^ 4) : (wd a).length ≤ 4 := wdF_len h
theorem wd_nil : wd 0 = [] := rfl
theorem natAddG {w0 w : World} {s0 : Seg} {L : List Seg} (H : Hp w0 w (s0 :: L)) {q0 : Option Addr} {a b r c0 c3 : Nat} (ho : OwnW q0 (wd a) c0 s0) {py : Option Addr} (hY : RowAt (s0 :: L) py (wd b) c3) (ha : a < 18446744073709551616 ^ 4) (hb : b < 18446744073709551616 ^ 4) (hr : a + b = r) :
    Ret Tryz.prog 38 [.slice q0 (wd a).length c0, .slice q0 (wd a).length c0, .slice py (wd b).length c3] w fun v w' => ∃ q c s' G, v = .slice q (wd r).length c ∧ OwnW q (wd r) c s' ∧ Left s0 G ∧ Hp w0 w' (s' :: (G ++ L)) := by
  subst hr
  have la := wd_le4 ha
  have lb := wd_le4 hb
  have va := wd_val (b45 ha)
  have vb := wd_val (b45 hb)
  by_cases ha0 : (wd a).length = 0
  · have a0 := wd_none (b45 ha) ha0
    subst a0
    by_cases hb0 : (wd b).length = 0
    · have b0 := wd_none (b45 hb) hb0
      subst b0
      exact addZero_b H ho
    · rw [Nat.zero_add]
      exact addSwap0_b H ho hY (by omega) (by omega)
  · by_cases hb0 : (wd b).length = 0
    · have b0 := wd_none (b45 hb) hb0
      subst b0
      exact addSetG_b H ho (rowAt_own ho) (by omega) (by omega)
    · by_cases hl : (wd b).length ≤ (wd a).length
      · have := addG_b H ho (rowAt_own ho) hY (fun z hz => wd_lt hz) (fun z hz => wd_lt hz) (by omega) hl la
        rw [va, vb] at this
        exact this
      · have := addSwapG_b H ho (rowAt_own ho) hY (fun z hz => wd_lt hz) (fun z hz => wd_lt hz) (by omega) (by omega) lb
        rw [va, vb, Nat.add_comm] at this
        exact this
theorem natSubG {w0 w : World} {s0 : Seg} {L : List Seg} (H : Hp w0 w (s0 :: L)) {q0 : Option Addr} {ws : List Nat} {a b r c0 c2 c3 : Nat} (ho : OwnW q0 ws c0 s0) {px py : Option Addr} (hX : RowAt (s0 :: L) px (wd a) c2) (hY : RowAt (s0 :: L) py (wd b) c3) (hba : b ≤ a) (ha : a < 18446744073709551616 ^ 4) (hr : a - b = r) :
    Ret Tryz.prog 40 [.slice q0 ws.length c0, .slice px (wd a).length c2, .slice py (wd b).length c3] w fun v w' => ∃ q c s' G, v = .slice q (wd r).length c ∧ OwnW q (wd r) c s' ∧ Left s0 G ∧ Hp w0 w' (s' :: (G ++ L)) := by
  subst hr
  have hb := Nat.lt_of_le_of_lt hba ha
  have la := wd_le4 ha
  have va := wd_val (b45 ha)
  have vb := wd_val (b45 hb)
  by_cases ha0 : (wd a).length = 0
  · have a0 := wd_none (b45 ha) ha0
    subst a0
    obtain rfl : b = 0 := by omega
    exact subZero_b H ho
  · by_cases hb0 : (wd b).length = 0
    · have b0 := wd_none (b45 hb) hb0
      subst b0
      exact subSetG_b H ho hX (by omega) (by omega)
    · have hl : (wd b).length ≤ (wd a).length := by
        by_cases h : (wd a).length < (wd b).length
        · have := wd_lt_of_len (b45 ha) (b45 hb) h
          omega
        · omega
      have := subG_b H ho hX hY (fun z hz => wd_lt hz) (fun z hz => wd_lt hz) (by omega) hl la (by rw [va, vb]; exact hba)
      rw [va, vb] at this
      exact this
theorem natCmpG {w0 w : World} {F : List Seg} (H : Hp w0 w F) {px py : Option Addr} {a b c2 c3 : Nat} (hs : SlAt F px (u64sV (wd a))) (hs2 : SlAt F py (u64sV (wd b))) (ha : a < 18446744073709551616 ^ 4) (hb : b < 18446744073709551616 ^ 4) :
    Ret Tryz.prog 39 [.slice px (wd a).length c2, .slice py (wd b).length c3] w fun v w' => ∃ r : Int, v = .int .i64 r ∧ (0 ≤ r ↔ b ≤ a) ∧ Hp w0 w' F := by
  have la := wd_le4 ha
  have va := wd_val (b45 ha)
  have vb := wd_val (b45 hb)
  by_cases hl : (wd a).length ≠ (wd b).length ∨ (wd a).length = 0
  · refine Ret.mono (cmpLen_b H hl) ?_
    rintro v w' ⟨rfl, H⟩
    refine ⟨_, rfl, ?_, H⟩
    by_cases h1 : (wd a).length < (wd b).length
    · have := wd_lt_of_len (b45 ha) (b45 hb) h1
      rw [if_pos h1]; constructor <;> intro _ <;> omega
    · by_cases h2 : (wd b).length < (wd a).length
      · have := wd_lt_of_len (b45 hb) (b45 ha) h2
        rw [if_neg h1, if_pos h2]; constructor <;> intro _ <;> omega
      · have a0 := wd_none (b45 ha) (by omega)
        have b0 := wd_none (b45 hb) (by omega)
        rw [if_neg h1, if_neg h2]; constructor <;> intro _ <;> omega
  · have := cmpG_b (n := (wd a).length) (c2 := c2) (c3 := c3) H hs hs2 (fun z hz => wd_lt hz) (fun z hz => wd_lt hz) rfl (by omega) (by omega) (by omega)
    rw [va, vb] at this
    rw [show (wd b).length = (wd a).length by omega]
    exact this

def bigV (v : Int) (q : Option Addr) (c : Nat) : List Value := [.bool (decide (v < 0)), .slice q (wd v.natAbs).length c]
theorem wd_zero {a : Nat} (h : ((wd a).length : Int) = 0) : a = 0 := by
  unfold wd wdF at h
  split at h
  · assumption
  · simp at h; omega
theorem wd_nz {a : Nat} (h : ¬ ((wd a).length : Int) = 0) : 0 < a := by
  rcases Nat.eq_zero_or_pos a with rfl | h2
  · exact absurd rfl h
  · exact h2
theorem wd_pos {a : Nat} (h : 0 < a) (h2 : a < 18446744073709551616) : wd a = [a] := by
  unfold wd wdF
  rw [if_neg (by omega), Nat.mod_eq_of_lt h2, Nat.div_eq_of_lt h2, wdF_zero]
theorem wd_le {a : Nat} (h : a < 18446744073709551616) : (wd a).length ≤ 1 := wdF_len (by rwa [Nat.pow_one])
theorem wd_big {a : Nat} (h : (wd a).length ≤ 1) : a < 18446744073709551616 := by
  by_cases h0 : a / 18446744073709551616 = 0
  · omega
  · exfalso
    unfold wd wdF at h
    rw [if_neg (by omega)] at h
    unfold wdF at h
    rw [if_neg h0] at h
    simp at h

set_option maxHeartbeats 1600000 in
theorem iAddG {w0 w : World} {L : List Seg} {sz : Seg} {bz : Nat} {vz : Int} {q0 : Option Addr} {c0 : Nat} (H : Hp w0 w ([(bz, cel (bigV (vz) q0 c0) 53)] :: sz :: L)) (ho : OwnW q0 (wd vz.natAbs) c0 sz) {by_ : Nat} {vy : Int} {qy : Option Addr} {cy : Nat} (hY : SlAt L (some ⟨by_, 0, none⟩) (bigV vy qy cy)) (hyw : RowAt L qy (wd vy.natAbs) cy) (hvz : vz.natAbs < 18446744073709551616 ^ 4) (hvy : vy.natAbs < 18446744073709551616 ^ 4) : Ret Tryz.prog 24 [.pointer (some ⟨bz, 0, none⟩), .pointer (some ⟨bz, 0, none⟩), .pointer (some ⟨by_, 0, none⟩)] w fun u w' => ∃ q c s1, u = .pointer (some ⟨bz, 0, none⟩) ∧ OwnW q (wd (vz + vy).natAbs) c s1 ∧ Hp w0 w' ([(bz, cel (bigV (vz + vy) q c) 53)] :: s1 :: L) := by
  refine Calls.of_J (n := 94) Tryz.func24 rfl rfl rfl ?_
  refine J.seq ?_
  unfold bigV at H hY
  refine J.region ?_
  refine JL.go trivial (RX.assign) ?_
  refine JL.nil ?_
  refine J.seq ?_
  refine J.region ?_
  refine JL.go trivial (RX.movev (v := Value.pointer _) rfl) ?_
  refine JL.go trivial (RX.nilCheck rfl) ?_
  refine JL.go trivial (RX.fieldAddr rfl fo53_0 rfl) ?_
  refine JL.go trivial (RX.load H rfl (i := 0) (v := .bool _) rfl rfl one4) ?_
  refine JL.go trivial (RX.assignv (v := Value.bool _) rfl) ?_
  refine JL.nil ?_
  refine J.seq ?_
  refine J.seq ?_
  refine J.quietH H hmix (by kernel_rfl) ?_
  refine JQ.go trivial (fun w H => RX.movev (v := Value.pointer _) rfl) ?_
  refine JQ.go trivial (fun w H => RX.nilCheck rfl) ?_
  refine JQ.go trivial (fun w H => RX.fieldAddr rfl fo53_0 rfl) ?_
  refine JQ.go trivial (fun w H => RX.load H rfl (i := 0) (v := .bool _) rfl rfl one4) ?_
  refine JQ.go trivial (fun w H => RX.movev (v := Value.pointer _) rfl) ?_
  refine JQ.go trivial (fun w H => RX.nilCheck rfl) ?_
  refine JQ.go trivial (fun w H => RX.fieldAddr rfl fo53_0 rfl) ?_
  refine JQ.go trivial (fun w H => RX.loadS H hY.cons.cons rfl (j := 0) rfl (v := .bool _) rfl one4) ?_
  refine JQ.go trivial (fun w H => RX.bool_eql rfl rfl ud4) ?_
  refine JQ.nil fun w H => ?_
  refine J.cond rfl (fun h20 => ?_) (fun h20 => ?_)
  · skip
    have hsg : (vz < 0 ↔ vy < 0) := by simpa using h20
    have hr : vz.natAbs + vy.natAbs = (vz + vy).natAbs := by omega
    refine J.any hmix fun w hs => ?_
    replace H := H.same hs; clear hs
    refine JA.take 0 (listed' := [true, false, false, false, false, false, false, false, false, false, false, false, false, false, false, false, false]) rfl (by kernel_rfl) (by kernel_rfl) (by kernel_rfl) rfl trivial (fun w => RX.movev (v := Value.pointer _) rfl) ?_
    refine JA.stage (listed := [true, false, false, false, false, false, false, false, false, false, false, false, false, false, false, false, false]) 13 [1, 2, 3, 4, 5, 6, 7, 8, 9, 10, 11, 12] H (by kernel_rfl) rfl rfl ?_
    refine JI.go rfl trivial (fun w H => RX.movev (v := Value.pointer _) rfl) ?_
    refine JI.go rfl trivial (fun w H => RX.nilCheck rfl) ?_
    refine JI.go rfl trivial (fun w H => RX.fieldAddr rfl fo53_1 rfl) ?_
    refine JI.go rfl trivial (fun w H => RX.load H rfl (i := 0) (v := .slice _ _ _) rfl rfl one51) ?_
    refine JI.go rfl trivial (fun w H => RX.movev (v := Value.pointer _) rfl) ?_
    refine JI.go rfl trivial (fun w H => RX.nilCheck rfl) ?_
    refine JI.go rfl trivial (fun w H => RX.fieldAddr rfl fo53_1 rfl) ?_
    refine JI.go rfl trivial (fun w H => RX.load H rfl (i := 0) (v := .slice _ _ _) rfl rfl one51) ?_
    refine JI.go rfl trivial (fun w H => RX.movev (v := Value.pointer _) rfl) ?_
    refine JI.go rfl trivial (fun w H => RX.nilCheck rfl) ?_
    refine JI.go rfl trivial (fun w H => RX.fieldAddr rfl fo53_1 rfl) ?_
    refine JI.go rfl trivial (fun w H => RX.loadS H hY.cons.cons rfl (j := 1) rfl (v := .slice _ _ _) rfl one51) ?_
    refine JI.nil fun w H => ?_
    refine JL.does trivial (EX.call rfl cl38 rfl ((natAddG (H.pull 1 rfl) ho hyw.cons.cons hvz hvy hr))) ?_
    rintro _ w ⟨q, c, s1, G, rfl, ho1, hG, H⟩
    replace H := hG.drop H
    refine JL.go trivial (RX.nilCheck rfl) ?_
    refine JL.go trivial (RX.fieldAddr rfl fo53_1 rfl) ?_
    refine JL.does trivial (EX.store (v := Value.slice _ _ _) H rfl rfl (i := 1) rfl rfl (by simp) sz51 rfl rfl) ?_
    rintro _ w H
    refine JL.nil ?_
    refine J.seq ?_
    refine J.region ?_
    refine JL.go trivial (RX.movev (v := Value.pointer _) rfl) ?_
    refine JL.go trivial (RX.movev (v := Value.pointer _) rfl) ?_
    refine JL.go trivial (RX.nilCheck rfl) ?_
    refine JL.go trivial (RX.fieldAddr rfl fo53_1 rfl) ?_
    refine JL.go trivial (RX.load H rfl (i := 1) (v := .slice _ _ _) rfl rfl one51) ?_
    refine JL.go trivial (RX.len_slice rfl (by rw [sl51]; rfl) rfl) ?_
    refine JL.go trivial (RX.gt rfl rfl) ?_
    refine JL.go trivial (RX.movev (v := Value.bool _) rfl) ?_
    refine JL.splitS 88 rfl (fun hg => ?_) (fun hg => ?_)
    · skip
      first | have hgp := of_decide_eq_true hg | skip
      refine JL.go ⟨_, rfl, hg⟩ (RX.movev (v := Value.bool _) rfl) ?_
      refine JL.go trivial (RX.pick_t rfl hg) ?_
      refine JL.go trivial (RX.nilCheck rfl) ?_
      refine JL.go trivial (RX.fieldAddr rfl fo53_0 rfl) ?_
      refine JL.does trivial (EX.store (v := Value.bool _) H rfl rfl (i := 1) rfl rfl (by simp) sz4 rfl rfl) ?_
      rintro _ w H
      refine JL.nil ?_
      refine J.seq ?_
      refine J.region ?_
      refine JL.go trivial (RX.movev (v := Value.pointer _) rfl) ?_
      refine JL.go trivial (RX.assignv (v := Value.pointer _) rfl) ?_
      refine JL.nil ?_
      refine J.ret1 (v := Value.pointer _) Tryz.func24 rfl rfl ?_
      have hnz := wd_nz (show ¬ ((wd (vz + vy).natAbs).length : Int) = 0 by have := of_decide_eq_true hg; omega)
      have e : decide (vz + vy < 0) = decide (vz < 0) := decide_eq_decide.2 (by constructor <;> intro _ <;> omega)
      refine ⟨_, rfl, q, c, s1, rfl, ho1, ?_⟩
      unfold bigV
      rw [e]
      exact H.pull 1 rfl
    · skip
      first | have hgp := of_decide_eq_false hg | skip
      refine JL.no ⟨_, rfl, gno hg⟩ ?_
      refine JL.go trivial (RX.pick_f rfl hg) ?_
      refine JL.go trivial (RX.nilCheck rfl) ?_
      refine JL.go trivial (RX.fieldAddr rfl fo53_0 rfl) ?_
      refine JL.does trivial (EX.store (v := Value.bool _) H rfl rfl (i := 1) rfl rfl (by simp) sz4 rfl rfl) ?_
      rintro _ w H
      refine JL.nil ?_
      refine J.seq ?_
      refine J.region ?_
      refine JL.go trivial (RX.movev (v := Value.pointer _) rfl) ?_
      refine JL.go trivial (RX.assignv (v := Value.pointer _) rfl) ?_
      refine JL.nil ?_
      refine J.ret1 (v := Value.pointer _) Tryz.func24 rfl rfl ?_
      have hnz := wd_zero (show ((wd (vz + vy).natAbs).length : Int) = 0 by have := of_decide_eq_false hg; omega)
      have e : decide (vz + vy < 0) = false := decide_eq_false (by omega)
      refine ⟨_, rfl, q, c, s1, rfl, ho1, ?_⟩
      unfold bigV
      rw [e]
      exact H.pull 1 rfl
  · skip
    have hsg : ¬ (vz < 0 ↔ vy < 0) := by
      intro e
      rw [show decide (vz < 0) = decide (vy < 0) from decide_eq_decide.2 e] at h20
      simp at h20
    refine J.seq ?_
    refine J.any hmix fun w hs => ?_
    replace H := H.same hs; clear hs
    refine JA.stage (listed := [false, false, false, false, false, false, false, false, false, false]) 8 [0, 1, 2, 3, 4, 5, 6, 7] H (by kernel_rfl) rfl rfl ?_
    refine JI.go rfl trivial (fun w H => RX.movev (v := Value.pointer _) rfl) ?_
    refine JI.go rfl trivial (fun w H => RX.nilCheck rfl) ?_
    refine JI.go rfl trivial (fun w H => RX.fieldAddr rfl fo53_1 rfl) ?_
    refine JI.go rfl trivial (fun w H => RX.load H rfl (i := 0) (v := .slice _ _ _) rfl rfl one51) ?_
    refine JI.go rfl trivial (fun w H => RX.movev (v := Value.pointer _) rfl) ?_
    refine JI.go rfl trivial (fun w H => RX.nilCheck rfl) ?_
    refine JI.go rfl trivial (fun w H => RX.fieldAddr rfl fo53_1 rfl) ?_
    refine JI.go rfl trivial (fun w H => RX.loadS H hY.cons.cons rfl (j := 1) rfl (v := .slice _ _ _) rfl one51) ?_
    refine JI.nil fun w H => ?_
    refine JL.does trivial (EX.call rfl cl39 rfl ((natCmpG H ho.slAt.cons hyw.cons.cons.2.2.1 hvz hvy))) ?_
    rintro _ w ⟨r, rfl, hrr, H⟩
    refine JL.go trivial (RX.ge rfl rfl) ?_
    refine JL.nil ?_
    refine J.cond_d rfl (fun hge => ?_) (fun hge => ?_)
    · skip
      have hba : vy.natAbs ≤ vz.natAbs := hrr.1 hge
      have hr : vz.natAbs - vy.natAbs = (vz + vy).natAbs := by omega
      refine J.any hmix fun w hs => ?_
      replace H := H.same hs; clear hs
      refine JA.take 0 (listed' := [true, false, false, false, false, false, false, false, false, false, false, false, false, false, false, false, false]) rfl (by kernel_rfl) (by kernel_rfl) (by kernel_rfl) rfl trivial (fun w => RX.movev (v := Value.pointer _) rfl) ?_
      refine JA.stage (listed := [true, false, false, false, false, false, false, false, false, false, false, false, false, false, false, false, false]) 13 [1, 2, 3, 4, 5, 6, 7, 8, 9, 10, 11, 12] H (by kernel_rfl) rfl rfl ?_
      refine JI.go rfl trivial (fun w H => RX.movev (v := Value.pointer _) rfl) ?_
      refine JI.go rfl trivial (fun w H => RX.nilCheck rfl) ?_
      refine JI.go rfl trivial (fun w H => RX.fieldAddr rfl fo53_1 rfl) ?_
      refine JI.go rfl trivial (fun w H => RX.load H rfl (i := 0) (v := .slice _ _ _) rfl rfl one51) ?_
      refine JI.go rfl trivial (fun w H => RX.movev (v := Value.pointer _) rfl) ?_
      refine JI.go rfl trivial (fun w H => RX.nilCheck rfl) ?_
      refine JI.go rfl trivial (fun w H => RX.fieldAddr rfl fo53_1 rfl) ?_
      refine JI.go rfl trivial (fun w H => RX.load H rfl (i := 0) (v := .slice _ _ _) rfl rfl one51) ?_
      refine JI.go rfl trivial (fun w H => RX.movev (v := Value.pointer _) rfl) ?_
      refine JI.go rfl trivial (fun w H => RX.nilCheck rfl) ?_
      refine JI.go rfl trivial (fun w H => RX.fieldAddr rfl fo53_1 rfl) ?_
      refine JI.go rfl trivial (fun w H => RX.loadS H hY.cons.cons rfl (j := 1) rfl (v := .slice _ _ _) rfl one51) ?_
      refine JI.nil fun w H => ?_
      refine JL.does trivial (EX.call rfl cl40 rfl ((natSubG (H.pull 1 rfl) ho (rowAt_own ho) hyw.cons.cons hba hvz hr))) ?_
      rintro _ w ⟨q, c, s1, G, rfl, ho1, hG, H⟩
      replace H := hG.drop H
      refine JL.go trivial (RX.nilCheck rfl) ?_
      refine JL.go trivial (RX.fieldAddr rfl fo53_1 rfl) ?_
      refine JL.does trivial (EX.store (v := Value.slice _ _ _) H rfl rfl (i := 1) rfl rfl (by simp) sz51 rfl rfl) ?_
      rintro _ w H
      refine JL.nil ?_
      refine J.seq ?_
      refine J.region ?_
      refine JL.go trivial (RX.movev (v := Value.pointer _) rfl) ?_
      refine JL.go trivial (RX.movev (v := Value.pointer _) rfl) ?_
      refine JL.go trivial (RX.nilCheck rfl) ?_
      refine JL.go trivial (RX.fieldAddr rfl fo53_1 rfl) ?_
      refine JL.go trivial (RX.load H rfl (i := 1) (v := .slice _ _ _) rfl rfl one51) ?_
      refine JL.go trivial (RX.len_slice rfl (by rw [sl51]; rfl) rfl) ?_
      refine JL.go trivial (RX.gt rfl rfl) ?_
      refine JL.go trivial (RX.movev (v := Value.bool _) rfl) ?_
      refine JL.splitS 88 rfl (fun hg => ?_) (fun hg => ?_)
      · skip
        first | have hgp := of_decide_eq_true hg | skip
        refine JL.go ⟨_, rfl, hg⟩ (RX.movev (v := Value.bool _) rfl) ?_
        refine JL.go trivial (RX.pick_t rfl hg) ?_
        refine JL.go trivial (RX.nilCheck rfl) ?_
        refine JL.go trivial (RX.fieldAddr rfl fo53_0 rfl) ?_
        refine JL.does trivial (EX.store (v := Value.bool _) H rfl rfl (i := 1) rfl rfl (by simp) sz4 rfl rfl) ?_
        rintro _ w H
        refine JL.nil ?_
        refine J.seq ?_
        refine J.region ?_
        refine JL.go trivial (RX.movev (v := Value.pointer _) rfl) ?_
        refine JL.go trivial (RX.assignv (v := Value.pointer _) rfl) ?_
        refine JL.nil ?_
        refine J.ret1 (v := Value.pointer _) Tryz.func24 rfl rfl ?_
        have hnz := wd_nz (show ¬ ((wd (vz + vy).natAbs).length : Int) = 0 by have := of_decide_eq_true hg; omega)
        have e : decide (vz + vy < 0) = decide (vz < 0) := decide_eq_decide.2 (by constructor <;> intro _ <;> omega)
        refine ⟨_, rfl, q, c, s1, rfl, ho1, ?_⟩
        unfold bigV
        rw [e]
        exact H.pull 1 rfl
      · skip
        first | have hgp := of_decide_eq_false hg | skip
        refine JL.no ⟨_, rfl, gno hg⟩ ?_
        refine JL.go trivial (RX.pick_f rfl hg) ?_
        refine JL.go trivial (RX.nilCheck rfl) ?_
        refine JL.go trivial (RX.fieldAddr rfl fo53_0 rfl) ?_
        refine JL.does trivial (EX.store (v := Value.bool _) H rfl rfl (i := 1) rfl rfl (by simp) sz4 rfl rfl) ?_
        rintro _ w H
        refine JL.nil ?_
        refine J.seq ?_
        refine J.region ?_
        refine JL.go trivial (RX.movev (v := Value.pointer _) rfl) ?_
        refine JL.go trivial (RX.assignv (v := Value.pointer _) rfl) ?_
        refine JL.nil ?_
        refine J.ret1 (v := Value.pointer _) Tryz.func24 rfl rfl ?_
        have hnz := wd_zero (show ((wd (vz + vy).natAbs).length : Int) = 0 by have := of_decide_eq_false hg; omega)
        have e : decide (vz + vy < 0) = false := decide_eq_false (by omega)
        refine ⟨_, rfl, q, c, s1, rfl, ho1, ?_⟩
        unfold bigV
        rw [e]
        exact H.pull 1 rfl
    · skip
      have hba : vz.natAbs < vy.natAbs := by have := mt hrr.2 hge; omega
      have hr : vy.natAbs - vz.natAbs = (vz + vy).natAbs := by omega
      refine J.seq ?_
      refine J.region ?_
      refine JL.go trivial (RX.movev (v := Value.bool _) rfl) ?_
      refine JL.go trivial (RX.not rfl) ?_
      refine JL.go trivial (RX.assignv (v := Value.bool _) rfl) ?_
      refine JL.nil ?_
      refine J.any hmix fun w hs => ?_
      replace H := H.same hs; clear hs
      refine JA.take 0 (listed' := [true, false, false, false, false, false, false, false, false, false, false, false, false, false, false, false, false]) rfl (by kernel_rfl) (by kernel_rfl) (by kernel_rfl) rfl trivial (fun w => RX.movev (v := Value.pointer _) rfl) ?_
      refine JA.stage (listed := [true, false, false, false, false, false, false, false, false, false, false, false, false, false, false, false, false]) 13 [1, 2, 3, 4, 5, 6, 7, 8, 9, 10, 11, 12] H (by kernel_rfl) rfl rfl ?_
      refine JI.go rfl trivial (fun w H => RX.movev (v := Value.pointer _) rfl) ?_
      refine JI.go rfl trivial (fun w H => RX.nilCheck rfl) ?_
      refine JI.go rfl trivial (fun w H => RX.fieldAddr rfl fo53_1 rfl) ?_
      refine JI.go rfl trivial (fun w H => RX.load H rfl (i := 0) (v := .slice _ _ _) rfl rfl one51) ?_
      refine JI.go rfl trivial (fun w H => RX.movev (v := Value.pointer _) rfl) ?_
      refine JI.go rfl trivial (fun w H => RX.nilCheck rfl) ?_
      refine JI.go rfl trivial (fun w H => RX.fieldAddr rfl fo53_1 rfl) ?_
      refine JI.go rfl trivial (fun w H => RX.loadS H hY.cons.cons rfl (j := 1) rfl (v := .slice _ _ _) rfl one51) ?_
      refine JI.go rfl trivial (fun w H => RX.movev (v := Value.pointer _) rfl) ?_
      refine JI.go rfl trivial (fun w H => RX.nilCheck rfl) ?_
      refine JI.go rfl trivial (fun w H => RX.fieldAddr rfl fo53_1 rfl) ?_
      refine JI.go rfl trivial (fun w H => RX.load H rfl (i := 0) (v := .slice _ _ _) rfl rfl one51) ?_
      refine JI.nil fun w H => ?_
      refine JL.does trivial (EX.call rfl cl40 rfl ((natSubG (H.pull 1 rfl) ho hyw.cons.cons (rowAt_own ho) (by omega) hvy hr))) ?_
      rintro _ w ⟨q, c, s1, G, rfl, ho1, hG, H⟩
      replace H := hG.drop H
      refine JL.go trivial (RX.nilCheck rfl) ?_
      refine JL.go trivial (RX.fieldAddr rfl fo53_1 rfl) ?_
      refine JL.does trivial (EX.store (v := Value.slice _ _ _) H rfl rfl (i := 1) rfl rfl (by simp) sz51 rfl rfl) ?_
      rintro _ w H
      refine JL.nil ?_
      refine J.seq ?_
      refine J.region ?_
      refine JL.go trivial (RX.movev (v := Value.pointer _) rfl) ?_
      refine JL.go trivial (RX.movev (v := Value.pointer _) rfl) ?_
      refine JL.go trivial (RX.nilCheck rfl) ?_
      refine JL.go trivial (RX.fieldAddr rfl fo53_1 rfl) ?_
      refine JL.go trivial (RX.load H rfl (i := 1) (v := .slice _ _ _) rfl rfl one51) ?_
      refine JL.go trivial (RX.len_slice rfl (by rw [sl51]; rfl) rfl) ?_
      refine JL.go trivial (RX.gt rfl rfl) ?_
      refine JL.go trivial (RX.movev (v := Value.bool _) rfl) ?_
      refine JL.splitS 88 rfl (fun hg => ?_) (fun hg => ?_)
      · skip
        first | have hgp := of_decide_eq_true hg | skip
        refine JL.go ⟨_, rfl, hg⟩ (RX.movev (v := Value.bool _) rfl) ?_
        refine JL.go trivial (RX.pick_t rfl hg) ?_
        refine JL.go trivial (RX.nilCheck rfl) ?_
        refine JL.go trivial (RX.fieldAddr rfl fo53_0 rfl) ?_
        refine JL.does trivial (EX.store (v := Value.bool _) H rfl rfl (i := 1) rfl rfl (by simp) sz4 rfl rfl) ?_
        rintro _ w H
        refine JL.nil ?_
        refine J.seq ?_
        refine J.region ?_
        refine JL.go trivial (RX.movev (v := Value.pointer _) rfl) ?_
        refine JL.go trivial (RX.assignv (v := Value.pointer _) rfl) ?_
        refine JL.nil ?_
        refine J.ret1 (v := Value.pointer _) Tryz.func24 rfl rfl ?_
        have hnz := wd_nz (show ¬ ((wd (vz + vy).natAbs).length : Int) = 0 by have := of_decide_eq_true hg; omega)
        have e : decide (vz + vy < 0) = !decide (vz < 0) := by rw [← decide_not]; exact decide_eq_decide.2 (by constructor <;> intro _ <;> omega)
        refine ⟨_, rfl, q, c, s1, rfl, ho1, ?_⟩
        unfold bigV
        rw [e]
        exact H.pull 1 rfl
      · skip
        first | have hgp := of_decide_eq_false hg | skip
        refine JL.no ⟨_, rfl, gno hg⟩ ?_
        refine JL.go trivial (RX.pick_f rfl hg) ?_
        refine JL.go trivial (RX.nilCheck rfl) ?_
        refine JL.go trivial (RX.fieldAddr rfl fo53_0 rfl) ?_
        refine JL.does trivial (EX.store (v := Value.bool _) H rfl rfl (i := 1) rfl rfl (by simp) sz4 rfl rfl) ?_
        rintro _ w H
        refine JL.nil ?_
        refine J.seq ?_
        refine J.region ?_
        refine JL.go trivial (RX.movev (v := Value.pointer _) rfl) ?_
        refine JL.go trivial (RX.assignv (v := Value.pointer _) rfl) ?_
        refine JL.nil ?_
        refine J.ret1 (v := Value.pointer _) Tryz.func24 rfl rfl ?_
        have hnz := wd_zero (show ((wd (vz + vy).natAbs).length : Int) = 0 by have := of_decide_eq_false hg; omega)
        have e : decide (vz + vy < 0) = false := decide_eq_false (by omega)
        refine ⟨_, rfl, q, c, s1, rfl, ho1, ?_⟩
        unfold bigV
        rw [e]
        exact H.pull 1 rfl
set_option maxHeartbeats 1600000 in
theorem NewInt_b {w0 w : World} {F : List Seg} (H : Hp w0 w F) {v : Int} (hv : v.natAbs ≤ 9223372036854775808) : Ret Tryz.prog 22 [.int .i64 v] w fun u w' => ∃ b q c sl, u = .pointer (some ⟨b, 0, none⟩) ∧ OwnW q (wd v.natAbs) c sl ∧ Hp w0 w' ([(b, cel (bigV v q c) 53)] :: sl :: F) := by
  refine Calls.of_J (n := 29) Tryz.func22 rfl rfl rfl ?_
  refine J.seq ?_
  refine J.region ?_
  refine JL.go trivial (RX.assign) ?_
  refine JL.nil ?_
  refine J.seq ?_
  refine J.region ?_
  refine JL.go trivial (RX.movev (v := Value.int _ _) rfl) ?_
  refine JL.go trivial (RX.conv rfl (by rw [ki2]; rfl) ki37 (rfl : IntKind.u64.wrap v = IntKind.u64.wrap v)) ?_
  refine JL.go trivial (RX.assignv (v := Value.int _ _) rfl) ?_
  refine JL.nil ?_
  refine J.seq ?_
  refine J.seq ?_
  refine J.region ?_
  refine JL.go trivial (RX.movev (v := Value.int _ _) rfl) ?_
  refine JL.go trivial (RX.lt rfl rfl) ?_
  refine JL.nil ?_
  refine J.cond_d rfl (fun hneg => ?_) (fun hneg => ?_)
  · skip
    refine J.region ?_
    refine JL.go trivial (RX.movev (v := Value.int _ _) rfl) ?_
    refine JL.go trivial (RX.neg rfl (wneg hneg hv)) ?_
    refine JL.go trivial (RX.assignv (v := Value.int _ _) rfl) ?_
    refine JL.nil ?_
    refine J.seq ?_
    refine J.region ?_
    refine JL.go trivial (RX.assign) ?_
    refine JL.nil ?_
    refine J.seq ?_
    refine J.seq ?_
    refine J.region ?_
    refine JL.go trivial (RX.movev (v := Value.int _ _) rfl) ?_
    refine JL.go trivial (RX.eq rfl rfl) ?_
    refine JL.nil ?_
    refine J.cond_d rfl (fun hz => ?_) (fun hz => ?_)
    · skip
      exfalso
      omega
    · skip
      refine J.seq ?_
      refine J.region ?_
      refine JL.go trivial (RX.move) ?_
      refine JL.no ⟨_, rfl, gno rfl⟩ ?_
      refine JL.no ⟨_, rfl, gno rfl⟩ ?_
      refine JL.no ⟨_, rfl, gno rfl⟩ ?_
      refine JL.go trivial (RX.pick_f rfl rfl) ?_
      refine JL.nil ?_
      refine J.cond_f rfl rfl ?_
      refine J.region ?_
      refine JL.go trivial (RX.movev (v := Value.int _ _) rfl) ?_
      refine JL.does trivial (EX.buildSlice1 H elW rfl rfl) ?_
      rintro _ w ⟨bz, rfl, H⟩
      refine JL.go trivial (RX.assignv (v := Value.slice _ _ _) rfl) ?_
      refine JL.nil ?_
      refine J.seq ?_
      refine J.region ?_
      refine JL.go trivial (RX.movev (v := Value.int _ _) rfl) ?_
      refine JL.go trivial (RX.lt rfl rfl) ?_
      refine JL.go trivial (RX.movev (v := Value.slice _ _ _) rfl) ?_
      refine JL.go trivial (RX.build (pv := [(0, .bool (decide (v < 0))), (1, .slice (some ⟨bz, 0, none⟩) 1 1)]) (res := [.bool (decide (v < 0)), .slice (some ⟨bz, 0, none⟩) 1 1]) rfl (by kernel_rfl)) ?_
      refine JL.does trivial (EX.box (v := Value.agg _) H rfl rfl) ?_
      rintro _ w ⟨b1, rfl, H⟩
      refine JL.go trivial (RX.assignv (v := Value.pointer _) rfl) ?_
      refine JL.nil ?_
      refine J.ret1 (v := Value.pointer _) Tryz.func22 rfl rfl ?_
      have hp : 0 < v.natAbs := by omega
      unfold bigV
      rw [wd_pos hp (by omega)]
      exact ⟨_, rfl, b1, _, _, _, rfl, ownW_one _, H⟩
  · skip
    have e : IntKind.u64.wrap v = ((v.natAbs : Nat) : Int) := w_u64 (by omega) (by omega) (by omega)
    rw [e]
    refine J.skip ?_
    refine J.seq ?_
    refine J.region ?_
    refine JL.go trivial (RX.assign) ?_
    refine JL.nil ?_
    refine J.seq ?_
    refine J.seq ?_
    refine J.region ?_
    refine JL.go trivial (RX.movev (v := Value.int _ _) rfl) ?_
    refine JL.go trivial (RX.eq rfl rfl) ?_
    refine JL.nil ?_
    refine J.cond_d rfl (fun hz => ?_) (fun hz => ?_)
    · skip
      replace H := H.nil
      refine J.skip ?_
      refine J.seq ?_
      refine J.region ?_
      refine JL.go trivial (RX.movev (v := Value.int _ _) rfl) ?_
      refine JL.go trivial (RX.lt rfl rfl) ?_
      refine JL.go trivial (RX.movev (v := Value.slice _ _ _) rfl) ?_
      refine JL.go trivial (RX.build (pv := [(0, .bool (decide (v < 0))), (1, .slice none 0 0)]) (res := [.bool (decide (v < 0)), .slice none 0 0]) rfl (by kernel_rfl)) ?_
      refine JL.does trivial (EX.box (v := Value.agg _) H rfl rfl) ?_
      rintro _ w ⟨b1, rfl, H⟩
      refine JL.go trivial (RX.assignv (v := Value.pointer _) rfl) ?_
      refine JL.nil ?_
      refine J.ret1 (v := Value.pointer _) Tryz.func22 rfl rfl ?_
      subst hz
      exact ⟨_, rfl, b1, none, 0, [], rfl, ownW_nil, H⟩
    · skip
      refine J.seq ?_
      refine J.region ?_
      refine JL.go trivial (RX.move) ?_
      refine JL.no ⟨_, rfl, gno rfl⟩ ?_
      refine JL.no ⟨_, rfl, gno rfl⟩ ?_
      refine JL.no ⟨_, rfl, gno rfl⟩ ?_
      refine JL.go trivial (RX.pick_f rfl rfl) ?_
      refine JL.nil ?_
      refine J.cond_f rfl rfl ?_
      refine J.region ?_
      refine JL.go trivial (RX.movev (v := Value.int _ _) rfl) ?_
      refine JL.does trivial (EX.buildSlice1 H elW rfl rfl) ?_
      rintro _ w ⟨bz, rfl, H⟩
      refine JL.go trivial (RX.assignv (v := Value.slice _ _ _) rfl) ?_
      refine JL.nil ?_
      refine J.seq ?_
      refine J.region ?_
      refine JL.go trivial (RX.movev (v := Value.int _ _) rfl) ?_
      refine JL.go trivial (RX.lt rfl rfl) ?_
      refine JL.go trivial (RX.movev (v := Value.slice _ _ _) rfl) ?_
      refine JL.go trivial (RX.build (pv := [(0, .bool (decide (v < 0))), (1, .slice (some ⟨bz, 0, none⟩) 1 1)]) (res := [.bool (decide (v < 0)), .slice (some ⟨bz, 0, none⟩) 1 1]) rfl (by kernel_rfl)) ?_
      refine JL.does trivial (EX.box (v := Value.agg _) H rfl rfl) ?_
      rintro _ w ⟨b1, rfl, H⟩
      refine JL.go trivial (RX.assignv (v := Value.pointer _) rfl) ?_
      refine JL.nil ?_
      refine J.ret1 (v := Value.pointer _) Tryz.func22 rfl rfl ?_
      have hp : 0 < v.natAbs := by omega
      unfold bigV
      rw [wd_pos hp (by omega)]
      exact ⟨_, rfl, b1, _, _, _, rfl, ownW_one _, H⟩
set_option maxHeartbeats 1600000 in
theorem low64_b {w0 w : World} {F : List Seg} (H : Hp w0 w F) {a c : Nat} {q : Option Addr} (hs : SlAt F q (u64sV (wd a))) (ha : a < 18446744073709551616) : Ret Tryz.prog 58 [.slice q (wd a).length c] w fun v w' => v = .int .u64 ((a : Nat) : Int) ∧ Hp w0 w' F := by
  refine Calls.of_J (n := 22) Tryz.func58 rfl rfl rfl ?_
  refine J.seq ?_
  refine J.region ?_
  refine JL.go trivial (RX.assign) ?_
  refine JL.nil ?_
  refine J.seq ?_
  refine J.seq ?_
  refine J.region ?_
  refine JL.go trivial (RX.movev (v := Value.slice _ _ _) rfl) ?_
  refine JL.go trivial (RX.len_slice rfl (by rw [sl51]; rfl) rfl) ?_
  refine JL.go trivial (RX.eq rfl rfl) ?_
  refine JL.nil ?_
  refine J.cond_d rfl (fun h0 => ?_) (fun h0 => ?_)
  · skip
    refine J.seq ?_
    refine J.region ?_
    refine JL.go trivial (RX.assign) ?_
    refine JL.nil ?_
    refine J.ret1 (v := Value.int _ _) Tryz.func58 rfl rfl ?_
    obtain rfl := wd_zero h0
    exact ⟨_, rfl, rfl, H⟩
  · skip
    have hp := wd_nz h0
    rw [wd_pos hp ha] at hs ⊢
    obtain ⟨pb, po, rfl, hpp⟩ := hs.some (by rw [u64sV_len]; exact Nat.one_pos)
    refine J.skip ?_
    refine J.seq ?_
    refine J.region ?_
    refine JL.go trivial (RX.movev (v := Value.slice _ _ _) rfl) ?_
    refine JL.go trivial (RX.indexAddr rfl rfl sl51 (by omega) (by simp) (o' := po) (by omega)) ?_
    refine JL.go trivial (RX.loadS H hs rfl (j := 0) (by omega) (v := .int .u64 (a : Int)) rfl one63) ?_
    refine JL.go trivial (RX.assignv (v := Value.int _ _) rfl) ?_
    refine JL.nil ?_
    refine J.seq ?_
    refine J.seq ?_
    refine J.region ?_
    refine JL.go trivial (RX.move) ?_
    refine JL.no ⟨_, rfl, gno rfl⟩ ?_
    refine JL.no ⟨_, rfl, gno rfl⟩ ?_
    refine JL.no ⟨_, rfl, gno rfl⟩ ?_
    refine JL.go trivial (RX.pick_f rfl rfl) ?_
    refine JL.nil ?_
    refine J.cond_f rfl rfl ?_
    refine J.skip ?_
    refine J.seq ?_
    refine J.region ?_
    refine JL.go trivial (RX.movev (v := Value.int _ _) rfl) ?_
    refine JL.go trivial (RX.assignv (v := Value.int _ _) rfl) ?_
    refine JL.nil ?_
    refine J.ret1 (v := Value.int _ _) Tryz.func58 rfl rfl ?_
    exact ⟨_, rfl, rfl, H⟩
set_option maxHeartbeats 1600000 in
theorem isInt64_b {w0 w : World} {F : List Seg} (H : Hp w0 w F) {bx : Nat} {v : Int} {qx : Option Addr} {cx : Nat} (hX : SlAt F (some ⟨bx, 0, none⟩) (bigV v qx cx)) (hxw : SlAt F qx (u64sV (wd v.natAbs))) : Ret Tryz.prog 41 [.pointer (some ⟨bx, 0, none⟩)] w fun u w' => u = .bool (decide (i64in v)) ∧ Hp w0 w' F := by
  refine Calls.of_J (n := 30) Tryz.func41 rfl rfl rfl ?_
  refine J.seq ?_
  refine J.region ?_
  refine JL.go trivial (RX.assign) ?_
  refine JL.nil ?_
  refine J.seq ?_
  refine J.seq ?_
  refine J.region ?_
  refine JL.go trivial (RX.movev (v := Value.pointer _) rfl) ?_
  refine JL.go trivial (RX.nilCheck rfl) ?_
  refine JL.go trivial (RX.fieldAddr rfl fo53_1 rfl) ?_
  refine JL.go trivial (RX.loadS H hX rfl (j := 1) rfl (v := .slice _ _ _) rfl one51) ?_
  refine JL.go trivial (RX.len_slice rfl (by rw [sl51]; rfl) rfl) ?_
  refine JL.go trivial (RX.le rfl rfl) ?_
  refine JL.nil ?_
  refine J.cond_d rfl (fun h9 => ?_) (fun h9 => ?_)
  · skip
    have ha : v.natAbs < 18446744073709551616 := wd_big (by omega)
    have hs1 := sgW_lt ha
    refine J.seq ?_
    refine J.region ?_
    refine JL.go trivial (RX.movev (v := Value.pointer _) rfl) ?_
    refine JL.go trivial (RX.nilCheck rfl) ?_
    refine JL.go trivial (RX.fieldAddr rfl fo53_1 rfl) ?_
    refine JL.go trivial (RX.loadS H hX rfl (j := 1) rfl (v := .slice _ _ _) rfl one51) ?_
    refine JL.does trivial (EX.call rfl cl58 rfl ((low64_b H hxw ha))) ?_
    rintro _ w ⟨rfl, H⟩
    refine JL.go trivial (RX.conv rfl (by rw [ki37]; rfl) ki2 (wrapW ha)) ?_
    refine JL.go trivial (RX.assignv (v := Value.int _ _) rfl) ?_
    refine JL.nil ?_
    refine J.seq ?_
    refine J.region ?_
    refine JL.go trivial (RX.movev (v := Value.int _ _) rfl) ?_
    refine JL.go trivial (RX.ge rfl rfl) ?_
    refine JL.go trivial (RX.movev (v := Value.bool _) rfl) ?_
    refine JL.splitS 18 rfl (fun hg => ?_) (fun hg => ?_)
    · skip
      first | have hgp := of_decide_eq_true hg | skip
      have hg1 := of_decide_eq_true hg
      refine JL.no ⟨_, rfl, gno hg⟩ ?_
      refine JL.no ⟨_, rfl, gno hg⟩ ?_
      refine JL.no ⟨_, rfl, gno hg⟩ ?_
      refine JL.no ⟨_, rfl, gno hg⟩ ?_
      refine JL.no ⟨_, rfl, gno hg⟩ ?_
      refine JL.no ⟨_, rfl, nofun⟩ ?_
      refine JL.no ⟨_, rfl, nofun⟩ ?_
      refine JL.no ⟨_, rfl, nofun⟩ ?_
      refine JL.no ⟨_, rfl, nofun⟩ ?_
      refine JL.no ⟨_, rfl, gno hg⟩ ?_
      refine JL.go trivial (RX.pick_t rfl hg) ?_
      refine JL.go trivial (RX.assignv (v := Value.bool _) rfl) ?_
      refine JL.nil ?_
      refine J.ret1 (v := Value.bool _) Tryz.func41 rfl rfl ?_
      refine ⟨_, rfl, ?_, H⟩
      congr 1
      unfold sgW at *
      first
        | (have k : i64in v := by (unfold i64in; split at hg1 <;> omega)
           exact (decide_eq_true k).symm)
        | (have k : ¬ i64in v := by (have := of_decide_eq_false hn; unfold i64in; split at hg1 <;> omega)
           exact (decide_eq_false k).symm)
        | (have k : ¬ i64in v := by (unfold i64in; omega)
           exact (decide_eq_false k).symm)
        | (have hn1 := of_decide_eq_true hn
           refine decide_eq_decide.2 ?_
           unfold i64in
           repeat split
           all_goals omega)
    · skip
      first | have hgp := of_decide_eq_false hg | skip
      have hg1 := of_decide_eq_false hg
      refine JL.go ⟨_, rfl, hg⟩ (RX.movev (v := Value.pointer _) rfl) ?_
      refine JL.go ⟨_, rfl, hg⟩ (RX.nilCheck rfl) ?_
      refine JL.go ⟨_, rfl, hg⟩ (RX.fieldAddr rfl fo53_0 rfl) ?_
      refine JL.go ⟨_, rfl, hg⟩ (RX.loadS H hX rfl (j := 0) rfl (v := .bool _) rfl one4) ?_
      refine JL.go ⟨_, rfl, hg⟩ (RX.movev (v := Value.bool _) rfl) ?_
      refine JL.splitS 23 rfl (fun hn => ?_) (fun hn => ?_)
      · skip
        first | have hnp := of_decide_eq_true hn | skip
        refine JL.go ⟨_, rfl, hn⟩ (RX.movev (v := Value.int _ _) rfl) ?_
        refine JL.go ⟨_, rfl, hn⟩ (RX.movev (v := Value.int _ _) rfl) ?_
        refine JL.go ⟨_, rfl, hn⟩ (RX.neg rfl (wrapN hs1.1 hs1.2)) ?_
        refine JL.go ⟨_, rfl, hn⟩ (RX.eq rfl rfl) ?_
        refine JL.go ⟨_, rfl, hg⟩ (RX.pick_t rfl hn) ?_
        refine JL.go trivial (RX.pick_f rfl hg) ?_
        refine JL.go trivial (RX.assignv (v := Value.bool _) rfl) ?_
        refine JL.nil ?_
        refine J.ret1 (v := Value.bool _) Tryz.func41 rfl rfl ?_
        refine ⟨_, rfl, ?_, H⟩
        congr 1
        unfold sgW at *
        first
          | (have k : i64in v := by (unfold i64in; split at hg1 <;> omega)
             exact (decide_eq_true k).symm)
          | (have k : ¬ i64in v := by (have := of_decide_eq_false hn; unfold i64in; split at hg1 <;> omega)
             exact (decide_eq_false k).symm)
          | (have k : ¬ i64in v := by (unfold i64in; omega)
             exact (decide_eq_false k).symm)
          | (have hn1 := of_decide_eq_true hn
             refine decide_eq_decide.2 ?_
             unfold i64in
             repeat split
             all_goals omega)
      · skip
        first | have hnp := of_decide_eq_false hn | skip
        refine JL.no ⟨_, rfl, gno hn⟩ ?_
        refine JL.no ⟨_, rfl, gno hn⟩ ?_
        refine JL.no ⟨_, rfl, gno hn⟩ ?_
        refine JL.no ⟨_, rfl, gno hn⟩ ?_
        refine JL.go ⟨_, rfl, hg⟩ (RX.pick_f rfl hn) ?_
        refine JL.go trivial (RX.pick_f rfl hg) ?_
        refine JL.go trivial (RX.assignv (v := Value.bool _) rfl) ?_
        refine JL.nil ?_
        refine J.ret1 (v := Value.bool _) Tryz.func41 rfl rfl ?_
        refine ⟨_, rfl, ?_, H⟩
        congr 1
        unfold sgW at *
        first
          | (have k : i64in v := by (unfold i64in; split at hg1 <;> omega)
             exact (decide_eq_true k).symm)
          | (have k : ¬ i64in v := by (have := of_decide_eq_false hn; unfold i64in; split at hg1 <;> omega)
             exact (decide_eq_false k).symm)
          | (have k : ¬ i64in v := by (unfold i64in; omega)
             exact (decide_eq_false k).symm)
          | (have hn1 := of_decide_eq_true hn
             refine decide_eq_decide.2 ?_
             unfold i64in
             repeat split
             all_goals omega)
  · skip
    have ha : ¬ v.natAbs < 18446744073709551616 := fun h => by have := wd_le h; omega
    refine J.skip ?_
    refine J.seq ?_
    refine J.region ?_
    refine JL.go trivial (RX.assign) ?_
    refine JL.nil ?_
    refine J.ret1 (v := Value.bool _) Tryz.func41 rfl rfl ?_
    refine ⟨_, rfl, ?_, H⟩
    congr 1
    unfold sgW at *
    first
      | (have k : i64in v := by (unfold i64in; split at hg1 <;> omega)
         exact (decide_eq_true k).symm)
      | (have k : ¬ i64in v := by (have := of_decide_eq_false hn; unfold i64in; split at hg1 <;> omega)
         exact (decide_eq_false k).symm)
      | (have k : ¬ i64in v := by (unfold i64in; omega)
         exact (decide_eq_false k).symm)
      | (have hn1 := of_decide_eq_true hn
         refine decide_eq_decide.2 ?_
         unfold i64in
         repeat split
         all_goals omega)
set_option maxHeartbeats 1600000 in
theorem int64_b {w0 w : World} {F : List Seg} (H : Hp w0 w F) {bx : Nat} {v : Int} {qx : Option Addr} {cx : Nat} (hX : SlAt F (some ⟨bx, 0, none⟩) (bigV v qx cx)) (hxw : SlAt F qx (u64sV (wd v.natAbs))) (hv : i64in v) : Ret Tryz.prog 42 [.pointer (some ⟨bx, 0, none⟩)] w fun u w' => u = .int .i64 v ∧ Hp w0 w' F := by
  refine Calls.of_J (n := 17) Tryz.func42 rfl rfl rfl ?_
  refine J.seq ?_
  have hv1 := hv.1
  have hv2 := hv.2
  have ha : v.natAbs < 18446744073709551616 := by omega
  have hs1 := sgW_lt ha
  refine J.region ?_
  refine JL.go trivial (RX.assign) ?_
  refine JL.nil ?_
  refine J.seq ?_
  refine J.region ?_
  refine JL.go trivial (RX.movev (v := Value.pointer _) rfl) ?_
  refine JL.go trivial (RX.nilCheck rfl) ?_
  refine JL.go trivial (RX.fieldAddr rfl fo53_1 rfl) ?_
  refine JL.go trivial (RX.loadS H hX rfl (j := 1) rfl (v := .slice _ _ _) rfl one51) ?_
  refine JL.does trivial (EX.call rfl cl58 rfl ((low64_b H hxw ha))) ?_
  rintro _ w ⟨rfl, H⟩
  refine JL.go trivial (RX.conv rfl (by rw [ki37]; rfl) ki2 (wrapW ha)) ?_
  refine JL.go trivial (RX.assignv (v := Value.int _ _) rfl) ?_
  refine JL.nil ?_
  refine J.seq ?_
  refine J.seq ?_
  refine J.region ?_
  refine JL.go trivial (RX.movev (v := Value.pointer _) rfl) ?_
  refine JL.go trivial (RX.nilCheck rfl) ?_
  refine JL.go trivial (RX.fieldAddr rfl fo53_0 rfl) ?_
  refine JL.go trivial (RX.loadS H hX rfl (j := 0) rfl (v := .bool _) rfl one4) ?_
  refine JL.nil ?_
  refine J.cond rfl (fun hb => ?_) (fun hb => ?_)
  · skip
    replace hb := of_decide_eq_true hb
    refine J.region ?_
    refine JL.go trivial (RX.movev (v := Value.int _ _) rfl) ?_
    refine JL.go trivial (RX.neg rfl (wrapN hs1.1 hs1.2)) ?_
    refine JL.go trivial (RX.assignv (v := Value.int _ _) rfl) ?_
    refine JL.nil ?_
    refine J.seq ?_
    refine J.region ?_
    refine JL.go trivial (RX.movev (v := Value.int _ _) rfl) ?_
    refine JL.go trivial (RX.assignv (v := Value.int _ _) rfl) ?_
    refine JL.nil ?_
    refine J.ret1 (v := Value.int _ _) Tryz.func42 rfl rfl ?_
    refine ⟨_, rfl, ?_, H⟩
    congr 1
    unfold sgW
    split <;> split <;> omega
  · skip
    replace hb := of_decide_eq_false hb
    refine J.skip ?_
    refine J.seq ?_
    refine J.region ?_
    refine JL.go trivial (RX.movev (v := Value.int _ _) rfl) ?_
    refine JL.go trivial (RX.assignv (v := Value.int _ _) rfl) ?_
    refine JL.nil ?_
    refine J.ret1 (v := Value.int _ _) Tryz.func42 rfl rfl ?_
    refine ⟨_, rfl, ?_, H⟩
    congr 1
    unfold sgW
    split <;> omega
theorem and32g {x : Nat} (hx : x < 18446744073709551616) : IntKind.u64.wrap (((BitVec.ofInt IntKind.u64.bits (x : Int)) &&& BitVec.ofInt IntKind.u64.bits (4294967295 : Int)).toNat : Int) = ((x % 4294967296 : Nat) : Int) := by
  have h := and_mask (x := x) (k := 32) (by decide) hx
  rw [show ((2 ^ 32 - 1 : Nat) : Int) = 4294967295 by decide] at h
  exact h
theorem wrapU (n : Nat) : IntKind.u64.wrap (n : Int) = ((n % 18446744073709551616 : Nat) : Int) := by
  simp only [IntKind.wrap, IntKind.bits, IntKind.signed]; simp
theorem mul_le32 {x y : Nat} (hx : x < 4294967296) (hy : y < 4294967296) : x * y ≤ 18446744065119617025 := by
  have := Nat.mul_le_mul (show x ≤ 4294967295 by omega) (show y ≤ 4294967295 by omega)
  omega
theorem mul_parts (x y : Nat) : x * y = (x / 4294967296) * (y / 4294967296) * 18446744073709551616 + ((x / 4294967296) * (y % 4294967296) + (x % 4294967296) * (y / 4294967296)) * 4294967296 + (x % 4294967296) * (y % 4294967296) := by
  have e1 : x = x / 4294967296 * 4294967296 + x % 4294967296 := by omega
  have e2 : y = y / 4294967296 * 4294967296 + y % 4294967296 := by omega
  generalize x / 4294967296 = x1 at *
  generalize x % 4294967296 = x0 at *
  generalize y / 4294967296 = y1 at *
  generalize y % 4294967296 = y0 at *
  subst e1 e2
  rw [Nat.add_mul, Nat.mul_add, Nat.mul_add]
  have k1 : x1 * 4294967296 * (y1 * 4294967296) = x1 * y1 * 18446744073709551616 := by
    rw [Nat.mul_mul_mul_comm]
  have k2 : x1 * 4294967296 * y0 = x1 * y0 * 4294967296 := by rw [Nat.mul_right_comm]
  have k3 : x0 * (y1 * 4294967296) = x0 * y1 * 4294967296 := by rw [Nat.mul_assoc]
  rw [k1, k2, k3, Nat.add_mul]; omega

set_option maxHeartbeats 1600000 in
theorem Mul64g_b {w0 w : World} {F : List Seg} (H : Hp w0 w F) {x y : Nat} (hx : x < 18446744073709551616) (hy : y < 18446744073709551616) : Ret Tryz.prog 46 [.int .u64 ((x : Nat) : Int), .int .u64 ((y : Nat) : Int)] w fun v w' => v = .tuple #[.int .u64 ((x * y / 18446744073709551616 : Nat) : Int), .int .u64 ((x * y % 18446744073709551616 : Nat) : Int)] ∧ Hp w0 w' F := by
  refine Calls.of_J (n := 51) Tryz.func46 rfl rfl rfl ?_
  refine J.seq ?_
  have hp := mul_parts x y
  have x0 := Nat.mod_lt x (show 0 < 4294967296 by decide)
  have y0 := Nat.mod_lt y (show 0 < 4294967296 by decide)
  have x1 : x / 4294967296 < 4294967296 := by omega
  have y1 : y / 4294967296 < 4294967296 := by omega
  have b00 := mul_le32 x0 y0
  have b10 := mul_le32 x1 y0
  have b01 := mul_le32 x0 y1
  have b11 := mul_le32 x1 y1
  refine J.region ?_
  refine JL.go trivial (RX.assign) ?_
  refine JL.go trivial (RX.assign) ?_
  refine JL.nil ?_
  refine J.seq ?_
  refine J.region ?_
  refine JL.go trivial (RX.movev (v := Value.int _ _) rfl) ?_
  refine JL.go trivial (RX.and rfl rfl (and32g hx)) ?_
  refine JL.go trivial (RX.assignv (v := Value.int _ _) rfl) ?_
  refine JL.nil ?_
  refine J.seq ?_
  refine J.region ?_
  refine JL.go trivial (RX.movev (v := Value.int _ _) rfl) ?_
  refine JL.go trivial (RX.shr rfl rfl (by decide) (shr32 x)) ?_
  refine JL.go trivial (RX.assignv (v := Value.int _ _) rfl) ?_
  refine JL.nil ?_
  refine J.seq ?_
  refine J.region ?_
  refine JL.go trivial (RX.movev (v := Value.int _ _) rfl) ?_
  refine JL.go trivial (RX.and rfl rfl (and32g hy)) ?_
  refine JL.go trivial (RX.assignv (v := Value.int _ _) rfl) ?_
  refine JL.nil ?_
  refine J.seq ?_
  refine J.region ?_
  refine JL.go trivial (RX.movev (v := Value.int _ _) rfl) ?_
  refine JL.go trivial (RX.shr rfl rfl (by decide) (shr32 y)) ?_
  refine JL.go trivial (RX.assignv (v := Value.int _ _) rfl) ?_
  refine JL.nil ?_
  refine J.seq ?_
  refine J.region ?_
  refine JL.go trivial (RX.movev (v := Value.int _ _) rfl) ?_
  refine JL.go trivial (RX.movev (v := Value.int _ _) rfl) ?_
  refine JL.go trivial (RX.mul rfl rfl (wn (n := x % 4294967296 * (y % 4294967296)) (Int.natCast_mul _ _).symm (by omega))) ?_
  refine JL.go trivial (RX.assignv (v := Value.int _ _) rfl) ?_
  refine JL.nil ?_
  refine J.seq ?_
  generalize hA : x % 4294967296 * (y % 4294967296) = A at *
  refine J.region ?_
  refine JL.go trivial (RX.movev (v := Value.int _ _) rfl) ?_
  refine JL.go trivial (RX.movev (v := Value.int _ _) rfl) ?_
  refine JL.go trivial (RX.mul rfl rfl (wn (n := x / 4294967296 * (y % 4294967296)) (Int.natCast_mul _ _).symm (by omega))) ?_
  refine JL.go trivial (RX.movev (v := Value.int _ _) rfl) ?_
  refine JL.go trivial (RX.shr rfl rfl (by decide) (shr32 A)) ?_
  generalize hB : x / 4294967296 * (y % 4294967296) = B at *
  refine JL.go trivial (RX.add rfl rfl (wn (n := B + A / 4294967296) (by omega) (by omega))) ?_
  refine JL.go trivial (RX.assignv (v := Value.int _ _) rfl) ?_
  refine JL.nil ?_
  refine J.seq ?_
  refine J.region ?_
  refine JL.go trivial (RX.movev (v := Value.int _ _) rfl) ?_
  refine JL.go trivial (RX.and rfl rfl (and32g (by omega))) ?_
  refine JL.go trivial (RX.assignv (v := Value.int _ _) rfl) ?_
  refine JL.nil ?_
  refine J.seq ?_
  refine J.region ?_
  refine JL.go trivial (RX.movev (v := Value.int _ _) rfl) ?_
  refine JL.go trivial (RX.shr rfl rfl (by decide) (shr32 _)) ?_
  refine JL.go trivial (RX.assignv (v := Value.int _ _) rfl) ?_
  refine JL.nil ?_
  refine J.seq ?_
  refine J.region ?_
  refine JL.go trivial (RX.movev (v := Value.int _ _) rfl) ?_
  refine JL.go trivial (RX.movev (v := Value.int _ _) rfl) ?_
  refine JL.go trivial (RX.movev (v := Value.int _ _) rfl) ?_
  refine JL.go trivial (RX.mul rfl rfl (wn (n := x % 4294967296 * (y / 4294967296)) (Int.natCast_mul _ _).symm (by omega))) ?_
  generalize hC : x % 4294967296 * (y / 4294967296) = C at *
  refine JL.go trivial (RX.add rfl rfl (wn (n := (B + A / 4294967296) % 4294967296 + C) (by omega) (by omega))) ?_
  refine JL.go trivial (RX.assignv (v := Value.int _ _) rfl) ?_
  refine JL.nil ?_
  refine J.seq ?_
  refine J.region ?_
  refine JL.go trivial (RX.movev (v := Value.int _ _) rfl) ?_
  refine JL.go trivial (RX.movev (v := Value.int _ _) rfl) ?_
  refine JL.go trivial (RX.mul rfl rfl (wn (n := x / 4294967296 * (y / 4294967296)) (Int.natCast_mul _ _).symm (by omega))) ?_
  refine JL.go trivial (RX.movev (v := Value.int _ _) rfl) ?_
  generalize hD : x / 4294967296 * (y / 4294967296) = D at *
  refine JL.go trivial (RX.add rfl rfl (wn (n := D + (B + A / 4294967296) / 4294967296) (by omega) (by omega))) ?_
  refine JL.go trivial (RX.movev (v := Value.int _ _) rfl) ?_
  refine JL.go trivial (RX.shr rfl rfl (by decide) (shr32 _)) ?_
  refine JL.go trivial (RX.add rfl rfl (wn (n := x * y / 18446744073709551616) (by omega) (by omega))) ?_
  refine JL.go trivial (RX.assignv (v := Value.int _ _) rfl) ?_
  refine JL.nil ?_
  refine J.seq ?_
  refine J.region ?_
  refine JL.go trivial (RX.movev (v := Value.int _ _) rfl) ?_
  refine JL.go trivial (RX.movev (v := Value.int _ _) rfl) ?_
  refine JL.go trivial (RX.mul rfl rfl (r := ((x * y % 18446744073709551616 : Nat) : Int)) (by rw [← Int.natCast_mul]; exact wrapU _)) ?_
  refine JL.go trivial (RX.assignv (v := Value.int _ _) rfl) ?_
  refine JL.nil ?_
  refine J.ret2 (v := Value.int _ _) (x := Value.int _ _) Tryz.func46 rfl rfl rfl ?_
  exact ⟨_, rfl, rfl, H⟩
theorem mul_hi {x y : Nat} (hx : x < 18446744073709551616) (hy : y < 18446744073709551616) : x * y / 18446744073709551616 < 18446744073709551616 - 1 + 1 ∧ x * y < 18446744073709551616 * 18446744073709551616 := by
  have h := Nat.mul_le_mul (show x ≤ 18446744073709551616 - 1 by omega) (show y ≤ 18446744073709551616 - 1 by omega)
  omega
theorem val_two {lo hi n : Nat} (h : lo + 18446744073709551616 * hi = n) : val [lo, hi] = n := by
  simp only [val]; omega
theorem two_words {n x y : Nat} (hn : n = x * y) (hx : x < 18446744073709551616) (hy : y < 18446744073709551616) : (∀ z ∈ [n % 18446744073709551616, n / 18446744073709551616], z < 18446744073709551616) ∧ val [n % 18446744073709551616, n / 18446744073709551616] = n := by
  have := mul_hi hx hy
  refine ⟨fun z hz => ?_, val_two (by omega)⟩
  simp only [List.mem_cons, List.not_mem_nil, or_false] at hz
  rcases hz with rfl | rfl <;> omega
theorem ownW_two {q c i n : Nat} {l : List Value} (hl : l.length + 2 = c) (h : i = (wd n).length ∧ [n % 18446744073709551616, n / 18446744073709551616].take i = wd n) (hi : i ≤ 2) : OwnW (some ⟨q, 0, none⟩) (wd n) c [(q, cel (.int .u64 ((n % 18446744073709551616 : Nat) : Int) :: .int .u64 ((n / 18446744073709551616 : Nat) : Int) :: l) 63)] := by
  obtain ⟨h1, h2⟩ := h
  refine ownW_row (by simp; omega) (by omega) ?_
  rw [← h1, ← h2]
  have : i = 0 ∨ i = 1 ∨ i = 2 := by omega
  rcases this with rfl | rfl | rfl <;> simp [u64sV]

set_option maxHeartbeats 1600000 in
theorem bMulG {w0 w : World} {F : List Seg} (H : Hp w0 w F) {x y : Nat} (hx : x < 18446744073709551616) (hy : y < 18446744073709551616) : Ret Tryz.prog 82 [.int .u64 ((x : Nat) : Int), .int .u64 ((y : Nat) : Int)] w fun v w' => v = .tuple #[.int .u64 ((x * y / 18446744073709551616 : Nat) : Int), .int .u64 ((x * y % 18446744073709551616 : Nat) : Int)] ∧ Hp w0 w' F := by
  refine Calls.of_J (n := 30) Tryz.func82 rfl rfl rfl ?_
  refine J.seq ?_
  refine J.region ?_
  refine JL.go trivial (RX.assign) ?_
  refine JL.go trivial (RX.assign) ?_
  refine JL.nil ?_
  refine J.seq ?_
  refine J.cond_f rfl rfl ?_
  refine J.skip ?_
  refine J.seq ?_
  refine J.region ?_
  refine JL.go trivial (RX.movev (v := Value.int _ _) rfl) ?_
  refine JL.go trivial (RX.movev (v := Value.int _ _) rfl) ?_
  refine JL.does trivial (EX.call rfl cl46 rfl ((Mul64g_b H hx hy))) ?_
  rintro _ w ⟨rfl, H⟩
  refine JL.go trivial (RX.movev (v := Value.tuple _) rfl) ?_
  refine JL.go trivial (RX.extract rfl rfl) ?_
  refine JL.go trivial (RX.extract rfl rfl) ?_
  refine JL.go trivial (RX.assignv (v := Value.int _ _) rfl) ?_
  refine JL.go trivial (RX.assignv (v := Value.int _ _) rfl) ?_
  refine JL.nil ?_
  refine J.seq ?_
  refine J.region ?_
  refine JL.go trivial (RX.movev (v := Value.int _ _) rfl) ?_
  refine JL.go trivial (RX.movev (v := Value.int _ _) rfl) ?_
  refine JL.go trivial (RX.assignv (v := Value.int _ _) rfl) ?_
  refine JL.go trivial (RX.assignv (v := Value.int _ _) rfl) ?_
  refine JL.nil ?_
  refine J.ret2 (v := Value.int _ _) (x := Value.int _ _) Tryz.func82 rfl rfl rfl ?_
  exact ⟨_, rfl, rfl, H⟩
set_option maxHeartbeats 1600000 in
theorem wwwG {w0 w : World} {F : List Seg} (H : Hp w0 w F) {x y : Nat} (hx : x < 18446744073709551616) (hy : y < 18446744073709551616) : Ret Tryz.prog 84 [.int .u64 ((x : Nat) : Int), .int .u64 ((y : Nat) : Int), .int .u64 0] w fun v w' => v = .tuple #[.int .u64 ((x * y / 18446744073709551616 : Nat) : Int), .int .u64 ((x * y % 18446744073709551616 : Nat) : Int)] ∧ Hp w0 w' F := by
  refine Calls.of_J (n := 27) Tryz.func84 rfl rfl rfl ?_
  refine J.seq ?_
  have hq := mul_hi hx hy
  refine J.region ?_
  refine JL.go trivial (RX.assign) ?_
  refine JL.go trivial (RX.assign) ?_
  refine JL.nil ?_
  refine J.seq ?_
  refine J.region ?_
  refine JL.go trivial (RX.movev (v := Value.int _ _) rfl) ?_
  refine JL.go trivial (RX.movev (v := Value.int _ _) rfl) ?_
  refine JL.does trivial (EX.call rfl cl82 rfl ((bMulG H hx hy))) ?_
  rintro _ w ⟨rfl, H⟩
  refine JL.go trivial (RX.movev (v := Value.tuple _) rfl) ?_
  refine JL.go trivial (RX.extract rfl rfl) ?_
  refine JL.go trivial (RX.extract rfl rfl) ?_
  refine JL.go trivial (RX.assignv (v := Value.int _ _) rfl) ?_
  refine JL.go trivial (RX.assignv (v := Value.int _ _) rfl) ?_
  refine JL.nil ?_
  refine J.seq ?_
  refine J.region ?_
  refine JL.go trivial (RX.assign) ?_
  refine JL.nil ?_
  refine J.seq ?_
  refine J.region ?_
  refine JL.go trivial (RX.movev (v := Value.int _ _) rfl) ?_
  refine JL.go trivial (RX.movev (v := Value.int _ _) rfl) ?_
  refine JL.does trivial (EX.call rfl cl54 rfl ((bAdd_b (c := 0) (y := 0) H (by decide)))) ?_
  rintro _ w ⟨rfl, H⟩
  refine JL.go trivial (RX.movev (v := Value.tuple _) rfl) ?_
  refine JL.go trivial (RX.extract rfl rfl) ?_
  refine JL.go trivial (RX.extract rfl rfl) ?_
  refine JL.go trivial (RX.assignv (v := Value.int _ _) rfl) ?_
  refine JL.go trivial (RX.assignv (v := Value.int _ _) rfl) ?_
  refine JL.nil ?_
  have e1 : (x * y % 18446744073709551616 + 0 + 0) % 18446744073709551616 = x * y % 18446744073709551616 := by omega
  have e2 : (x * y % 18446744073709551616 + 0 + 0) / 18446744073709551616 = 0 := by omega
  rw [e1, e2]
  refine J.seq ?_
  refine J.region ?_
  refine JL.go trivial (RX.movev (v := Value.int _ _) rfl) ?_
  refine JL.go trivial (RX.movev (v := Value.int _ _) rfl) ?_
  refine JL.go trivial (RX.add rfl rfl (wn (n := x * y / 18446744073709551616) (by simp) (by omega))) ?_
  refine JL.go trivial (RX.movev (v := Value.int _ _) rfl) ?_
  refine JL.go trivial (RX.assignv (v := Value.int _ _) rfl) ?_
  refine JL.go trivial (RX.assignv (v := Value.int _ _) rfl) ?_
  refine JL.nil ?_
  refine J.ret2 (v := Value.int _ _) (x := Value.int _ _) Tryz.func84 rfl rfl rfl ?_
  exact ⟨_, rfl, rfl, H⟩
set_option maxHeartbeats 1600000 in
theorem vwwG {w0 w : World} {L : List Seg} {q c1 c2 x y : Nat} {px : Option Addr} {z : Value} {l : List Value} (H : Hp w0 w ([(q, cel (z :: l) 63)] :: L)) (hs : SlAt ([(q, cel (z :: l) 63)] :: L) px (u64sV [x])) (hx : x < 18446744073709551616) (hy : y < 18446744073709551616) : Ret Tryz.prog 35 [.slice (some ⟨q, 0, none⟩) 1 c1, .slice px 1 c2, .int .u64 ((y : Nat) : Int), .int .u64 0] w fun v w' => v = .int .u64 ((x * y / 18446744073709551616 : Nat) : Int) ∧ Hp w0 w' ([(q, cel (.int .u64 ((x * y % 18446744073709551616 : Nat) : Int) :: l) 63)] :: L) := by
  refine Calls.of_J (n := 36) Tryz.func35 rfl rfl rfl ?_
  refine J.seq ?_
  obtain ⟨pb, po, rfl, hpp⟩ := hs.some (by rw [u64sV_len]; exact Nat.one_pos)
  refine J.region ?_
  refine JL.go trivial (RX.assign) ?_
  refine JL.nil ?_
  refine J.seq ?_
  refine J.seq ?_
  refine J.region ?_
  refine JL.go trivial (RX.movev (v := Value.slice _ _ _) rfl) ?_
  refine JL.go trivial (RX.len_slice rfl (by rw [sl50]; rfl) rfl) ?_
  refine JL.go trivial (RX.movev (v := Value.slice _ _ _) rfl) ?_
  refine JL.go trivial (RX.len_slice rfl (by rw [sl50]; rfl) rfl) ?_
  refine JL.go trivial (RX.ne rfl rfl) ?_
  refine JL.nil ?_
  refine J.cond_f rfl (decide_eq_false (by simp)) ?_
  refine J.skip ?_
  refine J.seq ?_
  refine J.region ?_
  refine JL.go trivial (RX.movev (v := Value.int _ _) rfl) ?_
  refine JL.go trivial (RX.assignv (v := Value.int _ _) rfl) ?_
  refine JL.nil ?_
  refine J.seq ?_
  refine J.seq ?_
  refine J.region ?_
  refine JL.go trivial (RX.movev (v := Value.slice _ _ _) rfl) ?_
  refine JL.go trivial (RX.len_slice rfl (by rw [sl50]; rfl) rfl) ?_
  refine JL.go trivial (RX.move) ?_
  refine JL.nil ?_
  refine J.block ?_
  refine J.unroll ?_
  refine J.seq ?_
  refine J.region ?_
  refine JL.go trivial (RX.lt rfl rfl) ?_
  refine JL.nil ?_
  refine J.seq ?_
  refine J.cond_t rfl (decide_eq_true (by decide)) ?_
  refine J.skip ?_
  refine J.seq ?_
  refine J.block ?_
  refine J.seq ?_
  refine J.region ?_
  refine JL.go trivial (RX.movev (v := Value.int _ _) rfl) ?_
  refine JL.go trivial (RX.assignv (v := Value.int _ _) rfl) ?_
  refine JL.nil ?_
  refine J.region ?_
  refine JL.go trivial (RX.movev (v := Value.slice _ _ _) rfl) ?_
  refine JL.go trivial (RX.movev (v := Value.int _ _) rfl) ?_
  refine JL.go trivial (RX.movev (v := Value.slice _ _ _) rfl) ?_
  refine JL.go trivial (RX.movev (v := Value.int _ _) rfl) ?_
  refine JL.go trivial (RX.indexAddr rfl rfl sl50 (by omega) (by omega) (o' := po) (by omega)) ?_
  refine JL.go trivial (RX.loadS H hs rfl (j := 0) (by omega) (v := .int .u64 (x : Int)) rfl one63) ?_
  refine JL.go trivial (RX.movev (v := Value.int _ _) rfl) ?_
  refine JL.go trivial (RX.movev (v := Value.int _ _) rfl) ?_
  refine JL.does trivial (EX.call rfl cl84 rfl ((wwwG H hx hy))) ?_
  rintro _ w ⟨rfl, H⟩
  refine JL.go trivial (RX.movev (v := Value.tuple _) rfl) ?_
  refine JL.go trivial (RX.extract rfl rfl) ?_
  refine JL.go trivial (RX.extract rfl rfl) ?_
  refine JL.go trivial (RX.assignv (v := Value.int _ _) rfl) ?_
  refine JL.go trivial (RX.indexAddr rfl rfl sl50 (by omega) (by omega) rfl) ?_
  refine JL.does trivial (by first | exact EX.store (v := Value.int _ _) H rfl rfl (i := 0) rfl rfl (by simp) sz63 rfl rfl) ?_
  rintro _ w H
  refine JL.nil ?_
  refine J.inBlock ?_
  refine J.region ?_
  refine JL.go trivial (RX.add rfl rfl (w_i64 rfl (by omega) (by omega))) ?_
  refine JL.go trivial (RX.movev (v := Value.int _ _) rfl) ?_
  refine JL.nil ?_
  refine J.again ?_
  refine J.seq ?_
  refine J.region ?_
  refine JL.go trivial (RX.lt rfl rfl) ?_
  refine JL.nil ?_
  refine J.seq ?_
  refine J.cond_f rfl (decide_eq_false (by decide)) ?_
  refine J.exit rfl ?_
  refine J.ret1 (v := Value.int _ _) Tryz.func35 rfl rfl ?_
  exact ⟨_, rfl, rfl, H⟩
set_option maxHeartbeats 1600000 in
theorem mulAddWWG {w0 w : World} {s0 : Seg} {L : List Seg} (H : Hp w0 w (s0 :: L)) {q0 : Option Addr} {ws : List Nat} {c0 : Nat} (ho : OwnW q0 ws c0 s0) {px : Option Addr} {c2 x y : Nat} (hX : RowAt (s0 :: L) px [x] c2) (hx0 : 0 < x) (hx : x < 18446744073709551616) (hy0 : 0 < y) (hy : y < 18446744073709551616) : Ret Tryz.prog 75 [.slice q0 ws.length c0, .slice px 1 c2, .int .u64 ((y : Nat) : Int), .int .u64 0] w fun v w' => ∃ q c s' G, v = .slice q (wd (x * y)).length c ∧ OwnW q (wd (x * y)) c s' ∧ Left s0 G ∧ Hp w0 w' (s' :: (G ++ L)) := by
  refine Calls.of_J (n := 37) Tryz.func75 rfl rfl rfl ?_
  refine J.seq ?_
  refine J.region ?_
  refine JL.go trivial (RX.assign) ?_
  refine JL.nil ?_
  refine J.seq ?_
  refine J.region ?_
  refine JL.go trivial (RX.movev (v := Value.slice _ _ _) rfl) ?_
  refine JL.go trivial (RX.len_slice rfl (by rw [sl51]; rfl) rfl) ?_
  refine JL.go trivial (RX.assignv (v := Value.int _ _) rfl) ?_
  refine JL.nil ?_
  refine J.seq ?_
  refine J.seq ?_
  refine J.region ?_
  refine JL.go trivial (RX.movev (v := Value.int _ _) rfl) ?_
  refine JL.go trivial (RX.eq rfl rfl) ?_
  refine JL.go trivial (RX.movev (v := Value.bool _) rfl) ?_
  refine JL.go ⟨_, rfl, rfl⟩ (RX.movev (v := Value.int _ _) rfl) ?_
  refine JL.go ⟨_, rfl, rfl⟩ (RX.eq rfl rfl) ?_
  refine JL.go trivial (RX.pick_f rfl rfl) ?_
  refine JL.nil ?_
  refine J.cond_f rfl (decide_eq_false (by omega)) ?_
  refine J.skip ?_
  refine J.seq ?_
  refine J.region ?_
  refine JL.go trivial (RX.movev (v := Value.slice _ _ _) rfl) ?_
  refine JL.go trivial (RX.movev (v := Value.int _ _) rfl) ?_
  refine JL.go trivial (RX.add rfl rfl (wi (n := 2) (by simp) (by decide))) ?_
  refine JL.does trivial (EX.call rfl cl50 rfl ((make_c H ho (by decide) (by decide)))) ?_
  rintro _ w ⟨q, l, c, G, rfl, hle, hll, hG, H, hk⟩
  have hs2 := (hk _ _ _ hX).2.2.1
  obtain ⟨z0, z1, l, rfl⟩ := two_of (l := l) (by omega)
  refine JL.go trivial (RX.assignv (v := Value.slice _ _ _) rfl) ?_
  refine JL.nil ?_
  refine J.seq ?_
  refine J.region ?_
  refine JL.go trivial (RX.movev (v := Value.slice _ _ _) rfl) ?_
  refine JL.go trivial (RX.movev (v := Value.int _ _) rfl) ?_
  refine JL.go trivial (RX.movev (v := Value.slice _ _ _) rfl) ?_
  refine JL.go trivial (RX.movev (v := Value.int _ _) rfl) ?_
  refine JL.go trivial (RX.slice_lh rfl rfl rfl sl51 (fun a ha => by cases ha; rfl) (by decide) (by decide) (by omega) (r := 0) (s := 1) rfl rfl) ?_
  rw [behind_zero (by omega)]
  refine JL.go trivial (RX.movev (v := Value.slice _ _ _) rfl) ?_
  refine JL.go trivial (RX.movev (v := Value.int _ _) rfl) ?_
  refine JL.go trivial (RX.movev (v := Value.int _ _) rfl) ?_
  refine JL.does trivial (EX.callT rfl twMul rfl (vwwG H hs2 hx hy)) ?_
  rintro _ w ⟨rfl, H⟩
  refine JL.go trivial (RX.indexAddr rfl rfl sl51 (by omega) (by omega) (o' := 1) (by omega)) ?_
  refine JL.does trivial (EX.store (v := Value.int _ _) H rfl rfl (i := 0) rfl rfl (by simp) sz63 rfl rfl) ?_
  rintro _ w H
  refine JL.nil ?_
  refine J.seq ?_
  obtain ⟨hW, hV⟩ := two_words (n := x * y) rfl hx hy
  refine J.region ?_
  refine JL.go trivial (RX.movev (v := Value.slice _ _ _) rfl) ?_
  refine JL.does trivial (EX.call rfl cl53 rfl ((norm_b (ws := [x * y % 18446744073709551616, x * y / 18446744073709551616]) H (SlAt.here rfl) hle (by omega) (by simp)))) ?_
  rintro _ w ⟨i, rfl, hi, H⟩
  have hz := nmL hi hW (by simp)
  rw [hV] at hz
  refine JL.go trivial (RX.assignv (v := Value.slice _ _ _) rfl) ?_
  refine JL.nil ?_
  refine J.ret1 (v := Value.slice _ _ _) Tryz.func75 rfl rfl ?_
  refine ⟨_, rfl, _, c, _, G, ?_, ownW_two (by simpa using hll) hz hi.1, hG, H⟩
  rw [← hz.1]
set_option maxHeartbeats 1600000 in
theorem natMulP {w0 w : World} {s0 : Seg} {L : List Seg} (H : Hp w0 w (s0 :: L)) {q0 : Option Addr} {ws : List Nat} {c0 : Nat} (ho : OwnW q0 ws c0 s0) {px py stk : Option Addr} {c2 c3 x y : Nat} (hX : RowAt (s0 :: L) px [x] c2) (hY : RowAt (s0 :: L) py [y] c3) (hx0 : 0 < x) (hx : x < 18446744073709551616) (hy0 : 0 < y) (hy : y < 18446744073709551616) : Ret Tryz.prog 60 [.slice q0 ws.length c0, .pointer stk, .slice px 1 c2, .slice py 1 c3] w fun v w' => ∃ q c s' G, v = .slice q (wd (x * y)).length c ∧ OwnW q (wd (x * y)) c s' ∧ Left s0 G ∧ Hp w0 w' (s' :: (G ++ L)) := by
  refine Calls.of_J (n := 121) Tryz.func60 rfl rfl rfl ?_
  refine J.seq ?_
  obtain ⟨pb, po, rfl, hpp⟩ := hY.2.2.1.some (by rw [u64sV_len]; exact Nat.one_pos)
  refine J.region ?_
  refine JL.go trivial (RX.assign) ?_
  refine JL.nil ?_
  refine J.seq ?_
  refine J.region ?_
  refine JL.go trivial (RX.movev (v := Value.slice _ _ _) rfl) ?_
  refine JL.go trivial (RX.len_slice rfl (by rw [sl51]; rfl) rfl) ?_
  refine JL.go trivial (RX.assignv (v := Value.int _ _) rfl) ?_
  refine JL.nil ?_
  refine J.seq ?_
  refine J.region ?_
  refine JL.go trivial (RX.movev (v := Value.slice _ _ _) rfl) ?_
  refine JL.go trivial (RX.len_slice rfl (by rw [sl51]; rfl) rfl) ?_
  refine JL.go trivial (RX.assignv (v := Value.int _ _) rfl) ?_
  refine JL.nil ?_
  refine J.seq ?_
  refine J.block ?_
  refine J.seq ?_
  refine J.region ?_
  refine JL.go trivial (RX.movev (v := Value.int _ _) rfl) ?_
  refine JL.go trivial (RX.movev (v := Value.int _ _) rfl) ?_
  refine JL.go trivial (RX.lt rfl rfl) ?_
  refine JL.go trivial (RX.assignv (v := Value.bool _) rfl) ?_
  refine JL.nil ?_
  refine J.cond_f rfl (decide_eq_false (by decide)) ?_
  refine J.seq ?_
  refine J.region ?_
  refine JL.go trivial (RX.movev (v := Value.int _ _) rfl) ?_
  refine JL.go trivial (RX.eq rfl rfl) ?_
  refine JL.go trivial (RX.movev (v := Value.bool _) rfl) ?_
  refine JL.go ⟨_, rfl, rfl⟩ (RX.movev (v := Value.int _ _) rfl) ?_
  refine JL.go ⟨_, rfl, rfl⟩ (RX.eq rfl rfl) ?_
  refine JL.go trivial (RX.pick_f rfl rfl) ?_
  refine JL.go trivial (RX.assignv (v := Value.bool _) rfl) ?_
  refine JL.nil ?_
  refine J.cond_f rfl rfl ?_
  refine J.seq ?_
  refine J.region ?_
  refine JL.go trivial (RX.movev (v := Value.int _ _) rfl) ?_
  refine JL.go trivial (RX.eq rfl rfl) ?_
  refine JL.go trivial (RX.assignv (v := Value.bool _) rfl) ?_
  refine JL.nil ?_
  refine J.cond_t rfl rfl ?_
  refine J.seq ?_
  refine J.region ?_
  refine JL.go trivial (RX.movev (v := Value.slice _ _ _) rfl) ?_
  refine JL.go trivial (RX.movev (v := Value.slice _ _ _) rfl) ?_
  refine JL.go trivial (RX.movev (v := Value.slice _ _ _) rfl) ?_
  refine JL.go trivial (RX.indexAddr rfl rfl sl51 (by omega) (by omega) (o' := po) (by omega)) ?_
  refine JL.go trivial (RX.loadS H hY.2.2.1 rfl (j := 0) (by omega) (v := .int .u64 (y : Int)) rfl one63) ?_
  refine JL.does trivial (EX.call rfl cl75 rfl ((mulAddWWG H ho hX hx0 hx hy0 hy))) ?_
  rintro _ w ⟨q, c, s1, G, rfl, ho1, hG, H⟩
  refine JL.go trivial (RX.assignv (v := Value.slice _ _ _) rfl) ?_
  refine JL.nil ?_
  refine J.ret1 (v := Value.slice _ _ _) Tryz.func60 rfl rfl ?_
  exact ⟨_, rfl, q, c, s1, G, rfl, ho1, hG, H⟩
set_option maxHeartbeats 1600000 in
theorem natMulZ0 {w0 w : World} {s0 : Seg} {L : List Seg} (H : Hp w0 w (s0 :: L)) {q0 : Option Addr} {ws : List Nat} {c0 : Nat} (ho : OwnW q0 ws c0 s0) {px py stk : Option Addr} {c2 c3 : Nat} : Ret Tryz.prog 60 [.slice q0 ws.length c0, .pointer stk, .slice px 0 c2, .slice py 0 c3] w fun v w' => ∃ q c s' G, v = .slice q 0 c ∧ OwnW q (([] : List Nat)) c s' ∧ Left s0 G ∧ Hp w0 w' (s' :: (G ++ L)) := by
  refine Calls.of_J (n := 121) Tryz.func60 rfl rfl rfl ?_
  refine J.seq ?_
  refine J.region ?_
  refine JL.go trivial (RX.assign) ?_
  refine JL.nil ?_
  refine J.seq ?_
  refine J.region ?_
  refine JL.go trivial (RX.movev (v := Value.slice _ _ _) rfl) ?_
  refine JL.go trivial (RX.len_slice rfl (by rw [sl51]; rfl) rfl) ?_
  refine JL.go trivial (RX.assignv (v := Value.int _ _) rfl) ?_
  refine JL.nil ?_
  refine J.seq ?_
  refine J.region ?_
  refine JL.go trivial (RX.movev (v := Value.slice _ _ _) rfl) ?_
  refine JL.go trivial (RX.len_slice rfl (by rw [sl51]; rfl) rfl) ?_
  refine JL.go trivial (RX.assignv (v := Value.int _ _) rfl) ?_
  refine JL.nil ?_
  refine J.seq ?_
  refine J.block ?_
  refine J.seq ?_
  refine J.region ?_
  refine JL.go trivial (RX.movev (v := Value.int _ _) rfl) ?_
  refine JL.go trivial (RX.movev (v := Value.int _ _) rfl) ?_
  refine JL.go trivial (RX.lt rfl rfl) ?_
  refine JL.go trivial (RX.assignv (v := Value.bool _) rfl) ?_
  refine JL.nil ?_
  refine J.cond_f rfl (decide_eq_false (by decide)) ?_
  refine J.seq ?_
  refine J.region ?_
  refine JL.go trivial (RX.movev (v := Value.int _ _) rfl) ?_
  refine JL.go trivial (RX.eq rfl rfl) ?_
  refine JL.go trivial (RX.movev (v := Value.bool _) rfl) ?_
  refine JL.no ⟨_, rfl, gno rfl⟩ ?_
  refine JL.no ⟨_, rfl, gno rfl⟩ ?_
  refine JL.go trivial (RX.pick_t rfl rfl) ?_
  refine JL.go trivial (RX.assignv (v := Value.bool _) rfl) ?_
  refine JL.nil ?_
  refine J.cond_t rfl rfl ?_
  refine J.seq ?_
  refine J.region ?_
  refine JL.go trivial (RX.movev (v := Value.slice _ _ _) rfl) ?_
  refine JL.go trivial (RX.slice_h rfl rfl sl51 ho.spot (by decide) (by omega) (r := 0) rfl) ?_
  refine JL.go trivial (RX.assignv (v := Value.slice _ _ _) rfl) ?_
  refine JL.nil ?_
  refine J.ret1 (v := Value.slice _ _ _) Tryz.func60 rfl rfl ?_
  exact ⟨_, rfl, q0, c0, s0, [], rfl, ho.none_, .inl rfl, H⟩
set_option maxHeartbeats 1600000 in
theorem natMulZ1 {w0 w : World} {s0 : Seg} {L : List Seg} (H : Hp w0 w (s0 :: L)) {q0 : Option Addr} {ws : List Nat} {c0 : Nat} (ho : OwnW q0 ws c0 s0) {px py stk : Option Addr} {c2 c3 : Nat} : Ret Tryz.prog 60 [.slice q0 ws.length c0, .pointer stk, .slice px 1 c2, .slice py 0 c3] w fun v w' => ∃ q c s' G, v = .slice q 0 c ∧ OwnW q (([] : List Nat)) c s' ∧ Left s0 G ∧ Hp w0 w' (s' :: (G ++ L)) := by
  refine Calls.of_J (n := 121) Tryz.func60 rfl rfl rfl ?_
  refine J.seq ?_
  refine J.region ?_
  refine JL.go trivial (RX.assign) ?_
  refine JL.nil ?_
  refine J.seq ?_
  refine J.region ?_
  refine JL.go trivial (RX.movev (v := Value.slice _ _ _) rfl) ?_
  refine JL.go trivial (RX.len_slice rfl (by rw [sl51]; rfl) rfl) ?_
  refine JL.go trivial (RX.assignv (v := Value.int _ _) rfl) ?_
  refine JL.nil ?_
  refine J.seq ?_
  refine J.region ?_
  refine JL.go trivial (RX.movev (v := Value.slice _ _ _) rfl) ?_
  refine JL.go trivial (RX.len_slice rfl (by rw [sl51]; rfl) rfl) ?_
  refine JL.go trivial (RX.assignv (v := Value.int _ _) rfl) ?_
  refine JL.nil ?_
  refine J.seq ?_
  refine J.block ?_
  refine J.seq ?_
  refine J.region ?_
  refine JL.go trivial (RX.movev (v := Value.int _ _) rfl) ?_
  refine JL.go trivial (RX.movev (v := Value.int _ _) rfl) ?_
  refine JL.go trivial (RX.lt rfl rfl) ?_
  refine JL.go trivial (RX.assignv (v := Value.bool _) rfl) ?_
  refine JL.nil ?_
  refine J.cond_f rfl (decide_eq_false (by decide)) ?_
  refine J.seq ?_
  refine J.region ?_
  refine JL.go trivial (RX.movev (v := Value.int _ _) rfl) ?_
  refine JL.go trivial (RX.eq rfl rfl) ?_
  refine JL.go trivial (RX.movev (v := Value.bool _) rfl) ?_
  refine JL.go ⟨_, rfl, rfl⟩ (RX.movev (v := Value.int _ _) rfl) ?_
  refine JL.go ⟨_, rfl, rfl⟩ (RX.eq rfl rfl) ?_
  refine JL.go trivial (RX.pick_f rfl rfl) ?_
  refine JL.go trivial (RX.assignv (v := Value.bool _) rfl) ?_
  refine JL.nil ?_
  refine J.cond_t rfl rfl ?_
  refine J.seq ?_
  refine J.region ?_
  refine JL.go trivial (RX.movev (v := Value.slice _ _ _) rfl) ?_
  refine JL.go trivial (RX.slice_h rfl rfl sl51 ho.spot (by decide) (by omega) (r := 0) rfl) ?_
  refine JL.go trivial (RX.assignv (v := Value.slice _ _ _) rfl) ?_
  refine JL.nil ?_
  refine J.ret1 (v := Value.slice _ _ _) Tryz.func60 rfl rfl ?_
  exact ⟨_, rfl, q0, c0, s0, [], rfl, ho.none_, .inl rfl, H⟩
set_option maxHeartbeats 1600000 in
theorem natMulS {w0 w : World} {s0 : Seg} {L : List Seg} (H : Hp w0 w (s0 :: L)) {q0 : Option Addr} {ws : List Nat} {c0 : Nat} (ho : OwnW q0 ws c0 s0) {px py stk : Option Addr} {c2 c3 : Nat} : Ret Tryz.prog 60 [.slice q0 ws.length c0, .pointer stk, .slice px 0 c2, .slice py 1 c3] w fun v w' => ∃ q c s' G, v = .slice q 0 c ∧ OwnW q (([] : List Nat)) c s' ∧ Left s0 G ∧ Hp w0 w' (s' :: (G ++ L)) := by
  refine Calls.of_J (n := 121) Tryz.func60 rfl rfl rfl ?_
  refine J.seq ?_
  refine J.region ?_
  refine JL.go trivial (RX.assign) ?_
  refine JL.nil ?_
  refine J.seq ?_
  refine J.region ?_
  refine JL.go trivial (RX.movev (v := Value.slice _ _ _) rfl) ?_
  refine JL.go trivial (RX.len_slice rfl (by rw [sl51]; rfl) rfl) ?_
  refine JL.go trivial (RX.assignv (v := Value.int _ _) rfl) ?_
  refine JL.nil ?_
  refine J.seq ?_
  refine J.region ?_
  refine JL.go trivial (RX.movev (v := Value.slice _ _ _) rfl) ?_
  refine JL.go trivial (RX.len_slice rfl (by rw [sl51]; rfl) rfl) ?_
  refine JL.go trivial (RX.assignv (v := Value.int _ _) rfl) ?_
  refine JL.nil ?_
  refine J.seq ?_
  refine J.block ?_
  refine J.seq ?_
  refine J.region ?_
  refine JL.go trivial (RX.movev (v := Value.int _ _) rfl) ?_
  refine JL.go trivial (RX.movev (v := Value.int _ _) rfl) ?_
  refine JL.go trivial (RX.lt rfl rfl) ?_
  refine JL.go trivial (RX.assignv (v := Value.bool _) rfl) ?_
  refine JL.nil ?_
  refine J.cond_t rfl (decide_eq_true (by decide)) ?_
  refine J.seq ?_
  refine J.region ?_
  refine JL.go trivial (RX.movev (v := Value.slice _ _ _) rfl) ?_
  refine JL.go trivial (RX.movev (v := Value.pointer _) rfl) ?_
  refine JL.go trivial (RX.movev (v := Value.slice _ _ _) rfl) ?_
  refine JL.go trivial (RX.movev (v := Value.slice _ _ _) rfl) ?_
  refine JL.does trivial (EX.call rfl cl60 rfl ((natMulZ1 H ho))) ?_
  rintro _ w ⟨q, c, s1, G, rfl, ho1, hG, H⟩
  refine JL.go trivial (RX.assignv (v := Value.slice _ _ _) rfl) ?_
  refine JL.nil ?_
  refine J.ret1 (v := Value.slice _ _ _) Tryz.func60 rfl rfl ?_
  exact ⟨_, rfl, q, c, s1, G, rfl, ho1, hG, H⟩
theorem natMulG {w0 w : World} {s0 : Seg} {L : List Seg} (H : Hp w0 w (s0 :: L)) {q0 : Option Addr} {ws : List Nat} {a b r c0 c2 c3 : Nat} (ho : OwnW q0 ws c0 s0) {px py stk : Option Addr} (hX : RowAt (s0 :: L) px (wd a) c2) (hY : RowAt (s0 :: L) py (wd b) c3) (ha : a < 18446744073709551616) (hb : b < 18446744073709551616) (hr : a * b = r) :
    Ret Tryz.prog 60 [.slice q0 ws.length c0, .pointer stk, .slice px (wd a).length c2, .slice py (wd b).length c3] w fun v w' => ∃ q c s' G, v = .slice q (wd r).length c ∧ OwnW q (wd r) c s' ∧ Left s0 G ∧ Hp w0 w' (s' :: (G ++ L)) := by
  subst hr
  by_cases ha0 : a = 0
  · subst ha0
    rw [Nat.zero_mul]
    by_cases hb0 : b = 0
    · subst hb0
      exact natMulZ0 H ho
    · rw [wd_pos (a := b) (by omega) hb]
      exact natMulS H ho
  · rw [wd_pos (a := a) (by omega) ha] at hX ⊢
    by_cases hb0 : b = 0
    · subst hb0
      rw [Nat.mul_zero]
      exact natMulZ1 H ho
    · rw [wd_pos (a := b) (by omega) hb] at hY ⊢
      exact natMulP H ho hX hY (by omega) ha (by omega) hb
theorem sgn_mul {x y : Int} (h : 0 < (x * y).natAbs) : decide (x * y < 0) = !(decide (x < 0) == decide (y < 0)) := by
  rcases Int.lt_trichotomy x 0 with hx | hx | hx
  · rcases Int.lt_trichotomy y 0 with hy | hy | hy
    · have := Int.mul_pos_of_neg_of_neg hx hy
      rw [decide_eq_true hx, decide_eq_true hy, decide_eq_false (by omega)]; rfl
    · subst hy; simp at h
    · have := Int.mul_neg_of_neg_of_pos hx hy
      rw [decide_eq_true hx, decide_eq_false (show ¬ y < 0 by omega), decide_eq_true this]; rfl
  · subst hx; simp at h
  · rcases Int.lt_trichotomy y 0 with hy | hy | hy
    · have := Int.mul_neg_of_pos_of_neg hx hy
      rw [decide_eq_false (show ¬ x < 0 by omega), decide_eq_true hy, decide_eq_true this]; rfl
    · subst hy; simp at h
    · have := Int.mul_pos hx hy
      rw [decide_eq_false (show ¬ x < 0 by omega), decide_eq_false (show ¬ y < 0 by omega), decide_eq_false (by omega)]; rfl

set_option maxHeartbeats 1600000 in
theorem imulG {w0 w : World} {L : List Seg} {sz : Seg} {bz : Nat} {vz : Int} {q0 : Option Addr} {c0 : Nat} (H : Hp w0 w ([(bz, cel (bigV (vz) q0 c0) 53)] :: sz :: L)) (ho : OwnW q0 (wd vz.natAbs) c0 sz) {bx : Nat} {vx : Int} {qx : Option Addr} {cx : Nat} (hX : SlAt L (some ⟨bx, 0, none⟩) (bigV vx qx cx)) (hxw : RowAt L qx (wd vx.natAbs) cx) {by_ : Nat} {vy : Int} {qy_ : Option Addr} {cy_ : Nat} (hY : SlAt L (some ⟨by_, 0, none⟩) (bigV vy qy_ cy_)) (hyw : RowAt L qy_ (wd vy.natAbs) cy_) {CX CY : Array Value} {TX TY : TypeId} (hmx : (bx, Obj.cells CX TX (0, 0)) ∈ L.flatten) (hmy : (by_, Obj.cells CY TY (0, 0)) ∈ L.flatten) (hne : bx ≠ by_) (hvx : vx.natAbs < 18446744073709551616) (hvy : vy.natAbs < 18446744073709551616) : Ret Tryz.prog 43 [.pointer (some ⟨bz, 0, none⟩), .pointer none, .pointer (some ⟨bx, 0, none⟩), .pointer (some ⟨by_, 0, none⟩)] w fun _ w' => ∃ q c s1, OwnW q (wd (vx * vy).natAbs) c s1 ∧ Hp w0 w' ([(bz, cel (bigV (vx * vy) q c) 53)] :: s1 :: L) := by
  refine Calls.of_J (n := 64) Tryz.func43 rfl rfl rfl ?_
  refine J.seq ?_
  refine J.seq ?_
  unfold bigV at H hX hY
  refine J.region ?_
  refine JL.go trivial (RX.movev (v := Value.pointer _) rfl) ?_
  refine JL.go trivial (RX.movev (v := Value.pointer _) rfl) ?_
  refine JL.go trivial (RX.ptrother_eql H rfl rfl ud48 (k := 1) sz53 hne (mem2 hmx) (mem2 hmy)) ?_
  refine JL.nil ?_
  refine J.cond_f rfl rfl ?_
  refine J.skip ?_
  refine J.seq ?_
  refine J.any hmix fun w hs => ?_
  replace H := H.same hs; clear hs
  refine JA.take 0 (listed' := [true, false, false, false, false, false, false, false, false, false, false, false, false, false, false, false, false, false]) rfl (by kernel_rfl) (by kernel_rfl) (by kernel_rfl) rfl trivial (fun w => RX.movev (v := Value.pointer _) rfl) ?_
  refine JA.stage (listed := [true, false, false, false, false, false, false, false, false, false, false, false, false, false, false, false, false, false]) 14 [1, 2, 3, 4, 5, 6, 7, 8, 9, 10, 11, 12, 13] H (by kernel_rfl) rfl rfl ?_
  refine JI.go rfl trivial (fun w H => RX.movev (v := Value.pointer _) rfl) ?_
  refine JI.go rfl trivial (fun w H => RX.nilCheck rfl) ?_
  refine JI.go rfl trivial (fun w H => RX.fieldAddr rfl fo53_1 rfl) ?_
  refine JI.go rfl trivial (fun w H => RX.load H rfl (i := 0) (v := .slice _ _ _) rfl rfl one51) ?_
  refine JI.go rfl trivial (fun w H => RX.movev (v := Value.pointer _) rfl) ?_
  refine JI.go rfl trivial (fun w H => RX.movev (v := Value.pointer _) rfl) ?_
  refine JI.go rfl trivial (fun w H => RX.nilCheck rfl) ?_
  refine JI.go rfl trivial (fun w H => RX.fieldAddr rfl fo53_1 rfl) ?_
  refine JI.go rfl trivial (fun w H => RX.loadS H hX.cons.cons rfl (j := 1) rfl (v := .slice _ _ _) rfl one51) ?_
  refine JI.go rfl trivial (fun w H => RX.movev (v := Value.pointer _) rfl) ?_
  refine JI.go rfl trivial (fun w H => RX.nilCheck rfl) ?_
  refine JI.go rfl trivial (fun w H => RX.fieldAddr rfl fo53_1 rfl) ?_
  refine JI.go rfl trivial (fun w H => RX.loadS H hY.cons.cons rfl (j := 1) rfl (v := .slice _ _ _) rfl one51) ?_
  refine JI.nil fun w H => ?_
  refine JL.does trivial (EX.call rfl cl60 rfl ((natMulG (H.pull 1 rfl) ho hxw.cons.cons hyw.cons.cons hvx hvy (r := (vx * vy).natAbs) (Int.natAbs_mul _ _).symm))) ?_
  rintro _ w ⟨q, c, s1, G, rfl, ho1, hG, H⟩
  replace H := hG.drop H
  refine JL.go trivial (RX.nilCheck rfl) ?_
  refine JL.go trivial (RX.fieldAddr rfl fo53_1 rfl) ?_
  refine JL.does trivial (EX.store (v := Value.slice _ _ _) H rfl rfl (i := 1) rfl rfl (by simp) sz51 rfl rfl) ?_
  rintro _ w H
  refine JL.nil ?_
  refine J.any hmix fun w hs => ?_
  replace H := H.same hs; clear hs
  refine JA.stage (listed := [false, false, false, false, false, false, false, false, false, false, false, false, false, false, false, false, false, false, false, false, false]) 20 [0, 1, 2, 3, 4, 5, 6, 7, 8, 9, 10, 11, 12, 13, 14, 15, 16, 17, 18, 19] H (by kernel_rfl) rfl rfl ?_
  refine JI.go rfl trivial (fun w H => RX.movev (v := Value.pointer _) rfl) ?_
  refine JI.go rfl trivial (fun w H => RX.movev (v := Value.pointer _) rfl) ?_
  refine JI.go rfl trivial (fun w H => RX.nilCheck rfl) ?_
  refine JI.go rfl trivial (fun w H => RX.fieldAddr rfl fo53_1 rfl) ?_
  refine JI.go rfl trivial (fun w H => RX.load H rfl (i := 1) (v := .slice _ _ _) rfl rfl one51) ?_
  refine JI.go rfl trivial (fun w H => RX.len_slice rfl (by rw [sl51]; rfl) rfl) ?_
  refine JI.go rfl trivial (fun w H => RX.gt rfl rfl) ?_
  refine JI.go rfl trivial (fun w H => RX.movev (v := Value.bool _) rfl) ?_
  refine JI.splitS 51 rfl (fun hg => ?_) (fun hg => ?_)
  · skip
    first | have hgp := of_decide_eq_true hg | skip
    refine JI.go rfl ⟨_, rfl, hg⟩ (fun w H => RX.movev (v := Value.pointer _) rfl) ?_
    refine JI.go rfl ⟨_, rfl, hg⟩ (fun w H => RX.nilCheck rfl) ?_
    refine JI.go rfl ⟨_, rfl, hg⟩ (fun w H => RX.fieldAddr rfl fo53_0 rfl) ?_
    refine JI.go rfl ⟨_, rfl, hg⟩ (fun w H => RX.loadS H hX.cons.cons rfl (j := 0) rfl (v := .bool _) rfl one4) ?_
    refine JI.go rfl ⟨_, rfl, hg⟩ (fun w H => RX.movev (v := Value.pointer _) rfl) ?_
    refine JI.go rfl ⟨_, rfl, hg⟩ (fun w H => RX.nilCheck rfl) ?_
    refine JI.go rfl ⟨_, rfl, hg⟩ (fun w H => RX.fieldAddr rfl fo53_0 rfl) ?_
    refine JI.go rfl ⟨_, rfl, hg⟩ (fun w H => RX.loadS H hY.cons.cons rfl (j := 0) rfl (v := .bool _) rfl one4) ?_
    refine JI.go rfl ⟨_, rfl, hg⟩ (fun w H => RX.bool_neq rfl rfl ud4) ?_
    refine JI.go rfl trivial (fun w H => RX.pick_t rfl hg) ?_
    refine JI.go rfl trivial (fun w H => RX.nilCheck rfl) ?_
    refine JI.go rfl trivial (fun w H => RX.fieldAddr rfl fo53_0 rfl) ?_
    refine JI.nil fun w H => ?_
    refine JL.does trivial (EX.store (v := Value.bool _) H rfl rfl (i := 1) rfl rfl (by simp) sz4 rfl rfl) ?_
    rintro _ w H
    refine JL.nil ?_
    refine J.end0 Tryz.func43 rfl ?_
    have hnz := wd_nz (show ¬ ((wd (vx * vy).natAbs).length : Int) = 0 by have := of_decide_eq_true hg; omega)
    have e : decide (vx * vy < 0) = _ := sgn_mul hnz
    refine ⟨_, rfl, q, c, s1, ho1, ?_⟩
    unfold bigV
    rw [e]
    exact H.pull 1 rfl
  · skip
    first | have hgp := of_decide_eq_false hg | skip
    refine JI.no rfl ⟨_, rfl, gno hg⟩ ?_
    refine JI.no rfl ⟨_, rfl, gno hg⟩ ?_
    refine JI.no rfl ⟨_, rfl, gno hg⟩ ?_
    refine JI.no rfl ⟨_, rfl, gno hg⟩ ?_
    refine JI.no rfl ⟨_, rfl, gno hg⟩ ?_
    refine JI.no rfl ⟨_, rfl, gno hg⟩ ?_
    refine JI.no rfl ⟨_, rfl, gno hg⟩ ?_
    refine JI.no rfl ⟨_, rfl, gno hg⟩ ?_
    refine JI.no rfl ⟨_, rfl, gno hg⟩ ?_
    refine JI.go rfl trivial (fun w H => RX.pick_f rfl hg) ?_
    refine JI.go rfl trivial (fun w H => RX.nilCheck rfl) ?_
    refine JI.go rfl trivial (fun w H => RX.fieldAddr rfl fo53_0 rfl) ?_
    refine JI.nil fun w H => ?_
    refine JL.does trivial (EX.store (v := Value.bool _) H rfl rfl (i := 1) rfl rfl (by simp) sz4 rfl rfl) ?_
    rintro _ w H
    refine JL.nil ?_
    refine J.end0 Tryz.func43 rfl ?_
    have hnz := wd_zero (show ((wd (vx * vy).natAbs).length : Int) = 0 by have := of_decide_eq_false hg; omega)
    have e : decide (vx * vy < 0) = false := decide_eq_false (by omega)
    refine ⟨_, rfl, q, c, s1, ho1, ?_⟩
    unfold bigV
    rw [e]
    exact H.pull 1 rfl
set_option maxHeartbeats 1600000 in
theorem iMulG {w0 w : World} {L : List Seg} {sz : Seg} {bz : Nat} {vz : Int} {q0 : Option Addr} {c0 : Nat} (H : Hp w0 w ([(bz, cel (bigV (vz) q0 c0) 53)] :: sz :: L)) (ho : OwnW q0 (wd vz.natAbs) c0 sz) {bx : Nat} {vx : Int} {qx : Option Addr} {cx : Nat} (hX : SlAt L (some ⟨bx, 0, none⟩) (bigV vx qx cx)) (hxw : RowAt L qx (wd vx.natAbs) cx) {by_ : Nat} {vy : Int} {qy_ : Option Addr} {cy_ : Nat} (hY : SlAt L (some ⟨by_, 0, none⟩) (bigV vy qy_ cy_)) (hyw : RowAt L qy_ (wd vy.natAbs) cy_) {CX CY : Array Value} {TX TY : TypeId} (hmx : (bx, Obj.cells CX TX (0, 0)) ∈ L.flatten) (hmy : (by_, Obj.cells CY TY (0, 0)) ∈ L.flatten) (hne : bx ≠ by_) (hvx : vx.natAbs < 18446744073709551616) (hvy : vy.natAbs < 18446744073709551616) : Ret Tryz.prog 26 [.pointer (some ⟨bz, 0, none⟩), .pointer (some ⟨bx, 0, none⟩), .pointer (some ⟨by_, 0, none⟩)] w fun u w' => ∃ q c s1, u = .pointer (some ⟨bz, 0, none⟩) ∧ OwnW q (wd (vx * vy).natAbs) c s1 ∧ Hp w0 w' ([(bz, cel (bigV (vx * vy) q c) 53)] :: s1 :: L) := by
  refine Calls.of_J (n := 12) Tryz.func26 rfl rfl rfl ?_
  refine J.seq ?_
  refine J.region ?_
  refine JL.go trivial (RX.assign) ?_
  refine JL.nil ?_
  refine J.seq ?_
  refine J.region ?_
  refine JL.go trivial (RX.movev (v := Value.pointer _) rfl) ?_
  refine JL.go trivial (RX.movev (v := Value.pointer _) rfl) ?_
  refine JL.go trivial (RX.movev (v := Value.pointer _) rfl) ?_
  refine JL.does trivial (EX.call rfl cl43 rfl ((imulG H ho hX hxw hY hyw hmx hmy hne hvx hvy))) ?_
  rintro _ w ⟨q, c, s1, ho1, H⟩
  refine JL.nil ?_
  refine J.seq ?_
  refine J.region ?_
  refine JL.go trivial (RX.movev (v := Value.pointer _) rfl) ?_
  refine JL.go trivial (RX.assignv (v := Value.pointer _) rfl) ?_
  refine JL.nil ?_
  refine J.ret1 (v := Value.pointer _) Tryz.func26 rfl rfl ?_
  exact ⟨_, rfl, q, c, s1, rfl, ho1, H⟩
end Nn
end Go.Proofs.YtfpphoapknecfaaGreatDoorBesafter

/- math/big.Int: sums, negatives, words. -/
import Derived.Test.YtfpphoapknecfaaGreatDoorBesafterBi
namespace Go.Proofs.YtfpphoapknecfaaGreatDoorBesafter
open Go Go.Eng
set_option maxRecDepth 100000
set_option linter.unusedVariables false
set_option linter.unusedSimpArgs false
theorem cl37 : callable Tryz.prog 37 = true := by kernel_rfl
theorem cl39 : callable Tryz.prog 39 = true := by kernel_rfl
theorem cl40 : callable Tryz.prog 40 = true := by kernel_rfl
theorem cl58 : callable Tryz.prog 58 = true := by kernel_rfl
theorem take2_eq {l : List Value} {a b : Value} (h : l.take 2 = [a, b]) : ∃ t, l = a :: b :: t := by
  match l, h with
  | x :: y :: t, h => simp at h; obtain ⟨rfl, rfl⟩ := h; exact ⟨t, rfl⟩
theorem wd_ge {a : Nat} (h : 0 < a) : 1 ≤ (wd a).length := by rw [wd_len]; split <;> (try split) <;> omega
theorem wd_big {a : Nat} (h : (wd a).length ≤ 1) : a < 18446744073709551616 := by rw [wd_len] at h; split at h <;> (try split at h) <;> omega
theorem natAdd_b {w0 w : World} {s0 : Seg} {L : List Seg} (H : Hp w0 w (s0 :: L)) {q0 : Option Addr} {a b r c0 c3 : Nat} (ho : OwnW q0 (wd a) c0 s0) {py : Option Addr} (hs : SlAt (s0 :: L) py (u64sV (wd b))) (hp3 : ∀ x, py = some x → x.spot = none) (hc3 : (wd b).length ≤ c3) (ha : a < 1267650600228229401496703205376) (hb : b < 18446744073709551616) (hr : a + b = r) :
    Ret Tryz.prog 38 [.slice q0 (wd a).length c0, .slice q0 (wd a).length c0, .slice py (wd b).length c3] w fun v w' => ∃ q c s' G, v = .slice q (wd r).length c ∧ OwnW q (wd r) c s' ∧ Left s0 G ∧ Hp w0 w' (s' :: (G ++ L)) := by
  subst hr
  by_cases ha0 : a = 0
  · subst ha0
    rw [Nat.zero_add]
    by_cases hb0 : b = 0
    · subst hb0
      exact addZero_b H ho
    · exact addSwap_b H ho hs (wd_ge (by omega)) (wd_le2 _)
  by_cases hb0 : b = 0
  · subst hb0
    exact addSet_b H ho ho.slAt (wd_ge (by omega)) (wd_le2 _)
  have e2 : wd b = [b] := wd_pos (by omega) hb
  rw [e2] at hs hc3 ⊢
  by_cases ha1 : a < 18446744073709551616
  · have e1 : wd a = [a] := wd_pos (by omega) ha1
    rw [e1] at ho ⊢
    exact add11_b H ho ho.slAt hs ho.spot hp3 ho.le hc3 ha1 hb
  · have e1 := wd_two (show 18446744073709551616 ≤ a by omega)
    rw [e1] at ho ⊢
    obtain ⟨g, l0, rfl, rfl, h1, h2, h3⟩ := ownW_some ho (by simp)
    have e3 : a % 18446744073709551616 + a / 18446744073709551616 * 18446744073709551616 + b = a + b := by omega
    have := add21_b (c0 := c0) H h2 h3 h1 hs hp3 hc3 (Nat.mod_lt _ (by decide)) (show a / 18446744073709551616 + 1 < 18446744073709551616 by omega) hb
    rw [e3] at this
    exact this
theorem natSub_b {w0 w : World} {s0 : Seg} {L : List Seg} (H : Hp w0 w (s0 :: L)) {q0 : Option Addr} {ws : List Nat} {a b r c0 c2 c3 : Nat} (ho : OwnW q0 ws c0 s0) {px py : Option Addr} (hx : SlAt (s0 :: L) px (u64sV (wd a))) (hy : SlAt (s0 :: L) py (u64sV (wd b))) (hp2 : ∀ x, px = some x → x.spot = none) (hp3 : ∀ x, py = some x → x.spot = none) (hc2 : (wd a).length ≤ c2) (hc3 : (wd b).length ≤ c3) (hba : b ≤ a) (ha : a < 18446744073709551616) (hr : a - b = r) :
    Ret Tryz.prog 40 [.slice q0 ws.length c0, .slice px (wd a).length c2, .slice py (wd b).length c3] w fun v w' => ∃ q c s' G, v = .slice q (wd r).length c ∧ OwnW q (wd r) c s' ∧ Left s0 G ∧ Hp w0 w' (s' :: (G ++ L)) := by
  subst hr
  by_cases ha0 : a = 0
  · subst ha0
    obtain rfl : b = 0 := by omega
    exact subZero_b H ho
  · by_cases hb : b = 0
    · subst hb
      exact subSet_b H ho hx (wd_ge (by omega)) (wd_le2 _)
    · have e1 : wd a = [a] := wd_pos (by omega) ha
      have e2 : wd b = [b] := wd_pos (by omega) (by omega)
      rw [e1] at hx hc2 ⊢
      rw [e2] at hy hc3 ⊢
      exact sub11_b H ho hx hy hp2 hp3 hc2 hc3 hba ha
theorem natSubOwn_b {w0 w : World} {s0 : Seg} {L : List Seg} (H : Hp w0 w (s0 :: L)) {q0 : Option Addr} {a b r c0 c3 : Nat} (ho : OwnW q0 (wd a) c0 s0) {py : Option Addr} (hs : SlAt (s0 :: L) py (u64sV (wd b))) (hp3 : ∀ x, py = some x → x.spot = none) (hc3 : (wd b).length ≤ c3) (ha : a < 1267650600228229401496703205376) (hba : b ≤ a) (hb : b < 18446744073709551616) (hr : a - b = r) :
    Ret Tryz.prog 40 [.slice q0 (wd a).length c0, .slice q0 (wd a).length c0, .slice py (wd b).length c3] w fun v w' => ∃ q c s' G, v = .slice q (wd r).length c ∧ OwnW q (wd r) c s' ∧ Left s0 G ∧ Hp w0 w' (s' :: (G ++ L)) := by
  by_cases ha1 : a < 18446744073709551616
  · exact natSub_b H ho ho.slAt hs ho.spot hp3 ho.le hc3 hba ha1 hr
  · subst hr
    by_cases hb0 : b = 0
    · subst hb0
      exact subSet_b H ho ho.slAt (wd_ge (by omega)) (wd_le2 _)
    · have e2 : wd b = [b] := wd_pos (by omega) hb
      rw [e2] at hs hc3 ⊢
      have e1 := wd_two (show 18446744073709551616 ≤ a by omega)
      rw [e1] at ho ⊢
      obtain ⟨g, l0, rfl, rfl, h1, h2, h3⟩ := ownW_some ho (by simp)
      obtain ⟨t, rfl⟩ := take2_eq h3
      have e3 : a % 18446744073709551616 + a / 18446744073709551616 * 18446744073709551616 - b = a - b := by omega
      have := sub21_b (l0 := []) (c0 := c0) H (by simpa using h2) hs hp3 hc3 (Nat.mod_lt _ (by decide)) (show a / 18446744073709551616 < 18446744073709551616 by omega) (by omega) hb
      rw [e3] at this
      exact this
theorem natCmp_b {w0 w : World} {F : List Seg} (H : Hp w0 w F) {px py : Option Addr} {a b c2 c3 : Nat} (hs : SlAt F px (u64sV (wd a))) (hs2 : SlAt F py (u64sV (wd b))) (hb : b < 18446744073709551616) :
    Ret Tryz.prog 39 [.slice px (wd a).length c2, .slice py (wd b).length c3] w fun v w' => ∃ r : Int, v = .int .i64 r ∧ (0 ≤ r ↔ b ≤ a) ∧ Hp w0 w' F := by
  by_cases hl : (wd a).length ≠ (wd b).length ∨ (wd a).length = 0
  · refine Ret.mono (cmpLen_b H hl) ?_
    rintro v w' ⟨rfl, H⟩
    refine ⟨_, rfl, ?_, H⟩
    rw [wd_len, wd_len] at *
    repeat (split at * <;> try omega)
    all_goals (repeat split) <;> omega
  · have hl1 : (wd a).length = (wd b).length := by omega
    have hl2 := wd_le hb
    have ha : a < 18446744073709551616 := wd_big (by omega)
    have e1 : wd a = [a] := wd_pos (wd_nz (by omega)) ha
    have e2 : wd b = [b] := wd_pos (wd_nz (by omega)) hb
    rw [e1] at hs ⊢
    rw [e2] at hs2 ⊢
    refine Ret.mono (cmp1_b H hs hs2) ?_
    rintro v w' ⟨rfl, H⟩
    refine ⟨_, rfl, ?_, H⟩
    repeat split
    all_goals omega
theorem natSet_b {w0 w : World} {s0 : Seg} {L : List Seg} (H : Hp w0 w (s0 :: L)) {q0 : Option Addr} {ws : List Nat} {b c0 c2 : Nat} (ho : OwnW q0 ws c0 s0) {px : Option Addr} (hs : SlAt (s0 :: L) px (u64sV (wd b))) :
    Ret Tryz.prog 49 [.slice q0 ws.length c0, .slice px (wd b).length c2] w fun v w' => ∃ q c s' G, v = .slice q (wd b).length c ∧ OwnW q (wd b) c s' ∧ Left s0 G ∧ Hp w0 w' (s' :: (G ++ L)) := by
  by_cases hb : b = 0
  · subst hb
    refine Ret.mono (set0_b H ho) ?_
    rintro v w' ⟨rfl, H⟩
    exact ⟨q0, c0, s0, [], rfl, ho.none_, .inl rfl, H⟩
  · exact set_b H ho hs (wd_ge (by omega)) (wd_le2 _)
/-- A word read as a signed number. -/
def sgW (n : Nat) : Int := if n < 9223372036854775808 then n else n - 18446744073709551616
theorem wrapW {n : Nat} (h : n < 18446744073709551616) : IntKind.i64.wrap (n : Int) = sgW n := by
  unfold sgW
  simp only [IntKind.wrap, IntKind.bits, IntKind.signed]; simp; split <;> omega
theorem wrapN {x : Int} (h : -9223372036854775808 ≤ x) (h2 : x < 9223372036854775808) : IntKind.i64.wrap (0 - x) = if x = -9223372036854775808 then x else -x := by
  simp only [IntKind.wrap, IntKind.bits, IntKind.signed]; simp; split <;> omega
theorem sgW_lt {n : Nat} (h : n < 18446744073709551616) : -9223372036854775808 ≤ sgW n ∧ sgW n < 9223372036854775808 := by unfold sgW; split <;> omega
def i64in (v : Int) : Prop := -9223372036854775808 ≤ v ∧ v < 9223372036854775808
instance {v : Int} : Decidable (i64in v) := inferInstanceAs (Decidable (_ ∧ _))

set_option maxHeartbeats 1600000 in
theorem iAdd_b {w0 w : World} {L : List Seg} {sz : Seg} {bz : Nat} {vz : Int} {q0 : Option Addr} {c0 : Nat} (H : Hp w0 w ([(bz, cel (bigV (vz) q0 c0) 53)] :: sz :: L)) (ho : OwnW q0 (wd vz.natAbs) c0 sz) {by_ : Nat} {vy : Int} {qy : Option Addr} {cy : Nat} (hY : SlAt L (some ⟨by_, 0, none⟩) (bigV vy qy cy)) (hyw : SlAt L qy (u64sV (wd vy.natAbs))) (hp3 : ∀ a, qy = some a → a.spot = none) (hc3 : (wd vy.natAbs).length ≤ cy) (hvz : vz.natAbs < 1267650600228229401496703205376) (hvy : vy.natAbs < 18446744073709551616) : Ret Tryz.prog 24 [.pointer (some ⟨bz, 0, none⟩), .pointer (some ⟨bz, 0, none⟩), .pointer (some ⟨by_, 0, none⟩)] w fun u w' => ∃ q c s1, u = .pointer (some ⟨bz, 0, none⟩) ∧ OwnW q (wd (vz + vy).natAbs) c s1 ∧ Hp w0 w' ([(bz, cel (bigV (vz + vy) q c) 53)] :: s1 :: L) := by
  refine Calls.of_J (n := 94) Tryz.func24 rfl rfl rfl ?_
  refine J.seq ?_
  unfold bigV at H hY
  refine J.region ?_
  refine JL.go trivial (RX.assign) ?_
  refine JL.nil ?_
  refine J.seq ?_
  refine J.region ?_
  refine JL.go trivial (RX.movev (v := Value.pointer _) rfl) ?_
  refine JL.go trivial (RX.nilCheck rfl) ?_
  refine JL.go trivial (RX.fieldAddr rfl fo53_0 rfl) ?_
  refine JL.go trivial (RX.load H rfl (i := 0) (v := .bool _) rfl rfl one4) ?_
  refine JL.go trivial (RX.assignv (v := Value.bool _) rfl) ?_
  refine JL.nil ?_
  refine J.seq ?_
  refine J.seq ?_
  refine J.quietH H hmix (by kernel_rfl) ?_
  refine JQ.go trivial (fun w H => RX.movev (v := Value.pointer _) rfl) ?_
  refine JQ.go trivial (fun w H => RX.nilCheck rfl) ?_
  refine JQ.go trivial (fun w H => RX.fieldAddr rfl fo53_0 rfl) ?_
  refine JQ.go trivial (fun w H => RX.load H rfl (i := 0) (v := .bool _) rfl rfl one4) ?_
  refine JQ.go trivial (fun w H => RX.movev (v := Value.pointer _) rfl) ?_
  refine JQ.go trivial (fun w H => RX.nilCheck rfl) ?_
  refine JQ.go trivial (fun w H => RX.fieldAddr rfl fo53_0 rfl) ?_
  refine JQ.go trivial (fun w H => RX.loadS H hY.cons.cons rfl (j := 0) rfl (v := .bool _) rfl one4) ?_
  refine JQ.go trivial (fun w H => RX.bool_eql rfl rfl ud4) ?_
  refine JQ.nil fun w H => ?_
  refine J.cond rfl (fun h20 => ?_) (fun h20 => ?_)
  · skip
    have hsg : (vz < 0 ↔ vy < 0) := by simpa using h20
    have hr : vz.natAbs + vy.natAbs = (vz + vy).natAbs := by omega
    refine J.any hmix fun w hs => ?_
    replace H := H.same hs; clear hs
    refine JA.take 0 (listed' := [true, false, false, false, false, false, false, false, false, false, false, false, false, false, false, false, false]) rfl (by kernel_rfl) (by kernel_rfl) (by kernel_rfl) rfl trivial (fun w => RX.movev (v := Value.pointer _) rfl) ?_
    refine JA.stage (listed := [true, false, false, false, false, false, false, false, false, false, false, false, false, false, false, false, false]) 13 [1, 2, 3, 4, 5, 6, 7, 8, 9, 10, 11, 12] H (by kernel_rfl) rfl rfl ?_
    refine JI.go rfl trivial (fun w H => RX.movev (v := Value.pointer _) rfl) ?_
    refine JI.go rfl trivial (fun w H => RX.nilCheck rfl) ?_
    refine JI.go rfl trivial (fun w H => RX.fieldAddr rfl fo53_1 rfl) ?_
    refine JI.go rfl trivial (fun w H => RX.load H rfl (i := 0) (v := .slice _ _ _) rfl rfl one51) ?_
    refine JI.go rfl trivial (fun w H => RX.movev (v := Value.pointer _) rfl) ?_
    refine JI.go rfl trivial (fun w H => RX.nilCheck rfl) ?_
    refine JI.go rfl trivial (fun w H => RX.fieldAddr rfl fo53_1 rfl) ?_
    refine JI.go rfl trivial (fun w H => RX.load H rfl (i := 0) (v := .slice _ _ _) rfl rfl one51) ?_
    refine JI.go rfl trivial (fun w H => RX.movev (v := Value.pointer _) rfl) ?_
    refine JI.go rfl trivial (fun w H => RX.nilCheck rfl) ?_
    refine JI.go rfl trivial (fun w H => RX.fieldAddr rfl fo53_1 rfl) ?_
    refine JI.go rfl trivial (fun w H => RX.loadS H hY.cons.cons rfl (j := 1) rfl (v := .slice _ _ _) rfl one51) ?_
    refine JI.nil fun w H => ?_
    refine JL.does trivial (EX.call rfl cl38 rfl ((natAdd_b (H.pull 1 rfl) ho hyw.cons.cons hp3 hc3 hvz hvy hr))) ?_
    rintro _ w ⟨q, c, s1, G, rfl, ho1, hG, H⟩
    replace H := hG.drop H
    refine JL.go trivial (RX.nilCheck rfl) ?_
    refine JL.go trivial (RX.fieldAddr rfl fo53_1 rfl) ?_
    refine JL.does trivial (EX.store (v := Value.slice _ _ _) H rfl rfl (i := 1) rfl rfl (by simp) sz51 rfl rfl) ?_
    rintro _ w H
    refine JL.nil ?_
    refine J.seq ?_
    refine J.region ?_
    refine JL.go trivial (RX.movev (v := Value.pointer _) rfl) ?_
    refine JL.go trivial (RX.movev (v := Value.pointer _) rfl) ?_
    refine JL.go trivial (RX.nilCheck rfl) ?_
    refine JL.go trivial (RX.fieldAddr rfl fo53_1 rfl) ?_
    refine JL.go trivial (RX.load H rfl (i := 1) (v := .slice _ _ _) rfl rfl one51) ?_
    refine JL.go trivial (RX.len_slice rfl (by rw [sl51]; rfl) rfl) ?_
    refine JL.go trivial (RX.gt rfl rfl) ?_
    refine JL.go trivial (RX.movev (v := Value.bool _) rfl) ?_
    refine JL.splitS 88 rfl (fun hg => ?_) (fun hg => ?_)
    · skip
      first | have hgp := of_decide_eq_true hg | skip
      refine JL.go ⟨_, rfl, hg⟩ (RX.movev (v := Value.bool _) rfl) ?_
      refine JL.go trivial (RX.pick_t rfl hg) ?_
      refine JL.go trivial (RX.nilCheck rfl) ?_
      refine JL.go trivial (RX.fieldAddr rfl fo53_0 rfl) ?_
      refine JL.does trivial (EX.store (v := Value.bool _) H rfl rfl (i := 1) rfl rfl (by simp) sz4 rfl rfl) ?_
      rintro _ w H
      refine JL.nil ?_
      refine J.seq ?_
      refine J.region ?_
      refine JL.go trivial (RX.movev (v := Value.pointer _) rfl) ?_
      refine JL.go trivial (RX.assignv (v := Value.pointer _) rfl) ?_
      refine JL.nil ?_
      refine J.ret1 (v := Value.pointer _) Tryz.func24 rfl rfl ?_
      have hnz := wd_nz (show ¬ ((wd (vz + vy).natAbs).length : Int) = 0 by have := of_decide_eq_true hg; omega)
      have e : decide (vz + vy < 0) = decide (vz < 0) := decide_eq_decide.2 (by constructor <;> intro _ <;> omega)
      refine ⟨_, rfl, q, c, s1, rfl, ho1, ?_⟩
      unfold bigV
      rw [e]
      exact H.pull 1 rfl
    · skip
      first | have hgp := of_decide_eq_false hg | skip
      refine JL.no ⟨_, rfl, gno hg⟩ ?_
      refine JL.go trivial (RX.pick_f rfl hg) ?_
      refine JL.go trivial (RX.nilCheck rfl) ?_
      refine JL.go trivial (RX.fieldAddr rfl fo53_0 rfl) ?_
      refine JL.does trivial (EX.store (v := Value.bool _) H rfl rfl (i := 1) rfl rfl (by simp) sz4 rfl rfl) ?_
      rintro _ w H
      refine JL.nil ?_
      refine J.seq ?_
      refine J.region ?_
      refine JL.go trivial (RX.movev (v := Value.pointer _) rfl) ?_
      refine JL.go trivial (RX.assignv (v := Value.pointer _) rfl) ?_
      refine JL.nil ?_
      refine J.ret1 (v := Value.pointer _) Tryz.func24 rfl rfl ?_
      have hnz := wd_zero (show ((wd (vz + vy).natAbs).length : Int) = 0 by have := of_decide_eq_false hg; omega)
      have e : decide (vz + vy < 0) = false := decide_eq_false (by omega)
      refine ⟨_, rfl, q, c, s1, rfl, ho1, ?_⟩
      unfold bigV
      rw [e]
      exact H.pull 1 rfl
  · skip
    have hsg : ¬ (vz < 0 ↔ vy < 0) := by
      intro e
      rw [show decide (vz < 0) = decide (vy < 0) from decide_eq_decide.2 e] at h20
      simp at h20
    refine J.seq ?_
    refine J.any hmix fun w hs => ?_
    replace H := H.same hs; clear hs
    refine JA.stage (listed := [false, false, false, false, false, false, false, false, false, false]) 8 [0, 1, 2, 3, 4, 5, 6, 7] H (by kernel_rfl) rfl rfl ?_
    refine JI.go rfl trivial (fun w H => RX.movev (v := Value.pointer _) rfl) ?_
    refine JI.go rfl trivial (fun w H => RX.nilCheck rfl) ?_
    refine JI.go rfl trivial (fun w H => RX.fieldAddr rfl fo53_1 rfl) ?_
    refine JI.go rfl trivial (fun w H => RX.load H rfl (i := 0) (v := .slice _ _ _) rfl rfl one51) ?_
    refine JI.go rfl trivial (fun w H => RX.movev (v := Value.pointer _) rfl) ?_
    refine JI.go rfl trivial (fun w H => RX.nilCheck rfl) ?_
    refine JI.go rfl trivial (fun w H => RX.fieldAddr rfl fo53_1 rfl) ?_
    refine JI.go rfl trivial (fun w H => RX.loadS H hY.cons.cons rfl (j := 1) rfl (v := .slice _ _ _) rfl one51) ?_
    refine JI.nil fun w H => ?_
    refine JL.does trivial (EX.call rfl cl39 rfl ((natCmp_b H ho.slAt.cons hyw.cons.cons hvy))) ?_
    rintro _ w ⟨r, rfl, hrr, H⟩
    refine JL.go trivial (RX.ge rfl rfl) ?_
    refine JL.nil ?_
    refine J.cond_d rfl (fun hge => ?_) (fun hge => ?_)
    · skip
      have hba : vy.natAbs ≤ vz.natAbs := hrr.1 hge
      have hr : vz.natAbs - vy.natAbs = (vz + vy).natAbs := by omega
      refine J.any hmix fun w hs => ?_
      replace H := H.same hs; clear hs
      refine JA.take 0 (listed' := [true, false, false, false, false, false, false, false, false, false, false, false, false, false, false, false, false]) rfl (by kernel_rfl) (by kernel_rfl) (by kernel_rfl) rfl trivial (fun w => RX.movev (v := Value.pointer _) rfl) ?_
      refine JA.stage (listed := [true, false, false, false, false, false, false, false, false, false, false, false, false, false, false, false, false]) 13 [1, 2, 3, 4, 5, 6, 7, 8, 9, 10, 11, 12] H (by kernel_rfl) rfl rfl ?_
      refine JI.go rfl trivial (fun w H => RX.movev (v := Value.pointer _) rfl) ?_
      refine JI.go rfl trivial (fun w H => RX.nilCheck rfl) ?_
      refine JI.go rfl trivial (fun w H => RX.fieldAddr rfl fo53_1 rfl) ?_
      refine JI.go rfl trivial (fun w H => RX.load H rfl (i := 0) (v := .slice _ _ _) rfl rfl one51) ?_
      refine JI.go rfl trivial (fun w H => RX.movev (v := Value.pointer _) rfl) ?_
      refine JI.go rfl trivial (fun w H => RX.nilCheck rfl) ?_
      refine JI.go rfl trivial (fun w H => RX.fieldAddr rfl fo53_1 rfl) ?_
      refine JI.go rfl trivial (fun w H => RX.load H rfl (i := 0) (v := .slice _ _ _) rfl rfl one51) ?_
      refine JI.go rfl trivial (fun w H => RX.movev (v := Value.pointer _) rfl) ?_
      refine JI.go rfl trivial (fun w H => RX.nilCheck rfl) ?_
      refine JI.go rfl trivial (fun w H => RX.fieldAddr rfl fo53_1 rfl) ?_
      refine JI.go rfl trivial (fun w H => RX.loadS H hY.cons.cons rfl (j := 1) rfl (v := .slice _ _ _) rfl one51) ?_
      refine JI.nil fun w H => ?_
      refine JL.does trivial (EX.call rfl cl40 rfl ((natSubOwn_b (H.pull 1 rfl) ho hyw.cons.cons hp3 hc3 hvz hba hvy hr))) ?_
      rintro _ w ⟨q, c, s1, G, rfl, ho1, hG, H⟩
      replace H := hG.drop H
      refine JL.go trivial (RX.nilCheck rfl) ?_
      refine JL.go trivial (RX.fieldAddr rfl fo53_1 rfl) ?_
      refine JL.does trivial (EX.store (v := Value.slice _ _ _) H rfl rfl (i := 1) rfl rfl (by simp) sz51 rfl rfl) ?_
      rintro _ w H
      refine JL.nil ?_
      refine J.seq ?_
      refine J.region ?_
      refine JL.go trivial (RX.movev (v := Value.pointer _) rfl) ?_
      refine JL.go trivial (RX.movev (v := Value.pointer _) rfl) ?_
      refine JL.go trivial (RX.nilCheck rfl) ?_
      refine JL.go trivial (RX.fieldAddr rfl fo53_1 rfl) ?_
      refine JL.go trivial (RX.load H rfl (i := 1) (v := .slice _ _ _) rfl rfl one51) ?_
      refine JL.go trivial (RX.len_slice rfl (by rw [sl51]; rfl) rfl) ?_
      refine JL.go trivial (RX.gt rfl rfl) ?_
      refine JL.go trivial (RX.movev (v := Value.bool _) rfl) ?_
      refine JL.splitS 88 rfl (fun hg => ?_) (fun hg => ?_)
      · skip
        first | have hgp := of_decide_eq_true hg | skip
        refine JL.go ⟨_, rfl, hg⟩ (RX.movev (v := Value.bool _) rfl) ?_
        refine JL.go trivial (RX.pick_t rfl hg) ?_
        refine JL.go trivial (RX.nilCheck rfl) ?_
        refine JL.go trivial (RX.fieldAddr rfl fo53_0 rfl) ?_
        refine JL.does trivial (EX.store (v := Value.bool _) H rfl rfl (i := 1) rfl rfl (by simp) sz4 rfl rfl) ?_
        rintro _ w H
        refine JL.nil ?_
        refine J.seq ?_
        refine J.region ?_
        refine JL.go trivial (RX.movev (v := Value.pointer _) rfl) ?_
        refine JL.go trivial (RX.assignv (v := Value.pointer _) rfl) ?_
        refine JL.nil ?_
        refine J.ret1 (v := Value.pointer _) Tryz.func24 rfl rfl ?_
        have hnz := wd_nz (show ¬ ((wd (vz + vy).natAbs).length : Int) = 0 by have := of_decide_eq_true hg; omega)
        have e : decide (vz + vy < 0) = decide (vz < 0) := decide_eq_decide.2 (by constructor <;> intro _ <;> omega)
        refine ⟨_, rfl, q, c, s1, rfl, ho1, ?_⟩
        unfold bigV
        rw [e]
        exact H.pull 1 rfl
      · skip
        first | have hgp := of_decide_eq_false hg | skip
        refine JL.no ⟨_, rfl, gno hg⟩ ?_
        refine JL.go trivial (RX.pick_f rfl hg) ?_
        refine JL.go trivial (RX.nilCheck rfl) ?_
        refine JL.go trivial (RX.fieldAddr rfl fo53_0 rfl) ?_
        refine JL.does trivial (EX.store (v := Value.bool _) H rfl rfl (i := 1) rfl rfl (by simp) sz4 rfl rfl) ?_
        rintro _ w H
        refine JL.nil ?_
        refine J.seq ?_
        refine J.region ?_
        refine JL.go trivial (RX.movev (v := Value.pointer _) rfl) ?_
        refine JL.go trivial (RX.assignv (v := Value.pointer _) rfl) ?_
        refine JL.nil ?_
        refine J.ret1 (v := Value.pointer _) Tryz.func24 rfl rfl ?_
        have hnz := wd_zero (show ((wd (vz + vy).natAbs).length : Int) = 0 by have := of_decide_eq_false hg; omega)
        have e : decide (vz + vy < 0) = false := decide_eq_false (by omega)
        refine ⟨_, rfl, q, c, s1, rfl, ho1, ?_⟩
        unfold bigV
        rw [e]
        exact H.pull 1 rfl
    · skip
      have hba : vz.natAbs < vy.natAbs := by have := mt hrr.2 hge; omega
      have hr : vy.natAbs - vz.natAbs = (vz + vy).natAbs := by omega
      refine J.seq ?_
      refine J.region ?_
      refine JL.go trivial (RX.movev (v := Value.bool _) rfl) ?_
      refine JL.go trivial (RX.not rfl) ?_
      refine JL.go trivial (RX.assignv (v := Value.bool _) rfl) ?_
      refine JL.nil ?_
      refine J.any hmix fun w hs => ?_
      replace H := H.same hs; clear hs
      refine JA.take 0 (listed' := [true, false, false, false, false, false, false, false, false, false, false, false, false, false, false, false, false]) rfl (by kernel_rfl) (by kernel_rfl) (by kernel_rfl) rfl trivial (fun w => RX.movev (v := Value.pointer _) rfl) ?_
      refine JA.stage (listed := [true, false, false, false, false, false, false, false, false, false, false, false, false, false, false, false, false]) 13 [1, 2, 3, 4, 5, 6, 7, 8, 9, 10, 11, 12] H (by kernel_rfl) rfl rfl ?_
      refine JI.go rfl trivial (fun w H => RX.movev (v := Value.pointer _) rfl) ?_
      refine JI.go rfl trivial (fun w H => RX.nilCheck rfl) ?_
      refine JI.go rfl trivial (fun w H => RX.fieldAddr rfl fo53_1 rfl) ?_
      refine JI.go rfl trivial (fun w H => RX.load H rfl (i := 0) (v := .slice _ _ _) rfl rfl one51) ?_
      refine JI.go rfl trivial (fun w H => RX.movev (v := Value.pointer _) rfl) ?_
      refine JI.go rfl trivial (fun w H => RX.nilCheck rfl) ?_
      refine JI.go rfl trivial (fun w H => RX.fieldAddr rfl fo53_1 rfl) ?_
      refine JI.go rfl trivial (fun w H => RX.loadS H hY.cons.cons rfl (j := 1) rfl (v := .slice _ _ _) rfl one51) ?_
      refine JI.go rfl trivial (fun w H => RX.movev (v := Value.pointer _) rfl) ?_
      refine JI.go rfl trivial (fun w H => RX.nilCheck rfl) ?_
      refine JI.go rfl trivial (fun w H => RX.fieldAddr rfl fo53_1 rfl) ?_
      refine JI.go rfl trivial (fun w H => RX.load H rfl (i := 0) (v := .slice _ _ _) rfl rfl one51) ?_
      refine JI.nil fun w H => ?_
      refine JL.does trivial (EX.call rfl cl40 rfl ((natSub_b (H.pull 1 rfl) ho hyw.cons.cons ho.slAt hp3 ho.spot hc3 ho.le (by omega) hvy hr))) ?_
      rintro _ w ⟨q, c, s1, G, rfl, ho1, hG, H⟩
      replace H := hG.drop H
      refine JL.go trivial (RX.nilCheck rfl) ?_
      refine JL.go trivial (RX.fieldAddr rfl fo53_1 rfl) ?_
      refine JL.does trivial (EX.store (v := Value.slice _ _ _) H rfl rfl (i := 1) rfl rfl (by simp) sz51 rfl rfl) ?_
      rintro _ w H
      refine JL.nil ?_
      refine J.seq ?_
      refine J.region ?_
      refine JL.go trivial (RX.movev (v := Value.pointer _) rfl) ?_
      refine JL.go trivial (RX.movev (v := Value.pointer _) rfl) ?_
      refine JL.go trivial (RX.nilCheck rfl) ?_
      refine JL.go trivial (RX.fieldAddr rfl fo53_1 rfl) ?_
      refine JL.go trivial (RX.load H rfl (i := 1) (v := .slice _ _ _) rfl rfl one51) ?_
      refine JL.go trivial (RX.len_slice rfl (by rw [sl51]; rfl) rfl) ?_
      refine JL.go trivial (RX.gt rfl rfl) ?_
      refine JL.go trivial (RX.movev (v := Value.bool _) rfl) ?_
      refine JL.splitS 88 rfl (fun hg => ?_) (fun hg => ?_)
      · skip
        first | have hgp := of_decide_eq_true hg | skip
        refine JL.go ⟨_, rfl, hg⟩ (RX.movev (v := Value.bool _) rfl) ?_
        refine JL.go trivial (RX.pick_t rfl hg) ?_
        refine JL.go trivial (RX.nilCheck rfl) ?_
        refine JL.go trivial (RX.fieldAddr rfl fo53_0 rfl) ?_
        refine JL.does trivial (EX.store (v := Value.bool _) H rfl rfl (i := 1) rfl rfl (by simp) sz4 rfl rfl) ?_
        rintro _ w H
        refine JL.nil ?_
        refine J.seq ?_
        refine J.region ?_
        refine JL.go trivial (RX.movev (v := Value.pointer _) rfl) ?_
        refine JL.go trivial (RX.assignv (v := Value.pointer _) rfl) ?_
        refine JL.nil ?_
        refine J.ret1 (v := Value.pointer _) Tryz.func24 rfl rfl ?_
        have hnz := wd_nz (show ¬ ((wd (vz + vy).natAbs).length : Int) = 0 by have := of_decide_eq_true hg; omega)
        have e : decide (vz + vy < 0) = !decide (vz < 0) := by rw [← decide_not]; exact decide_eq_decide.2 (by constructor <;> intro _ <;> omega)
        refine ⟨_, rfl, q, c, s1, rfl, ho1, ?_⟩
        unfold bigV
        rw [e]
        exact H.pull 1 rfl
      · skip
        first | have hgp := of_decide_eq_false hg | skip
        refine JL.no ⟨_, rfl, gno hg⟩ ?_
        refine JL.go trivial (RX.pick_f rfl hg) ?_
        refine JL.go trivial (RX.nilCheck rfl) ?_
        refine JL.go trivial (RX.fieldAddr rfl fo53_0 rfl) ?_
        refine JL.does trivial (EX.store (v := Value.bool _) H rfl rfl (i := 1) rfl rfl (by simp) sz4 rfl rfl) ?_
        rintro _ w H
        refine JL.nil ?_
        refine J.seq ?_
        refine J.region ?_
        refine JL.go trivial (RX.movev (v := Value.pointer _) rfl) ?_
        refine JL.go trivial (RX.assignv (v := Value.pointer _) rfl) ?_
        refine JL.nil ?_
        refine J.ret1 (v := Value.pointer _) Tryz.func24 rfl rfl ?_
        have hnz := wd_zero (show ((wd (vz + vy).natAbs).length : Int) = 0 by have := of_decide_eq_false hg; omega)
        have e : decide (vz + vy < 0) = false := decide_eq_false (by omega)
        refine ⟨_, rfl, q, c, s1, rfl, ho1, ?_⟩
        unfold bigV
        rw [e]
        exact H.pull 1 rfl
set_option maxHeartbeats 1600000 in
theorem iSet_b {w0 w : World} {L : List Seg} {sz : Seg} {bz : Nat} {vz : Int} {q0 : Option Addr} {c0 : Nat} (H : Hp w0 w ([(bz, cel (bigV (vz) q0 c0) 53)] :: sz :: L)) (ho : OwnW q0 (wd vz.natAbs) c0 sz) {by_ : Nat} {vy : Int} {qy : Option Addr} {cy : Nat} (hY : SlAt L (some ⟨by_, 0, none⟩) (bigV vy qy cy)) (hyw : SlAt L qy (u64sV (wd vy.natAbs))) (hp3 : ∀ a, qy = some a → a.spot = none) (hc3 : (wd vy.natAbs).length ≤ cy) {CY : Array Value} {TY : TypeId} (hmy : (by_, Obj.cells CY TY (0, 0)) ∈ L.flatten) (hne : ¬ bz = by_) : Ret Tryz.prog 37 [.pointer (some ⟨bz, 0, none⟩), .pointer (some ⟨by_, 0, none⟩)] w fun u w' => ∃ q c s1, u = .pointer (some ⟨bz, 0, none⟩) ∧ OwnW q (wd (vy).natAbs) c s1 ∧ Hp w0 w' ([(bz, cel (bigV (vy) q c) 53)] :: s1 :: L) := by
  refine Calls.of_J (n := 28) Tryz.func37 rfl rfl rfl ?_
  refine J.seq ?_
  unfold bigV at H hY
  refine J.region ?_
  refine JL.go trivial (RX.assign) ?_
  refine JL.nil ?_
  refine J.seq ?_
  refine J.seq ?_
  refine J.region ?_
  refine JL.go trivial (RX.movev (v := Value.pointer _) rfl) ?_
  refine JL.go trivial (RX.movev (v := Value.pointer _) rfl) ?_
  refine JL.go trivial (RX.ptr_neq H rfl rfl ud48 (k := 1) sz53 (fun e => absurd e hne) (List.mem_append_left _ (List.mem_singleton.2 rfl)) (mem2 hmy)) ?_
  refine JL.nil ?_
  refine J.cond_t rfl (decide_eq_true hne) ?_
  refine J.seq ?_
  refine J.any hmix fun w hs => ?_
  replace H := H.same hs; clear hs
  refine JA.take 0 (listed' := [true, false, false, false, false, false, false, false, false, false, false, false, false]) rfl (by kernel_rfl) (by kernel_rfl) (by kernel_rfl) rfl trivial (fun w => RX.movev (v := Value.pointer _) rfl) ?_
  refine JA.stage (listed := [true, false, false, false, false, false, false, false, false, false, false, false, false]) 9 [1, 2, 3, 4, 5, 6, 7, 8] H (by kernel_rfl) rfl rfl ?_
  refine JI.go rfl trivial (fun w H => RX.movev (v := Value.pointer _) rfl) ?_
  refine JI.go rfl trivial (fun w H => RX.nilCheck rfl) ?_
  refine JI.go rfl trivial (fun w H => RX.fieldAddr rfl fo53_1 rfl) ?_
  refine JI.go rfl trivial (fun w H => RX.load H rfl (i := 0) (v := .slice _ _ _) rfl rfl one51) ?_
  refine JI.go rfl trivial (fun w H => RX.movev (v := Value.pointer _) rfl) ?_
  refine JI.go rfl trivial (fun w H => RX.nilCheck rfl) ?_
  refine JI.go rfl trivial (fun w H => RX.fieldAddr rfl fo53_1 rfl) ?_
  refine JI.go rfl trivial (fun w H => RX.loadS H hY.cons.cons rfl (j := 1) rfl (v := .slice _ _ _) rfl one51) ?_
  refine JI.nil fun w H => ?_
  refine JL.does trivial (EX.call rfl cl49 rfl ((natSet_b (H.pull 1 rfl) ho hyw.cons.cons))) ?_
  rintro _ w ⟨q, c, s1, G, rfl, ho1, hG, H⟩
  replace H := hG.drop H
  refine JL.go trivial (RX.nilCheck rfl) ?_
  refine JL.go trivial (RX.fieldAddr rfl fo53_1 rfl) ?_
  refine JL.does trivial (EX.store (v := Value.slice _ _ _) H rfl rfl (i := 1) rfl rfl (by simp) sz51 rfl rfl) ?_
  rintro _ w H
  refine JL.nil ?_
  refine J.region ?_
  refine JL.go trivial (RX.movev (v := Value.pointer _) rfl) ?_
  refine JL.go trivial (RX.movev (v := Value.pointer _) rfl) ?_
  refine JL.go trivial (RX.nilCheck rfl) ?_
  refine JL.go trivial (RX.fieldAddr rfl fo53_0 rfl) ?_
  refine JL.go trivial (RX.loadS H hY.cons.cons rfl (j := 0) rfl (v := .bool _) rfl one4) ?_
  refine JL.go trivial (RX.nilCheck rfl) ?_
  refine JL.go trivial (RX.fieldAddr rfl fo53_0 rfl) ?_
  refine JL.does trivial (EX.store (v := Value.bool _) H rfl rfl (i := 1) rfl rfl (by simp) sz4 rfl rfl) ?_
  rintro _ w H
  refine JL.nil ?_
  refine J.seq ?_
  refine J.region ?_
  refine JL.go trivial (RX.movev (v := Value.pointer _) rfl) ?_
  refine JL.go trivial (RX.assignv (v := Value.pointer _) rfl) ?_
  refine JL.nil ?_
  refine J.ret1 (v := Value.pointer _) Tryz.func37 rfl rfl ?_
  refine ⟨_, rfl, q, c, s1, rfl, ho1, ?_⟩
  unfold bigV
  exact H.pull 1 rfl
set_option maxHeartbeats 1600000 in
theorem iNeg_b {w0 w : World} {L : List Seg} {sz : Seg} {bz : Nat} {vz : Int} {q0 : Option Addr} {c0 : Nat} (H : Hp w0 w ([(bz, cel (bigV (vz) q0 c0) 53)] :: sz :: L)) (ho : OwnW q0 (wd vz.natAbs) c0 sz) {by_ : Nat} {vy : Int} {qy : Option Addr} {cy : Nat} (hY : SlAt L (some ⟨by_, 0, none⟩) (bigV vy qy cy)) (hyw : SlAt L qy (u64sV (wd vy.natAbs))) (hp3 : ∀ a, qy = some a → a.spot = none) (hc3 : (wd vy.natAbs).length ≤ cy) {CY : Array Value} {TY : TypeId} (hmy : (by_, Obj.cells CY TY (0, 0)) ∈ L.flatten) (hne : ¬ bz = by_) : Ret Tryz.prog 23 [.pointer (some ⟨bz, 0, none⟩), .pointer (some ⟨by_, 0, none⟩)] w fun u w' => ∃ q c s1, u = .pointer (some ⟨bz, 0, none⟩) ∧ OwnW q (wd (-vy).natAbs) c s1 ∧ Hp w0 w' ([(bz, cel (bigV (-vy) q c) 53)] :: s1 :: L) := by
  refine Calls.of_J (n := 25) Tryz.func23 rfl rfl rfl ?_
  refine J.seq ?_
  refine J.region ?_
  refine JL.go trivial (RX.assign) ?_
  refine JL.nil ?_
  refine J.seq ?_
  refine J.region ?_
  refine JL.go trivial (RX.movev (v := Value.pointer _) rfl) ?_
  refine JL.go trivial (RX.movev (v := Value.pointer _) rfl) ?_
  refine JL.does trivial (EX.call rfl cl37 rfl ((iSet_b H ho hY hyw hp3 hc3 hmy hne))) ?_
  rintro _ w ⟨q, c, s1, rfl, ho1, H⟩
  unfold bigV at H
  refine JL.nil ?_
  refine J.seq ?_
  refine J.region ?_
  refine JL.go trivial (RX.movev (v := Value.pointer _) rfl) ?_
  refine JL.go trivial (RX.movev (v := Value.pointer _) rfl) ?_
  refine JL.go trivial (RX.nilCheck rfl) ?_
  refine JL.go trivial (RX.fieldAddr rfl fo53_1 rfl) ?_
  refine JL.go trivial (RX.load H rfl (i := 0) (v := .slice _ _ _) rfl rfl one51) ?_
  refine JL.go trivial (RX.len_slice rfl (by rw [sl51]; rfl) rfl) ?_
  refine JL.go trivial (RX.gt rfl rfl) ?_
  refine JL.go trivial (RX.movev (v := Value.bool _) rfl) ?_
  refine JL.splitS 15 rfl (fun hg => ?_) (fun hg => ?_)
  · skip
    first | have hgp := of_decide_eq_true hg | skip
    refine JL.go ⟨_, rfl, hg⟩ (RX.movev (v := Value.pointer _) rfl) ?_
    refine JL.go ⟨_, rfl, hg⟩ (RX.nilCheck rfl) ?_
    refine JL.go ⟨_, rfl, hg⟩ (RX.fieldAddr rfl fo53_0 rfl) ?_
    refine JL.go ⟨_, rfl, hg⟩ (RX.load H rfl (i := 0) (v := .bool _) rfl rfl one4) ?_
    refine JL.go ⟨_, rfl, hg⟩ (RX.not rfl) ?_
    refine JL.go trivial (RX.pick_t rfl hg) ?_
    refine JL.go trivial (RX.nilCheck rfl) ?_
    refine JL.go trivial (RX.fieldAddr rfl fo53_0 rfl) ?_
    refine JL.does trivial (EX.store (v := Value.bool _) H rfl rfl (i := 0) rfl rfl (by simp) sz4 rfl rfl) ?_
    rintro _ w H
    refine JL.nil ?_
    refine J.seq ?_
    refine J.region ?_
    refine JL.go trivial (RX.movev (v := Value.pointer _) rfl) ?_
    refine JL.go trivial (RX.assignv (v := Value.pointer _) rfl) ?_
    refine JL.nil ?_
    refine J.ret1 (v := Value.pointer _) Tryz.func23 rfl rfl ?_
    have hnz := wd_nz (show ¬ ((wd vy.natAbs).length : Int) = 0 by have := of_decide_eq_true hg; omega)
    have e : decide (-vy < 0) = !decide (vy < 0) := by rw [← decide_not]; exact decide_eq_decide.2 (by constructor <;> intro _ <;> omega)
    refine ⟨_, rfl, q, c, s1, rfl, by rw [Int.natAbs_neg]; exact ho1, ?_⟩
    unfold bigV
    rw [e, Int.natAbs_neg]
    exact H
  · skip
    first | have hgp := of_decide_eq_false hg | skip
    refine JL.no ⟨_, rfl, gno hg⟩ ?_
    refine JL.no ⟨_, rfl, gno hg⟩ ?_
    refine JL.no ⟨_, rfl, gno hg⟩ ?_
    refine JL.no ⟨_, rfl, gno hg⟩ ?_
    refine JL.no ⟨_, rfl, gno hg⟩ ?_
    refine JL.go trivial (RX.pick_f rfl hg) ?_
    refine JL.go trivial (RX.nilCheck rfl) ?_
    refine JL.go trivial (RX.fieldAddr rfl fo53_0 rfl) ?_
    refine JL.does trivial (EX.store (v := Value.bool _) H rfl rfl (i := 0) rfl rfl (by simp) sz4 rfl rfl) ?_
    rintro _ w H
    refine JL.nil ?_
    refine J.seq ?_
    refine J.region ?_
    refine JL.go trivial (RX.movev (v := Value.pointer _) rfl) ?_
    refine JL.go trivial (RX.assignv (v := Value.pointer _) rfl) ?_
    refine JL.nil ?_
    refine J.ret1 (v := Value.pointer _) Tryz.func23 rfl rfl ?_
    have hnz := wd_zero (show ((wd vy.natAbs).length : Int) = 0 by have := of_decide_eq_false hg; omega)
    have e : decide (-vy < 0) = false := decide_eq_false (by omega)
    refine ⟨_, rfl, q, c, s1, rfl, by rw [Int.natAbs_neg]; exact ho1, ?_⟩
    unfold bigV
    rw [e, Int.natAbs_neg]
    exact H
set_option maxHeartbeats 1600000 in
theorem isInt64_b {w0 w : World} {F : List Seg} (H : Hp w0 w F) {bx : Nat} {v : Int} {qx : Option Addr} {cx : Nat} (hX : SlAt F (some ⟨bx, 0, none⟩) (bigV v qx cx)) (hxw : SlAt F qx (u64sV (wd v.natAbs))) : Ret Tryz.prog 41 [.pointer (some ⟨bx, 0, none⟩)] w fun u w' => u = .bool (decide (i64in v)) ∧ Hp w0 w' F := by
  refine Calls.of_J (n := 30) Tryz.func41 rfl rfl rfl ?_
  refine J.seq ?_
  refine J.region ?_
  refine JL.go trivial (RX.assign) ?_
  refine JL.nil ?_
  refine J.seq ?_
  refine J.seq ?_
  refine J.region ?_
  refine JL.go trivial (RX.movev (v := Value.pointer _) rfl) ?_
  refine JL.go trivial (RX.nilCheck rfl) ?_
  refine JL.go trivial (RX.fieldAddr rfl fo53_1 rfl) ?_
  refine JL.go trivial (RX.loadS H hX rfl (j := 1) rfl (v := .slice _ _ _) rfl one51) ?_
  refine JL.go trivial (RX.len_slice rfl (by rw [sl51]; rfl) rfl) ?_
  refine JL.go trivial (RX.le rfl rfl) ?_
  refine JL.nil ?_
  refine J.cond_d rfl (fun h9 => ?_) (fun h9 => ?_)
  · skip
    have ha : v.natAbs < 18446744073709551616 := wd_big (by omega)
    have hs1 := sgW_lt ha
    refine J.seq ?_
    refine J.region ?_
    refine JL.go trivial (RX.movev (v := Value.pointer _) rfl) ?_
    refine JL.go trivial (RX.nilCheck rfl) ?_
    refine JL.go trivial (RX.fieldAddr rfl fo53_1 rfl) ?_
    refine JL.go trivial (RX.loadS H hX rfl (j := 1) rfl (v := .slice _ _ _) rfl one51) ?_
    refine JL.does trivial (EX.call rfl cl58 rfl ((low64_b H hxw ha))) ?_
    rintro _ w ⟨rfl, H⟩
    refine JL.go trivial (RX.conv rfl (by rw [ki37]; rfl) ki2 (wrapW ha)) ?_
    refine JL.go trivial (RX.assignv (v := Value.int _ _) rfl) ?_
    refine JL.nil ?_
    refine J.seq ?_
    refine J.region ?_
    refine JL.go trivial (RX.movev (v := Value.int _ _) rfl) ?_
    refine JL.go trivial (RX.ge rfl rfl) ?_
    refine JL.go trivial (RX.movev (v := Value.bool _) rfl) ?_
    refine JL.splitS 18 rfl (fun hg => ?_) (fun hg => ?_)
    · skip
      first | have hgp := of_decide_eq_true hg | skip
      have hg1 := of_decide_eq_true hg
      refine JL.no ⟨_, rfl, gno hg⟩ ?_
      refine JL.no ⟨_, rfl, gno hg⟩ ?_
      refine JL.no ⟨_, rfl, gno hg⟩ ?_
      refine JL.no ⟨_, rfl, gno hg⟩ ?_
      refine JL.no ⟨_, rfl, gno hg⟩ ?_
      refine JL.no ⟨_, rfl, nofun⟩ ?_
      refine JL.no ⟨_, rfl, nofun⟩ ?_
      refine JL.no ⟨_, rfl, nofun⟩ ?_
      refine JL.no ⟨_, rfl, nofun⟩ ?_
      refine JL.no ⟨_, rfl, gno hg⟩ ?_
      refine JL.go trivial (RX.pick_t rfl hg) ?_
      refine JL.go trivial (RX.assignv (v := Value.bool _) rfl) ?_
      refine JL.nil ?_
      refine J.ret1 (v := Value.bool _) Tryz.func41 rfl rfl ?_
      refine ⟨_, rfl, ?_, H⟩
      congr 1
      unfold sgW at *
      first
        | (have k : i64in v := by (unfold i64in; split at hg1 <;> omega)
           exact (decide_eq_true k).symm)
        | (have k : ¬ i64in v := by (have := of_decide_eq_false hn; unfold i64in; split at hg1 <;> omega)
           exact (decide_eq_false k).symm)
        | (have k : ¬ i64in v := by (unfold i64in; omega)
           exact (decide_eq_false k).symm)
        | (have hn1 := of_decide_eq_true hn
           refine decide_eq_decide.2 ?_
           unfold i64in
           repeat split
           all_goals omega)
    · skip
      first | have hgp := of_decide_eq_false hg | skip
      have hg1 := of_decide_eq_false hg
      refine JL.go ⟨_, rfl, hg⟩ (RX.movev (v := Value.pointer _) rfl) ?_
      refine JL.go ⟨_, rfl, hg⟩ (RX.nilCheck rfl) ?_
      refine JL.go ⟨_, rfl, hg⟩ (RX.fieldAddr rfl fo53_0 rfl) ?_
      refine JL.go ⟨_, rfl, hg⟩ (RX.loadS H hX rfl (j := 0) rfl (v := .bool _) rfl one4) ?_
      refine JL.go ⟨_, rfl, hg⟩ (RX.movev (v := Value.bool _) rfl) ?_
      refine JL.splitS 23 rfl (fun hn => ?_) (fun hn => ?_)
      · skip
        first | have hnp := of_decide_eq_true hn | skip
        refine JL.go ⟨_, rfl, hn⟩ (RX.movev (v := Value.int _ _) rfl) ?_
        refine JL.go ⟨_, rfl, hn⟩ (RX.movev (v := Value.int _ _) rfl) ?_
        refine JL.go ⟨_, rfl, hn⟩ (RX.neg rfl (wrapN hs1.1 hs1.2)) ?_
        refine JL.go ⟨_, rfl, hn⟩ (RX.eq rfl rfl) ?_
        refine JL.go ⟨_, rfl, hg⟩ (RX.pick_t rfl hn) ?_
        refine JL.go trivial (RX.pick_f rfl hg) ?_
        refine JL.go trivial (RX.assignv (v := Value.bool _) rfl) ?_
        refine JL.nil ?_
        refine J.ret1 (v := Value.bool _) Tryz.func41 rfl rfl ?_
        refine ⟨_, rfl, ?_, H⟩
        congr 1
        unfold sgW at *
        first
          | (have k : i64in v := by (unfold i64in; split at hg1 <;> omega)
             exact (decide_eq_true k).symm)
          | (have k : ¬ i64in v := by (have := of_decide_eq_false hn; unfold i64in; split at hg1 <;> omega)
             exact (decide_eq_false k).symm)
          | (have k : ¬ i64in v := by (unfold i64in; omega)
             exact (decide_eq_false k).symm)
          | (have hn1 := of_decide_eq_true hn
             refine decide_eq_decide.2 ?_
             unfold i64in
             repeat split
             all_goals omega)
      · skip
        first | have hnp := of_decide_eq_false hn | skip
        refine JL.no ⟨_, rfl, gno hn⟩ ?_
        refine JL.no ⟨_, rfl, gno hn⟩ ?_
        refine JL.no ⟨_, rfl, gno hn⟩ ?_
        refine JL.no ⟨_, rfl, gno hn⟩ ?_
        refine JL.go ⟨_, rfl, hg⟩ (RX.pick_f rfl hn) ?_
        refine JL.go trivial (RX.pick_f rfl hg) ?_
        refine JL.go trivial (RX.assignv (v := Value.bool _) rfl) ?_
        refine JL.nil ?_
        refine J.ret1 (v := Value.bool _) Tryz.func41 rfl rfl ?_
        refine ⟨_, rfl, ?_, H⟩
        congr 1
        unfold sgW at *
        first
          | (have k : i64in v := by (unfold i64in; split at hg1 <;> omega)
             exact (decide_eq_true k).symm)
          | (have k : ¬ i64in v := by (have := of_decide_eq_false hn; unfold i64in; split at hg1 <;> omega)
             exact (decide_eq_false k).symm)
          | (have k : ¬ i64in v := by (unfold i64in; omega)
             exact (decide_eq_false k).symm)
          | (have hn1 := of_decide_eq_true hn
             refine decide_eq_decide.2 ?_
             unfold i64in
             repeat split
             all_goals omega)
  · skip
    have ha : ¬ v.natAbs < 18446744073709551616 := fun h => by have := wd_le h; omega
    refine J.skip ?_
    refine J.seq ?_
    refine J.region ?_
    refine JL.go trivial (RX.assign) ?_
    refine JL.nil ?_
    refine J.ret1 (v := Value.bool _) Tryz.func41 rfl rfl ?_
    refine ⟨_, rfl, ?_, H⟩
    congr 1
    unfold sgW at *
    first
      | (have k : i64in v := by (unfold i64in; split at hg1 <;> omega)
         exact (decide_eq_true k).symm)
      | (have k : ¬ i64in v := by (have := of_decide_eq_false hn; unfold i64in; split at hg1 <;> omega)
         exact (decide_eq_false k).symm)
      | (have k : ¬ i64in v := by (unfold i64in; omega)
         exact (decide_eq_false k).symm)
      | (have hn1 := of_decide_eq_true hn
         refine decide_eq_decide.2 ?_
         unfold i64in
         repeat split
         all_goals omega)
set_option maxHeartbeats 1600000 in
theorem int64_b {w0 w : World} {F : List Seg} (H : Hp w0 w F) {bx : Nat} {v : Int} {qx : Option Addr} {cx : Nat} (hX : SlAt F (some ⟨bx, 0, none⟩) (bigV v qx cx)) (hxw : SlAt F qx (u64sV (wd v.natAbs))) (hv : i64in v) : Ret Tryz.prog 42 [.pointer (some ⟨bx, 0, none⟩)] w fun u w' => u = .int .i64 v ∧ Hp w0 w' F := by
  refine Calls.of_J (n := 17) Tryz.func42 rfl rfl rfl ?_
  refine J.seq ?_
  have hv1 := hv.1
  have hv2 := hv.2
  have ha : v.natAbs < 18446744073709551616 := by omega
  have hs1 := sgW_lt ha
  refine J.region ?_
  refine JL.go trivial (RX.assign) ?_
  refine JL.nil ?_
  refine J.seq ?_
  refine J.region ?_
  refine JL.go trivial (RX.movev (v := Value.pointer _) rfl) ?_
  refine JL.go trivial (RX.nilCheck rfl) ?_
  refine JL.go trivial (RX.fieldAddr rfl fo53_1 rfl) ?_
  refine JL.go trivial (RX.loadS H hX rfl (j := 1) rfl (v := .slice _ _ _) rfl one51) ?_
  refine JL.does trivial (EX.call rfl cl58 rfl ((low64_b H hxw ha))) ?_
  rintro _ w ⟨rfl, H⟩
  refine JL.go trivial (RX.conv rfl (by rw [ki37]; rfl) ki2 (wrapW ha)) ?_
  refine JL.go trivial (RX.assignv (v := Value.int _ _) rfl) ?_
  refine JL.nil ?_
  refine J.seq ?_
  refine J.seq ?_
  refine J.region ?_
  refine JL.go trivial (RX.movev (v := Value.pointer _) rfl) ?_
  refine JL.go trivial (RX.nilCheck rfl) ?_
  refine JL.go trivial (RX.fieldAddr rfl fo53_0 rfl) ?_
  refine JL.go trivial (RX.loadS H hX rfl (j := 0) rfl (v := .bool _) rfl one4) ?_
  refine JL.nil ?_
  refine J.cond rfl (fun hb => ?_) (fun hb => ?_)
  · skip
    replace hb := of_decide_eq_true hb
    refine J.region ?_
    refine JL.go trivial (RX.movev (v := Value.int _ _) rfl) ?_
    refine JL.go trivial (RX.neg rfl (wrapN hs1.1 hs1.2)) ?_
    refine JL.go trivial (RX.assignv (v := Value.int _ _) rfl) ?_
    refine JL.nil ?_
    refine J.seq ?_
    refine J.region ?_
    refine JL.go trivial (RX.movev (v := Value.int _ _) rfl) ?_
    refine JL.go trivial (RX.assignv (v := Value.int _ _) rfl) ?_
    refine JL.nil ?_
    refine J.ret1 (v := Value.int _ _) Tryz.func42 rfl rfl ?_
    refine ⟨_, rfl, ?_, H⟩
    congr 1
    unfold sgW
    split <;> split <;> omega
  · skip
    replace hb := of_decide_eq_false hb
    refine J.skip ?_
    refine J.seq ?_
    refine J.region ?_
    refine JL.go trivial (RX.movev (v := Value.int _ _) rfl) ?_
    refine JL.go trivial (RX.assignv (v := Value.int _ _) rfl) ?_
    refine JL.nil ?_
    refine J.ret1 (v := Value.int _ _) Tryz.func42 rfl rfl ?_
    refine ⟨_, rfl, ?_, H⟩
    congr 1
    unfold sgW
    split <;> omega
end Go.Proofs.YtfpphoapknecfaaGreatDoorBesafter

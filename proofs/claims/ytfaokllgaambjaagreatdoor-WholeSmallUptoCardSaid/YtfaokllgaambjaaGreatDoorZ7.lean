/- Part 7 of the proof that WholeSmall holds: what the functions on its way do, step by step. -/
import Derived.Test.YtfaokllgaambjaaGreatDoorZ1
import Derived.Test.YtfaokllgaambjaaGreatDoorZ2
import Derived.Test.YtfaokllgaambjaaGreatDoorZ3
import Derived.Test.YtfaokllgaambjaaGreatDoorZ4
import Derived.Test.YtfaokllgaambjaaGreatDoorZ5
import Derived.Test.YtfaokllgaambjaaGreatDoorZ6
set_option linter.unusedVariables false
set_option linter.unusedSimpArgs false
namespace Go.Proofs.YtfaokllgaambjaaGreatDoor
open Go Go.Eng
set_option maxRecDepth 100000
set_option maxHeartbeats 1600000
theorem cl40 : callable Tryz.prog 40 = true := by kernel_rfl
theorem cl42 : callable Tryz.prog 42 = true := by kernel_rfl
theorem cl43 : callable Tryz.prog 43 = true := by kernel_rfl
theorem cl73 : callable Tryz.prog 73 = true := by kernel_rfl
theorem fo59_0 : fieldOff Tryz.prog 59 0 = some 0 := by kernel_rfl
theorem fo59_1 : fieldOff Tryz.prog 59 1 = some 1 := by kernel_rfl
theorem one4 : oneOf Tryz.prog 4 = true := by kernel_rfl
theorem one57 : oneOf Tryz.prog 57 = true := by kernel_rfl
theorem sz4 : szOf Tryz.prog 4 = some 1 := by kernel_rfl
theorem sz57 : szOf Tryz.prog 57 = some 1 := by kernel_rfl
theorem ud4 : Tryz.prog.underlying 4 = some .bool := by kernel_rfl
theorem take2_eq {l : List Value} {a b : Value} (h : l.take 2 = [a, b]) : ∃ t, l = a :: b :: t := by
 match l, h with
 | x :: y :: t, h => simp at h; obtain ⟨rfl, rfl⟩ := h; exact ⟨t, rfl⟩
theorem wd_ge {a : Nat} (h : 0 < a) : 1 ≤ (wd a).length := by rw [wd_len]; split <;> (try split) <;> omega
theorem wd_big {a : Nat} (h : (wd a).length ≤ 1) : a < 18446744073709551616 := by rw [wd_len] at h; split at h <;> (try split at h) <;> omega
theorem natAdd_b {w0 w : World} {s0 : Seg} {L : List Seg} (H : Hp w0 w (s0 :: L)) {q0 : Option Addr} {a b r c0 c3 : Nat} (ho : OwnW q0 (wd a) c0 s0) {py : Option Addr} (hs : SlAt (s0 :: L) py (u64sV (wd b))) (hp3 : ∀ x, py = some x → x.spot = none) (hc3 : (wd b).length ≤ c3) (ha : a < 1267650600228229401496703205376) (hb : b < 18446744073709551616) (hr : a + b = r) :
 Ret Tryz.prog 41 [.slice q0 (wd a).length c0, .slice q0 (wd a).length c0, .slice py (wd b).length c3] w fun v w' => ∃ q c s' G, v = .slice q (wd r).length c ∧ OwnW q (wd r) c s' ∧ Left s0 G ∧ Hp w0 w' (s' :: (G ++ L)) := by
 subst hr
 by_cases ha0 : a = 0
 · subst ha0
   rw [Nat.zero_add]
   by_cases hb0 : b = 0
   · subst hb0
     exact addZero_b H ho
   · exact addSwap_b H ho hs (wd_ge (by omega)) (wd_le2 _)
 by_cases hb0 : b = 0
 · subst hb0
   exact addSet_b H ho ho.slAt (wd_ge (by omega)) (wd_le2 _)
 have e2 : wd b = [b] := wd_pos (by omega) hb
 rw [e2] at hs hc3 ⊢
 by_cases ha1 : a < 18446744073709551616
 · have e1 : wd a = [a] := wd_pos (by omega) ha1
   rw [e1] at ho ⊢
   exact add11_b H ho ho.slAt hs ho.spot hp3 ho.le hc3 ha1 hb
 · have e1 := wd_two (show 18446744073709551616 ≤ a by omega)
   rw [e1] at ho ⊢
   obtain ⟨g, l0, rfl, rfl, h1, h2, h3⟩ := ownW_some ho (by simp)
   have e3 : a % 18446744073709551616 + a / 18446744073709551616 * 18446744073709551616 + b = a + b := by omega
   have := add21_b (c0 := c0) H h2 h3 h1 hs hp3 hc3 (Nat.mod_lt _ (by decide)) (show a / 18446744073709551616 + 1 < 18446744073709551616 by omega) hb
   rw [e3] at this
   exact this
theorem natSub_b {w0 w : World} {s0 : Seg} {L : List Seg} (H : Hp w0 w (s0 :: L)) {q0 : Option Addr} {ws : List Nat} {a b r c0 c2 c3 : Nat} (ho : OwnW q0 ws c0 s0) {px py : Option Addr} (hx : SlAt (s0 :: L) px (u64sV (wd a))) (hy : SlAt (s0 :: L) py (u64sV (wd b))) (hp2 : ∀ x, px = some x → x.spot = none) (hp3 : ∀ x, py = some x → x.spot = none) (hc2 : (wd a).length ≤ c2) (hc3 : (wd b).length ≤ c3) (hba : b ≤ a) (ha : a < 18446744073709551616) (hr : a - b = r) :
 Ret Tryz.prog 43 [.slice q0 ws.length c0, .slice px (wd a).length c2, .slice py (wd b).length c3] w fun v w' => ∃ q c s' G, v = .slice q (wd r).length c ∧ OwnW q (wd r) c s' ∧ Left s0 G ∧ Hp w0 w' (s' :: (G ++ L)) := by
 subst hr
 by_cases ha0 : a = 0
 · subst ha0
   obtain rfl : b = 0 := by omega
   exact subZero_b H ho
 · by_cases hb : b = 0
   · subst hb
     exact subSet_b H ho hx (wd_ge (by omega)) (wd_le2 _)
   · have e1 : wd a = [a] := wd_pos (by omega) ha
     have e2 : wd b = [b] := wd_pos (by omega) (by omega)
     rw [e1] at hx hc2 ⊢
     rw [e2] at hy hc3 ⊢
     exact sub11_b H ho hx hy hp2 hp3 hc2 hc3 hba ha
theorem natSubOwn_b {w0 w : World} {s0 : Seg} {L : List Seg} (H : Hp w0 w (s0 :: L)) {q0 : Option Addr} {a b r c0 c3 : Nat} (ho : OwnW q0 (wd a) c0 s0) {py : Option Addr} (hs : SlAt (s0 :: L) py (u64sV (wd b))) (hp3 : ∀ x, py = some x → x.spot = none) (hc3 : (wd b).length ≤ c3) (ha : a < 1267650600228229401496703205376) (hba : b ≤ a) (hb : b < 18446744073709551616) (hr : a - b = r) :
 Ret Tryz.prog 43 [.slice q0 (wd a).length c0, .slice q0 (wd a).length c0, .slice py (wd b).length c3] w fun v w' => ∃ q c s' G, v = .slice q (wd r).length c ∧ OwnW q (wd r) c s' ∧ Left s0 G ∧ Hp w0 w' (s' :: (G ++ L)) := by
 by_cases ha1 : a < 18446744073709551616
 · exact natSub_b H ho ho.slAt hs ho.spot hp3 ho.le hc3 hba ha1 hr
 · subst hr
   by_cases hb0 : b = 0
   · subst hb0
     exact subSet_b H ho ho.slAt (wd_ge (by omega)) (wd_le2 _)
   · have e2 : wd b = [b] := wd_pos (by omega) hb
     rw [e2] at hs hc3 ⊢
     have e1 := wd_two (show 18446744073709551616 ≤ a by omega)
     rw [e1] at ho ⊢
     obtain ⟨g, l0, rfl, rfl, h1, h2, h3⟩ := ownW_some ho (by simp)
     obtain ⟨t, rfl⟩ := take2_eq h3
     have e3 : a % 18446744073709551616 + a / 18446744073709551616 * 18446744073709551616 - b = a - b := by omega
     have := sub21_b (l0 := []) (c0 := c0) H (by simpa using h2) hs hp3 hc3 (Nat.mod_lt _ (by decide)) (show a / 18446744073709551616 < 18446744073709551616 by omega) (by omega) hb
     rw [e3] at this
     exact this
theorem natCmp_b {w0 w : World} {F : List Seg} (H : Hp w0 w F) {px py : Option Addr} {a b c2 c3 : Nat} (hs : SlAt F px (u64sV (wd a))) (hs2 : SlAt F py (u64sV (wd b))) (hb : b < 18446744073709551616) :
 Ret Tryz.prog 42 [.slice px (wd a).length c2, .slice py (wd b).length c3] w fun v w' => ∃ r : Int, v = .int .i64 r ∧ (0 ≤ r ↔ b ≤ a) ∧ Hp w0 w' F := by
 by_cases hl : (wd a).length ≠ (wd b).length ∨ (wd a).length = 0
 · refine Ret.mono (cmpLen_b H hl) ?_
   rintro v w' ⟨rfl, H⟩
   refine ⟨_, rfl, ?_, H⟩
   rw [wd_len, wd_len] at *
   repeat (split at * <;> try omega)
   all_goals (repeat split) <;> omega
 · have hl1 : (wd a).length = (wd b).length := by omega
   have hl2 := wd_le hb
   have ha : a < 18446744073709551616 := wd_big (by omega)
   have e1 : wd a = [a] := wd_pos (wd_nz (by omega)) ha
   have e2 : wd b = [b] := wd_pos (wd_nz (by omega)) hb
   rw [e1] at hs ⊢
   rw [e2] at hs2 ⊢
   refine Ret.mono (cmp1_b H hs hs2) ?_
   rintro v w' ⟨rfl, H⟩
   refine ⟨_, rfl, ?_, H⟩
   repeat split
   all_goals omega
theorem natSet_b {w0 w : World} {s0 : Seg} {L : List Seg} (H : Hp w0 w (s0 :: L)) {q0 : Option Addr} {ws : List Nat} {b c0 c2 : Nat} (ho : OwnW q0 ws c0 s0) {px : Option Addr} (hs : SlAt (s0 :: L) px (u64sV (wd b))) :
 Ret Tryz.prog 64 [.slice q0 ws.length c0, .slice px (wd b).length c2] w fun v w' => ∃ q c s' G, v = .slice q (wd b).length c ∧ OwnW q (wd b) c s' ∧ Left s0 G ∧ Hp w0 w' (s' :: (G ++ L)) := by
 by_cases hb : b = 0
 · subst hb
   refine Ret.mono (set0_b H ho) ?_
   rintro v w' ⟨rfl, H⟩
   exact ⟨q0, c0, s0, [], rfl, ho.none_, .inl rfl, H⟩
 · exact set_b H ho hs (wd_ge (by omega)) (wd_le2 _)
def sgW (n : Nat) : Int := if n < 9223372036854775808 then n else n - 18446744073709551616
theorem wrapW {n : Nat} (h : n < 18446744073709551616) : IntKind.i64.wrap (n : Int) = sgW n := by
 unfold sgW
 simp only [IntKind.wrap, IntKind.bits, IntKind.signed]; simp; split <;> omega
theorem wrapN {x : Int} (h : -9223372036854775808 ≤ x) (h2 : x < 9223372036854775808) : IntKind.i64.wrap (0 - x) = if x = -9223372036854775808 then x else -x := by
 simp only [IntKind.wrap, IntKind.bits, IntKind.signed]; simp; split <;> omega
theorem sgW_lt {n : Nat} (h : n < 18446744073709551616) : -9223372036854775808 ≤ sgW n ∧ sgW n < 9223372036854775808 := by unfold sgW; split <;> omega
def i64in (v : Int) : Prop := -9223372036854775808 ≤ v ∧ v < 9223372036854775808
instance {v : Int} : Decidable (i64in v) := inferInstanceAs (Decidable (_ ∧ _))
theorem iAdd_b {w0 w : World} {L : List Seg} {sz : Seg} {bz : Nat} {vz : Int} {q0 : Option Addr} {c0 : Nat} (H : Hp w0 w ([(bz, cel (bigV (vz) q0 c0) 59)] :: sz :: L)) (ho : OwnW q0 (wd vz.natAbs) c0 sz) {by_ : Nat} {vy : Int} {qy : Option Addr} {cy : Nat} (hY : SlAt L (some ⟨by_, 0, none⟩) (bigV vy qy cy)) (hyw : SlAt L qy (u64sV (wd vy.natAbs))) (hp3 : ∀ a, qy = some a → a.spot = none) (hc3 : (wd vy.natAbs).length ≤ cy) (hvz : vz.natAbs < 1267650600228229401496703205376) (hvy : vy.natAbs < 18446744073709551616) : Ret Tryz.prog 18 [.pointer (some ⟨bz, 0, none⟩), .pointer (some ⟨bz, 0, none⟩), .pointer (some ⟨by_, 0, none⟩)] w fun u w' => ∃ q c s1, u = .pointer (some ⟨bz, 0, none⟩) ∧ OwnW q (wd (vz + vy).natAbs) c s1 ∧ Hp w0 w' ([(bz, cel (bigV (vz + vy) q c) 59)] :: s1 :: L) := by
 refine Calls.of_J (n := 94) Tryz.func18 rfl rfl rfl (J.seq ?_)
 unfold bigV at H hY
 refine J.region (JL.g (RX.assign) (JL.nil (J.seq (J.region (JL.mp rfl (JL.g (RX.nilCheck rfl) (JL.g (RX.fieldAddr rfl fo59_0 rfl) (JL.g (RX.load H rfl (i := 0) (v := .bool _) rfl rfl one4) (JL.ab rfl (JL.nil (J.seq (J.seq (J.quietH H hmix (by kernel_rfl) (JQ.g (fun w H => RX.movev (v := .pointer _) rfl) (JQ.g (fun w H => RX.nilCheck rfl) (JQ.g (fun w H => RX.fieldAddr rfl fo59_0 rfl) (JQ.g (fun w H => RX.load H rfl (i := 0) (v := .bool _) rfl rfl one4) (JQ.g (fun w H => RX.movev (v := .pointer _) rfl) (JQ.g (fun w H => RX.nilCheck rfl) (JQ.g (fun w H => RX.fieldAddr rfl fo59_0 rfl) (JQ.g (fun w H => RX.loadS H hY.cons.cons rfl (j := 0) rfl (v := .bool _) rfl one4) (JQ.g (fun w H => RX.bool_eql rfl rfl ud4) (JQ.nil fun w H => (J.cond rfl (fun h20 => ?_) (fun h20 => ?_)))))))))))))))))))))))))
 ·
  have hsg : (vz < 0 ↔ vy < 0) := by simpa using h20
  have hr : vz.natAbs + vy.natAbs = (vz + vy).natAbs := by omega
  refine J.any hmix fun w hs => ?_
  replace H := H.same hs; clear hs
  refine JA.take 0 rfl (by kernel_rfl) (by kernel_rfl) (by kernel_rfl) rfl trivial (fun w => RX.movev (v := .pointer _) rfl) (JA.stage (listed := [true, false, false, false, false, false, false, false, false, false, false, false, false, false, false, false, false]) 13 [1, 2, 3, 4, 5, 6, 7, 8, 9, 10, 11, 12] H (by kernel_rfl) rfl rfl (JI.go rfl trivial (fun w H => RX.movev (v := .pointer _) rfl) (JI.go rfl trivial (fun w H => RX.nilCheck rfl) (JI.go rfl trivial (fun w H => RX.fieldAddr rfl fo59_1 rfl) (JI.go rfl trivial (fun w H => RX.load H rfl (i := 0) (v := .slice _ _ _) rfl rfl one57) (JI.go rfl trivial (fun w H => RX.movev (v := .pointer _) rfl) (JI.go rfl trivial (fun w H => RX.nilCheck rfl) (JI.go rfl trivial (fun w H => RX.fieldAddr rfl fo59_1 rfl) (JI.go rfl trivial (fun w H => RX.load H rfl (i := 0) (v := .slice _ _ _) rfl rfl one57) (JI.go rfl trivial (fun w H => RX.movev (v := .pointer _) rfl) (JI.go rfl trivial (fun w H => RX.nilCheck rfl) (JI.go rfl trivial (fun w H => RX.fieldAddr rfl fo59_1 rfl) (JI.go rfl trivial (fun w H => RX.loadS H hY.cons.cons rfl (j := 1) rfl (v := .slice _ _ _) rfl one57) (JI.nil fun w H => (JL.e (EX.call rfl cl41 rfl ((natAdd_b (H.pull 1 rfl) ho hyw.cons.cons hp3 hc3 hvz hvy hr))) ?_)))))))))))))))
  rintro _ w ⟨q, c, s1, G, rfl, ho1, hG, H⟩
  replace H := hG.drop H
  refine JL.g (RX.nilCheck rfl) (JL.g (RX.fieldAddr rfl fo59_1 rfl) (JL.e (EX.store (v := .slice _ _ _) H rfl rfl (i := 1) rfl rfl (by simp) sz57 rfl rfl) ?_))
  rintro _ w H
  refine JL.nil (J.seq (J.region (JL.mp rfl (JL.mp rfl (JL.g (RX.nilCheck rfl) (JL.g (RX.fieldAddr rfl fo59_1 rfl) (JL.g (RX.load H rfl (i := 1) (v := .slice _ _ _) rfl rfl one57) (JL.g (RX.len_slice rfl (by rw [sl57]; rfl) rfl) ?_))))))))
  refine JL.g (RX.gt rfl rfl) (JL.mb rfl (JL.splitS 88 rfl (fun hg => ?_) (fun hg => ?_)))
  ·
   first | have hgp := of_decide_eq_true hg | skip
   refine JL.go ⟨_, rfl, hg⟩ (RX.movev (v := .bool _) rfl) (JL.g (RX.pick_t rfl hg) (JL.g (RX.nilCheck rfl) (JL.g (RX.fieldAddr rfl fo59_0 rfl) (JL.e (EX.store (v := .bool _) H rfl rfl (i := 1) rfl rfl (by simp) sz4 rfl rfl) ?_))))
   rintro _ w H
   refine JL.nil (J.seq (J.region (JL.mp rfl (JL.ap rfl (JL.nil (J.ret1 (v := .pointer _) Tryz.func18 rfl rfl ?_))))))
   have hnz := wd_nz (show ¬ ((wd (vz + vy).natAbs).length : Int) = 0 by have := of_decide_eq_true hg; omega)
   have e : decide (vz + vy < 0) = decide (vz < 0) := decide_eq_decide.2 (by constructor <;> intro _ <;> omega)
   refine ⟨_, rfl, q, c, s1, rfl, ho1, ?_⟩
   unfold bigV
   rw [e]
   exact H.pull 1 rfl
  ·
   first | have hgp := of_decide_eq_false hg | skip
   refine JL.no ⟨_, rfl, gno hg⟩ (JL.g (RX.pick_f rfl hg) (JL.g (RX.nilCheck rfl) (JL.g (RX.fieldAddr rfl fo59_0 rfl) (JL.e (EX.store (v := .bool _) H rfl rfl (i := 1) rfl rfl (by simp) sz4 rfl rfl) ?_))))
   rintro _ w H
   refine JL.nil (J.seq (J.region (JL.mp rfl (JL.ap rfl (JL.nil (J.ret1 (v := .pointer _) Tryz.func18 rfl rfl ?_))))))
   have hnz := wd_zero (show ((wd (vz + vy).natAbs).length : Int) = 0 by have := of_decide_eq_false hg; omega)
   have e : decide (vz + vy < 0) = false := decide_eq_false (by omega)
   refine ⟨_, rfl, q, c, s1, rfl, ho1, ?_⟩
   unfold bigV
   rw [e]
   exact H.pull 1 rfl
 ·
  have hsg : ¬ (vz < 0 ↔ vy < 0) := by
    intro e
    rw [show decide (vz < 0) = decide (vy < 0) from decide_eq_decide.2 e] at h20
    simp at h20
  refine J.seq (J.any hmix fun w hs => ?_)
  replace H := H.same hs; clear hs
  refine JA.stage (listed := [false, false, false, false, false, false, false, false, false, false]) 8 [0, 1, 2, 3, 4, 5, 6, 7] H (by kernel_rfl) rfl rfl (JI.go rfl trivial (fun w H => RX.movev (v := .pointer _) rfl) (JI.go rfl trivial (fun w H => RX.nilCheck rfl) (JI.go rfl trivial (fun w H => RX.fieldAddr rfl fo59_1 rfl) (JI.go rfl trivial (fun w H => RX.load H rfl (i := 0) (v := .slice _ _ _) rfl rfl one57) (JI.go rfl trivial (fun w H => RX.movev (v := .pointer _) rfl) (JI.go rfl trivial (fun w H => RX.nilCheck rfl) (JI.go rfl trivial (fun w H => RX.fieldAddr rfl fo59_1 rfl) (JI.go rfl trivial (fun w H => RX.loadS H hY.cons.cons rfl (j := 1) rfl (v := .slice _ _ _) rfl one57) (JI.nil fun w H => (JL.e (EX.call rfl cl42 rfl ((natCmp_b H ho.slAt.cons hyw.cons.cons hvy))) ?_))))))))))
  rintro _ w ⟨r, rfl, hrr, H⟩
  refine JL.g (RX.ge rfl rfl) (JL.nil (J.cond_d rfl (fun hge => ?_) (fun hge => ?_)))
  ·
   have hba : vy.natAbs ≤ vz.natAbs := hrr.1 hge
   have hr : vz.natAbs - vy.natAbs = (vz + vy).natAbs := by omega
   refine J.any hmix fun w hs => ?_
   replace H := H.same hs; clear hs
   refine JA.take 0 rfl (by kernel_rfl) (by kernel_rfl) (by kernel_rfl) rfl trivial (fun w => RX.movev (v := .pointer _) rfl) (JA.stage (listed := [true, false, false, false, false, false, false, false, false, false, false, false, false, false, false, false, false]) 13 [1, 2, 3, 4, 5, 6, 7, 8, 9, 10, 11, 12] H (by kernel_rfl) rfl rfl (JI.go rfl trivial (fun w H => RX.movev (v := .pointer _) rfl) (JI.go rfl trivial (fun w H => RX.nilCheck rfl) (JI.go rfl trivial (fun w H => RX.fieldAddr rfl fo59_1 rfl) (JI.go rfl trivial (fun w H => RX.load H rfl (i := 0) (v := .slice _ _ _) rfl rfl one57) (JI.go rfl trivial (fun w H => RX.movev (v := .pointer _) rfl) (JI.go rfl trivial (fun w H => RX.nilCheck rfl) (JI.go rfl trivial (fun w H => RX.fieldAddr rfl fo59_1 rfl) (JI.go rfl trivial (fun w H => RX.load H rfl (i := 0) (v := .slice _ _ _) rfl rfl one57) (JI.go rfl trivial (fun w H => RX.movev (v := .pointer _) rfl) (JI.go rfl trivial (fun w H => RX.nilCheck rfl) (JI.go rfl trivial (fun w H => RX.fieldAddr rfl fo59_1 rfl) (JI.go rfl trivial (fun w H => RX.loadS H hY.cons.cons rfl (j := 1) rfl (v := .slice _ _ _) rfl one57) (JI.nil fun w H => (JL.e (EX.call rfl cl43 rfl ((natSubOwn_b (H.pull 1 rfl) ho hyw.cons.cons hp3 hc3 hvz hba hvy hr))) ?_)))))))))))))))
   rintro _ w ⟨q, c, s1, G, rfl, ho1, hG, H⟩
   replace H := hG.drop H
   refine JL.g (RX.nilCheck rfl) (JL.g (RX.fieldAddr rfl fo59_1 rfl) (JL.e (EX.store (v := .slice _ _ _) H rfl rfl (i := 1) rfl rfl (by simp) sz57 rfl rfl) ?_))
   rintro _ w H
   refine JL.nil (J.seq (J.region (JL.mp rfl (JL.mp rfl (JL.g (RX.nilCheck rfl) (JL.g (RX.fieldAddr rfl fo59_1 rfl) (JL.g (RX.load H rfl (i := 1) (v := .slice _ _ _) rfl rfl one57) (JL.g (RX.len_slice rfl (by rw [sl57]; rfl) rfl) ?_))))))))
   refine JL.g (RX.gt rfl rfl) (JL.mb rfl (JL.splitS 88 rfl (fun hg => ?_) (fun hg => ?_)))
   ·
    first | have hgp := of_decide_eq_true hg | skip
    refine JL.go ⟨_, rfl, hg⟩ (RX.movev (v := .bool _) rfl) (JL.g (RX.pick_t rfl hg) (JL.g (RX.nilCheck rfl) (JL.g (RX.fieldAddr rfl fo59_0 rfl) (JL.e (EX.store (v := .bool _) H rfl rfl (i := 1) rfl rfl (by simp) sz4 rfl rfl) ?_))))
    rintro _ w H
    refine JL.nil (J.seq (J.region (JL.mp rfl (JL.ap rfl (JL.nil (J.ret1 (v := .pointer _) Tryz.func18 rfl rfl ?_))))))
    have hnz := wd_nz (show ¬ ((wd (vz + vy).natAbs).length : Int) = 0 by have := of_decide_eq_true hg; omega)
    have e : decide (vz + vy < 0) = decide (vz < 0) := decide_eq_decide.2 (by constructor <;> intro _ <;> omega)
    refine ⟨_, rfl, q, c, s1, rfl, ho1, ?_⟩
    unfold bigV
    rw [e]
    exact H.pull 1 rfl
   ·
    first | have hgp := of_decide_eq_false hg | skip
    refine JL.no ⟨_, rfl, gno hg⟩ (JL.g (RX.pick_f rfl hg) (JL.g (RX.nilCheck rfl) (JL.g (RX.fieldAddr rfl fo59_0 rfl) (JL.e (EX.store (v := .bool _) H rfl rfl (i := 1) rfl rfl (by simp) sz4 rfl rfl) ?_))))
    rintro _ w H
    refine JL.nil (J.seq (J.region (JL.mp rfl (JL.ap rfl (JL.nil (J.ret1 (v := .pointer _) Tryz.func18 rfl rfl ?_))))))
    have hnz := wd_zero (show ((wd (vz + vy).natAbs).length : Int) = 0 by have := of_decide_eq_false hg; omega)
    have e : decide (vz + vy < 0) = false := decide_eq_false (by omega)
    refine ⟨_, rfl, q, c, s1, rfl, ho1, ?_⟩
    unfold bigV
    rw [e]
    exact H.pull 1 rfl
  ·
   have hba : vz.natAbs < vy.natAbs := by have := mt hrr.2 hge; omega
   have hr : vy.natAbs - vz.natAbs = (vz + vy).natAbs := by omega
   refine J.seq (J.region (JL.mb rfl (JL.g (RX.not rfl) (JL.ab rfl (JL.nil (J.any hmix fun w hs => ?_))))))
   replace H := H.same hs; clear hs
   refine JA.take 0 rfl (by kernel_rfl) (by kernel_rfl) (by kernel_rfl) rfl trivial (fun w => RX.movev (v := .pointer _) rfl) (JA.stage (listed := [true, false, false, false, false, false, false, false, false, false, false, false, false, false, false, false, false]) 13 [1, 2, 3, 4, 5, 6, 7, 8, 9, 10, 11, 12] H (by kernel_rfl) rfl rfl (JI.go rfl trivial (fun w H => RX.movev (v := .pointer _) rfl) (JI.go rfl trivial (fun w H => RX.nilCheck rfl) (JI.go rfl trivial (fun w H => RX.fieldAddr rfl fo59_1 rfl) (JI.go rfl trivial (fun w H => RX.load H rfl (i := 0) (v := .slice _ _ _) rfl rfl one57) (JI.go rfl trivial (fun w H => RX.movev (v := .pointer _) rfl) (JI.go rfl trivial (fun w H => RX.nilCheck rfl) (JI.go rfl trivial (fun w H => RX.fieldAddr rfl fo59_1 rfl) (JI.go rfl trivial (fun w H => RX.loadS H hY.cons.cons rfl (j := 1) rfl (v := .slice _ _ _) rfl one57) (JI.go rfl trivial (fun w H => RX.movev (v := .pointer _) rfl) (JI.go rfl trivial (fun w H => RX.nilCheck rfl) (JI.go rfl trivial (fun w H => RX.fieldAddr rfl fo59_1 rfl) (JI.go rfl trivial (fun w H => RX.load H rfl (i := 0) (v := .slice _ _ _) rfl rfl one57) (JI.nil fun w H => (JL.e (EX.call rfl cl43 rfl ((natSub_b (H.pull 1 rfl) ho hyw.cons.cons ho.slAt hp3 ho.spot hc3 ho.le (by omega) hvy hr))) ?_)))))))))))))))
   rintro _ w ⟨q, c, s1, G, rfl, ho1, hG, H⟩
   replace H := hG.drop H
   refine JL.g (RX.nilCheck rfl) (JL.g (RX.fieldAddr rfl fo59_1 rfl) (JL.e (EX.store (v := .slice _ _ _) H rfl rfl (i := 1) rfl rfl (by simp) sz57 rfl rfl) ?_))
   rintro _ w H
   refine JL.nil (J.seq (J.region (JL.mp rfl (JL.mp rfl (JL.g (RX.nilCheck rfl) (JL.g (RX.fieldAddr rfl fo59_1 rfl) (JL.g (RX.load H rfl (i := 1) (v := .slice _ _ _) rfl rfl one57) (JL.g (RX.len_slice rfl (by rw [sl57]; rfl) rfl) ?_))))))))
   refine JL.g (RX.gt rfl rfl) (JL.mb rfl (JL.splitS 88 rfl (fun hg => ?_) (fun hg => ?_)))
   ·
    first | have hgp := of_decide_eq_true hg | skip
    refine JL.go ⟨_, rfl, hg⟩ (RX.movev (v := .bool _) rfl) (JL.g (RX.pick_t rfl hg) (JL.g (RX.nilCheck rfl) (JL.g (RX.fieldAddr rfl fo59_0 rfl) (JL.e (EX.store (v := .bool _) H rfl rfl (i := 1) rfl rfl (by simp) sz4 rfl rfl) ?_))))
    rintro _ w H
    refine JL.nil (J.seq (J.region (JL.mp rfl (JL.ap rfl (JL.nil (J.ret1 (v := .pointer _) Tryz.func18 rfl rfl ?_))))))
    have hnz := wd_nz (show ¬ ((wd (vz + vy).natAbs).length : Int) = 0 by have := of_decide_eq_true hg; omega)
    have e : decide (vz + vy < 0) = !decide (vz < 0) := by rw [← decide_not]; exact decide_eq_decide.2 (by constructor <;> intro _ <;> omega)
    refine ⟨_, rfl, q, c, s1, rfl, ho1, ?_⟩
    unfold bigV
    rw [e]
    exact H.pull 1 rfl
   ·
    first | have hgp := of_decide_eq_false hg | skip
    refine JL.no ⟨_, rfl, gno hg⟩ (JL.g (RX.pick_f rfl hg) (JL.g (RX.nilCheck rfl) (JL.g (RX.fieldAddr rfl fo59_0 rfl) (JL.e (EX.store (v := .bool _) H rfl rfl (i := 1) rfl rfl (by simp) sz4 rfl rfl) ?_))))
    rintro _ w H
    refine JL.nil (J.seq (J.region (JL.mp rfl (JL.ap rfl (JL.nil (J.ret1 (v := .pointer _) Tryz.func18 rfl rfl ?_))))))
    have hnz := wd_zero (show ((wd (vz + vy).natAbs).length : Int) = 0 by have := of_decide_eq_false hg; omega)
    have e : decide (vz + vy < 0) = false := decide_eq_false (by omega)
    refine ⟨_, rfl, q, c, s1, rfl, ho1, ?_⟩
    unfold bigV
    rw [e]
    exact H.pull 1 rfl
theorem iSet_b {w0 w : World} {L : List Seg} {sz : Seg} {bz : Nat} {vz : Int} {q0 : Option Addr} {c0 : Nat} (H : Hp w0 w ([(bz, cel (bigV (vz) q0 c0) 59)] :: sz :: L)) (ho : OwnW q0 (wd vz.natAbs) c0 sz) {by_ : Nat} {vy : Int} {qy : Option Addr} {cy : Nat} (hY : SlAt L (some ⟨by_, 0, none⟩) (bigV vy qy cy)) (hyw : SlAt L qy (u64sV (wd vy.natAbs))) (hp3 : ∀ a, qy = some a → a.spot = none) (hc3 : (wd vy.natAbs).length ≤ cy) {CY : Array Value} {TY : TypeId} (hmy : (by_, Obj.cells CY TY (0, 0)) ∈ L.flatten) (hne : ¬ bz = by_) : Ret Tryz.prog 40 [.pointer (some ⟨bz, 0, none⟩), .pointer (some ⟨by_, 0, none⟩)] w fun u w' => ∃ q c s1, u = .pointer (some ⟨bz, 0, none⟩) ∧ OwnW q (wd (vy).natAbs) c s1 ∧ Hp w0 w' ([(bz, cel (bigV (vy) q c) 59)] :: s1 :: L) := by
 refine Calls.of_J (n := 28) Tryz.func40 rfl rfl rfl (J.seq ?_)
 unfold bigV at H hY
 refine J.region (JL.g (RX.assign) (JL.nil (J.seq (J.seq (J.region (JL.mp rfl (JL.mp rfl (JL.g (RX.ptr_neq H rfl rfl ud54 (k := 1) sz59 (fun e => absurd e hne) (List.mem_append_left _ (List.mem_singleton.2 rfl)) (mem2 hmy)) (JL.nil (J.cond_t rfl (decide_eq_true hne) (J.seq (J.any hmix fun w hs => ?_))))))))))))
 replace H := H.same hs; clear hs
 refine JA.take 0 rfl (by kernel_rfl) (by kernel_rfl) (by kernel_rfl) rfl trivial (fun w => RX.movev (v := .pointer _) rfl) (JA.stage (listed := [true, false, false, false, false, false, false, false, false, false, false, false, false]) 9 [1, 2, 3, 4, 5, 6, 7, 8] H (by kernel_rfl) rfl rfl (JI.go rfl trivial (fun w H => RX.movev (v := .pointer _) rfl) (JI.go rfl trivial (fun w H => RX.nilCheck rfl) (JI.go rfl trivial (fun w H => RX.fieldAddr rfl fo59_1 rfl) (JI.go rfl trivial (fun w H => RX.load H rfl (i := 0) (v := .slice _ _ _) rfl rfl one57) (JI.go rfl trivial (fun w H => RX.movev (v := .pointer _) rfl) (JI.go rfl trivial (fun w H => RX.nilCheck rfl) (JI.go rfl trivial (fun w H => RX.fieldAddr rfl fo59_1 rfl) (JI.go rfl trivial (fun w H => RX.loadS H hY.cons.cons rfl (j := 1) rfl (v := .slice _ _ _) rfl one57) (JI.nil fun w H => (JL.e (EX.call rfl cl64 rfl ((natSet_b (H.pull 1 rfl) ho hyw.cons.cons))) ?_)))))))))))
 rintro _ w ⟨q, c, s1, G, rfl, ho1, hG, H⟩
 replace H := hG.drop H
 refine JL.g (RX.nilCheck rfl) (JL.g (RX.fieldAddr rfl fo59_1 rfl) (JL.e (EX.store (v := .slice _ _ _) H rfl rfl (i := 1) rfl rfl (by simp) sz57 rfl rfl) ?_))
 rintro _ w H
 refine JL.nil (J.region (JL.mp rfl (JL.mp rfl (JL.g (RX.nilCheck rfl) (JL.g (RX.fieldAddr rfl fo59_0 rfl) (JL.g (RX.loadS H hY.cons.cons rfl (j := 0) rfl (v := .bool _) rfl one4) (JL.g (RX.nilCheck rfl) (JL.g (RX.fieldAddr rfl fo59_0 rfl) (JL.e (EX.store (v := .bool _) H rfl rfl (i := 1) rfl rfl (by simp) sz4 rfl rfl) ?_)))))))))
 rintro _ w H
 refine JL.nil (J.seq (J.region (JL.mp rfl (JL.ap rfl (JL.nil (J.ret1 (v := .pointer _) Tryz.func40 rfl rfl (⟨_, rfl, q, c, s1, rfl, ho1, ?_⟩)))))))
 unfold bigV
 exact H.pull 1 rfl
theorem iNeg_b {w0 w : World} {L : List Seg} {sz : Seg} {bz : Nat} {vz : Int} {q0 : Option Addr} {c0 : Nat} (H : Hp w0 w ([(bz, cel (bigV (vz) q0 c0) 59)] :: sz :: L)) (ho : OwnW q0 (wd vz.natAbs) c0 sz) {by_ : Nat} {vy : Int} {qy : Option Addr} {cy : Nat} (hY : SlAt L (some ⟨by_, 0, none⟩) (bigV vy qy cy)) (hyw : SlAt L qy (u64sV (wd vy.natAbs))) (hp3 : ∀ a, qy = some a → a.spot = none) (hc3 : (wd vy.natAbs).length ≤ cy) {CY : Array Value} {TY : TypeId} (hmy : (by_, Obj.cells CY TY (0, 0)) ∈ L.flatten) (hne : ¬ bz = by_) : Ret Tryz.prog 17 [.pointer (some ⟨bz, 0, none⟩), .pointer (some ⟨by_, 0, none⟩)] w fun u w' => ∃ q c s1, u = .pointer (some ⟨bz, 0, none⟩) ∧ OwnW q (wd (-vy).natAbs) c s1 ∧ Hp w0 w' ([(bz, cel (bigV (-vy) q c) 59)] :: s1 :: L) := by
 refine Calls.of_J (n := 25) Tryz.func17 rfl rfl rfl (J.seq (J.region (JL.g (RX.assign) (JL.nil (J.seq (J.region (JL.mp rfl (JL.mp rfl (JL.e (EX.call rfl cl40 rfl ((iSet_b H ho hY hyw hp3 hc3 hmy hne))) ?_)))))))))
 rintro _ w ⟨q, c, s1, rfl, ho1, H⟩
 unfold bigV at H
 refine JL.nil (J.seq (J.region (JL.mp rfl (JL.mp rfl (JL.g (RX.nilCheck rfl) (JL.g (RX.fieldAddr rfl fo59_1 rfl) (JL.g (RX.load H rfl (i := 0) (v := .slice _ _ _) rfl rfl one57) (JL.g (RX.len_slice rfl (by rw [sl57]; rfl) rfl) ?_))))))))
 refine JL.g (RX.gt rfl rfl) (JL.mb rfl (JL.splitS 15 rfl (fun hg => ?_) (fun hg => ?_)))
 ·
  first | have hgp := of_decide_eq_true hg | skip
  refine JL.go ⟨_, rfl, hg⟩ (RX.movev (v := .pointer _) rfl) (JL.go ⟨_, rfl, hg⟩ (RX.nilCheck rfl) (JL.go ⟨_, rfl, hg⟩ (RX.fieldAddr rfl fo59_0 rfl) (JL.go ⟨_, rfl, hg⟩ (RX.load H rfl (i := 0) (v := .bool _) rfl rfl one4) (JL.go ⟨_, rfl, hg⟩ (RX.not rfl) (JL.g (RX.pick_t rfl hg) (JL.g (RX.nilCheck rfl) (JL.g (RX.fieldAddr rfl fo59_0 rfl) (JL.e (EX.store (v := .bool _) H rfl rfl (i := 0) rfl rfl (by simp) sz4 rfl rfl) ?_))))))))
  rintro _ w H
  refine JL.nil (J.seq (J.region (JL.mp rfl (JL.ap rfl (JL.nil (J.ret1 (v := .pointer _) Tryz.func17 rfl rfl ?_))))))
  have hnz := wd_nz (show ¬ ((wd vy.natAbs).length : Int) = 0 by have := of_decide_eq_true hg; omega)
  have e : decide (-vy < 0) = !decide (vy < 0) := by rw [← decide_not]; exact decide_eq_decide.2 (by constructor <;> intro _ <;> omega)
  refine ⟨_, rfl, q, c, s1, rfl, by rw [Int.natAbs_neg]; exact ho1, ?_⟩
  unfold bigV
  rw [e, Int.natAbs_neg]
  exact H
 ·
  first | have hgp := of_decide_eq_false hg | skip
  refine JL.no ⟨_, rfl, gno hg⟩ (JL.no ⟨_, rfl, gno hg⟩ (JL.no ⟨_, rfl, gno hg⟩ (JL.no ⟨_, rfl, gno hg⟩ (JL.no ⟨_, rfl, gno hg⟩ (JL.g (RX.pick_f rfl hg) (JL.g (RX.nilCheck rfl) (JL.g (RX.fieldAddr rfl fo59_0 rfl) (JL.e (EX.store (v := .bool _) H rfl rfl (i := 0) rfl rfl (by simp) sz4 rfl rfl) ?_))))))))
  rintro _ w H
  refine JL.nil (J.seq (J.region (JL.mp rfl (JL.ap rfl (JL.nil (J.ret1 (v := .pointer _) Tryz.func17 rfl rfl ?_))))))
  have hnz := wd_zero (show ((wd vy.natAbs).length : Int) = 0 by have := of_decide_eq_false hg; omega)
  have e : decide (-vy < 0) = false := decide_eq_false (by omega)
  refine ⟨_, rfl, q, c, s1, rfl, by rw [Int.natAbs_neg]; exact ho1, ?_⟩
  unfold bigV
  rw [e, Int.natAbs_neg]
  exact H
theorem isInt64_b {w0 w : World} {F : List Seg} (H : Hp w0 w F) {bx : Nat} {v : Int} {qx : Option Addr} {cx : Nat} (hX : SlAt F (some ⟨bx, 0, none⟩) (bigV v qx cx)) (hxw : SlAt F qx (u64sV (wd v.natAbs))) : Ret Tryz.prog 44 [.pointer (some ⟨bx, 0, none⟩)] w fun u w' => u = .bool (decide (i64in v)) ∧ Hp w0 w' F := by
 refine Calls.of_J (n := 30) Tryz.func44 rfl rfl rfl (J.seq (J.region (JL.g (RX.assign) (JL.nil (J.seq (J.seq (J.region (JL.mp rfl (JL.g (RX.nilCheck rfl) (JL.g (RX.fieldAddr rfl fo59_1 rfl) (JL.g (RX.loadS H hX rfl (j := 1) rfl (v := .slice _ _ _) rfl one57) (JL.g (RX.len_slice rfl (by rw [sl57]; rfl) rfl) ?_))))))))))))
 refine JL.g (RX.le rfl rfl) (JL.nil (J.cond_d rfl (fun h9 => ?_) (fun h9 => ?_)))
 ·
  have ha : v.natAbs < 18446744073709551616 := wd_big (by omega)
  have hs1 := sgW_lt ha
  refine J.seq (J.region (JL.mp rfl (JL.g (RX.nilCheck rfl) (JL.g (RX.fieldAddr rfl fo59_1 rfl) (JL.g (RX.loadS H hX rfl (j := 1) rfl (v := .slice _ _ _) rfl one57) (JL.e (EX.call rfl cl73 rfl ((low64_b H hxw ha))) ?_))))))
  rintro _ w ⟨rfl, H⟩
  refine JL.g (RX.conv rfl (by rw [ki86]; rfl) ki2 (wrapW ha)) ?_
  refine JL.ai rfl (JL.nil (J.seq (J.region (JL.mi rfl (JL.g (RX.ge rfl rfl) (JL.mb rfl (JL.splitS 18 rfl (fun hg => ?_) (fun hg => ?_))))))))
  ·
   first | have hgp := of_decide_eq_true hg | skip
   have hg1 := of_decide_eq_true hg
   refine JL.no ⟨_, rfl, gno hg⟩ (JL.no ⟨_, rfl, gno hg⟩ (JL.no ⟨_, rfl, gno hg⟩ (JL.no ⟨_, rfl, gno hg⟩ (JL.no ⟨_, rfl, gno hg⟩ (JL.no ⟨_, rfl, nofun⟩ (JL.no ⟨_, rfl, nofun⟩ (JL.no ⟨_, rfl, nofun⟩ (JL.no ⟨_, rfl, nofun⟩ (JL.no ⟨_, rfl, gno hg⟩ (JL.g (RX.pick_t rfl hg) (JL.ab rfl (JL.nil (J.ret1 (v := .bool _) Tryz.func44 rfl rfl (⟨_, rfl, ?_, H⟩))))))))))))))
   congr 1
   unfold sgW at *
   first
     | (have k : i64in v := by (unfold i64in; split at hg1 <;> omega)
        exact (decide_eq_true k).symm)
     | (have k : ¬ i64in v := by (have := of_decide_eq_false hn; unfold i64in; split at hg1 <;> omega)
        exact (decide_eq_false k).symm)
     | (have k : ¬ i64in v := by (unfold i64in; omega)
        exact (decide_eq_false k).symm)
     | (have hn1 := of_decide_eq_true hn
        refine decide_eq_decide.2 ?_
        unfold i64in
        repeat split
        all_goals omega)
  ·
   first | have hgp := of_decide_eq_false hg | skip
   have hg1 := of_decide_eq_false hg
   refine JL.go ⟨_, rfl, hg⟩ (RX.movev (v := .pointer _) rfl) (JL.go ⟨_, rfl, hg⟩ (RX.nilCheck rfl) (JL.go ⟨_, rfl, hg⟩ (RX.fieldAddr rfl fo59_0 rfl) (JL.go ⟨_, rfl, hg⟩ (RX.loadS H hX rfl (j := 0) rfl (v := .bool _) rfl one4) (JL.go ⟨_, rfl, hg⟩ (RX.movev (v := .bool _) rfl) (JL.splitS 23 rfl (fun hn => ?_) (fun hn => ?_))))))
   ·
    first | have hnp := of_decide_eq_true hn | skip
    refine JL.go ⟨_, rfl, hn⟩ (RX.movev (v := .int _ _) rfl) (JL.go ⟨_, rfl, hn⟩ (RX.movev (v := .int _ _) rfl) (JL.go ⟨_, rfl, hn⟩ (RX.neg rfl (wrapN hs1.1 hs1.2)) (JL.go ⟨_, rfl, hn⟩ (RX.eq rfl rfl) (JL.go ⟨_, rfl, hg⟩ (RX.pick_t rfl hn) (JL.g (RX.pick_f rfl hg) (JL.ab rfl (JL.nil (J.ret1 (v := .bool _) Tryz.func44 rfl rfl (⟨_, rfl, ?_, H⟩)))))))))
    congr 1
    unfold sgW at *
    first
      | (have k : i64in v := by (unfold i64in; split at hg1 <;> omega)
         exact (decide_eq_true k).symm)
      | (have k : ¬ i64in v := by (have := of_decide_eq_false hn; unfold i64in; split at hg1 <;> omega)
         exact (decide_eq_false k).symm)
      | (have k : ¬ i64in v := by (unfold i64in; omega)
         exact (decide_eq_false k).symm)
      | (have hn1 := of_decide_eq_true hn
         refine decide_eq_decide.2 ?_
         unfold i64in
         repeat split
         all_goals omega)
   ·
    first | have hnp := of_decide_eq_false hn | skip
    refine JL.no ⟨_, rfl, gno hn⟩ (JL.no ⟨_, rfl, gno hn⟩ (JL.no ⟨_, rfl, gno hn⟩ (JL.no ⟨_, rfl, gno hn⟩ (JL.go ⟨_, rfl, hg⟩ (RX.pick_f rfl hn) (JL.g (RX.pick_f rfl hg) (JL.ab rfl (JL.nil (J.ret1 (v := .bool _) Tryz.func44 rfl rfl (⟨_, rfl, ?_, H⟩)))))))))
    congr 1
    unfold sgW at *
    first
      | (have k : i64in v := by (unfold i64in; split at hg1 <;> omega)
         exact (decide_eq_true k).symm)
      | (have k : ¬ i64in v := by (have := of_decide_eq_false hn; unfold i64in; split at hg1 <;> omega)
         exact (decide_eq_false k).symm)
      | (have k : ¬ i64in v := by (unfold i64in; omega)
         exact (decide_eq_false k).symm)
      | (have hn1 := of_decide_eq_true hn
         refine decide_eq_decide.2 ?_
         unfold i64in
         repeat split
         all_goals omega)
 ·
  have ha : ¬ v.natAbs < 18446744073709551616 := fun h => by have := wd_le h; omega
  refine J.skip (J.seq (J.region (JL.g (RX.assign) (JL.nil (J.ret1 (v := .bool _) Tryz.func44 rfl rfl (⟨_, rfl, ?_, H⟩))))))
  congr 1
  unfold sgW at *
  first
    | (have k : i64in v := by (unfold i64in; split at hg1 <;> omega)
       exact (decide_eq_true k).symm)
    | (have k : ¬ i64in v := by (have := of_decide_eq_false hn; unfold i64in; split at hg1 <;> omega)
       exact (decide_eq_false k).symm)
    | (have k : ¬ i64in v := by (unfold i64in; omega)
       exact (decide_eq_false k).symm)
    | (have hn1 := of_decide_eq_true hn
       refine decide_eq_decide.2 ?_
       unfold i64in
       repeat split
       all_goals omega)
theorem int64_b {w0 w : World} {F : List Seg} (H : Hp w0 w F) {bx : Nat} {v : Int} {qx : Option Addr} {cx : Nat} (hX : SlAt F (some ⟨bx, 0, none⟩) (bigV v qx cx)) (hxw : SlAt F qx (u64sV (wd v.natAbs))) (hv : i64in v) : Ret Tryz.prog 45 [.pointer (some ⟨bx, 0, none⟩)] w fun u w' => u = .int .i64 v ∧ Hp w0 w' F := by
 refine Calls.of_J (n := 17) Tryz.func45 rfl rfl rfl (J.seq ?_)
 have hv1 := hv.1
 have hv2 := hv.2
 have ha : v.natAbs < 18446744073709551616 := by omega
 have hs1 := sgW_lt ha
 refine J.region (JL.g (RX.assign) (JL.nil (J.seq (J.region (JL.mp rfl (JL.g (RX.nilCheck rfl) (JL.g (RX.fieldAddr rfl fo59_1 rfl) (JL.g (RX.loadS H hX rfl (j := 1) rfl (v := .slice _ _ _) rfl one57) (JL.e (EX.call rfl cl73 rfl ((low64_b H hxw ha))) ?_)))))))))
 rintro _ w ⟨rfl, H⟩
 refine JL.g (RX.conv rfl (by rw [ki86]; rfl) ki2 (wrapW ha)) ?_
 refine JL.ai rfl (JL.nil (J.seq (J.seq (J.region (JL.mp rfl (JL.g (RX.nilCheck rfl) (JL.g (RX.fieldAddr rfl fo59_0 rfl) (JL.g (RX.loadS H hX rfl (j := 0) rfl (v := .bool _) rfl one4) (JL.nil (J.cond rfl (fun hb => ?_) (fun hb => ?_)))))))))))
 ·
  replace hb := of_decide_eq_true hb
  refine J.region (JL.mi rfl (JL.g (RX.neg rfl (wrapN hs1.1 hs1.2)) (JL.ai rfl (JL.nil (J.seq (J.region (JL.mi rfl (JL.ai rfl (JL.nil (J.ret1 (v := .int _ _) Tryz.func45 rfl rfl (⟨_, rfl, ?_, H⟩)))))))))))
  congr 1
  unfold sgW
  split <;> split <;> omega
 ·
  replace hb := of_decide_eq_false hb
  refine J.skip (J.seq (J.region (JL.mi rfl (JL.ai rfl (JL.nil (J.ret1 (v := .int _ _) Tryz.func45 rfl rfl (⟨_, rfl, ?_, H⟩)))))))
  congr 1
  unfold sgW
  split <;> omega
end Go.Proofs.YtfaokllgaambjaaGreatDoor
namespace Go.Proofs.YtfaokllgaambjaaGreatDoor
open Go Go.Eng
set_option maxRecDepth 100000
set_option maxHeartbeats 1600000
theorem take_succ_get {α : Type} {l : List α} {i : Nat} {x : α} (h : l[i]? = some x) : l.take (i + 1) = l.take i ++ [x] := by
 rw [List.take_add_one, h]; rfl
def i64sV (l : List Int) : List Value := l.map (Value.int .i64)
theorem i64sV_len (l : List Int) : (i64sV l).length = l.length := by simp [i64sV]
theorem i64sV_get {l : List Int} {i : Nat} {k : Int} (h : l[i]? = some k) : (i64sV l)[i]? = some (.int .i64 k) := by simp [i64sV, h]
end Go.Proofs.YtfaokllgaambjaaGreatDoor
namespace Go.Proofs.YtfaokllgaambjaaGreatDoor
open Go Go.Eng
set_option maxRecDepth 100000
set_option maxHeartbeats 1600000
theorem cl44 : callable Tryz.prog 44 = true := by kernel_rfl
theorem cl45 : callable Tryz.prog 45 = true := by kernel_rfl
theorem one31 : oneOf Tryz.prog 31 = true := by kernel_rfl
theorem one54 : oneOf Tryz.prog 54 = true := by kernel_rfl
theorem sl22 : sliceOf Tryz.prog 22 = some (2, 1) := by kernel_rfl
theorem sl52 : sliceOf Tryz.prog 52 = some (54, 1) := by kernel_rfl
theorem sz2 : szOf Tryz.prog 2 = some 1 := by kernel_rfl
theorem sz54 : szOf Tryz.prog 54 = some 1 := by kernel_rfl
theorem zr59 : (Tryz.prog.info? 59).bind (·.zero) = some (.agg #[.bool false, .slice none 0 0]) := by kernel_rfl
structure Zn where
  b : Nat
  v : Int
  q : Option Addr
  c : Nat
  sl : Seg
def Zn.seg (z : Zn) : Seg := (z.b, cel (bigV z.v z.q z.c) 59) :: z.sl
def Zn.ok (z : Zn) : Prop := OwnW z.q (wd z.v.natAbs) z.c z.sl
def Zn.p (z : Zn) : Value := .pointer (some ⟨z.b, 0, none⟩)
def Zn.zero (b : Nat) : Zn := ⟨b, 0, none, 0, []⟩
section
variable {w0 w : World} {L : List Seg}
theorem Zn.open_ {z : Zn} (H : Hp w0 w (z.seg :: L)) : Hp w0 w ([(z.b, cel (bigV z.v z.q z.c) 59)] :: z.sl :: L) :=
  Hp.split (s := [(z.b, cel (bigV z.v z.q z.c) 59)]) (t := z.sl) H
theorem Zn.close {b : Nat} {v : Int} {q : Option Addr} {c : Nat} {sl : Seg} (H : Hp w0 w ([(b, cel (bigV v q c) 59)] :: sl :: L)) : Hp w0 w ((Zn.mk b v q c sl).seg :: L) := H.join
theorem Zn.zero_seg (b : Nat) : (Zn.zero b).seg = [(b, cel [.bool false, .slice none 0 0] 59)] := by simp [Zn.seg, Zn.zero, bigV, wd]
theorem Zn.zero_ok (b : Nat) : (Zn.zero b).ok := ownW_nil
theorem Zn.at_ {z : Zn} (h : z.seg ∈ L) (hz : z.ok) : SlAt L (some ⟨z.b, 0, none⟩) (bigV z.v z.q z.c) ∧ SlAt L z.q (u64sV (wd z.v.natAbs)) ∧ (z.b, Obj.cells (bigV z.v z.q z.c).toArray 59 (0, 0)) ∈ L.flatten := by
 have hm : (z.b, Obj.cells (bigV z.v z.q z.c).toArray 59 (0, 0)) ∈ L.flatten := List.mem_flatten.2 ⟨_, h, List.mem_cons_self⟩
 refine ⟨.inr ⟨z.b, 0, _, _, _, rfl, hm, fun j _ => by simp⟩, ?_, hm⟩
 exact SlAt.perm (L := [z.sl]) (OwnSl.slAt hz) fun e he => List.mem_flatten.2 ⟨_, h, List.mem_cons_of_mem _ (by simpa using he)⟩
theorem Zn.ne {z y : Zn} (H : Hp w0 w (z.seg :: L)) (h : y.seg ∈ L) : ¬ z.b = y.b := by
 intro e
 have hn := H.nd
 rw [List.flatten_cons, List.map_append] at hn
 exact (List.nodup_append.1 hn).2.2 z.b (by simp [Zn.seg]) y.b (List.mem_map.2 ⟨_, List.mem_flatten.2 ⟨_, h, List.mem_cons_self⟩, rfl⟩) e
theorem Hp.cut {A B C : List Seg} (H : Hp w0 w (A ++ (B ++ C))) : Hp w0 w (A ++ C) := by
 have : Hp w0 w (B.flatten :: (A ++ C)) := perm_of_flatten H (by
   simp only [List.flatten_append, List.flatten_cons]
   exact List.perm_append_comm_assoc _ _ _)
 exact this.drop
theorem Hp.swap {A B C F : List Seg} (H : Hp w0 w (A ++ (B ++ (C ++ F)))) : Hp w0 w (A ++ (C ++ (B ++ F))) :=
  perm_of_flatten H (by
    simp only [List.flatten_append]
    exact List.Perm.append_left _ (List.perm_append_comm_assoc _ _ _))
theorem Hp.zout {X F : List Seg} {Zs : List Zn} {k : Nat} {z : Zn} (H : Hp w0 w (X ++ (Zs.map Zn.seg ++ F))) (hk : Zs[k]? = some z) : Hp w0 w (z.seg :: (X ++ ((Zs.map Zn.seg).set k [] ++ F))) := by
 have hkl := getE_lt hk
 have h := H.out (i := X.length + k) (s := z.seg) (by rw [List.getElem?_append_right (by omega), Nat.add_sub_cancel_left, List.getElem?_append_left (by simpa using hkl), List.getElem?_map, hk]; rfl)
 rwa [List.set_append_right _ _ (by omega), Nat.add_sub_cancel_left, List.set_append_left _ _ (by simpa using hkl)] at h
theorem Hp.zback {X F : List Seg} {Zs : List Zn} {k : Nat} {z z' : Zn} (H : Hp w0 w (z'.seg :: (X ++ ((Zs.map Zn.seg).set k [] ++ F)))) (hk : Zs[k]? = some z) : Hp w0 w (X ++ ((Zs.set k z').map Zn.seg ++ F)) := by
 have hkl := getE_lt hk
 have h := Hp.back (L := X ++ (Zs.map Zn.seg ++ F)) (i := X.length + k) (s := z.seg) (s' := z'.seg) (by rwa [List.set_append_right _ _ (by omega), Nat.add_sub_cancel_left, List.set_append_left _ _ (by simpa using hkl)])
   (by rw [List.getElem?_append_right (by omega), Nat.add_sub_cancel_left, List.getElem?_append_left (by simpa using hkl), List.getElem?_map, hk]; rfl)
 rwa [List.set_append_right _ _ (by omega), Nat.add_sub_cancel_left, List.set_append_left _ _ (by simpa using hkl), ← List.map_set] at h
theorem mapP_set {Zs : List Zn} {k : Nat} {z z' : Zn} (hk : Zs[k]? = some z) (hb : z'.b = z.b) : (Zs.set k z').map Zn.p = Zs.map Zn.p := by
 rw [List.map_set, show z'.p = z.p by unfold Zn.p; rw [hb]]
 exact set_self (by rw [List.getElem?_map, hk]; rfl)
end
def RowZ (Zs : List Zn) (n : Nat) (f : Nat → Int) : Prop := Zs.length = n ∧ ∀ i, i < n → ∃ z, Zs[i]? = some z ∧ z.ok ∧ z.v = f i
theorem RowZ.ext {Zs : List Zn} {n : Nat} {f g : Nat → Int} (h : RowZ Zs n f) (he : ∀ j, j < n → f j = g j) : RowZ Zs n g :=
  ⟨h.1, fun i hi => by obtain ⟨z, h1, h2, h3⟩ := h.2 i hi; exact ⟨z, h1, h2, by rw [h3, he i hi]⟩⟩
theorem RowZ.set {Zs : List Zn} {n k : Nat} {f : Nat → Int} {z' : Zn} (h : RowZ Zs n f) (hz : z'.ok) : RowZ (Zs.set k z') n (fun j => if j = k then z'.v else f j) := by
 refine ⟨by rw [List.length_set, h.1], fun i hi => ?_⟩
 rw [List.getElem?_set]
 by_cases e : k = i
 · subst e; rw [if_pos rfl, if_pos (by rw [h.1]; exact hi)]; exact ⟨z', rfl, hz, by simp⟩
 · obtain ⟨z, h1, h2, h3⟩ := h.2 i hi
   rw [if_neg e]; exact ⟨z, h1, h2, by simp only; rw [if_neg (Ne.symm e)]; exact h3⟩
theorem RowZ.vals {Zs : List Zn} {n : Nat} {f : Nat → Int} (h : RowZ Zs n f) : Zs.map (·.v) = (List.range n).map f := by
 refine List.ext_getElem? fun j => ?_
 rw [List.getElem?_map, List.getElem?_map]
 by_cases hj : j < n
 · obtain ⟨z, h1, _, h3⟩ := h.2 j hj
   rw [h1, List.getElem?_range hj]; simp [h3]
 · rw [List.getElem?_eq_none (by rw [h.1]; omega), List.getElem?_eq_none (by simp; omega)]; rfl
theorem RowZ.oks {Zs : List Zn} {n : Nat} {f : Nat → Int} (h : RowZ Zs n f) : ∀ z ∈ Zs, z.ok := by
 intro z hz
 obtain ⟨i, hi⟩ := List.mem_iff_getElem?.1 hz
 obtain ⟨z', h1, h2, _⟩ := h.2 i (by have := getE_lt hi; rw [h.1] at this; exact this)
 rw [hi] at h1; cases h1; exact h2
theorem RowZ.p_at {Zs : List Zn} {i : Nat} {z : Zn} (h : Zs[i]? = some z) : (Zs.map Zn.p)[i]? = some z.p := by rw [List.getElem?_map, h]; rfl
theorem Errs.sub {F L : List Seg} {E : Nat → Value} {Q : Nat → Addr} (h : Errs F E Q) (hs : ∀ e, e ∈ F.flatten → e ∈ L.flatten) : Errs L E Q := by
 refine ⟨fun i h0 h1 => ?_, fun i h0 h1 => ?_, h.inj⟩
 · obtain ⟨⟨C, T, fz, hm, hc⟩, h2, h3⟩ := h.at_ i h0 h1
   exact ⟨⟨C, T, fz, hs _ hm, hc⟩, h2, h3⟩
 · obtain ⟨h2, C, T, hm⟩ := h.er i h0 h1
   exact ⟨h2, C, T, hs _ hm⟩
theorem mem_app {X F : List Seg} {e : Nat × Obj} (h : e ∈ F.flatten) : e ∈ (X ++ F).flatten := by
 rw [List.flatten_append]; exact List.mem_append_right _ h
theorem rep_snoc {l : List Value} {m n : Nat} {v x : Value} (h : l.length = m) (hn : m < n) : (l ++ List.replicate (n - m) x).set m v = (l ++ [v]) ++ List.replicate (n - (m + 1)) x := by
 subst h
 rw [List.set_append_right _ _ (Nat.le_refl _), Nat.sub_self, show n - l.length = (n - (l.length + 1)) + 1 by omega, List.replicate_succ, List.set_cons_zero, List.append_assoc]; rfl
theorem fnL_rep {α : Type} (x : α) (n : Nat) : fnL (fun _ => x) n = List.replicate n x := by
 induction n with
 | zero => rfl
 | succ n ih =>
   have e : fnL (fun _ => x) (n + 1) = fnL (fun _ => x) n ++ [x] := by simp [fnL, List.range_succ]
   rw [e, ih, List.replicate_succ']
theorem mkZ : Tryz.prog.underlying 52 = some (.slice 54) ∧ ∃ i, Tryz.prog.info? 54 = some i ∧ i.zero = some (.pointer none) ∧ i.size = 1 ∧ i.bytes = 8 := ⟨by kernel_rfl, info_one (by kernel_rfl) (by kernel_rfl)⟩
theorem mkI : Tryz.prog.underlying 22 = some (.slice 2) ∧ ∃ i, Tryz.prog.info? 2 = some i ∧ i.zero = some (.int .i64 0) ∧ i.size = 1 ∧ i.bytes = 8 := ⟨by kernel_rfl, info_one (by kernel_rfl) (by kernel_rfl)⟩
section
variable {w0 w : World} {L : List Seg}
theorem zAdd_b {z y : Zn} (H : Hp w0 w (z.seg :: L)) (hz : z.ok) (hy : y.seg ∈ L) (hyo : y.ok) (hb1 : z.v.natAbs < 1267650600228229401496703205376) (hb2 : y.v.natAbs < 18446744073709551616) : Ret Tryz.prog 18 [z.p, z.p, y.p] w fun u w' => ∃ z' : Zn, u = z.p ∧ z'.b = z.b ∧ z'.v = z.v + y.v ∧ z'.ok ∧ Hp w0 w' (z'.seg :: L) := by
 obtain ⟨h1, h2, _⟩ := Zn.at_ hy hyo
 refine Ret.mono (iAdd_b (Zn.open_ H) hz h1 h2 hyo.spot hyo.le hb1 hb2) ?_
 rintro u w' ⟨q, c, s1, rfl, ho, H⟩
 exact ⟨⟨z.b, z.v + y.v, q, c, s1⟩, rfl, rfl, rfl, ho, Zn.close H⟩
theorem zNeg_b {z y : Zn} (H : Hp w0 w (z.seg :: L)) (hz : z.ok) (hy : y.seg ∈ L) (hyo : y.ok) : Ret Tryz.prog 17 [z.p, y.p] w fun u w' => ∃ z' : Zn, u = z.p ∧ z'.b = z.b ∧ z'.v = -y.v ∧ z'.ok ∧ Hp w0 w' (z'.seg :: L) := by
 obtain ⟨h1, h2, h3⟩ := Zn.at_ hy hyo
 refine Ret.mono (iNeg_b (Zn.open_ H) hz h1 h2 hyo.spot hyo.le h3 (Zn.ne H hy)) ?_
 rintro u w' ⟨q, c, s1, rfl, ho, H⟩
 exact ⟨⟨z.b, -y.v, q, c, s1⟩, rfl, rfl, rfl, ho, Zn.close H⟩
theorem zNew_b {v : Int} (H : Hp w0 w L) (hv : v.natAbs ≤ 9223372036854775808) : Ret Tryz.prog 16 [.int .i64 v] w fun u w' => ∃ z : Zn, u = z.p ∧ z.v = v ∧ z.ok ∧ Hp w0 w' (z.seg :: L) := by
 refine Ret.mono (NewInt_b H hv) ?_
 rintro u w' ⟨b, q, c, sl, rfl, ho, H⟩
 exact ⟨⟨b, v, q, c, sl⟩, rfl, rfl, ho, Zn.close H⟩
theorem zAddAt_b {X F : List Seg} {Zs : List Zn} {k : Nat} {z y : Zn} (H : Hp w0 w (X ++ (Zs.map Zn.seg ++ F))) (hk : Zs[k]? = some z) (hz : z.ok) (hy : y.seg ∈ X) (hyo : y.ok) (hb1 : z.v.natAbs < 1267650600228229401496703205376) (hb2 : y.v.natAbs < 18446744073709551616) :
 Ret Tryz.prog 18 [z.p, z.p, y.p] w fun u w' => ∃ z' : Zn, u = z.p ∧ z'.b = z.b ∧ z'.v = z.v + y.v ∧ z'.ok ∧ Hp w0 w' (X ++ ((Zs.set k z').map Zn.seg ++ F)) := by
 refine Ret.mono (zAdd_b (Hp.zout H hk) hz (List.mem_append_left _ hy) hyo hb1 hb2) ?_
 rintro u w' ⟨z', rfl, h1, h2, h3, H⟩
 exact ⟨z', rfl, h1, h2, h3, Hp.zback H hk⟩
theorem hp_snoc {row : Seg} {z : Zn} {Zs : List Zn} {F : List Seg} (H : Hp w0 w (row :: z.seg :: (Zs.map Zn.seg ++ F))) : Hp w0 w (row :: ((Zs ++ [z]).map Zn.seg ++ F)) :=
  perm_of_flatten H (by
    simp only [List.flatten_cons, List.flatten_append, List.map_append, List.map_cons, List.map_nil, List.flatten_nil, List.append_nil, List.append_assoc]
    exact List.Perm.append_left _ (List.perm_append_comm_assoc _ _ _))
end
theorem none_b {w0 w : World} {F : List Seg} (H : Hp w0 w F) {n : Nat} (hn : n ≤ 1048576) : Ret Tryz.prog 15 [.int .i64 ((n : Nat) : Int)] w fun v w' => ∃ bo Zs, v = .slice (some ⟨bo, 0, none⟩) n n ∧ RowZ Zs n (fun _ => 0) ∧ Hp w0 w' ([(bo, cel ((Zs).map Zn.p) 54)] :: (Zs.map Zn.seg ++ F)) := by
 refine Calls.of_J (n := 18) Tryz.func15 rfl rfl rfl (J.seq (J.region (JL.g (RX.assign) (JL.nil (J.seq (J.region (JL.mi rfl (JL.e (EX.makeS (e := 54) (m := n) H mkZ.1 mkZ.2 rfl rfl rfl (by omega) (by omega) (by omega)) ?_))))))))
 rintro _ w ⟨bo, rfl, H⟩
 rw [fnL_rep] at H
 refine JL.al rfl (JL.nil (J.seq (J.seq (J.region (JL.ms rfl (JL.g (RX.len_slice rfl (by rw [sl52]; rfl) rfl) ?_))))))
 refine JL.g (RX.move) (JL.nil (J.block (J.loop (ι := Nat × List Zn) (S := fun z => [(9, .int .i64 ((z.1 : Nat) : Int))]) (Φ := fun z w => z.1 ≤ n ∧ RowZ z.2 z.1 (fun _ => 0) ∧ Hp w0 w ([(bo, cel (z.2.map Zn.p ++ List.replicate (n - z.1) (.pointer none)) 54)] :: (z.2.map Zn.seg ++ F))) (μ := fun z => n - z.1) (C := [(3, _), (8, _)]) (0, []) ⟨rfl, rfl, trivial⟩ ⟨rfl, trivial⟩ ?_ ?_)))
 · exact ⟨by simp, ⟨rfl, fun i hi => by simp at hi⟩, H⟩
 clear H
 rintro ⟨i, Zs⟩ ρ w ⟨hi, hz, H⟩ IH
 simp only at hi hz H
 dsimp only
 refine J.seq (J.region (JL.g (RX.lt rfl rfl) (JL.nil (J.seq (J.cond_d rfl (fun hlt => ?_) (fun hlt => ?_))))))
 ·
  refine J.skip (J.seq (J.block (J.seq (J.region (JL.mi rfl (JL.ai rfl (JL.nil (J.region (JL.ms rfl (JL.mi rfl (JL.e (EX.alloc H zr59 rfl) ?_)))))))))))
  rintro _ w ⟨bz, rfl, H⟩
  refine JL.g (RX.indexAddr rfl rfl sl52 (by omega) (by omega) (o' := i) (by omega)) (JL.e (EX.store (v := .pointer _) H rfl rfl (i := 1) rfl rfl (by simp; have := hz.1; omega) sz54 rfl rfl) ?_)
  rintro _ w H
  refine JL.nil (J.inBlock (J.region (JL.g (RX.add rfl rfl (wi (n := i + 1) (by omega) (by omega))) (JL.mi rfl (JL.nil ?_)))))
  have hr := rep_snoc (l := Zs.map Zn.p) (m := i) (n := n) (v := .pointer (some ⟨bz, 0, none⟩)) (x := .pointer none) (by simp [hz.1]) (by omega)
  simp only [List.set_cons_succ, List.set_cons_zero] at H
  rw [hr, ← Zn.zero_seg] at H
  have H2 := hp_snoc (H.pull 1 rfl)
  refine IH (i + 1, Zs ++ [Zn.zero bz]) _ _ (by simp only; omega) ⟨rfl, rfl, trivial⟩ ⟨rfl, trivial⟩ ⟨by simp only; omega, ⟨by simp [hz.1], fun j hj => ?_⟩, by simp only; rw [show (Zs ++ [Zn.zero bz]).map Zn.p = Zs.map Zn.p ++ [Value.pointer (some ⟨bz, 0, none⟩)] by rw [List.map_append]; rfl]; exact H2⟩
  by_cases e : j < i
  · obtain ⟨z, h1, h2, h3⟩ := hz.2 j e
    exact ⟨z, by rw [List.getElem?_append_left (getE_lt h1)]; exact h1, h2, h3⟩
  · obtain rfl : j = i := by simp only at hj; omega
    exact ⟨Zn.zero bz, by rw [List.getElem?_append_right (by rw [hz.1]; exact Nat.le_refl _), hz.1]; simp, Zn.zero_ok _, rfl⟩
 ·
  refine J.exit rfl (J.seq (J.region (JL.ms rfl (JL.al rfl (JL.nil (J.ret1 (v := .slice _ _ _) Tryz.func15 rfl rfl ?_))))))
  obtain rfl : i = n := by omega
  rw [Nat.sub_self, List.replicate_zero, List.append_nil] at H
  exact ⟨_, rfl, bo, Zs, rfl, hz, H⟩
theorem whole_b {w0 w : World} {L : List Seg} {E : Nat → Value} {Q : Nat → Addr} (H : Hp w0 w L) (hE : Errs L E Q) {Zs : List Zn} {p : Option Addr} {c : Nat} (hs : SlAt L p (Zs.map Zn.p)) (hm : ∀ z ∈ Zs, z.seg ∈ L) (ho : ∀ z ∈ Zs, z.ok) (hn : Zs.length ≤ 1048576) : Ret Tryz.prog 19 [.slice p Zs.length c] w fun v w' => ((∀ z ∈ Zs, i64in z.v) ∧ ∃ b, v = .tuple #[.slice (some ⟨b, 0, none⟩) Zs.length Zs.length, .nilIface] ∧ Hp w0 w' ([(b, cel (i64sV (Zs.map (·.v))) 2)] :: L)) ∨ ((¬ ∀ z ∈ Zs, i64in z.v) ∧ v = .tuple #[.slice none 0 0, E 19] ∧ Hp w0 w' L) := by
 refine Calls.of_J (n := 28) Tryz.func19 rfl rfl rfl (J.seq (J.region (JL.g (RX.assign) (JL.g (RX.assign) (JL.nil (J.seq (J.region (JL.ms rfl (JL.g (RX.len_slice rfl (by rw [sl52]; rfl) rfl) ?_)))))))))
 refine JL.e (EX.makeS (e := 2) (m := Zs.length) H mkI.1 mkI.2 rfl rfl rfl (by omega) (by omega) (by omega)) ?_
 rintro _ w ⟨bo, rfl, H⟩
 rw [fnL_rep] at H
 refine JL.al rfl (JL.nil (J.seq (J.seq (J.region (JL.ms rfl (JL.g (RX.len_slice rfl (by rw [sl52]; rfl) rfl) ?_))))))
 refine JL.g (RX.move) (JL.nil (J.block (J.loop (ι := Nat) (S := fun i => [(12, .int .i64 ((i : Nat) : Int))]) (Φ := fun i w => i ≤ Zs.length ∧ (∀ j z, j < i → Zs[j]? = some z → i64in z.v) ∧ Hp w0 w ([(bo, cel (i64sV ((Zs.map (·.v)).take i) ++ List.replicate (Zs.length - i) (.int .i64 0)) 2)] :: L)) (μ := fun i => Zs.length - i) (C := [(4, _), (10, _), (11, _)]) 0 ⟨rfl, rfl, rfl, trivial⟩ ⟨rfl, trivial⟩ ?_ ?_)))
 · exact ⟨by omega, fun j z h => by omega, H⟩
 clear H
 rintro i ρ w ⟨hi, hin, H⟩ IH
 refine J.seq (J.region (JL.g (RX.lt rfl rfl) (JL.nil (J.seq (J.cond_d rfl (fun hlt => ?_) (fun hlt => ?_))))))
 ·
  obtain ⟨z, hz⟩ : ∃ z, Zs[i]? = some z := ⟨_, List.getElem?_eq_getElem (by omega)⟩
  have hzm := List.mem_of_getElem? hz
  obtain ⟨h1, h2, _⟩ := Zn.at_ (hm z hzm) (ho z hzm)
  obtain ⟨pb, po, rfl, hpp⟩ := hs.some (by simp; omega)
  refine J.skip (J.seq (J.block (J.seq (J.region (JL.mi rfl (JL.g (RX.indexAddr rfl rfl sl52 (by omega) (by omega) (o' := po + i) (by omega)) (JL.g (RX.loadS H hs.cons rfl (j := i) rfl (v := z.p) (RowZ.p_at hz) one54) (JL.ai rfl (JL.g (RX.assignv (v := z.p) rfl) (JL.nil (J.seq (J.seq (J.region (JL.g (RX.movev (v := z.p) rfl) (JL.e (EX.call rfl cl44 rfl ((isInt64_b H h1.cons h2.cons))) ?_)))))))))))))))
  rintro _ w ⟨rfl, H⟩
  refine JL.g (RX.not rfl) (JL.nil (J.cond rfl (fun hni => ?_) (fun hni => ?_)))
  ·
   have hno : ¬ i64in z.v := by simpa using hni
   refine J.seq (J.quietH H hmix (by kernel_rfl) (JQ.g (fun w H => RX.loadG H rfl (hE.cons.at_ 19 (by decide) (by decide)).at_ one31) (JQ.g (fun w H => RX.assign) (JQ.g (fun w H => RX.assignv (v := E 19) rfl) (JQ.nil fun w H => (J.ret2 (v := .slice _ _ _) Tryz.func19 rfl rfl rfl ?_))))))
   exact ⟨_, rfl, .inr ⟨fun h => hno (h z hzm), rfl, H.drop⟩⟩
  ·
   have hyes : i64in z.v := by simpa using hni
   refine J.skip (J.region (JL.ms rfl (JL.mi rfl (JL.g (RX.movev (v := z.p) rfl) (JL.e (EX.call rfl cl45 rfl ((int64_b H h1.cons h2.cons hyes))) ?_)))))
   rintro _ w ⟨rfl, H⟩
   refine JL.g (RX.indexAddr rfl rfl sl22 (by omega) (by omega) (o' := i) (by omega)) (JL.e (EX.store (v := .int _ _) H rfl rfl (i := 0) rfl rfl (by simp [i64sV]; omega) sz2 rfl rfl) ?_)
   rintro _ w H
   refine JL.nil (J.inBlock (J.region (JL.g (RX.add rfl rfl (wi (n := i + 1) (by omega) (by omega))) (JL.mi rfl (JL.nil ?_)))))
   have hzv : (Zs.map (·.v))[i]? = some z.v := by rw [List.getElem?_map, hz]; rfl
   have hr := rep_snoc (l := i64sV ((Zs.map (·.v)).take i)) (m := i) (n := Zs.length) (v := .int .i64 z.v) (x := .int .i64 0) (by simp [i64sV]; omega) (by omega)
   simp only [List.set_cons_zero] at H
   rw [hr, show i64sV ((Zs.map (·.v)).take i) ++ [.int .i64 z.v] = i64sV ((Zs.map (·.v)).take (i + 1)) by rw [take_succ_get hzv]; simp [i64sV]] at H
   refine IH (i + 1) _ _ (by omega) ⟨rfl, rfl, rfl, trivial⟩ ⟨rfl, trivial⟩ ⟨by omega, fun j y hj hy => ?_, H⟩
   by_cases e : j = i
   · subst e; rw [hz] at hy; cases hy; exact hyes
   · exact hin j y (by omega) hy
 ·
  refine J.exit rfl (J.seq (J.region (JL.ms rfl (JL.al rfl (JL.g (RX.assign) (JL.nil (J.ret2 (v := .slice _ _ _) Tryz.func19 rfl rfl rfl ?_)))))))
  obtain rfl : i = Zs.length := by omega
  rw [Nat.sub_self, List.replicate_zero, List.append_nil, List.take_of_length_le (by simp)] at H
  refine ⟨_, rfl, .inl ⟨fun z hz => ?_, bo, rfl, H⟩⟩
  obtain ⟨j, hj⟩ := List.mem_iff_getElem?.1 hz
  exact hin j z (getE_lt hj) hj
end Go.Proofs.YtfaokllgaambjaaGreatDoor

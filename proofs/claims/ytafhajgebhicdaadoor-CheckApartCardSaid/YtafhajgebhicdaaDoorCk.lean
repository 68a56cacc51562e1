/- Package check. -/
import Derived.Test.YtafhajgebhicdaaDoorLw
import Derived.Test.YtafhajgebhicdaaDoorGd
namespace Go.Proofs.YtafhajgebhicdaaDoor
open Go Go.Eng
set_option maxRecDepth 100000
set_option linter.unusedVariables false
set_option linter.unusedSimpArgs false

def Cl.v (c : Cl) : List Value := [.int .i64 c.at_, .int .i64 c.jump, .int .i64 c.cnt]
/-- Bounds that keep all reckoning inside the words. -/
structure Cl.Ok (c : Cl) : Prop where
  a0 : 0 ≤ c.at_
  a1 : c.at_ ≤ 1099511627776
  j0 : 1 ≤ c.jump
  j1 : c.jump ≤ 1048576
  c0 : 1 ≤ c.cnt
  c1 : c.cnt ≤ 1048576
theorem Cl.Ok.mul {c : Cl} (h : c.Ok) : 0 ≤ (c.cnt - 1) * c.jump ∧ (c.cnt - 1) * c.jump ≤ 1099511627776 := by
  refine ⟨Int.mul_nonneg (by have := h.c0; omega) (by have := h.j0; omega), ?_⟩
  have h1 : (c.cnt - 1) * c.jump ≤ 1048576 * c.jump := Int.mul_le_mul_of_nonneg_right (by have := h.c1; omega) (by have := h.j0; omega)
  have := h.j1
  omega
theorem last_b {w0 w : World} {F : List Seg} (H : Hp w0 w F) {c : Cl} (hc : c.Ok) : Ret Tryd.prog 40 [.agg c.v.toArray] w fun v w' => v = .int .i64 c.last ∧ Hp w0 w' F := by
  refine Calls.of_J (n := 12) Tryd.func40 rfl rfl rfl ?_
  refine J.seq ?_
  refine J.region ?_
  refine JL.does trivial (EX.box (v := Value.agg _) H rfl rfl) ?_
  rintro _ w ⟨b1, rfl, H⟩
  refine JL.go trivial (RX.assign) ?_
  refine JL.nil ?_
  refine J.seq ?_
  have hm := hc.mul
  have ha0 := hc.a0
  have ha1 := hc.a1
  have hc0 := hc.c0
  have hc1 := hc.c1
  refine J.region ?_
  refine JL.go trivial (RX.fieldAddr rfl fo63_0 rfl) ?_
  refine JL.go trivial (by first | exact RX.load H rfl (i := 0) rfl rfl one3) ?_
  refine JL.go trivial (RX.fieldAddr rfl fo63_2 rfl) ?_
  refine JL.go trivial (by first | exact RX.load H rfl (i := 0) rfl rfl one3) ?_
  refine JL.go trivial (RX.sub rfl rfl (w_i64 rfl (by omega) (by omega))) ?_
  refine JL.go trivial (RX.fieldAddr rfl fo63_1 rfl) ?_
  refine JL.go trivial (by first | exact RX.load H rfl (i := 0) rfl rfl one3) ?_
  refine JL.go trivial (RX.mul rfl rfl (w_i64 rfl (by omega) (by omega))) ?_
  refine JL.go trivial (RX.add rfl rfl (w_i64 rfl (by omega) (by omega))) ?_
  refine JL.go trivial (RX.assignv (v := Value.int _ _) rfl) ?_
  refine JL.nil ?_
  refine J.ret1 (v := Value.int _ _) Tryd.func40 rfl rfl ?_
  exact ⟨_, rfl, rfl, H.drop⟩

theorem wrap_mod {a b : Int} (h : 0 ≤ a) : a.tmod b = a % b := Int.tmod_eq_emod_of_nonneg h
theorem has_b {w0 w : World} {F : List Seg} (H : Hp w0 w F) {c : Cl} (hc : c.Ok) {x : Int} (h0 : 0 ≤ x) (h1 : x ≤ 4398046511104) : Ret Tryd.prog 41 [.agg c.v.toArray, .int .i64 x] w fun v w' => v = .int .i64 (c.has x) ∧ Hp w0 w' F := by
  refine Calls.of_J (n := 32) Tryd.func41 rfl rfl rfl ?_
  refine J.seq ?_
  refine J.region ?_
  refine JL.does trivial (EX.box (v := Value.agg _) H rfl rfl) ?_
  rintro _ w ⟨b1, rfl, H⟩
  refine JL.go trivial (RX.assign) ?_
  refine JL.nil ?_
  refine J.seq ?_
  refine J.seq ?_
  have hm := hc.mul
  have ha0 := hc.a0
  have ha1 := hc.a1
  have hc0 := hc.c0
  have hc1 := hc.c1
  have hj0 := hc.j0
  have hj1 := hc.j1
  refine J.region ?_
  refine JL.go trivial (RX.movev (v := Value.int _ _) rfl) ?_
  refine JL.go trivial (RX.fieldAddr rfl fo63_0 rfl) ?_
  refine JL.go trivial (by first | exact RX.load H rfl (i := 0) rfl rfl one3) ?_
  refine JL.go trivial (RX.lt rfl rfl) ?_
  refine JL.go trivial (RX.movev (v := Value.bool _) rfl) ?_
  refine JL.splitS 9 rfl (fun ha => ?_) (fun ha => ?_)
  · skip
    first | have hap := of_decide_eq_true ha | skip
    refine JL.no ⟨_, rfl, gno ha⟩ ?_
    refine JL.no ⟨_, rfl, gno ha⟩ ?_
    refine JL.no ⟨_, rfl, gno ha⟩ ?_
    refine JL.no ⟨_, rfl, gno ha⟩ ?_
    refine JL.go trivial (RX.pick_t rfl ha) ?_
    refine JL.go trivial (RX.movev (v := Value.bool _) rfl) ?_
    refine JL.no ⟨_, rfl, gno rfl⟩ ?_
    refine JL.no ⟨_, rfl, gno rfl⟩ ?_
    refine JL.no ⟨_, rfl, gno rfl⟩ ?_
    refine JL.no ⟨_, rfl, gno rfl⟩ ?_
    refine JL.no ⟨_, rfl, gno rfl⟩ ?_
    refine JL.no ⟨_, rfl, gno rfl⟩ ?_
    refine JL.no ⟨_, rfl, gno rfl⟩ ?_
    refine JL.no ⟨_, rfl, gno rfl⟩ ?_
    refine JL.go trivial (RX.pick_t rfl rfl) ?_
    refine JL.nil ?_
    refine J.cond_t rfl rfl ?_
    refine J.seq ?_
    refine J.region ?_
    refine JL.go trivial (RX.assign) ?_
    refine JL.nil ?_
    refine J.ret1 (v := Value.int _ _) Tryd.func41 rfl rfl ?_
    exact ⟨_, rfl, by unfold Cl.has; first | rw [if_pos (by first | (left; omega) | (right; left; omega) | (right; right; simpa using hz))] | rw [if_neg (by simp at hz; omega)], H.drop⟩
  · skip
    first | have hap := of_decide_eq_false ha | skip
    refine JL.go ⟨_, rfl, ha⟩ (RX.movev (v := Value.int _ _) rfl) ?_
    refine JL.go ⟨_, rfl, ha⟩ (by first | exact RX.loadAgg H rfl (i := 0) rfl rfl ag63) ?_
    refine JL.does ⟨_, rfl, ha⟩ (EX.call rfl cl40 rfl ((last_b H hc))) ?_
    rintro _ w ⟨rfl, H⟩
    refine JL.go ⟨_, rfl, ha⟩ (RX.gt rfl rfl) ?_
    refine JL.go trivial (RX.pick_f rfl ha) ?_
    refine JL.go trivial (RX.movev (v := Value.bool _) rfl) ?_
    refine JL.splitS 15 rfl (fun hb => ?_) (fun hb => ?_)
    · skip
      first | have hbp := of_decide_eq_true hb | skip
      refine JL.no ⟨_, rfl, gno hb⟩ ?_
      refine JL.no ⟨_, rfl, gno hb⟩ ?_
      refine JL.no ⟨_, rfl, gno hb⟩ ?_
      refine JL.no ⟨_, rfl, gno hb⟩ ?_
      refine JL.no ⟨_, rfl, gno hb⟩ ?_
      refine JL.no ⟨_, rfl, gno hb⟩ ?_
      refine JL.no ⟨_, rfl, gno hb⟩ ?_
      refine JL.no ⟨_, rfl, gno hb⟩ ?_
      refine JL.go trivial (RX.pick_t rfl hb) ?_
      refine JL.nil ?_
      refine J.cond_t rfl rfl ?_
      refine J.seq ?_
      refine J.region ?_
      refine JL.go trivial (RX.assign) ?_
      refine JL.nil ?_
      refine J.ret1 (v := Value.int _ _) Tryd.func41 rfl rfl ?_
      exact ⟨_, rfl, by unfold Cl.has; first | rw [if_pos (by first | (left; omega) | (right; left; omega) | (right; right; simpa using hz))] | rw [if_neg (by simp at hz; omega)], H.drop⟩
    · skip
      first | have hbp := of_decide_eq_false hb | skip
      refine JL.go ⟨_, rfl, hb⟩ (RX.movev (v := Value.int _ _) rfl) ?_
      refine JL.go ⟨_, rfl, hb⟩ (RX.fieldAddr rfl fo63_0 rfl) ?_
      refine JL.go ⟨_, rfl, hb⟩ (by first | exact RX.load H rfl (i := 0) rfl rfl one3) ?_
      refine JL.go ⟨_, rfl, hb⟩ (RX.sub rfl rfl (w_i64 rfl (by omega) (by omega))) ?_
      refine JL.go ⟨_, rfl, hb⟩ (RX.fieldAddr rfl fo63_1 rfl) ?_
      refine JL.go ⟨_, rfl, hb⟩ (by first | exact RX.load H rfl (i := 0) rfl rfl one3) ?_
      refine JL.go ⟨_, rfl, hb⟩ (RX.rem rfl rfl (by omega) (r := (x - c.at_) % c.jump) (wrap_mod (by omega))) ?_
      refine JL.go ⟨_, rfl, hb⟩ (RX.ne rfl rfl) ?_
      refine JL.go trivial (RX.pick_f rfl hb) ?_
      refine JL.nil ?_
      refine J.cond_d rfl (fun hz => ?_) (fun hz => ?_)
      · skip
        refine J.seq ?_
        refine J.region ?_
        refine JL.go trivial (RX.assign) ?_
        refine JL.nil ?_
        refine J.ret1 (v := Value.int _ _) Tryd.func41 rfl rfl ?_
        exact ⟨_, rfl, by unfold Cl.has; first | rw [if_pos (by first | (left; omega) | (right; left; omega) | (right; right; simpa using hz))] | rw [if_neg (by simp at hz; omega)], H.drop⟩
      · skip
        refine J.skip ?_
        refine J.seq ?_
        refine J.region ?_
        refine JL.go trivial (RX.movev (v := Value.int _ _) rfl) ?_
        refine JL.go trivial (RX.fieldAddr rfl fo63_0 rfl) ?_
        refine JL.go trivial (by first | exact RX.load H rfl (i := 0) rfl rfl one3) ?_
        refine JL.go trivial (RX.sub rfl rfl (w_i64 rfl (by omega) (by omega))) ?_
        refine JL.go trivial (RX.fieldAddr rfl fo63_1 rfl) ?_
        refine JL.go trivial (by first | exact RX.load H rfl (i := 0) rfl rfl one3) ?_
        refine JL.go trivial (RX.quo rfl rfl (by omega) (r := (x - c.at_) / c.jump) (by rw [Int.tdiv_eq_ediv_of_nonneg (by omega)]; exact w_i64 rfl (by have := Int.ediv_nonneg (show 0 ≤ x - c.at_ by omega) (show 0 ≤ c.jump by omega); omega) (by have := Int.ediv_le_self c.jump (show 0 ≤ x - c.at_ by omega); omega))) ?_
        refine JL.go trivial (RX.assignv (v := Value.int _ _) rfl) ?_
        refine JL.nil ?_
        refine J.ret1 (v := Value.int _ _) Tryd.func41 rfl rfl ?_
        exact ⟨_, rfl, by unfold Cl.has; first | rw [if_pos (by first | (left; omega) | (right; left; omega) | (right; right; simpa using hz))] | rw [if_neg (by simp at hz; omega)], H.drop⟩

def rdV (r : Cl) (ev : Bool) : List Value := r.v ++ [.bool ev]
def rdsV (s : Stp) : List Value := match rds s with
  | none => []
  | some (r, ev) => rdV r ev
def rdsN (s : Stp) : Nat := match rds s with
  | none => 0
  | some _ => 1
def ownB (s : Stp) : Bool := decide (¬ (s.op = 1 ∨ s.op = 2 ∨ s.op = 3 ∨ s.op = 6 ∨ s.op = 8))
set_option maxHeartbeats 1600000 in
theorem touched_b {w0 w : World} {F : List Seg} (H : Hp w0 w F) {s : Stp} : Ret Tryd.prog 33 [.agg s.v.toArray] w fun v w' => ∃ rp rc rs, v = .tuple #[.slice rp (rdsN s) rc, .agg (wr s).v.toArray, .bool (ownB s)] ∧ OwnSl 70 4 rp (rdsN s) rc (rdsV s) rs ∧ Hp w0 w' (rs :: F) := by
  refine Calls.of_J (n := 67) Tryd.func33 rfl rfl rfl ?_
  refine J.seq ?_
  refine J.region ?_
  refine JL.does trivial (EX.box (v := Value.agg _) H rfl rfl) ?_
  rintro _ w ⟨bs, rfl, H⟩
  refine JL.go trivial (RX.assign) ?_
  refine JL.does trivial (EX.alloc H zr63 rfl) ?_
  rintro _ w ⟨bw, rfl, H⟩
  refine JL.go trivial (RX.assign) ?_
  refine JL.nil ?_
  refine J.seq ?_
  refine J.region ?_
  refine JL.go trivial (RX.fieldAddr rfl fo39_1 rfl) ?_
  refine JL.go trivial (by first | exact RX.load H rfl (i := 0) rfl rfl one3 | exact RX.load H rfl (i := 1) rfl rfl one3 | exact RX.load H rfl (i := 2) rfl rfl one3) ?_
  refine JL.go trivial (RX.fieldAddr rfl fo39_4 rfl) ?_
  refine JL.go trivial (by first | exact RX.load H rfl (i := 0) rfl rfl one3 | exact RX.load H rfl (i := 1) rfl rfl one3 | exact RX.load H rfl (i := 2) rfl rfl one3) ?_
  refine JL.go trivial (RX.build (pv := [(0, .int .i64 s.dst), (1, .int .i64 1), (2, .int .i64 s.count)]) (res := [.int .i64 s.dst, .int .i64 1, .int .i64 s.count]) rfl (by kernel_rfl)) ?_
  refine JL.does trivial (EX.storeAgg H rfl rfl (i := 0) (vs := [.int .i64 s.dst, .int .i64 1, .int .i64 s.count]) (l' := [.int .i64 s.dst, .int .i64 1, .int .i64 s.count]) rfl (by simp [isCell]) (by simp) sz63 rfl rfl) ?_
  rintro _ w H
  refine JL.nil ?_
  refine J.seq ?_
  refine J.seq ?_
  refine J.region ?_
  refine JL.go trivial (RX.fieldAddr rfl fo39_0 rfl) ?_
  refine JL.go trivial (by first | exact RX.load H rfl (i := 0) rfl rfl one3 | exact RX.load H rfl (i := 1) rfl rfl one3 | exact RX.load H rfl (i := 2) rfl rfl one3) ?_
  refine JL.nil ?_
  refine J.block ?_
  refine J.seq ?_
  refine J.region ?_
  refine JL.go trivial (RX.eq rfl rfl) ?_
  refine JL.go trivial (RX.assignv (v := Value.bool _) rfl) ?_
  refine JL.nil ?_
  refine J.cond_d rfl (fun h1 => ?_) (fun h1 => ?_)
  · skip
    refine J.seq ?_
    refine J.held (fun w => Hp w0 w ([(bs, cel s.v 39)] :: F)) hmix fun w hs => ?_
    replace H := H.same hs; clear hs
    have hS : Hp w0 w ([(bs, cel s.v 39)] :: F) := by first | exact H | exact H.drop | exact H.drop.drop | exact H.drop.drop.drop | exact H.drop.drop.drop.drop | exact H.drop.drop.drop.drop.drop | exact H.drop.drop.drop.drop.drop.drop | exact H.drop.drop.drop.drop.drop.drop.drop | exact H.drop.drop.drop.drop.drop.drop.drop.drop
    refine JH.take 0 (listed' := [true, false, false, false, false, false, false, false, false, false, false, false, false]) rfl (by kernel_rfl) (by kernel_rfl) (by kernel_rfl) rfl trivial (fun w H => RX.fieldAddr rfl fo39_2 rfl) hS ?_
    refine JH.take 1 (listed' := [true, true, false, false, false, false, false, false, false, false, false, false, false]) rfl (by kernel_rfl) (by kernel_rfl) (by kernel_rfl) rfl trivial (fun w H => by first | exact RX.load H rfl (i := 0) rfl rfl one3 | exact RX.load H rfl (i := 1) rfl rfl one3 | exact RX.load H rfl (i := 2) rfl rfl one3) hS ?_
    refine JH.take 2 (listed' := [true, true, true, false, false, false, false, false, false, false, false, false, false]) rfl (by kernel_rfl) (by kernel_rfl) (by kernel_rfl) rfl trivial (fun w H => RX.fieldAddr rfl fo39_3 rfl) hS ?_
    refine JH.take 3 (listed' := [true, true, true, true, false, false, false, false, false, false, false, false, false]) rfl (by kernel_rfl) (by kernel_rfl) (by kernel_rfl) rfl trivial (fun w H => by first | exact RX.load H rfl (i := 0) rfl rfl one3 | exact RX.load H rfl (i := 1) rfl rfl one3 | exact RX.load H rfl (i := 2) rfl rfl one3) hS ?_
    refine JH.take 4 (listed' := [true, true, true, true, true, false, false, false, false, false, false, false, false]) rfl (by kernel_rfl) (by kernel_rfl) (by kernel_rfl) rfl trivial (fun w H => RX.fieldAddr rfl fo39_4 rfl) hS ?_
    refine JH.take 5 (listed' := [true, true, true, true, true, true, false, false, false, false, false, false, false]) rfl (by kernel_rfl) (by kernel_rfl) (by kernel_rfl) rfl trivial (fun w H => by first | exact RX.load H rfl (i := 0) rfl rfl one3 | exact RX.load H rfl (i := 1) rfl rfl one3 | exact RX.load H rfl (i := 2) rfl rfl one3) hS ?_
    refine JH.take 6 (listed' := [true, true, true, true, true, true, true, false, false, false, false, false, false]) rfl (by kernel_rfl) (by kernel_rfl) (by kernel_rfl) rfl trivial (fun w H => RX.build (pv := [(0, .int .i64 s.src), (1, .int .i64 s.jump), (2, .int .i64 s.count)]) (res := [.int .i64 s.src, .int .i64 s.jump, .int .i64 s.count]) rfl (by kernel_rfl)) hS ?_
    refine JH.take 7 (listed' := [true, true, true, true, true, true, true, true, false, false, false, false, false]) rfl (by kernel_rfl) (by kernel_rfl) (by kernel_rfl) rfl trivial (fun w H => RX.build (pv := [(0, .agg #[.int .i64 s.src, .int .i64 s.jump, .int .i64 s.count]), (1, .bool false)]) (res := [.int .i64 s.src, .int .i64 s.jump, .int .i64 s.count, .bool false]) rfl (by kernel_rfl)) hS ?_
    refine JH.all [8, 9] (by kernel_rfl) (by decide) ?_
    refine ⟨?_, ?_⟩
    · skip
      refine JHO.does (listed' := [true, true, true, true, true, true, true, true, true, false, false, false, false]) rfl rfl trivial (EX.buildSlice (pv := [(0, .agg #[.int .i64 s.src, .int .i64 s.jump, .int .i64 s.count, .bool false])]) (l := [.int .i64 s.src, .int .i64 s.jump, .int .i64 s.count, .bool false]) (e := 70) H rfl (by kernel_rfl)) ?_
      rintro _ w ⟨br, rfl, H⟩
      have hS : Hp w0 w ([(bs, cel s.v 39)] :: F) := by first | exact H | exact H.drop | exact H.drop.drop | exact H.drop.drop.drop | exact H.drop.drop.drop.drop | exact H.drop.drop.drop.drop.drop | exact H.drop.drop.drop.drop.drop.drop | exact H.drop.drop.drop.drop.drop.drop.drop | exact H.drop.drop.drop.drop.drop.drop.drop.drop
      refine ⟨hS, ?_⟩
      refine JH.take 10 (listed' := [true, true, true, true, true, true, true, true, true, false, true, false, false]) rfl (by kernel_rfl) (by kernel_rfl) (by kernel_rfl) rfl trivial (fun w H => RX.assignv (v := Value.slice _ _ _) rfl) hS ?_
      refine JH.all [9] (by kernel_rfl) (by decide) ?_
      refine JHO.go (listed' := [true, true, true, true, true, true, true, true, true, true, true, false, false]) rfl rfl trivial (by first | exact RX.loadAgg H rfl (i := 0) rfl rfl ag63 | exact RX.loadAgg H rfl (i := 1) rfl rfl ag63 | exact RX.loadAgg H rfl (i := 2) rfl rfl ag63) hS ?_
      refine JH.all [11] (by kernel_rfl) (by decide) ?_
      refine JHO.does (listed' := [true, true, true, true, true, true, true, true, true, true, true, true, false]) rfl rfl trivial (by first | exact EX.storeAgg H rfl rfl (i := 0) rfl (by simp [isCell]) (by simp) sz63 rfl rfl | exact EX.storeAgg H rfl rfl (i := 1) rfl (by simp [isCell]) (by simp) sz63 rfl rfl | exact EX.storeAgg H rfl rfl (i := 2) rfl (by simp [isCell]) (by simp) sz63 rfl rfl) ?_
      rintro _ w H
      have hS : Hp w0 w ([(bs, cel s.v 39)] :: F) := by first | exact H | exact H.drop | exact H.drop.drop | exact H.drop.drop.drop | exact H.drop.drop.drop.drop | exact H.drop.drop.drop.drop.drop | exact H.drop.drop.drop.drop.drop.drop | exact H.drop.drop.drop.drop.drop.drop.drop | exact H.drop.drop.drop.drop.drop.drop.drop.drop
      refine ⟨hS, ?_⟩
      refine JH.take 12 (listed' := [true, true, true, true, true, true, true, true, true, true, true, true, true]) rfl (by kernel_rfl) (by kernel_rfl) (by kernel_rfl) rfl trivial (fun w H => RX.assign) hS ?_
      refine JH.done (by kernel_rfl) ?_
      first | refine J.rettct (x := .slice _ _ _) (y := .bool _) Tryd.func33 rfl H rfl (i := 0) rfl rfl ag63 rfl rfl ?_ | refine J.rettct (x := .slice _ _ _) (y := .bool _) Tryd.func33 rfl H rfl (i := 1) rfl rfl ag63 rfl rfl ?_ | refine J.rettct (x := .slice _ _ _) (y := .bool _) Tryd.func33 rfl H rfl (i := 2) rfl rfl ag63 rfl rfl ?_
      first
      | exact ⟨_, rfl, none, 0, [], by simp_all [rdsN, rds, wr, ownB, Cl.v, setN], by simp_all [rdsN, rdsV, rds, OwnSl], (H.drop.drop).nil⟩
      | exact ⟨_, rfl, some ⟨br, 0, none⟩, 1, _, by simp_all [rdsN, rds, wr, ownB, Cl.v, setN], by simp_all [rdsN, rdsV, rds, rdV, Cl.v, OwnSl] <;> exact ⟨_, rfl, rfl, rfl⟩, ((H.pull 1 rfl).drop.pull 1 rfl).drop⟩
    · skip
      refine JHO.go (listed' := [true, true, true, true, true, true, true, true, false, true, false, false, false]) rfl rfl trivial (by first | exact RX.loadAgg H rfl (i := 0) rfl rfl ag63 | exact RX.loadAgg H rfl (i := 1) rfl rfl ag63 | exact RX.loadAgg H rfl (i := 2) rfl rfl ag63) hS ?_
      refine JH.all [8] (by kernel_rfl) (by decide) ?_
      refine JHO.does (listed' := [true, true, true, true, true, true, true, true, true, true, false, false, false]) rfl rfl trivial (EX.buildSlice (pv := [(0, .agg #[.int .i64 s.src, .int .i64 s.jump, .int .i64 s.count, .bool false])]) (l := [.int .i64 s.src, .int .i64 s.jump, .int .i64 s.count, .bool false]) (e := 70) H rfl (by kernel_rfl)) ?_
      rintro _ w ⟨br, rfl, H⟩
      have hS : Hp w0 w ([(bs, cel s.v 39)] :: F) := by first | exact H | exact H.drop | exact H.drop.drop | exact H.drop.drop.drop | exact H.drop.drop.drop.drop | exact H.drop.drop.drop.drop.drop | exact H.drop.drop.drop.drop.drop.drop | exact H.drop.drop.drop.drop.drop.drop.drop | exact H.drop.drop.drop.drop.drop.drop.drop.drop
      refine ⟨hS, ?_⟩
      refine JH.take 10 (listed' := [true, true, true, true, true, true, true, true, true, true, true, false, false]) rfl (by kernel_rfl) (by kernel_rfl) (by kernel_rfl) rfl trivial (fun w H => RX.assignv (v := Value.slice _ _ _) rfl) hS ?_
      refine JH.all [11] (by kernel_rfl) (by decide) ?_
      refine JHO.does (listed' := [true, true, true, true, true, true, true, true, true, true, true, true, false]) rfl rfl trivial (by first | exact EX.storeAgg H rfl rfl (i := 0) rfl (by simp [isCell]) (by simp) sz63 rfl rfl | exact EX.storeAgg H rfl rfl (i := 1) rfl (by simp [isCell]) (by simp) sz63 rfl rfl | exact EX.storeAgg H rfl rfl (i := 2) rfl (by simp [isCell]) (by simp) sz63 rfl rfl) ?_
      rintro _ w H
      have hS : Hp w0 w ([(bs, cel s.v 39)] :: F) := by first | exact H | exact H.drop | exact H.drop.drop | exact H.drop.drop.drop | exact H.drop.drop.drop.drop | exact H.drop.drop.drop.drop.drop | exact H.drop.drop.drop.drop.drop.drop | exact H.drop.drop.drop.drop.drop.drop.drop | exact H.drop.drop.drop.drop.drop.drop.drop.drop
      refine ⟨hS, ?_⟩
      refine JH.take 12 (listed' := [true, true, true, true, true, true, true, true, true, true, true, true, true]) rfl (by kernel_rfl) (by kernel_rfl) (by kernel_rfl) rfl trivial (fun w H => RX.assign) hS ?_
      refine JH.done (by kernel_rfl) ?_
      first | refine J.rettct (x := .slice _ _ _) (y := .bool _) Tryd.func33 rfl H rfl (i := 0) rfl rfl ag63 rfl rfl ?_ | refine J.rettct (x := .slice _ _ _) (y := .bool _) Tryd.func33 rfl H rfl (i := 1) rfl rfl ag63 rfl rfl ?_ | refine J.rettct (x := .slice _ _ _) (y := .bool _) Tryd.func33 rfl H rfl (i := 2) rfl rfl ag63 rfl rfl ?_
      first
      | exact ⟨_, rfl, none, 0, [], by simp_all [rdsN, rds, wr, ownB, Cl.v, setN], by simp_all [rdsN, rdsV, rds, OwnSl], (H.drop.drop).nil⟩
      | exact ⟨_, rfl, some ⟨br, 0, none⟩, 1, _, by simp_all [rdsN, rds, wr, ownB, Cl.v, setN], by simp_all [rdsN, rdsV, rds, rdV, Cl.v, OwnSl] <;> exact ⟨_, rfl, rfl, rfl⟩, ((H.pull 1 rfl).drop.pull 1 rfl).drop⟩
  · skip
    refine J.seq ?_
    refine J.region ?_
    refine JL.go trivial (RX.eq rfl rfl) ?_
    refine JL.go trivial (RX.assignv (v := Value.bool _) rfl) ?_
    refine JL.nil ?_
    refine J.cond_d rfl (fun h2 => ?_) (fun h2 => ?_)
    · skip
      refine J.seq ?_
      refine J.held (fun w => Hp w0 w ([(bs, cel s.v 39)] :: F)) hmix fun w hs => ?_
      replace H := H.same hs; clear hs
      have hS : Hp w0 w ([(bs, cel s.v 39)] :: F) := by first | exact H | exact H.drop | exact H.drop.drop | exact H.drop.drop.drop | exact H.drop.drop.drop.drop | exact H.drop.drop.drop.drop.drop | exact H.drop.drop.drop.drop.drop.drop | exact H.drop.drop.drop.drop.drop.drop.drop | exact H.drop.drop.drop.drop.drop.drop.drop.drop
      refine JH.take 0 (listed' := [true, false, false, false, false, false, false, false, false, false, false, false, false, false, false, false, false]) rfl (by kernel_rfl) (by kernel_rfl) (by kernel_rfl) rfl trivial (fun w H => RX.fieldAddr rfl fo39_2 rfl) hS ?_
      refine JH.take 1 (listed' := [true, true, false, false, false, false, false, false, false, false, false, false, false, false, false, false, false]) rfl (by kernel_rfl) (by kernel_rfl) (by kernel_rfl) rfl trivial (fun w H => by first | exact RX.load H rfl (i := 0) rfl rfl one3 | exact RX.load H rfl (i := 1) rfl rfl one3 | exact RX.load H rfl (i := 2) rfl rfl one3) hS ?_
      refine JH.take 2 (listed' := [true, true, true, false, false, false, false, false, false, false, false, false, false, false, false, false, false]) rfl (by kernel_rfl) (by kernel_rfl) (by kernel_rfl) rfl trivial (fun w H => RX.fieldAddr rfl fo39_4 rfl) hS ?_
      refine JH.take 3 (listed' := [true, true, true, true, false, false, false, false, false, false, false, false, false, false, false, false, false]) rfl (by kernel_rfl) (by kernel_rfl) (by kernel_rfl) rfl trivial (fun w H => by first | exact RX.load H rfl (i := 0) rfl rfl one3 | exact RX.load H rfl (i := 1) rfl rfl one3 | exact RX.load H rfl (i := 2) rfl rfl one3) hS ?_
      refine JH.take 4 (listed' := [true, true, true, true, true, false, false, false, false, false, false, false, false, false, false, false, false]) rfl (by kernel_rfl) (by kernel_rfl) (by kernel_rfl) rfl trivial (fun w H => RX.build (pv := [(0, .int .i64 s.src), (1, .int .i64 1), (2, .int .i64 s.count)]) (res := [.int .i64 s.src, .int .i64 1, .int .i64 s.count]) rfl (by kernel_rfl)) hS ?_
      refine JH.take 5 (listed' := [true, true, true, true, true, true, false, false, false, false, false, false, false, false, false, false, false]) rfl (by kernel_rfl) (by kernel_rfl) (by kernel_rfl) rfl trivial (fun w H => RX.build (pv := [(0, .agg #[.int .i64 s.src, .int .i64 1, .int .i64 s.count]), (1, .bool false)]) (res := [.int .i64 s.src, .int .i64 1, .int .i64 s.count, .bool false]) rfl (by kernel_rfl)) hS ?_
      refine JH.take 7 (listed' := [true, true, true, true, true, true, false, true, false, false, false, false, false, false, false, false, false]) rfl (by kernel_rfl) (by kernel_rfl) (by kernel_rfl) rfl trivial (fun w H => RX.fieldAddr rfl fo39_1 rfl) hS ?_
      refine JH.take 8 (listed' := [true, true, true, true, true, true, false, true, true, false, false, false, false, false, false, false, false]) rfl (by kernel_rfl) (by kernel_rfl) (by kernel_rfl) rfl trivial (fun w H => by first | exact RX.load H rfl (i := 0) rfl rfl one3 | exact RX.load H rfl (i := 1) rfl rfl one3 | exact RX.load H rfl (i := 2) rfl rfl one3) hS ?_
      refine JH.take 9 (listed' := [true, true, true, true, true, true, false, true, true, true, false, false, false, false, false, false, false]) rfl (by kernel_rfl) (by kernel_rfl) (by kernel_rfl) rfl trivial (fun w H => RX.fieldAddr rfl fo39_3 rfl) hS ?_
      refine JH.take 10 (listed' := [true, true, true, true, true, true, false, true, true, true, true, false, false, false, false, false, false]) rfl (by kernel_rfl) (by kernel_rfl) (by kernel_rfl) rfl trivial (fun w H => by first | exact RX.load H rfl (i := 0) rfl rfl one3 | exact RX.load H rfl (i := 1) rfl rfl one3 | exact RX.load H rfl (i := 2) rfl rfl one3) hS ?_
      refine JH.take 11 (listed' := [true, true, true, true, true, true, false, true, true, true, true, true, false, false, false, false, false]) rfl (by kernel_rfl) (by kernel_rfl) (by kernel_rfl) rfl trivial (fun w H => RX.fieldAddr rfl fo39_4 rfl) hS ?_
      refine JH.take 12 (listed' := [true, true, true, true, true, true, false, true, true, true, true, true, true, false, false, false, false]) rfl (by kernel_rfl) (by kernel_rfl) (by kernel_rfl) rfl trivial (fun w H => by first | exact RX.load H rfl (i := 0) rfl rfl one3 | exact RX.load H rfl (i := 1) rfl rfl one3 | exact RX.load H rfl (i := 2) rfl rfl one3) hS ?_
      refine JH.take 13 (listed' := [true, true, true, true, true, true, false, true, true, true, true, true, true, true, false, false, false]) rfl (by kernel_rfl) (by kernel_rfl) (by kernel_rfl) rfl trivial (fun w H => RX.build (pv := [(0, .int .i64 s.dst), (1, .int .i64 s.jump), (2, .int .i64 s.count)]) (res := [.int .i64 s.dst, .int .i64 s.jump, .int .i64 s.count]) rfl (by kernel_rfl)) hS ?_
      refine JH.all [6] (by kernel_rfl) (by decide) ?_
      refine JHO.does (listed' := [true, true, true, true, true, true, true, true, true, true, true, true, true, true, false, false, false]) rfl rfl trivial (EX.buildSlice (pv := [(0, .agg #[.int .i64 s.src, .int .i64 1, .int .i64 s.count, .bool false])]) (l := [.int .i64 s.src, .int .i64 1, .int .i64 s.count, .bool false]) (e := 70) H rfl (by kernel_rfl)) ?_
      rintro _ w ⟨br, rfl, H⟩
      have hS : Hp w0 w ([(bs, cel s.v 39)] :: F) := by first | exact H | exact H.drop | exact H.drop.drop | exact H.drop.drop.drop | exact H.drop.drop.drop.drop | exact H.drop.drop.drop.drop.drop | exact H.drop.drop.drop.drop.drop.drop | exact H.drop.drop.drop.drop.drop.drop.drop | exact H.drop.drop.drop.drop.drop.drop.drop.drop
      refine ⟨hS, ?_⟩
      refine JH.take 14 (listed' := [true, true, true, true, true, true, true, true, true, true, true, true, true, true, true, false, false]) rfl (by kernel_rfl) (by kernel_rfl) (by kernel_rfl) rfl trivial (fun w H => RX.assignv (v := Value.slice _ _ _) rfl) hS ?_
      refine JH.all [15] (by kernel_rfl) (by decide) ?_
      refine JHO.does (listed' := [true, true, true, true, true, true, true, true, true, true, true, true, true, true, true, true, false]) rfl rfl trivial (by first | exact EX.storeAgg H rfl rfl (i := 0) rfl (by simp [isCell]) (by simp) sz63 rfl rfl | exact EX.storeAgg H rfl rfl (i := 1) rfl (by simp [isCell]) (by simp) sz63 rfl rfl | exact EX.storeAgg H rfl rfl (i := 2) rfl (by simp [isCell]) (by simp) sz63 rfl rfl) ?_
      rintro _ w H
      have hS : Hp w0 w ([(bs, cel s.v 39)] :: F) := by first | exact H | exact H.drop | exact H.drop.drop | exact H.drop.drop.drop | exact H.drop.drop.drop.drop | exact H.drop.drop.drop.drop.drop | exact H.drop.drop.drop.drop.drop.drop | exact H.drop.drop.drop.drop.drop.drop.drop | exact H.drop.drop.drop.drop.drop.drop.drop.drop
      refine ⟨hS, ?_⟩
      refine JH.take 16 (listed' := [true, true, true, true, true, true, true, true, true, true, true, true, true, true, true, true, true]) rfl (by kernel_rfl) (by kernel_rfl) (by kernel_rfl) rfl trivial (fun w H => RX.assign) hS ?_
      refine JH.done (by kernel_rfl) ?_
      first | refine J.rettct (x := .slice _ _ _) (y := .bool _) Tryd.func33 rfl H rfl (i := 0) rfl rfl ag63 rfl rfl ?_ | refine J.rettct (x := .slice _ _ _) (y := .bool _) Tryd.func33 rfl H rfl (i := 1) rfl rfl ag63 rfl rfl ?_ | refine J.rettct (x := .slice _ _ _) (y := .bool _) Tryd.func33 rfl H rfl (i := 2) rfl rfl ag63 rfl rfl ?_
      first
      | exact ⟨_, rfl, none, 0, [], by simp_all [rdsN, rds, wr, ownB, Cl.v, setN], by simp_all [rdsN, rdsV, rds, OwnSl], (H.drop.drop).nil⟩
      | exact ⟨_, rfl, some ⟨br, 0, none⟩, 1, _, by simp_all [rdsN, rds, wr, ownB, Cl.v, setN], by simp_all [rdsN, rdsV, rds, rdV, Cl.v, OwnSl] <;> exact ⟨_, rfl, rfl, rfl⟩, ((H.pull 1 rfl).drop.pull 1 rfl).drop⟩
    · skip
      refine J.seq ?_
      refine J.seq ?_
      refine J.region ?_
      refine JL.go trivial (RX.eq rfl rfl) ?_
      refine JL.go trivial (RX.assignv (v := Value.bool _) rfl) ?_
      refine JL.nil ?_
      refine J.cond_d rfl (fun h3 => ?_) (fun h3 => ?_)
      · skip
        refine J.skip ?_
        refine J.cond_t rfl (decide_eq_true h3) ?_
        refine J.seq ?_
        refine J.held (fun w => Hp w0 w ([(bs, cel s.v 39)] :: F)) hmix fun w hs => ?_
        replace H := H.same hs; clear hs
        have hS : Hp w0 w ([(bs, cel s.v 39)] :: F) := by first | exact H | exact H.drop | exact H.drop.drop | exact H.drop.drop.drop | exact H.drop.drop.drop.drop | exact H.drop.drop.drop.drop.drop | exact H.drop.drop.drop.drop.drop.drop | exact H.drop.drop.drop.drop.drop.drop.drop | exact H.drop.drop.drop.drop.drop.drop.drop.drop
        refine JH.take 1 (listed' := [false, true, false, false]) rfl (by kernel_rfl) (by kernel_rfl) (by kernel_rfl) rfl trivial (fun w H => RX.assign) hS ?_
        refine JH.all [0] (by kernel_rfl) (by decide) ?_
        refine JHO.go (listed' := [true, true, false, false]) rfl rfl trivial (by first | exact RX.loadAgg H rfl (i := 0) rfl rfl ag63 | exact RX.loadAgg H rfl (i := 1) rfl rfl ag63 | exact RX.loadAgg H rfl (i := 2) rfl rfl ag63) hS ?_
        refine JH.all [2] (by kernel_rfl) (by decide) ?_
        refine JHO.does (listed' := [true, true, true, false]) rfl rfl trivial (by first | exact EX.storeAgg H rfl rfl (i := 0) rfl (by simp [isCell]) (by simp) sz63 rfl rfl | exact EX.storeAgg H rfl rfl (i := 1) rfl (by simp [isCell]) (by simp) sz63 rfl rfl | exact EX.storeAgg H rfl rfl (i := 2) rfl (by simp [isCell]) (by simp) sz63 rfl rfl) ?_
        rintro _ w H
        have hS : Hp w0 w ([(bs, cel s.v 39)] :: F) := by first | exact H | exact H.drop | exact H.drop.drop | exact H.drop.drop.drop | exact H.drop.drop.drop.drop | exact H.drop.drop.drop.drop.drop | exact H.drop.drop.drop.drop.drop.drop | exact H.drop.drop.drop.drop.drop.drop.drop | exact H.drop.drop.drop.drop.drop.drop.drop.drop
        refine ⟨hS, ?_⟩
        refine JH.take 3 (listed' := [true, true, true, true]) rfl (by kernel_rfl) (by kernel_rfl) (by kernel_rfl) rfl trivial (fun w H => RX.assign) hS ?_
        refine JH.done (by kernel_rfl) ?_
        first | refine J.rettct (x := .slice _ _ _) (y := .bool _) Tryd.func33 rfl H rfl (i := 0) rfl rfl ag63 rfl rfl ?_ | refine J.rettct (x := .slice _ _ _) (y := .bool _) Tryd.func33 rfl H rfl (i := 1) rfl rfl ag63 rfl rfl ?_ | refine J.rettct (x := .slice _ _ _) (y := .bool _) Tryd.func33 rfl H rfl (i := 2) rfl rfl ag63 rfl rfl ?_
        first
        | exact ⟨_, rfl, none, 0, [], by simp_all [rdsN, rds, wr, ownB, Cl.v, setN], by simp_all [rdsN, rdsV, rds, OwnSl], (H.drop.drop).nil⟩
        | exact ⟨_, rfl, some ⟨br, 0, none⟩, 1, _, by simp_all [rdsN, rds, wr, ownB, Cl.v, setN], by simp_all [rdsN, rdsV, rds, rdV, Cl.v, OwnSl] <;> exact ⟨_, rfl, rfl, rfl⟩, ((H.pull 1 rfl).drop.pull 1 rfl).drop⟩
      · skip
        refine J.region ?_
        refine JL.go trivial (RX.eq rfl rfl) ?_
        refine JL.go trivial (RX.assignv (v := Value.bool _) rfl) ?_
        refine JL.nil ?_
        refine J.cond_d rfl (fun h3 => ?_) (fun h3 => ?_)
        · skip
          refine J.seq ?_
          refine J.held (fun w => Hp w0 w ([(bs, cel s.v 39)] :: F)) hmix fun w hs => ?_
          replace H := H.same hs; clear hs
          have hS : Hp w0 w ([(bs, cel s.v 39)] :: F) := by first | exact H | exact H.drop | exact H.drop.drop | exact H.drop.drop.drop | exact H.drop.drop.drop.drop | exact H.drop.drop.drop.drop.drop | exact H.drop.drop.drop.drop.drop.drop | exact H.drop.drop.drop.drop.drop.drop.drop | exact H.drop.drop.drop.drop.drop.drop.drop.drop
          refine JH.take 1 (listed' := [false, true, false, false]) rfl (by kernel_rfl) (by kernel_rfl) (by kernel_rfl) rfl trivial (fun w H => RX.assign) hS ?_
          refine JH.all [0] (by kernel_rfl) (by decide) ?_
          refine JHO.go (listed' := [true, true, false, false]) rfl rfl trivial (by first | exact RX.loadAgg H rfl (i := 0) rfl rfl ag63 | exact RX.loadAgg H rfl (i := 1) rfl rfl ag63 | exact RX.loadAgg H rfl (i := 2) rfl rfl ag63) hS ?_
          refine JH.all [2] (by kernel_rfl) (by decide) ?_
          refine JHO.does (listed' := [true, true, true, false]) rfl rfl trivial (by first | exact EX.storeAgg H rfl rfl (i := 0) rfl (by simp [isCell]) (by simp) sz63 rfl rfl | exact EX.storeAgg H rfl rfl (i := 1) rfl (by simp [isCell]) (by simp) sz63 rfl rfl | exact EX.storeAgg H rfl rfl (i := 2) rfl (by simp [isCell]) (by simp) sz63 rfl rfl) ?_
          rintro _ w H
          have hS : Hp w0 w ([(bs, cel s.v 39)] :: F) := by first | exact H | exact H.drop | exact H.drop.drop | exact H.drop.drop.drop | exact H.drop.drop.drop.drop | exact H.drop.drop.drop.drop.drop | exact H.drop.drop.drop.drop.drop.drop | exact H.drop.drop.drop.drop.drop.drop.drop | exact H.drop.drop.drop.drop.drop.drop.drop.drop
          refine ⟨hS, ?_⟩
          refine JH.take 3 (listed' := [true, true, true, true]) rfl (by kernel_rfl) (by kernel_rfl) (by kernel_rfl) rfl trivial (fun w H => RX.assign) hS ?_
          refine JH.done (by kernel_rfl) ?_
          first | refine J.rettct (x := .slice _ _ _) (y := .bool _) Tryd.func33 rfl H rfl (i := 0) rfl rfl ag63 rfl rfl ?_ | refine J.rettct (x := .slice _ _ _) (y := .bool _) Tryd.func33 rfl H rfl (i := 1) rfl rfl ag63 rfl rfl ?_ | refine J.rettct (x := .slice _ _ _) (y := .bool _) Tryd.func33 rfl H rfl (i := 2) rfl rfl ag63 rfl rfl ?_
          first
          | exact ⟨_, rfl, none, 0, [], by simp_all [rdsN, rds, wr, ownB, Cl.v, setN], by simp_all [rdsN, rdsV, rds, OwnSl], (H.drop.drop).nil⟩
          | exact ⟨_, rfl, some ⟨br, 0, none⟩, 1, _, by simp_all [rdsN, rds, wr, ownB, Cl.v, setN], by simp_all [rdsN, rdsV, rds, rdV, Cl.v, OwnSl] <;> exact ⟨_, rfl, rfl, rfl⟩, ((H.pull 1 rfl).drop.pull 1 rfl).drop⟩
        · skip
          refine J.seq ?_
          refine J.region ?_
          refine JL.go trivial (RX.eq rfl rfl) ?_
          refine JL.go trivial (RX.assignv (v := Value.bool _) rfl) ?_
          refine JL.nil ?_
          refine J.cond_d rfl (fun h6 => ?_) (fun h6 => ?_)
          · skip
            refine J.seq ?_
            refine J.held (fun w => Hp w0 w ([(bs, cel s.v 39)] :: F)) hmix fun w hs => ?_
            replace H := H.same hs; clear hs
            have hS : Hp w0 w ([(bs, cel s.v 39)] :: F) := by first | exact H | exact H.drop | exact H.drop.drop | exact H.drop.drop.drop | exact H.drop.drop.drop.drop | exact H.drop.drop.drop.drop.drop | exact H.drop.drop.drop.drop.drop.drop | exact H.drop.drop.drop.drop.drop.drop.drop | exact H.drop.drop.drop.drop.drop.drop.drop.drop
            refine JH.take 0 (listed' := [true, false, false, false, false, false, false, false, false, false, false, false, false]) rfl (by kernel_rfl) (by kernel_rfl) (by kernel_rfl) rfl trivial (fun w H => RX.fieldAddr rfl fo39_2 rfl) hS ?_
            refine JH.take 1 (listed' := [true, true, false, false, false, false, false, false, false, false, false, false, false]) rfl (by kernel_rfl) (by kernel_rfl) (by kernel_rfl) rfl trivial (fun w H => by first | exact RX.load H rfl (i := 0) rfl rfl one3 | exact RX.load H rfl (i := 1) rfl rfl one3 | exact RX.load H rfl (i := 2) rfl rfl one3) hS ?_
            refine JH.take 2 (listed' := [true, true, true, false, false, false, false, false, false, false, false, false, false]) rfl (by kernel_rfl) (by kernel_rfl) (by kernel_rfl) rfl trivial (fun w H => RX.fieldAddr rfl fo39_3 rfl) hS ?_
            refine JH.take 3 (listed' := [true, true, true, true, false, false, false, false, false, false, false, false, false]) rfl (by kernel_rfl) (by kernel_rfl) (by kernel_rfl) rfl trivial (fun w H => by first | exact RX.load H rfl (i := 0) rfl rfl one3 | exact RX.load H rfl (i := 1) rfl rfl one3 | exact RX.load H rfl (i := 2) rfl rfl one3) hS ?_
            refine JH.take 4 (listed' := [true, true, true, true, true, false, false, false, false, false, false, false, false]) rfl (by kernel_rfl) (by kernel_rfl) (by kernel_rfl) rfl trivial (fun w H => RX.fieldAddr rfl fo39_5 rfl) hS ?_
            refine JH.take 5 (listed' := [true, true, true, true, true, true, false, false, false, false, false, false, false]) rfl (by kernel_rfl) (by kernel_rfl) (by kernel_rfl) rfl trivial (fun w H => by first | exact RX.load H rfl (i := 0) rfl rfl one3 | exact RX.load H rfl (i := 1) rfl rfl one3 | exact RX.load H rfl (i := 2) rfl rfl one3) hS ?_
            refine JH.take 6 (listed' := [true, true, true, true, true, true, true, false, false, false, false, false, false]) rfl (by kernel_rfl) (by kernel_rfl) (by kernel_rfl) rfl trivial (fun w H => RX.build (pv := [(0, .int .i64 s.src), (1, .int .i64 s.jump), (2, .int .i64 s.n)]) (res := [.int .i64 s.src, .int .i64 s.jump, .int .i64 s.n]) rfl (by kernel_rfl)) hS ?_
            refine JH.take 7 (listed' := [true, true, true, true, true, true, true, true, false, false, false, false, false]) rfl (by kernel_rfl) (by kernel_rfl) (by kernel_rfl) rfl trivial (fun w H => RX.build (pv := [(0, .agg #[.int .i64 s.src, .int .i64 s.jump, .int .i64 s.n]), (1, .bool true)]) (res := [.int .i64 s.src, .int .i64 s.jump, .int .i64 s.n, .bool true]) rfl (by kernel_rfl)) hS ?_
            refine JH.all [8, 9] (by kernel_rfl) (by decide) ?_
            refine ⟨?_, ?_⟩
            · skip
              refine JHO.does (listed' := [true, true, true, true, true, true, true, true, true, false, false, false, false]) rfl rfl trivial (EX.buildSlice (pv := [(0, .agg #[.int .i64 s.src, .int .i64 s.jump, .int .i64 s.n, .bool true])]) (l := [.int .i64 s.src, .int .i64 s.jump, .int .i64 s.n, .bool true]) (e := 70) H rfl (by kernel_rfl)) ?_
              rintro _ w ⟨br, rfl, H⟩
              have hS : Hp w0 w ([(bs, cel s.v 39)] :: F) := by first | exact H | exact H.drop | exact H.drop.drop | exact H.drop.drop.drop | exact H.drop.drop.drop.drop | exact H.drop.drop.drop.drop.drop | exact H.drop.drop.drop.drop.drop.drop | exact H.drop.drop.drop.drop.drop.drop.drop | exact H.drop.drop.drop.drop.drop.drop.drop.drop
              refine ⟨hS, ?_⟩
              refine JH.take 10 (listed' := [true, true, true, true, true, true, true, true, true, false, true, false, false]) rfl (by kernel_rfl) (by kernel_rfl) (by kernel_rfl) rfl trivial (fun w H => RX.assignv (v := Value.slice _ _ _) rfl) hS ?_
              refine JH.all [9] (by kernel_rfl) (by decide) ?_
              refine JHO.go (listed' := [true, true, true, true, true, true, true, true, true, true, true, false, false]) rfl rfl trivial (by first | exact RX.loadAgg H rfl (i := 0) rfl rfl ag63 | exact RX.loadAgg H rfl (i := 1) rfl rfl ag63 | exact RX.loadAgg H rfl (i := 2) rfl rfl ag63) hS ?_
              refine JH.all [11] (by kernel_rfl) (by decide) ?_
              refine JHO.does (listed' := [true, true, true, true, true, true, true, true, true, true, true, true, false]) rfl rfl trivial (by first | exact EX.storeAgg H rfl rfl (i := 0) rfl (by simp [isCell]) (by simp) sz63 rfl rfl | exact EX.storeAgg H rfl rfl (i := 1) rfl (by simp [isCell]) (by simp) sz63 rfl rfl | exact EX.storeAgg H rfl rfl (i := 2) rfl (by simp [isCell]) (by simp) sz63 rfl rfl) ?_
              rintro _ w H
              have hS : Hp w0 w ([(bs, cel s.v 39)] :: F) := by first | exact H | exact H.drop | exact H.drop.drop | exact H.drop.drop.drop | exact H.drop.drop.drop.drop | exact H.drop.drop.drop.drop.drop | exact H.drop.drop.drop.drop.drop.drop | exact H.drop.drop.drop.drop.drop.drop.drop | exact H.drop.drop.drop.drop.drop.drop.drop.drop
              refine ⟨hS, ?_⟩
              refine JH.take 12 (listed' := [true, true, true, true, true, true, true, true, true, true, true, true, true]) rfl (by kernel_rfl) (by kernel_rfl) (by kernel_rfl) rfl trivial (fun w H => RX.assign) hS ?_
              refine JH.done (by kernel_rfl) ?_
              first | refine J.rettct (x := .slice _ _ _) (y := .bool _) Tryd.func33 rfl H rfl (i := 0) rfl rfl ag63 rfl rfl ?_ | refine J.rettct (x := .slice _ _ _) (y := .bool _) Tryd.func33 rfl H rfl (i := 1) rfl rfl ag63 rfl rfl ?_ | refine J.rettct (x := .slice _ _ _) (y := .bool _) Tryd.func33 rfl H rfl (i := 2) rfl rfl ag63 rfl rfl ?_
              first
              | exact ⟨_, rfl, none, 0, [], by simp_all [rdsN, rds, wr, ownB, Cl.v, setN], by simp_all [rdsN, rdsV, rds, OwnSl], (H.drop.drop).nil⟩
              | exact ⟨_, rfl, some ⟨br, 0, none⟩, 1, _, by simp_all [rdsN, rds, wr, ownB, Cl.v, setN], by simp_all [rdsN, rdsV, rds, rdV, Cl.v, OwnSl] <;> exact ⟨_, rfl, rfl, rfl⟩, ((H.pull 1 rfl).drop.pull 1 rfl).drop⟩
            · skip
              refine JHO.go (listed' := [true, true, true, true, true, true, true, true, false, true, false, false, false]) rfl rfl trivial (by first | exact RX.loadAgg H rfl (i := 0) rfl rfl ag63 | exact RX.loadAgg H rfl (i := 1) rfl rfl ag63 | exact RX.loadAgg H rfl (i := 2) rfl rfl ag63) hS ?_
              refine JH.all [8] (by kernel_rfl) (by decide) ?_
              refine JHO.does (listed' := [true, true, true, true, true, true, true, true, true, true, false, false, false]) rfl rfl trivial (EX.buildSlice (pv := [(0, .agg #[.int .i64 s.src, .int .i64 s.jump, .int .i64 s.n, .bool true])]) (l := [.int .i64 s.src, .int .i64 s.jump, .int .i64 s.n, .bool true]) (e := 70) H rfl (by kernel_rfl)) ?_
              rintro _ w ⟨br, rfl, H⟩
              have hS : Hp w0 w ([(bs, cel s.v 39)] :: F) := by first | exact H | exact H.drop | exact H.drop.drop | exact H.drop.drop.drop | exact H.drop.drop.drop.drop | exact H.drop.drop.drop.drop.drop | exact H.drop.drop.drop.drop.drop.drop | exact H.drop.drop.drop.drop.drop.drop.drop | exact H.drop.drop.drop.drop.drop.drop.drop.drop
              refine ⟨hS, ?_⟩
              refine JH.take 10 (listed' := [true, true, true, true, true, true, true, true, true, true, true, false, false]) rfl (by kernel_rfl) (by kernel_rfl) (by kernel_rfl) rfl trivial (fun w H => RX.assignv (v := Value.slice _ _ _) rfl) hS ?_
              refine JH.all [11] (by kernel_rfl) (by decide) ?_
              refine JHO.does (listed' := [true, true, true, true, true, true, true, true, true, true, true, true, false]) rfl rfl trivial (by first | exact EX.storeAgg H rfl rfl (i := 0) rfl (by simp [isCell]) (by simp) sz63 rfl rfl | exact EX.storeAgg H rfl rfl (i := 1) rfl (by simp [isCell]) (by simp) sz63 rfl rfl | exact EX.storeAgg H rfl rfl (i := 2) rfl (by simp [isCell]) (by simp) sz63 rfl rfl) ?_
              rintro _ w H
              have hS : Hp w0 w ([(bs, cel s.v 39)] :: F) := by first | exact H | exact H.drop | exact H.drop.drop | exact H.drop.drop.drop | exact H.drop.drop.drop.drop | exact H.drop.drop.drop.drop.drop | exact H.drop.drop.drop.drop.drop.drop | exact H.drop.drop.drop.drop.drop.drop.drop | exact H.drop.drop.drop.drop.drop.drop.drop.drop
              refine ⟨hS, ?_⟩
              refine JH.take 12 (listed' := [true, true, true, true, true, true, true, true, true, true, true, true, true]) rfl (by kernel_rfl) (by kernel_rfl) (by kernel_rfl) rfl trivial (fun w H => RX.assign) hS ?_
              refine JH.done (by kernel_rfl) ?_
              first | refine J.rettct (x := .slice _ _ _) (y := .bool _) Tryd.func33 rfl H rfl (i := 0) rfl rfl ag63 rfl rfl ?_ | refine J.rettct (x := .slice _ _ _) (y := .bool _) Tryd.func33 rfl H rfl (i := 1) rfl rfl ag63 rfl rfl ?_ | refine J.rettct (x := .slice _ _ _) (y := .bool _) Tryd.func33 rfl H rfl (i := 2) rfl rfl ag63 rfl rfl ?_
              first
              | exact ⟨_, rfl, none, 0, [], by simp_all [rdsN, rds, wr, ownB, Cl.v, setN], by simp_all [rdsN, rdsV, rds, OwnSl], (H.drop.drop).nil⟩
              | exact ⟨_, rfl, some ⟨br, 0, none⟩, 1, _, by simp_all [rdsN, rds, wr, ownB, Cl.v, setN], by simp_all [rdsN, rdsV, rds, rdV, Cl.v, OwnSl] <;> exact ⟨_, rfl, rfl, rfl⟩, ((H.pull 1 rfl).drop.pull 1 rfl).drop⟩
          · skip
            refine J.seq ?_
            refine J.region ?_
            refine JL.go trivial (RX.eq rfl rfl) ?_
            refine JL.go trivial (RX.assignv (v := Value.bool _) rfl) ?_
            refine JL.nil ?_
            refine J.cond_d rfl (fun h9 => ?_) (fun h9 => ?_)
            · skip
              refine J.seq ?_
              refine J.held (fun w => Hp w0 w ([(bs, cel s.v 39)] :: F)) hmix fun w hs => ?_
              replace H := H.same hs; clear hs
              have hS : Hp w0 w ([(bs, cel s.v 39)] :: F) := by first | exact H | exact H.drop | exact H.drop.drop | exact H.drop.drop.drop | exact H.drop.drop.drop.drop | exact H.drop.drop.drop.drop.drop | exact H.drop.drop.drop.drop.drop.drop | exact H.drop.drop.drop.drop.drop.drop.drop | exact H.drop.drop.drop.drop.drop.drop.drop.drop
              refine JH.take 0 (listed' := [true, false, false, false, false, false, false, false, false, false, false]) rfl (by kernel_rfl) (by kernel_rfl) (by kernel_rfl) rfl trivial (fun w H => RX.fieldAddr rfl fo39_2 rfl) hS ?_
              refine JH.take 1 (listed' := [true, true, false, false, false, false, false, false, false, false, false]) rfl (by kernel_rfl) (by kernel_rfl) (by kernel_rfl) rfl trivial (fun w H => by first | exact RX.load H rfl (i := 0) rfl rfl one3 | exact RX.load H rfl (i := 1) rfl rfl one3 | exact RX.load H rfl (i := 2) rfl rfl one3) hS ?_
              refine JH.take 2 (listed' := [true, true, true, false, false, false, false, false, false, false, false]) rfl (by kernel_rfl) (by kernel_rfl) (by kernel_rfl) rfl trivial (fun w H => RX.fieldAddr rfl fo39_4 rfl) hS ?_
              refine JH.take 3 (listed' := [true, true, true, true, false, false, false, false, false, false, false]) rfl (by kernel_rfl) (by kernel_rfl) (by kernel_rfl) rfl trivial (fun w H => by first | exact RX.load H rfl (i := 0) rfl rfl one3 | exact RX.load H rfl (i := 1) rfl rfl one3 | exact RX.load H rfl (i := 2) rfl rfl one3) hS ?_
              refine JH.take 4 (listed' := [true, true, true, true, true, false, false, false, false, false, false]) rfl (by kernel_rfl) (by kernel_rfl) (by kernel_rfl) rfl trivial (fun w H => RX.build (pv := [(0, .int .i64 s.src), (1, .int .i64 1), (2, .int .i64 s.count)]) (res := [.int .i64 s.src, .int .i64 1, .int .i64 s.count]) rfl (by kernel_rfl)) hS ?_
              refine JH.take 5 (listed' := [true, true, true, true, true, true, false, false, false, false, false]) rfl (by kernel_rfl) (by kernel_rfl) (by kernel_rfl) rfl trivial (fun w H => RX.build (pv := [(0, .agg #[.int .i64 s.src, .int .i64 1, .int .i64 s.count]), (1, .bool false)]) (res := [.int .i64 s.src, .int .i64 1, .int .i64 s.count, .bool false]) rfl (by kernel_rfl)) hS ?_
              refine JH.all [6, 7] (by kernel_rfl) (by decide) ?_
              refine ⟨?_, ?_⟩
              · skip
                refine JHO.does (listed' := [true, true, true, true, true, true, true, false, false, false, false]) rfl rfl trivial (EX.buildSlice (pv := [(0, .agg #[.int .i64 s.src, .int .i64 1, .int .i64 s.count, .bool false])]) (l := [.int .i64 s.src, .int .i64 1, .int .i64 s.count, .bool false]) (e := 70) H rfl (by kernel_rfl)) ?_
                rintro _ w ⟨br, rfl, H⟩
                have hS : Hp w0 w ([(bs, cel s.v 39)] :: F) := by first | exact H | exact H.drop | exact H.drop.drop | exact H.drop.drop.drop | exact H.drop.drop.drop.drop | exact H.drop.drop.drop.drop.drop | exact H.drop.drop.drop.drop.drop.drop | exact H.drop.drop.drop.drop.drop.drop.drop | exact H.drop.drop.drop.drop.drop.drop.drop.drop
                refine ⟨hS, ?_⟩
                refine JH.take 8 (listed' := [true, true, true, true, true, true, true, false, true, false, false]) rfl (by kernel_rfl) (by kernel_rfl) (by kernel_rfl) rfl trivial (fun w H => RX.assignv (v := Value.slice _ _ _) rfl) hS ?_
                refine JH.all [7] (by kernel_rfl) (by decide) ?_
                refine JHO.go (listed' := [true, true, true, true, true, true, true, true, true, false, false]) rfl rfl trivial (by first | exact RX.loadAgg H rfl (i := 0) rfl rfl ag63 | exact RX.loadAgg H rfl (i := 1) rfl rfl ag63 | exact RX.loadAgg H rfl (i := 2) rfl rfl ag63) hS ?_
                refine JH.all [9] (by kernel_rfl) (by decide) ?_
                refine JHO.does (listed' := [true, true, true, true, true, true, true, true, true, true, false]) rfl rfl trivial (by first | exact EX.storeAgg H rfl rfl (i := 0) rfl (by simp [isCell]) (by simp) sz63 rfl rfl | exact EX.storeAgg H rfl rfl (i := 1) rfl (by simp [isCell]) (by simp) sz63 rfl rfl | exact EX.storeAgg H rfl rfl (i := 2) rfl (by simp [isCell]) (by simp) sz63 rfl rfl) ?_
                rintro _ w H
                have hS : Hp w0 w ([(bs, cel s.v 39)] :: F) := by first | exact H | exact H.drop | exact H.drop.drop | exact H.drop.drop.drop | exact H.drop.drop.drop.drop | exact H.drop.drop.drop.drop.drop | exact H.drop.drop.drop.drop.drop.drop | exact H.drop.drop.drop.drop.drop.drop.drop | exact H.drop.drop.drop.drop.drop.drop.drop.drop
                refine ⟨hS, ?_⟩
                refine JH.take 10 (listed' := [true, true, true, true, true, true, true, true, true, true, true]) rfl (by kernel_rfl) (by kernel_rfl) (by kernel_rfl) rfl trivial (fun w H => RX.assign) hS ?_
                refine JH.done (by kernel_rfl) ?_
                first | refine J.rettct (x := .slice _ _ _) (y := .bool _) Tryd.func33 rfl H rfl (i := 0) rfl rfl ag63 rfl rfl ?_ | refine J.rettct (x := .slice _ _ _) (y := .bool _) Tryd.func33 rfl H rfl (i := 1) rfl rfl ag63 rfl rfl ?_ | refine J.rettct (x := .slice _ _ _) (y := .bool _) Tryd.func33 rfl H rfl (i := 2) rfl rfl ag63 rfl rfl ?_
                first
                | exact ⟨_, rfl, none, 0, [], by simp_all [rdsN, rds, wr, ownB, Cl.v, setN], by simp_all [rdsN, rdsV, rds, OwnSl], (H.drop.drop).nil⟩
                | exact ⟨_, rfl, some ⟨br, 0, none⟩, 1, _, by simp_all [rdsN, rds, wr, ownB, Cl.v, setN], by simp_all [rdsN, rdsV, rds, rdV, Cl.v, OwnSl] <;> exact ⟨_, rfl, rfl, rfl⟩, ((H.pull 1 rfl).drop.pull 1 rfl).drop⟩
              · skip
                refine JHO.go (listed' := [true, true, true, true, true, true, false, true, false, false, false]) rfl rfl trivial (by first | exact RX.loadAgg H rfl (i := 0) rfl rfl ag63 | exact RX.loadAgg H rfl (i := 1) rfl rfl ag63 | exact RX.loadAgg H rfl (i := 2) rfl rfl ag63) hS ?_
                refine JH.all [6] (by kernel_rfl) (by decide) ?_
                refine JHO.does (listed' := [true, true, true, true, true, true, true, true, false, false, false]) rfl rfl trivial (EX.buildSlice (pv := [(0, .agg #[.int .i64 s.src, .int .i64 1, .int .i64 s.count, .bool false])]) (l := [.int .i64 s.src, .int .i64 1, .int .i64 s.count, .bool false]) (e := 70) H rfl (by kernel_rfl)) ?_
                rintro _ w ⟨br, rfl, H⟩
                have hS : Hp w0 w ([(bs, cel s.v 39)] :: F) := by first | exact H | exact H.drop | exact H.drop.drop | exact H.drop.drop.drop | exact H.drop.drop.drop.drop | exact H.drop.drop.drop.drop.drop | exact H.drop.drop.drop.drop.drop.drop | exact H.drop.drop.drop.drop.drop.drop.drop | exact H.drop.drop.drop.drop.drop.drop.drop.drop
                refine ⟨hS, ?_⟩
                refine JH.take 8 (listed' := [true, true, true, true, true, true, true, true, true, false, false]) rfl (by kernel_rfl) (by kernel_rfl) (by kernel_rfl) rfl trivial (fun w H => RX.assignv (v := Value.slice _ _ _) rfl) hS ?_
                refine JH.all [9] (by kernel_rfl) (by decide) ?_
                refine JHO.does (listed' := [true, true, true, true, true, true, true, true, true, true, false]) rfl rfl trivial (by first | exact EX.storeAgg H rfl rfl (i := 0) rfl (by simp [isCell]) (by simp) sz63 rfl rfl | exact EX.storeAgg H rfl rfl (i := 1) rfl (by simp [isCell]) (by simp) sz63 rfl rfl | exact EX.storeAgg H rfl rfl (i := 2) rfl (by simp [isCell]) (by simp) sz63 rfl rfl) ?_
                rintro _ w H
                have hS : Hp w0 w ([(bs, cel s.v 39)] :: F) := by first | exact H | exact H.drop | exact H.drop.drop | exact H.drop.drop.drop | exact H.drop.drop.drop.drop | exact H.drop.drop.drop.drop.drop | exact H.drop.drop.drop.drop.drop.drop | exact H.drop.drop.drop.drop.drop.drop.drop | exact H.drop.drop.drop.drop.drop.drop.drop.drop
                refine ⟨hS, ?_⟩
                refine JH.take 10 (listed' := [true, true, true, true, true, true, true, true, true, true, true]) rfl (by kernel_rfl) (by kernel_rfl) (by kernel_rfl) rfl trivial (fun w H => RX.assign) hS ?_
                refine JH.done (by kernel_rfl) ?_
                first | refine J.rettct (x := .slice _ _ _) (y := .bool _) Tryd.func33 rfl H rfl (i := 0) rfl rfl ag63 rfl rfl ?_ | refine J.rettct (x := .slice _ _ _) (y := .bool _) Tryd.func33 rfl H rfl (i := 1) rfl rfl ag63 rfl rfl ?_ | refine J.rettct (x := .slice _ _ _) (y := .bool _) Tryd.func33 rfl H rfl (i := 2) rfl rfl ag63 rfl rfl ?_
                first
                | exact ⟨_, rfl, none, 0, [], by simp_all [rdsN, rds, wr, ownB, Cl.v, setN], by simp_all [rdsN, rdsV, rds, OwnSl], (H.drop.drop).nil⟩
                | exact ⟨_, rfl, some ⟨br, 0, none⟩, 1, _, by simp_all [rdsN, rds, wr, ownB, Cl.v, setN], by simp_all [rdsN, rdsV, rds, rdV, Cl.v, OwnSl] <;> exact ⟨_, rfl, rfl, rfl⟩, ((H.pull 1 rfl).drop.pull 1 rfl).drop⟩
            · skip
              refine J.skip ?_
              refine J.inBlock ?_
              refine J.seq ?_
              refine J.held (fun w => Hp w0 w ([(bs, cel s.v 39)] :: F)) hmix fun w hs => ?_
              replace H := H.same hs; clear hs
              have hS : Hp w0 w ([(bs, cel s.v 39)] :: F) := by first | exact H | exact H.drop | exact H.drop.drop | exact H.drop.drop.drop | exact H.drop.drop.drop.drop | exact H.drop.drop.drop.drop.drop | exact H.drop.drop.drop.drop.drop.drop | exact H.drop.drop.drop.drop.drop.drop.drop | exact H.drop.drop.drop.drop.drop.drop.drop.drop
              refine JH.take 1 (listed' := [false, true, false, false]) rfl (by kernel_rfl) (by kernel_rfl) (by kernel_rfl) rfl trivial (fun w H => RX.assign) hS ?_
              refine JH.all [0] (by kernel_rfl) (by decide) ?_
              refine JHO.go (listed' := [true, true, false, false]) rfl rfl trivial (by first | exact RX.loadAgg H rfl (i := 0) rfl rfl ag63 | exact RX.loadAgg H rfl (i := 1) rfl rfl ag63 | exact RX.loadAgg H rfl (i := 2) rfl rfl ag63) hS ?_
              refine JH.all [2] (by kernel_rfl) (by decide) ?_
              refine JHO.does (listed' := [true, true, true, false]) rfl rfl trivial (by first | exact EX.storeAgg H rfl rfl (i := 0) rfl (by simp [isCell]) (by simp) sz63 rfl rfl | exact EX.storeAgg H rfl rfl (i := 1) rfl (by simp [isCell]) (by simp) sz63 rfl rfl | exact EX.storeAgg H rfl rfl (i := 2) rfl (by simp [isCell]) (by simp) sz63 rfl rfl) ?_
              rintro _ w H
              have hS : Hp w0 w ([(bs, cel s.v 39)] :: F) := by first | exact H | exact H.drop | exact H.drop.drop | exact H.drop.drop.drop | exact H.drop.drop.drop.drop | exact H.drop.drop.drop.drop.drop | exact H.drop.drop.drop.drop.drop.drop | exact H.drop.drop.drop.drop.drop.drop.drop | exact H.drop.drop.drop.drop.drop.drop.drop.drop
              refine ⟨hS, ?_⟩
              refine JH.take 3 (listed' := [true, true, true, true]) rfl (by kernel_rfl) (by kernel_rfl) (by kernel_rfl) rfl trivial (fun w H => RX.assign) hS ?_
              refine JH.done (by kernel_rfl) ?_
              first | refine J.rettct (x := .slice _ _ _) (y := .bool _) Tryd.func33 rfl H rfl (i := 0) rfl rfl ag63 rfl rfl ?_ | refine J.rettct (x := .slice _ _ _) (y := .bool _) Tryd.func33 rfl H rfl (i := 1) rfl rfl ag63 rfl rfl ?_ | refine J.rettct (x := .slice _ _ _) (y := .bool _) Tryd.func33 rfl H rfl (i := 2) rfl rfl ag63 rfl rfl ?_
              first
              | exact ⟨_, rfl, none, 0, [], by simp_all [rdsN, rds, wr, ownB, Cl.v, setN], by simp_all [rdsN, rdsV, rds, OwnSl], (H.drop.drop).nil⟩
              | exact ⟨_, rfl, some ⟨br, 0, none⟩, 1, _, by simp_all [rdsN, rds, wr, ownB, Cl.v, setN], by simp_all [rdsN, rdsV, rds, rdV, Cl.v, OwnSl] <;> exact ⟨_, rfl, rfl, rfl⟩, ((H.pull 1 rfl).drop.pull 1 rfl).drop⟩
end Go.Proofs.YtafhajgebhicdaaDoor

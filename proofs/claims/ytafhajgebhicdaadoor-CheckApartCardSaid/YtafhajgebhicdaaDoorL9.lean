/- CheckPrograms, CheckActs. -/
import Derived.Test.YtafhajgebhicdaaDoorL8
namespace Go.Proofs.YtafhajgebhicdaaDoor
open Go Go.Eng
set_option maxRecDepth 100000
set_option linter.unusedVariables false
set_option linter.unusedSimpArgs false

def zf (N C L : Nat) (j : Nat) : Stp := zeroS (if j = N then (L : Int) else C)
def zl (N C L k : Nat) : List Stp := (List.range k).map (zf N C L)
theorem zl_succ (N C L k : Nat) : zl N C L (k + 1) = zl N C L k ++ [zf N C L k] := by simp [zl, List.range_succ]
theorem zl_len (N C L k : Nat) : (zl N C L k).length = k := by simp [zl]
theorem zeroS_ok {c : Int} (h0 : 1 ≤ c) (h1 : c ≤ 262144) : (zeroS c).Ok := by
  constructor <;> simp only [zeroS, i64ok] <;> omega
theorem zl_ok {N C L k : Nat} (hC : 1 ≤ C ∧ C ≤ 262144) (hL : 1 ≤ L ∧ L ≤ 262144) : ∀ s ∈ zl N C L k, s.Ok := by
  intro s hs
  obtain ⟨j, _, rfl⟩ := List.mem_map.1 hs
  unfold zf
  split <;> exact zeroS_ok (by omega) (by omega)
theorem fault_zero_snoc {l : List Stp} {c : Int} (hl : l.length < 65536) (h0 : 1 ≤ c) (h1 : c ≤ 262144) : faultP (l ++ [zeroS c]) 262144 = if 67108864 < cnts l + c ∧ faultP l 262144 < 0 then (l.length : Int) else faultP l 262144 := by
  have hg := zero_good h0 h1
  have hr := fault_bd l 262144
  have hc : (zeroS c).count = c := rfl
  unfold faultP at hr ⊢
  rw [faultA_snoc, hc, Nat.zero_add, Int.zero_add]
  by_cases hn : faultA 262144 l 0 0 = -1
  · rw [if_pos hn, if_neg (by rw [hg]; simp; omega), hn]
    by_cases hm : 67108864 < cnts l + c
    · rw [if_pos hm, if_pos ⟨hm, by decide⟩]
    · rw [if_neg hm, if_neg (fun h => hm h.1)]
  · rw [if_neg hn, if_neg]
    rintro ⟨_, h⟩
    omega
theorem cnts_snoc (l : List Stp) (s : Stp) : cnts (l ++ [s]) = cnts l + s.count := by rw [cnts_app]; simp [cnts]
theorem head_one : headB 1 262144 0 0 = true := by decide
theorem cnts_one (s : Stp) : cnts [s] = s.count := by simp [cnts]

set_option maxHeartbeats 1600000 in
theorem CheckPrograms_b {w0 w : World} {F : List Seg} {E : Nat → Value} {Q : Nat → Addr} (H : Hp w0 w F) (hE : Errs F E Q) (hT : SlAt F (some ⟨19, 0, none⟩) tableC) {p : Prg} {pp : Option Addr} {pc : Nat} (hst : SlAt F pp (stepsV p.steps)) (hp : p.Ok) : Ret Tryd.prog 3 [.agg (prgV p pp p.steps.length pc).toArray] w fun v w' => v = .bool true ∧ Hp w0 w' F := by
  refine Calls.of_J (n := 68) Tryd.func3 rfl rfl rfl ?_
  refine J.seq ?_
  refine J.region ?_
  refine JL.does trivial (EX.box (v := Value.agg _) H rfl rfl) ?_
  rintro _ w ⟨b1, rfl, H⟩
  refine JL.go trivial (RX.assign) ?_
  refine JL.nil ?_
  refine J.seq ?_
  refine J.seq ?_
  refine J.region ?_
  refine JL.does trivial (EX.call rfl cl8 rfl ((lives_b H hE.cons hT.cons))) ?_
  rintro _ w ⟨rfl, H⟩
  refine JL.go trivial (RX.not rfl) ?_
  refine JL.nil ?_
  refine J.cond_f rfl rfl ?_
  refine J.skip ?_
  refine J.seq ?_
  refine J.seq ?_
  refine J.region ?_
  refine JL.go trivial (RX.loadAgg H rfl (i := 0) (vs := prgV p pp p.steps.length pc) rfl rfl ag24) ?_
  refine JL.does trivial (EX.call rfl cl9 rfl ((work_b H hst.cons hp))) ?_
  rintro _ w ⟨rfl, H⟩
  refine JL.go trivial (RX.gt rfl rfl) ?_
  refine JL.nil ?_
  refine J.cond_d rfl (fun hw => ?_) (fun hw => ?_)
  · skip
    refine J.seq ?_
    refine J.region ?_
    refine JL.go trivial (RX.assign) ?_
    refine JL.nil ?_
    refine J.ret1 (v := Value.bool _) Tryd.func3 rfl rfl ?_
    exact ⟨_, rfl, rfl, H.drop⟩
  · skip
    refine J.skip ?_
    refine J.seq ?_
    refine J.region ?_
    refine JL.go trivial (RX.loadAgg H rfl (i := 0) (vs := prgV p pp p.steps.length pc) rfl rfl ag24) ?_
    refine JL.does trivial (EX.call rfl cl10 rfl ((copied_b H hst.cons hp.num))) ?_
    rintro _ w ⟨fp, fc, fs, rfl, hof, H⟩
    obtain ⟨g, l, rfl, hg⟩ := hof.ptr (by omega)
    have hfl := full_last (l := p.steps)
    have hnum := hp.num
    refine JL.go trivial (RX.movev (v := Value.tuple _) rfl) ?_
    refine JL.go trivial (RX.extract rfl rfl) ?_
    refine JL.go trivial (RX.extract rfl rfl) ?_
    refine JL.does trivial (EX.alloc H zr24 rfl) ?_
    rintro _ w ⟨b3, rfl, H⟩
    refine JL.does trivial (EX.storeAgg H rfl rfl (i := 0) (vs := prgV p (some ⟨g, 0, none⟩) p.steps.length fc) (l' := prgV p (some ⟨g, 0, none⟩) p.steps.length fc) rfl prgV_cell (by simp [prgV]) sz24 rfl rfl) ?_
    rintro _ w H
    refine JL.go trivial (RX.assignv (v := Value.slice _ _ _) rfl) ?_
    refine JL.nil ?_
    refine J.seq ?_
    refine J.region ?_
    refine JL.go trivial (RX.loadAgg H rfl (i := 0) (vs := prgV p (some ⟨g, 0, none⟩) p.steps.length fc) rfl rfl ag24) ?_
    refine JL.does trivial (EX.call rfl cl11 rfl ((Acts_b H hT.cons.cons.cons (hE.at_ 9 (by decide) (by decide)).cons.cons.cons (mine_sl hof ([(b1, cel (prgV p pp p.steps.length pc) 24)] :: F)).cons hp.ow))) ?_
    rintro _ w ⟨rfl, H⟩
    refine JL.go trivial (RX.movev (v := Value.tuple _) rfl) ?_
    refine JL.go trivial (RX.extract rfl rfl) ?_
    refine JL.go trivial (RX.extract (v := errV E (chkP p)) rfl rfl) ?_
    refine JL.go trivial (RX.assignv (v := Value.int _ _) rfl) ?_
    refine JL.go trivial (RX.assignv (v := errV E (chkP p)) rfl) ?_
    refine JL.nil ?_
    refine J.seq ?_
    refine J.region ?_
    refine JL.go trivial (RX.loadAgg H rfl (i := 2) (vs := prgV p pp p.steps.length pc) rfl rfl ag24) ?_
    refine JL.does trivial (EX.call rfl cl12 rfl ((acts_r H hst.cons.cons.cons hp.ow))) ?_
    rintro _ w ⟨rfl, H⟩
    refine JL.go trivial (RX.movev (v := Value.tuple _) rfl) ?_
    refine JL.go trivial (RX.extract rfl rfl) ?_
    refine JL.go trivial (RX.extract rfl rfl) ?_
    refine JL.go trivial (RX.assignv (v := Value.int _ _) rfl) ?_
    refine JL.go trivial (RX.assignv (v := Value.int _ _) rfl) ?_
    refine JL.nil ?_
    refine J.seq ?_
    refine J.quietH H hmix (by kernel_rfl) ?_
    refine JQ.go trivial (fun w H => RX.loadAgg H rfl (i := 0) (vs := prgV p (some ⟨g, 0, none⟩) p.steps.length fc) rfl rfl ag24) ?_
    refine JQ.call trivial (fun w H => run_callq rfl cl14 rfl) (fun w H => (Check_b H hT.cons.cons.cons (hE.at_ 9 (by decide) (by decide)).cons.cons.cons (mine_sl hof ([(b1, cel (prgV p pp p.steps.length pc) 24)] :: F)).cons hp.ow)) ?_
    refine JQ.call trivial (fun w H => run_callq rfl cl13 rfl) (fun w H => (Num_b (n := chkP p) H hE.cons.cons.cons (chkP_le p))) ?_
    refine JQ.go trivial (fun w H => RX.loadAgg H rfl (i := 2) (vs := prgV p pp p.steps.length pc) rfl rfl ag24) ?_
    refine JQ.call trivial (fun w H => run_callq rfl cl15 rfl) (fun w H => (check_r H hst.cons.cons.cons hp.ow)) ?_
    refine JQ.go trivial (fun w H => RX.eq rfl rfl) ?_
    refine JQ.go trivial (fun w H => RX.movev (v := Value.bool _) rfl) ?_
    refine JQ.go ⟨_, rfl, (decide_eq_true rfl)⟩ (fun w H => RX.loadAgg H rfl (i := 0) (vs := prgV p (some ⟨g, 0, none⟩) p.steps.length fc) rfl rfl ag24) ?_
    refine JQ.call ⟨_, rfl, (decide_eq_true rfl)⟩ (fun w H => run_callq rfl cl16 rfl) (fun w H => (Fault_b H hT.cons.cons.cons (hE.at_ 9 (by decide) (by decide)).cons.cons.cons (mine_sl hof ([(b1, cel (prgV p pp p.steps.length pc) 24)] :: F)).cons hp.ow)) ?_
    refine JQ.go ⟨_, rfl, (decide_eq_true rfl)⟩ (fun w H => RX.loadAgg H rfl (i := 2) (vs := prgV p pp p.steps.length pc) rfl rfl ag24) ?_
    refine JQ.call ⟨_, rfl, (decide_eq_true rfl)⟩ (fun w H => run_callq rfl cl17 rfl) (fun w H => (fault_r H hst.cons.cons.cons hp.ow)) ?_
    refine JQ.go ⟨_, rfl, (decide_eq_true rfl)⟩ (fun w H => RX.eq rfl rfl) ?_
    refine JQ.go trivial (fun w H => RX.pick_t rfl (decide_eq_true rfl)) ?_
    refine JQ.go trivial (fun w H => RX.movev (v := Value.bool _) rfl) ?_
    refine JQ.go ⟨_, rfl, (decide_eq_true rfl)⟩ (fun w H => RX.movev (v := Value.int _ _) rfl) ?_
    refine JQ.go ⟨_, rfl, (decide_eq_true rfl)⟩ (fun w H => RX.movev (v := Value.int _ _) rfl) ?_
    refine JQ.go ⟨_, rfl, (decide_eq_true rfl)⟩ (fun w H => RX.eq rfl rfl) ?_
    refine JQ.go trivial (fun w H => RX.pick_t rfl (decide_eq_true rfl)) ?_
    refine JQ.go trivial (fun w H => RX.movev (v := Value.bool _) rfl) ?_
    refine JQ.go ⟨_, rfl, (decide_eq_true rfl)⟩ (fun w H => RX.movev (v := errV E (chkP p)) rfl) ?_
    refine JQ.call ⟨_, rfl, (decide_eq_true rfl)⟩ (fun w H => run_callq rfl cl13 rfl) (fun w H => (Num_b (n := chkP p) H hE.cons.cons.cons (chkP_le p))) ?_
    refine JQ.go ⟨_, rfl, (decide_eq_true rfl)⟩ (fun w H => RX.movev (v := Value.int _ _) rfl) ?_
    refine JQ.go ⟨_, rfl, (decide_eq_true rfl)⟩ (fun w H => RX.eq rfl rfl) ?_
    refine JQ.go trivial (fun w H => RX.pick_t rfl (decide_eq_true rfl)) ?_
    refine JQ.go trivial (fun w H => RX.movev (v := Value.bool _) rfl) ?_
    refine JQ.go ⟨_, rfl, (decide_eq_true rfl)⟩ (fun w H => RX.loadAgg H rfl (i := 0) (vs := prgV p (some ⟨g, 0, none⟩) p.steps.length fc) rfl rfl ag24) ?_
    refine JQ.go ⟨_, rfl, (decide_eq_true rfl)⟩ (fun w H => RX.loadAgg H rfl (i := 2) (vs := prgV p pp p.steps.length pc) rfl rfl ag24) ?_
    refine JQ.call ⟨_, rfl, (decide_eq_true rfl)⟩ (fun w H => run_callq rfl cl18 rfl) (fun w H => (rSame_b H (mine_sl hof ([(b1, cel (prgV p pp p.steps.length pc) 24)] :: F)).cons hst.cons.cons.cons (by omega) (by omega))) ?_
    refine JQ.go trivial (fun w H => RX.pick_t rfl (decide_eq_true rfl)) ?_
    refine JQ.go trivial (fun w H => RX.movev (v := Value.bool _) rfl) ?_
    refine JQ.go ⟨_, rfl, (decide_eq_true rfl)⟩ (fun w H => RX.movev (v := Value.slice _ _ _) rfl) ?_
    refine JQ.go ⟨_, rfl, (decide_eq_true rfl)⟩ (fun w H => RX.fieldAddr rfl fo24_4 rfl) ?_
    refine JQ.go ⟨_, rfl, (decide_eq_true rfl)⟩ (fun w H => RX.load H rfl (i := 2) (v := .slice pp p.steps.length pc) rfl rfl one22) ?_
    refine JQ.go ⟨_, rfl, (decide_eq_true rfl)⟩ (fun w H => RX.len_slice rfl (by rw [sl22]; rfl) rfl) ?_
    refine JQ.go ⟨_, rfl, (decide_eq_true rfl)⟩ (fun w H => RX.indexAddr rfl rfl sl22 (by omega) (by omega) (o' := p.steps.length * 7) (by omega)) ?_
    refine JQ.go ⟨_, rfl, (decide_eq_true rfl)⟩ (fun w H => RX.fieldAddr rfl fo39_0 rfl) ?_
    refine JQ.go ⟨_, rfl, (decide_eq_true rfl)⟩ (fun w H => RX.loadS H (SlAt.cons hof.slAt) rfl (j := p.steps.length * 7) (by omega) (v := .int .i64 (-77)) full_last one3) ?_
    refine JQ.go ⟨_, rfl, (decide_eq_true rfl)⟩ (fun w H => RX.eq rfl rfl) ?_
    refine JQ.go trivial (fun w H => RX.pick_t rfl (decide_eq_true rfl)) ?_
    refine JQ.go trivial (fun w H => RX.assignv (v := Value.bool _) rfl) ?_
    refine JQ.nil fun w H => ?_
    refine J.ret1 (v := Value.bool _) Tryd.func3 rfl rfl ?_
    exact ⟨_, rfl, rfl, H.drop.drop.drop⟩
set_option maxHeartbeats 1600000 in
theorem CheckActs_b {w0 w : World} {F : List Seg} {E : Nat → Value} {Q : Nat → Addr} (H : Hp w0 w F) (hE : Errs F E Q) (hT : SlAt F (some ⟨19, 0, none⟩) tableC) {n count last : Int} : Ret Tryd.prog 4 [.int .i64 n, .int .i64 count, .int .i64 last] w fun v w' => v = .bool true ∧ Hp w0 w' F := by
  refine Calls.of_J (n := 97) Tryd.func4 rfl rfl rfl ?_
  refine J.seq ?_
  refine J.region ?_
  refine JL.go trivial (RX.assign) ?_
  refine JL.nil ?_
  refine J.seq ?_
  refine J.seq ?_
  refine J.region ?_
  refine JL.does trivial (EX.call rfl cl8 rfl ((lives_b H hE hT))) ?_
  rintro _ w ⟨rfl, H⟩
  refine JL.go trivial (RX.not rfl) ?_
  refine JL.nil ?_
  refine J.cond_f rfl rfl ?_
  refine J.skip ?_
  refine J.seq ?_
  obtain ⟨N, hN1, hN2⟩ : ∃ u : Nat, n % 18446744073709551616 % 300 + 1 = (u : Int) ∧ 1 ≤ u ∧ u ≤ 300 := ⟨(n % 18446744073709551616 % 300 + 1).toNat, by omega, by omega⟩
  obtain ⟨C, hC1, hC2⟩ : ∃ u : Nat, count % 18446744073709551616 % 262144 + 1 = (u : Int) ∧ 1 ≤ u ∧ u ≤ 262144 := ⟨(count % 18446744073709551616 % 262144 + 1).toNat, by omega, by omega⟩
  obtain ⟨L, hL1, hL2⟩ : ∃ u : Nat, last % 18446744073709551616 % 262144 + 1 = (u : Int) ∧ 1 ≤ u ∧ u ≤ 262144 := ⟨(last % 18446744073709551616 % 262144 + 1).toNat, by omega, by omega⟩
  refine J.region ?_
  refine JL.go trivial (RX.movev (v := Value.int _ _) rfl) ?_
  refine JL.go trivial (RX.conv rfl (by rw [ki3]; rfl) ki41 (wrap_u64 _)) ?_
  refine JL.go trivial (RX.rem rfl rfl (by omega) (r := (N : Int) - 1) (by rw [Int.tmod_eq_emod_of_nonneg (by omega)]; omega)) ?_
  refine JL.go trivial (RX.conv rfl (by rw [ki41]; rfl) ki3 (w_i64 (r := (N : Int) - 1) (by omega) (by omega) (by omega))) ?_
  refine JL.go trivial (RX.add rfl rfl (w_i64 (r := (N : Int)) (by omega) (by omega) (by omega))) ?_
  refine JL.go trivial (RX.assignv (v := Value.int _ _) rfl) ?_
  refine JL.nil ?_
  refine J.seq ?_
  refine J.region ?_
  refine JL.go trivial (RX.movev (v := Value.int _ _) rfl) ?_
  refine JL.go trivial (RX.conv rfl (by rw [ki3]; rfl) ki41 (wrap_u64 _)) ?_
  refine JL.go trivial (RX.rem rfl rfl (by omega) (r := (C : Int) - 1) (by rw [Int.tmod_eq_emod_of_nonneg (by omega)]; omega)) ?_
  refine JL.go trivial (RX.conv rfl (by rw [ki41]; rfl) ki3 (w_i64 (r := (C : Int) - 1) (by omega) (by omega) (by omega))) ?_
  refine JL.go trivial (RX.add rfl rfl (w_i64 (r := (C : Int)) (by omega) (by omega) (by omega))) ?_
  refine JL.go trivial (RX.movev (v := Value.int _ _) rfl) ?_
  refine JL.go trivial (RX.conv rfl (by rw [ki3]; rfl) ki41 (wrap_u64 _)) ?_
  refine JL.go trivial (RX.rem rfl rfl (by omega) (r := (L : Int) - 1) (by rw [Int.tmod_eq_emod_of_nonneg (by omega)]; omega)) ?_
  refine JL.go trivial (RX.conv rfl (by rw [ki41]; rfl) ki3 (w_i64 (r := (L : Int) - 1) (by omega) (by omega) (by omega))) ?_
  refine JL.go trivial (RX.add rfl rfl (w_i64 (r := (L : Int)) (by omega) (by omega) (by omega))) ?_
  refine JL.go trivial (RX.assignv (v := Value.int _ _) rfl) ?_
  refine JL.go trivial (RX.assignv (v := Value.int _ _) rfl) ?_
  refine JL.nil ?_
  refine J.seq ?_
  refine J.region ?_
  refine JL.go trivial (RX.build (pv := [(0, .int .i64 1), (1, .int .i64 262144)]) (res := (prgV ⟨1, 262144, 0, 0, zl N C L 0⟩ none 0 0)) rfl (by kernel_rfl)) ?_
  refine JL.does trivial (EX.alloc H zr24 rfl) ?_
  rintro _ w ⟨b7, rfl, H⟩
  refine JL.does trivial (EX.storeAgg H rfl rfl (i := 0) (vs := (prgV ⟨1, 262144, 0, 0, zl N C L 0⟩ none 0 0)) (l' := (prgV ⟨1, 262144, 0, 0, zl N C L 0⟩ none 0 0)) rfl prgV_cell (by simp [prgV]) sz24 rfl rfl) ?_
  rintro _ w H
  refine JL.nil ?_
  refine J.seq ?_
  refine J.region ?_
  refine JL.go trivial (RX.assign) ?_
  refine JL.go trivial (RX.assign) ?_
  refine JL.nil ?_
  refine J.seq ?_
  refine J.seq ?_
  refine J.region ?_
  refine JL.go trivial (RX.assign) ?_
  refine JL.nil ?_
  refine J.block ?_
  refine J.loop (ι := Nat × Option Addr × Nat × Seg) (S := fun q => [(10, .int .i64 (q.1 : Nat)), (8, .int .i64 (cnts (zl N C L q.1))), (9, .int .i64 (faultP (zl N C L q.1) 262144))]) (Φ := fun q w => q.1 ≤ N + 1 ∧ 0 ≤ cnts (zl N C L q.1) ∧ cnts (zl N C L q.1) ≤ q.1 * 262144 ∧ OwnSl 39 7 q.2.1 q.1 q.2.2.1 (stepsV (zl N C L q.1)) q.2.2.2 ∧ Hp w0 w ([(b7, cel (prgV ⟨1, 262144, 0, 0, zl N C L q.1⟩ q.2.1 q.1 q.2.2.1) 24)] :: q.2.2.2 :: F)) (μ := fun q => N + 1 - q.1) (C := [(0, _), (1, _), (2, _), (7, _)]) (0, none, 0, []) ⟨rfl, rfl, rfl, rfl, trivial⟩ ⟨rfl, rfl, rfl, trivial⟩ ?_ ?_
  · exact ⟨Nat.zero_le _, (show (0 : Int) ≤ 0 by decide), (show (0 : Int) ≤ 0 * 262144 by decide), OwnSl.nil, H.nil.pull 1 rfl⟩
  clear H
  rintro ⟨k, p, cp, g⟩ ρ w ⟨hk, hs0, hs1, ho, H⟩ IH
  simp only at hk hs0 hs1 ho H
  dsimp only
  refine J.seq ?_
  refine J.seq ?_
  refine J.region ?_
  refine JL.go trivial (RX.movev (v := Value.int _ _) rfl) ?_
  refine JL.go trivial (RX.movev (v := Value.int _ _) rfl) ?_
  refine JL.go trivial (RX.le rfl rfl) ?_
  refine JL.nil ?_
  refine J.cond_d rfl (fun hle => ?_) (fun hle => ?_)
  · skip
    refine J.skip ?_
    refine J.seq ?_
    refine J.block ?_
    refine J.seq ?_
    refine J.region ?_
    refine JL.go trivial (RX.movev (v := Value.int _ _) rfl) ?_
    refine JL.go trivial (RX.build (pv := [(0, .int .i64 3), (4, .int .i64 C)]) (res := (zeroS C).v) rfl (by kernel_rfl)) ?_
    refine JL.does trivial (EX.alloc H zr39 rfl) ?_
    rintro _ w ⟨b11, rfl, H⟩
    refine JL.does trivial (EX.storeAgg H rfl rfl (i := 0) (vs := (zeroS C).v) (l' := (zeroS C).v) rfl (stp_cell _) (by simp [Stp.v]) sz39 rfl rfl) ?_
    rintro _ w H
    refine JL.nil ?_
    refine J.seq ?_
    refine J.seq ?_
    refine J.region ?_
    refine JL.go trivial (RX.movev (v := Value.int _ _) rfl) ?_
    refine JL.go trivial (RX.movev (v := Value.int _ _) rfl) ?_
    refine JL.go trivial (RX.eq rfl rfl) ?_
    refine JL.nil ?_
    refine J.cond_d rfl (fun hN => ?_) (fun hN => ?_)
    · skip
      refine J.region ?_
      refine JL.go trivial (RX.movev (v := Value.int _ _) rfl) ?_
      refine JL.go trivial (RX.fieldAddr rfl fo39_4 rfl) ?_
      refine JL.does trivial (EX.store (v := Value.int _ _) H rfl rfl (i := 0) (l' := (zeroS L).v) rfl rfl (by simp [Stp.v, zeroS]) sz3 rfl rfl) ?_
      rintro _ w H
      refine JL.nil ?_
      refine J.seq ?_
      have hz : zf N C L k = zeroS (L : Int) := by unfold zf; rw [if_pos (by omega)]
      have hsu := zl_succ N C L k
      rw [hz] at hsu
      have hzl := zl_len N C L k
      have hfz : faultP (zl N C L (k + 1)) 262144 = if 67108864 < cnts (zl N C L k) + (L : Int) ∧ faultP (zl N C L k) 262144 < 0 then (k : Int) else faultP (zl N C L k) 262144 := by rw [hsu, fault_zero_snoc (by omega) (by omega) (by omega), zl_len]
      have hcs : cnts (zl N C L (k + 1)) = cnts (zl N C L k) + (L : Int) := by rw [hsu, cnts_snoc]; rfl
      refine J.region ?_
      refine JL.go trivial (RX.fieldAddr rfl fo24_4 rfl) ?_
      refine JL.go trivial (RX.load H rfl (i := 1) (v := .slice p k cp) rfl rfl one22) ?_
      refine JL.go trivial (RX.loadAgg H rfl (i := 0) (vs := (zeroS (L : Int)).v) rfl rfl ag39) ?_
      refine JL.does trivial (EX.buildSlice (pv := [(0, .agg (zeroS (L : Int)).v.toArray)]) (l := (zeroS (L : Int)).v) (e := 39) H rfl (by kernel_rfl)) ?_
      rintro _ w ⟨br, rfl, H⟩
      refine JL.does trivial (EX.append (ys := (zeroS (L : Int)).v) (L' := fun s' => [(br, cel (zeroS (L : Int)).v 39)] :: [(b11, cel (zeroS (L : Int)).v 39)] :: [(b7, cel (prgV ⟨1, 262144, 0, 0, zl N C L k⟩ p k cp) 24)] :: s' :: F) H elS rfl rfl (i := 3) rfl ho (SlAt.here rfl) rfl (stp_cell _) (by decide) (by omega) (by omega) (fun _ => rfl)) ?_
      rintro _ w ⟨p3, c3, s3, rfl, ho3, H⟩
      rw [show stepsV (zl N C L k) ++ (zeroS (L : Int)).v = stepsV (zl N C L (k + 1)) by rw [hsu, stepsV_app]; simp [stepsV]] at ho3
      refine JL.go trivial (RX.fieldAddr rfl fo24_4 rfl) ?_
      refine JL.does trivial (EX.store (v := Value.slice _ _ _) H rfl rfl (i := 2) (l' := (prgV ⟨1, 262144, 0, 0, zl N C L (k + 1)⟩ p3 (k + 1) c3)) rfl rfl (by simp [prgV]) sz22 rfl rfl) ?_
      rintro _ w H
      refine JL.nil ?_
      refine J.seq ?_
      refine J.region ?_
      refine JL.go trivial (RX.movev (v := Value.int _ _) rfl) ?_
      refine JL.go trivial (RX.fieldAddr rfl fo39_4 rfl) ?_
      refine JL.go trivial (RX.load H rfl (i := 1) (v := .int .i64 (L : Int)) rfl rfl one3) ?_
      refine JL.go trivial (RX.add rfl rfl (w_i64 (r := cnts (zl N C L (k + 1))) (by omega) (by omega) (by omega))) ?_
      refine JL.go trivial (RX.assignv (v := Value.int _ _) rfl) ?_
      refine JL.nil ?_
      refine J.seq ?_
      refine J.region ?_
      refine JL.go trivial (RX.movev (v := Value.int _ _) rfl) ?_
      refine JL.go trivial (RX.gt rfl rfl) ?_
      refine JL.go trivial (RX.movev (v := Value.bool _) rfl) ?_
      refine JL.splitS 56 rfl (fun e1 => ?_) (fun e1 => ?_)
      · skip
        first | have e1p := of_decide_eq_true e1 | skip
        refine JL.go ⟨_, rfl, e1⟩ (RX.movev (v := Value.int _ _) rfl) ?_
        refine JL.go ⟨_, rfl, e1⟩ (RX.lt rfl rfl) ?_
        refine JL.go trivial (RX.pick_t rfl e1) ?_
        refine JL.nil ?_
        refine J.cond_d rfl (fun e2 => ?_) (fun e2 => ?_)
        · skip
          refine J.region ?_
          refine JL.go trivial (RX.movev (v := Value.int _ _) rfl) ?_
          refine JL.go trivial (RX.assignv (v := Value.int _ _) rfl) ?_
          refine JL.nil ?_
          refine J.inBlock ?_
          refine J.region ?_
          refine JL.go trivial (RX.movev (v := Value.int _ _) rfl) ?_
          refine JL.go trivial (RX.add rfl rfl (w_i64 (r := ((k + 1 : Nat) : Int)) (by omega) (by omega) (by omega))) ?_
          refine JL.go trivial (RX.assignv (v := Value.int _ _) rfl) ?_
          refine JL.nil ?_
          have e1q := of_decide_eq_true e1
          rw [if_pos ⟨by omega, e2⟩] at hfz
          exact IH (k + 1, p3, c3, s3) _ _ (by simp only; omega) ⟨rfl, rfl, rfl, rfl, trivial⟩ ⟨rfl, rfl, (show Value.int .i64 _ = Value.int .i64 _ by rw [hfz]), trivial⟩ ⟨by simp only; omega, by simp only; omega, by simp only; omega, ho3, H.drop.drop⟩
        · skip
          refine J.skip ?_
          refine J.inBlock ?_
          refine J.region ?_
          refine JL.go trivial (RX.movev (v := Value.int _ _) rfl) ?_
          refine JL.go trivial (RX.add rfl rfl (w_i64 (r := ((k + 1 : Nat) : Int)) (by omega) (by omega) (by omega))) ?_
          refine JL.go trivial (RX.assignv (v := Value.int _ _) rfl) ?_
          refine JL.nil ?_
          have e1q := of_decide_eq_true e1
          rw [if_neg (fun h => e2 h.2)] at hfz
          exact IH (k + 1, p3, c3, s3) _ _ (by simp only; omega) ⟨rfl, rfl, rfl, rfl, trivial⟩ ⟨rfl, rfl, (show Value.int .i64 _ = Value.int .i64 _ by rw [hfz]), trivial⟩ ⟨by simp only; omega, by simp only; omega, by simp only; omega, ho3, H.drop.drop⟩
      · skip
        first | have e1p := of_decide_eq_false e1 | skip
        refine JL.no ⟨_, rfl, gno e1⟩ ?_
        refine JL.no ⟨_, rfl, gno e1⟩ ?_
        refine JL.go trivial (RX.pick_f rfl e1) ?_
        refine JL.nil ?_
        refine J.cond_f rfl rfl ?_
        refine J.skip ?_
        refine J.inBlock ?_
        refine J.region ?_
        refine JL.go trivial (RX.movev (v := Value.int _ _) rfl) ?_
        refine JL.go trivial (RX.add rfl rfl (w_i64 (r := ((k + 1 : Nat) : Int)) (by omega) (by omega) (by omega))) ?_
        refine JL.go trivial (RX.assignv (v := Value.int _ _) rfl) ?_
        refine JL.nil ?_
        have e1q := of_decide_eq_false e1
        rw [if_neg (fun h => by have := h.1; omega)] at hfz
        exact IH (k + 1, p3, c3, s3) _ _ (by simp only; omega) ⟨rfl, rfl, rfl, rfl, trivial⟩ ⟨rfl, rfl, (show Value.int .i64 _ = Value.int .i64 _ by rw [hfz]), trivial⟩ ⟨by simp only; omega, by simp only; omega, by simp only; omega, ho3, H.drop.drop⟩
    · skip
      refine J.skip ?_
      refine J.seq ?_
      have hz : zf N C L k = zeroS (C : Int) := by unfold zf; rw [if_neg (by omega)]
      have hsu := zl_succ N C L k
      rw [hz] at hsu
      have hzl := zl_len N C L k
      have hfz : faultP (zl N C L (k + 1)) 262144 = if 67108864 < cnts (zl N C L k) + (C : Int) ∧ faultP (zl N C L k) 262144 < 0 then (k : Int) else faultP (zl N C L k) 262144 := by rw [hsu, fault_zero_snoc (by omega) (by omega) (by omega), zl_len]
      have hcs : cnts (zl N C L (k + 1)) = cnts (zl N C L k) + (C : Int) := by rw [hsu, cnts_snoc]; rfl
      refine J.region ?_
      refine JL.go trivial (RX.fieldAddr rfl fo24_4 rfl) ?_
      refine JL.go trivial (RX.load H rfl (i := 1) (v := .slice p k cp) rfl rfl one22) ?_
      refine JL.go trivial (RX.loadAgg H rfl (i := 0) (vs := (zeroS (C : Int)).v) rfl rfl ag39) ?_
      refine JL.does trivial (EX.buildSlice (pv := [(0, .agg (zeroS (C : Int)).v.toArray)]) (l := (zeroS (C : Int)).v) (e := 39) H rfl (by kernel_rfl)) ?_
      rintro _ w ⟨br, rfl, H⟩
      refine JL.does trivial (EX.append (ys := (zeroS (C : Int)).v) (L' := fun s' => [(br, cel (zeroS (C : Int)).v 39)] :: [(b11, cel (zeroS (C : Int)).v 39)] :: [(b7, cel (prgV ⟨1, 262144, 0, 0, zl N C L k⟩ p k cp) 24)] :: s' :: F) H elS rfl rfl (i := 3) rfl ho (SlAt.here rfl) rfl (stp_cell _) (by decide) (by omega) (by omega) (fun _ => rfl)) ?_
      rintro _ w ⟨p3, c3, s3, rfl, ho3, H⟩
      rw [show stepsV (zl N C L k) ++ (zeroS (C : Int)).v = stepsV (zl N C L (k + 1)) by rw [hsu, stepsV_app]; simp [stepsV]] at ho3
      refine JL.go trivial (RX.fieldAddr rfl fo24_4 rfl) ?_
      refine JL.does trivial (EX.store (v := Value.slice _ _ _) H rfl rfl (i := 2) (l' := (prgV ⟨1, 262144, 0, 0, zl N C L (k + 1)⟩ p3 (k + 1) c3)) rfl rfl (by simp [prgV]) sz22 rfl rfl) ?_
      rintro _ w H
      refine JL.nil ?_
      refine J.seq ?_
      refine J.region ?_
      refine JL.go trivial (RX.movev (v := Value.int _ _) rfl) ?_
      refine JL.go trivial (RX.fieldAddr rfl fo39_4 rfl) ?_
      refine JL.go trivial (RX.load H rfl (i := 1) (v := .int .i64 (C : Int)) rfl rfl one3) ?_
      refine JL.go trivial (RX.add rfl rfl (w_i64 (r := cnts (zl N C L (k + 1))) (by omega) (by omega) (by omega))) ?_
      refine JL.go trivial (RX.assignv (v := Value.int _ _) rfl) ?_
      refine JL.nil ?_
      refine J.seq ?_
      refine J.region ?_
      refine JL.go trivial (RX.movev (v := Value.int _ _) rfl) ?_
      refine JL.go trivial (RX.gt rfl rfl) ?_
      refine JL.go trivial (RX.movev (v := Value.bool _) rfl) ?_
      refine JL.splitS 56 rfl (fun e1 => ?_) (fun e1 => ?_)
      · skip
        first | have e1p := of_decide_eq_true e1 | skip
        refine JL.go ⟨_, rfl, e1⟩ (RX.movev (v := Value.int _ _) rfl) ?_
        refine JL.go ⟨_, rfl, e1⟩ (RX.lt rfl rfl) ?_
        refine JL.go trivial (RX.pick_t rfl e1) ?_
        refine JL.nil ?_
        refine J.cond_d rfl (fun e2 => ?_) (fun e2 => ?_)
        · skip
          refine J.region ?_
          refine JL.go trivial (RX.movev (v := Value.int _ _) rfl) ?_
          refine JL.go trivial (RX.assignv (v := Value.int _ _) rfl) ?_
          refine JL.nil ?_
          refine J.inBlock ?_
          refine J.region ?_
          refine JL.go trivial (RX.movev (v := Value.int _ _) rfl) ?_
          refine JL.go trivial (RX.add rfl rfl (w_i64 (r := ((k + 1 : Nat) : Int)) (by omega) (by omega) (by omega))) ?_
          refine JL.go trivial (RX.assignv (v := Value.int _ _) rfl) ?_
          refine JL.nil ?_
          have e1q := of_decide_eq_true e1
          rw [if_pos ⟨by omega, e2⟩] at hfz
          exact IH (k + 1, p3, c3, s3) _ _ (by simp only; omega) ⟨rfl, rfl, rfl, rfl, trivial⟩ ⟨rfl, rfl, (show Value.int .i64 _ = Value.int .i64 _ by rw [hfz]), trivial⟩ ⟨by simp only; omega, by simp only; omega, by simp only; omega, ho3, H.drop.drop⟩
        · skip
          refine J.skip ?_
          refine J.inBlock ?_
          refine J.region ?_
          refine JL.go trivial (RX.movev (v := Value.int _ _) rfl) ?_
          refine JL.go trivial (RX.add rfl rfl (w_i64 (r := ((k + 1 : Nat) : Int)) (by omega) (by omega) (by omega))) ?_
          refine JL.go trivial (RX.assignv (v := Value.int _ _) rfl) ?_
          refine JL.nil ?_
          have e1q := of_decide_eq_true e1
          rw [if_neg (fun h => e2 h.2)] at hfz
          exact IH (k + 1, p3, c3, s3) _ _ (by simp only; omega) ⟨rfl, rfl, rfl, rfl, trivial⟩ ⟨rfl, rfl, (show Value.int .i64 _ = Value.int .i64 _ by rw [hfz]), trivial⟩ ⟨by simp only; omega, by simp only; omega, by simp only; omega, ho3, H.drop.drop⟩
      · skip
        first | have e1p := of_decide_eq_false e1 | skip
        refine JL.no ⟨_, rfl, gno e1⟩ ?_
        refine JL.no ⟨_, rfl, gno e1⟩ ?_
        refine JL.go trivial (RX.pick_f rfl e1) ?_
        refine JL.nil ?_
        refine J.cond_f rfl rfl ?_
        refine J.skip ?_
        refine J.inBlock ?_
        refine J.region ?_
        refine JL.go trivial (RX.movev (v := Value.int _ _) rfl) ?_
        refine JL.go trivial (RX.add rfl rfl (w_i64 (r := ((k + 1 : Nat) : Int)) (by omega) (by omega) (by omega))) ?_
        refine JL.go trivial (RX.assignv (v := Value.int _ _) rfl) ?_
        refine JL.nil ?_
        have e1q := of_decide_eq_false e1
        rw [if_neg (fun h => by have := h.1; omega)] at hfz
        exact IH (k + 1, p3, c3, s3) _ _ (by simp only; omega) ⟨rfl, rfl, rfl, rfl, trivial⟩ ⟨rfl, rfl, (show Value.int .i64 _ = Value.int .i64 _ by rw [hfz]), trivial⟩ ⟨by simp only; omega, by simp only; omega, by simp only; omega, ho3, H.drop.drop⟩
  · skip
    refine J.exit rfl ?_
    refine J.seq ?_
    have hkN : k = N + 1 := by omega
    subst hkN
    have hok : Prg.Ok ⟨1, 262144, 0, 0, zl N C L (N + 1)⟩ := ⟨(show i64ok 1 by decide), (show i64ok 262144 by decide), (show i64ok 0 by decide), (show i64ok 0 by decide), zl_ok (by omega) (by omega), by show (zl N C L (N + 1)).length ≤ _; rw [zl_len]; omega⟩
    have hln := zl_len N C L (N + 1)
    have hsl := (ho.slAt (L := F)).cons (s := [(b7, cel (prgV ⟨1, 262144, 0, 0, zl N C L (N + 1)⟩ p (N + 1) cp) 24)])
    have hbd := fault_bd (zl N C L (N + 1)) 262144
    refine J.region ?_
    refine JL.go trivial (RX.loadAgg H rfl (i := 0) (vs := prgV ⟨1, 262144, 0, 0, zl N C L (N + 1)⟩ p (zl N C L (N + 1)).length cp) rfl (by rw [hln]; rfl) ag24) ?_
    refine JL.does trivial (EX.call rfl cl11 rfl ((Acts_b (p := ⟨1, 262144, 0, 0, zl N C L (N + 1)⟩) H hT.cons.cons (hE.at_ 9 (by decide) (by decide)).cons.cons hsl hok.ow))) ?_
    rintro _ w ⟨rfl, H⟩
    refine JL.go trivial (RX.movev (v := Value.tuple _) rfl) ?_
    refine JL.go trivial (RX.extract rfl rfl) ?_
    refine JL.go trivial (RX.extract (v := errV E (chkP ⟨1, 262144, 0, 0, zl N C L (N + 1)⟩)) rfl rfl) ?_
    refine JL.go trivial (RX.assignv (v := Value.int _ _) rfl) ?_
    refine JL.go trivial (RX.assignv (v := errV E (chkP ⟨1, 262144, 0, 0, zl N C L (N + 1)⟩)) rfl) ?_
    refine JL.nil ?_
    refine J.seq ?_
    refine J.seq ?_
    refine J.region ?_
    refine JL.go trivial (RX.loadAgg H rfl (i := 0) (vs := prgV ⟨1, 262144, 0, 0, zl N C L (N + 1)⟩ p (zl N C L (N + 1)).length cp) rfl (by rw [hln]; rfl) ag24) ?_
    refine JL.does trivial (EX.call rfl cl16 rfl ((Fault_b (p := ⟨1, 262144, 0, 0, zl N C L (N + 1)⟩) H hT.cons.cons (hE.at_ 9 (by decide) (by decide)).cons.cons hsl hok.ow))) ?_
    rintro _ w ⟨rfl, H⟩
    refine JL.go trivial (RX.movev (v := Value.int _ _) rfl) ?_
    refine JL.go trivial (RX.ne rfl rfl) ?_
    refine JL.nil ?_
    refine J.cond_f rfl (decide_eq_false (fun h => h rfl)) ?_
    refine J.skip ?_
    refine J.seq ?_
    refine J.seq ?_
    refine J.region ?_
    refine JL.go trivial (RX.movev (v := Value.int _ _) rfl) ?_
    refine JL.go trivial (RX.ge rfl rfl) ?_
    refine JL.nil ?_
    refine J.cond_d rfl (fun h71 => ?_) (fun h71 => ?_)
    · skip
      have hck : chkP ⟨1, 262144, 0, 0, zl N C L (N + 1)⟩ = 9 := by
        unfold chkP
        rw [if_neg]
        rintro ⟨_, h⟩
        simp only at h
        omega
      have hac : actsN ⟨1, 262144, 0, 0, zl N C L (N + 1)⟩ = 0 := by unfold actsN; rw [if_neg (by rw [hck]; decide)]
      refine J.seq ?_
      refine J.region ?_
      refine JL.go trivial (RX.loadAgg H rfl (i := 0) (vs := prgV ⟨1, 262144, 0, 0, zl N C L (N + 1)⟩ p (zl N C L (N + 1)).length cp) rfl (by rw [hln]; rfl) ag24) ?_
      refine JL.does trivial (EX.call rfl cl14 rfl ((Check_b (p := ⟨1, 262144, 0, 0, zl N C L (N + 1)⟩) H hT.cons.cons (hE.at_ 9 (by decide) (by decide)).cons.cons hsl hok.ow))) ?_
      rintro _ w ⟨rfl, H⟩
      refine JL.does trivial (EX.call rfl cl13 rfl ((Num_b (n := chkP ⟨1, 262144, 0, 0, zl N C L (N + 1)⟩) H hE.cons.cons (chkP_le _)))) ?_
      rintro _ w ⟨rfl, H⟩
      refine JL.go trivial (RX.eq rfl rfl) ?_
      refine JL.go trivial (RX.movev (v := Value.bool _) rfl) ?_
      refine JL.go ⟨_, rfl, (decide_eq_true (by rw [hck]; rfl))⟩ (RX.movev (v := errV E (chkP ⟨1, 262144, 0, 0, zl N C L (N + 1)⟩)) rfl) ?_
      refine JL.does ⟨_, rfl, (decide_eq_true (by rw [hck]; rfl))⟩ (EX.call rfl cl13 rfl ((Num_b (n := chkP ⟨1, 262144, 0, 0, zl N C L (N + 1)⟩) H hE.cons.cons (chkP_le _)))) ?_
      rintro _ w ⟨rfl, H⟩
      refine JL.go ⟨_, rfl, (decide_eq_true (by rw [hck]; rfl))⟩ (RX.eq rfl rfl) ?_
      refine JL.go trivial (RX.pick_t rfl (decide_eq_true (by rw [hck]; rfl))) ?_
      refine JL.go trivial (RX.movev (v := Value.bool _) rfl) ?_
      refine JL.go ⟨_, rfl, (decide_eq_true (by rw [hck]; rfl))⟩ (RX.movev (v := Value.int _ _) rfl) ?_
      refine JL.go ⟨_, rfl, (decide_eq_true (by rw [hck]; rfl))⟩ (RX.eq rfl rfl) ?_
      refine JL.go trivial (RX.pick_t rfl (decide_eq_true (by rw [hck]; rfl))) ?_
      refine JL.go trivial (RX.assignv (v := Value.bool _) rfl) ?_
      refine JL.nil ?_
      refine J.ret1 (v := Value.bool _) Tryd.func4 rfl rfl ?_
      exact ⟨_, rfl, by rw [hac]; rfl, H.drop.drop⟩
    · skip
      have hck : chkP ⟨1, 262144, 0, 0, zl N C L (N + 1)⟩ = 0 := by
        unfold chkP
        rw [if_pos]
        exact ⟨head_one, fault_neg _ _ h71⟩
      have hac : actsN ⟨1, 262144, 0, 0, zl N C L (N + 1)⟩ = cnts (zl N C L (N + 1)) := by unfold actsN; rw [if_pos hck]
      refine J.skip ?_
      refine J.seq ?_
      refine J.region ?_
      refine JL.go trivial (RX.loadAgg H rfl (i := 0) (vs := prgV ⟨1, 262144, 0, 0, zl N C L (N + 1)⟩ p (zl N C L (N + 1)).length cp) rfl (by rw [hln]; rfl) ag24) ?_
      refine JL.does trivial (EX.call rfl cl14 rfl ((Check_b (p := ⟨1, 262144, 0, 0, zl N C L (N + 1)⟩) H hT.cons.cons (hE.at_ 9 (by decide) (by decide)).cons.cons hsl hok.ow))) ?_
      rintro _ w ⟨rfl, H⟩
      refine JL.go trivial (RX.ifnil_eql (v := errV E (chkP ⟨1, 262144, 0, 0, zl N C L (N + 1)⟩)) rfl rfl (by rw [hck]; rfl) if30) ?_
      refine JL.go trivial (RX.movev (v := Value.bool _) rfl) ?_
      refine JL.go ⟨_, rfl, (by rw [hck]; rfl)⟩ (RX.movev (v := errV E (chkP ⟨1, 262144, 0, 0, zl N C L (N + 1)⟩)) rfl) ?_
      refine JL.go ⟨_, rfl, (by rw [hck]; rfl)⟩ (RX.ifnil_eql (v := errV E (chkP ⟨1, 262144, 0, 0, zl N C L (N + 1)⟩)) rfl rfl (by rw [hck]; rfl) if30) ?_
      refine JL.go trivial (RX.pick_t rfl (by rw [hck]; rfl)) ?_
      refine JL.go trivial (RX.movev (v := Value.bool _) rfl) ?_
      refine JL.go ⟨_, rfl, (by rw [hck]; rfl)⟩ (RX.movev (v := Value.int _ _) rfl) ?_
      refine JL.go ⟨_, rfl, (by rw [hck]; rfl)⟩ (RX.movev (v := Value.int _ _) rfl) ?_
      refine JL.go ⟨_, rfl, (by rw [hck]; rfl)⟩ (RX.eq rfl rfl) ?_
      refine JL.go trivial (RX.pick_t rfl (by rw [hck]; rfl)) ?_
      refine JL.go trivial (RX.assignv (v := Value.bool _) rfl) ?_
      refine JL.nil ?_
      refine J.ret1 (v := Value.bool _) Tryd.func4 rfl rfl ?_
      exact ⟨_, rfl, by rw [hac, decide_eq_true rfl], H.drop.drop⟩
end Go.Proofs.YtafhajgebhicdaaDoor

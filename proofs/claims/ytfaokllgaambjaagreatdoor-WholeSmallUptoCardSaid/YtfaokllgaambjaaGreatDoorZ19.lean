/- Part 19 of the proof that WholeSmall holds: what the functions on its way do, step by step. -/
import Derived.Test.YtfaokllgaambjaaGreatDoorZ1
import Derived.Test.YtfaokllgaambjaaGreatDoorZ2
import Derived.Test.YtfaokllgaambjaaGreatDoorZ3
import Derived.Test.YtfaokllgaambjaaGreatDoorZ4
import Derived.Test.YtfaokllgaambjaaGreatDoorZ5
import Derived.Test.YtfaokllgaambjaaGreatDoorZ9
import Derived.Test.YtfaokllgaambjaaGreatDoorZ10
import Derived.Test.YtfaokllgaambjaaGreatDoorZ11
import Derived.Test.YtfaokllgaambjaaGreatDoorZ12
import Derived.Test.YtfaokllgaambjaaGreatDoorZ14
import Derived.Test.YtfaokllgaambjaaGreatDoorZ15
import Derived.Test.YtfaokllgaambjaaGreatDoorZ16
set_option linter.unusedVariables false
set_option linter.unusedSimpArgs false
namespace Go.Proofs.YtfaokllgaambjaaGreatDoor
open Go Go.Eng
set_option maxRecDepth 100000
set_option maxHeartbeats 1600000
theorem cl138 : callable Tryz.prog 138 = true := by kernel_rfl
theorem cl90 : callable Tryz.prog 90 = true := by kernel_rfl
theorem fo115_0 : fieldOff Tryz.prog 115 0 = some 0 := by kernel_rfl
theorem fo115_1 : fieldOff Tryz.prog 115 1 = some 5 := by kernel_rfl
theorem fo115_2 : fieldOff Tryz.prog 115 2 = some 6 := by kernel_rfl
theorem fo142_0 : fieldOff Tryz.prog 142 0 = some 0 := by kernel_rfl
theorem fo142_1 : fieldOff Tryz.prog 142 1 = some 1 := by kernel_rfl
theorem fo142_2 : fieldOff Tryz.prog 142 2 = some 2 := by kernel_rfl
namespace Oo
structure Bd where
  ss : List Sp
  nc : Nat
  ac : Nat
  fr : Nat
def Bd.ad (b : Bd) (s : Sp) : Bd := ⟨b.ss ++ [s], b.nc, b.ac + s.count, b.fr⟩
def Bd.rg (b : Bd) (k : Nat) : Bd := ⟨b.ss, max b.nc (b.fr + k), b.ac, b.fr + k⟩
def Bd.ff (b : Bd) (f : Nat) : Bd := ⟨b.ss, b.nc, b.ac, f⟩
def Bd.sm (b : Bd) : Prop := b.ss.length ≤ 1000 ∧ b.nc ≤ 1000 ∧ b.ac ≤ 1000 ∧ b.fr ≤ 1000
instance {b : Bd} : Decidable b.sm := inferInstanceAs (Decidable (_ ∧ _))
def bdV (n : Nat) (b : Bd) (q : Option Addr) (c : Nat) : List Value := [.int .i64 ((n : Nat) : Int), .int .i64 ((b.nc : Nat) : Int), .int .i64 ((0 : Nat) : Int), .int .i64 ((n : Nat) : Int), .slice q b.ss.length c, .int .i64 ((b.ac : Nat) : Int), .int .i64 ((b.fr : Nat) : Int)]
def inV (s j d : Nat) : List Value := [.int .i64 ((s : Nat) : Int), .int .i64 ((j : Nat) : Int), .int .i64 ((d : Nat) : Int)]
theorem spV_cells (s : Sp) : ∀ v ∈ spV s, isCell v = true := by
 intro v hv
 simp [spV] at hv
 rcases hv with rfl | rfl | rfl | rfl | rfl | rfl | rfl <;> rfl
theorem spV_len (s : Sp) : (spV s).length = 7 := rfl
theorem spsV_add (l : List Sp) (s : Sp) : spsV (l ++ [s]) = spsV l ++ spV s := by simp [spsV]
theorem max_nat {P : Program} {ρ : Operand → Value} {w : World} {d : Option Tmp} {ts : Array TypeId} {ty : TypeId} {pos : String} {af : Array Edge} {g : Option (Nat × Bool)} {x y : Operand} {a b : Nat} (hx : ρ x = .int .i64 ((a : Nat) : Int)) (hy : ρ y = .int .i64 ((b : Nat) : Int)) :
 Runs P ρ ⟨d, .call { callee := .builtin .max, args := #[x, y], argTypes := ts }, ty, pos, af, g⟩ w (.int .i64 ((max a b : Nat) : Int)) := by
 unfold Runs
 simp [execOp, resolve, invoke, builtin, Builtin.max_, Builtin.max2, hx, hy, List.foldlM]
 by_cases h : a < b
 · rw [if_pos h]; omega
 · rw [if_neg h]; omega
theorem cdirect_b {w0 w : World} {F : List Seg} (H : Hp w0 w F) {src jump dst n : Nat} : Ret Tryz.prog 115 [.agg (inV src jump dst).toArray, .int .i64 ((n : Nat) : Int)] w fun v w' => v = .agg (spV ⟨6, dst, src, jump, n, n, 0⟩).toArray ∧ Hp w0 w' F := by
 refine Calls.of_J (n := 14) Tryz.func115 rfl rfl rfl (J.seq (J.region (JL.e (EX.box (v := .agg _) H rfl rfl) ?_)))
 rintro _ w ⟨b1, rfl, H⟩
 refine JL.e (EX.alloc H zr178 rfl) ?_
 rintro _ w ⟨b2, rfl, H⟩
 refine JL.nil (J.seq (J.region (JL.g (RX.fieldAddr rfl fo142_2 rfl) (JL.g (RX.load H rfl (i := 1) (v := .int _ _) rfl rfl one3) (JL.g (RX.fieldAddr rfl fo142_0 rfl) (JL.g (RX.load H rfl (i := 1) (v := .int _ _) rfl rfl one3) (JL.g (RX.fieldAddr rfl fo142_1 rfl) (JL.g (RX.load H rfl (i := 1) (v := .int _ _) rfl rfl one3) (JL.mi rfl (JL.mi rfl (JL.g (RX.build (pv := [(0, .int .i64 ((6 : Nat) : Int)), (1, .int .i64 ((dst : Nat) : Int)), (2, .int .i64 ((src : Nat) : Int)), (3, .int .i64 ((jump : Nat) : Int)), (4, .int .i64 ((n : Nat) : Int)), (5, .int .i64 ((n : Nat) : Int))]) (res := spV ⟨6, dst, src, jump, n, n, 0⟩) rfl (by kernel_rfl)) (JL.e (EX.storeAgg H rfl rfl (i := 0) (vs := spV ⟨6, dst, src, jump, n, n, 0⟩) (l' := spV ⟨6, dst, src, jump, n, n, 0⟩) rfl (spV_cells _) (by simp [spV]) sz178 rfl rfl) ?_))))))))))))
 rintro _ w H
 refine JL.nil (J.retc Tryz.func115 rfl H rfl (i := 0) (vs := spV ⟨6, dst, src, jump, n, n, 0⟩) rfl rfl ag178 ?_)
 exact ⟨_, rfl, rfl, H.drop.drop⟩
theorem cgather_b {w0 w : World} {F : List Seg} (H : Hp w0 w F) {dst src jump count : Nat} : Ret Tryz.prog 116 [.int .i64 ((dst : Nat) : Int), .int .i64 ((src : Nat) : Int), .int .i64 ((jump : Nat) : Int), .int .i64 ((count : Nat) : Int)] w fun v w' => v = .agg (spV ⟨1, dst, src, jump, count, 0, 0⟩).toArray ∧ Hp w0 w' F := by
 refine Calls.of_J (n := 14) Tryz.func116 rfl rfl rfl (J.seq (J.region (JL.e (EX.alloc H zr178 rfl) ?_)))
 rintro _ w ⟨b1, rfl, H⟩
 refine JL.nil (J.seq (J.region (JL.mi rfl (JL.mi rfl (JL.mi rfl (JL.mi rfl (JL.g (RX.build (pv := [(0, .int .i64 ((1 : Nat) : Int)), (1, .int .i64 ((dst : Nat) : Int)), (2, .int .i64 ((src : Nat) : Int)), (3, .int .i64 ((jump : Nat) : Int)), (4, .int .i64 ((count : Nat) : Int))]) (res := spV ⟨1, dst, src, jump, count, 0, 0⟩) rfl (by kernel_rfl)) (JL.e (EX.storeAgg H rfl rfl (i := 0) (vs := spV ⟨1, dst, src, jump, count, 0, 0⟩) (l' := spV ⟨1, dst, src, jump, count, 0, 0⟩) rfl (spV_cells _) (by simp [spV]) sz178 rfl rfl) ?_))))))))
 rintro _ w H
 refine JL.nil (J.retc Tryz.func116 rfl H rfl (i := 0) (vs := spV ⟨1, dst, src, jump, count, 0, 0⟩) rfl rfl ag178 ?_)
 exact ⟨_, rfl, rfl, H.drop⟩
theorem cfly_b {w0 w : World} {F : List Seg} (H : Hp w0 w F) {dst jump count r : Nat} : Ret Tryz.prog 117 [.int .i64 ((dst : Nat) : Int), .int .i64 ((jump : Nat) : Int), .int .i64 ((count : Nat) : Int), .int .i64 ((r : Nat) : Int)] w fun v w' => v = .agg (spV ⟨5, dst, 0, jump, count, r, 0⟩).toArray ∧ Hp w0 w' F := by
 refine Calls.of_J (n := 14) Tryz.func117 rfl rfl rfl (J.seq (J.region (JL.e (EX.alloc H zr178 rfl) ?_)))
 rintro _ w ⟨b1, rfl, H⟩
 refine JL.nil (J.seq (J.region (JL.mi rfl (JL.mi rfl (JL.mi rfl (JL.mi rfl (JL.g (RX.build (pv := [(0, .int .i64 ((5 : Nat) : Int)), (1, .int .i64 ((dst : Nat) : Int)), (3, .int .i64 ((jump : Nat) : Int)), (4, .int .i64 ((count : Nat) : Int)), (5, .int .i64 ((r : Nat) : Int))]) (res := spV ⟨5, dst, 0, jump, count, r, 0⟩) rfl (by kernel_rfl)) (JL.e (EX.storeAgg H rfl rfl (i := 0) (vs := spV ⟨5, dst, 0, jump, count, r, 0⟩) (l' := spV ⟨5, dst, 0, jump, count, r, 0⟩) rfl (spV_cells _) (by simp [spV]) sz178 rfl rfl) ?_))))))))
 rintro _ w H
 refine JL.nil (J.retc Tryz.func117 rfl H rfl (i := 0) (vs := spV ⟨5, dst, 0, jump, count, r, 0⟩) rfl rfl ag178 ?_)
 exact ⟨_, rfl, rfl, H.drop⟩
theorem ctwist_b {w0 w : World} {F : List Seg} (H : Hp w0 w F) {dst count m k : Nat} : Ret Tryz.prog 140 [.int .i64 ((dst : Nat) : Int), .int .i64 ((count : Nat) : Int), .int .i64 ((m : Nat) : Int), .int .i64 ((k : Nat) : Int)] w fun v w' => v = .agg (spV ⟨4, dst, 0, 0, count, m, k⟩).toArray ∧ Hp w0 w' F := by
 refine Calls.of_J (n := 14) Tryz.func140 rfl rfl rfl (J.seq (J.region (JL.e (EX.alloc H zr178 rfl) ?_)))
 rintro _ w ⟨b1, rfl, H⟩
 refine JL.nil (J.seq (J.region (JL.mi rfl (JL.mi rfl (JL.mi rfl (JL.mi rfl (JL.g (RX.build (pv := [(0, .int .i64 ((4 : Nat) : Int)), (1, .int .i64 ((dst : Nat) : Int)), (4, .int .i64 ((count : Nat) : Int)), (5, .int .i64 ((m : Nat) : Int)), (6, .int .i64 ((k : Nat) : Int))]) (res := spV ⟨4, dst, 0, 0, count, m, k⟩) rfl (by kernel_rfl)) (JL.e (EX.storeAgg H rfl rfl (i := 0) (vs := spV ⟨4, dst, 0, 0, count, m, k⟩) (l' := spV ⟨4, dst, 0, 0, count, m, k⟩) rfl (spV_cells _) (by simp [spV]) sz178 rfl rfl) ?_))))))))
 rintro _ w H
 refine JL.nil (J.retc Tryz.func140 rfl H rfl (i := 0) (vs := spV ⟨4, dst, 0, 0, count, m, k⟩) rfl rfl ag178 ?_)
 exact ⟨_, rfl, rfl, H.drop⟩
theorem cscatter_b {w0 w : World} {F : List Seg} (H : Hp w0 w F) {dst src jump count : Nat} : Ret Tryz.prog 141 [.int .i64 ((dst : Nat) : Int), .int .i64 ((src : Nat) : Int), .int .i64 ((jump : Nat) : Int), .int .i64 ((count : Nat) : Int)] w fun v w' => v = .agg (spV ⟨2, dst, src, jump, count, 0, 0⟩).toArray ∧ Hp w0 w' F := by
 refine Calls.of_J (n := 14) Tryz.func141 rfl rfl rfl (J.seq (J.region (JL.e (EX.alloc H zr178 rfl) ?_)))
 rintro _ w ⟨b1, rfl, H⟩
 refine JL.nil (J.seq (J.region (JL.mi rfl (JL.mi rfl (JL.mi rfl (JL.mi rfl (JL.g (RX.build (pv := [(0, .int .i64 ((2 : Nat) : Int)), (1, .int .i64 ((dst : Nat) : Int)), (2, .int .i64 ((src : Nat) : Int)), (3, .int .i64 ((jump : Nat) : Int)), (4, .int .i64 ((count : Nat) : Int))]) (res := spV ⟨2, dst, src, jump, count, 0, 0⟩) rfl (by kernel_rfl)) (JL.e (EX.storeAgg H rfl rfl (i := 0) (vs := spV ⟨2, dst, src, jump, count, 0, 0⟩) (l' := spV ⟨2, dst, src, jump, count, 0, 0⟩) rfl (spV_cells _) (by simp [spV]) sz178 rfl rfl) ?_))))))))
 rintro _ w H
 refine JL.nil (J.retc Tryz.func141 rfl H rfl (i := 0) (vs := spV ⟨2, dst, src, jump, count, 0, 0⟩) rfl rfl ag178 ?_)
 exact ⟨_, rfl, rfl, H.drop⟩
theorem cfull_b {w0 w : World} {F : List Seg} {bb n c : Nat} {b : Bd} {q : Option Addr} (H : Hp w0 w ([(bb, cel (bdV n b q c) 115)] :: F)) (hb : b.sm) : Ret Tryz.prog 90 [.pointer (some ⟨bb, 0, none⟩)] w fun v w' => v = .bool false ∧ Hp w0 w' ([(bb, cel (bdV n b q c) 115)] :: F) := by
 refine Calls.of_J (n := 25) Tryz.func90 rfl rfl rfl (J.seq ?_)
 obtain ⟨hb1, hb2, hb3, hb4⟩ := hb
 refine J.region (JL.g (RX.assign) (JL.nil (J.seq (J.region (JL.mp rfl (JL.g (RX.nilCheck rfl) (JL.g (RX.fieldAddr rfl fo115_0 rfl) (JL.g (RX.fieldAddr rfl fo74_4 rfl) (JL.g (RX.load H rfl (i := 0) (v := .slice _ _ _) rfl rfl one72) (JL.g (RX.len_slice rfl (by rw [sl72]; rfl) rfl) ?_))))))))))
 refine JL.g (RX.gt rfl rfl) (JL.mb rfl (JL.go ⟨_, rfl, (decide_eq_false (by omega))⟩ (RX.movev (v := .pointer _) rfl) (JL.go ⟨_, rfl, (decide_eq_false (by omega))⟩ (RX.nilCheck rfl) (JL.go ⟨_, rfl, (decide_eq_false (by omega))⟩ (RX.fieldAddr rfl fo115_0 rfl) (JL.go ⟨_, rfl, (decide_eq_false (by omega))⟩ (RX.fieldAddr rfl fo74_1 rfl) (JL.go ⟨_, rfl, (decide_eq_false (by omega))⟩ (RX.load H rfl (i := 0) (v := .int _ _) rfl rfl one3) (JL.go ⟨_, rfl, (decide_eq_false (by omega))⟩ (RX.gt rfl rfl) (JL.g (RX.pick_f rfl (decide_eq_false (by omega))) (JL.mb rfl (JL.go ⟨_, rfl, (decide_eq_false (by omega))⟩ (RX.movev (v := .pointer _) rfl) (JL.go ⟨_, rfl, (decide_eq_false (by omega))⟩ (RX.nilCheck rfl) (JL.go ⟨_, rfl, (decide_eq_false (by omega))⟩ (RX.fieldAddr rfl fo115_1 rfl) (JL.go ⟨_, rfl, (decide_eq_false (by omega))⟩ (RX.load H rfl (i := 0) (v := .int _ _) rfl rfl one3) (JL.go ⟨_, rfl, (decide_eq_false (by omega))⟩ (RX.gt rfl rfl) (JL.g (RX.pick_f rfl (decide_eq_false (by omega))) (JL.ab rfl (JL.nil (J.ret1 (v := .bool _) Tryz.func90 rfl rfl ?_))))))))))))))))))
 exact ⟨_, rfl, congrArg Value.bool (decide_eq_false (by omega)), H⟩
theorem cregion_b {w0 w : World} {F : List Seg} {bb n c k : Nat} {b : Bd} {q : Option Addr} (H : Hp w0 w ([(bb, cel (bdV n b q c) 115)] :: F)) (hb : b.sm) (hk : k ≤ 1000) : Ret Tryz.prog 87 [.pointer (some ⟨bb, 0, none⟩), .int .i64 ((k : Nat) : Int)] w fun v w' => v = .int .i64 ((b.fr : Nat) : Int) ∧ Hp w0 w' ([(bb, cel (bdV n (b.rg k) q c) 115)] :: F) := by
 refine Calls.of_J (n := 33) Tryz.func87 rfl rfl rfl (J.seq ?_)
 obtain ⟨hb1, hb2, hb3, hb4⟩ := hb
 refine J.region (JL.g (RX.assign) (JL.nil (J.seq (J.region (JL.mp rfl (JL.g (RX.nilCheck rfl) (JL.g (RX.fieldAddr rfl fo115_2 rfl) (JL.g (RX.load H rfl (i := 0) (v := .int _ _) rfl rfl one3) (JL.ai rfl (JL.nil (J.seq (J.region (JL.mp rfl (JL.g (RX.nilCheck rfl) (JL.g (RX.fieldAddr rfl fo115_2 rfl) (JL.g (RX.load H rfl (i := 0) (v := .int _ _) rfl rfl one3) (JL.mi rfl (JL.g (RX.add rfl rfl (wi (n := b.fr + k) (by omega) (by omega))) (JL.g (RX.nilCheck rfl) (JL.g (RX.fieldAddr rfl fo115_2 rfl) (JL.e (EX.store (v := .int _ _) H rfl rfl (i := 0) rfl rfl (by simp [bdV]) sz3 rfl rfl) ?_)))))))))))))))))))))
 rintro _ w H
 refine JL.nil (J.seq (J.any hmix fun w hs => ?_))
 replace H := H.same hs; clear hs
 refine JA.stage (listed := [false, false, false, false, false, false, false, false, false, false, false, false, false, false, false]) 14 [0, 1, 2, 3, 4, 5, 6, 7, 8, 9, 10, 11, 12, 13] H (by kernel_rfl) rfl rfl (JI.go rfl trivial (fun w H => RX.movev (v := .pointer _) rfl) (JI.go rfl trivial (fun w H => RX.movev (v := .pointer _) rfl) (JI.go rfl trivial (fun w H => RX.nilCheck rfl) (JI.go rfl trivial (fun w H => RX.fieldAddr rfl fo115_0 rfl) (JI.go rfl trivial (fun w H => RX.fieldAddr rfl fo74_1 rfl) (JI.go rfl trivial (fun w H => RX.load H rfl (i := 0) (v := .int _ _) rfl rfl one3) (JI.go rfl trivial (fun w H => RX.movev (v := .pointer _) rfl) (JI.go rfl trivial (fun w H => RX.nilCheck rfl) (JI.go rfl trivial (fun w H => RX.fieldAddr rfl fo115_2 rfl) (JI.go rfl trivial (fun w H => RX.load H rfl (i := 0) (v := .int .i64 ((b.fr + k : Nat) : Int)) rfl rfl one3) (JI.go rfl trivial (fun w H => max_nat rfl rfl) (JI.go rfl trivial (fun w H => RX.nilCheck rfl) (JI.go rfl trivial (fun w H => RX.fieldAddr rfl fo115_0 rfl) (JI.go rfl trivial (fun w H => RX.fieldAddr rfl fo74_1 rfl) (JI.nil fun w H => (JL.e (EX.store (v := .int _ _) H rfl rfl (i := 0) rfl rfl (by simp [bdV]) sz3 rfl rfl) ?_))))))))))))))))
 rintro _ w H
 refine JL.nil (J.seq (J.region (JL.mi rfl (JL.ai rfl (JL.nil (J.ret1 (v := .int _ _) Tryz.func87 rfl rfl ?_))))))
 exact ⟨_, rfl, rfl, H⟩
theorem stp_ok {s : Sp} (h : s.sml = true) : s.stp.Ok := by
 unfold Sp.sml at h
 simp only [decide_eq_true_eq] at h
 obtain ⟨a1, a2, a3, a4, a5, a6, a7⟩ := h
 refine ⟨?_, ?_, ?_, ?_, ?_, ?_, ?_⟩ <;> (simp only [Sp.stp, i64ok]; omega)
theorem sml_count {s : Sp} (h : s.sml = true) : s.count ≤ 1000 := by
 unfold Sp.sml at h
 simp only [decide_eq_true_eq] at h
 exact h.2.2.2.2.1
def BHp (w0 w : World) (bb n : Nat) (b : Bd) (F : List Seg) : Prop := ∃ q c sl, OwnSl 178 7 q b.ss.length c (spsV b.ss) sl ∧ Hp w0 w ([(bb, cel (bdV n b q c) 115)] :: sl :: F)
def addO (b : Bd) (s : Sp) : Prop := b.sm ∧ s.sml = true ∧ formB s.stp = true
instance {b : Bd} {s : Sp} : Decidable (addO b s) := inferInstanceAs (Decidable (_ ∧ _))
theorem cadd_b {w0 w : World} {F : List Seg} {bb n : Nat} {b : Bd} (H : BHp w0 w bb n b F) (hT : SlAt F (some ⟨12, 0, none⟩) tableC) {s : Sp} (ho : addO b s) : Ret Tryz.prog 114 [.pointer (some ⟨bb, 0, none⟩), .agg (spV s).toArray] w fun _ w' => BHp w0 w' bb n (b.ad s) F := by
 refine Calls.of_J (n := 27) Tryz.func114 rfl rfl rfl (J.seq ?_)
 obtain ⟨hb, hs, hf⟩ := ho
 obtain ⟨hb1, hb2, hb3, hb4⟩ := hb
 have hsc := sml_count hs
 obtain ⟨q, c, sl, ho, H⟩ := H
 refine J.region (JL.e (EX.box (v := .agg (spV s).toArray) (l := spV s) H rfl rfl) ?_)
 rintro _ w ⟨b1, rfl, H⟩
 refine JL.nil (J.seq (J.seq ?_))
 replace H := H.pull 1 rfl
 refine J.region (JL.mp rfl (JL.e (EX.call rfl cl90 rfl ((cfull_b H ⟨hb1, hb2, hb3, hb4⟩))) ?_))
 rintro _ w ⟨rfl, H⟩
 refine JL.nil (J.cond_f rfl rfl (J.skip (J.seq ?_)))
 replace H := H.pull 2 rfl
 refine J.any hmix fun w hs => ?_
 replace H := H.same hs; clear hs
 refine JA.take 0 rfl (by kernel_rfl) (by kernel_rfl) (by kernel_rfl) rfl trivial (fun w => RX.movev (v := .pointer _) rfl) (JA.take 1 rfl (by kernel_rfl) (by kernel_rfl) (by kernel_rfl) rfl trivial (fun w => RX.movev (v := .pointer _) rfl) (JA.take 2 rfl (by kernel_rfl) (by kernel_rfl) (by kernel_rfl) rfl trivial (fun w => RX.nilCheck rfl) (JA.take 3 rfl (by kernel_rfl) (by kernel_rfl) (by kernel_rfl) rfl trivial (fun w => RX.fieldAddr rfl fo115_0 rfl) (JA.take 4 rfl (by kernel_rfl) (by kernel_rfl) (by kernel_rfl) rfl trivial (fun w => RX.fieldAddr rfl fo74_4 rfl) (JA.all [5, 6] (by kernel_rfl) (by decide) (⟨?_, ?_⟩))))))
 ·
  refine JO.go rfl rfl trivial (RX.load H rfl (i := 1) rfl rfl one72) (JA.all [6] (by kernel_rfl) (by decide) (JO.go rfl rfl trivial (RX.loadAgg H rfl (i := 2) (vs := spV s) rfl rfl ag178) (JA.all [7] (by kernel_rfl) (by decide) (JO.does rfl rfl trivial (EX.buildSlice (pv := [(0, .agg (spV s).toArray)]) (l := spV s) (e := 178) H rfl (by kernel_rfl)) ?_))))
  rintro _ w ⟨b9, rfl, H⟩
  refine JA.all [8] (by kernel_rfl) (by decide) (JO.does rfl rfl trivial (EX.append (ys := spV s) (L' := fun s' => [(b9, cel (spV s) 178)] :: s' :: [(bb, cel (bdV n b q c) 115)] :: [(b1, cel (spV s) 178)] :: F) H elSp rfl rfl (i := 1) rfl ho (SlAt.here List.take_length) (spV_len s) (spV_cells s) (by decide) (by omega) (by omega) (fun _ => rfl)) ?_)
  rintro _ w ⟨q2, c2, sl2, rfl, ho2, H⟩
  rw [← spsV_add] at ho2
  refine JA.take 9 rfl (by kernel_rfl) (by kernel_rfl) (by kernel_rfl) rfl trivial (fun w => RX.nilCheck rfl) (JA.take 10 rfl (by kernel_rfl) (by kernel_rfl) (by kernel_rfl) rfl trivial (fun w => RX.fieldAddr rfl fo115_0 rfl) (JA.take 11 rfl (by kernel_rfl) (by kernel_rfl) (by kernel_rfl) rfl trivial (fun w => RX.fieldAddr rfl fo74_4 rfl) (JA.all [12] (by kernel_rfl) (by decide) (JO.does rfl rfl trivial (EX.store (v := .slice _ _ _) H rfl rfl (i := 2) rfl rfl (by simp [bdV]) sz72 rfl rfl) ?_))))
  rintro _ w H
  refine JA.done (by kernel_rfl) ?_
  replace H : Hp w0 w (sl2 :: [(bb, cel ((bdV n b q c).set 4 (.slice q2 (b.ss.length + 1) c2)) 115)] :: [(b1, cel (spV s) 178)] :: F) := H.drop
  refine J.any hmix fun w hs => ?_
  replace H := H.same hs; clear hs
  refine JA.take 0 rfl (by kernel_rfl) (by kernel_rfl) (by kernel_rfl) rfl trivial (fun w => RX.movev (v := .pointer _) rfl) (JA.take 1 rfl (by kernel_rfl) (by kernel_rfl) (by kernel_rfl) rfl trivial (fun w => RX.nilCheck rfl) (JA.take 2 rfl (by kernel_rfl) (by kernel_rfl) (by kernel_rfl) rfl trivial (fun w => RX.fieldAddr rfl fo115_1 rfl) (JA.all [3, 4] (by kernel_rfl) (by decide) (⟨?_, ?_⟩))))
  ·
   refine JO.go rfl rfl trivial (RX.load H rfl (i := 1) (v := .int _ _) rfl rfl one3) (JA.all [4] (by kernel_rfl) (by decide) (JO.go rfl rfl trivial (RX.loadAgg H rfl (i := 2) (vs := spV s) rfl rfl ag178) (JA.all [5] (by kernel_rfl) (by decide) (JO.does rfl rfl trivial (EX.call rfl cl138 rfl ((show Ret _ _ [.agg (spV s).toArray] w _ from Acts_b (s := s.stp) H hT.cons.cons.cons (stp_ok hs)))) ?_))))
   rintro _ w ⟨rfl, H⟩
   rw [if_pos hf]
   refine JA.take 6 rfl (by kernel_rfl) (by kernel_rfl) (by kernel_rfl) rfl trivial (fun w => RX.add rfl rfl (wi (n := b.ac + s.count) (by show _ + ((s.count : Nat) : Int) = _; omega) (by omega))) ?_
   refine JA.take 7 rfl (by kernel_rfl) (by kernel_rfl) (by kernel_rfl) rfl trivial (fun w => RX.nilCheck rfl) (JA.take 8 rfl (by kernel_rfl) (by kernel_rfl) (by kernel_rfl) rfl trivial (fun w => RX.fieldAddr rfl fo115_1 rfl) (JA.all [9] (by kernel_rfl) (by decide) (JO.does rfl rfl trivial (EX.store (v := .int _ _) H rfl rfl (i := 1) rfl rfl (by simp [bdV]) sz3 rfl rfl) ?_)))
   rintro _ w H
   refine JA.done (by kernel_rfl) (J.end0 Tryz.func114 rfl ?_)
   have H := ((H.pull 2 rfl).drop).pull 1 rfl
   exact ⟨_, rfl, q2, c2, sl2, by simpa [Bd.ad] using ho2, by simpa [Bd.ad, bdV] using H⟩
  ·
   refine JO.go rfl rfl trivial (RX.loadAgg H rfl (i := 2) (vs := spV s) rfl rfl ag178) (JA.all [3, 5] (by kernel_rfl) (by decide) (⟨?_, ?_⟩))
   ·
    refine JO.go rfl rfl trivial (RX.load H rfl (i := 1) (v := .int _ _) rfl rfl one3) (JA.all [5] (by kernel_rfl) (by decide) (JO.does rfl rfl trivial (EX.call rfl cl138 rfl ((show Ret _ _ [.agg (spV s).toArray] w _ from Acts_b (s := s.stp) H hT.cons.cons.cons (stp_ok hs)))) ?_))
    rintro _ w ⟨rfl, H⟩
    rw [if_pos hf]
    refine JA.take 6 rfl (by kernel_rfl) (by kernel_rfl) (by kernel_rfl) rfl trivial (fun w => RX.add rfl rfl (wi (n := b.ac + s.count) (by show _ + ((s.count : Nat) : Int) = _; omega) (by omega))) ?_
    refine JA.take 7 rfl (by kernel_rfl) (by kernel_rfl) (by kernel_rfl) rfl trivial (fun w => RX.nilCheck rfl) (JA.take 8 rfl (by kernel_rfl) (by kernel_rfl) (by kernel_rfl) rfl trivial (fun w => RX.fieldAddr rfl fo115_1 rfl) (JA.all [9] (by kernel_rfl) (by decide) (JO.does rfl rfl trivial (EX.store (v := .int _ _) H rfl rfl (i := 1) rfl rfl (by simp [bdV]) sz3 rfl rfl) ?_)))
    rintro _ w H
    refine JA.done (by kernel_rfl) (J.end0 Tryz.func114 rfl ?_)
    have H := ((H.pull 2 rfl).drop).pull 1 rfl
    exact ⟨_, rfl, q2, c2, sl2, by simpa [Bd.ad] using ho2, by simpa [Bd.ad, bdV] using H⟩
   ·
    refine JO.does rfl rfl trivial (EX.call rfl cl138 rfl ((show Ret _ _ [.agg (spV s).toArray] w _ from Acts_b (s := s.stp) H hT.cons.cons.cons (stp_ok hs)))) ?_
    rintro _ w ⟨rfl, H⟩
    rw [if_pos hf]
    refine JA.all [3] (by kernel_rfl) (by decide) (JO.go rfl rfl trivial (RX.load H rfl (i := 1) (v := .int _ _) rfl rfl one3) (JA.take 6 rfl (by kernel_rfl) (by kernel_rfl) (by kernel_rfl) rfl trivial (fun w => RX.add rfl rfl (wi (n := b.ac + s.count) (by show _ + ((s.count : Nat) : Int) = _; omega) (by omega))) ?_))
    refine JA.take 7 rfl (by kernel_rfl) (by kernel_rfl) (by kernel_rfl) rfl trivial (fun w => RX.nilCheck rfl) (JA.take 8 rfl (by kernel_rfl) (by kernel_rfl) (by kernel_rfl) rfl trivial (fun w => RX.fieldAddr rfl fo115_1 rfl) (JA.all [9] (by kernel_rfl) (by decide) (JO.does rfl rfl trivial (EX.store (v := .int _ _) H rfl rfl (i := 1) rfl rfl (by simp [bdV]) sz3 rfl rfl) ?_)))
    rintro _ w H
    refine JA.done (by kernel_rfl) (J.end0 Tryz.func114 rfl ?_)
    have H := ((H.pull 2 rfl).drop).pull 1 rfl
    exact ⟨_, rfl, q2, c2, sl2, by simpa [Bd.ad] using ho2, by simpa [Bd.ad, bdV] using H⟩
 ·
  refine JO.go rfl rfl trivial (RX.loadAgg H rfl (i := 2) (vs := spV s) rfl rfl ag178) (JA.all [5, 7] (by kernel_rfl) (by decide) (⟨?_, ?_⟩))
  ·
   refine JO.go rfl rfl trivial (RX.load H rfl (i := 1) rfl rfl one72) (JA.all [7] (by kernel_rfl) (by decide) (JO.does rfl rfl trivial (EX.buildSlice (pv := [(0, .agg (spV s).toArray)]) (l := spV s) (e := 178) H rfl (by kernel_rfl)) ?_))
   rintro _ w ⟨b9, rfl, H⟩
   refine JA.all [8] (by kernel_rfl) (by decide) (JO.does rfl rfl trivial (EX.append (ys := spV s) (L' := fun s' => [(b9, cel (spV s) 178)] :: s' :: [(bb, cel (bdV n b q c) 115)] :: [(b1, cel (spV s) 178)] :: F) H elSp rfl rfl (i := 1) rfl ho (SlAt.here List.take_length) (spV_len s) (spV_cells s) (by decide) (by omega) (by omega) (fun _ => rfl)) ?_)
   rintro _ w ⟨q2, c2, sl2, rfl, ho2, H⟩
   rw [← spsV_add] at ho2
   refine JA.take 9 rfl (by kernel_rfl) (by kernel_rfl) (by kernel_rfl) rfl trivial (fun w => RX.nilCheck rfl) (JA.take 10 rfl (by kernel_rfl) (by kernel_rfl) (by kernel_rfl) rfl trivial (fun w => RX.fieldAddr rfl fo115_0 rfl) (JA.take 11 rfl (by kernel_rfl) (by kernel_rfl) (by kernel_rfl) rfl trivial (fun w => RX.fieldAddr rfl fo74_4 rfl) (JA.all [12] (by kernel_rfl) (by decide) (JO.does rfl rfl trivial (EX.store (v := .slice _ _ _) H rfl rfl (i := 2) rfl rfl (by simp [bdV]) sz72 rfl rfl) ?_))))
   rintro _ w H
   refine JA.done (by kernel_rfl) ?_
   replace H : Hp w0 w (sl2 :: [(bb, cel ((bdV n b q c).set 4 (.slice q2 (b.ss.length + 1) c2)) 115)] :: [(b1, cel (spV s) 178)] :: F) := H.drop
   refine J.any hmix fun w hs => ?_
   replace H := H.same hs; clear hs
   refine JA.take 0 rfl (by kernel_rfl) (by kernel_rfl) (by kernel_rfl) rfl trivial (fun w => RX.movev (v := .pointer _) rfl) (JA.take 1 rfl (by kernel_rfl) (by kernel_rfl) (by kernel_rfl) rfl trivial (fun w => RX.nilCheck rfl) (JA.take 2 rfl (by kernel_rfl) (by kernel_rfl) (by kernel_rfl) rfl trivial (fun w => RX.fieldAddr rfl fo115_1 rfl) (JA.all [3, 4] (by kernel_rfl) (by decide) (⟨?_, ?_⟩))))
   ·
    refine JO.go rfl rfl trivial (RX.load H rfl (i := 1) (v := .int _ _) rfl rfl one3) (JA.all [4] (by kernel_rfl) (by decide) (JO.go rfl rfl trivial (RX.loadAgg H rfl (i := 2) (vs := spV s) rfl rfl ag178) (JA.all [5] (by kernel_rfl) (by decide) (JO.does rfl rfl trivial (EX.call rfl cl138 rfl ((show Ret _ _ [.agg (spV s).toArray] w _ from Acts_b (s := s.stp) H hT.cons.cons.cons (stp_ok hs)))) ?_))))
    rintro _ w ⟨rfl, H⟩
    rw [if_pos hf]
    refine JA.take 6 rfl (by kernel_rfl) (by kernel_rfl) (by kernel_rfl) rfl trivial (fun w => RX.add rfl rfl (wi (n := b.ac + s.count) (by show _ + ((s.count : Nat) : Int) = _; omega) (by omega))) ?_
    refine JA.take 7 rfl (by kernel_rfl) (by kernel_rfl) (by kernel_rfl) rfl trivial (fun w => RX.nilCheck rfl) (JA.take 8 rfl (by kernel_rfl) (by kernel_rfl) (by kernel_rfl) rfl trivial (fun w => RX.fieldAddr rfl fo115_1 rfl) (JA.all [9] (by kernel_rfl) (by decide) (JO.does rfl rfl trivial (EX.store (v := .int _ _) H rfl rfl (i := 1) rfl rfl (by simp [bdV]) sz3 rfl rfl) ?_)))
    rintro _ w H
    refine JA.done (by kernel_rfl) (J.end0 Tryz.func114 rfl ?_)
    have H := ((H.pull 2 rfl).drop).pull 1 rfl
    exact ⟨_, rfl, q2, c2, sl2, by simpa [Bd.ad] using ho2, by simpa [Bd.ad, bdV] using H⟩
   ·
    refine JO.go rfl rfl trivial (RX.loadAgg H rfl (i := 2) (vs := spV s) rfl rfl ag178) (JA.all [3, 5] (by kernel_rfl) (by decide) (⟨?_, ?_⟩))
    ·
     refine JO.go rfl rfl trivial (RX.load H rfl (i := 1) (v := .int _ _) rfl rfl one3) (JA.all [5] (by kernel_rfl) (by decide) (JO.does rfl rfl trivial (EX.call rfl cl138 rfl ((show Ret _ _ [.agg (spV s).toArray] w _ from Acts_b (s := s.stp) H hT.cons.cons.cons (stp_ok hs)))) ?_))
     rintro _ w ⟨rfl, H⟩
     rw [if_pos hf]
     refine JA.take 6 rfl (by kernel_rfl) (by kernel_rfl) (by kernel_rfl) rfl trivial (fun w => RX.add rfl rfl (wi (n := b.ac + s.count) (by show _ + ((s.count : Nat) : Int) = _; omega) (by omega))) ?_
     refine JA.take 7 rfl (by kernel_rfl) (by kernel_rfl) (by kernel_rfl) rfl trivial (fun w => RX.nilCheck rfl) (JA.take 8 rfl (by kernel_rfl) (by kernel_rfl) (by kernel_rfl) rfl trivial (fun w => RX.fieldAddr rfl fo115_1 rfl) (JA.all [9] (by kernel_rfl) (by decide) (JO.does rfl rfl trivial (EX.store (v := .int _ _) H rfl rfl (i := 1) rfl rfl (by simp [bdV]) sz3 rfl rfl) ?_)))
     rintro _ w H
     refine JA.done (by kernel_rfl) (J.end0 Tryz.func114 rfl ?_)
     have H := ((H.pull 2 rfl).drop).pull 1 rfl
     exact ⟨_, rfl, q2, c2, sl2, by simpa [Bd.ad] using ho2, by simpa [Bd.ad, bdV] using H⟩
    ·
     refine JO.does rfl rfl trivial (EX.call rfl cl138 rfl ((show Ret _ _ [.agg (spV s).toArray] w _ from Acts_b (s := s.stp) H hT.cons.cons.cons (stp_ok hs)))) ?_
     rintro _ w ⟨rfl, H⟩
     rw [if_pos hf]
     refine JA.all [3] (by kernel_rfl) (by decide) (JO.go rfl rfl trivial (RX.load H rfl (i := 1) (v := .int _ _) rfl rfl one3) (JA.take 6 rfl (by kernel_rfl) (by kernel_rfl) (by kernel_rfl) rfl trivial (fun w => RX.add rfl rfl (wi (n := b.ac + s.count) (by show _ + ((s.count : Nat) : Int) = _; omega) (by omega))) ?_))
     refine JA.take 7 rfl (by kernel_rfl) (by kernel_rfl) (by kernel_rfl) rfl trivial (fun w => RX.nilCheck rfl) (JA.take 8 rfl (by kernel_rfl) (by kernel_rfl) (by kernel_rfl) rfl trivial (fun w => RX.fieldAddr rfl fo115_1 rfl) (JA.all [9] (by kernel_rfl) (by decide) (JO.does rfl rfl trivial (EX.store (v := .int _ _) H rfl rfl (i := 1) rfl rfl (by simp [bdV]) sz3 rfl rfl) ?_)))
     rintro _ w H
     refine JA.done (by kernel_rfl) (J.end0 Tryz.func114 rfl ?_)
     have H := ((H.pull 2 rfl).drop).pull 1 rfl
     exact ⟨_, rfl, q2, c2, sl2, by simpa [Bd.ad] using ho2, by simpa [Bd.ad, bdV] using H⟩
  ·
   refine JO.does rfl rfl trivial (EX.buildSlice (pv := [(0, .agg (spV s).toArray)]) (l := spV s) (e := 178) H rfl (by kernel_rfl)) ?_
   rintro _ w ⟨b9, rfl, H⟩
   refine JA.all [5] (by kernel_rfl) (by decide) (JO.go rfl rfl trivial (RX.load H rfl (i := 2) rfl rfl one72) (JA.all [8] (by kernel_rfl) (by decide) (JO.does rfl rfl trivial (EX.append (ys := spV s) (L' := fun s' => [(b9, cel (spV s) 178)] :: s' :: [(bb, cel (bdV n b q c) 115)] :: [(b1, cel (spV s) 178)] :: F) H elSp rfl rfl (i := 1) rfl ho (SlAt.here List.take_length) (spV_len s) (spV_cells s) (by decide) (by omega) (by omega) (fun _ => rfl)) ?_)))
   rintro _ w ⟨q2, c2, sl2, rfl, ho2, H⟩
   rw [← spsV_add] at ho2
   refine JA.take 9 rfl (by kernel_rfl) (by kernel_rfl) (by kernel_rfl) rfl trivial (fun w => RX.nilCheck rfl) (JA.take 10 rfl (by kernel_rfl) (by kernel_rfl) (by kernel_rfl) rfl trivial (fun w => RX.fieldAddr rfl fo115_0 rfl) (JA.take 11 rfl (by kernel_rfl) (by kernel_rfl) (by kernel_rfl) rfl trivial (fun w => RX.fieldAddr rfl fo74_4 rfl) (JA.all [12] (by kernel_rfl) (by decide) (JO.does rfl rfl trivial (EX.store (v := .slice _ _ _) H rfl rfl (i := 2) rfl rfl (by simp [bdV]) sz72 rfl rfl) ?_))))
   rintro _ w H
   refine JA.done (by kernel_rfl) ?_
   replace H : Hp w0 w (sl2 :: [(bb, cel ((bdV n b q c).set 4 (.slice q2 (b.ss.length + 1) c2)) 115)] :: [(b1, cel (spV s) 178)] :: F) := H.drop
   refine J.any hmix fun w hs => ?_
   replace H := H.same hs; clear hs
   refine JA.take 0 rfl (by kernel_rfl) (by kernel_rfl) (by kernel_rfl) rfl trivial (fun w => RX.movev (v := .pointer _) rfl) (JA.take 1 rfl (by kernel_rfl) (by kernel_rfl) (by kernel_rfl) rfl trivial (fun w => RX.nilCheck rfl) (JA.take 2 rfl (by kernel_rfl) (by kernel_rfl) (by kernel_rfl) rfl trivial (fun w => RX.fieldAddr rfl fo115_1 rfl) (JA.all [3, 4] (by kernel_rfl) (by decide) (⟨?_, ?_⟩))))
   ·
    refine JO.go rfl rfl trivial (RX.load H rfl (i := 1) (v := .int _ _) rfl rfl one3) (JA.all [4] (by kernel_rfl) (by decide) (JO.go rfl rfl trivial (RX.loadAgg H rfl (i := 2) (vs := spV s) rfl rfl ag178) (JA.all [5] (by kernel_rfl) (by decide) (JO.does rfl rfl trivial (EX.call rfl cl138 rfl ((show Ret _ _ [.agg (spV s).toArray] w _ from Acts_b (s := s.stp) H hT.cons.cons.cons (stp_ok hs)))) ?_))))
    rintro _ w ⟨rfl, H⟩
    rw [if_pos hf]
    refine JA.take 6 rfl (by kernel_rfl) (by kernel_rfl) (by kernel_rfl) rfl trivial (fun w => RX.add rfl rfl (wi (n := b.ac + s.count) (by show _ + ((s.count : Nat) : Int) = _; omega) (by omega))) ?_
    refine JA.take 7 rfl (by kernel_rfl) (by kernel_rfl) (by kernel_rfl) rfl trivial (fun w => RX.nilCheck rfl) (JA.take 8 rfl (by kernel_rfl) (by kernel_rfl) (by kernel_rfl) rfl trivial (fun w => RX.fieldAddr rfl fo115_1 rfl) (JA.all [9] (by kernel_rfl) (by decide) (JO.does rfl rfl trivial (EX.store (v := .int _ _) H rfl rfl (i := 1) rfl rfl (by simp [bdV]) sz3 rfl rfl) ?_)))
    rintro _ w H
    refine JA.done (by kernel_rfl) (J.end0 Tryz.func114 rfl ?_)
    have H := ((H.pull 2 rfl).drop).pull 1 rfl
    exact ⟨_, rfl, q2, c2, sl2, by simpa [Bd.ad] using ho2, by simpa [Bd.ad, bdV] using H⟩
   ·
    refine JO.go rfl rfl trivial (RX.loadAgg H rfl (i := 2) (vs := spV s) rfl rfl ag178) (JA.all [3, 5] (by kernel_rfl) (by decide) (⟨?_, ?_⟩))
    ·
     refine JO.go rfl rfl trivial (RX.load H rfl (i := 1) (v := .int _ _) rfl rfl one3) (JA.all [5] (by kernel_rfl) (by decide) (JO.does rfl rfl trivial (EX.call rfl cl138 rfl ((show Ret _ _ [.agg (spV s).toArray] w _ from Acts_b (s := s.stp) H hT.cons.cons.cons (stp_ok hs)))) ?_))
     rintro _ w ⟨rfl, H⟩
     rw [if_pos hf]
     refine JA.take 6 rfl (by kernel_rfl) (by kernel_rfl) (by kernel_rfl) rfl trivial (fun w => RX.add rfl rfl (wi (n := b.ac + s.count) (by show _ + ((s.count : Nat) : Int) = _; omega) (by omega))) ?_
     refine JA.take 7 rfl (by kernel_rfl) (by kernel_rfl) (by kernel_rfl) rfl trivial (fun w => RX.nilCheck rfl) (JA.take 8 rfl (by kernel_rfl) (by kernel_rfl) (by kernel_rfl) rfl trivial (fun w => RX.fieldAddr rfl fo115_1 rfl) (JA.all [9] (by kernel_rfl) (by decide) (JO.does rfl rfl trivial (EX.store (v := .int _ _) H rfl rfl (i := 1) rfl rfl (by simp [bdV]) sz3 rfl rfl) ?_)))
     rintro _ w H
     refine JA.done (by kernel_rfl) (J.end0 Tryz.func114 rfl ?_)
     have H := ((H.pull 2 rfl).drop).pull 1 rfl
     exact ⟨_, rfl, q2, c2, sl2, by simpa [Bd.ad] using ho2, by simpa [Bd.ad, bdV] using H⟩
    ·
     refine JO.does rfl rfl trivial (EX.call rfl cl138 rfl ((show Ret _ _ [.agg (spV s).toArray] w _ from Acts_b (s := s.stp) H hT.cons.cons.cons (stp_ok hs)))) ?_
     rintro _ w ⟨rfl, H⟩
     rw [if_pos hf]
     refine JA.all [3] (by kernel_rfl) (by decide) (JO.go rfl rfl trivial (RX.load H rfl (i := 1) (v := .int _ _) rfl rfl one3) (JA.take 6 rfl (by kernel_rfl) (by kernel_rfl) (by kernel_rfl) rfl trivial (fun w => RX.add rfl rfl (wi (n := b.ac + s.count) (by show _ + ((s.count : Nat) : Int) = _; omega) (by omega))) ?_))
     refine JA.take 7 rfl (by kernel_rfl) (by kernel_rfl) (by kernel_rfl) rfl trivial (fun w => RX.nilCheck rfl) (JA.take 8 rfl (by kernel_rfl) (by kernel_rfl) (by kernel_rfl) rfl trivial (fun w => RX.fieldAddr rfl fo115_1 rfl) (JA.all [9] (by kernel_rfl) (by decide) (JO.does rfl rfl trivial (EX.store (v := .int _ _) H rfl rfl (i := 1) rfl rfl (by simp [bdV]) sz3 rfl rfl) ?_)))
     rintro _ w H
     refine JA.done (by kernel_rfl) (J.end0 Tryz.func114 rfl ?_)
     have H := ((H.pull 2 rfl).drop).pull 1 rfl
     exact ⟨_, rfl, q2, c2, sl2, by simpa [Bd.ad] using ho2, by simpa [Bd.ad, bdV] using H⟩
end Oo
end Go.Proofs.YtfaokllgaambjaaGreatDoor
namespace Go.Proofs.YtfaokllgaambjaaGreatDoor
open Go Go.Eng
set_option maxRecDepth 100000
set_option maxHeartbeats 1600000
theorem ag142 : aggOf Tryz.prog 142 = some 3 := by kernel_rfl
theorem cl114 : callable Tryz.prog 114 = true := by kernel_rfl
theorem cl115 : callable Tryz.prog 115 = true := by kernel_rfl
theorem cl116 : callable Tryz.prog 116 = true := by kernel_rfl
theorem cl117 : callable Tryz.prog 117 = true := by kernel_rfl
namespace Oo
theorem deepD_b {w0 w : World} {F : List Seg} {bb n m src jump dst l c0 : Nat} {b : Bd} {p : Option Addr} (H : BHp w0 w bb n b F) (hT : SlAt F (some ⟨12, 0, none⟩) tableC) (h1 : addO b ⟨6, dst, src, jump, m, m, 0⟩) : Ret Tryz.prog 88 [.pointer (some ⟨bb, 0, none⟩), .agg (tv 1 ((m : Nat) : Int) p l c0).toArray, .agg (inV src jump dst).toArray] w fun _ w' => BHp w0 w' bb n (b.ad ⟨6, dst, src, jump, m, m, 0⟩) F := by
 refine Calls.of_J (n := 59) Tryz.func88 rfl rfl rfl (J.seq ?_)
 obtain ⟨q, c, sl, hO, H⟩ := H
 have hb := h1.1
 refine J.region (JL.e (EX.box (v := .agg _) H rfl rfl) ?_)
 rintro _ w ⟨b4, rfl, H⟩
 refine JL.e (EX.box (v := .agg _) H rfl rfl) ?_
 rintro _ w ⟨b5, rfl, H⟩
 refine JL.nil (J.seq (J.seq ?_))
 replace H := H.pull 2 rfl
 refine J.region (JL.mp rfl (JL.e (EX.call rfl cl90 rfl ((cfull_b H hb))) ?_))
 rintro _ w ⟨rfl, H⟩
 refine JL.nil (J.cond_f rfl rfl (J.skip (J.seq (J.region (JL.mp rfl (JL.g (RX.nilCheck rfl) (JL.g (RX.fieldAddr rfl fo115_2 rfl) (JL.g (RX.load H rfl (i := 0) (v := .int _ _) rfl rfl one3) (JL.ai rfl (JL.nil (J.seq (J.seq (J.region (JL.g (RX.fieldAddr rfl fo39_0 rfl) (JL.g (RX.load H rfl (i := 2) (v := .int _ _) rfl rfl one3) (JL.nil (J.block (J.seq (J.region (JL.g (RX.eq rfl rfl) (JL.ab rfl (JL.nil (J.cond_t rfl (by decide) (J.region (JL.mp rfl (JL.g (RX.loadAgg H rfl (i := 1) (vs := inV src jump dst) rfl rfl ag142) (JL.g (RX.fieldAddr rfl fo39_1 rfl) (JL.g (RX.load H rfl (i := 2) (v := .int _ _) rfl rfl one3) (JL.e (EX.call rfl cl115 rfl ((cdirect_b H))) ?_)))))))))))))))))))))))))))))
 rintro _ w ⟨rfl, H⟩
 refine JL.e (EX.call rfl cl114 rfl ((cadd_b (F := [(b5, cel (inV src jump dst) 142)] :: [(b4, cel (tv 1 ((m : Nat) : Int) p l c0) 39)] :: F) ⟨q, c, sl, hO, ((H.pull 3 rfl).pull 1 rfl)⟩ hT.cons.cons h1))) ?_
 rintro _ w ⟨q, c, sl, hO, H⟩
 refine JL.nil (J.inBlock (J.region (JL.mp rfl (JL.mi rfl (JL.g (RX.nilCheck rfl) (JL.g (RX.fieldAddr rfl fo115_2 rfl) (JL.e (EX.store (v := .int _ _) H rfl rfl (i := 0) rfl rfl (by simp [bdV]) sz3 rfl rfl) ?_)))))))
 rintro _ w H
 refine JL.nil (J.end0 Tryz.func88 rfl ?_)
 exact ⟨_, rfl, q, c, sl, hO, ((H.pull 3 rfl).drop.pull 2 rfl).drop⟩
theorem deepF_b {w0 w : World} {F : List Seg} {bb n m src jump dst l c0 : Nat} {b : Bd} {p : Option Addr} (H : BHp w0 w bb n b F) (hT : SlAt F (some ⟨12, 0, none⟩) tableC) (h1 : addO b ⟨1, dst, src, jump, m, 0, 0⟩) (h2 : addO (b.ad ⟨1, dst, src, jump, m, 0, 0⟩) ⟨5, dst, 0, 1, 1, m, 0⟩) : Ret Tryz.prog 88 [.pointer (some ⟨bb, 0, none⟩), .agg (tv 2 ((m : Nat) : Int) p l c0).toArray, .agg (inV src jump dst).toArray] w fun _ w' => BHp w0 w' bb n ((b.ad ⟨1, dst, src, jump, m, 0, 0⟩).ad ⟨5, dst, 0, 1, 1, m, 0⟩) F := by
 refine Calls.of_J (n := 59) Tryz.func88 rfl rfl rfl (J.seq ?_)
 obtain ⟨q, c, sl, hO, H⟩ := H
 have hb := h1.1
 refine J.region (JL.e (EX.box (v := .agg _) H rfl rfl) ?_)
 rintro _ w ⟨b4, rfl, H⟩
 refine JL.e (EX.box (v := .agg _) H rfl rfl) ?_
 rintro _ w ⟨b5, rfl, H⟩
 refine JL.nil (J.seq (J.seq ?_))
 replace H := H.pull 2 rfl
 refine J.region (JL.mp rfl (JL.e (EX.call rfl cl90 rfl ((cfull_b H hb))) ?_))
 rintro _ w ⟨rfl, H⟩
 refine JL.nil (J.cond_f rfl rfl (J.skip (J.seq (J.region (JL.mp rfl (JL.g (RX.nilCheck rfl) (JL.g (RX.fieldAddr rfl fo115_2 rfl) (JL.g (RX.load H rfl (i := 0) (v := .int _ _) rfl rfl one3) (JL.ai rfl (JL.nil (J.seq (J.seq (J.region (JL.g (RX.fieldAddr rfl fo39_0 rfl) (JL.g (RX.load H rfl (i := 2) (v := .int _ _) rfl rfl one3) (JL.nil (J.block (J.seq (J.region (JL.g (RX.eq rfl rfl) (JL.ab rfl (JL.nil (J.cond_f rfl (by decide) (J.seq (J.region (JL.g (RX.eq rfl rfl) (JL.ab rfl (JL.nil (J.cond_t rfl (by decide) (J.seq (J.region (JL.mp rfl (JL.g (RX.fieldAddr rfl fo142_2 rfl) (JL.g (RX.load H rfl (i := 1) (v := .int _ _) rfl rfl one3) (JL.g (RX.fieldAddr rfl fo142_0 rfl) (JL.g (RX.load H rfl (i := 1) (v := .int _ _) rfl rfl one3) (JL.g (RX.fieldAddr rfl fo142_1 rfl) (JL.g (RX.load H rfl (i := 1) (v := .int _ _) rfl rfl one3) (JL.g (RX.fieldAddr rfl fo39_1 rfl) (JL.g (RX.load H rfl (i := 2) (v := .int _ _) rfl rfl one3) (JL.e (EX.call rfl cl116 rfl ((cgather_b H))) ?_)))))))))))))))))))))))))))))))))))))))))
 rintro _ w ⟨rfl, H⟩
 refine JL.e (EX.call rfl cl114 rfl ((cadd_b (F := [(b5, cel (inV src jump dst) 142)] :: [(b4, cel (tv 2 ((m : Nat) : Int) p l c0) 39)] :: F) ⟨q, c, sl, hO, ((H.pull 3 rfl).pull 1 rfl)⟩ hT.cons.cons h1))) ?_
 rintro _ w ⟨q, c, sl, hO, H⟩
 refine JL.nil (J.region (JL.mp rfl (JL.g (RX.fieldAddr rfl fo142_2 rfl) (JL.g (RX.load H rfl (i := 2) (v := .int _ _) rfl rfl one3) (JL.g (RX.fieldAddr rfl fo39_1 rfl) (JL.g (RX.load H rfl (i := 3) (v := .int _ _) rfl rfl one3) (JL.e (EX.call rfl cl117 rfl ((show Ret _ _ [.int .i64 ((dst : Nat) : Int), .int .i64 ((1 : Nat) : Int), .int .i64 ((1 : Nat) : Int), .int .i64 ((m : Nat) : Int)] w _ from cfly_b H))) ?_)))))))
 rintro _ w ⟨rfl, H⟩
 refine JL.e (EX.call rfl cl114 rfl ((cadd_b (F := [(b5, cel (inV src jump dst) 142)] :: [(b4, cel (tv 2 ((m : Nat) : Int) p l c0) 39)] :: F) ⟨q, c, sl, hO, H⟩ hT.cons.cons h2))) ?_
 rintro _ w ⟨q, c, sl, hO, H⟩
 refine JL.nil (J.inBlock (J.region (JL.mp rfl (JL.mi rfl (JL.g (RX.nilCheck rfl) (JL.g (RX.fieldAddr rfl fo115_2 rfl) (JL.e (EX.store (v := .int _ _) H rfl rfl (i := 0) rfl rfl (by simp [bdV]) sz3 rfl rfl) ?_)))))))
 rintro _ w H
 refine JL.nil (J.end0 Tryz.func88 rfl ?_)
 exact ⟨_, rfl, q, c, sl, hO, ((H.pull 3 rfl).drop.pull 2 rfl).drop⟩
end Oo
end Go.Proofs.YtfaokllgaambjaaGreatDoor
namespace Go.Proofs.YtfaokllgaambjaaGreatDoor
open Go Go.Eng
set_option maxRecDepth 100000
set_option maxHeartbeats 1600000
namespace Oo
def kf (f : Bool) : Int := if f then 2 else 1
def lfT (f : Bool) : Tr := .node (kf f) 2 []
theorem lfT_parts (f : Bool) : (lfT f).parts ≤ 4194304 := by unfold lfT; rw [Tr.parts, partsL]; omega
theorem lfT_len (f : Bool) : lenO (lfT f) = 2 := by
 unfold lenO lfT
 cases f
 · rw [lw_dir (k := kf false) (by omega) ⟨rfl, rfl, by omega, by omega⟩]
 · rw [lw_fly (k := kf true) (by omega) (by rintro ⟨h, _⟩; exact absurd h (by decide)) ⟨rfl, rfl, by omega, by omega⟩]
@[reducible] def kidV (fa fb : Bool) (p1 p2 : Option Addr) (c1 c2 : Nat) : List Value := tv (kf fa) 2 p1 0 c1 ++ tv (kf fb) 2 p2 0 c2
theorem csize_b {w0 w : World} {F : List Seg} (H : Hp w0 w F) {fa fb : Bool} {pb po c1 c2 ck : Nat} {p1 p2 : Option Addr} (hs : SlAt F (some ⟨pb, po, none⟩) (kidV fa fb p1 p2 c1 c2)) (ha : (lfT fa).Is F (tv (kf fa) 2 p1 0 c1)) (hk : (lfT fb).Is F (tv (kf fb) 2 p2 0 c2)) : Ret Tryz.prog 139 [.agg (tv 3 0 (some ⟨pb, po, none⟩) 2 ck).toArray] w fun v w' => v = .tuple #[.int .i64 ((2 : Nat) : Int), .int .i64 ((2 : Nat) : Int), .bool fa] ∧ Hp w0 w' F := by
 refine Calls.of_J (n := 21) Tryz.func139 rfl rfl rfl (J.seq (J.region (JL.e (EX.box (v := .agg _) H rfl rfl) ?_)))
 rintro _ w ⟨b1, rfl, H⟩
 refine JL.g (RX.assign) (JL.g (RX.assign) (JL.g (RX.assign) (JL.nil (J.seq (J.quietH H hmix (by kernel_rfl) (JQ.g (fun w H => RX.fieldAddr rfl fo39_2 rfl) (JQ.g (fun w H => RX.load H rfl (i := 0) (v := .slice _ _ _) rfl rfl one37) (JQ.g (fun w H => RX.indexAddr rfl rfl sl37 (by omega) (by omega) (o' := po + 0 * 3) (by omega)) (JQ.g (fun w H => RX.loadAggS H hs.cons rfl (j := 0 * 3) (by omega) (vs := tv (kf fa) 2 p1 0 c1) rfl ag39) (JQ.call trivial (fun w H => run_callq rfl cl85 rfl) (fun w H => (show Ret _ _ [.agg (tv (kf fa) 2 p1 0 c1).toArray] w fun v w2 => v = .int .i64 ((2 : Nat) : Int) ∧ _ by have h9 := Length_b H ha.cons (lfT_parts fa); rw [lfT_len] at h9; exact h9)) ?_))))))))))
 refine JQ.g (fun w H => RX.fieldAddr rfl fo39_2 rfl) (JQ.g (fun w H => RX.load H rfl (i := 0) (v := .slice _ _ _) rfl rfl one37) (JQ.g (fun w H => RX.indexAddr rfl rfl sl37 (by omega) (by omega) (o' := po + 1 * 3) (by omega)) (JQ.g (fun w H => RX.loadAggS H hs.cons rfl (j := 1 * 3) (by omega) (vs := tv (kf fb) 2 p2 0 c2) rfl ag39) (JQ.call trivial (fun w H => run_callq rfl cl85 rfl) (fun w H => (show Ret _ _ [.agg (tv (kf fb) 2 p2 0 c2).toArray] w fun v w2 => v = .int .i64 ((2 : Nat) : Int) ∧ _ by have h9 := Length_b H hk.cons (lfT_parts fb); rw [lfT_len] at h9; exact h9)) ?_))))
 refine JQ.g (fun w H => RX.fieldAddr rfl fo39_2 rfl) (JQ.g (fun w H => RX.load H rfl (i := 0) (v := .slice _ _ _) rfl rfl one37) (JQ.g (fun w H => RX.indexAddr rfl rfl sl37 (by omega) (by omega) (o' := po + 0 * 3) (by omega)) (JQ.g (fun w H => RX.fieldAddr rfl fo39_0 rfl) (JQ.g (fun w H => RX.loadS H hs.cons rfl (j := 0) (by omega) (v := .int .i64 (kf fa)) rfl one3) (JQ.g (fun w H => RX.eq rfl rfl) (JQ.g (fun w H => RX.assignv (v := .int _ _) rfl) (JQ.g (fun w H => RX.assignv (v := .int _ _) rfl) (JQ.g (fun w H => RX.assignv (v := .bool _) rfl) (JQ.nil fun w H => (J.ret3 (v := .int _ _) (x := Value.int _ _) (y := Value.bool _) Tryz.func139 rfl rfl rfl rfl ?_))))))))))
 exact ⟨_, rfl, by cases fa <;> rfl, H.drop⟩
end Oo
end Go.Proofs.YtfaokllgaambjaaGreatDoor
namespace Go.Proofs.YtfaokllgaambjaaGreatDoor
open Go Go.Eng
set_option maxRecDepth 100000
set_option maxHeartbeats 1600000
theorem cl118 : callable Tryz.prog 118 = true := by kernel_rfl
theorem cl139 : callable Tryz.prog 139 = true := by kernel_rfl
theorem cl140 : callable Tryz.prog 140 = true := by kernel_rfl
theorem cl141 : callable Tryz.prog 141 = true := by kernel_rfl
theorem cl87 : callable Tryz.prog 87 = true := by kernel_rfl
theorem cl88 : callable Tryz.prog 88 = true := by kernel_rfl
namespace Oo
def leafB (f : Bool) (s j d : Nat) (b : Bd) : Bd := if f then (b.ad ⟨1, d, s, j, 2, 0, 0⟩).ad ⟨5, d, 0, 1, 1, 2, 0⟩ else b.ad ⟨6, d, s, j, 2, 2, 0⟩
def leafO (f : Bool) (s j d : Nat) (b : Bd) : Prop := if f then addO b ⟨1, d, s, j, 2, 0, 0⟩ ∧ addO (b.ad ⟨1, d, s, j, 2, 0, 0⟩) ⟨5, d, 0, 1, 1, 2, 0⟩ else addO b ⟨6, d, s, j, 2, 2, 0⟩
instance {f : Bool} {s j d : Nat} {b : Bd} : Decidable (leafO f s j d b) := by unfold leafO; exact inferInstance
theorem deepL_b {w0 w : World} {F : List Seg} {bb n s j d c0 : Nat} {b : Bd} {p : Option Addr} {f : Bool} (H : BHp w0 w bb n b F) (hT : SlAt F (some ⟨12, 0, none⟩) tableC) (h : leafO f s j d b) :
 Ret Tryz.prog 88 [.pointer (some ⟨bb, 0, none⟩), .agg (tv (kf f) 2 p 0 c0).toArray, .agg (inV s j d).toArray] w fun _ w' => BHp w0 w' bb n (leafB f s j d b) F := by
 cases f
 · exact deepD_b (m := 2) H hT h
 · exact deepF_b (m := 2) H hT h.1 h.2
def d0 : Bd := ⟨[], 8, 0, 8⟩
def dA (fa : Bool) : Bd := if fa then d0 else (d0.rg 4).rg 2
def tmO (fa : Bool) : Nat := if fa then 4 else 8
def st1 (fa fb : Bool) : Nat → Bd
  | 0 => dA fa
  | i + 1 => if 0 < i then (leafB fb (0 + i * 1) (1 * 2) (tmO fa + i * 2) (st1 fa fb i)).ad ⟨4, tmO fa + i * 2, 0, 0, 2, 4, i⟩ else leafB fb (0 + i * 1) (1 * 2) (tmO fa + i * 2) (st1 fa fb i)
def st2 (fb : Bool) : Nat → Bd
  | 0 => st1 false fb 2
  | j + 1 => (leafB false (8 + j) 2 12 (st2 fb j)).ad ⟨2, 4 + j, 12, 2, 2, 0, 0⟩
theorem st1_leaf {fa fb : Bool} {i : Nat} (h : i < 2) : leafO fb (0 + i * 1) (1 * 2) (tmO fa + i * 2) (st1 fa fb i) := by
 have : i = 0 ∨ i = 1 := by omega
 rcases this with rfl | rfl <;> cases fa <;> cases fb <;> decide +kernel
theorem st1_twist {fa fb : Bool} {i : Nat} (h : i < 2) (h0 : 0 < i) : addO (leafB fb (0 + i * 1) (1 * 2) (tmO fa + i * 2) (st1 fa fb i)) ⟨4, tmO fa + i * 2, 0, 0, 2, 4, i⟩ := by
 have : i = 1 := by omega
 subst this
 cases fa <;> cases fb <;> decide +kernel
theorem st2_leaf {fb : Bool} {j : Nat} (h : j < 2) : leafO false (8 + j) 2 12 (st2 fb j) := by
 have : j = 0 ∨ j = 1 := by omega
 rcases this with rfl | rfl <;> cases fb <;> decide +kernel
theorem st2_put {fb : Bool} {j : Nat} (h : j < 2) : addO (leafB false (8 + j) 2 12 (st2 fb j)) ⟨2, 4 + j, 12, 2, 2, 0, 0⟩ := by
 have : j = 0 ∨ j = 1 := by omega
 rcases this with rfl | rfl <;> cases fb <;> decide +kernel
theorem st1_fly {fb : Bool} : addO (st1 true fb 2) ⟨5, 4, 0, 2, 2, 2, 0⟩ := by cases fb <;> decide +kernel
theorem deepTf_b {w0 w : World} {F : List Seg} {bb : Nat} (H : BHp w0 w bb 4 d0 F) (hT : SlAt F (some ⟨12, 0, none⟩) tableC) {fb : Bool} {pb po c1 c2 ck : Nat} {p1 p2 : Option Addr} (hs : SlAt F (some ⟨pb, po, none⟩) (kidV true fb p1 p2 c1 c2)) (ha : (lfT true).Is F (tv (kf true) 2 p1 0 c1)) (hk : (lfT fb).Is F (tv (kf fb) 2 p2 0 c2)) : Ret Tryz.prog 118 [.pointer (some ⟨bb, 0, none⟩), .agg (tv 3 0 (some ⟨pb, po, none⟩) 2 ck).toArray, .agg (inV 0 1 4).toArray] w fun _ w' => BHp w0 w' bb 4 ((st1 true fb 2).ad ⟨5, 4, 0, 2, 2, 2, 0⟩) F := by
 refine Calls.of_J (n := 110) Tryz.func118 rfl rfl rfl (J.seq ?_)
 obtain ⟨q, c, sl, hO, H⟩ := H
 refine J.region (JL.e (EX.box (v := .agg _) H rfl rfl) ?_)
 rintro _ w ⟨b4, rfl, H⟩
 refine JL.e (EX.box (v := .agg _) H rfl rfl) ?_
 rintro _ w ⟨b5, rfl, H⟩
 refine JL.nil (J.seq ?_)
 replace H := H.pull 2 rfl
 refine J.region (JL.g (RX.loadAgg H rfl (i := 2) (vs := tv 3 0 (some ⟨pb, po, none⟩) 2 ck) rfl rfl ag39) (JL.e (EX.call rfl cl139 rfl ((csize_b H hs.cons.cons.cons.cons ha.cons.cons.cons.cons hk.cons.cons.cons.cons))) ?_))
 rintro _ w ⟨rfl, H⟩
 refine JL.g (RX.movev (v := .tuple _) rfl) (JL.g (RX.extract (v := .int _ _) rfl rfl) (JL.g (RX.extract (v := .int _ _) rfl rfl) (JL.g (RX.extract (v := .bool _) rfl rfl) (JL.ai rfl (JL.ai rfl (JL.ab rfl (JL.nil (J.seq (J.region (JL.mi rfl (JL.mi rfl (JL.g (RX.mul rfl rfl (wi (n := 4) (by decide) (by omega))) (JL.ai rfl (JL.nil (J.seq (J.region (JL.g (RX.fieldAddr rfl fo142_2 rfl) (JL.g (RX.load H rfl (i := 1) (v := .int _ _) rfl rfl one3) (JL.ai rfl (JL.g (RX.assign) (JL.nil (J.seq (J.seq (J.region (JL.mb rfl (JL.g (RX.not rfl) (JL.nil (J.cond_f rfl rfl (J.skip (J.seq (J.seq (J.region (JL.mi rfl (JL.g (RX.move) (JL.nil (J.block (J.loop (ι := Nat) (S := fun i => [(34, .int .i64 ((i : Nat) : Int))]) (Φ := fun i w => i ≤ 2 ∧ BHp w0 w bb 4 (st1 true fb i) ([(b5, cel (inV 0 1 4) 142)] :: [(b4, cel (tv 3 0 (some ⟨pb, po, none⟩) 2 ck) 39)] :: F)) (μ := fun i => 2 - i) (C := [(0, _), (4, _), (5, _), (6, _), (7, _), (8, _), (9, _), (10, _), (11, _), (33, _)]) 0 ⟨rfl, rfl, rfl, rfl, rfl, rfl, rfl, rfl, rfl, rfl, trivial⟩ ⟨rfl, trivial⟩ ?_ ?_)))))))))))))))))))))))))))))))))))))
 · exact ⟨by omega, q, c, sl, hO, (H.pull 3 rfl).pull 1 rfl⟩
 clear H
 rintro i ρ w ⟨hi, H⟩ IH
 refine J.seq (J.region (JL.g (RX.lt rfl rfl) (JL.nil (J.seq (J.cond_d rfl (fun hlt => ?_) (fun hlt => ?_))))))
 ·
  have hi2 : i < 2 := by omega
  obtain ⟨q, c, sl, hO, H⟩ := H
  have h8 := st1_leaf (fa := true) (fb := fb) hi2
  refine J.skip (J.seq (J.block (J.seq (J.region (JL.mi rfl (JL.ai rfl (JL.nil (J.seq (J.any hmix fun w hs => ?_)))))))))
  replace H := H.same hs; clear hs
  refine JA.stage (listed := [false, false, false, false, false, false, false, false, false, false, false, false, false, false, false, false, false, false, false, false, false, false, false]) 22 [0, 1, 2, 3, 4, 5, 6, 7, 8, 9, 10, 11, 12, 13, 14, 15, 16, 17, 18, 19, 20, 21] H (by kernel_rfl) rfl rfl (JI.go rfl trivial (fun w H => RX.movev (v := .pointer _) rfl) (JI.go rfl trivial (fun w H => RX.fieldAddr rfl fo39_2 rfl) (JI.go rfl trivial (fun w H => RX.load H rfl (i := 3) (v := .slice _ _ _) rfl rfl one37) (JI.go rfl trivial (fun w H => RX.indexAddr rfl rfl sl37 (by omega) (by omega) (o' := po + 1 * 3) (by omega)) (JI.go rfl trivial (fun w H => RX.loadAggS H hs.cons.cons.cons.cons rfl (j := 1 * 3) (by omega) (vs := tv (kf fb) 2 p2 0 c2) rfl ag39) (JI.go rfl trivial (fun w H => RX.fieldAddr rfl fo142_0 rfl) (JI.go rfl trivial (fun w H => RX.load H rfl (i := 2) (v := .int _ _) rfl rfl one3) (JI.go rfl trivial (fun w H => RX.movev (v := .int _ _) rfl) (JI.go rfl trivial (fun w H => RX.fieldAddr rfl fo142_1 rfl) (JI.go rfl trivial (fun w H => RX.load H rfl (i := 2) (v := .int _ _) rfl rfl one3) (JI.go rfl trivial (fun w H => RX.mul rfl rfl (wi (n := i * 1) (by omega) (by omega))) (JI.go rfl trivial (fun w H => RX.add rfl rfl (wi (n := 0 + i * 1) (by omega) (by omega))) (JI.go rfl trivial (fun w H => RX.fieldAddr rfl fo142_1 rfl) (JI.go rfl trivial (fun w H => RX.load H rfl (i := 2) (v := .int _ _) rfl rfl one3) (JI.go rfl trivial (fun w H => RX.movev (v := .int _ _) rfl) (JI.go rfl trivial (fun w H => RX.mul rfl rfl (wi (n := 1 * 2) (by decide) (by omega))) (JI.go rfl trivial (fun w H => RX.movev (v := .int _ _) rfl) (JI.go rfl trivial (fun w H => RX.movev (v := .int _ _) rfl) (JI.go rfl trivial (fun w H => RX.movev (v := .int _ _) rfl) (JI.go rfl trivial (fun w H => RX.mul rfl rfl (wi (n := i * 2) (by omega) (by omega))) (JI.go rfl trivial (fun w H => RX.add rfl rfl (wi (n := tmO true + i * 2) (by show (((4 : Nat) : Int)) + _ = _; unfold tmO; simp) (by unfold tmO; simp; omega))) ?_)))))))))))))))))))))
  refine JI.go rfl trivial (fun w H => RX.build (pv := [(0, .int .i64 ((0 + i * 1 : Nat) : Int)), (1, .int .i64 ((1 * 2 : Nat) : Int)), (2, .int .i64 ((tmO true + i * 2 : Nat) : Int))]) (res := inV (0 + i * 1) (1 * 2) (tmO true + i * 2)) rfl (by kernel_rfl)) (JI.nil fun w H => (JL.e (EX.call rfl cl88 rfl ((deepL_b ⟨q, c, sl, hO, H⟩ hT.cons.cons h8))) ?_))
  rintro _ w H
  refine JL.nil (J.seq (J.region (JL.mi rfl (JL.g (RX.gt rfl rfl) (JL.nil (J.cond_d rfl (fun hpos => ?_) (fun hpos => ?_)))))))
  ·
   obtain ⟨q, c, sl, hO, H⟩ := H
   refine J.region (JL.mp rfl (JL.mi rfl (JL.mi rfl (JL.mi rfl (JL.g (RX.mul rfl rfl (wi (n := i * 2) (by omega) (by omega))) (JL.g (RX.add rfl rfl (wi (n := tmO true + i * 2) (by show (((4 : Nat) : Int)) + _ = _; unfold tmO; simp) (by unfold tmO; simp; omega))) ?_))))))
   refine JL.mi rfl (JL.mi rfl (JL.mi rfl (JL.e (EX.call rfl cl140 rfl ((show Ret _ _ [.int .i64 ((tmO true + i * 2 : Nat) : Int), .int .i64 ((2 : Nat) : Int), .int .i64 ((4 : Nat) : Int), .int .i64 ((i : Nat) : Int)] w _ from ctwist_b H))) ?_)))
   rintro _ w ⟨rfl, H⟩
   refine JL.e (EX.call rfl cl114 rfl ((cadd_b ⟨q, c, sl, hO, H⟩ hT.cons.cons (st1_twist hi2 (by omega))))) ?_
   rintro _ w H
   refine JL.nil (J.inBlock (J.region (JL.g (RX.add rfl rfl (w_i64 rfl (by omega) (by omega))) (JL.mi rfl (JL.nil ?_)))))
   first
   | exact IH (i + 1) _ _ (by omega) ⟨rfl, rfl, rfl, rfl, rfl, rfl, rfl, rfl, rfl, rfl, trivial⟩ ⟨rfl, trivial⟩ ⟨by omega, by rw [st1]; rw [if_pos (by omega)]; exact H⟩
   | exact IH (i + 1) _ _ (by omega) ⟨rfl, rfl, rfl, rfl, rfl, rfl, rfl, rfl, rfl, rfl, trivial⟩ ⟨rfl, trivial⟩ ⟨by omega, by rw [st1]; rw [if_neg (by omega)]; exact H⟩
  ·
   refine J.skip (J.inBlock (J.region (JL.g (RX.add rfl rfl (w_i64 rfl (by omega) (by omega))) (JL.mi rfl (JL.nil ?_)))))
   first
   | exact IH (i + 1) _ _ (by omega) ⟨rfl, rfl, rfl, rfl, rfl, rfl, rfl, rfl, rfl, rfl, trivial⟩ ⟨rfl, trivial⟩ ⟨by omega, by rw [st1]; rw [if_pos (by omega)]; exact H⟩
   | exact IH (i + 1) _ _ (by omega) ⟨rfl, rfl, rfl, rfl, rfl, rfl, rfl, rfl, rfl, rfl, trivial⟩ ⟨rfl, trivial⟩ ⟨by omega, by rw [st1]; rw [if_neg (by omega)]; exact H⟩
 ·
  refine J.exit rfl (J.seq (J.seq ?_))
  obtain rfl : i = 2 := by omega
  obtain ⟨q, c, sl, hO, H⟩ := H
  refine J.region (JL.mb rfl (JL.nil (J.cond_t rfl rfl (J.seq (J.region (JL.mp rfl (JL.g (RX.fieldAddr rfl fo142_2 rfl) (JL.g (RX.load H rfl (i := 2) (v := .int _ _) rfl rfl one3) (JL.mi rfl (JL.mi rfl (JL.mi rfl (JL.e (EX.call rfl cl117 rfl ((show Ret _ _ [.int .i64 ((4 : Nat) : Int), .int .i64 ((2 : Nat) : Int), .int .i64 ((2 : Nat) : Int), .int .i64 ((2 : Nat) : Int)] w _ from cfly_b H))) ?_))))))))))))
  rintro _ w ⟨rfl, H⟩
  refine JL.e (EX.call rfl cl114 rfl ((cadd_b ⟨q, c, sl, hO, H⟩ hT.cons.cons st1_fly))) ?_
  rintro _ w H
  refine JL.nil (J.ret0 Tryz.func118 rfl ?_)
  obtain ⟨q, c, sl, hO, H⟩ := H
  exact ⟨_, rfl, q, c, sl, hO, (((H.pull 2 rfl).drop.pull 2 rfl).drop)⟩
theorem deepTd_b {w0 w : World} {F : List Seg} {bb : Nat} (H : BHp w0 w bb 4 d0 F) (hT : SlAt F (some ⟨12, 0, none⟩) tableC) {fb : Bool} {pb po c1 c2 ck : Nat} {p1 p2 : Option Addr} (hs : SlAt F (some ⟨pb, po, none⟩) (kidV false fb p1 p2 c1 c2)) (ha : (lfT false).Is F (tv (kf false) 2 p1 0 c1)) (hk : (lfT fb).Is F (tv (kf fb) 2 p2 0 c2)) : Ret Tryz.prog 118 [.pointer (some ⟨bb, 0, none⟩), .agg (tv 3 0 (some ⟨pb, po, none⟩) 2 ck).toArray, .agg (inV 0 1 4).toArray] w fun _ w' => BHp w0 w' bb 4 (st2 fb 2) F := by
 refine Calls.of_J (n := 110) Tryz.func118 rfl rfl rfl (J.seq ?_)
 obtain ⟨q, c, sl, hO, H⟩ := H
 refine J.region (JL.e (EX.box (v := .agg _) H rfl rfl) ?_)
 rintro _ w ⟨b4, rfl, H⟩
 refine JL.e (EX.box (v := .agg _) H rfl rfl) ?_
 rintro _ w ⟨b5, rfl, H⟩
 refine JL.nil (J.seq ?_)
 replace H := H.pull 2 rfl
 refine J.region (JL.g (RX.loadAgg H rfl (i := 2) (vs := tv 3 0 (some ⟨pb, po, none⟩) 2 ck) rfl rfl ag39) (JL.e (EX.call rfl cl139 rfl ((csize_b H hs.cons.cons.cons.cons ha.cons.cons.cons.cons hk.cons.cons.cons.cons))) ?_))
 rintro _ w ⟨rfl, H⟩
 refine JL.g (RX.movev (v := .tuple _) rfl) (JL.g (RX.extract (v := .int _ _) rfl rfl) (JL.g (RX.extract (v := .int _ _) rfl rfl) (JL.g (RX.extract (v := .bool _) rfl rfl) (JL.ai rfl (JL.ai rfl (JL.ab rfl (JL.nil (J.seq (J.region (JL.mi rfl (JL.mi rfl (JL.g (RX.mul rfl rfl (wi (n := 4) (by decide) (by omega))) (JL.ai rfl (JL.nil (J.seq (J.region (JL.g (RX.fieldAddr rfl fo142_2 rfl) (JL.g (RX.load H rfl (i := 1) (v := .int _ _) rfl rfl one3) (JL.ai rfl (JL.g (RX.assign) (JL.nil (J.seq (J.seq (J.region (JL.mb rfl (JL.g (RX.not rfl) (JL.nil (J.cond_t rfl rfl (J.region (JL.mp rfl (JL.mi rfl (JL.e (EX.call rfl cl87 rfl ((show Ret _ _ [.pointer (some ⟨bb, 0, none⟩), .int .i64 ((4 : Nat) : Int)] w fun v w2 => v = .int .i64 ((8 : Nat) : Int) ∧ _ from cregion_b H (by decide) (by decide)))) ?_))))))))))))))))))))))))))))))))
 rintro _ w ⟨rfl, H⟩
 refine JL.mp rfl (JL.mi rfl (JL.e (EX.call rfl cl87 rfl ((show Ret _ _ [.pointer (some ⟨bb, 0, none⟩), .int .i64 ((2 : Nat) : Int)] w fun v w2 => v = .int .i64 ((12 : Nat) : Int) ∧ _ from cregion_b H (by decide) (by decide)))) ?_))
 rintro _ w ⟨rfl, H⟩
 refine JL.ai rfl (JL.ai rfl (JL.nil (J.seq (J.seq (J.region (JL.mi rfl (JL.g (RX.move) (JL.nil (J.block (J.loop (ι := Nat) (S := fun i => [(34, .int .i64 ((i : Nat) : Int))]) (Φ := fun i w => i ≤ 2 ∧ BHp w0 w bb 4 (st1 false fb i) ([(b5, cel (inV 0 1 4) 142)] :: [(b4, cel (tv 3 0 (some ⟨pb, po, none⟩) 2 ck) 39)] :: F)) (μ := fun i => 2 - i) (C := [(0, _), (4, _), (5, _), (6, _), (7, _), (8, _), (9, _), (10, _), (11, _), (33, _)]) 0 ⟨rfl, rfl, rfl, rfl, rfl, rfl, rfl, rfl, rfl, rfl, trivial⟩ ⟨rfl, trivial⟩ ?_ ?_))))))))))
 · exact ⟨by omega, q, c, sl, hO, (H.pull 3 rfl).pull 1 rfl⟩
 clear H
 rintro i ρ w ⟨hi, H⟩ IH
 refine J.seq (J.region (JL.g (RX.lt rfl rfl) (JL.nil (J.seq (J.cond_d rfl (fun hlt => ?_) (fun hlt => ?_))))))
 ·
  have hi2 : i < 2 := by omega
  obtain ⟨q, c, sl, hO, H⟩ := H
  have h8 := st1_leaf (fa := false) (fb := fb) hi2
  refine J.skip (J.seq (J.block (J.seq (J.region (JL.mi rfl (JL.ai rfl (JL.nil (J.seq (J.any hmix fun w hs => ?_)))))))))
  replace H := H.same hs; clear hs
  refine JA.stage (listed := [false, false, false, false, false, false, false, false, false, false, false, false, false, false, false, false, false, false, false, false, false, false, false]) 22 [0, 1, 2, 3, 4, 5, 6, 7, 8, 9, 10, 11, 12, 13, 14, 15, 16, 17, 18, 19, 20, 21] H (by kernel_rfl) rfl rfl (JI.go rfl trivial (fun w H => RX.movev (v := .pointer _) rfl) (JI.go rfl trivial (fun w H => RX.fieldAddr rfl fo39_2 rfl) (JI.go rfl trivial (fun w H => RX.load H rfl (i := 3) (v := .slice _ _ _) rfl rfl one37) (JI.go rfl trivial (fun w H => RX.indexAddr rfl rfl sl37 (by omega) (by omega) (o' := po + 1 * 3) (by omega)) (JI.go rfl trivial (fun w H => RX.loadAggS H hs.cons.cons.cons.cons rfl (j := 1 * 3) (by omega) (vs := tv (kf fb) 2 p2 0 c2) rfl ag39) (JI.go rfl trivial (fun w H => RX.fieldAddr rfl fo142_0 rfl) (JI.go rfl trivial (fun w H => RX.load H rfl (i := 2) (v := .int _ _) rfl rfl one3) (JI.go rfl trivial (fun w H => RX.movev (v := .int _ _) rfl) (JI.go rfl trivial (fun w H => RX.fieldAddr rfl fo142_1 rfl) (JI.go rfl trivial (fun w H => RX.load H rfl (i := 2) (v := .int _ _) rfl rfl one3) (JI.go rfl trivial (fun w H => RX.mul rfl rfl (wi (n := i * 1) (by omega) (by omega))) (JI.go rfl trivial (fun w H => RX.add rfl rfl (wi (n := 0 + i * 1) (by omega) (by omega))) (JI.go rfl trivial (fun w H => RX.fieldAddr rfl fo142_1 rfl) (JI.go rfl trivial (fun w H => RX.load H rfl (i := 2) (v := .int _ _) rfl rfl one3) (JI.go rfl trivial (fun w H => RX.movev (v := .int _ _) rfl) (JI.go rfl trivial (fun w H => RX.mul rfl rfl (wi (n := 1 * 2) (by decide) (by omega))) (JI.go rfl trivial (fun w H => RX.movev (v := .int _ _) rfl) (JI.go rfl trivial (fun w H => RX.movev (v := .int _ _) rfl) (JI.go rfl trivial (fun w H => RX.movev (v := .int _ _) rfl) (JI.go rfl trivial (fun w H => RX.mul rfl rfl (wi (n := i * 2) (by omega) (by omega))) (JI.go rfl trivial (fun w H => RX.add rfl rfl (wi (n := tmO false + i * 2) (by show (((8 : Nat) : Int)) + _ = _; unfold tmO; simp) (by unfold tmO; simp; omega))) ?_)))))))))))))))))))))
  refine JI.go rfl trivial (fun w H => RX.build (pv := [(0, .int .i64 ((0 + i * 1 : Nat) : Int)), (1, .int .i64 ((1 * 2 : Nat) : Int)), (2, .int .i64 ((tmO false + i * 2 : Nat) : Int))]) (res := inV (0 + i * 1) (1 * 2) (tmO false + i * 2)) rfl (by kernel_rfl)) (JI.nil fun w H => (JL.e (EX.call rfl cl88 rfl ((deepL_b ⟨q, c, sl, hO, H⟩ hT.cons.cons h8))) ?_))
  rintro _ w H
  refine JL.nil (J.seq (J.region (JL.mi rfl (JL.g (RX.gt rfl rfl) (JL.nil (J.cond_d rfl (fun hpos => ?_) (fun hpos => ?_)))))))
  ·
   obtain ⟨q, c, sl, hO, H⟩ := H
   refine J.region (JL.mp rfl (JL.mi rfl (JL.mi rfl (JL.mi rfl (JL.g (RX.mul rfl rfl (wi (n := i * 2) (by omega) (by omega))) (JL.g (RX.add rfl rfl (wi (n := tmO false + i * 2) (by show (((8 : Nat) : Int)) + _ = _; unfold tmO; simp) (by unfold tmO; simp; omega))) ?_))))))
   refine JL.mi rfl (JL.mi rfl (JL.mi rfl (JL.e (EX.call rfl cl140 rfl ((show Ret _ _ [.int .i64 ((tmO false + i * 2 : Nat) : Int), .int .i64 ((2 : Nat) : Int), .int .i64 ((4 : Nat) : Int), .int .i64 ((i : Nat) : Int)] w _ from ctwist_b H))) ?_)))
   rintro _ w ⟨rfl, H⟩
   refine JL.e (EX.call rfl cl114 rfl ((cadd_b ⟨q, c, sl, hO, H⟩ hT.cons.cons (st1_twist hi2 (by omega))))) ?_
   rintro _ w H
   refine JL.nil (J.inBlock (J.region (JL.g (RX.add rfl rfl (w_i64 rfl (by omega) (by omega))) (JL.mi rfl (JL.nil ?_)))))
   first
   | exact IH (i + 1) _ _ (by omega) ⟨rfl, rfl, rfl, rfl, rfl, rfl, rfl, rfl, rfl, rfl, trivial⟩ ⟨rfl, trivial⟩ ⟨by omega, by rw [st1]; rw [if_pos (by omega)]; exact H⟩
   | exact IH (i + 1) _ _ (by omega) ⟨rfl, rfl, rfl, rfl, rfl, rfl, rfl, rfl, rfl, rfl, trivial⟩ ⟨rfl, trivial⟩ ⟨by omega, by rw [st1]; rw [if_neg (by omega)]; exact H⟩
  ·
   refine J.skip (J.inBlock (J.region (JL.g (RX.add rfl rfl (w_i64 rfl (by omega) (by omega))) (JL.mi rfl (JL.nil ?_)))))
   first
   | exact IH (i + 1) _ _ (by omega) ⟨rfl, rfl, rfl, rfl, rfl, rfl, rfl, rfl, rfl, rfl, trivial⟩ ⟨rfl, trivial⟩ ⟨by omega, by rw [st1]; rw [if_pos (by omega)]; exact H⟩
   | exact IH (i + 1) _ _ (by omega) ⟨rfl, rfl, rfl, rfl, rfl, rfl, rfl, rfl, rfl, rfl, trivial⟩ ⟨rfl, trivial⟩ ⟨by omega, by rw [st1]; rw [if_neg (by omega)]; exact H⟩
 ·
  refine J.exit rfl (J.seq (J.seq ?_))
  obtain rfl : i = 2 := by omega
  refine J.region (JL.mb rfl (JL.nil (J.cond_f rfl rfl (J.skip (J.seq (J.region (JL.mi rfl (JL.g (RX.move) (JL.nil (J.block (J.loop (ι := Nat) (S := fun j => [(84, .int .i64 ((j : Nat) : Int))]) (Φ := fun j w => j ≤ 2 ∧ BHp w0 w bb 4 (st2 fb j) ([(b5, cel (inV 0 1 4) 142)] :: [(b4, cel (tv 3 0 (some ⟨pb, po, none⟩) 2 ck) 39)] :: F)) (μ := fun j => 2 - j) (C := [(0, _), (4, _), (5, _), (6, _), (7, _), (10, _), (11, _), (83, _)]) 0 ⟨rfl, rfl, rfl, rfl, rfl, rfl, rfl, rfl, trivial⟩ ⟨rfl, trivial⟩ ?_ ?_)))))))))))
  · exact ⟨by omega, H⟩
  clear H
  rintro j ρ w ⟨hj, H⟩ IH
  refine J.seq (J.region (JL.g (RX.lt rfl rfl) (JL.nil (J.seq (J.cond_d rfl (fun hlt2 => ?_) (fun hlt2 => ?_))))))
  ·
   have hj2 : j < 2 := by omega
   obtain ⟨q, c, sl, hO, H⟩ := H
   refine J.skip (J.seq (J.block (J.seq (J.region (JL.mi rfl (JL.ai rfl (JL.nil (J.seq (J.region (JL.mp rfl (JL.g (RX.fieldAddr rfl fo39_2 rfl) (JL.g (RX.load H rfl (i := 3) (v := .slice _ _ _) rfl rfl one37) (JL.g (RX.indexAddr rfl rfl sl37 (by omega) (by omega) (o' := po + 0 * 3) (by omega)) (JL.g (RX.loadAggS H hs.cons.cons.cons.cons rfl (j := 0 * 3) (by omega) (vs := tv (kf false) 2 p1 0 c1) rfl ag39) (JL.mi rfl (JL.mi rfl (JL.g (RX.add rfl rfl (wi (n := 8 + j) (by omega) (by omega))) (JL.mi rfl (JL.mi rfl (JL.g (RX.build (pv := [(0, .int .i64 ((8 + j : Nat) : Int)), (1, .int .i64 ((2 : Nat) : Int)), (2, .int .i64 ((12 : Nat) : Int))]) (res := inV (8 + j) 2 12) rfl (by kernel_rfl)) (JL.e (EX.call rfl cl88 rfl ((deepL_b ⟨q, c, sl, hO, H⟩ hT.cons.cons (st2_leaf (fb := fb) hj2)))) ?_)))))))))))))))))))))
   rintro _ w H
   refine JL.nil ?_
   obtain ⟨q, c, sl, hO, H⟩ := H
   refine J.region (JL.mp rfl (JL.g (RX.fieldAddr rfl fo142_2 rfl) (JL.g (RX.load H rfl (i := 2) (v := .int _ _) rfl rfl one3) (JL.mi rfl (JL.g (RX.add rfl rfl (wi (n := 4 + j) (by omega) (by omega))) (JL.mi rfl (JL.mi rfl (JL.mi rfl (JL.e (EX.call rfl cl141 rfl ((show Ret _ _ [.int .i64 ((4 + j : Nat) : Int), .int .i64 ((12 : Nat) : Int), .int .i64 ((2 : Nat) : Int), .int .i64 ((2 : Nat) : Int)] w _ from cscatter_b H))) ?_)))))))))
   rintro _ w ⟨rfl, H⟩
   refine JL.e (EX.call rfl cl114 rfl ((cadd_b ⟨q, c, sl, hO, H⟩ hT.cons.cons (st2_put (fb := fb) hj2)))) ?_
   rintro _ w H
   refine JL.nil (J.inBlock (J.region (JL.g (RX.add rfl rfl (w_i64 rfl (by omega) (by omega))) (JL.mi rfl (JL.nil ?_)))))
   exact IH (j + 1) _ _ (by omega) ⟨rfl, rfl, rfl, rfl, rfl, rfl, rfl, rfl, trivial⟩ ⟨rfl, trivial⟩ ⟨by omega, H⟩
  ·
   obtain rfl : j = 2 := by omega
   refine J.exit rfl (J.end0 Tryz.func118 rfl ?_)
   obtain ⟨q, c, sl, hO, H⟩ := H
   exact ⟨_, rfl, q, c, sl, hO, (((H.pull 2 rfl).drop.pull 2 rfl).drop)⟩
def prD (fa fb : Bool) : Bd := if fa then (st1 true fb 2).ad ⟨5, 4, 0, 2, 2, 2, 0⟩ else st2 fb 2
theorem deepTT_b {w0 w : World} {F : List Seg} {bb : Nat} (H : BHp w0 w bb 4 d0 F) (hT : SlAt F (some ⟨12, 0, none⟩) tableC) {fa fb : Bool} {pb po c1 c2 ck : Nat} {p1 p2 : Option Addr} (hs : SlAt F (some ⟨pb, po, none⟩) (kidV fa fb p1 p2 c1 c2)) (ha : (lfT fa).Is F (tv (kf fa) 2 p1 0 c1)) (hk : (lfT fb).Is F (tv (kf fb) 2 p2 0 c2)) : Ret Tryz.prog 118 [.pointer (some ⟨bb, 0, none⟩), .agg (tv 3 0 (some ⟨pb, po, none⟩) 2 ck).toArray, .agg (inV 0 1 4).toArray] w fun _ w' => BHp w0 w' bb 4 (prD fa fb) F := by
 cases fa
 · exact deepTd_b H hT hs ha hk
 · exact deepTf_b H hT hs ha hk
theorem deepP_b {w0 w : World} {F : List Seg} {bb : Nat} (H : BHp w0 w bb 4 d0 F) (hT : SlAt F (some ⟨12, 0, none⟩) tableC) {fa fb : Bool} {pb po c1 c2 ck : Nat} {p1 p2 : Option Addr} (hs : SlAt F (some ⟨pb, po, none⟩) (kidV fa fb p1 p2 c1 c2)) (ha : (lfT fa).Is F (tv (kf fa) 2 p1 0 c1)) (hk : (lfT fb).Is F (tv (kf fb) 2 p2 0 c2)) : Ret Tryz.prog 88 [.pointer (some ⟨bb, 0, none⟩), .agg (tv 3 0 (some ⟨pb, po, none⟩) 2 ck).toArray, .agg (inV 0 1 4).toArray] w fun _ w' => BHp w0 w' bb 4 ((prD fa fb).ff 8) F := by
 refine Calls.of_J (n := 59) Tryz.func88 rfl rfl rfl (J.seq ?_)
 obtain ⟨q, c, sl, hO, H⟩ := H
 refine J.region (JL.e (EX.box (v := .agg _) H rfl rfl) ?_)
 rintro _ w ⟨b4, rfl, H⟩
 refine JL.e (EX.box (v := .agg _) H rfl rfl) ?_
 rintro _ w ⟨b5, rfl, H⟩
 refine JL.nil (J.seq (J.seq ?_))
 replace H := H.pull 2 rfl
 refine J.region (JL.mp rfl (JL.e (EX.call rfl cl90 rfl ((cfull_b H (by decide)))) ?_))
 rintro _ w ⟨rfl, H⟩
 refine JL.nil (J.cond_f rfl rfl (J.skip (J.seq (J.region (JL.mp rfl (JL.g (RX.nilCheck rfl) (JL.g (RX.fieldAddr rfl fo115_2 rfl) (JL.g (RX.load H rfl (i := 0) (v := .int _ _) rfl rfl one3) (JL.ai rfl (JL.nil (J.seq (J.seq (J.region (JL.g (RX.fieldAddr rfl fo39_0 rfl) (JL.g (RX.load H rfl (i := 2) (v := .int _ _) rfl rfl one3) (JL.nil (J.block (J.seq (J.region (JL.g (RX.eq rfl rfl) (JL.ab rfl (JL.nil (J.cond_f rfl (by decide) (J.seq (J.region (JL.g (RX.eq rfl rfl) (JL.ab rfl (JL.nil (J.cond_f rfl (by decide) (J.seq (J.region (JL.g (RX.eq rfl rfl) (JL.ab rfl (JL.nil (J.cond_t rfl (by decide) (J.region (JL.mp rfl (JL.g (RX.loadAgg H rfl (i := 2) (vs := tv 3 0 (some ⟨pb, po, none⟩) 2 ck) rfl rfl ag39) (JL.g (RX.loadAgg H rfl (i := 1) (vs := inV 0 1 4) rfl rfl ag142) (JL.e (EX.call rfl cl118 rfl ((deepTT_b (F := [(b5, cel (inV 0 1 4) 142)] :: [(b4, cel (tv 3 0 (some ⟨pb, po, none⟩) 2 ck) 39)] :: F) ⟨q, c, sl, hO, (H.pull 3 rfl).pull 1 rfl⟩ hT.cons.cons hs.cons.cons ha.cons.cons hk.cons.cons))) ?_))))))))))))))))))))))))))))))))))))))))
 rintro _ w H
 refine JL.nil (J.inBlock ?_)
 obtain ⟨q, c, sl, hO, H⟩ := H
 refine J.region (JL.mp rfl (JL.mi rfl (JL.g (RX.nilCheck rfl) (JL.g (RX.fieldAddr rfl fo115_2 rfl) (JL.e (EX.store (v := .int _ _) H rfl rfl (i := 0) rfl rfl (by simp [bdV]) sz3 rfl rfl) ?_)))))
 rintro _ w H
 refine JL.nil (J.end0 Tryz.func88 rfl ?_)
 exact ⟨_, rfl, q, c, sl, hO, ((H.pull 3 rfl).drop.pull 2 rfl).drop⟩
end Oo
end Go.Proofs.YtfaokllgaambjaaGreatDoor

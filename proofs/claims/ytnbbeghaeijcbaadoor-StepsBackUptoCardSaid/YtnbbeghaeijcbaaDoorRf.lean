/- The reference of chapter 15. -/
import Derived.Test.YtnbbeghaeijcbaaDoorSt2
namespace Go.Proofs.YtnbbeghaeijcbaaDoor
open Go Go.Eng
set_option maxRecDepth 100000
set_option linter.unusedVariables false
set_option linter.unusedSimpArgs false

def Row.rv (r : Row) : List Value := [.string r.nm, .bool r.src, .bool r.jump, .bool (decide (0 < r.n)), .bool r.k]
def rrowsV : List Value := (rows.map Row.rv).flatten
theorem rrows_read {op : Int} (h0 : 0 ≤ op) (h1 : op ≤ 11) : readN rrowsV (op.toNat * 5) 5 = some (rowOf op).rv := by
  have : op = 0 ∨ op = 1 ∨ op = 2 ∨ op = 3 ∨ op = 4 ∨ op = 5 ∨ op = 6 ∨ op = 7 ∨ op = 8 ∨ op = 9 ∨ op = 10 ∨ op = 11 := by omega
  rcases this with rfl | rfl | rfl | rfl | rfl | rfl | rfl | rfl | rfl | rfl | rfl | rfl <;> rfl
theorem rrow_cell (r : Row) : ∀ v ∈ r.rv, isCell v = true := by
  intro v hv
  simp [Row.rv] at hv
  rcases hv with rfl | rfl | rfl | rfl | rfl <;> rfl
def withinB (x lo hi : Int) : Bool := decide (lo ≤ x ∧ x ≤ hi)
def numB (s : Stp) : Bool :=
  if s.op = 4 then withinB s.n 1 16384 && withinB s.k 0 (s.n - 1) else if s.op = 5 then withinB s.n 2 5 && decide (s.count ≤ s.jump) else if s.op = 6 then withinB s.n 1 64 && decide (s.count ≤ s.n)
  else if s.op = 7 then withinB s.n 1 16384 && decide (s.count ≤ s.n) else if s.op = 8 then withinB s.n 1 16384 && withinB s.count (2 * s.n - 1) 16384 else if s.op = 11 then withinB s.n 1 16384 else true

theorem rrows_b {w0 w : World} {F : List Seg} (H : Hp w0 w F) : Ret Tryd.prog 29 [] w fun v w' => ∃ b, v = .slice (some ⟨b, 0, none⟩) 12 12 ∧ Hp w0 w' ([(b, cel rrowsV 62)] :: F) := by
  refine Calls.of_J (n := 14) Tryd.func29 rfl rfl rfl ?_
  refine J.seq ?_
  refine J.region ?_
  refine JL.go trivial (RX.assign) ?_
  refine JL.nil ?_
  refine J.seq ?_
  refine J.region ?_
  refine JL.go trivial (RX.build (pv := []) (res := [.string ⟨#[]⟩, .bool false, .bool false, .bool false, .bool false]) rfl (by kernel_rfl)) ?_
  refine JL.go trivial (RX.build (pv := [(0, .string ⟨#[103, 97, 116, 104, 101, 114]⟩), (1, .bool true), (2, .bool true)]) (res := [.string ⟨#[103, 97, 116, 104, 101, 114]⟩, .bool true, .bool true, .bool false, .bool false]) rfl (by kernel_rfl)) ?_
  refine JL.go trivial (RX.build (pv := [(0, .string ⟨#[115, 99, 97, 116, 116, 101, 114]⟩), (1, .bool true), (2, .bool true)]) (res := [.string ⟨#[115, 99, 97, 116, 116, 101, 114]⟩, .bool true, .bool true, .bool false, .bool false]) rfl (by kernel_rfl)) ?_
  refine JL.go trivial (RX.build (pv := [(0, .string ⟨#[122, 101, 114, 111]⟩)]) (res := [.string ⟨#[122, 101, 114, 111]⟩, .bool false, .bool false, .bool false, .bool false]) rfl (by kernel_rfl)) ?_
  refine JL.go trivial (RX.build (pv := [(0, .string ⟨#[116, 119, 105, 115, 116]⟩), (3, .bool true), (4, .bool true)]) (res := [.string ⟨#[116, 119, 105, 115, 116]⟩, .bool false, .bool false, .bool true, .bool true]) rfl (by kernel_rfl)) ?_
  refine JL.go trivial (RX.build (pv := [(0, .string ⟨#[102, 108, 121]⟩), (2, .bool true), (3, .bool true)]) (res := [.string ⟨#[102, 108, 121]⟩, .bool false, .bool true, .bool true, .bool false]) rfl (by kernel_rfl)) ?_
  refine JL.go trivial (RX.build (pv := [(0, .string ⟨#[100, 105, 114, 101, 99, 116]⟩), (1, .bool true), (2, .bool true), (3, .bool true)]) (res := [.string ⟨#[100, 105, 114, 101, 99, 116]⟩, .bool true, .bool true, .bool true, .bool false]) rfl (by kernel_rfl)) ?_
  refine JL.go trivial (RX.build (pv := [(0, .string ⟨#[99, 104, 105, 114, 112]⟩), (3, .bool true)]) (res := [.string ⟨#[99, 104, 105, 114, 112]⟩, .bool false, .bool false, .bool true, .bool false]) rfl (by kernel_rfl)) ?_
  refine JL.go trivial (RX.build (pv := [(0, .string ⟨#[102, 105, 108, 108]⟩), (3, .bool true)]) (res := [.string ⟨#[102, 105, 108, 108]⟩, .bool false, .bool false, .bool true, .bool false]) rfl (by kernel_rfl)) ?_
  refine JL.go trivial (RX.build (pv := [(0, .string ⟨#[116, 105, 109, 101, 115]⟩), (1, .bool true)]) (res := [.string ⟨#[116, 105, 109, 101, 115]⟩, .bool true, .bool false, .bool false, .bool false]) rfl (by kernel_rfl)) ?_
  refine JL.go trivial (RX.build (pv := [(0, .string ⟨#[99, 111, 110, 106]⟩)]) (res := [.string ⟨#[99, 111, 110, 106]⟩, .bool false, .bool false, .bool false, .bool false]) rfl (by kernel_rfl)) ?_
  refine JL.go trivial (RX.build (pv := [(0, .string ⟨#[111, 118, 101, 114]⟩), (3, .bool true)]) (res := [.string ⟨#[111, 118, 101, 114]⟩, .bool false, .bool false, .bool true, .bool false]) rfl (by kernel_rfl)) ?_
  refine JL.does trivial (EX.buildSlice (pv := [(0, .agg (Row.rv (rowOf 0)).toArray), (1, .agg (Row.rv (rowOf 1)).toArray), (2, .agg (Row.rv (rowOf 2)).toArray), (3, .agg (Row.rv (rowOf 3)).toArray), (4, .agg (Row.rv (rowOf 4)).toArray), (5, .agg (Row.rv (rowOf 5)).toArray), (6, .agg (Row.rv (rowOf 6)).toArray), (7, .agg (Row.rv (rowOf 7)).toArray), (8, .agg (Row.rv (rowOf 8)).toArray), (9, .agg (Row.rv (rowOf 9)).toArray), (10, .agg (Row.rv (rowOf 10)).toArray), (11, .agg (Row.rv (rowOf 11)).toArray)]) (l := rrowsV) (e := 62) H rfl (by kernel_rfl)) ?_
  rintro _ w ⟨b, rfl, H⟩
  refine JL.go trivial (RX.assignv (v := Value.slice _ _ _) rfl) ?_
  refine JL.nil ?_
  refine J.ret1 (v := Value.slice _ _ _) Tryd.func29 rfl rfl ?_
  exact ⟨_, rfl, b, rfl, H⟩
theorem rname_b {w0 w : World} {F : List Seg} (H : Hp w0 w F) {op : Int} : Ret Tryd.prog 25 [.int .i64 op] w fun v w' => v = .tuple (nameV op).toArray ∧ Hp w0 w' F := by
  refine Calls.of_J (n := 15) Tryd.func25 rfl rfl rfl ?_
  refine J.seq ?_
  refine J.region ?_
  refine JL.go trivial (RX.assign) ?_
  refine JL.go trivial (RX.assign) ?_
  refine JL.nil ?_
  refine J.seq ?_
  refine J.seq ?_
  refine J.region ?_
  refine JL.go trivial (RX.movev (v := Value.int _ _) rfl) ?_
  refine JL.go trivial (RX.lt rfl rfl) ?_
  refine JL.go trivial (RX.movev (v := Value.bool _) rfl) ?_
  refine JL.splitS 6 rfl (fun h1 => ?_) (fun h1 => ?_)
  · skip
    first | have h1p := of_decide_eq_true h1 | skip
    refine JL.no ⟨_, rfl, gno h1⟩ ?_
    refine JL.no ⟨_, rfl, gno h1⟩ ?_
    refine JL.go trivial (RX.pick_t rfl h1) ?_
    refine JL.nil ?_
    refine J.cond_t rfl rfl ?_
    refine J.seq ?_
    refine J.region ?_
    refine JL.go trivial (RX.assign) ?_
    refine JL.go trivial (RX.assign) ?_
    refine JL.nil ?_
    refine J.ret2 (v := Value.string _) (x := Value.bool _) Tryd.func25 rfl rfl rfl ?_
    have e : opOk op = false := decide_eq_false (by omega)
    exact ⟨_, rfl, by simp only [nameV, e]; rfl, H⟩
  · skip
    first | have h1p := of_decide_eq_false h1 | skip
    refine JL.go ⟨_, rfl, h1⟩ (RX.movev (v := Value.int _ _) rfl) ?_
    refine JL.go ⟨_, rfl, h1⟩ (RX.gt rfl rfl) ?_
    refine JL.go trivial (RX.pick_f rfl h1) ?_
    refine JL.nil ?_
    refine J.cond_d rfl (fun h9 => ?_) (fun h9 => ?_)
    · skip
      refine J.seq ?_
      refine J.region ?_
      refine JL.go trivial (RX.assign) ?_
      refine JL.go trivial (RX.assign) ?_
      refine JL.nil ?_
      refine J.ret2 (v := Value.string _) (x := Value.bool _) Tryd.func25 rfl rfl rfl ?_
      have e : opOk op = false := decide_eq_false (by omega)
      exact ⟨_, rfl, by simp only [nameV, e]; rfl, H⟩
    · skip
      refine J.skip ?_
      refine J.seq ?_
      refine J.region ?_
      refine JL.does trivial (EX.call rfl cl29 rfl (rrows_b H)) ?_
      rintro _ w ⟨rb, rfl, H⟩
      refine JL.go trivial (RX.movev (v := Value.int _ _) rfl) ?_
      have hrow := rrows_read (op := op) (by omega) (by omega)
      refine JL.go trivial (RX.indexAddr rfl rfl sl63 (by omega) (by omega) rfl) ?_
      refine JL.go trivial (RX.fieldAddr rfl fo62_0 rfl) ?_
      refine JL.go trivial (RX.loadS H (SlAt.here (xs := rrowsV) rfl) rfl (j := op.toNat * 5) (by omega) ((readN_get (i := 0) hrow (by decide)).trans rfl) one9) ?_
      refine JL.go trivial (RX.assignv (v := Value.string _) rfl) ?_
      refine JL.go trivial (RX.assign) ?_
      refine JL.nil ?_
      refine J.ret2 (v := Value.string _) (x := Value.bool _) Tryd.func25 rfl rfl rfl ?_
      have e : opOk op = true := decide_eq_true (by omega)
      exact ⟨_, rfl, by simp only [nameV, e]; rfl, H.drop⟩
theorem within_b {w0 w : World} {F : List Seg} (H : Hp w0 w F) {x lo hi : Int} : Ret Tryd.prog 28 [.int .i64 x, .int .i64 lo, .int .i64 hi] w fun v w' => v = .bool (withinB x lo hi) ∧ Hp w0 w' F := by
  refine Calls.of_J (n := 15) Tryd.func28 rfl rfl rfl ?_
  refine J.seq ?_
  refine J.region ?_
  refine JL.go trivial (RX.assign) ?_
  refine JL.nil ?_
  refine J.seq ?_
  refine J.region ?_
  refine JL.go trivial (RX.movev (v := Value.int _ _) rfl) ?_
  refine JL.go trivial (RX.movev (v := Value.int _ _) rfl) ?_
  refine JL.go trivial (RX.ge rfl rfl) ?_
  refine JL.go trivial (RX.movev (v := Value.bool _) rfl) ?_
  refine JL.splitS 10 rfl (fun h1 => ?_) (fun h1 => ?_)
  · skip
    first | have h1p := of_decide_eq_true h1 | skip
    refine JL.go ⟨_, rfl, h1⟩ (RX.movev (v := Value.int _ _) rfl) ?_
    refine JL.go ⟨_, rfl, h1⟩ (RX.movev (v := Value.int _ _) rfl) ?_
    refine JL.go ⟨_, rfl, h1⟩ (RX.le rfl rfl) ?_
    refine JL.go trivial (RX.pick_t rfl h1) ?_
    refine JL.go trivial (RX.assignv (v := Value.bool _) rfl) ?_
    refine JL.nil ?_
    refine J.ret1 (v := Value.bool _) Tryd.func28 rfl rfl ?_
    exact ⟨_, rfl, by unfold withinB; congr 1; simp; omega, H⟩
  · skip
    first | have h1p := of_decide_eq_false h1 | skip
    refine JL.no ⟨_, rfl, gno h1⟩ ?_
    refine JL.no ⟨_, rfl, gno h1⟩ ?_
    refine JL.no ⟨_, rfl, gno h1⟩ ?_
    refine JL.go trivial (RX.pick_f rfl h1) ?_
    refine JL.go trivial (RX.assignv (v := Value.bool _) rfl) ?_
    refine JL.nil ?_
    refine J.ret1 (v := Value.bool _) Tryd.func28 rfl rfl ?_
    exact ⟨_, rfl, by unfold withinB; congr 1; simp; omega, H⟩
theorem number_b {w0 w : World} {F : List Seg} (H : Hp w0 w F) {s : Stp} (hs : s.Ok) : Ret Tryd.prog 30 [.agg s.v.toArray] w fun v w' => v = .bool (numB s) ∧ Hp w0 w' F := by
  refine Calls.of_J (n := 73) Tryd.func30 rfl rfl rfl ?_
  refine J.seq ?_
  refine J.region ?_
  refine JL.does trivial (EX.box (v := Value.agg _) H rfl rfl) ?_
  rintro _ w ⟨b1, rfl, H⟩
  refine JL.go trivial (RX.assign) ?_
  refine JL.nil ?_
  refine J.seq ?_
  refine J.seq ?_
  refine J.region ?_
  refine JL.go trivial (RX.fieldAddr rfl fo25_0 rfl) ?_
  refine JL.go trivial (by first | exact RX.load H rfl (i := 0) rfl rfl one3) ?_
  refine JL.nil ?_
  refine J.block ?_
  refine J.seq ?_
  refine J.region ?_
  refine JL.go trivial (RX.eq rfl rfl) ?_
  refine JL.go trivial (RX.assignv (v := Value.bool _) rfl) ?_
  refine JL.nil ?_
  refine J.cond_d rfl (fun h4 => ?_) (fun h4 => ?_)
  · skip
    refine J.seq ?_
    refine J.region ?_
    refine JL.go trivial (RX.fieldAddr rfl fo25_5 rfl) ?_
    refine JL.go trivial (by first | exact RX.load H rfl (i := 0) rfl rfl one3) ?_
    refine JL.does trivial (EX.call rfl cl28 rfl ((within_b H))) ?_
    rintro _ w ⟨rfl, H⟩
    refine JL.go trivial (RX.movev (v := Value.bool _) rfl) ?_
    refine JL.splitS 10 rfl (fun hw => ?_) (fun hw => ?_)
    · skip
      first | have hwp := of_decide_eq_true hw | skip
      refine JL.go ⟨_, rfl, hw⟩ (RX.fieldAddr rfl fo25_6 rfl) ?_
      refine JL.go ⟨_, rfl, hw⟩ (by first | exact RX.load H rfl (i := 0) rfl rfl one3) ?_
      refine JL.go ⟨_, rfl, hw⟩ (RX.fieldAddr rfl fo25_5 rfl) ?_
      refine JL.go ⟨_, rfl, hw⟩ (by first | exact RX.load H rfl (i := 0) rfl rfl one3) ?_
      have hwb := of_decide_eq_true hw
      refine JL.go ⟨_, rfl, hw⟩ (RX.sub rfl rfl (w_i64 rfl (by omega) (by omega))) ?_
      refine JL.does ⟨_, rfl, hw⟩ (EX.call rfl cl28 rfl ((within_b H))) ?_
      rintro _ w ⟨rfl, H⟩
      refine JL.go trivial (RX.pick_t rfl hw) ?_
      refine JL.go trivial (RX.assignv (v := Value.bool _) rfl) ?_
      refine JL.nil ?_
      refine J.ret1 (v := Value.bool _) Tryd.func30 rfl rfl ?_
      refine ⟨_, rfl, ?_, H.drop⟩
      first | (simp [numB, *]; done) | (simp_all [numB]; done) | (unfold numB; simp_all; omega)
    · skip
      first | have hwp := of_decide_eq_false hw | skip
      refine JL.no ⟨_, rfl, gno hw⟩ ?_
      refine JL.no ⟨_, rfl, gno hw⟩ ?_
      refine JL.no ⟨_, rfl, gno hw⟩ ?_
      refine JL.no ⟨_, rfl, gno hw⟩ ?_
      refine JL.no ⟨_, rfl, gno hw⟩ ?_
      refine JL.no ⟨_, rfl, gno hw⟩ ?_
      refine JL.go trivial (RX.pick_f rfl hw) ?_
      refine JL.go trivial (RX.assignv (v := Value.bool _) rfl) ?_
      refine JL.nil ?_
      refine J.ret1 (v := Value.bool _) Tryd.func30 rfl rfl ?_
      refine ⟨_, rfl, ?_, H.drop⟩
      first | (simp [numB, *]; done) | (simp_all [numB]; done) | (unfold numB; simp_all; omega)
  · skip
    refine J.seq ?_
    refine J.region ?_
    refine JL.go trivial (RX.eq rfl rfl) ?_
    refine JL.go trivial (RX.assignv (v := Value.bool _) rfl) ?_
    refine JL.nil ?_
    refine J.cond_d rfl (fun h5 => ?_) (fun h5 => ?_)
    · skip
      refine J.seq ?_
      refine J.region ?_
      refine JL.go trivial (RX.fieldAddr rfl fo25_5 rfl) ?_
      refine JL.go trivial (by first | exact RX.load H rfl (i := 0) rfl rfl one3) ?_
      refine JL.does trivial (EX.call rfl cl28 rfl ((within_b H))) ?_
      rintro _ w ⟨rfl, H⟩
      refine JL.go trivial (RX.movev (v := Value.bool _) rfl) ?_
      refine JL.splitS 23 rfl (fun hw => ?_) (fun hw => ?_)
      · skip
        first | have hwp := of_decide_eq_true hw | skip
        refine JL.go ⟨_, rfl, hw⟩ (RX.fieldAddr rfl fo25_4 rfl) ?_
        refine JL.go ⟨_, rfl, hw⟩ (by first | exact RX.load H rfl (i := 0) rfl rfl one3) ?_
        refine JL.go ⟨_, rfl, hw⟩ (RX.fieldAddr rfl fo25_3 rfl) ?_
        refine JL.go ⟨_, rfl, hw⟩ (by first | exact RX.load H rfl (i := 0) rfl rfl one3) ?_
        refine JL.go ⟨_, rfl, hw⟩ (RX.le rfl rfl) ?_
        refine JL.go trivial (RX.pick_t rfl hw) ?_
        refine JL.go trivial (RX.assignv (v := Value.bool _) rfl) ?_
        refine JL.nil ?_
        refine J.ret1 (v := Value.bool _) Tryd.func30 rfl rfl ?_
        refine ⟨_, rfl, ?_, H.drop⟩
        first | (simp [numB, *]; done) | (simp_all [numB]; done) | (unfold numB; simp_all; omega)
      · skip
        first | have hwp := of_decide_eq_false hw | skip
        refine JL.no ⟨_, rfl, gno hw⟩ ?_
        refine JL.no ⟨_, rfl, gno hw⟩ ?_
        refine JL.no ⟨_, rfl, gno hw⟩ ?_
        refine JL.no ⟨_, rfl, gno hw⟩ ?_
        refine JL.no ⟨_, rfl, gno hw⟩ ?_
        refine JL.go trivial (RX.pick_f rfl hw) ?_
        refine JL.go trivial (RX.assignv (v := Value.bool _) rfl) ?_
        refine JL.nil ?_
        refine J.ret1 (v := Value.bool _) Tryd.func30 rfl rfl ?_
        refine ⟨_, rfl, ?_, H.drop⟩
        first | (simp [numB, *]; done) | (simp_all [numB]; done) | (unfold numB; simp_all; omega)
    · skip
      refine J.seq ?_
      refine J.region ?_
      refine JL.go trivial (RX.eq rfl rfl) ?_
      refine JL.go trivial (RX.assignv (v := Value.bool _) rfl) ?_
      refine JL.nil ?_
      refine J.cond_d rfl (fun h6 => ?_) (fun h6 => ?_)
      · skip
        refine J.seq ?_
        refine J.region ?_
        refine JL.go trivial (RX.fieldAddr rfl fo25_5 rfl) ?_
        refine JL.go trivial (by first | exact RX.load H rfl (i := 0) rfl rfl one3) ?_
        refine JL.does trivial (EX.call rfl cl28 rfl ((within_b H))) ?_
        rintro _ w ⟨rfl, H⟩
        refine JL.go trivial (RX.movev (v := Value.bool _) rfl) ?_
        refine JL.splitS 35 rfl (fun hw => ?_) (fun hw => ?_)
        · skip
          first | have hwp := of_decide_eq_true hw | skip
          refine JL.go ⟨_, rfl, hw⟩ (RX.fieldAddr rfl fo25_4 rfl) ?_
          refine JL.go ⟨_, rfl, hw⟩ (by first | exact RX.load H rfl (i := 0) rfl rfl one3) ?_
          refine JL.go ⟨_, rfl, hw⟩ (RX.fieldAddr rfl fo25_5 rfl) ?_
          refine JL.go ⟨_, rfl, hw⟩ (by first | exact RX.load H rfl (i := 0) rfl rfl one3) ?_
          refine JL.go ⟨_, rfl, hw⟩ (RX.le rfl rfl) ?_
          refine JL.go trivial (RX.pick_t rfl hw) ?_
          refine JL.go trivial (RX.assignv (v := Value.bool _) rfl) ?_
          refine JL.nil ?_
          refine J.ret1 (v := Value.bool _) Tryd.func30 rfl rfl ?_
          refine ⟨_, rfl, ?_, H.drop⟩
          first | (simp [numB, *]; done) | (simp_all [numB]; done) | (unfold numB; simp_all; omega)
        · skip
          first | have hwp := of_decide_eq_false hw | skip
          refine JL.no ⟨_, rfl, gno hw⟩ ?_
          refine JL.no ⟨_, rfl, gno hw⟩ ?_
          refine JL.no ⟨_, rfl, gno hw⟩ ?_
          refine JL.no ⟨_, rfl, gno hw⟩ ?_
          refine JL.no ⟨_, rfl, gno hw⟩ ?_
          refine JL.go trivial (RX.pick_f rfl hw) ?_
          refine JL.go trivial (RX.assignv (v := Value.bool _) rfl) ?_
          refine JL.nil ?_
          refine J.ret1 (v := Value.bool _) Tryd.func30 rfl rfl ?_
          refine ⟨_, rfl, ?_, H.drop⟩
          first | (simp [numB, *]; done) | (simp_all [numB]; done) | (unfold numB; simp_all; omega)
      · skip
        refine J.seq ?_
        refine J.region ?_
        refine JL.go trivial (RX.eq rfl rfl) ?_
        refine JL.go trivial (RX.assignv (v := Value.bool _) rfl) ?_
        refine JL.nil ?_
        refine J.cond_d rfl (fun h7 => ?_) (fun h7 => ?_)
        · skip
          refine J.seq ?_
          refine J.region ?_
          refine JL.go trivial (RX.fieldAddr rfl fo25_5 rfl) ?_
          refine JL.go trivial (by first | exact RX.load H rfl (i := 0) rfl rfl one3) ?_
          refine JL.does trivial (EX.call rfl cl28 rfl ((within_b H))) ?_
          rintro _ w ⟨rfl, H⟩
          refine JL.go trivial (RX.movev (v := Value.bool _) rfl) ?_
          refine JL.splitS 47 rfl (fun hw => ?_) (fun hw => ?_)
          · skip
            first | have hwp := of_decide_eq_true hw | skip
            refine JL.go ⟨_, rfl, hw⟩ (RX.fieldAddr rfl fo25_4 rfl) ?_
            refine JL.go ⟨_, rfl, hw⟩ (by first | exact RX.load H rfl (i := 0) rfl rfl one3) ?_
            refine JL.go ⟨_, rfl, hw⟩ (RX.fieldAddr rfl fo25_5 rfl) ?_
            refine JL.go ⟨_, rfl, hw⟩ (by first | exact RX.load H rfl (i := 0) rfl rfl one3) ?_
            refine JL.go ⟨_, rfl, hw⟩ (RX.le rfl rfl) ?_
            refine JL.go trivial (RX.pick_t rfl hw) ?_
            refine JL.go trivial (RX.assignv (v := Value.bool _) rfl) ?_
            refine JL.nil ?_
            refine J.ret1 (v := Value.bool _) Tryd.func30 rfl rfl ?_
            refine ⟨_, rfl, ?_, H.drop⟩
            first | (simp [numB, *]; done) | (simp_all [numB]; done) | (unfold numB; simp_all; omega)
          · skip
            first | have hwp := of_decide_eq_false hw | skip
            refine JL.no ⟨_, rfl, gno hw⟩ ?_
            refine JL.no ⟨_, rfl, gno hw⟩ ?_
            refine JL.no ⟨_, rfl, gno hw⟩ ?_
            refine JL.no ⟨_, rfl, gno hw⟩ ?_
            refine JL.no ⟨_, rfl, gno hw⟩ ?_
            refine JL.go trivial (RX.pick_f rfl hw) ?_
            refine JL.go trivial (RX.assignv (v := Value.bool _) rfl) ?_
            refine JL.nil ?_
            refine J.ret1 (v := Value.bool _) Tryd.func30 rfl rfl ?_
            refine ⟨_, rfl, ?_, H.drop⟩
            first | (simp [numB, *]; done) | (simp_all [numB]; done) | (unfold numB; simp_all; omega)
        · skip
          refine J.seq ?_
          refine J.region ?_
          refine JL.go trivial (RX.eq rfl rfl) ?_
          refine JL.go trivial (RX.assignv (v := Value.bool _) rfl) ?_
          refine JL.nil ?_
          refine J.cond_d rfl (fun h8 => ?_) (fun h8 => ?_)
          · skip
            refine J.seq ?_
            refine J.region ?_
            refine JL.go trivial (RX.fieldAddr rfl fo25_5 rfl) ?_
            refine JL.go trivial (by first | exact RX.load H rfl (i := 0) rfl rfl one3) ?_
            refine JL.does trivial (EX.call rfl cl28 rfl ((within_b H))) ?_
            rintro _ w ⟨rfl, H⟩
            refine JL.go trivial (RX.movev (v := Value.bool _) rfl) ?_
            refine JL.splitS 59 rfl (fun hw => ?_) (fun hw => ?_)
            · skip
              first | have hwp := of_decide_eq_true hw | skip
              refine JL.go ⟨_, rfl, hw⟩ (RX.fieldAddr rfl fo25_4 rfl) ?_
              refine JL.go ⟨_, rfl, hw⟩ (by first | exact RX.load H rfl (i := 0) rfl rfl one3) ?_
              refine JL.go ⟨_, rfl, hw⟩ (RX.fieldAddr rfl fo25_5 rfl) ?_
              refine JL.go ⟨_, rfl, hw⟩ (by first | exact RX.load H rfl (i := 0) rfl rfl one3) ?_
              have hwb := of_decide_eq_true hw
              refine JL.go ⟨_, rfl, hw⟩ (RX.mul rfl rfl (w_i64 rfl (by omega) (by omega))) ?_
              refine JL.go ⟨_, rfl, hw⟩ (RX.sub rfl rfl (w_i64 rfl (by omega) (by omega))) ?_
              refine JL.does ⟨_, rfl, hw⟩ (EX.call rfl cl28 rfl ((within_b H))) ?_
              rintro _ w ⟨rfl, H⟩
              refine JL.go trivial (RX.pick_t rfl hw) ?_
              refine JL.go trivial (RX.assignv (v := Value.bool _) rfl) ?_
              refine JL.nil ?_
              refine J.ret1 (v := Value.bool _) Tryd.func30 rfl rfl ?_
              refine ⟨_, rfl, ?_, H.drop⟩
              first | (simp [numB, *]; done) | (simp_all [numB]; done) | (unfold numB; simp_all; omega)
            · skip
              first | have hwp := of_decide_eq_false hw | skip
              refine JL.no ⟨_, rfl, gno hw⟩ ?_
              refine JL.no ⟨_, rfl, gno hw⟩ ?_
              refine JL.no ⟨_, rfl, gno hw⟩ ?_
              refine JL.no ⟨_, rfl, gno hw⟩ ?_
              refine JL.no ⟨_, rfl, gno hw⟩ ?_
              refine JL.no ⟨_, rfl, gno hw⟩ ?_
              refine JL.no ⟨_, rfl, gno hw⟩ ?_
              refine JL.go trivial (RX.pick_f rfl hw) ?_
              refine JL.go trivial (RX.assignv (v := Value.bool _) rfl) ?_
              refine JL.nil ?_
              refine J.ret1 (v := Value.bool _) Tryd.func30 rfl rfl ?_
              refine ⟨_, rfl, ?_, H.drop⟩
              first | (simp [numB, *]; done) | (simp_all [numB]; done) | (unfold numB; simp_all; omega)
          · skip
            refine J.seq ?_
            refine J.region ?_
            refine JL.go trivial (RX.eq rfl rfl) ?_
            refine JL.go trivial (RX.assignv (v := Value.bool _) rfl) ?_
            refine JL.nil ?_
            refine J.cond_d rfl (fun h11 => ?_) (fun h11 => ?_)
            · skip
              refine J.seq ?_
              refine J.region ?_
              refine JL.go trivial (RX.fieldAddr rfl fo25_5 rfl) ?_
              refine JL.go trivial (by first | exact RX.load H rfl (i := 0) rfl rfl one3) ?_
              refine JL.does trivial (EX.call rfl cl28 rfl ((within_b H))) ?_
              rintro _ w ⟨rfl, H⟩
              refine JL.go trivial (RX.assignv (v := Value.bool _) rfl) ?_
              refine JL.nil ?_
              refine J.ret1 (v := Value.bool _) Tryd.func30 rfl rfl ?_
              refine ⟨_, rfl, ?_, H.drop⟩
              first | (simp [numB, *]; done) | (simp_all [numB]; done) | (unfold numB; simp_all; omega)
            · skip
              refine J.skip ?_
              refine J.inBlock ?_
              refine J.seq ?_
              refine J.region ?_
              refine JL.go trivial (RX.assign) ?_
              refine JL.nil ?_
              refine J.ret1 (v := Value.bool _) Tryd.func30 rfl rfl ?_
              refine ⟨_, rfl, ?_, H.drop⟩
              first | (simp [numB, *]; done) | (simp_all [numB]; done) | (unfold numB; simp_all; omega)

theorem form_imp {s : Stp} (h : formB s = true) : opOk s.op = true ∧ withinB s.dst 0 262143 = true ∧ withinB s.count 1 262144 = true := by
  simp only [formB, Bool.and_eq_true] at h
  exact ⟨h.1.1, h.1.2.1.1.1.1.1, h.1.2.1.1.1.1.2⟩
theorem form_ref {s : Stp} (hop : opOk s.op = true) (hd : withinB s.dst 0 262143 = true) (hc : withinB s.count 1 262144 = true) :
    formB s = ((fromB (rowOf s.op).src s.src 0 262143 && fromB (rowOf s.op).jump s.jump 1 262144 && (decide (0 < (rowOf s.op).n) || decide (s.n = 0)) && ((rowOf s.op).k || decide (s.k = 0))) && numB s) := by
  have hd2 : fromB true s.dst 0 262143 = true := hd
  have hc2 : fromB true s.count 1 262144 = true := hc
  have h2 : (fromB (decide (0 < (rowOf s.op).n)) s.n (if s.op = 5 then 2 else 1) (rowOf s.op).n && fromB (rowOf s.op).k s.k 0 (s.n - 1) && tailB s) = ((decide (0 < (rowOf s.op).n) || decide (s.n = 0)) && ((rowOf s.op).k || decide (s.k = 0)) && numB s) := by
    have hr := of_decide_eq_true hop
    rcases op_cases hr.1 hr.2 with h | h | h | h | h | h | h | h | h | h | h <;> simp [h, rowOf, rows, row0, fromB, numB, tailB, withinB, Bool.and_comm, Bool.and_assoc, Bool.and_left_comm]
    all_goals (try simp [of_decide_eq_true hc])
    all_goals (have hcc := of_decide_eq_true hc; rw [Bool.eq_iff_iff]; simp; omega)
  simp only [formB, hop, hd2, hc2, Bool.true_and]
  rw [Bool.and_assoc (fromB (rowOf s.op).src s.src 0 262143 && fromB (rowOf s.op).jump s.jump 1 262144 && fromB (decide (0 < (rowOf s.op).n)) s.n (if s.op = 5 then 2 else 1) (rowOf s.op).n), Bool.and_assoc (fromB (rowOf s.op).src s.src 0 262143 && fromB (rowOf s.op).jump s.jump 1 262144), ← Bool.and_assoc (fromB (decide (0 < (rowOf s.op).n)) s.n (if s.op = 5 then 2 else 1) (rowOf s.op).n), h2]
  simp only [Bool.and_assoc]

theorem rform_b {w0 w : World} {F : List Seg} (H : Hp w0 w F) {s : Stp} (hs : s.Ok) : Ret Tryd.prog 11 [.agg s.v.toArray] w fun v w' => v = .int .i64 (if formB s then 0 else 9) ∧ Hp w0 w' F := by
  refine Calls.of_J (n := 83) Tryd.func11 rfl rfl rfl ?_
  refine J.seq ?_
  refine J.region ?_
  refine JL.does trivial (EX.box (v := Value.agg _) H rfl rfl) ?_
  rintro _ w ⟨b1, rfl, H⟩
  refine JL.go trivial (RX.assign) ?_
  refine JL.nil ?_
  refine J.seq ?_
  refine J.region ?_
  refine JL.go trivial (RX.fieldAddr rfl fo25_0 rfl) ?_
  refine JL.go trivial (by first | exact RX.load H rfl (i := 0) rfl rfl one3 | exact RX.load H rfl (i := 1) rfl rfl one3 | exact RX.load H rfl (i := 2) rfl rfl one3) ?_
  refine JL.does trivial (EX.call rfl cl25 rfl (rname_b H)) ?_
  rintro _ w ⟨rfl, H⟩
  generalize hnv : nameV s.op = nv
  refine JL.go trivial (RX.movev (v := Value.tuple _) rfl) ?_
  refine JL.go trivial (RX.extract (vs := nv) (v := .string (if opOk s.op then (rowOf s.op).nm else ⟨#[]⟩)) rfl (by subst hnv; unfold nameV; split <;> rfl)) ?_
  refine JL.go trivial (RX.extract (vs := nv) (v := .bool (opOk s.op)) rfl (by subst hnv; unfold nameV; split <;> simp_all)) ?_
  refine JL.go trivial (RX.assignv (v := Value.string _) rfl) ?_
  refine JL.go trivial (RX.assignv (v := Value.bool _) rfl) ?_
  refine JL.nil ?_
  refine J.seq ?_
  refine J.seq ?_
  refine J.region ?_
  refine JL.go trivial (RX.movev (v := Value.bool _) rfl) ?_
  refine JL.go trivial (RX.not rfl) ?_
  refine JL.go trivial (RX.movev (v := Value.bool _) rfl) ?_
  refine JL.splitS 15 rfl (fun hop => ?_) (fun hop => ?_)
  · skip
    first | have hopp := of_decide_eq_true hop | skip
    refine JL.no ⟨_, rfl, gno hop⟩ ?_
    refine JL.no ⟨_, rfl, gno hop⟩ ?_
    refine JL.no ⟨_, rfl, gno hop⟩ ?_
    refine JL.no ⟨_, rfl, gno hop⟩ ?_
    refine JL.go trivial (RX.pick_t rfl hop) ?_
    refine JL.go trivial (RX.movev (v := Value.bool _) rfl) ?_
    refine JL.no ⟨_, rfl, gno rfl⟩ ?_
    refine JL.no ⟨_, rfl, gno rfl⟩ ?_
    refine JL.no ⟨_, rfl, gno rfl⟩ ?_
    refine JL.no ⟨_, rfl, gno rfl⟩ ?_
    refine JL.go trivial (RX.pick_t rfl rfl) ?_
    refine JL.nil ?_
    refine J.cond_t rfl rfl ?_
    refine J.seq ?_
    refine J.region ?_
    refine JL.go trivial (RX.assign) ?_
    refine JL.nil ?_
    refine J.ret1 (v := Value.int _ _) Tryd.func11 rfl rfl ?_
    have e : formB s = false := Bool.eq_false_iff.2 (fun h => absurd (form_imp h).1 (by simpa using hop))
    rw [e]; exact ⟨_, rfl, rfl, H.drop⟩
  · skip
    first | have hopp := of_decide_eq_false hop | skip
    refine JL.go ⟨_, rfl, hop⟩ (RX.fieldAddr rfl fo25_1 rfl) ?_
    refine JL.go ⟨_, rfl, hop⟩ (by first | exact RX.load H rfl (i := 0) rfl rfl one3 | exact RX.load H rfl (i := 1) rfl rfl one3 | exact RX.load H rfl (i := 2) rfl rfl one3) ?_
    refine JL.does ⟨_, rfl, hop⟩ (EX.call rfl cl28 rfl ((within_b H))) ?_
    rintro _ w ⟨rfl, H⟩
    refine JL.go ⟨_, rfl, hop⟩ (RX.not rfl) ?_
    refine JL.go trivial (RX.pick_f rfl hop) ?_
    refine JL.go trivial (RX.movev (v := Value.bool _) rfl) ?_
    refine JL.splitS 21 rfl (fun hw1 => ?_) (fun hw1 => ?_)
    · skip
      first | have hw1p := of_decide_eq_true hw1 | skip
      refine JL.no ⟨_, rfl, gno hw1⟩ ?_
      refine JL.no ⟨_, rfl, gno hw1⟩ ?_
      refine JL.no ⟨_, rfl, gno hw1⟩ ?_
      refine JL.no ⟨_, rfl, gno hw1⟩ ?_
      refine JL.go trivial (RX.pick_t rfl hw1) ?_
      refine JL.nil ?_
      refine J.cond_t rfl rfl ?_
      refine J.seq ?_
      refine J.region ?_
      refine JL.go trivial (RX.assign) ?_
      refine JL.nil ?_
      refine J.ret1 (v := Value.int _ _) Tryd.func11 rfl rfl ?_
      have e : formB s = false := Bool.eq_false_iff.2 (fun h => absurd (form_imp h).2.1 (by simpa using hw1))
      rw [e]; exact ⟨_, rfl, rfl, H.drop⟩
    · skip
      first | have hw1p := of_decide_eq_false hw1 | skip
      refine JL.go ⟨_, rfl, hw1⟩ (RX.fieldAddr rfl fo25_4 rfl) ?_
      refine JL.go ⟨_, rfl, hw1⟩ (by first | exact RX.load H rfl (i := 0) rfl rfl one3 | exact RX.load H rfl (i := 1) rfl rfl one3 | exact RX.load H rfl (i := 2) rfl rfl one3) ?_
      refine JL.does ⟨_, rfl, hw1⟩ (EX.call rfl cl28 rfl ((within_b H))) ?_
      rintro _ w ⟨rfl, H⟩
      refine JL.go ⟨_, rfl, hw1⟩ (RX.not rfl) ?_
      refine JL.go trivial (RX.pick_f rfl hw1) ?_
      refine JL.nil ?_
      refine J.cond rfl (fun hw2 => ?_) (fun hw2 => ?_)
      · skip
        refine J.seq ?_
        refine J.region ?_
        refine JL.go trivial (RX.assign) ?_
        refine JL.nil ?_
        refine J.ret1 (v := Value.int _ _) Tryd.func11 rfl rfl ?_
        have e : formB s = false := Bool.eq_false_iff.2 (fun h => absurd (form_imp h).2.2 (by simpa using hw2))
        rw [e]; exact ⟨_, rfl, rfl, H.drop⟩
      · skip
        have hop2 : opOk s.op = true := by simpa using hop
        have hd1 : withinB s.dst 0 262143 = true := by simpa using hw1
        have hc1 : withinB s.count 1 262144 = true := by simpa using hw2
        have hr := of_decide_eq_true hop2
        have hrow := rrows_read (op := s.op) (by omega) (by omega)
        have hfr := form_ref hop2 hd1 hc1
        refine J.skip ?_
        refine J.seq ?_
        refine J.join (ι := Nat) (fun q => [(5, .pointer (some ⟨q, 0, none⟩))]) (fun q w => Hp w0 w ([(q, cel (rowOf s.op).rv 62)] :: [(b1, cel s.v 25)] :: F)) [(1, _)] ⟨rfl, trivial⟩ ?_ ?_
        rotate_left
        · skip
          intro k2 hk2
          refine J.any hmix fun w hs => ?_
          replace H := H.same hs; clear hs
          refine JA.take 1 (listed' := [false, true, false, false, false, false, false]) rfl (by kernel_rfl) (by kernel_rfl) (by kernel_rfl) rfl trivial (fun w => RX.fieldAddr rfl fo25_0 rfl) ?_
          refine JA.all [0, 2, 5] (by kernel_rfl) (by decide) ?_
          refine ⟨?_, ?_, ?_⟩
          · skip
            refine JO.does (listed' := [true, true, false, false, false, false, false]) rfl rfl trivial (EX.call rfl cl29 rfl (rrows_b H)) ?_
            rintro _ w ⟨rb, rfl, H⟩
            refine JA.all [2, 5] (by kernel_rfl) (by decide) ?_
            refine ⟨?_, ?_⟩
            · skip
              refine JO.go (listed' := [true, true, true, false, false, false, false]) rfl rfl trivial (by first | exact RX.load H rfl (i := 0) rfl rfl one3 | exact RX.load H rfl (i := 1) rfl rfl one3 | exact RX.load H rfl (i := 2) rfl rfl one3) ?_
              refine JA.take 3 (listed' := [true, true, true, true, false, false, false]) rfl (by kernel_rfl) (by kernel_rfl) (by kernel_rfl) rfl trivial (fun w => RX.indexAddr rfl rfl sl63 (by omega) (by omega) rfl) ?_
              refine JA.all [4, 5] (by kernel_rfl) (by decide) ?_
              refine ⟨?_, ?_⟩
              · skip
                refine JO.go (listed' := [true, true, true, true, true, false, false]) rfl rfl trivial ((by first | exact RX.loadAggS H (SlAt.here (xs := rrowsV) rfl) rfl (j := s.op.toNat * 5) (by omega) hrow ag62 | exact RX.loadAggS H (SlAt.here (xs := rrowsV) rfl).cons rfl (j := s.op.toNat * 5) (by omega) hrow ag62)) ?_
                refine JA.all [5] (by kernel_rfl) (by decide) ?_
                refine JO.does (listed' := [true, true, true, true, true, true, false]) rfl rfl trivial (EX.alloc H zr62 rfl) ?_
                rintro _ w ⟨rr, rfl, H⟩
                refine JA.all [6] (by kernel_rfl) (by decide) ?_
                refine JO.does (listed' := [true, true, true, true, true, true, true]) rfl rfl trivial ((by first | exact EX.storeAgg H rfl rfl (i := 0) (vs := (rowOf s.op).rv) rfl (rrow_cell _) (by simp [Row.rv]) sz62 rfl rfl | exact EX.storeAgg H rfl rfl (i := 1) (vs := (rowOf s.op).rv) rfl (rrow_cell _) (by simp [Row.rv]) sz62 rfl rfl)) ?_
                rintro _ w H
                refine JA.done (by kernel_rfl) ?_
                first | exact hk2 rr _ _ ⟨rfl, trivial⟩ ⟨rfl, trivial⟩ ((H.pull 1 rfl).drop) | exact hk2 rr _ _ ⟨rfl, trivial⟩ ⟨rfl, trivial⟩ H.drop
              · skip
                refine JO.does (listed' := [true, true, true, true, false, true, false]) rfl rfl trivial (EX.alloc H zr62 rfl) ?_
                rintro _ w ⟨rr, rfl, H⟩
                refine JA.all [4] (by kernel_rfl) (by decide) ?_
                refine JO.go (listed' := [true, true, true, true, true, true, false]) rfl rfl trivial ((by first | exact RX.loadAggS H (SlAt.here (xs := rrowsV) rfl) rfl (j := s.op.toNat * 5) (by omega) hrow ag62 | exact RX.loadAggS H (SlAt.here (xs := rrowsV) rfl).cons rfl (j := s.op.toNat * 5) (by omega) hrow ag62)) ?_
                refine JA.all [6] (by kernel_rfl) (by decide) ?_
                refine JO.does (listed' := [true, true, true, true, true, true, true]) rfl rfl trivial ((by first | exact EX.storeAgg H rfl rfl (i := 0) (vs := (rowOf s.op).rv) rfl (rrow_cell _) (by simp [Row.rv]) sz62 rfl rfl | exact EX.storeAgg H rfl rfl (i := 1) (vs := (rowOf s.op).rv) rfl (rrow_cell _) (by simp [Row.rv]) sz62 rfl rfl)) ?_
                rintro _ w H
                refine JA.done (by kernel_rfl) ?_
                first | exact hk2 rr _ _ ⟨rfl, trivial⟩ ⟨rfl, trivial⟩ ((H.pull 1 rfl).drop) | exact hk2 rr _ _ ⟨rfl, trivial⟩ ⟨rfl, trivial⟩ H.drop
            · skip
              refine JO.does (listed' := [true, true, false, false, false, true, false]) rfl rfl trivial (EX.alloc H zr62 rfl) ?_
              rintro _ w ⟨rr, rfl, H⟩
              refine JA.all [2] (by kernel_rfl) (by decide) ?_
              refine JO.go (listed' := [true, true, true, false, false, true, false]) rfl rfl trivial (by first | exact RX.load H rfl (i := 0) rfl rfl one3 | exact RX.load H rfl (i := 1) rfl rfl one3 | exact RX.load H rfl (i := 2) rfl rfl one3) ?_
              refine JA.take 3 (listed' := [true, true, true, true, false, true, false]) rfl (by kernel_rfl) (by kernel_rfl) (by kernel_rfl) rfl trivial (fun w => RX.indexAddr rfl rfl sl63 (by omega) (by omega) rfl) ?_
              refine JA.all [4] (by kernel_rfl) (by decide) ?_
              refine JO.go (listed' := [true, true, true, true, true, true, false]) rfl rfl trivial ((by first | exact RX.loadAggS H (SlAt.here (xs := rrowsV) rfl) rfl (j := s.op.toNat * 5) (by omega) hrow ag62 | exact RX.loadAggS H (SlAt.here (xs := rrowsV) rfl).cons rfl (j := s.op.toNat * 5) (by omega) hrow ag62)) ?_
              refine JA.all [6] (by kernel_rfl) (by decide) ?_
              refine JO.does (listed' := [true, true, true, true, true, true, true]) rfl rfl trivial ((by first | exact EX.storeAgg H rfl rfl (i := 0) (vs := (rowOf s.op).rv) rfl (rrow_cell _) (by simp [Row.rv]) sz62 rfl rfl | exact EX.storeAgg H rfl rfl (i := 1) (vs := (rowOf s.op).rv) rfl (rrow_cell _) (by simp [Row.rv]) sz62 rfl rfl)) ?_
              rintro _ w H
              refine JA.done (by kernel_rfl) ?_
              first | exact hk2 rr _ _ ⟨rfl, trivial⟩ ⟨rfl, trivial⟩ ((H.pull 1 rfl).drop) | exact hk2 rr _ _ ⟨rfl, trivial⟩ ⟨rfl, trivial⟩ H.drop
          · skip
            refine JO.go (listed' := [false, true, true, false, false, false, false]) rfl rfl trivial (by first | exact RX.load H rfl (i := 0) rfl rfl one3 | exact RX.load H rfl (i := 1) rfl rfl one3 | exact RX.load H rfl (i := 2) rfl rfl one3) ?_
            refine JA.all [0, 5] (by kernel_rfl) (by decide) ?_
            refine ⟨?_, ?_⟩
            · skip
              refine JO.does (listed' := [true, true, true, false, false, false, false]) rfl rfl trivial (EX.call rfl cl29 rfl (rrows_b H)) ?_
              rintro _ w ⟨rb, rfl, H⟩
              refine JA.take 3 (listed' := [true, true, true, true, false, false, false]) rfl (by kernel_rfl) (by kernel_rfl) (by kernel_rfl) rfl trivial (fun w => RX.indexAddr rfl rfl sl63 (by omega) (by omega) rfl) ?_
              refine JA.all [4, 5] (by kernel_rfl) (by decide) ?_
              refine ⟨?_, ?_⟩
              · skip
                refine JO.go (listed' := [true, true, true, true, true, false, false]) rfl rfl trivial ((by first | exact RX.loadAggS H (SlAt.here (xs := rrowsV) rfl) rfl (j := s.op.toNat * 5) (by omega) hrow ag62 | exact RX.loadAggS H (SlAt.here (xs := rrowsV) rfl).cons rfl (j := s.op.toNat * 5) (by omega) hrow ag62)) ?_
                refine JA.all [5] (by kernel_rfl) (by decide) ?_
                refine JO.does (listed' := [true, true, true, true, true, true, false]) rfl rfl trivial (EX.alloc H zr62 rfl) ?_
                rintro _ w ⟨rr, rfl, H⟩
                refine JA.all [6] (by kernel_rfl) (by decide) ?_
                refine JO.does (listed' := [true, true, true, true, true, true, true]) rfl rfl trivial ((by first | exact EX.storeAgg H rfl rfl (i := 0) (vs := (rowOf s.op).rv) rfl (rrow_cell _) (by simp [Row.rv]) sz62 rfl rfl | exact EX.storeAgg H rfl rfl (i := 1) (vs := (rowOf s.op).rv) rfl (rrow_cell _) (by simp [Row.rv]) sz62 rfl rfl)) ?_
                rintro _ w H
                refine JA.done (by kernel_rfl) ?_
                first | exact hk2 rr _ _ ⟨rfl, trivial⟩ ⟨rfl, trivial⟩ ((H.pull 1 rfl).drop) | exact hk2 rr _ _ ⟨rfl, trivial⟩ ⟨rfl, trivial⟩ H.drop
              · skip
                refine JO.does (listed' := [true, true, true, true, false, true, false]) rfl rfl trivial (EX.alloc H zr62 rfl) ?_
                rintro _ w ⟨rr, rfl, H⟩
                refine JA.all [4] (by kernel_rfl) (by decide) ?_
                refine JO.go (listed' := [true, true, true, true, true, true, false]) rfl rfl trivial ((by first | exact RX.loadAggS H (SlAt.here (xs := rrowsV) rfl) rfl (j := s.op.toNat * 5) (by omega) hrow ag62 | exact RX.loadAggS H (SlAt.here (xs := rrowsV) rfl).cons rfl (j := s.op.toNat * 5) (by omega) hrow ag62)) ?_
                refine JA.all [6] (by kernel_rfl) (by decide) ?_
                refine JO.does (listed' := [true, true, true, true, true, true, true]) rfl rfl trivial ((by first | exact EX.storeAgg H rfl rfl (i := 0) (vs := (rowOf s.op).rv) rfl (rrow_cell _) (by simp [Row.rv]) sz62 rfl rfl | exact EX.storeAgg H rfl rfl (i := 1) (vs := (rowOf s.op).rv) rfl (rrow_cell _) (by simp [Row.rv]) sz62 rfl rfl)) ?_
                rintro _ w H
                refine JA.done (by kernel_rfl) ?_
                first | exact hk2 rr _ _ ⟨rfl, trivial⟩ ⟨rfl, trivial⟩ ((H.pull 1 rfl).drop) | exact hk2 rr _ _ ⟨rfl, trivial⟩ ⟨rfl, trivial⟩ H.drop
            · skip
              refine JO.does (listed' := [false, true, true, false, false, true, false]) rfl rfl trivial (EX.alloc H zr62 rfl) ?_
              rintro _ w ⟨rr, rfl, H⟩
              refine JA.all [0] (by kernel_rfl) (by decide) ?_
              refine JO.does (listed' := [true, true, true, false, false, true, false]) rfl rfl trivial (EX.call rfl cl29 rfl (rrows_b H)) ?_
              rintro _ w ⟨rb, rfl, H⟩
              refine JA.take 3 (listed' := [true, true, true, true, false, true, false]) rfl (by kernel_rfl) (by kernel_rfl) (by kernel_rfl) rfl trivial (fun w => RX.indexAddr rfl rfl sl63 (by omega) (by omega) rfl) ?_
              refine JA.all [4] (by kernel_rfl) (by decide) ?_
              refine JO.go (listed' := [true, true, true, true, true, true, false]) rfl rfl trivial ((by first | exact RX.loadAggS H (SlAt.here (xs := rrowsV) rfl) rfl (j := s.op.toNat * 5) (by omega) hrow ag62 | exact RX.loadAggS H (SlAt.here (xs := rrowsV) rfl).cons rfl (j := s.op.toNat * 5) (by omega) hrow ag62)) ?_
              refine JA.all [6] (by kernel_rfl) (by decide) ?_
              refine JO.does (listed' := [true, true, true, true, true, true, true]) rfl rfl trivial ((by first | exact EX.storeAgg H rfl rfl (i := 0) (vs := (rowOf s.op).rv) rfl (rrow_cell _) (by simp [Row.rv]) sz62 rfl rfl | exact EX.storeAgg H rfl rfl (i := 1) (vs := (rowOf s.op).rv) rfl (rrow_cell _) (by simp [Row.rv]) sz62 rfl rfl)) ?_
              rintro _ w H
              refine JA.done (by kernel_rfl) ?_
              first | exact hk2 rr _ _ ⟨rfl, trivial⟩ ⟨rfl, trivial⟩ ((H.pull 1 rfl).drop) | exact hk2 rr _ _ ⟨rfl, trivial⟩ ⟨rfl, trivial⟩ H.drop
          · skip
            refine JO.does (listed' := [false, true, false, false, false, true, false]) rfl rfl trivial (EX.alloc H zr62 rfl) ?_
            rintro _ w ⟨rr, rfl, H⟩
            refine JA.all [0, 2] (by kernel_rfl) (by decide) ?_
            refine ⟨?_, ?_⟩
            · skip
              refine JO.does (listed' := [true, true, false, false, false, true, false]) rfl rfl trivial (EX.call rfl cl29 rfl (rrows_b H)) ?_
              rintro _ w ⟨rb, rfl, H⟩
              refine JA.all [2] (by kernel_rfl) (by decide) ?_
              refine JO.go (listed' := [true, true, true, false, false, true, false]) rfl rfl trivial (by first | exact RX.load H rfl (i := 0) rfl rfl one3 | exact RX.load H rfl (i := 1) rfl rfl one3 | exact RX.load H rfl (i := 2) rfl rfl one3) ?_
              refine JA.take 3 (listed' := [true, true, true, true, false, true, false]) rfl (by kernel_rfl) (by kernel_rfl) (by kernel_rfl) rfl trivial (fun w => RX.indexAddr rfl rfl sl63 (by omega) (by omega) rfl) ?_
              refine JA.all [4] (by kernel_rfl) (by decide) ?_
              refine JO.go (listed' := [true, true, true, true, true, true, false]) rfl rfl trivial ((by first | exact RX.loadAggS H (SlAt.here (xs := rrowsV) rfl) rfl (j := s.op.toNat * 5) (by omega) hrow ag62 | exact RX.loadAggS H (SlAt.here (xs := rrowsV) rfl).cons rfl (j := s.op.toNat * 5) (by omega) hrow ag62)) ?_
              refine JA.all [6] (by kernel_rfl) (by decide) ?_
              refine JO.does (listed' := [true, true, true, true, true, true, true]) rfl rfl trivial ((by first | exact EX.storeAgg H rfl rfl (i := 0) (vs := (rowOf s.op).rv) rfl (rrow_cell _) (by simp [Row.rv]) sz62 rfl rfl | exact EX.storeAgg H rfl rfl (i := 1) (vs := (rowOf s.op).rv) rfl (rrow_cell _) (by simp [Row.rv]) sz62 rfl rfl)) ?_
              rintro _ w H
              refine JA.done (by kernel_rfl) ?_
              first | exact hk2 rr _ _ ⟨rfl, trivial⟩ ⟨rfl, trivial⟩ ((H.pull 1 rfl).drop) | exact hk2 rr _ _ ⟨rfl, trivial⟩ ⟨rfl, trivial⟩ H.drop
            · skip
              refine JO.go (listed' := [false, true, true, false, false, true, false]) rfl rfl trivial (by first | exact RX.load H rfl (i := 0) rfl rfl one3 | exact RX.load H rfl (i := 1) rfl rfl one3 | exact RX.load H rfl (i := 2) rfl rfl one3) ?_
              refine JA.all [0] (by kernel_rfl) (by decide) ?_
              refine JO.does (listed' := [true, true, true, false, false, true, false]) rfl rfl trivial (EX.call rfl cl29 rfl (rrows_b H)) ?_
              rintro _ w ⟨rb, rfl, H⟩
              refine JA.take 3 (listed' := [true, true, true, true, false, true, false]) rfl (by kernel_rfl) (by kernel_rfl) (by kernel_rfl) rfl trivial (fun w => RX.indexAddr rfl rfl sl63 (by omega) (by omega) rfl) ?_
              refine JA.all [4] (by kernel_rfl) (by decide) ?_
              refine JO.go (listed' := [true, true, true, true, true, true, false]) rfl rfl trivial ((by first | exact RX.loadAggS H (SlAt.here (xs := rrowsV) rfl) rfl (j := s.op.toNat * 5) (by omega) hrow ag62 | exact RX.loadAggS H (SlAt.here (xs := rrowsV) rfl).cons rfl (j := s.op.toNat * 5) (by omega) hrow ag62)) ?_
              refine JA.all [6] (by kernel_rfl) (by decide) ?_
              refine JO.does (listed' := [true, true, true, true, true, true, true]) rfl rfl trivial ((by first | exact EX.storeAgg H rfl rfl (i := 0) (vs := (rowOf s.op).rv) rfl (rrow_cell _) (by simp [Row.rv]) sz62 rfl rfl | exact EX.storeAgg H rfl rfl (i := 1) (vs := (rowOf s.op).rv) rfl (rrow_cell _) (by simp [Row.rv]) sz62 rfl rfl)) ?_
              rintro _ w H
              refine JA.done (by kernel_rfl) ?_
              first | exact hk2 rr _ _ ⟨rfl, trivial⟩ ⟨rfl, trivial⟩ ((H.pull 1 rfl).drop) | exact hk2 rr _ _ ⟨rfl, trivial⟩ ⟨rfl, trivial⟩ H.drop
        · skip
          clear H
          intro rr ρ w H
          refine J.seq ?_
          refine J.join (ι := Bool) (fun q => [(6, .bool q)]) (fun q w => q = fromB (rowOf s.op).src s.src 0 262143 ∧ Hp w0 w ([(rr, cel (rowOf s.op).rv 62)] :: [(b1, cel s.v 25)] :: F)) [(1, _), (5, _)] ⟨rfl, rfl, trivial⟩ ?_ ?_
          rotate_left
          · skip
            intro k2 hk2
            refine J.region ?_
            refine JL.go trivial (RX.fieldAddr rfl fo25_2 rfl) ?_
            refine JL.go trivial (by first | exact RX.load H rfl (i := 0) rfl rfl one3 | exact RX.load H rfl (i := 1) rfl rfl one3 | exact RX.load H rfl (i := 2) rfl rfl one3) ?_
            refine JL.does trivial (EX.call rfl cl28 rfl ((within_b H))) ?_
            rintro _ w ⟨rfl, H⟩
            refine JL.go trivial (RX.movev (v := Value.bool _) rfl) ?_
            refine JL.splitS 35 rfl (fun hw => ?_) (fun hw => ?_)
            · skip
              first | have hwp := of_decide_eq_true hw | skip
              refine JL.go ⟨_, rfl, hw⟩ (RX.fieldAddr rfl fo62_1 rfl) ?_
              refine JL.go ⟨_, rfl, hw⟩ (by first | exact RX.load H rfl (i := 0) rfl rfl one4 | exact RX.load H rfl (i := 1) rfl rfl one4 | exact RX.load H rfl (i := 2) rfl rfl one4) ?_
              refine JL.go ⟨_, rfl, hw⟩ (RX.movev (v := Value.bool _) rfl) ?_
              refine JL.splitS 38 rfl (fun hsrc => ?_) (fun hsrc => ?_)
              · skip
                first | have hsrcp := of_decide_eq_true hsrc | skip
                refine JL.no ⟨_, rfl, gno hsrc⟩ ?_
                refine JL.no ⟨_, rfl, gno hsrc⟩ ?_
                refine JL.no ⟨_, rfl, gno hsrc⟩ ?_
                refine JL.go ⟨_, rfl, hw⟩ (RX.pick_t rfl hsrc) ?_
                refine JL.go trivial (RX.pick_t rfl hw) ?_
                refine JL.go trivial (RX.assignv (v := Value.bool _) rfl) ?_
                refine JL.nil ?_
                exact hk2 _ _ _ ⟨rfl, rfl, trivial⟩ ⟨rfl, trivial⟩ ⟨by unfold fromB; split <;> simp_all [withinB] <;> omega, H⟩
              · skip
                first | have hsrcp := of_decide_eq_false hsrc | skip
                refine JL.go ⟨_, rfl, hsrc⟩ (RX.fieldAddr rfl fo25_2 rfl) ?_
                refine JL.go ⟨_, rfl, hsrc⟩ (by first | exact RX.load H rfl (i := 0) rfl rfl one3 | exact RX.load H rfl (i := 1) rfl rfl one3 | exact RX.load H rfl (i := 2) rfl rfl one3) ?_
                refine JL.go ⟨_, rfl, hsrc⟩ (RX.eq rfl rfl) ?_
                refine JL.go ⟨_, rfl, hw⟩ (RX.pick_f rfl hsrc) ?_
                refine JL.go trivial (RX.pick_t rfl hw) ?_
                refine JL.go trivial (RX.assignv (v := Value.bool _) rfl) ?_
                refine JL.nil ?_
                exact hk2 _ _ _ ⟨rfl, rfl, trivial⟩ ⟨rfl, trivial⟩ ⟨by unfold fromB; split <;> simp_all [withinB] <;> omega, H⟩
            · skip
              first | have hwp := of_decide_eq_false hw | skip
              refine JL.no ⟨_, rfl, gno hw⟩ ?_
              refine JL.no ⟨_, rfl, gno hw⟩ ?_
              refine JL.no ⟨_, rfl, gno hw⟩ ?_
              refine JL.no ⟨_, rfl, nofun⟩ ?_
              refine JL.no ⟨_, rfl, nofun⟩ ?_
              refine JL.no ⟨_, rfl, nofun⟩ ?_
              refine JL.no ⟨_, rfl, gno hw⟩ ?_
              refine JL.go trivial (RX.pick_f rfl hw) ?_
              refine JL.go trivial (RX.assignv (v := Value.bool _) rfl) ?_
              refine JL.nil ?_
              exact hk2 _ _ _ ⟨rfl, rfl, trivial⟩ ⟨rfl, trivial⟩ ⟨by unfold fromB; split <;> simp_all [withinB] <;> omega, H⟩
          · skip
            clear H
            rintro q ρ w ⟨hq1, H⟩
            refine J.seq ?_
            refine J.seq ?_
            refine J.region ?_
            refine JL.go trivial (RX.fieldAddr rfl fo62_2 rfl) ?_
            refine JL.go trivial (by first | exact RX.load H rfl (i := 0) rfl rfl one4 | exact RX.load H rfl (i := 1) rfl rfl one4 | exact RX.load H rfl (i := 2) rfl rfl one4) ?_
            refine JL.nil ?_
            refine J.join (ι := Bool) (fun q => [(6, .bool q)]) (fun q w => q = (fromB (rowOf s.op).src s.src 0 262143 && fromB (rowOf s.op).jump s.jump 1 262144) ∧ Hp w0 w ([(rr, cel (rowOf s.op).rv 62)] :: [(b1, cel s.v 25)] :: F)) [(1, _), (5, _)] ⟨rfl, rfl, trivial⟩ ?_ ?_
            rotate_left
            · skip
              intro k2 hk2
              refine J.cond rfl (fun hj => ?_) (fun hj => ?_)
              · skip
                refine J.region ?_
                refine JL.go trivial (RX.movev (v := Value.bool _) rfl) ?_
                refine JL.go trivial (RX.movev (v := Value.bool _) rfl) ?_
                refine JL.splitS 47 rfl (fun hq => ?_) (fun hq => ?_)
                · skip
                  first | have hqp := of_decide_eq_true hq | skip
                  refine JL.go ⟨_, rfl, hq⟩ (RX.fieldAddr rfl fo25_3 rfl) ?_
                  refine JL.go ⟨_, rfl, hq⟩ (by first | exact RX.load H rfl (i := 0) rfl rfl one3 | exact RX.load H rfl (i := 1) rfl rfl one3 | exact RX.load H rfl (i := 2) rfl rfl one3) ?_
                  refine JL.does ⟨_, rfl, hq⟩ (EX.call rfl cl28 rfl ((within_b H))) ?_
                  rintro _ w ⟨rfl, H⟩
                  refine JL.go trivial (RX.pick_t rfl hq) ?_
                  refine JL.go trivial (RX.assignv (v := Value.bool _) rfl) ?_
                  refine JL.nil ?_
                  exact hk2 _ _ _ ⟨rfl, rfl, trivial⟩ ⟨rfl, trivial⟩ ⟨by rw [← hq1, hq]; simp [fromB, hj, withinB], H⟩
                · skip
                  first | have hqp := of_decide_eq_false hq | skip
                  refine JL.no ⟨_, rfl, gno hq⟩ ?_
                  refine JL.no ⟨_, rfl, gno hq⟩ ?_
                  refine JL.no ⟨_, rfl, gno hq⟩ ?_
                  refine JL.go trivial (RX.pick_f rfl hq) ?_
                  refine JL.go trivial (RX.assignv (v := Value.bool _) rfl) ?_
                  refine JL.nil ?_
                  exact hk2 _ _ _ ⟨rfl, rfl, trivial⟩ ⟨rfl, trivial⟩ ⟨by rw [← hq1, hq]; simp [fromB, hj, withinB], H⟩
              · skip
                refine J.region ?_
                refine JL.go trivial (RX.movev (v := Value.bool _) rfl) ?_
                refine JL.go trivial (RX.movev (v := Value.bool _) rfl) ?_
                refine JL.splitS 53 rfl (fun hq => ?_) (fun hq => ?_)
                · skip
                  first | have hqp := of_decide_eq_true hq | skip
                  refine JL.go ⟨_, rfl, hq⟩ (RX.fieldAddr rfl fo25_3 rfl) ?_
                  refine JL.go ⟨_, rfl, hq⟩ (by first | exact RX.load H rfl (i := 0) rfl rfl one3 | exact RX.load H rfl (i := 1) rfl rfl one3 | exact RX.load H rfl (i := 2) rfl rfl one3) ?_
                  refine JL.go ⟨_, rfl, hq⟩ (RX.eq rfl rfl) ?_
                  refine JL.go trivial (RX.pick_t rfl hq) ?_
                  refine JL.go trivial (RX.assignv (v := Value.bool _) rfl) ?_
                  refine JL.nil ?_
                  exact hk2 _ _ _ ⟨rfl, rfl, trivial⟩ ⟨rfl, trivial⟩ ⟨by rw [← hq1, hq]; simp [fromB, hj, withinB], H⟩
                · skip
                  first | have hqp := of_decide_eq_false hq | skip
                  refine JL.no ⟨_, rfl, gno hq⟩ ?_
                  refine JL.no ⟨_, rfl, gno hq⟩ ?_
                  refine JL.no ⟨_, rfl, gno hq⟩ ?_
                  refine JL.go trivial (RX.pick_f rfl hq) ?_
                  refine JL.go trivial (RX.assignv (v := Value.bool _) rfl) ?_
                  refine JL.nil ?_
                  exact hk2 _ _ _ ⟨rfl, rfl, trivial⟩ ⟨rfl, trivial⟩ ⟨by rw [← hq1, hq]; simp [fromB, hj, withinB], H⟩
            · skip
              clear H
              rintro q2 ρ w ⟨hq2, H⟩
              refine J.seq ?_
              refine J.join (ι := Bool) (fun q => [(6, .bool q)]) (fun q w => q = (q2 && (decide (0 < (rowOf s.op).n) || decide (s.n = 0)) && ((rowOf s.op).k || decide (s.k = 0))) ∧ Hp w0 w ([(rr, cel (rowOf s.op).rv 62)] :: [(b1, cel s.v 25)] :: F)) [(1, _)] ⟨rfl, trivial⟩ ?_ ?_
              rotate_left
              · skip
                intro k2 hk2
                refine J.region ?_
                refine JL.go trivial (RX.movev (v := Value.bool _) rfl) ?_
                refine JL.go trivial (RX.movev (v := Value.bool _) rfl) ?_
                refine JL.splitS 59 rfl (fun hq => ?_) (fun hq => ?_)
                · skip
                  first | have hqp := of_decide_eq_true hq | skip
                  refine JL.go ⟨_, rfl, hq⟩ (RX.fieldAddr rfl fo62_3 rfl) ?_
                  refine JL.go ⟨_, rfl, hq⟩ (by first | exact RX.load H rfl (i := 0) rfl rfl one4 | exact RX.load H rfl (i := 1) rfl rfl one4 | exact RX.load H rfl (i := 2) rfl rfl one4) ?_
                  refine JL.go ⟨_, rfl, hq⟩ (RX.movev (v := Value.bool _) rfl) ?_
                  refine JL.splitS 62 rfl (fun hn => ?_) (fun hn => ?_)
                  · skip
                    first | have hnp := of_decide_eq_true hn | skip
                    refine JL.no ⟨_, rfl, gno hn⟩ ?_
                    refine JL.no ⟨_, rfl, gno hn⟩ ?_
                    refine JL.no ⟨_, rfl, gno hn⟩ ?_
                    refine JL.go ⟨_, rfl, hq⟩ (RX.pick_t rfl hn) ?_
                    refine JL.go trivial (RX.pick_t rfl hq) ?_
                    refine JL.go trivial (RX.movev (v := Value.bool _) rfl) ?_
                    refine JL.go ⟨_, rfl, rfl⟩ (RX.fieldAddr rfl fo62_4 rfl) ?_
                    refine JL.go ⟨_, rfl, rfl⟩ (by first | exact RX.load H rfl (i := 0) rfl rfl one4 | exact RX.load H rfl (i := 1) rfl rfl one4 | exact RX.load H rfl (i := 2) rfl rfl one4) ?_
                    refine JL.go ⟨_, rfl, rfl⟩ (RX.movev (v := Value.bool _) rfl) ?_
                    refine JL.splitS 71 rfl (fun hk => ?_) (fun hk => ?_)
                    · skip
                      first | have hkp := of_decide_eq_true hk | skip
                      refine JL.no ⟨_, rfl, gno hk⟩ ?_
                      refine JL.no ⟨_, rfl, gno hk⟩ ?_
                      refine JL.no ⟨_, rfl, gno hk⟩ ?_
                      refine JL.go ⟨_, rfl, rfl⟩ (RX.pick_t rfl hk) ?_
                      refine JL.go trivial (RX.pick_t rfl rfl) ?_
                      refine JL.go trivial (RX.assignv (v := Value.bool _) rfl) ?_
                      refine JL.nil ?_
                      exact hk2 _ _ _ ⟨rfl, trivial⟩ ⟨rfl, trivial⟩ ⟨by first | (simp [hq, hn, hm, hk]; done) | (simp [hq, hn, hm]; done) | (simp [hq, hn, hk]; done) | (simp [hq, hn]; done) | (simp [hq]; done), H⟩
                    · skip
                      first | have hkp := of_decide_eq_false hk | skip
                      refine JL.go ⟨_, rfl, hk⟩ (RX.fieldAddr rfl fo25_6 rfl) ?_
                      refine JL.go ⟨_, rfl, hk⟩ (by first | exact RX.load H rfl (i := 0) rfl rfl one3 | exact RX.load H rfl (i := 1) rfl rfl one3 | exact RX.load H rfl (i := 2) rfl rfl one3) ?_
                      refine JL.go ⟨_, rfl, hk⟩ (RX.eq rfl rfl) ?_
                      refine JL.go ⟨_, rfl, rfl⟩ (RX.pick_f rfl hk) ?_
                      refine JL.go trivial (RX.pick_t rfl rfl) ?_
                      refine JL.go trivial (RX.assignv (v := Value.bool _) rfl) ?_
                      refine JL.nil ?_
                      exact hk2 _ _ _ ⟨rfl, trivial⟩ ⟨rfl, trivial⟩ ⟨by first | (simp [hq, hn, hm, hk]; done) | (simp [hq, hn, hm]; done) | (simp [hq, hn, hk]; done) | (simp [hq, hn]; done) | (simp [hq]; done), H⟩
                  · skip
                    first | have hnp := of_decide_eq_false hn | skip
                    refine JL.go ⟨_, rfl, hn⟩ (RX.fieldAddr rfl fo25_5 rfl) ?_
                    refine JL.go ⟨_, rfl, hn⟩ (by first | exact RX.load H rfl (i := 0) rfl rfl one3 | exact RX.load H rfl (i := 1) rfl rfl one3 | exact RX.load H rfl (i := 2) rfl rfl one3) ?_
                    refine JL.go ⟨_, rfl, hn⟩ (RX.eq rfl rfl) ?_
                    refine JL.go ⟨_, rfl, hq⟩ (RX.pick_f rfl hn) ?_
                    refine JL.go trivial (RX.pick_t rfl hq) ?_
                    refine JL.go trivial (RX.movev (v := Value.bool _) rfl) ?_
                    refine JL.splitS 68 rfl (fun hm => ?_) (fun hm => ?_)
                    · skip
                      first | have hmp := of_decide_eq_true hm | skip
                      refine JL.go ⟨_, rfl, hm⟩ (RX.fieldAddr rfl fo62_4 rfl) ?_
                      refine JL.go ⟨_, rfl, hm⟩ (by first | exact RX.load H rfl (i := 0) rfl rfl one4 | exact RX.load H rfl (i := 1) rfl rfl one4 | exact RX.load H rfl (i := 2) rfl rfl one4) ?_
                      refine JL.go ⟨_, rfl, hm⟩ (RX.movev (v := Value.bool _) rfl) ?_
                      refine JL.splitS 71 rfl (fun hk => ?_) (fun hk => ?_)
                      · skip
                        first | have hkp := of_decide_eq_true hk | skip
                        refine JL.no ⟨_, rfl, gno hk⟩ ?_
                        refine JL.no ⟨_, rfl, gno hk⟩ ?_
                        refine JL.no ⟨_, rfl, gno hk⟩ ?_
                        refine JL.go ⟨_, rfl, hm⟩ (RX.pick_t rfl hk) ?_
                        refine JL.go trivial (RX.pick_t rfl hm) ?_
                        refine JL.go trivial (RX.assignv (v := Value.bool _) rfl) ?_
                        refine JL.nil ?_
                        exact hk2 _ _ _ ⟨rfl, trivial⟩ ⟨rfl, trivial⟩ ⟨by first | (simp [hq, hn, hm, hk]; done) | (simp [hq, hn, hm]; done) | (simp [hq, hn, hk]; done) | (simp [hq, hn]; done) | (simp [hq]; done), H⟩
                      · skip
                        first | have hkp := of_decide_eq_false hk | skip
                        refine JL.go ⟨_, rfl, hk⟩ (RX.fieldAddr rfl fo25_6 rfl) ?_
                        refine JL.go ⟨_, rfl, hk⟩ (by first | exact RX.load H rfl (i := 0) rfl rfl one3 | exact RX.load H rfl (i := 1) rfl rfl one3 | exact RX.load H rfl (i := 2) rfl rfl one3) ?_
                        refine JL.go ⟨_, rfl, hk⟩ (RX.eq rfl rfl) ?_
                        refine JL.go ⟨_, rfl, hm⟩ (RX.pick_f rfl hk) ?_
                        refine JL.go trivial (RX.pick_t rfl hm) ?_
                        refine JL.go trivial (RX.assignv (v := Value.bool _) rfl) ?_
                        refine JL.nil ?_
                        exact hk2 _ _ _ ⟨rfl, trivial⟩ ⟨rfl, trivial⟩ ⟨by first | (simp [hq, hn, hm, hk]; done) | (simp [hq, hn, hm]; done) | (simp [hq, hn, hk]; done) | (simp [hq, hn]; done) | (simp [hq]; done), H⟩
                    · skip
                      first | have hmp := of_decide_eq_false hm | skip
                      refine JL.no ⟨_, rfl, gno hm⟩ ?_
                      refine JL.no ⟨_, rfl, gno hm⟩ ?_
                      refine JL.no ⟨_, rfl, gno hm⟩ ?_
                      refine JL.no ⟨_, rfl, nofun⟩ ?_
                      refine JL.no ⟨_, rfl, nofun⟩ ?_
                      refine JL.no ⟨_, rfl, nofun⟩ ?_
                      refine JL.no ⟨_, rfl, gno hm⟩ ?_
                      refine JL.go trivial (RX.pick_f rfl hm) ?_
                      refine JL.go trivial (RX.assignv (v := Value.bool _) rfl) ?_
                      refine JL.nil ?_
                      exact hk2 _ _ _ ⟨rfl, trivial⟩ ⟨rfl, trivial⟩ ⟨by first | (simp [hq, hn, hm, hk]; done) | (simp [hq, hn, hm]; done) | (simp [hq, hn, hk]; done) | (simp [hq, hn]; done) | (simp [hq]; done), H⟩
                · skip
                  first | have hqp := of_decide_eq_false hq | skip
                  refine JL.no ⟨_, rfl, gno hq⟩ ?_
                  refine JL.no ⟨_, rfl, gno hq⟩ ?_
                  refine JL.no ⟨_, rfl, gno hq⟩ ?_
                  refine JL.no ⟨_, rfl, nofun⟩ ?_
                  refine JL.no ⟨_, rfl, nofun⟩ ?_
                  refine JL.no ⟨_, rfl, nofun⟩ ?_
                  refine JL.no ⟨_, rfl, gno hq⟩ ?_
                  refine JL.go trivial (RX.pick_f rfl hq) ?_
                  refine JL.go trivial (RX.movev (v := Value.bool _) rfl) ?_
                  refine JL.no ⟨_, rfl, gno rfl⟩ ?_
                  refine JL.no ⟨_, rfl, gno rfl⟩ ?_
                  refine JL.no ⟨_, rfl, gno rfl⟩ ?_
                  refine JL.no ⟨_, rfl, nofun⟩ ?_
                  refine JL.no ⟨_, rfl, nofun⟩ ?_
                  refine JL.no ⟨_, rfl, nofun⟩ ?_
                  refine JL.no ⟨_, rfl, gno rfl⟩ ?_
                  refine JL.go trivial (RX.pick_f rfl rfl) ?_
                  refine JL.go trivial (RX.assignv (v := Value.bool _) rfl) ?_
                  refine JL.nil ?_
                  exact hk2 _ _ _ ⟨rfl, trivial⟩ ⟨rfl, trivial⟩ ⟨by first | (simp [hq, hn, hm, hk]; done) | (simp [hq, hn, hm]; done) | (simp [hq, hn, hk]; done) | (simp [hq, hn]; done) | (simp [hq]; done), H⟩
              · skip
                clear H
                rintro q3 ρ w ⟨hq3, H⟩
                refine J.seq ?_
                refine J.seq ?_
                refine J.region ?_
                refine JL.go trivial (RX.movev (v := Value.bool _) rfl) ?_
                refine JL.go trivial (RX.not rfl) ?_
                refine JL.nil ?_
                refine J.cond rfl (fun hg => ?_) (fun hg => ?_)
                · skip
                  refine J.seq ?_
                  refine J.region ?_
                  refine JL.go trivial (RX.assign) ?_
                  refine JL.nil ?_
                  refine J.ret1 (v := Value.int _ _) Tryd.func11 rfl rfl ?_
                  have e : formB s = false := by rw [hfr, ← hq2, ← hq3, (by simpa using hg : q3 = false)]; rfl
                  rw [e]; exact ⟨_, rfl, rfl, H.drop.drop⟩
                · skip
                  refine J.skip ?_
                  refine J.seq ?_
                  refine J.region ?_
                  refine JL.go trivial (RX.loadAgg H rfl (i := 1) (vs := s.v) rfl rfl ag25) ?_
                  refine JL.does trivial (EX.call rfl cl30 rfl ((number_b H hs))) ?_
                  rintro _ w ⟨rfl, H⟩
                  refine JL.go trivial (RX.assignv (v := Value.bool _) rfl) ?_
                  refine JL.nil ?_
                  refine J.seq ?_
                  refine J.seq ?_
                  refine J.region ?_
                  refine JL.go trivial (RX.movev (v := Value.bool _) rfl) ?_
                  refine JL.go trivial (RX.not rfl) ?_
                  refine JL.nil ?_
                  refine J.cond rfl (fun hnum => ?_) (fun hnum => ?_)
                  · skip
                    refine J.seq ?_
                    refine J.region ?_
                    refine JL.go trivial (RX.assign) ?_
                    refine JL.nil ?_
                    refine J.ret1 (v := Value.int _ _) Tryd.func11 rfl rfl ?_
                    have e : formB s = false := by rw [hfr, (by simpa using hnum : numB s = false), Bool.and_false]
                    rw [e]; exact ⟨_, rfl, rfl, H.drop.drop⟩
                  · skip
                    refine J.skip ?_
                    refine J.seq ?_
                    refine J.region ?_
                    refine JL.go trivial (RX.assign) ?_
                    refine JL.nil ?_
                    refine J.ret1 (v := Value.int _ _) Tryd.func11 rfl rfl ?_
                    have e : formB s = true := by rw [hfr, ← hq2, ← hq3, (by simpa using hg : q3 = true), (by simpa using hnum : numB s = true)]; rfl
                    rw [e]; exact ⟨_, rfl, rfl, H.drop.drop⟩
theorem rinform_b {w0 w : World} {F : List Seg} {p : Prg} {pp : Option Addr} {pc : Nat} (H : Hp w0 w F) (hst : SlAt F pp (stepsV p.steps)) (hp : p.Ok) : Ret Tryd.prog 38 [.agg (prgV p pp p.steps.length pc).toArray] w fun v w' => v = .bool (encOk p) ∧ Hp w0 w' F := by
  refine Calls.of_J (n := 45) Tryd.func38 rfl rfl rfl ?_
  refine J.seq ?_
  refine J.region ?_
  refine JL.does trivial (EX.box (v := Value.agg _) H rfl rfl) ?_
  rintro _ w ⟨b1, rfl, H⟩
  refine JL.go trivial (RX.assign) ?_
  refine JL.nil ?_
  refine J.seq ?_
  have hnum := hp.num
  refine J.region ?_
  refine JL.go trivial (RX.fieldAddr rfl fo33_0 rfl) ?_
  refine JL.go trivial (by first | exact RX.load H rfl (i := 0) rfl rfl one3 | exact RX.load H rfl (i := 1) rfl rfl one3 | exact RX.load H rfl (i := 2) rfl rfl one3) ?_
  refine JL.does trivial (EX.call rfl cl28 rfl ((within_b H))) ?_
  rintro _ w ⟨rfl, H⟩
  refine JL.go trivial (RX.movev (v := Value.bool _) rfl) ?_
  refine JL.splitS 10 rfl (fun h1 => ?_) (fun h1 => ?_)
  · skip
    first | have h1p := of_decide_eq_true h1 | skip
    refine JL.go ⟨_, rfl, h1⟩ (RX.fieldAddr rfl fo33_1 rfl) ?_
    refine JL.go ⟨_, rfl, h1⟩ (by first | exact RX.load H rfl (i := 0) rfl rfl one3 | exact RX.load H rfl (i := 1) rfl rfl one3 | exact RX.load H rfl (i := 2) rfl rfl one3) ?_
    refine JL.does ⟨_, rfl, h1⟩ (EX.call rfl cl28 rfl ((within_b H))) ?_
    rintro _ w ⟨rfl, H⟩
    refine JL.go trivial (RX.pick_t rfl h1) ?_
    refine JL.go trivial (RX.movev (v := Value.bool _) rfl) ?_
    refine JL.splitS 15 rfl (fun h2 => ?_) (fun h2 => ?_)
    · skip
      first | have h2p := of_decide_eq_true h2 | skip
      refine JL.go ⟨_, rfl, h2⟩ (RX.fieldAddr rfl fo33_2 rfl) ?_
      refine JL.go ⟨_, rfl, h2⟩ (by first | exact RX.load H rfl (i := 0) rfl rfl one3 | exact RX.load H rfl (i := 1) rfl rfl one3 | exact RX.load H rfl (i := 2) rfl rfl one3) ?_
      refine JL.does ⟨_, rfl, h2⟩ (EX.call rfl cl28 rfl ((within_b H))) ?_
      rintro _ w ⟨rfl, H⟩
      refine JL.go trivial (RX.pick_t rfl h2) ?_
      refine JL.go trivial (RX.movev (v := Value.bool _) rfl) ?_
      refine JL.splitS 20 rfl (fun h3 => ?_) (fun h3 => ?_)
      · skip
        first | have h3p := of_decide_eq_true h3 | skip
        refine JL.go ⟨_, rfl, h3⟩ (RX.fieldAddr rfl fo33_3 rfl) ?_
        refine JL.go ⟨_, rfl, h3⟩ (by first | exact RX.load H rfl (i := 0) rfl rfl one3 | exact RX.load H rfl (i := 1) rfl rfl one3 | exact RX.load H rfl (i := 2) rfl rfl one3) ?_
        refine JL.does ⟨_, rfl, h3⟩ (EX.call rfl cl28 rfl ((within_b H))) ?_
        rintro _ w ⟨rfl, H⟩
        refine JL.go trivial (RX.pick_t rfl h3) ?_
        refine JL.go trivial (RX.assignv (v := Value.bool _) rfl) ?_
        refine JL.nil ?_
        refine J.seq ?_
        refine J.seq ?_
        refine J.region ?_
        refine JL.go trivial (RX.movev (v := Value.bool _) rfl) ?_
        refine JL.go trivial (RX.not rfl) ?_
        refine JL.go trivial (RX.movev (v := Value.bool _) rfl) ?_
        refine JL.splitS 27 rfl (fun h4 => ?_) (fun h4 => ?_)
        · skip
          first | have h4p := of_decide_eq_true h4 | skip
          refine JL.no ⟨_, rfl, gno h4⟩ ?_
          refine JL.no ⟨_, rfl, gno h4⟩ ?_
          refine JL.no ⟨_, rfl, gno h4⟩ ?_
          refine JL.no ⟨_, rfl, gno h4⟩ ?_
          refine JL.go trivial (RX.pick_t rfl h4) ?_
          refine JL.nil ?_
          refine J.cond_t rfl rfl ?_
          refine J.seq ?_
          refine J.region ?_
          refine JL.go trivial (RX.assign) ?_
          refine JL.nil ?_
          refine J.ret1 (v := Value.bool _) Tryd.func38 rfl rfl ?_
          have e := encOk_no_head (p := p) (i := 3) (by decide) (show withinB (p.hd 3) 0 262144 = false from (by simpa using (show (!withinB (p.hd 3) 0 262144) = true from h4)))
          rw [e]; exact ⟨_, rfl, rfl, H.drop⟩
        · skip
          first | have h4p := of_decide_eq_false h4 | skip
          refine JL.go ⟨_, rfl, h4⟩ (RX.fieldAddr rfl fo33_4 rfl) ?_
          refine JL.go ⟨_, rfl, h4⟩ (by first | exact RX.load H rfl (i := 0) rfl rfl one22 | exact RX.load H rfl (i := 1) rfl rfl one22 | exact RX.load H rfl (i := 2) rfl rfl one22) ?_
          refine JL.go ⟨_, rfl, h4⟩ (RX.len_slice rfl (by rw [sl22]; rfl) rfl) ?_
          refine JL.go ⟨_, rfl, h4⟩ (RX.gt rfl rfl) ?_
          refine JL.go trivial (RX.pick_f rfl h4) ?_
          refine JL.nil ?_
          refine J.cond_d rfl (fun h5 => ?_) (fun h5 => ?_)
          · skip
            refine J.seq ?_
            refine J.region ?_
            refine JL.go trivial (RX.assign) ?_
            refine JL.nil ?_
            refine J.ret1 (v := Value.bool _) Tryd.func38 rfl rfl ?_
            rw [encOk_no_len (p := p) (by omega)]; exact ⟨_, rfl, rfl, H.drop⟩
          · skip
            refine J.skip ?_
            refine J.seq ?_
            refine J.seq ?_
            refine J.region ?_
            refine JL.go trivial (RX.fieldAddr rfl fo33_4 rfl) ?_
            refine JL.go trivial (by first | exact RX.load H rfl (i := 0) rfl rfl one22 | exact RX.load H rfl (i := 1) rfl rfl one22 | exact RX.load H rfl (i := 2) rfl rfl one22) ?_
            refine JL.go trivial (RX.len_slice rfl (by rw [sl22]; rfl) rfl) ?_
            refine JL.go trivial (RX.move) ?_
            refine JL.nil ?_
            refine J.block ?_
            refine J.loop (ι := Nat) (S := fun q => [(36, .int .i64 (q : Nat))]) (Φ := fun q w => q ≤ p.steps.length ∧ (∀ s ∈ p.steps.take q, formB s = true) ∧ Hp w0 w ([(b1, cel (prgV p pp p.steps.length pc) 33)] :: F)) (μ := fun q => p.steps.length - q) (C := [(34, _), (35, _)]) 0 ⟨rfl, rfl, trivial⟩ ⟨rfl, trivial⟩ ?_ ?_
            · exact ⟨by omega, fun s h => (by simp at h), H⟩
            clear H
            rintro i ρ w ⟨hi, hfs, H⟩ IH
            refine J.seq ?_
            refine J.region ?_
            refine JL.go trivial (RX.lt rfl rfl) ?_
            refine JL.nil ?_
            refine J.seq ?_
            refine J.cond_d rfl (fun hlt => ?_) (fun hlt => ?_)
            · skip
              obtain ⟨s, hs⟩ : ∃ s, p.steps[i]? = some s := ⟨_, List.getElem?_eq_getElem (by omega)⟩
              have hsok := hp.steps s (List.mem_of_getElem? hs)
              obtain ⟨pb, po, rfl, _⟩ := hst.some (by rw [stepsV_len]; omega)
              refine J.skip ?_
              refine J.seq ?_
              refine J.block ?_
              refine J.seq ?_
              refine J.region ?_
              refine JL.go trivial (RX.indexAddr rfl rfl sl22 (by omega) (by omega) rfl) ?_
              refine JL.go trivial (RX.loadAggS H hst.cons rfl (j := i * 7) (by omega) (stepsV_read _ _ _ hs) ag25) ?_
              refine JL.does trivial (EX.alloc H zr25 rfl) ?_
              rintro _ w ⟨b2, rfl, H⟩
              refine JL.does trivial (EX.storeAgg H rfl rfl (i := 0) (vs := s.v) (l' := s.v) rfl (stp_cell _) (by simp [Stp.v]) sz25 rfl rfl) ?_
              rintro _ w H
              refine JL.nil ?_
              refine J.seq ?_
              refine J.region ?_
              refine JL.go trivial (RX.loadAgg H rfl (i := 0) (vs := s.v) rfl rfl ag25) ?_
              refine JL.does trivial (EX.call rfl cl11 rfl ((rform_b H hsok))) ?_
              rintro _ w ⟨rfl, H⟩
              refine JL.go trivial (RX.assignv (v := Value.int _ _) rfl) ?_
              refine JL.nil ?_
              refine J.seq ?_
              refine J.region ?_
              refine JL.go trivial (RX.movev (v := Value.int _ _) rfl) ?_
              refine JL.go trivial (RX.ne rfl rfl) ?_
              refine JL.nil ?_
              refine J.cond_d rfl (fun hf => ?_) (fun hf => ?_)
              · skip
                refine J.seq ?_
                refine J.region ?_
                refine JL.go trivial (RX.assign) ?_
                refine JL.nil ?_
                refine J.ret1 (v := Value.bool _) Tryd.func38 rfl rfl ?_
                have hff : formB s = false := by
                  cases h : formB s
                  · rfl
                  · rw [h] at hf; simp at hf
                rw [encOk_no_step hs hff]; exact ⟨_, rfl, rfl, H.drop.drop⟩
              · skip
                refine J.skip ?_
                refine J.inBlock ?_
                refine J.region ?_
                refine JL.go trivial (RX.add rfl rfl (w_i64 rfl (by omega) (by omega))) ?_
                refine JL.go trivial (RX.movev (v := Value.int _ _) rfl) ?_
                refine JL.nil ?_
                have hft : formB s = true := by
                  cases h : formB s
                  · rw [h] at hf; simp at hf
                  · rfl
                exact IH (i + 1) _ _ (by omega) ⟨rfl, rfl, trivial⟩ ⟨rfl, trivial⟩ ⟨by omega, fun t ht => (by rw [take_succ_get hs] at ht; rcases List.mem_append.1 ht with h | h; exact hfs t h; rw [List.mem_singleton.1 h]; exact hft), H.drop⟩
            · skip
              refine J.exit rfl ?_
              refine J.seq ?_
              refine J.region ?_
              refine JL.go trivial (RX.assign) ?_
              refine JL.nil ?_
              refine J.ret1 (v := Value.bool _) Tryd.func38 rfl rfl ?_
              have hif : i = p.steps.length := by omega
              subst hif
              rw [List.take_length] at hfs
              rw [encOk_yes (p := p) (by omega) (fun j hj => (by have : j = 0 ∨ j = 1 ∨ j = 2 ∨ j = 3 := (by omega); rcases this with rfl | rfl | rfl | rfl; exact h1; exact h2; exact h3; exact (by simpa using (show (!withinB (p.hd 3) 0 262144) = false from h4) : withinB (p.hd 3) 0 262144 = true))) hfs]; exact ⟨_, rfl, rfl, H.drop⟩
      · skip
        first | have h3p := of_decide_eq_false h3 | skip
        refine JL.no ⟨_, rfl, gno h3⟩ ?_
        refine JL.no ⟨_, rfl, gno h3⟩ ?_
        refine JL.no ⟨_, rfl, gno h3⟩ ?_
        refine JL.go trivial (RX.pick_f rfl h3) ?_
        refine JL.go trivial (RX.assignv (v := Value.bool _) rfl) ?_
        refine JL.nil ?_
        refine J.seq ?_
        refine J.seq ?_
        refine J.region ?_
        refine JL.go trivial (RX.movev (v := Value.bool _) rfl) ?_
        refine JL.go trivial (RX.not rfl) ?_
        refine JL.go trivial (RX.movev (v := Value.bool _) rfl) ?_
        refine JL.no ⟨_, rfl, gno rfl⟩ ?_
        refine JL.no ⟨_, rfl, gno rfl⟩ ?_
        refine JL.no ⟨_, rfl, gno rfl⟩ ?_
        refine JL.no ⟨_, rfl, gno rfl⟩ ?_
        refine JL.go trivial (RX.pick_t rfl rfl) ?_
        refine JL.nil ?_
        refine J.cond_t rfl rfl ?_
        refine J.seq ?_
        refine J.region ?_
        refine JL.go trivial (RX.assign) ?_
        refine JL.nil ?_
        refine J.ret1 (v := Value.bool _) Tryd.func38 rfl rfl ?_
        have e := encOk_no_head (p := p) (i := 2) (by decide) (show withinB (p.hd 2) 0 262144 = false from h3)
        rw [e]; exact ⟨_, rfl, rfl, H.drop⟩
    · skip
      first | have h2p := of_decide_eq_false h2 | skip
      refine JL.no ⟨_, rfl, gno h2⟩ ?_
      refine JL.no ⟨_, rfl, gno h2⟩ ?_
      refine JL.no ⟨_, rfl, gno h2⟩ ?_
      refine JL.go trivial (RX.pick_f rfl h2) ?_
      refine JL.go trivial (RX.movev (v := Value.bool _) rfl) ?_
      refine JL.no ⟨_, rfl, gno rfl⟩ ?_
      refine JL.no ⟨_, rfl, gno rfl⟩ ?_
      refine JL.no ⟨_, rfl, gno rfl⟩ ?_
      refine JL.go trivial (RX.pick_f rfl rfl) ?_
      refine JL.go trivial (RX.assignv (v := Value.bool _) rfl) ?_
      refine JL.nil ?_
      refine J.seq ?_
      refine J.seq ?_
      refine J.region ?_
      refine JL.go trivial (RX.movev (v := Value.bool _) rfl) ?_
      refine JL.go trivial (RX.not rfl) ?_
      refine JL.go trivial (RX.movev (v := Value.bool _) rfl) ?_
      refine JL.no ⟨_, rfl, gno rfl⟩ ?_
      refine JL.no ⟨_, rfl, gno rfl⟩ ?_
      refine JL.no ⟨_, rfl, gno rfl⟩ ?_
      refine JL.no ⟨_, rfl, gno rfl⟩ ?_
      refine JL.go trivial (RX.pick_t rfl rfl) ?_
      refine JL.nil ?_
      refine J.cond_t rfl rfl ?_
      refine J.seq ?_
      refine J.region ?_
      refine JL.go trivial (RX.assign) ?_
      refine JL.nil ?_
      refine J.ret1 (v := Value.bool _) Tryd.func38 rfl rfl ?_
      have e := encOk_no_head (p := p) (i := 1) (by decide) (show withinB (p.hd 1) 0 262144 = false from h2)
      rw [e]; exact ⟨_, rfl, rfl, H.drop⟩
  · skip
    first | have h1p := of_decide_eq_false h1 | skip
    refine JL.no ⟨_, rfl, gno h1⟩ ?_
    refine JL.no ⟨_, rfl, gno h1⟩ ?_
    refine JL.no ⟨_, rfl, gno h1⟩ ?_
    refine JL.go trivial (RX.pick_f rfl h1) ?_
    refine JL.go trivial (RX.movev (v := Value.bool _) rfl) ?_
    refine JL.no ⟨_, rfl, gno rfl⟩ ?_
    refine JL.no ⟨_, rfl, gno rfl⟩ ?_
    refine JL.no ⟨_, rfl, gno rfl⟩ ?_
    refine JL.go trivial (RX.pick_f rfl rfl) ?_
    refine JL.go trivial (RX.movev (v := Value.bool _) rfl) ?_
    refine JL.no ⟨_, rfl, gno rfl⟩ ?_
    refine JL.no ⟨_, rfl, gno rfl⟩ ?_
    refine JL.no ⟨_, rfl, gno rfl⟩ ?_
    refine JL.go trivial (RX.pick_f rfl rfl) ?_
    refine JL.go trivial (RX.assignv (v := Value.bool _) rfl) ?_
    refine JL.nil ?_
    refine J.seq ?_
    refine J.seq ?_
    refine J.region ?_
    refine JL.go trivial (RX.movev (v := Value.bool _) rfl) ?_
    refine JL.go trivial (RX.not rfl) ?_
    refine JL.go trivial (RX.movev (v := Value.bool _) rfl) ?_
    refine JL.no ⟨_, rfl, gno rfl⟩ ?_
    refine JL.no ⟨_, rfl, gno rfl⟩ ?_
    refine JL.no ⟨_, rfl, gno rfl⟩ ?_
    refine JL.no ⟨_, rfl, gno rfl⟩ ?_
    refine JL.go trivial (RX.pick_t rfl rfl) ?_
    refine JL.nil ?_
    refine J.cond_t rfl rfl ?_
    refine J.seq ?_
    refine J.region ?_
    refine JL.go trivial (RX.assign) ?_
    refine JL.nil ?_
    refine J.ret1 (v := Value.bool _) Tryd.func38 rfl rfl ?_
    have e := encOk_no_head (p := p) (i := 0) (by decide) (show withinB (p.hd 0) 0 262144 = false from h1)
    rw [e]; exact ⟨_, rfl, rfl, H.drop⟩

def intsV (l : List Int) : List Value := l.map (Value.int .i64)
theorem intsV_app (a b : List Int) : intsV (a ++ b) = intsV a ++ intsV b := by simp [intsV]
theorem intsV_get {l : List Int} {i : Nat} {x : Int} (h : l[i]? = some x) : (intsV l)[i]? = some (.int .i64 x) := by simp [intsV, h]
theorem intsV_len (l : List Int) : (intsV l).length = l.length := by simp [intsV]
def optI (b : Bool) (x : Int) : List Int := if b then [x] else []
def numsOf (s : Stp) : List Int := [s.op, s.dst] ++ optI (rowOf s.op).src s.src ++ optI (rowOf s.op).jump s.jump ++ [s.count] ++ optI (decide (0 < (rowOf s.op).n)) s.n ++ optI (rowOf s.op).k s.k
theorem numsOf_eq (s : Stp) : numsOf s = stpNums s := by
  unfold numsOf stpNums fieldOffs optI
  cases (rowOf s.op).src <;> cases (rowOf s.op).jump <;> cases (rowOf s.op).k <;> by_cases h : 0 < (rowOf s.op).n <;> simp [h, Stp.at_]
theorem elI : Elem Tryd.prog 77 3 1 8 := Elem.of (by kernel_rfl)
theorem rfields_b {w0 w : World} {F : List Seg} (H : Hp w0 w F) {s : Stp} (h0 : 1 ≤ s.op) (h1 : s.op ≤ 11) : Ret Tryd.prog 40 [.agg s.v.toArray] w fun v w' => ∃ p c q, v = .slice p (stpNums s).length c ∧ OwnSl 3 1 p (stpNums s).length c (intsV (stpNums s)) q ∧ Hp w0 w' (q :: F) := by
  refine Calls.of_J (n := 49) Tryd.func40 rfl rfl rfl ?_
  refine J.seq ?_
  refine J.region ?_
  refine JL.does trivial (EX.box (v := Value.agg _) H rfl rfl) ?_
  rintro _ w ⟨b1, rfl, H⟩
  refine JL.go trivial (RX.assign) ?_
  refine JL.nil ?_
  refine J.seq ?_
  refine J.join (ι := Nat) (fun q => [(3, .pointer (some ⟨q, 0, none⟩))]) (fun q w => Hp w0 w ([(q, cel (rowOf s.op).rv 62)] :: [(b1, cel s.v 25)] :: F)) [(1, _)] ⟨rfl, trivial⟩ ?_ ?_
  rotate_left
  · skip
    intro k2 hk2
    have hrow := rrows_read (op := s.op) (by omega) (by omega)
    refine J.any hmix fun w hs => ?_
    replace H := H.same hs; clear hs
    refine JA.take 1 (listed' := [false, true, false, false, false, false, false]) rfl (by kernel_rfl) (by kernel_rfl) (by kernel_rfl) rfl trivial (fun w => RX.fieldAddr rfl fo25_0 rfl) ?_
    refine JA.all [0, 2, 5] (by kernel_rfl) (by decide) ?_
    refine ⟨?_, ?_, ?_⟩
    · skip
      refine JO.does (listed' := [true, true, false, false, false, false, false]) rfl rfl trivial (EX.call rfl cl29 rfl (rrows_b H)) ?_
      rintro _ w ⟨rb, rfl, H⟩
      refine JA.all [2, 5] (by kernel_rfl) (by decide) ?_
      refine ⟨?_, ?_⟩
      · skip
        refine JO.go (listed' := [true, true, true, false, false, false, false]) rfl rfl trivial (by first | exact RX.load H rfl (i := 0) rfl rfl one3 | exact RX.load H rfl (i := 1) rfl rfl one3 | exact RX.load H rfl (i := 2) rfl rfl one3 | exact RX.load H rfl (i := 3) rfl rfl one3 | exact RX.load H rfl (i := 4) rfl rfl one3) ?_
        refine JA.take 3 (listed' := [true, true, true, true, false, false, false]) rfl (by kernel_rfl) (by kernel_rfl) (by kernel_rfl) rfl trivial (fun w => RX.indexAddr rfl rfl sl63 (by omega) (by omega) rfl) ?_
        refine JA.all [4, 5] (by kernel_rfl) (by decide) ?_
        refine ⟨?_, ?_⟩
        · skip
          refine JO.go (listed' := [true, true, true, true, true, false, false]) rfl rfl trivial ((by first | exact RX.loadAggS H (SlAt.here (xs := rrowsV) rfl) rfl (j := s.op.toNat * 5) (by omega) hrow ag62 | exact RX.loadAggS H (SlAt.here (xs := rrowsV) rfl).cons rfl (j := s.op.toNat * 5) (by omega) hrow ag62)) ?_
          refine JA.all [5] (by kernel_rfl) (by decide) ?_
          refine JO.does (listed' := [true, true, true, true, true, true, false]) rfl rfl trivial (EX.alloc H zr62 rfl) ?_
          rintro _ w ⟨rr, rfl, H⟩
          refine JA.all [6] (by kernel_rfl) (by decide) ?_
          refine JO.does (listed' := [true, true, true, true, true, true, true]) rfl rfl trivial ((by first | exact EX.storeAgg H rfl rfl (i := 0) (vs := (rowOf s.op).rv) rfl (rrow_cell _) (by simp [Row.rv]) sz62 rfl rfl | exact EX.storeAgg H rfl rfl (i := 1) (vs := (rowOf s.op).rv) rfl (rrow_cell _) (by simp [Row.rv]) sz62 rfl rfl)) ?_
          rintro _ w H
          refine JA.done (by kernel_rfl) ?_
          first | exact hk2 rr _ _ ⟨rfl, trivial⟩ ⟨rfl, trivial⟩ ((H.pull 1 rfl).drop) | exact hk2 rr _ _ ⟨rfl, trivial⟩ ⟨rfl, trivial⟩ H.drop
        · skip
          refine JO.does (listed' := [true, true, true, true, false, true, false]) rfl rfl trivial (EX.alloc H zr62 rfl) ?_
          rintro _ w ⟨rr, rfl, H⟩
          refine JA.all [4] (by kernel_rfl) (by decide) ?_
          refine JO.go (listed' := [true, true, true, true, true, true, false]) rfl rfl trivial ((by first | exact RX.loadAggS H (SlAt.here (xs := rrowsV) rfl) rfl (j := s.op.toNat * 5) (by omega) hrow ag62 | exact RX.loadAggS H (SlAt.here (xs := rrowsV) rfl).cons rfl (j := s.op.toNat * 5) (by omega) hrow ag62)) ?_
          refine JA.all [6] (by kernel_rfl) (by decide) ?_
          refine JO.does (listed' := [true, true, true, true, true, true, true]) rfl rfl trivial ((by first | exact EX.storeAgg H rfl rfl (i := 0) (vs := (rowOf s.op).rv) rfl (rrow_cell _) (by simp [Row.rv]) sz62 rfl rfl | exact EX.storeAgg H rfl rfl (i := 1) (vs := (rowOf s.op).rv) rfl (rrow_cell _) (by simp [Row.rv]) sz62 rfl rfl)) ?_
          rintro _ w H
          refine JA.done (by kernel_rfl) ?_
          first | exact hk2 rr _ _ ⟨rfl, trivial⟩ ⟨rfl, trivial⟩ ((H.pull 1 rfl).drop) | exact hk2 rr _ _ ⟨rfl, trivial⟩ ⟨rfl, trivial⟩ H.drop
      · skip
        refine JO.does (listed' := [true, true, false, false, false, true, false]) rfl rfl trivial (EX.alloc H zr62 rfl) ?_
        rintro _ w ⟨rr, rfl, H⟩
        refine JA.all [2] (by kernel_rfl) (by decide) ?_
        refine JO.go (listed' := [true, true, true, false, false, true, false]) rfl rfl trivial (by first | exact RX.load H rfl (i := 0) rfl rfl one3 | exact RX.load H rfl (i := 1) rfl rfl one3 | exact RX.load H rfl (i := 2) rfl rfl one3 | exact RX.load H rfl (i := 3) rfl rfl one3 | exact RX.load H rfl (i := 4) rfl rfl one3) ?_
        refine JA.take 3 (listed' := [true, true, true, true, false, true, false]) rfl (by kernel_rfl) (by kernel_rfl) (by kernel_rfl) rfl trivial (fun w => RX.indexAddr rfl rfl sl63 (by omega) (by omega) rfl) ?_
        refine JA.all [4] (by kernel_rfl) (by decide) ?_
        refine JO.go (listed' := [true, true, true, true, true, true, false]) rfl rfl trivial ((by first | exact RX.loadAggS H (SlAt.here (xs := rrowsV) rfl) rfl (j := s.op.toNat * 5) (by omega) hrow ag62 | exact RX.loadAggS H (SlAt.here (xs := rrowsV) rfl).cons rfl (j := s.op.toNat * 5) (by omega) hrow ag62)) ?_
        refine JA.all [6] (by kernel_rfl) (by decide) ?_
        refine JO.does (listed' := [true, true, true, true, true, true, true]) rfl rfl trivial ((by first | exact EX.storeAgg H rfl rfl (i := 0) (vs := (rowOf s.op).rv) rfl (rrow_cell _) (by simp [Row.rv]) sz62 rfl rfl | exact EX.storeAgg H rfl rfl (i := 1) (vs := (rowOf s.op).rv) rfl (rrow_cell _) (by simp [Row.rv]) sz62 rfl rfl)) ?_
        rintro _ w H
        refine JA.done (by kernel_rfl) ?_
        first | exact hk2 rr _ _ ⟨rfl, trivial⟩ ⟨rfl, trivial⟩ ((H.pull 1 rfl).drop) | exact hk2 rr _ _ ⟨rfl, trivial⟩ ⟨rfl, trivial⟩ H.drop
    · skip
      refine JO.go (listed' := [false, true, true, false, false, false, false]) rfl rfl trivial (by first | exact RX.load H rfl (i := 0) rfl rfl one3 | exact RX.load H rfl (i := 1) rfl rfl one3 | exact RX.load H rfl (i := 2) rfl rfl one3 | exact RX.load H rfl (i := 3) rfl rfl one3 | exact RX.load H rfl (i := 4) rfl rfl one3) ?_
      refine JA.all [0, 5] (by kernel_rfl) (by decide) ?_
      refine ⟨?_, ?_⟩
      · skip
        refine JO.does (listed' := [true, true, true, false, false, false, false]) rfl rfl trivial (EX.call rfl cl29 rfl (rrows_b H)) ?_
        rintro _ w ⟨rb, rfl, H⟩
        refine JA.take 3 (listed' := [true, true, true, true, false, false, false]) rfl (by kernel_rfl) (by kernel_rfl) (by kernel_rfl) rfl trivial (fun w => RX.indexAddr rfl rfl sl63 (by omega) (by omega) rfl) ?_
        refine JA.all [4, 5] (by kernel_rfl) (by decide) ?_
        refine ⟨?_, ?_⟩
        · skip
          refine JO.go (listed' := [true, true, true, true, true, false, false]) rfl rfl trivial ((by first | exact RX.loadAggS H (SlAt.here (xs := rrowsV) rfl) rfl (j := s.op.toNat * 5) (by omega) hrow ag62 | exact RX.loadAggS H (SlAt.here (xs := rrowsV) rfl).cons rfl (j := s.op.toNat * 5) (by omega) hrow ag62)) ?_
          refine JA.all [5] (by kernel_rfl) (by decide) ?_
          refine JO.does (listed' := [true, true, true, true, true, true, false]) rfl rfl trivial (EX.alloc H zr62 rfl) ?_
          rintro _ w ⟨rr, rfl, H⟩
          refine JA.all [6] (by kernel_rfl) (by decide) ?_
          refine JO.does (listed' := [true, true, true, true, true, true, true]) rfl rfl trivial ((by first | exact EX.storeAgg H rfl rfl (i := 0) (vs := (rowOf s.op).rv) rfl (rrow_cell _) (by simp [Row.rv]) sz62 rfl rfl | exact EX.storeAgg H rfl rfl (i := 1) (vs := (rowOf s.op).rv) rfl (rrow_cell _) (by simp [Row.rv]) sz62 rfl rfl)) ?_
          rintro _ w H
          refine JA.done (by kernel_rfl) ?_
          first | exact hk2 rr _ _ ⟨rfl, trivial⟩ ⟨rfl, trivial⟩ ((H.pull 1 rfl).drop) | exact hk2 rr _ _ ⟨rfl, trivial⟩ ⟨rfl, trivial⟩ H.drop
        · skip
          refine JO.does (listed' := [true, true, true, true, false, true, false]) rfl rfl trivial (EX.alloc H zr62 rfl) ?_
          rintro _ w ⟨rr, rfl, H⟩
          refine JA.all [4] (by kernel_rfl) (by decide) ?_
          refine JO.go (listed' := [true, true, true, true, true, true, false]) rfl rfl trivial ((by first | exact RX.loadAggS H (SlAt.here (xs := rrowsV) rfl) rfl (j := s.op.toNat * 5) (by omega) hrow ag62 | exact RX.loadAggS H (SlAt.here (xs := rrowsV) rfl).cons rfl (j := s.op.toNat * 5) (by omega) hrow ag62)) ?_
          refine JA.all [6] (by kernel_rfl) (by decide) ?_
          refine JO.does (listed' := [true, true, true, true, true, true, true]) rfl rfl trivial ((by first | exact EX.storeAgg H rfl rfl (i := 0) (vs := (rowOf s.op).rv) rfl (rrow_cell _) (by simp [Row.rv]) sz62 rfl rfl | exact EX.storeAgg H rfl rfl (i := 1) (vs := (rowOf s.op).rv) rfl (rrow_cell _) (by simp [Row.rv]) sz62 rfl rfl)) ?_
          rintro _ w H
          refine JA.done (by kernel_rfl) ?_
          first | exact hk2 rr _ _ ⟨rfl, trivial⟩ ⟨rfl, trivial⟩ ((H.pull 1 rfl).drop) | exact hk2 rr _ _ ⟨rfl, trivial⟩ ⟨rfl, trivial⟩ H.drop
      · skip
        refine JO.does (listed' := [false, true, true, false, false, true, false]) rfl rfl trivial (EX.alloc H zr62 rfl) ?_
        rintro _ w ⟨rr, rfl, H⟩
        refine JA.all [0] (by kernel_rfl) (by decide) ?_
        refine JO.does (listed' := [true, true, true, false, false, true, false]) rfl rfl trivial (EX.call rfl cl29 rfl (rrows_b H)) ?_
        rintro _ w ⟨rb, rfl, H⟩
        refine JA.take 3 (listed' := [true, true, true, true, false, true, false]) rfl (by kernel_rfl) (by kernel_rfl) (by kernel_rfl) rfl trivial (fun w => RX.indexAddr rfl rfl sl63 (by omega) (by omega) rfl) ?_
        refine JA.all [4] (by kernel_rfl) (by decide) ?_
        refine JO.go (listed' := [true, true, true, true, true, true, false]) rfl rfl trivial ((by first | exact RX.loadAggS H (SlAt.here (xs := rrowsV) rfl) rfl (j := s.op.toNat * 5) (by omega) hrow ag62 | exact RX.loadAggS H (SlAt.here (xs := rrowsV) rfl).cons rfl (j := s.op.toNat * 5) (by omega) hrow ag62)) ?_
        refine JA.all [6] (by kernel_rfl) (by decide) ?_
        refine JO.does (listed' := [true, true, true, true, true, true, true]) rfl rfl trivial ((by first | exact EX.storeAgg H rfl rfl (i := 0) (vs := (rowOf s.op).rv) rfl (rrow_cell _) (by simp [Row.rv]) sz62 rfl rfl | exact EX.storeAgg H rfl rfl (i := 1) (vs := (rowOf s.op).rv) rfl (rrow_cell _) (by simp [Row.rv]) sz62 rfl rfl)) ?_
        rintro _ w H
        refine JA.done (by kernel_rfl) ?_
        first | exact hk2 rr _ _ ⟨rfl, trivial⟩ ⟨rfl, trivial⟩ ((H.pull 1 rfl).drop) | exact hk2 rr _ _ ⟨rfl, trivial⟩ ⟨rfl, trivial⟩ H.drop
    · skip
      refine JO.does (listed' := [false, true, false, false, false, true, false]) rfl rfl trivial (EX.alloc H zr62 rfl) ?_
      rintro _ w ⟨rr, rfl, H⟩
      refine JA.all [0, 2] (by kernel_rfl) (by decide) ?_
      refine ⟨?_, ?_⟩
      · skip
        refine JO.does (listed' := [true, true, false, false, false, true, false]) rfl rfl trivial (EX.call rfl cl29 rfl (rrows_b H)) ?_
        rintro _ w ⟨rb, rfl, H⟩
        refine JA.all [2] (by kernel_rfl) (by decide) ?_
        refine JO.go (listed' := [true, true, true, false, false, true, false]) rfl rfl trivial (by first | exact RX.load H rfl (i := 0) rfl rfl one3 | exact RX.load H rfl (i := 1) rfl rfl one3 | exact RX.load H rfl (i := 2) rfl rfl one3 | exact RX.load H rfl (i := 3) rfl rfl one3 | exact RX.load H rfl (i := 4) rfl rfl one3) ?_
        refine JA.take 3 (listed' := [true, true, true, true, false, true, false]) rfl (by kernel_rfl) (by kernel_rfl) (by kernel_rfl) rfl trivial (fun w => RX.indexAddr rfl rfl sl63 (by omega) (by omega) rfl) ?_
        refine JA.all [4] (by kernel_rfl) (by decide) ?_
        refine JO.go (listed' := [true, true, true, true, true, true, false]) rfl rfl trivial ((by first | exact RX.loadAggS H (SlAt.here (xs := rrowsV) rfl) rfl (j := s.op.toNat * 5) (by omega) hrow ag62 | exact RX.loadAggS H (SlAt.here (xs := rrowsV) rfl).cons rfl (j := s.op.toNat * 5) (by omega) hrow ag62)) ?_
        refine JA.all [6] (by kernel_rfl) (by decide) ?_
        refine JO.does (listed' := [true, true, true, true, true, true, true]) rfl rfl trivial ((by first | exact EX.storeAgg H rfl rfl (i := 0) (vs := (rowOf s.op).rv) rfl (rrow_cell _) (by simp [Row.rv]) sz62 rfl rfl | exact EX.storeAgg H rfl rfl (i := 1) (vs := (rowOf s.op).rv) rfl (rrow_cell _) (by simp [Row.rv]) sz62 rfl rfl)) ?_
        rintro _ w H
        refine JA.done (by kernel_rfl) ?_
        first | exact hk2 rr _ _ ⟨rfl, trivial⟩ ⟨rfl, trivial⟩ ((H.pull 1 rfl).drop) | exact hk2 rr _ _ ⟨rfl, trivial⟩ ⟨rfl, trivial⟩ H.drop
      · skip
        refine JO.go (listed' := [false, true, true, false, false, true, false]) rfl rfl trivial (by first | exact RX.load H rfl (i := 0) rfl rfl one3 | exact RX.load H rfl (i := 1) rfl rfl one3 | exact RX.load H rfl (i := 2) rfl rfl one3 | exact RX.load H rfl (i := 3) rfl rfl one3 | exact RX.load H rfl (i := 4) rfl rfl one3) ?_
        refine JA.all [0] (by kernel_rfl) (by decide) ?_
        refine JO.does (listed' := [true, true, true, false, false, true, false]) rfl rfl trivial (EX.call rfl cl29 rfl (rrows_b H)) ?_
        rintro _ w ⟨rb, rfl, H⟩
        refine JA.take 3 (listed' := [true, true, true, true, false, true, false]) rfl (by kernel_rfl) (by kernel_rfl) (by kernel_rfl) rfl trivial (fun w => RX.indexAddr rfl rfl sl63 (by omega) (by omega) rfl) ?_
        refine JA.all [4] (by kernel_rfl) (by decide) ?_
        refine JO.go (listed' := [true, true, true, true, true, true, false]) rfl rfl trivial ((by first | exact RX.loadAggS H (SlAt.here (xs := rrowsV) rfl) rfl (j := s.op.toNat * 5) (by omega) hrow ag62 | exact RX.loadAggS H (SlAt.here (xs := rrowsV) rfl).cons rfl (j := s.op.toNat * 5) (by omega) hrow ag62)) ?_
        refine JA.all [6] (by kernel_rfl) (by decide) ?_
        refine JO.does (listed' := [true, true, true, true, true, true, true]) rfl rfl trivial ((by first | exact EX.storeAgg H rfl rfl (i := 0) (vs := (rowOf s.op).rv) rfl (rrow_cell _) (by simp [Row.rv]) sz62 rfl rfl | exact EX.storeAgg H rfl rfl (i := 1) (vs := (rowOf s.op).rv) rfl (rrow_cell _) (by simp [Row.rv]) sz62 rfl rfl)) ?_
        rintro _ w H
        refine JA.done (by kernel_rfl) ?_
        first | exact hk2 rr _ _ ⟨rfl, trivial⟩ ⟨rfl, trivial⟩ ((H.pull 1 rfl).drop) | exact hk2 rr _ _ ⟨rfl, trivial⟩ ⟨rfl, trivial⟩ H.drop
  · skip
    clear H
    intro rr ρ w H
    refine J.seq ?_
    refine J.region ?_
    refine JL.go trivial (RX.fieldAddr rfl fo25_0 rfl) ?_
    refine JL.go trivial (by first | exact RX.load H rfl (i := 0) rfl rfl one3 | exact RX.load H rfl (i := 1) rfl rfl one3 | exact RX.load H rfl (i := 2) rfl rfl one3 | exact RX.load H rfl (i := 3) rfl rfl one3 | exact RX.load H rfl (i := 4) rfl rfl one3) ?_
    refine JL.go trivial (RX.fieldAddr rfl fo25_1 rfl) ?_
    refine JL.go trivial (by first | exact RX.load H rfl (i := 0) rfl rfl one3 | exact RX.load H rfl (i := 1) rfl rfl one3 | exact RX.load H rfl (i := 2) rfl rfl one3 | exact RX.load H rfl (i := 3) rfl rfl one3 | exact RX.load H rfl (i := 4) rfl rfl one3) ?_
    refine JL.does trivial (EX.buildSlice (pv := [(0, .int .i64 s.op), (1, .int .i64 s.dst)]) (l := intsV [s.op, s.dst]) (e := 3) H rfl (by kernel_rfl)) ?_
    rintro _ w ⟨bq, rfl, H⟩
    refine JL.go trivial (RX.assignv (v := Value.slice _ _ _) rfl) ?_
    refine JL.nil ?_
    have ho : OwnSl 3 1 (some ⟨bq, 0, none⟩) 2 2 (intsV [s.op, s.dst]) [(bq, cel (intsV [s.op, s.dst]) 3)] := ⟨rfl, .inr ⟨bq, _, rfl, rfl, by omega, rfl, rfl⟩⟩
    have hsn : (2 : Nat) ≤ 2 := by omega
    refine J.seq ?_
    refine J.seq ?_
    refine J.region ?_
    refine JL.go trivial (RX.fieldAddr rfl fo62_1 rfl) ?_
    refine JL.go trivial (by first | exact RX.load H rfl (i := 0) rfl rfl one4 | exact RX.load H rfl (i := 1) rfl rfl one4 | exact RX.load H rfl (i := 2) rfl rfl one4 | exact RX.load H rfl (i := 3) rfl rfl one4 | exact RX.load H rfl (i := 4) rfl rfl one4) ?_
    refine JL.nil ?_
    refine J.join (ι := Option Addr × Nat × Nat × Seg) (fun q => [(4, .slice q.1 q.2.1 q.2.2.1)]) (fun q w => q.2.1 ≤ 3 ∧ OwnSl 3 1 q.1 q.2.1 q.2.2.1 (intsV ([s.op, s.dst] ++ optI (rowOf s.op).src s.src)) q.2.2.2 ∧ Hp w0 w (q.2.2.2 :: [(rr, cel (rowOf s.op).rv 62)] :: [(b1, cel s.v 25)] :: F)) [(1, _), (3, _)] ⟨rfl, rfl, trivial⟩ ?_ ?_
    rotate_left
    · skip
      intro k2 hk2
      refine J.cond rfl (fun hb => ?_) (fun hb => ?_)
      · skip
        refine J.region ?_
        refine JL.go trivial (RX.movev (v := Value.slice _ _ _) rfl) ?_
        refine JL.go trivial (RX.fieldAddr rfl fo25_2 rfl) ?_
        refine JL.go trivial (by first | exact RX.load H rfl (i := 0) rfl rfl one3 | exact RX.load H rfl (i := 1) rfl rfl one3 | exact RX.load H rfl (i := 2) rfl rfl one3 | exact RX.load H rfl (i := 3) rfl rfl one3 | exact RX.load H rfl (i := 4) rfl rfl one3) ?_
        refine JL.does trivial (EX.buildSlice1 (v := Value.int _ _) H elI rfl rfl) ?_
        rintro _ w ⟨b0, rfl, H⟩
        refine JL.does trivial (EX.append (ys := [.int .i64 s.src]) (L' := fun s' => [(b0, cel [.int .i64 s.src] 3)] :: s' :: [(rr, cel (rowOf s.op).rv 62)] :: [(b1, cel s.v 25)] :: F) H elI rfl rfl (i := 1) rfl ho (SlAt.here rfl) rfl (by simp [isCell]) (by decide) (by omega) (by omega) (fun _ => rfl)) ?_
        rintro _ w ⟨ap, ac, as_, rfl, ho, H⟩
        refine JL.go trivial (RX.assignv (v := Value.slice _ _ _) rfl) ?_
        refine JL.nil ?_
        first | exact hk2 (_, _, _, _) _ _ ⟨rfl, rfl, trivial⟩ ⟨rfl, trivial⟩ ⟨by simp only; omega, by simpa [hb, optI, intsV] using ho, H.drop⟩ | exact hk2 (_, _, _, _) _ _ ⟨rfl, rfl, trivial⟩ ⟨rfl, trivial⟩ ⟨by simp only; omega, by simpa [hb, optI, intsV] using ho, H⟩
      · skip
        refine J.skip ?_
        first | exact hk2 (_, _, _, _) _ _ ⟨rfl, rfl, trivial⟩ ⟨rfl, trivial⟩ ⟨by simp only; omega, by simpa [hb, optI, intsV] using ho, H.drop⟩ | exact hk2 (_, _, _, _) _ _ ⟨rfl, rfl, trivial⟩ ⟨rfl, trivial⟩ ⟨by simp only; omega, by simpa [hb, optI, intsV] using ho, H⟩
    · skip
      clear H ho
      rintro ⟨sp, sn, sc, ss⟩ ρ w ⟨hsn, ho, H⟩
      simp only at hsn ho H
      dsimp only
      refine J.seq ?_
      refine J.seq ?_
      refine J.region ?_
      refine JL.go trivial (RX.fieldAddr rfl fo62_2 rfl) ?_
      refine JL.go trivial (by first | exact RX.load H rfl (i := 0) rfl rfl one4 | exact RX.load H rfl (i := 1) rfl rfl one4 | exact RX.load H rfl (i := 2) rfl rfl one4 | exact RX.load H rfl (i := 3) rfl rfl one4 | exact RX.load H rfl (i := 4) rfl rfl one4) ?_
      refine JL.nil ?_
      refine J.join (ι := Option Addr × Nat × Nat × Seg) (fun q => [(4, .slice q.1 q.2.1 q.2.2.1)]) (fun q w => q.2.1 ≤ 4 ∧ OwnSl 3 1 q.1 q.2.1 q.2.2.1 (intsV ([s.op, s.dst] ++ optI (rowOf s.op).src s.src ++ optI (rowOf s.op).jump s.jump)) q.2.2.2 ∧ Hp w0 w (q.2.2.2 :: [(rr, cel (rowOf s.op).rv 62)] :: [(b1, cel s.v 25)] :: F)) [(1, _), (3, _)] ⟨rfl, rfl, trivial⟩ ?_ ?_
      rotate_left
      · skip
        intro k2 hk2
        refine J.cond rfl (fun hb => ?_) (fun hb => ?_)
        · skip
          refine J.region ?_
          refine JL.go trivial (RX.movev (v := Value.slice _ _ _) rfl) ?_
          refine JL.go trivial (RX.fieldAddr rfl fo25_3 rfl) ?_
          refine JL.go trivial (by first | exact RX.load H rfl (i := 0) rfl rfl one3 | exact RX.load H rfl (i := 1) rfl rfl one3 | exact RX.load H rfl (i := 2) rfl rfl one3 | exact RX.load H rfl (i := 3) rfl rfl one3 | exact RX.load H rfl (i := 4) rfl rfl one3) ?_
          refine JL.does trivial (EX.buildSlice1 (v := Value.int _ _) H elI rfl rfl) ?_
          rintro _ w ⟨b0, rfl, H⟩
          refine JL.does trivial (EX.append (ys := [.int .i64 s.jump]) (L' := fun s' => [(b0, cel [.int .i64 s.jump] 3)] :: s' :: [(rr, cel (rowOf s.op).rv 62)] :: [(b1, cel s.v 25)] :: F) H elI rfl rfl (i := 1) rfl ho (SlAt.here rfl) rfl (by simp [isCell]) (by decide) (by omega) (by omega) (fun _ => rfl)) ?_
          rintro _ w ⟨ap, ac, as_, rfl, ho, H⟩
          refine JL.go trivial (RX.assignv (v := Value.slice _ _ _) rfl) ?_
          refine JL.nil ?_
          first | exact hk2 (_, _, _, _) _ _ ⟨rfl, rfl, trivial⟩ ⟨rfl, trivial⟩ ⟨by simp only; omega, by simpa [hb, optI, intsV] using ho, H.drop⟩ | exact hk2 (_, _, _, _) _ _ ⟨rfl, rfl, trivial⟩ ⟨rfl, trivial⟩ ⟨by simp only; omega, by simpa [hb, optI, intsV] using ho, H⟩
        · skip
          refine J.skip ?_
          first | exact hk2 (_, _, _, _) _ _ ⟨rfl, rfl, trivial⟩ ⟨rfl, trivial⟩ ⟨by simp only; omega, by simpa [hb, optI, intsV] using ho, H.drop⟩ | exact hk2 (_, _, _, _) _ _ ⟨rfl, rfl, trivial⟩ ⟨rfl, trivial⟩ ⟨by simp only; omega, by simpa [hb, optI, intsV] using ho, H⟩
      · skip
        clear H ho
        rintro ⟨sp, sn, sc, ss⟩ ρ w ⟨hsn, ho, H⟩
        simp only at hsn ho H
        dsimp only
        refine J.seq ?_
        refine J.region ?_
        refine JL.go trivial (RX.movev (v := Value.slice _ _ _) rfl) ?_
        refine JL.go trivial (RX.fieldAddr rfl fo25_4 rfl) ?_
        refine JL.go trivial (by first | exact RX.load H rfl (i := 0) rfl rfl one3 | exact RX.load H rfl (i := 1) rfl rfl one3 | exact RX.load H rfl (i := 2) rfl rfl one3 | exact RX.load H rfl (i := 3) rfl rfl one3 | exact RX.load H rfl (i := 4) rfl rfl one3) ?_
        refine JL.does trivial (EX.buildSlice1 (v := Value.int _ _) H elI rfl rfl) ?_
        rintro _ w ⟨b0, rfl, H⟩
        refine JL.does trivial (EX.append (ys := [.int .i64 s.count]) (L' := fun s' => [(b0, cel [.int .i64 s.count] 3)] :: s' :: [(rr, cel (rowOf s.op).rv 62)] :: [(b1, cel s.v 25)] :: F) H elI rfl rfl (i := 1) rfl ho (SlAt.here rfl) rfl (by simp [isCell]) (by decide) (by omega) (by omega) (fun _ => rfl)) ?_
        rintro _ w ⟨ap, ac, as_, rfl, ho, H⟩
        refine JL.go trivial (RX.assignv (v := Value.slice _ _ _) rfl) ?_
        refine JL.nil ?_
        replace H := H.drop
        refine J.seq ?_
        refine J.seq ?_
        refine J.region ?_
        refine JL.go trivial (RX.fieldAddr rfl fo62_3 rfl) ?_
        refine JL.go trivial (by first | exact RX.load H rfl (i := 0) rfl rfl one4 | exact RX.load H rfl (i := 1) rfl rfl one4 | exact RX.load H rfl (i := 2) rfl rfl one4 | exact RX.load H rfl (i := 3) rfl rfl one4 | exact RX.load H rfl (i := 4) rfl rfl one4) ?_
        refine JL.nil ?_
        refine J.join (ι := Option Addr × Nat × Nat × Seg) (fun q => [(4, .slice q.1 q.2.1 q.2.2.1)]) (fun q w => q.2.1 ≤ 6 ∧ OwnSl 3 1 q.1 q.2.1 q.2.2.1 (intsV ([s.op, s.dst] ++ optI (rowOf s.op).src s.src ++ optI (rowOf s.op).jump s.jump ++ [s.count] ++ optI (decide (0 < (rowOf s.op).n)) s.n)) q.2.2.2 ∧ Hp w0 w (q.2.2.2 :: [(rr, cel (rowOf s.op).rv 62)] :: [(b1, cel s.v 25)] :: F)) [(1, _), (3, _)] ⟨rfl, rfl, trivial⟩ ?_ ?_
        rotate_left
        · skip
          intro k2 hk2
          refine J.cond rfl (fun hb => ?_) (fun hb => ?_)
          · skip
            refine J.region ?_
            refine JL.go trivial (RX.movev (v := Value.slice _ _ _) rfl) ?_
            refine JL.go trivial (RX.fieldAddr rfl fo25_5 rfl) ?_
            refine JL.go trivial (by first | exact RX.load H rfl (i := 0) rfl rfl one3 | exact RX.load H rfl (i := 1) rfl rfl one3 | exact RX.load H rfl (i := 2) rfl rfl one3 | exact RX.load H rfl (i := 3) rfl rfl one3 | exact RX.load H rfl (i := 4) rfl rfl one3) ?_
            refine JL.does trivial (EX.buildSlice1 (v := Value.int _ _) H elI rfl rfl) ?_
            rintro _ w ⟨b0, rfl, H⟩
            refine JL.does trivial (EX.append (ys := [.int .i64 s.n]) (L' := fun s' => [(b0, cel [.int .i64 s.n] 3)] :: s' :: [(rr, cel (rowOf s.op).rv 62)] :: [(b1, cel s.v 25)] :: F) H elI rfl rfl (i := 1) rfl ho (SlAt.here rfl) rfl (by simp [isCell]) (by decide) (by omega) (by omega) (fun _ => rfl)) ?_
            rintro _ w ⟨ap, ac, as_, rfl, ho, H⟩
            refine JL.go trivial (RX.assignv (v := Value.slice _ _ _) rfl) ?_
            refine JL.nil ?_
            first | exact hk2 (_, _, _, _) _ _ ⟨rfl, rfl, trivial⟩ ⟨rfl, trivial⟩ ⟨by simp only; omega, by simpa [hb, optI, intsV] using ho, H.drop⟩ | exact hk2 (_, _, _, _) _ _ ⟨rfl, rfl, trivial⟩ ⟨rfl, trivial⟩ ⟨by simp only; omega, by simpa [hb, optI, intsV] using ho, H⟩
          · skip
            refine J.skip ?_
            first | exact hk2 (_, _, _, _) _ _ ⟨rfl, rfl, trivial⟩ ⟨rfl, trivial⟩ ⟨by simp only; omega, by simpa [hb, optI, intsV] using ho, H.drop⟩ | exact hk2 (_, _, _, _) _ _ ⟨rfl, rfl, trivial⟩ ⟨rfl, trivial⟩ ⟨by simp only; omega, by simpa [hb, optI, intsV] using ho, H⟩
        · skip
          clear H ho
          rintro ⟨sp, sn, sc, ss⟩ ρ w ⟨hsn, ho, H⟩
          simp only at hsn ho H
          dsimp only
          refine J.seq ?_
          refine J.seq ?_
          refine J.region ?_
          refine JL.go trivial (RX.fieldAddr rfl fo62_4 rfl) ?_
          refine JL.go trivial (by first | exact RX.load H rfl (i := 0) rfl rfl one4 | exact RX.load H rfl (i := 1) rfl rfl one4 | exact RX.load H rfl (i := 2) rfl rfl one4 | exact RX.load H rfl (i := 3) rfl rfl one4 | exact RX.load H rfl (i := 4) rfl rfl one4) ?_
          refine JL.nil ?_
          refine J.join (ι := Option Addr × Nat × Nat × Seg) (fun q => [(4, .slice q.1 q.2.1 q.2.2.1)]) (fun q w => q.2.1 ≤ 7 ∧ OwnSl 3 1 q.1 q.2.1 q.2.2.1 (intsV ([s.op, s.dst] ++ optI (rowOf s.op).src s.src ++ optI (rowOf s.op).jump s.jump ++ [s.count] ++ optI (decide (0 < (rowOf s.op).n)) s.n ++ optI (rowOf s.op).k s.k)) q.2.2.2 ∧ Hp w0 w (q.2.2.2 :: [(rr, cel (rowOf s.op).rv 62)] :: [(b1, cel s.v 25)] :: F)) [] trivial ?_ ?_
          rotate_left
          · skip
            intro k2 hk2
            refine J.cond rfl (fun hb => ?_) (fun hb => ?_)
            · skip
              refine J.region ?_
              refine JL.go trivial (RX.movev (v := Value.slice _ _ _) rfl) ?_
              refine JL.go trivial (RX.fieldAddr rfl fo25_6 rfl) ?_
              refine JL.go trivial (by first | exact RX.load H rfl (i := 0) rfl rfl one3 | exact RX.load H rfl (i := 1) rfl rfl one3 | exact RX.load H rfl (i := 2) rfl rfl one3 | exact RX.load H rfl (i := 3) rfl rfl one3 | exact RX.load H rfl (i := 4) rfl rfl one3) ?_
              refine JL.does trivial (EX.buildSlice1 (v := Value.int _ _) H elI rfl rfl) ?_
              rintro _ w ⟨b0, rfl, H⟩
              refine JL.does trivial (EX.append (ys := [.int .i64 s.k]) (L' := fun s' => [(b0, cel [.int .i64 s.k] 3)] :: s' :: [(rr, cel (rowOf s.op).rv 62)] :: [(b1, cel s.v 25)] :: F) H elI rfl rfl (i := 1) rfl ho (SlAt.here rfl) rfl (by simp [isCell]) (by decide) (by omega) (by omega) (fun _ => rfl)) ?_
              rintro _ w ⟨ap, ac, as_, rfl, ho, H⟩
              refine JL.go trivial (RX.assignv (v := Value.slice _ _ _) rfl) ?_
              refine JL.nil ?_
              first | exact hk2 (_, _, _, _) _ _ trivial ⟨rfl, trivial⟩ ⟨by simp only; omega, by simpa [hb, optI, intsV] using ho, H.drop⟩ | exact hk2 (_, _, _, _) _ _ trivial ⟨rfl, trivial⟩ ⟨by simp only; omega, by simpa [hb, optI, intsV] using ho, H⟩
            · skip
              refine J.skip ?_
              first | exact hk2 (_, _, _, _) _ _ trivial ⟨rfl, trivial⟩ ⟨by simp only; omega, by simpa [hb, optI, intsV] using ho, H.drop⟩ | exact hk2 (_, _, _, _) _ _ trivial ⟨rfl, trivial⟩ ⟨by simp only; omega, by simpa [hb, optI, intsV] using ho, H⟩
          · skip
            clear H ho
            rintro ⟨sp, sn, sc, ss⟩ ρ w ⟨hsn, ho, H⟩
            simp only at hsn ho H
            dsimp only
            refine J.seq ?_
            refine J.region ?_
            refine JL.go trivial (RX.movev (v := Value.slice _ _ _) rfl) ?_
            refine JL.go trivial (RX.assignv (v := Value.slice _ _ _) rfl) ?_
            refine JL.nil ?_
            refine J.ret1 (v := Value.slice _ _ _) Tryd.func40 rfl rfl ?_
            have hlen := ho.1
            rw [show [s.op, s.dst] ++ optI (rowOf s.op).src s.src ++ optI (rowOf s.op).jump s.jump ++ [s.count] ++ optI (decide (0 < (rowOf s.op).n)) s.n ++ optI (rowOf s.op).k s.k = stpNums s from numsOf_eq s] at ho hlen
            rw [intsV_len, Nat.mul_one] at hlen
            subst hlen
            exact ⟨_, rfl, sp, sc, ss, rfl, ho, (H.pull 1 rfl).drop.pull 1 rfl |>.drop⟩

theorem encOk_facts {p : Prg} (h : encOk p = true) : p.steps.length ≤ 65536 ∧ (∀ x ∈ p.heads, 0 ≤ x ∧ x ≤ 262144) ∧ ∀ s ∈ p.steps, formB s = true := by
  simp only [encOk, Bool.and_eq_true, List.all_eq_true] at h
  exact ⟨of_decide_eq_true h.1.1, fun x hx => of_decide_eq_true (h.1.2 x hx), h.2⟩
theorem stpNums_bd {s : Stp} (h : formB s = true) : ∀ x ∈ stpNums s, 0 ≤ x ∧ x ≤ 262144 := by
  intro x hx
  rcases List.mem_cons.1 hx with rfl | hx
  · have := form_op h; omega
  · obtain ⟨o, ho, rfl⟩ := List.mem_map.1 hx
    exact at_form h ho
theorem stpNums_len (s : Stp) : (stpNums s).length ≤ 7 := by
  have := fieldOffs_len (rowOf s.op)
  simp only [stpNums, List.length_cons, List.length_map]; omega
theorem app_len (a b : List UInt8) : (a ++ b).length = a.length + b.length := List.length_append
def five (p : Prg) : List Int := p.heads ++ [(p.steps.length : Int)]
theorem vints_five (p : Prg) : vints (five p) = vints p.heads ++ varint p.steps.length := by
  rw [five, vints_app, vints_one]; rfl
theorem vints_take {l : List Int} (h : ∀ x ∈ l, 0 ≤ x ∧ x ≤ 262144) (i : Nat) : (vints (l.take i)).length ≤ l.length * 10 := by
  have h1 := vints_len (l := l.take i) (fun x hx => (h x (List.mem_of_mem_take hx)).2)
  have h2 : (l.take i).length ≤ l.length := by simp [List.length_take]; omega
  omega

theorem rEncode_b {w0 w : World} {F : List Seg} {p : Prg} {pp : Option Addr} {pc : Nat} (H : Hp w0 w F) (hst : SlAt F pp (stepsV p.steps)) (hp : p.Ok) : Ret Tryd.prog 17 [.agg (prgV p pp p.steps.length pc).toArray] w fun v w' => ∃ q c s, v = .tuple #[.slice q (encO p).length c, .int .i64 (if encOk p then 0 else 9)] ∧ OwnSl 5 1 q (encO p).length c (bv (encO p)) s ∧ Hp w0 w' (s :: F) := by
  refine Calls.of_J (n := 62) Tryd.func17 rfl rfl rfl ?_
  refine J.seq ?_
  refine J.region ?_
  refine JL.does trivial (EX.box (v := Value.agg _) H rfl rfl) ?_
  rintro _ w ⟨b1, rfl, H⟩
  refine JL.go trivial (RX.assign) ?_
  refine JL.go trivial (RX.assign) ?_
  refine JL.nil ?_
  refine J.seq ?_
  refine J.region ?_
  refine JL.go trivial (RX.loadAgg H rfl (i := 0) (vs := prgV p pp p.steps.length pc) rfl rfl ag33) ?_
  refine JL.does trivial (EX.call rfl cl38 rfl ((rinform_b H hst.cons hp))) ?_
  rintro _ w ⟨rfl, H⟩
  refine JL.go trivial (RX.assignv (v := Value.bool _) rfl) ?_
  refine JL.nil ?_
  refine J.seq ?_
  refine J.seq ?_
  refine J.region ?_
  refine JL.go trivial (RX.movev (v := Value.bool _) rfl) ?_
  refine JL.go trivial (RX.not rfl) ?_
  refine JL.nil ?_
  refine J.cond rfl (fun hok => ?_) (fun hok => ?_)
  · skip
    refine J.seq ?_
    refine J.region ?_
    refine JL.go trivial (RX.assign) ?_
    refine JL.go trivial (RX.assign) ?_
    refine JL.nil ?_
    refine J.ret2 (v := Value.slice _ _ _) (x := Value.int _ _) Tryd.func17 rfl rfl rfl ?_
    have e : encOk p = false := by simpa using hok
    rw [e]; exact ⟨_, rfl, none, 0, [], by simp only [encO, e]; rfl, by simp only [encO, e]; exact OwnSl.nil, H.drop.nil⟩
  · skip
    refine J.skip ?_
    refine J.seq ?_
    refine J.region ?_
    have hyes : encOk p = true := by simpa using hok
    obtain ⟨hl6, hhd, hfs⟩ := encOk_facts hyes
    have h5 : ∀ x ∈ five p, 0 ≤ x ∧ x ≤ 262144 := by
      intro x hx
      rcases List.mem_append.1 hx with h | h
      · exact hhd x h
      · rw [List.mem_singleton.1 h]; omega
    refine JL.does trivial (EX.buildSlice0 H elB) ?_
    rintro _ w ⟨b0, rfl, H⟩
    refine JL.go trivial (RX.assignv (v := Value.slice _ _ _) rfl) ?_
    refine JL.nil ?_
    refine J.seq ?_
    refine J.seq ?_
    refine J.region ?_
    refine JL.go trivial (RX.fieldAddr rfl fo33_0 rfl) ?_
    refine JL.go trivial (by first | exact RX.load H rfl (i := 0) rfl rfl one3 | exact RX.load H rfl (i := 1) rfl rfl one3 | exact RX.load H rfl (i := 2) rfl rfl one3 | exact RX.load H rfl (i := 3) rfl rfl one3 | exact RX.load H rfl (i := 4) rfl rfl one3) ?_
    refine JL.go trivial (RX.fieldAddr rfl fo33_1 rfl) ?_
    refine JL.go trivial (by first | exact RX.load H rfl (i := 0) rfl rfl one3 | exact RX.load H rfl (i := 1) rfl rfl one3 | exact RX.load H rfl (i := 2) rfl rfl one3 | exact RX.load H rfl (i := 3) rfl rfl one3 | exact RX.load H rfl (i := 4) rfl rfl one3) ?_
    refine JL.go trivial (RX.fieldAddr rfl fo33_2 rfl) ?_
    refine JL.go trivial (by first | exact RX.load H rfl (i := 0) rfl rfl one3 | exact RX.load H rfl (i := 1) rfl rfl one3 | exact RX.load H rfl (i := 2) rfl rfl one3 | exact RX.load H rfl (i := 3) rfl rfl one3 | exact RX.load H rfl (i := 4) rfl rfl one3) ?_
    refine JL.go trivial (RX.fieldAddr rfl fo33_3 rfl) ?_
    refine JL.go trivial (by first | exact RX.load H rfl (i := 0) rfl rfl one3 | exact RX.load H rfl (i := 1) rfl rfl one3 | exact RX.load H rfl (i := 2) rfl rfl one3 | exact RX.load H rfl (i := 3) rfl rfl one3 | exact RX.load H rfl (i := 4) rfl rfl one3) ?_
    refine JL.go trivial (RX.fieldAddr rfl fo33_4 rfl) ?_
    refine JL.go trivial (by first | exact RX.load H rfl (i := 0) rfl rfl one22 | exact RX.load H rfl (i := 1) rfl rfl one22 | exact RX.load H rfl (i := 2) rfl rfl one22 | exact RX.load H rfl (i := 3) rfl rfl one22 | exact RX.load H rfl (i := 4) rfl rfl one22) ?_
    refine JL.go trivial (RX.len_slice rfl (by rw [sl22]; rfl) rfl) ?_
    refine JL.does trivial (EX.buildSlice (pv := [(0, .int .i64 p.len), (1, .int .i64 p.cells), (2, .int .i64 p.inn), (3, .int .i64 p.out), (4, .int .i64 (p.steps.length : Nat))]) (l := intsV (five p)) (e := 3) H rfl (by kernel_rfl)) ?_
    rintro _ w ⟨bq, rfl, H⟩
    refine JL.go trivial (RX.len_slice rfl (by rw [sl77]; rfl) rfl) ?_
    refine JL.go trivial (RX.move) ?_
    refine JL.nil ?_
    refine J.block ?_
    refine J.loop (ι := Nat × Option Addr × Nat × Seg) (S := fun q => [(30, .int .i64 (q.1 : Nat)), (5, .slice q.2.1 (vints ((five p).take q.1)).length q.2.2.1)]) (Φ := fun q w => q.1 ≤ 5 ∧ OwnSl 5 1 q.2.1 (vints ((five p).take q.1)).length q.2.2.1 (bv (vints ((five p).take q.1))) q.2.2.2 ∧ Hp w0 w (q.2.2.2 :: [(bq, cel (intsV (five p)) 3)] :: [(b1, cel (prgV p pp p.steps.length pc) 33)] :: F)) (μ := fun q => 5 - q.1) (C := [(1, _), (28, _), (29, _)]) (0, some ⟨b0, 0, none⟩, 0, [(b0, cel [] 5)]) ⟨rfl, rfl, rfl, trivial⟩ ⟨rfl, rfl, trivial⟩ ?_ ?_
    · exact ⟨by omega, OwnSl.empty, H.pull 1 rfl⟩
    clear H
    rintro ⟨i, ap, ac, as_⟩ ρ w ⟨hi, ho, H⟩ IH
    simp only at hi ho H
    have hvl := vints_take h5 i
    have h5l : (five p).length = 5 := by simp [five, Prg.heads]
    dsimp only
    refine J.seq ?_
    refine J.region ?_
    refine JL.go trivial (RX.lt rfl rfl) ?_
    refine JL.nil ?_
    refine J.seq ?_
    refine J.cond_d rfl (fun hlt => ?_) (fun hlt => ?_)
    · skip
      obtain ⟨x, hx⟩ : ∃ x, (five p)[i]? = some x := ⟨_, List.getElem?_eq_getElem (by omega)⟩
      have hxb := h5 x (List.mem_of_getElem? hx)
      have hv10 := varint_len10 (x := x.toNat) (by omega)
      refine J.skip ?_
      refine J.seq ?_
      refine J.block ?_
      refine J.seq ?_
      refine J.region ?_
      refine JL.go trivial (RX.indexAddr rfl rfl sl77 (by omega) (by omega) rfl) ?_
      refine JL.go trivial (RX.loadS H (SlAt.here (xs := intsV (five p)) rfl).cons rfl (j := i) (by omega) (intsV_get hx) one3) ?_
      refine JL.go trivial (RX.assignv (v := Value.int _ _) rfl) ?_
      refine JL.nil ?_
      refine J.region ?_
      refine JL.go trivial (RX.movev (v := Value.slice _ _ _) rfl) ?_
      refine JL.go trivial (RX.movev (v := Value.int _ _) rfl) ?_
      refine JL.go trivial (RX.conv rfl (by rw [ki3]; rfl) ki74 (w_u64 (r := (x.toNat : Int)) (by omega) (by omega) (by omega))) ?_
      refine JL.does trivial (EX.call rfl cl39 rfl ((ref_Uint H (by omega)))) ?_
      rintro _ w ⟨up, uc, us, rfl, hou, H⟩
      refine JL.does trivial (EX.append (ys := bv (varint x.toNat)) (L' := fun s' => us :: s' :: [(bq, cel (intsV (five p)) 3)] :: [(b1, cel (prgV p pp p.steps.length pc) 33)] :: F) H elB rfl rfl (i := 1) rfl ho hou.slAt (by simp [bv_len]) (bv_cell _) (by decide) (by omega) (by omega) (fun _ => rfl)) ?_
      rintro _ w ⟨ap2, ac2, as2, rfl, ho2, H⟩
      refine JL.go trivial (RX.assignv (v := Value.slice _ _ _) rfl) ?_
      refine JL.nil ?_
      refine J.inBlock ?_
      refine J.region ?_
      refine JL.go trivial (RX.add rfl rfl (w_i64 rfl (by omega) (by omega))) ?_
      refine JL.go trivial (RX.movev (v := Value.int _ _) rfl) ?_
      refine JL.nil ?_
      have hnx : vints ((five p).take (i + 1)) = vints ((five p).take i) ++ varint x.toNat := by rw [take_succ_get hx, vints_app, vints_one]
      exact IH (i + 1, ap2, ac2, as2) _ _ (by simp only; omega) ⟨rfl, rfl, rfl, trivial⟩ ⟨rfl, (show Value.slice ap2 ((vints ((five p).take i)).length + (varint x.toNat).length) ac2 = Value.slice ap2 (vints ((five p).take (i + 1))).length ac2 by rw [hnx, List.length_append]), trivial⟩ ⟨by simp only; omega, by simp only; rw [hnx, bv_app, List.length_append]; exact ho2, H.drop⟩
    · skip
      refine J.exit rfl ?_
      refine J.seq ?_
      refine J.seq ?_
      refine J.region ?_
      have hi5 : i = 5 := by omega
      subst hi5
      have hfull : vints ((five p).take 5) = encP p 0 := by rw [List.take_of_length_le (by omega), vints_five]; simp [encP, encStps]
      have hhp := vints_len (l := p.heads) (fun x hx => (hhd x hx).2)
      have hph : p.heads.length = 4 := rfl
      have hlv := varint_len10 (x := p.steps.length) (by omega)
      refine JL.go trivial (RX.fieldAddr rfl fo33_4 rfl) ?_
      refine JL.go trivial (by first | exact RX.load H rfl (i := 0) rfl rfl one22 | exact RX.load H rfl (i := 1) rfl rfl one22 | exact RX.load H rfl (i := 2) rfl rfl one22 | exact RX.load H rfl (i := 3) rfl rfl one22 | exact RX.load H rfl (i := 4) rfl rfl one22) ?_
      refine JL.go trivial (RX.len_slice rfl (by rw [sl22]; rfl) rfl) ?_
      refine JL.go trivial (RX.move) ?_
      refine JL.nil ?_
      refine J.block ?_
      refine J.loop (ι := Nat × Option Addr × Nat × Seg) (S := fun q => [(43, .int .i64 (q.1 : Nat)), (5, .slice q.2.1 (encP p q.1).length q.2.2.1)]) (Φ := fun q w => q.1 ≤ p.steps.length ∧ OwnSl 5 1 q.2.1 (encP p q.1).length q.2.2.1 (bv (encP p q.1)) q.2.2.2 ∧ Hp w0 w (q.2.2.2 :: [(bq, cel (intsV (five p)) 3)] :: [(b1, cel (prgV p pp p.steps.length pc) 33)] :: F)) (μ := fun q => p.steps.length - q.1) (C := [(41, _), (42, _)]) (0, ap, ac, as_) ⟨rfl, rfl, trivial⟩ ⟨rfl, (show Value.slice ap (vints ((five p).take 5)).length ac = Value.slice ap (encP p 0).length ac by rw [hfull]), trivial⟩ ?_ ?_
      · exact ⟨by omega, by rw [← hfull]; exact ho, H⟩
      clear H ho
      rintro ⟨i, ap, ac, as_⟩ ρ w ⟨hi, ho, H⟩ IH
      simp only at hi ho H
      have hpl2 := encP_len (i := i) hhp (fun s hs => hfs s (List.mem_of_mem_take hs))
      have htl : (p.steps.take i).length ≤ 65536 := by simp; omega
      dsimp only
      refine J.seq ?_
      refine J.region ?_
      refine JL.go trivial (RX.lt rfl rfl) ?_
      refine JL.nil ?_
      refine J.seq ?_
      refine J.cond_d rfl (fun hlt => ?_) (fun hlt => ?_)
      · skip
        obtain ⟨s, hs⟩ : ∃ s, p.steps[i]? = some s := ⟨_, List.getElem?_eq_getElem (by omega)⟩
        have hsok := hp.steps s (List.mem_of_getElem? hs)
        obtain ⟨pb, po, rfl, _⟩ := hst.some (by rw [stepsV_len]; omega)
        have hfm := hfs s (List.mem_of_getElem? hs)
        have hopb := form_op hfm
        have hnb := stpNums_bd hfm
        have hn7 := stpNums_len s
        refine J.skip ?_
        refine J.seq ?_
        refine J.block ?_
        refine J.seq ?_
        refine J.region ?_
        refine JL.go trivial (RX.indexAddr rfl rfl sl22 (by omega) (by omega) rfl) ?_
        refine JL.go trivial (RX.loadAggS H hst.cons.cons.cons rfl (j := i * 7) (by omega) (stepsV_read _ _ _ hs) ag25) ?_
        refine JL.does trivial (EX.alloc H zr25 rfl) ?_
        rintro _ w ⟨bs, rfl, H⟩
        refine JL.does trivial (EX.storeAgg H rfl rfl (i := 0) (vs := s.v) (l' := s.v) rfl (stp_cell _) (by simp [Stp.v]) sz25 rfl rfl) ?_
        rintro _ w H
        refine JL.nil ?_
        refine J.seq ?_
        refine J.region ?_
        refine JL.go trivial (RX.loadAgg H rfl (i := 0) (vs := s.v) rfl rfl ag25) ?_
        refine JL.does trivial (EX.call rfl cl40 rfl ((rfields_b H hopb.1 hopb.2))) ?_
        rintro _ w ⟨fp, fc, fq, rfl, hof, H⟩
        refine JL.go trivial (RX.len_slice rfl (by rw [sl77]; rfl) rfl) ?_
        refine JL.go trivial (RX.move) ?_
        refine JL.nil ?_
        refine J.block ?_
        refine J.loop (ι := Nat × Option Addr × Nat × Seg) (S := fun q => [(50, .int .i64 (q.1 : Nat)), (5, .slice q.2.1 (encP p i ++ vints ((stpNums s).take q.1)).length q.2.2.1)]) (Φ := fun q w => q.1 ≤ (stpNums s).length ∧ OwnSl 5 1 q.2.1 (encP p i ++ vints ((stpNums s).take q.1)).length q.2.2.1 (bv (encP p i ++ vints ((stpNums s).take q.1))) q.2.2.2 ∧ Hp w0 w (q.2.2.2 :: fq :: [(bs, cel s.v 25)] :: [(bq, cel (intsV (five p)) 3)] :: [(b1, cel (prgV p (some ⟨pb, po, none⟩) p.steps.length pc) 33)] :: F)) (μ := fun q => (stpNums s).length - q.1) (C := [(41, _), (42, _), (43, _), (48, _), (49, _)]) (0, ap, ac, as_) ⟨rfl, rfl, rfl, rfl, rfl, trivial⟩ ⟨rfl, (show Value.slice ap (encP p i).length ac = Value.slice ap (encP p i ++ vints ((stpNums s).take 0)).length ac by simp [vints]), trivial⟩ ?_ ?_
        · exact ⟨by omega, by simpa [vints] using ho, by simpa [vints] using H.pull 2 rfl⟩
        clear H ho
        rintro ⟨j, ap, ac, as_⟩ ρ w ⟨hj, ho, H⟩ IH2
        simp only at hj ho H
        have hvl2 := vints_take hnb j
        have hal : (encP p i ++ vints ((stpNums s).take j)).length = (encP p i).length + (vints ((stpNums s).take j)).length := List.length_append
        dsimp only
        refine J.seq ?_
        refine J.region ?_
        refine JL.go trivial (RX.lt rfl rfl) ?_
        refine JL.nil ?_
        refine J.seq ?_
        refine J.cond_d rfl (fun hjlt => ?_) (fun hjlt => ?_)
        · skip
          obtain ⟨x, hx⟩ : ∃ x, (stpNums s)[j]? = some x := ⟨_, List.getElem?_eq_getElem (by omega)⟩
          have hxb := hnb x (List.mem_of_getElem? hx)
          have hv10 := varint_len10 (x := x.toNat) (by omega)
          obtain ⟨gq, lq, rfl, rfl, hll⟩ := hof.ptr (by omega)
          refine J.skip ?_
          refine J.seq ?_
          refine J.block ?_
          refine J.seq ?_
          refine J.region ?_
          refine JL.go trivial (RX.indexAddr rfl rfl sl77 (by omega) (by omega) rfl) ?_
          refine JL.go trivial (RX.loadS H ((SlAt.here hll.2.2).cons) rfl (j := j) (by omega) (intsV_get hx) one3) ?_
          refine JL.go trivial (RX.assignv (v := Value.int _ _) rfl) ?_
          refine JL.nil ?_
          refine J.region ?_
          refine JL.go trivial (RX.movev (v := Value.slice _ _ _) rfl) ?_
          refine JL.go trivial (RX.movev (v := Value.int _ _) rfl) ?_
          refine JL.go trivial (RX.conv rfl (by rw [ki3]; rfl) ki74 (w_u64 (r := (x.toNat : Int)) (by omega) (by omega) (by omega))) ?_
          refine JL.does trivial (EX.call rfl cl39 rfl ((ref_Uint H (by omega)))) ?_
          rintro _ w ⟨up, uc, us, rfl, hou, H⟩
          refine JL.does trivial (EX.append (ys := bv (varint x.toNat)) (L' := fun s' => us :: s' :: [(gq, cel lq 3)] :: [(bs, cel s.v 25)] :: [(bq, cel (intsV (five p)) 3)] :: [(b1, cel (prgV p (some ⟨pb, po, none⟩) p.steps.length pc) 33)] :: F) H elB rfl rfl (i := 1) rfl ho hou.slAt (by simp [bv_len]) (bv_cell _) (by decide) (by omega) (by omega) (fun _ => rfl)) ?_
          rintro _ w ⟨ap2, ac2, as2, rfl, ho2, H⟩
          refine JL.go trivial (RX.assignv (v := Value.slice _ _ _) rfl) ?_
          refine JL.nil ?_
          refine J.inBlock ?_
          refine J.region ?_
          refine JL.go trivial (RX.add rfl rfl (w_i64 rfl (by omega) (by omega))) ?_
          refine JL.go trivial (RX.movev (v := Value.int _ _) rfl) ?_
          refine JL.nil ?_
          have hnx : encP p i ++ vints ((stpNums s).take (j + 1)) = (encP p i ++ vints ((stpNums s).take j)) ++ varint x.toNat := by rw [take_succ_get hx, vints_app, vints_one, List.append_assoc]
          exact IH2 (j + 1, ap2, ac2, as2) _ _ (by simp only; omega) ⟨rfl, rfl, rfl, rfl, rfl, trivial⟩ ⟨rfl, (show Value.slice ap2 ((encP p i ++ vints ((stpNums s).take j)).length + (varint x.toNat).length) ac2 = Value.slice ap2 (encP p i ++ vints ((stpNums s).take (j + 1))).length ac2 by rw [hnx, app_len (encP p i ++ vints ((stpNums s).take j))]), trivial⟩ ⟨by simp only; omega, by simp only; rw [hnx, bv_app (encP p i ++ vints ((stpNums s).take j)), app_len (encP p i ++ vints ((stpNums s).take j))]; exact ho2, H.drop⟩
        · skip
          refine J.exit rfl ?_
          refine J.inBlock ?_
          refine J.region ?_
          have hjf : j = (stpNums s).length := by omega
          subst hjf
          have hfin : encP p i ++ vints ((stpNums s).take (stpNums s).length) = encP p (i + 1) := by rw [List.take_length, encP_succ hs]; rfl
          refine JL.go trivial (RX.add rfl rfl (w_i64 rfl (by omega) (by omega))) ?_
          refine JL.go trivial (RX.movev (v := Value.int _ _) rfl) ?_
          refine JL.nil ?_
          exact IH (i + 1, ap, ac, as_) _ _ (by simp only; omega) ⟨rfl, rfl, trivial⟩ ⟨rfl, (show Value.slice ap (encP p i ++ vints ((stpNums s).take (stpNums s).length)).length ac = Value.slice ap (encP p (i + 1)).length ac by rw [hfin]), trivial⟩ ⟨by simp only; omega, by simp only; rw [← hfin]; exact ho, ((H.pull 1 rfl).drop.pull 1 rfl).drop⟩
      · skip
        refine J.exit rfl ?_
        refine J.seq ?_
        refine J.region ?_
        refine JL.go trivial (RX.movev (v := Value.slice _ _ _) rfl) ?_
        refine JL.go trivial (RX.assignv (v := Value.slice _ _ _) rfl) ?_
        refine JL.go trivial (RX.assign) ?_
        refine JL.nil ?_
        refine J.ret2 (v := Value.slice _ _ _) (x := Value.int _ _) Tryd.func17 rfl rfl rfl ?_
        have hif : i = p.steps.length := by omega
        subst hif
        have hfull2 : encP p p.steps.length = encV p := by simp [encP, encV]
        rw [hfull2] at ho
        have heo : encO p = encV p := by simp only [encO, hyes, if_true]
        rw [heo, hyes]
        exact ⟨_, rfl, ap, ac, as_, (by rw [← hfull2]; rfl), ho, ((H.pull 1 rfl).drop.pull 1 rfl).drop⟩
end Go.Proofs.YtnbbeghaeijcbaaDoor

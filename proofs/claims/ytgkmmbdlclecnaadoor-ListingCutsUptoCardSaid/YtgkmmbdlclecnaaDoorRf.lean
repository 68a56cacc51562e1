/- The reference of chapter 15. -/
import Derived.Test.YtgkmmbdlclecnaaDoorSt2
namespace Go.Proofs.YtgkmmbdlclecnaaDoor
open Go Go.Eng
set_option maxRecDepth 100000
set_option linter.unusedVariables false
set_option linter.unusedSimpArgs false
theorem ag85 : aggOf Tryd.prog 85 = some 5 := by kernel_rfl
theorem cl34 : callable Tryd.prog 34 = true := by kernel_rfl
theorem cl35 : callable Tryd.prog 35 = true := by kernel_rfl
theorem cl36 : callable Tryd.prog 36 = true := by kernel_rfl
theorem cl37 : callable Tryd.prog 37 = true := by kernel_rfl
theorem fo85_0 : fieldOff Tryd.prog 85 0 = some 0 := by kernel_rfl
theorem fo85_1 : fieldOff Tryd.prog 85 1 = some 1 := by kernel_rfl
theorem fo85_2 : fieldOff Tryd.prog 85 2 = some 2 := by kernel_rfl
theorem fo85_3 : fieldOff Tryd.prog 85 3 = some 3 := by kernel_rfl
theorem fo85_4 : fieldOff Tryd.prog 85 4 = some 4 := by kernel_rfl
theorem sl86 : sliceOf Tryd.prog 86 = some (85, 5) := by kernel_rfl
theorem sz85 : szOf Tryd.prog 85 = some 5 := by kernel_rfl
theorem zr85 : (Tryd.prog.info? 85).bind (·.zero) = some (.agg #[.string ⟨#[]⟩, .bool false, .bool false, .bool false, .bool false]) := by kernel_rfl

def Row.rv (r : Row) : List Value := [.string r.nm, .bool r.src, .bool r.jump, .bool (decide (0 < r.n)), .bool r.k]
def rrowsV : List Value := (rows.map Row.rv).flatten
theorem rrows_read {op : Int} (h0 : 0 ≤ op) (h1 : op ≤ 11) : readN rrowsV (op.toNat * 5) 5 = some (rowOf op).rv := by
  have : op = 0 ∨ op = 1 ∨ op = 2 ∨ op = 3 ∨ op = 4 ∨ op = 5 ∨ op = 6 ∨ op = 7 ∨ op = 8 ∨ op = 9 ∨ op = 10 ∨ op = 11 := by omega
  rcases this with rfl | rfl | rfl | rfl | rfl | rfl | rfl | rfl | rfl | rfl | rfl | rfl <;> rfl
theorem rrow_cell (r : Row) : ∀ v ∈ r.rv, isCell v = true := by
  intro v hv
  simp [Row.rv] at hv
  rcases hv with rfl | rfl | rfl | rfl | rfl <;> rfl
def withinB (x lo hi : Int) : Bool := decide (lo ≤ x ∧ x ≤ hi)
def numB (s : Stp) : Bool :=
  if s.op = 4 then withinB s.n 1 16384 && withinB s.k 0 (s.n - 1) else if s.op = 5 then withinB s.n 2 5 && decide (s.count ≤ s.jump) else if s.op = 6 then withinB s.n 1 64 && decide (s.count ≤ s.n)
  else if s.op = 7 then withinB s.n 1 16384 && decide (s.count ≤ s.n) else if s.op = 8 then withinB s.n 1 16384 && withinB s.count (2 * s.n - 1) 16384 else if s.op = 11 then withinB s.n 1 16384 else true

theorem rrows_b {w0 w : World} {F : List Seg} (H : Hp w0 w F) : Ret Tryd.prog 36 [] w fun v w' => ∃ b, v = .slice (some ⟨b, 0, none⟩) 12 12 ∧ Hp w0 w' ([(b, cel rrowsV 85)] :: F) := by
  refine Calls.of_J (n := 14) Tryd.func36 rfl rfl rfl ?_
  refine J.seq ?_
  refine J.region ?_
  refine JL.go trivial (RX.assign) ?_
  refine JL.nil ?_
  refine J.seq ?_
  refine J.region ?_
  refine JL.go trivial (RX.build (pv := []) (res := [.string ⟨#[]⟩, .bool false, .bool false, .bool false, .bool false]) rfl (by kernel_rfl)) ?_
  refine JL.go trivial (RX.build (pv := [(0, .string ⟨#[103, 97, 116, 104, 101, 114]⟩), (1, .bool true), (2, .bool true)]) (res := [.string ⟨#[103, 97, 116, 104, 101, 114]⟩, .bool true, .bool true, .bool false, .bool false]) rfl (by kernel_rfl)) ?_
  refine JL.go trivial (RX.build (pv := [(0, .string ⟨#[115, 99, 97, 116, 116, 101, 114]⟩), (1, .bool true), (2, .bool true)]) (res := [.string ⟨#[115, 99, 97, 116, 116, 101, 114]⟩, .bool true, .bool true, .bool false, .bool false]) rfl (by kernel_rfl)) ?_
  refine JL.go trivial (RX.build (pv := [(0, .string ⟨#[122, 101, 114, 111]⟩)]) (res := [.string ⟨#[122, 101, 114, 111]⟩, .bool false, .bool false, .bool false, .bool false]) rfl (by kernel_rfl)) ?_
  refine JL.go trivial (RX.build (pv := [(0, .string ⟨#[116, 119, 105, 115, 116]⟩), (3, .bool true), (4, .bool true)]) (res := [.string ⟨#[116, 119, 105, 115, 116]⟩, .bool false, .bool false, .bool true, .bool true]) rfl (by kernel_rfl)) ?_
  refine JL.go trivial (RX.build (pv := [(0, .string ⟨#[102, 108, 121]⟩), (2, .bool true), (3, .bool true)]) (res := [.string ⟨#[102, 108, 121]⟩, .bool false, .bool true, .bool true, .bool false]) rfl (by kernel_rfl)) ?_
  refine JL.go trivial (RX.build (pv := [(0, .string ⟨#[100, 105, 114, 101, 99, 116]⟩), (1, .bool true), (2, .bool true), (3, .bool true)]) (res := [.string ⟨#[100, 105, 114, 101, 99, 116]⟩, .bool true, .bool true, .bool true, .bool false]) rfl (by kernel_rfl)) ?_
  refine JL.go trivial (RX.build (pv := [(0, .string ⟨#[99, 104, 105, 114, 112]⟩), (3, .bool true)]) (res := [.string ⟨#[99, 104, 105, 114, 112]⟩, .bool false, .bool false, .bool true, .bool false]) rfl (by kernel_rfl)) ?_
  refine JL.go trivial (RX.build (pv := [(0, .string ⟨#[102, 105, 108, 108]⟩), (3, .bool true)]) (res := [.string ⟨#[102, 105, 108, 108]⟩, .bool false, .bool false, .bool true, .bool false]) rfl (by kernel_rfl)) ?_
  refine JL.go trivial (RX.build (pv := [(0, .string ⟨#[116, 105, 109, 101, 115]⟩), (1, .bool true)]) (res := [.string ⟨#[116, 105, 109, 101, 115]⟩, .bool true, .bool false, .bool false, .bool false]) rfl (by kernel_rfl)) ?_
  refine JL.go trivial (RX.build (pv := [(0, .string ⟨#[99, 111, 110, 106]⟩)]) (res := [.string ⟨#[99, 111, 110, 106]⟩, .bool false, .bool false, .bool false, .bool false]) rfl (by kernel_rfl)) ?_
  refine JL.go trivial (RX.build (pv := [(0, .string ⟨#[111, 118, 101, 114]⟩), (3, .bool true)]) (res := [.string ⟨#[111, 118, 101, 114]⟩, .bool false, .bool false, .bool true, .bool false]) rfl (by kernel_rfl)) ?_
  refine JL.does trivial (EX.buildSlice (pv := [(0, .agg (Row.rv (rowOf 0)).toArray), (1, .agg (Row.rv (rowOf 1)).toArray), (2, .agg (Row.rv (rowOf 2)).toArray), (3, .agg (Row.rv (rowOf 3)).toArray), (4, .agg (Row.rv (rowOf 4)).toArray), (5, .agg (Row.rv (rowOf 5)).toArray), (6, .agg (Row.rv (rowOf 6)).toArray), (7, .agg (Row.rv (rowOf 7)).toArray), (8, .agg (Row.rv (rowOf 8)).toArray), (9, .agg (Row.rv (rowOf 9)).toArray), (10, .agg (Row.rv (rowOf 10)).toArray), (11, .agg (Row.rv (rowOf 11)).toArray)]) (l := rrowsV) (e := 85) H rfl (by kernel_rfl)) ?_
  rintro _ w ⟨b, rfl, H⟩
  refine JL.go trivial (RX.assignv (v := Value.slice _ _ _) rfl) ?_
  refine JL.nil ?_
  refine J.ret1 (v := Value.slice _ _ _) Tryd.func36 rfl rfl ?_
  exact ⟨_, rfl, b, rfl, H⟩
theorem rname_b {w0 w : World} {F : List Seg} (H : Hp w0 w F) {op : Int} : Ret Tryd.prog 34 [.int .i64 op] w fun v w' => v = .tuple (nameV op).toArray ∧ Hp w0 w' F := by
  refine Calls.of_J (n := 15) Tryd.func34 rfl rfl rfl ?_
  refine J.seq ?_
  refine J.region ?_
  refine JL.go trivial (RX.assign) ?_
  refine JL.go trivial (RX.assign) ?_
  refine JL.nil ?_
  refine J.seq ?_
  refine J.seq ?_
  refine J.region ?_
  refine JL.go trivial (RX.movev (v := Value.int _ _) rfl) ?_
  refine JL.go trivial (RX.lt rfl rfl) ?_
  refine JL.go trivial (RX.movev (v := Value.bool _) rfl) ?_
  refine JL.splitS 6 rfl (fun h1 => ?_) (fun h1 => ?_)
  · skip
    first | have h1p := of_decide_eq_true h1 | skip
    refine JL.no ⟨_, rfl, gno h1⟩ ?_
    refine JL.no ⟨_, rfl, gno h1⟩ ?_
    refine JL.go trivial (RX.pick_t rfl h1) ?_
    refine JL.nil ?_
    refine J.cond_t rfl rfl ?_
    refine J.seq ?_
    refine J.region ?_
    refine JL.go trivial (RX.assign) ?_
    refine JL.go trivial (RX.assign) ?_
    refine JL.nil ?_
    refine J.ret2 (v := Value.string _) (x := Value.bool _) Tryd.func34 rfl rfl rfl ?_
    have e : opOk op = false := decide_eq_false (by omega)
    exact ⟨_, rfl, by simp only [nameV, e]; rfl, H⟩
  · skip
    first | have h1p := of_decide_eq_false h1 | skip
    refine JL.go ⟨_, rfl, h1⟩ (RX.movev (v := Value.int _ _) rfl) ?_
    refine JL.go ⟨_, rfl, h1⟩ (RX.gt rfl rfl) ?_
    refine JL.go trivial (RX.pick_f rfl h1) ?_
    refine JL.nil ?_
    refine J.cond_d rfl (fun h9 => ?_) (fun h9 => ?_)
    · skip
      refine J.seq ?_
      refine J.region ?_
      refine JL.go trivial (RX.assign) ?_
      refine JL.go trivial (RX.assign) ?_
      refine JL.nil ?_
      refine J.ret2 (v := Value.string _) (x := Value.bool _) Tryd.func34 rfl rfl rfl ?_
      have e : opOk op = false := decide_eq_false (by omega)
      exact ⟨_, rfl, by simp only [nameV, e]; rfl, H⟩
    · skip
      refine J.skip ?_
      refine J.seq ?_
      refine J.region ?_
      refine JL.does trivial (EX.call rfl cl36 rfl (rrows_b H)) ?_
      rintro _ w ⟨rb, rfl, H⟩
      refine JL.go trivial (RX.movev (v := Value.int _ _) rfl) ?_
      have hrow := rrows_read (op := op) (by omega) (by omega)
      refine JL.go trivial (RX.indexAddr rfl rfl sl86 (by omega) (by omega) rfl) ?_
      refine JL.go trivial (RX.fieldAddr rfl fo85_0 rfl) ?_
      refine JL.go trivial (RX.loadS H (SlAt.here (xs := rrowsV) rfl) rfl (j := op.toNat * 5) (by omega) ((readN_get (i := 0) hrow (by decide)).trans rfl) one9) ?_
      refine JL.go trivial (RX.assignv (v := Value.string _) rfl) ?_
      refine JL.go trivial (RX.assign) ?_
      refine JL.nil ?_
      refine J.ret2 (v := Value.string _) (x := Value.bool _) Tryd.func34 rfl rfl rfl ?_
      have e : opOk op = true := decide_eq_true (by omega)
      exact ⟨_, rfl, by simp only [nameV, e]; rfl, H.drop⟩
theorem within_b {w0 w : World} {F : List Seg} (H : Hp w0 w F) {x lo hi : Int} : Ret Tryd.prog 35 [.int .i64 x, .int .i64 lo, .int .i64 hi] w fun v w' => v = .bool (withinB x lo hi) ∧ Hp w0 w' F := by
  refine Calls.of_J (n := 15) Tryd.func35 rfl rfl rfl ?_
  refine J.seq ?_
  refine J.region ?_
  refine JL.go trivial (RX.assign) ?_
  refine JL.nil ?_
  refine J.seq ?_
  refine J.region ?_
  refine JL.go trivial (RX.movev (v := Value.int _ _) rfl) ?_
  refine JL.go trivial (RX.movev (v := Value.int _ _) rfl) ?_
  refine JL.go trivial (RX.ge rfl rfl) ?_
  refine JL.go trivial (RX.movev (v := Value.bool _) rfl) ?_
  refine JL.splitS 10 rfl (fun h1 => ?_) (fun h1 => ?_)
  · skip
    first | have h1p := of_decide_eq_true h1 | skip
    refine JL.go ⟨_, rfl, h1⟩ (RX.movev (v := Value.int _ _) rfl) ?_
    refine JL.go ⟨_, rfl, h1⟩ (RX.movev (v := Value.int _ _) rfl) ?_
    refine JL.go ⟨_, rfl, h1⟩ (RX.le rfl rfl) ?_
    refine JL.go trivial (RX.pick_t rfl h1) ?_
    refine JL.go trivial (RX.assignv (v := Value.bool _) rfl) ?_
    refine JL.nil ?_
    refine J.ret1 (v := Value.bool _) Tryd.func35 rfl rfl ?_
    exact ⟨_, rfl, by unfold withinB; congr 1; simp; omega, H⟩
  · skip
    first | have h1p := of_decide_eq_false h1 | skip
    refine JL.no ⟨_, rfl, gno h1⟩ ?_
    refine JL.no ⟨_, rfl, gno h1⟩ ?_
    refine JL.no ⟨_, rfl, gno h1⟩ ?_
    refine JL.go trivial (RX.pick_f rfl h1) ?_
    refine JL.go trivial (RX.assignv (v := Value.bool _) rfl) ?_
    refine JL.nil ?_
    refine J.ret1 (v := Value.bool _) Tryd.func35 rfl rfl ?_
    exact ⟨_, rfl, by unfold withinB; congr 1; simp; omega, H⟩
theorem number_b {w0 w : World} {F : List Seg} (H : Hp w0 w F) {s : Stp} (hs : s.Ok) : Ret Tryd.prog 37 [.agg s.v.toArray] w fun v w' => v = .bool (numB s) ∧ Hp w0 w' F := by
  refine Calls.of_J (n := 73) Tryd.func37 rfl rfl rfl ?_
  refine J.seq ?_
  refine J.region ?_
  refine JL.does trivial (EX.box (v := Value.agg _) H rfl rfl) ?_
  rintro _ w ⟨b1, rfl, H⟩
  refine JL.go trivial (RX.assign) ?_
  refine JL.nil ?_
  refine J.seq ?_
  refine J.seq ?_
  refine J.region ?_
  refine JL.go trivial (RX.fieldAddr rfl fo26_0 rfl) ?_
  refine JL.go trivial (by first | exact RX.load H rfl (i := 0) rfl rfl one3) ?_
  refine JL.nil ?_
  refine J.block ?_
  refine J.seq ?_
  refine J.region ?_
  refine JL.go trivial (RX.eq rfl rfl) ?_
  refine JL.go trivial (RX.assignv (v := Value.bool _) rfl) ?_
  refine JL.nil ?_
  refine J.cond_d rfl (fun h4 => ?_) (fun h4 => ?_)
  · skip
    refine J.seq ?_
    refine J.region ?_
    refine JL.go trivial (RX.fieldAddr rfl fo26_5 rfl) ?_
    refine JL.go trivial (by first | exact RX.load H rfl (i := 0) rfl rfl one3) ?_
    refine JL.does trivial (EX.call rfl cl35 rfl ((within_b H))) ?_
    rintro _ w ⟨rfl, H⟩
    refine JL.go trivial (RX.movev (v := Value.bool _) rfl) ?_
    refine JL.splitS 10 rfl (fun hw => ?_) (fun hw => ?_)
    · skip
      first | have hwp := of_decide_eq_true hw | skip
      refine JL.go ⟨_, rfl, hw⟩ (RX.fieldAddr rfl fo26_6 rfl) ?_
      refine JL.go ⟨_, rfl, hw⟩ (by first | exact RX.load H rfl (i := 0) rfl rfl one3) ?_
      refine JL.go ⟨_, rfl, hw⟩ (RX.fieldAddr rfl fo26_5 rfl) ?_
      refine JL.go ⟨_, rfl, hw⟩ (by first | exact RX.load H rfl (i := 0) rfl rfl one3) ?_
      have hwb := of_decide_eq_true hw
      refine JL.go ⟨_, rfl, hw⟩ (RX.sub rfl rfl (w_i64 rfl (by omega) (by omega))) ?_
      refine JL.does ⟨_, rfl, hw⟩ (EX.call rfl cl35 rfl ((within_b H))) ?_
      rintro _ w ⟨rfl, H⟩
      refine JL.go trivial (RX.pick_t rfl hw) ?_
      refine JL.go trivial (RX.assignv (v := Value.bool _) rfl) ?_
      refine JL.nil ?_
      refine J.ret1 (v := Value.bool _) Tryd.func37 rfl rfl ?_
      refine ⟨_, rfl, ?_, H.drop⟩
      first | (simp [numB, *]; done) | (simp_all [numB]; done) | (unfold numB; simp_all; omega)
    · skip
      first | have hwp := of_decide_eq_false hw | skip
      refine JL.no ⟨_, rfl, gno hw⟩ ?_
      refine JL.no ⟨_, rfl, gno hw⟩ ?_
      refine JL.no ⟨_, rfl, gno hw⟩ ?_
      refine JL.no ⟨_, rfl, gno hw⟩ ?_
      refine JL.no ⟨_, rfl, gno hw⟩ ?_
      refine JL.no ⟨_, rfl, gno hw⟩ ?_
      refine JL.go trivial (RX.pick_f rfl hw) ?_
      refine JL.go trivial (RX.assignv (v := Value.bool _) rfl) ?_
      refine JL.nil ?_
      refine J.ret1 (v := Value.bool _) Tryd.func37 rfl rfl ?_
      refine ⟨_, rfl, ?_, H.drop⟩
      first | (simp [numB, *]; done) | (simp_all [numB]; done) | (unfold numB; simp_all; omega)
  · skip
    refine J.seq ?_
    refine J.region ?_
    refine JL.go trivial (RX.eq rfl rfl) ?_
    refine JL.go trivial (RX.assignv (v := Value.bool _) rfl) ?_
    refine JL.nil ?_
    refine J.cond_d rfl (fun h5 => ?_) (fun h5 => ?_)
    · skip
      refine J.seq ?_
      refine J.region ?_
      refine JL.go trivial (RX.fieldAddr rfl fo26_5 rfl) ?_
      refine JL.go trivial (by first | exact RX.load H rfl (i := 0) rfl rfl one3) ?_
      refine JL.does trivial (EX.call rfl cl35 rfl ((within_b H))) ?_
      rintro _ w ⟨rfl, H⟩
      refine JL.go trivial (RX.movev (v := Value.bool _) rfl) ?_
      refine JL.splitS 23 rfl (fun hw => ?_) (fun hw => ?_)
      · skip
        first | have hwp := of_decide_eq_true hw | skip
        refine JL.go ⟨_, rfl, hw⟩ (RX.fieldAddr rfl fo26_4 rfl) ?_
        refine JL.go ⟨_, rfl, hw⟩ (by first | exact RX.load H rfl (i := 0) rfl rfl one3) ?_
        refine JL.go ⟨_, rfl, hw⟩ (RX.fieldAddr rfl fo26_3 rfl) ?_
        refine JL.go ⟨_, rfl, hw⟩ (by first | exact RX.load H rfl (i := 0) rfl rfl one3) ?_
        refine JL.go ⟨_, rfl, hw⟩ (RX.le rfl rfl) ?_
        refine JL.go trivial (RX.pick_t rfl hw) ?_
        refine JL.go trivial (RX.assignv (v := Value.bool _) rfl) ?_
        refine JL.nil ?_
        refine J.ret1 (v := Value.bool _) Tryd.func37 rfl rfl ?_
        refine ⟨_, rfl, ?_, H.drop⟩
        first | (simp [numB, *]; done) | (simp_all [numB]; done) | (unfold numB; simp_all; omega)
      · skip
        first | have hwp := of_decide_eq_false hw | skip
        refine JL.no ⟨_, rfl, gno hw⟩ ?_
        refine JL.no ⟨_, rfl, gno hw⟩ ?_
        refine JL.no ⟨_, rfl, gno hw⟩ ?_
        refine JL.no ⟨_, rfl, gno hw⟩ ?_
        refine JL.no ⟨_, rfl, gno hw⟩ ?_
        refine JL.go trivial (RX.pick_f rfl hw) ?_
        refine JL.go trivial (RX.assignv (v := Value.bool _) rfl) ?_
        refine JL.nil ?_
        refine J.ret1 (v := Value.bool _) Tryd.func37 rfl rfl ?_
        refine ⟨_, rfl, ?_, H.drop⟩
        first | (simp [numB, *]; done) | (simp_all [numB]; done) | (unfold numB; simp_all; omega)
    · skip
      refine J.seq ?_
      refine J.region ?_
      refine JL.go trivial (RX.eq rfl rfl) ?_
      refine JL.go trivial (RX.assignv (v := Value.bool _) rfl) ?_
      refine JL.nil ?_
      refine J.cond_d rfl (fun h6 => ?_) (fun h6 => ?_)
      · skip
        refine J.seq ?_
        refine J.region ?_
        refine JL.go trivial (RX.fieldAddr rfl fo26_5 rfl) ?_
        refine JL.go trivial (by first | exact RX.load H rfl (i := 0) rfl rfl one3) ?_
        refine JL.does trivial (EX.call rfl cl35 rfl ((within_b H))) ?_
        rintro _ w ⟨rfl, H⟩
        refine JL.go trivial (RX.movev (v := Value.bool _) rfl) ?_
        refine JL.splitS 35 rfl (fun hw => ?_) (fun hw => ?_)
        · skip
          first | have hwp := of_decide_eq_true hw | skip
          refine JL.go ⟨_, rfl, hw⟩ (RX.fieldAddr rfl fo26_4 rfl) ?_
          refine JL.go ⟨_, rfl, hw⟩ (by first | exact RX.load H rfl (i := 0) rfl rfl one3) ?_
          refine JL.go ⟨_, rfl, hw⟩ (RX.fieldAddr rfl fo26_5 rfl) ?_
          refine JL.go ⟨_, rfl, hw⟩ (by first | exact RX.load H rfl (i := 0) rfl rfl one3) ?_
          refine JL.go ⟨_, rfl, hw⟩ (RX.le rfl rfl) ?_
          refine JL.go trivial (RX.pick_t rfl hw) ?_
          refine JL.go trivial (RX.assignv (v := Value.bool _) rfl) ?_
          refine JL.nil ?_
          refine J.ret1 (v := Value.bool _) Tryd.func37 rfl rfl ?_
          refine ⟨_, rfl, ?_, H.drop⟩
          first | (simp [numB, *]; done) | (simp_all [numB]; done) | (unfold numB; simp_all; omega)
        · skip
          first | have hwp := of_decide_eq_false hw | skip
          refine JL.no ⟨_, rfl, gno hw⟩ ?_
          refine JL.no ⟨_, rfl, gno hw⟩ ?_
          refine JL.no ⟨_, rfl, gno hw⟩ ?_
          refine JL.no ⟨_, rfl, gno hw⟩ ?_
          refine JL.no ⟨_, rfl, gno hw⟩ ?_
          refine JL.go trivial (RX.pick_f rfl hw) ?_
          refine JL.go trivial (RX.assignv (v := Value.bool _) rfl) ?_
          refine JL.nil ?_
          refine J.ret1 (v := Value.bool _) Tryd.func37 rfl rfl ?_
          refine ⟨_, rfl, ?_, H.drop⟩
          first | (simp [numB, *]; done) | (simp_all [numB]; done) | (unfold numB; simp_all; omega)
      · skip
        refine J.seq ?_
        refine J.region ?_
        refine JL.go trivial (RX.eq rfl rfl) ?_
        refine JL.go trivial (RX.assignv (v := Value.bool _) rfl) ?_
        refine JL.nil ?_
        refine J.cond_d rfl (fun h7 => ?_) (fun h7 => ?_)
        · skip
          refine J.seq ?_
          refine J.region ?_
          refine JL.go trivial (RX.fieldAddr rfl fo26_5 rfl) ?_
          refine JL.go trivial (by first | exact RX.load H rfl (i := 0) rfl rfl one3) ?_
          refine JL.does trivial (EX.call rfl cl35 rfl ((within_b H))) ?_
          rintro _ w ⟨rfl, H⟩
          refine JL.go trivial (RX.movev (v := Value.bool _) rfl) ?_
          refine JL.splitS 47 rfl (fun hw => ?_) (fun hw => ?_)
          · skip
            first | have hwp := of_decide_eq_true hw | skip
            refine JL.go ⟨_, rfl, hw⟩ (RX.fieldAddr rfl fo26_4 rfl) ?_
            refine JL.go ⟨_, rfl, hw⟩ (by first | exact RX.load H rfl (i := 0) rfl rfl one3) ?_
            refine JL.go ⟨_, rfl, hw⟩ (RX.fieldAddr rfl fo26_5 rfl) ?_
            refine JL.go ⟨_, rfl, hw⟩ (by first | exact RX.load H rfl (i := 0) rfl rfl one3) ?_
            refine JL.go ⟨_, rfl, hw⟩ (RX.le rfl rfl) ?_
            refine JL.go trivial (RX.pick_t rfl hw) ?_
            refine JL.go trivial (RX.assignv (v := Value.bool _) rfl) ?_
            refine JL.nil ?_
            refine J.ret1 (v := Value.bool _) Tryd.func37 rfl rfl ?_
            refine ⟨_, rfl, ?_, H.drop⟩
            first | (simp [numB, *]; done) | (simp_all [numB]; done) | (unfold numB; simp_all; omega)
          · skip
            first | have hwp := of_decide_eq_false hw | skip
            refine JL.no ⟨_, rfl, gno hw⟩ ?_
            refine JL.no ⟨_, rfl, gno hw⟩ ?_
            refine JL.no ⟨_, rfl, gno hw⟩ ?_
            refine JL.no ⟨_, rfl, gno hw⟩ ?_
            refine JL.no ⟨_, rfl, gno hw⟩ ?_
            refine JL.go trivial (RX.pick_f rfl hw) ?_
            refine JL.go trivial (RX.assignv (v := Value.bool _) rfl) ?_
            refine JL.nil ?_
            refine J.ret1 (v := Value.bool _) Tryd.func37 rfl rfl ?_
            refine ⟨_, rfl, ?_, H.drop⟩
            first | (simp [numB, *]; done) | (simp_all [numB]; done) | (unfold numB; simp_all; omega)
        · skip
          refine J.seq ?_
          refine J.region ?_
          refine JL.go trivial (RX.eq rfl rfl) ?_
          refine JL.go trivial (RX.assignv (v := Value.bool _) rfl) ?_
          refine JL.nil ?_
          refine J.cond_d rfl (fun h8 => ?_) (fun h8 => ?_)
          · skip
            refine J.seq ?_
            refine J.region ?_
            refine JL.go trivial (RX.fieldAddr rfl fo26_5 rfl) ?_
            refine JL.go trivial (by first | exact RX.load H rfl (i := 0) rfl rfl one3) ?_
            refine JL.does trivial (EX.call rfl cl35 rfl ((within_b H))) ?_
            rintro _ w ⟨rfl, H⟩
            refine JL.go trivial (RX.movev (v := Value.bool _) rfl) ?_
            refine JL.splitS 59 rfl (fun hw => ?_) (fun hw => ?_)
            · skip
              first | have hwp := of_decide_eq_true hw | skip
              refine JL.go ⟨_, rfl, hw⟩ (RX.fieldAddr rfl fo26_4 rfl) ?_
              refine JL.go ⟨_, rfl, hw⟩ (by first | exact RX.load H rfl (i := 0) rfl rfl one3) ?_
              refine JL.go ⟨_, rfl, hw⟩ (RX.fieldAddr rfl fo26_5 rfl) ?_
              refine JL.go ⟨_, rfl, hw⟩ (by first | exact RX.load H rfl (i := 0) rfl rfl one3) ?_
              have hwb := of_decide_eq_true hw
              refine JL.go ⟨_, rfl, hw⟩ (RX.mul rfl rfl (w_i64 rfl (by omega) (by omega))) ?_
              refine JL.go ⟨_, rfl, hw⟩ (RX.sub rfl rfl (w_i64 rfl (by omega) (by omega))) ?_
              refine JL.does ⟨_, rfl, hw⟩ (EX.call rfl cl35 rfl ((within_b H))) ?_
              rintro _ w ⟨rfl, H⟩
              refine JL.go trivial (RX.pick_t rfl hw) ?_
              refine JL.go trivial (RX.assignv (v := Value.bool _) rfl) ?_
              refine JL.nil ?_
              refine J.ret1 (v := Value.bool _) Tryd.func37 rfl rfl ?_
              refine ⟨_, rfl, ?_, H.drop⟩
              first | (simp [numB, *]; done) | (simp_all [numB]; done) | (unfold numB; simp_all; omega)
            · skip
              first | have hwp := of_decide_eq_false hw | skip
              refine JL.no ⟨_, rfl, gno hw⟩ ?_
              refine JL.no ⟨_, rfl, gno hw⟩ ?_
              refine JL.no ⟨_, rfl, gno hw⟩ ?_
              refine JL.no ⟨_, rfl, gno hw⟩ ?_
              refine JL.no ⟨_, rfl, gno hw⟩ ?_
              refine JL.no ⟨_, rfl, gno hw⟩ ?_
              refine JL.no ⟨_, rfl, gno hw⟩ ?_
              refine JL.go trivial (RX.pick_f rfl hw) ?_
              refine JL.go trivial (RX.assignv (v := Value.bool _) rfl) ?_
              refine JL.nil ?_
              refine J.ret1 (v := Value.bool _) Tryd.func37 rfl rfl ?_
              refine ⟨_, rfl, ?_, H.drop⟩
              first | (simp [numB, *]; done) | (simp_all [numB]; done) | (unfold numB; simp_all; omega)
          · skip
            refine J.seq ?_
            refine J.region ?_
            refine JL.go trivial (RX.eq rfl rfl) ?_
            refine JL.go trivial (RX.assignv (v := Value.bool _) rfl) ?_
            refine JL.nil ?_
            refine J.cond_d rfl (fun h11 => ?_) (fun h11 => ?_)
            · skip
              refine J.seq ?_
              refine J.region ?_
              refine JL.go trivial (RX.fieldAddr rfl fo26_5 rfl) ?_
              refine JL.go trivial (by first | exact RX.load H rfl (i := 0) rfl rfl one3) ?_
              refine JL.does trivial (EX.call rfl cl35 rfl ((within_b H))) ?_
              rintro _ w ⟨rfl, H⟩
              refine JL.go trivial (RX.assignv (v := Value.bool _) rfl) ?_
              refine JL.nil ?_
              refine J.ret1 (v := Value.bool _) Tryd.func37 rfl rfl ?_
              refine ⟨_, rfl, ?_, H.drop⟩
              first | (simp [numB, *]; done) | (simp_all [numB]; done) | (unfold numB; simp_all; omega)
            · skip
              refine J.skip ?_
              refine J.inBlock ?_
              refine J.seq ?_
              refine J.region ?_
              refine JL.go trivial (RX.assign) ?_
              refine JL.nil ?_
              refine J.ret1 (v := Value.bool _) Tryd.func37 rfl rfl ?_
              refine ⟨_, rfl, ?_, H.drop⟩
              first | (simp [numB, *]; done) | (simp_all [numB]; done) | (unfold numB; simp_all; omega)

theorem form_imp {s : Stp} (h : formB s = true) : opOk s.op = true ∧ withinB s.dst 0 262143 = true ∧ withinB s.count 1 262144 = true := by
  simp only [formB, Bool.and_eq_true] at h
  exact ⟨h.1.1, h.1.2.1.1.1.1.1, h.1.2.1.1.1.1.2⟩
theorem form_ref {s : Stp} (hop : opOk s.op = true) (hd : withinB s.dst 0 262143 = true) (hc : withinB s.count 1 262144 = true) :
    formB s = ((fromB (rowOf s.op).src s.src 0 262143 && fromB (rowOf s.op).jump s.jump 1 262144 && (decide (0 < (rowOf s.op).n) || decide (s.n = 0)) && ((rowOf s.op).k || decide (s.k = 0))) && numB s) := by
  have hd2 : fromB true s.dst 0 262143 = true := hd
  have hc2 : fromB true s.count 1 262144 = true := hc
  have h2 : (fromB (decide (0 < (rowOf s.op).n)) s.n (if s.op = 5 then 2 else 1) (rowOf s.op).n && fromB (rowOf s.op).k s.k 0 (s.n - 1) && tailB s) = ((decide (0 < (rowOf s.op).n) || decide (s.n = 0)) && ((rowOf s.op).k || decide (s.k = 0)) && numB s) := by
    have hr := of_decide_eq_true hop
    rcases op_cases hr.1 hr.2 with h | h | h | h | h | h | h | h | h | h | h <;> simp [h, rowOf, rows, row0, fromB, numB, tailB, withinB, Bool.and_comm, Bool.and_assoc, Bool.and_left_comm]
    all_goals (try simp [of_decide_eq_true hc])
    all_goals (have hcc := of_decide_eq_true hc; rw [Bool.eq_iff_iff]; simp; omega)
  simp only [formB, hop, hd2, hc2, Bool.true_and]
  rw [Bool.and_assoc (fromB (rowOf s.op).src s.src 0 262143 && fromB (rowOf s.op).jump s.jump 1 262144 && fromB (decide (0 < (rowOf s.op).n)) s.n (if s.op = 5 then 2 else 1) (rowOf s.op).n), Bool.and_assoc (fromB (rowOf s.op).src s.src 0 262143 && fromB (rowOf s.op).jump s.jump 1 262144), ← Bool.and_assoc (fromB (decide (0 < (rowOf s.op).n)) s.n (if s.op = 5 then 2 else 1) (rowOf s.op).n), h2]
  simp only [Bool.and_assoc]

theorem rform_b {w0 w : World} {F : List Seg} (H : Hp w0 w F) {s : Stp} (hs : s.Ok) : Ret Tryd.prog 20 [.agg s.v.toArray] w fun v w' => v = .int .i64 (if formB s then 0 else 9) ∧ Hp w0 w' F := by
  refine Calls.of_J (n := 83) Tryd.func20 rfl rfl rfl ?_
  refine J.seq ?_
  refine J.region ?_
  refine JL.does trivial (EX.box (v := Value.agg _) H rfl rfl) ?_
  rintro _ w ⟨b1, rfl, H⟩
  refine JL.go trivial (RX.assign) ?_
  refine JL.nil ?_
  refine J.seq ?_
  refine J.region ?_
  refine JL.go trivial (RX.fieldAddr rfl fo26_0 rfl) ?_
  refine JL.go trivial (by first | exact RX.load H rfl (i := 0) rfl rfl one3 | exact RX.load H rfl (i := 1) rfl rfl one3 | exact RX.load H rfl (i := 2) rfl rfl one3) ?_
  refine JL.does trivial (EX.call rfl cl34 rfl (rname_b H)) ?_
  rintro _ w ⟨rfl, H⟩
  generalize hnv : nameV s.op = nv
  refine JL.go trivial (RX.movev (v := Value.tuple _) rfl) ?_
  refine JL.go trivial (RX.extract (vs := nv) (v := .string (if opOk s.op then (rowOf s.op).nm else ⟨#[]⟩)) rfl (by subst hnv; unfold nameV; split <;> rfl)) ?_
  refine JL.go trivial (RX.extract (vs := nv) (v := .bool (opOk s.op)) rfl (by subst hnv; unfold nameV; split <;> simp_all)) ?_
  refine JL.go trivial (RX.assignv (v := Value.string _) rfl) ?_
  refine JL.go trivial (RX.assignv (v := Value.bool _) rfl) ?_
  refine JL.nil ?_
  refine J.seq ?_
  refine J.seq ?_
  refine J.region ?_
  refine JL.go trivial (RX.movev (v := Value.bool _) rfl) ?_
  refine JL.go trivial (RX.not rfl) ?_
  refine JL.go trivial (RX.movev (v := Value.bool _) rfl) ?_
  refine JL.splitS 15 rfl (fun hop => ?_) (fun hop => ?_)
  · skip
    first | have hopp := of_decide_eq_true hop | skip
    refine JL.no ⟨_, rfl, gno hop⟩ ?_
    refine JL.no ⟨_, rfl, gno hop⟩ ?_
    refine JL.no ⟨_, rfl, gno hop⟩ ?_
    refine JL.no ⟨_, rfl, gno hop⟩ ?_
    refine JL.go trivial (RX.pick_t rfl hop) ?_
    refine JL.go trivial (RX.movev (v := Value.bool _) rfl) ?_
    refine JL.no ⟨_, rfl, gno rfl⟩ ?_
    refine JL.no ⟨_, rfl, gno rfl⟩ ?_
    refine JL.no ⟨_, rfl, gno rfl⟩ ?_
    refine JL.no ⟨_, rfl, gno rfl⟩ ?_
    refine JL.go trivial (RX.pick_t rfl rfl) ?_
    refine JL.nil ?_
    refine J.cond_t rfl rfl ?_
    refine J.seq ?_
    refine J.region ?_
    refine JL.go trivial (RX.assign) ?_
    refine JL.nil ?_
    refine J.ret1 (v := Value.int _ _) Tryd.func20 rfl rfl ?_
    have e : formB s = false := Bool.eq_false_iff.2 (fun h => absurd (form_imp h).1 (by simpa using hop))
    rw [e]; exact ⟨_, rfl, rfl, H.drop⟩
  · skip
    first | have hopp := of_decide_eq_false hop | skip
    refine JL.go ⟨_, rfl, hop⟩ (RX.fieldAddr rfl fo26_1 rfl) ?_
    refine JL.go ⟨_, rfl, hop⟩ (by first | exact RX.load H rfl (i := 0) rfl rfl one3 | exact RX.load H rfl (i := 1) rfl rfl one3 | exact RX.load H rfl (i := 2) rfl rfl one3) ?_
    refine JL.does ⟨_, rfl, hop⟩ (EX.call rfl cl35 rfl ((within_b H))) ?_
    rintro _ w ⟨rfl, H⟩
    refine JL.go ⟨_, rfl, hop⟩ (RX.not rfl) ?_
    refine JL.go trivial (RX.pick_f rfl hop) ?_
    refine JL.go trivial (RX.movev (v := Value.bool _) rfl) ?_
    refine JL.splitS 21 rfl (fun hw1 => ?_) (fun hw1 => ?_)
    · skip
      first | have hw1p := of_decide_eq_true hw1 | skip
      refine JL.no ⟨_, rfl, gno hw1⟩ ?_
      refine JL.no ⟨_, rfl, gno hw1⟩ ?_
      refine JL.no ⟨_, rfl, gno hw1⟩ ?_
      refine JL.no ⟨_, rfl, gno hw1⟩ ?_
      refine JL.go trivial (RX.pick_t rfl hw1) ?_
      refine JL.nil ?_
      refine J.cond_t rfl rfl ?_
      refine J.seq ?_
      refine J.region ?_
      refine JL.go trivial (RX.assign) ?_
      refine JL.nil ?_
      refine J.ret1 (v := Value.int _ _) Tryd.func20 rfl rfl ?_
      have e : formB s = false := Bool.eq_false_iff.2 (fun h => absurd (form_imp h).2.1 (by simpa using hw1))
      rw [e]; exact ⟨_, rfl, rfl, H.drop⟩
    · skip
      first | have hw1p := of_decide_eq_false hw1 | skip
      refine JL.go ⟨_, rfl, hw1⟩ (RX.fieldAddr rfl fo26_4 rfl) ?_
      refine JL.go ⟨_, rfl, hw1⟩ (by first | exact RX.load H rfl (i := 0) rfl rfl one3 | exact RX.load H rfl (i := 1) rfl rfl one3 | exact RX.load H rfl (i := 2) rfl rfl one3) ?_
      refine JL.does ⟨_, rfl, hw1⟩ (EX.call rfl cl35 rfl ((within_b H))) ?_
      rintro _ w ⟨rfl, H⟩
      refine JL.go ⟨_, rfl, hw1⟩ (RX.not rfl) ?_
      refine JL.go trivial (RX.pick_f rfl hw1) ?_
      refine JL.nil ?_
      refine J.cond rfl (fun hw2 => ?_) (fun hw2 => ?_)
      · skip
        refine J.seq ?_
        refine J.region ?_
        refine JL.go trivial (RX.assign) ?_
        refine JL.nil ?_
        refine J.ret1 (v := Value.int _ _) Tryd.func20 rfl rfl ?_
        have e : formB s = false := Bool.eq_false_iff.2 (fun h => absurd (form_imp h).2.2 (by simpa using hw2))
        rw [e]; exact ⟨_, rfl, rfl, H.drop⟩
      · skip
        have hop2 : opOk s.op = true := by simpa using hop
        have hd1 : withinB s.dst 0 262143 = true := by simpa using hw1
        have hc1 : withinB s.count 1 262144 = true := by simpa using hw2
        have hr := of_decide_eq_true hop2
        have hrow := rrows_read (op := s.op) (by omega) (by omega)
        have hfr := form_ref hop2 hd1 hc1
        refine J.skip ?_
        refine J.seq ?_
        refine J.join (ι := Nat) (fun q => [(5, .pointer (some ⟨q, 0, none⟩))]) (fun q w => Hp w0 w ([(q, cel (rowOf s.op).rv 85)] :: [(b1, cel s.v 26)] :: F)) [(1, _)] ⟨rfl, trivial⟩ ?_ ?_
        rotate_left
        · skip
          intro k2 hk2
          refine J.any hmix fun w hs => ?_
          replace H := H.same hs; clear hs
          refine JA.take 1 (listed' := [false, true, false, false, false, false, false]) rfl (by kernel_rfl) (by kernel_rfl) (by kernel_rfl) rfl trivial (fun w => RX.fieldAddr rfl fo26_0 rfl) ?_
          refine JA.all [0, 2, 5] (by kernel_rfl) (by decide) ?_
          refine ⟨?_, ?_, ?_⟩
          · skip
            refine JO.does (listed' := [true, true, false, false, false, false, false]) rfl rfl trivial (EX.call rfl cl36 rfl (rrows_b H)) ?_
            rintro _ w ⟨rb, rfl, H⟩
            refine JA.all [2, 5] (by kernel_rfl) (by decide) ?_
            refine ⟨?_, ?_⟩
            · skip
              refine JO.go (listed' := [true, true, true, false, false, false, false]) rfl rfl trivial (by first | exact RX.load H rfl (i := 0) rfl rfl one3 | exact RX.load H rfl (i := 1) rfl rfl one3 | exact RX.load H rfl (i := 2) rfl rfl one3) ?_
              refine JA.take 3 (listed' := [true, true, true, true, false, false, false]) rfl (by kernel_rfl) (by kernel_rfl) (by kernel_rfl) rfl trivial (fun w => RX.indexAddr rfl rfl sl86 (by omega) (by omega) rfl) ?_
              refine JA.all [4, 5] (by kernel_rfl) (by decide) ?_
              refine ⟨?_, ?_⟩
              · skip
                refine JO.go (listed' := [true, true, true, true, true, false, false]) rfl rfl trivial ((by first | exact RX.loadAggS H (SlAt.here (xs := rrowsV) rfl) rfl (j := s.op.toNat * 5) (by omega) hrow ag85 | exact RX.loadAggS H (SlAt.here (xs := rrowsV) rfl).cons rfl (j := s.op.toNat * 5) (by omega) hrow ag85)) ?_
                refine JA.all [5] (by kernel_rfl) (by decide) ?_
                refine JO.does (listed' := [true, true, true, true, true, true, false]) rfl rfl trivial (EX.alloc H zr85 rfl) ?_
                rintro _ w ⟨rr, rfl, H⟩
                refine JA.all [6] (by kernel_rfl) (by decide) ?_
                refine JO.does (listed' := [true, true, true, true, true, true, true]) rfl rfl trivial ((by first | exact EX.storeAgg H rfl rfl (i := 0) (vs := (rowOf s.op).rv) rfl (rrow_cell _) (by simp [Row.rv]) sz85 rfl rfl | exact EX.storeAgg H rfl rfl (i := 1) (vs := (rowOf s.op).rv) rfl (rrow_cell _) (by simp [Row.rv]) sz85 rfl rfl)) ?_
                rintro _ w H
                refine JA.done (by kernel_rfl) ?_
                first | exact hk2 rr _ _ ⟨rfl, trivial⟩ ⟨rfl, trivial⟩ ((H.pull 1 rfl).drop) | exact hk2 rr _ _ ⟨rfl, trivial⟩ ⟨rfl, trivial⟩ H.drop
              · skip
                refine JO.does (listed' := [true, true, true, true, false, true, false]) rfl rfl trivial (EX.alloc H zr85 rfl) ?_
                rintro _ w ⟨rr, rfl, H⟩
                refine JA.all [4] (by kernel_rfl) (by decide) ?_
                refine JO.go (listed' := [true, true, true, true, true, true, false]) rfl rfl trivial ((by first | exact RX.loadAggS H (SlAt.here (xs := rrowsV) rfl) rfl (j := s.op.toNat * 5) (by omega) hrow ag85 | exact RX.loadAggS H (SlAt.here (xs := rrowsV) rfl).cons rfl (j := s.op.toNat * 5) (by omega) hrow ag85)) ?_
                refine JA.all [6] (by kernel_rfl) (by decide) ?_
                refine JO.does (listed' := [true, true, true, true, true, true, true]) rfl rfl trivial ((by first | exact EX.storeAgg H rfl rfl (i := 0) (vs := (rowOf s.op).rv) rfl (rrow_cell _) (by simp [Row.rv]) sz85 rfl rfl | exact EX.storeAgg H rfl rfl (i := 1) (vs := (rowOf s.op).rv) rfl (rrow_cell _) (by simp [Row.rv]) sz85 rfl rfl)) ?_
                rintro _ w H
                refine JA.done (by kernel_rfl) ?_
                first | exact hk2 rr _ _ ⟨rfl, trivial⟩ ⟨rfl, trivial⟩ ((H.pull 1 rfl).drop) | exact hk2 rr _ _ ⟨rfl, trivial⟩ ⟨rfl, trivial⟩ H.drop
            · skip
              refine JO.does (listed' := [true, true, false, false, false, true, false]) rfl rfl trivial (EX.alloc H zr85 rfl) ?_
              rintro _ w ⟨rr, rfl, H⟩
              refine JA.all [2] (by kernel_rfl) (by decide) ?_
              refine JO.go (listed' := [true, true, true, false, false, true, false]) rfl rfl trivial (by first | exact RX.load H rfl (i := 0) rfl rfl one3 | exact RX.load H rfl (i := 1) rfl rfl one3 | exact RX.load H rfl (i := 2) rfl rfl one3) ?_
              refine JA.take 3 (listed' := [true, true, true, true, false, true, false]) rfl (by kernel_rfl) (by kernel_rfl) (by kernel_rfl) rfl trivial (fun w => RX.indexAddr rfl rfl sl86 (by omega) (by omega) rfl) ?_
              refine JA.all [4] (by kernel_rfl) (by decide) ?_
              refine JO.go (listed' := [true, true, true, true, true, true, false]) rfl rfl trivial ((by first | exact RX.loadAggS H (SlAt.here (xs := rrowsV) rfl) rfl (j := s.op.toNat * 5) (by omega) hrow ag85 | exact RX.loadAggS H (SlAt.here (xs := rrowsV) rfl).cons rfl (j := s.op.toNat * 5) (by omega) hrow ag85)) ?_
              refine JA.all [6] (by kernel_rfl) (by decide) ?_
              refine JO.does (listed' := [true, true, true, true, true, true, true]) rfl rfl trivial ((by first | exact EX.storeAgg H rfl rfl (i := 0) (vs := (rowOf s.op).rv) rfl (rrow_cell _) (by simp [Row.rv]) sz85 rfl rfl | exact EX.storeAgg H rfl rfl (i := 1) (vs := (rowOf s.op).rv) rfl (rrow_cell _) (by simp [Row.rv]) sz85 rfl rfl)) ?_
              rintro _ w H
              refine JA.done (by kernel_rfl) ?_
              first | exact hk2 rr _ _ ⟨rfl, trivial⟩ ⟨rfl, trivial⟩ ((H.pull 1 rfl).drop) | exact hk2 rr _ _ ⟨rfl, trivial⟩ ⟨rfl, trivial⟩ H.drop
          · skip
            refine JO.go (listed' := [false, true, true, false, false, false, false]) rfl rfl trivial (by first | exact RX.load H rfl (i := 0) rfl rfl one3 | exact RX.load H rfl (i := 1) rfl rfl one3 | exact RX.load H rfl (i := 2) rfl rfl one3) ?_
            refine JA.all [0, 5] (by kernel_rfl) (by decide) ?_
            refine ⟨?_, ?_⟩
            · skip
              refine JO.does (listed' := [true, true, true, false, false, false, false]) rfl rfl trivial (EX.call rfl cl36 rfl (rrows_b H)) ?_
              rintro _ w ⟨rb, rfl, H⟩
              refine JA.take 3 (listed' := [true, true, true, true, false, false, false]) rfl (by kernel_rfl) (by kernel_rfl) (by kernel_rfl) rfl trivial (fun w => RX.indexAddr rfl rfl sl86 (by omega) (by omega) rfl) ?_
              refine JA.all [4, 5] (by kernel_rfl) (by decide) ?_
              refine ⟨?_, ?_⟩
              · skip
                refine JO.go (listed' := [true, true, true, true, true, false, false]) rfl rfl trivial ((by first | exact RX.loadAggS H (SlAt.here (xs := rrowsV) rfl) rfl (j := s.op.toNat * 5) (by omega) hrow ag85 | exact RX.loadAggS H (SlAt.here (xs := rrowsV) rfl).cons rfl (j := s.op.toNat * 5) (by omega) hrow ag85)) ?_
                refine JA.all [5] (by kernel_rfl) (by decide) ?_
                refine JO.does (listed' := [true, true, true, true, true, true, false]) rfl rfl trivial (EX.alloc H zr85 rfl) ?_
                rintro _ w ⟨rr, rfl, H⟩
                refine JA.all [6] (by kernel_rfl) (by decide) ?_
                refine JO.does (listed' := [true, true, true, true, true, true, true]) rfl rfl trivial ((by first | exact EX.storeAgg H rfl rfl (i := 0) (vs := (rowOf s.op).rv) rfl (rrow_cell _) (by simp [Row.rv]) sz85 rfl rfl | exact EX.storeAgg H rfl rfl (i := 1) (vs := (rowOf s.op).rv) rfl (rrow_cell _) (by simp [Row.rv]) sz85 rfl rfl)) ?_
                rintro _ w H
                refine JA.done (by kernel_rfl) ?_
                first | exact hk2 rr _ _ ⟨rfl, trivial⟩ ⟨rfl, trivial⟩ ((H.pull 1 rfl).drop) | exact hk2 rr _ _ ⟨rfl, trivial⟩ ⟨rfl, trivial⟩ H.drop
              · skip
                refine JO.does (listed' := [true, true, true, true, false, true, false]) rfl rfl trivial (EX.alloc H zr85 rfl) ?_
                rintro _ w ⟨rr, rfl, H⟩
                refine JA.all [4] (by kernel_rfl) (by decide) ?_
                refine JO.go (listed' := [true, true, true, true, true, true, false]) rfl rfl trivial ((by first | exact RX.loadAggS H (SlAt.here (xs := rrowsV) rfl) rfl (j := s.op.toNat * 5) (by omega) hrow ag85 | exact RX.loadAggS H (SlAt.here (xs := rrowsV) rfl).cons rfl (j := s.op.toNat * 5) (by omega) hrow ag85)) ?_
                refine JA.all [6] (by kernel_rfl) (by decide) ?_
                refine JO.does (listed' := [true, true, true, true, true, true, true]) rfl rfl trivial ((by first | exact EX.storeAgg H rfl rfl (i := 0) (vs := (rowOf s.op).rv) rfl (rrow_cell _) (by simp [Row.rv]) sz85 rfl rfl | exact EX.storeAgg H rfl rfl (i := 1) (vs := (rowOf s.op).rv) rfl (rrow_cell _) (by simp [Row.rv]) sz85 rfl rfl)) ?_
                rintro _ w H
                refine JA.done (by kernel_rfl) ?_
                first | exact hk2 rr _ _ ⟨rfl, trivial⟩ ⟨rfl, trivial⟩ ((H.pull 1 rfl).drop) | exact hk2 rr _ _ ⟨rfl, trivial⟩ ⟨rfl, trivial⟩ H.drop
            · skip
              refine JO.does (listed' := [false, true, true, false, false, true, false]) rfl rfl trivial (EX.alloc H zr85 rfl) ?_
              rintro _ w ⟨rr, rfl, H⟩
              refine JA.all [0] (by kernel_rfl) (by decide) ?_
              refine JO.does (listed' := [true, true, true, false, false, true, false]) rfl rfl trivial (EX.call rfl cl36 rfl (rrows_b H)) ?_
              rintro _ w ⟨rb, rfl, H⟩
              refine JA.take 3 (listed' := [true, true, true, true, false, true, false]) rfl (by kernel_rfl) (by kernel_rfl) (by kernel_rfl) rfl trivial (fun w => RX.indexAddr rfl rfl sl86 (by omega) (by omega) rfl) ?_
              refine JA.all [4] (by kernel_rfl) (by decide) ?_
              refine JO.go (listed' := [true, true, true, true, true, true, false]) rfl rfl trivial ((by first | exact RX.loadAggS H (SlAt.here (xs := rrowsV) rfl) rfl (j := s.op.toNat * 5) (by omega) hrow ag85 | exact RX.loadAggS H (SlAt.here (xs := rrowsV) rfl).cons rfl (j := s.op.toNat * 5) (by omega) hrow ag85)) ?_
              refine JA.all [6] (by kernel_rfl) (by decide) ?_
              refine JO.does (listed' := [true, true, true, true, true, true, true]) rfl rfl trivial ((by first | exact EX.storeAgg H rfl rfl (i := 0) (vs := (rowOf s.op).rv) rfl (rrow_cell _) (by simp [Row.rv]) sz85 rfl rfl | exact EX.storeAgg H rfl rfl (i := 1) (vs := (rowOf s.op).rv) rfl (rrow_cell _) (by simp [Row.rv]) sz85 rfl rfl)) ?_
              rintro _ w H
              refine JA.done (by kernel_rfl) ?_
              first | exact hk2 rr _ _ ⟨rfl, trivial⟩ ⟨rfl, trivial⟩ ((H.pull 1 rfl).drop) | exact hk2 rr _ _ ⟨rfl, trivial⟩ ⟨rfl, trivial⟩ H.drop
          · skip
            refine JO.does (listed' := [false, true, false, false, false, true, false]) rfl rfl trivial (EX.alloc H zr85 rfl) ?_
            rintro _ w ⟨rr, rfl, H⟩
            refine JA.all [0, 2] (by kernel_rfl) (by decide) ?_
            refine ⟨?_, ?_⟩
            · skip
              refine JO.does (listed' := [true, true, false, false, false, true, false]) rfl rfl trivial (EX.call rfl cl36 rfl (rrows_b H)) ?_
              rintro _ w ⟨rb, rfl, H⟩
              refine JA.all [2] (by kernel_rfl) (by decide) ?_
              refine JO.go (listed' := [true, true, true, false, false, true, false]) rfl rfl trivial (by first | exact RX.load H rfl (i := 0) rfl rfl one3 | exact RX.load H rfl (i := 1) rfl rfl one3 | exact RX.load H rfl (i := 2) rfl rfl one3) ?_
              refine JA.take 3 (listed' := [true, true, true, true, false, true, false]) rfl (by kernel_rfl) (by kernel_rfl) (by kernel_rfl) rfl trivial (fun w => RX.indexAddr rfl rfl sl86 (by omega) (by omega) rfl) ?_
              refine JA.all [4] (by kernel_rfl) (by decide) ?_
              refine JO.go (listed' := [true, true, true, true, true, true, false]) rfl rfl trivial ((by first | exact RX.loadAggS H (SlAt.here (xs := rrowsV) rfl) rfl (j := s.op.toNat * 5) (by omega) hrow ag85 | exact RX.loadAggS H (SlAt.here (xs := rrowsV) rfl).cons rfl (j := s.op.toNat * 5) (by omega) hrow ag85)) ?_
              refine JA.all [6] (by kernel_rfl) (by decide) ?_
              refine JO.does (listed' := [true, true, true, true, true, true, true]) rfl rfl trivial ((by first | exact EX.storeAgg H rfl rfl (i := 0) (vs := (rowOf s.op).rv) rfl (rrow_cell _) (by simp [Row.rv]) sz85 rfl rfl | exact EX.storeAgg H rfl rfl (i := 1) (vs := (rowOf s.op).rv) rfl (rrow_cell _) (by simp [Row.rv]) sz85 rfl rfl)) ?_
              rintro _ w H
              refine JA.done (by kernel_rfl) ?_
              first | exact hk2 rr _ _ ⟨rfl, trivial⟩ ⟨rfl, trivial⟩ ((H.pull 1 rfl).drop) | exact hk2 rr _ _ ⟨rfl, trivial⟩ ⟨rfl, trivial⟩ H.drop
            · skip
              refine JO.go (listed' := [false, true, true, false, false, true, false]) rfl rfl trivial (by first | exact RX.load H rfl (i := 0) rfl rfl one3 | exact RX.load H rfl (i := 1) rfl rfl one3 | exact RX.load H rfl (i := 2) rfl rfl one3) ?_
              refine JA.all [0] (by kernel_rfl) (by decide) ?_
              refine JO.does (listed' := [true, true, true, false, false, true, false]) rfl rfl trivial (EX.call rfl cl36 rfl (rrows_b H)) ?_
              rintro _ w ⟨rb, rfl, H⟩
              refine JA.take 3 (listed' := [true, true, true, true, false, true, false]) rfl (by kernel_rfl) (by kernel_rfl) (by kernel_rfl) rfl trivial (fun w => RX.indexAddr rfl rfl sl86 (by omega) (by omega) rfl) ?_
              refine JA.all [4] (by kernel_rfl) (by decide) ?_
              refine JO.go (listed' := [true, true, true, true, true, true, false]) rfl rfl trivial ((by first | exact RX.loadAggS H (SlAt.here (xs := rrowsV) rfl) rfl (j := s.op.toNat * 5) (by omega) hrow ag85 | exact RX.loadAggS H (SlAt.here (xs := rrowsV) rfl).cons rfl (j := s.op.toNat * 5) (by omega) hrow ag85)) ?_
              refine JA.all [6] (by kernel_rfl) (by decide) ?_
              refine JO.does (listed' := [true, true, true, true, true, true, true]) rfl rfl trivial ((by first | exact EX.storeAgg H rfl rfl (i := 0) (vs := (rowOf s.op).rv) rfl (rrow_cell _) (by simp [Row.rv]) sz85 rfl rfl | exact EX.storeAgg H rfl rfl (i := 1) (vs := (rowOf s.op).rv) rfl (rrow_cell _) (by simp [Row.rv]) sz85 rfl rfl)) ?_
              rintro _ w H
              refine JA.done (by kernel_rfl) ?_
              first | exact hk2 rr _ _ ⟨rfl, trivial⟩ ⟨rfl, trivial⟩ ((H.pull 1 rfl).drop) | exact hk2 rr _ _ ⟨rfl, trivial⟩ ⟨rfl, trivial⟩ H.drop
        · skip
          clear H
          intro rr ρ w H
          refine J.seq ?_
          refine J.join (ι := Bool) (fun q => [(6, .bool q)]) (fun q w => q = fromB (rowOf s.op).src s.src 0 262143 ∧ Hp w0 w ([(rr, cel (rowOf s.op).rv 85)] :: [(b1, cel s.v 26)] :: F)) [(1, _), (5, _)] ⟨rfl, rfl, trivial⟩ ?_ ?_
          rotate_left
          · skip
            intro k2 hk2
            refine J.region ?_
            refine JL.go trivial (RX.fieldAddr rfl fo26_2 rfl) ?_
            refine JL.go trivial (by first | exact RX.load H rfl (i := 0) rfl rfl one3 | exact RX.load H rfl (i := 1) rfl rfl one3 | exact RX.load H rfl (i := 2) rfl rfl one3) ?_
            refine JL.does trivial (EX.call rfl cl35 rfl ((within_b H))) ?_
            rintro _ w ⟨rfl, H⟩
            refine JL.go trivial (RX.movev (v := Value.bool _) rfl) ?_
            refine JL.splitS 35 rfl (fun hw => ?_) (fun hw => ?_)
            · skip
              first | have hwp := of_decide_eq_true hw | skip
              refine JL.go ⟨_, rfl, hw⟩ (RX.fieldAddr rfl fo85_1 rfl) ?_
              refine JL.go ⟨_, rfl, hw⟩ (by first | exact RX.load H rfl (i := 0) rfl rfl one4 | exact RX.load H rfl (i := 1) rfl rfl one4 | exact RX.load H rfl (i := 2) rfl rfl one4) ?_
              refine JL.go ⟨_, rfl, hw⟩ (RX.movev (v := Value.bool _) rfl) ?_
              refine JL.splitS 38 rfl (fun hsrc => ?_) (fun hsrc => ?_)
              · skip
                first | have hsrcp := of_decide_eq_true hsrc | skip
                refine JL.no ⟨_, rfl, gno hsrc⟩ ?_
                refine JL.no ⟨_, rfl, gno hsrc⟩ ?_
                refine JL.no ⟨_, rfl, gno hsrc⟩ ?_
                refine JL.go ⟨_, rfl, hw⟩ (RX.pick_t rfl hsrc) ?_
                refine JL.go trivial (RX.pick_t rfl hw) ?_
                refine JL.go trivial (RX.assignv (v := Value.bool _) rfl) ?_
                refine JL.nil ?_
                exact hk2 _ _ _ ⟨rfl, rfl, trivial⟩ ⟨rfl, trivial⟩ ⟨by unfold fromB; split <;> simp_all [withinB] <;> omega, H⟩
              · skip
                first | have hsrcp := of_decide_eq_false hsrc | skip
                refine JL.go ⟨_, rfl, hsrc⟩ (RX.fieldAddr rfl fo26_2 rfl) ?_
                refine JL.go ⟨_, rfl, hsrc⟩ (by first | exact RX.load H rfl (i := 0) rfl rfl one3 | exact RX.load H rfl (i := 1) rfl rfl one3 | exact RX.load H rfl (i := 2) rfl rfl one3) ?_
                refine JL.go ⟨_, rfl, hsrc⟩ (RX.eq rfl rfl) ?_
                refine JL.go ⟨_, rfl, hw⟩ (RX.pick_f rfl hsrc) ?_
                refine JL.go trivial (RX.pick_t rfl hw) ?_
                refine JL.go trivial (RX.assignv (v := Value.bool _) rfl) ?_
                refine JL.nil ?_
                exact hk2 _ _ _ ⟨rfl, rfl, trivial⟩ ⟨rfl, trivial⟩ ⟨by unfold fromB; split <;> simp_all [withinB] <;> omega, H⟩
            · skip
              first | have hwp := of_decide_eq_false hw | skip
              refine JL.no ⟨_, rfl, gno hw⟩ ?_
              refine JL.no ⟨_, rfl, gno hw⟩ ?_
              refine JL.no ⟨_, rfl, gno hw⟩ ?_
              refine JL.no ⟨_, rfl, nofun⟩ ?_
              refine JL.no ⟨_, rfl, nofun⟩ ?_
              refine JL.no ⟨_, rfl, nofun⟩ ?_
              refine JL.no ⟨_, rfl, gno hw⟩ ?_
              refine JL.go trivial (RX.pick_f rfl hw) ?_
              refine JL.go trivial (RX.assignv (v := Value.bool _) rfl) ?_
              refine JL.nil ?_
              exact hk2 _ _ _ ⟨rfl, rfl, trivial⟩ ⟨rfl, trivial⟩ ⟨by unfold fromB; split <;> simp_all [withinB] <;> omega, H⟩
          · skip
            clear H
            rintro q ρ w ⟨hq1, H⟩
            refine J.seq ?_
            refine J.seq ?_
            refine J.region ?_
            refine JL.go trivial (RX.fieldAddr rfl fo85_2 rfl) ?_
            refine JL.go trivial (by first | exact RX.load H rfl (i := 0) rfl rfl one4 | exact RX.load H rfl (i := 1) rfl rfl one4 | exact RX.load H rfl (i := 2) rfl rfl one4) ?_
            refine JL.nil ?_
            refine J.join (ι := Bool) (fun q => [(6, .bool q)]) (fun q w => q = (fromB (rowOf s.op).src s.src 0 262143 && fromB (rowOf s.op).jump s.jump 1 262144) ∧ Hp w0 w ([(rr, cel (rowOf s.op).rv 85)] :: [(b1, cel s.v 26)] :: F)) [(1, _), (5, _)] ⟨rfl, rfl, trivial⟩ ?_ ?_
            rotate_left
            · skip
              intro k2 hk2
              refine J.cond rfl (fun hj => ?_) (fun hj => ?_)
              · skip
                refine J.region ?_
                refine JL.go trivial (RX.movev (v := Value.bool _) rfl) ?_
                refine JL.go trivial (RX.movev (v := Value.bool _) rfl) ?_
                refine JL.splitS 47 rfl (fun hq => ?_) (fun hq => ?_)
                · skip
                  first | have hqp := of_decide_eq_true hq | skip
                  refine JL.go ⟨_, rfl, hq⟩ (RX.fieldAddr rfl fo26_3 rfl) ?_
                  refine JL.go ⟨_, rfl, hq⟩ (by first | exact RX.load H rfl (i := 0) rfl rfl one3 | exact RX.load H rfl (i := 1) rfl rfl one3 | exact RX.load H rfl (i := 2) rfl rfl one3) ?_
                  refine JL.does ⟨_, rfl, hq⟩ (EX.call rfl cl35 rfl ((within_b H))) ?_
                  rintro _ w ⟨rfl, H⟩
                  refine JL.go trivial (RX.pick_t rfl hq) ?_
                  refine JL.go trivial (RX.assignv (v := Value.bool _) rfl) ?_
                  refine JL.nil ?_
                  exact hk2 _ _ _ ⟨rfl, rfl, trivial⟩ ⟨rfl, trivial⟩ ⟨by rw [← hq1, hq]; simp [fromB, hj, withinB], H⟩
                · skip
                  first | have hqp := of_decide_eq_false hq | skip
                  refine JL.no ⟨_, rfl, gno hq⟩ ?_
                  refine JL.no ⟨_, rfl, gno hq⟩ ?_
                  refine JL.no ⟨_, rfl, gno hq⟩ ?_
                  refine JL.go trivial (RX.pick_f rfl hq) ?_
                  refine JL.go trivial (RX.assignv (v := Value.bool _) rfl) ?_
                  refine JL.nil ?_
                  exact hk2 _ _ _ ⟨rfl, rfl, trivial⟩ ⟨rfl, trivial⟩ ⟨by rw [← hq1, hq]; simp [fromB, hj, withinB], H⟩
              · skip
                refine J.region ?_
                refine JL.go trivial (RX.movev (v := Value.bool _) rfl) ?_
                refine JL.go trivial (RX.movev (v := Value.bool _) rfl) ?_
                refine JL.splitS 53 rfl (fun hq => ?_) (fun hq => ?_)
                · skip
                  first | have hqp := of_decide_eq_true hq | skip
                  refine JL.go ⟨_, rfl, hq⟩ (RX.fieldAddr rfl fo26_3 rfl) ?_
                  refine JL.go ⟨_, rfl, hq⟩ (by first | exact RX.load H rfl (i := 0) rfl rfl one3 | exact RX.load H rfl (i := 1) rfl rfl one3 | exact RX.load H rfl (i := 2) rfl rfl one3) ?_
                  refine JL.go ⟨_, rfl, hq⟩ (RX.eq rfl rfl) ?_
                  refine JL.go trivial (RX.pick_t rfl hq) ?_
                  refine JL.go trivial (RX.assignv (v := Value.bool _) rfl) ?_
                  refine JL.nil ?_
                  exact hk2 _ _ _ ⟨rfl, rfl, trivial⟩ ⟨rfl, trivial⟩ ⟨by rw [← hq1, hq]; simp [fromB, hj, withinB], H⟩
                · skip
                  first | have hqp := of_decide_eq_false hq | skip
                  refine JL.no ⟨_, rfl, gno hq⟩ ?_
                  refine JL.no ⟨_, rfl, gno hq⟩ ?_
                  refine JL.no ⟨_, rfl, gno hq⟩ ?_
                  refine JL.go trivial (RX.pick_f rfl hq) ?_
                  refine JL.go trivial (RX.assignv (v := Value.bool _) rfl) ?_
                  refine JL.nil ?_
                  exact hk2 _ _ _ ⟨rfl, rfl, trivial⟩ ⟨rfl, trivial⟩ ⟨by rw [← hq1, hq]; simp [fromB, hj, withinB], H⟩
            · skip
              clear H
              rintro q2 ρ w ⟨hq2, H⟩
              refine J.seq ?_
              refine J.join (ι := Bool) (fun q => [(6, .bool q)]) (fun q w => q = (q2 && (decide (0 < (rowOf s.op).n) || decide (s.n = 0)) && ((rowOf s.op).k || decide (s.k = 0))) ∧ Hp w0 w ([(rr, cel (rowOf s.op).rv 85)] :: [(b1, cel s.v 26)] :: F)) [(1, _)] ⟨rfl, trivial⟩ ?_ ?_
              rotate_left
              · skip
                intro k2 hk2
                refine J.region ?_
                refine JL.go trivial (RX.movev (v := Value.bool _) rfl) ?_
                refine JL.go trivial (RX.movev (v := Value.bool _) rfl) ?_
                refine JL.splitS 59 rfl (fun hq => ?_) (fun hq => ?_)
                · skip
                  first | have hqp := of_decide_eq_true hq | skip
                  refine JL.go ⟨_, rfl, hq⟩ (RX.fieldAddr rfl fo85_3 rfl) ?_
                  refine JL.go ⟨_, rfl, hq⟩ (by first | exact RX.load H rfl (i := 0) rfl rfl one4 | exact RX.load H rfl (i := 1) rfl rfl one4 | exact RX.load H rfl (i := 2) rfl rfl one4) ?_
                  refine JL.go ⟨_, rfl, hq⟩ (RX.movev (v := Value.bool _) rfl) ?_
                  refine JL.splitS 62 rfl (fun hn => ?_) (fun hn => ?_)
                  · skip
                    first | have hnp := of_decide_eq_true hn | skip
                    refine JL.no ⟨_, rfl, gno hn⟩ ?_
                    refine JL.no ⟨_, rfl, gno hn⟩ ?_
                    refine JL.no ⟨_, rfl, gno hn⟩ ?_
                    refine JL.go ⟨_, rfl, hq⟩ (RX.pick_t rfl hn) ?_
                    refine JL.go trivial (RX.pick_t rfl hq) ?_
                    refine JL.go trivial (RX.movev (v := Value.bool _) rfl) ?_
                    refine JL.go ⟨_, rfl, rfl⟩ (RX.fieldAddr rfl fo85_4 rfl) ?_
                    refine JL.go ⟨_, rfl, rfl⟩ (by first | exact RX.load H rfl (i := 0) rfl rfl one4 | exact RX.load H rfl (i := 1) rfl rfl one4 | exact RX.load H rfl (i := 2) rfl rfl one4) ?_
                    refine JL.go ⟨_, rfl, rfl⟩ (RX.movev (v := Value.bool _) rfl) ?_
                    refine JL.splitS 71 rfl (fun hk => ?_) (fun hk => ?_)
                    · skip
                      first | have hkp := of_decide_eq_true hk | skip
                      refine JL.no ⟨_, rfl, gno hk⟩ ?_
                      refine JL.no ⟨_, rfl, gno hk⟩ ?_
                      refine JL.no ⟨_, rfl, gno hk⟩ ?_
                      refine JL.go ⟨_, rfl, rfl⟩ (RX.pick_t rfl hk) ?_
                      refine JL.go trivial (RX.pick_t rfl rfl) ?_
                      refine JL.go trivial (RX.assignv (v := Value.bool _) rfl) ?_
                      refine JL.nil ?_
                      exact hk2 _ _ _ ⟨rfl, trivial⟩ ⟨rfl, trivial⟩ ⟨by first | (simp [hq, hn, hm, hk]; done) | (simp [hq, hn, hm]; done) | (simp [hq, hn, hk]; done) | (simp [hq, hn]; done) | (simp [hq]; done), H⟩
                    · skip
                      first | have hkp := of_decide_eq_false hk | skip
                      refine JL.go ⟨_, rfl, hk⟩ (RX.fieldAddr rfl fo26_6 rfl) ?_
                      refine JL.go ⟨_, rfl, hk⟩ (by first | exact RX.load H rfl (i := 0) rfl rfl one3 | exact RX.load H rfl (i := 1) rfl rfl one3 | exact RX.load H rfl (i := 2) rfl rfl one3) ?_
                      refine JL.go ⟨_, rfl, hk⟩ (RX.eq rfl rfl) ?_
                      refine JL.go ⟨_, rfl, rfl⟩ (RX.pick_f rfl hk) ?_
                      refine JL.go trivial (RX.pick_t rfl rfl) ?_
                      refine JL.go trivial (RX.assignv (v := Value.bool _) rfl) ?_
                      refine JL.nil ?_
                      exact hk2 _ _ _ ⟨rfl, trivial⟩ ⟨rfl, trivial⟩ ⟨by first | (simp [hq, hn, hm, hk]; done) | (simp [hq, hn, hm]; done) | (simp [hq, hn, hk]; done) | (simp [hq, hn]; done) | (simp [hq]; done), H⟩
                  · skip
                    first | have hnp := of_decide_eq_false hn | skip
                    refine JL.go ⟨_, rfl, hn⟩ (RX.fieldAddr rfl fo26_5 rfl) ?_
                    refine JL.go ⟨_, rfl, hn⟩ (by first | exact RX.load H rfl (i := 0) rfl rfl one3 | exact RX.load H rfl (i := 1) rfl rfl one3 | exact RX.load H rfl (i := 2) rfl rfl one3) ?_
                    refine JL.go ⟨_, rfl, hn⟩ (RX.eq rfl rfl) ?_
                    refine JL.go ⟨_, rfl, hq⟩ (RX.pick_f rfl hn) ?_
                    refine JL.go trivial (RX.pick_t rfl hq) ?_
                    refine JL.go trivial (RX.movev (v := Value.bool _) rfl) ?_
                    refine JL.splitS 68 rfl (fun hm => ?_) (fun hm => ?_)
                    · skip
                      first | have hmp := of_decide_eq_true hm | skip
                      refine JL.go ⟨_, rfl, hm⟩ (RX.fieldAddr rfl fo85_4 rfl) ?_
                      refine JL.go ⟨_, rfl, hm⟩ (by first | exact RX.load H rfl (i := 0) rfl rfl one4 | exact RX.load H rfl (i := 1) rfl rfl one4 | exact RX.load H rfl (i := 2) rfl rfl one4) ?_
                      refine JL.go ⟨_, rfl, hm⟩ (RX.movev (v := Value.bool _) rfl) ?_
                      refine JL.splitS 71 rfl (fun hk => ?_) (fun hk => ?_)
                      · skip
                        first | have hkp := of_decide_eq_true hk | skip
                        refine JL.no ⟨_, rfl, gno hk⟩ ?_
                        refine JL.no ⟨_, rfl, gno hk⟩ ?_
                        refine JL.no ⟨_, rfl, gno hk⟩ ?_
                        refine JL.go ⟨_, rfl, hm⟩ (RX.pick_t rfl hk) ?_
                        refine JL.go trivial (RX.pick_t rfl hm) ?_
                        refine JL.go trivial (RX.assignv (v := Value.bool _) rfl) ?_
                        refine JL.nil ?_
                        exact hk2 _ _ _ ⟨rfl, trivial⟩ ⟨rfl, trivial⟩ ⟨by first | (simp [hq, hn, hm, hk]; done) | (simp [hq, hn, hm]; done) | (simp [hq, hn, hk]; done) | (simp [hq, hn]; done) | (simp [hq]; done), H⟩
                      · skip
                        first | have hkp := of_decide_eq_false hk | skip
                        refine JL.go ⟨_, rfl, hk⟩ (RX.fieldAddr rfl fo26_6 rfl) ?_
                        refine JL.go ⟨_, rfl, hk⟩ (by first | exact RX.load H rfl (i := 0) rfl rfl one3 | exact RX.load H rfl (i := 1) rfl rfl one3 | exact RX.load H rfl (i := 2) rfl rfl one3) ?_
                        refine JL.go ⟨_, rfl, hk⟩ (RX.eq rfl rfl) ?_
                        refine JL.go ⟨_, rfl, hm⟩ (RX.pick_f rfl hk) ?_
                        refine JL.go trivial (RX.pick_t rfl hm) ?_
                        refine JL.go trivial (RX.assignv (v := Value.bool _) rfl) ?_
                        refine JL.nil ?_
                        exact hk2 _ _ _ ⟨rfl, trivial⟩ ⟨rfl, trivial⟩ ⟨by first | (simp [hq, hn, hm, hk]; done) | (simp [hq, hn, hm]; done) | (simp [hq, hn, hk]; done) | (simp [hq, hn]; done) | (simp [hq]; done), H⟩
                    · skip
                      first | have hmp := of_decide_eq_false hm | skip
                      refine JL.no ⟨_, rfl, gno hm⟩ ?_
                      refine JL.no ⟨_, rfl, gno hm⟩ ?_
                      refine JL.no ⟨_, rfl, gno hm⟩ ?_
                      refine JL.no ⟨_, rfl, nofun⟩ ?_
                      refine JL.no ⟨_, rfl, nofun⟩ ?_
                      refine JL.no ⟨_, rfl, nofun⟩ ?_
                      refine JL.no ⟨_, rfl, gno hm⟩ ?_
                      refine JL.go trivial (RX.pick_f rfl hm) ?_
                      refine JL.go trivial (RX.assignv (v := Value.bool _) rfl) ?_
                      refine JL.nil ?_
                      exact hk2 _ _ _ ⟨rfl, trivial⟩ ⟨rfl, trivial⟩ ⟨by first | (simp [hq, hn, hm, hk]; done) | (simp [hq, hn, hm]; done) | (simp [hq, hn, hk]; done) | (simp [hq, hn]; done) | (simp [hq]; done), H⟩
                · skip
                  first | have hqp := of_decide_eq_false hq | skip
                  refine JL.no ⟨_, rfl, gno hq⟩ ?_
                  refine JL.no ⟨_, rfl, gno hq⟩ ?_
                  refine JL.no ⟨_, rfl, gno hq⟩ ?_
                  refine JL.no ⟨_, rfl, nofun⟩ ?_
                  refine JL.no ⟨_, rfl, nofun⟩ ?_
                  refine JL.no ⟨_, rfl, nofun⟩ ?_
                  refine JL.no ⟨_, rfl, gno hq⟩ ?_
                  refine JL.go trivial (RX.pick_f rfl hq) ?_
                  refine JL.go trivial (RX.movev (v := Value.bool _) rfl) ?_
                  refine JL.no ⟨_, rfl, gno rfl⟩ ?_
                  refine JL.no ⟨_, rfl, gno rfl⟩ ?_
                  refine JL.no ⟨_, rfl, gno rfl⟩ ?_
                  refine JL.no ⟨_, rfl, nofun⟩ ?_
                  refine JL.no ⟨_, rfl, nofun⟩ ?_
                  refine JL.no ⟨_, rfl, nofun⟩ ?_
                  refine JL.no ⟨_, rfl, gno rfl⟩ ?_
                  refine JL.go trivial (RX.pick_f rfl rfl) ?_
                  refine JL.go trivial (RX.assignv (v := Value.bool _) rfl) ?_
                  refine JL.nil ?_
                  exact hk2 _ _ _ ⟨rfl, trivial⟩ ⟨rfl, trivial⟩ ⟨by first | (simp [hq, hn, hm, hk]; done) | (simp [hq, hn, hm]; done) | (simp [hq, hn, hk]; done) | (simp [hq, hn]; done) | (simp [hq]; done), H⟩
              · skip
                clear H
                rintro q3 ρ w ⟨hq3, H⟩
                refine J.seq ?_
                refine J.seq ?_
                refine J.region ?_
                refine JL.go trivial (RX.movev (v := Value.bool _) rfl) ?_
                refine JL.go trivial (RX.not rfl) ?_
                refine JL.nil ?_
                refine J.cond rfl (fun hg => ?_) (fun hg => ?_)
                · skip
                  refine J.seq ?_
                  refine J.region ?_
                  refine JL.go trivial (RX.assign) ?_
                  refine JL.nil ?_
                  refine J.ret1 (v := Value.int _ _) Tryd.func20 rfl rfl ?_
                  have e : formB s = false := by rw [hfr, ← hq2, ← hq3, (by simpa using hg : q3 = false)]; rfl
                  rw [e]; exact ⟨_, rfl, rfl, H.drop.drop⟩
                · skip
                  refine J.skip ?_
                  refine J.seq ?_
                  refine J.region ?_
                  refine JL.go trivial (RX.loadAgg H rfl (i := 1) (vs := s.v) rfl rfl ag26) ?_
                  refine JL.does trivial (EX.call rfl cl37 rfl ((number_b H hs))) ?_
                  rintro _ w ⟨rfl, H⟩
                  refine JL.go trivial (RX.assignv (v := Value.bool _) rfl) ?_
                  refine JL.nil ?_
                  refine J.seq ?_
                  refine J.seq ?_
                  refine J.region ?_
                  refine JL.go trivial (RX.movev (v := Value.bool _) rfl) ?_
                  refine JL.go trivial (RX.not rfl) ?_
                  refine JL.nil ?_
                  refine J.cond rfl (fun hnum => ?_) (fun hnum => ?_)
                  · skip
                    refine J.seq ?_
                    refine J.region ?_
                    refine JL.go trivial (RX.assign) ?_
                    refine JL.nil ?_
                    refine J.ret1 (v := Value.int _ _) Tryd.func20 rfl rfl ?_
                    have e : formB s = false := by rw [hfr, (by simpa using hnum : numB s = false), Bool.and_false]
                    rw [e]; exact ⟨_, rfl, rfl, H.drop.drop⟩
                  · skip
                    refine J.skip ?_
                    refine J.seq ?_
                    refine J.region ?_
                    refine JL.go trivial (RX.assign) ?_
                    refine JL.nil ?_
                    refine J.ret1 (v := Value.int _ _) Tryd.func20 rfl rfl ?_
                    have e : formB s = true := by rw [hfr, ← hq2, ← hq3, (by simpa using hg : q3 = true), (by simpa using hnum : numB s = true)]; rfl
                    rw [e]; exact ⟨_, rfl, rfl, H.drop.drop⟩

def intsV (l : List Int) : List Value := l.map (Value.int .i64)
theorem intsV_app (a b : List Int) : intsV (a ++ b) = intsV a ++ intsV b := by simp [intsV]
theorem intsV_get {l : List Int} {i : Nat} {x : Int} (h : l[i]? = some x) : (intsV l)[i]? = some (.int .i64 x) := by simp [intsV, h]
theorem intsV_len (l : List Int) : (intsV l).length = l.length := by simp [intsV]
def optI (b : Bool) (x : Int) : List Int := if b then [x] else []
def numsOf (s : Stp) : List Int := [s.op, s.dst] ++ optI (rowOf s.op).src s.src ++ optI (rowOf s.op).jump s.jump ++ [s.count] ++ optI (decide (0 < (rowOf s.op).n)) s.n ++ optI (rowOf s.op).k s.k
theorem numsOf_eq (s : Stp) : numsOf s = stpNums s := by
  unfold numsOf stpNums fieldOffs optI
  cases (rowOf s.op).src <;> cases (rowOf s.op).jump <;> cases (rowOf s.op).k <;> by_cases h : 0 < (rowOf s.op).n <;> simp [h, Stp.at_]
theorem elI : Elem Tryd.prog 55 3 1 8 := Elem.of (by kernel_rfl)

theorem encOk_facts {p : Prg} (h : encOk p = true) : p.steps.length ≤ 65536 ∧ (∀ x ∈ p.heads, 0 ≤ x ∧ x ≤ 262144) ∧ ∀ s ∈ p.steps, formB s = true := by
  simp only [encOk, Bool.and_eq_true, List.all_eq_true] at h
  exact ⟨of_decide_eq_true h.1.1, fun x hx => of_decide_eq_true (h.1.2 x hx), h.2⟩
theorem stpNums_bd {s : Stp} (h : formB s = true) : ∀ x ∈ stpNums s, 0 ≤ x ∧ x ≤ 262144 := by
  intro x hx
  rcases List.mem_cons.1 hx with rfl | hx
  · have := form_op h; omega
  · obtain ⟨o, ho, rfl⟩ := List.mem_map.1 hx
    exact at_form h ho
theorem stpNums_len (s : Stp) : (stpNums s).length ≤ 7 := by
  have := fieldOffs_len (rowOf s.op)
  simp only [stpNums, List.length_cons, List.length_map]; omega
theorem app_len (a b : List UInt8) : (a ++ b).length = a.length + b.length := List.length_append
def five (p : Prg) : List Int := p.heads ++ [(p.steps.length : Int)]
theorem vints_five (p : Prg) : vints (five p) = vints p.heads ++ varint p.steps.length := by
  rw [five, vints_app, vints_one]; rfl
theorem vints_take {l : List Int} (h : ∀ x ∈ l, 0 ≤ x ∧ x ≤ 262144) (i : Nat) : (vints (l.take i)).length ≤ l.length * 10 := by
  have h1 := vints_len (l := l.take i) (fun x hx => (h x (List.mem_of_mem_take hx)).2)
  have h2 : (l.take i).length ≤ l.length := by simp [List.length_take]; omega
  omega

end Go.Proofs.YtgkmmbdlclecnaaDoor

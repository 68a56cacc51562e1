/- Part 12 of the proof that WholeSmall holds: what the functions on its way do, step by step. -/
import Derived.Test.YtfaokllgaambjaaGreatDoorZ1
import Derived.Test.YtfaokllgaambjaaGreatDoorZ2
import Derived.Test.YtfaokllgaambjaaGreatDoorZ4
import Derived.Test.YtfaokllgaambjaaGreatDoorZ5
import Derived.Test.YtfaokllgaambjaaGreatDoorZ7
import Derived.Test.YtfaokllgaambjaaGreatDoorZ9
import Derived.Test.YtfaokllgaambjaaGreatDoorZ10
import Derived.Test.YtfaokllgaambjaaGreatDoorZ11
set_option linter.unusedVariables false
set_option linter.unusedSimpArgs false
namespace Go.Proofs.YtfaokllgaambjaaGreatDoor
open Go Go.Eng
set_option maxRecDepth 100000
set_option maxHeartbeats 1600000
theorem ag236 : aggOf Tryz.prog 236 = some 5 := by kernel_rfl
theorem ar237 : arrayOf Tryz.prog 237 = some (12, 236, 5) := by kernel_rfl
theorem cl151 : callable Tryz.prog 151 = true := by kernel_rfl
theorem cl152 : callable Tryz.prog 152 = true := by kernel_rfl
theorem cl153 : callable Tryz.prog 153 = true := by kernel_rfl
theorem cl154 : callable Tryz.prog 154 = true := by kernel_rfl
theorem cl155 : callable Tryz.prog 155 = true := by kernel_rfl
theorem cl156 : callable Tryz.prog 156 = true := by kernel_rfl
theorem cl175 : callable Tryz.prog 175 = true := by kernel_rfl
theorem cl176 : callable Tryz.prog 176 = true := by kernel_rfl
theorem fo236_0 : fieldOff Tryz.prog 236 0 = some 0 := by kernel_rfl
theorem fo236_1 : fieldOff Tryz.prog 236 1 = some 1 := by kernel_rfl
theorem fo236_2 : fieldOff Tryz.prog 236 2 = some 2 := by kernel_rfl
theorem fo236_3 : fieldOff Tryz.prog 236 3 = some 3 := by kernel_rfl
theorem fo236_4 : fieldOff Tryz.prog 236 4 = some 4 := by kernel_rfl
theorem fo74_1 : fieldOff Tryz.prog 74 1 = some 1 := by kernel_rfl
theorem ki3 : kindOf Tryz.prog 3 = some .i64 := by kernel_rfl
theorem one217 : oneOf Tryz.prog 217 = true := by kernel_rfl
theorem one9 : oneOf Tryz.prog 9 = true := by kernel_rfl
theorem sl214 : sliceOf Tryz.prog 214 = some (217, 1) := by kernel_rfl
theorem sz236 : szOf Tryz.prog 236 = some 5 := by kernel_rfl
theorem zr236 : (Tryz.prog.info? 236).bind (·.zero) = some (.agg #[.string ⟨#[]⟩, .bool false, .bool false, .int .i64 0, .bool false]) := by kernel_rfl
structure Stp where
  op : Int
  dst : Int
  src : Int
  jump : Int
  count : Int
  n : Int
  k : Int
  deriving DecidableEq
def Stp.v (s : Stp) : List Value := [.int .i64 s.op, .int .i64 s.dst, .int .i64 s.src, .int .i64 s.jump, .int .i64 s.count, .int .i64 s.n, .int .i64 s.k]
def i64ok (x : Int) : Prop := -9223372036854775808 ≤ x ∧ x ≤ 9223372036854775807
structure Stp.Ok (s : Stp) : Prop where
  op : i64ok s.op
  dst : i64ok s.dst
  src : i64ok s.src
  jump : i64ok s.jump
  count : i64ok s.count
  n : i64ok s.n
  k : i64ok s.k
def stepsV (l : List Stp) : List Value := (l.map Stp.v).flatten
theorem stepsV_len (l : List Stp) : (stepsV l).length = l.length * 7 := by
 induction l with
 | nil => rfl
 | cons a l ih => simp only [stepsV, List.map_cons, List.flatten_cons, List.length_append, List.length_cons] at ih ⊢; rw [ih]; simp [Stp.v]; omega
theorem stepsV_cons (a : Stp) (l : List Stp) : stepsV (a :: l) = a.v ++ stepsV l := rfl
theorem stepsV_read : ∀ (l : List Stp) (i : Nat) (s : Stp), l[i]? = some s → readN (stepsV l) (i * 7) 7 = some s.v := by
 intro l
 induction l with
 | nil => intro i s h; simp at h
 | cons a l ih =>
   intro i s h
   cases i with
   | zero =>
     have : a = s := by simpa using h
     subst this
     simp [readN, stepsV_cons, Stp.v]
   | succ i =>
     have := ih i s (by simpa using h)
     unfold readN at this ⊢
     rw [stepsV_cons, show (i + 1) * 7 = a.v.length + i * 7 by simp [Stp.v]; omega, ← List.drop_drop, List.drop_left]
     exact this
theorem readN_get {l r : List Value} {o n i : Nat} (h : readN l o n = some r) (hi : i < n) : l[o + i]? = r[i]? := by
 unfold readN at h
 simp only at h
 split at h
 · rename_i hl
   have := Option.some.inj h
   subst this
   rw [List.getElem?_take, if_pos hi, List.getElem?_drop]
 · cases h
structure Row where
  nm : ByteArray
  src : Bool
  jump : Bool
  n : Int
  k : Bool
def Row.v (r : Row) : List Value := [.string r.nm, .bool r.src, .bool r.jump, .int .i64 r.n, .bool r.k]
def row0 : Row := ⟨⟨#[]⟩, false, false, 0, false⟩
def rows : List Row := [row0,
  ⟨⟨#[103, 97, 116, 104, 101, 114]⟩, true, true, 0, false⟩,
  ⟨⟨#[115, 99, 97, 116, 116, 101, 114]⟩, true, true, 0, false⟩,
  ⟨⟨#[122, 101, 114, 111]⟩, false, false, 0, false⟩,
  ⟨⟨#[116, 119, 105, 115, 116]⟩, false, false, 16384, true⟩,
  ⟨⟨#[102, 108, 121]⟩, false, true, 5, false⟩,
  ⟨⟨#[100, 105, 114, 101, 99, 116]⟩, true, true, 64, false⟩,
  ⟨⟨#[99, 104, 105, 114, 112]⟩, false, false, 16384, false⟩,
  ⟨⟨#[102, 105, 108, 108]⟩, false, false, 16384, false⟩,
  ⟨⟨#[116, 105, 109, 101, 115]⟩, true, false, 0, false⟩,
  ⟨⟨#[99, 111, 110, 106]⟩, false, false, 0, false⟩,
  ⟨⟨#[111, 118, 101, 114]⟩, false, false, 16384, false⟩]
def rowOf (op : Int) : Row := (rows[op.toNat]?).getD row0
def tableC : List Value := (rows.map Row.v).flatten
theorem op_cases {op : Int} (h0 : 1 ≤ op) (h1 : op ≤ 11) : op = 1 ∨ op = 2 ∨ op = 3 ∨ op = 4 ∨ op = 5 ∨ op = 6 ∨ op = 7 ∨ op = 8 ∨ op = 9 ∨ op = 10 ∨ op = 11 := by omega
theorem table_read {op : Int} (h0 : 0 ≤ op) (h1 : op ≤ 11) : readN tableC (op.toNat * 5) 5 = some (rowOf op).v := by
 have : op = 0 ∨ op = 1 ∨ op = 2 ∨ op = 3 ∨ op = 4 ∨ op = 5 ∨ op = 6 ∨ op = 7 ∨ op = 8 ∨ op = 9 ∨ op = 10 ∨ op = 11 := by omega
 rcases this with rfl | rfl | rfl | rfl | rfl | rfl | rfl | rfl | rfl | rfl | rfl | rfl <;> rfl
theorem row_cell (r : Row) : ∀ v ∈ r.v, isCell v = true := by
 intro v hv
 simp [Row.v] at hv
 rcases hv with rfl | rfl | rfl | rfl | rfl <;> rfl
def fromB (has : Bool) (x lo hi : Int) : Bool := if has then decide (lo ≤ x ∧ x ≤ hi) else decide (x = 0)
def opOk (op : Int) : Bool := decide (1 ≤ op ∧ op ≤ 11)
def tailB (s : Stp) : Bool :=
  if s.op = 5 then decide (s.count ≤ s.jump) else if s.op = 6 then decide (s.count ≤ s.n) else if s.op = 7 then decide (s.count ≤ s.n)
  else if s.op = 8 then decide (2 * s.n - 1 ≤ s.count ∧ s.count ≤ 16384) else true
def formB (s : Stp) : Bool :=
  opOk s.op && (fromB true s.dst 0 262143 && fromB true s.count 1 262144 && fromB (rowOf s.op).src s.src 0 262143 && fromB (rowOf s.op).jump s.jump 1 262144 &&
    fromB (decide (0 < (rowOf s.op).n)) s.n (if s.op = 5 then 2 else 1) (rowOf s.op).n && fromB (rowOf s.op).k s.k 0 (s.n - 1)) && tailB s
theorem row_n {op : Int} (h0 : 1 ≤ op) (h1 : op ≤ 11) : 0 ≤ (rowOf op).n ∧ (rowOf op).n ≤ 16384 := by
 rcases op_cases h0 h1 with rfl | rfl | rfl | rfl | rfl | rfl | rfl | rfl | rfl | rfl | rfl <;> decide
theorem fromB_n {h : Bool} {x lo hi : Int} (hb : fromB h x lo hi = true) (hlo : 0 ≤ lo) (hhi : hi ≤ 16384) : 0 ≤ x ∧ x ≤ 16384 := by
 unfold fromB at hb
 split at hb
 · have := of_decide_eq_true hb; omega
 · have := of_decide_eq_true hb; omega
def nameV (op : Int) : List Value := if opOk op then [.string (rowOf op).nm, .bool true] else [.string ⟨#[]⟩, .bool false]
theorem from_b {w0 w : World} {F : List Seg} (H : Hp w0 w F) {has : Bool} {x lo hi : Int} : Ret Tryz.prog 176 [.bool has, .int .i64 x, .int .i64 lo, .int .i64 hi] w fun v w' => v = .bool (fromB has x lo hi) ∧ Hp w0 w' F := by
 refine Calls.of_J (n := 21) Tryz.func176 rfl rfl rfl (J.seq (J.region (JL.g (RX.assign) (JL.nil (J.seq (J.seq (J.region (JL.mb rfl (JL.g (RX.not rfl) (JL.nil (J.cond rfl (fun hh => ?_) (fun hh => ?_))))))))))))
 ·
  refine J.seq (J.region (JL.mi rfl (JL.g (RX.eq rfl rfl) (JL.ab rfl (JL.nil (J.ret1 (v := .bool _) Tryz.func176 rfl rfl ?_))))))
  exact ⟨_, rfl, by cases has <;> simp_all [fromB] <;> omega, H⟩
 ·
  refine J.skip (J.seq (J.region (JL.mi rfl (JL.mi rfl (JL.g (RX.ge rfl rfl) (JL.mb rfl (JL.splitS 16 rfl (fun h2 => ?_) (fun h2 => ?_))))))))
  ·
   first | have h2p := of_decide_eq_true h2 | skip
   refine JL.go ⟨_, rfl, h2⟩ (RX.movev (v := .int _ _) rfl) (JL.go ⟨_, rfl, h2⟩ (RX.movev (v := .int _ _) rfl) (JL.go ⟨_, rfl, h2⟩ (RX.le rfl rfl) (JL.g (RX.pick_t rfl h2) (JL.ab rfl (JL.nil (J.ret1 (v := .bool _) Tryz.func176 rfl rfl ?_))))))
   exact ⟨_, rfl, by cases has <;> simp_all [fromB] <;> omega, H⟩
  ·
   first | have h2p := of_decide_eq_false h2 | skip
   refine JL.no ⟨_, rfl, gno h2⟩ (JL.no ⟨_, rfl, gno h2⟩ (JL.no ⟨_, rfl, gno h2⟩ (JL.g (RX.pick_f rfl h2) (JL.ab rfl (JL.nil (J.ret1 (v := .bool _) Tryz.func176 rfl rfl ?_))))))
   exact ⟨_, rfl, by cases has <;> simp_all [fromB] <;> omega, H⟩
theorem name_b {w0 w : World} {F : List Seg} (H : Hp w0 w F) (hT : SlAt F (some ⟨12, 0, none⟩) tableC) {op : Int} : Ret Tryz.prog 175 [.int .i64 op] w fun v w' => v = .tuple (nameV op).toArray ∧ Hp w0 w' F := by
 refine Calls.of_J (n := 14) Tryz.func175 rfl rfl rfl (J.seq (J.region (JL.g (RX.assign) (JL.g (RX.assign) (JL.nil (J.seq (J.seq (J.region (JL.mi rfl (JL.g (RX.lt rfl rfl) (JL.mb rfl (JL.splitS 6 rfl (fun h1 => ?_) (fun h1 => ?_)))))))))))))
 ·
  first | have h1p := of_decide_eq_true h1 | skip
  refine JL.no ⟨_, rfl, gno h1⟩ (JL.no ⟨_, rfl, gno h1⟩ (JL.g (RX.pick_t rfl h1) (JL.nil (J.cond_t rfl rfl (J.seq (J.region (JL.g (RX.assign) (JL.g (RX.assign) (JL.nil (J.ret2 (v := .string _) (x := Value.bool _) Tryz.func175 rfl rfl rfl ?_))))))))))
  have e : opOk op = false := decide_eq_false (by omega)
  exact ⟨_, rfl, by simp only [nameV, e]; rfl, H⟩
 ·
  first | have h1p := of_decide_eq_false h1 | skip
  refine JL.go ⟨_, rfl, h1⟩ (RX.movev (v := .int _ _) rfl) (JL.go ⟨_, rfl, h1⟩ (RX.gt rfl rfl) (JL.g (RX.pick_f rfl h1) (JL.nil (J.cond_d rfl (fun h9 => ?_) (fun h9 => ?_)))))
  ·
   refine J.seq (J.region (JL.g (RX.assign) (JL.g (RX.assign) (JL.nil (J.ret2 (v := .string _) (x := Value.bool _) Tryz.func175 rfl rfl rfl ?_)))))
   have e : opOk op = false := decide_eq_false (by omega)
   exact ⟨_, rfl, by simp only [nameV, e]; rfl, H⟩
  ·
   refine J.skip (J.seq (J.region ?_))
   have hrow := table_read (op := op) (by omega) (by omega)
   refine JL.mi rfl (JL.g (RX.indexArr rfl rfl ar237 (by omega) (by omega) rfl) (JL.g (RX.fieldAddr rfl fo236_0 rfl) (JL.g (RX.loadS H hT rfl (j := op.toNat * 5) (by omega) ((readN_get (i := 0) hrow (by decide)).trans rfl) one9) (JL.g (RX.assignv (v := .string _) rfl) (JL.g (RX.assign) (JL.nil (J.ret2 (v := .string _) (x := Value.bool _) Tryz.func175 rfl rfl rfl ?_)))))))
   have e : opOk op = true := decide_eq_true (by omega)
   exact ⟨_, rfl, by simp only [nameV, e]; rfl, H⟩
theorem form_b {w0 w : World} {F : List Seg} (H : Hp w0 w F) (hT : SlAt F (some ⟨12, 0, none⟩) tableC) {s : Stp} (hs : s.Ok) : Ret Tryz.prog 154 [.agg s.v.toArray] w fun v w' => v = .bool (formB s) ∧ Hp w0 w' F := by
 refine Calls.of_J (n := 99) Tryz.func154 rfl rfl rfl (J.seq (J.region (JL.e (EX.box (v := .agg _) H rfl rfl) ?_)))
 rintro _ w ⟨b1, rfl, H⟩
 refine JL.g (RX.assign) (JL.nil (J.seq (J.seq (J.region (JL.g (RX.fieldAddr rfl fo178_0 rfl) (JL.g (RX.load H rfl (i := 0) rfl rfl one3) (JL.e (EX.call rfl cl175 rfl (name_b H hT.cons)) ?_)))))))
 rintro _ w ⟨rfl, H⟩
 generalize hnv : nameV s.op = nv
 refine JL.g (RX.movev (v := .tuple _) rfl) (JL.g (RX.extract (vs := nv) (v := .string (if opOk s.op then (rowOf s.op).nm else ⟨#[]⟩)) rfl (by subst hnv; unfold nameV; split <;> rfl)) ?_)
 refine JL.g (RX.extract (vs := nv) (v := .bool (opOk s.op)) rfl (by subst hnv; unfold nameV; split <;> simp_all)) ?_
 refine JL.g (RX.assignv (v := .string _) rfl) (JL.ab rfl (JL.nil (J.seq (J.region (JL.mb rfl (JL.g (RX.not rfl) (JL.nil (J.cond rfl (fun hop => ?_) (fun hop => ?_)))))))))
 ·
  refine J.seq (J.region (JL.g (RX.assign) (JL.nil (J.ret1 (v := .bool _) Tryz.func154 rfl rfl ?_))))
  exact ⟨_, rfl, by simp_all [formB], by exact H.drop⟩
 ·
  refine J.skip (J.seq (J.region ?_))
  have hop2 : opOk s.op = true := by simpa using hop
  have hop3 := of_decide_eq_true hop2
  have hrow := table_read (op := s.op) (by omega) (by omega)
  have hrn := row_n hop3.1 hop3.2
  refine JL.g (RX.fieldAddr rfl fo178_0 rfl) (JL.g (RX.load H rfl (i := 0) rfl rfl one3) (JL.g (RX.indexArr rfl rfl ar237 (by omega) (by omega) rfl) (JL.g (RX.loadAggS H hT.cons rfl (j := s.op.toNat * 5) (by omega) hrow ag236) (JL.e (EX.alloc H zr236 rfl) ?_))))
  rintro _ w ⟨b2, rfl, H⟩
  refine JL.e (EX.storeAgg H rfl rfl (i := 0) rfl (row_cell _) (by simp [Row.v]) sz236 rfl rfl) ?_
  rintro _ w H
  refine JL.nil (J.seq (J.region (JL.g (RX.assign) (JL.nil (J.seq (J.seq (J.region (JL.g (RX.fieldAddr rfl fo178_0 rfl) (JL.g (RX.load H rfl (i := 1) rfl rfl one3) (JL.g (RX.eq rfl rfl) (JL.nil (J.cond_d rfl (fun h5 => ?_) (fun h5 => ?_)))))))))))))
  ·
   refine J.region (JL.g (RX.assign) (JL.nil (J.seq (J.region (JL.g (RX.fieldAddr rfl fo178_1 rfl) (JL.g (RX.load H rfl (i := 1) rfl rfl one3) (JL.e (EX.call rfl cl176 rfl ((from_b H))) ?_)))))))
   rintro _ w ⟨rfl, H⟩
   refine JL.mb rfl (JL.splitS 26 rfl (fun h3 => ?_) (fun h3 => ?_))
   ·
    first | have h3p := of_decide_eq_true h3 | skip
    refine JL.go ⟨_, rfl, h3⟩ (RX.fieldAddr rfl fo178_4 rfl) (JL.go ⟨_, rfl, h3⟩ (RX.load H rfl (i := 1) rfl rfl one3) (JL.does ⟨_, rfl, h3⟩ (EX.call rfl cl176 rfl ((from_b H))) ?_))
    rintro _ w ⟨rfl, H⟩
    refine JL.g (RX.pick_t rfl h3) (JL.mb rfl (JL.splitS 31 rfl (fun h4 => ?_) (fun h4 => ?_)))
    ·
     first | have h4p := of_decide_eq_true h4 | skip
     refine JL.go ⟨_, rfl, h4⟩ (RX.fieldAddr rfl fo236_1 rfl) (JL.go ⟨_, rfl, h4⟩ (RX.load H rfl (i := 0) rfl rfl one4) (JL.go ⟨_, rfl, h4⟩ (RX.fieldAddr rfl fo178_2 rfl) (JL.go ⟨_, rfl, h4⟩ (RX.load H rfl (i := 1) rfl rfl one3) (JL.does ⟨_, rfl, h4⟩ (EX.call rfl cl176 rfl ((from_b H))) ?_))))
     rintro _ w ⟨rfl, H⟩
     refine JL.g (RX.pick_t rfl h4) (JL.mb rfl (JL.splitS 38 rfl (fun h5 => ?_) (fun h5 => ?_)))
     ·
      first | have h5p := of_decide_eq_true h5 | skip
      refine JL.go ⟨_, rfl, h5⟩ (RX.fieldAddr rfl fo236_2 rfl) (JL.go ⟨_, rfl, h5⟩ (RX.load H rfl (i := 0) rfl rfl one4) (JL.go ⟨_, rfl, h5⟩ (RX.fieldAddr rfl fo178_3 rfl) (JL.go ⟨_, rfl, h5⟩ (RX.load H rfl (i := 1) rfl rfl one3) (JL.does ⟨_, rfl, h5⟩ (EX.call rfl cl176 rfl ((from_b H))) ?_))))
      rintro _ w ⟨rfl, H⟩
      refine JL.g (RX.pick_t rfl h5) (JL.mb rfl (JL.splitS 45 rfl (fun h6 => ?_) (fun h6 => ?_)))
      ·
       first | have h6p := of_decide_eq_true h6 | skip
       refine JL.go ⟨_, rfl, h6⟩ (RX.fieldAddr rfl fo236_3 rfl) (JL.go ⟨_, rfl, h6⟩ (RX.load H rfl (i := 0) rfl rfl one3) (JL.go ⟨_, rfl, h6⟩ (RX.gt rfl rfl) (JL.go ⟨_, rfl, h6⟩ (RX.fieldAddr rfl fo178_5 rfl) (JL.go ⟨_, rfl, h6⟩ (RX.load H rfl (i := 1) rfl rfl one3) (JL.go ⟨_, rfl, h6⟩ (RX.movev (v := .int _ _) rfl) (JL.go ⟨_, rfl, h6⟩ (RX.fieldAddr rfl fo236_3 rfl) (JL.go ⟨_, rfl, h6⟩ (RX.load H rfl (i := 0) rfl rfl one3) (JL.does ⟨_, rfl, h6⟩ (EX.call rfl cl176 rfl ((from_b H))) ?_))))))))
       rintro _ w ⟨rfl, H⟩
       refine JL.g (RX.pick_t rfl h6) (JL.mb rfl (JL.splitS 56 rfl (fun hn => ?_) (fun hn => ?_)))
       ·
        first | have hnp := of_decide_eq_true hn | skip
        have hnb := fromB_n hn (by omega) (by omega)
        refine JL.go ⟨_, rfl, hn⟩ (RX.fieldAddr rfl fo236_4 rfl) (JL.go ⟨_, rfl, hn⟩ (RX.load H rfl (i := 0) rfl rfl one4) (JL.go ⟨_, rfl, hn⟩ (RX.fieldAddr rfl fo178_6 rfl) (JL.go ⟨_, rfl, hn⟩ (RX.load H rfl (i := 1) rfl rfl one3) (JL.go ⟨_, rfl, hn⟩ (RX.fieldAddr rfl fo178_5 rfl) (JL.go ⟨_, rfl, hn⟩ (RX.load H rfl (i := 1) rfl rfl one3) (JL.go ⟨_, rfl, hn⟩ (RX.sub rfl rfl (w_i64 rfl (by omega) (by omega))) (JL.does ⟨_, rfl, hn⟩ (EX.call rfl cl176 rfl ((from_b H))) ?_)))))))
        rintro _ w ⟨rfl, H⟩
        refine JL.g (RX.pick_t rfl hn) (JL.ab rfl (JL.nil (J.seq (J.seq (J.region (JL.mb rfl (JL.g (RX.not rfl) (JL.nil (J.cond rfl (fun hok => ?_) (fun hok => ?_))))))))))
        ·
         refine J.seq (J.region (JL.g (RX.assign) (JL.nil (J.ret1 (v := .bool _) Tryz.func154 rfl rfl ?_))))
         exact ⟨_, rfl, by (simp_all [formB, tailB]; try omega), H.drop.drop⟩
        ·
         refine J.skip (J.seq (J.seq (J.region (JL.g (RX.fieldAddr rfl fo178_0 rfl) (JL.g (RX.load H rfl (i := 1) rfl rfl one3) (JL.nil (J.block (J.seq (J.region (JL.g (RX.eq rfl rfl) (JL.ab rfl (JL.nil (J.cond_d rfl (fun h5b => ?_) (fun h5b => ?_))))))))))))))
         ·
          refine J.seq (J.region (JL.g (RX.fieldAddr rfl fo178_4 rfl) (JL.g (RX.load H rfl (i := 1) rfl rfl one3) (JL.g (RX.fieldAddr rfl fo178_3 rfl) (JL.g (RX.load H rfl (i := 1) rfl rfl one3) (JL.g (RX.le rfl rfl) (JL.ab rfl (JL.nil (J.ret1 (v := .bool _) Tryz.func154 rfl rfl ?_)))))))))
          exact ⟨_, rfl, by (simp_all [formB, tailB]; try omega), H.drop.drop⟩
         ·
          refine J.seq (J.seq (J.region (JL.g (RX.eq rfl rfl) (JL.ab rfl (JL.nil (J.cond_d rfl (fun h6 => ?_) (fun h6 => ?_)))))))
          ·
           refine J.skip (J.cond_t rfl (decide_eq_true h6) (J.seq (J.region (JL.g (RX.fieldAddr rfl fo178_4 rfl) (JL.g (RX.load H rfl (i := 1) rfl rfl one3) (JL.g (RX.fieldAddr rfl fo178_5 rfl) (JL.g (RX.load H rfl (i := 1) rfl rfl one3) (JL.g (RX.le rfl rfl) (JL.ab rfl (JL.nil (J.ret1 (v := .bool _) Tryz.func154 rfl rfl ?_)))))))))))
           exact ⟨_, rfl, by (simp_all [formB, tailB]; try omega), H.drop.drop⟩
          ·
           refine J.region (JL.g (RX.eq rfl rfl) (JL.ab rfl (JL.nil (J.cond_d rfl (fun h6 => ?_) (fun h6 => ?_)))))
           ·
            refine J.seq (J.region (JL.g (RX.fieldAddr rfl fo178_4 rfl) (JL.g (RX.load H rfl (i := 1) rfl rfl one3) (JL.g (RX.fieldAddr rfl fo178_5 rfl) (JL.g (RX.load H rfl (i := 1) rfl rfl one3) (JL.g (RX.le rfl rfl) (JL.ab rfl (JL.nil (J.ret1 (v := .bool _) Tryz.func154 rfl rfl ?_)))))))))
            exact ⟨_, rfl, by (simp_all [formB, tailB]; try omega), H.drop.drop⟩
           ·
            refine J.seq (J.region (JL.g (RX.eq rfl rfl) (JL.ab rfl (JL.nil (J.cond_d rfl (fun h8 => ?_) (fun h8 => ?_))))))
            ·
             refine J.seq (J.region (JL.g (RX.fieldAddr rfl fo178_4 rfl) (JL.g (RX.load H rfl (i := 1) rfl rfl one3) (JL.g (RX.fieldAddr rfl fo178_5 rfl) (JL.g (RX.load H rfl (i := 1) rfl rfl one3) (JL.g (RX.mul rfl rfl (w_i64 rfl (by omega) (by omega))) (JL.g (RX.sub rfl rfl (w_i64 rfl (by omega) (by omega))) (JL.g (RX.ge rfl rfl) (JL.mb rfl (JL.splitS 94 rfl (fun h13 => ?_) (fun h13 => ?_)))))))))))
             ·
              first | have h13p := of_decide_eq_true h13 | skip
              refine JL.go ⟨_, rfl, h13⟩ (RX.fieldAddr rfl fo178_4 rfl) (JL.go ⟨_, rfl, h13⟩ (RX.load H rfl (i := 1) rfl rfl one3) (JL.go ⟨_, rfl, h13⟩ (RX.le rfl rfl) (JL.g (RX.pick_t rfl h13) (JL.ab rfl (JL.nil (J.ret1 (v := .bool _) Tryz.func154 rfl rfl ?_))))))
              exact ⟨_, rfl, by (simp_all [formB, tailB]; try omega), H.drop.drop⟩
             ·
              first | have h13p := of_decide_eq_false h13 | skip
              refine JL.no ⟨_, rfl, gno h13⟩ (JL.no ⟨_, rfl, gno h13⟩ (JL.no ⟨_, rfl, gno h13⟩ (JL.g (RX.pick_f rfl h13) (JL.ab rfl (JL.nil (J.ret1 (v := .bool _) Tryz.func154 rfl rfl ?_))))))
              exact ⟨_, rfl, by (simp_all [formB, tailB]; try omega), H.drop.drop⟩
            ·
             refine J.skip (J.inBlock (J.seq (J.region (JL.g (RX.assign) (JL.nil (J.ret1 (v := .bool _) Tryz.func154 rfl rfl ?_))))))
             exact ⟨_, rfl, by (simp_all [formB, tailB]; try omega), H.drop.drop⟩
       ·
        first | have hnp := of_decide_eq_false hn | skip
        refine JL.no ⟨_, rfl, gno hn⟩ (JL.no ⟨_, rfl, gno hn⟩ (JL.no ⟨_, rfl, gno hn⟩ (JL.no ⟨_, rfl, gno hn⟩ (JL.no ⟨_, rfl, gno hn⟩ (JL.no ⟨_, rfl, gno hn⟩ (JL.no ⟨_, rfl, gno hn⟩ (JL.no ⟨_, rfl, gno hn⟩ (JL.g (RX.pick_f rfl hn) (JL.ab rfl (JL.nil (J.seq (J.seq (J.region (JL.mb rfl (JL.g (RX.not rfl) (JL.nil (J.cond_t rfl rfl (J.seq (J.region (JL.g (RX.assign) (JL.nil (J.ret1 (v := .bool _) Tryz.func154 rfl rfl ?_))))))))))))))))))))))
        exact ⟨_, rfl, by (simp_all [formB, tailB]; try omega), H.drop.drop⟩
      ·
       first | have h6p := of_decide_eq_false h6 | skip
       refine JL.no ⟨_, rfl, gno h6⟩ (JL.no ⟨_, rfl, gno h6⟩ (JL.no ⟨_, rfl, gno h6⟩ (JL.no ⟨_, rfl, gno h6⟩ (JL.no ⟨_, rfl, gno h6⟩ (JL.no ⟨_, rfl, gno h6⟩ (JL.no ⟨_, rfl, gno h6⟩ (JL.no ⟨_, rfl, gno h6⟩ (JL.no ⟨_, rfl, gno h6⟩ (JL.g (RX.pick_f rfl h6) (JL.mb rfl (JL.no ⟨_, rfl, gno rfl⟩ (JL.no ⟨_, rfl, gno rfl⟩ (JL.no ⟨_, rfl, gno rfl⟩ (JL.no ⟨_, rfl, gno rfl⟩ (JL.no ⟨_, rfl, gno rfl⟩ (JL.no ⟨_, rfl, gno rfl⟩ (JL.no ⟨_, rfl, gno rfl⟩ (JL.no ⟨_, rfl, gno rfl⟩ (JL.g (RX.pick_f rfl rfl) (JL.ab rfl (JL.nil (J.seq (J.seq (J.region (JL.mb rfl (JL.g (RX.not rfl) (JL.nil (J.cond_t rfl rfl (J.seq (J.region (JL.g (RX.assign) (JL.nil (J.ret1 (v := .bool _) Tryz.func154 rfl rfl ?_)))))))))))))))))))))))))))))))))
       exact ⟨_, rfl, by (simp_all [formB, tailB]; try omega), H.drop.drop⟩
     ·
      first | have h5p := of_decide_eq_false h5 | skip
      refine JL.no ⟨_, rfl, gno h5⟩ (JL.no ⟨_, rfl, gno h5⟩ (JL.no ⟨_, rfl, gno h5⟩ (JL.no ⟨_, rfl, gno h5⟩ (JL.no ⟨_, rfl, gno h5⟩ (JL.g (RX.pick_f rfl h5) (JL.mb rfl (JL.no ⟨_, rfl, gno rfl⟩ (JL.no ⟨_, rfl, gno rfl⟩ (JL.no ⟨_, rfl, gno rfl⟩ (JL.no ⟨_, rfl, gno rfl⟩ (JL.no ⟨_, rfl, gno rfl⟩ (JL.no ⟨_, rfl, gno rfl⟩ (JL.no ⟨_, rfl, gno rfl⟩ (JL.no ⟨_, rfl, gno rfl⟩ (JL.no ⟨_, rfl, gno rfl⟩ (JL.g (RX.pick_f rfl rfl) (JL.mb rfl (JL.no ⟨_, rfl, gno rfl⟩ (JL.no ⟨_, rfl, gno rfl⟩ (JL.no ⟨_, rfl, gno rfl⟩ (JL.no ⟨_, rfl, gno rfl⟩ (JL.no ⟨_, rfl, gno rfl⟩ (JL.no ⟨_, rfl, gno rfl⟩ (JL.no ⟨_, rfl, gno rfl⟩ (JL.no ⟨_, rfl, gno rfl⟩ (JL.g (RX.pick_f rfl rfl) (JL.ab rfl (JL.nil (J.seq (J.seq (J.region (JL.mb rfl (JL.g (RX.not rfl) (JL.nil (J.cond_t rfl rfl (J.seq (J.region (JL.g (RX.assign) (JL.nil (J.ret1 (v := .bool _) Tryz.func154 rfl rfl ?_))))))))))))))))))))))))))))))))))))))))
      exact ⟨_, rfl, by (simp_all [formB, tailB]; try omega), H.drop.drop⟩
    ·
     first | have h4p := of_decide_eq_false h4 | skip
     refine JL.no ⟨_, rfl, gno h4⟩ (JL.no ⟨_, rfl, gno h4⟩ (JL.no ⟨_, rfl, gno h4⟩ (JL.no ⟨_, rfl, gno h4⟩ (JL.no ⟨_, rfl, gno h4⟩ (JL.g (RX.pick_f rfl h4) (JL.mb rfl (JL.no ⟨_, rfl, gno rfl⟩ (JL.no ⟨_, rfl, gno rfl⟩ (JL.no ⟨_, rfl, gno rfl⟩ (JL.no ⟨_, rfl, gno rfl⟩ (JL.no ⟨_, rfl, gno rfl⟩ (JL.g (RX.pick_f rfl rfl) (JL.mb rfl (JL.no ⟨_, rfl, gno rfl⟩ (JL.no ⟨_, rfl, gno rfl⟩ (JL.no ⟨_, rfl, gno rfl⟩ (JL.no ⟨_, rfl, gno rfl⟩ (JL.no ⟨_, rfl, gno rfl⟩ (JL.no ⟨_, rfl, gno rfl⟩ (JL.no ⟨_, rfl, gno rfl⟩ (JL.no ⟨_, rfl, gno rfl⟩ (JL.no ⟨_, rfl, gno rfl⟩ (JL.g (RX.pick_f rfl rfl) (JL.mb rfl (JL.no ⟨_, rfl, gno rfl⟩ (JL.no ⟨_, rfl, gno rfl⟩ (JL.no ⟨_, rfl, gno rfl⟩ (JL.no ⟨_, rfl, gno rfl⟩ (JL.no ⟨_, rfl, gno rfl⟩ (JL.no ⟨_, rfl, gno rfl⟩ (JL.no ⟨_, rfl, gno rfl⟩ (JL.no ⟨_, rfl, gno rfl⟩ (JL.g (RX.pick_f rfl rfl) (JL.ab rfl (JL.nil (J.seq (J.seq (J.region (JL.mb rfl (JL.g (RX.not rfl) (JL.nil (J.cond_t rfl rfl (J.seq (J.region (JL.g (RX.assign) (JL.nil (J.ret1 (v := .bool _) Tryz.func154 rfl rfl ?_)))))))))))))))))))))))))))))))))))))))))))))))
     exact ⟨_, rfl, by (simp_all [formB, tailB]; try omega), H.drop.drop⟩
   ·
    first | have h3p := of_decide_eq_false h3 | skip
    refine JL.no ⟨_, rfl, gno h3⟩ (JL.no ⟨_, rfl, gno h3⟩ (JL.no ⟨_, rfl, gno h3⟩ (JL.g (RX.pick_f rfl h3) (JL.mb rfl (JL.no ⟨_, rfl, gno rfl⟩ (JL.no ⟨_, rfl, gno rfl⟩ (JL.no ⟨_, rfl, gno rfl⟩ (JL.no ⟨_, rfl, gno rfl⟩ (JL.no ⟨_, rfl, gno rfl⟩ (JL.g (RX.pick_f rfl rfl) (JL.mb rfl (JL.no ⟨_, rfl, gno rfl⟩ (JL.no ⟨_, rfl, gno rfl⟩ (JL.no ⟨_, rfl, gno rfl⟩ (JL.no ⟨_, rfl, gno rfl⟩ (JL.no ⟨_, rfl, gno rfl⟩ (JL.g (RX.pick_f rfl rfl) (JL.mb rfl (JL.no ⟨_, rfl, gno rfl⟩ (JL.no ⟨_, rfl, gno rfl⟩ (JL.no ⟨_, rfl, gno rfl⟩ (JL.no ⟨_, rfl, gno rfl⟩ (JL.no ⟨_, rfl, gno rfl⟩ (JL.no ⟨_, rfl, gno rfl⟩ (JL.no ⟨_, rfl, gno rfl⟩ (JL.no ⟨_, rfl, gno rfl⟩ (JL.no ⟨_, rfl, gno rfl⟩ (JL.g (RX.pick_f rfl rfl) (JL.mb rfl (JL.no ⟨_, rfl, gno rfl⟩ (JL.no ⟨_, rfl, gno rfl⟩ (JL.no ⟨_, rfl, gno rfl⟩ (JL.no ⟨_, rfl, gno rfl⟩ (JL.no ⟨_, rfl, gno rfl⟩ (JL.no ⟨_, rfl, gno rfl⟩ (JL.no ⟨_, rfl, gno rfl⟩ (JL.no ⟨_, rfl, gno rfl⟩ (JL.g (RX.pick_f rfl rfl) (JL.ab rfl (JL.nil (J.seq (J.seq (J.region (JL.mb rfl (JL.g (RX.not rfl) (JL.nil (J.cond_t rfl rfl (J.seq (J.region (JL.g (RX.assign) (JL.nil (J.ret1 (v := .bool _) Tryz.func154 rfl rfl ?_))))))))))))))))))))))))))))))))))))))))))))))))))))
    exact ⟨_, rfl, by (simp_all [formB, tailB]; try omega), H.drop.drop⟩
  ·
   refine J.skip (J.seq (J.region (JL.g (RX.fieldAddr rfl fo178_1 rfl) (JL.g (RX.load H rfl (i := 1) rfl rfl one3) (JL.e (EX.call rfl cl176 rfl ((from_b H))) ?_)))))
   rintro _ w ⟨rfl, H⟩
   refine JL.mb rfl (JL.splitS 26 rfl (fun h14 => ?_) (fun h14 => ?_))
   ·
    first | have h14p := of_decide_eq_true h14 | skip
    refine JL.go ⟨_, rfl, h14⟩ (RX.fieldAddr rfl fo178_4 rfl) (JL.go ⟨_, rfl, h14⟩ (RX.load H rfl (i := 1) rfl rfl one3) (JL.does ⟨_, rfl, h14⟩ (EX.call rfl cl176 rfl ((from_b H))) ?_))
    rintro _ w ⟨rfl, H⟩
    refine JL.g (RX.pick_t rfl h14) (JL.mb rfl (JL.splitS 31 rfl (fun h15 => ?_) (fun h15 => ?_)))
    ·
     first | have h15p := of_decide_eq_true h15 | skip
     refine JL.go ⟨_, rfl, h15⟩ (RX.fieldAddr rfl fo236_1 rfl) (JL.go ⟨_, rfl, h15⟩ (RX.load H rfl (i := 0) rfl rfl one4) (JL.go ⟨_, rfl, h15⟩ (RX.fieldAddr rfl fo178_2 rfl) (JL.go ⟨_, rfl, h15⟩ (RX.load H rfl (i := 1) rfl rfl one3) (JL.does ⟨_, rfl, h15⟩ (EX.call rfl cl176 rfl ((from_b H))) ?_))))
     rintro _ w ⟨rfl, H⟩
     refine JL.g (RX.pick_t rfl h15) (JL.mb rfl (JL.splitS 38 rfl (fun h16 => ?_) (fun h16 => ?_)))
     ·
      first | have h16p := of_decide_eq_true h16 | skip
      refine JL.go ⟨_, rfl, h16⟩ (RX.fieldAddr rfl fo236_2 rfl) (JL.go ⟨_, rfl, h16⟩ (RX.load H rfl (i := 0) rfl rfl one4) (JL.go ⟨_, rfl, h16⟩ (RX.fieldAddr rfl fo178_3 rfl) (JL.go ⟨_, rfl, h16⟩ (RX.load H rfl (i := 1) rfl rfl one3) (JL.does ⟨_, rfl, h16⟩ (EX.call rfl cl176 rfl ((from_b H))) ?_))))
      rintro _ w ⟨rfl, H⟩
      refine JL.g (RX.pick_t rfl h16) (JL.mb rfl (JL.splitS 45 rfl (fun h17 => ?_) (fun h17 => ?_)))
      ·
       first | have h17p := of_decide_eq_true h17 | skip
       refine JL.go ⟨_, rfl, h17⟩ (RX.fieldAddr rfl fo236_3 rfl) (JL.go ⟨_, rfl, h17⟩ (RX.load H rfl (i := 0) rfl rfl one3) (JL.go ⟨_, rfl, h17⟩ (RX.gt rfl rfl) (JL.go ⟨_, rfl, h17⟩ (RX.fieldAddr rfl fo178_5 rfl) (JL.go ⟨_, rfl, h17⟩ (RX.load H rfl (i := 1) rfl rfl one3) (JL.go ⟨_, rfl, h17⟩ (RX.movev (v := .int _ _) rfl) (JL.go ⟨_, rfl, h17⟩ (RX.fieldAddr rfl fo236_3 rfl) (JL.go ⟨_, rfl, h17⟩ (RX.load H rfl (i := 0) rfl rfl one3) (JL.does ⟨_, rfl, h17⟩ (EX.call rfl cl176 rfl ((from_b H))) ?_))))))))
       rintro _ w ⟨rfl, H⟩
       refine JL.g (RX.pick_t rfl h17) (JL.mb rfl (JL.splitS 56 rfl (fun hn => ?_) (fun hn => ?_)))
       ·
        first | have hnp := of_decide_eq_true hn | skip
        have hnb := fromB_n hn (by omega) (by omega)
        refine JL.go ⟨_, rfl, hn⟩ (RX.fieldAddr rfl fo236_4 rfl) (JL.go ⟨_, rfl, hn⟩ (RX.load H rfl (i := 0) rfl rfl one4) (JL.go ⟨_, rfl, hn⟩ (RX.fieldAddr rfl fo178_6 rfl) (JL.go ⟨_, rfl, hn⟩ (RX.load H rfl (i := 1) rfl rfl one3) (JL.go ⟨_, rfl, hn⟩ (RX.fieldAddr rfl fo178_5 rfl) (JL.go ⟨_, rfl, hn⟩ (RX.load H rfl (i := 1) rfl rfl one3) (JL.go ⟨_, rfl, hn⟩ (RX.sub rfl rfl (w_i64 rfl (by omega) (by omega))) (JL.does ⟨_, rfl, hn⟩ (EX.call rfl cl176 rfl ((from_b H))) ?_)))))))
        rintro _ w ⟨rfl, H⟩
        refine JL.g (RX.pick_t rfl hn) (JL.ab rfl (JL.nil (J.seq (J.seq (J.region (JL.mb rfl (JL.g (RX.not rfl) (JL.nil (J.cond rfl (fun hok => ?_) (fun hok => ?_))))))))))
        ·
         refine J.seq (J.region (JL.g (RX.assign) (JL.nil (J.ret1 (v := .bool _) Tryz.func154 rfl rfl ?_))))
         exact ⟨_, rfl, by (simp_all [formB, tailB]; try omega), H.drop.drop⟩
        ·
         refine J.skip (J.seq (J.seq (J.region (JL.g (RX.fieldAddr rfl fo178_0 rfl) (JL.g (RX.load H rfl (i := 1) rfl rfl one3) (JL.nil (J.block (J.seq (J.region (JL.g (RX.eq rfl rfl) (JL.ab rfl (JL.nil (J.cond_d rfl (fun h5b => ?_) (fun h5b => ?_))))))))))))))
         ·
          refine J.seq (J.region (JL.g (RX.fieldAddr rfl fo178_4 rfl) (JL.g (RX.load H rfl (i := 1) rfl rfl one3) (JL.g (RX.fieldAddr rfl fo178_3 rfl) (JL.g (RX.load H rfl (i := 1) rfl rfl one3) (JL.g (RX.le rfl rfl) (JL.ab rfl (JL.nil (J.ret1 (v := .bool _) Tryz.func154 rfl rfl ?_)))))))))
          exact ⟨_, rfl, by (simp_all [formB, tailB]; try omega), H.drop.drop⟩
         ·
          refine J.seq (J.seq (J.region (JL.g (RX.eq rfl rfl) (JL.ab rfl (JL.nil (J.cond_d rfl (fun h6 => ?_) (fun h6 => ?_)))))))
          ·
           refine J.skip (J.cond_t rfl (decide_eq_true h6) (J.seq (J.region (JL.g (RX.fieldAddr rfl fo178_4 rfl) (JL.g (RX.load H rfl (i := 1) rfl rfl one3) (JL.g (RX.fieldAddr rfl fo178_5 rfl) (JL.g (RX.load H rfl (i := 1) rfl rfl one3) (JL.g (RX.le rfl rfl) (JL.ab rfl (JL.nil (J.ret1 (v := .bool _) Tryz.func154 rfl rfl ?_)))))))))))
           exact ⟨_, rfl, by (simp_all [formB, tailB]; try omega), H.drop.drop⟩
          ·
           refine J.region (JL.g (RX.eq rfl rfl) (JL.ab rfl (JL.nil (J.cond_d rfl (fun h6 => ?_) (fun h6 => ?_)))))
           ·
            refine J.seq (J.region (JL.g (RX.fieldAddr rfl fo178_4 rfl) (JL.g (RX.load H rfl (i := 1) rfl rfl one3) (JL.g (RX.fieldAddr rfl fo178_5 rfl) (JL.g (RX.load H rfl (i := 1) rfl rfl one3) (JL.g (RX.le rfl rfl) (JL.ab rfl (JL.nil (J.ret1 (v := .bool _) Tryz.func154 rfl rfl ?_)))))))))
            exact ⟨_, rfl, by (simp_all [formB, tailB]; try omega), H.drop.drop⟩
           ·
            refine J.seq (J.region (JL.g (RX.eq rfl rfl) (JL.ab rfl (JL.nil (J.cond_d rfl (fun h8 => ?_) (fun h8 => ?_))))))
            ·
             refine J.seq (J.region (JL.g (RX.fieldAddr rfl fo178_4 rfl) (JL.g (RX.load H rfl (i := 1) rfl rfl one3) (JL.g (RX.fieldAddr rfl fo178_5 rfl) (JL.g (RX.load H rfl (i := 1) rfl rfl one3) (JL.g (RX.mul rfl rfl (w_i64 rfl (by omega) (by omega))) (JL.g (RX.sub rfl rfl (w_i64 rfl (by omega) (by omega))) (JL.g (RX.ge rfl rfl) (JL.mb rfl (JL.splitS 94 rfl (fun h24 => ?_) (fun h24 => ?_)))))))))))
             ·
              first | have h24p := of_decide_eq_true h24 | skip
              refine JL.go ⟨_, rfl, h24⟩ (RX.fieldAddr rfl fo178_4 rfl) (JL.go ⟨_, rfl, h24⟩ (RX.load H rfl (i := 1) rfl rfl one3) (JL.go ⟨_, rfl, h24⟩ (RX.le rfl rfl) (JL.g (RX.pick_t rfl h24) (JL.ab rfl (JL.nil (J.ret1 (v := .bool _) Tryz.func154 rfl rfl ?_))))))
              exact ⟨_, rfl, by (simp_all [formB, tailB]; try omega), H.drop.drop⟩
             ·
              first | have h24p := of_decide_eq_false h24 | skip
              refine JL.no ⟨_, rfl, gno h24⟩ (JL.no ⟨_, rfl, gno h24⟩ (JL.no ⟨_, rfl, gno h24⟩ (JL.g (RX.pick_f rfl h24) (JL.ab rfl (JL.nil (J.ret1 (v := .bool _) Tryz.func154 rfl rfl ?_))))))
              exact ⟨_, rfl, by (simp_all [formB, tailB]; try omega), H.drop.drop⟩
            ·
             refine J.skip (J.inBlock (J.seq (J.region (JL.g (RX.assign) (JL.nil (J.ret1 (v := .bool _) Tryz.func154 rfl rfl ?_))))))
             exact ⟨_, rfl, by (simp_all [formB, tailB]; try omega), H.drop.drop⟩
       ·
        first | have hnp := of_decide_eq_false hn | skip
        refine JL.no ⟨_, rfl, gno hn⟩ (JL.no ⟨_, rfl, gno hn⟩ (JL.no ⟨_, rfl, gno hn⟩ (JL.no ⟨_, rfl, gno hn⟩ (JL.no ⟨_, rfl, gno hn⟩ (JL.no ⟨_, rfl, gno hn⟩ (JL.no ⟨_, rfl, gno hn⟩ (JL.no ⟨_, rfl, gno hn⟩ (JL.g (RX.pick_f rfl hn) (JL.ab rfl (JL.nil (J.seq (J.seq (J.region (JL.mb rfl (JL.g (RX.not rfl) (JL.nil (J.cond_t rfl rfl (J.seq (J.region (JL.g (RX.assign) (JL.nil (J.ret1 (v := .bool _) Tryz.func154 rfl rfl ?_))))))))))))))))))))))
        exact ⟨_, rfl, by (simp_all [formB, tailB]; try omega), H.drop.drop⟩
      ·
       first | have h17p := of_decide_eq_false h17 | skip
       refine JL.no ⟨_, rfl, gno h17⟩ (JL.no ⟨_, rfl, gno h17⟩ (JL.no ⟨_, rfl, gno h17⟩ (JL.no ⟨_, rfl, gno h17⟩ (JL.no ⟨_, rfl, gno h17⟩ (JL.no ⟨_, rfl, gno h17⟩ (JL.no ⟨_, rfl, gno h17⟩ (JL.no ⟨_, rfl, gno h17⟩ (JL.no ⟨_, rfl, gno h17⟩ (JL.g (RX.pick_f rfl h17) (JL.mb rfl (JL.no ⟨_, rfl, gno rfl⟩ (JL.no ⟨_, rfl, gno rfl⟩ (JL.no ⟨_, rfl, gno rfl⟩ (JL.no ⟨_, rfl, gno rfl⟩ (JL.no ⟨_, rfl, gno rfl⟩ (JL.no ⟨_, rfl, gno rfl⟩ (JL.no ⟨_, rfl, gno rfl⟩ (JL.no ⟨_, rfl, gno rfl⟩ (JL.g (RX.pick_f rfl rfl) (JL.ab rfl (JL.nil (J.seq (J.seq (J.region (JL.mb rfl (JL.g (RX.not rfl) (JL.nil (J.cond_t rfl rfl (J.seq (J.region (JL.g (RX.assign) (JL.nil (J.ret1 (v := .bool _) Tryz.func154 rfl rfl ?_)))))))))))))))))))))))))))))))))
       exact ⟨_, rfl, by (simp_all [formB, tailB]; try omega), H.drop.drop⟩
     ·
      first | have h16p := of_decide_eq_false h16 | skip
      refine JL.no ⟨_, rfl, gno h16⟩ (JL.no ⟨_, rfl, gno h16⟩ (JL.no ⟨_, rfl, gno h16⟩ (JL.no ⟨_, rfl, gno h16⟩ (JL.no ⟨_, rfl, gno h16⟩ (JL.g (RX.pick_f rfl h16) (JL.mb rfl (JL.no ⟨_, rfl, gno rfl⟩ (JL.no ⟨_, rfl, gno rfl⟩ (JL.no ⟨_, rfl, gno rfl⟩ (JL.no ⟨_, rfl, gno rfl⟩ (JL.no ⟨_, rfl, gno rfl⟩ (JL.no ⟨_, rfl, gno rfl⟩ (JL.no ⟨_, rfl, gno rfl⟩ (JL.no ⟨_, rfl, gno rfl⟩ (JL.no ⟨_, rfl, gno rfl⟩ (JL.g (RX.pick_f rfl rfl) (JL.mb rfl (JL.no ⟨_, rfl, gno rfl⟩ (JL.no ⟨_, rfl, gno rfl⟩ (JL.no ⟨_, rfl, gno rfl⟩ (JL.no ⟨_, rfl, gno rfl⟩ (JL.no ⟨_, rfl, gno rfl⟩ (JL.no ⟨_, rfl, gno rfl⟩ (JL.no ⟨_, rfl, gno rfl⟩ (JL.no ⟨_, rfl, gno rfl⟩ (JL.g (RX.pick_f rfl rfl) (JL.ab rfl (JL.nil (J.seq (J.seq (J.region (JL.mb rfl (JL.g (RX.not rfl) (JL.nil (J.cond_t rfl rfl (J.seq (J.region (JL.g (RX.assign) (JL.nil (J.ret1 (v := .bool _) Tryz.func154 rfl rfl ?_))))))))))))))))))))))))))))))))))))))))
      exact ⟨_, rfl, by (simp_all [formB, tailB]; try omega), H.drop.drop⟩
    ·
     first | have h15p := of_decide_eq_false h15 | skip
     refine JL.no ⟨_, rfl, gno h15⟩ (JL.no ⟨_, rfl, gno h15⟩ (JL.no ⟨_, rfl, gno h15⟩ (JL.no ⟨_, rfl, gno h15⟩ (JL.no ⟨_, rfl, gno h15⟩ (JL.g (RX.pick_f rfl h15) (JL.mb rfl (JL.no ⟨_, rfl, gno rfl⟩ (JL.no ⟨_, rfl, gno rfl⟩ (JL.no ⟨_, rfl, gno rfl⟩ (JL.no ⟨_, rfl, gno rfl⟩ (JL.no ⟨_, rfl, gno rfl⟩ (JL.g (RX.pick_f rfl rfl) (JL.mb rfl (JL.no ⟨_, rfl, gno rfl⟩ (JL.no ⟨_, rfl, gno rfl⟩ (JL.no ⟨_, rfl, gno rfl⟩ (JL.no ⟨_, rfl, gno rfl⟩ (JL.no ⟨_, rfl, gno rfl⟩ (JL.no ⟨_, rfl, gno rfl⟩ (JL.no ⟨_, rfl, gno rfl⟩ (JL.no ⟨_, rfl, gno rfl⟩ (JL.no ⟨_, rfl, gno rfl⟩ (JL.g (RX.pick_f rfl rfl) (JL.mb rfl (JL.no ⟨_, rfl, gno rfl⟩ (JL.no ⟨_, rfl, gno rfl⟩ (JL.no ⟨_, rfl, gno rfl⟩ (JL.no ⟨_, rfl, gno rfl⟩ (JL.no ⟨_, rfl, gno rfl⟩ (JL.no ⟨_, rfl, gno rfl⟩ (JL.no ⟨_, rfl, gno rfl⟩ (JL.no ⟨_, rfl, gno rfl⟩ (JL.g (RX.pick_f rfl rfl) (JL.ab rfl (JL.nil (J.seq (J.seq (J.region (JL.mb rfl (JL.g (RX.not rfl) (JL.nil (J.cond_t rfl rfl (J.seq (J.region (JL.g (RX.assign) (JL.nil (J.ret1 (v := .bool _) Tryz.func154 rfl rfl ?_)))))))))))))))))))))))))))))))))))))))))))))))
     exact ⟨_, rfl, by (simp_all [formB, tailB]; try omega), H.drop.drop⟩
   ·
    first | have h14p := of_decide_eq_false h14 | skip
    refine JL.no ⟨_, rfl, gno h14⟩ (JL.no ⟨_, rfl, gno h14⟩ (JL.no ⟨_, rfl, gno h14⟩ (JL.g (RX.pick_f rfl h14) (JL.mb rfl (JL.no ⟨_, rfl, gno rfl⟩ (JL.no ⟨_, rfl, gno rfl⟩ (JL.no ⟨_, rfl, gno rfl⟩ (JL.no ⟨_, rfl, gno rfl⟩ (JL.no ⟨_, rfl, gno rfl⟩ (JL.g (RX.pick_f rfl rfl) (JL.mb rfl (JL.no ⟨_, rfl, gno rfl⟩ (JL.no ⟨_, rfl, gno rfl⟩ (JL.no ⟨_, rfl, gno rfl⟩ (JL.no ⟨_, rfl, gno rfl⟩ (JL.no ⟨_, rfl, gno rfl⟩ (JL.g (RX.pick_f rfl rfl) (JL.mb rfl (JL.no ⟨_, rfl, gno rfl⟩ (JL.no ⟨_, rfl, gno rfl⟩ (JL.no ⟨_, rfl, gno rfl⟩ (JL.no ⟨_, rfl, gno rfl⟩ (JL.no ⟨_, rfl, gno rfl⟩ (JL.no ⟨_, rfl, gno rfl⟩ (JL.no ⟨_, rfl, gno rfl⟩ (JL.no ⟨_, rfl, gno rfl⟩ (JL.no ⟨_, rfl, gno rfl⟩ (JL.g (RX.pick_f rfl rfl) (JL.mb rfl (JL.no ⟨_, rfl, gno rfl⟩ (JL.no ⟨_, rfl, gno rfl⟩ (JL.no ⟨_, rfl, gno rfl⟩ (JL.no ⟨_, rfl, gno rfl⟩ (JL.no ⟨_, rfl, gno rfl⟩ (JL.no ⟨_, rfl, gno rfl⟩ (JL.no ⟨_, rfl, gno rfl⟩ (JL.no ⟨_, rfl, gno rfl⟩ (JL.g (RX.pick_f rfl rfl) (JL.ab rfl (JL.nil (J.seq (J.seq (J.region (JL.mb rfl (JL.g (RX.not rfl) (JL.nil (J.cond_t rfl rfl (J.seq (J.region (JL.g (RX.assign) (JL.nil (J.ret1 (v := .bool _) Tryz.func154 rfl rfl ?_))))))))))))))))))))))))))))))))))))))))))))))))))))
    exact ⟨_, rfl, by (simp_all [formB, tailB]; try omega), H.drop.drop⟩
structure Prg where
  len : Int
  cells : Int
  inn : Int
  out : Int
  steps : List Stp
  deriving DecidableEq
def Prg.heads (p : Prg) : List Int := [p.len, p.cells, p.inn, p.out]
def prgV (p : Prg) (pp : Option Addr) (n c : Nat) : List Value := [.int .i64 p.len, .int .i64 p.cells, .int .i64 p.inn, .int .i64 p.out, .slice pp n c]
def Prg.hd (p : Prg) (i : Nat) : Int := (p.heads[i]?).getD 0
theorem prgV_get {p : Prg} {pp : Option Addr} {n c i : Nat} (h : i < 4) : (prgV p pp n c)[i]? = some (.int .i64 (p.hd i)) := by
 have : i = 0 ∨ i = 1 ∨ i = 2 ∨ i = 3 := by omega
 rcases this with rfl | rfl | rfl | rfl <;> rfl
structure Prg.Ok (p : Prg) : Prop where
  len : i64ok p.len
  cells : i64ok p.cells
  inn : i64ok p.inn
  out : i64ok p.out
  steps : ∀ s ∈ p.steps, s.Ok
  num : p.steps.length ≤ 2199023255552
theorem Prg.Ok.hd {p : Prg} (h : p.Ok) {i : Nat} (hi : i < 4) : i64ok (p.hd i) := by
 have : i = 0 ∨ i = 1 ∨ i = 2 ∨ i = 3 := by omega
 rcases this with rfl | rfl | rfl | rfl
 · exact h.len
 · exact h.cells
 · exact h.inn
 · exact h.out
def ptrsV (b : Nat) (offs : List Nat) : List Value := offs.map fun o => .pointer (some ⟨b, o, none⟩)
theorem ptrsV_get {b : Nat} {offs : List Nat} {i o : Nat} (h : offs[i]? = some o) : (ptrsV b offs)[i]? = some (.pointer (some ⟨b, o, none⟩)) := by simp [ptrsV, h]
def fieldOffs (r : Row) : List Nat := [1] ++ (if r.src then [2] else []) ++ (if r.jump then [3] else []) ++ [4] ++ (if 0 < r.n then [5] else []) ++ (if r.k then [6] else [])
def Stp.at_ (s : Stp) (o : Nat) : Int := ([s.op, s.dst, s.src, s.jump, s.count, s.n, s.k][o]?).getD 0
theorem Stp.v_get {s : Stp} {o : Nat} (h : o < 7) : s.v[o]? = some (.int .i64 (s.at_ o)) := by
 have : o = 0 ∨ o = 1 ∨ o = 2 ∨ o = 3 ∨ o = 4 ∨ o = 5 ∨ o = 6 := by omega
 rcases this with rfl | rfl | rfl | rfl | rfl | rfl | rfl <;> rfl
theorem fieldOffs_lt {r : Row} {o : Nat} (h : o ∈ fieldOffs r) : 1 ≤ o ∧ o < 7 := by
 unfold fieldOffs at h
 simp only [List.mem_append, List.mem_singleton] at h
 rcases h with ((((h | h) | h) | h) | h) | h
 · omega
 · split at h <;> simp at h; omega
 · split at h <;> simp at h; omega
 · omega
 · split at h <;> simp at h; omega
 · split at h <;> simp at h; omega
theorem fieldOffs_len (r : Row) : (fieldOffs r).length ≤ 6 := by
 unfold fieldOffs
 simp only [List.length_append, List.length_cons, List.length_nil]
 repeat' split
 all_goals simp
theorem at_form {s : Stp} (h : formB s = true) {o : Nat} (ho : o ∈ fieldOffs (rowOf s.op)) : 0 ≤ s.at_ o ∧ s.at_ o ≤ 262144 := by
 simp only [formB, Bool.and_eq_true] at h
 obtain ⟨⟨hop, ⟨⟨⟨⟨hd, hc⟩, hs⟩, hj⟩, hn⟩, hk⟩, _⟩ := h
 have hop := of_decide_eq_true hop
 have hrn := row_n hop.1 hop.2
 have hnb := fromB_n hn (by split <;> omega) hrn.2
 unfold fieldOffs at ho
 simp only [List.mem_append, List.mem_singleton] at ho
 simp only [fromB, if_true, decide_eq_true_eq] at hd hc
 rcases ho with ((((rfl | ho) | ho) | rfl) | ho) | ho
 · show 0 ≤ s.dst ∧ s.dst ≤ 262144; omega
 · split at ho
   · rename_i e
     have : o = 2 := by simpa using ho
     subst this
     simp only [fromB, e, if_true, decide_eq_true_eq] at hs
     show 0 ≤ s.src ∧ s.src ≤ 262144; omega
   · simp at ho
 · split at ho
   · rename_i e
     have : o = 3 := by simpa using ho
     subst this
     simp only [fromB, e, if_true, decide_eq_true_eq] at hj
     show 0 ≤ s.jump ∧ s.jump ≤ 262144; omega
   · simp at ho
 · show 0 ≤ s.count ∧ s.count ≤ 262144; omega
 · split at ho
   · have : o = 5 := by simpa using ho
     subst this
     show 0 ≤ s.n ∧ s.n ≤ 262144; omega
   · simp at ho
 · split at ho
   · rename_i e
     have : o = 6 := by simpa using ho
     subst this
     simp only [fromB, e, if_true, decide_eq_true_eq] at hk
     show 0 ≤ s.k ∧ s.k ≤ 262144; omega
   · simp at ho
def vints (l : List Int) : List UInt8 := (l.map fun x => varint x.toNat).flatten
theorem vints_app (a b : List Int) : vints (a ++ b) = vints a ++ vints b := by simp [vints]
theorem vints_one (x : Int) : vints [x] = varint x.toNat := by simp [vints]
theorem vints_len {l : List Int} (h : ∀ x ∈ l, x ≤ 262144) : (vints l).length ≤ l.length * 10 := by
 induction l with
 | nil => simp [vints]
 | cons a l ih =>
   have h1 := ih (fun x hx => h x (List.mem_cons_of_mem _ hx))
   have h2 := varint_len10 (x := a.toNat) (by have := h a List.mem_cons_self; omega)
   simp only [vints, List.map_cons, List.flatten_cons, List.length_append, List.length_cons] at h1 ⊢
   omega
def stpNums (s : Stp) : List Int := s.op :: (fieldOffs (rowOf s.op)).map s.at_
def encStp (s : Stp) : List UInt8 := vints (stpNums s)
def encStps (l : List Stp) : List UInt8 := (l.map encStp).flatten
theorem encStps_app (a b : List Stp) : encStps (a ++ b) = encStps a ++ encStps b := by simp [encStps]
theorem encStp_len {s : Stp} (h : formB s = true) : (encStp s).length ≤ 70 := by
 have h1 : ∀ x ∈ stpNums s, x ≤ 262144 := by
   intro x hx
   rcases List.mem_cons.1 hx with rfl | hx
   · simp only [formB, Bool.and_eq_true] at h
     have := of_decide_eq_true h.1.1; omega
   · obtain ⟨o, ho, rfl⟩ := List.mem_map.1 hx
     exact (at_form h ho).2
 have h2 := vints_len h1
 have h3 := fieldOffs_len (rowOf s.op)
 unfold encStp
 simp only [stpNums, List.length_cons, List.length_map] at h2 ⊢
 omega
theorem encStps_len {l : List Stp} (h : ∀ s ∈ l, formB s = true) : (encStps l).length ≤ l.length * 70 := by
 induction l with
 | nil => simp [encStps]
 | cons a l ih =>
   have h1 := ih (fun x hx => h x (List.mem_cons_of_mem _ hx))
   have h2 := encStp_len (h a List.mem_cons_self)
   simp only [encStps, List.map_cons, List.flatten_cons, List.length_append, List.length_cons] at h1 ⊢
   omega
def hdOk (x : Int) : Bool := decide (0 ≤ x ∧ x ≤ 262144)
def encOk (p : Prg) : Bool := decide (p.steps.length ≤ 65536) && p.heads.all hdOk && p.steps.all formB
def encV (p : Prg) : List UInt8 := vints p.heads ++ varint p.steps.length ++ encStps p.steps
def encO (p : Prg) : List UInt8 := if encOk p then encV p else []
theorem Form_b {w0 w : World} {F : List Seg} {E : Nat → Value} (H : Hp w0 w F) (g9 : GErr F 7 (E 9)) (hT : SlAt F (some ⟨12, 0, none⟩) tableC) {s : Stp} (hs : s.Ok) : Ret Tryz.prog 202 [.agg s.v.toArray] w fun v w' => v = (if formB s then .nilIface else E 9) ∧ Hp w0 w' F := by
 refine Calls.of_J (n := 7) Tryz.func202 rfl rfl rfl (J.seq (J.region (JL.e (EX.box (v := .agg _) H rfl rfl) ?_)))
 rintro _ w ⟨b1, rfl, H⟩
 refine JL.g (RX.assign) (JL.nil (J.seq (J.seq (J.region (JL.g (RX.loadAgg H rfl (i := 0) (vs := s.v) rfl rfl ag178) (JL.e (EX.call rfl cl154 rfl ((form_b H hT.cons hs))) ?_))))))
 rintro _ w ⟨rfl, H⟩
 refine JL.g (RX.not rfl) (JL.nil (J.cond rfl (fun hf => ?_) (fun hf => ?_)))
 ·
  refine J.seq (J.region (JL.g (RX.loadG H rfl g9.at_.cons one31) (JL.g (RX.assign) (JL.nil (J.ret1 Tryz.func202 rfl rfl ?_)))))
  have e : formB s = false := by simpa using hf
  rw [e]; exact ⟨_, rfl, rfl, H.drop⟩
 ·
  refine J.skip (J.seq (J.region (JL.g (RX.assign) (JL.nil (J.ret1 Tryz.func202 rfl rfl ?_)))))
  have e : formB s = true := by simpa using hf
  rw [e]; exact ⟨_, rfl, rfl, H.drop⟩
theorem Acts_b {w0 w : World} {F : List Seg} (H : Hp w0 w F) (hT : SlAt F (some ⟨12, 0, none⟩) tableC) {s : Stp} (hs : s.Ok) : Ret Tryz.prog 138 [.agg s.v.toArray] w fun v w' => v = .int .i64 (if formB s then s.count else 0) ∧ Hp w0 w' F := by
 refine Calls.of_J (n := 8) Tryz.func138 rfl rfl rfl (J.seq (J.region (JL.e (EX.box (v := .agg _) H rfl rfl) ?_)))
 rintro _ w ⟨b1, rfl, H⟩
 refine JL.g (RX.assign) (JL.nil (J.seq (J.seq (J.region (JL.g (RX.loadAgg H rfl (i := 0) (vs := s.v) rfl rfl ag178) (JL.e (EX.call rfl cl154 rfl ((form_b H hT.cons hs))) ?_))))))
 rintro _ w ⟨rfl, H⟩
 refine JL.g (RX.not rfl) (JL.nil (J.cond rfl (fun hf => ?_) (fun hf => ?_)))
 ·
  refine J.seq (J.region (JL.g (RX.assign) (JL.nil (J.ret1 (v := .int _ _) Tryz.func138 rfl rfl ?_))))
  exact ⟨_, rfl, by simp_all, H.drop⟩
 ·
  refine J.skip (J.seq (J.region (JL.g (RX.fieldAddr rfl fo178_4 rfl) (JL.g (RX.load H rfl (i := 0) rfl rfl one3) (JL.ai rfl (JL.nil (J.ret1 (v := .int _ _) Tryz.func138 rfl rfl ?_)))))))
  exact ⟨_, rfl, by simp_all, H.drop⟩
theorem head_b {w0 w : World} {F : List Seg} {b : Nat} (H : Hp w0 w F) : Ret Tryz.prog 152 [.pointer (some ⟨b, 0, none⟩)] w fun v w' => ∃ q, v = .slice (some ⟨q, 0, none⟩) 4 4 ∧ Hp w0 w' ([(q, cel (ptrsV b [0, 1, 2, 3]) 217)] :: F) := by
 refine Calls.of_J (n := 16) Tryz.func152 rfl rfl rfl (J.seq (J.region (JL.g (RX.assign) (JL.nil (J.seq (J.any hmix fun w hs => ?_))))))
 replace H := H.same hs; clear hs
 refine JA.take 0 rfl (by kernel_rfl) (by kernel_rfl) (by kernel_rfl) rfl trivial (fun w => RX.movev (v := .pointer _) rfl) (JA.take 1 rfl (by kernel_rfl) (by kernel_rfl) (by kernel_rfl) rfl trivial (fun w => RX.nilCheck rfl) (JA.take 2 rfl (by kernel_rfl) (by kernel_rfl) (by kernel_rfl) rfl trivial (fun w => RX.fieldAddr rfl fo74_0 rfl) (JA.take 3 rfl (by kernel_rfl) (by kernel_rfl) (by kernel_rfl) rfl trivial (fun w => RX.movev (v := .pointer _) rfl) (JA.take 4 rfl (by kernel_rfl) (by kernel_rfl) (by kernel_rfl) rfl trivial (fun w => RX.nilCheck rfl) (JA.take 5 rfl (by kernel_rfl) (by kernel_rfl) (by kernel_rfl) rfl trivial (fun w => RX.fieldAddr rfl fo74_1 rfl) (JA.take 6 rfl (by kernel_rfl) (by kernel_rfl) (by kernel_rfl) rfl trivial (fun w => RX.movev (v := .pointer _) rfl) (JA.take 7 rfl (by kernel_rfl) (by kernel_rfl) (by kernel_rfl) rfl trivial (fun w => RX.nilCheck rfl) (JA.take 8 rfl (by kernel_rfl) (by kernel_rfl) (by kernel_rfl) rfl trivial (fun w => RX.fieldAddr rfl fo74_2 rfl) (JA.take 9 rfl (by kernel_rfl) (by kernel_rfl) (by kernel_rfl) rfl trivial (fun w => RX.movev (v := .pointer _) rfl) (JA.take 10 rfl (by kernel_rfl) (by kernel_rfl) (by kernel_rfl) rfl trivial (fun w => RX.nilCheck rfl) (JA.take 11 rfl (by kernel_rfl) (by kernel_rfl) (by kernel_rfl) rfl trivial (fun w => RX.fieldAddr rfl fo74_3 rfl) (JA.all [12] (by kernel_rfl) (by decide) (JO.does rfl rfl trivial (EX.buildSlice (pv := [(0, .pointer (some ⟨b, 0, none⟩)), (1, .pointer (some ⟨b, 1, none⟩)), (2, .pointer (some ⟨b, 2, none⟩)), (3, .pointer (some ⟨b, 3, none⟩))]) (l := ptrsV b [0, 1, 2, 3]) (e := 217) H rfl (by kernel_rfl)) ?_)))))))))))))
 rintro _ w ⟨q, rfl, H⟩
 refine JA.take 13 rfl (by kernel_rfl) (by kernel_rfl) (by kernel_rfl) rfl trivial (fun w => RX.assignv (v := .slice _ _ _) rfl) (JA.done (by kernel_rfl) (J.ret1 (v := .slice _ _ _) Tryz.func152 rfl rfl ?_))
 exact ⟨_, rfl, q, rfl, H⟩
theorem elP : Elem Tryz.prog 214 217 1 8 := Elem.of (by kernel_rfl)
theorem fields_b {w0 w : World} {F : List Seg} {b T : Nat} {s : Stp} (H : Hp w0 w ([(b, cel s.v T)] :: F)) (hT : SlAt F (some ⟨12, 0, none⟩) tableC) (h0 : 1 ≤ s.op) (h1 : s.op ≤ 11) : Ret Tryz.prog 155 [.pointer (some ⟨b, 0, none⟩)] w fun v w' =>
 ∃ p c q, v = .slice p (fieldOffs (rowOf s.op)).length c ∧ OwnSl 217 1 p (fieldOffs (rowOf s.op)).length c (ptrsV b (fieldOffs (rowOf s.op))) q ∧ Hp w0 w' (q :: [(b, cel s.v T)] :: F) := by
 refine Calls.of_J (n := 55) Tryz.func155 rfl rfl rfl (J.seq (J.region (JL.g (RX.assign) (JL.nil (J.seq ?_)))))
 have hrow := table_read (op := s.op) (by omega) (by omega)
 refine J.region (JL.mp rfl (JL.g (RX.nilCheck rfl) (JL.g (RX.fieldAddr rfl fo178_0 rfl) (JL.g (RX.load H rfl (i := 0) rfl rfl one3) (JL.g (RX.indexArr rfl rfl ar237 (by omega) (by omega) rfl) (JL.g (RX.loadAggS H hT.cons rfl (j := s.op.toNat * 5) (by omega) hrow ag236) (JL.e (EX.alloc H zr236 rfl) ?_)))))))
 rintro _ w ⟨b2, rfl, H⟩
 refine JL.e (EX.storeAgg H rfl rfl (i := 0) (l' := (rowOf s.op).v) rfl (row_cell _) (by simp [Row.v]) sz236 rfl rfl) ?_
 rintro _ w H
 refine JL.nil (J.seq (J.region (JL.mp rfl (JL.g (RX.nilCheck rfl) (JL.g (RX.fieldAddr rfl fo178_1 rfl) (JL.e (EX.buildSlice1 (v := .pointer _) H elP rfl rfl) ?_))))))
 rintro _ w ⟨b1, rfl, H⟩
 have ho : OwnSl 217 1 (some ⟨b1, 0, none⟩) 1 1 [.pointer (some ⟨b, 1, none⟩)] [(b1, cel [.pointer (some ⟨b, 1, none⟩)] 217)] := OwnSl.one
 refine JL.al rfl (JL.nil (J.seq (J.seq (J.region (JL.g (RX.fieldAddr rfl fo236_1 rfl) (JL.g (RX.load H rfl (i := 1) rfl rfl one4) (JL.nil (J.cond rfl (fun hr2 => ?_) (fun hr2 => ?_)))))))))
 ·
  refine J.region (JL.ms rfl (JL.mp rfl (JL.g (RX.nilCheck rfl) (JL.g (RX.fieldAddr rfl fo178_2 rfl) (JL.e (EX.buildSlice1 (v := .pointer _) H elP rfl rfl) ?_)))))
  rintro _ w ⟨b0, rfl, H⟩
  refine JL.e (EX.append (ys := [.pointer (some ⟨b, 2, none⟩)]) (L' := fun s' => [[(b0, cel [.pointer (some ⟨b, 2, none⟩)] 217)], s', [(b2, cel (rowOf s.op).v 236)], [(b, cel s.v T)]] ++ F) H elP rfl rfl (i := 1) rfl ho (SlAt.here rfl) rfl (by simp [isCell]) (by decide) (by omega) (by omega) (fun _ => rfl)) ?_
  rintro _ w ⟨p0, c0, s0, rfl, ho0, H⟩
  replace H := (H.pull 1 rfl); replace H := ((H.pull 1 rfl).drop : Hp w0 w (s0 :: [(b2, cel (rowOf s.op).v 236)] :: [(b, cel s.v T)] :: F))
  clear ho; rename OwnSl _ _ _ _ _ _ _ => ho
  refine JL.al rfl (JL.nil (J.seq (J.seq (J.region (JL.g (RX.fieldAddr rfl fo236_2 rfl) (JL.g (RX.load H rfl (i := 1) rfl rfl one4) (JL.nil (J.cond rfl (fun hr3 => ?_) (fun hr3 => ?_)))))))))
  ·
   refine J.region (JL.ms rfl (JL.mp rfl (JL.g (RX.nilCheck rfl) (JL.g (RX.fieldAddr rfl fo178_3 rfl) (JL.e (EX.buildSlice1 (v := .pointer _) H elP rfl rfl) ?_)))))
   rintro _ w ⟨b0, rfl, H⟩
   refine JL.e (EX.append (ys := [.pointer (some ⟨b, 3, none⟩)]) (L' := fun s' => [[(b0, cel [.pointer (some ⟨b, 3, none⟩)] 217)], s', [(b2, cel (rowOf s.op).v 236)], [(b, cel s.v T)]] ++ F) H elP rfl rfl (i := 1) rfl ho (SlAt.here rfl) rfl (by simp [isCell]) (by decide) (by omega) (by omega) (fun _ => rfl)) ?_
   rintro _ w ⟨p0, c0, s0, rfl, ho0, H⟩
   replace H := (H.pull 1 rfl); replace H := ((H.pull 1 rfl).drop : Hp w0 w (s0 :: [(b2, cel (rowOf s.op).v 236)] :: [(b, cel s.v T)] :: F))
   clear ho; rename OwnSl _ _ _ _ _ _ _ => ho
   refine JL.al rfl (JL.nil (J.seq (J.region (JL.ms rfl (JL.mp rfl (JL.g (RX.nilCheck rfl) (JL.g (RX.fieldAddr rfl fo178_4 rfl) (JL.e (EX.buildSlice1 (v := .pointer _) H elP rfl rfl) ?_))))))))
   rintro _ w ⟨b0, rfl, H⟩
   refine JL.e (EX.append (ys := [.pointer (some ⟨b, 4, none⟩)]) (L' := fun s' => [[(b0, cel [.pointer (some ⟨b, 4, none⟩)] 217)], s', [(b2, cel (rowOf s.op).v 236)], [(b, cel s.v T)]] ++ F) H elP rfl rfl (i := 1) rfl ho (SlAt.here rfl) rfl (by simp [isCell]) (by decide) (by omega) (by omega) (fun _ => rfl)) ?_
   rintro _ w ⟨p0, c0, s0, rfl, ho0, H⟩
   replace H := (H.pull 1 rfl); replace H := ((H.pull 1 rfl).drop : Hp w0 w (s0 :: [(b2, cel (rowOf s.op).v 236)] :: [(b, cel s.v T)] :: F))
   clear ho; rename OwnSl _ _ _ _ _ _ _ => ho
   refine JL.al rfl (JL.nil (J.seq (J.seq (J.region (JL.g (RX.fieldAddr rfl fo236_3 rfl) (JL.g (RX.load H rfl (i := 1) rfl rfl one3) (JL.g (RX.gt rfl rfl) (JL.nil (J.cond_d rfl (fun hr5 => ?_) (fun hr5 => ?_))))))))))
   ·
    refine J.region (JL.ms rfl (JL.mp rfl (JL.g (RX.nilCheck rfl) (JL.g (RX.fieldAddr rfl fo178_5 rfl) (JL.e (EX.buildSlice1 (v := .pointer _) H elP rfl rfl) ?_)))))
    rintro _ w ⟨b0, rfl, H⟩
    refine JL.e (EX.append (ys := [.pointer (some ⟨b, 5, none⟩)]) (L' := fun s' => [[(b0, cel [.pointer (some ⟨b, 5, none⟩)] 217)], s', [(b2, cel (rowOf s.op).v 236)], [(b, cel s.v T)]] ++ F) H elP rfl rfl (i := 1) rfl ho (SlAt.here rfl) rfl (by simp [isCell]) (by decide) (by omega) (by omega) (fun _ => rfl)) ?_
    rintro _ w ⟨p0, c0, s0, rfl, ho0, H⟩
    replace H := (H.pull 1 rfl); replace H := ((H.pull 1 rfl).drop : Hp w0 w (s0 :: [(b2, cel (rowOf s.op).v 236)] :: [(b, cel s.v T)] :: F))
    clear ho; rename OwnSl _ _ _ _ _ _ _ => ho
    refine JL.al rfl (JL.nil (J.seq (J.seq (J.region (JL.g (RX.fieldAddr rfl fo236_4 rfl) (JL.g (RX.load H rfl (i := 1) rfl rfl one4) (JL.nil (J.cond rfl (fun hr6 => ?_) (fun hr6 => ?_)))))))))
    ·
     refine J.region (JL.ms rfl (JL.mp rfl (JL.g (RX.nilCheck rfl) (JL.g (RX.fieldAddr rfl fo178_6 rfl) (JL.e (EX.buildSlice1 (v := .pointer _) H elP rfl rfl) ?_)))))
     rintro _ w ⟨b0, rfl, H⟩
     refine JL.e (EX.append (ys := [.pointer (some ⟨b, 6, none⟩)]) (L' := fun s' => [[(b0, cel [.pointer (some ⟨b, 6, none⟩)] 217)], s', [(b2, cel (rowOf s.op).v 236)], [(b, cel s.v T)]] ++ F) H elP rfl rfl (i := 1) rfl ho (SlAt.here rfl) rfl (by simp [isCell]) (by decide) (by omega) (by omega) (fun _ => rfl)) ?_
     rintro _ w ⟨p0, c0, s0, rfl, ho0, H⟩
     replace H := (H.pull 1 rfl); replace H := ((H.pull 1 rfl).drop : Hp w0 w (s0 :: [(b2, cel (rowOf s.op).v 236)] :: [(b, cel s.v T)] :: F))
     clear ho; rename OwnSl _ _ _ _ _ _ _ => ho
     refine JL.al rfl (JL.nil (J.seq (J.region (JL.ms rfl (JL.al rfl (JL.nil (J.ret1 (v := .slice _ _ _) Tryz.func155 rfl rfl ?_)))))))
     exact ⟨_, rfl, p0, c0, s0, by simp [fieldOffs, hr2, hr3, hr5, hr6], by simpa [fieldOffs, hr2, hr3, hr5, hr6, ptrsV] using ho, (H.pull 1 rfl).drop⟩
    ·
     refine J.skip (J.seq (J.region (JL.ms rfl (JL.al rfl (JL.nil (J.ret1 (v := .slice _ _ _) Tryz.func155 rfl rfl ?_))))))
     exact ⟨_, rfl, p0, c0, s0, by simp [fieldOffs, hr2, hr3, hr5, hr6], by simpa [fieldOffs, hr2, hr3, hr5, hr6, ptrsV] using ho, (H.pull 1 rfl).drop⟩
   ·
    refine J.skip (J.seq (J.seq (J.region (JL.g (RX.fieldAddr rfl fo236_4 rfl) (JL.g (RX.load H rfl (i := 1) rfl rfl one4) (JL.nil (J.cond rfl (fun hr6 => ?_) (fun hr6 => ?_))))))))
    ·
     refine J.region (JL.ms rfl (JL.mp rfl (JL.g (RX.nilCheck rfl) (JL.g (RX.fieldAddr rfl fo178_6 rfl) (JL.e (EX.buildSlice1 (v := .pointer _) H elP rfl rfl) ?_)))))
     rintro _ w ⟨b0, rfl, H⟩
     refine JL.e (EX.append (ys := [.pointer (some ⟨b, 6, none⟩)]) (L' := fun s' => [[(b0, cel [.pointer (some ⟨b, 6, none⟩)] 217)], s', [(b2, cel (rowOf s.op).v 236)], [(b, cel s.v T)]] ++ F) H elP rfl rfl (i := 1) rfl ho (SlAt.here rfl) rfl (by simp [isCell]) (by decide) (by omega) (by omega) (fun _ => rfl)) ?_
     rintro _ w ⟨p0, c0, s0, rfl, ho0, H⟩
     replace H := (H.pull 1 rfl); replace H := ((H.pull 1 rfl).drop : Hp w0 w (s0 :: [(b2, cel (rowOf s.op).v 236)] :: [(b, cel s.v T)] :: F))
     clear ho; rename OwnSl _ _ _ _ _ _ _ => ho
     refine JL.al rfl (JL.nil (J.seq (J.region (JL.ms rfl (JL.al rfl (JL.nil (J.ret1 (v := .slice _ _ _) Tryz.func155 rfl rfl ?_)))))))
     exact ⟨_, rfl, p0, c0, s0, by simp [fieldOffs, hr2, hr3, hr5, hr6], by simpa [fieldOffs, hr2, hr3, hr5, hr6, ptrsV] using ho, (H.pull 1 rfl).drop⟩
    ·
     refine J.skip (J.seq (J.region (JL.ms rfl (JL.al rfl (JL.nil (J.ret1 (v := .slice _ _ _) Tryz.func155 rfl rfl ?_))))))
     exact ⟨_, rfl, p0, c0, s0, by simp [fieldOffs, hr2, hr3, hr5, hr6], by simpa [fieldOffs, hr2, hr3, hr5, hr6, ptrsV] using ho, (H.pull 1 rfl).drop⟩
  ·
   refine J.skip (J.seq (J.region (JL.ms rfl (JL.mp rfl (JL.g (RX.nilCheck rfl) (JL.g (RX.fieldAddr rfl fo178_4 rfl) (JL.e (EX.buildSlice1 (v := .pointer _) H elP rfl rfl) ?_)))))))
   rintro _ w ⟨b0, rfl, H⟩
   refine JL.e (EX.append (ys := [.pointer (some ⟨b, 4, none⟩)]) (L' := fun s' => [[(b0, cel [.pointer (some ⟨b, 4, none⟩)] 217)], s', [(b2, cel (rowOf s.op).v 236)], [(b, cel s.v T)]] ++ F) H elP rfl rfl (i := 1) rfl ho (SlAt.here rfl) rfl (by simp [isCell]) (by decide) (by omega) (by omega) (fun _ => rfl)) ?_
   rintro _ w ⟨p0, c0, s0, rfl, ho0, H⟩
   replace H := (H.pull 1 rfl); replace H := ((H.pull 1 rfl).drop : Hp w0 w (s0 :: [(b2, cel (rowOf s.op).v 236)] :: [(b, cel s.v T)] :: F))
   clear ho; rename OwnSl _ _ _ _ _ _ _ => ho
   refine JL.al rfl (JL.nil (J.seq (J.seq (J.region (JL.g (RX.fieldAddr rfl fo236_3 rfl) (JL.g (RX.load H rfl (i := 1) rfl rfl one3) (JL.g (RX.gt rfl rfl) (JL.nil (J.cond_d rfl (fun hr5 => ?_) (fun hr5 => ?_))))))))))
   ·
    refine J.region (JL.ms rfl (JL.mp rfl (JL.g (RX.nilCheck rfl) (JL.g (RX.fieldAddr rfl fo178_5 rfl) (JL.e (EX.buildSlice1 (v := .pointer _) H elP rfl rfl) ?_)))))
    rintro _ w ⟨b0, rfl, H⟩
    refine JL.e (EX.append (ys := [.pointer (some ⟨b, 5, none⟩)]) (L' := fun s' => [[(b0, cel [.pointer (some ⟨b, 5, none⟩)] 217)], s', [(b2, cel (rowOf s.op).v 236)], [(b, cel s.v T)]] ++ F) H elP rfl rfl (i := 1) rfl ho (SlAt.here rfl) rfl (by simp [isCell]) (by decide) (by omega) (by omega) (fun _ => rfl)) ?_
    rintro _ w ⟨p0, c0, s0, rfl, ho0, H⟩
    replace H := (H.pull 1 rfl); replace H := ((H.pull 1 rfl).drop : Hp w0 w (s0 :: [(b2, cel (rowOf s.op).v 236)] :: [(b, cel s.v T)] :: F))
    clear ho; rename OwnSl _ _ _ _ _ _ _ => ho
    refine JL.al rfl (JL.nil (J.seq (J.seq (J.region (JL.g (RX.fieldAddr rfl fo236_4 rfl) (JL.g (RX.load H rfl (i := 1) rfl rfl one4) (JL.nil (J.cond rfl (fun hr6 => ?_) (fun hr6 => ?_)))))))))
    ·
     refine J.region (JL.ms rfl (JL.mp rfl (JL.g (RX.nilCheck rfl) (JL.g (RX.fieldAddr rfl fo178_6 rfl) (JL.e (EX.buildSlice1 (v := .pointer _) H elP rfl rfl) ?_)))))
     rintro _ w ⟨b0, rfl, H⟩
     refine JL.e (EX.append (ys := [.pointer (some ⟨b, 6, none⟩)]) (L' := fun s' => [[(b0, cel [.pointer (some ⟨b, 6, none⟩)] 217)], s', [(b2, cel (rowOf s.op).v 236)], [(b, cel s.v T)]] ++ F) H elP rfl rfl (i := 1) rfl ho (SlAt.here rfl) rfl (by simp [isCell]) (by decide) (by omega) (by omega) (fun _ => rfl)) ?_
     rintro _ w ⟨p0, c0, s0, rfl, ho0, H⟩
     replace H := (H.pull 1 rfl); replace H := ((H.pull 1 rfl).drop : Hp w0 w (s0 :: [(b2, cel (rowOf s.op).v 236)] :: [(b, cel s.v T)] :: F))
     clear ho; rename OwnSl _ _ _ _ _ _ _ => ho
     refine JL.al rfl (JL.nil (J.seq (J.region (JL.ms rfl (JL.al rfl (JL.nil (J.ret1 (v := .slice _ _ _) Tryz.func155 rfl rfl ?_)))))))
     exact ⟨_, rfl, p0, c0, s0, by simp [fieldOffs, hr2, hr3, hr5, hr6], by simpa [fieldOffs, hr2, hr3, hr5, hr6, ptrsV] using ho, (H.pull 1 rfl).drop⟩
    ·
     refine J.skip (J.seq (J.region (JL.ms rfl (JL.al rfl (JL.nil (J.ret1 (v := .slice _ _ _) Tryz.func155 rfl rfl ?_))))))
     exact ⟨_, rfl, p0, c0, s0, by simp [fieldOffs, hr2, hr3, hr5, hr6], by simpa [fieldOffs, hr2, hr3, hr5, hr6, ptrsV] using ho, (H.pull 1 rfl).drop⟩
   ·
    refine J.skip (J.seq (J.seq (J.region (JL.g (RX.fieldAddr rfl fo236_4 rfl) (JL.g (RX.load H rfl (i := 1) rfl rfl one4) (JL.nil (J.cond rfl (fun hr6 => ?_) (fun hr6 => ?_))))))))
    ·
     refine J.region (JL.ms rfl (JL.mp rfl (JL.g (RX.nilCheck rfl) (JL.g (RX.fieldAddr rfl fo178_6 rfl) (JL.e (EX.buildSlice1 (v := .pointer _) H elP rfl rfl) ?_)))))
     rintro _ w ⟨b0, rfl, H⟩
     refine JL.e (EX.append (ys := [.pointer (some ⟨b, 6, none⟩)]) (L' := fun s' => [[(b0, cel [.pointer (some ⟨b, 6, none⟩)] 217)], s', [(b2, cel (rowOf s.op).v 236)], [(b, cel s.v T)]] ++ F) H elP rfl rfl (i := 1) rfl ho (SlAt.here rfl) rfl (by simp [isCell]) (by decide) (by omega) (by omega) (fun _ => rfl)) ?_
     rintro _ w ⟨p0, c0, s0, rfl, ho0, H⟩
     replace H := (H.pull 1 rfl); replace H := ((H.pull 1 rfl).drop : Hp w0 w (s0 :: [(b2, cel (rowOf s.op).v 236)] :: [(b, cel s.v T)] :: F))
     clear ho; rename OwnSl _ _ _ _ _ _ _ => ho
     refine JL.al rfl (JL.nil (J.seq (J.region (JL.ms rfl (JL.al rfl (JL.nil (J.ret1 (v := .slice _ _ _) Tryz.func155 rfl rfl ?_)))))))
     exact ⟨_, rfl, p0, c0, s0, by simp [fieldOffs, hr2, hr3, hr5, hr6], by simpa [fieldOffs, hr2, hr3, hr5, hr6, ptrsV] using ho, (H.pull 1 rfl).drop⟩
    ·
     refine J.skip (J.seq (J.region (JL.ms rfl (JL.al rfl (JL.nil (J.ret1 (v := .slice _ _ _) Tryz.func155 rfl rfl ?_))))))
     exact ⟨_, rfl, p0, c0, s0, by simp [fieldOffs, hr2, hr3, hr5, hr6], by simpa [fieldOffs, hr2, hr3, hr5, hr6, ptrsV] using ho, (H.pull 1 rfl).drop⟩
 ·
  refine J.skip (J.seq (J.seq (J.region (JL.g (RX.fieldAddr rfl fo236_2 rfl) (JL.g (RX.load H rfl (i := 1) rfl rfl one4) (JL.nil (J.cond rfl (fun hr3 => ?_) (fun hr3 => ?_))))))))
  ·
   refine J.region (JL.ms rfl (JL.mp rfl (JL.g (RX.nilCheck rfl) (JL.g (RX.fieldAddr rfl fo178_3 rfl) (JL.e (EX.buildSlice1 (v := .pointer _) H elP rfl rfl) ?_)))))
   rintro _ w ⟨b0, rfl, H⟩
   refine JL.e (EX.append (ys := [.pointer (some ⟨b, 3, none⟩)]) (L' := fun s' => [[(b0, cel [.pointer (some ⟨b, 3, none⟩)] 217)], s', [(b2, cel (rowOf s.op).v 236)], [(b, cel s.v T)]] ++ F) H elP rfl rfl (i := 1) rfl ho (SlAt.here rfl) rfl (by simp [isCell]) (by decide) (by omega) (by omega) (fun _ => rfl)) ?_
   rintro _ w ⟨p0, c0, s0, rfl, ho0, H⟩
   replace H := (H.pull 1 rfl); replace H := ((H.pull 1 rfl).drop : Hp w0 w (s0 :: [(b2, cel (rowOf s.op).v 236)] :: [(b, cel s.v T)] :: F))
   clear ho; rename OwnSl _ _ _ _ _ _ _ => ho
   refine JL.al rfl (JL.nil (J.seq (J.region (JL.ms rfl (JL.mp rfl (JL.g (RX.nilCheck rfl) (JL.g (RX.fieldAddr rfl fo178_4 rfl) (JL.e (EX.buildSlice1 (v := .pointer _) H elP rfl rfl) ?_))))))))
   rintro _ w ⟨b0, rfl, H⟩
   refine JL.e (EX.append (ys := [.pointer (some ⟨b, 4, none⟩)]) (L' := fun s' => [[(b0, cel [.pointer (some ⟨b, 4, none⟩)] 217)], s', [(b2, cel (rowOf s.op).v 236)], [(b, cel s.v T)]] ++ F) H elP rfl rfl (i := 1) rfl ho (SlAt.here rfl) rfl (by simp [isCell]) (by decide) (by omega) (by omega) (fun _ => rfl)) ?_
   rintro _ w ⟨p0, c0, s0, rfl, ho0, H⟩
   replace H := (H.pull 1 rfl); replace H := ((H.pull 1 rfl).drop : Hp w0 w (s0 :: [(b2, cel (rowOf s.op).v 236)] :: [(b, cel s.v T)] :: F))
   clear ho; rename OwnSl _ _ _ _ _ _ _ => ho
   refine JL.al rfl (JL.nil (J.seq (J.seq (J.region (JL.g (RX.fieldAddr rfl fo236_3 rfl) (JL.g (RX.load H rfl (i := 1) rfl rfl one3) (JL.g (RX.gt rfl rfl) (JL.nil (J.cond_d rfl (fun hr5 => ?_) (fun hr5 => ?_))))))))))
   ·
    refine J.region (JL.ms rfl (JL.mp rfl (JL.g (RX.nilCheck rfl) (JL.g (RX.fieldAddr rfl fo178_5 rfl) (JL.e (EX.buildSlice1 (v := .pointer _) H elP rfl rfl) ?_)))))
    rintro _ w ⟨b0, rfl, H⟩
    refine JL.e (EX.append (ys := [.pointer (some ⟨b, 5, none⟩)]) (L' := fun s' => [[(b0, cel [.pointer (some ⟨b, 5, none⟩)] 217)], s', [(b2, cel (rowOf s.op).v 236)], [(b, cel s.v T)]] ++ F) H elP rfl rfl (i := 1) rfl ho (SlAt.here rfl) rfl (by simp [isCell]) (by decide) (by omega) (by omega) (fun _ => rfl)) ?_
    rintro _ w ⟨p0, c0, s0, rfl, ho0, H⟩
    replace H := (H.pull 1 rfl); replace H := ((H.pull 1 rfl).drop : Hp w0 w (s0 :: [(b2, cel (rowOf s.op).v 236)] :: [(b, cel s.v T)] :: F))
    clear ho; rename OwnSl _ _ _ _ _ _ _ => ho
    refine JL.al rfl (JL.nil (J.seq (J.seq (J.region (JL.g (RX.fieldAddr rfl fo236_4 rfl) (JL.g (RX.load H rfl (i := 1) rfl rfl one4) (JL.nil (J.cond rfl (fun hr6 => ?_) (fun hr6 => ?_)))))))))
    ·
     refine J.region (JL.ms rfl (JL.mp rfl (JL.g (RX.nilCheck rfl) (JL.g (RX.fieldAddr rfl fo178_6 rfl) (JL.e (EX.buildSlice1 (v := .pointer _) H elP rfl rfl) ?_)))))
     rintro _ w ⟨b0, rfl, H⟩
     refine JL.e (EX.append (ys := [.pointer (some ⟨b, 6, none⟩)]) (L' := fun s' => [[(b0, cel [.pointer (some ⟨b, 6, none⟩)] 217)], s', [(b2, cel (rowOf s.op).v 236)], [(b, cel s.v T)]] ++ F) H elP rfl rfl (i := 1) rfl ho (SlAt.here rfl) rfl (by simp [isCell]) (by decide) (by omega) (by omega) (fun _ => rfl)) ?_
     rintro _ w ⟨p0, c0, s0, rfl, ho0, H⟩
     replace H := (H.pull 1 rfl); replace H := ((H.pull 1 rfl).drop : Hp w0 w (s0 :: [(b2, cel (rowOf s.op).v 236)] :: [(b, cel s.v T)] :: F))
     clear ho; rename OwnSl _ _ _ _ _ _ _ => ho
     refine JL.al rfl (JL.nil (J.seq (J.region (JL.ms rfl (JL.al rfl (JL.nil (J.ret1 (v := .slice _ _ _) Tryz.func155 rfl rfl ?_)))))))
     exact ⟨_, rfl, p0, c0, s0, by simp [fieldOffs, hr2, hr3, hr5, hr6], by simpa [fieldOffs, hr2, hr3, hr5, hr6, ptrsV] using ho, (H.pull 1 rfl).drop⟩
    ·
     refine J.skip (J.seq (J.region (JL.ms rfl (JL.al rfl (JL.nil (J.ret1 (v := .slice _ _ _) Tryz.func155 rfl rfl ?_))))))
     exact ⟨_, rfl, p0, c0, s0, by simp [fieldOffs, hr2, hr3, hr5, hr6], by simpa [fieldOffs, hr2, hr3, hr5, hr6, ptrsV] using ho, (H.pull 1 rfl).drop⟩
   ·
    refine J.skip (J.seq (J.seq (J.region (JL.g (RX.fieldAddr rfl fo236_4 rfl) (JL.g (RX.load H rfl (i := 1) rfl rfl one4) (JL.nil (J.cond rfl (fun hr6 => ?_) (fun hr6 => ?_))))))))
    ·
     refine J.region (JL.ms rfl (JL.mp rfl (JL.g (RX.nilCheck rfl) (JL.g (RX.fieldAddr rfl fo178_6 rfl) (JL.e (EX.buildSlice1 (v := .pointer _) H elP rfl rfl) ?_)))))
     rintro _ w ⟨b0, rfl, H⟩
     refine JL.e (EX.append (ys := [.pointer (some ⟨b, 6, none⟩)]) (L' := fun s' => [[(b0, cel [.pointer (some ⟨b, 6, none⟩)] 217)], s', [(b2, cel (rowOf s.op).v 236)], [(b, cel s.v T)]] ++ F) H elP rfl rfl (i := 1) rfl ho (SlAt.here rfl) rfl (by simp [isCell]) (by decide) (by omega) (by omega) (fun _ => rfl)) ?_
     rintro _ w ⟨p0, c0, s0, rfl, ho0, H⟩
     replace H := (H.pull 1 rfl); replace H := ((H.pull 1 rfl).drop : Hp w0 w (s0 :: [(b2, cel (rowOf s.op).v 236)] :: [(b, cel s.v T)] :: F))
     clear ho; rename OwnSl _ _ _ _ _ _ _ => ho
     refine JL.al rfl (JL.nil (J.seq (J.region (JL.ms rfl (JL.al rfl (JL.nil (J.ret1 (v := .slice _ _ _) Tryz.func155 rfl rfl ?_)))))))
     exact ⟨_, rfl, p0, c0, s0, by simp [fieldOffs, hr2, hr3, hr5, hr6], by simpa [fieldOffs, hr2, hr3, hr5, hr6, ptrsV] using ho, (H.pull 1 rfl).drop⟩
    ·
     refine J.skip (J.seq (J.region (JL.ms rfl (JL.al rfl (JL.nil (J.ret1 (v := .slice _ _ _) Tryz.func155 rfl rfl ?_))))))
     exact ⟨_, rfl, p0, c0, s0, by simp [fieldOffs, hr2, hr3, hr5, hr6], by simpa [fieldOffs, hr2, hr3, hr5, hr6, ptrsV] using ho, (H.pull 1 rfl).drop⟩
  ·
   refine J.skip (J.seq (J.region (JL.ms rfl (JL.mp rfl (JL.g (RX.nilCheck rfl) (JL.g (RX.fieldAddr rfl fo178_4 rfl) (JL.e (EX.buildSlice1 (v := .pointer _) H elP rfl rfl) ?_)))))))
   rintro _ w ⟨b0, rfl, H⟩
   refine JL.e (EX.append (ys := [.pointer (some ⟨b, 4, none⟩)]) (L' := fun s' => [[(b0, cel [.pointer (some ⟨b, 4, none⟩)] 217)], s', [(b2, cel (rowOf s.op).v 236)], [(b, cel s.v T)]] ++ F) H elP rfl rfl (i := 1) rfl ho (SlAt.here rfl) rfl (by simp [isCell]) (by decide) (by omega) (by omega) (fun _ => rfl)) ?_
   rintro _ w ⟨p0, c0, s0, rfl, ho0, H⟩
   replace H := (H.pull 1 rfl); replace H := ((H.pull 1 rfl).drop : Hp w0 w (s0 :: [(b2, cel (rowOf s.op).v 236)] :: [(b, cel s.v T)] :: F))
   clear ho; rename OwnSl _ _ _ _ _ _ _ => ho
   refine JL.al rfl (JL.nil (J.seq (J.seq (J.region (JL.g (RX.fieldAddr rfl fo236_3 rfl) (JL.g (RX.load H rfl (i := 1) rfl rfl one3) (JL.g (RX.gt rfl rfl) (JL.nil (J.cond_d rfl (fun hr5 => ?_) (fun hr5 => ?_))))))))))
   ·
    refine J.region (JL.ms rfl (JL.mp rfl (JL.g (RX.nilCheck rfl) (JL.g (RX.fieldAddr rfl fo178_5 rfl) (JL.e (EX.buildSlice1 (v := .pointer _) H elP rfl rfl) ?_)))))
    rintro _ w ⟨b0, rfl, H⟩
    refine JL.e (EX.append (ys := [.pointer (some ⟨b, 5, none⟩)]) (L' := fun s' => [[(b0, cel [.pointer (some ⟨b, 5, none⟩)] 217)], s', [(b2, cel (rowOf s.op).v 236)], [(b, cel s.v T)]] ++ F) H elP rfl rfl (i := 1) rfl ho (SlAt.here rfl) rfl (by simp [isCell]) (by decide) (by omega) (by omega) (fun _ => rfl)) ?_
    rintro _ w ⟨p0, c0, s0, rfl, ho0, H⟩
    replace H := (H.pull 1 rfl); replace H := ((H.pull 1 rfl).drop : Hp w0 w (s0 :: [(b2, cel (rowOf s.op).v 236)] :: [(b, cel s.v T)] :: F))
    clear ho; rename OwnSl _ _ _ _ _ _ _ => ho
    refine JL.al rfl (JL.nil (J.seq (J.seq (J.region (JL.g (RX.fieldAddr rfl fo236_4 rfl) (JL.g (RX.load H rfl (i := 1) rfl rfl one4) (JL.nil (J.cond rfl (fun hr6 => ?_) (fun hr6 => ?_)))))))))
    ·
     refine J.region (JL.ms rfl (JL.mp rfl (JL.g (RX.nilCheck rfl) (JL.g (RX.fieldAddr rfl fo178_6 rfl) (JL.e (EX.buildSlice1 (v := .pointer _) H elP rfl rfl) ?_)))))
     rintro _ w ⟨b0, rfl, H⟩
     refine JL.e (EX.append (ys := [.pointer (some ⟨b, 6, none⟩)]) (L' := fun s' => [[(b0, cel [.pointer (some ⟨b, 6, none⟩)] 217)], s', [(b2, cel (rowOf s.op).v 236)], [(b, cel s.v T)]] ++ F) H elP rfl rfl (i := 1) rfl ho (SlAt.here rfl) rfl (by simp [isCell]) (by decide) (by omega) (by omega) (fun _ => rfl)) ?_
     rintro _ w ⟨p0, c0, s0, rfl, ho0, H⟩
     replace H := (H.pull 1 rfl); replace H := ((H.pull 1 rfl).drop : Hp w0 w (s0 :: [(b2, cel (rowOf s.op).v 236)] :: [(b, cel s.v T)] :: F))
     clear ho; rename OwnSl _ _ _ _ _ _ _ => ho
     refine JL.al rfl (JL.nil (J.seq (J.region (JL.ms rfl (JL.al rfl (JL.nil (J.ret1 (v := .slice _ _ _) Tryz.func155 rfl rfl ?_)))))))
     exact ⟨_, rfl, p0, c0, s0, by simp [fieldOffs, hr2, hr3, hr5, hr6], by simpa [fieldOffs, hr2, hr3, hr5, hr6, ptrsV] using ho, (H.pull 1 rfl).drop⟩
    ·
     refine J.skip (J.seq (J.region (JL.ms rfl (JL.al rfl (JL.nil (J.ret1 (v := .slice _ _ _) Tryz.func155 rfl rfl ?_))))))
     exact ⟨_, rfl, p0, c0, s0, by simp [fieldOffs, hr2, hr3, hr5, hr6], by simpa [fieldOffs, hr2, hr3, hr5, hr6, ptrsV] using ho, (H.pull 1 rfl).drop⟩
   ·
    refine J.skip (J.seq (J.seq (J.region (JL.g (RX.fieldAddr rfl fo236_4 rfl) (JL.g (RX.load H rfl (i := 1) rfl rfl one4) (JL.nil (J.cond rfl (fun hr6 => ?_) (fun hr6 => ?_))))))))
    ·
     refine J.region (JL.ms rfl (JL.mp rfl (JL.g (RX.nilCheck rfl) (JL.g (RX.fieldAddr rfl fo178_6 rfl) (JL.e (EX.buildSlice1 (v := .pointer _) H elP rfl rfl) ?_)))))
     rintro _ w ⟨b0, rfl, H⟩
     refine JL.e (EX.append (ys := [.pointer (some ⟨b, 6, none⟩)]) (L' := fun s' => [[(b0, cel [.pointer (some ⟨b, 6, none⟩)] 217)], s', [(b2, cel (rowOf s.op).v 236)], [(b, cel s.v T)]] ++ F) H elP rfl rfl (i := 1) rfl ho (SlAt.here rfl) rfl (by simp [isCell]) (by decide) (by omega) (by omega) (fun _ => rfl)) ?_
     rintro _ w ⟨p0, c0, s0, rfl, ho0, H⟩
     replace H := (H.pull 1 rfl); replace H := ((H.pull 1 rfl).drop : Hp w0 w (s0 :: [(b2, cel (rowOf s.op).v 236)] :: [(b, cel s.v T)] :: F))
     clear ho; rename OwnSl _ _ _ _ _ _ _ => ho
     refine JL.al rfl (JL.nil (J.seq (J.region (JL.ms rfl (JL.al rfl (JL.nil (J.ret1 (v := .slice _ _ _) Tryz.func155 rfl rfl ?_)))))))
     exact ⟨_, rfl, p0, c0, s0, by simp [fieldOffs, hr2, hr3, hr5, hr6], by simpa [fieldOffs, hr2, hr3, hr5, hr6, ptrsV] using ho, (H.pull 1 rfl).drop⟩
    ·
     refine J.skip (J.seq (J.region (JL.ms rfl (JL.al rfl (JL.nil (J.ret1 (v := .slice _ _ _) Tryz.func155 rfl rfl ?_))))))
     exact ⟨_, rfl, p0, c0, s0, by simp [fieldOffs, hr2, hr3, hr5, hr6], by simpa [fieldOffs, hr2, hr3, hr5, hr6, ptrsV] using ho, (H.pull 1 rfl).drop⟩
theorem heads_get {p : Prg} {i : Nat} (h : i < 4) : p.heads[i]? = some (p.hd i) := by
 have : i = 0 ∨ i = 1 ∨ i = 2 ∨ i = 3 := by omega
 rcases this with rfl | rfl | rfl | rfl <;> rfl
theorem heads_pre {p : Prg} {k : Nat} (h : k ≤ 4) (hall : ∀ i, i < k → hdOk (p.hd i) = true) : ∀ x ∈ p.heads.take k, x ≤ 262144 := by
 intro x hx
 obtain ⟨i, hxi⟩ := List.mem_iff_getElem?.1 hx
 rw [List.getElem?_take] at hxi
 split at hxi
 · rename_i hi
   rw [heads_get (by omega)] at hxi
   have h1 := of_decide_eq_true (hall i hi)
   have h2 := Option.some.inj hxi
   omega
 · cases hxi
theorem encOk_no_head {p : Prg} {i : Nat} (hi : i < 4) (h : hdOk (p.hd i) = false) : encOk p = false := by
 have : p.heads.all hdOk = false := List.all_eq_false.2 ⟨p.hd i, List.mem_of_getElem? (heads_get hi), by simp [h]⟩
 simp [encOk, this]
theorem encOk_no_step {p : Prg} {i : Nat} {s : Stp} (hi : p.steps[i]? = some s) (h : formB s = false) : encOk p = false := by
 have : p.steps.all formB = false := List.all_eq_false.2 ⟨s, List.mem_of_getElem? hi, by simp [h]⟩
 simp [encOk, this]
theorem encOk_no_len {p : Prg} (h : 65536 < p.steps.length) : encOk p = false := by simp [encOk]; omega
theorem encOk_yes {p : Prg} (h1 : p.steps.length ≤ 65536) (h2 : ∀ i, i < 4 → hdOk (p.hd i) = true) (h3 : ∀ s ∈ p.steps, formB s = true) : encOk p = true := by
 have e2 : p.heads.all hdOk = true := List.all_eq_true.2 fun x hx => by
   obtain ⟨i, hi⟩ := List.mem_iff_getElem?.1 hx
   have h4 : i < 4 := by have := (List.getElem?_eq_some_iff.1 hi).1; simpa [Prg.heads] using this
   rw [heads_get h4] at hi
   rw [← Option.some.inj hi]; exact h2 i h4
 have e3 : p.steps.all formB = true := List.all_eq_true.2 h3
 simp [encOk, e2, e3, h1]
def encP (p : Prg) (i : Nat) : List UInt8 := vints p.heads ++ varint p.steps.length ++ encStps (p.steps.take i)
def encF (s : Stp) (j : Nat) : List UInt8 := vints (s.op :: ((fieldOffs (rowOf s.op)).take j).map s.at_)
theorem encF_succ {s : Stp} {j o : Nat} (h : (fieldOffs (rowOf s.op))[j]? = some o) : encF s (j + 1) = encF s j ++ vints [s.at_ o] := by
 unfold encF
 rw [take_succ_get h, List.map_append, ← List.cons_append, vints_app]; rfl
theorem encF_full {s : Stp} : encF s (fieldOffs (rowOf s.op)).length = encStp s := by simp [encF, encStp, stpNums]
theorem encP_succ {p : Prg} {i : Nat} {s : Stp} (h : p.steps[i]? = some s) : encP p (i + 1) = encP p i ++ encStp s := by
 unfold encP
 rw [take_succ_get h, encStps_app]
 simp [encStps]
theorem stp_cell (s : Stp) : ∀ v ∈ s.v, isCell v = true := by
 intro v hv
 simp [Stp.v] at hv
 rcases hv with rfl | rfl | rfl | rfl | rfl | rfl | rfl <;> rfl
theorem form_op {s : Stp} (h : formB s = true) : 1 ≤ s.op ∧ s.op ≤ 11 := by
 simp only [formB, Bool.and_eq_true] at h
 exact of_decide_eq_true h.1.1
theorem encStp_pre {s : Stp} (h : formB s = true) (j : Nat) : (encF s j).length ≤ 70 := by
 have h1 : ∀ x ∈ s.op :: ((fieldOffs (rowOf s.op)).take j).map s.at_, x ≤ 262144 := by
   intro x hx
   rcases List.mem_cons.1 hx with rfl | hx
   · have := form_op h; omega
   · obtain ⟨o, ho, rfl⟩ := List.mem_map.1 hx
     exact (at_form h (List.mem_of_mem_take ho)).2
 have h2 := vints_len h1
 have h3 := fieldOffs_len (rowOf s.op)
 unfold encF
 simp only [List.length_cons, List.length_map, List.length_take] at h2
 omega
theorem encP_len {p : Prg} {i : Nat} {a b : Nat} (h1 : a ≤ b * 10) (hf : ∀ s ∈ p.steps.take i, formB s = true) : (encP p i).length ≤ (vints p.heads).length + (varint p.steps.length).length + (p.steps.take i).length * 70 := by
 unfold encP
 simp only [List.length_append]
 have := encStps_len hf
 omega
theorem Encode_b {w0 w : World} {F : List Seg} {E : Nat → Value} {p : Prg} {pp : Option Addr} {pc : Nat} (H : Hp w0 w F) (g9 : GErr F 7 (E 9)) (hT : SlAt F (some ⟨12, 0, none⟩) tableC)
 (hst : SlAt F pp (stepsV p.steps)) (hp : p.Ok) : Ret Tryz.prog 124 [.agg (prgV p pp p.steps.length pc).toArray] w fun v w' =>
 ∃ q c s, v = .tuple #[.slice q (encO p).length c, if encOk p then .nilIface else E 9] ∧ OwnSl 5 1 q (encO p).length c (bv (encO p)) s ∧ Hp w0 w' (s :: F) := by
 refine Calls.of_J (n := 79) Tryz.func124 rfl rfl rfl (J.seq (J.region (JL.e (EX.box (v := .agg _) H rfl rfl) ?_)))
 rintro _ w ⟨b1, rfl, H⟩
 refine JL.g (RX.assign) (JL.g (RX.assign) (JL.nil (J.seq (J.seq ?_))))
 have hnum := hp.num
 refine J.region (JL.g (RX.fieldAddr rfl fo74_4 rfl) (JL.g (RX.load H rfl (i := 0) rfl rfl one72) (JL.g (RX.len_slice rfl (by rw [sl72]; rfl) rfl) ?_)))
 refine JL.g (RX.gt rfl rfl) (JL.nil (J.cond_d rfl (fun hlen => ?_) (fun hlen => ?_)))
 ·
  refine J.seq (J.quietH H hmix (by kernel_rfl) (JQ.g (fun w H => RX.loadG H rfl g9.at_.cons one31) (JQ.g (fun w H => RX.assign) (JQ.g (fun w H => RX.assign) (JQ.nil fun w H => (J.ret2 (v := .slice _ _ _) Tryz.func124 rfl rfl rfl ?_))))))
  have e := encOk_no_len (p := p) (by omega)
  exact ⟨_, rfl, none, 0, [], by simp only [encO, e]; rfl, by simp only [encO, e]; exact OwnSl.nil, H.drop.nil⟩
 ·
  refine J.skip (J.seq (J.region (JL.e (EX.call rfl cl151 rfl (new_w H)) ?_)))
  rintro _ w ⟨wb, rfl, H⟩
  refine JL.ap rfl (JL.nil (J.seq (J.seq (J.region (JL.e (EX.call rfl cl152 rfl (head_b H)) ?_)))))
  rintro _ w ⟨hb, rfl, H⟩
  refine JL.g (RX.len_slice rfl (by rw [sl214]; rfl) rfl) ?_
  refine JL.g (RX.move) (JL.nil (J.block (J.loop (ι := Nat × Option Addr × Nat × Seg) (S := fun q => [(19, .int .i64 (q.1 : Nat))]) (Φ := fun q w => q.1 ≤ 4 ∧ (∀ i, i < q.1 → hdOk (p.hd i) = true) ∧ OwnSl 5 1 q.2.1 (vints (p.heads.take q.1)).length q.2.2.1 (bv (vints (p.heads.take q.1))) q.2.2.2 ∧ Hp w0 w ([(wb, cel [.slice q.2.1 (vints (p.heads.take q.1)).length q.2.2.1] 232)] :: q.2.2.2 :: [(hb, cel (ptrsV b1 [0, 1, 2, 3]) 217)] :: [(b1, cel (prgV p pp p.steps.length pc) 74)] :: F)) (μ := fun q => 4 - q.1) (C := [(1, _), (4, _), (17, _), (18, _)]) (0, none, 0, []) ⟨rfl, rfl, rfl, rfl, trivial⟩ ⟨rfl, trivial⟩ ?_ ?_)))
  · exact ⟨by omega, fun i h => by omega, OwnSl.nil, (H.pull 1 rfl).nil.pull 1 rfl⟩
  clear H
  rintro ⟨i, wp, wc, ws⟩ ρ w ⟨hi, hall, ho, H⟩ IH
  simp only at hi hall ho H
  have hpre := vints_len (heads_pre hi hall)
  have hpl : (p.heads.take i).length ≤ 4 := by simp [Prg.heads]; omega
  dsimp only
  refine J.seq (J.region (JL.g (RX.lt rfl rfl) (JL.nil (J.seq (J.cond_d rfl (fun hi4 => ?_) (fun hi4 => ?_))))))
  ·
   refine J.skip (J.seq (J.block (J.seq (J.region ?_))))
   have hgt := heads_get (p := p) (i := i) (by omega)
   have hok := hp.hd (i := i) (by omega)
   unfold i64ok at hok
   refine JL.g (RX.indexAddr rfl rfl sl214 (by omega) (by omega) rfl) (JL.g (RX.load H rfl (i := 2) (v := .pointer (some ⟨b1, i, none⟩)) rfl (by have := ptrsV_get (b := b1) (offs := [0, 1, 2, 3]) (i := i) (o := i) (by have : i = 0 ∨ i = 1 ∨ i = 2 ∨ i = 3 := (by omega); rcases this with rfl | rfl | rfl | rfl <;> rfl); simpa using this) one217) ?_)
   refine JL.ap rfl (JL.nil (J.seq (J.seq (J.region (JL.mp rfl (JL.g (RX.nilCheck rfl) (JL.g (RX.load H rfl (i := 3) rfl (prgV_get (by omega)) one3) (JL.g (RX.lt rfl rfl) (JL.mb rfl (JL.splitS 27 rfl (fun h3 => ?_) (fun h3 => ?_)))))))))))
   ·
    first | have h3p := of_decide_eq_true h3 | skip
    refine JL.no ⟨_, rfl, gno h3⟩ (JL.no ⟨_, rfl, gno h3⟩ (JL.no ⟨_, rfl, gno h3⟩ (JL.no ⟨_, rfl, gno h3⟩ (JL.g (RX.pick_t rfl h3) (JL.nil (J.cond_t rfl rfl (J.seq (J.quietH H hmix (by kernel_rfl) (JQ.g (fun w H => RX.loadG H rfl g9.at_.cons.cons.cons.cons one31) (JQ.g (fun w H => RX.assign) (JQ.g (fun w H => RX.assign) (JQ.nil fun w H => (J.ret2 (v := .slice _ _ _) Tryz.func124 rfl rfl rfl ?_)))))))))))))
    have e := encOk_no_head (p := p) (i := i) (by omega) (decide_eq_false (by omega))
    exact ⟨_, rfl, none, 0, [], by simp only [encO, e]; rfl, by simp only [encO, e]; exact OwnSl.nil, H.drop.drop.drop.drop.nil⟩
   ·
    first | have h3p := of_decide_eq_false h3 | skip
    refine JL.go ⟨_, rfl, h3⟩ (RX.movev (v := .pointer _) rfl) (JL.go ⟨_, rfl, h3⟩ (RX.nilCheck rfl) (JL.go ⟨_, rfl, h3⟩ (RX.load H rfl (i := 3) rfl (prgV_get (by omega)) one3) (JL.go ⟨_, rfl, h3⟩ (RX.gt rfl rfl) (JL.g (RX.pick_f rfl h3) (JL.nil (J.cond_d rfl (fun hbad => ?_) (fun hbad => ?_)))))))
    ·
     refine J.seq (J.quietH H hmix (by kernel_rfl) (JQ.g (fun w H => RX.loadG H rfl g9.at_.cons.cons.cons.cons one31) (JQ.g (fun w H => RX.assign) (JQ.g (fun w H => RX.assign) (JQ.nil fun w H => (J.ret2 (v := .slice _ _ _) Tryz.func124 rfl rfl rfl ?_))))))
     have e := encOk_no_head (p := p) (i := i) (by omega) (decide_eq_false (by omega))
     exact ⟨_, rfl, none, 0, [], by simp only [encO, e]; rfl, by simp only [encO, e]; exact OwnSl.nil, H.drop.drop.drop.drop.nil⟩
    ·
     refine J.skip (J.region (JL.mp rfl (JL.mp rfl (JL.g (RX.nilCheck rfl) (JL.g (RX.load H rfl (i := 3) rfl (prgV_get (by omega)) one3) (JL.g (RX.conv rfl (by rw [ki3]; rfl) ki86 (w_u64 (r := ((p.hd i).toNat : Int)) (by omega) (by omega) (by omega))) ?_))))))
     refine JL.e (EX.call rfl cl153 rfl ((uint_w (x := (p.hd i).toNat) H ho (by omega) (by omega)))) ?_
     rintro _ w ⟨rfl, wp2, wc2, ws2, ho2, H⟩
     have hho : hdOk (p.hd i) = true := decide_eq_true (by omega)
     rw [← vints_one, ← vints_app, ← take_succ_get hgt] at ho2 H
     refine JL.nil (J.inBlock (J.region (JL.g (RX.add rfl rfl (w_i64 rfl (by omega) (by omega))) (JL.mi rfl (JL.nil ?_)))))
     exact IH (i + 1, wp2, wc2, ws2) _ _ (by simp only; omega) ⟨rfl, rfl, rfl, rfl, trivial⟩ ⟨rfl, trivial⟩ ⟨by simp only; omega, fun j hj => (by rcases Nat.lt_or_ge j i with h | h; exact hall j h; have : j = i := (by omega); rw [this]; exact hho), ho2, H⟩
  ·
   refine J.exit rfl (J.seq (J.region ?_))
   have hi4 : i = 4 := by omega
   subst hi4
   have hfull : p.heads.take 4 = p.heads := rfl
   rw [hfull] at ho H hpre hpl
   have hv10 := varint_len10 (x := p.steps.length) (by omega)
   refine JL.mp rfl (JL.g (RX.fieldAddr rfl fo74_4 rfl) (JL.g (RX.load H rfl (i := 3) rfl rfl one72) (JL.g (RX.len_slice rfl (by rw [sl72]; rfl) rfl) ?_)))
   refine JL.g (RX.conv rfl (by rw [ki3]; rfl) ki86 (w_u64 rfl (by omega) (by omega))) ?_
   refine JL.e (EX.call rfl cl153 rfl ((uint_w (x := p.steps.length) H ho (by omega) (by omega)))) ?_
   rintro _ w ⟨rfl, wp2, wc2, ws2, ho2, H⟩
   have hho := ho2
   clear ho2 ho
   refine JL.nil (J.seq (J.seq (J.region (JL.g (RX.fieldAddr rfl fo74_4 rfl) (JL.g (RX.load H rfl (i := 3) rfl rfl one72) (JL.g (RX.len_slice rfl (by rw [sl72]; rfl) rfl) ?_))))))
   refine JL.g (RX.move) (JL.nil (J.block (J.loop (ι := Nat × Option Addr × Nat × Seg) (S := fun q => [(50, .int .i64 (q.1 : Nat))]) (Φ := fun q w => q.1 ≤ p.steps.length ∧ (∀ s ∈ p.steps.take q.1, formB s = true) ∧ OwnSl 5 1 q.2.1 (encP p q.1).length q.2.2.1 (bv (encP p q.1)) q.2.2.2 ∧ Hp w0 w ([(wb, cel [.slice q.2.1 (encP p q.1).length q.2.2.1] 232)] :: q.2.2.2 :: [(hb, cel (ptrsV b1 [0, 1, 2, 3]) 217)] :: [(b1, cel (prgV p pp p.steps.length pc) 74)] :: F)) (μ := fun q => p.steps.length - q.1) (C := [(4, _), (48, _), (49, _)]) (0, wp2, wc2, ws2) ⟨rfl, rfl, rfl, trivial⟩ ⟨rfl, trivial⟩ ?_ ?_)))
   · exact ⟨by omega, fun s h => by simp at h, by simpa [encP, encStps] using hho, by simpa [encP, encStps] using H⟩
   clear H hho
   rintro ⟨i, wp, wc, ws⟩ ρ w ⟨hi, hfs, ho, H⟩ IH
   simp only at hi hfs ho H
   have hpl2 := encP_len hpre hfs
   have htl : (p.steps.take i).length ≤ 65536 := by simp; omega
   dsimp only
   refine J.seq (J.region (JL.g (RX.lt rfl rfl) (JL.nil (J.seq (J.cond_d rfl (fun hlt => ?_) (fun hlt => ?_))))))
   ·
    refine J.skip (J.seq (J.block (J.seq ?_)))
    obtain ⟨s, hs⟩ : ∃ s, p.steps[i]? = some s := ⟨_, List.getElem?_eq_getElem (by omega)⟩
    have hsok := hp.steps s (List.mem_of_getElem? hs)
    obtain ⟨pb, po, rfl, _⟩ := hst.some (by rw [stepsV_len]; omega)
    refine J.region (JL.g (RX.indexAddr rfl rfl sl72 (by omega) (by omega) rfl) (JL.g (RX.loadAggS H hst.cons.cons.cons.cons rfl (j := i * 7) (by omega) (stepsV_read _ _ _ hs) ag178) (JL.e (EX.alloc H zr178 rfl) ?_)))
    rintro _ w ⟨bs, rfl, H⟩
    refine JL.e (EX.storeAgg H rfl rfl (i := 0) (l' := s.v) rfl (stp_cell _) (by simp [Stp.v]) sz178 rfl rfl) ?_
    rintro _ w H
    refine JL.nil (J.seq (J.seq (J.region (JL.g (RX.loadAgg H rfl (i := 0) (vs := s.v) rfl rfl ag178) (JL.e (EX.call rfl cl154 rfl ((form_b H hT.cons.cons.cons.cons.cons hsok))) ?_)))))
    rintro _ w ⟨rfl, H⟩
    refine JL.g (RX.not rfl) (JL.nil (J.cond rfl (fun hf => ?_) (fun hf => ?_)))
    ·
     refine J.seq (J.quietH H hmix (by kernel_rfl) (JQ.g (fun w H => RX.loadG H rfl g9.at_.cons.cons.cons.cons.cons one31) (JQ.g (fun w H => RX.assign) (JQ.g (fun w H => RX.assign) (JQ.nil fun w H => (J.ret2 (v := .slice _ _ _) Tryz.func124 rfl rfl rfl ?_))))))
     have e := encOk_no_step (p := p) hs (by simpa using hf)
     exact ⟨_, rfl, none, 0, [], by simp only [encO, e]; rfl, by simp only [encO, e]; exact OwnSl.nil, H.drop.drop.drop.drop.drop.nil⟩
    ·
     refine J.skip (J.seq (J.region ?_))
     have hf2 : formB s = true := by simpa using hf
     have hop := form_op hf2
     have hsl := encStp_pre (s := s) hf2
     have hfol := fieldOffs_len (rowOf s.op)
     refine JL.mp rfl (JL.g (RX.fieldAddr rfl fo178_0 rfl) (JL.g (RX.load H rfl (i := 0) rfl rfl one3) (JL.g (RX.conv rfl (by rw [ki3]; rfl) ki86 (w_u64 (r := (s.op.toNat : Int)) (by omega) (by omega) (by omega))) ?_)))
     refine JL.e (EX.call rfl cl153 rfl ((uint_w (x := s.op.toNat) ((H.pull 2 rfl).pull 2 rfl) ho (by omega) (by omega)))) ?_
     rintro _ w ⟨rfl, wp2, wc2, ws2, ho2, H⟩
     rw [← vints_one] at ho2 H
     refine JL.nil (J.seq (J.region (JL.e (EX.call rfl cl155 rfl ((fields_b (H.pull 2 rfl) hT.cons.cons.cons.cons hop.1 hop.2))) ?_)))
     rintro _ w ⟨fp, fc, fq, rfl, hof, H⟩
     refine JL.g (RX.len_slice rfl (by rw [sl214]; rfl) rfl) ?_
     refine JL.g (RX.move) (JL.nil (J.block (J.loop (ι := Nat × Option Addr × Nat × Seg) (S := fun q => [(65, .int .i64 (q.1 : Nat))]) (Φ := fun q w => q.1 ≤ (fieldOffs (rowOf s.op)).length ∧ OwnSl 5 1 q.2.1 (encP p i ++ encF s q.1).length q.2.2.1 (bv (encP p i ++ encF s q.1)) q.2.2.2 ∧ Hp w0 w ([(wb, cel [.slice q.2.1 (encP p i ++ encF s q.1).length q.2.2.1] 232)] :: q.2.2.2 :: fq :: [(bs, cel s.v 178)] :: [(hb, cel (ptrsV b1 [0, 1, 2, 3]) 217)] :: [(b1, cel (prgV p (some ⟨pb, po, none⟩) p.steps.length pc) 74)] :: F)) (μ := fun q => (fieldOffs (rowOf s.op)).length - q.1) (C := [(4, _), (48, _), (49, _), (50, _), (63, _), (64, _)]) (0, wp2, wc2, ws2) ⟨rfl, rfl, rfl, rfl, rfl, rfl, trivial⟩ ⟨rfl, trivial⟩ ?_ ?_)))
     · exact ⟨by omega, by simpa [encF] using ho2, by simpa [encF] using (H.pull 3 rfl).pull 3 rfl⟩
     clear H ho2
     rintro ⟨j, wp, wc, ws⟩ ρ w ⟨hj, ho, H⟩ IH2
     simp only at hj ho H
     have hfl := hsl j
     dsimp only
     refine J.seq (J.region (JL.g (RX.lt rfl rfl) (JL.nil (J.seq (J.cond_d rfl (fun hjlt => ?_) (fun hjlt => ?_))))))
     ·
      refine J.skip (J.seq (J.block (J.seq ?_)))
      obtain ⟨o, hoj⟩ : ∃ o, (fieldOffs (rowOf s.op))[j]? = some o := ⟨_, List.getElem?_eq_getElem (by omega)⟩
      have hol := fieldOffs_lt (List.mem_of_getElem? hoj)
      have hof2 := at_form hf2 (List.mem_of_getElem? hoj)
      obtain ⟨gq, lq, rfl, rfl, hll⟩ := hof.ptr (by omega)
      refine J.region (JL.g (RX.indexAddr rfl rfl sl214 (by omega) (by omega) rfl) (JL.g (RX.loadS H ((SlAt.here hll.2.2).cons.cons) rfl (j := j) (by omega) (ptrsV_get hoj) one217) (JL.ap rfl (JL.nil (J.region (JL.mp rfl (JL.mp rfl (JL.g (RX.nilCheck rfl) (JL.g (RX.load H rfl (i := 3) rfl (Stp.v_get hol.2) one3) (JL.g (RX.conv rfl (by rw [ki3]; rfl) ki86 (w_u64 (r := ((s.at_ o).toNat : Int)) (by omega) (by omega) (by omega))) ?_))))))))))
      refine JL.e (EX.call rfl cl153 rfl ((uint_w (x := (s.at_ o).toNat) H ho (by omega) (by simp only [List.length_append]; omega)))) ?_
      rintro _ w ⟨rfl, wp2, wc2, ws2, ho2, H⟩
      rw [← vints_one, List.append_assoc, ← encF_succ hoj] at ho2 H
      refine JL.nil (J.inBlock (J.region (JL.g (RX.add rfl rfl (w_i64 rfl (by omega) (by omega))) (JL.mi rfl (JL.nil ?_)))))
      exact IH2 (j + 1, wp2, wc2, ws2) _ _ (by simp only; omega) ⟨rfl, rfl, rfl, rfl, rfl, rfl, trivial⟩ ⟨rfl, trivial⟩ ⟨by simp only; omega, ho2, H⟩
     ·
      refine J.exit rfl (J.inBlock (J.region ?_))
      have hjf : j = (fieldOffs (rowOf s.op)).length := by omega
      subst hjf
      rw [encF_full, ← encP_succ hs] at ho H
      refine JL.g (RX.add rfl rfl (w_i64 rfl (by omega) (by omega))) (JL.mi rfl (JL.nil ?_))
      exact IH (i + 1, wp, wc, ws) _ _ (by simp only; omega) ⟨rfl, rfl, rfl, trivial⟩ ⟨rfl, trivial⟩ ⟨by simp only; omega, fun t ht => (by rw [take_succ_get hs] at ht; rcases List.mem_append.1 ht with h | h; exact hfs t h; rw [List.mem_singleton.1 h]; exact hf2), ho, ((H.pull 3 rfl).drop.pull 2 rfl).drop⟩
   ·
    refine J.exit rfl (J.seq (J.region ?_))
    have hif : i = p.steps.length := by omega
    subst hif
    rw [List.take_length] at hfs
    have hfull2 : encP p p.steps.length = encV p := by simp [encP, encV]
    rw [hfull2] at ho H hpl2
    have hyes := encOk_yes (p := p) (by omega) (fun j h => hall j h) hfs
    have heo : encO p = encV p := by simp only [encO, hyes, if_true]
    refine JL.mp rfl (JL.e (EX.call rfl cl156 rfl ((out_w H ho (by omega)))) ?_)
    rintro _ w ⟨q, qc, qs, rfl, hoq, H⟩
    refine JL.al rfl (JL.g (RX.assign) (JL.nil (J.ret2 (v := .slice _ _ _) Tryz.func124 rfl rfl rfl ?_)))
    rw [heo, hyes]
    exact ⟨_, rfl, q, qc, qs, rfl, hoq, (((((((H.pull 1 rfl).drop).pull 1 rfl).drop).pull 1 rfl).drop).pull 1 rfl).drop⟩
end Go.Proofs.YtfaokllgaambjaaGreatDoor

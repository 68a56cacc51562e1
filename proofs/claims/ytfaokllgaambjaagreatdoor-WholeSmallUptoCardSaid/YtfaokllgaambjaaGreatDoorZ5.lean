/- Part 5 of the proof that WholeSmall holds: what the functions on its way do, step by step. -/
import Derived.Test.YtfaokllgaambjaaGreatDoorZ1
import Derived.Test.YtfaokllgaambjaaGreatDoorZ2
import Derived.Test.YtfaokllgaambjaaGreatDoorZ3
import Derived.Test.YtfaokllgaambjaaGreatDoorZ4
import Derived.Test.YtfaokllgaambjaaGreatDoorProg
import Derived.KernelRfl
import Derived.LaidEqlPtr
set_option linter.unusedVariables false
set_option linter.unusedSimpArgs false
namespace Go.Proofs.YtfaokllgaambjaaGreatDoor
open Go Go.Eng
set_option maxRecDepth 100000
set_option maxHeartbeats 1600000
theorem hmix : Tryz.prog.follows .mixedOrders = true := by kernel_rfl
end Go.Proofs.YtfaokllgaambjaaGreatDoor
namespace Go.Proofs.YtfaokllgaambjaaGreatDoor
open Go Go.Eng
set_option maxRecDepth 100000
set_option maxHeartbeats 1600000
def bv (l : List UInt8) : List Value := l.map fun b => .int .u8 b.toNat
theorem bv_app (a b : List UInt8) : bv (a ++ b) = bv a ++ bv b := by simp [bv]
theorem bv_cell (a : List UInt8) : ∀ v ∈ bv a, isCell v = true := by
 intro v hv; obtain ⟨b, _, rfl⟩ := List.mem_map.1 hv; rfl
def varint (x : Nat) : List UInt8 := if x < 128 then [x.toUInt8] else (x % 128 + 128).toUInt8 :: varint (x / 128)
  termination_by x
  decreasing_by omega
theorem varint_lt {x : Nat} (h : x < 128) : varint x = [x.toUInt8] := by rw [varint, if_pos h]
theorem varint_ge {x : Nat} (h : 128 ≤ x) : varint x = (x % 128 + 128).toUInt8 :: varint (x / 128) := by rw [varint, if_neg (by omega)]
theorem varint_len : ∀ (k x : Nat), x < 128 ^ (k + 1) → (varint x).length ≤ k + 1 := by
 intro k
 induction k with
 | zero => intro x h; rw [varint_lt (by omega)]; simp
 | succ k ih =>
   intro x h
   by_cases hx : x < 128
   · rw [varint_lt hx]; simp
   · rw [varint_ge (by omega)]
     have := ih (x / 128) (by rw [Nat.div_lt_iff_lt_mul (by decide)]; rw [Nat.pow_succ] at h; exact h)
     simp only [List.length_cons]; omega
theorem varint_len10 {x : Nat} (h : x ≤ 18446744073709551615) : (varint x).length ≤ 10 := varint_len 9 x (Nat.lt_of_le_of_lt h (by decide))
theorem wrap_u8 (a : Int) : IntKind.u8.wrap a = a % 256 := by simp [IntKind.wrap, IntKind.bits, IntKind.signed]
theorem wrap_u64 (a : Int) : IntKind.u64.wrap a = a % 18446744073709551616 := by simp [IntKind.wrap, IntKind.bits, IntKind.signed]
theorem or128n : ∀ x : Fin 256, x.val ||| 128 = x.val % 128 + 128 := by decide
theorem or128 (x : Nat) : IntKind.u8.wrap ((BitVec.ofInt IntKind.u8.bits ((x : Int) % 256) ||| BitVec.ofInt IntKind.u8.bits 128).toNat) = ((x % 128 + 128 : Nat) : Int) := by
 have h1 : (BitVec.ofInt IntKind.u8.bits ((x : Int) % 256)).toNat = x % 256 := by
   show (BitVec.ofInt 8 ((x : Int) % 256)).toNat = _
   rw [BitVec.toNat_ofInt]; omega
 have h2 : (BitVec.ofInt IntKind.u8.bits 128).toNat = 128 := rfl
 rw [BitVec.toNat_or, h1, h2, or128n ⟨x % 256, by omega⟩]
 rw [wrap_u8]; simp only; omega
theorem u8n {x : Nat} (h : x < 256) : ((x.toUInt8).toNat : Int) = x := by
 simp [Nat.toUInt8, UInt8.toNat_ofNat', Nat.mod_eq_of_lt h]
theorem bv1 {x : Nat} (h : x < 256) : bv [x.toUInt8] = [.int .u8 (x : Int)] := by
 simp only [bv, List.map_cons, List.map_nil]; rw [u8n h]
end Go.Proofs.YtfaokllgaambjaaGreatDoor
namespace Go.Proofs.YtfaokllgaambjaaGreatDoor
open Go Go.Eng
set_option maxRecDepth 100000
set_option maxHeartbeats 1600000
def errG : List Nat := [0, 5, 5, 5, 5, 4, 3, 0, 6, 7, 10, 5, 5, 5, 5, 9, 5, 2, 5, 1]
structure Errs (F : List Seg) (E : Nat → Value) (Q : Nat → Addr) : Prop where
  at_ : ∀ i, 1 ≤ i → i ≤ 19 → GErr F ((errG[i]?).getD 0) (E i)
  er : ∀ i, 1 ≤ i → i ≤ 19 → ErrAt F 284 (E i) (Q i)
  inj : True
theorem Errs.cons {F : List Seg} {s : Seg} {E : Nat → Value} {Q : Nat → Addr} (h : Errs F E Q) : Errs (s :: F) E Q :=
  ⟨fun i h0 h1 => (h.at_ i h0 h1).cons, fun i h0 h1 => (h.er i h0 h1).cons, h.inj⟩
def errV (E : Nat → Value) (n : Nat) : Value := if n = 0 then .nilIface else E n
theorem errV_pos {E : Nat → Value} {n : Nat} (h : 0 < n) : errV E n = E n := if_neg (by omega)
theorem errV_ie {F : List Seg} {E : Nat → Value} {Q : Nat → Addr} (h : Errs F E Q) {n : Nat} (hn : n ≤ 19) : isErr (errV E n) = true ∧ isNil (errV E n) = decide (n = 0) := by
 by_cases h0 : n = 0
 · subst h0; exact ⟨rfl, rfl⟩
 · have := h.at_ n (by omega) hn
   rw [errV_pos (by omega), decide_eq_false h0]
   exact ⟨this.ie, this.nn⟩
end Go.Proofs.YtfaokllgaambjaaGreatDoor
namespace Go.Proofs.YtfaokllgaambjaaGreatDoor
open Go Go.Eng
set_option maxRecDepth 100000
set_option maxHeartbeats 1600000
theorem rem_nat {a b : Nat} : ((a : Int)).tmod (b : Int) = ((a % b : Nat) : Int) := by rw [Int.tmod_eq_emod_of_nonneg (by omega)]; omega
theorem quo_nat {a b : Nat} : ((a : Int)).tdiv (b : Int) = ((a / b : Nat) : Int) := by rw [Int.tdiv_eq_ediv_of_nonneg (by omega)]; omega
theorem wi {a : Int} {n : Nat} (h : a = (n : Int)) (hn : n < 9223372036854775808) : IntKind.i64.wrap a = (n : Int) := w_i64 h (by omega) (by omega)
end Go.Proofs.YtfaokllgaambjaaGreatDoor
namespace Go.Proofs.YtfaokllgaambjaaGreatDoor
open Go Go.Eng
set_option maxRecDepth 100000
set_option maxHeartbeats 1600000
def u64sV (l : List Nat) : List Value := l.map fun x : Nat => Value.int .u64 ((x : Nat) : Int)
theorem u64sV_len (l : List Nat) : (u64sV l).length = l.length := by simp [u64sV]
theorem u64sV_get {l : List Nat} {i : Nat} {k : Nat} (h : l[i]? = some k) : (u64sV l)[i]? = some (.int .u64 (k : Int)) := by simp [u64sV, h]
theorem u64sV_cell (l : List Nat) : ∀ v ∈ u64sV l, isCell v = true := by
 intro v hv; obtain ⟨b, _, rfl⟩ := List.mem_map.1 hv; rfl
end Go.Proofs.YtfaokllgaambjaaGreatDoor
namespace Go.Proofs.YtfaokllgaambjaaGreatDoor
open Go Go.Eng
set_option maxRecDepth 100000
set_option maxHeartbeats 1600000
theorem ki2 : kindOf Tryz.prog 2 = some .i64 := by kernel_rfl
theorem ki86 : kindOf Tryz.prog 86 = some .u64 := by kernel_rfl
theorem one90 : oneOf Tryz.prog 90 = true := by kernel_rfl
theorem sl57 : sliceOf Tryz.prog 57 = some (90, 1) := by kernel_rfl
theorem sz59 : szOf Tryz.prog 59 = some 2 := by kernel_rfl
theorem ud54 : Tryz.prog.underlying 54 = some (.pointer 59) := by kernel_rfl
theorem extAdd : ExtIs Tryz.prog 104 add64Entry := ⟨_, Tryz.func104, by decide, by decide, by kernel_rfl, by kernel_rfl⟩
theorem extSub : ExtIs Tryz.prog 106 sub64Entry := ⟨_, Tryz.func106, by decide, by decide, by kernel_rfl, by kernel_rfl⟩
theorem twAdd : TwinIs Tryz.prog 66 34 := run_callFunc_twin (twin := "math/big.addVV_g") Tryz.func66 (by kernel_rfl) (by kernel_rfl) (by kernel_rfl) (by kernel_rfl) Tryz.func34 (by kernel_rfl) (by kernel_rfl) (by kernel_rfl)
theorem twSub : TwinIs Tryz.prog 70 35 := run_callFunc_twin (twin := "math/big.subVV_g") Tryz.func70 (by kernel_rfl) (by kernel_rfl) (by kernel_rfl) (by kernel_rfl) Tryz.func35 (by kernel_rfl) (by kernel_rfl) (by kernel_rfl)
theorem two_of {l : List Value} (h : 2 ≤ l.length) : ∃ a b t, l = a :: b :: t := by
 match l, h with
 | a :: b :: t, _ => exact ⟨a, b, t, rfl⟩
theorem one_of {l : List Value} (h : 1 ≤ l.length) : ∃ a t, l = a :: t := by
 match l, h with
 | a :: t, _ => exact ⟨a, t, rfl⟩
theorem elW : Elem Tryz.prog 56 90 1 8 := Elem.of (by kernel_rfl)
theorem mkW : Tryz.prog.underlying 57 = some (.slice 90) ∧ ∃ i, Tryz.prog.info? 90 = some i ∧ i.zero = some (.int .u64 0) ∧ i.size = 1 ∧ i.bytes = 8 := ⟨by kernel_rfl, info_one (by kernel_rfl) (by kernel_rfl)⟩
def wd (a : Nat) : List Nat := if a = 0 then [] else if a < 18446744073709551616 then [a] else [a % 18446744073709551616, a / 18446744073709551616]
theorem wd_pos {a : Nat} (h : 0 < a) (h2 : a < 18446744073709551616) : wd a = [a] := by unfold wd; rw [if_neg (by omega), if_pos h2]
theorem wd_two {a : Nat} (h : 18446744073709551616 ≤ a) : wd a = [a % 18446744073709551616, a / 18446744073709551616] := by unfold wd; rw [if_neg (by omega), if_neg (by omega)]
def bigV (v : Int) (q : Option Addr) (c : Nat) : List Value := [.bool (decide (v < 0)), .slice q (wd v.natAbs).length c]
theorem behind_zero {b o c n : Nat} (hc : 1 ≤ c) : Value.slice (behind (some ⟨b, o, none⟩) c 0 1) (n - 0) (c - 0) = Value.slice (some ⟨b, o, none⟩) n c := by
 have hcz : ¬ c = 0 := by omega
 simp [behind, hcz]
def OwnW (q : Option Addr) (ws : List Nat) (c : Nat) (sl : Seg) : Prop := OwnSl 90 1 q ws.length c (u64sV ws) sl
def Left (s0 : Seg) (G : List Seg) : Prop := G = [] ∨ G = [s0]
theorem Left.drop {w0 w : World} {s s0 : Seg} {G L : List Seg} (h : Left s0 G) (H : Hp w0 w (s :: (G ++ L))) : Hp w0 w (s :: L) := by
 rcases h with rfl | rfl
 · exact H
 · exact (H.pull 1 rfl).drop
theorem ownW_row {g c : Nat} {ws : List Nat} {l : List Value} (hl : l.length = c) (hle : ws.length ≤ c) (ht : l.take ws.length = u64sV ws) : OwnW (some ⟨g, 0, none⟩) ws c [(g, cel l 90)] :=
  ⟨by simp [u64sV], .inr ⟨g, l, rfl, rfl, hle, by rw [hl, Nat.mul_one], by rw [u64sV_len]; exact ht⟩⟩
theorem mem2 {s1 s2 : Seg} {L : List Seg} {e : Nat × Obj} (h : e ∈ L.flatten) : e ∈ (s1 :: s2 :: L).flatten := by
 rw [List.flatten_cons, List.flatten_cons]
 exact List.mem_append_right _ (List.mem_append_right _ h)
theorem bAdd_b {w0 w : World} {F : List Seg} (H : Hp w0 w F) {x y c : Nat} (hc : c ≤ 1) : Ret Tryz.prog 69 [.int .u64 ((x : Nat) : Int), .int .u64 ((y : Nat) : Int), .int .u64 ((c : Nat) : Int)] w fun v w' => v = .tuple #[.int .u64 (((x + y + c) % 18446744073709551616 : Nat) : Int), .int .u64 (((x + y + c) / 18446744073709551616 : Nat) : Int)] ∧ Hp w0 w' F := by
 refine Calls.of_J (n := 35) Tryz.func69 rfl rfl rfl (J.seq (J.region (JL.g (RX.assign) (JL.g (RX.assign) (JL.nil (J.seq (J.cond_f rfl rfl (J.skip (J.seq (J.region (JL.mi rfl (JL.mi rfl (JL.mi rfl (JL.g (RX.ext extAdd rfl rfl (run_addN x y c hc _)) (JL.g (RX.movev (v := .tuple _) rfl) (JL.g (RX.extract rfl rfl) (JL.g (RX.extract rfl rfl) (JL.ai rfl (JL.ai rfl (JL.nil (J.seq (J.region (JL.mi rfl (JL.mi rfl (JL.ai rfl (JL.ai rfl (JL.nil (J.ret2 (v := .int _ _) (x := Value.int _ _) Tryz.func69 rfl rfl rfl ?_))))))))))))))))))))))))))))
 exact ⟨_, rfl, rfl, H⟩
theorem bSub_b {w0 w : World} {F : List Seg} (H : Hp w0 w F) {x y c : Nat} (hc : c ≤ 1) : Ret Tryz.prog 72 [.int .u64 ((x : Nat) : Int), .int .u64 ((y : Nat) : Int), .int .u64 ((c : Nat) : Int)] w fun v w' => v = .tuple #[.int .u64 (((x + 18446744073709551616 - y - c) % 18446744073709551616 : Nat) : Int), .int .u64 ((if x < y + c then 1 else 0 : Nat) : Int)] ∧ Hp w0 w' F := by
 refine Calls.of_J (n := 35) Tryz.func72 rfl rfl rfl (J.seq (J.region (JL.g (RX.assign) (JL.g (RX.assign) (JL.nil (J.seq (J.cond_f rfl rfl (J.skip (J.seq (J.region (JL.mi rfl (JL.mi rfl (JL.mi rfl (JL.g (RX.ext extSub rfl rfl (run_subN x y c hc _)) (JL.g (RX.movev (v := .tuple _) rfl) (JL.g (RX.extract rfl rfl) (JL.g (RX.extract rfl rfl) (JL.ai rfl (JL.ai rfl (JL.nil (J.seq (J.region (JL.mi rfl (JL.mi rfl (JL.ai rfl (JL.ai rfl (JL.nil (J.ret2 (v := .int _ _) (x := Value.int _ _) Tryz.func72 rfl rfl rfl ?_))))))))))))))))))))))))))))
 exact ⟨_, rfl, rfl, H⟩
theorem norm0_b {w0 w : World} {F : List Seg} (H : Hp w0 w F) {p : Option Addr} {c : Nat} (hs : SlAt F p (u64sV [0])) (hc : 1 ≤ c) : Ret Tryz.prog 68 [.slice p 1 c] w fun v w' => v = .slice p 0 c ∧ Hp w0 w' F := by
 refine Calls.of_J (n := 21) Tryz.func68 rfl rfl rfl (J.seq ?_)
 obtain ⟨pb, po, rfl, hpp⟩ := hs.some (by rw [u64sV_len]; exact Nat.one_pos)
 refine J.region (JL.g (RX.assign) (JL.nil (J.seq (J.region (JL.ms rfl (JL.g (RX.len_slice rfl (by rw [sl57]; rfl) rfl) ?_))))))
 refine JL.ai rfl (JL.nil (J.seq (J.block (J.unroll (J.seq (J.seq (J.region (JL.mi rfl (JL.g (RX.gt rfl rfl) (JL.mb rfl (JL.splitS 8 rfl (fun hg => ?_) (fun hg => ?_))))))))))))
 ·
  first | have hgp := of_decide_eq_true hg | skip
  skip
  refine JL.go ⟨_, rfl, hg⟩ (RX.movev (v := .slice _ _ _) rfl) (JL.go ⟨_, rfl, hg⟩ (RX.movev (v := .int _ _) rfl) (JL.go ⟨_, rfl, hg⟩ (RX.sub rfl rfl (w_i64 (r := 0) (by simp) (by decide) (by decide))) (JL.go ⟨_, rfl, hg⟩ (RX.indexAddr rfl rfl sl57 (by omega) (by omega) (o' := po) (by omega)) (JL.go ⟨_, rfl, hg⟩ (RX.loadS H hs rfl (j := 0) (by omega) (v := .int .u64 0) rfl one90) (JL.go ⟨_, rfl, hg⟩ (RX.eq rfl rfl) (JL.g (RX.pick_t rfl hg) (JL.nil (J.cond_t rfl (decide_eq_true rfl) (J.skip (J.block (J.region (JL.mi rfl (JL.g (RX.sub rfl rfl (w_i64 (r := 0) (by simp) (by decide) (by decide))) (JL.ai rfl (JL.nil (J.inBlock (J.again (J.seq (J.seq (J.region (JL.mi rfl (JL.g (RX.gt rfl rfl) (JL.mb rfl (JL.splitS 8 rfl (fun hg2 => ?_) (fun hg2 => ?_)))))))))))))))))))))))))
  ·
   first | have hg2p := of_decide_eq_true hg2 | skip
   exfalso
   simp at hg2
  ·
   first | have hg2p := of_decide_eq_false hg2 | skip
   skip
   refine JL.no ⟨_, rfl, gno hg2⟩ (JL.no ⟨_, rfl, gno hg2⟩ (JL.no ⟨_, rfl, gno hg2⟩ (JL.no ⟨_, rfl, gno hg2⟩ (JL.no ⟨_, rfl, gno hg2⟩ (JL.no ⟨_, rfl, gno hg2⟩ (JL.g (RX.pick_f rfl hg2) (JL.nil (J.cond_f rfl hg2 (J.exit rfl (J.seq (J.region (JL.ms rfl (JL.mi rfl (JL.g (RX.slice_lh rfl rfl rfl sl57 (fun a ha => by cases ha; rfl) (by decide) (by decide) (by omega) (r := 0) (s := 0) rfl rfl) ?_))))))))))))))
   refine JL.al rfl (JL.nil (J.ret1 (v := .slice _ _ _) Tryz.func68 rfl rfl ?_))
   exact ⟨_, rfl, behind_zero (by omega), H⟩
 ·
  first | have hgp := of_decide_eq_false hg | skip
  exfalso
  simp at hg
theorem make_old {w0 w : World} {F : List Seg} (H : Hp w0 w F) {q n m c : Nat} (hn : n ≤ c) : Ret Tryz.prog 65 [.slice (some ⟨q, 0, none⟩) m c, .int .i64 ((n : Nat) : Int)] w fun v w' => v = .slice (some ⟨q, 0, none⟩) n c ∧ Hp w0 w' F := by
 refine Calls.of_J (n := 19) Tryz.func65 rfl rfl rfl (J.seq (J.region (JL.g (RX.assign) (JL.nil (J.seq (J.seq (J.region (JL.mi rfl (JL.ms rfl (JL.g (RX.cap_slice rfl (by rw [sl57]; rfl) rfl) ?_))))))))))
 refine JL.g (RX.le rfl rfl) (JL.nil (J.cond_t rfl (decide_eq_true (by omega)) (J.seq (J.region (JL.ms rfl (JL.mi rfl (JL.g (RX.slice_h rfl rfl sl57 (fun a ha => by cases ha; rfl) (by omega) (by omega) (r := n) (by omega)) ?_)))))))
 refine JL.al rfl (JL.nil (J.ret1 (v := .slice _ _ _) Tryz.func65 rfl rfl ?_))
 exact ⟨_, rfl, rfl, H⟩
theorem make_new {w0 w : World} {F : List Seg} (H : Hp w0 w F) {p : Option Addr} {n m c : Nat} (hn : c < n) (hn1 : 1 ≤ n) (hn2 : n ≤ 3) : Ret Tryz.prog 65 [.slice p m c, .int .i64 ((n : Nat) : Int)] w fun v w' => ∃ b c', v = .slice (some ⟨b, 0, none⟩) n c' ∧ n ≤ c' ∧ Hp w0 w' ([(b, cel (fnL (fun _ => Value.int .u64 0) c') 90)] :: F) := by
 refine Calls.of_J (n := 19) Tryz.func65 rfl rfl rfl (J.seq (J.region (JL.g (RX.assign) (JL.nil (J.seq (J.seq (J.region (JL.mi rfl (JL.ms rfl (JL.g (RX.cap_slice rfl (by rw [sl57]; rfl) rfl) ?_))))))))))
 refine JL.g (RX.le rfl rfl) (JL.nil (J.cond_f rfl (decide_eq_false (by omega)) (J.skip (J.seq (J.seq (J.region (JL.mi rfl (JL.g (RX.eq rfl rfl) (JL.nil (J.cond_d rfl (fun h1 => ?_) (fun h1 => ?_)))))))))))
 ·
  obtain rfl : n = 1 := by omega
  refine J.seq (J.region (JL.e (EX.makeS2 (e := 90) (m := 1) (c := 1) H mkW.1 mkW.2 rfl rfl rfl rfl rfl (by decide) (by decide) (by decide)) ?_))
  rintro _ w ⟨b1, rfl, H⟩
  refine JL.al rfl (JL.nil (J.ret1 (v := .slice _ _ _) Tryz.func65 rfl rfl ?_))
  exact ⟨_, rfl, b1, 1, rfl, by decide, H⟩
 ·
  refine J.skip (J.seq (J.region (JL.mi rfl (JL.mi rfl (JL.g (RX.add rfl rfl (wi (n := n + 4) (by omega) (by omega))) (JL.e (EX.makeS2 (e := 90) (m := n) (c := n + 4) H mkW.1 mkW.2 rfl rfl rfl rfl rfl (by omega) (by omega) (by omega)) ?_))))))
  rintro _ w ⟨b1, rfl, H⟩
  refine JL.al rfl (JL.nil (J.ret1 (v := .slice _ _ _) Tryz.func65 rfl rfl ?_))
  exact ⟨_, rfl, b1, n + 4, rfl, by omega, H⟩
theorem make_b {w0 w : World} {s0 : Seg} {L : List Seg} (H : Hp w0 w (s0 :: L)) {q0 : Option Addr} {ws : List Nat} {c0 n : Nat} (ho : OwnW q0 ws c0 s0) (hn1 : 1 ≤ n) (hn2 : n ≤ 3) : Ret Tryz.prog 65 [.slice q0 ws.length c0, .int .i64 (n : Int)] w fun v w' =>
 ∃ q l c G, v = .slice (some ⟨q, 0, none⟩) n c ∧ n ≤ c ∧ l.length = c ∧ Left s0 G ∧ Hp w0 w' ([(q, cel l 90)] :: (G ++ L)) ∧ (∀ p xs, SlAt (s0 :: L) p xs → SlAt ([(q, cel l 90)] :: (G ++ L)) p xs) := by
 by_cases hc : n ≤ c0
 · obtain ⟨_, ⟨_, _, h, _⟩ | ⟨g, l, rfl, rfl, _, hl, _⟩⟩ := ho
   · omega
   · refine Ret.mono (make_old H hc) ?_
     rintro v w' ⟨rfl, H⟩
     exact ⟨g, l, c0, [], rfl, hc, by rw [hl, Nat.mul_one], .inl rfl, H, fun _ _ h => h⟩
 · refine Ret.mono (make_new H (by omega) hn1 hn2) ?_
   rintro v w' ⟨b, c, rfl, hle, H⟩
   exact ⟨b, _, c, [s0], rfl, hle, fnL_len, .inr rfl, H, fun _ _ h => h.cons⟩
theorem wneg {v : Int} (h : v < 0) (hv : v.natAbs ≤ 9223372036854775808) : IntKind.u64.wrap (0 - IntKind.u64.wrap v) = ((v.natAbs : Nat) : Int) := by
 have e : IntKind.u64.wrap v = v + 18446744073709551616 := by simp only [IntKind.wrap, IntKind.bits, IntKind.signed]; simp; omega
 rw [e]
 simp only [IntKind.wrap, IntKind.bits, IntKind.signed]; simp; omega
theorem ownW_one {b : Nat} (x : Nat) : OwnW (some ⟨b, 0, none⟩) [x] 1 [(b, cel [.int .u64 (x : Int)] 90)] := ownW_row rfl (by simp) rfl
theorem ownW_nil : OwnW none [] 0 [] := OwnSl.nil
theorem NewInt_b {w0 w : World} {F : List Seg} (H : Hp w0 w F) {v : Int} (hv : v.natAbs ≤ 9223372036854775808) : Ret Tryz.prog 16 [.int .i64 v] w fun u w' => ∃ b q c sl, u = .pointer (some ⟨b, 0, none⟩) ∧ OwnW q (wd v.natAbs) c sl ∧ Hp w0 w' ([(b, cel (bigV v q c) 59)] :: sl :: F) := by
 refine Calls.of_J (n := 29) Tryz.func16 rfl rfl rfl (J.seq (J.region (JL.g (RX.assign) (JL.nil (J.seq (J.region (JL.mi rfl (JL.g (RX.conv rfl (by rw [ki2]; rfl) ki86 (rfl : IntKind.u64.wrap v = IntKind.u64.wrap v)) ?_))))))))
 refine JL.ai rfl (JL.nil (J.seq (J.seq (J.region (JL.mi rfl (JL.g (RX.lt rfl rfl) (JL.nil (J.cond_d rfl (fun hneg => ?_) (fun hneg => ?_)))))))))
 ·
  refine J.region (JL.mi rfl (JL.g (RX.neg rfl (wneg hneg hv)) (JL.ai rfl (JL.nil (J.seq (J.region (JL.g (RX.assign) (JL.nil (J.seq (J.seq (J.region (JL.mi rfl (JL.g (RX.eq rfl rfl) (JL.nil (J.cond_d rfl (fun hz => ?_) (fun hz => ?_))))))))))))))))
  ·
   exfalso
   omega
  ·
   refine J.seq (J.region (JL.g (RX.move) (JL.no ⟨_, rfl, gno rfl⟩ (JL.no ⟨_, rfl, gno rfl⟩ (JL.no ⟨_, rfl, gno rfl⟩ (JL.g (RX.pick_f rfl rfl) (JL.nil (J.cond_f rfl rfl (J.region (JL.mi rfl (JL.e (EX.buildSlice1 H elW rfl rfl) ?_)))))))))))
   rintro _ w ⟨bz, rfl, H⟩
   refine JL.al rfl (JL.nil (J.seq (J.region (JL.mi rfl (JL.g (RX.lt rfl rfl) (JL.ms rfl (JL.g (RX.build (pv := [(0, .bool (decide (v < 0))), (1, .slice (some ⟨bz, 0, none⟩) 1 1)]) (res := [.bool (decide (v < 0)), .slice (some ⟨bz, 0, none⟩) 1 1]) rfl (by kernel_rfl)) (JL.e (EX.box (v := .agg _) H rfl rfl) ?_))))))))
   rintro _ w ⟨b1, rfl, H⟩
   refine JL.ap rfl (JL.nil (J.ret1 (v := .pointer _) Tryz.func16 rfl rfl ?_))
   have hp : 0 < v.natAbs := by omega
   unfold bigV
   rw [wd_pos hp (by omega)]
   exact ⟨_, rfl, b1, _, _, _, rfl, ownW_one _, H⟩
 ·
  have e : IntKind.u64.wrap v = ((v.natAbs : Nat) : Int) := w_u64 (by omega) (by omega) (by omega)
  rw [e]
  refine J.skip (J.seq (J.region (JL.g (RX.assign) (JL.nil (J.seq (J.seq (J.region (JL.mi rfl (JL.g (RX.eq rfl rfl) (JL.nil (J.cond_d rfl (fun hz => ?_) (fun hz => ?_))))))))))))
  ·
   replace H := H.nil
   refine J.skip (J.seq (J.region (JL.mi rfl (JL.g (RX.lt rfl rfl) (JL.ms rfl (JL.g (RX.build (pv := [(0, .bool (decide (v < 0))), (1, .slice none 0 0)]) (res := [.bool (decide (v < 0)), .slice none 0 0]) rfl (by kernel_rfl)) (JL.e (EX.box (v := .agg _) H rfl rfl) ?_)))))))
   rintro _ w ⟨b1, rfl, H⟩
   refine JL.ap rfl (JL.nil (J.ret1 (v := .pointer _) Tryz.func16 rfl rfl ?_))
   subst hz
   exact ⟨_, rfl, b1, none, 0, [], rfl, ownW_nil, H⟩
  ·
   refine J.seq (J.region (JL.g (RX.move) (JL.no ⟨_, rfl, gno rfl⟩ (JL.no ⟨_, rfl, gno rfl⟩ (JL.no ⟨_, rfl, gno rfl⟩ (JL.g (RX.pick_f rfl rfl) (JL.nil (J.cond_f rfl rfl (J.region (JL.mi rfl (JL.e (EX.buildSlice1 H elW rfl rfl) ?_)))))))))))
   rintro _ w ⟨bz, rfl, H⟩
   refine JL.al rfl (JL.nil (J.seq (J.region (JL.mi rfl (JL.g (RX.lt rfl rfl) (JL.ms rfl (JL.g (RX.build (pv := [(0, .bool (decide (v < 0))), (1, .slice (some ⟨bz, 0, none⟩) 1 1)]) (res := [.bool (decide (v < 0)), .slice (some ⟨bz, 0, none⟩) 1 1]) rfl (by kernel_rfl)) (JL.e (EX.box (v := .agg _) H rfl rfl) ?_))))))))
   rintro _ w ⟨b1, rfl, H⟩
   refine JL.ap rfl (JL.nil (J.ret1 (v := .pointer _) Tryz.func16 rfl rfl ?_))
   have hp : 0 < v.natAbs := by omega
   unfold bigV
   rw [wd_pos hp (by omega)]
   exact ⟨_, rfl, b1, _, _, _, rfl, ownW_one _, H⟩
theorem wd_len (a : Nat) : (wd a).length = if a = 0 then 0 else if a < 18446744073709551616 then 1 else 2 := by unfold wd; split; rfl; split <;> rfl
theorem wd_le {a : Nat} (h : a < 18446744073709551616) : (wd a).length ≤ 1 := by rw [wd_len]; split <;> (try split) <;> omega
theorem wd_le2 (a : Nat) : (wd a).length ≤ 2 := by rw [wd_len]; split <;> (try split) <;> omega
theorem wd_zero {a : Nat} (h : ((wd a).length : Int) = 0) : a = 0 := by rw [wd_len] at h; split at h; omega; split at h <;> omega
theorem wd_nz {a : Nat} (h : ¬ ((wd a).length : Int) = 0) : 0 < a := by rw [wd_len] at h; split at h <;> omega
theorem low64_b {w0 w : World} {F : List Seg} (H : Hp w0 w F) {a c : Nat} {q : Option Addr} (hs : SlAt F q (u64sV (wd a))) (ha : a < 18446744073709551616) : Ret Tryz.prog 73 [.slice q (wd a).length c] w fun v w' => v = .int .u64 ((a : Nat) : Int) ∧ Hp w0 w' F := by
 refine Calls.of_J (n := 22) Tryz.func73 rfl rfl rfl (J.seq (J.region (JL.g (RX.assign) (JL.nil (J.seq (J.seq (J.region (JL.ms rfl (JL.g (RX.len_slice rfl (by rw [sl57]; rfl) rfl) ?_)))))))))
 refine JL.g (RX.eq rfl rfl) (JL.nil (J.cond_d rfl (fun h0 => ?_) (fun h0 => ?_)))
 ·
  refine J.seq (J.region (JL.g (RX.assign) (JL.nil (J.ret1 (v := .int _ _) Tryz.func73 rfl rfl ?_))))
  obtain rfl := wd_zero h0
  exact ⟨_, rfl, rfl, H⟩
 ·
  have hp := wd_nz h0
  rw [wd_pos hp ha] at hs ⊢
  obtain ⟨pb, po, rfl, hpp⟩ := hs.some (by rw [u64sV_len]; exact Nat.one_pos)
  refine J.skip (J.seq (J.region (JL.ms rfl (JL.g (RX.indexAddr rfl rfl sl57 (by omega) (by simp) (o' := po) (by omega)) (JL.g (RX.loadS H hs rfl (j := 0) (by omega) (v := .int .u64 (a : Int)) rfl one90) (JL.ai rfl (JL.nil (J.seq (J.seq (J.region (JL.g (RX.move) (JL.no ⟨_, rfl, gno rfl⟩ (JL.no ⟨_, rfl, gno rfl⟩ (JL.no ⟨_, rfl, gno rfl⟩ (JL.g (RX.pick_f rfl rfl) (JL.nil (J.cond_f rfl rfl (J.skip (J.seq (J.region (JL.mi rfl (JL.ai rfl (JL.nil (J.ret1 (v := .int _ _) Tryz.func73 rfl rfl ?_))))))))))))))))))))))))
  exact ⟨_, rfl, rfl, H⟩
end Go.Proofs.YtfaokllgaambjaaGreatDoor
namespace Go.Proofs.YtfaokllgaambjaaGreatDoor
open Go Go.Eng
set_option maxRecDepth 100000
set_option maxHeartbeats 1600000
theorem cl69 : callable Tryz.prog 69 = true := by kernel_rfl
theorem cl72 : callable Tryz.prog 72 = true := by kernel_rfl
theorem sl56 : sliceOf Tryz.prog 56 = some (90, 1) := by kernel_rfl
theorem sz90 : szOf Tryz.prog 90 = some 1 := by kernel_rfl
theorem ud162 : Tryz.prog.underlying 162 = some (.pointer 90) := by kernel_rfl
theorem ud56 : Tryz.prog.underlying 56 = some (.slice 90) := by kernel_rfl
theorem sl_next {L : List Seg} {q b o : Nat} {T : TypeId} {z v : Value} {t : List Value} {x y : Value} (h : SlAt ([(q, cel (z :: t) T)] :: L) (some ⟨b, o, none⟩) [x, y]) : SlAt ([(q, cel (v :: t) T)] :: L) (some ⟨b, o + 1, none⟩) [y] := by
 rcases h with h | ⟨b', off, C, T', fz, hp, hm, hc⟩
 · cases h
 · cases hp
   have h1 := hc 1 (by simp)
   rw [List.flatten_cons, List.mem_append] at hm
   rcases hm with hm | hm
   · simp only [List.mem_singleton, Prod.mk.injEq, cel, Obj.cells.injEq] at hm
     obtain ⟨rfl, rfl, rfl, rfl⟩ := hm
     refine .inr ⟨b, o + 1, (v :: t).toArray, _, _, rfl, List.mem_append_left _ (List.mem_singleton.2 rfl), fun j hj => ?_⟩
     obtain rfl : j = 0 := by simpa using hj
     simpa using h1
   · refine .inr ⟨b, o + 1, C, T', fz, rfl, List.mem_append_right _ hm, fun j hj => ?_⟩
     obtain rfl : j = 0 := by simpa using hj
     simpa using h1
def Nm (ws : List Nat) (i : Nat) : Prop := i ≤ ws.length ∧ (∀ j, i ≤ j → j < ws.length → ws[j]? = some 0) ∧ (i = 0 ∨ ∃ x, ws[i - 1]? = some x ∧ x ≠ 0)
theorem nm1 {a i : Nat} (h : Nm [a] i) (ha : a < 18446744073709551616) : i = (wd a).length ∧ [a].take i = wd a := by
 obtain ⟨h1, h2, h3⟩ := h
 have hi : i = 0 ∨ i = 1 := by simp at h1; omega
 rcases hi with rfl | rfl
 · have := h2 0 (by omega) (by simp)
   simp at this; subst this
   exact ⟨rfl, rfl⟩
 · rcases h3 with h3 | ⟨x, h3, h4⟩
   · omega
   · simp at h3; subst h3
     rw [wd_pos (by omega) ha]; exact ⟨rfl, rfl⟩
theorem nm2 {lo hi i : Nat} (h : Nm [lo, hi] i) (h0 : lo < 18446744073709551616) (h1 : hi < 18446744073709551616) : i = (wd (lo + hi * 18446744073709551616)).length ∧ [lo, hi].take i = wd (lo + hi * 18446744073709551616) := by
 obtain ⟨g1, g2, g3⟩ := h
 have hi' : i = 0 ∨ i = 1 ∨ i = 2 := by simp at g1; omega
 rcases hi' with rfl | rfl | rfl
 · have e0 := g2 0 (by omega) (by simp)
   have e1 := g2 1 (by omega) (by simp)
   simp at e0 e1; subst e0 e1
   exact ⟨rfl, rfl⟩
 · have e1 := g2 1 (by omega) (by simp)
   simp at e1; subst e1
   rcases g3 with g3 | ⟨x, g3, g4⟩
   · omega
   · simp at g3; subst g3
     rw [Nat.zero_mul, Nat.add_zero, wd_pos (by omega) h0]; exact ⟨rfl, rfl⟩
 · rcases g3 with g3 | ⟨x, g3, g4⟩
   · omega
   · simp at g3; subst g3
     have e1 : (lo + hi * 18446744073709551616) % 18446744073709551616 = lo := by omega
     have e2 : (lo + hi * 18446744073709551616) / 18446744073709551616 = hi := by omega
     rw [wd_two (by omega), e1, e2]; exact ⟨rfl, rfl⟩
theorem nm3 {lo hi i : Nat} (h : Nm [lo, hi, 0] i) (h0 : lo < 18446744073709551616) (h1 : hi < 18446744073709551616) : i = (wd (lo + hi * 18446744073709551616)).length ∧ [lo, hi, 0].take i = wd (lo + hi * 18446744073709551616) := by
 obtain ⟨g1, g2, g3⟩ := h
 have hi3 : i ≤ 2 := by
   rcases g3 with g3 | ⟨x, g3, g4⟩
   · omega
   · have hi : i ≠ 3 := by
       rintro rfl
       simp at g3; exact g4 g3.symm
     simp at g1; omega
 have h' : Nm [lo, hi] i := by
   refine ⟨by simpa using hi3, fun j h1 h2 => ?_, ?_⟩
   · have hj : j < 2 := by simpa using h2
     have := g2 j h1 (by simp; omega)
     have hj2 : j = 0 ∨ j = 1 := by omega
     rcases hj2 with rfl | rfl <;> simpa using this
   · rcases g3 with g3 | ⟨x, g3, g4⟩
     · exact .inl g3
     · have hj2 : i = 0 ∨ i = 1 ∨ i = 2 := by omega
       rcases hj2 with rfl | rfl | rfl
       · exact .inl rfl
       · exact .inr ⟨x, by simpa using g3, g4⟩
       · exact .inr ⟨x, by simpa using g3, g4⟩
 obtain ⟨e1, e2⟩ := nm2 h' h0 h1
 refine ⟨e1, ?_⟩
 rw [← e2]
 have hj2 : i = 0 ∨ i = 1 ∨ i = 2 := by omega
 rcases hj2 with rfl | rfl | rfl <;> rfl
theorem ownW_nm {g c a i : Nat} {ws : List Nat} {l : List Value} (h : i = (wd a).length ∧ ws.take i = wd a) (hw : i ≤ ws.length) (hl : (u64sV ws ++ l).length = c) : OwnW (some ⟨g, 0, none⟩) (wd a) c [(g, cel (u64sV ws ++ l) 90)] := by
 obtain ⟨h1, h2⟩ := h
 refine ownW_row hl ?_ ?_
 · rw [← h1]; simp [u64sV] at hl; omega
 · rw [← h1, List.take_append_of_le_length (by rw [u64sV_len]; exact hw), ← h2]
   simp [u64sV, List.map_take]
theorem RX.ptr_neq {P : Program} {w w0 : World} {L : List Seg} {ρ : Operand → Value} {d : Option Tmp} {x y : Operand} {ty : TypeId} {pos : String} {af : Array Edge} {g : Option (Nat × Bool)} {t t' u k a b o o' : Nat} {ca cb : Array Value} {ta tb : TypeId} (H : Hp w0 w L) (hx : ρ x = .pointer (some ⟨a, o, none⟩)) (hy : ρ y = .pointer (some ⟨b, o', none⟩)) (h : P.underlying t = some (.pointer u)) (hu : szOf P u = some (k + 1))
 (hal : a = b → o = o') (ha : (a, Obj.cells ca ta (0, 0)) ∈ L.flatten) (hb : (b, Obj.cells cb tb (0, 0)) ∈ L.flatten) : Runs P ρ ⟨d, .binOp .neq t x y t', ty, pos, af, g⟩ w (.bool (decide (¬ a = b))) := by
 obtain ⟨j, hj, hjs⟩ := Option.map_eq_some_iff.1 hu
 by_cases e : a = b
 · subst e
   obtain rfl := hal rfl
   have hr := run_eql_ptr_same (P := P) w ⟨a, o, none⟩ h hj
   unfold Runs
   simp [binOp] at hr
   simp [execOp, hx, hy, eqGuard_at_pointer, binOp]
   generalize Sem.run P (Op.equal t (Value.pointer (some { block := a, off := o })) (Value.pointer (some { block := a, off := o }))) w = R at hr ⊢
   cases R <;> simp_all
 · have hr := run_eql_ptr_other (P := P) w (a := ⟨a, o, none⟩) (b := ⟨b, o', none⟩) h hj (by rw [hjs]; omega) (by intro e2; cases e2; exact e rfl) (H.mem _ ha) (H.mem _ hb)
   unfold Runs
   simp [binOp] at hr
   simp [execOp, hx, hy, eqGuard_at_pointer, binOp]
   generalize Sem.run P (Op.equal t (Value.pointer (some { block := a, off := o })) (Value.pointer (some { block := b, off := o' }))) w = R at hr ⊢
   cases R <;> simp_all
theorem EX.copy0 {P : Program} {w w0 : World} {L : List Seg} {ρ : Operand → Value} {dd : Option Tmp} {x y : Operand} {ty : TypeId} {pos : String} {af : Array Edge} {g : Option (Nat × Bool)} {t t' e n1 c1 n2 c2 : Nat} {d a : Option Addr} (H : Hp w0 w L) (hx : ρ x = .slice d n1 c1) (hy : ρ y = .slice a n2 c2) (hu : P.underlying t = some (.slice e)) (hsz : (P.info? e).map (·.size) = some 1) (hn : n2 = 0) :
 Does P ρ ⟨dd, .call { callee := .builtin .copy, args := #[x, y], argTypes := #[t, t'] }, ty, pos, af, g⟩ w fun u w' => u = .int .i64 0 ∧ Hp w0 w' L := by
 have hrun := run_copy_none (P := P) w t t' ty e d a n1 c1 n2 c2 hu hsz (by rw [hn]; exact Nat.zero_min _)
 refine Does.of_run (v := goInt 0) (w' := w) ?_ ⟨rfl, H⟩
 simp [execOp, resolve, invoke, builtin, hx, hy] at hrun ⊢
 simp [hrun]
theorem behind_at {b o c l : Nat} (h : c ≠ l) : behind (some ⟨b, o, none⟩) c l 1 = some ⟨b, o + l, none⟩ := by
 simp [behind, h]
theorem ownW_some {q0 : Option Addr} {ws : List Nat} {c0 : Nat} {s0 : Seg} (ho : OwnW q0 ws c0 s0) (hw : 0 < ws.length) : ∃ g l, q0 = some ⟨g, 0, none⟩ ∧ s0 = [(g, cel l 90)] ∧ ws.length ≤ c0 ∧ l.length = c0 ∧ l.take ws.length = u64sV ws := by
 obtain ⟨_, ⟨_, h, _, _⟩ | ⟨g, l, h1, h2, h3, h4, h5⟩⟩ := ho
 · omega
 · rw [u64sV_len] at h5
   exact ⟨g, l, h1, h2, h3, by rw [h4, Nat.mul_one], h5⟩
theorem OwnW.none_ {q0 : Option Addr} {ws : List Nat} {c0 : Nat} {s0 : Seg} (h : OwnW q0 ws c0 s0) : OwnW q0 [] c0 s0 := by
 obtain ⟨_, ⟨rfl, h2, rfl, rfl⟩ | ⟨g, l, rfl, rfl, hle, hl, _⟩⟩ := h
 · exact OwnSl.nil
 · exact ⟨by simp [u64sV], .inr ⟨g, l, rfl, rfl, by simp, hl, by simp [u64sV]⟩⟩
theorem make_own {w0 w : World} {L : List Seg} {g c0 n m : Nat} {l0 : List Value} (H : Hp w0 w ([(g, cel l0 90)] :: L)) (hl0 : l0.length = c0) (hn1 : 1 ≤ n) (hn2 : n ≤ 3) : Ret Tryz.prog 65 [.slice (some ⟨g, 0, none⟩) m c0, .int .i64 ((n : Nat) : Int)] w fun v w' =>
 ∃ q l c G, v = .slice (some ⟨q, 0, none⟩) n c ∧ n ≤ c ∧ l.length = c ∧ ((q = g ∧ l = l0 ∧ G = []) ∨ (q ≠ g ∧ G = [[(g, cel l0 90)]])) ∧ Hp w0 w' ([(q, cel l 90)] :: (G ++ L)) := by
 by_cases hc : n ≤ c0
 · refine Ret.mono (make_old H hc) ?_
   rintro v w' ⟨rfl, H⟩
   exact ⟨g, l0, c0, [], rfl, hc, hl0, .inl ⟨rfl, rfl, rfl⟩, H⟩
 · refine Ret.mono (make_new H (by omega) hn1 hn2) ?_
   rintro v w' ⟨b, c, rfl, hle, H⟩
   refine ⟨b, _, c, [[(g, cel l0 90)]], rfl, hle, fnL_len, .inr ⟨?_, rfl⟩, H⟩
   have := H.nd
   simp at this
   exact this.1.1
theorem norm_b {w0 w : World} {F : List Seg} (H : Hp w0 w F) {q c : Nat} {ws : List Nat} (hs : SlAt F (some ⟨q, 0, none⟩) (u64sV ws)) (hc : ws.length ≤ c) (hc1 : 1 ≤ c) (hn : ws.length ≤ 9) : Ret Tryz.prog 68 [.slice (some ⟨q, 0, none⟩) ws.length c] w fun v w' => ∃ i, v = .slice (some ⟨q, 0, none⟩) i c ∧ Nm ws i ∧ Hp w0 w' F := by
 refine Calls.of_J (n := 21) Tryz.func68 rfl rfl rfl (J.seq (J.region (JL.g (RX.assign) (JL.nil (J.seq (J.region (JL.ms rfl (JL.g (RX.len_slice rfl (by rw [sl57]; rfl) rfl) ?_))))))))
 refine JL.ai rfl (JL.nil (J.seq (J.block (J.loop (ι := Nat) (S := fun i => [(3, .int .i64 ((i : Nat) : Int))]) (Φ := fun i w => i ≤ ws.length ∧ (∀ j, i ≤ j → j < ws.length → ws[j]? = some 0) ∧ Hp w0 w F) (μ := fun i => i) (C := [(0, _)]) ws.length ⟨rfl, trivial⟩ ⟨rfl, trivial⟩ ?_ ?_))))
 · exact ⟨Nat.le_refl _, fun j h1 h2 => by omega, H⟩
 clear H
 rintro i ρ w ⟨hi, hz, H⟩ IH
 refine J.seq (J.seq (J.region (JL.mi rfl (JL.g (RX.gt rfl rfl) (JL.mb rfl (JL.splitS 8 rfl (fun hg => ?_) (fun hg => ?_)))))))
 ·
  first | have hgp := of_decide_eq_true hg | skip
  have hg1 := of_decide_eq_true hg
  obtain ⟨x, hx⟩ : ∃ x, ws[i - 1]? = some x := ⟨_, List.getElem?_eq_getElem (by omega)⟩
  refine JL.go ⟨_, rfl, hg⟩ (RX.movev (v := .slice _ _ _) rfl) (JL.go ⟨_, rfl, hg⟩ (RX.movev (v := .int _ _) rfl) (JL.go ⟨_, rfl, hg⟩ (RX.sub rfl rfl (wi (n := i - 1) (by omega) (by omega))) (JL.go ⟨_, rfl, hg⟩ (RX.indexAddr rfl rfl sl57 (by omega) (by omega) (o' := i - 1) (by omega)) (JL.go ⟨_, rfl, hg⟩ (RX.loadS H hs rfl (j := i - 1) (by omega) (v := .int .u64 (x : Int)) (u64sV_get hx) one90) (JL.go ⟨_, rfl, hg⟩ (RX.eq rfl rfl) (JL.g (RX.pick_t rfl hg) (JL.nil (J.cond_d rfl (fun hx0 => ?_) (fun hx0 => ?_)))))))))
  ·
   refine J.skip (J.block (J.region (JL.mi rfl (JL.g (RX.sub rfl rfl (wi (n := i - 1) (by omega) (by omega))) (JL.ai rfl (JL.nil (J.inBlock (IH (i - 1) _ _ (by omega) ⟨rfl, trivial⟩ ⟨rfl, trivial⟩ ⟨by omega, fun j h1 h2 => ?_, H⟩))))))))
   by_cases e : j = i - 1
   · subst e; rw [hx]; congr 1; omega
   · exact hz j (by omega) h2
  ·
   refine J.exit rfl (J.seq (J.region (JL.ms rfl (JL.mi rfl (JL.g (RX.slice_lh rfl rfl rfl sl57 (fun a ha => by cases ha; rfl) (by omega) (by omega) (by omega) (r := 0) (s := i) rfl (by omega)) ?_)))))
   refine JL.al rfl (JL.nil (J.ret1 (v := .slice _ _ _) Tryz.func68 rfl rfl ?_))
   exact ⟨_, rfl, i, behind_zero hc1, ⟨hi, hz, .inr ⟨x, hx, by omega⟩⟩, H⟩
 ·
  first | have hgp := of_decide_eq_false hg | skip
  refine JL.no ⟨_, rfl, gno hg⟩ (JL.no ⟨_, rfl, gno hg⟩ (JL.no ⟨_, rfl, gno hg⟩ (JL.no ⟨_, rfl, gno hg⟩ (JL.no ⟨_, rfl, gno hg⟩ (JL.no ⟨_, rfl, gno hg⟩ (JL.g (RX.pick_f rfl hg) (JL.nil (J.cond_f rfl rfl (J.exit rfl (J.seq (J.region (JL.ms rfl (JL.mi rfl (JL.g (RX.slice_lh rfl rfl rfl sl57 (fun a ha => by cases ha; rfl) (by omega) (by omega) (by omega) (r := 0) (s := i) rfl (by omega)) ?_))))))))))))))
  refine JL.al rfl (JL.nil (J.ret1 (v := .slice _ _ _) Tryz.func68 rfl rfl ?_))
  have hg0 := of_decide_eq_false hg
  exact ⟨_, rfl, i, behind_zero hc1, ⟨hi, hz, .inl (by omega)⟩, H⟩
theorem addVV_b {w0 w : World} {L : List Seg} {q c1 c2 c3 x y : Nat} {px py : Option Addr} {z : Value} {l : List Value} (H : Hp w0 w ([(q, cel (z :: l) 90)] :: L)) (hs : SlAt ([(q, cel (z :: l) 90)] :: L) px (u64sV [x])) (hs2 : SlAt ([(q, cel (z :: l) 90)] :: L) py (u64sV [y])) : Ret Tryz.prog 34 [.slice (some ⟨q, 0, none⟩) 1 c1, .slice px 1 c2, .slice py 1 c3] w fun v w' => v = .int .u64 (((x + y) / 18446744073709551616 : Nat) : Int) ∧ Hp w0 w' ([(q, cel (.int .u64 (((x + y) % 18446744073709551616 : Nat) : Int) :: l) 90)] :: L) := by
 refine Calls.of_J (n := 47) Tryz.func34 rfl rfl rfl (J.seq ?_)
 obtain ⟨pb, po, rfl, hpp⟩ := hs.some (by rw [u64sV_len]; exact Nat.one_pos)
 obtain ⟨pb2, po2, rfl, hpp2⟩ := hs2.some (by rw [u64sV_len]; exact Nat.one_pos)
 refine J.region (JL.g (RX.assign) (JL.nil (J.seq (J.seq (J.region (JL.ms rfl (JL.g (RX.len_slice rfl (by rw [sl56]; rfl) rfl) ?_)))))))
 refine JL.ms rfl (JL.g (RX.len_slice rfl (by rw [sl56]; rfl) rfl) ?_)
 refine JL.g (RX.ne rfl rfl) (JL.mb rfl (JL.go ⟨_, rfl, rfl⟩ (RX.movev (v := .slice _ _ _) rfl) (JL.go ⟨_, rfl, rfl⟩ (RX.len_slice rfl (by rw [sl56]; rfl) rfl) ?_)))
 refine JL.go ⟨_, rfl, rfl⟩ (RX.movev (v := .slice _ _ _) rfl) (JL.go ⟨_, rfl, rfl⟩ (RX.len_slice rfl (by rw [sl56]; rfl) rfl) ?_)
 refine JL.go ⟨_, rfl, rfl⟩ (RX.ne rfl rfl) (JL.g (RX.pick_f rfl rfl) (JL.nil (J.cond_f rfl rfl (J.skip (J.seq (J.seq (J.region (JL.ms rfl (JL.g (RX.len_slice rfl (by rw [sl56]; rfl) rfl) ?_)))))))))
 refine JL.g (RX.move) (JL.nil (J.block (J.unroll (J.seq (J.region (JL.g (RX.lt rfl rfl) (JL.nil (J.seq (J.cond_t rfl (decide_eq_true (by decide)) (J.skip (J.seq (J.block (J.seq (J.region (JL.mi rfl (JL.ai rfl (JL.nil (J.seq (J.quietH H hmix (by kernel_rfl) (JQ.g (fun w H => RX.movev (v := .slice _ _ _) rfl) (JQ.g (fun w H => RX.movev (v := .int _ _) rfl) (JQ.g (fun w H => RX.indexAddr rfl rfl sl56 (by omega) (by omega) (o' := po) (by omega)) (JQ.g (fun w H => RX.loadS H hs rfl (j := 0) (by omega) (v := .int .u64 (x : Int)) rfl one90) (JQ.g (fun w H => RX.movev (v := .slice _ _ _) rfl) (JQ.g (fun w H => RX.movev (v := .int _ _) rfl) (JQ.g (fun w H => RX.indexAddr rfl rfl sl56 (by omega) (by omega) (o' := po2) (by omega)) (JQ.g (fun w H => RX.loadS H hs2 rfl (j := 0) (by omega) (v := .int .u64 (y : Int)) rfl one90) (JQ.g (fun w H => RX.movev (v := .int _ _) rfl) (JQ.call trivial (fun w H => run_callq rfl cl69 rfl) (fun w H => (bAdd_b (c := 0) H (by decide))) (JQ.g (fun w H => RX.movev (v := .tuple _) rfl) (JQ.g (fun w H => RX.extract rfl rfl) (JQ.g (fun w H => RX.extract rfl rfl) (JQ.g (fun w H => RX.assignv (v := .int _ _) rfl) (JQ.g (fun w H => RX.assignv (v := .int _ _) rfl) (JQ.nil fun w H => ?_)))))))))))))))))))))))))))))))))))
 simp only [Nat.add_zero]
 refine J.seq (J.region (JL.ms rfl (JL.mi rfl (JL.mi rfl (JL.g (RX.indexAddr rfl rfl sl56 (by omega) (by omega) rfl) (JL.e (by first | exact EX.store (v := .int _ _) H rfl rfl (i := 0) rfl rfl (by simp) sz90 rfl rfl) ?_))))))
 rintro _ w H
 refine JL.nil (J.region (JL.mi rfl (JL.ai rfl (JL.nil (J.inBlock (J.region (JL.g (RX.add rfl rfl (w_i64 rfl (by omega) (by omega))) (JL.mi rfl (JL.nil (J.again (J.seq (J.region (JL.g (RX.lt rfl rfl) (JL.nil (J.seq (J.cond_f rfl (decide_eq_false (by decide)) (J.exit rfl (J.ret1 (v := .int _ _) Tryz.func34 rfl rfl ?_))))))))))))))))))
 exact ⟨_, rfl, rfl, H⟩
theorem subVV_b {w0 w : World} {L : List Seg} {q c1 c2 c3 x y : Nat} {px py : Option Addr} {z : Value} {l : List Value} (H : Hp w0 w ([(q, cel (z :: l) 90)] :: L)) (hs : SlAt ([(q, cel (z :: l) 90)] :: L) px (u64sV [x])) (hs2 : SlAt ([(q, cel (z :: l) 90)] :: L) py (u64sV [y])) : Ret Tryz.prog 35 [.slice (some ⟨q, 0, none⟩) 1 c1, .slice px 1 c2, .slice py 1 c3] w fun v w' => v = .int .u64 ((if x < y then 1 else 0 : Nat) : Int) ∧ Hp w0 w' ([(q, cel (.int .u64 (((x + 18446744073709551616 - y) % 18446744073709551616 : Nat) : Int) :: l) 90)] :: L) := by
 refine Calls.of_J (n := 47) Tryz.func35 rfl rfl rfl (J.seq ?_)
 obtain ⟨pb, po, rfl, hpp⟩ := hs.some (by rw [u64sV_len]; exact Nat.one_pos)
 obtain ⟨pb2, po2, rfl, hpp2⟩ := hs2.some (by rw [u64sV_len]; exact Nat.one_pos)
 refine J.region (JL.g (RX.assign) (JL.nil (J.seq (J.seq (J.region (JL.ms rfl (JL.g (RX.len_slice rfl (by rw [sl56]; rfl) rfl) ?_)))))))
 refine JL.ms rfl (JL.g (RX.len_slice rfl (by rw [sl56]; rfl) rfl) ?_)
 refine JL.g (RX.ne rfl rfl) (JL.mb rfl (JL.go ⟨_, rfl, rfl⟩ (RX.movev (v := .slice _ _ _) rfl) (JL.go ⟨_, rfl, rfl⟩ (RX.len_slice rfl (by rw [sl56]; rfl) rfl) ?_)))
 refine JL.go ⟨_, rfl, rfl⟩ (RX.movev (v := .slice _ _ _) rfl) (JL.go ⟨_, rfl, rfl⟩ (RX.len_slice rfl (by rw [sl56]; rfl) rfl) ?_)
 refine JL.go ⟨_, rfl, rfl⟩ (RX.ne rfl rfl) (JL.g (RX.pick_f rfl rfl) (JL.nil (J.cond_f rfl rfl (J.skip (J.seq (J.seq (J.region (JL.ms rfl (JL.g (RX.len_slice rfl (by rw [sl56]; rfl) rfl) ?_)))))))))
 refine JL.g (RX.move) (JL.nil (J.block (J.unroll (J.seq (J.region (JL.g (RX.lt rfl rfl) (JL.nil (J.seq (J.cond_t rfl (decide_eq_true (by decide)) (J.skip (J.seq (J.block (J.seq (J.region (JL.mi rfl (JL.ai rfl (JL.nil (J.seq (J.quietH H hmix (by kernel_rfl) (JQ.g (fun w H => RX.movev (v := .slice _ _ _) rfl) (JQ.g (fun w H => RX.movev (v := .int _ _) rfl) (JQ.g (fun w H => RX.indexAddr rfl rfl sl56 (by omega) (by omega) (o' := po) (by omega)) (JQ.g (fun w H => RX.loadS H hs rfl (j := 0) (by omega) (v := .int .u64 (x : Int)) rfl one90) (JQ.g (fun w H => RX.movev (v := .slice _ _ _) rfl) (JQ.g (fun w H => RX.movev (v := .int _ _) rfl) (JQ.g (fun w H => RX.indexAddr rfl rfl sl56 (by omega) (by omega) (o' := po2) (by omega)) (JQ.g (fun w H => RX.loadS H hs2 rfl (j := 0) (by omega) (v := .int .u64 (y : Int)) rfl one90) (JQ.g (fun w H => RX.movev (v := .int _ _) rfl) (JQ.call trivial (fun w H => run_callq rfl cl72 rfl) (fun w H => (bSub_b (c := 0) H (by decide))) (JQ.g (fun w H => RX.movev (v := .tuple _) rfl) (JQ.g (fun w H => RX.extract rfl rfl) (JQ.g (fun w H => RX.extract rfl rfl) (JQ.g (fun w H => RX.assignv (v := .int _ _) rfl) (JQ.g (fun w H => RX.assignv (v := .int _ _) rfl) (JQ.nil fun w H => ?_)))))))))))))))))))))))))))))))))))
 simp only [Nat.add_zero, Nat.sub_zero]
 refine J.seq (J.region (JL.ms rfl (JL.mi rfl (JL.mi rfl (JL.g (RX.indexAddr rfl rfl sl56 (by omega) (by omega) rfl) (JL.e (by first | exact EX.store (v := .int _ _) H rfl rfl (i := 0) rfl rfl (by simp) sz90 rfl rfl) ?_))))))
 rintro _ w H
 refine JL.nil (J.region (JL.mi rfl (JL.ai rfl (JL.nil (J.inBlock (J.region (JL.g (RX.add rfl rfl (w_i64 rfl (by omega) (by omega))) (JL.mi rfl (JL.nil (J.again (J.seq (J.region (JL.g (RX.lt rfl rfl) (JL.nil (J.seq (J.cond_f rfl (decide_eq_false (by decide)) (J.exit rfl (J.ret1 (v := .int _ _) Tryz.func35 rfl rfl ?_))))))))))))))))))
 exact ⟨_, rfl, rfl, H⟩
theorem addVW_b {w0 w : World} {L : List Seg} {q c1 c2 b o x k : Nat} {z0 z1 : Value} {l : List Value} (H : Hp w0 w ([(q, cel (z0 :: z1 :: l) 90)] :: L)) (hs : SlAt ([(q, cel (z0 :: z1 :: l) 90)] :: L) (some ⟨b, o, none⟩) (u64sV [x])) (hal : q = b → 1 = o) {C : Array Value} {TC : TypeId} (hm : b = q ∨ (b, Obj.cells C TC (0, 0)) ∈ L.flatten) (hk : k ≤ 1) (hx : x + k < 18446744073709551616) : Ret Tryz.prog 67 [.slice (some ⟨q, 1, none⟩) 1 c1, .slice (some ⟨b, o, none⟩) 1 c2, .int .u64 ((k : Nat) : Int)] w fun v w' => v = .int .u64 0 ∧ Hp w0 w' ([(q, cel (z0 :: .int .u64 ((x + k : Nat) : Int) :: l) 90)] :: L) := by
 refine Calls.of_J (n := 78) Tryz.func67 rfl rfl rfl (J.seq (J.region (JL.g (RX.assign) (JL.nil (J.seq (J.seq (J.region (JL.ms rfl (JL.g (RX.len_slice rfl (by rw [sl56]; rfl) rfl) ?_)))))))))
 refine JL.ms rfl (JL.g (RX.len_slice rfl (by rw [sl56]; rfl) rfl) ?_)
 refine JL.g (RX.ne rfl rfl) (JL.nil (J.cond_f rfl (decide_eq_false (by simp)) (J.skip (J.seq (J.seq (J.region (JL.ms rfl (JL.g (RX.len_slice rfl (by rw [sl56]; rfl) rfl) ?_))))))))
 refine JL.g (RX.eq rfl rfl) (JL.nil (J.cond_f rfl (decide_eq_false (by decide)) (J.skip (J.seq (J.region (JL.ms rfl (JL.g (RX.indexAddr rfl rfl sl56 (by omega) (by omega) (o' := o) (by omega)) (JL.g (RX.loadS H hs rfl (j := 0) (by omega) (v := .int .u64 (x : Int)) rfl one90) (JL.mi rfl (JL.e (EX.call rfl cl69 rfl ((bAdd_b (c := 0) H (by decide)))) ?_))))))))))
 rintro _ w ⟨rfl, H⟩
 refine JL.g (RX.movev (v := .tuple _) rfl) (JL.g (RX.extract rfl rfl) (JL.g (RX.extract rfl rfl) (JL.ai rfl (JL.ai rfl (JL.nil ?_)))))
 have e1 : (x + k + 0) % 18446744073709551616 = x + k := by omega
 have e2 : (x + k + 0) / 18446744073709551616 = 0 := by omega
 rw [e1, e2]
 refine J.seq (J.region (JL.ms rfl (JL.mi rfl (JL.g (RX.indexAddr rfl rfl sl56 (by omega) (by omega) (o' := 1) (by omega)) (JL.e (EX.store (v := .int _ _) H rfl rfl (i := 0) rfl rfl (by simp) sz90 rfl rfl) ?_)))))
 rintro _ w H
 refine JL.nil (J.seq (J.seq (J.region (JL.mi rfl (JL.g (RX.eq rfl rfl) (JL.nil (J.cond_t rfl (decide_eq_true rfl) (J.seq (J.seq ?_)))))))))
 have hmq : (q, Obj.cells (z0 :: .int .u64 ((x + k : Nat) : Int) :: l).toArray 90 (0, 0)) ∈ (([(q, cel (z0 :: .int .u64 ((x + k : Nat) : Int) :: l) 90)] : Seg) :: L).flatten := List.mem_append_left _ (List.mem_singleton.2 rfl)
 obtain ⟨CB, TB, hmb⟩ : ∃ CB TB, (b, Obj.cells CB TB (0, 0)) ∈ (([(q, cel (z0 :: .int .u64 ((x + k : Nat) : Int) :: l) 90)] : Seg) :: L).flatten := by
   rcases hm with rfl | hm
   · exact ⟨_, _, hmq⟩
   · exact ⟨_, _, List.mem_append_right _ hm⟩
 refine J.quietH H hmix (by kernel_rfl) (JQ.g (fun w H => RX.movev (v := .slice _ _ _) rfl) (JQ.g (fun w H => RX.indexAddr rfl rfl sl56 (by omega) (by omega) (o' := 1) (by omega)) (JQ.g (fun w H => RX.movev (v := .slice _ _ _) rfl) (JQ.g (fun w H => RX.indexAddr rfl rfl sl56 (by omega) (by omega) (o' := o) (by omega)) (JQ.g (fun w H => RX.ptr_neq H rfl rfl ud162 (k := 0) sz90 hal hmq hmb) (JQ.nil fun w H => (J.cond_d rfl (fun h1 => ?_) (fun h1 => ?_))))))))
 ·
  refine J.any hmix fun w hs => ?_
  replace H := H.same hs; clear hs
  refine JA.take 0 rfl (by kernel_rfl) (by kernel_rfl) (by kernel_rfl) rfl trivial (fun w => RX.movev (v := .slice _ _ _) rfl) (JA.take 1 rfl (by kernel_rfl) (by kernel_rfl) (by kernel_rfl) rfl trivial (fun w => RX.slice_l rfl rfl sl56 (fun a ha => by cases ha; rfl) (by decide) (by decide) (r := 1) rfl) ?_)
  refine JA.take 2 rfl (by kernel_rfl) (by kernel_rfl) (by kernel_rfl) rfl trivial (fun w => RX.movev (v := .slice _ _ _) rfl) (JA.take 3 rfl (by kernel_rfl) (by kernel_rfl) (by kernel_rfl) rfl trivial (fun w => RX.slice_l rfl rfl sl56 (fun a ha => by cases ha; rfl) (by decide) (by decide) (r := 1) rfl) ?_)
  refine JA.all [4] (by kernel_rfl) (by decide) (JO.does rfl rfl trivial (EX.copy0 H rfl rfl ud56 (by kernel_rfl) rfl) ?_)
  rintro _ w ⟨rfl, H⟩
  refine JA.done (by kernel_rfl) (J.seq (J.region (JL.g (RX.assign) (JL.nil (J.ret1 (v := .int _ _) Tryz.func67 rfl rfl ?_)))))
  exact ⟨_, rfl, rfl, H⟩
 ·
  refine J.skip (J.seq (J.region (JL.g (RX.assign) (JL.nil (J.ret1 (v := .int _ _) Tryz.func67 rfl rfl ?_)))))
  exact ⟨_, rfl, rfl, H⟩
theorem subVW_b {w0 w : World} {L : List Seg} {q c1 c2 b o x k : Nat} {z0 z1 : Value} {l : List Value} (H : Hp w0 w ([(q, cel (z0 :: z1 :: l) 90)] :: L)) (hs : SlAt ([(q, cel (z0 :: z1 :: l) 90)] :: L) (some ⟨b, o, none⟩) (u64sV [x])) (hal : q = b → 1 = o) {C : Array Value} {TC : TypeId} (hm : b = q ∨ (b, Obj.cells C TC (0, 0)) ∈ L.flatten) (hk : k ≤ 1) (hkx : k ≤ x) (hx : x < 18446744073709551616) : Ret Tryz.prog 71 [.slice (some ⟨q, 1, none⟩) 1 c1, .slice (some ⟨b, o, none⟩) 1 c2, .int .u64 ((k : Nat) : Int)] w fun v w' => v = .int .u64 0 ∧ Hp w0 w' ([(q, cel (z0 :: .int .u64 ((x - k : Nat) : Int) :: l) 90)] :: L) := by
 refine Calls.of_J (n := 78) Tryz.func71 rfl rfl rfl (J.seq (J.region (JL.g (RX.assign) (JL.nil (J.seq (J.seq (J.region (JL.ms rfl (JL.g (RX.len_slice rfl (by rw [sl56]; rfl) rfl) ?_)))))))))
 refine JL.ms rfl (JL.g (RX.len_slice rfl (by rw [sl56]; rfl) rfl) ?_)
 refine JL.g (RX.ne rfl rfl) (JL.nil (J.cond_f rfl (decide_eq_false (by simp)) (J.skip (J.seq (J.seq (J.region (JL.ms rfl (JL.g (RX.len_slice rfl (by rw [sl56]; rfl) rfl) ?_))))))))
 refine JL.g (RX.eq rfl rfl) (JL.nil (J.cond_f rfl (decide_eq_false (by decide)) (J.skip (J.seq (J.region (JL.ms rfl (JL.g (RX.indexAddr rfl rfl sl56 (by omega) (by omega) (o' := o) (by omega)) (JL.g (RX.loadS H hs rfl (j := 0) (by omega) (v := .int .u64 (x : Int)) rfl one90) (JL.mi rfl (JL.e (EX.call rfl cl72 rfl ((bSub_b (c := 0) H (by decide)))) ?_))))))))))
 rintro _ w ⟨rfl, H⟩
 refine JL.g (RX.movev (v := .tuple _) rfl) (JL.g (RX.extract rfl rfl) (JL.g (RX.extract rfl rfl) (JL.ai rfl (JL.ai rfl (JL.nil ?_)))))
 have e1 : (x + 18446744073709551616 - k - 0) % 18446744073709551616 = x - k := by omega
 have e2 : (if x < k + 0 then 1 else 0 : Nat) = 0 := if_neg (by omega)
 rw [e1, e2]
 refine J.seq (J.region (JL.ms rfl (JL.mi rfl (JL.g (RX.indexAddr rfl rfl sl56 (by omega) (by omega) (o' := 1) (by omega)) (JL.e (EX.store (v := .int _ _) H rfl rfl (i := 0) rfl rfl (by simp) sz90 rfl rfl) ?_)))))
 rintro _ w H
 refine JL.nil (J.seq (J.seq (J.region (JL.mi rfl (JL.g (RX.eq rfl rfl) (JL.nil (J.cond_t rfl (decide_eq_true rfl) (J.seq (J.seq ?_)))))))))
 have hmq : (q, Obj.cells (z0 :: .int .u64 ((x - k : Nat) : Int) :: l).toArray 90 (0, 0)) ∈ (([(q, cel (z0 :: .int .u64 ((x - k : Nat) : Int) :: l) 90)] : Seg) :: L).flatten := List.mem_append_left _ (List.mem_singleton.2 rfl)
 obtain ⟨CB, TB, hmb⟩ : ∃ CB TB, (b, Obj.cells CB TB (0, 0)) ∈ (([(q, cel (z0 :: .int .u64 ((x - k : Nat) : Int) :: l) 90)] : Seg) :: L).flatten := by
   rcases hm with rfl | hm
   · exact ⟨_, _, hmq⟩
   · exact ⟨_, _, List.mem_append_right _ hm⟩
 refine J.quietH H hmix (by kernel_rfl) (JQ.g (fun w H => RX.movev (v := .slice _ _ _) rfl) (JQ.g (fun w H => RX.indexAddr rfl rfl sl56 (by omega) (by omega) (o' := 1) (by omega)) (JQ.g (fun w H => RX.movev (v := .slice _ _ _) rfl) (JQ.g (fun w H => RX.indexAddr rfl rfl sl56 (by omega) (by omega) (o' := o) (by omega)) (JQ.g (fun w H => RX.ptr_neq H rfl rfl ud162 (k := 0) sz90 hal hmq hmb) (JQ.nil fun w H => (J.cond_d rfl (fun h1 => ?_) (fun h1 => ?_))))))))
 ·
  refine J.any hmix fun w hs => ?_
  replace H := H.same hs; clear hs
  refine JA.take 0 rfl (by kernel_rfl) (by kernel_rfl) (by kernel_rfl) rfl trivial (fun w => RX.movev (v := .slice _ _ _) rfl) (JA.take 1 rfl (by kernel_rfl) (by kernel_rfl) (by kernel_rfl) rfl trivial (fun w => RX.slice_l rfl rfl sl56 (fun a ha => by cases ha; rfl) (by decide) (by decide) (r := 1) rfl) ?_)
  refine JA.take 2 rfl (by kernel_rfl) (by kernel_rfl) (by kernel_rfl) rfl trivial (fun w => RX.movev (v := .slice _ _ _) rfl) (JA.take 3 rfl (by kernel_rfl) (by kernel_rfl) (by kernel_rfl) rfl trivial (fun w => RX.slice_l rfl rfl sl56 (fun a ha => by cases ha; rfl) (by decide) (by decide) (r := 1) rfl) ?_)
  refine JA.all [4] (by kernel_rfl) (by decide) (JO.does rfl rfl trivial (EX.copy0 H rfl rfl ud56 (by kernel_rfl) rfl) ?_)
  rintro _ w ⟨rfl, H⟩
  refine JA.done (by kernel_rfl) (J.seq (J.region (JL.g (RX.assign) (JL.nil (J.ret1 (v := .int _ _) Tryz.func71 rfl rfl ?_)))))
  exact ⟨_, rfl, rfl, H⟩
 ·
  refine J.skip (J.seq (J.region (JL.g (RX.assign) (JL.nil (J.ret1 (v := .int _ _) Tryz.func71 rfl rfl ?_)))))
  exact ⟨_, rfl, rfl, H⟩
end Go.Proofs.YtfaokllgaambjaaGreatDoor

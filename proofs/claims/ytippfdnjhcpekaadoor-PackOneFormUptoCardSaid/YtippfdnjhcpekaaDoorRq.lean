/- The reference's Reader. -/
import Derived.Test.YtippfdnjhcpekaaDoorRd
namespace Go.Proofs.YtippfdnjhcpekaaDoor
open Go Go.Eng
set_option maxRecDepth 100000
set_option linter.unusedVariables false
set_option linter.unusedSimpArgs false
theorem numOut_rs (at_ : Nat) (r : Rd) : numOut at_ r = .tuple #[.int .u64 ((toRs r).val 0 : Nat), .int .i64 ((at_ + (toRs r).k : Nat) : Int), .int .i64 ((toRs r).code : Nat)] := by cases r <;> rfl
theorem rdNAC_rs (at_ : Nat) (r : Rd) : rdN r = (toRs r).val 0 ∧ rdAt at_ r = at_ + (toRs r).k ∧ rdC r = (toRs r).code := by cases r <;> exact ⟨rfl, rfl, rfl⟩
theorem qupto_c {w0 w : World} {F : List Seg} {b T c at_ : Nat} {p : Option Addr} {bs : List UInt8} (H : Hp w0 w ([(b, cel [.slice p bs.length c, .int .i64 (at_ : Nat)] T)] :: F)) (hs : SlAt F p (bv bs)) (hat : at_ ≤ bs.length) (hl : bs.length ≤ 1099511627776) {most : Int} (hm0 : -9223372036854775808 ≤ most) (hm1 : most ≤ 9223372036854775807) : Ret Tryd.prog 95 [.pointer (some ⟨b, 0, none⟩), .int .i64 (at_ : Nat), .int .i64 most] w fun v w' => v = .tuple #[.int .i64 ((rUp most (bs.drop at_)).val 0 : Nat), .int .i64 ((at_ + (rUp most (bs.drop at_)).k : Nat) : Int), .int .i64 ((rUp most (bs.drop at_)).code : Nat)] ∧ Hp w0 w' ([(b, cel [.slice p bs.length c, .int .i64 (at_ : Nat)] T)] :: F) := by
  refine (ref_upto H hs hat hl hm0 hm1).mono fun v w' h => ?_
  obtain ⟨rfl, H⟩ := h
  obtain ⟨h1, h2, h3⟩ := rdNAC_rs at_ ((rdu 0 0 (bs.drop at_)).upto most)
  rw [h1, h2, h3]
  exact ⟨rfl, H⟩
theorem qUpto_c {w0 w : World} {F : List Seg} {b T c at_ : Nat} {p : Option Addr} {bs : List UInt8} (H : Hp w0 w ([(b, cel [.slice p bs.length c, .int .i64 (at_ : Nat)] T)] :: F)) (hs : SlAt F p (bv bs)) (hat : at_ ≤ bs.length) (hl : bs.length ≤ 1099511627776) {most : Int} (hm0 : -9223372036854775808 ≤ most) (hm1 : most ≤ 9223372036854775807) : Ret Tryd.prog 58 [.pointer (some ⟨b, 0, none⟩), .int .i64 most] w (fun v w' => v = .tuple #[.int .i64 ((rUp most (bs.drop at_)).val 0 : Nat), .int .i64 ((rUp most (bs.drop at_)).code : Nat)] ∧ Hp w0 w' ([(b, cel [.slice p bs.length c, .int .i64 (at_ + (rUp most (bs.drop at_)).k : Nat)] T)] :: F)) := by
  refine (ref_Upto H hs hat hl hm0 hm1).mono fun v w' h => ?_
  obtain ⟨rfl, H⟩ := h
  obtain ⟨h1, h2, h3⟩ := rdNAC_rs at_ ((rdu 0 0 (bs.drop at_)).upto most)
  rw [h2] at H
  rw [h1, h3]
  exact ⟨rfl, H⟩
theorem qUint_c {w0 w : World} {F : List Seg} {b T c at_ : Nat} {p : Option Addr} {bs : List UInt8} (H : Hp w0 w ([(b, cel [.slice p bs.length c, .int .i64 (at_ : Nat)] T)] :: F)) (hs : SlAt F p (bv bs)) (hat : at_ ≤ bs.length) (hl : bs.length ≤ 1099511627776) : Ret Tryd.prog 56 [.pointer (some ⟨b, 0, none⟩)] w (fun v w' => v = .tuple #[.int .u64 ((rU (bs.drop at_)).val 0 : Nat), .int .i64 ((rU (bs.drop at_)).code : Nat)] ∧ Hp w0 w' ([(b, cel [.slice p bs.length c, .int .i64 (at_ + (rU (bs.drop at_)).k : Nat)] T)] :: F)) := by
  refine Calls.of_J (n := 26) Tryd.func56 rfl rfl rfl ?_
  refine J.seq ?_
  refine J.region ?_
  refine JL.go trivial (RX.assign) ?_
  refine JL.go trivial (RX.assign) ?_
  refine JL.nil ?_
  refine J.seq ?_
  refine J.quietH H hmix (by kernel_rfl) ?_
  refine JQ.go trivial (fun w H => RX.movev (v := Value.pointer _) rfl) ?_
  refine JQ.go trivial (fun w H => RX.nilCheck rfl) ?_
  refine JQ.go trivial (fun w H => RX.fieldAddr rfl fo49_0 rfl) ?_
  refine JQ.go trivial (fun w H => by first | exact RX.load H rfl (i := 0) rfl rfl one26 | exact RX.load H rfl (i := 1) rfl rfl one26) ?_
  refine JQ.go trivial (fun w H => RX.movev (v := Value.pointer _) rfl) ?_
  refine JQ.go trivial (fun w H => RX.nilCheck rfl) ?_
  refine JQ.go trivial (fun w H => RX.fieldAddr rfl fo49_1 rfl) ?_
  refine JQ.go trivial (fun w H => by first | exact RX.load H rfl (i := 0) rfl rfl one3 | exact RX.load H rfl (i := 1) rfl rfl one3) ?_
  refine JQ.call trivial (fun w H => run_callq rfl cl92 rfl) (fun w H => ((ref_number H hs.cons hat hl).mono fun v w' h => ⟨h.1.trans (numOut_rs _ _), h.2⟩)) ?_
  refine JQ.go trivial (fun w H => RX.movev (v := Value.tuple _) rfl) ?_
  refine JQ.go trivial (fun w H => RX.extract rfl rfl) ?_
  refine JQ.go trivial (fun w H => RX.extract rfl rfl) ?_
  refine JQ.go trivial (fun w H => RX.extract rfl rfl) ?_
  refine JQ.go trivial (fun w H => RX.assignv (v := Value.int _ _) rfl) ?_
  refine JQ.go trivial (fun w H => RX.assignv (v := Value.int _ _) rfl) ?_
  refine JQ.go trivial (fun w H => RX.assignv (v := Value.int _ _) rfl) ?_
  refine JQ.nil fun w H => ?_
  refine J.seq ?_
  refine J.region ?_
  refine JL.go trivial (RX.movev (v := Value.pointer _) rfl) ?_
  refine JL.go trivial (RX.movev (v := Value.int _ _) rfl) ?_
  refine JL.go trivial (RX.nilCheck rfl) ?_
  refine JL.go trivial (RX.fieldAddr rfl fo49_1 rfl) ?_
  refine JL.does trivial (by first | exact EX.store (v := Value.int _ _) H rfl rfl (i := 0) rfl rfl (by simp) sz3 rfl rfl | exact EX.store (v := Value.int _ _) H rfl rfl (i := 1) rfl rfl (by simp) sz3 rfl rfl) ?_
  rintro _ w H
  refine JL.nil ?_
  refine J.seq ?_
  refine J.region ?_
  refine JL.go trivial (RX.movev (v := Value.int _ _) rfl) ?_
  refine JL.go trivial (RX.movev (v := Value.int _ _) rfl) ?_
  refine JL.go trivial (RX.assignv (v := Value.int _ _) rfl) ?_
  refine JL.go trivial (RX.assignv (v := Value.int _ _) rfl) ?_
  refine JL.nil ?_
  refine J.ret2 (v := Value.int _ _) (x := Value.int _ _) Tryd.func56 rfl rfl rfl ?_
  exact ⟨_, rfl, rfl, H⟩
theorem qInt_c {w0 w : World} {F : List Seg} {b T c at_ : Nat} {p : Option Addr} {bs : List UInt8} (H : Hp w0 w ([(b, cel [.slice p bs.length c, .int .i64 (at_ : Nat)] T)] :: F)) (hs : SlAt F p (bv bs)) (hat : at_ ≤ bs.length) (hl : bs.length ≤ 1099511627776) : Ret Tryd.prog 59 [.pointer (some ⟨b, 0, none⟩)] w (fun v w' => v = .tuple #[.int .i64 ((rI (bs.drop at_)).val 0), .int .i64 ((rI (bs.drop at_)).code : Nat)] ∧ Hp w0 w' ([(b, cel [.slice p bs.length c, .int .i64 (at_ + (rI (bs.drop at_)).k : Nat)] T)] :: F)) := by
  refine Calls.of_J (n := 23) Tryd.func59 rfl rfl rfl ?_
  refine J.seq ?_
  refine J.region ?_
  refine JL.go trivial (RX.assign) ?_
  refine JL.go trivial (RX.assign) ?_
  refine JL.nil ?_
  refine J.seq ?_
  refine J.region ?_
  refine JL.go trivial (RX.movev (v := Value.pointer _) rfl) ?_
  refine JL.does trivial (EX.call rfl cl56 rfl ((qUint_c H hs hat hl))) ?_
  rintro _ w ⟨rfl, H⟩
  have hg := rU_good (bs.drop at_)
  have hin : u64ok ((rU (bs.drop at_)).val 0) := by
    cases hr : rU (bs.drop at_) with
    | ok x k => exact (hg.2.1 x k hr).1
    | err e => exact Nat.zero_le _
  have hcode : (rI (bs.drop at_)).code = (rU (bs.drop at_)).code ∧ (rI (bs.drop at_)).k = (rU (bs.drop at_)).k ∧ (rI (bs.drop at_)).val 0 = unzig ((rU (bs.drop at_)).val 0) := by
    unfold rI
    cases rU (bs.drop at_) with
    | ok x k => exact ⟨rfl, rfl, rfl⟩
    | err e => exact ⟨rfl, rfl, (show (0 : Int) = unzig 0 by decide)⟩
  rw [hcode.1, hcode.2.1, hcode.2.2]
  generalize (rU (bs.drop at_)).val 0 = x at hin ⊢
  unfold u64ok at hin
  refine JL.go trivial (RX.movev (v := Value.tuple _) rfl) ?_
  refine JL.go trivial (RX.extract rfl rfl) ?_
  refine JL.go trivial (RX.extract rfl rfl) ?_
  refine JL.go trivial (RX.assignv (v := Value.int _ _) rfl) ?_
  refine JL.go trivial (RX.assignv (v := Value.int _ _) rfl) ?_
  refine JL.nil ?_
  refine J.seq ?_
  refine J.seq ?_
  refine J.region ?_
  refine JL.go trivial (RX.movev (v := Value.int _ _) rfl) ?_
  refine JL.go trivial (RX.rem rfl rfl (by decide) (r := ((x % 2 : Nat) : Int)) (Int.tmod_eq_emod_of_nonneg (by omega))) ?_
  refine JL.go trivial (RX.eq rfl rfl) ?_
  refine JL.nil ?_
  refine J.cond_d rfl (fun h1 => ?_) (fun h1 => ?_)
  · skip
    refine J.seq ?_
    refine J.region ?_
    refine JL.go trivial (RX.movev (v := Value.int _ _) rfl) ?_
    refine JL.go trivial (RX.quo rfl rfl (by decide) (r := ((x / 2 : Nat) : Int)) (by rw [Int.tdiv_eq_ediv_of_nonneg (by omega)]; exact w_u64 (r := ((x / 2 : Nat) : Int)) (by omega) (by omega) (by omega))) ?_
    refine JL.go trivial (RX.conv rfl (by rw [ki27]; rfl) ki2 (w_i64 (r := ((x / 2 : Nat) : Int)) rfl (by omega) (by omega))) ?_
    refine JL.go trivial (RX.sub rfl rfl (w_i64 (r := unzig x) (by unfold unzig; rw [if_neg (by omega)]) (by unfold unzig; split <;> omega) (by unfold unzig; split <;> omega))) ?_
    refine JL.go trivial (RX.movev (v := Value.int _ _) rfl) ?_
    refine JL.go trivial (RX.assignv (v := Value.int _ _) rfl) ?_
    refine JL.go trivial (RX.assignv (v := Value.int _ _) rfl) ?_
    refine JL.nil ?_
    refine J.ret2 (v := Value.int _ _) (x := Value.int _ _) Tryd.func59 rfl rfl rfl ?_
    exact ⟨_, rfl, rfl, H⟩
  · skip
    refine J.skip ?_
    refine J.seq ?_
    refine J.region ?_
    refine JL.go trivial (RX.movev (v := Value.int _ _) rfl) ?_
    refine JL.go trivial (RX.quo rfl rfl (by decide) (r := ((x / 2 : Nat) : Int)) (by rw [Int.tdiv_eq_ediv_of_nonneg (by omega)]; exact w_u64 (r := ((x / 2 : Nat) : Int)) (by omega) (by omega) (by omega))) ?_
    refine JL.go trivial (RX.conv rfl (by rw [ki27]; rfl) ki2 (w_i64 (r := unzig x) (by unfold unzig; rw [if_pos (by omega)]) (by unfold unzig; split <;> omega) (by unfold unzig; split <;> omega))) ?_
    refine JL.go trivial (RX.movev (v := Value.int _ _) rfl) ?_
    refine JL.go trivial (RX.assignv (v := Value.int _ _) rfl) ?_
    refine JL.go trivial (RX.assignv (v := Value.int _ _) rfl) ?_
    refine JL.nil ?_
    refine J.ret2 (v := Value.int _ _) (x := Value.int _ _) Tryd.func59 rfl rfl rfl ?_
    exact ⟨_, rfl, rfl, H⟩
theorem fixedAt_c {w0 w : World} {F : List Seg} {b T c at_ : Nat} {p : Option Addr} {bs : List UInt8} (H : Hp w0 w ([(b, cel [.slice p bs.length c, .int .i64 (at_ : Nat)] T)] :: F)) (hs : SlAt F p (bv bs)) (hat : at_ ≤ bs.length) (hl : bs.length ≤ 1099511627776) {a n : Nat} (ha : a + n ≤ bs.length) (hn : n ≤ 8) : Ret Tryd.prog 102 [.pointer (some ⟨b, 0, none⟩), .int .i64 a, .int .i64 n] w fun v w' => v = .int .u64 (ofLE ((bs.drop a).take n) : Nat) ∧ Hp w0 w' ([(b, cel [.slice p bs.length c, .int .i64 (at_ : Nat)] T)] :: F) := by
  refine Calls.of_J (n := 29) Tryd.func102 rfl rfl rfl ?_
  refine J.seq ?_
  refine J.region ?_
  refine JL.go trivial (RX.assign) ?_
  refine JL.nil ?_
  refine J.seq ?_
  refine J.region ?_
  refine JL.go trivial (RX.assign) ?_
  refine JL.nil ?_
  refine J.seq ?_
  refine J.seq ?_
  refine J.region ?_
  refine JL.go trivial (RX.movev (v := Value.int _ _) rfl) ?_
  refine JL.go trivial (RX.sub rfl rfl (w_i64 rfl (by omega) (by omega))) ?_
  refine JL.go trivial (RX.assignv (v := Value.int _ _) rfl) ?_
  refine JL.nil ?_
  refine J.block ?_
  refine J.loop (ι := Nat) (S := fun j => [(7, .int .u64 (ofLE ((bs.drop (a + j)).take (n - j)) : Nat)), (8, .int .i64 ((j : Nat) - 1 : Int))]) (Φ := fun j w => j ≤ n ∧ Hp w0 w ([(b, cel [.slice p bs.length c, .int .i64 (at_ : Nat)] T)] :: F)) (μ := fun j => j) (C := [(0, _), (1, _)]) n ⟨rfl, rfl, trivial⟩ ⟨(show Value.int .u64 0 = Value.int .u64 (ofLE ((bs.drop (a + n)).take (n - n)) : Nat) by rw [Nat.sub_self]; rfl), rfl, trivial⟩ ?_ ?_
  · exact ⟨Nat.le_refl _, H⟩
  clear H
  rintro j ρ w ⟨hj, H⟩ IH
  have hlt := ofLE_lt ((bs.drop (a + j)).take (n - j))
  rw [List.length_take, List.length_drop, Nat.min_eq_left (by omega)] at hlt
  refine J.seq ?_
  refine J.seq ?_
  refine J.region ?_
  refine JL.go trivial (RX.movev (v := Value.int _ _) rfl) ?_
  refine JL.go trivial (RX.ge rfl rfl) ?_
  refine JL.nil ?_
  refine J.cond_d rfl (fun hge => ?_) (fun hge => ?_)
  · skip
    obtain ⟨bb, hbb, hdr⟩ := drop_get (l := bs) (i := a + j - 1) (by omega)
    have hblt := bb.toNat_lt
    obtain ⟨pb, po, rfl, _⟩ := hs.some (by rw [bv_len]; omega)
    have hnx : ofLE ((bs.drop (a + (j - 1))).take (n - (j - 1))) = ofLE ((bs.drop (a + j)).take (n - j)) * 256 + bb.toNat := by
      rw [show a + (j - 1) = a + j - 1 by omega, hdr, show n - (j - 1) = (n - j) + 1 by omega, show a + j - 1 + 1 = a + j by omega, List.take_succ_cons, ofLE]; omega
    have hp : 256 ^ (n - j) ≤ 256 ^ 7 := Nat.pow_le_pow_right (by decide) (by omega)
    have hp7 : (256 : Nat) ^ 7 = 72057594037927936 := by decide
    refine J.skip ?_
    refine J.seq ?_
    refine J.block ?_
    refine J.region ?_
    refine JL.go trivial (RX.movev (v := Value.int _ _) rfl) ?_
    refine JL.go trivial (RX.mul rfl rfl (w_u64 rfl (by omega) (by omega))) ?_
    refine JL.go trivial (RX.movev (v := Value.pointer _) rfl) ?_
    refine JL.go trivial (RX.nilCheck rfl) ?_
    refine JL.go trivial (RX.fieldAddr rfl fo49_0 rfl) ?_
    refine JL.go trivial (by first | exact RX.load H rfl (i := 0) rfl rfl one26 | exact RX.load H rfl (i := 1) rfl rfl one26) ?_
    refine JL.go trivial (RX.movev (v := Value.int _ _) rfl) ?_
    refine JL.go trivial (RX.movev (v := Value.int _ _) rfl) ?_
    refine JL.go trivial (RX.add rfl rfl (w_i64 (r := ((a + j - 1 : Nat) : Int)) (by omega) (by omega) (by omega))) ?_
    refine JL.go trivial (RX.indexAddr rfl rfl sl26 (by omega) (by omega) rfl) ?_
    refine JL.go trivial (RX.loadS H hs.cons rfl (j := a + j - 1) (by omega) (bv_get hbb) one5) ?_
    refine JL.go trivial (RX.conv rfl (by rw [ki5]; rfl) ki27 (w_u64 rfl (by omega) (by omega))) ?_
    refine JL.go trivial (RX.add rfl rfl (w_u64 (r := (ofLE ((bs.drop (a + (j - 1))).take (n - (j - 1))) : Int)) (by rw [hnx]; omega) (by omega) (by rw [hnx]; omega))) ?_
    refine JL.go trivial (RX.assignv (v := Value.int _ _) rfl) ?_
    refine JL.nil ?_
    refine J.inBlock ?_
    refine J.region ?_
    refine JL.go trivial (RX.movev (v := Value.int _ _) rfl) ?_
    refine JL.go trivial (RX.sub rfl rfl (w_i64 rfl (by omega) (by omega))) ?_
    refine JL.go trivial (RX.assignv (v := Value.int _ _) rfl) ?_
    refine JL.nil ?_
    exact IH (j - 1) _ _ (by omega) ⟨rfl, rfl, trivial⟩ ⟨rfl, (show Value.int .i64 ((j : Int) - 1 - 1) = Value.int .i64 (((j - 1 : Nat) : Int) - 1) by congr 1; omega), trivial⟩ ⟨by omega, H⟩
  · skip
    refine J.exit rfl ?_
    refine J.seq ?_
    refine J.region ?_
    refine JL.go trivial (RX.movev (v := Value.int _ _) rfl) ?_
    refine JL.go trivial (RX.assignv (v := Value.int _ _) rfl) ?_
    refine JL.nil ?_
    refine J.ret1 (v := Value.int _ _) Tryd.func102 rfl rfl ?_
    have : j = 0 := by omega
    subst this
    exact ⟨_, rfl, rfl, H⟩
theorem floatAt_c {w0 w : World} {F : List Seg} {b T c at_ : Nat} {p : Option Addr} {bs : List UInt8} (H : Hp w0 w ([(b, cel [.slice p bs.length c, .int .i64 (at_ : Nat)] T)] :: F)) (hs : SlAt F p (bv bs)) (hat : at_ ≤ bs.length) (hl : bs.length ≤ 1099511627776) {a : Nat} (ha : a + 8 ≤ bs.length) : Ret Tryd.prog 96 [.pointer (some ⟨b, 0, none⟩), .int .i64 a] w (fun v w' => v = .tuple #[.float .f64 (ofLE ((bs.drop a).take 8)), .bool (decide (canon (ofLE ((bs.drop a).take 8)) = ofLE ((bs.drop a).take 8)))] ∧ Hp w0 w' ([(b, cel [.slice p bs.length c, .int .i64 (at_ : Nat)] T)] :: F)) := by
  refine Calls.of_J (n := 18) Tryd.func96 rfl rfl rfl ?_
  refine J.seq ?_
  refine J.region ?_
  refine JL.go trivial (RX.assign) ?_
  refine JL.go trivial (RX.assign) ?_
  refine JL.nil ?_
  refine J.seq ?_
  refine J.region ?_
  refine JL.go trivial (RX.movev (v := Value.pointer _) rfl) ?_
  refine JL.go trivial (RX.movev (v := Value.int _ _) rfl) ?_
  refine JL.does trivial (EX.call rfl cl102 rfl ((fixedAt_c H hs hat hl ha (by decide)))) ?_
  rintro _ w ⟨rfl, H⟩
  have hlt := ofLE_lt ((bs.drop a).take 8)
  rw [List.length_take, Nat.min_eq_left (by rw [List.length_drop]; omega)] at hlt
  generalize ofLE ((bs.drop a).take 8) = x at hlt ⊢
  refine JL.go trivial (RX.assignv (v := Value.int _ _) rfl) ?_
  refine JL.nil ?_
  refine J.seq ?_
  refine J.region ?_
  refine JL.go trivial (RX.movev (v := Value.int _ _) rfl) ?_
  refine JL.go trivial (RX.ext ext73 rfl rfl (v := Value.float _ _) rfl) ?_
  refine JL.go trivial (RX.assignv (v := Value.float _ _) rfl) ?_
  refine JL.nil ?_
  refine J.seq ?_
  refine J.region ?_
  refine JL.go trivial (RX.movev (v := Value.float _ _) rfl) ?_
  refine JL.go trivial (RX.movev (v := Value.float _ _) rfl) ?_
  refine JL.does trivial (EX.call rfl cl87 rfl ((rBits_b H (by unfold u64ok; rw [Int.toNat_natCast]; omega)))) ?_
  rintro _ w ⟨rfl, H⟩
  refine JL.go trivial (RX.movev (v := Value.int _ _) rfl) ?_
  refine JL.go trivial (RX.eq rfl rfl) ?_
  refine JL.go trivial (RX.assignv (v := Value.float _ _) rfl) ?_
  refine JL.go trivial (RX.assignv (v := Value.bool _) rfl) ?_
  refine JL.nil ?_
  refine J.ret2 (v := Value.float _ _) (x := Value.bool _) Tryd.func96 rfl rfl rfl ?_
  refine ⟨_, rfl, ?_, H⟩
  simp only [Int.toNat_natCast]
  rw [show (decide (((canon x : Nat) : Int) = ((x : Nat) : Int))) = decide (canon x = x) from by congr 1; exact propext ⟨fun h => by omega, fun h => by omega⟩]
theorem float32At_c {w0 w : World} {F : List Seg} {b T c at_ : Nat} {p : Option Addr} {bs : List UInt8} (H : Hp w0 w ([(b, cel [.slice p bs.length c, .int .i64 (at_ : Nat)] T)] :: F)) (hs : SlAt F p (bv bs)) (hat : at_ ≤ bs.length) (hl : bs.length ≤ 1099511627776) {a : Nat} (ha : a + 4 ≤ bs.length) : Ret Tryd.prog 97 [.pointer (some ⟨b, 0, none⟩), .int .i64 a] w (fun v w' => v = .tuple #[.float .f32 (ofLE ((bs.drop a).take 4)), .bool (decide (canon32 (ofLE ((bs.drop a).take 4)) = ofLE ((bs.drop a).take 4)))] ∧ Hp w0 w' ([(b, cel [.slice p bs.length c, .int .i64 (at_ : Nat)] T)] :: F)) := by
  refine Calls.of_J (n := 19) Tryd.func97 rfl rfl rfl ?_
  refine J.seq ?_
  refine J.region ?_
  refine JL.go trivial (RX.assign) ?_
  refine JL.go trivial (RX.assign) ?_
  refine JL.nil ?_
  refine J.seq ?_
  refine J.region ?_
  refine JL.go trivial (RX.movev (v := Value.pointer _) rfl) ?_
  refine JL.go trivial (RX.movev (v := Value.int _ _) rfl) ?_
  refine JL.does trivial (EX.call rfl cl102 rfl ((fixedAt_c H hs hat hl ha (by decide)))) ?_
  rintro _ w ⟨rfl, H⟩
  have hlt := ofLE_lt ((bs.drop a).take 4)
  rw [List.length_take, Nat.min_eq_left (by rw [List.length_drop]; omega)] at hlt
  generalize ofLE ((bs.drop a).take 4) = x at hlt ⊢
  refine JL.go trivial (RX.assignv (v := Value.int _ _) rfl) ?_
  refine JL.nil ?_
  refine J.seq ?_
  refine J.region ?_
  refine JL.go trivial (RX.movev (v := Value.int _ _) rfl) ?_
  refine JL.go trivial (RX.conv rfl (by rw [ki27]; rfl) ki140 (r := (x : Int)) (by rw [lo32_run, lo32_lt (by omega)])) ?_
  refine JL.go trivial (RX.ext ext88 rfl rfl (v := Value.float _ _) rfl) ?_
  refine JL.go trivial (RX.assignv (v := Value.float _ _) rfl) ?_
  refine JL.nil ?_
  refine J.seq ?_
  refine J.region ?_
  refine JL.go trivial (RX.movev (v := Value.float _ _) rfl) ?_
  refine JL.go trivial (RX.movev (v := Value.float _ _) rfl) ?_
  refine JL.does trivial (EX.call rfl cl89 rfl ((bits32_b H (by unfold u32ok; rw [Int.toNat_natCast]; omega)))) ?_
  rintro _ w ⟨rfl, H⟩
  refine JL.go trivial (RX.movev (v := Value.int _ _) rfl) ?_
  refine JL.go trivial (RX.eq rfl rfl) ?_
  refine JL.go trivial (RX.assignv (v := Value.float _ _) rfl) ?_
  refine JL.go trivial (RX.assignv (v := Value.bool _) rfl) ?_
  refine JL.nil ?_
  refine J.ret2 (v := Value.float _ _) (x := Value.bool _) Tryd.func97 rfl rfl rfl ?_
  refine ⟨_, rfl, ?_, H⟩
  simp only [Int.toNat_natCast]
  rw [show (decide (((canon32 x : Nat) : Int) = ((x : Nat) : Int))) = decide (canon32 x = x) from by congr 1; exact propext ⟨fun h => by omega, fun h => by omega⟩]
theorem qFloat_c {w0 w : World} {F : List Seg} {b T c at_ : Nat} {p : Option Addr} {bs : List UInt8} (H : Hp w0 w ([(b, cel [.slice p bs.length c, .int .i64 (at_ : Nat)] T)] :: F)) (hs : SlAt F p (bv bs)) (hat : at_ ≤ bs.length) (hl : bs.length ≤ 1099511627776) : Ret Tryd.prog 60 [.pointer (some ⟨b, 0, none⟩)] w (fun v w' => v = .tuple #[.float .f64 ((rFl (bs.drop at_)).val 0), .int .i64 ((rFl (bs.drop at_)).code : Nat)] ∧ Hp w0 w' ([(b, cel [.slice p bs.length c, .int .i64 (at_ + (rFl (bs.drop at_)).k : Nat)] T)] :: F)) := by
  refine Calls.of_J (n := 36) Tryd.func60 rfl rfl rfl ?_
  refine J.seq ?_
  refine J.region ?_
  refine JL.go trivial (RX.assign) ?_
  refine JL.go trivial (RX.assign) ?_
  refine JL.nil ?_
  refine J.seq ?_
  refine J.seq ?_
  refine J.quietH H hmix (by kernel_rfl) ?_
  refine JQ.go trivial (fun w H => RX.movev (v := Value.pointer _) rfl) ?_
  refine JQ.go trivial (fun w H => RX.nilCheck rfl) ?_
  refine JQ.go trivial (fun w H => RX.fieldAddr rfl fo49_0 rfl) ?_
  refine JQ.go trivial (fun w H => by first | exact RX.load H rfl (i := 0) rfl rfl one26 | exact RX.load H rfl (i := 1) rfl rfl one26) ?_
  refine JQ.go trivial (fun w H => RX.len_slice rfl (by rw [sl26]; rfl) rfl) ?_
  refine JQ.go trivial (fun w H => RX.movev (v := Value.pointer _) rfl) ?_
  refine JQ.go trivial (fun w H => RX.nilCheck rfl) ?_
  refine JQ.go trivial (fun w H => RX.fieldAddr rfl fo49_1 rfl) ?_
  refine JQ.go trivial (fun w H => by first | exact RX.load H rfl (i := 0) rfl rfl one3 | exact RX.load H rfl (i := 1) rfl rfl one3) ?_
  refine JQ.go trivial (fun w H => RX.sub rfl rfl (w_i64 (r := ((bs.length - at_ : Nat) : Int)) (by omega) (by omega) (by omega))) ?_
  refine JQ.go trivial (fun w H => RX.lt rfl rfl) ?_
  refine JQ.nil fun w H => ?_
  refine J.cond_d rfl (fun hsh => ?_) (fun hsh => ?_)
  · skip
    refine J.seq ?_
    refine J.region ?_
    refine JL.go trivial (RX.assign) ?_
    refine JL.go trivial (RX.assign) ?_
    refine JL.nil ?_
    refine J.ret2 (v := Value.float _ _) (x := Value.int _ _) Tryd.func60 rfl rfl rfl ?_
    have hf : rFl (bs.drop at_) = .err 1 := by rw [rFl, if_pos (by rw [List.length_drop]; omega)]
    rw [hf]
    exact ⟨_, rfl, rfl, H⟩
  · skip
    refine J.skip ?_
    refine J.seq ?_
    refine J.region ?_
    refine JL.go trivial (RX.movev (v := Value.pointer _) rfl) ?_
    refine JL.go trivial (RX.movev (v := Value.pointer _) rfl) ?_
    refine JL.go trivial (RX.nilCheck rfl) ?_
    refine JL.go trivial (RX.fieldAddr rfl fo49_1 rfl) ?_
    refine JL.go trivial (by first | exact RX.load H rfl (i := 0) rfl rfl one3 | exact RX.load H rfl (i := 1) rfl rfl one3) ?_
    refine JL.does trivial (EX.call rfl cl96 rfl ((floatAt_c H hs hat hl (a := at_) (by omega)))) ?_
    rintro _ w ⟨rfl, H⟩
    refine JL.go trivial (RX.movev (v := Value.tuple _) rfl) ?_
    refine JL.go trivial (RX.extract rfl rfl) ?_
    refine JL.go trivial (RX.extract rfl rfl) ?_
    refine JL.go trivial (RX.assignv (v := Value.float _ _) rfl) ?_
    refine JL.go trivial (RX.assignv (v := Value.bool _) rfl) ?_
    refine JL.nil ?_
    refine J.seq ?_
    refine J.seq ?_
    refine J.region ?_
    refine JL.go trivial (RX.movev (v := Value.bool _) rfl) ?_
    refine JL.go trivial (RX.not_d rfl) ?_
    refine JL.nil ?_
    refine J.cond_d rfl (fun hnc => ?_) (fun hnc => ?_)
    · skip
      refine J.seq ?_
      refine J.region ?_
      refine JL.go trivial (RX.assign) ?_
      refine JL.go trivial (RX.assign) ?_
      refine JL.nil ?_
      refine J.ret2 (v := Value.float _ _) (x := Value.int _ _) Tryd.func60 rfl rfl rfl ?_
      have hf : rFl (bs.drop at_) = .err 13 := by rw [rFl, if_neg (by rw [List.length_drop]; omega), if_neg hnc]
      rw [hf]
      exact ⟨_, rfl, rfl, H⟩
    · skip
      refine J.skip ?_
      refine J.seq ?_
      refine J.region ?_
      refine JL.go trivial (RX.movev (v := Value.pointer _) rfl) ?_
      refine JL.go trivial (RX.nilCheck rfl) ?_
      refine JL.go trivial (RX.fieldAddr rfl fo49_1 rfl) ?_
      refine JL.go trivial (by first | exact RX.load H rfl (i := 0) rfl rfl one3 | exact RX.load H rfl (i := 1) rfl rfl one3) ?_
      refine JL.go trivial (RX.add rfl rfl (w_i64 (r := ((at_ + 8 : Nat) : Int)) (by omega) (by omega) (by omega))) ?_
      refine JL.go trivial (RX.nilCheck rfl) ?_
      refine JL.go trivial (RX.fieldAddr rfl fo49_1 rfl) ?_
      refine JL.does trivial (by first | exact EX.store (v := Value.int _ _) H rfl rfl (i := 0) rfl rfl (by simp) sz3 rfl rfl | exact EX.store (v := Value.int _ _) H rfl rfl (i := 1) rfl rfl (by simp) sz3 rfl rfl) ?_
      rintro _ w H
      refine JL.nil ?_
      refine J.seq ?_
      refine J.region ?_
      refine JL.go trivial (RX.movev (v := Value.float _ _) rfl) ?_
      refine JL.go trivial (RX.assignv (v := Value.float _ _) rfl) ?_
      refine JL.go trivial (RX.assign) ?_
      refine JL.nil ?_
      refine J.ret2 (v := Value.float _ _) (x := Value.int _ _) Tryd.func60 rfl rfl rfl ?_
      have hc := Decidable.not_not.1 hnc
      have hf : rFl (bs.drop at_) = .ok (ofLE ((bs.drop at_).take 8)) 8 := by rw [rFl, if_neg (by rw [List.length_drop]; omega), if_pos hc]
      rw [hf]
      exact ⟨_, rfl, rfl, H⟩
theorem qComplex_c {w0 w : World} {F : List Seg} {b T c at_ : Nat} {p : Option Addr} {bs : List UInt8} (H : Hp w0 w ([(b, cel [.slice p bs.length c, .int .i64 (at_ : Nat)] T)] :: F)) (hs : SlAt F p (bv bs)) (hat : at_ ≤ bs.length) (hl : bs.length ≤ 1099511627776) : Ret Tryd.prog 62 [.pointer (some ⟨b, 0, none⟩)] w (fun v w' => v = .tuple #[.complex .f64 ((rCo (bs.drop at_)).val (0, 0)).1 ((rCo (bs.drop at_)).val (0, 0)).2, .int .i64 ((rCo (bs.drop at_)).code : Nat)] ∧ Hp w0 w' ([(b, cel [.slice p bs.length c, .int .i64 (at_ + (rCo (bs.drop at_)).k : Nat)] T)] :: F)) := by
  refine Calls.of_J (n := 54) Tryd.func62 rfl rfl rfl ?_
  refine J.seq ?_
  refine J.region ?_
  refine JL.go trivial (RX.assign) ?_
  refine JL.go trivial (RX.assign) ?_
  refine JL.nil ?_
  refine J.seq ?_
  refine J.seq ?_
  refine J.quietH H hmix (by kernel_rfl) ?_
  refine JQ.go trivial (fun w H => RX.movev (v := Value.pointer _) rfl) ?_
  refine JQ.go trivial (fun w H => RX.nilCheck rfl) ?_
  refine JQ.go trivial (fun w H => RX.fieldAddr rfl fo49_0 rfl) ?_
  refine JQ.go trivial (fun w H => by first | exact RX.load H rfl (i := 0) rfl rfl one26 | exact RX.load H rfl (i := 1) rfl rfl one26) ?_
  refine JQ.go trivial (fun w H => RX.len_slice rfl (by rw [sl26]; rfl) rfl) ?_
  refine JQ.go trivial (fun w H => RX.movev (v := Value.pointer _) rfl) ?_
  refine JQ.go trivial (fun w H => RX.nilCheck rfl) ?_
  refine JQ.go trivial (fun w H => RX.fieldAddr rfl fo49_1 rfl) ?_
  refine JQ.go trivial (fun w H => by first | exact RX.load H rfl (i := 0) rfl rfl one3 | exact RX.load H rfl (i := 1) rfl rfl one3) ?_
  refine JQ.go trivial (fun w H => RX.sub rfl rfl (w_i64 (r := ((bs.length - at_ : Nat) : Int)) (by omega) (by omega) (by omega))) ?_
  refine JQ.go trivial (fun w H => RX.lt rfl rfl) ?_
  refine JQ.nil fun w H => ?_
  refine J.cond_d rfl (fun hsh => ?_) (fun hsh => ?_)
  · skip
    refine J.seq ?_
    refine J.region ?_
    refine JL.go trivial (RX.assign) ?_
    refine JL.go trivial (RX.assign) ?_
    refine JL.nil ?_
    refine J.ret2 (v := Value.complex _ _ _) (x := Value.int _ _) Tryd.func62 rfl rfl rfl ?_
    have hf : rCo (bs.drop at_) = .err 1 := pair2_short (by rw [List.length_drop]; omega)
    rw [hf]
    exact ⟨_, rfl, rfl, H⟩
  · skip
    refine J.skip ?_
    refine J.seq ?_
    refine J.region ?_
    refine JL.go trivial (RX.movev (v := Value.pointer _) rfl) ?_
    refine JL.go trivial (RX.movev (v := Value.pointer _) rfl) ?_
    refine JL.go trivial (RX.nilCheck rfl) ?_
    refine JL.go trivial (RX.fieldAddr rfl fo49_1 rfl) ?_
    refine JL.go trivial (by first | exact RX.load H rfl (i := 0) rfl rfl one3 | exact RX.load H rfl (i := 1) rfl rfl one3) ?_
    refine JL.does trivial (EX.call rfl cl96 rfl ((floatAt_c H hs hat hl (a := at_) (by omega)))) ?_
    rintro _ w ⟨rfl, H⟩
    refine JL.go trivial (RX.movev (v := Value.tuple _) rfl) ?_
    refine JL.go trivial (RX.extract rfl rfl) ?_
    refine JL.go trivial (RX.extract rfl rfl) ?_
    refine JL.go trivial (RX.assignv (v := Value.float _ _) rfl) ?_
    refine JL.go trivial (RX.assignv (v := Value.bool _) rfl) ?_
    refine JL.nil ?_
    refine J.seq ?_
    refine J.region ?_
    refine JL.go trivial (RX.movev (v := Value.pointer _) rfl) ?_
    refine JL.go trivial (RX.movev (v := Value.pointer _) rfl) ?_
    refine JL.go trivial (RX.nilCheck rfl) ?_
    refine JL.go trivial (RX.fieldAddr rfl fo49_1 rfl) ?_
    refine JL.go trivial (by first | exact RX.load H rfl (i := 0) rfl rfl one3 | exact RX.load H rfl (i := 1) rfl rfl one3) ?_
    refine JL.go trivial (RX.add rfl rfl (w_i64 (r := ((at_ + 8 : Nat) : Int)) (by omega) (by omega) (by omega))) ?_
    refine JL.does trivial (EX.call rfl cl96 rfl ((floatAt_c H hs hat hl (a := at_ + 8) (by omega)))) ?_
    rintro _ w ⟨rfl, H⟩
    refine JL.go trivial (RX.movev (v := Value.tuple _) rfl) ?_
    refine JL.go trivial (RX.extract rfl rfl) ?_
    refine JL.go trivial (RX.extract rfl rfl) ?_
    refine JL.go trivial (RX.assignv (v := Value.float _ _) rfl) ?_
    refine JL.go trivial (RX.assignv (v := Value.bool _) rfl) ?_
    refine JL.nil ?_
    refine J.seq ?_
    refine J.seq ?_
    refine J.region ?_
    have hns : ¬ (bs.drop at_).length < 16 := by rw [List.length_drop]; omega
    have hdd : (bs.drop at_).drop 8 = bs.drop (at_ + 8) := List.drop_drop
    refine JL.go trivial (RX.movev (v := Value.bool _) rfl) ?_
    refine JL.go trivial (RX.not_d rfl) ?_
    refine JL.go trivial (RX.movev (v := Value.bool _) rfl) ?_
    refine JL.splitS 40 rfl (fun hn1 => ?_) (fun hn1 => ?_)
    · skip
      first | have hn1p := of_decide_eq_true hn1 | skip
      refine JL.no ⟨_, rfl, gno hn1⟩ ?_
      refine JL.no ⟨_, rfl, gno hn1⟩ ?_
      refine JL.go trivial (RX.pick_t rfl hn1) ?_
      refine JL.nil ?_
      refine J.cond_t rfl rfl ?_
      refine J.seq ?_
      refine J.region ?_
      refine JL.go trivial (RX.assign) ?_
      refine JL.go trivial (RX.assign) ?_
      refine JL.nil ?_
      refine J.ret2 (v := Value.complex _ _ _) (x := Value.int _ _) Tryd.func62 rfl rfl rfl ?_
      have hn1p := of_decide_eq_true hn1
      have h1 : rFl (bs.drop at_) = .err 13 := by rw [rFl, if_neg (by omega), if_neg hn1p]
      have hf : rCo (bs.drop at_) = .err 13 := pair2_e1 hns h1
      rw [hf]
      exact ⟨_, rfl, rfl, H⟩
    · skip
      first | have hn1p := of_decide_eq_false hn1 | skip
      have hn1p := Decidable.not_not.1 (of_decide_eq_false hn1)
      have h1 : rFl (bs.drop at_) = .ok (ofLE ((bs.drop at_).take 8)) 8 := by rw [rFl, if_neg (by omega), if_pos hn1p]
      refine JL.go ⟨_, rfl, hn1⟩ (RX.movev (v := Value.bool _) rfl) ?_
      refine JL.go ⟨_, rfl, hn1⟩ (RX.not_d rfl) ?_
      refine JL.go trivial (RX.pick_f rfl hn1) ?_
      refine JL.nil ?_
      refine J.cond_d rfl (fun hn2 => ?_) (fun hn2 => ?_)
      · skip
        refine J.seq ?_
        refine J.region ?_
        refine JL.go trivial (RX.assign) ?_
        refine JL.go trivial (RX.assign) ?_
        refine JL.nil ?_
        refine J.ret2 (v := Value.complex _ _ _) (x := Value.int _ _) Tryd.func62 rfl rfl rfl ?_
        have h2 : rFl ((bs.drop at_).drop 8) = .err 13 := by rw [hdd, rFl, if_neg (by rw [List.length_drop]; omega), if_neg hn2]
        have hf : rCo (bs.drop at_) = .err 13 := pair2_e2 hns h1 h2
        rw [hf]
        exact ⟨_, rfl, rfl, H⟩
      · skip
        refine J.skip ?_
        refine J.seq ?_
        refine J.region ?_
        refine JL.go trivial (RX.movev (v := Value.pointer _) rfl) ?_
        refine JL.go trivial (RX.nilCheck rfl) ?_
        refine JL.go trivial (RX.fieldAddr rfl fo49_1 rfl) ?_
        refine JL.go trivial (by first | exact RX.load H rfl (i := 0) rfl rfl one3 | exact RX.load H rfl (i := 1) rfl rfl one3) ?_
        refine JL.go trivial (RX.add rfl rfl (w_i64 (r := ((at_ + 16 : Nat) : Int)) (by omega) (by omega) (by omega))) ?_
        refine JL.go trivial (RX.nilCheck rfl) ?_
        refine JL.go trivial (RX.fieldAddr rfl fo49_1 rfl) ?_
        refine JL.does trivial (by first | exact EX.store (v := Value.int _ _) H rfl rfl (i := 0) rfl rfl (by simp) sz3 rfl rfl | exact EX.store (v := Value.int _ _) H rfl rfl (i := 1) rfl rfl (by simp) sz3 rfl rfl) ?_
        rintro _ w H
        refine JL.nil ?_
        refine J.seq ?_
        refine J.region ?_
        refine JL.go trivial (RX.movev (v := Value.float _ _) rfl) ?_
        refine JL.go trivial (RX.movev (v := Value.float _ _) rfl) ?_
        refine JL.go trivial (RX.complex rfl rfl) ?_
        refine JL.go trivial (RX.assignv (v := Value.complex _ _ _) rfl) ?_
        refine JL.go trivial (RX.assign) ?_
        refine JL.nil ?_
        refine J.ret2 (v := Value.complex _ _ _) (x := Value.int _ _) Tryd.func62 rfl rfl rfl ?_
        have hn2p := Decidable.not_not.1 hn2
        have h2 : rFl ((bs.drop at_).drop 8) = .ok (ofLE ((bs.drop (at_ + 8)).take 8)) 8 := by rw [hdd, rFl, if_neg (by rw [List.length_drop]; omega), if_pos hn2p]
        have hf : rCo (bs.drop at_) = .ok (ofLE ((bs.drop at_).take 8), ofLE ((bs.drop (at_ + 8)).take 8)) 16 := pair2_ok hns h1 h2
        rw [hf]
        exact ⟨_, rfl, rfl, H⟩
theorem qNarrow_c {w0 w : World} {F : List Seg} {b T c at_ : Nat} {p : Option Addr} {bs : List UInt8} (H : Hp w0 w ([(b, cel [.slice p bs.length c, .int .i64 (at_ : Nat)] T)] :: F)) (hs : SlAt F p (bv bs)) (hat : at_ ≤ bs.length) (hl : bs.length ≤ 1099511627776) : Ret Tryd.prog 63 [.pointer (some ⟨b, 0, none⟩)] w (fun v w' => v = .tuple #[.complex .f32 ((rNa (bs.drop at_)).val (0, 0)).1 ((rNa (bs.drop at_)).val (0, 0)).2, .int .i64 ((rNa (bs.drop at_)).code : Nat)] ∧ Hp w0 w' ([(b, cel [.slice p bs.length c, .int .i64 (at_ + (rNa (bs.drop at_)).k : Nat)] T)] :: F)) := by
  refine Calls.of_J (n := 54) Tryd.func63 rfl rfl rfl ?_
  refine J.seq ?_
  refine J.region ?_
  refine JL.go trivial (RX.assign) ?_
  refine JL.go trivial (RX.assign) ?_
  refine JL.nil ?_
  refine J.seq ?_
  refine J.seq ?_
  refine J.quietH H hmix (by kernel_rfl) ?_
  refine JQ.go trivial (fun w H => RX.movev (v := Value.pointer _) rfl) ?_
  refine JQ.go trivial (fun w H => RX.nilCheck rfl) ?_
  refine JQ.go trivial (fun w H => RX.fieldAddr rfl fo49_0 rfl) ?_
  refine JQ.go trivial (fun w H => by first | exact RX.load H rfl (i := 0) rfl rfl one26 | exact RX.load H rfl (i := 1) rfl rfl one26) ?_
  refine JQ.go trivial (fun w H => RX.len_slice rfl (by rw [sl26]; rfl) rfl) ?_
  refine JQ.go trivial (fun w H => RX.movev (v := Value.pointer _) rfl) ?_
  refine JQ.go trivial (fun w H => RX.nilCheck rfl) ?_
  refine JQ.go trivial (fun w H => RX.fieldAddr rfl fo49_1 rfl) ?_
  refine JQ.go trivial (fun w H => by first | exact RX.load H rfl (i := 0) rfl rfl one3 | exact RX.load H rfl (i := 1) rfl rfl one3) ?_
  refine JQ.go trivial (fun w H => RX.sub rfl rfl (w_i64 (r := ((bs.length - at_ : Nat) : Int)) (by omega) (by omega) (by omega))) ?_
  refine JQ.go trivial (fun w H => RX.lt rfl rfl) ?_
  refine JQ.nil fun w H => ?_
  refine J.cond_d rfl (fun hsh => ?_) (fun hsh => ?_)
  · skip
    refine J.seq ?_
    refine J.region ?_
    refine JL.go trivial (RX.assign) ?_
    refine JL.go trivial (RX.assign) ?_
    refine JL.nil ?_
    refine J.ret2 (v := Value.complex _ _ _) (x := Value.int _ _) Tryd.func63 rfl rfl rfl ?_
    have hf : rNa (bs.drop at_) = .err 1 := pair2_short (by rw [List.length_drop]; omega)
    rw [hf]
    exact ⟨_, rfl, rfl, H⟩
  · skip
    refine J.skip ?_
    refine J.seq ?_
    refine J.region ?_
    refine JL.go trivial (RX.movev (v := Value.pointer _) rfl) ?_
    refine JL.go trivial (RX.movev (v := Value.pointer _) rfl) ?_
    refine JL.go trivial (RX.nilCheck rfl) ?_
    refine JL.go trivial (RX.fieldAddr rfl fo49_1 rfl) ?_
    refine JL.go trivial (by first | exact RX.load H rfl (i := 0) rfl rfl one3 | exact RX.load H rfl (i := 1) rfl rfl one3) ?_
    refine JL.does trivial (EX.call rfl cl97 rfl ((float32At_c H hs hat hl (a := at_) (by omega)))) ?_
    rintro _ w ⟨rfl, H⟩
    refine JL.go trivial (RX.movev (v := Value.tuple _) rfl) ?_
    refine JL.go trivial (RX.extract rfl rfl) ?_
    refine JL.go trivial (RX.extract rfl rfl) ?_
    refine JL.go trivial (RX.assignv (v := Value.float _ _) rfl) ?_
    refine JL.go trivial (RX.assignv (v := Value.bool _) rfl) ?_
    refine JL.nil ?_
    refine J.seq ?_
    refine J.region ?_
    refine JL.go trivial (RX.movev (v := Value.pointer _) rfl) ?_
    refine JL.go trivial (RX.movev (v := Value.pointer _) rfl) ?_
    refine JL.go trivial (RX.nilCheck rfl) ?_
    refine JL.go trivial (RX.fieldAddr rfl fo49_1 rfl) ?_
    refine JL.go trivial (by first | exact RX.load H rfl (i := 0) rfl rfl one3 | exact RX.load H rfl (i := 1) rfl rfl one3) ?_
    refine JL.go trivial (RX.add rfl rfl (w_i64 (r := ((at_ + 4 : Nat) : Int)) (by omega) (by omega) (by omega))) ?_
    refine JL.does trivial (EX.call rfl cl97 rfl ((float32At_c H hs hat hl (a := at_ + 4) (by omega)))) ?_
    rintro _ w ⟨rfl, H⟩
    refine JL.go trivial (RX.movev (v := Value.tuple _) rfl) ?_
    refine JL.go trivial (RX.extract rfl rfl) ?_
    refine JL.go trivial (RX.extract rfl rfl) ?_
    refine JL.go trivial (RX.assignv (v := Value.float _ _) rfl) ?_
    refine JL.go trivial (RX.assignv (v := Value.bool _) rfl) ?_
    refine JL.nil ?_
    refine J.seq ?_
    refine J.seq ?_
    refine J.region ?_
    have hns : ¬ (bs.drop at_).length < 8 := by rw [List.length_drop]; omega
    have hdd : (bs.drop at_).drop 4 = bs.drop (at_ + 4) := List.drop_drop
    refine JL.go trivial (RX.movev (v := Value.bool _) rfl) ?_
    refine JL.go trivial (RX.not_d rfl) ?_
    refine JL.go trivial (RX.movev (v := Value.bool _) rfl) ?_
    refine JL.splitS 40 rfl (fun hn1 => ?_) (fun hn1 => ?_)
    · skip
      first | have hn1p := of_decide_eq_true hn1 | skip
      refine JL.no ⟨_, rfl, gno hn1⟩ ?_
      refine JL.no ⟨_, rfl, gno hn1⟩ ?_
      refine JL.go trivial (RX.pick_t rfl hn1) ?_
      refine JL.nil ?_
      refine J.cond_t rfl rfl ?_
      refine J.seq ?_
      refine J.region ?_
      refine JL.go trivial (RX.assign) ?_
      refine JL.go trivial (RX.assign) ?_
      refine JL.nil ?_
      refine J.ret2 (v := Value.complex _ _ _) (x := Value.int _ _) Tryd.func63 rfl rfl rfl ?_
      have hn1p := of_decide_eq_true hn1
      have h1 : rF32 (bs.drop at_) = .err 13 := by rw [rF32, if_neg (by omega), if_neg hn1p]
      have hf : rNa (bs.drop at_) = .err 13 := pair2_e1 hns h1
      rw [hf]
      exact ⟨_, rfl, rfl, H⟩
    · skip
      first | have hn1p := of_decide_eq_false hn1 | skip
      have hn1p := Decidable.not_not.1 (of_decide_eq_false hn1)
      have h1 : rF32 (bs.drop at_) = .ok (ofLE ((bs.drop at_).take 4)) 4 := by rw [rF32, if_neg (by omega), if_pos hn1p]
      refine JL.go ⟨_, rfl, hn1⟩ (RX.movev (v := Value.bool _) rfl) ?_
      refine JL.go ⟨_, rfl, hn1⟩ (RX.not_d rfl) ?_
      refine JL.go trivial (RX.pick_f rfl hn1) ?_
      refine JL.nil ?_
      refine J.cond_d rfl (fun hn2 => ?_) (fun hn2 => ?_)
      · skip
        refine J.seq ?_
        refine J.region ?_
        refine JL.go trivial (RX.assign) ?_
        refine JL.go trivial (RX.assign) ?_
        refine JL.nil ?_
        refine J.ret2 (v := Value.complex _ _ _) (x := Value.int _ _) Tryd.func63 rfl rfl rfl ?_
        have h2 : rF32 ((bs.drop at_).drop 4) = .err 13 := by rw [hdd, rF32, if_neg (by rw [List.length_drop]; omega), if_neg hn2]
        have hf : rNa (bs.drop at_) = .err 13 := pair2_e2 hns h1 h2
        rw [hf]
        exact ⟨_, rfl, rfl, H⟩
      · skip
        refine J.skip ?_
        refine J.seq ?_
        refine J.region ?_
        refine JL.go trivial (RX.movev (v := Value.pointer _) rfl) ?_
        refine JL.go trivial (RX.nilCheck rfl) ?_
        refine JL.go trivial (RX.fieldAddr rfl fo49_1 rfl) ?_
        refine JL.go trivial (by first | exact RX.load H rfl (i := 0) rfl rfl one3 | exact RX.load H rfl (i := 1) rfl rfl one3) ?_
        refine JL.go trivial (RX.add rfl rfl (w_i64 (r := ((at_ + 8 : Nat) : Int)) (by omega) (by omega) (by omega))) ?_
        refine JL.go trivial (RX.nilCheck rfl) ?_
        refine JL.go trivial (RX.fieldAddr rfl fo49_1 rfl) ?_
        refine JL.does trivial (by first | exact EX.store (v := Value.int _ _) H rfl rfl (i := 0) rfl rfl (by simp) sz3 rfl rfl | exact EX.store (v := Value.int _ _) H rfl rfl (i := 1) rfl rfl (by simp) sz3 rfl rfl) ?_
        rintro _ w H
        refine JL.nil ?_
        refine J.seq ?_
        refine J.region ?_
        refine JL.go trivial (RX.movev (v := Value.float _ _) rfl) ?_
        refine JL.go trivial (RX.movev (v := Value.float _ _) rfl) ?_
        refine JL.go trivial (RX.complex rfl rfl) ?_
        refine JL.go trivial (RX.assignv (v := Value.complex _ _ _) rfl) ?_
        refine JL.go trivial (RX.assign) ?_
        refine JL.nil ?_
        refine J.ret2 (v := Value.complex _ _ _) (x := Value.int _ _) Tryd.func63 rfl rfl rfl ?_
        have hn2p := Decidable.not_not.1 hn2
        have h2 : rF32 ((bs.drop at_).drop 4) = .ok (ofLE ((bs.drop (at_ + 4)).take 4)) 4 := by rw [hdd, rF32, if_neg (by rw [List.length_drop]; omega), if_pos hn2p]
        have hf : rNa (bs.drop at_) = .ok (ofLE ((bs.drop at_).take 4), ofLE ((bs.drop (at_ + 4)).take 4)) 8 := pair2_ok hns h1 h2
        rw [hf]
        exact ⟨_, rfl, rfl, H⟩
theorem qText_c {w0 w : World} {F : List Seg} {b T c at_ : Nat} {p : Option Addr} {bs : List UInt8} (H : Hp w0 w ([(b, cel [.slice p bs.length c, .int .i64 (at_ : Nat)] T)] :: F)) (hs : SlAt F p (bv bs)) (hat : at_ ≤ bs.length) (hl : bs.length ≤ 1099511627776) (hsp : ∀ a, p = some a → a.spot = none) (hcap : bs.length ≤ c) {most : Int} (hm0 : -9223372036854775808 ≤ most) (hm1 : most ≤ 9223372036854775807) : Ret Tryd.prog 65 [.pointer (some ⟨b, 0, none⟩), .int .i64 most] w (fun v w' => v = .tuple #[.string ⟨((rTx most (bs.drop at_)).val []).toArray⟩, .int .i64 ((rTx most (bs.drop at_)).code : Nat)] ∧ Hp w0 w' ([(b, cel [.slice p bs.length c, .int .i64 (at_ + (rTx most (bs.drop at_)).k : Nat)] T)] :: F)) := by
  refine Calls.of_J (n := 52) Tryd.func65 rfl rfl rfl ?_
  refine J.seq ?_
  refine J.region ?_
  refine JL.go trivial (RX.assign) ?_
  refine JL.go trivial (RX.assign) ?_
  refine JL.nil ?_
  refine J.seq ?_
  refine J.region ?_
  refine JL.go trivial (RX.movev (v := Value.pointer _) rfl) ?_
  refine JL.go trivial (RX.movev (v := Value.pointer _) rfl) ?_
  refine JL.go trivial (RX.nilCheck rfl) ?_
  refine JL.go trivial (RX.fieldAddr rfl fo49_1 rfl) ?_
  refine JL.go trivial (by first | exact RX.load H rfl (i := 0) rfl rfl one3 | exact RX.load H rfl (i := 1) rfl rfl one3) ?_
  refine JL.go trivial (RX.movev (v := Value.int _ _) rfl) ?_
  refine JL.does trivial (EX.call rfl cl95 rfl ((qupto_c H hs hat hl hm0 hm1))) ?_
  rintro _ w ⟨rfl, H⟩
  have hg := rUp_good most (bs.drop at_)
  have hu1 := hg.1.k
  rw [List.length_drop] at hu1
  refine JL.go trivial (RX.movev (v := Value.tuple _) rfl) ?_
  refine JL.go trivial (RX.extract rfl rfl) ?_
  refine JL.go trivial (RX.extract rfl rfl) ?_
  refine JL.go trivial (RX.extract rfl rfl) ?_
  refine JL.go trivial (RX.assignv (v := Value.int _ _) rfl) ?_
  refine JL.go trivial (RX.assignv (v := Value.int _ _) rfl) ?_
  refine JL.go trivial (RX.assignv (v := Value.int _ _) rfl) ?_
  refine JL.nil ?_
  refine J.seq ?_
  refine J.seq ?_
  refine J.region ?_
  refine JL.go trivial (RX.movev (v := Value.int _ _) rfl) ?_
  refine JL.go trivial (RX.eq rfl rfl) ?_
  refine JL.go trivial (RX.movev (v := Value.bool _) rfl) ?_
  refine JL.splitS 22 rfl (fun hz => ?_) (fun hz => ?_)
  · skip
    first | have hzp := of_decide_eq_true hz | skip
    have hz0 : (rUp most (bs.drop at_)).code = 0 := by have := of_decide_eq_true hz; omega
    obtain ⟨n, k, hu, hkl⟩ := hg.1.of_ok hz0
    have hup := hg.2 n k hu
    rw [hu] at hz hu1 ⊢
    simp only [Rs.val_ok, Rs.k_ok, Rs.code_ok, Rs.val_err, Rs.k_err, Rs.code_err] at hz hu1 ⊢
    refine JL.go ⟨_, rfl, hz⟩ (RX.movev (v := Value.int _ _) rfl) ?_
    refine JL.go ⟨_, rfl, hz⟩ (RX.movev (v := Value.pointer _) rfl) ?_
    refine JL.go ⟨_, rfl, hz⟩ (RX.nilCheck rfl) ?_
    refine JL.go ⟨_, rfl, hz⟩ (RX.fieldAddr rfl fo49_0 rfl) ?_
    refine JL.go ⟨_, rfl, hz⟩ (by first | exact RX.load H rfl (i := 0) rfl rfl one26 | exact RX.load H rfl (i := 1) rfl rfl one26) ?_
    refine JL.go ⟨_, rfl, hz⟩ (RX.len_slice rfl (by rw [sl26]; rfl) rfl) ?_
    refine JL.go ⟨_, rfl, hz⟩ (RX.movev (v := Value.int _ _) rfl) ?_
    refine JL.go ⟨_, rfl, hz⟩ (RX.sub rfl rfl (w_i64 (r := ((bs.length - (at_ + k) : Nat) : Int)) (by omega) (by omega) (by omega))) ?_
    refine JL.go ⟨_, rfl, hz⟩ (RX.gt rfl rfl) ?_
    refine JL.go trivial (RX.pick_t rfl hz) ?_
    refine JL.nil ?_
    refine J.cond_d rfl (fun hsh => ?_) (fun hsh => ?_)
    · skip
      have hf : rTx most (bs.drop at_) = .err 1 := by simp only [rTx, hu]; rw [if_pos (by rw [List.length_drop, List.length_drop]; omega)]
      refine J.region ?_
      refine JL.go trivial (RX.assign) ?_
      refine JL.nil ?_
      refine J.seq ?_
      refine J.seq ?_
      refine J.region ?_
      refine JL.go trivial (RX.movev (v := Value.int _ _) rfl) ?_
      refine JL.go trivial (RX.ne rfl rfl) ?_
      refine JL.nil ?_
      refine J.cond_t rfl (decide_eq_true (by decide)) ?_
      refine J.seq ?_
      refine J.region ?_
      refine JL.go trivial (RX.movev (v := Value.int _ _) rfl) ?_
      refine JL.go trivial (RX.assign) ?_
      refine JL.go trivial (RX.assignv (v := Value.int _ _) rfl) ?_
      refine JL.nil ?_
      refine J.ret2 (v := Value.string _) (x := Value.int _ _) Tryd.func65 rfl rfl rfl ?_
      rw [hf]
      exact ⟨_, rfl, rfl, H⟩
    · skip
      have hnl : n ≤ bs.length - (at_ + k) := by omega
      refine J.skip ?_
      refine J.seq ?_
      refine J.seq ?_
      refine J.region ?_
      refine JL.go trivial (RX.movev (v := Value.int _ _) rfl) ?_
      refine JL.go trivial (RX.ne rfl rfl) ?_
      refine JL.nil ?_
      refine J.cond_f rfl (decide_eq_false (by simp)) ?_
      refine J.skip ?_
      refine J.seq ?_
      refine J.region ?_
      refine JL.go trivial (RX.movev (v := Value.pointer _) rfl) ?_
      refine JL.go trivial (RX.movev (v := Value.int _ _) rfl) ?_
      refine JL.go trivial (RX.movev (v := Value.int _ _) rfl) ?_
      refine JL.go trivial (RX.add rfl rfl (w_i64 (r := ((at_ + k + n : Nat) : Int)) (by omega) (by omega) (by omega))) ?_
      refine JL.go trivial (RX.nilCheck rfl) ?_
      refine JL.go trivial (RX.fieldAddr rfl fo49_1 rfl) ?_
      refine JL.does trivial (by first | exact EX.store (v := Value.int _ _) H rfl rfl (i := 0) rfl rfl (by simp) sz3 rfl rfl | exact EX.store (v := Value.int _ _) H rfl rfl (i := 1) rfl rfl (by simp) sz3 rfl rfl) ?_
      rintro _ w H
      refine JL.nil ?_
      refine J.seq ?_
      refine J.region ?_
      refine JL.go trivial (RX.movev (v := Value.pointer _) rfl) ?_
      refine JL.go trivial (RX.nilCheck rfl) ?_
      refine JL.go trivial (RX.fieldAddr rfl fo49_0 rfl) ?_
      refine JL.go trivial (by first | exact RX.load H rfl (i := 0) rfl rfl one26 | exact RX.load H rfl (i := 1) rfl rfl one26) ?_
      refine JL.go trivial (RX.movev (v := Value.int _ _) rfl) ?_
      refine JL.go trivial (RX.movev (v := Value.int _ _) rfl) ?_
      refine JL.go trivial (RX.movev (v := Value.int _ _) rfl) ?_
      refine JL.go trivial (RX.add rfl rfl (w_i64 (r := ((at_ + k + n : Nat) : Int)) (by omega) (by omega) (by omega))) ?_
      refine JL.go trivial (RX.slice_lh rfl rfl rfl sl26 hsp (by omega) (by omega) (by omega) (show ((at_ + k : Nat) : Int).toNat = at_ + k from rfl) (show ((at_ + k + n : Nat) : Int).toNat = at_ + k + n from rfl)) ?_
      have hlen : ((bs.drop (at_ + k)).take n).length = at_ + k + n - (at_ + k) := by rw [List.length_take, List.length_drop]; omega
      refine JL.go trivial (RX.b2s (p := behind p c (at_ + k) 1) (c := c - (at_ + k)) (l := (bs.drop (at_ + k)).take n) H (by rw [hlen]; rfl) (by show SlAt _ _ (bv _); rw [← bv_part]; exact (SlAt.behind hs.cons (by rw [bv_len]; omega)).take) sl26 ud5 ud9) ?_
      refine JL.go trivial (RX.assignv (v := Value.string _) rfl) ?_
      refine JL.go trivial (RX.assign) ?_
      refine JL.nil ?_
      refine J.ret2 (v := Value.string _) (x := Value.int _ _) Tryd.func65 rfl rfl rfl ?_
      have hf : rTx most (bs.drop at_) = .ok ((bs.drop (at_ + k)).take n) (k + n) := by simp only [rTx, hu]; rw [if_neg (by rw [List.length_drop, List.length_drop]; omega), List.drop_drop]
      rw [hf]
      exact ⟨_, rfl, rfl, by simpa [Rs.k, Nat.add_assoc] using H⟩
  · skip
    first | have hzp := of_decide_eq_false hz | skip
    have hz0 : ¬ (rUp most (bs.drop at_)).code = 0 := by have := of_decide_eq_false hz; omega
    obtain ⟨e, he, he1, _⟩ := hg.1.of_err hz0
    have hf : rTx most (bs.drop at_) = .err e := by rw [rTx, he]
    rw [he] at hz ⊢
    simp only [Rs.val_ok, Rs.k_ok, Rs.code_ok, Rs.val_err, Rs.k_err, Rs.code_err] at hz ⊢
    refine JL.no ⟨_, rfl, gno hz⟩ ?_
    refine JL.no ⟨_, rfl, gno hz⟩ ?_
    refine JL.no ⟨_, rfl, gno hz⟩ ?_
    refine JL.no ⟨_, rfl, gno hz⟩ ?_
    refine JL.no ⟨_, rfl, gno hz⟩ ?_
    refine JL.no ⟨_, rfl, gno hz⟩ ?_
    refine JL.no ⟨_, rfl, gno hz⟩ ?_
    refine JL.no ⟨_, rfl, gno hz⟩ ?_
    refine JL.no ⟨_, rfl, gno hz⟩ ?_
    refine JL.go trivial (RX.pick_f rfl hz) ?_
    refine JL.nil ?_
    refine J.cond_f rfl rfl ?_
    refine J.skip ?_
    refine J.seq ?_
    refine J.seq ?_
    refine J.region ?_
    refine JL.go trivial (RX.movev (v := Value.int _ _) rfl) ?_
    refine JL.go trivial (RX.ne rfl rfl) ?_
    refine JL.nil ?_
    refine J.cond_t rfl (decide_eq_true (by omega)) ?_
    refine J.seq ?_
    refine J.region ?_
    refine JL.go trivial (RX.movev (v := Value.int _ _) rfl) ?_
    refine JL.go trivial (RX.assign) ?_
    refine JL.go trivial (RX.assignv (v := Value.int _ _) rfl) ?_
    refine JL.nil ?_
    refine J.ret2 (v := Value.string _) (x := Value.int _ _) Tryd.func65 rfl rfl rfl ?_
    rw [hf]
    exact ⟨_, rfl, rfl, H⟩
theorem qList_err {w0 w : World} {F : List Seg} {b T c at_ : Nat} {p : Option Addr} {bs : List UInt8} (H : Hp w0 w ([(b, cel [.slice p bs.length c, .int .i64 (at_ : Nat)] T)] :: F)) (hs : SlAt F p (bv bs)) (hat : at_ ≤ bs.length) (hl : bs.length ≤ 1099511627776) {e : Nat} (he : rUp 1048576 (bs.drop at_) = .err e) (he1 : 1 ≤ e) : Ret Tryd.prog 66 [.pointer (some ⟨b, 0, none⟩)] w fun v w' => ∃ p2 c2 s2, v = .tuple #[.slice p2 ((rList rCo (bs.drop at_)).val []).length c2, .int .i64 ((rList rCo (bs.drop at_)).code : Nat)] ∧ OwnSl 38 1 p2 ((rList rCo (bs.drop at_)).val []).length c2 (cVs ((rList rCo (bs.drop at_)).val [])) s2 ∧ Hp w0 w' (s2 :: [(b, cel [.slice p bs.length c, .int .i64 (at_ + (rList rCo (bs.drop at_)).k : Nat)] T)] :: F) := by
  refine Calls.of_J (n := 60) Tryd.func66 rfl rfl rfl ?_
  refine J.seq ?_
  refine J.region ?_
  refine JL.go trivial (RX.assign) ?_
  refine JL.go trivial (RX.assign) ?_
  refine JL.nil ?_
  refine J.seq ?_
  refine J.region ?_
  refine JL.go trivial (RX.movev (v := Value.pointer _) rfl) ?_
  refine JL.go trivial (RX.movev (v := Value.pointer _) rfl) ?_
  refine JL.go trivial (RX.nilCheck rfl) ?_
  refine JL.go trivial (RX.fieldAddr rfl fo49_1 rfl) ?_
  refine JL.go trivial (by first | exact RX.load H rfl (i := 0) rfl rfl one3 | exact RX.load H rfl (i := 1) rfl rfl one3 | exact RX.load H rfl (i := 2) rfl rfl one3 | exact RX.load H rfl (i := 3) rfl rfl one3) ?_
  refine JL.does trivial (EX.call rfl cl95 rfl ((qupto_c H hs hat hl (most := 1048576) (by decide) (by decide)))) ?_
  rintro _ w ⟨rfl, H⟩
  have hg := rUp_good 1048576 (bs.drop at_)
  have hu1 := hg.1.k
  rw [List.length_drop] at hu1
  refine JL.go trivial (RX.movev (v := Value.tuple _) rfl) ?_
  refine JL.go trivial (RX.extract rfl rfl) ?_
  refine JL.go trivial (RX.extract rfl rfl) ?_
  refine JL.go trivial (RX.extract rfl rfl) ?_
  refine JL.go trivial (RX.assignv (v := Value.int _ _) rfl) ?_
  refine JL.go trivial (RX.assignv (v := Value.int _ _) rfl) ?_
  refine JL.go trivial (RX.assignv (v := Value.int _ _) rfl) ?_
  refine JL.nil ?_
  refine J.seq ?_
  refine J.region ?_
  refine JL.go trivial (RX.movev (v := Value.pointer _) rfl) ?_
  refine JL.go trivial (RX.nilCheck rfl) ?_
  refine JL.go trivial (RX.fieldAddr rfl fo49_0 rfl) ?_
  refine JL.go trivial (by first | exact RX.load H rfl (i := 0) rfl rfl one26 | exact RX.load H rfl (i := 1) rfl rfl one26 | exact RX.load H rfl (i := 2) rfl rfl one26 | exact RX.load H rfl (i := 3) rfl rfl one26) ?_
  refine JL.go trivial (RX.movev (v := Value.int _ _) rfl) ?_
  refine JL.go trivial (RX.build (pv := [(0, .slice p bs.length c), (1, .int .i64 (at_ + (rUp 1048576 (bs.drop at_)).k : Nat))]) (res := [.slice p bs.length c, .int .i64 (at_ + (rUp 1048576 (bs.drop at_)).k : Nat)]) rfl (by kernel_rfl)) ?_
  refine JL.does trivial (EX.box (v := Value.agg _) H rfl rfl) ?_
  rintro _ w ⟨b2, rfl, H⟩
  refine JL.go trivial (RX.assignv (v := Value.pointer _) rfl) ?_
  refine JL.nil ?_
  refine J.seq ?_
  refine J.region ?_
  refine JL.does trivial (EX.buildSlice0 H elC) ?_
  rintro _ w ⟨b0, rfl, H⟩
  refine JL.go trivial (RX.assignv (v := Value.slice _ _ _) rfl) ?_
  refine JL.nil ?_
  refine J.seq ?_
  refine J.seq ?_
  refine J.region ?_
  refine JL.go trivial (RX.assign) ?_
  refine JL.nil ?_
  refine J.block ?_
  refine J.loop (ι := Unit) (S := fun _ => [(6, .int .i64 (e : Nat)), (9, .int .i64 0), (8, .slice (some ⟨b0, 0, none⟩) 0 0)]) (Φ := fun _ w => Hp w0 w ([(b0, cel [] 38)] :: [(b2, cel [.slice p bs.length c, .int .i64 (at_ : Nat)] 49)] :: [(b, cel [.slice p bs.length c, .int .i64 (at_ : Nat)] T)] :: F)) (μ := fun _ => 0) (C := [(0, _), (4, _), (7, _)]) () ⟨rfl, rfl, rfl, trivial⟩ ⟨(show Value.int .i64 ((rUp 1048576 (bs.drop at_)).code : Nat) = Value.int .i64 (e : Nat) by rw [he]; rfl), rfl, rfl, trivial⟩ ?_ ?_
  · rw [he] at H; exact H
  clear H
  rintro _ ρ w H IH
  rw [he]
  refine J.seq ?_
  refine J.seq ?_
  refine J.region ?_
  refine JL.go trivial (RX.movev (v := Value.int _ _) rfl) ?_
  refine JL.go trivial (RX.movev (v := Value.int _ _) rfl) ?_
  refine JL.go trivial (RX.lt rfl rfl) ?_
  refine JL.go trivial (RX.movev (v := Value.bool _) rfl) ?_
  refine JL.splitS 33 rfl (fun hlt => ?_) (fun hlt => ?_)
  · skip
    first | have hltp := of_decide_eq_true hlt | skip
    exfalso
    have := of_decide_eq_true hlt
    simp only [Rs.val_err] at this
    omega
  · skip
    first | have hltp := of_decide_eq_false hlt | skip
    refine JL.no ⟨_, rfl, gno hlt⟩ ?_
    refine JL.no ⟨_, rfl, gno hlt⟩ ?_
    refine JL.go trivial (RX.pick_f rfl hlt) ?_
    refine JL.nil ?_
    refine J.cond_f rfl rfl ?_
    refine J.exit rfl ?_
    refine J.seq ?_
    refine J.seq ?_
    refine J.region ?_
    refine JL.go trivial (RX.movev (v := Value.int _ _) rfl) ?_
    refine JL.go trivial (RX.ne rfl rfl) ?_
    refine JL.nil ?_
    refine J.cond_t rfl (decide_eq_true (by omega)) ?_
    refine J.seq ?_
    refine J.region ?_
    refine JL.go trivial (RX.movev (v := Value.int _ _) rfl) ?_
    refine JL.go trivial (RX.assign) ?_
    refine JL.go trivial (RX.assignv (v := Value.int _ _) rfl) ?_
    refine JL.nil ?_
    refine J.ret2 (v := Value.slice _ _ _) (x := Value.int _ _) Tryd.func66 rfl rfl rfl ?_
    have hf : rList rCo (bs.drop at_) = .err e := by rw [rList, he]
    rw [hf]
    exact ⟨_, rfl, none, 0, [], rfl, OwnSl.nil, H.drop.drop.nil⟩
theorem qList_ok {w0 w : World} {F : List Seg} {b T c at_ : Nat} {p : Option Addr} {bs : List UInt8} (H : Hp w0 w ([(b, cel [.slice p bs.length c, .int .i64 (at_ : Nat)] T)] :: F)) (hs : SlAt F p (bv bs)) (hat : at_ ≤ bs.length) (hl : bs.length ≤ 1099511627776) {n k0 : Nat} (hu : rUp 1048576 (bs.drop at_) = .ok n k0) (hn : n ≤ 1048576) : Ret Tryd.prog 66 [.pointer (some ⟨b, 0, none⟩)] w fun v w' => ∃ p2 c2 s2, v = .tuple #[.slice p2 ((rList rCo (bs.drop at_)).val []).length c2, .int .i64 ((rList rCo (bs.drop at_)).code : Nat)] ∧ OwnSl 38 1 p2 ((rList rCo (bs.drop at_)).val []).length c2 (cVs ((rList rCo (bs.drop at_)).val [])) s2 ∧ Hp w0 w' (s2 :: [(b, cel [.slice p bs.length c, .int .i64 (at_ + (rList rCo (bs.drop at_)).k : Nat)] T)] :: F) := by
  refine Calls.of_J (n := 60) Tryd.func66 rfl rfl rfl ?_
  refine J.seq ?_
  refine J.region ?_
  refine JL.go trivial (RX.assign) ?_
  refine JL.go trivial (RX.assign) ?_
  refine JL.nil ?_
  refine J.seq ?_
  refine J.region ?_
  refine JL.go trivial (RX.movev (v := Value.pointer _) rfl) ?_
  refine JL.go trivial (RX.movev (v := Value.pointer _) rfl) ?_
  refine JL.go trivial (RX.nilCheck rfl) ?_
  refine JL.go trivial (RX.fieldAddr rfl fo49_1 rfl) ?_
  refine JL.go trivial (by first | exact RX.load H rfl (i := 0) rfl rfl one3 | exact RX.load H rfl (i := 1) rfl rfl one3 | exact RX.load H rfl (i := 2) rfl rfl one3 | exact RX.load H rfl (i := 3) rfl rfl one3) ?_
  refine JL.does trivial (EX.call rfl cl95 rfl ((qupto_c H hs hat hl (most := 1048576) (by decide) (by decide)))) ?_
  rintro _ w ⟨rfl, H⟩
  have hg := rUp_good 1048576 (bs.drop at_)
  have hu1 := hg.1.k
  rw [List.length_drop] at hu1
  refine JL.go trivial (RX.movev (v := Value.tuple _) rfl) ?_
  rw [hu] at hu1 ⊢
  simp only [Rs.val_ok, Rs.k_ok, Rs.code_ok, Rs.val_err, Rs.k_err, Rs.code_err] at hu1 ⊢
  have hli : rList rCo (bs.drop at_) = (match rMany rCo n (bs.drop (at_ + k0)) with | .err e => .err e | .ok ys m => .ok ys (k0 + m)) := by
    simp only [rList, hu]
    rw [List.drop_drop]
    cases rMany rCo n (bs.drop (at_ + k0)) <;> rfl
  refine JL.go trivial (RX.extract rfl rfl) ?_
  refine JL.go trivial (RX.extract rfl rfl) ?_
  refine JL.go trivial (RX.extract rfl rfl) ?_
  refine JL.go trivial (RX.assignv (v := Value.int _ _) rfl) ?_
  refine JL.go trivial (RX.assignv (v := Value.int _ _) rfl) ?_
  refine JL.go trivial (RX.assignv (v := Value.int _ _) rfl) ?_
  refine JL.nil ?_
  refine J.seq ?_
  refine J.region ?_
  refine JL.go trivial (RX.movev (v := Value.pointer _) rfl) ?_
  refine JL.go trivial (RX.nilCheck rfl) ?_
  refine JL.go trivial (RX.fieldAddr rfl fo49_0 rfl) ?_
  refine JL.go trivial (by first | exact RX.load H rfl (i := 0) rfl rfl one26 | exact RX.load H rfl (i := 1) rfl rfl one26 | exact RX.load H rfl (i := 2) rfl rfl one26 | exact RX.load H rfl (i := 3) rfl rfl one26) ?_
  refine JL.go trivial (RX.movev (v := Value.int _ _) rfl) ?_
  refine JL.go trivial (RX.build (pv := [(0, .slice p bs.length c), (1, .int .i64 (at_ + k0 : Nat))]) (res := [.slice p bs.length c, .int .i64 (at_ + k0 : Nat)]) rfl (by kernel_rfl)) ?_
  refine JL.does trivial (EX.box (v := Value.agg _) H rfl rfl) ?_
  rintro _ w ⟨b2, rfl, H⟩
  refine JL.go trivial (RX.assignv (v := Value.pointer _) rfl) ?_
  refine JL.nil ?_
  refine J.seq ?_
  refine J.region ?_
  refine JL.does trivial (EX.buildSlice0 H elC) ?_
  rintro _ w ⟨b0, rfl, H⟩
  refine JL.go trivial (RX.assignv (v := Value.slice _ _ _) rfl) ?_
  refine JL.nil ?_
  refine J.seq ?_
  refine J.seq ?_
  refine J.region ?_
  refine JL.go trivial (RX.assign) ?_
  refine JL.nil ?_
  refine J.block ?_
  refine J.loop (ι := List (Nat × Nat) × Nat × Nat × Nat × Option Addr × Nat × Seg) (S := fun q => [(6, .int .i64 (q.2.2.2.1 : Nat)), (9, .int .i64 (q.2.2.1 : Nat)), (8, .slice q.2.2.2.2.1 q.2.2.1 q.2.2.2.2.2.1)]) (Φ := fun q w => q.2.2.1 ≤ n ∧ at_ + k0 + q.2.1 ≤ bs.length ∧ (q.2.2.2.1 = 0 → q.1.length = q.2.2.1 ∧ rMany rCo n (bs.drop (at_ + k0)) = rManyA rCo (n - q.2.2.1) q.1 q.2.1 (bs.drop (at_ + k0 + q.2.1)) ∧ OwnSl 38 1 q.2.2.2.2.1 q.2.2.1 q.2.2.2.2.2.1 (cVs q.1) q.2.2.2.2.2.2) ∧ (¬ q.2.2.2.1 = 0 → rList rCo (bs.drop at_) = .err q.2.2.2.1) ∧ Hp w0 w (q.2.2.2.2.2.2 :: [(b2, cel [.slice p bs.length c, .int .i64 (at_ + k0 + q.2.1 : Nat)] 49)] :: [(b, cel [.slice p bs.length c, .int .i64 (at_ : Nat)] T)] :: F)) (μ := fun q => (n - q.2.2.1) + (if q.2.2.2.1 = 0 then 1 else 0)) (C := [(0, _), (4, _), (7, _)]) ([], 0, 0, 0, some ⟨b0, 0, none⟩, 0, [(b0, cel [] 38)]) ⟨rfl, rfl, rfl, trivial⟩ ⟨rfl, rfl, rfl, trivial⟩ ?_ ?_
  · exact ⟨by simp, by simp only; omega, fun _ => ⟨rfl, by rw [rMany_A]; rfl, OwnSl.empty⟩, fun h => absurd rfl h, H⟩
  clear H
  rintro ⟨acc, ka, j, er, p2, c2, s2⟩ ρ w ⟨hi, hka, hz, hnz, H⟩ IH
  simp only at hi hka hz hnz H
  dsimp only
  refine J.seq ?_
  refine J.seq ?_
  refine J.region ?_
  refine JL.go trivial (RX.movev (v := Value.int _ _) rfl) ?_
  refine JL.go trivial (RX.movev (v := Value.int _ _) rfl) ?_
  refine JL.go trivial (RX.lt rfl rfl) ?_
  refine JL.go trivial (RX.movev (v := Value.bool _) rfl) ?_
  refine JL.splitS 33 rfl (fun hlt => ?_) (fun hlt => ?_)
  · skip
    first | have hltp := of_decide_eq_true hlt | skip
    refine JL.go ⟨_, rfl, hlt⟩ (RX.movev (v := Value.int _ _) rfl) ?_
    refine JL.go ⟨_, rfl, hlt⟩ (RX.eq rfl rfl) ?_
    refine JL.go trivial (RX.pick_t rfl hlt) ?_
    refine JL.nil ?_
    refine J.cond_d rfl (fun he0 => ?_) (fun he0 => ?_)
    · skip
      have her : er = 0 := by omega
      subst her
      obtain ⟨hal, hmany, hos⟩ := hz rfl
      have hltp2 := of_decide_eq_true hlt
      refine J.skip ?_
      refine J.seq ?_
      refine J.block ?_
      refine J.seq ?_
      refine J.region ?_
      refine JL.go trivial (RX.movev (v := Value.pointer _) rfl) ?_
      refine JL.does trivial (EX.call rfl cl62 rfl ((qComplex_c (H.pull 1 rfl) hs.cons.cons hka hl))) ?_
      rintro _ w ⟨rfl, H⟩
      have hgd := rCo_g (bs.drop (at_ + k0 + ka))
      have hk2 := (rCo_g (bs.drop (at_ + k0 + ka))).k
      rw [List.length_drop] at hk2
      refine JL.go trivial (RX.movev (v := Value.tuple _) rfl) ?_
      refine JL.go trivial (RX.extract rfl rfl) ?_
      refine JL.go trivial (RX.extract rfl rfl) ?_
      refine JL.go trivial (RX.assignv (v := Value.complex _ _ _) rfl) ?_
      refine JL.go trivial (RX.assignv (v := Value.int _ _) rfl) ?_
      refine JL.nil ?_
      refine J.seq ?_
      refine J.region ?_
      refine JL.go trivial (RX.movev (v := Value.int _ _) rfl) ?_
      refine JL.go trivial (RX.assignv (v := Value.int _ _) rfl) ?_
      refine JL.nil ?_
      refine J.region ?_
      refine JL.go trivial (RX.movev (v := Value.slice _ _ _) rfl) ?_
      refine JL.go trivial (RX.movev (v := Value.complex _ _ _) rfl) ?_
      refine JL.does trivial (EX.buildSlice1 H elC rfl rfl) ?_
      rintro _ w ⟨b3, rfl, H⟩
      refine JL.does trivial (EX.append (ys := [cV ((rCo (bs.drop (at_ + k0 + ka))).val (0, 0))]) (L' := fun s' => [(b3, cel [cV ((rCo (bs.drop (at_ + k0 + ka))).val (0, 0))] 38)] :: [(b2, cel [.slice p bs.length c, .int .i64 (at_ + k0 + ka + (rCo (bs.drop (at_ + k0 + ka))).k : Nat)] 49)] :: s' :: [(b, cel [.slice p bs.length c, .int .i64 (at_ : Nat)] T)] :: F) H elC rfl rfl (i := 2) rfl hos (SlAt.here rfl) rfl (by simp [isCell, cV]) (by decide) (by omega) (by omega) (fun _ => rfl)) ?_
      rintro _ w ⟨p3, c3, s3, rfl, hos3, H⟩
      refine JL.go trivial (RX.assignv (v := Value.slice _ _ _) rfl) ?_
      refine JL.nil ?_
      refine J.inBlock ?_
      refine J.region ?_
      refine JL.go trivial (RX.movev (v := Value.int _ _) rfl) ?_
      refine JL.go trivial (RX.add rfl rfl (w_i64 rfl (by omega) (by omega))) ?_
      refine JL.go trivial (RX.assignv (v := Value.int _ _) rfl) ?_
      refine JL.nil ?_
      refine IH (acc ++ [(rCo (bs.drop (at_ + k0 + ka))).val (0, 0)], ka + (rCo (bs.drop (at_ + k0 + ka))).k, j + 1, (rCo (bs.drop (at_ + k0 + ka))).code, p3, c3, s3) _ _ (by show _ < n - j + (if (0 : Nat) = 0 then 1 else 0); rw [if_pos rfl]; simp only; split <;> omega) ⟨rfl, rfl, rfl, trivial⟩ ⟨rfl, rfl, rfl, trivial⟩ ⟨by simp only; omega, by simp only; omega, fun h0 => ?_, fun h0 => ?_, by simpa [Nat.add_assoc] using (H.drop).pull 1 rfl⟩
      · obtain ⟨a, k1, he, _⟩ := hgd.of_ok h0
        simp only [List.length_append, List.length_singleton]
        refine ⟨by omega, ?_, by simp only [cVs, List.map_append]; exact hos3⟩
        rw [hmany, rManyA_ok (by omega) he, List.drop_drop, Nat.sub_sub, he]; simp [Rs.val, Rs.k, Nat.add_assoc]
      · obtain ⟨e, he, _⟩ := hgd.of_err h0
        simp only
        rw [hli, hmany, rManyA_err (by omega) he, he]; rfl
    · skip
      refine J.exit rfl ?_
      refine J.seq ?_
      refine J.seq ?_
      refine J.region ?_
      refine JL.go trivial (RX.movev (v := Value.int _ _) rfl) ?_
      refine JL.go trivial (RX.ne rfl rfl) ?_
      refine JL.nil ?_
      refine J.cond_d rfl (fun he5 => ?_) (fun he5 => ?_)
      · skip
        refine J.seq ?_
        refine J.region ?_
        refine JL.go trivial (RX.movev (v := Value.int _ _) rfl) ?_
        refine JL.go trivial (RX.assign) ?_
        refine JL.go trivial (RX.assignv (v := Value.int _ _) rfl) ?_
        refine JL.nil ?_
        refine J.ret2 (v := Value.slice _ _ _) (x := Value.int _ _) Tryd.func66 rfl rfl rfl ?_
        first
        | (have her : ¬ er = 0 := by omega
           have hf := hnz her
           rw [hf]
           exact ⟨_, rfl, none, 0, [], rfl, OwnSl.nil, H.drop.drop.nil⟩)
        | (have her : er = 0 := by omega
           subst her
           obtain ⟨hal, hmany, hos⟩ := hz rfl
           have hjn : j = n := by omega
           subst hjn
           have hf : rList rCo (bs.drop at_) = .ok acc (k0 + ka) := by rw [hli, hmany, Nat.sub_self]; rfl
           rw [hf]
           exact ⟨_, rfl, p2, c2, s2, by simp only [Rs.val_ok]; rw [hal]; rfl, by simp only [Rs.val_ok]; rw [hal]; exact hos, by simpa [Rs.k, Nat.add_assoc] using (H.pull 1 rfl).drop⟩)
      · skip
        refine J.skip ?_
        refine J.seq ?_
        refine J.region ?_
        refine JL.go trivial (RX.movev (v := Value.pointer _) rfl) ?_
        refine JL.go trivial (RX.movev (v := Value.pointer _) rfl) ?_
        refine JL.go trivial (RX.nilCheck rfl) ?_
        refine JL.go trivial (RX.fieldAddr rfl fo49_1 rfl) ?_
        refine JL.go trivial (by first | exact RX.load H rfl (i := 0) rfl rfl one3 | exact RX.load H rfl (i := 1) rfl rfl one3 | exact RX.load H rfl (i := 2) rfl rfl one3 | exact RX.load H rfl (i := 3) rfl rfl one3) ?_
        refine JL.go trivial (RX.nilCheck rfl) ?_
        refine JL.go trivial (RX.fieldAddr rfl fo49_1 rfl) ?_
        refine JL.does trivial (by first | exact EX.store (v := Value.int _ _) H rfl rfl (i := 0) rfl rfl (by simp) sz3 rfl rfl | exact EX.store (v := Value.int _ _) H rfl rfl (i := 1) rfl rfl (by simp) sz3 rfl rfl | exact EX.store (v := Value.int _ _) H rfl rfl (i := 2) rfl rfl (by simp) sz3 rfl rfl | exact EX.store (v := Value.int _ _) H rfl rfl (i := 3) rfl rfl (by simp) sz3 rfl rfl) ?_
        rintro _ w H
        refine JL.nil ?_
        refine J.seq ?_
        refine J.region ?_
        refine JL.go trivial (RX.movev (v := Value.slice _ _ _) rfl) ?_
        refine JL.go trivial (RX.assignv (v := Value.slice _ _ _) rfl) ?_
        refine JL.go trivial (RX.assign) ?_
        refine JL.nil ?_
        refine J.ret2 (v := Value.slice _ _ _) (x := Value.int _ _) Tryd.func66 rfl rfl rfl ?_
        first
        | (have her : ¬ er = 0 := by omega
           have hf := hnz her
           rw [hf]
           exact ⟨_, rfl, none, 0, [], rfl, OwnSl.nil, H.drop.drop.nil⟩)
        | (have her : er = 0 := by omega
           subst her
           obtain ⟨hal, hmany, hos⟩ := hz rfl
           have hjn : j = n := by omega
           subst hjn
           have hf : rList rCo (bs.drop at_) = .ok acc (k0 + ka) := by rw [hli, hmany, Nat.sub_self]; rfl
           rw [hf]
           exact ⟨_, rfl, p2, c2, s2, by simp only [Rs.val_ok]; rw [hal]; rfl, by simp only [Rs.val_ok]; rw [hal]; exact hos, by simpa [Rs.k, Nat.add_assoc] using (H.pull 1 rfl).drop⟩)
  · skip
    first | have hltp := of_decide_eq_false hlt | skip
    refine JL.no ⟨_, rfl, gno hlt⟩ ?_
    refine JL.no ⟨_, rfl, gno hlt⟩ ?_
    refine JL.go trivial (RX.pick_f rfl hlt) ?_
    refine JL.nil ?_
    refine J.cond_f rfl rfl ?_
    refine J.exit rfl ?_
    refine J.seq ?_
    refine J.seq ?_
    refine J.region ?_
    refine JL.go trivial (RX.movev (v := Value.int _ _) rfl) ?_
    refine JL.go trivial (RX.ne rfl rfl) ?_
    refine JL.nil ?_
    refine J.cond_d rfl (fun he5 => ?_) (fun he5 => ?_)
    · skip
      refine J.seq ?_
      refine J.region ?_
      refine JL.go trivial (RX.movev (v := Value.int _ _) rfl) ?_
      refine JL.go trivial (RX.assign) ?_
      refine JL.go trivial (RX.assignv (v := Value.int _ _) rfl) ?_
      refine JL.nil ?_
      refine J.ret2 (v := Value.slice _ _ _) (x := Value.int _ _) Tryd.func66 rfl rfl rfl ?_
      first
      | (have her : ¬ er = 0 := by omega
         have hf := hnz her
         rw [hf]
         exact ⟨_, rfl, none, 0, [], rfl, OwnSl.nil, H.drop.drop.nil⟩)
      | (have her : er = 0 := by omega
         subst her
         obtain ⟨hal, hmany, hos⟩ := hz rfl
         have hjn : j = n := by omega
         subst hjn
         have hf : rList rCo (bs.drop at_) = .ok acc (k0 + ka) := by rw [hli, hmany, Nat.sub_self]; rfl
         rw [hf]
         exact ⟨_, rfl, p2, c2, s2, by simp only [Rs.val_ok]; rw [hal]; rfl, by simp only [Rs.val_ok]; rw [hal]; exact hos, by simpa [Rs.k, Nat.add_assoc] using (H.pull 1 rfl).drop⟩)
    · skip
      refine J.skip ?_
      refine J.seq ?_
      refine J.region ?_
      refine JL.go trivial (RX.movev (v := Value.pointer _) rfl) ?_
      refine JL.go trivial (RX.movev (v := Value.pointer _) rfl) ?_
      refine JL.go trivial (RX.nilCheck rfl) ?_
      refine JL.go trivial (RX.fieldAddr rfl fo49_1 rfl) ?_
      refine JL.go trivial (by first | exact RX.load H rfl (i := 0) rfl rfl one3 | exact RX.load H rfl (i := 1) rfl rfl one3 | exact RX.load H rfl (i := 2) rfl rfl one3 | exact RX.load H rfl (i := 3) rfl rfl one3) ?_
      refine JL.go trivial (RX.nilCheck rfl) ?_
      refine JL.go trivial (RX.fieldAddr rfl fo49_1 rfl) ?_
      refine JL.does trivial (by first | exact EX.store (v := Value.int _ _) H rfl rfl (i := 0) rfl rfl (by simp) sz3 rfl rfl | exact EX.store (v := Value.int _ _) H rfl rfl (i := 1) rfl rfl (by simp) sz3 rfl rfl | exact EX.store (v := Value.int _ _) H rfl rfl (i := 2) rfl rfl (by simp) sz3 rfl rfl | exact EX.store (v := Value.int _ _) H rfl rfl (i := 3) rfl rfl (by simp) sz3 rfl rfl) ?_
      rintro _ w H
      refine JL.nil ?_
      refine J.seq ?_
      refine J.region ?_
      refine JL.go trivial (RX.movev (v := Value.slice _ _ _) rfl) ?_
      refine JL.go trivial (RX.assignv (v := Value.slice _ _ _) rfl) ?_
      refine JL.go trivial (RX.assign) ?_
      refine JL.nil ?_
      refine J.ret2 (v := Value.slice _ _ _) (x := Value.int _ _) Tryd.func66 rfl rfl rfl ?_
      first
      | (have her : ¬ er = 0 := by omega
         have hf := hnz her
         rw [hf]
         exact ⟨_, rfl, none, 0, [], rfl, OwnSl.nil, H.drop.drop.nil⟩)
      | (have her : er = 0 := by omega
         subst her
         obtain ⟨hal, hmany, hos⟩ := hz rfl
         have hjn : j = n := by omega
         subst hjn
         have hf : rList rCo (bs.drop at_) = .ok acc (k0 + ka) := by rw [hli, hmany, Nat.sub_self]; rfl
         rw [hf]
         exact ⟨_, rfl, p2, c2, s2, by simp only [Rs.val_ok]; rw [hal]; rfl, by simp only [Rs.val_ok]; rw [hal]; exact hos, by simpa [Rs.k, Nat.add_assoc] using (H.pull 1 rfl).drop⟩)
theorem qList_c {w0 w : World} {F : List Seg} {b T c at_ : Nat} {p : Option Addr} {bs : List UInt8} (H : Hp w0 w ([(b, cel [.slice p bs.length c, .int .i64 (at_ : Nat)] T)] :: F)) (hs : SlAt F p (bv bs)) (hat : at_ ≤ bs.length) (hl : bs.length ≤ 1099511627776) : Ret Tryd.prog 66 [.pointer (some ⟨b, 0, none⟩)] w fun v w' => ∃ p2 c2 s2, v = .tuple #[.slice p2 ((rList rCo (bs.drop at_)).val []).length c2, .int .i64 ((rList rCo (bs.drop at_)).code : Nat)] ∧ OwnSl 38 1 p2 ((rList rCo (bs.drop at_)).val []).length c2 (cVs ((rList rCo (bs.drop at_)).val [])) s2 ∧ Hp w0 w' (s2 :: [(b, cel [.slice p bs.length c, .int .i64 (at_ + (rList rCo (bs.drop at_)).k : Nat)] T)] :: F) := by
  have hg := rUp_good 1048576 (bs.drop at_)
  cases hr : rUp 1048576 (bs.drop at_) with
  | ok n k => exact qList_ok H hs hat hl hr (by have := (hg.2 _ _ hr).1; omega)
  | err e => rw [hr] at hg; exact qList_err H hs hat hl hr hg.1.1
theorem qFloats_err {w0 w : World} {F : List Seg} {b T c at_ : Nat} {p : Option Addr} {bs : List UInt8} (H : Hp w0 w ([(b, cel [.slice p bs.length c, .int .i64 (at_ : Nat)] T)] :: F)) (hs : SlAt F p (bv bs)) (hat : at_ ≤ bs.length) (hl : bs.length ≤ 1099511627776) {e : Nat} (he : rUp 1048576 (bs.drop at_) = .err e) (he1 : 1 ≤ e) : Ret Tryd.prog 67 [.pointer (some ⟨b, 0, none⟩)] w fun v w' => ∃ p2 c2 s2, v = .tuple #[.slice p2 ((rList rFl (bs.drop at_)).val []).length c2, .int .i64 ((rList rFl (bs.drop at_)).code : Nat)] ∧ OwnSl 61 1 p2 ((rList rFl (bs.drop at_)).val []).length c2 (fVs ((rList rFl (bs.drop at_)).val [])) s2 ∧ Hp w0 w' (s2 :: [(b, cel [.slice p bs.length c, .int .i64 (at_ + (rList rFl (bs.drop at_)).k : Nat)] T)] :: F) := by
  refine Calls.of_J (n := 60) Tryd.func67 rfl rfl rfl ?_
  refine J.seq ?_
  refine J.region ?_
  refine JL.go trivial (RX.assign) ?_
  refine JL.go trivial (RX.assign) ?_
  refine JL.nil ?_
  refine J.seq ?_
  refine J.region ?_
  refine JL.go trivial (RX.movev (v := Value.pointer _) rfl) ?_
  refine JL.go trivial (RX.movev (v := Value.pointer _) rfl) ?_
  refine JL.go trivial (RX.nilCheck rfl) ?_
  refine JL.go trivial (RX.fieldAddr rfl fo49_1 rfl) ?_
  refine JL.go trivial (by first | exact RX.load H rfl (i := 0) rfl rfl one3 | exact RX.load H rfl (i := 1) rfl rfl one3 | exact RX.load H rfl (i := 2) rfl rfl one3 | exact RX.load H rfl (i := 3) rfl rfl one3) ?_
  refine JL.does trivial (EX.call rfl cl95 rfl ((qupto_c H hs hat hl (most := 1048576) (by decide) (by decide)))) ?_
  rintro _ w ⟨rfl, H⟩
  have hg := rUp_good 1048576 (bs.drop at_)
  have hu1 := hg.1.k
  rw [List.length_drop] at hu1
  refine JL.go trivial (RX.movev (v := Value.tuple _) rfl) ?_
  refine JL.go trivial (RX.extract rfl rfl) ?_
  refine JL.go trivial (RX.extract rfl rfl) ?_
  refine JL.go trivial (RX.extract rfl rfl) ?_
  refine JL.go trivial (RX.assignv (v := Value.int _ _) rfl) ?_
  refine JL.go trivial (RX.assignv (v := Value.int _ _) rfl) ?_
  refine JL.go trivial (RX.assignv (v := Value.int _ _) rfl) ?_
  refine JL.nil ?_
  refine J.seq ?_
  refine J.region ?_
  refine JL.go trivial (RX.movev (v := Value.pointer _) rfl) ?_
  refine JL.go trivial (RX.nilCheck rfl) ?_
  refine JL.go trivial (RX.fieldAddr rfl fo49_0 rfl) ?_
  refine JL.go trivial (by first | exact RX.load H rfl (i := 0) rfl rfl one26 | exact RX.load H rfl (i := 1) rfl rfl one26 | exact RX.load H rfl (i := 2) rfl rfl one26 | exact RX.load H rfl (i := 3) rfl rfl one26) ?_
  refine JL.go trivial (RX.movev (v := Value.int _ _) rfl) ?_
  refine JL.go trivial (RX.build (pv := [(0, .slice p bs.length c), (1, .int .i64 (at_ + (rUp 1048576 (bs.drop at_)).k : Nat))]) (res := [.slice p bs.length c, .int .i64 (at_ + (rUp 1048576 (bs.drop at_)).k : Nat)]) rfl (by kernel_rfl)) ?_
  refine JL.does trivial (EX.box (v := Value.agg _) H rfl rfl) ?_
  rintro _ w ⟨b2, rfl, H⟩
  refine JL.go trivial (RX.assignv (v := Value.pointer _) rfl) ?_
  refine JL.nil ?_
  refine J.seq ?_
  refine J.region ?_
  refine JL.does trivial (EX.buildSlice0 H elF) ?_
  rintro _ w ⟨b0, rfl, H⟩
  refine JL.go trivial (RX.assignv (v := Value.slice _ _ _) rfl) ?_
  refine JL.nil ?_
  refine J.seq ?_
  refine J.seq ?_
  refine J.region ?_
  refine JL.go trivial (RX.assign) ?_
  refine JL.nil ?_
  refine J.block ?_
  refine J.loop (ι := Unit) (S := fun _ => [(6, .int .i64 (e : Nat)), (9, .int .i64 0), (8, .slice (some ⟨b0, 0, none⟩) 0 0)]) (Φ := fun _ w => Hp w0 w ([(b0, cel [] 61)] :: [(b2, cel [.slice p bs.length c, .int .i64 (at_ : Nat)] 49)] :: [(b, cel [.slice p bs.length c, .int .i64 (at_ : Nat)] T)] :: F)) (μ := fun _ => 0) (C := [(0, _), (4, _), (7, _)]) () ⟨rfl, rfl, rfl, trivial⟩ ⟨(show Value.int .i64 ((rUp 1048576 (bs.drop at_)).code : Nat) = Value.int .i64 (e : Nat) by rw [he]; rfl), rfl, rfl, trivial⟩ ?_ ?_
  · rw [he] at H; exact H
  clear H
  rintro _ ρ w H IH
  rw [he]
  refine J.seq ?_
  refine J.seq ?_
  refine J.region ?_
  refine JL.go trivial (RX.movev (v := Value.int _ _) rfl) ?_
  refine JL.go trivial (RX.movev (v := Value.int _ _) rfl) ?_
  refine JL.go trivial (RX.lt rfl rfl) ?_
  refine JL.go trivial (RX.movev (v := Value.bool _) rfl) ?_
  refine JL.splitS 33 rfl (fun hlt => ?_) (fun hlt => ?_)
  · skip
    first | have hltp := of_decide_eq_true hlt | skip
    exfalso
    have := of_decide_eq_true hlt
    simp only [Rs.val_err] at this
    omega
  · skip
    first | have hltp := of_decide_eq_false hlt | skip
    refine JL.no ⟨_, rfl, gno hlt⟩ ?_
    refine JL.no ⟨_, rfl, gno hlt⟩ ?_
    refine JL.go trivial (RX.pick_f rfl hlt) ?_
    refine JL.nil ?_
    refine J.cond_f rfl rfl ?_
    refine J.exit rfl ?_
    refine J.seq ?_
    refine J.seq ?_
    refine J.region ?_
    refine JL.go trivial (RX.movev (v := Value.int _ _) rfl) ?_
    refine JL.go trivial (RX.ne rfl rfl) ?_
    refine JL.nil ?_
    refine J.cond_t rfl (decide_eq_true (by omega)) ?_
    refine J.seq ?_
    refine J.region ?_
    refine JL.go trivial (RX.movev (v := Value.int _ _) rfl) ?_
    refine JL.go trivial (RX.assign) ?_
    refine JL.go trivial (RX.assignv (v := Value.int _ _) rfl) ?_
    refine JL.nil ?_
    refine J.ret2 (v := Value.slice _ _ _) (x := Value.int _ _) Tryd.func67 rfl rfl rfl ?_
    have hf : rList rFl (bs.drop at_) = .err e := by rw [rList, he]
    rw [hf]
    exact ⟨_, rfl, none, 0, [], rfl, OwnSl.nil, H.drop.drop.nil⟩
theorem qFloats_ok {w0 w : World} {F : List Seg} {b T c at_ : Nat} {p : Option Addr} {bs : List UInt8} (H : Hp w0 w ([(b, cel [.slice p bs.length c, .int .i64 (at_ : Nat)] T)] :: F)) (hs : SlAt F p (bv bs)) (hat : at_ ≤ bs.length) (hl : bs.length ≤ 1099511627776) {n k0 : Nat} (hu : rUp 1048576 (bs.drop at_) = .ok n k0) (hn : n ≤ 1048576) : Ret Tryd.prog 67 [.pointer (some ⟨b, 0, none⟩)] w fun v w' => ∃ p2 c2 s2, v = .tuple #[.slice p2 ((rList rFl (bs.drop at_)).val []).length c2, .int .i64 ((rList rFl (bs.drop at_)).code : Nat)] ∧ OwnSl 61 1 p2 ((rList rFl (bs.drop at_)).val []).length c2 (fVs ((rList rFl (bs.drop at_)).val [])) s2 ∧ Hp w0 w' (s2 :: [(b, cel [.slice p bs.length c, .int .i64 (at_ + (rList rFl (bs.drop at_)).k : Nat)] T)] :: F) := by
  refine Calls.of_J (n := 60) Tryd.func67 rfl rfl rfl ?_
  refine J.seq ?_
  refine J.region ?_
  refine JL.go trivial (RX.assign) ?_
  refine JL.go trivial (RX.assign) ?_
  refine JL.nil ?_
  refine J.seq ?_
  refine J.region ?_
  refine JL.go trivial (RX.movev (v := Value.pointer _) rfl) ?_
  refine JL.go trivial (RX.movev (v := Value.pointer _) rfl) ?_
  refine JL.go trivial (RX.nilCheck rfl) ?_
  refine JL.go trivial (RX.fieldAddr rfl fo49_1 rfl) ?_
  refine JL.go trivial (by first | exact RX.load H rfl (i := 0) rfl rfl one3 | exact RX.load H rfl (i := 1) rfl rfl one3 | exact RX.load H rfl (i := 2) rfl rfl one3 | exact RX.load H rfl (i := 3) rfl rfl one3) ?_
  refine JL.does trivial (EX.call rfl cl95 rfl ((qupto_c H hs hat hl (most := 1048576) (by decide) (by decide)))) ?_
  rintro _ w ⟨rfl, H⟩
  have hg := rUp_good 1048576 (bs.drop at_)
  have hu1 := hg.1.k
  rw [List.length_drop] at hu1
  refine JL.go trivial (RX.movev (v := Value.tuple _) rfl) ?_
  rw [hu] at hu1 ⊢
  simp only [Rs.val_ok, Rs.k_ok, Rs.code_ok, Rs.val_err, Rs.k_err, Rs.code_err] at hu1 ⊢
  have hli : rList rFl (bs.drop at_) = (match rMany rFl n (bs.drop (at_ + k0)) with | .err e => .err e | .ok ys m => .ok ys (k0 + m)) := by
    simp only [rList, hu]
    rw [List.drop_drop]
    cases rMany rFl n (bs.drop (at_ + k0)) <;> rfl
  refine JL.go trivial (RX.extract rfl rfl) ?_
  refine JL.go trivial (RX.extract rfl rfl) ?_
  refine JL.go trivial (RX.extract rfl rfl) ?_
  refine JL.go trivial (RX.assignv (v := Value.int _ _) rfl) ?_
  refine JL.go trivial (RX.assignv (v := Value.int _ _) rfl) ?_
  refine JL.go trivial (RX.assignv (v := Value.int _ _) rfl) ?_
  refine JL.nil ?_
  refine J.seq ?_
  refine J.region ?_
  refine JL.go trivial (RX.movev (v := Value.pointer _) rfl) ?_
  refine JL.go trivial (RX.nilCheck rfl) ?_
  refine JL.go trivial (RX.fieldAddr rfl fo49_0 rfl) ?_
  refine JL.go trivial (by first | exact RX.load H rfl (i := 0) rfl rfl one26 | exact RX.load H rfl (i := 1) rfl rfl one26 | exact RX.load H rfl (i := 2) rfl rfl one26 | exact RX.load H rfl (i := 3) rfl rfl one26) ?_
  refine JL.go trivial (RX.movev (v := Value.int _ _) rfl) ?_
  refine JL.go trivial (RX.build (pv := [(0, .slice p bs.length c), (1, .int .i64 (at_ + k0 : Nat))]) (res := [.slice p bs.length c, .int .i64 (at_ + k0 : Nat)]) rfl (by kernel_rfl)) ?_
  refine JL.does trivial (EX.box (v := Value.agg _) H rfl rfl) ?_
  rintro _ w ⟨b2, rfl, H⟩
  refine JL.go trivial (RX.assignv (v := Value.pointer _) rfl) ?_
  refine JL.nil ?_
  refine J.seq ?_
  refine J.region ?_
  refine JL.does trivial (EX.buildSlice0 H elF) ?_
  rintro _ w ⟨b0, rfl, H⟩
  refine JL.go trivial (RX.assignv (v := Value.slice _ _ _) rfl) ?_
  refine JL.nil ?_
  refine J.seq ?_
  refine J.seq ?_
  refine J.region ?_
  refine JL.go trivial (RX.assign) ?_
  refine JL.nil ?_
  refine J.block ?_
  refine J.loop (ι := List (Nat) × Nat × Nat × Nat × Option Addr × Nat × Seg) (S := fun q => [(6, .int .i64 (q.2.2.2.1 : Nat)), (9, .int .i64 (q.2.2.1 : Nat)), (8, .slice q.2.2.2.2.1 q.2.2.1 q.2.2.2.2.2.1)]) (Φ := fun q w => q.2.2.1 ≤ n ∧ at_ + k0 + q.2.1 ≤ bs.length ∧ (q.2.2.2.1 = 0 → q.1.length = q.2.2.1 ∧ rMany rFl n (bs.drop (at_ + k0)) = rManyA rFl (n - q.2.2.1) q.1 q.2.1 (bs.drop (at_ + k0 + q.2.1)) ∧ OwnSl 61 1 q.2.2.2.2.1 q.2.2.1 q.2.2.2.2.2.1 (fVs q.1) q.2.2.2.2.2.2) ∧ (¬ q.2.2.2.1 = 0 → rList rFl (bs.drop at_) = .err q.2.2.2.1) ∧ Hp w0 w (q.2.2.2.2.2.2 :: [(b2, cel [.slice p bs.length c, .int .i64 (at_ + k0 + q.2.1 : Nat)] 49)] :: [(b, cel [.slice p bs.length c, .int .i64 (at_ : Nat)] T)] :: F)) (μ := fun q => (n - q.2.2.1) + (if q.2.2.2.1 = 0 then 1 else 0)) (C := [(0, _), (4, _), (7, _)]) ([], 0, 0, 0, some ⟨b0, 0, none⟩, 0, [(b0, cel [] 61)]) ⟨rfl, rfl, rfl, trivial⟩ ⟨rfl, rfl, rfl, trivial⟩ ?_ ?_
  · exact ⟨by simp, by simp only; omega, fun _ => ⟨rfl, by rw [rMany_A]; rfl, OwnSl.empty⟩, fun h => absurd rfl h, H⟩
  clear H
  rintro ⟨acc, ka, j, er, p2, c2, s2⟩ ρ w ⟨hi, hka, hz, hnz, H⟩ IH
  simp only at hi hka hz hnz H
  dsimp only
  refine J.seq ?_
  refine J.seq ?_
  refine J.region ?_
  refine JL.go trivial (RX.movev (v := Value.int _ _) rfl) ?_
  refine JL.go trivial (RX.movev (v := Value.int _ _) rfl) ?_
  refine JL.go trivial (RX.lt rfl rfl) ?_
  refine JL.go trivial (RX.movev (v := Value.bool _) rfl) ?_
  refine JL.splitS 33 rfl (fun hlt => ?_) (fun hlt => ?_)
  · skip
    first | have hltp := of_decide_eq_true hlt | skip
    refine JL.go ⟨_, rfl, hlt⟩ (RX.movev (v := Value.int _ _) rfl) ?_
    refine JL.go ⟨_, rfl, hlt⟩ (RX.eq rfl rfl) ?_
    refine JL.go trivial (RX.pick_t rfl hlt) ?_
    refine JL.nil ?_
    refine J.cond_d rfl (fun he0 => ?_) (fun he0 => ?_)
    · skip
      have her : er = 0 := by omega
      subst her
      obtain ⟨hal, hmany, hos⟩ := hz rfl
      have hltp2 := of_decide_eq_true hlt
      refine J.skip ?_
      refine J.seq ?_
      refine J.block ?_
      refine J.seq ?_
      refine J.region ?_
      refine JL.go trivial (RX.movev (v := Value.pointer _) rfl) ?_
      refine JL.does trivial (EX.call rfl cl60 rfl ((qFloat_c (H.pull 1 rfl) hs.cons.cons hka hl))) ?_
      rintro _ w ⟨rfl, H⟩
      have hgd := rFl_g (bs.drop (at_ + k0 + ka))
      have hk2 := (rFl_g (bs.drop (at_ + k0 + ka))).k
      rw [List.length_drop] at hk2
      refine JL.go trivial (RX.movev (v := Value.tuple _) rfl) ?_
      refine JL.go trivial (RX.extract rfl rfl) ?_
      refine JL.go trivial (RX.extract rfl rfl) ?_
      refine JL.go trivial (RX.assignv (v := Value.float _ _) rfl) ?_
      refine JL.go trivial (RX.assignv (v := Value.int _ _) rfl) ?_
      refine JL.nil ?_
      refine J.seq ?_
      refine J.region ?_
      refine JL.go trivial (RX.movev (v := Value.int _ _) rfl) ?_
      refine JL.go trivial (RX.assignv (v := Value.int _ _) rfl) ?_
      refine JL.nil ?_
      refine J.region ?_
      refine JL.go trivial (RX.movev (v := Value.slice _ _ _) rfl) ?_
      refine JL.go trivial (RX.movev (v := Value.float _ _) rfl) ?_
      refine JL.does trivial (EX.buildSlice1 H elF rfl rfl) ?_
      rintro _ w ⟨b3, rfl, H⟩
      refine JL.does trivial (EX.append (ys := [fV ((rFl (bs.drop (at_ + k0 + ka))).val 0)]) (L' := fun s' => [(b3, cel [fV ((rFl (bs.drop (at_ + k0 + ka))).val 0)] 61)] :: [(b2, cel [.slice p bs.length c, .int .i64 (at_ + k0 + ka + (rFl (bs.drop (at_ + k0 + ka))).k : Nat)] 49)] :: s' :: [(b, cel [.slice p bs.length c, .int .i64 (at_ : Nat)] T)] :: F) H elF rfl rfl (i := 2) rfl hos (SlAt.here rfl) rfl (by simp [isCell, fV]) (by decide) (by omega) (by omega) (fun _ => rfl)) ?_
      rintro _ w ⟨p3, c3, s3, rfl, hos3, H⟩
      refine JL.go trivial (RX.assignv (v := Value.slice _ _ _) rfl) ?_
      refine JL.nil ?_
      refine J.inBlock ?_
      refine J.region ?_
      refine JL.go trivial (RX.movev (v := Value.int _ _) rfl) ?_
      refine JL.go trivial (RX.add rfl rfl (w_i64 rfl (by omega) (by omega))) ?_
      refine JL.go trivial (RX.assignv (v := Value.int _ _) rfl) ?_
      refine JL.nil ?_
      refine IH (acc ++ [(rFl (bs.drop (at_ + k0 + ka))).val 0], ka + (rFl (bs.drop (at_ + k0 + ka))).k, j + 1, (rFl (bs.drop (at_ + k0 + ka))).code, p3, c3, s3) _ _ (by show _ < n - j + (if (0 : Nat) = 0 then 1 else 0); rw [if_pos rfl]; simp only; split <;> omega) ⟨rfl, rfl, rfl, trivial⟩ ⟨rfl, rfl, rfl, trivial⟩ ⟨by simp only; omega, by simp only; omega, fun h0 => ?_, fun h0 => ?_, by simpa [Nat.add_assoc] using (H.drop).pull 1 rfl⟩
      · obtain ⟨a, k1, he, _⟩ := hgd.of_ok h0
        simp only [List.length_append, List.length_singleton]
        refine ⟨by omega, ?_, by simp only [fVs, List.map_append]; exact hos3⟩
        rw [hmany, rManyA_ok (by omega) he, List.drop_drop, Nat.sub_sub, he]; simp [Rs.val, Rs.k, Nat.add_assoc]
      · obtain ⟨e, he, _⟩ := hgd.of_err h0
        simp only
        rw [hli, hmany, rManyA_err (by omega) he, he]; rfl
    · skip
      refine J.exit rfl ?_
      refine J.seq ?_
      refine J.seq ?_
      refine J.region ?_
      refine JL.go trivial (RX.movev (v := Value.int _ _) rfl) ?_
      refine JL.go trivial (RX.ne rfl rfl) ?_
      refine JL.nil ?_
      refine J.cond_d rfl (fun he5 => ?_) (fun he5 => ?_)
      · skip
        refine J.seq ?_
        refine J.region ?_
        refine JL.go trivial (RX.movev (v := Value.int _ _) rfl) ?_
        refine JL.go trivial (RX.assign) ?_
        refine JL.go trivial (RX.assignv (v := Value.int _ _) rfl) ?_
        refine JL.nil ?_
        refine J.ret2 (v := Value.slice _ _ _) (x := Value.int _ _) Tryd.func67 rfl rfl rfl ?_
        first
        | (have her : ¬ er = 0 := by omega
           have hf := hnz her
           rw [hf]
           exact ⟨_, rfl, none, 0, [], rfl, OwnSl.nil, H.drop.drop.nil⟩)
        | (have her : er = 0 := by omega
           subst her
           obtain ⟨hal, hmany, hos⟩ := hz rfl
           have hjn : j = n := by omega
           subst hjn
           have hf : rList rFl (bs.drop at_) = .ok acc (k0 + ka) := by rw [hli, hmany, Nat.sub_self]; rfl
           rw [hf]
           exact ⟨_, rfl, p2, c2, s2, by simp only [Rs.val_ok]; rw [hal]; rfl, by simp only [Rs.val_ok]; rw [hal]; exact hos, by simpa [Rs.k, Nat.add_assoc] using (H.pull 1 rfl).drop⟩)
      · skip
        refine J.skip ?_
        refine J.seq ?_
        refine J.region ?_
        refine JL.go trivial (RX.movev (v := Value.pointer _) rfl) ?_
        refine JL.go trivial (RX.movev (v := Value.pointer _) rfl) ?_
        refine JL.go trivial (RX.nilCheck rfl) ?_
        refine JL.go trivial (RX.fieldAddr rfl fo49_1 rfl) ?_
        refine JL.go trivial (by first | exact RX.load H rfl (i := 0) rfl rfl one3 | exact RX.load H rfl (i := 1) rfl rfl one3 | exact RX.load H rfl (i := 2) rfl rfl one3 | exact RX.load H rfl (i := 3) rfl rfl one3) ?_
        refine JL.go trivial (RX.nilCheck rfl) ?_
        refine JL.go trivial (RX.fieldAddr rfl fo49_1 rfl) ?_
        refine JL.does trivial (by first | exact EX.store (v := Value.int _ _) H rfl rfl (i := 0) rfl rfl (by simp) sz3 rfl rfl | exact EX.store (v := Value.int _ _) H rfl rfl (i := 1) rfl rfl (by simp) sz3 rfl rfl | exact EX.store (v := Value.int _ _) H rfl rfl (i := 2) rfl rfl (by simp) sz3 rfl rfl | exact EX.store (v := Value.int _ _) H rfl rfl (i := 3) rfl rfl (by simp) sz3 rfl rfl) ?_
        rintro _ w H
        refine JL.nil ?_
        refine J.seq ?_
        refine J.region ?_
        refine JL.go trivial (RX.movev (v := Value.slice _ _ _) rfl) ?_
        refine JL.go trivial (RX.assignv (v := Value.slice _ _ _) rfl) ?_
        refine JL.go trivial (RX.assign) ?_
        refine JL.nil ?_
        refine J.ret2 (v := Value.slice _ _ _) (x := Value.int _ _) Tryd.func67 rfl rfl rfl ?_
        first
        | (have her : ¬ er = 0 := by omega
           have hf := hnz her
           rw [hf]
           exact ⟨_, rfl, none, 0, [], rfl, OwnSl.nil, H.drop.drop.nil⟩)
        | (have her : er = 0 := by omega
           subst her
           obtain ⟨hal, hmany, hos⟩ := hz rfl
           have hjn : j = n := by omega
           subst hjn
           have hf : rList rFl (bs.drop at_) = .ok acc (k0 + ka) := by rw [hli, hmany, Nat.sub_self]; rfl
           rw [hf]
           exact ⟨_, rfl, p2, c2, s2, by simp only [Rs.val_ok]; rw [hal]; rfl, by simp only [Rs.val_ok]; rw [hal]; exact hos, by simpa [Rs.k, Nat.add_assoc] using (H.pull 1 rfl).drop⟩)
  · skip
    first | have hltp := of_decide_eq_false hlt | skip
    refine JL.no ⟨_, rfl, gno hlt⟩ ?_
    refine JL.no ⟨_, rfl, gno hlt⟩ ?_
    refine JL.go trivial (RX.pick_f rfl hlt) ?_
    refine JL.nil ?_
    refine J.cond_f rfl rfl ?_
    refine J.exit rfl ?_
    refine J.seq ?_
    refine J.seq ?_
    refine J.region ?_
    refine JL.go trivial (RX.movev (v := Value.int _ _) rfl) ?_
    refine JL.go trivial (RX.ne rfl rfl) ?_
    refine JL.nil ?_
    refine J.cond_d rfl (fun he5 => ?_) (fun he5 => ?_)
    · skip
      refine J.seq ?_
      refine J.region ?_
      refine JL.go trivial (RX.movev (v := Value.int _ _) rfl) ?_
      refine JL.go trivial (RX.assign) ?_
      refine JL.go trivial (RX.assignv (v := Value.int _ _) rfl) ?_
      refine JL.nil ?_
      refine J.ret2 (v := Value.slice _ _ _) (x := Value.int _ _) Tryd.func67 rfl rfl rfl ?_
      first
      | (have her : ¬ er = 0 := by omega
         have hf := hnz her
         rw [hf]
         exact ⟨_, rfl, none, 0, [], rfl, OwnSl.nil, H.drop.drop.nil⟩)
      | (have her : er = 0 := by omega
         subst her
         obtain ⟨hal, hmany, hos⟩ := hz rfl
         have hjn : j = n := by omega
         subst hjn
         have hf : rList rFl (bs.drop at_) = .ok acc (k0 + ka) := by rw [hli, hmany, Nat.sub_self]; rfl
         rw [hf]
         exact ⟨_, rfl, p2, c2, s2, by simp only [Rs.val_ok]; rw [hal]; rfl, by simp only [Rs.val_ok]; rw [hal]; exact hos, by simpa [Rs.k, Nat.add_assoc] using (H.pull 1 rfl).drop⟩)
    · skip
      refine J.skip ?_
      refine J.seq ?_
      refine J.region ?_
      refine JL.go trivial (RX.movev (v := Value.pointer _) rfl) ?_
      refine JL.go trivial (RX.movev (v := Value.pointer _) rfl) ?_
      refine JL.go trivial (RX.nilCheck rfl) ?_
      refine JL.go trivial (RX.fieldAddr rfl fo49_1 rfl) ?_
      refine JL.go trivial (by first | exact RX.load H rfl (i := 0) rfl rfl one3 | exact RX.load H rfl (i := 1) rfl rfl one3 | exact RX.load H rfl (i := 2) rfl rfl one3 | exact RX.load H rfl (i := 3) rfl rfl one3) ?_
      refine JL.go trivial (RX.nilCheck rfl) ?_
      refine JL.go trivial (RX.fieldAddr rfl fo49_1 rfl) ?_
      refine JL.does trivial (by first | exact EX.store (v := Value.int _ _) H rfl rfl (i := 0) rfl rfl (by simp) sz3 rfl rfl | exact EX.store (v := Value.int _ _) H rfl rfl (i := 1) rfl rfl (by simp) sz3 rfl rfl | exact EX.store (v := Value.int _ _) H rfl rfl (i := 2) rfl rfl (by simp) sz3 rfl rfl | exact EX.store (v := Value.int _ _) H rfl rfl (i := 3) rfl rfl (by simp) sz3 rfl rfl) ?_
      rintro _ w H
      refine JL.nil ?_
      refine J.seq ?_
      refine J.region ?_
      refine JL.go trivial (RX.movev (v := Value.slice _ _ _) rfl) ?_
      refine JL.go trivial (RX.assignv (v := Value.slice _ _ _) rfl) ?_
      refine JL.go trivial (RX.assign) ?_
      refine JL.nil ?_
      refine J.ret2 (v := Value.slice _ _ _) (x := Value.int _ _) Tryd.func67 rfl rfl rfl ?_
      first
      | (have her : ¬ er = 0 := by omega
         have hf := hnz her
         rw [hf]
         exact ⟨_, rfl, none, 0, [], rfl, OwnSl.nil, H.drop.drop.nil⟩)
      | (have her : er = 0 := by omega
         subst her
         obtain ⟨hal, hmany, hos⟩ := hz rfl
         have hjn : j = n := by omega
         subst hjn
         have hf : rList rFl (bs.drop at_) = .ok acc (k0 + ka) := by rw [hli, hmany, Nat.sub_self]; rfl
         rw [hf]
         exact ⟨_, rfl, p2, c2, s2, by simp only [Rs.val_ok]; rw [hal]; rfl, by simp only [Rs.val_ok]; rw [hal]; exact hos, by simpa [Rs.k, Nat.add_assoc] using (H.pull 1 rfl).drop⟩)
theorem qFloats_c {w0 w : World} {F : List Seg} {b T c at_ : Nat} {p : Option Addr} {bs : List UInt8} (H : Hp w0 w ([(b, cel [.slice p bs.length c, .int .i64 (at_ : Nat)] T)] :: F)) (hs : SlAt F p (bv bs)) (hat : at_ ≤ bs.length) (hl : bs.length ≤ 1099511627776) : Ret Tryd.prog 67 [.pointer (some ⟨b, 0, none⟩)] w fun v w' => ∃ p2 c2 s2, v = .tuple #[.slice p2 ((rList rFl (bs.drop at_)).val []).length c2, .int .i64 ((rList rFl (bs.drop at_)).code : Nat)] ∧ OwnSl 61 1 p2 ((rList rFl (bs.drop at_)).val []).length c2 (fVs ((rList rFl (bs.drop at_)).val [])) s2 ∧ Hp w0 w' (s2 :: [(b, cel [.slice p bs.length c, .int .i64 (at_ + (rList rFl (bs.drop at_)).k : Nat)] T)] :: F) := by
  have hg := rUp_good 1048576 (bs.drop at_)
  cases hr : rUp 1048576 (bs.drop at_) with
  | ok n k => exact qFloats_ok H hs hat hl hr (by have := (hg.2 _ _ hr).1; omega)
  | err e => rw [hr] at hg; exact qFloats_err H hs hat hl hr hg.1.1
end Go.Proofs.YtippfdnjhcpekaaDoor

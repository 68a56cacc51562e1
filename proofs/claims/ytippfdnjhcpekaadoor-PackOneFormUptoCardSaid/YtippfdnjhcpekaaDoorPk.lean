/- Writer and Reader: whole numbers. -/
import Derived.Test.YtippfdnjhcpekaaDoorFacts
import Derived.Test.YtippfdnjhcpekaaDoorBase
namespace Go.Proofs.YtippfdnjhcpekaaDoor
open Go Go.Eng
set_option maxRecDepth 100000
set_option linter.unusedVariables false
set_option linter.unusedSimpArgs false
theorem elB : Elem Tryd.prog 26 5 1 1 := Elem.of (by kernel_rfl)
theorem new_w {w0 w : World} {F : List Seg} (H : Hp w0 w F) : Ret Tryd.prog 9 [] w fun v w' => ∃ b, v = .pointer (some ⟨b, 0, none⟩) ∧ Hp w0 w' ([(b, cel [.slice none 0 0] 86)] :: F) := by
  refine Calls.of_J (n := 3) Tryd.func9 rfl rfl rfl ?_
  refine J.seq ?_
  refine J.region ?_
  refine JL.go trivial (RX.assign) ?_
  refine JL.nil ?_
  refine J.seq ?_
  refine J.region ?_
  refine JL.go trivial (RX.build (pv := []) (res := [.slice none 0 0]) rfl (by kernel_rfl)) ?_
  refine JL.does trivial (EX.box (v := Value.agg _) H rfl rfl) ?_
  rintro _ w ⟨b1, rfl, H⟩
  refine JL.go trivial (RX.assignv (v := Value.pointer _) rfl) ?_
  refine JL.nil ?_
  refine J.ret1 (v := Value.pointer _) Tryd.func9 rfl rfl ?_
  exact ⟨_, rfl, b1, rfl, H⟩
theorem uint_w {w0 w : World} {F : List Seg} {b T c : Nat} {p : Option Addr} {s : Seg} {x : Nat} {xs : List UInt8} (H : Hp w0 w ([(b, cel [.slice p xs.length c] T)] :: s :: F)) (ho : OwnSl 5 1 p xs.length c (bv xs) s)
    (hx : x ≤ 18446744073709551615) (hl : xs.length ≤ 1099511627776) : Ret Tryd.prog 25 [.pointer (some ⟨b, 0, none⟩), .int .u64 x] w fun v w' =>
      v = .tuple #[] ∧ ∃ p' c' s', OwnSl 5 1 p' (xs ++ varint x).length c' (bv (xs ++ varint x)) s' ∧ Hp w0 w' ([(b, cel [.slice p' (xs ++ varint x).length c'] T)] :: s' :: F) := by
  refine Calls.of_J (n := 31) Tryd.func25 rfl rfl rfl ?_
  refine J.seq ?_
  refine J.block ?_
  refine J.loop (ι := Nat × List UInt8 × Option Addr × Nat × Seg) (S := fun q => [(1, .int .u64 (q.1 : Nat))]) (Φ := fun q w => q.2.1 ++ varint q.1 = xs ++ varint x ∧ q.1 ≤ 18446744073709551615 ∧ OwnSl 5 1 q.2.2.1 q.2.1.length q.2.2.2.1 (bv q.2.1) q.2.2.2.2 ∧ Hp w0 w ([(b, cel [.slice q.2.2.1 q.2.1.length q.2.2.2.1] T)] :: q.2.2.2.2 :: F)) (μ := fun q => q.1) (C := [(0, _)]) (x, xs, p, c, s) ⟨rfl, trivial⟩ ⟨rfl, trivial⟩ ?_ ?_
  · exact ⟨rfl, hx, ho, H⟩
  clear H ho
  rintro ⟨y, ys, p, c, s⟩ ρ w ⟨he, hy, ho, H⟩ IH
  simp only at he hy ho H
  have hlen := congrArg List.length he
  simp only [List.length_append] at hlen
  have h10 := varint_len10 hx
  have h11 := varint_len10 hy
  dsimp only
  refine J.seq ?_
  refine J.seq ?_
  refine J.region ?_
  refine JL.go trivial (RX.movev (v := Value.int _ _) rfl) ?_
  refine JL.go trivial (RX.gt rfl rfl) ?_
  refine JL.nil ?_
  refine J.cond_d rfl (fun hc => ?_) (fun hc => ?_)
  · skip
    refine J.skip ?_
    refine J.seq ?_
    refine J.block ?_
    refine J.region ?_
    refine JL.go trivial (RX.movev (v := Value.pointer _) rfl) ?_
    refine JL.go trivial (RX.movev (v := Value.pointer _) rfl) ?_
    refine JL.go trivial (RX.nilCheck rfl) ?_
    refine JL.go trivial (RX.fieldAddr rfl fo86_0 rfl) ?_
    refine JL.go trivial (by first | exact RX.load H rfl (i := 0) rfl rfl one26 | exact RX.load H rfl (i := 1) rfl rfl one26 | exact RX.load H rfl (i := 2) rfl rfl one26 | exact RX.load H rfl (i := 3) rfl rfl one26) ?_
    refine JL.go trivial (RX.movev (v := Value.int _ _) rfl) ?_
    refine JL.go trivial (RX.conv rfl (by rw [ki27]; rfl) ki5 (wrap_u8 _)) ?_
    refine JL.go trivial (RX.or rfl rfl (or128 _)) ?_
    refine JL.does trivial (EX.buildSlice1 H elB rfl rfl) ?_
    rintro _ w ⟨b2, rfl, H⟩
    refine JL.does trivial (EX.append (ys := [.int .u8 ((y % 128 + 128 : Nat) : Int)]) (L' := fun s' => [[(b2, cel [.int .u8 ((y % 128 + 128 : Nat) : Int)] 5)], [(b, cel [.slice p ys.length c] T)], s'] ++ F) H elB rfl rfl (i := 2) rfl ho (SlAt.here rfl) rfl (by simp [isCell]) (by decide) (by omega) (by omega) (fun _ => rfl)) ?_
    rintro _ w ⟨p2, c2, s2, rfl, ho2, H⟩
    refine JL.go trivial (RX.nilCheck rfl) ?_
    refine JL.go trivial (RX.fieldAddr rfl fo86_0 rfl) ?_
    refine JL.does trivial (by first | exact EX.store (v := Value.slice _ _ _) H rfl rfl (i := 0) rfl rfl (by simp) sz26 rfl rfl | exact EX.store (v := Value.slice _ _ _) H rfl rfl (i := 1) rfl rfl (by simp) sz26 rfl rfl | exact EX.store (v := Value.slice _ _ _) H rfl rfl (i := 2) rfl rfl (by simp) sz26 rfl rfl | exact EX.store (v := Value.slice _ _ _) H rfl rfl (i := 3) rfl rfl (by simp) sz26 rfl rfl) ?_
    rintro _ w H
    refine JL.nil ?_
    refine J.inBlock ?_
    refine J.region ?_
    refine JL.go trivial (RX.movev (v := Value.int _ _) rfl) ?_
    refine JL.go trivial (RX.shr rfl rfl (by decide) (rfl : (y : Int) / (2 ^ (min (7 : Int).toNat IntKind.u64.bits) : Int) = _)) ?_
    refine JL.go trivial (RX.assignv (v := Value.int _ _) rfl) ?_
    refine JL.nil ?_
    have hyg : 128 ≤ y := by omega
    exact IH (y / 128, ys ++ [(y % 128 + 128).toUInt8], p2, c2, s2) _ _ (by simp only; omega) ⟨rfl, trivial⟩ ⟨rfl, trivial⟩ ⟨by rw [← he, varint_ge hyg]; simp, by simp only; omega, by show OwnSl 5 1 p2 (ys ++ [_]).length c2 (bv (ys ++ [_])) s2; rw [bv_app, bv1 (x := y % 128 + 128) (by omega)]; simpa using ho2, by simpa using H.drop⟩
  · skip
    refine J.exit rfl ?_
    refine J.region ?_
    have hyl : y < 128 := by omega
    rw [varint_lt hyl] at he
    refine JL.go trivial (RX.movev (v := Value.pointer _) rfl) ?_
    refine JL.go trivial (RX.movev (v := Value.pointer _) rfl) ?_
    refine JL.go trivial (RX.nilCheck rfl) ?_
    refine JL.go trivial (RX.fieldAddr rfl fo86_0 rfl) ?_
    refine JL.go trivial (by first | exact RX.load H rfl (i := 0) rfl rfl one26 | exact RX.load H rfl (i := 1) rfl rfl one26 | exact RX.load H rfl (i := 2) rfl rfl one26 | exact RX.load H rfl (i := 3) rfl rfl one26) ?_
    refine JL.go trivial (RX.movev (v := Value.int _ _) rfl) ?_
    refine JL.go trivial (RX.conv rfl (by rw [ki27]; rfl) ki5 (w_u8 rfl (by omega) (by omega))) ?_
    refine JL.does trivial (EX.buildSlice1 H elB rfl rfl) ?_
    rintro _ w ⟨b2, rfl, H⟩
    refine JL.does trivial (EX.append (ys := [.int .u8 (y : Int)]) (L' := fun s' => [[(b2, cel [.int .u8 (y : Int)] 5)], [(b, cel [.slice p ys.length c] T)], s'] ++ F) H elB rfl rfl (i := 2) rfl ho (SlAt.here rfl) rfl (by simp [isCell]) (by decide) (by omega) (by omega) (fun _ => rfl)) ?_
    rintro _ w ⟨p2, c2, s2, rfl, ho2, H⟩
    refine JL.go trivial (RX.nilCheck rfl) ?_
    refine JL.go trivial (RX.fieldAddr rfl fo86_0 rfl) ?_
    refine JL.does trivial (by first | exact EX.store (v := Value.slice _ _ _) H rfl rfl (i := 0) rfl rfl (by simp) sz26 rfl rfl | exact EX.store (v := Value.slice _ _ _) H rfl rfl (i := 1) rfl rfl (by simp) sz26 rfl rfl | exact EX.store (v := Value.slice _ _ _) H rfl rfl (i := 2) rfl rfl (by simp) sz26 rfl rfl | exact EX.store (v := Value.slice _ _ _) H rfl rfl (i := 3) rfl rfl (by simp) sz26 rfl rfl) ?_
    rintro _ w H
    refine JL.nil ?_
    refine J.end0 Tryd.func25 rfl ?_
    exact ⟨_, rfl, rfl, p2, c2, s2, by rw [← he, bv_app]; simpa [bv1 (show y < 256 by omega)] using ho2, by rw [← he]; simpa using H.drop⟩
theorem out_w {w0 w : World} {F : List Seg} {b T c : Nat} {p : Option Addr} {s : Seg} {xs : List UInt8} (H : Hp w0 w ([(b, cel [.slice p xs.length c] T)] :: s :: F)) (ho : OwnSl 5 1 p xs.length c (bv xs) s)
    (hl : xs.length ≤ 140737488355328) : Ret Tryd.prog 12 [.pointer (some ⟨b, 0, none⟩)] w fun v w' =>
      ∃ p' c' s', v = .slice p' xs.length c' ∧ OwnSl 5 1 p' xs.length c' (bv xs) s' ∧ Hp w0 w' (s' :: [(b, cel [.slice p xs.length c] T)] :: s :: F) := by
  refine Calls.of_J (n := 8) Tryd.func12 rfl rfl rfl ?_
  refine J.seq ?_
  refine J.region ?_
  refine JL.go trivial (RX.assign) ?_
  refine JL.nil ?_
  refine J.seq ?_
  refine J.region ?_
  refine JL.go trivial (RX.movev (v := Value.pointer _) rfl) ?_
  refine JL.go trivial (RX.nilCheck rfl) ?_
  refine JL.go trivial (RX.fieldAddr rfl fo86_0 rfl) ?_
  refine JL.go trivial (by first | exact RX.load H rfl (i := 0) rfl rfl one26 | exact RX.load H rfl (i := 1) rfl rfl one26 | exact RX.load H rfl (i := 2) rfl rfl one26 | exact RX.load H rfl (i := 3) rfl rfl one26 | exact RX.load H rfl (i := 4) rfl rfl one26 | exact RX.load H rfl (i := 5) rfl rfl one26) ?_
  refine JL.does trivial (EX.append (L' := fun s' => s' :: [(b, cel [.slice p xs.length c] T)] :: s :: F) H.nil elB rfl rfl (i := 0) rfl OwnSl.nil (ho.slAt.cons.cons) (by simp [bv]) (bv_cell xs) (by decide) (by omega) (by omega) (fun _ => rfl)) ?_
  rintro _ w ⟨p2, c2, s2, rfl, ho2, H⟩
  refine JL.go trivial (RX.assignv (v := Value.slice _ _ _) rfl) ?_
  refine JL.nil ?_
  refine J.ret1 (v := Value.slice _ _ _) Tryd.func12 rfl rfl ?_
  simp only [Nat.zero_add, List.nil_append] at ho2 ⊢
  exact ⟨_, rfl, p2, c2, s2, rfl, ho2, H⟩
theorem read_r {w0 w : World} {F : List Seg} {c : Nat} {p : Option Addr} {xs : List UInt8} (H : Hp w0 w F) (hs : SlAt F p (bv xs))
    (hl : xs.length ≤ 140737488355328) : Ret Tryd.prog 15 [.slice p xs.length c] w fun v w' =>
      ∃ b p' c' s', v = .pointer (some ⟨b, 0, none⟩) ∧ OwnSl 5 1 p' xs.length c' (bv xs) s' ∧ Hp w0 w' ([(b, cel [.slice p' xs.length c', .int .i64 0] 102)] :: s' :: F) := by
  refine Calls.of_J (n := 7) Tryd.func15 rfl rfl rfl ?_
  refine J.seq ?_
  refine J.region ?_
  refine JL.go trivial (RX.assign) ?_
  refine JL.nil ?_
  refine J.seq ?_
  refine J.region ?_
  refine JL.go trivial (RX.movev (v := Value.slice _ _ _) rfl) ?_
  refine JL.does trivial (EX.append (L' := fun s' => s' :: F) H.nil elB rfl rfl (i := 0) rfl OwnSl.nil hs.cons (by simp [bv]) (bv_cell xs) (by decide) (by omega) (by omega) (fun _ => rfl)) ?_
  rintro _ w ⟨p2, c2, s2, rfl, ho2, H⟩
  refine JL.go trivial (RX.build (pv := [(0, .slice p2 (0 + xs.length) c2)]) (res := [.slice p2 (0 + xs.length) c2, .int .i64 0]) rfl (by kernel_rfl)) ?_
  refine JL.does trivial (EX.box (v := Value.agg _) H rfl rfl) ?_
  rintro _ w ⟨b1, rfl, H⟩
  refine JL.go trivial (RX.assignv (v := Value.pointer _) rfl) ?_
  refine JL.nil ?_
  refine J.ret1 (v := Value.pointer _) Tryd.func15 rfl rfl ?_
  simp only [Nat.zero_add, List.nil_append] at ho2 H ⊢
  exact ⟨_, rfl, b1, p2, c2, s2, rfl, ho2, H⟩
theorem uint_r {w0 w : World} {F : List Seg} {b T c at_ : Nat} {p : Option Addr} {s : Seg} {bs : List UInt8} {E : Nat → Value} (H : Hp w0 w ([(b, cel [.slice p bs.length c, .int .i64 (at_ : Nat)] T)] :: s :: F)) (ho : OwnSl 5 1 p bs.length c (bv bs) s) (hat : at_ ≤ bs.length) (hl : bs.length ≤ 1099511627776) (g1 : GErr F 1 (E 1)) (g2 : GErr F 2 (E 2)) : Ret Tryd.prog 24 [.pointer (some ⟨b, 0, none⟩)] w fun v w' =>
      v = rdOut E (fun x => .int .u64 x) (.int .u64 0) (rdu 0 0 (bs.drop at_)) ∧ Hp w0 w' ([(b, cel [.slice p bs.length c, .int .i64 (rdAt at_ (rdu 0 0 (bs.drop at_)) : Nat)] T)] :: s :: F) := by
  refine Calls.of_J (n := 77) Tryd.func24 rfl rfl rfl ?_
  refine J.seq ?_
  refine J.region ?_
  refine JL.go trivial (RX.assign) ?_
  refine JL.go trivial (RX.assign) ?_
  refine JL.nil ?_
  refine J.seq ?_
  refine J.region ?_
  refine JL.go trivial (RX.assign) ?_
  refine JL.nil ?_
  refine J.seq ?_
  refine J.region ?_
  refine JL.go trivial (RX.assign) ?_
  refine JL.nil ?_
  refine J.block ?_
  refine J.loop (ι := Nat × Nat) (S := fun q => [(4, .int .u64 (q.2 : Nat)), (5, .int .i64 (q.1 : Nat))]) (Φ := fun q w => q.1 ≤ 9 ∧ q.2 < 2 ^ (7 * q.1) ∧ rdu 0 0 (bs.drop at_) = rdu q.1 q.2 (bs.drop (at_ + q.1)) ∧ at_ + q.1 ≤ bs.length ∧ Hp w0 w ([(b, cel [.slice p bs.length c, .int .i64 (at_ : Nat)] T)] :: s :: F)) (μ := fun q => 10 - q.1) (C := [(0, _)]) (0, 0) ⟨rfl, trivial⟩ ⟨rfl, rfl, trivial⟩ ?_ ?_
  · exact ⟨by decide, by decide, rfl, hat, H⟩
  clear H
  rintro ⟨i, x⟩ ρ w ⟨hi, hx, he, hai, H⟩ IH
  simp only at hi hx he hai H
  have hx63 := pow7x hi hx
  dsimp only
  refine J.seq ?_
  refine J.block ?_
  refine J.seq ?_
  refine J.seq ?_
  refine J.quietH H hmix (by kernel_rfl) ?_
  refine JQ.go trivial (fun w H => RX.movev (v := Value.pointer _) rfl) ?_
  refine JQ.go trivial (fun w H => RX.nilCheck rfl) ?_
  refine JQ.go trivial (fun w H => RX.fieldAddr rfl fo102_1 rfl) ?_
  refine JQ.go trivial (fun w H => by first | exact RX.load H rfl (i := 0) rfl rfl one3 | exact RX.load H rfl (i := 1) rfl rfl one3 | exact RX.load H rfl (i := 2) rfl rfl one3) ?_
  refine JQ.go trivial (fun w H => RX.movev (v := Value.int _ _) rfl) ?_
  refine JQ.go trivial (fun w H => RX.add rfl rfl (w_i64 rfl (by omega) (by omega))) ?_
  refine JQ.go trivial (fun w H => RX.movev (v := Value.pointer _) rfl) ?_
  refine JQ.go trivial (fun w H => RX.nilCheck rfl) ?_
  refine JQ.go trivial (fun w H => RX.fieldAddr rfl fo102_0 rfl) ?_
  refine JQ.go trivial (fun w H => by first | exact RX.load H rfl (i := 0) rfl rfl one26 | exact RX.load H rfl (i := 1) rfl rfl one26 | exact RX.load H rfl (i := 2) rfl rfl one26) ?_
  refine JQ.go trivial (fun w H => RX.len_slice rfl (by rw [sl26]; rfl) rfl) ?_
  refine JQ.go trivial (fun w H => RX.eq rfl rfl) ?_
  refine JQ.nil fun w H => ?_
  refine J.cond_d rfl (fun hend => ?_) (fun hend => ?_)
  · skip
    refine J.seq ?_
    refine J.quietH H hmix (by kernel_rfl) ?_
    refine JQ.go trivial (fun w H => RX.loadG H rfl g1.at_.cons.cons one40) ?_
    refine JQ.go trivial (fun w H => RX.assign) ?_
    refine JQ.go trivial (fun w H => RX.assign) ?_
    refine JQ.nil fun w H => ?_
    refine J.ret2 (v := Value.int _ _) Tryd.func24 rfl rfl rfl ?_
    rw [he, rdu_nil (List.drop_eq_nil_of_le (by omega))]
    exact ⟨_, rfl, rfl, H⟩
  · skip
    refine J.skip ?_
    refine J.seq ?_
    obtain ⟨bb, hbb, hdr⟩ := drop_get (l := bs) (i := at_ + i) (by omega)
    rw [rdu_cons hdr] at he
    obtain ⟨gb, l, rfl, rfl, hll⟩ := ho.ptr (by omega)
    have hlt := bb.toNat_lt
    refine J.quietH H hmix (by kernel_rfl) ?_
    refine JQ.go trivial (fun w H => RX.movev (v := Value.pointer _) rfl) ?_
    refine JQ.go trivial (fun w H => RX.nilCheck rfl) ?_
    refine JQ.go trivial (fun w H => RX.fieldAddr rfl fo102_0 rfl) ?_
    refine JQ.go trivial (fun w H => by first | exact RX.load H rfl (i := 0) rfl rfl one26 | exact RX.load H rfl (i := 1) rfl rfl one26 | exact RX.load H rfl (i := 2) rfl rfl one26) ?_
    refine JQ.go trivial (fun w H => RX.movev (v := Value.pointer _) rfl) ?_
    refine JQ.go trivial (fun w H => RX.nilCheck rfl) ?_
    refine JQ.go trivial (fun w H => RX.fieldAddr rfl fo102_1 rfl) ?_
    refine JQ.go trivial (fun w H => by first | exact RX.load H rfl (i := 0) rfl rfl one3 | exact RX.load H rfl (i := 1) rfl rfl one3 | exact RX.load H rfl (i := 2) rfl rfl one3) ?_
    refine JQ.go trivial (fun w H => RX.movev (v := Value.int _ _) rfl) ?_
    refine JQ.go trivial (fun w H => RX.add rfl rfl (w_i64 rfl (by omega) (by omega))) ?_
    refine JQ.go trivial (fun w H => RX.indexAddr rfl rfl sl26 (by omega) (by omega) rfl) ?_
    refine JQ.go trivial (fun w H => RX.loadS H ((SlAt.here hll.2.2).cons) rfl (j := at_ + i) (by omega) (bv_get hbb) one5) ?_
    refine JQ.go trivial (fun w H => RX.assignv (v := Value.int _ _) rfl) ?_
    refine JQ.nil fun w H => ?_
    refine J.seq ?_
    refine J.block ?_
    refine J.seq ?_
    refine J.region ?_
    refine JL.go trivial (RX.movev (v := Value.int _ _) rfl) ?_
    refine JL.go trivial (RX.eq rfl rfl) ?_
    refine JL.go trivial (RX.movev (v := Value.bool _) rfl) ?_
    refine JL.splitS 37 rfl (fun h2 => ?_) (fun h2 => ?_)
    · skip
      first | have h2p := of_decide_eq_true h2 | skip
      refine JL.go ⟨_, rfl, h2⟩ (RX.movev (v := Value.int _ _) rfl) ?_
      refine JL.go ⟨_, rfl, h2⟩ (RX.gt rfl rfl) ?_
      refine JL.go trivial (RX.pick_t rfl h2) ?_
      refine JL.go trivial (RX.assignv (v := Value.bool _) rfl) ?_
      refine JL.nil ?_
      refine J.cond_d rfl (fun h1 => ?_) (fun h1 => ?_)
      · skip
        refine J.seq ?_
        refine J.quietH H hmix (by kernel_rfl) ?_
        refine JQ.go trivial (fun w H => RX.loadG H rfl g2.at_.cons.cons one40) ?_
        refine JQ.go trivial (fun w H => RX.assign) ?_
        refine JQ.go trivial (fun w H => RX.assign) ?_
        refine JQ.nil fun w H => ?_
        refine J.ret2 (v := Value.int _ _) Tryd.func24 rfl rfl rfl ?_
        first | (rw [he, if_pos ⟨by omega, by omega⟩]; exact ⟨_, rfl, rfl, H⟩) | (rw [he, if_neg (by omega), if_neg (by omega), if_pos ⟨by omega, by omega⟩]; exact ⟨_, rfl, rfl, H⟩) | (rw [he, if_neg (by omega), if_neg (by omega), if_neg (by omega)]; exact ⟨_, rfl, rfl, by simpa [rdAt] using H⟩)
      · skip
        refine J.seq ?_
        refine J.region ?_
        refine JL.go trivial (RX.movev (v := Value.int _ _) rfl) ?_
        refine JL.go trivial (RX.gt rfl rfl) ?_
        refine JL.go trivial (RX.assignv (v := Value.bool _) rfl) ?_
        refine JL.nil ?_
        refine J.cond_d rfl (fun h127 => ?_) (fun h127 => ?_)
        · skip
          refine J.seq ?_
          refine J.region ?_
          refine JL.go trivial (RX.movev (v := Value.int _ _) rfl) ?_
          refine JL.go trivial (RX.movev (v := Value.int _ _) rfl) ?_
          refine JL.go trivial (RX.and rfl rfl (and127 (by omega))) ?_
          refine JL.go trivial (RX.conv rfl (by rw [ki5]; rfl) ki27 (w_u64 rfl (by omega) (by omega))) ?_
          refine JL.go trivial (RX.movev (v := Value.int _ _) rfl) ?_
          refine JL.go trivial (RX.mul rfl rfl (w_i64 rfl (by omega) (by omega))) ?_
          refine JL.go trivial (RX.shl rfl rfl (by omega) (shl64 hi (pow7 hi (by omega) (by omega)))) ?_
          refine JL.go trivial (RX.or rfl rfl (or_shift hx (by omega) (pow7 hi (by omega) (by omega)))) ?_
          refine JL.go trivial (RX.assignv (v := Value.int _ _) rfl) ?_
          refine JL.nil ?_
          refine J.exit rfl ?_
          refine J.region ?_
          refine JL.go trivial (RX.movev (v := Value.int _ _) rfl) ?_
          refine JL.go trivial (RX.add rfl rfl (w_i64 rfl (by omega) (by omega))) ?_
          refine JL.go trivial (RX.assignv (v := Value.int _ _) rfl) ?_
          refine JL.nil ?_
          have h8 : i ≤ 8 := by omega
          have hy := pow7y (y := bb.toNat % 128) h8 (by omega)
          rw [if_neg (by omega), if_pos (by omega)] at he
          exact IH (i + 1, x + (bb.toNat % 128) * 2 ^ (7 * i)) _ _ (by simp only; omega) ⟨rfl, trivial⟩ ⟨rfl, rfl, trivial⟩ ⟨by omega, by simp only; omega, by simpa [Nat.add_assoc] using he, by simp only; omega, H⟩
        · skip
          refine J.seq ?_
          refine J.region ?_
          refine JL.go trivial (RX.movev (v := Value.int _ _) rfl) ?_
          refine JL.go trivial (RX.eq rfl rfl) ?_
          refine JL.go trivial (RX.movev (v := Value.bool _) rfl) ?_
          refine JL.splitS 56 rfl (fun h5 => ?_) (fun h5 => ?_)
          · skip
            first | have h5p := of_decide_eq_true h5 | skip
            refine JL.go ⟨_, rfl, h5⟩ (RX.movev (v := Value.int _ _) rfl) ?_
            refine JL.go ⟨_, rfl, h5⟩ (RX.gt rfl rfl) ?_
            refine JL.go trivial (RX.pick_t rfl h5) ?_
            refine JL.go trivial (RX.assignv (v := Value.bool _) rfl) ?_
            refine JL.nil ?_
            refine J.cond_d rfl (fun h6 => ?_) (fun h6 => ?_)
            · skip
              refine J.seq ?_
              refine J.quietH H hmix (by kernel_rfl) ?_
              refine JQ.go trivial (fun w H => RX.loadG H rfl g2.at_.cons.cons one40) ?_
              refine JQ.go trivial (fun w H => RX.assign) ?_
              refine JQ.go trivial (fun w H => RX.assign) ?_
              refine JQ.nil fun w H => ?_
              refine J.ret2 (v := Value.int _ _) Tryd.func24 rfl rfl rfl ?_
              first | (rw [he, if_pos ⟨by omega, by omega⟩]; exact ⟨_, rfl, rfl, H⟩) | (rw [he, if_neg (by omega), if_neg (by omega), if_pos ⟨by omega, by omega⟩]; exact ⟨_, rfl, rfl, H⟩) | (rw [he, if_neg (by omega), if_neg (by omega), if_neg (by omega)]; exact ⟨_, rfl, rfl, by simpa [rdAt] using H⟩)
            · skip
              refine J.skip ?_
              refine J.inBlock ?_
              refine J.seq ?_
              refine J.region ?_
              refine JL.go trivial (RX.movev (v := Value.pointer _) rfl) ?_
              refine JL.go trivial (RX.nilCheck rfl) ?_
              refine JL.go trivial (RX.fieldAddr rfl fo102_1 rfl) ?_
              refine JL.go trivial (by first | exact RX.load H rfl (i := 0) rfl rfl one3 | exact RX.load H rfl (i := 1) rfl rfl one3 | exact RX.load H rfl (i := 2) rfl rfl one3) ?_
              refine JL.go trivial (RX.movev (v := Value.int _ _) rfl) ?_
              refine JL.go trivial (RX.add rfl rfl (w_i64 rfl (by omega) (by omega))) ?_
              refine JL.go trivial (RX.add rfl rfl (w_i64 rfl (by omega) (by omega))) ?_
              refine JL.go trivial (RX.nilCheck rfl) ?_
              refine JL.go trivial (RX.fieldAddr rfl fo102_1 rfl) ?_
              refine JL.does trivial (by first | exact EX.store (v := Value.int _ _) H rfl rfl (i := 0) rfl rfl (by simp) sz3 rfl rfl | exact EX.store (v := Value.int _ _) H rfl rfl (i := 1) rfl rfl (by simp) sz3 rfl rfl | exact EX.store (v := Value.int _ _) H rfl rfl (i := 2) rfl rfl (by simp) sz3 rfl rfl) ?_
              rintro _ w H
              refine JL.nil ?_
              refine J.seq ?_
              refine J.region ?_
              refine JL.go trivial (RX.movev (v := Value.int _ _) rfl) ?_
              refine JL.go trivial (RX.movev (v := Value.int _ _) rfl) ?_
              refine JL.go trivial (RX.conv rfl (by rw [ki5]; rfl) ki27 (w_u64 rfl (by omega) (by omega))) ?_
              refine JL.go trivial (RX.movev (v := Value.int _ _) rfl) ?_
              refine JL.go trivial (RX.mul rfl rfl (w_i64 rfl (by omega) (by omega))) ?_
              refine JL.go trivial (RX.shl rfl rfl (by omega) (shl64 hi (pow7 hi (by omega) (by omega)))) ?_
              refine JL.go trivial (RX.or rfl rfl (or_shift hx (by omega) (pow7 hi (by omega) (by omega)))) ?_
              refine JL.go trivial (RX.assignv (v := Value.int _ _) rfl) ?_
              refine JL.go trivial (RX.assign) ?_
              refine JL.nil ?_
              refine J.ret2 (v := Value.int _ _) Tryd.func24 rfl rfl rfl ?_
              first | (rw [he, if_pos ⟨by omega, by omega⟩]; exact ⟨_, rfl, rfl, H⟩) | (rw [he, if_neg (by omega), if_neg (by omega), if_pos ⟨by omega, by omega⟩]; exact ⟨_, rfl, rfl, H⟩) | (rw [he, if_neg (by omega), if_neg (by omega), if_neg (by omega)]; exact ⟨_, rfl, rfl, by simpa [rdAt] using H⟩)
          · skip
            first | have h5p := of_decide_eq_false h5 | skip
            refine JL.no ⟨_, rfl, gno h5⟩ ?_
            refine JL.no ⟨_, rfl, gno h5⟩ ?_
            refine JL.go trivial (RX.pick_f rfl h5) ?_
            refine JL.go trivial (RX.assignv (v := Value.bool _) rfl) ?_
            refine JL.nil ?_
            refine J.cond_f rfl rfl ?_
            refine J.skip ?_
            refine J.inBlock ?_
            refine J.seq ?_
            refine J.region ?_
            refine JL.go trivial (RX.movev (v := Value.pointer _) rfl) ?_
            refine JL.go trivial (RX.nilCheck rfl) ?_
            refine JL.go trivial (RX.fieldAddr rfl fo102_1 rfl) ?_
            refine JL.go trivial (by first | exact RX.load H rfl (i := 0) rfl rfl one3 | exact RX.load H rfl (i := 1) rfl rfl one3 | exact RX.load H rfl (i := 2) rfl rfl one3) ?_
            refine JL.go trivial (RX.movev (v := Value.int _ _) rfl) ?_
            refine JL.go trivial (RX.add rfl rfl (w_i64 rfl (by omega) (by omega))) ?_
            refine JL.go trivial (RX.add rfl rfl (w_i64 rfl (by omega) (by omega))) ?_
            refine JL.go trivial (RX.nilCheck rfl) ?_
            refine JL.go trivial (RX.fieldAddr rfl fo102_1 rfl) ?_
            refine JL.does trivial (by first | exact EX.store (v := Value.int _ _) H rfl rfl (i := 0) rfl rfl (by simp) sz3 rfl rfl | exact EX.store (v := Value.int _ _) H rfl rfl (i := 1) rfl rfl (by simp) sz3 rfl rfl | exact EX.store (v := Value.int _ _) H rfl rfl (i := 2) rfl rfl (by simp) sz3 rfl rfl) ?_
            rintro _ w H
            refine JL.nil ?_
            refine J.seq ?_
            refine J.region ?_
            refine JL.go trivial (RX.movev (v := Value.int _ _) rfl) ?_
            refine JL.go trivial (RX.movev (v := Value.int _ _) rfl) ?_
            refine JL.go trivial (RX.conv rfl (by rw [ki5]; rfl) ki27 (w_u64 rfl (by omega) (by omega))) ?_
            refine JL.go trivial (RX.movev (v := Value.int _ _) rfl) ?_
            refine JL.go trivial (RX.mul rfl rfl (w_i64 rfl (by omega) (by omega))) ?_
            refine JL.go trivial (RX.shl rfl rfl (by omega) (shl64 hi (pow7 hi (by omega) (by omega)))) ?_
            refine JL.go trivial (RX.or rfl rfl (or_shift hx (by omega) (pow7 hi (by omega) (by omega)))) ?_
            refine JL.go trivial (RX.assignv (v := Value.int _ _) rfl) ?_
            refine JL.go trivial (RX.assign) ?_
            refine JL.nil ?_
            refine J.ret2 (v := Value.int _ _) Tryd.func24 rfl rfl rfl ?_
            first | (rw [he, if_pos ⟨by omega, by omega⟩]; exact ⟨_, rfl, rfl, H⟩) | (rw [he, if_neg (by omega), if_neg (by omega), if_pos ⟨by omega, by omega⟩]; exact ⟨_, rfl, rfl, H⟩) | (rw [he, if_neg (by omega), if_neg (by omega), if_neg (by omega)]; exact ⟨_, rfl, rfl, by simpa [rdAt] using H⟩)
    · skip
      first | have h2p := of_decide_eq_false h2 | skip
      refine JL.no ⟨_, rfl, gno h2⟩ ?_
      refine JL.no ⟨_, rfl, gno h2⟩ ?_
      refine JL.go trivial (RX.pick_f rfl h2) ?_
      refine JL.go trivial (RX.assignv (v := Value.bool _) rfl) ?_
      refine JL.nil ?_
      refine J.cond_f rfl rfl ?_
      refine J.seq ?_
      refine J.region ?_
      refine JL.go trivial (RX.movev (v := Value.int _ _) rfl) ?_
      refine JL.go trivial (RX.gt rfl rfl) ?_
      refine JL.go trivial (RX.assignv (v := Value.bool _) rfl) ?_
      refine JL.nil ?_
      refine J.cond_d rfl (fun h127 => ?_) (fun h127 => ?_)
      · skip
        refine J.seq ?_
        refine J.region ?_
        refine JL.go trivial (RX.movev (v := Value.int _ _) rfl) ?_
        refine JL.go trivial (RX.movev (v := Value.int _ _) rfl) ?_
        refine JL.go trivial (RX.and rfl rfl (and127 (by omega))) ?_
        refine JL.go trivial (RX.conv rfl (by rw [ki5]; rfl) ki27 (w_u64 rfl (by omega) (by omega))) ?_
        refine JL.go trivial (RX.movev (v := Value.int _ _) rfl) ?_
        refine JL.go trivial (RX.mul rfl rfl (w_i64 rfl (by omega) (by omega))) ?_
        refine JL.go trivial (RX.shl rfl rfl (by omega) (shl64 hi (pow7 hi (by omega) (by omega)))) ?_
        refine JL.go trivial (RX.or rfl rfl (or_shift hx (by omega) (pow7 hi (by omega) (by omega)))) ?_
        refine JL.go trivial (RX.assignv (v := Value.int _ _) rfl) ?_
        refine JL.nil ?_
        refine J.exit rfl ?_
        refine J.region ?_
        refine JL.go trivial (RX.movev (v := Value.int _ _) rfl) ?_
        refine JL.go trivial (RX.add rfl rfl (w_i64 rfl (by omega) (by omega))) ?_
        refine JL.go trivial (RX.assignv (v := Value.int _ _) rfl) ?_
        refine JL.nil ?_
        have h8 : i ≤ 8 := by omega
        have hy := pow7y (y := bb.toNat % 128) h8 (by omega)
        rw [if_neg (by omega), if_pos (by omega)] at he
        exact IH (i + 1, x + (bb.toNat % 128) * 2 ^ (7 * i)) _ _ (by simp only; omega) ⟨rfl, trivial⟩ ⟨rfl, rfl, trivial⟩ ⟨by omega, by simp only; omega, by simpa [Nat.add_assoc] using he, by simp only; omega, H⟩
      · skip
        refine J.seq ?_
        refine J.region ?_
        refine JL.go trivial (RX.movev (v := Value.int _ _) rfl) ?_
        refine JL.go trivial (RX.eq rfl rfl) ?_
        refine JL.go trivial (RX.movev (v := Value.bool _) rfl) ?_
        refine JL.splitS 56 rfl (fun h8 => ?_) (fun h8 => ?_)
        · skip
          first | have h8p := of_decide_eq_true h8 | skip
          refine JL.go ⟨_, rfl, h8⟩ (RX.movev (v := Value.int _ _) rfl) ?_
          refine JL.go ⟨_, rfl, h8⟩ (RX.gt rfl rfl) ?_
          refine JL.go trivial (RX.pick_t rfl h8) ?_
          refine JL.go trivial (RX.assignv (v := Value.bool _) rfl) ?_
          refine JL.nil ?_
          refine J.cond_d rfl (fun h9 => ?_) (fun h9 => ?_)
          · skip
            refine J.seq ?_
            refine J.quietH H hmix (by kernel_rfl) ?_
            refine JQ.go trivial (fun w H => RX.loadG H rfl g2.at_.cons.cons one40) ?_
            refine JQ.go trivial (fun w H => RX.assign) ?_
            refine JQ.go trivial (fun w H => RX.assign) ?_
            refine JQ.nil fun w H => ?_
            refine J.ret2 (v := Value.int _ _) Tryd.func24 rfl rfl rfl ?_
            first | (rw [he, if_pos ⟨by omega, by omega⟩]; exact ⟨_, rfl, rfl, H⟩) | (rw [he, if_neg (by omega), if_neg (by omega), if_pos ⟨by omega, by omega⟩]; exact ⟨_, rfl, rfl, H⟩) | (rw [he, if_neg (by omega), if_neg (by omega), if_neg (by omega)]; exact ⟨_, rfl, rfl, by simpa [rdAt] using H⟩)
          · skip
            refine J.skip ?_
            refine J.inBlock ?_
            refine J.seq ?_
            refine J.region ?_
            refine JL.go trivial (RX.movev (v := Value.pointer _) rfl) ?_
            refine JL.go trivial (RX.nilCheck rfl) ?_
            refine JL.go trivial (RX.fieldAddr rfl fo102_1 rfl) ?_
            refine JL.go trivial (by first | exact RX.load H rfl (i := 0) rfl rfl one3 | exact RX.load H rfl (i := 1) rfl rfl one3 | exact RX.load H rfl (i := 2) rfl rfl one3) ?_
            refine JL.go trivial (RX.movev (v := Value.int _ _) rfl) ?_
            refine JL.go trivial (RX.add rfl rfl (w_i64 rfl (by omega) (by omega))) ?_
            refine JL.go trivial (RX.add rfl rfl (w_i64 rfl (by omega) (by omega))) ?_
            refine JL.go trivial (RX.nilCheck rfl) ?_
            refine JL.go trivial (RX.fieldAddr rfl fo102_1 rfl) ?_
            refine JL.does trivial (by first | exact EX.store (v := Value.int _ _) H rfl rfl (i := 0) rfl rfl (by simp) sz3 rfl rfl | exact EX.store (v := Value.int _ _) H rfl rfl (i := 1) rfl rfl (by simp) sz3 rfl rfl | exact EX.store (v := Value.int _ _) H rfl rfl (i := 2) rfl rfl (by simp) sz3 rfl rfl) ?_
            rintro _ w H
            refine JL.nil ?_
            refine J.seq ?_
            refine J.region ?_
            refine JL.go trivial (RX.movev (v := Value.int _ _) rfl) ?_
            refine JL.go trivial (RX.movev (v := Value.int _ _) rfl) ?_
            refine JL.go trivial (RX.conv rfl (by rw [ki5]; rfl) ki27 (w_u64 rfl (by omega) (by omega))) ?_
            refine JL.go trivial (RX.movev (v := Value.int _ _) rfl) ?_
            refine JL.go trivial (RX.mul rfl rfl (w_i64 rfl (by omega) (by omega))) ?_
            refine JL.go trivial (RX.shl rfl rfl (by omega) (shl64 hi (pow7 hi (by omega) (by omega)))) ?_
            refine JL.go trivial (RX.or rfl rfl (or_shift hx (by omega) (pow7 hi (by omega) (by omega)))) ?_
            refine JL.go trivial (RX.assignv (v := Value.int _ _) rfl) ?_
            refine JL.go trivial (RX.assign) ?_
            refine JL.nil ?_
            refine J.ret2 (v := Value.int _ _) Tryd.func24 rfl rfl rfl ?_
            first | (rw [he, if_pos ⟨by omega, by omega⟩]; exact ⟨_, rfl, rfl, H⟩) | (rw [he, if_neg (by omega), if_neg (by omega), if_pos ⟨by omega, by omega⟩]; exact ⟨_, rfl, rfl, H⟩) | (rw [he, if_neg (by omega), if_neg (by omega), if_neg (by omega)]; exact ⟨_, rfl, rfl, by simpa [rdAt] using H⟩)
        · skip
          first | have h8p := of_decide_eq_false h8 | skip
          refine JL.no ⟨_, rfl, gno h8⟩ ?_
          refine JL.no ⟨_, rfl, gno h8⟩ ?_
          refine JL.go trivial (RX.pick_f rfl h8) ?_
          refine JL.go trivial (RX.assignv (v := Value.bool _) rfl) ?_
          refine JL.nil ?_
          refine J.cond_f rfl rfl ?_
          refine J.skip ?_
          refine J.inBlock ?_
          refine J.seq ?_
          refine J.region ?_
          refine JL.go trivial (RX.movev (v := Value.pointer _) rfl) ?_
          refine JL.go trivial (RX.nilCheck rfl) ?_
          refine JL.go trivial (RX.fieldAddr rfl fo102_1 rfl) ?_
          refine JL.go trivial (by first | exact RX.load H rfl (i := 0) rfl rfl one3 | exact RX.load H rfl (i := 1) rfl rfl one3 | exact RX.load H rfl (i := 2) rfl rfl one3) ?_
          refine JL.go trivial (RX.movev (v := Value.int _ _) rfl) ?_
          refine JL.go trivial (RX.add rfl rfl (w_i64 rfl (by omega) (by omega))) ?_
          refine JL.go trivial (RX.add rfl rfl (w_i64 rfl (by omega) (by omega))) ?_
          refine JL.go trivial (RX.nilCheck rfl) ?_
          refine JL.go trivial (RX.fieldAddr rfl fo102_1 rfl) ?_
          refine JL.does trivial (by first | exact EX.store (v := Value.int _ _) H rfl rfl (i := 0) rfl rfl (by simp) sz3 rfl rfl | exact EX.store (v := Value.int _ _) H rfl rfl (i := 1) rfl rfl (by simp) sz3 rfl rfl | exact EX.store (v := Value.int _ _) H rfl rfl (i := 2) rfl rfl (by simp) sz3 rfl rfl) ?_
          rintro _ w H
          refine JL.nil ?_
          refine J.seq ?_
          refine J.region ?_
          refine JL.go trivial (RX.movev (v := Value.int _ _) rfl) ?_
          refine JL.go trivial (RX.movev (v := Value.int _ _) rfl) ?_
          refine JL.go trivial (RX.conv rfl (by rw [ki5]; rfl) ki27 (w_u64 rfl (by omega) (by omega))) ?_
          refine JL.go trivial (RX.movev (v := Value.int _ _) rfl) ?_
          refine JL.go trivial (RX.mul rfl rfl (w_i64 rfl (by omega) (by omega))) ?_
          refine JL.go trivial (RX.shl rfl rfl (by omega) (shl64 hi (pow7 hi (by omega) (by omega)))) ?_
          refine JL.go trivial (RX.or rfl rfl (or_shift hx (by omega) (pow7 hi (by omega) (by omega)))) ?_
          refine JL.go trivial (RX.assignv (v := Value.int _ _) rfl) ?_
          refine JL.go trivial (RX.assign) ?_
          refine JL.nil ?_
          refine J.ret2 (v := Value.int _ _) Tryd.func24 rfl rfl rfl ?_
          first | (rw [he, if_pos ⟨by omega, by omega⟩]; exact ⟨_, rfl, rfl, H⟩) | (rw [he, if_neg (by omega), if_neg (by omega), if_pos ⟨by omega, by omega⟩]; exact ⟨_, rfl, rfl, H⟩) | (rw [he, if_neg (by omega), if_neg (by omega), if_neg (by omega)]; exact ⟨_, rfl, rfl, by simpa [rdAt] using H⟩)
theorem left_r {w0 w : World} {F : List Seg} {b T c at_ : Nat} {p : Option Addr} {s : Seg} {bs : List UInt8} (H : Hp w0 w ([(b, cel [.slice p bs.length c, .int .i64 (at_ : Nat)] T)] :: s :: F)) (ho : OwnSl 5 1 p bs.length c (bv bs) s) (hat : at_ ≤ bs.length) (hl : bs.length ≤ 1099511627776) : Ret Tryd.prog 20 [.pointer (some ⟨b, 0, none⟩)] w fun v w' => v = .int .i64 ((bs.length - at_ : Nat) : Int) ∧ Hp w0 w' ([(b, cel [.slice p bs.length c, .int .i64 (at_ : Nat)] T)] :: s :: F) := by
  refine Calls.of_J (n := 13) Tryd.func20 rfl rfl rfl ?_
  refine J.seq ?_
  refine J.region ?_
  refine JL.go trivial (RX.assign) ?_
  refine JL.nil ?_
  refine J.seq ?_
  refine J.quietH H hmix (by kernel_rfl) ?_
  refine JQ.go trivial (fun w H => RX.movev (v := Value.pointer _) rfl) ?_
  refine JQ.go trivial (fun w H => RX.nilCheck rfl) ?_
  refine JQ.go trivial (fun w H => RX.fieldAddr rfl fo102_0 rfl) ?_
  refine JQ.go trivial (fun w H => by first | exact RX.load H rfl (i := 0) rfl rfl one26 | exact RX.load H rfl (i := 1) rfl rfl one26) ?_
  refine JQ.go trivial (fun w H => RX.len_slice rfl (by rw [sl26]; rfl) rfl) ?_
  refine JQ.go trivial (fun w H => RX.movev (v := Value.pointer _) rfl) ?_
  refine JQ.go trivial (fun w H => RX.nilCheck rfl) ?_
  refine JQ.go trivial (fun w H => RX.fieldAddr rfl fo102_1 rfl) ?_
  refine JQ.go trivial (fun w H => by first | exact RX.load H rfl (i := 0) rfl rfl one3 | exact RX.load H rfl (i := 1) rfl rfl one3) ?_
  refine JQ.go trivial (fun w H => RX.sub rfl rfl (w_i64 (r := ((bs.length - at_ : Nat) : Int)) (by omega) (by omega) (by omega))) ?_
  refine JQ.go trivial (fun w H => RX.assignv (v := Value.int _ _) rfl) ?_
  refine JQ.nil fun w H => ?_
  refine J.ret1 (v := Value.int _ _) Tryd.func20 rfl rfl ?_
  exact ⟨_, rfl, rfl, H⟩
theorem done_r {w0 w : World} {F : List Seg} {b T c at_ : Nat} {p : Option Addr} {s : Seg} {bs : List UInt8} {E : Nat → Value} (H : Hp w0 w ([(b, cel [.slice p bs.length c, .int .i64 (at_ : Nat)] T)] :: s :: F)) (ho : OwnSl 5 1 p bs.length c (bv bs) s) (hat : at_ ≤ bs.length) (hl : bs.length ≤ 1099511627776) (g4 : GErr F 0 (E 4)) : Ret Tryd.prog 22 [.pointer (some ⟨b, 0, none⟩)] w fun v w' => v = (if at_ < bs.length then E 4 else .nilIface) ∧ Hp w0 w' ([(b, cel [.slice p bs.length c, .int .i64 (at_ : Nat)] T)] :: s :: F) := by
  refine Calls.of_J (n := 7) Tryd.func22 rfl rfl rfl ?_
  refine J.seq ?_
  refine J.region ?_
  refine JL.go trivial (RX.assign) ?_
  refine JL.nil ?_
  refine J.seq ?_
  refine J.seq ?_
  refine J.region ?_
  refine JL.go trivial (RX.movev (v := Value.pointer _) rfl) ?_
  refine JL.does trivial (EX.call rfl cl20 rfl (left_r H ho hat hl)) ?_
  rintro _ w ⟨rfl, H⟩
  refine JL.go trivial (RX.gt rfl rfl) ?_
  refine JL.nil ?_
  refine J.cond_d rfl (fun hc => ?_) (fun hc => ?_)
  · skip
    refine J.seq ?_
    refine J.region ?_
    refine JL.go trivial (RX.loadG H rfl g4.at_.cons.cons one40) ?_
    refine JL.go trivial (RX.assign) ?_
    refine JL.nil ?_
    refine J.ret1 Tryd.func22 rfl rfl ?_
    rw [if_pos (by omega)]; exact ⟨_, rfl, rfl, H⟩
  · skip
    refine J.skip ?_
    refine J.seq ?_
    refine J.region ?_
    refine JL.go trivial (RX.assign) ?_
    refine JL.nil ?_
    refine J.ret1 Tryd.func22 rfl rfl ?_
    rw [if_neg (by omega)]; exact ⟨_, rfl, rfl, H⟩
theorem rdu_lt : ∀ (l : List UInt8) (i x y k : Nat), i ≤ 9 → x < 2 ^ (7 * i) → rdu i x l = .ok y k → y < 18446744073709551616 ∧ k ≤ i + l.length ∧ 0 < k := by
  intro l
  induction l with
  | nil => intro i x y k _ _ h; cases h
  | cons b l ih =>
    intro i x y k hi hx h
    have hlt := b.toNat_lt
    rw [rdu_cons rfl] at h
    split at h
    · cases h
    · rename_i h1
      split at h
      · rename_i h2
        by_cases h9 : i = 9
        · omega
        · have hy := pow7y (y := b.toNat % 128) (i := i) (by omega) (by omega)
          have := ih (i + 1) _ y k (by omega) (by omega) h
          simp only [List.length_cons]; omega
      · rename_i h2
        split at h
        · cases h
        · cases h
          have h63 := pow7x hi hx
          have := pow7 (y := b.toNat) hi (by omega) (by omega)
          refine ⟨?_, by simp only [List.length_cons]; omega, by omega⟩
          by_cases h9 : i = 9
          · subst h9
            have e : (2 : Nat) ^ (7 * 9) = 9223372036854775808 := by decide
            rw [e]; omega
          · have hy := pow7y (y := b.toNat) (i := i) (by omega) (by omega)
            have := (pow7a (i := i) (by omega)).2.1
            omega
theorem rd_cases (r : Rd) : (∃ x k, r = .ok x k) ∨ (∃ e, r = .err e) := by
  cases r with
  | ok x k => exact .inl ⟨x, k, rfl⟩
  | err e => exact .inr ⟨e, rfl⟩
theorem isE_err {E : Nat → Value} {F : List Seg} {a b : Nat} (h1 : GErr F a (E 1)) (h2 : GErr F b (E 2)) (l : List UInt8) (i x : Nat) : isErr (isE E (rdu i x l)) = true ∧ (isNil (isE E (rdu i x l)) = match rdu i x l with | .ok _ _ => true | .err _ => false) := by
  induction l generalizing i x with
  | nil => exact ⟨h1.ie, h1.nn⟩
  | cons b l ih =>
    rw [rdu_cons rfl]
    split
    · exact ⟨h2.ie, h2.nn⟩
    · split
      · exact ih _ _
      · split
        · exact ⟨h2.ie, h2.nn⟩
        · exact ⟨rfl, rfl⟩
theorem upto_cl_ok {w0 w : World} {F : List Seg} {b T c at_ : Nat} {p : Option Addr} {s : Seg} {bs : List UInt8} {E : Nat → Value} {br bm : Nat} {most : Int} (H : Hp w0 w ([(br, cel [.pointer (some ⟨b, 0, none⟩)] 42)] :: [(bm, cel [.int .i64 most] 3)] :: [(b, cel [.slice p bs.length c, .int .i64 (at_ : Nat)] T)] :: s :: F)) (ho : OwnSl 5 1 p bs.length c (bv bs) s) (hat : at_ ≤ bs.length) (hl : bs.length ≤ 1099511627776) (g1 : GErr F 1 (E 1)) (g2 : GErr F 2 (E 2)) (g3 : GErr F 4 (E 3)) (hm0 : -9223372036854775808 ≤ most) (hm1 : most ≤ 9223372036854775807) {x k : Nat} (hr : rdu 0 0 (bs.drop at_) = .ok x k) : Ret Tryd.prog 94 [.pointer (some ⟨br, 0, none⟩), .pointer (some ⟨bm, 0, none⟩)] w fun v w' =>
      ∃ r, v = .tuple #[.int .i64 r, if most < 0 ∨ most < x then E 3 else .nilIface] ∧ (¬ (most < 0 ∨ most < x) → r = x) ∧ Hp w0 w' ([(b, cel [.slice p bs.length c, .int .i64 (at_ + k : Nat)] T)] :: s :: [(br, cel [.pointer (some ⟨b, 0, none⟩)] 42)] :: [(bm, cel [.int .i64 most] 3)] :: F) := by
  refine Calls.of_J (n := 27) Tryd.func94 rfl rfl rfl ?_
  refine J.seq ?_
  refine J.region ?_
  refine JL.go trivial (RX.assign) ?_
  refine JL.go trivial (RX.assign) ?_
  refine JL.nil ?_
  refine J.seq ?_
  refine J.region ?_
  refine JL.go trivial (by first | exact RX.load H rfl (i := 0) rfl rfl one42 | exact RX.load H rfl (i := 1) rfl rfl one42 | exact RX.load H rfl (i := 2) rfl rfl one42 | exact RX.load H rfl (i := 3) rfl rfl one42 | exact RX.load H rfl (i := 4) rfl rfl one42) ?_
  refine JL.does trivial (EX.call rfl cl24 rfl ((uint_r ((H.pull 3 rfl).pull 3 rfl) ho hat hl g1.cons.cons g2.cons.cons))) ?_
  rintro _ w ⟨rfl, H⟩
  have hlt := rdu_lt (bs.drop at_) 0 0 _ _ (by omega) (by decide) hr
  rw [hr] at H ⊢
  simp only [rdOut, rdAt] at H ⊢
  refine JL.go trivial (RX.movev (v := Value.tuple _) rfl) ?_
  refine JL.go trivial (RX.extract rfl rfl) ?_
  refine JL.go trivial (RX.extract rfl rfl) ?_
  refine JL.go trivial (RX.assignv (v := Value.int _ _) rfl) ?_
  refine JL.go trivial (RX.assign) ?_
  refine JL.nil ?_
  refine J.seq ?_
  refine J.seq ?_
  refine J.region ?_
  refine JL.go trivial (RX.move) ?_
  refine JL.go trivial (RX.ifnil_eql rfl rfl rfl if40) ?_
  refine JL.go trivial (RX.movev (v := Value.bool _) rfl) ?_
  refine JL.go ⟨_, rfl, rfl⟩ (by first | exact RX.load H rfl (i := 0) rfl rfl one3 | exact RX.load H rfl (i := 1) rfl rfl one3 | exact RX.load H rfl (i := 2) rfl rfl one3 | exact RX.load H rfl (i := 3) rfl rfl one3 | exact RX.load H rfl (i := 4) rfl rfl one3) ?_
  refine JL.go ⟨_, rfl, rfl⟩ (RX.lt rfl rfl) ?_
  refine JL.go ⟨_, rfl, rfl⟩ (RX.movev (v := Value.bool _) rfl) ?_
  refine JL.splitS 16 rfl (fun h1 => ?_) (fun h1 => ?_)
  · skip
    first | have h1p := of_decide_eq_true h1 | skip
    refine JL.no ⟨_, rfl, gno h1⟩ ?_
    refine JL.no ⟨_, rfl, gno h1⟩ ?_
    refine JL.no ⟨_, rfl, gno h1⟩ ?_
    refine JL.no ⟨_, rfl, gno h1⟩ ?_
    refine JL.go ⟨_, rfl, rfl⟩ (RX.pick_t rfl h1) ?_
    refine JL.go trivial (RX.pick_t rfl rfl) ?_
    refine JL.nil ?_
    refine J.cond_t rfl rfl ?_
    refine J.region ?_
    refine JL.go trivial (RX.loadG H rfl g3.at_.cons.cons.cons.cons one40) ?_
    refine JL.go trivial (RX.assign) ?_
    refine JL.nil ?_
    refine J.seq ?_
    refine J.region ?_
    refine JL.go trivial (RX.movev (v := Value.int _ _) rfl) ?_
    refine JL.go trivial (RX.conv rfl (by rw [ki27]; rfl) ki3 rfl) ?_
    refine JL.go trivial (RX.move) ?_
    refine JL.go trivial (RX.assignv (v := Value.int _ _) rfl) ?_
    refine JL.go trivial (RX.assign) ?_
    refine JL.nil ?_
    refine J.ret2 (v := Value.int _ _) Tryd.func94 rfl rfl rfl ?_
    first | (rw [if_pos (by omega)]; exact ⟨_, rfl, _, rfl, fun h => absurd (by omega) h, H⟩) | (rw [if_neg (by omega)]; exact ⟨_, rfl, _, rfl, fun _ => w_i64 rfl (by omega) (by omega), H⟩)
  · skip
    first | have h1p := of_decide_eq_false h1 | skip
    refine JL.go ⟨_, rfl, h1⟩ (RX.movev (v := Value.int _ _) rfl) ?_
    refine JL.go ⟨_, rfl, h1⟩ (by first | exact RX.load H rfl (i := 0) rfl rfl one3 | exact RX.load H rfl (i := 1) rfl rfl one3 | exact RX.load H rfl (i := 2) rfl rfl one3 | exact RX.load H rfl (i := 3) rfl rfl one3 | exact RX.load H rfl (i := 4) rfl rfl one3) ?_
    refine JL.go ⟨_, rfl, h1⟩ (RX.conv rfl (by rw [ki3]; rfl) ki27 (w_u64 rfl (by omega) (by omega))) ?_
    refine JL.go ⟨_, rfl, h1⟩ (RX.gt rfl rfl) ?_
    refine JL.go ⟨_, rfl, rfl⟩ (RX.pick_f rfl h1) ?_
    refine JL.go trivial (RX.pick_t rfl rfl) ?_
    refine JL.nil ?_
    refine J.cond_d rfl (fun hc => ?_) (fun hc => ?_)
    · skip
      refine J.region ?_
      refine JL.go trivial (RX.loadG H rfl g3.at_.cons.cons.cons.cons one40) ?_
      refine JL.go trivial (RX.assign) ?_
      refine JL.nil ?_
      refine J.seq ?_
      refine J.region ?_
      refine JL.go trivial (RX.movev (v := Value.int _ _) rfl) ?_
      refine JL.go trivial (RX.conv rfl (by rw [ki27]; rfl) ki3 rfl) ?_
      refine JL.go trivial (RX.move) ?_
      refine JL.go trivial (RX.assignv (v := Value.int _ _) rfl) ?_
      refine JL.go trivial (RX.assign) ?_
      refine JL.nil ?_
      refine J.ret2 (v := Value.int _ _) Tryd.func94 rfl rfl rfl ?_
      first | (rw [if_pos (by omega)]; exact ⟨_, rfl, _, rfl, fun h => absurd (by omega) h, H⟩) | (rw [if_neg (by omega)]; exact ⟨_, rfl, _, rfl, fun _ => w_i64 rfl (by omega) (by omega), H⟩)
    · skip
      refine J.skip ?_
      refine J.seq ?_
      refine J.region ?_
      refine JL.go trivial (RX.movev (v := Value.int _ _) rfl) ?_
      refine JL.go trivial (RX.conv rfl (by rw [ki27]; rfl) ki3 rfl) ?_
      refine JL.go trivial (RX.move) ?_
      refine JL.go trivial (RX.assignv (v := Value.int _ _) rfl) ?_
      refine JL.go trivial (RX.assign) ?_
      refine JL.nil ?_
      refine J.ret2 (v := Value.int _ _) Tryd.func94 rfl rfl rfl ?_
      first | (rw [if_pos (by omega)]; exact ⟨_, rfl, _, rfl, fun h => absurd (by omega) h, H⟩) | (rw [if_neg (by omega)]; exact ⟨_, rfl, _, rfl, fun _ => w_i64 rfl (by omega) (by omega), H⟩)
theorem upto_cl_err {w0 w : World} {F : List Seg} {b T c at_ : Nat} {p : Option Addr} {s : Seg} {bs : List UInt8} {E : Nat → Value} {br bm : Nat} {most : Int} (H : Hp w0 w ([(br, cel [.pointer (some ⟨b, 0, none⟩)] 42)] :: [(bm, cel [.int .i64 most] 3)] :: [(b, cel [.slice p bs.length c, .int .i64 (at_ : Nat)] T)] :: s :: F)) (ho : OwnSl 5 1 p bs.length c (bv bs) s) (hat : at_ ≤ bs.length) (hl : bs.length ≤ 1099511627776) (g1 : GErr F 1 (E 1)) (g2 : GErr F 2 (E 2)) (g3 : GErr F 4 (E 3)) (hm0 : -9223372036854775808 ≤ most) (hm1 : most ≤ 9223372036854775807) {e : Nat} (hr : rdu 0 0 (bs.drop at_) = .err e) (hie : isErr (E e) = true) (hin : isNil (E e) = false) : Ret Tryd.prog 94 [.pointer (some ⟨br, 0, none⟩), .pointer (some ⟨bm, 0, none⟩)] w fun v w' =>
      ∃ r, v = .tuple #[.int .i64 r, E e] ∧ Hp w0 w' ([(b, cel [.slice p bs.length c, .int .i64 (at_ : Nat)] T)] :: s :: [(br, cel [.pointer (some ⟨b, 0, none⟩)] 42)] :: [(bm, cel [.int .i64 most] 3)] :: F) := by
  refine Calls.of_J (n := 27) Tryd.func94 rfl rfl rfl ?_
  refine J.seq ?_
  refine J.region ?_
  refine JL.go trivial (RX.assign) ?_
  refine JL.go trivial (RX.assign) ?_
  refine JL.nil ?_
  refine J.seq ?_
  refine J.region ?_
  refine JL.go trivial (by first | exact RX.load H rfl (i := 0) rfl rfl one42 | exact RX.load H rfl (i := 1) rfl rfl one42 | exact RX.load H rfl (i := 2) rfl rfl one42 | exact RX.load H rfl (i := 3) rfl rfl one42 | exact RX.load H rfl (i := 4) rfl rfl one42) ?_
  refine JL.does trivial (EX.call rfl cl24 rfl ((uint_r ((H.pull 3 rfl).pull 3 rfl) ho hat hl g1.cons.cons g2.cons.cons))) ?_
  rintro _ w ⟨rfl, H⟩
  rw [hr] at H ⊢
  simp only [rdOut, rdAt] at H ⊢
  refine JL.go trivial (RX.movev (v := Value.tuple _) rfl) ?_
  refine JL.go trivial (RX.extract rfl rfl) ?_
  refine JL.go trivial (RX.extract rfl rfl) ?_
  refine JL.go trivial (RX.assignv (v := Value.int _ _) rfl) ?_
  refine JL.go trivial (RX.assign) ?_
  refine JL.nil ?_
  refine J.seq ?_
  refine J.seq ?_
  refine J.region ?_
  refine JL.go trivial (RX.move) ?_
  refine JL.go trivial (RX.ifnil_eql (v := E e) rfl rfl hie if40) ?_
  refine JL.go trivial (RX.movev (v := Value.bool _) rfl) ?_
  refine JL.no ⟨_, rfl, gno hin⟩ ?_
  refine JL.no ⟨_, rfl, gno hin⟩ ?_
  refine JL.no ⟨_, rfl, gno hin⟩ ?_
  refine JL.no ⟨_, rfl, nofun⟩ ?_
  refine JL.no ⟨_, rfl, nofun⟩ ?_
  refine JL.no ⟨_, rfl, nofun⟩ ?_
  refine JL.no ⟨_, rfl, nofun⟩ ?_
  refine JL.no ⟨_, rfl, gno hin⟩ ?_
  refine JL.go trivial (RX.pick_f rfl hin) ?_
  refine JL.nil ?_
  refine J.cond_f rfl rfl ?_
  refine J.skip ?_
  refine J.seq ?_
  refine J.region ?_
  refine JL.go trivial (RX.movev (v := Value.int _ _) rfl) ?_
  refine JL.go trivial (RX.conv rfl (by rw [ki27]; rfl) ki3 rfl) ?_
  refine JL.go trivial (RX.move) ?_
  refine JL.go trivial (RX.assignv (v := Value.int _ _) rfl) ?_
  refine JL.go trivial (RX.assign) ?_
  refine JL.nil ?_
  refine J.ret2 (v := Value.int _ _) Tryd.func94 rfl rfl rfl ?_
  exact ⟨_, rfl, _, rfl, H⟩
theorem whole_ok {w0 w : World} {F : List Seg} {b T c at_ : Nat} {p : Option Addr} {s : Seg} {bs : List UInt8} {E : Nat → Value} {br bm : Nat} {most : Int} (H : Hp w0 w ([(br, cel [.pointer (some ⟨b, 0, none⟩)] 42)] :: [(bm, cel [.int .i64 most] 3)] :: [(b, cel [.slice p bs.length c, .int .i64 (at_ : Nat)] T)] :: s :: F)) (ho : OwnSl 5 1 p bs.length c (bv bs) s) (hat : at_ ≤ bs.length) (hl : bs.length ≤ 1099511627776) (g1 : GErr F 1 (E 1)) (g2 : GErr F 2 (E 2)) (g3 : GErr F 4 (E 3)) (hm0 : -9223372036854775808 ≤ most) (hm1 : most ≤ 9223372036854775807) {x k : Nat} (hr : rdu 0 0 (bs.drop at_) = .ok x k) : Ret Tryd.prog 93 [.pointer (some ⟨b, 0, none⟩), .func (.func 94) #[] #[.pointer (some ⟨br, 0, none⟩), .pointer (some ⟨bm, 0, none⟩)]] w fun v w' => v = .tuple #[.int .i64 (rdN ((rdu 0 0 (bs.drop at_)).upto most) : Nat), isE E ((rdu 0 0 (bs.drop at_)).upto most)] ∧ Hp w0 w' ([(b, cel [.slice p bs.length c, .int .i64 (rdAt at_ ((rdu 0 0 (bs.drop at_)).upto most) : Nat)] T)] :: s :: [(br, cel [.pointer (some ⟨b, 0, none⟩)] 42)] :: [(bm, cel [.int .i64 most] 3)] :: F) := by
  refine Calls.of_J (n := 28) Tryd.func93 rfl rfl rfl ?_
  refine J.seq ?_
  refine J.region ?_
  refine JL.go trivial (RX.assign) ?_
  refine JL.go trivial (RX.assign) ?_
  refine JL.nil ?_
  refine J.seq ?_
  refine J.region ?_
  refine JL.go trivial (RX.movev (v := Value.pointer _) rfl) ?_
  refine JL.go trivial (RX.nilCheck rfl) ?_
  refine JL.go trivial (RX.fieldAddr rfl fo102_1 rfl) ?_
  refine JL.go trivial (by first | exact RX.load H rfl (i := 0) rfl rfl one3 | exact RX.load H rfl (i := 1) rfl rfl one3 | exact RX.load H rfl (i := 2) rfl rfl one3 | exact RX.load H rfl (i := 3) rfl rfl one3 | exact RX.load H rfl (i := 4) rfl rfl one3) ?_
  refine JL.go trivial (RX.assignv (v := Value.int _ _) rfl) ?_
  refine JL.nil ?_
  refine J.seq ?_
  refine J.region ?_
  refine JL.go trivial (RX.movev (v := Value.func _ _ _) rfl) ?_
  refine JL.does trivial (EX.callv (f := 94) (fv := []) (cv := [.pointer (some ⟨br, 0, none⟩), .pointer (some ⟨bm, 0, none⟩)]) rfl cl94 rfl rfl (upto_cl_ok H ho hat hl g1 g2 g3 hm0 hm1 hr)) ?_
  rintro _ w ⟨r, rfl, hrx, H⟩
  rw [hr]
  have hie3 : isErr (if most < 0 ∨ most < (x : Int) then E 3 else .nilIface) = true := by split; exact g3.ie; rfl
  refine JL.go trivial (RX.movev (v := Value.tuple _) rfl) ?_
  refine JL.go trivial (RX.extract rfl rfl) ?_
  refine JL.go trivial (RX.extract rfl rfl) ?_
  refine JL.go trivial (RX.assignv (v := Value.int _ _) rfl) ?_
  refine JL.go trivial (RX.assign) ?_
  refine JL.nil ?_
  refine J.seq ?_
  refine J.seq ?_
  refine J.region ?_
  refine JL.go trivial (RX.move) ?_
  refine JL.go trivial (RX.ifnil_neq (v := (if most < 0 ∨ most < (x : Int) then E 3 else .nilIface)) rfl rfl hie3 if40) ?_
  refine JL.nil ?_
  refine J.cond rfl (fun hn => ?_) (fun hn => ?_)
  · skip
    have hmx : most < 0 ∨ most < (x : Int) := by
      by_cases h : most < 0 ∨ most < (x : Int)
      · exact h
      · rw [if_neg h] at hn; cases hn
    refine J.seq ?_
    refine J.region ?_
    refine JL.go trivial (RX.assign) ?_
    refine JL.nil ?_
    refine J.seq ?_
    refine J.region ?_
    refine JL.go trivial (RX.movev (v := Value.pointer _) rfl) ?_
    refine JL.go trivial (RX.movev (v := Value.int _ _) rfl) ?_
    refine JL.go trivial (RX.nilCheck rfl) ?_
    refine JL.go trivial (RX.fieldAddr rfl fo102_1 rfl) ?_
    refine JL.does trivial (by first | exact EX.store (v := Value.int _ _) H rfl rfl (i := 0) rfl rfl (by simp) sz3 rfl rfl | exact EX.store (v := Value.int _ _) H rfl rfl (i := 1) rfl rfl (by simp) sz3 rfl rfl | exact EX.store (v := Value.int _ _) H rfl rfl (i := 2) rfl rfl (by simp) sz3 rfl rfl | exact EX.store (v := Value.int _ _) H rfl rfl (i := 3) rfl rfl (by simp) sz3 rfl rfl | exact EX.store (v := Value.int _ _) H rfl rfl (i := 4) rfl rfl (by simp) sz3 rfl rfl) ?_
    rintro _ w H
    refine JL.nil ?_
    refine J.seq ?_
    refine J.region ?_
    refine JL.go trivial (RX.movev (v := Value.int _ _) rfl) ?_
    refine JL.go trivial (RX.move) ?_
    refine JL.go trivial (RX.assignv (v := Value.int _ _) rfl) ?_
    refine JL.go trivial (RX.assign) ?_
    refine JL.nil ?_
    refine J.ret2 (v := Value.int _ _) Tryd.func93 rfl rfl rfl ?_
    have e : (Rd.ok x k).upto most = .err 3 := if_pos hmx
    rw [e]; exact ⟨_, rfl, by rw [if_pos hmx]; rfl, H⟩
  · skip
    have hmx : ¬ (most < 0 ∨ most < (x : Int)) := by
      intro h; rw [if_pos h, g3.nn] at hn; cases hn
    refine J.skip ?_
    refine J.seq ?_
    refine J.region ?_
    refine JL.go trivial (RX.movev (v := Value.int _ _) rfl) ?_
    refine JL.go trivial (RX.assignv (v := Value.int _ _) rfl) ?_
    refine JL.go trivial (RX.assign) ?_
    refine JL.nil ?_
    refine J.ret2 (v := Value.int _ _) Tryd.func93 rfl rfl rfl ?_
    have e : (Rd.ok x k).upto most = .ok x k := if_neg hmx
    rw [e]; exact ⟨_, rfl, by rw [hrx hmx]; rfl, H⟩
theorem whole_err {w0 w : World} {F : List Seg} {b T c at_ : Nat} {p : Option Addr} {s : Seg} {bs : List UInt8} {E : Nat → Value} {br bm : Nat} {most : Int} (H : Hp w0 w ([(br, cel [.pointer (some ⟨b, 0, none⟩)] 42)] :: [(bm, cel [.int .i64 most] 3)] :: [(b, cel [.slice p bs.length c, .int .i64 (at_ : Nat)] T)] :: s :: F)) (ho : OwnSl 5 1 p bs.length c (bv bs) s) (hat : at_ ≤ bs.length) (hl : bs.length ≤ 1099511627776) (g1 : GErr F 1 (E 1)) (g2 : GErr F 2 (E 2)) (g3 : GErr F 4 (E 3)) (hm0 : -9223372036854775808 ≤ most) (hm1 : most ≤ 9223372036854775807) {e : Nat} (hr : rdu 0 0 (bs.drop at_) = .err e) (hie : isErr (E e) = true) (hin : isNil (E e) = false) : Ret Tryd.prog 93 [.pointer (some ⟨b, 0, none⟩), .func (.func 94) #[] #[.pointer (some ⟨br, 0, none⟩), .pointer (some ⟨bm, 0, none⟩)]] w fun v w' => v = .tuple #[.int .i64 (rdN ((rdu 0 0 (bs.drop at_)).upto most) : Nat), isE E ((rdu 0 0 (bs.drop at_)).upto most)] ∧ Hp w0 w' ([(b, cel [.slice p bs.length c, .int .i64 (rdAt at_ ((rdu 0 0 (bs.drop at_)).upto most) : Nat)] T)] :: s :: [(br, cel [.pointer (some ⟨b, 0, none⟩)] 42)] :: [(bm, cel [.int .i64 most] 3)] :: F) := by
  refine Calls.of_J (n := 28) Tryd.func93 rfl rfl rfl ?_
  refine J.seq ?_
  refine J.region ?_
  refine JL.go trivial (RX.assign) ?_
  refine JL.go trivial (RX.assign) ?_
  refine JL.nil ?_
  refine J.seq ?_
  refine J.region ?_
  refine JL.go trivial (RX.movev (v := Value.pointer _) rfl) ?_
  refine JL.go trivial (RX.nilCheck rfl) ?_
  refine JL.go trivial (RX.fieldAddr rfl fo102_1 rfl) ?_
  refine JL.go trivial (by first | exact RX.load H rfl (i := 0) rfl rfl one3 | exact RX.load H rfl (i := 1) rfl rfl one3 | exact RX.load H rfl (i := 2) rfl rfl one3 | exact RX.load H rfl (i := 3) rfl rfl one3 | exact RX.load H rfl (i := 4) rfl rfl one3) ?_
  refine JL.go trivial (RX.assignv (v := Value.int _ _) rfl) ?_
  refine JL.nil ?_
  refine J.seq ?_
  refine J.region ?_
  refine JL.go trivial (RX.movev (v := Value.func _ _ _) rfl) ?_
  refine JL.does trivial (EX.callv (f := 94) (fv := []) (cv := [.pointer (some ⟨br, 0, none⟩), .pointer (some ⟨bm, 0, none⟩)]) rfl cl94 rfl rfl (upto_cl_err H ho hat hl g1 g2 g3 hm0 hm1 hr hie hin)) ?_
  rintro _ w ⟨r, rfl, H⟩
  rw [hr]
  refine JL.go trivial (RX.movev (v := Value.tuple _) rfl) ?_
  refine JL.go trivial (RX.extract rfl rfl) ?_
  refine JL.go trivial (RX.extract rfl rfl) ?_
  refine JL.go trivial (RX.assignv (v := Value.int _ _) rfl) ?_
  refine JL.go trivial (RX.assign) ?_
  refine JL.nil ?_
  refine J.seq ?_
  refine J.seq ?_
  refine J.region ?_
  refine JL.go trivial (RX.move) ?_
  refine JL.go trivial (RX.ifnil_neq (v := E e) rfl rfl hie if40) ?_
  refine JL.nil ?_
  refine J.cond_t rfl (by rw [hin]; rfl) ?_
  refine J.seq ?_
  refine J.region ?_
  refine JL.go trivial (RX.assign) ?_
  refine JL.nil ?_
  refine J.seq ?_
  refine J.region ?_
  refine JL.go trivial (RX.movev (v := Value.pointer _) rfl) ?_
  refine JL.go trivial (RX.movev (v := Value.int _ _) rfl) ?_
  refine JL.go trivial (RX.nilCheck rfl) ?_
  refine JL.go trivial (RX.fieldAddr rfl fo102_1 rfl) ?_
  refine JL.does trivial (by first | exact EX.store (v := Value.int _ _) H rfl rfl (i := 0) rfl rfl (by simp) sz3 rfl rfl | exact EX.store (v := Value.int _ _) H rfl rfl (i := 1) rfl rfl (by simp) sz3 rfl rfl | exact EX.store (v := Value.int _ _) H rfl rfl (i := 2) rfl rfl (by simp) sz3 rfl rfl | exact EX.store (v := Value.int _ _) H rfl rfl (i := 3) rfl rfl (by simp) sz3 rfl rfl | exact EX.store (v := Value.int _ _) H rfl rfl (i := 4) rfl rfl (by simp) sz3 rfl rfl) ?_
  rintro _ w H
  refine JL.nil ?_
  refine J.seq ?_
  refine J.region ?_
  refine JL.go trivial (RX.movev (v := Value.int _ _) rfl) ?_
  refine JL.go trivial (RX.move) ?_
  refine JL.go trivial (RX.assignv (v := Value.int _ _) rfl) ?_
  refine JL.go trivial (RX.assign) ?_
  refine JL.nil ?_
  refine J.ret2 (v := Value.int _ _) Tryd.func93 rfl rfl rfl ?_
  exact ⟨_, rfl, rfl, H⟩
theorem whole_r {w0 w : World} {F : List Seg} {b T c at_ : Nat} {p : Option Addr} {s : Seg} {bs : List UInt8} {E : Nat → Value} {br bm : Nat} {most : Int} (H : Hp w0 w ([(br, cel [.pointer (some ⟨b, 0, none⟩)] 42)] :: [(bm, cel [.int .i64 most] 3)] :: [(b, cel [.slice p bs.length c, .int .i64 (at_ : Nat)] T)] :: s :: F)) (ho : OwnSl 5 1 p bs.length c (bv bs) s) (hat : at_ ≤ bs.length) (hl : bs.length ≤ 1099511627776) (g1 : GErr F 1 (E 1)) (g2 : GErr F 2 (E 2)) (g3 : GErr F 4 (E 3)) (hm0 : -9223372036854775808 ≤ most) (hm1 : most ≤ 9223372036854775807) : Ret Tryd.prog 93 [.pointer (some ⟨b, 0, none⟩), .func (.func 94) #[] #[.pointer (some ⟨br, 0, none⟩), .pointer (some ⟨bm, 0, none⟩)]] w fun v w' => v = .tuple #[.int .i64 (rdN ((rdu 0 0 (bs.drop at_)).upto most) : Nat), isE E ((rdu 0 0 (bs.drop at_)).upto most)] ∧ Hp w0 w' ([(b, cel [.slice p bs.length c, .int .i64 (rdAt at_ ((rdu 0 0 (bs.drop at_)).upto most) : Nat)] T)] :: s :: [(br, cel [.pointer (some ⟨b, 0, none⟩)] 42)] :: [(bm, cel [.int .i64 most] 3)] :: F) := by
  rcases rd_cases (rdu 0 0 (bs.drop at_)) with ⟨x, k, hr⟩ | ⟨e, hr⟩
  · exact whole_ok H ho hat hl g1 g2 g3 hm0 hm1 hr
  · have h := isE_err g1 g2 (bs.drop at_) 0 0
    rw [hr] at h
    exact whole_err H ho hat hl g1 g2 g3 hm0 hm1 hr h.1 h.2
theorem upto_r {w0 w : World} {F : List Seg} {b T c at_ : Nat} {p : Option Addr} {s : Seg} {bs : List UInt8} {E : Nat → Value} {most : Int} (H : Hp w0 w ([(b, cel [.slice p bs.length c, .int .i64 (at_ : Nat)] T)] :: s :: F)) (ho : OwnSl 5 1 p bs.length c (bv bs) s) (hat : at_ ≤ bs.length) (hl : bs.length ≤ 1099511627776) (g1 : GErr F 1 (E 1)) (g2 : GErr F 2 (E 2)) (g3 : GErr F 4 (E 3)) (hm0 : -9223372036854775808 ≤ most) (hm1 : most ≤ 9223372036854775807) : Ret Tryd.prog 57 [.pointer (some ⟨b, 0, none⟩), .int .i64 most] w fun v w' =>
      v = .tuple #[.int .i64 (rdN ((rdu 0 0 (bs.drop at_)).upto most) : Nat), isE E ((rdu 0 0 (bs.drop at_)).upto most)] ∧ Hp w0 w' ([(b, cel [.slice p bs.length c, .int .i64 (rdAt at_ ((rdu 0 0 (bs.drop at_)).upto most) : Nat)] T)] :: s :: F) := by
  refine Calls.of_J (n := 11) Tryd.func57 rfl rfl rfl ?_
  refine J.seq ?_
  refine J.region ?_
  refine JL.does trivial (EX.box (v := Value.pointer _) H rfl rfl) ?_
  rintro _ w ⟨b1, rfl, H⟩
  refine JL.does trivial (EX.box (v := Value.int _ _) H rfl rfl) ?_
  rintro _ w ⟨b2, rfl, H⟩
  refine JL.go trivial (RX.assign) ?_
  refine JL.go trivial (RX.assign) ?_
  refine JL.nil ?_
  refine J.seq ?_
  refine J.region ?_
  refine JL.go trivial (by first | exact RX.load H rfl (i := 0) rfl rfl one42 | exact RX.load H rfl (i := 1) rfl rfl one42 | exact RX.load H rfl (i := 2) rfl rfl one42 | exact RX.load H rfl (i := 3) rfl rfl one42) ?_
  refine JL.go trivial (RX.makeFunc rfl rfl) ?_
  refine JL.does trivial (EX.call rfl cl93 rfl ((whole_r (H.pull 1 rfl) ho hat hl g1 g2 g3 hm0 hm1))) ?_
  rintro _ w ⟨rfl, H⟩
  replace H := ((H.pull 3 rfl).drop.pull 2 rfl).drop
  generalize (rdu 0 0 (bs.drop at_)).upto most = rd at H ⊢
  refine JL.go trivial (RX.extract rfl rfl) ?_
  refine JL.go trivial (RX.extract rfl rfl) ?_
  refine JL.go trivial (RX.assignv (v := Value.int _ _) rfl) ?_
  refine JL.go trivial (RX.assign) ?_
  refine JL.nil ?_
  refine J.ret2 (v := Value.int _ _) Tryd.func57 rfl rfl rfl ?_
  exact ⟨_, rfl, rfl, H⟩
def numOut (at_ : Nat) : Rd → Value
  | .ok x k => .tuple #[.int .u64 x, .int .i64 ((at_ + k : Nat) : Int), .int .i64 0]
  | .err e => .tuple #[.int .u64 0, .int .i64 at_, .int .i64 e]
theorem ref_number {w0 w : World} {F : List Seg} {c at_ : Nat} {p : Option Addr} {bs : List UInt8} (H : Hp w0 w F) (hs : SlAt F p (bv bs)) (hat : at_ ≤ bs.length) (hl : bs.length ≤ 1099511627776) : Ret Tryd.prog 92 [.slice p bs.length c, .int .i64 (at_ : Nat)] w fun v w' => v = numOut at_ (rdu 0 0 (bs.drop at_)) ∧ Hp w0 w' F := by
  refine Calls.of_J (n := 55) Tryd.func92 rfl rfl rfl ?_
  refine J.seq ?_
  refine J.region ?_
  refine JL.go trivial (RX.assign) ?_
  refine JL.go trivial (RX.assign) ?_
  refine JL.go trivial (RX.assign) ?_
  refine JL.nil ?_
  refine J.seq ?_
  refine J.region ?_
  refine JL.go trivial (RX.assign) ?_
  refine JL.nil ?_
  refine J.seq ?_
  refine J.region ?_
  refine JL.go trivial (RX.assign) ?_
  refine JL.nil ?_
  refine J.block ?_
  refine J.loop (ι := Nat × Nat) (S := fun q => [(7, .int .u64 (q.2 : Nat)), (8, .int .i64 (q.1 : Nat))]) (Φ := fun q w => q.1 ≤ 9 ∧ q.2 < 2 ^ (7 * q.1) ∧ rdu 0 0 (bs.drop at_) = rdu q.1 q.2 (bs.drop (at_ + q.1)) ∧ at_ + q.1 ≤ bs.length ∧ Hp w0 w F) (μ := fun q => 10 - q.1) (C := [(0, _), (1, _)]) (0, 0) ⟨rfl, rfl, trivial⟩ ⟨rfl, rfl, trivial⟩ ?_ ?_
  · exact ⟨by decide, by decide, rfl, hat, H⟩
  clear H
  rintro ⟨i, x⟩ ρ w ⟨hi, hx, he, hai, H⟩ IH
  simp only at hi hx he hai H
  have hx63 := pow7x hi hx
  dsimp only
  refine J.seq ?_
  refine J.block ?_
  refine J.seq ?_
  refine J.seq ?_
  refine J.region ?_
  refine JL.go trivial (RX.movev (v := Value.int _ _) rfl) ?_
  refine JL.go trivial (RX.movev (v := Value.int _ _) rfl) ?_
  refine JL.go trivial (RX.add rfl rfl (w_i64 rfl (by omega) (by omega))) ?_
  refine JL.go trivial (RX.movev (v := Value.slice _ _ _) rfl) ?_
  refine JL.go trivial (RX.len_slice rfl (by rw [sl26]; rfl) rfl) ?_
  refine JL.go trivial (RX.ge rfl rfl) ?_
  refine JL.nil ?_
  refine J.cond_d rfl (fun hend => ?_) (fun hend => ?_)
  · skip
    refine J.seq ?_
    refine J.region ?_
    refine JL.go trivial (RX.movev (v := Value.int _ _) rfl) ?_
    refine JL.go trivial (RX.assign) ?_
    refine JL.go trivial (RX.assignv (v := Value.int _ _) rfl) ?_
    refine JL.go trivial (RX.assign) ?_
    refine JL.nil ?_
    refine J.ret3 (v := Value.int _ _) (x := Value.int _ _) (y := Value.int _ _) Tryd.func92 rfl rfl rfl rfl ?_
    rw [he, rdu_nil (List.drop_eq_nil_of_le (by omega))]
    exact ⟨_, rfl, rfl, H⟩
  · skip
    refine J.skip ?_
    refine J.seq ?_
    obtain ⟨bb, hbb, hdr⟩ := drop_get (l := bs) (i := at_ + i) (by omega)
    rw [rdu_cons hdr] at he
    obtain ⟨pb, po, rfl, _⟩ := hs.some (by rw [bv_len]; omega)
    have hlt := bb.toNat_lt
    refine J.region ?_
    refine JL.go trivial (RX.movev (v := Value.slice _ _ _) rfl) ?_
    refine JL.go trivial (RX.movev (v := Value.int _ _) rfl) ?_
    refine JL.go trivial (RX.movev (v := Value.int _ _) rfl) ?_
    refine JL.go trivial (RX.add rfl rfl (w_i64 rfl (by omega) (by omega))) ?_
    refine JL.go trivial (RX.indexAddr rfl rfl sl26 (by omega) (by omega) rfl) ?_
    refine JL.go trivial (RX.loadS H hs rfl (j := at_ + i) (by omega) (bv_get hbb) one5) ?_
    refine JL.go trivial (RX.assignv (v := Value.int _ _) rfl) ?_
    refine JL.nil ?_
    refine J.seq ?_
    refine J.seq ?_
    refine J.region ?_
    refine JL.go trivial (RX.movev (v := Value.int _ _) rfl) ?_
    refine JL.go trivial (RX.eq rfl rfl) ?_
    refine JL.go trivial (RX.movev (v := Value.bool _) rfl) ?_
    refine JL.splitS 27 rfl (fun h2 => ?_) (fun h2 => ?_)
    · skip
      first | have h2p := of_decide_eq_true h2 | skip
      refine JL.go ⟨_, rfl, h2⟩ (RX.movev (v := Value.int _ _) rfl) ?_
      refine JL.go ⟨_, rfl, h2⟩ (RX.gt rfl rfl) ?_
      refine JL.go trivial (RX.pick_t rfl h2) ?_
      refine JL.go trivial (RX.movev (v := Value.bool _) rfl) ?_
      refine JL.splitS 31 rfl (fun h3 => ?_) (fun h3 => ?_)
      · skip
        first | have h3p := of_decide_eq_true h3 | skip
        refine JL.no ⟨_, rfl, gno h3⟩ ?_
        refine JL.no ⟨_, rfl, gno h3⟩ ?_
        refine JL.no ⟨_, rfl, gno h3⟩ ?_
        refine JL.no ⟨_, rfl, nofun⟩ ?_
        refine JL.no ⟨_, rfl, nofun⟩ ?_
        refine JL.no ⟨_, rfl, gno h3⟩ ?_
        refine JL.go trivial (RX.pick_t rfl h3) ?_
        refine JL.nil ?_
        refine J.cond_t rfl rfl ?_
        refine J.seq ?_
        refine J.region ?_
        refine JL.go trivial (RX.movev (v := Value.int _ _) rfl) ?_
        refine JL.go trivial (RX.assign) ?_
        refine JL.go trivial (RX.assignv (v := Value.int _ _) rfl) ?_
        refine JL.go trivial (RX.assign) ?_
        refine JL.nil ?_
        refine J.ret3 (v := Value.int _ _) (x := Value.int _ _) (y := Value.int _ _) Tryd.func92 rfl rfl rfl rfl ?_
        first | (rw [he, if_pos ⟨by omega, by omega⟩]; exact ⟨_, rfl, rfl, H⟩) | (rw [he, if_neg (by omega), if_neg (by omega), if_pos ⟨by omega, by omega⟩]; exact ⟨_, rfl, rfl, H⟩) | (rw [he, if_neg (by omega), if_neg (by omega), if_neg (by omega)]; refine ⟨_, rfl, ?_, H⟩; have e : bb.toNat % 128 = bb.toNat := (by omega); have e2 : ((at_ : Int) + i + 1) = ((at_ + (i + 1) : Nat) : Int) := (by omega); rw [e, e2]; try rfl)
      · skip
        first | have h3p := of_decide_eq_false h3 | skip
        refine JL.go ⟨_, rfl, h3⟩ (RX.movev (v := Value.int _ _) rfl) ?_
        refine JL.go ⟨_, rfl, h3⟩ (RX.gt rfl rfl) ?_
        refine JL.go ⟨_, rfl, h3⟩ (RX.movev (v := Value.bool _) rfl) ?_
        refine JL.splitS 34 rfl (fun h4 => ?_) (fun h4 => ?_)
        · skip
          first | have h4p := of_decide_eq_true h4 | skip
          refine JL.go ⟨_, rfl, h4⟩ (RX.movev (v := Value.int _ _) rfl) ?_
          refine JL.go ⟨_, rfl, h4⟩ (RX.eq rfl rfl) ?_
          refine JL.go ⟨_, rfl, h3⟩ (RX.pick_t rfl h4) ?_
          refine JL.go trivial (RX.pick_f rfl h3) ?_
          refine JL.nil ?_
          refine J.cond_d rfl (fun h1 => ?_) (fun h1 => ?_)
          · skip
            refine J.seq ?_
            refine J.region ?_
            refine JL.go trivial (RX.movev (v := Value.int _ _) rfl) ?_
            refine JL.go trivial (RX.assign) ?_
            refine JL.go trivial (RX.assignv (v := Value.int _ _) rfl) ?_
            refine JL.go trivial (RX.assign) ?_
            refine JL.nil ?_
            refine J.ret3 (v := Value.int _ _) (x := Value.int _ _) (y := Value.int _ _) Tryd.func92 rfl rfl rfl rfl ?_
            first | (rw [he, if_pos ⟨by omega, by omega⟩]; exact ⟨_, rfl, rfl, H⟩) | (rw [he, if_neg (by omega), if_neg (by omega), if_pos ⟨by omega, by omega⟩]; exact ⟨_, rfl, rfl, H⟩) | (rw [he, if_neg (by omega), if_neg (by omega), if_neg (by omega)]; refine ⟨_, rfl, ?_, H⟩; have e : bb.toNat % 128 = bb.toNat := (by omega); have e2 : ((at_ : Int) + i + 1) = ((at_ + (i + 1) : Nat) : Int) := (by omega); rw [e, e2]; try rfl)
          · skip
            refine J.skip ?_
            refine J.seq ?_
            refine J.region ?_
            refine JL.go trivial (RX.movev (v := Value.int _ _) rfl) ?_
            refine JL.go trivial (RX.movev (v := Value.int _ _) rfl) ?_
            refine JL.go trivial (RX.rem rfl rfl (by decide) (Int.tmod_eq_emod_of_nonneg (by omega))) ?_
            refine JL.go trivial (RX.conv rfl (by rw [ki5]; rfl) ki27 (w_u64 rfl (by omega) (by omega))) ?_
            refine JL.go trivial (RX.movev (v := Value.int _ _) rfl) ?_
            refine JL.go trivial (RX.mul rfl rfl (w_i64 rfl (by omega) (by omega))) ?_
            refine JL.go trivial (RX.shl rfl rfl (by omega) (shl64 (y := bb.toNat % 128) hi (pow7 hi (by omega) (by omega)))) ?_
            refine JL.go trivial (RX.add rfl rfl (w_u64 (r := ((x + (bb.toNat % 128) * 2 ^ (7 * i) : Nat) : Int)) (by omega) (by omega) (by have := pow7z (y := bb.toNat % 128) hi hx (by omega) (by omega); omega))) ?_
            refine JL.go trivial (RX.assignv (v := Value.int _ _) rfl) ?_
            refine JL.nil ?_
            refine J.seq ?_
            refine J.region ?_
            refine JL.go trivial (RX.movev (v := Value.int _ _) rfl) ?_
            refine JL.go trivial (RX.lt rfl rfl) ?_
            refine JL.nil ?_
            refine J.cond_d rfl (fun h128 => ?_) (fun h128 => ?_)
            · skip
              refine J.seq ?_
              refine J.region ?_
              refine JL.go trivial (RX.movev (v := Value.int _ _) rfl) ?_
              refine JL.go trivial (RX.movev (v := Value.int _ _) rfl) ?_
              refine JL.go trivial (RX.movev (v := Value.int _ _) rfl) ?_
              refine JL.go trivial (RX.add rfl rfl (w_i64 rfl (by omega) (by omega))) ?_
              refine JL.go trivial (RX.add rfl rfl (w_i64 rfl (by omega) (by omega))) ?_
              refine JL.go trivial (RX.assignv (v := Value.int _ _) rfl) ?_
              refine JL.go trivial (RX.assignv (v := Value.int _ _) rfl) ?_
              refine JL.go trivial (RX.assign) ?_
              refine JL.nil ?_
              refine J.ret3 (v := Value.int _ _) (x := Value.int _ _) (y := Value.int _ _) Tryd.func92 rfl rfl rfl rfl ?_
              first | (rw [he, if_pos ⟨by omega, by omega⟩]; exact ⟨_, rfl, rfl, H⟩) | (rw [he, if_neg (by omega), if_neg (by omega), if_pos ⟨by omega, by omega⟩]; exact ⟨_, rfl, rfl, H⟩) | (rw [he, if_neg (by omega), if_neg (by omega), if_neg (by omega)]; refine ⟨_, rfl, ?_, H⟩; have e : bb.toNat % 128 = bb.toNat := (by omega); have e2 : ((at_ : Int) + i + 1) = ((at_ + (i + 1) : Nat) : Int) := (by omega); rw [e, e2]; try rfl)
            · skip
              refine J.skip ?_
              refine J.inBlock ?_
              refine J.region ?_
              refine JL.go trivial (RX.movev (v := Value.int _ _) rfl) ?_
              refine JL.go trivial (RX.add rfl rfl (w_i64 rfl (by omega) (by omega))) ?_
              refine JL.go trivial (RX.assignv (v := Value.int _ _) rfl) ?_
              refine JL.nil ?_
              have h8 : i ≤ 8 := by omega
              have hy := pow7y (y := bb.toNat % 128) h8 (by omega)
              rw [if_neg (by omega), if_pos (by omega)] at he
              exact IH (i + 1, x + (bb.toNat % 128) * 2 ^ (7 * i)) _ _ (by simp only; omega) ⟨rfl, rfl, trivial⟩ ⟨rfl, rfl, trivial⟩ ⟨by omega, by simp only; omega, by simpa [Nat.add_assoc] using he, by simp only; omega, H⟩
        · skip
          first | have h4p := of_decide_eq_false h4 | skip
          refine JL.no ⟨_, rfl, gno h4⟩ ?_
          refine JL.no ⟨_, rfl, gno h4⟩ ?_
          refine JL.go ⟨_, rfl, h3⟩ (RX.pick_f rfl h4) ?_
          refine JL.go trivial (RX.pick_f rfl h3) ?_
          refine JL.nil ?_
          refine J.cond_f rfl rfl ?_
          refine J.skip ?_
          refine J.seq ?_
          refine J.region ?_
          refine JL.go trivial (RX.movev (v := Value.int _ _) rfl) ?_
          refine JL.go trivial (RX.movev (v := Value.int _ _) rfl) ?_
          refine JL.go trivial (RX.rem rfl rfl (by decide) (Int.tmod_eq_emod_of_nonneg (by omega))) ?_
          refine JL.go trivial (RX.conv rfl (by rw [ki5]; rfl) ki27 (w_u64 rfl (by omega) (by omega))) ?_
          refine JL.go trivial (RX.movev (v := Value.int _ _) rfl) ?_
          refine JL.go trivial (RX.mul rfl rfl (w_i64 rfl (by omega) (by omega))) ?_
          refine JL.go trivial (RX.shl rfl rfl (by omega) (shl64 (y := bb.toNat % 128) hi (pow7 hi (by omega) (by omega)))) ?_
          refine JL.go trivial (RX.add rfl rfl (w_u64 (r := ((x + (bb.toNat % 128) * 2 ^ (7 * i) : Nat) : Int)) (by omega) (by omega) (by have := pow7z (y := bb.toNat % 128) hi hx (by omega) (by omega); omega))) ?_
          refine JL.go trivial (RX.assignv (v := Value.int _ _) rfl) ?_
          refine JL.nil ?_
          refine J.seq ?_
          refine J.region ?_
          refine JL.go trivial (RX.movev (v := Value.int _ _) rfl) ?_
          refine JL.go trivial (RX.lt rfl rfl) ?_
          refine JL.nil ?_
          refine J.cond_d rfl (fun h128 => ?_) (fun h128 => ?_)
          · skip
            refine J.seq ?_
            refine J.region ?_
            refine JL.go trivial (RX.movev (v := Value.int _ _) rfl) ?_
            refine JL.go trivial (RX.movev (v := Value.int _ _) rfl) ?_
            refine JL.go trivial (RX.movev (v := Value.int _ _) rfl) ?_
            refine JL.go trivial (RX.add rfl rfl (w_i64 rfl (by omega) (by omega))) ?_
            refine JL.go trivial (RX.add rfl rfl (w_i64 rfl (by omega) (by omega))) ?_
            refine JL.go trivial (RX.assignv (v := Value.int _ _) rfl) ?_
            refine JL.go trivial (RX.assignv (v := Value.int _ _) rfl) ?_
            refine JL.go trivial (RX.assign) ?_
            refine JL.nil ?_
            refine J.ret3 (v := Value.int _ _) (x := Value.int _ _) (y := Value.int _ _) Tryd.func92 rfl rfl rfl rfl ?_
            first | (rw [he, if_pos ⟨by omega, by omega⟩]; exact ⟨_, rfl, rfl, H⟩) | (rw [he, if_neg (by omega), if_neg (by omega), if_pos ⟨by omega, by omega⟩]; exact ⟨_, rfl, rfl, H⟩) | (rw [he, if_neg (by omega), if_neg (by omega), if_neg (by omega)]; refine ⟨_, rfl, ?_, H⟩; have e : bb.toNat % 128 = bb.toNat := (by omega); have e2 : ((at_ : Int) + i + 1) = ((at_ + (i + 1) : Nat) : Int) := (by omega); rw [e, e2]; try rfl)
          · skip
            refine J.skip ?_
            refine J.inBlock ?_
            refine J.region ?_
            refine JL.go trivial (RX.movev (v := Value.int _ _) rfl) ?_
            refine JL.go trivial (RX.add rfl rfl (w_i64 rfl (by omega) (by omega))) ?_
            refine JL.go trivial (RX.assignv (v := Value.int _ _) rfl) ?_
            refine JL.nil ?_
            have h8 : i ≤ 8 := by omega
            have hy := pow7y (y := bb.toNat % 128) h8 (by omega)
            rw [if_neg (by omega), if_pos (by omega)] at he
            exact IH (i + 1, x + (bb.toNat % 128) * 2 ^ (7 * i)) _ _ (by simp only; omega) ⟨rfl, rfl, trivial⟩ ⟨rfl, rfl, trivial⟩ ⟨by omega, by simp only; omega, by simpa [Nat.add_assoc] using he, by simp only; omega, H⟩
    · skip
      first | have h2p := of_decide_eq_false h2 | skip
      refine JL.no ⟨_, rfl, gno h2⟩ ?_
      refine JL.no ⟨_, rfl, gno h2⟩ ?_
      refine JL.go trivial (RX.pick_f rfl h2) ?_
      refine JL.go trivial (RX.movev (v := Value.bool _) rfl) ?_
      refine JL.go ⟨_, rfl, rfl⟩ (RX.movev (v := Value.int _ _) rfl) ?_
      refine JL.go ⟨_, rfl, rfl⟩ (RX.gt rfl rfl) ?_
      refine JL.go ⟨_, rfl, rfl⟩ (RX.movev (v := Value.bool _) rfl) ?_
      refine JL.splitS 34 rfl (fun h8 => ?_) (fun h8 => ?_)
      · skip
        first | have h8p := of_decide_eq_true h8 | skip
        refine JL.go ⟨_, rfl, h8⟩ (RX.movev (v := Value.int _ _) rfl) ?_
        refine JL.go ⟨_, rfl, h8⟩ (RX.eq rfl rfl) ?_
        refine JL.go ⟨_, rfl, rfl⟩ (RX.pick_t rfl h8) ?_
        refine JL.go trivial (RX.pick_f rfl rfl) ?_
        refine JL.nil ?_
        refine J.cond_d rfl (fun h1 => ?_) (fun h1 => ?_)
        · skip
          refine J.seq ?_
          refine J.region ?_
          refine JL.go trivial (RX.movev (v := Value.int _ _) rfl) ?_
          refine JL.go trivial (RX.assign) ?_
          refine JL.go trivial (RX.assignv (v := Value.int _ _) rfl) ?_
          refine JL.go trivial (RX.assign) ?_
          refine JL.nil ?_
          refine J.ret3 (v := Value.int _ _) (x := Value.int _ _) (y := Value.int _ _) Tryd.func92 rfl rfl rfl rfl ?_
          first | (rw [he, if_pos ⟨by omega, by omega⟩]; exact ⟨_, rfl, rfl, H⟩) | (rw [he, if_neg (by omega), if_neg (by omega), if_pos ⟨by omega, by omega⟩]; exact ⟨_, rfl, rfl, H⟩) | (rw [he, if_neg (by omega), if_neg (by omega), if_neg (by omega)]; refine ⟨_, rfl, ?_, H⟩; have e : bb.toNat % 128 = bb.toNat := (by omega); have e2 : ((at_ : Int) + i + 1) = ((at_ + (i + 1) : Nat) : Int) := (by omega); rw [e, e2]; try rfl)
        · skip
          refine J.skip ?_
          refine J.seq ?_
          refine J.region ?_
          refine JL.go trivial (RX.movev (v := Value.int _ _) rfl) ?_
          refine JL.go trivial (RX.movev (v := Value.int _ _) rfl) ?_
          refine JL.go trivial (RX.rem rfl rfl (by decide) (Int.tmod_eq_emod_of_nonneg (by omega))) ?_
          refine JL.go trivial (RX.conv rfl (by rw [ki5]; rfl) ki27 (w_u64 rfl (by omega) (by omega))) ?_
          refine JL.go trivial (RX.movev (v := Value.int _ _) rfl) ?_
          refine JL.go trivial (RX.mul rfl rfl (w_i64 rfl (by omega) (by omega))) ?_
          refine JL.go trivial (RX.shl rfl rfl (by omega) (shl64 (y := bb.toNat % 128) hi (pow7 hi (by omega) (by omega)))) ?_
          refine JL.go trivial (RX.add rfl rfl (w_u64 (r := ((x + (bb.toNat % 128) * 2 ^ (7 * i) : Nat) : Int)) (by omega) (by omega) (by have := pow7z (y := bb.toNat % 128) hi hx (by omega) (by omega); omega))) ?_
          refine JL.go trivial (RX.assignv (v := Value.int _ _) rfl) ?_
          refine JL.nil ?_
          refine J.seq ?_
          refine J.region ?_
          refine JL.go trivial (RX.movev (v := Value.int _ _) rfl) ?_
          refine JL.go trivial (RX.lt rfl rfl) ?_
          refine JL.nil ?_
          refine J.cond_d rfl (fun h128 => ?_) (fun h128 => ?_)
          · skip
            refine J.seq ?_
            refine J.region ?_
            refine JL.go trivial (RX.movev (v := Value.int _ _) rfl) ?_
            refine JL.go trivial (RX.movev (v := Value.int _ _) rfl) ?_
            refine JL.go trivial (RX.movev (v := Value.int _ _) rfl) ?_
            refine JL.go trivial (RX.add rfl rfl (w_i64 rfl (by omega) (by omega))) ?_
            refine JL.go trivial (RX.add rfl rfl (w_i64 rfl (by omega) (by omega))) ?_
            refine JL.go trivial (RX.assignv (v := Value.int _ _) rfl) ?_
            refine JL.go trivial (RX.assignv (v := Value.int _ _) rfl) ?_
            refine JL.go trivial (RX.assign) ?_
            refine JL.nil ?_
            refine J.ret3 (v := Value.int _ _) (x := Value.int _ _) (y := Value.int _ _) Tryd.func92 rfl rfl rfl rfl ?_
            first | (rw [he, if_pos ⟨by omega, by omega⟩]; exact ⟨_, rfl, rfl, H⟩) | (rw [he, if_neg (by omega), if_neg (by omega), if_pos ⟨by omega, by omega⟩]; exact ⟨_, rfl, rfl, H⟩) | (rw [he, if_neg (by omega), if_neg (by omega), if_neg (by omega)]; refine ⟨_, rfl, ?_, H⟩; have e : bb.toNat % 128 = bb.toNat := (by omega); have e2 : ((at_ : Int) + i + 1) = ((at_ + (i + 1) : Nat) : Int) := (by omega); rw [e, e2]; try rfl)
          · skip
            refine J.skip ?_
            refine J.inBlock ?_
            refine J.region ?_
            refine JL.go trivial (RX.movev (v := Value.int _ _) rfl) ?_
            refine JL.go trivial (RX.add rfl rfl (w_i64 rfl (by omega) (by omega))) ?_
            refine JL.go trivial (RX.assignv (v := Value.int _ _) rfl) ?_
            refine JL.nil ?_
            have h8 : i ≤ 8 := by omega
            have hy := pow7y (y := bb.toNat % 128) h8 (by omega)
            rw [if_neg (by omega), if_pos (by omega)] at he
            exact IH (i + 1, x + (bb.toNat % 128) * 2 ^ (7 * i)) _ _ (by simp only; omega) ⟨rfl, rfl, trivial⟩ ⟨rfl, rfl, trivial⟩ ⟨by omega, by simp only; omega, by simpa [Nat.add_assoc] using he, by simp only; omega, H⟩
      · skip
        first | have h8p := of_decide_eq_false h8 | skip
        refine JL.no ⟨_, rfl, gno h8⟩ ?_
        refine JL.no ⟨_, rfl, gno h8⟩ ?_
        refine JL.go ⟨_, rfl, rfl⟩ (RX.pick_f rfl h8) ?_
        refine JL.go trivial (RX.pick_f rfl rfl) ?_
        refine JL.nil ?_
        refine J.cond_f rfl rfl ?_
        refine J.skip ?_
        refine J.seq ?_
        refine J.region ?_
        refine JL.go trivial (RX.movev (v := Value.int _ _) rfl) ?_
        refine JL.go trivial (RX.movev (v := Value.int _ _) rfl) ?_
        refine JL.go trivial (RX.rem rfl rfl (by decide) (Int.tmod_eq_emod_of_nonneg (by omega))) ?_
        refine JL.go trivial (RX.conv rfl (by rw [ki5]; rfl) ki27 (w_u64 rfl (by omega) (by omega))) ?_
        refine JL.go trivial (RX.movev (v := Value.int _ _) rfl) ?_
        refine JL.go trivial (RX.mul rfl rfl (w_i64 rfl (by omega) (by omega))) ?_
        refine JL.go trivial (RX.shl rfl rfl (by omega) (shl64 (y := bb.toNat % 128) hi (pow7 hi (by omega) (by omega)))) ?_
        refine JL.go trivial (RX.add rfl rfl (w_u64 (r := ((x + (bb.toNat % 128) * 2 ^ (7 * i) : Nat) : Int)) (by omega) (by omega) (by have := pow7z (y := bb.toNat % 128) hi hx (by omega) (by omega); omega))) ?_
        refine JL.go trivial (RX.assignv (v := Value.int _ _) rfl) ?_
        refine JL.nil ?_
        refine J.seq ?_
        refine J.region ?_
        refine JL.go trivial (RX.movev (v := Value.int _ _) rfl) ?_
        refine JL.go trivial (RX.lt rfl rfl) ?_
        refine JL.nil ?_
        refine J.cond_d rfl (fun h128 => ?_) (fun h128 => ?_)
        · skip
          refine J.seq ?_
          refine J.region ?_
          refine JL.go trivial (RX.movev (v := Value.int _ _) rfl) ?_
          refine JL.go trivial (RX.movev (v := Value.int _ _) rfl) ?_
          refine JL.go trivial (RX.movev (v := Value.int _ _) rfl) ?_
          refine JL.go trivial (RX.add rfl rfl (w_i64 rfl (by omega) (by omega))) ?_
          refine JL.go trivial (RX.add rfl rfl (w_i64 rfl (by omega) (by omega))) ?_
          refine JL.go trivial (RX.assignv (v := Value.int _ _) rfl) ?_
          refine JL.go trivial (RX.assignv (v := Value.int _ _) rfl) ?_
          refine JL.go trivial (RX.assign) ?_
          refine JL.nil ?_
          refine J.ret3 (v := Value.int _ _) (x := Value.int _ _) (y := Value.int _ _) Tryd.func92 rfl rfl rfl rfl ?_
          first | (rw [he, if_pos ⟨by omega, by omega⟩]; exact ⟨_, rfl, rfl, H⟩) | (rw [he, if_neg (by omega), if_neg (by omega), if_pos ⟨by omega, by omega⟩]; exact ⟨_, rfl, rfl, H⟩) | (rw [he, if_neg (by omega), if_neg (by omega), if_neg (by omega)]; refine ⟨_, rfl, ?_, H⟩; have e : bb.toNat % 128 = bb.toNat := (by omega); have e2 : ((at_ : Int) + i + 1) = ((at_ + (i + 1) : Nat) : Int) := (by omega); rw [e, e2]; try rfl)
        · skip
          refine J.skip ?_
          refine J.inBlock ?_
          refine J.region ?_
          refine JL.go trivial (RX.movev (v := Value.int _ _) rfl) ?_
          refine JL.go trivial (RX.add rfl rfl (w_i64 rfl (by omega) (by omega))) ?_
          refine JL.go trivial (RX.assignv (v := Value.int _ _) rfl) ?_
          refine JL.nil ?_
          have h8 : i ≤ 8 := by omega
          have hy := pow7y (y := bb.toNat % 128) h8 (by omega)
          rw [if_neg (by omega), if_pos (by omega)] at he
          exact IH (i + 1, x + (bb.toNat % 128) * 2 ^ (7 * i)) _ _ (by simp only; omega) ⟨rfl, rfl, trivial⟩ ⟨rfl, rfl, trivial⟩ ⟨by omega, by simp only; omega, by simpa [Nat.add_assoc] using he, by simp only; omega, H⟩
def rdC : Rd → Nat
  | .ok _ _ => 0
  | .err e => e
theorem rdAt_upto {at_ : Nat} {most : Int} {r : Rd} : rdAt at_ (r.upto most) = (match r.upto most with | .ok _ k => at_ + k | .err _ => at_) := by cases r.upto most <;> rfl
theorem ref_upto_ok {w0 w : World} {F : List Seg} {most : Int} {b T c at_ : Nat} {p : Option Addr} {bs : List UInt8} (H : Hp w0 w ([(b, cel [.slice p bs.length c, .int .i64 (at_ : Nat)] T)] :: F)) (hs : SlAt F p (bv bs)) (hat : at_ ≤ bs.length) (hl : bs.length ≤ 1099511627776) (hm0 : -9223372036854775808 ≤ most) (hm1 : most ≤ 9223372036854775807) {x k : Nat} (hr : rdu 0 0 (bs.drop at_) = .ok x k) : Ret Tryd.prog 95 [.pointer (some ⟨b, 0, none⟩), .int .i64 (at_ : Nat), .int .i64 most] w fun v w' =>
      v = .tuple #[.int .i64 (rdN ((rdu 0 0 (bs.drop at_)).upto most) : Nat), .int .i64 (rdAt at_ ((rdu 0 0 (bs.drop at_)).upto most) : Nat), .int .i64 (rdC ((rdu 0 0 (bs.drop at_)).upto most) : Nat)] ∧ Hp w0 w' ([(b, cel [.slice p bs.length c, .int .i64 (at_ : Nat)] T)] :: F) := by
  refine Calls.of_J (n := 41) Tryd.func95 rfl rfl rfl ?_
  refine J.seq ?_
  refine J.region ?_
  refine JL.go trivial (RX.assign) ?_
  refine JL.go trivial (RX.assign) ?_
  refine JL.go trivial (RX.assign) ?_
  refine JL.nil ?_
  refine J.seq ?_
  refine J.region ?_
  refine JL.go trivial (RX.movev (v := Value.pointer _) rfl) ?_
  refine JL.go trivial (RX.nilCheck rfl) ?_
  refine JL.go trivial (RX.fieldAddr rfl fo49_0 rfl) ?_
  refine JL.go trivial (by first | exact RX.load H rfl (i := 0) rfl rfl one26 | exact RX.load H rfl (i := 1) rfl rfl one26 | exact RX.load H rfl (i := 2) rfl rfl one26) ?_
  refine JL.go trivial (RX.movev (v := Value.int _ _) rfl) ?_
  refine JL.does trivial (EX.call rfl cl92 rfl ((ref_number H hs.cons hat hl))) ?_
  rintro _ w ⟨rfl, H⟩
  rw [hr]
  have hlt := rdu_lt (bs.drop at_) 0 0 _ _ (by omega) (by decide) hr
  refine JL.go trivial (RX.movev (v := Value.tuple _) rfl) ?_
  refine JL.go trivial (RX.extract rfl rfl) ?_
  refine JL.go trivial (RX.extract rfl rfl) ?_
  refine JL.go trivial (RX.extract rfl rfl) ?_
  refine JL.go trivial (RX.assignv (v := Value.int _ _) rfl) ?_
  refine JL.go trivial (RX.assignv (v := Value.int _ _) rfl) ?_
  refine JL.go trivial (RX.assignv (v := Value.int _ _) rfl) ?_
  refine JL.nil ?_
  refine J.seq ?_
  refine J.seq ?_
  refine J.region ?_
  refine JL.go trivial (RX.movev (v := Value.int _ _) rfl) ?_
  refine JL.go trivial (RX.eq rfl rfl) ?_
  refine JL.go trivial (RX.movev (v := Value.bool _) rfl) ?_
  refine JL.go ⟨_, rfl, (decide_eq_true rfl)⟩ (RX.movev (v := Value.int _ _) rfl) ?_
  refine JL.go ⟨_, rfl, (decide_eq_true rfl)⟩ (RX.lt rfl rfl) ?_
  refine JL.go ⟨_, rfl, (decide_eq_true rfl)⟩ (RX.movev (v := Value.bool _) rfl) ?_
  refine JL.splitS 27 rfl (fun h1 => ?_) (fun h1 => ?_)
  · skip
    first | have h1p := of_decide_eq_true h1 | skip
    refine JL.no ⟨_, rfl, gno h1⟩ ?_
    refine JL.no ⟨_, rfl, gno h1⟩ ?_
    refine JL.no ⟨_, rfl, gno h1⟩ ?_
    refine JL.no ⟨_, rfl, gno h1⟩ ?_
    refine JL.go ⟨_, rfl, (decide_eq_true rfl)⟩ (RX.pick_t rfl h1) ?_
    refine JL.go trivial (RX.pick_t rfl (decide_eq_true rfl)) ?_
    refine JL.nil ?_
    refine J.cond_t rfl rfl ?_
    refine J.region ?_
    refine JL.go trivial (RX.assign) ?_
    refine JL.nil ?_
    refine J.seq ?_
    refine J.seq ?_
    refine J.region ?_
    refine JL.go trivial (RX.movev (v := Value.int _ _) rfl) ?_
    refine JL.go trivial (RX.ne rfl rfl) ?_
    refine JL.nil ?_
    refine J.cond_t rfl (decide_eq_true (by decide)) ?_
    refine J.seq ?_
    refine J.region ?_
    refine JL.go trivial (RX.movev (v := Value.int _ _) rfl) ?_
    refine JL.go trivial (RX.movev (v := Value.int _ _) rfl) ?_
    refine JL.go trivial (RX.assign) ?_
    refine JL.go trivial (RX.assignv (v := Value.int _ _) rfl) ?_
    refine JL.go trivial (RX.assignv (v := Value.int _ _) rfl) ?_
    refine JL.nil ?_
    refine J.ret3 (v := Value.int _ _) (x := Value.int _ _) (y := Value.int _ _) Tryd.func95 rfl rfl rfl rfl ?_
    first | (rw [show (Rd.ok x k).upto most = .err 3 from if_pos (by omega)]; exact ⟨_, rfl, rfl, H⟩) | (rw [show (Rd.ok x k).upto most = .ok x k from if_neg (by omega)]; exact ⟨_, rfl, rfl, H⟩)
  · skip
    first | have h1p := of_decide_eq_false h1 | skip
    refine JL.go ⟨_, rfl, h1⟩ (RX.movev (v := Value.int _ _) rfl) ?_
    refine JL.go ⟨_, rfl, h1⟩ (RX.movev (v := Value.int _ _) rfl) ?_
    refine JL.go ⟨_, rfl, h1⟩ (RX.conv rfl (by rw [ki3]; rfl) ki27 (w_u64 rfl (by omega) (by omega))) ?_
    refine JL.go ⟨_, rfl, h1⟩ (RX.gt rfl rfl) ?_
    refine JL.go ⟨_, rfl, (decide_eq_true rfl)⟩ (RX.pick_f rfl h1) ?_
    refine JL.go trivial (RX.pick_t rfl (decide_eq_true rfl)) ?_
    refine JL.nil ?_
    refine J.cond_d rfl (fun hc => ?_) (fun hc => ?_)
    · skip
      refine J.region ?_
      refine JL.go trivial (RX.assign) ?_
      refine JL.nil ?_
      refine J.seq ?_
      refine J.seq ?_
      refine J.region ?_
      refine JL.go trivial (RX.movev (v := Value.int _ _) rfl) ?_
      refine JL.go trivial (RX.ne rfl rfl) ?_
      refine JL.nil ?_
      refine J.cond_t rfl (decide_eq_true (by decide)) ?_
      refine J.seq ?_
      refine J.region ?_
      refine JL.go trivial (RX.movev (v := Value.int _ _) rfl) ?_
      refine JL.go trivial (RX.movev (v := Value.int _ _) rfl) ?_
      refine JL.go trivial (RX.assign) ?_
      refine JL.go trivial (RX.assignv (v := Value.int _ _) rfl) ?_
      refine JL.go trivial (RX.assignv (v := Value.int _ _) rfl) ?_
      refine JL.nil ?_
      refine J.ret3 (v := Value.int _ _) (x := Value.int _ _) (y := Value.int _ _) Tryd.func95 rfl rfl rfl rfl ?_
      first | (rw [show (Rd.ok x k).upto most = .err 3 from if_pos (by omega)]; exact ⟨_, rfl, rfl, H⟩) | (rw [show (Rd.ok x k).upto most = .ok x k from if_neg (by omega)]; exact ⟨_, rfl, rfl, H⟩)
    · skip
      refine J.skip ?_
      refine J.seq ?_
      refine J.seq ?_
      refine J.region ?_
      refine JL.go trivial (RX.movev (v := Value.int _ _) rfl) ?_
      refine JL.go trivial (RX.ne rfl rfl) ?_
      refine JL.nil ?_
      refine J.cond_f rfl (decide_eq_false (by decide)) ?_
      refine J.skip ?_
      refine J.seq ?_
      refine J.region ?_
      refine JL.go trivial (RX.movev (v := Value.int _ _) rfl) ?_
      refine JL.go trivial (RX.conv rfl (by rw [ki27]; rfl) ki3 (w_i64 rfl (by omega) (by omega))) ?_
      refine JL.go trivial (RX.movev (v := Value.int _ _) rfl) ?_
      refine JL.go trivial (RX.assignv (v := Value.int _ _) rfl) ?_
      refine JL.go trivial (RX.assignv (v := Value.int _ _) rfl) ?_
      refine JL.go trivial (RX.assign) ?_
      refine JL.nil ?_
      refine J.ret3 (v := Value.int _ _) (x := Value.int _ _) (y := Value.int _ _) Tryd.func95 rfl rfl rfl rfl ?_
      first | (rw [show (Rd.ok x k).upto most = .err 3 from if_pos (by omega)]; exact ⟨_, rfl, rfl, H⟩) | (rw [show (Rd.ok x k).upto most = .ok x k from if_neg (by omega)]; exact ⟨_, rfl, rfl, H⟩)
theorem ref_upto_err {w0 w : World} {F : List Seg} {most : Int} {b T c at_ : Nat} {p : Option Addr} {bs : List UInt8} (H : Hp w0 w ([(b, cel [.slice p bs.length c, .int .i64 (at_ : Nat)] T)] :: F)) (hs : SlAt F p (bv bs)) (hat : at_ ≤ bs.length) (hl : bs.length ≤ 1099511627776) (hm0 : -9223372036854775808 ≤ most) (hm1 : most ≤ 9223372036854775807) {e : Nat} (hr : rdu 0 0 (bs.drop at_) = .err e) (he0 : 0 < e) : Ret Tryd.prog 95 [.pointer (some ⟨b, 0, none⟩), .int .i64 (at_ : Nat), .int .i64 most] w fun v w' =>
      v = .tuple #[.int .i64 (rdN ((rdu 0 0 (bs.drop at_)).upto most) : Nat), .int .i64 (rdAt at_ ((rdu 0 0 (bs.drop at_)).upto most) : Nat), .int .i64 (rdC ((rdu 0 0 (bs.drop at_)).upto most) : Nat)] ∧ Hp w0 w' ([(b, cel [.slice p bs.length c, .int .i64 (at_ : Nat)] T)] :: F) := by
  refine Calls.of_J (n := 41) Tryd.func95 rfl rfl rfl ?_
  refine J.seq ?_
  refine J.region ?_
  refine JL.go trivial (RX.assign) ?_
  refine JL.go trivial (RX.assign) ?_
  refine JL.go trivial (RX.assign) ?_
  refine JL.nil ?_
  refine J.seq ?_
  refine J.region ?_
  refine JL.go trivial (RX.movev (v := Value.pointer _) rfl) ?_
  refine JL.go trivial (RX.nilCheck rfl) ?_
  refine JL.go trivial (RX.fieldAddr rfl fo49_0 rfl) ?_
  refine JL.go trivial (by first | exact RX.load H rfl (i := 0) rfl rfl one26 | exact RX.load H rfl (i := 1) rfl rfl one26 | exact RX.load H rfl (i := 2) rfl rfl one26) ?_
  refine JL.go trivial (RX.movev (v := Value.int _ _) rfl) ?_
  refine JL.does trivial (EX.call rfl cl92 rfl ((ref_number H hs.cons hat hl))) ?_
  rintro _ w ⟨rfl, H⟩
  rw [hr]
  refine JL.go trivial (RX.movev (v := Value.tuple _) rfl) ?_
  refine JL.go trivial (RX.extract rfl rfl) ?_
  refine JL.go trivial (RX.extract rfl rfl) ?_
  refine JL.go trivial (RX.extract rfl rfl) ?_
  refine JL.go trivial (RX.assignv (v := Value.int _ _) rfl) ?_
  refine JL.go trivial (RX.assignv (v := Value.int _ _) rfl) ?_
  refine JL.go trivial (RX.assignv (v := Value.int _ _) rfl) ?_
  refine JL.nil ?_
  refine J.seq ?_
  refine J.seq ?_
  refine J.region ?_
  refine JL.go trivial (RX.movev (v := Value.int _ _) rfl) ?_
  refine JL.go trivial (RX.eq rfl rfl) ?_
  refine JL.go trivial (RX.movev (v := Value.bool _) rfl) ?_
  refine JL.no ⟨_, rfl, gno (decide_eq_false (by omega))⟩ ?_
  refine JL.no ⟨_, rfl, gno (decide_eq_false (by omega))⟩ ?_
  refine JL.no ⟨_, rfl, gno (decide_eq_false (by omega))⟩ ?_
  refine JL.no ⟨_, rfl, nofun⟩ ?_
  refine JL.no ⟨_, rfl, nofun⟩ ?_
  refine JL.no ⟨_, rfl, nofun⟩ ?_
  refine JL.no ⟨_, rfl, nofun⟩ ?_
  refine JL.no ⟨_, rfl, gno (decide_eq_false (by omega))⟩ ?_
  refine JL.go trivial (RX.pick_f rfl (decide_eq_false (by omega))) ?_
  refine JL.nil ?_
  refine J.cond_f rfl rfl ?_
  refine J.skip ?_
  refine J.seq ?_
  refine J.seq ?_
  refine J.region ?_
  refine JL.go trivial (RX.movev (v := Value.int _ _) rfl) ?_
  refine JL.go trivial (RX.ne rfl rfl) ?_
  refine JL.nil ?_
  refine J.cond_t rfl (decide_eq_true (by omega)) ?_
  refine J.seq ?_
  refine J.region ?_
  refine JL.go trivial (RX.movev (v := Value.int _ _) rfl) ?_
  refine JL.go trivial (RX.movev (v := Value.int _ _) rfl) ?_
  refine JL.go trivial (RX.assign) ?_
  refine JL.go trivial (RX.assignv (v := Value.int _ _) rfl) ?_
  refine JL.go trivial (RX.assignv (v := Value.int _ _) rfl) ?_
  refine JL.nil ?_
  refine J.ret3 (v := Value.int _ _) (x := Value.int _ _) (y := Value.int _ _) Tryd.func95 rfl rfl rfl rfl ?_
  exact ⟨_, rfl, rfl, H⟩
theorem rdu_err : ∀ (l : List UInt8) (i x e : Nat), rdu i x l = .err e → e = 1 ∨ e = 2 := by
  intro l
  induction l with
  | nil => intro i x e h; cases h; simp
  | cons b l ih =>
    intro i x e h
    rw [rdu_cons rfl] at h
    split at h
    · cases h; simp
    · split at h
      · exact ih _ _ _ h
      · split at h <;> cases h
        simp
theorem ref_upto {w0 w : World} {F : List Seg} {most : Int} {b T c at_ : Nat} {p : Option Addr} {bs : List UInt8} (H : Hp w0 w ([(b, cel [.slice p bs.length c, .int .i64 (at_ : Nat)] T)] :: F)) (hs : SlAt F p (bv bs)) (hat : at_ ≤ bs.length) (hl : bs.length ≤ 1099511627776) (hm0 : -9223372036854775808 ≤ most) (hm1 : most ≤ 9223372036854775807) : Ret Tryd.prog 95 [.pointer (some ⟨b, 0, none⟩), .int .i64 (at_ : Nat), .int .i64 most] w fun v w' =>
      v = .tuple #[.int .i64 (rdN ((rdu 0 0 (bs.drop at_)).upto most) : Nat), .int .i64 (rdAt at_ ((rdu 0 0 (bs.drop at_)).upto most) : Nat), .int .i64 (rdC ((rdu 0 0 (bs.drop at_)).upto most) : Nat)] ∧ Hp w0 w' ([(b, cel [.slice p bs.length c, .int .i64 (at_ : Nat)] T)] :: F) := by
  rcases rd_cases (rdu 0 0 (bs.drop at_)) with ⟨x, k, hr⟩ | ⟨e, hr⟩
  · exact ref_upto_ok H hs hat hl hm0 hm1 hr
  · exact ref_upto_err H hs hat hl hm0 hm1 hr (by rcases rdu_err _ _ _ _ hr with h | h <;> omega)
theorem ref_Upto {w0 w : World} {F : List Seg} {most : Int} {b T c at_ : Nat} {p : Option Addr} {bs : List UInt8} (H : Hp w0 w ([(b, cel [.slice p bs.length c, .int .i64 (at_ : Nat)] T)] :: F)) (hs : SlAt F p (bv bs)) (hat : at_ ≤ bs.length) (hl : bs.length ≤ 1099511627776) (hm0 : -9223372036854775808 ≤ most) (hm1 : most ≤ 9223372036854775807) : Ret Tryd.prog 58 [.pointer (some ⟨b, 0, none⟩), .int .i64 most] w fun v w' =>
      v = .tuple #[.int .i64 (rdN ((rdu 0 0 (bs.drop at_)).upto most) : Nat), .int .i64 (rdC ((rdu 0 0 (bs.drop at_)).upto most) : Nat)] ∧ Hp w0 w' ([(b, cel [.slice p bs.length c, .int .i64 (rdAt at_ ((rdu 0 0 (bs.drop at_)).upto most) : Nat)] T)] :: F) := by
  refine Calls.of_J (n := 26) Tryd.func58 rfl rfl rfl ?_
  refine J.seq ?_
  refine J.region ?_
  refine JL.go trivial (RX.assign) ?_
  refine JL.go trivial (RX.assign) ?_
  refine JL.nil ?_
  refine J.seq ?_
  refine J.region ?_
  refine JL.go trivial (RX.movev (v := Value.pointer _) rfl) ?_
  refine JL.go trivial (RX.movev (v := Value.pointer _) rfl) ?_
  refine JL.go trivial (RX.nilCheck rfl) ?_
  refine JL.go trivial (RX.fieldAddr rfl fo49_1 rfl) ?_
  refine JL.go trivial (by first | exact RX.load H rfl (i := 0) rfl rfl one3 | exact RX.load H rfl (i := 1) rfl rfl one3) ?_
  refine JL.go trivial (RX.movev (v := Value.int _ _) rfl) ?_
  refine JL.does trivial (EX.call rfl cl95 rfl ((ref_upto H hs hat hl hm0 hm1))) ?_
  rintro _ w ⟨rfl, H⟩
  refine JL.go trivial (RX.movev (v := Value.tuple _) rfl) ?_
  refine JL.go trivial (RX.extract rfl rfl) ?_
  refine JL.go trivial (RX.extract rfl rfl) ?_
  refine JL.go trivial (RX.extract rfl rfl) ?_
  refine JL.go trivial (RX.assignv (v := Value.int _ _) rfl) ?_
  refine JL.go trivial (RX.assignv (v := Value.int _ _) rfl) ?_
  refine JL.go trivial (RX.assignv (v := Value.int _ _) rfl) ?_
  refine JL.nil ?_
  refine J.seq ?_
  refine J.region ?_
  refine JL.go trivial (RX.movev (v := Value.pointer _) rfl) ?_
  refine JL.go trivial (RX.movev (v := Value.int _ _) rfl) ?_
  refine JL.go trivial (RX.nilCheck rfl) ?_
  refine JL.go trivial (RX.fieldAddr rfl fo49_1 rfl) ?_
  refine JL.does trivial (by first | exact EX.store (v := Value.int _ _) H rfl rfl (i := 0) rfl rfl (by simp) sz3 rfl rfl | exact EX.store (v := Value.int _ _) H rfl rfl (i := 1) rfl rfl (by simp) sz3 rfl rfl) ?_
  rintro _ w H
  refine JL.nil ?_
  refine J.seq ?_
  refine J.region ?_
  refine JL.go trivial (RX.movev (v := Value.int _ _) rfl) ?_
  refine JL.go trivial (RX.movev (v := Value.int _ _) rfl) ?_
  refine JL.go trivial (RX.assignv (v := Value.int _ _) rfl) ?_
  refine JL.go trivial (RX.assignv (v := Value.int _ _) rfl) ?_
  refine JL.nil ?_
  refine J.ret2 (v := Value.int _ _) (x := Value.int _ _) Tryd.func58 rfl rfl rfl ?_
  exact ⟨_, rfl, rfl, H⟩
theorem ref_Done {w0 w : World} {F : List Seg} {b T c at_ : Nat} {p : Option Addr} {bs : List UInt8} (H : Hp w0 w ([(b, cel [.slice p bs.length c, .int .i64 (at_ : Nat)] T)] :: F)) (hs : SlAt F p (bv bs)) (hat : at_ ≤ bs.length) (hl : bs.length ≤ 1099511627776) : Ret Tryd.prog 23 [.pointer (some ⟨b, 0, none⟩)] w fun v w' => v = .int .i64 (if at_ < bs.length then 4 else 0) ∧ Hp w0 w' ([(b, cel [.slice p bs.length c, .int .i64 (at_ : Nat)] T)] :: F) := by
  refine Calls.of_J (n := 13) Tryd.func23 rfl rfl rfl ?_
  refine J.seq ?_
  refine J.region ?_
  refine JL.go trivial (RX.assign) ?_
  refine JL.nil ?_
  refine J.seq ?_
  refine J.seq ?_
  refine J.quietH H hmix (by kernel_rfl) ?_
  refine JQ.go trivial (fun w H => RX.movev (v := Value.pointer _) rfl) ?_
  refine JQ.go trivial (fun w H => RX.nilCheck rfl) ?_
  refine JQ.go trivial (fun w H => RX.fieldAddr rfl fo49_1 rfl) ?_
  refine JQ.go trivial (fun w H => by first | exact RX.load H rfl (i := 0) rfl rfl one3 | exact RX.load H rfl (i := 1) rfl rfl one3) ?_
  refine JQ.go trivial (fun w H => RX.movev (v := Value.pointer _) rfl) ?_
  refine JQ.go trivial (fun w H => RX.nilCheck rfl) ?_
  refine JQ.go trivial (fun w H => RX.fieldAddr rfl fo49_0 rfl) ?_
  refine JQ.go trivial (fun w H => by first | exact RX.load H rfl (i := 0) rfl rfl one26 | exact RX.load H rfl (i := 1) rfl rfl one26) ?_
  refine JQ.go trivial (fun w H => RX.len_slice rfl (by rw [sl26]; rfl) rfl) ?_
  refine JQ.go trivial (fun w H => RX.lt rfl rfl) ?_
  refine JQ.nil fun w H => ?_
  refine J.cond_d rfl (fun hc => ?_) (fun hc => ?_)
  · skip
    refine J.seq ?_
    refine J.region ?_
    refine JL.go trivial (RX.assign) ?_
    refine JL.nil ?_
    refine J.ret1 (v := Value.int _ _) Tryd.func23 rfl rfl ?_
    rw [if_pos (by omega)]; exact ⟨_, rfl, rfl, H⟩
  · skip
    refine J.skip ?_
    refine J.seq ?_
    refine J.region ?_
    refine JL.go trivial (RX.assign) ?_
    refine JL.nil ?_
    refine J.ret1 (v := Value.int _ _) Tryd.func23 rfl rfl ?_
    rw [if_neg (by omega)]; exact ⟨_, rfl, rfl, H⟩
theorem ref_Uint {w0 w : World} {F : List Seg} {x : Nat} (H : Hp w0 w F) (hx : x ≤ 18446744073709551615) : Ret Tryd.prog 41 [.int .u64 x] w fun v w' =>
      ∃ p c s, v = .slice p (varint x).length c ∧ OwnSl 5 1 p (varint x).length c (bv (varint x)) s ∧ Hp w0 w' (s :: F) := by
  refine Calls.of_J (n := 21) Tryd.func41 rfl rfl rfl ?_
  refine J.seq ?_
  refine J.region ?_
  refine JL.go trivial (RX.assign) ?_
  refine JL.nil ?_
  refine J.seq ?_
  refine J.region ?_
  refine JL.does trivial (EX.buildSlice0 H elB) ?_
  rintro _ w ⟨b0, rfl, H⟩
  refine JL.go trivial (RX.assignv (v := Value.slice _ _ _) rfl) ?_
  refine JL.nil ?_
  refine J.seq ?_
  refine J.block ?_
  refine J.loop (ι := Nat × List UInt8 × Option Addr × Nat × Seg) (S := fun q => [(0, .int .u64 (q.1 : Nat)), (3, .slice q.2.2.1 q.2.1.length q.2.2.2.1)]) (Φ := fun q w => q.2.1 ++ varint q.1 = varint x ∧ q.1 ≤ 18446744073709551615 ∧ OwnSl 5 1 q.2.2.1 q.2.1.length q.2.2.2.1 (bv q.2.1) q.2.2.2.2 ∧ Hp w0 w (q.2.2.2.2 :: F)) (μ := fun q => q.1) (C := []) (x, [], some ⟨b0, 0, none⟩, 0, [(b0, cel [] 5)]) trivial ⟨rfl, rfl, trivial⟩ ?_ ?_
  · exact ⟨rfl, hx, OwnSl.empty, H⟩
  clear H
  rintro ⟨y, ys, p, c, s⟩ ρ w ⟨he, hy, ho, H⟩ IH
  simp only at he hy ho H
  have hlen := congrArg List.length he
  simp only [List.length_append] at hlen
  have h10 := varint_len10 hx
  have h11 := varint_len10 hy
  dsimp only
  refine J.seq ?_
  refine J.seq ?_
  refine J.region ?_
  refine JL.go trivial (RX.movev (v := Value.int _ _) rfl) ?_
  refine JL.go trivial (RX.ge rfl rfl) ?_
  refine JL.nil ?_
  refine J.cond_d rfl (fun hc => ?_) (fun hc => ?_)
  · skip
    refine J.skip ?_
    refine J.block ?_
    refine J.seq ?_
    refine J.region ?_
    refine JL.go trivial (RX.movev (v := Value.slice _ _ _) rfl) ?_
    refine JL.go trivial (RX.movev (v := Value.int _ _) rfl) ?_
    refine JL.go trivial (RX.rem rfl rfl (by decide) (Int.tmod_eq_emod_of_nonneg (by omega))) ?_
    refine JL.go trivial (RX.add rfl rfl (w_u64 rfl (by omega) (by omega))) ?_
    refine JL.go trivial (RX.conv rfl (by rw [ki27]; rfl) ki5 (w_u8 (r := ((y % 128 + 128 : Nat) : Int)) (by omega) (by omega) (by omega))) ?_
    refine JL.does trivial (EX.buildSlice1 H elB rfl rfl) ?_
    rintro _ w ⟨b2, rfl, H⟩
    refine JL.does trivial (EX.append (ys := [.int .u8 ((y % 128 + 128 : Nat) : Int)]) (L' := fun s' => [[(b2, cel [.int .u8 ((y % 128 + 128 : Nat) : Int)] 5)], s'] ++ F) H elB rfl rfl (i := 1) rfl ho (SlAt.here rfl) rfl (by simp [isCell]) (by decide) (by omega) (by omega) (fun _ => rfl)) ?_
    rintro _ w ⟨p2, c2, s2, rfl, ho2, H⟩
    refine JL.go trivial (RX.assignv (v := Value.slice _ _ _) rfl) ?_
    refine JL.nil ?_
    refine J.region ?_
    refine JL.go trivial (RX.movev (v := Value.int _ _) rfl) ?_
    refine JL.go trivial (RX.quo rfl rfl (by decide) (r := ((y / 128 : Nat) : Int)) (by rw [Int.tdiv_eq_ediv_of_nonneg (by omega)]; exact w_u64 (r := ((y / 128 : Nat) : Int)) (by omega) (by omega) (by omega))) ?_
    refine JL.go trivial (RX.assignv (v := Value.int _ _) rfl) ?_
    refine JL.nil ?_
    refine J.inBlock ?_
    have hyg : 128 ≤ y := by omega
    exact IH (y / 128, ys ++ [(y % 128 + 128).toUInt8], p2, c2, s2) _ _ (by simp only; omega) trivial ⟨rfl, (show Value.slice p2 (ys.length + 1) c2 = Value.slice p2 (ys ++ [(y % 128 + 128).toUInt8]).length c2 by simp), trivial⟩ ⟨by rw [← he, varint_ge hyg]; simp, by simp only; omega, by show OwnSl 5 1 p2 (ys ++ [_]).length c2 (bv (ys ++ [_])) s2; rw [bv_app, bv1 (x := y % 128 + 128) (by omega)]; simpa using ho2, by simpa using H.drop⟩
  · skip
    refine J.exit rfl ?_
    refine J.seq ?_
    refine J.region ?_
    have hyl : y < 128 := by omega
    rw [varint_lt hyl] at he
    refine JL.go trivial (RX.movev (v := Value.slice _ _ _) rfl) ?_
    refine JL.go trivial (RX.movev (v := Value.int _ _) rfl) ?_
    refine JL.go trivial (RX.conv rfl (by rw [ki27]; rfl) ki5 (w_u8 rfl (by omega) (by omega))) ?_
    refine JL.does trivial (EX.buildSlice1 H elB rfl rfl) ?_
    rintro _ w ⟨b2, rfl, H⟩
    refine JL.does trivial (EX.append (ys := [.int .u8 (y : Int)]) (L' := fun s' => [[(b2, cel [.int .u8 (y : Int)] 5)], s'] ++ F) H elB rfl rfl (i := 1) rfl ho (SlAt.here rfl) rfl (by simp [isCell]) (by decide) (by omega) (by omega) (fun _ => rfl)) ?_
    rintro _ w ⟨p2, c2, s2, rfl, ho2, H⟩
    refine JL.go trivial (RX.assignv (v := Value.slice _ _ _) rfl) ?_
    refine JL.nil ?_
    refine J.ret1 (v := Value.slice _ _ _) Tryd.func41 rfl rfl ?_
    exact ⟨_, rfl, p2, c2, s2, by rw [← he]; try simp, by rw [← he, bv_app]; simpa [bv1 (show y < 256 by omega)] using ho2, by simpa using H.drop⟩
end Go.Proofs.YtippfdnjhcpekaaDoor

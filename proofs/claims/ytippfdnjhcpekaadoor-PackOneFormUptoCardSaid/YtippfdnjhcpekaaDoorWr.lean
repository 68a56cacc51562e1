/- The Writer: floats, complex numbers, texts, lists. -/
import Derived.Test.YtippfdnjhcpekaaDoorP4
namespace Go.Proofs.YtippfdnjhcpekaaDoor
open Go Go.Eng
set_option maxRecDepth 100000
set_option linter.unusedVariables false
set_option linter.unusedSimpArgs false
theorem Uint_c {w0 w : World} {F : List Seg} {b T : Nat} {xs : List UInt8} (hw : Wr w0 F b T xs w) {x : Nat} (hx : u64ok x) (hl : xs.length + 10 ≤ 1099511627776) : Ret Tryd.prog 25 [.pointer (some ⟨b, 0, none⟩), .int .u64 x] w fun v w' => v = .tuple #[] ∧ Wr w0 F b T (xs ++ varint x) w' := by
  obtain ⟨p, c, s, ho, H⟩ := hw
  exact uint_w H ho hx (by omega)
theorem Int_c {w0 w : World} {F : List Seg} {b T : Nat} {xs : List UInt8} (hw : Wr w0 F b T xs w) {x : Int} (h0 : -9223372036854775808 ≤ x) (h1 : x ≤ 9223372036854775807) (hl : xs.length + 10 ≤ 1099511627776) : Ret Tryd.prog 27 [.pointer (some ⟨b, 0, none⟩), .int .i64 x] w fun v w' => v = .tuple #[] ∧ Wr w0 F b T (xs ++ varint (zig x)) w' := by
  refine Calls.of_J (n := 13) Tryd.func27 rfl rfl rfl ?_
  obtain ⟨p, c, s, ho, H⟩ := hw
  refine J.region ?_
  refine JL.go trivial (RX.movev (v := Value.pointer _) rfl) ?_
  refine JL.go trivial (RX.movev (v := Value.int _ _) rfl) ?_
  refine JL.go trivial (RX.shl rfl rfl (by decide) (r := IntKind.i64.wrap (x * 2)) (by congr 1)) ?_
  refine JL.go trivial (RX.conv rfl (by rw [ki2]; rfl) ki27 (r := IntKind.u64.wrap (IntKind.i64.wrap (x * 2))) rfl) ?_
  refine JL.go trivial (RX.movev (v := Value.int _ _) rfl) ?_
  refine JL.go trivial (RX.shr rfl rfl (by decide) (r := x / 9223372036854775808) (by rfl)) ?_
  refine JL.go trivial (RX.conv rfl (by rw [ki2]; rfl) ki27 (r := IntKind.u64.wrap (x / 9223372036854775808)) rfl) ?_
  refine JL.go trivial (RX.xor rfl rfl (zig_run h0 h1)) ?_
  refine JL.does trivial (EX.call rfl cl25 rfl ((Uint_c ⟨p, c, s, ho, H⟩ (zig_le h0 h1) hl))) ?_
  rintro _ w ⟨rfl, p, c, s, ho, H⟩
  refine JL.nil ?_
  refine J.end0 Tryd.func27 rfl ?_
  exact ⟨_, rfl, rfl, p, c, s, ho, H⟩
theorem bits_b {w0 w : World} {F : List Seg} (H : Hp w0 w F) {x : Nat} : Ret Tryd.prog 74 [.float .f64 x] w fun v w' => v = .int .u64 (canon x : Nat) ∧ Hp w0 w' F := by
  refine Calls.of_J (n := 8) Tryd.func74 rfl rfl rfl ?_
  refine J.seq ?_
  refine J.region ?_
  refine JL.go trivial (RX.assign) ?_
  refine JL.nil ?_
  refine J.seq ?_
  refine J.seq ?_
  refine J.region ?_
  refine JL.go trivial (RX.movev (v := Value.float _ _) rfl) ?_
  refine JL.go trivial (RX.movev (v := Value.float _ _) rfl) ?_
  refine JL.go trivial (nan64 rfl rfl) ?_
  refine JL.nil ?_
  refine J.cond_d rfl (fun hn => ?_) (fun hn => ?_)
  · skip
    refine J.seq ?_
    refine J.region ?_
    refine JL.go trivial (RX.assign) ?_
    refine JL.nil ?_
    refine J.ret1 (v := Value.int _ _) Tryd.func74 rfl rfl ?_
    exact ⟨_, rfl, by rw [canon, if_pos hn]; rfl, H⟩
  · skip
    refine J.skip ?_
    refine J.seq ?_
    refine J.region ?_
    refine JL.go trivial (RX.movev (v := Value.float _ _) rfl) ?_
    refine JL.go trivial (RX.ext ext99 rfl rfl (v := Value.int _ _) rfl) ?_
    refine JL.go trivial (RX.assignv (v := Value.int _ _) rfl) ?_
    refine JL.nil ?_
    refine J.ret1 (v := Value.int _ _) Tryd.func74 rfl rfl ?_
    exact ⟨_, rfl, by rw [canon, if_neg hn], H⟩
theorem low_c {w0 w : World} {F : List Seg} {b T : Nat} {xs : List UInt8} (hw : Wr w0 F b T xs w) {x n : Nat} (hx : u64ok x) (hn : n ≤ 8) (hl : xs.length + 8 ≤ 1099511627776) : Ret Tryd.prog 75 [.pointer (some ⟨b, 0, none⟩), .int .u64 x, .int .i64 n] w fun v w' => v = .tuple #[] ∧ Wr w0 F b T (xs ++ leB x n) w' := by
  refine Calls.of_J (n := 26) Tryd.func75 rfl rfl rfl ?_
  refine J.seq ?_
  refine J.region ?_
  refine JL.go trivial (RX.movev (v := Value.int _ _) rfl) ?_
  refine JL.go trivial (RX.move) ?_
  refine JL.nil ?_
  refine J.block ?_
  refine J.loop (ι := Nat) (S := fun i => [(8, .int .i64 (i : Nat))]) (Φ := fun i w => i ≤ n ∧ Wr w0 F b T (xs ++ leB x i) w) (μ := fun i => n - i) (C := [(0, _), (1, _), (7, _)]) 0 ⟨rfl, rfl, rfl, trivial⟩ ⟨rfl, trivial⟩ ?_ ?_
  · exact ⟨by omega, by simpa [leB] using hw⟩
  clear hw
  rintro i ρ w ⟨hi, p, c, s, ho, H⟩ IH
  have hlen := leB_len i x
  generalize hys : xs ++ leB x i = ys at ho H
  have hyl : ys.length = xs.length + i := by rw [← hys, List.length_append, hlen]
  refine J.seq ?_
  refine J.region ?_
  refine JL.go trivial (RX.lt rfl rfl) ?_
  refine JL.nil ?_
  refine J.seq ?_
  refine J.cond_d rfl (fun hlt => ?_) (fun hlt => ?_)
  · skip
    have hi8 : i < 8 := by omega
    have hp8 := pow256 hi8
    have hx2 := Nat.div_le_self x (256 ^ i)
    unfold u64ok at hx
    refine J.skip ?_
    refine J.seq ?_
    refine J.block ?_
    refine J.seq ?_
    refine J.region ?_
    refine JL.go trivial (RX.movev (v := Value.int _ _) rfl) ?_
    refine JL.go trivial (RX.assignv (v := Value.int _ _) rfl) ?_
    refine JL.nil ?_
    refine J.any hmix fun w hs => ?_
    replace H := H.same hs; clear hs
    refine JA.take 0 (listed' := [true, false, false, false, false, false, false, false, false, false, false, false, false, false, false]) rfl (by kernel_rfl) (by kernel_rfl) (by kernel_rfl) rfl trivial (fun w => RX.movev (v := Value.pointer _) rfl) ?_
    refine JA.take 1 (listed' := [true, true, false, false, false, false, false, false, false, false, false, false, false, false, false]) rfl (by kernel_rfl) (by kernel_rfl) (by kernel_rfl) rfl trivial (fun w => RX.movev (v := Value.pointer _) rfl) ?_
    refine JA.take 2 (listed' := [true, true, true, false, false, false, false, false, false, false, false, false, false, false, false]) rfl (by kernel_rfl) (by kernel_rfl) (by kernel_rfl) rfl trivial (fun w => RX.nilCheck rfl) ?_
    refine JA.take 3 (listed' := [true, true, true, true, false, false, false, false, false, false, false, false, false, false, false]) rfl (by kernel_rfl) (by kernel_rfl) (by kernel_rfl) rfl trivial (fun w => RX.fieldAddr rfl fo86_0 rfl) ?_
    refine JA.take 5 (listed' := [true, true, true, true, false, true, false, false, false, false, false, false, false, false, false]) rfl (by kernel_rfl) (by kernel_rfl) (by kernel_rfl) rfl trivial (fun w => RX.movev (v := Value.int _ _) rfl) ?_
    refine JA.take 6 (listed' := [true, true, true, true, false, true, true, false, false, false, false, false, false, false, false]) rfl (by kernel_rfl) (by kernel_rfl) (by kernel_rfl) rfl trivial (fun w => RX.movev (v := Value.int _ _) rfl) ?_
    refine JA.take 7 (listed' := [true, true, true, true, false, true, true, true, false, false, false, false, false, false, false]) rfl (by kernel_rfl) (by kernel_rfl) (by kernel_rfl) rfl trivial (fun w => RX.mul rfl rfl (w_i64 rfl (by omega) (by omega))) ?_
    refine JA.take 8 (listed' := [true, true, true, true, false, true, true, true, true, false, false, false, false, false, false]) rfl (by kernel_rfl) (by kernel_rfl) (by kernel_rfl) rfl trivial (fun w => RX.shr rfl rfl (by omega) (shr8 hi8)) ?_
    refine JA.all [4, 9] (by kernel_rfl) (by decide) ?_
    refine ⟨?_, ?_⟩
    · skip
      refine JO.go (listed' := [true, true, true, true, true, true, true, true, true, false, false, false, false, false, false]) rfl rfl trivial (by first | exact RX.load H rfl (i := 0) rfl rfl one26 | exact RX.load H rfl (i := 1) rfl rfl one26 | exact RX.load H rfl (i := 2) rfl rfl one26 | exact RX.load H rfl (i := 3) rfl rfl one26) ?_
      refine JA.all [9] (by kernel_rfl) (by decide) ?_
      refine JO.go (listed' := [true, true, true, true, true, true, true, true, true, true, false, false, false, false, false]) rfl rfl trivial (RX.conv rfl (by rw [ki27]; rfl) ki5 (r := ((x / 256 ^ i % 256 : Nat) : Int)) (by rw [wrap_u8]; omega)) ?_
      refine JA.all [10] (by kernel_rfl) (by decide) ?_
      refine JO.does (listed' := [true, true, true, true, true, true, true, true, true, true, true, false, false, false, false]) rfl rfl trivial (EX.buildSlice1 H elB rfl rfl) ?_
      rintro _ w ⟨b2, rfl, H⟩
      refine JA.all [11] (by kernel_rfl) (by decide) ?_
      refine JO.does (listed' := [true, true, true, true, true, true, true, true, true, true, true, true, false, false, false]) rfl rfl trivial (EX.append (ys := [.int .u8 ((x / 256 ^ i % 256 : Nat) : Int)]) (L' := fun s' => [(b2, cel [.int .u8 ((x / 256 ^ i % 256 : Nat) : Int)] 5)] :: [(b, cel [.slice p ys.length c] T)] :: s' :: F) H elB rfl rfl (i := 2) rfl ho (SlAt.here rfl) rfl (by simp [isCell]) (by decide) (by omega) (by omega) (fun _ => rfl)) ?_
      rintro _ w ⟨p2, c2, s2, rfl, ho2, H⟩
      refine JA.take 12 (listed' := [true, true, true, true, true, true, true, true, true, true, true, true, true, false, false]) rfl (by kernel_rfl) (by kernel_rfl) (by kernel_rfl) rfl trivial (fun w => RX.nilCheck rfl) ?_
      refine JA.take 13 (listed' := [true, true, true, true, true, true, true, true, true, true, true, true, true, true, false]) rfl (by kernel_rfl) (by kernel_rfl) (by kernel_rfl) rfl trivial (fun w => RX.fieldAddr rfl fo86_0 rfl) ?_
      refine JA.all [14] (by kernel_rfl) (by decide) ?_
      refine JO.does (listed' := [true, true, true, true, true, true, true, true, true, true, true, true, true, true, true]) rfl rfl trivial (by first | exact EX.store (v := Value.slice _ _ _) H rfl rfl (i := 0) rfl rfl (by simp) sz26 rfl rfl | exact EX.store (v := Value.slice _ _ _) H rfl rfl (i := 1) rfl rfl (by simp) sz26 rfl rfl | exact EX.store (v := Value.slice _ _ _) H rfl rfl (i := 2) rfl rfl (by simp) sz26 rfl rfl | exact EX.store (v := Value.slice _ _ _) H rfl rfl (i := 3) rfl rfl (by simp) sz26 rfl rfl) ?_
      rintro _ w H
      refine JA.done (by kernel_rfl) ?_
      refine J.inBlock ?_
      refine J.region ?_
      refine JL.go trivial (RX.add rfl rfl (w_i64 rfl (by omega) (by omega))) ?_
      refine JL.go trivial (RX.movev (v := Value.int _ _) rfl) ?_
      refine JL.nil ?_
      exact IH (i + 1) _ _ (by omega) ⟨rfl, rfl, rfl, trivial⟩ ⟨rfl, trivial⟩ ⟨by omega, by rw [leB_snoc, ← List.append_assoc, hys]; exact ⟨p2, c2, s2, by rw [bv_snoc (by omega)]; simpa using ho2, by simpa using H.drop⟩⟩
    · skip
      refine JO.go (listed' := [true, true, true, true, false, true, true, true, true, true, false, false, false, false, false]) rfl rfl trivial (RX.conv rfl (by rw [ki27]; rfl) ki5 (r := ((x / 256 ^ i % 256 : Nat) : Int)) (by rw [wrap_u8]; omega)) ?_
      refine JA.all [4, 10] (by kernel_rfl) (by decide) ?_
      refine ⟨?_, ?_⟩
      · skip
        refine JO.go (listed' := [true, true, true, true, true, true, true, true, true, true, false, false, false, false, false]) rfl rfl trivial (by first | exact RX.load H rfl (i := 0) rfl rfl one26 | exact RX.load H rfl (i := 1) rfl rfl one26 | exact RX.load H rfl (i := 2) rfl rfl one26 | exact RX.load H rfl (i := 3) rfl rfl one26) ?_
        refine JA.all [10] (by kernel_rfl) (by decide) ?_
        refine JO.does (listed' := [true, true, true, true, true, true, true, true, true, true, true, false, false, false, false]) rfl rfl trivial (EX.buildSlice1 H elB rfl rfl) ?_
        rintro _ w ⟨b2, rfl, H⟩
        refine JA.all [11] (by kernel_rfl) (by decide) ?_
        refine JO.does (listed' := [true, true, true, true, true, true, true, true, true, true, true, true, false, false, false]) rfl rfl trivial (EX.append (ys := [.int .u8 ((x / 256 ^ i % 256 : Nat) : Int)]) (L' := fun s' => [(b2, cel [.int .u8 ((x / 256 ^ i % 256 : Nat) : Int)] 5)] :: [(b, cel [.slice p ys.length c] T)] :: s' :: F) H elB rfl rfl (i := 2) rfl ho (SlAt.here rfl) rfl (by simp [isCell]) (by decide) (by omega) (by omega) (fun _ => rfl)) ?_
        rintro _ w ⟨p2, c2, s2, rfl, ho2, H⟩
        refine JA.take 12 (listed' := [true, true, true, true, true, true, true, true, true, true, true, true, true, false, false]) rfl (by kernel_rfl) (by kernel_rfl) (by kernel_rfl) rfl trivial (fun w => RX.nilCheck rfl) ?_
        refine JA.take 13 (listed' := [true, true, true, true, true, true, true, true, true, true, true, true, true, true, false]) rfl (by kernel_rfl) (by kernel_rfl) (by kernel_rfl) rfl trivial (fun w => RX.fieldAddr rfl fo86_0 rfl) ?_
        refine JA.all [14] (by kernel_rfl) (by decide) ?_
        refine JO.does (listed' := [true, true, true, true, true, true, true, true, true, true, true, true, true, true, true]) rfl rfl trivial (by first | exact EX.store (v := Value.slice _ _ _) H rfl rfl (i := 0) rfl rfl (by simp) sz26 rfl rfl | exact EX.store (v := Value.slice _ _ _) H rfl rfl (i := 1) rfl rfl (by simp) sz26 rfl rfl | exact EX.store (v := Value.slice _ _ _) H rfl rfl (i := 2) rfl rfl (by simp) sz26 rfl rfl | exact EX.store (v := Value.slice _ _ _) H rfl rfl (i := 3) rfl rfl (by simp) sz26 rfl rfl) ?_
        rintro _ w H
        refine JA.done (by kernel_rfl) ?_
        refine J.inBlock ?_
        refine J.region ?_
        refine JL.go trivial (RX.add rfl rfl (w_i64 rfl (by omega) (by omega))) ?_
        refine JL.go trivial (RX.movev (v := Value.int _ _) rfl) ?_
        refine JL.nil ?_
        exact IH (i + 1) _ _ (by omega) ⟨rfl, rfl, rfl, trivial⟩ ⟨rfl, trivial⟩ ⟨by omega, by rw [leB_snoc, ← List.append_assoc, hys]; exact ⟨p2, c2, s2, by rw [bv_snoc (by omega)]; simpa using ho2, by simpa using H.drop⟩⟩
      · skip
        refine JO.does (listed' := [true, true, true, true, false, true, true, true, true, true, true, false, false, false, false]) rfl rfl trivial (EX.buildSlice1 H elB rfl rfl) ?_
        rintro _ w ⟨b2, rfl, H⟩
        refine JA.all [4] (by kernel_rfl) (by decide) ?_
        refine JO.go (listed' := [true, true, true, true, true, true, true, true, true, true, true, false, false, false, false]) rfl rfl trivial (by first | exact RX.load H rfl (i := 0) rfl rfl one26 | exact RX.load H rfl (i := 1) rfl rfl one26 | exact RX.load H rfl (i := 2) rfl rfl one26 | exact RX.load H rfl (i := 3) rfl rfl one26) ?_
        refine JA.all [11] (by kernel_rfl) (by decide) ?_
        refine JO.does (listed' := [true, true, true, true, true, true, true, true, true, true, true, true, false, false, false]) rfl rfl trivial (EX.append (ys := [.int .u8 ((x / 256 ^ i % 256 : Nat) : Int)]) (L' := fun s' => [(b2, cel [.int .u8 ((x / 256 ^ i % 256 : Nat) : Int)] 5)] :: [(b, cel [.slice p ys.length c] T)] :: s' :: F) H elB rfl rfl (i := 2) rfl ho (SlAt.here rfl) rfl (by simp [isCell]) (by decide) (by omega) (by omega) (fun _ => rfl)) ?_
        rintro _ w ⟨p2, c2, s2, rfl, ho2, H⟩
        refine JA.take 12 (listed' := [true, true, true, true, true, true, true, true, true, true, true, true, true, false, false]) rfl (by kernel_rfl) (by kernel_rfl) (by kernel_rfl) rfl trivial (fun w => RX.nilCheck rfl) ?_
        refine JA.take 13 (listed' := [true, true, true, true, true, true, true, true, true, true, true, true, true, true, false]) rfl (by kernel_rfl) (by kernel_rfl) (by kernel_rfl) rfl trivial (fun w => RX.fieldAddr rfl fo86_0 rfl) ?_
        refine JA.all [14] (by kernel_rfl) (by decide) ?_
        refine JO.does (listed' := [true, true, true, true, true, true, true, true, true, true, true, true, true, true, true]) rfl rfl trivial (by first | exact EX.store (v := Value.slice _ _ _) H rfl rfl (i := 0) rfl rfl (by simp) sz26 rfl rfl | exact EX.store (v := Value.slice _ _ _) H rfl rfl (i := 1) rfl rfl (by simp) sz26 rfl rfl | exact EX.store (v := Value.slice _ _ _) H rfl rfl (i := 2) rfl rfl (by simp) sz26 rfl rfl | exact EX.store (v := Value.slice _ _ _) H rfl rfl (i := 3) rfl rfl (by simp) sz26 rfl rfl) ?_
        rintro _ w H
        refine JA.done (by kernel_rfl) ?_
        refine J.inBlock ?_
        refine J.region ?_
        refine JL.go trivial (RX.add rfl rfl (w_i64 rfl (by omega) (by omega))) ?_
        refine JL.go trivial (RX.movev (v := Value.int _ _) rfl) ?_
        refine JL.nil ?_
        exact IH (i + 1) _ _ (by omega) ⟨rfl, rfl, rfl, trivial⟩ ⟨rfl, trivial⟩ ⟨by omega, by rw [leB_snoc, ← List.append_assoc, hys]; exact ⟨p2, c2, s2, by rw [bv_snoc (by omega)]; simpa using ho2, by simpa using H.drop⟩⟩
  · skip
    refine J.exit rfl ?_
    refine J.end0 Tryd.func75 rfl ?_
    have : i = n := by omega
    subst this
    subst hys
    exact ⟨_, rfl, rfl, p, c, s, ho, H⟩
theorem Float_c {w0 w : World} {F : List Seg} {b T : Nat} {xs : List UInt8} (hw : Wr w0 F b T xs w) {x : Nat} (hx : u64ok x) (hl : xs.length + 8 ≤ 1099511627776) : Ret Tryd.prog 29 [.pointer (some ⟨b, 0, none⟩), .float .f64 x] w fun v w' => v = .tuple #[] ∧ Wr w0 F b T (xs ++ fB x) w' := by
  refine Calls.of_J (n := 8) Tryd.func29 rfl rfl rfl ?_
  obtain ⟨p, c, s, ho, H⟩ := hw
  refine J.region ?_
  refine JL.go trivial (RX.movev (v := Value.pointer _) rfl) ?_
  refine JL.go trivial (RX.movev (v := Value.float _ _) rfl) ?_
  refine JL.does trivial (EX.call rfl cl74 rfl ((bits_b H))) ?_
  rintro _ w ⟨rfl, H⟩
  refine JL.does trivial (EX.call rfl cl75 rfl ((low_c ⟨p, c, s, ho, H⟩ (canon_ok hx) (by decide) hl))) ?_
  rintro _ w ⟨rfl, p, c, s, ho, H⟩
  refine JL.nil ?_
  refine J.end0 Tryd.func29 rfl ?_
  exact ⟨_, rfl, rfl, p, c, s, ho, H⟩
theorem Complex_c {w0 w : World} {F : List Seg} {b T : Nat} {xs : List UInt8} (hw : Wr w0 F b T xs w) {q : Nat × Nat} (hx : u64ok q.1 ∧ u64ok q.2) (hl : xs.length + 16 ≤ 1099511627776) : Ret Tryd.prog 31 [.pointer (some ⟨b, 0, none⟩), cV q] w fun v w' => v = .tuple #[] ∧ Wr w0 F b T (xs ++ cB q) w' := by
  refine Calls.of_J (n := 12) Tryd.func31 rfl rfl rfl ?_
  refine J.seq ?_
  unfold cV
  obtain ⟨p, c, s, ho, H⟩ := hw
  refine J.region ?_
  refine JL.go trivial (RX.movev (v := Value.pointer _) rfl) ?_
  refine JL.go trivial (RX.movev (v := Value.complex _ _ _) rfl) ?_
  refine JL.go trivial (RX.real rfl) ?_
  refine JL.does trivial (EX.call rfl cl29 rfl ((Float_c ⟨p, c, s, ho, H⟩ hx.1 (by omega)))) ?_
  rintro _ w ⟨rfl, p, c, s, ho, H⟩
  refine JL.nil ?_
  refine J.region ?_
  refine JL.go trivial (RX.movev (v := Value.pointer _) rfl) ?_
  refine JL.go trivial (RX.movev (v := Value.complex _ _ _) rfl) ?_
  refine JL.go trivial (RX.imag rfl) ?_
  refine JL.does trivial (EX.call rfl cl29 rfl ((Float_c ⟨p, c, s, ho, H⟩ hx.2 (by rw [List.length_append, fB_len]; omega)))) ?_
  rintro _ w ⟨rfl, p, c, s, ho, H⟩
  refine JL.nil ?_
  refine J.end0 Tryd.func31 rfl ?_
  exact ⟨_, rfl, rfl, by rw [cB, ← List.append_assoc]; exact ⟨p, c, s, ho, H⟩⟩
theorem Narrow_c {w0 w : World} {F : List Seg} {b T : Nat} {xs : List UInt8} (hw : Wr w0 F b T xs w) {q : Nat × Nat} (hx : u32ok q.1 ∧ u32ok q.2) (hl : xs.length + 16 ≤ 1099511627776) : Ret Tryd.prog 33 [.pointer (some ⟨b, 0, none⟩), nV q] w fun v w' => v = .tuple #[] ∧ Wr w0 F b T (xs ++ nB q) w' := by
  refine Calls.of_J (n := 25) Tryd.func33 rfl rfl rfl ?_
  refine J.seq ?_
  unfold nV
  obtain ⟨p, c, s, ho, H⟩ := hw
  refine J.region ?_
  refine JL.go trivial (RX.movev (v := Value.complex _ _ _) rfl) ?_
  refine JL.go trivial (RX.real rfl) ?_
  refine JL.go trivial (RX.movev (v := Value.complex _ _ _) rfl) ?_
  refine JL.go trivial (RX.imag rfl) ?_
  refine JL.go trivial (RX.build (pv := [(0, .float .f32 q.1), (1, .float .f32 q.2)]) (res := [.float .f32 q.1, .float .f32 q.2]) rfl (by kernel_rfl)) ?_
  refine JL.go trivial (RX.move) ?_
  refine JL.nil ?_
  refine J.block ?_
  refine J.loop (ι := Nat) (S := fun i => [(12, .int .i64 (i : Nat))]) (Φ := fun i w => i ≤ 2 ∧ Wr w0 F b T (xs ++ (((two q).take i).map fun z => leB (canon32 z) 4).flatten) w) (μ := fun i => 2 - i) (C := [(0, _), (11, _)]) 0 ⟨rfl, rfl, trivial⟩ ⟨rfl, trivial⟩ ?_ ?_
  · exact ⟨by omega, by simpa using (⟨p, c, s, ho, H⟩ : Wr w0 F b T xs _)⟩
  clear ho H
  rintro i ρ w ⟨hi, hw⟩ IH
  have hlen : ((((two q).take i).map fun z => leB (canon32 z) 4).flatten).length ≤ 8 := by rw [flat_len8 _ 4 (fun z => leB_len 4 _)]; simp [two]; omega
  obtain ⟨p, c, s, ho, H⟩ := hw
  refine J.seq ?_
  refine J.region ?_
  refine JL.go trivial (RX.lt rfl rfl) ?_
  refine JL.nil ?_
  refine J.seq ?_
  refine J.cond_d rfl (fun hlt => ?_) (fun hlt => ?_)
  · skip
    obtain ⟨z, hz, hz32⟩ : ∃ z, (two q)[i]? = some z ∧ u32ok z := by
      have : i = 0 ∨ i = 1 := by omega
      rcases this with rfl | rfl
      · exact ⟨_, rfl, hx.1⟩
      · exact ⟨_, rfl, hx.2⟩
    have hzv : [Value.float .f32 q.1, .float .f32 q.2][i]? = some (.float .f32 z) := by
      have : i = 0 ∨ i = 1 := by omega
      rcases this with rfl | rfl <;> (cases hz; rfl)
    refine J.skip ?_
    refine J.seq ?_
    refine J.block ?_
    refine J.seq ?_
    refine J.region ?_
    refine JL.go trivial (RX.index (vs := [.float .f32 q.1, .float .f32 q.2]) (v := .float .f32 z) rfl rfl ar139 one136 (by omega) (by omega) hzv) ?_
    refine JL.go trivial (RX.assignv (v := Value.float _ _) rfl) ?_
    refine JL.nil ?_
    refine J.seq ?_
    refine J.region ?_
    refine JL.go trivial (RX.movev (v := Value.float _ _) rfl) ?_
    refine JL.go trivial (RX.ext ext81 rfl rfl (v := Value.int _ _) rfl) ?_
    refine JL.go trivial (RX.assignv (v := Value.int _ _) rfl) ?_
    refine JL.nil ?_
    refine J.seq ?_
    refine J.seq ?_
    refine J.region ?_
    refine JL.go trivial (RX.movev (v := Value.float _ _) rfl) ?_
    refine JL.go trivial (RX.movev (v := Value.float _ _) rfl) ?_
    refine JL.go trivial (nan32 rfl rfl) ?_
    refine JL.nil ?_
    refine J.join (ι := Unit) (fun _ => [(6, .int .u32 (canon32 z : Nat))]) (fun _ w => Hp w0 w ([(b, cel [.slice p (xs ++ (((two q).take i).map fun z => leB (canon32 z) 4).flatten).length c] T)] :: s :: F)) [(0, _), (11, _), (12, _)] ⟨rfl, rfl, rfl, trivial⟩ ?_ ?_
    rotate_left
    · skip
      intro k2 hk2
      refine J.cond_d rfl (fun hn => ?_) (fun hn => ?_)
      · skip
        refine J.region ?_
        refine JL.go trivial (RX.assign) ?_
        refine JL.nil ?_
        first
        | exact hk2 () _ _ ⟨rfl, rfl, rfl, trivial⟩ ⟨(show Value.int .u32 2143289344 = Value.int .u32 (canon32 z : Nat) by rw [canon32, if_pos hn]; rfl), trivial⟩ H
        | exact hk2 () _ _ ⟨rfl, rfl, rfl, trivial⟩ ⟨(show Value.int .u32 (z : Nat) = Value.int .u32 (canon32 z : Nat) by rw [canon32, if_neg hn]), trivial⟩ H
      · skip
        refine J.skip ?_
        first
        | exact hk2 () _ _ ⟨rfl, rfl, rfl, trivial⟩ ⟨(show Value.int .u32 2143289344 = Value.int .u32 (canon32 z : Nat) by rw [canon32, if_pos hn]; rfl), trivial⟩ H
        | exact hk2 () _ _ ⟨rfl, rfl, rfl, trivial⟩ ⟨(show Value.int .u32 (z : Nat) = Value.int .u32 (canon32 z : Nat) by rw [canon32, if_neg hn]), trivial⟩ H
    · skip
      clear H
      rintro _ ρ w H
      refine J.region ?_
      refine JL.go trivial (RX.movev (v := Value.pointer _) rfl) ?_
      refine JL.go trivial (RX.movev (v := Value.int _ _) rfl) ?_
      refine JL.go trivial (RX.conv rfl (by rw [ki140]; rfl) ki27 (w_u64 (r := (canon32 z : Int)) rfl (by omega) (by have := canon32_ok hz32; unfold u32ok at this; omega))) ?_
      refine JL.does trivial (EX.call rfl cl75 rfl ((low_c ⟨p, c, s, ho, H⟩ (u32_u64 (canon32_ok hz32)) (by decide) (by rw [List.length_append]; omega)))) ?_
      rintro _ w ⟨rfl, hw⟩
      refine JL.nil ?_
      refine J.inBlock ?_
      refine J.region ?_
      refine JL.go trivial (RX.add rfl rfl (w_i64 rfl (by omega) (by omega))) ?_
      refine JL.go trivial (RX.movev (v := Value.int _ _) rfl) ?_
      refine JL.nil ?_
      exact IH (i + 1) _ _ (by omega) ⟨rfl, rfl, trivial⟩ ⟨rfl, trivial⟩ ⟨by omega, by rw [map_take_snoc (fun z => leB (canon32 z) 4) hz, ← List.append_assoc]; exact hw⟩
  · skip
    refine J.exit rfl ?_
    refine J.end0 Tryd.func33 rfl ?_
    have : i = 2 := by omega
    subst this
    rw [nB_two]
    exact ⟨_, rfl, rfl, p, c, s, ho, H⟩
theorem Text_c {w0 w : World} {F : List Seg} {b T : Nat} {xs : List UInt8} (hw : Wr w0 F b T xs w) {str : ByteArray} (hsz : str.size ≤ 1073741824) (hl : xs.length + 10 + str.size ≤ 1099511627776) : Ret Tryd.prog 35 [.pointer (some ⟨b, 0, none⟩), .string str] w fun v w' => v = .tuple #[] ∧ Wr w0 F b T (xs ++ tB str) w' := by
  refine Calls.of_J (n := 18) Tryd.func35 rfl rfl rfl ?_
  refine J.seq ?_
  obtain ⟨p, c, s, ho, H⟩ := hw
  refine J.region ?_
  refine JL.go trivial (RX.movev (v := Value.pointer _) rfl) ?_
  refine JL.go trivial (RX.movev (v := Value.string _) rfl) ?_
  refine JL.go trivial (RX.len_string rfl ud9 rfl) ?_
  refine JL.go trivial (RX.conv rfl (by rw [ki3]; rfl) ki27 (w_u64 (r := (str.size : Int)) rfl (by omega) (by omega))) ?_
  refine JL.does trivial (EX.call rfl cl25 rfl ((Uint_c ⟨p, c, s, ho, H⟩ (x := str.size) (by unfold u64ok; omega) (by omega)))) ?_
  rintro _ w ⟨rfl, p, c, s, ho, H⟩
  have h10 := varint_len10 (x := str.size) (by omega)
  have hyl : (xs ++ varint str.size).length = xs.length + (varint str.size).length := List.length_append
  refine JL.nil ?_
  refine J.region ?_
  refine JL.go trivial (RX.movev (v := Value.pointer _) rfl) ?_
  refine JL.go trivial (RX.movev (v := Value.pointer _) rfl) ?_
  refine JL.go trivial (RX.nilCheck rfl) ?_
  refine JL.go trivial (RX.fieldAddr rfl fo86_0 rfl) ?_
  refine JL.go trivial (by first | exact RX.load H rfl (i := 0) rfl rfl one26 | exact RX.load H rfl (i := 1) rfl rfl one26) ?_
  refine JL.go trivial (RX.movev (v := Value.string _) rfl) ?_
  refine JL.does trivial (EX.appendStr (L' := fun s' => [(b, cel [.slice p (xs ++ varint str.size).length c] T)] :: s' :: F) H elB (by kernel_rfl) rfl rfl (i := 1) rfl ho (by omega) (fun _ => rfl)) ?_
  rintro _ w ⟨p2, c2, s2, rfl, ho2, H⟩
  refine JL.go trivial (RX.nilCheck rfl) ?_
  refine JL.go trivial (RX.fieldAddr rfl fo86_0 rfl) ?_
  refine JL.does trivial (by first | exact EX.store (v := Value.slice _ _ _) H rfl rfl (i := 0) rfl rfl (by simp) sz26 rfl rfl | exact EX.store (v := Value.slice _ _ _) H rfl rfl (i := 1) rfl rfl (by simp) sz26 rfl rfl) ?_
  rintro _ w H
  refine JL.nil ?_
  refine J.end0 Tryd.func35 rfl ?_
  exact ⟨_, rfl, rfl, by
    have e : (xs ++ tB str).length = (xs ++ varint str.size).length + str.size := by rw [tB, ← List.append_assoc, List.length_append, dlen]
    refine ⟨p2, c2, s2, ?_, ?_⟩
    · rw [e]; rw [byteCells_bv, ← bv_app, List.append_assoc] at ho2; exact ho2
    · rw [e]; exact H⟩
theorem list_c {w0 w : World} {F : List Seg} {b T : Nat} {xs : List UInt8} (hw : Wr w0 F b T xs w) {E : Nat → Value} (g3 : GErr F 4 (E 3)) {l : List (Nat × Nat)} {lp : Option Addr} {lc : Nat} (hs : SlAt F lp (cVs l)) (hlk : ∀ q ∈ l, u64ok q.1 ∧ u64ok q.2) (hln : l.length ≤ 9223372036854775807) (hl : xs.length + 16777300 ≤ 1099511627776) : Ret Tryd.prog 53 [.pointer (some ⟨b, 0, none⟩), .slice lp l.length lc, .func (.func 31) #[.pointer (some ⟨b, 0, none⟩)] #[]] w fun v w' => v = (if l.length ≤ 1048576 then .nilIface else E 3) ∧ Wr w0 F b T (xs ++ (if l.length ≤ 1048576 then (varint l.length ++ (l.map cB).flatten) else [])) w' := by
  refine Calls.of_J (n := 28) Tryd.func53 rfl rfl rfl ?_
  refine J.seq ?_
  obtain ⟨p, c, s, ho, H⟩ := hw
  refine J.region ?_
  refine JL.go trivial (RX.assign) ?_
  refine JL.nil ?_
  refine J.seq ?_
  refine J.seq ?_
  refine J.region ?_
  refine JL.go trivial (RX.movev (v := Value.slice _ _ _) rfl) ?_
  refine JL.go trivial (RX.len_slice rfl (by rw [sl36]; rfl) rfl) ?_
  refine JL.go trivial (RX.gt rfl rfl) ?_
  refine JL.nil ?_
  refine J.cond_d rfl (fun hbig => ?_) (fun hbig => ?_)
  · skip
    refine J.seq ?_
    refine J.region ?_
    have hie := g3.ie
    refine JL.go trivial (RX.loadG H rfl g3.at_.cons.cons one40) ?_
    refine JL.go trivial (RX.assign) ?_
    refine JL.nil ?_
    refine J.ret1 Tryd.func53 rfl rfl ?_
    rw [if_neg (by omega), if_neg (by omega), List.append_nil]
    exact ⟨_, rfl, rfl, p, c, s, ho, H⟩
  · skip
    have hsm : l.length ≤ 1048576 := by omega
    rw [if_pos hsm, if_pos hsm]
    clear hbig
    refine J.skip ?_
    refine J.seq ?_
    refine J.region ?_
    refine JL.go trivial (RX.movev (v := Value.pointer _) rfl) ?_
    refine JL.go trivial (RX.movev (v := Value.slice _ _ _) rfl) ?_
    refine JL.go trivial (RX.len_slice rfl (by rw [sl36]; rfl) rfl) ?_
    refine JL.go trivial (RX.conv rfl (by rw [ki3]; rfl) ki27 (w_u64 (r := (l.length : Int)) rfl (by omega) (by omega))) ?_
    refine JL.does trivial (EX.call rfl cl25 rfl ((Uint_c ⟨p, c, s, ho, H⟩ (x := l.length) (by unfold u64ok; omega) (by omega)))) ?_
    rintro _ w ⟨rfl, hw⟩
    have h10 := varint_len10 (x := l.length) (by omega)
    obtain ⟨p, c, s, ho, H⟩ := hw
    refine JL.nil ?_
    refine J.seq ?_
    refine J.seq ?_
    refine J.region ?_
    refine JL.go trivial (RX.movev (v := Value.slice _ _ _) rfl) ?_
    refine JL.go trivial (RX.len_slice rfl (by rw [sl36]; rfl) rfl) ?_
    refine JL.go trivial (RX.move) ?_
    refine JL.nil ?_
    refine J.block ?_
    refine J.loop (ι := Nat) (S := fun i => [(20, .int .i64 (i : Nat))]) (Φ := fun i w => i ≤ l.length ∧ Wr w0 F b T (xs ++ varint l.length ++ ((l.take i).map cB).flatten) w) (μ := fun i => l.length - i) (C := [(2, _), (18, _), (19, _)]) 0 ⟨rfl, rfl, rfl, trivial⟩ ⟨rfl, trivial⟩ ?_ ?_
    · exact ⟨by omega, by simp only [List.take_zero, List.map_nil, List.flatten_nil, List.append_nil]; exact ⟨p, c, s, ho, H⟩⟩
    clear ho H
    rintro i ρ w ⟨hi, hw⟩ IH
    have hlen : (((l.take i).map cB).flatten).length ≤ 16 * 1048576 := by rw [flat_len8 _ 16 cB_len, List.length_take]; omega
    have hyl : (xs ++ varint l.length ++ ((l.take i).map cB).flatten).length = xs.length + (varint l.length).length + (((l.take i).map cB).flatten).length := by simp only [List.length_append]
    obtain ⟨p, c, s, ho, H⟩ := hw
    refine J.seq ?_
    refine J.region ?_
    refine JL.go trivial (RX.lt rfl rfl) ?_
    refine JL.nil ?_
    refine J.seq ?_
    refine J.cond_d rfl (fun hlt => ?_) (fun hlt => ?_)
    · skip
      obtain ⟨q, hq⟩ : ∃ q, l[i]? = some q := ⟨_, List.getElem?_eq_getElem (by omega)⟩
      have hqok := hlk q (List.mem_of_getElem? hq)
      obtain ⟨pb, po, rfl, _⟩ := hs.some (by simp [cVs]; omega)
      refine J.skip ?_
      refine J.seq ?_
      refine J.block ?_
      refine J.seq ?_
      refine J.region ?_
      refine JL.go trivial (RX.indexAddr rfl rfl sl36 (by omega) (by omega) rfl) ?_
      refine JL.go trivial (RX.loadS H hs.cons.cons rfl (j := i) (by omega) (v := cV q) (by simp [cVs, hq]) one38) ?_
      refine JL.go trivial (RX.assignv (v := Value.complex _ _ _) rfl) ?_
      refine JL.nil ?_
      refine J.region ?_
      refine JL.go trivial (RX.movev (v := Value.func _ _ _) rfl) ?_
      refine JL.go trivial (RX.movev (v := Value.complex _ _ _) rfl) ?_
      refine JL.does trivial (EX.callv (f := 31) (fv := [.pointer (some ⟨b, 0, none⟩)]) (cv := []) rfl cl31 rfl rfl (Complex_c ⟨p, c, s, ho, H⟩ hqok (by omega))) ?_
      rintro _ w ⟨rfl, hw⟩
      refine JL.nil ?_
      refine J.inBlock ?_
      refine J.region ?_
      refine JL.go trivial (RX.add rfl rfl (w_i64 rfl (by omega) (by omega))) ?_
      refine JL.go trivial (RX.movev (v := Value.int _ _) rfl) ?_
      refine JL.nil ?_
      exact IH (i + 1) _ _ (by omega) ⟨rfl, rfl, rfl, trivial⟩ ⟨rfl, trivial⟩ ⟨by omega, by rw [map_take_snoc cB hq, ← List.append_assoc]; exact hw⟩
    · skip
      refine J.exit rfl ?_
      refine J.seq ?_
      refine J.region ?_
      refine JL.go trivial (RX.assign) ?_
      refine JL.nil ?_
      refine J.ret1 Tryd.func53 rfl rfl ?_
      have : i = l.length := by omega
      subst this
      rw [List.take_length, List.append_assoc] at ho H
      exact ⟨_, rfl, rfl, p, c, s, ho, H⟩
theorem List_c {w0 w : World} {F : List Seg} {b T : Nat} {xs : List UInt8} (hw : Wr w0 F b T xs w) {E : Nat → Value} (g3 : GErr F 4 (E 3)) {l : List (Nat × Nat)} {lp : Option Addr} {lc : Nat} (hs : SlAt F lp (cVs l)) (hlk : ∀ q ∈ l, u64ok q.1 ∧ u64ok q.2) (hln : l.length ≤ 9223372036854775807) (hl : xs.length + 16777300 ≤ 1099511627776) : Ret Tryd.prog 14 [.pointer (some ⟨b, 0, none⟩), .slice lp l.length lc] w fun v w' => v = (if l.length ≤ 1048576 then .nilIface else E 3) ∧ Wr w0 F b T (xs ++ (if l.length ≤ 1048576 then (varint l.length ++ (l.map cB).flatten) else [])) w' := by
  refine Calls.of_J (n := 10) Tryd.func14 rfl rfl rfl ?_
  refine J.seq ?_
  obtain ⟨p, c, s, ho, H⟩ := hw
  refine J.region ?_
  refine JL.go trivial (RX.assign) ?_
  refine JL.nil ?_
  refine J.seq ?_
  refine J.region ?_
  refine JL.go trivial (RX.movev (v := Value.pointer _) rfl) ?_
  refine JL.go trivial (RX.movev (v := Value.slice _ _ _) rfl) ?_
  refine JL.go trivial (RX.movev (v := Value.pointer _) rfl) ?_
  refine JL.go trivial (RX.makeFunc rfl rfl) ?_
  refine JL.does trivial (EX.call rfl cl53 rfl ((list_c ⟨p, c, s, ho, H⟩ g3 hs hlk hln hl))) ?_
  rintro _ w ⟨rfl, hw⟩
  obtain ⟨p, c, s, ho, H⟩ := hw
  have hie := g3.ie
  refine JL.go trivial (RX.assign) ?_
  refine JL.nil ?_
  refine J.ret1 Tryd.func14 rfl rfl ?_
  exact ⟨_, rfl, rfl, p, c, s, ho, H⟩
theorem listF_c {w0 w : World} {F : List Seg} {b T : Nat} {xs : List UInt8} (hw : Wr w0 F b T xs w) {E : Nat → Value} (g3 : GErr F 4 (E 3)) {l : List (Nat)} {lp : Option Addr} {lc : Nat} (hs : SlAt F lp (fVs l)) (hlk : ∀ q ∈ l, u64ok q) (hln : l.length ≤ 9223372036854775807) (hl : xs.length + 16777300 ≤ 1099511627776) : Ret Tryd.prog 85 [.pointer (some ⟨b, 0, none⟩), .slice lp l.length lc, .func (.func 29) #[.pointer (some ⟨b, 0, none⟩)] #[]] w fun v w' => v = (if l.length ≤ 1048576 then .nilIface else E 3) ∧ Wr w0 F b T (xs ++ (if l.length ≤ 1048576 then (varint l.length ++ (l.map fB).flatten) else [])) w' := by
  refine Calls.of_J (n := 28) Tryd.func85 rfl rfl rfl ?_
  refine J.seq ?_
  obtain ⟨p, c, s, ho, H⟩ := hw
  refine J.region ?_
  refine JL.go trivial (RX.assign) ?_
  refine JL.nil ?_
  refine J.seq ?_
  refine J.seq ?_
  refine J.region ?_
  refine JL.go trivial (RX.movev (v := Value.slice _ _ _) rfl) ?_
  refine JL.go trivial (RX.len_slice rfl (by rw [sl75]; rfl) rfl) ?_
  refine JL.go trivial (RX.gt rfl rfl) ?_
  refine JL.nil ?_
  refine J.cond_d rfl (fun hbig => ?_) (fun hbig => ?_)
  · skip
    refine J.seq ?_
    refine J.region ?_
    have hie := g3.ie
    refine JL.go trivial (RX.loadG H rfl g3.at_.cons.cons one40) ?_
    refine JL.go trivial (RX.assign) ?_
    refine JL.nil ?_
    refine J.ret1 Tryd.func85 rfl rfl ?_
    rw [if_neg (by omega), if_neg (by omega), List.append_nil]
    exact ⟨_, rfl, rfl, p, c, s, ho, H⟩
  · skip
    have hsm : l.length ≤ 1048576 := by omega
    rw [if_pos hsm, if_pos hsm]
    clear hbig
    refine J.skip ?_
    refine J.seq ?_
    refine J.region ?_
    refine JL.go trivial (RX.movev (v := Value.pointer _) rfl) ?_
    refine JL.go trivial (RX.movev (v := Value.slice _ _ _) rfl) ?_
    refine JL.go trivial (RX.len_slice rfl (by rw [sl75]; rfl) rfl) ?_
    refine JL.go trivial (RX.conv rfl (by rw [ki3]; rfl) ki27 (w_u64 (r := (l.length : Int)) rfl (by omega) (by omega))) ?_
    refine JL.does trivial (EX.call rfl cl25 rfl ((Uint_c ⟨p, c, s, ho, H⟩ (x := l.length) (by unfold u64ok; omega) (by omega)))) ?_
    rintro _ w ⟨rfl, hw⟩
    have h10 := varint_len10 (x := l.length) (by omega)
    obtain ⟨p, c, s, ho, H⟩ := hw
    refine JL.nil ?_
    refine J.seq ?_
    refine J.seq ?_
    refine J.region ?_
    refine JL.go trivial (RX.movev (v := Value.slice _ _ _) rfl) ?_
    refine JL.go trivial (RX.len_slice rfl (by rw [sl75]; rfl) rfl) ?_
    refine JL.go trivial (RX.move) ?_
    refine JL.nil ?_
    refine J.block ?_
    refine J.loop (ι := Nat) (S := fun i => [(20, .int .i64 (i : Nat))]) (Φ := fun i w => i ≤ l.length ∧ Wr w0 F b T (xs ++ varint l.length ++ ((l.take i).map fB).flatten) w) (μ := fun i => l.length - i) (C := [(2, _), (18, _), (19, _)]) 0 ⟨rfl, rfl, rfl, trivial⟩ ⟨rfl, trivial⟩ ?_ ?_
    · exact ⟨by omega, by simp only [List.take_zero, List.map_nil, List.flatten_nil, List.append_nil]; exact ⟨p, c, s, ho, H⟩⟩
    clear ho H
    rintro i ρ w ⟨hi, hw⟩ IH
    have hlen : (((l.take i).map fB).flatten).length ≤ 8 * 1048576 := by rw [flat_len8 _ 8 fB_len, List.length_take]; omega
    have hyl : (xs ++ varint l.length ++ ((l.take i).map fB).flatten).length = xs.length + (varint l.length).length + (((l.take i).map fB).flatten).length := by simp only [List.length_append]
    obtain ⟨p, c, s, ho, H⟩ := hw
    refine J.seq ?_
    refine J.region ?_
    refine JL.go trivial (RX.lt rfl rfl) ?_
    refine JL.nil ?_
    refine J.seq ?_
    refine J.cond_d rfl (fun hlt => ?_) (fun hlt => ?_)
    · skip
      obtain ⟨q, hq⟩ : ∃ q, l[i]? = some q := ⟨_, List.getElem?_eq_getElem (by omega)⟩
      have hqok := hlk q (List.mem_of_getElem? hq)
      obtain ⟨pb, po, rfl, _⟩ := hs.some (by simp [fVs]; omega)
      refine J.skip ?_
      refine J.seq ?_
      refine J.block ?_
      refine J.seq ?_
      refine J.region ?_
      refine JL.go trivial (RX.indexAddr rfl rfl sl75 (by omega) (by omega) rfl) ?_
      refine JL.go trivial (RX.loadS H hs.cons.cons rfl (j := i) (by omega) (v := fV q) (by simp [fVs, hq]) one61) ?_
      refine JL.go trivial (RX.assignv (v := Value.float _ _) rfl) ?_
      refine JL.nil ?_
      refine J.region ?_
      refine JL.go trivial (RX.movev (v := Value.func _ _ _) rfl) ?_
      refine JL.go trivial (RX.movev (v := Value.float _ _) rfl) ?_
      refine JL.does trivial (EX.callv (f := 29) (fv := [.pointer (some ⟨b, 0, none⟩)]) (cv := []) rfl cl29 rfl rfl (Float_c ⟨p, c, s, ho, H⟩ hqok (by omega))) ?_
      rintro _ w ⟨rfl, hw⟩
      refine JL.nil ?_
      refine J.inBlock ?_
      refine J.region ?_
      refine JL.go trivial (RX.add rfl rfl (w_i64 rfl (by omega) (by omega))) ?_
      refine JL.go trivial (RX.movev (v := Value.int _ _) rfl) ?_
      refine JL.nil ?_
      exact IH (i + 1) _ _ (by omega) ⟨rfl, rfl, rfl, trivial⟩ ⟨rfl, trivial⟩ ⟨by omega, by rw [map_take_snoc fB hq, ← List.append_assoc]; exact hw⟩
    · skip
      refine J.exit rfl ?_
      refine J.seq ?_
      refine J.region ?_
      refine JL.go trivial (RX.assign) ?_
      refine JL.nil ?_
      refine J.ret1 Tryd.func85 rfl rfl ?_
      have : i = l.length := by omega
      subst this
      rw [List.take_length, List.append_assoc] at ho H
      exact ⟨_, rfl, rfl, p, c, s, ho, H⟩
theorem Floats_c {w0 w : World} {F : List Seg} {b T : Nat} {xs : List UInt8} (hw : Wr w0 F b T xs w) {E : Nat → Value} (g3 : GErr F 4 (E 3)) {l : List (Nat)} {lp : Option Addr} {lc : Nat} (hs : SlAt F lp (fVs l)) (hlk : ∀ q ∈ l, u64ok q) (hln : l.length ≤ 9223372036854775807) (hl : xs.length + 16777300 ≤ 1099511627776) : Ret Tryd.prog 37 [.pointer (some ⟨b, 0, none⟩), .slice lp l.length lc] w fun v w' => v = (if l.length ≤ 1048576 then .nilIface else E 3) ∧ Wr w0 F b T (xs ++ (if l.length ≤ 1048576 then (varint l.length ++ (l.map fB).flatten) else [])) w' := by
  refine Calls.of_J (n := 10) Tryd.func37 rfl rfl rfl ?_
  refine J.seq ?_
  obtain ⟨p, c, s, ho, H⟩ := hw
  refine J.region ?_
  refine JL.go trivial (RX.assign) ?_
  refine JL.nil ?_
  refine J.seq ?_
  refine J.region ?_
  refine JL.go trivial (RX.movev (v := Value.pointer _) rfl) ?_
  refine JL.go trivial (RX.movev (v := Value.slice _ _ _) rfl) ?_
  refine JL.go trivial (RX.movev (v := Value.pointer _) rfl) ?_
  refine JL.go trivial (RX.makeFunc rfl rfl) ?_
  refine JL.does trivial (EX.call rfl cl85 rfl ((listF_c ⟨p, c, s, ho, H⟩ g3 hs hlk hln hl))) ?_
  rintro _ w ⟨rfl, hw⟩
  obtain ⟨p, c, s, ho, H⟩ := hw
  have hie := g3.ie
  refine JL.go trivial (RX.assign) ?_
  refine JL.nil ?_
  refine J.ret1 Tryd.func37 rfl rfl ?_
  exact ⟨_, rfl, rfl, p, c, s, ho, H⟩
end Go.Proofs.YtippfdnjhcpekaaDoor

/- The reference: the forms. -/
import Derived.Test.YtippfdnjhcpekaaDoorWr
namespace Go.Proofs.YtippfdnjhcpekaaDoor
open Go Go.Eng
set_option maxRecDepth 100000
set_option linter.unusedVariables false
set_option linter.unusedSimpArgs false
theorem rInt_b {w0 w : World} {F : List Seg} (H : Hp w0 w F) {x : Int} (h0 : -9223372036854775808 ≤ x) (h1 : x ≤ 9223372036854775807) : Ret Tryd.prog 42 [.int .i64 x] w (OutB w0 F (varint (zig x))) := by
  refine Calls.of_J (n := 15) Tryd.func42 rfl rfl rfl ?_
  refine J.seq ?_
  refine J.region ?_
  refine JL.go trivial (RX.assign) ?_
  refine JL.nil ?_
  refine J.seq ?_
  refine J.seq ?_
  refine J.region ?_
  refine JL.go trivial (RX.movev (v := Value.int _ _) rfl) ?_
  refine JL.go trivial (RX.lt rfl rfl) ?_
  refine JL.nil ?_
  refine J.cond_d rfl (fun hn => ?_) (fun hn => ?_)
  · skip
    refine J.seq ?_
    refine J.region ?_
    refine JL.go trivial (RX.movev (v := Value.int _ _) rfl) ?_
    refine JL.go trivial (RX.sub rfl rfl (w_i64 rfl (by omega) (by omega))) ?_
    refine JL.go trivial (RX.conv rfl (by rw [ki2]; rfl) ki27 (w_u64 (r := -1 - x) rfl (by omega) (by omega))) ?_
    refine JL.go trivial (RX.mul rfl rfl (w_u64 rfl (by omega) (by omega))) ?_
    refine JL.go trivial (RX.add rfl rfl (w_u64 (r := (zig x : Int)) (by rw [zig, if_pos hn]; omega) (by omega) (by have := zig_le h0 h1; omega))) ?_
    refine JL.does trivial (EX.call rfl cl41 rfl ((ref_Uint H (zig_le h0 h1)))) ?_
    rintro _ w ⟨p, c, s, rfl, ho, H⟩
    refine JL.go trivial (RX.assignv (v := Value.slice _ _ _) rfl) ?_
    refine JL.nil ?_
    refine J.ret1 (v := Value.slice _ _ _) Tryd.func42 rfl rfl ?_
    exact ⟨_, rfl, p, c, s, rfl, ho, H⟩
  · skip
    refine J.skip ?_
    refine J.seq ?_
    refine J.region ?_
    refine JL.go trivial (RX.movev (v := Value.int _ _) rfl) ?_
    refine JL.go trivial (RX.conv rfl (by rw [ki2]; rfl) ki27 (w_u64 (r := x) rfl (by omega) (by omega))) ?_
    refine JL.go trivial (RX.mul rfl rfl (w_u64 (r := (zig x : Int)) (by rw [zig, if_neg hn]; omega) (by omega) (by have := zig_le h0 h1; omega))) ?_
    refine JL.does trivial (EX.call rfl cl41 rfl ((ref_Uint H (zig_le h0 h1)))) ?_
    rintro _ w ⟨p, c, s, rfl, ho, H⟩
    refine JL.go trivial (RX.assignv (v := Value.slice _ _ _) rfl) ?_
    refine JL.nil ?_
    refine J.ret1 (v := Value.slice _ _ _) Tryd.func42 rfl rfl ?_
    exact ⟨_, rfl, p, c, s, rfl, ho, H⟩
theorem fixed_b {w0 w : World} {F : List Seg} (H : Hp w0 w F) {x n : Nat} (hx : u64ok x) (hn : n ≤ 8) : Ret Tryd.prog 86 [.int .u64 x, .int .i64 n] w (OutB w0 F (leB x n)) := by
  refine Calls.of_J (n := 22) Tryd.func86 rfl rfl rfl ?_
  refine J.seq ?_
  refine J.region ?_
  refine JL.go trivial (RX.assign) ?_
  refine JL.nil ?_
  refine J.seq ?_
  refine J.region ?_
  refine JL.does trivial (EX.buildSlice0 H elB) ?_
  rintro _ w ⟨b0, rfl, H⟩
  refine JL.go trivial (RX.assignv (v := Value.slice _ _ _) rfl) ?_
  refine JL.nil ?_
  refine J.seq ?_
  refine J.seq ?_
  refine J.region ?_
  refine JL.go trivial (RX.assign) ?_
  refine JL.nil ?_
  refine J.block ?_
  refine J.loop (ι := Nat × Nat × Option Addr × Nat × Seg) (S := fun q => [(0, .int .u64 (q.2.1 : Nat)), (6, .int .i64 (q.1 : Nat)), (5, .slice q.2.2.1 q.1 q.2.2.2.1)]) (Φ := fun q w => q.1 ≤ n ∧ q.2.1 = x / 256 ^ q.1 ∧ OwnSl 5 1 q.2.2.1 q.1 q.2.2.2.1 (bv (leB x q.1)) q.2.2.2.2 ∧ Hp w0 w (q.2.2.2.2 :: F)) (μ := fun q => n - q.1) (C := [(1, _)]) (0, x, some ⟨b0, 0, none⟩, 0, [(b0, cel [] 5)]) ⟨rfl, trivial⟩ ⟨rfl, rfl, rfl, trivial⟩ ?_ ?_
  · exact ⟨by omega, by simp, OwnSl.empty, H⟩
  clear H
  rintro ⟨i, y, p, c, s⟩ ρ w ⟨hi, hy, ho, H⟩ IH
  simp only at hi hy ho H
  unfold u64ok at hx
  have hyx := Nat.div_le_self x (256 ^ i)
  have hlen := leB_len i x
  dsimp only
  refine J.seq ?_
  refine J.seq ?_
  refine J.region ?_
  refine JL.go trivial (RX.movev (v := Value.int _ _) rfl) ?_
  refine JL.go trivial (RX.movev (v := Value.int _ _) rfl) ?_
  refine JL.go trivial (RX.lt rfl rfl) ?_
  refine JL.nil ?_
  refine J.cond_d rfl (fun hlt => ?_) (fun hlt => ?_)
  · skip
    refine J.skip ?_
    refine J.seq ?_
    refine J.block ?_
    refine J.seq ?_
    refine J.region ?_
    refine JL.go trivial (RX.movev (v := Value.slice _ _ _) rfl) ?_
    refine JL.go trivial (RX.movev (v := Value.int _ _) rfl) ?_
    refine JL.go trivial (RX.rem rfl rfl (by decide) (Int.tmod_eq_emod_of_nonneg (by omega))) ?_
    refine JL.go trivial (RX.conv rfl (by rw [ki27]; rfl) ki5 (r := ((y % 256 : Nat) : Int)) (by rw [wrap_u8]; omega)) ?_
    refine JL.does trivial (EX.buildSlice1 H elB rfl rfl) ?_
    rintro _ w ⟨b2, rfl, H⟩
    refine JL.does trivial (EX.append (ys := [.int .u8 ((y % 256 : Nat) : Int)]) (L' := fun s' => [(b2, cel [.int .u8 ((y % 256 : Nat) : Int)] 5)] :: s' :: F) H elB rfl rfl (i := 1) rfl ho (SlAt.here rfl) rfl (by simp [isCell]) (by decide) (by omega) (by omega) (fun _ => rfl)) ?_
    rintro _ w ⟨p2, c2, s2, rfl, ho2, H⟩
    refine JL.go trivial (RX.assignv (v := Value.slice _ _ _) rfl) ?_
    refine JL.nil ?_
    refine J.region ?_
    refine JL.go trivial (RX.movev (v := Value.int _ _) rfl) ?_
    refine JL.go trivial (RX.quo rfl rfl (by decide) (r := ((y / 256 : Nat) : Int)) (by rw [Int.tdiv_eq_ediv_of_nonneg (by omega)]; exact w_u64 (r := ((y / 256 : Nat) : Int)) (by omega) (by omega) (by omega))) ?_
    refine JL.go trivial (RX.assignv (v := Value.int _ _) rfl) ?_
    refine JL.nil ?_
    refine J.inBlock ?_
    refine J.region ?_
    refine JL.go trivial (RX.movev (v := Value.int _ _) rfl) ?_
    refine JL.go trivial (RX.add rfl rfl (w_i64 rfl (by omega) (by omega))) ?_
    refine JL.go trivial (RX.assignv (v := Value.int _ _) rfl) ?_
    refine JL.nil ?_
    exact IH (i + 1, y / 256, p2, c2, s2) _ _ (by simp only; omega) ⟨rfl, trivial⟩ ⟨rfl, rfl, rfl, trivial⟩ ⟨by simp only; omega, by simp only; rw [hy, Nat.div_div_eq_div_mul, Nat.pow_succ], by simp only; rw [leB_snoc, bv_snoc (by omega), ← hy]; exact ho2, by simpa using H.drop⟩
  · skip
    refine J.exit rfl ?_
    refine J.seq ?_
    refine J.region ?_
    refine JL.go trivial (RX.movev (v := Value.slice _ _ _) rfl) ?_
    refine JL.go trivial (RX.assignv (v := Value.slice _ _ _) rfl) ?_
    refine JL.nil ?_
    refine J.ret1 (v := Value.slice _ _ _) Tryd.func86 rfl rfl ?_
    have : i = n := by omega
    subst this
    exact ⟨_, rfl, p, c, s, by rw [hlen], by rw [hlen]; exact ho, H⟩
theorem rBits_b {w0 w : World} {F : List Seg} (H : Hp w0 w F) {x : Nat} (hx : u64ok x) : Ret Tryd.prog 87 [.float .f64 x] w fun v w' => v = .int .u64 (canon x : Nat) ∧ Hp w0 w' F := by
  refine Calls.of_J (n := 10) Tryd.func87 rfl rfl rfl ?_
  refine J.seq ?_
  refine J.region ?_
  refine JL.go trivial (RX.assign) ?_
  refine JL.nil ?_
  refine J.seq ?_
  refine J.region ?_
  refine JL.go trivial (RX.movev (v := Value.float _ _) rfl) ?_
  refine JL.go trivial (RX.ext ext99 rfl rfl (v := Value.int _ _) rfl) ?_
  refine JL.go trivial (RX.assignv (v := Value.int _ _) rfl) ?_
  refine JL.nil ?_
  refine J.seq ?_
  refine J.seq ?_
  refine J.region ?_
  refine JL.go trivial (RX.movev (v := Value.int _ _) rfl) ?_
  refine JL.go trivial (RX.rem rfl rfl (by decide) (r := ((x % 9223372036854775808 : Nat) : Int)) (Int.tmod_eq_emod_of_nonneg (by omega))) ?_
  refine JL.go trivial (RX.gt rfl rfl) ?_
  refine JL.nil ?_
  refine J.cond_d rfl (fun hn => ?_) (fun hn => ?_)
  · skip
    refine J.seq ?_
    refine J.region ?_
    refine JL.go trivial (RX.assign) ?_
    refine JL.nil ?_
    refine J.ret1 (v := Value.int _ _) Tryd.func87 rfl rfl ?_
    exact ⟨_, rfl, by rw [canon, if_pos (by omega)]; rfl, H⟩
  · skip
    refine J.skip ?_
    refine J.seq ?_
    refine J.region ?_
    refine JL.go trivial (RX.movev (v := Value.int _ _) rfl) ?_
    refine JL.go trivial (RX.assignv (v := Value.int _ _) rfl) ?_
    refine JL.nil ?_
    refine J.ret1 (v := Value.int _ _) Tryd.func87 rfl rfl ?_
    exact ⟨_, rfl, by rw [canon, if_neg (by omega)], H⟩
theorem bits32_b {w0 w : World} {F : List Seg} (H : Hp w0 w F) {x : Nat} (hx : u32ok x) : Ret Tryd.prog 89 [.float .f32 x] w fun v w' => v = .int .u64 (canon32 x : Nat) ∧ Hp w0 w' F := by
  refine Calls.of_J (n := 11) Tryd.func89 rfl rfl rfl ?_
  refine J.seq ?_
  unfold u32ok at hx
  refine J.region ?_
  refine JL.go trivial (RX.assign) ?_
  refine JL.nil ?_
  refine J.seq ?_
  refine J.region ?_
  refine JL.go trivial (RX.movev (v := Value.float _ _) rfl) ?_
  refine JL.go trivial (RX.ext ext81 rfl rfl (v := Value.int _ _) rfl) ?_
  refine JL.go trivial (RX.assignv (v := Value.int _ _) rfl) ?_
  refine JL.nil ?_
  refine J.seq ?_
  refine J.seq ?_
  refine J.region ?_
  refine JL.go trivial (RX.movev (v := Value.int _ _) rfl) ?_
  refine JL.go trivial (RX.rem rfl rfl (by decide) (r := ((x % 2147483648 : Nat) : Int)) (Int.tmod_eq_emod_of_nonneg (by omega))) ?_
  refine JL.go trivial (RX.gt rfl rfl) ?_
  refine JL.nil ?_
  refine J.cond_d rfl (fun hn => ?_) (fun hn => ?_)
  · skip
    refine J.seq ?_
    refine J.region ?_
    refine JL.go trivial (RX.assign) ?_
    refine JL.nil ?_
    refine J.ret1 (v := Value.int _ _) Tryd.func89 rfl rfl ?_
    exact ⟨_, rfl, by rw [canon32, if_pos (by omega)]; rfl, H⟩
  · skip
    refine J.skip ?_
    refine J.seq ?_
    refine J.region ?_
    refine JL.go trivial (RX.movev (v := Value.int _ _) rfl) ?_
    refine JL.go trivial (RX.conv rfl (by rw [ki140]; rfl) ki27 (w_u64 rfl (by omega) (by omega))) ?_
    refine JL.go trivial (RX.assignv (v := Value.int _ _) rfl) ?_
    refine JL.nil ?_
    refine J.ret1 (v := Value.int _ _) Tryd.func89 rfl rfl ?_
    exact ⟨_, rfl, by rw [canon32, if_neg (by omega)], H⟩
theorem rFloat_b {w0 w : World} {F : List Seg} (H : Hp w0 w F) {x : Nat} (hx : u64ok x) : Ret Tryd.prog 44 [.float .f64 x] w (OutB w0 F (fB x)) := by
  refine Calls.of_J (n := 6) Tryd.func44 rfl rfl rfl ?_
  refine J.seq ?_
  refine J.region ?_
  refine JL.go trivial (RX.assign) ?_
  refine JL.nil ?_
  refine J.seq ?_
  refine J.region ?_
  refine JL.go trivial (RX.movev (v := Value.float _ _) rfl) ?_
  refine JL.does trivial (EX.call rfl cl87 rfl ((rBits_b H hx))) ?_
  rintro _ w ⟨rfl, H⟩
  refine JL.does trivial (EX.call rfl cl86 rfl ((fixed_b H (canon_ok hx) (by decide)))) ?_
  rintro _ w ⟨p, c, s, rfl, ho, H⟩
  refine JL.go trivial (RX.assignv (v := Value.slice _ _ _) rfl) ?_
  refine JL.nil ?_
  refine J.ret1 (v := Value.slice _ _ _) Tryd.func44 rfl rfl ?_
  exact ⟨_, rfl, p, c, s, rfl, ho, H⟩
theorem rComplex_b {w0 w : World} {F : List Seg} (H : Hp w0 w F) {q : Nat × Nat} (hx : u64ok q.1 ∧ u64ok q.2) : Ret Tryd.prog 46 [cV q] w (OutB w0 F (cB q)) := by
  refine Calls.of_J (n := 10) Tryd.func46 rfl rfl rfl ?_
  refine J.seq ?_
  unfold cV
  refine J.region ?_
  refine JL.go trivial (RX.assign) ?_
  refine JL.nil ?_
  refine J.seq ?_
  refine J.region ?_
  refine JL.go trivial (RX.movev (v := Value.complex _ _ _) rfl) ?_
  refine JL.go trivial (RX.real rfl) ?_
  refine JL.does trivial (EX.call rfl cl44 rfl ((rFloat_b H hx.1))) ?_
  rintro _ w ⟨p, c, s, rfl, ho, H⟩
  refine JL.go trivial (RX.movev (v := Value.complex _ _ _) rfl) ?_
  refine JL.go trivial (RX.imag rfl) ?_
  refine JL.does trivial (EX.call rfl cl44 rfl ((rFloat_b H hx.2))) ?_
  rintro _ w ⟨p2, c2, s2, rfl, ho2, H⟩
  refine JL.does trivial (EX.append (L' := fun s' => s2 :: s' :: F) H elB rfl rfl (i := 1) rfl ho (ho2.slAt) (by simp [bv_len]) (bv_cell _) (by decide) (by simp only [fB_len]; omega) (by simp only [fB_len]; omega) (fun _ => rfl)) ?_
  rintro _ w ⟨p3, c3, s3, rfl, ho3, H⟩
  refine JL.go trivial (RX.assignv (v := Value.slice _ _ _) rfl) ?_
  refine JL.nil ?_
  refine J.ret1 (v := Value.slice _ _ _) Tryd.func46 rfl rfl ?_
  rw [← bv_app, ← List.length_append] at ho3
  exact ⟨_, rfl, p3, c3, s3, by rw [← List.length_append]; rfl, ho3, H.drop⟩
theorem rNarrow_b {w0 w : World} {F : List Seg} (H : Hp w0 w F) {q : Nat × Nat} (hx : u32ok q.1 ∧ u32ok q.2) : Ret Tryd.prog 48 [nV q] w (OutB w0 F (nB q)) := by
  refine Calls.of_J (n := 12) Tryd.func48 rfl rfl rfl ?_
  refine J.seq ?_
  unfold nV
  refine J.region ?_
  refine JL.go trivial (RX.assign) ?_
  refine JL.nil ?_
  refine J.seq ?_
  refine J.region ?_
  refine JL.go trivial (RX.movev (v := Value.complex _ _ _) rfl) ?_
  refine JL.go trivial (RX.real rfl) ?_
  refine JL.does trivial (EX.call rfl cl89 rfl ((bits32_b H hx.1))) ?_
  rintro _ w ⟨rfl, H⟩
  refine JL.does trivial (EX.call rfl cl86 rfl ((fixed_b H (u32_u64 (canon32_ok hx.1)) (by decide)))) ?_
  rintro _ w ⟨p, c, s, rfl, ho, H⟩
  refine JL.go trivial (RX.movev (v := Value.complex _ _ _) rfl) ?_
  refine JL.go trivial (RX.imag rfl) ?_
  refine JL.does trivial (EX.call rfl cl89 rfl ((bits32_b H hx.2))) ?_
  rintro _ w ⟨rfl, H⟩
  refine JL.does trivial (EX.call rfl cl86 rfl ((fixed_b H (u32_u64 (canon32_ok hx.2)) (by decide)))) ?_
  rintro _ w ⟨p2, c2, s2, rfl, ho2, H⟩
  refine JL.does trivial (EX.append (L' := fun s' => s2 :: s' :: F) H elB rfl rfl (i := 1) rfl ho (ho2.slAt) (by simp [bv_len]) (bv_cell _) (by decide) (by simp only [leB_len]; omega) (by simp only [leB_len]; omega) (fun _ => rfl)) ?_
  rintro _ w ⟨p3, c3, s3, rfl, ho3, H⟩
  refine JL.go trivial (RX.assignv (v := Value.slice _ _ _) rfl) ?_
  refine JL.nil ?_
  refine J.ret1 (v := Value.slice _ _ _) Tryd.func48 rfl rfl ?_
  rw [← bv_app, ← List.length_append] at ho3
  exact ⟨_, rfl, p3, c3, s3, by rw [← List.length_append]; rfl, ho3, H.drop⟩
theorem rText_b {w0 w : World} {F : List Seg} (H : Hp w0 w F) {str : ByteArray} (hsz : str.size ≤ 1073741824) : Ret Tryd.prog 49 [.string str] w (OutB w0 F (tB str)) := by
  refine Calls.of_J (n := 9) Tryd.func49 rfl rfl rfl ?_
  refine J.seq ?_
  refine J.region ?_
  refine JL.go trivial (RX.assign) ?_
  refine JL.nil ?_
  refine J.seq ?_
  refine J.region ?_
  refine JL.go trivial (RX.movev (v := Value.string _) rfl) ?_
  refine JL.go trivial (RX.len_string rfl ud9 rfl) ?_
  refine JL.go trivial (RX.conv rfl (by rw [ki3]; rfl) ki27 (w_u64 (r := (str.size : Int)) rfl (by omega) (by omega))) ?_
  refine JL.does trivial (EX.call rfl cl41 rfl ((ref_Uint H (x := str.size) (by omega)))) ?_
  rintro _ w ⟨p, c, s, rfl, ho, H⟩
  have h10 := varint_len10 (x := str.size) (by omega)
  refine JL.go trivial (RX.movev (v := Value.string _) rfl) ?_
  refine JL.does trivial (EX.appendStr (L' := fun s' => s' :: F) H elB (by kernel_rfl) rfl rfl (i := 0) rfl ho (by omega) (fun _ => rfl)) ?_
  rintro _ w ⟨p2, c2, s2, rfl, ho2, H⟩
  refine JL.go trivial (RX.assignv (v := Value.slice _ _ _) rfl) ?_
  refine JL.nil ?_
  refine J.ret1 (v := Value.slice _ _ _) Tryd.func49 rfl rfl ?_
  have e : (tB str).length = (varint str.size).length + str.size := by rw [tB, List.length_append, dlen]
  exact ⟨_, rfl, p2, c2, s2, by rw [e], by rw [e]; rw [byteCells_bv, ← bv_app] at ho2; exact ho2, H⟩
theorem rList_b {w0 w : World} {F : List Seg} (H : Hp w0 w F) {l : List (Nat × Nat)} {lp : Option Addr} {lc : Nat} (hs : SlAt F lp (cVs l)) (hlk : ∀ q ∈ l, u64ok q.1 ∧ u64ok q.2) (hln : l.length ≤ 9223372036854775807) : Ret Tryd.prog 50 [.slice lp l.length lc] w fun v w' => ∃ p c s, v = .tuple #[.slice p (if l.length ≤ 1048576 then (varint l.length ++ (l.map cB).flatten) else []).length c, .int .i64 (if l.length ≤ 1048576 then 0 else 3)] ∧ OwnSl 5 1 p (if l.length ≤ 1048576 then (varint l.length ++ (l.map cB).flatten) else []).length c (bv (if l.length ≤ 1048576 then (varint l.length ++ (l.map cB).flatten) else [])) s ∧ Hp w0 w' (s :: F) := by
  refine Calls.of_J (n := 26) Tryd.func50 rfl rfl rfl ?_
  refine J.seq ?_
  refine J.region ?_
  refine JL.go trivial (RX.assign) ?_
  refine JL.go trivial (RX.assign) ?_
  refine JL.nil ?_
  refine J.seq ?_
  refine J.seq ?_
  refine J.region ?_
  refine JL.go trivial (RX.movev (v := Value.slice _ _ _) rfl) ?_
  refine JL.go trivial (RX.len_slice rfl (by rw [sl36]; rfl) rfl) ?_
  refine JL.go trivial (RX.gt rfl rfl) ?_
  refine JL.nil ?_
  refine J.cond_d rfl (fun hbig => ?_) (fun hbig => ?_)
  · skip
    refine J.seq ?_
    refine J.region ?_
    refine JL.go trivial (RX.assign) ?_
    refine JL.go trivial (RX.assign) ?_
    refine JL.nil ?_
    refine J.ret2 (v := Value.slice _ _ _) (x := Value.int _ _) Tryd.func50 rfl rfl rfl ?_
    rw [if_neg (by omega), if_neg (by omega)]
    exact ⟨_, rfl, none, 0, [], rfl, OwnSl.nil, H.nil⟩
  · skip
    have hsm : l.length ≤ 1048576 := by omega
    rw [if_pos hsm, if_pos hsm]
    clear hbig
    have h10 := varint_len10 (x := l.length) (by omega)
    refine J.skip ?_
    refine J.seq ?_
    refine J.region ?_
    refine JL.go trivial (RX.movev (v := Value.slice _ _ _) rfl) ?_
    refine JL.go trivial (RX.len_slice rfl (by rw [sl36]; rfl) rfl) ?_
    refine JL.go trivial (RX.conv rfl (by rw [ki3]; rfl) ki27 (w_u64 (r := (l.length : Int)) rfl (by omega) (by omega))) ?_
    refine JL.does trivial (EX.call rfl cl41 rfl ((ref_Uint H (x := l.length) (by omega)))) ?_
    rintro _ w ⟨p, c, s, rfl, ho, H⟩
    refine JL.go trivial (RX.assignv (v := Value.slice _ _ _) rfl) ?_
    refine JL.nil ?_
    refine J.seq ?_
    refine J.seq ?_
    refine J.region ?_
    refine JL.go trivial (RX.movev (v := Value.slice _ _ _) rfl) ?_
    refine JL.go trivial (RX.len_slice rfl (by rw [sl36]; rfl) rfl) ?_
    refine JL.go trivial (RX.move) ?_
    refine JL.nil ?_
    refine J.block ?_
    refine J.loop (ι := Nat × Option Addr × Nat × Seg) (S := fun q => [(16, .int .i64 (q.1 : Nat)), (4, .slice q.2.1 (varint l.length ++ ((l.take q.1).map cB).flatten).length q.2.2.1)]) (Φ := fun q w => q.1 ≤ l.length ∧ OwnSl 5 1 q.2.1 (varint l.length ++ ((l.take q.1).map cB).flatten).length q.2.2.1 (bv (varint l.length ++ ((l.take q.1).map cB).flatten)) q.2.2.2 ∧ Hp w0 w (q.2.2.2 :: F)) (μ := fun q => l.length - q.1) (C := [(14, _), (15, _)]) (0, p, c, s) ⟨rfl, rfl, trivial⟩ ⟨rfl, (show Value.slice p (varint l.length).length c = Value.slice p (varint l.length ++ ((l.take 0).map cB).flatten).length c by simp only [List.take_zero, List.map_nil, List.flatten_nil, List.append_nil]), trivial⟩ ?_ ?_
    · exact ⟨by omega, by simp only [List.take_zero, List.map_nil, List.flatten_nil, List.append_nil]; exact ho, H⟩
    clear ho H
    rintro ⟨i, p, c, s⟩ ρ w ⟨hi, ho, H⟩ IH
    simp only at hi ho H
    have hlen : (((l.take i).map cB).flatten).length ≤ 16 * 1048576 := by rw [flat_len8 _ 16 cB_len, List.length_take]; omega
    have hyl : (varint l.length ++ ((l.take i).map cB).flatten).length = (varint l.length).length + (((l.take i).map cB).flatten).length := by simp only [List.length_append]
    dsimp only
    refine J.seq ?_
    refine J.region ?_
    refine JL.go trivial (RX.lt rfl rfl) ?_
    refine JL.nil ?_
    refine J.seq ?_
    refine J.cond_d rfl (fun hlt => ?_) (fun hlt => ?_)
    · skip
      obtain ⟨q, hq⟩ : ∃ q, l[i]? = some q := ⟨_, List.getElem?_eq_getElem (by omega)⟩
      have hqok := hlk q (List.mem_of_getElem? hq)
      obtain ⟨pb, po, rfl, _⟩ := hs.some (by simp [cVs]; omega)
      have hfl := cB_len q
      refine J.skip ?_
      refine J.seq ?_
      refine J.block ?_
      refine J.seq ?_
      refine J.region ?_
      refine JL.go trivial (RX.indexAddr rfl rfl sl36 (by omega) (by omega) rfl) ?_
      refine JL.go trivial (RX.loadS H hs.cons rfl (j := i) (by omega) (v := cV q) (by simp [cVs, hq]) one38) ?_
      refine JL.go trivial (RX.assignv (v := Value.complex _ _ _) rfl) ?_
      refine JL.nil ?_
      refine J.region ?_
      refine JL.go trivial (RX.movev (v := Value.slice _ _ _) rfl) ?_
      refine JL.go trivial (RX.movev (v := Value.complex _ _ _) rfl) ?_
      refine JL.does trivial (EX.call rfl cl46 rfl ((rComplex_b H hqok))) ?_
      rintro _ w ⟨p2, c2, s2, rfl, ho2, H⟩
      refine JL.does trivial (EX.append (L' := fun s' => s2 :: s' :: F) H elB rfl rfl (i := 1) rfl ho (ho2.slAt) (by simp [bv_len]) (bv_cell _) (by decide) (by omega) (by omega) (fun _ => rfl)) ?_
      rintro _ w ⟨p3, c3, s3, rfl, ho3, H⟩
      refine JL.go trivial (RX.assignv (v := Value.slice _ _ _) rfl) ?_
      refine JL.nil ?_
      refine J.inBlock ?_
      refine J.region ?_
      refine JL.go trivial (RX.add rfl rfl (w_i64 rfl (by omega) (by omega))) ?_
      refine JL.go trivial (RX.movev (v := Value.int _ _) rfl) ?_
      refine JL.nil ?_
      have hnx : varint l.length ++ ((l.take (i + 1)).map cB).flatten = varint l.length ++ ((l.take i).map cB).flatten ++ cB q := by rw [map_take_snoc cB hq, ← List.append_assoc]
      rw [← bv_app, ← List.length_append, ← hnx] at ho3
      exact IH (i + 1, p3, c3, s3) _ _ (by simp only; omega) ⟨rfl, rfl, trivial⟩ ⟨rfl, (show Value.slice p3 _ c3 = Value.slice p3 (varint l.length ++ ((l.take (i + 1)).map cB).flatten).length c3 by rw [hnx, List.length_append (bs := cB q)]), trivial⟩ ⟨by simp only; omega, ho3, H.drop⟩
    · skip
      refine J.exit rfl ?_
      refine J.seq ?_
      refine J.region ?_
      refine JL.go trivial (RX.movev (v := Value.slice _ _ _) rfl) ?_
      refine JL.go trivial (RX.assignv (v := Value.slice _ _ _) rfl) ?_
      refine JL.go trivial (RX.assign) ?_
      refine JL.nil ?_
      refine J.ret2 (v := Value.slice _ _ _) (x := Value.int _ _) Tryd.func50 rfl rfl rfl ?_
      have : i = l.length := by omega
      subst this
      rw [List.take_length] at ho ⊢
      exact ⟨_, rfl, p, c, s, rfl, ho, H⟩
theorem rFloats_b {w0 w : World} {F : List Seg} (H : Hp w0 w F) {l : List (Nat)} {lp : Option Addr} {lc : Nat} (hs : SlAt F lp (fVs l)) (hlk : ∀ q ∈ l, u64ok q) (hln : l.length ≤ 9223372036854775807) : Ret Tryd.prog 51 [.slice lp l.length lc] w fun v w' => ∃ p c s, v = .tuple #[.slice p (if l.length ≤ 1048576 then (varint l.length ++ (l.map fB).flatten) else []).length c, .int .i64 (if l.length ≤ 1048576 then 0 else 3)] ∧ OwnSl 5 1 p (if l.length ≤ 1048576 then (varint l.length ++ (l.map fB).flatten) else []).length c (bv (if l.length ≤ 1048576 then (varint l.length ++ (l.map fB).flatten) else [])) s ∧ Hp w0 w' (s :: F) := by
  refine Calls.of_J (n := 26) Tryd.func51 rfl rfl rfl ?_
  refine J.seq ?_
  refine J.region ?_
  refine JL.go trivial (RX.assign) ?_
  refine JL.go trivial (RX.assign) ?_
  refine JL.nil ?_
  refine J.seq ?_
  refine J.seq ?_
  refine J.region ?_
  refine JL.go trivial (RX.movev (v := Value.slice _ _ _) rfl) ?_
  refine JL.go trivial (RX.len_slice rfl (by rw [sl75]; rfl) rfl) ?_
  refine JL.go trivial (RX.gt rfl rfl) ?_
  refine JL.nil ?_
  refine J.cond_d rfl (fun hbig => ?_) (fun hbig => ?_)
  · skip
    refine J.seq ?_
    refine J.region ?_
    refine JL.go trivial (RX.assign) ?_
    refine JL.go trivial (RX.assign) ?_
    refine JL.nil ?_
    refine J.ret2 (v := Value.slice _ _ _) (x := Value.int _ _) Tryd.func51 rfl rfl rfl ?_
    rw [if_neg (by omega), if_neg (by omega)]
    exact ⟨_, rfl, none, 0, [], rfl, OwnSl.nil, H.nil⟩
  · skip
    have hsm : l.length ≤ 1048576 := by omega
    rw [if_pos hsm, if_pos hsm]
    clear hbig
    have h10 := varint_len10 (x := l.length) (by omega)
    refine J.skip ?_
    refine J.seq ?_
    refine J.region ?_
    refine JL.go trivial (RX.movev (v := Value.slice _ _ _) rfl) ?_
    refine JL.go trivial (RX.len_slice rfl (by rw [sl75]; rfl) rfl) ?_
    refine JL.go trivial (RX.conv rfl (by rw [ki3]; rfl) ki27 (w_u64 (r := (l.length : Int)) rfl (by omega) (by omega))) ?_
    refine JL.does trivial (EX.call rfl cl41 rfl ((ref_Uint H (x := l.length) (by omega)))) ?_
    rintro _ w ⟨p, c, s, rfl, ho, H⟩
    refine JL.go trivial (RX.assignv (v := Value.slice _ _ _) rfl) ?_
    refine JL.nil ?_
    refine J.seq ?_
    refine J.seq ?_
    refine J.region ?_
    refine JL.go trivial (RX.movev (v := Value.slice _ _ _) rfl) ?_
    refine JL.go trivial (RX.len_slice rfl (by rw [sl75]; rfl) rfl) ?_
    refine JL.go trivial (RX.move) ?_
    refine JL.nil ?_
    refine J.block ?_
    refine J.loop (ι := Nat × Option Addr × Nat × Seg) (S := fun q => [(16, .int .i64 (q.1 : Nat)), (4, .slice q.2.1 (varint l.length ++ ((l.take q.1).map fB).flatten).length q.2.2.1)]) (Φ := fun q w => q.1 ≤ l.length ∧ OwnSl 5 1 q.2.1 (varint l.length ++ ((l.take q.1).map fB).flatten).length q.2.2.1 (bv (varint l.length ++ ((l.take q.1).map fB).flatten)) q.2.2.2 ∧ Hp w0 w (q.2.2.2 :: F)) (μ := fun q => l.length - q.1) (C := [(14, _), (15, _)]) (0, p, c, s) ⟨rfl, rfl, trivial⟩ ⟨rfl, (show Value.slice p (varint l.length).length c = Value.slice p (varint l.length ++ ((l.take 0).map fB).flatten).length c by simp only [List.take_zero, List.map_nil, List.flatten_nil, List.append_nil]), trivial⟩ ?_ ?_
    · exact ⟨by omega, by simp only [List.take_zero, List.map_nil, List.flatten_nil, List.append_nil]; exact ho, H⟩
    clear ho H
    rintro ⟨i, p, c, s⟩ ρ w ⟨hi, ho, H⟩ IH
    simp only at hi ho H
    have hlen : (((l.take i).map fB).flatten).length ≤ 8 * 1048576 := by rw [flat_len8 _ 8 fB_len, List.length_take]; omega
    have hyl : (varint l.length ++ ((l.take i).map fB).flatten).length = (varint l.length).length + (((l.take i).map fB).flatten).length := by simp only [List.length_append]
    dsimp only
    refine J.seq ?_
    refine J.region ?_
    refine JL.go trivial (RX.lt rfl rfl) ?_
    refine JL.nil ?_
    refine J.seq ?_
    refine J.cond_d rfl (fun hlt => ?_) (fun hlt => ?_)
    · skip
      obtain ⟨q, hq⟩ : ∃ q, l[i]? = some q := ⟨_, List.getElem?_eq_getElem (by omega)⟩
      have hqok := hlk q (List.mem_of_getElem? hq)
      obtain ⟨pb, po, rfl, _⟩ := hs.some (by simp [fVs]; omega)
      have hfl := fB_len q
      refine J.skip ?_
      refine J.seq ?_
      refine J.block ?_
      refine J.seq ?_
      refine J.region ?_
      refine JL.go trivial (RX.indexAddr rfl rfl sl75 (by omega) (by omega) rfl) ?_
      refine JL.go trivial (RX.loadS H hs.cons rfl (j := i) (by omega) (v := fV q) (by simp [fVs, hq]) one61) ?_
      refine JL.go trivial (RX.assignv (v := Value.float _ _) rfl) ?_
      refine JL.nil ?_
      refine J.region ?_
      refine JL.go trivial (RX.movev (v := Value.slice _ _ _) rfl) ?_
      refine JL.go trivial (RX.movev (v := Value.float _ _) rfl) ?_
      refine JL.does trivial (EX.call rfl cl44 rfl ((rFloat_b H hqok))) ?_
      rintro _ w ⟨p2, c2, s2, rfl, ho2, H⟩
      refine JL.does trivial (EX.append (L' := fun s' => s2 :: s' :: F) H elB rfl rfl (i := 1) rfl ho (ho2.slAt) (by simp [bv_len]) (bv_cell _) (by decide) (by omega) (by omega) (fun _ => rfl)) ?_
      rintro _ w ⟨p3, c3, s3, rfl, ho3, H⟩
      refine JL.go trivial (RX.assignv (v := Value.slice _ _ _) rfl) ?_
      refine JL.nil ?_
      refine J.inBlock ?_
      refine J.region ?_
      refine JL.go trivial (RX.add rfl rfl (w_i64 rfl (by omega) (by omega))) ?_
      refine JL.go trivial (RX.movev (v := Value.int _ _) rfl) ?_
      refine JL.nil ?_
      have hnx : varint l.length ++ ((l.take (i + 1)).map fB).flatten = varint l.length ++ ((l.take i).map fB).flatten ++ fB q := by rw [map_take_snoc fB hq, ← List.append_assoc]
      rw [← bv_app, ← List.length_append, ← hnx] at ho3
      exact IH (i + 1, p3, c3, s3) _ _ (by simp only; omega) ⟨rfl, rfl, trivial⟩ ⟨rfl, (show Value.slice p3 _ c3 = Value.slice p3 (varint l.length ++ ((l.take (i + 1)).map fB).flatten).length c3 by rw [hnx, List.length_append (bs := fB q)]), trivial⟩ ⟨by simp only; omega, ho3, H.drop⟩
    · skip
      refine J.exit rfl ?_
      refine J.seq ?_
      refine J.region ?_
      refine JL.go trivial (RX.movev (v := Value.slice _ _ _) rfl) ?_
      refine JL.go trivial (RX.assignv (v := Value.slice _ _ _) rfl) ?_
      refine JL.go trivial (RX.assign) ?_
      refine JL.nil ?_
      refine J.ret2 (v := Value.slice _ _ _) (x := Value.int _ _) Tryd.func51 rfl rfl rfl ?_
      have : i = l.length := by omega
      subst this
      rw [List.take_length] at ho ⊢
      exact ⟨_, rfl, p, c, s, rfl, ho, H⟩
end Go.Proofs.YtippfdnjhcpekaaDoor

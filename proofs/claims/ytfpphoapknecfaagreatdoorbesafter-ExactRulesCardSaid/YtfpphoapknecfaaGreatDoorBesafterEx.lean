/- The transforms modulo a prime: the program. -/
import Derived.Test.YtfpphoapknecfaaGreatDoorBesafterAr
namespace Go.Proofs.YtfpphoapknecfaaGreatDoorBesafter
open Go Go.Eng
set_option maxRecDepth 100000
set_option linter.unusedVariables false
set_option linter.unusedSimpArgs false
theorem cl10 : callable Tryz.prog 10 = true := by kernel_rfl
theorem cl20 : callable Tryz.prog 20 = true := by kernel_rfl
theorem cl27 : callable Tryz.prog 27 = true := by kernel_rfl
theorem cl28 : callable Tryz.prog 28 = true := by kernel_rfl
theorem cl30 : callable Tryz.prog 30 = true := by kernel_rfl
theorem one37 : oneOf Tryz.prog 37 = true := by kernel_rfl
theorem sl33 : sliceOf Tryz.prog 33 = some (37, 1) := by kernel_rfl
theorem sz37 : szOf Tryz.prog 37 = some 1 := by kernel_rfl
theorem mkU : Tryz.prog.underlying 33 = some (.slice 37) ∧ ∃ i, Tryz.prog.info? 37 = some i ∧ i.zero = some (.int .u64 0) ∧ i.size = 1 ∧ i.bytes = 8 := ⟨by kernel_rfl, info_one (by kernel_rfl) (by kernel_rfl)⟩
theorem zerosU (n : Nat) : fnL (fun _ => Value.int .u64 0) n = u64sV (List.replicate n 0) := by
  induction n with
  | zero => rfl
  | succ n ih =>
    have e : fnL (fun _ => Value.int .u64 0) (n + 1) = fnL (fun _ => Value.int .u64 0) n ++ [Value.int .u64 0] := by simp [fnL, List.range_succ]
    rw [e, ih, List.replicate_succ', u64sV_app]; rfl
/-- A row whose place j holds f j. -/
def Row (ys : List Nat) (n : Nat) (f : Nat → Nat) : Prop := ys.length = n ∧ ∀ j, j < n → ys[j]? = some (f j)
theorem Row.zero (n : Nat) : Row (List.replicate n 0) n (fun _ => 0) := ⟨by simp, fun j hj => by simp [hj]⟩
theorem Row.ext {ys : List Nat} {n : Nat} {f g : Nat → Nat} (h : Row ys n f) (he : ∀ j, j < n → f j = g j) : Row ys n g := ⟨h.1, fun j hj => by rw [h.2 j hj, he j hj]⟩
theorem Row.set {ys : List Nat} {n i x : Nat} {f : Nat → Nat} (h : Row ys n f) (hi : i < n) : Row (ys.set i x) n (fun j => if j = i then x else f j) := by
  refine ⟨by rw [List.length_set, h.1], fun j hj => ?_⟩
  rw [List.getElem?_set]
  by_cases e : i = j
  · subst e; rw [if_pos rfl, if_pos (by rw [h.1]; exact hi)]; simp
  · rw [if_neg e, h.2 j hj]; simp [Ne.symm e]
theorem Row.eq {ys : List Nat} {n : Nat} {f : Nat → Nat} (h : Row ys n f) : ys = (List.range n).map f := by
  refine List.ext_getElem? fun j => ?_
  by_cases hj : j < n
  · rw [h.2 j hj]; simp [hj]
  · rw [List.getElem?_eq_none (by rw [h.1]; omega), List.getElem?_eq_none (by simp; omega)]
theorem Row.at_ {ys : List Nat} {n j : Nat} {f : Nat → Nat} (h : Row ys n f) (hj : j < n) : (u64sV ys)[j]? = some (.int .u64 ((f j : Nat) : Int)) := u64sV_get (h.2 j hj)
theorem ownFull {b : Nat} (ys : List Nat) : OwnSl 37 1 (some ⟨b, 0, none⟩) ys.length ys.length (u64sV ys) [(b, cel (u64sV ys) 37)] :=
  ⟨by simp [u64sV], .inr ⟨b, u64sV ys, rfl, rfl, Nat.le_refl _, by simp [u64sV], by simp [u64sV, List.take_of_length_le]⟩⟩
theorem ite_init (j k a : Nat) : (if j < k then a else 0) = if j = k then 0 else if j < k then a else 0 := by
  by_cases e : j = k
  · subst e; rw [if_pos rfl, if_neg (by omega)]
  · rw [if_neg e]
def atE (back : Bool) (n k j : Nat) : Nat := if back then (n - k) * j % n else k * j % n
theorem atE_lt {back : Bool} {n k j : Nat} (h : 0 < n) : atE back n k j < n := by unfold atE; split <;> exact Nat.mod_lt _ h
theorem atE_zero (back : Bool) (n k : Nat) : atE back n k 0 = 0 := by unfold atE; split <;> simp
theorem atE_back {n k j : Nat} (hk : k ≤ n) : (atE true n k j + n - k) % n = atE true n k (j + 1) := by
  unfold atE
  rw [if_pos rfl, if_pos rfl, Nat.mul_succ, Nat.add_sub_assoc hk, Nat.mod_add_mod]
theorem atE_forth {n k j : Nat} : (atE false n k j + k) % n = atE false n k (j + 1) := by
  unfold atE
  rw [if_neg (by simp), if_neg (by simp), Nat.mul_succ, Nat.mod_add_mod]
/-- Place k of the sums, ahead of the last product. -/
def trV (p r : Nat) (xs : List Nat) (back : Bool) (k : Nat) : Nat := sm p xs (fun j => pw p r (atE back xs.length k j)) xs.length
def trL (p g : Nat) (xs : List Nat) (back : Bool) : List Nat :=
  (List.range xs.length).map fun k => if back then trV p (pw p g ((p - 1) / xs.length)) xs true k * pw p xs.length (p - 2) % p else trV p (pw p g ((p - 1) / xs.length)) xs false k
/-- The error's number. -/
def exE (n : Nat) (prime : Int) : Nat := if prime < 0 ∨ 2 < prime then 17 else if n < 1 ∨ 1024 < n then 7 else if ((primes3.getD prime.toNat 0) - 1) % n = 0 then 0 else 11
def exL (xs : List Nat) (prime : Int) (back : Bool) : List Nat := if exE xs.length prime = 0 then trL (primes3.getD prime.toNat 0) (gens3.getD prime.toNat 0) xs back else []

set_option maxHeartbeats 1600000 in
theorem powers_b {w0 w : World} {F : List Seg} (H : Hp w0 w F) {r n p : Nat} (hn : n ≤ 1024) (hp : 1 < p) (hp2 : p < 4294967296) (hr : r < p) : Ret Tryz.prog 28 [.int .u64 ((r : Nat) : Int), .int .i64 ((n : Nat) : Int), .int .u64 ((p : Nat) : Int)] w fun v w' => ∃ b ys, v = .slice (some ⟨b, 0, none⟩) n n ∧ Row ys n (pw p r) ∧ Hp w0 w' ([(b, cel (u64sV (ys)) 37)] :: F) := by
  refine Calls.of_J (n := 27) Tryz.func28 rfl rfl rfl ?_
  refine J.seq ?_
  refine J.region ?_
  refine JL.go trivial (RX.assign) ?_
  refine JL.nil ?_
  refine J.seq ?_
  refine J.region ?_
  refine JL.go trivial (RX.movev (v := Value.int _ _) rfl) ?_
  refine JL.does trivial (EX.makeS (e := 37) (m := n) H mkU.1 mkU.2 rfl rfl rfl (by omega) (by omega) (by omega)) ?_
  rintro _ w ⟨b1, rfl, H⟩
  rw [zerosU] at H
  refine JL.go trivial (RX.assignv (v := Value.slice _ _ _) rfl) ?_
  refine JL.nil ?_
  refine J.seq ?_
  refine J.region ?_
  refine JL.go trivial (RX.assign) ?_
  refine JL.nil ?_
  refine J.seq ?_
  refine J.seq ?_
  refine J.region ?_
  refine JL.go trivial (RX.movev (v := Value.slice _ _ _) rfl) ?_
  refine JL.go trivial (RX.len_slice rfl (by rw [sl33]; rfl) rfl) ?_
  refine JL.go trivial (RX.move) ?_
  refine JL.nil ?_
  refine J.block ?_
  refine J.loop (ι := Nat × Nat × List Nat) (S := fun z => [(14, .int .i64 ((z.1 : Nat) : Int)), (8, .int .u64 ((z.2.1 : Nat) : Int))]) (Φ := fun z w => z.1 ≤ n ∧ z.2.1 = pw p r z.1 ∧ Row z.2.2 n (fun j => if j < z.1 then pw p r j else 0) ∧ Hp w0 w ([(b1, cel (u64sV (z.2.2)) 37)] :: F)) (μ := fun z => n - z.1) (C := [(0, _), (2, _), (7, _), (13, _)]) (0, 1, List.replicate n 0) ⟨rfl, rfl, rfl, rfl, trivial⟩ ⟨rfl, rfl, trivial⟩ ?_ ?_
  · exact ⟨by simp, (Nat.mod_eq_of_lt hp).symm, (Row.zero n).ext fun j _ => by simp, H⟩
  clear H
  rintro ⟨i, x, ys⟩ ρ w ⟨hi, hxe, hy, H⟩ IH
  simp only at hi hxe hy H
  have hP := pw_lt (show 0 < p by omega) r i
  rw [← hxe] at hP
  have hP2 := Nat.mod_lt (x * r) (show 0 < p by omega)
  dsimp only
  refine J.seq ?_
  refine J.region ?_
  refine JL.go trivial (RX.lt rfl rfl) ?_
  refine JL.nil ?_
  refine J.seq ?_
  refine J.cond_d rfl (fun hlt => ?_) (fun hlt => ?_)
  · skip
    refine J.skip ?_
    refine J.seq ?_
    refine J.block ?_
    refine J.seq ?_
    refine J.region ?_
    refine JL.go trivial (RX.movev (v := Value.int _ _) rfl) ?_
    refine JL.go trivial (RX.assignv (v := Value.int _ _) rfl) ?_
    refine JL.nil ?_
    refine J.seq ?_
    refine J.region ?_
    refine JL.go trivial (RX.movev (v := Value.slice _ _ _) rfl) ?_
    refine JL.go trivial (RX.movev (v := Value.int _ _) rfl) ?_
    refine JL.go trivial (RX.movev (v := Value.int _ _) rfl) ?_
    refine JL.go trivial (RX.indexAddr rfl rfl sl33 (by omega) (by omega) (o' := i) (by omega)) ?_
    refine JL.does trivial (EX.store (v := Value.int _ _) H rfl rfl (i := 0) rfl rfl (by rw [u64sV_len, hy.1]; omega) sz37 rfl rfl) ?_
    rintro _ w H
    refine JL.nil ?_
    refine J.region ?_
    refine JL.go trivial (RX.movev (v := Value.int _ _) rfl) ?_
    refine JL.go trivial (RX.movev (v := Value.int _ _) rfl) ?_
    refine JL.go trivial (RX.movev (v := Value.int _ _) rfl) ?_
    refine JL.does trivial (EX.call rfl cl29 rfl ((Mul_b H (by omega) (by omega) (by omega) hp2))) ?_
    rintro _ w ⟨rfl, H⟩
    refine JL.go trivial (RX.assignv (v := Value.int _ _) rfl) ?_
    refine JL.nil ?_
    refine J.inBlock ?_
    refine J.region ?_
    refine JL.go trivial (RX.add rfl rfl (wi (n := i + 1) (by omega) (by omega))) ?_
    refine JL.go trivial (RX.movev (v := Value.int _ _) rfl) ?_
    refine JL.nil ?_
    rw [← u64sV_set] at H
    have hst : x * r % p = pw p r (i + 1) := by rw [pw_add, pw_one, Nat.mod_eq_of_lt hr, hxe]
    refine IH (i + 1, x * r % p, ys.set i x) _ _ (by simp only; omega) ⟨rfl, rfl, rfl, rfl, trivial⟩ ⟨rfl, rfl, trivial⟩ ⟨by simp only; omega, hst, (hy.set (x := x) (by omega)).ext fun j hj => ?_, H⟩
    simp only
    by_cases e : j = i
    · subst e; rw [if_pos rfl, if_pos (by omega)]; exact hxe
    · rw [if_neg e]
      by_cases h : j < i
      · rw [if_pos h, if_pos (by omega)]
      · rw [if_neg h, if_neg (by omega)]
  · skip
    refine J.exit rfl ?_
    refine J.seq ?_
    refine J.region ?_
    refine JL.go trivial (RX.movev (v := Value.slice _ _ _) rfl) ?_
    refine JL.go trivial (RX.assignv (v := Value.slice _ _ _) rfl) ?_
    refine JL.nil ?_
    refine J.ret1 (v := Value.slice _ _ _) Tryz.func28 rfl rfl ?_
    exact ⟨_, rfl, b1, ys, rfl, hy.ext fun j hj => if_pos (by omega), H⟩
set_option maxHeartbeats 1600000 in
theorem tr_b {w0 w : World} {F : List Seg} (H : Hp w0 w F) {xs : List Nat} {px : Option Addr} {c : Nat} (hs : SlAt F px (u64sV xs)) (hx : ∀ x ∈ xs, x < 18446744073709551616) {p g : Nat} {fs : List Int} (G : GoodP p g fs) {i : Nat} (hi3 : primes3[i]? = some p) {back : Bool} (h1 : 1 ≤ xs.length) (h2 : xs.length ≤ 1024) (hd : (p - 1) % xs.length = 0) : Ret Tryz.prog 20 [.slice px xs.length c, .int .i64 ((i : Nat) : Int), .bool back] w fun v w' => ∃ b, v = .tuple #[.slice (some ⟨b, 0, none⟩) xs.length xs.length, .nilIface] ∧ Hp w0 w' ([(b, cel (u64sV (trL p g xs back)) 37)] :: F) := by
  refine Calls.of_J (n := 131) Tryz.func20 rfl rfl rfl ?_
  refine J.seq ?_
  have hlo := G.lo
  have hhi := G.hi
  have hn1 : ((xs.length : Nat) : Int) < 1 ↔ xs.length < 1 := by omega
  have hi4 : i < 3 := (List.getElem?_eq_some_iff.1 hi3).1
  refine J.region ?_
  refine JL.go trivial (RX.assign) ?_
  refine JL.go trivial (RX.assign) ?_
  refine JL.nil ?_
  refine J.seq ?_
  refine J.region ?_
  refine JL.does trivial (EX.call rfl cl10 rfl ((Primes_b H))) ?_
  rintro _ w ⟨b1, rfl, H⟩
  refine JL.go trivial (RX.assignv (v := Value.slice _ _ _) rfl) ?_
  refine JL.nil ?_
  refine J.seq ?_
  refine J.seq ?_
  refine J.region ?_
  refine JL.go trivial (RX.movev (v := Value.int _ _) rfl) ?_
  refine JL.go trivial (RX.lt rfl rfl) ?_
  refine JL.go trivial (RX.movev (v := Value.bool _) rfl) ?_
  refine JL.go ⟨_, rfl, (decide_eq_false (by omega))⟩ (RX.movev (v := Value.int _ _) rfl) ?_
  refine JL.go ⟨_, rfl, (decide_eq_false (by omega))⟩ (RX.movev (v := Value.slice _ _ _) rfl) ?_
  refine JL.go ⟨_, rfl, (decide_eq_false (by omega))⟩ (RX.len_slice rfl (by rw [sl33]; rfl) rfl) ?_
  refine JL.go ⟨_, rfl, (decide_eq_false (by omega))⟩ (RX.ge rfl rfl) ?_
  refine JL.go trivial (RX.pick_f rfl (decide_eq_false (by omega))) ?_
  refine JL.nil ?_
  refine J.cond_f rfl (decide_eq_false (by omega)) ?_
  refine J.skip ?_
  refine J.seq ?_
  refine J.region ?_
  refine JL.go trivial (RX.movev (v := Value.slice _ _ _) rfl) ?_
  refine JL.go trivial (RX.len_slice rfl (by rw [sl33]; rfl) rfl) ?_
  refine JL.go trivial (RX.assignv (v := Value.int _ _) rfl) ?_
  refine JL.nil ?_
  refine J.seq ?_
  refine J.seq ?_
  refine J.region ?_
  refine JL.go trivial (RX.movev (v := Value.int _ _) rfl) ?_
  refine JL.go trivial (RX.lt rfl rfl) ?_
  refine JL.go trivial (RX.movev (v := Value.bool _) rfl) ?_
  refine JL.go ⟨_, rfl, (decide_eq_false (by omega))⟩ (RX.movev (v := Value.int _ _) rfl) ?_
  refine JL.go ⟨_, rfl, (decide_eq_false (by omega))⟩ (RX.gt rfl rfl) ?_
  refine JL.go trivial (RX.pick_f rfl (decide_eq_false (by omega))) ?_
  refine JL.nil ?_
  refine J.cond_f rfl (decide_eq_false (by omega)) ?_
  refine J.skip ?_
  refine J.seq ?_
  refine J.region ?_
  refine JL.go trivial (RX.movev (v := Value.slice _ _ _) rfl) ?_
  refine JL.go trivial (RX.movev (v := Value.int _ _) rfl) ?_
  refine JL.go trivial (RX.indexAddr rfl rfl sl33 (by omega) (by omega) (o' := i) (by omega)) ?_
  refine JL.go trivial (RX.load H rfl (i := 0) (v := .int .u64 ((p : Nat) : Int)) rfl (u64sV_get hi3) one37) ?_
  refine JL.go trivial (RX.assignv (v := Value.int _ _) rfl) ?_
  refine JL.nil ?_
  refine J.seq ?_
  refine J.region ?_
  refine JL.go trivial (RX.movev (v := Value.int _ _) rfl) ?_
  refine JL.go trivial (RX.movev (v := Value.int _ _) rfl) ?_
  refine JL.does trivial (EX.call rfl cl27 rfl ((root_b H G h1 h2 hd))) ?_
  rintro _ w ⟨rfl, H⟩
  refine JL.go trivial (RX.movev (v := Value.tuple _) rfl) ?_
  refine JL.go trivial (RX.extract rfl rfl) ?_
  refine JL.go trivial (RX.extract rfl rfl) ?_
  refine JL.go trivial (RX.assignv (v := Value.int _ _) rfl) ?_
  refine JL.go trivial (RX.assign) ?_
  refine JL.nil ?_
  refine J.seq ?_
  refine J.seq ?_
  refine J.region ?_
  refine JL.go trivial (RX.move) ?_
  refine JL.go trivial (RX.ifnil_neq rfl rfl rfl if25) ?_
  refine JL.nil ?_
  refine J.cond_f rfl rfl ?_
  refine J.skip ?_
  refine J.seq ?_
  have hr := pw_lt (show 0 < p by omega) g ((p - 1) / xs.length)
  generalize hR : pw p g ((p - 1) / xs.length) = R at hr ⊢
  refine J.region ?_
  refine JL.go trivial (RX.movev (v := Value.int _ _) rfl) ?_
  refine JL.go trivial (RX.movev (v := Value.int _ _) rfl) ?_
  refine JL.go trivial (RX.movev (v := Value.int _ _) rfl) ?_
  refine JL.does trivial (EX.call rfl cl28 rfl ((powers_b H h2 (by omega) hhi hr))) ?_
  rintro _ w ⟨b2, ps, rfl, hps, H⟩
  refine JL.go trivial (RX.assignv (v := Value.slice _ _ _) rfl) ?_
  refine JL.nil ?_
  refine J.seq ?_
  refine J.region ?_
  refine JL.go trivial (RX.movev (v := Value.int _ _) rfl) ?_
  refine JL.does trivial (EX.makeS (e := 37) (m := xs.length) H mkU.1 mkU.2 rfl rfl rfl (by omega) (by omega) (by omega)) ?_
  rintro _ w ⟨b3, rfl, H⟩
  rw [zerosU] at H
  refine JL.go trivial (RX.assignv (v := Value.slice _ _ _) rfl) ?_
  refine JL.nil ?_
  refine J.seq ?_
  refine J.seq ?_
  refine J.region ?_
  refine JL.go trivial (RX.movev (v := Value.slice _ _ _) rfl) ?_
  refine JL.go trivial (RX.len_slice rfl (by rw [sl33]; rfl) rfl) ?_
  refine JL.go trivial (RX.move) ?_
  refine JL.nil ?_
  refine J.block ?_
  refine J.loop (ι := Nat × List Nat) (S := fun z => [(62, .int .i64 ((z.1 : Nat) : Int))]) (Φ := fun z w => z.1 ≤ xs.length ∧ Row z.2 xs.length (fun j => if j < z.1 then trV p R xs back j else 0) ∧ Hp w0 w ([(b3, cel (u64sV (z.2)) 37)] :: [(b2, cel (u64sV (ps)) 37)] :: [(b1, cel (u64sV (primes3)) 37)] :: F)) (μ := fun z => xs.length - z.1) (C := [(0, _), (2, _), (9, _), (10, _), (13, _), (14, _), (61, _)]) (0, List.replicate xs.length 0) ⟨rfl, rfl, rfl, rfl, rfl, rfl, rfl, trivial⟩ ⟨rfl, trivial⟩ ?_ ?_
  · exact ⟨by simp, (Row.zero _).ext fun j _ => by simp, H⟩
  clear H
  rintro ⟨k, ys⟩ ρ w ⟨hk, hy, H⟩ IH
  simp only at hk hy H
  dsimp only
  refine J.seq ?_
  refine J.region ?_
  refine JL.go trivial (RX.lt rfl rfl) ?_
  refine JL.nil ?_
  refine J.seq ?_
  refine J.cond_d rfl (fun hklt => ?_) (fun hklt => ?_)
  · skip
    refine J.skip ?_
    refine J.seq ?_
    refine J.block ?_
    refine J.seq ?_
    refine J.region ?_
    refine JL.go trivial (RX.movev (v := Value.int _ _) rfl) ?_
    refine JL.go trivial (RX.assignv (v := Value.int _ _) rfl) ?_
    refine JL.nil ?_
    refine J.seq ?_
    refine J.region ?_
    refine JL.go trivial (RX.assign) ?_
    refine JL.nil ?_
    refine J.seq ?_
    refine J.region ?_
    refine JL.go trivial (RX.movev (v := Value.slice _ _ _) rfl) ?_
    refine JL.go trivial (RX.len_slice rfl (by rw [sl33]; rfl) rfl) ?_
    refine JL.go trivial (RX.move) ?_
    refine JL.nil ?_
    refine J.block ?_
    refine J.loop (ι := Nat × Nat × List Nat) (S := fun z => [(67, .int .i64 ((z.1 : Nat) : Int)), (16, .int .i64 ((z.2.1 : Nat) : Int))]) (Φ := fun z w => z.1 ≤ xs.length ∧ z.2.1 = atE back xs.length k z.1 ∧ Row z.2.2 xs.length (fun j => if j = k then sm p xs (fun j => pw p R (atE back xs.length k j)) z.1 else if j < k then trV p R xs back j else 0) ∧ Hp w0 w ([(b3, cel (u64sV (z.2.2)) 37)] :: [(b2, cel (u64sV (ps)) 37)] :: [(b1, cel (u64sV (primes3)) 37)] :: F)) (μ := fun z => xs.length - z.1) (C := [(0, _), (2, _), (9, _), (10, _), (13, _), (14, _), (15, _), (61, _), (62, _), (65, _), (66, _)]) (0, 0, ys) ⟨rfl, rfl, rfl, rfl, rfl, rfl, rfl, rfl, rfl, rfl, rfl, trivial⟩ ⟨rfl, rfl, trivial⟩ ?_ ?_
    · exact ⟨by simp, (atE_zero _ _ _).symm, hy.ext fun j _ => ite_init j k (trV p R xs back j), H⟩
    clear H hy
    rintro ⟨j, at_, ys⟩ ρ w ⟨hj, hae, hy, H⟩ IH2
    simp only at hj hae hy H
    have hat := atE_lt (back := back) (k := k) (j := j) (show 0 < xs.length by omega)
    rw [← hae] at hat
    have hsm := sm_lt (show 0 < p by omega) xs (fun j => pw p R (atE back xs.length k j)) j
    dsimp only
    refine J.seq ?_
    refine J.region ?_
    refine JL.go trivial (RX.lt rfl rfl) ?_
    refine JL.nil ?_
    refine J.seq ?_
    refine J.cond_d rfl (fun hjlt => ?_) (fun hjlt => ?_)
    · skip
      obtain ⟨x, hxj⟩ : ∃ x, xs[j]? = some x := ⟨_, List.getElem?_eq_getElem (by omega)⟩
      have hxl := hx x (List.mem_of_getElem? hxj)
      obtain ⟨pb, po, rfl, hpp⟩ := hs.some (by rw [u64sV_len]; omega)
      have hyk : ys[k]? = some (sm p xs (fun j => pw p R (atE back xs.length k j)) j) := by rw [hy.2 k (by omega)]; simp
      have hwr := pw_lt (show 0 < p by omega) R (atE back xs.length k j)
      rw [← hae] at hwr
      have hpa := hps.at_ hat
      have hmm := Nat.mod_lt (x * pw p R at_) (show 0 < p by omega)
      refine J.skip ?_
      refine J.seq ?_
      refine J.block ?_
      refine J.seq ?_
      refine J.region ?_
      refine JL.go trivial (RX.indexAddr rfl rfl sl33 (by omega) (by omega) (o' := po + j) (by omega)) ?_
      refine JL.go trivial (RX.loadS H hs.cons.cons.cons rfl (j := j) rfl (u64sV_get hxj) one37) ?_
      refine JL.go trivial (RX.assignv (v := Value.int _ _) rfl) ?_
      refine JL.nil ?_
      refine J.seq ?_
      refine J.any hmix fun w hs => ?_
      replace H := H.same hs; clear hs
      refine JA.stage (listed := [false, false, false, false, false, false, false, false, false, false, false, false, false, false, false, false, false, false]) 17 [0, 1, 2, 3, 4, 5, 6, 7, 8, 9, 10, 11, 12, 13, 14, 15, 16] H (by kernel_rfl) rfl rfl ?_
      refine JI.go rfl trivial (fun w H => RX.movev (v := Value.slice _ _ _) rfl) ?_
      refine JI.go rfl trivial (fun w H => RX.movev (v := Value.int _ _) rfl) ?_
      refine JI.go rfl trivial (fun w H => RX.movev (v := Value.slice _ _ _) rfl) ?_
      refine JI.go rfl trivial (fun w H => RX.movev (v := Value.int _ _) rfl) ?_
      refine JI.go rfl trivial (fun w H => RX.indexAddr rfl rfl sl33 (by omega) (by omega) (o' := k) (by omega)) ?_
      refine JI.go rfl trivial (fun w H => RX.load H rfl (i := 0) (v := .int .u64 _) rfl (u64sV_get hyk) one37) ?_
      refine JI.go rfl trivial (fun w H => RX.movev (v := Value.int _ _) rfl) ?_
      refine JI.go rfl trivial (fun w H => RX.movev (v := Value.slice _ _ _) rfl) ?_
      refine JI.go rfl trivial (fun w H => RX.movev (v := Value.int _ _) rfl) ?_
      refine JI.go rfl trivial (fun w H => RX.indexAddr rfl rfl sl33 (by omega) (by omega) (o' := at_) (by omega)) ?_
      refine JI.go rfl trivial (fun w H => RX.load H rfl (i := 1) (v := .int .u64 _) rfl hpa one37) ?_
      refine JI.go rfl trivial (fun w H => RX.movev (v := Value.int _ _) rfl) ?_
      refine JI.call rfl trivial (fun w H => run_callq rfl cl29 rfl) (fun w H => (Mul_b H hxl (by omega) (by omega) hhi)) ?_
      refine JI.go rfl trivial (fun w H => RX.add rfl rfl (wn rfl (by omega))) ?_
      refine JI.go rfl trivial (fun w H => RX.movev (v := Value.int _ _) rfl) ?_
      refine JI.go rfl trivial (fun w H => RX.rem rfl rfl (by omega) rem_nat) ?_
      refine JI.go rfl trivial (fun w H => RX.indexAddr rfl rfl sl33 (by omega) (by omega) (o' := k) (by omega)) ?_
      refine JI.nil fun w H => ?_
      refine JL.does trivial (EX.store (v := Value.int _ _) H rfl rfl (i := 0) rfl rfl (by rw [u64sV_len, hy.1]; omega) sz37 rfl rfl) ?_
      rintro _ w H
      refine JL.nil ?_
      have hst : (sm p xs (fun j => pw p R (atE back xs.length k j)) j + x * pw p R at_ % p) % p = sm p xs (fun j => pw p R (atE back xs.length k j)) (j + 1) := by rw [sm, List.getD_eq_getElem?_getD, hxj, hae]; rfl
      rw [hst, ← u64sV_set] at H
      have hy2 := hy.set (i := k) (x := sm p xs (fun j => pw p R (atE back xs.length k j)) (j + 1)) (by omega)
      refine J.seq ?_
      refine J.region ?_
      refine JL.go trivial (RX.movev (v := Value.bool _) rfl) ?_
      refine JL.nil ?_
      refine J.cond rfl (fun hbk => ?_) (fun hbk => ?_)
      · skip
        subst hbk
        refine J.region ?_
        refine JL.go trivial (RX.movev (v := Value.int _ _) rfl) ?_
        refine JL.go trivial (RX.movev (v := Value.int _ _) rfl) ?_
        refine JL.go trivial (RX.add rfl rfl (wi (n := at_ + xs.length) (by omega) (by omega))) ?_
        refine JL.go trivial (RX.movev (v := Value.int _ _) rfl) ?_
        refine JL.go trivial (RX.sub rfl rfl (wi (n := at_ + xs.length - k) (by omega) (by omega))) ?_
        refine JL.go trivial (RX.movev (v := Value.int _ _) rfl) ?_
        refine JL.go trivial (RX.rem rfl rfl (by omega) (r := ((atE true xs.length k (j + 1) : Nat) : Int)) (by rw [rem_nat, hae, atE_back hk])) ?_
        refine JL.go trivial (RX.assignv (v := Value.int _ _) rfl) ?_
        refine JL.nil ?_
        refine J.inBlock ?_
        refine J.region ?_
        refine JL.go trivial (RX.add rfl rfl (wi (n := j + 1) (by omega) (by omega))) ?_
        refine JL.go trivial (RX.movev (v := Value.int _ _) rfl) ?_
        refine JL.nil ?_
        refine IH2 (j + 1, _, ys.set k _) _ _ (by simp only; omega) ⟨rfl, rfl, rfl, rfl, rfl, rfl, rfl, rfl, rfl, rfl, rfl, trivial⟩ ⟨rfl, rfl, trivial⟩ ⟨by simp only; omega, rfl, hy2.ext fun i hi => ?_, H⟩
        simp only
        by_cases e : i = k
        · rw [if_pos e, if_pos e]
        · rw [if_neg e, if_neg e, if_neg e]
      · skip
        subst hbk
        refine J.region ?_
        refine JL.go trivial (RX.movev (v := Value.int _ _) rfl) ?_
        refine JL.go trivial (RX.movev (v := Value.int _ _) rfl) ?_
        refine JL.go trivial (RX.add rfl rfl (wi (n := at_ + k) (by omega) (by omega))) ?_
        refine JL.go trivial (RX.movev (v := Value.int _ _) rfl) ?_
        refine JL.go trivial (RX.rem rfl rfl (by omega) (r := ((atE false xs.length k (j + 1) : Nat) : Int)) (by rw [rem_nat, hae, atE_forth])) ?_
        refine JL.go trivial (RX.assignv (v := Value.int _ _) rfl) ?_
        refine JL.nil ?_
        refine J.inBlock ?_
        refine J.region ?_
        refine JL.go trivial (RX.add rfl rfl (wi (n := j + 1) (by omega) (by omega))) ?_
        refine JL.go trivial (RX.movev (v := Value.int _ _) rfl) ?_
        refine JL.nil ?_
        refine IH2 (j + 1, _, ys.set k _) _ _ (by simp only; omega) ⟨rfl, rfl, rfl, rfl, rfl, rfl, rfl, rfl, rfl, rfl, rfl, trivial⟩ ⟨rfl, rfl, trivial⟩ ⟨by simp only; omega, rfl, hy2.ext fun i hi => ?_, H⟩
        simp only
        by_cases e : i = k
        · rw [if_pos e, if_pos e]
        · rw [if_neg e, if_neg e, if_neg e]
    · skip
      have hje : j = xs.length := by omega
      subst hje
      refine J.exit rfl ?_
      refine J.inBlock ?_
      refine J.region ?_
      refine JL.go trivial (RX.add rfl rfl (wi (n := k + 1) (by omega) (by omega))) ?_
      refine JL.go trivial (RX.movev (v := Value.int _ _) rfl) ?_
      refine JL.nil ?_
      refine IH (k + 1, ys) _ _ (by simp only; omega) ⟨rfl, rfl, rfl, rfl, rfl, rfl, rfl, trivial⟩ ⟨rfl, trivial⟩ ⟨by simp only; omega, hy.ext fun j hj => ?_, H⟩
      simp only
      by_cases e : j = k
      · subst e; rw [if_pos rfl, if_pos (by omega)]; rfl
      · rw [if_neg e]
        by_cases h : j < k
        · rw [if_pos h, if_pos (by omega)]
        · rw [if_neg h, if_neg (by omega)]
  · skip
    have hke : k = xs.length := by omega
    subst hke
    refine J.exit rfl ?_
    refine J.seq ?_
    refine J.seq ?_
    refine J.region ?_
    refine JL.go trivial (RX.movev (v := Value.bool _) rfl) ?_
    refine JL.nil ?_
    refine J.cond rfl (fun hbk => ?_) (fun hbk => ?_)
    · skip
      subst hbk
      obtain ⟨X, hX, hX2⟩ := G.euclid h1 h2 hd
      refine J.seq ?_
      refine J.region ?_
      refine JL.go trivial (RX.movev (v := Value.int _ _) rfl) ?_
      refine JL.go trivial (RX.conv rfl (by rw [ki3]; rfl) ki37 (wn rfl (by omega))) ?_
      refine JL.go trivial (RX.movev (v := Value.int _ _) rfl) ?_
      refine JL.does trivial (EX.call rfl cl30 rfl ((Inverse_b H (n := xs.length) (by omega) (by omega) hhi hX))) ?_
      rintro _ w ⟨rfl, H⟩
      refine JL.go trivial (RX.movev (v := Value.tuple _) rfl) ?_
      refine JL.go trivial (RX.extract rfl rfl) ?_
      refine JL.go trivial (RX.extract rfl rfl) ?_
      refine JL.go trivial (RX.assignv (v := Value.int _ _) rfl) ?_
      refine JL.go trivial (RX.assign) ?_
      refine JL.nil ?_
      refine J.seq ?_
      refine J.seq ?_
      refine J.region ?_
      refine JL.go trivial (RX.move) ?_
      refine JL.go trivial (RX.ifnil_neq rfl rfl rfl if25) ?_
      refine JL.nil ?_
      refine J.cond_f rfl rfl ?_
      refine J.skip ?_
      refine J.seq ?_
      rw [hX2]
      have hiv := pw_lt (show 0 < p by omega) xs.length (p - 2)
      have hV : ∀ j, trV p R xs true j < p := fun j => sm_lt (by omega) _ _ _
      refine J.region ?_
      refine JL.go trivial (RX.movev (v := Value.slice _ _ _) rfl) ?_
      refine JL.go trivial (RX.len_slice rfl (by rw [sl33]; rfl) rfl) ?_
      refine JL.go trivial (RX.move) ?_
      refine JL.nil ?_
      refine J.block ?_
      refine J.loop (ι := Nat × List Nat) (S := fun z => [(116, .int .i64 ((z.1 : Nat) : Int))]) (Φ := fun z w => z.1 ≤ xs.length ∧ Row z.2 xs.length (fun j => if j < z.1 then trV p R xs true j * pw p xs.length (p - 2) % p else trV p R xs true j) ∧ Hp w0 w ([(b3, cel (u64sV (z.2)) 37)] :: [(b2, cel (u64sV (ps)) 37)] :: [(b1, cel (u64sV (primes3)) 37)] :: F)) (μ := fun z => xs.length - z.1) (C := [(10, _), (14, _), (19, _), (115, _)]) (0, ys) ⟨rfl, rfl, rfl, rfl, trivial⟩ ⟨rfl, trivial⟩ ?_ ?_
      · exact ⟨by simp, hy.ext fun j hj => by simp only; rw [if_pos hj, if_neg (by omega)], H⟩
      clear H hy
      rintro ⟨j, ys⟩ ρ w ⟨hj, hy, H⟩ IH3
      simp only at hj hy H
      dsimp only
      refine J.seq ?_
      refine J.region ?_
      refine JL.go trivial (RX.lt rfl rfl) ?_
      refine JL.nil ?_
      refine J.seq ?_
      refine J.cond_d rfl (fun hjlt => ?_) (fun hjlt => ?_)
      · skip
        have hyk : ys[j]? = some (trV p R xs true j) := by rw [hy.2 j (by omega)]; simp
        have hVj := hV j
        refine J.skip ?_
        refine J.seq ?_
        refine J.block ?_
        refine J.seq ?_
        refine J.region ?_
        refine JL.go trivial (RX.movev (v := Value.int _ _) rfl) ?_
        refine JL.go trivial (RX.assignv (v := Value.int _ _) rfl) ?_
        refine JL.nil ?_
        refine J.region ?_
        refine JL.go trivial (RX.movev (v := Value.slice _ _ _) rfl) ?_
        refine JL.go trivial (RX.movev (v := Value.int _ _) rfl) ?_
        refine JL.go trivial (RX.movev (v := Value.slice _ _ _) rfl) ?_
        refine JL.go trivial (RX.movev (v := Value.int _ _) rfl) ?_
        refine JL.go trivial (RX.indexAddr rfl rfl sl33 (by omega) (by omega) (o' := j) (by omega)) ?_
        refine JL.go trivial (RX.load H rfl (i := 0) (v := .int .u64 _) rfl (u64sV_get hyk) one37) ?_
        refine JL.go trivial (RX.movev (v := Value.int _ _) rfl) ?_
        refine JL.go trivial (RX.movev (v := Value.int _ _) rfl) ?_
        refine JL.does trivial (EX.call rfl cl29 rfl ((Mul_b H (by omega) (by omega) (by omega) hhi))) ?_
        rintro _ w ⟨rfl, H⟩
        refine JL.go trivial (RX.indexAddr rfl rfl sl33 (by omega) (by omega) (o' := j) (by omega)) ?_
        refine JL.does trivial (EX.store (v := Value.int _ _) H rfl rfl (i := 0) rfl rfl (by rw [u64sV_len, hy.1]; omega) sz37 rfl rfl) ?_
        rintro _ w H
        refine JL.nil ?_
        refine J.inBlock ?_
        refine J.region ?_
        refine JL.go trivial (RX.add rfl rfl (wi (n := j + 1) (by omega) (by omega))) ?_
        refine JL.go trivial (RX.movev (v := Value.int _ _) rfl) ?_
        refine JL.nil ?_
        rw [← u64sV_set] at H
        refine IH3 (j + 1, ys.set j (trV p R xs true j * pw p xs.length (p - 2) % p)) _ _ (by simp only; omega) ⟨rfl, rfl, rfl, rfl, trivial⟩ ⟨rfl, trivial⟩ ⟨by simp only; omega, (hy.set (by omega)).ext fun i hi => ?_, H⟩
        simp only
        by_cases e : i = j
        · subst e; rw [if_pos rfl, if_pos (by omega)]
        · rw [if_neg e]
          by_cases h : i < j
          · rw [if_pos h, if_pos (by omega)]
          · rw [if_neg h, if_neg (by omega)]
      · skip
        have hje : j = xs.length := by omega
        subst hje
        refine J.exit rfl ?_
        refine J.seq ?_
        refine J.region ?_
        refine JL.go trivial (RX.movev (v := Value.slice _ _ _) rfl) ?_
        refine JL.go trivial (RX.assignv (v := Value.slice _ _ _) rfl) ?_
        refine JL.go trivial (RX.assign) ?_
        refine JL.nil ?_
        refine J.ret2 (v := Value.slice _ _ _) Tryz.func20 rfl rfl rfl ?_
        have he : ys = trL p g xs true := by
          rw [(hy.ext (g := fun k => trV p R xs true k * pw p xs.length (p - 2) % p) fun j hj => if_pos hj).eq, trL, hR]; rfl
        rw [he] at H
        exact ⟨_, rfl, b3, rfl, ((H.pull 1 rfl).drop.pull 1 rfl).drop⟩
    · skip
      subst hbk
      refine J.skip ?_
      refine J.seq ?_
      refine J.region ?_
      refine JL.go trivial (RX.movev (v := Value.slice _ _ _) rfl) ?_
      refine JL.go trivial (RX.assignv (v := Value.slice _ _ _) rfl) ?_
      refine JL.go trivial (RX.assign) ?_
      refine JL.nil ?_
      refine J.ret2 (v := Value.slice _ _ _) Tryz.func20 rfl rfl rfl ?_
      have he : ys = trL p g xs false := by
        rw [(hy.ext (g := fun k => trV p R xs false k) fun j hj => if_pos hj).eq, trL, hR]; rfl
      rw [he] at H
      exact ⟨_, rfl, b3, rfl, ((H.pull 1 rfl).drop.pull 1 rfl).drop⟩
theorem pw_n {p g n : Nat} {fs : List Int} (G : GoodP p g fs) (hd : (p - 1) % n = 0) : pw p (pw p g ((p - 1) / n)) n = 1 % p := by
  rw [pw_pw, Nat.div_mul_cancel (Nat.dvd_of_mod_eq_zero hd), G.one, Nat.mod_eq_of_lt (by have := G.lo; omega)]
theorem pw_inv {p g n : Nat} {fs : List Int} (G : GoodP p g fs) : pw p (pw p g ((p - 1) / n)) (p - 2) * pw p g ((p - 1) / n) % p = 1 % p := by
  have hlo := G.lo
  have e1 : pw p (pw p g ((p - 1) / n)) (p - 2) * pw p g ((p - 1) / n) % p = pw p (pw p g ((p - 1) / n)) (p - 2 + 1) := by
    rw [pw_add, pw_one, Nat.mul_mod_mod]
  rw [e1, show p - 2 + 1 = p - 1 by omega, pw_pw, Nat.mul_comm, ← pw_pw, G.one, pw_base_one]
theorem tr_forth {p g : Nat} {fs : List Int} (G : GoodP p g fs) {xs : List Nat} (hd : (p - 1) % xs.length = 0) : trL p g xs false = dft p (pw p g ((p - 1) / xs.length)) xs := by
  unfold trL dft
  refine List.map_congr_left fun k _ => ?_
  show trV p _ xs false k = _
  unfold trV
  refine sm_ext (fun j => ?_) _
  show pw p _ (if false = true then _ else k * j % xs.length) = _
  rw [if_neg (by simp), pw_red (pw_n G hd)]
theorem tr_back {p g : Nat} {fs : List Int} (G : GoodP p g fs) {xs : List Nat} (hd : (p - 1) % xs.length = 0) : trL p g xs true = (dft p (pw p (pw p g ((p - 1) / xs.length)) (p - 2)) xs).map fun v => v * pw p xs.length (p - 2) % p := by
  unfold trL dft
  rw [List.map_map]
  refine List.map_congr_left fun k hk => ?_
  have hk2 : k < xs.length := List.mem_range.1 hk
  show trV p _ xs true k * _ % p = sm p xs _ xs.length * _ % p
  have : trV p (pw p g ((p - 1) / xs.length)) xs true k = sm p xs (fun j => pw p (pw p (pw p g ((p - 1) / xs.length)) (p - 2)) (k * j)) xs.length := by
    unfold trV
    refine sm_ext (fun j => ?_) _
    show pw p _ (if true = true then (xs.length - k) * j % xs.length else _) = _
    rw [if_pos rfl]
    exact pw_back (pw_n G hd) (pw_inv G) (by omega)
  rw [this]
theorem exE_ok {n : Nat} {i : Nat} {p : Nat} (hi : primes3[i]? = some p) (h1 : 1 ≤ n) (h2 : n ≤ 1024) : exE n (i : Int) = if (p - 1) % n = 0 then 0 else 11 := by
  have hi4 : i < 3 := (List.getElem?_eq_some_iff.1 hi).1
  unfold exE
  rw [if_neg (by omega), if_neg (by omega), Int.toNat_natCast, List.getD_eq_getElem?_getD, hi]
  rfl

set_option maxHeartbeats 1600000 in
theorem tr_e1 {w0 w : World} {F : List Seg} (H : Hp w0 w F) {E : Nat → Value} {Q : Nat → Addr} (hE : Errs F E Q) {n c : Nat} {px : Option Addr} {prime : Int} {back : Bool} (h : prime < 0) : Ret Tryz.prog 20 [.slice px n c, .int .i64 prime, .bool back] w fun v w' => v = .tuple #[.slice none 0 0, E 17] ∧ Hp w0 w' F := by
  refine Calls.of_J (n := 131) Tryz.func20 rfl rfl rfl ?_
  refine J.seq ?_
  refine J.region ?_
  refine JL.go trivial (RX.assign) ?_
  refine JL.go trivial (RX.assign) ?_
  refine JL.nil ?_
  refine J.seq ?_
  refine J.region ?_
  refine JL.does trivial (EX.call rfl cl10 rfl ((Primes_b H))) ?_
  rintro _ w ⟨b1, rfl, H⟩
  refine JL.go trivial (RX.assignv (v := Value.slice _ _ _) rfl) ?_
  refine JL.nil ?_
  refine J.seq ?_
  refine J.seq ?_
  refine J.region ?_
  refine JL.go trivial (RX.movev (v := Value.int _ _) rfl) ?_
  refine JL.go trivial (RX.lt rfl rfl) ?_
  refine JL.go trivial (RX.movev (v := Value.bool _) rfl) ?_
  refine JL.no ⟨_, rfl, gno (decide_eq_true (by omega))⟩ ?_
  refine JL.no ⟨_, rfl, gno (decide_eq_true (by omega))⟩ ?_
  refine JL.no ⟨_, rfl, gno (decide_eq_true (by omega))⟩ ?_
  refine JL.no ⟨_, rfl, gno (decide_eq_true (by omega))⟩ ?_
  refine JL.go trivial (RX.pick_t rfl (decide_eq_true (by omega))) ?_
  refine JL.nil ?_
  refine J.cond_t rfl rfl ?_
  refine J.seq ?_
  refine J.quietH H hmix (by kernel_rfl) ?_
  refine JQ.go trivial (fun w H => RX.loadG H rfl (hE.at_ 17 (by decide) (by decide)).at_.cons one25) ?_
  refine JQ.go trivial (fun w H => RX.assign) ?_
  refine JQ.go trivial (fun w H => RX.assignv (v := E 17) rfl) ?_
  refine JQ.nil fun w H => ?_
  refine J.ret2 (v := Value.slice _ _ _) Tryz.func20 rfl rfl rfl ?_
  exact ⟨_, rfl, rfl, H.drop⟩
set_option maxHeartbeats 1600000 in
theorem tr_e2 {w0 w : World} {F : List Seg} (H : Hp w0 w F) {E : Nat → Value} {Q : Nat → Addr} (hE : Errs F E Q) {n c : Nat} {px : Option Addr} {prime : Int} {back : Bool} (h : 2 < prime) : Ret Tryz.prog 20 [.slice px n c, .int .i64 prime, .bool back] w fun v w' => v = .tuple #[.slice none 0 0, E 17] ∧ Hp w0 w' F := by
  refine Calls.of_J (n := 131) Tryz.func20 rfl rfl rfl ?_
  refine J.seq ?_
  refine J.region ?_
  refine JL.go trivial (RX.assign) ?_
  refine JL.go trivial (RX.assign) ?_
  refine JL.nil ?_
  refine J.seq ?_
  refine J.region ?_
  refine JL.does trivial (EX.call rfl cl10 rfl ((Primes_b H))) ?_
  rintro _ w ⟨b1, rfl, H⟩
  refine JL.go trivial (RX.assignv (v := Value.slice _ _ _) rfl) ?_
  refine JL.nil ?_
  refine J.seq ?_
  refine J.seq ?_
  refine J.region ?_
  refine JL.go trivial (RX.movev (v := Value.int _ _) rfl) ?_
  refine JL.go trivial (RX.lt rfl rfl) ?_
  refine JL.go trivial (RX.movev (v := Value.bool _) rfl) ?_
  refine JL.go ⟨_, rfl, (decide_eq_false (by omega))⟩ (RX.movev (v := Value.int _ _) rfl) ?_
  refine JL.go ⟨_, rfl, (decide_eq_false (by omega))⟩ (RX.movev (v := Value.slice _ _ _) rfl) ?_
  refine JL.go ⟨_, rfl, (decide_eq_false (by omega))⟩ (RX.len_slice rfl (by rw [sl33]; rfl) rfl) ?_
  refine JL.go ⟨_, rfl, (decide_eq_false (by omega))⟩ (RX.ge rfl rfl) ?_
  refine JL.go trivial (RX.pick_f rfl (decide_eq_false (by omega))) ?_
  refine JL.nil ?_
  refine J.cond_t rfl (decide_eq_true (by omega)) ?_
  refine J.seq ?_
  refine J.quietH H hmix (by kernel_rfl) ?_
  refine JQ.go trivial (fun w H => RX.loadG H rfl (hE.at_ 17 (by decide) (by decide)).at_.cons one25) ?_
  refine JQ.go trivial (fun w H => RX.assign) ?_
  refine JQ.go trivial (fun w H => RX.assignv (v := E 17) rfl) ?_
  refine JQ.nil fun w H => ?_
  refine J.ret2 (v := Value.slice _ _ _) Tryz.func20 rfl rfl rfl ?_
  exact ⟨_, rfl, rfl, H.drop⟩
set_option maxHeartbeats 1600000 in
theorem tr_e3 {w0 w : World} {F : List Seg} (H : Hp w0 w F) {E : Nat → Value} {Q : Nat → Addr} (hE : Errs F E Q) {n c : Nat} {px : Option Addr} {prime : Int} {back : Bool} (h0 : 0 ≤ prime) (h3 : prime ≤ 2) (h : n < 1) : Ret Tryz.prog 20 [.slice px n c, .int .i64 prime, .bool back] w fun v w' => v = .tuple #[.slice none 0 0, E 7] ∧ Hp w0 w' F := by
  refine Calls.of_J (n := 131) Tryz.func20 rfl rfl rfl ?_
  refine J.seq ?_
  refine J.region ?_
  refine JL.go trivial (RX.assign) ?_
  refine JL.go trivial (RX.assign) ?_
  refine JL.nil ?_
  refine J.seq ?_
  refine J.region ?_
  refine JL.does trivial (EX.call rfl cl10 rfl ((Primes_b H))) ?_
  rintro _ w ⟨b1, rfl, H⟩
  refine JL.go trivial (RX.assignv (v := Value.slice _ _ _) rfl) ?_
  refine JL.nil ?_
  refine J.seq ?_
  refine J.seq ?_
  refine J.region ?_
  refine JL.go trivial (RX.movev (v := Value.int _ _) rfl) ?_
  refine JL.go trivial (RX.lt rfl rfl) ?_
  refine JL.go trivial (RX.movev (v := Value.bool _) rfl) ?_
  refine JL.go ⟨_, rfl, (decide_eq_false (by omega))⟩ (RX.movev (v := Value.int _ _) rfl) ?_
  refine JL.go ⟨_, rfl, (decide_eq_false (by omega))⟩ (RX.movev (v := Value.slice _ _ _) rfl) ?_
  refine JL.go ⟨_, rfl, (decide_eq_false (by omega))⟩ (RX.len_slice rfl (by rw [sl33]; rfl) rfl) ?_
  refine JL.go ⟨_, rfl, (decide_eq_false (by omega))⟩ (RX.ge rfl rfl) ?_
  refine JL.go trivial (RX.pick_f rfl (decide_eq_false (by omega))) ?_
  refine JL.nil ?_
  refine J.cond_f rfl (decide_eq_false (by omega)) ?_
  refine J.skip ?_
  refine J.seq ?_
  refine J.region ?_
  refine JL.go trivial (RX.movev (v := Value.slice _ _ _) rfl) ?_
  refine JL.go trivial (RX.len_slice rfl (by rw [sl33]; rfl) rfl) ?_
  refine JL.go trivial (RX.assignv (v := Value.int _ _) rfl) ?_
  refine JL.nil ?_
  refine J.seq ?_
  refine J.seq ?_
  refine J.region ?_
  refine JL.go trivial (RX.movev (v := Value.int _ _) rfl) ?_
  refine JL.go trivial (RX.lt rfl rfl) ?_
  refine JL.go trivial (RX.movev (v := Value.bool _) rfl) ?_
  refine JL.no ⟨_, rfl, gno (decide_eq_true (by omega))⟩ ?_
  refine JL.no ⟨_, rfl, gno (decide_eq_true (by omega))⟩ ?_
  refine JL.go trivial (RX.pick_t rfl (decide_eq_true (by omega))) ?_
  refine JL.nil ?_
  refine J.cond_t rfl rfl ?_
  refine J.seq ?_
  refine J.quietH H hmix (by kernel_rfl) ?_
  refine JQ.go trivial (fun w H => RX.loadG H rfl (hE.at_ 7 (by decide) (by decide)).at_.cons one25) ?_
  refine JQ.go trivial (fun w H => RX.assign) ?_
  refine JQ.go trivial (fun w H => RX.assignv (v := E 7) rfl) ?_
  refine JQ.nil fun w H => ?_
  refine J.ret2 (v := Value.slice _ _ _) Tryz.func20 rfl rfl rfl ?_
  exact ⟨_, rfl, rfl, H.drop⟩
set_option maxHeartbeats 1600000 in
theorem tr_e4 {w0 w : World} {F : List Seg} (H : Hp w0 w F) {E : Nat → Value} {Q : Nat → Addr} (hE : Errs F E Q) {n c : Nat} {px : Option Addr} {prime : Int} {back : Bool} (h0 : 0 ≤ prime) (h3 : prime ≤ 2) (h : 1024 < n) : Ret Tryz.prog 20 [.slice px n c, .int .i64 prime, .bool back] w fun v w' => v = .tuple #[.slice none 0 0, E 7] ∧ Hp w0 w' F := by
  refine Calls.of_J (n := 131) Tryz.func20 rfl rfl rfl ?_
  refine J.seq ?_
  refine J.region ?_
  refine JL.go trivial (RX.assign) ?_
  refine JL.go trivial (RX.assign) ?_
  refine JL.nil ?_
  refine J.seq ?_
  refine J.region ?_
  refine JL.does trivial (EX.call rfl cl10 rfl ((Primes_b H))) ?_
  rintro _ w ⟨b1, rfl, H⟩
  refine JL.go trivial (RX.assignv (v := Value.slice _ _ _) rfl) ?_
  refine JL.nil ?_
  refine J.seq ?_
  refine J.seq ?_
  refine J.region ?_
  refine JL.go trivial (RX.movev (v := Value.int _ _) rfl) ?_
  refine JL.go trivial (RX.lt rfl rfl) ?_
  refine JL.go trivial (RX.movev (v := Value.bool _) rfl) ?_
  refine JL.go ⟨_, rfl, (decide_eq_false (by omega))⟩ (RX.movev (v := Value.int _ _) rfl) ?_
  refine JL.go ⟨_, rfl, (decide_eq_false (by omega))⟩ (RX.movev (v := Value.slice _ _ _) rfl) ?_
  refine JL.go ⟨_, rfl, (decide_eq_false (by omega))⟩ (RX.len_slice rfl (by rw [sl33]; rfl) rfl) ?_
  refine JL.go ⟨_, rfl, (decide_eq_false (by omega))⟩ (RX.ge rfl rfl) ?_
  refine JL.go trivial (RX.pick_f rfl (decide_eq_false (by omega))) ?_
  refine JL.nil ?_
  refine J.cond_f rfl (decide_eq_false (by omega)) ?_
  refine J.skip ?_
  refine J.seq ?_
  refine J.region ?_
  refine JL.go trivial (RX.movev (v := Value.slice _ _ _) rfl) ?_
  refine JL.go trivial (RX.len_slice rfl (by rw [sl33]; rfl) rfl) ?_
  refine JL.go trivial (RX.assignv (v := Value.int _ _) rfl) ?_
  refine JL.nil ?_
  refine J.seq ?_
  refine J.seq ?_
  refine J.region ?_
  refine JL.go trivial (RX.movev (v := Value.int _ _) rfl) ?_
  refine JL.go trivial (RX.lt rfl rfl) ?_
  refine JL.go trivial (RX.movev (v := Value.bool _) rfl) ?_
  refine JL.go ⟨_, rfl, (decide_eq_false (by omega))⟩ (RX.movev (v := Value.int _ _) rfl) ?_
  refine JL.go ⟨_, rfl, (decide_eq_false (by omega))⟩ (RX.gt rfl rfl) ?_
  refine JL.go trivial (RX.pick_f rfl (decide_eq_false (by omega))) ?_
  refine JL.nil ?_
  refine J.cond_t rfl (decide_eq_true (by omega)) ?_
  refine J.seq ?_
  refine J.quietH H hmix (by kernel_rfl) ?_
  refine JQ.go trivial (fun w H => RX.loadG H rfl (hE.at_ 7 (by decide) (by decide)).at_.cons one25) ?_
  refine JQ.go trivial (fun w H => RX.assign) ?_
  refine JQ.go trivial (fun w H => RX.assignv (v := E 7) rfl) ?_
  refine JQ.nil fun w H => ?_
  refine J.ret2 (v := Value.slice _ _ _) Tryz.func20 rfl rfl rfl ?_
  exact ⟨_, rfl, rfl, H.drop⟩
set_option maxHeartbeats 1600000 in
theorem tr_e5 {w0 w : World} {F : List Seg} (H : Hp w0 w F) {E : Nat → Value} {Q : Nat → Addr} (hE : Errs F E Q) {n c : Nat} {px : Option Addr} {p g : Nat} {fs : List Int} (G : GoodP p g fs) {i : Nat} (hi3 : primes3[i]? = some p) {back : Bool} (h1 : 1 ≤ n) (h2 : n ≤ 1024) (hd : (p - 1) % n ≠ 0) : Ret Tryz.prog 20 [.slice px n c, .int .i64 ((i : Nat) : Int), .bool back] w fun v w' => v = .tuple #[.slice none 0 0, E 11] ∧ Hp w0 w' F := by
  refine Calls.of_J (n := 131) Tryz.func20 rfl rfl rfl ?_
  refine J.seq ?_
  have hi4 : i < 3 := (List.getElem?_eq_some_iff.1 hi3).1
  refine J.region ?_
  refine JL.go trivial (RX.assign) ?_
  refine JL.go trivial (RX.assign) ?_
  refine JL.nil ?_
  refine J.seq ?_
  refine J.region ?_
  refine JL.does trivial (EX.call rfl cl10 rfl ((Primes_b H))) ?_
  rintro _ w ⟨b1, rfl, H⟩
  refine JL.go trivial (RX.assignv (v := Value.slice _ _ _) rfl) ?_
  refine JL.nil ?_
  refine J.seq ?_
  refine J.seq ?_
  refine J.region ?_
  refine JL.go trivial (RX.movev (v := Value.int _ _) rfl) ?_
  refine JL.go trivial (RX.lt rfl rfl) ?_
  refine JL.go trivial (RX.movev (v := Value.bool _) rfl) ?_
  refine JL.go ⟨_, rfl, (decide_eq_false (by omega))⟩ (RX.movev (v := Value.int _ _) rfl) ?_
  refine JL.go ⟨_, rfl, (decide_eq_false (by omega))⟩ (RX.movev (v := Value.slice _ _ _) rfl) ?_
  refine JL.go ⟨_, rfl, (decide_eq_false (by omega))⟩ (RX.len_slice rfl (by rw [sl33]; rfl) rfl) ?_
  refine JL.go ⟨_, rfl, (decide_eq_false (by omega))⟩ (RX.ge rfl rfl) ?_
  refine JL.go trivial (RX.pick_f rfl (decide_eq_false (by omega))) ?_
  refine JL.nil ?_
  refine J.cond_f rfl (decide_eq_false (by omega)) ?_
  refine J.skip ?_
  refine J.seq ?_
  refine J.region ?_
  refine JL.go trivial (RX.movev (v := Value.slice _ _ _) rfl) ?_
  refine JL.go trivial (RX.len_slice rfl (by rw [sl33]; rfl) rfl) ?_
  refine JL.go trivial (RX.assignv (v := Value.int _ _) rfl) ?_
  refine JL.nil ?_
  refine J.seq ?_
  refine J.seq ?_
  refine J.region ?_
  refine JL.go trivial (RX.movev (v := Value.int _ _) rfl) ?_
  refine JL.go trivial (RX.lt rfl rfl) ?_
  refine JL.go trivial (RX.movev (v := Value.bool _) rfl) ?_
  refine JL.go ⟨_, rfl, (decide_eq_false (by omega))⟩ (RX.movev (v := Value.int _ _) rfl) ?_
  refine JL.go ⟨_, rfl, (decide_eq_false (by omega))⟩ (RX.gt rfl rfl) ?_
  refine JL.go trivial (RX.pick_f rfl (decide_eq_false (by omega))) ?_
  refine JL.nil ?_
  refine J.cond_f rfl (decide_eq_false (by omega)) ?_
  refine J.skip ?_
  refine J.seq ?_
  refine J.region ?_
  refine JL.go trivial (RX.movev (v := Value.slice _ _ _) rfl) ?_
  refine JL.go trivial (RX.movev (v := Value.int _ _) rfl) ?_
  refine JL.go trivial (RX.indexAddr rfl rfl sl33 (by omega) (by omega) (o' := i) (by omega)) ?_
  refine JL.go trivial (RX.load H rfl (i := 0) (v := .int .u64 ((p : Nat) : Int)) rfl (u64sV_get hi3) one37) ?_
  refine JL.go trivial (RX.assignv (v := Value.int _ _) rfl) ?_
  refine JL.nil ?_
  refine J.seq ?_
  refine J.region ?_
  refine JL.go trivial (RX.movev (v := Value.int _ _) rfl) ?_
  refine JL.go trivial (RX.movev (v := Value.int _ _) rfl) ?_
  refine JL.does trivial (EX.call rfl cl27 rfl ((root_e H hE.cons G h1 h2 hd))) ?_
  rintro _ w ⟨rfl, H⟩
  refine JL.go trivial (RX.movev (v := Value.tuple _) rfl) ?_
  refine JL.go trivial (RX.extract rfl rfl) ?_
  refine JL.go trivial (RX.extract (v := E 11) rfl rfl) ?_
  refine JL.go trivial (RX.assignv (v := Value.int _ _) rfl) ?_
  refine JL.go trivial (RX.assignv (v := E 11) rfl) ?_
  refine JL.nil ?_
  refine J.seq ?_
  refine J.seq ?_
  refine J.region ?_
  refine JL.go trivial (RX.movev (v := E 11) rfl) ?_
  refine JL.go trivial (RX.ifnil_neq (v := E 11) rfl rfl (hE.at_ 11 (by decide) (by decide)).ie if25) ?_
  refine JL.nil ?_
  refine J.cond_t rfl (by rw [(hE.at_ 11 (by decide) (by decide)).nn]; rfl) ?_
  refine J.seq ?_
  refine J.region ?_
  refine JL.go trivial (RX.movev (v := E 11) rfl) ?_
  refine JL.go trivial (RX.assign) ?_
  refine JL.go trivial (RX.assignv (v := E 11) rfl) ?_
  refine JL.nil ?_
  refine J.ret2 (v := Value.slice _ _ _) Tryz.func20 rfl rfl rfl ?_
  exact ⟨_, rfl, rfl, H.drop⟩
theorem Tr_b {w0 w : World} {F : List Seg} (H : Hp w0 w F) {E : Nat → Value} {Q : Nat → Addr} (hE : Errs F E Q) {xs : List Nat} {px : Option Addr} {c : Nat} (hs : SlAt F px (u64sV xs)) (hx : ∀ x ∈ xs, x < 18446744073709551616) {prime : Int} {back : Bool} : Ret Tryz.prog 20 [.slice px xs.length c, .int .i64 prime, .bool back] w fun v w' => ∃ q c sl, v = .tuple #[.slice q (exL xs prime back).length c, errV E (exE xs.length prime)] ∧ OwnSl 37 1 q (exL xs prime back).length c (u64sV (exL xs prime back)) sl ∧ Hp w0 w' (sl :: F) := by
  by_cases h1 : prime < 0
  · skip
    have he : exE xs.length prime = 17 := by unfold exE; rw [if_pos (.inl h1)]
    have hl : exL xs prime back = [] := by unfold exL; rw [he]; rfl
    rw [hl, he]
    refine Ret.mono (tr_e1 H hE h1) ?_
    rintro v w' ⟨rfl, H⟩
    exact ⟨none, 0, [], rfl, OwnSl.nil, H.nil⟩
  by_cases h2 : 2 < prime
  · skip
    have he : exE xs.length prime = 17 := by unfold exE; rw [if_pos (.inr h2)]
    have hl : exL xs prime back = [] := by unfold exL; rw [he]; rfl
    rw [hl, he]
    refine Ret.mono (tr_e2 H hE h2) ?_
    rintro v w' ⟨rfl, H⟩
    exact ⟨none, 0, [], rfl, OwnSl.nil, H.nil⟩
  by_cases h3 : xs.length < 1
  · skip
    have he : exE xs.length prime = 7 := by unfold exE; rw [if_neg (by omega), if_pos (.inl h3)]
    have hl : exL xs prime back = [] := by unfold exL; rw [he]; rfl
    rw [hl, he]
    refine Ret.mono (tr_e3 H hE (by omega) (by omega) h3) ?_
    rintro v w' ⟨rfl, H⟩
    exact ⟨none, 0, [], rfl, OwnSl.nil, H.nil⟩
  by_cases h4 : 1024 < xs.length
  · skip
    have he : exE xs.length prime = 7 := by unfold exE; rw [if_neg (by omega), if_pos (.inr h4)]
    have hl : exL xs prime back = [] := by unfold exL; rw [he]; rfl
    rw [hl, he]
    refine Ret.mono (tr_e4 H hE (by omega) (by omega) h4) ?_
    rintro v w' ⟨rfl, H⟩
    exact ⟨none, 0, [], rfl, OwnSl.nil, H.nil⟩
  obtain ⟨i, rfl⟩ : ∃ i : Nat, prime = (i : Int) := ⟨prime.toNat, by omega⟩
  obtain ⟨p, hp⟩ : ∃ p, primes3[i]? = some p := ⟨_, List.getElem?_eq_getElem (by show i < 3; omega)⟩
  obtain ⟨g, fs, hg, G⟩ := good3s hp
  have heq := exE_ok hp (by omega) (show xs.length ≤ 1024 by omega)
  by_cases h5 : (p - 1) % xs.length = 0
  · rw [if_pos h5] at heq
    have hl : exL xs (i : Int) back = trL p g xs back := by
      unfold exL; rw [if_pos heq, Int.toNat_natCast, List.getD_eq_getElem?_getD, List.getD_eq_getElem?_getD, hp, hg]; rfl
    have hn : (trL p g xs back).length = xs.length := by simp [trL]
    rw [hl, heq]
    refine Ret.mono (tr_b H hs hx G hp (by omega) (by omega) h5) ?_
    rintro v w' ⟨b, rfl, H⟩
    exact ⟨_, _, _, by rw [hn]; rfl, ownFull _, H⟩
  · rw [if_neg h5] at heq
    have hl : exL xs (i : Int) back = [] := by unfold exL; rw [heq]; rfl
    rw [hl, heq]
    refine Ret.mono (tr_e5 H hE G hp (by omega) (by omega) h5) ?_
    rintro v w' ⟨rfl, H⟩
    exact ⟨none, 0, [], rfl, OwnSl.nil, H.nil⟩
set_option maxHeartbeats 1600000 in
theorem Forward_b {w0 w : World} {F : List Seg} (H : Hp w0 w F) {E : Nat → Value} {Q : Nat → Addr} (hE : Errs F E Q) {xs : List Nat} {px : Option Addr} {c : Nat} (hs : SlAt F px (u64sV xs)) (hx : ∀ x ∈ xs, x < 18446744073709551616) {prime : Int} : Ret Tryz.prog 11 [.slice px xs.length c, .int .i64 prime] w fun v w' => ∃ q c sl, v = .tuple #[.slice q (exL xs prime false).length c, errV E (exE xs.length prime)] ∧ OwnSl 37 1 q (exL xs prime false).length c (u64sV (exL xs prime false)) sl ∧ Hp w0 w' (sl :: F) := by
  refine Calls.of_J (n := 11) Tryz.func11 rfl rfl rfl ?_
  refine J.seq ?_
  refine J.region ?_
  refine JL.go trivial (RX.assign) ?_
  refine JL.go trivial (RX.assign) ?_
  refine JL.nil ?_
  refine J.seq ?_
  refine J.region ?_
  refine JL.go trivial (RX.movev (v := Value.slice _ _ _) rfl) ?_
  refine JL.go trivial (RX.movev (v := Value.int _ _) rfl) ?_
  refine JL.does trivial (EX.call rfl cl20 rfl ((Tr_b H hE hs hx))) ?_
  rintro _ w ⟨q, c', sl, rfl, ho, H⟩
  refine JL.go trivial (RX.extract rfl rfl) ?_
  refine JL.go trivial (RX.extract (v := errV E (exE xs.length prime)) rfl rfl) ?_
  refine JL.go trivial (RX.assignv (v := Value.slice _ _ _) rfl) ?_
  refine JL.go trivial (RX.assignv (v := errV E (exE xs.length prime)) rfl) ?_
  refine JL.nil ?_
  refine J.ret2 (v := Value.slice _ _ _) Tryz.func11 rfl rfl rfl ?_
  exact ⟨_, rfl, q, _, sl, rfl, ho, H⟩
set_option maxHeartbeats 1600000 in
theorem Inverse2_b {w0 w : World} {F : List Seg} (H : Hp w0 w F) {E : Nat → Value} {Q : Nat → Addr} (hE : Errs F E Q) {xs : List Nat} {px : Option Addr} {c : Nat} (hs : SlAt F px (u64sV xs)) (hx : ∀ x ∈ xs, x < 18446744073709551616) {prime : Int} : Ret Tryz.prog 12 [.slice px xs.length c, .int .i64 prime] w fun v w' => ∃ q c sl, v = .tuple #[.slice q (exL xs prime true).length c, errV E (exE xs.length prime)] ∧ OwnSl 37 1 q (exL xs prime true).length c (u64sV (exL xs prime true)) sl ∧ Hp w0 w' (sl :: F) := by
  refine Calls.of_J (n := 11) Tryz.func12 rfl rfl rfl ?_
  refine J.seq ?_
  refine J.region ?_
  refine JL.go trivial (RX.assign) ?_
  refine JL.go trivial (RX.assign) ?_
  refine JL.nil ?_
  refine J.seq ?_
  refine J.region ?_
  refine JL.go trivial (RX.movev (v := Value.slice _ _ _) rfl) ?_
  refine JL.go trivial (RX.movev (v := Value.int _ _) rfl) ?_
  refine JL.does trivial (EX.call rfl cl20 rfl ((Tr_b H hE hs hx))) ?_
  rintro _ w ⟨q, c', sl, rfl, ho, H⟩
  refine JL.go trivial (RX.extract rfl rfl) ?_
  refine JL.go trivial (RX.extract (v := errV E (exE xs.length prime)) rfl rfl) ?_
  refine JL.go trivial (RX.assignv (v := Value.slice _ _ _) rfl) ?_
  refine JL.go trivial (RX.assignv (v := errV E (exE xs.length prime)) rfl) ?_
  refine JL.nil ?_
  refine J.ret2 (v := Value.slice _ _ _) Tryz.func12 rfl rfl rfl ?_
  exact ⟨_, rfl, q, _, sl, rfl, ho, H⟩
end Go.Proofs.YtfpphoapknecfaaGreatDoorBesafter

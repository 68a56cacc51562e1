/- Alike or not; one call on both Readers. -/
import Derived.Test.YtippfdnjhcpekaaDoorLw6
import Derived.Test.YtippfdnjhcpekaaDoorPb
namespace Go.Proofs.YtippfdnjhcpekaaDoor
open Go Go.Eng
set_option maxRecDepth 100000
set_option linter.unusedVariables false
set_option linter.unusedSimpArgs false

theorem b_app (a b : List UInt8) : (⟨a.toArray⟩ : ByteArray) ++ ⟨b.toArray⟩ = ⟨(a ++ b).toArray⟩ := by
  apply ByteArray.ext
  simp [ByteArray.data_append]
theorem b_size (a : List UInt8) : (⟨a.toArray⟩ : ByteArray).size = a.length := by simp [ByteArray.size]
theorem same61_t {w0 w : World} {F : List Seg} (H : Hp w0 w F) {x y : Nat} (hx : u64ok x) (hy : u64ok y) (he : canon x = canon y) : Ret Tryd.prog 61 [fV x, fV y] w fun v w' => v = .bool true ∧ Hp w0 w' F := by
  refine Calls.of_J (n := 10) Tryd.func61 rfl rfl rfl ?_
  refine J.seq ?_
  unfold fV
  refine J.region ?_
  refine JL.go trivial (RX.assign) ?_
  refine JL.nil ?_
  refine J.seq ?_
  refine J.region ?_
  refine JL.go trivial (RX.movev (v := Value.float _ _) rfl) ?_
  refine JL.does trivial (EX.call rfl cl87 rfl ((rBits_b H hx))) ?_
  rintro _ w ⟨rfl, H⟩
  refine JL.go trivial (RX.movev (v := Value.float _ _) rfl) ?_
  refine JL.does trivial (EX.call rfl cl87 rfl ((rBits_b H hy))) ?_
  rintro _ w ⟨rfl, H⟩
  refine JL.go trivial (RX.eq rfl rfl) ?_
  refine JL.go trivial (RX.assignv (v := Value.bool _) rfl) ?_
  refine JL.nil ?_
  refine J.ret1 (v := Value.bool _) Tryd.func61 rfl rfl ?_
  exact ⟨_, rfl, by rw [he]; simp, H⟩
theorem same_t {w0 w : World} {F : List Seg} (H : Hp w0 w F) {a b : Nat × Nat} (ha : u64ok a.1 ∧ u64ok a.2) (hb : u64ok b.1 ∧ u64ok b.2) (he : canon a.1 = canon b.1 ∧ canon a.2 = canon b.2) : Ret Tryd.prog 54 [cV a, cV b] w fun v w' => v = .bool true ∧ Hp w0 w' F := by
  refine Calls.of_J (n := 17) Tryd.func54 rfl rfl rfl ?_
  refine J.seq ?_
  unfold cV
  refine J.region ?_
  refine JL.go trivial (RX.assign) ?_
  refine JL.nil ?_
  refine J.seq ?_
  refine J.region ?_
  refine JL.go trivial (RX.movev (v := Value.complex _ _ _) rfl) ?_
  refine JL.go trivial (RX.real rfl) ?_
  refine JL.go trivial (RX.movev (v := Value.complex _ _ _) rfl) ?_
  refine JL.go trivial (RX.real rfl) ?_
  refine JL.does trivial (EX.call rfl cl61 rfl ((same61_t H ha.1 hb.1 he.1))) ?_
  rintro _ w ⟨rfl, H⟩
  refine JL.go trivial (RX.movev (v := Value.bool _) rfl) ?_
  refine JL.go ⟨_, rfl, rfl⟩ (RX.movev (v := Value.complex _ _ _) rfl) ?_
  refine JL.go ⟨_, rfl, rfl⟩ (RX.imag rfl) ?_
  refine JL.go ⟨_, rfl, rfl⟩ (RX.movev (v := Value.complex _ _ _) rfl) ?_
  refine JL.go ⟨_, rfl, rfl⟩ (RX.imag rfl) ?_
  refine JL.does ⟨_, rfl, rfl⟩ (EX.call rfl cl61 rfl ((same61_t H ha.2 hb.2 he.2))) ?_
  rintro _ w ⟨rfl, H⟩
  refine JL.go trivial (RX.pick_t rfl rfl) ?_
  refine JL.go trivial (RX.assignv (v := Value.bool _) rfl) ?_
  refine JL.nil ?_
  refine J.ret1 (v := Value.bool _) Tryd.func54 rfl rfl ?_
  exact ⟨_, rfl, rfl, H⟩
theorem sameList_t {w0 w : World} {F : List Seg} (H : Hp w0 w F) {l m : List (Nat × Nat)} {lp mp : Option Addr} {lc mc : Nat} (hs : SlAt F lp (cVs l)) (hm : SlAt F mp (cVs m)) (hlk : ∀ q ∈ l, u64ok q.1 ∧ u64ok q.2) (hmk : ∀ q ∈ m, u64ok q.1 ∧ u64ok q.2) (hle : l.length = m.length) (hn : l.length ≤ 9223372036854775807) (he : ∀ (i : Nat) q r, l[i]? = some q → m[i]? = some r → canon q.1 = canon r.1 ∧ canon q.2 = canon r.2) : Ret Tryd.prog 16 [.slice lp l.length lc, .slice mp m.length mc] w fun v w' => v = .bool true ∧ Hp w0 w' F := by
  refine Calls.of_J (n := 29) Tryd.func16 rfl rfl rfl ?_
  refine J.seq ?_
  refine J.region ?_
  refine JL.go trivial (RX.assign) ?_
  refine JL.nil ?_
  refine J.seq ?_
  refine J.seq ?_
  refine J.region ?_
  refine JL.go trivial (RX.movev (v := Value.slice _ _ _) rfl) ?_
  refine JL.go trivial (RX.len_slice rfl (by rw [sl36]; rfl) rfl) ?_
  refine JL.go trivial (RX.movev (v := Value.slice _ _ _) rfl) ?_
  refine JL.go trivial (RX.len_slice rfl (by rw [sl36]; rfl) rfl) ?_
  refine JL.go trivial (RX.ne rfl rfl) ?_
  refine JL.nil ?_
  refine J.cond_f rfl (decide_eq_false (by omega)) ?_
  refine J.skip ?_
  refine J.seq ?_
  refine J.seq ?_
  refine J.region ?_
  refine JL.go trivial (RX.movev (v := Value.slice _ _ _) rfl) ?_
  refine JL.go trivial (RX.len_slice rfl (by rw [sl36]; rfl) rfl) ?_
  refine JL.go trivial (RX.move) ?_
  refine JL.nil ?_
  refine J.block ?_
  refine J.loop (ι := Nat) (S := fun i => [(14, .int .i64 (i : Nat))]) (Φ := fun i w => i ≤ l.length ∧ Hp w0 w F) (μ := fun i => l.length - i) (C := [(0, _), (1, _), (13, _)]) 0 ⟨rfl, rfl, rfl, trivial⟩ ⟨rfl, trivial⟩ ?_ ?_
  · exact ⟨by omega, H⟩
  clear H
  rintro i ρ w ⟨hi, H⟩ IH
  refine J.seq ?_
  refine J.region ?_
  refine JL.go trivial (RX.lt rfl rfl) ?_
  refine JL.nil ?_
  refine J.seq ?_
  refine J.cond_d rfl (fun hlt => ?_) (fun hlt => ?_)
  · skip
    obtain ⟨q, hq⟩ : ∃ q, l[i]? = some q := ⟨_, List.getElem?_eq_getElem (by omega)⟩
    obtain ⟨r, hr⟩ : ∃ r, m[i]? = some r := ⟨_, List.getElem?_eq_getElem (by omega)⟩
    have hqk := hlk q (List.mem_of_getElem? hq)
    have hrk := hmk r (List.mem_of_getElem? hr)
    obtain ⟨pb, po, rfl, _⟩ := hs.some (by simp [cVs]; omega)
    obtain ⟨pb2, po2, rfl, _⟩ := hm.some (by simp [cVs]; omega)
    refine J.skip ?_
    refine J.seq ?_
    refine J.block ?_
    refine J.seq ?_
    refine J.region ?_
    refine JL.go trivial (RX.movev (v := Value.int _ _) rfl) ?_
    refine JL.go trivial (RX.assignv (v := Value.int _ _) rfl) ?_
    refine JL.nil ?_
    refine J.seq ?_
    refine J.quietH H hmix (by kernel_rfl) ?_
    refine JQ.go trivial (fun w H => RX.movev (v := Value.slice _ _ _) rfl) ?_
    refine JQ.go trivial (fun w H => RX.movev (v := Value.int _ _) rfl) ?_
    refine JQ.go trivial (fun w H => RX.indexAddr rfl rfl sl36 (by omega) (by omega) rfl) ?_
    refine JQ.go trivial (fun w H => RX.loadS H hs rfl (j := i) (by omega) (v := cV q) (by simp [cVs, hq]) one38) ?_
    refine JQ.go trivial (fun w H => RX.movev (v := Value.slice _ _ _) rfl) ?_
    refine JQ.go trivial (fun w H => RX.movev (v := Value.int _ _) rfl) ?_
    refine JQ.go trivial (fun w H => RX.indexAddr rfl rfl sl36 (by omega) (by omega) rfl) ?_
    refine JQ.go trivial (fun w H => RX.loadS H hm rfl (j := i) (by omega) (v := cV r) (by simp [cVs, hr]) one38) ?_
    refine JQ.call trivial (fun w H => run_callq rfl cl54 rfl) (fun w H => (same_t H hqk hrk (he i q r hq hr))) ?_
    refine JQ.go trivial (fun w H => RX.assignv (v := Value.bool _) rfl) ?_
    refine JQ.nil fun w H => ?_
    refine J.seq ?_
    refine J.region ?_
    refine JL.go trivial (RX.movev (v := Value.bool _) rfl) ?_
    refine JL.go trivial (RX.not rfl) ?_
    refine JL.nil ?_
    refine J.cond_f rfl rfl ?_
    refine J.skip ?_
    refine J.inBlock ?_
    refine J.region ?_
    refine JL.go trivial (RX.add rfl rfl (w_i64 rfl (by omega) (by omega))) ?_
    refine JL.go trivial (RX.movev (v := Value.int _ _) rfl) ?_
    refine JL.nil ?_
    exact IH (i + 1) _ _ (by omega) ⟨rfl, rfl, rfl, trivial⟩ ⟨rfl, trivial⟩ ⟨by omega, H⟩
  · skip
    refine J.exit rfl ?_
    refine J.seq ?_
    refine J.region ?_
    refine JL.go trivial (RX.assign) ?_
    refine JL.nil ?_
    refine J.ret1 (v := Value.bool _) Tryd.func16 rfl rfl ?_
    exact ⟨_, rfl, rfl, H⟩
theorem sameFloats_t {w0 w : World} {F : List Seg} (H : Hp w0 w F) {l m : List (Nat)} {lp mp : Option Addr} {lc mc : Nat} (hs : SlAt F lp (fVs l)) (hm : SlAt F mp (fVs m)) (hlk : ∀ q ∈ l, u64ok q) (hmk : ∀ q ∈ m, u64ok q) (hle : l.length = m.length) (hn : l.length ≤ 9223372036854775807) (he : ∀ (i : Nat) q r, l[i]? = some q → m[i]? = some r → canon q = canon r) : Ret Tryd.prog 68 [.slice lp l.length lc, .slice mp m.length mc] w fun v w' => v = .bool true ∧ Hp w0 w' F := by
  refine Calls.of_J (n := 29) Tryd.func68 rfl rfl rfl ?_
  refine J.seq ?_
  refine J.region ?_
  refine JL.go trivial (RX.assign) ?_
  refine JL.nil ?_
  refine J.seq ?_
  refine J.seq ?_
  refine J.region ?_
  refine JL.go trivial (RX.movev (v := Value.slice _ _ _) rfl) ?_
  refine JL.go trivial (RX.len_slice rfl (by rw [sl75]; rfl) rfl) ?_
  refine JL.go trivial (RX.movev (v := Value.slice _ _ _) rfl) ?_
  refine JL.go trivial (RX.len_slice rfl (by rw [sl75]; rfl) rfl) ?_
  refine JL.go trivial (RX.ne rfl rfl) ?_
  refine JL.nil ?_
  refine J.cond_f rfl (decide_eq_false (by omega)) ?_
  refine J.skip ?_
  refine J.seq ?_
  refine J.seq ?_
  refine J.region ?_
  refine JL.go trivial (RX.movev (v := Value.slice _ _ _) rfl) ?_
  refine JL.go trivial (RX.len_slice rfl (by rw [sl75]; rfl) rfl) ?_
  refine JL.go trivial (RX.move) ?_
  refine JL.nil ?_
  refine J.block ?_
  refine J.loop (ι := Nat) (S := fun i => [(14, .int .i64 (i : Nat))]) (Φ := fun i w => i ≤ l.length ∧ Hp w0 w F) (μ := fun i => l.length - i) (C := [(0, _), (1, _), (13, _)]) 0 ⟨rfl, rfl, rfl, trivial⟩ ⟨rfl, trivial⟩ ?_ ?_
  · exact ⟨by omega, H⟩
  clear H
  rintro i ρ w ⟨hi, H⟩ IH
  refine J.seq ?_
  refine J.region ?_
  refine JL.go trivial (RX.lt rfl rfl) ?_
  refine JL.nil ?_
  refine J.seq ?_
  refine J.cond_d rfl (fun hlt => ?_) (fun hlt => ?_)
  · skip
    obtain ⟨q, hq⟩ : ∃ q, l[i]? = some q := ⟨_, List.getElem?_eq_getElem (by omega)⟩
    obtain ⟨r, hr⟩ : ∃ r, m[i]? = some r := ⟨_, List.getElem?_eq_getElem (by omega)⟩
    have hqk := hlk q (List.mem_of_getElem? hq)
    have hrk := hmk r (List.mem_of_getElem? hr)
    obtain ⟨pb, po, rfl, _⟩ := hs.some (by simp [fVs]; omega)
    obtain ⟨pb2, po2, rfl, _⟩ := hm.some (by simp [fVs]; omega)
    refine J.skip ?_
    refine J.seq ?_
    refine J.block ?_
    refine J.seq ?_
    refine J.region ?_
    refine JL.go trivial (RX.movev (v := Value.int _ _) rfl) ?_
    refine JL.go trivial (RX.assignv (v := Value.int _ _) rfl) ?_
    refine JL.nil ?_
    refine J.seq ?_
    refine J.quietH H hmix (by kernel_rfl) ?_
    refine JQ.go trivial (fun w H => RX.movev (v := Value.slice _ _ _) rfl) ?_
    refine JQ.go trivial (fun w H => RX.movev (v := Value.int _ _) rfl) ?_
    refine JQ.go trivial (fun w H => RX.indexAddr rfl rfl sl75 (by omega) (by omega) rfl) ?_
    refine JQ.go trivial (fun w H => RX.loadS H hs rfl (j := i) (by omega) (v := fV q) (by simp [fVs, hq]) one61) ?_
    refine JQ.go trivial (fun w H => RX.movev (v := Value.slice _ _ _) rfl) ?_
    refine JQ.go trivial (fun w H => RX.movev (v := Value.int _ _) rfl) ?_
    refine JQ.go trivial (fun w H => RX.indexAddr rfl rfl sl75 (by omega) (by omega) rfl) ?_
    refine JQ.go trivial (fun w H => RX.loadS H hm rfl (j := i) (by omega) (v := fV r) (by simp [fVs, hr]) one61) ?_
    refine JQ.call trivial (fun w H => run_callq rfl cl61 rfl) (fun w H => (same61_t H hqk hrk (he i q r hq hr))) ?_
    refine JQ.go trivial (fun w H => RX.assignv (v := Value.bool _) rfl) ?_
    refine JQ.nil fun w H => ?_
    refine J.seq ?_
    refine J.region ?_
    refine JL.go trivial (RX.movev (v := Value.bool _) rfl) ?_
    refine JL.go trivial (RX.not rfl) ?_
    refine JL.nil ?_
    refine J.cond_f rfl rfl ?_
    refine J.skip ?_
    refine J.inBlock ?_
    refine J.region ?_
    refine JL.go trivial (RX.add rfl rfl (w_i64 rfl (by omega) (by omega))) ?_
    refine JL.go trivial (RX.movev (v := Value.int _ _) rfl) ?_
    refine JL.nil ?_
    exact IH (i + 1) _ _ (by omega) ⟨rfl, rfl, rfl, trivial⟩ ⟨rfl, trivial⟩ ⟨by omega, H⟩
  · skip
    refine J.exit rfl ?_
    refine J.seq ?_
    refine J.region ?_
    refine JL.go trivial (RX.assign) ?_
    refine JL.nil ?_
    refine J.ret1 (v := Value.bool _) Tryd.func68 rfl rfl ?_
    exact ⟨_, rfl, rfl, H⟩
theorem signbit_b {w0 w : World} {F : List Seg} (H : Hp w0 w F) {x : Nat} : Ret Tryd.prog 98 [fV x] w fun v w' => v = .bool (decide (IntKind.i64.wrap (x : Int) < 0)) ∧ Hp w0 w' F := by
  refine Calls.of_J (n := 7) Tryd.func98 rfl rfl rfl ?_
  refine J.seq ?_
  unfold fV
  refine J.region ?_
  refine JL.go trivial (RX.assign) ?_
  refine JL.nil ?_
  refine J.seq ?_
  refine J.region ?_
  refine JL.go trivial (RX.movev (v := Value.float _ _) rfl) ?_
  refine JL.go trivial (RX.ext ext99 rfl rfl (v := Value.int _ _) rfl) ?_
  refine JL.go trivial (RX.conv rfl (by rw [ki27]; rfl) ki2 (r := IntKind.i64.wrap (x : Int)) rfl) ?_
  refine JL.go trivial (RX.lt rfl rfl) ?_
  refine JL.go trivial (RX.assignv (v := Value.bool _) rfl) ?_
  refine JL.nil ?_
  refine J.ret1 (v := Value.bool _) Tryd.func98 rfl rfl ?_
  exact ⟨_, rfl, rfl, H⟩
theorem at_r {w0 w : World} {L : List Seg} {i b n c T a : Nat} {p : Option Addr} (H : Hp w0 w L) (hi : L[i]? = some [(b, cel [.slice p n c, .int .i64 (a : Nat)] T)]) : Ret Tryd.prog 19 [.pointer (some ⟨b, 0, none⟩)] w fun v w' => v = .int .i64 (a : Nat) ∧ Hp w0 w' L := by
  refine Calls.of_J (n := 7) Tryd.func19 rfl rfl rfl ?_
  refine J.seq ?_
  refine J.region ?_
  refine JL.go trivial (RX.assign) ?_
  refine JL.nil ?_
  refine J.seq ?_
  refine J.region ?_
  refine JL.go trivial (RX.movev (v := Value.pointer _) rfl) ?_
  refine JL.go trivial (RX.nilCheck rfl) ?_
  refine JL.go trivial (RX.fieldAddr rfl fo102_1 rfl) ?_
  refine JL.go trivial (RX.load H rfl hi rfl one3) ?_
  refine JL.go trivial (RX.assignv (v := Value.int _ _) rfl) ?_
  refine JL.nil ?_
  refine J.ret1 (v := Value.int _ _) Tryd.func19 rfl rfl ?_
  exact ⟨_, rfl, rfl, H⟩

theorem order_nan32 {a b : Nat} (h : 2139095040 < a % 2147483648) : (FloatKind.f32.format.order a b == some .eq) = false := by
  have hd : ∃ s t, Ieee.single.read a = .nan s t := by
    have hsw : Ieee.single.signWeight = 2147483648 := by decide
    have hin : Ieee.single.infRung = 2139095040 := by decide
    have hbi : Ieee.single.binade = 8388608 := by decide
    unfold Ieee.Format.read
    simp only [hsw, hin, hbi]
    rw [if_neg (by omega), if_neg (by omega), if_neg (by omega)]
    exact ⟨_, _, rfl⟩
  obtain ⟨s, t, hd⟩ := hd
  show (Ieee.Datum.order (Ieee.single.read a) (Ieee.single.read b) == some .eq) = false
  rw [hd]
  cases Ieee.single.read b <;> rfl
theorem order_same32 {a : Nat} (h : ¬ 2139095040 < a % 2147483648) : (FloatKind.f32.format.order a a == some .eq) = true := by
  have := fnan32 a
  rw [decide_eq_false h, bne, Bool.not_eq_false'] at this
  exact this
theorem canon32_ways {a b : Nat} (h : canon32 a = canon32 b) : (a = b ∧ ¬ 2139095040 < a % 2147483648) ∨ (2139095040 < a % 2147483648 ∧ 2139095040 < b % 2147483648) := by
  unfold canon32 at h
  by_cases ha : 2139095040 < a % 2147483648
  · by_cases hb : 2139095040 < b % 2147483648
    · exact .inr ⟨ha, hb⟩
    · rw [if_pos ha, if_neg hb] at h; omega
  · by_cases hb : 2139095040 < b % 2147483648
    · rw [if_neg ha, if_pos hb] at h; omega
    · rw [if_neg ha, if_neg hb] at h; exact .inl ⟨h, ha⟩
theorem same32_00 {w0 w : World} {F : List Seg} (H : Hp w0 w F) {x1 : Nat} (hn1 : ¬ 2139095040 < x1 % 2147483648) {x2 : Nat} (hn2 : ¬ 2139095040 < x2 % 2147483648) : Ret Tryd.prog 64 [nV (x1, x2), nV (x1, x2)] w fun v w' => v = .bool true ∧ Hp w0 w' F := by
  refine Calls.of_J (n := 67) Tryd.func64 rfl rfl rfl ?_
  refine J.seq ?_
  unfold nV
  obtain ⟨r1, hr1⟩ := conv32 (P := Tryd.prog) hn1
  obtain ⟨r2, hr2⟩ := conv32 (P := Tryd.prog) hn2
  refine J.region ?_
  refine JL.go trivial (RX.assign) ?_
  refine JL.nil ?_
  refine J.seq ?_
  refine J.region ?_
  refine JL.go trivial (RX.movev (v := Value.complex _ _ _) rfl) ?_
  refine JL.go trivial (RX.real rfl) ?_
  refine JL.go trivial (RX.movev (v := Value.complex _ _ _) rfl) ?_
  refine JL.go trivial (RX.real rfl) ?_
  refine JL.go trivial (RX.feq rfl rfl) ?_
  refine JL.go trivial (RX.movev (v := Value.bool _) rfl) ?_
  refine JL.go ⟨_, rfl, (order_same32 hn1)⟩ (RX.movev (v := Value.complex _ _ _) rfl) ?_
  refine JL.go ⟨_, rfl, (order_same32 hn1)⟩ (RX.real rfl) ?_
  refine JL.go ⟨_, rfl, (order_same32 hn1)⟩ (Op.floatToFloat_run (r := r1) (hr1 _) ud136 ud61 rfl) ?_
  refine JL.does ⟨_, rfl, (order_same32 hn1)⟩ (EX.call rfl cl98 rfl ((signbit_b H))) ?_
  rintro _ w ⟨rfl, H⟩
  refine JL.go ⟨_, rfl, (order_same32 hn1)⟩ (RX.movev (v := Value.complex _ _ _) rfl) ?_
  refine JL.go ⟨_, rfl, (order_same32 hn1)⟩ (RX.real rfl) ?_
  refine JL.go ⟨_, rfl, (order_same32 hn1)⟩ (Op.floatToFloat_run (r := r1) (hr1 _) ud136 ud61 rfl) ?_
  refine JL.does ⟨_, rfl, (order_same32 hn1)⟩ (EX.call rfl cl98 rfl ((signbit_b H))) ?_
  rintro _ w ⟨rfl, H⟩
  refine JL.go ⟨_, rfl, (order_same32 hn1)⟩ (RX.bool_eql rfl rfl ud4) ?_
  refine JL.go trivial (RX.pick_t rfl (order_same32 hn1)) ?_
  refine JL.go trivial (RX.movev (v := Value.bool _) rfl) ?_
  refine JL.no ⟨_, rfl, gno (by simp)⟩ ?_
  refine JL.no ⟨_, rfl, gno (by simp)⟩ ?_
  refine JL.no ⟨_, rfl, gno (by simp)⟩ ?_
  refine JL.no ⟨_, rfl, gno (by simp)⟩ ?_
  refine JL.no ⟨_, rfl, gno (by simp)⟩ ?_
  refine JL.no ⟨_, rfl, gno (by simp)⟩ ?_
  refine JL.no ⟨_, rfl, nofun⟩ ?_
  refine JL.no ⟨_, rfl, nofun⟩ ?_
  refine JL.no ⟨_, rfl, nofun⟩ ?_
  refine JL.no ⟨_, rfl, nofun⟩ ?_
  refine JL.no ⟨_, rfl, nofun⟩ ?_
  refine JL.no ⟨_, rfl, gno (by simp)⟩ ?_
  refine JL.go trivial (RX.pick_t rfl (by simp)) ?_
  refine JL.go trivial (RX.movev (v := Value.bool _) rfl) ?_
  refine JL.go ⟨_, rfl, rfl⟩ (RX.movev (v := Value.complex _ _ _) rfl) ?_
  refine JL.go ⟨_, rfl, rfl⟩ (RX.imag rfl) ?_
  refine JL.go ⟨_, rfl, rfl⟩ (RX.movev (v := Value.complex _ _ _) rfl) ?_
  refine JL.go ⟨_, rfl, rfl⟩ (RX.imag rfl) ?_
  refine JL.go ⟨_, rfl, rfl⟩ (RX.feq rfl rfl) ?_
  refine JL.go ⟨_, rfl, rfl⟩ (RX.movev (v := Value.bool _) rfl) ?_
  refine JL.go ⟨_, rfl, (order_same32 hn2)⟩ (RX.movev (v := Value.complex _ _ _) rfl) ?_
  refine JL.go ⟨_, rfl, (order_same32 hn2)⟩ (RX.imag rfl) ?_
  refine JL.go ⟨_, rfl, (order_same32 hn2)⟩ (Op.floatToFloat_run (r := r2) (hr2 _) ud136 ud61 rfl) ?_
  refine JL.does ⟨_, rfl, (order_same32 hn2)⟩ (EX.call rfl cl98 rfl ((signbit_b H))) ?_
  rintro _ w ⟨rfl, H⟩
  refine JL.go ⟨_, rfl, (order_same32 hn2)⟩ (RX.movev (v := Value.complex _ _ _) rfl) ?_
  refine JL.go ⟨_, rfl, (order_same32 hn2)⟩ (RX.imag rfl) ?_
  refine JL.go ⟨_, rfl, (order_same32 hn2)⟩ (Op.floatToFloat_run (r := r2) (hr2 _) ud136 ud61 rfl) ?_
  refine JL.does ⟨_, rfl, (order_same32 hn2)⟩ (EX.call rfl cl98 rfl ((signbit_b H))) ?_
  rintro _ w ⟨rfl, H⟩
  refine JL.go ⟨_, rfl, (order_same32 hn2)⟩ (RX.bool_eql rfl rfl ud4) ?_
  refine JL.go ⟨_, rfl, rfl⟩ (RX.pick_t rfl (order_same32 hn2)) ?_
  refine JL.go ⟨_, rfl, rfl⟩ (RX.movev (v := Value.bool _) rfl) ?_
  refine JL.no ⟨_, rfl, gno (by simp)⟩ ?_
  refine JL.no ⟨_, rfl, gno (by simp)⟩ ?_
  refine JL.no ⟨_, rfl, gno (by simp)⟩ ?_
  refine JL.no ⟨_, rfl, gno (by simp)⟩ ?_
  refine JL.no ⟨_, rfl, gno (by simp)⟩ ?_
  refine JL.no ⟨_, rfl, gno (by simp)⟩ ?_
  refine JL.no ⟨_, rfl, nofun⟩ ?_
  refine JL.no ⟨_, rfl, nofun⟩ ?_
  refine JL.no ⟨_, rfl, nofun⟩ ?_
  refine JL.no ⟨_, rfl, nofun⟩ ?_
  refine JL.no ⟨_, rfl, nofun⟩ ?_
  refine JL.no ⟨_, rfl, gno (by simp)⟩ ?_
  refine JL.go ⟨_, rfl, rfl⟩ (RX.pick_t rfl (by simp)) ?_
  refine JL.go trivial (RX.pick_t rfl rfl) ?_
  refine JL.go trivial (RX.assignv (v := Value.bool _) rfl) ?_
  refine JL.nil ?_
  refine J.ret1 (v := Value.bool _) Tryd.func64 rfl rfl ?_
  exact ⟨_, rfl, by first | rfl | exact congrArg Value.bool (decide_eq_true hy2) | (simp; done), H⟩
theorem same32_01 {w0 w : World} {F : List Seg} (H : Hp w0 w F) {x1 : Nat} (hn1 : ¬ 2139095040 < x1 % 2147483648) {x2 y2 : Nat} (hx2 : 2139095040 < x2 % 2147483648) (hy2 : 2139095040 < y2 % 2147483648) : Ret Tryd.prog 64 [nV (x1, x2), nV (x1, y2)] w fun v w' => v = .bool true ∧ Hp w0 w' F := by
  refine Calls.of_J (n := 67) Tryd.func64 rfl rfl rfl ?_
  refine J.seq ?_
  unfold nV
  obtain ⟨r1, hr1⟩ := conv32 (P := Tryd.prog) hn1
  skip
  refine J.region ?_
  refine JL.go trivial (RX.assign) ?_
  refine JL.nil ?_
  refine J.seq ?_
  refine J.region ?_
  refine JL.go trivial (RX.movev (v := Value.complex _ _ _) rfl) ?_
  refine JL.go trivial (RX.real rfl) ?_
  refine JL.go trivial (RX.movev (v := Value.complex _ _ _) rfl) ?_
  refine JL.go trivial (RX.real rfl) ?_
  refine JL.go trivial (RX.feq rfl rfl) ?_
  refine JL.go trivial (RX.movev (v := Value.bool _) rfl) ?_
  refine JL.go ⟨_, rfl, (order_same32 hn1)⟩ (RX.movev (v := Value.complex _ _ _) rfl) ?_
  refine JL.go ⟨_, rfl, (order_same32 hn1)⟩ (RX.real rfl) ?_
  refine JL.go ⟨_, rfl, (order_same32 hn1)⟩ (Op.floatToFloat_run (r := r1) (hr1 _) ud136 ud61 rfl) ?_
  refine JL.does ⟨_, rfl, (order_same32 hn1)⟩ (EX.call rfl cl98 rfl ((signbit_b H))) ?_
  rintro _ w ⟨rfl, H⟩
  refine JL.go ⟨_, rfl, (order_same32 hn1)⟩ (RX.movev (v := Value.complex _ _ _) rfl) ?_
  refine JL.go ⟨_, rfl, (order_same32 hn1)⟩ (RX.real rfl) ?_
  refine JL.go ⟨_, rfl, (order_same32 hn1)⟩ (Op.floatToFloat_run (r := r1) (hr1 _) ud136 ud61 rfl) ?_
  refine JL.does ⟨_, rfl, (order_same32 hn1)⟩ (EX.call rfl cl98 rfl ((signbit_b H))) ?_
  rintro _ w ⟨rfl, H⟩
  refine JL.go ⟨_, rfl, (order_same32 hn1)⟩ (RX.bool_eql rfl rfl ud4) ?_
  refine JL.go trivial (RX.pick_t rfl (order_same32 hn1)) ?_
  refine JL.go trivial (RX.movev (v := Value.bool _) rfl) ?_
  refine JL.no ⟨_, rfl, gno (by simp)⟩ ?_
  refine JL.no ⟨_, rfl, gno (by simp)⟩ ?_
  refine JL.no ⟨_, rfl, gno (by simp)⟩ ?_
  refine JL.no ⟨_, rfl, gno (by simp)⟩ ?_
  refine JL.no ⟨_, rfl, gno (by simp)⟩ ?_
  refine JL.no ⟨_, rfl, gno (by simp)⟩ ?_
  refine JL.no ⟨_, rfl, nofun⟩ ?_
  refine JL.no ⟨_, rfl, nofun⟩ ?_
  refine JL.no ⟨_, rfl, nofun⟩ ?_
  refine JL.no ⟨_, rfl, nofun⟩ ?_
  refine JL.no ⟨_, rfl, nofun⟩ ?_
  refine JL.no ⟨_, rfl, gno (by simp)⟩ ?_
  refine JL.go trivial (RX.pick_t rfl (by simp)) ?_
  refine JL.go trivial (RX.movev (v := Value.bool _) rfl) ?_
  refine JL.go ⟨_, rfl, rfl⟩ (RX.movev (v := Value.complex _ _ _) rfl) ?_
  refine JL.go ⟨_, rfl, rfl⟩ (RX.imag rfl) ?_
  refine JL.go ⟨_, rfl, rfl⟩ (RX.movev (v := Value.complex _ _ _) rfl) ?_
  refine JL.go ⟨_, rfl, rfl⟩ (RX.imag rfl) ?_
  refine JL.go ⟨_, rfl, rfl⟩ (RX.feq rfl rfl) ?_
  refine JL.go ⟨_, rfl, rfl⟩ (RX.movev (v := Value.bool _) rfl) ?_
  refine JL.no ⟨_, rfl, gno (order_nan32 hx2)⟩ ?_
  refine JL.no ⟨_, rfl, gno (order_nan32 hx2)⟩ ?_
  refine JL.no ⟨_, rfl, gno (order_nan32 hx2)⟩ ?_
  refine JL.no ⟨_, rfl, gno (order_nan32 hx2)⟩ ?_
  refine JL.no ⟨_, rfl, gno (order_nan32 hx2)⟩ ?_
  refine JL.no ⟨_, rfl, gno (order_nan32 hx2)⟩ ?_
  refine JL.no ⟨_, rfl, gno (order_nan32 hx2)⟩ ?_
  refine JL.no ⟨_, rfl, gno (order_nan32 hx2)⟩ ?_
  refine JL.no ⟨_, rfl, gno (order_nan32 hx2)⟩ ?_
  refine JL.go ⟨_, rfl, rfl⟩ (RX.pick_f rfl (order_nan32 hx2)) ?_
  refine JL.go ⟨_, rfl, rfl⟩ (RX.movev (v := Value.bool _) rfl) ?_
  refine JL.go ⟨_, rfl, rfl⟩ (RX.movev (v := Value.complex _ _ _) rfl) ?_
  refine JL.go ⟨_, rfl, rfl⟩ (RX.imag rfl) ?_
  refine JL.go ⟨_, rfl, rfl⟩ (RX.movev (v := Value.complex _ _ _) rfl) ?_
  refine JL.go ⟨_, rfl, rfl⟩ (RX.imag rfl) ?_
  refine JL.go ⟨_, rfl, rfl⟩ (nan32 rfl rfl) ?_
  refine JL.go ⟨_, rfl, rfl⟩ (RX.movev (v := Value.bool _) rfl) ?_
  refine JL.go ⟨_, rfl, (decide_eq_true hx2)⟩ (RX.movev (v := Value.complex _ _ _) rfl) ?_
  refine JL.go ⟨_, rfl, (decide_eq_true hx2)⟩ (RX.imag rfl) ?_
  refine JL.go ⟨_, rfl, (decide_eq_true hx2)⟩ (RX.movev (v := Value.complex _ _ _) rfl) ?_
  refine JL.go ⟨_, rfl, (decide_eq_true hx2)⟩ (RX.imag rfl) ?_
  refine JL.go ⟨_, rfl, (decide_eq_true hx2)⟩ (nan32 rfl rfl) ?_
  refine JL.go ⟨_, rfl, rfl⟩ (RX.pick_t rfl (decide_eq_true hx2)) ?_
  refine JL.go ⟨_, rfl, rfl⟩ (RX.pick_f rfl rfl) ?_
  refine JL.go trivial (RX.pick_t rfl rfl) ?_
  refine JL.go trivial (RX.assignv (v := Value.bool _) rfl) ?_
  refine JL.nil ?_
  refine J.ret1 (v := Value.bool _) Tryd.func64 rfl rfl ?_
  exact ⟨_, rfl, by first | rfl | exact congrArg Value.bool (decide_eq_true hy2) | (simp; done), H⟩
theorem same32_10 {w0 w : World} {F : List Seg} (H : Hp w0 w F) {x1 y1 : Nat} (hx1 : 2139095040 < x1 % 2147483648) (hy1 : 2139095040 < y1 % 2147483648) {x2 : Nat} (hn2 : ¬ 2139095040 < x2 % 2147483648) : Ret Tryd.prog 64 [nV (x1, x2), nV (y1, x2)] w fun v w' => v = .bool true ∧ Hp w0 w' F := by
  refine Calls.of_J (n := 67) Tryd.func64 rfl rfl rfl ?_
  refine J.seq ?_
  unfold nV
  obtain ⟨r2, hr2⟩ := conv32 (P := Tryd.prog) hn2
  refine J.region ?_
  refine JL.go trivial (RX.assign) ?_
  refine JL.nil ?_
  refine J.seq ?_
  refine J.region ?_
  refine JL.go trivial (RX.movev (v := Value.complex _ _ _) rfl) ?_
  refine JL.go trivial (RX.real rfl) ?_
  refine JL.go trivial (RX.movev (v := Value.complex _ _ _) rfl) ?_
  refine JL.go trivial (RX.real rfl) ?_
  refine JL.go trivial (RX.feq rfl rfl) ?_
  refine JL.go trivial (RX.movev (v := Value.bool _) rfl) ?_
  refine JL.no ⟨_, rfl, gno (order_nan32 hx1)⟩ ?_
  refine JL.no ⟨_, rfl, gno (order_nan32 hx1)⟩ ?_
  refine JL.no ⟨_, rfl, gno (order_nan32 hx1)⟩ ?_
  refine JL.no ⟨_, rfl, gno (order_nan32 hx1)⟩ ?_
  refine JL.no ⟨_, rfl, gno (order_nan32 hx1)⟩ ?_
  refine JL.no ⟨_, rfl, gno (order_nan32 hx1)⟩ ?_
  refine JL.no ⟨_, rfl, gno (order_nan32 hx1)⟩ ?_
  refine JL.no ⟨_, rfl, gno (order_nan32 hx1)⟩ ?_
  refine JL.no ⟨_, rfl, gno (order_nan32 hx1)⟩ ?_
  refine JL.go trivial (RX.pick_f rfl (order_nan32 hx1)) ?_
  refine JL.go trivial (RX.movev (v := Value.bool _) rfl) ?_
  refine JL.go ⟨_, rfl, rfl⟩ (RX.movev (v := Value.complex _ _ _) rfl) ?_
  refine JL.go ⟨_, rfl, rfl⟩ (RX.real rfl) ?_
  refine JL.go ⟨_, rfl, rfl⟩ (RX.movev (v := Value.complex _ _ _) rfl) ?_
  refine JL.go ⟨_, rfl, rfl⟩ (RX.real rfl) ?_
  refine JL.go ⟨_, rfl, rfl⟩ (nan32 rfl rfl) ?_
  refine JL.go ⟨_, rfl, rfl⟩ (RX.movev (v := Value.bool _) rfl) ?_
  refine JL.go ⟨_, rfl, (decide_eq_true hx1)⟩ (RX.movev (v := Value.complex _ _ _) rfl) ?_
  refine JL.go ⟨_, rfl, (decide_eq_true hx1)⟩ (RX.real rfl) ?_
  refine JL.go ⟨_, rfl, (decide_eq_true hx1)⟩ (RX.movev (v := Value.complex _ _ _) rfl) ?_
  refine JL.go ⟨_, rfl, (decide_eq_true hx1)⟩ (RX.real rfl) ?_
  refine JL.go ⟨_, rfl, (decide_eq_true hx1)⟩ (nan32 rfl rfl) ?_
  refine JL.go ⟨_, rfl, rfl⟩ (RX.pick_t rfl (decide_eq_true hx1)) ?_
  refine JL.go trivial (RX.pick_f rfl rfl) ?_
  refine JL.go trivial (RX.movev (v := Value.bool _) rfl) ?_
  refine JL.go ⟨_, rfl, (by first | rfl | exact decide_eq_true hy1 | (simp; done))⟩ (RX.movev (v := Value.complex _ _ _) rfl) ?_
  refine JL.go ⟨_, rfl, (by first | rfl | exact decide_eq_true hy1 | (simp; done))⟩ (RX.imag rfl) ?_
  refine JL.go ⟨_, rfl, (by first | rfl | exact decide_eq_true hy1 | (simp; done))⟩ (RX.movev (v := Value.complex _ _ _) rfl) ?_
  refine JL.go ⟨_, rfl, (by first | rfl | exact decide_eq_true hy1 | (simp; done))⟩ (RX.imag rfl) ?_
  refine JL.go ⟨_, rfl, (by first | rfl | exact decide_eq_true hy1 | (simp; done))⟩ (RX.feq rfl rfl) ?_
  refine JL.go ⟨_, rfl, (by first | rfl | exact decide_eq_true hy1 | (simp; done))⟩ (RX.movev (v := Value.bool _) rfl) ?_
  refine JL.go ⟨_, rfl, (order_same32 hn2)⟩ (RX.movev (v := Value.complex _ _ _) rfl) ?_
  refine JL.go ⟨_, rfl, (order_same32 hn2)⟩ (RX.imag rfl) ?_
  refine JL.go ⟨_, rfl, (order_same32 hn2)⟩ (Op.floatToFloat_run (r := r2) (hr2 _) ud136 ud61 rfl) ?_
  refine JL.does ⟨_, rfl, (order_same32 hn2)⟩ (EX.call rfl cl98 rfl ((signbit_b H))) ?_
  rintro _ w ⟨rfl, H⟩
  refine JL.go ⟨_, rfl, (order_same32 hn2)⟩ (RX.movev (v := Value.complex _ _ _) rfl) ?_
  refine JL.go ⟨_, rfl, (order_same32 hn2)⟩ (RX.imag rfl) ?_
  refine JL.go ⟨_, rfl, (order_same32 hn2)⟩ (Op.floatToFloat_run (r := r2) (hr2 _) ud136 ud61 rfl) ?_
  refine JL.does ⟨_, rfl, (order_same32 hn2)⟩ (EX.call rfl cl98 rfl ((signbit_b H))) ?_
  rintro _ w ⟨rfl, H⟩
  refine JL.go ⟨_, rfl, (order_same32 hn2)⟩ (RX.bool_eql rfl rfl ud4) ?_
  refine JL.go ⟨_, rfl, (by first | rfl | exact decide_eq_true hy1 | (simp; done))⟩ (RX.pick_t rfl (order_same32 hn2)) ?_
  refine JL.go ⟨_, rfl, (by first | rfl | exact decide_eq_true hy1 | (simp; done))⟩ (RX.movev (v := Value.bool _) rfl) ?_
  refine JL.no ⟨_, rfl, gno (by simp)⟩ ?_
  refine JL.no ⟨_, rfl, gno (by simp)⟩ ?_
  refine JL.no ⟨_, rfl, gno (by simp)⟩ ?_
  refine JL.no ⟨_, rfl, gno (by simp)⟩ ?_
  refine JL.no ⟨_, rfl, gno (by simp)⟩ ?_
  refine JL.no ⟨_, rfl, gno (by simp)⟩ ?_
  refine JL.no ⟨_, rfl, nofun⟩ ?_
  refine JL.no ⟨_, rfl, nofun⟩ ?_
  refine JL.no ⟨_, rfl, nofun⟩ ?_
  refine JL.no ⟨_, rfl, nofun⟩ ?_
  refine JL.no ⟨_, rfl, nofun⟩ ?_
  refine JL.no ⟨_, rfl, gno (by simp)⟩ ?_
  refine JL.go ⟨_, rfl, (by first | rfl | exact decide_eq_true hy1 | (simp; done))⟩ (RX.pick_t rfl (by simp)) ?_
  refine JL.go trivial (RX.pick_t rfl (by first | rfl | exact decide_eq_true hy1 | (simp; done))) ?_
  refine JL.go trivial (RX.assignv (v := Value.bool _) rfl) ?_
  refine JL.nil ?_
  refine J.ret1 (v := Value.bool _) Tryd.func64 rfl rfl ?_
  exact ⟨_, rfl, by first | rfl | exact congrArg Value.bool (decide_eq_true hy2) | (simp; done), H⟩
theorem same32_11 {w0 w : World} {F : List Seg} (H : Hp w0 w F) {x1 y1 : Nat} (hx1 : 2139095040 < x1 % 2147483648) (hy1 : 2139095040 < y1 % 2147483648) {x2 y2 : Nat} (hx2 : 2139095040 < x2 % 2147483648) (hy2 : 2139095040 < y2 % 2147483648) : Ret Tryd.prog 64 [nV (x1, x2), nV (y1, y2)] w fun v w' => v = .bool true ∧ Hp w0 w' F := by
  refine Calls.of_J (n := 67) Tryd.func64 rfl rfl rfl ?_
  refine J.seq ?_
  unfold nV
  skip
  refine J.region ?_
  refine JL.go trivial (RX.assign) ?_
  refine JL.nil ?_
  refine J.seq ?_
  refine J.region ?_
  refine JL.go trivial (RX.movev (v := Value.complex _ _ _) rfl) ?_
  refine JL.go trivial (RX.real rfl) ?_
  refine JL.go trivial (RX.movev (v := Value.complex _ _ _) rfl) ?_
  refine JL.go trivial (RX.real rfl) ?_
  refine JL.go trivial (RX.feq rfl rfl) ?_
  refine JL.go trivial (RX.movev (v := Value.bool _) rfl) ?_
  refine JL.no ⟨_, rfl, gno (order_nan32 hx1)⟩ ?_
  refine JL.no ⟨_, rfl, gno (order_nan32 hx1)⟩ ?_
  refine JL.no ⟨_, rfl, gno (order_nan32 hx1)⟩ ?_
  refine JL.no ⟨_, rfl, gno (order_nan32 hx1)⟩ ?_
  refine JL.no ⟨_, rfl, gno (order_nan32 hx1)⟩ ?_
  refine JL.no ⟨_, rfl, gno (order_nan32 hx1)⟩ ?_
  refine JL.no ⟨_, rfl, gno (order_nan32 hx1)⟩ ?_
  refine JL.no ⟨_, rfl, gno (order_nan32 hx1)⟩ ?_
  refine JL.no ⟨_, rfl, gno (order_nan32 hx1)⟩ ?_
  refine JL.go trivial (RX.pick_f rfl (order_nan32 hx1)) ?_
  refine JL.go trivial (RX.movev (v := Value.bool _) rfl) ?_
  refine JL.go ⟨_, rfl, rfl⟩ (RX.movev (v := Value.complex _ _ _) rfl) ?_
  refine JL.go ⟨_, rfl, rfl⟩ (RX.real rfl) ?_
  refine JL.go ⟨_, rfl, rfl⟩ (RX.movev (v := Value.complex _ _ _) rfl) ?_
  refine JL.go ⟨_, rfl, rfl⟩ (RX.real rfl) ?_
  refine JL.go ⟨_, rfl, rfl⟩ (nan32 rfl rfl) ?_
  refine JL.go ⟨_, rfl, rfl⟩ (RX.movev (v := Value.bool _) rfl) ?_
  refine JL.go ⟨_, rfl, (decide_eq_true hx1)⟩ (RX.movev (v := Value.complex _ _ _) rfl) ?_
  refine JL.go ⟨_, rfl, (decide_eq_true hx1)⟩ (RX.real rfl) ?_
  refine JL.go ⟨_, rfl, (decide_eq_true hx1)⟩ (RX.movev (v := Value.complex _ _ _) rfl) ?_
  refine JL.go ⟨_, rfl, (decide_eq_true hx1)⟩ (RX.real rfl) ?_
  refine JL.go ⟨_, rfl, (decide_eq_true hx1)⟩ (nan32 rfl rfl) ?_
  refine JL.go ⟨_, rfl, rfl⟩ (RX.pick_t rfl (decide_eq_true hx1)) ?_
  refine JL.go trivial (RX.pick_f rfl rfl) ?_
  refine JL.go trivial (RX.movev (v := Value.bool _) rfl) ?_
  refine JL.go ⟨_, rfl, (by first | rfl | exact decide_eq_true hy1 | (simp; done))⟩ (RX.movev (v := Value.complex _ _ _) rfl) ?_
  refine JL.go ⟨_, rfl, (by first | rfl | exact decide_eq_true hy1 | (simp; done))⟩ (RX.imag rfl) ?_
  refine JL.go ⟨_, rfl, (by first | rfl | exact decide_eq_true hy1 | (simp; done))⟩ (RX.movev (v := Value.complex _ _ _) rfl) ?_
  refine JL.go ⟨_, rfl, (by first | rfl | exact decide_eq_true hy1 | (simp; done))⟩ (RX.imag rfl) ?_
  refine JL.go ⟨_, rfl, (by first | rfl | exact decide_eq_true hy1 | (simp; done))⟩ (RX.feq rfl rfl) ?_
  refine JL.go ⟨_, rfl, (by first | rfl | exact decide_eq_true hy1 | (simp; done))⟩ (RX.movev (v := Value.bool _) rfl) ?_
  refine JL.no ⟨_, rfl, gno (order_nan32 hx2)⟩ ?_
  refine JL.no ⟨_, rfl, gno (order_nan32 hx2)⟩ ?_
  refine JL.no ⟨_, rfl, gno (order_nan32 hx2)⟩ ?_
  refine JL.no ⟨_, rfl, gno (order_nan32 hx2)⟩ ?_
  refine JL.no ⟨_, rfl, gno (order_nan32 hx2)⟩ ?_
  refine JL.no ⟨_, rfl, gno (order_nan32 hx2)⟩ ?_
  refine JL.no ⟨_, rfl, gno (order_nan32 hx2)⟩ ?_
  refine JL.no ⟨_, rfl, gno (order_nan32 hx2)⟩ ?_
  refine JL.no ⟨_, rfl, gno (order_nan32 hx2)⟩ ?_
  refine JL.go ⟨_, rfl, (by first | rfl | exact decide_eq_true hy1 | (simp; done))⟩ (RX.pick_f rfl (order_nan32 hx2)) ?_
  refine JL.go ⟨_, rfl, (by first | rfl | exact decide_eq_true hy1 | (simp; done))⟩ (RX.movev (v := Value.bool _) rfl) ?_
  refine JL.go ⟨_, rfl, rfl⟩ (RX.movev (v := Value.complex _ _ _) rfl) ?_
  refine JL.go ⟨_, rfl, rfl⟩ (RX.imag rfl) ?_
  refine JL.go ⟨_, rfl, rfl⟩ (RX.movev (v := Value.complex _ _ _) rfl) ?_
  refine JL.go ⟨_, rfl, rfl⟩ (RX.imag rfl) ?_
  refine JL.go ⟨_, rfl, rfl⟩ (nan32 rfl rfl) ?_
  refine JL.go ⟨_, rfl, rfl⟩ (RX.movev (v := Value.bool _) rfl) ?_
  refine JL.go ⟨_, rfl, (decide_eq_true hx2)⟩ (RX.movev (v := Value.complex _ _ _) rfl) ?_
  refine JL.go ⟨_, rfl, (decide_eq_true hx2)⟩ (RX.imag rfl) ?_
  refine JL.go ⟨_, rfl, (decide_eq_true hx2)⟩ (RX.movev (v := Value.complex _ _ _) rfl) ?_
  refine JL.go ⟨_, rfl, (decide_eq_true hx2)⟩ (RX.imag rfl) ?_
  refine JL.go ⟨_, rfl, (decide_eq_true hx2)⟩ (nan32 rfl rfl) ?_
  refine JL.go ⟨_, rfl, rfl⟩ (RX.pick_t rfl (decide_eq_true hx2)) ?_
  refine JL.go ⟨_, rfl, (by first | rfl | exact decide_eq_true hy1 | (simp; done))⟩ (RX.pick_f rfl rfl) ?_
  refine JL.go trivial (RX.pick_t rfl (by first | rfl | exact decide_eq_true hy1 | (simp; done))) ?_
  refine JL.go trivial (RX.assignv (v := Value.bool _) rfl) ?_
  refine JL.nil ?_
  refine J.ret1 (v := Value.bool _) Tryd.func64 rfl rfl ?_
  exact ⟨_, rfl, by first | rfl | exact congrArg Value.bool (decide_eq_true hy2) | (simp; done), H⟩
theorem same32_t {w0 w : World} {F : List Seg} (H : Hp w0 w F) {a b : Nat × Nat} (h1 : canon32 a.1 = canon32 b.1) (h2 : canon32 a.2 = canon32 b.2) : Ret Tryd.prog 64 [nV a, nV b] w fun v w' => v = .bool true ∧ Hp w0 w' F := by
  obtain ⟨a1, a2⟩ := a
  obtain ⟨b1, b2⟩ := b
  simp only at h1 h2
  rcases canon32_ways h1 with ⟨rfl, k1⟩ | ⟨k1, k1'⟩
  · rcases canon32_ways h2 with ⟨rfl, k2⟩ | ⟨k2, k2'⟩
    · exact same32_00 H k1 k2
    · exact same32_01 H k1 k2 k2'
  · rcases canon32_ways h2 with ⟨rfl, k2⟩ | ⟨k2, k2'⟩
    · exact same32_10 H k1 k1' k2
    · exact same32_11 H k1 k1' k2 k2'

theorem rCo_ok (l : List UInt8) : u64ok ((rCo l).val (0, 0)).1 ∧ u64ok ((rCo l).val (0, 0)).2 := by
  cases hr : rCo l with
  | err e => exact ⟨Nat.zero_le _, Nat.zero_le _⟩
  | ok q k =>
    obtain ⟨_, _, ⟨k1, h1⟩, ⟨k2, h2⟩⟩ := (pair2_good rFl_g l).2 q k hr
    exact ⟨((rFl_good l).2 _ _ h1).2.2.2.2, ((rFl_good _).2 _ _ h2).2.2.2.2⟩
theorem rMany_mem {α : Type} {one : List UInt8 → Rs α} {Ok : α → Prop} (hone : ∀ l a k, one l = .ok a k → Ok a) : ∀ (n : Nat) (l : List UInt8) (ys : List α) (m : Nat), rMany one n l = .ok ys m → ∀ y ∈ ys, Ok y
  | 0, l, ys, m, h => by cases h; intro y hy; cases hy
  | n + 1, l, ys, m, h => by
    unfold rMany at h
    cases ho : one l with
    | err e => rw [ho] at h; cases h
    | ok a k =>
      rw [ho] at h
      simp only at h
      cases hm : rMany one n (l.drop k) with
      | err e => rw [hm] at h; cases h
      | ok zs j =>
        rw [hm] at h
        cases h
        intro y hy
        rcases List.mem_cons.1 hy with rfl | hy
        · exact hone _ _ _ ho
        · exact rMany_mem hone n _ _ _ hm y hy
theorem rList_mem {α : Type} {one : List UInt8 → Rs α} {Ok : α → Prop} (hone : ∀ l a k, one l = .ok a k → Ok a) (l : List UInt8) : ∀ y ∈ (rList one l).val [], Ok y := by
  unfold rList
  cases rUp 1048576 l with
  | err e => intro y hy; cases hy
  | ok n k =>
    simp only
    cases hm : rMany one n (l.drop k) with
    | err e => intro y hy; cases hy
    | ok ys m => exact rMany_mem hone n _ _ _ hm
theorem rList_len {α : Type} {one : List UInt8 → Rs α} (hg : ∀ l, (one l).Good l.length) (l : List UInt8) : ((rList one l).val []).length ≤ 1048576 := by
  have h := rList_good hg l
  cases hr : rList one l with
  | err e => exact Nat.zero_le _
  | ok ys k => exact h.2 ys k hr
theorem rCos_ok (l : List UInt8) : ∀ q ∈ (rList rCo l).val [], u64ok q.1 ∧ u64ok q.2 := rList_mem (fun l a k h => by have := rCo_ok l; rw [h] at this; exact this) l
theorem rFls_ok (l : List UInt8) : ∀ q ∈ (rList rFl l).val [], u64ok q := rList_mem (fun l a k h => ((rFl_good l).2 a k h).2.2.2.2) l
theorem rFl_ok (l : List UInt8) : u64ok ((rFl l).val 0) := rFl_le
theorem rI_g (l : List UInt8) : (rI l).Good l.length := by
  have h := (rU_good l).1
  unfold rI
  cases hr : rU l with
  | ok x k => rw [hr] at h; exact h
  | err e => rw [hr] at h; exact h
theorem read_b {w0 w : World} {F : List Seg} {b T tb TT c qc at_ : Nat} {p q : Option Addr} {s : Seg} {bs : List UInt8} {E : Nat → Value} {Q : Nat → Addr} (H : Hp w0 w ([(b, cel [.slice p bs.length c, .int .i64 (at_ : Nat)] T)] :: s :: [(tb, cel [.slice q bs.length qc, .int .i64 (at_ : Nat)] TT)] :: F)) (ho : OwnSl 5 1 p bs.length c (bv bs) s) (hq : SlAt F q (bv bs)) (hqs : ∀ a, q = some a → a.spot = none) (hqc : bs.length ≤ qc) (hat : at_ ≤ bs.length) (hl : bs.length ≤ 1099511627776) (hE : Errs F E Q) {x : Va} (hx : x.Ok F) : Ret Tryd.prog 18 [.pointer (some ⟨b, 0, none⟩), .pointer (some ⟨tb, 0, none⟩), .agg x.cells.toArray] w fun v w' => ∃ at2, at2 ≤ bs.length ∧ v = .bool true ∧ Hp w0 w' ([(b, cel [.slice p bs.length c, .int .i64 (at2 : Nat)] T)] :: s :: [(tb, cel [.slice q bs.length qc, .int .i64 (at2 : Nat)] TT)] :: F) := by
  refine Calls.of_J (n := 248) Tryd.func18 rfl rfl rfl ?_
  refine J.seq ?_
  refine J.region ?_
  refine JL.does trivial (EX.box (v := Value.agg _) H rfl rfl) ?_
  rintro _ w ⟨b5, rfl, H⟩
  refine JL.go trivial (RX.assign) ?_
  refine JL.nil ?_
  replace H := (H.pull 2 rfl).pull 2 rfl
  refine J.seq ?_
  refine J.seq ?_
  refine J.region ?_
  refine JL.go trivial (RX.fieldAddr rfl fo30_0 rfl) ?_
  refine JL.go trivial (by first | exact RX.load H rfl (i := 0) rfl rfl one3 | exact RX.load H rfl (i := 1) rfl rfl one3 | exact RX.load H rfl (i := 2) rfl rfl one3 | exact RX.load H rfl (i := 3) rfl rfl one3 | exact RX.load H rfl (i := 4) rfl rfl one3 | exact RX.load H rfl (i := 5) rfl rfl one3) ?_
  refine JL.nil ?_
  refine J.block ?_
  refine J.seq ?_
  refine J.region ?_
  refine JL.go trivial (RX.eq rfl rfl) ?_
  refine JL.go trivial (RX.assignv (v := Value.bool _) rfl) ?_
  refine JL.nil ?_
  refine J.cond_d rfl (fun h0 => ?_) (fun h0 => ?_)
  · skip
    refine J.seq ?_
    refine J.region ?_
    refine JL.go trivial (RX.movev (v := Value.pointer _) rfl) ?_
    refine JL.does trivial (EX.call rfl cl24 rfl ((rUint_c H ho hat hl hE.cons.cons.w))) ?_
    rintro _ w ⟨rfl, H⟩
    have hgc := ((rU_good (bs.drop at_)).1).code
    have hgk := ((rU_good (bs.drop at_)).1).k
    rw [List.length_drop] at hgk
    refine JL.go trivial (RX.movev (v := Value.tuple _) rfl) ?_
    refine JL.go trivial (RX.extract rfl rfl) ?_
    refine JL.go trivial (RX.extract (v := errV E (rU (bs.drop at_)).code) rfl rfl) ?_
    refine JL.go trivial (RX.assignv (v := Value.int _ _) rfl) ?_
    refine JL.go trivial (RX.assignv (v := errV E (rU (bs.drop at_)).code) rfl) ?_
    refine JL.nil ?_
    refine J.seq ?_
    refine J.region ?_
    refine JL.go trivial (RX.movev (v := Value.pointer _) rfl) ?_
    refine JL.does trivial (EX.call rfl cl56 rfl ((qUint_c (H.pull 3 rfl) hq.cons.cons.cons hat hl))) ?_
    rintro _ w ⟨rfl, H⟩
    refine JL.go trivial (RX.movev (v := Value.tuple _) rfl) ?_
    refine JL.go trivial (RX.extract rfl rfl) ?_
    refine JL.go trivial (RX.extract rfl rfl) ?_
    refine JL.go trivial (RX.assignv (v := Value.int _ _) rfl) ?_
    refine JL.go trivial (RX.assignv (v := Value.int _ _) rfl) ?_
    refine JL.nil ?_
    refine J.seq ?_
    refine J.region ?_
    refine JL.go trivial (RX.movev (v := Value.int _ _) rfl) ?_
    refine JL.go trivial (RX.movev (v := Value.int _ _) rfl) ?_
    refine JL.go trivial (RX.eq rfl rfl) ?_
    refine JL.go trivial (RX.movev (v := Value.bool _) rfl) ?_
    refine JL.go ⟨_, rfl, (decide_eq_true rfl)⟩ (RX.movev (v := errV E (rU (bs.drop at_)).code) rfl) ?_
    refine JL.does ⟨_, rfl, (decide_eq_true rfl)⟩ (EX.call rfl cl21 rfl ((Num_b H hE.cons.cons.cons.cons hgc))) ?_
    rintro _ w ⟨rfl, H⟩
    refine JL.go ⟨_, rfl, (decide_eq_true rfl)⟩ (RX.movev (v := Value.int _ _) rfl) ?_
    refine JL.go ⟨_, rfl, (decide_eq_true rfl)⟩ (RX.eq rfl rfl) ?_
    refine JL.go trivial (RX.pick_t rfl (decide_eq_true rfl)) ?_
    refine JL.go trivial (RX.assignv (v := Value.bool _) rfl) ?_
    refine JL.nil ?_
    refine J.ret1 (v := Value.bool _) Tryd.func18 rfl rfl ?_
    exact ⟨_, rfl, at_ + (rU (bs.drop at_)).k, by omega, by simp, (((H.pull 3 rfl).drop).pull 2 rfl).pull 2 rfl⟩
  · skip
    refine J.seq ?_
    refine J.region ?_
    refine JL.go trivial (RX.eq rfl rfl) ?_
    refine JL.go trivial (RX.assignv (v := Value.bool _) rfl) ?_
    refine JL.nil ?_
    refine J.cond_d rfl (fun h8 => ?_) (fun h8 => ?_)
    · skip
      refine J.seq ?_
      refine J.region ?_
      refine JL.go trivial (RX.movev (v := Value.pointer _) rfl) ?_
      refine JL.go trivial (RX.fieldAddr rfl fo30_5 rfl) ?_
      refine JL.go trivial (by first | exact RX.load H rfl (i := 0) rfl rfl one3 | exact RX.load H rfl (i := 1) rfl rfl one3 | exact RX.load H rfl (i := 2) rfl rfl one3 | exact RX.load H rfl (i := 3) rfl rfl one3 | exact RX.load H rfl (i := 4) rfl rfl one3 | exact RX.load H rfl (i := 5) rfl rfl one3) ?_
      refine JL.does trivial (EX.call rfl cl57 rfl ((rUpto_c H ho hat hl hE.cons.cons.w hx.n0 hx.n1))) ?_
      rintro _ w ⟨rfl, H⟩
      have hgc := ((rUp_good x.n (bs.drop at_)).1).code
      have hgk := ((rUp_good x.n (bs.drop at_)).1).k
      rw [List.length_drop] at hgk
      refine JL.go trivial (RX.movev (v := Value.tuple _) rfl) ?_
      refine JL.go trivial (RX.extract rfl rfl) ?_
      refine JL.go trivial (RX.extract (v := errV E (rUp x.n (bs.drop at_)).code) rfl rfl) ?_
      refine JL.go trivial (RX.assignv (v := Value.int _ _) rfl) ?_
      refine JL.go trivial (RX.assignv (v := errV E (rUp x.n (bs.drop at_)).code) rfl) ?_
      refine JL.nil ?_
      refine J.seq ?_
      refine J.region ?_
      refine JL.go trivial (RX.movev (v := Value.pointer _) rfl) ?_
      refine JL.go trivial (RX.fieldAddr rfl fo30_5 rfl) ?_
      refine JL.go trivial (by first | exact RX.load H rfl (i := 0) rfl rfl one3 | exact RX.load H rfl (i := 1) rfl rfl one3 | exact RX.load H rfl (i := 2) rfl rfl one3 | exact RX.load H rfl (i := 3) rfl rfl one3 | exact RX.load H rfl (i := 4) rfl rfl one3 | exact RX.load H rfl (i := 5) rfl rfl one3) ?_
      refine JL.does trivial (EX.call rfl cl58 rfl ((qUpto_c (H.pull 3 rfl) hq.cons.cons.cons hat hl hx.n0 hx.n1))) ?_
      rintro _ w ⟨rfl, H⟩
      refine JL.go trivial (RX.movev (v := Value.tuple _) rfl) ?_
      refine JL.go trivial (RX.extract rfl rfl) ?_
      refine JL.go trivial (RX.extract rfl rfl) ?_
      refine JL.go trivial (RX.assignv (v := Value.int _ _) rfl) ?_
      refine JL.go trivial (RX.assignv (v := Value.int _ _) rfl) ?_
      refine JL.nil ?_
      refine J.seq ?_
      refine J.region ?_
      refine JL.go trivial (RX.movev (v := Value.int _ _) rfl) ?_
      refine JL.go trivial (RX.movev (v := Value.int _ _) rfl) ?_
      refine JL.go trivial (RX.eq rfl rfl) ?_
      refine JL.go trivial (RX.movev (v := Value.bool _) rfl) ?_
      refine JL.go ⟨_, rfl, (decide_eq_true rfl)⟩ (RX.movev (v := errV E (rUp x.n (bs.drop at_)).code) rfl) ?_
      refine JL.does ⟨_, rfl, (decide_eq_true rfl)⟩ (EX.call rfl cl21 rfl ((Num_b H hE.cons.cons.cons.cons hgc))) ?_
      rintro _ w ⟨rfl, H⟩
      refine JL.go ⟨_, rfl, (decide_eq_true rfl)⟩ (RX.movev (v := Value.int _ _) rfl) ?_
      refine JL.go ⟨_, rfl, (decide_eq_true rfl)⟩ (RX.eq rfl rfl) ?_
      refine JL.go trivial (RX.pick_t rfl (decide_eq_true rfl)) ?_
      refine JL.go trivial (RX.assignv (v := Value.bool _) rfl) ?_
      refine JL.nil ?_
      refine J.ret1 (v := Value.bool _) Tryd.func18 rfl rfl ?_
      exact ⟨_, rfl, at_ + (rUp x.n (bs.drop at_)).k, by omega, by simp, (((H.pull 3 rfl).drop).pull 2 rfl).pull 2 rfl⟩
    · skip
      refine J.seq ?_
      refine J.region ?_
      refine JL.go trivial (RX.eq rfl rfl) ?_
      refine JL.go trivial (RX.assignv (v := Value.bool _) rfl) ?_
      refine JL.nil ?_
      refine J.cond_d rfl (fun h1 => ?_) (fun h1 => ?_)
      · skip
        refine J.seq ?_
        refine J.region ?_
        refine JL.go trivial (RX.movev (v := Value.pointer _) rfl) ?_
        refine JL.does trivial (EX.call rfl cl26 rfl ((rInt_c H ho hat hl hE.cons.cons.w))) ?_
        rintro _ w ⟨rfl, H⟩
        have hgc := (rI_g (bs.drop at_)).code
        have hgk := (rI_g (bs.drop at_)).k
        rw [List.length_drop] at hgk
        refine JL.go trivial (RX.movev (v := Value.tuple _) rfl) ?_
        refine JL.go trivial (RX.extract rfl rfl) ?_
        refine JL.go trivial (RX.extract (v := errV E (rI (bs.drop at_)).code) rfl rfl) ?_
        refine JL.go trivial (RX.assignv (v := Value.int _ _) rfl) ?_
        refine JL.go trivial (RX.assignv (v := errV E (rI (bs.drop at_)).code) rfl) ?_
        refine JL.nil ?_
        refine J.seq ?_
        refine J.region ?_
        refine JL.go trivial (RX.movev (v := Value.pointer _) rfl) ?_
        refine JL.does trivial (EX.call rfl cl59 rfl ((qInt_c (H.pull 3 rfl) hq.cons.cons.cons hat hl))) ?_
        rintro _ w ⟨rfl, H⟩
        refine JL.go trivial (RX.movev (v := Value.tuple _) rfl) ?_
        refine JL.go trivial (RX.extract rfl rfl) ?_
        refine JL.go trivial (RX.extract rfl rfl) ?_
        refine JL.go trivial (RX.assignv (v := Value.int _ _) rfl) ?_
        refine JL.go trivial (RX.assignv (v := Value.int _ _) rfl) ?_
        refine JL.nil ?_
        refine J.seq ?_
        refine J.region ?_
        refine JL.go trivial (RX.movev (v := Value.int _ _) rfl) ?_
        refine JL.go trivial (RX.movev (v := Value.int _ _) rfl) ?_
        refine JL.go trivial (RX.eq rfl rfl) ?_
        refine JL.go trivial (RX.movev (v := Value.bool _) rfl) ?_
        refine JL.go ⟨_, rfl, (decide_eq_true rfl)⟩ (RX.movev (v := errV E (rI (bs.drop at_)).code) rfl) ?_
        refine JL.does ⟨_, rfl, (decide_eq_true rfl)⟩ (EX.call rfl cl21 rfl ((Num_b H hE.cons.cons.cons.cons hgc))) ?_
        rintro _ w ⟨rfl, H⟩
        refine JL.go ⟨_, rfl, (decide_eq_true rfl)⟩ (RX.movev (v := Value.int _ _) rfl) ?_
        refine JL.go ⟨_, rfl, (decide_eq_true rfl)⟩ (RX.eq rfl rfl) ?_
        refine JL.go trivial (RX.pick_t rfl (decide_eq_true rfl)) ?_
        refine JL.go trivial (RX.assignv (v := Value.bool _) rfl) ?_
        refine JL.nil ?_
        refine J.ret1 (v := Value.bool _) Tryd.func18 rfl rfl ?_
        exact ⟨_, rfl, at_ + (rI (bs.drop at_)).k, by omega, by simp, (((H.pull 3 rfl).drop).pull 2 rfl).pull 2 rfl⟩
      · skip
        refine J.seq ?_
        refine J.region ?_
        refine JL.go trivial (RX.eq rfl rfl) ?_
        refine JL.go trivial (RX.assignv (v := Value.bool _) rfl) ?_
        refine JL.nil ?_
        refine J.cond_d rfl (fun h2 => ?_) (fun h2 => ?_)
        · skip
          refine J.seq ?_
          refine J.region ?_
          refine JL.go trivial (RX.movev (v := Value.pointer _) rfl) ?_
          refine JL.does trivial (EX.call rfl cl28 rfl ((rFloat_c H ho hat hl hE.cons.cons.w))) ?_
          rintro _ w ⟨rfl, H⟩
          have hgc := (rFl_g (bs.drop at_)).code
          have hgk := (rFl_g (bs.drop at_)).k
          rw [List.length_drop] at hgk
          refine JL.go trivial (RX.movev (v := Value.tuple _) rfl) ?_
          refine JL.go trivial (RX.extract rfl rfl) ?_
          refine JL.go trivial (RX.extract (v := errV E (rFl (bs.drop at_)).code) rfl rfl) ?_
          refine JL.go trivial (RX.assignv (v := Value.float _ _) rfl) ?_
          refine JL.go trivial (RX.assignv (v := errV E (rFl (bs.drop at_)).code) rfl) ?_
          refine JL.nil ?_
          refine J.seq ?_
          refine J.region ?_
          refine JL.go trivial (RX.movev (v := Value.pointer _) rfl) ?_
          refine JL.does trivial (EX.call rfl cl60 rfl ((qFloat_c (H.pull 3 rfl) hq.cons.cons.cons hat hl))) ?_
          rintro _ w ⟨rfl, H⟩
          refine JL.go trivial (RX.movev (v := Value.tuple _) rfl) ?_
          refine JL.go trivial (RX.extract rfl rfl) ?_
          refine JL.go trivial (RX.extract rfl rfl) ?_
          refine JL.go trivial (RX.assignv (v := Value.float _ _) rfl) ?_
          refine JL.go trivial (RX.assignv (v := Value.int _ _) rfl) ?_
          refine JL.nil ?_
          refine J.seq ?_
          refine J.region ?_
          refine JL.go trivial (RX.movev (v := Value.float _ _) rfl) ?_
          refine JL.go trivial (RX.movev (v := Value.float _ _) rfl) ?_
          refine JL.does trivial (EX.call rfl cl61 rfl ((same61_t H (rFl_ok _) (rFl_ok _) rfl))) ?_
          rintro _ w ⟨rfl, H⟩
          refine JL.go trivial (RX.movev (v := Value.bool _) rfl) ?_
          refine JL.go ⟨_, rfl, rfl⟩ (RX.movev (v := errV E (rFl (bs.drop at_)).code) rfl) ?_
          refine JL.does ⟨_, rfl, rfl⟩ (EX.call rfl cl21 rfl ((Num_b H hE.cons.cons.cons.cons hgc))) ?_
          rintro _ w ⟨rfl, H⟩
          refine JL.go ⟨_, rfl, rfl⟩ (RX.movev (v := Value.int _ _) rfl) ?_
          refine JL.go ⟨_, rfl, rfl⟩ (RX.eq rfl rfl) ?_
          refine JL.go trivial (RX.pick_t rfl rfl) ?_
          refine JL.go trivial (RX.assignv (v := Value.bool _) rfl) ?_
          refine JL.nil ?_
          refine J.ret1 (v := Value.bool _) Tryd.func18 rfl rfl ?_
          exact ⟨_, rfl, at_ + (rFl (bs.drop at_)).k, by omega, by simp, (((H.pull 3 rfl).drop).pull 2 rfl).pull 2 rfl⟩
        · skip
          refine J.seq ?_
          refine J.region ?_
          refine JL.go trivial (RX.eq rfl rfl) ?_
          refine JL.go trivial (RX.assignv (v := Value.bool _) rfl) ?_
          refine JL.nil ?_
          refine J.cond_d rfl (fun h3 => ?_) (fun h3 => ?_)
          · skip
            refine J.seq ?_
            refine J.region ?_
            refine JL.go trivial (RX.movev (v := Value.pointer _) rfl) ?_
            refine JL.does trivial (EX.call rfl cl30 rfl ((rComplex_c H ho hat hl hE.cons.cons.w))) ?_
            rintro _ w ⟨rfl, H⟩
            have hgc := (rCo_g (bs.drop at_)).code
            have hgk := (rCo_g (bs.drop at_)).k
            rw [List.length_drop] at hgk
            refine JL.go trivial (RX.movev (v := Value.tuple _) rfl) ?_
            refine JL.go trivial (RX.extract rfl rfl) ?_
            refine JL.go trivial (RX.extract (v := errV E (rCo (bs.drop at_)).code) rfl rfl) ?_
            refine JL.go trivial (RX.assignv (v := Value.complex _ _ _) rfl) ?_
            refine JL.go trivial (RX.assignv (v := errV E (rCo (bs.drop at_)).code) rfl) ?_
            refine JL.nil ?_
            refine J.seq ?_
            refine J.region ?_
            refine JL.go trivial (RX.movev (v := Value.pointer _) rfl) ?_
            refine JL.does trivial (EX.call rfl cl62 rfl ((qComplex_c (H.pull 3 rfl) hq.cons.cons.cons hat hl))) ?_
            rintro _ w ⟨rfl, H⟩
            refine JL.go trivial (RX.movev (v := Value.tuple _) rfl) ?_
            refine JL.go trivial (RX.extract rfl rfl) ?_
            refine JL.go trivial (RX.extract rfl rfl) ?_
            refine JL.go trivial (RX.assignv (v := Value.complex _ _ _) rfl) ?_
            refine JL.go trivial (RX.assignv (v := Value.int _ _) rfl) ?_
            refine JL.nil ?_
            refine J.seq ?_
            refine J.region ?_
            refine JL.go trivial (RX.movev (v := Value.complex _ _ _) rfl) ?_
            refine JL.go trivial (RX.movev (v := Value.complex _ _ _) rfl) ?_
            refine JL.does trivial (EX.call rfl cl54 rfl ((same_t H (rCo_ok _) (rCo_ok _) ⟨rfl, rfl⟩))) ?_
            rintro _ w ⟨rfl, H⟩
            refine JL.go trivial (RX.movev (v := Value.bool _) rfl) ?_
            refine JL.go ⟨_, rfl, rfl⟩ (RX.movev (v := errV E (rCo (bs.drop at_)).code) rfl) ?_
            refine JL.does ⟨_, rfl, rfl⟩ (EX.call rfl cl21 rfl ((Num_b H hE.cons.cons.cons.cons hgc))) ?_
            rintro _ w ⟨rfl, H⟩
            refine JL.go ⟨_, rfl, rfl⟩ (RX.movev (v := Value.int _ _) rfl) ?_
            refine JL.go ⟨_, rfl, rfl⟩ (RX.eq rfl rfl) ?_
            refine JL.go trivial (RX.pick_t rfl rfl) ?_
            refine JL.go trivial (RX.assignv (v := Value.bool _) rfl) ?_
            refine JL.nil ?_
            refine J.ret1 (v := Value.bool _) Tryd.func18 rfl rfl ?_
            exact ⟨_, rfl, at_ + (rCo (bs.drop at_)).k, by omega, by simp, (((H.pull 3 rfl).drop).pull 2 rfl).pull 2 rfl⟩
          · skip
            refine J.seq ?_
            refine J.region ?_
            refine JL.go trivial (RX.eq rfl rfl) ?_
            refine JL.go trivial (RX.assignv (v := Value.bool _) rfl) ?_
            refine JL.nil ?_
            refine J.cond_d rfl (fun h4 => ?_) (fun h4 => ?_)
            · skip
              refine J.seq ?_
              refine J.region ?_
              refine JL.go trivial (RX.movev (v := Value.pointer _) rfl) ?_
              refine JL.does trivial (EX.call rfl cl32 rfl ((rNarrow_c H ho hat hl hE.cons.cons.w))) ?_
              rintro _ w ⟨rfl, H⟩
              have hgc := (rNa_g (bs.drop at_)).code
              have hgk := (rNa_g (bs.drop at_)).k
              rw [List.length_drop] at hgk
              refine JL.go trivial (RX.movev (v := Value.tuple _) rfl) ?_
              refine JL.go trivial (RX.extract rfl rfl) ?_
              refine JL.go trivial (RX.extract (v := errV E (rNa (bs.drop at_)).code) rfl rfl) ?_
              refine JL.go trivial (RX.assignv (v := Value.complex _ _ _) rfl) ?_
              refine JL.go trivial (RX.assignv (v := errV E (rNa (bs.drop at_)).code) rfl) ?_
              refine JL.nil ?_
              refine J.seq ?_
              refine J.region ?_
              refine JL.go trivial (RX.movev (v := Value.pointer _) rfl) ?_
              refine JL.does trivial (EX.call rfl cl63 rfl ((qNarrow_c (H.pull 3 rfl) hq.cons.cons.cons hat hl))) ?_
              rintro _ w ⟨rfl, H⟩
              refine JL.go trivial (RX.movev (v := Value.tuple _) rfl) ?_
              refine JL.go trivial (RX.extract rfl rfl) ?_
              refine JL.go trivial (RX.extract rfl rfl) ?_
              refine JL.go trivial (RX.assignv (v := Value.complex _ _ _) rfl) ?_
              refine JL.go trivial (RX.assignv (v := Value.int _ _) rfl) ?_
              refine JL.nil ?_
              refine J.seq ?_
              refine J.region ?_
              refine JL.go trivial (RX.movev (v := Value.complex _ _ _) rfl) ?_
              refine JL.go trivial (RX.movev (v := Value.complex _ _ _) rfl) ?_
              refine JL.does trivial (EX.call rfl cl64 rfl ((same32_t (a := (rNa (bs.drop at_)).val (0, 0)) (b := (rNa (bs.drop at_)).val (0, 0)) H rfl rfl))) ?_
              rintro _ w ⟨rfl, H⟩
              refine JL.go trivial (RX.movev (v := Value.bool _) rfl) ?_
              refine JL.go ⟨_, rfl, rfl⟩ (RX.movev (v := errV E (rNa (bs.drop at_)).code) rfl) ?_
              refine JL.does ⟨_, rfl, rfl⟩ (EX.call rfl cl21 rfl ((Num_b H hE.cons.cons.cons.cons hgc))) ?_
              rintro _ w ⟨rfl, H⟩
              refine JL.go ⟨_, rfl, rfl⟩ (RX.movev (v := Value.int _ _) rfl) ?_
              refine JL.go ⟨_, rfl, rfl⟩ (RX.eq rfl rfl) ?_
              refine JL.go trivial (RX.pick_t rfl rfl) ?_
              refine JL.go trivial (RX.assignv (v := Value.bool _) rfl) ?_
              refine JL.nil ?_
              refine J.ret1 (v := Value.bool _) Tryd.func18 rfl rfl ?_
              exact ⟨_, rfl, at_ + (rNa (bs.drop at_)).k, by omega, by simp, (((H.pull 3 rfl).drop).pull 2 rfl).pull 2 rfl⟩
            · skip
              refine J.seq ?_
              refine J.region ?_
              refine JL.go trivial (RX.eq rfl rfl) ?_
              refine JL.go trivial (RX.assignv (v := Value.bool _) rfl) ?_
              refine JL.nil ?_
              refine J.cond_d rfl (fun h5 => ?_) (fun h5 => ?_)
              · skip
                refine J.seq ?_
                refine J.region ?_
                refine JL.go trivial (RX.movev (v := Value.pointer _) rfl) ?_
                refine JL.go trivial (RX.fieldAddr rfl fo30_5 rfl) ?_
                refine JL.go trivial (by first | exact RX.load H rfl (i := 0) rfl rfl one3 | exact RX.load H rfl (i := 1) rfl rfl one3 | exact RX.load H rfl (i := 2) rfl rfl one3 | exact RX.load H rfl (i := 3) rfl rfl one3 | exact RX.load H rfl (i := 4) rfl rfl one3 | exact RX.load H rfl (i := 5) rfl rfl one3) ?_
                refine JL.does trivial (EX.call rfl cl34 rfl ((rText_c H ho hat hl hE.cons.cons.w hx.n0 hx.n1))) ?_
                rintro _ w ⟨rfl, H⟩
                have hgc := ((rTx_good x.n (bs.drop at_)).1).code
                have hgk := ((rTx_good x.n (bs.drop at_)).1).k
                rw [List.length_drop] at hgk
                refine JL.go trivial (RX.movev (v := Value.tuple _) rfl) ?_
                refine JL.go trivial (RX.extract rfl rfl) ?_
                refine JL.go trivial (RX.extract (v := errV E (rTx x.n (bs.drop at_)).code) rfl rfl) ?_
                refine JL.go trivial (RX.assignv (v := Value.string _) rfl) ?_
                refine JL.go trivial (RX.assignv (v := errV E (rTx x.n (bs.drop at_)).code) rfl) ?_
                refine JL.nil ?_
                refine J.seq ?_
                refine J.region ?_
                refine JL.go trivial (RX.movev (v := Value.pointer _) rfl) ?_
                refine JL.go trivial (RX.fieldAddr rfl fo30_5 rfl) ?_
                refine JL.go trivial (by first | exact RX.load H rfl (i := 0) rfl rfl one3 | exact RX.load H rfl (i := 1) rfl rfl one3 | exact RX.load H rfl (i := 2) rfl rfl one3 | exact RX.load H rfl (i := 3) rfl rfl one3 | exact RX.load H rfl (i := 4) rfl rfl one3 | exact RX.load H rfl (i := 5) rfl rfl one3) ?_
                refine JL.does trivial (EX.call rfl cl65 rfl ((qText_c (H.pull 3 rfl) hq.cons.cons.cons hat hl hqs hqc hx.n0 hx.n1))) ?_
                rintro _ w ⟨rfl, H⟩
                refine JL.go trivial (RX.movev (v := Value.tuple _) rfl) ?_
                refine JL.go trivial (RX.extract rfl rfl) ?_
                refine JL.go trivial (RX.extract rfl rfl) ?_
                refine JL.go trivial (RX.assignv (v := Value.string _) rfl) ?_
                refine JL.go trivial (RX.assignv (v := Value.int _ _) rfl) ?_
                refine JL.nil ?_
                refine J.seq ?_
                refine J.region ?_
                refine JL.go trivial (RX.movev (v := Value.string _) rfl) ?_
                refine JL.go trivial (RX.movev (v := Value.string _) rfl) ?_
                refine JL.go trivial (RX.str_eql rfl rfl) ?_
                refine JL.go trivial (RX.movev (v := Value.bool _) rfl) ?_
                refine JL.go ⟨_, rfl, (decide_eq_true rfl)⟩ (RX.movev (v := errV E (rTx x.n (bs.drop at_)).code) rfl) ?_
                refine JL.does ⟨_, rfl, (decide_eq_true rfl)⟩ (EX.call rfl cl21 rfl ((Num_b H hE.cons.cons.cons.cons hgc))) ?_
                rintro _ w ⟨rfl, H⟩
                refine JL.go ⟨_, rfl, (decide_eq_true rfl)⟩ (RX.movev (v := Value.int _ _) rfl) ?_
                refine JL.go ⟨_, rfl, (decide_eq_true rfl)⟩ (RX.eq rfl rfl) ?_
                refine JL.go trivial (RX.pick_t rfl (decide_eq_true rfl)) ?_
                refine JL.go trivial (RX.assignv (v := Value.bool _) rfl) ?_
                refine JL.nil ?_
                refine J.ret1 (v := Value.bool _) Tryd.func18 rfl rfl ?_
                exact ⟨_, rfl, at_ + (rTx x.n (bs.drop at_)).k, by omega, by simp, (((H.pull 3 rfl).drop).pull 2 rfl).pull 2 rfl⟩
              · skip
                refine J.seq ?_
                refine J.region ?_
                refine JL.go trivial (RX.eq rfl rfl) ?_
                refine JL.go trivial (RX.assignv (v := Value.bool _) rfl) ?_
                refine JL.nil ?_
                refine J.cond_d rfl (fun h6 => ?_) (fun h6 => ?_)
                · skip
                  refine J.seq ?_
                  refine J.region ?_
                  refine JL.go trivial (RX.movev (v := Value.pointer _) rfl) ?_
                  refine JL.does trivial (EX.call rfl cl17 rfl ((rList_c H ho hat hl hE.cons.cons.w))) ?_
                  rintro _ w ⟨p2, c2, s2, rfl, ho2, H⟩
                  have hg := rList_good rCo_g (bs.drop at_)
                  have hgc := hg.1.code
                  have hgk := hg.1.k
                  rw [List.length_drop] at hgk
                  have hln := rList_len rCo_g (bs.drop at_)
                  refine JL.go trivial (RX.movev (v := Value.tuple _) rfl) ?_
                  refine JL.go trivial (RX.extract rfl rfl) ?_
                  refine JL.go trivial (RX.extract (v := errV E (rList rCo (bs.drop at_)).code) rfl rfl) ?_
                  refine JL.go trivial (RX.assignv (v := Value.slice _ _ _) rfl) ?_
                  refine JL.go trivial (RX.assignv (v := errV E (rList rCo (bs.drop at_)).code) rfl) ?_
                  refine JL.nil ?_
                  refine J.seq ?_
                  refine J.region ?_
                  refine JL.go trivial (RX.movev (v := Value.pointer _) rfl) ?_
                  refine JL.does trivial (EX.call rfl cl66 rfl ((qList_c (H.pull 4 rfl) hq.cons.cons.cons.cons hat hl))) ?_
                  rintro _ w ⟨p3, c3, s3, rfl, ho3, H⟩
                  refine JL.go trivial (RX.movev (v := Value.tuple _) rfl) ?_
                  refine JL.go trivial (RX.extract rfl rfl) ?_
                  refine JL.go trivial (RX.extract rfl rfl) ?_
                  refine JL.go trivial (RX.assignv (v := Value.slice _ _ _) rfl) ?_
                  refine JL.go trivial (RX.assignv (v := Value.int _ _) rfl) ?_
                  refine JL.nil ?_
                  refine J.seq ?_
                  refine J.region ?_
                  refine JL.go trivial (RX.movev (v := Value.slice _ _ _) rfl) ?_
                  refine JL.go trivial (RX.movev (v := Value.slice _ _ _) rfl) ?_
                  refine JL.does trivial (EX.call rfl cl16 rfl ((sameList_t H ho2.slAt.cons.cons ho3.slAt (rCos_ok _) (rCos_ok _) rfl (by omega) (fun i q r hq hr => by rw [hq] at hr; cases hr; exact ⟨rfl, rfl⟩)))) ?_
                  rintro _ w ⟨rfl, H⟩
                  refine JL.go trivial (RX.movev (v := Value.bool _) rfl) ?_
                  refine JL.go ⟨_, rfl, rfl⟩ (RX.movev (v := errV E (rList rCo (bs.drop at_)).code) rfl) ?_
                  refine JL.does ⟨_, rfl, rfl⟩ (EX.call rfl cl21 rfl ((Num_b H hE.cons.cons.cons.cons.cons.cons hgc))) ?_
                  rintro _ w ⟨rfl, H⟩
                  refine JL.go ⟨_, rfl, rfl⟩ (RX.movev (v := Value.int _ _) rfl) ?_
                  refine JL.go ⟨_, rfl, rfl⟩ (RX.eq rfl rfl) ?_
                  refine JL.go trivial (RX.pick_t rfl rfl) ?_
                  refine JL.go trivial (RX.assignv (v := Value.bool _) rfl) ?_
                  refine JL.nil ?_
                  refine J.ret1 (v := Value.bool _) Tryd.func18 rfl rfl ?_
                  exact ⟨_, rfl, at_ + (rList rCo (bs.drop at_)).k, by omega, by simp, (((((H.drop).pull 1 rfl).drop).pull 3 rfl).drop.pull 2 rfl).pull 2 rfl⟩
                · skip
                  refine J.seq ?_
                  refine J.region ?_
                  refine JL.go trivial (RX.eq rfl rfl) ?_
                  refine JL.go trivial (RX.assignv (v := Value.bool _) rfl) ?_
                  refine JL.nil ?_
                  refine J.cond_d rfl (fun h7 => ?_) (fun h7 => ?_)
                  · skip
                    refine J.seq ?_
                    refine J.region ?_
                    refine JL.go trivial (RX.movev (v := Value.pointer _) rfl) ?_
                    refine JL.does trivial (EX.call rfl cl36 rfl ((rFloats_c H ho hat hl hE.cons.cons.w))) ?_
                    rintro _ w ⟨p2, c2, s2, rfl, ho2, H⟩
                    have hg := rList_good rFl_g (bs.drop at_)
                    have hgc := hg.1.code
                    have hgk := hg.1.k
                    rw [List.length_drop] at hgk
                    have hln := rList_len rFl_g (bs.drop at_)
                    refine JL.go trivial (RX.movev (v := Value.tuple _) rfl) ?_
                    refine JL.go trivial (RX.extract rfl rfl) ?_
                    refine JL.go trivial (RX.extract (v := errV E (rList rFl (bs.drop at_)).code) rfl rfl) ?_
                    refine JL.go trivial (RX.assignv (v := Value.slice _ _ _) rfl) ?_
                    refine JL.go trivial (RX.assignv (v := errV E (rList rFl (bs.drop at_)).code) rfl) ?_
                    refine JL.nil ?_
                    refine J.seq ?_
                    refine J.region ?_
                    refine JL.go trivial (RX.movev (v := Value.pointer _) rfl) ?_
                    refine JL.does trivial (EX.call rfl cl67 rfl ((qFloats_c (H.pull 4 rfl) hq.cons.cons.cons.cons hat hl))) ?_
                    rintro _ w ⟨p3, c3, s3, rfl, ho3, H⟩
                    refine JL.go trivial (RX.movev (v := Value.tuple _) rfl) ?_
                    refine JL.go trivial (RX.extract rfl rfl) ?_
                    refine JL.go trivial (RX.extract rfl rfl) ?_
                    refine JL.go trivial (RX.assignv (v := Value.slice _ _ _) rfl) ?_
                    refine JL.go trivial (RX.assignv (v := Value.int _ _) rfl) ?_
                    refine JL.nil ?_
                    refine J.seq ?_
                    refine J.region ?_
                    refine JL.go trivial (RX.movev (v := Value.slice _ _ _) rfl) ?_
                    refine JL.go trivial (RX.movev (v := Value.slice _ _ _) rfl) ?_
                    refine JL.does trivial (EX.call rfl cl68 rfl ((sameFloats_t H ho2.slAt.cons.cons ho3.slAt (rFls_ok _) (rFls_ok _) rfl (by omega) (fun i q r hq hr => by rw [hq] at hr; cases hr; exact rfl)))) ?_
                    rintro _ w ⟨rfl, H⟩
                    refine JL.go trivial (RX.movev (v := Value.bool _) rfl) ?_
                    refine JL.go ⟨_, rfl, rfl⟩ (RX.movev (v := errV E (rList rFl (bs.drop at_)).code) rfl) ?_
                    refine JL.does ⟨_, rfl, rfl⟩ (EX.call rfl cl21 rfl ((Num_b H hE.cons.cons.cons.cons.cons.cons hgc))) ?_
                    rintro _ w ⟨rfl, H⟩
                    refine JL.go ⟨_, rfl, rfl⟩ (RX.movev (v := Value.int _ _) rfl) ?_
                    refine JL.go ⟨_, rfl, rfl⟩ (RX.eq rfl rfl) ?_
                    refine JL.go trivial (RX.pick_t rfl rfl) ?_
                    refine JL.go trivial (RX.assignv (v := Value.bool _) rfl) ?_
                    refine JL.nil ?_
                    refine J.ret1 (v := Value.bool _) Tryd.func18 rfl rfl ?_
                    exact ⟨_, rfl, at_ + (rList rFl (bs.drop at_)).k, by omega, by simp, (((((H.drop).pull 1 rfl).drop).pull 3 rfl).drop.pull 2 rfl).pull 2 rfl⟩
                  · skip
                    refine J.skip ?_
                    refine J.inBlock ?_
                    refine J.seq ?_
                    refine J.region ?_
                    refine JL.go trivial (RX.movev (v := Value.pointer _) rfl) ?_
                    refine JL.does trivial (EX.call rfl cl22 rfl ((done_r H ho hat hl hE.cons.cons.five.g4))) ?_
                    rintro _ w ⟨rfl, H⟩
                    rw [show (if at_ < bs.length then E 4 else .nilIface) = errV E (if at_ < bs.length then 4 else 0) by split <;> rfl]
                    refine JL.does trivial (EX.call rfl cl21 rfl ((Num_b H hE.cons.cons.cons.cons (by split <;> omega)))) ?_
                    rintro _ w ⟨rfl, H⟩
                    refine JL.go trivial (RX.movev (v := Value.pointer _) rfl) ?_
                    refine JL.does trivial (EX.call rfl cl23 rfl ((ref_Done (H.pull 3 rfl) hq.cons.cons.cons hat hl))) ?_
                    rintro _ w ⟨rfl, H⟩
                    refine JL.go trivial (RX.eq rfl rfl) ?_
                    refine JL.go trivial (RX.assignv (v := Value.bool _) rfl) ?_
                    refine JL.nil ?_
                    refine J.ret1 (v := Value.bool _) Tryd.func18 rfl rfl ?_
                    exact ⟨_, rfl, at_, hat, by split <;> rfl, (((H.pull 3 rfl).drop).pull 2 rfl).pull 2 rfl⟩
end Go.Proofs.YtippfdnjhcpekaaDoor

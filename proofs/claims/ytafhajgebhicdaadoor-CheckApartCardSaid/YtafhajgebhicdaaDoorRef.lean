/- The reference's acts, and what is apart. -/
import Derived.Test.YtafhajgebhicdaaDoorCk3
namespace Go.Proofs.YtafhajgebhicdaaDoor
open Go Go.Eng
set_option maxRecDepth 100000
set_option linter.unusedVariables false
set_option linter.unusedSimpArgs false

section
variable {P : Program} {f : FuncId} {n : Nat} {σ : Env} {w : World} {ρ : Operand → Value} {d : Option Tmp} {x y : Operand} {ty : TypeId} {pos : String} {af : Array Edge} {g : Option (Nat × Bool)} {k : IntKind} {a b : Int}
theorem RX.mxi {t t' : TypeId} (hx : ρ x = .int k a) (hy : ρ y = .int k b) :
    Runs P ρ ⟨d, .call { callee := .builtin .max, args := #[x, y], argTypes := #[t, t'] }, ty, pos, af, g⟩ w (.int k (max a b)) := by
  have e : (if b > a then b else a) = max a b := by split <;> omega
  unfold Runs
  simp [execOp, resolve, invoke, builtin, Builtin.max_, Builtin.max2, hx, hy, e]
end
theorem sl_up {L : List Seg} {s : Seg} {p : Option Addr} {xs : List Value} (h : SlAt [s] p xs) (hm : s ∈ L) : SlAt L p xs :=
  h.perm (fun e he => by
    simp only [List.flatten_cons, List.flatten_nil, List.append_nil] at he
    exact List.mem_flatten.2 ⟨s, hm, he⟩)
def ActOut (F : List Seg) (s : Stp) (i : Int) (w0 w' : World) (v : Value) : Prop :=
  ∃ p1 c1 p2 c2 sg, v = .tuple #[.slice p1 (actR s i).length c1, .slice p2 (actW s i).length c2] ∧ SlAt [sg] p1 (intsV (actR s i)) ∧ SlAt [sg] p2 (intsV (actW s i)) ∧ Hp w0 w' (sg :: F)
theorem intsV_cell (l : List Int) : ∀ v ∈ intsV l, isCell v = true := by
  intro v hv
  obtain ⟨x, _, rfl⟩ := List.mem_map.1 hv
  rfl
theorem join2 {F : List Seg} {s t : Seg} {p : Option Addr} {xs : List Value} (h : SlAt (s :: t :: F) p xs) : SlAt ((s ++ t) :: F) p xs := h.perm (by simp)
theorem join3 {F : List Seg} {s t u : Seg} {p : Option Addr} {xs : List Value} (h : SlAt (s :: t :: u :: F) p xs) : SlAt (((s ++ t) ++ u) :: F) p xs := h.perm (by simp)
def flyC (s : Stp) (i : Int) (q : Nat) : Int := s.dst + i + q * s.jump
def dirC (s : Stp) (j : Nat) : Int := s.src + j * s.jump
def upC (c : Nat → Int) (k : Nat) : List Int := (List.range k).map c
theorem upC_succ (c : Nat → Int) (k : Nat) : upC c (k + 1) = upC c k ++ [c k] := by simp [upC, List.range_succ]
theorem upC_len (c : Nat → Int) (k : Nat) : (upC c k).length = k := by simp [upC]
theorem mul_bd {i j a b : Int} (hi : 0 ≤ i) (hj : 0 ≤ j) (ha : i ≤ 262144) (hb : j ≤ 262144) : 0 ≤ i * j ∧ i * j ≤ 68719476736 := by
  refine ⟨Int.mul_nonneg hi hj, ?_⟩
  have h1 : i * j ≤ 262144 * j := Int.mul_le_mul_of_nonneg_right ha hj
  omega
theorem act_bd {s : Stp} (hf : formB s = true) {i : Int} (h0 : 0 ≤ i) (h1 : i ≤ 262144) : (∀ c ∈ actR s i, 0 ≤ c ∧ c ≤ 274877906944) ∧ ∀ c ∈ actW s i, 0 ≤ c ∧ c ≤ 274877906944 := by
  obtain ⟨_, _, _, _, _, _, _, _, hj0, hj1, hn0, hn1, _⟩ := form_facts hf
  have hm := mul_bd (a := 0) (b := 0) h0 hj0 h1 hj1
  have hq : ∀ q : Nat, q < s.n.toNat → 0 ≤ (q : Int) * s.jump ∧ (q : Int) * s.jump ≤ 68719476736 := fun q hq => mul_bd (a := 0) (b := 0) (by omega) hj0 (by omega) hj1
  constructor
  · intro c hc
    unfold actR at hc
    split at hc
    · rw [List.mem_singleton.1 hc]; omega
    · split at hc
      · rw [List.mem_singleton.1 hc]; omega
      · split at hc
        · cases hc
        · split at hc
          · obtain ⟨q, hq1, rfl⟩ := List.mem_map.1 hc
            have := hq q (List.mem_range.1 hq1); omega
          · split at hc
            · obtain ⟨q, hq1, rfl⟩ := List.mem_map.1 hc
              have := hq q (List.mem_range.1 hq1); omega
            · split at hc
              · simp only [List.mem_cons, List.not_mem_nil, or_false] at hc
                rcases hc with rfl | rfl <;> omega
              · rw [List.mem_singleton.1 hc]; omega
  · intro c hc
    unfold actW at hc
    split at hc
    · rw [List.mem_singleton.1 hc]; omega
    · split at hc
      · obtain ⟨q, hq1, rfl⟩ := List.mem_map.1 hc
        have := hq q (List.mem_range.1 hq1); omega
      · rw [List.mem_singleton.1 hc]; omega
theorem act_len {s : Stp} (hf : formB s = true) (i : Int) : (actR s i).length ≤ 16384 ∧ (actW s i).length ≤ 16384 := by
  obtain ⟨_, _, _, _, _, _, _, _, _, _, _, hn, _⟩ := form_facts hf
  unfold actR actW
  constructor
  · repeat' split
    all_goals simp <;> omega
  · repeat' split
    all_goals simp <;> omega
def lastI (s : Stp) (k : Nat) : Int := if k = 0 then 0 else s.count - 1
def mostK (s : Stp) : Nat → Int
  | 0 => 0
  | k + 1 => mx (mx (mostK s k) (actR s (lastI s k))) (actW s (lastI s k))
theorem mostK_two (s : Stp) : mostK s 2 = lastR s := by simp [mostK, lastR, lastI]
theorem mx_snoc {m c : Int} {l : List Int} {j : Nat} (h : l[j]? = some c) : mx m (l.take (j + 1)) = max (mx m (l.take j)) c := by
  rw [take_succ_get h, mx, List.foldl_append]; rfl
theorem apart_no {s : Stp} {i j : Nat} {c : Int} (hi : (i : Int) < s.count) (hj : (actR s i)[j]? = some c) (h0 : 0 ≤ writerR s c) (h1 : writerR s c ≠ i) : apartR s = false := by
  cases h : apartR s with
  | false => rfl
  | true =>
    have := List.all_eq_true.1 h i (by simp; omega)
    have := List.all_eq_true.1 this c (List.mem_of_getElem? hj)
    simp only [Bool.or_eq_true, decide_eq_true_eq] at this
    omega
theorem apart_yes {s : Stp} (h : ∀ i : Nat, (i : Int) < s.count → ∀ c ∈ actR s i, writerR s c < 0 ∨ writerR s c = i) : apartR s = true := by
  unfold apartR
  simp only [List.all_eq_true, List.mem_range, Bool.or_eq_true, decide_eq_true_eq]
  exact fun i hi => h i (by omega)

set_option maxHeartbeats 1600000 in
theorem act_b {w0 w : World} {F : List Seg} (H : Hp w0 w F) {s : Stp} (hf : formB s = true) {i : Int} (h0 : 0 ≤ i) (h1 : i ≤ 262144) : Ret Tryd.prog 22 [.agg s.v.toArray, .int .i64 i] w fun v w' => ActOut F s i w0 w' v := by
  refine Calls.of_J (n := 106) Tryd.func22 rfl rfl rfl ?_
  refine J.seq ?_
  refine J.region ?_
  refine JL.does trivial (EX.box (v := Value.agg _) H rfl rfl) ?_
  rintro _ w ⟨b2, rfl, H⟩
  refine JL.go trivial (RX.assign) ?_
  refine JL.go trivial (RX.assign) ?_
  refine JL.nil ?_
  refine J.seq ?_
  obtain ⟨_, _, hd0, hd1, hc0, hc1, hs0, hs1, hj0, hj1, hn0, hn1, _⟩ := form_facts hf
  have him := mul_bd (a := 0) (b := 0) h0 hj0 h1 hj1
  refine J.region ?_
  refine JL.go trivial (RX.fieldAddr rfl fo39_1 rfl) ?_
  refine JL.go trivial (RX.load H rfl (i := 0) (v := .int .i64 s.dst) rfl rfl one3) ?_
  refine JL.go trivial (RX.movev (v := Value.int _ _) rfl) ?_
  refine JL.go trivial (RX.add rfl rfl (w_i64 rfl (by omega) (by omega))) ?_
  refine JL.does trivial (EX.buildSlice1 (v := Value.int _ _) H elI rfl rfl) ?_
  rintro _ w ⟨ba, rfl, H⟩
  refine JL.go trivial (RX.assignv (v := Value.slice _ _ _) rfl) ?_
  refine JL.nil ?_
  refine J.seq ?_
  refine J.seq ?_
  refine J.region ?_
  refine JL.go trivial (RX.fieldAddr rfl fo39_0 rfl) ?_
  refine JL.go trivial (RX.load H rfl (i := 1) (v := .int .i64 s.op) rfl rfl one3) ?_
  refine JL.nil ?_
  refine J.block ?_
  refine J.seq ?_
  refine J.region ?_
  refine JL.go trivial (RX.eq rfl rfl) ?_
  refine JL.go trivial (RX.assignv (v := Value.bool _) rfl) ?_
  refine JL.nil ?_
  refine J.cond_d rfl (fun o1 => ?_) (fun o1 => ?_)
  · skip
    refine J.seq ?_
    refine J.region ?_
    refine JL.go trivial (RX.fieldAddr rfl fo39_2 rfl) ?_
    refine JL.go trivial (by first | exact RX.load H rfl (i := 0) rfl rfl one3 | exact RX.load H rfl (i := 1) rfl rfl one3 | exact RX.load H rfl (i := 2) rfl rfl one3 | exact RX.load H rfl (i := 3) rfl rfl one3) ?_
    refine JL.go trivial (RX.movev (v := Value.int _ _) rfl) ?_
    refine JL.go trivial (RX.fieldAddr rfl fo39_3 rfl) ?_
    refine JL.go trivial (by first | exact RX.load H rfl (i := 0) rfl rfl one3 | exact RX.load H rfl (i := 1) rfl rfl one3 | exact RX.load H rfl (i := 2) rfl rfl one3 | exact RX.load H rfl (i := 3) rfl rfl one3) ?_
    refine JL.go trivial (RX.mul rfl rfl (w_i64 rfl (by omega) (by omega))) ?_
    refine JL.go trivial (RX.add rfl rfl (w_i64 rfl (by omega) (by omega))) ?_
    refine JL.does trivial (EX.buildSlice1 (v := Value.int _ _) H elI rfl rfl) ?_
    rintro _ w ⟨bb, rfl, H⟩
    refine JL.go trivial (RX.movev (v := Value.slice _ _ _) rfl) ?_
    refine JL.go trivial (RX.assignv (v := Value.slice _ _ _) rfl) ?_
    refine JL.go trivial (RX.assignv (v := Value.slice _ _ _) rfl) ?_
    refine JL.nil ?_
    refine J.ret2 (v := Value.slice _ _ _) (x := Value.slice _ _ _) Tryd.func22 rfl rfl rfl ?_
    have eR : actR s i = [s.src + i * s.jump] := by unfold actR; rw [if_pos o1]
    have eW : actW s i = [s.dst + i] := by unfold actW; rw [if_neg (by omega), if_neg (by omega)]
    exact ⟨_, rfl, some ⟨bb, 0, none⟩, 1, some ⟨ba, 0, none⟩, 1, _, by rw [eR, eW]; rfl, by rw [eR]; exact join3 (SlAt.here rfl), by rw [eW]; exact join3 (SlAt.here rfl).cons, H.join.join⟩
  · skip
    refine J.seq ?_
    refine J.region ?_
    refine JL.go trivial (RX.eq rfl rfl) ?_
    refine JL.go trivial (RX.assignv (v := Value.bool _) rfl) ?_
    refine JL.nil ?_
    refine J.cond_d rfl (fun o2 => ?_) (fun o2 => ?_)
    · skip
      refine J.seq ?_
      refine J.held (fun w => Hp w0 w ([(ba, cel [.int .i64 (s.dst + i)] 3)] :: [(b2, cel s.v 39)] :: F)) hmix fun w hs => ?_
      replace H := H.same hs; clear hs
      have hS : Hp w0 w ([(ba, cel [.int .i64 (s.dst + i)] 3)] :: [(b2, cel s.v 39)] :: F) := by first | exact H | exact H.drop | exact H.drop.drop | exact H.drop.drop.drop | exact H.drop.drop.drop.drop | exact H.drop.drop.drop.drop.drop | exact H.drop.drop.drop.drop.drop.drop | exact H.drop.drop.drop.drop.drop.drop.drop | exact H.drop.drop.drop.drop.drop.drop.drop.drop
      refine JH.take 0 (listed' := [true, false, false, false, false, false, false, false, false, false, false, false, false, false, false]) rfl (by kernel_rfl) (by kernel_rfl) (by kernel_rfl) rfl trivial (fun w H => RX.fieldAddr rfl fo39_2 rfl) hS ?_
      refine JH.take 1 (listed' := [true, true, false, false, false, false, false, false, false, false, false, false, false, false, false]) rfl (by kernel_rfl) (by kernel_rfl) (by kernel_rfl) rfl trivial (fun w H => by first | exact RX.load H rfl (i := 0) rfl rfl one3 | exact RX.load H rfl (i := 1) rfl rfl one3 | exact RX.load H rfl (i := 2) rfl rfl one3 | exact RX.load H rfl (i := 3) rfl rfl one3) hS ?_
      refine JH.take 2 (listed' := [true, true, true, false, false, false, false, false, false, false, false, false, false, false, false]) rfl (by kernel_rfl) (by kernel_rfl) (by kernel_rfl) rfl trivial (fun w H => RX.movev (v := Value.int _ _) rfl) hS ?_
      refine JH.take 3 (listed' := [true, true, true, true, false, false, false, false, false, false, false, false, false, false, false]) rfl (by kernel_rfl) (by kernel_rfl) (by kernel_rfl) rfl trivial (fun w H => RX.add rfl rfl (w_i64 rfl (by omega) (by omega))) hS ?_
      refine JH.take 5 (listed' := [true, true, true, true, false, true, false, false, false, false, false, false, false, false, false]) rfl (by kernel_rfl) (by kernel_rfl) (by kernel_rfl) rfl trivial (fun w H => RX.fieldAddr rfl fo39_1 rfl) hS ?_
      refine JH.take 6 (listed' := [true, true, true, true, false, true, true, false, false, false, false, false, false, false, false]) rfl (by kernel_rfl) (by kernel_rfl) (by kernel_rfl) rfl trivial (fun w H => by first | exact RX.load H rfl (i := 0) rfl rfl one3 | exact RX.load H rfl (i := 1) rfl rfl one3 | exact RX.load H rfl (i := 2) rfl rfl one3 | exact RX.load H rfl (i := 3) rfl rfl one3) hS ?_
      refine JH.take 7 (listed' := [true, true, true, true, false, true, true, true, false, false, false, false, false, false, false]) rfl (by kernel_rfl) (by kernel_rfl) (by kernel_rfl) rfl trivial (fun w H => RX.movev (v := Value.int _ _) rfl) hS ?_
      refine JH.take 8 (listed' := [true, true, true, true, false, true, true, true, true, false, false, false, false, false, false]) rfl (by kernel_rfl) (by kernel_rfl) (by kernel_rfl) rfl trivial (fun w H => RX.fieldAddr rfl fo39_3 rfl) hS ?_
      refine JH.take 9 (listed' := [true, true, true, true, false, true, true, true, true, true, false, false, false, false, false]) rfl (by kernel_rfl) (by kernel_rfl) (by kernel_rfl) rfl trivial (fun w H => by first | exact RX.load H rfl (i := 0) rfl rfl one3 | exact RX.load H rfl (i := 1) rfl rfl one3 | exact RX.load H rfl (i := 2) rfl rfl one3 | exact RX.load H rfl (i := 3) rfl rfl one3) hS ?_
      refine JH.take 10 (listed' := [true, true, true, true, false, true, true, true, true, true, true, false, false, false, false]) rfl (by kernel_rfl) (by kernel_rfl) (by kernel_rfl) rfl trivial (fun w H => RX.mul rfl rfl (w_i64 rfl (by omega) (by omega))) hS ?_
      refine JH.take 11 (listed' := [true, true, true, true, false, true, true, true, true, true, true, true, false, false, false]) rfl (by kernel_rfl) (by kernel_rfl) (by kernel_rfl) rfl trivial (fun w H => RX.add rfl rfl (w_i64 rfl (by omega) (by omega))) hS ?_
      refine JH.all [4, 12] (by kernel_rfl) (by decide) ?_
      refine ⟨?_, ?_⟩
      · skip
        refine JHO.does (listed' := [true, true, true, true, true, true, true, true, true, true, true, true, false, false, false]) rfl rfl trivial (EX.buildSlice1 (v := Value.int _ _) H elI rfl rfl) ?_
        rintro _ w ⟨bb, rfl, H⟩
        have hS : Hp w0 w ([(ba, cel [.int .i64 (s.dst + i)] 3)] :: [(b2, cel s.v 39)] :: F) := by first | exact H | exact H.drop | exact H.drop.drop | exact H.drop.drop.drop | exact H.drop.drop.drop.drop | exact H.drop.drop.drop.drop.drop | exact H.drop.drop.drop.drop.drop.drop | exact H.drop.drop.drop.drop.drop.drop.drop | exact H.drop.drop.drop.drop.drop.drop.drop.drop
        refine ⟨hS, ?_⟩
        refine JH.take 13 (listed' := [true, true, true, true, true, true, true, true, true, true, true, true, false, true, false]) rfl (by kernel_rfl) (by kernel_rfl) (by kernel_rfl) rfl trivial (fun w H => RX.assignv (v := Value.slice _ _ _) rfl) hS ?_
        refine JH.all [12] (by kernel_rfl) (by decide) ?_
        refine JHO.does (listed' := [true, true, true, true, true, true, true, true, true, true, true, true, true, true, false]) rfl rfl trivial (EX.buildSlice1 (v := Value.int _ _) H elI rfl rfl) ?_
        rintro _ w ⟨bc, rfl, H⟩
        have hS : Hp w0 w ([(ba, cel [.int .i64 (s.dst + i)] 3)] :: [(b2, cel s.v 39)] :: F) := by first | exact H | exact H.drop | exact H.drop.drop | exact H.drop.drop.drop | exact H.drop.drop.drop.drop | exact H.drop.drop.drop.drop.drop | exact H.drop.drop.drop.drop.drop.drop | exact H.drop.drop.drop.drop.drop.drop.drop | exact H.drop.drop.drop.drop.drop.drop.drop.drop
        refine ⟨hS, ?_⟩
        refine JH.take 14 (listed' := [true, true, true, true, true, true, true, true, true, true, true, true, true, true, true]) rfl (by kernel_rfl) (by kernel_rfl) (by kernel_rfl) rfl trivial (fun w H => RX.assignv (v := Value.slice _ _ _) rfl) hS ?_
        refine JH.done (by kernel_rfl) ?_
        refine J.ret2 (v := Value.slice _ _ _) (x := Value.slice _ _ _) Tryd.func22 rfl rfl rfl ?_
        have eR : actR s i = [s.src + i] := by unfold actR; rw [if_neg o1, if_pos o2]
        have eW : actW s i = [s.dst + i * s.jump] := by unfold actW; rw [if_pos o2]
        first
        | exact ⟨_, rfl, some ⟨bb, 0, none⟩, 1, some ⟨bc, 0, none⟩, 1, _, by rw [eR, eW]; rfl, by rw [eR]; exact (join3 (SlAt.here rfl)).perm (by simp), by rw [eW]; exact join3 (SlAt.here rfl).cons, H.drop.join.join⟩
        | exact ⟨_, rfl, some ⟨bb, 0, none⟩, 1, some ⟨bc, 0, none⟩, 1, _, by rw [eR, eW]; rfl, by rw [eR]; exact join2 (SlAt.here rfl), by rw [eW]; exact join2 (SlAt.here rfl).cons, (H.pull 2 rfl).drop.pull 2 rfl |>.drop.join⟩
        | exact ⟨_, rfl, some ⟨bb, 0, none⟩, 1, some ⟨bc, 0, none⟩, 1, _, by rw [eR, eW]; rfl, by rw [eR]; exact join2 (SlAt.here rfl).cons, by rw [eW]; exact join2 (SlAt.here rfl), (H.pull 2 rfl).drop.pull 2 rfl |>.drop.join⟩
      · skip
        refine JHO.does (listed' := [true, true, true, true, false, true, true, true, true, true, true, true, true, false, false]) rfl rfl trivial (EX.buildSlice1 (v := Value.int _ _) H elI rfl rfl) ?_
        rintro _ w ⟨bc, rfl, H⟩
        have hS : Hp w0 w ([(ba, cel [.int .i64 (s.dst + i)] 3)] :: [(b2, cel s.v 39)] :: F) := by first | exact H | exact H.drop | exact H.drop.drop | exact H.drop.drop.drop | exact H.drop.drop.drop.drop | exact H.drop.drop.drop.drop.drop | exact H.drop.drop.drop.drop.drop.drop | exact H.drop.drop.drop.drop.drop.drop.drop | exact H.drop.drop.drop.drop.drop.drop.drop.drop
        refine ⟨hS, ?_⟩
        refine JH.all [4] (by kernel_rfl) (by decide) ?_
        refine JHO.does (listed' := [true, true, true, true, true, true, true, true, true, true, true, true, true, false, false]) rfl rfl trivial (EX.buildSlice1 (v := Value.int _ _) H elI rfl rfl) ?_
        rintro _ w ⟨bb, rfl, H⟩
        have hS : Hp w0 w ([(ba, cel [.int .i64 (s.dst + i)] 3)] :: [(b2, cel s.v 39)] :: F) := by first | exact H | exact H.drop | exact H.drop.drop | exact H.drop.drop.drop | exact H.drop.drop.drop.drop | exact H.drop.drop.drop.drop.drop | exact H.drop.drop.drop.drop.drop.drop | exact H.drop.drop.drop.drop.drop.drop.drop | exact H.drop.drop.drop.drop.drop.drop.drop.drop
        refine ⟨hS, ?_⟩
        refine JH.take 13 (listed' := [true, true, true, true, true, true, true, true, true, true, true, true, true, true, false]) rfl (by kernel_rfl) (by kernel_rfl) (by kernel_rfl) rfl trivial (fun w H => RX.assignv (v := Value.slice _ _ _) rfl) hS ?_
        refine JH.take 14 (listed' := [true, true, true, true, true, true, true, true, true, true, true, true, true, true, true]) rfl (by kernel_rfl) (by kernel_rfl) (by kernel_rfl) rfl trivial (fun w H => RX.assignv (v := Value.slice _ _ _) rfl) hS ?_
        refine JH.done (by kernel_rfl) ?_
        refine J.ret2 (v := Value.slice _ _ _) (x := Value.slice _ _ _) Tryd.func22 rfl rfl rfl ?_
        have eR : actR s i = [s.src + i] := by unfold actR; rw [if_neg o1, if_pos o2]
        have eW : actW s i = [s.dst + i * s.jump] := by unfold actW; rw [if_pos o2]
        first
        | exact ⟨_, rfl, some ⟨bb, 0, none⟩, 1, some ⟨bc, 0, none⟩, 1, _, by rw [eR, eW]; rfl, by rw [eR]; exact (join3 (SlAt.here rfl)).perm (by simp), by rw [eW]; exact join3 (SlAt.here rfl).cons, H.drop.join.join⟩
        | exact ⟨_, rfl, some ⟨bb, 0, none⟩, 1, some ⟨bc, 0, none⟩, 1, _, by rw [eR, eW]; rfl, by rw [eR]; exact join2 (SlAt.here rfl), by rw [eW]; exact join2 (SlAt.here rfl).cons, (H.pull 2 rfl).drop.pull 2 rfl |>.drop.join⟩
        | exact ⟨_, rfl, some ⟨bb, 0, none⟩, 1, some ⟨bc, 0, none⟩, 1, _, by rw [eR, eW]; rfl, by rw [eR]; exact join2 (SlAt.here rfl).cons, by rw [eW]; exact join2 (SlAt.here rfl), (H.pull 2 rfl).drop.pull 2 rfl |>.drop.join⟩
    · skip
      refine J.seq ?_
      refine J.seq ?_
      refine J.region ?_
      refine JL.go trivial (RX.eq rfl rfl) ?_
      refine JL.go trivial (RX.assignv (v := Value.bool _) rfl) ?_
      refine JL.nil ?_
      refine J.cond_d rfl (fun o3 => ?_) (fun o3 => ?_)
      · skip
        refine J.skip ?_
        refine J.cond_t rfl (decide_eq_true o3) ?_
        refine J.seq ?_
        refine J.region ?_
        refine JL.go trivial (RX.movev (v := Value.slice _ _ _) rfl) ?_
        refine JL.go trivial (RX.assign) ?_
        refine JL.go trivial (RX.assignv (v := Value.slice _ _ _) rfl) ?_
        refine JL.nil ?_
        refine J.ret2 (v := Value.slice _ _ _) (x := Value.slice _ _ _) Tryd.func22 rfl rfl rfl ?_
        have o3 : s.op = 3 ∨ s.op = 8 := by first | exact .inl (by assumption) | exact .inr (by assumption)
        have eR : actR s i = [] := by unfold actR; rw [if_neg o1, if_neg o2, if_pos o3]
        have eW : actW s i = [s.dst + i] := by unfold actW; rw [if_neg o2, if_neg (by omega)]
        exact ⟨_, rfl, none, 0, some ⟨ba, 0, none⟩, 1, _, by rw [eR, eW]; rfl, by rw [eR]; exact SlAt.nil, by rw [eW]; exact join2 (SlAt.here rfl), H.join⟩
      · skip
        refine J.region ?_
        refine JL.go trivial (RX.eq rfl rfl) ?_
        refine JL.go trivial (RX.assignv (v := Value.bool _) rfl) ?_
        refine JL.nil ?_
        refine J.cond_d rfl (fun o3 => ?_) (fun o3 => ?_)
        · skip
          refine J.seq ?_
          refine J.region ?_
          refine JL.go trivial (RX.movev (v := Value.slice _ _ _) rfl) ?_
          refine JL.go trivial (RX.assign) ?_
          refine JL.go trivial (RX.assignv (v := Value.slice _ _ _) rfl) ?_
          refine JL.nil ?_
          refine J.ret2 (v := Value.slice _ _ _) (x := Value.slice _ _ _) Tryd.func22 rfl rfl rfl ?_
          have o3 : s.op = 3 ∨ s.op = 8 := by first | exact .inl (by assumption) | exact .inr (by assumption)
          have eR : actR s i = [] := by unfold actR; rw [if_neg o1, if_neg o2, if_pos o3]
          have eW : actW s i = [s.dst + i] := by unfold actW; rw [if_neg o2, if_neg (by omega)]
          exact ⟨_, rfl, none, 0, some ⟨ba, 0, none⟩, 1, _, by rw [eR, eW]; rfl, by rw [eR]; exact SlAt.nil, by rw [eW]; exact join2 (SlAt.here rfl), H.join⟩
        · skip
          refine J.seq ?_
          refine J.region ?_
          refine JL.go trivial (RX.eq rfl rfl) ?_
          refine JL.go trivial (RX.assignv (v := Value.bool _) rfl) ?_
          refine JL.nil ?_
          refine J.cond_d rfl (fun o5 => ?_) (fun o5 => ?_)
          · skip
            refine J.seq ?_
            refine J.region ?_
            refine JL.does trivial (EX.buildSlice0 H elI) ?_
            rintro _ w ⟨b7, rfl, H⟩
            refine JL.go trivial (RX.assignv (v := Value.slice _ _ _) rfl) ?_
            refine JL.nil ?_
            refine J.seq ?_
            refine J.seq ?_
            refine J.region ?_
            refine JL.go trivial (RX.assign) ?_
            refine JL.nil ?_
            refine J.block ?_
            refine J.loop (ι := Nat × Option Addr × Nat × Seg) (S := fun q => [(8, .int .i64 (q.1 : Nat)), (7, .slice q.2.1 q.1 q.2.2.1)]) (Φ := fun q w => q.1 ≤ s.n.toNat ∧ OwnSl 3 1 q.2.1 q.1 q.2.2.1 (intsV (upC (flyC s i) q.1)) q.2.2.2 ∧ Hp w0 w (q.2.2.2 :: [(ba, cel [.int .i64 (s.dst + i)] 3)] :: [(b2, cel s.v 39)] :: F)) (μ := fun q => s.n.toNat - q.1) (C := [(1, _), (2, _)]) (0, some ⟨b7, 0, none⟩, 0, [(b7, cel [] 3)]) ⟨rfl, rfl, trivial⟩ ⟨rfl, rfl, trivial⟩ ?_ ?_
            · exact ⟨by simp, OwnSl.empty, H⟩
            clear H
            rintro ⟨k, p, c, g⟩ ρ w ⟨hk, ho, H⟩ IH
            simp only at hk ho H
            dsimp only
            refine J.seq ?_
            refine J.seq ?_
            refine J.region ?_
            refine JL.go trivial (RX.movev (v := Value.int _ _) rfl) ?_
            refine JL.go trivial (RX.fieldAddr rfl fo39_5 rfl) ?_
            refine JL.go trivial (RX.load H rfl (i := 2) (v := .int .i64 s.n) rfl rfl one3) ?_
            refine JL.go trivial (RX.lt rfl rfl) ?_
            refine JL.nil ?_
            refine J.cond_d rfl (fun hlt => ?_) (fun hlt => ?_)
            · skip
              have hm := mul_bd (a := 0) (b := 0) (show (0 : Int) ≤ (k : Int) by omega) hj0 (by omega) hj1
              refine J.skip ?_
              refine J.seq ?_
              refine J.block ?_
              refine J.region ?_
              refine JL.go trivial (RX.movev (v := Value.slice _ _ _) rfl) ?_
              refine JL.go trivial (RX.fieldAddr rfl fo39_1 rfl) ?_
              refine JL.go trivial (RX.load H rfl (i := 2) (v := .int .i64 s.dst) rfl rfl one3) ?_
              refine JL.go trivial (RX.movev (v := Value.int _ _) rfl) ?_
              refine JL.go trivial (RX.add rfl rfl (w_i64 rfl (by omega) (by omega))) ?_
              refine JL.go trivial (RX.movev (v := Value.int _ _) rfl) ?_
              refine JL.go trivial (RX.fieldAddr rfl fo39_3 rfl) ?_
              refine JL.go trivial (RX.load H rfl (i := 2) (v := .int .i64 s.jump) rfl rfl one3) ?_
              refine JL.go trivial (RX.mul rfl rfl (w_i64 rfl (by omega) (by omega))) ?_
              refine JL.go trivial (RX.add rfl rfl (w_i64 (r := flyC s i k) rfl (by unfold flyC; omega) (by unfold flyC; omega))) ?_
              refine JL.does trivial (EX.buildSlice1 (v := Value.int _ _) H elI rfl rfl) ?_
              rintro _ w ⟨br, rfl, H⟩
              refine JL.does trivial (EX.append (ys := [.int .i64 (flyC s i k)]) (L' := fun s' => [(br, cel [.int .i64 (flyC s i k)] 3)] :: s' :: [(ba, cel [.int .i64 (s.dst + i)] 3)] :: [(b2, cel s.v 39)] :: F) H elI rfl rfl (i := 1) rfl ho (SlAt.here rfl) rfl (by simp [isCell]) (by decide) (by omega) (by omega) (fun _ => rfl)) ?_
              rintro _ w ⟨p3, c3, s3, rfl, ho3, H⟩
              refine JL.go trivial (RX.assignv (v := Value.slice _ _ _) rfl) ?_
              refine JL.nil ?_
              refine J.inBlock ?_
              refine J.region ?_
              refine JL.go trivial (RX.movev (v := Value.int _ _) rfl) ?_
              refine JL.go trivial (RX.add rfl rfl (w_i64 (r := ((k + 1 : Nat) : Int)) (by omega) (by omega) (by omega))) ?_
              refine JL.go trivial (RX.assignv (v := Value.int _ _) rfl) ?_
              refine JL.nil ?_
              rw [show intsV (upC (flyC s i) k) ++ [.int .i64 (flyC s i k)] = intsV (upC (flyC s i) (k + 1)) by first | (rw [upC_succ, intsV_app]; done) | (rw [upC_succ, intsV_app]; rfl)] at ho3
              exact IH (k + 1, p3, c3, s3) _ _ (by simp only; omega) ⟨rfl, rfl, trivial⟩ ⟨rfl, rfl, trivial⟩ ⟨by simp only; omega, ho3, H.drop⟩
            · skip
              refine J.exit rfl ?_
              refine J.seq ?_
              refine J.region ?_
              refine JL.go trivial (RX.movev (v := Value.slice _ _ _) rfl) ?_
              refine JL.go trivial (RX.movev (v := Value.slice _ _ _) rfl) ?_
              refine JL.go trivial (RX.assignv (v := Value.slice _ _ _) rfl) ?_
              refine JL.go trivial (RX.assignv (v := Value.slice _ _ _) rfl) ?_
              refine JL.nil ?_
              refine J.ret2 (v := Value.slice _ _ _) (x := Value.slice _ _ _) Tryd.func22 rfl rfl rfl ?_
              have hk2 : k = s.n.toNat := by omega
              subst hk2
              have o3 : ¬ (s.op = 3 ∨ s.op = 8) := by omega
              have eR : actR s i = upC (flyC s i) s.n.toNat := by unfold actR; rw [if_neg o1, if_neg o2, if_neg o3, if_pos o5]; rfl
              have eW : actW s i = upC (flyC s i) s.n.toNat := by unfold actW; rw [if_neg o2, if_pos o5]; rfl
              exact ⟨_, rfl, p, c, p, c, _, by rw [eR, eW, upC_len], by rw [eR]; exact join3 ho.slAt, by rw [eW]; exact join3 ho.slAt, H.join.join⟩
          · skip
            refine J.seq ?_
            refine J.region ?_
            refine JL.go trivial (RX.eq rfl rfl) ?_
            refine JL.go trivial (RX.assignv (v := Value.bool _) rfl) ?_
            refine JL.nil ?_
            refine J.cond_d rfl (fun o6 => ?_) (fun o6 => ?_)
            · skip
              refine J.seq ?_
              refine J.region ?_
              refine JL.does trivial (EX.buildSlice0 H elI) ?_
              rintro _ w ⟨b7, rfl, H⟩
              refine JL.go trivial (RX.assignv (v := Value.slice _ _ _) rfl) ?_
              refine JL.nil ?_
              refine J.seq ?_
              refine J.seq ?_
              refine J.region ?_
              refine JL.go trivial (RX.assign) ?_
              refine JL.nil ?_
              refine J.block ?_
              refine J.loop (ι := Nat × Option Addr × Nat × Seg) (S := fun q => [(10, .int .i64 (q.1 : Nat)), (9, .slice q.2.1 q.1 q.2.2.1)]) (Φ := fun q w => q.1 ≤ s.n.toNat ∧ OwnSl 3 1 q.2.1 q.1 q.2.2.1 (intsV (upC (dirC s) q.1)) q.2.2.2 ∧ Hp w0 w (q.2.2.2 :: [(ba, cel [.int .i64 (s.dst + i)] 3)] :: [(b2, cel s.v 39)] :: F)) (μ := fun q => s.n.toNat - q.1) (C := [(2, _), (6, _)]) (0, some ⟨b7, 0, none⟩, 0, [(b7, cel [] 3)]) ⟨rfl, rfl, trivial⟩ ⟨rfl, rfl, trivial⟩ ?_ ?_
              · exact ⟨by simp, OwnSl.empty, H⟩
              clear H
              rintro ⟨k, p, c, g⟩ ρ w ⟨hk, ho, H⟩ IH
              simp only at hk ho H
              dsimp only
              refine J.seq ?_
              refine J.seq ?_
              refine J.region ?_
              refine JL.go trivial (RX.movev (v := Value.int _ _) rfl) ?_
              refine JL.go trivial (RX.fieldAddr rfl fo39_5 rfl) ?_
              refine JL.go trivial (RX.load H rfl (i := 2) (v := .int .i64 s.n) rfl rfl one3) ?_
              refine JL.go trivial (RX.lt rfl rfl) ?_
              refine JL.nil ?_
              refine J.cond_d rfl (fun hlt => ?_) (fun hlt => ?_)
              · skip
                have hm := mul_bd (a := 0) (b := 0) (show (0 : Int) ≤ (k : Int) by omega) hj0 (by omega) hj1
                refine J.skip ?_
                refine J.seq ?_
                refine J.block ?_
                refine J.region ?_
                refine JL.go trivial (RX.movev (v := Value.slice _ _ _) rfl) ?_
                refine JL.go trivial (RX.fieldAddr rfl fo39_2 rfl) ?_
                refine JL.go trivial (RX.load H rfl (i := 2) (v := .int .i64 s.src) rfl rfl one3) ?_
                refine JL.go trivial (RX.movev (v := Value.int _ _) rfl) ?_
                refine JL.go trivial (RX.fieldAddr rfl fo39_3 rfl) ?_
                refine JL.go trivial (RX.load H rfl (i := 2) (v := .int .i64 s.jump) rfl rfl one3) ?_
                refine JL.go trivial (RX.mul rfl rfl (w_i64 rfl (by omega) (by omega))) ?_
                refine JL.go trivial (RX.add rfl rfl (w_i64 (r := dirC s k) rfl (by unfold dirC; omega) (by unfold dirC; omega))) ?_
                refine JL.does trivial (EX.buildSlice1 (v := Value.int _ _) H elI rfl rfl) ?_
                rintro _ w ⟨br, rfl, H⟩
                refine JL.does trivial (EX.append (ys := [.int .i64 (dirC s k)]) (L' := fun s' => [(br, cel [.int .i64 (dirC s k)] 3)] :: s' :: [(ba, cel [.int .i64 (s.dst + i)] 3)] :: [(b2, cel s.v 39)] :: F) H elI rfl rfl (i := 1) rfl ho (SlAt.here rfl) rfl (by simp [isCell]) (by decide) (by omega) (by omega) (fun _ => rfl)) ?_
                rintro _ w ⟨p3, c3, s3, rfl, ho3, H⟩
                refine JL.go trivial (RX.assignv (v := Value.slice _ _ _) rfl) ?_
                refine JL.nil ?_
                refine J.inBlock ?_
                refine J.region ?_
                refine JL.go trivial (RX.movev (v := Value.int _ _) rfl) ?_
                refine JL.go trivial (RX.add rfl rfl (w_i64 (r := ((k + 1 : Nat) : Int)) (by omega) (by omega) (by omega))) ?_
                refine JL.go trivial (RX.assignv (v := Value.int _ _) rfl) ?_
                refine JL.nil ?_
                rw [show intsV (upC (dirC s) k) ++ [.int .i64 (dirC s k)] = intsV (upC (dirC s) (k + 1)) by first | (rw [upC_succ, intsV_app]; done) | (rw [upC_succ, intsV_app]; rfl)] at ho3
                exact IH (k + 1, p3, c3, s3) _ _ (by simp only; omega) ⟨rfl, rfl, trivial⟩ ⟨rfl, rfl, trivial⟩ ⟨by simp only; omega, ho3, H.drop⟩
              · skip
                refine J.exit rfl ?_
                refine J.seq ?_
                refine J.region ?_
                refine JL.go trivial (RX.movev (v := Value.slice _ _ _) rfl) ?_
                refine JL.go trivial (RX.movev (v := Value.slice _ _ _) rfl) ?_
                refine JL.go trivial (RX.assignv (v := Value.slice _ _ _) rfl) ?_
                refine JL.go trivial (RX.assignv (v := Value.slice _ _ _) rfl) ?_
                refine JL.nil ?_
                refine J.ret2 (v := Value.slice _ _ _) (x := Value.slice _ _ _) Tryd.func22 rfl rfl rfl ?_
                have hk2 : k = s.n.toNat := by omega
                subst hk2
                have o3 : ¬ (s.op = 3 ∨ s.op = 8) := by omega
                have eR : actR s i = upC (dirC s) s.n.toNat := by unfold actR; rw [if_neg o1, if_neg o2, if_neg o3, if_neg o5, if_pos o6]; rfl
                have eW : actW s i = [s.dst + i] := by unfold actW; rw [if_neg o2, if_neg o5]
                exact ⟨_, rfl, p, c, some ⟨ba, 0, none⟩, 1, _, by rw [eR, eW, upC_len]; rfl, by rw [eR]; exact join3 ho.slAt, by rw [eW]; exact join3 (SlAt.here rfl).cons, H.join.join⟩
            · skip
              refine J.seq ?_
              refine J.region ?_
              refine JL.go trivial (RX.eq rfl rfl) ?_
              refine JL.go trivial (RX.assignv (v := Value.bool _) rfl) ?_
              refine JL.nil ?_
              refine J.cond_d rfl (fun o9 => ?_) (fun o9 => ?_)
              · skip
                refine J.seq ?_
                refine J.region ?_
                refine JL.go trivial (RX.fieldAddr rfl fo39_1 rfl) ?_
                refine JL.go trivial (by first | exact RX.load H rfl (i := 0) rfl rfl one3 | exact RX.load H rfl (i := 1) rfl rfl one3 | exact RX.load H rfl (i := 2) rfl rfl one3 | exact RX.load H rfl (i := 3) rfl rfl one3) ?_
                refine JL.go trivial (RX.movev (v := Value.int _ _) rfl) ?_
                refine JL.go trivial (RX.add rfl rfl (w_i64 rfl (by omega) (by omega))) ?_
                refine JL.go trivial (RX.fieldAddr rfl fo39_2 rfl) ?_
                refine JL.go trivial (by first | exact RX.load H rfl (i := 0) rfl rfl one3 | exact RX.load H rfl (i := 1) rfl rfl one3 | exact RX.load H rfl (i := 2) rfl rfl one3 | exact RX.load H rfl (i := 3) rfl rfl one3) ?_
                refine JL.go trivial (RX.movev (v := Value.int _ _) rfl) ?_
                refine JL.go trivial (RX.add rfl rfl (w_i64 rfl (by omega) (by omega))) ?_
                refine JL.does trivial (EX.buildSlice (pv := [(0, .int .i64 (s.dst + i)), (1, .int .i64 (s.src + i))]) (l := [.int .i64 (s.dst + i), .int .i64 (s.src + i)]) (e := 3) H rfl (by kernel_rfl)) ?_
                rintro _ w ⟨bb, rfl, H⟩
                refine JL.go trivial (RX.movev (v := Value.slice _ _ _) rfl) ?_
                refine JL.go trivial (RX.assignv (v := Value.slice _ _ _) rfl) ?_
                refine JL.go trivial (RX.assignv (v := Value.slice _ _ _) rfl) ?_
                refine JL.nil ?_
                refine J.ret2 (v := Value.slice _ _ _) (x := Value.slice _ _ _) Tryd.func22 rfl rfl rfl ?_
                have o3 : ¬ (s.op = 3 ∨ s.op = 8) := by omega
                have eR : actR s i = [s.dst + i, s.src + i] := by unfold actR; rw [if_neg o1, if_neg o2, if_neg o3, if_neg o5, if_neg o6, if_pos o9]
                have eW : actW s i = [s.dst + i] := by unfold actW; rw [if_neg o2, if_neg o5]
                exact ⟨_, rfl, some ⟨bb, 0, none⟩, 2, some ⟨ba, 0, none⟩, 1, _, by rw [eR, eW]; rfl, by rw [eR]; exact join3 (SlAt.here rfl), by rw [eW]; exact join3 (SlAt.here rfl).cons, H.join.join⟩
              · skip
                refine J.skip ?_
                refine J.inBlock ?_
                refine J.seq ?_
                refine J.region ?_
                refine JL.go trivial (RX.movev (v := Value.slice _ _ _) rfl) ?_
                refine JL.go trivial (RX.movev (v := Value.slice _ _ _) rfl) ?_
                refine JL.go trivial (RX.assignv (v := Value.slice _ _ _) rfl) ?_
                refine JL.go trivial (RX.assignv (v := Value.slice _ _ _) rfl) ?_
                refine JL.nil ?_
                refine J.ret2 (v := Value.slice _ _ _) (x := Value.slice _ _ _) Tryd.func22 rfl rfl rfl ?_
                have o3 : ¬ (s.op = 3 ∨ s.op = 8) := by omega
                have eR : actR s i = [s.dst + i] := by unfold actR; rw [if_neg o1, if_neg o2, if_neg o3, if_neg o5, if_neg o6, if_neg o9]
                have eW : actW s i = [s.dst + i] := by unfold actW; rw [if_neg o2, if_neg o5]
                exact ⟨_, rfl, some ⟨ba, 0, none⟩, 1, some ⟨ba, 0, none⟩, 1, _, by rw [eR, eW]; rfl, by rw [eR]; exact join2 (SlAt.here rfl), by rw [eW]; exact join2 (SlAt.here rfl), H.join⟩
theorem last_r {w0 w : World} {F : List Seg} (H : Hp w0 w F) {s : Stp} (hf : formB s = true) : Ret Tryd.prog 42 [.agg s.v.toArray] w fun v w' => v = .int .i64 (lastR s) ∧ Hp w0 w' F := by
  refine Calls.of_J (n := 49) Tryd.func42 rfl rfl rfl ?_
  refine J.seq ?_
  refine J.region ?_
  refine JL.does trivial (EX.box (v := Value.agg _) H rfl rfl) ?_
  rintro _ w ⟨b1, rfl, H⟩
  refine JL.go trivial (RX.assign) ?_
  refine JL.nil ?_
  refine J.seq ?_
  refine J.region ?_
  refine JL.go trivial (RX.assign) ?_
  refine JL.nil ?_
  have ff := form_facts hf
  refine J.seq ?_
  refine J.seq ?_
  refine J.region ?_
  refine JL.go trivial (RX.fieldAddr rfl fo39_4 rfl) ?_
  refine JL.go trivial (RX.load H rfl (i := 0) (v := .int .i64 s.count) rfl rfl one3) ?_
  refine JL.go trivial (RX.sub rfl rfl (w_i64 rfl (by omega) (by omega))) ?_
  refine JL.does trivial (EX.buildSlice (pv := [(0, .int .i64 0), (1, .int .i64 (s.count - 1))]) (l := intsV [0, s.count - 1]) (e := 3) H rfl (by kernel_rfl)) ?_
  rintro _ w ⟨b15, rfl, H⟩
  refine JL.go trivial (RX.len_slice rfl (by rw [sl43]; rfl) rfl) ?_
  refine JL.go trivial (RX.move) ?_
  refine JL.nil ?_
  refine J.block ?_
  refine J.loop (ι := Nat) (S := fun k => [(17, .int .i64 (k : Nat)), (3, .int .i64 (mostK s k))]) (Φ := fun k w => k ≤ 2 ∧ Hp w0 w ([(b15, cel (intsV [0, s.count - 1]) 3)] :: [(b1, cel s.v 39)] :: F)) (μ := fun k => 2 - k) (C := [(1, _), (15, _), (16, _)]) 0 ⟨rfl, rfl, rfl, trivial⟩ ⟨rfl, rfl, trivial⟩ ?_ ?_
  · exact ⟨by decide, H⟩
  clear H
  rintro k ρ w ⟨hk, H⟩ IH
  refine J.seq ?_
  refine J.region ?_
  refine JL.go trivial (RX.lt rfl rfl) ?_
  refine JL.nil ?_
  refine J.seq ?_
  refine J.cond_d rfl (fun hlt => ?_) (fun hlt => ?_)
  · skip
    have hlk : 0 ≤ lastI s k ∧ lastI s k ≤ 262144 := by unfold lastI; split <;> omega
    have hget : (intsV [0, s.count - 1])[k]? = some (.int .i64 (lastI s k)) := by
      have : k = 0 ∨ k = 1 := by omega
      rcases this with rfl | rfl <;> rfl
    have hal := act_len hf (lastI s k)
    refine J.skip ?_
    refine J.seq ?_
    refine J.block ?_
    refine J.seq ?_
    refine J.region ?_
    refine JL.go trivial (RX.indexAddr rfl rfl sl43 (by omega) (by omega) (o' := k) (by omega)) ?_
    refine JL.go trivial (RX.load H rfl (i := 0) (v := .int .i64 (lastI s k)) rfl hget one3) ?_
    refine JL.go trivial (RX.assignv (v := Value.int _ _) rfl) ?_
    refine JL.nil ?_
    refine J.seq ?_
    refine J.region ?_
    refine JL.go trivial (RX.loadAgg H rfl (i := 1) (vs := s.v) rfl rfl ag39) ?_
    refine JL.go trivial (RX.movev (v := Value.int _ _) rfl) ?_
    refine JL.does trivial (EX.call rfl cl22 rfl ((act_b H hf hlk.1 hlk.2))) ?_
    rintro _ w ⟨p1, c1, p2, c2, sg, rfl, hR, hW, H⟩
    refine JL.go trivial (RX.movev (v := Value.tuple _) rfl) ?_
    refine JL.go trivial (RX.extract rfl rfl) ?_
    refine JL.go trivial (RX.extract rfl rfl) ?_
    refine JL.go trivial (RX.assignv (v := Value.slice _ _ _) rfl) ?_
    refine JL.go trivial (RX.assignv (v := Value.slice _ _ _) rfl) ?_
    refine JL.nil ?_
    refine J.seq ?_
    refine J.seq ?_
    refine J.region ?_
    refine JL.go trivial (RX.movev (v := Value.slice _ _ _) rfl) ?_
    refine JL.go trivial (RX.len_slice rfl (by rw [sl43]; rfl) rfl) ?_
    refine JL.go trivial (RX.move) ?_
    refine JL.nil ?_
    refine J.block ?_
    refine J.loop (ι := Nat) (S := fun j => [(29, .int .i64 (j : Nat)), (3, .int .i64 (mx (mostK s k) ((actR s (lastI s k)).take j)))]) (Φ := fun j w => j ≤ (actR s (lastI s k)).length ∧ Hp w0 w (sg :: [(b15, cel (intsV [0, s.count - 1]) 3)] :: [(b1, cel s.v 39)] :: F)) (μ := fun j => (actR s (lastI s k)).length - j) (C := [(1, _), (7, _), (15, _), (16, _), (17, _), (27, _), (28, _)]) 0 ⟨rfl, rfl, rfl, rfl, rfl, rfl, rfl, trivial⟩ ⟨rfl, rfl, trivial⟩ ?_ ?_
    · exact ⟨Nat.zero_le _, H⟩
    clear H
    rintro j ρ w ⟨hj, H⟩ IH1
    refine J.seq ?_
    refine J.region ?_
    refine JL.go trivial (RX.lt rfl rfl) ?_
    refine JL.nil ?_
    refine J.seq ?_
    refine J.cond_d rfl (fun hlt1 => ?_) (fun hlt1 => ?_)
    · skip
      obtain ⟨c, hc⟩ : ∃ c, (actR s (lastI s k))[j]? = some c := ⟨_, List.getElem?_eq_getElem (by omega)⟩
      obtain ⟨pb, po, rfl, _⟩ := hR.some (by rw [intsV_len]; omega)
      refine J.skip ?_
      refine J.seq ?_
      refine J.block ?_
      refine J.seq ?_
      refine J.region ?_
      refine JL.go trivial (RX.indexAddr rfl rfl sl43 (by omega) (by omega) (o' := po + j) (by omega)) ?_
      refine JL.go trivial (RX.loadS H (sl_up hR (by simp)) rfl (j := j) rfl (v := .int .i64 c) (intsV_get hc) one3) ?_
      refine JL.go trivial (RX.assignv (v := Value.int _ _) rfl) ?_
      refine JL.nil ?_
      refine J.region ?_
      refine JL.go trivial (RX.movev (v := Value.int _ _) rfl) ?_
      refine JL.go trivial (RX.movev (v := Value.int _ _) rfl) ?_
      refine JL.go trivial (RX.mxi rfl rfl) ?_
      refine JL.go trivial (RX.assignv (v := Value.int _ _) rfl) ?_
      refine JL.nil ?_
      refine J.inBlock ?_
      refine J.region ?_
      refine JL.go trivial (RX.add rfl rfl (w_i64 (r := ((j + 1 : Nat) : Int)) (by omega) (by omega) (by omega))) ?_
      refine JL.go trivial (RX.movev (v := Value.int _ _) rfl) ?_
      refine JL.nil ?_
      refine IH1 (j + 1) _ _ (by omega) ⟨rfl, rfl, rfl, rfl, rfl, rfl, rfl, trivial⟩ ⟨rfl, (show Value.int .i64 _ = Value.int .i64 _ by rw [mx_snoc hc]), trivial⟩ ⟨by omega, H⟩
    · skip
      refine J.exit rfl ?_
      refine J.seq ?_
      rw [List.take_of_length_le (show (actR s (lastI s k)).length ≤ j by omega)]
      refine J.region ?_
      refine JL.go trivial (RX.movev (v := Value.slice _ _ _) rfl) ?_
      refine JL.go trivial (RX.len_slice rfl (by rw [sl43]; rfl) rfl) ?_
      refine JL.go trivial (RX.move) ?_
      refine JL.nil ?_
      refine J.block ?_
      refine J.loop (ι := Nat) (S := fun j => [(39, .int .i64 (j : Nat)), (3, .int .i64 (mx (mx (mostK s k) (actR s (lastI s k))) ((actW s (lastI s k)).take j)))]) (Φ := fun j w => j ≤ (actW s (lastI s k)).length ∧ Hp w0 w (sg :: [(b15, cel (intsV [0, s.count - 1]) 3)] :: [(b1, cel s.v 39)] :: F)) (μ := fun j => (actW s (lastI s k)).length - j) (C := [(1, _), (15, _), (16, _), (17, _), (37, _), (38, _)]) 0 ⟨rfl, rfl, rfl, rfl, rfl, rfl, trivial⟩ ⟨rfl, rfl, trivial⟩ ?_ ?_
      · exact ⟨Nat.zero_le _, H⟩
      clear H
      rintro j ρ w ⟨hj, H⟩ IH2
      refine J.seq ?_
      refine J.region ?_
      refine JL.go trivial (RX.lt rfl rfl) ?_
      refine JL.nil ?_
      refine J.seq ?_
      refine J.cond_d rfl (fun hlt2 => ?_) (fun hlt2 => ?_)
      · skip
        obtain ⟨c, hc⟩ : ∃ c, (actW s (lastI s k))[j]? = some c := ⟨_, List.getElem?_eq_getElem (by omega)⟩
        obtain ⟨pb, po, rfl, _⟩ := hW.some (by rw [intsV_len]; omega)
        refine J.skip ?_
        refine J.seq ?_
        refine J.block ?_
        refine J.seq ?_
        refine J.region ?_
        refine JL.go trivial (RX.indexAddr rfl rfl sl43 (by omega) (by omega) (o' := po + j) (by omega)) ?_
        refine JL.go trivial (RX.loadS H (sl_up hW (by simp)) rfl (j := j) rfl (v := .int .i64 c) (intsV_get hc) one3) ?_
        refine JL.go trivial (RX.assignv (v := Value.int _ _) rfl) ?_
        refine JL.nil ?_
        refine J.region ?_
        refine JL.go trivial (RX.movev (v := Value.int _ _) rfl) ?_
        refine JL.go trivial (RX.movev (v := Value.int _ _) rfl) ?_
        refine JL.go trivial (RX.mxi rfl rfl) ?_
        refine JL.go trivial (RX.assignv (v := Value.int _ _) rfl) ?_
        refine JL.nil ?_
        refine J.inBlock ?_
        refine J.region ?_
        refine JL.go trivial (RX.add rfl rfl (w_i64 (r := ((j + 1 : Nat) : Int)) (by omega) (by omega) (by omega))) ?_
        refine JL.go trivial (RX.movev (v := Value.int _ _) rfl) ?_
        refine JL.nil ?_
        refine IH2 (j + 1) _ _ (by omega) ⟨rfl, rfl, rfl, rfl, rfl, rfl, trivial⟩ ⟨rfl, (show Value.int .i64 _ = Value.int .i64 _ by rw [mx_snoc hc]), trivial⟩ ⟨by omega, H⟩
      · skip
        refine J.exit rfl ?_
        refine J.inBlock ?_
        refine J.region ?_
        refine JL.go trivial (RX.add rfl rfl (w_i64 (r := ((k + 1 : Nat) : Int)) (by omega) (by omega) (by omega))) ?_
        refine JL.go trivial (RX.movev (v := Value.int _ _) rfl) ?_
        refine JL.nil ?_
        rw [List.take_of_length_le (show (actW s (lastI s k)).length ≤ j by omega)]
        exact IH (k + 1) _ _ (by omega) ⟨rfl, rfl, rfl, trivial⟩ ⟨rfl, rfl, trivial⟩ ⟨by omega, H.drop⟩
  · skip
    refine J.exit rfl ?_
    refine J.seq ?_
    refine J.region ?_
    refine JL.go trivial (RX.movev (v := Value.int _ _) rfl) ?_
    refine JL.go trivial (RX.assignv (v := Value.int _ _) rfl) ?_
    refine JL.nil ?_
    refine J.ret1 (v := Value.int _ _) Tryd.func42 rfl rfl ?_
    have hk2 : k = 2 := by omega
    subst hk2
    exact ⟨_, rfl, by rw [mostK_two], H.drop.drop⟩
theorem writer_r {w0 w : World} {F : List Seg} (H : Hp w0 w F) {s : Stp} (hf : formB s = true) {c : Int} (h0 : 0 ≤ c) (h1 : c ≤ 4398046511104) : Ret Tryd.prog 47 [.agg s.v.toArray, .int .i64 c] w fun v w' => v = .int .i64 (writerR s c) ∧ Hp w0 w' F := by
  refine Calls.of_J (n := 45) Tryd.func47 rfl rfl rfl ?_
  refine J.seq ?_
  refine J.region ?_
  refine JL.does trivial (EX.box (v := Value.agg _) H rfl rfl) ?_
  rintro _ w ⟨b1, rfl, H⟩
  refine JL.go trivial (RX.assign) ?_
  refine JL.nil ?_
  refine J.seq ?_
  obtain ⟨_, _, hd0, hd1, hc0, hc1, hs0, hs1, hj0, hj1, hn0, hn1, hj, h5, _⟩ := form_facts hf
  refine J.region ?_
  refine JL.go trivial (RX.movev (v := Value.int _ _) rfl) ?_
  refine JL.go trivial (RX.fieldAddr rfl fo39_1 rfl) ?_
  refine JL.go trivial (RX.load H rfl (i := 0) (v := .int .i64 s.dst) rfl rfl one3) ?_
  refine JL.go trivial (RX.sub rfl rfl (w_i64 rfl (by omega) (by omega))) ?_
  refine JL.go trivial (RX.assignv (v := Value.int _ _) rfl) ?_
  refine JL.nil ?_
  refine J.seq ?_
  refine J.seq ?_
  refine J.region ?_
  refine JL.go trivial (RX.movev (v := Value.int _ _) rfl) ?_
  refine JL.go trivial (RX.lt rfl rfl) ?_
  refine JL.nil ?_
  refine J.cond_d rfl (fun a1 => ?_) (fun a1 => ?_)
  · skip
    refine J.seq ?_
    refine J.region ?_
    refine JL.go trivial (RX.assign) ?_
    refine JL.nil ?_
    refine J.ret1 (v := Value.int _ _) Tryd.func47 rfl rfl ?_
    refine ⟨_, rfl, ?_, H.drop⟩
    unfold writerR
    simp_all <;> (repeat' split) <;> first | rfl | omega
  · skip
    refine J.skip ?_
    refine J.seq ?_
    refine J.region ?_
    refine JL.go trivial (RX.movev (v := Value.int _ _) rfl) ?_
    refine JL.go trivial (RX.assignv (v := Value.int _ _) rfl) ?_
    refine JL.nil ?_
    refine J.seq ?_
    refine J.seq ?_
    refine J.region ?_
    refine JL.go trivial (RX.fieldAddr rfl fo39_0 rfl) ?_
    refine JL.go trivial (RX.load H rfl (i := 0) (v := .int .i64 s.op) rfl rfl one3) ?_
    refine JL.nil ?_
    refine J.block ?_
    refine J.seq ?_
    refine J.region ?_
    refine JL.go trivial (RX.eq rfl rfl) ?_
    refine JL.go trivial (RX.assignv (v := Value.bool _) rfl) ?_
    refine JL.nil ?_
    refine J.cond_d rfl (fun o2 => ?_) (fun o2 => ?_)
    · skip
      have hjp : 1 ≤ s.jump := hj (by omega)
      refine J.seq ?_
      refine J.seq ?_
      refine J.region ?_
      refine JL.go trivial (RX.movev (v := Value.int _ _) rfl) ?_
      refine JL.go trivial (RX.fieldAddr rfl fo39_3 rfl) ?_
      refine JL.go trivial (RX.load H rfl (i := 0) (v := .int .i64 s.jump) rfl rfl one3) ?_
      refine JL.go trivial (RX.rem rfl rfl (by omega) (r := (c - s.dst) % s.jump) (wrap_mod (by omega))) ?_
      refine JL.go trivial (RX.ne rfl rfl) ?_
      refine JL.nil ?_
      refine J.cond_d rfl (fun a2 => ?_) (fun a2 => ?_)
      · skip
        refine J.seq ?_
        refine J.region ?_
        refine JL.go trivial (RX.assign) ?_
        refine JL.nil ?_
        refine J.ret1 (v := Value.int _ _) Tryd.func47 rfl rfl ?_
        refine ⟨_, rfl, ?_, H.drop⟩
        unfold writerR
        simp_all <;> (repeat' split) <;> first | rfl | omega
      · skip
        refine J.skip ?_
        refine J.region ?_
        refine JL.go trivial (RX.movev (v := Value.int _ _) rfl) ?_
        refine JL.go trivial (RX.fieldAddr rfl fo39_3 rfl) ?_
        refine JL.go trivial (RX.load H rfl (i := 0) (v := .int .i64 s.jump) rfl rfl one3) ?_
        refine JL.go trivial (RX.quo rfl rfl (by omega) (r := (c - s.dst) / s.jump) (by rw [Int.tdiv_eq_ediv_of_nonneg (by omega)]; exact w_i64 rfl (by have := Int.ediv_nonneg (show 0 ≤ c - s.dst by omega) (show 0 ≤ s.jump by omega); omega) (by have := Int.ediv_le_self s.jump (show 0 ≤ c - s.dst by omega); omega))) ?_
        refine JL.go trivial (RX.assignv (v := Value.int _ _) rfl) ?_
        refine JL.nil ?_
        refine J.inBlock ?_
        refine J.seq ?_
        refine J.seq ?_
        refine J.region ?_
        refine JL.go trivial (RX.movev (v := Value.int _ _) rfl) ?_
        refine JL.go trivial (RX.fieldAddr rfl fo39_4 rfl) ?_
        refine JL.go trivial (RX.load H rfl (i := 0) (v := .int .i64 s.count) rfl rfl one3) ?_
        refine JL.go trivial (RX.ge rfl rfl) ?_
        refine JL.nil ?_
        refine J.cond_d rfl (fun a4 => ?_) (fun a4 => ?_)
        · skip
          refine J.seq ?_
          refine J.region ?_
          refine JL.go trivial (RX.assign) ?_
          refine JL.nil ?_
          refine J.ret1 (v := Value.int _ _) Tryd.func47 rfl rfl ?_
          refine ⟨_, rfl, ?_, H.drop⟩
          unfold writerR
          simp_all <;> (repeat' split) <;> first | rfl | omega
        · skip
          refine J.skip ?_
          refine J.seq ?_
          refine J.region ?_
          refine JL.go trivial (RX.movev (v := Value.int _ _) rfl) ?_
          refine JL.go trivial (RX.assignv (v := Value.int _ _) rfl) ?_
          refine JL.nil ?_
          refine J.ret1 (v := Value.int _ _) Tryd.func47 rfl rfl ?_
          refine ⟨_, rfl, ?_, H.drop⟩
          unfold writerR
          simp_all <;> (repeat' split) <;> first | rfl | omega
    · skip
      refine J.seq ?_
      refine J.region ?_
      refine JL.go trivial (RX.eq rfl rfl) ?_
      refine JL.go trivial (RX.assignv (v := Value.bool _) rfl) ?_
      refine JL.nil ?_
      refine J.cond_d rfl (fun o5 => ?_) (fun o5 => ?_)
      · skip
        have hjp : 1 ≤ s.jump := hj (by omega)
        refine J.seq ?_
        refine J.seq ?_
        refine J.quietH H hmix (by kernel_rfl) ?_
        refine JQ.go trivial (fun w H => RX.movev (v := Value.int _ _) rfl) ?_
        refine JQ.go trivial (fun w H => RX.fieldAddr rfl fo39_3 rfl) ?_
        refine JQ.go trivial (fun w H => RX.load H rfl (i := 0) (v := .int .i64 s.jump) rfl rfl one3) ?_
        refine JQ.go trivial (fun w H => RX.quo rfl rfl (by omega) (r := (c - s.dst) / s.jump) (by rw [Int.tdiv_eq_ediv_of_nonneg (by omega)]; exact w_i64 rfl (by have := Int.ediv_nonneg (show 0 ≤ c - s.dst by omega) (show 0 ≤ s.jump by omega); omega) (by have := Int.ediv_le_self s.jump (show 0 ≤ c - s.dst by omega); omega))) ?_
        refine JQ.go trivial (fun w H => RX.fieldAddr rfl fo39_5 rfl) ?_
        refine JQ.go trivial (fun w H => RX.load H rfl (i := 0) (v := .int .i64 s.n) rfl rfl one3) ?_
        refine JQ.go trivial (fun w H => RX.ge rfl rfl) ?_
        refine JQ.nil fun w H => ?_
        refine J.cond_d rfl (fun a3 => ?_) (fun a3 => ?_)
        · skip
          refine J.seq ?_
          refine J.region ?_
          refine JL.go trivial (RX.assign) ?_
          refine JL.nil ?_
          refine J.ret1 (v := Value.int _ _) Tryd.func47 rfl rfl ?_
          refine ⟨_, rfl, ?_, H.drop⟩
          unfold writerR
          simp_all <;> (repeat' split) <;> first | rfl | omega
        · skip
          refine J.skip ?_
          refine J.region ?_
          refine JL.go trivial (RX.movev (v := Value.int _ _) rfl) ?_
          refine JL.go trivial (RX.fieldAddr rfl fo39_3 rfl) ?_
          refine JL.go trivial (RX.load H rfl (i := 0) (v := .int .i64 s.jump) rfl rfl one3) ?_
          refine JL.go trivial (RX.rem rfl rfl (by omega) (r := (c - s.dst) % s.jump) (wrap_mod (by omega))) ?_
          refine JL.go trivial (RX.assignv (v := Value.int _ _) rfl) ?_
          refine JL.nil ?_
          refine J.inBlock ?_
          refine J.seq ?_
          refine J.seq ?_
          refine J.region ?_
          refine JL.go trivial (RX.movev (v := Value.int _ _) rfl) ?_
          refine JL.go trivial (RX.fieldAddr rfl fo39_4 rfl) ?_
          refine JL.go trivial (RX.load H rfl (i := 0) (v := .int .i64 s.count) rfl rfl one3) ?_
          refine JL.go trivial (RX.ge rfl rfl) ?_
          refine JL.nil ?_
          refine J.cond_d rfl (fun a4 => ?_) (fun a4 => ?_)
          · skip
            refine J.seq ?_
            refine J.region ?_
            refine JL.go trivial (RX.assign) ?_
            refine JL.nil ?_
            refine J.ret1 (v := Value.int _ _) Tryd.func47 rfl rfl ?_
            refine ⟨_, rfl, ?_, H.drop⟩
            unfold writerR
            simp_all <;> (repeat' split) <;> first | rfl | omega
          · skip
            refine J.skip ?_
            refine J.seq ?_
            refine J.region ?_
            refine JL.go trivial (RX.movev (v := Value.int _ _) rfl) ?_
            refine JL.go trivial (RX.assignv (v := Value.int _ _) rfl) ?_
            refine JL.nil ?_
            refine J.ret1 (v := Value.int _ _) Tryd.func47 rfl rfl ?_
            refine ⟨_, rfl, ?_, H.drop⟩
            unfold writerR
            simp_all <;> (repeat' split) <;> first | rfl | omega
      · skip
        refine J.skip ?_
        refine J.inBlock ?_
        refine J.seq ?_
        refine J.seq ?_
        refine J.region ?_
        refine JL.go trivial (RX.movev (v := Value.int _ _) rfl) ?_
        refine JL.go trivial (RX.fieldAddr rfl fo39_4 rfl) ?_
        refine JL.go trivial (RX.load H rfl (i := 0) (v := .int .i64 s.count) rfl rfl one3) ?_
        refine JL.go trivial (RX.ge rfl rfl) ?_
        refine JL.nil ?_
        refine J.cond_d rfl (fun a4 => ?_) (fun a4 => ?_)
        · skip
          refine J.seq ?_
          refine J.region ?_
          refine JL.go trivial (RX.assign) ?_
          refine JL.nil ?_
          refine J.ret1 (v := Value.int _ _) Tryd.func47 rfl rfl ?_
          refine ⟨_, rfl, ?_, H.drop⟩
          unfold writerR
          simp_all <;> (repeat' split) <;> first | rfl | omega
        · skip
          refine J.skip ?_
          refine J.seq ?_
          refine J.region ?_
          refine JL.go trivial (RX.movev (v := Value.int _ _) rfl) ?_
          refine JL.go trivial (RX.assignv (v := Value.int _ _) rfl) ?_
          refine JL.nil ?_
          refine J.ret1 (v := Value.int _ _) Tryd.func47 rfl rfl ?_
          refine ⟨_, rfl, ?_, H.drop⟩
          unfold writerR
          simp_all <;> (repeat' split) <;> first | rfl | omega
theorem apart_r {w0 w : World} {F : List Seg} (H : Hp w0 w F) {s : Stp} (hf : formB s = true) : Ret Tryd.prog 43 [.agg s.v.toArray] w fun v w' => v = .bool (apartR s) ∧ Hp w0 w' F := by
  refine Calls.of_J (n := 38) Tryd.func43 rfl rfl rfl ?_
  refine J.seq ?_
  refine J.region ?_
  refine JL.does trivial (EX.box (v := Value.agg _) H rfl rfl) ?_
  rintro _ w ⟨b1, rfl, H⟩
  refine JL.go trivial (RX.assign) ?_
  refine JL.nil ?_
  refine J.seq ?_
  refine J.seq ?_
  refine J.region ?_
  refine JL.go trivial (RX.assign) ?_
  refine JL.nil ?_
  have ff := form_facts hf
  refine J.block ?_
  refine J.loop (ι := Nat) (S := fun i => [(3, .int .i64 (i : Nat))]) (Φ := fun i w => (i : Int) ≤ s.count ∧ (∀ j : Nat, j < i → ∀ c ∈ actR s j, writerR s c < 0 ∨ writerR s c = j) ∧ Hp w0 w ([(b1, cel s.v 39)] :: F)) (μ := fun i => s.count.toNat - i) (C := [(1, _)]) 0 ⟨rfl, trivial⟩ ⟨rfl, trivial⟩ ?_ ?_
  · exact ⟨by omega, fun j hj => absurd hj (Nat.not_lt_zero _), H⟩
  clear H
  rintro i ρ w ⟨hi, hall, H⟩ IH
  refine J.seq ?_
  refine J.seq ?_
  refine J.region ?_
  refine JL.go trivial (RX.movev (v := Value.int _ _) rfl) ?_
  refine JL.go trivial (RX.fieldAddr rfl fo39_4 rfl) ?_
  refine JL.go trivial (RX.load H rfl (i := 0) (v := .int .i64 s.count) rfl rfl one3) ?_
  refine JL.go trivial (RX.lt rfl rfl) ?_
  refine JL.nil ?_
  refine J.cond_d rfl (fun hlt => ?_) (fun hlt => ?_)
  · skip
    have hal := act_len hf i
    have hbd := (act_bd hf (i := i) (by omega) (by omega)).1
    refine J.skip ?_
    refine J.seq ?_
    refine J.block ?_
    refine J.seq ?_
    refine J.region ?_
    refine JL.go trivial (RX.loadAgg H rfl (i := 0) (vs := s.v) rfl rfl ag39) ?_
    refine JL.go trivial (RX.movev (v := Value.int _ _) rfl) ?_
    refine JL.does trivial (EX.call rfl cl22 rfl ((act_b H hf (by omega) (by omega)))) ?_
    rintro _ w ⟨p1, c1, p2, c2, sg, rfl, hR, hW, H⟩
    refine JL.go trivial (RX.movev (v := Value.tuple _) rfl) ?_
    refine JL.go trivial (RX.extract rfl rfl) ?_
    refine JL.go trivial (RX.extract rfl rfl) ?_
    refine JL.go trivial (RX.assignv (v := Value.slice _ _ _) rfl) ?_
    refine JL.go trivial (RX.assignv (v := Value.slice _ _ _) rfl) ?_
    refine JL.nil ?_
    refine J.seq ?_
    refine J.region ?_
    refine JL.go trivial (RX.movev (v := Value.slice _ _ _) rfl) ?_
    refine JL.go trivial (RX.len_slice rfl (by rw [sl43]; rfl) rfl) ?_
    refine JL.go trivial (RX.move) ?_
    refine JL.nil ?_
    refine J.block ?_
    refine J.loop (ι := Nat) (S := fun j => [(23, .int .i64 (j : Nat))]) (Φ := fun j w => j ≤ (actR s i).length ∧ (∀ c ∈ (actR s i).take j, writerR s c < 0 ∨ writerR s c = i) ∧ Hp w0 w (sg :: [(b1, cel s.v 39)] :: F)) (μ := fun j => (actR s i).length - j) (C := [(1, _), (3, _), (21, _), (22, _)]) 0 ⟨rfl, rfl, rfl, rfl, trivial⟩ ⟨rfl, trivial⟩ ?_ ?_
    · exact ⟨Nat.zero_le _, fun c hc => absurd hc (by simp), H⟩
    clear H
    rintro j ρ w ⟨hj, hok, H⟩ IH1
    refine J.seq ?_
    refine J.region ?_
    refine JL.go trivial (RX.lt rfl rfl) ?_
    refine JL.nil ?_
    refine J.seq ?_
    refine J.cond_d rfl (fun hlt1 => ?_) (fun hlt1 => ?_)
    · skip
      obtain ⟨c, hc⟩ : ∃ c, (actR s i)[j]? = some c := ⟨_, List.getElem?_eq_getElem (by omega)⟩
      obtain ⟨pb, po, rfl, _⟩ := hR.some (by rw [intsV_len]; omega)
      have hcb := hbd c (List.mem_of_getElem? hc)
      refine J.skip ?_
      refine J.seq ?_
      refine J.block ?_
      refine J.seq ?_
      refine J.region ?_
      refine JL.go trivial (RX.indexAddr rfl rfl sl43 (by omega) (by omega) (o' := po + j) (by omega)) ?_
      refine JL.go trivial (RX.loadS H (sl_up hR (by simp)) rfl (j := j) rfl (v := .int .i64 c) (intsV_get hc) one3) ?_
      refine JL.go trivial (RX.assignv (v := Value.int _ _) rfl) ?_
      refine JL.nil ?_
      refine J.seq ?_
      refine J.region ?_
      refine JL.go trivial (RX.loadAgg H rfl (i := 1) (vs := s.v) rfl rfl ag39) ?_
      refine JL.go trivial (RX.movev (v := Value.int _ _) rfl) ?_
      refine JL.does trivial (EX.call rfl cl47 rfl ((writer_r H hf hcb.1 (by omega)))) ?_
      rintro _ w ⟨rfl, H⟩
      refine JL.go trivial (RX.assignv (v := Value.int _ _) rfl) ?_
      refine JL.nil ?_
      refine J.seq ?_
      refine J.region ?_
      refine JL.go trivial (RX.movev (v := Value.int _ _) rfl) ?_
      refine JL.go trivial (RX.ge rfl rfl) ?_
      refine JL.go trivial (RX.movev (v := Value.bool _) rfl) ?_
      refine JL.splitS 32 rfl (fun e1 => ?_) (fun e1 => ?_)
      · skip
        first | have e1p := of_decide_eq_true e1 | skip
        refine JL.go ⟨_, rfl, e1⟩ (RX.movev (v := Value.int _ _) rfl) ?_
        refine JL.go ⟨_, rfl, e1⟩ (RX.movev (v := Value.int _ _) rfl) ?_
        refine JL.go ⟨_, rfl, e1⟩ (RX.ne rfl rfl) ?_
        refine JL.go trivial (RX.pick_t rfl e1) ?_
        refine JL.nil ?_
        refine J.cond_d rfl (fun e2 => ?_) (fun e2 => ?_)
        · skip
          refine J.seq ?_
          refine J.region ?_
          refine JL.go trivial (RX.assign) ?_
          refine JL.nil ?_
          refine J.ret1 (v := Value.bool _) Tryd.func43 rfl rfl ?_
          exact ⟨_, rfl, by rw [apart_no (by omega) hc (of_decide_eq_true e1) e2], H.drop.drop⟩
        · skip
          refine J.skip ?_
          refine J.inBlock ?_
          refine J.region ?_
          refine JL.go trivial (RX.add rfl rfl (w_i64 (r := ((j + 1 : Nat) : Int)) (by omega) (by omega) (by omega))) ?_
          refine JL.go trivial (RX.movev (v := Value.int _ _) rfl) ?_
          refine JL.nil ?_
          refine IH1 (j + 1) _ _ (by omega) ⟨rfl, rfl, rfl, rfl, trivial⟩ ⟨rfl, trivial⟩ ⟨by omega, fun x hx => ?_, H⟩
          rw [take_succ_get hc] at hx
          rcases List.mem_append.1 hx with h | h
          · exact hok x h
          · rw [List.mem_singleton.1 h]; first | (have := of_decide_eq_false e1; exact .inl (by omega)) | exact .inr (by omega)
      · skip
        first | have e1p := of_decide_eq_false e1 | skip
        refine JL.no ⟨_, rfl, gno e1⟩ ?_
        refine JL.no ⟨_, rfl, gno e1⟩ ?_
        refine JL.no ⟨_, rfl, gno e1⟩ ?_
        refine JL.go trivial (RX.pick_f rfl e1) ?_
        refine JL.nil ?_
        refine J.cond_f rfl rfl ?_
        refine J.skip ?_
        refine J.inBlock ?_
        refine J.region ?_
        refine JL.go trivial (RX.add rfl rfl (w_i64 (r := ((j + 1 : Nat) : Int)) (by omega) (by omega) (by omega))) ?_
        refine JL.go trivial (RX.movev (v := Value.int _ _) rfl) ?_
        refine JL.nil ?_
        refine IH1 (j + 1) _ _ (by omega) ⟨rfl, rfl, rfl, rfl, trivial⟩ ⟨rfl, trivial⟩ ⟨by omega, fun x hx => ?_, H⟩
        rw [take_succ_get hc] at hx
        rcases List.mem_append.1 hx with h | h
        · exact hok x h
        · rw [List.mem_singleton.1 h]; first | (have := of_decide_eq_false e1; exact .inl (by omega)) | exact .inr (by omega)
    · skip
      refine J.exit rfl ?_
      refine J.inBlock ?_
      refine J.region ?_
      refine JL.go trivial (RX.movev (v := Value.int _ _) rfl) ?_
      refine JL.go trivial (RX.add rfl rfl (w_i64 (r := ((i + 1 : Nat) : Int)) (by omega) (by omega) (by omega))) ?_
      refine JL.go trivial (RX.assignv (v := Value.int _ _) rfl) ?_
      refine JL.nil ?_
      rw [List.take_of_length_le (by omega)] at hok
      refine IH (i + 1) _ _ (by omega) ⟨rfl, trivial⟩ ⟨rfl, trivial⟩ ⟨by omega, fun x hx => ?_, H.drop⟩
      rcases Nat.lt_succ_iff_lt_or_eq.1 hx with h | rfl
      · exact hall x h
      · exact hok
  · skip
    refine J.exit rfl ?_
    refine J.seq ?_
    refine J.region ?_
    refine JL.go trivial (RX.assign) ?_
    refine JL.nil ?_
    refine J.ret1 (v := Value.bool _) Tryd.func43 rfl rfl ?_
    exact ⟨_, rfl, by rw [apart_yes (fun x hx => hall x (by omega))], H.drop⟩
theorem good_r {w0 w : World} {F : List Seg} (H : Hp w0 w F) {s : Stp} (hs : s.Ok) {n : Int} : Ret Tryd.prog 27 [.agg s.v.toArray, .int .i64 n] w fun v w' => v = .bool (goodP s n) ∧ Hp w0 w' F := by
  refine Calls.of_J (n := 18) Tryd.func27 rfl rfl rfl ?_
  refine J.seq ?_
  refine J.region ?_
  refine JL.does trivial (EX.box (v := Value.agg _) H rfl rfl) ?_
  rintro _ w ⟨b1, rfl, H⟩
  refine JL.go trivial (RX.assign) ?_
  refine JL.nil ?_
  refine J.seq ?_
  refine J.region ?_
  refine JL.go trivial (RX.loadAgg H rfl (i := 0) (vs := s.v) rfl rfl ag39) ?_
  refine JL.does trivial (EX.call rfl cl24 rfl ((rform_b H hs))) ?_
  rintro _ w ⟨rfl, H⟩
  refine JL.go trivial (RX.assignv (v := Value.int _ _) rfl) ?_
  refine JL.nil ?_
  refine J.seq ?_
  refine J.seq ?_
  refine J.region ?_
  refine JL.go trivial (RX.movev (v := Value.int _ _) rfl) ?_
  refine JL.go trivial (RX.ne rfl rfl) ?_
  refine JL.nil ?_
  refine J.cond_d rfl (fun hfb => ?_) (fun hfb => ?_)
  · skip
    have hf : formB s = false := by
      cases h : formB s with
      | false => rfl
      | true => rw [h] at hfb; exact absurd hfb (by decide)
    refine J.seq ?_
    refine J.region ?_
    refine JL.go trivial (RX.assign) ?_
    refine JL.nil ?_
    refine J.ret1 (v := Value.bool _) Tryd.func27 rfl rfl ?_
    exact ⟨_, rfl, by rw [goodP_no hf], H.drop⟩
  · skip
    have hf : formB s = true := by
      cases h : formB s with
      | true => rfl
      | false => rw [h] at hfb; exact absurd hfb (by decide)
    refine J.skip ?_
    refine J.seq ?_
    refine J.region ?_
    refine JL.go trivial (RX.loadAgg H rfl (i := 0) (vs := s.v) rfl rfl ag39) ?_
    refine JL.does trivial (EX.call rfl cl42 rfl ((last_r H hf))) ?_
    rintro _ w ⟨rfl, H⟩
    refine JL.go trivial (RX.assignv (v := Value.int _ _) rfl) ?_
    refine JL.nil ?_
    refine J.seq ?_
    refine J.seq ?_
    refine J.region ?_
    refine JL.go trivial (RX.movev (v := Value.int _ _) rfl) ?_
    refine JL.go trivial (RX.movev (v := Value.int _ _) rfl) ?_
    refine JL.go trivial (RX.ge rfl rfl) ?_
    refine JL.nil ?_
    refine J.cond_d rfl (fun hl => ?_) (fun hl => ?_)
    · skip
      refine J.seq ?_
      refine J.region ?_
      refine JL.go trivial (RX.assign) ?_
      refine JL.nil ?_
      refine J.ret1 (v := Value.bool _) Tryd.func27 rfl rfl ?_
      exact ⟨_, rfl, by rw [good_eq]; unfold goodR; rw [decide_eq_false (show ¬ lastR s < n by omega), Bool.and_false, Bool.false_and], H.drop⟩
    · skip
      refine J.skip ?_
      refine J.seq ?_
      refine J.region ?_
      refine JL.go trivial (RX.loadAgg H rfl (i := 0) (vs := s.v) rfl rfl ag39) ?_
      refine JL.does trivial (EX.call rfl cl43 rfl ((apart_r H hf))) ?_
      rintro _ w ⟨rfl, H⟩
      refine JL.go trivial (RX.assignv (v := Value.bool _) rfl) ?_
      refine JL.nil ?_
      refine J.ret1 (v := Value.bool _) Tryd.func27 rfl rfl ?_
      exact ⟨_, rfl, by rw [good_eq]; unfold goodR; rw [hf, decide_eq_true (show lastR s < n by omega)]; rfl, H.drop⟩
end Go.Proofs.YtafhajgebhicdaaDoor

/- What the law asks: lists held against each other. -/
import Derived.Test.YtfpphoapknecfaaGreatDoorBesafterBj
import Derived.Test.YtfpphoapknecfaaGreatDoorBesafterEx
namespace Go.Proofs.YtfpphoapknecfaaGreatDoorBesafter
open Go Go.Eng
set_option maxRecDepth 100000
set_option linter.unusedVariables false
set_option linter.unusedSimpArgs false
theorem one2 : oneOf Tryz.prog 2 = true := by kernel_rfl
theorem sl22 : sliceOf Tryz.prog 22 = some (2, 1) := by kernel_rfl
theorem take_succ_get {α : Type} {l : List α} {i : Nat} {x : α} (h : l[i]? = some x) : l.take (i + 1) = l.take i ++ [x] := by
  rw [List.take_add_one, h]; rfl
def i64sV (l : List Int) : List Value := l.map (Value.int .i64)
theorem i64sV_len (l : List Int) : (i64sV l).length = l.length := by simp [i64sV]
theorem i64sV_get {l : List Int} {i : Nat} {k : Int} (h : l[i]? = some k) : (i64sV l)[i]? = some (.int .i64 k) := by simp [i64sV, h]

set_option maxHeartbeats 1600000 in
theorem sameU_b {w0 w : World} {F : List Seg} (H : Hp w0 w F) {a b : List Nat} {pa pb : Option Addr} {ca cb : Nat} (ha : SlAt F pa (u64sV a)) (hb : SlAt F pb (u64sV b)) (hla : a.length ≤ 9223372036854775807) (hlb : b.length ≤ 9223372036854775807) : Ret Tryz.prog 14 [.slice pa a.length ca, .slice pb b.length cb] w fun v w' => v = .bool (decide (a = b)) ∧ Hp w0 w' F := by
  refine Calls.of_J (n := 26) Tryz.func14 rfl rfl rfl ?_
  refine J.seq ?_
  refine J.region ?_
  refine JL.go trivial (RX.assign) ?_
  refine JL.nil ?_
  refine J.seq ?_
  refine J.seq ?_
  refine J.region ?_
  refine JL.go trivial (RX.movev (v := Value.slice _ _ _) rfl) ?_
  refine JL.go trivial (RX.len_slice rfl (by rw [sl33]; rfl) rfl) ?_
  refine JL.go trivial (RX.movev (v := Value.slice _ _ _) rfl) ?_
  refine JL.go trivial (RX.len_slice rfl (by rw [sl33]; rfl) rfl) ?_
  refine JL.go trivial (RX.ne rfl rfl) ?_
  refine JL.nil ?_
  refine J.cond_d rfl (fun hl => ?_) (fun hl => ?_)
  · skip
    refine J.seq ?_
    refine J.region ?_
    refine JL.go trivial (RX.assign) ?_
    refine JL.nil ?_
    refine J.ret1 (v := Value.bool _) Tryz.func14 rfl rfl ?_
    exact ⟨_, rfl, by rw [decide_eq_false]; rintro rfl; exact hl rfl, H⟩
  · skip
    have hl2 : a.length = b.length := by omega
    refine J.skip ?_
    refine J.seq ?_
    refine J.seq ?_
    refine J.region ?_
    refine JL.go trivial (RX.movev (v := Value.slice _ _ _) rfl) ?_
    refine JL.go trivial (RX.len_slice rfl (by rw [sl33]; rfl) rfl) ?_
    refine JL.go trivial (RX.move) ?_
    refine JL.nil ?_
    refine J.block ?_
    refine J.loop (ι := Nat) (S := fun i => [(13, .int .i64 ((i : Nat) : Int))]) (Φ := fun i w => i ≤ a.length ∧ a.take i = b.take i ∧ Hp w0 w F) (μ := fun i => a.length - i) (C := [(0, _), (1, _), (12, _)]) 0 ⟨rfl, rfl, rfl, trivial⟩ ⟨rfl, trivial⟩ ?_ ?_
    · exact ⟨by omega, by simp, H⟩
    clear H
    rintro i ρ w ⟨hi, ht, H⟩ IH
    refine J.seq ?_
    refine J.region ?_
    refine JL.go trivial (RX.lt rfl rfl) ?_
    refine JL.nil ?_
    refine J.seq ?_
    refine J.cond_d rfl (fun hlt => ?_) (fun hlt => ?_)
    · skip
      obtain ⟨x, hx⟩ : ∃ x, a[i]? = some x := ⟨_, List.getElem?_eq_getElem (by omega)⟩
      obtain ⟨y, hy⟩ : ∃ y, b[i]? = some y := ⟨_, List.getElem?_eq_getElem (by omega)⟩
      obtain ⟨q1, o1, rfl, hp1⟩ := ha.some (by rw [u64sV_len]; omega)
      obtain ⟨q2, o2, rfl, hp2⟩ := hb.some (by rw [u64sV_len]; omega)
      refine J.skip ?_
      refine J.seq ?_
      refine J.block ?_
      refine J.seq ?_
      refine J.region ?_
      refine JL.go trivial (RX.movev (v := Value.int _ _) rfl) ?_
      refine JL.go trivial (RX.assignv (v := Value.int _ _) rfl) ?_
      refine JL.nil ?_
      refine J.seq ?_
      refine J.quietH H hmix (by kernel_rfl) ?_
      refine JQ.go trivial (fun w H => RX.movev (v := Value.slice _ _ _) rfl) ?_
      refine JQ.go trivial (fun w H => RX.movev (v := Value.int _ _) rfl) ?_
      refine JQ.go trivial (fun w H => RX.indexAddr rfl rfl sl33 (by omega) (by omega) (o' := o1 + i) (by omega)) ?_
      refine JQ.go trivial (fun w H => RX.loadS H ha rfl (j := i) rfl (v := .int .u64 ((x : Nat) : Int)) (u64sV_get hx) one37) ?_
      refine JQ.go trivial (fun w H => RX.movev (v := Value.slice _ _ _) rfl) ?_
      refine JQ.go trivial (fun w H => RX.movev (v := Value.int _ _) rfl) ?_
      refine JQ.go trivial (fun w H => RX.indexAddr rfl rfl sl33 (by omega) (by omega) (o' := o2 + i) (by omega)) ?_
      refine JQ.go trivial (fun w H => RX.loadS H hb rfl (j := i) rfl (v := .int .u64 ((y : Nat) : Int)) (u64sV_get hy) one37) ?_
      refine JQ.go trivial (fun w H => RX.ne rfl rfl) ?_
      refine JQ.nil fun w H => ?_
      refine J.cond_d rfl (fun hne => ?_) (fun hne => ?_)
      · skip
        refine J.seq ?_
        refine J.region ?_
        refine JL.go trivial (RX.assign) ?_
        refine JL.nil ?_
        refine J.ret1 (v := Value.bool _) Tryz.func14 rfl rfl ?_
        exact ⟨_, rfl, by rw [decide_eq_false]; rintro rfl; rw [hx] at hy; cases hy; exact hne rfl, H⟩
      · skip
        have hxy : x = y := by omega
        subst hxy
        refine J.skip ?_
        refine J.inBlock ?_
        refine J.region ?_
        refine JL.go trivial (RX.add rfl rfl (w_i64 (r := ((i + 1 : Nat) : Int)) (by omega) (by omega) (by omega))) ?_
        refine JL.go trivial (RX.movev (v := Value.int _ _) rfl) ?_
        refine JL.nil ?_
        exact IH (i + 1) _ _ (by omega) ⟨rfl, rfl, rfl, trivial⟩ ⟨rfl, trivial⟩ ⟨by omega, by rw [take_succ_get hx, take_succ_get hy, ht], H⟩
    · skip
      refine J.exit rfl ?_
      refine J.seq ?_
      refine J.region ?_
      refine JL.go trivial (RX.assign) ?_
      refine JL.nil ?_
      refine J.ret1 (v := Value.bool _) Tryz.func14 rfl rfl ?_
      have hie : i = a.length := by omega
      subst hie
      rw [List.take_length, List.take_of_length_le (by omega)] at ht
      exact ⟨_, rfl, by rw [decide_eq_true ht], H⟩
set_option maxHeartbeats 1600000 in
theorem sameI_b {w0 w : World} {F : List Seg} (H : Hp w0 w F) {a b : List Int} {pa pb : Option Addr} {ca cb : Nat} (ha : SlAt F pa (i64sV a)) (hb : SlAt F pb (i64sV b)) (hla : a.length ≤ 9223372036854775807) (hlb : b.length ≤ 9223372036854775807) : Ret Tryz.prog 7 [.slice pa a.length ca, .slice pb b.length cb] w fun v w' => v = .bool (decide (a = b)) ∧ Hp w0 w' F := by
  refine Calls.of_J (n := 26) Tryz.func7 rfl rfl rfl ?_
  refine J.seq ?_
  refine J.region ?_
  refine JL.go trivial (RX.assign) ?_
  refine JL.nil ?_
  refine J.seq ?_
  refine J.seq ?_
  refine J.region ?_
  refine JL.go trivial (RX.movev (v := Value.slice _ _ _) rfl) ?_
  refine JL.go trivial (RX.len_slice rfl (by rw [sl22]; rfl) rfl) ?_
  refine JL.go trivial (RX.movev (v := Value.slice _ _ _) rfl) ?_
  refine JL.go trivial (RX.len_slice rfl (by rw [sl22]; rfl) rfl) ?_
  refine JL.go trivial (RX.ne rfl rfl) ?_
  refine JL.nil ?_
  refine J.cond_d rfl (fun hl => ?_) (fun hl => ?_)
  · skip
    refine J.seq ?_
    refine J.region ?_
    refine JL.go trivial (RX.assign) ?_
    refine JL.nil ?_
    refine J.ret1 (v := Value.bool _) Tryz.func7 rfl rfl ?_
    exact ⟨_, rfl, by rw [decide_eq_false]; rintro rfl; exact hl rfl, H⟩
  · skip
    have hl2 : a.length = b.length := by omega
    refine J.skip ?_
    refine J.seq ?_
    refine J.seq ?_
    refine J.region ?_
    refine JL.go trivial (RX.movev (v := Value.slice _ _ _) rfl) ?_
    refine JL.go trivial (RX.len_slice rfl (by rw [sl22]; rfl) rfl) ?_
    refine JL.go trivial (RX.move) ?_
    refine JL.nil ?_
    refine J.block ?_
    refine J.loop (ι := Nat) (S := fun i => [(13, .int .i64 ((i : Nat) : Int))]) (Φ := fun i w => i ≤ a.length ∧ a.take i = b.take i ∧ Hp w0 w F) (μ := fun i => a.length - i) (C := [(0, _), (1, _), (12, _)]) 0 ⟨rfl, rfl, rfl, trivial⟩ ⟨rfl, trivial⟩ ?_ ?_
    · exact ⟨by omega, by simp, H⟩
    clear H
    rintro i ρ w ⟨hi, ht, H⟩ IH
    refine J.seq ?_
    refine J.region ?_
    refine JL.go trivial (RX.lt rfl rfl) ?_
    refine JL.nil ?_
    refine J.seq ?_
    refine J.cond_d rfl (fun hlt => ?_) (fun hlt => ?_)
    · skip
      obtain ⟨x, hx⟩ : ∃ x, a[i]? = some x := ⟨_, List.getElem?_eq_getElem (by omega)⟩
      obtain ⟨y, hy⟩ : ∃ y, b[i]? = some y := ⟨_, List.getElem?_eq_getElem (by omega)⟩
      obtain ⟨q1, o1, rfl, hp1⟩ := ha.some (by rw [i64sV_len]; omega)
      obtain ⟨q2, o2, rfl, hp2⟩ := hb.some (by rw [i64sV_len]; omega)
      refine J.skip ?_
      refine J.seq ?_
      refine J.block ?_
      refine J.seq ?_
      refine J.region ?_
      refine JL.go trivial (RX.movev (v := Value.int _ _) rfl) ?_
      refine JL.go trivial (RX.assignv (v := Value.int _ _) rfl) ?_
      refine JL.nil ?_
      refine J.seq ?_
      refine J.quietH H hmix (by kernel_rfl) ?_
      refine JQ.go trivial (fun w H => RX.movev (v := Value.slice _ _ _) rfl) ?_
      refine JQ.go trivial (fun w H => RX.movev (v := Value.int _ _) rfl) ?_
      refine JQ.go trivial (fun w H => RX.indexAddr rfl rfl sl22 (by omega) (by omega) (o' := o1 + i) (by omega)) ?_
      refine JQ.go trivial (fun w H => RX.loadS H ha rfl (j := i) rfl (v := .int .i64 x) (i64sV_get hx) one2) ?_
      refine JQ.go trivial (fun w H => RX.movev (v := Value.slice _ _ _) rfl) ?_
      refine JQ.go trivial (fun w H => RX.movev (v := Value.int _ _) rfl) ?_
      refine JQ.go trivial (fun w H => RX.indexAddr rfl rfl sl22 (by omega) (by omega) (o' := o2 + i) (by omega)) ?_
      refine JQ.go trivial (fun w H => RX.loadS H hb rfl (j := i) rfl (v := .int .i64 y) (i64sV_get hy) one2) ?_
      refine JQ.go trivial (fun w H => RX.ne rfl rfl) ?_
      refine JQ.nil fun w H => ?_
      refine J.cond_d rfl (fun hne => ?_) (fun hne => ?_)
      · skip
        refine J.seq ?_
        refine J.region ?_
        refine JL.go trivial (RX.assign) ?_
        refine JL.nil ?_
        refine J.ret1 (v := Value.bool _) Tryz.func7 rfl rfl ?_
        exact ⟨_, rfl, by rw [decide_eq_false]; rintro rfl; rw [hx] at hy; cases hy; exact hne rfl, H⟩
      · skip
        have hxy : x = y := by omega
        subst hxy
        refine J.skip ?_
        refine J.inBlock ?_
        refine J.region ?_
        refine JL.go trivial (RX.add rfl rfl (w_i64 (r := ((i + 1 : Nat) : Int)) (by omega) (by omega) (by omega))) ?_
        refine JL.go trivial (RX.movev (v := Value.int _ _) rfl) ?_
        refine JL.nil ?_
        exact IH (i + 1) _ _ (by omega) ⟨rfl, rfl, rfl, trivial⟩ ⟨rfl, trivial⟩ ⟨by omega, by rw [take_succ_get hx, take_succ_get hy, ht], H⟩
    · skip
      refine J.exit rfl ?_
      refine J.seq ?_
      refine J.region ?_
      refine JL.go trivial (RX.assign) ?_
      refine JL.nil ?_
      refine J.ret1 (v := Value.bool _) Tryz.func7 rfl rfl ?_
      have hie : i = a.length := by omega
      subst hie
      rw [List.take_length, List.take_of_length_le (by omega)] at ht
      exact ⟨_, rfl, by rw [decide_eq_true ht], H⟩
end Go.Proofs.YtfpphoapknecfaaGreatDoorBesafter

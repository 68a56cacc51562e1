/- The law ExactRules: what it asks is so. -/
import Derived.Test.YtfpphoapknecfaaGreatDoorBesafterBz
import Derived.Test.YtfpphoapknecfaaGreatDoorBesafterLv
namespace Go.Proofs.YtfpphoapknecfaaGreatDoorBesafter
open Go Go.Eng
set_option maxRecDepth 100000
set_option linter.unusedVariables false
set_option linter.unusedSimpArgs false
theorem cl4 : callable Tryz.prog 4 = true := by kernel_rfl
theorem cl6 : callable Tryz.prog 6 = true := by kernel_rfl
theorem cl8 : callable Tryz.prog 8 = true := by kernel_rfl
namespace Nn

section
variable {P : Program} {w w0 : World} {L : List Seg} {ρ : Operand → Value} {d : Option Tmp} {x y : Operand} {ty : TypeId} {pos : String} {af : Array Edge} {g : Option (Nat × Bool)}
theorem RX.min2i {k : IntKind} {a b r : Int} {ats : Array TypeId} (hx : ρ x = .int k a) (hy : ρ y = .int k b) (hr : (if b < a then b else a) = r) :
    Runs Tryz.prog ρ ⟨d, .call { callee := .builtin .min, args := #[x, y], argTypes := ats }, ty, pos, af, g⟩ w (.int k r) := by
  subst hr
  unfold Runs
  simp [execOp, hx, hy, resolve, invoke, builtin, Builtin.min_, Builtin.min2]
theorem RX.slice_h2 {t e : TypeId} {p : Option Addr} {n cap sz : Nat} {k : IntKind} {h : Int} {r : Nat} (hx : ρ x = .slice p n cap) (hy : ρ y = .int k h) (ht : sliceOf P t = some (e, sz)) (hp : ∀ a, p = some a → a.spot = none ∨ cap = 0)
    (h0 : 0 ≤ h) (h1 : h ≤ cap) (hr : h.toNat = r) : Runs P ρ ⟨d, .slice t x none (some y) none, ty, pos, af, g⟩ w (.slice p r cap) := by
  obtain ⟨hu, he, hs⟩ := slice_elem (w := w) ht
  subst hr
  have hb : behind p cap 0 sz = p := by
    unfold behind
    cases p with
    | none => rfl
    | some a => simp
  unfold Runs
  simp [execOp, hx, hy, run_sliceAt_slice w t _ _ _ _ hu, run_slice_h w t p n cap hu k h h0 h1, he, hs, sliced_plain2 hp, hb]
end
theorem min_nat (a b : Nat) : (if ((b : Nat) : Int) < ((a : Nat) : Int) then ((b : Nat) : Int) else ((a : Nat) : Int)) = ((min a b : Nat) : Int) := by
  split <;> omega
theorem elJ2 : Elem Tryz.prog 22 2 1 8 := Elem.of (by kernel_rfl)
theorem i64s_cell2 (l : List Int) : ∀ v ∈ i64sV l, isCell v = true := by
  intro v hv
  obtain ⟨z, _, rfl⟩ := List.mem_map.1 hv
  rfl
theorem i64sV_app2 (a b : List Int) : i64sV (a ++ b) = i64sV a ++ i64sV b := by simp [i64sV]
theorem i64sV_take2 {l : List Int} {n : Nat} : i64sV (l.take n) = (i64sV l).take n := by simp [i64sV, List.map_take]
theorem slI_take {L : List Seg} {p : Option Addr} {l : List Int} {n : Nat} (h : SlAt L p (i64sV l)) : SlAt L p (i64sV (l.take n)) := by
  rw [i64sV_take2]; exact h.take
theorem i64all_take {l : List Int} {n : Nat} (h : i64all l) : i64all (l.take n) := fun x hx => h x (List.mem_of_mem_take hx)
/-- A sum in the ring of int64. -/
theorem wrap_add {x y : Int} (hx : i64in x) (hy : i64in y) : ∃ s, IntKind.i64.wrap (x + y) = s ∧ (i64in (x + y) ∧ s = x + y ∨ 9223372036854775807 < x + y ∧ s = x + y - 18446744073709551616 ∨ x + y < -9223372036854775808 ∧ s = x + y + 18446744073709551616) := by
  refine ⟨_, rfl, ?_⟩
  unfold i64in at *
  simp only [IntKind.wrap, IntKind.bits, IntKind.signed]
  simp
  split <;> omega

theorem i64all_linV {a b : List Int} : i64all (linV a b) := by
  intro x hx
  unfold linV at hx
  split at hx
  · next h => exact (linE_zero h).2.2.1 x hx
  · cases hx
theorem i64all_plusV {a b : List Int} : i64all (plusV a b) := by
  intro x hx
  unfold plusV at hx
  split at hx
  · next h => exact h x hx
  · cases hx
theorem plusV_le (a b : List Int) : (plusV a b).length ≤ a.length := by
  unfold plusV; split
  · rw [zadd_len]; omega
  · simp
theorem rules_both {a b c : List Int} (hc : c.length = b.length) (ha : 0 < a.length) (hb : 0 < b.length) (k1 : linE a b = 0) (k2 : linE a c = 0) (k3 : i64all (zadd b c)) : linV a (plusV b c) = plusV (linV a b) (linV a c) ∧ (linE a (plusV b c) = 0 ↔ i64all (zadd (linV a b) (linV a c))) := by
  rw [(linE_zero k1).2.2.2, (linE_zero k2).2.2.2, show plusV b c = zadd b c from if_pos k3]
  exact lin_both hc ha hb
theorem err_nil {F : List Seg} {E : Nat → Value} {Q : Nat → Addr} (h : Errs F E Q) {n : Nat} (hn : n ≤ 19) : (isNil (errV E n) = true → n = 0) ∧ (isNil (errV E n) = false → n ≠ 0) := by
  rw [(errV_ie h hn).2]
  exact ⟨fun k => of_decide_eq_true k, fun k => of_decide_eq_false k⟩
theorem zadd_bad {a b : List Int} {i : Nat} {x y : Int} (hx : a[i]? = some x) (hy : b[i]? = some y) (h : ¬ i64in (x + y)) : ¬ i64all (zadd a b) := fun k => h (k _ (List.mem_of_getElem? (show (zadd a b)[i]? = some (x + y) by rw [zadd_get (getE_lt hx), hx, hy]; rfl)))
theorem take_succ2 {l : List Int} {i : Nat} {x : Int} (h : l[i]? = some x) : l.take (i + 1) = l.take i ++ [x] := take_succ_get h

set_option maxHeartbeats 1600000 in
theorem plus_b {w0 w : World} {F : List Seg} (H : Hp w0 w F) {a b : List Int} {pa pb : Option Addr} {ca cb : Nat} (ha : SlAt F pa (i64sV a)) (hb : SlAt F pb (i64sV b)) (has : i64all a) (hbs : i64all b) (hl : b.length = a.length) (hle : a.length ≤ 1024) : Ret Tryz.prog 8 [.slice pa a.length ca, .slice pb b.length cb] w fun v w' => ∃ q c sl, v = .tuple #[.slice q (plusV a b).length c, .bool (decide (i64all (zadd a b)))] ∧ OwnSl 2 1 q (plusV a b).length c (i64sV (plusV a b)) sl ∧ Hp w0 w' (sl :: F) := by
  refine Calls.of_J (n := 58) Tryz.func8 rfl rfl rfl ?_
  refine J.seq ?_
  refine J.region ?_
  refine JL.go trivial (RX.assign) ?_
  refine JL.go trivial (RX.assign) ?_
  refine JL.nil ?_
  refine J.seq ?_
  refine J.region ?_
  refine JL.does trivial (EX.buildSlice0 H elJ2) ?_
  rintro _ w ⟨b0, rfl, H⟩
  refine JL.go trivial (RX.assignv (v := Value.slice _ _ _) rfl) ?_
  refine JL.nil ?_
  refine J.seq ?_
  refine J.seq ?_
  refine J.region ?_
  refine JL.go trivial (RX.movev (v := Value.slice _ _ _) rfl) ?_
  refine JL.go trivial (RX.len_slice rfl (by rw [sl22]; rfl) rfl) ?_
  refine JL.go trivial (RX.move) ?_
  refine JL.nil ?_
  refine J.block ?_
  refine J.loop (ι := Nat × Option Addr × Nat × Seg) (S := fun z => [(13, .int .i64 ((z.1 : Nat) : Int)), (6, .slice z.2.1 z.1 z.2.2.1)]) (Φ := fun z w => z.1 ≤ a.length ∧ OwnSl 2 1 z.2.1 z.1 z.2.2.1 (i64sV ((zadd a b).take z.1)) z.2.2.2 ∧ (∀ k x, k < z.1 → (zadd a b)[k]? = some x → i64in x) ∧ Hp w0 w (z.2.2.2 :: F)) (μ := fun z => a.length - z.1) (C := [(1, _), (11, _), (12, _)]) (0, some ⟨b0, 0, none⟩, 0, [(b0, cel [] 2)]) ⟨rfl, rfl, rfl, trivial⟩ ⟨rfl, rfl, trivial⟩ ?_ ?_
  · exact ⟨by simp, OwnSl.empty, fun k x hk => absurd hk (Nat.not_lt_zero _), H⟩
  clear H
  rintro ⟨i, q, c, sl⟩ ρ w ⟨hi, ho, hin, H⟩ IH
  simp only at hi ho hin H
  dsimp only
  refine J.seq ?_
  refine J.region ?_
  refine JL.go trivial (RX.lt rfl rfl) ?_
  refine JL.nil ?_
  refine J.seq ?_
  refine J.cond_d rfl (fun hlt => ?_) (fun hlt => ?_)
  · skip
    obtain ⟨x, hx⟩ : ∃ x, a[i]? = some x := ⟨_, List.getElem?_eq_getElem (by omega)⟩
    obtain ⟨y, hy⟩ : ∃ y, b[i]? = some y := ⟨_, List.getElem?_eq_getElem (by omega)⟩
    obtain ⟨pb1, po1, rfl, hp1⟩ := ha.some (by rw [i64sV_len]; omega)
    obtain ⟨pb2, po2, rfl, hp2⟩ := hb.some (by rw [i64sV_len]; omega)
    have hzi : (zadd a b)[i]? = some (x + y) := by rw [zadd_get (getE_lt hx), hx, hy]; rfl
    obtain ⟨s, hs, hcase⟩ := wrap_add (has x (List.mem_of_getElem? hx)) (hbs y (List.mem_of_getElem? hy))
    have hxb := has x (List.mem_of_getElem? hx)
    have hyb := hbs y (List.mem_of_getElem? hy)
    unfold i64in at hcase hxb hyb
    have hle9 := ho.le
    refine J.skip ?_
    refine J.seq ?_
    refine J.block ?_
    refine J.seq ?_
    refine J.region ?_
    refine JL.go trivial (RX.movev (v := Value.int _ _) rfl) ?_
    refine JL.go trivial (RX.indexAddr rfl rfl sl22 (by omega) (by omega) (o' := po1 + i) (by omega)) ?_
    refine JL.go trivial (RX.loadS H ha.cons rfl (j := i) rfl (v := .int .i64 x) (i64sV_get hx) one2) ?_
    refine JL.go trivial (RX.assignv (v := Value.int _ _) rfl) ?_
    refine JL.go trivial (RX.assignv (v := Value.int _ _) rfl) ?_
    refine JL.nil ?_
    refine J.seq ?_
    refine J.region ?_
    refine JL.go trivial (RX.movev (v := Value.int _ _) rfl) ?_
    refine JL.go trivial (RX.movev (v := Value.slice _ _ _) rfl) ?_
    refine JL.go trivial (RX.movev (v := Value.int _ _) rfl) ?_
    refine JL.go trivial (RX.indexAddr rfl rfl sl22 (by omega) (by omega) (o' := po2 + i) (by omega)) ?_
    refine JL.go trivial (RX.loadS H hb.cons rfl (j := i) rfl (v := .int .i64 y) (i64sV_get hy) one2) ?_
    refine JL.go trivial (RX.add rfl rfl hs) ?_
    refine JL.go trivial (RX.assignv (v := Value.int _ _) rfl) ?_
    refine JL.nil ?_
    refine J.seq ?_
    refine J.seq ?_
    refine J.region ?_
    refine JL.go trivial (RX.movev (v := Value.int _ _) rfl) ?_
    refine JL.go trivial (RX.ge rfl rfl) ?_
    refine JL.go trivial (RX.movev (v := Value.bool _) rfl) ?_
    refine JL.splitS 26 rfl (fun hA => ?_) (fun hA => ?_)
    · skip
      first | have hAp := of_decide_eq_true hA | skip
      refine JL.go ⟨_, rfl, hA⟩ (RX.movev (v := Value.slice _ _ _) rfl) ?_
      refine JL.go ⟨_, rfl, hA⟩ (RX.movev (v := Value.int _ _) rfl) ?_
      refine JL.go ⟨_, rfl, hA⟩ (RX.indexAddr rfl rfl sl22 (by omega) (by omega) (o' := po2 + i) (by omega)) ?_
      refine JL.go ⟨_, rfl, hA⟩ (RX.loadS H hb.cons rfl (j := i) rfl (v := .int .i64 y) (i64sV_get hy) one2) ?_
      refine JL.go ⟨_, rfl, hA⟩ (RX.ge rfl rfl) ?_
      refine JL.go trivial (RX.pick_t rfl hA) ?_
      refine JL.go trivial (RX.movev (v := Value.bool _) rfl) ?_
      refine JL.splitS 33 rfl (fun hB => ?_) (fun hB => ?_)
      · skip
        first | have hBp := of_decide_eq_true hB | skip
        refine JL.go ⟨_, rfl, hB⟩ (RX.movev (v := Value.int _ _) rfl) ?_
        refine JL.go ⟨_, rfl, hB⟩ (RX.lt rfl rfl) ?_
        refine JL.go trivial (RX.pick_t rfl hB) ?_
        refine JL.go trivial (RX.movev (v := Value.bool _) rfl) ?_
        refine JL.splitS 37 rfl (fun hC => ?_) (fun hC => ?_)
        · skip
          first | have hCp := of_decide_eq_true hC | skip
          refine JL.no ⟨_, rfl, gno hC⟩ ?_
          refine JL.no ⟨_, rfl, gno hC⟩ ?_
          refine JL.no ⟨_, rfl, gno hC⟩ ?_
          refine JL.no ⟨_, rfl, nofun⟩ ?_
          refine JL.no ⟨_, rfl, nofun⟩ ?_
          refine JL.no ⟨_, rfl, nofun⟩ ?_
          refine JL.no ⟨_, rfl, nofun⟩ ?_
          refine JL.no ⟨_, rfl, nofun⟩ ?_
          refine JL.no ⟨_, rfl, gno hC⟩ ?_
          refine JL.no ⟨_, rfl, gno hC⟩ ?_
          refine JL.no ⟨_, rfl, nofun⟩ ?_
          refine JL.no ⟨_, rfl, nofun⟩ ?_
          refine JL.no ⟨_, rfl, gno hC⟩ ?_
          refine JL.go trivial (RX.pick_t rfl hC) ?_
          refine JL.nil ?_
          refine J.cond_t rfl rfl ?_
          refine J.seq ?_
          refine J.region ?_
          refine JL.go trivial (RX.assign) ?_
          refine JL.go trivial (RX.assign) ?_
          refine JL.nil ?_
          refine J.ret2 (v := Value.slice _ _ _) (x := Value.bool _) Tryz.func8 rfl rfl rfl ?_
          have hbad : ¬ i64in (x + y) := by unfold i64in; omega
          have hno := zadd_bad hx hy hbad
          have e2 : plusV a b = [] := if_neg hno
          rw [e2, decide_eq_false hno]
          exact ⟨_, rfl, none, 0, [], rfl, OwnSl.nil, H.drop.nil⟩
        · skip
          first | have hCp := of_decide_eq_false hC | skip
          refine JL.go ⟨_, rfl, hC⟩ (RX.movev (v := Value.int _ _) rfl) ?_
          refine JL.go ⟨_, rfl, hC⟩ (RX.lt rfl rfl) ?_
          refine JL.go ⟨_, rfl, hC⟩ (RX.movev (v := Value.bool _) rfl) ?_
          refine JL.splitS 40 rfl (fun hD => ?_) (fun hD => ?_)
          · skip
            first | have hDp := of_decide_eq_true hD | skip
            exfalso
            omega
          · skip
            first | have hDp := of_decide_eq_false hD | skip
            refine JL.no ⟨_, rfl, gno hD⟩ ?_
            refine JL.no ⟨_, rfl, gno hD⟩ ?_
            refine JL.no ⟨_, rfl, gno hD⟩ ?_
            refine JL.no ⟨_, rfl, gno hD⟩ ?_
            refine JL.no ⟨_, rfl, gno hD⟩ ?_
            refine JL.go ⟨_, rfl, hC⟩ (RX.pick_f rfl hD) ?_
            refine JL.go ⟨_, rfl, hC⟩ (RX.movev (v := Value.bool _) rfl) ?_
            refine JL.no ⟨_, rfl, gno rfl⟩ ?_
            refine JL.no ⟨_, rfl, gno rfl⟩ ?_
            refine JL.go ⟨_, rfl, hC⟩ (RX.pick_f rfl rfl) ?_
            refine JL.go trivial (RX.pick_f rfl hC) ?_
            refine JL.nil ?_
            refine J.cond_f rfl rfl ?_
            refine J.skip ?_
            refine J.region ?_
            refine JL.go trivial (RX.movev (v := Value.slice _ _ _) rfl) ?_
            refine JL.go trivial (RX.movev (v := Value.int _ _) rfl) ?_
            refine JL.does trivial (EX.buildSlice1 (v := .int .i64 s) H elJ2 rfl rfl) ?_
            rintro _ w ⟨bz, rfl, H⟩
            refine JL.does trivial (EX.append (ys := [.int .i64 s]) (L' := fun s' => [(bz, cel [.int .i64 s] 2)] :: s' :: F) H elJ2 rfl rfl (i := 1) rfl ho (SlAt.here rfl) rfl (i64s_cell2 [s]) (by decide) (by omega) (by omega) (fun _ => rfl)) ?_
            rintro _ w ⟨q2, c2, s2, rfl, ho2, H⟩
            replace H := H.drop
            refine JL.go trivial (RX.assignv (v := Value.slice _ _ _) rfl) ?_
            refine JL.nil ?_
            refine J.inBlock ?_
            refine J.region ?_
            refine JL.go trivial (RX.add rfl rfl (wi (n := i + 1) (by omega) (by omega))) ?_
            refine JL.go trivial (RX.movev (v := Value.int _ _) rfl) ?_
            refine JL.nil ?_
            have hxy : s = x + y := by omega
            rw [hxy] at ho2
            have hok : i64in (x + y) := by unfold i64in; omega
            replace ho2 : OwnSl 2 1 q2 (i + 1) c2 (i64sV ((zadd a b).take (i + 1))) s2 := by rw [take_succ2 hzi, i64sV_app2]; exact ho2
            refine IH (i + 1, q2, c2, s2) _ _ (by simp only; omega) ⟨rfl, rfl, rfl, trivial⟩ ⟨rfl, rfl, trivial⟩ ⟨by simp only; omega, ho2, fun k x' hk hx' => ?_, H⟩
            by_cases e : k = i
            · subst e; rw [hzi] at hx'; cases hx'; exact hok
            · exact hin k x' (by simp only at hk; omega) hx'
      · skip
        first | have hBp := of_decide_eq_false hB | skip
        refine JL.no ⟨_, rfl, gno hB⟩ ?_
        refine JL.no ⟨_, rfl, gno hB⟩ ?_
        refine JL.go trivial (RX.pick_f rfl hB) ?_
        refine JL.go trivial (RX.movev (v := Value.bool _) rfl) ?_
        refine JL.go ⟨_, rfl, rfl⟩ (RX.movev (v := Value.int _ _) rfl) ?_
        refine JL.go ⟨_, rfl, rfl⟩ (RX.lt rfl rfl) ?_
        refine JL.go ⟨_, rfl, rfl⟩ (RX.movev (v := Value.bool _) rfl) ?_
        refine JL.splitS 40 rfl (fun hD => ?_) (fun hD => ?_)
        · skip
          first | have hDp := of_decide_eq_true hD | skip
          exfalso
          omega
        · skip
          first | have hDp := of_decide_eq_false hD | skip
          refine JL.no ⟨_, rfl, gno hD⟩ ?_
          refine JL.no ⟨_, rfl, gno hD⟩ ?_
          refine JL.no ⟨_, rfl, gno hD⟩ ?_
          refine JL.no ⟨_, rfl, gno hD⟩ ?_
          refine JL.no ⟨_, rfl, gno hD⟩ ?_
          refine JL.go ⟨_, rfl, rfl⟩ (RX.pick_f rfl hD) ?_
          refine JL.go ⟨_, rfl, rfl⟩ (RX.movev (v := Value.bool _) rfl) ?_
          refine JL.no ⟨_, rfl, gno rfl⟩ ?_
          refine JL.no ⟨_, rfl, gno rfl⟩ ?_
          refine JL.go ⟨_, rfl, rfl⟩ (RX.pick_f rfl rfl) ?_
          refine JL.go trivial (RX.pick_f rfl rfl) ?_
          refine JL.nil ?_
          refine J.cond_f rfl rfl ?_
          refine J.skip ?_
          refine J.region ?_
          refine JL.go trivial (RX.movev (v := Value.slice _ _ _) rfl) ?_
          refine JL.go trivial (RX.movev (v := Value.int _ _) rfl) ?_
          refine JL.does trivial (EX.buildSlice1 (v := .int .i64 s) H elJ2 rfl rfl) ?_
          rintro _ w ⟨bz, rfl, H⟩
          refine JL.does trivial (EX.append (ys := [.int .i64 s]) (L' := fun s' => [(bz, cel [.int .i64 s] 2)] :: s' :: F) H elJ2 rfl rfl (i := 1) rfl ho (SlAt.here rfl) rfl (i64s_cell2 [s]) (by decide) (by omega) (by omega) (fun _ => rfl)) ?_
          rintro _ w ⟨q2, c2, s2, rfl, ho2, H⟩
          replace H := H.drop
          refine JL.go trivial (RX.assignv (v := Value.slice _ _ _) rfl) ?_
          refine JL.nil ?_
          refine J.inBlock ?_
          refine J.region ?_
          refine JL.go trivial (RX.add rfl rfl (wi (n := i + 1) (by omega) (by omega))) ?_
          refine JL.go trivial (RX.movev (v := Value.int _ _) rfl) ?_
          refine JL.nil ?_
          have hxy : s = x + y := by omega
          rw [hxy] at ho2
          have hok : i64in (x + y) := by unfold i64in; omega
          replace ho2 : OwnSl 2 1 q2 (i + 1) c2 (i64sV ((zadd a b).take (i + 1))) s2 := by rw [take_succ2 hzi, i64sV_app2]; exact ho2
          refine IH (i + 1, q2, c2, s2) _ _ (by simp only; omega) ⟨rfl, rfl, rfl, trivial⟩ ⟨rfl, rfl, trivial⟩ ⟨by simp only; omega, ho2, fun k x' hk hx' => ?_, H⟩
          by_cases e : k = i
          · subst e; rw [hzi] at hx'; cases hx'; exact hok
          · exact hin k x' (by simp only at hk; omega) hx'
    · skip
      first | have hAp := of_decide_eq_false hA | skip
      refine JL.no ⟨_, rfl, gno hA⟩ ?_
      refine JL.no ⟨_, rfl, gno hA⟩ ?_
      refine JL.no ⟨_, rfl, gno hA⟩ ?_
      refine JL.no ⟨_, rfl, gno hA⟩ ?_
      refine JL.no ⟨_, rfl, gno hA⟩ ?_
      refine JL.go trivial (RX.pick_f rfl hA) ?_
      refine JL.go trivial (RX.movev (v := Value.bool _) rfl) ?_
      refine JL.no ⟨_, rfl, gno rfl⟩ ?_
      refine JL.no ⟨_, rfl, gno rfl⟩ ?_
      refine JL.go trivial (RX.pick_f rfl rfl) ?_
      refine JL.go trivial (RX.movev (v := Value.bool _) rfl) ?_
      refine JL.go ⟨_, rfl, rfl⟩ (RX.movev (v := Value.int _ _) rfl) ?_
      refine JL.go ⟨_, rfl, rfl⟩ (RX.lt rfl rfl) ?_
      refine JL.go ⟨_, rfl, rfl⟩ (RX.movev (v := Value.bool _) rfl) ?_
      refine JL.splitS 40 rfl (fun hD => ?_) (fun hD => ?_)
      · skip
        first | have hDp := of_decide_eq_true hD | skip
        refine JL.go ⟨_, rfl, hD⟩ (RX.movev (v := Value.slice _ _ _) rfl) ?_
        refine JL.go ⟨_, rfl, hD⟩ (RX.movev (v := Value.int _ _) rfl) ?_
        refine JL.go ⟨_, rfl, hD⟩ (RX.indexAddr rfl rfl sl22 (by omega) (by omega) (o' := po2 + i) (by omega)) ?_
        refine JL.go ⟨_, rfl, hD⟩ (RX.loadS H hb.cons rfl (j := i) rfl (v := .int .i64 y) (i64sV_get hy) one2) ?_
        refine JL.go ⟨_, rfl, hD⟩ (RX.lt rfl rfl) ?_
        refine JL.go ⟨_, rfl, rfl⟩ (RX.pick_t rfl hD) ?_
        refine JL.go ⟨_, rfl, rfl⟩ (RX.movev (v := Value.bool _) rfl) ?_
        refine JL.splitS 47 rfl (fun hG => ?_) (fun hG => ?_)
        · skip
          first | have hGp := of_decide_eq_true hG | skip
          refine JL.go ⟨_, rfl, hG⟩ (RX.movev (v := Value.int _ _) rfl) ?_
          refine JL.go ⟨_, rfl, hG⟩ (RX.ge rfl rfl) ?_
          refine JL.go ⟨_, rfl, rfl⟩ (RX.pick_t rfl hG) ?_
          refine JL.go trivial (RX.pick_f rfl rfl) ?_
          refine JL.nil ?_
          refine J.cond_d rfl (fun hS => ?_) (fun hS => ?_)
          · skip
            refine J.seq ?_
            refine J.region ?_
            refine JL.go trivial (RX.assign) ?_
            refine JL.go trivial (RX.assign) ?_
            refine JL.nil ?_
            refine J.ret2 (v := Value.slice _ _ _) (x := Value.bool _) Tryz.func8 rfl rfl rfl ?_
            have hbad : ¬ i64in (x + y) := by unfold i64in; omega
            have hno := zadd_bad hx hy hbad
            have e2 : plusV a b = [] := if_neg hno
            rw [e2, decide_eq_false hno]
            exact ⟨_, rfl, none, 0, [], rfl, OwnSl.nil, H.drop.nil⟩
          · skip
            refine J.skip ?_
            refine J.region ?_
            refine JL.go trivial (RX.movev (v := Value.slice _ _ _) rfl) ?_
            refine JL.go trivial (RX.movev (v := Value.int _ _) rfl) ?_
            refine JL.does trivial (EX.buildSlice1 (v := .int .i64 s) H elJ2 rfl rfl) ?_
            rintro _ w ⟨bz, rfl, H⟩
            refine JL.does trivial (EX.append (ys := [.int .i64 s]) (L' := fun s' => [(bz, cel [.int .i64 s] 2)] :: s' :: F) H elJ2 rfl rfl (i := 1) rfl ho (SlAt.here rfl) rfl (i64s_cell2 [s]) (by decide) (by omega) (by omega) (fun _ => rfl)) ?_
            rintro _ w ⟨q2, c2, s2, rfl, ho2, H⟩
            replace H := H.drop
            refine JL.go trivial (RX.assignv (v := Value.slice _ _ _) rfl) ?_
            refine JL.nil ?_
            refine J.inBlock ?_
            refine J.region ?_
            refine JL.go trivial (RX.add rfl rfl (wi (n := i + 1) (by omega) (by omega))) ?_
            refine JL.go trivial (RX.movev (v := Value.int _ _) rfl) ?_
            refine JL.nil ?_
            have hxy : s = x + y := by omega
            rw [hxy] at ho2
            have hok : i64in (x + y) := by unfold i64in; omega
            replace ho2 : OwnSl 2 1 q2 (i + 1) c2 (i64sV ((zadd a b).take (i + 1))) s2 := by rw [take_succ2 hzi, i64sV_app2]; exact ho2
            refine IH (i + 1, q2, c2, s2) _ _ (by simp only; omega) ⟨rfl, rfl, rfl, trivial⟩ ⟨rfl, rfl, trivial⟩ ⟨by simp only; omega, ho2, fun k x' hk hx' => ?_, H⟩
            by_cases e : k = i
            · subst e; rw [hzi] at hx'; cases hx'; exact hok
            · exact hin k x' (by simp only at hk; omega) hx'
        · skip
          first | have hGp := of_decide_eq_false hG | skip
          refine JL.no ⟨_, rfl, gno hG⟩ ?_
          refine JL.no ⟨_, rfl, gno hG⟩ ?_
          refine JL.go ⟨_, rfl, rfl⟩ (RX.pick_f rfl hG) ?_
          refine JL.go trivial (RX.pick_f rfl rfl) ?_
          refine JL.nil ?_
          refine J.cond_f rfl rfl ?_
          refine J.skip ?_
          refine J.region ?_
          refine JL.go trivial (RX.movev (v := Value.slice _ _ _) rfl) ?_
          refine JL.go trivial (RX.movev (v := Value.int _ _) rfl) ?_
          refine JL.does trivial (EX.buildSlice1 (v := .int .i64 s) H elJ2 rfl rfl) ?_
          rintro _ w ⟨bz, rfl, H⟩
          refine JL.does trivial (EX.append (ys := [.int .i64 s]) (L' := fun s' => [(bz, cel [.int .i64 s] 2)] :: s' :: F) H elJ2 rfl rfl (i := 1) rfl ho (SlAt.here rfl) rfl (i64s_cell2 [s]) (by decide) (by omega) (by omega) (fun _ => rfl)) ?_
          rintro _ w ⟨q2, c2, s2, rfl, ho2, H⟩
          replace H := H.drop
          refine JL.go trivial (RX.assignv (v := Value.slice _ _ _) rfl) ?_
          refine JL.nil ?_
          refine J.inBlock ?_
          refine J.region ?_
          refine JL.go trivial (RX.add rfl rfl (wi (n := i + 1) (by omega) (by omega))) ?_
          refine JL.go trivial (RX.movev (v := Value.int _ _) rfl) ?_
          refine JL.nil ?_
          have hxy : s = x + y := by omega
          rw [hxy] at ho2
          have hok : i64in (x + y) := by unfold i64in; omega
          replace ho2 : OwnSl 2 1 q2 (i + 1) c2 (i64sV ((zadd a b).take (i + 1))) s2 := by rw [take_succ2 hzi, i64sV_app2]; exact ho2
          refine IH (i + 1, q2, c2, s2) _ _ (by simp only; omega) ⟨rfl, rfl, rfl, trivial⟩ ⟨rfl, rfl, trivial⟩ ⟨by simp only; omega, ho2, fun k x' hk hx' => ?_, H⟩
          by_cases e : k = i
          · subst e; rw [hzi] at hx'; cases hx'; exact hok
          · exact hin k x' (by simp only at hk; omega) hx'
      · skip
        first | have hDp := of_decide_eq_false hD | skip
        exfalso
        omega
  · skip
    obtain rfl : i = a.length := by omega
    have hall : i64all (zadd a b) := fun x hx => by
      obtain ⟨k, hk⟩ := List.mem_iff_getElem?.1 hx
      have := getE_lt hk
      rw [zadd_len] at this
      exact hin k x this hk
    have e2 : plusV a b = zadd a b := if_pos hall
    rw [List.take_of_length_le (by rw [zadd_len]; exact Nat.le_refl _)] at ho
    refine J.exit rfl ?_
    refine J.seq ?_
    refine J.region ?_
    refine JL.go trivial (RX.movev (v := Value.slice _ _ _) rfl) ?_
    refine JL.go trivial (RX.assignv (v := Value.slice _ _ _) rfl) ?_
    refine JL.go trivial (RX.assign) ?_
    refine JL.nil ?_
    refine J.ret2 (v := Value.slice _ _ _) (x := Value.bool _) Tryz.func8 rfl rfl rfl ?_
    rw [e2, decide_eq_true hall, zadd_len]
    exact ⟨_, rfl, q, c, sl, rfl, ho, H⟩
set_option maxHeartbeats 1600000 in
theorem ExactRules_b {w0 w : World} {F : List Seg} {E : Nat → Value} {Q : Nat → Addr} (H : Hp w0 w F) (hE : Errs F E Q) {xs : List Int} {px : Option Addr} {cx : Nat} (hsx : SlAt F px (i64sV xs)) {ys : List Int} {py : Option Addr} {cy : Nat} (hsy : SlAt F py (i64sV ys)) {zs : List Int} {pz : Option Addr} {cz : Nat} (hsz : SlAt F pz (i64sV zs)) (okx : i64all xs) (oky : i64all ys) (okz : i64all zs) (hlx : xs.length ≤ 9223372036854775807) (hly : ys.length ≤ 9223372036854775807) (hlz : zs.length ≤ 9223372036854775807) (hcx : xs.length ≤ cx ∧ ∀ a, px = some a → a.spot = none ∨ cx = 0) (hcy : ys.length ≤ cy ∧ ∀ a, py = some a → a.spot = none ∨ cy = 0) (hcz : zs.length ≤ cz ∧ ∀ a, pz = some a → a.spot = none ∨ cz = 0) : Ret Tryz.prog 3 [.slice px xs.length cx, .slice py ys.length cy, .slice pz zs.length cz] w fun v w' => v = .bool true ∧ Hp w0 w' F := by
  refine Calls.of_J (n := 208) Tryz.func3 rfl rfl rfl ?_
  refine J.seq ?_
  refine J.region ?_
  refine JL.go trivial (RX.assign) ?_
  refine JL.nil ?_
  refine J.seq ?_
  refine J.seq ?_
  refine J.region ?_
  refine JL.does trivial (EX.call rfl cl4 rfl ((lives_b H hE))) ?_
  rintro _ w ⟨rfl, H⟩
  refine JL.go trivial (RX.not rfl) ?_
  refine JL.nil ?_
  refine J.cond_f rfl rfl ?_
  refine J.skip ?_
  refine J.seq ?_
  refine J.seq ?_
  refine J.region ?_
  refine JL.go trivial (RX.movev (v := Value.slice _ _ _) rfl) ?_
  refine JL.go trivial (RX.len_slice rfl (by rw [sl22]; rfl) rfl) ?_
  refine JL.go trivial (RX.eq rfl rfl) ?_
  refine JL.go trivial (RX.movev (v := Value.bool _) rfl) ?_
  refine JL.splitS 30 rfl (fun h1 => ?_) (fun h1 => ?_)
  · skip
    first | have h1p := of_decide_eq_true h1 | skip
    refine JL.no ⟨_, rfl, gno h1⟩ ?_
    refine JL.no ⟨_, rfl, gno h1⟩ ?_
    refine JL.no ⟨_, rfl, gno h1⟩ ?_
    refine JL.go trivial (RX.pick_t rfl h1) ?_
    refine JL.go trivial (RX.movev (v := Value.bool _) rfl) ?_
    refine JL.no ⟨_, rfl, gno rfl⟩ ?_
    refine JL.no ⟨_, rfl, gno rfl⟩ ?_
    refine JL.no ⟨_, rfl, gno rfl⟩ ?_
    refine JL.go trivial (RX.pick_t rfl rfl) ?_
    refine JL.nil ?_
    refine J.cond_t rfl rfl ?_
    refine J.seq ?_
    refine J.region ?_
    refine JL.go trivial (RX.assign) ?_
    refine JL.nil ?_
    refine J.ret1 (v := Value.bool _) Tryz.func3 rfl rfl ?_
    first | exact ⟨_, rfl, rfl, H⟩ | exact ⟨_, rfl, rfl, H.drop⟩ | exact ⟨_, rfl, rfl, H.drop.drop⟩ | exact ⟨_, rfl, rfl, H.drop.drop.drop⟩ | exact ⟨_, rfl, rfl, H.drop.drop.drop.drop⟩ | exact ⟨_, rfl, rfl, H.drop.drop.drop.drop.drop⟩ | exact ⟨_, rfl, rfl, H.drop.drop.drop.drop.drop.drop⟩ | exact ⟨_, rfl, rfl, H.drop.drop.drop.drop.drop.drop.drop⟩ | exact ⟨_, rfl, rfl, H.drop.drop.drop.drop.drop.drop.drop.drop⟩
  · skip
    first | have h1p := of_decide_eq_false h1 | skip
    refine JL.go ⟨_, rfl, h1⟩ (RX.movev (v := Value.slice _ _ _) rfl) ?_
    refine JL.go ⟨_, rfl, h1⟩ (RX.len_slice rfl (by rw [sl22]; rfl) rfl) ?_
    refine JL.go ⟨_, rfl, h1⟩ (RX.gt rfl rfl) ?_
    refine JL.go trivial (RX.pick_f rfl h1) ?_
    refine JL.go trivial (RX.movev (v := Value.bool _) rfl) ?_
    refine JL.splitS 35 rfl (fun h2 => ?_) (fun h2 => ?_)
    · skip
      first | have h2p := of_decide_eq_true h2 | skip
      refine JL.no ⟨_, rfl, gno h2⟩ ?_
      refine JL.no ⟨_, rfl, gno h2⟩ ?_
      refine JL.no ⟨_, rfl, gno h2⟩ ?_
      refine JL.go trivial (RX.pick_t rfl h2) ?_
      refine JL.nil ?_
      refine J.cond_t rfl rfl ?_
      refine J.seq ?_
      refine J.region ?_
      refine JL.go trivial (RX.assign) ?_
      refine JL.nil ?_
      refine J.ret1 (v := Value.bool _) Tryz.func3 rfl rfl ?_
      first | exact ⟨_, rfl, rfl, H⟩ | exact ⟨_, rfl, rfl, H.drop⟩ | exact ⟨_, rfl, rfl, H.drop.drop⟩ | exact ⟨_, rfl, rfl, H.drop.drop.drop⟩ | exact ⟨_, rfl, rfl, H.drop.drop.drop.drop⟩ | exact ⟨_, rfl, rfl, H.drop.drop.drop.drop.drop⟩ | exact ⟨_, rfl, rfl, H.drop.drop.drop.drop.drop.drop⟩ | exact ⟨_, rfl, rfl, H.drop.drop.drop.drop.drop.drop.drop⟩ | exact ⟨_, rfl, rfl, H.drop.drop.drop.drop.drop.drop.drop.drop⟩
    · skip
      first | have h2p := of_decide_eq_false h2 | skip
      refine JL.go ⟨_, rfl, h2⟩ (RX.movev (v := Value.slice _ _ _) rfl) ?_
      refine JL.go ⟨_, rfl, h2⟩ (RX.len_slice rfl (by rw [sl22]; rfl) rfl) ?_
      refine JL.go ⟨_, rfl, h2⟩ (RX.gt rfl rfl) ?_
      refine JL.go trivial (RX.pick_f rfl h2) ?_
      refine JL.nil ?_
      refine J.cond_d rfl (fun h39 => ?_) (fun h39 => ?_)
      · skip
        refine J.seq ?_
        refine J.region ?_
        refine JL.go trivial (RX.assign) ?_
        refine JL.nil ?_
        refine J.ret1 (v := Value.bool _) Tryz.func3 rfl rfl ?_
        first | exact ⟨_, rfl, rfl, H⟩ | exact ⟨_, rfl, rfl, H.drop⟩ | exact ⟨_, rfl, rfl, H.drop.drop⟩ | exact ⟨_, rfl, rfl, H.drop.drop.drop⟩ | exact ⟨_, rfl, rfl, H.drop.drop.drop.drop⟩ | exact ⟨_, rfl, rfl, H.drop.drop.drop.drop.drop⟩ | exact ⟨_, rfl, rfl, H.drop.drop.drop.drop.drop.drop⟩ | exact ⟨_, rfl, rfl, H.drop.drop.drop.drop.drop.drop.drop⟩ | exact ⟨_, rfl, rfl, H.drop.drop.drop.drop.drop.drop.drop.drop⟩
      · skip
        refine J.skip ?_
        refine J.seq ?_
        obtain ⟨B, hBe⟩ : ∃ B, B = ys.take (min ys.length zs.length) := ⟨_, rfl⟩
        obtain ⟨C, hCe⟩ : ∃ C, C = zs.take (min ys.length zs.length) := ⟨_, rfl⟩
        have hBl : B.length = min ys.length zs.length := by rw [hBe, List.length_take]; omega
        have hCl : C.length = B.length := by rw [hCe, hBl, List.length_take]; omega
        have hsB : SlAt F py (i64sV B) := by rw [hBe]; exact slI_take hsy
        have hsC : SlAt F pz (i64sV C) := by rw [hCe]; exact slI_take hsz
        have okB : i64all B := by rw [hBe]; exact i64all_take oky
        have okC : i64all C := by rw [hCe]; exact i64all_take okz
        clear hBe hCe
        have hx1 : 0 < xs.length := by omega
        have hx2 : xs.length ≤ 200 := by omega
        have hy2 : ys.length ≤ 200 := by omega
        have hB2 : B.length ≤ 200 := by omega
        have hcx1 := hcx.1
        have hcy1 := hcy.1
        have hcz1 := hcz.1
        refine J.region ?_
        refine JL.go trivial (RX.movev (v := Value.slice _ _ _) rfl) ?_
        refine JL.go trivial (RX.len_slice rfl (by rw [sl22]; rfl) rfl) ?_
        refine JL.go trivial (RX.movev (v := Value.slice _ _ _) rfl) ?_
        refine JL.go trivial (RX.len_slice rfl (by rw [sl22]; rfl) rfl) ?_
        refine JL.go trivial (RX.min2i rfl rfl (r := ((B.length : Nat) : Int)) (by rw [min_nat, ← hBl])) ?_
        refine JL.go trivial (RX.assignv (v := Value.int _ _) rfl) ?_
        refine JL.nil ?_
        refine J.seq ?_
        refine J.quietH H hmix (by kernel_rfl) ?_
        refine JQ.go trivial (fun w H => RX.movev (v := Value.slice _ _ _) rfl) ?_
        refine JQ.go trivial (fun w H => RX.movev (v := Value.int _ _) rfl) ?_
        refine JQ.go trivial (fun w H => RX.slice_h2 rfl rfl sl22 hcy.2 (by omega) (by omega) (r := B.length) (by omega)) ?_
        refine JQ.go trivial (fun w H => RX.movev (v := Value.slice _ _ _) rfl) ?_
        refine JQ.go trivial (fun w H => RX.movev (v := Value.int _ _) rfl) ?_
        refine JQ.go trivial (fun w H => RX.slice_h2 rfl rfl sl22 hcz.2 (by omega) (by omega) (r := C.length) (by omega)) ?_
        refine JQ.go trivial (fun w H => RX.assignv (v := Value.slice _ _ _) rfl) ?_
        refine JQ.go trivial (fun w H => RX.assignv (v := Value.slice _ _ _) rfl) ?_
        refine JQ.nil fun w H => ?_
        refine J.seq ?_
        refine J.region ?_
        refine JL.go trivial (RX.movev (v := Value.slice _ _ _) rfl) ?_
        refine JL.go trivial (RX.movev (v := Value.slice _ _ _) rfl) ?_
        refine JL.does trivial (EX.call rfl cl5 rfl ((Linear_b (a := xs) (b := B) H hE hsx hsB okx okB (by omega) (by omega)))) ?_
        rintro _ w ⟨q1, c1, s1, rfl, ho1, H⟩
        refine JL.go trivial (RX.movev (v := .tuple _) rfl) ?_
        refine JL.go trivial (RX.extract rfl rfl) ?_
        refine JL.go trivial (RX.extract (v := errV E (linE xs B)) rfl rfl) ?_
        refine JL.go trivial (RX.assignv (v := Value.slice _ _ _) rfl) ?_
        refine JL.go trivial (RX.assignv (v := errV E (linE xs B)) rfl) ?_
        refine JL.nil ?_
        refine J.seq ?_
        refine J.region ?_
        refine JL.go trivial (RX.movev (v := Value.slice _ _ _) rfl) ?_
        refine JL.go trivial (RX.movev (v := Value.slice _ _ _) rfl) ?_
        refine JL.does trivial (EX.call rfl cl5 rfl ((by have h := Linear_b (a := B) (b := xs) (ca := cy) (cb := cx) H hE.cons hsB.cons hsx.cons okB okx (by omega) (by omega); rw [linV_comm B xs, linE_comm B xs] at h; exact h))) ?_
        rintro _ w ⟨q2, c2, s2, rfl, ho2, H⟩
        refine JL.go trivial (RX.movev (v := .tuple _) rfl) ?_
        refine JL.go trivial (RX.extract rfl rfl) ?_
        refine JL.go trivial (RX.extract (v := errV E (linE xs B)) rfl rfl) ?_
        refine JL.go trivial (RX.assignv (v := Value.slice _ _ _) rfl) ?_
        refine JL.go trivial (RX.assignv (v := errV E (linE xs B)) rfl) ?_
        refine JL.nil ?_
        refine J.seq ?_
        refine J.seq ?_
        have hlB := linV_le xs B
        refine J.region ?_
        refine JL.go trivial (RX.movev (v := errV E (linE xs B)) rfl) ?_
        refine JL.does trivial (EX.call rfl cl6 rfl ((Num_b H (hE.cons.cons) (linE_le xs B)))) ?_
        rintro _ w ⟨rfl, H⟩
        refine JL.go trivial (RX.movev (v := errV E (linE xs B)) rfl) ?_
        refine JL.does trivial (EX.call rfl cl6 rfl ((Num_b H (hE.cons.cons) (linE_le xs B)))) ?_
        rintro _ w ⟨rfl, H⟩
        refine JL.go trivial (RX.ne rfl rfl) ?_
        refine JL.go trivial (RX.movev (v := Value.bool _) rfl) ?_
        refine JL.go ⟨_, rfl, (decide_eq_false (fun h => h rfl))⟩ (RX.movev (v := Value.slice _ _ _) rfl) ?_
        refine JL.go ⟨_, rfl, (decide_eq_false (fun h => h rfl))⟩ (RX.movev (v := Value.slice _ _ _) rfl) ?_
        refine JL.does ⟨_, rfl, (decide_eq_false (fun h => h rfl))⟩ (EX.call rfl cl7 rfl ((sameI_b (a := linV xs B) (b := linV xs B) H (SlAt.cons ho1.slAt) ho2.slAt (by omega) (by omega)))) ?_
        rintro _ w ⟨rfl, H⟩
        refine JL.go ⟨_, rfl, (decide_eq_false (fun h => h rfl))⟩ (RX.not rfl) ?_
        refine JL.go trivial (RX.pick_f rfl (decide_eq_false (fun h => h rfl))) ?_
        refine JL.nil ?_
        refine J.cond_f rfl (congrArg not (decide_eq_true rfl)) ?_
        refine J.skip ?_
        refine J.seq ?_
        refine J.seq ?_
        refine J.region ?_
        refine JL.go trivial (RX.movev (v := Value.int _ _) rfl) ?_
        refine JL.go trivial (RX.eq rfl rfl) ?_
        refine JL.nil ?_
        refine J.cond_d rfl (fun hn0 => ?_) (fun hn0 => ?_)
        · skip
          have e7 : linE xs B = 7 := if_pos (.inr (by omega))
          refine J.seq ?_
          refine J.region ?_
          refine JL.go trivial (RX.movev (v := errV E (linE xs B)) rfl) ?_
          refine JL.does trivial (EX.call rfl cl6 rfl ((Num_b H (hE.cons.cons) (linE_le xs B)))) ?_
          rintro _ w ⟨rfl, H⟩
          refine JL.go trivial (RX.eq rfl rfl) ?_
          refine JL.go trivial (RX.assignv (v := Value.bool _) rfl) ?_
          refine JL.nil ?_
          refine J.ret1 (v := Value.bool _) Tryz.func3 rfl rfl ?_
          refine ⟨_, rfl, ?_, H.drop.drop⟩
          rw [decide_eq_true (by rw [e7]; rfl)]
        · skip
          have hB1 : 0 < B.length := by omega
          have hlC := linV_le xs C
          refine J.skip ?_
          refine J.seq ?_
          refine J.region ?_
          refine JL.go trivial (RX.movev (v := Value.slice _ _ _) rfl) ?_
          refine JL.go trivial (RX.movev (v := Value.slice _ _ _) rfl) ?_
          refine JL.does trivial (EX.call rfl cl5 rfl ((Linear_b (a := xs) (b := C) H (hE.cons.cons) (SlAt.cons (SlAt.cons hsx)) (SlAt.cons (SlAt.cons hsC)) okx okC (by omega) (by omega)))) ?_
          rintro _ w ⟨q3, c3, s3, rfl, ho3, H⟩
          refine JL.go trivial (RX.movev (v := .tuple _) rfl) ?_
          refine JL.go trivial (RX.extract rfl rfl) ?_
          refine JL.go trivial (RX.extract (v := errV E (linE xs C)) rfl rfl) ?_
          refine JL.go trivial (RX.assignv (v := Value.slice _ _ _) rfl) ?_
          refine JL.go trivial (RX.assignv (v := errV E (linE xs C)) rfl) ?_
          refine JL.nil ?_
          refine J.seq ?_
          refine J.region ?_
          refine JL.go trivial (RX.movev (v := Value.slice _ _ _) rfl) ?_
          refine JL.go trivial (RX.movev (v := Value.slice _ _ _) rfl) ?_
          refine JL.does trivial (EX.call rfl cl8 rfl ((plus_b (a := B) (b := C) H (SlAt.cons (SlAt.cons (SlAt.cons hsB))) (SlAt.cons (SlAt.cons (SlAt.cons hsC))) okB okC hCl (by omega)))) ?_
          rintro _ w ⟨q4, c4, s4, rfl, ho4, H⟩
          refine JL.go trivial (RX.movev (v := .tuple _) rfl) ?_
          refine JL.go trivial (RX.extract rfl rfl) ?_
          refine JL.go trivial (RX.extract (v := .bool (decide (i64all (zadd B C)))) rfl rfl) ?_
          refine JL.go trivial (RX.assignv (v := Value.slice _ _ _) rfl) ?_
          refine JL.go trivial (RX.assignv (v := .bool (decide (i64all (zadd B C)))) rfl) ?_
          refine JL.nil ?_
          refine J.seq ?_
          refine J.seq ?_
          refine J.join (ι := Bool) (fun q => [(106, .bool q)]) (fun q w => (q = true ↔ linE xs B = 0 ∧ linE xs C = 0 ∧ i64all (zadd B C)) ∧ Hp w0 w (s4 :: s3 :: s2 :: s1 :: F)) [(0, _), (1, _), (7, _), (8, _), (12, _), (14, _)] ⟨rfl, rfl, rfl, rfl, rfl, rfl, trivial⟩ ?_ ?_
          rotate_left
          · skip
            intro k2 hk2
            refine J.region ?_
            refine JL.go trivial (RX.movev (v := errV E (linE xs B)) rfl) ?_
            refine JL.go trivial (RX.ifnil_eql (v := errV E (linE xs B)) rfl rfl (errV_ie hE (linE_le xs B)).1 if25) ?_
            refine JL.go trivial (RX.movev (v := Value.bool _) rfl) ?_
            refine JL.splitS 93 rfl (fun h1 => ?_) (fun h1 => ?_)
            · skip
              first | have h1p := of_decide_eq_true h1 | skip
              have k1 := (err_nil hE (linE_le xs B)).1 h1
              refine JL.go ⟨_, rfl, h1⟩ (RX.movev (v := errV E (linE xs C)) rfl) ?_
              refine JL.go ⟨_, rfl, h1⟩ (RX.ifnil_eql (v := errV E (linE xs C)) rfl rfl (errV_ie hE (linE_le xs C)).1 if25) ?_
              refine JL.go trivial (RX.pick_t rfl h1) ?_
              refine JL.go trivial (RX.movev (v := Value.bool _) rfl) ?_
              refine JL.splitS 97 rfl (fun h2 => ?_) (fun h2 => ?_)
              · skip
                first | have h2p := of_decide_eq_true h2 | skip
                have k2 := (err_nil hE (linE_le xs C)).1 h2
                refine JL.go ⟨_, rfl, h2⟩ (RX.movev (v := Value.bool _) rfl) ?_
                refine JL.go trivial (RX.pick_t rfl h2) ?_
                refine JL.go trivial (RX.movev (v := Value.bool _) rfl) ?_
                refine JL.splitS 100 rfl (fun h3 => ?_) (fun h3 => ?_)
                · skip
                  first | have h3p := of_decide_eq_true h3 | skip
                  have k3 := of_decide_eq_true h3
                  refine JL.go ⟨_, rfl, h3⟩ (RX.movev (v := Value.slice _ _ _) rfl) ?_
                  refine JL.go ⟨_, rfl, h3⟩ (RX.len_slice rfl (by rw [sl22]; rfl) rfl) ?_
                  refine JL.go ⟨_, rfl, h3⟩ (RX.movev (v := Value.slice _ _ _) rfl) ?_
                  refine JL.go ⟨_, rfl, h3⟩ (RX.len_slice rfl (by rw [sl22]; rfl) rfl) ?_
                  refine JL.go ⟨_, rfl, h3⟩ (RX.eq rfl rfl) ?_
                  refine JL.go trivial (RX.pick_t rfl h3) ?_
                  refine JL.nil ?_
                  refine hk2 _ _ _ ⟨rfl, rfl, rfl, rfl, rfl, rfl, trivial⟩ ⟨rfl, trivial⟩ ⟨?_, H⟩
                  first
                  | exact ⟨fun _ => ⟨k1, k2, k3⟩, fun _ => decide_eq_true (by rw [(linE_zero k1).2.2.2, (linE_zero k2).2.2.2, linL_len, linL_len, hCl])⟩
                  | exact ⟨fun h => (by cases h), fun h => absurd h.2.2 k3⟩
                  | exact ⟨fun h => (by cases h), fun h => absurd h.2.1 k2⟩
                  | exact ⟨fun h => (by cases h), fun h => absurd h.1 k1⟩
                · skip
                  first | have h3p := of_decide_eq_false h3 | skip
                  have k3 := of_decide_eq_false h3
                  refine JL.no ⟨_, rfl, gno h3⟩ ?_
                  refine JL.no ⟨_, rfl, gno h3⟩ ?_
                  refine JL.no ⟨_, rfl, gno h3⟩ ?_
                  refine JL.no ⟨_, rfl, gno h3⟩ ?_
                  refine JL.no ⟨_, rfl, gno h3⟩ ?_
                  refine JL.go trivial (RX.pick_f rfl h3) ?_
                  refine JL.nil ?_
                  refine hk2 _ _ _ ⟨rfl, rfl, rfl, rfl, rfl, rfl, trivial⟩ ⟨rfl, trivial⟩ ⟨?_, H⟩
                  first
                  | exact ⟨fun _ => ⟨k1, k2, k3⟩, fun _ => decide_eq_true (by rw [(linE_zero k1).2.2.2, (linE_zero k2).2.2.2, linL_len, linL_len, hCl])⟩
                  | exact ⟨fun h => (by cases h), fun h => absurd h.2.2 k3⟩
                  | exact ⟨fun h => (by cases h), fun h => absurd h.2.1 k2⟩
                  | exact ⟨fun h => (by cases h), fun h => absurd h.1 k1⟩
              · skip
                first | have h2p := of_decide_eq_false h2 | skip
                have k2 := (err_nil hE (linE_le xs C)).2 h2
                refine JL.no ⟨_, rfl, gno h2⟩ ?_
                refine JL.go trivial (RX.pick_f rfl h2) ?_
                refine JL.go trivial (RX.movev (v := Value.bool _) rfl) ?_
                refine JL.no ⟨_, rfl, gno rfl⟩ ?_
                refine JL.no ⟨_, rfl, gno rfl⟩ ?_
                refine JL.no ⟨_, rfl, gno rfl⟩ ?_
                refine JL.no ⟨_, rfl, gno rfl⟩ ?_
                refine JL.no ⟨_, rfl, gno rfl⟩ ?_
                refine JL.go trivial (RX.pick_f rfl rfl) ?_
                refine JL.nil ?_
                refine hk2 _ _ _ ⟨rfl, rfl, rfl, rfl, rfl, rfl, trivial⟩ ⟨rfl, trivial⟩ ⟨?_, H⟩
                first
                | exact ⟨fun _ => ⟨k1, k2, k3⟩, fun _ => decide_eq_true (by rw [(linE_zero k1).2.2.2, (linE_zero k2).2.2.2, linL_len, linL_len, hCl])⟩
                | exact ⟨fun h => (by cases h), fun h => absurd h.2.2 k3⟩
                | exact ⟨fun h => (by cases h), fun h => absurd h.2.1 k2⟩
                | exact ⟨fun h => (by cases h), fun h => absurd h.1 k1⟩
            · skip
              first | have h1p := of_decide_eq_false h1 | skip
              have k1 := (err_nil hE (linE_le xs B)).2 h1
              refine JL.no ⟨_, rfl, gno h1⟩ ?_
              refine JL.no ⟨_, rfl, gno h1⟩ ?_
              refine JL.go trivial (RX.pick_f rfl h1) ?_
              refine JL.go trivial (RX.movev (v := Value.bool _) rfl) ?_
              refine JL.no ⟨_, rfl, gno rfl⟩ ?_
              refine JL.go trivial (RX.pick_f rfl rfl) ?_
              refine JL.go trivial (RX.movev (v := Value.bool _) rfl) ?_
              refine JL.no ⟨_, rfl, gno rfl⟩ ?_
              refine JL.no ⟨_, rfl, gno rfl⟩ ?_
              refine JL.no ⟨_, rfl, gno rfl⟩ ?_
              refine JL.no ⟨_, rfl, gno rfl⟩ ?_
              refine JL.no ⟨_, rfl, gno rfl⟩ ?_
              refine JL.go trivial (RX.pick_f rfl rfl) ?_
              refine JL.nil ?_
              refine hk2 _ _ _ ⟨rfl, rfl, rfl, rfl, rfl, rfl, trivial⟩ ⟨rfl, trivial⟩ ⟨?_, H⟩
              first
              | exact ⟨fun _ => ⟨k1, k2, k3⟩, fun _ => decide_eq_true (by rw [(linE_zero k1).2.2.2, (linE_zero k2).2.2.2, linL_len, linL_len, hCl])⟩
              | exact ⟨fun h => (by cases h), fun h => absurd h.2.2 k3⟩
              | exact ⟨fun h => (by cases h), fun h => absurd h.2.1 k2⟩
              | exact ⟨fun h => (by cases h), fun h => absurd h.1 k1⟩
          · skip
            clear H
            rintro q ρ w ⟨hq, H⟩
            refine J.join (ι := Unit) (fun q => []) (fun q w => Hp w0 w (s4 :: s3 :: s2 :: s1 :: F)) [(0, _), (1, _), (7, _)] ⟨rfl, rfl, rfl, trivial⟩ ?_ ?_
            rotate_left
            · skip
              intro k2 hk2
              refine J.cond rfl (fun hq1 => ?_) (fun hq1 => ?_)
              · skip
                obtain ⟨k1, k2, k3⟩ := hq.1 hq1
                obtain ⟨hb1, hb2⟩ := rules_both hCl hx1 hB1 k1 k2 k3
                have hlen : (linV xs C).length = (linV xs B).length := by rw [(linE_zero k1).2.2.2, (linE_zero k2).2.2.2, linL_len, linL_len, hCl]
                have hpl := plusV_le B C
                have hpl2 := plusV_le (linV xs B) (linV xs C)
                have hlP := linV_le xs (plusV B C)
                refine J.seq ?_
                refine J.region ?_
                refine JL.go trivial (RX.movev (v := Value.slice _ _ _) rfl) ?_
                refine JL.go trivial (RX.movev (v := Value.slice _ _ _) rfl) ?_
                refine JL.does trivial (EX.call rfl cl8 rfl ((plus_b (a := linV xs B) (b := linV xs C) H (SlAt.cons (SlAt.cons (SlAt.cons ho1.slAt))) (SlAt.cons ho3.slAt) i64all_linV i64all_linV hlen (by omega)))) ?_
                rintro _ w ⟨q5, c5, s5, rfl, ho5, H⟩
                refine JL.go trivial (RX.movev (v := .tuple _) rfl) ?_
                refine JL.go trivial (RX.extract rfl rfl) ?_
                refine JL.go trivial (RX.extract (v := .bool (decide (i64all (zadd (linV xs B) (linV xs C))))) rfl rfl) ?_
                refine JL.go trivial (RX.assignv (v := Value.slice _ _ _) rfl) ?_
                refine JL.go trivial (RX.assignv (v := .bool (decide (i64all (zadd (linV xs B) (linV xs C))))) rfl) ?_
                refine JL.nil ?_
                refine J.seq ?_
                refine J.region ?_
                refine JL.go trivial (RX.movev (v := Value.slice _ _ _) rfl) ?_
                refine JL.go trivial (RX.movev (v := Value.slice _ _ _) rfl) ?_
                refine JL.does trivial (EX.call rfl cl5 rfl ((Linear_b (a := xs) (b := plusV B C) H (hE.cons.cons.cons.cons.cons) (SlAt.cons (SlAt.cons (SlAt.cons (SlAt.cons (SlAt.cons hsx))))) (SlAt.cons ho4.slAt) okx i64all_plusV (by omega) (by omega)))) ?_
                rintro _ w ⟨q6, c6, s6, rfl, ho6, H⟩
                refine JL.go trivial (RX.movev (v := .tuple _) rfl) ?_
                refine JL.go trivial (RX.extract rfl rfl) ?_
                refine JL.go trivial (RX.extract (v := errV E (linE xs (plusV B C))) rfl rfl) ?_
                refine JL.go trivial (RX.assignv (v := Value.slice _ _ _) rfl) ?_
                refine JL.go trivial (RX.assignv (v := errV E (linE xs (plusV B C))) rfl) ?_
                refine JL.nil ?_
                refine J.seq ?_
                refine J.region ?_
                refine JL.go trivial (RX.movev (v := errV E (linE xs (plusV B C))) rfl) ?_
                refine JL.go trivial (RX.ifnil_eql (v := errV E (linE xs (plusV B C))) rfl rfl (errV_ie hE (linE_le xs (plusV B C))).1 if25) ?_
                refine JL.go trivial (RX.movev (v := Value.bool _) rfl) ?_
                refine JL.splitS 121 rfl (fun h4 => ?_) (fun h4 => ?_)
                · skip
                  first | have h4p := of_decide_eq_true h4 | skip
                  have k4 := (err_nil hE (linE_le xs (plusV B C))).1 h4
                  refine JL.go ⟨_, rfl, h4⟩ (RX.movev (v := Value.bool _) rfl) ?_
                  refine JL.go trivial (RX.pick_t rfl h4) ?_
                  refine JL.go trivial (RX.movev (v := Value.bool _) rfl) ?_
                  refine JL.splitS 124 rfl (fun h5 => ?_) (fun h5 => ?_)
                  · skip
                    first | have h5p := of_decide_eq_true h5 | skip
                    refine JL.go ⟨_, rfl, h5⟩ (RX.movev (v := Value.slice _ _ _) rfl) ?_
                    refine JL.go ⟨_, rfl, h5⟩ (RX.movev (v := Value.slice _ _ _) rfl) ?_
                    refine JL.does ⟨_, rfl, h5⟩ (EX.call rfl cl7 rfl ((sameI_b (a := linV xs (plusV B C)) (b := plusV (linV xs B) (linV xs C)) H ho6.slAt (SlAt.cons ho5.slAt) (by omega) (by omega)))) ?_
                    rintro _ w ⟨rfl, H⟩
                    refine JL.go ⟨_, rfl, h5⟩ (RX.not rfl) ?_
                    refine JL.go trivial (RX.pick_t rfl h5) ?_
                    refine JL.go trivial (RX.movev (v := Value.bool _) rfl) ?_
                    refine JL.go ⟨_, rfl, (congrArg not (decide_eq_true hb1))⟩ (RX.movev (v := errV E (linE xs (plusV B C))) rfl) ?_
                    refine JL.go ⟨_, rfl, (congrArg not (decide_eq_true hb1))⟩ (RX.ifnil_eql (v := errV E (linE xs (plusV B C))) rfl rfl (errV_ie hE (linE_le xs (plusV B C))).1 if25) ?_
                    refine JL.go ⟨_, rfl, (congrArg not (decide_eq_true hb1))⟩ (RX.movev (v := Value.bool _) rfl) ?_
                    refine JL.go ⟨_, rfl, (congrArg not (decide_eq_true hb1))⟩ (RX.bool_neq rfl rfl ud4) ?_
                    refine JL.go trivial (RX.pick_f rfl (congrArg not (decide_eq_true hb1))) ?_
                    refine JL.nil ?_
                    refine J.cond_f rfl (by rw [(errV_ie hE (linE_le xs (plusV B C))).2, decide_eq_decide.2 hb2, beq_self_eq_true]; rfl) ?_
                    refine J.skip ?_
                    first
                    | exact hk2 () _ _ ⟨rfl, rfl, rfl, trivial⟩ trivial H
                    | exact hk2 () _ _ ⟨rfl, rfl, rfl, trivial⟩ trivial H.drop.drop
                  · skip
                    first | have h5p := of_decide_eq_false h5 | skip
                    exfalso
                    exact of_decide_eq_false h5 (hb2.1 k4)
                · skip
                  first | have h4p := of_decide_eq_false h4 | skip
                  refine JL.no ⟨_, rfl, gno h4⟩ ?_
                  refine JL.go trivial (RX.pick_f rfl h4) ?_
                  refine JL.go trivial (RX.movev (v := Value.bool _) rfl) ?_
                  refine JL.no ⟨_, rfl, gno rfl⟩ ?_
                  refine JL.no ⟨_, rfl, gno rfl⟩ ?_
                  refine JL.no ⟨_, rfl, gno rfl⟩ ?_
                  refine JL.no ⟨_, rfl, gno rfl⟩ ?_
                  refine JL.go trivial (RX.pick_f rfl rfl) ?_
                  refine JL.go trivial (RX.movev (v := Value.bool _) rfl) ?_
                  refine JL.go ⟨_, rfl, rfl⟩ (RX.movev (v := errV E (linE xs (plusV B C))) rfl) ?_
                  refine JL.go ⟨_, rfl, rfl⟩ (RX.ifnil_eql (v := errV E (linE xs (plusV B C))) rfl rfl (errV_ie hE (linE_le xs (plusV B C))).1 if25) ?_
                  refine JL.go ⟨_, rfl, rfl⟩ (RX.movev (v := Value.bool _) rfl) ?_
                  refine JL.go ⟨_, rfl, rfl⟩ (RX.bool_neq rfl rfl ud4) ?_
                  refine JL.go trivial (RX.pick_f rfl rfl) ?_
                  refine JL.nil ?_
                  refine J.cond_f rfl (by rw [(errV_ie hE (linE_le xs (plusV B C))).2, decide_eq_decide.2 hb2, beq_self_eq_true]; rfl) ?_
                  refine J.skip ?_
                  first
                  | exact hk2 () _ _ ⟨rfl, rfl, rfl, trivial⟩ trivial H
                  | exact hk2 () _ _ ⟨rfl, rfl, rfl, trivial⟩ trivial H.drop.drop
              · skip
                refine J.skip ?_
                first
                | exact hk2 () _ _ ⟨rfl, rfl, rfl, trivial⟩ trivial H
                | exact hk2 () _ _ ⟨rfl, rfl, rfl, trivial⟩ trivial H.drop.drop
            · skip
              clear H
              rintro _ ρ w H
              refine J.seq ?_
              obtain ⟨A, hAe⟩ : ∃ A, A = xs.take (min xs.length B.length) := ⟨_, rfl⟩
              obtain ⟨D, hDe⟩ : ∃ D, D = B.take (min xs.length B.length) := ⟨_, rfl⟩
              have hAl : A.length = min xs.length B.length := by rw [hAe, List.length_take]; omega
              have hDl : D.length = A.length := by rw [hDe, hAl, List.length_take]; omega
              have hsA : SlAt F px (i64sV A) := by rw [hAe]; exact slI_take hsx
              have hsD : SlAt F py (i64sV D) := by rw [hDe]; exact slI_take hsB
              have okA : i64all A := by rw [hAe]; exact i64all_take okx
              have okD : i64all D := by rw [hDe]; exact i64all_take okB
              clear hAe hDe
              have hA1 : 0 < A.length := by omega
              have hA2 : A.length ≤ 200 := by omega
              have hlA := linV_le A D
              have hcA := cycV_le A D
              refine J.region ?_
              refine JL.go trivial (RX.movev (v := Value.slice _ _ _) rfl) ?_
              refine JL.go trivial (RX.len_slice rfl (by rw [sl22]; rfl) rfl) ?_
              refine JL.go trivial (RX.movev (v := Value.int _ _) rfl) ?_
              refine JL.go trivial (RX.min2i rfl rfl (r := ((A.length : Nat) : Int)) (by rw [min_nat, ← hAl])) ?_
              refine JL.go trivial (RX.assignv (v := Value.int _ _) rfl) ?_
              refine JL.nil ?_
              refine J.seq ?_
              refine J.any hmix fun w hs => ?_
              replace H := H.same hs; clear hs
              refine JA.take 0 (listed' := [true, false, false, false, false, false, false, false, false, false, false, false]) rfl (by kernel_rfl) (by kernel_rfl) (by kernel_rfl) rfl trivial (fun w => RX.movev (v := Value.slice _ _ _) rfl) ?_
              refine JA.take 1 (listed' := [true, true, false, false, false, false, false, false, false, false, false, false]) rfl (by kernel_rfl) (by kernel_rfl) (by kernel_rfl) rfl trivial (fun w => RX.movev (v := Value.int _ _) rfl) ?_
              refine JA.take 2 (listed' := [true, true, true, false, false, false, false, false, false, false, false, false]) rfl (by kernel_rfl) (by kernel_rfl) (by kernel_rfl) rfl trivial (fun w => RX.slice_h2 rfl rfl sl22 hcx.2 (by omega) (by omega) (r := A.length) (by omega)) ?_
              refine JA.take 3 (listed' := [true, true, true, true, false, false, false, false, false, false, false, false]) rfl (by kernel_rfl) (by kernel_rfl) (by kernel_rfl) rfl trivial (fun w => RX.movev (v := Value.slice _ _ _) rfl) ?_
              refine JA.take 4 (listed' := [true, true, true, true, true, false, false, false, false, false, false, false]) rfl (by kernel_rfl) (by kernel_rfl) (by kernel_rfl) rfl trivial (fun w => RX.movev (v := Value.int _ _) rfl) ?_
              refine JA.take 5 (listed' := [true, true, true, true, true, true, false, false, false, false, false, false]) rfl (by kernel_rfl) (by kernel_rfl) (by kernel_rfl) rfl trivial (fun w => RX.slice_h2 rfl rfl sl22 hcy.2 (by omega) (by omega) (r := D.length) (by omega)) ?_
              refine JA.all [6] (by kernel_rfl) (by decide) ?_
              refine JO.does (listed' := [true, true, true, true, true, true, true, false, false, false, false, false]) rfl rfl trivial (EX.call rfl cl5 rfl ((Linear_b (a := A) (b := D) H (hE.cons.cons.cons.cons) (SlAt.cons (SlAt.cons (SlAt.cons (SlAt.cons hsA)))) (SlAt.cons (SlAt.cons (SlAt.cons (SlAt.cons hsD)))) okA okD (by omega) (by omega)))) ?_
              rintro _ w ⟨q7, c7, s7, rfl, ho7, H⟩
              refine JA.take 7 (listed' := [true, true, true, true, true, true, true, true, false, false, false, false]) rfl (by kernel_rfl) (by kernel_rfl) (by kernel_rfl) rfl trivial (fun w => RX.movev (v := .tuple _) rfl) ?_
              refine JA.take 8 (listed' := [true, true, true, true, true, true, true, true, true, false, false, false]) rfl (by kernel_rfl) (by kernel_rfl) (by kernel_rfl) rfl trivial (fun w => RX.extract rfl rfl) ?_
              refine JA.take 9 (listed' := [true, true, true, true, true, true, true, true, true, true, false, false]) rfl (by kernel_rfl) (by kernel_rfl) (by kernel_rfl) rfl trivial (fun w => RX.extract (v := errV E (linE A D)) rfl rfl) ?_
              refine JA.take 10 (listed' := [true, true, true, true, true, true, true, true, true, true, true, false]) rfl (by kernel_rfl) (by kernel_rfl) (by kernel_rfl) rfl trivial (fun w => RX.assignv (v := Value.slice _ _ _) rfl) ?_
              refine JA.take 11 (listed' := [true, true, true, true, true, true, true, true, true, true, true, true]) rfl (by kernel_rfl) (by kernel_rfl) (by kernel_rfl) rfl trivial (fun w => RX.assignv (v := errV E (linE A D)) rfl) ?_
              refine JA.done (by kernel_rfl) ?_
              refine J.seq ?_
              refine J.any hmix fun w hs => ?_
              replace H := H.same hs; clear hs
              refine JA.take 0 (listed' := [true, false, false, false, false, false, false, false, false, false, false, false]) rfl (by kernel_rfl) (by kernel_rfl) (by kernel_rfl) rfl trivial (fun w => RX.movev (v := Value.slice _ _ _) rfl) ?_
              refine JA.take 1 (listed' := [true, true, false, false, false, false, false, false, false, false, false, false]) rfl (by kernel_rfl) (by kernel_rfl) (by kernel_rfl) rfl trivial (fun w => RX.movev (v := Value.int _ _) rfl) ?_
              refine JA.take 2 (listed' := [true, true, true, false, false, false, false, false, false, false, false, false]) rfl (by kernel_rfl) (by kernel_rfl) (by kernel_rfl) rfl trivial (fun w => RX.slice_h2 rfl rfl sl22 hcx.2 (by omega) (by omega) (r := A.length) (by omega)) ?_
              refine JA.take 3 (listed' := [true, true, true, true, false, false, false, false, false, false, false, false]) rfl (by kernel_rfl) (by kernel_rfl) (by kernel_rfl) rfl trivial (fun w => RX.movev (v := Value.slice _ _ _) rfl) ?_
              refine JA.take 4 (listed' := [true, true, true, true, true, false, false, false, false, false, false, false]) rfl (by kernel_rfl) (by kernel_rfl) (by kernel_rfl) rfl trivial (fun w => RX.movev (v := Value.int _ _) rfl) ?_
              refine JA.take 5 (listed' := [true, true, true, true, true, true, false, false, false, false, false, false]) rfl (by kernel_rfl) (by kernel_rfl) (by kernel_rfl) rfl trivial (fun w => RX.slice_h2 rfl rfl sl22 hcy.2 (by omega) (by omega) (r := D.length) (by omega)) ?_
              refine JA.all [6] (by kernel_rfl) (by decide) ?_
              refine JO.does (listed' := [true, true, true, true, true, true, true, false, false, false, false, false]) rfl rfl trivial (EX.call rfl cl9 rfl ((cyclic_g (a := A) (b := D) H (hE.cons.cons.cons.cons.cons) (SlAt.cons (SlAt.cons (SlAt.cons (SlAt.cons (SlAt.cons hsA))))) (SlAt.cons (SlAt.cons (SlAt.cons (SlAt.cons (SlAt.cons hsD))))) okA okD hA1 (by omega) hDl))) ?_
              rintro _ w ⟨q8, c8, s8, rfl, ho8, H⟩
              refine JA.take 7 (listed' := [true, true, true, true, true, true, true, true, false, false, false, false]) rfl (by kernel_rfl) (by kernel_rfl) (by kernel_rfl) rfl trivial (fun w => RX.movev (v := .tuple _) rfl) ?_
              refine JA.take 8 (listed' := [true, true, true, true, true, true, true, true, true, false, false, false]) rfl (by kernel_rfl) (by kernel_rfl) (by kernel_rfl) rfl trivial (fun w => RX.extract rfl rfl) ?_
              refine JA.take 9 (listed' := [true, true, true, true, true, true, true, true, true, true, false, false]) rfl (by kernel_rfl) (by kernel_rfl) (by kernel_rfl) rfl trivial (fun w => RX.extract (v := errV E (cycE A D)) rfl rfl) ?_
              refine JA.take 10 (listed' := [true, true, true, true, true, true, true, true, true, true, true, false]) rfl (by kernel_rfl) (by kernel_rfl) (by kernel_rfl) rfl trivial (fun w => RX.assignv (v := Value.slice _ _ _) rfl) ?_
              refine JA.take 11 (listed' := [true, true, true, true, true, true, true, true, true, true, true, true]) rfl (by kernel_rfl) (by kernel_rfl) (by kernel_rfl) rfl trivial (fun w => RX.assignv (v := errV E (cycE A D)) rfl) ?_
              refine JA.done (by kernel_rfl) ?_
              refine J.seq ?_
              refine J.seq ?_
              refine J.region ?_
              refine JL.go trivial (RX.movev (v := errV E (linE A D)) rfl) ?_
              refine JL.go trivial (RX.ifnil_neq (v := errV E (linE A D)) rfl rfl (errV_ie hE (linE_le A D)).1 if25) ?_
              refine JL.go trivial (RX.movev (v := Value.bool _) rfl) ?_
              refine JL.splitS 162 rfl (fun h7 => ?_) (fun h7 => ?_)
              · skip
                first | have h7p := of_decide_eq_true h7 | skip
                refine JL.no ⟨_, rfl, gno h7⟩ ?_
                refine JL.no ⟨_, rfl, gno h7⟩ ?_
                refine JL.go trivial (RX.pick_t rfl h7) ?_
                refine JL.nil ?_
                refine J.cond_t rfl rfl ?_
                refine J.seq ?_
                refine J.region ?_
                refine JL.go trivial (RX.assign) ?_
                refine JL.nil ?_
                refine J.ret1 (v := Value.bool _) Tryz.func3 rfl rfl ?_
                first | exact ⟨_, rfl, rfl, H⟩ | exact ⟨_, rfl, rfl, H.drop⟩ | exact ⟨_, rfl, rfl, H.drop.drop⟩ | exact ⟨_, rfl, rfl, H.drop.drop.drop⟩ | exact ⟨_, rfl, rfl, H.drop.drop.drop.drop⟩ | exact ⟨_, rfl, rfl, H.drop.drop.drop.drop.drop⟩ | exact ⟨_, rfl, rfl, H.drop.drop.drop.drop.drop.drop⟩ | exact ⟨_, rfl, rfl, H.drop.drop.drop.drop.drop.drop.drop⟩ | exact ⟨_, rfl, rfl, H.drop.drop.drop.drop.drop.drop.drop.drop⟩
              · skip
                first | have h7p := of_decide_eq_false h7 | skip
                have k7 := (err_nil hE (linE_le A D)).1 (by simpa using h7)
                refine JL.go ⟨_, rfl, h7⟩ (RX.movev (v := errV E (cycE A D)) rfl) ?_
                refine JL.go ⟨_, rfl, h7⟩ (RX.ifnil_neq (v := errV E (cycE A D)) rfl rfl (errV_ie hE (cycE_le A D)).1 if25) ?_
                refine JL.go trivial (RX.pick_f rfl h7) ?_
                refine JL.nil ?_
                refine J.cond rfl (fun h8 => ?_) (fun h8 => ?_)
                · skip
                  refine J.seq ?_
                  refine J.region ?_
                  refine JL.go trivial (RX.assign) ?_
                  refine JL.nil ?_
                  refine J.ret1 (v := Value.bool _) Tryz.func3 rfl rfl ?_
                  first | exact ⟨_, rfl, rfl, H⟩ | exact ⟨_, rfl, rfl, H.drop⟩ | exact ⟨_, rfl, rfl, H.drop.drop⟩ | exact ⟨_, rfl, rfl, H.drop.drop.drop⟩ | exact ⟨_, rfl, rfl, H.drop.drop.drop.drop⟩ | exact ⟨_, rfl, rfl, H.drop.drop.drop.drop.drop⟩ | exact ⟨_, rfl, rfl, H.drop.drop.drop.drop.drop.drop⟩ | exact ⟨_, rfl, rfl, H.drop.drop.drop.drop.drop.drop.drop⟩ | exact ⟨_, rfl, rfl, H.drop.drop.drop.drop.drop.drop.drop.drop⟩
                · skip
                  have k8 := (err_nil hE (cycE_le A D)).1 (by simpa using h8)
                  have el7 := (linE_zero k7).2.2.2
                  obtain ⟨ic8, el8⟩ := cycE_zero k8
                  have hl7 : (linV A D).length = 2 * A.length - 1 := by rw [el7, linL_len]; omega
                  have hl8 : (cycV A D).length = A.length := by rw [el8, cycL_len]
                  refine J.skip ?_
                  refine J.seq ?_
                  refine J.seq ?_
                  refine J.region ?_
                  refine JL.go trivial (RX.movev (v := Value.slice _ _ _) rfl) ?_
                  refine JL.go trivial (RX.len_slice rfl (by rw [sl22]; rfl) rfl) ?_
                  refine JL.go trivial (RX.movev (v := Value.int _ _) rfl) ?_
                  refine JL.go trivial (RX.mul rfl rfl (wi (n := 2 * A.length) (by omega) (by omega))) ?_
                  refine JL.go trivial (RX.sub rfl rfl (wi (n := 2 * A.length - 1) (by omega) (by omega))) ?_
                  refine JL.go trivial (RX.ne rfl rfl) ?_
                  refine JL.go trivial (RX.movev (v := Value.bool _) rfl) ?_
                  refine JL.go ⟨_, rfl, (decide_eq_false (fun h => h (by omega)))⟩ (RX.movev (v := Value.slice _ _ _) rfl) ?_
                  refine JL.go ⟨_, rfl, (decide_eq_false (fun h => h (by omega)))⟩ (RX.len_slice rfl (by rw [sl22]; rfl) rfl) ?_
                  refine JL.go ⟨_, rfl, (decide_eq_false (fun h => h (by omega)))⟩ (RX.movev (v := Value.int _ _) rfl) ?_
                  refine JL.go ⟨_, rfl, (decide_eq_false (fun h => h (by omega)))⟩ (RX.ne rfl rfl) ?_
                  refine JL.go trivial (RX.pick_f rfl (decide_eq_false (fun h => h (by omega)))) ?_
                  refine JL.nil ?_
                  refine J.cond_f rfl (decide_eq_false (fun h => h (by omega))) ?_
                  refine J.skip ?_
                  refine J.seq ?_
                  refine J.seq ?_
                  have x7 := ho7
                  have x8 := ho8
                  obtain ⟨g7, l7, rfl, rfl, _⟩ := x7.ptr (by omega)
                  obtain ⟨g8, l8, rfl, rfl, _⟩ := x8.ptr (by omega)
                  have hc7 := ho7.le
                  have hc8 := ho8.le
                  refine J.region ?_
                  refine JL.go trivial (RX.movev (v := Value.slice _ _ _) rfl) ?_
                  refine JL.go trivial (RX.len_slice rfl (by rw [sl22]; rfl) rfl) ?_
                  refine JL.go trivial (RX.move) ?_
                  refine JL.nil ?_
                  refine J.block ?_
                  refine J.loop (ι := Nat) (S := fun i => [(180, .int .i64 ((i : Nat) : Int))]) (Φ := fun i w => i ≤ A.length ∧ Hp w0 w ([(g8, cel l8 2)] :: [(g7, cel l7 2)] :: s4 :: s3 :: s2 :: s1 :: F)) (μ := fun i => A.length - i) (C := [(20, _), (21, _), (22, _), (179, _)]) 0 ⟨rfl, rfl, rfl, rfl, trivial⟩ ⟨rfl, trivial⟩ ?_ ?_
                  · exact ⟨by omega, H⟩
                  clear H
                  rintro i ρ w ⟨hi, H⟩ IH
                  refine J.seq ?_
                  refine J.region ?_
                  refine JL.go trivial (RX.lt rfl rfl) ?_
                  refine JL.nil ?_
                  refine J.seq ?_
                  refine J.cond_d rfl (fun hlt => ?_) (fun hlt => ?_)
                  · skip
                    obtain ⟨u, hu, hfold⟩ := fold_law (a := A) (b := D) (m := A.length) (k := i) rfl hDl (by omega)
                    have hcy8 : (cycV A D)[i]? = some (cyc A D i) := by rw [el8]; exact cycL_get (by omega)
                    have hci : i64in (cyc A D i) := ic8 _ (by rw [← el8]; exact List.mem_of_getElem? hcy8)
                    unfold i64in at hci
                    rw [← el7] at hu hfold
                    refine J.skip ?_
                    refine J.seq ?_
                    refine J.block ?_
                    refine J.seq ?_
                    refine J.region ?_
                    refine JL.go trivial (RX.movev (v := Value.int _ _) rfl) ?_
                    refine JL.go trivial (RX.assignv (v := Value.int _ _) rfl) ?_
                    refine JL.nil ?_
                    refine J.seq ?_
                    refine J.region ?_
                    refine JL.go trivial (RX.movev (v := Value.slice _ _ _) rfl) ?_
                    refine JL.go trivial (RX.movev (v := Value.int _ _) rfl) ?_
                    refine JL.go trivial (RX.indexAddr rfl rfl sl22 (by omega) (by omega) (o' := i) (by omega)) ?_
                    refine JL.go trivial (RX.loadS H (SlAt.cons ho7.slAt) rfl (j := i) (by omega) (v := .int .i64 u) (i64sV_get hu) one2) ?_
                    refine JL.go trivial (RX.assignv (v := Value.int _ _) rfl) ?_
                    refine JL.nil ?_
                    refine J.seq ?_
                    refine J.seq ?_
                    refine J.region ?_
                    refine JL.go trivial (RX.movev (v := Value.int _ _) rfl) ?_
                    refine JL.go trivial (RX.movev (v := Value.int _ _) rfl) ?_
                    refine JL.go trivial (RX.add rfl rfl (wi (n := i + A.length) (by omega) (by omega))) ?_
                    refine JL.go trivial (RX.movev (v := Value.slice _ _ _) rfl) ?_
                    refine JL.go trivial (RX.len_slice rfl (by rw [sl22]; rfl) rfl) ?_
                    refine JL.go trivial (RX.lt rfl rfl) ?_
                    refine JL.nil ?_
                    refine J.cond_d rfl (fun hlt2 => ?_) (fun hlt2 => ?_)
                    · skip
                      rw [if_pos (by omega)] at hfold
                      obtain ⟨v, hv, hcv⟩ := hfold
                      refine J.region ?_
                      refine JL.go trivial (RX.movev (v := Value.int _ _) rfl) ?_
                      refine JL.go trivial (RX.movev (v := Value.slice _ _ _) rfl) ?_
                      refine JL.go trivial (RX.movev (v := Value.int _ _) rfl) ?_
                      refine JL.go trivial (RX.movev (v := Value.int _ _) rfl) ?_
                      refine JL.go trivial (RX.add rfl rfl (wi (n := i + A.length) (by omega) (by omega))) ?_
                      refine JL.go trivial (RX.indexAddr rfl rfl sl22 (by omega) (by omega) (o' := i + A.length) (by omega)) ?_
                      refine JL.go trivial (RX.loadS H (SlAt.cons ho7.slAt) rfl (j := i + A.length) (by omega) (v := .int .i64 v) (i64sV_get hv) one2) ?_
                      refine JL.go trivial (RX.add rfl rfl (w_i64 (r := cyc A D i) (by omega) (by omega) (by omega))) ?_
                      refine JL.go trivial (RX.assignv (v := Value.int _ _) rfl) ?_
                      refine JL.nil ?_
                      refine J.seq ?_
                      refine J.region ?_
                      refine JL.go trivial (RX.movev (v := Value.slice _ _ _) rfl) ?_
                      refine JL.go trivial (RX.movev (v := Value.int _ _) rfl) ?_
                      refine JL.go trivial (RX.indexAddr rfl rfl sl22 (by omega) (by omega) (o' := i) (by omega)) ?_
                      refine JL.go trivial (RX.loadS H ho8.slAt rfl (j := i) (by omega) (v := .int .i64 (cyc A D i)) (i64sV_get hcy8) one2) ?_
                      refine JL.go trivial (RX.movev (v := Value.int _ _) rfl) ?_
                      refine JL.go trivial (RX.ne rfl rfl) ?_
                      refine JL.nil ?_
                      refine J.cond_f rfl (decide_eq_false (fun h => h rfl)) ?_
                      refine J.skip ?_
                      refine J.inBlock ?_
                      refine J.region ?_
                      refine JL.go trivial (RX.add rfl rfl (wi (n := i + 1) (by omega) (by omega))) ?_
                      refine JL.go trivial (RX.movev (v := Value.int _ _) rfl) ?_
                      refine JL.nil ?_
                      exact IH (i + 1) _ _ (by omega) ⟨rfl, rfl, rfl, rfl, trivial⟩ ⟨rfl, trivial⟩ ⟨by omega, H⟩
                    · skip
                      rw [if_neg (by omega)] at hfold
                      have hcv := hfold
                      refine J.skip ?_
                      refine J.seq ?_
                      refine J.region ?_
                      refine JL.go trivial (RX.movev (v := Value.slice _ _ _) rfl) ?_
                      refine JL.go trivial (RX.movev (v := Value.int _ _) rfl) ?_
                      refine JL.go trivial (RX.indexAddr rfl rfl sl22 (by omega) (by omega) (o' := i) (by omega)) ?_
                      refine JL.go trivial (RX.loadS H ho8.slAt rfl (j := i) (by omega) (v := .int .i64 (cyc A D i)) (i64sV_get hcy8) one2) ?_
                      refine JL.go trivial (RX.movev (v := Value.int _ _) rfl) ?_
                      refine JL.go trivial (RX.ne rfl rfl) ?_
                      refine JL.nil ?_
                      refine J.cond_f rfl (decide_eq_false (fun h => h hcv)) ?_
                      refine J.skip ?_
                      refine J.inBlock ?_
                      refine J.region ?_
                      refine JL.go trivial (RX.add rfl rfl (wi (n := i + 1) (by omega) (by omega))) ?_
                      refine JL.go trivial (RX.movev (v := Value.int _ _) rfl) ?_
                      refine JL.nil ?_
                      exact IH (i + 1) _ _ (by omega) ⟨rfl, rfl, rfl, rfl, trivial⟩ ⟨rfl, trivial⟩ ⟨by omega, H⟩
                  · skip
                    refine J.exit rfl ?_
                    refine J.seq ?_
                    refine J.region ?_
                    refine JL.go trivial (RX.assign) ?_
                    refine JL.nil ?_
                    refine J.ret1 (v := Value.bool _) Tryz.func3 rfl rfl ?_
                    first | exact ⟨_, rfl, rfl, H⟩ | exact ⟨_, rfl, rfl, H.drop⟩ | exact ⟨_, rfl, rfl, H.drop.drop⟩ | exact ⟨_, rfl, rfl, H.drop.drop.drop⟩ | exact ⟨_, rfl, rfl, H.drop.drop.drop.drop⟩ | exact ⟨_, rfl, rfl, H.drop.drop.drop.drop.drop⟩ | exact ⟨_, rfl, rfl, H.drop.drop.drop.drop.drop.drop⟩ | exact ⟨_, rfl, rfl, H.drop.drop.drop.drop.drop.drop.drop⟩ | exact ⟨_, rfl, rfl, H.drop.drop.drop.drop.drop.drop.drop.drop⟩
end Nn
end Go.Proofs.YtfpphoapknecfaaGreatDoorBesafter

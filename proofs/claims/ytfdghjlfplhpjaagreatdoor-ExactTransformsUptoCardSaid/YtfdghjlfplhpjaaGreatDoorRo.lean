/- Least roots and roots of unity modulo the primes. -/
import Derived.Test.YtfdghjlfplhpjaaGreatDoorNb
namespace Go.Proofs.YtfdghjlfplhpjaaGreatDoor
open Go Go.Eng
set_option maxRecDepth 100000
set_option linter.unusedVariables false
set_option linter.unusedSimpArgs false
theorem cl21 : callable Tryz.prog 21 = true := by kernel_rfl
theorem cl49 : callable Tryz.prog 49 = true := by kernel_rfl
theorem cl50 : callable Tryz.prog 50 = true := by kernel_rfl
theorem cl54 : callable Tryz.prog 54 = true := by kernel_rfl
theorem cl66 : callable Tryz.prog 66 = true := by kernel_rfl
theorem cl67 : callable Tryz.prog 67 = true := by kernel_rfl
theorem cl69 : callable Tryz.prog 69 = true := by kernel_rfl
theorem cl70 : callable Tryz.prog 70 = true := by kernel_rfl
theorem ki24 : kindOf Tryz.prog 24 = some .u64 := by kernel_rfl
theorem ki3 : kindOf Tryz.prog 3 = some .i64 := by kernel_rfl
theorem one3 : oneOf Tryz.prog 3 = true := by kernel_rfl
theorem sl88 : sliceOf Tryz.prog 88 = some (3, 1) := by kernel_rfl

def u64sV (l : List Nat) : List Value := l.map fun x : Nat => Value.int .u64 ((x : Nat) : Int)
theorem u64sV_len (l : List Nat) : (u64sV l).length = l.length := by simp [u64sV]
theorem u64sV_get {l : List Nat} {i : Nat} {k : Nat} (h : l[i]? = some k) : (u64sV l)[i]? = some (.int .u64 (k : Int)) := by simp [u64sV, h]
theorem u64sV_app (a b : List Nat) : u64sV (a ++ b) = u64sV a ++ u64sV b := by simp [u64sV]
theorem u64sV_cell (l : List Nat) : ∀ v ∈ u64sV l, isCell v = true := by
  intro v hv; obtain ⟨b, _, rfl⟩ := List.mem_map.1 hv; rfl
theorem u64sV_set (l : List Nat) (i x : Nat) : u64sV (l.set i x) = (u64sV l).set i (.int .u64 (x : Int)) := by simp [u64sV, List.map_set]
theorem elU : Elem Tryz.prog 22 24 1 8 := Elem.of (by kernel_rfl)

theorem Root_b {w0 w : World} {F : List Seg} (H : Hp w0 w F) {p g : Nat} {fs : List Int} (G : GoodP p g fs) : Ret Tryz.prog 49 [.int .i64 ((p : Nat) : Int)] w fun v w' => v = .tuple #[.int .i64 ((g : Nat) : Int), .nilIface] ∧ Hp w0 w' F := by
  refine Calls.of_J (n := 38) Tryz.func49 rfl rfl rfl ?_
  refine J.seq ?_
  have hlo := G.lo
  have hhi := G.hi
  have hg1 := G.gpos
  obtain ⟨hg2, hfl⟩ := G.small
  obtain ⟨n1, o1, hft, hfe⟩ := G.factors
  refine J.region ?_
  refine JL.go trivial (RX.assign) ?_
  refine JL.go trivial (RX.assign) ?_
  refine JL.nil ?_
  refine J.scope ?_
  refine J.seq ?_
  refine J.seq ?_
  refine J.region ?_
  refine JL.go trivial (RX.movev (v := Value.int _ _) rfl) ?_
  refine JL.does trivial (EX.call rfl cl66 rfl ((Prime_b H G))) ?_
  rintro _ w ⟨rfl, H⟩
  refine JL.go trivial (RX.not rfl) ?_
  refine JL.nil ?_
  refine J.cond_f rfl rfl ?_
  refine J.skip ?_
  refine J.seq ?_
  refine J.region ?_
  refine JL.go trivial (RX.movev (v := Value.int _ _) rfl) ?_
  refine JL.go trivial (RX.sub rfl rfl (wi (n := p - 1) (by omega) (by omega))) ?_
  refine JL.does trivial (EX.call rfl cl67 rfl ((Factors_b H (n := p - 1) (by omega) (by omega) (by decide) hft))) ?_
  rintro _ w ⟨pp, c, sl, rfl, ho, H⟩
  simp only [hfe] at ho H ⊢
  have hs : SlAt (sl :: F) pp (intsV fs) := ho.slAt
  refine JL.go trivial (RX.assignv (v := Value.slice _ _ _) rfl) ?_
  refine JL.nil ?_
  refine J.seq ?_
  refine J.region ?_
  refine JL.go trivial (RX.movev (v := Value.int _ _) rfl) ?_
  refine JL.go trivial (RX.conv rfl (by rw [ki3]; rfl) ki24 (wn (n := p) rfl (by omega))) ?_
  refine JL.go trivial (RX.assignv (v := Value.int _ _) rfl) ?_
  refine JL.nil ?_
  refine J.seq ?_
  refine J.label ?_
  refine J.seq ?_
  refine J.region ?_
  refine JL.go trivial (RX.assign) ?_
  refine JL.nil ?_
  refine J.block ?_
  refine J.loop (ι := Nat) (S := fun h => [(6, .int .u64 ((h : Nat) : Int))]) (Φ := fun h w => 1 ≤ h ∧ h ≤ g ∧ Hp w0 w (sl :: F)) (μ := fun h => g + 1 - h) (C := [(4, _), (5, _)]) 1 ⟨rfl, rfl, trivial⟩ ⟨rfl, trivial⟩ ?_ ?_
  · exact ⟨by omega, hg1, H⟩
  clear H
  rintro h ρ w ⟨hh1, hh2, H⟩ IH
  refine J.seq ?_
  refine J.block ?_
  refine J.seq ?_
  refine J.seq ?_
  refine J.region ?_
  refine JL.go trivial (RX.movev (v := Value.slice _ _ _) rfl) ?_
  refine JL.go trivial (RX.len_slice rfl (by rw [sl88]; rfl) rfl) ?_
  refine JL.go trivial (RX.move) ?_
  refine JL.nil ?_
  refine J.block ?_
  refine J.loop (ι := Nat) (S := fun i => [(22, .int .i64 ((i : Nat) : Int))]) (Φ := fun i w => i ≤ fs.length ∧ AllNe p h fs i ∧ Hp w0 w (sl :: F)) (μ := fun i => fs.length - i) (C := [(4, _), (5, _), (6, _), (20, _), (21, _)]) 0 ⟨rfl, rfl, rfl, rfl, rfl, trivial⟩ ⟨rfl, trivial⟩ ?_ ?_
  · exact ⟨by omega, fun j _ hj => absurd hj (by omega), H⟩
  clear H
  rintro i ρ w ⟨hi, ha, H⟩ IH2
  refine J.seq ?_
  refine J.region ?_
  refine JL.go trivial (RX.lt rfl rfl) ?_
  refine JL.nil ?_
  refine J.seq ?_
  refine J.cond_d rfl (fun hlt => ?_) (fun hlt => ?_)
  · skip
    obtain ⟨q, hx⟩ : ∃ q, fs[i]? = some q := ⟨_, List.getElem?_eq_getElem (by omega)⟩
    obtain ⟨hq0, hq1, _⟩ := G.ne (List.mem_of_getElem? hx)
    obtain ⟨pb, po, rfl, hpp⟩ := hs.some (by rw [intsV_len]; omega)
    have hdq : (p - 1) / q.toNat ≤ p - 1 := Nat.div_le_self _ _
    refine J.skip ?_
    refine J.seq ?_
    refine J.block ?_
    refine J.seq ?_
    refine J.region ?_
    refine JL.go trivial (RX.indexAddr rfl rfl sl88 (by omega) (by omega) (o' := po + i) (by omega)) ?_
    refine JL.go trivial (RX.loadS H hs rfl (j := i) rfl (intsV_get hx) one3) ?_
    refine JL.go trivial (RX.assignv (v := Value.int _ _) rfl) ?_
    refine JL.nil ?_
    refine J.seq ?_
    refine J.region ?_
    refine JL.go trivial (RX.movev (v := Value.int _ _) rfl) ?_
    refine JL.go trivial (RX.movev (v := Value.int _ _) rfl) ?_
    refine JL.go trivial (RX.sub rfl rfl (wn (n := p - 1) (by omega) (by omega))) ?_
    refine JL.go trivial (RX.movev (v := Value.int _ _) rfl) ?_
    refine JL.go trivial (RX.conv rfl (by rw [ki3]; rfl) ki24 (wn (n := q.toNat) (by omega) (by omega))) ?_
    refine JL.go trivial (RX.quo rfl rfl (by omega) (r := (((p - 1) / q.toNat : Nat) : Int)) (by rw [quo_nat]; exact wn rfl (by omega))) ?_
    refine JL.go trivial (RX.movev (v := Value.int _ _) rfl) ?_
    refine JL.does trivial (EX.call rfl cl50 rfl ((Pow_b H (by omega) (by omega) (by omega) hhi))) ?_
    rintro _ w ⟨rfl, H⟩
    refine JL.go trivial (RX.eq rfl rfl) ?_
    refine JL.nil ?_
    refine J.cond_d rfl (fun heq => ?_) (fun heq => ?_)
    · skip
      have hlt2 : h < g := by
        refine Nat.lt_of_le_of_ne hh2 fun he => ?_
        subst he
        exact G.all (i + 1) i q (by omega) hx (by omega)
      refine J.exit rfl ?_
      refine J.region ?_
      refine JL.go trivial (RX.movev (v := Value.int _ _) rfl) ?_
      refine JL.go trivial (RX.add rfl rfl (wn (n := h + 1) (by omega) (by omega))) ?_
      refine JL.go trivial (RX.assignv (v := Value.int _ _) rfl) ?_
      refine JL.nil ?_
      exact IH (h + 1) _ _ (by omega) ⟨rfl, rfl, trivial⟩ ⟨rfl, trivial⟩ ⟨by omega, by omega, H⟩
    · skip
      have hne : pw p h ((p - 1) / q.toNat) ≠ 1 := by omega
      refine J.skip ?_
      refine J.inBlock ?_
      refine J.region ?_
      refine JL.go trivial (RX.add rfl rfl (wi (n := i + 1) (by omega) (by omega))) ?_
      refine JL.go trivial (RX.movev (v := Value.int _ _) rfl) ?_
      refine JL.nil ?_
      exact IH2 (i + 1) _ _ (by omega) ⟨rfl, rfl, rfl, rfl, rfl, trivial⟩ ⟨rfl, trivial⟩ ⟨by omega, ha.step hx hne, H⟩
  · skip
    have hie : i = fs.length := by omega
    subst hie
    obtain rfl := G.found hh1 hh2 ha
    refine J.exit rfl ?_
    refine J.seq ?_
    refine J.region ?_
    refine JL.go trivial (RX.movev (v := Value.int _ _) rfl) ?_
    refine JL.go trivial (RX.conv rfl (by rw [ki24]; rfl) ki3 (wi rfl (by omega))) ?_
    refine JL.go trivial (RX.assignv (v := Value.int _ _) rfl) ?_
    refine JL.go trivial (RX.assign) ?_
    refine JL.nil ?_
    refine J.ret2 (v := Value.int _ _) Tryz.func49 rfl rfl rfl ?_
    exact ⟨_, rfl, rfl, H.drop⟩
theorem rPrime_b {w0 w : World} {F : List Seg} (H : Hp w0 w F) {p g : Nat} {fs : List Int} (G : GoodP p g fs) : Ret Tryz.prog 69 [.int .i64 ((p : Nat) : Int)] w fun v w' => v = .bool true ∧ Hp w0 w' F := by
  refine Calls.of_J (n := 7) Tryz.func69 rfl rfl rfl ?_
  refine J.seq ?_
  have hlo := G.lo
  have hhi := G.hi
  have hg1 := G.gpos
  obtain ⟨hg2, hfl⟩ := G.small
  refine J.region ?_
  refine JL.go trivial (RX.assign) ?_
  refine JL.nil ?_
  refine J.seq ?_
  refine J.region ?_
  refine JL.go trivial (RX.movev (v := Value.int _ _) rfl) ?_
  refine JL.does trivial (EX.call rfl cl70 rfl ((rFactors_b H (n := p) (by omega) (by omega) (by decide) G.trial))) ?_
  rintro _ w ⟨pp, c, sl, rfl, ho, H⟩
  have hfe : facL (p : Int) [] = [(p : Int)] := by rw [facL, if_pos (by omega)]; rfl
  simp only [hfe] at ho H ⊢
  refine JL.go trivial (RX.len_slice rfl (by rw [sl88]; rfl) rfl) ?_
  refine JL.go trivial (RX.eq rfl rfl) ?_
  refine JL.go trivial (RX.assignv (v := Value.bool _) rfl) ?_
  refine JL.nil ?_
  refine J.ret1 (v := Value.bool _) Tryz.func69 rfl rfl ?_
  exact ⟨_, rfl, rfl, H.drop⟩
theorem rRoot_b {w0 w : World} {F : List Seg} (H : Hp w0 w F) {p g : Nat} {fs : List Int} (G : GoodP p g fs) : Ret Tryz.prog 54 [.int .i64 ((p : Nat) : Int)] w fun v w' => v = .tuple #[.int .i64 ((g : Nat) : Int), .int .i64 0] ∧ Hp w0 w' F := by
  refine Calls.of_J (n := 38) Tryz.func54 rfl rfl rfl ?_
  refine J.seq ?_
  have hlo := G.lo
  have hhi := G.hi
  have hg1 := G.gpos
  obtain ⟨hg2, hfl⟩ := G.small
  obtain ⟨n1, o1, hft, hfe⟩ := G.factors
  refine J.region ?_
  refine JL.go trivial (RX.assign) ?_
  refine JL.go trivial (RX.assign) ?_
  refine JL.nil ?_
  refine J.seq ?_
  refine J.seq ?_
  refine J.region ?_
  refine JL.go trivial (RX.movev (v := Value.int _ _) rfl) ?_
  refine JL.does trivial (EX.call rfl cl69 rfl ((rPrime_b H G))) ?_
  rintro _ w ⟨rfl, H⟩
  refine JL.go trivial (RX.not rfl) ?_
  refine JL.nil ?_
  refine J.cond_f rfl rfl ?_
  refine J.skip ?_
  refine J.seq ?_
  refine J.region ?_
  refine JL.go trivial (RX.movev (v := Value.int _ _) rfl) ?_
  refine JL.go trivial (RX.sub rfl rfl (wi (n := p - 1) (by omega) (by omega))) ?_
  refine JL.does trivial (EX.call rfl cl70 rfl ((rFactors_b H (n := p - 1) (by omega) (by omega) (by decide) hft))) ?_
  rintro _ w ⟨pp, c, sl, rfl, ho, H⟩
  simp only [hfe] at ho H ⊢
  have hs : SlAt (sl :: F) pp (intsV fs) := ho.slAt
  refine JL.go trivial (RX.assignv (v := Value.slice _ _ _) rfl) ?_
  refine JL.nil ?_
  refine J.seq ?_
  refine J.region ?_
  refine JL.go trivial (RX.assign) ?_
  refine JL.nil ?_
  refine J.block ?_
  refine J.loop (ι := Nat) (S := fun h => [(5, .int .i64 ((h : Nat) : Int))]) (Φ := fun h w => 1 ≤ h ∧ h ≤ g ∧ Hp w0 w (sl :: F)) (μ := fun h => g + 1 - h) (C := [(0, _), (4, _)]) 1 ⟨rfl, rfl, trivial⟩ ⟨rfl, trivial⟩ ?_ ?_
  · exact ⟨by omega, hg1, H⟩
  clear H
  rintro h ρ w ⟨hh1, hh2, H⟩ IH
  refine J.seq ?_
  refine J.block ?_
  refine J.seq ?_
  refine J.region ?_
  refine JL.go trivial (RX.assign) ?_
  refine JL.nil ?_
  refine J.seq ?_
  refine J.seq ?_
  refine J.region ?_
  refine JL.go trivial (RX.assign) ?_
  refine JL.nil ?_
  refine J.block ?_
  refine J.loop (ι := Nat × Bool) (S := fun z => [(7, .int .i64 ((z.1 : Nat) : Int)), (6, .bool z.2)]) (Φ := fun z w => z.1 ≤ fs.length ∧ (z.2 = true ↔ AllNe p h fs z.1) ∧ Hp w0 w (sl :: F)) (μ := fun z => fs.length - z.1) (C := [(0, _), (4, _), (5, _)]) (0, true) ⟨rfl, rfl, rfl, trivial⟩ ⟨rfl, rfl, trivial⟩ ?_ ?_
  · exact ⟨by simp, ⟨fun _ j _ hj => absurd hj (by simp), fun _ => rfl⟩, H⟩
  clear H
  rintro ⟨i, b⟩ ρ w ⟨hi, ha, H⟩ IH2
  simp only at hi ha H
  dsimp only
  refine J.seq ?_
  refine J.seq ?_
  refine J.region ?_
  refine JL.go trivial (RX.movev (v := Value.int _ _) rfl) ?_
  refine JL.go trivial (RX.movev (v := Value.slice _ _ _) rfl) ?_
  refine JL.go trivial (RX.len_slice rfl (by rw [sl88]; rfl) rfl) ?_
  refine JL.go trivial (RX.lt rfl rfl) ?_
  refine JL.nil ?_
  refine J.cond_d rfl (fun hlt => ?_) (fun hlt => ?_)
  · skip
    obtain ⟨q, hx⟩ : ∃ q, fs[i]? = some q := ⟨_, List.getElem?_eq_getElem (by omega)⟩
    obtain ⟨hq0, hq1, _⟩ := G.ne (List.mem_of_getElem? hx)
    obtain ⟨pb, po, rfl, hpp⟩ := hs.some (by rw [intsV_len]; omega)
    have hdq : (p - 1) / q.toNat ≤ p - 1 := Nat.div_le_self _ _
    refine J.skip ?_
    refine J.seq ?_
    refine J.block ?_
    refine J.seq ?_
    refine J.region ?_
    refine JL.go trivial (RX.movev (v := Value.int _ _) rfl) ?_
    refine JL.go trivial (RX.conv rfl (by rw [ki3]; rfl) ki24 (wn (n := h) rfl (by omega))) ?_
    refine JL.go trivial (RX.movev (v := Value.int _ _) rfl) ?_
    refine JL.go trivial (RX.sub rfl rfl (wi (n := p - 1) (by omega) (by omega))) ?_
    refine JL.go trivial (RX.movev (v := Value.slice _ _ _) rfl) ?_
    refine JL.go trivial (RX.movev (v := Value.int _ _) rfl) ?_
    refine JL.go trivial (RX.indexAddr rfl rfl sl88 (by omega) (by omega) (o' := po + i) (by omega)) ?_
    refine JL.go trivial (RX.loadS H hs rfl (j := i) rfl (intsV_get hx) one3) ?_
    refine JL.go trivial (RX.quo rfl rfl (by omega) (r := (((p - 1) / q.toNat : Nat) : Int)) (by rw [quo_int hq0]; exact wi rfl (by omega))) ?_
    refine JL.go trivial (RX.conv rfl (by rw [ki3]; rfl) ki24 (wn rfl (by omega))) ?_
    refine JL.go trivial (RX.movev (v := Value.int _ _) rfl) ?_
    refine JL.go trivial (RX.conv rfl (by rw [ki3]; rfl) ki24 (wn rfl (by omega))) ?_
    refine JL.does trivial (EX.call rfl cl21 rfl ((rPow_b H (by omega) (by omega) (by omega) hhi))) ?_
    rintro _ w ⟨rfl, H⟩
    refine JL.go trivial (RX.eq rfl rfl) ?_
    refine JL.nil ?_
    refine J.cond_d rfl (fun heq => ?_) (fun heq => ?_)
    · skip
      refine J.region ?_
      refine JL.go trivial (RX.assign) ?_
      refine JL.nil ?_
      refine J.inBlock ?_
      refine J.region ?_
      refine JL.go trivial (RX.movev (v := Value.int _ _) rfl) ?_
      refine JL.go trivial (RX.add rfl rfl (wi (n := i + 1) (by omega) (by omega))) ?_
      refine JL.go trivial (RX.assignv (v := Value.int _ _) rfl) ?_
      refine JL.nil ?_
      exact IH2 (i + 1, false) _ _ (by simp only; omega) ⟨rfl, rfl, rfl, trivial⟩ ⟨rfl, rfl, trivial⟩ ⟨by simp only; omega, ⟨fun h => (by cases h), fun h2 => absurd (show pw p h ((p - 1) / q.toNat) = 1 by omega) (h2 i q (by simp only; omega) hx)⟩, H⟩
    · skip
      refine J.skip ?_
      refine J.inBlock ?_
      refine J.region ?_
      refine JL.go trivial (RX.movev (v := Value.int _ _) rfl) ?_
      refine JL.go trivial (RX.add rfl rfl (wi (n := i + 1) (by omega) (by omega))) ?_
      refine JL.go trivial (RX.assignv (v := Value.int _ _) rfl) ?_
      refine JL.nil ?_
      exact IH2 (i + 1, b) _ _ (by simp only; omega) ⟨rfl, rfl, rfl, trivial⟩ ⟨rfl, rfl, trivial⟩ ⟨by simp only; omega, ⟨fun h => (ha.1 h).step hx (by omega), fun h2 => ha.2 fun j r hj hr => h2 j r (by simp only; omega) hr⟩, H⟩
  · skip
    have hie : i = fs.length := by omega
    subst hie
    refine J.exit rfl ?_
    refine J.seq ?_
    refine J.region ?_
    refine JL.go trivial (RX.movev (v := Value.bool _) rfl) ?_
    refine JL.nil ?_
    refine J.cond rfl (fun hok => ?_) (fun hok => ?_)
    · skip
      obtain rfl := G.found hh1 hh2 (ha.1 hok)
      refine J.seq ?_
      refine J.region ?_
      refine JL.go trivial (RX.movev (v := Value.int _ _) rfl) ?_
      refine JL.go trivial (RX.assignv (v := Value.int _ _) rfl) ?_
      refine JL.go trivial (RX.assign) ?_
      refine JL.nil ?_
      refine J.ret2 (v := Value.int _ _) (x := Value.int _ _) Tryz.func54 rfl rfl rfl ?_
      exact ⟨_, rfl, rfl, H.drop⟩
    · skip
      have hlt2 : h < g := by
        refine Nat.lt_of_le_of_ne hh2 fun he => ?_
        subst he
        rw [ha.2 (G.all _)] at hok
        cases hok
      refine J.skip ?_
      refine J.inBlock ?_
      refine J.region ?_
      refine JL.go trivial (RX.movev (v := Value.int _ _) rfl) ?_
      refine JL.go trivial (RX.add rfl rfl (wi (n := h + 1) (by omega) (by omega))) ?_
      refine JL.go trivial (RX.assignv (v := Value.int _ _) rfl) ?_
      refine JL.nil ?_
      exact IH (h + 1) _ _ (by omega) ⟨rfl, rfl, trivial⟩ ⟨rfl, trivial⟩ ⟨by omega, by omega, H⟩
theorem root_b {w0 w : World} {F : List Seg} (H : Hp w0 w F) {p g : Nat} {fs : List Int} (G : GoodP p g fs) {n : Nat} (h1 : 1 ≤ n) (h2 : n ≤ 1024) (hd : (p - 1) % n = 0) : Ret Tryz.prog 30 [.int .i64 ((n : Nat) : Int), .int .u64 ((p : Nat) : Int)] w fun v w' => v = .tuple #[.int .u64 ((pw p g ((p - 1) / n) : Nat) : Int), .nilIface] ∧ Hp w0 w' F := by
  refine Calls.of_J (n := 33) Tryz.func30 rfl rfl rfl ?_
  refine J.seq ?_
  have hlo := G.lo
  have hhi := G.hi
  have hg1 := G.gpos
  obtain ⟨hg2, hfl⟩ := G.small
  have hdn : (p - 1) / n ≤ p - 1 := Nat.div_le_self _ _
  refine J.region ?_
  refine JL.go trivial (RX.assign) ?_
  refine JL.go trivial (RX.assign) ?_
  refine JL.nil ?_
  refine J.seq ?_
  refine J.seq ?_
  refine J.region ?_
  refine JL.go trivial (RX.movev (v := Value.int _ _) rfl) ?_
  refine JL.go trivial (RX.sub rfl rfl (wn (n := p - 1) (by omega) (by omega))) ?_
  refine JL.go trivial (RX.movev (v := Value.int _ _) rfl) ?_
  refine JL.go trivial (RX.conv rfl (by rw [ki3]; rfl) ki24 (wn rfl (by omega))) ?_
  refine JL.go trivial (RX.rem rfl rfl (by omega) rem_nat) ?_
  refine JL.go trivial (RX.ne rfl rfl) ?_
  refine JL.nil ?_
  refine J.cond_f rfl (decide_eq_false (by omega)) ?_
  refine J.skip ?_
  refine J.seq ?_
  refine J.region ?_
  refine JL.go trivial (RX.movev (v := Value.int _ _) rfl) ?_
  refine JL.go trivial (RX.conv rfl (by rw [ki24]; rfl) ki3 (wi rfl (by omega))) ?_
  refine JL.does trivial (EX.call rfl cl49 rfl ((Root_b H G))) ?_
  rintro _ w ⟨rfl, H⟩
  refine JL.go trivial (RX.movev (v := Value.tuple _) rfl) ?_
  refine JL.go trivial (RX.extract rfl rfl) ?_
  refine JL.go trivial (RX.extract rfl rfl) ?_
  refine JL.go trivial (RX.assignv (v := Value.int _ _) rfl) ?_
  refine JL.go trivial (RX.assign) ?_
  refine JL.nil ?_
  refine J.seq ?_
  refine J.seq ?_
  refine J.region ?_
  refine JL.go trivial (RX.move) ?_
  refine JL.go trivial (RX.ifnil_neq rfl rfl rfl if26) ?_
  refine JL.nil ?_
  refine J.cond_f rfl rfl ?_
  refine J.skip ?_
  refine J.seq ?_
  refine J.region ?_
  refine JL.go trivial (RX.movev (v := Value.int _ _) rfl) ?_
  refine JL.go trivial (RX.conv rfl (by rw [ki3]; rfl) ki24 (wn rfl (by omega))) ?_
  refine JL.go trivial (RX.movev (v := Value.int _ _) rfl) ?_
  refine JL.go trivial (RX.sub rfl rfl (wn (n := p - 1) (by omega) (by omega))) ?_
  refine JL.go trivial (RX.movev (v := Value.int _ _) rfl) ?_
  refine JL.go trivial (RX.conv rfl (by rw [ki3]; rfl) ki24 (wn rfl (by omega))) ?_
  refine JL.go trivial (RX.quo rfl rfl (by omega) (r := (((p - 1) / n : Nat) : Int)) (by rw [quo_nat]; exact wn rfl (by omega))) ?_
  refine JL.go trivial (RX.movev (v := Value.int _ _) rfl) ?_
  refine JL.does trivial (EX.call rfl cl50 rfl ((Pow_b H (by omega) (by omega) (by omega) hhi))) ?_
  rintro _ w ⟨rfl, H⟩
  refine JL.go trivial (RX.assignv (v := Value.int _ _) rfl) ?_
  refine JL.go trivial (RX.assign) ?_
  refine JL.nil ?_
  refine J.ret2 (v := Value.int _ _) Tryz.func30 rfl rfl rfl ?_
  exact ⟨_, rfl, rfl, H⟩
theorem root_e {w0 w : World} {F : List Seg} (H : Hp w0 w F) {E : Nat → Value} {Q : Nat → Addr} (hE : Errs F E Q) {p g : Nat} {fs : List Int} (G : GoodP p g fs) {n : Nat} (h1 : 1 ≤ n) (h2 : n ≤ 1024) (hd : (p - 1) % n ≠ 0) : Ret Tryz.prog 30 [.int .i64 ((n : Nat) : Int), .int .u64 ((p : Nat) : Int)] w fun v w' => v = .tuple #[.int .u64 0, E 11] ∧ Hp w0 w' F := by
  refine Calls.of_J (n := 33) Tryz.func30 rfl rfl rfl ?_
  refine J.seq ?_
  have hlo := G.lo
  have hhi := G.hi
  have hg1 := G.gpos
  obtain ⟨hg2, hfl⟩ := G.small
  refine J.region ?_
  refine JL.go trivial (RX.assign) ?_
  refine JL.go trivial (RX.assign) ?_
  refine JL.nil ?_
  refine J.seq ?_
  refine J.seq ?_
  refine J.region ?_
  refine JL.go trivial (RX.movev (v := Value.int _ _) rfl) ?_
  refine JL.go trivial (RX.sub rfl rfl (wn (n := p - 1) (by omega) (by omega))) ?_
  refine JL.go trivial (RX.movev (v := Value.int _ _) rfl) ?_
  refine JL.go trivial (RX.conv rfl (by rw [ki3]; rfl) ki24 (wn rfl (by omega))) ?_
  refine JL.go trivial (RX.rem rfl rfl (by omega) rem_nat) ?_
  refine JL.go trivial (RX.ne rfl rfl) ?_
  refine JL.nil ?_
  refine J.cond_t rfl (decide_eq_true (by omega)) ?_
  refine J.seq ?_
  refine J.quietH H hmix (by kernel_rfl) ?_
  refine JQ.go trivial (fun w H => RX.loadG H rfl (hE.at_ 11 (by decide) (by decide)).at_ one26) ?_
  refine JQ.go trivial (fun w H => RX.assign) ?_
  refine JQ.go trivial (fun w H => RX.assignv (v := E 11) rfl) ?_
  refine JQ.nil fun w H => ?_
  refine J.ret2 (v := Value.int _ _) Tryz.func30 rfl rfl rfl ?_
  exact ⟨_, rfl, rfl, H⟩
theorem rroot_b {w0 w : World} {F : List Seg} (H : Hp w0 w F) {p g : Nat} {fs : List Int} (G : GoodP p g fs) {n : Nat} (h1 : 1 ≤ n) (h2 : n ≤ 1024) (hd : (p - 1) % n = 0) : Ret Tryz.prog 34 [.int .i64 ((n : Nat) : Int), .int .u64 ((p : Nat) : Int)] w fun v w' => v = .tuple #[.int .u64 ((pw p g ((p - 1) / n) : Nat) : Int), .bool true] ∧ Hp w0 w' F := by
  refine Calls.of_J (n := 29) Tryz.func34 rfl rfl rfl ?_
  refine J.seq ?_
  have hlo := G.lo
  have hhi := G.hi
  have hg1 := G.gpos
  obtain ⟨hg2, hfl⟩ := G.small
  have hdn : (p - 1) / n ≤ p - 1 := Nat.div_le_self _ _
  refine J.region ?_
  refine JL.go trivial (RX.assign) ?_
  refine JL.go trivial (RX.assign) ?_
  refine JL.nil ?_
  refine J.seq ?_
  refine J.seq ?_
  refine J.region ?_
  refine JL.go trivial (RX.movev (v := Value.int _ _) rfl) ?_
  refine JL.go trivial (RX.sub rfl rfl (wn (n := p - 1) (by omega) (by omega))) ?_
  refine JL.go trivial (RX.movev (v := Value.int _ _) rfl) ?_
  refine JL.go trivial (RX.conv rfl (by rw [ki3]; rfl) ki24 (wn rfl (by omega))) ?_
  refine JL.go trivial (RX.rem rfl rfl (by omega) rem_nat) ?_
  refine JL.go trivial (RX.ne rfl rfl) ?_
  refine JL.nil ?_
  refine J.cond_f rfl (decide_eq_false (by omega)) ?_
  refine J.skip ?_
  refine J.seq ?_
  refine J.region ?_
  refine JL.go trivial (RX.movev (v := Value.int _ _) rfl) ?_
  refine JL.go trivial (RX.conv rfl (by rw [ki24]; rfl) ki3 (wi rfl (by omega))) ?_
  refine JL.does trivial (EX.call rfl cl54 rfl ((rRoot_b H G))) ?_
  rintro _ w ⟨rfl, H⟩
  refine JL.go trivial (RX.movev (v := Value.tuple _) rfl) ?_
  refine JL.go trivial (RX.extract rfl rfl) ?_
  refine JL.go trivial (RX.extract rfl rfl) ?_
  refine JL.go trivial (RX.assignv (v := Value.int _ _) rfl) ?_
  refine JL.go trivial (RX.assignv (v := Value.int _ _) rfl) ?_
  refine JL.nil ?_
  refine J.seq ?_
  refine J.region ?_
  refine JL.go trivial (RX.movev (v := Value.int _ _) rfl) ?_
  refine JL.go trivial (RX.conv rfl (by rw [ki3]; rfl) ki24 (wn rfl (by omega))) ?_
  refine JL.go trivial (RX.movev (v := Value.int _ _) rfl) ?_
  refine JL.go trivial (RX.sub rfl rfl (wn (n := p - 1) (by omega) (by omega))) ?_
  refine JL.go trivial (RX.movev (v := Value.int _ _) rfl) ?_
  refine JL.go trivial (RX.conv rfl (by rw [ki3]; rfl) ki24 (wn rfl (by omega))) ?_
  refine JL.go trivial (RX.quo rfl rfl (by omega) (r := (((p - 1) / n : Nat) : Int)) (by rw [quo_nat]; exact wn rfl (by omega))) ?_
  refine JL.go trivial (RX.movev (v := Value.int _ _) rfl) ?_
  refine JL.does trivial (EX.call rfl cl21 rfl ((rPow_b H (by omega) (by omega) (by omega) hhi))) ?_
  rintro _ w ⟨rfl, H⟩
  refine JL.go trivial (RX.assignv (v := Value.int _ _) rfl) ?_
  refine JL.go trivial (RX.assign) ?_
  refine JL.nil ?_
  refine J.ret2 (v := Value.int _ _) (x := Value.bool _) Tryz.func34 rfl rfl rfl ?_
  exact ⟨_, rfl, rfl, H⟩
theorem rroot_e {w0 w : World} {F : List Seg} (H : Hp w0 w F) {p g : Nat} {fs : List Int} (G : GoodP p g fs) {n : Nat} (h1 : 1 ≤ n) (h2 : n ≤ 1024) (hd : (p - 1) % n ≠ 0) : Ret Tryz.prog 34 [.int .i64 ((n : Nat) : Int), .int .u64 ((p : Nat) : Int)] w fun v w' => v = .tuple #[.int .u64 0, .bool false] ∧ Hp w0 w' F := by
  refine Calls.of_J (n := 29) Tryz.func34 rfl rfl rfl ?_
  refine J.seq ?_
  have hlo := G.lo
  have hhi := G.hi
  have hg1 := G.gpos
  obtain ⟨hg2, hfl⟩ := G.small
  refine J.region ?_
  refine JL.go trivial (RX.assign) ?_
  refine JL.go trivial (RX.assign) ?_
  refine JL.nil ?_
  refine J.seq ?_
  refine J.seq ?_
  refine J.region ?_
  refine JL.go trivial (RX.movev (v := Value.int _ _) rfl) ?_
  refine JL.go trivial (RX.sub rfl rfl (wn (n := p - 1) (by omega) (by omega))) ?_
  refine JL.go trivial (RX.movev (v := Value.int _ _) rfl) ?_
  refine JL.go trivial (RX.conv rfl (by rw [ki3]; rfl) ki24 (wn rfl (by omega))) ?_
  refine JL.go trivial (RX.rem rfl rfl (by omega) rem_nat) ?_
  refine JL.go trivial (RX.ne rfl rfl) ?_
  refine JL.nil ?_
  refine J.cond_t rfl (decide_eq_true (by omega)) ?_
  refine J.seq ?_
  refine J.region ?_
  refine JL.go trivial (RX.assign) ?_
  refine JL.go trivial (RX.assign) ?_
  refine JL.nil ?_
  refine J.ret2 (v := Value.int _ _) (x := Value.bool _) Tryz.func34 rfl rfl rfl ?_
  exact ⟨_, rfl, rfl, H⟩
theorem Primes_b {w0 w : World} {F : List Seg} (H : Hp w0 w F) : Ret Tryz.prog 11 [] w fun v w' => ∃ b, v = .slice (some ⟨b, 0, none⟩) 3 3 ∧ Hp w0 w' ([(b, cel (u64sV primes3) 24)] :: F) := by
  refine Calls.of_J (n := 2) Tryz.func11 rfl rfl rfl ?_
  refine J.seq ?_
  refine J.region ?_
  refine JL.go trivial (RX.assign) ?_
  refine JL.nil ?_
  refine J.seq ?_
  refine J.region ?_
  refine JL.does trivial (EX.buildSlice (pv := [(0, .int .u64 2013265921), (1, .int .u64 1811939329), (2, .int .u64 469762049)]) (l := u64sV primes3) (e := 24) H rfl (by kernel_rfl)) ?_
  rintro _ w ⟨b, rfl, H⟩
  refine JL.go trivial (RX.assignv (v := Value.slice _ _ _) rfl) ?_
  refine JL.nil ?_
  refine J.ret1 (v := Value.slice _ _ _) Tryz.func11 rfl rfl ?_
  exact ⟨_, rfl, b, rfl, H⟩
theorem rPrimes_b {w0 w : World} {F : List Seg} (H : Hp w0 w F) : Ret Tryz.prog 15 [] w fun v w' => ∃ b, v = .slice (some ⟨b, 0, none⟩) 3 3 ∧ Hp w0 w' ([(b, cel (u64sV primes3) 24)] :: F) := by
  refine Calls.of_J (n := 2) Tryz.func15 rfl rfl rfl ?_
  refine J.seq ?_
  refine J.region ?_
  refine JL.go trivial (RX.assign) ?_
  refine JL.nil ?_
  refine J.seq ?_
  refine J.region ?_
  refine JL.does trivial (EX.buildSlice (pv := [(0, .int .u64 2013265921), (1, .int .u64 1811939329), (2, .int .u64 469762049)]) (l := u64sV primes3) (e := 24) H rfl (by kernel_rfl)) ?_
  rintro _ w ⟨b, rfl, H⟩
  refine JL.go trivial (RX.assignv (v := Value.slice _ _ _) rfl) ?_
  refine JL.nil ?_
  refine J.ret1 (v := Value.slice _ _ _) Tryz.func15 rfl rfl ?_
  exact ⟨_, rfl, b, rfl, H⟩
end Go.Proofs.YtfdghjlfplhpjaaGreatDoor

/- Part 10 of the proof that WholeSmall holds: what the functions on its way do, step by step. -/
import Derived.Test.YtfaokllgaambjaaGreatDoorZ1
import Derived.Test.YtfaokllgaambjaaGreatDoorZ2
import Derived.Test.YtfaokllgaambjaaGreatDoorZ3
import Derived.Test.YtfaokllgaambjaaGreatDoorZ4
import Derived.Test.YtfaokllgaambjaaGreatDoorZ5
import Derived.Test.YtfaokllgaambjaaGreatDoorZ7
import Derived.Test.YtfaokllgaambjaaGreatDoorZ8
import Derived.Test.YtfaokllgaambjaaGreatDoorZ9
set_option linter.unusedVariables false
set_option linter.unusedSimpArgs false
namespace Go.Proofs.YtfaokllgaambjaaGreatDoor
open Go Go.Eng
set_option maxRecDepth 100000
set_option maxHeartbeats 1600000
theorem ag250 : aggOf Tryz.prog 250 = some 2 := by kernel_rfl
theorem ag254 : aggOf Tryz.prog 254 = some 4 := by kernel_rfl
theorem ar250 : arrayOf Tryz.prog 250 = some (2, 49, 1) := by kernel_rfl
theorem ar254 : arrayOf Tryz.prog 254 = some (4, 49, 1) := by kernel_rfl
theorem cl191 : callable Tryz.prog 191 = true := by kernel_rfl
theorem cl193 : callable Tryz.prog 193 = true := by kernel_rfl
theorem cl209 : callable Tryz.prog 209 = true := by kernel_rfl
theorem cl210 : callable Tryz.prog 210 = true := by kernel_rfl
theorem cl212 : callable Tryz.prog 212 = true := by kernel_rfl
theorem cl213 : callable Tryz.prog 213 = true := by kernel_rfl
theorem sz250 : szOf Tryz.prog 250 = some 2 := by kernel_rfl
theorem sz254 : szOf Tryz.prog 254 = some 4 := by kernel_rfl
theorem ud250 : Tryz.prog.underlying 250 = some (.array 2 49) := by kernel_rfl
theorem ud254 : Tryz.prog.underlying 254 = some (.array 4 49) := by kernel_rfl
theorem zr250 : (Tryz.prog.info? 250).bind (·.zero) = some (.agg #[.complex .f64 0 0, .complex .f64 0 0]) := by kernel_rfl
theorem zr254 : (Tryz.prog.info? 254).bind (·.zero) = some (.agg #[.complex .f64 0 0, .complex .f64 0 0, .complex .f64 0 0, .complex .f64 0 0]) := by kernel_rfl
theorem fly2 {c0 c1 : Cf} {ys : List Cf} (h : flyF [c0, c1] = some ys) : ys = [c0.add c1, c0.sub c1] ∧ (c0.add c1).ok = true ∧ (c0.sub c1).ok = true := by
 simp only [flyF, Option.bind_eq_bind, Option.bind_eq_some_iff, Option.some.injEq] at h
 obtain ⟨s, hs, d, hd, rfl⟩ := h
 obtain ⟨h1, rfl⟩ := okF_some hs
 obtain ⟨h2, rfl⟩ := okF_some hd
 exact ⟨rfl, h1, h2⟩
theorem fly4 {a0 a1 a2 a3 : Cf} {ys : List Cf} (h : flyF [a0, a1, a2, a3] = some ys) : (a0.add a2).ok = true ∧ (a0.sub a2).ok = true ∧ (a1.add a3).ok = true ∧ (a1.sub a3).ok = true ∧
 ys = [(a0.add a2).add (a1.add a3), (a0.sub a2).add (a1.sub a3).minusI, (a0.add a2).sub (a1.add a3), (a0.sub a2).add (a1.sub a3).plusI] ∧ ((a0.add a2).add (a1.add a3)).ok = true ∧ ((a0.sub a2).add (a1.sub a3).minusI).ok = true ∧ ((a0.add a2).sub (a1.add a3)).ok = true ∧ ((a0.sub a2).add (a1.sub a3).plusI).ok = true := by
 simp only [flyF, Option.bind_eq_bind, Option.bind_eq_some_iff, Option.some.injEq] at h
 obtain ⟨p, hp, q, hq, s, hs, u, hu, y0, h0, y1, h1, y2, h2, y3, h3, rfl⟩ := h
 obtain ⟨k1, rfl⟩ := okF_some hp
 obtain ⟨k2, rfl⟩ := okF_some hq
 obtain ⟨k3, rfl⟩ := okF_some hs
 obtain ⟨k4, rfl⟩ := okF_some hu
 obtain ⟨k5, rfl⟩ := okF_some h0
 obtain ⟨k6, rfl⟩ := okF_some h1
 obtain ⟨k7, rfl⟩ := okF_some h2
 obtain ⟨k8, rfl⟩ := okF_some h3
 exact ⟨k1, k2, k3, k4, rfl, k5, k6, k7, k8⟩
theorem ok_minusI {c : Cf} (h : c.ok = true) {X : List Int} (hX : InX X) : (ev c.minusI X).1.natAbs ≤ 1125899906842624 ∧ (ev c.minusI X).2.natAbs ≤ 1125899906842624 := by
 obtain ⟨h1, h2⟩ := ok_le h hX
 rw [ev_minusI]; simp only [Int.natAbs_neg]; exact ⟨h2, h1⟩
theorem ok_plusI {c : Cf} (h : c.ok = true) {X : List Int} (hX : InX X) : (ev c.plusI X).1.natAbs ≤ 1125899906842624 ∧ (ev c.plusI X).2.natAbs ≤ 1125899906842624 := by
 obtain ⟨h1, h2⟩ := ok_le h hX
 rw [ev_plusI]; simp only [Int.natAbs_neg]; exact ⟨h2, h1⟩
theorem add_b {w0 w : World} {F : List Seg} (H : Hp w0 w F) {a b : Nat × Nat} {c d : Cf} {X : List Int} (ha : Zc a (ev c X)) (hb : Zc b (ev d X)) (hc : (ev c X).1.natAbs ≤ 1125899906842624 ∧ (ev c X).2.natAbs ≤ 1125899906842624) (hd : (ev d X).1.natAbs ≤ 1125899906842624 ∧ (ev d X).2.natAbs ≤ 1125899906842624) :
 Ret Tryz.prog 209 [.complex .f64 a.1 a.2, .complex .f64 b.1 b.2] w fun v w' => ∃ r : Nat × Nat, v = .complex .f64 r.1 r.2 ∧ Zc r (ev (c.add d) X) ∧ Hp w0 w' F := by
 rw [ev_add]; exact fplus_b H ha hb (by omega) (by omega)
theorem sub_b {w0 w : World} {F : List Seg} (H : Hp w0 w F) {a b : Nat × Nat} {c d : Cf} {X : List Int} (ha : Zc a (ev c X)) (hb : Zc b (ev d X)) (hc : (ev c X).1.natAbs ≤ 1125899906842624 ∧ (ev c X).2.natAbs ≤ 1125899906842624) (hd : (ev d X).1.natAbs ≤ 1125899906842624 ∧ (ev d X).2.natAbs ≤ 1125899906842624) :
 Ret Tryz.prog 210 [.complex .f64 a.1 a.2, .complex .f64 b.1 b.2] w fun v w' => ∃ r : Nat × Nat, v = .complex .f64 r.1 r.2 ∧ Zc r (ev (c.sub d) X) ∧ Hp w0 w' F := by
 rw [ev_sub]; exact fless_b H ha hb (by omega) (by omega)
theorem relF2 {X : List Int} {f0 f1 : Nat × Nat} {c0 c1 : Cf} (h0 : Zc f0 (ev c0 X)) (h1 : Zc f1 (ev c1 X)) (k0 : c0.ok = true) (k1 : c1.ok = true) : RelF X [f0, f1] [c0, c1] := by
 refine ⟨rfl, fun i c hc => ?_⟩
 match i, hc with
 | 0, hc => cases hc; exact ⟨k0, f0, rfl, h0⟩
 | 1, hc => cases hc; exact ⟨k1, f1, rfl, h1⟩
theorem relF4 {X : List Int} {f0 f1 f2 f3 : Nat × Nat} {c0 c1 c2 c3 : Cf} (h0 : Zc f0 (ev c0 X)) (h1 : Zc f1 (ev c1 X)) (h2 : Zc f2 (ev c2 X)) (h3 : Zc f3 (ev c3 X)) (k0 : c0.ok = true) (k1 : c1.ok = true) (k2 : c2.ok = true) (k3 : c3.ok = true) : RelF X [f0, f1, f2, f3] [c0, c1, c2, c3] := by
 refine ⟨rfl, fun i c hc => ?_⟩
 match i, hc with
 | 0, hc => cases hc; exact ⟨k0, f0, rfl, h0⟩
 | 1, hc => cases hc; exact ⟨k1, f1, rfl, h1⟩
 | 2, hc => cases hc; exact ⟨k2, f2, rfl, h2⟩
 | 3, hc => cases hc; exact ⟨k3, f3, rfl, h3⟩
theorem RelF.at_ {X : List Int} {fs : List (Nat × Nat)} {cs : List Cf} (h : RelF X fs cs) {i : Nat} {f : Nat × Nat} {c : Cf} (hf : fs[i]? = some f) (hc : cs[i]? = some c) : c.ok = true ∧ Zc f (ev c X) := by
 obtain ⟨k, g, hg, hz⟩ := h.2 i c hc
 rw [hf] at hg; cases hg
 exact ⟨k, hz⟩
theorem Two_b {w0 w : World} {F : List Seg} (H : Hp w0 w F) {a b : Nat × Nat} {c d : Cf} {X : List Int} (hX : InX X) (ha : Zc a (ev c X)) (hb : Zc b (ev d X)) (hc : c.ok = true) (hd : d.ok = true) : Ret Tryz.prog 191 [.agg #[.complex .f64 a.1 a.2, .complex .f64 b.1 b.2]] w fun v w' => ∃ r s : Nat × Nat, v = .agg [.complex .f64 r.1 r.2, .complex .f64 s.1 s.2].toArray ∧ Zc r (ev (c.add d) X) ∧ Zc s (ev (c.sub d) X) ∧ Hp w0 w' F := by
 refine Calls.of_J (n := 14) Tryz.func191 rfl rfl rfl (J.seq (J.region (JL.e (EX.box (v := .agg #[.complex .f64 a.1 a.2, .complex .f64 b.1 b.2]) (l := [.complex .f64 a.1 a.2, .complex .f64 b.1 b.2]) H rfl rfl) ?_)))
 rintro _ w ⟨b1, rfl, H⟩
 refine JL.e (EX.alloc H zr250 rfl) ?_
 rintro _ w ⟨b2, rfl, H⟩
 refine JL.nil (J.seq ?_)
 have kc := ok_le hc hX
 have kd := ok_le hd hX
 refine J.held (fun w => Hp w0 w ([(b1, cel [.complex .f64 a.1 a.2, .complex .f64 b.1 b.2] 250)] :: F)) hmix fun w hs => ?_
 replace H := H.same hs; clear hs
 have hS : Hp w0 w ([(b1, cel [.complex .f64 a.1 a.2, .complex .f64 b.1 b.2] 250)] :: F) := H.drop
 refine JH.take 0 rfl (by kernel_rfl) (by kernel_rfl) (by kernel_rfl) rfl trivial (fun w H => RX.indexArr rfl rfl ar250 (by omega) (by omega) rfl) hS (JH.take 1 rfl (by kernel_rfl) (by kernel_rfl) (by kernel_rfl) rfl trivial (fun w H => RX.load H rfl (i := 0) (v := .complex .f64 a.1 a.2) rfl rfl one49) hS (JH.take 2 rfl (by kernel_rfl) (by kernel_rfl) (by kernel_rfl) rfl trivial (fun w H => RX.indexArr rfl rfl ar250 (by omega) (by omega) rfl) hS (JH.take 3 rfl (by kernel_rfl) (by kernel_rfl) (by kernel_rfl) rfl trivial (fun w H => RX.load H rfl (i := 0) (v := .complex .f64 b.1 b.2) rfl rfl one49) hS (JH.take 5 rfl (by kernel_rfl) (by kernel_rfl) (by kernel_rfl) rfl trivial (fun w H => RX.indexArr rfl rfl ar250 (by omega) (by omega) rfl) hS (JH.take 6 rfl (by kernel_rfl) (by kernel_rfl) (by kernel_rfl) rfl trivial (fun w H => RX.load H rfl (i := 0) (v := .complex .f64 a.1 a.2) rfl rfl one49) hS (JH.take 7 rfl (by kernel_rfl) (by kernel_rfl) (by kernel_rfl) rfl trivial (fun w H => RX.indexArr rfl rfl ar250 (by omega) (by omega) rfl) hS (JH.take 8 rfl (by kernel_rfl) (by kernel_rfl) (by kernel_rfl) rfl trivial (fun w H => RX.load H rfl (i := 0) (v := .complex .f64 b.1 b.2) rfl rfl one49) hS (JH.all [4] (by kernel_rfl) (by decide) (JHO.does rfl rfl trivial (EX.call rfl cl209 rfl ((add_b H ha hb kc kd))) ?_)))))))))
 rintro _ w ⟨r, rfl, hr, H⟩
 have hS : Hp w0 w ([(b1, cel [.complex .f64 a.1 a.2, .complex .f64 b.1 b.2] 250)] :: F) := H.drop
 refine ⟨hS, ?_⟩
 refine JH.all [9] (by kernel_rfl) (by decide) (JHO.does rfl rfl trivial (EX.call rfl cl210 rfl ((sub_b H ha hb kc kd))) ?_)
 rintro _ w ⟨s, rfl, hs, H⟩
 have hS : Hp w0 w ([(b1, cel [.complex .f64 a.1 a.2, .complex .f64 b.1 b.2] 250)] :: F) := H.drop
 refine ⟨hS, ?_⟩
 refine JH.take 10 rfl (by kernel_rfl) (by kernel_rfl) (by kernel_rfl) rfl trivial (fun w H => RX.build (pv := [(0, .complex .f64 r.1 r.2), (1, .complex .f64 s.1 s.2)]) (res := [.complex .f64 r.1 r.2, .complex .f64 s.1 s.2]) rfl (by kernel_rfl)) hS (JH.all [11] (by kernel_rfl) (by decide) (JHO.does rfl rfl trivial (by exact EX.storeAgg H rfl rfl (i := 0) rfl (by simp [isCell]) (by simp) sz250 rfl rfl) ?_))
 rintro _ w H
 have hS : Hp w0 w ([(b1, cel [.complex .f64 a.1 a.2, .complex .f64 b.1 b.2] 250)] :: F) := H.drop
 refine ⟨hS, ?_⟩
 refine JH.done (by kernel_rfl) (J.retc Tryz.func191 rfl H rfl (i := 0) rfl rfl ag250 ?_)
 exact ⟨_, rfl, r, s, rfl, hr, hs, H.drop.drop⟩
theorem Four_b {w0 w : World} {F : List Seg} (H : Hp w0 w F) {f0 f1 f2 f3 : Nat × Nat} {a0 a1 a2 a3 : Cf} {X : List Int} {ys : List Cf} (hX : InX X) (h0 : Zc f0 (ev a0 X)) (h1 : Zc f1 (ev a1 X)) (h2 : Zc f2 (ev a2 X)) (h3 : Zc f3 (ev a3 X)) (k0 : a0.ok = true) (k1 : a1.ok = true) (k2 : a2.ok = true) (k3 : a3.ok = true) (hy : flyF [a0, a1, a2, a3] = some ys) : Ret Tryz.prog 193 [.agg #[.complex .f64 f0.1 f0.2, .complex .f64 f1.1 f1.2, .complex .f64 f2.1 f2.2, .complex .f64 f3.1 f3.2]] w fun v w' => ∃ r0 r1 r2 r3 : Nat × Nat, v = .agg [.complex .f64 r0.1 r0.2, .complex .f64 r1.1 r1.2, .complex .f64 r2.1 r2.2, .complex .f64 r3.1 r3.2].toArray ∧ RelF X [r0, r1, r2, r3] ys ∧ Hp w0 w' F := by
 refine Calls.of_J (n := 42) Tryz.func193 rfl rfl rfl (J.seq (J.region (JL.e (EX.box (v := .agg #[.complex .f64 f0.1 f0.2, .complex .f64 f1.1 f1.2, .complex .f64 f2.1 f2.2, .complex .f64 f3.1 f3.2]) (l := [.complex .f64 f0.1 f0.2, .complex .f64 f1.1 f1.2, .complex .f64 f2.1 f2.2, .complex .f64 f3.1 f3.2]) H rfl rfl) ?_)))
 rintro _ w ⟨b1, rfl, H⟩
 refine JL.e (EX.alloc H zr254 rfl) ?_
 rintro _ w ⟨b2, rfl, H⟩
 refine JL.nil (J.seq ?_)
 obtain ⟨p1, p2, p3, p4, rfl, g0, g1, g2, g3⟩ := fly4 hy
 have l0 := ok_le k0 hX
 have l1 := ok_le k1 hX
 have l2 := ok_le k2 hX
 have l3 := ok_le k3 hX
 have m1 := ok_le p1 hX
 have m2 := ok_le p2 hX
 have m3 := ok_le p3 hX
 have m4 := ok_minusI p4 hX
 have m5 := ok_plusI p4 hX
 refine J.held (fun w => Hp w0 w ([(b1, cel [.complex .f64 f0.1 f0.2, .complex .f64 f1.1 f1.2, .complex .f64 f2.1 f2.2, .complex .f64 f3.1 f3.2] 254)] :: F)) hmix fun w hs => ?_
 replace H := H.same hs; clear hs
 have hS : Hp w0 w ([(b1, cel [.complex .f64 f0.1 f0.2, .complex .f64 f1.1 f1.2, .complex .f64 f2.1 f2.2, .complex .f64 f3.1 f3.2] 254)] :: F) := H.drop
 refine JH.take 0 rfl (by kernel_rfl) (by kernel_rfl) (by kernel_rfl) rfl trivial (fun w H => RX.indexArr rfl rfl ar254 (by omega) (by omega) rfl) hS (JH.take 1 rfl (by kernel_rfl) (by kernel_rfl) (by kernel_rfl) rfl trivial (fun w H => RX.load H rfl (i := 0) (v := .complex .f64 f0.1 f0.2) rfl rfl one49) hS (JH.take 2 rfl (by kernel_rfl) (by kernel_rfl) (by kernel_rfl) rfl trivial (fun w H => RX.indexArr rfl rfl ar254 (by omega) (by omega) rfl) hS (JH.take 3 rfl (by kernel_rfl) (by kernel_rfl) (by kernel_rfl) rfl trivial (fun w H => RX.load H rfl (i := 0) (v := .complex .f64 f2.1 f2.2) rfl rfl one49) hS (JH.take 5 rfl (by kernel_rfl) (by kernel_rfl) (by kernel_rfl) rfl trivial (fun w H => RX.indexArr rfl rfl ar254 (by omega) (by omega) rfl) hS (JH.take 6 rfl (by kernel_rfl) (by kernel_rfl) (by kernel_rfl) rfl trivial (fun w H => RX.load H rfl (i := 0) (v := .complex .f64 f0.1 f0.2) rfl rfl one49) hS (JH.take 7 rfl (by kernel_rfl) (by kernel_rfl) (by kernel_rfl) rfl trivial (fun w H => RX.indexArr rfl rfl ar254 (by omega) (by omega) rfl) hS (JH.take 8 rfl (by kernel_rfl) (by kernel_rfl) (by kernel_rfl) rfl trivial (fun w H => RX.load H rfl (i := 0) (v := .complex .f64 f2.1 f2.2) rfl rfl one49) hS (JH.all [4] (by kernel_rfl) (by decide) (JHO.does rfl rfl trivial (EX.call rfl cl209 rfl ((add_b H h0 h2 l0 l2))) ?_)))))))))
 rintro _ w ⟨p, rfl, hp, H⟩
 have hS : Hp w0 w ([(b1, cel [.complex .f64 f0.1 f0.2, .complex .f64 f1.1 f1.2, .complex .f64 f2.1 f2.2, .complex .f64 f3.1 f3.2] 254)] :: F) := H.drop
 refine ⟨hS, ?_⟩
 refine JH.all [9] (by kernel_rfl) (by decide) (JHO.does rfl rfl trivial (EX.call rfl cl210 rfl ((sub_b H h0 h2 l0 l2))) ?_)
 rintro _ w ⟨q, rfl, hq, H⟩
 have hS : Hp w0 w ([(b1, cel [.complex .f64 f0.1 f0.2, .complex .f64 f1.1 f1.2, .complex .f64 f2.1 f2.2, .complex .f64 f3.1 f3.2] 254)] :: F) := H.drop
 refine ⟨hS, ?_⟩
 refine JH.take 10 rfl (by kernel_rfl) (by kernel_rfl) (by kernel_rfl) rfl trivial (fun w H => RX.assignv (v := .complex _ _ _) rfl) hS (JH.take 11 rfl (by kernel_rfl) (by kernel_rfl) (by kernel_rfl) rfl trivial (fun w H => RX.assignv (v := .complex _ _ _) rfl) hS (JH.done (by kernel_rfl) (J.seq (J.held (fun w => Hp w0 w ([(b1, cel [.complex .f64 f0.1 f0.2, .complex .f64 f1.1 f1.2, .complex .f64 f2.1 f2.2, .complex .f64 f3.1 f3.2] 254)] :: F)) hmix fun w hs => ?_))))
 replace H := H.same hs; clear hs
 have hS : Hp w0 w ([(b1, cel [.complex .f64 f0.1 f0.2, .complex .f64 f1.1 f1.2, .complex .f64 f2.1 f2.2, .complex .f64 f3.1 f3.2] 254)] :: F) := H.drop
 refine JH.take 0 rfl (by kernel_rfl) (by kernel_rfl) (by kernel_rfl) rfl trivial (fun w H => RX.indexArr rfl rfl ar254 (by omega) (by omega) rfl) hS (JH.take 1 rfl (by kernel_rfl) (by kernel_rfl) (by kernel_rfl) rfl trivial (fun w H => RX.load H rfl (i := 0) (v := .complex .f64 f1.1 f1.2) rfl rfl one49) hS (JH.take 2 rfl (by kernel_rfl) (by kernel_rfl) (by kernel_rfl) rfl trivial (fun w H => RX.indexArr rfl rfl ar254 (by omega) (by omega) rfl) hS (JH.take 3 rfl (by kernel_rfl) (by kernel_rfl) (by kernel_rfl) rfl trivial (fun w H => RX.load H rfl (i := 0) (v := .complex .f64 f3.1 f3.2) rfl rfl one49) hS (JH.take 5 rfl (by kernel_rfl) (by kernel_rfl) (by kernel_rfl) rfl trivial (fun w H => RX.indexArr rfl rfl ar254 (by omega) (by omega) rfl) hS (JH.take 6 rfl (by kernel_rfl) (by kernel_rfl) (by kernel_rfl) rfl trivial (fun w H => RX.load H rfl (i := 0) (v := .complex .f64 f1.1 f1.2) rfl rfl one49) hS (JH.take 7 rfl (by kernel_rfl) (by kernel_rfl) (by kernel_rfl) rfl trivial (fun w H => RX.indexArr rfl rfl ar254 (by omega) (by omega) rfl) hS (JH.take 8 rfl (by kernel_rfl) (by kernel_rfl) (by kernel_rfl) rfl trivial (fun w H => RX.load H rfl (i := 0) (v := .complex .f64 f3.1 f3.2) rfl rfl one49) hS (JH.all [4] (by kernel_rfl) (by decide) (JHO.does rfl rfl trivial (EX.call rfl cl209 rfl ((add_b H h1 h3 l1 l3))) ?_)))))))))
 rintro _ w ⟨s, rfl, hs, H⟩
 have hS : Hp w0 w ([(b1, cel [.complex .f64 f0.1 f0.2, .complex .f64 f1.1 f1.2, .complex .f64 f2.1 f2.2, .complex .f64 f3.1 f3.2] 254)] :: F) := H.drop
 refine ⟨hS, ?_⟩
 refine JH.all [9] (by kernel_rfl) (by decide) (JHO.does rfl rfl trivial (EX.call rfl cl210 rfl ((sub_b H h1 h3 l1 l3))) ?_)
 rintro _ w ⟨u, rfl, hu, H⟩
 have hS : Hp w0 w ([(b1, cel [.complex .f64 f0.1 f0.2, .complex .f64 f1.1 f1.2, .complex .f64 f2.1 f2.2, .complex .f64 f3.1 f3.2] 254)] :: F) := H.drop
 refine ⟨hS, ?_⟩
 refine JH.take 10 rfl (by kernel_rfl) (by kernel_rfl) (by kernel_rfl) rfl trivial (fun w H => RX.assignv (v := .complex _ _ _) rfl) hS (JH.take 11 rfl (by kernel_rfl) (by kernel_rfl) (by kernel_rfl) rfl trivial (fun w H => RX.assignv (v := .complex _ _ _) rfl) hS (JH.done (by kernel_rfl) (J.seq (J.region (JL.g (RX.movev (v := .complex _ _ _) rfl) (JL.g (RX.movev (v := .complex _ _ _) rfl) (JL.e (EX.call rfl cl209 rfl ((add_b H hp hs m1 m3))) ?_)))))))
 rintro _ w ⟨y0, rfl, hy0, H⟩
 refine JL.g (RX.movev (v := .complex _ _ _) rfl) (JL.g (RX.movev (v := .complex _ _ _) rfl) (JL.e (EX.call rfl cl212 rfl ((MinusI_b H hu))) ?_))
 rintro _ w ⟨u1, rfl, hu1, H⟩
 rw [← ev_minusI] at hu1
 refine JL.e (EX.call rfl cl209 rfl ((add_b H hq hu1 m2 m4))) ?_
 rintro _ w ⟨y1, rfl, hy1, H⟩
 refine JL.g (RX.movev (v := .complex _ _ _) rfl) (JL.g (RX.movev (v := .complex _ _ _) rfl) (JL.e (EX.call rfl cl210 rfl ((sub_b H hp hs m1 m3))) ?_))
 rintro _ w ⟨y2, rfl, hy2, H⟩
 refine JL.g (RX.movev (v := .complex _ _ _) rfl) (JL.g (RX.movev (v := .complex _ _ _) rfl) (JL.e (EX.call rfl cl213 rfl ((TimesI_b H hu))) ?_))
 rintro _ w ⟨u2, rfl, hu2, H⟩
 rw [← ev_plusI] at hu2
 refine JL.e (EX.call rfl cl209 rfl ((add_b H hq hu2 m2 m5))) ?_
 rintro _ w ⟨y3, rfl, hy3, H⟩
 refine JL.g (RX.build (pv := [(0, .complex .f64 y0.1 y0.2), (1, .complex .f64 y1.1 y1.2), (2, .complex .f64 y2.1 y2.2), (3, .complex .f64 y3.1 y3.2)]) (res := [.complex .f64 y0.1 y0.2, .complex .f64 y1.1 y1.2, .complex .f64 y2.1 y2.2, .complex .f64 y3.1 y3.2]) rfl (by kernel_rfl)) (JL.e (by exact EX.storeAgg H rfl rfl (i := 0) rfl (by simp [isCell]) (by simp) sz254 rfl rfl) ?_)
 rintro _ w H
 refine JL.nil (J.retc Tryz.func193 rfl H rfl (i := 0) rfl rfl ag254 ?_)
 exact ⟨_, rfl, y0, y1, y2, y3, rfl, relF4 hy0 hy1 hy2 hy3 g0 g1 g2 g3, H.drop.drop⟩
theorem Fly2_b {w0 w : World} {F : List Seg} (H : Hp w0 w F) {f0 f1 : Nat × Nat} {a0 a1 : Cf} {X : List Int} {ys : List Cf} {px : Option Addr} {cx : Nat} (hX : InX X) (hs : SlAt F px (cxs [f0, f1])) (hr : RelF X [f0, f1] [a0, a1]) (hy : flyF [a0, a1] = some ys) : Ret Tryz.prog 178 [.slice px 2 cx] w fun v w' => ∃ b gs, v = .tuple #[.slice (some ⟨b, 0, none⟩) 2 2, .nilIface] ∧ gs.length = 2 ∧ RelF X gs ys ∧ Hp w0 w' ([(b, cel (cxs gs) 250)] :: F) := by
 refine Calls.of_J (n := 39) Tryz.func178 rfl rfl rfl (J.seq ?_)
 obtain ⟨o0, h0⟩ := hr.at_ (i := 0) rfl rfl
 obtain ⟨o1, h1⟩ := hr.at_ (i := 1) rfl rfl
 obtain ⟨rfl, g0, g1⟩ := fly2 hy
 obtain ⟨pb, po, rfl, hpp⟩ := hs.some (by simp [cxs])
 refine J.region (JL.g (RX.assign) (JL.g (RX.assign) (JL.nil (J.seq (J.seq (J.region (JL.ms rfl (JL.g (RX.len_slice rfl (by rw [sl27]; rfl) rfl) ?_))))))))
 refine JL.nil (J.block (J.seq (J.region (JL.g (RX.eq rfl rfl) (JL.ab rfl (JL.nil (J.cond_t rfl (decide_eq_true rfl) (J.seq (J.region (JL.ms rfl (JL.g (RX.toArr rfl ud250 (by decide)) (JL.g (RX.loadAggS H hs rfl (j := 0) (by omega) (vs := [.complex .f64 f0.1 f0.2, .complex .f64 f1.1 f1.2]) rfl ag250) (JL.e (EX.call rfl cl191 rfl ((Two_b H hX h0 h1 o0 o1))) ?_)))))))))))))
 rintro _ w ⟨r, s, rfl, hr1, hs1, H⟩
 refine JL.e (EX.alloc H zr250 rfl) ?_
 rintro _ w ⟨bo, rfl, H⟩
 refine JL.e (by first | exact EX.storeAgg H rfl rfl (i := 0) rfl (by simp [isCell]) (by simp) sz250 rfl rfl) ?_
 rintro _ w H
 refine JL.nil (J.seq (J.region (JL.g (RX.sliceArr rfl ar250) (JL.al rfl (JL.g (RX.assign) (JL.nil (J.ret2 (v := .slice _ _ _) Tryz.func178 rfl rfl rfl ?_)))))))
 exact ⟨_, rfl, bo, [r, s], rfl, rfl, relF2 hr1 hs1 g0 g1, H⟩
theorem Fly4_b {w0 w : World} {F : List Seg} (H : Hp w0 w F) {f0 f1 f2 f3 : Nat × Nat} {a0 a1 a2 a3 : Cf} {X : List Int} {ys : List Cf} {px : Option Addr} {cx : Nat} (hX : InX X) (hs : SlAt F px (cxs [f0, f1, f2, f3])) (hr : RelF X [f0, f1, f2, f3] [a0, a1, a2, a3]) (hy : flyF [a0, a1, a2, a3] = some ys) : Ret Tryz.prog 178 [.slice px 4 cx] w fun v w' => ∃ b gs, v = .tuple #[.slice (some ⟨b, 0, none⟩) 4 4, .nilIface] ∧ gs.length = 4 ∧ RelF X gs ys ∧ Hp w0 w' ([(b, cel (cxs gs) 254)] :: F) := by
 refine Calls.of_J (n := 39) Tryz.func178 rfl rfl rfl (J.seq ?_)
 obtain ⟨o0, h0⟩ := hr.at_ (i := 0) rfl rfl
 obtain ⟨o1, h1⟩ := hr.at_ (i := 1) rfl rfl
 obtain ⟨o2, h2⟩ := hr.at_ (i := 2) rfl rfl
 obtain ⟨o3, h3⟩ := hr.at_ (i := 3) rfl rfl
 obtain ⟨pb, po, rfl, hpp⟩ := hs.some (by simp [cxs])
 refine J.region (JL.g (RX.assign) (JL.g (RX.assign) (JL.nil (J.seq (J.seq (J.region (JL.ms rfl (JL.g (RX.len_slice rfl (by rw [sl27]; rfl) rfl) ?_))))))))
 refine JL.nil (J.block (J.seq (J.region (JL.g (RX.eq rfl rfl) (JL.ab rfl (JL.nil (J.cond_f rfl (decide_eq_false (by decide)) (J.seq (J.region (JL.g (RX.eq rfl rfl) (JL.ab rfl (JL.nil (J.cond_f rfl (decide_eq_false (by decide)) (J.seq (J.region (JL.g (RX.eq rfl rfl) (JL.ab rfl (JL.nil (J.cond_t rfl (decide_eq_true rfl) (J.seq (J.region (JL.ms rfl (JL.g (RX.toArr rfl ud254 (by decide)) (JL.g (RX.loadAggS H hs rfl (j := 0) (by omega) (vs := [.complex .f64 f0.1 f0.2, .complex .f64 f1.1 f1.2, .complex .f64 f2.1 f2.2, .complex .f64 f3.1 f3.2]) rfl ag254) (JL.e (EX.call rfl cl193 rfl ((Four_b H hX h0 h1 h2 h3 o0 o1 o2 o3 hy))) ?_)))))))))))))))))))))))))
 rintro _ w ⟨r0, r1, r2, r3, rfl, hrr, H⟩
 refine JL.e (EX.alloc H zr254 rfl) ?_
 rintro _ w ⟨bo, rfl, H⟩
 refine JL.e (by first | exact EX.storeAgg H rfl rfl (i := 0) rfl (by simp [isCell]) (by simp) sz254 rfl rfl) ?_
 rintro _ w H
 refine JL.nil (J.seq (J.region (JL.g (RX.sliceArr rfl ar254) (JL.al rfl (JL.g (RX.assign) (JL.nil (J.ret2 (v := .slice _ _ _) Tryz.func178 rfl rfl rfl ?_)))))))
 exact ⟨_, rfl, bo, [r0, r1, r2, r3], rfl, rfl, hrr, H⟩
end Go.Proofs.YtfaokllgaambjaaGreatDoor
namespace Go.Proofs.YtfaokllgaambjaaGreatDoor
open Go Go.Eng
set_option maxRecDepth 100000
set_option maxHeartbeats 1600000
theorem cl177 : callable Tryz.prog 177 = true := by kernel_rfl
theorem cl179 : callable Tryz.prog 179 = true := by kernel_rfl
theorem fo178_1 : fieldOff Tryz.prog 178 1 = some 1 := by kernel_rfl
theorem fo178_2 : fieldOff Tryz.prog 178 2 = some 2 := by kernel_rfl
theorem fo178_3 : fieldOff Tryz.prog 178 3 = some 3 := by kernel_rfl
theorem fo178_5 : fieldOff Tryz.prog 178 5 = some 5 := by kernel_rfl
theorem fo178_6 : fieldOff Tryz.prog 178 6 = some 6 := by kernel_rfl
theorem fo185_2 : fieldOff Tryz.prog 185 2 = some 6 := by kernel_rfl
def spV (s : Sp) : List Value := [.int .i64 ((s.op : Nat) : Int), .int .i64 ((s.dst : Nat) : Int), .int .i64 ((s.src : Nat) : Int), .int .i64 ((s.jump : Nat) : Int), .int .i64 ((s.count : Nat) : Int), .int .i64 ((s.n : Nat) : Int), .int .i64 ((s.k : Nat) : Int)]
def Sp.ac (s : Sp) : Ac := ⟨s.op, s.dst, s.src, s.jump, s.n, s.k⟩
def mcV (p0 p1 p2 p3 p4 by_ cl ac dn st at_ fl : Value) (fr : List Value) : List Value := p0 :: p1 :: p2 :: p3 :: p4 :: by_ :: cl :: ac :: dn :: st :: at_ :: fl :: fr
theorem act1 {s : Sp} {i : Nat} {cs cs' : List Cf} (h0 : s.op = 1) (h : actF s.ac i cs = some cs') : ∃ v, cs[s.src + i * s.jump]? = some v ∧ s.dst + i < cs.length ∧ cs' = cs.set (s.dst + i) v := by
 simp only [actF, Sp.ac, h0, Option.bind_eq_bind, Option.bind_eq_some_iff] at h
 obtain ⟨v, hv, hp⟩ := h
 obtain ⟨h1, h2⟩ := putF_some hp
 exact ⟨v, hv, h1, h2⟩
theorem act2 {s : Sp} {i : Nat} {cs cs' : List Cf} (h0 : s.op = 2) (h : actF s.ac i cs = some cs') : ∃ v, cs[s.src + i]? = some v ∧ s.dst + i * s.jump < cs.length ∧ cs' = cs.set (s.dst + i * s.jump) v := by
 simp only [actF, Sp.ac, h0, Option.bind_eq_bind, Option.bind_eq_some_iff] at h
 obtain ⟨v, hv, hp⟩ := h
 obtain ⟨h1, h2⟩ := putF_some hp
 exact ⟨v, hv, h1, h2⟩
theorem act4 {s : Sp} {i : Nat} {cs cs' : List Cf} (h0 : s.op = 4) (h : actF s.ac i cs = some cs') : ∃ v r, cs[s.dst + i]? = some v ∧ (s.k * i % s.n = 0 ∧ r = v ∨ s.k * i % s.n ≠ 0 ∧ r = v.mulw (wq (4 * (s.k * i % s.n) / s.n)) ∧ r.ok = true) ∧ s.dst + i < cs.length ∧ cs' = cs.set (s.dst + i) r := by
 simp only [actF, Sp.ac, h0, Option.bind_eq_some_iff] at h
 obtain ⟨v, hv, r, hr, hp⟩ := h
 obtain ⟨h1, h2⟩ := putF_some hp
 refine ⟨v, r, hv, ?_, h1, h2⟩
 by_cases e : s.k * i % s.n = 0
 · rw [if_pos e] at hr; exact .inl ⟨e, (Option.some.inj hr).symm⟩
 · rw [if_neg e] at hr
   obtain ⟨h3, rfl⟩ := okF_some hr
   exact .inr ⟨e, rfl, h3⟩
theorem act6 {s : Sp} {i : Nat} {cs cs' : List Cf} (h0 : s.op = 6) (h : actF s.ac i cs = some cs') : ∃ r, dsum s.n i (fun j => getF cs (s.src + j * s.jump)) (s.n - 1) = some r ∧ s.dst + i < cs.length ∧ cs' = cs.set (s.dst + i) r := by
 simp only [actF, Sp.ac, h0, Option.bind_eq_bind, Option.bind_eq_some_iff] at h
 obtain ⟨v, hv, hp⟩ := h
 obtain ⟨h1, h2⟩ := putF_some hp
 exact ⟨v, hv, h1, h2⟩
theorem act5 {s : Sp} {i : Nat} {cs cs' : List Cf} (h0 : s.op = 5) (h : actF s.ac i cs = some cs') : ∃ a y, (List.range s.n).mapM (fun q => getF cs (s.dst + i + q * s.jump)) = some a ∧ flyF a = some y ∧ putsF cs (s.dst + i) s.jump y = some cs' := by
 simp only [actF, Sp.ac, h0, Option.bind_eq_bind, Option.bind_eq_some_iff] at h
 obtain ⟨a, ha, y, hy, hp⟩ := h
 exact ⟨a, y, ha, hy, hp⟩
theorem dsum_all {n k : Nat} {x : Nat → Option Cf} : ∀ {m : Nat} {r : Cf}, dsum n k x m = some r → ∀ j, j ≤ m → ∃ c, x j = some c
  | 0, r, h, j, hj => ⟨r, by rw [show j = 0 by omega]; exact h⟩
  | m + 1, r, h, j, hj => by
    obtain ⟨s, a, b, hs, ha, _⟩ := dsum_step h
    by_cases e : j = m + 1
    · exact ⟨a, by rw [e]; exact ha⟩
    · exact dsum_all hs j (by omega)
theorem nat_modg (m n : Nat) : (((m : Nat) : Int) % (n : Int)).toNat = m % n := by rw [← Int.natCast_emod, Int.toNat_natCast]
theorem RelF.get {X : List Int} {fs : List (Nat × Nat)} {cs : List Cf} (h : RelF X fs cs) {i : Nat} {c : Cf} (hc : cs[i]? = some c) : ∃ f, fs[i]? = some f ∧ Zc f (ev c X) ∧ c.ok = true := by
 obtain ⟨k, f, hf, hz⟩ := h.2 i c hc
 exact ⟨f, hf, hz, k⟩
def Sp.sm (s : Sp) : Prop := s.dst ≤ 1000 ∧ s.src ≤ 1000 ∧ s.jump ≤ 1000 ∧ s.count ≤ 1000 ∧ (s.n = 1 ∨ s.n = 2 ∨ s.n = 4 ∨ s.n = 0) ∧ s.k ≤ 1000
theorem gather_m {w0 w : World} {F : List Seg} {bm bc i : Nat} {p0 p1 p2 p3 p4 by_ ac dn st at_ fl : Value} {fr : List Value} {s : Sp} {fs : List (Nat × Nat)} {cs cs' : List Cf} {X : List Int} (H : Hp w0 w ([(bm, cel (mcV p0 p1 p2 p3 p4 by_ (.slice (some ⟨bc, 0, none⟩) fs.length fs.length) ac dn st at_ fl fr) 185)] :: [(bc, cel (cxs fs) 49)] :: F)) (hX : InX X) (hs : s.sm) (hi : i ≤ 1000) (hl : cs.length ≤ 1000) (hr : RelF X fs cs) (ha : actF s.ac i cs = some cs') (h0 : s.op = 1) : Ret Tryz.prog 157 [.pointer (some ⟨bm, 0, none⟩), .agg (spV s).toArray, .int .i64 ((i : Nat) : Int)] w fun _ w' => ∃ fs', fs'.length = fs.length ∧ cs'.length = cs.length ∧ RelF X fs' cs' ∧ Hp w0 w' ([(bm, cel (mcV p0 p1 p2 p3 p4 by_ (.slice (some ⟨bc, 0, none⟩) fs.length fs.length) ac dn st at_ fl fr) 185)] :: [(bc, cel (cxs fs') 49)] :: F) := by
 refine Calls.of_J (n := 28) Tryz.func157 rfl rfl rfl (J.seq ?_)
 obtain ⟨s1, s2, s3, s4, s5, s6⟩ := hs
 have hfl := hr.1
 have hij := Nat.mul_le_mul hi s3
 have hki := Nat.mul_le_mul s6 hi
 obtain ⟨v, hv, hd, rfl⟩ := act1 h0 ha
 have hvl := getE_lt hv
 obtain ⟨f, hf, hz, ho⟩ := hr.get hv
 refine J.region (JL.e (EX.box (v := .agg (spV s).toArray) (l := spV s) H rfl rfl) ?_)
 rintro _ w ⟨b4, rfl, H⟩
 refine JL.nil (J.any hmix fun w hs => ?_)
 replace H := H.same hs; clear hs
 refine JA.stage (listed := [false, false, false, false, false, false, false, false, false, false, false, false, false, false, false, false, false, false, false, false, false, false, false]) 22 [0, 1, 2, 3, 4, 5, 6, 7, 8, 9, 10, 11, 12, 13, 14, 15, 16, 17, 18, 19, 20, 21] H (by kernel_rfl) rfl rfl (JI.go rfl trivial (fun w H => RX.movev (v := .pointer _) rfl) (JI.go rfl trivial (fun w H => RX.nilCheck rfl) (JI.go rfl trivial (fun w H => RX.fieldAddr rfl fo185_2 rfl) (JI.go rfl trivial (fun w H => RX.load H rfl (i := 1) (v := .slice _ _ _) rfl rfl one27) (JI.go rfl trivial (fun w H => RX.fieldAddr rfl fo178_1 rfl) (JI.go rfl trivial (fun w H => RX.load H rfl (i := 0) (v := .int _ _) rfl rfl one3) (JI.go rfl trivial (fun w H => RX.movev (v := .int _ _) rfl) (JI.go rfl trivial (fun w H => RX.add rfl rfl (wi (n := s.dst + i) (by omega) (by omega))) (JI.go rfl trivial (fun w H => RX.movev (v := .pointer _) rfl) (JI.go rfl trivial (fun w H => RX.nilCheck rfl) (JI.go rfl trivial (fun w H => RX.fieldAddr rfl fo185_2 rfl) (JI.go rfl trivial (fun w H => RX.load H rfl (i := 1) (v := .slice _ _ _) rfl rfl one27) (JI.go rfl trivial (fun w H => RX.fieldAddr rfl fo178_2 rfl) (JI.go rfl trivial (fun w H => RX.load H rfl (i := 0) (v := .int _ _) rfl rfl one3) (JI.go rfl trivial (fun w H => RX.movev (v := .int _ _) rfl) (JI.go rfl trivial (fun w H => RX.fieldAddr rfl fo178_3 rfl) (JI.go rfl trivial (fun w H => RX.load H rfl (i := 0) (v := .int _ _) rfl rfl one3) (JI.go rfl trivial (fun w H => RX.mul rfl rfl (wi (n := i * s.jump) (Int.natCast_mul _ _).symm (by omega))) (JI.go rfl trivial (fun w H => RX.add rfl rfl (wi (n := s.src + i * s.jump) (by omega) (by omega))) (JI.go rfl trivial (fun w H => RX.indexAddr rfl rfl sl27 (by omega) (by omega) (o' := s.src + i * s.jump) (by omega)) (JI.go rfl trivial (fun w H => RX.load H rfl (i := 2) (v := .complex .f64 f.1 f.2) rfl (cxs_get hf) one49) (JI.go rfl trivial (fun w H => RX.indexAddr rfl rfl sl27 (by omega) (by omega) (o' := s.dst + i) (by omega)) (JI.nil fun w H => (JL.e (EX.store (v := .complex _ _ _) H rfl rfl (i := 2) rfl rfl (by rw [cxs_len]; omega) sz49 rfl rfl) ?_))))))))))))))))))))))))
 rintro _ w H
 refine JL.nil (J.end0 Tryz.func157 rfl ?_)
 rw [← cxs_set] at H
 exact ⟨_, rfl, fs.set (s.dst + i) f, by simp, by simp, hr.set hz ho, H.drop⟩
theorem scatter_m {w0 w : World} {F : List Seg} {bm bc i : Nat} {p0 p1 p2 p3 p4 by_ ac dn st at_ fl : Value} {fr : List Value} {s : Sp} {fs : List (Nat × Nat)} {cs cs' : List Cf} {X : List Int} (H : Hp w0 w ([(bm, cel (mcV p0 p1 p2 p3 p4 by_ (.slice (some ⟨bc, 0, none⟩) fs.length fs.length) ac dn st at_ fl fr) 185)] :: [(bc, cel (cxs fs) 49)] :: F)) (hX : InX X) (hs : s.sm) (hi : i ≤ 1000) (hl : cs.length ≤ 1000) (hr : RelF X fs cs) (ha : actF s.ac i cs = some cs') (h0 : s.op = 2) : Ret Tryz.prog 158 [.pointer (some ⟨bm, 0, none⟩), .agg (spV s).toArray, .int .i64 ((i : Nat) : Int)] w fun _ w' => ∃ fs', fs'.length = fs.length ∧ cs'.length = cs.length ∧ RelF X fs' cs' ∧ Hp w0 w' ([(bm, cel (mcV p0 p1 p2 p3 p4 by_ (.slice (some ⟨bc, 0, none⟩) fs.length fs.length) ac dn st at_ fl fr) 185)] :: [(bc, cel (cxs fs') 49)] :: F) := by
 refine Calls.of_J (n := 28) Tryz.func158 rfl rfl rfl (J.seq ?_)
 obtain ⟨s1, s2, s3, s4, s5, s6⟩ := hs
 have hfl := hr.1
 have hij := Nat.mul_le_mul hi s3
 have hki := Nat.mul_le_mul s6 hi
 obtain ⟨v, hv, hd, rfl⟩ := act2 h0 ha
 have hvl := getE_lt hv
 obtain ⟨f, hf, hz, ho⟩ := hr.get hv
 refine J.region (JL.e (EX.box (v := .agg (spV s).toArray) (l := spV s) H rfl rfl) ?_)
 rintro _ w ⟨b4, rfl, H⟩
 refine JL.nil (J.any hmix fun w hs => ?_)
 replace H := H.same hs; clear hs
 refine JA.stage (listed := [false, false, false, false, false, false, false, false, false, false, false, false, false, false, false, false, false, false, false, false, false, false, false]) 22 [0, 1, 2, 3, 4, 5, 6, 7, 8, 9, 10, 11, 12, 13, 14, 15, 16, 17, 18, 19, 20, 21] H (by kernel_rfl) rfl rfl (JI.go rfl trivial (fun w H => RX.movev (v := .pointer _) rfl) (JI.go rfl trivial (fun w H => RX.nilCheck rfl) (JI.go rfl trivial (fun w H => RX.fieldAddr rfl fo185_2 rfl) (JI.go rfl trivial (fun w H => RX.load H rfl (i := 1) (v := .slice _ _ _) rfl rfl one27) (JI.go rfl trivial (fun w H => RX.fieldAddr rfl fo178_1 rfl) (JI.go rfl trivial (fun w H => RX.load H rfl (i := 0) (v := .int _ _) rfl rfl one3) (JI.go rfl trivial (fun w H => RX.movev (v := .int _ _) rfl) (JI.go rfl trivial (fun w H => RX.fieldAddr rfl fo178_3 rfl) (JI.go rfl trivial (fun w H => RX.load H rfl (i := 0) (v := .int _ _) rfl rfl one3) (JI.go rfl trivial (fun w H => RX.mul rfl rfl (wi (n := i * s.jump) (Int.natCast_mul _ _).symm (by omega))) (JI.go rfl trivial (fun w H => RX.add rfl rfl (wi (n := s.dst + i * s.jump) (by omega) (by omega))) (JI.go rfl trivial (fun w H => RX.movev (v := .pointer _) rfl) (JI.go rfl trivial (fun w H => RX.nilCheck rfl) (JI.go rfl trivial (fun w H => RX.fieldAddr rfl fo185_2 rfl) (JI.go rfl trivial (fun w H => RX.load H rfl (i := 1) (v := .slice _ _ _) rfl rfl one27) (JI.go rfl trivial (fun w H => RX.fieldAddr rfl fo178_2 rfl) (JI.go rfl trivial (fun w H => RX.load H rfl (i := 0) (v := .int _ _) rfl rfl one3) (JI.go rfl trivial (fun w H => RX.movev (v := .int _ _) rfl) (JI.go rfl trivial (fun w H => RX.add rfl rfl (wi (n := s.src + i) (by omega) (by omega))) (JI.go rfl trivial (fun w H => RX.indexAddr rfl rfl sl27 (by omega) (by omega) (o' := s.src + i) (by omega)) (JI.go rfl trivial (fun w H => RX.load H rfl (i := 2) (v := .complex .f64 f.1 f.2) rfl (cxs_get hf) one49) (JI.go rfl trivial (fun w H => RX.indexAddr rfl rfl sl27 (by omega) (by omega) (o' := s.dst + i * s.jump) (by omega)) (JI.nil fun w H => (JL.e (EX.store (v := .complex _ _ _) H rfl rfl (i := 2) rfl rfl (by rw [cxs_len]; omega) sz49 rfl rfl) ?_))))))))))))))))))))))))
 rintro _ w H
 refine JL.nil (J.end0 Tryz.func158 rfl ?_)
 rw [← cxs_set] at H
 exact ⟨_, rfl, fs.set (s.dst + i * s.jump) f, by simp, by simp, hr.set hz ho, H.drop⟩
theorem twist_m {w0 w : World} {F : List Seg} {bm bc i : Nat} {p0 p1 p2 p3 p4 by_ ac dn st at_ fl : Value} {fr : List Value} {s : Sp} {fs : List (Nat × Nat)} {cs cs' : List Cf} {X : List Int} (H : Hp w0 w ([(bm, cel (mcV p0 p1 p2 p3 p4 by_ (.slice (some ⟨bc, 0, none⟩) fs.length fs.length) ac dn st at_ fl fr) 185)] :: [(bc, cel (cxs fs) 49)] :: F)) (hX : InX X) (hs : s.sm) (hi : i ≤ 1000) (hl : cs.length ≤ 1000) (hr : RelF X fs cs) (ha : actF s.ac i cs = some cs') (h0 : s.op = 4) (hn : s.n = 1 ∨ s.n = 2 ∨ s.n = 4) : Ret Tryz.prog 160 [.pointer (some ⟨bm, 0, none⟩), .agg (spV s).toArray, .int .i64 ((i : Nat) : Int)] w fun _ w' => ∃ fs', fs'.length = fs.length ∧ cs'.length = cs.length ∧ RelF X fs' cs' ∧ Hp w0 w' ([(bm, cel (mcV p0 p1 p2 p3 p4 by_ (.slice (some ⟨bc, 0, none⟩) fs.length fs.length) ac dn st at_ fl fr) 185)] :: [(bc, cel (cxs fs') 49)] :: F) := by
 refine Calls.of_J (n := 40) Tryz.func160 rfl rfl rfl (J.seq ?_)
 obtain ⟨s1, s2, s3, s4, s5, s6⟩ := hs
 have hfl := hr.1
 have hij := Nat.mul_le_mul hi s3
 have hki := Nat.mul_le_mul s6 hi
 obtain ⟨v, r, hv, hrv, hd, rfl⟩ := act4 h0 ha
 obtain ⟨f, hf, hz, ho⟩ := hr.get hv
 obtain ⟨l1, l2⟩ := ok_le ho hX
 refine J.region (JL.e (EX.box (v := .agg (spV s).toArray) (l := spV s) H rfl rfl) ?_)
 rintro _ w ⟨b4, rfl, H⟩
 refine JL.nil (J.seq (J.held (fun w => Hp w0 w ([(b4, cel (spV s) 178)] :: [(bm, cel (mcV p0 p1 p2 p3 p4 by_ (.slice (some ⟨bc, 0, none⟩) fs.length fs.length) ac dn st at_ fl fr) 185)] :: [(bc, cel (cxs fs) 49)] :: F)) hmix fun w hs => ?_))
 replace H := H.same hs; clear hs
 have hS : Hp w0 w ([(b4, cel (spV s) 178)] :: [(bm, cel (mcV p0 p1 p2 p3 p4 by_ (.slice (some ⟨bc, 0, none⟩) fs.length fs.length) ac dn st at_ fl fr) 185)] :: [(bc, cel (cxs fs) 49)] :: F) := H
 refine JH.take 0 rfl (by kernel_rfl) (by kernel_rfl) (by kernel_rfl) rfl trivial (fun w H => RX.movev (v := .pointer _) rfl) hS (JH.take 1 rfl (by kernel_rfl) (by kernel_rfl) (by kernel_rfl) rfl trivial (fun w H => RX.nilCheck rfl) hS (JH.take 2 rfl (by kernel_rfl) (by kernel_rfl) (by kernel_rfl) rfl trivial (fun w H => RX.fieldAddr rfl fo185_2 rfl) hS (JH.take 3 rfl (by kernel_rfl) (by kernel_rfl) (by kernel_rfl) rfl trivial (fun w H => RX.load H rfl (i := 1) (v := .slice _ _ _) rfl rfl one27) hS (JH.take 4 rfl (by kernel_rfl) (by kernel_rfl) (by kernel_rfl) rfl trivial (fun w H => RX.fieldAddr rfl fo178_1 rfl) hS (JH.take 5 rfl (by kernel_rfl) (by kernel_rfl) (by kernel_rfl) rfl trivial (fun w H => RX.load H rfl (i := 0) (v := .int _ _) rfl rfl one3) hS (JH.take 6 rfl (by kernel_rfl) (by kernel_rfl) (by kernel_rfl) rfl trivial (fun w H => RX.movev (v := .int _ _) rfl) hS (JH.take 7 rfl (by kernel_rfl) (by kernel_rfl) (by kernel_rfl) rfl trivial (fun w H => RX.add rfl rfl (wi (n := s.dst + i) (by omega) (by omega))) hS (JH.take 8 rfl (by kernel_rfl) (by kernel_rfl) (by kernel_rfl) rfl trivial (fun w H => RX.indexAddr rfl rfl sl27 (by omega) (by omega) (o' := s.dst + i) (by omega)) hS (JH.take 9 rfl (by kernel_rfl) (by kernel_rfl) (by kernel_rfl) rfl trivial (fun w H => RX.load H rfl (i := 2) (v := .complex .f64 f.1 f.2) rfl (cxs_get hf) one49) hS (JH.take 10 rfl (by kernel_rfl) (by kernel_rfl) (by kernel_rfl) rfl trivial (fun w H => RX.fieldAddr rfl fo178_5 rfl) hS (JH.take 11 rfl (by kernel_rfl) (by kernel_rfl) (by kernel_rfl) rfl trivial (fun w H => RX.load H rfl (i := 0) (v := .int _ _) rfl rfl one3) hS (JH.take 12 rfl (by kernel_rfl) (by kernel_rfl) (by kernel_rfl) rfl trivial (fun w H => RX.fieldAddr rfl fo178_6 rfl) hS (JH.take 13 rfl (by kernel_rfl) (by kernel_rfl) (by kernel_rfl) rfl trivial (fun w H => RX.load H rfl (i := 0) (v := .int _ _) rfl rfl one3) hS (JH.take 14 rfl (by kernel_rfl) (by kernel_rfl) (by kernel_rfl) rfl trivial (fun w H => RX.movev (v := .int _ _) rfl) hS (JH.take 15 rfl (by kernel_rfl) (by kernel_rfl) (by kernel_rfl) rfl trivial (fun w H => RX.mul rfl rfl (wi (n := s.k * i) (Int.natCast_mul _ _).symm (by omega))) hS (JH.all [16] (by kernel_rfl) (by decide) (JHO.does rfl rfl trivial (EX.call rfl cl177 rfl ((Twist_b (k := ((s.k * i : Nat) : Int)) H hz l1 l2 hn (by omega) (by omega)))) ?_)))))))))))))))))
 rintro _ w ⟨g, rfl, hg, H⟩
 replace hg : Zc g (ev r X) ∧ r.ok = true := by
   rw [nat_modg] at hg
   rcases hrv with ⟨e, rfl⟩ | ⟨e, rfl, hk⟩
   · rw [if_pos e] at hg; exact ⟨hg, ho⟩
   · rw [if_neg e, ← ev_mulw] at hg; exact ⟨hg, hk⟩
 obtain ⟨hg, hro⟩ := hg
 have hS : Hp w0 w ([(b4, cel (spV s) 178)] :: [(bm, cel (mcV p0 p1 p2 p3 p4 by_ (.slice (some ⟨bc, 0, none⟩) fs.length fs.length) ac dn st at_ fl fr) 185)] :: [(bc, cel (cxs fs) 49)] :: F) := H
 refine ⟨hS, ?_⟩
 refine JH.take 17 rfl (by kernel_rfl) (by kernel_rfl) (by kernel_rfl) rfl trivial (fun w H => RX.movev (v := .tuple _) rfl) hS (JH.take 18 rfl (by kernel_rfl) (by kernel_rfl) (by kernel_rfl) rfl trivial (fun w H => RX.extract rfl rfl) hS (JH.take 19 rfl (by kernel_rfl) (by kernel_rfl) (by kernel_rfl) rfl trivial (fun w H => RX.extract (v := .nilIface) rfl rfl) hS (JH.take 20 rfl (by kernel_rfl) (by kernel_rfl) (by kernel_rfl) rfl trivial (fun w H => RX.assignv (v := .complex _ _ _) rfl) hS (JH.take 21 rfl (by kernel_rfl) (by kernel_rfl) (by kernel_rfl) rfl trivial (fun w H => RX.assignv (v := .nilIface) rfl) hS (JH.done (by kernel_rfl) (J.seq (J.region (JL.g (RX.movev (v := .nilIface) rfl) (JL.g (RX.ifnil_eql (v := .nilIface) rfl rfl rfl if31) (JL.nil (J.cond_t rfl rfl (J.any hmix fun w hs => ?_))))))))))))
 replace H := H.same hs; clear hs
 refine JA.stage (listed := [false, false, false, false, false, false, false, false, false, false, false]) 10 [0, 1, 2, 3, 4, 5, 6, 7, 8, 9] H (by kernel_rfl) rfl rfl (JI.go rfl trivial (fun w H => RX.movev (v := .pointer _) rfl) (JI.go rfl trivial (fun w H => RX.nilCheck rfl) (JI.go rfl trivial (fun w H => RX.fieldAddr rfl fo185_2 rfl) (JI.go rfl trivial (fun w H => RX.load H rfl (i := 1) (v := .slice _ _ _) rfl rfl one27) (JI.go rfl trivial (fun w H => RX.fieldAddr rfl fo178_1 rfl) (JI.go rfl trivial (fun w H => RX.load H rfl (i := 0) (v := .int _ _) rfl rfl one3) (JI.go rfl trivial (fun w H => RX.movev (v := .int _ _) rfl) (JI.go rfl trivial (fun w H => RX.add rfl rfl (wi (n := s.dst + i) (by omega) (by omega))) (JI.go rfl trivial (fun w H => RX.movev (v := .complex _ _ _) rfl) (JI.go rfl trivial (fun w H => RX.indexAddr rfl rfl sl27 (by omega) (by omega) (o' := s.dst + i) (by omega)) (JI.nil fun w H => (JL.e (EX.store (v := .complex _ _ _) H rfl rfl (i := 2) rfl rfl (by rw [cxs_len]; omega) sz49 rfl rfl) ?_))))))))))))
 rintro _ w H
 refine JL.nil (J.end0 Tryz.func160 rfl ?_)
 rw [← cxs_set] at H
 exact ⟨_, rfl, fs.set (s.dst + i) g, by simp, by simp, hr.set hg hro, H.drop⟩
theorem At_b {w0 w : World} {F : List Seg} (H : Hp w0 w F) {at_ jump n k cx : Nat} {fs : List (Nat × Nat)} {cs : List Cf} {r : Cf} {px : Option Addr} {X : List Int} (hX : InX X) (hs : SlAt F px (cxs fs)) (hr : RelF X fs cs) (hn : n = 1 ∨ n = 2 ∨ n = 4) (hk : k < n) (hj : 1 ≤ jump) (hd : dsum n k (fun j => getF cs (at_ + j * jump)) (n - 1) = some r) (hl : fs.length ≤ 1000000) : Ret Tryz.prog 179 [.slice px fs.length cx, .int .i64 ((at_ : Nat) : Int), .int .i64 ((jump : Nat) : Int), .int .i64 ((n : Nat) : Int), .int .i64 ((k : Nat) : Int)] w fun v w' => ∃ f : Nat × Nat, v = .tuple #[.complex .f64 f.1 f.2, .nilIface] ∧ Zc f (ev r X) ∧ r.ok = true ∧ Hp w0 w' F := by
 have hall : ∀ j, j < n → ∃ c, getF cs (at_ + j * jump) = some c := fun j hj => dsum_all hd j (by omega)
 rcases hn with h | h
 · exact At1_b H hX hs hr h hk hj hd hall hl
 · exact Atn_b H hX hs hr h hk hj hd hall hl
theorem direct_m {w0 w : World} {F : List Seg} {bm bc i : Nat} {p0 p1 p2 p3 p4 by_ ac dn st at_ fl : Value} {fr : List Value} {s : Sp} {fs : List (Nat × Nat)} {cs cs' : List Cf} {X : List Int} (H : Hp w0 w ([(bm, cel (mcV p0 p1 p2 p3 p4 by_ (.slice (some ⟨bc, 0, none⟩) fs.length fs.length) ac dn st at_ fl fr) 185)] :: [(bc, cel (cxs fs) 49)] :: F)) (hX : InX X) (hs : s.sm) (hi : i ≤ 1000) (hl : cs.length ≤ 1000) (hr : RelF X fs cs) (ha : actF s.ac i cs = some cs') (h0 : s.op = 6) (hn : s.n = 1 ∨ s.n = 2 ∨ s.n = 4) (hin : i < s.n) (hj : 1 ≤ s.jump) : Ret Tryz.prog 162 [.pointer (some ⟨bm, 0, none⟩), .agg (spV s).toArray, .int .i64 ((i : Nat) : Int)] w fun _ w' => ∃ fs', fs'.length = fs.length ∧ cs'.length = cs.length ∧ RelF X fs' cs' ∧ Hp w0 w' ([(bm, cel (mcV p0 p1 p2 p3 p4 by_ (.slice (some ⟨bc, 0, none⟩) fs.length fs.length) ac dn st at_ fl fr) 185)] :: [(bc, cel (cxs fs') 49)] :: F) := by
 refine Calls.of_J (n := 35) Tryz.func162 rfl rfl rfl (J.seq ?_)
 obtain ⟨s1, s2, s3, s4, s5, s6⟩ := hs
 have hfl := hr.1
 have hij := Nat.mul_le_mul hi s3
 have hki := Nat.mul_le_mul s6 hi
 obtain ⟨r, hd6, hd, rfl⟩ := act6 h0 ha
 refine J.region (JL.e (EX.box (v := .agg (spV s).toArray) (l := spV s) H rfl rfl) ?_)
 rintro _ w ⟨b4, rfl, H⟩
 refine JL.nil (J.seq (J.held (fun w => Hp w0 w ([(b4, cel (spV s) 178)] :: [(bm, cel (mcV p0 p1 p2 p3 p4 by_ (.slice (some ⟨bc, 0, none⟩) fs.length fs.length) ac dn st at_ fl fr) 185)] :: [(bc, cel (cxs fs) 49)] :: F)) hmix fun w hs => ?_))
 replace H := H.same hs; clear hs
 have hS : Hp w0 w ([(b4, cel (spV s) 178)] :: [(bm, cel (mcV p0 p1 p2 p3 p4 by_ (.slice (some ⟨bc, 0, none⟩) fs.length fs.length) ac dn st at_ fl fr) 185)] :: [(bc, cel (cxs fs) 49)] :: F) := H
 refine JH.take 0 rfl (by kernel_rfl) (by kernel_rfl) (by kernel_rfl) rfl trivial (fun w H => RX.movev (v := .pointer _) rfl) hS (JH.take 1 rfl (by kernel_rfl) (by kernel_rfl) (by kernel_rfl) rfl trivial (fun w H => RX.nilCheck rfl) hS (JH.take 2 rfl (by kernel_rfl) (by kernel_rfl) (by kernel_rfl) rfl trivial (fun w H => RX.fieldAddr rfl fo185_2 rfl) hS (JH.take 3 rfl (by kernel_rfl) (by kernel_rfl) (by kernel_rfl) rfl trivial (fun w H => RX.load H rfl (i := 1) (v := .slice _ _ _) rfl rfl one27) hS (JH.take 4 rfl (by kernel_rfl) (by kernel_rfl) (by kernel_rfl) rfl trivial (fun w H => RX.fieldAddr rfl fo178_2 rfl) hS (JH.take 5 rfl (by kernel_rfl) (by kernel_rfl) (by kernel_rfl) rfl trivial (fun w H => RX.load H rfl (i := 0) (v := .int _ _) rfl rfl one3) hS (JH.take 6 rfl (by kernel_rfl) (by kernel_rfl) (by kernel_rfl) rfl trivial (fun w H => RX.fieldAddr rfl fo178_3 rfl) hS (JH.take 7 rfl (by kernel_rfl) (by kernel_rfl) (by kernel_rfl) rfl trivial (fun w H => RX.load H rfl (i := 0) (v := .int _ _) rfl rfl one3) hS (JH.take 8 rfl (by kernel_rfl) (by kernel_rfl) (by kernel_rfl) rfl trivial (fun w H => RX.fieldAddr rfl fo178_5 rfl) hS (JH.take 9 rfl (by kernel_rfl) (by kernel_rfl) (by kernel_rfl) rfl trivial (fun w H => RX.load H rfl (i := 0) (v := .int _ _) rfl rfl one3) hS (JH.take 10 rfl (by kernel_rfl) (by kernel_rfl) (by kernel_rfl) rfl trivial (fun w H => RX.movev (v := .int _ _) rfl) hS (JH.all [11] (by kernel_rfl) (by decide) (JHO.does rfl rfl trivial (EX.call rfl cl179 rfl ((At_b (cs := cs) H hX (SlAt.cons (SlAt.cons (SlAt.here List.take_length))) hr hn hin hj hd6 (by omega)))) ?_))))))))))))
 rintro _ w ⟨g, rfl, hg, hro, H⟩
 have hS : Hp w0 w ([(b4, cel (spV s) 178)] :: [(bm, cel (mcV p0 p1 p2 p3 p4 by_ (.slice (some ⟨bc, 0, none⟩) fs.length fs.length) ac dn st at_ fl fr) 185)] :: [(bc, cel (cxs fs) 49)] :: F) := H
 refine ⟨hS, ?_⟩
 refine JH.take 12 rfl (by kernel_rfl) (by kernel_rfl) (by kernel_rfl) rfl trivial (fun w H => RX.movev (v := .tuple _) rfl) hS (JH.take 13 rfl (by kernel_rfl) (by kernel_rfl) (by kernel_rfl) rfl trivial (fun w H => RX.extract rfl rfl) hS (JH.take 14 rfl (by kernel_rfl) (by kernel_rfl) (by kernel_rfl) rfl trivial (fun w H => RX.extract (v := .nilIface) rfl rfl) hS (JH.take 15 rfl (by kernel_rfl) (by kernel_rfl) (by kernel_rfl) rfl trivial (fun w H => RX.assignv (v := .complex _ _ _) rfl) hS (JH.take 16 rfl (by kernel_rfl) (by kernel_rfl) (by kernel_rfl) rfl trivial (fun w H => RX.assignv (v := .nilIface) rfl) hS (JH.done (by kernel_rfl) (J.seq (J.region (JL.g (RX.movev (v := .nilIface) rfl) (JL.g (RX.ifnil_eql (v := .nilIface) rfl rfl rfl if31) (JL.nil (J.cond_t rfl rfl (J.any hmix fun w hs => ?_))))))))))))
 replace H := H.same hs; clear hs
 refine JA.stage (listed := [false, false, false, false, false, false, false, false, false, false, false]) 10 [0, 1, 2, 3, 4, 5, 6, 7, 8, 9] H (by kernel_rfl) rfl rfl (JI.go rfl trivial (fun w H => RX.movev (v := .pointer _) rfl) (JI.go rfl trivial (fun w H => RX.nilCheck rfl) (JI.go rfl trivial (fun w H => RX.fieldAddr rfl fo185_2 rfl) (JI.go rfl trivial (fun w H => RX.load H rfl (i := 1) (v := .slice _ _ _) rfl rfl one27) (JI.go rfl trivial (fun w H => RX.fieldAddr rfl fo178_1 rfl) (JI.go rfl trivial (fun w H => RX.load H rfl (i := 0) (v := .int _ _) rfl rfl one3) (JI.go rfl trivial (fun w H => RX.movev (v := .int _ _) rfl) (JI.go rfl trivial (fun w H => RX.add rfl rfl (wi (n := s.dst + i) (by omega) (by omega))) (JI.go rfl trivial (fun w H => RX.movev (v := .complex _ _ _) rfl) (JI.go rfl trivial (fun w H => RX.indexAddr rfl rfl sl27 (by omega) (by omega) (o' := s.dst + i) (by omega)) (JI.nil fun w H => (JL.e (EX.store (v := .complex _ _ _) H rfl rfl (i := 2) rfl rfl (by rw [cxs_len]; omega) sz49 rfl rfl) ?_))))))))))))
 rintro _ w H
 refine JL.nil (J.end0 Tryz.func162 rfl ?_)
 rw [← cxs_set] at H
 exact ⟨_, rfl, fs.set (s.dst + i) g, by simp, by simp, hr.set hg hro, H.drop⟩
end Go.Proofs.YtfaokllgaambjaaGreatDoor
namespace Go.Proofs.YtfaokllgaambjaaGreatDoor
open Go Go.Eng
set_option maxRecDepth 100000
set_option maxHeartbeats 1600000
theorem cl178 : callable Tryz.prog 178 = true := by kernel_rfl
theorem mapM_get {x : Nat → Option Cf} : ∀ (l : List Nat) (a : List Cf), l.mapM x = some a → a.length = l.length ∧ ∀ (i q : Nat), l[i]? = some q → ∃ c, a[i]? = some c ∧ x q = some c
  | [], a, h => by
    simp at h; subst h
    exact ⟨rfl, fun i q h => by simp at h⟩
  | t :: l, a, h => by
    simp only [List.mapM_cons, Option.bind_eq_bind, Option.bind_eq_some_iff, Option.pure_def, Option.some.injEq] at h
    obtain ⟨c, hc, a', ha', rfl⟩ := h
    obtain ⟨h1, h2⟩ := mapM_get l a' ha'
    refine ⟨by simp [h1], fun i q hq => ?_⟩
    cases i with
    | zero =>
      have : t = q := by simpa using hq
      subst this
      exact ⟨c, rfl, hc⟩
    | succ i =>
      obtain ⟨d, hd, hx⟩ := h2 i q (by simpa using hq)
      exact ⟨d, by simpa using hd, hx⟩
theorem putsF_len {j : Nat} : ∀ {ys : List Cf} {d : Nat} {cs cs' : List Cf}, putsF cs d j ys = some cs' → cs'.length = cs.length
  | [], d, cs, cs', h => by simp only [putsF, Option.some.injEq] at h; rw [h]
  | y :: ys, d, cs, cs', h => by
    simp only [putsF, Option.bind_eq_bind, Option.bind_eq_some_iff] at h
    obtain ⟨c1, hc1, hr⟩ := h
    obtain ⟨_, rfl⟩ := putF_some hc1
    rw [putsF_len hr]; simp
theorem flyF_len {a y : List Cf} (h : flyF a = some y) : a.length = 2 ∧ y.length = 2 ∨ a.length = 4 ∧ y.length = 4 := by
 match a, h with
 | [], h => cases h
 | [_], h => cases h
 | [a, b], h =>
   obtain ⟨rfl, _⟩ := fly2 h
   exact .inl ⟨rfl, rfl⟩
 | [_, _, _], h => cases h
 | [a, b, c, d], h =>
   obtain ⟨_, _, _, _, rfl, _⟩ := fly4 h
   exact .inr ⟨rfl, rfl⟩
 | _ :: _ :: _ :: _ :: _ :: _, h => cases h
theorem Fly_b {w0 w : World} {F : List Seg} (H : Hp w0 w F) {gs : List (Nat × Nat)} {as_ ys : List Cf} {X : List Int} {px : Option Addr} {cx n : Nat} (hX : InX X) (hs : SlAt F px (cxs gs)) (hr : RelF X gs as_) (hy : flyF as_ = some ys) (hl : as_.length = n) :
 Ret Tryz.prog 178 [.slice px n cx] w fun v w' => ∃ b fs T, v = .tuple #[.slice (some ⟨b, 0, none⟩) n n, .nilIface] ∧ fs.length = n ∧ RelF X fs ys ∧ Hp w0 w' ([(b, cel (cxs fs) T)] :: F) := by
 subst hl
 have hg := hr.1
 match as_, gs, hy, hg with
 | [a0, a1], [f0, f1], hy, _ =>
   refine Ret.mono (Fly2_b H hX hs hr hy) ?_
   rintro v w' ⟨b, fs, rfl, h1, h2, H⟩
   exact ⟨b, fs, _, rfl, h1, h2, H⟩
 | [a0, a1, a2, a3], [f0, f1, f2, f3], hy, _ =>
   refine Ret.mono (Fly4_b H hX hs hr hy) ?_
   rintro v w' ⟨b, fs, rfl, h1, h2, H⟩
   exact ⟨b, fs, _, rfl, h1, h2, H⟩
 | [], _, h, _ => cases h
 | [_], _, h, _ => cases h
 | [_, _, _], _, h, _ => cases h
 | _ :: _ :: _ :: _ :: _ :: _, _, h, _ => cases h
theorem relF_of {X : List Int} {fs gs : List (Nat × Nat)} {cs a : List Cf} {d j n : Nat} (hr : RelF X fs cs) (ha : (List.range n).mapM (fun q => getF cs (d + q * j)) = some a) (hl : gs.length = n) (hg : ∀ q, q < n → gs[q]? = fs[d + q * j]?) : RelF X gs a := by
 obtain ⟨h1, h2⟩ := mapM_get _ _ ha
 refine ⟨by rw [hl, h1]; simp, fun i c hc => ?_⟩
 have hi : i < n := by have := getE_lt hc; rw [h1] at this; simpa using this
 obtain ⟨c', hc', hx⟩ := h2 i i (by simp [hi])
 rw [hc] at hc'; cases hc'
 obtain ⟨ho, f, hf, hz⟩ := hr.2 _ _ (show cs[d + i * j]? = some c from hx)
 exact ⟨ho, f, by rw [hg i hi]; exact hf, hz⟩
theorem fly_m {w0 w : World} {F : List Seg} {bm bc i : Nat} {p0 p1 p2 p3 p4 by_ ac dn st at_ fl : Value} {fr : List Value} {s : Sp} {fs : List (Nat × Nat)} {cs cs' : List Cf} {X : List Int} (H : Hp w0 w ([(bm, cel (mcV p0 p1 p2 p3 p4 by_ (.slice (some ⟨bc, 0, none⟩) fs.length fs.length) ac dn st at_ fl fr) 185)] :: [(bc, cel (cxs fs) 49)] :: F)) (hX : InX X) (hs : s.sm) (hi : i ≤ 1000) (hl : cs.length ≤ 1000) (hr : RelF X fs cs) (ha : actF s.ac i cs = some cs') (h0 : s.op = 5) : Ret Tryz.prog 161 [.pointer (some ⟨bm, 0, none⟩), .agg (spV s).toArray, .int .i64 ((i : Nat) : Int)] w fun _ w' => ∃ fs', fs'.length = fs.length ∧ cs'.length = cs.length ∧ RelF X fs' cs' ∧ Hp w0 w' ([(bm, cel (mcV p0 p1 p2 p3 p4 by_ (.slice (some ⟨bc, 0, none⟩) fs.length fs.length) ac dn st at_ fl fr) 185)] :: [(bc, cel (cxs fs') 49)] :: F) := by
 refine Calls.of_J (n := 69) Tryz.func161 rfl rfl rfl (J.seq ?_)
 obtain ⟨s1, s2, s3, s4, s5, s6⟩ := hs
 have hfl := hr.1
 obtain ⟨a, y, ham, hy, hput⟩ := act5 h0 ha
 obtain ⟨hal, hag⟩ := mapM_get _ _ ham
 rw [List.length_range] at hal
 have hyl := flyF_len hy
 have hpl := putsF_len hput
 have hn4 : s.n ≤ 4 := by omega
 have hqj : ∀ q, q ≤ 4 → q * s.jump ≤ 4 * 1000 := fun q hq => Nat.mul_le_mul hq s3
 refine J.region (JL.e (EX.box (v := .agg (spV s).toArray) (l := spV s) H rfl rfl) ?_)
 rintro _ w ⟨b4, rfl, H⟩
 refine JL.nil (J.seq (J.region (JL.g (RX.fieldAddr rfl fo178_5 rfl) (JL.g (RX.load H rfl (i := 0) (v := .int _ _) rfl rfl one3) (JL.e (EX.makeS (e := 49) (m := s.n) H mkC.1 mkC.2 rfl rfl rfl (by omega) (by omega) (by omega)) ?_)))))
 rintro _ w ⟨bg, rfl, H⟩
 rw [fnL_rep, repC] at H
 refine JL.al rfl (JL.nil (J.seq (J.seq (J.region (JL.ms rfl (JL.g (RX.len_slice rfl (by rw [sl27]; rfl) rfl) ?_))))))
 refine JL.g (RX.move) (JL.nil (J.block (J.loop (ι := Nat × List (Nat × Nat)) (S := fun z => [(17, .int .i64 ((z.1 : Nat) : Int))]) (Φ := fun z w => z.1 ≤ s.n ∧ z.2.length = s.n ∧ (∀ q, q < z.1 → z.2[q]? = fs[s.dst + i + q * s.jump]?) ∧ Hp w0 w ([(bg, cel (cxs z.2) 49)] :: [(b4, cel (spV s) 178)] :: [(bm, cel (mcV p0 p1 p2 p3 p4 by_ (.slice (some ⟨bc, 0, none⟩) fs.length fs.length) ac dn st at_ fl fr) 185)] :: [(bc, cel (cxs fs) 49)] :: F)) (μ := fun z => s.n - z.1) (C := [(0, _), (2, _), (4, _), (6, _), (16, _)]) (0, List.replicate s.n (0, 0)) ⟨rfl, rfl, rfl, rfl, rfl, trivial⟩ ⟨rfl, trivial⟩ ?_ ?_)))
 · exact ⟨by simp, by simp, fun q hq => absurd hq (Nat.not_lt_zero _), H⟩
 clear H
 rintro ⟨q, gs⟩ ρ w ⟨hq, hgl, hg, H⟩ IH
 simp only at hq hgl hg H
 dsimp only
 refine J.seq (J.region (JL.g (RX.lt rfl rfl) (JL.nil (J.seq (J.cond_d rfl (fun hlt => ?_) (fun hlt => ?_))))))
 ·
  have hq4 := hqj q (by omega)
  obtain ⟨c, _, hcq⟩ := hag q q (by rw [List.getElem?_range (by omega)])
  have hcl := getE_lt (show cs[s.dst + i + q * s.jump]? = some c from hcq)
  obtain ⟨f, hf, hz, ho⟩ := hr.get (show cs[s.dst + i + q * s.jump]? = some c from hcq)
  refine J.skip (J.seq (J.block (J.seq (J.region (JL.mi rfl (JL.ai rfl (JL.nil (J.any hmix fun w hs => ?_))))))))
  replace H := H.same hs; clear hs
  refine JA.stage (listed := [false, false, false, false, false, false, false, false, false, false, false, false, false, false, false, false, false, false, false]) 18 [0, 1, 2, 3, 4, 5, 6, 7, 8, 9, 10, 11, 12, 13, 14, 15, 16, 17] H (by kernel_rfl) rfl rfl (JI.go rfl trivial (fun w H => RX.movev (v := .slice _ _ _) rfl) (JI.go rfl trivial (fun w H => RX.movev (v := .int _ _) rfl) (JI.go rfl trivial (fun w H => RX.movev (v := .pointer _) rfl) (JI.go rfl trivial (fun w H => RX.nilCheck rfl) (JI.go rfl trivial (fun w H => RX.fieldAddr rfl fo185_2 rfl) (JI.go rfl trivial (fun w H => RX.load H rfl (i := 2) (v := .slice _ _ _) rfl rfl one27) (JI.go rfl trivial (fun w H => RX.fieldAddr rfl fo178_1 rfl) (JI.go rfl trivial (fun w H => RX.load H rfl (i := 1) (v := .int _ _) rfl rfl one3) (JI.go rfl trivial (fun w H => RX.movev (v := .int _ _) rfl) (JI.go rfl trivial (fun w H => RX.add rfl rfl (wi (n := s.dst + i) (by omega) (by omega))) (JI.go rfl trivial (fun w H => RX.movev (v := .int _ _) rfl) (JI.go rfl trivial (fun w H => RX.fieldAddr rfl fo178_3 rfl) (JI.go rfl trivial (fun w H => RX.load H rfl (i := 1) (v := .int _ _) rfl rfl one3) (JI.go rfl trivial (fun w H => RX.mul rfl rfl (wi (n := q * s.jump) (Int.natCast_mul _ _).symm (by omega))) (JI.go rfl trivial (fun w H => RX.add rfl rfl (wi (n := s.dst + i + q * s.jump) (by omega) (by omega))) (JI.go rfl trivial (fun w H => RX.indexAddr rfl rfl sl27 (by omega) (by omega) (o' := s.dst + i + q * s.jump) (by omega)) (JI.go rfl trivial (fun w H => RX.load H rfl (i := 3) (v := .complex .f64 f.1 f.2) rfl (cxs_get hf) one49) (JI.go rfl trivial (fun w H => RX.indexAddr rfl rfl sl27 (by omega) (by omega) (o' := q) (by omega)) (JI.nil fun w H => (JL.e (EX.store (v := .complex _ _ _) H rfl rfl (i := 0) rfl rfl (by rw [cxs_len]; omega) sz49 rfl rfl) ?_))))))))))))))))))))
  rintro _ w H
  refine JL.nil (J.inBlock (J.region (JL.g (RX.add rfl rfl (wi (n := q + 1) (by omega) (by omega))) (JL.mi rfl (JL.nil ?_)))))
  rw [← cxs_set] at H
  refine IH (q + 1, gs.set q f) _ _ (by simp only; omega) ⟨rfl, rfl, rfl, rfl, rfl, trivial⟩ ⟨rfl, trivial⟩ ⟨by simp only; omega, by simp only [List.length_set]; exact hgl, fun t ht => ?_, H⟩
  simp only at ht ⊢
  rw [List.getElem?_set]
  by_cases e : q = t
  · subst e; rw [if_pos rfl, if_pos (by omega), hf]
  · rw [if_neg e]; exact hg t (by omega)
 ·
  obtain rfl : q = s.n := by omega
  have hrg := relF_of hr ham hgl hg
  refine J.exit rfl (J.seq (J.region (JL.ms rfl (JL.e (EX.call rfl cl178 rfl ((Fly_b H hX (SlAt.here List.take_length) hrg hy hal))) ?_))))
  rintro _ w ⟨by2, ys, T2, rfl, hysl, hry, H⟩
  refine JL.g (RX.movev (v := .tuple _) rfl) (JL.g (RX.extract rfl rfl) (JL.g (RX.extract (v := .nilIface) rfl rfl) (JL.al rfl (JL.g (RX.assignv (v := .nilIface) rfl) (JL.nil (J.seq (J.seq (J.region (JL.g (RX.movev (v := .nilIface) rfl) (JL.g (RX.ifnil_neq (v := .nilIface) rfl rfl rfl if31) (JL.nil (J.cond_f rfl rfl (J.skip (J.seq (J.region (JL.ms rfl (JL.g (RX.len_slice rfl (by rw [sl27]; rfl) rfl) ?_)))))))))))))))))
  refine JL.g (RX.move) (JL.nil (J.block (J.loop (ι := Nat × List (Nat × Nat) × List Cf) (S := fun z => [(48, .int .i64 ((z.1 : Nat) : Int))]) (Φ := fun z w => z.1 ≤ s.n ∧ z.2.1.length = fs.length ∧ RelF X z.2.1 z.2.2 ∧ putsF z.2.2 (s.dst + i + z.1 * s.jump) s.jump (y.drop z.1) = some cs' ∧ Hp w0 w ([(by2, cel (cxs ys) T2)] :: [(bg, cel (cxs gs) 49)] :: [(b4, cel (spV s) 178)] :: [(bm, cel (mcV p0 p1 p2 p3 p4 by_ (.slice (some ⟨bc, 0, none⟩) fs.length fs.length) ac dn st at_ fl fr) 185)] :: [(bc, cel (cxs z.2.1) 49)] :: F)) (μ := fun z => s.n - z.1) (C := [(0, _), (2, _), (4, _), (46, _), (47, _)]) (0, fs, cs) ⟨rfl, rfl, rfl, rfl, rfl, trivial⟩ ⟨rfl, trivial⟩ ?_ ?_)))
  · exact ⟨by simp, rfl, hr, by simpa using hput, H⟩
  clear H hput hr
  rintro ⟨q, hs_, ds⟩ ρ w ⟨hq, hhl, hr, hput, H⟩ IH2
  simp only at hq hhl hr hput H
  dsimp only
  refine J.seq (J.region (JL.g (RX.lt rfl rfl) (JL.nil (J.seq (J.cond_d rfl (fun hlt => ?_) (fun hlt => ?_))))))
  ·
   have hq4 := hqj q (by omega)
   obtain ⟨c, hc⟩ : ∃ c, y[q]? = some c := ⟨_, List.getElem?_eq_getElem (by omega)⟩
   obtain ⟨f, hf, hz, ho⟩ := hry.get hc
   have hdr : y.drop q = c :: y.drop (q + 1) := by
     have h9 := List.drop_eq_getElem_cons (l := y) (i := q) (by omega)
     rw [List.getElem?_eq_getElem (by omega)] at hc
     rw [h9, Option.some.inj hc]
   rw [hdr] at hput
   simp only [putsF, Option.bind_eq_bind, Option.bind_eq_some_iff] at hput
   obtain ⟨d1, hd1, hput⟩ := hput
   obtain ⟨hdl, rfl⟩ := putF_some hd1
   have hdsl := hr.1
   refine J.skip (J.seq (J.block (J.seq (J.region (JL.mi rfl (JL.g (RX.indexAddr rfl rfl sl27 (by omega) (by omega) (o' := q) (by omega)) (JL.g (RX.load H rfl (i := 0) (v := .complex .f64 f.1 f.2) rfl (cxs_get hf) one49) (JL.ai rfl (JL.g (RX.assignv (v := .complex _ _ _) rfl) (JL.nil (J.any hmix fun w hs => ?_)))))))))))
   replace H := H.same hs; clear hs
   refine JA.stage (listed := [false, false, false, false, false, false, false, false, false, false, false, false, false, false, false, false]) 15 [0, 1, 2, 3, 4, 5, 6, 7, 8, 9, 10, 11, 12, 13, 14] H (by kernel_rfl) rfl rfl (JI.go rfl trivial (fun w H => RX.movev (v := .pointer _) rfl) (JI.go rfl trivial (fun w H => RX.nilCheck rfl) (JI.go rfl trivial (fun w H => RX.fieldAddr rfl fo185_2 rfl) (JI.go rfl trivial (fun w H => RX.load H rfl (i := 3) (v := .slice _ _ _) rfl rfl one27) (JI.go rfl trivial (fun w H => RX.fieldAddr rfl fo178_1 rfl) (JI.go rfl trivial (fun w H => RX.load H rfl (i := 2) (v := .int _ _) rfl rfl one3) (JI.go rfl trivial (fun w H => RX.movev (v := .int _ _) rfl) (JI.go rfl trivial (fun w H => RX.add rfl rfl (wi (n := s.dst + i) (by omega) (by omega))) (JI.go rfl trivial (fun w H => RX.movev (v := .int _ _) rfl) (JI.go rfl trivial (fun w H => RX.fieldAddr rfl fo178_3 rfl) (JI.go rfl trivial (fun w H => RX.load H rfl (i := 2) (v := .int _ _) rfl rfl one3) (JI.go rfl trivial (fun w H => RX.mul rfl rfl (wi (n := q * s.jump) (Int.natCast_mul _ _).symm (by omega))) (JI.go rfl trivial (fun w H => RX.add rfl rfl (wi (n := s.dst + i + q * s.jump) (by omega) (by omega))) (JI.go rfl trivial (fun w H => RX.movev (v := .complex _ _ _) rfl) (JI.go rfl trivial (fun w H => RX.indexAddr rfl rfl sl27 (by omega) (by omega) (o' := s.dst + i + q * s.jump) (by omega)) (JI.nil fun w H => (JL.e (EX.store (v := .complex _ _ _) H rfl rfl (i := 4) rfl rfl (by rw [cxs_len]; omega) sz49 rfl rfl) ?_)))))))))))))))))
   rintro _ w H
   refine JL.nil (J.inBlock (J.region (JL.g (RX.add rfl rfl (wi (n := q + 1) (by omega) (by omega))) (JL.mi rfl (JL.nil ?_)))))
   rw [← cxs_set] at H
   exact IH2 (q + 1, hs_.set (s.dst + i + q * s.jump) f, ds.set (s.dst + i + q * s.jump) c) _ _ (by simp only; omega) ⟨rfl, rfl, rfl, rfl, rfl, trivial⟩ ⟨rfl, trivial⟩ ⟨by simp only; omega, by simp only [List.length_set]; exact hhl, hr.set hz ho, by simp only; rw [Nat.succ_mul, ← Nat.add_assoc]; exact hput, H⟩
  ·
   obtain rfl : q = s.n := by omega
   refine J.exit rfl (J.end0 Tryz.func161 rfl ?_)
   rw [List.drop_eq_nil_of_le (by omega)] at hput
   simp only [putsF, Option.some.injEq] at hput
   subst hput
   exact ⟨_, rfl, hs_, hhl, hpl, hr, H.drop.drop.drop⟩
end Go.Proofs.YtfaokllgaambjaaGreatDoor

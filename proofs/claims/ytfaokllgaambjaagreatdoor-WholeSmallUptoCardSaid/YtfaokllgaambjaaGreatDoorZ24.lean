/- On lists of 1, 2 or 4 whole numbers of at most 2^40 every plan of an order without the way of Bluestein, forward and back, answers just what the twin without floats answers: the given statement WholeSmall, in its second form, holds for every two lists and every policy of bulk at most 1048576 together. -/
import Derived.Test.YtfaokllgaambjaaGreatDoorZ1
import Derived.Test.YtfaokllgaambjaaGreatDoorZ2
import Derived.Test.YtfaokllgaambjaaGreatDoorZ3
import Derived.Test.YtfaokllgaambjaaGreatDoorZ4
import Derived.Test.YtfaokllgaambjaaGreatDoorZ5
import Derived.Test.YtfaokllgaambjaaGreatDoorZ7
import Derived.Test.YtfaokllgaambjaaGreatDoorZ8
import Derived.Test.YtfaokllgaambjaaGreatDoorZ9
import Derived.Test.YtfaokllgaambjaaGreatDoorZ11
import Derived.Test.YtfaokllgaambjaaGreatDoorZ12
import Derived.Test.YtfaokllgaambjaaGreatDoorZ14
import Derived.Test.YtfaokllgaambjaaGreatDoorZ15
import Derived.Test.YtfaokllgaambjaaGreatDoorZ17
import Derived.Test.YtfaokllgaambjaaGreatDoorZ19
import Derived.Test.YtfaokllgaambjaaGreatDoorZ20
import Derived.Test.YtfaokllgaambjaaGreatDoorZ21
import Derived.Test.YtfaokllgaambjaaGreatDoorZ22
import Derived.Test.YtfaokllgaambjaaGreatDoorZ23
import Derived.Test.YtfaokllgaambjaaGreatDoorCards
import Derived.Test.YtfaokllgaambjaaGreatDoorTie
import Derived.LaidMore
import Derived.MakeChecks
import Derived.LaidHandle
set_option linter.unusedVariables false
set_option linter.unusedSimpArgs false
namespace Go.Proofs.YtfaokllgaambjaaGreatDoor
open Go Go.Eng
set_option maxRecDepth 100000
set_option maxHeartbeats 1600000
theorem cl11 : callable Tryz.prog 11 = true := by kernel_rfl
theorem cl12 : callable Tryz.prog 12 = true := by kernel_rfl
theorem cl21 : callable Tryz.prog 21 = true := by kernel_rfl
theorem cl4 : callable Tryz.prog 4 = true := by kernel_rfl
theorem cl5 : callable Tryz.prog 5 = true := by kernel_rfl
theorem cl6 : callable Tryz.prog 6 = true := by kernel_rfl
theorem cl7 : callable Tryz.prog 7 = true := by kernel_rfl
theorem one22 : oneOf Tryz.prog 22 = true := by kernel_rfl
theorem sz22 : szOf Tryz.prog 22 = some 1 := by kernel_rfl
theorem sz27 : szOf Tryz.prog 27 = some 1 := by kernel_rfl
theorem zr22 : (Tryz.prog.info? 22).bind (·.zero) = some (.slice none 0 0) := by kernel_rfl
theorem zr27 : (Tryz.prog.info? 27).bind (·.zero) = some (.slice none 0 0) := by kernel_rfl
namespace Oo
section
variable {P : Program} {w w0 : World} {L : List Seg} {ρ : Operand → Value} {d : Option Tmp} {x y : Operand} {ty : TypeId} {pos : String} {af : Array Edge} {g : Option (Nat × Bool)}
def isFuncT (P : Program) (t : TypeId) : Bool := match P.underlying t with | some (.func ..) => true | _ => false
theorem RX.funcnil_eql {t t' : TypeId} {fn : Fn} {u z : Array Value} (hx : ρ x = .func fn u z) (hy : ρ y = .nilFunc) (ht : isFuncT P t = true) : Runs P ρ ⟨d, .binOp .eql t x y t', ty, pos, af, g⟩ w (.bool false) := by
 have hu : ∃ a b c, P.underlying t = some (.func a b c) := by
   unfold isFuncT at ht
   split at ht
   · rename_i a b c h
     exact ⟨a, b, c, h⟩
   · cases ht
 obtain ⟨a, b, c, hu⟩ := hu
 have h0 : (Op.equal t (.func fn u z) .nilFunc).run P w = .ok false w := by
   unfold Op.equal Op.maxDepth Op.equalIn
   simp only [Sem.run_bind, run_underlying hu, Result.andThen_ok]
   rfl
 have h1 : (binOp .eql t (.func fn u z) .nilFunc).run P w = .ok (.bool false) w := by
   simp only [binOp]; simp [h0]
 unfold Runs
 simp [execOp, hx, hy, eqGuard_at_func, h1]
end
theorem zre_dft (zs : List (Int × Int)) : zre (dftZ zs) = smA0 (zre zs) (zim zs) := by
 unfold zre dftZ smA0
 rw [List.map_map, List.length_map]
 rfl
theorem zim_dft (zs : List (Int × Int)) : zim (dftZ zs) = smB0 (zre zs) (zim zs) := by
 unfold zim dftZ smB0 zre
 rw [List.map_map, List.length_map]
 rfl
theorem zl_re (zs : List (Int × Int)) : (zre zs).length = zs.length := by simp [zre]
theorem zl_im (zs : List (Int × Int)) : (zim zs).length = zs.length := by simp [zim]
theorem dft_le {zs : List (Int × Int)} {B : Nat} (hb : ∀ z ∈ zs, z.1.natAbs ≤ B ∧ z.2.natAbs ≤ B) : ∀ z ∈ dftZ zs, z.1.natAbs ≤ zs.length * B ∧ z.2.natAbs ≤ zs.length * B := by
 intro z hz
 obtain ⟨k, _, rfl⟩ := List.mem_map.1 hz
 have h1 : ∀ x ∈ zre zs, x.natAbs ≤ B := fun x hx => by
   obtain ⟨y, hy, rfl⟩ := List.mem_map.1 hx; exact (hb y hy).1
 have h2 : ∀ x ∈ zim zs, x.natAbs ≤ B := fun x hx => by
   obtain ⟨y, hy, rfl⟩ := List.mem_map.1 hx; exact (hb y hy).2
 have hr : ∀ k j, (smR (zre zs) (zim zs) k j).1.natAbs ≤ B ∧ (smR (zre zs) (zim zs) k j).2.natAbs ≤ B := fun k j => rot_le (getD_le h1 j) (getD_le h2 j) _
 exact ⟨ssum_le (fun j => (hr k j).1) _, ssum_le (fun j => (hr k j).2) _⟩
theorem cutZs_b (a b : List Int) (n : Nat) : ∀ z ∈ cutZs a b n, z.1.natAbs ≤ 1099511627776 ∧ z.2.natAbs ≤ 1099511627776 := by
 intro z hz
 obtain ⟨k, _, rfl⟩ := List.mem_map.1 hz
 exact ⟨cutZ_le _ _, cutZ_le _ _⟩
theorem dftZ_get {zs : List (Int × Int)} {k : Nat} (h : k < zs.length) : (dftZ zs)[k]? = some (smU (zre zs) (zim zs) k zs.length, smV (zre zs) (zim zs) k zs.length) := by
 unfold dftZ
 rw [List.getElem?_map, List.getElem?_range h]; rfl
theorem inv_dft {zs : List (Int × Int)} (hn : zs.length = 1 ∨ zs.length = 2 ∨ zs.length = 4) {c2 : Nat} (h2 : zs.length = 2 ^ c2) : dftZ (cjL (dftZ zs)) = zs.map fun z => (z.1 * ((2 ^ c2 : Nat) : Int), -(z.2 * ((2 ^ c2 : Nat) : Int))) := by
 have e1 : zre (cjL (dftZ zs)) = smA0 (zre zs) (zim zs) := by
   rw [← zre_dft]; unfold zre cjL; rw [List.map_map]; rfl
 have e2 : zim (cjL (dftZ zs)) = (smB0 (zre zs) (zim zs)).map (- ·) := by
   rw [← zim_dft]; unfold zim cjL; rw [List.map_map, List.map_map]; rfl
 have el : (cjL (dftZ zs)).length = zs.length := by rw [cjL_len, dftZ_len]
 apply List.ext_getElem?
 intro k
 by_cases hk : k < zs.length
 · obtain ⟨z, hz⟩ : ∃ z, zs[k]? = some z := ⟨_, List.getElem?_eq_getElem hk⟩
   have hb := back_small (re := zre zs) (im := zim zs) (by rw [zl_re, zl_im]) (by rw [zl_re]; exact hn) (k := k) (a := z.1) (b := z.2) (by simp [zre, hz]) (by simp [zim, hz])
   rw [zl_re] at hb
   rw [List.getElem?_map, hz]
   rw [dftZ_get (by rw [el]; exact hk), e1, e2, el, hb.1, hb.2, h2, Int.neg_mul]
   rfl
 · rw [List.getElem?_eq_none (by rw [dftZ_len, el]; omega), List.getElem?_eq_none (by rw [List.length_map]; omega)]
theorem GTab.app {F : List Seg} (h : GTab F) : ∀ X : List Seg, GTab (X ++ F)
  | [] => h
  | _ :: X => (GTab.app h X).cons
theorem xsmall_b {w0 w : World} {F : List Seg} {E : Nat → Value} {Q : Nat → Addr} (H : Hp w0 w F) (hE : Errs F E Q) {zs : List (Int × Int)} {n : Nat} (hn : zs.length = n) (hn4 : n = 1 ∨ n = 2 ∨ n = 4) (hb : ∀ z ∈ zs, z.1.natAbs ≤ 1099511627776 ∧ z.2.natAbs ≤ 1099511627776) {u v : List Int} (hu : u = zre zs) (hv : v = zim zs) {pr pi : Option Addr} {cr ci : Nat} (hsr : SlAt F pr (i64sV u)) (hsi : SlAt F pi (i64sV v)) :
 Ret Tryz.prog 6 [.slice pr n cr, .slice pi n ci] w fun r w' => ∃ q1 q2 c1 c2 s1 s2, r = .tuple #[.slice q1 n c1, .slice q2 n c2, .nilIface] ∧ OwnSl 2 1 q1 n c1 (i64sV (zre (dftZ zs))) s1 ∧ OwnSl 2 1 q2 n c2 (i64sV (zim (dftZ zs))) s2 ∧ Hp w0 w' (s2 :: s1 :: F) := by
 subst hu hv
 have hl : (zre zs).length = n := by rw [zl_re, hn]
 have hm : (zim zs).length = n := by rw [zl_im, hn]
 have hd := dft_le hb
 rw [hn] at hd
 have h1 : ∀ x ∈ zre zs, x.natAbs ≤ 9223372036854775808 := fun x hx => by
   obtain ⟨y, hy, rfl⟩ := List.mem_map.1 hx; have := (hb y hy).1; omega
 have h2 : ∀ x ∈ zim zs, x.natAbs ≤ 9223372036854775808 := fun x hx => by
   obtain ⟨y, hy, rfl⟩ := List.mem_map.1 hx; have := (hb y hy).2; omega
 have hA : i64all (smA0 (zre zs) (zim zs)) := fun x hx => by
   rw [← zre_dft] at hx
   obtain ⟨y, hy, rfl⟩ := List.mem_map.1 hx
   have := (hd y hy).1
   unfold i64in
   rcases hn4 with rfl | rfl | rfl <;> omega
 have hB : i64all (smB0 (zre zs) (zim zs)) := fun x hx => by
   rw [← zim_dft] at hx
   obtain ⟨y, hy, rfl⟩ := List.mem_map.1 hx
   have := (hd y hy).2
   unfold i64in
   rcases hn4 with rfl | rfl | rfl <;> omega
 have hE0 : smE (zre zs) (zim zs) = 0 := by
   unfold smE
   rw [if_pos ⟨by rw [hl, hm], by rw [hl]; exact hn4⟩, if_pos ⟨hA, hB⟩]
 have eA : smA (zre zs) (zim zs) = zre (dftZ zs) := by rw [zre_dft]; exact if_pos hE0
 have eB : smB (zre zs) (zim zs) = zim (dftZ zs) := by rw [zim_dft]; exact if_pos hE0
 have lA : (zre (dftZ zs)).length = n := by rw [zl_re, dftZ_len, hn]
 have lB : (zim (dftZ zs)).length = n := by rw [zl_im, dftZ_len, hn]
 have key : Ret Tryz.prog 6 [.slice pr (zre zs).length cr, .slice pi (zim zs).length ci] w fun v w' => ∃ q1 q2 c1 c2 s1 s2, v = .tuple #[.slice q1 (smA (zre zs) (zim zs)).length c1, .slice q2 (smB (zre zs) (zim zs)).length c2, errV E (smE (zre zs) (zim zs))] ∧ OwnSl 2 1 q1 (smA (zre zs) (zim zs)).length c1 (i64sV (smA (zre zs) (zim zs))) s1 ∧ OwnSl 2 1 q2 (smB (zre zs) (zim zs)).length c2 (i64sV (smB (zre zs) (zim zs))) s2 ∧ Hp w0 w' (s2 :: s1 :: F) := by
   rcases hn4 with h | h | h
   · exact small1_b H hE hsr hsi (hl.trans h) (hm.trans hl.symm) h1 h2
   · exact small2_b H hE hsr hsi (hl.trans h) (hm.trans hl.symm) h1 h2
   · exact small4_b H hE hsr hsi (hl.trans h) (hm.trans hl.symm) h1 h2
 rw [hE0, eA, eB, lA, lB, hl, hm] at key
 exact key
theorem Of_n {w0 w : World} {F : List Seg} (H : Hp w0 w F) (hT : SlAt F (some ⟨12, 0, none⟩) tableC) {E : Nat → Value} (g8 : GErr F 6 (E 8)) (hg : GTab F) {o : Od} (hok : o.ok) {n : Nat} (hn : o.n = n) {vs : List Value} (ht : o.tr.Is F vs) (wd : Bool) {k : Nat} (hk : (if wd then 1 else 0 : Nat) = k) :
 Ret Tryz.prog 9 [.agg vs.toArray, .int .i64 ((k : Nat) : Int)] w fun v w' => ∃ bp o0 o1 o2 wy tx q c9 sl, v = .tuple #[.pointer (some ⟨bp, 0, none⟩), .nilIface] ∧ OwnSl 178 7 q (o.pg wd).ss.length c9 (spsV (o.pg wd).ss) sl ∧ Hp w0 w' ([(bp, cel (plV o0 o1 o2 wy tx n (o.pg wd).nc 0 n q (o.pg wd).ss.length c9) 79)] :: sl :: F) := by
 subst hn hk
 exact (Of_b H hT g8 hg hok ht wd).mono fun v w' ⟨bp, o0, o1, o2, tx, q, c9, sl, h1, h2, h3⟩ => ⟨bp, o0, o1, o2, _, tx, q, c9, sl, h1, h2, h3⟩
theorem two_pow {n : Nat} (h : n = 1 ∨ n = 2 ∨ n = 4) : ∃ c, c ≤ 2 ∧ n = 2 ^ c := by
 rcases h with rfl | rfl | rfl
 · exact ⟨0, by omega, rfl⟩
 · exact ⟨1, by omega, rfl⟩
 · exact ⟨2, by omega, rfl⟩
theorem way_of {k : Nat} (h : k < 2) : ∃ wd : Bool, (if wd then 1 else 0 : Nat) = k := by
 have : k = 0 ∨ k = 1 := by omega
 rcases this with rfl | rfl
 · exact ⟨false, rfl⟩
 · exact ⟨true, rfl⟩
theorem way_get {k : Nat} (h : k < 2) : ([.int .i64 ((0 : Nat) : Int), .int .i64 ((1 : Nat) : Int)] : List Value)[k]? = some (.int .i64 ((k : Nat) : Int)) := by
 have : k = 0 ∨ k = 1 := by omega
 rcases this with rfl | rfl <;> rfl
theorem WholeSmall_b {w0 w : World} {F : List Seg} (H : Hp w0 w F) (hT : SlAt F (some ⟨12, 0, none⟩) tableC) {E : Nat → Value} {Q : Nat → Addr} (hE : Errs F E Q) (hg : GTab F) {re im : List Int} {pr_ pi : Option Addr} {cr ci : Nat} (hr : SlAt F pr_ (i64sV re)) (hi_ : SlAt F pi (i64sV im)) (hlr : re.length ≤ 4611686018427387904) (hli : im.length ≤ 4611686018427387904) {d pr : Int} {fl : List Int} {pf : Option Addr} {cf : Nat} (hsf : SlAt F pf (i64sV fl)) (hfl : fl.length ≤ 1099511627776) : Ret Tryz.prog 3 [.slice pr_ re.length cr, .slice pi im.length ci, .agg (poV d pf fl.length cf pr).toArray] w fun v w' => v = .bool true ∧ Hp w0 w' F := by
 refine Calls.of_J (n := 114) Tryz.func3 rfl rfl rfl (J.seq (J.region (JL.e (EX.box (v := .agg _) H rfl rfl) ?_)))
 rintro _ w ⟨b5, rfl, H⟩
 refine JL.e (EX.alloc H zr4 rfl) ?_
 rintro _ w ⟨b6, rfl, H⟩
 refine JL.nil (J.seq (J.region (JL.e (EX.call rfl cl4 rfl ((started_b H hT.cons.cons hE.cons.cons hg.cons.cons))) ?_)))
 rintro _ w ⟨rfl, H⟩
 refine JL.ab rfl (JL.nil (J.seq (J.seq (J.region (JL.mb rfl (JL.g (RX.not rfl) (JL.nil (J.cond_f rfl rfl (J.skip (J.seq (J.region (JL.g (RX.assign) (JL.nil (J.seq (J.join (ι := Nat) (fun n => [(8, .int .i64 ((n : Nat) : Int))]) (fun n w => (n = 1 ∨ n = 2 ∨ n = 4) ∧ Hp w0 w ([(b6, cel [.bool false] 4)] :: [(b5, cel (poV d pf fl.length cf pr) 25)] :: F)) [(0, _), (1, _), (5, _), (6, _), (16, _), (18, _), (19, _), (20, _), (21, _), (22, _), (62, _), (63, _), (64, _), (65, _), (66, _), (67, _), (68, _), (69, _), (70, _), (71, _), (72, _), (73, _), (74, _), (75, _), (76, _), (77, _), (78, _), (79, _), (80, _), (81, _), (82, _), (83, _), (84, _), (85, _), (86, _), (87, _), (88, _), (89, _), (90, _), (91, _), (92, _), (93, _), (94, _), (95, _), (96, _), (97, _), (98, _), (99, _), (100, _), (101, _), (102, _), (103, _), (104, _), (105, _), (106, _), (107, _), (108, _), (109, _), (110, _), (111, _), (112, _), (113, _)] ⟨rfl, rfl, rfl, rfl, rfl, rfl, rfl, rfl, rfl, rfl, rfl, rfl, rfl, rfl, rfl, rfl, rfl, rfl, rfl, rfl, rfl, rfl, rfl, rfl, rfl, rfl, rfl, rfl, rfl, rfl, rfl, rfl, rfl, rfl, rfl, rfl, rfl, rfl, rfl, rfl, rfl, rfl, rfl, rfl, rfl, rfl, rfl, rfl, rfl, rfl, rfl, rfl, rfl, rfl, rfl, rfl, rfl, rfl, rfl, rfl, rfl, rfl, trivial⟩ ?_ ?_)))))))))))))))
 rotate_left
 ·
  intro k2 hk2
  refine J.block (J.loop (ι := Nat) (S := fun n => [(8, .int .i64 ((n : Nat) : Int))]) (Φ := fun n w => (n = 1 ∨ n = 2 ∨ n = 4) ∧ Hp w0 w ([(b6, cel [.bool false] 4)] :: [(b5, cel (poV d pf fl.length cf pr) 25)] :: F)) (μ := fun n => 4 - n) (C := [(0, _), (1, _), (5, _), (6, _), (16, _), (18, _), (19, _), (20, _), (21, _), (22, _), (62, _), (63, _), (64, _), (65, _), (66, _), (67, _), (68, _), (69, _), (70, _), (71, _), (72, _), (73, _), (74, _), (75, _), (76, _), (77, _), (78, _), (79, _), (80, _), (81, _), (82, _), (83, _), (84, _), (85, _), (86, _), (87, _), (88, _), (89, _), (90, _), (91, _), (92, _), (93, _), (94, _), (95, _), (96, _), (97, _), (98, _), (99, _), (100, _), (101, _), (102, _), (103, _), (104, _), (105, _), (106, _), (107, _), (108, _), (109, _), (110, _), (111, _), (112, _), (113, _)]) 1 ⟨rfl, rfl, rfl, rfl, rfl, rfl, rfl, rfl, rfl, rfl, rfl, rfl, rfl, rfl, rfl, rfl, rfl, rfl, rfl, rfl, rfl, rfl, rfl, rfl, rfl, rfl, rfl, rfl, rfl, rfl, rfl, rfl, rfl, rfl, rfl, rfl, rfl, rfl, rfl, rfl, rfl, rfl, rfl, rfl, rfl, rfl, rfl, rfl, rfl, rfl, rfl, rfl, rfl, rfl, rfl, rfl, rfl, rfl, rfl, rfl, rfl, rfl, trivial⟩ ⟨rfl, trivial⟩ ?_ ?_)
  · exact ⟨.inl rfl, H⟩
  clear H
  rintro n ρ w ⟨hn, H⟩ IH
  refine J.seq (J.seq (J.region (JL.mi rfl (JL.g (RX.lt rfl rfl) (JL.mb rfl (JL.splitS 28 rfl (fun h4 => ?_) (fun h4 => ?_)))))))
  ·
   first | have h4p := of_decide_eq_true h4 | skip
   refine JL.go ⟨_, rfl, h4⟩ (RX.movev (v := .int _ _) rfl) (JL.go ⟨_, rfl, h4⟩ (RX.mul rfl rfl (wi (n := 2 * n) (by omega) (by omega))) (JL.go ⟨_, rfl, h4⟩ (RX.movev (v := .slice _ _ _) rfl) (JL.go ⟨_, rfl, h4⟩ (RX.len_slice rfl (by rw [sl22]; rfl) rfl) ?_)))
   refine JL.go ⟨_, rfl, h4⟩ (RX.le rfl rfl) (JL.g (RX.pick_t rfl h4) (JL.nil (J.cond_d rfl (fun h34 => ?_) (fun h34 => ?_))))
   ·
    have hn2 : n = 1 ∨ n = 2 := by omega
    refine J.skip (J.block (J.region (JL.mi rfl (JL.g (RX.mul rfl rfl (wi (n := n * 2) (by omega) (by omega))) (JL.ai rfl (JL.nil (J.inBlock ?_)))))))
    exact IH (n * 2) _ _ (by omega) ⟨rfl, rfl, rfl, rfl, rfl, rfl, rfl, rfl, rfl, rfl, rfl, rfl, rfl, rfl, rfl, rfl, rfl, rfl, rfl, rfl, rfl, rfl, rfl, rfl, rfl, rfl, rfl, rfl, rfl, rfl, rfl, rfl, rfl, rfl, rfl, rfl, rfl, rfl, rfl, rfl, rfl, rfl, rfl, rfl, rfl, rfl, rfl, rfl, rfl, rfl, rfl, rfl, rfl, rfl, rfl, rfl, rfl, rfl, rfl, rfl, rfl, rfl, trivial⟩ ⟨rfl, trivial⟩ ⟨by omega, H⟩
   ·
    refine J.exit rfl ?_
    exact hk2 n _ _ ⟨rfl, rfl, rfl, rfl, rfl, rfl, rfl, rfl, rfl, rfl, rfl, rfl, rfl, rfl, rfl, rfl, rfl, rfl, rfl, rfl, rfl, rfl, rfl, rfl, rfl, rfl, rfl, rfl, rfl, rfl, rfl, rfl, rfl, rfl, rfl, rfl, rfl, rfl, rfl, rfl, rfl, rfl, rfl, rfl, rfl, rfl, rfl, rfl, rfl, rfl, rfl, rfl, rfl, rfl, rfl, rfl, rfl, rfl, rfl, rfl, rfl, rfl, trivial⟩ ⟨rfl, trivial⟩ ⟨hn, H⟩
  ·
   first | have h4p := of_decide_eq_false h4 | skip
   refine JL.no ⟨_, rfl, gno h4⟩ (JL.no ⟨_, rfl, gno h4⟩ (JL.no ⟨_, rfl, gno h4⟩ (JL.no ⟨_, rfl, gno h4⟩ (JL.no ⟨_, rfl, gno h4⟩ (JL.g (RX.pick_f rfl h4) (JL.nil (J.cond_f rfl rfl (J.exit rfl ?_))))))))
   exact hk2 n _ _ ⟨rfl, rfl, rfl, rfl, rfl, rfl, rfl, rfl, rfl, rfl, rfl, rfl, rfl, rfl, rfl, rfl, rfl, rfl, rfl, rfl, rfl, rfl, rfl, rfl, rfl, rfl, rfl, rfl, rfl, rfl, rfl, rfl, rfl, rfl, rfl, rfl, rfl, rfl, rfl, rfl, rfl, rfl, rfl, rfl, rfl, rfl, rfl, rfl, rfl, rfl, rfl, rfl, rfl, rfl, rfl, rfl, rfl, rfl, rfl, rfl, rfl, rfl, trivial⟩ ⟨rfl, trivial⟩ ⟨hn, H⟩
 ·
  clear H
  rintro n ρ w ⟨hn, H⟩
  refine J.seq ?_
  have hz4 : 1 ≤ n ∧ n ≤ 4 := by omega
  refine J.region (JL.ms rfl (JL.ms rfl (JL.mi rfl (JL.e (EX.call rfl cl5 rfl ((wholes_b H hr.cons.cons hi_.cons.cons hlr hli hz4.2 hz4.1))) ?_))))
  rintro _ w ⟨bx, ba, bb, xs, rfl, hz, H⟩
  refine JL.g (RX.movev (v := .tuple _) rfl) (JL.g (RX.extract (v := .slice _ _ _) rfl rfl) (JL.g (RX.extract (v := .slice _ _ _) rfl rfl) (JL.g (RX.extract (v := .slice _ _ _) rfl rfl) (JL.e (EX.alloc H zr27 rfl) ?_))))
  rintro _ w ⟨b9, rfl, H⟩
  refine JL.e (EX.alloc H zr22 rfl) ?_
  rintro _ w ⟨b10, rfl, H⟩
  refine JL.e (EX.alloc H zr22 rfl) ?_
  rintro _ w ⟨b11, rfl, H⟩
  refine JL.e (EX.store (v := .slice _ _ _) H rfl rfl (i := 2) (l' := [.slice (some ⟨bx, 0, none⟩) n n]) rfl rfl (by simp) sz27 rfl rfl) ?_
  rintro _ w H
  refine JL.e (EX.store (v := .slice _ _ _) H rfl rfl (i := 1) (l' := [.slice (some ⟨ba, 0, none⟩) n n]) rfl rfl (by simp) sz22 rfl rfl) ?_
  rintro _ w H
  refine JL.e (EX.store (v := .slice _ _ _) H rfl rfl (i := 0) (l' := [.slice (some ⟨bb, 0, none⟩) n n]) rfl rfl (by simp) sz22 rfl rfl) ?_
  rintro _ w H
  refine JL.nil (J.seq ?_)
  replace H : Hp w0 w ([(b11, cel [.slice (some ⟨bb, 0, none⟩) n n] 22)] :: [(b10, cel [.slice (some ⟨ba, 0, none⟩) n n] 22)] :: [(b9, cel [.slice (some ⟨bx, 0, none⟩) n n] 27)] :: [(bb, cel (i64sV (cutL im n n)) 2)] :: [(ba, cel (i64sV (cutL re n n)) 2)] :: [(bx, cel (cxs xs) 49)] :: [(b6, cel [.bool false] 4)] :: [(b5, cel (poV d pf fl.length cf pr) 25)] :: F) := H
  have hzb := cutZs_b re im n
  refine J.region (JL.g (RX.load H rfl (i := 1) (v := .slice _ _ _) rfl rfl one22) (JL.g (RX.load H rfl (i := 0) (v := .slice _ _ _) rfl rfl one22) (JL.e (EX.call rfl cl6 rfl ((xsmall_b H hE.cons.cons.cons.cons.cons.cons.cons.cons (cutZs_len re im n) hn hzb (cutZs_re re im n).symm (cutZs_im re im n).symm (SlAt.here List.take_length).cons.cons.cons.cons (SlAt.here List.take_length).cons.cons.cons))) ?_)))
  rintro _ w ⟨q1, q2, c1, c2, s1, s2, rfl, ho1, ho2, H⟩
  refine JL.g (RX.movev (v := .tuple _) rfl) (JL.g (RX.extract (v := .slice _ _ _) rfl rfl) (JL.g (RX.extract (v := .slice _ _ _) rfl rfl) (JL.g (RX.extract (v := .nilIface) rfl rfl) (JL.e (EX.alloc H zr22 rfl) ?_))))
  rintro _ w ⟨b12, rfl, H⟩
  refine JL.e (EX.alloc H zr22 rfl) ?_
  rintro _ w ⟨b13, rfl, H⟩
  refine JL.e (EX.store (v := .slice _ _ _) H rfl rfl (i := 1) (l' := [.slice q1 n c1]) rfl rfl (by simp) sz22 rfl rfl) ?_
  rintro _ w H
  refine JL.e (EX.store (v := .slice _ _ _) H rfl rfl (i := 0) (l' := [.slice q2 n c2]) rfl rfl (by simp) sz22 rfl rfl) ?_
  rintro _ w H
  refine JL.g (RX.assignv (v := .nilIface) rfl) (JL.nil (J.seq ?_))
  replace H : Hp w0 w ([(b13, cel [.slice q2 n c2] 22)] :: [(b12, cel [.slice q1 n c1] 22)] :: s2 :: s1 :: [(b11, cel [.slice (some ⟨bb, 0, none⟩) n n] 22)] :: [(b10, cel [.slice (some ⟨ba, 0, none⟩) n n] 22)] :: [(b9, cel [.slice (some ⟨bx, 0, none⟩) n n] 27)] :: [(bb, cel (i64sV (cutL im n n)) 2)] :: [(ba, cel (i64sV (cutL re n n)) 2)] :: [(bx, cel (cxs xs) 49)] :: [(b6, cel [.bool false] 4)] :: [(b5, cel (poV d pf fl.length cf pr) 25)] :: F) := H
  refine J.region (JL.mi rfl (JL.g (RX.loadAgg H rfl (i := 11) (vs := poV d pf fl.length cf pr) rfl rfl ag25) (JL.e (EX.call rfl cl7 rfl ((All_b H hsf.cons.cons.cons.cons.cons.cons.cons.cons.cons.cons.cons.cons hfl))) ?_)))
  rintro _ w ⟨nb, pb, q, c2f, slf, rfl, hof, H⟩
  refine JL.g (RX.assignv (v := .func _ _ _) rfl) (JL.nil (J.seq (J.seq (J.region (JL.g (RX.movev (v := .nilIface) rfl) (JL.g (RX.ifnil_neq (v := .nilIface) rfl rfl rfl if31) (JL.mb rfl (JL.go ⟨_, rfl, rfl⟩ (RX.movev (v := .func _ _ _) rfl) (JL.go ⟨_, rfl, rfl⟩ (RX.funcnil_eql (fn := _) (u := _) (z := _) rfl rfl (by kernel_rfl)) (JL.g (RX.pick_f rfl rfl) (JL.nil (J.cond_f rfl rfl (J.skip (J.seq (J.seq ?_)))))))))))))))
  obtain ⟨c2n, hc2n, hn2n⟩ := two_pow hn
  have hb44 : ∀ z ∈ (cutZs re im n), z.1.natAbs ≤ 17592186044416 ∧ z.2.natAbs ≤ 17592186044416 := fun z h => by have := hzb z h; omega
  have hdl := dft_le hzb
  rw [cutZs_len] at hdl
  have hd44 : ∀ z ∈ dftZ (cutZs re im n), z.1.natAbs ≤ 17592186044416 ∧ z.2.natAbs ≤ 17592186044416 := fun z h => by
    have := hdl z h
    rcases hn with rfl | rfl | rfl <;> omega
  have hdb : ∀ z ∈ dftZ (cutZs re im n), z.1.natAbs < 9007199254740992 ∧ z.2.natAbs < 9007199254740992 := fun z h => by have := hd44 z h; omega
  have hzb9 := hzb
  replace hzb : ∀ z ∈ (cutZs re im n), z.1.natAbs < 9007199254740992 ∧ z.2.natAbs < 9007199254740992 := fun z h => by have := hzb9 z h; omega
  have hinv := inv_dft (zs := (cutZs re im n)) (by rw [cutZs_len]; exact hn) (c2 := c2n) (by rw [cutZs_len]; exact hn2n)
  refine J.region (JL.g (RX.movev (v := .func _ _ _) rfl) (JL.nil (J.block (J.rangeFunc (fv := []) (cv := [.pointer (some ⟨nb, 0, none⟩), .pointer (some ⟨pb, 0, none⟩)]) H rfl cl21 rfl ?_))))
  generalize hasg : (Code.region 13 _ false) = asg
  generalize hbdy : (Code.block 3 _) = bdy
  rintro r l a w1 hl2 ha H
  have hY2 : YC l n w0 ([(l, loopObj .ready 3 a.tmps #[62] asg bdy r)] :: [(r, Obj.deferred (some []))] :: [(b13, cel [.slice q2 n c2] 22)] :: [(b12, cel [.slice q1 n c1] 22)] :: s2 :: s1 :: [(b11, cel [.slice (some ⟨bb, 0, none⟩) n n] 22)] :: [(b10, cel [.slice (some ⟨ba, 0, none⟩) n n] 22)] :: [(b9, cel [.slice (some ⟨bx, 0, none⟩) n n] 27)] :: [(bb, cel (i64sV (cutL im n n)) 2)] :: [(ba, cel (i64sV (cutL re n n)) 2)] :: [(bx, cel (cxs xs) 49)] :: [(b6, cel [.bool false] 4)] :: [(b5, cel (poV d pf fl.length cf pr) 25)] :: F) := by
    intro Xd W o vs s hok hon hO H
    obtain ⟨ko, no, po, mo, co, rfl⟩ := hO.shape
    replace H : Hp w0 W ([(l, loopObj .ready 3 a.tmps #[62] asg bdy r)] :: [(r, Obj.deferred (some []))] :: s :: [(b13, cel [.slice q2 n c2] 22)] :: [(b12, cel [.slice q1 n c1] 22)] :: s2 :: s1 :: [(b11, cel [.slice (some ⟨bb, 0, none⟩) n n] 22)] :: [(b10, cel [.slice (some ⟨ba, 0, none⟩) n n] 22)] :: [(b9, cel [.slice (some ⟨bx, 0, none⟩) n n] 27)] :: [(bb, cel (i64sV (cutL im n n)) 2)] :: [(ba, cel (i64sV (cutL re n n)) 2)] :: [(bx, cel (cxs xs) 49)] :: [(b6, cel [.bool false] 4)] :: [(b5, cel (poV d pf fl.length cf pr) 25)] :: (Xd ++ F)) := H.weak (fun f => by simp only [sumBy, sumBy_app, List.cons_append]; omega)
    have hT0 : SlAt ([(l, loopObj .busy 3 a.tmps #[62] asg bdy r)] :: [(r, Obj.deferred (some []))] :: s :: [(b13, cel [.slice q2 n c2] 22)] :: [(b12, cel [.slice q1 n c1] 22)] :: s2 :: s1 :: [(b11, cel [.slice (some ⟨bb, 0, none⟩) n n] 22)] :: [(b10, cel [.slice (some ⟨ba, 0, none⟩) n n] 22)] :: [(b9, cel [.slice (some ⟨bx, 0, none⟩) n n] 27)] :: [(bb, cel (i64sV (cutL im n n)) 2)] :: [(ba, cel (i64sV (cutL re n n)) 2)] :: [(bx, cel (cxs xs) 49)] :: [(b6, cel [.bool false] 4)] :: [(b5, cel (poV d pf fl.length cf pr) 25)] :: (Xd ++ F)) (some ⟨12, 0, none⟩) tableC := (slApL hT).cons.cons.cons.cons.cons.cons.cons.cons.cons.cons.cons.cons.cons.cons.cons
    have hE0 : Errs ([(l, loopObj .busy 3 a.tmps #[62] asg bdy r)] :: [(r, Obj.deferred (some []))] :: s :: [(b13, cel [.slice q2 n c2] 22)] :: [(b12, cel [.slice q1 n c1] 22)] :: s2 :: s1 :: [(b11, cel [.slice (some ⟨bb, 0, none⟩) n n] 22)] :: [(b10, cel [.slice (some ⟨ba, 0, none⟩) n n] 22)] :: [(b9, cel [.slice (some ⟨bx, 0, none⟩) n n] 27)] :: [(bb, cel (i64sV (cutL im n n)) 2)] :: [(ba, cel (i64sV (cutL re n n)) 2)] :: [(bx, cel (cxs xs) 49)] :: [(b6, cel [.bool false] 4)] :: [(b5, cel (poV d pf fl.length cf pr) 25)] :: (Xd ++ F)) E Q := (Errs.app hE Xd).cons.cons.cons.cons.cons.cons.cons.cons.cons.cons.cons.cons.cons.cons.cons
    have hg0 : GTab ([(l, loopObj .busy 3 a.tmps #[62] asg bdy r)] :: [(r, Obj.deferred (some []))] :: s :: [(b13, cel [.slice q2 n c2] 22)] :: [(b12, cel [.slice q1 n c1] 22)] :: s2 :: s1 :: [(b11, cel [.slice (some ⟨bb, 0, none⟩) n n] 22)] :: [(b10, cel [.slice (some ⟨ba, 0, none⟩) n n] 22)] :: [(b9, cel [.slice (some ⟨bx, 0, none⟩) n n] 27)] :: [(bb, cel (i64sV (cutL im n n)) 2)] :: [(ba, cel (i64sV (cutL re n n)) 2)] :: [(bx, cel (cxs xs) 49)] :: [(b6, cel [.bool false] 4)] :: [(b5, cel (poV d pf fl.length cf pr) 25)] :: (Xd ++ F)) := (GTab.app hg Xd).cons.cons.cons.cons.cons.cons.cons.cons.cons.cons.cons.cons.cons.cons.cons
    have hX0 : SlAt ([(l, loopObj .busy 3 a.tmps #[62] asg bdy r)] :: [(r, Obj.deferred (some []))] :: s :: [(b13, cel [.slice q2 n c2] 22)] :: [(b12, cel [.slice q1 n c1] 22)] :: s2 :: s1 :: [(b11, cel [.slice (some ⟨bb, 0, none⟩) n n] 22)] :: [(b10, cel [.slice (some ⟨ba, 0, none⟩) n n] 22)] :: [(b9, cel [.slice (some ⟨bx, 0, none⟩) n n] 27)] :: [(bb, cel (i64sV (cutL im n n)) 2)] :: [(ba, cel (i64sV (cutL re n n)) 2)] :: [(bx, cel (cxs xs) 49)] :: [(b6, cel [.bool false] 4)] :: [(b5, cel (poV d pf fl.length cf pr) 25)] :: (Xd ++ F)) (some ⟨bx, 0, none⟩) (cxs xs) := (SlAt.here List.take_length).cons.cons.cons.cons.cons.cons.cons.cons.cons.cons.cons.cons
    have hA0 : SlAt ([(l, loopObj .busy 3 a.tmps #[62] asg bdy r)] :: [(r, Obj.deferred (some []))] :: s :: [(b13, cel [.slice q2 n c2] 22)] :: [(b12, cel [.slice q1 n c1] 22)] :: s2 :: s1 :: [(b11, cel [.slice (some ⟨bb, 0, none⟩) n n] 22)] :: [(b10, cel [.slice (some ⟨ba, 0, none⟩) n n] 22)] :: [(b9, cel [.slice (some ⟨bx, 0, none⟩) n n] 27)] :: [(bb, cel (i64sV (cutL im n n)) 2)] :: [(ba, cel (i64sV (cutL re n n)) 2)] :: [(bx, cel (cxs xs) 49)] :: [(b6, cel [.bool false] 4)] :: [(b5, cel (poV d pf fl.length cf pr) 25)] :: (Xd ++ F)) (some ⟨ba, 0, none⟩) (i64sV (cutL re n n)) := (SlAt.here List.take_length).cons.cons.cons.cons.cons.cons.cons.cons.cons.cons.cons
    have hB0 : SlAt ([(l, loopObj .busy 3 a.tmps #[62] asg bdy r)] :: [(r, Obj.deferred (some []))] :: s :: [(b13, cel [.slice q2 n c2] 22)] :: [(b12, cel [.slice q1 n c1] 22)] :: s2 :: s1 :: [(b11, cel [.slice (some ⟨bb, 0, none⟩) n n] 22)] :: [(b10, cel [.slice (some ⟨ba, 0, none⟩) n n] 22)] :: [(b9, cel [.slice (some ⟨bx, 0, none⟩) n n] 27)] :: [(bb, cel (i64sV (cutL im n n)) 2)] :: [(ba, cel (i64sV (cutL re n n)) 2)] :: [(bx, cel (cxs xs) 49)] :: [(b6, cel [.bool false] 4)] :: [(b5, cel (poV d pf fl.length cf pr) 25)] :: (Xd ++ F)) (some ⟨bb, 0, none⟩) (i64sV (cutL im n n)) := (SlAt.here List.take_length).cons.cons.cons.cons.cons.cons.cons.cons.cons.cons
    have hU0 : SlAt ([(l, loopObj .busy 3 a.tmps #[62] asg bdy r)] :: [(r, Obj.deferred (some []))] :: s :: [(b13, cel [.slice q2 n c2] 22)] :: [(b12, cel [.slice q1 n c1] 22)] :: s2 :: s1 :: [(b11, cel [.slice (some ⟨bb, 0, none⟩) n n] 22)] :: [(b10, cel [.slice (some ⟨ba, 0, none⟩) n n] 22)] :: [(b9, cel [.slice (some ⟨bx, 0, none⟩) n n] 27)] :: [(bb, cel (i64sV (cutL im n n)) 2)] :: [(ba, cel (i64sV (cutL re n n)) 2)] :: [(bx, cel (cxs xs) 49)] :: [(b6, cel [.bool false] 4)] :: [(b5, cel (poV d pf fl.length cf pr) 25)] :: (Xd ++ F)) q1 (i64sV (zre (dftZ (cutZs re im n)))) := ho1.slAt.cons.cons.cons.cons.cons.cons
    have hV0 : SlAt ([(l, loopObj .busy 3 a.tmps #[62] asg bdy r)] :: [(r, Obj.deferred (some []))] :: s :: [(b13, cel [.slice q2 n c2] 22)] :: [(b12, cel [.slice q1 n c1] 22)] :: s2 :: s1 :: [(b11, cel [.slice (some ⟨bb, 0, none⟩) n n] 22)] :: [(b10, cel [.slice (some ⟨ba, 0, none⟩) n n] 22)] :: [(b9, cel [.slice (some ⟨bx, 0, none⟩) n n] 27)] :: [(bb, cel (i64sV (cutL im n n)) 2)] :: [(ba, cel (i64sV (cutL re n n)) 2)] :: [(bx, cel (cxs xs) 49)] :: [(b6, cel [.bool false] 4)] :: [(b5, cel (poV d pf fl.length cf pr) 25)] :: (Xd ++ F)) q2 (i64sV (zim (dftZ (cutZs re im n)))) := ho2.slAt.cons.cons.cons.cons.cons
    refine J.yieldAt H (i := 0) rfl ha (J.code hasg (J.region (JL.e (EX.alloc H zr39 rfl) ?_)))
    rintro _ w ⟨b16, rfl, H⟩
    refine JL.e (EX.storeAgg H rfl rfl (i := 0) (vs := tv ko no po mo co) (l' := tv ko no po mo co) rfl tv_cell (by simp) sz39 rfl rfl) ?_
    rintro _ w H
    refine JL.nil (J.beginRound H (i := 1) rfl fun w H => ?_)
    replace H : Hp w0 w ([(b16, cel (tv ko no po mo co) 39)] :: [(l, loopObj .busy 3 a.tmps #[62] asg bdy r)] :: [(r, Obj.deferred (some []))] :: s :: [(b13, cel [.slice q2 n c2] 22)] :: [(b12, cel [.slice q1 n c1] 22)] :: s2 :: s1 :: [(b11, cel [.slice (some ⟨bb, 0, none⟩) n n] 22)] :: [(b10, cel [.slice (some ⟨ba, 0, none⟩) n n] 22)] :: [(b9, cel [.slice (some ⟨bx, 0, none⟩) n n] 27)] :: [(bb, cel (i64sV (cutL im n n)) 2)] :: [(ba, cel (i64sV (cutL re n n)) 2)] :: [(bx, cel (cxs xs) 49)] :: [(b6, cel [.bool false] 4)] :: [(b5, cel (poV d pf fl.length cf pr) 25)] :: (Xd ++ F)) := H
    refine J.code hbdy (J.block (J.seq (J.seq (J.region (JL.g (RX.loadAgg H rfl (i := 0) (vs := tv ko no po mo co) rfl rfl ag39) (JL.e (EX.call rfl cl8 rfl ((blue_b o _ _ _ _ H hO.is.cons.cons.cons))) ?_))))))
    rintro _ w ⟨rfl, H⟩
    refine JL.nil (J.cond_f rfl rfl (J.skip (J.seq (J.region (JL.e (EX.buildSlice (pv := [(0, .int .i64 ((0 : Nat) : Int)), (1, .int .i64 ((1 : Nat) : Int))]) (l := [.int .i64 ((0 : Nat) : Int), .int .i64 ((1 : Nat) : Int)]) (e := 3) H rfl (by kernel_rfl)) ?_)))))
    rintro _ w ⟨bz, rfl, H⟩
    refine JL.g (RX.len_slice rfl (by rw [sl23]; rfl) rfl) ?_
    refine JL.g (RX.move) (JL.nil (J.block (J.loop (ι := Nat) (S := fun k => [(67, .int .i64 ((k : Nat) : Int))]) (Φ := fun k w => k ≤ 2 ∧ Hp w0 w ([(bz, cel [.int .i64 ((0 : Nat) : Int), .int .i64 ((1 : Nat) : Int)] 3)] :: [(b16, cel (tv ko no po mo co) 39)] :: [(l, loopObj .busy 3 a.tmps #[62] asg bdy r)] :: [(r, Obj.deferred (some []))] :: s :: [(b13, cel [.slice q2 n c2] 22)] :: [(b12, cel [.slice q1 n c1] 22)] :: s2 :: s1 :: [(b11, cel [.slice (some ⟨bb, 0, none⟩) n n] 22)] :: [(b10, cel [.slice (some ⟨ba, 0, none⟩) n n] 22)] :: [(b9, cel [.slice (some ⟨bx, 0, none⟩) n n] 27)] :: [(bb, cel (i64sV (cutL im n n)) 2)] :: [(ba, cel (i64sV (cutL re n n)) 2)] :: [(bx, cel (cxs xs) 49)] :: [(b6, cel [.bool false] 4)] :: [(b5, cel (poV d pf fl.length cf pr) 25)] :: (Xd ++ F))) (μ := fun k => 2 - k) (C := [(6, _), (9, _), (10, _), (11, _), (12, _), (13, _), (16, _), (65, _), (66, _)]) 0 ⟨rfl, rfl, rfl, rfl, rfl, rfl, rfl, rfl, rfl, trivial⟩ ⟨rfl, trivial⟩ ?_ ?_)))
    · exact ⟨by omega, H⟩
    clear H
    rintro k ρ w ⟨hk, H⟩ IH
    refine J.seq (J.region (JL.g (RX.lt rfl rfl) (JL.nil (J.seq (J.cond_d rfl (fun hlt => ?_) (fun hlt => ?_))))))
    ·
     have hk2 : k < 2 := by omega
     obtain ⟨wd, hwd⟩ := way_of hk2
     have hfit := o.fit hok wd
     rw [hon] at hfit
     refine J.skip (J.seq (J.block (J.seq (J.region (JL.g (RX.indexAddr rfl rfl sl23 (by omega) (by omega) (o' := k) (by omega)) (JL.g (RX.load H rfl (i := 0) (v := .int .i64 ((k : Nat) : Int)) rfl (way_get hk2) one3) (JL.ai rfl (JL.nil (J.seq (J.region (JL.g (RX.loadAgg H rfl (i := 1) (vs := tv ko no po mo co) rfl rfl ag39) (JL.mi rfl (JL.e (EX.call rfl cl9 rfl ((Of_n H hT0.cons.cons (hE0.at_ 8 (by omega) (by omega)).cons.cons hg0.cons.cons hok hon hO.is.cons.cons.cons.cons wd hwd))) ?_)))))))))))))
     rintro _ w ⟨bp, o0, o1, o2, wy, tx, q7, c7, sl7, rfl, hO7, H⟩
     refine JL.g (RX.movev (v := .tuple _) rfl) (JL.g (RX.extract (v := .pointer _) rfl rfl) (JL.g (RX.extract (v := .nilIface) rfl rfl) (JL.ap rfl (JL.g (RX.assignv (v := .nilIface) rfl) (JL.nil (J.seq (J.seq (J.region (JL.g (RX.movev (v := .nilIface) rfl) (JL.g (RX.ifnil_neq (v := .nilIface) rfl rfl rfl if31) (JL.mb rfl (JL.go ⟨_, rfl, rfl⟩ (RX.movev (v := .pointer _) rfl) (JL.go ⟨_, rfl, rfl⟩ (RX.ptrnil_eql rfl rfl pn41) (JL.g (RX.pick_f rfl rfl) (JL.nil (J.cond_f rfl rfl (J.skip (J.seq (J.region (JL.mp rfl (JL.g (RX.load H rfl (i := 13) (v := .slice _ _ _) rfl rfl one27) (JL.e (EX.call rfl cl10 rfl ((Forward_b (zs := (cutZs re im n)) (xs := xs) (cx := n) H (hE0.at_ 9 (by omega) (by omega)).cons.cons.cons hT0.cons.cons.cons hO7.slAt hfit hX0.cons.cons.cons hz (cutZs_len _ _ _) hb44))) ?_))))))))))))))))))))))
     rintro _ w ⟨q8, c8, s8, rs, rfl, ho8, hr8, H⟩
     refine JL.g (RX.movev (v := .tuple _) rfl) (JL.g (RX.extract (v := .slice _ _ _) rfl rfl) (JL.g (RX.extract (v := .nilIface) rfl rfl) (JL.al rfl (JL.g (RX.assignv (v := .nilIface) rfl) (JL.nil (J.seq (J.seq (J.region (JL.g (RX.movev (v := .nilIface) rfl) (JL.g (RX.ifnil_neq (v := .nilIface) rfl rfl rfl if31) (JL.mb rfl (JL.go ⟨_, rfl, rfl⟩ (RX.movev (v := .slice _ _ _) rfl) (JL.go ⟨_, rfl, rfl⟩ (RX.load H rfl (i := 9) (v := .slice _ _ _) rfl rfl one22) (JL.go ⟨_, rfl, rfl⟩ (RX.load H rfl (i := 8) (v := .slice _ _ _) rfl rfl one22) (JL.does ⟨_, rfl, rfl⟩ (EX.call rfl cl11 rfl ((parts_b (zs := dftZ (cutZs re im n)) H (by rw [dftZ_len, cutZs_len]) (by omega) ho8.slAt hU0.cons.cons.cons.cons.cons hV0.cons.cons.cons.cons.cons hr8 rfl rfl hdb))) ?_)))))))))))))))
     rintro _ w ⟨rfl, H⟩
     refine JL.go ⟨_, rfl, rfl⟩ (RX.not rfl) (JL.g (RX.pick_f rfl rfl) (JL.nil (J.cond_f rfl rfl (J.skip (J.seq (J.region (JL.mp rfl (JL.ms rfl (JL.e (EX.call rfl cl12 rfl ((Inverse_b (zs := dftZ (cutZs re im n)) (os := (cutZs re im n)) (c2 := c2n) (cx := c8) (H.pull 1 rfl) (hE0.at_ 9 (by omega) (by omega)).cons.cons.cons.cons hT0.cons.cons.cons.cons hO7.slAt.cons hfit ho8.slAt hr8 (by rw [dftZ_len, cutZs_len]) hd44 hc2n hn2n hinv hzb))) ?_)))))))))
     rintro _ w ⟨bo, rs2, rfl, hz2, H⟩
     replace H : Hp w0 w ([(bo, cel (cxs rs2) 49)] :: [(bp, cel (plV o0 o1 o2 wy tx n (o.pg wd).nc 0 n q7 (o.pg wd).ss.length c7) 79)] :: s8 :: sl7 :: [(bz, cel [.int .i64 ((0 : Nat) : Int), .int .i64 ((1 : Nat) : Int)] 3)] :: [(b16, cel (tv ko no po mo co) 39)] :: [(l, loopObj .busy 3 a.tmps #[62] asg bdy r)] :: [(r, Obj.deferred (some []))] :: s :: [(b13, cel [.slice q2 n c2] 22)] :: [(b12, cel [.slice q1 n c1] 22)] :: s2 :: s1 :: [(b11, cel [.slice (some ⟨bb, 0, none⟩) n n] 22)] :: [(b10, cel [.slice (some ⟨ba, 0, none⟩) n n] 22)] :: [(b9, cel [.slice (some ⟨bx, 0, none⟩) n n] 27)] :: [(bb, cel (i64sV (cutL im n n)) 2)] :: [(ba, cel (i64sV (cutL re n n)) 2)] :: [(bx, cel (cxs xs) 49)] :: [(b6, cel [.bool false] 4)] :: [(b5, cel (poV d pf fl.length cf pr) 25)] :: (Xd ++ F)) := H
     refine JL.g (RX.movev (v := .tuple _) rfl) (JL.g (RX.extract (v := .slice _ _ _) rfl rfl) (JL.g (RX.extract (v := .nilIface) rfl rfl) (JL.al rfl (JL.g (RX.assignv (v := .nilIface) rfl) (JL.nil (J.seq (J.region (JL.g (RX.movev (v := .nilIface) rfl) (JL.g (RX.ifnil_neq (v := .nilIface) rfl rfl rfl if31) (JL.mb rfl (JL.go ⟨_, rfl, rfl⟩ (RX.movev (v := .slice _ _ _) rfl) (JL.go ⟨_, rfl, rfl⟩ (RX.load H rfl (i := 14) (v := .slice _ _ _) rfl rfl one22) (JL.go ⟨_, rfl, rfl⟩ (RX.load H rfl (i := 13) (v := .slice _ _ _) rfl rfl one22) (JL.does ⟨_, rfl, rfl⟩ (EX.call rfl cl11 rfl ((parts_b (zs := (cutZs re im n)) H (cutZs_len _ _ _).symm (by omega) (SlAt.here List.take_length) hA0.cons.cons.cons.cons.cons.cons hB0.cons.cons.cons.cons.cons.cons hz2 (cutZs_re _ _ _).symm (cutZs_im _ _ _).symm hzb))) ?_))))))))))))))
     rintro _ w ⟨rfl, H⟩
     refine JL.go ⟨_, rfl, rfl⟩ (RX.not rfl) (JL.g (RX.pick_f rfl rfl) (JL.nil (J.cond_f rfl rfl (J.skip (J.inBlock (J.region (JL.g (RX.add rfl rfl (wi (n := k + 1) (by omega) (by omega))) (JL.mi rfl (JL.nil ?_)))))))))
     exact IH (k + 1) _ _ (by omega) ⟨rfl, rfl, rfl, rfl, rfl, rfl, rfl, rfl, rfl, trivial⟩ ⟨rfl, trivial⟩ ⟨by omega, H.weak (fun f => by simp only [sumBy, sumBy_app, List.cons_append]; omega)⟩
    ·
     refine J.exit rfl (J.inBlock (J.roundEnd H (i := 2) rfl fun w H => ?_))
     replace H : Hp w0 w ([(bz, cel [.int .i64 ((0 : Nat) : Int), .int .i64 ((1 : Nat) : Int)] 3)] :: [(b16, cel (tv ko no po mo co) 39)] :: [(l, loopObj .ready 3 a.tmps #[62] asg bdy r)] :: [(r, Obj.deferred (some []))] :: s :: [(b13, cel [.slice q2 n c2] 22)] :: [(b12, cel [.slice q1 n c1] 22)] :: s2 :: s1 :: [(b11, cel [.slice (some ⟨bb, 0, none⟩) n n] 22)] :: [(b10, cel [.slice (some ⟨ba, 0, none⟩) n n] 22)] :: [(b9, cel [.slice (some ⟨bx, 0, none⟩) n n] 27)] :: [(bb, cel (i64sV (cutL im n n)) 2)] :: [(ba, cel (i64sV (cutL re n n)) 2)] :: [(bx, cel (cxs xs) 49)] :: [(b6, cel [.bool false] 4)] :: [(b5, cel (poV d pf fl.length cf pr) 25)] :: (Xd ++ F)) := H
     exact ⟨_, rfl, rfl, H.weak (fun f => by simp only [sumBy, sumBy_app, List.cons_append]; omega)⟩
  rw [← hl2]
  refine Ret.mono (all1_b (X := [[(nb, cel [.int .i64 ((n : Nat) : Int)] 3)], [(pb, cel (poV d q fl.length c2f pr) 25)], slf]) (GF := [(l, loopObj .ready 3 a.tmps #[62] asg bdy r)] :: [(r, Obj.deferred (some []))] :: [(b13, cel [.slice q2 n c2] 22)] :: [(b12, cel [.slice q1 n c1] 22)] :: s2 :: s1 :: [(b11, cel [.slice (some ⟨bb, 0, none⟩) n n] 22)] :: [(b10, cel [.slice (some ⟨ba, 0, none⟩) n n] 22)] :: [(b9, cel [.slice (some ⟨bx, 0, none⟩) n n] 27)] :: [(bb, cel (i64sV (cutL im n n)) 2)] :: [(ba, cel (i64sV (cutL re n n)) 2)] :: [(bx, cel (cxs xs) 49)] :: [(b6, cel [.bool false] 4)] :: [(b5, cel (poV d pf fl.length cf pr) 25)] :: F) hE.cons.cons.cons.cons.cons.cons.cons.cons.cons.cons.cons.cons.cons.cons hn hY2 (SlAt.here rfl) (SlAt.here rfl).cons hof.slAt.cons.cons hfl (H.weak (fun f => by simp only [sumBy, sumBy_app, List.cons_append]; omega))) ?_
  rintro v w3 H
  replace H : Hp w0 w3 ([(l, loopObj .ready 3 a.tmps #[62] asg bdy r)] :: [(r, Obj.deferred (some []))] :: [(b13, cel [.slice q2 n c2] 22)] :: [(b12, cel [.slice q1 n c1] 22)] :: s2 :: s1 :: [(b11, cel [.slice (some ⟨bb, 0, none⟩) n n] 22)] :: [(b10, cel [.slice (some ⟨ba, 0, none⟩) n n] 22)] :: [(b9, cel [.slice (some ⟨bx, 0, none⟩) n n] 27)] :: [(bb, cel (i64sV (cutL im n n)) 2)] :: [(ba, cel (i64sV (cutL re n n)) 2)] :: [(bx, cel (cxs xs) 49)] :: [(b6, cel [.bool false] 4)] :: [(b5, cel (poV d pf fl.length cf pr) 25)] :: F) := H.weak (fun f => by simp only [sumBy, sumBy_app, List.cons_append]; omega)
  refine ⟨0, _, H, rfl, fun w H => ?_⟩
  replace H : Hp w0 w ([(l, loopObj .exhausted 3 a.tmps #[62] asg bdy r)] :: [(r, Obj.deferred (some []))] :: [(b13, cel [.slice q2 n c2] 22)] :: [(b12, cel [.slice q1 n c1] 22)] :: s2 :: s1 :: [(b11, cel [.slice (some ⟨bb, 0, none⟩) n n] 22)] :: [(b10, cel [.slice (some ⟨ba, 0, none⟩) n n] 22)] :: [(b9, cel [.slice (some ⟨bx, 0, none⟩) n n] 27)] :: [(bb, cel (i64sV (cutL im n n)) 2)] :: [(ba, cel (i64sV (cutL re n n)) 2)] :: [(bx, cel (cxs xs) 49)] :: [(b6, cel [.bool false] 4)] :: [(b5, cel (poV d pf fl.length cf pr) 25)] :: F) := H
  refine J.inBlock (J.seq (J.region (JL.e (EX.store (v := .bool _) H rfl rfl (i := 12) (l' := [.bool true]) rfl rfl (by simp) sz4 rfl rfl) ?_)))
  rintro _ w H
  refine JL.nil (J.ret_mark Tryz.func3 H (i := 1) rfl ?_)
  intro w2 a2 ha2 H
  replace H : Hp w0 w2 ([(l, loopObj .exhausted 3 a.tmps #[62] asg bdy r)] :: [(r, Obj.deferred none)] :: [(b13, cel [.slice q2 n c2] 22)] :: [(b12, cel [.slice q1 n c1] 22)] :: s2 :: s1 :: [(b11, cel [.slice (some ⟨bb, 0, none⟩) n n] 22)] :: [(b10, cel [.slice (some ⟨ba, 0, none⟩) n n] 22)] :: [(b9, cel [.slice (some ⟨bx, 0, none⟩) n n] 27)] :: [(bb, cel (i64sV (cutL im n n)) 2)] :: [(ba, cel (i64sV (cutL re n n)) 2)] :: [(bx, cel (cxs xs) 49)] :: [(b6, cel [.bool true] 4)] :: [(b5, cel (poV d pf fl.length cf pr) 25)] :: F) := H
  refine ⟨_, results_c1 ha2 rfl rfl H (i := 12) rfl one4, ?_⟩
  exact ⟨_, rfl, rfl, H.weak (fun f => by simp only [sumBy, sumBy_app, List.cons_append]; omega)⟩
end Oo
end Go.Proofs.YtfaokllgaambjaaGreatDoor
namespace Go.Proofs.YtfaokllgaambjaaGreatDoor
open Go Go.Eng
set_option maxRecDepth 100000
set_option maxHeartbeats 1600000
open Go.ChangeShapes Go.WideShapes Go.ChangeAt Go.RowKit
theorem own : ownKnob Tryz.prog.godebug = none := by kernel_rfl
theorem laidOut : laidOutB Tryz.prog = true := by kernel_rfl
theorem errRow (u : TypeId) (h : Tryz.prog.typeName? 3 u = some "*errors.errorString") : u = 284 :=
  typeName_ptr_named (nm := "errors.errorString") (by kernel_rfl) (by kernel_rfl) (by decide) u h
theorem errT : ErrType Tryz.prog "*errors.errorString" 31 284 303 9 := ErrType.of (by kernel_rfl) errRow
theorem mem_of_var {W : World} {n : String} {g : Nat} {cs : Array Value} (hg : Tryz.prog.globalNamed n = some g) (hv : W.var? Tryz.prog n = some cs) : ∃ T fz, (g, Obj.cells cs T fz) ∈ [allOf W].flatten := by
 unfold World.var? at hv
 rw [hg] at hv
 simp only [Option.bind_some] at hv
 split at hv
 · rename_i c t fz hb
   cases hv
   exact ⟨t, fz, by simpa using allOf_mem hb⟩
 · cases hv
def es10 : List (String × List UInt8) := [("timbre/api.ErrLimit", [116, 105, 109, 98, 114, 101, 58, 32, 108, 105, 109, 105, 116]), ("timbre/api.ErrRange", [116, 105, 109, 98, 114, 101, 58, 32, 114, 97, 110, 103, 101]), ("timbre/api.ErrText", [116, 105, 109, 98, 114, 101, 58, 32, 116, 101, 120, 116]), ("timbre/api.ErrLength", [116, 105, 109, 98, 114, 101, 58, 32, 108, 101, 110, 103, 116, 104]), ("timbre/api.ErrOrder", [116, 105, 109, 98, 114, 101, 58, 32, 111, 114, 100, 101, 114]), ("timbre/api.ErrProgram", [116, 105, 109, 98, 114, 101, 58, 32, 112, 114, 111, 103, 114, 97, 109]), ("timbre/api.ErrState", [116, 105, 109, 98, 114, 101, 58, 32, 115, 116, 97, 116, 101]), ("timbre/api.ErrDone", [116, 105, 109, 98, 114, 101, 58, 32, 100, 111, 110, 101]), ("timbre/api.ErrMode", [116, 105, 109, 98, 114, 101, 58, 32, 109, 111, 100, 101]), ("timbre/api.ErrExact", [116, 105, 109, 98, 114, 101, 58, 32, 101, 120, 97, 99, 116])]
def ixE : List Nat := [0, 0, 0, 0, 0, 1, 2, 3, 4, 5, 6, 0, 0, 0, 0, 7, 0, 8, 0, 9]
theorem of_laid19 {W : World} (h : laidMetH Tryz.prog ([("math/bits.deBruijn32tab", Rows.laid_math_bits_deBruijn32tab), ("math/bits.deBruijn64tab", Rows.laid_math_bits_deBruijn64tab), ("internal/strconv.uint64pow10", Rows.laid_internal_strconv_uint64pow10)] ++ (es10.map (errItem "*errors.errorString") ++ [("timbre/steps.table", Rows.laid_timbre_steps_table)])) W) : ∃ E Q, Errs [allOf W] E Q ∧ Oo.GTab [allOf W] ∧ SlAt [allOf W] (some ⟨12, 0, none⟩) tableC := by
 rw [MakeChecks.laidMetH_plain _ _ _ (by kernel_rfl)] at h
 obtain ⟨ps, hq, _, hrows⟩ := h
 obtain ⟨g0, t0, cs0, fuel0, p0, q0, hg0, ht0, hv0, hd0, hq, rfl⟩ := hq
 obtain ⟨g1, t1, cs1, fuel1, p1, q1, hg1, ht1, hv1, hd1, hq, rfl⟩ := hq
 obtain ⟨g2, t2, cs2, fuel2, p2, q2, hg2, ht2, hv2, hd2, hq, rfl⟩ := hq
 have hgg2 : Tryz.prog.globalNamed "internal/strconv.uint64pow10" = some 13 := by kernel_rfl
 obtain rfl := Option.some.inj (hgg2.symm.trans hg2)
 obtain rfl := Option.some.inj ((show (Tryz.prog.globals[13]?).map (·.type) = some 246 by kernel_rfl).symm.trans ht2)
 obtain ⟨T2, fz2, hm2⟩ := mem_of_var hgg2 hv2
 have hc2 := flat_trod 5 _ _ _ _ (by kernel_rfl) hd2
 have hpow : Oo.GTab [allOf W] := ⟨T2, fz2, by
   have e : cs2 = (Lib.pow10Tab.map fun z => Value.int .u64 z).toArray := by
     rw [← Array.toArray_toList (xs := cs2), hc2]
     rfl
   rw [← e]; exact hm2⟩
 obtain ⟨A, q, _, hq, _, hall⟩ := errs_laid errT es10 _ _ (by kernel_rfl) hq (fun b off hm => hrows b off (List.mem_append_right _ (List.mem_append_right _ (List.mem_append_right _ hm))))
 obtain ⟨g3, t3, cs3, fuel3, p3, q3, hg3, ht3, hv3, hd3, hq, _⟩ := hq
 have hgg3 : Tryz.prog.globalNamed "timbre/steps.table" = some 12 := by kernel_rfl
 obtain rfl := Option.some.inj (hgg3.symm.trans hg3)
 obtain rfl := Option.some.inj ((show (Tryz.prog.globals[12]?).map (·.type) = some 237 by kernel_rfl).symm.trans ht3)
 have hs3 := slAt_of_var hgg3 hv3
 rw [flat_trod 5 _ _ _ _ (by kernel_rfl) hd3] at hs3
 refine ⟨fun n => .iface 284 (.pointer (some (A.getD (ixE.getD n 0) ⟨0, 0, none⟩))), fun n => A.getD (ixE.getD n 0) ⟨0, 0, none⟩, ⟨fun n h0 h1 => ?_, fun n h0 h1 => ?_, trivial⟩, hpow, hs3⟩
 · have : n = 1 ∨ n = 2 ∨ n = 3 ∨ n = 4 ∨ n = 5 ∨ n = 6 ∨ n = 7 ∨ n = 8 ∨ n = 9 ∨ n = 10 ∨ n = 11 ∨ n = 12 ∨ n = 13 ∨ n = 14 ∨ n = 15 ∨ n = 16 ∨ n = 17 ∨ n = 18 ∨ n = 19 := by omega
   rcases this with rfl | rfl | rfl | rfl | rfl | rfl | rfl | rfl | rfl | rfl | rfl | rfl | rfl | rfl | rfl | rfl | rfl | rfl | rfl
   · exact gerr_at (hall 0 _ _ rfl) (by kernel_rfl)
   · exact gerr_at (hall 0 _ _ rfl) (by kernel_rfl)
   · exact gerr_at (hall 0 _ _ rfl) (by kernel_rfl)
   · exact gerr_at (hall 0 _ _ rfl) (by kernel_rfl)
   · exact gerr_at (hall 1 _ _ rfl) (by kernel_rfl)
   · exact gerr_at (hall 2 _ _ rfl) (by kernel_rfl)
   · exact gerr_at (hall 3 _ _ rfl) (by kernel_rfl)
   · exact gerr_at (hall 4 _ _ rfl) (by kernel_rfl)
   · exact gerr_at (hall 5 _ _ rfl) (by kernel_rfl)
   · exact gerr_at (hall 6 _ _ rfl) (by kernel_rfl)
   · exact gerr_at (hall 0 _ _ rfl) (by kernel_rfl)
   · exact gerr_at (hall 0 _ _ rfl) (by kernel_rfl)
   · exact gerr_at (hall 0 _ _ rfl) (by kernel_rfl)
   · exact gerr_at (hall 0 _ _ rfl) (by kernel_rfl)
   · exact gerr_at (hall 7 _ _ rfl) (by kernel_rfl)
   · exact gerr_at (hall 0 _ _ rfl) (by kernel_rfl)
   · exact gerr_at (hall 8 _ _ rfl) (by kernel_rfl)
   · exact gerr_at (hall 0 _ _ rfl) (by kernel_rfl)
   · exact gerr_at (hall 9 _ _ rfl) (by kernel_rfl)
 · have : n = 1 ∨ n = 2 ∨ n = 3 ∨ n = 4 ∨ n = 5 ∨ n = 6 ∨ n = 7 ∨ n = 8 ∨ n = 9 ∨ n = 10 ∨ n = 11 ∨ n = 12 ∨ n = 13 ∨ n = 14 ∨ n = 15 ∨ n = 16 ∨ n = 17 ∨ n = 18 ∨ n = 19 := by omega
   rcases this with rfl | rfl | rfl | rfl | rfl | rfl | rfl | rfl | rfl | rfl | rfl | rfl | rfl | rfl | rfl | rfl | rfl | rfl | rfl
   · exact (errAt_at (hall 0 _ _ rfl)).1
   · exact (errAt_at (hall 0 _ _ rfl)).1
   · exact (errAt_at (hall 0 _ _ rfl)).1
   · exact (errAt_at (hall 0 _ _ rfl)).1
   · exact (errAt_at (hall 1 _ _ rfl)).1
   · exact (errAt_at (hall 2 _ _ rfl)).1
   · exact (errAt_at (hall 3 _ _ rfl)).1
   · exact (errAt_at (hall 4 _ _ rfl)).1
   · exact (errAt_at (hall 5 _ _ rfl)).1
   · exact (errAt_at (hall 6 _ _ rfl)).1
   · exact (errAt_at (hall 0 _ _ rfl)).1
   · exact (errAt_at (hall 0 _ _ rfl)).1
   · exact (errAt_at (hall 0 _ _ rfl)).1
   · exact (errAt_at (hall 0 _ _ rfl)).1
   · exact (errAt_at (hall 7 _ _ rfl)).1
   · exact (errAt_at (hall 0 _ _ rfl)).1
   · exact (errAt_at (hall 8 _ _ rfl)).1
   · exact (errAt_at (hall 0 _ _ rfl)).1
   · exact (errAt_at (hall 9 _ _ rfl)).1
variable {H : Type} {enc : TypeId × Value → H} {W : World}
theorem bulk_mem {d : DataW H} {l : List (DataW H)} (h : d ∈ l) : Rows.uptoBulk d ≤ Rows.uptoBulkAll l := by
 induction l with
 | nil => cases h
 | cons x r ih =>
   simp only [Rows.uptoBulkAll]
   rcases List.mem_cons.1 h with e | e
   · subst e; omega
   · have := ih e; omega
theorem bulk_pos (d : DataW H) : 1 ≤ Rows.uptoBulk d := by
 cases d with
 | lit l => cases l <;> simp [Rows.uptoBulk]
 | nil => simp [Rows.uptoBulk]
 | ptr d => simp [Rows.uptoBulk]
 | slice elems spare => simp [Rows.uptoBulk]
 | agg parts => simp [Rows.uptoBulk]
 | iface t d => simp [Rows.uptoBulk]
 | map entries => simp [Rows.uptoBulk]
 | held h => simp [Rows.uptoBulk]
theorem bulk_len (l : List (DataW H)) : l.length ≤ Rows.uptoBulkAll l := by
 induction l with
 | nil => simp [Rows.uptoBulkAll]
 | cons x r ih => have := bulk_pos x; simp only [Rows.uptoBulkAll, List.length_cons]; omega
theorem bulk_slice {es sp : List (DataW H)} : es.length ≤ Rows.uptoBulk (.slice es sp) := by
 have := bulk_len es
 simp only [Rows.uptoBulk]; omega
theorem bulk_small {l : List (DataW H)} (h : Rows.uptoSmall H l = true) : Rows.uptoBulkAll l ≤ 1048576 := of_decide_eq_true h
theorem slice_small {ds : List (DataW H)} {d : DataW H} {n : Nat} (hd : d ∈ ds) (hk : Rows.uptoBulkAll ds ≤ 1048576) (h : n = 0 ∨ ∃ es sp, d = .slice es sp ∧ es.length = n) : n ≤ 1048576 := by
 rcases h with h | ⟨es, sp, rfl, he⟩
 · omega
 · have h1 := bulk_mem hd
   have h3 := bulk_slice (es := es) (sp := sp)
   omega
theorem slice_cell {t e : TypeId} {fuel : Nat} {c : Value} {x : DataW H × List MemPlace} (ht : Program.underlying Tryz.prog t = some (.slice e)) (h : DataW.trod enc Tryz.prog W 0 (fun _ => true) true fuel t [c] = some x) : ∃ p n k, c = .slice p n k := by
 rcases DataW.trod_slice ht h with ⟨h0, _⟩ | ⟨a, len, cap, _, _, _, _, hcs, _⟩
 · exact ⟨_, _, _, by simpa using h0⟩
 · exact ⟨_, _, _, by simpa using hcs⟩
theorem read_l1 {fuel : Nat} {cs : List Value} {y : DataW H × List MemPlace} (h : DataW.trod enc Tryz.prog W 0 (fun _ => true) true fuel 2 cs = some y) : ∃ z : Int, cs = [.int .i64 z] ∧ True := by
 obtain ⟨z, rfl, _, hw⟩ := DataW.trod_int (k := .i64) (by kernel_rfl) h
 exact ⟨z, rfl, trivial⟩
theorem read_n1 {fuel : Nat} {cs : List Value} {y : DataW H × List MemPlace} (h : DataW.trod enc Tryz.prog W 0 (fun _ => true) true fuel 3 cs = some y) : ∃ z : Int, cs = [.int .i64 z] ∧ True := by
 obtain ⟨z, rfl, _, hw⟩ := DataW.trod_int (k := .i64) (by kernel_rfl) h
 exact ⟨z, rfl, trivial⟩
theorem lV_flat (l : List Int) : (l.map fun z => [Value.int .i64 z]).flatten = i64sV l := by
 induction l with
 | nil => rfl
 | cons a l ih => simp only [List.map_cons, List.flatten_cons, ih]; rfl
theorem read_i64s {fuel n c : Nat} {p : Option Addr} {x : DataW H × List MemPlace} (h : DataW.trod enc Tryz.prog W 0 (fun _ => true) true fuel 22 [.slice p n c] = some x) :
 ∃ l : List Int, l.length = n ∧ SlAt [allOf W] p (i64sV l) ∧ n ≤ 9223372036854775807 ∧ (n = 0 ∨ ∃ es sp, x.1 = .slice es sp ∧ es.length = n) := by
 obtain ⟨l, h1, h2, _, h3, h5⟩ := rd_slice (e := 2) (sz := 1) (by kernel_rfl) h (fun z : Int => [Value.int .i64 z]) (fun _ => True) (by kernel_rfl) (by decide) (fun _ => rfl) (fun _ _ _ h => read_l1 h)
 rw [lV_flat] at h2
 exact ⟨l, h1, h2, h3, h5⟩
theorem read_ints {fuel n c : Nat} {p : Option Addr} {x : DataW H × List MemPlace} (h : DataW.trod enc Tryz.prog W 0 (fun _ => true) true fuel 23 [.slice p n c] = some x) :
 ∃ l : List Int, l.length = n ∧ SlAt [allOf W] p (i64sV l) ∧ n ≤ 9223372036854775807 ∧ (n = 0 ∨ ∃ es sp, x.1 = .slice es sp ∧ es.length = n) := by
 obtain ⟨l, h1, h2, _, h3, h5⟩ := rd_slice (e := 3) (sz := 1) (by kernel_rfl) h (fun z : Int => [Value.int .i64 z]) (fun _ => True) (by kernel_rfl) (by decide) (fun _ => rfl) (fun _ _ _ h => read_n1 h)
 rw [lV_flat] at h2
 exact ⟨l, h1, h2, h3, h5⟩
theorem list3 {l : List Value} (h : l.length = 3) : ∃ a b c, l = [a, b, c] := by
 match l, h with
 | [a, b, c], _ => exact ⟨a, b, c, rfl⟩
theorem read_pol {fuel : Nat} {cs : List Value} {x : DataW H × List MemPlace} (h : DataW.trod enc Tryz.prog W 0 (fun _ => true) true fuel 25 cs = some x) :
 ∃ (d pr : Int) (fl : List Int) (p : Option Addr) (c : Nat), cs = Oo.poV d p fl.length c pr ∧ SlAt [allOf W] p (i64sV fl) ∧ (fl.length = 0 ∨ ∃ ds es sp, x.1 = .agg ds ∧ ds[1]? = some (.slice es sp) ∧ es.length = fl.length) := by
 obtain ⟨m0, y0, _, h0, _, _, hl⟩ := rd_field (i := 0) (u := 3) (off := 0) (n := 1) h (by kernel_rfl)
 obtain ⟨m1, y1, ds, h1, hx, hd, _⟩ := rd_field (i := 1) (u := 23) (off := 1) (n := 1) h (by kernel_rfl)
 obtain ⟨m2, y2, _, h2, _, _, _⟩ := rd_field (i := 2) (u := 3) (off := 2) (n := 1) h (by kernel_rfl)
 obtain ⟨c0, c1, c2, rfl⟩ := list3 (hl.trans (by kernel_rfl))
 have hk : Program.underlying Tryz.prog 3 = some (.int .i64) := by kernel_rfl
 obtain ⟨z0, rfl, w0⟩ := rd_int hk h0
 obtain ⟨z2, rfl, w2⟩ := rd_int hk h2
 obtain ⟨pp, n, pc, rfl⟩ := slice_cell (e := 3) (by kernel_rfl) h1
 obtain ⟨l, rfl, hsl, hn, hb⟩ := read_ints h1
 refine ⟨z0, z2, l, pp, pc, rfl, hsl, ?_⟩
 rcases hb with hb | ⟨es, sp, he, hes⟩
 · exact .inl hb
 · exact .inr ⟨ds, es, sp, hx, by rw [hd, he], hes⟩
theorem pol_small {ds : List (DataW H)} {d : DataW H} {n : Nat} (hd : d ∈ ds) (hk : Rows.uptoBulkAll ds ≤ 1048576)
 (h : n = 0 ∨ ∃ ps es sp, d = .agg ps ∧ ps[1]? = some (.slice es sp) ∧ es.length = n) : n ≤ 1048576 := by
 rcases h with h | ⟨ps, es, sp, rfl, h4, he⟩
 · omega
 · have h1 := bulk_mem hd
   have h2 := bulk_mem (List.mem_of_getElem? h4)
   have h3 := bulk_slice (es := es) (sp := sp)
   simp only [Rows.uptoBulk] at h1
   omega
end Go.Proofs.YtfaokllgaambjaaGreatDoor
namespace Go.Proofs.YtfaokllgaambjaaGreatDoor
open Go Go.Eng
set_option maxRecDepth 100000
set_option maxHeartbeats 1600000
open Go.ChangeShapes Go.WideShapes Go.ChangeAt Go.RowKit
theorem wholeSmall_contract (H : Type) (enc : TypeId × Value → H) (W : World) (base : Nat) (args : Array Value) (ds gs : List (DataW H)) (before : List MemPlace)
 (hval : ∀ (j : Nat) t v, Tryz.f3.params[j]? = some t → args[j]? = some v → Value.okWide Tryz.prog W .any base t v)
 (hW : DataW.Whole enc Tryz.prog Tryz.f3.params.toList Rows.wholeSmallSpec.vars false W args.toList ds gs before) (hk : Rows.uptoSmall H (ds ++ gs) = true) (hL : laidMetH Tryz.prog Rows.wholeSmallUptoRow.laid W) :
 Calls Tryz.prog 3 args W fun e W' => ∃ v, e = .returned v ∧ Rows.wholeSmallSpec.post enc Tryz.prog Tryz.f3 false true false false W args v W' := by
 have hW' := hW
 obtain ⟨p, q, hA0, hV, rfl, hfz, hnd⟩ := hW
 have hA : DataW.TrodAll enc Tryz.prog W 0 (fun _ => true) true Tryz.f3.params.toList args.toList ds p := hA0
 rw [Tryz.params3] at hA hval
 obtain ⟨rfl, rfl⟩ := trodVars_none hV
 have hL2 := of_laid19 hL
 obtain ⟨v0, v1, v2, d0, d1, d2, p0, p1, p2, rfl, rfl, rfl, h0, h1, h2⟩ := trodAll_three hA
 obtain ⟨paxs, nxs, cxs, rfl⟩ := okWide_slice (e := 2) (by kernel_rfl) (hval 0 _ v0 rfl rfl)
 obtain ⟨fuxs, hfxs⟩ := h0
 obtain ⟨xs, rfl, slxs, lexs, buxs⟩ := read_i64s hfxs
 obtain ⟨pays, nys, cys, rfl⟩ := okWide_slice (e := 2) (by kernel_rfl) (hval 1 _ v1 rfl rfl)
 obtain ⟨fuys, hfys⟩ := h1
 obtain ⟨ys, rfl, slys, leys, buys⟩ := read_i64s hfys
 obtain ⟨cspo, rfl, _⟩ := okWide_struct (fs := Tryz.prog.fieldsOf 25) (by kernel_rfl) (hval 2 _ v2 rfl rfl)
 obtain ⟨fupo, hfpo⟩ := h2
 obtain ⟨dd, pr, fl, ppo, cpo, hcpo, slpo, bupo⟩ := read_pol (cs := cspo.toList) hfpo
 obtain rfl : cspo = (Oo.poV dd ppo fl.length cpo pr).toArray := by rw [← hcpo]
 have hs1 := slice_small (List.mem_append_left _ List.mem_cons_self) (bulk_small hk) buxs
 have hs2 := slice_small (List.mem_append_left _ (List.mem_cons_of_mem _ List.mem_cons_self)) (bulk_small hk) buys
 have hs3 := pol_small (List.mem_append_left _ (List.mem_cons_of_mem _ (List.mem_cons_of_mem _ List.mem_cons_self))) (bulk_small hk) bupo
 obtain ⟨E, Q, hE, hG, hT⟩ := hL2
 exact calls_true (tb := 4) laidOut (Oo.WholeSmall_b (Hp.start W) hT hE hG slxs slys (by omega) (by omega) slpo (by omega)) (by kernel_rfl) (by rfl) (by kernel_rfl) rfl hW' rfl
theorem wholeSmall_met (os : Os) : laidMetH Tryz.prog Rows.wholeSmallUptoRow.laid ((World.doorLaid Tryz.prog 231 os).forCall (fun _ _ => 0) ⟨#[], #[.slice none 0 0, .slice none 0 0, .agg #[.int .i64 0, .slice none 0 0, .int .i64 0]], []⟩).memory := by
 rw [MakeChecks.laidMetH_plain _ _ _ (by kernel_rfl)]
 exact laidMet_of_run' 8 (by kernel_rfl) (by kernel_rfl)
theorem wholeSmall_reads (os : Os) {H : Type} (enc : TypeId × Value → H) : ∃ places, DataW.whole enc Tryz.prog ((World.doorLaid Tryz.prog 231 os).forCall (fun _ _ => 0) ⟨#[], #[.slice none 0 0, .slice none 0 0, .agg #[.int .i64 0, .slice none 0 0, .int .i64 0]], []⟩).memory Tryz.f3.params.toList Rows.wholeSmallSpec.vars false (#[.slice none 0 0, .slice none 0 0, .agg #[.int .i64 0, .slice none 0 0, .int .i64 0]] : Array Value).toList 8 = some ([.nil, .nil, .agg [.lit (.int .i64 0), .nil, .lit (.int .i64 0)]], [], places) :=
  ⟨[], by kernel_rfl⟩
theorem wholeSmall_lifted (os : Os) (started : os.Started) (H : Type) (enc : TypeId × Value → H) (F : Stop.Interp) :
 ReturnsInHanded {} Tryz.checked os 3 .any ((Rows.OpenSpec.upto Rows.wholeSmallSpec).preRow enc Tryz.prog Tryz.f3 Rows.wholeSmallUptoRow.domain false Rows.wholeSmallUptoRow.laid) (((Rows.OpenSpec.upto Rows.wholeSmallSpec).at F).post enc Tryz.prog Tryz.f3 false true false false) := by
 obtain ⟨places, hx⟩ := wholeSmall_reads os enc
 refine returnsInHanded_of_row (C := Tryz.checked) (s := (Rows.OpenSpec.upto Rows.wholeSmallSpec)) own started (by kernel_rfl) Tryz.func3
   (witness_row_atRef (enc := enc) (C := Tryz.checked) false (World.doorLaid Tryz.prog 231 os) #[.slice none 0 0, .slice none 0 0, .agg #[.int .i64 0, .slice none 0 0, .int .i64 0]] rfl (by kernel_rfl) (by kernel_rfl) (by kernel_rfl)
     (OpenSpec.preRow_of_cond 8 hx (by kernel_rfl) (fun k hk => by cases hk; kernel_rfl) (by kernel_rfl) (wholeSmall_met os))) ?_
 intro W base args ds gs before hval hW _ hc _ hL _ _
 exact wholeSmall_contract H enc W base args ds gs before hval hW (hc _ rfl) hL
theorem wholeSmall_said : Rows.WholeSmallUptoSaid :=
  OpenClaim.holds_of_cond 3 Tryz.f3 rfl rfl rfl rfl rfl rfl rfl ⟨rfl, rfl, rfl, rfl, rfl⟩ rfl rfl rfl rfl rfl (by kernel_rfl) Tryz.func3 (by kernel_rfl)
    (of_decide_eq_true (by kernel_rfl)) (by unfold Func.isWrapper; first | (rw [if_pos (by decide +kernel)]; kernel_rfl) | (rw [if_neg (by decide +kernel)]; exact ⟨rfl, rfl⟩))
    (fun os started H enc _ F => by rw [OpenClaim.pre_eq_preRow]; exact wholeSmall_lifted os started H enc F)
theorem wholeSmall_plain (f : FuncId) (fn : Func) (hf : Tryz.pinned.checked.prog.funcNamed "timbre/timbretop.WholeSmall" = some f) (hfn : Tryz.pinned.checked.prog.funcs[f]? = some fn) :
 true = Tryz.pinned.checked.prog.looks [] ∧ ∀ (j : Nat) t, fn.params[j]? = some t → Tryz.pinned.checked.prog.wantsStandIn t = false := by
 obtain rfl : f = 3 := Option.some.inj ((show Tryz.prog.funcNamed "timbre/timbretop.WholeSmall" = some 3 by kernel_rfl).symm.trans hf) |>.symm
 obtain rfl : fn = Tryz.f3 := (Option.some.inj (Tryz.func3.symm.trans hfn)).symm
 refine ⟨by kernel_rfl, fun j t ht => ?_⟩
 have hall : (Tryz.f3.params.toList.all fun t => !Tryz.prog.wantsStandIn t) = true := by kernel_rfl
 have := List.all_eq_true.1 hall t (by simpa using Array.mem_of_getElem? ht)
 have h2 : Tryz.prog.wantsStandIn t = false := by simpa using this
 exact h2
theorem wholeSmall_card : Rows.WholeSmallUptoCardSaid :=
  Claim7.holds_tied_plain_at .later [] _ _ _ _ wholeSmall_said (fun _ h => by cases h) (by kernel_rfl) (fun _ h => by cases h) wholeSmallUpto_row_tie rfl ⟨rfl, rfl⟩ (by kernel_rfl) rfl wholeSmall_plain (by kernel_rfl)
end Go.Proofs.YtfaokllgaambjaaGreatDoor

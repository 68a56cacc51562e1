/- Part 21 of the proof that WholeSmall holds: what the functions on its way do, step by step. -/
import Derived.Test.YtfaokllgaambjaaGreatDoorZ1
import Derived.Test.YtfaokllgaambjaaGreatDoorZ2
import Derived.Test.YtfaokllgaambjaaGreatDoorZ3
import Derived.Test.YtfaokllgaambjaaGreatDoorZ4
import Derived.Test.YtfaokllgaambjaaGreatDoorZ5
import Derived.Test.YtfaokllgaambjaaGreatDoorZ8
import Derived.Test.YtfaokllgaambjaaGreatDoorZ9
import Derived.Test.YtfaokllgaambjaaGreatDoorZ11
import Derived.Test.YtfaokllgaambjaaGreatDoorZ12
import Derived.Test.YtfaokllgaambjaaGreatDoorZ14
import Derived.Test.YtfaokllgaambjaaGreatDoorZ15
import Derived.Test.YtfaokllgaambjaaGreatDoorZ16
import Derived.Test.YtfaokllgaambjaaGreatDoorZ18
import Derived.Test.YtfaokllgaambjaaGreatDoorZ19
import Derived.Test.YtfaokllgaambjaaGreatDoorZ20
import Derived.Lib.Bytealg
set_option linter.unusedVariables false
set_option linter.unusedSimpArgs false
namespace Go.Proofs.YtfaokllgaambjaaGreatDoor
open Go Go.Eng
set_option maxRecDepth 100000
set_option maxHeartbeats 1600000
theorem cl120 : callable Tryz.prog 120 = true := by kernel_rfl
theorem cl121 : callable Tryz.prog 121 = true := by kernel_rfl
namespace Oo
theorem widePt_b {w0 w : World} {F : List Seg} {bb xb xo cx : Nat} {fb : Bool} {pb po c1 c2 ck : Nat} {p1 p2 : Option Addr} (H : BHp w0 w bb 4 d0 F) (hT : SlAt F (some ⟨12, 0, none⟩) tableC) (hs : SlAt F (some ⟨pb, po, none⟩) (kidV true fb p1 p2 c1 c2)) (ha : (lfT true).Is F (tv (kf true) 2 p1 0 c1)) (hk : (lfT fb).Is F (tv (kf fb) 2 p2 0 c2)) (hx : SlAt F (some ⟨xb, xo, none⟩) (insV [(0, 1, 4)])) : Ret Tryz.prog 89 [.pointer (some ⟨bb, 0, none⟩), .agg (tv 3 0 (some ⟨pb, po, none⟩) 2 ck).toArray, .slice (some ⟨xb, xo, none⟩) 1 cx] w fun _ w' => BHp w0 w' bb 4 (wfB fb) F := by
 refine Calls.of_J (n := 87) Tryz.func89 rfl rfl rfl (J.seq ?_)
 obtain ⟨q, c, sl, hO, H⟩ := H
 refine J.region (JL.e (EX.box (v := .agg _) H rfl rfl) ?_)
 rintro _ w ⟨b4, rfl, H⟩
 refine JL.nil (J.seq (J.seq ?_))
 replace H := H.pull 1 rfl
 refine J.region (JL.mp rfl (JL.e (EX.call rfl cl90 rfl ((cfull_b H (by decide)))) ?_))
 rintro _ w ⟨rfl, H⟩
 refine JL.nil (J.cond_f rfl rfl (J.skip (J.seq (J.region (JL.g (RX.fieldAddr rfl fo39_0 rfl) (JL.g (RX.load H rfl (i := 1) (v := .int _ _) rfl rfl one3) (JL.nil (J.block (J.seq (J.region (JL.g (RX.eq rfl rfl) (JL.ab rfl (JL.nil (J.cond_f rfl (by decide) (J.seq (J.region (JL.g (RX.eq rfl rfl) (JL.ab rfl (JL.nil (J.cond_f rfl (by decide) (J.seq (J.region (JL.g (RX.eq rfl rfl) (JL.ab rfl (JL.nil (J.cond_t rfl (by decide) (J.seq (J.region (JL.g (RX.fieldAddr rfl fo39_2 rfl) (JL.g (RX.load H rfl (i := 1) (v := .slice _ _ _) rfl rfl one37) (JL.g (RX.indexAddr rfl rfl sl37 (by omega) (by omega) (o' := po + 0 * 3) (by omega)) (JL.g (RX.fieldAddr rfl fo39_0 rfl) (JL.g (RX.loadS H hs.cons.cons.cons rfl (j := 0) (by omega) (v := .int .i64 (kf true)) rfl one3) (JL.g (RX.eq rfl rfl) (JL.nil (J.cond_t rfl (by decide) (J.region (JL.mp rfl (JL.g (RX.loadAgg H rfl (i := 1) (vs := tv 3 0 (some ⟨pb, po, none⟩) 2 ck) rfl rfl ag39) (JL.ms rfl (JL.e (EX.call rfl cl120 rfl ((wideFly_b (cx := cx) (F := [(b4, cel (tv 3 0 (some ⟨pb, po, none⟩) 2 ck) 39)] :: F) ⟨q, c, sl, hO, (H.pull 2 rfl).pull 1 rfl⟩ hT.cons hs.cons ha.cons hk.cons hx.cons))) ?_)))))))))))))))))))))))))))))))))))))))))
 rintro _ w H
 refine JL.nil (J.inBlock (J.end0 Tryz.func89 rfl ?_))
 obtain ⟨q, c, sl, hO, H⟩ := H
 exact ⟨_, rfl, q, c, sl, hO, (H.pull 2 rfl).drop⟩
theorem widePf_b {w0 w : World} {F : List Seg} {bb xb xo cx : Nat} {fb : Bool} {pb po c1 c2 ck : Nat} {p1 p2 : Option Addr} (H : BHp w0 w bb 4 d0 F) (hT : SlAt F (some ⟨12, 0, none⟩) tableC) (hs : SlAt F (some ⟨pb, po, none⟩) (kidV false fb p1 p2 c1 c2)) (ha : (lfT false).Is F (tv (kf false) 2 p1 0 c1)) (hk : (lfT fb).Is F (tv (kf fb) 2 p2 0 c2)) (hx : SlAt F (some ⟨xb, xo, none⟩) (insV [(0, 1, 4)])) : Ret Tryz.prog 89 [.pointer (some ⟨bb, 0, none⟩), .agg (tv 3 0 (some ⟨pb, po, none⟩) 2 ck).toArray, .slice (some ⟨xb, xo, none⟩) 1 cx] w fun _ w' => BHp w0 w' bb 4 (w3 fb 2) F := by
 refine Calls.of_J (n := 87) Tryz.func89 rfl rfl rfl (J.seq ?_)
 obtain ⟨q, c, sl, hO, H⟩ := H
 refine J.region (JL.e (EX.box (v := .agg _) H rfl rfl) ?_)
 rintro _ w ⟨b4, rfl, H⟩
 refine JL.nil (J.seq (J.seq ?_))
 replace H := H.pull 1 rfl
 refine J.region (JL.mp rfl (JL.e (EX.call rfl cl90 rfl ((cfull_b H (by decide)))) ?_))
 rintro _ w ⟨rfl, H⟩
 refine JL.nil (J.cond_f rfl rfl (J.skip (J.seq (J.region (JL.g (RX.fieldAddr rfl fo39_0 rfl) (JL.g (RX.load H rfl (i := 1) (v := .int _ _) rfl rfl one3) (JL.nil (J.block (J.seq (J.region (JL.g (RX.eq rfl rfl) (JL.ab rfl (JL.nil (J.cond_f rfl (by decide) (J.seq (J.region (JL.g (RX.eq rfl rfl) (JL.ab rfl (JL.nil (J.cond_f rfl (by decide) (J.seq (J.region (JL.g (RX.eq rfl rfl) (JL.ab rfl (JL.nil (J.cond_t rfl (by decide) (J.seq (J.region (JL.g (RX.fieldAddr rfl fo39_2 rfl) (JL.g (RX.load H rfl (i := 1) (v := .slice _ _ _) rfl rfl one37) (JL.g (RX.indexAddr rfl rfl sl37 (by omega) (by omega) (o' := po + 0 * 3) (by omega)) (JL.g (RX.fieldAddr rfl fo39_0 rfl) (JL.g (RX.loadS H hs.cons.cons.cons rfl (j := 0) (by omega) (v := .int .i64 (kf false)) rfl one3) (JL.g (RX.eq rfl rfl) (JL.nil (J.cond_f rfl (by decide) (J.region (JL.mp rfl (JL.g (RX.loadAgg H rfl (i := 1) (vs := tv 3 0 (some ⟨pb, po, none⟩) 2 ck) rfl rfl ag39) (JL.ms rfl (JL.e (EX.call rfl cl121 rfl ((wideTimes_b (cx := cx) (F := [(b4, cel (tv 3 0 (some ⟨pb, po, none⟩) 2 ck) 39)] :: F) ⟨q, c, sl, hO, (H.pull 2 rfl).pull 1 rfl⟩ hT.cons hs.cons ha.cons hk.cons hx.cons))) ?_)))))))))))))))))))))))))))))))))))))))))
 rintro _ w H
 refine JL.nil (J.inBlock (J.end0 Tryz.func89 rfl ?_))
 obtain ⟨q, c, sl, hO, H⟩ := H
 exact ⟨_, rfl, q, c, sl, hO, (H.pull 2 rfl).drop⟩
end Oo
end Go.Proofs.YtfaokllgaambjaaGreatDoor
namespace Go.Proofs.YtfaokllgaambjaaGreatDoor
open Go Go.Eng
set_option maxRecDepth 100000
set_option maxHeartbeats 1600000
namespace Oo
theorem fit_D (fa fb : Bool) : FitP 4 (prD fa fb).nc (prD fa fb).ac (prD fa fb).ss := by
 cases fa <;> cases fb <;> exact ⟨by decide +kernel, by decide +kernel, by decide +kernel, by decide +kernel, by decide +kernel, by decide +kernel, by decide +kernel, by decide +kernel, by decide +kernel, .inr (.inr rfl)⟩
theorem fit_W (fb : Bool) : FitP 4 (w3 fb 2).nc (w3 fb 2).ac (w3 fb 2).ss := by
 cases fb <;> exact ⟨by decide +kernel, by decide +kernel, by decide +kernel, by decide +kernel, by decide +kernel, by decide +kernel, by decide +kernel, by decide +kernel, by decide +kernel, .inr (.inr rfl)⟩
theorem fit_F (fb : Bool) : FitP 4 (wfB fb).nc (wfB fb).ac (wfB fb).ss := by
 cases fb <;> exact ⟨by decide +kernel, by decide +kernel, by decide +kernel, by decide +kernel, by decide +kernel, by decide +kernel, by decide +kernel, by decide +kernel, by decide +kernel, .inr (.inr rfl)⟩
end Oo
end Go.Proofs.YtfaokllgaambjaaGreatDoor
namespace Go.Proofs.YtfaokllgaambjaaGreatDoor
open Go Go.Eng
set_option maxRecDepth 100000
set_option maxHeartbeats 1600000
theorem cl56 : callable Tryz.prog 56 = true := by kernel_rfl
namespace Oo
inductive Od where
  | lf (f : Bool) (m : Nat)
  | tt (fa fb : Bool)
def Od.tr : Od → Tr
  | .lf f m => .node (kf f) ((m : Nat) : Int) []
  | .tt fa fb => .node 3 0 [lfT fa, lfT fb]
def Od.n : Od → Nat
  | .lf _ m => m
  | .tt .. => 4
def Od.ok : Od → Prop
  | .lf f m => (f = false ∧ m = 1) ∨ m = 2 ∨ m = 4
  | .tt .. => True
def st0 (m : Nat) : Bd := ⟨[], 2 * m, 0, 2 * m⟩
def lfP (f : Bool) (m : Nat) : Bd := if f then ((st0 m).ad ⟨1, m, 0, 1, m, 0, 0⟩).ad ⟨5, m, 0, 1, 1, m, 0⟩ else (st0 m).ad ⟨6, m, 0, 1, m, m, 0⟩
def Od.pg : Od → Bool → Bd
  | .lf f m, _ => lfP f m
  | .tt fa fb, false => (prD fa fb).ff 8
  | .tt true fb, true => wfB fb
  | .tt false fb, true => w3 fb 2
theorem fit_L {f : Bool} {m : Nat} (h : (f = false ∧ m = 1) ∨ m = 2 ∨ m = 4) : FitP m (lfP f m).nc (lfP f m).ac (lfP f m).ss ∧ (lfP f m).sm := by
 rcases h with ⟨rfl, rfl⟩ | rfl | rfl
 · exact ⟨⟨by decide +kernel, by decide +kernel, by decide +kernel, by decide +kernel, by decide +kernel, by decide +kernel, by decide +kernel, by decide +kernel, by decide +kernel, .inl rfl⟩, by decide +kernel⟩
 · cases f <;> exact ⟨⟨by decide +kernel, by decide +kernel, by decide +kernel, by decide +kernel, by decide +kernel, by decide +kernel, by decide +kernel, by decide +kernel, by decide +kernel, .inr (.inl rfl)⟩, by decide +kernel⟩
 · cases f <;> exact ⟨⟨by decide +kernel, by decide +kernel, by decide +kernel, by decide +kernel, by decide +kernel, by decide +kernel, by decide +kernel, by decide +kernel, by decide +kernel, .inr (.inr rfl)⟩, by decide +kernel⟩
theorem Od.fit (o : Od) (h : o.ok) (wd : Bool) : FitP o.n (o.pg wd).nc (o.pg wd).ac (o.pg wd).ss := by
 cases o with
 | lf f m => exact (fit_L h).1
 | tt fa fb =>
   cases wd with
   | false => exact fit_D fa fb
   | true => cases fa with
     | true => exact fit_F fb
     | false => exact fit_W fb
theorem Od.sm (o : Od) (h : o.ok) (wd : Bool) : (o.pg wd).sm := by
 cases o with
 | lf f m => exact (fit_L h).2
 | tt fa fb => cases wd <;> cases fa <;> cases fb <;> decide +kernel
theorem Od.n4 (o : Od) (h : o.ok) : o.n = 1 ∨ o.n = 2 ∨ o.n = 4 := by
 cases o with
 | lf f m => rcases h with ⟨_, h⟩ | h | h <;> simp [Od.n, h]
 | tt fa fb => exact .inr (.inr rfl)
theorem Od.parts (o : Od) : o.tr.parts ≤ 4194304 := by
 cases o with
 | lf f m => simp [Od.tr, Tr.parts, partsL]
 | tt fa fb => simp [Od.tr, lfT, Tr.parts, partsL]
theorem Od.len (o : Od) (h : o.ok) : lenO o.tr = ((o.n : Nat) : Int) := by
 cases o with
 | lf f m =>
   unfold lenO Od.tr Od.n
   cases f with
   | false => rw [lw_dir (k := kf false) (by omega) ⟨rfl, rfl, by rcases h with ⟨_, h⟩ | h | h <;> omega, by rcases h with ⟨_, h⟩ | h | h <;> omega⟩]
   | true =>
     rw [lw_fly (k := kf true) (by omega) (by rintro ⟨h, _⟩; exact absurd h (by decide)) ⟨rfl, rfl, ?_, ?_⟩]
     all_goals (rcases h with ⟨h, _⟩ | h | h <;> first | (subst h; decide) | cases h)
 | tt fa fb =>
   have e : ∀ f d c, d ≤ 3 → c ≤ 5 → lw (lfT f) d c = (2, c + 1) := by
     intro f d c hd hc
     unfold lfT
     cases f
     · rw [lw_dir (k := kf false) (by omega) ⟨rfl, rfl, by omega, by omega⟩]
     · rw [lw_fly (k := kf true) (by omega) (by rintro ⟨h, _⟩; exact absurd h (by decide)) ⟨rfl, rfl, by omega, by omega⟩]
   unfold lenO Od.tr Od.n
   rw [lw_two (by omega), e fa _ _ (by omega) (by omega), e fb _ _ (by omega) (by omega)]
   rfl
theorem Od.good (o : Od) (h : o.ok) : goodB o.tr = true := decide_eq_true (by rw [o.len h]; have := o.n4 h; omega)
theorem is_leaf {L : List Seg} {k n : Int} {vs : List Value} (h : (Tr.node k n []).Is L vs) : ∃ p c, vs = tv k n p 0 c := by
 rw [Tr.Is] at h
 obtain ⟨p, c, xs, rfl, _, _⟩ := h
 exact ⟨p, c, rfl⟩
theorem is_two {L : List Seg} {a b : Tr} {vs : List Value} (h : (Tr.node 3 0 [a, b]).Is L vs) : ∃ p c va vb, vs = tv 3 0 p 2 c ∧ SlAt L p (va ++ vb) ∧ a.Is L va ∧ b.Is L vb := by
 rw [Tr.Is] at h
 obtain ⟨p, c, xs, rfl, hs, hk⟩ := h
 rw [KidsIs] at hk
 obtain ⟨va, x1, rfl, ha, hk⟩ := hk
 rw [KidsIs] at hk
 obtain ⟨vb, x2, rfl, hb, hk⟩ := hk
 rw [KidsIs] at hk
 subst hk
 rw [List.append_nil] at hs
 exact ⟨p, c, va, vb, rfl, hs, ha, hb⟩
theorem is_tt {L : List Seg} {fa fb : Bool} {vs : List Value} (h : (Od.tt fa fb).tr.Is L vs) : ∃ pb po ck p1 p2 c1 c2, vs = tv 3 0 (some ⟨pb, po, none⟩) 2 ck ∧ SlAt L (some ⟨pb, po, none⟩) (kidV fa fb p1 p2 c1 c2) ∧ (lfT fa).Is L (tv (kf fa) 2 p1 0 c1) ∧ (lfT fb).Is L (tv (kf fb) 2 p2 0 c2) := by
 obtain ⟨p, c, va, vb, rfl, hs, ha, hb⟩ := is_two h
 obtain ⟨p1, c1, rfl⟩ := is_leaf ha
 obtain ⟨p2, c2, rfl⟩ := is_leaf hb
 obtain ⟨pb, po, rfl⟩ := spot_some hs (by simp)
 exact ⟨pb, po, c, p1, p2, c1, c2, rfl, hs, ha, hb⟩
theorem lf_adds {f : Bool} {m : Nat} (h : (f = false ∧ m = 1) ∨ m = 2 ∨ m = 4) : (f = false → addO (st0 m) ⟨6, m, 0, 1, m, m, 0⟩) ∧ (f = true → addO (st0 m) ⟨1, m, 0, 1, m, 0, 0⟩ ∧ addO ((st0 m).ad ⟨1, m, 0, 1, m, 0, 0⟩) ⟨5, m, 0, 1, 1, m, 0⟩) ∧ (st0 m).sm := by
 rcases h with ⟨rfl, rfl⟩ | rfl | rfl <;> first | decide +kernel | (cases f <;> decide +kernel)
theorem lf_wide {f : Bool} {m : Nat} (h : (f = false ∧ m = 1) ∨ m = 2 ∨ m = 4) : (f = false → addsO (st0 m) ([(0, 1, m)].map (dirS m))) ∧ (f = true → addsO (st0 m) ([(0, 1, m)].map (gatS m)) ∧ addsO ((st0 m).ads ([(0, 1, m)].map (gatS m))) ([(0, 1, m)].map (flyS m))) := by
 rcases h with ⟨rfl, rfl⟩ | rfl | rfl <;> first | decide +kernel | (cases f <;> decide +kernel)
theorem deepA_b {w0 w : World} {F : List Seg} {bb : Nat} {o : Od} (hok : o.ok) {vs : List Value} (ht : o.tr.Is F vs) (H : BHp w0 w bb o.n (st0 o.n) F) (hT : SlAt F (some ⟨12, 0, none⟩) tableC) :
 Ret Tryz.prog 88 [.pointer (some ⟨bb, 0, none⟩), .agg vs.toArray, .agg (inV 0 1 o.n).toArray] w fun _ w' => BHp w0 w' bb o.n (o.pg false) F := by
 cases o with
 | lf f m =>
   obtain ⟨p, c, rfl⟩ := is_leaf ht
   obtain ⟨h1, h2, h3⟩ := lf_adds hok
   cases f with
   | false => exact deepD_b H hT (h1 rfl)
   | true => exact deepF_b H hT (h2 rfl).1 (h2 rfl).2
 | tt fa fb =>
   obtain ⟨pb, po, ck, p1, p2, c1, c2, rfl, hs, ha, hb⟩ := is_tt ht
   exact deepP_b H hT hs ha hb
theorem wideA_b {w0 w : World} {F : List Seg} {bb cx : Nat} {px : Option Addr} {o : Od} (hok : o.ok) {vs : List Value} (ht : o.tr.Is F vs) (H : BHp w0 w bb o.n (st0 o.n) F) (hT : SlAt F (some ⟨12, 0, none⟩) tableC) (hx : SlAt F px (insV [(0, 1, o.n)])) :
 Ret Tryz.prog 89 [.pointer (some ⟨bb, 0, none⟩), .agg vs.toArray, .slice px 1 cx] w fun _ w' => BHp w0 w' bb o.n (o.pg true) F := by
 cases o with
 | lf f m =>
   obtain ⟨p, c, rfl⟩ := is_leaf ht
   obtain ⟨h1, h2, h3⟩ := lf_adds hok
   obtain ⟨g1, g2⟩ := lf_wide hok
   cases f with
   | false => exact wideD_b (xs := [(0, 1, m)]) H hT hx (by simp) h3 (g1 rfl)
   | true => exact wideF_b (xs := [(0, 1, m)]) H hT hx (by simp) h3 (g2 rfl).1 (g2 rfl).2
 | tt fa fb =>
   obtain ⟨pb, po, ck, p1, p2, c1, c2, rfl, hs, ha, hb⟩ := is_tt ht
   obtain ⟨xb, xo, rfl⟩ := spot_some hx (by simp [insV_len])
   cases fa with
   | true => exact widePt_b H hT hs ha hb hx
   | false => exact widePf_b H hT hs ha hb hx
theorem hpInit {w0 w : World} {s t : Seg} {F : List Seg} (H : Hp w0 w (s :: t :: F)) : Hp w0 w (t :: [] :: s :: F) := (H.nil).pull 2 rfl
theorem buildf_b {w0 w : World} {F : List Seg} (H : Hp w0 w F) (hT : SlAt F (some ⟨12, 0, none⟩) tableC) {o : Od} (hok : o.ok) {vs : List Value} (ht : o.tr.Is F vs) : Ret Tryz.prog 56 [.agg vs.toArray, .int .i64 ((0 : Nat) : Int)] w fun v w' => ∃ bb, v = .tuple #[.pointer (some ⟨bb, 0, none⟩), .nilIface] ∧ BHp w0 w' bb o.n (o.pg false) F := by
 refine Calls.of_J (n := 54) Tryz.func56 rfl rfl rfl (J.seq ?_)
 obtain ⟨k, n, p, m, c, rfl⟩ := ht.shape
 have hn4 := o.n4 hok
 have hsm := o.sm hok false
 refine J.region (JL.e (EX.box (v := .agg _) H rfl rfl) ?_)
 rintro _ w ⟨b1, rfl, H⟩
 refine JL.ap rfl (JL.g (RX.assignv (v := .nilIface) rfl) (JL.nil (J.seq (J.seq (J.region (JL.mi rfl (JL.g (RX.ne rfl rfl) (JL.mb rfl (JL.no ⟨_, rfl, gno (decide_eq_false (by decide))⟩ (JL.no ⟨_, rfl, gno (decide_eq_false (by decide))⟩ (JL.g (RX.pick_f rfl (decide_eq_false (by decide))) (JL.nil (J.cond_f rfl rfl (J.skip (J.seq (J.region (JL.g (RX.loadAgg H rfl (i := 0) (vs := tv k n p m c) rfl rfl ag39) (JL.e (EX.call rfl cl85 rfl ((show Ret _ _ [.agg (tv k n p m c).toArray] w (fun v w2 => v = .int .i64 ((o.n : Nat) : Int) ∧ _) by have h9 := Length_b H ht.cons o.parts; rw [o.len hok] at h9; exact h9))) ?_))))))))))))))))))
 rintro _ w ⟨rfl, H⟩
 refine JL.ai rfl (JL.nil (J.seq (J.seq (J.region (JL.mi rfl (JL.g (RX.eq rfl rfl) (JL.nil (J.cond_f rfl (decide_eq_false (by omega)) (J.skip (J.seq (J.region (JL.g (RX.build (pv := []) (res := bdV 0 ⟨[], 0, 0, 0⟩ none 0) rfl (by kernel_rfl)) (JL.e (EX.box (v := .agg _) H rfl rfl) ?_)))))))))))))
 rintro _ w ⟨b7, rfl, H⟩
 refine JL.ap rfl (JL.nil (J.seq (J.region (JL.mp rfl (JL.mp rfl (JL.mi rfl (JL.mi rfl (JL.g (RX.nilCheck rfl) (JL.g (RX.fieldAddr rfl fo115_0 rfl) (JL.g (RX.fieldAddr rfl fo74_0 rfl) (JL.e (EX.store (v := .int _ _) H rfl rfl (i := 0) rfl rfl (by simp [bdV]) sz3 rfl rfl) ?_)))))))))))
 rintro _ w H
 refine JL.g (RX.nilCheck rfl) (JL.g (RX.fieldAddr rfl fo115_0 rfl) (JL.g (RX.fieldAddr rfl fo74_3 rfl) (JL.e (EX.store (v := .int _ _) H rfl rfl (i := 0) rfl rfl (by simp [bdV]) sz3 rfl rfl) ?_)))
 rintro _ w H
 refine JL.nil (J.seq ?_)
 replace H : Hp w0 w ([(b7, cel (bdV o.n ⟨[], 0, 0, 0⟩ none 0) 115)] :: [(b1, cel (tv k n p m c) 39)] :: F) := H
 refine J.region (JL.mp rfl (JL.mi rfl (JL.g (RX.mul rfl rfl (wi (n := 2 * o.n) (by omega) (by omega))) (JL.e (EX.call rfl cl87 rfl ((cregion_b (b := ⟨[], 0, 0, 0⟩) (k := 2 * o.n) H (by decide) (by omega)))) ?_))))
 rintro _ w ⟨rfl, H⟩
 rw [show (Bd.mk [] 0 0 0).rg (2 * o.n) = st0 o.n by simp [Bd.rg, st0]] at H
 refine JL.nil (J.seq (J.region (JL.mi rfl (JL.g (RX.build (pv := [(0, .int .i64 ((0 : Nat) : Int)), (1, .int .i64 ((1 : Nat) : Int)), (2, .int .i64 ((o.n : Nat) : Int))]) (res := inV 0 1 o.n) rfl (by kernel_rfl)) (JL.e (EX.alloc H zr142 rfl) ?_)))))
 rintro _ w ⟨b8, rfl, H⟩
 refine JL.e (EX.storeAgg H rfl rfl (i := 0) (vs := inV 0 1 o.n) (l' := inV 0 1 o.n) rfl (inV_cell _ _ _) (by simp [inV]) sz142 rfl rfl) ?_
 rintro _ w H
 refine JL.nil (J.seq (J.seq (J.region (JL.mi rfl (JL.g (RX.eq rfl rfl) (JL.nil (J.cond_t rfl (by decide) (J.region (JL.mp rfl (JL.g (RX.loadAgg H rfl (i := 2) (vs := tv k n p m c) rfl rfl ag39) (JL.g (RX.loadAgg H rfl (i := 0) (vs := inV 0 1 o.n) rfl rfl ag142) (JL.e (EX.call rfl cl88 rfl ((deepA_b (F := [(b8, cel (inV 0 1 o.n) 142)] :: [(b1, cel (tv k n p m c) 39)] :: F) hok ht.cons.cons ⟨none, 0, [], OwnSl.nil, hpInit H⟩ hT.cons.cons))) ?_))))))))))))
 rintro _ w H
 refine JL.nil (J.seq (J.seq ?_))
 obtain ⟨q, c9, sl, hO, H⟩ := H
 refine J.region (JL.mp rfl (JL.e (EX.call rfl cl90 rfl ((cfull_b H hsm))) ?_))
 rintro _ w ⟨rfl, H⟩
 refine JL.nil (J.cond_f rfl rfl (J.skip (J.seq (J.region (JL.mp rfl (JL.ap rfl (JL.g (RX.assignv (v := .nilIface) rfl) (JL.nil (J.ret2 (v := .pointer _) Tryz.func56 rfl rfl rfl ?_)))))))))
 exact ⟨_, rfl, b7, rfl, q, c9, sl, hO, ((H.pull 2 rfl).drop.pull 2 rfl).drop⟩
theorem buildt_b {w0 w : World} {F : List Seg} (H : Hp w0 w F) (hT : SlAt F (some ⟨12, 0, none⟩) tableC) {o : Od} (hok : o.ok) {vs : List Value} (ht : o.tr.Is F vs) : Ret Tryz.prog 56 [.agg vs.toArray, .int .i64 ((1 : Nat) : Int)] w fun v w' => ∃ bb, v = .tuple #[.pointer (some ⟨bb, 0, none⟩), .nilIface] ∧ BHp w0 w' bb o.n (o.pg true) F := by
 refine Calls.of_J (n := 54) Tryz.func56 rfl rfl rfl (J.seq ?_)
 obtain ⟨k, n, p, m, c, rfl⟩ := ht.shape
 have hn4 := o.n4 hok
 have hsm := o.sm hok true
 refine J.region (JL.e (EX.box (v := .agg _) H rfl rfl) ?_)
 rintro _ w ⟨b1, rfl, H⟩
 refine JL.ap rfl (JL.g (RX.assignv (v := .nilIface) rfl) (JL.nil (J.seq (J.seq (J.region (JL.mi rfl (JL.g (RX.ne rfl rfl) (JL.mb rfl (JL.go ⟨_, rfl, (decide_eq_true (by decide))⟩ (RX.movev (v := .int _ _) rfl) (JL.go ⟨_, rfl, (decide_eq_true (by decide))⟩ (RX.ne rfl rfl) (JL.g (RX.pick_t rfl (decide_eq_true (by decide))) (JL.nil (J.cond_f rfl (decide_eq_false (by decide)) (J.skip (J.seq (J.region (JL.g (RX.loadAgg H rfl (i := 0) (vs := tv k n p m c) rfl rfl ag39) (JL.e (EX.call rfl cl85 rfl ((show Ret _ _ [.agg (tv k n p m c).toArray] w (fun v w2 => v = .int .i64 ((o.n : Nat) : Int) ∧ _) by have h9 := Length_b H ht.cons o.parts; rw [o.len hok] at h9; exact h9))) ?_))))))))))))))))))
 rintro _ w ⟨rfl, H⟩
 refine JL.ai rfl (JL.nil (J.seq (J.seq (J.region (JL.mi rfl (JL.g (RX.eq rfl rfl) (JL.nil (J.cond_f rfl (decide_eq_false (by omega)) (J.skip (J.seq (J.region (JL.g (RX.build (pv := []) (res := bdV 0 ⟨[], 0, 0, 0⟩ none 0) rfl (by kernel_rfl)) (JL.e (EX.box (v := .agg _) H rfl rfl) ?_)))))))))))))
 rintro _ w ⟨b7, rfl, H⟩
 refine JL.ap rfl (JL.nil (J.seq (J.region (JL.mp rfl (JL.mp rfl (JL.mi rfl (JL.mi rfl (JL.g (RX.nilCheck rfl) (JL.g (RX.fieldAddr rfl fo115_0 rfl) (JL.g (RX.fieldAddr rfl fo74_0 rfl) (JL.e (EX.store (v := .int _ _) H rfl rfl (i := 0) rfl rfl (by simp [bdV]) sz3 rfl rfl) ?_)))))))))))
 rintro _ w H
 refine JL.g (RX.nilCheck rfl) (JL.g (RX.fieldAddr rfl fo115_0 rfl) (JL.g (RX.fieldAddr rfl fo74_3 rfl) (JL.e (EX.store (v := .int _ _) H rfl rfl (i := 0) rfl rfl (by simp [bdV]) sz3 rfl rfl) ?_)))
 rintro _ w H
 refine JL.nil (J.seq ?_)
 replace H : Hp w0 w ([(b7, cel (bdV o.n ⟨[], 0, 0, 0⟩ none 0) 115)] :: [(b1, cel (tv k n p m c) 39)] :: F) := H
 refine J.region (JL.mp rfl (JL.mi rfl (JL.g (RX.mul rfl rfl (wi (n := 2 * o.n) (by omega) (by omega))) (JL.e (EX.call rfl cl87 rfl ((cregion_b (b := ⟨[], 0, 0, 0⟩) (k := 2 * o.n) H (by decide) (by omega)))) ?_))))
 rintro _ w ⟨rfl, H⟩
 rw [show (Bd.mk [] 0 0 0).rg (2 * o.n) = st0 o.n by simp [Bd.rg, st0]] at H
 refine JL.nil (J.seq (J.region (JL.mi rfl (JL.g (RX.build (pv := [(0, .int .i64 ((0 : Nat) : Int)), (1, .int .i64 ((1 : Nat) : Int)), (2, .int .i64 ((o.n : Nat) : Int))]) (res := inV 0 1 o.n) rfl (by kernel_rfl)) (JL.e (EX.alloc H zr142 rfl) ?_)))))
 rintro _ w ⟨b8, rfl, H⟩
 refine JL.e (EX.storeAgg H rfl rfl (i := 0) (vs := inV 0 1 o.n) (l' := inV 0 1 o.n) rfl (inV_cell _ _ _) (by simp [inV]) sz142 rfl rfl) ?_
 rintro _ w H
 refine JL.nil (J.seq (J.seq (J.region (JL.mi rfl (JL.g (RX.eq rfl rfl) (JL.nil (J.cond_f rfl (by decide) (J.region (JL.mp rfl (JL.g (RX.loadAgg H rfl (i := 2) (vs := tv k n p m c) rfl rfl ag39) (JL.g (RX.loadAgg H rfl (i := 0) (vs := inV 0 1 o.n) rfl rfl ag142) (JL.e (EX.buildSlice (pv := [(0, .agg (inV 0 1 o.n).toArray)]) (l := inV 0 1 o.n) (e := 142) H rfl (by kernel_rfl)) ?_))))))))))))
 rintro _ w ⟨b9, rfl, H⟩
 refine JL.e (EX.call rfl cl89 rfl ((wideA_b (cx := 1) (F := [(b9, cel (inV 0 1 o.n) 142)] :: [(b8, cel (inV 0 1 o.n) 142)] :: [(b1, cel (tv k n p m c) 39)] :: F) hok ht.cons.cons.cons ⟨none, 0, [], OwnSl.nil, ((H.nil).pull 3 rfl)⟩ hT.cons.cons.cons (SlAt.here (xs := insV [(0, 1, o.n)]) rfl)))) ?_
 rintro _ w H
 refine JL.nil (J.seq (J.seq ?_))
 obtain ⟨q, c9, sl, hO, H⟩ := H
 refine J.region (JL.mp rfl (JL.e (EX.call rfl cl90 rfl ((cfull_b H hsm))) ?_))
 rintro _ w ⟨rfl, H⟩
 refine JL.nil (J.cond_f rfl rfl (J.skip (J.seq (J.region (JL.mp rfl (JL.ap rfl (JL.g (RX.assignv (v := .nilIface) rfl) (JL.nil (J.ret2 (v := .pointer _) Tryz.func56 rfl rfl rfl ?_)))))))))
 exact ⟨_, rfl, b7, rfl, q, c9, sl, hO, (((H.pull 2 rfl).drop.pull 2 rfl).drop.pull 2 rfl).drop⟩
theorem build_b {w0 w : World} {F : List Seg} (H : Hp w0 w F) (hT : SlAt F (some ⟨12, 0, none⟩) tableC) {o : Od} (hok : o.ok) {vs : List Value} (ht : o.tr.Is F vs) (wd : Bool) : Ret Tryz.prog 56 [.agg vs.toArray, .int .i64 (((if wd then 1 else 0 : Nat)) : Int)] w fun v w' => ∃ bb, v = .tuple #[.pointer (some ⟨bb, 0, none⟩), .nilIface] ∧ BHp w0 w' bb o.n (o.pg wd) F := by
 cases wd
 · exact buildf_b H hT hok ht
 · exact buildt_b H hT hok ht
theorem Program_b {w0 w : World} {F : List Seg} (H : Hp w0 w F) (hT : SlAt F (some ⟨12, 0, none⟩) tableC) {o : Od} (hok : o.ok) {vs : List Value} (ht : o.tr.Is F vs) (wd : Bool) : Ret Tryz.prog 28 [.agg vs.toArray, .int .i64 (((if wd then 1 else 0 : Nat)) : Int)] w fun v w' => ∃ q c9 sl, v = .tuple #[.agg (pgV o.n (o.pg wd).nc 0 o.n q (o.pg wd).ss.length c9).toArray, .nilIface] ∧ OwnSl 178 7 q (o.pg wd).ss.length c9 (spsV (o.pg wd).ss) sl ∧ Hp w0 w' (sl :: F) := by
 refine Calls.of_J (n := 22) Tryz.func28 rfl rfl rfl (J.seq ?_)
 obtain ⟨k, n, p, m, c, rfl⟩ := ht.shape
 refine J.region (JL.e (EX.box (v := .agg _) H rfl rfl) ?_)
 rintro _ w ⟨b1, rfl, H⟩
 refine JL.e (EX.alloc H zr74 rfl) ?_
 rintro _ w ⟨b4, rfl, H⟩
 refine JL.g (RX.assignv (v := .nilIface) rfl) (JL.nil (J.seq (J.region (JL.g (RX.loadAgg H rfl (i := 1) (vs := tv k n p m c) rfl rfl ag39) (JL.mi rfl (JL.e (EX.call rfl cl56 rfl ((build_b H hT.cons.cons hok ht.cons.cons wd))) ?_))))))
 rintro _ w ⟨bb, rfl, q, c9, sl, hO, H⟩
 refine JL.g (RX.movev (v := .tuple _) rfl) (JL.g (RX.extract (v := .pointer _) rfl rfl) (JL.g (RX.extract (v := .nilIface) rfl rfl) (JL.ap rfl (JL.g (RX.assignv (v := .nilIface) rfl) (JL.nil (J.seq (J.seq (J.region (JL.g (RX.movev (v := .nilIface) rfl) (JL.g (RX.ifnil_neq (v := .nilIface) rfl rfl rfl if31) (JL.nil (J.cond_f rfl rfl (J.skip (J.seq (J.region (JL.mp rfl (JL.g (RX.nilCheck rfl) (JL.g (RX.fieldAddr rfl fo115_0 rfl) (JL.g (RX.loadAgg H rfl (i := 0) (vs := pgV o.n (o.pg wd).nc 0 o.n q (o.pg wd).ss.length c9) rfl rfl ag74) (JL.e (EX.storeAgg H rfl rfl (i := 2) (vs := pgV o.n (o.pg wd).nc 0 o.n q (o.pg wd).ss.length c9) (l' := pgV o.n (o.pg wd).nc 0 o.n q (o.pg wd).ss.length c9) rfl (by simp [pgV, isCell]) (by simp [pgV]) sz74 rfl rfl) ?_))))))))))))))))))))
 rintro _ w H
 refine JL.g (RX.assignv (v := .nilIface) rfl) (JL.nil (J.retct (x := .nilIface) Tryz.func28 rfl H rfl (i := 2) (vs := pgV o.n (o.pg wd).nc 0 o.n q (o.pg wd).ss.length c9) rfl rfl ag74 rfl ?_))
 exact ⟨_, rfl, q, c9, sl, rfl, hO, ((H.drop.pull 1 rfl).drop.pull 1 rfl).drop⟩
end Oo
end Go.Proofs.YtfaokllgaambjaaGreatDoor
namespace Go.Proofs.YtfaokllgaambjaaGreatDoor
open Go Go.Eng
set_option maxRecDepth 100000
set_option maxHeartbeats 1600000
theorem cl26 : callable Tryz.prog 26 = true := by kernel_rfl
theorem cl27 : callable Tryz.prog 27 = true := by kernel_rfl
theorem cl28 : callable Tryz.prog 28 = true := by kernel_rfl
theorem cl29 : callable Tryz.prog 29 = true := by kernel_rfl
namespace Oo
def CopyP (t : Tr) : Prop := t.parts ≤ 4194304 → ∀ (w0 w : World) (F : List Seg) (vs : List Value), Hp w0 w F → t.Is F vs →
  Ret Tryz.prog 29 [.agg vs.toArray] w fun v w' => ∃ vs' s, v = .agg vs'.toArray ∧ t.Own vs' s ∧ Hp w0 w' (s :: F)
theorem pcopied_step {k n : Int} {ks : List Tr} (ih : ∀ t, t.parts < (Tr.node k n ks).parts → CopyP t) (hp : (Tr.node k n ks).parts ≤ 4194304) {w0 w : World} {F : List Seg} (H : Hp w0 w F) {p : Option Addr} {c : Nat} {xs : List Value} (hs : SlAt F p xs) (hk : KidsIs F ks xs) : Ret Tryz.prog 29 [.agg (tv k n p ks.length c).toArray] w fun v w' => ∃ vs' s, v = .agg vs'.toArray ∧ (Tr.node k n ks).Own vs' s ∧ Hp w0 w' (s :: F) := by
 refine Calls.of_J (n := 24) Tryz.func29 rfl rfl rfl (J.seq ?_)
 have hkl := partsL_len ks
 have hpp : (Tr.node k n ks).parts = 1 + partsL ks := by rw [Tr.parts]
 refine J.region (JL.e (EX.box (v := .agg _) H rfl rfl) ?_)
 rintro _ w ⟨b1, rfl, H⟩
 refine JL.e (EX.alloc H zr39 rfl) ?_
 rintro _ w ⟨b2, rfl, H⟩
 refine JL.nil (J.seq (J.region (JL.g (RX.fieldAddr rfl fo39_2 rfl) (JL.g (RX.load H rfl (i := 1) (v := .slice p ks.length c) rfl rfl one37) (JL.al rfl (JL.nil (J.seq (J.region (JL.g (RX.fieldAddr rfl fo39_2 rfl) (JL.e (EX.store (v := .slice _ _ _) H rfl rfl (i := 1) (l' := tv k n none 0 0) rfl rfl (by simp) sz37 rfl rfl) ?_))))))))))
 rintro _ w H
 refine JL.nil (J.seq (J.seq (J.region (JL.ms rfl (JL.g (RX.len_slice rfl (by rw [sl37]; rfl) rfl) ?_)))))
 refine JL.g (RX.move) (JL.nil (J.block (J.loop (ι := Nat × Option Addr × Nat × List Value × Seg × Seg) (S := fun z => [(11, .int .i64 (z.1 : Nat))]) (Φ := fun z w => z.1 ≤ ks.length ∧ OwnSl 39 3 z.2.1 z.1 z.2.2.1 z.2.2.2.1 z.2.2.2.2.1 ∧ KidsOwn (ks.take z.1) z.2.2.2.1 z.2.2.2.2.2 ∧ Hp w0 w ([(b2, cel (tv 0 0 none 0 0) 39)] :: [(b1, cel (tv k n z.2.1 z.1 z.2.2.1) 39)] :: z.2.2.2.2.1 :: z.2.2.2.2.2 :: F)) (μ := fun z => ks.length - z.1) (C := [(1, _), (2, _), (9, _), (10, _)]) (0, none, 0, [], [], []) ⟨rfl, rfl, rfl, rfl, trivial⟩ ⟨rfl, trivial⟩ ?_ ?_)))
 · exact ⟨by simp, OwnSl.nil, KidsOwn.nil, ((H.nil.nil).pull 3 rfl).pull 3 rfl⟩
 clear H
 rintro ⟨i, q, c2, ys, sl, ss⟩ ρ w ⟨hi, ho, hko, H⟩ IH
 simp only at hi ho hko H
 dsimp only
 refine J.seq (J.region (JL.g (RX.lt rfl rfl) (JL.nil (J.seq (J.cond_d rfl (fun hlt => ?_) (fun hlt => ?_))))))
 ·
  have hil : i < ks.length := by omega
  obtain ⟨t1, ht1⟩ : ∃ t1, ks[i]? = some t1 := ⟨_, List.getElem?_eq_getElem hil⟩
  have htp := kid_lt (k := k) (n := n) ht1
  obtain ⟨a1, ha1, hi1⟩ := hk.get ht1
  obtain ⟨k1, n1, p1, m1, c1, rfl⟩ := hi1.shape
  have hxl := hk.len
  have H0 := H
  obtain ⟨pb, po, rfl⟩ := spot_some hs (by omega)
  have H := H0
  refine J.skip (J.seq (J.block (J.seq (J.region (JL.g (RX.indexAddr rfl rfl sl37 (by omega) (by omega) (o' := po + i * 3) (by omega)) (JL.g (RX.loadAggS H hs.cons.cons.cons.cons rfl (j := i * 3) (by omega) (vs := tv k1 n1 p1 m1 c1) ha1 ag39) (JL.e (EX.alloc H zr39 rfl) ?_)))))))
  rintro _ w ⟨b5, rfl, H⟩
  refine JL.e (EX.storeAgg H rfl rfl (i := 0) (vs := tv k1 n1 p1 m1 c1) (l' := tv k1 n1 p1 m1 c1) rfl tv_cell (by simp) sz39 rfl rfl) ?_
  rintro _ w H
  refine JL.nil (J.any hmix fun w hs => ?_)
  replace H := H.same hs; clear hs
  refine JA.take 0 rfl (by kernel_rfl) (by kernel_rfl) (by kernel_rfl) rfl trivial (fun w => RX.fieldAddr rfl fo39_2 rfl) (JA.all [1, 2] (by kernel_rfl) (by decide) (⟨?_, ?_⟩))
  ·
   refine JO.go rfl rfl trivial (RX.load H rfl (i := 2) (v := .slice q i c2) rfl rfl one37) (JA.all [2] (by kernel_rfl) (by decide) (JO.go rfl rfl trivial (RX.loadAgg H rfl (i := 0) (vs := tv k1 n1 p1 m1 c1) rfl rfl ag39) (JA.all [3] (by kernel_rfl) (by decide) (JO.does rfl rfl trivial (EX.call rfl cl29 rfl ((ih t1 htp (by omega) _ _ _ _ H hi1.cons.cons.cons.cons.cons))) ?_))))
   rintro _ w ⟨vs1, s1, rfl, ho1, H⟩
   obtain ⟨k2, n2, p2, m2, c3, rfl⟩ := ho1.shape
   refine JA.all [4] (by kernel_rfl) (by decide) (JO.does rfl rfl trivial (EX.buildSlice (pv := [(0, .agg (tv k2 n2 p2 m2 c3).toArray)]) (l := tv k2 n2 p2 m2 c3) (e := 39) H rfl (by kernel_rfl)) ?_)
   rintro _ w ⟨bb, rfl, H⟩
   refine JA.all [5] (by kernel_rfl) (by decide) (JO.does rfl rfl trivial (EX.append (ys := tv k2 n2 p2 m2 c3) (L' := fun s' => [(bb, cel (tv k2 n2 p2 m2 c3) 39)] :: s1 :: [(b5, cel (tv k1 n1 p1 m1 c1) 39)] :: [(b2, cel (tv 0 0 none 0 0) 39)] :: [(b1, cel (tv k n q i c2) 39)] :: s' :: ss :: F) H elO rfl rfl (i := 5) rfl ho (SlAt.here rfl) rfl tv_cell (by decide) (by omega) (by omega) (fun _ => rfl)) ?_)
   rintro _ w ⟨q2, c4, sl2, rfl, ho2, H⟩
   refine JA.take 6 rfl (by kernel_rfl) (by kernel_rfl) (by kernel_rfl) rfl trivial (fun w => RX.fieldAddr rfl fo39_2 rfl) (JA.all [7] (by kernel_rfl) (by decide) (JO.does rfl rfl trivial (EX.store (v := .slice _ _ _) H rfl rfl (i := 4) (l' := tv k n q2 (i + 1) c4) rfl rfl (by simp) sz37 rfl rfl) ?_))
   rintro _ w H
   refine JA.done (by kernel_rfl) (J.inBlock (J.region (JL.g (RX.add rfl rfl (w_i64 (r := ((i + 1 : Nat) : Int)) (by omega) (by omega) (by omega))) (JL.mi rfl (JL.nil ?_)))))
   have hko2 := hko.snoc ho1
   rw [← take_get ht1] at hko2
   exact IH (i + 1, q2, c4, ys ++ tv k2 n2 p2 m2 c3, sl2, ss ++ s1) _ _ (by simp only; omega) ⟨rfl, rfl, rfl, rfl, trivial⟩ ⟨rfl, trivial⟩ ⟨by simp only; omega, ho2, hko2, ((((((H.drop.pull 1 rfl).drop).pull 4 rfl).join.pull 3 rfl).pull 3 rfl).pull 3 rfl)⟩
  ·
   refine JO.go rfl rfl trivial (RX.loadAgg H rfl (i := 0) (vs := tv k1 n1 p1 m1 c1) rfl rfl ag39) (JA.all [1, 3] (by kernel_rfl) (by decide) (⟨?_, ?_⟩))
   ·
    refine JO.go rfl rfl trivial (RX.load H rfl (i := 2) (v := .slice q i c2) rfl rfl one37) (JA.all [3] (by kernel_rfl) (by decide) (JO.does rfl rfl trivial (EX.call rfl cl29 rfl ((ih t1 htp (by omega) _ _ _ _ H hi1.cons.cons.cons.cons.cons))) ?_))
    rintro _ w ⟨vs1, s1, rfl, ho1, H⟩
    obtain ⟨k2, n2, p2, m2, c3, rfl⟩ := ho1.shape
    refine JA.all [4] (by kernel_rfl) (by decide) (JO.does rfl rfl trivial (EX.buildSlice (pv := [(0, .agg (tv k2 n2 p2 m2 c3).toArray)]) (l := tv k2 n2 p2 m2 c3) (e := 39) H rfl (by kernel_rfl)) ?_)
    rintro _ w ⟨bb, rfl, H⟩
    refine JA.all [5] (by kernel_rfl) (by decide) (JO.does rfl rfl trivial (EX.append (ys := tv k2 n2 p2 m2 c3) (L' := fun s' => [(bb, cel (tv k2 n2 p2 m2 c3) 39)] :: s1 :: [(b5, cel (tv k1 n1 p1 m1 c1) 39)] :: [(b2, cel (tv 0 0 none 0 0) 39)] :: [(b1, cel (tv k n q i c2) 39)] :: s' :: ss :: F) H elO rfl rfl (i := 5) rfl ho (SlAt.here rfl) rfl tv_cell (by decide) (by omega) (by omega) (fun _ => rfl)) ?_)
    rintro _ w ⟨q2, c4, sl2, rfl, ho2, H⟩
    refine JA.take 6 rfl (by kernel_rfl) (by kernel_rfl) (by kernel_rfl) rfl trivial (fun w => RX.fieldAddr rfl fo39_2 rfl) (JA.all [7] (by kernel_rfl) (by decide) (JO.does rfl rfl trivial (EX.store (v := .slice _ _ _) H rfl rfl (i := 4) (l' := tv k n q2 (i + 1) c4) rfl rfl (by simp) sz37 rfl rfl) ?_))
    rintro _ w H
    refine JA.done (by kernel_rfl) (J.inBlock (J.region (JL.g (RX.add rfl rfl (w_i64 (r := ((i + 1 : Nat) : Int)) (by omega) (by omega) (by omega))) (JL.mi rfl (JL.nil ?_)))))
    have hko2 := hko.snoc ho1
    rw [← take_get ht1] at hko2
    exact IH (i + 1, q2, c4, ys ++ tv k2 n2 p2 m2 c3, sl2, ss ++ s1) _ _ (by simp only; omega) ⟨rfl, rfl, rfl, rfl, trivial⟩ ⟨rfl, trivial⟩ ⟨by simp only; omega, ho2, hko2, ((((((H.drop.pull 1 rfl).drop).pull 4 rfl).join.pull 3 rfl).pull 3 rfl).pull 3 rfl)⟩
   ·
    refine JO.does rfl rfl trivial (EX.call rfl cl29 rfl ((ih t1 htp (by omega) _ _ _ _ H hi1.cons.cons.cons.cons.cons))) ?_
    rintro _ w ⟨vs1, s1, rfl, ho1, H⟩
    obtain ⟨k2, n2, p2, m2, c3, rfl⟩ := ho1.shape
    refine JA.all [1, 4] (by kernel_rfl) (by decide) (⟨?_, ?_⟩)
    ·
     refine JO.go rfl rfl trivial (RX.load H rfl (i := 3) (v := .slice q i c2) rfl rfl one37) (JA.all [4] (by kernel_rfl) (by decide) (JO.does rfl rfl trivial (EX.buildSlice (pv := [(0, .agg (tv k2 n2 p2 m2 c3).toArray)]) (l := tv k2 n2 p2 m2 c3) (e := 39) H rfl (by kernel_rfl)) ?_))
     rintro _ w ⟨bb, rfl, H⟩
     refine JA.all [5] (by kernel_rfl) (by decide) (JO.does rfl rfl trivial (EX.append (ys := tv k2 n2 p2 m2 c3) (L' := fun s' => [(bb, cel (tv k2 n2 p2 m2 c3) 39)] :: s1 :: [(b5, cel (tv k1 n1 p1 m1 c1) 39)] :: [(b2, cel (tv 0 0 none 0 0) 39)] :: [(b1, cel (tv k n q i c2) 39)] :: s' :: ss :: F) H elO rfl rfl (i := 5) rfl ho (SlAt.here rfl) rfl tv_cell (by decide) (by omega) (by omega) (fun _ => rfl)) ?_)
     rintro _ w ⟨q2, c4, sl2, rfl, ho2, H⟩
     refine JA.take 6 rfl (by kernel_rfl) (by kernel_rfl) (by kernel_rfl) rfl trivial (fun w => RX.fieldAddr rfl fo39_2 rfl) (JA.all [7] (by kernel_rfl) (by decide) (JO.does rfl rfl trivial (EX.store (v := .slice _ _ _) H rfl rfl (i := 4) (l' := tv k n q2 (i + 1) c4) rfl rfl (by simp) sz37 rfl rfl) ?_))
     rintro _ w H
     refine JA.done (by kernel_rfl) (J.inBlock (J.region (JL.g (RX.add rfl rfl (w_i64 (r := ((i + 1 : Nat) : Int)) (by omega) (by omega) (by omega))) (JL.mi rfl (JL.nil ?_)))))
     have hko2 := hko.snoc ho1
     rw [← take_get ht1] at hko2
     exact IH (i + 1, q2, c4, ys ++ tv k2 n2 p2 m2 c3, sl2, ss ++ s1) _ _ (by simp only; omega) ⟨rfl, rfl, rfl, rfl, trivial⟩ ⟨rfl, trivial⟩ ⟨by simp only; omega, ho2, hko2, ((((((H.drop.pull 1 rfl).drop).pull 4 rfl).join.pull 3 rfl).pull 3 rfl).pull 3 rfl)⟩
    ·
     refine JO.does rfl rfl trivial (EX.buildSlice (pv := [(0, .agg (tv k2 n2 p2 m2 c3).toArray)]) (l := tv k2 n2 p2 m2 c3) (e := 39) H rfl (by kernel_rfl)) ?_
     rintro _ w ⟨bb, rfl, H⟩
     refine JA.all [1] (by kernel_rfl) (by decide) (JO.go rfl rfl trivial (RX.load H rfl (i := 4) (v := .slice q i c2) rfl rfl one37) (JA.all [5] (by kernel_rfl) (by decide) (JO.does rfl rfl trivial (EX.append (ys := tv k2 n2 p2 m2 c3) (L' := fun s' => [(bb, cel (tv k2 n2 p2 m2 c3) 39)] :: s1 :: [(b5, cel (tv k1 n1 p1 m1 c1) 39)] :: [(b2, cel (tv 0 0 none 0 0) 39)] :: [(b1, cel (tv k n q i c2) 39)] :: s' :: ss :: F) H elO rfl rfl (i := 5) rfl ho (SlAt.here rfl) rfl tv_cell (by decide) (by omega) (by omega) (fun _ => rfl)) ?_)))
     rintro _ w ⟨q2, c4, sl2, rfl, ho2, H⟩
     refine JA.take 6 rfl (by kernel_rfl) (by kernel_rfl) (by kernel_rfl) rfl trivial (fun w => RX.fieldAddr rfl fo39_2 rfl) (JA.all [7] (by kernel_rfl) (by decide) (JO.does rfl rfl trivial (EX.store (v := .slice _ _ _) H rfl rfl (i := 4) (l' := tv k n q2 (i + 1) c4) rfl rfl (by simp) sz37 rfl rfl) ?_))
     rintro _ w H
     refine JA.done (by kernel_rfl) (J.inBlock (J.region (JL.g (RX.add rfl rfl (w_i64 (r := ((i + 1 : Nat) : Int)) (by omega) (by omega) (by omega))) (JL.mi rfl (JL.nil ?_)))))
     have hko2 := hko.snoc ho1
     rw [← take_get ht1] at hko2
     exact IH (i + 1, q2, c4, ys ++ tv k2 n2 p2 m2 c3, sl2, ss ++ s1) _ _ (by simp only; omega) ⟨rfl, rfl, rfl, rfl, trivial⟩ ⟨rfl, trivial⟩ ⟨by simp only; omega, ho2, hko2, ((((((H.drop.pull 1 rfl).drop).pull 4 rfl).join.pull 3 rfl).pull 3 rfl).pull 3 rfl)⟩
 ·
  have hil : i = ks.length := by omega
  subst hil
  rw [List.take_length] at hko
  refine J.exit rfl (J.seq (J.region (JL.g (RX.loadAgg H rfl (i := 1) (vs := tv k n q ks.length c2) rfl rfl ag39) (JL.e (EX.storeAgg H rfl rfl (i := 0) (vs := tv k n q ks.length c2) (l' := tv k n q ks.length c2) rfl tv_cell (by simp) sz39 rfl rfl) ?_))))
  rintro _ w H
  refine JL.nil (J.retc Tryz.func29 rfl H rfl (i := 0) (vs := tv k n q ks.length c2) rfl rfl ag39 ?_)
  exact ⟨_, rfl, _, sl ++ ss, rfl, Tr.Own.mk ho hko, H.drop.drop.join⟩
theorem pcopied_b : ∀ t, CopyP t := tr_ind fun t ih hp w0 w F vs H ht => by
  obtain ⟨k, n, ks⟩ := t
  rw [Tr.Is] at ht
  obtain ⟨p, c, xs, rfl, hs, hk⟩ := ht
  exact pcopied_step ih hp H hs hk
def wds (wd : Bool) : ByteArray := if wd then ⟨#[119, 105, 100, 101]⟩ else ⟨#[100, 101, 101, 112]⟩
theorem wds_ne (wd : Bool) : decide (wds wd = ⟨#[]⟩) = false := by cases wd <;> decide
theorem wds_size (wd : Bool) : (wds wd).size = 4 := by cases wd <;> rfl
theorem Od.text (o : Od) (h : o.ok) : (textO o.tr).length ≤ 20 := by
 rw [textO_yes (o.good h)]
 cases o with
 | lf f m =>
   have hi : ∀ k : Nat, k < 10 → (Lib.itoa ((k : Nat) : Int)).length = 1 := fun k hk => by rw [it_one hk]; rfl
   have hm : m < 10 := by rcases h with ⟨_, h⟩ | h | h <;> omega
   cases f with
   | false =>
     show (textT (.node 1 ((m : Nat) : Int) [])).length ≤ 20
     rw [text_d, List.length_cons, hi _ hm]; omega
   | true =>
     show (textT (.node 2 ((m : Nat) : Int) [])).length ≤ 20
     rw [text_f, List.length_cons, hi _ hm]; omega
 | tt fa fb =>
   have e : ∀ f, (textT (lfT f)).length = 2 := fun f => by
     unfold lfT
     cases f with
     | false => rw [show kf false = 1 from rfl, text_d, show (2 : Int) = ((2 : Nat) : Int) from rfl, it_one (by decide)]; rfl
     | true => rw [show kf true = 2 from rfl, text_f, show (2 : Int) = ((2 : Nat) : Int) from rfl, it_one (by decide)]; rfl
   unfold Od.tr
   rw [text_x]
   simp only [List.length_cons, List.length_append, e]
   simp
theorem wordf_b {w0 w : World} {F : List Seg} (H : Hp w0 w F) : Ret Tryz.prog 26 [.int .i64 ((0 : Nat) : Int)] w fun v w' => v = .string (wds false) ∧ Hp w0 w' F := by
 refine Calls.of_J (n := 8) Tryz.func26 rfl rfl rfl (J.seq (J.region (JL.g (RX.assignv (v := .string _) rfl) (JL.nil (J.seq (J.seq (J.region (JL.mi rfl (JL.nil (J.block (J.seq (J.region (JL.g (RX.eq rfl rfl) (JL.ab rfl (JL.nil (J.cond_t rfl (by decide) (J.seq (J.region (JL.g (RX.assign) (JL.nil (J.ret1 (v := .string _) Tryz.func26 rfl rfl ?_)))))))))))))))))))))
 exact ⟨_, rfl, rfl, H⟩
theorem wordt_b {w0 w : World} {F : List Seg} (H : Hp w0 w F) : Ret Tryz.prog 26 [.int .i64 ((1 : Nat) : Int)] w fun v w' => v = .string (wds true) ∧ Hp w0 w' F := by
 refine Calls.of_J (n := 8) Tryz.func26 rfl rfl rfl (J.seq (J.region (JL.g (RX.assignv (v := .string _) rfl) (JL.nil (J.seq (J.seq (J.region (JL.mi rfl (JL.nil (J.block (J.seq (J.region (JL.g (RX.eq rfl rfl) (JL.ab rfl (JL.nil (J.cond_f rfl (by decide) (J.seq (J.region (JL.g (RX.eq rfl rfl) (JL.ab rfl (JL.nil (J.cond_t rfl (by decide) (J.seq (J.region (JL.g (RX.assign) (JL.nil (J.ret1 (v := .string _) Tryz.func26 rfl rfl ?_)))))))))))))))))))))))))))
 exact ⟨_, rfl, rfl, H⟩
theorem word_b {w0 w : World} {F : List Seg} (H : Hp w0 w F) (wd : Bool) : Ret Tryz.prog 26 [.int .i64 (((if wd then 1 else 0 : Nat)) : Int)] w fun v w' => v = .string (wds wd) ∧ Hp w0 w' F := by
 cases wd
 · exact wordf_b H
 · exact wordt_b H
theorem Of_b {w0 w : World} {F : List Seg} (H : Hp w0 w F) (hT : SlAt F (some ⟨12, 0, none⟩) tableC) {E : Nat → Value} (g8 : GErr F 6 (E 8)) (hg : GTab F) {o : Od} (hok : o.ok) {vs : List Value} (ht : o.tr.Is F vs) (wd : Bool) : Ret Tryz.prog 9 [.agg vs.toArray, .int .i64 (((if wd then 1 else 0 : Nat)) : Int)] w fun v w' => ∃ bp o0 o1 o2 tx q c9 sl, v = .tuple #[.pointer (some ⟨bp, 0, none⟩), .nilIface] ∧ OwnSl 178 7 q (o.pg wd).ss.length c9 (spsV (o.pg wd).ss) sl ∧ Hp w0 w' ([(bp, cel (plV o0 o1 o2 (.int .i64 (((if wd then 1 else 0 : Nat)) : Int)) tx o.n (o.pg wd).nc 0 o.n q (o.pg wd).ss.length c9) 79)] :: sl :: F) := by
 refine Calls.of_J (n := 41) Tryz.func9 rfl rfl rfl (J.seq ?_)
 obtain ⟨k, n, p, m, c, rfl⟩ := ht.shape
 have hgd := o.good hok
 have hwn := wds_ne wd
 have ht1 := wds_size wd
 have ht2 : (wds wd ++ ⟨#[32]⟩ : ByteArray).size = 5 := by rw [ByteArray.size_append, ht1]; rfl
 have ht3 : (⟨(textO o.tr).toArray⟩ : ByteArray).size ≤ 20 := by rw [b_size]; exact o.text hok
 refine J.region (JL.e (EX.box (v := .agg _) H rfl rfl) ?_)
 rintro _ w ⟨b1, rfl, H⟩
 refine JL.ap rfl (JL.g (RX.assignv (v := .nilIface) rfl) (JL.nil (J.seq (J.seq (J.region (JL.mi rfl (JL.e (EX.call rfl cl26 rfl ((word_b H wd))) ?_)))))))
 rintro _ w ⟨rfl, H⟩
 refine JL.g (RX.str_eql rfl rfl) (JL.nil (J.cond_f rfl hwn (J.skip (J.seq (J.region (JL.g (RX.loadAgg H rfl (i := 0) (vs := tv k n p m c) rfl rfl ag39) (JL.e (EX.call rfl cl27 rfl ((show Ret _ _ [.agg (tv k n p m c).toArray] w (fun v w2 => v = .tuple #[.string ⟨(textO o.tr).toArray⟩, .nilIface] ∧ _) by have h9 := Text_b H ht.cons o.parts g8.cons hg.cons; rw [hgd] at h9; exact h9))) ?_)))))))
 rintro _ w ⟨rfl, H⟩
 refine JL.g (RX.movev (v := .tuple _) rfl) (JL.g (RX.extract (v := .string _) rfl rfl) (JL.g (RX.extract (v := .nilIface) rfl rfl) (JL.g (RX.assignv (v := .string _) rfl) (JL.g (RX.assignv (v := .nilIface) rfl) (JL.nil (J.seq (J.seq (J.region (JL.g (RX.movev (v := .nilIface) rfl) (JL.g (RX.ifnil_neq (v := .nilIface) rfl rfl rfl if31) (JL.nil (J.cond_f rfl rfl (J.skip (J.seq (J.region (JL.g (RX.loadAgg H rfl (i := 0) (vs := tv k n p m c) rfl rfl ag39) (JL.mi rfl (JL.e (EX.call rfl cl28 rfl ((Program_b H hT.cons hok ht.cons wd))) ?_))))))))))))))))))
 rintro _ w ⟨q, c9, sl, rfl, hO, H⟩
 refine JL.g (RX.movev (v := .tuple _) rfl) (JL.g (RX.extract (v := .agg _) rfl rfl) (JL.g (RX.extract (v := .nilIface) rfl rfl) (JL.e (EX.alloc H zr74 rfl) ?_)))
 rintro _ w ⟨b8, rfl, H⟩
 refine JL.e (EX.storeAgg H rfl rfl (i := 0) (vs := pgV o.n (o.pg wd).nc 0 o.n q (o.pg wd).ss.length c9) (l' := pgV o.n (o.pg wd).nc 0 o.n q (o.pg wd).ss.length c9) rfl (by simp [pgV, isCell]) (by simp [pgV]) sz74 rfl rfl) ?_
 rintro _ w H
 refine JL.g (RX.assignv (v := .nilIface) rfl) (JL.nil (J.seq (J.seq (J.region (JL.g (RX.movev (v := .nilIface) rfl) (JL.g (RX.ifnil_neq (v := .nilIface) rfl rfl rfl if31) (JL.nil (J.cond_f rfl rfl (J.skip (J.seq ?_))))))))))
 replace H : Hp w0 w ([(b8, cel (pgV o.n (o.pg wd).nc 0 o.n q (o.pg wd).ss.length c9) 74)] :: sl :: [(b1, cel (tv k n p m c) 39)] :: F) := H
 refine J.held (fun w => Hp w0 w ([(b8, cel (pgV o.n (o.pg wd).nc 0 o.n q (o.pg wd).ss.length c9) 74)] :: sl :: [(b1, cel (tv k n p m c) 39)] :: F)) hmix fun w hs => ?_
 replace H := H.same hs; clear hs
 have hS : Hp w0 w ([(b8, cel (pgV o.n (o.pg wd).nc 0 o.n q (o.pg wd).ss.length c9) 74)] :: sl :: [(b1, cel (tv k n p m c) 39)] :: F) := H
 refine JH.take 0 rfl (by kernel_rfl) (by kernel_rfl) (by kernel_rfl) rfl trivial (fun w H => RX.loadAgg H rfl (i := 2) (vs := tv k n p m c) rfl rfl ag39) hS (JH.take 2 rfl (by kernel_rfl) (by kernel_rfl) (by kernel_rfl) rfl trivial (fun w H => RX.movev (v := .int _ _) rfl) hS (JH.take 3 rfl (by kernel_rfl) (by kernel_rfl) (by kernel_rfl) rfl trivial (fun w H => RX.loadAgg H rfl (i := 0) (vs := pgV o.n (o.pg wd).nc 0 o.n q (o.pg wd).ss.length c9) rfl rfl ag74) hS (JH.take 4 rfl (by kernel_rfl) (by kernel_rfl) (by kernel_rfl) rfl trivial (fun w H => RX.movev (v := .int _ _) rfl) hS (JH.take 7 rfl (by kernel_rfl) (by kernel_rfl) (by kernel_rfl) rfl trivial (fun w H => RX.movev (v := .string _) rfl) hS (JH.all [1] (by kernel_rfl) (by decide) (JHO.does rfl rfl trivial (EX.call rfl cl29 rfl ((pcopied_b o.tr o.parts _ _ _ _ H ht.cons.cons.cons))) ?_))))))
 rintro _ w ⟨vs1, s1, rfl, ho1, H⟩
 obtain ⟨k2, n2, p2, m2, c2, rfl⟩ := ho1.shape
 have hS : Hp w0 w ([(b8, cel (pgV o.n (o.pg wd).nc 0 o.n q (o.pg wd).ss.length c9) 74)] :: sl :: [(b1, cel (tv k n p m c) 39)] :: F) := H.drop
 refine ⟨hS, ?_⟩
 refine JH.all [5] (by kernel_rfl) (by decide) (JHO.does rfl rfl trivial (EX.call rfl cl26 rfl ((word_b H wd))) ?_)
 rintro _ w ⟨rfl, H⟩
 have hS : Hp w0 w ([(b8, cel (pgV o.n (o.pg wd).nc 0 o.n q (o.pg wd).ss.length c9) 74)] :: sl :: [(b1, cel (tv k n p m c) 39)] :: F) := H.drop
 refine ⟨hS, ?_⟩
 refine JH.take 6 rfl (by kernel_rfl) (by kernel_rfl) (by kernel_rfl) rfl trivial (fun w H => RX.str_add rfl rfl (by rw [ht1]; decide)) hS ?_
 refine JH.take 8 rfl (by kernel_rfl) (by kernel_rfl) (by kernel_rfl) rfl trivial (fun w H => RX.str_add rfl rfl (by rw [ht2]; omega)) hS ?_
 refine JH.take 9 rfl (by kernel_rfl) (by kernel_rfl) (by kernel_rfl) rfl trivial (fun w H => RX.build (pv := [(0, .agg (tv k2 n2 p2 m2 c2).toArray), (1, .int .i64 (((if wd then 1 else 0 : Nat)) : Int)), (2, .agg (pgV o.n (o.pg wd).nc 0 o.n q (o.pg wd).ss.length c9).toArray), (3, .string ((wds wd ++ ⟨#[32]⟩) ++ ⟨(textO o.tr).toArray⟩))]) (res := plV (.int .i64 k2) (.int .i64 n2) (.slice p2 m2 c2) (.int .i64 (((if wd then 1 else 0 : Nat)) : Int)) (.string ((wds wd ++ ⟨#[32]⟩) ++ ⟨(textO o.tr).toArray⟩)) o.n (o.pg wd).nc 0 o.n q (o.pg wd).ss.length c9) rfl (by kernel_rfl)) hS (JH.all [10] (by kernel_rfl) (by decide) (JHO.does rfl rfl trivial (EX.box (v := .agg _) H rfl rfl) ?_))
 rintro _ w ⟨bp, rfl, H⟩
 have hS : Hp w0 w ([(b8, cel (pgV o.n (o.pg wd).nc 0 o.n q (o.pg wd).ss.length c9) 74)] :: sl :: [(b1, cel (tv k n p m c) 39)] :: F) := H.drop.drop
 refine ⟨hS, ?_⟩
 refine JH.take 11 rfl (by kernel_rfl) (by kernel_rfl) (by kernel_rfl) rfl trivial (fun w H => RX.assignv (v := .pointer _) rfl) hS (JH.take 12 rfl (by kernel_rfl) (by kernel_rfl) (by kernel_rfl) rfl trivial (fun w H => RX.assignv (v := .nilIface) rfl) hS (JH.done (by kernel_rfl) (J.ret2 (v := .pointer _) Tryz.func9 rfl rfl rfl ?_)))
 exact ⟨_, rfl, bp, _, _, _, _, q, c9, sl, rfl, hO, (((H.pull 1 rfl).drop.pull 1 rfl).drop.pull 2 rfl).drop⟩
end Oo
end Go.Proofs.YtfaokllgaambjaaGreatDoor
namespace Go.Proofs.YtfaokllgaambjaaGreatDoor
open Go Go.Eng
set_option maxRecDepth 100000
set_option maxHeartbeats 1600000
theorem ar85 : arrayOf Tryz.prog 85 = some (16, 5, 1) := by kernel_rfl
theorem cl10 : callable Tryz.prog 10 = true := by kernel_rfl
theorem cl100 : callable Tryz.prog 100 = true := by kernel_rfl
theorem cl128 : callable Tryz.prog 128 = true := by kernel_rfl
theorem cl13 : callable Tryz.prog 13 = true := by kernel_rfl
theorem cl14 : callable Tryz.prog 14 = true := by kernel_rfl
theorem cl31 : callable Tryz.prog 31 = true := by kernel_rfl
theorem cl32 : callable Tryz.prog 32 = true := by kernel_rfl
theorem cl33 : callable Tryz.prog 33 = true := by kernel_rfl
theorem cl61 : callable Tryz.prog 61 = true := by kernel_rfl
theorem cl9 : callable Tryz.prog 9 = true := by kernel_rfl
theorem ext168 : ExtIs Tryz.prog 168 Extern.BytealgIndexByte.indexByte := ⟨_, Tryz.func168, by decide, by decide, by kernel_rfl, by kernel_rfl⟩
theorem ext63 : ExtIs Tryz.prog 63 Extern.MathFloatBits.float64bits := ⟨_, Tryz.func63, by decide, by decide, by kernel_rfl, by kernel_rfl⟩
theorem pn41 : Tryz.prog.underlying 41 = some (.pointer (Tryz.prog.pointee 41)) := by kernel_rfl
theorem sz5 : szOf Tryz.prog 5 = some 1 := by kernel_rfl
theorem zr85 : (Tryz.prog.info? 85).bind (·.zero) = some (.agg #[.int .u8 0, .int .u8 0, .int .u8 0, .int .u8 0, .int .u8 0, .int .u8 0, .int .u8 0, .int .u8 0, .int .u8 0, .int .u8 0, .int .u8 0, .int .u8 0, .int .u8 0, .int .u8 0, .int .u8 0, .int .u8 0]) := by kernel_rfl
namespace Oo
section
variable {P : Program} {w : World} {ρ : Operand → Value} {d : Option Tmp} {x y : Operand} {ty : TypeId} {pos : String} {af : Array Edge} {g : Option (Nat × Bool)}
theorem RX.slStrH {t : TypeId} {a r : List UInt8} {k : IntKind} {h : Int} (hx : ρ x = .string ⟨a.toArray⟩) (hy : ρ y = .int k h) (ht : P.underlying t = some .string) (h0 : 0 ≤ h) (h1 : h ≤ a.length)
 (hr : a.take h.toNat = r) : Runs P ρ ⟨d, .slice t x none (some y) none, ty, pos, af, g⟩ w (.string ⟨r.toArray⟩) := by
 subst hr
 have h1' : h ≤ (⟨a.toArray⟩ : ByteArray).size := by simpa [ByteArray.size] using h1
 have he : (⟨a.toArray⟩ : ByteArray).extract 0 h.toNat = ⟨(a.take h.toNat).toArray⟩ := by
   rw [ByteArray.extract_mk]
   congr 2
 rw [← he]
 unfold Runs
 simp [execOp, hx, hy, run_sliceAt_string w t _ _ _ _ ht, run_slice_string_h w t _ ht k h h0 h1']
theorem RX.slStrL {t : TypeId} {a r : List UInt8} {k : IntKind} {h : Int} (hx : ρ x = .string ⟨a.toArray⟩) (hy : ρ y = .int k h) (ht : P.underlying t = some .string) (h0 : 0 ≤ h) (h1 : h ≤ a.length)
 (hr : a.drop h.toNat = r) : Runs P ρ ⟨d, .slice t x (some y) none none, ty, pos, af, g⟩ w (.string ⟨r.toArray⟩) := by
 subst hr
 have h1' : h ≤ (⟨a.toArray⟩ : ByteArray).size := by simpa [ByteArray.size] using h1
 have he : (⟨a.toArray⟩ : ByteArray).extract h.toNat (⟨a.toArray⟩ : ByteArray).size = ⟨(a.drop h.toNat).toArray⟩ := by
   rw [ByteArray.extract_mk]
   congr 1
   apply Array.toList_inj.1
   simp [ByteArray.size]
   exact List.take_of_length_le (by simp)
 rw [← he]
 unfold Runs
 simp [execOp, hx, hy, run_sliceAt_string w t _ _ _ _ ht, run_slice_string_l w t _ ht k h h0 h1']
end
def sDeep4 : List UInt8 := [100, 101, 101, 112, 32, 102, 52]
theorem run_ib {w : World} : (Extern.BytealgIndexByte.indexByte #[.string ⟨sDeep4.toArray⟩, .int .u8 32]).run Tryz.prog w = .ok (.int .i64 4) w := by
 rw [Lib.run_indexByteString]; rfl
def hexD : List UInt8 := [51, 102, 102, 48, 48, 48, 48, 48, 48, 48, 48, 48, 48, 48, 48, 48]
def hexI (i : Nat) : List Value := (hexD.take i).map (fun b => .int .u8 b.toNat) ++ List.replicate (16 - i) (.int .u8 0)
def hq (i : Nat) : Nat := 4607182418800017408 / 2 ^ (60 - 4 * i)
theorem hx_sh : ∀ i : Nat, i < 16 → (4607182418800017408 : Int) / (2 ^ (min ((60 - 4 * i : Nat) : Int).toNat IntKind.u64.bits) : Int) = ((hq i : Nat) : Int) := by decide +kernel
theorem hx_and : ∀ i : Nat, i < 16 → IntKind.u64.wrap ((BitVec.ofInt IntKind.u64.bits ((hq i : Nat) : Int) &&& BitVec.ofInt IntKind.u64.bits 15).toNat : Int) = ((hq i % 16 : Nat) : Int) := by decide +kernel
theorem hx_dig : ∀ i : Nat, i < 16 → ([48, 49, 50, 51, 52, 53, 54, 55, 56, 57, 97, 98, 99, 100, 101, 102] : List UInt8)[((hq i % 16 : Nat) : Int).toNat]? = hexD[i]? := by decide +kernel
theorem hx_set : ∀ (i : Nat) (b : UInt8), hexD[i]? = some b → (hexI i).set i (.int .u8 b.toNat) = hexI (i + 1)
  | 0, _, h => by cases h; rfl
  | 1, _, h => by cases h; rfl
  | 2, _, h => by cases h; rfl
  | 3, _, h => by cases h; rfl
  | 4, _, h => by cases h; rfl
  | 5, _, h => by cases h; rfl
  | 6, _, h => by cases h; rfl
  | 7, _, h => by cases h; rfl
  | 8, _, h => by cases h; rfl
  | 9, _, h => by cases h; rfl
  | 10, _, h => by cases h; rfl
  | 11, _, h => by cases h; rfl
  | 12, _, h => by cases h; rfl
  | 13, _, h => by cases h; rfl
  | 14, _, h => by cases h; rfl
  | 15, _, h => by cases h; rfl
  | n + 16, _, h => by simp [hexD] at h
theorem isZ_eq {x y : Nat} {v : Int} (h : IsZ x v) (h' : IsZ y v) : (FloatKind.f64.format.order x y == some .eq) = true := by
 have h1 := isZ_ord h h'
 have h2 : compare v v = .eq := by simp [compare, compareOfLessAndEq]
 rw [h2] at h1
 exact beq_of_eq h1
theorem isZ_c {w : Nat} {v : Int} (h : fint v = w) (hv : v.natAbs < 9007199254740992) : IsZ w v := h ▸ isZ_fint hv
def z4 : List (Int × Int) := [(1, 0), (2, 0), (3, 0), (4, 0)]
def x4 : List (Nat × Nat) := [(4607182418800017408, 0), (4611686018427387904, 0), (4613937818241073152, 0), (4616189618054758400, 0)]
theorem zl4 : ZL x4 z4 := by
 refine ⟨rfl, fun i z h => ?_⟩
 match i, h with
 | 0, h => cases h; exact ⟨_, rfl, isZ_c (by decide +kernel) (by decide), isZ_zero⟩
 | 1, h => cases h; exact ⟨_, rfl, isZ_c (by decide +kernel) (by decide), isZ_zero⟩
 | 2, h => cases h; exact ⟨_, rfl, isZ_c (by decide +kernel) (by decide), isZ_zero⟩
 | 3, h => cases h; exact ⟨_, rfl, isZ_c (by decide +kernel) (by decide), isZ_zero⟩
theorem b4 : ∀ z ∈ z4, z.1.natAbs ≤ 17592186044416 ∧ z.2.natAbs ≤ 17592186044416 := by decide
theorem d4 : (dftZ z4)[0]? = some (10, 0) ∧ (dftZ z4)[1]? = some (-2, 2) := by decide +kernel
theorem ok_f4 : (Od.lf true 4).ok := Or.inr (Or.inr rfl)
theorem parse_f4 : parseS [102, 52] = .ok (Od.lf true 4).tr := by
 have h : pO 3 [102, 52] = (some (Od.lf true 4).tr, []) := by rfl
 unfold parseS
 rw [if_neg (by decide)]
 simp only [List.length_cons, List.length_nil]
 rw [h]
 dsimp only
 rw [if_pos rfl, if_neg (by rw [Od.len _ ok_f4]; decide)]
theorem IndexByte_b {w0 w : World} {F : List Seg} (H : Hp w0 w F) : Ret Tryz.prog 128 [.string ⟨sDeep4.toArray⟩, .int .u8 32] w fun v w' => v = .int .i64 4 ∧ Hp w0 w' F := by
 refine Calls.of_J (n := 8) Tryz.func128 rfl rfl rfl (J.seq (J.region (JL.g (RX.assign) (JL.nil (J.seq (J.region (JL.g (RX.movev (v := .string _) rfl) (JL.mi rfl (JL.g (RX.ext ext168 rfl rfl (v := .int _ _) run_ib) (JL.ai rfl (JL.nil (J.ret1 (v := .int _ _) Tryz.func128 rfl rfl ?_))))))))))))
 exact ⟨_, rfl, rfl, H⟩
theorem Index_b {w0 w : World} {F : List Seg} (H : Hp w0 w F) : Ret Tryz.prog 100 [.string ⟨sDeep4.toArray⟩, .string ⟨#[32]⟩] w fun v w' => v = .int .i64 4 ∧ Hp w0 w' F := by
 refine Calls.of_J (n := 143) Tryz.func100 rfl rfl rfl (J.seq (J.region (JL.g (RX.assign) (JL.nil (J.seq (J.region (JL.g (RX.movev (v := .string _) rfl) (JL.g (RX.len_string rfl ud9 rfl) (JL.ai rfl (JL.nil (J.seq (J.block (J.seq (J.region (JL.mi rfl (JL.g (RX.eq rfl rfl) (JL.mb rfl (JL.go ⟨_, rfl, (decide_eq_false (by decide))⟩ (RX.movev (v := .string _) rfl) (JL.go ⟨_, rfl, (decide_eq_false (by decide))⟩ (RX.movev (v := .string _) rfl) (JL.go ⟨_, rfl, (decide_eq_false (by decide))⟩ (RX.str_eql rfl rfl) (JL.g (RX.pick_f rfl (decide_eq_false (by decide))) (JL.ab rfl (JL.nil (J.cond_f rfl (by decide) (J.seq (J.region (JL.mi rfl (JL.g (RX.eq rfl rfl) (JL.ab rfl (JL.nil (J.cond_t rfl (by decide) (J.seq (J.region (JL.g (RX.movev (v := .string _) rfl) (JL.g (RX.movev (v := .string _) rfl) (JL.g (RX.indexStr rfl rfl ud9 (b := 32) (by decide) rfl) (JL.e (EX.call rfl cl128 rfl ((IndexByte_b H))) ?_)))))))))))))))))))))))))))))))))))))
 rintro _ w ⟨rfl, H⟩
 refine JL.ai rfl (JL.nil (J.ret1 (v := .int _ _) Tryz.func100 rfl rfl ?_))
 exact ⟨_, rfl, rfl, H⟩
theorem Cut0_b {w0 w : World} {F : List Seg} (H : Hp w0 w F) : Ret Tryz.prog 61 [.string ⟨sDeep4.toArray⟩, .string ⟨#[32]⟩] w fun v w' => v = .tuple #[.string ⟨([100, 101, 101, 112] : List UInt8).toArray⟩, .string ⟨([102, 52] : List UInt8).toArray⟩, .bool true] ∧ Hp w0 w' F := by
 refine Calls.of_J (n := 23) Tryz.func61 rfl rfl rfl (J.seq (J.region (JL.g (RX.assignv (v := .string _) rfl) (JL.g (RX.assignv (v := .string _) rfl) (JL.g (RX.assign) (JL.nil (J.seq (J.seq (J.region (JL.g (RX.movev (v := .string _) rfl) (JL.g (RX.movev (v := .string _) rfl) (JL.e (EX.call rfl cl100 rfl ((Index_b H))) ?_))))))))))))
 rintro _ w ⟨rfl, H⟩
 refine JL.ai rfl (JL.nil (J.seq (J.region (JL.mi rfl (JL.g (RX.ge rfl rfl) (JL.nil (J.cond_t rfl (by decide) (J.seq (J.quietH H hmix (by kernel_rfl) (JQ.g (fun w H => RX.movev (v := .string _) rfl) (JQ.g (fun w H => RX.movev (v := .int _ _) rfl) (JQ.g (fun w H => RX.slStrH (a := sDeep4) (r := [100, 101, 101, 112]) rfl rfl ud9 (by decide) (by decide) rfl) (JQ.g (fun w H => RX.movev (v := .string _) rfl) (JQ.g (fun w H => RX.movev (v := .int _ _) rfl) (JQ.g (fun w H => RX.movev (v := .string _) rfl) (JQ.g (fun w H => RX.len_string rfl ud9 rfl) (JQ.g (fun w H => RX.add rfl rfl (w_i64 (r := 5) (by decide) (by omega) (by omega))) (JQ.g (fun w H => RX.slStrL (a := sDeep4) (r := [102, 52]) rfl rfl ud9 (by decide) (by decide) rfl) (JQ.g (fun w H => RX.assignv (v := .string _) rfl) (JQ.g (fun w H => RX.assignv (v := .string _) rfl) (JQ.g (fun w H => RX.assign) (JQ.nil fun w H => (J.ret3 (v := .string _) (x := Value.string _) (y := Value.bool _) Tryz.func61 rfl rfl rfl rfl ?_)))))))))))))))))))))))
 exact ⟨_, rfl, rfl, H⟩
theorem Cut_b {w0 w : World} {F : List Seg} (H : Hp w0 w F) : Ret Tryz.prog 31 [.string ⟨sDeep4.toArray⟩, .string ⟨#[32]⟩] w fun v w' => v = .tuple #[.string ⟨([100, 101, 101, 112] : List UInt8).toArray⟩, .string ⟨([102, 52] : List UInt8).toArray⟩, .bool true] ∧ Hp w0 w' F := by
 refine Calls.of_J (n := 13) Tryz.func31 rfl rfl rfl (J.seq (J.region (JL.g (RX.assign) (JL.g (RX.assign) (JL.g (RX.assign) (JL.nil (J.seq (J.region (JL.g (RX.movev (v := .string _) rfl) (JL.g (RX.movev (v := .string _) rfl) (JL.e (EX.call rfl cl61 rfl ((Cut0_b H))) ?_)))))))))))
 rintro _ w ⟨rfl, H⟩
 refine JL.g (RX.extract (v := .string _) rfl rfl) (JL.g (RX.extract (v := .string _) rfl rfl) (JL.g (RX.extract (v := .bool _) rfl rfl) (JL.g (RX.assignv (v := .string _) rfl) (JL.g (RX.assignv (v := .string _) rfl) (JL.ab rfl (JL.nil (J.ret3 (v := .string _) (x := Value.string _) (y := Value.bool _) Tryz.func31 rfl rfl rfl rfl ?_)))))))
 exact ⟨_, rfl, rfl, H⟩
theorem PParse_b {w0 w : World} {F : List Seg} (H : Hp w0 w F) (hT : SlAt F (some ⟨12, 0, none⟩) tableC) {E : Nat → Value} {Q : Nat → Addr} (hE : Errs F E Q) (hg : GTab F) : Ret Tryz.prog 13 [.string ⟨sDeep4.toArray⟩] w fun v w' => ∃ bp o0 o1 o2 wy tx q c9 sl, v = .tuple #[.pointer (some ⟨bp, 0, none⟩), .nilIface] ∧ OwnSl 178 7 q ((Od.lf true 4).pg false).ss.length c9 (spsV ((Od.lf true 4).pg false).ss) sl ∧ Hp w0 w' ([(bp, cel (plV o0 o1 o2 wy tx 4 ((Od.lf true 4).pg false).nc 0 4 q ((Od.lf true 4).pg false).ss.length c9) 79)] :: sl :: F) := by
 refine Calls.of_J (n := 40) Tryz.func13 rfl rfl rfl (J.seq (J.region (JL.g (RX.assign) (JL.g (RX.assign) (JL.nil (J.seq (J.region (JL.g (RX.movev (v := .string _) rfl) (JL.e (EX.call rfl cl31 rfl ((Cut_b H))) ?_)))))))))
 rintro _ w ⟨rfl, H⟩
 refine JL.g (RX.movev (v := .tuple _) rfl) (JL.g (RX.extract (v := .string _) rfl rfl) (JL.g (RX.extract (v := .string _) rfl rfl) (JL.g (RX.extract (v := .bool _) rfl rfl) (JL.g (RX.assignv (v := .string _) rfl) (JL.g (RX.assignv (v := .string _) rfl) (JL.ab rfl (JL.nil (J.seq (J.region (JL.g (RX.assign) (JL.nil (J.seq (J.seq (J.region (JL.g (RX.movev (v := .string _) rfl) (JL.e (EX.call rfl cl26 rfl ((wordt_b H))) ?_))))))))))))))))
 rintro _ w ⟨rfl, H⟩
 refine JL.g (RX.str_eql rfl rfl) (JL.nil (J.cond_f rfl (by decide) (J.seq (J.region (JL.g (RX.movev (v := .string _) rfl) (JL.e (EX.call rfl cl26 rfl ((wordf_b H))) ?_))))))
 rintro _ w ⟨rfl, H⟩
 refine JL.g (RX.str_neq rfl rfl) (JL.nil (J.cond_f rfl (by decide) (J.skip (J.seq (J.seq (J.region (JL.mb rfl (JL.g (RX.not rfl) (JL.nil (J.cond_f rfl rfl (J.skip (J.seq (J.region (JL.g (RX.movev (v := .string _) rfl) (JL.e (EX.call rfl cl32 rfl ((Parse_b H (E := E) ⟨hE.at_ 3 (by omega) (by omega), hE.at_ 6 (by omega) (by omega), hE.at_ 8 (by omega) (by omega)⟩ (s := [102, 52]) (by decide)))) ?_)))))))))))))))
 rintro _ w ⟨sg, hr, H⟩
 obtain ⟨t9, vs9, he9, rfl, ho9⟩ : ∃ t vs, parseS [102, 52] = .ok t ∧ _ = _ ∧ t.Own vs sg := hr.resolve_right (by rintro ⟨pl, c, h, _⟩; rw [parse_f4] at h; cases h)
 rw [parse_f4] at he9
 cases he9
 obtain ⟨k9, n9, p9, m9, c9, rfl⟩ := ho9.shape
 refine JL.g (RX.movev (v := .tuple _) rfl) (JL.g (RX.extract (v := .agg _) rfl rfl) (JL.g (RX.extract (v := .int _ _) rfl rfl) (JL.g (RX.extract (v := .nilIface) rfl rfl) (JL.e (EX.alloc H zr39 rfl) ?_))))
 rintro _ w ⟨b8, rfl, H⟩
 refine JL.e (EX.storeAgg H rfl rfl (i := 0) (vs := tv k9 n9 p9 m9 c9) (l' := tv k9 n9 p9 m9 c9) rfl tv_cell (by simp) sz39 rfl rfl) ?_
 rintro _ w H
 refine JL.ai rfl (JL.g (RX.assignv (v := .nilIface) rfl) (JL.nil (J.seq (J.seq (J.region (JL.g (RX.movev (v := .nilIface) rfl) (JL.g (RX.ifnil_neq (v := .nilIface) rfl rfl rfl if31) (JL.nil (J.cond_f rfl rfl (J.skip (J.seq ?_)))))))))))
 replace H : Hp w0 w ([(b8, cel (tv k9 n9 p9 m9 c9) 39)] :: sg :: F) := H
 refine J.region (JL.g (RX.loadAgg H rfl (i := 0) (vs := tv k9 n9 p9 m9 c9) rfl rfl ag39) (JL.mi rfl (JL.e (EX.call rfl cl9 rfl ((show Ret _ _ [.agg (tv k9 n9 p9 m9 c9).toArray, .int .i64 0] w _ from Of_b (E := E) (o := .lf true 4) H hT.cons.cons (hE.at_ 8 (by omega) (by omega)).cons.cons hg.cons.cons ok_f4 ho9.is.cons false))) ?_)))
 rintro _ w ⟨bp, o0, o1, o2, tx, q, c0, sl, rfl, hO, H⟩
 refine JL.g (RX.extract (v := .pointer _) rfl rfl) (JL.g (RX.extract (v := .nilIface) rfl rfl) (JL.ap rfl (JL.g (RX.assignv (v := .nilIface) rfl) (JL.nil (J.ret2 (v := .pointer _) Tryz.func13 rfl rfl rfl ?_)))))
 exact ⟨_, rfl, bp, o0, o1, o2, _, tx, q, c0, sl, rfl, hO, ((H.pull 2 rfl).drop.pull 2 rfl).drop⟩
theorem Bits_b {w0 w : World} {F : List Seg} (H : Hp w0 w F) : Ret Tryz.prog 33 [.float .f64 4607182418800017408] w fun v w' => v = .int .u64 4607182418800017408 ∧ Hp w0 w' F := by
 refine Calls.of_J (n := 8) Tryz.func33 rfl rfl rfl (J.seq (J.region (JL.g (RX.assign) (JL.nil (J.seq (J.seq (J.region (JL.g (RX.movev (v := .float _ _) rfl) (JL.g (RX.movev (v := .float _ _) rfl) (JL.g (RX.fne rfl rfl) (JL.nil (J.cond_f rfl (by decide +kernel) (J.skip (J.seq (J.region (JL.g (RX.movev (v := .float _ _) rfl) (JL.g (RX.ext ext63 rfl rfl (v := .int _ _) rfl) (JL.ai rfl (JL.nil (J.ret1 (v := .int _ _) Tryz.func33 rfl rfl ?_))))))))))))))))))))
 exact ⟨_, rfl, rfl, H⟩
theorem Float_b {w0 w : World} {F : List Seg} (H : Hp w0 w F) : Ret Tryz.prog 14 [.float .f64 4607182418800017408] w fun v w' => v = .string ⟨hexD.toArray⟩ ∧ Hp w0 w' F := by
 refine Calls.of_J (n := 23) Tryz.func14 rfl rfl rfl (J.seq (J.region (JL.g (RX.assign) (JL.nil (J.seq (J.region (JL.e (EX.alloc H zr85 rfl) ?_)))))))
 rintro _ w ⟨b3, rfl, H⟩
 refine JL.nil (J.seq (J.region (JL.g (RX.movev (v := .float _ _) rfl) (JL.e (EX.call rfl cl33 rfl ((Bits_b H))) ?_))))
 rintro _ w ⟨rfl, H⟩
 refine JL.ai rfl (JL.nil (J.seq (J.seq (J.region (JL.g (RX.move) (JL.nil (J.block (J.loop (ι := Nat) (S := fun i => [(8, .int .i64 ((i : Nat) : Int))]) (Φ := fun i w => i ≤ 16 ∧ Hp w0 w ([(b3, cel (hexI i) 85)] :: F)) (μ := fun i => 16 - i) (C := [(3, _), (4, _)]) 0 ⟨rfl, rfl, trivial⟩ ⟨rfl, trivial⟩ ?_ ?_))))))))
 · exact ⟨by omega, H⟩
 clear H
 rintro i ρ w ⟨hi, H⟩ IH
 refine J.seq (J.region (JL.g (RX.lt rfl rfl) (JL.nil (J.seq (J.cond_d rfl (fun hlt => ?_) (fun hlt => ?_))))))
 ·
  have hi16 : i < 16 := by omega
  obtain ⟨b, hb⟩ : ∃ b, hexD[i]? = some b := ⟨_, List.getElem?_eq_getElem hi16⟩
  refine J.skip (J.seq (J.block (J.seq (J.region (JL.mi rfl (JL.ai rfl (JL.nil (J.region (JL.mi rfl (JL.mi rfl (JL.mi rfl (JL.g (RX.mul rfl rfl (wi (n := 4 * i) (by omega) (by omega))) (JL.g (RX.sub rfl rfl (wi (n := 60 - 4 * i) (by omega) (by omega))) (JL.g (RX.shr rfl rfl (by omega) (hx_sh i hi16)) (JL.g (RX.and rfl rfl (hx_and i hi16)) (JL.g (RX.indexStr rfl rfl ud9 (b := b) (by omega) ((hx_dig i hi16).trans hb)) (JL.g (RX.indexArr rfl rfl ar85 (by omega) (by omega) (o' := i) (by omega)) (JL.e (EX.store (v := .int _ _) H rfl rfl (i := 0) rfl rfl (by simp [hexI, hexD]; omega) sz5 rfl rfl) ?_))))))))))))))))))
  rintro _ w H
  refine JL.nil (J.inBlock (J.region (JL.g (RX.add rfl rfl (wi (n := i + 1) (by omega) (by omega))) (JL.mi rfl (JL.nil ?_)))))
  replace H : Hp w0 w ([(b3, cel ((hexI i).set i (.int .u8 b.toNat)) 85)] :: F) := H
  rw [hx_set i b hb] at H
  exact IH (i + 1) _ _ (by omega) ⟨rfl, rfl, trivial⟩ ⟨rfl, trivial⟩ ⟨by omega, H⟩
 ·
  obtain rfl : i = 16 := by omega
  refine J.exit rfl (J.seq (J.region (JL.g (Go.Eng.RX.sliceArr rfl ar85) (JL.g (RX.b2s (l := hexD) H rfl (SlAt.here rfl) sl88 ud5 ud9) (JL.g (RX.assignv (v := .string _) rfl) (JL.nil (J.ret1 (v := .string _) Tryz.func14 rfl rfl ?_)))))))
  exact ⟨_, rfl, rfl, H.drop⟩
theorem started_b {w0 w : World} {F : List Seg} (H : Hp w0 w F) (hT : SlAt F (some ⟨12, 0, none⟩) tableC) {E : Nat → Value} {Q : Nat → Addr} (hE : Errs F E Q) (hg : GTab F) : Ret Tryz.prog 4 [] w fun v w' => v = .bool true ∧ Hp w0 w' F := by
 refine Calls.of_J (n := 43) Tryz.func4 rfl rfl rfl (J.seq ?_)
 have hfit := Od.fit (.lf true 4) ok_f4 false
 refine J.region (JL.g (RX.assign) (JL.nil (J.seq (J.region (JL.e (EX.call rfl cl13 rfl ((PParse_b H hT hE hg))) ?_)))))
 rintro _ w ⟨bp, o0, o1, o2, wy, tx, q, c9, sl, rfl, hO, H⟩
 refine JL.g (RX.movev (v := .tuple _) rfl) (JL.g (RX.extract (v := .pointer _) rfl rfl) (JL.g (RX.extract (v := .nilIface) rfl rfl) (JL.ap rfl (JL.g (RX.assignv (v := .nilIface) rfl) (JL.nil (J.seq (J.seq (J.region (JL.g (RX.movev (v := .nilIface) rfl) (JL.g (RX.ifnil_neq (v := .nilIface) rfl rfl rfl if31) (JL.mb rfl (JL.go ⟨_, rfl, rfl⟩ (RX.movev (v := .pointer _) rfl) (JL.go ⟨_, rfl, rfl⟩ (RX.ptrnil_eql rfl rfl pn41) (JL.g (RX.pick_f rfl rfl) (JL.nil (J.cond_f rfl rfl (J.skip (J.seq (J.region (JL.mp rfl (JL.e (EX.buildSlice (pv := [(0, .complex .f64 4607182418800017408 0), (1, .complex .f64 4611686018427387904 0), (2, .complex .f64 4613937818241073152 0), (3, .complex .f64 4616189618054758400 0)]) (l := cxs x4) (e := 49) H rfl (by kernel_rfl)) ?_)))))))))))))))))))))
 rintro _ w ⟨bx, rfl, H⟩
 refine JL.e (EX.call rfl cl10 rfl ((Forward_b (zs := z4) (xs := x4) (cx := 4) (H.pull 1 rfl) (hE.at_ 9 (by omega) (by omega)).cons.cons hT.cons.cons hO.slAt.cons hfit (SlAt.here rfl) zl4 rfl b4))) ?_
 rintro _ w ⟨q2, c2, s2, rs, rfl, ho2, hrs, H⟩
 obtain ⟨f0, hf0, hz0⟩ := hrs.2 0 _ d4.1
 obtain ⟨f1, hf1, hz1⟩ := hrs.2 1 _ d4.2
 have hrl : rs.length = 4 := hrs.1.trans (by rfl)
 obtain ⟨qb, qo, rfl⟩ := spot_some (ho2.slAt (L := [])) (by rw [cxs_len]; omega)
 have he1 : ((FloatKind.f64.format.order f0.1 4621819117588971520 == some .eq) && (FloatKind.f64.format.order f0.2 0 == some .eq)) = true := by
   rw [isZ_eq hz0.1 (isZ_c (by decide +kernel) (by decide)), isZ_eq hz0.2 isZ_zero]; rfl
 have he2 : ((FloatKind.f64.format.order f1.1 13835058055282163712 == some .eq) && (FloatKind.f64.format.order f1.2 4611686018427387904 == some .eq)) = true := by
   rw [isZ_eq hz1.1 (isZ_c (by decide +kernel) (by decide)), isZ_eq hz1.2 (isZ_c (by decide +kernel) (by decide))]; rfl
 refine JL.g (RX.movev (v := .tuple _) rfl) (JL.g (RX.extract (v := .slice _ _ _) rfl rfl) (JL.g (RX.extract (v := .nilIface) rfl rfl) (JL.al rfl (JL.g (RX.assignv (v := .nilIface) rfl) (JL.nil (J.seq (J.region (JL.g (RX.movev (v := .nilIface) rfl) (JL.g (RX.ifnil_eql (v := .nilIface) rfl rfl rfl if31) (JL.mb rfl (JL.go ⟨_, rfl, rfl⟩ (RX.movev (v := .slice _ _ _) rfl) (JL.go ⟨_, rfl, rfl⟩ (RX.len_slice rfl (by rw [sl27]; rfl) rfl) ?_))))))))))))
 refine JL.go ⟨_, rfl, rfl⟩ (RX.eq rfl rfl) (JL.g (RX.pick_t rfl rfl) (JL.mb rfl (JL.go ⟨_, rfl, (decide_eq_true (by decide))⟩ (RX.movev (v := .slice _ _ _) rfl) (JL.go ⟨_, rfl, (decide_eq_true (by decide))⟩ (RX.indexAddr rfl rfl sl27 (by omega) (by omega) (o' := qo + 0) (by omega)) (JL.go ⟨_, rfl, (decide_eq_true (by decide))⟩ (RX.loadS H ho2.slAt rfl (j := 0) rfl (cxs_get hf0) one49) (JL.go ⟨_, rfl, (decide_eq_true (by decide))⟩ (RX.ceq rfl rfl) (JL.g (RX.pick_t rfl (decide_eq_true (by decide))) (JL.mb rfl (JL.go ⟨_, rfl, he1⟩ (RX.movev (v := .slice _ _ _) rfl) (JL.go ⟨_, rfl, he1⟩ (RX.indexAddr rfl rfl sl27 (by omega) (by omega) (o' := qo + 1) (by omega)) (JL.go ⟨_, rfl, he1⟩ (RX.loadS H ho2.slAt rfl (j := 1) rfl (cxs_get hf1) one49) (JL.go ⟨_, rfl, he1⟩ (RX.ceq rfl rfl) (JL.g (RX.pick_t rfl he1) (JL.mb rfl (JL.does ⟨_, rfl, he2⟩ (EX.call rfl cl14 rfl ((Float_b H))) ?_)))))))))))))))
 rintro _ w ⟨rfl, H⟩
 refine JL.go ⟨_, rfl, he2⟩ (RX.str_eql rfl rfl) (JL.g (RX.pick_t rfl he2) (JL.ab rfl (JL.nil (J.ret1 (v := .bool _) Tryz.func4 rfl rfl ?_))))
 exact ⟨_, rfl, congrArg Value.bool (decide_eq_true (by decide)), H.drop.drop.drop.drop⟩
end Oo
end Go.Proofs.YtfaokllgaambjaaGreatDoor

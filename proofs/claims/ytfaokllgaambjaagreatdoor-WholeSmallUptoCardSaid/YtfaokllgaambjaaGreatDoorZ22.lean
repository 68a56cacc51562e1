/- Part 22 of the proof that WholeSmall holds: what the functions on its way do, step by step. -/
import Derived.Test.YtfaokllgaambjaaGreatDoorZ1
import Derived.Test.YtfaokllgaambjaaGreatDoorZ2
import Derived.Test.YtfaokllgaambjaaGreatDoorZ3
import Derived.Test.YtfaokllgaambjaaGreatDoorZ4
import Derived.Test.YtfaokllgaambjaaGreatDoorZ5
import Derived.Test.YtfaokllgaambjaaGreatDoorZ7
import Derived.Test.YtfaokllgaambjaaGreatDoorZ9
import Derived.Test.YtfaokllgaambjaaGreatDoorZ15
import Derived.Test.YtfaokllgaambjaaGreatDoorZ19
import Derived.Test.YtfaokllgaambjaaGreatDoorZ20
import Derived.Test.YtfaokllgaambjaaGreatDoorZ21
set_option linter.unusedVariables false
set_option linter.unusedSimpArgs false
namespace Go.Eng
open Go
variable {D : List Deferred}
section
variable {P : Program} {n : Nat} {R : Ending → World → Prop} {k : List Item} {σ : Env} {w w0 : World} {L : List Seg}
theorem J.yieldAt {f : FuncId} {l r : Nat} {t : Tmp} {v : Value} {a : Act} {assign body : Code} {i : Nat} {D0 : List Deferred} (H : Hp w0 w L) (hi : L[i]? = some [(l, loopObj .ready f a.tmps #[t] assign body r)]) (ha : Ag D0 n σ a)
    (h : J [] P (.rd l) n R [.code assign, .beginRound, .code body] (updO σ (some t) v) w) : YieldAt Fence.wide 0 P l #[v] w R := by
  refine ⟨_, _, _, _, run_yield (H.get1 hi) rfl, ?_⟩
  refine ⟨trivial, fun c cs _ => ?_⟩
  let b : Frame := { (default : Frame) with fn := f, kind := .normal, roundOf := some l }
  have hb0 : Frame.round l f (a.tmps.setIfInBounds t v) assign body .normal = b.atR { tmps := a.tmps.setIfInBounds t v, defers := [] } [.code assign, .beginRound, .code body] := by
    simp [Frame.round, Frame.atR, b]
  have ha' : Ag [] n σ { a with defers := [] } := ⟨ha.size, ha.at_, rfl⟩
  have hp := ha'.put (some t) v
  have e : ({ a with defers := [] } : Act).put (some t) v = { tmps := a.tmps.setIfInBounds t v, defers := [] } := by simp [Act.put]
  rw [e] at hp
  obtain ⟨v', w', hR, hs⟩ := h _ hp b ⟨rfl, rfl⟩ (c :: cs)
  rw [← hb0] at hs
  have hs' : Comes P (lone (Frame.round l f (a.tmps.setIfInBounds t v) assign body .normal) (c :: cs) w) (lone (c.finish v') cs w') (.returned v') := hs
  exact ⟨.returned v', w', hR, comesIn_wide.2 (by simpa using hs')⟩
theorem J.code {f : Fr} {c c' : Code} (hc : c = c') (h : J D P f n R (.code c :: k) σ w) : J D P f n R (.code c' :: k) σ w := hc ▸ h
theorem J.beginRound {f : FuncId} {l r : Nat} {tmps : Array Value} {ps : Array Tmp} {assign body : Code} {i : Nat} (H : Hp w0 w L) (hi : L[i]? = some [(l, loopObj .ready f tmps ps assign body r)])
    (h : ∀ w', Hp w0 w' (L.set i [(l, loopObj .busy f tmps ps assign body r)]) → J D P (.rd l) n R k σ w') : J D P (.rd l) n R (.beginRound :: k) σ w := by
  intro a ha b hb cs
  have hr := run_beginRound (P := P) (H.get1 hi) rfl
  exact Fr.ends.steps (.one (stepR_beginRound hb.2 hr)) (h _ (H.putObj hi) a ha b hb cs)
theorem J.roundEnd {f : FuncId} {l r : Nat} {tmps : Array Value} {ps : Array Tmp} {assign body : Code} {i : Nat} (H : Hp w0 w L) (hi : L[i]? = some [(l, loopObj .busy f tmps ps assign body r)])
    (h : ∀ w', Hp w0 w' (L.set i [(l, loopObj .ready f tmps ps assign body r)]) → R (.returned (.bool true)) w') : J D P (.rd l) n R [] σ w := by
  intro a ha b hb cs
  cases cs with
  | nil => trivial
  | cons c cs =>
    have hr := run_endRound (P := P) none (H.get1 hi)
    exact ⟨_, _, h _ (H.putObj hi), .one (stepR_round_end hb.2 hb.1 hr)⟩
def sumBy (f : Seg → Nat) : List Seg → Nat
  | [] => 0
  | s :: l => f s + sumBy f l
theorem sumBy_app (f : Seg → Nat) : ∀ a b : List Seg, sumBy f (a ++ b) = sumBy f a + sumBy f b
  | [], b => by simp [sumBy]
  | s :: a, b => by simp only [List.cons_append, sumBy, sumBy_app f a b]; omega
open Classical in
theorem sumBy_count (x : Seg) : ∀ l : List Seg, sumBy (fun s => if s = x then 1 else 0) l = l.count x
  | [] => rfl
  | s :: l => by
    rw [sumBy, sumBy_count x l, List.count_cons]
    by_cases h : s = x
    · rw [if_pos h, if_pos (by simpa using h)]; omega
    · rw [if_neg h, if_neg (by simpa using h)]; omega
theorem sumBy_perm {f : Seg → Nat} {L L' : List Seg} (h : L.Perm L') : sumBy f L = sumBy f L' := by
  induction h with
  | nil => rfl
  | cons x _ ih => simp only [sumBy, ih]
  | swap x y l => simp only [sumBy]; omega
  | trans _ _ h1 h2 => rw [h1, h2]
theorem sub_sum : ∀ (L' L : List Seg), (∀ f, sumBy f L' ≤ sumBy f L) → ∃ R, L.Perm (L' ++ R)
  | [], L, _ => ⟨L, by simp⟩
  | s :: L', L, h => by
    classical
    have hm : s ∈ L := by
      have h1 := h (fun t => if t = s then 1 else 0)
      rw [sumBy_count, sumBy_count, List.count_cons_self] at h1
      exact List.count_pos_iff.1 (by omega)
    have hp := List.perm_cons_erase hm
    obtain ⟨R, hR⟩ := sub_sum L' (L.erase s) (fun f => by
      have h1 := h f
      rw [sumBy_perm hp] at h1
      simp only [sumBy] at h1
      omega)
    exact ⟨R, hp.trans (hR.cons s)⟩
theorem Hp.weak {L' : List Seg} (H : Hp w0 w L) (h : ∀ f, sumBy f L' ≤ sumBy f L) : Hp w0 w L' := by
  obtain ⟨R, hR⟩ := sub_sum L' L h
  have H1 : Hp w0 w (R ++ L') := perm_of_flatten H (List.Perm.flatten (hR.trans List.perm_append_comm))
  clear hR H
  induction R with
  | nil => exact H1
  | cons s R ih => exact ih H1.drop
end
end Go.Eng
namespace Go.Proofs.YtfaokllgaambjaaGreatDoor
open Go Go.Eng
set_option maxRecDepth 100000
set_option maxHeartbeats 1600000
theorem cl135 : callable Tryz.prog 135 = true := by kernel_rfl
theorem fo25_0 : fieldOff Tryz.prog 25 0 = some 0 := by kernel_rfl
theorem fo25_1 : fieldOff Tryz.prog 25 1 = some 1 := by kernel_rfl
theorem fo25_2 : fieldOff Tryz.prog 25 2 = some 2 := by kernel_rfl
theorem one23 : oneOf Tryz.prog 23 = true := by kernel_rfl
theorem ud23 : Tryz.prog.underlying 23 = some (.slice 3) := by kernel_rfl
namespace Oo
section
variable {P : Program} {w w0 : World} {L : List Seg} {ρ : Operand → Value} {d : Option Tmp} {x y : Operand} {ty : TypeId} {pos : String} {af : Array Edge} {g : Option (Nat × Bool)}
theorem RX.slnil_eql {t t' e : TypeId} {p : Option Addr} {n c : Nat} (hx : ρ x = .slice p n c) (hy : ρ y = .slice none 0 0) (ht : P.underlying t = some (.slice e)) : Runs P ρ ⟨d, .binOp .eql t x y t', ty, pos, af, g⟩ w (.bool p.isNone) := by
 have h0 : (Op.equal t (.slice p n c) (.slice none 0 0)).run P w = .ok p.isNone w := by
   unfold Op.equal Op.maxDepth Op.equalIn
   simp only [Sem.run_bind, run_underlying ht, Result.andThen_ok]
   cases p <;> rfl
 have h1 : (binOp .eql t (.slice p n c) (.slice none 0 0)).run P w = .ok (.bool p.isNone) w := by
   simp only [binOp]; simp [h0]
 unfold Runs
 simp [execOp, hx, hy, eqGuard_at_slice, h1]
end
theorem elI : Elem Tryz.prog 23 3 1 8 := Elem.of (by kernel_rfl)
theorem i64sV_cell (l : List Int) : ∀ v ∈ i64sV l, isCell v = true := by
 intro v hv; obtain ⟨b, _, rfl⟩ := List.mem_map.1 hv; rfl
def poV (d : Int) (q : Option Addr) (n c : Nat) (pr : Int) : List Value := [.int .i64 d, .slice q n c, .int .i64 pr]
def chV (d : Int) (q : Option Addr) (n c : Nat) (pr : Int) (m : Value) : List Value := [.int .i64 d, .slice q n c, .int .i64 pr, m]
def PolOk (d : Int) (fl : List Int) (pr : Int) : Prop := 2 ≤ d ∧ d ≤ 64 ∧ 2 ≤ pr ∧ ∀ r ∈ fl, 2 ≤ r ∧ r ≤ 5
def e5 (E : Nat → Value) (b : Bool) : Value := if b then .nilIface else E 5
def hdV (a : Nat) (fs : List Bool) : List Value := (fs.map fun f => tv (kf f) ((a : Nat) : Int) none 0 0).flatten
theorem hdV_get : ∀ {a : Nat} {fs : List Bool} {i : Nat} {f : Bool}, fs[i]? = some f → readN (hdV a fs) (i * 3) 3 = some (tv (kf f) ((a : Nat) : Int) none 0 0)
  | a, [], i, f, h => by simp at h
  | a, x :: fs, 0, f, h => by
    cases h
    unfold readN hdV
    simp
  | a, x :: fs, i + 1, f, h => by
    have ih := hdV_get (a := a) (fs := fs) (i := i) (f := f) (by simpa using h)
    unfold readN at ih ⊢
    rw [show hdV a (x :: fs) = tv (kf x) ((a : Nat) : Int) none 0 0 ++ hdV a fs from rfl, show (i + 1) * 3 = (tv (kf x) ((a : Nat) : Int) none 0 0).length + i * 3 by simp; omega, List.drop_length_add_append]
    exact ih
theorem hdV_len (a : Nat) (fs : List Bool) : (hdV a fs).length = fs.length * 3 := by
 induction fs with
 | nil => rfl
 | cons f fs ih => rw [show hdV a (f :: fs) = tv (kf f) ((a : Nat) : Int) none 0 0 ++ hdV a fs from rfl, List.length_append, ih, List.length_cons]; simp; omega
theorem hdV_add (a : Nat) (fs : List Bool) (f : Bool) : hdV a (fs ++ [f]) = hdV a fs ++ tv (kf f) ((a : Nat) : Int) none 0 0 := by simp [hdV]
def divL (n : Nat) : List Int := if n = 1 then [1] else if n = 2 then [1, 2] else [1, 2, 4]
theorem iclone_b {w0 w : World} {F : List Seg} (H : Hp w0 w F) {fl : List Int} {p : Option Addr} {c : Nat} (hs : SlAt F p (i64sV fl)) (hl : fl.length ≤ 1099511627776) : Ret Tryz.prog 20 [.slice p fl.length c] w fun v w' => ∃ q c2 sl, v = .slice q fl.length c2 ∧ OwnSl 3 1 q fl.length c2 (i64sV fl) sl ∧ Hp w0 w' (sl :: F) := by
 refine Calls.of_J (n := 8) Tryz.func20 rfl rfl rfl (J.seq (J.region (JL.g (RX.assign) (JL.nil (J.seq (J.seq (J.region (JL.ms rfl (JL.g (RX.slnil_eql rfl rfl ud23) (JL.nil (J.cond rfl (fun hnil => ?_) (fun hnil => ?_))))))))))))
 ·
  obtain rfl : p = none := by cases p with
  | none => rfl
  | some a => cases hnil
  obtain rfl : fl = [] := by
    rcases hs with h | ⟨b, off, C, T, fz, hp, _⟩
    · exact List.map_eq_nil_iff.1 h
    · cases hp
  refine J.seq (J.region (JL.g (RX.assign) (JL.nil (J.ret1 (v := .slice _ _ _) Tryz.func20 rfl rfl ?_))))
  exact ⟨_, rfl, none, 0, [], rfl, OwnSl.nil, H.nil⟩
 ·
  refine J.skip (J.seq (J.region (JL.e (EX.buildSlice0 H elI) ?_)))
  rintro _ w ⟨b0, rfl, H⟩
  refine JL.ms rfl (JL.e (EX.append (ys := i64sV fl) (L' := fun s' => s' :: F) H elI rfl rfl (i := 0) rfl OwnSl.empty hs.cons (by rw [i64sV_len]; omega) (i64sV_cell _) (by decide) (by omega) (by omega) (fun _ => rfl)) ?_)
  rintro _ w ⟨q, c2, sl, rfl, ho, H⟩
  refine JL.al rfl (JL.nil (J.ret1 (v := .slice _ _ _) Tryz.func20 rfl rfl ?_))
  rw [Nat.zero_add] at ho ⊢
  exact ⟨_, rfl, q, c2, sl, rfl, ho, H⟩
theorem iindex_b {w0 w : World} {F : List Seg} (H : Hp w0 w F) {fl : List Int} {p : Option Addr} {c : Nat} (hs : SlAt F p (i64sV fl)) (hl : fl.length ≤ 1099511627776) {v : Int} : Ret Tryz.prog 135 [.slice p fl.length c, .int .i64 v] w fun u w' => ∃ k : Int, u = .int .i64 k ∧ (0 ≤ k → v ∈ fl) ∧ Hp w0 w' F := by
 refine Calls.of_J (n := 19) Tryz.func135 rfl rfl rfl (J.seq (J.region (JL.g (RX.assign) (JL.nil (J.seq (J.seq (J.region (JL.ms rfl (JL.g (RX.len_slice rfl (by rw [sl23]; rfl) rfl) ?_)))))))))
 refine JL.g (RX.move) (JL.nil (J.block (J.loop (ι := Nat) (S := fun i => [(8, .int .i64 ((i : Nat) : Int))]) (Φ := fun i w => i ≤ fl.length ∧ Hp w0 w F) (μ := fun i => fl.length - i) (C := [(0, _), (1, _), (7, _)]) 0 ⟨rfl, rfl, rfl, trivial⟩ ⟨rfl, trivial⟩ ?_ ?_)))
 · exact ⟨by omega, H⟩
 clear H
 rintro i ρ w ⟨hi, H⟩ IH
 refine J.seq (J.region (JL.g (RX.lt rfl rfl) (JL.nil (J.seq (J.cond_d rfl (fun hlt => ?_) (fun hlt => ?_))))))
 ·
  have hil : i < fl.length := by omega
  obtain ⟨x, hxi⟩ : ∃ x, fl[i]? = some x := ⟨_, List.getElem?_eq_getElem hil⟩
  obtain ⟨pb, po, rfl⟩ := spot_some hs (by rw [i64sV_len]; omega)
  refine J.skip (J.seq (J.block (J.seq (J.region (JL.mi rfl (JL.ai rfl (JL.nil (J.seq (J.region (JL.mi rfl (JL.ms rfl (JL.mi rfl (JL.g (RX.indexAddr rfl rfl sl23 (by omega) (by omega) (o' := po + i) (by omega)) (JL.g (RX.loadS H hs rfl (j := i) rfl (i64sV_get hxi) one3) (JL.g (RX.eq rfl rfl) (JL.nil (J.cond_d rfl (fun heq => ?_) (fun heq => ?_))))))))))))))))))
  ·
   refine J.seq (J.region (JL.mi rfl (JL.ai rfl (JL.nil (J.ret1 (v := .int _ _) Tryz.func135 rfl rfl ?_)))))
   exact ⟨_, rfl, _, rfl, fun _ => heq ▸ List.mem_of_getElem? hxi, H⟩
  ·
   refine J.skip (J.inBlock (J.region (JL.g (RX.add rfl rfl (wi (n := i + 1) (by omega) (by omega))) (JL.mi rfl (JL.nil ?_)))))
   exact IH (i + 1) _ _ (by omega) ⟨rfl, rfl, rfl, trivial⟩ ⟨rfl, trivial⟩ ⟨by omega, H⟩
 ·
  refine J.exit rfl (J.seq (J.region (JL.g (RX.assign) (JL.nil (J.ret1 (v := .int _ _) Tryz.func135 rfl rfl ?_)))))
  exact ⟨_, rfl, -1, rfl, fun h => absurd h (by decide), H⟩
theorem icont_b {w0 w : World} {F : List Seg} (H : Hp w0 w F) {fl : List Int} {p : Option Addr} {c : Nat} (hs : SlAt F p (i64sV fl)) (hl : fl.length ≤ 1099511627776) {v : Int} : Ret Tryz.prog 107 [.slice p fl.length c, .int .i64 v] w fun u w' => ∃ b, u = .bool b ∧ (b = true → v ∈ fl) ∧ Hp w0 w' F := by
 refine Calls.of_J (n := 9) Tryz.func107 rfl rfl rfl (J.seq (J.region (JL.g (RX.assign) (JL.nil (J.seq (J.region (JL.ms rfl (JL.mi rfl (JL.e (EX.call rfl cl135 rfl ((iindex_b H hs hl))) ?_)))))))))
 rintro _ w ⟨k, rfl, hk, H⟩
 refine JL.g (RX.ge rfl rfl) (JL.ab rfl (JL.nil (J.ret1 (v := .bool _) Tryz.func107 rfl rfl ?_)))
 exact ⟨_, rfl, _, rfl, fun h => hk (by have := of_decide_eq_true h; omega), H⟩
theorem PCheck_b {w0 w : World} {F : List Seg} (H : Hp w0 w F) {fl : List Int} {p : Option Addr} {c : Nat} (hs : SlAt F p (i64sV fl)) (hl : fl.length ≤ 1099511627776) {E : Nat → Value} {Q : Nat → Addr} (hE : Errs F E Q) {d pr : Int} : Ret Tryz.prog 22 [.agg (poV d p fl.length c pr).toArray] w fun v w' => ∃ b, v = e5 E b ∧ (b = true → PolOk d fl pr) ∧ Hp w0 w' F := by
 refine Calls.of_J (n := 44) Tryz.func22 rfl rfl rfl (J.seq (J.region (JL.e (EX.box (v := .agg _) H rfl rfl) ?_)))
 rintro _ w ⟨b1, rfl, H⟩
 refine JL.g (RX.assign) (JL.nil (J.seq (J.seq (J.region (JL.g (RX.fieldAddr rfl fo25_0 rfl) (JL.g (RX.load H rfl (i := 0) (v := .int _ _) rfl rfl one3) (JL.g (RX.lt rfl rfl) (JL.mb rfl (JL.splitS 9 rfl (fun h1 => ?_) (fun h1 => ?_))))))))))
 ·
  first | have h1p := of_decide_eq_true h1 | skip
  refine JL.no ⟨_, rfl, gno h1⟩ (JL.no ⟨_, rfl, gno h1⟩ (JL.no ⟨_, rfl, gno h1⟩ (JL.g (RX.pick_t rfl h1) (JL.mb rfl (JL.no ⟨_, rfl, gno rfl⟩ (JL.no ⟨_, rfl, gno rfl⟩ (JL.no ⟨_, rfl, gno rfl⟩ (JL.g (RX.pick_t rfl rfl) (JL.mb rfl (JL.no ⟨_, rfl, gno rfl⟩ (JL.no ⟨_, rfl, gno rfl⟩ (JL.no ⟨_, rfl, gno rfl⟩ (JL.no ⟨_, rfl, gno rfl⟩ (JL.no ⟨_, rfl, gno rfl⟩ (JL.g (RX.pick_t rfl rfl) (JL.nil (J.cond_t rfl rfl (J.seq (J.region (JL.g (RX.loadG H rfl (hE.at_ 5 (by omega) (by omega)).at_.cons one31) (JL.g (RX.assign) (JL.nil (J.ret1 Tryz.func22 rfl rfl ?_)))))))))))))))))))))))
  exact ⟨_, rfl, false, rfl, fun h => (by cases h), H.drop⟩
 ·
  first | have h1p := of_decide_eq_false h1 | skip
  refine JL.go ⟨_, rfl, h1⟩ (RX.fieldAddr rfl fo25_0 rfl) (JL.go ⟨_, rfl, h1⟩ (RX.load H rfl (i := 0) (v := .int _ _) rfl rfl one3) (JL.go ⟨_, rfl, h1⟩ (RX.gt rfl rfl) (JL.g (RX.pick_f rfl h1) (JL.mb rfl (JL.splitS 14 rfl (fun h2 => ?_) (fun h2 => ?_))))))
  ·
   first | have h2p := of_decide_eq_true h2 | skip
   refine JL.no ⟨_, rfl, gno h2⟩ (JL.no ⟨_, rfl, gno h2⟩ (JL.no ⟨_, rfl, gno h2⟩ (JL.g (RX.pick_t rfl h2) (JL.mb rfl (JL.no ⟨_, rfl, gno rfl⟩ (JL.no ⟨_, rfl, gno rfl⟩ (JL.no ⟨_, rfl, gno rfl⟩ (JL.no ⟨_, rfl, gno rfl⟩ (JL.no ⟨_, rfl, gno rfl⟩ (JL.g (RX.pick_t rfl rfl) (JL.nil (J.cond_t rfl rfl (J.seq (J.region (JL.g (RX.loadG H rfl (hE.at_ 5 (by omega) (by omega)).at_.cons one31) (JL.g (RX.assign) (JL.nil (J.ret1 Tryz.func22 rfl rfl ?_))))))))))))))))))
   exact ⟨_, rfl, false, rfl, fun h => (by cases h), H.drop⟩
  ·
   first | have h2p := of_decide_eq_false h2 | skip
   refine JL.go ⟨_, rfl, h2⟩ (RX.fieldAddr rfl fo25_2 rfl) (JL.go ⟨_, rfl, h2⟩ (RX.load H rfl (i := 0) (v := .int _ _) rfl rfl one3) (JL.go ⟨_, rfl, h2⟩ (RX.lt rfl rfl) (JL.g (RX.pick_f rfl h2) (JL.mb rfl (JL.splitS 19 rfl (fun h3 => ?_) (fun h3 => ?_))))))
   ·
    first | have h3p := of_decide_eq_true h3 | skip
    refine JL.no ⟨_, rfl, gno h3⟩ (JL.no ⟨_, rfl, gno h3⟩ (JL.no ⟨_, rfl, gno h3⟩ (JL.no ⟨_, rfl, gno h3⟩ (JL.no ⟨_, rfl, gno h3⟩ (JL.g (RX.pick_t rfl h3) (JL.nil (J.cond_t rfl rfl (J.seq (J.region (JL.g (RX.loadG H rfl (hE.at_ 5 (by omega) (by omega)).at_.cons one31) (JL.g (RX.assign) (JL.nil (J.ret1 Tryz.func22 rfl rfl ?_)))))))))))))
    exact ⟨_, rfl, false, rfl, fun h => (by cases h), H.drop⟩
   ·
    first | have h3p := of_decide_eq_false h3 | skip
    refine JL.go ⟨_, rfl, h3⟩ (RX.fieldAddr rfl fo25_2 rfl) (JL.go ⟨_, rfl, h3⟩ (RX.load H rfl (i := 0) (v := .int _ _) rfl rfl one3) (JL.go ⟨_, rfl, h3⟩ (RX.fieldAddr rfl fo25_0 rfl) (JL.go ⟨_, rfl, h3⟩ (RX.load H rfl (i := 0) (v := .int _ _) rfl rfl one3) (JL.go ⟨_, rfl, h3⟩ (RX.gt rfl rfl) (JL.g (RX.pick_f rfl h3) (JL.nil (J.cond_d rfl (fun h4 => ?_) (fun h4 => ?_))))))))
    ·
     refine J.seq (J.region (JL.g (RX.loadG H rfl (hE.at_ 5 (by omega) (by omega)).at_.cons one31) (JL.g (RX.assign) (JL.nil (J.ret1 Tryz.func22 rfl rfl ?_)))))
     exact ⟨_, rfl, false, rfl, fun h => (by cases h), H.drop⟩
    ·
     refine J.skip (J.seq (J.region (JL.g (RX.assign) (JL.nil (J.seq (J.seq (J.region (JL.g (RX.fieldAddr rfl fo25_1 rfl) (JL.g (RX.load H rfl (i := 0) (v := .slice _ _ _) rfl rfl one23) (JL.g (RX.len_slice rfl (by rw [sl23]; rfl) rfl) ?_))))))))))
     refine JL.g (RX.move) (JL.nil (J.block (J.loop (ι := Nat × Int) (S := fun z => [(30, .int .i64 ((z.1 : Nat) : Int)), (3, .int .i64 z.2)]) (Φ := fun z w => z.1 ≤ fl.length ∧ 1 ≤ z.2 ∧ (∀ r ∈ fl.take z.1, 2 ≤ r ∧ r ≤ 5) ∧ Hp w0 w ([(b1, cel (poV d p fl.length c pr) 25)] :: F)) (μ := fun z => fl.length - z.1) (C := [(28, _), (29, _)]) (0, 1) ⟨rfl, rfl, trivial⟩ ⟨rfl, rfl, trivial⟩ ?_ ?_)))
     · exact ⟨by simp, by simp, by simp, H⟩
     clear H
     rintro ⟨i, la⟩ ρ w ⟨hi, hla, hall, H⟩ IH
     simp only at hi hla hall H
     dsimp only
     refine J.seq (J.region (JL.g (RX.lt rfl rfl) (JL.nil (J.seq (J.cond_d rfl (fun hlt => ?_) (fun hlt => ?_))))))
     ·
      have hil : i < fl.length := by omega
      obtain ⟨x, hxi⟩ : ∃ x, fl[i]? = some x := ⟨_, List.getElem?_eq_getElem hil⟩
      obtain ⟨pb, po, rfl⟩ := spot_some hs (by rw [i64sV_len]; omega)
      refine J.skip (J.seq (J.block (J.seq (J.region (JL.g (RX.indexAddr rfl rfl sl23 (by omega) (by omega) (o' := po + i) (by omega)) (JL.g (RX.loadS H hs.cons rfl (j := i) rfl (i64sV_get hxi) one3) (JL.ai rfl (JL.nil (J.seq (J.seq (J.region (JL.mi rfl (JL.mi rfl (JL.g (RX.le rfl rfl) (JL.mb rfl (JL.splitS 37 rfl (fun h5 => ?_) (fun h5 => ?_)))))))))))))))))
      ·
       first | have h5p := of_decide_eq_true h5 | skip
       refine JL.no ⟨_, rfl, gno h5⟩ (JL.no ⟨_, rfl, gno h5⟩ (JL.g (RX.pick_t rfl h5) (JL.nil (J.cond_t rfl rfl (J.seq (J.region (JL.g (RX.loadG H rfl (hE.at_ 5 (by omega) (by omega)).at_.cons one31) (JL.g (RX.assign) (JL.nil (J.ret1 Tryz.func22 rfl rfl ?_))))))))))
       exact ⟨_, rfl, false, rfl, fun h => (by cases h), H.drop⟩
      ·
       first | have h5p := of_decide_eq_false h5 | skip
       refine JL.go ⟨_, rfl, h5⟩ (RX.movev (v := .int _ _) rfl) (JL.go ⟨_, rfl, h5⟩ (RX.gt rfl rfl) (JL.g (RX.pick_f rfl h5) (JL.nil (J.cond_d rfl (fun h6 => ?_) (fun h6 => ?_)))))
       ·
        refine J.seq (J.region (JL.g (RX.loadG H rfl (hE.at_ 5 (by omega) (by omega)).at_.cons one31) (JL.g (RX.assign) (JL.nil (J.ret1 Tryz.func22 rfl rfl ?_)))))
        exact ⟨_, rfl, false, rfl, fun h => (by cases h), H.drop⟩
       ·
        refine J.skip (J.region (JL.mi rfl (JL.ai rfl (JL.nil (J.inBlock (J.region (JL.g (RX.add rfl rfl (wi (n := i + 1) (by omega) (by omega))) (JL.mi rfl (JL.nil (IH (i + 1, x) _ _ (by simp only; omega) ⟨rfl, rfl, trivial⟩ ⟨rfl, rfl, trivial⟩ ⟨by simp only; omega, by simp only; omega, fun r hr => ?_, H⟩))))))))))
        rw [take_get hxi] at hr
        rcases List.mem_append.1 hr with hr | hr
        · exact hall r hr
        · obtain rfl := List.mem_singleton.1 hr
          omega
     ·
      obtain rfl : i = fl.length := by omega
      rw [List.take_length] at hall
      refine J.exit rfl (J.seq (J.region (JL.g (RX.assign) (JL.nil (J.ret1 Tryz.func22 rfl rfl ?_)))))
      exact ⟨_, rfl, true, rfl, fun _ => ⟨by omega, by omega, by omega, hall⟩, H.drop⟩
end Oo
end Go.Proofs.YtfaokllgaambjaaGreatDoor
namespace Go.Proofs.YtfaokllgaambjaaGreatDoor
open Go Go.Eng
set_option maxRecDepth 100000
set_option maxHeartbeats 1600000
theorem ag25 : aggOf Tryz.prog 25 = some 3 := by kernel_rfl
theorem cl107 : callable Tryz.prog 107 = true := by kernel_rfl
theorem cl74 : callable Tryz.prog 74 = true := by kernel_rfl
theorem cl75 : callable Tryz.prog 75 = true := by kernel_rfl
theorem cl76 : callable Tryz.prog 76 = true := by kernel_rfl
theorem cl79 : callable Tryz.prog 79 = true := by kernel_rfl
theorem fo96_0 : fieldOff Tryz.prog 96 0 = some 0 := by kernel_rfl
namespace Oo
theorem newCh_b {w0 w : World} {F : List Seg} (H : Hp w0 w F) {d pr : Int} {p : Option Addr} {n c : Nat} : Ret Tryz.prog 23 [.agg (poV d p n c pr).toArray] w fun v w' => ∃ cb m, v = .pointer (some ⟨cb, 0, none⟩) ∧ Hp w0 w' ([(cb, cel (chV d p n c pr m) 96)] :: F) := by
 refine Calls.of_J (n := 7) Tryz.func23 rfl rfl rfl (J.seq (J.region (JL.e (EX.box (v := .agg _) H rfl rfl) ?_)))
 rintro _ w ⟨b1, rfl, H⟩
 refine JL.ap rfl (JL.nil (J.seq (J.region (JL.g (RX.loadAgg H rfl (i := 0) (vs := poV d p n c pr) rfl rfl ag25) (JL.e (EX.makeMap H) ?_)))))
 rintro _ w ⟨mb, rfl, H⟩
 refine JL.g (RX.build (pv := [(0, .agg (poV d p n c pr).toArray), (1, .map (some mb))]) (res := chV d p n c pr (.map (some mb))) rfl (by kernel_rfl)) (JL.e (EX.box (v := .agg _) H rfl rfl) ?_)
 rintro _ w ⟨cb, rfl, H⟩
 refine JL.ap rfl (JL.nil (J.ret1 (v := .pointer _) Tryz.func23 rfl rfl ?_))
 exact ⟨_, rfl, cb, _, rfl, (((H.pull 1 rfl).drop).pull 1 rfl).drop⟩
theorem flies_b {w0 w : World} {F : List Seg} (H : Hp w0 w F) {d pr : Int} {m : Value} {fl : List Int} {p : Option Addr} {c cb : Nat} (hc : SlAt F (some ⟨cb, 0, none⟩) (chV d p fl.length c pr m)) (hs : SlAt F p (i64sV fl)) (hl : fl.length ≤ 1099511627776) {a : Int} : Ret Tryz.prog 75 [.pointer (some ⟨cb, 0, none⟩), .int .i64 a] w fun v w' => ∃ b, v = .bool b ∧ (b = true → a ∈ fl) ∧ Hp w0 w' F := by
 refine Calls.of_J (n := 12) Tryz.func75 rfl rfl rfl (J.seq (J.region (JL.g (RX.assign) (JL.nil (J.seq (J.region (JL.mp rfl (JL.g (RX.nilCheck rfl) (JL.g (RX.fieldAddr rfl fo96_0 rfl) (JL.g (RX.fieldAddr rfl fo25_1 rfl) (JL.g (RX.loadS H hc rfl (j := 1) rfl (v := .slice p fl.length c) rfl one23) (JL.mi rfl (JL.e (EX.call rfl cl107 rfl ((icont_b H hs hl))) ?_)))))))))))))
 rintro _ w ⟨b, rfl, hb, H⟩
 refine JL.ab rfl (JL.nil (J.ret1 (v := .bool _) Tryz.func75 rfl rfl ?_))
 exact ⟨_, rfl, b, rfl, hb, H⟩
theorem factors_b {w0 w : World} {F : List Seg} (H : Hp w0 w F) {n : Nat} (hn : n = 1 ∨ n = 2 ∨ n = 4) : Ret Tryz.prog 79 [.int .i64 ((n : Nat) : Int)] w fun v w' => ∃ k q c s, v = .slice q k c ∧ k ≤ 1000 ∧ OwnSl 3 1 q (k) c (i64sV (List.replicate (k) 2)) s ∧ Hp w0 w' (s :: F) := by
 refine Calls.of_J (n := 37) Tryz.func79 rfl rfl rfl (J.seq (J.region (JL.g (RX.assign) (JL.nil (J.seq (J.region (JL.g (RX.assign) (JL.nil (J.seq (J.seq (J.region (JL.mi rfl (JL.g (RX.lt rfl rfl) (JL.mb rfl (JL.splitS 7 rfl (fun h1 => ?_) (fun h1 => ?_))))))))))))))))
 ·
  first | have h1p := of_decide_eq_true h1 | skip
  refine JL.no ⟨_, rfl, gno h1⟩ (JL.no ⟨_, rfl, gno h1⟩ (JL.g (RX.pick_t rfl h1) (JL.nil (J.cond_t rfl rfl (J.seq (J.region (JL.ms rfl (JL.al rfl (JL.nil (J.ret1 (v := .slice _ _ _) Tryz.func79 rfl rfl ?_))))))))))
  exact ⟨_, rfl, 0, none, 0, [], rfl, by omega, OwnSl.nil, H.nil⟩
 ·
  first | have h1p := of_decide_eq_false h1 | skip
  have hn2 : n = 2 ∨ n = 4 := by omega
  refine JL.go ⟨_, rfl, h1⟩ (RX.movev (v := .int _ _) rfl) (JL.go ⟨_, rfl, h1⟩ (RX.gt rfl rfl) (JL.g (RX.pick_f rfl h1) (JL.nil (J.cond_f rfl (decide_eq_false (by omega)) (J.skip (J.seq (J.seq (J.region (JL.g (RX.assign) (JL.nil (J.block (J.loop (ι := Nat × Nat × Nat × Option Addr × Nat × Seg) (S := fun z => [(4, .int .i64 ((z.1 : Nat) : Int)), (0, .int .i64 ((z.2.1 : Nat) : Int)), (3, .slice z.2.2.2.1 z.2.2.1 z.2.2.2.2.1)]) (Φ := fun z w => ((z.1 = 2 ∧ (z.2.1 = 2 ∨ z.2.1 = 4) ∧ z.2.2.1 = 0) ∨ (z.1 = 3 ∧ z.2.1 = 1)) ∧ z.2.2.1 ≤ 500 ∧ OwnSl 3 1 z.2.2.2.1 (z.2.2.1) z.2.2.2.2.1 (i64sV (List.replicate (z.2.2.1) 2)) z.2.2.2.2.2 ∧ Hp w0 w (z.2.2.2.2.2 :: F)) (μ := fun z => 3 - z.1) (C := []) (2, n, 0, none, 0, []) trivial ⟨rfl, rfl, rfl, trivial⟩ ?_ ?_))))))))))))
  · exact ⟨.inl ⟨rfl, hn2, rfl⟩, by simp, OwnSl.nil, H.nil⟩
  clear H
  rintro ⟨pp, m, k, q, cc, s⟩ ρ w ⟨hpm, hk, ho, H⟩ IH
  simp only at hpm hk ho H
  dsimp only
  refine J.seq (J.seq (J.region (JL.mi rfl (JL.mi rfl (JL.g (RX.mul rfl rfl (w_i64 (r := ((pp * pp : Nat) : Int)) (by simp) (by rcases hpm with ⟨rfl, _⟩ | ⟨rfl, _⟩ <;> decide) (by rcases hpm with ⟨rfl, _⟩ | ⟨rfl, _⟩ <;> decide))) ?_)))))
  refine JL.mi rfl (JL.g (RX.le rfl rfl) (JL.nil (J.cond_d rfl (fun hlt => ?_) (fun hlt => ?_))))
  ·
   obtain ⟨rfl, hm, rfl⟩ : pp = 2 ∧ m = 4 ∧ k = 0 := by
     rcases hpm with ⟨rfl, h, hk0⟩ | ⟨rfl, rfl⟩
     · rcases h with rfl | rfl
       · exact absurd hlt (by decide)
       · exact ⟨rfl, rfl, hk0⟩
     · exact absurd hlt (by decide)
   clear hlt hpm
   refine J.skip (J.seq (J.block (J.block (J.loop (ι := Nat × Nat × Option Addr × Nat × Seg) (S := fun z => [(0, .int .i64 ((z.1 : Nat) : Int)), (3, .slice z.2.2.1 z.2.1 z.2.2.2.1)]) (Φ := fun z w => (z.1 = 4 ∨ z.1 = 2 ∨ z.1 = 1) ∧ z.2.1 + z.1 ≤ 4 ∧ OwnSl 3 1 z.2.2.1 (z.2.1) z.2.2.2.1 (i64sV (List.replicate (z.2.1) 2)) z.2.2.2.2 ∧ Hp w0 w (z.2.2.2.2 :: F)) (μ := fun z => z.1) (C := [(4, _)]) (m, 0, q, cc, s) ⟨rfl, trivial⟩ ⟨rfl, rfl, trivial⟩ ?_ ?_))))
   · exact ⟨.inl hm, by simp only; omega, ho, H⟩
   clear H ho hm
   rintro ⟨m, k1, q, cc, s⟩ ρ w ⟨hm, hk1, ho, H⟩ IH2
   simp only at hm hk1 ho H
   dsimp only
   refine J.seq (J.seq (J.region (JL.mi rfl (JL.mi rfl (JL.g (RX.rem rfl rfl (by decide) (r := ((m % 2 : Nat) : Int)) (Int.tmod_eq_emod_of_nonneg (by omega))) (JL.g (RX.eq rfl rfl) (JL.nil (J.cond_d rfl (fun hev => ?_) (fun hev => ?_)))))))))
   ·
    have hm2 : m = 4 ∨ m = 2 := by omega
    refine J.skip (J.block (J.seq (J.region (JL.ms rfl (JL.mi rfl (JL.e (EX.buildSlice1 H elI rfl rfl) ?_))))))
    rintro _ w ⟨bb, rfl, H⟩
    refine JL.e (EX.append (ys := [.int .i64 2]) (L' := fun s' => [(bb, cel [.int .i64 2] 3)] :: s' :: F) H elI rfl rfl (i := 1) rfl ho (SlAt.here rfl) rfl (i64sV_cell [2]) (by decide) (by omega) (by omega) (fun _ => rfl)) ?_
    rintro _ w ⟨q2, c2, s2, rfl, ho2, H⟩
    replace ho2 : OwnSl 3 1 q2 (k1 + 1) c2 (i64sV (List.replicate (k1 + 1) 2)) s2 := by rw [List.replicate_succ', show i64sV (List.replicate (k1) 2 ++ [2]) = i64sV (List.replicate (k1) 2) ++ [.int .i64 2] by simp [i64sV]]; exact ho2
    refine JL.al rfl (JL.nil (J.region (JL.mi rfl (JL.mi rfl (JL.g (RX.quo rfl rfl (by decide) (r := ((m / 2 : Nat) : Int)) (by rcases hm2 with rfl | rfl <;> decide)) ?_)))))
    refine JL.ai rfl (JL.nil (J.inBlock ?_))
    exact IH2 (m / 2, k1 + 1, q2, c2, s2) _ _ (by simp only; omega) ⟨rfl, trivial⟩ ⟨rfl, rfl, trivial⟩ ⟨by simp only; omega, by simp only; omega, ho2, H.drop⟩
   ·
    obtain rfl : m = 1 := by omega
    refine J.exit rfl (J.inBlock (J.region (JL.mi rfl (JL.g (RX.add rfl rfl (wi (n := 3) (by decide) (by omega))) (JL.ai rfl (JL.nil ?_))))))
    exact IH (3, 1, k1, q, cc, s) _ _ (by simp only; omega) trivial ⟨rfl, rfl, rfl, trivial⟩ ⟨.inr ⟨rfl, rfl⟩, by simp only; omega, ho, H⟩
  ·
   refine J.exit rfl (J.seq (J.seq (J.region (JL.mi rfl (JL.g (RX.gt rfl rfl) (JL.nil (J.cond_d rfl (fun hg => ?_) (fun hg => ?_))))))))
   ·
    obtain rfl : m = 2 := by
      rcases hpm with ⟨rfl, h, _⟩ | ⟨_, rfl⟩
      · rcases h with rfl | rfl
        · rfl
        · exact absurd (by decide) hlt
      · exact absurd hg (by decide)
    refine J.region (JL.ms rfl (JL.mi rfl (JL.e (EX.buildSlice1 H elI rfl rfl) ?_)))
    rintro _ w ⟨bb, rfl, H⟩
    refine JL.e (EX.append (ys := [.int .i64 2]) (L' := fun s' => [(bb, cel [.int .i64 2] 3)] :: s' :: F) H elI rfl rfl (i := 1) rfl ho (SlAt.here rfl) rfl (i64sV_cell [2]) (by decide) (by omega) (by omega) (fun _ => rfl)) ?_
    rintro _ w ⟨q2, c2, s2, rfl, ho2, H⟩
    replace ho2 : OwnSl 3 1 q2 (k + 1) c2 (i64sV (List.replicate (k + 1) 2)) s2 := by rw [List.replicate_succ', show i64sV (List.replicate (k) 2 ++ [2]) = i64sV (List.replicate (k) 2) ++ [.int .i64 2] by simp [i64sV]]; exact ho2
    refine JL.al rfl (JL.nil (J.seq (J.region (JL.ms rfl (JL.al rfl (JL.nil (J.ret1 (v := .slice _ _ _) Tryz.func79 rfl rfl ?_)))))))
    exact ⟨_, rfl, k + 1, q2, c2, s2, rfl, by omega, ho2, H.drop⟩
   ·
    refine J.skip (J.seq (J.region (JL.ms rfl (JL.al rfl (JL.nil (J.ret1 (v := .slice _ _ _) Tryz.func79 rfl rfl ?_))))))
    exact ⟨_, rfl, k, q, cc, s, rfl, by omega, ho, H⟩
theorem hard_b {w0 w : World} {F : List Seg} (H : Hp w0 w F) {d pr : Int} {m : Value} {fl : List Int} {p : Option Addr} {c cb : Nat} (hc : SlAt F (some ⟨cb, 0, none⟩) (chV d p fl.length c pr m)) (hs : SlAt F p (i64sV fl)) (hl : fl.length ≤ 1099511627776) (hpr : 2 ≤ pr) {n : Nat} (hn : n = 1 ∨ n = 2 ∨ n = 4) : Ret Tryz.prog 50 [.pointer (some ⟨cb, 0, none⟩), .int .i64 ((n : Nat) : Int)] w fun v w' => v = .bool false ∧ Hp w0 w' F := by
 refine Calls.of_J (n := 24) Tryz.func50 rfl rfl rfl (J.seq (J.region (JL.g (RX.assign) (JL.nil (J.seq (J.seq (J.region (JL.mi rfl (JL.e (EX.call rfl cl79 rfl ((factors_b H hn))) ?_)))))))))
 rintro _ w ⟨k, q, c2, s, rfl, hk, ho, H⟩
 refine JL.g (RX.len_slice rfl (by rw [sl23]; rfl) rfl) ?_
 refine JL.g (RX.move) (JL.nil (J.block (J.loop (ι := Nat) (S := fun i => [(10, .int .i64 ((i : Nat) : Int))]) (Φ := fun i w => i ≤ k ∧ Hp w0 w (s :: F)) (μ := fun i => k - i) (C := [(0, _), (1, _), (8, _), (9, _)]) 0 ⟨rfl, rfl, rfl, rfl, trivial⟩ ⟨rfl, trivial⟩ ?_ ?_)))
 · exact ⟨by omega, H⟩
 clear H
 rintro i ρ w ⟨hi, H⟩ IH
 refine J.seq (J.region (JL.g (RX.lt rfl rfl) (JL.nil (J.seq (J.cond_d rfl (fun hlt => ?_) (fun hlt => ?_))))))
 ·
  have hil : i < k := by omega
  obtain ⟨pb, po, rfl⟩ := spot_some (ho.slAt (L := F)) (by rw [i64sV_len, List.length_replicate]; omega)
  refine J.skip (J.seq (J.block (J.seq (J.region (JL.g (RX.indexAddr rfl rfl sl23 (by omega) (by omega) (o' := po + i) (by omega)) (JL.g (RX.loadS H ho.slAt rfl (j := i) rfl (i64sV_get (k := 2) (by rw [List.getElem?_replicate, if_pos hil])) one3) ?_))))))
  refine JL.ai rfl (JL.nil (J.seq (J.region (JL.mi rfl (JL.mp rfl (JL.g (RX.nilCheck rfl) (JL.g (RX.fieldAddr rfl fo96_0 rfl) (JL.g (RX.fieldAddr rfl fo25_2 rfl) (JL.g (RX.loadS H hc.cons rfl (j := 2) rfl (v := .int .i64 pr) rfl one3) (JL.g (RX.gt rfl rfl) (JL.nil (J.cond_f rfl (decide_eq_false (by omega)) (J.skip (J.inBlock (J.region (JL.g (RX.add rfl rfl (wi (n := i + 1) (by omega) (by omega))) (JL.mi rfl (JL.nil ?_))))))))))))))))))
  exact IH (i + 1) _ _ (by omega) ⟨rfl, rfl, rfl, rfl, trivial⟩ ⟨rfl, trivial⟩ ⟨by omega, H⟩
 ·
  refine J.exit rfl (J.seq (J.region (JL.g (RX.assign) (JL.nil (J.ret1 (v := .bool _) Tryz.func50 rfl rfl ?_)))))
  exact ⟨_, rfl, rfl, H.drop⟩
theorem lf_ok {a : Nat} {f : Bool} (ha : a = 1 ∨ a = 2 ∨ a = 4) (h : f = true → 2 ≤ a) : (Od.lf f a).ok := by
 show (f = false ∧ a = 1) ∨ a = 2 ∨ a = 4
 cases f with
 | false => rcases ha with h | h | h <;> simp [h]
 | true => have := h rfl; omega
theorem heads_b {w0 w : World} {F : List Seg} (H : Hp w0 w F) {d pr : Int} {m : Value} {fl : List Int} {p : Option Addr} {c cb : Nat} (hc : SlAt F (some ⟨cb, 0, none⟩) (chV d p fl.length c pr m)) (hs : SlAt F p (i64sV fl)) (hl : fl.length ≤ 1099511627776) (hfl : ∀ r ∈ fl, 2 ≤ r ∧ r ≤ 5) {a : Nat} (ha : a = 1 ∨ a = 2 ∨ a = 4) : Ret Tryz.prog 46 [.pointer (some ⟨cb, 0, none⟩), .int .i64 ((a : Nat) : Int)] w fun v w' => ∃ fs q c2 s, v = .slice q (List.length fs) c2 ∧ fs.length ≤ 2 ∧ (∀ f ∈ fs, (Od.lf f a).ok) ∧ OwnSl 39 3 q (fs).length c2 (hdV a (fs)) s ∧ Hp w0 w' (s :: F) := by
 refine Calls.of_J (n := 27) Tryz.func46 rfl rfl rfl (J.seq (J.region (JL.g (RX.assign) (JL.nil (J.seq (J.region (JL.al rfl (JL.nil (J.seq (J.seq (J.region (JL.mi rfl (JL.mp rfl (JL.g (RX.nilCheck rfl) (JL.g (RX.fieldAddr rfl fo96_0 rfl) (JL.g (RX.fieldAddr rfl fo25_0 rfl) (JL.g (RX.loadS H hc rfl (j := 0) rfl (v := .int .i64 d) rfl one3) (JL.g (RX.le rfl rfl) (JL.nil (J.join (ι := List Bool × Option Addr × Nat × Seg) (fun z => [(5, .slice z.2.1 (List.length z.1) z.2.2.1)]) (fun z w => z.1.length ≤ 1 ∧ (∀ f ∈ z.1, f = false) ∧ OwnSl 39 3 z.2.1 (z.1).length z.2.2.1 (hdV a (z.1)) z.2.2.2 ∧ Hp w0 w (z.2.2.2 :: F)) [(0, _), (1, _)] ⟨rfl, rfl, trivial⟩ ?_ ?_))))))))))))))))))))
 rotate_left
 ·
  intro k2 hk2
  refine J.cond_d rfl (fun hd => ?_) (fun hd => ?_)
  ·
   refine J.region (JL.ms rfl (JL.mi rfl (JL.e (EX.call rfl cl74 rfl ((Direct_b H.nil (n := ((a : Nat) : Int))))) ?_)))
   rintro _ w ⟨rfl, H⟩
   refine JL.e (EX.buildSlice (pv := [(0, .agg (tv 1 ((a : Nat) : Int) none 0 0).toArray)]) (l := tv 1 ((a : Nat) : Int) none 0 0) (e := 39) H rfl (by kernel_rfl)) ?_
   rintro _ w ⟨bb, rfl, H⟩
   refine JL.e (EX.append (ys := tv 1 ((a : Nat) : Int) none 0 0) (L' := fun s' => [(bb, cel (tv 1 ((a : Nat) : Int) none 0 0) 39)] :: s' :: F) H elO rfl rfl (i := 1) rfl OwnSl.nil (SlAt.here rfl) rfl tv_cell (by decide) (by omega) (by omega) (fun _ => rfl)) ?_
   rintro _ w ⟨q2, c2, s2, rfl, ho2, H⟩
   refine JL.al rfl (JL.nil ?_)
   first
   | exact hk2 ([false], q2, c2, s2) _ _ ⟨rfl, rfl, trivial⟩ ⟨rfl, trivial⟩ ⟨by simp, by simp, ho2, H.drop⟩
   | exact hk2 ([], none, 0, []) _ _ ⟨rfl, rfl, trivial⟩ ⟨rfl, trivial⟩ ⟨by simp, by simp, OwnSl.nil, H.nil⟩
  ·
   refine J.skip ?_
   first
   | exact hk2 ([false], q2, c2, s2) _ _ ⟨rfl, rfl, trivial⟩ ⟨rfl, trivial⟩ ⟨by simp, by simp, ho2, H.drop⟩
   | exact hk2 ([], none, 0, []) _ _ ⟨rfl, rfl, trivial⟩ ⟨rfl, trivial⟩ ⟨by simp, by simp, OwnSl.nil, H.nil⟩
 ·
  clear H
  rintro ⟨fs, q, c2, s⟩ ρ w ⟨hf1, hf2, ho, H⟩
  simp only at hf1 hf2 ho H
  try dsimp only
  refine J.seq (J.seq (J.region (JL.mp rfl (JL.mi rfl (JL.e (EX.call rfl cl75 rfl ((flies_b H hc.cons hs.cons hl))) ?_)))))
  rintro _ w ⟨b, rfl, hb, H⟩
  refine JL.nil (J.cond rfl (fun hbt => ?_) (fun hbt => ?_))
  ·
   refine J.region (JL.ms rfl (JL.mi rfl (JL.e (EX.call rfl cl76 rfl ((Fly_b H (n := ((a : Nat) : Int))))) ?_)))
   rintro _ w ⟨rfl, H⟩
   refine JL.e (EX.buildSlice (pv := [(0, .agg (tv 2 ((a : Nat) : Int) none 0 0).toArray)]) (l := tv 2 ((a : Nat) : Int) none 0 0) (e := 39) H rfl (by kernel_rfl)) ?_
   rintro _ w ⟨bb, rfl, H⟩
   refine JL.e (EX.append (ys := tv 2 ((a : Nat) : Int) none 0 0) (L' := fun s' => [(bb, cel (tv 2 ((a : Nat) : Int) none 0 0) 39)] :: s' :: F) H elO rfl rfl (i := 1) rfl ho (SlAt.here rfl) rfl tv_cell (by decide) (by omega) (by omega) (fun _ => rfl)) ?_
   rintro _ w ⟨q2, c2, s2, rfl, ho2, H⟩
   refine JL.al rfl (JL.nil (J.seq (J.region (JL.ms rfl (JL.al rfl (JL.nil (J.ret1 Tryz.func46 rfl rfl ?_)))))))
   have hm := hfl _ (hb hbt)
   exact ⟨_, rfl, fs ++ [true], q2, c2, s2, by rw [List.length_append]; rfl, by rw [List.length_append]; simp; omega, fun f hf => lf_ok ha fun _ => by omega, by rw [hdV_add, List.length_append]; exact ho2, H.drop⟩
  ·
   refine J.skip (J.seq (J.region (JL.ms rfl (JL.al rfl (JL.nil (J.ret1 Tryz.func46 rfl rfl ?_))))))
   exact ⟨_, rfl, fs, q, c2, s, rfl, by omega, fun f hf => lf_ok ha fun h => (by rw [hf2 f hf] at h; cases h), ho, H⟩
def YD (l : Nat) (A : Nat → List Seg → Prop) (w0 : World) (ds : List Int) (F : List Seg) : Prop := ∀ (i : Nat) (G X : List Seg) (W : World) (x : Int), ds[i]? = some x → A i G → Hp w0 W (X ++ (G ++ F)) →
  YieldAt Fence.wide 0 Tryz.prog l #[.int .i64 x] W fun e W' => ∃ v, e = .returned v ∧ v = .bool true ∧ ∃ G', A (i + 1) G' ∧ Hp w0 W' (X ++ (G' ++ F))
theorem slAp {X Y : List Seg} {p : Option Addr} {xs : List Value} (h : SlAt X p xs) : SlAt (X ++ Y) p xs := h.perm fun e he => by
  rw [List.flatten_append]; exact List.mem_append_left _ he
theorem Divs_b {w0 w : World} {F : List Seg} (H : Hp w0 w F) {n : Int} : Ret Tryz.prog 47 [.int .i64 n] w fun v w' => ∃ nb, v = .func (.func 77) #[] #[.pointer (some ⟨nb, 0, none⟩)] ∧ Hp w0 w' ([(nb, cel [.int .i64 n] 3)] :: F) := by
 refine Calls.of_J (n := 4) Tryz.func47 rfl rfl rfl (J.seq (J.region (JL.e (EX.box (v := .int _ _) H rfl rfl) ?_)))
 rintro _ w ⟨nb, rfl, H⟩
 refine JL.g (RX.assignv (v := .nilFunc) rfl) (JL.nil (J.seq (J.region (JL.g (RX.makeFunc (fv := []) (cv := [.pointer (some ⟨nb, 0, none⟩)]) rfl rfl) (JL.g (RX.assignv (v := .func _ _ _) rfl) (JL.nil (J.ret1 Tryz.func47 rfl rfl ?_)))))))
 exact ⟨_, rfl, nb, rfl, H⟩
theorem divs1_b {w0 w : World} {X F G0 : List Seg} {l nb : Nat} {A : Nat → List Seg → Prop} (hY : YD l A w0 [1] F) (hb : SlAt X (some ⟨nb, 0, none⟩) [.int .i64 1]) (hA0 : A 0 G0) (H : Hp w0 w (X ++ (G0 ++ F))) : Ret Tryz.prog 77 [.func (.yield l) #[] #[], .pointer (some ⟨nb, 0, none⟩)] w fun _ w' => ∃ G', A 1 G' ∧ Hp w0 w' (X ++ (G' ++ F)) := by
 refine Calls.of_J (n := 50) Tryz.func77 rfl rfl rfl (J.seq (J.seq (J.region (JL.g (RX.loadS H (slAp hb) rfl (j := 0) rfl (v := .int .i64 1) rfl one3) (JL.g (RX.lt rfl rfl) (JL.mb rfl (JL.go ⟨_, rfl, (decide_eq_false (by decide))⟩ (RX.loadS H (slAp hb) rfl (j := 0) rfl (v := .int .i64 1) rfl one3) (JL.go ⟨_, rfl, (decide_eq_false (by decide))⟩ (RX.gt rfl rfl) (JL.g (RX.pick_f rfl (decide_eq_false (by decide))) (JL.nil (J.cond_f rfl (decide_eq_false (by decide)) (J.skip (J.seq (J.region (JL.g (RX.assign) (JL.nil (J.seq (J.block (J.unroll (J.seq (J.seq (J.region (JL.mi rfl (JL.mi rfl (JL.g (RX.mul rfl rfl (wi (n := 1) (by decide) (by omega))) (JL.g (RX.loadS H (slAp hb) rfl (j := 0) rfl (v := .int .i64 1) rfl one3) (JL.g (RX.lt rfl rfl) (JL.nil (J.cond_f rfl (by decide) (J.exit rfl (J.block (J.unroll (J.seq (J.seq (J.region (JL.mi rfl (JL.g (RX.gt rfl rfl) (JL.nil (J.cond_t rfl (by decide) (J.skip (J.seq (J.block (J.seq (J.regionY (FL.go fair_wide rfl trivial (RX.loadS H (slAp hb) rfl (j := 0) rfl (v := .int .i64 1) rfl one3) (FL.go fair_wide rfl trivial (RX.movev (v := .int _ _) rfl) (FL.go fair_wide rfl trivial (RX.rem rfl rfl (by decide) (r := 0) (by decide)) (FL.go fair_wide rfl trivial (RX.eq rfl rfl) (FL.go fair_wide rfl trivial (RX.movev (v := .bool _) rfl) (FL.go fair_wide rfl ⟨_, rfl, (decide_eq_true (by decide))⟩ (RX.loadS H (slAp hb) rfl (j := 0) rfl (v := .int .i64 1) rfl one3) (FL.go fair_wide rfl ⟨_, rfl, (decide_eq_true (by decide))⟩ (RX.movev (v := .int _ _) rfl) (FL.go fair_wide rfl ⟨_, rfl, (decide_eq_true (by decide))⟩ (RX.quo rfl rfl (by decide) (r := 1) (by decide)) (FL.go fair_wide rfl ⟨_, rfl, (decide_eq_true (by decide))⟩ (RX.movev (v := .int _ _) rfl) (FL.go fair_wide rfl ⟨_, rfl, (decide_eq_true (by decide))⟩ (RX.ge rfl rfl) (FL.go fair_wide rfl trivial (RX.pick_t rfl (decide_eq_true (by decide))) (FL.go fair_wide rfl trivial (RX.movev (v := .bool _) rfl) (FL.go fair_wide rfl ⟨_, rfl, (decide_eq_true (by decide))⟩ (RX.movev (v := .func _ _ _) rfl) (FL.go fair_wide rfl ⟨_, rfl, (decide_eq_true (by decide))⟩ (RX.loadS H (slAp hb) rfl (j := 0) rfl (v := .int .i64 1) rfl one3) (FL.go fair_wide rfl ⟨_, rfl, (decide_eq_true (by decide))⟩ (RX.movev (v := .int _ _) rfl) (FL.go fair_wide rfl ⟨_, rfl, (decide_eq_true (by decide))⟩ (RX.quo rfl rfl (by decide) (r := 1) (by decide)) (FL.doesIn fair_wide rfl ⟨_, rfl, (decide_eq_true (by decide))⟩ (EX.yield rfl rfl ((hY 0 G0 X _ 1 rfl hA0 H))) ?_)))))))))))))))))))))))))))))))))))))))))))))))))))))))))))))
 rintro _ w ⟨rfl, G1, hA1, H⟩
 refine FL.go fair_wide rfl ⟨_, rfl, (decide_eq_true (by decide))⟩ (RX.not rfl) (FL.go fair_wide rfl trivial (RX.pick_t rfl (decide_eq_true (by decide))) (FL.nilJ (J.cond_f rfl rfl (J.skip (J.inBlock (J.region (JL.mi rfl (JL.g (RX.sub rfl rfl (wi (n := 0) (by decide) (by omega))) (JL.ai rfl (JL.nil (J.again (J.seq (J.seq (J.region (JL.mi rfl (JL.g (RX.gt rfl rfl) (JL.nil (J.cond_f rfl (by decide) (J.exit rfl (J.end0 Tryz.func77 rfl ?_))))))))))))))))))))
 exact ⟨_, rfl, G1, hA1, H⟩
theorem divs2_b {w0 w : World} {X F G0 : List Seg} {l nb : Nat} {A : Nat → List Seg → Prop} (hY : YD l A w0 [1, 2] F) (hb : SlAt X (some ⟨nb, 0, none⟩) [.int .i64 2]) (hA0 : A 0 G0) (H : Hp w0 w (X ++ (G0 ++ F))) : Ret Tryz.prog 77 [.func (.yield l) #[] #[], .pointer (some ⟨nb, 0, none⟩)] w fun _ w' => ∃ G', A 2 G' ∧ Hp w0 w' (X ++ (G' ++ F)) := by
 refine Calls.of_J (n := 50) Tryz.func77 rfl rfl rfl (J.seq (J.seq (J.region (JL.g (RX.loadS H (slAp hb) rfl (j := 0) rfl (v := .int .i64 2) rfl one3) (JL.g (RX.lt rfl rfl) (JL.mb rfl (JL.go ⟨_, rfl, (decide_eq_false (by decide))⟩ (RX.loadS H (slAp hb) rfl (j := 0) rfl (v := .int .i64 2) rfl one3) (JL.go ⟨_, rfl, (decide_eq_false (by decide))⟩ (RX.gt rfl rfl) (JL.g (RX.pick_f rfl (decide_eq_false (by decide))) (JL.nil (J.cond_f rfl (decide_eq_false (by decide)) (J.skip (J.seq (J.region (JL.g (RX.assign) (JL.nil (J.seq (J.block (J.unroll (J.seq (J.seq (J.region (JL.mi rfl (JL.mi rfl (JL.g (RX.mul rfl rfl (wi (n := 1) (by decide) (by omega))) (JL.g (RX.loadS H (slAp hb) rfl (j := 0) rfl (v := .int .i64 2) rfl one3) (JL.g (RX.lt rfl rfl) (JL.nil (J.cond_t rfl (by decide) (J.skip (J.seq (J.block (J.seq (J.regionY (FL.go fair_wide rfl trivial (RX.loadS H (slAp hb) rfl (j := 0) rfl (v := .int .i64 2) rfl one3) (FL.go fair_wide rfl trivial (RX.movev (v := .int _ _) rfl) (FL.go fair_wide rfl trivial (RX.rem rfl rfl (by decide) (r := 0) (by decide)) (FL.go fair_wide rfl trivial (RX.eq rfl rfl) (FL.go fair_wide rfl trivial (RX.movev (v := .bool _) rfl) (FL.go fair_wide rfl ⟨_, rfl, (decide_eq_true (by decide))⟩ (RX.movev (v := .func _ _ _) rfl) (FL.go fair_wide rfl ⟨_, rfl, (decide_eq_true (by decide))⟩ (RX.movev (v := .int _ _) rfl) (FL.doesIn fair_wide rfl ⟨_, rfl, (decide_eq_true (by decide))⟩ (EX.yield rfl rfl ((hY 0 G0 X _ 1 rfl hA0 H))) ?_))))))))))))))))))))))))))))))))))))))))))
 rintro _ w ⟨rfl, G1, hA1, H⟩
 refine FL.go fair_wide rfl ⟨_, rfl, (decide_eq_true (by decide))⟩ (RX.not rfl) (FL.go fair_wide rfl trivial (RX.pick_t rfl (decide_eq_true (by decide))) (FL.nilJ (J.cond_f rfl rfl (J.skip (J.inBlock (J.region (JL.mi rfl (JL.g (RX.add rfl rfl (wi (n := 2) (by decide) (by omega))) (JL.ai rfl (JL.nil (J.again (J.seq (J.seq (J.region (JL.mi rfl (JL.mi rfl (JL.g (RX.mul rfl rfl (wi (n := 4) (by decide) (by omega))) (JL.g (RX.loadS H (slAp hb) rfl (j := 0) rfl (v := .int .i64 2) rfl one3) (JL.g (RX.lt rfl rfl) (JL.nil (J.cond_f rfl (by decide) (J.exit rfl (J.block (J.unroll (J.seq (J.seq (J.region (JL.mi rfl (JL.g (RX.gt rfl rfl) (JL.nil (J.cond_t rfl (by decide) (J.skip (J.seq (J.block (J.seq (J.regionY (FL.go fair_wide rfl trivial (RX.loadS H (slAp hb) rfl (j := 0) rfl (v := .int .i64 2) rfl one3) (FL.go fair_wide rfl trivial (RX.movev (v := .int _ _) rfl) (FL.go fair_wide rfl trivial (RX.rem rfl rfl (by decide) (r := 0) (by decide)) (FL.go fair_wide rfl trivial (RX.eq rfl rfl) (FL.go fair_wide rfl trivial (RX.movev (v := .bool _) rfl) (FL.go fair_wide rfl ⟨_, rfl, (decide_eq_true (by decide))⟩ (RX.loadS H (slAp hb) rfl (j := 0) rfl (v := .int .i64 2) rfl one3) (FL.go fair_wide rfl ⟨_, rfl, (decide_eq_true (by decide))⟩ (RX.movev (v := .int _ _) rfl) (FL.go fair_wide rfl ⟨_, rfl, (decide_eq_true (by decide))⟩ (RX.quo rfl rfl (by decide) (r := 1) (by decide)) (FL.go fair_wide rfl ⟨_, rfl, (decide_eq_true (by decide))⟩ (RX.movev (v := .int _ _) rfl) (FL.go fair_wide rfl ⟨_, rfl, (decide_eq_true (by decide))⟩ (RX.ge rfl rfl) (FL.go fair_wide rfl trivial (RX.pick_t rfl (decide_eq_true (by decide))) (FL.go fair_wide rfl trivial (RX.movev (v := .bool _) rfl) (FL.no fair_wide ⟨_, rfl, gno (decide_eq_false (by decide))⟩ (FL.no fair_wide ⟨_, rfl, gno (decide_eq_false (by decide))⟩ (FL.no fair_wide ⟨_, rfl, gno (decide_eq_false (by decide))⟩ (FL.no fair_wide ⟨_, rfl, gno (decide_eq_false (by decide))⟩ (FL.no fair_wide ⟨_, rfl, gno (decide_eq_false (by decide))⟩ (FL.no fair_wide ⟨_, rfl, gno (decide_eq_false (by decide))⟩ (FL.go fair_wide rfl trivial (RX.pick_f rfl (decide_eq_false (by decide))) (FL.nilJ (J.cond_f rfl rfl (J.skip (J.inBlock (J.region (JL.mi rfl (JL.g (RX.sub rfl rfl (wi (n := 1) (by decide) (by omega))) (JL.ai rfl (JL.nil (J.again (J.seq (J.seq (J.region (JL.mi rfl (JL.g (RX.gt rfl rfl) (JL.nil (J.cond_t rfl (by decide) (J.skip (J.seq (J.block (J.seq (J.regionY (FL.go fair_wide rfl trivial (RX.loadS H (slAp hb) rfl (j := 0) rfl (v := .int .i64 2) rfl one3) (FL.go fair_wide rfl trivial (RX.movev (v := .int _ _) rfl) (FL.go fair_wide rfl trivial (RX.rem rfl rfl (by decide) (r := 0) (by decide)) (FL.go fair_wide rfl trivial (RX.eq rfl rfl) (FL.go fair_wide rfl trivial (RX.movev (v := .bool _) rfl) (FL.go fair_wide rfl ⟨_, rfl, (decide_eq_true (by decide))⟩ (RX.loadS H (slAp hb) rfl (j := 0) rfl (v := .int .i64 2) rfl one3) (FL.go fair_wide rfl ⟨_, rfl, (decide_eq_true (by decide))⟩ (RX.movev (v := .int _ _) rfl) (FL.go fair_wide rfl ⟨_, rfl, (decide_eq_true (by decide))⟩ (RX.quo rfl rfl (by decide) (r := 2) (by decide)) (FL.go fair_wide rfl ⟨_, rfl, (decide_eq_true (by decide))⟩ (RX.movev (v := .int _ _) rfl) (FL.go fair_wide rfl ⟨_, rfl, (decide_eq_true (by decide))⟩ (RX.ge rfl rfl) (FL.go fair_wide rfl trivial (RX.pick_t rfl (decide_eq_true (by decide))) (FL.go fair_wide rfl trivial (RX.movev (v := .bool _) rfl) (FL.go fair_wide rfl ⟨_, rfl, (decide_eq_true (by decide))⟩ (RX.movev (v := .func _ _ _) rfl) (FL.go fair_wide rfl ⟨_, rfl, (decide_eq_true (by decide))⟩ (RX.loadS H (slAp hb) rfl (j := 0) rfl (v := .int .i64 2) rfl one3) (FL.go fair_wide rfl ⟨_, rfl, (decide_eq_true (by decide))⟩ (RX.movev (v := .int _ _) rfl) (FL.go fair_wide rfl ⟨_, rfl, (decide_eq_true (by decide))⟩ (RX.quo rfl rfl (by decide) (r := 2) (by decide)) (FL.doesIn fair_wide rfl ⟨_, rfl, (decide_eq_true (by decide))⟩ (EX.yield rfl rfl ((hY 1 G1 X _ 2 rfl hA1 H))) ?_))))))))))))))))))))))))))))))))))))))))))))))))))))))))))))))))))))))))))))))))))))))))))))))
 rintro _ w ⟨rfl, G2, hA2, H⟩
 refine FL.go fair_wide rfl ⟨_, rfl, (decide_eq_true (by decide))⟩ (RX.not rfl) (FL.go fair_wide rfl trivial (RX.pick_t rfl (decide_eq_true (by decide))) (FL.nilJ (J.cond_f rfl rfl (J.skip (J.inBlock (J.region (JL.mi rfl (JL.g (RX.sub rfl rfl (wi (n := 0) (by decide) (by omega))) (JL.ai rfl (JL.nil (J.again (J.seq (J.seq (J.region (JL.mi rfl (JL.g (RX.gt rfl rfl) (JL.nil (J.cond_f rfl (by decide) (J.exit rfl (J.end0 Tryz.func77 rfl ?_))))))))))))))))))))
 exact ⟨_, rfl, G2, hA2, H⟩
theorem divs4_b {w0 w : World} {X F G0 : List Seg} {l nb : Nat} {A : Nat → List Seg → Prop} (hY : YD l A w0 [1, 2, 4] F) (hb : SlAt X (some ⟨nb, 0, none⟩) [.int .i64 4]) (hA0 : A 0 G0) (H : Hp w0 w (X ++ (G0 ++ F))) : Ret Tryz.prog 77 [.func (.yield l) #[] #[], .pointer (some ⟨nb, 0, none⟩)] w fun _ w' => ∃ G', A 3 G' ∧ Hp w0 w' (X ++ (G' ++ F)) := by
 refine Calls.of_J (n := 50) Tryz.func77 rfl rfl rfl (J.seq (J.seq (J.region (JL.g (RX.loadS H (slAp hb) rfl (j := 0) rfl (v := .int .i64 4) rfl one3) (JL.g (RX.lt rfl rfl) (JL.mb rfl (JL.go ⟨_, rfl, (decide_eq_false (by decide))⟩ (RX.loadS H (slAp hb) rfl (j := 0) rfl (v := .int .i64 4) rfl one3) (JL.go ⟨_, rfl, (decide_eq_false (by decide))⟩ (RX.gt rfl rfl) (JL.g (RX.pick_f rfl (decide_eq_false (by decide))) (JL.nil (J.cond_f rfl (decide_eq_false (by decide)) (J.skip (J.seq (J.region (JL.g (RX.assign) (JL.nil (J.seq (J.block (J.unroll (J.seq (J.seq (J.region (JL.mi rfl (JL.mi rfl (JL.g (RX.mul rfl rfl (wi (n := 1) (by decide) (by omega))) (JL.g (RX.loadS H (slAp hb) rfl (j := 0) rfl (v := .int .i64 4) rfl one3) (JL.g (RX.lt rfl rfl) (JL.nil (J.cond_t rfl (by decide) (J.skip (J.seq (J.block (J.seq (J.regionY (FL.go fair_wide rfl trivial (RX.loadS H (slAp hb) rfl (j := 0) rfl (v := .int .i64 4) rfl one3) (FL.go fair_wide rfl trivial (RX.movev (v := .int _ _) rfl) (FL.go fair_wide rfl trivial (RX.rem rfl rfl (by decide) (r := 0) (by decide)) (FL.go fair_wide rfl trivial (RX.eq rfl rfl) (FL.go fair_wide rfl trivial (RX.movev (v := .bool _) rfl) (FL.go fair_wide rfl ⟨_, rfl, (decide_eq_true (by decide))⟩ (RX.movev (v := .func _ _ _) rfl) (FL.go fair_wide rfl ⟨_, rfl, (decide_eq_true (by decide))⟩ (RX.movev (v := .int _ _) rfl) (FL.doesIn fair_wide rfl ⟨_, rfl, (decide_eq_true (by decide))⟩ (EX.yield rfl rfl ((hY 0 G0 X _ 1 rfl hA0 H))) ?_))))))))))))))))))))))))))))))))))))))))))
 rintro _ w ⟨rfl, G1, hA1, H⟩
 refine FL.go fair_wide rfl ⟨_, rfl, (decide_eq_true (by decide))⟩ (RX.not rfl) (FL.go fair_wide rfl trivial (RX.pick_t rfl (decide_eq_true (by decide))) (FL.nilJ (J.cond_f rfl rfl (J.skip (J.inBlock (J.region (JL.mi rfl (JL.g (RX.add rfl rfl (wi (n := 2) (by decide) (by omega))) (JL.ai rfl (JL.nil (J.again (J.seq (J.seq (J.region (JL.mi rfl (JL.mi rfl (JL.g (RX.mul rfl rfl (wi (n := 4) (by decide) (by omega))) (JL.g (RX.loadS H (slAp hb) rfl (j := 0) rfl (v := .int .i64 4) rfl one3) (JL.g (RX.lt rfl rfl) (JL.nil (J.cond_f rfl (by decide) (J.exit rfl (J.block (J.unroll (J.seq (J.seq (J.region (JL.mi rfl (JL.g (RX.gt rfl rfl) (JL.nil (J.cond_t rfl (by decide) (J.skip (J.seq (J.block (J.seq (J.regionY (FL.go fair_wide rfl trivial (RX.loadS H (slAp hb) rfl (j := 0) rfl (v := .int .i64 4) rfl one3) (FL.go fair_wide rfl trivial (RX.movev (v := .int _ _) rfl) (FL.go fair_wide rfl trivial (RX.rem rfl rfl (by decide) (r := 0) (by decide)) (FL.go fair_wide rfl trivial (RX.eq rfl rfl) (FL.go fair_wide rfl trivial (RX.movev (v := .bool _) rfl) (FL.go fair_wide rfl ⟨_, rfl, (decide_eq_true (by decide))⟩ (RX.loadS H (slAp hb) rfl (j := 0) rfl (v := .int .i64 4) rfl one3) (FL.go fair_wide rfl ⟨_, rfl, (decide_eq_true (by decide))⟩ (RX.movev (v := .int _ _) rfl) (FL.go fair_wide rfl ⟨_, rfl, (decide_eq_true (by decide))⟩ (RX.quo rfl rfl (by decide) (r := 2) (by decide)) (FL.go fair_wide rfl ⟨_, rfl, (decide_eq_true (by decide))⟩ (RX.movev (v := .int _ _) rfl) (FL.go fair_wide rfl ⟨_, rfl, (decide_eq_true (by decide))⟩ (RX.ge rfl rfl) (FL.go fair_wide rfl trivial (RX.pick_t rfl (decide_eq_true (by decide))) (FL.go fair_wide rfl trivial (RX.movev (v := .bool _) rfl) (FL.go fair_wide rfl ⟨_, rfl, (decide_eq_true (by decide))⟩ (RX.movev (v := .func _ _ _) rfl) (FL.go fair_wide rfl ⟨_, rfl, (decide_eq_true (by decide))⟩ (RX.loadS H (slAp hb) rfl (j := 0) rfl (v := .int .i64 4) rfl one3) (FL.go fair_wide rfl ⟨_, rfl, (decide_eq_true (by decide))⟩ (RX.movev (v := .int _ _) rfl) (FL.go fair_wide rfl ⟨_, rfl, (decide_eq_true (by decide))⟩ (RX.quo rfl rfl (by decide) (r := 2) (by decide)) (FL.doesIn fair_wide rfl ⟨_, rfl, (decide_eq_true (by decide))⟩ (EX.yield rfl rfl ((hY 1 G1 X _ 2 rfl hA1 H))) ?_)))))))))))))))))))))))))))))))))))))))))))))))))))))
 rintro _ w ⟨rfl, G2, hA2, H⟩
 refine FL.go fair_wide rfl ⟨_, rfl, (decide_eq_true (by decide))⟩ (RX.not rfl) (FL.go fair_wide rfl trivial (RX.pick_t rfl (decide_eq_true (by decide))) (FL.nilJ (J.cond_f rfl rfl (J.skip (J.inBlock (J.region (JL.mi rfl (JL.g (RX.sub rfl rfl (wi (n := 1) (by decide) (by omega))) (JL.ai rfl (JL.nil (J.again (J.seq (J.seq (J.region (JL.mi rfl (JL.g (RX.gt rfl rfl) (JL.nil (J.cond_t rfl (by decide) (J.skip (J.seq (J.block (J.seq (J.regionY (FL.go fair_wide rfl trivial (RX.loadS H (slAp hb) rfl (j := 0) rfl (v := .int .i64 4) rfl one3) (FL.go fair_wide rfl trivial (RX.movev (v := .int _ _) rfl) (FL.go fair_wide rfl trivial (RX.rem rfl rfl (by decide) (r := 0) (by decide)) (FL.go fair_wide rfl trivial (RX.eq rfl rfl) (FL.go fair_wide rfl trivial (RX.movev (v := .bool _) rfl) (FL.go fair_wide rfl ⟨_, rfl, (decide_eq_true (by decide))⟩ (RX.loadS H (slAp hb) rfl (j := 0) rfl (v := .int .i64 4) rfl one3) (FL.go fair_wide rfl ⟨_, rfl, (decide_eq_true (by decide))⟩ (RX.movev (v := .int _ _) rfl) (FL.go fair_wide rfl ⟨_, rfl, (decide_eq_true (by decide))⟩ (RX.quo rfl rfl (by decide) (r := 4) (by decide)) (FL.go fair_wide rfl ⟨_, rfl, (decide_eq_true (by decide))⟩ (RX.movev (v := .int _ _) rfl) (FL.go fair_wide rfl ⟨_, rfl, (decide_eq_true (by decide))⟩ (RX.ge rfl rfl) (FL.go fair_wide rfl trivial (RX.pick_t rfl (decide_eq_true (by decide))) (FL.go fair_wide rfl trivial (RX.movev (v := .bool _) rfl) (FL.go fair_wide rfl ⟨_, rfl, (decide_eq_true (by decide))⟩ (RX.movev (v := .func _ _ _) rfl) (FL.go fair_wide rfl ⟨_, rfl, (decide_eq_true (by decide))⟩ (RX.loadS H (slAp hb) rfl (j := 0) rfl (v := .int .i64 4) rfl one3) (FL.go fair_wide rfl ⟨_, rfl, (decide_eq_true (by decide))⟩ (RX.movev (v := .int _ _) rfl) (FL.go fair_wide rfl ⟨_, rfl, (decide_eq_true (by decide))⟩ (RX.quo rfl rfl (by decide) (r := 4) (by decide)) (FL.doesIn fair_wide rfl ⟨_, rfl, (decide_eq_true (by decide))⟩ (EX.yield rfl rfl ((hY 2 G2 X _ 4 rfl hA2 H))) ?_))))))))))))))))))))))))))))))))))))))))
 rintro _ w ⟨rfl, G3, hA3, H⟩
 refine FL.go fair_wide rfl ⟨_, rfl, (decide_eq_true (by decide))⟩ (RX.not rfl) (FL.go fair_wide rfl trivial (RX.pick_t rfl (decide_eq_true (by decide))) (FL.nilJ (J.cond_f rfl rfl (J.skip (J.inBlock (J.region (JL.mi rfl (JL.g (RX.sub rfl rfl (wi (n := 0) (by decide) (by omega))) (JL.ai rfl (JL.nil (J.again (J.seq (J.seq (J.region (JL.mi rfl (JL.g (RX.gt rfl rfl) (JL.nil (J.cond_f rfl (by decide) (J.exit rfl (J.end0 Tryz.func77 rfl ?_))))))))))))))))))))
 exact ⟨_, rfl, G3, hA3, H⟩
end Oo
end Go.Proofs.YtfaokllgaambjaaGreatDoor
namespace Go.Proofs.YtfaokllgaambjaaGreatDoor
open Go Go.Eng
set_option maxRecDepth 100000
set_option maxHeartbeats 1600000
theorem cl49 : callable Tryz.prog 49 = true := by kernel_rfl
theorem one40 : oneOf Tryz.prog 40 = true := by kernel_rfl
namespace Oo
def YFn (fn : FuncId) (cv : List Value) (A : Nat → List Seg → Prop) (w0 : World) (N n : Nat) (F : List Seg) : Prop := callable Tryz.prog fn = true ∧ ∀ (j : Nat) (G X : List Seg) (W : World) (o : Od) (vs : List Value) (s : Seg), A j G → j < N → o.ok → o.n = n → o.tr.Own vs s → Hp w0 W (s :: (X ++ (G ++ F))) →
  Ret Tryz.prog fn (.agg vs.toArray :: cv) W fun v W' => v = .bool true ∧ ∃ G', A (j + 1) G' ∧ Hp w0 W' (X ++ (G' ++ F))
theorem own_lf (f : Bool) (m : Nat) : (Od.lf f m).tr.Own (tv (kf f) ((m : Nat) : Int) none 0 0) [] := Tr.Own.leaf
theorem od_two {o : Od} (h : o.n = 2) : ∃ f, o = .lf f 2 := by
 cases o with
 | lf f m => exact ⟨f, by rw [show m = 2 from h]⟩
 | tt fa fb => cases h
theorem each1_b {w0 : World} {F : List Seg} {fn : FuncId} {cv : List Value} {A : Nat → List Seg → Prop} {N b5 b11 : Nat} {f : Bool} (hY : YFn fn cv A w0 N 4 F) {j : Nat} {G X : List Seg} {w : World} {f2 : Bool} {vs : List Value} {s : Seg} (hA : A j G) (hj : j < N) (hO : (Od.lf f2 2).tr.Own vs s) (H : Hp w0 w (s :: (X ++ (G ++ ([(b5, cel [.func (.func fn) #[] cv.toArray] 40)] :: [(b11, cel (tv (kf f) 2 none 0 0) 39)] :: F))))) : Ret Tryz.prog 48 [.agg vs.toArray, .pointer (some ⟨b5, 0, none⟩), .pointer (some ⟨b11, 0, none⟩)] w fun v w' => v = .bool true ∧ ∃ G', A (j + 1) G' ∧ Hp w0 w' (X ++ (G' ++ ([(b5, cel [.func (.func fn) #[] cv.toArray] 40)] :: [(b11, cel (tv (kf f) 2 none 0 0) 39)] :: F))) := by
 refine Calls.of_J (n := 10) Tryz.func48 rfl rfl rfl (J.seq ?_)
 obtain ⟨p2, c2, rfl⟩ : ∃ p2 c2, vs = tv (kf f2) 2 p2 0 c2 := is_leaf (hO.is (L := []))
 replace H : Hp w0 w ([(b5, cel [.func (.func fn) #[] cv.toArray] 40)] :: [(b11, cel (tv (kf f) 2 none 0 0) 39)] :: s :: (X ++ (G ++ F))) := H.weak (fun f => by simp only [sumBy, sumBy_app, List.cons_append]; omega)
 refine J.region (JL.e (EX.box (v := .agg _) H rfl rfl) ?_)
 rintro _ w ⟨b3, rfl, H⟩
 refine JL.ab rfl (JL.nil (J.seq (J.held (fun w => Hp w0 w ([(b3, cel (tv (kf f2) 2 p2 0 c2) 39)] :: [(b5, cel [.func (.func fn) #[] cv.toArray] 40)] :: [(b11, cel (tv (kf f) 2 none 0 0) 39)] :: [])) hmix fun w hs => ?_)))
 replace H := H.same hs; clear hs
 have hS : Hp w0 w ([(b3, cel (tv (kf f2) 2 p2 0 c2) 39)] :: [(b5, cel [.func (.func fn) #[] cv.toArray] 40)] :: [(b11, cel (tv (kf f) 2 none 0 0) 39)] :: []) := H.weak (fun f => by simp only [sumBy, sumBy_app, List.cons_append]; omega)
 refine JH.take 0 rfl (by kernel_rfl) (by kernel_rfl) (by kernel_rfl) rfl trivial (fun w H => RX.load H rfl (i := 1) (v := .func _ _ _) rfl rfl one40) hS (JH.take 1 rfl (by kernel_rfl) (by kernel_rfl) (by kernel_rfl) rfl trivial (fun w H => RX.loadAgg H rfl (i := 2) (vs := tv (kf f) 2 none 0 0) rfl rfl ag39) hS (JH.take 2 rfl (by kernel_rfl) (by kernel_rfl) (by kernel_rfl) rfl trivial (fun w H => RX.loadAgg H rfl (i := 0) (vs := tv (kf f2) 2 p2 0 c2) rfl rfl ag39) hS (JH.all [3] (by kernel_rfl) (by decide) (JHO.does rfl rfl trivial (EX.call rfl cl49 rfl ((Times_b H (a := (Od.lf f 2).tr) (b := (Od.lf f2 2).tr) ((own_lf f 2).in_ (fun e he => by cases he)) ((hO.is (L := X ++ (G ++ F))).cons.cons.cons) (Od.lf f 2).parts (Od.lf f2 2).parts))) ?_))))
 rintro _ w ⟨vs3, s3, rfl, hO3, H⟩
 have hS : Hp w0 w ([(b3, cel (tv (kf f2) 2 p2 0 c2) 39)] :: [(b5, cel [.func (.func fn) #[] cv.toArray] 40)] :: [(b11, cel (tv (kf f) 2 none 0 0) 39)] :: []) := H.weak (fun f => by simp only [sumBy, sumBy_app, List.cons_append]; omega)
 refine ⟨hS, ?_⟩
 refine JH.all [4] (by kernel_rfl) (by decide) (JHO.does rfl rfl trivial (EX.callv (fv := []) (cv := cv) rfl hY.1 rfl rfl (hY.2 j G ([(b3, cel (tv (kf f2) 2 p2 0 c2) 39)] :: [(b5, cel [.func (.func fn) #[] cv.toArray] 40)] :: [(b11, cel (tv (kf f) 2 none 0 0) 39)] :: X) _ (.tt f f2) vs3 s3 hA hj trivial rfl hO3 (H.weak (fun f => by simp only [sumBy, sumBy_app, List.cons_append]; omega)))) ?_)
 rintro _ w ⟨rfl, G1, hA1, H⟩
 have hS : Hp w0 w ([(b3, cel (tv (kf f2) 2 p2 0 c2) 39)] :: [(b5, cel [.func (.func fn) #[] cv.toArray] 40)] :: [(b11, cel (tv (kf f) 2 none 0 0) 39)] :: []) := H.weak (fun f => by simp only [sumBy, sumBy_app, List.cons_append]; omega)
 refine ⟨hS, ?_⟩
 refine JH.take 5 rfl (by kernel_rfl) (by kernel_rfl) (by kernel_rfl) rfl trivial (fun w H => RX.assignv (v := .bool _) rfl) hS (JH.done (by kernel_rfl) (J.ret1 (v := .bool _) Tryz.func48 rfl rfl ?_))
 exact ⟨_, rfl, rfl, G1, hA1, H.weak (fun f => by simp only [sumBy, sumBy_app, List.cons_append]; omega)⟩
end Oo
end Go.Proofs.YtfaokllgaambjaaGreatDoor

/- Part 11 of the proof that WholeSmall holds: what the functions on its way do, step by step. -/
import Derived.Test.YtfaokllgaambjaaGreatDoorZ1
import Derived.Test.YtfaokllgaambjaaGreatDoorZ2
import Derived.Test.YtfaokllgaambjaaGreatDoorZ3
import Derived.Test.YtfaokllgaambjaaGreatDoorZ4
import Derived.Test.YtfaokllgaambjaaGreatDoorZ5
import Derived.Test.YtfaokllgaambjaaGreatDoorZ7
import Derived.Test.YtfaokllgaambjaaGreatDoorZ8
import Derived.Test.YtfaokllgaambjaaGreatDoorZ9
import Derived.Test.YtfaokllgaambjaaGreatDoorZ10
set_option linter.unusedVariables false
set_option linter.unusedSimpArgs false
namespace Go.Proofs.YtfaokllgaambjaaGreatDoor
open Go Go.Eng
set_option maxRecDepth 100000
set_option maxHeartbeats 1600000
theorem ag189 : aggOf Tryz.prog 189 = some 12 := by kernel_rfl
theorem cl157 : callable Tryz.prog 157 = true := by kernel_rfl
theorem cl158 : callable Tryz.prog 158 = true := by kernel_rfl
theorem cl160 : callable Tryz.prog 160 = true := by kernel_rfl
theorem cl161 : callable Tryz.prog 161 = true := by kernel_rfl
theorem cl162 : callable Tryz.prog 162 = true := by kernel_rfl
theorem fo178_4 : fieldOff Tryz.prog 178 4 = some 4 := by kernel_rfl
theorem fo185_0 : fieldOff Tryz.prog 185 0 = some 0 := by kernel_rfl
theorem fo185_3 : fieldOff Tryz.prog 185 3 = some 7 := by kernel_rfl
theorem fo185_4 : fieldOff Tryz.prog 185 4 = some 8 := by kernel_rfl
theorem fo185_5 : fieldOff Tryz.prog 185 5 = some 9 := by kernel_rfl
theorem fo185_6 : fieldOff Tryz.prog 185 6 = some 10 := by kernel_rfl
theorem fo74_4 : fieldOff Tryz.prog 74 4 = some 4 := by kernel_rfl
theorem one72 : oneOf Tryz.prog 72 = true := by kernel_rfl
theorem sl72 : sliceOf Tryz.prog 72 = some (178, 7) := by kernel_rfl
theorem sz189 : szOf Tryz.prog 189 = some 12 := by kernel_rfl
theorem sz3 : szOf Tryz.prog 3 = some 1 := by kernel_rfl
theorem zr189 : (Tryz.prog.info? 189).bind (·.zero) = some (.agg #[.nilFunc, .nilFunc, .nilFunc, .nilFunc, .nilFunc, .nilFunc, .nilFunc, .nilFunc, .nilFunc, .nilFunc, .nilFunc, .nilFunc]) := by kernel_rfl
theorem RX.min2_ {w : World} {ρ : Operand → Value} {d : Option Tmp} {x y : Operand} {ty : TypeId} {pos : String} {af : Array Edge} {g : Option (Nat × Bool)} {k : IntKind} {a b r : Int} {ats : Array TypeId} (hx : ρ x = .int k a) (hy : ρ y = .int k b) (hr : (if b < a then b else a) = r) :
 Runs Tryz.prog ρ ⟨d, .call { callee := .builtin .min, args := #[x, y], argTypes := ats }, ty, pos, af, g⟩ w (.int k r) := by
 subst hr
 unfold Runs
 simp [execOp, hx, hy, resolve, invoke, builtin, Builtin.min_, Builtin.min2]
def tabV : List Value := [.nilFunc, .func (.func 157) #[] #[], .func (.func 158) #[] #[], .func (.func 159) #[] #[], .func (.func 160) #[] #[], .func (.func 161) #[] #[], .func (.func 162) #[] #[],
  .func (.func 163) #[] #[], .func (.func 164) #[] #[], .func (.func 165) #[] #[], .func (.func 166) #[] #[], .func (.func 167) #[] #[]]
def Sp.okS (s : Sp) : Prop := s.sm ∧ 1 ≤ s.count ∧ (s.op = 1 ∨ s.op = 2 ∨ s.op = 5 ∨ (s.op = 4 ∧ (s.n = 1 ∨ s.n = 2 ∨ s.n = 4)) ∨ (s.op = 6 ∧ (s.n = 1 ∨ s.n = 2 ∨ s.n = 4) ∧ s.count = s.n ∧ 1 ≤ s.jump))
instance {s : Sp} : Decidable s.sm := inferInstanceAs (Decidable (_ ∧ _))
instance {s : Sp} : Decidable s.okS := inferInstanceAs (Decidable (_ ∧ _))
def spsV (l : List Sp) : List Value := (l.map spV).flatten
theorem spV_len (s : Sp) : (spV s).length = 7 := rfl
theorem spsV_len (l : List Sp) : (spsV l).length = l.length * 7 := flat_len spV 7 spV_len l
theorem spsV_rd {l : List Sp} {i : Nat} {s : Sp} (h : l[i]? = some s) : readN (spsV l) (i * 7) 7 = some (spV s) := readN_flat (f := spV) (sz := 7) spV_len h
theorem spsV_get {l : List Sp} {i k : Nat} {s : Sp} (h : l[i]? = some s) (hk : k < 7) : (spsV l)[i * 7 + k]? = (spV s)[k]? := flat_get spV 7 spV_len l i k s h hk
def remS (l : List Sp) : Nat := (l.map Sp.count).sum
theorem remS_cons (s : Sp) (l : List Sp) : remS (s :: l) = s.count + remS l := by simp [remS]
theorem dropS {α : Type} {l : List α} {i : Nat} {s : α} (h : l[i]? = some s) : l.drop i = s :: l.drop (i + 1) := by
 have hl := getE_lt h
 have h9 := List.drop_eq_getElem_cons (l := l) (i := i) hl
 rw [List.getElem?_eq_getElem hl] at h
 rw [h9, Option.some.inj h]
theorem runS_pre {s : Sp} {c : List Cf} : ∀ {m : Nat} {r : List Cf}, runS s c m = some r → ∀ j, j ≤ m → ∃ q, runS s c j = some q
  | 0, r, h, j, hj => ⟨r, by rw [show j = 0 by omega]; exact h⟩
  | m + 1, r, h, j, hj => by
    by_cases e : j = m + 1
    · exact ⟨r, by rw [e]; exact h⟩
    · simp only [runS, Option.bind_eq_bind, Option.bind_eq_some_iff] at h
      obtain ⟨q, hq, _⟩ := h
      exact runS_pre hq j (by omega)
theorem runS_step {s : Sp} {c r : List Cf} {m : Nat} (h : runS s c (m + 1) = some r) : ∃ q, runS s c m = some q ∧ actF s.ac m q = some r := by
 simp only [runS, Option.bind_eq_bind, Option.bind_eq_some_iff] at h
 exact h
theorem mtable_b {w0 w : World} {F : List Seg} (H : Hp w0 w F) : Ret Tryz.prog 126 [] w fun v w' => v = .agg tabV.toArray ∧ Hp w0 w' F := by
 refine Calls.of_J (n := 2) Tryz.func126 rfl rfl rfl (J.seq (J.region (JL.e (EX.alloc H zr189 rfl) ?_)))
 rintro _ w ⟨bt, rfl, H⟩
 refine JL.nil (J.seq (J.region (JL.g (RX.build (pv := [(1, .func (.func 157) #[] #[]), (2, .func (.func 158) #[] #[]), (3, .func (.func 159) #[] #[]), (4, .func (.func 160) #[] #[]), (5, .func (.func 161) #[] #[]), (6, .func (.func 162) #[] #[]), (7, .func (.func 163) #[] #[]), (8, .func (.func 164) #[] #[]), (9, .func (.func 165) #[] #[]), (10, .func (.func 166) #[] #[]), (11, .func (.func 167) #[] #[])]) (res := tabV) rfl (by kernel_rfl)) (JL.e (EX.storeAgg H rfl rfl (i := 0) (vs := tabV) rfl (by simp [tabV, isCell]) (by simp [tabV]) sz189 rfl rfl) ?_))))
 rintro _ w H
 refine JL.nil (J.retc Tryz.func126 rfl H rfl (i := 0) (vs := tabV) rfl rfl ag189 ?_)
 exact ⟨_, rfl, rfl, H.drop⟩
theorem act_b {s : Sp} (hs : s.okS) {i : Nat} (hi : i < s.count) : ∃ g, tabV[s.op]? = some (.func (.func g) #[] #[]) ∧ callable Tryz.prog g = true ∧ ∀ {w0 w : World} {F : List Seg} {bm bc : Nat} {p0 p1 p2 p3 p4 by_ ac dn st at_ fl : Value} {fr : List Value} {fs : List (Nat × Nat)} {cs cs' : List Cf} {X : List Int} (H : Hp w0 w ([(bm, cel (mcV p0 p1 p2 p3 p4 by_ (.slice (some ⟨bc, 0, none⟩) fs.length fs.length) ac dn st at_ fl fr) 185)] :: [(bc, cel (cxs fs) 49)] :: F)) (hX : InX X) (hl : cs.length ≤ 1000) (hr : RelF X fs cs) (ha : actF s.ac i cs = some cs'), Ret Tryz.prog g [.pointer (some ⟨bm, 0, none⟩), .agg (spV s).toArray, .int .i64 ((i : Nat) : Int)] w fun _ w' => ∃ fs', fs'.length = fs.length ∧ cs'.length = cs.length ∧ RelF X fs' cs' ∧ Hp w0 w' ([(bm, cel (mcV p0 p1 p2 p3 p4 by_ (.slice (some ⟨bc, 0, none⟩) fs.length fs.length) ac dn st at_ fl fr) 185)] :: [(bc, cel (cxs fs') 49)] :: F) := by
 obtain ⟨hsm, h1, h⟩ := hs
 have hi2 : i ≤ 1000 := by have := hsm.2.2.2.1; omega
 rcases h with h | h | h | ⟨h, hn⟩ | ⟨h, hn, hc, hj⟩
 · exact ⟨_, by rw [h]; rfl, cl157, fun H hX hl hr ha => gather_m H hX hsm hi2 hl hr ha h⟩
 · exact ⟨_, by rw [h]; rfl, cl158, fun H hX hl hr ha => scatter_m H hX hsm hi2 hl hr ha h⟩
 · exact ⟨_, by rw [h]; rfl, cl161, fun H hX hl hr ha => fly_m H hX hsm hi2 hl hr ha h⟩
 · exact ⟨_, by rw [h]; rfl, cl160, fun H hX hl hr ha => twist_m H hX hsm hi2 hl hr ha h hn⟩
 · exact ⟨_, by rw [h]; rfl, cl162, fun H hX hl hr ha => direct_m H hX hsm hi2 hl hr ha h hn (by omega) hj⟩
theorem mLeft_b {w0 w : World} {F : List Seg} {bm bc ac dn st at_ n : Nat} {p0 p1 p2 p3 by_ fl : Value} {fr : List Value} {ps : Option Addr} {cps : Nat} {ss : List Sp} (H : Hp w0 w ([(bm, cel (mcV p0 p1 p2 p3 (.slice ps ss.length cps) by_ (.slice (some ⟨bc, 0, none⟩) n n) (.int .i64 ((ac : Nat) : Int)) (.int .i64 ((dn : Nat) : Int)) (.int .i64 ((st : Nat) : Int)) (.int .i64 ((at_ : Nat) : Int)) fl fr) 185)] :: F)) (h : dn ≤ ac) (h2 : ac ≤ 1000000) : Ret Tryz.prog 96 [.pointer (some ⟨bm, 0, none⟩)] w fun v w' => v = .int .i64 ((ac - dn : Nat) : Int) ∧ Hp w0 w' ([(bm, cel (mcV p0 p1 p2 p3 (.slice ps ss.length cps) by_ (.slice (some ⟨bc, 0, none⟩) n n) (.int .i64 ((ac : Nat) : Int)) (.int .i64 ((dn : Nat) : Int)) (.int .i64 ((st : Nat) : Int)) (.int .i64 ((at_ : Nat) : Int)) fl fr) 185)] :: F) := by
 refine Calls.of_J (n := 12) Tryz.func96 rfl rfl rfl (J.seq (J.region (JL.g (RX.assign) (JL.nil (J.seq (J.quietH H hmix (by kernel_rfl) (JQ.g (fun w H => RX.movev (v := .pointer _) rfl) (JQ.g (fun w H => RX.nilCheck rfl) (JQ.g (fun w H => RX.fieldAddr rfl fo185_3 rfl) (JQ.g (fun w H => RX.load H rfl (i := 0) (v := .int _ _) rfl rfl one3) (JQ.g (fun w H => RX.movev (v := .pointer _) rfl) (JQ.g (fun w H => RX.nilCheck rfl) (JQ.g (fun w H => RX.fieldAddr rfl fo185_4 rfl) (JQ.g (fun w H => RX.load H rfl (i := 0) (v := .int _ _) rfl rfl one3) (JQ.g (fun w H => RX.sub rfl rfl (wi (n := ac - dn) (by omega) (by omega))) (JQ.g (fun w H => RX.assignv (v := .int _ _) rfl) (JQ.nil fun w H => (J.ret1 (v := .int _ _) Tryz.func96 rfl rfl ?_))))))))))))))))))
 exact ⟨_, rfl, rfl, H⟩
theorem mnext_b {w0 w : World} {F : List Seg} {bm bc ac dn st n : Nat} {s : Sp} {p0 p1 p2 p3 by_ fl : Value} {fr : List Value} {ps : Option Addr} {cps : Nat} {ss : List Sp} (H : Hp w0 w ([(bm, cel (mcV p0 p1 p2 p3 (.slice ps ss.length cps) by_ (.slice (some ⟨bc, 0, none⟩) n n) (.int .i64 ((ac : Nat) : Int)) (.int .i64 ((dn : Nat) : Int)) (.int .i64 ((st : Nat) : Int)) (.int .i64 ((s.count : Nat) : Int)) fl fr) 185)] :: F)) (hs : SlAt F ps (spsV ss)) (hst : ss[st]? = some s) (hl : ss.length ≤ 1000) : Ret Tryz.prog 127 [.pointer (some ⟨bm, 0, none⟩)] w fun _ w' => Hp w0 w' ([(bm, cel (mcV p0 p1 p2 p3 (.slice ps ss.length cps) by_ (.slice (some ⟨bc, 0, none⟩) n n) (.int .i64 ((ac : Nat) : Int)) (.int .i64 ((dn : Nat) : Int)) (.int .i64 ((st + 1 : Nat) : Int)) (.int .i64 ((0 : Nat) : Int)) fl fr) 185)] :: F) := by
 refine Calls.of_J (n := 30) Tryz.func127 rfl rfl rfl (J.seq ?_)
 have hsl := getE_lt hst
 obtain ⟨pb, po, rfl, hpp⟩ := hs.some (by rw [spsV_len]; omega)
 refine J.quietH H hmix (by kernel_rfl) (JQ.g (fun w H => RX.movev (v := .pointer _) rfl) (JQ.g (fun w H => RX.nilCheck rfl) (JQ.g (fun w H => RX.fieldAddr rfl fo185_6 rfl) (JQ.g (fun w H => RX.load H rfl (i := 0) (v := .int _ _) rfl rfl one3) (JQ.g (fun w H => RX.movev (v := .pointer _) rfl) (JQ.g (fun w H => RX.nilCheck rfl) (JQ.g (fun w H => RX.fieldAddr rfl fo185_0 rfl) (JQ.g (fun w H => RX.fieldAddr rfl fo74_4 rfl) (JQ.g (fun w H => RX.load H rfl (i := 0) (v := .slice _ _ _) rfl rfl one72) (JQ.g (fun w H => RX.movev (v := .pointer _) rfl) (JQ.g (fun w H => RX.nilCheck rfl) (JQ.g (fun w H => RX.fieldAddr rfl fo185_5 rfl) (JQ.g (fun w H => RX.load H rfl (i := 0) (v := .int _ _) rfl rfl one3) (JQ.g (fun w H => RX.indexAddr rfl rfl sl72 (by omega) (by omega) (o' := po + st * 7) (by omega)) (JQ.g (fun w H => RX.fieldAddr rfl fo178_4 rfl) (JQ.g (fun w H => RX.loadS H hs.cons rfl (j := st * 7 + 4) (by omega) (v := .int .i64 ((s.count : Nat) : Int)) (by rw [spsV_get hst (by decide)]; rfl) one3) ?_))))))))))))))))
 refine JQ.g (fun w H => RX.eq rfl rfl) (JQ.nil fun w H => (J.cond_t rfl (decide_eq_true rfl) (J.region (JL.mp rfl (JL.mp rfl (JL.mp rfl (JL.g (RX.nilCheck rfl) (JL.g (RX.fieldAddr rfl fo185_5 rfl) (JL.g (RX.load H rfl (i := 0) (v := .int _ _) rfl rfl one3) (JL.g (RX.add rfl rfl (wi (n := st + 1) (by omega) (by omega))) (JL.g (RX.nilCheck rfl) (JL.g (RX.fieldAddr rfl fo185_5 rfl) (JL.e (EX.store (v := .int _ _) H rfl rfl (i := 0) rfl rfl (by simp [mcV]) sz3 rfl rfl) ?_)))))))))))))
 rintro _ w H
 refine JL.g (RX.nilCheck rfl) (JL.g (RX.fieldAddr rfl fo185_6 rfl) (JL.e (EX.store (v := .int _ _) H rfl rfl (i := 0) rfl rfl (by simp [mcV]) sz3 rfl rfl) ?_))
 rintro _ w H
 refine JL.nil (J.end0 Tryz.func127 rfl ?_)
 exact ⟨_, rfl, H⟩
end Go.Proofs.YtfaokllgaambjaaGreatDoor
namespace Go.Proofs.YtfaokllgaambjaaGreatDoor
open Go Go.Eng
set_option maxRecDepth 100000
set_option maxHeartbeats 1600000
theorem ag178 : aggOf Tryz.prog 178 = some 7 := by kernel_rfl
theorem ar189 : arrayOf Tryz.prog 189 = some (12, 188, 1) := by kernel_rfl
theorem cl126 : callable Tryz.prog 126 = true := by kernel_rfl
theorem cl127 : callable Tryz.prog 127 = true := by kernel_rfl
theorem cl96 : callable Tryz.prog 96 = true := by kernel_rfl
theorem fo178_0 : fieldOff Tryz.prog 178 0 = some 0 := by kernel_rfl
theorem one188 : oneOf Tryz.prog 188 = true := by kernel_rfl
theorem sz178 : szOf Tryz.prog 178 = some 7 := by kernel_rfl
theorem zr178 : (Tryz.prog.info? 178).bind (·.zero) = some (.agg #[.int .i64 0, .int .i64 0, .int .i64 0, .int .i64 0, .int .i64 0, .int .i64 0, .int .i64 0]) := by kernel_rfl
theorem remS_drop : ∀ (l : List Sp) (t : Nat), remS (l.drop t) ≤ remS l
  | [], t => by simp
  | s :: l, 0 => Nat.le_refl _
  | s :: l, t + 1 => by
    have := remS_drop l t
    rw [remS_cons, List.drop_succ_cons]; omega
theorem remS_pos {l : List Sp} (h : ∀ s ∈ l, s.okS) {t : Nat} (ht : t < l.length) : 1 ≤ remS (l.drop t) := by
 obtain ⟨s, hs⟩ : ∃ s, l[t]? = some s := ⟨_, List.getElem?_eq_getElem ht⟩
 rw [dropS hs, remS_cons]
 have := (h s (List.mem_of_getElem? hs)).2.1
 omega
theorem spV_cell (s : Sp) : ∀ v ∈ spV s, isCell v = true := by
 intro v hv
 simp only [spV, List.mem_cons, List.not_mem_nil, or_false] at hv
 rcases hv with rfl | rfl | rfl | rfl | rfl | rfl | rfl <;> rfl
theorem mRun_b {w0 w : World} {F : List Seg} {bm bc ac : Nat} {p0 p1 p2 p3 by_ fl : Value} {fr : List Value} {ps : Option Addr} {cps : Nat} {ss : List Sp} {fs : List (Nat × Nat)} {cs cfin : List Cf} {X : List Int} (H : Hp w0 w ([(bm, cel (mcV p0 p1 p2 p3 (.slice ps ss.length cps) by_ (.slice (some ⟨bc, 0, none⟩) fs.length fs.length) (.int .i64 ((ac : Nat) : Int)) (.int .i64 ((0 : Nat) : Int)) (.int .i64 ((0 : Nat) : Int)) (.int .i64 ((0 : Nat) : Int)) fl fr) 185)] :: [(bc, cel (cxs fs) 49)] :: F)) (hX : InX X) (hl : cs.length ≤ 1000) (hr : RelF X fs cs) (hs : SlAt F ps (spsV ss)) (hok : ∀ s ∈ ss, s.okS) (hac : ac = remS ss) (hss : ss.length ≤ 500) (hac1 : 1 ≤ ac) (hac2 : ac ≤ 100000) (hp : runP ss cs = some cfin) : Ret Tryz.prog 97 [.pointer (some ⟨bm, 0, none⟩), .int .i64 ((ac : Nat) : Int)] w fun v w' => v = .tuple #[.int .i64 ((ac : Nat) : Int), .nilIface] ∧ ∃ fs', fs'.length = fs.length ∧ RelF X fs' cfin ∧ Hp w0 w' ([(bm, cel (mcV p0 p1 p2 p3 (.slice ps ss.length cps) by_ (.slice (some ⟨bc, 0, none⟩) fs.length fs.length) (.int .i64 ((ac : Nat) : Int)) (.int .i64 ((ac : Nat) : Int)) (.int .i64 ((ss.length : Nat) : Int)) (.int .i64 ((0 : Nat) : Int)) fl fr) 185)] :: [(bc, cel (cxs fs') 49)] :: F) := by
 refine Calls.of_J (n := 88) Tryz.func97 rfl rfl rfl (J.seq ?_)
 subst hac
 refine J.region (JL.g (RX.assign) (JL.g (RX.assign) (JL.nil (J.seq (J.seq (J.region (JL.mi rfl (JL.g (RX.lt rfl rfl) (JL.nil (J.cond_f rfl (decide_eq_false (by omega)) (J.skip (J.seq (J.seq (J.region (JL.mp rfl (JL.e (EX.call rfl cl96 rfl ((mLeft_b H (by omega) (by omega)))) ?_))))))))))))))))
 rintro _ w ⟨rfl, H⟩
 refine JL.g (RX.eq rfl rfl) (JL.nil (J.cond_f rfl (decide_eq_false (by omega)) (J.skip (J.seq (J.region (JL.mi rfl (JL.mp rfl (JL.e (EX.call rfl cl96 rfl ((mLeft_b H (by omega) (by omega)))) ?_))))))))
 rintro _ w ⟨rfl, H⟩
 refine JL.g (RX.min2_ rfl rfl (r := ((remS ss : Nat) : Int)) (by rw [if_neg (by omega)])) ?_
 refine JL.ai rfl (JL.nil (J.seq (J.region (JL.e (EX.call rfl cl126 rfl ((mtable_b H))) ?_))))
 rintro _ w ⟨rfl, H⟩
 refine JL.e (EX.alloc H zr189 rfl) ?_
 rintro _ w ⟨bt, rfl, H⟩
 refine JL.e (EX.storeAgg H rfl rfl (i := 0) (vs := tabV) rfl (by simp [tabV, isCell]) (by simp [tabV]) sz189 rfl rfl) ?_
 rintro _ w H
 refine JL.nil ?_
 replace H : Hp w0 w ([(bt, cel tabV 189)] :: [(bm, cel (mcV p0 p1 p2 p3 (.slice ps ss.length cps) by_ (.slice (some ⟨bc, 0, none⟩) fs.length fs.length) (.int .i64 ((remS ss : Nat) : Int)) (.int .i64 ((0 : Nat) : Int)) (.int .i64 ((0 : Nat) : Int)) (.int .i64 ((0 : Nat) : Int)) fl fr) 185)] :: [(bc, cel (cxs fs) 49)] :: F) := H
 refine J.seq (J.seq (J.region (JL.mi rfl (JL.ai rfl (JL.nil (J.block (J.loop (ι := Nat × List (Nat × Nat) × List Cf) (S := fun z => [(7, .int .i64 ((remS (ss.drop z.1) : Nat) : Int))]) (Φ := fun z w => z.1 ≤ ss.length ∧ z.2.1.length = fs.length ∧ z.2.2.length = cs.length ∧ RelF X z.2.1 z.2.2 ∧ runP (ss.drop z.1) z.2.2 = some cfin ∧ Hp w0 w ([(bt, cel tabV 189)] :: [(bm, cel (mcV p0 p1 p2 p3 (.slice ps ss.length cps) by_ (.slice (some ⟨bc, 0, none⟩) fs.length fs.length) (.int .i64 ((remS ss : Nat) : Int)) (.int .i64 ((0 : Nat) : Int)) (.int .i64 ((z.1 : Nat) : Int)) (.int .i64 ((0 : Nat) : Int)) fl fr) 185)] :: [(bc, cel (cxs z.2.1) 49)] :: F)) (μ := fun z => ss.length - z.1) (C := [(0, _), (1, _), (6, _)]) (0, fs, cs) ⟨rfl, rfl, rfl, trivial⟩ ⟨rfl, trivial⟩ ?_ ?_)))))))
 · exact ⟨by simp, rfl, rfl, hr, hp, H⟩
 clear H hr hp
 rintro ⟨t, gs, ds⟩ ρ w ⟨ht, hgl, hdl, hr, hp, H⟩ IH
 simp only at ht hgl hdl hr hp H
 have hrd := remS_drop ss t
 dsimp only
 refine J.seq (J.seq (J.region (JL.mi rfl (JL.g (RX.gt rfl rfl) (JL.nil (J.cond_d rfl (fun hlt => ?_) (fun hlt => ?_)))))))
 ·
  have htl : t < ss.length := by
    refine Nat.lt_of_le_of_ne ht fun e => ?_
    rw [e, List.drop_length] at hlt
    exact absurd hlt (by decide)
  obtain ⟨s, hst⟩ : ∃ s, ss[t]? = some s := ⟨_, List.getElem?_eq_getElem htl⟩
  have hso := hok s (List.mem_of_getElem? hst)
  have hdr := dropS hst
  rw [hdr] at hp hrd ⊢
  rw [remS_cons] at hrd ⊢
  simp only [runP, Option.bind_eq_bind, Option.bind_eq_some_iff] at hp
  obtain ⟨d2, hd2, hp⟩ := hp
  obtain ⟨pb, po, rfl, hpp⟩ := hs.some (by rw [spsV_len]; omega)
  have hop : s.op < 12 := by have := hso.2.2; omega
  refine J.skip (J.block (J.seq (J.held (fun w => Hp w0 w ([(bt, cel tabV 189)] :: [(bm, cel (mcV p0 p1 p2 p3 (.slice (some ⟨pb, po, none⟩) ss.length cps) by_ (.slice (some ⟨bc, 0, none⟩) fs.length fs.length) (.int .i64 ((remS ss : Nat) : Int)) (.int .i64 ((0 : Nat) : Int)) (.int .i64 ((t : Nat) : Int)) (.int .i64 ((0 : Nat) : Int)) fl fr) 185)] :: [(bc, cel (cxs gs) 49)] :: F)) hmix fun w hs => ?_)))
  replace H := H.same hs; clear hs
  have hS : Hp w0 w ([(bt, cel tabV 189)] :: [(bm, cel (mcV p0 p1 p2 p3 (.slice (some ⟨pb, po, none⟩) ss.length cps) by_ (.slice (some ⟨bc, 0, none⟩) fs.length fs.length) (.int .i64 ((remS ss : Nat) : Int)) (.int .i64 ((0 : Nat) : Int)) (.int .i64 ((t : Nat) : Int)) (.int .i64 ((0 : Nat) : Int)) fl fr) 185)] :: [(bc, cel (cxs gs) 49)] :: F) := H
  refine JH.take 0 rfl (by kernel_rfl) (by kernel_rfl) (by kernel_rfl) rfl trivial (fun w H => RX.movev (v := .pointer _) rfl) hS (JH.take 1 rfl (by kernel_rfl) (by kernel_rfl) (by kernel_rfl) rfl trivial (fun w H => RX.nilCheck rfl) hS (JH.take 2 rfl (by kernel_rfl) (by kernel_rfl) (by kernel_rfl) rfl trivial (fun w H => RX.fieldAddr rfl fo185_0 rfl) hS (JH.take 3 rfl (by kernel_rfl) (by kernel_rfl) (by kernel_rfl) rfl trivial (fun w H => RX.fieldAddr rfl fo74_4 rfl) hS (JH.take 4 rfl (by kernel_rfl) (by kernel_rfl) (by kernel_rfl) rfl trivial (fun w H => RX.load H rfl (i := 1) (v := .slice _ _ _) rfl rfl one72) hS (JH.take 5 rfl (by kernel_rfl) (by kernel_rfl) (by kernel_rfl) rfl trivial (fun w H => RX.movev (v := .pointer _) rfl) hS (JH.take 6 rfl (by kernel_rfl) (by kernel_rfl) (by kernel_rfl) rfl trivial (fun w H => RX.nilCheck rfl) hS (JH.take 7 rfl (by kernel_rfl) (by kernel_rfl) (by kernel_rfl) rfl trivial (fun w H => RX.fieldAddr rfl fo185_5 rfl) hS (JH.take 8 rfl (by kernel_rfl) (by kernel_rfl) (by kernel_rfl) rfl trivial (fun w H => RX.load H rfl (i := 1) (v := .int _ _) rfl rfl one3) hS (JH.take 9 rfl (by kernel_rfl) (by kernel_rfl) (by kernel_rfl) rfl trivial (fun w H => RX.indexAddr rfl rfl sl72 (by omega) (by omega) (o' := po + t * 7) (by omega)) hS (JH.take 10 rfl (by kernel_rfl) (by kernel_rfl) (by kernel_rfl) rfl trivial (fun w H => RX.loadAggS H hs.cons.cons.cons rfl (j := t * 7) (by omega) (vs := spV s) (spsV_rd hst) ag178) hS (JH.all [11] (by kernel_rfl) (by decide) (JHO.does rfl rfl trivial (EX.alloc H zr178 rfl) ?_))))))))))))
  rintro _ w ⟨b8, rfl, H⟩
  have hS : Hp w0 w ([(bt, cel tabV 189)] :: [(bm, cel (mcV p0 p1 p2 p3 (.slice (some ⟨pb, po, none⟩) ss.length cps) by_ (.slice (some ⟨bc, 0, none⟩) fs.length fs.length) (.int .i64 ((remS ss : Nat) : Int)) (.int .i64 ((0 : Nat) : Int)) (.int .i64 ((t : Nat) : Int)) (.int .i64 ((0 : Nat) : Int)) fl fr) 185)] :: [(bc, cel (cxs gs) 49)] :: F) := H.drop
  refine ⟨hS, ?_⟩
  refine JH.all [12] (by kernel_rfl) (by decide) (JHO.does rfl rfl trivial (EX.storeAgg H rfl rfl (i := 0) (vs := spV s) rfl (spV_cell s) (by simp [spV]) sz178 rfl rfl) ?_)
  rintro _ w H
  have hS : Hp w0 w ([(bt, cel tabV 189)] :: [(bm, cel (mcV p0 p1 p2 p3 (.slice (some ⟨pb, po, none⟩) ss.length cps) by_ (.slice (some ⟨bc, 0, none⟩) fs.length fs.length) (.int .i64 ((remS ss : Nat) : Int)) (.int .i64 ((0 : Nat) : Int)) (.int .i64 ((t : Nat) : Int)) (.int .i64 ((0 : Nat) : Int)) fl fr) 185)] :: [(bc, cel (cxs gs) 49)] :: F) := H.drop
  refine ⟨hS, ?_⟩
  refine JH.done (by kernel_rfl) (J.seq ?_)
  replace H : Hp w0 w ([(b8, cel (spV s) 178)] :: _) := H
  refine J.quietH H hmix (by kernel_rfl) (JQ.g (fun w H => RX.movev (v := .pointer _) rfl) (JQ.g (fun w H => RX.nilCheck rfl) (JQ.g (fun w H => RX.fieldAddr rfl fo185_6 rfl) (JQ.g (fun w H => RX.load H rfl (i := 2) (v := .int _ _) rfl rfl one3) (JQ.g (fun w H => RX.movev (v := .int _ _) rfl) (JQ.g (fun w H => RX.add rfl rfl (wi (n := s.count + remS (ss.drop (t + 1))) (by omega) (by omega))) (JQ.g (fun w H => RX.fieldAddr rfl fo178_4 rfl) (JQ.g (fun w H => RX.load H rfl (i := 0) (v := .int .i64 ((s.count : Nat) : Int)) rfl rfl one3) (JQ.g (fun w H => RX.min2_ rfl rfl (r := ((s.count : Nat) : Int)) (by split <;> omega)) ?_)))))))))
  refine JQ.g (fun w H => RX.assignv (v := .int _ _) rfl) (JQ.nil fun w H => (J.seq (J.region (JL.mi rfl (JL.mi rfl (JL.mp rfl (JL.g (RX.nilCheck rfl) (JL.g (RX.fieldAddr rfl fo185_6 rfl) (JL.g (RX.load H rfl (i := 2) (v := .int _ _) rfl rfl one3) (JL.g (RX.sub rfl rfl (wi (n := s.count) (by omega) (by omega))) (JL.g (RX.sub rfl rfl (wi (n := remS (ss.drop (t + 1))) (by omega) (by omega))) (JL.ai rfl (JL.nil (J.seq (J.block (J.loop (ι := Prod Nat (Prod (List (Prod Nat Nat)) (List Cf))) (S := fun z => []) (Φ := fun z w => z.1 ≤ s.count ∧ z.2.1.length = fs.length ∧ z.2.2.length = cs.length ∧ RelF X z.2.1 z.2.2 ∧ runS s ds z.1 = some z.2.2 ∧ Hp w0 w ([(b8, cel (spV s) 178)] :: [(bt, cel tabV 189)] :: [(bm, cel (mcV p0 p1 p2 p3 (.slice (some ⟨pb, po, none⟩) ss.length cps) by_ (.slice (some ⟨bc, 0, none⟩) fs.length fs.length) (.int .i64 ((remS ss : Nat) : Int)) (.int .i64 ((0 : Nat) : Int)) (.int .i64 ((t : Nat) : Int)) (.int .i64 ((z.1 : Nat) : Int)) fl fr) 185)] :: [(bc, cel (cxs z.2.1) 49)] :: F)) (μ := fun z => s.count - z.1) (C := [(0, _), (1, _), (6, _), (7, _), (8, _), (9, _)]) (0, gs, ds) ⟨rfl, rfl, rfl, rfl, rfl, rfl, trivial⟩ trivial ?_ ?_))))))))))))))))
  · exact ⟨by simp, hgl, hdl, hr, rfl, H⟩
  clear H hr hgl hdl
  rintro ⟨i, gs, es⟩ ρ w ⟨hi, hgl, hel, hr, hrun, H⟩ IH2
  simp only at hi hgl hel hr hrun H
  refine J.seq (J.seq (J.region (JL.mp rfl (JL.g (RX.nilCheck rfl) (JL.g (RX.fieldAddr rfl fo185_6 rfl) (JL.g (RX.load H rfl (i := 2) (v := .int _ _) rfl rfl one3) (JL.mi rfl (JL.g (RX.lt rfl rfl) (JL.nil (J.cond_d rfl (fun hil => ?_) (fun hil => ?_)))))))))))
  ·
   obtain ⟨g, hgt, hgc, hact⟩ := act_b hso (i := i) (by omega)
   obtain ⟨d3, hd3⟩ := runS_pre hd2 (i + 1) (by omega)
   obtain ⟨d4, hd4, ha⟩ := runS_step hd3
   obtain rfl : d4 = es := Option.some.inj (hd4.symm.trans hrun)
   have hsc := hso.1.2.2.2.1
   rw [← hgl] at H
   refine J.skip (J.seq (J.block (J.any hmix fun w hs => ?_)))
   replace H := H.same hs; clear hs
   refine JA.stage (listed := [false, false, false, false, false, false, false, false, false, false, false]) 10 [0, 1, 2, 3, 4, 5, 6, 7, 8, 9] H (by kernel_rfl) rfl rfl (JI.go rfl trivial (fun w H => RX.fieldAddr rfl fo178_0 rfl) (JI.go rfl trivial (fun w H => RX.load H rfl (i := 0) (v := .int .i64 ((s.op : Nat) : Int)) rfl rfl one3) (JI.go rfl trivial (fun w H => RX.indexArr rfl rfl ar189 (by omega) (by omega) (o' := s.op) (by omega)) (JI.go rfl trivial (fun w H => RX.load H rfl (i := 1) (v := .func (.func g) #[] #[]) rfl hgt one188) (JI.go rfl trivial (fun w H => RX.movev (v := .pointer _) rfl) (JI.go rfl trivial (fun w H => RX.loadAgg H rfl (i := 0) (vs := spV s) rfl rfl ag178) (JI.go rfl trivial (fun w H => RX.movev (v := .pointer _) rfl) (JI.go rfl trivial (fun w H => RX.nilCheck rfl) (JI.go rfl trivial (fun w H => RX.fieldAddr rfl fo185_6 rfl) (JI.go rfl trivial (fun w H => RX.load H rfl (i := 2) (v := .int _ _) rfl rfl one3) (JI.nil fun w H => (JL.e (EX.callv (f := g) (fv := []) (cv := []) rfl hgc rfl rfl (hact ((H.pull 3 rfl).pull 3 rfl) hX (by omega) hr ha)) ?_))))))))))))
   rintro _ w ⟨gs2, hgl2, hdl2, hr2, H⟩
   replace H := (H.pull 3 rfl).pull 3 rfl
   rw [hgl] at H
   refine JL.nil (J.inBlock (J.region (JL.mp rfl (JL.g (RX.nilCheck rfl) (JL.g (RX.fieldAddr rfl fo185_6 rfl) (JL.g (RX.load H rfl (i := 2) (v := .int _ _) rfl rfl one3) (JL.g (RX.add rfl rfl (wi (n := i + 1) (by omega) (by omega))) (JL.g (RX.nilCheck rfl) (JL.g (RX.fieldAddr rfl fo185_6 rfl) (JL.e (EX.store (v := .int _ _) H rfl rfl (i := 2) rfl rfl (by simp [mcV]) sz3 rfl rfl) ?_))))))))))
   rintro _ w H
   refine JL.nil ?_
   exact IH2 (i + 1, gs2, d3) _ _ (by simp only; omega) ⟨rfl, rfl, rfl, rfl, rfl, rfl, trivial⟩ trivial ⟨by simp only; omega, by simp only; omega, by simp only; omega, hr2, hd3, H⟩
  ·
   obtain rfl : i = s.count := by omega
   obtain rfl : d2 = es := Option.some.inj (hd2.symm.trans hrun)
   refine J.exit rfl (J.region (JL.mp rfl (JL.e (EX.call rfl cl127 rfl ((mnext_b (H.pull 2 rfl) hs.cons.cons.cons hst (by omega)))) ?_)))
   rintro _ w H
   refine JL.nil (J.inBlock ?_)
   exact IH (t + 1, gs, d2) _ _ (by simp only; omega) ⟨rfl, rfl, rfl, trivial⟩ ⟨rfl, trivial⟩ ⟨by simp only; omega, hgl, hel, hr, hp, ((H.pull 1 rfl).drop).pull 1 rfl⟩
 ·
  obtain rfl : t = ss.length := by
    refine Nat.le_antisymm ht (Nat.le_of_not_lt fun h => ?_)
    have := remS_pos hok h
    omega
  rw [List.drop_length] at hp
  obtain rfl : ds = cfin := Option.some.inj hp
  refine J.exit rfl (J.seq (J.region (JL.mp rfl (JL.g (RX.nilCheck rfl) (JL.g (RX.fieldAddr rfl fo185_4 rfl) (JL.g (RX.load H rfl (i := 1) (v := .int _ _) rfl rfl one3) (JL.mi rfl (JL.g (RX.add rfl rfl (wi (n := remS ss) (by omega) (by omega))) (JL.g (RX.nilCheck rfl) (JL.g (RX.fieldAddr rfl fo185_4 rfl) (JL.e (EX.store (v := .int _ _) H rfl rfl (i := 1) rfl rfl (by simp [mcV]) sz3 rfl rfl) ?_)))))))))))
  rintro _ w H
  refine JL.nil (J.seq (J.region (JL.mi rfl (JL.ai rfl (JL.g (RX.assign) (JL.nil (J.ret2 (v := .int _ _) Tryz.func97 rfl rfl rfl ?_)))))))
  exact ⟨_, rfl, rfl, gs, hgl, hr, H.drop⟩
end Go.Proofs.YtfaokllgaambjaaGreatDoor
namespace Go.Eng
open Go
section
variable {P : Program} {w w0 : World} {L : List Seg} {ρ : Operand → Value} {d : Option Tmp} {x y : Operand} {ty : TypeId} {pos : String} {af : Array Edge} {g : Option (Nat × Bool)}
theorem EX.clearS {t e T : TypeId} {q n c i : Nat} {l : List Value} {z : Value} (H : Hp w0 w L) (hx : ρ x = .slice (some ⟨q, 0, none⟩) n c) (hu : P.underlying t = some (.slice e)) (hzz : (P.info? e).bind (·.zero) = some z) (hz : z.cells = #[z]) (hcell : isCell z = true)
    (hi : L[i]? = some [(q, cel l T)]) (hl : l.length = n) (hn : 1 ≤ n) :
    Does P ρ ⟨d, .call { callee := .builtin .clear, args := #[x], argTypes := #[t] }, ty, pos, af, g⟩ w fun _ w' => Hp w0 w' (L.set i [(q, cel (List.replicate n z) T)]) := by
  obtain ⟨inf, hinf, hz0⟩ := Option.bind_eq_some_iff.1 hzz
  obtain ⟨m, rfl⟩ : ∃ m, n = m + 1 := ⟨n - 1, by omega⟩
  have hg := H.get1 hi
  have hzc : (Builtin.zeroCells z.cells (m + 1)).toList = List.replicate (m + 1) z := by
    rw [hz]
    unfold Builtin.zeroCells
    apply List.ext_getElem?
    intro k
    by_cases hk : k < m + 1
    · simp [hk, Nat.mod_one]
    · simp [hk]
  have hst := run_storeCells_at P q 0 T (List.replicate (m + 1) z) 0 l.toArray w hg (by simp [hl]) (fun v hv => by
    rw [(List.mem_replicate.1 hv).2]
    cases z <;> first | rfl | cases hcell)
  have hrun : (Builtin.clear_ #[t] ty #[.slice (some ⟨q, 0, none⟩) (m + 1) c]).run P w = .ok (.tuple #[]) (w.setRow q (l.toArray.toList.take (0 + 0) ++ List.replicate (m + 1) z ++ l.toArray.toList.drop (0 + 0 + (List.replicate (m + 1) z).length)).toArray) := by
    simp only [Builtin.clear_]
    simp [run_underlying hu, zeroValue, typeInfo, hinf, hz0, hzc]
    simp at hst
    rw [hst]; rfl
  have e1 : (l.toArray.toList.take (0 + 0) ++ List.replicate (m + 1) z ++ l.toArray.toList.drop (0 + 0 + (List.replicate (m + 1) z).length)) = List.replicate (m + 1) z := by simp [hl]
  rw [e1] at hrun
  refine Does.of_run (v := .tuple #[]) (w' := w.setRow q (List.replicate (m + 1) z).toArray) ?_ ?_
  · simp [execOp, resolve, invoke, builtin, hx] at hrun ⊢
    simp [hrun]
  · have hlt := (Array.getElem?_eq_some_iff.1 hg).1
    refine H.set hi (heap' := (w.setRow q _).heap) (by simp [World.setRow]) ?_ (fun c hc => setRow_other w q c _ hc)
    simp only [World.setRow, Array.getElem?_modify, if_true, hg]
    simp [cel]
theorem EX.copyL {t t' e T : TypeId} {p : Option Addr} {q n nd c c2 i : Nat} {l ys : List Value} (H : Hp w0 w L) (hx : ρ x = .slice (some ⟨q, 0, none⟩) nd c) (hy : ρ y = .slice p n c2) (hu : P.underlying t = some (.slice e)) (hsz : (P.info? e).map (·.size) = some 1)
    (hi : L[i]? = some [(q, cel l T)]) (hs : SlAt L p ys) (hl : ys.length = n) (hn : 1 ≤ n) (hnd : n ≤ nd) (hle : n ≤ l.length) (hcell : ∀ v ∈ ys, isCell v = true) :
    Does P ρ ⟨d, .call { callee := .builtin .copy, args := #[x, y], argTypes := #[t, t'] }, ty, pos, af, g⟩ w fun u w' => u = .int .i64 (n : Int) ∧ Hp w0 w' (L.set i [(q, cel (ys ++ l.drop n) T)]) := by
  subst hl
  rcases hs with hs | ⟨b, off, C, TT, fz, rfl, hm, hc⟩
  · subst hs; simp at hn
  have hg := H.get1 hi
  have hb := H.mem _ hm
  have hrun := run_copy_row (P := P) w t t' ty e q 0 nd c ⟨b, off, none⟩ ys.length c2 l.toArray T ys hu hsz hg (by simp [Nat.min_eq_left hnd]) (fun j v hj => by
    have hjl := (List.getElem?_eq_some_iff.1 hj).1
    have hc2 := hc j hjl
    rw [hj] at hc2
    have e : (⟨b, off, none⟩ : Addr).add j = ⟨b, off + j, none⟩ := by
      unfold Addr.add
      split
      · next h => subst h; rfl
      · rfl
    rw [e]
    simp [World.cell?, hb, hc2]) (by simpa using hle) (fun v hv => by have := hcell v hv; cases v <;> first | rfl | cases this)
  refine Does.of_run (v := goInt ys.length) (w' := w.setRow q (l.toArray.toList.take 0 ++ ys ++ l.toArray.toList.drop (0 + ys.length)).toArray) ?_ ⟨rfl, ?_⟩
  · simp [execOp, resolve, invoke, builtin, hx, hy] at hrun ⊢
    simp [hrun]
  · have hlt := (Array.getElem?_eq_some_iff.1 hg).1
    refine H.set hi (heap' := (w.setRow q _).heap) (by simp [World.setRow]) ?_ (fun c hc => setRow_other w q c _ hc)
    simp only [World.setRow, Array.getElem?_modify, if_true, hg]
    simp [cel]
end
end Go.Eng
namespace Go.Proofs.YtfaokllgaambjaaGreatDoor
open Go Go.Eng
set_option maxRecDepth 100000
set_option maxHeartbeats 1600000
theorem fo74_0 : fieldOff Tryz.prog 74 0 = some 0 := by kernel_rfl
theorem fo74_2 : fieldOff Tryz.prog 74 2 = some 2 := by kernel_rfl
theorem fo74_3 : fieldOff Tryz.prog 74 3 = some 3 := by kernel_rfl
theorem ud27 : Tryz.prog.underlying 27 = some (.slice 49) := by kernel_rfl
theorem zrc : (Tryz.prog.info? 49).bind (·.zero) = some (.complex .f64 0 0) := by kernel_rfl
theorem mLoad_b {w0 w : World} {F : List Seg} {bm bc ac dn st at_ n nc out cx : Nat} {p1 by_ fl : Value} {fr : List Value} {ps : Option Addr} {cps : Nat} {ss : List Sp} {fs0 xs : List (Nat × Nat)} {px : Option Addr} (H : Hp w0 w ([(bm, cel (mcV (.int .i64 ((n : Nat) : Int)) p1 (.int .i64 ((0 : Nat) : Int)) (.int .i64 ((out : Nat) : Int)) (.slice ps ss.length cps) by_ (.slice (some ⟨bc, 0, none⟩) nc nc) (.int .i64 ((ac : Nat) : Int)) (.int .i64 ((dn : Nat) : Int)) (.int .i64 ((st : Nat) : Int)) (.int .i64 ((at_ : Nat) : Int)) fl fr) 185)] :: [(bc, cel (cxs fs0) 49)] :: F)) (hl : fs0.length = nc) (hx : SlAt F px (cxs xs)) (hxn : xs.length = n) (hn : 1 ≤ n) (hnc : n ≤ nc) (hnc2 : nc ≤ 1000) : Ret Tryz.prog 95 [.pointer (some ⟨bm, 0, none⟩), .slice px n cx] w fun v w' => v = .nilIface ∧ Hp w0 w' ([(bm, cel (mcV (.int .i64 ((n : Nat) : Int)) p1 (.int .i64 ((0 : Nat) : Int)) (.int .i64 ((out : Nat) : Int)) (.slice ps ss.length cps) by_ (.slice (some ⟨bc, 0, none⟩) nc nc) (.int .i64 ((ac : Nat) : Int)) (.int .i64 ((0 : Nat) : Int)) (.int .i64 ((0 : Nat) : Int)) (.int .i64 ((0 : Nat) : Int)) fl fr) 185)] :: [(bc, cel (cxs (xs ++ List.replicate (nc - n) (0, 0))) 49)] :: F) := by
 refine Calls.of_J (n := 39) Tryz.func95 rfl rfl rfl (J.seq (J.region (JL.g (RX.assign) (JL.nil (J.seq (J.seq (J.region (JL.ms rfl (JL.g (RX.len_slice rfl (by rw [sl27]; rfl) rfl) ?_)))))))))
 refine JL.mp rfl (JL.g (RX.nilCheck rfl) (JL.g (RX.fieldAddr rfl fo185_0 rfl) (JL.g (RX.fieldAddr rfl fo74_0 rfl) (JL.g (RX.load H rfl (i := 0) (v := .int _ _) rfl rfl one3) (JL.g (RX.ne rfl rfl) (JL.nil (J.cond_f rfl (decide_eq_false (fun h => h rfl)) (J.skip (J.seq (J.region (JL.mp rfl (JL.g (RX.nilCheck rfl) (JL.g (RX.fieldAddr rfl fo185_2 rfl) (JL.g (RX.load H rfl (i := 0) (v := .slice _ _ _) rfl rfl one27) (JL.e (EX.clearS (i := 1) H rfl ud27 zrc rfl rfl rfl (by rw [cxs_len]; exact hl) (by omega)) ?_)))))))))))))))
 rintro _ w H
 rw [repC] at H
 refine JL.nil (J.seq (J.any hmix fun w hs => ?_))
 replace H := H.same hs; clear hs
 refine JA.stage (listed := [false, false, false, false, false, false, false, false, false, false, false, false]) 11 [0, 1, 2, 3, 4, 5, 6, 7, 8, 9, 10] H (by kernel_rfl) rfl rfl (JI.go rfl trivial (fun w H => RX.movev (v := .pointer _) rfl) (JI.go rfl trivial (fun w H => RX.nilCheck rfl) (JI.go rfl trivial (fun w H => RX.fieldAddr rfl fo185_2 rfl) (JI.go rfl trivial (fun w H => RX.load H rfl (i := 0) (v := .slice _ _ _) rfl rfl one27) (JI.go rfl trivial (fun w H => RX.movev (v := .pointer _) rfl) (JI.go rfl trivial (fun w H => RX.nilCheck rfl) (JI.go rfl trivial (fun w H => RX.fieldAddr rfl fo185_0 rfl) (JI.go rfl trivial (fun w H => RX.fieldAddr rfl fo74_2 rfl) (JI.go rfl trivial (fun w H => RX.load H rfl (i := 0) (v := .int _ _) rfl rfl one3) (JI.go rfl trivial (fun w H => RX.slice_l rfl rfl sl27 (fun a ha => by cases ha; rfl) (by omega) (by omega) (r := 0) rfl) ?_))))))))))
 rw [behind_zero (by omega)]
 refine JI.go rfl trivial (fun w H => RX.movev (v := .slice _ _ _) rfl) (JI.nil fun w H => (JL.e (EX.copyL (ys := cxs xs) (n := n) (i := 1) H rfl rfl ud27 (by kernel_rfl) rfl hx.cons.cons (by rw [cxs_len]; exact hxn) hn (by omega) (by rw [cxs_len]; simp; omega) (cxs_cell xs)) ?_))
 rintro _ w ⟨rfl, H⟩
 refine JL.nil (J.seq ?_)
 have e9 : cxs xs ++ (cxs (List.replicate nc (0, 0))).drop n = cxs (xs ++ List.replicate (nc - n) (0, 0)) := by
   rw [cxs_app]; congr 1
   simp [cxs, List.drop_replicate]
 simp only [List.set_cons_succ, List.set_cons_zero] at H
 rw [e9] at H
 refine J.region (JL.mp rfl (JL.mp rfl (JL.mp rfl (JL.g (RX.nilCheck rfl) (JL.g (RX.fieldAddr rfl fo185_4 rfl) (JL.e (EX.store (v := .int _ _) H rfl rfl (i := 0) rfl rfl (by simp [mcV]) sz3 rfl rfl) ?_))))))
 rintro _ w H
 refine JL.g (RX.nilCheck rfl) (JL.g (RX.fieldAddr rfl fo185_5 rfl) (JL.e (EX.store (v := .int _ _) H rfl rfl (i := 0) rfl rfl (by simp [mcV]) sz3 rfl rfl) ?_))
 rintro _ w H
 refine JL.g (RX.nilCheck rfl) (JL.g (RX.fieldAddr rfl fo185_6 rfl) (JL.e (EX.store (v := .int _ _) H rfl rfl (i := 0) rfl rfl (by simp [mcV]) sz3 rfl rfl) ?_))
 rintro _ w H
 refine JL.nil (J.seq (J.region (JL.g (RX.assign) (JL.nil (J.ret1 Tryz.func95 rfl rfl ?_)))))
 exact ⟨_, rfl, rfl, H⟩
theorem mOut_b {w0 w : World} {F : List Seg} {bm bc ac n nc out inn st at_ : Nat} {p1 by_ fl : Value} {fr : List Value} {ps : Option Addr} {cps : Nat} {ss : List Sp} {fs : List (Nat × Nat)} (H : Hp w0 w ([(bm, cel (mcV (.int .i64 ((n : Nat) : Int)) p1 (.int .i64 ((inn : Nat) : Int)) (.int .i64 ((out : Nat) : Int)) (.slice ps ss.length cps) by_ (.slice (some ⟨bc, 0, none⟩) nc nc) (.int .i64 ((ac : Nat) : Int)) (.int .i64 ((ac : Nat) : Int)) (.int .i64 ((st : Nat) : Int)) (.int .i64 ((at_ : Nat) : Int)) fl fr) 185)] :: [(bc, cel (cxs fs) 49)] :: F)) (hl : fs.length = nc) (hn : out + n ≤ nc) (hnc : nc ≤ 1000) (hac : ac ≤ 100000) : Ret Tryz.prog 98 [.pointer (some ⟨bm, 0, none⟩)] w fun v w' => ∃ q c sl, v = .tuple #[.slice q n c, .nilIface] ∧ OwnSl 49 1 q n c (cxs ((fs.drop out).take n)) sl ∧ Hp w0 w' (sl :: [(bm, cel (mcV (.int .i64 ((n : Nat) : Int)) p1 (.int .i64 ((inn : Nat) : Int)) (.int .i64 ((out : Nat) : Int)) (.slice ps ss.length cps) by_ (.slice (some ⟨bc, 0, none⟩) nc nc) (.int .i64 ((ac : Nat) : Int)) (.int .i64 ((ac : Nat) : Int)) (.int .i64 ((st : Nat) : Int)) (.int .i64 ((at_ : Nat) : Int)) fl fr) 185)] :: [(bc, cel (cxs fs) 49)] :: F) := by
 refine Calls.of_J (n := 28) Tryz.func98 rfl rfl rfl (J.seq (J.region (JL.g (RX.assign) (JL.g (RX.assign) (JL.nil (J.seq (J.seq (J.region (JL.mp rfl (JL.e (EX.call rfl cl96 rfl ((mLeft_b H (by omega) (by omega)))) ?_))))))))))
 rintro _ w ⟨rfl, H⟩
 refine JL.g (RX.gt rfl rfl) (JL.nil (J.cond_f rfl (decide_eq_false (by omega)) (J.skip (J.seq (J.region (JL.mp rfl (JL.g (RX.nilCheck rfl) (JL.g (RX.fieldAddr rfl fo185_0 rfl) (JL.g (RX.fieldAddr rfl fo74_3 rfl) (JL.g (RX.load H rfl (i := 0) (v := .int _ _) rfl rfl one3) (JL.ai rfl (JL.nil (J.seq (J.any hmix fun w hs => ?_))))))))))))))
 replace H := H.same hs; clear hs
 refine JA.stage (listed := [false, false, false, false, false, false, false, false, false, false, false, false, false, false, false, false]) 13 [0, 1, 2, 3, 4, 5, 6, 7, 8, 9, 10, 11, 12] H (by kernel_rfl) rfl rfl (JI.go rfl trivial (fun w H => RX.movev (v := .pointer _) rfl) (JI.go rfl trivial (fun w H => RX.nilCheck rfl) (JI.go rfl trivial (fun w H => RX.fieldAddr rfl fo185_2 rfl) (JI.go rfl trivial (fun w H => RX.load H rfl (i := 0) (v := .slice _ _ _) rfl rfl one27) (JI.go rfl trivial (fun w H => RX.movev (v := .int _ _) rfl) (JI.go rfl trivial (fun w H => RX.movev (v := .int _ _) rfl) (JI.go rfl trivial (fun w H => RX.movev (v := .pointer _) rfl) (JI.go rfl trivial (fun w H => RX.nilCheck rfl) (JI.go rfl trivial (fun w H => RX.fieldAddr rfl fo185_0 rfl) (JI.go rfl trivial (fun w H => RX.fieldAddr rfl fo74_0 rfl) (JI.go rfl trivial (fun w H => RX.load H rfl (i := 0) (v := .int _ _) rfl rfl one3) (JI.go rfl trivial (fun w H => RX.add rfl rfl (wi (n := out + n) (by omega) (by omega))) (JI.go rfl trivial (fun w H => RX.slice_lh rfl rfl rfl sl27 (fun a ha => by cases ha; rfl) (by omega) (by omega) (by omega) (r := out) (s := out + n) rfl rfl) ?_)))))))))))))
 rw [Nat.add_sub_cancel_left]
 refine JI.nil fun w H => ?_
 replace H := H.nil
 have hsl : SlAt (([] : Seg) :: [(bm, cel (mcV (.int .i64 ((n : Nat) : Int)) p1 (.int .i64 ((inn : Nat) : Int)) (.int .i64 ((out : Nat) : Int)) (.slice ps ss.length cps) by_ (.slice (some ⟨bc, 0, none⟩) nc nc) (.int .i64 ((ac : Nat) : Int)) (.int .i64 ((ac : Nat) : Int)) (.int .i64 ((st : Nat) : Int)) (.int .i64 ((at_ : Nat) : Int)) fl fr) 185)] :: [(bc, cel (cxs fs) 49)] :: F) (behind (some ⟨bc, 0, none⟩) nc out 1) (cxs ((fs.drop out).take n)) := by
   have h1 : SlAt (([] : Seg) :: [(bm, cel (mcV (.int .i64 ((n : Nat) : Int)) p1 (.int .i64 ((inn : Nat) : Int)) (.int .i64 ((out : Nat) : Int)) (.slice ps ss.length cps) by_ (.slice (some ⟨bc, 0, none⟩) nc nc) (.int .i64 ((ac : Nat) : Int)) (.int .i64 ((ac : Nat) : Int)) (.int .i64 ((st : Nat) : Int)) (.int .i64 ((at_ : Nat) : Int)) fl fr) 185)] :: [(bc, cel (cxs fs) 49)] :: F) (some ⟨bc, 0, none⟩) (cxs fs) := SlAt.cons (SlAt.cons (SlAt.here List.take_length))
   have h2 := (h1.behind (cap := nc) (r := out) (sz := 1) (by rw [cxs_len]; omega)).take (n := n)
   rw [Nat.mul_one] at h2
   simpa [cxs, List.map_drop, List.map_take] using h2
 refine JL.e (EX.append (ys := cxs ((fs.drop out).take n)) (L' := fun s' => s' :: [(bm, cel (mcV (.int .i64 ((n : Nat) : Int)) p1 (.int .i64 ((inn : Nat) : Int)) (.int .i64 ((out : Nat) : Int)) (.slice ps ss.length cps) by_ (.slice (some ⟨bc, 0, none⟩) nc nc) (.int .i64 ((ac : Nat) : Int)) (.int .i64 ((ac : Nat) : Int)) (.int .i64 ((st : Nat) : Int)) (.int .i64 ((at_ : Nat) : Int)) fl fr) 185)] :: [(bc, cel (cxs fs) 49)] :: F) H elCx rfl rfl (i := 0) rfl OwnSl.nil hsl (by rw [cxs_len]; simp; omega) (cxs_cell _) (by decide) (by omega) (by omega) (fun _ => rfl)) ?_
 rintro _ w ⟨q, c, sl, rfl, ho, H⟩
 rw [Nat.zero_add] at ho
 rw [Nat.zero_add n]
 rw [List.nil_append] at ho
 refine JL.al rfl (JL.g (RX.assign) (JL.nil (J.ret2 (v := .slice _ _ _) Tryz.func98 rfl rfl rfl ?_)))
 exact ⟨_, rfl, q, c, sl, rfl, ho, H⟩
end Go.Proofs.YtfaokllgaambjaaGreatDoor
namespace Go.Proofs.YtfaokllgaambjaaGreatDoor
open Go Go.Eng
set_option maxRecDepth 100000
set_option maxHeartbeats 1600000
theorem ag74 : aggOf Tryz.prog 74 = some 5 := by kernel_rfl
theorem cl125 : callable Tryz.prog 125 = true := by kernel_rfl
theorem fo79_2 : fieldOff Tryz.prog 79 2 = some 4 := by kernel_rfl
theorem sz72 : szOf Tryz.prog 72 = some 1 := by kernel_rfl
theorem sz74 : szOf Tryz.prog 74 = some 5 := by kernel_rfl
theorem zr74 : (Tryz.prog.info? 74).bind (·.zero) = some (.agg #[.int .i64 0, .int .i64 0, .int .i64 0, .int .i64 0, .slice none 0 0]) := by kernel_rfl
def ZL (xs : List (Nat × Nat)) (zs : List (Int × Int)) : Prop := xs.length = zs.length ∧ ∀ (i : Nat) (z : Int × Int), zs[i]? = some z → ∃ f, xs[i]? = some f ∧ Zc f z
def cjL (zs : List (Int × Int)) : List (Int × Int) := zs.map fun z => (z.1, -z.2)
def ZP (xs : List (Nat × Nat)) (zs : List (Int × Int)) (m : Nat) : Prop := xs.length = zs.length ∧ ∀ (i : Nat) (z : Int × Int), i < m → zs[i]? = some z → ∃ f, xs[i]? = some f ∧ Zc f z
theorem ZP.set {xs : List (Nat × Nat)} {zs : List (Int × Int)} {m : Nat} {f : Nat × Nat} {z : Int × Int} (h : ZP xs zs m) (hz : zs[m]? = some z) (hf : Zc f z) : ZP (xs.set m f) zs (m + 1) := by
 refine ⟨by simp [h.1], fun i y hi hy => ?_⟩
 rw [List.getElem?_set]
 by_cases e : m = i
 · subst e
   rw [hz] at hy; cases hy
   rw [if_pos rfl, if_pos (by rw [h.1]; exact getE_lt hz)]; exact ⟨f, rfl, hf⟩
 · rw [if_neg e]; exact h.2 i y (by omega) hy
theorem ZP.full {xs : List (Nat × Nat)} {zs : List (Int × Int)} (h : ZP xs zs zs.length) : ZL xs zs := ⟨h.1, fun i z hz => h.2 i z (getE_lt hz) hz⟩
theorem elSp : Elem Tryz.prog 72 178 7 56 := Elem.of (by kernel_rfl)
theorem spsV_cell (l : List Sp) : ∀ v ∈ spsV l, isCell v = true := by
 intro v hv
 obtain ⟨t, ht, hv⟩ := List.mem_flatten.1 hv
 obtain ⟨s, _, rfl⟩ := List.mem_map.1 ht
 exact spV_cell s v hv
def pgV (n nc inn out : Nat) (p : Option Addr) (m c : Nat) : List Value := [.int .i64 ((n : Nat) : Int), .int .i64 ((nc : Nat) : Int), .int .i64 ((inn : Nat) : Int), .int .i64 ((out : Nat) : Int), .slice p m c]
def plV (o0 o1 o2 wy tx : Value) (n nc inn out : Nat) (p : Option Addr) (m c : Nat) : List Value := [o0, o1, o2, wy] ++ pgV n nc inn out p m c ++ [tx]
theorem conj_b {w0 w : World} {F : List Seg} (H : Hp w0 w F) {xs : List (Nat × Nat)} {zs : List (Int × Int)} {px : Option Addr} {cx : Nat} (hs : SlAt F px (cxs xs)) (hz : ZL xs zs) (hl : xs.length ≤ 1000) : Ret Tryz.prog 94 [.slice px xs.length cx] w fun v w' => ∃ b ys, v = .slice (some ⟨b, 0, none⟩) xs.length xs.length ∧ ZL ys (cjL zs) ∧ Hp w0 w' ([(b, cel (cxs ys) 49)] :: F) := by
 refine Calls.of_J (n := 23) Tryz.func94 rfl rfl rfl (J.seq (J.region (JL.g (RX.assign) (JL.nil (J.seq (J.region (JL.ms rfl (JL.g (RX.len_slice rfl (by rw [sl27]; rfl) rfl) ?_))))))))
 refine JL.e (EX.makeS (e := 49) (m := xs.length) H mkC.1 mkC.2 rfl rfl rfl (by omega) (by omega) (by omega)) ?_
 rintro _ w ⟨bo, rfl, H⟩
 rw [fnL_rep, repC] at H
 refine JL.al rfl (JL.nil (J.seq (J.seq (J.region (JL.ms rfl (JL.g (RX.len_slice rfl (by rw [sl27]; rfl) rfl) ?_))))))
 refine JL.g (RX.move) (JL.nil (J.block (J.loop (ι := Nat × List (Nat × Nat)) (S := fun z => [(11, .int .i64 ((z.1 : Nat) : Int))]) (Φ := fun z w => z.1 ≤ xs.length ∧ ZP z.2 (cjL zs) z.1 ∧ Hp w0 w ([(bo, cel (cxs z.2) 49)] :: F)) (μ := fun z => xs.length - z.1) (C := [(3, _), (9, _), (10, _)]) (0, List.replicate xs.length (0, 0)) ⟨rfl, rfl, rfl, trivial⟩ ⟨rfl, trivial⟩ ?_ ?_)))
 · exact ⟨by simp, ⟨by simp [cjL, hz.1], fun i z h => absurd h (Nat.not_lt_zero _)⟩, H⟩
 clear H
 rintro ⟨i, ys⟩ ρ w ⟨hi, hy, H⟩ IH
 simp only at hi hy H
 dsimp only
 refine J.seq (J.region (JL.g (RX.lt rfl rfl) (JL.nil (J.seq (J.cond_d rfl (fun hlt => ?_) (fun hlt => ?_))))))
 ·
  have hzl := hz.1
  have hyl := hy.1
  have hcl : (cjL zs).length = zs.length := by simp [cjL]
  obtain ⟨z, hzi⟩ : ∃ z, zs[i]? = some z := ⟨_, List.getElem?_eq_getElem (by omega)⟩
  obtain ⟨f, hf, hfz⟩ := hz.2 i z hzi
  obtain ⟨pb, po, rfl, hpp⟩ := hs.some (by rw [cxs_len]; omega)
  refine J.skip (J.seq (J.block (J.seq (J.region (JL.mi rfl (JL.g (RX.indexAddr rfl rfl sl27 (by omega) (by omega) (o' := po + i) (by omega)) (JL.g (RX.loadS H hs.cons rfl (j := i) rfl (v := .complex .f64 f.1 f.2) (cxs_get hf) one49) (JL.ai rfl (JL.g (RX.assignv (v := .complex _ _ _) rfl) (JL.nil (J.region (JL.ms rfl (JL.mi rfl (JL.g (RX.movev (v := .complex _ _ _) rfl) (JL.e (EX.call rfl cl125 rfl ((Conj_b H hfz))) ?_)))))))))))))))
  rintro _ w ⟨r, rfl, hr, H⟩
  refine JL.g (RX.indexAddr rfl rfl sl27 (by omega) (by omega) (o' := i) (by omega)) (JL.e (EX.store (v := .complex _ _ _) H rfl rfl (i := 0) rfl rfl (by rw [cxs_len]; omega) sz49 rfl rfl) ?_)
  rintro _ w H
  refine JL.nil (J.inBlock (J.region (JL.g (RX.add rfl rfl (wi (n := i + 1) (by omega) (by omega))) (JL.mi rfl (JL.nil ?_)))))
  rw [← cxs_set] at H
  exact IH (i + 1, ys.set i r) _ _ (by simp only; omega) ⟨rfl, rfl, rfl, trivial⟩ ⟨rfl, trivial⟩ ⟨by simp only; omega, hy.set (z := (z.1, -z.2)) (by simp [cjL, hzi]) hr, H⟩
 ·
  refine J.exit rfl (J.seq (J.region (JL.ms rfl (JL.al rfl (JL.nil (J.ret1 (v := .slice _ _ _) Tryz.func94 rfl rfl ?_))))))
  obtain rfl : i = xs.length := by omega
  exact ⟨_, rfl, bo, ys, rfl, ZP.full (by rw [show (cjL zs).length = xs.length by simp [cjL, hz.1]]; exact hy), H⟩
theorem pLength_b {w0 w : World} {F : List Seg} {bp : Nat} {o0 o1 o2 wy tx : Value} {n nc inn out cps : Nat} {ps : Option Addr} {ss : List Sp} (H : Hp w0 w ([(bp, cel (plV o0 o1 o2 wy tx n nc inn out ps ss.length cps) 79)] :: F)) : Ret Tryz.prog 91 [.pointer (some ⟨bp, 0, none⟩)] w fun v w' => v = .int .i64 ((n : Nat) : Int) ∧ Hp w0 w' ([(bp, cel (plV o0 o1 o2 wy tx n nc inn out ps ss.length cps) 79)] :: F) := by
 refine Calls.of_J (n := 8) Tryz.func91 rfl rfl rfl (J.seq (J.region (JL.g (RX.assign) (JL.nil (J.seq (J.region (JL.mp rfl (JL.g (RX.nilCheck rfl) (JL.g (RX.fieldAddr rfl fo79_2 rfl) (JL.g (RX.fieldAddr rfl fo74_0 rfl) (JL.g (RX.load H rfl (i := 0) (v := .int _ _) rfl rfl one3) (JL.ai rfl (JL.nil (J.ret1 (v := .int _ _) Tryz.func91 rfl rfl ?_))))))))))))))
 exact ⟨_, rfl, rfl, H⟩
theorem pProgram_b {w0 w : World} {F : List Seg} {bp : Nat} {o0 o1 o2 wy tx : Value} {n nc inn out cps : Nat} {ps : Option Addr} {ss : List Sp} (H : Hp w0 w ([(bp, cel (plV o0 o1 o2 wy tx n nc inn out ps ss.length cps) 79)] :: F)) (hs : SlAt F ps (spsV ss)) (hl : ss.length ≤ 1000) : Ret Tryz.prog 93 [.pointer (some ⟨bp, 0, none⟩)] w fun v w' => ∃ q c sl, v = .agg (pgV n nc inn out q ss.length c).toArray ∧ OwnSl 178 7 q ss.length c (spsV ss) sl ∧ Hp w0 w' (sl :: [(bp, cel (plV o0 o1 o2 wy tx n nc inn out ps ss.length cps) 79)] :: F) := by
 refine Calls.of_J (n := 13) Tryz.func93 rfl rfl rfl (J.seq (J.region (JL.e (EX.alloc H zr74 rfl) ?_)))
 rintro _ w ⟨b2, rfl, H⟩
 refine JL.nil (J.seq (J.region (JL.mp rfl (JL.g (RX.nilCheck rfl) (JL.g (RX.fieldAddr rfl fo79_2 rfl) (JL.g (RX.loadAgg H rfl (i := 1) (vs := pgV n nc inn out ps ss.length cps) rfl rfl ag74) (JL.e (EX.alloc H zr74 rfl) ?_)))))))
 rintro _ w ⟨b3, rfl, H⟩
 refine JL.e (EX.storeAgg H rfl rfl (i := 0) (vs := pgV n nc inn out ps ss.length cps) rfl (by simp [pgV, isCell]) (by simp [pgV]) sz74 rfl rfl) ?_
 rintro _ w H
 refine JL.nil (J.seq ?_)
 replace H : Hp w0 w ([(b3, cel (pgV n nc inn out ps ss.length cps) 74)] :: _) := H
 replace H := H.nil
 refine J.region (JL.g (RX.fieldAddr rfl fo74_4 rfl) (JL.g (RX.load H rfl (i := 1) (v := .slice _ _ _) rfl rfl one72) (JL.e (EX.append (ys := spsV ss) (L' := fun s' => s' :: [(b3, cel (pgV n nc inn out ps ss.length cps) 74)] :: _) H elSp rfl rfl (i := 0) rfl OwnSl.nil hs.cons.cons.cons.cons (spsV_len ss) (spsV_cell ss) (by decide) (by omega) (by omega) (fun _ => rfl)) ?_)))
 rintro _ w ⟨q, c, sl, rfl, ho, H⟩
 rw [Nat.zero_add] at ho
 rw [Nat.zero_add ss.length]
 rw [List.nil_append] at ho
 refine JL.g (RX.fieldAddr rfl fo74_4 rfl) (JL.e (EX.store (v := .slice _ _ _) H rfl rfl (i := 1) rfl rfl (by simp [pgV]) sz72 rfl rfl) ?_)
 rintro _ w H
 refine JL.nil (J.seq (J.region (JL.g (RX.loadAgg H rfl (i := 1) (vs := pgV n nc inn out q ss.length c) rfl rfl ag74) (JL.e (EX.storeAgg H rfl rfl (i := 2) (vs := pgV n nc inn out q ss.length c) rfl (by simp [pgV, isCell]) (by simp [pgV]) sz74 rfl rfl) ?_))))
 rintro _ w H
 refine JL.nil (J.retc Tryz.func93 rfl H rfl (i := 2) (vs := pgV n nc inn out q ss.length c) rfl rfl ag74 ?_)
 exact ⟨_, rfl, q, c, sl, rfl, ho, ((H.pull 1 rfl).drop.pull 1 rfl).drop⟩
end Go.Proofs.YtfaokllgaambjaaGreatDoor
namespace Go.Proofs.YtfaokllgaambjaaGreatDoor
open Go Go.Eng
set_option maxRecDepth 100000
set_option maxHeartbeats 1600000
theorem cl94 : callable Tryz.prog 94 = true := by kernel_rfl
theorem cl97 : callable Tryz.prog 97 = true := by kernel_rfl
theorem cl98 : callable Tryz.prog 98 = true := by kernel_rfl
theorem cl99 : callable Tryz.prog 99 = true := by kernel_rfl
theorem fo153_1 : fieldOff Tryz.prog 153 1 = some 1 := by kernel_rfl
theorem fo153_2 : fieldOff Tryz.prog 153 2 = some 2 := by kernel_rfl
theorem one146 : oneOf Tryz.prog 146 = true := by kernel_rfl
theorem rLeft_b {w0 w : World} {F : List Seg} {dn st at_ : Nat} {inv : Bool} {br bm bc ac n nc out inn : Nat} {pv : Value} {p1 by_ fl : Value} {fr : List Value} {ps : Option Addr} {cps : Nat} {ss : List Sp} (H : Hp w0 w ([(br, cel [pv, .bool inv, .pointer (some ⟨bm, 0, none⟩)] 153)] :: [(bm, cel (mcV (.int .i64 ((n : Nat) : Int)) p1 (.int .i64 ((inn : Nat) : Int)) (.int .i64 ((out : Nat) : Int)) (.slice ps ss.length cps) by_ (.slice (some ⟨bc, 0, none⟩) nc nc) (.int .i64 ((ac : Nat) : Int)) (.int .i64 ((dn : Nat) : Int)) (.int .i64 ((st : Nat) : Int)) (.int .i64 ((at_ : Nat) : Int)) fl fr) 185)] :: F)) (h : dn ≤ ac) (h2 : ac ≤ 1000000) : Ret Tryz.prog 58 [.pointer (some ⟨br, 0, none⟩)] w fun v w' => v = .int .i64 ((ac - dn : Nat) : Int) ∧ Hp w0 w' ([(br, cel [pv, .bool inv, .pointer (some ⟨bm, 0, none⟩)] 153)] :: [(bm, cel (mcV (.int .i64 ((n : Nat) : Int)) p1 (.int .i64 ((inn : Nat) : Int)) (.int .i64 ((out : Nat) : Int)) (.slice ps ss.length cps) by_ (.slice (some ⟨bc, 0, none⟩) nc nc) (.int .i64 ((ac : Nat) : Int)) (.int .i64 ((dn : Nat) : Int)) (.int .i64 ((st : Nat) : Int)) (.int .i64 ((at_ : Nat) : Int)) fl fr) 185)] :: F) := by
 refine Calls.of_J (n := 8) Tryz.func58 rfl rfl rfl (J.seq (J.region (JL.g (RX.assign) (JL.nil (J.seq (J.region (JL.mp rfl (JL.g (RX.nilCheck rfl) (JL.g (RX.fieldAddr rfl fo153_2 rfl) (JL.g (RX.load H rfl (i := 0) (v := .pointer _) rfl rfl one146) (JL.e (EX.call rfl cl96 rfl ((mLeft_b (H.pull 1 rfl) h h2))) ?_)))))))))))
 rintro _ w ⟨rfl, H⟩
 replace H := H.pull 1 rfl
 refine JL.ai rfl (JL.nil (J.ret1 (v := .int _ _) Tryz.func58 rfl rfl ?_))
 exact ⟨_, rfl, rfl, H⟩
theorem rDo_b {w0 w : World} {F : List Seg} {inv : Bool} {br bm bc ac n nc out inn : Nat} {pv : Value} {p1 by_ fl : Value} {fr : List Value} {ps : Option Addr} {cps : Nat} {ss : List Sp} {fs : List (Nat × Nat)} {cs cfin : List Cf} {X : List Int} (H : Hp w0 w ([(br, cel [pv, .bool inv, .pointer (some ⟨bm, 0, none⟩)] 153)] :: [(bm, cel (mcV (.int .i64 ((n : Nat) : Int)) p1 (.int .i64 ((inn : Nat) : Int)) (.int .i64 ((out : Nat) : Int)) (.slice ps ss.length cps) by_ (.slice (some ⟨bc, 0, none⟩) nc nc) (.int .i64 ((ac : Nat) : Int)) (.int .i64 ((0 : Nat) : Int)) (.int .i64 ((0 : Nat) : Int)) (.int .i64 ((0 : Nat) : Int)) fl fr) 185)] :: [(bc, cel (cxs fs) 49)] :: F)) (hnc : fs.length = nc) (hX : InX X) (hl : cs.length ≤ 1000) (hr : RelF X fs cs) (hs : SlAt F ps (spsV ss)) (hok : ∀ s ∈ ss, s.okS) (hac : ac = remS ss) (hss : ss.length ≤ 500) (hac1 : 1 ≤ ac) (hac2 : ac ≤ 100000) (hp : runP ss cs = some cfin) : Ret Tryz.prog 59 [.pointer (some ⟨br, 0, none⟩), .int .i64 ((ac : Nat) : Int)] w fun v w' => v = .tuple #[.int .i64 ((ac : Nat) : Int), .nilIface] ∧ ∃ fs', fs'.length = nc ∧ RelF X fs' cfin ∧ Hp w0 w' ([(br, cel [pv, .bool inv, .pointer (some ⟨bm, 0, none⟩)] 153)] :: [(bm, cel (mcV (.int .i64 ((n : Nat) : Int)) p1 (.int .i64 ((inn : Nat) : Int)) (.int .i64 ((out : Nat) : Int)) (.slice ps ss.length cps) by_ (.slice (some ⟨bc, 0, none⟩) nc nc) (.int .i64 ((ac : Nat) : Int)) (.int .i64 ((ac : Nat) : Int)) (.int .i64 ((ss.length : Nat) : Int)) (.int .i64 ((0 : Nat) : Int)) fl fr) 185)] :: [(bc, cel (cxs fs') 49)] :: F) := by
 refine Calls.of_J (n := 14) Tryz.func59 rfl rfl rfl (J.seq ?_)
 subst hnc
 refine J.region (JL.g (RX.assign) (JL.g (RX.assign) (JL.nil (J.seq (J.region (JL.mp rfl (JL.g (RX.nilCheck rfl) (JL.g (RX.fieldAddr rfl fo153_2 rfl) (JL.g (RX.load H rfl (i := 0) (v := .pointer _) rfl rfl one146) (JL.mi rfl (JL.e (EX.call rfl cl97 rfl ((mRun_b (F := [(br, cel [pv, .bool inv, .pointer (some ⟨bm, 0, none⟩)] 153)] :: F) ((H.pull 2 rfl).pull 2 rfl) hX hl hr hs.cons hok hac hss hac1 hac2 hp))) ?_)))))))))))
 rintro _ w ⟨rfl, fs', h1, h2, H⟩
 replace H := H.pull 2 rfl
 refine JL.g (RX.extract rfl rfl) (JL.g (RX.extract (v := .nilIface) rfl rfl) (JL.ai rfl (JL.g (RX.assignv (v := .nilIface) rfl) (JL.nil (J.ret2 (v := .int _ _) Tryz.func59 rfl rfl rfl ?_)))))
 exact ⟨_, rfl, rfl, fs', h1, h2, H⟩
theorem rResF_b {w0 w : World} {F : List Seg} {br bm bc ac n nc out inn : Nat} {pv : Value} {p1 by_ fl : Value} {fr : List Value} {ps : Option Addr} {cps : Nat} {ss : List Sp} {fs : List (Nat × Nat)} {st at_ : Nat} (H : Hp w0 w ([(br, cel [pv, .bool false, .pointer (some ⟨bm, 0, none⟩)] 153)] :: [(bm, cel (mcV (.int .i64 ((n : Nat) : Int)) p1 (.int .i64 ((inn : Nat) : Int)) (.int .i64 ((out : Nat) : Int)) (.slice ps ss.length cps) by_ (.slice (some ⟨bc, 0, none⟩) nc nc) (.int .i64 ((ac : Nat) : Int)) (.int .i64 ((ac : Nat) : Int)) (.int .i64 ((st : Nat) : Int)) (.int .i64 ((at_ : Nat) : Int)) fl fr) 185)] :: [(bc, cel (cxs fs) 49)] :: F)) (hl : fs.length = nc) (hn : out + n ≤ nc) (hnc : nc ≤ 1000) (hac : ac ≤ 100000) : Ret Tryz.prog 60 [.pointer (some ⟨br, 0, none⟩)] w fun v w' => ∃ q c sl, v = .tuple #[.slice q n c, .nilIface] ∧ OwnSl 49 1 q n c (cxs ((fs.drop out).take n)) sl ∧ Hp w0 w' (sl :: [(br, cel [pv, .bool false, .pointer (some ⟨bm, 0, none⟩)] 153)] :: [(bm, cel (mcV (.int .i64 ((n : Nat) : Int)) p1 (.int .i64 ((inn : Nat) : Int)) (.int .i64 ((out : Nat) : Int)) (.slice ps ss.length cps) by_ (.slice (some ⟨bc, 0, none⟩) nc nc) (.int .i64 ((ac : Nat) : Int)) (.int .i64 ((ac : Nat) : Int)) (.int .i64 ((st : Nat) : Int)) (.int .i64 ((at_ : Nat) : Int)) fl fr) 185)] :: [(bc, cel (cxs fs) 49)] :: F) := by
 refine Calls.of_J (n := 45) Tryz.func60 rfl rfl rfl (J.seq (J.region (JL.g (RX.assign) (JL.g (RX.assign) (JL.nil (J.seq (J.region (JL.mp rfl (JL.g (RX.nilCheck rfl) (JL.g (RX.fieldAddr rfl fo153_2 rfl) (JL.g (RX.load H rfl (i := 0) (v := .pointer _) rfl rfl one146) (JL.e (EX.call rfl cl98 rfl ((mOut_b (F := [(br, cel [pv, .bool false, .pointer (some ⟨bm, 0, none⟩)] 153)] :: F) ((H.pull 2 rfl).pull 2 rfl) hl hn hnc hac))) ?_))))))))))))
 rintro _ w ⟨q, c, sl, rfl, ho, H⟩
 replace H := (H.pull 3 rfl).pull 1 rfl
 refine JL.g (RX.movev (v := .tuple _) rfl) (JL.g (RX.extract rfl rfl) (JL.g (RX.extract (v := .nilIface) rfl rfl) (JL.al rfl (JL.g (RX.assignv (v := .nilIface) rfl) (JL.nil (J.seq (J.seq (J.region (JL.g (RX.movev (v := .nilIface) rfl) (JL.g (RX.ifnil_neq (v := .nilIface) rfl rfl rfl if31) (JL.mb rfl (JL.go ⟨_, rfl, rfl⟩ (RX.movev (v := .pointer _) rfl) (JL.go ⟨_, rfl, rfl⟩ (RX.nilCheck rfl) (JL.go ⟨_, rfl, rfl⟩ (RX.fieldAddr rfl fo153_1 rfl) (JL.go ⟨_, rfl, rfl⟩ (RX.load H rfl (i := 1) (v := .bool _) rfl rfl one4) (JL.go ⟨_, rfl, rfl⟩ (RX.not rfl) (JL.g (RX.pick_f rfl rfl) (JL.nil (J.cond_t rfl rfl (J.seq (J.region (JL.ms rfl (JL.g (RX.movev (v := .nilIface) rfl) (JL.al rfl (JL.g (RX.assignv (v := .nilIface) rfl) (JL.nil (J.ret2 (v := .slice _ _ _) Tryz.func60 rfl rfl rfl ?_)))))))))))))))))))))))))))
 exact ⟨_, rfl, q, c, sl, rfl, ho, H⟩
theorem rResI_b {w0 w : World} {F : List Seg} {br bm bc ac n nc out inn : Nat} {pv : Value} {p1 by_ fl : Value} {fr : List Value} {ps : Option Addr} {cps : Nat} {ss : List Sp} {fs : List (Nat × Nat)} {st at_ : Nat} {zs : List (Int × Int)} {c2 : Nat} (H : Hp w0 w ([(br, cel [pv, .bool true, .pointer (some ⟨bm, 0, none⟩)] 153)] :: [(bm, cel (mcV (.int .i64 ((n : Nat) : Int)) p1 (.int .i64 ((inn : Nat) : Int)) (.int .i64 ((out : Nat) : Int)) (.slice ps ss.length cps) by_ (.slice (some ⟨bc, 0, none⟩) nc nc) (.int .i64 ((ac : Nat) : Int)) (.int .i64 ((ac : Nat) : Int)) (.int .i64 ((st : Nat) : Int)) (.int .i64 ((at_ : Nat) : Int)) fl fr) 185)] :: [(bc, cel (cxs fs) 49)] :: F)) (hl : fs.length = nc) (hn : out + n ≤ nc) (hnc : nc ≤ 1000) (hac : ac ≤ 100000) (hc2 : c2 ≤ 2) (hn2 : n = 2 ^ c2) (hz : ZL ((fs.drop out).take n) (zs.map fun z => (z.1 * ((2 ^ c2 : Nat) : Int), -(z.2 * ((2 ^ c2 : Nat) : Int))))) (hzb : ∀ z ∈ zs, z.1.natAbs < 9007199254740992 ∧ z.2.natAbs < 9007199254740992) : Ret Tryz.prog 60 [.pointer (some ⟨br, 0, none⟩)] w fun v w' => ∃ b ys, v = .tuple #[.slice (some ⟨b, 0, none⟩) n n, .nilIface] ∧ ZL ys zs ∧ Hp w0 w' ([(b, cel (cxs ys) 49)] :: [(br, cel [pv, .bool true, .pointer (some ⟨bm, 0, none⟩)] 153)] :: [(bm, cel (mcV (.int .i64 ((n : Nat) : Int)) p1 (.int .i64 ((inn : Nat) : Int)) (.int .i64 ((out : Nat) : Int)) (.slice ps ss.length cps) by_ (.slice (some ⟨bc, 0, none⟩) nc nc) (.int .i64 ((ac : Nat) : Int)) (.int .i64 ((ac : Nat) : Int)) (.int .i64 ((st : Nat) : Int)) (.int .i64 ((at_ : Nat) : Int)) fl fr) 185)] :: [(bc, cel (cxs fs) 49)] :: F) := by
 refine Calls.of_J (n := 45) Tryz.func60 rfl rfl rfl (J.seq ?_)
 have hzl : zs.length = n := by
   have := hz.1
   simp at this; omega
 have hn4 : 1 ≤ n ∧ n ≤ 4 := by
   have : c2 = 0 ∨ c2 = 1 ∨ c2 = 2 := by omega
   rcases this with rfl | rfl | rfl <;> simp at hn2 <;> omega
 have hxl : ((fs.drop out).take n).length = n := by simp; omega
 refine J.region (JL.g (RX.assign) (JL.g (RX.assign) (JL.nil (J.seq (J.region (JL.mp rfl (JL.g (RX.nilCheck rfl) (JL.g (RX.fieldAddr rfl fo153_2 rfl) (JL.g (RX.load H rfl (i := 0) (v := .pointer _) rfl rfl one146) (JL.e (EX.call rfl cl98 rfl ((mOut_b (F := [(br, cel [pv, .bool true, .pointer (some ⟨bm, 0, none⟩)] 153)] :: F) ((H.pull 2 rfl).pull 2 rfl) hl hn hnc hac))) ?_))))))))))
 rintro _ w ⟨q, c, sl, rfl, ho, H⟩
 replace H := (H.pull 3 rfl).pull 1 rfl
 refine JL.g (RX.movev (v := .tuple _) rfl) (JL.g (RX.extract rfl rfl) (JL.g (RX.extract (v := .nilIface) rfl rfl) (JL.al rfl (JL.g (RX.assignv (v := .nilIface) rfl) (JL.nil (J.seq (J.seq (J.region (JL.g (RX.movev (v := .nilIface) rfl) (JL.g (RX.ifnil_neq (v := .nilIface) rfl rfl rfl if31) (JL.mb rfl (JL.go ⟨_, rfl, rfl⟩ (RX.movev (v := .pointer _) rfl) (JL.go ⟨_, rfl, rfl⟩ (RX.nilCheck rfl) (JL.go ⟨_, rfl, rfl⟩ (RX.fieldAddr rfl fo153_1 rfl) (JL.go ⟨_, rfl, rfl⟩ (RX.load H rfl (i := 1) (v := .bool _) rfl rfl one4) (JL.go ⟨_, rfl, rfl⟩ (RX.not rfl) (JL.g (RX.pick_f rfl rfl) (JL.nil (J.cond_f rfl rfl (J.skip (J.seq (J.region (JL.ms rfl (JL.e (EX.call rfl cl94 rfl ((show Ret _ _ [.slice q n c] w _ by have h9 := conj_b (cx := c) H ho.slAt hz (by omega); rw [hxl] at h9; exact h9))) ?_))))))))))))))))))))))))
 rintro _ w ⟨bo, ys, rfl, hy, H⟩
 replace H := (H.pull 1 rfl).drop
 refine JL.al rfl (JL.nil (J.seq (J.seq (J.region (JL.ms rfl (JL.g (RX.len_slice rfl (by rw [sl27]; rfl) rfl) ?_))))))
 refine JL.g (RX.move) (JL.nil (J.block (J.loop (ι := Nat × List (Nat × Nat)) (S := fun z => [(31, .int .i64 ((z.1 : Nat) : Int))]) (Φ := fun z w => z.1 ≤ n ∧ ZP z.2 zs z.1 ∧ (∀ i, z.1 ≤ i → z.2[i]? = ys[i]?) ∧ Hp w0 w ([(bo, cel (cxs z.2) 49)] :: [(br, cel [pv, .bool true, .pointer (some ⟨bm, 0, none⟩)] 153)] :: [(bm, cel (mcV (.int .i64 ((n : Nat) : Int)) p1 (.int .i64 ((inn : Nat) : Int)) (.int .i64 ((out : Nat) : Int)) (.slice ps ss.length cps) by_ (.slice (some ⟨bc, 0, none⟩) nc nc) (.int .i64 ((ac : Nat) : Int)) (.int .i64 ((ac : Nat) : Int)) (.int .i64 ((st : Nat) : Int)) (.int .i64 ((at_ : Nat) : Int)) fl fr) 185)] :: [(bc, cel (cxs fs) 49)] :: F)) (μ := fun z => n - z.1) (C := [(4, _), (29, _), (30, _)]) (0, ys) ⟨rfl, rfl, rfl, trivial⟩ ⟨rfl, trivial⟩ ?_ ?_)))
 · exact ⟨by simp, ⟨by rw [hy.1]; simp [cjL], fun i z h => absurd h (Nat.not_lt_zero _)⟩, fun i _ => rfl, H⟩
 clear H
 rintro ⟨i, gs⟩ ρ w ⟨hi, hg, hgy, H⟩ IH
 simp only at hi hg hgy H
 dsimp only
 refine J.seq (J.region (JL.g (RX.lt rfl rfl) (JL.nil (J.seq (J.cond_d rfl (fun hlt => ?_) (fun hlt => ?_))))))
 ·
  have hgl := hg.1
  obtain ⟨z, hzi⟩ : ∃ z, zs[i]? = some z := ⟨_, List.getElem?_eq_getElem (by omega)⟩
  obtain ⟨hb1, hb2⟩ := hzb z (List.mem_of_getElem? hzi)
  obtain ⟨f, hf, hfz⟩ := hy.2 i (z.1 * ((2 ^ c2 : Nat) : Int), z.2 * ((2 ^ c2 : Nat) : Int)) (by simp [cjL, hzi])
  have hgf : gs[i]? = some f := (hgy i (Nat.le_refl _)).trans hf
  refine J.skip (J.seq (J.block (J.seq (J.region (JL.mi rfl (JL.g (RX.indexAddr rfl rfl sl27 (by omega) (by omega) (o' := i) (by omega)) (JL.g (RX.load H rfl (i := 0) (v := .complex .f64 f.1 f.2) rfl (cxs_get hgf) one49) (JL.ai rfl (JL.g (RX.assignv (v := .complex _ _ _) rfl) (JL.nil (J.region (JL.ms rfl (JL.mi rfl (JL.g (RX.movev (v := .complex _ _ _) rfl) (JL.ms rfl (JL.g (RX.len_slice rfl (by rw [sl27]; rfl) rfl) ?_))))))))))))))))
  refine JL.e (EX.call rfl cl99 rfl ((show Ret _ _ [.complex .f64 f.1 f.2, .int .i64 ((n : Nat) : Int)] w _ by rw [hn2]; exact Over_b H hc2 hfz hb1 hb2))) ?_
  rintro _ w ⟨r, rfl, hr, H⟩
  refine JL.g (RX.indexAddr rfl rfl sl27 (by omega) (by omega) (o' := i) (by omega)) (JL.e (EX.store (v := .complex _ _ _) H rfl rfl (i := 0) rfl rfl (by rw [cxs_len]; omega) sz49 rfl rfl) ?_)
  rintro _ w H
  refine JL.nil (J.inBlock (J.region (JL.g (RX.add rfl rfl (wi (n := i + 1) (by omega) (by omega))) (JL.mi rfl (JL.nil ?_)))))
  rw [← cxs_set] at H
  exact IH (i + 1, gs.set i r) _ _ (by simp only; omega) ⟨rfl, rfl, rfl, trivial⟩ ⟨rfl, trivial⟩ ⟨by simp only; omega, hg.set hzi hr, fun j hj => by simp only at hj ⊢; rw [List.getElem?_set_ne (by omega)]; exact hgy j (by omega), H⟩
 ·
  obtain rfl : i = n := by omega
  refine J.exit rfl (J.seq (J.region (JL.ms rfl (JL.al rfl (JL.g (RX.assign) (JL.nil (J.ret2 (v := .slice _ _ _) Tryz.func60 rfl rfl rfl ?_)))))))
  exact ⟨_, rfl, bo, gs, rfl, ZP.full (by rw [hzl]; exact hg), H⟩
end Go.Proofs.YtfaokllgaambjaaGreatDoor
namespace Go.Proofs.YtfaokllgaambjaaGreatDoor
open Go Go.Eng
set_option maxRecDepth 100000
set_option maxHeartbeats 1600000
theorem fo232_0 : fieldOff Tryz.prog 232 0 = some 0 := by kernel_rfl
theorem ki5 : kindOf Tryz.prog 5 = some .u8 := by kernel_rfl
theorem one88 : oneOf Tryz.prog 88 = true := by kernel_rfl
theorem sz88 : szOf Tryz.prog 88 = some 1 := by kernel_rfl
theorem elB : Elem Tryz.prog 88 5 1 1 := Elem.of (by kernel_rfl)
theorem new_w {w0 w : World} {F : List Seg} (H : Hp w0 w F) : Ret Tryz.prog 151 [] w fun v w' => ∃ b, v = .pointer (some ⟨b, 0, none⟩) ∧ Hp w0 w' ([(b, cel [.slice none 0 0] 232)] :: F) := by
 refine Calls.of_J (n := 3) Tryz.func151 rfl rfl rfl (J.seq (J.region (JL.g (RX.assign) (JL.nil (J.seq (J.region (JL.g (RX.build (pv := []) (res := [.slice none 0 0]) rfl (by kernel_rfl)) (JL.e (EX.box (v := .agg _) H rfl rfl) ?_))))))))
 rintro _ w ⟨b1, rfl, H⟩
 refine JL.ap rfl (JL.nil (J.ret1 (v := .pointer _) Tryz.func151 rfl rfl ?_))
 exact ⟨_, rfl, b1, rfl, H⟩
theorem uint_w {w0 w : World} {F : List Seg} {b T c : Nat} {p : Option Addr} {s : Seg} {x : Nat} {xs : List UInt8} (H : Hp w0 w ([(b, cel [.slice p xs.length c] T)] :: s :: F)) (ho : OwnSl 5 1 p xs.length c (bv xs) s)
 (hx : x ≤ 18446744073709551615) (hl : xs.length ≤ 1099511627776) : Ret Tryz.prog 153 [.pointer (some ⟨b, 0, none⟩), .int .u64 x] w fun v w' =>
   v = .tuple #[] ∧ ∃ p' c' s', OwnSl 5 1 p' (xs ++ varint x).length c' (bv (xs ++ varint x)) s' ∧ Hp w0 w' ([(b, cel [.slice p' (xs ++ varint x).length c'] T)] :: s' :: F) := by
 refine Calls.of_J (n := 31) Tryz.func153 rfl rfl rfl (J.seq (J.block (J.loop (ι := Nat × List UInt8 × Option Addr × Nat × Seg) (S := fun q => [(1, .int .u64 (q.1 : Nat))]) (Φ := fun q w => q.2.1 ++ varint q.1 = xs ++ varint x ∧ q.1 ≤ 18446744073709551615 ∧ OwnSl 5 1 q.2.2.1 q.2.1.length q.2.2.2.1 (bv q.2.1) q.2.2.2.2 ∧ Hp w0 w ([(b, cel [.slice q.2.2.1 q.2.1.length q.2.2.2.1] T)] :: q.2.2.2.2 :: F)) (μ := fun q => q.1) (C := [(0, _)]) (x, xs, p, c, s) ⟨rfl, trivial⟩ ⟨rfl, trivial⟩ ?_ ?_)))
 · exact ⟨rfl, hx, ho, H⟩
 clear H ho
 rintro ⟨y, ys, p, c, s⟩ ρ w ⟨he, hy, ho, H⟩ IH
 simp only at he hy ho H
 have hlen := congrArg List.length he
 simp only [List.length_append] at hlen
 have h10 := varint_len10 hx
 have h11 := varint_len10 hy
 dsimp only
 refine J.seq (J.seq (J.region (JL.mi rfl (JL.g (RX.gt rfl rfl) (JL.nil (J.cond_d rfl (fun hc => ?_) (fun hc => ?_)))))))
 ·
  refine J.skip (J.seq (J.block (J.region (JL.mp rfl (JL.mp rfl (JL.g (RX.nilCheck rfl) (JL.g (RX.fieldAddr rfl fo232_0 rfl) (JL.g (RX.load H rfl (i := 0) rfl rfl one88) (JL.mi rfl (JL.g (RX.conv rfl (by rw [ki86]; rfl) ki5 (wrap_u8 _)) ?_))))))))))
  refine JL.g (RX.or rfl rfl (or128 _)) (JL.e (EX.buildSlice1 H elB rfl rfl) ?_)
  rintro _ w ⟨b2, rfl, H⟩
  refine JL.e (EX.append (ys := [.int .u8 ((y % 128 + 128 : Nat) : Int)]) (L' := fun s' => [[(b2, cel [.int .u8 ((y % 128 + 128 : Nat) : Int)] 5)], [(b, cel [.slice p ys.length c] T)], s'] ++ F) H elB rfl rfl (i := 2) rfl ho (SlAt.here rfl) rfl (by simp [isCell]) (by decide) (by omega) (by omega) (fun _ => rfl)) ?_
  rintro _ w ⟨p2, c2, s2, rfl, ho2, H⟩
  refine JL.g (RX.nilCheck rfl) (JL.g (RX.fieldAddr rfl fo232_0 rfl) (JL.e (EX.store (v := .slice _ _ _) H rfl rfl (i := 1) rfl rfl (by simp) sz88 rfl rfl) ?_))
  rintro _ w H
  refine JL.nil (J.inBlock (J.region (JL.mi rfl (JL.g (RX.shr rfl rfl (by decide) (rfl : (y : Int) / (2 ^ (min (7 : Int).toNat IntKind.u64.bits) : Int) = _)) (JL.ai rfl (JL.nil ?_))))))
  have hyg : 128 ≤ y := by omega
  exact IH (y / 128, ys ++ [(y % 128 + 128).toUInt8], p2, c2, s2) _ _ (by simp only; omega) ⟨rfl, trivial⟩ ⟨rfl, trivial⟩ ⟨by rw [← he, varint_ge hyg]; simp, by simp only; omega, by show OwnSl 5 1 p2 (ys ++ [_]).length c2 (bv (ys ++ [_])) s2; rw [bv_app, bv1 (x := y % 128 + 128) (by omega)]; simpa using ho2, by simpa using H.drop⟩
 ·
  refine J.exit rfl (J.region ?_)
  have hyl : y < 128 := by omega
  rw [varint_lt hyl] at he
  refine JL.mp rfl (JL.mp rfl (JL.g (RX.nilCheck rfl) (JL.g (RX.fieldAddr rfl fo232_0 rfl) (JL.g (RX.load H rfl (i := 0) rfl rfl one88) (JL.mi rfl (JL.g (RX.conv rfl (by rw [ki86]; rfl) ki5 (w_u8 rfl (by omega) (by omega))) ?_))))))
  refine JL.e (EX.buildSlice1 H elB rfl rfl) ?_
  rintro _ w ⟨b2, rfl, H⟩
  refine JL.e (EX.append (ys := [.int .u8 (y : Int)]) (L' := fun s' => [[(b2, cel [.int .u8 (y : Int)] 5)], [(b, cel [.slice p ys.length c] T)], s'] ++ F) H elB rfl rfl (i := 2) rfl ho (SlAt.here rfl) rfl (by simp [isCell]) (by decide) (by omega) (by omega) (fun _ => rfl)) ?_
  rintro _ w ⟨p2, c2, s2, rfl, ho2, H⟩
  refine JL.g (RX.nilCheck rfl) (JL.g (RX.fieldAddr rfl fo232_0 rfl) (JL.e (EX.store (v := .slice _ _ _) H rfl rfl (i := 1) rfl rfl (by simp) sz88 rfl rfl) ?_))
  rintro _ w H
  refine JL.nil (J.end0 Tryz.func153 rfl ?_)
  exact ⟨_, rfl, rfl, p2, c2, s2, by rw [← he, bv_app]; simpa [bv1 (show y < 256 by omega)] using ho2, by rw [← he]; simpa using H.drop⟩
theorem out_w {w0 w : World} {F : List Seg} {b T c : Nat} {p : Option Addr} {s : Seg} {xs : List UInt8} (H : Hp w0 w ([(b, cel [.slice p xs.length c] T)] :: s :: F)) (ho : OwnSl 5 1 p xs.length c (bv xs) s)
 (hl : xs.length ≤ 140737488355328) : Ret Tryz.prog 156 [.pointer (some ⟨b, 0, none⟩)] w fun v w' =>
   ∃ p' c' s', v = .slice p' xs.length c' ∧ OwnSl 5 1 p' xs.length c' (bv xs) s' ∧ Hp w0 w' (s' :: [(b, cel [.slice p xs.length c] T)] :: s :: F) := by
 refine Calls.of_J (n := 8) Tryz.func156 rfl rfl rfl (J.seq (J.region (JL.g (RX.assign) (JL.nil (J.seq (J.region (JL.mp rfl (JL.g (RX.nilCheck rfl) (JL.g (RX.fieldAddr rfl fo232_0 rfl) (JL.g (RX.load H rfl (i := 0) rfl rfl one88) (JL.e (EX.append (L' := fun s' => s' :: [(b, cel [.slice p xs.length c] T)] :: s :: F) H.nil elB rfl rfl (i := 0) rfl OwnSl.nil (ho.slAt.cons.cons) (by simp [bv]) (bv_cell xs) (by decide) (by omega) (by omega) (fun _ => rfl)) ?_)))))))))))
 rintro _ w ⟨p2, c2, s2, rfl, ho2, H⟩
 refine JL.al rfl (JL.nil (J.ret1 (v := .slice _ _ _) Tryz.func156 rfl rfl ?_))
 simp only [Nat.zero_add, List.nil_append] at ho2 ⊢
 exact ⟨_, rfl, p2, c2, s2, rfl, ho2, H⟩
end Go.Proofs.YtfaokllgaambjaaGreatDoor

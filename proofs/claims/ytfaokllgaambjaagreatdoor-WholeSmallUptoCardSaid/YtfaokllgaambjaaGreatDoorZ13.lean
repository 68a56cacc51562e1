/- Part 13 of the proof that WholeSmall holds: what the functions on its way do, step by step. -/
import Derived.Test.YtfaokllgaambjaaGreatDoorZ1
import Derived.Test.YtfaokllgaambjaaGreatDoorZ2
import Derived.Test.YtfaokllgaambjaaGreatDoorZ3
import Derived.Test.YtfaokllgaambjaaGreatDoorZ4
import Derived.Test.YtfaokllgaambjaaGreatDoorZ5
import Derived.Test.YtfaokllgaambjaaGreatDoorZ7
import Derived.Test.YtfaokllgaambjaaGreatDoorZ8
import Derived.Test.YtfaokllgaambjaaGreatDoorZ9
import Derived.Test.YtfaokllgaambjaaGreatDoorZ10
import Derived.Test.YtfaokllgaambjaaGreatDoorZ11
import Derived.Test.YtfaokllgaambjaaGreatDoorZ12
set_option linter.unusedVariables false
set_option linter.unusedSimpArgs false
namespace Go.Proofs.YtfaokllgaambjaaGreatDoor
open Go Go.Eng
set_option maxRecDepth 100000
set_option maxHeartbeats 1600000
theorem form_facts {s : Stp} (h : formB s = true) : 1 ≤ s.op ∧ s.op ≤ 11 ∧ 0 ≤ s.dst ∧ s.dst ≤ 262143 ∧ 1 ≤ s.count ∧ s.count ≤ 262144 ∧
 0 ≤ s.src ∧ s.src ≤ 262143 ∧ 0 ≤ s.jump ∧ s.jump ≤ 262144 ∧ 0 ≤ s.n ∧ s.n ≤ 16384 ∧
 (s.op = 1 ∨ s.op = 2 ∨ s.op = 5 ∨ s.op = 6 → 1 ≤ s.jump) ∧ (s.op = 5 → 2 ≤ s.n ∧ s.n ≤ 5 ∧ s.count ≤ s.jump) ∧ (s.op = 6 → 1 ≤ s.n ∧ s.n ≤ 64 ∧ s.count ≤ s.n) := by
 unfold formB at h
 simp only [Bool.and_eq_true] at h
 obtain ⟨⟨hop, ⟨⟨⟨⟨⟨hd, hc⟩, hsr⟩, hj⟩, hn⟩, hk⟩⟩, ht⟩ := h
 have hop := of_decide_eq_true hop
 have hd := of_decide_eq_true hd
 have hc := of_decide_eq_true hc
 unfold tailB at ht
 rcases op_cases hop.1 hop.2 with e | e | e | e | e | e | e | e | e | e | e <;> rw [e] at hsr hj hn ht ⊢ <;>
   simp [fromB, rowOf, rows, row0] at hsr hj hn ht <;> omega
structure Cl where
  at_ : Int
  jump : Int
  cnt : Int
def Cl.last (c : Cl) : Int := c.at_ + (c.cnt - 1) * c.jump
def Cl.has (c : Cl) (x : Int) : Int := if x < c.at_ ∨ c.last < x ∨ (x - c.at_) % c.jump ≠ 0 then -1 else (x - c.at_) / c.jump
def wr (s : Stp) : Cl := if s.op = 2 then ⟨s.dst, s.jump, s.count⟩ else ⟨s.dst, 1, s.count⟩
def rds (s : Stp) : Option (Cl × Bool) :=
  if s.op = 1 then some (⟨s.src, s.jump, s.count⟩, false) else if s.op = 2 then some (⟨s.src, 1, s.count⟩, false)
  else if s.op = 6 then some (⟨s.src, s.jump, s.n⟩, true) else if s.op = 9 then some (⟨s.src, 1, s.count⟩, false) else none
def okRead (s : Stp) (r : Cl) (ev : Bool) (i : Nat) : Bool :=
  decide ((wr s).has (r.at_ + i * r.jump) < 0) || !((decide ((wr s).has (r.at_ + i * r.jump) ≠ i) && !ev) || (ev && decide (1 < s.count)))
def goodP (s : Stp) (n : Int) : Bool :=
  formB s && if s.op = 5 then decide (s.dst + (s.n - 1) * s.jump + (s.count - 1) < n)
    else decide ((wr s).last < n) && match rds s with
      | none => true
      | some (r, ev) => decide (r.last < n) && (List.range r.cnt.toNat).all (okRead s r ev)
def faultA (n : Int) : List Stp → Nat → Int → Int
  | [], _, _ => -1
  | s :: l, i, sum => if i = 65536 ∨ goodP s n = false then i else if 67108864 < sum + s.count then i else faultA n l (i + 1) (sum + s.count)
def faultP (l : List Stp) (n : Int) : Int := faultA n l 0 0
def cnts (l : List Stp) : Int := (l.map Stp.count).sum
theorem cnts_cons (s : Stp) (l : List Stp) : cnts (s :: l) = s.count + cnts l := by simp [cnts]
theorem cnts_app (a b : List Stp) : cnts (a ++ b) = cnts a + cnts b := by simp [cnts]
def headB (len cells inn out : Int) : Bool := decide (1 ≤ len ∧ len ≤ 16384 ∧ 1 ≤ cells ∧ cells ≤ 262144 ∧ 0 ≤ inn ∧ 0 ≤ out ∧ inn ≤ cells - len ∧ out ≤ cells - len)
theorem good_form {s : Stp} {n : Int} (h : goodP s n = true) : formB s = true := by
 unfold goodP at h
 exact (Bool.and_eq_true _ _ ▸ h : _ ∧ _).1
theorem good_count {s : Stp} {n : Int} (h : goodP s n = true) : 1 ≤ s.count ∧ s.count ≤ 262144 := by
 have := form_facts (good_form h)
 omega
theorem faultA_none {n : Int} : ∀ {l : List Stp} {i : Nat} {sum : Int}, i + l.length ≤ 65536 → (faultA n l i sum = -1 ↔ (∀ s ∈ l, goodP s n = true) ∧ (l = [] ∨ sum + cnts l ≤ 67108864))
 | [], i, sum, _ => by simp [faultA]
 | s :: l, i, sum, hi => by
   simp only [List.length_cons] at hi
   have ih := faultA_none (n := n) (l := l) (i := i + 1) (sum := sum + s.count) (by omega)
   unfold faultA
   by_cases hg : goodP s n = true
   · have hne : ¬ (i = 65536 ∨ goodP s n = false) := by
       rintro (h | h)
       · omega
       · rw [hg] at h; cases h
     rw [if_neg hne]
     by_cases hs : 67108864 < sum + s.count
     · rw [if_pos hs]
       constructor
       · intro h; omega
       · rintro ⟨hall, h | h⟩
         · cases h
         · rw [cnts_cons] at h
           have : 0 ≤ cnts l := by
             clear ih h hi
             induction l with
             | nil => simp [cnts]
             | cons a l ih =>
               have h1 := good_count (hall a (List.mem_cons_of_mem _ List.mem_cons_self))
               have h2 := ih (fun x hx => hall x (by
                 rcases List.mem_cons.1 hx with rfl | hx
                 · exact List.mem_cons_self
                 · exact List.mem_cons_of_mem _ (List.mem_cons_of_mem _ hx)))
               rw [cnts_cons]; omega
           omega
     · rw [if_neg hs, ih, cnts_cons]
       constructor
       · rintro ⟨h1, h2⟩
         refine ⟨fun x hx => ?_, .inr ?_⟩
         · rcases List.mem_cons.1 hx with rfl | hx
           · exact hg
           · exact h1 x hx
         · rcases h2 with rfl | h2
           · simp [cnts]; omega
           · omega
       · rintro ⟨h1, h2⟩
         refine ⟨fun x hx => h1 x (List.mem_cons_of_mem _ hx), ?_⟩
         rcases h2 with h2 | h2
         · cases h2
         · exact .inr (by omega)
   · rw [if_pos (.inr (by simpa using hg))]
     constructor
     · intro h; omega
     · rintro ⟨h, _⟩; exact absurd (h s List.mem_cons_self) hg
theorem faultA_range {n : Int} : ∀ {l : List Stp} {i : Nat} {sum : Int}, faultA n l i sum = -1 ∨ ((i : Int) ≤ faultA n l i sum ∧ faultA n l i sum < i + l.length)
  | [], i, sum => .inl rfl
  | s :: l, i, sum => by
    have ih := faultA_range (n := n) (l := l) (i := i + 1) (sum := sum + s.count)
    simp only [List.length_cons]
    unfold faultA
    split
    · right; omega
    · split
      · right; omega
      · rcases ih with h | h
        · exact .inl h
        · right; omega
theorem cnts_nonneg {l : List Stp} (h : ∀ s ∈ l, formB s = true) : (l.length : Int) ≤ cnts l := by
 induction l with
 | nil => simp [cnts]
 | cons a l ih =>
   have h1 := form_facts (h a List.mem_cons_self)
   have h2 := ih (fun x hx => h x (List.mem_cons_of_mem _ hx))
   rw [cnts_cons, List.length_cons]; omega
end Go.Proofs.YtfaokllgaambjaaGreatDoor
namespace Go.Proofs.YtfaokllgaambjaaGreatDoor
open Go Go.Eng
set_option maxRecDepth 100000
set_option maxHeartbeats 1600000
theorem ag265 : aggOf Tryz.prog 265 = some 3 := by kernel_rfl
theorem cl204 : callable Tryz.prog 204 = true := by kernel_rfl
theorem fo265_0 : fieldOff Tryz.prog 265 0 = some 0 := by kernel_rfl
theorem fo265_1 : fieldOff Tryz.prog 265 1 = some 1 := by kernel_rfl
theorem fo265_2 : fieldOff Tryz.prog 265 2 = some 2 := by kernel_rfl
theorem sz265 : szOf Tryz.prog 265 = some 3 := by kernel_rfl
theorem zr265 : (Tryz.prog.info? 265).bind (·.zero) = some (.agg #[.int .i64 0, .int .i64 0, .int .i64 0]) := by kernel_rfl
def Cl.v (c : Cl) : List Value := [.int .i64 c.at_, .int .i64 c.jump, .int .i64 c.cnt]
structure Cl.Ok (c : Cl) : Prop where
  a0 : 0 ≤ c.at_
  a1 : c.at_ ≤ 1099511627776
  j0 : 1 ≤ c.jump
  j1 : c.jump ≤ 1048576
  c0 : 1 ≤ c.cnt
  c1 : c.cnt ≤ 1048576
theorem Cl.Ok.mul {c : Cl} (h : c.Ok) : 0 ≤ (c.cnt - 1) * c.jump ∧ (c.cnt - 1) * c.jump ≤ 1099511627776 := by
 refine ⟨Int.mul_nonneg (by have := h.c0; omega) (by have := h.j0; omega), ?_⟩
 have h1 : (c.cnt - 1) * c.jump ≤ 1048576 * c.jump := Int.mul_le_mul_of_nonneg_right (by have := h.c1; omega) (by have := h.j0; omega)
 have := h.j1
 omega
theorem last_b {w0 w : World} {F : List Seg} (H : Hp w0 w F) {c : Cl} (hc : c.Ok) : Ret Tryz.prog 204 [.agg c.v.toArray] w fun v w' => v = .int .i64 c.last ∧ Hp w0 w' F := by
 refine Calls.of_J (n := 12) Tryz.func204 rfl rfl rfl (J.seq (J.region (JL.e (EX.box (v := .agg _) H rfl rfl) ?_)))
 rintro _ w ⟨b1, rfl, H⟩
 refine JL.g (RX.assign) (JL.nil (J.seq ?_))
 have hm := hc.mul
 have ha0 := hc.a0
 have ha1 := hc.a1
 have hc0 := hc.c0
 have hc1 := hc.c1
 refine J.region (JL.g (RX.fieldAddr rfl fo265_0 rfl) (JL.g (by first | exact RX.load H rfl (i := 0) rfl rfl one3) ?_))
 refine JL.g (RX.fieldAddr rfl fo265_2 rfl) (JL.g (by first | exact RX.load H rfl (i := 0) rfl rfl one3) ?_)
 refine JL.g (RX.sub rfl rfl (w_i64 rfl (by omega) (by omega))) (JL.g (RX.fieldAddr rfl fo265_1 rfl) (JL.g (by first | exact RX.load H rfl (i := 0) rfl rfl one3) ?_))
 refine JL.g (RX.mul rfl rfl (w_i64 rfl (by omega) (by omega))) (JL.g (RX.add rfl rfl (w_i64 rfl (by omega) (by omega))) (JL.ai rfl (JL.nil (J.ret1 (v := .int _ _) Tryz.func204 rfl rfl ?_))))
 exact ⟨_, rfl, rfl, H.drop⟩
theorem wrap_mod {a b : Int} (h : 0 ≤ a) : a.tmod b = a % b := Int.tmod_eq_emod_of_nonneg h
theorem has_b {w0 w : World} {F : List Seg} (H : Hp w0 w F) {c : Cl} (hc : c.Ok) {x : Int} (h0 : 0 ≤ x) (h1 : x ≤ 4398046511104) : Ret Tryz.prog 206 [.agg c.v.toArray, .int .i64 x] w fun v w' => v = .int .i64 (c.has x) ∧ Hp w0 w' F := by
 refine Calls.of_J (n := 32) Tryz.func206 rfl rfl rfl (J.seq (J.region (JL.e (EX.box (v := .agg _) H rfl rfl) ?_)))
 rintro _ w ⟨b1, rfl, H⟩
 refine JL.g (RX.assign) (JL.nil (J.seq (J.seq ?_)))
 have hm := hc.mul
 have ha0 := hc.a0
 have ha1 := hc.a1
 have hc0 := hc.c0
 have hc1 := hc.c1
 have hj0 := hc.j0
 have hj1 := hc.j1
 refine J.region (JL.mi rfl (JL.g (RX.fieldAddr rfl fo265_0 rfl) (JL.g (by first | exact RX.load H rfl (i := 0) rfl rfl one3) ?_)))
 refine JL.g (RX.lt rfl rfl) (JL.mb rfl (JL.splitS 9 rfl (fun ha => ?_) (fun ha => ?_)))
 ·
  first | have hap := of_decide_eq_true ha | skip
  refine JL.no ⟨_, rfl, gno ha⟩ (JL.no ⟨_, rfl, gno ha⟩ (JL.no ⟨_, rfl, gno ha⟩ (JL.no ⟨_, rfl, gno ha⟩ (JL.g (RX.pick_t rfl ha) (JL.mb rfl (JL.no ⟨_, rfl, gno rfl⟩ (JL.no ⟨_, rfl, gno rfl⟩ (JL.no ⟨_, rfl, gno rfl⟩ (JL.no ⟨_, rfl, gno rfl⟩ (JL.no ⟨_, rfl, gno rfl⟩ (JL.no ⟨_, rfl, gno rfl⟩ (JL.no ⟨_, rfl, gno rfl⟩ (JL.no ⟨_, rfl, gno rfl⟩ (JL.g (RX.pick_t rfl rfl) (JL.nil (J.cond_t rfl rfl (J.seq (J.region (JL.g (RX.assign) (JL.nil (J.ret1 (v := .int _ _) Tryz.func206 rfl rfl ?_)))))))))))))))))))))
  exact ⟨_, rfl, by unfold Cl.has; first | rw [if_pos (by first | (left; omega) | (right; left; omega) | (right; right; simpa using hz))] | rw [if_neg (by simp at hz; omega)], H.drop⟩
 ·
  first | have hap := of_decide_eq_false ha | skip
  refine JL.go ⟨_, rfl, ha⟩ (RX.movev (v := .int _ _) rfl) (JL.go ⟨_, rfl, ha⟩ (by first | exact RX.loadAgg H rfl (i := 0) rfl rfl ag265) ?_)
  refine JL.does ⟨_, rfl, ha⟩ (EX.call rfl cl204 rfl ((last_b H hc))) ?_
  rintro _ w ⟨rfl, H⟩
  refine JL.go ⟨_, rfl, ha⟩ (RX.gt rfl rfl) (JL.g (RX.pick_f rfl ha) (JL.mb rfl (JL.splitS 15 rfl (fun hb => ?_) (fun hb => ?_))))
  ·
   first | have hbp := of_decide_eq_true hb | skip
   refine JL.no ⟨_, rfl, gno hb⟩ (JL.no ⟨_, rfl, gno hb⟩ (JL.no ⟨_, rfl, gno hb⟩ (JL.no ⟨_, rfl, gno hb⟩ (JL.no ⟨_, rfl, gno hb⟩ (JL.no ⟨_, rfl, gno hb⟩ (JL.no ⟨_, rfl, gno hb⟩ (JL.no ⟨_, rfl, gno hb⟩ (JL.g (RX.pick_t rfl hb) (JL.nil (J.cond_t rfl rfl (J.seq (J.region (JL.g (RX.assign) (JL.nil (J.ret1 (v := .int _ _) Tryz.func206 rfl rfl ?_)))))))))))))))
   exact ⟨_, rfl, by unfold Cl.has; first | rw [if_pos (by first | (left; omega) | (right; left; omega) | (right; right; simpa using hz))] | rw [if_neg (by simp at hz; omega)], H.drop⟩
  ·
   first | have hbp := of_decide_eq_false hb | skip
   refine JL.go ⟨_, rfl, hb⟩ (RX.movev (v := .int _ _) rfl) (JL.go ⟨_, rfl, hb⟩ (RX.fieldAddr rfl fo265_0 rfl) (JL.go ⟨_, rfl, hb⟩ (by first | exact RX.load H rfl (i := 0) rfl rfl one3) ?_))
   refine JL.go ⟨_, rfl, hb⟩ (RX.sub rfl rfl (w_i64 rfl (by omega) (by omega))) (JL.go ⟨_, rfl, hb⟩ (RX.fieldAddr rfl fo265_1 rfl) (JL.go ⟨_, rfl, hb⟩ (by first | exact RX.load H rfl (i := 0) rfl rfl one3) ?_))
   refine JL.go ⟨_, rfl, hb⟩ (RX.rem rfl rfl (by omega) (r := (x - c.at_) % c.jump) (wrap_mod (by omega))) (JL.go ⟨_, rfl, hb⟩ (RX.ne rfl rfl) (JL.g (RX.pick_f rfl hb) (JL.nil (J.cond_d rfl (fun hz => ?_) (fun hz => ?_)))))
   ·
    refine J.seq (J.region (JL.g (RX.assign) (JL.nil (J.ret1 (v := .int _ _) Tryz.func206 rfl rfl ?_))))
    exact ⟨_, rfl, by unfold Cl.has; first | rw [if_pos (by first | (left; omega) | (right; left; omega) | (right; right; simpa using hz))] | rw [if_neg (by simp at hz; omega)], H.drop⟩
   ·
    refine J.skip (J.seq (J.region (JL.mi rfl (JL.g (RX.fieldAddr rfl fo265_0 rfl) (JL.g (by first | exact RX.load H rfl (i := 0) rfl rfl one3) ?_)))))
    refine JL.g (RX.sub rfl rfl (w_i64 rfl (by omega) (by omega))) (JL.g (RX.fieldAddr rfl fo265_1 rfl) (JL.g (by first | exact RX.load H rfl (i := 0) rfl rfl one3) ?_))
    refine JL.g (RX.quo rfl rfl (by omega) (r := (x - c.at_) / c.jump) (by rw [Int.tdiv_eq_ediv_of_nonneg (by omega)]; exact w_i64 rfl (by have := Int.ediv_nonneg (show 0 ≤ x - c.at_ by omega) (show 0 ≤ c.jump by omega); omega) (by have := Int.ediv_le_self c.jump (show 0 ≤ x - c.at_ by omega); omega))) ?_
    refine JL.ai rfl (JL.nil (J.ret1 (v := .int _ _) Tryz.func206 rfl rfl ?_))
    exact ⟨_, rfl, by unfold Cl.has; first | rw [if_pos (by first | (left; omega) | (right; left; omega) | (right; right; simpa using hz))] | rw [if_neg (by simp at hz; omega)], H.drop⟩
def rdV (r : Cl) (ev : Bool) : List Value := r.v ++ [.bool ev]
def rdsV (s : Stp) : List Value := match rds s with
  | none => []
  | some (r, ev) => rdV r ev
def rdsN (s : Stp) : Nat := match rds s with
  | none => 0
  | some _ => 1
def ownB (s : Stp) : Bool := decide (¬ (s.op = 1 ∨ s.op = 2 ∨ s.op = 3 ∨ s.op = 6 ∨ s.op = 8))
theorem touched_b {w0 w : World} {F : List Seg} (H : Hp w0 w F) {s : Stp} : Ret Tryz.prog 205 [.agg s.v.toArray] w fun v w' => ∃ rp rc rs, v = .tuple #[.slice rp (rdsN s) rc, .agg (wr s).v.toArray, .bool (ownB s)] ∧ OwnSl 272 4 rp (rdsN s) rc (rdsV s) rs ∧ Hp w0 w' (rs :: F) := by
 refine Calls.of_J (n := 67) Tryz.func205 rfl rfl rfl (J.seq (J.region (JL.e (EX.box (v := .agg _) H rfl rfl) ?_)))
 rintro _ w ⟨bs, rfl, H⟩
 refine JL.g (RX.assign) (JL.e (EX.alloc H zr265 rfl) ?_)
 rintro _ w ⟨bw, rfl, H⟩
 refine JL.g (RX.assign) (JL.nil (J.seq (J.region (JL.g (RX.fieldAddr rfl fo178_1 rfl) (JL.g (RX.load H rfl (i := 1) rfl rfl one3) (JL.g (RX.fieldAddr rfl fo178_4 rfl) (JL.g (RX.load H rfl (i := 1) rfl rfl one3) (JL.g (RX.build (pv := [(0, .int .i64 s.dst), (1, .int .i64 1), (2, .int .i64 s.count)]) (res := [.int .i64 s.dst, .int .i64 1, .int .i64 s.count]) rfl (by kernel_rfl)) (JL.e (EX.storeAgg H rfl rfl (i := 0) (vs := [.int .i64 s.dst, .int .i64 1, .int .i64 s.count]) (l' := [.int .i64 s.dst, .int .i64 1, .int .i64 s.count]) rfl (by simp [isCell]) (by simp) sz265 rfl rfl) ?_)))))))))
 rintro _ w H
 refine JL.nil (J.seq (J.seq (J.region (JL.g (RX.fieldAddr rfl fo178_0 rfl) (JL.g (RX.load H rfl (i := 1) rfl rfl one3) (JL.nil (J.block (J.seq (J.region (JL.g (RX.eq rfl rfl) (JL.ab rfl (JL.nil (J.cond_d rfl (fun h1 => ?_) (fun h1 => ?_))))))))))))))
 ·
  refine J.seq (J.held (fun w => Hp w0 w ([(bs, cel s.v 178)] :: F)) hmix fun w hs => ?_)
  replace H := H.same hs; clear hs
  have hS : Hp w0 w ([(bs, cel s.v 178)] :: F) := H.drop
  refine JH.take 0 rfl (by kernel_rfl) (by kernel_rfl) (by kernel_rfl) rfl trivial (fun w H => RX.fieldAddr rfl fo178_2 rfl) hS (JH.take 1 rfl (by kernel_rfl) (by kernel_rfl) (by kernel_rfl) rfl trivial (fun w H => RX.load H rfl (i := 0) rfl rfl one3) hS (JH.take 2 rfl (by kernel_rfl) (by kernel_rfl) (by kernel_rfl) rfl trivial (fun w H => RX.fieldAddr rfl fo178_3 rfl) hS (JH.take 3 rfl (by kernel_rfl) (by kernel_rfl) (by kernel_rfl) rfl trivial (fun w H => RX.load H rfl (i := 0) rfl rfl one3) hS (JH.take 4 rfl (by kernel_rfl) (by kernel_rfl) (by kernel_rfl) rfl trivial (fun w H => RX.fieldAddr rfl fo178_4 rfl) hS (JH.take 5 rfl (by kernel_rfl) (by kernel_rfl) (by kernel_rfl) rfl trivial (fun w H => RX.load H rfl (i := 0) rfl rfl one3) hS (JH.take 6 rfl (by kernel_rfl) (by kernel_rfl) (by kernel_rfl) rfl trivial (fun w H => RX.build (pv := [(0, .int .i64 s.src), (1, .int .i64 s.jump), (2, .int .i64 s.count)]) (res := [.int .i64 s.src, .int .i64 s.jump, .int .i64 s.count]) rfl (by kernel_rfl)) hS (JH.take 7 rfl (by kernel_rfl) (by kernel_rfl) (by kernel_rfl) rfl trivial (fun w H => RX.build (pv := [(0, .agg #[.int .i64 s.src, .int .i64 s.jump, .int .i64 s.count]), (1, .bool false)]) (res := [.int .i64 s.src, .int .i64 s.jump, .int .i64 s.count, .bool false]) rfl (by kernel_rfl)) hS (JH.all [8, 9] (by kernel_rfl) (by decide) (⟨?_, ?_⟩)))))))))
  ·
   refine JHO.does rfl rfl trivial (EX.buildSlice (pv := [(0, .agg #[.int .i64 s.src, .int .i64 s.jump, .int .i64 s.count, .bool false])]) (l := [.int .i64 s.src, .int .i64 s.jump, .int .i64 s.count, .bool false]) (e := 272) H rfl (by kernel_rfl)) ?_
   rintro _ w ⟨br, rfl, H⟩
   have hS : Hp w0 w ([(bs, cel s.v 178)] :: F) := H.drop.drop
   refine ⟨hS, ?_⟩
   refine JH.take 10 rfl (by kernel_rfl) (by kernel_rfl) (by kernel_rfl) rfl trivial (fun w H => RX.assignv (v := .slice _ _ _) rfl) hS (JH.all [9] (by kernel_rfl) (by decide) (JHO.go rfl rfl trivial (RX.loadAgg H rfl (i := 1) rfl rfl ag265) hS (JH.all [11] (by kernel_rfl) (by decide) (JHO.does rfl rfl trivial (by exact EX.storeAgg H rfl rfl (i := 1) rfl (by simp [isCell]) (by simp) sz265 rfl rfl) ?_))))
   rintro _ w H
   have hS : Hp w0 w ([(bs, cel s.v 178)] :: F) := H.drop.drop
   refine ⟨hS, ?_⟩
   refine JH.take 12 rfl (by kernel_rfl) (by kernel_rfl) (by kernel_rfl) rfl trivial (fun w H => RX.assign) hS (JH.done (by kernel_rfl) (J.rettct (x := .slice _ _ _) (y := .bool _) Tryz.func205 rfl H rfl (i := 1) rfl rfl ag265 rfl rfl ?_))
   first
   | exact ⟨_, rfl, none, 0, [], by simp_all [rdsN, rds, wr, ownB, Cl.v, setN], by simp_all [rdsN, rdsV, rds, OwnSl], (H.drop.drop).nil⟩
   | exact ⟨_, rfl, some ⟨br, 0, none⟩, 1, _, by simp_all [rdsN, rds, wr, ownB, Cl.v, setN], by simp_all [rdsN, rdsV, rds, rdV, Cl.v, OwnSl] <;> exact ⟨_, rfl, rfl, rfl⟩, ((H.pull 1 rfl).drop.pull 1 rfl).drop⟩
  ·
   refine JHO.go rfl rfl trivial (RX.loadAgg H rfl (i := 0) rfl rfl ag265) hS (JH.all [8] (by kernel_rfl) (by decide) (JHO.does rfl rfl trivial (EX.buildSlice (pv := [(0, .agg #[.int .i64 s.src, .int .i64 s.jump, .int .i64 s.count, .bool false])]) (l := [.int .i64 s.src, .int .i64 s.jump, .int .i64 s.count, .bool false]) (e := 272) H rfl (by kernel_rfl)) ?_))
   rintro _ w ⟨br, rfl, H⟩
   have hS : Hp w0 w ([(bs, cel s.v 178)] :: F) := H.drop.drop
   refine ⟨hS, ?_⟩
   refine JH.take 10 rfl (by kernel_rfl) (by kernel_rfl) (by kernel_rfl) rfl trivial (fun w H => RX.assignv (v := .slice _ _ _) rfl) hS (JH.all [11] (by kernel_rfl) (by decide) (JHO.does rfl rfl trivial (by exact EX.storeAgg H rfl rfl (i := 1) rfl (by simp [isCell]) (by simp) sz265 rfl rfl) ?_))
   rintro _ w H
   have hS : Hp w0 w ([(bs, cel s.v 178)] :: F) := H.drop.drop
   refine ⟨hS, ?_⟩
   refine JH.take 12 rfl (by kernel_rfl) (by kernel_rfl) (by kernel_rfl) rfl trivial (fun w H => RX.assign) hS (JH.done (by kernel_rfl) (J.rettct (x := .slice _ _ _) (y := .bool _) Tryz.func205 rfl H rfl (i := 1) rfl rfl ag265 rfl rfl ?_))
   first
   | exact ⟨_, rfl, none, 0, [], by simp_all [rdsN, rds, wr, ownB, Cl.v, setN], by simp_all [rdsN, rdsV, rds, OwnSl], (H.drop.drop).nil⟩
   | exact ⟨_, rfl, some ⟨br, 0, none⟩, 1, _, by simp_all [rdsN, rds, wr, ownB, Cl.v, setN], by simp_all [rdsN, rdsV, rds, rdV, Cl.v, OwnSl] <;> exact ⟨_, rfl, rfl, rfl⟩, ((H.pull 1 rfl).drop.pull 1 rfl).drop⟩
 ·
  refine J.seq (J.region (JL.g (RX.eq rfl rfl) (JL.ab rfl (JL.nil (J.cond_d rfl (fun h2 => ?_) (fun h2 => ?_))))))
  ·
   refine J.seq (J.held (fun w => Hp w0 w ([(bs, cel s.v 178)] :: F)) hmix fun w hs => ?_)
   replace H := H.same hs; clear hs
   have hS : Hp w0 w ([(bs, cel s.v 178)] :: F) := H.drop
   refine JH.take 0 rfl (by kernel_rfl) (by kernel_rfl) (by kernel_rfl) rfl trivial (fun w H => RX.fieldAddr rfl fo178_2 rfl) hS (JH.take 1 rfl (by kernel_rfl) (by kernel_rfl) (by kernel_rfl) rfl trivial (fun w H => RX.load H rfl (i := 0) rfl rfl one3) hS (JH.take 2 rfl (by kernel_rfl) (by kernel_rfl) (by kernel_rfl) rfl trivial (fun w H => RX.fieldAddr rfl fo178_4 rfl) hS (JH.take 3 rfl (by kernel_rfl) (by kernel_rfl) (by kernel_rfl) rfl trivial (fun w H => RX.load H rfl (i := 0) rfl rfl one3) hS (JH.take 4 rfl (by kernel_rfl) (by kernel_rfl) (by kernel_rfl) rfl trivial (fun w H => RX.build (pv := [(0, .int .i64 s.src), (1, .int .i64 1), (2, .int .i64 s.count)]) (res := [.int .i64 s.src, .int .i64 1, .int .i64 s.count]) rfl (by kernel_rfl)) hS (JH.take 5 rfl (by kernel_rfl) (by kernel_rfl) (by kernel_rfl) rfl trivial (fun w H => RX.build (pv := [(0, .agg #[.int .i64 s.src, .int .i64 1, .int .i64 s.count]), (1, .bool false)]) (res := [.int .i64 s.src, .int .i64 1, .int .i64 s.count, .bool false]) rfl (by kernel_rfl)) hS (JH.take 7 rfl (by kernel_rfl) (by kernel_rfl) (by kernel_rfl) rfl trivial (fun w H => RX.fieldAddr rfl fo178_1 rfl) hS (JH.take 8 rfl (by kernel_rfl) (by kernel_rfl) (by kernel_rfl) rfl trivial (fun w H => RX.load H rfl (i := 0) rfl rfl one3) hS (JH.take 9 rfl (by kernel_rfl) (by kernel_rfl) (by kernel_rfl) rfl trivial (fun w H => RX.fieldAddr rfl fo178_3 rfl) hS (JH.take 10 rfl (by kernel_rfl) (by kernel_rfl) (by kernel_rfl) rfl trivial (fun w H => RX.load H rfl (i := 0) rfl rfl one3) hS (JH.take 11 rfl (by kernel_rfl) (by kernel_rfl) (by kernel_rfl) rfl trivial (fun w H => RX.fieldAddr rfl fo178_4 rfl) hS (JH.take 12 rfl (by kernel_rfl) (by kernel_rfl) (by kernel_rfl) rfl trivial (fun w H => RX.load H rfl (i := 0) rfl rfl one3) hS (JH.take 13 rfl (by kernel_rfl) (by kernel_rfl) (by kernel_rfl) rfl trivial (fun w H => RX.build (pv := [(0, .int .i64 s.dst), (1, .int .i64 s.jump), (2, .int .i64 s.count)]) (res := [.int .i64 s.dst, .int .i64 s.jump, .int .i64 s.count]) rfl (by kernel_rfl)) hS (JH.all [6] (by kernel_rfl) (by decide) (JHO.does rfl rfl trivial (EX.buildSlice (pv := [(0, .agg #[.int .i64 s.src, .int .i64 1, .int .i64 s.count, .bool false])]) (l := [.int .i64 s.src, .int .i64 1, .int .i64 s.count, .bool false]) (e := 272) H rfl (by kernel_rfl)) ?_))))))))))))))
   rintro _ w ⟨br, rfl, H⟩
   have hS : Hp w0 w ([(bs, cel s.v 178)] :: F) := H.drop.drop
   refine ⟨hS, ?_⟩
   refine JH.take 14 rfl (by kernel_rfl) (by kernel_rfl) (by kernel_rfl) rfl trivial (fun w H => RX.assignv (v := .slice _ _ _) rfl) hS (JH.all [15] (by kernel_rfl) (by decide) (JHO.does rfl rfl trivial (by exact EX.storeAgg H rfl rfl (i := 1) rfl (by simp [isCell]) (by simp) sz265 rfl rfl) ?_))
   rintro _ w H
   have hS : Hp w0 w ([(bs, cel s.v 178)] :: F) := H.drop.drop
   refine ⟨hS, ?_⟩
   refine JH.take 16 rfl (by kernel_rfl) (by kernel_rfl) (by kernel_rfl) rfl trivial (fun w H => RX.assign) hS (JH.done (by kernel_rfl) (J.rettct (x := .slice _ _ _) (y := .bool _) Tryz.func205 rfl H rfl (i := 1) rfl rfl ag265 rfl rfl ?_))
   first
   | exact ⟨_, rfl, none, 0, [], by simp_all [rdsN, rds, wr, ownB, Cl.v, setN], by simp_all [rdsN, rdsV, rds, OwnSl], (H.drop.drop).nil⟩
   | exact ⟨_, rfl, some ⟨br, 0, none⟩, 1, _, by simp_all [rdsN, rds, wr, ownB, Cl.v, setN], by simp_all [rdsN, rdsV, rds, rdV, Cl.v, OwnSl] <;> exact ⟨_, rfl, rfl, rfl⟩, ((H.pull 1 rfl).drop.pull 1 rfl).drop⟩
  ·
   refine J.seq (J.seq (J.region (JL.g (RX.eq rfl rfl) (JL.ab rfl (JL.nil (J.cond_d rfl (fun h3 => ?_) (fun h3 => ?_)))))))
   ·
    refine J.skip (J.cond_t rfl (decide_eq_true h3) (J.seq (J.held (fun w => Hp w0 w ([(bs, cel s.v 178)] :: F)) hmix fun w hs => ?_)))
    replace H := H.same hs; clear hs
    have hS : Hp w0 w ([(bs, cel s.v 178)] :: F) := H.drop
    refine JH.take 1 rfl (by kernel_rfl) (by kernel_rfl) (by kernel_rfl) rfl trivial (fun w H => RX.assign) hS (JH.all [0] (by kernel_rfl) (by decide) (JHO.go rfl rfl trivial (RX.loadAgg H rfl (i := 0) rfl rfl ag265) hS (JH.all [2] (by kernel_rfl) (by decide) (JHO.does rfl rfl trivial (by exact EX.storeAgg H rfl rfl (i := 0) rfl (by simp [isCell]) (by simp) sz265 rfl rfl) ?_))))
    rintro _ w H
    have hS : Hp w0 w ([(bs, cel s.v 178)] :: F) := H.drop
    refine ⟨hS, ?_⟩
    refine JH.take 3 rfl (by kernel_rfl) (by kernel_rfl) (by kernel_rfl) rfl trivial (fun w H => RX.assign) hS (JH.done (by kernel_rfl) (J.rettct (x := .slice _ _ _) (y := .bool _) Tryz.func205 rfl H rfl (i := 0) rfl rfl ag265 rfl rfl ?_))
    first
    | exact ⟨_, rfl, none, 0, [], by simp_all [rdsN, rds, wr, ownB, Cl.v, setN], by simp_all [rdsN, rdsV, rds, OwnSl], (H.drop.drop).nil⟩
    | exact ⟨_, rfl, some ⟨br, 0, none⟩, 1, _, by simp_all [rdsN, rds, wr, ownB, Cl.v, setN], by simp_all [rdsN, rdsV, rds, rdV, Cl.v, OwnSl] <;> exact ⟨_, rfl, rfl, rfl⟩, ((H.pull 1 rfl).drop.pull 1 rfl).drop⟩
   ·
    refine J.region (JL.g (RX.eq rfl rfl) (JL.ab rfl (JL.nil (J.cond_d rfl (fun h3 => ?_) (fun h3 => ?_)))))
    ·
     refine J.seq (J.held (fun w => Hp w0 w ([(bs, cel s.v 178)] :: F)) hmix fun w hs => ?_)
     replace H := H.same hs; clear hs
     have hS : Hp w0 w ([(bs, cel s.v 178)] :: F) := H.drop
     refine JH.take 1 rfl (by kernel_rfl) (by kernel_rfl) (by kernel_rfl) rfl trivial (fun w H => RX.assign) hS (JH.all [0] (by kernel_rfl) (by decide) (JHO.go rfl rfl trivial (RX.loadAgg H rfl (i := 0) rfl rfl ag265) hS (JH.all [2] (by kernel_rfl) (by decide) (JHO.does rfl rfl trivial (by exact EX.storeAgg H rfl rfl (i := 0) rfl (by simp [isCell]) (by simp) sz265 rfl rfl) ?_))))
     rintro _ w H
     have hS : Hp w0 w ([(bs, cel s.v 178)] :: F) := H.drop
     refine ⟨hS, ?_⟩
     refine JH.take 3 rfl (by kernel_rfl) (by kernel_rfl) (by kernel_rfl) rfl trivial (fun w H => RX.assign) hS (JH.done (by kernel_rfl) (J.rettct (x := .slice _ _ _) (y := .bool _) Tryz.func205 rfl H rfl (i := 0) rfl rfl ag265 rfl rfl ?_))
     first
     | exact ⟨_, rfl, none, 0, [], by simp_all [rdsN, rds, wr, ownB, Cl.v, setN], by simp_all [rdsN, rdsV, rds, OwnSl], (H.drop.drop).nil⟩
     | exact ⟨_, rfl, some ⟨br, 0, none⟩, 1, _, by simp_all [rdsN, rds, wr, ownB, Cl.v, setN], by simp_all [rdsN, rdsV, rds, rdV, Cl.v, OwnSl] <;> exact ⟨_, rfl, rfl, rfl⟩, ((H.pull 1 rfl).drop.pull 1 rfl).drop⟩
    ·
     refine J.seq (J.region (JL.g (RX.eq rfl rfl) (JL.ab rfl (JL.nil (J.cond_d rfl (fun h6 => ?_) (fun h6 => ?_))))))
     ·
      refine J.seq (J.held (fun w => Hp w0 w ([(bs, cel s.v 178)] :: F)) hmix fun w hs => ?_)
      replace H := H.same hs; clear hs
      have hS : Hp w0 w ([(bs, cel s.v 178)] :: F) := H.drop
      refine JH.take 0 rfl (by kernel_rfl) (by kernel_rfl) (by kernel_rfl) rfl trivial (fun w H => RX.fieldAddr rfl fo178_2 rfl) hS (JH.take 1 rfl (by kernel_rfl) (by kernel_rfl) (by kernel_rfl) rfl trivial (fun w H => RX.load H rfl (i := 0) rfl rfl one3) hS (JH.take 2 rfl (by kernel_rfl) (by kernel_rfl) (by kernel_rfl) rfl trivial (fun w H => RX.fieldAddr rfl fo178_3 rfl) hS (JH.take 3 rfl (by kernel_rfl) (by kernel_rfl) (by kernel_rfl) rfl trivial (fun w H => RX.load H rfl (i := 0) rfl rfl one3) hS (JH.take 4 rfl (by kernel_rfl) (by kernel_rfl) (by kernel_rfl) rfl trivial (fun w H => RX.fieldAddr rfl fo178_5 rfl) hS (JH.take 5 rfl (by kernel_rfl) (by kernel_rfl) (by kernel_rfl) rfl trivial (fun w H => RX.load H rfl (i := 0) rfl rfl one3) hS (JH.take 6 rfl (by kernel_rfl) (by kernel_rfl) (by kernel_rfl) rfl trivial (fun w H => RX.build (pv := [(0, .int .i64 s.src), (1, .int .i64 s.jump), (2, .int .i64 s.n)]) (res := [.int .i64 s.src, .int .i64 s.jump, .int .i64 s.n]) rfl (by kernel_rfl)) hS (JH.take 7 rfl (by kernel_rfl) (by kernel_rfl) (by kernel_rfl) rfl trivial (fun w H => RX.build (pv := [(0, .agg #[.int .i64 s.src, .int .i64 s.jump, .int .i64 s.n]), (1, .bool true)]) (res := [.int .i64 s.src, .int .i64 s.jump, .int .i64 s.n, .bool true]) rfl (by kernel_rfl)) hS (JH.all [8, 9] (by kernel_rfl) (by decide) (⟨?_, ?_⟩)))))))))
      ·
       refine JHO.does rfl rfl trivial (EX.buildSlice (pv := [(0, .agg #[.int .i64 s.src, .int .i64 s.jump, .int .i64 s.n, .bool true])]) (l := [.int .i64 s.src, .int .i64 s.jump, .int .i64 s.n, .bool true]) (e := 272) H rfl (by kernel_rfl)) ?_
       rintro _ w ⟨br, rfl, H⟩
       have hS : Hp w0 w ([(bs, cel s.v 178)] :: F) := H.drop.drop
       refine ⟨hS, ?_⟩
       refine JH.take 10 rfl (by kernel_rfl) (by kernel_rfl) (by kernel_rfl) rfl trivial (fun w H => RX.assignv (v := .slice _ _ _) rfl) hS (JH.all [9] (by kernel_rfl) (by decide) (JHO.go rfl rfl trivial (RX.loadAgg H rfl (i := 1) rfl rfl ag265) hS (JH.all [11] (by kernel_rfl) (by decide) (JHO.does rfl rfl trivial (by exact EX.storeAgg H rfl rfl (i := 1) rfl (by simp [isCell]) (by simp) sz265 rfl rfl) ?_))))
       rintro _ w H
       have hS : Hp w0 w ([(bs, cel s.v 178)] :: F) := H.drop.drop
       refine ⟨hS, ?_⟩
       refine JH.take 12 rfl (by kernel_rfl) (by kernel_rfl) (by kernel_rfl) rfl trivial (fun w H => RX.assign) hS (JH.done (by kernel_rfl) (J.rettct (x := .slice _ _ _) (y := .bool _) Tryz.func205 rfl H rfl (i := 1) rfl rfl ag265 rfl rfl ?_))
       first
       | exact ⟨_, rfl, none, 0, [], by simp_all [rdsN, rds, wr, ownB, Cl.v, setN], by simp_all [rdsN, rdsV, rds, OwnSl], (H.drop.drop).nil⟩
       | exact ⟨_, rfl, some ⟨br, 0, none⟩, 1, _, by simp_all [rdsN, rds, wr, ownB, Cl.v, setN], by simp_all [rdsN, rdsV, rds, rdV, Cl.v, OwnSl] <;> exact ⟨_, rfl, rfl, rfl⟩, ((H.pull 1 rfl).drop.pull 1 rfl).drop⟩
      ·
       refine JHO.go rfl rfl trivial (RX.loadAgg H rfl (i := 0) rfl rfl ag265) hS (JH.all [8] (by kernel_rfl) (by decide) (JHO.does rfl rfl trivial (EX.buildSlice (pv := [(0, .agg #[.int .i64 s.src, .int .i64 s.jump, .int .i64 s.n, .bool true])]) (l := [.int .i64 s.src, .int .i64 s.jump, .int .i64 s.n, .bool true]) (e := 272) H rfl (by kernel_rfl)) ?_))
       rintro _ w ⟨br, rfl, H⟩
       have hS : Hp w0 w ([(bs, cel s.v 178)] :: F) := H.drop.drop
       refine ⟨hS, ?_⟩
       refine JH.take 10 rfl (by kernel_rfl) (by kernel_rfl) (by kernel_rfl) rfl trivial (fun w H => RX.assignv (v := .slice _ _ _) rfl) hS (JH.all [11] (by kernel_rfl) (by decide) (JHO.does rfl rfl trivial (by exact EX.storeAgg H rfl rfl (i := 1) rfl (by simp [isCell]) (by simp) sz265 rfl rfl) ?_))
       rintro _ w H
       have hS : Hp w0 w ([(bs, cel s.v 178)] :: F) := H.drop.drop
       refine ⟨hS, ?_⟩
       refine JH.take 12 rfl (by kernel_rfl) (by kernel_rfl) (by kernel_rfl) rfl trivial (fun w H => RX.assign) hS (JH.done (by kernel_rfl) (J.rettct (x := .slice _ _ _) (y := .bool _) Tryz.func205 rfl H rfl (i := 1) rfl rfl ag265 rfl rfl ?_))
       first
       | exact ⟨_, rfl, none, 0, [], by simp_all [rdsN, rds, wr, ownB, Cl.v, setN], by simp_all [rdsN, rdsV, rds, OwnSl], (H.drop.drop).nil⟩
       | exact ⟨_, rfl, some ⟨br, 0, none⟩, 1, _, by simp_all [rdsN, rds, wr, ownB, Cl.v, setN], by simp_all [rdsN, rdsV, rds, rdV, Cl.v, OwnSl] <;> exact ⟨_, rfl, rfl, rfl⟩, ((H.pull 1 rfl).drop.pull 1 rfl).drop⟩
     ·
      refine J.seq (J.region (JL.g (RX.eq rfl rfl) (JL.ab rfl (JL.nil (J.cond_d rfl (fun h9 => ?_) (fun h9 => ?_))))))
      ·
       refine J.seq (J.held (fun w => Hp w0 w ([(bs, cel s.v 178)] :: F)) hmix fun w hs => ?_)
       replace H := H.same hs; clear hs
       have hS : Hp w0 w ([(bs, cel s.v 178)] :: F) := H.drop
       refine JH.take 0 rfl (by kernel_rfl) (by kernel_rfl) (by kernel_rfl) rfl trivial (fun w H => RX.fieldAddr rfl fo178_2 rfl) hS (JH.take 1 rfl (by kernel_rfl) (by kernel_rfl) (by kernel_rfl) rfl trivial (fun w H => RX.load H rfl (i := 0) rfl rfl one3) hS (JH.take 2 rfl (by kernel_rfl) (by kernel_rfl) (by kernel_rfl) rfl trivial (fun w H => RX.fieldAddr rfl fo178_4 rfl) hS (JH.take 3 rfl (by kernel_rfl) (by kernel_rfl) (by kernel_rfl) rfl trivial (fun w H => RX.load H rfl (i := 0) rfl rfl one3) hS (JH.take 4 rfl (by kernel_rfl) (by kernel_rfl) (by kernel_rfl) rfl trivial (fun w H => RX.build (pv := [(0, .int .i64 s.src), (1, .int .i64 1), (2, .int .i64 s.count)]) (res := [.int .i64 s.src, .int .i64 1, .int .i64 s.count]) rfl (by kernel_rfl)) hS (JH.take 5 rfl (by kernel_rfl) (by kernel_rfl) (by kernel_rfl) rfl trivial (fun w H => RX.build (pv := [(0, .agg #[.int .i64 s.src, .int .i64 1, .int .i64 s.count]), (1, .bool false)]) (res := [.int .i64 s.src, .int .i64 1, .int .i64 s.count, .bool false]) rfl (by kernel_rfl)) hS (JH.all [6, 7] (by kernel_rfl) (by decide) (⟨?_, ?_⟩)))))))
       ·
        refine JHO.does rfl rfl trivial (EX.buildSlice (pv := [(0, .agg #[.int .i64 s.src, .int .i64 1, .int .i64 s.count, .bool false])]) (l := [.int .i64 s.src, .int .i64 1, .int .i64 s.count, .bool false]) (e := 272) H rfl (by kernel_rfl)) ?_
        rintro _ w ⟨br, rfl, H⟩
        have hS : Hp w0 w ([(bs, cel s.v 178)] :: F) := H.drop.drop
        refine ⟨hS, ?_⟩
        refine JH.take 8 rfl (by kernel_rfl) (by kernel_rfl) (by kernel_rfl) rfl trivial (fun w H => RX.assignv (v := .slice _ _ _) rfl) hS (JH.all [7] (by kernel_rfl) (by decide) (JHO.go rfl rfl trivial (RX.loadAgg H rfl (i := 1) rfl rfl ag265) hS (JH.all [9] (by kernel_rfl) (by decide) (JHO.does rfl rfl trivial (by exact EX.storeAgg H rfl rfl (i := 1) rfl (by simp [isCell]) (by simp) sz265 rfl rfl) ?_))))
        rintro _ w H
        have hS : Hp w0 w ([(bs, cel s.v 178)] :: F) := H.drop.drop
        refine ⟨hS, ?_⟩
        refine JH.take 10 rfl (by kernel_rfl) (by kernel_rfl) (by kernel_rfl) rfl trivial (fun w H => RX.assign) hS (JH.done (by kernel_rfl) (J.rettct (x := .slice _ _ _) (y := .bool _) Tryz.func205 rfl H rfl (i := 1) rfl rfl ag265 rfl rfl ?_))
        first
        | exact ⟨_, rfl, none, 0, [], by simp_all [rdsN, rds, wr, ownB, Cl.v, setN], by simp_all [rdsN, rdsV, rds, OwnSl], (H.drop.drop).nil⟩
        | exact ⟨_, rfl, some ⟨br, 0, none⟩, 1, _, by simp_all [rdsN, rds, wr, ownB, Cl.v, setN], by simp_all [rdsN, rdsV, rds, rdV, Cl.v, OwnSl] <;> exact ⟨_, rfl, rfl, rfl⟩, ((H.pull 1 rfl).drop.pull 1 rfl).drop⟩
       ·
        refine JHO.go rfl rfl trivial (RX.loadAgg H rfl (i := 0) rfl rfl ag265) hS (JH.all [6] (by kernel_rfl) (by decide) (JHO.does rfl rfl trivial (EX.buildSlice (pv := [(0, .agg #[.int .i64 s.src, .int .i64 1, .int .i64 s.count, .bool false])]) (l := [.int .i64 s.src, .int .i64 1, .int .i64 s.count, .bool false]) (e := 272) H rfl (by kernel_rfl)) ?_))
        rintro _ w ⟨br, rfl, H⟩
        have hS : Hp w0 w ([(bs, cel s.v 178)] :: F) := H.drop.drop
        refine ⟨hS, ?_⟩
        refine JH.take 8 rfl (by kernel_rfl) (by kernel_rfl) (by kernel_rfl) rfl trivial (fun w H => RX.assignv (v := .slice _ _ _) rfl) hS (JH.all [9] (by kernel_rfl) (by decide) (JHO.does rfl rfl trivial (by exact EX.storeAgg H rfl rfl (i := 1) rfl (by simp [isCell]) (by simp) sz265 rfl rfl) ?_))
        rintro _ w H
        have hS : Hp w0 w ([(bs, cel s.v 178)] :: F) := H.drop.drop
        refine ⟨hS, ?_⟩
        refine JH.take 10 rfl (by kernel_rfl) (by kernel_rfl) (by kernel_rfl) rfl trivial (fun w H => RX.assign) hS (JH.done (by kernel_rfl) (J.rettct (x := .slice _ _ _) (y := .bool _) Tryz.func205 rfl H rfl (i := 1) rfl rfl ag265 rfl rfl ?_))
        first
        | exact ⟨_, rfl, none, 0, [], by simp_all [rdsN, rds, wr, ownB, Cl.v, setN], by simp_all [rdsN, rdsV, rds, OwnSl], (H.drop.drop).nil⟩
        | exact ⟨_, rfl, some ⟨br, 0, none⟩, 1, _, by simp_all [rdsN, rds, wr, ownB, Cl.v, setN], by simp_all [rdsN, rdsV, rds, rdV, Cl.v, OwnSl] <;> exact ⟨_, rfl, rfl, rfl⟩, ((H.pull 1 rfl).drop.pull 1 rfl).drop⟩
      ·
       refine J.skip (J.inBlock (J.seq (J.held (fun w => Hp w0 w ([(bs, cel s.v 178)] :: F)) hmix fun w hs => ?_)))
       replace H := H.same hs; clear hs
       have hS : Hp w0 w ([(bs, cel s.v 178)] :: F) := H.drop
       refine JH.take 1 rfl (by kernel_rfl) (by kernel_rfl) (by kernel_rfl) rfl trivial (fun w H => RX.assign) hS (JH.all [0] (by kernel_rfl) (by decide) (JHO.go rfl rfl trivial (RX.loadAgg H rfl (i := 0) rfl rfl ag265) hS (JH.all [2] (by kernel_rfl) (by decide) (JHO.does rfl rfl trivial (by exact EX.storeAgg H rfl rfl (i := 0) rfl (by simp [isCell]) (by simp) sz265 rfl rfl) ?_))))
       rintro _ w H
       have hS : Hp w0 w ([(bs, cel s.v 178)] :: F) := H.drop
       refine ⟨hS, ?_⟩
       refine JH.take 3 rfl (by kernel_rfl) (by kernel_rfl) (by kernel_rfl) rfl trivial (fun w H => RX.assign) hS (JH.done (by kernel_rfl) (J.rettct (x := .slice _ _ _) (y := .bool _) Tryz.func205 rfl H rfl (i := 0) rfl rfl ag265 rfl rfl ?_))
       first
       | exact ⟨_, rfl, none, 0, [], by simp_all [rdsN, rds, wr, ownB, Cl.v, setN], by simp_all [rdsN, rdsV, rds, OwnSl], (H.drop.drop).nil⟩
       | exact ⟨_, rfl, some ⟨br, 0, none⟩, 1, _, by simp_all [rdsN, rds, wr, ownB, Cl.v, setN], by simp_all [rdsN, rdsV, rds, rdV, Cl.v, OwnSl] <;> exact ⟨_, rfl, rfl, rfl⟩, ((H.pull 1 rfl).drop.pull 1 rfl).drop⟩
end Go.Proofs.YtfaokllgaambjaaGreatDoor
namespace Go.Proofs.YtfaokllgaambjaaGreatDoor
open Go Go.Eng
set_option maxRecDepth 100000
set_option maxHeartbeats 1600000
def rowC (s : Stp) (q : Nat) : Cl := ⟨s.dst + q * s.jump, 1, s.count⟩
def rowsC (s : Stp) (k : Nat) : List Cl := (List.range k).map (rowC s)
def clsV (l : List Cl) : List Value := (l.map Cl.v).flatten
theorem rowsC_succ (s : Stp) (k : Nat) : rowsC s (k + 1) = rowsC s k ++ [rowC s k] := by simp [rowsC, List.range_succ]
theorem clsV_app (a b : List Cl) : clsV (a ++ b) = clsV a ++ clsV b := by simp [clsV]
theorem cl_cell (c : Cl) : ∀ v ∈ c.v, isCell v = true := by
 intro v hv
 simp only [Cl.v, List.mem_cons, List.not_mem_nil, or_false] at hv
 rcases hv with rfl | rfl | rfl <;> rfl
theorem clsV_read {l : List Cl} {i : Nat} {c : Cl} (h : l[i]? = some c) : readN (clsV l) (i * 3) 3 = some c.v := readN_flat (f := Cl.v) (sz := 3) (fun _ => rfl) h
theorem rowsC_get {s : Stp} {k i : Nat} (h : i < k) : (rowsC s k)[i]? = some (rowC s i) := by simp [rowsC, h]
theorem row_mul {s : Stp} (hf : formB s = true) {k : Nat} (hk : (k : Int) ≤ s.n) : 0 ≤ (k : Int) * s.jump ∧ (k : Int) * s.jump ≤ 4294967296 := by
 obtain ⟨_, _, _, _, _, _, _, _, hj0, hj1, _, hn1, _⟩ := form_facts hf
 refine ⟨Int.mul_nonneg (by omega) hj0, ?_⟩
 have h1 : (k : Int) * s.jump ≤ 16384 * s.jump := Int.mul_le_mul_of_nonneg_right (by omega) hj0
 omega
theorem rowC_ok {s : Stp} (hf : formB s = true) {k : Nat} (hk : (k : Int) ≤ s.n) : (rowC s k).Ok := by
 have hm := row_mul hf hk
 obtain ⟨_, _, _, _, _, _, _, _, _, _, _, _, _⟩ := form_facts hf
 constructor <;> simp only [rowC] <;> omega
theorem wr_ok {s : Stp} (hf : formB s = true) : (wr s).Ok := by
 obtain ⟨_, _, _, _, _, _, _, _, _, _, _, _, hj, _⟩ := form_facts hf
 unfold wr
 split <;> constructor <;> simp only <;> omega
theorem rds_ok {s : Stp} (hf : formB s = true) {r : Cl} {ev : Bool} (h : rds s = some (r, ev)) : r.Ok := by
 obtain ⟨_, _, _, _, _, _, _, _, _, _, _, _, hj, _, h6⟩ := form_facts hf
 unfold rds at h
 split at h
 · cases h; constructor <;> simp only <;> omega
 · split at h
   · cases h; constructor <;> simp only <;> omega
   · split at h
     · cases h; constructor <;> simp only <;> omega
     · split at h
       · cases h; constructor <;> simp only <;> omega
       · cases h
theorem goodP_no {s : Stp} {n : Int} (hf : formB s = false) : goodP s n = false := by simp [goodP, hf]
theorem goodP_fly {s : Stp} {n : Int} (hf : formB s = true) (h5 : s.op = 5) : goodP s n = decide ((rowC s (s.n - 1).toNat).last < n) := by
 have := form_facts hf
 unfold goodP
 rw [hf, Bool.true_and, if_pos h5]
 congr 1
 simp only [rowC, Cl.last]
 rw [show (((s.n - 1).toNat : Nat) : Int) = s.n - 1 by omega, Int.mul_one]
theorem goodP_w {s : Stp} {n : Int} (h5 : ¬ s.op = 5) (hw : n ≤ (wr s).last) : goodP s n = false := by
 simp only [goodP, if_neg h5, decide_eq_false (show ¬ (wr s).last < n by omega), Bool.false_and, Bool.and_false]
theorem goodP_r {s : Stp} {n : Int} {r : Cl} {ev : Bool} (h5 : ¬ s.op = 5) (hr : rds s = some (r, ev)) (hw : n ≤ r.last) : goodP s n = false := by
 simp only [goodP, if_neg h5, hr, decide_eq_false (show ¬ r.last < n by omega), Bool.false_and, Bool.and_false]
theorem goodP_i {s : Stp} {n : Int} {r : Cl} {ev : Bool} {i : Nat} (h5 : ¬ s.op = 5) (hr : rds s = some (r, ev)) (hi : (i : Int) < r.cnt) (hk : okRead s r ev i = false) : goodP s n = false := by
 have : (List.range r.cnt.toNat).all (okRead s r ev) = false := by
   cases h : (List.range r.cnt.toNat).all (okRead s r ev) with
   | false => rfl
   | true =>
     have := List.all_eq_true.1 h i (by simp; omega)
     rw [hk] at this; cases this
 simp only [goodP, if_neg h5, hr, this, Bool.and_false]
theorem goodP_yes {s : Stp} {n : Int} (hf : formB s = true) (h5 : ¬ s.op = 5) (hw : (wr s).last < n) (h : ∀ r ev, rds s = some (r, ev) → r.last < n ∧ ∀ i : Nat, (i : Int) < r.cnt → okRead s r ev i = true) : goodP s n = true := by
 simp only [goodP, if_neg h5, hf, decide_eq_true hw, Bool.true_and]
 split
 · rfl
 · rename_i r ev hr
   have ⟨h1, h2⟩ := h _ _ hr
   rw [decide_eq_true h1, Bool.true_and, List.all_eq_true]
   intro i hi
   exact h2 i (by simp at hi; omega)
theorem rdsN_some {s : Stp} {k : Nat} (h : k < rdsN s) : k = 0 ∧ rdsN s = 1 ∧ ∃ r ev, rds s = some (r, ev) ∧ rdsV s = rdV r ev := by
 unfold rdsN at h ⊢
 unfold rdsV
 cases hr : rds s with
 | none => rw [hr] at h; cases h
 | some x => rw [hr] at h; obtain ⟨r, ev⟩ := x; exact ⟨Nat.lt_one_iff.1 h, rfl, r, ev, rfl, rfl⟩
theorem rdsN_one {s : Stp} {r : Cl} {ev : Bool} (h : rds s = some (r, ev)) : rdsN s = 1 := by unfold rdsN; rw [h]
theorem fault_len {n : Int} : ∀ {l : List Stp} {i : Nat} {sum : Int}, i ≤ 65536 → faultA n l i sum = -1 → i + l.length ≤ 65536
  | [], i, _, hi, _ => by simpa using hi
  | s :: l, i, sum, hi, h => by
    unfold faultA at h
    split at h
    · omega
    · rename_i h1
      split at h
      · omega
      · have := fault_len (l := l) (i := i + 1) (by
          have : ¬ i = 65536 := fun e => h1 (.inl e)
          omega) h
        simp only [List.length_cons]; omega
theorem fault_none {n : Int} {l : List Stp} (h : faultP l n = -1) : l.length ≤ 65536 ∧ (∀ s ∈ l, goodP s n = true) ∧ cnts l ≤ 67108864 := by
 have hl := fault_len (by decide) h
 have h2 := (faultA_none (by omega)).1 h
 refine ⟨by omega, h2.1, ?_⟩
 rcases h2.2 with rfl | h
 · decide
 · omega
theorem cnts_take {l : List Stp} (h : ∀ s ∈ l, formB s = true) (k : Nat) : 0 ≤ cnts (l.take k) ∧ cnts (l.take k) ≤ cnts l := by
 have h1 := cnts_nonneg (l := l.take k) (fun s hs => h s (List.mem_of_mem_take hs))
 have h2 := cnts_nonneg (l := l.drop k) (fun s hs => h s (List.mem_of_mem_drop hs))
 have h3 : cnts (l.take k) + cnts (l.drop k) = cnts l := by rw [← cnts_app, List.take_append_drop]
 omega
theorem cnts_succ {l : List Stp} {k : Nat} {s : Stp} (h : l[k]? = some s) : cnts (l.take (k + 1)) = cnts (l.take k) + s.count := by
 rw [take_succ_get h, cnts_app]; simp [cnts]
structure Prg.Ow (p : Prg) : Prop where
  len : i64ok p.len
  cells : i64ok p.cells
  inn : i64ok p.inn
  out : i64ok p.out
  steps : ∀ s ∈ p.steps, s.Ok
  num : p.steps.length ≤ 9223372036854775807
theorem Prg.Ok.ow {p : Prg} (h : p.Ok) : p.Ow := ⟨h.len, h.cells, h.inn, h.out, h.steps, Nat.le_trans h.num (by decide)⟩
def chkP (p : Prg) : Nat := if headB p.len p.cells p.inn p.out = true ∧ faultP p.steps p.cells = -1 then 0 else 9
theorem chkP_cases (p : Prg) : chkP p = 0 ∨ chkP p = 9 := by unfold chkP; split <;> simp
theorem chkP_zero {p : Prg} (h : chkP p = 0) : headB p.len p.cells p.inn p.out = true ∧ faultP p.steps p.cells = -1 := by
 unfold chkP at h
 split at h
 · assumption
 · cases h
def actsN (p : Prg) : Int := if chkP p = 0 then cnts p.steps else 0
theorem fault_neg (l : List Stp) (n : Int) : ¬ 0 ≤ faultP l n → faultP l n = -1 := by
 intro h
 rcases faultA_range (n := n) (l := l) (i := 0) (sum := 0) with h1 | h1
 · exact h1
 · exact absurd (by have := h1.1; simpa [faultP] using this) h
theorem faultA_bad {n : Int} {l : List Stp} {i : Nat} {sum : Int} {s : Stp} (h : i = 65536 ∨ goodP s n = false) : faultA n (s :: l) i sum = i := by unfold faultA; rw [if_pos h]
theorem faultA_much {n : Int} {l : List Stp} {i : Nat} {sum : Int} {s : Stp} (h : 67108864 < sum + s.count) : faultA n (s :: l) i sum = i := by
 unfold faultA
 by_cases h0 : i = 65536 ∨ goodP s n = false
 · rw [if_pos h0]
 · rw [if_neg h0, if_pos h]
theorem faultA_on {n : Int} {l : List Stp} {i : Nat} {sum : Int} {s : Stp} (h0 : ¬ i = 65536) (hg : goodP s n = true) (h : ¬ 67108864 < sum + s.count) : faultA n (s :: l) i sum = faultA n l (i + 1) (sum + s.count) := by
 rw [faultA, if_neg (by rw [hg]; simp [h0]), if_neg h]
theorem elC : Elem Tryz.prog 266 265 3 24 := Elem.of (by kernel_rfl)
theorem flown_b {w0 w : World} {F : List Seg} (H : Hp w0 w F) {s : Stp} (hf : formB s = true) : Ret Tryz.prog 203 [.agg s.v.toArray] w fun v w' => ∃ p c g, v = .slice p s.n.toNat c ∧ OwnSl 265 3 p s.n.toNat c (clsV (rowsC s s.n.toNat)) g ∧ Hp w0 w' (g :: F) := by
 refine Calls.of_J (n := 25) Tryz.func203 rfl rfl rfl (J.seq (J.region (JL.e (EX.box (v := .agg _) H rfl rfl) ?_)))
 rintro _ w ⟨b1, rfl, H⟩
 refine JL.g (RX.assign) (JL.nil (J.seq (J.region (JL.g (RX.assign) (JL.nil (J.seq (J.seq (J.region (JL.g (RX.fieldAddr rfl fo178_5 rfl) (JL.g (RX.load H rfl (i := 0) (v := .int .i64 s.n) rfl rfl one3) (JL.g (RX.move) (JL.nil ?_))))))))))))
 have ff := form_facts hf
 refine J.block (J.loop (ι := Nat × Option Addr × Nat × Seg) (S := fun q => [(7, .int .i64 (q.1 : Nat)), (3, .slice q.2.1 q.1 q.2.2.1)]) (Φ := fun q w => q.1 ≤ s.n.toNat ∧ OwnSl 265 3 q.2.1 q.1 q.2.2.1 (clsV (rowsC s q.1)) q.2.2.2 ∧ Hp w0 w (q.2.2.2 :: [(b1, cel s.v 178)] :: F)) (μ := fun q => s.n.toNat - q.1) (C := [(1, _), (6, _)]) (0, none, 0, []) ⟨rfl, rfl, trivial⟩ ⟨rfl, rfl, trivial⟩ ?_ ?_)
 · exact ⟨by simp, OwnSl.nil, H.nil⟩
 clear H
 rintro ⟨k, p, c, g⟩ ρ w ⟨hk, ho, H⟩ IH
 simp only at hk ho H
 dsimp only
 refine J.seq (J.region (JL.g (RX.lt rfl rfl) (JL.nil (J.seq (J.cond_d rfl (fun hlt => ?_) (fun hlt => ?_))))))
 ·
  have hm := row_mul hf (k := k) (by omega)
  refine J.skip (J.seq (J.block (J.seq (J.region (JL.mi rfl (JL.ai rfl (JL.nil (J.region (JL.ms rfl (JL.g (RX.fieldAddr rfl fo178_1 rfl) (JL.g (RX.load H rfl (i := 1) (v := .int .i64 s.dst) rfl rfl one3) (JL.mi rfl (JL.g (RX.fieldAddr rfl fo178_3 rfl) (JL.g (RX.load H rfl (i := 1) (v := .int .i64 s.jump) rfl rfl one3) (JL.g (RX.mul rfl rfl (w_i64 rfl (by omega) (by omega))) (JL.g (RX.add rfl rfl (w_i64 rfl (by omega) (by omega))) (JL.g (RX.fieldAddr rfl fo178_4 rfl) (JL.g (RX.load H rfl (i := 1) (v := .int .i64 s.count) rfl rfl one3) (JL.g (RX.build (pv := [(0, .int .i64 (s.dst + (k : Nat) * s.jump)), (1, .int .i64 1), (2, .int .i64 s.count)]) (res := [.int .i64 (s.dst + (k : Nat) * s.jump), .int .i64 1, .int .i64 s.count]) rfl (by kernel_rfl)) (JL.e (EX.buildSlice (pv := [(0, .agg (rowC s k).v.toArray)]) (l := (rowC s k).v) (e := 265) H rfl (by kernel_rfl)) ?_))))))))))))))))))))
  rintro _ w ⟨br, rfl, H⟩
  refine JL.e (EX.append (ys := (rowC s k).v) (L' := fun s' => [(br, cel (rowC s k).v 265)] :: s' :: [(b1, cel s.v 178)] :: F) H elC rfl rfl (i := 1) rfl ho (SlAt.here rfl) rfl (cl_cell _) (by decide) (by omega) (by omega) (fun _ => rfl)) ?_
  rintro _ w ⟨p3, c3, s3, rfl, ho3, H⟩
  refine JL.al rfl (JL.nil (J.inBlock (J.region (JL.g (RX.add rfl rfl (w_i64 (r := ((k + 1 : Nat) : Int)) (by omega) (by omega) (by omega))) (JL.mi rfl (JL.nil ?_))))))
  rw [show clsV (rowsC s k) ++ (rowC s k).v = clsV (rowsC s (k + 1)) by rw [rowsC_succ, clsV_app]; simp [clsV]] at ho3
  exact IH (k + 1, p3, c3, s3) _ _ (by simp only; omega) ⟨rfl, rfl, trivial⟩ ⟨rfl, rfl, trivial⟩ ⟨by simp only; omega, ho3, H.drop⟩
 ·
  refine J.exit rfl (J.seq (J.region (JL.ms rfl (JL.al rfl (JL.nil (J.ret1 (v := .slice _ _ _) Tryz.func203 rfl rfl ?_))))))
  have hkn : k = s.n.toNat := by omega
  subst hkn
  exact ⟨_, rfl, p, c, g, rfl, ho, (H.pull 1 rfl).drop⟩
end Go.Proofs.YtfaokllgaambjaaGreatDoor
namespace Go.Proofs.YtfaokllgaambjaaGreatDoor
open Go Go.Eng
set_option maxRecDepth 100000
set_option maxHeartbeats 1600000
theorem ag272 : aggOf Tryz.prog 272 = some 4 := by kernel_rfl
theorem cl202 : callable Tryz.prog 202 = true := by kernel_rfl
theorem cl203 : callable Tryz.prog 203 = true := by kernel_rfl
theorem cl205 : callable Tryz.prog 205 = true := by kernel_rfl
theorem cl206 : callable Tryz.prog 206 = true := by kernel_rfl
theorem fo272_0 : fieldOff Tryz.prog 272 0 = some 0 := by kernel_rfl
theorem fo272_1 : fieldOff Tryz.prog 272 1 = some 3 := by kernel_rfl
theorem sl266 : sliceOf Tryz.prog 266 = some (265, 3) := by kernel_rfl
theorem sl268 : sliceOf Tryz.prog 268 = some (272, 4) := by kernel_rfl
theorem sz272 : szOf Tryz.prog 272 = some 4 := by kernel_rfl
theorem zr272 : (Tryz.prog.info? 272).bind (·.zero) = some (.agg #[.int .i64 0, .int .i64 0, .int .i64 0, .bool false]) := by kernel_rfl
theorem good_b {w0 w : World} {F : List Seg} {E : Nat → Value} (H : Hp w0 w F) (hT : SlAt F (some ⟨12, 0, none⟩) tableC) (g9 : GErr F 7 (E 9)) {s : Stp} (hs : s.Ok) {n : Int} (hn0 : i64ok n) : Ret Tryz.prog 188 [.agg s.v.toArray, .int .i64 n] w fun v w' => v = .bool (goodP s n) ∧ Hp w0 w' F := by
 refine Calls.of_J (n := 87) Tryz.func188 rfl rfl rfl (J.seq (J.region (JL.e (EX.box (v := .agg _) H rfl rfl) ?_)))
 rintro _ w ⟨b2, rfl, H⟩
 refine JL.g (RX.assign) (JL.nil (J.seq (J.seq (J.region (JL.g (RX.loadAgg H rfl (i := 0) (vs := s.v) rfl rfl ag178) (JL.e (EX.call rfl cl202 rfl ((Form_b H g9.cons hT.cons hs))) ?_))))))
 rintro _ w ⟨rfl, H⟩
 refine JL.g (RX.ifnil_neq (v := (if formB s = true then Value.nilIface else E 9)) rfl rfl (by cases formB s <;> first | rfl | exact g9.ie) if31) ?_
 refine JL.nil (J.cond rfl (fun hfb => ?_) (fun hfb => ?_))
 ·
  have hf : formB s = false := by
    cases h : formB s with
    | false => rfl
    | true => rw [h] at hfb; cases hfb
  refine J.seq (J.region (JL.g (RX.assign) (JL.nil (J.ret1 (v := .bool _) Tryz.func188 rfl rfl ?_))))
  exact ⟨_, rfl, by rw [goodP_no hf], H.drop⟩
 ·
  have hf : formB s = true := by
    cases h : formB s with
    | true => rfl
    | false => rw [h] at hfb; have := g9.nn; simp only [Bool.false_eq_true, if_false, this] at hfb; cases hfb
  have ff := form_facts hf
  refine J.skip (J.seq (J.seq (J.region (JL.g (RX.fieldAddr rfl fo178_0 rfl) (JL.g (RX.load H rfl (i := 0) (v := .int .i64 s.op) rfl rfl one3) (JL.g (RX.eq rfl rfl) (JL.nil (J.cond_d rfl (fun h5 => ?_) (fun h5 => ?_)))))))))
  ·
   have hn2 := ff.2.2.2.2.2.2.2.2.2.2.2.2.2.1 h5
   refine J.seq (J.held (fun w => Hp w0 w ([(b2, cel s.v 178)] :: F)) hmix fun w hs => ?_)
   replace H := H.same hs; clear hs
   have hS : Hp w0 w ([(b2, cel s.v 178)] :: F) := H
   refine JH.take 0 rfl (by kernel_rfl) (by kernel_rfl) (by kernel_rfl) rfl trivial (fun w H => RX.loadAgg H rfl (i := 0) (vs := s.v) rfl rfl ag178) hS (JH.take 2 rfl (by kernel_rfl) (by kernel_rfl) (by kernel_rfl) rfl trivial (fun w H => RX.fieldAddr rfl fo178_5 rfl) hS (JH.take 3 rfl (by kernel_rfl) (by kernel_rfl) (by kernel_rfl) rfl trivial (fun w H => RX.load H rfl (i := 0) rfl rfl one3) hS (JH.take 4 rfl (by kernel_rfl) (by kernel_rfl) (by kernel_rfl) rfl trivial (fun w H => RX.sub rfl rfl (w_i64 rfl (by omega) (by omega))) hS (JH.take 8 rfl (by kernel_rfl) (by kernel_rfl) (by kernel_rfl) rfl trivial (fun w H => RX.movev (v := .int _ _) rfl) hS (JH.all [1] (by kernel_rfl) (by decide) (JHO.does rfl rfl trivial (EX.call rfl cl203 rfl ((flown_b H hf))) ?_))))))
   rintro _ w ⟨p, c, g, rfl, ho, H⟩
   obtain ⟨g1, l1, rfl, hg1⟩ := ho.ptr (by omega)
   have hS : Hp w0 w ([(b2, cel s.v 178)] :: F) := H.drop
   refine ⟨hS, ?_⟩
   refine JH.take 5 rfl (by kernel_rfl) (by kernel_rfl) (by kernel_rfl) rfl trivial (fun w H => RX.indexAddr rfl rfl sl266 (by omega) (by omega) (o' := (s.n - 1).toNat * 3) (by omega)) hS (JH.all [6] (by kernel_rfl) (by decide) (JHO.go rfl rfl trivial (RX.loadAggS H ho.slAt rfl (j := (s.n - 1).toNat * 3) (by omega) (vs := (rowC s (s.n - 1).toNat).v) (clsV_read (rowsC_get (by omega))) ag265) hS (JH.all [7] (by kernel_rfl) (by decide) (JHO.does rfl rfl trivial (EX.call rfl cl204 rfl ((last_b H (rowC_ok hf (by omega))))) ?_))))
   rintro _ w ⟨rfl, H⟩
   have hS : Hp w0 w ([(b2, cel s.v 178)] :: F) := H.drop
   refine ⟨hS, ?_⟩
   refine JH.take 9 rfl (by kernel_rfl) (by kernel_rfl) (by kernel_rfl) rfl trivial (fun w H => RX.lt rfl rfl) hS (JH.take 10 rfl (by kernel_rfl) (by kernel_rfl) (by kernel_rfl) rfl trivial (fun w H => RX.assignv (v := .bool _) rfl) hS (JH.done (by kernel_rfl) (J.ret1 (v := .bool _) Tryz.func188 rfl rfl ?_)))
   first
   | (exact ⟨_, rfl, by rw [goodP_w h5 hwl], H.drop.drop.drop⟩)
   | exact ⟨_, rfl, by rw [goodP_fly hf h5], H.drop.drop⟩
   | (exact ⟨_, rfl, by rw [goodP_r h5 hr hrl], H.drop.drop.drop.drop⟩)
   | (exact ⟨_, rfl, by rw [goodP_i (i := i) h5 hr (by omega) (by rw [hoi]; simp_all)], H.drop.drop.drop.drop⟩)
   | (exact ⟨_, rfl, by rw [goodP_yes hf h5 (by omega) (fun r ev hr => hall (by have := rdsN_one hr; omega) r ev hr)], H.drop.drop.drop⟩)
  ·
   refine J.skip (J.seq (J.region (JL.g (RX.loadAgg H rfl (i := 0) (vs := s.v) rfl rfl ag178) (JL.e (EX.call rfl cl205 rfl ((touched_b H))) ?_))))
   rintro _ w ⟨rp, rc, rs, rfl, hor, H⟩
   refine JL.g (RX.movev (v := .tuple _) rfl) (JL.g (RX.extract rfl rfl) (JL.g (RX.extract rfl rfl) (JL.g (RX.extract rfl rfl) (JL.e (EX.alloc H zr265 rfl) ?_))))
   rintro _ w ⟨b6, rfl, H⟩
   refine JL.al rfl (JL.e (EX.storeAgg H rfl rfl (i := 0) (vs := (wr s).v) (l' := (wr s).v) rfl (cl_cell _) (by simp [Cl.v]) sz265 rfl rfl) ?_)
   rintro _ w H
   refine JL.ab rfl (JL.nil (J.seq (J.seq (J.region (JL.g (RX.loadAgg H rfl (i := 0) (vs := (wr s).v) rfl rfl ag265) (JL.e (EX.call rfl cl204 rfl ((last_b H (wr_ok hf)))) ?_))))))
   rintro _ w ⟨rfl, H⟩
   refine JL.mi rfl (JL.g (RX.ge rfl rfl) (JL.nil (J.cond_d rfl (fun hwl => ?_) (fun hwl => ?_))))
   ·
    refine J.seq (J.region (JL.g (RX.assign) (JL.nil (J.ret1 (v := .bool _) Tryz.func188 rfl rfl ?_))))
    first
    | (exact ⟨_, rfl, by rw [goodP_w h5 hwl], H.drop.drop.drop⟩)
    | exact ⟨_, rfl, by rw [goodP_fly hf h5], H.drop.drop⟩
    | (exact ⟨_, rfl, by rw [goodP_r h5 hr hrl], H.drop.drop.drop.drop⟩)
    | (exact ⟨_, rfl, by rw [goodP_i (i := i) h5 hr (by omega) (by rw [hoi]; simp_all)], H.drop.drop.drop.drop⟩)
    | (exact ⟨_, rfl, by rw [goodP_yes hf h5 (by omega) (fun r ev hr => hall (by have := rdsN_one hr; omega) r ev hr)], H.drop.drop.drop⟩)
   ·
    refine J.skip (J.seq (J.seq (J.region (JL.ms rfl (JL.g (RX.len_slice rfl (by rw [sl268]; rfl) rfl) ?_)))))
    refine JL.g (RX.move) (JL.nil (J.block (J.loop (ι := Nat) (S := fun k => [(40, .int .i64 (k : Nat))]) (Φ := fun k w => k ≤ rdsN s ∧ (k = 1 → ∀ r ev, rds s = some (r, ev) → r.last < n ∧ ∀ i : Nat, (i : Int) < r.cnt → okRead s r ev i = true) ∧ Hp w0 w ([(b6, cel (wr s).v 265)] :: rs :: [(b2, cel s.v 178)] :: F)) (μ := fun k => rdsN s - k) (C := [(1, _), (2, _), (6, _), (38, _), (39, _)]) 0 ⟨rfl, rfl, rfl, rfl, rfl, trivial⟩ ⟨rfl, trivial⟩ ?_ ?_)))
    · exact ⟨Nat.zero_le _, fun h => absurd h (by decide), H⟩
    clear H
    rintro k ρ w ⟨hk, hall, H⟩ IH
    refine J.seq (J.region (JL.g (RX.lt rfl rfl) (JL.nil (J.seq (J.cond_d rfl (fun hlt => ?_) (fun hlt => ?_))))))
    ·
     obtain ⟨rfl, hr1, r, ev, hr, hrv⟩ := rdsN_some (s := s) (k := k) (by omega)
     obtain ⟨g2, l2, rfl, hg2⟩ := hor.ptr (by omega)
     have hrk := rds_ok hf hr
     have hrm := hrk.mul
     have hr0 := hrk.a0
     have hr2 := hrk.a1
     have hr3 := hrk.c0
     have hr4 := hrk.c1
     have hr5 := hrk.j0
     have hr6 := hrk.j1
     rw [hrv] at hor
     refine J.skip (J.seq (J.block (J.seq (J.region (JL.g (RX.indexAddr rfl rfl sl268 (by omega) (by omega) (o' := 0) rfl) (JL.g (RX.loadAggS H hor.slAt.cons rfl (j := 0) (by omega) (vs := rdV r ev) rfl ag272) (JL.e (EX.alloc H zr272 rfl) ?_)))))))
     rintro _ w ⟨b9, rfl, H⟩
     refine JL.e (EX.storeAgg H rfl rfl (i := 0) (vs := rdV r ev) (l' := rdV r ev) rfl (by simp [rdV, Cl.v, isCell]) (by simp [rdV, Cl.v]) sz272 rfl rfl) ?_
     rintro _ w H
     refine JL.nil (J.seq (J.seq (J.region (JL.g (RX.fieldAddr rfl fo272_0 rfl) (JL.g (RX.loadAgg H rfl (i := 0) (vs := r.v) rfl rfl ag265) (JL.e (EX.call rfl cl204 rfl ((last_b H hrk))) ?_))))))
     rintro _ w ⟨rfl, H⟩
     refine JL.mi rfl (JL.g (RX.ge rfl rfl) (JL.nil (J.cond_d rfl (fun hrl => ?_) (fun hrl => ?_))))
     ·
      refine J.seq (J.region (JL.g (RX.assign) (JL.nil (J.ret1 (v := .bool _) Tryz.func188 rfl rfl ?_))))
      first
      | (exact ⟨_, rfl, by rw [goodP_w h5 hwl], H.drop.drop.drop⟩)
      | exact ⟨_, rfl, by rw [goodP_fly hf h5], H.drop.drop⟩
      | (exact ⟨_, rfl, by rw [goodP_r h5 hr hrl], H.drop.drop.drop.drop⟩)
      | (exact ⟨_, rfl, by rw [goodP_i (i := i) h5 hr (by omega) (by rw [hoi]; simp_all)], H.drop.drop.drop.drop⟩)
      | (exact ⟨_, rfl, by rw [goodP_yes hf h5 (by omega) (fun r ev hr => hall (by have := rdsN_one hr; omega) r ev hr)], H.drop.drop.drop⟩)
     ·
      refine J.skip (J.seq (J.region (JL.g (RX.fieldAddr rfl fo272_0 rfl) (JL.g (RX.fieldAddr rfl fo265_2 rfl) (JL.g (RX.load H rfl (i := 0) (v := .int .i64 r.cnt) rfl rfl one3) (JL.g (RX.move) (JL.nil (J.block (J.loop (ι := Nat) (S := fun i => [(52, .int .i64 (i : Nat))]) (Φ := fun i w => (i : Int) ≤ r.cnt ∧ (∀ j : Nat, j < i → okRead s r ev j = true) ∧ Hp w0 w ([(b9, cel (rdV r ev) 272)] :: [(b6, cel (wr s).v 265)] :: rs :: [(b2, cel s.v 178)] :: F)) (μ := fun i => r.cnt.toNat - i) (C := [(1, _), (2, _), (6, _), (9, _), (38, _), (39, _), (40, _), (51, _)]) 0 ⟨rfl, rfl, rfl, rfl, rfl, rfl, rfl, rfl, trivial⟩ ⟨rfl, trivial⟩ ?_ ?_)))))))))
      · exact ⟨by omega, fun i hi => absurd hi (Nat.not_lt_zero _), H⟩
      clear H
      rintro i ρ w ⟨hi, hok, H⟩ IH2
      refine J.seq (J.region (JL.g (RX.lt rfl rfl) (JL.nil (J.seq (J.cond_d rfl (fun hilt => ?_) (fun hilt => ?_))))))
      ·
       have him : 0 ≤ (i : Int) * r.jump ∧ (i : Int) * r.jump ≤ 1099511627776 := ⟨Int.mul_nonneg (by omega) (by omega), Int.le_trans (Int.mul_le_mul_of_nonneg_right (show (i : Int) ≤ r.cnt - 1 by omega) (by omega)) hrm.2⟩
       refine J.skip (J.seq (J.block (J.seq (J.region (JL.mi rfl (JL.ai rfl (JL.nil (J.seq (J.region (JL.g (RX.loadAgg H rfl (i := 1) (vs := (wr s).v) rfl rfl ag265) (JL.g (RX.fieldAddr rfl fo272_0 rfl) (JL.g (RX.fieldAddr rfl fo265_0 rfl) (JL.g (RX.load H rfl (i := 0) (v := .int .i64 r.at_) rfl rfl one3) (JL.mi rfl (JL.g (RX.fieldAddr rfl fo272_0 rfl) (JL.g (RX.fieldAddr rfl fo265_1 rfl) (JL.g (RX.load H rfl (i := 0) (v := .int .i64 r.jump) rfl rfl one3) (JL.g (RX.mul rfl rfl (w_i64 rfl (by omega) (by omega))) (JL.g (RX.add rfl rfl (w_i64 rfl (by omega) (by omega))) (JL.e (EX.call rfl cl206 rfl ((has_b H (wr_ok hf) (by omega) (by omega)))) ?_))))))))))))))))))))
       rintro _ w ⟨rfl, H⟩
       have hoi : okRead s r ev i = (decide ((wr s).has (r.at_ + i * r.jump) < 0) || !((decide ((wr s).has (r.at_ + i * r.jump) ≠ i) && !ev) || (ev && decide (1 < s.count)))) := rfl
       generalize (wr s).has (r.at_ + i * r.jump) = x at hoi ⊢
       refine JL.ai rfl (JL.nil (J.seq (J.seq (J.region (JL.mi rfl (JL.g (RX.lt rfl rfl) (JL.nil (J.cond_d rfl (fun hx0 => ?_) (fun hx0 => ?_)))))))))
       ·
        refine J.exit rfl (J.region (JL.g (RX.add rfl rfl (w_i64 (r := ((i + 1 : Nat) : Int)) (by omega) (by omega) (by omega))) (JL.mi rfl (JL.nil ?_))))
        exact IH2 (i + 1) _ _ (by omega) ⟨rfl, rfl, rfl, rfl, rfl, rfl, rfl, rfl, trivial⟩ ⟨rfl, trivial⟩ ⟨by omega, fun j hj => by
          rcases Nat.lt_succ_iff_lt_or_eq.1 hj with h | rfl
          · exact hok j h
          · rw [hoi]; simp_all, H⟩
       ·
        refine J.skip (J.seq (J.region (JL.mi rfl (JL.mi rfl (JL.g (RX.ne rfl rfl) (JL.mb rfl (JL.splitS 71 rfl (fun e1 => ?_) (fun e1 => ?_))))))))
        ·
         first | have e1p := of_decide_eq_true e1 | skip
         refine JL.go ⟨_, rfl, e1⟩ (RX.fieldAddr rfl fo272_1 rfl) (JL.go ⟨_, rfl, e1⟩ (RX.load H rfl (i := 0) (v := .bool ev) rfl rfl one4) (JL.go ⟨_, rfl, e1⟩ (RX.not rfl) (JL.g (RX.pick_t rfl e1) (JL.mb rfl (JL.splitS 76 rfl (fun e2 => ?_) (fun e2 => ?_))))))
         ·
          first | have e2p := of_decide_eq_true e2 | skip
          refine JL.no ⟨_, rfl, gno e2⟩ (JL.no ⟨_, rfl, gno e2⟩ (JL.no ⟨_, rfl, gno e2⟩ (JL.no ⟨_, rfl, nofun⟩ (JL.no ⟨_, rfl, nofun⟩ (JL.no ⟨_, rfl, nofun⟩ (JL.no ⟨_, rfl, gno e2⟩ (JL.g (RX.pick_t rfl e2) (JL.nil (J.cond_t rfl rfl (J.seq (J.region (JL.g (RX.assign) (JL.nil (J.ret1 (v := .bool _) Tryz.func188 rfl rfl ?_))))))))))))))
          first
          | (exact ⟨_, rfl, by rw [goodP_w h5 hwl], H.drop.drop.drop⟩)
          | exact ⟨_, rfl, by rw [goodP_fly hf h5], H.drop.drop⟩
          | (exact ⟨_, rfl, by rw [goodP_r h5 hr hrl], H.drop.drop.drop.drop⟩)
          | (exact ⟨_, rfl, by rw [goodP_i (i := i) h5 hr (by omega) (by rw [hoi]; simp_all)], H.drop.drop.drop.drop⟩)
          | (exact ⟨_, rfl, by rw [goodP_yes hf h5 (by omega) (fun r ev hr => hall (by have := rdsN_one hr; omega) r ev hr)], H.drop.drop.drop⟩)
         ·
          first | have e2p := of_decide_eq_false e2 | skip
          refine JL.go ⟨_, rfl, e2⟩ (RX.fieldAddr rfl fo272_1 rfl) (JL.go ⟨_, rfl, e2⟩ (RX.load H rfl (i := 0) (v := .bool ev) rfl rfl one4) (JL.go ⟨_, rfl, e2⟩ (RX.movev (v := .bool _) rfl) (JL.splitS 79 rfl (fun e3 => ?_) (fun e3 => ?_))))
          ·
           first | have e3p := of_decide_eq_true e3 | skip
           refine JL.go ⟨_, rfl, e3⟩ (RX.fieldAddr rfl fo178_4 rfl) (JL.go ⟨_, rfl, e3⟩ (RX.load H rfl (i := 3) (v := .int .i64 s.count) rfl rfl one3) (JL.go ⟨_, rfl, e3⟩ (RX.gt rfl rfl) (JL.go ⟨_, rfl, e2⟩ (RX.pick_t rfl e3) (JL.g (RX.pick_f rfl e2) (JL.nil (J.cond_d rfl (fun e4 => ?_) (fun e4 => ?_)))))))
           ·
            refine J.seq (J.region (JL.g (RX.assign) (JL.nil (J.ret1 (v := .bool _) Tryz.func188 rfl rfl ?_))))
            first
            | (exact ⟨_, rfl, by rw [goodP_w h5 hwl], H.drop.drop.drop⟩)
            | exact ⟨_, rfl, by rw [goodP_fly hf h5], H.drop.drop⟩
            | (exact ⟨_, rfl, by rw [goodP_r h5 hr hrl], H.drop.drop.drop.drop⟩)
            | (exact ⟨_, rfl, by rw [goodP_i (i := i) h5 hr (by omega) (by rw [hoi]; simp_all)], H.drop.drop.drop.drop⟩)
            | (exact ⟨_, rfl, by rw [goodP_yes hf h5 (by omega) (fun r ev hr => hall (by have := rdsN_one hr; omega) r ev hr)], H.drop.drop.drop⟩)
           ·
            refine J.skip (J.inBlock (J.region (JL.g (RX.add rfl rfl (w_i64 (r := ((i + 1 : Nat) : Int)) (by omega) (by omega) (by omega))) (JL.mi rfl (JL.nil ?_)))))
            exact IH2 (i + 1) _ _ (by omega) ⟨rfl, rfl, rfl, rfl, rfl, rfl, rfl, rfl, trivial⟩ ⟨rfl, trivial⟩ ⟨by omega, fun j hj => by
              rcases Nat.lt_succ_iff_lt_or_eq.1 hj with h | rfl
              · exact hok j h
              · rw [hoi]; simp_all, H⟩
          ·
           first | have e3p := of_decide_eq_false e3 | skip
           refine JL.no ⟨_, rfl, gno e3⟩ (JL.no ⟨_, rfl, gno e3⟩ (JL.no ⟨_, rfl, gno e3⟩ (JL.go ⟨_, rfl, e2⟩ (RX.pick_f rfl e3) (JL.g (RX.pick_f rfl e2) (JL.nil (J.cond_f rfl rfl (J.skip (J.inBlock (J.region (JL.g (RX.add rfl rfl (w_i64 (r := ((i + 1 : Nat) : Int)) (by omega) (by omega) (by omega))) (JL.mi rfl (JL.nil ?_))))))))))))
           exact IH2 (i + 1) _ _ (by omega) ⟨rfl, rfl, rfl, rfl, rfl, rfl, rfl, rfl, trivial⟩ ⟨rfl, trivial⟩ ⟨by omega, fun j hj => by
             rcases Nat.lt_succ_iff_lt_or_eq.1 hj with h | rfl
             · exact hok j h
             · rw [hoi]; simp_all, H⟩
        ·
         first | have e1p := of_decide_eq_false e1 | skip
         refine JL.no ⟨_, rfl, gno e1⟩ (JL.no ⟨_, rfl, gno e1⟩ (JL.no ⟨_, rfl, gno e1⟩ (JL.g (RX.pick_f rfl e1) (JL.mb rfl (JL.go ⟨_, rfl, rfl⟩ (RX.fieldAddr rfl fo272_1 rfl) (JL.go ⟨_, rfl, rfl⟩ (RX.load H rfl (i := 0) (v := .bool ev) rfl rfl one4) (JL.go ⟨_, rfl, rfl⟩ (RX.movev (v := .bool _) rfl) (JL.splitS 79 rfl (fun e3 => ?_) (fun e3 => ?_)))))))))
         ·
          first | have e3p := of_decide_eq_true e3 | skip
          refine JL.go ⟨_, rfl, e3⟩ (RX.fieldAddr rfl fo178_4 rfl) (JL.go ⟨_, rfl, e3⟩ (RX.load H rfl (i := 3) (v := .int .i64 s.count) rfl rfl one3) (JL.go ⟨_, rfl, e3⟩ (RX.gt rfl rfl) (JL.go ⟨_, rfl, rfl⟩ (RX.pick_t rfl e3) (JL.g (RX.pick_f rfl rfl) (JL.nil (J.cond_d rfl (fun e4 => ?_) (fun e4 => ?_)))))))
          ·
           refine J.seq (J.region (JL.g (RX.assign) (JL.nil (J.ret1 (v := .bool _) Tryz.func188 rfl rfl ?_))))
           first
           | (exact ⟨_, rfl, by rw [goodP_w h5 hwl], H.drop.drop.drop⟩)
           | exact ⟨_, rfl, by rw [goodP_fly hf h5], H.drop.drop⟩
           | (exact ⟨_, rfl, by rw [goodP_r h5 hr hrl], H.drop.drop.drop.drop⟩)
           | (exact ⟨_, rfl, by rw [goodP_i (i := i) h5 hr (by omega) (by rw [hoi]; simp_all)], H.drop.drop.drop.drop⟩)
           | (exact ⟨_, rfl, by rw [goodP_yes hf h5 (by omega) (fun r ev hr => hall (by have := rdsN_one hr; omega) r ev hr)], H.drop.drop.drop⟩)
          ·
           refine J.skip (J.inBlock (J.region (JL.g (RX.add rfl rfl (w_i64 (r := ((i + 1 : Nat) : Int)) (by omega) (by omega) (by omega))) (JL.mi rfl (JL.nil ?_)))))
           exact IH2 (i + 1) _ _ (by omega) ⟨rfl, rfl, rfl, rfl, rfl, rfl, rfl, rfl, trivial⟩ ⟨rfl, trivial⟩ ⟨by omega, fun j hj => by
             rcases Nat.lt_succ_iff_lt_or_eq.1 hj with h | rfl
             · exact hok j h
             · rw [hoi]; simp_all, H⟩
         ·
          first | have e3p := of_decide_eq_false e3 | skip
          refine JL.no ⟨_, rfl, gno e3⟩ (JL.no ⟨_, rfl, gno e3⟩ (JL.no ⟨_, rfl, gno e3⟩ (JL.go ⟨_, rfl, rfl⟩ (RX.pick_f rfl e3) (JL.g (RX.pick_f rfl rfl) (JL.nil (J.cond_f rfl rfl (J.skip (J.inBlock (J.region (JL.g (RX.add rfl rfl (w_i64 (r := ((i + 1 : Nat) : Int)) (by omega) (by omega) (by omega))) (JL.mi rfl (JL.nil ?_))))))))))))
          exact IH2 (i + 1) _ _ (by omega) ⟨rfl, rfl, rfl, rfl, rfl, rfl, rfl, rfl, trivial⟩ ⟨rfl, trivial⟩ ⟨by omega, fun j hj => by
            rcases Nat.lt_succ_iff_lt_or_eq.1 hj with h | rfl
            · exact hok j h
            · rw [hoi]; simp_all, H⟩
      ·
       refine J.exit rfl (J.inBlock (J.region (JL.g (RX.add rfl rfl (w_i64 (r := ((0 + 1 : Nat) : Int)) (by omega) (by omega) (by omega))) (JL.mi rfl (JL.nil (IH 1 _ _ (by omega) ⟨rfl, rfl, rfl, rfl, rfl, trivial⟩ ⟨rfl, trivial⟩ ⟨by omega, fun _ r2 ev2 h2 => ?_, H.drop⟩))))))
       rw [hr] at h2
       cases h2
       exact ⟨by omega, fun j hj => hok j (by omega)⟩
    ·
     refine J.exit rfl (J.seq (J.region (JL.g (RX.assign) (JL.nil (J.ret1 (v := .bool _) Tryz.func188 rfl rfl ?_)))))
     first
     | (exact ⟨_, rfl, by rw [goodP_w h5 hwl], H.drop.drop.drop⟩)
     | exact ⟨_, rfl, by rw [goodP_fly hf h5], H.drop.drop⟩
     | (exact ⟨_, rfl, by rw [goodP_r h5 hr hrl], H.drop.drop.drop.drop⟩)
     | (exact ⟨_, rfl, by rw [goodP_i (i := i) h5 hr (by omega) (by rw [hoi]; simp_all)], H.drop.drop.drop.drop⟩)
     | (exact ⟨_, rfl, by rw [goodP_yes hf h5 (by omega) (fun r ev hr => hall (by have := rdsN_one hr; omega) r ev hr)], H.drop.drop.drop⟩)
end Go.Proofs.YtfaokllgaambjaaGreatDoor

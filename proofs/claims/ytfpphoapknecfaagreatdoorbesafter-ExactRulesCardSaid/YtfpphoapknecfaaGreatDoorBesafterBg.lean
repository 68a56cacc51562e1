/- Numbers of one word in math/big: words, rows of words. -/
import Derived.Test.YtfpphoapknecfaaGreatDoorBesafterAr
import Derived.LaidEqlPtr
namespace Go.Proofs.YtfpphoapknecfaaGreatDoorBesafter
open Go Go.Eng
set_option maxRecDepth 100000
set_option linter.unusedVariables false
set_option linter.unusedSimpArgs false
theorem cl43 : callable Tryz.prog 43 = true := by kernel_rfl
theorem cl50 : callable Tryz.prog 50 = true := by kernel_rfl
theorem cl53 : callable Tryz.prog 53 = true := by kernel_rfl
theorem cl54 : callable Tryz.prog 54 = true := by kernel_rfl
theorem cl60 : callable Tryz.prog 60 = true := by kernel_rfl
theorem cl75 : callable Tryz.prog 75 = true := by kernel_rfl
theorem cl82 : callable Tryz.prog 82 = true := by kernel_rfl
theorem cl84 : callable Tryz.prog 84 = true := by kernel_rfl
theorem fo53_0 : fieldOff Tryz.prog 53 0 = some 0 := by kernel_rfl
theorem fo53_1 : fieldOff Tryz.prog 53 1 = some 1 := by kernel_rfl
theorem ki2 : kindOf Tryz.prog 2 = some .i64 := by kernel_rfl
theorem one4 : oneOf Tryz.prog 4 = true := by kernel_rfl
theorem one51 : oneOf Tryz.prog 51 = true := by kernel_rfl
theorem one63 : oneOf Tryz.prog 63 = true := by kernel_rfl
theorem sl50 : sliceOf Tryz.prog 50 = some (63, 1) := by kernel_rfl
theorem sl51 : sliceOf Tryz.prog 51 = some (63, 1) := by kernel_rfl
theorem sz4 : szOf Tryz.prog 4 = some 1 := by kernel_rfl
theorem sz51 : szOf Tryz.prog 51 = some 1 := by kernel_rfl
theorem sz53 : szOf Tryz.prog 53 = some 2 := by kernel_rfl
theorem sz63 : szOf Tryz.prog 63 = some 1 := by kernel_rfl
theorem ud4 : Tryz.prog.underlying 4 = some .bool := by kernel_rfl
theorem ud48 : Tryz.prog.underlying 48 = some (.pointer 53) := by kernel_rfl
theorem extAdd : ExtIs Tryz.prog 65 add64Entry := ⟨_, Tryz.func65, by decide, by decide, by kernel_rfl, by kernel_rfl⟩
theorem extSub : ExtIs Tryz.prog 67 sub64Entry := ⟨_, Tryz.func67, by decide, by decide, by kernel_rfl, by kernel_rfl⟩
theorem twAdd : TwinIs Tryz.prog 51 31 := run_callFunc_twin (twin := "math/big.addVV_g") Tryz.func51 (by kernel_rfl) (by kernel_rfl) (by kernel_rfl) (by kernel_rfl) Tryz.func31 (by kernel_rfl) (by kernel_rfl) (by kernel_rfl)
theorem twSub : TwinIs Tryz.prog 55 32 := run_callFunc_twin (twin := "math/big.subVV_g") Tryz.func55 (by kernel_rfl) (by kernel_rfl) (by kernel_rfl) (by kernel_rfl) Tryz.func32 (by kernel_rfl) (by kernel_rfl) (by kernel_rfl)
theorem twMul : TwinIs Tryz.prog 90 35 := run_callFunc_twin (twin := "math/big.mulAddVWW_g") Tryz.func90 (by kernel_rfl) (by kernel_rfl) (by kernel_rfl) (by kernel_rfl) Tryz.func35 (by kernel_rfl) (by kernel_rfl) (by kernel_rfl)
theorem two_of {l : List Value} (h : 2 ≤ l.length) : ∃ a b t, l = a :: b :: t := by
  match l, h with
  | a :: b :: t, _ => exact ⟨a, b, t, rfl⟩
theorem one_of {l : List Value} (h : 1 ≤ l.length) : ∃ a t, l = a :: t := by
  match l, h with
  | a :: t, _ => exact ⟨a, t, rfl⟩
theorem elW : Elem Tryz.prog 50 63 1 8 := Elem.of (by kernel_rfl)
theorem elN : Elem Tryz.prog 51 63 1 8 := Elem.of (by kernel_rfl)
theorem mkW : Tryz.prog.underlying 51 = some (.slice 63) ∧ ∃ i, Tryz.prog.info? 63 = some i ∧ i.zero = some (.int .u64 0) ∧ i.size = 1 ∧ i.bytes = 8 := ⟨by kernel_rfl, info_one (by kernel_rfl) (by kernel_rfl)⟩
/-- The words of a number of two words at most. -/
def wd (a : Nat) : List Nat := if a = 0 then [] else if a < 18446744073709551616 then [a] else [a % 18446744073709551616, a / 18446744073709551616]
theorem wd_pos {a : Nat} (h : 0 < a) (h2 : a < 18446744073709551616) : wd a = [a] := by unfold wd; rw [if_neg (by omega), if_pos h2]
theorem wd_two {a : Nat} (h : 18446744073709551616 ≤ a) : wd a = [a % 18446744073709551616, a / 18446744073709551616] := by unfold wd; rw [if_neg (by omega), if_neg (by omega)]
/-- A big.Int's fields. -/
def bigV (v : Int) (q : Option Addr) (c : Nat) : List Value := [.bool (decide (v < 0)), .slice q (wd v.natAbs).length c]
theorem behind_zero {b o c n : Nat} (hc : 1 ≤ c) : Value.slice (behind (some ⟨b, o, none⟩) c 0 1) (n - 0) (c - 0) = Value.slice (some ⟨b, o, none⟩) n c := by
  have hcz : ¬ c = 0 := by omega
  simp [behind, hcz]
def OwnW (q : Option Addr) (ws : List Nat) (c : Nat) (sl : Seg) : Prop := OwnSl 63 1 q ws.length c (u64sV ws) sl
/-- The memory behind a call that may have made a new row: the old row is left lying or is the new one. -/
def Left (s0 : Seg) (G : List Seg) : Prop := G = [] ∨ G = [s0]
theorem Left.drop {w0 w : World} {s s0 : Seg} {G L : List Seg} (h : Left s0 G) (H : Hp w0 w (s :: (G ++ L))) : Hp w0 w (s :: L) := by
  rcases h with rfl | rfl
  · exact H
  · exact (H.pull 1 rfl).drop
theorem u64_cell (x : Nat) : isCell (.int .u64 (x : Int)) = true := rfl
theorem ownW_row {g c : Nat} {ws : List Nat} {l : List Value} (hl : l.length = c) (hle : ws.length ≤ c) (ht : l.take ws.length = u64sV ws) : OwnW (some ⟨g, 0, none⟩) ws c [(g, cel l 63)] :=
  ⟨by simp [u64sV], .inr ⟨g, l, rfl, rfl, hle, by rw [hl, Nat.mul_one], by rw [u64sV_len]; exact ht⟩⟩


theorem mem2 {s1 s2 : Seg} {L : List Seg} {e : Nat × Obj} (h : e ∈ L.flatten) : e ∈ (s1 :: s2 :: L).flatten := by
  rw [List.flatten_cons, List.flatten_cons]
  exact List.mem_append_right _ (List.mem_append_right _ h)
section
variable {P : Program} {w w0 : World} {L : List Seg} {ρ : Operand → Value} {d : Option Tmp} {x y : Operand} {ty : TypeId} {pos : String} {af : Array Edge} {g : Option (Nat × Bool)}
theorem RX.ptrother_eql {t t' u k a b : Nat} {ca cb : Array Value} {ta tb : TypeId} (H : Hp w0 w L) (hx : ρ x = .pointer (some ⟨a, 0, none⟩)) (hy : ρ y = .pointer (some ⟨b, 0, none⟩)) (h : P.underlying t = some (.pointer u)) (hu : szOf P u = some (k + 1)) (hne : a ≠ b)
    (ha : (a, Obj.cells ca ta (0, 0)) ∈ L.flatten) (hb : (b, Obj.cells cb tb (0, 0)) ∈ L.flatten) : Runs P ρ ⟨d, .binOp .eql t x y t', ty, pos, af, g⟩ w (.bool false) := by
  obtain ⟨j, hj, hjs⟩ := Option.map_eq_some_iff.1 hu
  have hr := run_eql_ptr_other (P := P) w (a := ⟨a, 0, none⟩) (b := ⟨b, 0, none⟩) h hj (by rw [hjs]; omega) (by intro e; cases e; exact hne rfl) (H.mem _ ha) (H.mem _ hb)
  unfold Runs
  simp [execOp, hx, hy, eqGuard_at_pointer, hr]
end

set_option maxHeartbeats 1600000 in
theorem bMul_b {w0 w : World} {F : List Seg} (H : Hp w0 w F) {x y : Nat} (hx : x < 4294967296) (hy : y < 4294967296) : Ret Tryz.prog 82 [.int .u64 ((x : Nat) : Int), .int .u64 ((y : Nat) : Int)] w fun v w' => v = .tuple #[.int .u64 0, .int .u64 ((x * y : Nat) : Int)] ∧ Hp w0 w' F := by
  refine Calls.of_J (n := 30) Tryz.func82 rfl rfl rfl ?_
  refine J.seq ?_
  refine J.region ?_
  refine JL.go trivial (RX.assign) ?_
  refine JL.go trivial (RX.assign) ?_
  refine JL.nil ?_
  refine J.seq ?_
  refine J.cond_f rfl rfl ?_
  refine J.skip ?_
  refine J.seq ?_
  refine J.region ?_
  refine JL.go trivial (RX.movev (v := Value.int _ _) rfl) ?_
  refine JL.go trivial (RX.movev (v := Value.int _ _) rfl) ?_
  refine JL.does trivial (EX.call rfl cl46 rfl ((Mul64_b H hx hy))) ?_
  rintro _ w ⟨rfl, H⟩
  refine JL.go trivial (RX.movev (v := Value.tuple _) rfl) ?_
  refine JL.go trivial (RX.extract rfl rfl) ?_
  refine JL.go trivial (RX.extract rfl rfl) ?_
  refine JL.go trivial (RX.assignv (v := Value.int _ _) rfl) ?_
  refine JL.go trivial (RX.assignv (v := Value.int _ _) rfl) ?_
  refine JL.nil ?_
  refine J.seq ?_
  refine J.region ?_
  refine JL.go trivial (RX.movev (v := Value.int _ _) rfl) ?_
  refine JL.go trivial (RX.movev (v := Value.int _ _) rfl) ?_
  refine JL.go trivial (RX.assignv (v := Value.int _ _) rfl) ?_
  refine JL.go trivial (RX.assignv (v := Value.int _ _) rfl) ?_
  refine JL.nil ?_
  refine J.ret2 (v := Value.int _ _) (x := Value.int _ _) Tryz.func82 rfl rfl rfl ?_
  exact ⟨_, rfl, rfl, H⟩
set_option maxHeartbeats 1600000 in
theorem bAdd_b {w0 w : World} {F : List Seg} (H : Hp w0 w F) {x y c : Nat} (hc : c ≤ 1) : Ret Tryz.prog 54 [.int .u64 ((x : Nat) : Int), .int .u64 ((y : Nat) : Int), .int .u64 ((c : Nat) : Int)] w fun v w' => v = .tuple #[.int .u64 (((x + y + c) % 18446744073709551616 : Nat) : Int), .int .u64 (((x + y + c) / 18446744073709551616 : Nat) : Int)] ∧ Hp w0 w' F := by
  refine Calls.of_J (n := 35) Tryz.func54 rfl rfl rfl ?_
  refine J.seq ?_
  refine J.region ?_
  refine JL.go trivial (RX.assign) ?_
  refine JL.go trivial (RX.assign) ?_
  refine JL.nil ?_
  refine J.seq ?_
  refine J.cond_f rfl rfl ?_
  refine J.skip ?_
  refine J.seq ?_
  refine J.region ?_
  refine JL.go trivial (RX.movev (v := Value.int _ _) rfl) ?_
  refine JL.go trivial (RX.movev (v := Value.int _ _) rfl) ?_
  refine JL.go trivial (RX.movev (v := Value.int _ _) rfl) ?_
  refine JL.go trivial (RX.ext extAdd rfl rfl (run_addN x y c hc _)) ?_
  refine JL.go trivial (RX.movev (v := Value.tuple _) rfl) ?_
  refine JL.go trivial (RX.extract rfl rfl) ?_
  refine JL.go trivial (RX.extract rfl rfl) ?_
  refine JL.go trivial (RX.assignv (v := Value.int _ _) rfl) ?_
  refine JL.go trivial (RX.assignv (v := Value.int _ _) rfl) ?_
  refine JL.nil ?_
  refine J.seq ?_
  refine J.region ?_
  refine JL.go trivial (RX.movev (v := Value.int _ _) rfl) ?_
  refine JL.go trivial (RX.movev (v := Value.int _ _) rfl) ?_
  refine JL.go trivial (RX.assignv (v := Value.int _ _) rfl) ?_
  refine JL.go trivial (RX.assignv (v := Value.int _ _) rfl) ?_
  refine JL.nil ?_
  refine J.ret2 (v := Value.int _ _) (x := Value.int _ _) Tryz.func54 rfl rfl rfl ?_
  exact ⟨_, rfl, rfl, H⟩
set_option maxHeartbeats 1600000 in
theorem bSub_b {w0 w : World} {F : List Seg} (H : Hp w0 w F) {x y c : Nat} (hc : c ≤ 1) : Ret Tryz.prog 57 [.int .u64 ((x : Nat) : Int), .int .u64 ((y : Nat) : Int), .int .u64 ((c : Nat) : Int)] w fun v w' => v = .tuple #[.int .u64 (((x + 18446744073709551616 - y - c) % 18446744073709551616 : Nat) : Int), .int .u64 ((if x < y + c then 1 else 0 : Nat) : Int)] ∧ Hp w0 w' F := by
  refine Calls.of_J (n := 35) Tryz.func57 rfl rfl rfl ?_
  refine J.seq ?_
  refine J.region ?_
  refine JL.go trivial (RX.assign) ?_
  refine JL.go trivial (RX.assign) ?_
  refine JL.nil ?_
  refine J.seq ?_
  refine J.cond_f rfl rfl ?_
  refine J.skip ?_
  refine J.seq ?_
  refine J.region ?_
  refine JL.go trivial (RX.movev (v := Value.int _ _) rfl) ?_
  refine JL.go trivial (RX.movev (v := Value.int _ _) rfl) ?_
  refine JL.go trivial (RX.movev (v := Value.int _ _) rfl) ?_
  refine JL.go trivial (RX.ext extSub rfl rfl (run_subN x y c hc _)) ?_
  refine JL.go trivial (RX.movev (v := Value.tuple _) rfl) ?_
  refine JL.go trivial (RX.extract rfl rfl) ?_
  refine JL.go trivial (RX.extract rfl rfl) ?_
  refine JL.go trivial (RX.assignv (v := Value.int _ _) rfl) ?_
  refine JL.go trivial (RX.assignv (v := Value.int _ _) rfl) ?_
  refine JL.nil ?_
  refine J.seq ?_
  refine J.region ?_
  refine JL.go trivial (RX.movev (v := Value.int _ _) rfl) ?_
  refine JL.go trivial (RX.movev (v := Value.int _ _) rfl) ?_
  refine JL.go trivial (RX.assignv (v := Value.int _ _) rfl) ?_
  refine JL.go trivial (RX.assignv (v := Value.int _ _) rfl) ?_
  refine JL.nil ?_
  refine J.ret2 (v := Value.int _ _) (x := Value.int _ _) Tryz.func57 rfl rfl rfl ?_
  exact ⟨_, rfl, rfl, H⟩
set_option maxHeartbeats 1600000 in
theorem www_b {w0 w : World} {F : List Seg} (H : Hp w0 w F) {x y : Nat} (hx : x < 4294967296) (hy : y < 4294967296) : Ret Tryz.prog 84 [.int .u64 ((x : Nat) : Int), .int .u64 ((y : Nat) : Int), .int .u64 0] w fun v w' => v = .tuple #[.int .u64 0, .int .u64 ((x * y : Nat) : Int)] ∧ Hp w0 w' F := by
  refine Calls.of_J (n := 27) Tryz.func84 rfl rfl rfl ?_
  refine J.seq ?_
  have hq := mul_lt32 hx hy
  refine J.region ?_
  refine JL.go trivial (RX.assign) ?_
  refine JL.go trivial (RX.assign) ?_
  refine JL.nil ?_
  refine J.seq ?_
  refine J.region ?_
  refine JL.go trivial (RX.movev (v := Value.int _ _) rfl) ?_
  refine JL.go trivial (RX.movev (v := Value.int _ _) rfl) ?_
  refine JL.does trivial (EX.call rfl cl82 rfl ((bMul_b H hx hy))) ?_
  rintro _ w ⟨rfl, H⟩
  refine JL.go trivial (RX.movev (v := Value.tuple _) rfl) ?_
  refine JL.go trivial (RX.extract rfl rfl) ?_
  refine JL.go trivial (RX.extract rfl rfl) ?_
  refine JL.go trivial (RX.assignv (v := Value.int _ _) rfl) ?_
  refine JL.go trivial (RX.assignv (v := Value.int _ _) rfl) ?_
  refine JL.nil ?_
  refine J.seq ?_
  refine J.region ?_
  refine JL.go trivial (RX.assign) ?_
  refine JL.nil ?_
  refine J.seq ?_
  refine J.region ?_
  refine JL.go trivial (RX.movev (v := Value.int _ _) rfl) ?_
  refine JL.go trivial (RX.movev (v := Value.int _ _) rfl) ?_
  refine JL.does trivial (EX.call rfl cl54 rfl ((bAdd_b (c := 0) (y := 0) H (by decide)))) ?_
  rintro _ w ⟨rfl, H⟩
  refine JL.go trivial (RX.movev (v := Value.tuple _) rfl) ?_
  refine JL.go trivial (RX.extract rfl rfl) ?_
  refine JL.go trivial (RX.extract rfl rfl) ?_
  refine JL.go trivial (RX.assignv (v := Value.int _ _) rfl) ?_
  refine JL.go trivial (RX.assignv (v := Value.int _ _) rfl) ?_
  refine JL.nil ?_
  have e1 : (x * y + 0 + 0) % 18446744073709551616 = x * y := by omega
  have e2 : (x * y + 0 + 0) / 18446744073709551616 = 0 := by omega
  rw [e1, e2]
  refine J.seq ?_
  refine J.region ?_
  refine JL.go trivial (RX.movev (v := Value.int _ _) rfl) ?_
  refine JL.go trivial (RX.movev (v := Value.int _ _) rfl) ?_
  refine JL.go trivial (RX.add rfl rfl (wn (n := 0) (by simp) (by decide))) ?_
  refine JL.go trivial (RX.movev (v := Value.int _ _) rfl) ?_
  refine JL.go trivial (RX.assignv (v := Value.int _ _) rfl) ?_
  refine JL.go trivial (RX.assignv (v := Value.int _ _) rfl) ?_
  refine JL.nil ?_
  refine J.ret2 (v := Value.int _ _) (x := Value.int _ _) Tryz.func84 rfl rfl rfl ?_
  exact ⟨_, rfl, rfl, H⟩
set_option maxHeartbeats 1600000 in
theorem vww_b {w0 w : World} {L : List Seg} {q c1 c2 x y : Nat} {px : Option Addr} {z : Value} {l : List Value} (H : Hp w0 w ([(q, cel (z :: l) 63)] :: L)) (hs : SlAt ([(q, cel (z :: l) 63)] :: L) px (u64sV [x])) (hx : x < 4294967296) (hy : y < 4294967296) : Ret Tryz.prog 35 [.slice (some ⟨q, 0, none⟩) 1 c1, .slice px 1 c2, .int .u64 ((y : Nat) : Int), .int .u64 0] w fun v w' => v = .int .u64 0 ∧ Hp w0 w' ([(q, cel (.int .u64 ((x * y : Nat) : Int) :: l) 63)] :: L) := by
  refine Calls.of_J (n := 36) Tryz.func35 rfl rfl rfl ?_
  refine J.seq ?_
  obtain ⟨pb, po, rfl, hpp⟩ := hs.some (by rw [u64sV_len]; exact Nat.one_pos)
  refine J.region ?_
  refine JL.go trivial (RX.assign) ?_
  refine JL.nil ?_
  refine J.seq ?_
  refine J.seq ?_
  refine J.region ?_
  refine JL.go trivial (RX.movev (v := Value.slice _ _ _) rfl) ?_
  refine JL.go trivial (RX.len_slice rfl (by rw [sl50]; rfl) rfl) ?_
  refine JL.go trivial (RX.movev (v := Value.slice _ _ _) rfl) ?_
  refine JL.go trivial (RX.len_slice rfl (by rw [sl50]; rfl) rfl) ?_
  refine JL.go trivial (RX.ne rfl rfl) ?_
  refine JL.nil ?_
  refine J.cond_f rfl (decide_eq_false (by simp)) ?_
  refine J.skip ?_
  refine J.seq ?_
  refine J.region ?_
  refine JL.go trivial (RX.movev (v := Value.int _ _) rfl) ?_
  refine JL.go trivial (RX.assignv (v := Value.int _ _) rfl) ?_
  refine JL.nil ?_
  refine J.seq ?_
  refine J.seq ?_
  refine J.region ?_
  refine JL.go trivial (RX.movev (v := Value.slice _ _ _) rfl) ?_
  refine JL.go trivial (RX.len_slice rfl (by rw [sl50]; rfl) rfl) ?_
  refine JL.go trivial (RX.move) ?_
  refine JL.nil ?_
  refine J.block ?_
  refine J.unroll ?_
  refine J.seq ?_
  refine J.region ?_
  refine JL.go trivial (RX.lt rfl rfl) ?_
  refine JL.nil ?_
  refine J.seq ?_
  refine J.cond_t rfl (decide_eq_true (by decide)) ?_
  refine J.skip ?_
  refine J.seq ?_
  refine J.block ?_
  refine J.seq ?_
  refine J.region ?_
  refine JL.go trivial (RX.movev (v := Value.int _ _) rfl) ?_
  refine JL.go trivial (RX.assignv (v := Value.int _ _) rfl) ?_
  refine JL.nil ?_
  refine J.region ?_
  refine JL.go trivial (RX.movev (v := Value.slice _ _ _) rfl) ?_
  refine JL.go trivial (RX.movev (v := Value.int _ _) rfl) ?_
  refine JL.go trivial (RX.movev (v := Value.slice _ _ _) rfl) ?_
  refine JL.go trivial (RX.movev (v := Value.int _ _) rfl) ?_
  refine JL.go trivial (RX.indexAddr rfl rfl sl50 (by omega) (by omega) (o' := po) (by omega)) ?_
  refine JL.go trivial (RX.loadS H hs rfl (j := 0) (by omega) (v := .int .u64 (x : Int)) rfl one63) ?_
  refine JL.go trivial (RX.movev (v := Value.int _ _) rfl) ?_
  refine JL.go trivial (RX.movev (v := Value.int _ _) rfl) ?_
  refine JL.does trivial (EX.call rfl cl84 rfl ((www_b H hx hy))) ?_
  rintro _ w ⟨rfl, H⟩
  refine JL.go trivial (RX.movev (v := Value.tuple _) rfl) ?_
  refine JL.go trivial (RX.extract rfl rfl) ?_
  refine JL.go trivial (RX.extract rfl rfl) ?_
  refine JL.go trivial (RX.assignv (v := Value.int _ _) rfl) ?_
  refine JL.go trivial (RX.indexAddr rfl rfl sl50 (by omega) (by omega) rfl) ?_
  refine JL.does trivial (by first | exact EX.store (v := Value.int _ _) H rfl rfl (i := 0) rfl rfl (by simp) sz63 rfl rfl) ?_
  rintro _ w H
  refine JL.nil ?_
  refine J.inBlock ?_
  refine J.region ?_
  refine JL.go trivial (RX.add rfl rfl (w_i64 rfl (by omega) (by omega))) ?_
  refine JL.go trivial (RX.movev (v := Value.int _ _) rfl) ?_
  refine JL.nil ?_
  refine J.again ?_
  refine J.seq ?_
  refine J.region ?_
  refine JL.go trivial (RX.lt rfl rfl) ?_
  refine JL.nil ?_
  refine J.seq ?_
  refine J.cond_f rfl (decide_eq_false (by decide)) ?_
  refine J.exit rfl ?_
  refine J.ret1 (v := Value.int _ _) Tryz.func35 rfl rfl ?_
  exact ⟨_, rfl, rfl, H⟩
set_option maxHeartbeats 1600000 in
theorem norm2_b {w0 w : World} {F : List Seg} (H : Hp w0 w F) {p : Option Addr} {c x : Nat} (hs : SlAt F p (u64sV [x, 0])) (hx : 0 < x) (hc : 2 ≤ c) : Ret Tryz.prog 53 [.slice p 2 c] w fun v w' => v = .slice p 1 c ∧ Hp w0 w' F := by
  refine Calls.of_J (n := 21) Tryz.func53 rfl rfl rfl ?_
  refine J.seq ?_
  obtain ⟨pb, po, rfl, hpp⟩ := hs.some (by rw [u64sV_len]; exact Nat.two_pos)
  refine J.region ?_
  refine JL.go trivial (RX.assign) ?_
  refine JL.nil ?_
  refine J.seq ?_
  refine J.region ?_
  refine JL.go trivial (RX.movev (v := Value.slice _ _ _) rfl) ?_
  refine JL.go trivial (RX.len_slice rfl (by rw [sl51]; rfl) rfl) ?_
  refine JL.go trivial (RX.assignv (v := Value.int _ _) rfl) ?_
  refine JL.nil ?_
  refine J.seq ?_
  refine J.block ?_
  refine J.unroll ?_
  refine J.seq ?_
  refine J.seq ?_
  refine J.region ?_
  refine JL.go trivial (RX.movev (v := Value.int _ _) rfl) ?_
  refine JL.go trivial (RX.gt rfl rfl) ?_
  refine JL.go trivial (RX.movev (v := Value.bool _) rfl) ?_
  refine JL.go ⟨_, rfl, (decide_eq_true (by decide))⟩ (RX.movev (v := Value.slice _ _ _) rfl) ?_
  refine JL.go ⟨_, rfl, (decide_eq_true (by decide))⟩ (RX.movev (v := Value.int _ _) rfl) ?_
  refine JL.go ⟨_, rfl, (decide_eq_true (by decide))⟩ (RX.sub rfl rfl (w_i64 (r := 1) (by simp) (by decide) (by decide))) ?_
  refine JL.go ⟨_, rfl, (decide_eq_true (by decide))⟩ (RX.indexAddr rfl rfl sl51 (by omega) (by omega) (o' := po + 1) (by omega)) ?_
  refine JL.go ⟨_, rfl, (decide_eq_true (by decide))⟩ (RX.loadS H hs rfl (j := 1) rfl (v := .int .u64 0) rfl one63) ?_
  refine JL.go ⟨_, rfl, (decide_eq_true (by decide))⟩ (RX.eq rfl rfl) ?_
  refine JL.go trivial (RX.pick_t rfl (decide_eq_true (by decide))) ?_
  refine JL.nil ?_
  refine J.cond_t rfl (decide_eq_true rfl) ?_
  refine J.skip ?_
  refine J.block ?_
  refine J.region ?_
  refine JL.go trivial (RX.movev (v := Value.int _ _) rfl) ?_
  refine JL.go trivial (RX.sub rfl rfl (w_i64 (r := 1) (by simp) (by decide) (by decide))) ?_
  refine JL.go trivial (RX.assignv (v := Value.int _ _) rfl) ?_
  refine JL.nil ?_
  refine J.inBlock ?_
  refine J.again ?_
  refine J.seq ?_
  refine J.seq ?_
  refine J.region ?_
  refine JL.go trivial (RX.movev (v := Value.int _ _) rfl) ?_
  refine JL.go trivial (RX.gt rfl rfl) ?_
  refine JL.go trivial (RX.movev (v := Value.bool _) rfl) ?_
  refine JL.go ⟨_, rfl, (decide_eq_true (by decide))⟩ (RX.movev (v := Value.slice _ _ _) rfl) ?_
  refine JL.go ⟨_, rfl, (decide_eq_true (by decide))⟩ (RX.movev (v := Value.int _ _) rfl) ?_
  refine JL.go ⟨_, rfl, (decide_eq_true (by decide))⟩ (RX.sub rfl rfl (w_i64 (r := 0) (by simp) (by decide) (by decide))) ?_
  refine JL.go ⟨_, rfl, (decide_eq_true (by decide))⟩ (RX.indexAddr rfl rfl sl51 (by omega) (by omega) (o' := po) (by omega)) ?_
  refine JL.go ⟨_, rfl, (decide_eq_true (by decide))⟩ (RX.loadS H hs rfl (j := 0) (by omega) (v := .int .u64 (x : Int)) rfl one63) ?_
  refine JL.go ⟨_, rfl, (decide_eq_true (by decide))⟩ (RX.eq rfl rfl) ?_
  refine JL.go trivial (RX.pick_t rfl (decide_eq_true (by decide))) ?_
  refine JL.nil ?_
  refine J.cond_f rfl (decide_eq_false (by omega)) ?_
  refine J.exit rfl ?_
  refine J.seq ?_
  refine J.region ?_
  refine JL.go trivial (RX.movev (v := Value.slice _ _ _) rfl) ?_
  refine JL.go trivial (RX.movev (v := Value.int _ _) rfl) ?_
  refine JL.go trivial (RX.slice_lh rfl rfl rfl sl51 (fun a ha => by cases ha; rfl) (by decide) (by decide) (by omega) (r := 0) (s := 1) rfl rfl) ?_
  refine JL.go trivial (RX.assignv (v := Value.slice _ _ _) rfl) ?_
  refine JL.nil ?_
  refine J.ret1 (v := Value.slice _ _ _) Tryz.func53 rfl rfl ?_
  exact ⟨_, rfl, by simp [behind], H⟩
set_option maxHeartbeats 1600000 in
theorem norm1_b {w0 w : World} {F : List Seg} (H : Hp w0 w F) {p : Option Addr} {c x : Nat} (hs : SlAt F p (u64sV [x])) (hx : 0 < x) (hc : 1 ≤ c) : Ret Tryz.prog 53 [.slice p 1 c] w fun v w' => v = .slice p 1 c ∧ Hp w0 w' F := by
  refine Calls.of_J (n := 21) Tryz.func53 rfl rfl rfl ?_
  refine J.seq ?_
  obtain ⟨pb, po, rfl, hpp⟩ := hs.some (by rw [u64sV_len]; exact Nat.one_pos)
  refine J.region ?_
  refine JL.go trivial (RX.assign) ?_
  refine JL.nil ?_
  refine J.seq ?_
  refine J.region ?_
  refine JL.go trivial (RX.movev (v := Value.slice _ _ _) rfl) ?_
  refine JL.go trivial (RX.len_slice rfl (by rw [sl51]; rfl) rfl) ?_
  refine JL.go trivial (RX.assignv (v := Value.int _ _) rfl) ?_
  refine JL.nil ?_
  refine J.seq ?_
  refine J.block ?_
  refine J.unroll ?_
  refine J.seq ?_
  refine J.seq ?_
  refine J.region ?_
  refine JL.go trivial (RX.movev (v := Value.int _ _) rfl) ?_
  refine JL.go trivial (RX.gt rfl rfl) ?_
  refine JL.go trivial (RX.movev (v := Value.bool _) rfl) ?_
  refine JL.go ⟨_, rfl, (decide_eq_true (by decide))⟩ (RX.movev (v := Value.slice _ _ _) rfl) ?_
  refine JL.go ⟨_, rfl, (decide_eq_true (by decide))⟩ (RX.movev (v := Value.int _ _) rfl) ?_
  refine JL.go ⟨_, rfl, (decide_eq_true (by decide))⟩ (RX.sub rfl rfl (w_i64 (r := 0) (by simp) (by decide) (by decide))) ?_
  refine JL.go ⟨_, rfl, (decide_eq_true (by decide))⟩ (RX.indexAddr rfl rfl sl51 (by omega) (by omega) (o' := po) (by omega)) ?_
  refine JL.go ⟨_, rfl, (decide_eq_true (by decide))⟩ (RX.loadS H hs rfl (j := 0) (by omega) (v := .int .u64 (x : Int)) rfl one63) ?_
  refine JL.go ⟨_, rfl, (decide_eq_true (by decide))⟩ (RX.eq rfl rfl) ?_
  refine JL.go trivial (RX.pick_t rfl (decide_eq_true (by decide))) ?_
  refine JL.nil ?_
  refine J.cond_f rfl (decide_eq_false (by omega)) ?_
  refine J.exit rfl ?_
  refine J.seq ?_
  refine J.region ?_
  refine JL.go trivial (RX.movev (v := Value.slice _ _ _) rfl) ?_
  refine JL.go trivial (RX.movev (v := Value.int _ _) rfl) ?_
  refine JL.go trivial (RX.slice_lh rfl rfl rfl sl51 (fun a ha => by cases ha; rfl) (by decide) (by decide) (by omega) (r := 0) (s := 1) rfl rfl) ?_
  refine JL.go trivial (RX.assignv (v := Value.slice _ _ _) rfl) ?_
  refine JL.nil ?_
  refine J.ret1 (v := Value.slice _ _ _) Tryz.func53 rfl rfl ?_
  exact ⟨_, rfl, behind_zero (by omega), H⟩
set_option maxHeartbeats 1600000 in
theorem norm0_b {w0 w : World} {F : List Seg} (H : Hp w0 w F) {p : Option Addr} {c : Nat} (hs : SlAt F p (u64sV [0])) (hc : 1 ≤ c) : Ret Tryz.prog 53 [.slice p 1 c] w fun v w' => v = .slice p 0 c ∧ Hp w0 w' F := by
  refine Calls.of_J (n := 21) Tryz.func53 rfl rfl rfl ?_
  refine J.seq ?_
  obtain ⟨pb, po, rfl, hpp⟩ := hs.some (by rw [u64sV_len]; exact Nat.one_pos)
  refine J.region ?_
  refine JL.go trivial (RX.assign) ?_
  refine JL.nil ?_
  refine J.seq ?_
  refine J.region ?_
  refine JL.go trivial (RX.movev (v := Value.slice _ _ _) rfl) ?_
  refine JL.go trivial (RX.len_slice rfl (by rw [sl51]; rfl) rfl) ?_
  refine JL.go trivial (RX.assignv (v := Value.int _ _) rfl) ?_
  refine JL.nil ?_
  refine J.seq ?_
  refine J.block ?_
  refine J.unroll ?_
  refine J.seq ?_
  refine J.seq ?_
  refine J.region ?_
  refine JL.go trivial (RX.movev (v := Value.int _ _) rfl) ?_
  refine JL.go trivial (RX.gt rfl rfl) ?_
  refine JL.go trivial (RX.movev (v := Value.bool _) rfl) ?_
  refine JL.splitS 8 rfl (fun hg => ?_) (fun hg => ?_)
  · skip
    first | have hgp := of_decide_eq_true hg | skip
    skip
    refine JL.go ⟨_, rfl, hg⟩ (RX.movev (v := Value.slice _ _ _) rfl) ?_
    refine JL.go ⟨_, rfl, hg⟩ (RX.movev (v := Value.int _ _) rfl) ?_
    refine JL.go ⟨_, rfl, hg⟩ (RX.sub rfl rfl (w_i64 (r := 0) (by simp) (by decide) (by decide))) ?_
    refine JL.go ⟨_, rfl, hg⟩ (RX.indexAddr rfl rfl sl51 (by omega) (by omega) (o' := po) (by omega)) ?_
    refine JL.go ⟨_, rfl, hg⟩ (RX.loadS H hs rfl (j := 0) (by omega) (v := .int .u64 0) rfl one63) ?_
    refine JL.go ⟨_, rfl, hg⟩ (RX.eq rfl rfl) ?_
    refine JL.go trivial (RX.pick_t rfl hg) ?_
    refine JL.nil ?_
    refine J.cond_t rfl (decide_eq_true rfl) ?_
    refine J.skip ?_
    refine J.block ?_
    refine J.region ?_
    refine JL.go trivial (RX.movev (v := Value.int _ _) rfl) ?_
    refine JL.go trivial (RX.sub rfl rfl (w_i64 (r := 0) (by simp) (by decide) (by decide))) ?_
    refine JL.go trivial (RX.assignv (v := Value.int _ _) rfl) ?_
    refine JL.nil ?_
    refine J.inBlock ?_
    refine J.again ?_
    refine J.seq ?_
    refine J.seq ?_
    refine J.region ?_
    refine JL.go trivial (RX.movev (v := Value.int _ _) rfl) ?_
    refine JL.go trivial (RX.gt rfl rfl) ?_
    refine JL.go trivial (RX.movev (v := Value.bool _) rfl) ?_
    refine JL.splitS 8 rfl (fun hg2 => ?_) (fun hg2 => ?_)
    · skip
      first | have hg2p := of_decide_eq_true hg2 | skip
      exfalso
      simp at hg2
    · skip
      first | have hg2p := of_decide_eq_false hg2 | skip
      skip
      refine JL.no ⟨_, rfl, gno hg2⟩ ?_
      refine JL.no ⟨_, rfl, gno hg2⟩ ?_
      refine JL.no ⟨_, rfl, gno hg2⟩ ?_
      refine JL.no ⟨_, rfl, gno hg2⟩ ?_
      refine JL.no ⟨_, rfl, gno hg2⟩ ?_
      refine JL.no ⟨_, rfl, gno hg2⟩ ?_
      refine JL.go trivial (RX.pick_f rfl hg2) ?_
      refine JL.nil ?_
      refine J.cond_f rfl hg2 ?_
      refine J.exit rfl ?_
      refine J.seq ?_
      refine J.region ?_
      refine JL.go trivial (RX.movev (v := Value.slice _ _ _) rfl) ?_
      refine JL.go trivial (RX.movev (v := Value.int _ _) rfl) ?_
      refine JL.go trivial (RX.slice_lh rfl rfl rfl sl51 (fun a ha => by cases ha; rfl) (by decide) (by decide) (by omega) (r := 0) (s := 0) rfl rfl) ?_
      refine JL.go trivial (RX.assignv (v := Value.slice _ _ _) rfl) ?_
      refine JL.nil ?_
      refine J.ret1 (v := Value.slice _ _ _) Tryz.func53 rfl rfl ?_
      exact ⟨_, rfl, behind_zero (by omega), H⟩
  · skip
    first | have hgp := of_decide_eq_false hg | skip
    exfalso
    simp at hg
set_option maxHeartbeats 1600000 in
theorem make_old {w0 w : World} {F : List Seg} (H : Hp w0 w F) {q n m c : Nat} (hn : n ≤ c) : Ret Tryz.prog 50 [.slice (some ⟨q, 0, none⟩) m c, .int .i64 ((n : Nat) : Int)] w fun v w' => v = .slice (some ⟨q, 0, none⟩) n c ∧ Hp w0 w' F := by
  refine Calls.of_J (n := 19) Tryz.func50 rfl rfl rfl ?_
  refine J.seq ?_
  refine J.region ?_
  refine JL.go trivial (RX.assign) ?_
  refine JL.nil ?_
  refine J.seq ?_
  refine J.seq ?_
  refine J.region ?_
  refine JL.go trivial (RX.movev (v := Value.int _ _) rfl) ?_
  refine JL.go trivial (RX.movev (v := Value.slice _ _ _) rfl) ?_
  refine JL.go trivial (RX.cap_slice rfl (by rw [sl51]; rfl) rfl) ?_
  refine JL.go trivial (RX.le rfl rfl) ?_
  refine JL.nil ?_
  refine J.cond_t rfl (decide_eq_true (by omega)) ?_
  refine J.seq ?_
  refine J.region ?_
  refine JL.go trivial (RX.movev (v := Value.slice _ _ _) rfl) ?_
  refine JL.go trivial (RX.movev (v := Value.int _ _) rfl) ?_
  refine JL.go trivial (RX.slice_h rfl rfl sl51 (fun a ha => by cases ha; rfl) (by omega) (by omega) (r := n) (by omega)) ?_
  refine JL.go trivial (RX.assignv (v := Value.slice _ _ _) rfl) ?_
  refine JL.nil ?_
  refine J.ret1 (v := Value.slice _ _ _) Tryz.func50 rfl rfl ?_
  exact ⟨_, rfl, rfl, H⟩
set_option maxHeartbeats 1600000 in
theorem make_new {w0 w : World} {F : List Seg} (H : Hp w0 w F) {p : Option Addr} {n m c : Nat} (hn : c < n) (hn1 : 1 ≤ n) (hn2 : n ≤ 3) : Ret Tryz.prog 50 [.slice p m c, .int .i64 ((n : Nat) : Int)] w fun v w' => ∃ b c', v = .slice (some ⟨b, 0, none⟩) n c' ∧ n ≤ c' ∧ Hp w0 w' ([(b, cel (fnL (fun _ => Value.int .u64 0) c') 63)] :: F) := by
  refine Calls.of_J (n := 19) Tryz.func50 rfl rfl rfl ?_
  refine J.seq ?_
  refine J.region ?_
  refine JL.go trivial (RX.assign) ?_
  refine JL.nil ?_
  refine J.seq ?_
  refine J.seq ?_
  refine J.region ?_
  refine JL.go trivial (RX.movev (v := Value.int _ _) rfl) ?_
  refine JL.go trivial (RX.movev (v := Value.slice _ _ _) rfl) ?_
  refine JL.go trivial (RX.cap_slice rfl (by rw [sl51]; rfl) rfl) ?_
  refine JL.go trivial (RX.le rfl rfl) ?_
  refine JL.nil ?_
  refine J.cond_f rfl (decide_eq_false (by omega)) ?_
  refine J.skip ?_
  refine J.seq ?_
  refine J.seq ?_
  refine J.region ?_
  refine JL.go trivial (RX.movev (v := Value.int _ _) rfl) ?_
  refine JL.go trivial (RX.eq rfl rfl) ?_
  refine JL.nil ?_
  refine J.cond_d rfl (fun h1 => ?_) (fun h1 => ?_)
  · skip
    obtain rfl : n = 1 := by omega
    refine J.seq ?_
    refine J.region ?_
    refine JL.does trivial (EX.makeS2 (e := 63) (m := 1) (c := 1) H mkW.1 mkW.2 rfl rfl rfl rfl rfl (by decide) (by decide) (by decide)) ?_
    rintro _ w ⟨b1, rfl, H⟩
    refine JL.go trivial (RX.assignv (v := Value.slice _ _ _) rfl) ?_
    refine JL.nil ?_
    refine J.ret1 (v := Value.slice _ _ _) Tryz.func50 rfl rfl ?_
    exact ⟨_, rfl, b1, 1, rfl, by decide, H⟩
  · skip
    refine J.skip ?_
    refine J.seq ?_
    refine J.region ?_
    refine JL.go trivial (RX.movev (v := Value.int _ _) rfl) ?_
    refine JL.go trivial (RX.movev (v := Value.int _ _) rfl) ?_
    refine JL.go trivial (RX.add rfl rfl (wi (n := n + 4) (by omega) (by omega))) ?_
    refine JL.does trivial (EX.makeS2 (e := 63) (m := n) (c := n + 4) H mkW.1 mkW.2 rfl rfl rfl rfl rfl (by omega) (by omega) (by omega)) ?_
    rintro _ w ⟨b1, rfl, H⟩
    refine JL.go trivial (RX.assignv (v := Value.slice _ _ _) rfl) ?_
    refine JL.nil ?_
    refine J.ret1 (v := Value.slice _ _ _) Tryz.func50 rfl rfl ?_
    exact ⟨_, rfl, b1, n + 4, rfl, by omega, H⟩
theorem make_b {w0 w : World} {s0 : Seg} {L : List Seg} (H : Hp w0 w (s0 :: L)) {q0 : Option Addr} {ws : List Nat} {c0 n : Nat} (ho : OwnW q0 ws c0 s0) (hn1 : 1 ≤ n) (hn2 : n ≤ 3) : Ret Tryz.prog 50 [.slice q0 ws.length c0, .int .i64 (n : Int)] w fun v w' =>
    ∃ q l c G, v = .slice (some ⟨q, 0, none⟩) n c ∧ n ≤ c ∧ l.length = c ∧ Left s0 G ∧ Hp w0 w' ([(q, cel l 63)] :: (G ++ L)) ∧ (∀ p xs, SlAt (s0 :: L) p xs → SlAt ([(q, cel l 63)] :: (G ++ L)) p xs) := by
  by_cases hc : n ≤ c0
  · obtain ⟨_, ⟨_, _, h, _⟩ | ⟨g, l, rfl, rfl, _, hl, _⟩⟩ := ho
    · omega
    · refine Ret.mono (make_old H hc) ?_
      rintro v w' ⟨rfl, H⟩
      exact ⟨g, l, c0, [], rfl, hc, by rw [hl, Nat.mul_one], .inl rfl, H, fun _ _ h => h⟩
  · refine Ret.mono (make_new H (by omega) hn1 hn2) ?_
    rintro v w' ⟨b, c, rfl, hle, H⟩
    exact ⟨b, _, c, [s0], rfl, hle, fnL_len, .inr rfl, H, fun _ _ h => h.cons⟩
set_option maxHeartbeats 1600000 in
theorem mulAddWW_b {w0 w : World} {s0 : Seg} {L : List Seg} (H : Hp w0 w (s0 :: L)) {q0 : Option Addr} {ws : List Nat} {c0 : Nat} (ho : OwnW q0 ws c0 s0) {px : Option Addr} {c2 x y : Nat} (hs : SlAt (s0 :: L) px (u64sV [x])) (hx0 : 0 < x) (hx : x < 4294967296) (hy0 : 0 < y) (hy : y < 4294967296) : Ret Tryz.prog 75 [.slice q0 ws.length c0, .slice px 1 c2, .int .u64 ((y : Nat) : Int), .int .u64 0] w fun v w' => ∃ q c s' G, v = .slice q 1 c ∧ OwnW q ([x * y]) c s' ∧ Left s0 G ∧ Hp w0 w' (s' :: (G ++ L)) := by
  refine Calls.of_J (n := 37) Tryz.func75 rfl rfl rfl ?_
  refine J.seq ?_
  refine J.region ?_
  refine JL.go trivial (RX.assign) ?_
  refine JL.nil ?_
  refine J.seq ?_
  refine J.region ?_
  refine JL.go trivial (RX.movev (v := Value.slice _ _ _) rfl) ?_
  refine JL.go trivial (RX.len_slice rfl (by rw [sl51]; rfl) rfl) ?_
  refine JL.go trivial (RX.assignv (v := Value.int _ _) rfl) ?_
  refine JL.nil ?_
  refine J.seq ?_
  refine J.seq ?_
  refine J.region ?_
  refine JL.go trivial (RX.movev (v := Value.int _ _) rfl) ?_
  refine JL.go trivial (RX.eq rfl rfl) ?_
  refine JL.go trivial (RX.movev (v := Value.bool _) rfl) ?_
  refine JL.go ⟨_, rfl, rfl⟩ (RX.movev (v := Value.int _ _) rfl) ?_
  refine JL.go ⟨_, rfl, rfl⟩ (RX.eq rfl rfl) ?_
  refine JL.go trivial (RX.pick_f rfl rfl) ?_
  refine JL.nil ?_
  refine J.cond_f rfl (decide_eq_false (by omega)) ?_
  refine J.skip ?_
  refine J.seq ?_
  refine J.region ?_
  refine JL.go trivial (RX.movev (v := Value.slice _ _ _) rfl) ?_
  refine JL.go trivial (RX.movev (v := Value.int _ _) rfl) ?_
  refine JL.go trivial (RX.add rfl rfl (wi (n := 2) (by simp) (by decide))) ?_
  refine JL.does trivial (EX.call rfl cl50 rfl ((make_b H ho (by decide) (by decide)))) ?_
  rintro _ w ⟨q, l, c, G, rfl, hle, hll, hG, H, hk⟩
  have hs2 := hk _ _ hs
  obtain ⟨z0, z1, l, rfl⟩ := two_of (l := l) (by omega)
  refine JL.go trivial (RX.assignv (v := Value.slice _ _ _) rfl) ?_
  refine JL.nil ?_
  refine J.seq ?_
  refine J.region ?_
  refine JL.go trivial (RX.movev (v := Value.slice _ _ _) rfl) ?_
  refine JL.go trivial (RX.movev (v := Value.int _ _) rfl) ?_
  refine JL.go trivial (RX.movev (v := Value.slice _ _ _) rfl) ?_
  refine JL.go trivial (RX.movev (v := Value.int _ _) rfl) ?_
  refine JL.go trivial (RX.slice_lh rfl rfl rfl sl51 (fun a ha => by cases ha; rfl) (by decide) (by decide) (by omega) (r := 0) (s := 1) rfl rfl) ?_
  rw [behind_zero (by omega)]
  refine JL.go trivial (RX.movev (v := Value.slice _ _ _) rfl) ?_
  refine JL.go trivial (RX.movev (v := Value.int _ _) rfl) ?_
  refine JL.go trivial (RX.movev (v := Value.int _ _) rfl) ?_
  refine JL.does trivial (EX.callT rfl twMul rfl (vww_b H hs2 hx hy)) ?_
  rintro _ w ⟨rfl, H⟩
  refine JL.go trivial (RX.indexAddr rfl rfl sl51 (by omega) (by omega) (o' := 1) (by omega)) ?_
  refine JL.does trivial (EX.store (v := Value.int _ _) H rfl rfl (i := 0) rfl rfl (by simp) sz63 rfl rfl) ?_
  rintro _ w H
  refine JL.nil ?_
  refine J.seq ?_
  have hxy : 0 < x * y := Nat.mul_pos hx0 hy0
  refine J.region ?_
  refine JL.go trivial (RX.movev (v := Value.slice _ _ _) rfl) ?_
  refine JL.does trivial (EX.call rfl cl53 rfl ((norm2_b (x := x * y) H (SlAt.here rfl) hxy hle))) ?_
  rintro _ w ⟨rfl, H⟩
  refine JL.go trivial (RX.assignv (v := Value.slice _ _ _) rfl) ?_
  refine JL.nil ?_
  refine J.ret1 (v := Value.slice _ _ _) Tryz.func75 rfl rfl ?_
  exact ⟨_, rfl, _, c, _, G, rfl, ownW_row (by simpa using hll) (by simp; omega) rfl, hG, H⟩
set_option maxHeartbeats 1600000 in
theorem natMul_b {w0 w : World} {s0 : Seg} {L : List Seg} (H : Hp w0 w (s0 :: L)) {q0 : Option Addr} {ws : List Nat} {c0 : Nat} (ho : OwnW q0 ws c0 s0) {px py stk : Option Addr} {c2 c3 x y : Nat} (hs : SlAt (s0 :: L) px (u64sV [x])) (hs3 : SlAt (s0 :: L) py (u64sV [y])) (hx0 : 0 < x) (hx : x < 4294967296) (hy0 : 0 < y) (hy : y < 4294967296) : Ret Tryz.prog 60 [.slice q0 ws.length c0, .pointer stk, .slice px 1 c2, .slice py 1 c3] w fun v w' => ∃ q c s' G, v = .slice q 1 c ∧ OwnW q ([x * y]) c s' ∧ Left s0 G ∧ Hp w0 w' (s' :: (G ++ L)) := by
  refine Calls.of_J (n := 121) Tryz.func60 rfl rfl rfl ?_
  refine J.seq ?_
  obtain ⟨pb, po, rfl, hpp⟩ := hs3.some (by rw [u64sV_len]; exact Nat.one_pos)
  refine J.region ?_
  refine JL.go trivial (RX.assign) ?_
  refine JL.nil ?_
  refine J.seq ?_
  refine J.region ?_
  refine JL.go trivial (RX.movev (v := Value.slice _ _ _) rfl) ?_
  refine JL.go trivial (RX.len_slice rfl (by rw [sl51]; rfl) rfl) ?_
  refine JL.go trivial (RX.assignv (v := Value.int _ _) rfl) ?_
  refine JL.nil ?_
  refine J.seq ?_
  refine J.region ?_
  refine JL.go trivial (RX.movev (v := Value.slice _ _ _) rfl) ?_
  refine JL.go trivial (RX.len_slice rfl (by rw [sl51]; rfl) rfl) ?_
  refine JL.go trivial (RX.assignv (v := Value.int _ _) rfl) ?_
  refine JL.nil ?_
  refine J.seq ?_
  refine J.block ?_
  refine J.seq ?_
  refine J.region ?_
  refine JL.go trivial (RX.movev (v := Value.int _ _) rfl) ?_
  refine JL.go trivial (RX.movev (v := Value.int _ _) rfl) ?_
  refine JL.go trivial (RX.lt rfl rfl) ?_
  refine JL.go trivial (RX.assignv (v := Value.bool _) rfl) ?_
  refine JL.nil ?_
  refine J.cond_f rfl (decide_eq_false (by decide)) ?_
  refine J.seq ?_
  refine J.region ?_
  refine JL.go trivial (RX.movev (v := Value.int _ _) rfl) ?_
  refine JL.go trivial (RX.eq rfl rfl) ?_
  refine JL.go trivial (RX.movev (v := Value.bool _) rfl) ?_
  refine JL.go ⟨_, rfl, rfl⟩ (RX.movev (v := Value.int _ _) rfl) ?_
  refine JL.go ⟨_, rfl, rfl⟩ (RX.eq rfl rfl) ?_
  refine JL.go trivial (RX.pick_f rfl rfl) ?_
  refine JL.go trivial (RX.assignv (v := Value.bool _) rfl) ?_
  refine JL.nil ?_
  refine J.cond_f rfl rfl ?_
  refine J.seq ?_
  refine J.region ?_
  refine JL.go trivial (RX.movev (v := Value.int _ _) rfl) ?_
  refine JL.go trivial (RX.eq rfl rfl) ?_
  refine JL.go trivial (RX.assignv (v := Value.bool _) rfl) ?_
  refine JL.nil ?_
  refine J.cond_t rfl rfl ?_
  refine J.seq ?_
  refine J.region ?_
  refine JL.go trivial (RX.movev (v := Value.slice _ _ _) rfl) ?_
  refine JL.go trivial (RX.movev (v := Value.slice _ _ _) rfl) ?_
  refine JL.go trivial (RX.movev (v := Value.slice _ _ _) rfl) ?_
  refine JL.go trivial (RX.indexAddr rfl rfl sl51 (by omega) (by omega) (o' := po) (by omega)) ?_
  refine JL.go trivial (RX.loadS H hs3 rfl (j := 0) (by omega) (v := .int .u64 (y : Int)) rfl one63) ?_
  refine JL.does trivial (EX.call rfl cl75 rfl ((mulAddWW_b H ho hs hx0 hx hy0 hy))) ?_
  rintro _ w ⟨q, c, s1, G, rfl, ho1, hG, H⟩
  refine JL.go trivial (RX.assignv (v := Value.slice _ _ _) rfl) ?_
  refine JL.nil ?_
  refine J.ret1 (v := Value.slice _ _ _) Tryz.func60 rfl rfl ?_
  exact ⟨_, rfl, q, c, s1, G, rfl, ho1, hG, H⟩
set_option maxHeartbeats 1600000 in
theorem imul_b {w0 w : World} {L : List Seg} {sz : Seg} {bz : Nat} {vz : Int} {q0 : Option Addr} {c0 : Nat} (H : Hp w0 w ([(bz, cel (bigV (vz) q0 c0) 53)] :: sz :: L)) (ho : OwnW q0 (wd vz.natAbs) c0 sz) {bx by_ a b : Nat} {qx qy : Option Addr} {cx cy : Nat} (hX : SlAt L (some ⟨bx, 0, none⟩) (bigV (a : Int) qx cx)) (hY : SlAt L (some ⟨by_, 0, none⟩) (bigV (b : Int) qy cy)) (hxw : SlAt L qx (u64sV (wd a))) (hyw : SlAt L qy (u64sV (wd b))) {CX CY : Array Value} {TX TY : TypeId} (hmx : (bx, Obj.cells CX TX (0, 0)) ∈ L.flatten) (hmy : (by_, Obj.cells CY TY (0, 0)) ∈ L.flatten) (hne : bx ≠ by_) (ha0 : 0 < a) (ha : a < 4294967296) (hb0 : 0 < b) (hb : b < 4294967296) : Ret Tryz.prog 43 [.pointer (some ⟨bz, 0, none⟩), .pointer none, .pointer (some ⟨bx, 0, none⟩), .pointer (some ⟨by_, 0, none⟩)] w fun _ w' => ∃ q c s1, OwnW q (wd (((a * b : Nat) : Int)).natAbs) c s1 ∧ Hp w0 w' ([(bz, cel (bigV (((a * b : Nat) : Int)) q c) 53)] :: s1 :: L) := by
  refine Calls.of_J (n := 64) Tryz.func43 rfl rfl rfl ?_
  refine J.seq ?_
  refine J.seq ?_
  have hab := Nat.mul_pos ha0 hb0
  have hab2 := mul_lt32 ha hb
  rw [wd_pos ha0 (by omega)] at hxw
  rw [wd_pos hb0 (by omega)] at hyw
  have ea : wd ((a : Int)).natAbs = [a] := by rw [Int.natAbs_natCast, wd_pos ha0 (by omega)]
  have eb : wd ((b : Int)).natAbs = [b] := by rw [Int.natAbs_natCast, wd_pos hb0 (by omega)]
  have eab : wd (((a * b : Nat) : Int)).natAbs = [a * b] := by rw [Int.natAbs_natCast, wd_pos hab hab2]
  unfold bigV at hX hY H ⊢
  rw [ea] at hX
  rw [eb] at hY
  rw [eab]
  refine J.region ?_
  refine JL.go trivial (RX.movev (v := Value.pointer _) rfl) ?_
  refine JL.go trivial (RX.movev (v := Value.pointer _) rfl) ?_
  refine JL.go trivial (RX.ptrother_eql H rfl rfl ud48 (k := 1) sz53 hne (mem2 hmx) (mem2 hmy)) ?_
  refine JL.nil ?_
  refine J.cond_f rfl rfl ?_
  refine J.skip ?_
  refine J.seq ?_
  refine J.any hmix fun w hs => ?_
  replace H := H.same hs; clear hs
  refine JA.take 0 (listed' := [true, false, false, false, false, false, false, false, false, false, false, false, false, false, false, false, false, false]) rfl (by kernel_rfl) (by kernel_rfl) (by kernel_rfl) rfl trivial (fun w => RX.movev (v := Value.pointer _) rfl) ?_
  refine JA.stage (listed := [true, false, false, false, false, false, false, false, false, false, false, false, false, false, false, false, false, false]) 14 [1, 2, 3, 4, 5, 6, 7, 8, 9, 10, 11, 12, 13] H (by kernel_rfl) rfl rfl ?_
  refine JI.go rfl trivial (fun w H => RX.movev (v := Value.pointer _) rfl) ?_
  refine JI.go rfl trivial (fun w H => RX.nilCheck rfl) ?_
  refine JI.go rfl trivial (fun w H => RX.fieldAddr rfl fo53_1 rfl) ?_
  refine JI.go rfl trivial (fun w H => RX.load H rfl (i := 0) (v := .slice _ _ _) rfl rfl one51) ?_
  refine JI.go rfl trivial (fun w H => RX.movev (v := Value.pointer _) rfl) ?_
  refine JI.go rfl trivial (fun w H => RX.movev (v := Value.pointer _) rfl) ?_
  refine JI.go rfl trivial (fun w H => RX.nilCheck rfl) ?_
  refine JI.go rfl trivial (fun w H => RX.fieldAddr rfl fo53_1 rfl) ?_
  refine JI.go rfl trivial (fun w H => RX.loadS H hX.cons.cons rfl (j := 1) rfl (v := .slice _ _ _) rfl one51) ?_
  refine JI.go rfl trivial (fun w H => RX.movev (v := Value.pointer _) rfl) ?_
  refine JI.go rfl trivial (fun w H => RX.nilCheck rfl) ?_
  refine JI.go rfl trivial (fun w H => RX.fieldAddr rfl fo53_1 rfl) ?_
  refine JI.go rfl trivial (fun w H => RX.loadS H hY.cons.cons rfl (j := 1) rfl (v := .slice _ _ _) rfl one51) ?_
  refine JI.nil fun w H => ?_
  refine JL.does trivial (EX.call rfl cl60 rfl ((natMul_b (H.pull 1 rfl) ho hxw.cons.cons hyw.cons.cons ha0 ha hb0 hb))) ?_
  rintro _ w ⟨q, c, s1, G, rfl, ho1, hG, H⟩
  replace H := hG.drop H
  refine JL.go trivial (RX.nilCheck rfl) ?_
  refine JL.go trivial (RX.fieldAddr rfl fo53_1 rfl) ?_
  refine JL.does trivial (EX.store (v := Value.slice _ _ _) H rfl rfl (i := 1) rfl rfl (by simp) sz51 rfl rfl) ?_
  rintro _ w H
  refine JL.nil ?_
  refine J.any hmix fun w hs => ?_
  replace H := H.same hs; clear hs
  refine JA.stage (listed := [false, false, false, false, false, false, false, false, false, false, false, false, false, false, false, false, false, false, false, false, false]) 20 [0, 1, 2, 3, 4, 5, 6, 7, 8, 9, 10, 11, 12, 13, 14, 15, 16, 17, 18, 19] H (by kernel_rfl) rfl rfl ?_
  refine JI.go rfl trivial (fun w H => RX.movev (v := Value.pointer _) rfl) ?_
  refine JI.go rfl trivial (fun w H => RX.movev (v := Value.pointer _) rfl) ?_
  refine JI.go rfl trivial (fun w H => RX.nilCheck rfl) ?_
  refine JI.go rfl trivial (fun w H => RX.fieldAddr rfl fo53_1 rfl) ?_
  refine JI.go rfl trivial (fun w H => RX.load H rfl (i := 1) (v := .slice _ _ _) rfl rfl one51) ?_
  refine JI.go rfl trivial (fun w H => RX.len_slice rfl (by rw [sl51]; rfl) rfl) ?_
  refine JI.go rfl trivial (fun w H => RX.gt rfl rfl) ?_
  refine JI.go rfl trivial (fun w H => RX.movev (v := Value.bool _) rfl) ?_
  refine JI.go rfl ⟨_, rfl, (decide_eq_true (by decide))⟩ (fun w H => RX.movev (v := Value.pointer _) rfl) ?_
  refine JI.go rfl ⟨_, rfl, (decide_eq_true (by decide))⟩ (fun w H => RX.nilCheck rfl) ?_
  refine JI.go rfl ⟨_, rfl, (decide_eq_true (by decide))⟩ (fun w H => RX.fieldAddr rfl fo53_0 rfl) ?_
  refine JI.go rfl ⟨_, rfl, (decide_eq_true (by decide))⟩ (fun w H => RX.loadS H hX.cons.cons rfl (j := 0) rfl (v := .bool _) rfl one4) ?_
  refine JI.go rfl ⟨_, rfl, (decide_eq_true (by decide))⟩ (fun w H => RX.movev (v := Value.pointer _) rfl) ?_
  refine JI.go rfl ⟨_, rfl, (decide_eq_true (by decide))⟩ (fun w H => RX.nilCheck rfl) ?_
  refine JI.go rfl ⟨_, rfl, (decide_eq_true (by decide))⟩ (fun w H => RX.fieldAddr rfl fo53_0 rfl) ?_
  refine JI.go rfl ⟨_, rfl, (decide_eq_true (by decide))⟩ (fun w H => RX.loadS H hY.cons.cons rfl (j := 0) rfl (v := .bool _) rfl one4) ?_
  refine JI.go rfl ⟨_, rfl, (decide_eq_true (by decide))⟩ (fun w H => RX.bool_neq rfl rfl ud4) ?_
  refine JI.go rfl trivial (fun w H => RX.pick_t rfl (decide_eq_true (by decide))) ?_
  refine JI.go rfl trivial (fun w H => RX.nilCheck rfl) ?_
  refine JI.go rfl trivial (fun w H => RX.fieldAddr rfl fo53_0 rfl) ?_
  refine JI.nil fun w H => ?_
  refine JL.does trivial (EX.store (v := Value.bool _) H rfl rfl (i := 1) rfl rfl (by simp) sz4 rfl rfl) ?_
  rintro _ w H
  refine JL.nil ?_
  refine J.end0 Tryz.func43 rfl ?_
  refine ⟨_, rfl, q, c, s1, ho1, ?_⟩
  have e1 : decide (((a : Nat) : Int) < 0) = false := decide_eq_false (by omega)
  have e2 : decide (((b : Nat) : Int) < 0) = false := decide_eq_false (by omega)
  have e3 : decide ((((a * b : Nat) : Nat) : Int) < 0) = false := decide_eq_false (by omega)
  rw [e1, e2] at H
  rw [e3]
  exact H.pull 1 rfl
set_option maxHeartbeats 1600000 in
theorem iMul_b {w0 w : World} {L : List Seg} {sz : Seg} {bz : Nat} {vz : Int} {q0 : Option Addr} {c0 : Nat} (H : Hp w0 w ([(bz, cel (bigV (vz) q0 c0) 53)] :: sz :: L)) (ho : OwnW q0 (wd vz.natAbs) c0 sz) {bx by_ a b : Nat} {qx qy : Option Addr} {cx cy : Nat} (hX : SlAt L (some ⟨bx, 0, none⟩) (bigV (a : Int) qx cx)) (hY : SlAt L (some ⟨by_, 0, none⟩) (bigV (b : Int) qy cy)) (hxw : SlAt L qx (u64sV (wd a))) (hyw : SlAt L qy (u64sV (wd b))) {CX CY : Array Value} {TX TY : TypeId} (hmx : (bx, Obj.cells CX TX (0, 0)) ∈ L.flatten) (hmy : (by_, Obj.cells CY TY (0, 0)) ∈ L.flatten) (hne : bx ≠ by_) (ha0 : 0 < a) (ha : a < 4294967296) (hb0 : 0 < b) (hb : b < 4294967296) : Ret Tryz.prog 26 [.pointer (some ⟨bz, 0, none⟩), .pointer (some ⟨bx, 0, none⟩), .pointer (some ⟨by_, 0, none⟩)] w fun v w' => ∃ q c s1, v = .pointer (some ⟨bz, 0, none⟩) ∧ OwnW q (wd (((a * b : Nat) : Int)).natAbs) c s1 ∧ Hp w0 w' ([(bz, cel (bigV (((a * b : Nat) : Int)) q c) 53)] :: s1 :: L) := by
  refine Calls.of_J (n := 12) Tryz.func26 rfl rfl rfl ?_
  refine J.seq ?_
  refine J.region ?_
  refine JL.go trivial (RX.assign) ?_
  refine JL.nil ?_
  refine J.seq ?_
  refine J.region ?_
  refine JL.go trivial (RX.movev (v := Value.pointer _) rfl) ?_
  refine JL.go trivial (RX.movev (v := Value.pointer _) rfl) ?_
  refine JL.go trivial (RX.movev (v := Value.pointer _) rfl) ?_
  refine JL.does trivial (EX.call rfl cl43 rfl ((imul_b H ho hX hY hxw hyw hmx hmy hne ha0 ha hb0 hb))) ?_
  rintro _ w ⟨q, c, s1, ho1, H⟩
  refine JL.nil ?_
  refine J.seq ?_
  refine J.region ?_
  refine JL.go trivial (RX.movev (v := Value.pointer _) rfl) ?_
  refine JL.go trivial (RX.assignv (v := Value.pointer _) rfl) ?_
  refine JL.nil ?_
  refine J.ret1 (v := Value.pointer _) Tryz.func26 rfl rfl ?_
  exact ⟨_, rfl, q, c, s1, rfl, ho1, H⟩
theorem wneg {v : Int} (h : v < 0) (hv : v.natAbs ≤ 9223372036854775808) : IntKind.u64.wrap (0 - IntKind.u64.wrap v) = ((v.natAbs : Nat) : Int) := by
  have e : IntKind.u64.wrap v = v + 18446744073709551616 := by simp only [IntKind.wrap, IntKind.bits, IntKind.signed]; simp; omega
  rw [e]
  simp only [IntKind.wrap, IntKind.bits, IntKind.signed]; simp; omega
theorem ownW_one {b : Nat} (x : Nat) : OwnW (some ⟨b, 0, none⟩) [x] 1 [(b, cel [.int .u64 (x : Int)] 63)] := ownW_row rfl (by simp) rfl
theorem ownW_nil : OwnW none [] 0 [] := OwnSl.nil
set_option maxHeartbeats 1600000 in
theorem NewInt_b {w0 w : World} {F : List Seg} (H : Hp w0 w F) {v : Int} (hv : v.natAbs ≤ 9223372036854775808) : Ret Tryz.prog 22 [.int .i64 v] w fun u w' => ∃ b q c sl, u = .pointer (some ⟨b, 0, none⟩) ∧ OwnW q (wd v.natAbs) c sl ∧ Hp w0 w' ([(b, cel (bigV v q c) 53)] :: sl :: F) := by
  refine Calls.of_J (n := 29) Tryz.func22 rfl rfl rfl ?_
  refine J.seq ?_
  refine J.region ?_
  refine JL.go trivial (RX.assign) ?_
  refine JL.nil ?_
  refine J.seq ?_
  refine J.region ?_
  refine JL.go trivial (RX.movev (v := Value.int _ _) rfl) ?_
  refine JL.go trivial (RX.conv rfl (by rw [ki2]; rfl) ki37 (rfl : IntKind.u64.wrap v = IntKind.u64.wrap v)) ?_
  refine JL.go trivial (RX.assignv (v := Value.int _ _) rfl) ?_
  refine JL.nil ?_
  refine J.seq ?_
  refine J.seq ?_
  refine J.region ?_
  refine JL.go trivial (RX.movev (v := Value.int _ _) rfl) ?_
  refine JL.go trivial (RX.lt rfl rfl) ?_
  refine JL.nil ?_
  refine J.cond_d rfl (fun hneg => ?_) (fun hneg => ?_)
  · skip
    refine J.region ?_
    refine JL.go trivial (RX.movev (v := Value.int _ _) rfl) ?_
    refine JL.go trivial (RX.neg rfl (wneg hneg hv)) ?_
    refine JL.go trivial (RX.assignv (v := Value.int _ _) rfl) ?_
    refine JL.nil ?_
    refine J.seq ?_
    refine J.region ?_
    refine JL.go trivial (RX.assign) ?_
    refine JL.nil ?_
    refine J.seq ?_
    refine J.seq ?_
    refine J.region ?_
    refine JL.go trivial (RX.movev (v := Value.int _ _) rfl) ?_
    refine JL.go trivial (RX.eq rfl rfl) ?_
    refine JL.nil ?_
    refine J.cond_d rfl (fun hz => ?_) (fun hz => ?_)
    · skip
      exfalso
      omega
    · skip
      refine J.seq ?_
      refine J.region ?_
      refine JL.go trivial (RX.move) ?_
      refine JL.no ⟨_, rfl, gno rfl⟩ ?_
      refine JL.no ⟨_, rfl, gno rfl⟩ ?_
      refine JL.no ⟨_, rfl, gno rfl⟩ ?_
      refine JL.go trivial (RX.pick_f rfl rfl) ?_
      refine JL.nil ?_
      refine J.cond_f rfl rfl ?_
      refine J.region ?_
      refine JL.go trivial (RX.movev (v := Value.int _ _) rfl) ?_
      refine JL.does trivial (EX.buildSlice1 H elW rfl rfl) ?_
      rintro _ w ⟨bz, rfl, H⟩
      refine JL.go trivial (RX.assignv (v := Value.slice _ _ _) rfl) ?_
      refine JL.nil ?_
      refine J.seq ?_
      refine J.region ?_
      refine JL.go trivial (RX.movev (v := Value.int _ _) rfl) ?_
      refine JL.go trivial (RX.lt rfl rfl) ?_
      refine JL.go trivial (RX.movev (v := Value.slice _ _ _) rfl) ?_
      refine JL.go trivial (RX.build (pv := [(0, .bool (decide (v < 0))), (1, .slice (some ⟨bz, 0, none⟩) 1 1)]) (res := [.bool (decide (v < 0)), .slice (some ⟨bz, 0, none⟩) 1 1]) rfl (by kernel_rfl)) ?_
      refine JL.does trivial (EX.box (v := Value.agg _) H rfl rfl) ?_
      rintro _ w ⟨b1, rfl, H⟩
      refine JL.go trivial (RX.assignv (v := Value.pointer _) rfl) ?_
      refine JL.nil ?_
      refine J.ret1 (v := Value.pointer _) Tryz.func22 rfl rfl ?_
      have hp : 0 < v.natAbs := by omega
      unfold bigV
      rw [wd_pos hp (by omega)]
      exact ⟨_, rfl, b1, _, _, _, rfl, ownW_one _, H⟩
  · skip
    have e : IntKind.u64.wrap v = ((v.natAbs : Nat) : Int) := w_u64 (by omega) (by omega) (by omega)
    rw [e]
    refine J.skip ?_
    refine J.seq ?_
    refine J.region ?_
    refine JL.go trivial (RX.assign) ?_
    refine JL.nil ?_
    refine J.seq ?_
    refine J.seq ?_
    refine J.region ?_
    refine JL.go trivial (RX.movev (v := Value.int _ _) rfl) ?_
    refine JL.go trivial (RX.eq rfl rfl) ?_
    refine JL.nil ?_
    refine J.cond_d rfl (fun hz => ?_) (fun hz => ?_)
    · skip
      replace H := H.nil
      refine J.skip ?_
      refine J.seq ?_
      refine J.region ?_
      refine JL.go trivial (RX.movev (v := Value.int _ _) rfl) ?_
      refine JL.go trivial (RX.lt rfl rfl) ?_
      refine JL.go trivial (RX.movev (v := Value.slice _ _ _) rfl) ?_
      refine JL.go trivial (RX.build (pv := [(0, .bool (decide (v < 0))), (1, .slice none 0 0)]) (res := [.bool (decide (v < 0)), .slice none 0 0]) rfl (by kernel_rfl)) ?_
      refine JL.does trivial (EX.box (v := Value.agg _) H rfl rfl) ?_
      rintro _ w ⟨b1, rfl, H⟩
      refine JL.go trivial (RX.assignv (v := Value.pointer _) rfl) ?_
      refine JL.nil ?_
      refine J.ret1 (v := Value.pointer _) Tryz.func22 rfl rfl ?_
      subst hz
      exact ⟨_, rfl, b1, none, 0, [], rfl, ownW_nil, H⟩
    · skip
      refine J.seq ?_
      refine J.region ?_
      refine JL.go trivial (RX.move) ?_
      refine JL.no ⟨_, rfl, gno rfl⟩ ?_
      refine JL.no ⟨_, rfl, gno rfl⟩ ?_
      refine JL.no ⟨_, rfl, gno rfl⟩ ?_
      refine JL.go trivial (RX.pick_f rfl rfl) ?_
      refine JL.nil ?_
      refine J.cond_f rfl rfl ?_
      refine J.region ?_
      refine JL.go trivial (RX.movev (v := Value.int _ _) rfl) ?_
      refine JL.does trivial (EX.buildSlice1 H elW rfl rfl) ?_
      rintro _ w ⟨bz, rfl, H⟩
      refine JL.go trivial (RX.assignv (v := Value.slice _ _ _) rfl) ?_
      refine JL.nil ?_
      refine J.seq ?_
      refine J.region ?_
      refine JL.go trivial (RX.movev (v := Value.int _ _) rfl) ?_
      refine JL.go trivial (RX.lt rfl rfl) ?_
      refine JL.go trivial (RX.movev (v := Value.slice _ _ _) rfl) ?_
      refine JL.go trivial (RX.build (pv := [(0, .bool (decide (v < 0))), (1, .slice (some ⟨bz, 0, none⟩) 1 1)]) (res := [.bool (decide (v < 0)), .slice (some ⟨bz, 0, none⟩) 1 1]) rfl (by kernel_rfl)) ?_
      refine JL.does trivial (EX.box (v := Value.agg _) H rfl rfl) ?_
      rintro _ w ⟨b1, rfl, H⟩
      refine JL.go trivial (RX.assignv (v := Value.pointer _) rfl) ?_
      refine JL.nil ?_
      refine J.ret1 (v := Value.pointer _) Tryz.func22 rfl rfl ?_
      have hp : 0 < v.natAbs := by omega
      unfold bigV
      rw [wd_pos hp (by omega)]
      exact ⟨_, rfl, b1, _, _, _, rfl, ownW_one _, H⟩
theorem wd_len (a : Nat) : (wd a).length = if a = 0 then 0 else if a < 18446744073709551616 then 1 else 2 := by unfold wd; split; rfl; split <;> rfl
theorem wd_le {a : Nat} (h : a < 18446744073709551616) : (wd a).length ≤ 1 := by rw [wd_len]; split <;> (try split) <;> omega
theorem wd_le2 (a : Nat) : (wd a).length ≤ 2 := by rw [wd_len]; split <;> (try split) <;> omega
theorem wd_zero {a : Nat} (h : ((wd a).length : Int) = 0) : a = 0 := by rw [wd_len] at h; split at h; omega; split at h <;> omega
theorem wd_nz {a : Nat} (h : ¬ ((wd a).length : Int) = 0) : 0 < a := by rw [wd_len] at h; split at h <;> omega
set_option maxHeartbeats 1600000 in
theorem low64_b {w0 w : World} {F : List Seg} (H : Hp w0 w F) {a c : Nat} {q : Option Addr} (hs : SlAt F q (u64sV (wd a))) (ha : a < 18446744073709551616) : Ret Tryz.prog 58 [.slice q (wd a).length c] w fun v w' => v = .int .u64 ((a : Nat) : Int) ∧ Hp w0 w' F := by
  refine Calls.of_J (n := 22) Tryz.func58 rfl rfl rfl ?_
  refine J.seq ?_
  refine J.region ?_
  refine JL.go trivial (RX.assign) ?_
  refine JL.nil ?_
  refine J.seq ?_
  refine J.seq ?_
  refine J.region ?_
  refine JL.go trivial (RX.movev (v := Value.slice _ _ _) rfl) ?_
  refine JL.go trivial (RX.len_slice rfl (by rw [sl51]; rfl) rfl) ?_
  refine JL.go trivial (RX.eq rfl rfl) ?_
  refine JL.nil ?_
  refine J.cond_d rfl (fun h0 => ?_) (fun h0 => ?_)
  · skip
    refine J.seq ?_
    refine J.region ?_
    refine JL.go trivial (RX.assign) ?_
    refine JL.nil ?_
    refine J.ret1 (v := Value.int _ _) Tryz.func58 rfl rfl ?_
    obtain rfl := wd_zero h0
    exact ⟨_, rfl, rfl, H⟩
  · skip
    have hp := wd_nz h0
    rw [wd_pos hp ha] at hs ⊢
    obtain ⟨pb, po, rfl, hpp⟩ := hs.some (by rw [u64sV_len]; exact Nat.one_pos)
    refine J.skip ?_
    refine J.seq ?_
    refine J.region ?_
    refine JL.go trivial (RX.movev (v := Value.slice _ _ _) rfl) ?_
    refine JL.go trivial (RX.indexAddr rfl rfl sl51 (by omega) (by simp) (o' := po) (by omega)) ?_
    refine JL.go trivial (RX.loadS H hs rfl (j := 0) (by omega) (v := .int .u64 (a : Int)) rfl one63) ?_
    refine JL.go trivial (RX.assignv (v := Value.int _ _) rfl) ?_
    refine JL.nil ?_
    refine J.seq ?_
    refine J.seq ?_
    refine J.region ?_
    refine JL.go trivial (RX.move) ?_
    refine JL.no ⟨_, rfl, gno rfl⟩ ?_
    refine JL.no ⟨_, rfl, gno rfl⟩ ?_
    refine JL.no ⟨_, rfl, gno rfl⟩ ?_
    refine JL.go trivial (RX.pick_f rfl rfl) ?_
    refine JL.nil ?_
    refine J.cond_f rfl rfl ?_
    refine J.skip ?_
    refine J.seq ?_
    refine J.region ?_
    refine JL.go trivial (RX.movev (v := Value.int _ _) rfl) ?_
    refine JL.go trivial (RX.assignv (v := Value.int _ _) rfl) ?_
    refine JL.nil ?_
    refine J.ret1 (v := Value.int _ _) Tryz.func58 rfl rfl ?_
    exact ⟨_, rfl, rfl, H⟩
end Go.Proofs.YtfpphoapknecfaaGreatDoorBesafter

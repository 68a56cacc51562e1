/- Line of package listing. -/
import Derived.Test.YtgkmmbdlclecnaaDoorLn
namespace Go.Proofs.YtgkmmbdlclecnaaDoor
open Go Go.Eng
set_option maxRecDepth 100000
set_option linter.unusedVariables false
set_option linter.unusedSimpArgs false
theorem ag66 : aggOf Tryd.prog 66 = some 2 := by kernel_rfl
theorem ag67 : aggOf Tryd.prog 67 = some 12 := by kernel_rfl
theorem ar67 : arrayOf Tryd.prog 67 = some (6, 66, 2) := by kernel_rfl
theorem cl20 : callable Tryd.prog 20 = true := by kernel_rfl
theorem cl21 : callable Tryd.prog 21 = true := by kernel_rfl
theorem cl23 : callable Tryd.prog 23 = true := by kernel_rfl
theorem cl25 : callable Tryd.prog 25 = true := by kernel_rfl
theorem cl26 : callable Tryd.prog 26 = true := by kernel_rfl
theorem cl39 : callable Tryd.prog 39 = true := by kernel_rfl
theorem cl40 : callable Tryd.prog 40 = true := by kernel_rfl
theorem cl41 : callable Tryd.prog 41 = true := by kernel_rfl
theorem cl42 : callable Tryd.prog 42 = true := by kernel_rfl
theorem cl43 : callable Tryd.prog 43 = true := by kernel_rfl
theorem cl44 : callable Tryd.prog 44 = true := by kernel_rfl
theorem fo66_0 : fieldOff Tryd.prog 66 0 = some 0 := by kernel_rfl
theorem fo66_1 : fieldOff Tryd.prog 66 1 = some 1 := by kernel_rfl
theorem one5 : oneOf Tryd.prog 5 = true := by kernel_rfl
theorem one64 : oneOf Tryd.prog 64 = true := by kernel_rfl
theorem sz66 : szOf Tryd.prog 66 = some 2 := by kernel_rfl
theorem sz67 : szOf Tryd.prog 67 = some 12 := by kernel_rfl
theorem zr66 : (Tryd.prog.info? 66).bind (·.zero) = some (.agg #[.int .u8 0, .nilFunc]) := by kernel_rfl
theorem zr67 : (Tryd.prog.info? 67).bind (·.zero) = some (.agg #[.int .u8 0, .nilFunc, .int .u8 0, .nilFunc, .int .u8 0, .nilFunc, .int .u8 0, .nilFunc, .int .u8 0, .nilFunc, .int .u8 0, .nilFunc]) := by kernel_rfl

section
variable {P : Program} {w w0 : World} {L : List Seg} {ρ : Operand → Value} {d : Option Tmp} {x y z : Operand} {ty : TypeId} {pos : String} {af : Array Edge} {g : Option (Nat × Bool)}
/-- An element of an array that is a value: the element is a struct or an array itself. -/
theorem RX.indexAgg {t e n sz : Nat} {k : IntKind} {i : Int} {vs us : List Value} (hx : ρ x = .agg vs.toArray) (hi : ρ y = .int k i) (ht : arrayOf P t = some (n, e, sz)) (ha : aggOf P e = some sz)
    (h0 : 0 ≤ i) (h1 : i < (n : Int)) (hv : readN vs (i.toNat * sz) sz = some us) : Runs P ρ ⟨d, .index t x y, ty, pos, af, g⟩ w (.agg us.toArray) := by
  obtain ⟨hu, inf, hinf, hsz⟩ := arrayOf_run ht
  obtain ⟨a1, a2⟩ := aggOf_run (P := P) (w := w) ha
  unfold readN at hv
  have hus : (vs.drop (i.toNat * sz)).take sz = us := by
    revert hv; dsimp only; split
    · intro h; exact Option.some.inj h
    · intro h; cases h
  subst hus
  unfold Runs
  have hp : (part e vs.toArray (i.toNat * sz)).run P w = .ok (.agg ((vs.drop (i.toNat * sz)).take sz).toArray) w := by
    unfold part
    simp only [Sem.run_bind, a1, a2, Result.andThen_ok, if_true]
    rw [show vs.toArray.extract (i.toNat * sz) (i.toNat * sz + sz) = ((vs.drop (i.toNat * sz)).take sz).toArray by simp]
    rfl
  have hs : (sizeOf e).run P w = .ok sz w := a2
  simp [execOp, hx, hi, Instr.index, asIntOf, run_underlying hu, h0, h1, hs, hp]
end
theorem b_size (a : List UInt8) : (⟨a.toArray⟩ : ByteArray).size = a.length := by simp [ByteArray.size]
def e9 (E : Nat → Value) (b : Bool) : Value := if b then .nilIface else E 9
theorem e9_ie {F : List Seg} {E : Nat → Value} (h : GErr F 0 (E 9)) (b : Bool) : isErr (e9 E b) = true ∧ isNil (e9 E b) = b := by
  cases b
  · exact ⟨h.ie, h.nn⟩
  · exact ⟨rfl, rfl⟩
def fieldsV : List Value := (letters.zip [0, 1, 2, 3, 4, 5]).flatMap fun q => [.int .u8 q.1.toNat, .func (.func (39 + q.2)) #[] #[]]
def fieldV (k : Nat) : List Value := [.int .u8 (letters.getD k 0).toNat, .func (.func (39 + k)) #[] #[]]
theorem field_cell (k : Nat) : ∀ v ∈ fieldV k, isCell v = true := by
  intro v hv
  simp only [fieldV, List.mem_cons, List.not_mem_nil, or_false] at hv
  rcases hv with rfl | rfl <;> rfl
theorem fields_read {k : Nat} (h : k < 6) : readN fieldsV (k * 2) 2 = some (fieldV k) := by
  have h : k = 0 ∨ k = 1 ∨ k = 2 ∨ k = 3 ∨ k = 4 ∨ k = 5 := by omega
  rcases h with rfl | rfl | rfl | rfl | rfl | rfl <;> rfl

theorem get1_b {w0 w : World} {F : List Seg} (H : Hp w0 w F) {b : Nat} : Ret Tryd.prog (39 + 0) [.pointer (some ⟨b, 0, none⟩)] w fun v w' => v = .pointer (some ⟨b, 1 + 0, none⟩) ∧ Hp w0 w' F := by
  refine Calls.of_J (n := 6) Tryd.func39 rfl rfl rfl ?_
  refine J.seq ?_
  refine J.region ?_
  refine JL.go trivial (RX.assign) ?_
  refine JL.nil ?_
  refine J.seq ?_
  refine J.region ?_
  refine JL.go trivial (RX.movev (v := Value.pointer _) rfl) ?_
  refine JL.go trivial (RX.nilCheck rfl) ?_
  refine JL.go trivial (RX.fieldAddr rfl fo26_1 rfl) ?_
  refine JL.go trivial (RX.assignv (v := Value.pointer (some ⟨b, 1, none⟩)) rfl) ?_
  refine JL.nil ?_
  refine J.ret1 (v := Value.pointer _) Tryd.func39 rfl rfl ?_
  exact ⟨_, rfl, rfl, H⟩
theorem get2_b {w0 w : World} {F : List Seg} (H : Hp w0 w F) {b : Nat} : Ret Tryd.prog (39 + 1) [.pointer (some ⟨b, 0, none⟩)] w fun v w' => v = .pointer (some ⟨b, 1 + 1, none⟩) ∧ Hp w0 w' F := by
  refine Calls.of_J (n := 6) Tryd.func40 rfl rfl rfl ?_
  refine J.seq ?_
  refine J.region ?_
  refine JL.go trivial (RX.assign) ?_
  refine JL.nil ?_
  refine J.seq ?_
  refine J.region ?_
  refine JL.go trivial (RX.movev (v := Value.pointer _) rfl) ?_
  refine JL.go trivial (RX.nilCheck rfl) ?_
  refine JL.go trivial (RX.fieldAddr rfl fo26_2 rfl) ?_
  refine JL.go trivial (RX.assignv (v := Value.pointer (some ⟨b, 2, none⟩)) rfl) ?_
  refine JL.nil ?_
  refine J.ret1 (v := Value.pointer _) Tryd.func40 rfl rfl ?_
  exact ⟨_, rfl, rfl, H⟩
theorem get3_b {w0 w : World} {F : List Seg} (H : Hp w0 w F) {b : Nat} : Ret Tryd.prog (39 + 2) [.pointer (some ⟨b, 0, none⟩)] w fun v w' => v = .pointer (some ⟨b, 1 + 2, none⟩) ∧ Hp w0 w' F := by
  refine Calls.of_J (n := 6) Tryd.func41 rfl rfl rfl ?_
  refine J.seq ?_
  refine J.region ?_
  refine JL.go trivial (RX.assign) ?_
  refine JL.nil ?_
  refine J.seq ?_
  refine J.region ?_
  refine JL.go trivial (RX.movev (v := Value.pointer _) rfl) ?_
  refine JL.go trivial (RX.nilCheck rfl) ?_
  refine JL.go trivial (RX.fieldAddr rfl fo26_3 rfl) ?_
  refine JL.go trivial (RX.assignv (v := Value.pointer (some ⟨b, 3, none⟩)) rfl) ?_
  refine JL.nil ?_
  refine J.ret1 (v := Value.pointer _) Tryd.func41 rfl rfl ?_
  exact ⟨_, rfl, rfl, H⟩
theorem get4_b {w0 w : World} {F : List Seg} (H : Hp w0 w F) {b : Nat} : Ret Tryd.prog (39 + 3) [.pointer (some ⟨b, 0, none⟩)] w fun v w' => v = .pointer (some ⟨b, 1 + 3, none⟩) ∧ Hp w0 w' F := by
  refine Calls.of_J (n := 6) Tryd.func42 rfl rfl rfl ?_
  refine J.seq ?_
  refine J.region ?_
  refine JL.go trivial (RX.assign) ?_
  refine JL.nil ?_
  refine J.seq ?_
  refine J.region ?_
  refine JL.go trivial (RX.movev (v := Value.pointer _) rfl) ?_
  refine JL.go trivial (RX.nilCheck rfl) ?_
  refine JL.go trivial (RX.fieldAddr rfl fo26_4 rfl) ?_
  refine JL.go trivial (RX.assignv (v := Value.pointer (some ⟨b, 4, none⟩)) rfl) ?_
  refine JL.nil ?_
  refine J.ret1 (v := Value.pointer _) Tryd.func42 rfl rfl ?_
  exact ⟨_, rfl, rfl, H⟩
theorem get5_b {w0 w : World} {F : List Seg} (H : Hp w0 w F) {b : Nat} : Ret Tryd.prog (39 + 4) [.pointer (some ⟨b, 0, none⟩)] w fun v w' => v = .pointer (some ⟨b, 1 + 4, none⟩) ∧ Hp w0 w' F := by
  refine Calls.of_J (n := 6) Tryd.func43 rfl rfl rfl ?_
  refine J.seq ?_
  refine J.region ?_
  refine JL.go trivial (RX.assign) ?_
  refine JL.nil ?_
  refine J.seq ?_
  refine J.region ?_
  refine JL.go trivial (RX.movev (v := Value.pointer _) rfl) ?_
  refine JL.go trivial (RX.nilCheck rfl) ?_
  refine JL.go trivial (RX.fieldAddr rfl fo26_5 rfl) ?_
  refine JL.go trivial (RX.assignv (v := Value.pointer (some ⟨b, 5, none⟩)) rfl) ?_
  refine JL.nil ?_
  refine J.ret1 (v := Value.pointer _) Tryd.func43 rfl rfl ?_
  exact ⟨_, rfl, rfl, H⟩
theorem get6_b {w0 w : World} {F : List Seg} (H : Hp w0 w F) {b : Nat} : Ret Tryd.prog (39 + 5) [.pointer (some ⟨b, 0, none⟩)] w fun v w' => v = .pointer (some ⟨b, 1 + 5, none⟩) ∧ Hp w0 w' F := by
  refine Calls.of_J (n := 6) Tryd.func44 rfl rfl rfl ?_
  refine J.seq ?_
  refine J.region ?_
  refine JL.go trivial (RX.assign) ?_
  refine JL.nil ?_
  refine J.seq ?_
  refine J.region ?_
  refine JL.go trivial (RX.movev (v := Value.pointer _) rfl) ?_
  refine JL.go trivial (RX.nilCheck rfl) ?_
  refine JL.go trivial (RX.fieldAddr rfl fo26_6 rfl) ?_
  refine JL.go trivial (RX.assignv (v := Value.pointer (some ⟨b, 6, none⟩)) rfl) ?_
  refine JL.nil ?_
  refine J.ret1 (v := Value.pointer _) Tryd.func44 rfl rfl ?_
  exact ⟨_, rfl, rfl, H⟩
section
variable {E : Nat → Value}

theorem getter_b {w0 w : World} {F : List Seg} (H : Hp w0 w F) {b k : Nat} (hk : k < 6) : Ret Tryd.prog (39 + k) [.pointer (some ⟨b, 0, none⟩)] w fun v w' => v = .pointer (some ⟨b, 1 + k, none⟩) ∧ Hp w0 w' F := by
  have h : k = 0 ∨ k = 1 ∨ k = 2 ∨ k = 3 ∨ k = 4 ∨ k = 5 := by omega
  rcases h with rfl | rfl | rfl | rfl | rfl | rfl
  · exact get1_b H
  · exact get2_b H
  · exact get3_b H
  · exact get4_b H
  · exact get5_b H
  · exact get6_b H
theorem getter_c {k : Nat} (hk : k < 6) : callable Tryd.prog (39 + k) = true := by
  have h : k = 0 ∨ k = 1 ∨ k = 2 ∨ k = 3 ∨ k = 4 ∨ k = 5 := by omega
  rcases h with rfl | rfl | rfl | rfl | rfl | rfl
  · exact cl39
  · exact cl40
  · exact cl41
  · exact cl42
  · exact cl43
  · exact cl44
theorem vals_cell {s : Stp} {k : Nat} (hk : k < 6) : s.v[1 + k]? = some (.int .i64 ((valsL s).getD k 0)) := by
  have h : k = 0 ∨ k = 1 ∨ k = 2 ∨ k = 3 ∨ k = 4 ∨ k = 5 := by omega
  rcases h with rfl | rfl | rfl | rfl | rfl | rfl <;> rfl
theorem num_e9 (b : Bool) : (e9 E b = errV E (if b then 0 else 9)) := by cases b <;> rfl
def lineR (E : Nat → Value) (s : Stp) : Value := if formB s then .tuple #[.string ⟨(lineL s).toArray⟩, .nilIface] else .tuple #[.string ⟨#[]⟩, E 9]
def rlineR (s : Stp) : Value := if formB s then .tuple #[.string ⟨(lineL s).toArray⟩, .int .i64 0] else .tuple #[.string ⟨#[]⟩, .int .i64 9]
theorem op_of_form {s : Stp} (h : formB s = true) : opOk s.op = true := (form_imp h).1
theorem part_app {s : Stp} {k : Nat} (hk : k < 6) {x : Int} (hx : (valsL s).getD k 0 = x) (h0 : x ≠ 0) : partL s (k + 1) = partL s k ++ ([32, letters.getD k 0] ++ Lib.itoa x) := by
  rw [part_succ hk, hx, pieceL, if_neg h0]; rfl
end

theorem fields_b {w0 w : World} {F : List Seg} (H : Hp w0 w F) : Ret Tryd.prog 25 [] w fun v w' => v = .agg fieldsV.toArray ∧ Hp w0 w' F := by
  refine Calls.of_J (n := 8) Tryd.func25 rfl rfl rfl ?_
  refine J.seq ?_
  refine J.region ?_
  refine JL.does trivial (EX.alloc H zr67 rfl) ?_
  rintro _ w ⟨b1, rfl, H⟩
  refine JL.nil ?_
  refine J.seq ?_
  refine J.region ?_
  refine JL.go trivial (RX.build (pv := [(0, .int .u8 100), (1, .func (.func 39) #[] #[])]) (res := fieldV 0) rfl (by kernel_rfl)) ?_
  refine JL.go trivial (RX.build (pv := [(0, .int .u8 115), (1, .func (.func 40) #[] #[])]) (res := fieldV 1) rfl (by kernel_rfl)) ?_
  refine JL.go trivial (RX.build (pv := [(0, .int .u8 106), (1, .func (.func 41) #[] #[])]) (res := fieldV 2) rfl (by kernel_rfl)) ?_
  refine JL.go trivial (RX.build (pv := [(0, .int .u8 99), (1, .func (.func 42) #[] #[])]) (res := fieldV 3) rfl (by kernel_rfl)) ?_
  refine JL.go trivial (RX.build (pv := [(0, .int .u8 110), (1, .func (.func 43) #[] #[])]) (res := fieldV 4) rfl (by kernel_rfl)) ?_
  refine JL.go trivial (RX.build (pv := [(0, .int .u8 107), (1, .func (.func 44) #[] #[])]) (res := fieldV 5) rfl (by kernel_rfl)) ?_
  refine JL.go trivial (RX.build (pv := [(0, .agg (fieldV 0).toArray), (1, .agg (fieldV 1).toArray), (2, .agg (fieldV 2).toArray), (3, .agg (fieldV 3).toArray), (4, .agg (fieldV 4).toArray), (5, .agg (fieldV 5).toArray)]) (res := fieldsV) rfl (by kernel_rfl)) ?_
  refine JL.does trivial (EX.storeAgg H rfl rfl (i := 0) (vs := fieldsV) (l' := fieldsV) rfl (by simp [fieldsV, letters, isCell]) (by simp [fieldsV, letters]) sz67 (setN_full (by simp [fieldsV, letters])) rfl) ?_
  rintro _ w H
  refine JL.nil ?_
  refine J.retc Tryd.func25 rfl H rfl (i := 0) (vs := fieldsV) rfl rfl ag67 ?_
  exact ⟨_, rfl, rfl, H.drop⟩
theorem rLine_b {w0 w : World} {F : List Seg} (H : Hp w0 w F) {s : Stp} (hs : s.Ok) : Ret Tryd.prog 13 [.agg s.v.toArray] w fun v w' => v = rlineR s ∧ Hp w0 w' F := by
  refine Calls.of_J (n := 12) Tryd.func13 rfl rfl rfl ?_
  refine J.seq ?_
  refine J.region ?_
  refine JL.does trivial (EX.box (v := Value.agg _) H rfl rfl) ?_
  rintro _ w ⟨b1, rfl, H⟩
  refine JL.go trivial (RX.assign) ?_
  refine JL.go trivial (RX.assign) ?_
  refine JL.nil ?_
  refine J.seq ?_
  refine J.region ?_
  refine JL.go trivial (RX.loadAgg H rfl (i := 0) (vs := s.v) rfl rfl ag26) ?_
  refine JL.does trivial (EX.call rfl cl20 rfl ((rform_b H hs))) ?_
  rintro _ w ⟨rfl, H⟩
  refine JL.go trivial (RX.assignv (v := Value.int _ _) rfl) ?_
  refine JL.nil ?_
  refine J.seq ?_
  refine J.seq ?_
  refine J.region ?_
  refine JL.go trivial (RX.movev (v := Value.int _ _) rfl) ?_
  refine JL.go trivial (RX.ne rfl rfl) ?_
  refine JL.nil ?_
  refine J.cond_d rfl (fun hf => ?_) (fun hf => ?_)
  · skip
    refine J.seq ?_
    refine J.region ?_
    refine JL.go trivial (RX.movev (v := Value.int _ _) rfl) ?_
    refine JL.go trivial (RX.assign) ?_
    refine JL.go trivial (RX.assignv (v := Value.int _ _) rfl) ?_
    refine JL.nil ?_
    refine J.ret2 (v := Value.string _) (x := Value.int _ _) Tryd.func13 rfl rfl rfl ?_
    have e : formB s = false := by cases h : formB s <;> simp_all
    refine ⟨_, rfl, ?_, H.drop⟩
    simp only [rlineR, e]; rfl
  · skip
    have hfs : formB s = true := by cases h : formB s <;> simp_all
    refine J.skip ?_
    refine J.seq ?_
    refine J.region ?_
    refine JL.go trivial (RX.loadAgg H rfl (i := 0) (vs := s.v) rfl rfl ag26) ?_
    refine JL.does trivial (EX.call rfl cl21 rfl ((rline_b H hs (op_of_form hfs)))) ?_
    rintro _ w ⟨rfl, H⟩
    refine JL.go trivial (RX.assignv (v := Value.string _) rfl) ?_
    refine JL.go trivial (RX.assign) ?_
    refine JL.nil ?_
    refine J.ret2 (v := Value.string _) (x := Value.int _ _) Tryd.func13 rfl rfl rfl ?_
    refine ⟨_, rfl, ?_, H.drop⟩
    rw [rlineR, hfs]; rfl
theorem line_b {w0 w : World} {F : List Seg} {E : Nat → Value} (H : Hp w0 w F) (g9 : GErr F 0 (E 9)) (hT : SlAt F (some ⟨19, 0, none⟩) tableC) (ht : GTab F) {s : Stp} (hs : s.Ok) : Ret Tryd.prog 12 [.agg s.v.toArray] w fun v w' => v = lineR E s ∧ Hp w0 w' F := by
  refine Calls.of_J (n := 46) Tryd.func12 rfl rfl rfl ?_
  refine J.seq ?_
  refine J.region ?_
  refine JL.does trivial (EX.box (v := Value.agg _) H rfl rfl) ?_
  rintro _ w ⟨b1, rfl, H⟩
  refine JL.go trivial (RX.assign) ?_
  refine JL.go trivial (RX.assign) ?_
  refine JL.nil ?_
  refine J.seq ?_
  refine J.seq ?_
  refine J.region ?_
  refine JL.go trivial (RX.loadAgg H rfl (i := 0) (vs := s.v) rfl rfl ag26) ?_
  refine JL.does trivial (EX.call rfl cl23 rfl (((Form_b H g9.cons hT.cons hs).mono fun v w' h => (⟨h.1, h.2⟩ : v = e9 E (formB s) ∧ _)))) ?_
  rintro _ w ⟨rfl, H⟩
  refine JL.go trivial (RX.assign) ?_
  refine JL.nil ?_
  refine J.seq ?_
  refine J.region ?_
  refine JL.go trivial (RX.move) ?_
  refine JL.go trivial (RX.ifnil_neq (v := e9 E (formB s)) rfl rfl (e9_ie g9 _).1 if29) ?_
  refine JL.nil ?_
  refine J.cond rfl (fun hf => ?_) (fun hf => ?_)
  · skip
    have hfs : formB s = false := by simpa [(e9_ie g9 (formB s)).2] using hf
    refine J.seq ?_
    refine J.region ?_
    refine JL.go trivial (RX.move) ?_
    refine JL.go trivial (RX.assign) ?_
    refine JL.go trivial (RX.assign) ?_
    refine JL.nil ?_
    refine J.ret2 (v := Value.string _) Tryd.func12 rfl rfl rfl ?_
    refine ⟨_, rfl, ?_, H.drop⟩
    rw [lineR, hfs]; rfl
  · skip
    have hfs : formB s = true := by simpa [(e9_ie g9 (formB s)).2] using hf
    refine J.skip ?_
    refine J.seq ?_
    refine J.region ?_
    refine JL.go trivial (RX.fieldAddr rfl fo26_0 rfl) ?_
    refine JL.go trivial (by first | exact RX.load H rfl (i := 0) rfl rfl one3 | exact RX.load H rfl (i := 1) rfl rfl one3 | exact RX.load H rfl (i := 2) rfl rfl one3 | exact RX.load H rfl (i := 3) rfl rfl one3) ?_
    refine JL.does trivial (EX.call rfl cl24 rfl ((name_b H hT.cons))) ?_
    rintro _ w ⟨rfl, H⟩
    generalize hnv : nameV s.op = nv
    refine JL.go trivial (RX.movev (v := Value.tuple _) rfl) ?_
    refine JL.go trivial (RX.extract (vs := nv) (v := .string ⟨(partL s 0).toArray⟩) rfl (by subst hnv; unfold nameV; rw [op_of_form hfs, part_zero]; rfl)) ?_
    refine JL.go trivial (RX.extract (vs := nv) (v := .bool true) rfl (by subst hnv; unfold nameV; rw [op_of_form hfs]; rfl)) ?_
    refine JL.go trivial (RX.assignv (v := Value.string _) rfl) ?_
    refine JL.go trivial (RX.assignv (v := Value.bool _) rfl) ?_
    refine JL.nil ?_
    refine J.seq ?_
    refine J.region ?_
    refine JL.go trivial (RX.movev (v := Value.string _) rfl) ?_
    refine JL.does trivial (EX.s2b (s := ⟨(partL s 0).toArray⟩) H ud9 ud48 ud5 rfl) ?_
    rintro _ w ⟨p0, c0, g0, rfl, ho0, H⟩
    rw [bL_bytes, b_size] at ho0
    refine JL.go trivial (RX.assignv (v := Value.slice _ _ _) rfl) ?_
    refine JL.nil ?_
    refine J.seq ?_
    refine J.seq ?_
    refine J.region ?_
    refine JL.does trivial (EX.call rfl cl25 rfl ((fields_b H))) ?_
    rintro _ w ⟨rfl, H⟩
    refine JL.go trivial (RX.move) ?_
    refine JL.nil ?_
    refine J.block ?_
    refine J.loop (ι := Nat × Option Addr × Nat × Seg) (S := fun q => [(25, .int .i64 (q.1 : Nat)), (7, .slice q.2.1 (partL s q.1).length q.2.2.1)]) (Φ := fun q w => q.1 ≤ 6 ∧ OwnZ 5 q.2.1 (partL s q.1).length q.2.2.1 (bL (partL s q.1)) q.2.2.2 ∧ Hp w0 w (q.2.2.2 :: [(b1, cel s.v 26)] :: F)) (μ := fun q => 6 - q.1) (C := [(1, _), (24, _)]) (0, p0, c0, g0) ⟨rfl, rfl, trivial⟩ ⟨rfl, rfl, trivial⟩ ?_ ?_
    · exact ⟨by simp, ho0, H⟩
    clear H
    rintro ⟨k, p, c, sg⟩ ρ w ⟨hk, ho, H⟩ IH
    simp only at hk ho H
    dsimp only
    refine J.seq ?_
    refine J.region ?_
    refine JL.go trivial (RX.lt rfl rfl) ?_
    refine JL.nil ?_
    refine J.seq ?_
    refine J.cond_d rfl (fun hlt => ?_) (fun hlt => ?_)
    · skip
      have hk6 : k < 6 := by omega
      have hxo := vals_ok hs hk6
      have hpl := part_len hs (k := k) (by omega)
      have hvc := vals_cell (s := s) hk6
      generalize hx : (valsL s).getD k 0 = x at hxo hvc
      have hps := part_succ (s := s) hk6
      rw [hx] at hps
      refine J.skip ?_
      refine J.seq ?_
      refine J.block ?_
      refine J.seq ?_
      refine J.region ?_
      refine JL.go trivial (RX.indexAgg (vs := fieldsV) (us := fieldV k) rfl rfl ar67 ag66 (by omega) (by omega) (fields_read hk6)) ?_
      refine JL.does trivial (EX.alloc H zr66 rfl) ?_
      rintro _ w ⟨b9, rfl, H⟩
      refine JL.does trivial (EX.storeAgg H rfl rfl (i := 0) (vs := fieldV k) (l' := fieldV k) rfl (field_cell k) (by simp [fieldV]) sz66 rfl rfl) ?_
      rintro _ w H
      refine JL.nil ?_
      refine J.seq ?_
      refine J.region ?_
      refine JL.go trivial (RX.fieldAddr rfl fo66_1 rfl) ?_
      refine JL.go trivial (RX.load H rfl (i := 0) (v := .func (.func (39 + k)) #[] #[]) rfl rfl one64) ?_
      refine JL.does trivial (EX.callv (f := 39 + k) (fv := []) (cv := []) rfl (getter_c hk6) rfl rfl (getter_b H hk6)) ?_
      rintro _ w ⟨rfl, H⟩
      refine JL.go trivial (RX.nilCheck rfl) ?_
      refine JL.go trivial (RX.load H rfl (i := 2) (v := .int .i64 x) rfl hvc one3) ?_
      refine JL.go trivial (RX.assignv (v := Value.int _ _) rfl) ?_
      refine JL.nil ?_
      refine J.seq ?_
      refine J.region ?_
      refine JL.go trivial (RX.movev (v := Value.int _ _) rfl) ?_
      refine JL.go trivial (RX.ne rfl rfl) ?_
      refine JL.nil ?_
      refine J.cond_d rfl (fun hx0 => ?_) (fun hx0 => ?_)
      · skip
        refine J.seq ?_
        refine J.region ?_
        refine JL.go trivial (RX.movev (v := Value.slice _ _ _) rfl) ?_
        refine JL.go trivial (RX.fieldAddr rfl fo66_0 rfl) ?_
        refine JL.go trivial (RX.load H rfl (i := 0) (v := .int .u8 (letters.getD k 0).toNat) rfl rfl one5) ?_
        refine JL.does trivial (EX.buildSlice (pv := [(0, .int .u8 32), (1, .int .u8 (letters.getD k 0).toNat)]) (l := bL [32, letters.getD k 0]) (e := 5) H rfl (by kernel_rfl)) ?_
        rintro _ w ⟨br, rfl, H⟩
        refine JL.does trivial (EX.appendZ (m := 2) (ys := bL [32, letters.getD k 0]) (L' := fun s' => [(br, cel (bL [32, letters.getD k 0]) 5)] :: [(b9, cel (fieldV k) 66)] :: s' :: [(b1, cel s.v 26)] :: F) H elB rfl rfl (src_slice (e' := 5) H ud48 (SlAt.here rfl) rfl (bL_cell _)) (i := 2) rfl ho (by omega) (fun _ => rfl)) ?_
        rintro _ w ⟨p1, c1, s1, rfl, ho1, H⟩
        replace H := H.drop.drop
        refine JL.go trivial (RX.assignv (v := Value.slice _ _ _) rfl) ?_
        refine JL.nil ?_
        refine J.region ?_
        refine JL.go trivial (RX.movev (v := Value.slice _ _ _) rfl) ?_
        refine JL.go trivial (RX.movev (v := Value.int _ _) rfl) ?_
        refine JL.does trivial (EX.call rfl cl26 rfl ((appInt_b H ho1 ht.cons hxo.1 hxo.2 (by omega)))) ?_
        rintro _ w ⟨p2, c2, s2, rfl, ho2, H⟩
        refine JL.go trivial (RX.assignv (v := Value.slice _ _ _) rfl) ?_
        refine JL.nil ?_
        have hpa := part_app hk6 hx hx0
        have hpn : (partL s k).length + 2 + (Lib.itoa x).length = (partL s (k + 1)).length := by rw [hpa]; simp; omega
        rw [hpn, List.append_assoc, ← bL_app, ← bL_app, ← hpa] at ho2
        refine J.inBlock ?_
        refine J.region ?_
        refine JL.go trivial (RX.add rfl rfl (w_i64 (r := ((k + 1 : Nat) : Int)) (by omega) (by omega) (by omega))) ?_
        refine JL.go trivial (RX.movev (v := Value.int _ _) rfl) ?_
        refine JL.nil ?_
        rw [hpn]
        exact IH (k + 1, p2, c2, s2) _ _ (by simp only; omega) ⟨rfl, rfl, trivial⟩ ⟨rfl, rfl, trivial⟩ ⟨by simp only; omega, ho2, H⟩
      · skip
        refine J.skip ?_
        refine J.inBlock ?_
        refine J.region ?_
        refine JL.go trivial (RX.add rfl rfl (w_i64 (r := ((k + 1 : Nat) : Int)) (by omega) (by omega) (by omega))) ?_
        refine JL.go trivial (RX.movev (v := Value.int _ _) rfl) ?_
        refine JL.nil ?_
        have hsame : partL s (k + 1) = partL s k := by rw [hps, pieceL, if_pos (by omega), List.append_nil]
        exact IH (k + 1, p, c, sg) _ _ (by simp only; omega) ⟨rfl, rfl, trivial⟩ (by simp only [hsame]; exact ⟨rfl, rfl, trivial⟩) ⟨by simp only; omega, by simp only [hsame]; exact ho, H.drop⟩
    · skip
      refine J.exit rfl ?_
      refine J.seq ?_
      refine J.region ?_
      refine JL.go trivial (RX.movev (v := Value.slice _ _ _) rfl) ?_
      refine JL.go trivial (RX.b2s (l := partL s k) H rfl ho.slAt sl48 ud5 ud9) ?_
      refine JL.go trivial (RX.assignv (v := Value.string _) rfl) ?_
      refine JL.go trivial (RX.assign) ?_
      refine JL.nil ?_
      refine J.ret2 (v := Value.string _) Tryd.func12 rfl rfl rfl ?_
      have e : k = 6 := by omega
      subst e
      refine ⟨_, rfl, ?_, H.drop.drop⟩
      rw [lineR, hfs]; rfl
end Go.Proofs.YtgkmmbdlclecnaaDoor

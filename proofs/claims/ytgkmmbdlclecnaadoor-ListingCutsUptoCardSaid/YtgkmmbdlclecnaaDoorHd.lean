/- The first line read. -/
import Derived.Test.YtgkmmbdlclecnaaDoorRd
import Derived.Test.YtgkmmbdlclecnaaDoorLl
namespace Go.Proofs.YtgkmmbdlclecnaaDoor
open Go Go.Eng
set_option maxRecDepth 100000
set_option linter.unusedVariables false
set_option linter.unusedSimpArgs false
theorem cl30 : callable Tryd.prog 30 = true := by kernel_rfl
theorem cl47 : callable Tryd.prog 47 = true := by kernel_rfl
theorem cl48 : callable Tryd.prog 48 = true := by kernel_rfl
theorem cl50 : callable Tryd.prog 50 = true := by kernel_rfl
theorem sl78 : sliceOf Tryd.prog 78 = some (9, 1) := by kernel_rfl
theorem sz3 : szOf Tryd.prog 3 = some 1 := by kernel_rfl
theorem sz80 : szOf Tryd.prog 80 = some 4 := by kernel_rfl
theorem zr80 : (Tryd.prog.info? 80).bind (·.zero) = some (.agg #[.int .i64 0, .int .i64 0, .int .i64 0, .int .i64 0]) := by kernel_rfl

section
variable {P : Program} {w w0 : World} {L : List Seg} {ρ : Operand → Value} {d : Option Tmp} {x y z : Operand} {ty : TypeId} {pos : String} {af : Array Edge} {g : Option (Nat × Bool)}
theorem RX.slStrL {t : TypeId} {a r : List UInt8} {k : IntKind} {l : Int} (hx : ρ x = .string ⟨a.toArray⟩) (hy : ρ y = .int k l) (ht : P.underlying t = some .string) (h0 : 0 ≤ l) (h1 : l ≤ a.length)
    (hr : a.drop l.toNat = r) : Runs P ρ ⟨d, .slice t x (some y) none none, ty, pos, af, g⟩ w (.string ⟨r.toArray⟩) := by
  subst hr
  have h1' : l ≤ (⟨a.toArray⟩ : ByteArray).size := by simpa [ByteArray.size] using h1
  have he : (⟨a.toArray⟩ : ByteArray).extract l.toNat (⟨a.toArray⟩ : ByteArray).size = ⟨(a.drop l.toNat).toArray⟩ := by
    rw [ByteArray.extract_mk]
    congr 2
    refine List.take_of_length_le ?_
    simp [ByteArray.size]
  rw [← he]
  unfold Runs
  simp [execOp, hx, hy, run_sliceAt_string w t _ _ _ _ ht, run_slice_string_l w t _ ht k l h0 h1']
theorem RX.slice_lq {t e : TypeId} {p q : Option Addr} {n cap sz : Nat} {k : IntKind} {l : Int} {r : Nat} (hx : ρ x = .slice p n cap) (hy : ρ y = .int k l) (ht : sliceOf P t = some (e, sz)) (hp : ∀ a, p = some a → a.spot = none)
    (h0 : 0 ≤ l) (h1 : l ≤ n) (hr : l.toNat = r) (hq : behind p cap r sz = q) : Runs P ρ ⟨d, .slice t x (some y) none none, ty, pos, af, g⟩ w (.slice q (n - r) (cap - r)) := hq ▸ RX.slice_l hx hy ht hp h0 h1 hr
theorem behind_spot {p : Option Addr} {c l s : Nat} (h : ∀ a, p = some a → a.spot = none) : ∀ a, behind p c l s = some a → a.spot = none := by
  intro a ha
  unfold behind at ha
  cases p with
  | none => cases ha
  | some b =>
    simp only at ha
    have := h b rfl
    split at ha
    · cases ha; exact this
    · cases ha; exact this
end
def zpad (n : Nat) (x : List Int) : List Int := x ++ List.replicate (n - x.length) 0
theorem zpad_set {n : Nat} {x : List Int} {m : Int} (h : x.length < n) : (intsV (zpad n x)).set x.length (.int .i64 m) = intsV (zpad n (x ++ [m])) := by
  unfold zpad
  rw [intsV_app, List.set_append_right _ _ (by rw [intsV_len]; exact Nat.le_refl _), intsV_len, Nat.sub_self, List.append_assoc, intsV_app]
  congr 1
  rw [show n - x.length = (n - (x ++ [m]).length) + 1 by simp; omega, List.replicate_succ]
  rfl
theorem zpad_zero {n : Nat} {x : List Int} (h : x.length < n) : zpad n (x ++ [0]) = zpad n x := by
  unfold zpad
  rw [show n - x.length = (n - (x ++ [0]).length) + 1 by simp; omega, List.replicate_succ]
  simp
theorem zpad_len {n : Nat} {x : List Int} (h : x.length ≤ n) : (zpad n x).length = n := by unfold zpad; simp; omega
def opV (o : Option Int) : Value := .tuple #[.int .i64 (o.getD 0), .bool o.isSome]
theorem opS_some {i : Nat} (h1 : 1 ≤ i) (h2 : i ≤ 11) : opS (nmB i) = some (i : Int) := by
  have : i = 1 ∨ i = 2 ∨ i = 3 ∨ i = 4 ∨ i = 5 ∨ i = 6 ∨ i = 7 ∨ i = 8 ∨ i = 9 ∨ i = 10 ∨ i = 11 := by omega
  rcases this with rfl | rfl | rfl | rfl | rfl | rfl | rfl | rfl | rfl | rfl | rfl <;> decide
theorem op_val {wd : List UInt8} {v : Value} (h : (∃ i : Nat, 1 ≤ i ∧ i ≤ 11 ∧ (rowOf i).nm = ⟨wd.toArray⟩ ∧ v = .tuple #[.int .i64 i, .bool true]) ∨ ((∀ i : Nat, 1 ≤ i → i ≤ 11 → (rowOf i).nm ≠ ⟨wd.toArray⟩) ∧ v = .tuple #[.int .i64 0, .bool false])) : v = opV (opS wd) := by
  rcases h with ⟨i, h1, h2, hn, rfl⟩ | ⟨hn, rfl⟩
  · have : nmB i = wd := by unfold nmB; rw [hn]
    rw [← this, opS_some h1 h2]; rfl
  · have : opS wd = none := by
      unfold opS
      rw [List.find?_eq_none]
      intro x hx
      have hx' : ∃ i : Nat, 1 ≤ i ∧ i ≤ 11 ∧ x = (i : Int) := by
        simp only [List.mem_cons, List.not_mem_nil, or_false] at hx
        rcases hx with rfl | rfl | rfl | rfl | rfl | rfl | rfl | rfl | rfl | rfl | rfl
        · exact ⟨1, by decide, by decide, rfl⟩
        · exact ⟨2, by decide, by decide, rfl⟩
        · exact ⟨3, by decide, by decide, rfl⟩
        · exact ⟨4, by decide, by decide, rfl⟩
        · exact ⟨5, by decide, by decide, rfl⟩
        · exact ⟨6, by decide, by decide, rfl⟩
        · exact ⟨7, by decide, by decide, rfl⟩
        · exact ⟨8, by decide, by decide, rfl⟩
        · exact ⟨9, by decide, by decide, rfl⟩
        · exact ⟨10, by decide, by decide, rfl⟩
        · exact ⟨11, by decide, by decide, rfl⟩
      obtain ⟨i, h1, h2, rfl⟩ := hx'
      simp only [decide_eq_true_eq]
      intro e
      refine hn i h1 h2 ?_
      rw [← e, ← nm_eq]
    rw [this]; rfl
theorem opS_ok {wd : List UInt8} {op : Int} (h : opS wd = some op) : 1 ≤ op ∧ op ≤ 11 ∧ nmB op = wd := by
  unfold opS at h
  have h1 := List.mem_of_find?_eq_some h
  have h2 := List.find?_some h
  simp only [List.mem_cons, List.not_mem_nil, or_false] at h1
  refine ⟨by omega, by omega, by simpa using h2⟩
theorem stepS_eq {l u : List UInt8} {us : List (List UInt8)} (h : cutL 32 l = u :: us) : stepS l = match opS u with | none => none | some op => (fillS letters us).map (stpOf op) := by unfold stepS; rw [h]; rfl
theorem headS_eq {l u : List UInt8} {us : List (List UInt8)} (h : cutL 32 l = u :: us) : headS l = if us.length = 4 ∧ u = timbre then (numsS us).map prgOf else none := by unfold headS; rw [h]
theorem numsS_len : ∀ {us : List (List UInt8)} {x : List Int}, numsS us = some x → x.length = us.length
  | [], x, h => by cases h; rfl
  | u :: us, x, h => by
    unfold numsS at h
    split at h
    · cases h
    · cases hm : numsS us with
      | none => rw [hm] at h; cases h
      | some y =>
        rw [hm] at h; cases h
        simp [numsS_len hm]
theorem fill_len : ∀ {cs : List UInt8} {us : List (List UInt8)} {x : List Int}, fillS cs us = some x → x.length = cs.length
  | [], [], x, h => by rw [fillS] at h; cases h; rfl
  | [], _ :: _, x, h => by rw [fillS] at h; cases h
  | c :: cs, [], x, h => by
    rw [fillS] at h
    cases hm : fillS cs [] with
    | none => rw [hm] at h; cases h
    | some y => rw [hm] at h; cases h; simp [fill_len hm]
  | c :: cs, [] :: ws, x, h => by
    rw [fillS] at h
    cases hm : fillS cs ([] :: ws) with
    | none => rw [hm] at h; cases h
    | some y => rw [hm] at h; cases h; simp [fill_len hm]
  | c :: cs, (b :: t) :: ws, x, h => by
    rw [fillS] at h
    split at h
    · split at h
      · split at h
        · cases h
        · cases hm : fillS cs ws with
          | none => rw [hm] at h; cases h
          | some y => rw [hm] at h; cases h; simp [fill_len hm]
      · cases h
    · cases hm : fillS cs ((b :: t) :: ws) with
      | none => rw [hm] at h; cases h
      | some y => rw [hm] at h; cases h; simp [fill_len hm]
theorem fill_zero : ∀ (cs : List UInt8), fillS cs [] = some (List.replicate cs.length 0)
  | [] => by rw [fillS]; rfl
  | c :: cs => by rw [fillS, fill_zero cs]; rfl
/-- The next letter is not the word's. -/
theorem fill_skip {c : UInt8} {cs u : List UInt8} {us : List (List UInt8)} (h : ∀ t, u ≠ c :: t) : fillS (c :: cs) (u :: us) = (fillS cs (u :: us)).map (0 :: ·) := by
  cases u with
  | nil => rw [fillS]
  | cons b t =>
    rw [fillS, if_neg]
    intro e
    subst e
    exact h t rfl
theorem fill_num {c : UInt8} {cs t : List UInt8} {us : List (List UInt8)} {n : Int} (h : numS t = some n) (h0 : n ≠ 0) : fillS (c :: cs) ((c :: t) :: us) = (fillS cs us).map (n :: ·) := by
  rw [fillS, if_pos rfl, h]
  simp only
  rw [if_neg h0]
theorem fill_bad {c : UInt8} {cs t : List UInt8} {us : List (List UInt8)} (h : numS t = none ∨ numS t = some 0) : fillS (c :: cs) ((c :: t) :: us) = none := by
  rw [fillS, if_pos rfl]
  rcases h with h | h
  · rw [h]
  · rw [h]
    simp
/-- What is still to be filled: x was filled, behind it so many letters, these words. -/
noncomputable def restS (x : List Int) (us : List (List UInt8)) : Option (List Int) := (fillS (letters.drop x.length) us).map (x ++ ·)
theorem rest_nil (us : List (List UInt8)) : restS [] us = fillS letters us := by
  unfold restS
  simp
theorem let_drop {k : Nat} (h : k < 6) : letters.drop k = letters.getD k 0 :: letters.drop (k + 1) := by
  have h : k = 0 ∨ k = 1 ∨ k = 2 ∨ k = 3 ∨ k = 4 ∨ k = 5 := by omega
  rcases h with rfl | rfl | rfl | rfl | rfl | rfl <;> rfl
theorem rest_map {x : List Int} {n : Int} {o : Option (List Int)} : (o.map (n :: ·)).map (x ++ ·) = o.map ((x ++ [n]) ++ ·) := by cases o <;> simp
theorem rest_none {x : List Int} (h : x.length < 6) : restS (x ++ [0]) [] = restS x [] := by
  unfold restS
  rw [let_drop h, fillS, rest_map]
  simp
theorem rest_skip {x : List Int} {u : List UInt8} {us : List (List UInt8)} (h : x.length < 6) (hu : ∀ t, u ≠ letters.getD x.length 0 :: t) : restS (x ++ [0]) (u :: us) = restS x (u :: us) := by
  unfold restS
  rw [let_drop h, fill_skip hu, rest_map]
  simp
theorem rest_num {x : List Int} {t : List UInt8} {us : List (List UInt8)} {n : Int} (h : x.length < 6) (hn : numS t = some n) (h0 : n ≠ 0) : restS (x ++ [n]) us = restS x ((letters.getD x.length 0 :: t) :: us) := by
  unfold restS
  rw [let_drop h, fill_num hn h0, rest_map]
  simp
theorem rest_bad {x : List Int} {t : List UInt8} {us : List (List UInt8)} (h : x.length < 6) (hn : numS t = none ∨ numS t = some 0) : restS x ((letters.getD x.length 0 :: t) :: us) = none := by
  unfold restS
  rw [let_drop h, fill_bad hn]; rfl
theorem rest_end {x : List Int} (h : x.length = 6) (us : List (List UInt8)) : restS x us = if us = [] then some x else none := by
  unfold restS
  rw [h]
  cases us with
  | nil => rw [if_pos rfl]; show (fillS [] []).map _ = _; rw [fillS]; simp
  | cons u us => rw [if_neg (by simp)]; show (fillS [] (u :: us)).map _ = _; rw [fillS]; rfl
theorem rest_done {x : List Int} (h : x.length ≤ 6) : restS x [] = some (zpad 6 x) := by
  unfold restS zpad
  rw [fill_zero]
  simp [letters]
theorem nums_cons {x : List Int} {u : List UInt8} {us : List (List UInt8)} {n : Int} (h : numS u = some n) : (numsS (u :: us)).map (x ++ ·) = (numsS us).map ((x ++ [n]) ++ ·) := by
  rw [numsS, h]
  exact rest_map
theorem nums_bad {x : List Int} {u : List UInt8} {us : List (List UInt8)} (h : numS u = none) : (numsS (u :: us)).map (x ++ ·) = none := by
  rw [numsS, h]; rfl
noncomputable def headV (s : List UInt8) : Value := .tuple #[.agg (prgV ((headS s).getD prg0) none 0 0).toArray, .bool (headS s).isSome]
theorem prgOf_ok {x : List Int} (h : ∀ n ∈ x, i64ok n) : (prgOf x).Ok := by
  have hg : ∀ i, i64ok (x.getD i 0) := fun i => by
    rw [List.getD_eq_getElem?_getD]
    cases hx : x[i]? with
    | none => exact ⟨by decide, by decide⟩
    | some n => exact h n (List.mem_of_getElem? hx)
  exact ⟨hg 0, hg 1, hg 2, hg 3, fun s hs => by simp [prgOf] at hs, by simp [prgOf]⟩
theorem stpOf_ok {op : Int} {x : List Int} (ho : i64ok op) (h : ∀ n ∈ x, i64ok n) : (stpOf op x).Ok := by
  have hg : ∀ i, i64ok (x.getD i 0) := fun i => by
    rw [List.getD_eq_getElem?_getD]
    cases hx : x[i]? with
    | none => exact ⟨by decide, by decide⟩
    | some n => exact h n (List.mem_of_getElem? hx)
  exact ⟨ho, hg 0, hg 1, hg 2, hg 3, hg 4, hg 5⟩
theorem zpad_get {n i : Nat} {x : List Int} (h : i < n) (hx : x.length ≤ n) : (intsV (zpad n x))[i]? = some (.int .i64 ((zpad n x).getD i 0)) := by
  have hl := zpad_len hx
  rw [intsV_get (x := (zpad n x).getD i 0)]
  rw [List.getD_eq_getElem?_getD, List.getElem?_eq_getElem (by omega)]; rfl

theorem rOp_b {w0 w : World} {F : List Seg} (H : Hp w0 w F) {nm : ByteArray} : Ret Tryd.prog 51 [.string nm] w fun v w' => ((∃ i : Nat, 1 ≤ i ∧ i ≤ 11 ∧ (rowOf i).nm = nm ∧ v = .tuple #[.int .i64 i, .bool true]) ∨ ((∀ i : Nat, 1 ≤ i → i ≤ 11 → (rowOf i).nm ≠ nm) ∧ v = .tuple #[.int .i64 0, .bool false])) ∧ Hp w0 w' F := by
  refine Calls.of_J (n := 23) Tryd.func51 rfl rfl rfl ?_
  refine J.seq ?_
  refine J.region ?_
  refine JL.go trivial (RX.assign) ?_
  refine JL.go trivial (RX.assign) ?_
  refine JL.nil ?_
  refine J.seq ?_
  refine J.seq ?_
  refine J.region ?_
  refine JL.does trivial (EX.call rfl cl36 rfl (rrows_b H)) ?_
  rintro _ w ⟨rb, rfl, H⟩
  refine JL.go trivial (RX.len_slice rfl (by rw [sl86]; rfl) rfl) ?_
  refine JL.go trivial (RX.move) ?_
  refine JL.nil ?_
  refine J.block ?_
  refine J.loop (ι := Nat) (S := fun k => [(8, .int .i64 (k : Nat))]) (Φ := fun k w => k ≤ 12 ∧ (∀ i : Nat, 1 ≤ i → i < k → (rowOf i).nm ≠ nm) ∧ Hp w0 w ([(rb, cel rrowsV 85)] :: F)) (μ := fun k => 12 - k) (C := [(0, _), (6, _), (7, _)]) 0 ⟨rfl, rfl, rfl, trivial⟩ ⟨rfl, trivial⟩ ?_ ?_
  · exact ⟨by omega, fun i h1 h2 => by omega, H⟩
  clear H
  rintro k ρ w ⟨hk2, hne, H⟩ IH
  refine J.seq ?_
  refine J.region ?_
  refine JL.go trivial (RX.lt rfl rfl) ?_
  refine JL.nil ?_
  refine J.seq ?_
  refine J.cond_d rfl (fun hle => ?_) (fun hle => ?_)
  · skip
    have hrow := rrows_read (op := (k : Int)) (by omega) (by omega)
    refine J.skip ?_
    refine J.seq ?_
    refine J.block ?_
    refine J.seq ?_
    refine J.region ?_
    refine JL.go trivial (RX.movev (v := Value.int _ _) rfl) ?_
    refine JL.go trivial (RX.indexAddr rfl rfl sl86 (by omega) (by omega) rfl) ?_
    refine JL.go trivial (RX.loadAggS H (SlAt.here (xs := rrowsV) rfl) rfl (j := (k : Int).toNat * 5) (by omega) hrow ag85) ?_
    refine JL.does trivial (EX.alloc H zr85 rfl) ?_
    rintro _ w ⟨b1, rfl, H⟩
    refine JL.go trivial (RX.assignv (v := Value.int _ _) rfl) ?_
    refine JL.does trivial (EX.storeAgg H rfl rfl (i := 0) (vs := (rowOf (k : Int)).rv) (l' := (rowOf (k : Int)).rv) rfl (rrow_cell _) (by simp [Row.rv]) sz85 rfl rfl) ?_
    rintro _ w H
    refine JL.nil ?_
    refine J.seq ?_
    refine J.region ?_
    refine JL.go trivial (RX.movev (v := Value.int _ _) rfl) ?_
    refine JL.go trivial (RX.gt rfl rfl) ?_
    refine JL.go trivial (RX.movev (v := Value.bool _) rfl) ?_
    refine JL.splitS 15 rfl (fun hpos => ?_) (fun hpos => ?_)
    · skip
      first | have hposp := of_decide_eq_true hpos | skip
      refine JL.go ⟨_, rfl, hpos⟩ (RX.fieldAddr rfl fo85_0 rfl) ?_
      refine JL.go ⟨_, rfl, hpos⟩ (by first | exact RX.load H rfl (i := 0) rfl rfl one9 | exact RX.load H rfl (i := 1) rfl rfl one9) ?_
      refine JL.go ⟨_, rfl, hpos⟩ (RX.movev (v := Value.string _) rfl) ?_
      refine JL.go ⟨_, rfl, hpos⟩ (RX.str_eql rfl rfl) ?_
      refine JL.go trivial (RX.pick_t rfl hpos) ?_
      refine JL.nil ?_
      refine J.cond_d rfl (fun heq => ?_) (fun heq => ?_)
      · skip
        refine J.seq ?_
        refine J.region ?_
        refine JL.go trivial (RX.movev (v := Value.int _ _) rfl) ?_
        refine JL.go trivial (RX.assignv (v := Value.int _ _) rfl) ?_
        refine JL.go trivial (RX.assign) ?_
        refine JL.nil ?_
        refine J.ret2 (v := Value.int _ _) (x := Value.bool _) Tryd.func51 rfl rfl rfl ?_
        exact ⟨_, rfl, .inl ⟨k, by omega, by omega, heq, rfl⟩, H.drop.drop⟩
      · skip
        refine J.skip ?_
        refine J.inBlock ?_
        refine J.region ?_
        refine JL.go trivial (RX.add rfl rfl (w_i64 rfl (by omega) (by omega))) ?_
        refine JL.go trivial (RX.movev (v := Value.int _ _) rfl) ?_
        refine JL.nil ?_
        exact IH (k + 1) _ _ (by omega) ⟨rfl, rfl, rfl, trivial⟩ ⟨rfl, trivial⟩ ⟨by omega, fun i h1 h2 => (by rcases Nat.lt_or_ge i k with h | h; exact hne i h1 h; have : i = k := (by omega); rw [this]; exact heq), H.drop⟩
    · skip
      first | have hposp := of_decide_eq_false hpos | skip
      refine JL.no ⟨_, rfl, gno hpos⟩ ?_
      refine JL.no ⟨_, rfl, gno hpos⟩ ?_
      refine JL.no ⟨_, rfl, gno hpos⟩ ?_
      refine JL.no ⟨_, rfl, gno hpos⟩ ?_
      refine JL.go trivial (RX.pick_f rfl hpos) ?_
      refine JL.nil ?_
      refine J.cond_f rfl rfl ?_
      refine J.skip ?_
      refine J.inBlock ?_
      refine J.region ?_
      refine JL.go trivial (RX.add rfl rfl (w_i64 rfl (by omega) (by omega))) ?_
      refine JL.go trivial (RX.movev (v := Value.int _ _) rfl) ?_
      refine JL.nil ?_
      exact IH (k + 1) _ _ (by omega) ⟨rfl, rfl, rfl, trivial⟩ ⟨rfl, trivial⟩ ⟨by omega, fun i h1 h2 => (by omega), H.drop⟩
  · skip
    refine J.exit rfl ?_
    refine J.seq ?_
    refine J.region ?_
    refine JL.go trivial (RX.assign) ?_
    refine JL.go trivial (RX.assign) ?_
    refine JL.nil ?_
    refine J.ret2 (v := Value.int _ _) (x := Value.bool _) Tryd.func51 rfl rfl rfl ?_
    exact ⟨_, rfl, .inr ⟨fun i h1 h2 => hne i h1 (by omega), rfl⟩, H.drop⟩
theorem cut_len_le {b : UInt8} {s l : List UInt8} (h : l ∈ cutL b s) : l.length ≤ s.length := by
  have : ∀ (s cur : List UInt8) (l : List UInt8), l ∈ cutA b cur s → l.length ≤ cur.length + s.length := by
    intro s
    induction s with
    | nil => intro cur l h; simp [cutA] at h; subst h; simp
    | cons x s ih =>
      intro cur l h
      rw [cutA] at h
      split at h
      · rcases List.mem_cons.1 h with rfl | h
        · omega
        · have := ih [] l h; simp at this ⊢; omega
      · have := ih (cur ++ [x]) l h; simp at this ⊢; omega
  simpa using this s [] l h
theorem first_b {w0 w : World} {F : List Seg} (H : Hp w0 w F) (ht : GTab F) (hg : RdG F) {s : List UInt8} (hs : s.length < 4294967281) : Ret Tryd.prog 28 [.string ⟨s.toArray⟩] w fun v w' => v = headV s ∧ Hp w0 w' F := by
  refine Calls.of_J (n := 49) Tryd.func28 rfl rfl rfl ?_
  refine J.seq ?_
  refine J.region ?_
  refine JL.does trivial (EX.alloc H zr24 rfl) ?_
  rintro _ w ⟨b1, rfl, H⟩
  refine JL.go trivial (RX.assign) ?_
  refine JL.nil ?_
  refine J.seq ?_
  refine J.region ?_
  refine JL.go trivial (RX.movev (v := Value.string _) rfl) ?_
  refine JL.does trivial (EX.call rfl cl47 rfl ((split_b H hg.cons hs))) ?_
  rintro _ w ⟨g, rfl, H⟩
  obtain ⟨u0, us, hws⟩ : ∃ u0 us, cutL 32 s = u0 :: us := List.exists_cons_of_ne_nil (cutA_ne 32 s [])
  have hhd := headS_eq hws
  have hlw : (cutL 32 s).length = us.length + 1 := by rw [hws]; rfl
  rw [hws] at H
  rw [hlw]
  refine JL.go trivial (RX.assignv (v := Value.slice _ _ _) rfl) ?_
  refine JL.nil ?_
  refine J.seq ?_
  refine J.seq ?_
  refine J.region ?_
  refine JL.go trivial (RX.movev (v := Value.slice _ _ _) rfl) ?_
  refine JL.go trivial (RX.len_slice rfl (by rw [sl78]; rfl) (r := ((us.length + 1 : Nat) : Int)) (by omega)) ?_
  refine JL.go trivial (RX.ne rfl rfl) ?_
  refine JL.go trivial (RX.movev (v := Value.bool _) rfl) ?_
  refine JL.splitS 14 rfl (fun hl5 => ?_) (fun hl5 => ?_)
  · skip
    first | have hl5p := of_decide_eq_true hl5 | skip
    have hno : headS s = none := by rw [hhd, if_neg (fun h => by omega)]
    refine JL.no ⟨_, rfl, gno hl5⟩ ?_
    refine JL.no ⟨_, rfl, gno hl5⟩ ?_
    refine JL.no ⟨_, rfl, gno hl5⟩ ?_
    refine JL.no ⟨_, rfl, gno hl5⟩ ?_
    refine JL.go trivial (RX.pick_t rfl hl5) ?_
    refine JL.nil ?_
    refine J.cond_t rfl rfl ?_
    refine J.seq ?_
    refine J.region ?_
    refine JL.go trivial (RX.build (pv := []) (res := prgV prg0 none 0 0) rfl (by kernel_rfl)) ?_
    refine JL.does trivial (EX.storeAgg H rfl rfl (i := 1) (vs := prgV prg0 none 0 0) (l' := prgV prg0 none 0 0) rfl prgV_cell (by simp [prgV]) sz24 rfl rfl) ?_
    rintro _ w H
    refine JL.go trivial (RX.assign) ?_
    refine JL.nil ?_
    first | refine J.retct (x := Value.bool _) Tryd.func28 rfl H rfl (i := 0) rfl rfl ag24 rfl ?_ | refine J.retct (x := Value.bool _) Tryd.func28 rfl H rfl (i := 1) rfl rfl ag24 rfl ?_ | refine J.retct (x := Value.bool _) Tryd.func28 rfl H rfl (i := 2) rfl rfl ag24 rfl ?_ | refine J.retct (x := Value.bool _) Tryd.func28 rfl H rfl (i := 3) rfl rfl ag24 rfl ?_
    refine ⟨_, rfl, ?_, H.drop.drop⟩
    rw [headV, hno]; rfl
  · skip
    first | have hl5p := of_decide_eq_false hl5 | skip
    refine JL.go ⟨_, rfl, hl5⟩ (RX.movev (v := Value.slice _ _ _) rfl) ?_
    refine JL.go ⟨_, rfl, hl5⟩ (RX.indexAddr rfl rfl sl78 (by omega) (by omega) rfl) ?_
    refine JL.go ⟨_, rfl, hl5⟩ (RX.loadS H (SlAt.here (xs := strsV (u0 :: us)) List.take_length) rfl (j := 0) rfl (v := .string ⟨u0.toArray⟩) rfl one9) ?_
    refine JL.go ⟨_, rfl, hl5⟩ (RX.str_neq rfl rfl) ?_
    refine JL.go trivial (RX.pick_f rfl hl5) ?_
    refine JL.nil ?_
    refine J.cond_d rfl (fun hnm => ?_) (fun hnm => ?_)
    · skip
      first
      | (have hno2 := hno)
      | (have hno2 : headS s = none := by rw [hhd, if_neg (fun h => hnm (by rw [h.2]; rfl))])
      refine J.seq ?_
      refine J.region ?_
      refine JL.go trivial (RX.build (pv := []) (res := prgV prg0 none 0 0) rfl (by kernel_rfl)) ?_
      refine JL.does trivial (EX.storeAgg H rfl rfl (i := 1) (vs := prgV prg0 none 0 0) (l' := prgV prg0 none 0 0) rfl prgV_cell (by simp [prgV]) sz24 rfl rfl) ?_
      rintro _ w H
      refine JL.go trivial (RX.assign) ?_
      refine JL.nil ?_
      first | refine J.retct (x := Value.bool _) Tryd.func28 rfl H rfl (i := 0) rfl rfl ag24 rfl ?_ | refine J.retct (x := Value.bool _) Tryd.func28 rfl H rfl (i := 1) rfl rfl ag24 rfl ?_ | refine J.retct (x := Value.bool _) Tryd.func28 rfl H rfl (i := 2) rfl rfl ag24 rfl ?_ | refine J.retct (x := Value.bool _) Tryd.func28 rfl H rfl (i := 3) rfl rfl ag24 rfl ?_
      refine ⟨_, rfl, ?_, H.drop.drop⟩
      rw [headV, hno2]; rfl
    · skip
      have h4 : us.length = 4 := by omega
      have hu0 : u0 = timbre := ba_inj (Decidable.not_not.1 hnm)
      rw [if_pos ⟨h4, hu0⟩] at hhd
      refine J.skip ?_
      refine J.seq ?_
      refine J.region ?_
      refine JL.does trivial (EX.alloc H zr80 rfl) ?_
      rintro _ w ⟨b5, rfl, H⟩
      refine JL.nil ?_
      refine J.seq ?_
      refine J.seq ?_
      refine J.region ?_
      refine JL.go trivial (RX.movev (v := Value.slice _ _ _) rfl) ?_
      refine JL.go trivial (RX.slice_lq rfl rfl sl78 (fun a ha => by cases ha; rfl) (by omega) (by omega) (r := 1) rfl (q := some ⟨g, 1, none⟩) (by unfold behind; dsimp only; rw [if_neg (by omega)])) ?_
      refine JL.go trivial (RX.len_slice rfl (by rw [sl78]; rfl) (r := 4) (by omega)) ?_
      refine JL.go trivial (RX.move) ?_
      refine JL.nil ?_
      refine J.block ?_
      refine J.loop (ι := List Int) (S := fun x => [(24, .int .i64 (x.length : Nat))]) (Φ := fun x w => x.length ≤ 4 ∧ (∀ n ∈ x, i64ok n) ∧ numsS us = (numsS (us.drop x.length)).map (x ++ ·) ∧ Hp w0 w ([(b5, cel (intsV (zpad 4 x)) 80)] :: [(g, cel (strsV (u0 :: us)) 9)] :: [(b1, cel (prgV prg0 none 0 0) 24)] :: F)) (μ := fun x => 4 - x.length) (C := [(2, _), (5, _), (22, _), (23, _)]) [] ⟨rfl, rfl, rfl, rfl, trivial⟩ ⟨rfl, trivial⟩ ?_ ?_
      · exact ⟨by simp, by simp, by simp, H⟩
      clear H
      rintro x ρ w ⟨hx4, hxo, hnums, H⟩ IH
      refine J.seq ?_
      refine J.region ?_
      refine JL.go trivial (RX.lt rfl rfl) ?_
      refine JL.nil ?_
      refine J.seq ?_
      refine J.cond_d rfl (fun hlt => ?_) (fun hlt => ?_)
      · skip
        have hx3 : x.length < 4 := by omega
        obtain ⟨u, hu⟩ : ∃ u, us[x.length]? = some u := ⟨_, List.getElem?_eq_getElem (by omega)⟩
        have hul : u.length < 4294967281 := by
          have h1 := cut_len_le (b := 32) (s := s) (l := u) (by rw [hws]; exact List.mem_cons_of_mem _ (List.mem_of_getElem? hu))
          omega
        rw [List.drop_eq_getElem_cons (show x.length < us.length by omega), (List.getElem?_eq_some_iff.1 hu).2] at hnums
        refine J.skip ?_
        refine J.seq ?_
        refine J.block ?_
        refine J.seq ?_
        refine J.region ?_
        refine JL.go trivial (RX.movev (v := Value.int _ _) rfl) ?_
        refine JL.go trivial (RX.indexAddr rfl rfl sl78 (by omega) (by omega) (o' := 1 + x.length) (by simp)) ?_
        refine JL.go trivial (RX.loadS H (SlAt.here (xs := strsV (u0 :: us)) List.take_length).cons rfl (j := 1 + x.length) (by omega) (v := .string ⟨u.toArray⟩) (strsV_get (by rw [Nat.add_comm]; exact hu)) one9) ?_
        refine JL.go trivial (RX.assignv (v := Value.int _ _) rfl) ?_
        refine JL.go trivial (RX.assignv (v := Value.string _) rfl) ?_
        refine JL.nil ?_
        refine J.seq ?_
        refine J.region ?_
        refine JL.go trivial (RX.assign) ?_
        refine JL.nil ?_
        refine J.seq ?_
        refine J.region ?_
        refine JL.go trivial (RX.movev (v := Value.int _ _) rfl) ?_
        refine JL.go trivial (RX.movev (v := Value.string _) rfl) ?_
        refine JL.does trivial (EX.call rfl cl48 rfl ((numb_b H ht.cons.cons.cons hg.cons.cons.cons hul))) ?_
        rintro _ w ⟨⟨m, rfl, hm, hmn⟩, H⟩
        refine JL.go trivial (RX.movev (v := Value.tuple _) rfl) ?_
        refine JL.go trivial (RX.extract (v := .int .i64 m) rfl rfl) ?_
        refine JL.go trivial (RX.extract (v := .bool (numS u).isSome) rfl rfl) ?_
        refine JL.go trivial (RX.indexArr rfl rfl ar80 (by omega) (by omega) rfl) ?_
        refine JL.does trivial (EX.store (v := Value.int _ _) H rfl rfl (i := 0) rfl rfl (by rw [intsV_len, zpad_len hx4]; omega) sz3 rfl rfl) ?_
        rintro _ w H
        refine JL.go trivial (RX.assignv (v := Value.bool _) rfl) ?_
        refine JL.nil ?_
        have hzs := zpad_set (m := m) hx3
        simp only [Int.toNat_natCast, Nat.mul_one, Nat.zero_add, List.set_cons_zero] at H
        rw [hzs] at H
        refine J.seq ?_
        refine J.region ?_
        refine JL.go trivial (RX.movev (v := Value.bool _) rfl) ?_
        refine JL.go trivial (RX.not rfl) ?_
        refine JL.nil ?_
        refine J.cond rfl (fun hno => ?_) (fun hno => ?_)
        · skip
          have hnone : numS u = none := by
            cases h : numS u with
            | none => rfl
            | some n => rw [h] at hno; cases hno
          rw [nums_bad hnone] at hnums
          rw [hnums] at hhd
          refine J.seq ?_
          refine J.region ?_
          refine JL.go trivial (RX.build (pv := []) (res := prgV prg0 none 0 0) rfl (by kernel_rfl)) ?_
          refine JL.does trivial (EX.storeAgg H rfl rfl (i := 2) (vs := prgV prg0 none 0 0) (l' := prgV prg0 none 0 0) rfl prgV_cell (by simp [prgV]) sz24 rfl rfl) ?_
          rintro _ w H
          refine JL.go trivial (RX.assign) ?_
          refine JL.nil ?_
          first | refine J.retct (x := Value.bool _) Tryd.func28 rfl H rfl (i := 0) rfl rfl ag24 rfl ?_ | refine J.retct (x := Value.bool _) Tryd.func28 rfl H rfl (i := 1) rfl rfl ag24 rfl ?_ | refine J.retct (x := Value.bool _) Tryd.func28 rfl H rfl (i := 2) rfl rfl ag24 rfl ?_ | refine J.retct (x := Value.bool _) Tryd.func28 rfl H rfl (i := 3) rfl rfl ag24 rfl ?_
          refine ⟨_, rfl, ?_, H.drop.drop.drop⟩
          rw [headV, show headS s = none from hhd]; rfl
        · skip
          obtain ⟨n, hn⟩ : ∃ n, numS u = some n := by
            cases h : numS u with
            | none => rw [h] at hno; exact absurd hno (by decide)
            | some n => exact ⟨n, rfl⟩
          obtain rfl := hmn n hn
          rw [nums_cons hn] at hnums
          refine J.skip ?_
          refine J.inBlock ?_
          refine J.region ?_
          refine JL.go trivial (RX.add rfl rfl (w_i64 (r := ((x.length + 1 : Nat) : Int)) (by omega) (by omega) (by omega))) ?_
          refine JL.go trivial (RX.movev (v := Value.int _ _) rfl) ?_
          refine JL.nil ?_
          have hxl : x.length + 1 = (x ++ [m]).length := by simp
          rw [hxl] at hnums ⊢
          exact IH (x ++ [m]) _ _ (by simp; omega) ⟨rfl, rfl, rfl, rfl, trivial⟩ ⟨rfl, trivial⟩ ⟨by simp; omega, fun n hn => by
            rcases List.mem_append.1 hn with h | h
            · exact hxo n h
            · rw [List.mem_singleton.1 h]; exact hm, hnums, H⟩
      · skip
        have hx4e : x.length = 4 := by omega
        have hget : ∀ i, i < 4 → (intsV (zpad 4 x))[i]? = some (.int .i64 (x.getD i 0)) := fun i hi => by
          have h := zpad_get (n := 4) (x := x) hi (by omega)
          have e : zpad 4 x = x := by unfold zpad; rw [hx4e]; simp
          rw [e] at h ⊢; exact h
        rw [List.drop_eq_nil_of_le (by omega), numsS] at hnums
        have hfin : headS s = some (prgOf x) := by rw [hhd, hnums]; simp
        refine J.exit rfl ?_
        refine J.seq ?_
        refine J.region ?_
        refine JL.go trivial (RX.indexArr rfl rfl ar80 (by omega) (by omega) rfl) ?_
        refine JL.go trivial (RX.load H rfl (i := 0) (v := .int .i64 (x.getD 0 0)) rfl (hget 0 (by decide)) one3) ?_
        refine JL.go trivial (RX.indexArr rfl rfl ar80 (by omega) (by omega) rfl) ?_
        refine JL.go trivial (RX.load H rfl (i := 0) (v := .int .i64 (x.getD 1 0)) rfl (hget 1 (by decide)) one3) ?_
        refine JL.go trivial (RX.indexArr rfl rfl ar80 (by omega) (by omega) rfl) ?_
        refine JL.go trivial (RX.load H rfl (i := 0) (v := .int .i64 (x.getD 2 0)) rfl (hget 2 (by decide)) one3) ?_
        refine JL.go trivial (RX.indexArr rfl rfl ar80 (by omega) (by omega) rfl) ?_
        refine JL.go trivial (RX.load H rfl (i := 0) (v := .int .i64 (x.getD 3 0)) rfl (hget 3 (by decide)) one3) ?_
        refine JL.go trivial (RX.build (pv := [(0, .int .i64 (x.getD 0 0)), (1, .int .i64 (x.getD 1 0)), (2, .int .i64 (x.getD 2 0)), (3, .int .i64 (x.getD 3 0))]) (res := prgV (prgOf x) none 0 0) rfl (by kernel_rfl)) ?_
        refine JL.does trivial (EX.storeAgg H rfl rfl (i := 2) (vs := prgV (prgOf x) none 0 0) (l' := prgV (prgOf x) none 0 0) rfl prgV_cell (by simp [prgV]) sz24 rfl rfl) ?_
        rintro _ w H
        refine JL.go trivial (RX.assign) ?_
        refine JL.nil ?_
        first | refine J.retct (x := Value.bool _) Tryd.func28 rfl H rfl (i := 0) rfl rfl ag24 rfl ?_ | refine J.retct (x := Value.bool _) Tryd.func28 rfl H rfl (i := 1) rfl rfl ag24 rfl ?_ | refine J.retct (x := Value.bool _) Tryd.func28 rfl H rfl (i := 2) rfl rfl ag24 rfl ?_ | refine J.retct (x := Value.bool _) Tryd.func28 rfl H rfl (i := 3) rfl rfl ag24 rfl ?_
        refine ⟨_, rfl, ?_, H.drop.drop.drop⟩
        rw [headV, hfin]; rfl
theorem rhead_b {w0 w : World} {F : List Seg} (H : Hp w0 w F) {s : List UInt8} (hs : s.length < 4294967281) : Ret Tryd.prog 31 [.string ⟨s.toArray⟩] w fun v w' => v = headV s ∧ Hp w0 w' F := by
  refine Calls.of_J (n := 52) Tryd.func31 rfl rfl rfl ?_
  refine J.seq ?_
  refine J.region ?_
  refine JL.does trivial (EX.alloc H zr24 rfl) ?_
  rintro _ w ⟨b1, rfl, H⟩
  refine JL.go trivial (RX.assign) ?_
  refine JL.nil ?_
  refine J.seq ?_
  refine J.region ?_
  refine JL.go trivial (RX.movev (v := Value.string _) rfl) ?_
  refine JL.does trivial (EX.call rfl cl30 rfl ((rcut_b (b := 32) H hs))) ?_
  rintro _ w ⟨p, c, sg, rfl, ho, H⟩
  obtain ⟨g, gl, rfl, rfl, hcn, _, hgl⟩ := ho.ptr (by unfold cutL; rw [cutL_len]; omega)
  obtain ⟨u0, us, hws⟩ : ∃ u0 us, cutL 32 s = u0 :: us := List.exists_cons_of_ne_nil (cutA_ne 32 s [])
  have hhd := headS_eq hws
  have hlw : (cutL 32 s).length = us.length + 1 := by rw [hws]; rfl
  rw [hws] at hgl
  rw [hlw]
  refine JL.go trivial (RX.assignv (v := Value.slice _ _ _) rfl) ?_
  refine JL.nil ?_
  refine J.seq ?_
  refine J.seq ?_
  refine J.region ?_
  refine JL.go trivial (RX.movev (v := Value.slice _ _ _) rfl) ?_
  refine JL.go trivial (RX.len_slice rfl (by rw [sl78]; rfl) (r := ((us.length + 1 : Nat) : Int)) (by omega)) ?_
  refine JL.go trivial (RX.ne rfl rfl) ?_
  refine JL.go trivial (RX.movev (v := Value.bool _) rfl) ?_
  refine JL.splitS 15 rfl (fun hl5 => ?_) (fun hl5 => ?_)
  · skip
    first | have hl5p := of_decide_eq_true hl5 | skip
    have hno : headS s = none := by rw [hhd, if_neg (fun h => by omega)]
    refine JL.no ⟨_, rfl, gno hl5⟩ ?_
    refine JL.no ⟨_, rfl, gno hl5⟩ ?_
    refine JL.no ⟨_, rfl, gno hl5⟩ ?_
    refine JL.no ⟨_, rfl, gno hl5⟩ ?_
    refine JL.go trivial (RX.pick_t rfl hl5) ?_
    refine JL.nil ?_
    refine J.cond_t rfl rfl ?_
    refine J.seq ?_
    refine J.region ?_
    refine JL.go trivial (RX.build (pv := []) (res := prgV prg0 none 0 0) rfl (by kernel_rfl)) ?_
    refine JL.does trivial (EX.storeAgg H rfl rfl (i := 1) (vs := prgV prg0 none 0 0) (l' := prgV prg0 none 0 0) rfl prgV_cell (by simp [prgV]) sz24 rfl rfl) ?_
    rintro _ w H
    refine JL.go trivial (RX.assign) ?_
    refine JL.nil ?_
    first | refine J.retct (x := Value.bool _) Tryd.func31 rfl H rfl (i := 0) rfl rfl ag24 rfl ?_ | refine J.retct (x := Value.bool _) Tryd.func31 rfl H rfl (i := 1) rfl rfl ag24 rfl ?_ | refine J.retct (x := Value.bool _) Tryd.func31 rfl H rfl (i := 2) rfl rfl ag24 rfl ?_ | refine J.retct (x := Value.bool _) Tryd.func31 rfl H rfl (i := 3) rfl rfl ag24 rfl ?_
    refine ⟨_, rfl, ?_, H.drop.drop⟩
    rw [headV, hno]; rfl
  · skip
    first | have hl5p := of_decide_eq_false hl5 | skip
    refine JL.go ⟨_, rfl, hl5⟩ (RX.movev (v := Value.slice _ _ _) rfl) ?_
    refine JL.go ⟨_, rfl, hl5⟩ (RX.indexAddr rfl rfl sl78 (by omega) (by omega) rfl) ?_
    refine JL.go ⟨_, rfl, hl5⟩ (RX.loadS H (SlAt.here (xs := strsV (u0 :: us)) hgl) rfl (j := 0) rfl (v := .string ⟨u0.toArray⟩) rfl one9) ?_
    refine JL.go ⟨_, rfl, hl5⟩ (RX.str_neq rfl rfl) ?_
    refine JL.go trivial (RX.pick_f rfl hl5) ?_
    refine JL.nil ?_
    refine J.cond_d rfl (fun hnm => ?_) (fun hnm => ?_)
    · skip
      first
      | (have hno2 := hno)
      | (have hno2 : headS s = none := by rw [hhd, if_neg (fun h => hnm (by rw [h.2]; rfl))])
      refine J.seq ?_
      refine J.region ?_
      refine JL.go trivial (RX.build (pv := []) (res := prgV prg0 none 0 0) rfl (by kernel_rfl)) ?_
      refine JL.does trivial (EX.storeAgg H rfl rfl (i := 1) (vs := prgV prg0 none 0 0) (l' := prgV prg0 none 0 0) rfl prgV_cell (by simp [prgV]) sz24 rfl rfl) ?_
      rintro _ w H
      refine JL.go trivial (RX.assign) ?_
      refine JL.nil ?_
      first | refine J.retct (x := Value.bool _) Tryd.func31 rfl H rfl (i := 0) rfl rfl ag24 rfl ?_ | refine J.retct (x := Value.bool _) Tryd.func31 rfl H rfl (i := 1) rfl rfl ag24 rfl ?_ | refine J.retct (x := Value.bool _) Tryd.func31 rfl H rfl (i := 2) rfl rfl ag24 rfl ?_ | refine J.retct (x := Value.bool _) Tryd.func31 rfl H rfl (i := 3) rfl rfl ag24 rfl ?_
      refine ⟨_, rfl, ?_, H.drop.drop⟩
      rw [headV, hno2]; rfl
    · skip
      have h4 : us.length = 4 := by omega
      have hu0 : u0 = timbre := ba_inj (Decidable.not_not.1 hnm)
      rw [if_pos ⟨h4, hu0⟩] at hhd
      refine J.skip ?_
      refine J.seq ?_
      refine J.region ?_
      refine JL.go trivial (RX.build (pv := []) (res := intsV (zpad 4 [])) rfl (by kernel_rfl)) ?_
      refine JL.does trivial (EX.alloc H zr80 rfl) ?_
      rintro _ w ⟨b5, rfl, H⟩
      refine JL.does trivial (EX.storeAgg H rfl rfl (i := 0) (vs := intsV (zpad 4 [])) (l' := intsV (zpad 4 [])) rfl (by simp [intsV, zpad, isCell]) (by simp [intsV, zpad]) sz80 rfl rfl) ?_
      rintro _ w H
      refine JL.nil ?_
      refine J.seq ?_
      refine J.seq ?_
      refine J.region ?_
      refine JL.go trivial (RX.movev (v := Value.slice _ _ _) rfl) ?_
      refine JL.go trivial (RX.slice_lq rfl rfl sl78 (fun a ha => by cases ha; rfl) (by omega) (by omega) (r := 1) rfl (q := some ⟨g, 1, none⟩) (by unfold behind; dsimp only; rw [if_neg (by omega)])) ?_
      refine JL.go trivial (RX.len_slice rfl (by rw [sl78]; rfl) (r := 4) (by omega)) ?_
      refine JL.go trivial (RX.move) ?_
      refine JL.nil ?_
      refine J.block ?_
      refine J.loop (ι := List Int) (S := fun x => [(26, .int .i64 (x.length : Nat))]) (Φ := fun x w => x.length ≤ 4 ∧ (∀ n ∈ x, i64ok n) ∧ numsS us = (numsS (us.drop x.length)).map (x ++ ·) ∧ Hp w0 w ([(b5, cel (intsV (zpad 4 x)) 80)] :: [(g, cel gl 9)] :: [(b1, cel (prgV prg0 none 0 0) 24)] :: F)) (μ := fun x => 4 - x.length) (C := [(2, _), (5, _), (24, _), (25, _)]) [] ⟨rfl, rfl, rfl, rfl, trivial⟩ ⟨rfl, trivial⟩ ?_ ?_
      · exact ⟨by simp, by simp, by simp, H⟩
      clear H
      rintro x ρ w ⟨hx4, hxo, hnums, H⟩ IH
      refine J.seq ?_
      refine J.region ?_
      refine JL.go trivial (RX.lt rfl rfl) ?_
      refine JL.nil ?_
      refine J.seq ?_
      refine J.cond_d rfl (fun hlt => ?_) (fun hlt => ?_)
      · skip
        have hx3 : x.length < 4 := by omega
        obtain ⟨u, hu⟩ : ∃ u, us[x.length]? = some u := ⟨_, List.getElem?_eq_getElem (by omega)⟩
        have hul : u.length < 4294967281 := by
          have h1 := cut_len_le (b := 32) (s := s) (l := u) (by rw [hws]; exact List.mem_cons_of_mem _ (List.mem_of_getElem? hu))
          omega
        rw [List.drop_eq_getElem_cons (show x.length < us.length by omega), (List.getElem?_eq_some_iff.1 hu).2] at hnums
        refine J.skip ?_
        refine J.seq ?_
        refine J.block ?_
        refine J.seq ?_
        refine J.region ?_
        refine JL.go trivial (RX.movev (v := Value.int _ _) rfl) ?_
        refine JL.go trivial (RX.indexAddr rfl rfl sl78 (by omega) (by omega) (o' := 1 + x.length) (by simp)) ?_
        refine JL.go trivial (RX.loadS H (SlAt.here (xs := strsV (u0 :: us)) hgl).cons rfl (j := 1 + x.length) (by omega) (v := .string ⟨u.toArray⟩) (strsV_get (by rw [Nat.add_comm]; exact hu)) one9) ?_
        refine JL.go trivial (RX.assignv (v := Value.int _ _) rfl) ?_
        refine JL.go trivial (RX.assignv (v := Value.string _) rfl) ?_
        refine JL.nil ?_
        refine J.seq ?_
        refine J.region ?_
        refine JL.go trivial (RX.movev (v := Value.string _) rfl) ?_
        refine JL.does trivial (EX.call rfl cl50 rfl ((read_b H hul))) ?_
        rintro _ w ⟨⟨m, rfl, hm, hmn⟩, H⟩
        refine JL.go trivial (RX.movev (v := Value.tuple _) rfl) ?_
        refine JL.go trivial (RX.extract (v := .int .i64 m) rfl rfl) ?_
        refine JL.go trivial (RX.extract (v := .bool (numS u).isSome) rfl rfl) ?_
        refine JL.go trivial (RX.assignv (v := Value.int _ _) rfl) ?_
        refine JL.go trivial (RX.assignv (v := Value.bool _) rfl) ?_
        refine JL.nil ?_
        refine J.seq ?_
        refine J.seq ?_
        refine J.region ?_
        refine JL.go trivial (RX.movev (v := Value.bool _) rfl) ?_
        refine JL.go trivial (RX.not rfl) ?_
        refine JL.nil ?_
        refine J.cond rfl (fun hno => ?_) (fun hno => ?_)
        · skip
          have hnone : numS u = none := by
            cases h : numS u with
            | none => rfl
            | some n => rw [h] at hno; cases hno
          rw [nums_bad hnone] at hnums
          rw [hnums] at hhd
          refine J.seq ?_
          refine J.region ?_
          refine JL.go trivial (RX.build (pv := []) (res := prgV prg0 none 0 0) rfl (by kernel_rfl)) ?_
          refine JL.does trivial (EX.storeAgg H rfl rfl (i := 2) (vs := prgV prg0 none 0 0) (l' := prgV prg0 none 0 0) rfl prgV_cell (by simp [prgV]) sz24 rfl rfl) ?_
          rintro _ w H
          refine JL.go trivial (RX.assign) ?_
          refine JL.nil ?_
          first | refine J.retct (x := Value.bool _) Tryd.func31 rfl H rfl (i := 0) rfl rfl ag24 rfl ?_ | refine J.retct (x := Value.bool _) Tryd.func31 rfl H rfl (i := 1) rfl rfl ag24 rfl ?_ | refine J.retct (x := Value.bool _) Tryd.func31 rfl H rfl (i := 2) rfl rfl ag24 rfl ?_ | refine J.retct (x := Value.bool _) Tryd.func31 rfl H rfl (i := 3) rfl rfl ag24 rfl ?_
          refine ⟨_, rfl, ?_, H.drop.drop.drop⟩
          rw [headV, show headS s = none from hhd]; rfl
        · skip
          obtain ⟨n, hn⟩ : ∃ n, numS u = some n := by
            cases h : numS u with
            | none => rw [h] at hno; exact absurd hno (by decide)
            | some n => exact ⟨n, rfl⟩
          obtain rfl := hmn n hn
          rw [nums_cons hn] at hnums
          refine J.skip ?_
          refine J.region ?_
          refine JL.go trivial (RX.movev (v := Value.int _ _) rfl) ?_
          refine JL.go trivial (RX.movev (v := Value.int _ _) rfl) ?_
          refine JL.go trivial (RX.indexArr rfl rfl ar80 (by omega) (by omega) rfl) ?_
          refine JL.does trivial (EX.store (v := Value.int _ _) H rfl rfl (i := 0) rfl rfl (by rw [intsV_len, zpad_len hx4]; omega) sz3 rfl rfl) ?_
          rintro _ w H
          refine JL.nil ?_
          have hzs := zpad_set (m := m) hx3
          simp only [Int.toNat_natCast, Nat.mul_one, Nat.zero_add, List.set_cons_zero] at H
          rw [hzs] at H
          refine J.inBlock ?_
          refine J.region ?_
          refine JL.go trivial (RX.add rfl rfl (w_i64 (r := ((x.length + 1 : Nat) : Int)) (by omega) (by omega) (by omega))) ?_
          refine JL.go trivial (RX.movev (v := Value.int _ _) rfl) ?_
          refine JL.nil ?_
          have hxl : x.length + 1 = (x ++ [m]).length := by simp
          rw [hxl] at hnums ⊢
          exact IH (x ++ [m]) _ _ (by simp; omega) ⟨rfl, rfl, rfl, rfl, trivial⟩ ⟨rfl, trivial⟩ ⟨by simp; omega, fun n hn => by
            rcases List.mem_append.1 hn with h | h
            · exact hxo n h
            · rw [List.mem_singleton.1 h]; exact hm, hnums, H⟩
      · skip
        have hx4e : x.length = 4 := by omega
        have hget : ∀ i, i < 4 → (intsV (zpad 4 x))[i]? = some (.int .i64 (x.getD i 0)) := fun i hi => by
          have h := zpad_get (n := 4) (x := x) hi (by omega)
          have e : zpad 4 x = x := by unfold zpad; rw [hx4e]; simp
          rw [e] at h ⊢; exact h
        rw [List.drop_eq_nil_of_le (by omega), numsS] at hnums
        have hfin : headS s = some (prgOf x) := by rw [hhd, hnums]; simp
        refine J.exit rfl ?_
        refine J.seq ?_
        refine J.region ?_
        refine JL.go trivial (RX.indexArr rfl rfl ar80 (by omega) (by omega) rfl) ?_
        refine JL.go trivial (RX.load H rfl (i := 0) (v := .int .i64 (x.getD 0 0)) rfl (hget 0 (by decide)) one3) ?_
        refine JL.go trivial (RX.indexArr rfl rfl ar80 (by omega) (by omega) rfl) ?_
        refine JL.go trivial (RX.load H rfl (i := 0) (v := .int .i64 (x.getD 1 0)) rfl (hget 1 (by decide)) one3) ?_
        refine JL.go trivial (RX.indexArr rfl rfl ar80 (by omega) (by omega) rfl) ?_
        refine JL.go trivial (RX.load H rfl (i := 0) (v := .int .i64 (x.getD 2 0)) rfl (hget 2 (by decide)) one3) ?_
        refine JL.go trivial (RX.indexArr rfl rfl ar80 (by omega) (by omega) rfl) ?_
        refine JL.go trivial (RX.load H rfl (i := 0) (v := .int .i64 (x.getD 3 0)) rfl (hget 3 (by decide)) one3) ?_
        refine JL.go trivial (RX.build (pv := [(0, .int .i64 (x.getD 0 0)), (1, .int .i64 (x.getD 1 0)), (2, .int .i64 (x.getD 2 0)), (3, .int .i64 (x.getD 3 0))]) (res := prgV (prgOf x) none 0 0) rfl (by kernel_rfl)) ?_
        refine JL.does trivial (EX.storeAgg H rfl rfl (i := 2) (vs := prgV (prgOf x) none 0 0) (l' := prgV (prgOf x) none 0 0) rfl prgV_cell (by simp [prgV]) sz24 rfl rfl) ?_
        rintro _ w H
        refine JL.go trivial (RX.assign) ?_
        refine JL.nil ?_
        first | refine J.retct (x := Value.bool _) Tryd.func31 rfl H rfl (i := 0) rfl rfl ag24 rfl ?_ | refine J.retct (x := Value.bool _) Tryd.func31 rfl H rfl (i := 1) rfl rfl ag24 rfl ?_ | refine J.retct (x := Value.bool _) Tryd.func31 rfl H rfl (i := 2) rfl rfl ag24 rfl ?_ | refine J.retct (x := Value.bool _) Tryd.func31 rfl H rfl (i := 3) rfl rfl ag24 rfl ?_
        refine ⟨_, rfl, ?_, H.drop.drop.drop⟩
        rw [headV, hfin]; rfl
end Go.Proofs.YtgkmmbdlclecnaaDoor

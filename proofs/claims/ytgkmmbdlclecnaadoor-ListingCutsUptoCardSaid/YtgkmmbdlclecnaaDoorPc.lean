/- There and back, and cut off: plain. -/
import Derived.Test.YtgkmmbdlclecnaaDoorRs
namespace Go.Proofs.YtgkmmbdlclecnaaDoor
open Go Go.Eng
set_option maxRecDepth 100000
set_option linter.unusedVariables false
set_option linter.unusedSimpArgs false

/-! There and back. -/
theorem itoa_no {n : Int} {b : UInt8} (h : ¬ (48 ≤ b.toNat ∧ b.toNat ≤ 57)) (h2 : b ≠ 45) : b ∉ Lib.itoa n := by
  by_cases hn : n < 0
  · rw [itoa_neg' hn]
    intro hm
    rcases List.mem_cons.1 hm with e | e
    · exact h2 e
    · exact h (dec_digit _ b e)
  · rw [itoa_pos' hn]
    exact fun e => h (dec_digit _ b e)
/-- Words, a byte ahead of each. -/
def behindL (b : UInt8) (ws : List (List UInt8)) : List UInt8 := ws.flatMap fun x => b :: x
theorem beh_nil (b : UInt8) : behindL b [] = [] := rfl
theorem beh_cons (b : UInt8) (x : List UInt8) (ws : List (List UInt8)) : behindL b (x :: ws) = b :: (x ++ behindL b ws) := by simp [behindL]
theorem cut_behind {b : UInt8} : ∀ {ws : List (List UInt8)} {u : List UInt8}, b ∉ u → (∀ x ∈ ws, b ∉ x) → cutL b (u ++ behindL b ws) = u :: ws
  | [], u, h, _ => by rw [beh_nil, List.append_nil, cut_off h]
  | x :: ws, u, h, hs => by
    rw [beh_cons, cut_on h, cut_behind (hs x List.mem_cons_self) (fun y hy => hs y (List.mem_cons_of_mem _ hy))]
theorem cutA_join (b : UInt8) : ∀ (l cur u : List UInt8) (ws : List (List UInt8)), cutA b cur l = u :: ws → cur ++ l = u ++ behindL b ws
  | [], cur, u, ws, h => by
    rw [cutA] at h
    injection h with h1 h2
    subst h1 h2
    rw [beh_nil]
  | x :: l, cur, u, ws, h => by
    rw [cutA] at h
    split at h
    · rename_i hx
      injection h with h1 h2
      subst h1
      obtain ⟨u2, ws2, e⟩ := List.exists_cons_of_ne_nil (cutA_ne b l [])
      rw [e] at h2
      subst h2
      have h3 := cutA_join b l [] u2 ws2 e
      rw [List.nil_append] at h3
      rw [hx, h3, beh_cons]
    · have h3 := cutA_join b l (cur ++ [x]) u ws h
      rw [← h3]; simp
theorem cut_join {b : UInt8} {s u : List UInt8} {ws : List (List UInt8)} (h : cutL b s = u :: ws) : s = u ++ behindL b ws := by
  have := cutA_join b s [] u ws h
  rwa [List.nil_append] at this
theorem cutA_not (b : UInt8) : ∀ (l cur : List UInt8), b ∉ cur → ∀ x ∈ cutA b cur l, b ∉ x
  | [], cur, hc, x, h => by
    rw [cutA] at h
    rw [List.mem_singleton.1 h]; exact hc
  | y :: l, cur, hc, x, h => by
    rw [cutA] at h
    split at h
    · rcases List.mem_cons.1 h with e | e
      · rw [e]; exact hc
      · exact cutA_not b l [] (by simp) x e
    · rename_i hy
      exact cutA_not b l _ (by simp [hc, Ne.symm hy]) x h
theorem cutL_not {b : UInt8} {s x : List UInt8} (h : x ∈ cutL b s) : b ∉ x := cutA_not b s [] (by simp) x h
theorem head_beh (p : Prg) : headL p = timbre ++ behindL 32 (p.heads.map Lib.itoa) := by
  simp [headL, headPart, behindL, Prg.heads]
theorem nums_itoa : ∀ {xs : List Int}, (∀ x ∈ xs, i64ok x) → numsS (xs.map Lib.itoa) = some xs
  | [], _ => rfl
  | x :: xs, h => by
    rw [List.map_cons, numsS, numS_itoa (h x List.mem_cons_self)]
    simp only
    rw [nums_itoa (fun y hy => h y (List.mem_cons_of_mem _ hy))]
    rfl
theorem nums_back : ∀ {us : List (List UInt8)} {xs : List Int}, numsS us = some xs → us = xs.map Lib.itoa ∧ ∀ x ∈ xs, i64ok x
  | [], xs, h => by
    rw [numsS] at h
    cases h
    exact ⟨rfl, fun x hx => by simp at hx⟩
  | u :: us, xs, h => by
    rw [numsS] at h
    split at h
    · cases h
    · rename_i n hn
      obtain ⟨ys, hy, rfl⟩ := Option.map_eq_some_iff.1 h
      obtain ⟨e, ho⟩ := nums_back hy
      obtain ⟨hn1, hn2⟩ := numS_some hn
      refine ⟨by rw [List.map_cons, hn2, ← e], fun x hx => ?_⟩
      rcases List.mem_cons.1 hx with e | e
      · rw [e]; exact hn1
      · exact ho x e
theorem heads_ok {p : Prg} (h : p.Ok) : ∀ x ∈ p.heads, i64ok x := fun x hx => by
  simp only [Prg.heads, List.mem_cons, List.not_mem_nil, or_false] at hx
  rcases hx with rfl | rfl | rfl | rfl
  · exact h.len
  · exact h.cells
  · exact h.inn
  · exact h.out
theorem timbre_no {b : UInt8} (h : b.toNat < 98) : b ∉ timbre := by
  intro hm
  simp only [timbre, List.mem_cons, List.not_mem_nil, or_false] at hm
  rcases hm with rfl | rfl | rfl | rfl | rfl | rfl <;> exact absurd h (by decide)
theorem head_cut {p : Prg} : cutL 32 (headL p) = timbre :: p.heads.map Lib.itoa := by
  rw [head_beh]
  refine cut_behind (timbre_no (by decide)) (fun x hx => ?_)
  obtain ⟨n, _, rfl⟩ := List.mem_map.1 hx
  exact itoa_no (by decide) (by decide)
theorem head_there {p : Prg} (h : p.Ok) : headS (headL p) = some { p with steps := [] } := by
  rw [headS_eq head_cut, if_pos ⟨by simp [Prg.heads], rfl⟩, nums_itoa (heads_ok h)]
  rfl
theorem list_four {x : List Int} (h : x.length = 4) : ∃ a b c d, x = [a, b, c, d] := by
  match x, h with
  | [a, b, c, d], _ => exact ⟨a, b, c, d, rfl⟩
theorem list_six {x : List Int} (h : x.length = 6) : ∃ a b c d e f, x = [a, b, c, d, e, f] := by
  match x, h with
  | [a, b, c, d, e, f], _ => exact ⟨a, b, c, d, e, f, rfl⟩
theorem head_back {l : List UInt8} {p : Prg} (h : headS l = some p) : headL p = l ∧ p.Ok ∧ p.steps = [] := by
  obtain ⟨u, us, hc⟩ := List.exists_cons_of_ne_nil (cutL_ne 32 l)
  have hs := head_steps h
  rw [headS_eq hc] at h
  split at h
  · rename_i hu
    obtain ⟨hu4, hut⟩ := hu
    obtain ⟨x, hx, rfl⟩ := Option.map_eq_some_iff.1 h
    obtain ⟨e, ho⟩ := nums_back hx
    have hl := numsS_len hx
    refine ⟨?_, prgOf_ok ho, hs⟩
    rw [head_beh, cut_join hc, hut, e]
    obtain ⟨a, b, c, d, rfl⟩ := list_four (hl.trans hu4)
    rfl
  · cases h
/-! A step's line. -/
def wordsL : List (UInt8 × Int) → List (List UInt8)
  | [] => []
  | (c, x) :: r => if x = 0 then wordsL r else (c :: Lib.itoa x) :: wordsL r
theorem words_beh : ∀ r : List (UInt8 × Int), (r.flatMap fun q => pieceL q.1 q.2) = behindL 32 (wordsL r)
  | [] => rfl
  | (c, x) :: r => by
    rw [List.flatMap_cons, words_beh r, wordsL]
    unfold pieceL
    split
    · rfl
    · rw [beh_cons]; rfl
theorem line_beh (s : Stp) : lineL s = nmB s.op ++ behindL 32 (wordsL (letters.zip (valsL s))) := by
  rw [← words_beh]
  unfold lineL partL
  rw [List.take_of_length_le (by simp [letters, valsL])]
theorem words_head : ∀ (cs : List UInt8) (xs : List Int), ∀ u ∈ wordsL (cs.zip xs), ∃ c ∈ cs, ∃ x, u = c :: Lib.itoa x
  | [], xs, u, h => by simp [wordsL] at h
  | c :: cs, [], u, h => by simp [wordsL] at h
  | c :: cs, x :: xs, u, h => by
    rw [List.zip_cons_cons, wordsL] at h
    split at h
    · obtain ⟨c2, h2, x2, e⟩ := words_head cs xs u h
      exact ⟨c2, List.mem_cons_of_mem _ h2, x2, e⟩
    · rcases List.mem_cons.1 h with e | e
      · exact ⟨c, List.mem_cons_self, x, e⟩
      · obtain ⟨c2, h2, x2, e⟩ := words_head cs xs u e
        exact ⟨c2, List.mem_cons_of_mem _ h2, x2, e⟩
theorem fill_pass {c : UInt8} {cs : List UInt8} : ∀ {us : List (List UInt8)}, (∀ u ∈ us, ∀ t, u ≠ c :: t) → fillS (c :: cs) us = (fillS cs us).map (0 :: ·)
  | [], _ => by rw [fillS]
  | u :: us, h => fill_skip (h u List.mem_cons_self)
theorem fill_there : ∀ (cs : List UInt8) (xs : List Int), cs.Nodup → xs.length = cs.length → (∀ x ∈ xs, i64ok x) → fillS cs (wordsL (cs.zip xs)) = some xs
  | [], [], _, _, _ => rfl
  | [], _ :: _, _, h, _ => by cases h
  | _ :: _, [], _, h, _ => by cases h
  | c :: cs, x :: xs, hn, hl, ho => by
    obtain ⟨hc, hn2⟩ := List.nodup_cons.1 hn
    have ih := fill_there cs xs hn2 (by simpa using hl) (fun y hy => ho y (List.mem_cons_of_mem _ hy))
    rw [List.zip_cons_cons, wordsL]
    split
    · rename_i h0
      rw [fill_pass (fun u hu t e => ?_), ih, h0]
      · rfl
      · obtain ⟨c2, h2, x2, e2⟩ := words_head cs xs u hu
        rw [e2] at e
        injection e with e3 _
        exact hc (e3 ▸ h2)
    · rename_i h0
      rw [fill_num (numS_itoa (ho x List.mem_cons_self)) h0, ih]
      rfl
theorem fill_back : ∀ {cs : List UInt8} {us : List (List UInt8)} {xs : List Int}, fillS cs us = some xs → us = wordsL (cs.zip xs) ∧ ∀ x ∈ xs, i64ok x
  | [], [], xs, h => by
    rw [fillS] at h; cases h
    exact ⟨rfl, fun x hx => by simp at hx⟩
  | [], _ :: _, xs, h => by rw [fillS] at h; cases h
  | c :: cs, [], xs, h => by
    rw [fillS] at h
    obtain ⟨ys, hy, rfl⟩ := Option.map_eq_some_iff.1 h
    obtain ⟨e, ho⟩ := fill_back hy
    refine ⟨by rw [List.zip_cons_cons, wordsL, if_pos rfl]; exact e, fun x hx => ?_⟩
    rcases List.mem_cons.1 hx with e | e
    · rw [e]; exact ⟨by decide, by decide⟩
    · exact ho x e
  | c :: cs, [] :: ws, xs, h => by
    rw [fillS] at h
    obtain ⟨ys, hy, rfl⟩ := Option.map_eq_some_iff.1 h
    obtain ⟨e, ho⟩ := fill_back hy
    refine ⟨by rw [List.zip_cons_cons, wordsL, if_pos rfl]; exact e, fun x hx => ?_⟩
    rcases List.mem_cons.1 hx with e | e
    · rw [e]; exact ⟨by decide, by decide⟩
    · exact ho x e
  | c :: cs, (b :: t) :: ws, xs, h => by
    rw [fillS] at h
    split at h
    · rename_i hb
      split at h
      · rename_i n hn
        split at h
        · cases h
        · rename_i h0
          obtain ⟨ys, hy, rfl⟩ := Option.map_eq_some_iff.1 h
          obtain ⟨e, ho⟩ := fill_back hy
          obtain ⟨hn1, hn2⟩ := numS_some hn
          refine ⟨by rw [List.zip_cons_cons, wordsL, if_neg h0, ← e, hn2, hb], fun x hx => ?_⟩
          rcases List.mem_cons.1 hx with e | e
          · rw [e]; exact hn1
          · exact ho x e
      · cases h
    · obtain ⟨ys, hy, rfl⟩ := Option.map_eq_some_iff.1 h
      obtain ⟨e, ho⟩ := fill_back hy
      refine ⟨by rw [List.zip_cons_cons, wordsL, if_pos rfl]; exact e, fun x hx => ?_⟩
      rcases List.mem_cons.1 hx with e | e
      · rw [e]; exact ⟨by decide, by decide⟩
      · exact ho x e
theorem nmB_no {op : Int} (h : opOk op = true) : (32 : UInt8) ∉ nmB op ∧ (10 : UInt8) ∉ nmB op := by
  have := of_decide_eq_true h
  rcases op_cases this.1 this.2 with rfl | rfl | rfl | rfl | rfl | rfl | rfl | rfl | rfl | rfl | rfl <;> decide
theorem letters_nd : letters.Nodup := by decide
theorem valsL_len (s : Stp) : (valsL s).length = letters.length := rfl
theorem valsL_ok {s : Stp} (h : s.Ok) : ∀ x ∈ valsL s, i64ok x := fun x hx => by
  simp only [valsL, List.mem_cons, List.not_mem_nil, or_false] at hx
  rcases hx with rfl | rfl | rfl | rfl | rfl | rfl
  · exact h.dst
  · exact h.src
  · exact h.jump
  · exact h.count
  · exact h.n
  · exact h.k
theorem words_no {b : UInt8} (h : ¬ (48 ≤ b.toNat ∧ b.toNat ≤ 57)) (h2 : b ≠ 45) (h3 : b ∉ letters) (s : Stp) : ∀ u ∈ wordsL (letters.zip (valsL s)), b ∉ u := fun u hu hm => by
  obtain ⟨c, hc, x, rfl⟩ := words_head _ _ u hu
  rcases List.mem_cons.1 hm with e | e
  · exact h3 (e ▸ hc)
  · exact itoa_no h h2 e
theorem step_there {s : Stp} (hf : opOk s.op = true) (h : s.Ok) : stepS (lineL s) = some s := by
  have hc : cutL 32 (lineL s) = nmB s.op :: wordsL (letters.zip (valsL s)) := by
    rw [line_beh]
    exact cut_behind (nmB_no hf).1 (words_no (by decide) (by decide) (by decide) s)
  obtain ⟨h1, h2⟩ := of_decide_eq_true hf
  have ho : opS (nmB s.op) = some s.op := by
    have := opS_some (i := s.op.toNat) (by omega) (by omega)
    rwa [show ((s.op.toNat : Nat) : Int) = s.op by omega] at this
  rw [stepS_eq hc, ho]
  simp only
  rw [fill_there _ _ letters_nd (valsL_len s) (valsL_ok h)]
  rfl
theorem step_back {l : List UInt8} {s : Stp} (h : stepS l = some s) : lineL s = l ∧ s.Ok := by
  obtain ⟨u, us, hc⟩ := List.exists_cons_of_ne_nil (cutL_ne 32 l)
  rw [stepS_eq hc] at h
  split at h
  · cases h
  · rename_i op hop
    obtain ⟨x, hx, rfl⟩ := Option.map_eq_some_iff.1 h
    obtain ⟨h1, h2, hn⟩ := opS_ok hop
    obtain ⟨e, ho⟩ := fill_back hx
    refine ⟨?_, stpOf_ok ⟨by omega, by omega⟩ ho⟩
    rw [line_beh, cut_join hc, ← hn, e]
    obtain ⟨a, b, c, d, e, f, rfl⟩ := list_six (fill_len hx)
    rfl
theorem line_no {s : Stp} (hf : opOk s.op = true) : (10 : UInt8) ∉ lineL s := by
  rw [line_beh]
  intro hm
  rcases List.mem_append.1 hm with h | h
  · exact (nmB_no hf).2 h
  · obtain ⟨u, hu, hb⟩ := List.mem_flatMap.1 h
    rcases List.mem_cons.1 hb with e | e
    · exact absurd e (by decide)
    · exact words_no (by decide) (by decide) (by decide) s u hu e
theorem head_nl (p : Prg) : (10 : UInt8) ∉ headL p := by
  rw [head_beh]
  intro hm
  rcases List.mem_append.1 hm with h | h
  · exact timbre_no (by decide) h
  · obtain ⟨u, hu, hb⟩ := List.mem_flatMap.1 h
    obtain ⟨n, _, rfl⟩ := List.mem_map.1 hu
    rcases List.mem_cons.1 hb with e | e
    · exact absurd e (by decide)
    · exact itoa_no (by decide) (by decide) e
theorem steps_beh : ∀ l : List Stp, 10 :: stepsL l = behindL 10 (l.map lineL ++ [[]])
  | [] => rfl
  | s :: l => by
    rw [List.map_cons, List.cons_append, beh_cons, ← steps_beh l]
    simp [stepsL]
theorem text_beh (p : Prg) : textL p = headL p ++ behindL 10 (p.steps.map lineL ++ [[]]) := by
  rw [← steps_beh]
  simp [textL, textPart]
theorem textOk_all {p : Prg} (h : textOk p = true) : ∀ s ∈ p.steps, formB s = true := fun s hs => by
  unfold textOk at h
  exact List.all_eq_true.1 h s hs
theorem tails_no {l : List Stp} (h : ∀ s ∈ l, formB s = true) : ∀ x ∈ l.map lineL ++ [[]], (10 : UInt8) ∉ x := fun x hx => by
  rcases List.mem_append.1 hx with e | e
  · obtain ⟨s, hs, rfl⟩ := List.mem_map.1 e
    exact line_no (op_of_form (h s hs))
  · rw [List.mem_singleton.1 e]; simp
theorem lines_cons {p : Prg} {i : Nat} {l : List UInt8} {s : Stp} {r : List (List UInt8)} (hr : r ≠ []) (h : stepS l = some s) (hf : formB s = true) : linesS p i (l :: r) = linesS { p with steps := p.steps ++ [s] } (i + 1) r := by
  obtain ⟨a, b, rfl⟩ := List.exists_cons_of_ne_nil hr
  rw [linesS, h]
  simp only
  rw [if_pos hf]
theorem lines_there : ∀ (l : List Stp) (p : Prg) (i : Nat), (∀ s ∈ l, formB s = true ∧ s.Ok) → linesS p i (l.map lineL ++ [[]]) = .ok { p with steps := p.steps ++ l }
  | [], p, i, _ => by
    rw [List.map_nil, List.nil_append, linesS, if_pos rfl]
    cases p; simp
  | s :: l, p, i, h => by
    obtain ⟨hf, ho⟩ := h s List.mem_cons_self
    rw [List.map_cons, List.cons_append, lines_cons (by simp) (step_there (op_of_form hf) ho) hf, lines_there l _ _ (fun x hx => h x (List.mem_cons_of_mem _ hx))]
    simp
theorem lines_cut : ∀ (l : List Stp) (p : Prg) (i : Nat) (c : List UInt8), c ≠ [] → (∀ s ∈ l, formB s = true ∧ s.Ok) → linesS p i (l.map lineL ++ [c]) = .err (i + l.length + 1) 6
  | [], p, i, c, hc, _ => by
    rw [List.map_nil, List.nil_append, linesS, if_neg hc]
    rfl
  | s :: l, p, i, c, hc, h => by
    obtain ⟨hf, ho⟩ := h s List.mem_cons_self
    rw [List.map_cons, List.cons_append, lines_cons (by simp) (step_there (op_of_form hf) ho) hf, lines_cut l _ _ c hc (fun x hx => h x (List.mem_cons_of_mem _ hx))]
    simp only [List.length_cons]
    congr 1; omega
theorem readS_head {s l : List UInt8} {r : List (List UInt8)} {p : Prg} (h : cutL 10 s = l :: r) (hr : r ≠ []) (hp : headS l = some p) : readS s = linesS p 1 r := by
  obtain ⟨a, b, rfl⟩ := List.exists_cons_of_ne_nil hr
  unfold readS
  rw [h]
  simp only [hp]
theorem text_cut {p : Prg} (h : textOk p = true) : cutL 10 (textL p) = headL p :: (p.steps.map lineL ++ [[]]) := by
  rw [text_beh]
  exact cut_behind (head_nl p) (tails_no (textOk_all h))
theorem read_there {p : Prg} (hp : p.Ok) (h : textOk p = true) : readS (textL p) = .ok p := by
  rw [readS_head (text_cut h) (by simp) (head_there hp), lines_there p.steps _ _ (fun s hs => ⟨textOk_all h s hs, hp.steps s hs⟩)]
  simp
theorem lines_back : ∀ (r : List (List UInt8)) (p : Prg) (i : Nat) (q : Prg), linesS p i r = .ok q → ∃ l, q = { p with steps := p.steps ++ l } ∧ r = l.map lineL ++ [[]] ∧ ∀ s ∈ l, formB s = true ∧ s.Ok
  | [], p, i, q, h => by rw [linesS] at h; cases h
  | [l], p, i, q, h => by
    rw [linesS] at h
    split at h
    · rename_i hl
      cases h
      exact ⟨[], by cases p; simp, by rw [hl]; rfl, fun s hs => by simp at hs⟩
    · cases h
  | l :: l2 :: ls, p, i, q, h => by
    rw [linesS] at h
    split at h
    · cases h
    · rename_i x hx
      split at h
      · rename_i hf
        obtain ⟨m, hq, hr, hm⟩ := lines_back (l2 :: ls) _ _ q h
        obtain ⟨hl, ho⟩ := step_back hx
        refine ⟨x :: m, by rw [hq]; simp, by rw [hr, List.map_cons, hl]; rfl, fun s hs => ?_⟩
        rcases List.mem_cons.1 hs with e | e
        · rw [e]; exact ⟨hf, ho⟩
        · exact hm s e
      · cases h
theorem read_back {s : List UInt8} {q : Prg} (h : readS s = .ok q) : textL q = s ∧ textOk q = true ∧ (q.steps.length ≤ 2199023255552 → q.Ok) := by
  unfold readS at h
  split at h
  · cases h
  · cases h
  · rename_i l l2 ls hc
    split at h
    · cases h
    · rename_i p hp
      obtain ⟨m, rfl, hr, hm⟩ := lines_back _ _ _ _ h
      obtain ⟨hl, ho, hs⟩ := head_back hp
      have e : p.steps ++ m = m := by rw [hs]; rfl
      refine ⟨?_, ?_, fun hn => ⟨ho.len, ho.cells, ho.inn, ho.out, fun s hs => (hm s (by simpa [e] using hs)).2, hn⟩⟩
      · rw [text_beh, cut_join hc, hr, ← hl, e]
        rfl
      · unfold textOk
        rw [List.all_eq_true]
        exact fun s hs => (hm s (by simpa [e] using hs)).1
/-! Cut off. -/
theorem take_cut {b : UInt8} : ∀ (ws : List (List UInt8)) (u : List UInt8) (k : Nat), b ∉ u → (∀ x ∈ ws, b ∉ x) →
    ∃ j c, j ≤ ws.length ∧ cutL b ((u ++ behindL b ws).take k) = (u :: ws).take j ++ [c] ∧ (((u ++ behindL b ws).take k).getLast? = some b ↔ c = [] ∧ 0 < j)
  | ws, u, k, h, hs => by
    have short : ∀ s : List UInt8, s = u.take k → ∃ j c, j ≤ ws.length ∧ cutL b s = (u :: ws).take j ++ [c] ∧ (s.getLast? = some b ↔ c = [] ∧ 0 < j) := fun s e => by
      have hb : b ∉ s := fun hm => h (List.mem_of_mem_take (e ▸ hm))
      refine ⟨0, s, Nat.zero_le _, by rw [cut_off hb]; rfl, ⟨fun hl => absurd (List.mem_of_getLast? hl) hb, fun hl => absurd hl.2 (Nat.lt_irrefl _)⟩⟩
    match ws with
    | [] => exact short _ (by rw [beh_nil, List.append_nil])
    | x :: ws =>
      by_cases hk : k ≤ u.length
      · exact short _ (by rw [List.take_append_of_le_length hk])
      · obtain ⟨k2, rfl⟩ : ∃ k2, k = u.length + (k2 + 1) := ⟨k - u.length - 1, by omega⟩
        have e : (u ++ behindL b (x :: ws)).take (u.length + (k2 + 1)) = u ++ b :: (x ++ behindL b ws).take k2 := by
          rw [List.take_length_add_append, beh_cons, List.take_succ_cons]
        obtain ⟨j, c, hj, hc, hl⟩ := take_cut ws x k2 (hs x List.mem_cons_self) (fun y hy => hs y (List.mem_cons_of_mem _ hy))
        rw [e]
        generalize (x ++ behindL b ws).take k2 = s2 at hc hl
        refine ⟨j + 1, c, by simpa using hj, by rw [cut_on h, hc]; rfl, ?_⟩
        rw [List.getLast?_append, List.getLast?_cons]
        cases hg : s2.getLast? with
        | none =>
          have h0 : s2 = [] := List.getLast?_eq_none_iff.1 hg
          subst h0
          have hc2 : cutL b ([] : List UInt8) = [[]] := rfl
          rw [hc2] at hc
          have hlen := congrArg List.length hc
          have hc3 : c = [] := by
            have := congrArg List.getLast? hc
            simpa using this.symm
          simp [hc3]
        | some y =>
          rw [hg] at hl
          simp only [Option.getD_some, Option.some_or]
          rw [hl]
          constructor
          · exact fun h => ⟨h.1, Nat.succ_pos _⟩
          · intro h
            refine ⟨h.1, ?_⟩
            rcases Nat.eq_zero_or_pos j with e0 | e0
            · subst e0
              rw [h.1] at hc
              have hj2 := cut_join (u := ([] : List UInt8)) (ws := []) (by simpa using hc)
              rw [hj2] at hg
              simp [behindL] at hg
            · exact e0
theorem take_map_end {l : List Stp} {n : Nat} (h : n ≤ l.length) : (l.map lineL ++ [[]]).take n = (l.take n).map lineL := by
  rw [List.take_append_of_le_length (by simpa using h), List.map_take]
def firstN (p : Prg) (n : Nat) : Prg := { p with steps := p.steps.take n }
/-- What a listing's beginning reads as: j: how many lines are ended. -/
theorem read_cut {p : Prg} (hp : p.Ok) (h : textOk p = true) (k : Nat) : ∃ j, j ≤ p.steps.length + 1 ∧ ((textL p).take k).count 10 = j ∧
    ((((textL p).take k).getLast? = some 10 ∧ 0 < j ∧ readS ((textL p).take k) = .ok (firstN p (j - 1))) ∨ (((textL p).take k).getLast? ≠ some 10 ∧ readS ((textL p).take k) = .err (j + 1) 6)) := by
  obtain ⟨j, c, hj, hc, hl⟩ := take_cut (b := 10) (p.steps.map lineL ++ [[]]) (headL p) k (head_nl p) (tails_no (textOk_all h))
  rw [← text_beh] at hc hl
  have hj1 : j ≤ p.steps.length + 1 := by simpa using hj
  generalize (textL p).take k = s at hc hl
  refine ⟨j, hj1, ?_, ?_⟩
  · have h1 := cutL_len 10 s []
    have h2 : (cutL 10 s).length = s.count 10 + 1 := h1
    rw [hc] at h2
    simp only [List.length_append, List.length_take, List.length_cons, List.length_nil, List.length_map] at h2
    omega
  · have hok : ∀ n, ∀ s ∈ p.steps.take n, formB s = true ∧ s.Ok := fun n s hs => ⟨textOk_all h s (List.mem_of_mem_take hs), hp.steps s (List.mem_of_mem_take hs)⟩
    rcases Nat.eq_zero_or_pos j with e0 | e0
    · subst e0
      refine .inr ⟨fun e => absurd (hl.1 e).2 (Nat.lt_irrefl _), ?_⟩
      rw [List.take_zero, List.nil_append] at hc
      unfold readS
      rw [hc]
    · obtain ⟨i, rfl⟩ : ∃ i, j = i + 1 := ⟨j - 1, by omega⟩
      rw [List.take_succ_cons, take_map_end (by omega), List.cons_append] at hc
      by_cases hcn : c = []
      · subst hcn
        refine .inl ⟨hl.2 ⟨rfl, e0⟩, e0, ?_⟩
        rw [readS_head hc (by simp) (head_there hp), lines_there _ _ _ (hok i)]
        rfl
      · refine .inr ⟨fun e => hcn (hl.1 e).1, ?_⟩
        rw [readS_head hc (by simp) (head_there hp), lines_cut _ _ _ c hcn (hok i)]
        congr 1
        rw [List.length_take]
        omega

end Go.Proofs.YtgkmmbdlclecnaaDoor

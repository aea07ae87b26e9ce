/-
  Words with blanks or remarks behind them are the same words: the plain law. No condition.
-/
import Derived.Test.YtijaldpmpjapiaaLexI
namespace Go.Proofs.Ytijaldpmpjapiaa

theorem runN_stop_at (p : Nat → Bool) (t r : List Nat) (c : Nat) (ht : ∀ x ∈ t, p x = true) (hc : p c = false) : runN p (t ++ c :: r) = t.length := by
  induction t with
  | nil => rw [List.nil_append, runN_cons, hc]; rfl
  | cons x t ih => rw [List.cons_append, runN_cons, if_pos (ht x (by simp)), ih (fun y hy => ht y (by simp [hy]))]; rfl
theorem part32 : partB 32 = false := by decide
theorem numZ_none {l : List Nat} {c : Nat} (hc : c ∈ l) (h : digB c = false) : numZ l = -1 := by
  unfold numZ
  rw [if_neg]
  intro ha
  have := List.all_eq_true.1 ha c hc
  rw [h] at this; cases this
/-- Behind a number of part bytes and a blank there is no day. -/
theorem no_day (t r : List Nat) (ht : ∀ x ∈ t, partB x = true) : dayOk (t ++ 32 :: r) = false := by
  rw [Bool.eq_false_iff]
  intro h
  unfold dayOk at h
  simp only [Bool.and_eq_true, decide_eq_true_eq] at h
  obtain ⟨⟨h10, -⟩, hd⟩ := h
  unfold dateOk at hd
  simp only [Bool.and_eq_true, decide_eq_true_eq] at hd
  obtain ⟨⟨⟨-, h4⟩, -⟩, hok⟩ := hd
  rw [List.getElem?_take_of_lt (by omega)] at h4
  rcases Nat.lt_or_ge 4 t.length with h5 | h5
  · rw [List.getElem?_append_left h5] at h4
    have := ht 45 (List.mem_of_getElem? h4)
    revert this; decide
  · rcases Nat.eq_or_lt_of_le h5 with h6 | h6
    · rw [List.getElem?_append_right (by omega), h6, Nat.sub_self] at h4
      simp at h4
    · have hm : (32 : Nat) ∈ (((t ++ 32 :: r).take 10).take 4).drop 0 := by
        rw [List.drop_zero, List.take_take, show min 4 10 = 4 from rfl]
        refine List.mem_of_getElem? (i := t.length) ?_
        rw [List.getElem?_take_of_lt h6, List.getElem?_append_right (Nat.le_refl _), Nat.sub_self]
        rfl
      rw [numZ_none hm (by decide)] at hok
      unfold ofOk at hok
      simp at hok
theorem sign_again : ∀ s ∈ signsL, ∀ r : List Nat, signW (s ++ 32 :: r) = some s ∧ ∃ c q, s = c :: q ∧ digB c = false ∧ letB c = false ∧ blankB c = false ∧ c ≠ 35 := by
  intro s hs r
  simp only [signsL, List.mem_cons, List.not_mem_nil, or_false] at hs
  rcases hs with rfl | rfl | rfl | rfl | rfl | rfl | rfl | rfl | rfl | rfl | rfl | rfl | rfl | rfl | rfl | rfl <;>
    exact ⟨by simp [signW, signsL], _, _, rfl, by decide, by decide, by decide, by decide⟩
theorem nextW_cons (c : Nat) (r : List Nat) : nextW (c :: r) = if digB c then (if dayOk (c :: r) then some (2, (c :: r).take 10, dateZ ((c :: r).take 10)) else (amt0 ((c :: r).take (runN partB (c :: r)))).map fun v => (1, (c :: r).take (runN partB (c :: r)), v))
    else if letB c then (if runN partB (c :: r) ≤ 16 then some (3, (c :: r).take (runN partB (c :: r)), 0) else none)
    else (signW (c :: r)).map fun s => (0, s, 0) := rfl
/-- A word is read again where a blank follows it. -/
theorem next_again {l : List Nat} {k : Int} {t : List Nat} {n : Int} (h : nextW l = some (k, t, n)) (r : List Nat) : nextW (t ++ 32 :: r) = some (k, t, n) ∧ ∃ c q, t = c :: q ∧ blankB c = false ∧ c ≠ 35 := by
  obtain ⟨h1, h2, h3⟩ := nextW_spec h
  cases l with
  | nil => cases h
  | cons c l =>
    obtain ⟨q, hq⟩ : ∃ q, t = c :: q := by
      cases t with
      | nil => simp at h1
      | cons d q =>
        rw [List.length_cons, List.take_succ_cons] at h2
        injection h2 with h2 _
        exact ⟨q, by rw [h2]⟩
    rw [nextW_cons] at h
    by_cases hd : digB c = true
    · have hb : blankB c = false ∧ c ≠ 35 := by
        unfold digB at hd
        simp at hd
        constructor
        · unfold blankB; simp; omega
        · omega
      rw [if_pos hd] at h
      by_cases hday : dayOk (c :: l) = true
      · rw [if_pos hday] at h
        injection h with h
        injection h with e1 h
        injection h with e2 e3
        have h10 : 10 ≤ (c :: l).length := by
          unfold dayOk at hday
          simp only [Bool.and_eq_true, decide_eq_true_eq] at hday
          exact hday.1.1
        have ht10 : t.length = 10 := by rw [← e2, List.length_take]; omega
        have htk : (t ++ 32 :: r).take 10 = t := by rw [← ht10]; exact List.take_left
        have hdok : dateOk t = true := by
          unfold dayOk at hday
          simp only [Bool.and_eq_true] at hday
          rw [← e2]; exact hday.2
        have hday2 : dayOk (t ++ 32 :: r) = true := by
          unfold dayOk
          rw [htk, hdok]
          have h32 : (t ++ 32 :: r).getD 10 0 = 32 := by
            rw [List.getD_eq_getElem?_getD, ← ht10, List.getElem?_append_right (Nat.le_refl _), Nat.sub_self]
            rfl
          rw [h32, part32]
          simp [ht10]
        refine ⟨?_, c, q, hq, hb⟩
        have : t ++ 32 :: r = c :: (q ++ 32 :: r) := by rw [hq]; rfl
        rw [this, nextW_cons, if_pos hd, ← this, if_pos hday2, htk, ← e1, ← e3, e2]
      · rw [if_neg hday] at h
        cases ha : amt0 ((c :: l).take (runN partB (c :: l))) with
        | none => rw [ha] at h; cases h
        | some v =>
          rw [ha] at h
          injection h with h
          injection h with e1 h
          injection h with e2 e3
          have hall : ∀ x ∈ t, partB x = true := by rw [← e2]; exact runN_all partB _
          have hrun := runN_stop_at partB t r 32 hall part32
          refine ⟨?_, c, q, hq, hb⟩
          have e : t ++ 32 :: r = c :: (q ++ 32 :: r) := by rw [hq]; rfl
          rw [e2] at ha
          rw [e, nextW_cons, if_pos hd, ← e, no_day t r hall, if_neg (by simp), hrun, List.take_left, ha, ← e1, ← e3]
          rfl
    · rw [if_neg hd] at h
      by_cases hle : letB c = true
      · have hb : blankB c = false ∧ c ≠ 35 := by
          unfold letB at hle
          simp at hle
          constructor
          · unfold blankB; simp; omega
          · omega
        rw [if_pos hle] at h
        by_cases h16 : runN partB (c :: l) ≤ 16
        · rw [if_pos h16] at h
          injection h with h
          injection h with e1 h
          injection h with e2 e3
          have hall : ∀ x ∈ t, partB x = true := by rw [← e2]; exact runN_all partB _
          have hrun := runN_stop_at partB t r 32 hall part32
          have htl : t.length ≤ 16 := by rw [← e2, List.length_take]; omega
          refine ⟨?_, c, q, hq, hb⟩
          have e : t ++ 32 :: r = c :: (q ++ 32 :: r) := by rw [hq]; rfl
          rw [e, nextW_cons, if_neg hd, if_pos hle, ← e, hrun, if_pos htl, List.take_left, ← e1, ← e3]
        · rw [if_neg h16] at h; cases h
      · rw [if_neg hle] at h
        cases hs : signW (c :: l) with
        | none => rw [hs] at h; cases h
        | some s =>
          rw [hs] at h
          injection h with h
          injection h with e1 h
          injection h with e2 e3
          subst e2
          obtain ⟨s1, c', q', s2, s3, s4, s5, s6⟩ := sign_again s (List.mem_of_find?_eq_some hs) r
          refine ⟨?_, c', q', s2, s5, s6⟩
          have e : s ++ 32 :: r = c' :: (q' ++ 32 :: r) := by rw [s2]; rfl
          rw [e, nextW_cons, if_neg (by rw [s3]; simp), if_neg (by rw [s4]; simp), ← e, s1, ← e1, ← e3]
          rfl
/-- The texts of words, a blank (and a remark) behind each. -/
def sepL (b : Bool) : List Nat := if b then [32, 35, 32, 40, 10] else [32]
def joinL (b : Bool) (ws : List Wd) : List Nat := ws.flatMap fun x => x.text ++ sepL b
def WdOk (x : Wd) : Prop := ∃ l, nextW l = some (x.kind, x.text, x.n)
theorem blank_sep (b : Bool) (r : List Nat) : blankN (sepL b ++ r) = (sepL b).length + blankN r := by
  cases b
  · show blankN (32 :: r) = 1 + blankN r
    rw [blankN_step, if_pos (by decide)]; omega
  · show blankN (32 :: 35 :: 32 :: 40 :: 10 :: r) = 5 + blankN r
    unfold blankN
    rw [blankF_f, if_pos (by decide), blankF_f, if_neg (by decide), if_pos rfl, blankF_t, if_neg (by decide), blankF_t, if_neg (by decide), blankF_t, if_pos rfl]
    omega
theorem sep_head (b : Bool) (r : List Nat) : ∃ q, sepL b ++ r = 32 :: q := by cases b <;> exact ⟨_, rfl⟩
theorem blank_join (b : Bool) (ws : List Wd) (h : ∀ x ∈ ws, WdOk x) : blankN (joinL b ws) = 0 := by
  cases ws with
  | nil => rfl
  | cons x r =>
    obtain ⟨l, hl⟩ := h x (by simp)
    obtain ⟨-, c, q, hq, h1, h2⟩ := next_again hl []
    have : joinL b (x :: r) = c :: (q ++ sepL b ++ joinL b r) := by simp [joinL, hq]
    rw [this, blankN_step, if_neg (by rw [h1]; simp), if_neg h2]
theorem lex_join (b : Bool) : ∀ (ws : List Wd) (pre : List Nat) (f : Nat), (∀ x ∈ ws, WdOk x) → (joinL b ws).length + 1 ≤ f →
    ∃ ws', lexW f (pre ++ joinL b ws) pre.length = (ws', none) ∧ ws'.length = ws.length ∧ ∀ (i : Nat) x, ws[i]? = some x → ∃ y, ws'[i]? = some y ∧ y.kind = x.kind ∧ y.text = x.text ∧ y.n = x.n
  | [], pre, f, _, _ => ⟨[], by rw [lexW_end _ _ _ (by simp [joinL])], rfl, fun i x hx => by simp at hx⟩
  | x :: r, pre, f, h, hf => by
    obtain ⟨l, hl⟩ := h x (by simp)
    obtain ⟨h1, -, -⟩ := nextW_spec hl
    have hj : joinL b (x :: r) = x.text ++ (sepL b ++ joinL b r) := by simp [joinL]
    have hs1 : 1 ≤ (sepL b).length := by cases b <;> simp [sepL]
    have hfl : (x.text ++ (sepL b ++ joinL b r)).length = x.text.length + ((sepL b).length + (joinL b r).length) := by simp
    rw [hj] at hf ⊢
    rw [hfl] at hf
    obtain ⟨f', rfl⟩ : ∃ f', f = f' + 1 := ⟨f - 1, by omega⟩
    obtain ⟨q, hq⟩ := sep_head b (joinL b r)
    have hnx := (next_again hl q).1
    rw [← hq] at hnx
    have hd1 : (pre ++ (x.text ++ (sepL b ++ joinL b r))).drop pre.length = x.text ++ (sepL b ++ joinL b r) := List.drop_left
    have hd2 : (pre ++ (x.text ++ (sepL b ++ joinL b r))).drop (pre.length + x.text.length) = sepL b ++ joinL b r := by
      rw [← List.drop_drop, hd1, List.drop_left]
    rw [lexW_step f' _ _ (by rw [List.length_append, hfl]; omega), hd1, hnx]
    dsimp only
    rw [hd2, blank_sep, blank_join b r (fun y hy => h y (by simp [hy]))]
    obtain ⟨ws', e1, e2, e3⟩ := lex_join b r (pre ++ x.text ++ sepL b) f' (fun y hy => h y (by simp [hy])) (by omega)
    have e4 : pre ++ (x.text ++ (sepL b ++ joinL b r)) = pre ++ x.text ++ sepL b ++ joinL b r := by simp
    have e5 : pre.length + x.text.length + ((sepL b).length + 0) = (pre ++ x.text ++ sepL b).length := by simp; omega
    rw [e4, e5, e1]
    refine ⟨_, rfl, by simp [e2], fun i y hy => ?_⟩
    cases i with
    | zero => simp at hy; subst hy; exact ⟨_, rfl, rfl, rfl, rfl⟩
    | succ i => exact e3 i y (by simpa using hy)
theorem lexW_ok (l : List Nat) : ∀ f p, ∀ x ∈ (lexW f l p).1, WdOk x
  | 0, p, x, h => by simp [lexW] at h
  | f + 1, p, x, h => by
    rcases Nat.lt_or_ge p l.length with hlt | hge
    · rw [lexW_step f l p hlt] at h
      cases hn : nextW (l.drop p) with
      | none => rw [hn] at h; simp at h
      | some z =>
        obtain ⟨k, t, n⟩ := z
        rw [hn] at h
        rcases List.mem_cons.1 h with rfl | h
        · exact ⟨_, hn⟩
        · exact lexW_ok l f _ x h
    · rw [lexW_end _ _ _ hge] at h; simp at h
theorem lex_spaces (l : List Nat) (b : Bool) : ∃ ws', lexAll (joinL b (lexAll l).1) = (ws', none) ∧ ws'.length = (lexAll l).1.length ∧ ∀ (i : Nat) x, (lexAll l).1[i]? = some x → ∃ y, ws'[i]? = some y ∧ y.kind = x.kind ∧ y.text = x.text ∧ y.n = x.n := by
  have hok := lexW_ok l (l.length + 1) (blankN l)
  have := lex_join b (lexAll l).1 [] ((joinL b (lexAll l).1).length + 1) hok (by omega)
  rw [List.nil_append] at this
  unfold lexAll
  rw [blank_join b _ hok]
  exact this
theorem join_len (b : Bool) (l : List Nat) : ∀ (ws : List Wd) q, Chain l ws q → (joinL b ws).length + 6 * q ≤ 6 * l.length
  | [], q, h => by
    have h : q + blankN (l.drop q) = l.length := h
    simp [joinL]; omega
  | x :: r, q, h => by
    obtain ⟨c1, c2, c3, -, c5⟩ := h
    have ih := join_len b l r _ c5
    have hj : (joinL b (x :: r)).length = x.text.length + (sepL b).length + (joinL b r).length := by simp [joinL]; omega
    have : (sepL b).length ≤ 5 := by cases b <;> simp [sepL]
    omega
end Go.Proofs.Ytijaldpmpjapiaa

/-
  A text's words: each stands where it says, between them there are blanks alone: the plain law. No condition.
-/
import Derived.Test.YtijaldpmpjapiaaLexH
namespace Go.Proofs.Ytijaldpmpjapiaa
open Go.RowKit

/-- Within a remark? -/
def stepB (b : Bool) (c : Nat) : Bool := if c = 35 then true else if c = 10 then false else b
def stK (l : List Nat) (b : Bool) : Nat → Bool
  | 0 => b
  | k + 1 => stepB (stK l b k) (l.getD k 0)
theorem stK_cons (c : Nat) (l : List Nat) (b : Bool) : ∀ k, stK (c :: l) b (k + 1) = stK l (stepB b c) k
  | 0 => rfl
  | k + 1 => by
    show stepB (stK (c :: l) b (k + 1)) ((c :: l).getD (k + 1) 0) = stepB (stK l (stepB b c) k) (l.getD k 0)
    rw [stK_cons c l b k]
    rfl
theorem stepB_true {d : Nat} (hd : d ≠ 10) : stepB true d = true := by unfold stepB; by_cases h : d = 35 <;> simp [h, hd]
theorem blank_in : ∀ (l : List Nat) (b : Bool) (k c : Nat), k < blankF l b → l[k]? = some c → stepB (stK l b k) c = true ∨ blankB c = true
  | [], b, k, c, _, h => by simp at h
  | d :: l, true, k, c, hk, h => by
    rw [blankF_t] at hk
    cases k with
    | zero =>
      simp at h
      subst h
      by_cases hd : d = 10
      · right; subst hd; decide
      · left
        exact stepB_true hd
    | succ k =>
      rw [stK_cons]
      by_cases hd : d = 10
      · rw [if_pos hd] at hk
        have : stepB true d = false := by subst hd; rfl
        rw [this]
        exact blank_in l false k c (by omega) (by simpa using h)
      · rw [if_neg hd] at hk
        have : stepB true d = true := stepB_true hd
        rw [this]
        exact blank_in l true k c (by omega) (by simpa using h)
  | d :: l, false, k, c, hk, h => by
    rw [blankF_f] at hk
    by_cases hb : blankB d = true
    · rw [if_pos hb] at hk
      have h35 : d ≠ 35 := by intro e; subst e; revert hb; decide
      have hs : stepB false d = false := by unfold stepB; rw [if_neg h35]; split <;> rfl
      cases k with
      | zero => simp at h; subst h; exact .inr hb
      | succ k =>
        rw [stK_cons, hs]
        exact blank_in l false k c (by omega) (by simpa using h)
    · rw [if_neg hb] at hk
      by_cases h35 : d = 35
      · rw [if_pos h35] at hk
        have hs : stepB false d = true := by unfold stepB; rw [if_pos h35]
        cases k with
        | zero => simp at h; subst h; exact .inl hs
        | succ k =>
          rw [stK_cons, hs]
          exact blank_in l true k c (by omega) (by simpa using h)
      · rw [if_neg h35] at hk; omega
theorem blank_out : ∀ (l : List Nat) (b : Bool), blankF l b < l.length → stK l b (blankF l b) = false
  | [], b, h => by simp at h
  | d :: l, true, h => by
    rw [blankF_t] at h ⊢
    by_cases hd : d = 10
    · rw [if_pos hd] at h ⊢
      have : stepB true d = false := by subst hd; rfl
      rw [stK_cons, this]
      exact blank_out l false (by simp at h; omega)
    · rw [if_neg hd] at h ⊢
      have : stepB true d = true := stepB_true hd
      rw [stK_cons, this]
      exact blank_out l true (by simp at h; omega)
  | d :: l, false, h => by
    rw [blankF_f] at h ⊢
    by_cases hb : blankB d = true
    · rw [if_pos hb] at h ⊢
      have h35 : d ≠ 35 := by intro e; subst e; revert hb; decide
      have hs : stepB false d = false := by unfold stepB; rw [if_neg h35]; split <;> rfl
      rw [stK_cons, hs]
      exact blank_out l false (by simp at h; omega)
    · rw [if_neg hb] at h ⊢
      by_cases h35 : d = 35
      · rw [if_pos h35] at h ⊢
        have hs : stepB false d = true := by unfold stepB; rw [if_pos h35]
        rw [stK_cons, hs]
        exact blank_out l true (by simp at h; omega)
      · rw [if_neg h35] at h ⊢; rfl
/-- The words from a place on, one behind the other, blanks between them. -/
def Chain (l : List Nat) : List Wd → Nat → Prop
  | [], q => q + blankN (l.drop q) = l.length
  | x :: r, q => x.pos = q + blankN (l.drop q) ∧ 0 < x.text.length ∧ x.pos + x.text.length ≤ l.length ∧ x.text = (l.drop x.pos).take x.text.length ∧ Chain l r (x.pos + x.text.length)
theorem chain_of (l : List Nat) : ∀ f q, q ≤ l.length → l.length + 1 ≤ f + (q + blankN (l.drop q)) → (lexW f l (q + blankN (l.drop q))).2 = none → Chain l (lexW f l (q + blankN (l.drop q))).1 q := by
  intro f
  induction f with
  | zero =>
    intro q hq hf _
    have := blankN_le (l.drop q)
    rw [List.length_drop] at this
    omega
  | succ f ih =>
    intro q hq hf h
    have hbl := blankN_le (l.drop q)
    rw [List.length_drop] at hbl
    rcases Nat.lt_or_ge (q + blankN (l.drop q)) l.length with hlt | hge
    · rw [lexW_step f l _ hlt] at h ⊢
      cases hn : nextW (l.drop (q + blankN (l.drop q))) with
      | none => rw [hn] at h; cases h
      | some z =>
        obtain ⟨k, t, n⟩ := z
        rw [hn] at h
        obtain ⟨s1, s2, s3⟩ := nextW_spec hn
        rw [List.length_drop] at s3
        refine ⟨rfl, s1, by dsimp only; omega, s2, ?_⟩
        exact ih _ (by omega) (by omega) h
    · rw [lexW_end _ _ _ hge]
      show q + blankN (l.drop q) = l.length
      omega
theorem chain_all (l : List Nat) (h : (lexAll l).2 = none) : Chain l (lexAll l).1 0 := by
  have := chain_of l (l.length + 1) 0 (by omega) (by omega)
  rw [Nat.zero_add, List.drop_zero] at this
  exact this h
theorem wdCells_at : ∀ {ws : List Wd} {i : Nat} {x : Wd}, ws[i]? = some x → (wdCells ws)[4 * i]? = some (.int .i64 x.kind) ∧ (wdCells ws)[4 * i + 1]? = some (.string (strOf x.text)) ∧ (wdCells ws)[4 * i + 2]? = some (.int .i64 x.n) ∧ (wdCells ws)[4 * i + 3]? = some (.int .i64 (x.pos : Int))
  | [], i, x, h => by simp at h
  | y :: ws, 0, x, h => by simp at h; subst h; exact ⟨rfl, rfl, rfl, rfl⟩
  | y :: ws, i + 1, x, h => wdCells_at (ws := ws) (i := i) (x := x) (by simpa using h)
section
variable {P : Program} {E : Operand → Option Value} {o : Oper} {w : World} {x : Operand} {T : TypeId}
theorem Runs.fieldP {g off i t : Nat} (k : Nat) {fields : Array Field} (ho : o.op = .fieldAddr T x i) (hx : E x = some (.pointer (some ⟨g, off, none⟩))) (hT : P.underlying T = some (.struct fields)) (hf : offAt fields i = some (t, k)) (hs : sizePos P t = true) :
    Runs P E o w (.pointer (some ⟨g, off + k, none⟩)) w := by
  have h := Runs.fieldA (w := w) k ho hx hT hf hs
  have e : (⟨g, off, none⟩ : Addr).add k = ⟨g, off + k, none⟩ := by unfold Addr.add; split <;> simp_all
  rwa [e] at h
end
end Go.Proofs.Ytijaldpmpjapiaa

/-
  A text as words: what is said of it, in plain terms. No condition.
-/
import Derived.Test.YtijaldpmpjapiaaKI
namespace Go.Proofs.Ytijaldpmpjapiaa

def letB (c : Nat) : Bool := (decide (97 ≤ c) && decide (c ≤ 122)) || (decide (65 ≤ c) && decide (c ≤ 90))
def digB (c : Nat) : Bool := decide (48 ≤ c) && decide (c ≤ 57)
def partB (c : Nat) : Bool := letB c || digB c || decide (c = 95)
/-- How many first bytes are so. -/
def runN (p : Nat → Bool) : List Nat → Nat
  | [] => 0
  | c :: l => if p c then runN p l + 1 else 0
theorem runN_le (p : Nat → Bool) : ∀ l, runN p l ≤ l.length
  | [] => Nat.le_refl _
  | c :: l => by
    unfold runN
    split
    · have := runN_le p l; simp; omega
    · simp
theorem runN_at (p : Nat → Bool) : ∀ (l : List Nat) (k : Nat), (∀ j c, j < k → l[j]? = some c → p c = true) → k ≤ l.length → (∀ c, l[k]? = some c → p c = false) → runN p l = k
  | [], k, _, hk, _ => by simp at hk; simp [runN, hk]
  | c :: l, k, h, hk, hs => by
    unfold runN
    cases k with
    | zero =>
      have := hs c (by simp)
      rw [if_neg (by rw [this]; simp)]
    | succ k =>
      have h0 := h 0 c (by omega) (by simp)
      rw [if_pos h0, runN_at p l k (fun j d hj hd => h (j + 1) d (by omega) (by simpa using hd)) (by simpa using hk) (fun d hd => hs d (by simpa using hd))]
theorem runN_all (p : Nat → Bool) : ∀ (l : List Nat), ∀ c ∈ l.take (runN p l), p c = true
  | [], c, h => by simp at h
  | d :: l, c, h => by
    unfold runN at h
    split at h
    · rename_i hd
      rw [List.take_succ_cons] at h
      rcases List.mem_cons.1 h with rfl | h
      · exact hd
      · exact runN_all p l c h
    · simp at h
theorem runN_stop (p : Nat → Bool) : ∀ (l : List Nat) c, l[runN p l]? = some c → p c = false
  | [], c, h => by simp at h
  | d :: l, c, h => by
    unfold runN at h
    split at h
    · exact runN_stop p l c (by simpa using h)
    · rename_i hd
      simp at h
      subst h
      simpa using hd
def blankB (c : Nat) : Bool := decide (c = 32) || decide (c = 9) || decide (c = 10)
def noteB (c : Nat) : Bool := decide (c ≠ 10)
/-- How many first bytes are blanks and remarks; the second: within a remark. -/
def blankF : List Nat → Bool → Nat
  | [], _ => 0
  | c :: l, true => if c = 10 then blankF l false + 1 else blankF l true + 1
  | c :: l, false => if blankB c then blankF l false + 1 else if c = 35 then blankF l true + 1 else 0
def blankN (l : List Nat) : Nat := blankF l false
theorem blankF_le : ∀ l b, blankF l b ≤ l.length
  | [], _ => Nat.le_refl _
  | c :: l, true => by unfold blankF; have := blankF_le l true; have := blankF_le l false; split <;> simp <;> omega
  | c :: l, false => by unfold blankF; have := blankF_le l true; have := blankF_le l false; split; simp; omega; split <;> simp <;> omega
theorem blankF_t (c : Nat) (l : List Nat) : blankF (c :: l) true = if c = 10 then blankF l false + 1 else blankF l true + 1 := by rw [blankF]
theorem blankF_f (c : Nat) (l : List Nat) : blankF (c :: l) false = if blankB c then blankF l false + 1 else if c = 35 then blankF l true + 1 else 0 := by rw [blankF]
theorem runN_cons (p : Nat → Bool) (c : Nat) (l : List Nat) : runN p (c :: l) = if p c then runN p l + 1 else 0 := rfl
/-- A remark goes to the end of its line. -/
theorem blankF_note : ∀ l, blankF l true = runN noteB l + blankF (l.drop (runN noteB l)) false
  | [] => rfl
  | c :: l => by
    rw [blankF_t, runN_cons]
    by_cases hc : c = 10
    · subst hc
      have : noteB 10 = false := by decide
      rw [if_pos rfl, this, if_neg (by simp), List.drop_zero, blankF_f, if_pos (by decide)]
      omega
    · have : noteB c = true := by simp [noteB, hc]
      rw [if_neg hc, this, if_pos rfl, blankF_note l, List.drop_succ_cons]
      omega
theorem blankN_step (c : Nat) (r : List Nat) : blankN (c :: r) = if blankB c then blankN r + 1 else if c = 35 then runN noteB (c :: r) + blankN ((c :: r).drop (runN noteB (c :: r))) else 0 := by
  unfold blankN
  rw [blankF_f]
  split
  · rfl
  · split
    · rename_i hc
      subst hc
      have : noteB 35 = true := by decide
      rw [blankF_note, runN_cons, this, if_pos rfl, List.drop_succ_cons]
      omega
    · rfl
theorem blankN_le (l : List Nat) : blankN l ≤ l.length := blankF_le l false
end Go.Proofs.Ytijaldpmpjapiaa

/-
  A number's text: its bytes. No condition.
-/
import Derived.Test.YtijaldpmpjapiaaKH
namespace Go.Proofs.Ytijaldpmpjapiaa
open Go.RowKit

/-- The bytes of the first k rounds. -/
def prB (u d : Nat) : Nat → List Nat
  | 0 => []
  | k + 1 => prB u d k ++ (if k = d ∧ 0 < d then [46] else []) ++ [48 + u / 10 ^ k % 10]
theorem prB_len (u d : Nat) : ∀ k, k ≤ (prB u d k).length ∧ (prB u d k).length ≤ 2 * k
  | 0 => by simp [prB]
  | k + 1 => by
    have ih := prB_len u d k
    unfold prB
    split <;> simp <;> omega
theorem prB_lt (u d : Nat) : ∀ k, ∀ x ∈ prB u d k, x < 256
  | 0 => by simp [prB]
  | k + 1 => by
    have ih := prB_lt u d k
    unfold prB
    intro x hx
    simp only [List.mem_append, List.mem_singleton] at hx
    rcases hx with (hx | hx) | hx
    · exact ih x hx
    · split at hx
      · simp at hx; omega
      · simp at hx
    · omega
/-- So many rounds. -/
def Rounds (u d N : Nat) : Prop := (∀ k, k < N → 0 < u / 10 ^ k ∨ k ≤ d) ∧ ¬ (0 < u / 10 ^ N ∨ N ≤ d)
def printed (n : Int) (d N : Nat) : List Nat := (prB n.natAbs d N ++ if n < 0 then [45] else []).reverse
theorem div_ten (u k : Nat) : u / 10 ^ k / 10 = u / 10 ^ (k + 1) := by rw [Nat.div_div_eq_div_mul, Nat.pow_succ]
end Go.Proofs.Ytijaldpmpjapiaa

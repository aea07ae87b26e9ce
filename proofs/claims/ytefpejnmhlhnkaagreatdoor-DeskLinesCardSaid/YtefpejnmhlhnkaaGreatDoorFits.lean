/-
  Which numbers are int64s. No condition.
-/
import Derived.Test.YtefpejnmhlhnkaaGreatDoorWords
namespace Go.Proofs.YtefpejnmhlhnkaaGreatDoor
open Go.RowKit

def I64 (a : Int) : Prop := -9223372036854775808 ≤ a ∧ a ≤ 9223372036854775807
/-- Is it an int64? -/
def fits (a : Int) : Bool := decide (-9223372036854775808 ≤ a) && decide (a ≤ 9223372036854775807)
def smallOf (a : Int) : Int := if fits a = true then a else 0
theorem fits_of {a : Int} (h0 : -9223372036854775808 ≤ a) (h1 : a ≤ 9223372036854775807) : fits a = true := by unfold fits; rw [decide_eq_true h0, decide_eq_true h1]; rfl
theorem fits_not {a : Int} (h : a < -9223372036854775808 ∨ 9223372036854775807 < a) : fits a = false := by
  unfold fits
  rcases h with h | h
  · rw [decide_eq_false (by omega)]; rfl
  · rw [decide_eq_false (show ¬ a ≤ 9223372036854775807 by omega)]; simp
theorem smallOf_bd (a : Int) : -9223372036854775808 ≤ smallOf a ∧ smallOf a ≤ 9223372036854775807 := by
  unfold smallOf
  split
  · rename_i h
    unfold fits at h
    simp only [Bool.and_eq_true, decide_eq_true_eq] at h
    exact h
  · omega

end Go.Proofs.YtefpejnmhlhnkaaGreatDoor

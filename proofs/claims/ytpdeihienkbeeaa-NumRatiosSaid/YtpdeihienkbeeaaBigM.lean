/-
  debentureref01's Share: what it answers (begun: not built). Condition: the numbers are of 64 bits, not too many.
-/
import Derived.Test.YtpdeihienkbeeaaBigL
import Derived.Test.YtpdeihienkbeeaaNumG
namespace Go.Proofs.Ytpdeihienkbeeaa
open Go.RowKit

/-- Who has got one more. -/
def gotOf (q : List Int) (r : List Nat) (m : Nat) : List Bool := (List.range r.length).map fun j => decide ((giveTo q r m).2.getD j 0 = 0 ∧ 0 < r.getD j 0)
/-- The first greatest of those that have not got, among the first k; -1: none. -/
def pickTo (got : List Bool) (r : List Nat) : Nat → Int
  | 0 => -1
  | k + 1 => if got.getD k false = false ∧ (pickTo got r k < 0 ∨ r.getD (pickTo got r k).toNat 0 < r.getD k 0) then (k : Int) else pickTo got r k
theorem pickTo_spec (got : List Bool) (r : List Nat) : ∀ k, (pickTo got r k = -1 ∧ ∀ j, j < k → got.getD j false = true) ∨
    ∃ b, b < k ∧ pickTo got r k = (b : Int) ∧ got.getD b false = false ∧ (∀ j, j < k → got.getD j false = false → r.getD j 0 ≤ r.getD b 0) ∧ ∀ j, j < b → got.getD j false = false → r.getD j 0 < r.getD b 0
  | 0 => .inl ⟨rfl, fun j h => absurd h (by omega)⟩
  | k + 1 => by
    unfold pickTo
    rcases pickTo_spec got r k with ⟨h1, h2⟩ | ⟨b, h1, h2, h3, h4, h5⟩
    · rw [h1]
      cases hg : got.getD k false with
      | true =>
        rw [if_neg (by simp)]
        refine .inl ⟨rfl, fun j hj => ?_⟩
        rcases Nat.lt_or_ge j k with h | h
        · exact h2 j h
        · obtain rfl : j = k := by omega
          exact hg
      | false =>
        rw [if_pos ⟨rfl, .inl (by omega)⟩]
        refine .inr ⟨k, by omega, rfl, hg, fun j hj hj2 => ?_, fun j hj hj2 => ?_⟩
        · rcases Nat.lt_or_ge j k with h | h
          · rw [h2 j h] at hj2; cases hj2
          · obtain rfl : j = k := by omega
            exact Nat.le_refl _
        · rw [h2 j hj] at hj2; cases hj2
    · rw [h2]
      have e : ((b : Int)).toNat = b := by omega
      rw [e]
      by_cases hc : got.getD k false = false ∧ ((b : Int) < 0 ∨ r.getD b 0 < r.getD k 0)
      · rw [if_pos hc]
        have hlt : r.getD b 0 < r.getD k 0 := by rcases hc.2 with h | h; omega; exact h
        refine .inr ⟨k, by omega, rfl, hc.1, fun j hj hj2 => ?_, fun j hj hj2 => ?_⟩
        · rcases Nat.lt_or_ge j k with h | h
          · have := h4 j h hj2; omega
          · obtain rfl : j = k := by omega
            exact Nat.le_refl _
        · have := h4 j hj hj2; omega
      · rw [if_neg hc]
        refine .inr ⟨b, by omega, rfl, h3, fun j hj hj2 => ?_, h5⟩
        rcases Nat.lt_or_ge j k with h | h
        · exact h4 j h hj2
        · obtain rfl : j = k := by omega
          rcases Nat.lt_or_ge (r.getD b 0) (r.getD j 0) with h6 | h6
          · exact absurd ⟨hj2, .inr h6⟩ hc
          · exact h6
/-- Over those that have not got it is the first greatest of the rests, those that have got at nought. -/
theorem pick_best (got : List Bool) (r z : List Nat) (n : Nat) (hz : ∀ j, j < n → z.getD j 0 = if got.getD j false = true then 0 else r.getD j 0) (h0 : 0 < n) (hp : 0 < z.getD (bestTo z n) 0) : pickTo got r n = (bestTo z n : Int) := by
  have hb := bestTo_lt z n h0
  have hmax := bestTo_max z n
  have hfst := bestTo_first z n
  generalize bestTo z n = c at *
  have hc : got.getD c false = false := by
    cases h : got.getD c false with
    | false => rfl
    | true => have := hz c hb; rw [h, if_pos rfl] at this; omega
  have hzc := hz c hb
  rw [hc, if_neg (by simp)] at hzc
  rcases pickTo_spec got r n with ⟨h1, h2⟩ | ⟨b, h1, h2, h3, h4, h5⟩
  · have := h2 c hb
    rw [hc] at this; cases this
  · rw [h2]
    have hzb := hz b h1
    rw [h3, if_neg (by simp)] at hzb
    have e1 := h4 c hb hc
    have e2 := hmax b h1
    rcases Nat.lt_trichotomy b c with h | h | h
    · have := hfst b h; omega
    · rw [h]
    · have := h5 c h hc; omega
end Go.Proofs.Ytpdeihienkbeeaa

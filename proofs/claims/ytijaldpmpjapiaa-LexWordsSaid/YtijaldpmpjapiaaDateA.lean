/-
  Days, years and months: what is said of them, in plain terms. No condition.
-/
import Derived.Test.YtijaldpmpjapiaaLexD
namespace Go.Proofs.Ytijaldpmpjapiaa
open Go.RowKit

def yearZ (y : Int) : Int := if leapB y then 366 else 365
theorem of_start : ofZ 1970 1 1 = 0 := by decide
theorem of_last : ofZ 10000 1 1 = 2932897 := by decide
theorem leapB_iff (y : Int) : leapB y = true ↔ y % 4 = 0 ∧ (y % 100 ≠ 0 ∨ y % 400 = 0) := by unfold leapB; simp
theorem of_one (y : Int) : ofZ y 1 1 = (y - 1) / 400 * 146097 + ((y - 1) % 400 * 365 + (y - 1) % 400 / 4 - (y - 1) % 400 / 100 + 306) - 719468 := by
  unfold ofZ ofY ofM
  rw [if_pos (by omega), if_pos (by omega)]
  omega
theorem of_year (y : Int) : ofZ (y + 1) 1 1 = ofZ y 1 1 + yearZ y := by
  rw [of_one, of_one]
  have hl := leapB_iff y
  unfold yearZ
  rw [Int.add_sub_cancel]
  generalize hr : (y - 1) % 400 = r
  generalize hq : (y - 1) / 400 = q
  obtain rfl : y = 400 * q + r + 1 := by omega
  have hr1 : 0 ≤ r ∧ r < 400 := by omega
  split
  · rename_i h
    have := hl.1 h
    by_cases h4 : r = 399
    · subst h4; omega
    · rw [show (400 * q + r + 1) / 400 = q by omega, show (400 * q + r + 1) % 400 = r + 1 by omega]; omega
  · rename_i h
    have : ¬ ((400 * q + r + 1) % 4 = 0 ∧ ((400 * q + r + 1) % 100 ≠ 0 ∨ (400 * q + r + 1) % 400 = 0)) := fun h2 => h (hl.2 h2)
    by_cases h4 : r = 399
    · subst h4; omega
    · rw [show (400 * q + r + 1) / 400 = q by omega, show (400 * q + r + 1) % 400 = r + 1 by omega]; omega
theorem of_day (y m d : Int) : ofZ y m d = ofZ y m 1 + d - 1 := by unfold ofZ; omega
theorem of_month (y m : Int) (h1 : 1 ≤ m) (h2 : m ≤ 11) : ofZ y (m + 1) 1 = ofZ y m 1 + daysZ y m := by
  rcases (show m = 1 ∨ m = 2 ∨ m = 3 ∨ m = 4 ∨ m = 5 ∨ m = 6 ∨ m = 7 ∨ m = 8 ∨ m = 9 ∨ m = 10 ∨ m = 11 by omega) with rfl | rfl | rfl | rfl | rfl | rfl | rfl | rfl | rfl | rfl | rfl
  case inr.inl =>
    have := of_year y
    rw [of_one, of_one] at this
    unfold yearZ at this
    unfold ofZ ofY ofM daysZ
    split at this <;> rename_i h <;> simp [h] at this ⊢ <;> omega
  all_goals
    unfold ofZ ofY ofM daysZ
    simp
    try omega
theorem of_dec (y : Int) : ofZ (y + 1) 1 1 = ofZ y 12 1 + 31 := by
  rw [of_one]
  unfold ofZ ofY ofM
  simp
  omega
theorem daysZ_pos (y m : Int) : 0 ≤ daysZ y m := by
  unfold daysZ
  split
  · split <;> omega
  · split
    · omega
    · split <;> omega
theorem of_mono_m (y : Int) : ∀ (k : Nat) (m : Int), 1 ≤ m → m + k ≤ 12 → ofZ y m 1 ≤ ofZ y (m + k) 1 := by
  intro k
  induction k with
  | zero => intro m _ _; simp
  | succ k ih =>
    intro m h1 h2
    have h3 := ih m h1 (by omega)
    have h4 := of_month y (m + k) (by omega) (by omega)
    have h5 := daysZ_pos y (m + k)
    rw [show m + ((k + 1 : Nat) : Int) = m + k + 1 by omega]
    omega
theorem of_le_m {y m m' : Int} (h1 : 1 ≤ m) (h2 : m ≤ m') (h3 : m' ≤ 12) : ofZ y m 1 ≤ ofZ y m' 1 := by
  have := of_mono_m y (m' - m).toNat m h1 (by omega)
  rwa [show m + ((m' - m).toNat : Int) = m' by omega] at this
theorem yearZ_pos (y : Int) : 365 ≤ yearZ y := by unfold yearZ; split <;> omega
theorem of_mono_y : ∀ (k : Nat) (y : Int), ofZ y 1 1 ≤ ofZ (y + k) 1 1 := by
  intro k
  induction k with
  | zero => intro y; simp
  | succ k ih =>
    intro y
    have h1 := ih y
    have h2 := of_year (y + k)
    have h3 := yearZ_pos (y + k)
    rw [show y + ((k + 1 : Nat) : Int) = y + k + 1 by omega]
    omega
theorem of_le_y {y y' : Int} (h : y ≤ y') : ofZ y 1 1 ≤ ofZ y' 1 1 := by
  have := of_mono_y (y' - y).toNat y
  rwa [show y + ((y' - y).toNat : Int) = y' by omega] at this
/-- A day is of its month, and of its year. -/
theorem of_span {y m d : Int} (h : ofOk y m d = true) : 1970 ≤ y ∧ y ≤ 9999 ∧ 1 ≤ m ∧ m ≤ 12 ∧ 1 ≤ d ∧ d ≤ daysZ y m ∧ ofZ y 1 1 ≤ ofZ y m d ∧ ofZ y m d < ofZ (y + 1) 1 1 ∧ 0 ≤ ofZ y m d ∧ ofZ y m d ≤ 2932896 := by
  unfold ofOk at h
  simp at h
  obtain ⟨⟨⟨h1, h2⟩, h3⟩, h4⟩ := h
  obtain ⟨h5, h6, -⟩ := daysZ_m (y := y) (m := m) (by omega)
  have a1 := of_le_m (y := y) (m := 1) (m' := m) (by omega) h5 h6
  have a2 := of_day y m d
  have a3 : ofZ y m 1 + daysZ y m ≤ ofZ (y + 1) 1 1 := by
    by_cases hm : m = 12
    · subst hm
      rw [of_dec]
      have : daysZ y 12 = 31 := by unfold daysZ; simp
      omega
    · have b1 := of_month y m h5 (by omega)
      have b2 := of_le_m (y := y) (m := m + 1) (m' := 12) (by omega) (by omega) (by omega)
      have b3 := of_dec y
      omega
  have a4 := of_le_y (y := 1970) (y' := y) h1
  have a5 := of_le_y (y := y + 1) (y' := 10000) (by omega)
  rw [of_start] at a4
  rw [of_last] at a5
  exact ⟨h1, h2, h5, h6, h3, h4, by omega, by omega, by omega, by omega⟩
/-- A number in so many digits. -/
def digR (v : Nat) : Nat → List Nat
  | 0 => []
  | n + 1 => (48 + v / 10 ^ n % 10) :: digR v n
theorem digR_len (v n : Nat) : (digR v n).length = n := by induction n with
  | zero => rfl
  | succ n ih => unfold digR; simp [ih]
theorem digR_lt (v n : Nat) : ∀ x ∈ digR v n, x < 256 := by induction n with
  | zero => intro x h; cases h
  | succ n ih =>
    intro x h
    unfold digR at h
    rcases List.mem_cons.1 h with rfl | h
    · omega
    · exact ih x h
def printD (y m d : Nat) : List Nat := digR y 4 ++ [45] ++ digR m 2 ++ [45] ++ digR d 2
end Go.Proofs.Ytijaldpmpjapiaa

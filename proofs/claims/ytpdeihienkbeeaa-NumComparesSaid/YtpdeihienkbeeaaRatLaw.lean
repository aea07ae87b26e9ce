/-
  Which of two ratios is greater: the plain law. No condition.
-/
import Derived.Test.YtpdeihienkbeeaaNumA
import Derived.Test.YtpdeihienkbeeaaBigB
namespace Go.Proofs.Ytpdeihienkbeeaa

theorem prod_cases (a b : Int) : ((a.natAbs * b.natAbs : Nat) : Int) = if decide (a < 0) ≠ decide (b < 0) then -(a * b) else a * b := by
  rw [Int.natCast_mul]
  by_cases ha : a < 0
  · have ea : (a.natAbs : Int) = -a := by omega
    by_cases hb : b < 0
    · have eb : (b.natAbs : Int) = -b := by omega
      rw [ea, eb, Int.neg_mul_neg]; simp [ha, hb]
    · have eb : (b.natAbs : Int) = b := by omega
      rw [ea, eb, Int.neg_mul]; simp [ha, hb]
  · have ea : (a.natAbs : Int) = a := by omega
    by_cases hb : b < 0
    · have eb : (b.natAbs : Int) = -b := by omega
      rw [ea, eb, Int.mul_neg]; simp [ha, hb]
    · have eb : (b.natAbs : Int) = b := by omega
      rw [ea, eb]; simp [ha, hb]
theorem way_law (p q r s : Int) (hq : q ≠ 0) (hs : s ≠ 0) :
    wayOf (decide (p < 0) != decide (q < 0)) ((p.natAbs / Nat.gcd p.natAbs q.natAbs : Nat) : Int) ((q.natAbs / Nat.gcd p.natAbs q.natAbs : Nat) : Int) (decide (r < 0) != decide (s < 0)) ((r.natAbs / Nat.gcd r.natAbs s.natAbs : Nat) : Int) ((s.natAbs / Nat.gcd r.natAbs s.natAbs : Nat) : Int) =
      if decide (q < 0) ≠ decide (s < 0) then -(cmpZ (p * s) (r * q)) else cmpZ (p * s) (r * q) := by
  have g1 : 0 < Nat.gcd p.natAbs q.natAbs := Nat.gcd_pos_of_pos_right _ (by omega)
  have g2 : 0 < Nat.gcd r.natAbs s.natAbs := Nat.gcd_pos_of_pos_right _ (by omega)
  have ep := Nat.div_mul_cancel (Nat.gcd_dvd_left p.natAbs q.natAbs)
  have eq := Nat.div_mul_cancel (Nat.gcd_dvd_right p.natAbs q.natAbs)
  have er := Nat.div_mul_cancel (Nat.gcd_dvd_left r.natAbs s.natAbs)
  have es := Nat.div_mul_cancel (Nat.gcd_dvd_right r.natAbs s.natAbs)
  have A := prod_cases p s
  have B := prod_cases r q
  generalize p.natAbs / Nat.gcd p.natAbs q.natAbs = n at *
  generalize q.natAbs / Nat.gcd p.natAbs q.natAbs = d at *
  generalize r.natAbs / Nat.gcd r.natAbs s.natAbs = m at *
  generalize s.natAbs / Nat.gcd r.natAbs s.natAbs = k at *
  generalize Nat.gcd p.natAbs q.natAbs = f at *
  generalize Nat.gcd r.natAbs s.natAbs = g at *
  have hG : 0 < f * g := Nat.mul_pos g1 g2
  have hk : 0 < k := by rcases Nat.eq_zero_or_pos k with h | h; · subst h; omega
                        · exact h
  have hd : 0 < d := by rcases Nat.eq_zero_or_pos d with h | h; · subst h; omega
                        · exact h
  have X : p.natAbs * s.natAbs = (n * k) * (f * g) := by rw [← ep, ← es]; simp only [Nat.mul_assoc, Nat.mul_left_comm]
  have Y : r.natAbs * q.natAbs = (m * d) * (f * g) := by rw [← er, ← eq]; simp only [Nat.mul_assoc, Nat.mul_left_comm, Nat.mul_comm g f]
  have hx : 0 < n ↔ 0 < p.natAbs * s.natAbs := by
    rw [X]
    constructor
    · intro h; exact Nat.mul_pos (Nat.mul_pos h hk) hG
    · intro h; rcases Nat.eq_zero_or_pos n with h0 | h0
      · subst h0; simp at h
      · exact h0
  have hy : 0 < m ↔ 0 < r.natAbs * q.natAbs := by
    rw [Y]
    constructor
    · intro h; exact Nat.mul_pos (Nat.mul_pos h hd) hG
    · intro h; rcases Nat.eq_zero_or_pos m with h0 | h0
      · subst h0; simp at h
      · exact h0
  have hl : m * d < n * k ↔ r.natAbs * q.natAbs < p.natAbs * s.natAbs := by rw [X, Y]; exact (Nat.mul_lt_mul_right hG).symm
  have he : n * k = m * d ↔ p.natAbs * s.natAbs = r.natAbs * q.natAbs := by rw [X, Y]; exact (Nat.mul_left_inj (by omega)).symm
  have i1 : (n : Int) * k = ((n * k : Nat) : Int) := (Int.natCast_mul _ _).symm
  have i2 : (m : Int) * d = ((m * d : Nat) : Int) := (Int.natCast_mul _ _).symm
  unfold wayOf cmpZ
  rw [i1, i2]
  clear X Y i1 i2 ep eq er es
  generalize p * s = P at *
  generalize r * q = R at *
  generalize p.natAbs * s.natAbs = a at *
  generalize r.natAbs * q.natAbs = b at *
  generalize n * k = x at *
  generalize m * d = y at *
  by_cases h1 : p < 0 <;> by_cases h2 : q < 0 <;> by_cases h3 : r < 0 <;> by_cases h4 : s < 0 <;> simp only [h1, h2, h3, h4, decide_true, decide_false, ne_eq, not_true_eq_false, not_false_eq_true, if_true, if_false, reduceCtorEq, bne_self_eq_false, Bool.false_and, Bool.true_and, Bool.not_false, Bool.not_true, Bool.and_true, Bool.and_false, Bool.true_bne, Bool.false_bne, Bool.bne_true, Bool.bne_false, Bool.not_eq_true', decide_eq_true_eq, decide_eq_false_iff_not] at A B ⊢ <;> (repeat' split) <;> first | omega | (simp at *; omega) | (simp_all; omega) | simp_all
end Go.Proofs.Ytpdeihienkbeeaa

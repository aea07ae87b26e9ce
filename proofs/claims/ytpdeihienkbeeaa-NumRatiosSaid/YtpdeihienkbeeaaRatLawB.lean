/-
  Ratios in form, their product, their sum: the plain laws. No condition.
-/
import Derived.Test.YtpdeihienkbeeaaNumE
namespace Go.Proofs.Ytpdeihienkbeeaa

/-- A ratio of sizes in form: its numerator, denominator, and whether it is one. -/
def formN (neg : Bool) (n d : Nat) : Int := if fits (sgn neg (n / Nat.gcd n d)) = true ∧ d / Nat.gcd n d < 9223372036854775808 then sgn neg (n / Nat.gcd n d) else 0
def formD (neg : Bool) (n d : Nat) : Int := if fits (sgn neg (n / Nat.gcd n d)) = true ∧ d / Nat.gcd n d < 9223372036854775808 then ((d / Nat.gcd n d : Nat) : Int) else 0
def formB (neg : Bool) (n d : Nat) : Bool := fits (sgn neg (n / Nat.gcd n d)) && decide (d / Nat.gcd n d < 9223372036854775808)
/-- The answer of a ratio that is in form. -/
def formV (neg : Bool) (n d : Nat) : Go.Value := .tuple #[.agg #[.int .i64 (formN neg n d), .int .i64 (formD neg n d)], .bool (formB neg n d)]
/-- A ratio of numbers in form. -/
def ratV (n d : Int) : Go.Value := if d = 0 then .tuple #[.agg #[.int .i64 0, .int .i64 0], .bool false] else formV (decide (n < 0) != decide (d < 0)) n.natAbs d.natAbs

theorem same_ratio (n d n' d' : Nat) (h : n * d' = n' * d) (hd : 0 < d) (hd' : 0 < d') : n / Nat.gcd n d = n' / Nat.gcd n' d' ∧ d / Nat.gcd n d = d' / Nat.gcd n' d' := by
  have g1 : 0 < Nat.gcd n d := Nat.gcd_pos_of_pos_right _ hd
  have g2 : 0 < Nat.gcd n' d' := Nat.gcd_pos_of_pos_right _ hd'
  have c1 := Nat.coprime_div_gcd_div_gcd g1
  have c2 := Nat.coprime_div_gcd_div_gcd g2
  have e1 := Nat.div_mul_cancel (Nat.gcd_dvd_left n d)
  have e2 := Nat.div_mul_cancel (Nat.gcd_dvd_right n d)
  have e3 := Nat.div_mul_cancel (Nat.gcd_dvd_left n' d')
  have e4 := Nat.div_mul_cancel (Nat.gcd_dvd_right n' d')
  generalize n / Nat.gcd n d = a at *
  generalize d / Nat.gcd n d = b at *
  generalize n' / Nat.gcd n' d' = a' at *
  generalize d' / Nat.gcd n' d' = b' at *
  generalize Nat.gcd n d = g at *
  generalize Nat.gcd n' d' = g' at *
  have hb : 0 < b := by rcases Nat.eq_zero_or_pos b with h | h; · subst h; omega
                        · exact h
  have hG : 0 < g * g' := Nat.mul_pos g1 g2
  have hx : a * b' = a' * b := by
    have : (a * b') * (g * g') = (a' * b) * (g * g') := by
      rw [← e1, ← e2, ← e3, ← e4] at h
      calc (a * b') * (g * g') = a * g * (b' * g') := by simp only [Nat.mul_assoc, Nat.mul_left_comm]
        _ = a' * g' * (b * g) := h
        _ = (a' * b) * (g * g') := by simp only [Nat.mul_assoc, Nat.mul_left_comm, Nat.mul_comm g' g]
    exact Nat.eq_of_mul_eq_mul_right hG this
  have d1 : b ∣ b' := c1.symm.dvd_of_dvd_mul_left (by rw [hx]; exact Nat.dvd_mul_left _ _)
  have d2 : b' ∣ b := c2.symm.dvd_of_dvd_mul_left (by rw [← hx]; exact Nat.dvd_mul_left _ _)
  have hbb : b = b' := Nat.dvd_antisymm d1 d2
  subst hbb
  exact ⟨Nat.eq_of_mul_eq_mul_right hb hx, rfl⟩
theorem formV_same (neg : Bool) (n d n' d' : Nat) (h : n * d' = n' * d) (hd : 0 < d) (hd' : 0 < d') : formV neg n d = formV neg n' d' := by
  obtain ⟨h1, h2⟩ := same_ratio n d n' d' h hd hd'
  unfold formV formN formD formB
  rw [h1, h2]
theorem formV_zero (neg neg' : Bool) (d d' : Nat) (hd : 0 < d) (hd' : 0 < d') : formV neg 0 d = formV neg' 0 d' := by
  rw [formV_same neg 0 d 0 d' (by omega) hd hd']
  unfold formV formN formD formB
  have : ∀ b, sgn b (0 / Nat.gcd 0 d') = 0 := by intro b; unfold sgn; simp
  rw [this, this]
theorem formV_neg (neg neg' : Bool) (n d : Nat) (hd : 0 < d) (h : 0 < n → neg = neg') : formV neg n d = formV neg' n d := by
  rcases Nat.eq_zero_or_pos n with h0 | h0
  · subst h0; exact formV_zero _ _ _ _ hd hd
  · rw [h h0]
def noV : Go.Value := .tuple #[.agg #[.int .i64 0, .int .i64 0], .bool false]
theorem formV_no (neg : Bool) (n d : Nat) (hc : Nat.Coprime n d) (h : 18446744073709551616 ≤ n ∨ 18446744073709551616 ≤ d) : formV neg n d = noV := by
  unfold Nat.Coprime at hc
  unfold formV formN formD formB noV
  rw [hc, Nat.div_one, Nat.div_one]
  have hno : ¬ (fits (sgn neg n) = true ∧ d < 9223372036854775808) := by
    rintro ⟨h1, h2⟩
    have : n < 18446744073709551616 := by
      unfold fits sgn at h1
      simp at h1
      split at h1 <;> omega
    omega
  rw [if_neg hno, if_neg hno]
  have hb : (fits (sgn neg n) && decide (d < 9223372036854775808)) = false := by
    rcases Bool.eq_false_or_eq_true (fits (sgn neg n) && decide (d < 9223372036854775808)) with h | h
    · exfalso
      simp at h
      exact hno h
    · exact h
  rw [hb]
theorem mulN_pos {a b : Nat} (h : 0 < a * b) : 0 < a ∧ 0 < b := by
  constructor
  · rcases Nat.eq_zero_or_pos a with h0 | h0
    · subst h0; simp at h
    · exact h0
  · rcases Nat.eq_zero_or_pos b with h0 | h0
    · subst h0; simp at h
    · exact h0
/-- A number over another one, both parted by what divides both. -/
structure Red (p q : Int) (n d : Nat) : Prop where
  f : ∃ g, 0 < g ∧ p.natAbs = n * g ∧ q.natAbs = d * g
  co : Nat.Coprime n d
  pos : 0 < d
theorem red_of (p q : Int) (h : q ≠ 0) : Red p q (p.natAbs / Nat.gcd p.natAbs q.natAbs) (q.natAbs / Nat.gcd p.natAbs q.natAbs) := by
  have g1 : 0 < Nat.gcd p.natAbs q.natAbs := Nat.gcd_pos_of_pos_right _ (by omega)
  have e1 := Nat.div_mul_cancel (Nat.gcd_dvd_left p.natAbs q.natAbs)
  have e2 := Nat.div_mul_cancel (Nat.gcd_dvd_right p.natAbs q.natAbs)
  refine ⟨⟨_, g1, e1.symm, e2.symm⟩, Nat.coprime_div_gcd_div_gcd g1, ?_⟩
  rcases Nat.eq_zero_or_pos (q.natAbs / Nat.gcd p.natAbs q.natAbs) with h0 | h0
  · rw [h0] at e2; omega
  · exact h0
theorem sign_prod {a b : Int} (h : 0 < (a * b).natAbs) : decide (a * b < 0) = (decide (a < 0) != decide (b < 0)) := by
  rcases Int.lt_trichotomy a 0 with h1 | h1 | h1 <;> rcases Int.lt_trichotomy b 0 with h2 | h2 | h2
  · have := Int.mul_pos_of_neg_of_neg h1 h2
    simp [h1, h2]; omega
  · subst h2; simp at h
  · have := Int.mul_neg_of_neg_of_pos h1 h2
    have h3 : ¬ b < 0 := by omega
    simp [h1, h3, this]
  · subst h1; simp at h
  · subst h1; simp at h
  · subst h1; simp at h
  · have := Int.mul_neg_of_pos_of_neg h1 h2
    have h3 : ¬ a < 0 := by omega
    simp [h2, h3, this]
  · subst h2; simp at h
  · have := Int.mul_pos h1 h2
    have h3 : ¬ a < 0 := by omega
    have h4 : ¬ b < 0 := by omega
    simp [h3, h4]; omega
/-- A product: what divides a numerator and the other's denominator is parted first. -/
theorem mul_law (p q r s : Int) (n d m e : Nat) (h1 : Red p q n d) (h2 : Red r s m e) :
    ratV (p * r) (q * s) = formV ((decide (p < 0) != decide (q < 0)) != (decide (r < 0) != decide (s < 0)) && decide (0 < n / Nat.gcd n e * (m / Nat.gcd m d))) (n / Nat.gcd n e * (m / Nat.gcd m d)) (d / Nat.gcd m d * (e / Nat.gcd n e)) ∧
    Nat.Coprime (n / Nat.gcd n e * (m / Nat.gcd m d)) (d / Nat.gcd m d * (e / Nat.gcd n e)) ∧ 0 < d / Nat.gcd m d * (e / Nat.gcd n e) := by
  obtain ⟨⟨f, hf, ep, eq⟩, c1, pd⟩ := h1
  obtain ⟨⟨f', hf', er, es⟩, c2, pe⟩ := h2
  have g1 : 0 < Nat.gcd n e := Nat.gcd_pos_of_pos_right _ pe
  have g2 : 0 < Nat.gcd m d := Nat.gcd_pos_of_pos_right _ pd
  have k1 := Nat.coprime_div_gcd_div_gcd g1
  have k2 := Nat.coprime_div_gcd_div_gcd g2
  have en := Nat.div_mul_cancel (Nat.gcd_dvd_left n e)
  have ee := Nat.div_mul_cancel (Nat.gcd_dvd_right n e)
  have em := Nat.div_mul_cancel (Nat.gcd_dvd_left m d)
  have ed := Nat.div_mul_cancel (Nat.gcd_dvd_right m d)
  have k3 : Nat.Coprime (n / Nat.gcd n e) (d / Nat.gcd m d) := (c1.coprime_dvd_left ⟨_, en.symm⟩).coprime_dvd_right ⟨_, ed.symm⟩
  have k4 : Nat.Coprime (m / Nat.gcd m d) (e / Nat.gcd n e) := (c2.coprime_dvd_left ⟨_, em.symm⟩).coprime_dvd_right ⟨_, ee.symm⟩
  generalize n / Nat.gcd n e = n' at *
  generalize e / Nat.gcd n e = e' at *
  generalize m / Nat.gcd m d = m' at *
  generalize d / Nat.gcd m d = d' at *
  generalize Nat.gcd n e = g at *
  generalize Nat.gcd m d = h at *
  have hco : Nat.Coprime (n' * m') (d' * e') := (k3.mul_right k1).mul_left (k2.mul_right k4)
  have pd' : 0 < d' := by rcases Nat.eq_zero_or_pos d' with h0 | h0; · subst h0; omega
                          · exact h0
  have pe' : 0 < e' := by rcases Nat.eq_zero_or_pos e' with h0 | h0; · subst h0; omega
                          · exact h0
  have hpos : 0 < d' * e' := Nat.mul_pos pd' pe'
  refine ⟨?_, hco, hpos⟩
  have hqs : q * s ≠ 0 := by
    intro h0
    have : (q * s).natAbs = 0 := by rw [h0]; rfl
    rw [Int.natAbs_mul, eq, es] at this
    have := Nat.mul_pos (Nat.mul_pos pd hf) (Nat.mul_pos pe hf')
    omega
  unfold ratV
  rw [if_neg hqs]
  have hX : (p * r).natAbs = n' * m' * (g * h * f * f') := by rw [Int.natAbs_mul, ep, er, ← en, ← em]; simp only [Nat.mul_assoc, Nat.mul_left_comm, Nat.mul_comm]
  have hY : (q * s).natAbs = d' * e' * (g * h * f * f') := by rw [Int.natAbs_mul, eq, es, ← ed, ← ee]; simp only [Nat.mul_assoc, Nat.mul_left_comm, Nat.mul_comm]
  have hYp : 0 < (q * s).natAbs := by omega
  rw [formV_same _ _ _ (n' * m') (d' * e') (by rw [hX, hY]; simp only [Nat.mul_assoc, Nat.mul_left_comm, Nat.mul_comm]) hYp hpos]
  refine formV_neg _ _ _ _ hpos fun hn => ?_
  have hXp : 0 < (p * r).natAbs := by
    rw [hX]
    have := (mulN_pos (show 0 < d' * e' * (g * h * f * f') by omega)).2
    exact Nat.mul_pos hn this
  rw [sign_prod hXp, sign_prod hYp, decide_eq_true hn]
  cases decide (p < 0) <;> cases decide (q < 0) <;> cases decide (r < 0) <;> cases decide (s < 0) <;> rfl

theorem sgn_mul (b : Bool) (n k : Nat) : sgn b (n * k) = sgn b n * (k : Int) := by unfold sgn; cases b <;> simp [Int.neg_mul]
theorem int_sgn (p : Int) (n : Nat) (h : p.natAbs = n) : p = sgn (decide (p < 0)) n := by unfold sgn; by_cases h0 : p < 0 <;> simp [h0] <;> omega
theorem sgn_sgn (a b : Bool) (n m : Nat) : sgn a n * sgn b m = sgn (a != b) (n * m) := by unfold sgn; cases a <;> cases b <;> simp [Int.neg_mul, Int.mul_neg]
theorem natAbs_sgn' (b : Bool) (n : Nat) : (sgn b n).natAbs = n := by unfold sgn; cases b <;> simp
/-- A sum: over the least number that both divide; what divides both divides what divides the denominators. -/
theorem add_law (p q r s : Int) (n d m e : Nat) (W : Nat) (neg : Bool) (h1 : Red p q n d) (h2 : Red r s m e)
    (hW : sgn neg W = sgn (decide (p < 0) != decide (q < 0)) (n * (e / Nat.gcd d e)) + sgn (decide (r < 0) != decide (s < 0)) (m * (d / Nat.gcd d e))) :
    (W = 0 → ratV (p * s + r * q) (q * s) = .tuple #[.agg #[.int .i64 0, .int .i64 1], .bool true]) ∧
    (0 < W → ratV (p * s + r * q) (q * s) = formV neg (W / Nat.gcd (W % Nat.gcd d e) (Nat.gcd d e)) (d / Nat.gcd d e * (e / Nat.gcd (W % Nat.gcd d e) (Nat.gcd d e))) ∧
      Nat.Coprime (W / Nat.gcd (W % Nat.gcd d e) (Nat.gcd d e)) (d / Nat.gcd d e * (e / Nat.gcd (W % Nat.gcd d e) (Nat.gcd d e)))) ∧
    0 < Nat.gcd (W % Nat.gcd d e) (Nat.gcd d e) ∧ 0 < d / Nat.gcd d e * (e / Nat.gcd (W % Nat.gcd d e) (Nat.gcd d e)) := by
  obtain ⟨⟨f, hf, ep, eq⟩, c1, pd⟩ := h1
  obtain ⟨⟨f', hf', er, es⟩, c2, pe⟩ := h2
  have g1 : 0 < Nat.gcd d e := Nat.gcd_pos_of_pos_right _ pe
  have k1 := Nat.coprime_div_gcd_div_gcd g1
  have ed := Nat.div_mul_cancel (Nat.gcd_dvd_left d e)
  have ee := Nat.div_mul_cancel (Nat.gcd_dvd_right d e)
  have hge : Nat.gcd d e ∣ e := Nat.gcd_dvd_right d e
  generalize d / Nat.gcd d e = d' at *
  generalize e / Nat.gcd d e = e' at *
  generalize hg : Nat.gcd d e = g at *
  have hrg : Nat.gcd (W % g) g = Nat.gcd W g := by rw [← Nat.gcd_rec, Nat.gcd_comm]
  rw [hrg]
  have r1 : 0 < Nat.gcd W g := Nat.gcd_pos_of_pos_right _ g1
  have rW := Nat.div_mul_cancel (Nat.gcd_dvd_left W g)
  have rg := Nat.div_mul_cancel (Nat.gcd_dvd_right W g)
  have k2 := Nat.coprime_div_gcd_div_gcd r1
  have re : e / Nat.gcd W g = e' * (g / Nat.gcd W g) := by
    rw [← ee]
    exact Nat.mul_div_assoc _ (Nat.gcd_dvd_right W g)
  rw [re]
  generalize W / Nat.gcd W g = w' at *
  generalize g / Nat.gcd W g = g' at *
  generalize Nat.gcd W g = ρ at *
  have pd' : 0 < d' := by rcases Nat.eq_zero_or_pos d' with h0 | h0; · subst h0; omega
                          · exact h0
  have pe' : 0 < e' := by rcases Nat.eq_zero_or_pos e' with h0 | h0; · subst h0; omega
                          · exact h0
  have pg' : 0 < g' := by rcases Nat.eq_zero_or_pos g' with h0 | h0; · subst h0; omega
                          · exact h0
  have hpos : 0 < d' * (e' * g') := Nat.mul_pos pd' (Nat.mul_pos pe' pg')
  have hq0 : 0 < q.natAbs := by rw [eq]; exact Nat.mul_pos pd hf
  have hs0 : 0 < s.natAbs := by rw [es]; exact Nat.mul_pos pe hf'
  have hqs : q * s ≠ 0 := Int.mul_ne_zero (by omega) (by omega)
  -- the sum, in terms of W
  have hsum : p * s + r * q = sgn (neg != (decide (q < 0) != decide (s < 0))) (W * (g * f * f')) := by
    have ip := int_sgn p _ ep
    have iq := int_sgn q _ eq
    have ir := int_sgn r _ er
    have is_ := int_sgn s _ es
    have x1 : p * s = sgn (decide (p < 0) != decide (s < 0)) (n * f * (e * f')) := by rw [← sgn_sgn, ← ip, ← is_]
    have x2 : r * q = sgn (decide (r < 0) != decide (q < 0)) (m * f' * (d * f)) := by rw [← sgn_sgn, ← ir, ← iq]
    have y1 : n * f * (e * f') = n * e' * (g * f * f') := by rw [← ee]; simp only [Nat.mul_assoc, Nat.mul_left_comm]
    have y2 : m * f' * (d * f) = m * d' * (g * f * f') := by rw [← ed]; simp only [Nat.mul_assoc, Nat.mul_left_comm, Nat.mul_comm]
    have z : ∀ a b : Bool, ∀ k : Nat, sgn (a != b) k = sgn a k * sgn b 1 := by intro a b k; rw [sgn_sgn, Nat.mul_one]
    rw [x1, x2, y1, y2, z neg]
    clear x1 x2 y1 y2 ip iq ir is_
    generalize n * e' = A at *
    generalize m * d' = B at *
    generalize g * f * f' = C at *
    rw [sgn_mul _ A C, sgn_mul _ B C, sgn_mul _ W C, hW]
    clear hW z
    generalize (C : Int) = C'
    generalize (A : Nat) = A
    cases decide (p < 0) <;> cases decide (q < 0) <;> cases decide (r < 0) <;> cases decide (s < 0) <;> simp [sgn, Int.add_mul, Int.neg_mul, Int.mul_neg, Int.neg_add]
  have hC : 0 < g * f * f' := Nat.mul_pos (Nat.mul_pos g1 hf) hf'
  have hX : (p * s + r * q).natAbs = W * (g * f * f') := by rw [hsum, natAbs_sgn']
  have hY : (q * s).natAbs = d' * e' * (g * g * f * f') := by rw [Int.natAbs_mul, eq, es, ← ed, ← ee]; simp only [Nat.mul_assoc, Nat.mul_left_comm, Nat.mul_comm]
  have hYp : 0 < (q * s).natAbs := by rw [Int.natAbs_mul]; exact Nat.mul_pos hq0 hs0
  refine ⟨fun h0 => ?_, fun h0 => ⟨?_, ?_⟩, r1, hpos⟩
  · unfold ratV
    rw [if_neg hqs]
    rw [hX, h0, Nat.zero_mul, formV_zero _ false _ 1 hYp (by omega)]
    rfl
  · unfold ratV
    rw [if_neg hqs, formV_same _ _ _ w' (d' * (e' * g')) (by rw [hX, hY, ← rW, ← rg]; simp only [Nat.mul_assoc, Nat.mul_left_comm, Nat.mul_comm]) hYp hpos]
    refine formV_neg _ _ _ _ hpos fun hn => ?_
    have hXp : 0 < (p * s + r * q).natAbs := by rw [hX]; exact Nat.mul_pos h0 hC
    have hsx : decide (p * s + r * q < 0) = (neg != (decide (q < 0) != decide (s < 0))) := by
      rw [hsum]
      have := Nat.mul_pos h0 hC
      generalize W * (g * f * f') = K at *
      generalize (neg != (decide (q < 0) != decide (s < 0))) = b
      cases b <;> simp [sgn] <;> omega
    rw [hsx, sign_prod hYp]
    cases neg <;> cases decide (q < 0) <;> cases decide (s < 0) <;> rfl
  · -- nothing divides both
    have hWn : W = n * e' + m * d' ∨ W + m * d' = n * e' ∨ W + n * e' = m * d' := by
      unfold sgn at hW
      generalize n * e' = A at *
      generalize m * d' = B at *
      split at hW <;> split at hW <;> split at hW <;> omega
    have cd : Nat.Coprime W d' := by
      have hx : Nat.Coprime (n * e') d' := (c1.coprime_dvd_right ⟨g, by rw [← ed]⟩).mul_left k1.symm
      rw [Nat.coprime_iff_gcd_eq_one] at hx ⊢
      have hdv : Nat.gcd W d' ∣ Nat.gcd (n * e') d' := by
        have hd1 := Nat.gcd_dvd_left W d'
        have hd2 := Nat.gcd_dvd_right W d'
        refine Nat.dvd_gcd ?_ hd2
        have hd3 : Nat.gcd W d' ∣ m * d' := Nat.dvd_mul_left_of_dvd hd2 _
        rcases hWn with h | h | h
        · exact (Nat.dvd_add_left hd3).1 (h ▸ hd1)
        · rw [← h]; exact Nat.dvd_add hd1 hd3
        · rw [← h] at hd3; exact (Nat.dvd_add_right hd1).1 hd3
      rw [hx] at hdv
      exact Nat.dvd_one.1 hdv
    have ce : Nat.Coprime W e' := by
      have hx : Nat.Coprime (m * d') e' := (c2.coprime_dvd_right ⟨g, by rw [← ee]⟩).mul_left k1
      rw [Nat.coprime_iff_gcd_eq_one] at hx ⊢
      have hdv : Nat.gcd W e' ∣ Nat.gcd (m * d') e' := by
        have hd1 := Nat.gcd_dvd_left W e'
        have hd2 := Nat.gcd_dvd_right W e'
        refine Nat.dvd_gcd ?_ hd2
        have hd3 : Nat.gcd W e' ∣ n * e' := Nat.dvd_mul_left_of_dvd hd2 _
        rcases hWn with h | h | h
        · exact (Nat.dvd_add_right hd3).1 (h ▸ hd1)
        · rw [← h] at hd3; exact (Nat.dvd_add_right hd1).1 hd3
        · rw [← h]; exact Nat.dvd_add hd1 hd3
      rw [hx] at hdv
      exact Nat.dvd_one.1 hdv
    have dw : w' ∣ W := ⟨ρ, rW.symm⟩
    exact (cd.coprime_dvd_left dw).mul_right ((ce.coprime_dvd_left dw).mul_right k2)
end Go.Proofs.Ytpdeihienkbeeaa

/-
  Parts of a total by weights: together they are the total, a greater weight has no smaller part, a weight of nought has nothing. The plain law.
-/
import Derived.Test.YtpdeihienkbeeaaShareA
namespace Go.Proofs.Ytpdeihienkbeeaa

/-- What is known while what is left goes out. -/
def GiveInv (q : List Int) (r : List Nat) (p : List Int) (z : List Nat) : Prop :=
  (∀ j, j < r.length → (z.getD j 0 = r.getD j 0 ∧ p.getD j 0 = q.getD j 0) ∨ (z.getD j 0 = 0 ∧ 0 < r.getD j 0 ∧ p.getD j 0 = q.getD j 0 + 1)) ∧
  ∀ i k, i < r.length → k < r.length → r.getD k 0 < r.getD i 0 → z.getD k 0 = 0 → 0 < r.getD k 0 → z.getD i 0 = 0
theorem getD_setOff {α : Type} (l : List α) (i j : Nat) (a d : α) (h : i ≠ j) : (l.set i a).getD j d = l.getD j d := by
  rw [List.getD_eq_getElem?_getD, List.getElem?_set_ne h, ← List.getD_eq_getElem?_getD]
theorem getD_setAt {α : Type} (l : List α) (i : Nat) (a d : α) (h : i < l.length) : (l.set i a).getD i d = a := by
  rw [List.getD_eq_getElem?_getD, List.getElem?_set_self h]; rfl
theorem give_inv (q : List Int) (r : List Nat) (hq : q.length = r.length) (h0 : 0 < r.length) : ∀ m, m ≤ nz r → GiveInv q r (giveTo q r m).1 (giveTo q r m).2
  | 0, _ => ⟨fun j _ => .inl ⟨rfl, rfl⟩, fun i k _ _ h1 h2 h3 => by
      have e : (giveTo q r 0).2 = r := rfl
      rw [e] at h2
      omega⟩
  | m + 1, h => by
    obtain ⟨i1, i2⟩ := give_inv q r hq h0 m (by omega)
    have hn := giveTo_nz q r m (by omega)
    have hl := giveTo_len2 q r m
    have hl1 := giveTo_len1 q r m
    have hb := nz_best (giveTo q r m).2 (by omega)
    have hmx := bestTo_max (giveTo q r m).2 r.length
    have hbl := bestTo_lt (giveTo q r m).2 r.length h0
    rw [hl] at hb
    unfold giveTo
    generalize (giveTo q r m).2 = z at *
    generalize (giveTo q r m).1 = p at *
    generalize bestTo z r.length = b at *
    dsimp only
    have hzb : z.getD b 0 = r.getD b 0 ∧ p.getD b 0 = q.getD b 0 := by
      rcases i1 b hbl with h | ⟨h, _⟩
      · exact h
      · omega
    refine ⟨fun j hj => ?_, fun i k hi hk h1 h2 h3 => ?_⟩
    · by_cases hjb : b = j
      · subst hjb
        rw [getD_setAt _ _ _ _ (by omega), getD_setAt _ _ _ _ (by omega)]
        exact .inr ⟨rfl, by omega, by omega⟩
      · rw [getD_setOff _ _ _ _ _ hjb, getD_setOff _ _ _ _ _ hjb]
        exact i1 j hj
    · by_cases hib : b = i
      · subst hib
        rw [getD_setAt _ _ _ _ (by omega)]
      · rw [getD_setOff _ _ _ _ _ hib]
        by_cases hkb : b = k
        · subst hkb
          have := hmx i hi
          rcases i1 i hi with ⟨h4, _⟩ | ⟨h4, _⟩
          · omega
          · exact h4
        · rw [getD_setOff _ _ _ _ _ hkb] at h2
          exact i2 i k hi hk h1 h2 h3
theorem share_sum {t : Int} {l : List Int} (h : shareOk t l) (h0 : 0 < l.length) : (shareOf t l).sum = t := by
  have h1 := share_left h
  have h2 := giveTo_sum (qsOf t l) (rsOf t l) (by unfold qsOf rsOf; simp) (by unfold rsOf; simpa using h0) (leftOf t l)
  unfold shareOf
  rw [h2]
  unfold leftOf
  omega
theorem share_len (t : Int) (l : List Int) : (shareOf t l).length = l.length := by unfold shareOf; rw [giveTo_len1]; unfold qsOf; simp
theorem share_nonneg {t : Int} {l : List Int} (h0 : 0 < l.length) : ∀ x ∈ shareOf t l, 0 ≤ x :=
  giveTo_nonneg (qsOf t l) (rsOf t l) (by unfold qsOf rsOf; simp) (by unfold rsOf; simpa using h0) (qs_nonneg t l) _
theorem qs_getD (t : Int) (l : List Int) (j : Nat) (h : j < l.length) : (qsOf t l).getD j 0 = qOf t l.sum (l.getD j 0) := by
  unfold qsOf
  rw [List.getD_eq_getElem?_getD, List.getD_eq_getElem?_getD, List.getElem?_map, List.getElem?_eq_getElem h]; rfl
theorem rs_getD (t : Int) (l : List Int) (j : Nat) (h : j < l.length) : (rsOf t l).getD j 0 = rOf t l.sum (l.getD j 0) := by
  unfold rsOf
  rw [List.getD_eq_getElem?_getD, List.getD_eq_getElem?_getD, List.getElem?_map, List.getElem?_eq_getElem h]; rfl
theorem share_inv {t : Int} {l : List Int} (h : shareOk t l) (h0 : 0 < l.length) : ∃ z, GiveInv (qsOf t l) (rsOf t l) (shareOf t l) z :=
  ⟨_, give_inv _ _ (by unfold qsOf rsOf; simp) (by unfold rsOf; simpa using h0) _ (share_left h).2⟩
theorem share_zero {t : Int} {l : List Int} (h : shareOk t l) (j : Nat) (hj : j < l.length) (hw : l.getD j 0 = 0) : (shareOf t l).getD j 0 = 0 := by
  obtain ⟨z, i1, -⟩ := share_inv h (by omega)
  have hlr : (rsOf t l).length = l.length := by unfold rsOf; simp
  have := i1 j (by omega)
  rw [qs_getD t l j hj, rs_getD t l j hj, hw] at this
  have e1 : qOf t l.sum 0 = 0 := by unfold qOf; simp
  have e2 : rOf t l.sum 0 = 0 := by unfold rOf; simp
  rw [e1, e2] at this
  omega
theorem div_le_mod {a b d : Nat} (h : a ≤ b) : a / d < b / d ∨ (a / d = b / d ∧ a % d + (b - a) = b % d) := by
  have h1 : a / d ≤ b / d := Nat.div_le_div_right h
  rcases Nat.lt_or_ge (a / d) (b / d) with h2 | h2
  · exact .inl h2
  · have e : a / d = b / d := by omega
    refine .inr ⟨e, ?_⟩
    have h3 := Nat.div_add_mod a d
    have h4 := Nat.div_add_mod b d
    rw [e] at h3
    omega
theorem share_order {t : Int} {l : List Int} (h : shareOk t l) (i k : Nat) (hi : i < l.length) (hk : k < l.length) (hw : l.getD k 0 < l.getD i 0) : (shareOf t l).getD k 0 ≤ (shareOf t l).getD i 0 := by
  obtain ⟨z, i1, i2⟩ := share_inv h (by omega)
  have hlr : (rsOf t l).length = l.length := by unfold rsOf; simp
  have a1 := i1 i (by omega)
  have a2 := i1 k (by omega)
  have a3 := i2 i k (by omega) (by omega)
  have hk0 : 0 ≤ l.getD k 0 := h.2.2.2.2 _ (getD_mem hk)
  rw [qs_getD t l i hi, rs_getD t l i hi] at a1
  rw [qs_getD t l k hk, rs_getD t l k hk] at a2
  rw [rs_getD t l i hi, rs_getD t l k hk] at a3
  generalize l.getD i 0 = wi at *
  generalize l.getD k 0 = wk at *
  unfold qOf rOf at *
  have hm : t.natAbs * wk.natAbs ≤ t.natAbs * wi.natAbs := Nat.mul_le_mul_left _ (by omega)
  rcases Nat.eq_zero_or_pos t.natAbs with ht | ht
  · rw [ht] at a1 a2
    simp only [Nat.zero_mul, Nat.zero_div, Nat.zero_mod] at a1 a2
    omega
  · have hm2 : t.natAbs * wk.natAbs < t.natAbs * wi.natAbs := Nat.mul_lt_mul_of_pos_left (by omega) ht
    have hd := div_le_mod (d := l.sum.natAbs) hm
    generalize t.natAbs * wk.natAbs = x at *
    generalize t.natAbs * wi.natAbs = y at *
    rcases hd with hd | ⟨hd, hr⟩
    · generalize x / l.sum.natAbs = qx at *
      generalize y / l.sum.natAbs = qy at *
      omega
    · rw [hd] at a2
      generalize y / l.sum.natAbs = qy at *
      generalize x % l.sum.natAbs = rx at *
      generalize y % l.sum.natAbs = ry at *
      have a4 := a3 (by omega)
      rcases a2 with ⟨_, a2⟩ | ⟨a5, a6, a2⟩
      · omega
      · have := a4 a5 a6
        omega
end Go.Proofs.Ytpdeihienkbeeaa

/-
  Parts of a total by weights: the plain law. No condition.
-/
import Derived.Test.YtpdeihienkbeeaaFits
namespace Go.Proofs.Ytpdeihienkbeeaa

/-- The first greatest among the first k. -/
def bestTo (z : List Nat) : Nat → Nat
  | 0 => 0
  | k + 1 => if z.getD (bestTo z k) 0 < z.getD k 0 then k else bestTo z k
theorem bestTo_lt (z : List Nat) : ∀ k, 0 < k → bestTo z k < k
  | 0, h => absurd h (by omega)
  | 1, _ => by unfold bestTo; split <;> simp [bestTo]
  | k + 2, _ => by
    unfold bestTo
    split
    · omega
    · have := bestTo_lt z (k + 1) (by omega)
      omega
theorem bestTo_max (z : List Nat) : ∀ k j, j < k → z.getD j 0 ≤ z.getD (bestTo z k) 0
  | 0, j, h => absurd h (by omega)
  | k + 1, j, h => by
    unfold bestTo
    split
    · rename_i hlt
      rcases Nat.lt_or_ge j k with hj | hj
      · exact Nat.le_of_lt (Nat.lt_of_le_of_lt (bestTo_max z k j hj) hlt)
      · obtain rfl : j = k := by omega
        exact Nat.le_refl _
    · rename_i hge
      rcases Nat.lt_or_ge j k with hj | hj
      · exact bestTo_max z k j hj
      · obtain rfl : j = k := by omega
        omega
theorem bestTo_first (z : List Nat) : ∀ k j, j < bestTo z k → z.getD j 0 < z.getD (bestTo z k) 0
  | 0, j, h => absurd h (by simp [bestTo])
  | k + 1, j, h => by
    unfold bestTo at h ⊢
    split
    · rename_i hlt
      rw [if_pos hlt] at h
      exact Nat.lt_of_le_of_lt (bestTo_max z k j h) hlt
    · rename_i hge
      rw [if_neg hge] at h
      exact bestTo_first z k j h
/-- What is left goes out, one by one. -/
def giveTo (p : List Int) (z : List Nat) : Nat → List Int × List Nat
  | 0 => (p, z)
  | m + 1 => ((giveTo p z m).1.set (bestTo (giveTo p z m).2 z.length) ((giveTo p z m).1.getD (bestTo (giveTo p z m).2 z.length) 0 + 1), (giveTo p z m).2.set (bestTo (giveTo p z m).2 z.length) 0)
theorem giveTo_len1 (p : List Int) (z : List Nat) : ∀ m, (giveTo p z m).1.length = p.length
  | 0 => rfl
  | m + 1 => by unfold giveTo; rw [List.length_set, giveTo_len1 p z m]
theorem giveTo_len2 (p : List Int) (z : List Nat) : ∀ m, (giveTo p z m).2.length = z.length
  | 0 => rfl
  | m + 1 => by unfold giveTo; rw [List.length_set, giveTo_len2 p z m]
theorem sum_set (l : List Int) : ∀ (b : Nat) (d : Int), b < l.length → (l.set b (l.getD b 0 + d)).sum = l.sum + d := by
  induction l with
  | nil => intro b d h; simp at h
  | cons a t ih =>
    intro b d h
    cases b with
    | zero => simp; omega
    | succ b =>
      have := ih b d (by simpa using h)
      simp only [List.set_cons_succ, List.sum_cons, List.getD_cons_succ]
      omega
theorem giveTo_sum (p : List Int) (z : List Nat) (hp : p.length = z.length) (h0 : 0 < z.length) : ∀ m : Nat, (giveTo p z m).1.sum = p.sum + m
  | 0 => by simp [giveTo]
  | m + 1 => by
    unfold giveTo
    have hb := bestTo_lt (giveTo p z m).2 z.length h0
    dsimp only
    rw [sum_set _ _ _ (by rw [giveTo_len1]; omega), giveTo_sum p z hp h0 m]
    omega
theorem getD_mem {l : List Int} {b : Nat} (h : b < l.length) : l.getD b 0 ∈ l := by rw [List.getD_eq_getElem?_getD, List.getElem?_eq_getElem h]; exact List.getElem_mem h
theorem giveTo_nonneg (p : List Int) (z : List Nat) (hp : p.length = z.length) (h0 : 0 < z.length) (hn : ∀ x ∈ p, 0 ≤ x) : ∀ m, ∀ x ∈ (giveTo p z m).1, 0 ≤ x
  | 0, x, hx => hn x hx
  | m + 1, x, hx => by
    unfold giveTo at hx
    have ih := giveTo_nonneg p z hp h0 hn m
    have hb := bestTo_lt (giveTo p z m).2 z.length h0
    rcases List.mem_or_eq_of_mem_set hx with h | rfl
    · exact ih x h
    · have := ih _ (getD_mem (l := (giveTo p z m).1) (b := bestTo (giveTo p z m).2 z.length) (by rw [giveTo_len1]; omega))
      omega
theorem le_sum (l : List Int) (hn : ∀ x ∈ l, 0 ≤ x) : 0 ≤ l.sum ∧ ∀ x ∈ l, x ≤ l.sum := by
  induction l with
  | nil => simp
  | cons a t ih =>
    obtain ⟨h1, h2⟩ := ih fun x hx => hn x (by simp [hx])
    have h3 := hn a (by simp)
    refine ⟨by rw [List.sum_cons]; omega, fun x hx => ?_⟩
    rw [List.sum_cons]
    rcases List.mem_cons.1 hx with rfl | hx
    · omega
    · have := h2 x hx
      omega
/-- How many aren't nought. -/
def nz (z : List Nat) : Nat := z.countP (fun x => decide (0 < x))
theorem nz_set (z : List Nat) : ∀ b, 0 < z.getD b 0 → nz (z.set b 0) + 1 = nz z := by
  induction z with
  | nil => intro b h; simp at h
  | cons a t ih =>
    intro b h
    cases b with
    | zero =>
      simp only [List.getD_cons_zero] at h
      unfold nz
      simp [h]
    | succ b =>
      have := ih b (by simpa using h)
      unfold nz at this ⊢
      simp only [List.set_cons_succ, List.countP_cons]
      omega
theorem nz_best (z : List Nat) (h : 0 < nz z) : 0 < z.getD (bestTo z z.length) 0 := by
  unfold nz at h
  rw [List.countP_pos_iff] at h
  obtain ⟨x, hx, h0⟩ := h
  obtain ⟨j, hj, rfl⟩ := List.getElem_of_mem hx
  have := bestTo_max z z.length j hj
  rw [List.getD_eq_getElem?_getD, List.getElem?_eq_getElem hj] at this
  simp at h0 this
  simp
  omega
theorem giveTo_nz (p : List Int) (z : List Nat) : ∀ m, m ≤ nz z → nz (giveTo p z m).2 + m = nz z
  | 0, _ => rfl
  | m + 1, h => by
    have ih := giveTo_nz p z m (by omega)
    have hl := giveTo_len2 p z m
    have hb := nz_best (giveTo p z m).2 (by omega)
    rw [hl] at hb
    have := nz_set _ _ hb
    unfold giveTo
    dsimp only
    omega

def qOf (t a : Int) (v : Int) : Int := ((t.natAbs * v.natAbs / a.natAbs : Nat) : Int)
def rOf (t a : Int) (v : Int) : Nat := t.natAbs * v.natAbs % a.natAbs
def qsOf (t : Int) (l : List Int) : List Int := l.map (qOf t l.sum)
def rsOf (t : Int) (l : List Int) : List Nat := l.map (rOf t l.sum)
/-- Can it be? -/
def shareOk (t : Int) (l : List Int) : Prop := fits l.sum = true ∧ 0 ≤ t ∧ 0 < l.sum ∧ l.length ≤ 64 ∧ ∀ x ∈ l, 0 ≤ x
/-- What is left at first. -/
def leftOf (t : Int) (l : List Int) : Nat := (t - (qsOf t l).sum).toNat
def shareOf (t : Int) (l : List Int) : List Int := (giveTo (qsOf t l) (rsOf t l) (leftOf t l)).1
theorem share_split (t a : Int) (ht : 0 ≤ t) (l : List Int) (hl : ∀ x ∈ l, 0 ≤ x) : t * l.sum = a.natAbs * (l.map (qOf t a)).sum + ((l.map (rOf t a)).sum : Nat) := by
  induction l with
  | nil => simp
  | cons v s ih =>
    have ih := ih fun x hx => hl x (by simp [hx])
    have hv := hl v (by simp)
    simp only [List.map_cons, List.sum_cons]
    rw [Int.mul_add, Int.mul_add, ih]
    have e : t * v = a.natAbs * qOf t a v + (rOf t a v : Nat) := by
      unfold qOf rOf
      have h := Nat.div_add_mod (t.natAbs * v.natAbs) a.natAbs
      have h2 : t * v = ((t.natAbs * v.natAbs : Nat) : Int) := by rw [Int.natCast_mul, Int.natAbs_of_nonneg ht, Int.natAbs_of_nonneg hv]
      rw [h2, ← Int.natCast_mul, ← Int.natCast_add, h]
    rw [e]
    push_cast
    omega
theorem rs_le (t a : Int) (h0 : 0 < a) (l : List Int) : (l.map (rOf t a)).sum ≤ (a.natAbs - 1) * nz (l.map (rOf t a)) := by
  induction l with
  | nil => simp
  | cons v s ih =>
    have h1 : rOf t a v < a.natAbs := Nat.mod_lt _ (by omega)
    unfold nz at ih ⊢
    simp only [List.map_cons, List.sum_cons, List.countP_cons]
    generalize rOf t a v = r at *
    by_cases hr : 0 < r
    · rw [if_pos (by simp [hr]), Nat.mul_add]
      omega
    · rw [if_neg (by simpa using hr), Nat.add_zero]
      omega
theorem qs_nonneg (t : Int) (l : List Int) : ∀ x ∈ qsOf t l, 0 ≤ x := by
  intro x hx
  unfold qsOf at hx
  obtain ⟨v, _, rfl⟩ := List.mem_map.1 hx
  exact Int.natCast_nonneg _
theorem share_left {t : Int} {l : List Int} (h : shareOk t l) : (qsOf t l).sum ≤ t ∧ leftOf t l ≤ nz (rsOf t l) := by
  obtain ⟨_, ht, ha, _, hl⟩ := h
  have h1 := share_split t l.sum ht l hl
  have h2 := rs_le t l.sum ha l
  have h3 : ((rsOf t l).sum : Int) = l.sum * (t - (qsOf t l).sum) := by
    unfold rsOf qsOf
    rw [Int.natAbs_of_nonneg (by omega), Int.mul_comm] at h1
    rw [Int.mul_sub]
    omega
  have h4 : 0 ≤ t - (qsOf t l).sum := by
    rcases Int.lt_or_le (t - (qsOf t l).sum) 0 with h | h
    · have := Int.mul_neg_of_pos_of_neg ha h
      omega
    · exact h
  refine ⟨by omega, ?_⟩
  unfold leftOf
  obtain ⟨k, hk⟩ := Int.eq_ofNat_of_zero_le h4
  obtain ⟨a, hA⟩ := Int.eq_ofNat_of_zero_le (Int.le_of_lt ha)
  rw [hk] at h3 ⊢
  rw [hA] at h3 ha h2
  unfold rsOf at h3 ⊢
  rw [hA] at h3 ⊢
  have h5 : (List.map (rOf t (a : Int)) l).sum = a * k := by
    have : (((List.map (rOf t (a : Int)) l).sum : Nat) : Int) = ((a * k : Nat) : Int) := by rw [h3, Int.natCast_mul]
    exact Int.ofNat.inj this
  rw [h5] at h2
  show k ≤ _
  rcases Nat.le_total k (nz (l.map (rOf t (a : Int)))) with h | h
  · exact h
  · have h6 : a * nz (l.map (rOf t (a : Int))) ≤ a * k := Nat.mul_le_mul_left _ h
    have h7 : (a - 1) * nz (l.map (rOf t (a : Int))) + nz (l.map (rOf t (a : Int))) = a * nz (l.map (rOf t (a : Int))) := by
      have : a = (a - 1) + 1 := by omega
      rw [this, Nat.add_mul]
      simp
    have h8 : (a : Int).natAbs = a := Int.natAbs_natCast a
    rw [h8] at h2
    have h9 : nz (l.map (rOf t (a : Int))) = 0 := by omega
    rw [h9] at h2
    have : a * k = 0 := by omega
    rcases Nat.mul_eq_zero.1 this with h | h
    · omega
    · omega
end Go.Proofs.Ytpdeihienkbeeaa

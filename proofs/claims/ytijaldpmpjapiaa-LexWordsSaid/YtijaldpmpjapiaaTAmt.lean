/-
  A number's text, and a text's number: the plain law. No condition.
-/
import Derived.Test.YtijaldpmpjapiaaTPrB
namespace Go.Proofs.Ytijaldpmpjapiaa

def isDg (c : Nat) : Prop := 48 ≤ c ∧ c ≤ 57
/-- The number of digits, the highest first. -/
def valD (l : List Nat) : Nat := l.foldl (fun n c => 10 * n + (c - 48)) 0
theorem valD_foldl (l : List Nat) : ∀ a, l.foldl (fun n c => 10 * n + (c - 48)) a = a * 10 ^ l.length + valD l := by
  induction l with
  | nil => intro a; simp [valD]
  | cons c l ih =>
    intro a
    have e1 : valD (c :: l) = (c - 48) * 10 ^ l.length + valD l := by
      show List.foldl _ _ (c :: l) = _
      rw [List.foldl_cons, ih, Nat.mul_zero, Nat.zero_add]
    rw [List.foldl_cons, ih, e1, List.length_cons, Nat.pow_succ]
    have : (10 * a + (c - 48)) * 10 ^ l.length = a * (10 ^ l.length * 10) + (c - 48) * 10 ^ l.length := by rw [Nat.add_mul, Nat.mul_comm 10 a, Nat.mul_assoc, Nat.mul_comm 10]
    rw [this]
    omega
theorem valD_cons (c : Nat) (l : List Nat) : valD (c :: l) = (c - 48) * 10 ^ l.length + valD l := by
  show List.foldl _ _ (c :: l) = _
  rw [List.foldl_cons, valD_foldl, Nat.mul_zero, Nat.zero_add]
theorem valD_snoc (l : List Nat) (c : Nat) : valD (l ++ [c]) = 10 * valD l + (c - 48) := by unfold valD; rw [List.foldl_append]; rfl
theorem valD_append (a b : List Nat) : valD (a ++ b) = valD a * 10 ^ b.length + valD b := by
  show List.foldl _ _ (a ++ b) = _
  rw [List.foldl_append, valD_foldl]
  rfl
theorem valD_lt (l : List Nat) (h : ∀ c ∈ l, isDg c) : valD l < 10 ^ l.length := by
  induction l with
  | nil => simp [valD]
  | cons c l ih =>
    have h1 := ih fun x hx => h x (List.mem_cons_of_mem _ hx)
    have h2 := h c (List.mem_cons_self ..)
    unfold isDg at h2
    rw [valD_cons, List.length_cons, Nat.pow_succ]
    have : (c - 48) * 10 ^ l.length ≤ 9 * 10 ^ l.length := Nat.mul_le_mul_right _ (by omega)
    omega
theorem valD_take (l : List Nat) (k : Nat) : valD (l.take k) ≤ valD l := by
  have h := valD_append (l.take k) (l.drop k)
  rw [List.take_append_drop] at h
  have h2 : valD (l.take k) * 1 ≤ valD (l.take k) * 10 ^ (l.drop k).length := Nat.mul_le_mul_left _ (Nat.pos_of_ne_zero (by simp))
  omega
/-- The digits of a number, the lowest first. -/
def Dg (u : Nat) : Nat → List Nat
  | 0 => []
  | k + 1 => Dg u k ++ [48 + u / 10 ^ k % 10]
theorem Dg_len (u : Nat) : ∀ k, (Dg u k).length = k
  | 0 => rfl
  | k + 1 => by unfold Dg; rw [List.length_append, Dg_len u k]; rfl
theorem Dg_dg (u : Nat) : ∀ k, ∀ c ∈ Dg u k, isDg c
  | 0, c, h => by simp [Dg] at h
  | k + 1, c, h => by
    unfold Dg at h
    rcases List.mem_append.1 h with h | h
    · exact Dg_dg u k c h
    · simp at h; unfold isDg; omega
theorem Dg_take (u : Nat) : ∀ k j, j ≤ k → (Dg u k).take j = Dg u j
  | 0, j, h => by obtain rfl : j = 0 := by omega
                  rfl
  | k + 1, j, h => by
    rcases Nat.lt_or_ge k j with h1 | h1
    · obtain rfl : j = k + 1 := by omega
      exact List.take_of_length_le (by rw [Dg_len]; omega)
    · rw [show Dg u (k + 1) = Dg u k ++ [48 + u / 10 ^ k % 10] from rfl, List.take_append_of_le_length (by rw [Dg_len]; omega)]
      exact Dg_take u k j h1
theorem Dg_last (u k : Nat) : (Dg u (k + 1)).reverse = (48 + u / 10 ^ k % 10) :: (Dg u k).reverse := by
  show (Dg u k ++ [48 + u / 10 ^ k % 10]).reverse = _
  rw [List.reverse_append]; rfl
theorem Dg_val (u : Nat) : ∀ k, valD (Dg u k).reverse = u % 10 ^ k
  | 0 => by simp [Dg, valD, Nat.mod_one]
  | k + 1 => by
    rw [Dg_last, valD_cons, List.length_reverse, Dg_len, Dg_val u k, Nat.pow_succ, Nat.mod_mul, show 48 + u / 10 ^ k % 10 - 48 = u / 10 ^ k % 10 by omega, Nat.mul_comm]
    omega
theorem Dg_cons (v e : Nat) (he : e < 10) : ∀ n, Dg (10 * v + e) (n + 1) = (48 + e) :: Dg v n
  | 0 => by simp [Dg]; omega
  | n + 1 => by
    have h := Dg_cons v e he n
    rw [show Dg (10 * v + e) (n + 1 + 1) = Dg (10 * v + e) (n + 1) ++ [48 + (10 * v + e) / 10 ^ (n + 1) % 10] from rfl, h, show Dg v (n + 1) = Dg v n ++ [48 + v / 10 ^ n % 10] from rfl]
    have : (10 * v + e) / 10 ^ (n + 1) = v / 10 ^ n := by
      rw [Nat.pow_succ, Nat.mul_comm (10 ^ n) 10, ← Nat.div_div_eq_div_mul, show (10 * v + e) / 10 = v by omega]
    rw [this]
    rfl
theorem Dg_of (n : Nat) : ∀ l : List Nat, l.length = n → (∀ c ∈ l, isDg c) → Dg (valD l) n = l.reverse := by
  induction n with
  | zero => intro l hl _; obtain rfl := List.eq_nil_of_length_eq_zero hl; rfl
  | succ n ih =>
    intro l hl hd
    rcases List.eq_nil_or_concat l with rfl | ⟨m, c, rfl⟩
    · cases hl
    · have hc : isDg c := hd c (by simp)
      have hm : m.length = n := by simpa using hl
      have h1 := ih m hm fun x hx => hd x (by simp [hx])
      unfold isDg at hc
      rw [List.concat_eq_append, valD_snoc, Dg_cons _ _ (by omega), h1, List.reverse_append, show 48 + (c - 48) = c by omega]
      rfl
theorem prB_low (u d : Nat) : ∀ k, d = 0 ∨ k ≤ d → prB u d k = Dg u k
  | 0, _ => rfl
  | k + 1, h => by
    have h1 := prB_low u d k (by omega)
    show prB u d k ++ (if k = d ∧ 0 < d then [46] else []) ++ [48 + u / 10 ^ k % 10] = _
    rw [h1, if_neg (by omega), List.append_nil]
    rfl
theorem prB_high (u d : Nat) (h0 : 0 < d) : ∀ k, prB u d (d + 1 + k) = Dg u d ++ 46 :: (Dg u (d + 1 + k)).drop d
  | 0 => by
    show prB u d d ++ (if d = d ∧ 0 < d then [46] else []) ++ [48 + u / 10 ^ d % 10] = _
    rw [prB_low u d d (by omega), if_pos ⟨rfl, h0⟩, show d + 1 + 0 = d + 1 by rfl, show Dg u (d + 1) = Dg u d ++ [48 + u / 10 ^ d % 10] from rfl, List.drop_left' (Dg_len u d)]
    simp
  | k + 1 => by
    show prB u d (d + 1 + k) ++ (if d + 1 + k = d ∧ 0 < d then [46] else []) ++ [48 + u / 10 ^ (d + 1 + k) % 10] = Dg u d ++ 46 :: (Dg u (d + 1 + k) ++ [48 + u / 10 ^ (d + 1 + k) % 10]).drop d
    rw [prB_high u d h0 k, if_neg (by omega), List.append_nil, List.drop_append_of_le_length (by rw [Dg_len]; omega)]
    simp
/-- The text of a number. -/
def FormL (x : Int) (d : Nat) (F B : List Nat) : List Nat := (if x < 0 then [45] else []) ++ (F ++ (if 0 < d then 46 :: B else []))
structure Form (l : List Nat) (d : Nat) (x : Int) (F B : List Nat) : Prop where
  f : ∀ c ∈ F, isDg c
  b : ∀ c ∈ B, isDg c
  len : B.length = d
  pos : 0 < F.length
  lead : 1 < F.length → F[0]? ≠ some 48
  val : valD (F ++ B) = x.natAbs
  eq : l = FormL x d F B
theorem form_of_printed (x : Int) (d N : Nat) (h : Rounds x.natAbs d N) : ∃ F B, Form (printed x d N) d x F B := by
  obtain ⟨h1, h2⟩ := h
  have hN : d < N := by rcases Nat.lt_or_ge d N with h | h
                        · exact h
                        · exact absurd (.inr h) h2
  have hu : x.natAbs / 10 ^ N = 0 := by rcases Nat.eq_zero_or_pos (x.natAbs / 10 ^ N) with h | h
                                        · exact h
                                        · exact absurd (.inl h) h2
  have hlt : x.natAbs < 10 ^ N := by
    rcases Nat.lt_or_ge x.natAbs (10 ^ N) with h | h
    · exact h
    · have := Nat.div_pos h (Nat.pos_of_ne_zero (by simp)); omega
  have hsp : (Dg x.natAbs N).reverse = ((Dg x.natAbs N).drop d).reverse ++ (Dg x.natAbs d).reverse := by
    rw [← List.reverse_append, ← Dg_take x.natAbs N d (by omega), List.take_append_drop]
  refine ⟨((Dg x.natAbs N).drop d).reverse, (Dg x.natAbs d).reverse, ?_, ?_, ?_, ?_, ?_, ?_, ?_⟩
  · intro c hc
    exact Dg_dg _ _ c (List.mem_of_mem_drop (List.mem_reverse.1 hc))
  · intro c hc
    exact Dg_dg _ _ c (List.mem_reverse.1 hc)
  · rw [List.length_reverse, Dg_len]
  · rw [List.length_reverse, List.length_drop, Dg_len]; omega
  · intro hl
    rw [List.length_reverse, List.length_drop, Dg_len] at hl
    obtain ⟨M, rfl⟩ : ∃ M, N = M + 1 := ⟨N - 1, by omega⟩
    have h3 := h1 M (by omega)
    have h4 : 0 < x.natAbs / 10 ^ M := by omega
    have h5 : x.natAbs / 10 ^ M < 10 := by
      rw [Nat.div_lt_iff_lt_mul (Nat.pos_of_ne_zero (by simp)), Nat.mul_comm, ← Nat.pow_succ]; exact hlt
    show ((Dg x.natAbs M ++ [48 + x.natAbs / 10 ^ M % 10]).drop d).reverse[0]? ≠ _
    rw [List.drop_append_of_le_length (by rw [Dg_len]; omega), List.reverse_append]
    simp
    omega
  · rw [← hsp, Dg_val, Nat.mod_eq_of_lt hlt]
  · unfold printed FormL
    rw [List.reverse_append]
    have e1 : (if x < 0 then [45] else [] : List Nat).reverse = if x < 0 then [45] else [] := by split <;> rfl
    rw [e1]
    congr 1
    rcases Nat.eq_zero_or_pos d with h0 | h0
    · subst h0
      rw [prB_low _ _ _ (.inl rfl), if_neg (by omega), List.append_nil, List.drop_zero]
    · obtain ⟨k, rfl⟩ : ∃ k, N = d + 1 + k := ⟨N - d - 1, by omega⟩
      rw [prB_high _ _ h0, if_pos h0, List.reverse_append, List.reverse_cons]
      simp
theorem printed_of_form {l : List Nat} {d : Nat} {x : Int} {F B : List Nat} (h : Form l d x F B) : ∃ N, Rounds x.natAbs d N ∧ l = printed x d N ∧ N = F.length + d := by
  obtain ⟨hf, hb, hlen, hpos, hlead, hval, heq⟩ := h
  have hd : ∀ c ∈ F ++ B, isDg c := fun c hc => by
    rcases List.mem_append.1 hc with h | h
    · exact hf c h
    · exact hb c h
  have hD := Dg_of (F.length + d) (F ++ B) (by rw [List.length_append, hlen]) hd
  have hlt := valD_lt (F ++ B) hd
  rw [List.length_append, hlen] at hlt
  rw [hval] at hD hlt
  have hN : Rounds x.natAbs d (F.length + d) := by
    refine ⟨fun k hk => ?_, ?_⟩
    · rcases Nat.lt_or_ge d k with h | h
      · left
        cases F with
        | nil => simp at hpos
        | cons c F =>
          have h1 := hlead (by simp at hk ⊢; omega)
          have h2 := hf c (List.mem_cons_self ..)
          unfold isDg at h2
          simp at h1
          have h3 : valD (c :: F ++ B) = (c - 48) * 10 ^ (F ++ B).length + valD (F ++ B) := valD_cons c (F ++ B)
          rw [hval, List.length_append, hlen] at h3
          have h4 : 1 * 10 ^ (F.length + d) ≤ (c - 48) * 10 ^ (F.length + d) := Nat.mul_le_mul_right _ (by omega)
          have h5 : 10 ^ k ≤ 10 ^ (F.length + d) := Nat.pow_le_pow_right (by omega) (by simp at hk; omega)
          exact Nat.div_pos (by omega) (Nat.pos_of_ne_zero (by simp))
      · exact .inr h
    · rw [Nat.div_eq_of_lt hlt]; omega
  refine ⟨_, hN, ?_, rfl⟩
  rw [heq]
  unfold FormL printed
  rw [List.reverse_append]
  have e1 : (if x < 0 then [45] else [] : List Nat).reverse = if x < 0 then [45] else [] := by split <;> rfl
  rw [e1]
  congr 1
  rcases Nat.eq_zero_or_pos d with h0 | h0
  · subst h0
    obtain rfl := List.eq_nil_of_length_eq_zero hlen
    rw [prB_low _ _ _ (.inl rfl), if_neg (by omega), hD, List.reverse_reverse]
  · obtain ⟨k, hk⟩ : ∃ k, F.length + d = d + 1 + k := ⟨F.length - 1, by omega⟩
    have hB : Dg x.natAbs d = B.reverse := by
      rw [← Dg_take x.natAbs (F.length + d) d (by omega), hD, List.reverse_append, List.take_left' (by rw [List.length_reverse, hlen])]
    rw [hk] at hD
    rw [hk, prB_high _ _ h0, if_pos h0, hD, hB, show (F ++ B).reverse = B.reverse ++ F.reverse from List.reverse_append, List.drop_left' (by rw [List.length_reverse, hlen])]
    simp
/-- The number of digits that stand in a text. -/
def valS (l : List Nat) : Nat := l.foldl (fun n c => if 48 ≤ c ∧ c ≤ 57 then 10 * n + (c - 48) else n) 0
theorem foldS_dg (l : List Nat) (h : ∀ c ∈ l, isDg c) : ∀ a, l.foldl (fun n c => if 48 ≤ c ∧ c ≤ 57 then 10 * n + (c - 48) else n) a = l.foldl (fun n c => 10 * n + (c - 48)) a := by
  induction l with
  | nil => intro a; rfl
  | cons c l ih =>
    intro a
    rw [List.foldl_cons, List.foldl_cons, if_pos (show 48 ≤ c ∧ c ≤ 57 from h c (List.mem_cons_self ..))]
    exact ih (fun x hx => h x (List.mem_cons_of_mem _ hx)) _
theorem valS_snoc (l : List Nat) (c : Nat) : valS (l ++ [c]) = if 48 ≤ c ∧ c ≤ 57 then 10 * valS l + (c - 48) else valS l := by unfold valS; rw [List.foldl_append]; rfl
theorem valS_lt (l : List Nat) : ∀ k, valS (l.take k) < 10 ^ k
  | 0 => by simp [valS]
  | k + 1 => by
    have h := valS_lt l k
    rw [List.take_add_one]
    cases l[k]? with
    | none => simp; rw [Nat.pow_succ]; omega
    | some c =>
      rw [show (some c).toList = [c] from rfl, valS_snoc, Nat.pow_succ]
      split <;> omega
def signZ (l : List Nat) : Int := if l.head? = some 45 then -(valS l : Int) else valS l
theorem signZ_form {l : List Nat} {d : Nat} {x : Int} {F B : List Nat} (h : Form l d x F B) : signZ l = x := by
  obtain ⟨hf, hb, hlen, hpos, hlead, hval, heq⟩ := h
  have hv : valS l = x.natAbs := by
    rw [heq, ← hval]
    unfold valS FormL
    rw [List.foldl_append, List.foldl_append, foldS_dg F hf]
    have e1 : List.foldl (fun n c => if 48 ≤ c ∧ c ≤ 57 then 10 * n + (c - 48) else n) 0 (if x < 0 then [45] else []) = 0 := by split <;> rfl
    rw [e1]
    unfold valD
    rw [List.foldl_append]
    rcases Nat.eq_zero_or_pos d with h0 | h0
    · subst h0
      obtain rfl := List.eq_nil_of_length_eq_zero hlen
      rfl
    · rw [if_pos h0, List.foldl_cons, if_neg (by omega), foldS_dg B hb]
  unfold signZ
  rw [hv]
  have hh : (l.head? = some 45) ↔ x < 0 := by
    rw [heq]
    unfold FormL
    by_cases hx : x < 0
    · simp [hx]
    · cases F with
      | nil => simp at hpos
      | cons c F =>
        have := hf c (List.mem_cons_self ..)
        unfold isDg at this
        simp [hx]
        omega
  by_cases hx : x < 0
  · rw [if_pos (hh.2 hx)]; omega
  · rw [if_neg (fun h => hx (hh.1 h))]; omega
end Go.Proofs.Ytijaldpmpjapiaa

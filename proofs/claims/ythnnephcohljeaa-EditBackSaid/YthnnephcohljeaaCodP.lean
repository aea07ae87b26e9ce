/-
  Numbers in groups, read: the plain law. Texts, lists. No condition but that bytes are bytes.
-/
import Derived.Test.YthnnephcohljeaaCodD
namespace Go.Proofs.Ythnnephcohljeaa
open Go.RowKit

def Byt (s : List Nat) : Prop := ∀ d ∈ s, d < 256
theorem Byt.drop {s : List Nat} (h : Byt s) (k : Nat) : Byt (s.drop k) := fun d hd => h d (List.mem_of_mem_drop hd)
theorem Byt.take {s : List Nat} (h : Byt s) (k : Nat) : Byt (s.take k) := fun d hd => h d (List.mem_of_mem_take hd)
theorem Byt.tail {c : Nat} {s : List Nat} (h : Byt (c :: s)) : Byt s := fun d hd => h d (List.mem_cons_of_mem _ hd)
theorem Byt.right {a s : List Nat} (h : Byt (a ++ s)) : Byt s := fun d hd => h d (List.mem_append_right _ hd)
theorem Byt.left {a s : List Nat} (h : Byt (a ++ s)) : Byt a := fun d hd => h d (List.mem_append_left _ hd)
theorem Byt.app {a s : List Nat} (h : Byt a) (k : Byt s) : Byt (a ++ s) := fun d hd => by
  rcases List.mem_append.1 hd with hd | hd
  · exact h d hd
  · exact k d hd
/-- A number in groups: place, what came before, what is left. -/
def gr : Nat → Nat → List Nat → Option (Nat × List Nat)
  | _, _, [] => none
  | i, n, c :: r => if (i = 9 ∧ 1 < c) ∨ (0 < i ∧ c = 0) then none else if c < 128 then some (n + c % 128 * 2 ^ (7 * i), r) else gr (i + 1) (n + c % 128 * 2 ^ (7 * i)) r
def gP (s : List Nat) : Option (Nat × List Nat) := gr 0 0 s
theorem pow7 (i : Nat) : 2 ^ (7 * (i + 1)) = 2 ^ (7 * i) * 128 := by rw [Nat.mul_add, Nat.pow_add]
theorem gr_full : ∀ (k i n m : Nat) (r : List Nat), i + k = 9 → m < 2 * 128 ^ k → (0 < i → 0 < m) → gr i n (grpK k m ++ r) = some (n + m * 2 ^ (7 * i), r)
  | k, i, n, m, r, hk, hm, h0 => by
    by_cases hs : m < 128
    · rw [grpK_small hs]
      show (if (i = 9 ∧ 1 < m) ∨ (0 < i ∧ m = 0) then none else if m < 128 then some (n + m % 128 * 2 ^ (7 * i), r) else gr (i + 1) (n + m % 128 * 2 ^ (7 * i)) r) = _
      rw [if_neg, if_pos hs, Nat.mod_eq_of_lt hs]
      rintro (⟨rfl, h⟩ | ⟨h1, h2⟩)
      · obtain rfl : k = 0 := by omega
        simp at hm; omega
      · have := h0 h1; omega
    · obtain ⟨k, rfl⟩ : ∃ j, k = j + 1 := ⟨k - 1, by
        rcases Nat.eq_zero_or_pos k with h | h
        · subst h; simp at hm; omega
        · omega⟩
      rw [grpK_more hs]
      show (if (i = 9 ∧ 1 < m % 128 + 128) ∨ (0 < i ∧ m % 128 + 128 = 0) then none else if m % 128 + 128 < 128 then some (n + (m % 128 + 128) % 128 * 2 ^ (7 * i), grpK k (m / 128) ++ r) else gr (i + 1) (n + (m % 128 + 128) % 128 * 2 ^ (7 * i)) (grpK k (m / 128) ++ r)) = _
      rw [if_neg (by omega), if_neg (by omega), gr_full k (i + 1) _ (m / 128) r (by omega) (by rw [Nat.pow_succ] at hm; rw [Nat.div_lt_iff_lt_mul (by omega)]; omega) (by omega)]
      congr 2
      rw [show (m % 128 + 128) % 128 = m % 128 by omega, pow7]
      have e : m % 128 * 2 ^ (7 * i) + m / 128 * (2 ^ (7 * i) * 128) = (m % 128 + 128 * (m / 128)) * 2 ^ (7 * i) := by
        rw [Nat.add_mul, Nat.mul_comm (2 ^ (7 * i)) 128, ← Nat.mul_assoc, Nat.mul_comm (m / 128) 128]
      rw [Nat.add_assoc, e, Nat.mod_add_div]
theorem gr_sound : ∀ (s : List Nat) (i n v : Nat) (r : List Nat), Byt s → i ≤ 9 → gr i n s = some (v, r) → ∃ m, v = n + m * 2 ^ (7 * i) ∧ s = grpK (9 - i) m ++ r ∧ m < 2 * 128 ^ (9 - i) ∧ (0 < i → 0 < m)
  | [], i, n, v, r, _, _, h => by cases h
  | c :: t, i, n, v, r, hb, hi, h => by
    have hc := hb c List.mem_cons_self
    unfold gr at h
    by_cases hx : (i = 9 ∧ 1 < c) ∨ (0 < i ∧ c = 0)
    · rw [if_pos hx] at h; cases h
    · rw [if_neg hx] at h
      by_cases hs : c < 128
      · rw [if_pos hs] at h
        injection h with h
        injection h with h1 h2
        subst h2
        refine ⟨c, by rw [← h1, Nat.mod_eq_of_lt hs], by rw [grpK_small hs]; rfl, ?_, by omega⟩
        rcases Nat.lt_or_ge i 9 with h9 | h9
        · have : 128 ^ 1 ≤ 128 ^ (9 - i) := Nat.pow_le_pow_right (by omega) (by omega)
          omega
        · obtain rfl : i = 9 := by omega
          simp; omega
      · rw [if_neg hs] at h
        have h9 : i < 9 := by omega
        obtain ⟨m, e1, e2, e3, e4⟩ := gr_sound t (i + 1) _ v r hb.tail (by omega) h
        have e4 := e4 (by omega)
        have hk : 9 - i = (9 - (i + 1)) + 1 := by omega
        refine ⟨c % 128 + 128 * m, ?_, ?_, ?_, by omega⟩
        · rw [e1, pow7, Nat.add_assoc]
          congr 1
          rw [Nat.add_mul, Nat.mul_comm (2 ^ (7 * i)) 128, ← Nat.mul_assoc, Nat.mul_comm m 128]
        · rw [hk, grpK_more (by omega), show (c % 128 + 128 * m) / 128 = m by omega, show (c % 128 + 128 * m) % 128 + 128 = c by omega, e2]; rfl
        · rw [hk, Nat.pow_succ]; omega
/-- A way of reading is another one's of laying. -/
structure Cod {α : Type} (p : List Nat → Option (α × List Nat)) (enc : α → List Nat) (ok : α → Prop) : Prop where
  full : ∀ a r, ok a → p (enc a ++ r) = some (a, r)
  sound : ∀ s a r, Byt s → p s = some (a, r) → ok a ∧ s = enc a ++ r
theorem gP_cod : Cod gP grp (fun n => n < 18446744073709551616) where
  full := fun n r h => by
    have := gr_full 9 0 0 n r (by omega) (by omega) (by omega)
    simpa [gP, grp] using this
  sound := fun s n r hs h => by
    obtain ⟨m, e1, e2, e3, -⟩ := gr_sound s 0 0 n r hs (by omega) h
    obtain rfl : n = m := by rw [e1]; simp
    exact ⟨by have : (9 - 0 : Nat) = 9 := rfl; rw [this] at e3; omega, e2⟩
def sizeP (s : List Nat) : Option (Nat × List Nat) := (gP s).bind fun x => if x.1 < 9223372036854775808 then some x else none
def rawP (n : Int) (s : List Nat) : Option (List Nat × List Nat) := if 0 ≤ n ∧ n ≤ (s.length : Int) then some (s.take n.toNat, s.drop n.toNat) else none
def txtP (most : Nat) (s : List Nat) : Option (List Nat × List Nat) := (sizeP s).bind fun x => if x.1 ≤ most then rawP x.1 x.2 else none
def unsgn (n : Nat) : Int := if n % 2 = 0 then ((n / 2 : Nat) : Int) else -((n / 2 : Nat) : Int) - 1
def sgnP (s : List Nat) : Option (Int × List Nat) := (gP s).map fun x => (unsgn x.1, x.2)
/-- So many of them. -/
def listP {α : Type} (one : List Nat → Option (α × List Nat)) : Nat → List α → List Nat → Option (List α × List Nat)
  | 0, acc, s => some (acc, s)
  | k + 1, acc, s => (one s).bind fun x => listP one k (acc ++ [x.1]) x.2
def getP {α : Type} (one : List Nat → Option (α × List Nat)) (most : Nat) (s : List Nat) : Option (List α × List Nat) := (sizeP s).bind fun x => if x.1 ≤ most then listP one x.1 [] x.2 else none
theorem sizeP_cod : Cod sizeP grp (fun n => n < 9223372036854775808) where
  full := fun n r h => by
    unfold sizeP
    rw [gP_cod.full n r (by omega)]
    show (if n < _ then _ else _) = _
    rw [if_pos h]
  sound := fun s n r hs h => by
    unfold sizeP at h
    cases hg : gP s with
    | none => rw [hg] at h; cases h
    | some x =>
      rw [hg] at h
      replace h : (if x.1 < 9223372036854775808 then some x else none) = some (n, r) := h
      split at h
      · injection h with h
        subst h
        exact ⟨by assumption, (gP_cod.sound s n r hs hg).2⟩
      · cases h
theorem txtP_cod (most : Nat) (hm : most < 9223372036854775808) : Cod (txtP most) txt (fun t => t.length ≤ most) where
  full := fun t r h => by
    unfold txtP txt
    rw [List.append_assoc, sizeP_cod.full _ _ (by omega)]
    show (if t.length ≤ most then rawP t.length (t ++ r) else none) = _
    rw [if_pos h]
    unfold rawP
    rw [if_pos (by simp; omega)]
    simp
  sound := fun s t r hs h => by
    unfold txtP at h
    cases hg : sizeP s with
    | none => rw [hg] at h; cases h
    | some x =>
      obtain ⟨n, q⟩ := x
      obtain ⟨o1, rfl⟩ := sizeP_cod.sound s n q hs hg
      rw [hg] at h
      replace h : (if n ≤ most then rawP n q else none) = some (t, r) := h
      split at h
      · unfold rawP at h
        split at h
        · rename_i h1 h2
          injection h with h
          injection h with e1 e2
          simp only [Int.toNat_natCast] at e1 e2
          have hl : t.length = n := by rw [← e1, List.length_take]; omega
          refine ⟨by omega, ?_⟩
          unfold txt
          rw [hl, List.append_assoc, ← e1, ← e2, List.take_append_drop]
        · cases h
      · cases h
theorem unsgn_sgn {n : Int} (h : I64 n) : unsgn (sgn n) = n := by
  unfold I64 at h
  unfold sgn unsgn
  split
  · rw [if_pos (by omega)]; omega
  · rw [if_neg (by omega)]; omega
theorem sgn_unsgn {n : Nat} (h : n < 18446744073709551616) : sgn (unsgn n) = n ∧ I64 (unsgn n) := by
  unfold unsgn sgn I64
  split
  · rw [if_pos (by omega)]; omega
  · rw [if_neg (by omega)]; omega
theorem sgnP_cod : Cod sgnP (fun n => grp (sgn n)) I64 where
  full := fun n r h => by
    unfold sgnP
    rw [gP_cod.full _ r (sgn_lt h)]
    show some (unsgn (sgn n), r) = _
    rw [unsgn_sgn h]
  sound := fun s n r hs h => by
    unfold sgnP at h
    cases hg : gP s with
    | none => rw [hg] at h; cases h
    | some x =>
      obtain ⟨m, q⟩ := x
      obtain ⟨o1, rfl⟩ := gP_cod.sound s m q hs hg
      rw [hg] at h
      replace h : some (unsgn m, q) = some (n, r) := h
      injection h with h
      injection h with e1 e2
      subst e1 e2
      obtain ⟨e3, e4⟩ := sgn_unsgn o1
      refine ⟨e4, ?_⟩
      simp only [e3]
section
variable {α : Type} {one : List Nat → Option (α × List Nat)} {enc : α → List Nat} {ok : α → Prop}
theorem listP_full (h : Cod one enc ok) : ∀ (l acc : List α) (r : List Nat), (∀ a ∈ l, ok a) → listP one l.length acc (l.flatMap enc ++ r) = some (acc ++ l, r)
  | [], acc, r, _ => by simp [listP]
  | a :: l, acc, r, hl => by
    show ((one ((a :: l).flatMap enc ++ r)).bind fun x => listP one l.length (acc ++ [x.1]) x.2) = _
    rw [List.flatMap_cons, List.append_assoc, h.full a _ (hl a List.mem_cons_self)]
    show listP one l.length (acc ++ [a]) (l.flatMap enc ++ r) = _
    rw [listP_full h l _ r (fun b hb => hl b (List.mem_cons_of_mem _ hb)), List.append_assoc]; rfl
theorem listP_sound (h : Cod one enc ok) : ∀ (k : Nat) (acc : List α) (s : List Nat) (l : List α) (r : List Nat), Byt s → listP one k acc s = some (l, r) → ∃ l', l = acc ++ l' ∧ l'.length = k ∧ (∀ a ∈ l', ok a) ∧ s = l'.flatMap enc ++ r
  | 0, acc, s, l, r, _, hh => by
    injection hh with hh
    injection hh with e1 e2
    exact ⟨[], by simp [e1], rfl, by simp, by simp [e2]⟩
  | k + 1, acc, s, l, r, hs, hh => by
    replace hh : ((one s).bind fun x => listP one k (acc ++ [x.1]) x.2) = some (l, r) := hh
    cases ho : one s with
    | none => rw [ho] at hh; cases hh
    | some x =>
      obtain ⟨a, q⟩ := x
      rw [ho] at hh
      obtain ⟨o1, rfl⟩ := h.sound s a q hs ho
      obtain ⟨l', e1, e2, e3, e4⟩ := listP_sound h k _ q l r hs.right hh
      refine ⟨a :: l', by rw [e1, List.append_assoc]; rfl, by simp [e2], fun b hb => ?_, by rw [List.flatMap_cons, List.append_assoc, ← e4]⟩
      rcases List.mem_cons.1 hb with rfl | hb
      · exact o1
      · exact e3 b hb
theorem getP_cod (h : Cod one enc ok) (most : Nat) (hm : most < 9223372036854775808) : Cod (getP one most) (fun l => grp l.length ++ l.flatMap enc) (fun l => l.length ≤ most ∧ ∀ a ∈ l, ok a) where
  full := fun l r hl => by
    unfold getP
    rw [List.append_assoc, sizeP_cod.full _ _ (by omega)]
    show (if l.length ≤ most then listP one l.length [] (l.flatMap enc ++ r) else none) = _
    rw [if_pos hl.1, listP_full h l [] r hl.2]; rfl
  sound := fun s l r hs hh => by
    unfold getP at hh
    cases hg : sizeP s with
    | none => rw [hg] at hh; cases hh
    | some x =>
      obtain ⟨n, q⟩ := x
      obtain ⟨o1, rfl⟩ := sizeP_cod.sound s n q hs hg
      rw [hg] at hh
      replace hh : (if n ≤ most then listP one n [] q else none) = some (l, r) := hh
      split at hh
      · obtain ⟨l', e1, e2, e3, e4⟩ := listP_sound h n [] q l r hs.right hh
        simp only [List.nil_append] at e1
        subst e1
        exact ⟨⟨by omega, e3⟩, by simp only [e2, List.append_assoc, ← e4]⟩
      · cases hh
end
end Go.Proofs.Ythnnephcohljeaa

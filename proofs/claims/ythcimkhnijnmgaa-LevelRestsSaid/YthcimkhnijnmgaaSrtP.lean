/-
  Sorting by merging in place: plain, over any elements. No condition.
-/
import Derived.Test.YthcimkhnijnmgaaWords
namespace Go.Proofs.Ythcimkhnijnmgaa

section
variable {α : Type} {le : α → α → Prop}
theorem get_mid (P : List α) (x : α) (Q : List α) : (P ++ x :: Q)[P.length]? = some x := by
  rw [List.getElem?_append_right (Nat.le_refl _)]; simp
theorem get_mid' {P : List α} {x : α} {Q : List α} {i : Nat} (h : i = P.length) : (P ++ x :: Q)[i]? = some x := by rw [h]; exact get_mid P x Q
theorem set_mid (P : List α) (x y : α) (Q : List α) : (P ++ x :: Q).set P.length y = P ++ y :: Q := by
  rw [List.set_append_right _ _ (Nat.le_refl _)]; simp
theorem set_mid' {P : List α} {x y : α} {Q : List α} {i : Nat} (h : i = P.length) : (P ++ x :: Q).set i y = P ++ y :: Q := by rw [h]; exact set_mid P x y Q
theorem swap_mid {P : List α} {x y : α} {Q : List α} {i j : Nat} (h : i = P.length) (hj : j = i + 1) : ((P ++ x :: y :: Q).set i y).set j x = P ++ y :: x :: Q := by
  rw [set_mid' h, show P ++ y :: y :: Q = (P ++ [y]) ++ y :: Q by simp, set_mid' (by simp [h, hj])]
  simp
theorem swap_mid' {P : List α} {x y : α} {Q : List α} {i j : Nat} (h : i = P.length) (hj : j = i + 1) : ((P ++ x :: y :: Q).set j x).set i y = P ++ y :: x :: Q := by
  rw [List.set_comm _ _ (by omega)]
  exact swap_mid h hj
/-- After a piece was changed for another one, of two blocks of one length. -/
def swB (d : List α) (a b i j : Nat) : Option α := if a ≤ j ∧ j < a + i then d[j - a + b]? else if b ≤ j ∧ j < b + i then d[j - b + a]? else d[j]?
theorem swB_step {d c : List α} {a b i : Nat} {x y : α} (hab : a + i < b) (hc : ∀ j, c[j]? = swB d a b i j) (hx : d[a + i]? = some x) (hy : d[b + i]? = some y) (hl : c.length = d.length) (hb : b + i < d.length) : ∀ j, ((c.set (a + i) y).set (b + i) x)[j]? = swB d a b (i + 1) j := fun j => by
  unfold swB at hc ⊢
  by_cases h1 : j = b + i
  · subst h1
    rw [List.getElem?_set_self (by rw [List.length_set]; omega), if_neg (by omega), if_pos (by omega), show b + i - b + a = a + i by omega, hx]
  · rw [List.getElem?_set_ne (by omega)]
    by_cases h2 : j = a + i
    · subst h2
      rw [List.getElem?_set_self (by omega), if_pos (by omega), show a + i - a + b = b + i by omega, hy]
    · rw [List.getElem?_set_ne (by omega), hc j]
      by_cases h3 : a ≤ j ∧ j < a + i
      · rw [if_pos h3, if_pos (by omega)]
      · rw [if_neg h3]
        by_cases h4 : b ≤ j ∧ j < b + i
        · rw [if_pos h4, if_neg (by omega), if_pos (by omega)]
        · rw [if_neg h4, if_neg (by omega), if_neg (by omega)]
theorem swB_zero (d : List α) (a b : Nat) : ∀ j, d[j]? = swB d a b 0 j := fun j => by
  unfold swB
  rw [if_neg (by omega), if_neg (by omega)]
theorem swB_end {P U M V S c : List α} (hn : U.length = V.length) (hc : ∀ j, c[j]? = swB (P ++ (U ++ (M ++ (V ++ S)))) P.length (P.length + U.length + M.length) U.length j) : c = P ++ (V ++ (M ++ (U ++ S))) := by
  apply List.ext_getElem?
  intro j
  rw [hc j]
  unfold swB
  by_cases h0 : j < P.length
  · rw [if_neg (by omega), if_neg (by omega), List.getElem?_append_left h0, List.getElem?_append_left h0]
  · rw [List.getElem?_append_right (l₁ := P) (l₂ := V ++ (M ++ (U ++ S))) (by omega)]
    by_cases h1 : j < P.length + U.length
    · rw [if_pos (by omega), List.getElem?_append_right (by omega), List.getElem?_append_right (by omega), List.getElem?_append_right (by omega), List.getElem?_append_left (l₁ := V) (by omega), List.getElem?_append_left (l₁ := V) (by omega)]
      congr 1
      omega
    · rw [if_neg (by omega), List.getElem?_append_right (l₁ := V) (by omega)]
      by_cases h2 : j < P.length + U.length + M.length
      · rw [if_neg (by omega), List.getElem?_append_right (l₁ := P) (by omega), List.getElem?_append_right (l₁ := U) (by omega), List.getElem?_append_left (l₁ := M) (by omega), List.getElem?_append_left (l₁ := M) (by omega)]
        congr 1
        omega
      · rw [List.getElem?_append_right (l₁ := M) (l₂ := U ++ S) (by omega)]
        by_cases h3 : j < P.length + U.length + M.length + U.length
        · rw [if_pos (by omega), List.getElem?_append_right (l₁ := P) (by omega), List.getElem?_append_left (l₁ := U) (by omega), List.getElem?_append_left (l₁ := U) (by omega)]
          congr 1
          omega
        · rw [if_neg (by omega), List.getElem?_append_right (l₁ := P) (by omega), List.getElem?_append_right (l₁ := U) (by omega), List.getElem?_append_right (l₁ := M) (by omega), List.getElem?_append_right (l₁ := V) (by omega), List.getElem?_append_right (l₁ := U) (by omega)]
          congr 1
          omega
theorem pw_left {A B : List α} (h : (A ++ B).Pairwise le) : A.Pairwise le := (List.pairwise_append.1 h).1
theorem pw_right {A B : List α} (h : (A ++ B).Pairwise le) : B.Pairwise le := (List.pairwise_append.1 h).2.1
theorem pw_last {A : List α} {x y : α} (htr : ∀ a b c, le a b → le b c → le a c) (hrf : ∀ a, le a a) (h : (A ++ [x]).Pairwise le) (hy : y ∈ A ++ [x]) : le y x := by
  rcases List.mem_append.1 hy with hy | hy
  · exact (List.pairwise_append.1 h).2.2 y hy x (by simp)
  · simp at hy; subst hy; exact hrf _
theorem pw_head {B : List α} {x y : α} (hrf : ∀ a, le a a) (h : (x :: B).Pairwise le) (hy : y ∈ x :: B) : le x y := by
  rcases List.mem_cons.1 hy with hy | hy
  · subst hy; exact hrf _
  · exact (List.pairwise_cons.1 h).1 y hy
/-- All of one piece is ahead of all of another, when its last one is ahead of the other's first. -/
theorem pw_cross {A B : List α} (htr : ∀ a b c, le a b → le b c → le a c) (hrf : ∀ a, le a a) (hA : A.Pairwise le) (hB : B.Pairwise le) (h : A = [] ∨ B = [] ∨ ∃ A' x y B', A = A' ++ [x] ∧ B = y :: B' ∧ le x y) : ∀ a ∈ A, ∀ b ∈ B, le a b := fun a ha b hb => by
  rcases h with rfl | rfl | ⟨A', x, y, B', rfl, rfl, hxy⟩
  · cases ha
  · cases hb
  · exact htr _ _ _ (pw_last htr hrf hA ha) (htr _ _ _ hxy (pw_head hrf hB hb))
theorem two_halves {A1 A2 B1 B2 M1 M2 : List α} (htr : ∀ a b c, le a b → le b c → le a c) (hrf : ∀ a, le a a) (hL : (A1 ++ A2).Pairwise le) (hR : (B1 ++ B2).Pairwise le)
    (h1 : A1 = [] ∨ B2 = [] ∨ ∃ A' x y B', A1 = A' ++ [x] ∧ B2 = y :: B' ∧ le x y) (h2 : B1 = [] ∨ A2 = [] ∨ ∃ A' x y B', B1 = A' ++ [x] ∧ A2 = y :: B' ∧ le x y)
    (p1 : M1.Perm (A1 ++ B1)) (s1 : M1.Pairwise le) (p2 : M2.Perm (A2 ++ B2)) (s2 : M2.Pairwise le) : (M1 ++ M2).Perm ((A1 ++ A2) ++ (B1 ++ B2)) ∧ (M1 ++ M2).Pairwise le := by
  have c1 := pw_cross htr hrf (pw_left hL) (pw_right hR) h1
  have c2 := pw_cross htr hrf (pw_left hR) (pw_right hL) h2
  have c3 := (List.pairwise_append.1 hL).2.2
  have c4 := (List.pairwise_append.1 hR).2.2
  constructor
  · refine (p1.append p2).trans ?_
    rw [List.append_assoc, List.append_assoc]
    refine List.Perm.append_left A1 ?_
    rw [← List.append_assoc, ← List.append_assoc]
    exact (List.perm_append_comm (l₁ := B1) (l₂ := A2)).append_right B2
  · refine List.pairwise_append.2 ⟨s1, s2, fun a ha b hb => ?_⟩
    rcases List.mem_append.1 (p1.subset ha) with ha | ha <;> rcases List.mem_append.1 (p2.subset hb) with hb | hb
    · exact c3 a ha b hb
    · exact c1 a ha b hb
    · exact c2 a ha b hb
    · exact c4 a ha b hb
/-- One element put among sorted ones. -/
theorem put_sorted {A B : List α} {x : α} (htr : ∀ a b c, le a b → le b c → le a c) (hrf : ∀ a, le a a) (h : (A ++ B).Pairwise le) (h1 : A = [] ∨ ∃ A' y, A = A' ++ [y] ∧ le y x) (h2 : B = [] ∨ ∃ y B', B = y :: B' ∧ le x y) : (A ++ x :: B).Pairwise le := by
  obtain ⟨a1, a2, a3⟩ := List.pairwise_append.1 h
  refine List.pairwise_append.2 ⟨a1, List.pairwise_cons.2 ⟨fun b hb => ?_, a2⟩, fun a ha b hb => ?_⟩
  · rcases h2 with rfl | ⟨y, B', rfl, hy⟩
    · cases hb
    · exact htr _ _ _ hy (pw_head hrf a2 hb)
  · have hax : le a x := by
      rcases h1 with rfl | ⟨A', y, rfl, hy⟩
      · cases ha
      · exact htr _ _ _ (pw_last htr hrf a1 ha) hy
    rcases List.mem_cons.1 hb with rfl | hb
    · exact hax
    · exact a3 a ha b hb
theorem cut_at {l : List α} {i : Nat} {x : α} (h : l[i]? = some x) : l = l.take i ++ x :: l.drop (i + 1) := by
  have hi := (List.getElem?_eq_some_iff.1 h).1
  have hx := (List.getElem?_eq_some_iff.1 h).2
  rw [← hx, List.getElem_cons_drop, List.take_append_drop]
theorem take_last {l : List α} {i : Nat} {x : α} (h : l[i]? = some x) : l.take (i + 1) = l.take i ++ [x] := by rw [List.take_add_one, h]; rfl
theorem drop_head {l : List α} {i : Nat} {x : α} (h : l[i]? = some x) : l.drop i = x :: l.drop (i + 1) := by
  have hi := (List.getElem?_eq_some_iff.1 h).1
  have hx := (List.getElem?_eq_some_iff.1 h).2
  rw [← hx, List.getElem_cons_drop]
end
end Go.Proofs.Ythcimkhnijnmgaa

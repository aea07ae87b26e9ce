/-
  Frames and marks, read again. No condition.
-/
import Derived.Test.YtnlepoplncjliaaGreatDoorWbG
namespace Go.Proofs.YtnlepoplncjliaaGreatDoor
open Go.RowKit

theorem foldB (k n : Nat) : ∀ a, (beB k n).foldl (fun n c => n * 256 + c) a = a * 256 ^ k + n % 256 ^ k := by
  induction k with
  | zero => intro a; simp [beB, Nat.mod_one]
  | succ k ih =>
    intro a
    rw [beB, List.foldl_cons, ih, Nat.mod_pow_succ, Nat.pow_succ]
    generalize 256 ^ k = p
    generalize n / p % 256 = d
    generalize n % p = r
    rw [Nat.add_mul, Nat.mul_assoc, Nat.mul_comm 256 p, Nat.mul_comm d p]
    omega
theorem valB_be {k n : Nat} (h : n < 256 ^ k) : valB (beB k n) = n := by
  unfold valB
  rw [foldB, Nat.mod_eq_of_lt h]
  omega
def framesN (l : List (List Nat)) : List Nat := l.flatMap frameN
def marksL (l : List Nat) : List Nat := l.flatMap markN
def marksN (k : Nat) : List Nat := marksL ((List.range k).map (· + 1))
theorem framesN_app (a b : List (List Nat)) : framesN (a ++ b) = framesN a ++ framesN b := by simp [framesN]
theorem framesN_one (s : List Nat) : framesN [s] = frameN s := by simp [framesN]
theorem marksN_succ (k : Nat) : marksN (k + 1) = marksN k ++ markN (k + 1) := by simp [marksN, marksL, List.range_succ]
theorem framesN_byt {l : List (List Nat)} (h : ∀ s ∈ l, Byt s) : Byt (framesN l) := by
  intro c hc
  obtain ⟨s, hs, h2⟩ := List.mem_flatMap.1 hc
  exact frameN_lt (h s hs) c h2
theorem openN_frame {s : List Nat} (r : List Nat) (hl : s.length ≤ 131072) : openN (frameN s ++ r) = (s, s.length + 12, 0) := by
  have hv : valB (beB 4 s.length) = s.length := valB_be (by rw [show (256 : Nat) ^ 4 = 4294967296 by decide]; omega)
  obtain ⟨X, hX⟩ : ∃ X, X = beB 4 s.length := ⟨_, rfl⟩
  have hXl : X.length = 4 := by rw [hX, beB_len]
  obtain ⟨Y, hY⟩ : ∃ Y, Y = laidC X := ⟨_, rfl⟩
  have hYl : Y.length = 4 := by rw [hY, laidC_len]
  obtain ⟨Z, hZ⟩ : ∃ Z, Z = laidC s := ⟨_, rfl⟩
  have hZl : Z.length = 4 := by rw [hZ, laidC_len]
  have hf : frameN s ++ r = X ++ (Y ++ (s ++ (Z ++ r))) := by
    unfold frameN
    rw [← hX, ← hY, ← hZ]
    simp
  rw [← hX] at hv
  rw [hf]
  have t4 : (X ++ (Y ++ (s ++ (Z ++ r)))).take 4 = X := List.take_left' hXl
  have d4 : (X ++ (Y ++ (s ++ (Z ++ r)))).drop 4 = Y ++ (s ++ (Z ++ r)) := List.drop_left' hXl
  have d8 : (X ++ (Y ++ (s ++ (Z ++ r)))).drop 8 = s ++ (Z ++ r) := by
    rw [← List.append_assoc]
    exact List.drop_left' (by rw [List.length_append]; omega)
  have d8n : (X ++ (Y ++ (s ++ (Z ++ r)))).drop (8 + s.length) = Z ++ r := by
    rw [← List.drop_drop, d8]
    exact List.drop_left' rfl
  have hlen : (X ++ (Y ++ (s ++ (Z ++ r)))).length = 12 + s.length + r.length := by simp only [List.length_append]; omega
  unfold openN
  rw [t4, d4, d8, hv, d8n, hlen, List.take_left' hYl, List.take_left' rfl, List.take_left' hZl, ← hY, ← hZ, if_neg (by omega), if_neg (by simp; omega), if_neg (by omega), if_neg (by simp)]
  congr 2
  omega
theorem allGo_frames : ∀ (l : List (List Nat)) (f : Nat), (∀ s ∈ l, s.length ≤ 131072) → (framesN l).length ≤ f → allGo f (framesN l) = (l, (framesN l).length, 0)
  | [], f, _, _ => by
    cases f with
    | zero => rfl
    | succ f => simp [allGo, framesN]
  | s :: l, f, h, hf => by
    have hs := h s List.mem_cons_self
    have e : framesN (s :: l) = frameN s ++ framesN l := by simp [framesN]
    have hl := frameN_len s
    rw [e, List.length_append] at hf
    obtain ⟨f, rfl⟩ : ∃ k, f = k + 1 := ⟨f - 1, by omega⟩
    have hne : frameN s ++ framesN l ≠ [] := fun h0 => by
      have : 0 < (frameN s ++ framesN l).length := by rw [List.length_append]; omega
      rw [h0] at this
      exact absurd this (by simp)
    rw [e, allGo, if_neg hne, openN_frame _ hs]
    have hd : (frameN s ++ framesN l).drop (s.length + 12) = framesN l := List.drop_left' hl
    simp only [hd, ne_eq, not_true_eq_false, if_false]
    rw [allGo_frames l f (fun x hx => h x (List.mem_cons_of_mem _ hx)) (by omega), List.length_append, hl]
theorem allN_frames {l : List (List Nat)} (h : ∀ s ∈ l, s.length ≤ 131072) : allN (framesN l) = (l, (framesN l).length, 0) := allGo_frames l _ h (Nat.le_refl _)
theorem valB_mark {n : Nat} (h : n < 18446744073709551616) : valB ((markN n).take 8) = n := by
  have : (markN n).take 8 = beB 8 n := List.take_left' (beB_len 8 n)
  rw [this]
  exact valB_be (by rw [show (256 : Nat) ^ 8 = 18446744073709551616 by decide]; exact h)
theorem cntStep_mark {a : Nat × Bool} {n : Nat} (h : n ≤ 131072) : cntStep a (markN n) = (max a.1 n, a.2) := by
  unfold cntStep
  rw [valB_mark (by omega), if_neg (by simp; omega), if_neg (by omega), if_pos h]
theorem cntStep_seal {a : Nat × Bool} {n : Nat} (h : n ≤ 131072) : cntStep a (markN (4294967296 + n)) = (max a.1 n, true) := by
  unfold cntStep
  have e : 4294967296 + n - 4294967296 = n := by omega
  rw [valB_mark (by omega), if_neg (by simp; omega), if_pos (by omega), e, if_pos h]
theorem cntGo_marks : ∀ (ns : List Nat) (f : Nat) (a : Nat × Bool), (∀ n ∈ ns, n ≤ 131072) → (marksL ns).length ≤ f → cntGo f a (marksL ns) = (ns.foldl max a.1, a.2)
  | [], f, a, _, _ => by
    cases f with
    | zero => rfl
    | succ f => simp [cntGo, marksL]
  | n :: ns, f, a, h, hf => by
    have e : marksL (n :: ns) = markN n ++ marksL ns := by simp [marksL]
    have hl := markN_len n
    rw [e, List.length_append] at hf
    obtain ⟨f, rfl⟩ : ∃ k, f = k + 1 := ⟨f - 1, by omega⟩
    have t : (markN n ++ marksL ns).take 12 = markN n := List.take_left' hl
    have d : (markN n ++ marksL ns).drop 12 = marksL ns := List.drop_left' hl
    rw [e, cntGo, if_pos (by rw [List.length_append]; omega), t, d, cntStep_mark (h n List.mem_cons_self), cntGo_marks ns f _ (fun x hx => h x (List.mem_cons_of_mem _ hx)) (by omega), List.foldl_cons]
theorem fold_max (k : Nat) : ((List.range k).map (· + 1)).foldl max 0 = k := by
  induction k with
  | zero => rfl
  | succ k ih =>
    rw [List.range_succ, List.map_append, List.foldl_append, ih]
    simp
theorem countN_marks {k : Nat} (h : k ≤ 131072) : countN (marksN k) = (k, false) := by
  unfold countN marksN
  rw [cntGo_marks _ _ _ (fun n hn => by
    obtain ⟨i, hi, rfl⟩ := List.mem_map.1 hn
    have := List.mem_range.1 hi
    omega) (Nat.le_refl _)]
  rw [fold_max]
theorem marksN_len (k : Nat) : (marksN k).length = 12 * k := by
  induction k with
  | zero => rfl
  | succ k ih => rw [marksN_succ, List.length_append, ih, markN_len]; omega
theorem marksN_byt (k : Nat) : Byt (marksN k) := by
  intro c hc
  obtain ⟨n, hn, h2⟩ := List.mem_flatMap.1 hc
  exact markN_lt n c h2
end Go.Proofs.YtnlepoplncjliaaGreatDoor

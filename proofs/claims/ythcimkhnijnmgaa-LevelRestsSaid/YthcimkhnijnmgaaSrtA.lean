/-
  Files in order: the order is a total one; a file of a list is set; plain. No condition.
-/
import Derived.Test.YthcimkhnijnmgaaEditC
import Derived.Test.YthcimkhnijnmgaaSrtP
namespace Go.Proofs.Ythcimkhnijnmgaa
open Go.RowKit

theorem bl_irr : ∀ x : List UInt8, Op.bytesLess x x = false
  | [] => rfl
  | a :: x => by rw [Op.bytesLess, bl_irr x]; simp
theorem bl_tr : ∀ x y z : List UInt8, Op.bytesLess x y = true → Op.bytesLess y z = true → Op.bytesLess x z = true
  | _, _, [], _, h => by rw [Op.bytesLess] at h; cases h
  | _, [], _ :: _, h, _ => by rw [Op.bytesLess] at h; cases h
  | [], _ :: _, _ :: _, _, _ => rfl
  | a :: x, b :: y, c :: z, h1, h2 => by
    rw [Op.bytesLess] at h1 h2 ⊢
    simp only [Bool.or_eq_true, Bool.and_eq_true, decide_eq_true_eq, beq_iff_eq] at h1 h2 ⊢
    rcases h1 with h1 | ⟨rfl, h1⟩
    · rcases h2 with h2 | ⟨rfl, h2⟩
      · exact .inl (UInt8.lt_trans h1 h2)
      · exact .inl h1
    · rcases h2 with h2 | ⟨rfl, h2⟩
      · exact .inl h2
      · exact .inr ⟨rfl, bl_tr x y z h1 h2⟩
theorem bl_tot : ∀ x y : List UInt8, Op.bytesLess x y = false → Op.bytesLess y x = false → x = y
  | [], [], _, _ => rfl
  | [], _ :: _, h, _ => by rw [Op.bytesLess] at h; cases h
  | _ :: _, [], _, h => by rw [Op.bytesLess] at h; cases h
  | a :: x, b :: y, h1, h2 => by
    rw [Op.bytesLess] at h1 h2
    simp only [Bool.or_eq_false_iff, Bool.and_eq_false_iff, decide_eq_false_iff_not, beq_eq_false_iff_ne] at h1 h2
    have hab : a = b := by
      rcases UInt8.lt_or_lt_of_ne (a := a) (b := b) |> fun f => (Decidable.em (a = b)).imp id f with h | h
      · exact h
      · rcases h with h | h
        · exact absurd h h1.1
        · exact absurd h h2.1
    subst hab
    rw [bl_tot x y (by rcases h1.2 with h | h; exact absurd rfl h; exact h) (by rcases h2.2 with h | h; exact absurd rfl h; exact h)]
/-- Is a file's place ahead of another one's? -/
def ltF (a b : Fl) : Prop := ordB a b < 0
theorem cmpI_lt {a b : Int} : cmpI a b < 0 ↔ a < b := by
  unfold cmpI
  split
  · simp_all
  · split <;> simp_all
theorem cmpS_lt {a b : List Nat} : cmpS a b < 0 ↔ ltB a b = true := by
  unfold cmpS
  cases ltB a b with
  | true => simp
  | false => cases eqS a b <;> simp
theorem ltF_iff {f g : Fl} : ltF f g ↔ f.level < g.level ∨ (f.level = g.level ∧ ((f.level = 0 ∧ g.num < f.num) ∨ (f.level ≠ 0 ∧ ltB f.first g.first = true))) := by
  unfold ltF ordB
  by_cases h1 : f.level = g.level
  · rw [if_neg (by simpa using h1)]
    by_cases h2 : f.level = 0
    · rw [if_pos h2, cmpI_lt]
      constructor
      · exact fun h => .inr ⟨h1, .inl ⟨h2, h⟩⟩
      · rintro (h | ⟨-, ⟨-, h⟩ | ⟨h, -⟩⟩)
        · omega
        · exact h
        · exact absurd h2 h
    · rw [if_neg h2, cmpS_lt]
      constructor
      · exact fun h => .inr ⟨h1, .inr ⟨h2, h⟩⟩
      · rintro (h | ⟨-, ⟨h, -⟩ | ⟨-, h⟩⟩)
        · omega
        · exact absurd h h2
        · exact h
  · rw [if_pos h1, cmpI_lt]
    constructor
    · exact .inl
    · rintro (h | ⟨h, -⟩)
      · exact h
      · exact absurd h h1
theorem ltB_irr (a : List Nat) : ltB a a = false := bl_irr _
theorem ltB_tr {a b c : List Nat} (h1 : ltB a b = true) (h2 : ltB b c = true) : ltB a c = true := bl_tr _ _ _ h1 h2
theorem ltB_neg {a b c : List Nat} (h1 : ltB a b = false) (h2 : ltB b c = false) : ltB a c = false := by
  cases h : ltB a c with
  | false => rfl
  | true =>
    exfalso
    cases hcb : ltB c b with
    | true => rw [ltB_tr h hcb] at h1; cases h1
    | false =>
      have e : (strOf b).toList = (strOf c).toList := bl_tot _ _ h2 hcb
      have : ltB a b = true := by unfold ltB; rw [e]; exact h
      rw [this] at h1; cases h1
theorem ltF_irr (a : Fl) : ¬ ltF a a := by rw [ltF_iff]; simp [ltB_irr]
/-- Is a file's place not behind another one's? -/
def leF (a b : Fl) : Prop := ¬ ltF b a
theorem leF_rf (a : Fl) : leF a a := ltF_irr a
theorem leF_tr : ∀ a b c : Fl, leF a b → leF b c → leF a c := fun a b c h1 h2 h3 => by
  unfold leF at h1 h2
  rw [ltF_iff] at h1 h2 h3
  rcases h3 with h3 | ⟨h3, ⟨h4, h5⟩ | ⟨h4, h5⟩⟩
  · by_cases hb : c.level < b.level
    · exact h2 (.inl hb)
    · exact h1 (.inl (by omega))
  · by_cases hb : c.level = b.level
    · by_cases hn : b.num < c.num
      · exact h2 (.inr ⟨hb, .inl ⟨h4, hn⟩⟩)
      · exact h1 (.inr ⟨by omega, .inl ⟨by omega, by omega⟩⟩)
    · by_cases hb2 : c.level < b.level
      · exact h2 (.inl hb2)
      · exact h1 (.inl (by omega))
  · by_cases hb : c.level = b.level
    · have x2 : ltB c.first b.first = false := by
        cases h : ltB c.first b.first with
        | false => rfl
        | true => exact absurd (.inr ⟨hb, .inr ⟨h4, h⟩⟩) h2
      have x1 : ltB b.first a.first = false := by
        cases h : ltB b.first a.first with
        | false => rfl
        | true => exact absurd (.inr ⟨by omega, .inr ⟨by omega, h⟩⟩) h1
      rw [ltB_neg x2 x1] at h5
      cases h5
    · by_cases hb2 : c.level < b.level
      · exact h2 (.inl hb2)
      · exact h1 (.inl (by omega))
theorem ltF_le {a b : Fl} (h : ltF a b) : leF a b := fun h2 => by
  rw [ltF_iff] at h h2
  rcases h with h | ⟨h, ⟨h4, h5⟩ | ⟨h4, h5⟩⟩ <;> rcases h2 with g | ⟨g, ⟨g4, g5⟩ | ⟨g4, g5⟩⟩ <;> first | omega | skip
  have := ltB_tr g5 h5
  rw [ltB_irr] at this
  cases this
theorem fcs_append (a b : List Fl) : fcs (a ++ b) = fcs a ++ fcs b := by unfold fcs; rw [List.flatMap_append]
theorem fcs_one (f : Fl) : fcs [f] = f.cs.toList := by simp [fcs]
/-- A list of files in a block. -/
def Rw (w : World) (g : Nat) (d : List Fl) (pad : List Value) : Prop := Blk w g 37 (fcs d ++ pad).toArray
theorem fcs_set {d : List Fl} {j : Nat} {pad : List Value} (f : Fl) (h : j < d.length) : ((fcs d ++ pad).toArray.toList.take (6 * j) ++ (f.cs.toList ++ (fcs d ++ pad).toArray.toList.drop (6 * j + f.cs.size))).toArray = (fcs (d.set j f) ++ pad).toArray := by
  have e := cut_at (List.getElem?_eq_getElem h)
  have hs : f.cs.size = 6 := rfl
  congr 1
  rw [hs]
  show (fcs d ++ pad).take (6 * j) ++ (f.cs.toList ++ (fcs d ++ pad).drop (6 * j + 6)) = fcs (d.set j f) ++ pad
  rw [List.set_eq_take_append_cons_drop, if_pos h]
  have h1 : (fcs (d.take j)).length = 6 * j := by rw [fcs_len, List.length_take]; omega
  have e2 : fcs d ++ pad = fcs (d.take j) ++ (fcs [d[j]] ++ (fcs (d.drop (j + 1)) ++ pad)) := by
    rw [← List.append_assoc (fcs [d[j]]), ← fcs_append, ← List.append_assoc, ← fcs_append]
    congr 2
  have h2 : (fcs [d[j]]).length = 6 := by rw [fcs_len]; rfl
  have t1 : (fcs d ++ pad).take (6 * j) = fcs (d.take j) := by rw [e2]; exact List.take_left' h1
  have t2 : (fcs d ++ pad).drop (6 * j + 6) = fcs (d.drop (j + 1)) ++ pad := by rw [e2, ← List.append_assoc]; exact List.drop_left' (by rw [List.length_append]; omega)
  rw [t1, t2]
  rw [show f :: d.drop (j + 1) = [f] ++ d.drop (j + 1) from rfl, fcs_append, fcs_append, fcs_one]
  simp only [List.append_assoc]
theorem fcs_ld {d : List Fl} {j : Nat} {pad : List Value} {f : Fl} (h : d[j]? = some f) : ∀ (i : Nat) (v : Value), f.cs.toList[i]? = some v → (fcs d ++ pad).toArray[6 * j + i]? = some v := fun i v hi => by
  have hj := (List.getElem?_eq_some_iff.1 h).1
  have h6 : i < 6 := (List.getElem?_eq_some_iff.1 hi).1
  rw [List.getElem?_toArray, List.getElem?_append_left (by rw [fcs_len]; omega), Nat.mul_comm]
  exact fcs_at h i v hi
end Go.Proofs.Ythcimkhnijnmgaa

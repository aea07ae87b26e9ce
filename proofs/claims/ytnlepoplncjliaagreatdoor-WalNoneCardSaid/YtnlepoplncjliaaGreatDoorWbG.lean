/-
  wal, plainly: what its methods do to a disk. No condition.
-/
import Derived.Test.YtnlepoplncjliaaGreatDoorWbF
namespace Go.Proofs.YtnlepoplncjliaaGreatDoor
open Go.RowKit

def logK : List Nat := 46 :: logB
def ackK : List Nat := 46 :: ackB
def newK : List Nat := 46 :: newB
/-- Without a file, if it is there. -/
def Dk.dropE (D : Dk) (nm : List Nat) : Int := if D.thereE [nm] nm = 7 then 0 else D.thereE [nm] nm
/-- A mark behind a file's bytes, safe. -/
def Dk.note (D : Dk) (ack : List Nat) (c : Nat) : Dk × Int :=
  if D.appendE ack (markN c) ≠ 0 then (D.append ack (markN c), D.appendE ack (markN c))
  else ((D.append ack (markN c)).sync ack, (D.append ack (markN c)).thereE [ack] ack)
/-- A segment's mark laid anew. -/
def Dk.fresh (D : Dk) (fresh ack : List Nat) (c : Nat) : Dk × Int :=
  if D.appendE fresh (markN c) ≠ 0 then (D.append fresh (markN c), D.appendE fresh (markN c))
  else if (D.append fresh (markN c)).thereE [fresh] fresh ≠ 0 then ((D.append fresh (markN c)).sync fresh, (D.append fresh (markN c)).thereE [fresh] fresh)
  else (((D.append fresh (markN c)).sync fresh).rename fresh ack, ((D.append fresh (markN c)).sync fresh).thereE [fresh, ack] fresh)
/-- A segment is sealed. -/
def Dk.again (D : Dk) (nm : List Nat) (n cnt : Nat) : Dk × Int :=
  if D.dropE (fileN nm n newK) ≠ 0 then (D.delete (fileN nm n newK), D.dropE (fileN nm n newK))
  else if 200 ≤ (D.delete (fileN nm n newK)).files.length then
    if (D.delete (fileN nm n newK)).dropE (fileN nm n ackK) ≠ 0 then ((D.delete (fileN nm n newK)).delete (fileN nm n ackK), (D.delete (fileN nm n newK)).dropE (fileN nm n ackK))
    else ((D.delete (fileN nm n newK)).delete (fileN nm n ackK)).note (fileN nm n ackK) (4294967296 + cnt)
  else (D.delete (fileN nm n newK)).fresh (fileN nm n newK) (fileN nm n ackK) (4294967296 + cnt)
/-- A file's bytes; those of none are none. -/
def Dk.datN (D : Dk) (nm : List Nat) : List Nat := ((D.get nm).map (·.data)).getD []
/-- A segment's records, and what becomes of the disk. -/
def segN (D : Dk) (nm : List Nat) (n : Nat) : Dk × Int × List (List Nat) :=
  if (allN (D.datN (fileN nm n logK))).1.length < (countN (D.datN (fileN nm n ackK))).1 then (D, 9, [])
  else if (countN (D.datN (fileN nm n ackK))).2 = true then (D, 0, (allN (D.datN (fileN nm n logK))).1.take (countN (D.datN (fileN nm n ackK))).1)
  else if (countN (D.datN (fileN nm n ackK))).1 < (allN (D.datN (fileN nm n logK))).1.length ∨ (allN (D.datN (fileN nm n logK))).2.1 < (D.datN (fileN nm n logK)).length then
    ((D.again nm n (allN (D.datN (fileN nm n logK))).1.length).1, (D.again nm n (allN (D.datN (fileN nm n logK))).1.length).2, (allN (D.datN (fileN nm n logK))).1)
  else (D, 0, (allN (D.datN (fileN nm n logK))).1)
theorem numsL_ex (nm : List Nat) (names : List (List Nat)) : ∃ l : List Nat, l.Pairwise (· < ·) ∧ l.length ≤ 1000000 ∧ ∀ n, n ∈ l ↔ NumIn nm names n := by
  classical
  obtain ⟨M, hM⟩ : ∃ M, M = 1000000 := ⟨_, rfl⟩
  refine ⟨(List.range M).filter fun n => decide (NumIn nm names n), List.Pairwise.filter _ List.pairwise_lt_range, Nat.le_trans (List.length_filter_le _ _) (by rw [List.length_range]; omega), fun n => ?_⟩
  rw [List.mem_filter, List.mem_range, decide_eq_true_eq]
  exact ⟨fun h => h.2, fun h => ⟨by have := h.1; omega, h⟩⟩
/-- The numbers that names tell, in order. -/
noncomputable def numsL (nm : List Nat) (names : List (List Nat)) : List Nat := Classical.choose (numsL_ex nm names)
theorem numsL_mem {nm : List Nat} {names : List (List Nat)} {n : Nat} : n ∈ numsL nm names ↔ NumIn nm names n := (Classical.choose_spec (numsL_ex nm names)).2.2 n
theorem numsL_inc {nm : List Nat} {names : List (List Nat)} : (numsL nm names).Pairwise (· < ·) := (Classical.choose_spec (numsL_ex nm names)).1
theorem numsL_len {nm : List Nat} {names : List (List Nat)} : (numsL nm names).length ≤ 1000000 := (Classical.choose_spec (numsL_ex nm names)).2.1
theorem inc_eq : ∀ {a b : List Nat}, a.Pairwise (· < ·) → b.Pairwise (· < ·) → (∀ n, n ∈ a ↔ n ∈ b) → a = b
  | [], [], _, _, _ => rfl
  | [], y :: b, _, _, h => absurd ((h y).2 List.mem_cons_self) (by simp)
  | x :: a, [], _, _, h => absurd ((h x).1 List.mem_cons_self) (by simp)
  | x :: a, y :: b, ha, hb, h => by
    rw [List.pairwise_cons] at ha hb
    have e : x = y := by
      rcases List.mem_cons.1 ((h x).1 List.mem_cons_self) with h1 | h1
      · exact h1
      · rcases List.mem_cons.1 ((h y).2 List.mem_cons_self) with h2 | h2
        · exact h2.symm
        · have := hb.1 x h1
          have := ha.1 y h2
          omega
    subst e
    congr 1
    refine inc_eq ha.2 hb.2 fun n => ⟨fun hn => ?_, fun hn => ?_⟩
    · rcases List.mem_cons.1 ((h n).1 (List.mem_cons_of_mem _ hn)) with h1 | h1
      · have := ha.1 n hn; omega
      · exact h1
    · rcases List.mem_cons.1 ((h n).2 (List.mem_cons_of_mem _ hn)) with h1 | h1
      · have := hb.1 n hn; omega
      · exact h1
/-- All segments, one behind the other: the disk, why not, the records, the next number. -/
def openGo (nm : List Nat) : List Nat → Dk → List (Nat × List Nat) → Nat → Dk × Int × List (Nat × List Nat) × Nat
  | [], D, acc, num => (D, 0, acc, num)
  | n :: r, D, acc, _ => if (segN D nm n).2.1 ≠ 0 then ((segN D nm n).1, (segN D nm n).2.1, [], 0) else openGo nm r (segN D nm n).1 (acc ++ (segN D nm n).2.2.map fun s => (n, s)) (n + 1)
noncomputable def openW (D : Dk) (nm : List Nat) : Dk × Int × List (Nat × List Nat) × Nat := openGo nm (numsL nm (D.files.map (·.1))) D [] 0
theorem thereE_off {D : Dk} {ns : List (List Nat)} {nm : List Nat} (h : D.thereE ns nm = 0 ∨ D.thereE ns nm = 7) : D.tick.off = false := by
  have hb : D.beginE ns = 0 := by
    unfold Dk.thereE at h
    split at h
    · rename_i h1
      unfold Dk.beginE at h h1
      split at h
      · rcases h with h | h <;> cases h
      · split at h
        · rename_i h2 h3; rw [if_neg h2, if_pos h3] at h1; exact absurd rfl h1
        · rcases h with h | h <;> cases h
    · rename_i h1; omega
  exact (beginE_zero hb).1
theorem sync_off (D : Dk) (nm : List Nat) : (D.sync nm).off = D.tick.off := by
  unfold Dk.sync
  split
  · split <;> rfl
  · rfl
theorem rename_off (D : Dk) (a b : List Nat) : (D.rename a b).off = D.tick.off := by
  unfold Dk.rename
  split
  · rfl
  · split <;> rfl
theorem note_off {D : Dk} {ack : List Nat} {c : Nat} (h : (D.note ack c).2 = 0) : (D.note ack c).1.off = false := by
  unfold Dk.note at h ⊢
  split at h
  · rename_i h1; exact absurd h h1
  · rename_i h1
    rw [if_neg h1, sync_off]
    exact thereE_off (.inl h)
theorem fresh_off {D : Dk} {a b : List Nat} {c : Nat} (h : (D.fresh a b c).2 = 0) : (D.fresh a b c).1.off = false := by
  unfold Dk.fresh at h ⊢
  split at h
  · rename_i h1; exact absurd h h1
  · rename_i h1
    rw [if_neg h1]
    split at h
    · rename_i h2; exact absurd h h2
    · rename_i h2
      rw [if_neg h2, rename_off]
      exact thereE_off (.inl h)
theorem again_off {D : Dk} {nm : List Nat} {n c : Nat} (h : (D.again nm n c).2 = 0) : (D.again nm n c).1.off = false := by
  unfold Dk.again at h ⊢
  split at h
  · rename_i h1; exact absurd h h1
  · rename_i h1
    rw [if_neg h1]
    split at h
    · rename_i h2
      rw [if_pos h2]
      split at h
      · rename_i h3; exact absurd h h3
      · rename_i h3
        rw [if_neg h3]
        exact note_off h
    · rename_i h2
      rw [if_neg h2]
      exact fresh_off h
theorem segN_off {D : Dk} {nm : List Nat} {n : Nat} (h0 : D.off = false) (h : (segN D nm n).2.1 = 0) : (segN D nm n).1.off = false := by
  unfold segN at h ⊢
  split at h
  · cases h
  rename_i h1
  rw [if_neg h1]
  split at h
  · rename_i h2
    rw [if_pos h2]
    exact h0
  rename_i h2
  rw [if_neg h2]
  split at h
  · rename_i h3
    rw [if_pos h3]
    exact again_off h
  · rename_i h3
    rw [if_neg h3]
    exact h0
end Go.Proofs.YtnlepoplncjliaaGreatDoor

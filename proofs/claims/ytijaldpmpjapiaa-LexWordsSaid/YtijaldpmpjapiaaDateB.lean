/-
  A day's text: what is said of it, in plain terms. No condition.
-/
import Derived.Test.YtijaldpmpjapiaaDateA
namespace Go.Proofs.Ytijaldpmpjapiaa
open Go.RowKit

def rawV (l : List Nat) : Int := l.foldl (fun (v : Int) (c : Nat) => 10 * v + (c : Int) - 48) 0
theorem num2_of (a b : Nat) : numZ [a, b] = if (48 ≤ a ∧ a ≤ 57) ∧ (48 ≤ b ∧ b ≤ 57) then 10 * ((a : Int) - 48) + ((b : Int) - 48) else -1 := by
  unfold numZ
  have e : ([a, b].all digB = true) ↔ ((48 ≤ a ∧ a ≤ 57) ∧ (48 ≤ b ∧ b ≤ 57)) := by simp [digB]
  by_cases h : (48 ≤ a ∧ a ≤ 57) ∧ (48 ≤ b ∧ b ≤ 57)
  · rw [if_pos (e.2 h), if_pos h]
    simp [valD]
    omega
  · rw [if_neg (fun x => h (e.1 x)), if_neg h]
theorem num4_of (a b c d : Nat) : numZ [a, b, c, d] = if (48 ≤ a ∧ a ≤ 57) ∧ (48 ≤ b ∧ b ≤ 57) ∧ (48 ≤ c ∧ c ≤ 57) ∧ (48 ≤ d ∧ d ≤ 57) then 1000 * ((a : Int) - 48) + 100 * ((b : Int) - 48) + 10 * ((c : Int) - 48) + ((d : Int) - 48) else -1 := by
  unfold numZ
  have e : ([a, b, c, d].all digB = true) ↔ ((48 ≤ a ∧ a ≤ 57) ∧ (48 ≤ b ∧ b ≤ 57) ∧ (48 ≤ c ∧ c ≤ 57) ∧ (48 ≤ d ∧ d ≤ 57)) := by simp [digB]
  by_cases h : (48 ≤ a ∧ a ≤ 57) ∧ (48 ≤ b ∧ b ≤ 57) ∧ (48 ≤ c ∧ c ≤ 57) ∧ (48 ≤ d ∧ d ≤ 57)
  · rw [if_pos (e.2 h), if_pos h]
    simp [valD]
    omega
  · rw [if_neg (fun x => h (e.1 x)), if_neg h]
theorem ten_of {l : List Nat} (h : l.length = 10) : ∃ c0 c1 c2 c3 c4 c5 c6 c7 c8 c9, l = [c0, c1, c2, c3, c4, c5, c6, c7, c8, c9] := by
  rcases l with _ | ⟨c0, _ | ⟨c1, _ | ⟨c2, _ | ⟨c3, _ | ⟨c4, _ | ⟨c5, _ | ⟨c6, _ | ⟨c7, _ | ⟨c8, _ | ⟨c9, _ | ⟨x, l⟩⟩⟩⟩⟩⟩⟩⟩⟩⟩⟩ <;> simp at h
  exact ⟨_, _, _, _, _, _, _, _, _, _, rfl⟩
theorem ofOk_bd {y m d : Int} (h : ofOk y m d = true) : 1970 ≤ y ∧ y ≤ 9999 ∧ 1 ≤ m ∧ m ≤ 12 ∧ 1 ≤ d ∧ d ≤ 31 := by
  obtain ⟨h1, h2, h3, h4, h5, h6, -⟩ := of_span h
  obtain ⟨-, -, h7⟩ := daysZ_m (y := y) (m := m) (by omega)
  exact ⟨h1, h2, h3, h4, h5, by omega⟩
/-- A text is a day's just if the day of its numbers has this text. -/
theorem day_law (l : List Nat) (h : l.length = 10) : (dateOk l = true ↔ (ofOk (rawV (l.take 4)) (rawV ((l.take 7).drop 5)) (rawV ((l.take 10).drop 8)) = true ∧ printD (rawV (l.take 4)).toNat (rawV ((l.take 7).drop 5)).toNat (rawV ((l.take 10).drop 8)).toNat = l)) ∧
    (dateOk l = true → dateZ l = ofZ (rawV (l.take 4)) (rawV ((l.take 7).drop 5)) (rawV ((l.take 10).drop 8))) := by
  obtain ⟨c0, c1, c2, c3, c4, c5, c6, c7, c8, c9, rfl⟩ := ten_of h
  have r1 : rawV [c0, c1, c2, c3] = 1000 * ((c0 : Int) - 48) + 100 * ((c1 : Int) - 48) + 10 * ((c2 : Int) - 48) + ((c3 : Int) - 48) := by simp [rawV]; omega
  have r2 : rawV [c5, c6] = 10 * ((c5 : Int) - 48) + ((c6 : Int) - 48) := by simp [rawV]; omega
  have r3 : rawV [c8, c9] = 10 * ((c8 : Int) - 48) + ((c9 : Int) - 48) := by simp [rawV]; omega
  have hk : dateOk [c0, c1, c2, c3, c4, c5, c6, c7, c8, c9] = (decide (c4 = 45) && decide (c7 = 45) && ofOk (numZ [c0, c1, c2, c3]) (numZ [c5, c6]) (numZ [c8, c9])) := by
    unfold dateOk
    simp
  have hz : dateZ [c0, c1, c2, c3, c4, c5, c6, c7, c8, c9] = if dateOk [c0, c1, c2, c3, c4, c5, c6, c7, c8, c9] = true then ofZ (numZ [c0, c1, c2, c3]) (numZ [c5, c6]) (numZ [c8, c9]) else 0 := rfl
  show (_ ↔ (ofOk (rawV [c0, c1, c2, c3]) (rawV [c5, c6]) (rawV [c8, c9]) = true ∧ printD (rawV [c0, c1, c2, c3]).toNat (rawV [c5, c6]).toNat (rawV [c8, c9]).toNat = _)) ∧ (_ → _ = ofZ (rawV [c0, c1, c2, c3]) (rawV [c5, c6]) (rawV [c8, c9]))
  rw [hz, hk]
  have key : (decide (c4 = 45) && decide (c7 = 45) && ofOk (numZ [c0, c1, c2, c3]) (numZ [c5, c6]) (numZ [c8, c9])) = true → numZ [c0, c1, c2, c3] = rawV [c0, c1, c2, c3] ∧ numZ [c5, c6] = rawV [c5, c6] ∧ numZ [c8, c9] = rawV [c8, c9] ∧ printD (rawV [c0, c1, c2, c3]).toNat (rawV [c5, c6]).toNat (rawV [c8, c9]).toNat = [c0, c1, c2, c3, c4, c5, c6, c7, c8, c9] := by
    intro hd
    simp at hd
    obtain ⟨⟨h4, h7⟩, ho⟩ := hd
    have hb := ofOk_bd ho
    rw [num4_of, num2_of, num2_of] at hb ⊢
    rw [r1, r2, r3]
    split at hb
    · rename_i d1
      split at hb
      · rename_i d2
        split at hb
        · rename_i d3
          rw [if_pos d1, if_pos d2, if_pos d3]
          refine ⟨rfl, rfl, rfl, ?_⟩
          unfold printD digR digR digR digR digR
          simp
          refine ⟨?_, ?_, ?_, ?_, ?_, ?_, ?_, ?_, ?_, ?_⟩ <;> omega
        · omega
      · omega
    · omega
  refine ⟨⟨fun hd => ?_, fun hd => ?_⟩, fun hd => ?_⟩
  · obtain ⟨k1, k2, k3, k4⟩ := key hd
    simp at hd
    rw [k1, k2, k3] at hd
    exact ⟨hd.2, k4⟩
  · obtain ⟨ho, hp⟩ := hd
    have hb := ofOk_bd ho
    generalize rawV [c0, c1, c2, c3] = Y at *
    generalize rawV [c5, c6] = M at *
    generalize rawV [c8, c9] = D at *
    unfold printD digR digR digR digR digR at hp
    simp at hp
    obtain ⟨p0, p1, p2, p3, p4, p5, p6, p7, p8, p9⟩ := hp
    have e1 : numZ [c0, c1, c2, c3] = Y := by rw [num4_of, if_pos (by omega)]; omega
    have e2 : numZ [c5, c6] = M := by rw [num2_of, if_pos (by omega)]; omega
    have e3 : numZ [c8, c9] = D := by rw [num2_of, if_pos (by omega)]; omega
    rw [e1, e2, e3, ho]
    simp
    omega
  · obtain ⟨k1, k2, k3, -⟩ := key hd
    rw [if_pos hd, k1, k2, k3]
end Go.Proofs.Ytijaldpmpjapiaa

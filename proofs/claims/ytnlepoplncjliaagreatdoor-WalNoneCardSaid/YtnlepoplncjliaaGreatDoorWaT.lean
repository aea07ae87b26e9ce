/-
  crc: Open, All. Condition: the table stands as it is laid; the lengths are within reach.
-/
import Derived.Test.YtnlepoplncjliaaGreatDoorWaR
namespace Go.Proofs.YtnlepoplncjliaaGreatDoor
open Go.RowKit

theorem raw_rest (k : Nat) (s : List Nat) : rest (rawP (k : Int)) (some s) = if k ≤ s.length then some (s.drop k) else none := by
  show ((rawP (k : Int) s)).map Prod.snd = _
  unfold rawP
  by_cases h : k ≤ s.length
  · rw [if_pos (by omega), if_pos h]; simp
  · rw [if_neg (by omega), if_neg h]; rfl
theorem raw_val (k : Nat) (s : List Nat) : rawV (k : Int) (some s) = if k ≤ s.length then s.take k else [] := by
  show ((rawP (k : Int) s).map Prod.fst).getD [] = _
  unfold rawP
  by_cases h : k ≤ s.length
  · rw [if_pos (by omega), if_pos h]; simp
  · rw [if_neg (by omega), if_neg h]; rfl
theorem raw_none (n : Int) : rest (rawP n) (none : Option (List Nat)) = none := rfl
/-- What is framed at the beginning: bytes, how many are taken, 0 whole, 1 short, 2 bad. -/
def openN (s : List Nat) : List Nat × Nat × Nat :=
  if s.length < 8 then ([], 0, 1)
  else if laidC (s.take 4) ≠ (s.drop 4).take 4 ∨ 131072 < valB (s.take 4) then ([], 0, 2)
  else if s.length < 12 + valB (s.take 4) then ([], 0, 1)
  else if laidC ((s.drop 8).take (valB (s.take 4))) ≠ (s.drop (8 + valB (s.take 4))).take 4 then ([], 0, 2)
  else ((s.drop 8).take (valB (s.take 4)), 12 + valB (s.take 4), 0)
set_option maxHeartbeats 2000000 in
theorem open_c_any (s : List Nat) (w : World) (hN : Nib w) (hs : Byt s) (hl : s.length ≤ 100000000) : Calls Tryz.prog 83 #[.string (strOf s)] w fun e w' => e = .returned (.tuple #[.string (strOf (openN s).1), .int .i64 ((openN s).2.1 : Int), .int .i64 ((openN s).2.2 : Int)]) ∧ Grow w w' := by
  have bel := Below.refl w.heap.size w
  refine Calls.start 48 Tryz.func83 rfl rfl rfl ?_
  refine Cd.seq ?_
  refine Cd.region ?_
  refine Seq.val (Runs.assign rfl rfl) rfl rfl rfl ?_
  refine Seq.val (Runs.assign rfl rfl) rfl rfl rfl ?_
  refine Seq.val (Runs.assign rfl rfl) rfl rfl rfl ?_
  refine Seq.nil ?_
  refine Post.weak (F' := [(0, _), (2, _), (3, _), (4, _)]) ⟨rfl, rfl, rfl, rfl, trivial⟩ ?_
  refine Post.then_ ?_
  refine Cd.seq ?_
  refine Cd.region ?_
  refine Seq.val (Runs.move rfl rfl) rfl rfl rfl ?_
  refine Seq.call (Enters.func rfl rfl rfl (run_enter Tryz.func84 (by kernel_rfl) rfl)) rfl rfl rfl (read_any s _ hs) ?_
  rintro e w1 ⟨g5, rfl, hb1, hg5, rd⟩
  refine ⟨_, rfl, ?_⟩
  replace bel := bel.step hb1
  have kf := Kf.refl g5 w1
  have bel0 := bel
  have hlt5 := rd.lt
  have hwhole : ∀ w', Kf g5 w1 w' → Below w.heap.size w w' := fun w' k => bel0.trans (k.to hg5 hlt5)
  clear bel
  refine Seq.val (Runs.assign rfl rfl) rfl rfl rfl ?_
  refine Seq.nil ?_
  refine Post.weak (F' := [(0, _), (2, _), (3, _), (4, _), (5, _)]) ⟨rfl, rfl, rfl, rfl, rfl, trivial⟩ ?_
  refine Post.then_ ?_
  refine Cd.seq ?_
  refine Cd.region ?_
  refine Seq.val (Runs.move rfl rfl) rfl rfl rfl ?_
  refine Seq.call (Enters.func rfl rfl rfl (run_enter Tryz.func121 (by kernel_rfl) rfl)) rfl rfl rfl (rfixed4_any g5 _ _ rd) ?_
  rintro e w1 ⟨⟨rfl, fWW, rd⟩, fw1, rd'⟩
  refine ⟨_, rfl, ?_⟩
  replace kf := kf.kf fw1 rd
  replace rd := rd'
  clear rd'
  refine Seq.val (Runs.move rfl rfl) rfl rfl rfl ?_
  refine Seq.call (Enters.func rfl rfl rfl (run_enter Tryz.func122 (by kernel_rfl) rfl)) rfl rfl rfl (rraw_any g5 4 _ _ rd) ?_
  rintro e w2 ⟨⟨rfl, fWW, rd⟩, fw2, rd'⟩
  refine ⟨_, rfl, ?_⟩
  replace kf := kf.kf fw2 rd
  replace rd := rd'
  clear rd'
  refine Seq.val (Runs.assign rfl rfl) rfl rfl rfl ?_
  refine Seq.val (Runs.assign rfl rfl) rfl rfl rfl ?_
  refine Seq.nil ?_
  refine Post.weak (F' := [(0, _), (2, _), (3, _), (4, _), (5, _), (6, _), (7, _)]) ⟨rfl, rfl, rfl, rfl, rfl, rfl, rfl, trivial⟩ ?_
  refine Post.then_ ?_
  refine Cd.seq ?_
  refine Cd.seq ?_
  refine Cd.region ?_
  refine Seq.val (Runs.move rfl rfl) rfl rfl rfl ?_
  have e4 : ((4 : Nat) : Int) = 4 := rfl
  have hr1 := raw_rest 4 s
  have hv1 := raw_val 4 s
  rw [e4] at hr1 hv1
  rw [hr1] at rd ⊢
  rw [hv1]
  obtain ⟨o2, ho2⟩ : ∃ o2, o2 = rest (rawP 4) (if 4 ≤ s.length then some (s.drop 4) else none) := ⟨_, rfl⟩
  have ho3 : o2 = if 8 ≤ s.length then some (s.drop 8) else none := by
    rw [ho2]
    by_cases h4 : 4 ≤ s.length
    · rw [if_pos h4]
      have := raw_rest 4 (s.drop 4)
      rw [e4] at this
      rw [this, List.length_drop, List.drop_drop]
      by_cases h8 : 8 ≤ s.length
      · rw [if_pos (by omega), if_pos h8]
      · rw [if_neg (by omega), if_neg h8]
    · rw [if_neg h4, if_neg (by omega)]; rfl
  rw [← ho2] at rd
  have hrd8 := rd
  refine Seq.call (Enters.func rfl rfl rfl (run_enter Tryz.func123 (by kernel_rfl) rfl)) rfl rfl rfl (good_any g5 o2 _ rd) ?_
  rintro e w5 ⟨rfl, hb5⟩
  refine ⟨_, rfl, ?_⟩
  replace kf := kf.step hb5
  replace rd := rd.step hb5
  refine Seq.val (Runs.not rfl rfl) rfl rfl rfl ?_
  refine Seq.nil ?_
  refine Post.weak (F' := [(0, _), (2, _), (3, _), (4, _), (5, _), (6, _), (7, _), (18, _)]) ⟨rfl, rfl, rfl, rfl, rfl, rfl, rfl, rfl, trivial⟩ ?_
  refine Post.then_ ?_
  refine Cd.cond rfl (fun h => ?_) (fun h => ?_)
  · have h8 : s.length < 8 := by
      rw [ho3] at h
      by_cases h8 : 8 ≤ s.length
      · rw [if_pos h8] at h; cases h
      · omega
    have hO : openN s = ([], 0, 1) := by unfold openN; rw [if_pos h8]
    rw [hO]
    refine Cd.seq ?_
    refine Cd.region ?_
    refine Seq.val (Runs.assign rfl rfl) rfl rfl rfl ?_
    refine Seq.val (Runs.assign rfl rfl) rfl rfl rfl ?_
    refine Seq.val (Runs.assign rfl rfl) rfl rfl rfl ?_
    refine Seq.nil ?_
    refine Post.weak (F' := [(0, _), (2, _), (3, _), (4, _), (5, _), (6, _), (7, _), (18, _)]) ⟨rfl, rfl, rfl, rfl, rfl, rfl, rfl, rfl, trivial⟩ ?_
    refine Post.then_ ?_
    refine Cd.ret ?_
    refine Post.then_ret ?_
    refine Post.end3 rfl rfl rfl rfl (.inl rfl) ?_
    exact ⟨rfl, hwhole _ kf⟩
  have h8 : 8 ≤ s.length := by
    rw [ho3] at h
    by_cases h8 : 8 ≤ s.length
    · exact h8
    · rw [if_neg h8] at h; cases h
  rw [if_pos h8] at ho3
  subst ho3
  have h4 : 4 ≤ s.length := by omega
  have hv2 := raw_val 4 (s.drop 4)
  rw [e4, if_pos (by rw [List.length_drop]; omega)] at hv2
  rw [if_pos h4, if_pos h4, hv2]
  obtain ⟨n, hn⟩ : ∃ n, n = valB (s.take 4) := ⟨_, rfl⟩
  have hn32 : n < 4294967296 := by
    have h1 := valB_lt (hs.take 4)
    rw [List.length_take, Nat.min_eq_left h4, show (256 : Nat) ^ 4 = 4294967296 by decide] at h1
    omega
  rw [← hn]
  have hO : openN s = if laidC (s.take 4) ≠ (s.drop 4).take 4 ∨ 131072 < n then ([], 0, 2) else if s.length < 12 + n then ([], 0, 1) else if laidC ((s.drop 8).take n) ≠ (s.drop (8 + n)).take 4 then ([], 0, 2) else ((s.drop 8).take n, 12 + n, 0) := by unfold openN; rw [if_neg (by omega), ← hn]
  have nb : Nib _ := hN.step (hwhole _ kf)
  refine Cd.skip ?_
  refine Post.then_ ?_
  refine Cd.seq ?_
  refine Cd.seq ?_
  refine Cd.region ?_
  refine Seq.val (Runs.move rfl rfl) rfl rfl rfl ?_
  refine Seq.val (Runs.sliceTo rfl rfl rfl Tryz.underlying9 (j := 4) rfl (by omega)) rfl rfl rfl ?_
  refine Seq.call (Enters.func rfl rfl rfl (run_enter Tryz.func65 (by kernel_rfl) rfl)) rfl rfl rfl (laid_c_any (s.take 4) _ nb (hs.take 4) (by rw [List.length_take]; omega)) ?_
  rintro e w6 ⟨rfl, hb6⟩
  refine ⟨_, rfl, ?_⟩
  replace kf := kf.step hb6
  replace rd := rd.step hb6
  refine Seq.val (Runs.move rfl rfl) rfl rfl rfl ?_
  refine Seq.val (Runs.neqL rfl rfl rfl (laidC_lt _) ((hs.drop 4).take 4)) rfl rfl rfl ?_
  refine Seq.val (Runs.move rfl rfl) rfl rfl rfl ?_
  refine SeqC.start ?_
  refine SeqC.open rfl rfl rfl rfl rfl rfl rfl (fun hcx => Runs.move rfl rfl) ?_
  refine SeqC.next rfl rfl rfl rfl rfl rfl rfl (fun hcx => Runs.gtr rfl rfl rfl) ?_
  refine SeqC.or rfl rfl rfl rfl rfl rfl rfl ?_
  refine Seq.nil ?_
  refine Post.weak (F' := [(0, _), (2, _), (3, _), (4, _), (5, _), (6, _), (7, _), (18, _), (27, _)]) ⟨rfl, rfl, rfl, rfl, rfl, rfl, rfl, rfl, rfl, trivial⟩ ?_
  refine Post.then_ ?_
  refine Cd.cond rfl (fun h => ?_) (fun h => ?_)
  · have h1 : laidC (s.take 4) ≠ (s.drop 4).take 4 ∨ 131072 < n := by
      have h' : (decide (laidC (s.take 4) ≠ (s.drop 4).take 4) || decide ((131072 : Int) < (n : Int))) = true := h
      rw [Bool.or_eq_true, decide_eq_true_eq, decide_eq_true_eq] at h'
      rcases h' with h' | h'
      · exact .inl h'
      · exact .inr (by omega)
    rw [if_pos h1] at hO
    rw [hO]
    refine Cd.seq ?_
    refine Cd.region ?_
    refine Seq.val (Runs.assign rfl rfl) rfl rfl rfl ?_
    refine Seq.val (Runs.assign rfl rfl) rfl rfl rfl ?_
    refine Seq.val (Runs.assign rfl rfl) rfl rfl rfl ?_
    refine Seq.nil ?_
    refine Post.weak (F' := [(0, _), (2, _), (3, _), (4, _), (5, _), (6, _), (7, _), (18, _), (27, _)]) ⟨rfl, rfl, rfl, rfl, rfl, rfl, rfl, rfl, rfl, trivial⟩ ?_
    refine Post.then_ ?_
    refine Cd.ret ?_
    refine Post.then_ret ?_
    refine Post.end3 rfl rfl rfl rfl (.inl rfl) ?_
    exact ⟨rfl, hwhole _ kf⟩
  have h1 : ¬ (laidC (s.take 4) ≠ (s.drop 4).take 4 ∨ 131072 < n) := by
    have h' : (decide (laidC (s.take 4) ≠ (s.drop 4).take 4) || decide ((131072 : Int) < (n : Int))) = false := h
    rw [Bool.or_eq_false_iff, decide_eq_false_iff_not, decide_eq_false_iff_not] at h'
    rintro (h2 | h2)
    · exact h'.1 h2
    · exact h'.2 (by omega)
  have hn17 : n ≤ 131072 := by
    have : ¬ (131072 < n) := fun h2 => h1 (.inr h2)
    omega
  rw [if_neg h1] at hO
  have hr3 := raw_rest n (s.drop 8)
  have hv3 := raw_val n (s.drop 8)
  refine Cd.skip ?_
  refine Post.then_ ?_
  refine Cd.seq ?_
  refine Cd.region ?_
  refine Seq.val (Runs.move rfl rfl) rfl rfl rfl ?_
  refine Seq.val (Runs.move rfl rfl) rfl rfl rfl ?_
  refine Seq.val (Runs.convI rfl rfl Tryz.underlying65 Tryz.underlying3 (wrapI (by omega) (by omega))) rfl rfl rfl ?_
  refine Seq.call (Enters.func rfl rfl rfl (run_enter Tryz.func122 (by kernel_rfl) rfl)) rfl rfl rfl (rraw_any g5 (n : Int) _ _ rd) ?_
  rintro e w3 ⟨⟨rfl, fWW, rd⟩, fw3, rd'⟩
  refine ⟨_, rfl, ?_⟩
  replace kf := kf.kf fw3 rd
  replace rd := rd'
  clear rd'
  rw [hv3]
  rw [hr3] at rd
  refine Seq.val (Runs.assign rfl rfl) rfl rfl rfl ?_
  refine Seq.nil ?_
  refine Post.weak (F' := [(0, _), (2, _), (3, _), (4, _), (5, _), (6, _), (7, _), (8, _), (18, _), (27, _)]) ⟨rfl, rfl, rfl, rfl, rfl, rfl, rfl, rfl, rfl, rfl, trivial⟩ ?_
  refine Post.then_ ?_
  refine Cd.seq ?_
  refine Cd.region ?_
  refine Seq.val (Runs.move rfl rfl) rfl rfl rfl ?_
  refine Seq.call (Enters.func rfl rfl rfl (run_enter Tryz.func122 (by kernel_rfl) rfl)) rfl rfl rfl (rraw_any g5 4 _ _ rd) ?_
  rintro e w4 ⟨⟨rfl, fWW, rd⟩, fw4, rd'⟩
  refine ⟨_, rfl, ?_⟩
  replace kf := kf.kf fw4 rd
  replace rd := rd'
  clear rd'
  obtain ⟨o4, ho4⟩ : ∃ o4, o4 = rest (rawP 4) (if n ≤ (s.drop 8).length then some ((s.drop 8).drop n) else none) := ⟨_, rfl⟩
  have ho5 : o4 = if 12 + n ≤ s.length then some (s.drop (12 + n)) else none := by
    rw [ho4]
    by_cases h5 : n ≤ (s.drop 8).length
    · rw [if_pos h5]
      have := raw_rest 4 ((s.drop 8).drop n)
      rw [e4] at this
      rw [List.length_drop] at h5
      rw [this, List.length_drop, List.length_drop, List.drop_drop, List.drop_drop]
      by_cases h6 : 12 + n ≤ s.length
      · rw [if_pos (by omega), if_pos h6]
        congr 2
        omega
      · rw [if_neg (by omega), if_neg h6]
    · rw [if_neg h5]
      rw [List.length_drop] at h5
      rw [if_neg (by omega)]
      rfl
  rw [← ho4] at rd
  refine Seq.val (Runs.assign rfl rfl) rfl rfl rfl ?_
  refine Seq.nil ?_
  refine Post.weak (F' := [(0, _), (2, _), (3, _), (4, _), (5, _), (6, _), (7, _), (8, _), (9, _), (18, _), (27, _)]) ⟨rfl, rfl, rfl, rfl, rfl, rfl, rfl, rfl, rfl, rfl, rfl, trivial⟩ ?_
  refine Post.then_ ?_
  refine Cd.seq ?_
  refine Cd.block ?_
  refine Cd.seq ?_
  refine Cd.region ?_
  refine Seq.val (Runs.move rfl rfl) rfl rfl rfl ?_
  refine Seq.call (Enters.func rfl rfl rfl (run_enter Tryz.func123 (by kernel_rfl) rfl)) rfl rfl rfl (good_any g5 o4 _ rd) ?_
  rintro e w7 ⟨rfl, hb7⟩
  refine ⟨_, rfl, ?_⟩
  replace kf := kf.step hb7
  replace rd := rd.step hb7
  refine Seq.val (Runs.not rfl rfl) rfl rfl rfl ?_
  refine Seq.val (Runs.assign rfl rfl) rfl rfl rfl ?_
  refine Seq.nil ?_
  refine Post.weak (F' := [(0, _), (2, _), (3, _), (4, _), (5, _), (6, _), (7, _), (8, _), (9, _), (18, _), (27, _), (34, _)]) ⟨rfl, rfl, rfl, rfl, rfl, rfl, rfl, rfl, rfl, rfl, rfl, rfl, trivial⟩ ?_
  refine Post.then_ ?_
  refine Cd.cond rfl (fun h => ?_) (fun h => ?_)
  · have h6 : s.length < 12 + n := by
      rw [ho5] at h
      by_cases h6 : 12 + n ≤ s.length
      · rw [if_pos h6] at h; cases h
      · omega
    rw [if_pos h6] at hO
    rw [hO]
    refine Cd.seq ?_
    refine Cd.region ?_
    refine Seq.val (Runs.assign rfl rfl) rfl rfl rfl ?_
    refine Seq.val (Runs.assign rfl rfl) rfl rfl rfl ?_
    refine Seq.val (Runs.assign rfl rfl) rfl rfl rfl ?_
    refine Seq.nil ?_
    refine Post.weak (F' := [(0, _), (2, _), (3, _), (4, _), (5, _), (6, _), (7, _), (8, _), (9, _), (18, _), (27, _), (34, _)]) ⟨rfl, rfl, rfl, rfl, rfl, rfl, rfl, rfl, rfl, rfl, rfl, rfl, trivial⟩ ?_
    refine Post.then_ ?_
    refine Cd.ret ?_
    refine Post.block_ret ?_
    refine Post.then_ret ?_
    refine Post.end3 rfl rfl rfl rfl (.inl rfl) ?_
    exact ⟨rfl, hwhole _ kf⟩
  have h6 : 12 + n ≤ s.length := by
    rw [ho5] at h
    by_cases h6 : 12 + n ≤ s.length
    · exact h6
    · rw [if_neg h6] at h; cases h
  have hn8 : n ≤ (s.drop 8).length := by rw [List.length_drop]; omega
  have hv4 := raw_val 4 ((s.drop 8).drop n)
  rw [e4, if_pos (by rw [List.length_drop, List.length_drop]; omega)] at hv4
  have hdd : (s.drop 8).drop n = s.drop (8 + n) := List.drop_drop
  rw [if_neg (by omega)] at hO
  rw [if_pos hn8, if_pos hn8, hv4, hdd]
  have nb : Nib _ := hN.step (hwhole _ kf)
  have hD : Byt ((s.drop 8).take n) := (hs.drop 8).take n
  have hDl : ((s.drop 8).take n).length = n := by rw [List.length_take]; omega
  refine Cd.seq ?_
  refine Cd.region ?_
  refine Seq.val (Runs.move rfl rfl) rfl rfl rfl ?_
  refine Seq.call (Enters.func rfl rfl rfl (run_enter Tryz.func65 (by kernel_rfl) rfl)) rfl rfl rfl (laid_c_any ((s.drop 8).take n) _ nb hD (by omega)) ?_
  rintro e w8 ⟨rfl, hb8⟩
  refine ⟨_, rfl, ?_⟩
  replace kf := kf.step hb8
  replace rd := rd.step hb8
  refine Seq.val (Runs.move rfl rfl) rfl rfl rfl ?_
  refine Seq.val (Runs.neqL rfl rfl rfl (laidC_lt _) ((hs.drop _).take 4)) rfl rfl rfl ?_
  refine Seq.val (Runs.assign rfl rfl) rfl rfl rfl ?_
  refine Seq.nil ?_
  refine Post.weak (F' := [(0, _), (2, _), (3, _), (4, _), (5, _), (6, _), (7, _), (8, _), (9, _), (18, _), (27, _), (34, _), (38, _)]) ⟨rfl, rfl, rfl, rfl, rfl, rfl, rfl, rfl, rfl, rfl, rfl, rfl, rfl, trivial⟩ ?_
  refine Post.then_ ?_
  refine Cd.cond rfl (fun h => ?_) (fun h => ?_)
  · have h7 : laidC ((s.drop 8).take n) ≠ (s.drop (8 + n)).take 4 := by simpa using h
    rw [if_pos h7] at hO
    rw [hO]
    refine Cd.seq ?_
    refine Cd.region ?_
    refine Seq.val (Runs.assign rfl rfl) rfl rfl rfl ?_
    refine Seq.val (Runs.assign rfl rfl) rfl rfl rfl ?_
    refine Seq.val (Runs.assign rfl rfl) rfl rfl rfl ?_
    refine Seq.nil ?_
    refine Post.weak (F' := [(0, _), (2, _), (3, _), (4, _), (5, _), (6, _), (7, _), (8, _), (9, _), (18, _), (27, _), (34, _), (38, _)]) ⟨rfl, rfl, rfl, rfl, rfl, rfl, rfl, rfl, rfl, rfl, rfl, rfl, rfl, trivial⟩ ?_
    refine Post.then_ ?_
    refine Cd.ret ?_
    refine Post.block_ret ?_
    refine Post.then_ret ?_
    refine Post.end3 rfl rfl rfl rfl (.inl rfl) ?_
    exact ⟨rfl, hwhole _ kf⟩
  have h7 : ¬ (laidC ((s.drop 8).take n) ≠ (s.drop (8 + n)).take 4) := by simpa using h
  rw [if_neg h7] at hO
  rw [hO]
  refine Cd.skip ?_
  refine Post.block_normal ?_
  refine Post.then_ ?_
  refine Cd.seq ?_
  refine Cd.region ?_
  refine Seq.val (Runs.move rfl rfl) rfl rfl rfl ?_
  refine Seq.val (Runs.move rfl rfl) rfl rfl rfl ?_
  refine Seq.val (Runs.lenL rfl rfl Tryz.underlying9) rfl rfl rfl ?_
  refine Seq.val (Runs.addI rfl rfl rfl (by omega) (by omega)) rfl rfl rfl ?_
  refine Seq.val (Runs.addI rfl rfl rfl (by omega) (by omega)) rfl rfl rfl ?_
  refine Seq.val (Runs.assign rfl rfl) rfl rfl rfl ?_
  refine Seq.val (Runs.assign rfl rfl) rfl rfl rfl ?_
  refine Seq.val (Runs.assign rfl rfl) rfl rfl rfl ?_
  refine Seq.nil ?_
  refine Post.weak (F' := [(0, _), (2, _), (3, _), (4, _), (5, _), (6, _), (7, _), (8, _), (9, _), (18, _), (27, _), (34, _), (38, _)]) ⟨rfl, rfl, rfl, rfl, rfl, rfl, rfl, rfl, rfl, rfl, rfl, rfl, rfl, trivial⟩ ?_
  refine Post.then_ ?_
  refine Cd.ret ?_
  refine Post.end3 rfl rfl rfl rfl (.inl rfl) ?_
  refine ⟨?_, hwhole _ kf⟩
  rw [hDl]
  have e12 : (8 : Int) + (n : Int) + 4 = ((12 + n : Nat) : Int) := by omega
  rw [← e12]
  rfl
end Go.Proofs.YtnlepoplncjliaaGreatDoor

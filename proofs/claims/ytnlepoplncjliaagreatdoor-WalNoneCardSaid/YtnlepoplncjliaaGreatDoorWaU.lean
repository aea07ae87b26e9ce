/-
  crc: All. Condition: the table stands as it is laid; the lengths are within reach.
-/
import Derived.Test.YtnlepoplncjliaaGreatDoorWaT
namespace Go.Proofs.YtnlepoplncjliaaGreatDoor
open Go.RowKit

def allGo : Nat → List Nat → List (List Nat) × Nat × Nat
  | 0, _ => ([], 0, 0)
  | f + 1, s => if s = [] then ([], 0, 0) else if (openN s).2.2 ≠ 0 then ([], 0, (openN s).2.2) else ((openN s).1 :: (allGo f (s.drop (openN s).2.1)).1, (openN s).2.1 + (allGo f (s.drop (openN s).2.1)).2.1, (allGo f (s.drop (openN s).2.1)).2.2)
/-- All that is framed, one behind the other; where it ends; why. -/
def allN (s : List Nat) : List (List Nat) × Nat × Nat := allGo s.length s
theorem openN_whole {s : List Nat} (h : (openN s).2.2 = 0) : 12 ≤ (openN s).2.1 ∧ (openN s).2.1 ≤ s.length ∧ (openN s).1.length + 12 = (openN s).2.1 := by
  unfold openN at h ⊢
  split at h
  · cases h
  rename_i h1
  rw [if_neg h1]
  split at h
  · cases h
  rename_i h2
  rw [if_neg h2]
  split at h
  · cases h
  rename_i h3
  rw [if_neg h3]
  split at h
  · cases h
  rename_i h4
  rw [if_neg h4]
  simp only [List.length_take, List.length_drop]
  omega
theorem openN_lt {s : List Nat} (h : Byt s) : Byt (openN s).1 := by
  unfold openN
  split
  · simp [Byt]
  split
  · simp [Byt]
  split
  · simp [Byt]
  split
  · simp [Byt]
  exact (h.drop 8).take _
theorem allGo_len : ∀ (f : Nat) (s : List Nat), (allGo f s).2.1 ≤ s.length ∧ 12 * (allGo f s).1.length ≤ (allGo f s).2.1
  | 0, s => ⟨Nat.zero_le _, Nat.le_refl _⟩
  | f + 1, s => by
    unfold allGo
    split
    · exact ⟨Nat.zero_le _, Nat.le_refl _⟩
    split
    · exact ⟨Nat.zero_le _, Nat.le_refl _⟩
    rename_i h
    have hw := openN_whole (s := s) (by simpa using h)
    have ih := allGo_len f (s.drop (openN s).2.1)
    rw [List.length_drop] at ih
    simp only [List.length_cons]
    omega
set_option maxHeartbeats 2000000 in
theorem all_any (s : List Nat) (w : World) (hN : Nib w) (hs : Byt s) (hl : s.length ≤ 10000000) : Calls Tryz.prog 60 #[.string (strOf s)] w fun e w' => ∃ v, e = .returned (.tuple #[v, .int .i64 ((allN s).2.1 : Int), .int .i64 ((allN s).2.2 : Int)]) ∧ Own w' w.heap.size 9 1 v (allN s).1.length (Ts (allN s).1) ∧ Grow w w' := by
  have bel := Below.refl w.heap.size w
  have own := Own.nil w w.heap.size 9 1
  refine Calls.start 36 Tryz.func60 rfl rfl rfl ?_
  refine Cd.seq ?_
  refine Cd.region ?_
  refine Seq.val (Runs.assign rfl rfl) rfl rfl rfl ?_
  refine Seq.val (Runs.assign rfl rfl) rfl rfl rfl ?_
  refine Seq.val (Runs.assign rfl rfl) rfl rfl rfl ?_
  refine Seq.nil ?_
  refine Post.weak (F' := [(0, _), (2, _), (3, _), (4, _)]) ⟨rfl, rfl, rfl, rfl, trivial⟩ ?_
  refine Post.then_ ?_
  refine Cd.seq ?_
  refine Cd.region ?_
  refine Seq.val (Runs.assign rfl rfl) rfl rfl rfl ?_
  refine Seq.nil ?_
  refine Post.weak (F' := [(0, _), (2, _), (3, _), (4, _), (5, _)]) ⟨rfl, rfl, rfl, rfl, rfl, trivial⟩ ?_
  refine Post.then_ ?_
  refine Cd.seq ?_
  refine Cd.region ?_
  refine Seq.val (Runs.assign rfl rfl) rfl rfl rfl ?_
  refine Seq.nil ?_
  refine Post.weak (F' := [(0, _), (2, _), (3, _), (4, _), (5, _), (6, _)]) ⟨rfl, rfl, rfl, rfl, rfl, rfl, trivial⟩ ?_
  refine Post.then_ ?_
  refine Cd.seq ?_
  refine Cd.block ?_
  refine Cd.loop (σ := List (List Nat) × Nat × Nat × Value) (fun q => [(0, .string (strOf s)), (5, q.2.2.2), (6, .int .i64 (q.2.1 : Int))]) (fun q wr => q.2.1 ≤ s.length ∧ s.length - q.2.1 ≤ q.2.2.1 ∧ 12 * q.1.length ≤ q.2.1 ∧ allN s = (q.1 ++ (allGo q.2.2.1 (s.drop q.2.1)).1, q.2.1 + (allGo q.2.2.1 (s.drop q.2.1)).2.1, (allGo q.2.2.1 (s.drop q.2.1)).2.2) ∧ Below w.heap.size w wr ∧ Own wr w.heap.size 9 1 q.2.2.2 q.1.length (Ts q.1)) (fun q => q.2.2.1) ([], 0, s.length, .slice none 0 0) ⟨Nat.zero_le _, by simp, Nat.le_refl _, by simp [allN], bel, own⟩ ⟨rfl, rfl, rfl, trivial⟩ ?_
  clear bel own
  rintro ⟨l, at_, f, v⟩ wr ⟨hat, hf, hlen, hall, bel, own⟩
  simp only at hat hf hlen hall own
  obtain ⟨A, c, rfl, -⟩ := own.reads
  show Cd _ _ _ _ [(0, .string (strOf s)), (5, .slice A l.length c), (6, .int .i64 (at_ : Int))] _
  refine Cd.seq ?_
  refine Cd.seq ?_
  refine Cd.region ?_
  refine Seq.val (Runs.move rfl rfl) rfl rfl rfl ?_
  refine Seq.val (Runs.move rfl rfl) rfl rfl rfl ?_
  refine Seq.val (Runs.lenL rfl rfl Tryz.underlying9) rfl rfl rfl ?_
  refine Seq.val (Runs.lss rfl rfl rfl) rfl rfl rfl ?_
  refine Seq.nil ?_
  refine Post.weak (F' := [(0, _), (5, _), (6, _), (13, _)]) ⟨rfl, rfl, rfl, rfl, trivial⟩ ?_
  refine Post.then_ ?_
  refine Cd.condD rfl (fun hc => ?_) (fun hc => ?_)
  · obtain ⟨f, rfl⟩ : ∃ k, f = k + 1 := ⟨f - 1, by omega⟩
    obtain ⟨S, hS⟩ : ∃ S, S = s.drop at_ := ⟨_, rfl⟩
    have hSl : S.length = s.length - at_ := by rw [hS, List.length_drop]
    have hSne : S ≠ [] := fun e => by rw [e] at hSl; simp at hSl; omega
    have hSb : Byt S := by rw [hS]; exact hs.drop _
    rw [← hS] at hall
    have hgo : allGo (f + 1) S = if (openN S).2.2 ≠ 0 then ([], 0, (openN S).2.2) else ((openN S).1 :: (allGo f (S.drop (openN S).2.1)).1, (openN S).2.1 + (allGo f (S.drop (openN S).2.1)).2.1, (allGo f (S.drop (openN S).2.1)).2.2) := by rw [allGo, if_neg hSne]
    have nb : Nib wr := hN.step bel
    refine Cd.skip ?_
    refine Post.then_ ?_
    refine Cd.block ?_
    refine Cd.seq ?_
    refine Cd.region ?_
    refine Seq.val (Runs.move rfl rfl) rfl rfl rfl ?_
    refine Seq.val (Runs.move rfl rfl) rfl rfl rfl ?_
    refine Seq.val (Runs.sliceFrom rfl rfl rfl Tryz.underlying9 (j := at_) rfl (by omega)) rfl rfl rfl ?_
    rw [← hS]
    refine Seq.call (Enters.func rfl rfl rfl (run_enter Tryz.func83 (by kernel_rfl) rfl)) rfl rfl rfl (open_c_any S _ nb hSb (by omega)) ?_
    rintro e w5 ⟨rfl, hb5⟩
    refine ⟨_, rfl, ?_⟩
    replace bel := bel.step hb5
    replace own := own.step hb5
    refine Seq.val (Runs.move rfl rfl) rfl rfl rfl ?_
    refine Seq.val (Runs.extract rfl rfl rfl) rfl rfl rfl ?_
    refine Seq.val (Runs.extract rfl rfl rfl) rfl rfl rfl ?_
    refine Seq.val (Runs.extract rfl rfl rfl) rfl rfl rfl ?_
    refine Seq.val (Runs.assign rfl rfl) rfl rfl rfl ?_
    refine Seq.val (Runs.assign rfl rfl) rfl rfl rfl ?_
    refine Seq.val (Runs.assign rfl rfl) rfl rfl rfl ?_
    refine Seq.nil ?_
    refine Post.weak (F' := [(0, _), (5, _), (6, _), (7, _), (8, _), (9, _), (13, _)]) ⟨rfl, rfl, rfl, rfl, rfl, rfl, rfl, trivial⟩ ?_
    refine Post.then_ ?_
    refine Cd.seq ?_
    refine Cd.seq ?_
    refine Cd.region ?_
    refine Seq.val (Runs.move rfl rfl) rfl rfl rfl ?_
    refine Seq.val (Runs.neqI rfl rfl rfl) rfl rfl rfl ?_
    refine Seq.nil ?_
    refine Post.weak (F' := [(0, _), (5, _), (6, _), (7, _), (8, _), (9, _), (13, _), (23, _)]) ⟨rfl, rfl, rfl, rfl, rfl, rfl, rfl, rfl, trivial⟩ ?_
    refine Post.then_ ?_
    refine Cd.cond rfl (fun h => ?_) (fun h => ?_)
    · have h : (openN S).2.2 ≠ 0 := by
        have : ((openN S).2.2 : Int) ≠ 0 := by simpa using h
        omega
      rw [if_pos h] at hgo
      rw [hgo] at hall
      simp only [List.append_nil, Nat.add_zero] at hall
      rw [hall]
      refine Cd.seq ?_
      refine Cd.region ?_
      refine Seq.val (Runs.move rfl rfl) rfl rfl rfl ?_
      refine Seq.val (Runs.move rfl rfl) rfl rfl rfl ?_
      refine Seq.val (Runs.move rfl rfl) rfl rfl rfl ?_
      refine Seq.val (Runs.assign rfl rfl) rfl rfl rfl ?_
      refine Seq.val (Runs.assign rfl rfl) rfl rfl rfl ?_
      refine Seq.val (Runs.assign rfl rfl) rfl rfl rfl ?_
      refine Seq.nil ?_
      refine Post.weak (F' := [(0, _), (2, _), (3, _), (4, _), (5, _), (6, _), (7, _), (8, _), (9, _), (13, _), (23, _)]) ⟨rfl, rfl, rfl, rfl, rfl, rfl, rfl, rfl, rfl, rfl, rfl, trivial⟩ ?_
      refine Post.then_ ?_
      refine Cd.ret ?_
      refine Post.then_ret ?_
      refine Post.block_ret ?_
      refine Post.round_ret ?_
      refine Post.block_ret ?_
      refine Post.then_ret ?_
      refine Post.end3 rfl rfl rfl rfl (.inl rfl) ?_
      exact ⟨_, rfl, own, bel⟩
    have h : (openN S).2.2 = 0 := by
      have : ((openN S).2.2 : Int) = 0 := by simpa using h
      omega
    rw [if_neg (by omega)] at hgo
    have hw := openN_whole h
    rw [hgo] at hall
    refine Cd.skip ?_
    refine Post.then_ ?_
    refine Cd.seq ?_
    refine Cd.region ?_
    refine Seq.val (Runs.move rfl rfl) rfl rfl rfl ?_
    refine Seq.val (Runs.move rfl rfl) rfl rfl rfl ?_
    refine Seq.slice (vs := [_]) (s := 1) rfl rfl rfl Tryz.underlying22 (by kernel_rfl) (zero_string) (by omega) (by omega) ⟨rfl, trivial⟩ rfl rfl rfl ?_
    intro g29 w1 n29
    have e29 := Nat.le_trans bel.size n29.ge
    replace bel := bel.step n29.below
    replace own := own.step n29.below
    have k29 := n29.blk
    have hrx := Reads.blk (size := 1) k29 1 rfl
    refine Seq.append rfl rfl rfl Tryz.underlying22 (by kernel_rfl) zero_string rfl (by decide) (b := 16) (by kernel_rfl) own hrx (ones_Ts [(openN S).1]) bel.size (by simp only [maxLen]; omega) (by omega) rfl rfl rfl ?_
    intro v2 wb own2 ha
    have bel2 := bel.trans ha.below
    replace own2 : Own wb w.heap.size 9 1 v2 (l.length + 1) (Ts l ++ Ts [(openN S).1]) := own2
    rw [← Ts_append] at own2
    clear bel own k29 hrx ha
    have bel := bel2
    have own := own2
    clear bel2 own2
    refine Seq.val (Runs.assign rfl rfl) rfl rfl rfl ?_
    refine Seq.nil ?_
    refine Post.weak (F' := [(0, _), (5, _), (6, _), (7, _), (8, _), (9, _), (13, _), (23, _)]) ⟨rfl, rfl, rfl, rfl, rfl, rfl, rfl, rfl, trivial⟩ ?_
    refine Post.then_ ?_
    refine Cd.region ?_
    refine Seq.val (Runs.move rfl rfl) rfl rfl rfl ?_
    refine Seq.val (Runs.move rfl rfl) rfl rfl rfl ?_
    refine Seq.val (Runs.addI rfl rfl rfl (by omega) (by omega)) rfl rfl rfl ?_
    refine Seq.val (Runs.assign rfl rfl) rfl rfl rfl ?_
    refine Seq.nil ?_
    refine Post.weak (F' := [(0, _), (5, _), (6, _), (7, _), (8, _), (9, _), (13, _), (23, _)]) ⟨rfl, rfl, rfl, rfl, rfl, rfl, rfl, rfl, trivial⟩ ?_
    refine Post.block_normal ?_
    refine Post.round (l ++ [(openN S).1], at_ + (openN S).2.1, f, v2) ⟨rfl, rfl, rfl, trivial⟩ ⟨by simp only; omega, by simp only; omega, by simp only [List.length_append, List.length_singleton]; omega, ?_, bel, by simpa using own⟩ (by simp)
    rw [hall, hS, List.drop_drop]
    simp [Nat.add_assoc]
  · obtain rfl : at_ = s.length := by omega
    have hnil : s.drop s.length = [] := List.drop_length
    rw [hnil] at hall
    have hgo : allGo f [] = ([], 0, 0) := by cases f <;> simp [allGo]
    rw [hgo] at hall
    simp only [List.append_nil, Nat.add_zero] at hall
    rw [hall]
    refine Cd.exit ?_
    refine Post.then_exit ?_
    refine Post.round_exit ?_
    refine Post.block_exit ?_
    refine Post.then_ ?_
    refine Cd.seq ?_
    refine Cd.region ?_
    refine Seq.val (Runs.move rfl rfl) rfl rfl rfl ?_
    refine Seq.val (Runs.move rfl rfl) rfl rfl rfl ?_
    refine Seq.val (Runs.assign rfl rfl) rfl rfl rfl ?_
    refine Seq.val (Runs.assign rfl rfl) rfl rfl rfl ?_
    refine Seq.val (Runs.assign rfl rfl) rfl rfl rfl ?_
    refine Seq.nil ?_
    refine Post.weak (F' := [(0, _), (2, _), (3, _), (4, _), (5, _), (6, _), (13, _)]) ⟨rfl, rfl, rfl, rfl, rfl, rfl, rfl, trivial⟩ ?_
    refine Post.then_ ?_
    refine Cd.ret ?_
    refine Post.end3 rfl rfl rfl rfl (.inl rfl) ?_
    exact ⟨_, rfl, own, bel⟩
end Go.Proofs.YtnlepoplncjliaaGreatDoor

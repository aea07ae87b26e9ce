/-
  wal: marks: one of a count, and what marks tell. Condition: the table stands as it is laid; the lengths are within reach.
-/
import Derived.Test.YtnlepoplncjliaaGreatDoorWaU
namespace Go.Proofs.YtnlepoplncjliaaGreatDoor
open Go.RowKit

/-- A mark of a count. -/
def markN (n : Nat) : List Nat := beB 8 n ++ laidC (beB 8 n)
theorem markN_len (n : Nat) : (markN n).length = 12 := by unfold markN; rw [List.length_append, beB_len, laidC_len]
theorem markN_lt (n : Nat) : Byt (markN n) := Byt.app (beB_lt 8 _) (laidC_lt _)
theorem marked_any (n : Nat) (w : World) (hN : Nib w) (hn : n ≤ 9223372036854775807) : Calls Tryz.prog 86 #[.int .i64 (n : Int)] w fun e w' => e = .returned (.string (strOf (markN n))) ∧ Grow w w' := by
  have bel := Below.refl w.heap.size w
  have nb := hN
  refine Calls.start 16 Tryz.func86 rfl rfl rfl ?_
  refine Cd.seq ?_
  refine Cd.region ?_
  refine Seq.val (Runs.assign rfl rfl) rfl rfl rfl ?_
  refine Seq.nil ?_
  refine Post.weak (F' := [(0, _), (2, _)]) ⟨rfl, rfl, trivial⟩ ?_
  refine Post.then_ ?_
  refine Cd.seq ?_
  refine Cd.region ?_
  refine Seq.val (Runs.build rfl rfl (run_build_Wr0 _)) rfl rfl rfl ?_
  refine Seq.box rfl rfl rfl rfl rfl ?_
  intro g5 w1 n5
  have e5 := Nat.le_trans bel.size n5.ge
  replace bel := bel.step n5.below
  replace nb := nb.step n5.below
  have k5 := n5.blk
  refine Seq.val (Runs.assign rfl rfl) rfl rfl rfl ?_
  refine Seq.nil ?_
  refine Post.weak (F' := [(0, _), (2, _), (3, _)]) ⟨rfl, rfl, rfl, trivial⟩ ?_
  refine Post.then_ ?_
  refine Cd.seq ?_
  refine Cd.region ?_
  refine Seq.val (Runs.move rfl rfl) rfl rfl rfl ?_
  refine Seq.val (Runs.move rfl rfl) rfl rfl rfl ?_
  have wr : Wr w1 g5 g5 [] := ⟨Nat.le_refl _, fun d hd => (by cases hd), _, k5, Own.nil _ _ _ _⟩
  have wf := Wf.refl g5 w1
  have hg5 : g5 ≤ w1.heap.size := Nat.le_of_lt n5.lt
  have h3 : 3 < g5 := by have := hN.lt; omega
  refine Seq.val (Runs.convU (r := n) rfl rfl Tryz.underlying3 Tryz.underlying97 (by omega)) rfl rfl rfl ?_
  refine Seq.call (Enters.func rfl rfl rfl (run_enter Tryz.func125 (by kernel_rfl) rfl)) rfl rfl rfl (fixed8_any g5 g5 n [] _ wr (by omega) (by simp)) ?_
  clear wr
  rintro e w2 ⟨rfl, fw2, wr⟩
  refine ⟨_, rfl, ?_⟩
  replace nb := nb.wf fw2
  replace wf := wf.wf fw2
  refine Seq.nil ?_
  refine Post.weak (F' := [(0, _), (2, _), (3, _)]) ⟨rfl, rfl, rfl, trivial⟩ ?_
  refine Post.then_ ?_
  refine Cd.seq ?_
  refine Cd.region ?_
  refine Seq.val (Runs.move rfl rfl) rfl rfl rfl ?_
  refine Seq.val (Runs.move rfl rfl) rfl rfl rfl ?_
  rw [List.nil_append] at wr
  refine Seq.call (Enters.func rfl rfl rfl (run_enter Tryz.func66 (by kernel_rfl) rfl)) rfl rfl rfl (wbytes_any g5 g5 _ _ wr) ?_
  rintro e w7 ⟨rfl, hb7⟩
  refine ⟨_, rfl, ?_⟩
  replace nb := nb.step hb7
  replace wf := wf.step hb7
  replace wr := wr.step hb7
  refine Seq.call (Enters.func rfl rfl rfl (run_enter Tryz.func65 (by kernel_rfl) rfl)) rfl rfl rfl (laid_c_any _ _ nb (beB_lt 8 _) (by rw [beB_len]; omega)) ?_
  rintro e w8 ⟨rfl, hb8⟩
  refine ⟨_, rfl, ?_⟩
  replace nb := nb.step hb8
  replace wf := wf.step hb8
  replace wr := wr.step hb8
  refine Seq.call (Enters.func rfl rfl rfl (run_enter Tryz.func64 (by kernel_rfl) rfl)) rfl rfl rfl (raw_any g5 g5 (laidC (beB 8 n)) _ _ wr (laidC_lt _) (by rw [beB_len, laidC_len]; omega)) ?_
  clear wr
  rintro e w3 ⟨rfl, fw3, wr⟩
  refine ⟨_, rfl, ?_⟩
  replace nb := nb.wf fw3
  replace wf := wf.wf fw3
  refine Seq.call (Enters.func rfl rfl rfl (run_enter Tryz.func66 (by kernel_rfl) rfl)) rfl rfl rfl (wbytes_any g5 g5 _ _ wr) ?_
  rintro e w10 ⟨rfl, hb10⟩
  refine ⟨_, rfl, ?_⟩
  replace nb := nb.step hb10
  replace wf := wf.step hb10
  replace wr := wr.step hb10
  refine Seq.val (Runs.assign rfl rfl) rfl rfl rfl ?_
  refine Seq.nil ?_
  refine Post.weak (F' := [(0, _), (2, _), (3, _)]) ⟨rfl, rfl, rfl, trivial⟩ ?_
  refine Post.then_ ?_
  refine Cd.ret ?_
  refine Post.end1 rfl rfl (.inl rfl) ?_
  exact ⟨rfl, bel.trans ((wf.to hg5).mono e5)⟩
/-- One mark more. -/
def cntStep (a : Nat × Bool) (x : List Nat) : Nat × Bool :=
  if 4295098368 < valB (x.take 8) ∨ x ≠ markN (valB (x.take 8)) then a
  else if 4294967296 ≤ valB (x.take 8) then (if valB (x.take 8) - 4294967296 ≤ 131072 then max a.1 (valB (x.take 8) - 4294967296) else a.1, true)
  else (if valB (x.take 8) ≤ 131072 then max a.1 (valB (x.take 8)) else a.1, a.2)
def cntGo : Nat → Nat × Bool → List Nat → Nat × Bool
  | 0, a, _ => a
  | f + 1, a, s => if 12 ≤ s.length then cntGo f (cntStep a (s.take 12)) (s.drop 12) else a
/-- The greatest count of marks, and whether one seals. -/
def countN (s : List Nat) : Nat × Bool := cntGo s.length (0, false) s
theorem cntStep_le {a : Nat × Bool} {x : List Nat} (h : a.1 ≤ 131072) : (cntStep a x).1 ≤ 131072 := by
  unfold cntStep
  split
  · exact h
  split
  · simp only
    split <;> omega
  · simp only
    split <;> omega
set_option maxHeartbeats 4000000 in
theorem counted_any (s : List Nat) (w : World) (hN : Nib w) (hs : Byt s) (hl : s.length ≤ 10000000) : Calls Tryz.prog 61 #[.string (strOf s)] w fun e w' => e = .returned (.tuple #[.int .i64 ((countN s).1 : Int), .bool (countN s).2]) ∧ Grow w w' := by
  have bel := Below.refl w.heap.size w
  refine Calls.start 45 Tryz.func61 rfl rfl rfl ?_
  refine Cd.seq ?_
  refine Cd.region ?_
  refine Seq.val (Runs.assign rfl rfl) rfl rfl rfl ?_
  refine Seq.val (Runs.assign rfl rfl) rfl rfl rfl ?_
  refine Seq.nil ?_
  refine Post.weak (F' := [(0, _), (2, _), (3, _)]) ⟨rfl, rfl, rfl, trivial⟩ ?_
  refine Post.then_ ?_
  refine Cd.seq ?_
  refine Cd.region ?_
  refine Seq.val (Runs.assign rfl rfl) rfl rfl rfl ?_
  refine Seq.val (Runs.assign rfl rfl) rfl rfl rfl ?_
  refine Seq.nil ?_
  refine Post.weak (F' := [(0, _), (2, _), (3, _), (4, _), (5, _)]) ⟨rfl, rfl, rfl, rfl, rfl, trivial⟩ ?_
  refine Post.then_ ?_
  refine Cd.seq ?_
  refine Cd.seq ?_
  refine Cd.region ?_
  refine Seq.val (Runs.assign rfl rfl) rfl rfl rfl ?_
  refine Seq.nil ?_
  refine Post.weak (F' := [(0, _), (2, _), (3, _), (4, _), (5, _), (6, _)]) ⟨rfl, rfl, rfl, rfl, rfl, rfl, trivial⟩ ?_
  refine Post.then_ ?_
  refine Cd.block ?_
  refine Cd.loop (σ := (Nat × Bool) × Nat × Nat) (fun q => [(0, .string (strOf s)), (4, .int .i64 (q.1.1 : Int)), (5, .bool q.1.2), (6, .int .i64 (q.2.1 : Int))]) (fun q wr => q.2.1 ≤ s.length ∧ s.length - q.2.1 ≤ q.2.2 ∧ q.1.1 ≤ 131072 ∧ countN s = cntGo q.2.2 q.1 (s.drop q.2.1) ∧ Below w.heap.size w wr) (fun q => q.2.2) ((0, false), 0, s.length) ⟨Nat.zero_le _, by simp, by simp, rfl, bel⟩ ⟨rfl, rfl, rfl, rfl, trivial⟩ ?_
  clear bel
  rintro ⟨⟨m, b⟩, at_, f⟩ wr ⟨hat, hf, hm, hall, bel⟩
  simp only at hat hf hm hall
  show Cd _ _ _ _ [(0, .string (strOf s)), (4, .int .i64 (m : Int)), (5, .bool b), (6, .int .i64 (at_ : Int))] _
  refine Cd.seq ?_
  refine Cd.seq ?_
  refine Cd.region ?_
  refine Seq.val (Runs.move rfl rfl) rfl rfl rfl ?_
  refine Seq.val (Runs.addI rfl rfl rfl (by omega) (by omega)) rfl rfl rfl ?_
  refine Seq.val (Runs.move rfl rfl) rfl rfl rfl ?_
  refine Seq.val (Runs.lenL rfl rfl Tryz.underlying9) rfl rfl rfl ?_
  refine Seq.val (Runs.leq rfl rfl rfl) rfl rfl rfl ?_
  refine Seq.nil ?_
  refine Post.weak (F' := [(0, _), (4, _), (5, _), (6, _), (12, _)]) ⟨rfl, rfl, rfl, rfl, rfl, trivial⟩ ?_
  refine Post.then_ ?_
  refine Cd.condD rfl (fun hc => ?_) (fun hc => ?_)
  · obtain ⟨f, rfl⟩ : ∃ k, f = k + 1 := ⟨f - 1, by omega⟩
    obtain ⟨S, hS⟩ : ∃ S, S = s.drop at_ := ⟨_, rfl⟩
    have hSl : S.length = s.length - at_ := by rw [hS, List.length_drop]
    have hSb : Byt S := by rw [hS]; exact hs.drop _
    rw [← hS] at hall
    have hgo : cntGo (f + 1) (m, b) S = cntGo f (cntStep (m, b) (S.take 12)) (s.drop (at_ + 12)) := by rw [cntGo, if_pos (by omega), hS, List.drop_drop]
    rw [hgo] at hall
    have hX8 : (S.take 12).take 8 = S.take 8 := by rw [List.take_take]; rfl
    obtain ⟨n, hn⟩ : ∃ n, n = valB (S.take 8) := ⟨_, rfl⟩
    have hst : cntStep (m, b) (S.take 12) = if 4295098368 < n ∨ S.take 12 ≠ markN n then (m, b) else if 4294967296 ≤ n then (if n - 4294967296 ≤ 131072 then max m (n - 4294967296) else m, true) else (if n ≤ 131072 then max m n else m, b) := by unfold cntStep; rw [hX8, ← hn]
    have hn64 : n < 18446744073709551616 := by
      have h1 := valB_lt (hSb.take 8)
      rw [List.length_take, Nat.min_eq_left (by omega), show (256 : Nat) ^ 8 = 18446744073709551616 by decide] at h1
      omega
    have nb : Nib wr := hN.step bel
    have hle := cntStep_le (a := (m, b)) (x := S.take 12) hm
    have hrv := raw_val 8 S
    rw [show ((8 : Nat) : Int) = 8 from rfl, if_pos (by omega)] at hrv
    have hw0 := bel.size
    refine Cd.skip ?_
    refine Post.then_ ?_
    refine Cd.seq ?_
    refine Cd.block ?_
    refine Cd.seq ?_
    refine Cd.region ?_
    refine Seq.val (Runs.move rfl rfl) rfl rfl rfl ?_
    refine Seq.val (Runs.move rfl rfl) rfl rfl rfl ?_
    refine Seq.val (Runs.sliceFrom rfl rfl rfl Tryz.underlying9 (j := at_) rfl (by omega)) rfl rfl rfl ?_
    rw [← hS]
    refine Seq.call (Enters.func rfl rfl rfl (run_enter Tryz.func84 (by kernel_rfl) rfl)) rfl rfl rfl (read_any S _ hSb) ?_
    rintro e w1 ⟨g18, rfl, hb1, hg18, rd⟩
    refine ⟨_, rfl, ?_⟩
    replace bel := bel.step hb1
    have kf := Kf.refl g18 w1
    have hlt18 := rd.lt
    have bel1 := bel
    clear bel
    refine Seq.call (Enters.func rfl rfl rfl (run_enter Tryz.func85 (by kernel_rfl) rfl)) rfl rfl rfl (rfixed8_any g18 _ _ rd) ?_
    rintro e w1 ⟨⟨rfl, fWW, rd⟩, fw1, rd'⟩
    refine ⟨_, rfl, ?_⟩
    replace kf := kf.kf fw1 rd
    replace rd := rd'
    clear rd'
    rw [hrv, ← hn]
    have bel : Below w.heap.size w _ := bel1.trans (kf.to (Nat.le_trans hw0 hg18) hlt18)
    clear kf rd
    refine Seq.val (Runs.assign rfl rfl) rfl rfl rfl ?_
    refine Seq.nil ?_
    refine Post.weak (F' := [(0, _), (4, _), (5, _), (6, _), (7, _), (12, _)]) ⟨rfl, rfl, rfl, rfl, rfl, rfl, trivial⟩ ?_
    refine Post.then_ ?_
    refine Cd.seq ?_
    refine Cd.seq ?_
    have hsl : (s.take (at_ + 12)).drop at_ = S.take 12 := by rw [hS, List.drop_take]; congr 1; omega
    have hdone : ∀ acc : Nat × Bool, acc.1 ≤ 131072 → cntStep (m, b) (S.take 12) = acc → countN s = cntGo f acc (s.drop (at_ + 12)) := fun acc _ e => by rw [hall, e]
    by_cases hgt : 4295098368 < n
    · rw [if_pos (.inl hgt)] at hst
      refine Cd.draw 13 (by kernel_rfl) [] (.inl rfl) rfl Grow Grow.refl (fun _ _ _ => Grow.trans) ?_
      intro w2 hw2 zw2
      replace bel := bel.step hw2
      have zbel := bel.size
      refine Dr.val Grow.refl rfl (fun w hG => Runs.move rfl rfl) rfl ?_
      refine Dr.val Grow.refl rfl (fun w hG => (Runs.gtr rfl rfl rfl).isT (by omega)) rfl ?_
      refine Dr.val Grow.refl rfl (fun w hG => Runs.move rfl rfl) rfl ?_
      refine Dr.skip rfl rfl rfl rfl rfl ?_
      refine Dr.skip rfl rfl rfl rfl rfl ?_
      refine Dr.skip rfl rfl rfl rfl rfl ?_
      refine Dr.skip rfl rfl rfl rfl rfl ?_
      refine Dr.skip rfl rfl rfl rfl rfl ?_
      refine Dr.skip rfl rfl rfl rfl rfl ?_
      refine Dr.skip rfl rfl rfl rfl rfl ?_
      refine Dr.skip rfl rfl rfl rfl rfl ?_
      refine Dr.skip rfl rfl rfl rfl rfl ?_
      refine Dr.val Grow.refl rfl (fun w hG => Runs.pickT rfl rfl rfl) rfl ?_
      refine Dr.nil ?_
      refine FinX.done (F' := [(0, _), (4, _), (5, _), (6, _), (7, _), (12, _), (32, _)]) rfl ⟨rfl, rfl, rfl, rfl, rfl, rfl, rfl, trivial⟩ ?_
      intro w3 hw3 fw3
      replace bel := bel.step hw3
      refine Seq.nil ?_
      refine Post.weak (F' := [(0, _), (4, _), (5, _), (6, _), (7, _), (12, _), (32, _)]) ⟨rfl, rfl, rfl, rfl, rfl, rfl, rfl, trivial⟩ ?_
      refine Post.then_ ?_
      refine Cd.condT rfl rfl ?_
      refine Cd.exit ?_
      refine Post.then_exit ?_
      refine Post.block_exit ?_
      refine Post.then_ ?_
      refine Cd.region ?_
      refine Seq.val (Runs.move rfl rfl) rfl rfl rfl ?_
      refine Seq.val (Runs.addI rfl rfl rfl (by omega) (by omega)) rfl rfl rfl ?_
      refine Seq.val (Runs.assign rfl rfl) rfl rfl rfl ?_
      refine Seq.nil ?_
      refine Post.weak (F' := [(0, _), (4, _), (5, _), (6, _), (7, _), (12, _), (32, _)]) ⟨rfl, rfl, rfl, rfl, rfl, rfl, rfl, trivial⟩ ?_
      exact Post.round ((m, b), at_ + 12, f) ⟨rfl, rfl, rfl, rfl, trivial⟩ ⟨by simp only; omega, by simp only; omega, hm, hdone _ hm hst, bel⟩ (by simp)
    by_cases hne : S.take 12 ≠ markN n
    · rw [if_pos (.inr hne)] at hst
      refine Cd.draw 13 (by kernel_rfl) [] (.inl rfl) rfl Grow Grow.refl (fun _ _ _ => Grow.trans) ?_
      intro w2 hw2 zw2
      replace bel := bel.step hw2
      have zbel := bel.size
      refine Dr.val Grow.refl rfl (fun w hG => Runs.move rfl rfl) rfl ?_
      refine Dr.val Grow.refl rfl (fun w hG => (Runs.gtr rfl rfl rfl).isF (by omega)) rfl ?_
      refine Dr.val Grow.refl rfl (fun w hG => Runs.move rfl rfl) rfl ?_
      refine Dr.valG Grow.refl rfl (fun w hG => Runs.move rfl rfl) rfl rfl rfl ?_
      refine Dr.valG Grow.refl rfl (fun w hG => Runs.move rfl rfl) rfl rfl rfl ?_
      refine Dr.valG Grow.refl rfl (fun w hG => Runs.move rfl rfl) rfl rfl rfl ?_
      refine Dr.valG Grow.refl rfl (fun w hG => Runs.addI rfl rfl rfl (by omega) (by omega)) rfl rfl rfl ?_
      refine Dr.valG Grow.refl rfl (fun w hG => (Runs.sliceAtL (i := at_) (j := at_ + 12) rfl rfl rfl rfl Tryz.underlying9 rfl (by omega) (by omega) (by omega)).cast (by rw [hsl])) rfl rfl rfl ?_
      refine Dr.valG Grow.refl rfl (fun w hG => Runs.move rfl rfl) rfl rfl rfl ?_
      refine Dr.valG Grow.refl rfl (fun w hG => Runs.convI rfl rfl Tryz.underlying97 Tryz.underlying3 (wrapI (by omega) (by omega))) rfl rfl rfl ?_
      refine Dr.callVG rfl (fun w => Enters.func rfl rfl rfl (run_enter Tryz.func86 (by kernel_rfl) rfl)) rfl rfl rfl (fun w hG => marked_any n _ (hN.step (Below.step bel hG)) (by omega)) ?_
      refine Dr.valG Grow.refl rfl (fun w hG => (Runs.neqL rfl rfl rfl (hSb.take 12) (markN_lt n)).isT hne) rfl rfl rfl ?_
      refine Dr.val Grow.refl rfl (fun w hG => Runs.pickF rfl rfl rfl) rfl ?_
      refine Dr.nil ?_
      refine FinX.done (F' := [(0, _), (4, _), (5, _), (6, _), (7, _), (12, _), (32, _)]) rfl ⟨rfl, rfl, rfl, rfl, rfl, rfl, rfl, trivial⟩ ?_
      intro w3 hw3 fw3
      replace bel := bel.step hw3
      refine Seq.nil ?_
      refine Post.weak (F' := [(0, _), (4, _), (5, _), (6, _), (7, _), (12, _), (32, _)]) ⟨rfl, rfl, rfl, rfl, rfl, rfl, rfl, trivial⟩ ?_
      refine Post.then_ ?_
      refine Cd.condT rfl rfl ?_
      refine Cd.exit ?_
      refine Post.then_exit ?_
      refine Post.block_exit ?_
      refine Post.then_ ?_
      refine Cd.region ?_
      refine Seq.val (Runs.move rfl rfl) rfl rfl rfl ?_
      refine Seq.val (Runs.addI rfl rfl rfl (by omega) (by omega)) rfl rfl rfl ?_
      refine Seq.val (Runs.assign rfl rfl) rfl rfl rfl ?_
      refine Seq.nil ?_
      refine Post.weak (F' := [(0, _), (4, _), (5, _), (6, _), (7, _), (12, _), (32, _)]) ⟨rfl, rfl, rfl, rfl, rfl, rfl, rfl, trivial⟩ ?_
      exact Post.round ((m, b), at_ + 12, f) ⟨rfl, rfl, rfl, rfl, trivial⟩ ⟨by simp only; omega, by simp only; omega, hm, hdone _ hm hst, bel⟩ (by simp)
    rw [if_neg (fun h => h.elim hgt hne)] at hst
    refine Cd.draw 13 (by kernel_rfl) [] (.inl rfl) rfl Grow Grow.refl (fun _ _ _ => Grow.trans) ?_
    intro w2 hw2 zw2
    replace bel := bel.step hw2
    have zbel := bel.size
    refine Dr.val Grow.refl rfl (fun w hG => Runs.move rfl rfl) rfl ?_
    refine Dr.val Grow.refl rfl (fun w hG => (Runs.gtr rfl rfl rfl).isF (by omega)) rfl ?_
    refine Dr.val Grow.refl rfl (fun w hG => Runs.move rfl rfl) rfl ?_
    refine Dr.valG Grow.refl rfl (fun w hG => Runs.move rfl rfl) rfl rfl rfl ?_
    refine Dr.valG Grow.refl rfl (fun w hG => Runs.move rfl rfl) rfl rfl rfl ?_
    refine Dr.valG Grow.refl rfl (fun w hG => Runs.move rfl rfl) rfl rfl rfl ?_
    refine Dr.valG Grow.refl rfl (fun w hG => Runs.addI rfl rfl rfl (by omega) (by omega)) rfl rfl rfl ?_
    refine Dr.valG Grow.refl rfl (fun w hG => (Runs.sliceAtL (i := at_) (j := at_ + 12) rfl rfl rfl rfl Tryz.underlying9 rfl (by omega) (by omega) (by omega)).cast (by rw [hsl])) rfl rfl rfl ?_
    refine Dr.valG Grow.refl rfl (fun w hG => Runs.move rfl rfl) rfl rfl rfl ?_
    refine Dr.valG Grow.refl rfl (fun w hG => Runs.convI rfl rfl Tryz.underlying97 Tryz.underlying3 (wrapI (by omega) (by omega))) rfl rfl rfl ?_
    refine Dr.callVG rfl (fun w => Enters.func rfl rfl rfl (run_enter Tryz.func86 (by kernel_rfl) rfl)) rfl rfl rfl (fun w hG => marked_any n _ (hN.step (Below.step bel hG)) (by omega)) ?_
    refine Dr.valG Grow.refl rfl (fun w hG => (Runs.neqL rfl rfl rfl (hSb.take 12) (markN_lt n)).isF hne) rfl rfl rfl ?_
    refine Dr.val Grow.refl rfl (fun w hG => Runs.pickF rfl rfl rfl) rfl ?_
    refine Dr.nil ?_
    refine FinX.done (F' := [(0, _), (4, _), (5, _), (6, _), (7, _), (12, _), (32, _)]) rfl ⟨rfl, rfl, rfl, rfl, rfl, rfl, rfl, trivial⟩ ?_
    intro w3 hw3 fw3
    replace bel := bel.step hw3
    refine Seq.nil ?_
    refine Post.weak (F' := [(0, _), (4, _), (5, _), (6, _), (7, _), (12, _), (32, _)]) ⟨rfl, rfl, rfl, rfl, rfl, rfl, rfl, trivial⟩ ?_
    refine Post.then_ ?_
    refine Cd.condF rfl rfl ?_
    refine Cd.skip ?_
    refine Post.then_ ?_
    refine Cd.seq ?_
    refine Cd.seq ?_
    refine Cd.region ?_
    refine Seq.val (Runs.move rfl rfl) rfl rfl rfl ?_
    refine Seq.val (Runs.geq rfl rfl rfl) rfl rfl rfl ?_
    refine Seq.nil ?_
    refine Post.weak (F' := [(0, _), (4, _), (5, _), (6, _), (7, _), (12, _), (32, _), (34, _)]) ⟨rfl, rfl, rfl, rfl, rfl, rfl, rfl, rfl, trivial⟩ ?_
    refine Post.then_ ?_
    refine Cd.cond rfl (fun h => ?_) (fun h => ?_)
    · have hge : 4294967296 ≤ n := by
        have : (4294967296 : Int) ≤ (n : Int) := by simpa using h
        omega
      rw [if_pos hge, if_pos (by omega)] at hst
      refine Cd.seq ?_
      refine Cd.region ?_
      refine Seq.val (Runs.assign rfl rfl) rfl rfl rfl ?_
      refine Seq.nil ?_
      refine Post.weak (F' := [(0, _), (4, _), (5, _), (6, _), (7, _), (12, _), (32, _), (34, _)]) ⟨rfl, rfl, rfl, rfl, rfl, rfl, rfl, rfl, trivial⟩ ?_
      refine Post.then_ ?_
      refine Cd.region ?_
      refine Seq.val (Runs.move rfl rfl) rfl rfl rfl ?_
      refine Seq.val (Runs.subU rfl rfl rfl (by omega) (by omega)) rfl rfl rfl ?_
      refine Seq.val (Runs.assign rfl rfl) rfl rfl rfl ?_
      refine Seq.nil ?_
      refine Post.weak (F' := [(0, _), (4, _), (5, _), (6, _), (7, _), (12, _), (32, _), (34, _)]) ⟨rfl, rfl, rfl, rfl, rfl, rfl, rfl, rfl, trivial⟩ ?_
      refine Post.then_ ?_
      refine Cd.seq ?_
      refine Cd.region ?_
      refine Seq.val (Runs.move rfl rfl) rfl rfl rfl ?_
      refine Seq.val (Runs.leq rfl rfl rfl) rfl rfl rfl ?_
      refine Seq.nil ?_
      refine Post.weak (F' := [(0, _), (4, _), (5, _), (6, _), (7, _), (12, _), (32, _), (34, _), (38, _)]) ⟨rfl, rfl, rfl, rfl, rfl, rfl, rfl, rfl, rfl, trivial⟩ ?_
      refine Post.then_ ?_
      refine Cd.condT rfl (by simp; omega) ?_
      refine Cd.region ?_
      refine Seq.val (Runs.move rfl rfl) rfl rfl rfl ?_
      refine Seq.val (Runs.move rfl rfl) rfl rfl rfl ?_
      refine Seq.val (Runs.convI rfl rfl Tryz.underlying97 Tryz.underlying3 (wrapI (by omega) (by omega))) rfl rfl rfl ?_
      refine Seq.val (Runs.max2 rfl rfl rfl) rfl rfl rfl ?_
      refine Seq.val (Runs.assign rfl rfl) rfl rfl rfl ?_
      refine Seq.nil ?_
      refine Post.weak (F' := [(0, _), (4, _), (5, _), (6, _), (7, _), (12, _), (32, _), (34, _), (38, _)]) ⟨rfl, rfl, rfl, rfl, rfl, rfl, rfl, rfl, rfl, trivial⟩ ?_
      refine Post.block_normal ?_
      refine Post.then_ ?_
      refine Cd.region ?_
      refine Seq.val (Runs.move rfl rfl) rfl rfl rfl ?_
      refine Seq.val (Runs.addI rfl rfl rfl (by omega) (by omega)) rfl rfl rfl ?_
      refine Seq.val (Runs.assign rfl rfl) rfl rfl rfl ?_
      refine Seq.nil ?_
      refine Post.weak (F' := [(0, _), (4, _), (5, _), (6, _), (7, _), (12, _), (32, _), (34, _), (38, _)]) ⟨rfl, rfl, rfl, rfl, rfl, rfl, rfl, rfl, rfl, trivial⟩ ?_
      exact Post.round ((max m (n - 4294967296), true), at_ + 12, f) ⟨rfl, int_at (by simp only; omega), rfl, rfl, trivial⟩ ⟨by simp only; omega, by simp only; omega, by rw [← hst]; exact hle, hdone _ (by rw [← hst]; exact hle) hst, bel⟩ (by simp)
    · have hge : ¬ 4294967296 ≤ n := by
        have : ¬ (4294967296 : Int) ≤ (n : Int) := by simpa using h
        omega
      rw [if_neg hge] at hst
      refine Cd.skip ?_
      refine Post.then_ ?_
      refine Cd.seq ?_
      refine Cd.region ?_
      refine Seq.val (Runs.move rfl rfl) rfl rfl rfl ?_
      refine Seq.val (Runs.leq rfl rfl rfl) rfl rfl rfl ?_
      refine Seq.nil ?_
      refine Post.weak (F' := [(0, _), (4, _), (5, _), (6, _), (7, _), (12, _), (32, _), (34, _), (38, _)]) ⟨rfl, rfl, rfl, rfl, rfl, rfl, rfl, rfl, rfl, trivial⟩ ?_
      refine Post.then_ ?_
      refine Cd.cond rfl (fun h => ?_) (fun h => ?_)
      · have hlt : n ≤ 131072 := by
          have : (n : Int) ≤ 131072 := by simpa using h
          omega
        rw [if_pos hlt] at hst
        refine Cd.region ?_
        refine Seq.val (Runs.move rfl rfl) rfl rfl rfl ?_
        refine Seq.val (Runs.move rfl rfl) rfl rfl rfl ?_
        refine Seq.val (Runs.convI rfl rfl Tryz.underlying97 Tryz.underlying3 (wrapI (by omega) (by omega))) rfl rfl rfl ?_
        refine Seq.val (Runs.max2 rfl rfl rfl) rfl rfl rfl ?_
        refine Seq.val (Runs.assign rfl rfl) rfl rfl rfl ?_
        refine Seq.nil ?_
        refine Post.weak (F' := [(0, _), (4, _), (5, _), (6, _), (7, _), (12, _), (32, _), (34, _), (38, _)]) ⟨rfl, rfl, rfl, rfl, rfl, rfl, rfl, rfl, rfl, trivial⟩ ?_
        refine Post.block_normal ?_
        refine Post.then_ ?_
        refine Cd.region ?_
        refine Seq.val (Runs.move rfl rfl) rfl rfl rfl ?_
        refine Seq.val (Runs.addI rfl rfl rfl (by omega) (by omega)) rfl rfl rfl ?_
        refine Seq.val (Runs.assign rfl rfl) rfl rfl rfl ?_
        refine Seq.nil ?_
        refine Post.weak (F' := [(0, _), (4, _), (5, _), (6, _), (7, _), (12, _), (32, _), (34, _), (38, _)]) ⟨rfl, rfl, rfl, rfl, rfl, rfl, rfl, rfl, rfl, trivial⟩ ?_
        exact Post.round ((max m n, b), at_ + 12, f) ⟨rfl, int_at (by simp only; omega), rfl, rfl, trivial⟩ ⟨by simp only; omega, by simp only; omega, by rw [← hst]; exact hle, hdone _ (by rw [← hst]; exact hle) hst, bel⟩ (by simp)
      · have hlt : ¬ n ≤ 131072 := by
          have : ¬ (n : Int) ≤ 131072 := by simpa using h
          omega
        rw [if_neg hlt] at hst
        refine Cd.skip ?_
        refine Post.block_normal ?_
        refine Post.then_ ?_
        refine Cd.region ?_
        refine Seq.val (Runs.move rfl rfl) rfl rfl rfl ?_
        refine Seq.val (Runs.addI rfl rfl rfl (by omega) (by omega)) rfl rfl rfl ?_
        refine Seq.val (Runs.assign rfl rfl) rfl rfl rfl ?_
        refine Seq.nil ?_
        refine Post.weak (F' := [(0, _), (4, _), (5, _), (6, _), (7, _), (12, _), (32, _), (34, _), (38, _)]) ⟨rfl, rfl, rfl, rfl, rfl, rfl, rfl, rfl, rfl, trivial⟩ ?_
        exact Post.round ((m, b), at_ + 12, f) ⟨rfl, rfl, rfl, rfl, trivial⟩ ⟨by simp only; omega, by simp only; omega, hm, hdone _ hm hst, bel⟩ (by simp)
  · skip
    refine Cd.exit ?_
    refine Post.then_exit ?_
    refine Post.round_exit ?_
    refine Post.block_exit ?_
    refine Post.then_ ?_
    refine Cd.seq ?_
    refine Cd.region ?_
    refine Seq.val (Runs.move rfl rfl) rfl rfl rfl ?_
    refine Seq.val (Runs.move rfl rfl) rfl rfl rfl ?_
    refine Seq.val (Runs.assign rfl rfl) rfl rfl rfl ?_
    refine Seq.val (Runs.assign rfl rfl) rfl rfl rfl ?_
    refine Seq.nil ?_
    refine Post.weak (F' := [(0, _), (2, _), (3, _), (4, _), (5, _), (6, _), (12, _)]) ⟨rfl, rfl, rfl, rfl, rfl, rfl, rfl, trivial⟩ ?_
    refine Post.then_ ?_
    refine Cd.ret ?_
    refine Post.end2 rfl rfl rfl (.inl rfl) ?_
    have hgo : cntGo f (m, b) (s.drop at_) = (m, b) := by
      cases f with
      | zero => rfl
      | succ f => rw [cntGo, if_neg (by rw [List.length_drop]; omega)]
    rw [hall, hgo]
    exact ⟨rfl, bel⟩
end Go.Proofs.YtnlepoplncjliaaGreatDoor

/-
  debenturelaw01's awake: true. No condition.
-/
import Derived.Test.YtpdeihienkbeeaaNumH
namespace Go.Proofs.Ytpdeihienkbeeaa
open Go.RowKit

theorem print_once (w : World) : Calls Try.prog 42 #[.int .i64 (-5), .int .i64 2] w fun e w' => e = .returned (.string (strOf [45, 48, 46, 48, 53])) ∧ Grow w w' :=
  (print_any (-5) 2 w (by unfold I64; omega) (by omega)).mono fun e w' ⟨⟨N, hN, h20, he⟩, hb⟩ => ⟨by
    obtain ⟨h1, h2⟩ := hN
    have h3 : N = 3 := by
      rcases Nat.lt_or_ge 3 N with h | h
      · exact absurd (h1 3 h) (by decide)
      · have : ¬ N ≤ 2 := fun h => h2 (.inr h)
        omega
    subst h3
    rw [he]
    rfl, hb⟩
theorem share_once : shareOk 10 [1, 1, 1] ∧ shareOf 10 [1, 1, 1] = [4, 3, 3] := by
  constructor
  · unfold shareOk; decide
  · decide
theorem mulDiv_once (w : World) : Calls Try.prog 13 #[.int .i64 7, .int .i64 1, .int .i64 2, .int .i64 3] w fun e w' => e = .returned (.tuple #[.int .i64 4, .bool true]) ∧ Grow w w' := by
  have h := MulDiv_any 7 1 2 3 w (by unfold I64; omega) (by unfold I64; omega) (by unfold I64; omega)
  rw [if_neg (by decide)] at h
  exact h
theorem awake_any (w : World) : Calls Try.prog 15 #[] w fun e w' => e = .returned (.bool true) ∧ Grow w w' := by
  have bel := Below.refl w.heap.size w
  refine Calls.start 43 Try.func15 rfl rfl rfl ?_
  refine Cd.seq ?_
  refine Cd.region ?_
  refine Seq.val (Runs.assign rfl rfl) rfl rfl rfl ?_
  refine Seq.nil ?_
  refine Post.weak (F' := [(0, _)]) ⟨rfl, trivial⟩ ?_
  refine Post.then_ ?_
  refine Cd.seq ?_
  refine Cd.region ?_
  refine Seq.call (Enters.func rfl rfl rfl (run_enter Try.func13 (by kernel_rfl) rfl)) rfl rfl rfl (mulDiv_once _) ?_
  rintro e w2 ⟨rfl, hb2⟩
  refine ⟨_, rfl, ?_⟩
  replace bel := bel.step hb2
  refine Seq.val (Runs.move rfl rfl) rfl rfl rfl ?_
  refine Seq.val (Runs.extract rfl rfl rfl) rfl rfl rfl ?_
  refine Seq.val (Runs.extract rfl rfl rfl) rfl rfl rfl ?_
  refine Seq.val (Runs.assign rfl rfl) rfl rfl rfl ?_
  refine Seq.val (Runs.assign rfl rfl) rfl rfl rfl ?_
  refine Seq.nil ?_
  refine Post.weak (F' := [(0, _), (1, _), (2, _)]) ⟨rfl, rfl, rfl, trivial⟩ ?_
  refine Post.then_ ?_
  refine Cd.seq ?_
  refine Cd.region ?_
  refine Seq.slice (vs := [_, _, _]) (s := 1) rfl rfl rfl Try.underlying26 (by kernel_rfl) (zero_int64) (by omega) (by omega) ⟨rfl, rfl, rfl, trivial⟩ rfl rfl rfl ?_
  intro g10 w1 n10
  have e10 := Nat.le_trans bel.size n10.ge
  replace bel := bel.step n10.below
  have k10 := n10.blk
  have hrd := Reads.blk (size := 1) k10 3 rfl
  refine Seq.call (Enters.func rfl rfl rfl (run_enter Try.func19 (by kernel_rfl) rfl)) rfl rfl rfl (share_any _ _ 3 3 10 [1, 1, 1] _ hrd (Nat.le_refl _) (by unfold I64; omega) (by unfold I64; simp) (by omega)) ?_
  rintro e w4 ⟨hb4, ⟨hno, -⟩ | ⟨-, g, rfl, k9, e9⟩⟩
  · exact absurd share_once.1 hno
  rw [share_once.2] at k9
  refine ⟨_, rfl, ?_⟩
  replace bel := bel.step hb4
  refine Seq.val (Runs.move rfl rfl) rfl rfl rfl ?_
  refine Seq.val (Runs.extract rfl rfl rfl) rfl rfl rfl ?_
  refine Seq.val (Runs.extract rfl rfl rfl) rfl rfl rfl ?_
  refine Seq.val (Runs.assign rfl rfl) rfl rfl rfl ?_
  refine Seq.val (Runs.assign rfl rfl) rfl rfl rfl ?_
  refine Seq.nil ?_
  refine Post.weak (F' := [(0, _), (1, _), (2, _), (3, _), (4, _)]) ⟨rfl, rfl, rfl, rfl, rfl, trivial⟩ ?_
  refine Post.then_ ?_
  refine Cd.seq ?_
  refine Cd.region ?_
  refine Seq.val (Runs.move rfl rfl) rfl rfl rfl ?_
  refine Seq.val (Runs.eqlI rfl rfl rfl) rfl rfl rfl ?_
  refine Seq.val (Runs.move rfl rfl) rfl rfl rfl ?_
  refine SeqC.start ?_
  refine SeqC.open rfl rfl rfl rfl rfl rfl rfl (fun hcx => Runs.move rfl rfl) ?_
  refine SeqC.and rfl rfl rfl rfl rfl rfl rfl ?_
  refine Seq.val (Runs.move rfl rfl) rfl rfl rfl ?_
  refine SeqC.start ?_
  refine SeqC.open rfl rfl rfl rfl rfl rfl rfl (fun hcx => Runs.move rfl rfl) ?_
  refine SeqC.and rfl rfl rfl rfl rfl rfl rfl ?_
  refine Seq.val (Runs.move rfl rfl) rfl rfl rfl ?_
  refine SeqC.start ?_
  refine SeqC.open rfl rfl rfl rfl rfl rfl rfl (fun hcx => Runs.move rfl rfl) ?_
  refine SeqC.next rfl rfl rfl rfl rfl rfl rfl (fun hcx => Runs.len rfl rfl Try.underlying26) ?_
  refine SeqC.next rfl rfl rfl rfl rfl rfl rfl (fun hcx => Runs.eqlI rfl rfl rfl) ?_
  refine SeqC.and rfl rfl rfl rfl rfl rfl rfl ?_
  refine Seq.val (Runs.move rfl rfl) rfl rfl rfl ?_
  refine SeqC.start ?_
  refine SeqC.open rfl rfl rfl rfl rfl rfl rfl (fun hcx => Runs.move rfl rfl) ?_
  refine SeqC.next rfl rfl rfl rfl rfl rfl rfl (fun hcx => Runs.indexB rfl rfl rfl Try.underlying26 (by kernel_rfl) (j := 0) rfl (by omega)) ?_
  refine SeqC.next rfl rfl rfl rfl rfl rfl rfl (fun hcx => Runs.loadB rfl rfl Try.underlying2 rfl k9 (I_at (d := 4) rfl)) ?_
  refine SeqC.next rfl rfl rfl rfl rfl rfl rfl (fun hcx => Runs.eqlI rfl rfl rfl) ?_
  refine SeqC.and rfl rfl rfl rfl rfl rfl rfl ?_
  refine Seq.val (Runs.move rfl rfl) rfl rfl rfl ?_
  refine SeqC.start ?_
  refine SeqC.open rfl rfl rfl rfl rfl rfl rfl (fun hcx => Runs.move rfl rfl) ?_
  refine SeqC.next rfl rfl rfl rfl rfl rfl rfl (fun hcx => Runs.indexB rfl rfl rfl Try.underlying26 (by kernel_rfl) (j := 1) rfl (by omega)) ?_
  refine SeqC.next rfl rfl rfl rfl rfl rfl rfl (fun hcx => Runs.loadB rfl rfl Try.underlying2 rfl k9 (I_at (d := 3) rfl)) ?_
  refine SeqC.next rfl rfl rfl rfl rfl rfl rfl (fun hcx => Runs.eqlI rfl rfl rfl) ?_
  refine SeqC.and rfl rfl rfl rfl rfl rfl rfl ?_
  refine Seq.val (Runs.move rfl rfl) rfl rfl rfl ?_
  refine SeqC.start ?_
  refine SeqC.openC rfl rfl rfl rfl rfl rfl rfl (fun hcx => Enters.func rfl rfl rfl (run_enter Try.func42 (by kernel_rfl) rfl)) (fun hcx => print_once _) ?_
  intro w2 hw2
  replace bel := bel.step hw2
  replace k9 := k9.step hw2
  refine SeqC.next rfl rfl rfl rfl rfl rfl rfl (fun hcx => Runs.eqlS rfl rfl rfl) ?_
  refine SeqC.and rfl rfl rfl rfl rfl rfl rfl ?_
  refine Seq.val (Runs.assign rfl rfl) rfl rfl rfl ?_
  refine Seq.nil ?_
  refine Post.weak (F' := [(0, _), (1, _), (2, _), (3, _), (4, _)]) ⟨rfl, rfl, rfl, rfl, rfl, trivial⟩ ?_
  refine Post.then_ ?_
  refine Cd.ret ?_
  refine Post.end1 rfl rfl (.inl rfl) ?_
  have e : strOf [45, 48, 46, 48, 53] = { data := #[45, 48, 46, 48, 53] } := rfl
  exact ⟨ret1 (bool_eq (by rw [e]; simp)), bel⟩
end Go.Proofs.Ytpdeihienkbeeaa

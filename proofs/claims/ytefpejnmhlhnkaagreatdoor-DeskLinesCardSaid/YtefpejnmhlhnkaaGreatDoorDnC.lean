/-
  debenturelaw28's small at one ask: it ends. Condition: crc's table is as it was laid.
-/
import Derived.Test.YtefpejnmhlhnkaaGreatDoorDnB
namespace Go.Proofs.YtefpejnmhlhnkaaGreatDoor
open Go.RowKit

abbrev As.say (a : As) : List Value := a.cs ++ [.slice none 0 0, .slice none 0 0]
theorem one_As (a : As) : ∀ x ∈ a.cs, x.oneCell' = true := by
  intro x hx
  simp [As.cs] at hx
  rcases hx with rfl | rfl | rfl | rfl | rfl | rfl | rfl | rfl | rfl | rfl <;> rfl
theorem say_get (a : As) (j : Nat) (v : Value) (h : a.cs[j]? = some v) : a.say.toArray[12 * 0 + 0 + j]? = some v := by
  have hlt := (List.getElem?_eq_some_iff.1 h).1
  rw [show 12 * 0 + 0 + j = j by omega]
  simp only [List.getElem?_toArray]
  rw [List.getElem?_append_left hlt]
  exact h
set_option maxHeartbeats 2000000 in
theorem small_one (g900 c : Nat) (a : As) (w : World) (hg : Nb w) (k900 : Blk w g900 42 a.say.toArray) (hb : ∀ x ∈ a.t, x < 256) :
    Calls Tryz.prog 11 #[.slice (some ⟨g900, 0, none⟩) 1 c] w fun e w' => (∃ b, e = .returned (.bool b)) ∧ Below w.heap.size w w' := by
  have bel := Below.refl w.heap.size w
  refine Calls.start 84 Tryz.func11 rfl rfl rfl ?_
  refine Cd.seq ?_
  refine Cd.region ?_
  refine Seq.val (Runs.assign rfl rfl) rfl rfl rfl ?_
  refine Seq.nil ?_
  refine Post.weak (F' := [(0, _), (2, _)]) ⟨rfl, rfl, trivial⟩ ?_
  refine Post.then_ ?_
  refine Cd.seq ?_
  refine Cd.seq ?_
  refine Cd.region ?_
  refine Seq.val (Runs.move rfl rfl) rfl rfl rfl ?_
  refine Seq.val (Runs.len rfl rfl Tryz.underlying43) rfl rfl rfl ?_
  refine Seq.val (Runs.gtr rfl rfl rfl) rfl rfl rfl ?_
  refine Seq.nil ?_
  refine Post.weak (F' := [(0, _), (2, _), (8, _)]) ⟨rfl, rfl, rfl, trivial⟩ ?_
  refine Post.then_ ?_
  refine Cd.condF rfl (by simp) ?_
  refine Cd.skip ?_
  refine Post.then_ ?_
  refine Cd.seq ?_
  refine Cd.region ?_
  refine Seq.val (Runs.assign rfl rfl) rfl rfl rfl ?_
  refine Seq.nil ?_
  refine Post.weak (F' := [(0, _), (2, _), (3, _), (8, _)]) ⟨rfl, rfl, rfl, rfl, trivial⟩ ?_
  refine Post.then_ ?_
  refine Cd.seq ?_
  refine Cd.seq ?_
  refine Cd.region ?_
  refine Seq.val (Runs.assign rfl rfl) rfl rfl rfl ?_
  refine Seq.nil ?_
  refine Post.weak (F' := [(0, _), (2, _), (3, _), (4, _), (8, _)]) ⟨rfl, rfl, rfl, rfl, rfl, trivial⟩ ?_
  refine Post.then_ ?_
  refine Cd.block ?_
  refine Cd.loop (σ := Nat × Value) (fun q => [(0, .slice (some ⟨g900, 0, none⟩) 1 c), (3, q.2), (4, .int .i64 (q.1 : Int))]) (fun q wr => q.1 ≤ 1 ∧ (q.1 = 0 → q.2 = .slice none 0 0) ∧ (q.1 = 1 → a.t.length ≤ 4100 ∧ Own wr w.heap.size 36 10 q.2 1 a.cs) ∧ Below w.heap.size w wr ∧ Blk wr g900 42 a.say.toArray) (fun q => 1 - q.1) (0, .slice none 0 0) ⟨by simp, by simp, by simp, bel, k900⟩ ⟨rfl, rfl, rfl, trivial⟩ ?_
  clear bel k900
  rintro ⟨i, v⟩ wr ⟨hi, hv0, hv1, bel, k900⟩
  simp only at hi hv0 hv1
  show Cd _ _ _ _ [(0, .slice (some ⟨g900, 0, none⟩) 1 c), (3, v), (4, .int .i64 (i : Int))] _
  refine Cd.seq ?_
  refine Cd.seq ?_
  refine Cd.region ?_
  refine Seq.val (Runs.move rfl rfl) rfl rfl rfl ?_
  refine Seq.val (Runs.move rfl rfl) rfl rfl rfl ?_
  refine Seq.val (Runs.len rfl rfl Tryz.underlying43) rfl rfl rfl ?_
  refine Seq.val (Runs.lss rfl rfl rfl) rfl rfl rfl ?_
  refine Seq.nil ?_
  refine Post.weak (F' := [(0, _), (3, _), (4, _), (12, _)]) ⟨rfl, rfl, rfl, rfl, trivial⟩ ?_
  refine Post.then_ ?_
  refine Cd.condD rfl (fun hc => ?_) (fun hc => ?_)
  · obtain rfl : i = 0 := by omega
    obtain rfl := hv0 rfl
    refine Cd.skip ?_
    refine Post.then_ ?_
    refine Cd.seq ?_
    refine Cd.block ?_
    refine Cd.seq ?_
    refine Cd.region ?_
    refine Seq.val (Runs.move rfl rfl) rfl rfl rfl ?_
    refine Seq.val (Runs.move rfl rfl) rfl rfl rfl ?_
    refine Seq.val (Runs.indexBN rfl rfl rfl Tryz.underlying43 (s := 12) (by kernel_rfl) (j := 0) rfl (by omega)) rfl rfl rfl ?_
    refine Seq.val (Runs.fieldP 0 rfl rfl Tryz.underlying42 rfl (by kernel_rfl)) rfl rfl rfl ?_
    refine Seq.val (Runs.loadP (ps := a.cs) rfl rfl Tryz.underlying36 rfl k900 (m := 10) (by kernel_rfl) rfl (say_get a)) rfl rfl rfl ?_
    refine Seq.alloc rfl (run_zero zero_debentureref26_Ask) rfl rfl rfl ?_
    intro g5 w1 n5
    have e5 := Nat.le_trans bel.size n5.ge
    have l5 := Nat.lt_of_lt_of_le k900.lt n5.ge
    replace bel := bel.step n5.below
    replace k900 := k900.step n5.below
    have k5 := n5.blk
    refine Seq.storeN rfl rfl rfl rfl (m := 10) (by kernel_rfl) rfl (by repeat' first | exact trivial | apply And.intro | rfl | assumption) k5 (by simp [Value.cells]) rfl rfl ?_
    intro w2 pw2
    replace bel := bel.put k5 pw2 e5
    replace k900 := k900.put pw2 (by omega)
    replace k5 := pw2.blk
    refine Seq.nil ?_
    refine Post.weak (F' := [(0, _), (3, _), (4, _), (5, _), (12, _)]) ⟨rfl, rfl, rfl, rfl, rfl, trivial⟩ ?_
    refine Post.then_ ?_
    refine Cd.seq ?_
    refine Cd.seq ?_
    refine Cd.region ?_
    replace k5 : Blk _ g5 36 a.cs.toArray := k5
    refine Seq.val (Runs.fieldB 1 rfl rfl Tryz.underlying36 rfl (by kernel_rfl)) rfl rfl rfl ?_
    refine Seq.val (Runs.loadB rfl rfl Tryz.underlying9 rfl k5 rfl) rfl rfl rfl ?_
    refine Seq.val (Runs.lenL rfl rfl Tryz.underlying9) rfl rfl rfl ?_
    refine Seq.val (Runs.gtr rfl rfl rfl) rfl rfl rfl ?_
    refine Seq.val (Runs.move rfl rfl) rfl rfl rfl ?_
    refine SeqC.start ?_
    refine SeqC.open rfl rfl rfl rfl rfl rfl rfl (fun hcx => Runs.fieldB 2 rfl rfl Tryz.underlying36 rfl (by kernel_rfl)) ?_
    refine SeqC.next rfl rfl rfl rfl rfl rfl rfl (fun hcx => Runs.loadB rfl rfl Tryz.underlying9 rfl k5 rfl) ?_
    refine SeqC.next rfl rfl rfl rfl rfl rfl rfl (fun hcx => Runs.lenL rfl rfl Tryz.underlying9) ?_
    refine SeqC.next rfl rfl rfl rfl rfl rfl rfl (fun hcx => Runs.gtr rfl rfl rfl) ?_
    refine SeqC.or rfl rfl rfl rfl rfl rfl rfl ?_
    refine Seq.val (Runs.move rfl rfl) rfl rfl rfl ?_
    refine SeqC.start ?_
    refine SeqC.open rfl rfl rfl rfl rfl rfl rfl (fun hcx => Runs.fieldB 3 rfl rfl Tryz.underlying36 rfl (by kernel_rfl)) ?_
    refine SeqC.next rfl rfl rfl rfl rfl rfl rfl (fun hcx => Runs.loadB rfl rfl Tryz.underlying9 rfl k5 rfl) ?_
    refine SeqC.next rfl rfl rfl rfl rfl rfl rfl (fun hcx => Runs.lenL rfl rfl Tryz.underlying9) ?_
    refine SeqC.next rfl rfl rfl rfl rfl rfl rfl (fun hcx => Runs.gtr rfl rfl rfl) ?_
    refine SeqC.or rfl rfl rfl rfl rfl rfl rfl ?_
    refine Seq.val (Runs.move rfl rfl) rfl rfl rfl ?_
    refine SeqC.start ?_
    refine SeqC.open rfl rfl rfl rfl rfl rfl rfl (fun hcx => Runs.fieldB 4 rfl rfl Tryz.underlying36 rfl (by kernel_rfl)) ?_
    refine SeqC.next rfl rfl rfl rfl rfl rfl rfl (fun hcx => Runs.loadB rfl rfl Tryz.underlying9 rfl k5 rfl) ?_
    refine SeqC.next rfl rfl rfl rfl rfl rfl rfl (fun hcx => Runs.lenL rfl rfl Tryz.underlying9) ?_
    refine SeqC.next rfl rfl rfl rfl rfl rfl rfl (fun hcx => Runs.gtr rfl rfl rfl) ?_
    refine SeqC.or rfl rfl rfl rfl rfl rfl rfl ?_
    refine Seq.val (Runs.move rfl rfl) rfl rfl rfl ?_
    refine SeqC.start ?_
    refine SeqC.open rfl rfl rfl rfl rfl rfl rfl (fun hcx => Runs.fieldB 5 rfl rfl Tryz.underlying36 rfl (by kernel_rfl)) ?_
    refine SeqC.next rfl rfl rfl rfl rfl rfl rfl (fun hcx => Runs.loadB rfl rfl Tryz.underlying9 rfl k5 rfl) ?_
    refine SeqC.next rfl rfl rfl rfl rfl rfl rfl (fun hcx => Runs.lenL rfl rfl Tryz.underlying9) ?_
    refine SeqC.next rfl rfl rfl rfl rfl rfl rfl (fun hcx => Runs.gtr rfl rfl rfl) ?_
    refine SeqC.or rfl rfl rfl rfl rfl rfl rfl ?_
    refine Seq.val (Runs.move rfl rfl) rfl rfl rfl ?_
    refine SeqC.start ?_
    refine SeqC.open rfl rfl rfl rfl rfl rfl rfl (fun hcx => Runs.move rfl rfl) ?_
    refine SeqC.next rfl rfl rfl rfl rfl rfl rfl (fun hcx => Runs.move rfl rfl) ?_
    refine SeqC.next rfl rfl rfl rfl rfl rfl rfl (fun hcx => Runs.indexBN rfl rfl rfl Tryz.underlying43 (s := 12) (by kernel_rfl) (j := 0) rfl (by omega)) ?_
    refine SeqC.next rfl rfl rfl rfl rfl rfl rfl (fun hcx => Runs.fieldP 10 rfl rfl Tryz.underlying42 rfl (by kernel_rfl)) ?_
    refine SeqC.next rfl rfl rfl rfl rfl rfl rfl (fun hcx => Runs.loadB rfl rfl Tryz.underlying39 rfl k900 rfl) ?_
    refine SeqC.next rfl rfl rfl rfl rfl rfl rfl (fun hcx => Runs.len rfl rfl Tryz.underlying39) ?_
    refine SeqC.next rfl rfl rfl rfl rfl rfl rfl (fun hcx => Runs.gtr rfl rfl rfl) ?_
    refine SeqC.or rfl rfl rfl rfl rfl rfl rfl ?_
    refine Seq.val (Runs.move rfl rfl) rfl rfl rfl ?_
    refine SeqC.start ?_
    refine SeqC.open rfl rfl rfl rfl rfl rfl rfl (fun hcx => Runs.move rfl rfl) ?_
    refine SeqC.next rfl rfl rfl rfl rfl rfl rfl (fun hcx => Runs.move rfl rfl) ?_
    refine SeqC.next rfl rfl rfl rfl rfl rfl rfl (fun hcx => Runs.indexBN rfl rfl rfl Tryz.underlying43 (s := 12) (by kernel_rfl) (j := 0) rfl (by omega)) ?_
    refine SeqC.next rfl rfl rfl rfl rfl rfl rfl (fun hcx => Runs.fieldP 11 rfl rfl Tryz.underlying42 rfl (by kernel_rfl)) ?_
    refine SeqC.next rfl rfl rfl rfl rfl rfl rfl (fun hcx => Runs.loadB rfl rfl Tryz.underlying40 rfl k900 rfl) ?_
    refine SeqC.next rfl rfl rfl rfl rfl rfl rfl (fun hcx => Runs.len rfl rfl Tryz.underlying40) ?_
    refine SeqC.next rfl rfl rfl rfl rfl rfl rfl (fun hcx => Runs.gtr rfl rfl rfl) ?_
    refine SeqC.or rfl rfl rfl rfl rfl rfl rfl ?_
    refine Seq.nil ?_
    refine Post.weak (F' := [(0, _), (3, _), (4, _), (5, _), (12, _), (65, _)]) ⟨rfl, rfl, rfl, rfl, rfl, rfl, trivial⟩ ?_
    refine Post.then_ ?_
    refine Cd.cond rfl (fun h => ?_) (fun h => ?_)
    · skip
      refine Cd.seq ?_
      refine Cd.region ?_
      refine Seq.val (Runs.assign rfl rfl) rfl rfl rfl ?_
      refine Seq.nil ?_
      refine Post.weak (F' := [(0, _), (2, _), (3, _), (4, _), (5, _), (12, _), (65, _)]) ⟨rfl, rfl, rfl, rfl, rfl, rfl, rfl, trivial⟩ ?_
      refine Post.then_ ?_
      refine Cd.ret ?_
      refine Post.then_ret ?_
      refine Post.block_ret ?_
      refine Post.then_ret ?_
      refine Post.round_ret ?_
      refine Post.block_ret ?_
      refine Post.then_ret ?_
      refine Post.end1 rfl rfl (.inl rfl) ?_
      exact ⟨⟨_, rfl⟩, bel⟩
    · have htl : a.t.length ≤ 4100 := by
        simp at h
        omega
      have nb := hg.below bel hg.lt hg.lt2
      refine Cd.skip ?_
      refine Post.then_ ?_
      refine Cd.draw 14 (by kernel_rfl) [] (.inl rfl) rfl Grow Grow.refl (fun _ _ _ => Grow.trans) ?_
      intro w3 hw3 zw3
      replace bel := bel.step hw3
      replace k900 := k900.step hw3
      replace k5 := k5.step hw3
      replace nb := nb.step hw3
      have zbel := bel.size
      have zlt := k5.lt
      refine Dr.val Grow.refl rfl (fun w hG => Runs.move rfl rfl) rfl ?_
      refine Dr.val Grow.refl rfl (fun w hG => Runs.loadW rfl rfl Tryz.underlying36 rfl (k5.step hG) (m := 10) (by kernel_rfl) rfl) rfl ?_
      refine Dr.val Grow.refl rfl (fun w hG => Runs.move rfl rfl) rfl ?_
      refine Dr.val Grow.refl rfl (fun w hG => Runs.move rfl rfl) rfl ?_
      refine Dr.val Grow.refl rfl (fun w hG => Runs.indexBN rfl rfl rfl Tryz.underlying43 (s := 12) (by kernel_rfl) (j := 0) rfl (by omega)) rfl ?_
      refine Dr.val Grow.refl rfl (fun w hG => Runs.fieldP 10 rfl rfl Tryz.underlying42 rfl (by kernel_rfl)) rfl ?_
      refine Dr.val Grow.refl rfl (fun w hG => Runs.loadB rfl rfl Tryz.underlying39 rfl (k900.step hG) rfl) rfl ?_
      refine Dr.val Grow.refl rfl (fun w hG => Runs.move rfl rfl) rfl ?_
      refine Dr.val Grow.refl rfl (fun w hG => Runs.move rfl rfl) rfl ?_
      refine Dr.val Grow.refl rfl (fun w hG => Runs.indexBN rfl rfl rfl Tryz.underlying43 (s := 12) (by kernel_rfl) (j := 0) rfl (by omega)) rfl ?_
      refine Dr.val Grow.refl rfl (fun w hG => Runs.fieldP 11 rfl rfl Tryz.underlying42 rfl (by kernel_rfl)) rfl ?_
      refine Dr.val Grow.refl rfl (fun w hG => Runs.loadB rfl rfl Tryz.underlying40 rfl (k900.step hG) rfl) rfl ?_
      refine Dr.callV rfl (fun w => Enters.func rfl rfl rfl (run_enter Tryz.func26 (by kernel_rfl) rfl)) rfl (fun w hG => said_none a _ (nb.step hG)) ?_
      refine Dr.slice (vs := [_]) (s := 10) rfl rfl rfl rfl Tryz.underlying70 (by kernel_rfl) zero_debentureref26_Ask (by omega) (by omega) ⟨rfl, trivial⟩ rfl ?_
      refine Dr.nil ?_
      refine FinX.open (j := 13) rfl ?_
      intro u13
      refine FinX.done (F' := [(0, _), (3, _), (4, _), (5, _), (12, _), (65, _), (66, _), (79, _)]) rfl ⟨rfl, rfl, rfl, rfl, rfl, rfl, rfl, rfl, trivial⟩ ?_
      intro w4 hw4 fw4
      replace bel := bel.step hw4
      replace k900 := k900.step hw4
      replace k5 := k5.step hw4
      replace nb := nb.step hw4
      obtain ⟨gz, rfl, kz, -⟩ := fw4.2
      have hrd : Reads w4 w4.heap.size 10 (some ⟨gz, 0, none⟩) 1 a.cs := Reads.blk (size := 10) kz 1 rfl
      have own : Own w4 w.heap.size 36 10 (.slice none 0 0) 0 [] := Own.nil _ _ _ _
      refine Seq.append rfl rfl rfl Tryz.underlying70 (by kernel_rfl) zero_debentureref26_Ask rfl (by decide) (b := 120) (by kernel_rfl) own (hrd) (one_As a) bel.size (by simp only [maxLen]; omega) (by omega) rfl rfl rfl ?_
      clear own
      intro vw5 w5 own haw5
      replace bel := bel.trans haw5.below
      replace k900 := k900.grown haw5.grown (by intro e; cases e)
      refine Seq.val (Runs.assign rfl rfl) rfl rfl rfl ?_
      refine Seq.nil ?_
      refine Post.weak (F' := [(0, _), (3, _), (4, _), (5, _), (12, _), (65, _)]) ⟨rfl, rfl, rfl, rfl, rfl, rfl, trivial⟩ ?_
      refine Post.block_normal ?_
      refine Post.then_ ?_
      refine Cd.region ?_
      refine Seq.val (Runs.move rfl rfl) rfl rfl rfl ?_
      refine Seq.val (Runs.addI rfl rfl rfl (by omega) (by omega)) rfl rfl rfl ?_
      refine Seq.val (Runs.assign rfl rfl) rfl rfl rfl ?_
      refine Seq.nil ?_
      refine Post.weak (F' := [(0, _), (3, _), (4, _), (5, _), (12, _), (65, _)]) ⟨rfl, rfl, rfl, rfl, rfl, rfl, trivial⟩ ?_
      exact Post.round (1, vw5) ⟨rfl, rfl, rfl, trivial⟩ ⟨by simp, by simp, fun _ => ⟨htl, own⟩, bel, k900⟩ (by simp)
  · obtain rfl : i = 1 := by omega
    obtain ⟨htl, own⟩ := hv1 rfl
    obtain ⟨A7, c7, rfl, hrd⟩ := own.reads
    refine Cd.exit ?_
    refine Post.then_exit ?_
    refine Post.round_exit ?_
    refine Post.block_exit ?_
    refine Post.then_ ?_
    refine Cd.seq ?_
    refine Cd.region ?_
    refine Seq.val (Runs.move rfl rfl) rfl rfl rfl ?_
    refine Seq.call (Enters.func rfl rfl rfl (run_enter Tryz.func27 (by kernel_rfl) rfl)) rfl rfl rfl (heavy_any _ c7 A7 a _ hrd (by omega) hb) ?_
    rintro e w7 ⟨⟨b, rfl⟩, rfl⟩
    refine ⟨_, rfl, ?_⟩
    refine Seq.val (Runs.not rfl rfl) rfl rfl rfl ?_
    refine Seq.val (Runs.assign rfl rfl) rfl rfl rfl ?_
    refine Seq.nil ?_
    refine Post.weak (F' := [(0, _), (2, _), (3, _), (4, _), (12, _)]) ⟨rfl, rfl, rfl, rfl, rfl, trivial⟩ ?_
    refine Post.then_ ?_
    refine Cd.ret ?_
    refine Post.end1 rfl rfl (.inl rfl) ?_
    exact ⟨⟨_, rfl⟩, bel⟩
end Go.Proofs.YtefpejnmhlhnkaaGreatDoor

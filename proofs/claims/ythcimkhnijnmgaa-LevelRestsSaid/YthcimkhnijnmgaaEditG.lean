/-
  edit.Apply at an empty version and one file; debenturelaw12's awake. No condition.
-/
import Derived.Test.YthcimkhnijnmgaaEditF
namespace Go.Proofs.Ythcimkhnijnmgaa
open Go.RowKit

theorem zero_edit_Version : zeroIs Try.prog 29 = some (some (.agg #[.int .i64 0, .int .i64 0, .int .i64 0, .slice none 0 0])) := by kernel_rfl
theorem run_build_Ver (a b c : Int) (A : Option Addr) (m k : Nat) (w : World) : (Instr.build 29 #[(0, .int .i64 a), (1, .int .i64 b), (2, .int .i64 c), (3, .slice A m k)]).run Try.prog w = .ok (.agg #[.int .i64 a, .int .i64 b, .int .i64 c, .slice A m k]) w := by
  have hu := Try.underlying29
  go_simp
def f0 : Fl := ⟨1, 0, [97], [98], 1, 9⟩
theorem f0_ok : f0.ok := ⟨by decide, by decide⟩
theorem right_none (w : World) : Calls Try.prog 19 #[.agg #[.int .i64 0, .int .i64 0, .int .i64 0, .slice none 0 0]] w fun e w' => e = .returned (.bool true) ∧ Grow w w' :=
  right_any 0 0 0 w.heap.size none 0 [] w Reads.none_ (Nat.le_refl _) (by simp) (by simp)
theorem right_f0 : rightB 0 2 0 [f0] = true := by kernel_rfl
theorem laid_f0 : laidB (-1) 2 (-1) [] [f0] = true := by kernel_rfl
theorem raise_a (w : World) : Calls Try.prog 18 #[.int .i64 0, .int .i64 (-1)] w fun e w' => e = .returned (.tuple #[.int .i64 0, .bool true]) ∧ Grow w w' := raise_any 0 (-1) w
theorem raise_b (w : World) : Calls Try.prog 18 #[.int .i64 0, .int .i64 2] w fun e w' => e = .returned (.tuple #[.int .i64 2, .bool true]) ∧ Grow w w' := raise_any 0 2 w
theorem Own.cap {w : World} {B size n c : Nat} {A : Option Addr} {e : TypeId} {xs : List Value} (h : Own w B e size (.slice A n c) n xs) (h0 : 0 < n) : n ≤ c := by
  obtain ⟨hl, ⟨_, h1⟩ | ⟨g, cap, cur, h', h1, h2, h3, h4, h5, h6⟩⟩ := h.row
  · omega
  · injection h' with _ _ h'
    omega
theorem apply_one (B : Nat) (A : Option Addr) (w : World) (hr : Reads w B 6 A 1 (fcs [f0])) (hB : B ≤ w.heap.size) :
    Calls Try.prog 10 #[.agg #[.int .i64 0, .int .i64 0, .int .i64 0, .slice none 0 0], .agg #[.int .i64 (-1), .int .i64 2, .int .i64 (-1), .slice none 0 0, .slice A 1 1]] w fun e w' => Grow w w' ∧ ∃ A' c, e = .returned (.tuple #[.agg #[.int .i64 0, .int .i64 2, .int .i64 0, .slice A' 1 c], .int .i64 0]) ∧ 1 ≤ c ∧ Own w' w.heap.size 37 6 (.slice A' 1 c) 1 (fcs [f0]) := by
  have bel := Below.refl w.heap.size w
  have hl : ∀ W, Below w.heap.size w W → Calls Try.prog 20 #[.agg #[.int .i64 (-1), .int .i64 2, .int .i64 (-1), .slice none 0 0, .slice A 1 1]] W fun e w' => e = .returned (.bool true) ∧ Grow W w' := fun W hb => by
    have := laid_any (-1) 2 (-1) B none A 0 1 [] [f0] W Reads.none_ (hr.below (hb.mono hB)) (Nat.le_trans hB hb.size)
    rw [laid_f0] at this
    exact this
  refine Calls.start 104 Try.func10 rfl rfl rfl ?_
  refine Cd.seq ?_
  refine Cd.region ?_
  refine Seq.box rfl rfl rfl rfl rfl ?_
  intro g2 w1 n2
  have e2 := Nat.le_trans bel.size n2.ge
  replace bel := bel.step n2.below
  have k2 := n2.blk
  refine Seq.box rfl rfl rfl rfl rfl ?_
  intro g3 w2 n3
  have e3 := Nat.le_trans bel.size n3.ge
  have l3 := Nat.lt_of_lt_of_le k2.lt n3.ge
  replace bel := bel.step n3.below
  replace k2 := k2.step n3.below
  have k3 := n3.blk
  refine Seq.alloc rfl (run_zero zero_edit_Version) rfl rfl rfl ?_
  intro g4 w3 n4
  have e4 := Nat.le_trans bel.size n4.ge
  have l4 := Nat.lt_of_lt_of_le k3.lt n4.ge
  have l4_k2 := Nat.lt_of_lt_of_le k2.lt n4.ge
  replace bel := bel.step n4.below
  replace k2 := k2.step n4.below
  replace k3 := k3.step n4.below
  have k4 := n4.blk
  refine Seq.val (Runs.assign rfl rfl) rfl rfl rfl ?_
  refine Seq.nil ?_
  refine Post.weak (F' := [(0, _), (1, _), (2, _), (3, _), (4, _), (5, _)]) ⟨rfl, rfl, rfl, rfl, rfl, rfl, trivial⟩ ?_
  refine Post.then_ ?_
  refine Cd.seq ?_
  refine Cd.region ?_
  refine Seq.val (Runs.fieldB 0 rfl rfl Try.underlying29 rfl (by kernel_rfl)) rfl rfl rfl ?_
  refine Seq.val (Runs.loadB rfl rfl Try.underlying3 rfl k2 rfl) rfl rfl rfl ?_
  refine Seq.val (Runs.fieldB 0 rfl rfl Try.underlying46 rfl (by kernel_rfl)) rfl rfl rfl ?_
  refine Seq.val (Runs.loadB rfl rfl Try.underlying3 rfl k3 rfl) rfl rfl rfl ?_
  refine Seq.call (Enters.func rfl rfl rfl (run_enter Try.func18 (by kernel_rfl) rfl)) rfl rfl rfl (raise_a _) ?_
  rintro e w2 ⟨rfl, hb2⟩
  refine ⟨_, rfl, ?_⟩
  replace bel := bel.step hb2
  replace k2 := k2.step hb2
  replace k3 := k3.step hb2
  replace k4 := k4.step hb2
  refine Seq.val (Runs.move rfl rfl) rfl rfl rfl ?_
  refine Seq.val (Runs.extract rfl rfl rfl) rfl rfl rfl ?_
  refine Seq.val (Runs.extract rfl rfl rfl) rfl rfl rfl ?_
  refine Seq.val (Runs.assign rfl rfl) rfl rfl rfl ?_
  refine Seq.val (Runs.assign rfl rfl) rfl rfl rfl ?_
  refine Seq.nil ?_
  refine Post.weak (F' := [(0, _), (1, _), (2, _), (3, _), (4, _), (5, _), (6, _), (7, _)]) ⟨rfl, rfl, rfl, rfl, rfl, rfl, rfl, rfl, trivial⟩ ?_
  refine Post.then_ ?_
  refine Cd.seq ?_
  refine Cd.region ?_
  refine Seq.val (Runs.fieldB 1 rfl rfl Try.underlying29 rfl (by kernel_rfl)) rfl rfl rfl ?_
  refine Seq.val (Runs.loadB rfl rfl Try.underlying3 rfl k2 rfl) rfl rfl rfl ?_
  refine Seq.val (Runs.fieldB 1 rfl rfl Try.underlying46 rfl (by kernel_rfl)) rfl rfl rfl ?_
  refine Seq.val (Runs.loadB rfl rfl Try.underlying3 rfl k3 rfl) rfl rfl rfl ?_
  refine Seq.call (Enters.func rfl rfl rfl (run_enter Try.func18 (by kernel_rfl) rfl)) rfl rfl rfl (raise_b _) ?_
  rintro e w3 ⟨rfl, hb3⟩
  refine ⟨_, rfl, ?_⟩
  replace bel := bel.step hb3
  replace k2 := k2.step hb3
  replace k3 := k3.step hb3
  replace k4 := k4.step hb3
  refine Seq.val (Runs.move rfl rfl) rfl rfl rfl ?_
  refine Seq.val (Runs.extract rfl rfl rfl) rfl rfl rfl ?_
  refine Seq.val (Runs.extract rfl rfl rfl) rfl rfl rfl ?_
  refine Seq.val (Runs.assign rfl rfl) rfl rfl rfl ?_
  refine Seq.val (Runs.assign rfl rfl) rfl rfl rfl ?_
  refine Seq.nil ?_
  refine Post.weak (F' := [(0, _), (1, _), (2, _), (3, _), (4, _), (5, _), (6, _), (7, _), (8, _), (9, _)]) ⟨rfl, rfl, rfl, rfl, rfl, rfl, rfl, rfl, rfl, rfl, trivial⟩ ?_
  refine Post.then_ ?_
  refine Cd.seq ?_
  refine Cd.region ?_
  refine Seq.val (Runs.fieldB 2 rfl rfl Try.underlying29 rfl (by kernel_rfl)) rfl rfl rfl ?_
  refine Seq.val (Runs.loadB rfl rfl Try.underlying3 rfl k2 rfl) rfl rfl rfl ?_
  refine Seq.val (Runs.fieldB 2 rfl rfl Try.underlying46 rfl (by kernel_rfl)) rfl rfl rfl ?_
  refine Seq.val (Runs.loadB rfl rfl Try.underlying3 rfl k3 rfl) rfl rfl rfl ?_
  refine Seq.call (Enters.func rfl rfl rfl (run_enter Try.func18 (by kernel_rfl) rfl)) rfl rfl rfl (raise_a _) ?_
  rintro e w4 ⟨rfl, hb4⟩
  refine ⟨_, rfl, ?_⟩
  replace bel := bel.step hb4
  replace k2 := k2.step hb4
  replace k3 := k3.step hb4
  replace k4 := k4.step hb4
  refine Seq.val (Runs.move rfl rfl) rfl rfl rfl ?_
  refine Seq.val (Runs.extract rfl rfl rfl) rfl rfl rfl ?_
  refine Seq.val (Runs.extract rfl rfl rfl) rfl rfl rfl ?_
  refine Seq.val (Runs.assign rfl rfl) rfl rfl rfl ?_
  refine Seq.val (Runs.assign rfl rfl) rfl rfl rfl ?_
  refine Seq.nil ?_
  refine Post.weak (F' := [(0, _), (1, _), (2, _), (3, _), (4, _), (5, _), (6, _), (7, _), (8, _), (9, _), (10, _), (11, _)]) ⟨rfl, rfl, rfl, rfl, rfl, rfl, rfl, rfl, rfl, rfl, rfl, rfl, trivial⟩ ?_
  refine Post.then_ ?_
  refine Cd.seq ?_
  refine Cd.seq ?_
  refine Cd.region ?_
  refine Seq.val (Runs.loadW rfl rfl Try.underlying29 rfl k2 (m := 4) (by kernel_rfl) rfl) rfl rfl rfl ?_
  refine Seq.call (Enters.func rfl rfl rfl (run_enter Try.func19 (by kernel_rfl) rfl)) rfl rfl rfl (right_none _) ?_
  rintro e w5 ⟨rfl, hb5⟩
  refine ⟨_, rfl, ?_⟩
  replace bel := bel.step hb5
  replace k2 := k2.step hb5
  replace k3 := k3.step hb5
  replace k4 := k4.step hb5
  refine Seq.val (Runs.not rfl rfl) rfl rfl rfl ?_
  refine Seq.val (Runs.move rfl rfl) rfl rfl rfl ?_
  refine SeqC.start ?_
  refine SeqC.open rfl rfl rfl rfl rfl rfl rfl (fun hcx => Runs.loadW rfl rfl Try.underlying46 rfl k3 (m := 5) (by kernel_rfl) rfl) ?_
  refine SeqC.nextC rfl rfl rfl rfl rfl rfl rfl (fun hcx => Enters.func rfl rfl rfl (run_enter Try.func20 (by kernel_rfl) rfl)) (fun hcx => hl _ bel) ?_
  intro w4 hw4
  replace bel := bel.step hw4
  replace k2 := k2.step hw4
  replace k3 := k3.step hw4
  replace k4 := k4.step hw4
  refine SeqC.next rfl rfl rfl rfl rfl rfl rfl (fun hcx => Runs.not rfl rfl) ?_
  refine SeqC.or rfl rfl rfl rfl rfl rfl rfl ?_
  refine Seq.val (Runs.move rfl rfl) rfl rfl rfl ?_
  refine SeqC.start ?_
  refine SeqC.open rfl rfl rfl rfl rfl rfl rfl (fun hcx => Runs.move rfl rfl) ?_
  refine SeqC.next rfl rfl rfl rfl rfl rfl rfl (fun hcx => Runs.not rfl rfl) ?_
  refine SeqC.or rfl rfl rfl rfl rfl rfl rfl ?_
  refine Seq.val (Runs.move rfl rfl) rfl rfl rfl ?_
  refine SeqC.start ?_
  refine SeqC.open rfl rfl rfl rfl rfl rfl rfl (fun hcx => Runs.move rfl rfl) ?_
  refine SeqC.next rfl rfl rfl rfl rfl rfl rfl (fun hcx => Runs.not rfl rfl) ?_
  refine SeqC.or rfl rfl rfl rfl rfl rfl rfl ?_
  refine Seq.val (Runs.move rfl rfl) rfl rfl rfl ?_
  refine SeqC.start ?_
  refine SeqC.open rfl rfl rfl rfl rfl rfl rfl (fun hcx => Runs.move rfl rfl) ?_
  refine SeqC.next rfl rfl rfl rfl rfl rfl rfl (fun hcx => Runs.not rfl rfl) ?_
  refine SeqC.or rfl rfl rfl rfl rfl rfl rfl ?_
  refine Seq.nil ?_
  refine Post.weak (F' := [(0, _), (1, _), (2, _), (3, _), (4, _), (5, _), (6, _), (7, _), (8, _), (9, _), (10, _), (11, _), (59, _)]) ⟨rfl, rfl, rfl, rfl, rfl, rfl, rfl, rfl, rfl, rfl, rfl, rfl, rfl, trivial⟩ ?_
  refine Post.then_ ?_
  refine Cd.condF rfl rfl ?_
  refine Cd.skip ?_
  refine Post.then_ ?_
  refine Cd.seq ?_
  refine Cd.region ?_
  refine Seq.val (Runs.move rfl rfl) rfl rfl rfl ?_
  refine Seq.val (Runs.move rfl rfl) rfl rfl rfl ?_
  refine Seq.val (Runs.move rfl rfl) rfl rfl rfl ?_
  refine Seq.val (Runs.fieldB 3 rfl rfl Try.underlying29 rfl (by kernel_rfl)) rfl rfl rfl ?_
  refine Seq.val (Runs.loadB rfl rfl Try.underlying27 rfl k2 rfl) rfl rfl rfl ?_
  refine Seq.call (Enters.func rfl rfl rfl (run_enter Try.func21 (by kernel_rfl) rfl)) rfl rfl rfl (clone_nil _) ?_
  rintro e w6 ⟨rfl, hb6⟩
  refine ⟨_, rfl, ?_⟩
  replace bel := bel.step hb6
  replace k2 := k2.step hb6
  replace k3 := k3.step hb6
  replace k4 := k4.step hb6
  refine Seq.val (Runs.build rfl rfl (run_build_Ver _ _ _ _ _ _ _)) rfl rfl rfl ?_
  refine Seq.alloc rfl (run_zero zero_edit_Version) rfl rfl rfl ?_
  intro g12 w5 n12
  have e12 := Nat.le_trans bel.size n12.ge
  have l12 := Nat.lt_of_lt_of_le k4.lt n12.ge
  have l12_k2 := Nat.lt_of_lt_of_le k2.lt n12.ge
  have l12_k3 := Nat.lt_of_lt_of_le k3.lt n12.ge
  replace bel := bel.step n12.below
  replace k2 := k2.step n12.below
  replace k3 := k3.step n12.below
  replace k4 := k4.step n12.below
  have k12 := n12.blk
  refine Seq.storeN rfl rfl rfl rfl (m := 4) (by kernel_rfl) rfl (by repeat' first | exact trivial | apply And.intro | rfl | assumption) k12 (by simp [Value.cells]) rfl rfl ?_
  intro w6 pw6
  replace bel := bel.put k12 pw6 e12
  replace k2 := k2.put pw6 (by omega)
  replace k3 := k3.put pw6 (by omega)
  replace k4 := k4.put pw6 (by omega)
  replace k12 := pw6.blk
  refine Seq.nil ?_
  refine Post.weak (F' := [(0, _), (1, _), (2, _), (3, _), (4, _), (5, _), (6, _), (7, _), (8, _), (9, _), (10, _), (11, _), (12, _), (59, _)]) ⟨rfl, rfl, rfl, rfl, rfl, rfl, rfl, rfl, rfl, rfl, rfl, rfl, rfl, rfl, trivial⟩ ?_
  refine Post.then_ ?_
  refine Cd.seq ?_
  refine Cd.seq ?_
  refine Cd.region ?_
  refine Seq.val (Runs.fieldB 3 rfl rfl Try.underlying46 rfl (by kernel_rfl)) rfl rfl rfl ?_
  refine Seq.val (Runs.loadB rfl rfl Try.underlying31 rfl k3 rfl) rfl rfl rfl ?_
  refine Seq.val (Runs.len rfl rfl Try.underlying31) rfl rfl rfl ?_
  refine Seq.val (Runs.move rfl rfl) rfl rfl rfl ?_
  refine Seq.nil ?_
  refine Post.weak (F' := [(0, _), (1, _), (2, _), (3, _), (4, _), (5, _), (6, _), (7, _), (8, _), (9, _), (10, _), (11, _), (12, _), (59, _), (69, _), (70, _), (71, _)]) ⟨rfl, rfl, rfl, rfl, rfl, rfl, rfl, rfl, rfl, rfl, rfl, rfl, rfl, rfl, rfl, rfl, rfl, trivial⟩ ?_
  refine Post.then_ ?_
  refine Cd.block ?_
  refine Cd.loop (σ := Unit) (fun _ => [(3, .pointer (some ⟨g3, 0, none⟩)), (4, .pointer (some ⟨g4, 0, none⟩)), (12, .pointer (some ⟨g12, 0, none⟩)), (69, .slice none 0 0), (70, .int .i64 0), (71, .int .i64 0)]) (fun _ wr => Below w.heap.size w wr ∧ Blk wr g3 46 #[.int .i64 (-1), .int .i64 2, .int .i64 (-1), .slice none 0 0, .slice A 1 1] ∧ Blk wr g4 29 #[.int .i64 0, .int .i64 0, .int .i64 0, .slice none 0 0] ∧ Blk wr g12 29 #[.int .i64 0, .int .i64 2, .int .i64 0, .slice none 0 0]) (fun _ => 0) () ⟨bel, k3, k4, k12⟩ ⟨rfl, rfl, rfl, rfl, rfl, rfl, trivial⟩ ?_
  clear bel k2 k3 k4 k12
  rintro ⟨⟩ wr ⟨bel, k3, k4, k12⟩
  refine Cd.seq ?_
  refine Cd.region ?_
  refine Seq.val (Runs.lss rfl rfl rfl) rfl rfl rfl ?_
  refine Seq.nil ?_
  refine Post.weak (F' := [(3, _), (4, _), (12, _), (69, _), (70, _), (71, _), (72, _)]) ⟨rfl, rfl, rfl, rfl, rfl, rfl, rfl, trivial⟩ ?_
  refine Post.then_ ?_
  refine Cd.seq ?_
  refine Cd.condF rfl (by simp) ?_
  refine Cd.exit ?_
  refine Post.then_exit ?_
  refine Post.round_exit ?_
  refine Post.block_exit ?_
  refine Post.then_ ?_
  refine Cd.seq ?_
  refine Cd.region ?_
  refine Seq.val (Runs.fieldB 3 rfl rfl Try.underlying29 rfl (by kernel_rfl)) rfl rfl rfl ?_
  refine Seq.val (Runs.loadB rfl rfl Try.underlying27 rfl k12 rfl) rfl rfl rfl ?_
  refine Seq.val (Runs.fieldB 4 rfl rfl Try.underlying46 rfl (by kernel_rfl)) rfl rfl rfl ?_
  refine Seq.val (Runs.loadB rfl rfl Try.underlying27 rfl k3 rfl) rfl rfl rfl ?_
  have own : Own wr w.heap.size 37 6 (.slice none 0 0) 0 [] := Own.nil _ _ _ _
  have hrA := hr.below (bel.mono hB)
  refine Seq.append rfl rfl rfl Try.underlying27 (by kernel_rfl) zero_edit_File rfl (by decide) (b := 64) (by kernel_rfl) own (hrA) (by intro x hx; simp [fcs, f0] at hx; rcases hx with rfl | rfl | rfl | rfl | rfl | rfl <;> rfl) bel.size (by simp only [maxLen]; omega) (by omega) rfl rfl rfl ?_
  clear own
  intro vw7 w7 own haw7
  replace bel := bel.trans haw7.below
  replace k3 := k3.grown haw7.grown (by intro e; cases e)
  replace k4 := k4.grown haw7.grown (by intro e; cases e)
  replace k12 := k12.grown haw7.grown (by intro e; cases e)
  replace own : Own w7 w.heap.size 37 6 vw7 1 (fcs [f0]) := own
  obtain ⟨A', c, rfl, -⟩ := own.reads
  have hcap := own.cap (by omega)
  refine Seq.val (Runs.fieldB 3 rfl rfl Try.underlying29 rfl (by kernel_rfl)) rfl rfl rfl ?_
  refine Seq.store1 rfl rfl rfl (by kernel_rfl) rfl rfl k12 rfl rfl rfl ?_
  intro w8 pw8
  replace bel := bel.put k12 pw8 e12
  replace k3 := k3.put pw8 (by omega)
  replace k4 := k4.put pw8 (by omega)
  replace own := own.put k12 pw8 e12
  replace k12 := pw8.blk
  refine Seq.nil ?_
  refine Post.weak (F' := [(3, _), (4, _), (12, _), (69, _), (70, _), (71, _), (72, _)]) ⟨rfl, rfl, rfl, rfl, rfl, rfl, rfl, trivial⟩ ?_
  refine Post.then_ ?_
  refine Cd.seq ?_
  refine Cd.region ?_
  refine Seq.val (Runs.fieldB 3 rfl rfl Try.underlying29 rfl (by kernel_rfl)) rfl rfl rfl ?_
  refine Seq.val (Runs.loadB rfl rfl Try.underlying27 rfl k12 rfl) rfl rfl rfl ?_
  refine Seq.call (Enters.func rfl rfl rfl (run_enter Try.func25 (by kernel_rfl) rfl)) rfl rfl rfl (sort_one A' c 1 _ _ (by omega)) ?_
  rintro e w8 ⟨rfl, hb8⟩
  refine ⟨_, rfl, ?_⟩
  replace bel := bel.step hb8
  replace k3 := k3.step hb8
  replace k4 := k4.step hb8
  replace k12 := k12.step hb8
  replace own := own.step hb8
  refine Seq.nil ?_
  refine Post.weak (F' := [(3, _), (4, _), (12, _), (69, _), (70, _), (71, _), (72, _)]) ⟨rfl, rfl, rfl, rfl, rfl, rfl, rfl, trivial⟩ ?_
  refine Post.then_ ?_
  refine Cd.seq ?_
  refine Cd.seq ?_
  refine Cd.region ?_
  refine Seq.val (Runs.loadW rfl rfl Try.underlying29 rfl k12 (m := 4) (by kernel_rfl) rfl) rfl rfl rfl ?_
  obtain ⟨A2, c2, hv2, hrd⟩ := own.reads
  injection hv2 with hv3 _ hv4
  subst hv3 hv4
  refine Seq.call (Enters.func rfl rfl rfl (run_enter Try.func19 (by kernel_rfl) rfl)) rfl rfl rfl (right_any 0 2 0 _ A' c [f0] _ hrd (Nat.le_refl _) (by intro f hf; simp at hf; subst hf; exact f0_ok) hcap) ?_
  rw [right_f0]
  rintro e w9 ⟨rfl, hb9⟩
  refine ⟨_, rfl, ?_⟩
  replace bel := bel.step hb9
  replace k3 := k3.step hb9
  replace k4 := k4.step hb9
  replace k12 := k12.step hb9
  replace own := own.step hb9
  refine Seq.val (Runs.not rfl rfl) rfl rfl rfl ?_
  refine Seq.nil ?_
  refine Post.weak (F' := [(3, _), (4, _), (12, _), (69, _), (70, _), (71, _), (72, _), (101, _)]) ⟨rfl, rfl, rfl, rfl, rfl, rfl, rfl, rfl, trivial⟩ ?_
  refine Post.then_ ?_
  refine Cd.condF rfl rfl ?_
  refine Cd.skip ?_
  refine Post.then_ ?_
  refine Cd.seq ?_
  refine Cd.region ?_
  refine Seq.val (Runs.loadW rfl rfl Try.underlying29 rfl k12 (m := 4) (by kernel_rfl) rfl) rfl rfl rfl ?_
  refine Seq.storeN rfl rfl rfl rfl (m := 4) (by kernel_rfl) rfl (by repeat' first | exact trivial | apply And.intro | rfl | assumption) k4 (by simp [Value.cells]) rfl rfl ?_
  intro w9 pw9
  replace bel := bel.put k4 pw9 e4
  replace k3 := k3.put pw9 (by omega)
  replace k12 := k12.put pw9 (by omega)
  replace own := own.put k4 pw9 e4
  replace k4 := pw9.blk
  refine Seq.val (Runs.assign rfl rfl) rfl rfl rfl ?_
  refine Seq.nil ?_
  refine Post.weak (F' := [(3, _), (4, _), (5, _), (12, _), (69, _), (70, _), (71, _), (72, _), (101, _)]) ⟨rfl, rfl, rfl, rfl, rfl, rfl, rfl, rfl, rfl, trivial⟩ ?_
  refine Post.then_ ?_
  refine Cd.ret ?_
  refine Post.endC2 rfl rfl rfl k4 Try.underlying29 rfl (m := 4) (by kernel_rfl) rfl (.inl rfl) ?_
  exact ⟨bel, A', c, rfl, hcap, own⟩
theorem run_build_Ver0 (w : World) : (Instr.build 29 #[]).run Try.prog w = .ok (.agg #[.int .i64 0, .int .i64 0, .int .i64 0, .slice none 0 0]) w := by kernel_rfl
theorem run_build_F0 (w : World) : (Instr.build 37 #[(0, .int .i64 1), (2, .string { data := #[97] }), (3, .string { data := #[98] }), (4, .int .i64 1), (5, .int .i64 9)]).run Try.prog w = .ok f0.v w := by kernel_rfl
theorem run_build_E0 (A : Option Addr) (w : World) : (Instr.build 46 #[(0, .int .i64 (-1)), (1, .int .i64 2), (2, .int .i64 (-1)), (4, .slice A 1 1)]).run Try.prog w = .ok (.agg #[.int .i64 (-1), .int .i64 2, .int .i64 (-1), .slice none 0 0, .slice A 1 1]) w := by
  have hu := Try.underlying46
  go_simp
end Go.Proofs.Ythcimkhnijnmgaa


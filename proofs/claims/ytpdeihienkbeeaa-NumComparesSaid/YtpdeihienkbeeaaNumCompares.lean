/-
  NumCompares: which of any two ratios is greater; any number times a ratio, rounded: the statement returns true. No condition.
-/
import Derived.Test.YtpdeihienkbeeaaNumJ
import Derived.Test.YtpdeihienkbeeaaRatLaw
import Derived.Test.YtpdeihienkbeeaaBigK
import Derived.Test.YtpdeihienkbeeaaOpenI
namespace Go.Proofs.Ytpdeihienkbeeaa
open Go.ChangeShapes Go.WideShapes Go.ChangeAt Go.RowKit

theorem prod_big (a b : Int) (ha : I64 a) (hb : I64 b) : (a * b).natAbs < big := by
  refine big_of ?_
  have h1 := ha.1; have h2 := ha.2; have h3 := hb.1; have h4 := hb.2
  rw [Int.natAbs_mul]
  have := Nat.mul_le_mul (show a.natAbs ≤ 9223372036854775808 by omega) (show b.natAbs ≤ 9223372036854775808 by omega)
  omega
theorem walk_compares (p q r s n mode : Int) (w : World) (hp : I64 p) (hq : I64 q) (hr : I64 r) (hs : I64 s) (hn : I64 n) :
    Calls Try.prog 9 #[.agg #[.int .i64 p, .int .i64 q], .agg #[.int .i64 r, .int .i64 s], .int .i64 n, .int .i64 mode] w fun e w' => e = .returned (.bool true) ∧ Below w.heap.size w w' := by
  have bel := Below.refl w.heap.size w
  by_cases h0 : q = 0 ∨ s = 0
  · refine Calls.start 103 Try.func9 rfl rfl rfl ?_
    refine Cd.seq ?_
    refine Cd.region ?_
    refine Seq.box rfl rfl rfl rfl rfl ?_
    intro g4 w1 n4
    have e4 := Nat.le_trans bel.size n4.ge
    replace bel := bel.step n4.below
    have k4 := n4.blk
    refine Seq.box rfl rfl rfl rfl rfl ?_
    intro g5 w2 n5
    have e5 := Nat.le_trans bel.size n5.ge
    have l5 := Nat.lt_of_lt_of_le k4.lt n5.ge
    replace bel := bel.step n5.below
    replace k4 := k4.step n5.below
    have k5 := n5.blk
    refine Seq.val (Runs.assign rfl rfl) rfl rfl rfl ?_
    refine Seq.nil ?_
    refine Post.weak (F' := [(0, _), (1, _), (2, _), (3, _), (4, _), (5, _), (8, _)]) ⟨rfl, rfl, rfl, rfl, rfl, rfl, rfl, trivial⟩ ?_
    refine Post.then_ ?_
    refine Cd.seq ?_
    refine Cd.region ?_
    refine Seq.val (Runs.loadW rfl rfl Try.underlying45 rfl k4 (m := 2) (by kernel_rfl) rfl) rfl rfl rfl ?_
    refine Seq.val (Runs.loadW rfl rfl Try.underlying45 rfl k5 (m := 2) (by kernel_rfl) rfl) rfl rfl rfl ?_
    refine Seq.call (Enters.func rfl rfl rfl (run_enter Try.func29 (by kernel_rfl) rfl)) rfl rfl rfl (ratCmp_zero p q r s _ h0) ?_
    rintro e w2 ⟨rfl, hb2⟩
    refine ⟨_, rfl, ?_⟩
    replace bel := bel.step hb2
    replace k4 := k4.step hb2
    replace k5 := k5.step hb2
    refine Seq.val (Runs.move rfl rfl) rfl rfl rfl ?_
    refine Seq.val (Runs.extract rfl rfl rfl) rfl rfl rfl ?_
    refine Seq.val (Runs.extract rfl rfl rfl) rfl rfl rfl ?_
    refine Seq.val (Runs.assign rfl rfl) rfl rfl rfl ?_
    refine Seq.val (Runs.assign rfl rfl) rfl rfl rfl ?_
    refine Seq.nil ?_
    refine Post.weak (F' := [(0, _), (1, _), (2, _), (3, _), (4, _), (5, _), (8, _), (9, _), (10, _)]) ⟨rfl, rfl, rfl, rfl, rfl, rfl, rfl, rfl, rfl, trivial⟩ ?_
    refine Post.then_ ?_
    refine Cd.seq ?_
    refine Cd.seq ?_
    refine Cd.region ?_
    refine Seq.val (Runs.fieldB 1 rfl rfl Try.underlying45 rfl (by kernel_rfl)) rfl rfl rfl ?_
    refine Seq.val (Runs.loadB rfl rfl Try.underlying2 rfl k4 rfl) rfl rfl rfl ?_
    refine Seq.val (Runs.eqlI rfl rfl rfl) rfl rfl rfl ?_
    refine Seq.val (Runs.move rfl rfl) rfl rfl rfl ?_
    refine SeqC.start ?_
    refine SeqC.open rfl rfl rfl rfl rfl rfl rfl (fun hcx => Runs.fieldB 1 rfl rfl Try.underlying45 rfl (by kernel_rfl)) ?_
    refine SeqC.next rfl rfl rfl rfl rfl rfl rfl (fun hcx => Runs.loadB rfl rfl Try.underlying2 rfl k5 rfl) ?_
    refine SeqC.next rfl rfl rfl rfl rfl rfl rfl (fun hcx => Runs.eqlI rfl rfl rfl) ?_
    refine SeqC.or rfl rfl rfl rfl rfl rfl rfl ?_
    refine Seq.nil ?_
    refine Post.weak (F' := [(0, _), (1, _), (2, _), (3, _), (4, _), (5, _), (8, _), (9, _), (10, _), (31, _)]) ⟨rfl, rfl, rfl, rfl, rfl, rfl, rfl, rfl, rfl, rfl, trivial⟩ ?_
    refine Post.then_ ?_
    refine Cd.condT rfl (by simp; omega) ?_
    refine Cd.seq ?_
    refine Cd.region ?_
    refine Seq.val (Runs.move rfl rfl) rfl rfl rfl ?_
    refine Seq.val (Runs.eqlI rfl rfl rfl) rfl rfl rfl ?_
    refine Seq.val (Runs.move rfl rfl) rfl rfl rfl ?_
    refine SeqC.start ?_
    refine SeqC.open rfl rfl rfl rfl rfl rfl rfl (fun hcx => Runs.move rfl rfl) ?_
    refine SeqC.next rfl rfl rfl rfl rfl rfl rfl (fun hcx => Runs.not rfl rfl) ?_
    refine SeqC.and rfl rfl rfl rfl rfl rfl rfl ?_
    refine Seq.val (Runs.move rfl rfl) rfl rfl rfl ?_
    refine SeqC.start ?_
    refine SeqC.openC rfl rfl rfl rfl rfl rfl rfl (fun hcx => Enters.func rfl rfl rfl (run_enter Try.func15 (by kernel_rfl) rfl)) (fun hcx => awake_any _) ?_
    intro w3 hw3
    replace bel := bel.step hw3
    replace k4 := k4.step hw3
    replace k5 := k5.step hw3
    refine SeqC.and rfl rfl rfl rfl rfl rfl rfl ?_
    refine Seq.val (Runs.assign rfl rfl) rfl rfl rfl ?_
    refine Seq.nil ?_
    refine Post.weak (F' := [(0, _), (1, _), (2, _), (3, _), (4, _), (5, _), (8, _), (9, _), (10, _), (31, _)]) ⟨rfl, rfl, rfl, rfl, rfl, rfl, rfl, rfl, rfl, rfl, trivial⟩ ?_
    refine Post.then_ ?_
    refine Cd.ret ?_
    refine Post.then_ret ?_
    refine Post.end1 rfl rfl (.inl rfl) ?_
    exact ⟨rfl, bel⟩
  have hq0 : q ≠ 0 := fun h => h0 (.inl h)
  have hs0 : s ≠ 0 := fun h => h0 (.inr h)
  have c1 := fun w => ratCmp_any p q r s w hp hq hr hs hq0 hs0
  rw [way_law p q r s hq0 hs0] at c1
  have a1 := fun w => apply_any n p q mode w hn hp hq
  have a2 := fun w => refMulDiv_any n p q mode w hn hp hq
  obtain ⟨x, y, hV⟩ : ∃ x y, (if q = 0 ∨ mode < 0 ∨ 3 < mode then Value.tuple #[.int .i64 0, .bool false] else
      .tuple #[.int .i64 (smallOf (rndZ (n.natAbs * p.natAbs) (decide (decide (n < 0) ≠ decide (p < 0))) q mode)), .bool (fits (rndZ (n.natAbs * p.natAbs) (decide (decide (n < 0) ≠ decide (p < 0))) q mode))]) = .tuple #[.int .i64 x, .bool y] := by
    split
    · exact ⟨_, _, rfl⟩
    · exact ⟨_, _, rfl⟩
  rw [hV] at a1 a2
  have b1 := prod_big p s hp hs
  have b2 := prod_big r q hr hq
  refine Calls.start 103 Try.func9 rfl rfl rfl ?_
  refine Cd.seq ?_
  refine Cd.region ?_
  refine Seq.box rfl rfl rfl rfl rfl ?_
  intro g4 w1 n4
  have e4 := Nat.le_trans bel.size n4.ge
  replace bel := bel.step n4.below
  have k4 := n4.blk
  refine Seq.box rfl rfl rfl rfl rfl ?_
  intro g5 w2 n5
  have e5 := Nat.le_trans bel.size n5.ge
  have l5 := Nat.lt_of_lt_of_le k4.lt n5.ge
  replace bel := bel.step n5.below
  replace k4 := k4.step n5.below
  have k5 := n5.blk
  refine Seq.val (Runs.assign rfl rfl) rfl rfl rfl ?_
  refine Seq.nil ?_
  refine Post.weak (F' := [(0, _), (1, _), (2, _), (3, _), (4, _), (5, _), (8, _)]) ⟨rfl, rfl, rfl, rfl, rfl, rfl, rfl, trivial⟩ ?_
  refine Post.then_ ?_
  refine Cd.seq ?_
  refine Cd.region ?_
  refine Seq.val (Runs.loadW rfl rfl Try.underlying45 rfl k4 (m := 2) (by kernel_rfl) rfl) rfl rfl rfl ?_
  refine Seq.val (Runs.loadW rfl rfl Try.underlying45 rfl k5 (m := 2) (by kernel_rfl) rfl) rfl rfl rfl ?_
  refine Seq.call (Enters.func rfl rfl rfl (run_enter Try.func29 (by kernel_rfl) rfl)) rfl rfl rfl (c1 _) ?_
  rintro e w2 ⟨rfl, hb2⟩
  refine ⟨_, rfl, ?_⟩
  replace bel := bel.step hb2
  replace k4 := k4.step hb2
  replace k5 := k5.step hb2
  refine Seq.val (Runs.move rfl rfl) rfl rfl rfl ?_
  refine Seq.val (Runs.extract rfl rfl rfl) rfl rfl rfl ?_
  refine Seq.val (Runs.extract rfl rfl rfl) rfl rfl rfl ?_
  refine Seq.val (Runs.assign rfl rfl) rfl rfl rfl ?_
  refine Seq.val (Runs.assign rfl rfl) rfl rfl rfl ?_
  refine Seq.nil ?_
  refine Post.weak (F' := [(0, _), (1, _), (2, _), (3, _), (4, _), (5, _), (8, _), (9, _), (10, _)]) ⟨rfl, rfl, rfl, rfl, rfl, rfl, rfl, rfl, rfl, trivial⟩ ?_
  refine Post.then_ ?_
  refine Cd.seq ?_
  refine Cd.seq ?_
  refine Cd.region ?_
  refine Seq.val (Runs.fieldB 1 rfl rfl Try.underlying45 rfl (by kernel_rfl)) rfl rfl rfl ?_
  refine Seq.val (Runs.loadB rfl rfl Try.underlying2 rfl k4 rfl) rfl rfl rfl ?_
  refine Seq.val (Runs.eqlI rfl rfl rfl) rfl rfl rfl ?_
  refine Seq.val (Runs.move rfl rfl) rfl rfl rfl ?_
  refine SeqC.start ?_
  refine SeqC.open rfl rfl rfl rfl rfl rfl rfl (fun hcx => Runs.fieldB 1 rfl rfl Try.underlying45 rfl (by kernel_rfl)) ?_
  refine SeqC.next rfl rfl rfl rfl rfl rfl rfl (fun hcx => Runs.loadB rfl rfl Try.underlying2 rfl k5 rfl) ?_
  refine SeqC.next rfl rfl rfl rfl rfl rfl rfl (fun hcx => Runs.eqlI rfl rfl rfl) ?_
  refine SeqC.or rfl rfl rfl rfl rfl rfl rfl ?_
  refine Seq.nil ?_
  refine Post.weak (F' := [(0, _), (1, _), (2, _), (3, _), (4, _), (5, _), (8, _), (9, _), (10, _), (31, _)]) ⟨rfl, rfl, rfl, rfl, rfl, rfl, rfl, rfl, rfl, rfl, trivial⟩ ?_
  refine Post.then_ ?_
  refine Cd.condF rfl (by simp; omega) ?_
  refine Cd.skip ?_
  refine Post.then_ ?_
  refine Cd.seq ?_
  refine Cd.draw 8 (by kernel_rfl) [] (.inl rfl) rfl Grow Grow.refl (fun _ _ _ => Grow.trans) ?_
  intro w3 hw3 zw3
  replace bel := bel.step hw3
  replace k4 := k4.step hw3
  replace k5 := k5.step hw3
  have zbel := bel.size
  have zlt := k5.lt
  refine Dr.val Grow.refl rfl (fun w hG => Runs.fieldB 0 rfl rfl Try.underlying45 rfl (by kernel_rfl)) rfl ?_
  refine Dr.val Grow.refl rfl (fun w hG => Runs.loadB rfl rfl Try.underlying2 rfl (k4.step hG) rfl) rfl ?_
  refine Dr.call (Φ := fun v w => BigR w v p) rfl (fun w => Enters.func rfl rfl rfl (run_enter Try.func25 (by kernel_rfl) rfl)) rfl (BigR.stable _) (fun w hG => of_big p _ hp.1 hp.2) ?_
  refine Dr.val Grow.refl rfl (fun w hG => Runs.fieldB 1 rfl rfl Try.underlying45 rfl (by kernel_rfl)) rfl ?_
  refine Dr.val Grow.refl rfl (fun w hG => Runs.loadB rfl rfl Try.underlying2 rfl (k5.step hG) rfl) rfl ?_
  refine Dr.call (Φ := fun v w => BigR w v s) rfl (fun w => Enters.func rfl rfl rfl (run_enter Try.func25 (by kernel_rfl) rfl)) rfl (BigR.stable _) (fun w hG => of_big s _ hs.1 hs.2) ?_
  refine Dr.call2 (j := 2) (j' := 5) (Φ := fun v w => BigR w v (p * s)) rfl rfl rfl rfl rfl (fun u u' w => Enters.func rfl rfl rfl (run_enter Try.func28 (by kernel_rfl) rfl)) rfl (BigR.stable _) (fun u u' w hG hu hu' => times_grow _ _ p s _ hu hu' hp.big hs.big) ?_
  refine Dr.alloc rfl rfl (run_zero zero_debentureref01_Big) rfl ?_
  refine Dr.nil ?_
  refine FinX.open (j := 6) rfl ?_
  intro u6
  refine FinX.open (j := 7) rfl ?_
  intro u7
  refine FinX.done (F' := [(0, _), (1, _), (2, _), (3, _), (4, _), (5, _), (8, _), (9, _), (10, _), (11, _), (31, _), (47, _)]) rfl ⟨rfl, rfl, rfl, rfl, rfl, rfl, rfl, rfl, rfl, rfl, rfl, rfl, trivial⟩ ?_
  intro w4 hw4 fw4
  replace bel := bel.step hw4
  replace k4 := k4.step hw4
  replace k5 := k5.step hw4
  obtain ⟨⟨-, h11⟩, g11, rfl, k11, e11⟩ := fw4
  obtain ⟨m1, rfl, o1, h11⟩ := h11.agg
  have i1 := h11.ni
  have l11 := Nat.lt_of_lt_of_le zlt e11
  replace e11 := Nat.le_trans zbel e11
  refine Seq.storeN rfl rfl rfl rfl (m := 2) (by kernel_rfl) rfl (by repeat' first | exact trivial | apply And.intro | rfl | assumption) k11 (by simp [Value.cells]) rfl rfl ?_
  intro w5 pw5
  replace bel := bel.put k11 pw5 e11
  replace k4 := k4.put pw5 (by omega)
  replace k5 := k5.put pw5 (by omega)
  replace h11 := h11.put k11 pw5 e11
  replace k11 := pw5.blk
  refine Seq.nil ?_
  refine Post.weak (F' := [(0, _), (1, _), (2, _), (3, _), (4, _), (5, _), (8, _), (9, _), (10, _), (11, _), (31, _)]) ⟨rfl, rfl, rfl, rfl, rfl, rfl, rfl, rfl, rfl, rfl, rfl, trivial⟩ ?_
  refine Post.then_ ?_
  refine Cd.seq ?_
  refine Cd.draw 8 (by kernel_rfl) [] (.inl rfl) rfl Grow Grow.refl (fun _ _ _ => Grow.trans) ?_
  intro w6 hw6 zw6
  replace bel := bel.step hw6
  replace k4 := k4.step hw6
  replace k5 := k5.step hw6
  replace h11 := h11.step hw6
  replace k11 := k11.step hw6
  have zbel := bel.size
  have zlt := k11.lt
  refine Dr.val Grow.refl rfl (fun w hG => Runs.fieldB 0 rfl rfl Try.underlying45 rfl (by kernel_rfl)) rfl ?_
  refine Dr.val Grow.refl rfl (fun w hG => Runs.loadB rfl rfl Try.underlying2 rfl (k5.step hG) rfl) rfl ?_
  refine Dr.call (Φ := fun v w => BigR w v r) rfl (fun w => Enters.func rfl rfl rfl (run_enter Try.func25 (by kernel_rfl) rfl)) rfl (BigR.stable _) (fun w hG => of_big r _ hr.1 hr.2) ?_
  refine Dr.val Grow.refl rfl (fun w hG => Runs.fieldB 1 rfl rfl Try.underlying45 rfl (by kernel_rfl)) rfl ?_
  refine Dr.val Grow.refl rfl (fun w hG => Runs.loadB rfl rfl Try.underlying2 rfl (k4.step hG) rfl) rfl ?_
  refine Dr.call (Φ := fun v w => BigR w v q) rfl (fun w => Enters.func rfl rfl rfl (run_enter Try.func25 (by kernel_rfl) rfl)) rfl (BigR.stable _) (fun w hG => of_big q _ hq.1 hq.2) ?_
  refine Dr.call2 (j := 2) (j' := 5) (Φ := fun v w => BigR w v (r * q)) rfl rfl rfl rfl rfl (fun u u' w => Enters.func rfl rfl rfl (run_enter Try.func28 (by kernel_rfl) rfl)) rfl (BigR.stable _) (fun u u' w hG hu hu' => times_grow _ _ r q _ hu hu' hr.big hq.big) ?_
  refine Dr.alloc rfl rfl (run_zero zero_debentureref01_Big) rfl ?_
  refine Dr.nil ?_
  refine FinX.open (j := 6) rfl ?_
  intro u6
  refine FinX.open (j := 7) rfl ?_
  intro u7
  refine FinX.done (F' := [(0, _), (1, _), (2, _), (3, _), (4, _), (5, _), (8, _), (9, _), (10, _), (11, _), (12, _), (31, _), (54, _)]) rfl ⟨rfl, rfl, rfl, rfl, rfl, rfl, rfl, rfl, rfl, rfl, rfl, rfl, rfl, trivial⟩ ?_
  intro w7 hw7 fw7
  replace bel := bel.step hw7
  replace k4 := k4.step hw7
  replace k5 := k5.step hw7
  replace h11 := h11.step hw7
  replace k11 := k11.step hw7
  obtain ⟨⟨-, h12⟩, g12, rfl, k12, e12⟩ := fw7
  obtain ⟨m2, rfl, o2, h12⟩ := h12.agg
  have i2 := h12.ni
  have l12 := Nat.lt_of_lt_of_le zlt e12
  replace e12 := Nat.le_trans zbel e12
  refine Seq.storeN rfl rfl rfl rfl (m := 2) (by kernel_rfl) rfl (by repeat' first | exact trivial | apply And.intro | rfl | assumption) k12 (by simp [Value.cells]) rfl rfl ?_
  intro w8 pw8
  replace bel := bel.put k12 pw8 e12
  replace k4 := k4.put pw8 (by omega)
  replace k5 := k5.put pw8 (by omega)
  replace h11 := h11.put k12 pw8 e12
  replace k11 := k11.put pw8 (by omega)
  replace h12 := h12.put k12 pw8 e12
  replace k12 := pw8.blk
  refine Seq.nil ?_
  refine Post.weak (F' := [(0, _), (1, _), (2, _), (3, _), (4, _), (5, _), (8, _), (9, _), (10, _), (11, _), (12, _), (31, _)]) ⟨rfl, rfl, rfl, rfl, rfl, rfl, rfl, rfl, rfl, rfl, rfl, rfl, trivial⟩ ?_
  refine Post.then_ ?_
  refine Cd.seq ?_
  refine Cd.region ?_
  refine Seq.val (Runs.loadW rfl rfl Try.underlying31 rfl k11 (m := 2) (by kernel_rfl) rfl) rfl rfl rfl ?_
  refine Seq.val (Runs.loadW rfl rfl Try.underlying31 rfl k12 (m := 2) (by kernel_rfl) rfl) rfl rfl rfl ?_
  refine Seq.call (Enters.func rfl rfl rfl (run_enter Try.func30 (by kernel_rfl) rfl)) rfl rfl rfl (cmpB_grow _ _ (p * s) (r * q) _ ⟨m1, rfl, h11⟩ ⟨m2, rfl, h12⟩ b1 b2) ?_
  rintro e w15 ⟨rfl, hb15⟩
  refine ⟨_, rfl, ?_⟩
  replace bel := bel.step hb15
  replace k4 := k4.step hb15
  replace k5 := k5.step hb15
  replace h11 := h11.step hb15
  replace k11 := k11.step hb15
  replace h12 := h12.step hb15
  replace k12 := k12.step hb15
  refine Seq.val (Runs.assign rfl rfl) rfl rfl rfl ?_
  refine Seq.nil ?_
  refine Post.weak (F' := [(0, _), (1, _), (2, _), (3, _), (4, _), (5, _), (8, _), (9, _), (10, _), (11, _), (12, _), (13, _), (31, _)]) ⟨rfl, rfl, rfl, rfl, rfl, rfl, rfl, rfl, rfl, rfl, rfl, rfl, rfl, trivial⟩ ?_
  refine Post.then_ ?_
  refine Cd.seq ?_
  refine Cd.seq ?_
  refine Cd.region ?_
  refine Seq.val (Runs.fieldB 1 rfl rfl Try.underlying45 rfl (by kernel_rfl)) rfl rfl rfl ?_
  refine Seq.val (Runs.loadB rfl rfl Try.underlying2 rfl k4 rfl) rfl rfl rfl ?_
  refine Seq.val (Runs.lss rfl rfl rfl) rfl rfl rfl ?_
  refine Seq.val (Runs.fieldB 1 rfl rfl Try.underlying45 rfl (by kernel_rfl)) rfl rfl rfl ?_
  refine Seq.val (Runs.loadB rfl rfl Try.underlying2 rfl k5 rfl) rfl rfl rfl ?_
  refine Seq.val (Runs.lss rfl rfl rfl) rfl rfl rfl ?_
  refine Seq.val (Runs.neqB rfl rfl rfl Try.underlying4) rfl rfl rfl ?_
  refine Seq.nil ?_
  refine Post.weak (F' := [(0, _), (1, _), (2, _), (3, _), (4, _), (5, _), (8, _), (9, _), (10, _), (11, _), (12, _), (13, _), (31, _), (64, _)]) ⟨rfl, rfl, rfl, rfl, rfl, rfl, rfl, rfl, rfl, rfl, rfl, rfl, rfl, rfl, trivial⟩ ?_
  refine Post.then_ ?_
  refine Cd.condD rfl (fun hc => ?_) (fun hc => ?_)
  · rw [if_pos hc]
    refine Cd.region ?_
    refine Seq.val (Runs.move rfl rfl) rfl rfl rfl ?_
    refine Seq.val (Runs.neg rfl rfl (r := -(cmpZ (p * s) (r * q))) (by unfold cmpZ; split; decide; split <;> decide)) rfl rfl rfl ?_
    refine Seq.val (Runs.assign rfl rfl) rfl rfl rfl ?_
    refine Seq.nil ?_
    refine Post.weak (F' := [(0, _), (1, _), (2, _), (3, _), (4, _), (5, _), (8, _), (9, _), (10, _), (11, _), (12, _), (13, _), (31, _), (64, _)]) ⟨rfl, rfl, rfl, rfl, rfl, rfl, rfl, rfl, rfl, rfl, rfl, rfl, rfl, rfl, trivial⟩ ?_
    refine Post.then_ ?_
    refine Cd.seq ?_
    refine Cd.region ?_
    refine Seq.val (Runs.move rfl rfl) rfl rfl rfl ?_
    refine Seq.val (Runs.loadW rfl rfl Try.underlying45 rfl k4 (m := 2) (by kernel_rfl) rfl) rfl rfl rfl ?_
    refine Seq.val (Runs.move rfl rfl) rfl rfl rfl ?_
    refine Seq.call (Enters.func rfl rfl rfl (run_enter Try.func31 (by kernel_rfl) rfl)) rfl rfl rfl (a1 _) ?_
    rintro e w20 ⟨rfl, hb20⟩
    refine ⟨_, rfl, ?_⟩
    replace bel := bel.step hb20
    replace k4 := k4.step hb20
    replace k5 := k5.step hb20
    replace h11 := h11.step hb20
    replace k11 := k11.step hb20
    replace h12 := h12.step hb20
    replace k12 := k12.step hb20
    refine Seq.val (Runs.move rfl rfl) rfl rfl rfl ?_
    refine Seq.val (Runs.extract rfl rfl rfl) rfl rfl rfl ?_
    refine Seq.val (Runs.extract rfl rfl rfl) rfl rfl rfl ?_
    refine Seq.val (Runs.assign rfl rfl) rfl rfl rfl ?_
    refine Seq.val (Runs.assign rfl rfl) rfl rfl rfl ?_
    refine Seq.nil ?_
    refine Post.weak (F' := [(0, _), (1, _), (2, _), (3, _), (4, _), (5, _), (8, _), (9, _), (10, _), (11, _), (12, _), (13, _), (14, _), (15, _), (31, _), (64, _)]) ⟨rfl, rfl, rfl, rfl, rfl, rfl, rfl, rfl, rfl, rfl, rfl, rfl, rfl, rfl, rfl, rfl, trivial⟩ ?_
    refine Post.then_ ?_
    refine Cd.seq ?_
    refine Cd.region ?_
    refine Seq.val (Runs.move rfl rfl) rfl rfl rfl ?_
    refine Seq.val (Runs.fieldB 0 rfl rfl Try.underlying45 rfl (by kernel_rfl)) rfl rfl rfl ?_
    refine Seq.val (Runs.loadB rfl rfl Try.underlying2 rfl k4 rfl) rfl rfl rfl ?_
    refine Seq.val (Runs.fieldB 1 rfl rfl Try.underlying45 rfl (by kernel_rfl)) rfl rfl rfl ?_
    refine Seq.val (Runs.loadB rfl rfl Try.underlying2 rfl k4 rfl) rfl rfl rfl ?_
    refine Seq.val (Runs.move rfl rfl) rfl rfl rfl ?_
    refine Seq.call (Enters.func rfl rfl rfl (run_enter Try.func14 (by kernel_rfl) rfl)) rfl rfl rfl (a2 _) ?_
    rintro e w21 ⟨rfl, hb21⟩
    refine ⟨_, rfl, ?_⟩
    replace bel := bel.step hb21
    replace k4 := k4.step hb21
    replace k5 := k5.step hb21
    replace h11 := h11.step hb21
    replace k11 := k11.step hb21
    replace h12 := h12.step hb21
    replace k12 := k12.step hb21
    refine Seq.val (Runs.move rfl rfl) rfl rfl rfl ?_
    refine Seq.val (Runs.extract rfl rfl rfl) rfl rfl rfl ?_
    refine Seq.val (Runs.extract rfl rfl rfl) rfl rfl rfl ?_
    refine Seq.val (Runs.assign rfl rfl) rfl rfl rfl ?_
    refine Seq.val (Runs.assign rfl rfl) rfl rfl rfl ?_
    refine Seq.nil ?_
    refine Post.weak (F' := [(0, _), (1, _), (2, _), (3, _), (4, _), (5, _), (8, _), (9, _), (10, _), (11, _), (12, _), (13, _), (14, _), (15, _), (16, _), (17, _), (31, _), (64, _)]) ⟨rfl, rfl, rfl, rfl, rfl, rfl, rfl, rfl, rfl, rfl, rfl, rfl, rfl, rfl, rfl, rfl, rfl, rfl, trivial⟩ ?_
    refine Post.then_ ?_
    refine Cd.seq ?_
    refine Cd.region ?_
    refine Seq.val (Runs.move rfl rfl) rfl rfl rfl ?_
    refine Seq.val (Runs.move rfl rfl) rfl rfl rfl ?_
    refine Seq.val (Runs.eqlI rfl rfl rfl) rfl rfl rfl ?_
    refine Seq.val (Runs.move rfl rfl) rfl rfl rfl ?_
    refine SeqC.start ?_
    refine SeqC.open rfl rfl rfl rfl rfl rfl rfl (fun hcx => Runs.move rfl rfl) ?_
    refine SeqC.and rfl rfl rfl rfl rfl rfl rfl ?_
    refine Seq.val (Runs.move rfl rfl) rfl rfl rfl ?_
    refine SeqC.start ?_
    refine SeqC.open rfl rfl rfl rfl rfl rfl rfl (fun hcx => Runs.move rfl rfl) ?_
    refine SeqC.next rfl rfl rfl rfl rfl rfl rfl (fun hcx => Runs.move rfl rfl) ?_
    refine SeqC.next rfl rfl rfl rfl rfl rfl rfl (fun hcx => Runs.eqlI rfl rfl rfl) ?_
    refine SeqC.and rfl rfl rfl rfl rfl rfl rfl ?_
    refine Seq.val (Runs.move rfl rfl) rfl rfl rfl ?_
    refine SeqC.start ?_
    refine SeqC.open rfl rfl rfl rfl rfl rfl rfl (fun hcx => Runs.move rfl rfl) ?_
    refine SeqC.next rfl rfl rfl rfl rfl rfl rfl (fun hcx => Runs.move rfl rfl) ?_
    refine SeqC.next rfl rfl rfl rfl rfl rfl rfl (fun hcx => Runs.eqlB rfl rfl rfl Try.underlying4) ?_
    refine SeqC.and rfl rfl rfl rfl rfl rfl rfl ?_
    refine Seq.val (Runs.move rfl rfl) rfl rfl rfl ?_
    refine SeqC.start ?_
    refine SeqC.openC rfl rfl rfl rfl rfl rfl rfl (fun hcx => Enters.func rfl rfl rfl (run_enter Try.func15 (by kernel_rfl) rfl)) (fun hcx => awake_any _) ?_
    intro w9 hw9
    replace bel := bel.step hw9
    replace k4 := k4.step hw9
    replace k5 := k5.step hw9
    replace h11 := h11.step hw9
    replace k11 := k11.step hw9
    replace h12 := h12.step hw9
    replace k12 := k12.step hw9
    refine SeqC.and rfl rfl rfl rfl rfl rfl rfl ?_
    refine Seq.val (Runs.assign rfl rfl) rfl rfl rfl ?_
    refine Seq.nil ?_
    refine Post.weak (F' := [(0, _), (1, _), (2, _), (3, _), (4, _), (5, _), (8, _), (9, _), (10, _), (11, _), (12, _), (13, _), (14, _), (15, _), (16, _), (17, _), (31, _), (64, _)]) ⟨rfl, rfl, rfl, rfl, rfl, rfl, rfl, rfl, rfl, rfl, rfl, rfl, rfl, rfl, rfl, rfl, rfl, rfl, trivial⟩ ?_
    refine Post.then_ ?_
    refine Cd.ret ?_
    refine Post.end1 rfl rfl (.inl rfl) ?_
    exact ⟨ret1 (bool_eq (by simp)), bel⟩
  · rw [if_neg hc]
    refine Cd.skip ?_
    refine Post.then_ ?_
    refine Cd.seq ?_
    refine Cd.region ?_
    refine Seq.val (Runs.move rfl rfl) rfl rfl rfl ?_
    refine Seq.val (Runs.loadW rfl rfl Try.underlying45 rfl k4 (m := 2) (by kernel_rfl) rfl) rfl rfl rfl ?_
    refine Seq.val (Runs.move rfl rfl) rfl rfl rfl ?_
    refine Seq.call (Enters.func rfl rfl rfl (run_enter Try.func31 (by kernel_rfl) rfl)) rfl rfl rfl (a1 _) ?_
    rintro e w20 ⟨rfl, hb20⟩
    refine ⟨_, rfl, ?_⟩
    replace bel := bel.step hb20
    replace k4 := k4.step hb20
    replace k5 := k5.step hb20
    replace h11 := h11.step hb20
    replace k11 := k11.step hb20
    replace h12 := h12.step hb20
    replace k12 := k12.step hb20
    refine Seq.val (Runs.move rfl rfl) rfl rfl rfl ?_
    refine Seq.val (Runs.extract rfl rfl rfl) rfl rfl rfl ?_
    refine Seq.val (Runs.extract rfl rfl rfl) rfl rfl rfl ?_
    refine Seq.val (Runs.assign rfl rfl) rfl rfl rfl ?_
    refine Seq.val (Runs.assign rfl rfl) rfl rfl rfl ?_
    refine Seq.nil ?_
    refine Post.weak (F' := [(0, _), (1, _), (2, _), (3, _), (4, _), (5, _), (8, _), (9, _), (10, _), (11, _), (12, _), (13, _), (14, _), (15, _), (31, _), (64, _)]) ⟨rfl, rfl, rfl, rfl, rfl, rfl, rfl, rfl, rfl, rfl, rfl, rfl, rfl, rfl, rfl, rfl, trivial⟩ ?_
    refine Post.then_ ?_
    refine Cd.seq ?_
    refine Cd.region ?_
    refine Seq.val (Runs.move rfl rfl) rfl rfl rfl ?_
    refine Seq.val (Runs.fieldB 0 rfl rfl Try.underlying45 rfl (by kernel_rfl)) rfl rfl rfl ?_
    refine Seq.val (Runs.loadB rfl rfl Try.underlying2 rfl k4 rfl) rfl rfl rfl ?_
    refine Seq.val (Runs.fieldB 1 rfl rfl Try.underlying45 rfl (by kernel_rfl)) rfl rfl rfl ?_
    refine Seq.val (Runs.loadB rfl rfl Try.underlying2 rfl k4 rfl) rfl rfl rfl ?_
    refine Seq.val (Runs.move rfl rfl) rfl rfl rfl ?_
    refine Seq.call (Enters.func rfl rfl rfl (run_enter Try.func14 (by kernel_rfl) rfl)) rfl rfl rfl (a2 _) ?_
    rintro e w21 ⟨rfl, hb21⟩
    refine ⟨_, rfl, ?_⟩
    replace bel := bel.step hb21
    replace k4 := k4.step hb21
    replace k5 := k5.step hb21
    replace h11 := h11.step hb21
    replace k11 := k11.step hb21
    replace h12 := h12.step hb21
    replace k12 := k12.step hb21
    refine Seq.val (Runs.move rfl rfl) rfl rfl rfl ?_
    refine Seq.val (Runs.extract rfl rfl rfl) rfl rfl rfl ?_
    refine Seq.val (Runs.extract rfl rfl rfl) rfl rfl rfl ?_
    refine Seq.val (Runs.assign rfl rfl) rfl rfl rfl ?_
    refine Seq.val (Runs.assign rfl rfl) rfl rfl rfl ?_
    refine Seq.nil ?_
    refine Post.weak (F' := [(0, _), (1, _), (2, _), (3, _), (4, _), (5, _), (8, _), (9, _), (10, _), (11, _), (12, _), (13, _), (14, _), (15, _), (16, _), (17, _), (31, _), (64, _)]) ⟨rfl, rfl, rfl, rfl, rfl, rfl, rfl, rfl, rfl, rfl, rfl, rfl, rfl, rfl, rfl, rfl, rfl, rfl, trivial⟩ ?_
    refine Post.then_ ?_
    refine Cd.seq ?_
    refine Cd.region ?_
    refine Seq.val (Runs.move rfl rfl) rfl rfl rfl ?_
    refine Seq.val (Runs.move rfl rfl) rfl rfl rfl ?_
    refine Seq.val (Runs.eqlI rfl rfl rfl) rfl rfl rfl ?_
    refine Seq.val (Runs.move rfl rfl) rfl rfl rfl ?_
    refine SeqC.start ?_
    refine SeqC.open rfl rfl rfl rfl rfl rfl rfl (fun hcx => Runs.move rfl rfl) ?_
    refine SeqC.and rfl rfl rfl rfl rfl rfl rfl ?_
    refine Seq.val (Runs.move rfl rfl) rfl rfl rfl ?_
    refine SeqC.start ?_
    refine SeqC.open rfl rfl rfl rfl rfl rfl rfl (fun hcx => Runs.move rfl rfl) ?_
    refine SeqC.next rfl rfl rfl rfl rfl rfl rfl (fun hcx => Runs.move rfl rfl) ?_
    refine SeqC.next rfl rfl rfl rfl rfl rfl rfl (fun hcx => Runs.eqlI rfl rfl rfl) ?_
    refine SeqC.and rfl rfl rfl rfl rfl rfl rfl ?_
    refine Seq.val (Runs.move rfl rfl) rfl rfl rfl ?_
    refine SeqC.start ?_
    refine SeqC.open rfl rfl rfl rfl rfl rfl rfl (fun hcx => Runs.move rfl rfl) ?_
    refine SeqC.next rfl rfl rfl rfl rfl rfl rfl (fun hcx => Runs.move rfl rfl) ?_
    refine SeqC.next rfl rfl rfl rfl rfl rfl rfl (fun hcx => Runs.eqlB rfl rfl rfl Try.underlying4) ?_
    refine SeqC.and rfl rfl rfl rfl rfl rfl rfl ?_
    refine Seq.val (Runs.move rfl rfl) rfl rfl rfl ?_
    refine SeqC.start ?_
    refine SeqC.openC rfl rfl rfl rfl rfl rfl rfl (fun hcx => Enters.func rfl rfl rfl (run_enter Try.func15 (by kernel_rfl) rfl)) (fun hcx => awake_any _) ?_
    intro w9 hw9
    replace bel := bel.step hw9
    replace k4 := k4.step hw9
    replace k5 := k5.step hw9
    replace h11 := h11.step hw9
    replace k11 := k11.step hw9
    replace h12 := h12.step hw9
    replace k12 := k12.step hw9
    refine SeqC.and rfl rfl rfl rfl rfl rfl rfl ?_
    refine Seq.val (Runs.assign rfl rfl) rfl rfl rfl ?_
    refine Seq.nil ?_
    refine Post.weak (F' := [(0, _), (1, _), (2, _), (3, _), (4, _), (5, _), (8, _), (9, _), (10, _), (11, _), (12, _), (13, _), (14, _), (15, _), (16, _), (17, _), (31, _), (64, _)]) ⟨rfl, rfl, rfl, rfl, rfl, rfl, rfl, rfl, rfl, rfl, rfl, rfl, rfl, rfl, rfl, rfl, rfl, rfl, trivial⟩ ?_
    refine Post.then_ ?_
    refine Cd.ret ?_
    refine Post.end1 rfl rfl (.inl rfl) ?_
    exact ⟨ret1 (bool_eq (by simp)), bel⟩

set_option maxRecDepth 100000 in
theorem open_ratio {H : Type} {enc : TypeId × Value → H} {W : World} {base : Nat} {v : Value} {d : DataW H} {p : List MemPlace} (hv : Value.okWide Try.prog W .any base 45 v)
    (h : DataW.Trod enc Try.prog W 0 (fun _ => true) true 45 v d p) : ∃ a b, v = .agg #[.int .i64 a, .int .i64 b] ∧ I64 a ∧ I64 b := by
  obtain ⟨c0, c1, y0, y1, m, rfl, -, -, hy0, hy1⟩ := Joins.open_agg2 Try.underlying45 (by kernel_rfl) (by kernel_rfl) hv h
  obtain ⟨x0, e0, -, f0⟩ := DataW.trod_int Try.underlying2 hy0
  obtain ⟨x1, e1, -, f1⟩ := DataW.trod_int Try.underlying2 hy1
  simp at e0 e1
  subst e0 e1
  simp only [Lit.wf, Bool.and_eq_true, decide_eq_true_eq] at f0 f1
  exact ⟨x0, x1, rfl, ⟨f0.1, f0.2⟩, ⟨f1.1, f1.2⟩⟩

namespace NumCompares
theorem own : ownKnob Try.prog.godebug = none := by kernel_rfl
theorem laidOut : laidOutB Try.prog = true := by kernel_rfl
set_option maxRecDepth 100000 in
theorem lifted (os : Os) (started : os.Started) (H : Type) (enc : TypeId × Value → H) :
    ReturnsInHanded {} Try.checked os 9 .any (Rows.numComparesSpec.pre6 enc Try.prog Try.f9 Rows.numComparesRow.domain false) (Rows.numComparesSpec.post enc Try.prog Try.f9 false true false false) := by
  refine returnsInHanded_of_change (C := Try.checked) own started (by kernel_rfl) Try.func9
    (ChangeSpec.witness6 (enc := enc) (C := Try.checked) false ⟨#[], #[.agg #[.int .i64 0, .int .i64 0], .agg #[.int .i64 0, .int .i64 0], .int .i64 0, .int .i64 0], []⟩ 8 (by kernel_rfl) (by kernel_rfl) (by kernel_rfl) (by kernel_rfl)) ?_
  intro W base args ds gs before hval0 hW hcnd _
  have hval : ∀ (j : Nat) t v, Try.f9.params[j]? = some t → args[j]? = some v → Value.okWide Try.prog W .any base t v := hval0
  have hW' := hW
  obtain ⟨p, q, hA0, hV, rfl, hfz, hnd⟩ := hW
  have hA : DataW.TrodAll enc Try.prog W 0 (fun _ => true) true Try.f9.params.toList args.toList ds p := hA0
  rw [Try.params9] at hA hval
  obtain ⟨v0, vs0, d0, ds0, p0, q0, hargs, rfl, rfl, h0, r0⟩ := trodAll_cons hA
  obtain ⟨v1, vs1, d1, ds1, p1, q1, rfl, rfl, rfl, h1, r1⟩ := trodAll_cons r0
  obtain ⟨v2, vs2, d2, ds2, p2, q2, rfl, rfl, rfl, h2, r2⟩ := trodAll_cons r1
  obtain ⟨v3, vs3, d3, ds3, p3, q3, rfl, rfl, rfl, h3, r3⟩ := trodAll_cons r2
  obtain ⟨rfl, rfl, rfl⟩ := trodAll_nil r3
  obtain rfl : args = #[v0, v1, v2, v3] := by cases args; simp_all
  obtain ⟨rfl, rfl⟩ := trodVars_none hV
  have k0 := h0
  have lt0 : ∀ x ∈ p0, x.block < W.heap.size := by obtain ⟨m, hm⟩ := k0; exact DataW.trod_lt m _ _ _ hm
  have k1 := h1
  have lt1 : ∀ x ∈ p1, x.block < W.heap.size := by obtain ⟨m, hm⟩ := k1; exact DataW.trod_lt m _ _ _ hm
  have k2 := h2
  have lt2 : ∀ x ∈ p2, x.block < W.heap.size := by obtain ⟨m, hm⟩ := k2; exact DataW.trod_lt m _ _ _ hm
  have k3 := h3
  have lt3 : ∀ x ∈ p3, x.block < W.heap.size := by obtain ⟨m, hm⟩ := k3; exact DataW.trod_lt m _ _ _ hm
  obtain ⟨p, q, rfl, hp, hq⟩ := open_ratio (hval 0 _ v0 rfl rfl) h0
  obtain ⟨r, s, rfl, hr, hs⟩ := open_ratio (hval 1 _ v1 rfl rfl) h1
  obtain ⟨n, rfl, hn⟩ := open_i64 Try.underlying2 (hval 2 _ v2 rfl rfl)
  obtain ⟨mode, rfl, -⟩ := open_int Try.underlying3 (hval 3 _ v3 rfl rfl)
  clear hA0 hval0
  refine (walk_compares p q r s n mode W hp hq hr hs hn).mono fun e W' ⟨he, bel⟩ => ?_
  subst he
  exact ⟨_, rfl, _, _, _, [], _, [], hW', trodAll_mk1 (shut_bool Try.underlying4 _), (trodAll_cons_mk (Below.trod laidOut (by kernel_rfl) (of_decide_eq_true (by kernel_rfl)) k0 bel lt0) (trodAll_cons_mk (Below.trod laidOut (by kernel_rfl) (of_decide_eq_true (by kernel_rfl)) k1 bel lt1) (trodAll_cons_mk (Below.trod laidOut (by kernel_rfl) (of_decide_eq_true (by kernel_rfl)) k2 bel lt2) (trodAll_cons_mk (Below.trod laidOut (by kernel_rfl) (of_decide_eq_true (by kernel_rfl)) k3 bel lt3) trodAll_mk0)))), rfl, bel.frame _, fun h => by cases h⟩

theorem over : Rows.numComparesRow.holds Try.pinned (OpenSpec.ofChange Rows.numComparesSpec) :=
  OpenClaim.holds_of_wide 9 Try.f9 rfl rfl rfl rfl rfl rfl rfl ⟨rfl, rfl, rfl, rfl, rfl⟩ rfl rfl rfl rfl rfl (by kernel_rfl) Try.func9 (by kernel_rfl)
    (of_decide_eq_true (by kernel_rfl)) (by unfold Func.isWrapper; first | (rw [if_pos (by decide +kernel)]; kernel_rfl) | (rw [if_neg (by decide +kernel)]; exact ⟨rfl, rfl⟩))
    (fun os started H enc _ => lifted os started H enc)

theorem proved : Rows.NumComparesSaid := over

end NumCompares
end Go.Proofs.Ytpdeihienkbeeaa

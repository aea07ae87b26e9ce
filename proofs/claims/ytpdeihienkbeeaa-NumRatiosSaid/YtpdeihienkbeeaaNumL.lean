/-
  num's RatMul: what it answers. Condition: the numbers are of 64 bits.
-/
import Derived.Test.YtpdeihienkbeeaaNumK
namespace Go.Proofs.Ytpdeihienkbeeaa
open Go.RowKit

theorem div_lt_two {a g : Nat} (h : a < 18446744073709551616) : a / g < 18446744073709551616 := Nat.lt_of_le_of_lt (Nat.div_le_self _ _) h
theorem formV_open (neg : Bool) (n d : Nat) : ∃ x y z, formV neg n d = .tuple #[.agg #[.int .i64 x, .int .i64 y], .bool z] := ⟨_, _, _, rfl⟩
theorem ratMul_core (p q r s : Int) (n d m e : Nat) (w : World) (hq0 : q ≠ 0) (hs0 : s ≠ 0) (hn : n < 18446744073709551616) (hd : d < 18446744073709551616) (hm : m < 18446744073709551616) (he : e < 18446744073709551616)
    (c1 : ∀ w, Calls Try.prog 56 #[.agg #[.int .i64 p, .int .i64 q]] w fun e' w' => e' = .returned (.tuple #[.bool (decide (p < 0) != decide (q < 0)), .int .u64 (n : Int), .int .u64 (d : Int)]) ∧ Below w.heap.size w w')
    (c2 : ∀ w, Calls Try.prog 56 #[.agg #[.int .i64 r, .int .i64 s]] w fun e' w' => e' = .returned (.tuple #[.bool (decide (r < 0) != decide (s < 0)), .int .u64 (m : Int), .int .u64 (e : Int)]) ∧ Below w.heap.size w w')
    (h1 : Red p q n d) (h2 : Red r s m e) :
    Calls Try.prog 34 #[.agg #[.int .i64 p, .int .i64 q], .agg #[.int .i64 r, .int .i64 s]] w fun e' w' => e' = .returned (ratV (p * r) (q * s)) ∧ Grow w w' := by
  obtain ⟨hlaw, hco, hpos⟩ := mul_law p q r s n d m e h1 h2
  have g1 : 0 < Nat.gcd n e := Nat.gcd_pos_of_pos_right _ h2.pos
  have g2 : 0 < Nat.gcd m d := Nat.gcd_pos_of_pos_right _ h1.pos
  have v1 := fun w => divisor_nat n e w hn he
  have v2 := fun w => divisor_nat m d w hm hd
  have bn : n / Nat.gcd n e < 18446744073709551616 := div_lt_two hn
  have be : e / Nat.gcd n e < 18446744073709551616 := div_lt_two he
  have bm : m / Nat.gcd m d < 18446744073709551616 := div_lt_two hm
  have bd : d / Nat.gcd m d < 18446744073709551616 := div_lt_two hd
  have u1 := fun w => mul64_nat _ _ w bn bm
  have u2 := fun w => mul64_nat _ _ w bd be
  rw [hlaw]
  clear hlaw
  have bel := Below.refl w.heap.size w
  generalize hsg : (decide (p < 0) != decide (q < 0)) = sg at *
  generalize htg : (decide (r < 0) != decide (s < 0)) = tg at *
  generalize Nat.gcd n e = g at *
  generalize Nat.gcd m d = h at *
  refine Calls.start 92 Try.func34 rfl rfl rfl ?_
  refine Cd.seq ?_
  refine Cd.region ?_
  refine Seq.box rfl rfl rfl rfl rfl ?_
  intro g2 w1 n2
  have e2 := Nat.le_trans bel.size n2.ge
  replace bel := bel.step n2.below
  have k2 := n2.blk
  refine Seq.box rfl rfl rfl rfl rfl ?_
  intro g3 w2 n3
  have e3 := Nat.le_trans bel.size n3.ge
  have l3 := Nat.lt_of_lt_of_le k2.lt n3.ge
  replace bel := bel.step n3.below
  replace k2 := k2.step n3.below
  have k3 := n3.blk
  refine Seq.alloc rfl (run_zero zero_api_Ratio) rfl rfl rfl ?_
  intro g4 w3 n4
  have e4 := Nat.le_trans bel.size n4.ge
  have l4 := Nat.lt_of_lt_of_le k3.lt n4.ge
  replace bel := bel.step n4.below
  replace k2 := k2.step n4.below
  replace k3 := k3.step n4.below
  have k4 := n4.blk
  refine Seq.val (Runs.assign rfl rfl) rfl rfl rfl ?_
  refine Seq.nil ?_
  refine Post.weak (F' := [(0, _), (1, _), (2, _), (3, _), (4, _), (5, _)]) ⟨rfl, rfl, rfl, rfl, rfl, rfl, trivial⟩ ?_
  refine Post.then_ ?_
  refine Cd.seq ?_
  refine Cd.seq ?_
  refine Cd.region ?_
  refine Seq.val (Runs.fieldB 1 rfl rfl Try.underlying45 rfl (by kernel_rfl)) rfl rfl rfl ?_
  refine Seq.val (Runs.loadB rfl rfl Try.underlying2 rfl k2 rfl) rfl rfl rfl ?_
  refine Seq.val (Runs.eqlI rfl rfl rfl) rfl rfl rfl ?_
  refine Seq.val (Runs.move rfl rfl) rfl rfl rfl ?_
  refine SeqC.start ?_
  refine SeqC.open rfl rfl rfl rfl rfl rfl rfl (fun hcx => Runs.fieldB 1 rfl rfl Try.underlying45 rfl (by kernel_rfl)) ?_
  refine SeqC.next rfl rfl rfl rfl rfl rfl rfl (fun hcx => Runs.loadB rfl rfl Try.underlying2 rfl k3 rfl) ?_
  refine SeqC.next rfl rfl rfl rfl rfl rfl rfl (fun hcx => Runs.eqlI rfl rfl rfl) ?_
  refine SeqC.or rfl rfl rfl rfl rfl rfl rfl ?_
  refine Seq.nil ?_
  refine Post.weak (F' := [(0, _), (1, _), (2, _), (3, _), (4, _), (5, _), (25, _)]) ⟨rfl, rfl, rfl, rfl, rfl, rfl, rfl, trivial⟩ ?_
  refine Post.then_ ?_
  refine Cd.condF rfl (by simp; omega) ?_
  refine Cd.skip ?_
  refine Post.then_ ?_
  refine Cd.seq ?_
  refine Cd.region ?_
  refine Seq.val (Runs.loadW rfl rfl Try.underlying45 rfl k2 (m := 2) (by kernel_rfl) rfl) rfl rfl rfl ?_
  refine Seq.call (Enters.func rfl rfl rfl (run_enter Try.func56 (by kernel_rfl) rfl)) rfl rfl rfl (c1 _) ?_
  rintro e' w2 ⟨rfl, hb2⟩
  refine ⟨_, rfl, ?_⟩
  replace bel := bel.step hb2
  replace k2 := k2.step hb2
  replace k3 := k3.step hb2
  replace k4 := k4.step hb2
  refine Seq.val (Runs.move rfl rfl) rfl rfl rfl ?_
  refine Seq.val (Runs.extract rfl rfl rfl) rfl rfl rfl ?_
  refine Seq.val (Runs.extract rfl rfl rfl) rfl rfl rfl ?_
  refine Seq.val (Runs.extract rfl rfl rfl) rfl rfl rfl ?_
  refine Seq.val (Runs.assign rfl rfl) rfl rfl rfl ?_
  refine Seq.val (Runs.assign rfl rfl) rfl rfl rfl ?_
  refine Seq.val (Runs.assign rfl rfl) rfl rfl rfl ?_
  refine Seq.nil ?_
  refine Post.weak (F' := [(0, _), (1, _), (2, _), (3, _), (4, _), (5, _), (6, _), (7, _), (8, _), (25, _)]) ⟨rfl, rfl, rfl, rfl, rfl, rfl, rfl, rfl, rfl, rfl, trivial⟩ ?_
  refine Post.then_ ?_
  refine Cd.seq ?_
  refine Cd.region ?_
  refine Seq.val (Runs.loadW rfl rfl Try.underlying45 rfl k3 (m := 2) (by kernel_rfl) rfl) rfl rfl rfl ?_
  refine Seq.call (Enters.func rfl rfl rfl (run_enter Try.func56 (by kernel_rfl) rfl)) rfl rfl rfl (c2 _) ?_
  rintro e' w3 ⟨rfl, hb3⟩
  refine ⟨_, rfl, ?_⟩
  replace bel := bel.step hb3
  replace k2 := k2.step hb3
  replace k3 := k3.step hb3
  replace k4 := k4.step hb3
  refine Seq.val (Runs.move rfl rfl) rfl rfl rfl ?_
  refine Seq.val (Runs.extract rfl rfl rfl) rfl rfl rfl ?_
  refine Seq.val (Runs.extract rfl rfl rfl) rfl rfl rfl ?_
  refine Seq.val (Runs.extract rfl rfl rfl) rfl rfl rfl ?_
  refine Seq.val (Runs.assign rfl rfl) rfl rfl rfl ?_
  refine Seq.val (Runs.assign rfl rfl) rfl rfl rfl ?_
  refine Seq.val (Runs.assign rfl rfl) rfl rfl rfl ?_
  refine Seq.nil ?_
  refine Post.weak (F' := [(0, _), (1, _), (2, _), (3, _), (4, _), (5, _), (6, _), (7, _), (8, _), (9, _), (10, _), (11, _), (25, _)]) ⟨rfl, rfl, rfl, rfl, rfl, rfl, rfl, rfl, rfl, rfl, rfl, rfl, rfl, trivial⟩ ?_
  refine Post.then_ ?_
  refine Cd.seq ?_
  refine Cd.region ?_
  refine Seq.val (Runs.move rfl rfl) rfl rfl rfl ?_
  refine Seq.val (Runs.move rfl rfl) rfl rfl rfl ?_
  refine Seq.call (Enters.func rfl rfl rfl (run_enter Try.func60 (by kernel_rfl) rfl)) rfl rfl rfl (v1 _) ?_
  rintro e' w4 ⟨rfl, hb4⟩
  refine ⟨_, rfl, ?_⟩
  replace bel := bel.step hb4
  replace k2 := k2.step hb4
  replace k3 := k3.step hb4
  replace k4 := k4.step hb4
  refine Seq.val (Runs.move rfl rfl) rfl rfl rfl ?_
  refine Seq.val (Runs.move rfl rfl) rfl rfl rfl ?_
  refine Seq.call (Enters.func rfl rfl rfl (run_enter Try.func60 (by kernel_rfl) rfl)) rfl rfl rfl (v2 _) ?_
  rintro e' w5 ⟨rfl, hb5⟩
  refine ⟨_, rfl, ?_⟩
  replace bel := bel.step hb5
  replace k2 := k2.step hb5
  replace k3 := k3.step hb5
  replace k4 := k4.step hb5
  refine Seq.val (Runs.assign rfl rfl) rfl rfl rfl ?_
  refine Seq.val (Runs.assign rfl rfl) rfl rfl rfl ?_
  refine Seq.nil ?_
  refine Post.weak (F' := [(0, _), (1, _), (2, _), (3, _), (4, _), (5, _), (6, _), (7, _), (8, _), (9, _), (10, _), (11, _), (12, _), (13, _), (25, _)]) ⟨rfl, rfl, rfl, rfl, rfl, rfl, rfl, rfl, rfl, rfl, rfl, rfl, rfl, rfl, rfl, trivial⟩ ?_
  refine Post.then_ ?_
  refine Cd.seq ?_
  refine Cd.seq ?_
  refine Cd.region ?_
  refine Seq.val (Runs.move rfl rfl) rfl rfl rfl ?_
  refine Seq.val (Runs.gtr rfl rfl rfl) rfl rfl rfl ?_
  refine Seq.nil ?_
  refine Post.weak (F' := [(0, _), (1, _), (2, _), (3, _), (4, _), (5, _), (6, _), (7, _), (8, _), (9, _), (10, _), (11, _), (12, _), (13, _), (25, _), (46, _)]) ⟨rfl, rfl, rfl, rfl, rfl, rfl, rfl, rfl, rfl, rfl, rfl, rfl, rfl, rfl, rfl, rfl, trivial⟩ ?_
  refine Post.then_ ?_
  refine Cd.condT rfl (decide_eq_true (by omega)) ?_
  refine Cd.draw 6 (by kernel_rfl) [3, 4, 5] (.inr (fun _ _ d _ _ h => by cases d <;> exact h)) rfl Grow Grow.refl (fun _ _ _ => Grow.trans) ?_
  intro w4 hw4 zw4
  replace bel := bel.step hw4
  replace k2 := k2.step hw4
  replace k3 := k3.step hw4
  replace k4 := k4.step hw4
  have zbel := bel.size
  have zlt := k4.lt
  refine Dr.val Grow.refl rfl (fun w hG => Runs.move rfl rfl) rfl ?_
  refine Dr.val Grow.refl rfl (fun w hG => Runs.move rfl rfl) rfl ?_
  refine Dr.val Grow.refl rfl (fun w hG => Runs.quoNU rfl rfl rfl (by omega) (by omega)) rfl ?_
  refine Dr.late rfl rfl (fun w => Runs.move rfl rfl) Grow.refl rfl ?_
  refine Dr.late rfl rfl (fun w => Runs.move rfl rfl) Grow.refl rfl ?_
  refine Dr.late rfl rfl (fun w => Runs.quoNU rfl rfl rfl (by omega) (by omega)) Grow.refl rfl ?_
  refine Dr.nil ?_
  refine FinX.done (F' := [(0, _), (1, _), (2, _), (3, _), (4, _), (5, _), (6, _), (7, _), (8, _), (9, _), (10, _), (11, _), (12, _), (13, _), (25, _), (46, _), (49, _), (52, _)]) rfl ⟨rfl, rfl, rfl, rfl, rfl, rfl, rfl, rfl, rfl, rfl, rfl, rfl, rfl, rfl, rfl, rfl, rfl, rfl, trivial⟩ ?_
  intro w5 hw5 fw5
  replace bel := bel.step hw5
  replace k2 := k2.step hw5
  replace k3 := k3.step hw5
  replace k4 := k4.step hw5
  refine Seq.val (Runs.assign rfl rfl) rfl rfl rfl ?_
  refine Seq.val (Runs.assign rfl rfl) rfl rfl rfl ?_
  refine Seq.nil ?_
  refine Post.weak (F' := [(0, _), (1, _), (2, _), (3, _), (4, _), (5, _), (6, _), (7, _), (8, _), (9, _), (10, _), (11, _), (12, _), (13, _), (25, _), (46, _)]) ⟨rfl, rfl, rfl, rfl, rfl, rfl, rfl, rfl, rfl, rfl, rfl, rfl, rfl, rfl, rfl, rfl, trivial⟩ ?_
  refine Post.then_ ?_
  refine Cd.seq ?_
  refine Cd.seq ?_
  refine Cd.region ?_
  refine Seq.val (Runs.move rfl rfl) rfl rfl rfl ?_
  refine Seq.val (Runs.gtr rfl rfl rfl) rfl rfl rfl ?_
  refine Seq.nil ?_
  refine Post.weak (F' := [(0, _), (1, _), (2, _), (3, _), (4, _), (5, _), (6, _), (7, _), (8, _), (9, _), (10, _), (11, _), (12, _), (13, _), (25, _), (46, _), (54, _)]) ⟨rfl, rfl, rfl, rfl, rfl, rfl, rfl, rfl, rfl, rfl, rfl, rfl, rfl, rfl, rfl, rfl, rfl, trivial⟩ ?_
  refine Post.then_ ?_
  refine Cd.condT rfl (decide_eq_true (by omega)) ?_
  refine Cd.draw 6 (by kernel_rfl) [3, 4, 5] (.inr (fun _ _ d _ _ h => by cases d <;> exact h)) rfl Grow Grow.refl (fun _ _ _ => Grow.trans) ?_
  intro w6 hw6 zw6
  replace bel := bel.step hw6
  replace k2 := k2.step hw6
  replace k3 := k3.step hw6
  replace k4 := k4.step hw6
  have zbel := bel.size
  have zlt := k4.lt
  refine Dr.val Grow.refl rfl (fun w hG => Runs.move rfl rfl) rfl ?_
  refine Dr.val Grow.refl rfl (fun w hG => Runs.move rfl rfl) rfl ?_
  refine Dr.val Grow.refl rfl (fun w hG => Runs.quoNU rfl rfl rfl (by omega) (by omega)) rfl ?_
  refine Dr.late rfl rfl (fun w => Runs.move rfl rfl) Grow.refl rfl ?_
  refine Dr.late rfl rfl (fun w => Runs.move rfl rfl) Grow.refl rfl ?_
  refine Dr.late rfl rfl (fun w => Runs.quoNU rfl rfl rfl (by omega) (by omega)) Grow.refl rfl ?_
  refine Dr.nil ?_
  refine FinX.done (F' := [(0, _), (1, _), (2, _), (3, _), (4, _), (5, _), (6, _), (7, _), (8, _), (9, _), (10, _), (11, _), (12, _), (13, _), (25, _), (46, _), (54, _), (57, _), (60, _)]) rfl ⟨rfl, rfl, rfl, rfl, rfl, rfl, rfl, rfl, rfl, rfl, rfl, rfl, rfl, rfl, rfl, rfl, rfl, rfl, rfl, trivial⟩ ?_
  intro w7 hw7 fw7
  replace bel := bel.step hw7
  replace k2 := k2.step hw7
  replace k3 := k3.step hw7
  replace k4 := k4.step hw7
  generalize n / g = n' at *
  generalize e / g = e2 at *
  generalize m / h = m' at *
  generalize d / h = d' at *
  refine Seq.val (Runs.assign rfl rfl) rfl rfl rfl ?_
  refine Seq.val (Runs.assign rfl rfl) rfl rfl rfl ?_
  refine Seq.nil ?_
  refine Post.weak (F' := [(0, _), (1, _), (2, _), (3, _), (4, _), (5, _), (6, _), (7, _), (8, _), (9, _), (10, _), (11, _), (12, _), (13, _), (25, _), (46, _), (54, _)]) ⟨rfl, rfl, rfl, rfl, rfl, rfl, rfl, rfl, rfl, rfl, rfl, rfl, rfl, rfl, rfl, rfl, rfl, trivial⟩ ?_
  refine Post.then_ ?_
  refine Cd.seq ?_
  refine Cd.region ?_
  refine Seq.val (Runs.move rfl rfl) rfl rfl rfl ?_
  refine Seq.val (Runs.move rfl rfl) rfl rfl rfl ?_
  refine Seq.call (Enters.func rfl rfl rfl (run_enter Try.func57 (by kernel_rfl) rfl)) rfl rfl rfl (u1 _) ?_
  rintro e' w8 ⟨rfl, rfl⟩
  refine ⟨_, rfl, ?_⟩
  refine Seq.val (Runs.move rfl rfl) rfl rfl rfl ?_
  refine Seq.val (Runs.extract rfl rfl rfl) rfl rfl rfl ?_
  refine Seq.val (Runs.extract rfl rfl rfl) rfl rfl rfl ?_
  refine Seq.val (Runs.assign rfl rfl) rfl rfl rfl ?_
  refine Seq.val (Runs.assign rfl rfl) rfl rfl rfl ?_
  refine Seq.nil ?_
  refine Post.weak (F' := [(0, _), (1, _), (2, _), (3, _), (4, _), (5, _), (6, _), (7, _), (8, _), (9, _), (10, _), (11, _), (12, _), (13, _), (14, _), (15, _), (25, _), (46, _), (54, _)]) ⟨rfl, rfl, rfl, rfl, rfl, rfl, rfl, rfl, rfl, rfl, rfl, rfl, rfl, rfl, rfl, rfl, rfl, rfl, rfl, trivial⟩ ?_
  refine Post.then_ ?_
  refine Cd.seq ?_
  refine Cd.region ?_
  refine Seq.val (Runs.move rfl rfl) rfl rfl rfl ?_
  refine Seq.val (Runs.move rfl rfl) rfl rfl rfl ?_
  refine Seq.call (Enters.func rfl rfl rfl (run_enter Try.func57 (by kernel_rfl) rfl)) rfl rfl rfl (u2 _) ?_
  rintro e' w9 ⟨rfl, rfl⟩
  refine ⟨_, rfl, ?_⟩
  generalize n' * m' = N at *
  generalize d' * e2 = D at *
  refine Seq.val (Runs.move rfl rfl) rfl rfl rfl ?_
  refine Seq.val (Runs.extract rfl rfl rfl) rfl rfl rfl ?_
  refine Seq.val (Runs.extract rfl rfl rfl) rfl rfl rfl ?_
  refine Seq.val (Runs.assign rfl rfl) rfl rfl rfl ?_
  refine Seq.val (Runs.assign rfl rfl) rfl rfl rfl ?_
  refine Seq.nil ?_
  refine Post.weak (F' := [(0, _), (1, _), (2, _), (3, _), (4, _), (5, _), (6, _), (7, _), (8, _), (9, _), (10, _), (11, _), (12, _), (13, _), (14, _), (15, _), (16, _), (17, _), (25, _), (46, _), (54, _)]) ⟨rfl, rfl, rfl, rfl, rfl, rfl, rfl, rfl, rfl, rfl, rfl, rfl, rfl, rfl, rfl, rfl, rfl, rfl, rfl, rfl, rfl, trivial⟩ ?_
  refine Post.then_ ?_
  refine Cd.seq ?_
  refine Cd.seq ?_
  refine Cd.region ?_
  refine Seq.val (Runs.move rfl rfl) rfl rfl rfl ?_
  refine Seq.val (Runs.neqI rfl rfl rfl) rfl rfl rfl ?_
  refine Seq.val (Runs.move rfl rfl) rfl rfl rfl ?_
  refine SeqC.start ?_
  refine SeqC.open rfl rfl rfl rfl rfl rfl rfl (fun hcx => Runs.move rfl rfl) ?_
  refine SeqC.next rfl rfl rfl rfl rfl rfl rfl (fun hcx => Runs.neqI rfl rfl rfl) ?_
  refine SeqC.or rfl rfl rfl rfl rfl rfl rfl ?_
  refine Seq.nil ?_
  refine Post.weak (F' := [(0, _), (1, _), (2, _), (3, _), (4, _), (5, _), (6, _), (7, _), (8, _), (9, _), (10, _), (11, _), (12, _), (13, _), (14, _), (15, _), (16, _), (17, _), (25, _), (46, _), (54, _), (78, _)]) ⟨rfl, rfl, rfl, rfl, rfl, rfl, rfl, rfl, rfl, rfl, rfl, rfl, rfl, rfl, rfl, rfl, rfl, rfl, rfl, rfl, rfl, rfl, trivial⟩ ?_
  refine Post.then_ ?_
  refine Cd.cond rfl (fun hc => ?_) (fun hc => ?_)
  · have hb : 18446744073709551616 ≤ N ∨ 18446744073709551616 ≤ D := by simp at hc; omega
    rw [formV_no _ N D hco hb]
    refine Cd.seq ?_
    refine Cd.region ?_
    refine Seq.val (Runs.build rfl rfl (run_build_Ratio0 _)) rfl rfl rfl ?_
    refine Seq.storeN rfl rfl rfl rfl (m := 2) (by kernel_rfl) rfl (by repeat' first | exact trivial | apply And.intro | rfl | assumption) k4 (by simp [Value.cells]) rfl rfl ?_
    intro w8 pw8
    replace bel := bel.put k4 pw8 e4
    replace k2 := k2.put pw8 (by omega)
    replace k3 := k3.put pw8 (by omega)
    replace k4 := pw8.blk
    refine Seq.val (Runs.assign rfl rfl) rfl rfl rfl ?_
    refine Seq.nil ?_
    refine Post.weak (F' := [(0, _), (1, _), (2, _), (3, _), (4, _), (5, _), (6, _), (7, _), (8, _), (9, _), (10, _), (11, _), (12, _), (13, _), (14, _), (15, _), (16, _), (17, _), (25, _), (46, _), (54, _), (78, _)]) ⟨rfl, rfl, rfl, rfl, rfl, rfl, rfl, rfl, rfl, rfl, rfl, rfl, rfl, rfl, rfl, rfl, rfl, rfl, rfl, rfl, rfl, rfl, trivial⟩ ?_
    refine Post.then_ ?_
    refine Cd.ret ?_
    refine Post.then_ret ?_
    refine Post.endC2 rfl rfl rfl k4 Try.underlying45 rfl (m := 2) (by kernel_rfl) rfl (.inl rfl) ?_
    exact ⟨rfl, bel⟩
  · have hN : N < 18446744073709551616 ∧ D < 18446744073709551616 := by simp at hc; omega
    have hxe : (sg != tg && decide (0 < N)) = (decide (sg ≠ tg) && decide ((0 : Int) < (N : Int))) := by
      rw [show decide ((0 : Int) < (N : Int)) = decide (0 < N) from decide_eq_decide.2 (by omega)]
      cases sg <;> cases tg <;> rfl
    have hf := fun w => form_any (decide (sg ≠ tg) && decide ((0 : Int) < (N : Int))) N D w hN.1 hN.2 hpos
    obtain ⟨x, y, z, hV⟩ := formV_open (decide (sg ≠ tg) && decide ((0 : Int) < (N : Int))) N D
    rw [hV] at hf
    rw [Nat.mod_eq_of_lt hN.1, Nat.mod_eq_of_lt hN.2, hxe, hV]
    refine Cd.skip ?_
    refine Post.then_ ?_
    refine Cd.seq ?_
    refine Cd.region ?_
    refine Seq.val (Runs.move rfl rfl) rfl rfl rfl ?_
    refine Seq.val (Runs.move rfl rfl) rfl rfl rfl ?_
    refine Seq.val (Runs.neqB rfl rfl rfl Try.underlying4) rfl rfl rfl ?_
    refine Seq.val (Runs.move rfl rfl) rfl rfl rfl ?_
    refine SeqC.start ?_
    refine SeqC.open rfl rfl rfl rfl rfl rfl rfl (fun hcx => Runs.move rfl rfl) ?_
    refine SeqC.next rfl rfl rfl rfl rfl rfl rfl (fun hcx => Runs.gtr rfl rfl rfl) ?_
    refine SeqC.and rfl rfl rfl rfl rfl rfl rfl ?_
    refine Seq.val (Runs.move rfl rfl) rfl rfl rfl ?_
    refine Seq.val (Runs.move rfl rfl) rfl rfl rfl ?_
    refine Seq.call (Enters.func rfl rfl rfl (run_enter Try.func58 (by kernel_rfl) rfl)) rfl rfl rfl (hf _) ?_
    rintro e' w10 ⟨rfl, hb10⟩
    refine ⟨_, rfl, ?_⟩
    replace bel := bel.step hb10
    replace k2 := k2.step hb10
    replace k3 := k3.step hb10
    replace k4 := k4.step hb10
    refine Seq.val (Runs.extract rfl rfl rfl) rfl rfl rfl ?_
    refine Seq.val (Runs.extract rfl rfl rfl) rfl rfl rfl ?_
    refine Seq.storeN rfl rfl rfl rfl (m := 2) (by kernel_rfl) rfl (by repeat' first | exact trivial | apply And.intro | rfl | assumption) k4 (by simp [Value.cells]) rfl rfl ?_
    intro w8 pw8
    replace bel := bel.put k4 pw8 e4
    replace k2 := k2.put pw8 (by omega)
    replace k3 := k3.put pw8 (by omega)
    replace k4 := pw8.blk
    refine Seq.val (Runs.assign rfl rfl) rfl rfl rfl ?_
    refine Seq.nil ?_
    refine Post.weak (F' := [(0, _), (1, _), (2, _), (3, _), (4, _), (5, _), (6, _), (7, _), (8, _), (9, _), (10, _), (11, _), (12, _), (13, _), (14, _), (15, _), (16, _), (17, _), (25, _), (46, _), (54, _), (78, _)]) ⟨rfl, rfl, rfl, rfl, rfl, rfl, rfl, rfl, rfl, rfl, rfl, rfl, rfl, rfl, rfl, rfl, rfl, rfl, rfl, rfl, rfl, rfl, trivial⟩ ?_
    refine Post.then_ ?_
    refine Cd.ret ?_
    refine Post.endC2 rfl rfl rfl k4 Try.underlying45 rfl (m := 2) (by kernel_rfl) rfl (.inl rfl) ?_
    exact ⟨rfl, bel⟩
theorem ratMul_any (p q r s : Int) (w : World) (hp : I64 p) (hq : I64 q) (hr : I64 r) (hs : I64 s) :
    Calls Try.prog 34 #[.agg #[.int .i64 p, .int .i64 q], .agg #[.int .i64 r, .int .i64 s]] w fun e' w' => e' = .returned (ratV (p * r) (q * s)) ∧ Grow w w' := by
  by_cases h0 : q = 0 ∨ s = 0
  · have hqs : q * s = 0 := by rcases h0 with h | h <;> simp [h]
    unfold ratV
    rw [if_pos hqs]
    have bel := Below.refl w.heap.size w
    refine Calls.start 92 Try.func34 rfl rfl rfl ?_
    refine Cd.seq ?_
    refine Cd.region ?_
    refine Seq.box rfl rfl rfl rfl rfl ?_
    intro g2 w1 n2
    have e2 := Nat.le_trans bel.size n2.ge
    replace bel := bel.step n2.below
    have k2 := n2.blk
    refine Seq.box rfl rfl rfl rfl rfl ?_
    intro g3 w2 n3
    have e3 := Nat.le_trans bel.size n3.ge
    have l3 := Nat.lt_of_lt_of_le k2.lt n3.ge
    replace bel := bel.step n3.below
    replace k2 := k2.step n3.below
    have k3 := n3.blk
    refine Seq.alloc rfl (run_zero zero_api_Ratio) rfl rfl rfl ?_
    intro g4 w3 n4
    have e4 := Nat.le_trans bel.size n4.ge
    have l4 := Nat.lt_of_lt_of_le k3.lt n4.ge
    replace bel := bel.step n4.below
    replace k2 := k2.step n4.below
    replace k3 := k3.step n4.below
    have k4 := n4.blk
    refine Seq.val (Runs.assign rfl rfl) rfl rfl rfl ?_
    refine Seq.nil ?_
    refine Post.weak (F' := [(0, _), (1, _), (2, _), (3, _), (4, _), (5, _)]) ⟨rfl, rfl, rfl, rfl, rfl, rfl, trivial⟩ ?_
    refine Post.then_ ?_
    refine Cd.seq ?_
    refine Cd.seq ?_
    refine Cd.region ?_
    refine Seq.val (Runs.fieldB 1 rfl rfl Try.underlying45 rfl (by kernel_rfl)) rfl rfl rfl ?_
    refine Seq.val (Runs.loadB rfl rfl Try.underlying2 rfl k2 rfl) rfl rfl rfl ?_
    refine Seq.val (Runs.eqlI rfl rfl rfl) rfl rfl rfl ?_
    refine Seq.val (Runs.move rfl rfl) rfl rfl rfl ?_
    refine SeqC.start ?_
    refine SeqC.open rfl rfl rfl rfl rfl rfl rfl (fun hcx => Runs.fieldB 1 rfl rfl Try.underlying45 rfl (by kernel_rfl)) ?_
    refine SeqC.next rfl rfl rfl rfl rfl rfl rfl (fun hcx => Runs.loadB rfl rfl Try.underlying2 rfl k3 rfl) ?_
    refine SeqC.next rfl rfl rfl rfl rfl rfl rfl (fun hcx => Runs.eqlI rfl rfl rfl) ?_
    refine SeqC.or rfl rfl rfl rfl rfl rfl rfl ?_
    refine Seq.nil ?_
    refine Post.weak (F' := [(0, _), (1, _), (2, _), (3, _), (4, _), (5, _), (25, _)]) ⟨rfl, rfl, rfl, rfl, rfl, rfl, rfl, trivial⟩ ?_
    refine Post.then_ ?_
    refine Cd.condT rfl (by simp; omega) ?_
    refine Cd.seq ?_
    refine Cd.region ?_
    refine Seq.val (Runs.build rfl rfl (run_build_Ratio0 _)) rfl rfl rfl ?_
    refine Seq.storeN rfl rfl rfl rfl (m := 2) (by kernel_rfl) rfl (by repeat' first | exact trivial | apply And.intro | rfl | assumption) k4 (by simp [Value.cells]) rfl rfl ?_
    intro w4 pw4
    replace bel := bel.put k4 pw4 e4
    replace k2 := k2.put pw4 (by omega)
    replace k3 := k3.put pw4 (by omega)
    replace k4 := pw4.blk
    refine Seq.val (Runs.assign rfl rfl) rfl rfl rfl ?_
    refine Seq.nil ?_
    refine Post.weak (F' := [(0, _), (1, _), (2, _), (3, _), (4, _), (5, _), (25, _)]) ⟨rfl, rfl, rfl, rfl, rfl, rfl, rfl, trivial⟩ ?_
    refine Post.then_ ?_
    refine Cd.ret ?_
    refine Post.then_ret ?_
    refine Post.endC2 rfl rfl rfl k4 Try.underlying45 rfl (m := 2) (by kernel_rfl) rfl (.inl rfl) ?_
    exact ⟨rfl, bel⟩
  have hq0 : q ≠ 0 := fun h => h0 (.inl h)
  have hs0 : s ≠ 0 := fun h => h0 (.inr h)
  obtain ⟨p0, p1⟩ := hp
  obtain ⟨q0, q1⟩ := hq
  obtain ⟨r0, r1⟩ := hr
  obtain ⟨s0, s1⟩ := hs
  have a1 := Nat.div_le_self p.natAbs (Nat.gcd p.natAbs q.natAbs)
  have a2 := Nat.div_le_self q.natAbs (Nat.gcd p.natAbs q.natAbs)
  have a3 := Nat.div_le_self r.natAbs (Nat.gcd r.natAbs s.natAbs)
  have a4 := Nat.div_le_self s.natAbs (Nat.gcd r.natAbs s.natAbs)
  exact ratMul_core p q r s _ _ _ _ w hq0 hs0 (by omega) (by omega) (by omega) (by omega) (fun w => signed_any p q w p0 p1 q0 q1 hq0) (fun w => signed_any r s w r0 r1 s0 s1 hs0) (red_of p q hq0) (red_of r s hs0)
end Go.Proofs.Ytpdeihienkbeeaa

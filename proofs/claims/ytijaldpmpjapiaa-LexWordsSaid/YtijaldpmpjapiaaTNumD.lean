/-
  num's size, product, narrow, away: what each answers. Condition: the numbers are of 64 bits.
-/
import Derived.Test.YtijaldpmpjapiaaTMul
import Derived.Test.YtijaldpmpjapiaaKF
import Derived.Test.YtijaldpmpjapiaaFits
namespace Go.Proofs.Ytijaldpmpjapiaa
open Go.RowKit

theorem zero_num_wide : zeroIs Try.prog 196 = some (some (.agg #[.int .u64 0, .int .u64 0, .bool false])) := by kernel_rfl
theorem size_nat (a : Int) (w : World) (h : I64 a) : Calls Try.prog 129 #[.int .i64 a] w fun e w' => e = .returned (.int .u64 (a.natAbs : Int)) ∧ w = w' := by
  obtain ⟨h0, h1⟩ := h
  refine Calls.start 10 Try.func129 rfl rfl rfl ?_
  refine Cd.seq ?_
  refine Cd.region ?_
  refine Seq.val (Runs.assign rfl rfl) rfl rfl rfl ?_
  refine Seq.nil ?_
  refine Post.weak (F' := [(0, _), (2, _)]) ⟨rfl, rfl, trivial⟩ ?_
  refine Post.then_ ?_
  refine Cd.seq ?_
  refine Cd.seq ?_
  refine Cd.region ?_
  refine Seq.val (Runs.move rfl rfl) rfl rfl rfl ?_
  refine Seq.val (Runs.lss rfl rfl rfl) rfl rfl rfl ?_
  refine Seq.nil ?_
  refine Post.weak (F' := [(0, _), (2, _), (4, _)]) ⟨rfl, rfl, rfl, trivial⟩ ?_
  refine Post.then_ ?_
  refine Cd.condD rfl (fun hc => ?_) (fun hc => ?_)
  · skip
    refine Cd.seq ?_
    refine Cd.region ?_
    refine Seq.val (Runs.move rfl rfl) rfl rfl rfl ?_
    refine Seq.val (Runs.convI rfl rfl Try.underlying2 Try.underlying124 (wrap_u64 a)) rfl rfl rfl ?_
    refine Seq.val (Runs.neg rfl rfl (r := (a.natAbs : Int)) (by rw [wrap_u64]; omega)) rfl rfl rfl ?_
    refine Seq.val (Runs.assign rfl rfl) rfl rfl rfl ?_
    refine Seq.nil ?_
    refine Post.weak (F' := [(0, _), (2, _), (4, _)]) ⟨rfl, rfl, rfl, trivial⟩ ?_
    refine Post.then_ ?_
    refine Cd.ret ?_
    refine Post.then_ret ?_
    refine Post.end1 rfl rfl (.inl rfl) ?_
    exact ⟨rfl, rfl⟩
  · skip
    refine Cd.skip ?_
    refine Post.then_ ?_
    refine Cd.seq ?_
    refine Cd.region ?_
    refine Seq.val (Runs.move rfl rfl) rfl rfl rfl ?_
    refine Seq.val (Runs.convI rfl rfl Try.underlying2 Try.underlying124 (r := (a.natAbs : Int)) (by rw [wrap_u64]; omega)) rfl rfl rfl ?_
    refine Seq.val (Runs.assign rfl rfl) rfl rfl rfl ?_
    refine Seq.nil ?_
    refine Post.weak (F' := [(0, _), (2, _), (4, _)]) ⟨rfl, rfl, rfl, trivial⟩ ?_
    refine Post.then_ ?_
    refine Cd.ret ?_
    refine Post.end1 rfl rfl (.inl rfl) ?_
    exact ⟨rfl, rfl⟩

theorem mul64_nat (x y : Nat) (w : World) (hx : x < 18446744073709551616) (hy : y < 18446744073709551616) :
    Calls Try.prog 168 #[.int .u64 (x : Int), .int .u64 (y : Int)] w fun e w' => e = .returned (.tuple #[.int .u64 ((x * y / 18446744073709551616 : Nat) : Int), .int .u64 ((x * y % 18446744073709551616 : Nat) : Int)]) ∧ w = w' :=
  (mul64_any x y w (by omega) (by omega) (by omega) (by omega)).mono fun e w' ⟨h1, h2⟩ => ⟨by rw [h1]; unfold hiW loW; rw [← Int.natCast_mul]; rfl, h2⟩

/-- A wide number. -/
def wideV (m : Nat) (neg : Bool) : Value := .agg #[.int .u64 ((m / 18446744073709551616 : Nat) : Int), .int .u64 ((m % 18446744073709551616 : Nat) : Int), .bool neg]
theorem run_build_wide (a b : Int) (c : Bool) (w : World) : (Instr.build 196 #[(0, .int .u64 a), (1, .int .u64 b), (2, .bool c)]).run Try.prog w = .ok (.agg #[.int .u64 a, .int .u64 b, .bool c]) w := by
  have hu := Try.underlying196
  go_simp
theorem product_any (a b : Int) (w : World) (ha : I64 a) (hb : I64 b) :
    Calls Try.prog 175 #[.int .i64 a, .int .i64 b] w fun e w' => e = .returned (wideV (a.natAbs * b.natAbs) (decide (decide (a < 0) ≠ decide (b < 0)))) ∧ Grow w w' := by
  have bel := Below.refl w.heap.size w
  have ha2 : a.natAbs < 18446744073709551616 := by have := ha.1; have := ha.2; omega
  have hb2 : b.natAbs < 18446744073709551616 := by have := hb.1; have := hb.2; omega
  refine Calls.start 23 Try.func175 rfl rfl rfl ?_
  refine Cd.seq ?_
  refine Cd.region ?_
  refine Seq.alloc rfl (run_zero zero_num_wide) rfl rfl rfl ?_
  intro g4 w1 n4
  have e4 := Nat.le_trans bel.size n4.ge
  replace bel := bel.step n4.below
  have k4 := n4.blk
  refine Seq.nil ?_
  refine Post.weak (F' := [(0, _), (1, _), (4, _)]) ⟨rfl, rfl, rfl, trivial⟩ ?_
  refine Post.then_ ?_
  refine Cd.seq ?_
  refine Cd.region ?_
  refine Seq.val (Runs.move rfl rfl) rfl rfl rfl ?_
  refine Seq.call (Enters.func rfl rfl rfl (run_enter Try.func129 (by kernel_rfl) rfl)) rfl rfl rfl (size_nat _ _ ha) ?_
  rintro e w3 ⟨rfl, rfl⟩
  refine ⟨_, rfl, ?_⟩
  refine Seq.val (Runs.move rfl rfl) rfl rfl rfl ?_
  refine Seq.call (Enters.func rfl rfl rfl (run_enter Try.func129 (by kernel_rfl) rfl)) rfl rfl rfl (size_nat _ _ hb) ?_
  rintro e w3 ⟨rfl, rfl⟩
  refine ⟨_, rfl, ?_⟩
  refine Seq.call (Enters.func rfl rfl rfl (run_enter Try.func168 (by kernel_rfl) rfl)) rfl rfl rfl (mul64_nat _ _ _ ha2 hb2) ?_
  rintro e w3 ⟨rfl, rfl⟩
  refine ⟨_, rfl, ?_⟩
  refine Seq.val (Runs.move rfl rfl) rfl rfl rfl ?_
  refine Seq.val (Runs.extract rfl rfl rfl) rfl rfl rfl ?_
  refine Seq.val (Runs.extract rfl rfl rfl) rfl rfl rfl ?_
  refine Seq.val (Runs.assign rfl rfl) rfl rfl rfl ?_
  refine Seq.val (Runs.assign rfl rfl) rfl rfl rfl ?_
  refine Seq.nil ?_
  refine Post.weak (F' := [(0, _), (1, _), (4, _), (5, _), (6, _)]) ⟨rfl, rfl, rfl, rfl, rfl, trivial⟩ ?_
  refine Post.then_ ?_
  refine Cd.seq ?_
  refine Cd.region ?_
  refine Seq.val (Runs.move rfl rfl) rfl rfl rfl ?_
  refine Seq.val (Runs.move rfl rfl) rfl rfl rfl ?_
  refine Seq.val (Runs.move rfl rfl) rfl rfl rfl ?_
  refine Seq.val (Runs.lss rfl rfl rfl) rfl rfl rfl ?_
  refine Seq.val (Runs.move rfl rfl) rfl rfl rfl ?_
  refine Seq.val (Runs.lss rfl rfl rfl) rfl rfl rfl ?_
  refine Seq.val (Runs.neqB rfl rfl rfl Try.underlying4) rfl rfl rfl ?_
  refine Seq.val (Runs.build rfl rfl (run_build_wide _ _ _ _)) rfl rfl rfl ?_
  refine Seq.storeN rfl rfl rfl rfl (m := 3) (by kernel_rfl) rfl (by repeat' first | exact trivial | apply And.intro | rfl | assumption) k4 (by simp [Value.cells]) rfl rfl ?_
  intro w2 pw2
  replace bel := bel.put k4 pw2 e4
  replace k4 := pw2.blk
  refine Seq.nil ?_
  refine Post.weak (F' := [(0, _), (1, _), (4, _), (5, _), (6, _)]) ⟨rfl, rfl, rfl, rfl, rfl, trivial⟩ ?_
  refine Post.then_ ?_
  refine Cd.ret ?_
  refine Post.endC rfl rfl k4 Try.underlying196 rfl (m := 3) (by kernel_rfl) rfl (.inl rfl) ?_
  exact ⟨rfl, bel⟩

/-- What narrow answers. -/
def sgn (neg : Bool) (m : Nat) : Int := if neg then -(m : Int) else m
theorem narrow_any (m : Nat) (neg : Bool) (w : World) (hm : m < 340282366920938463463374607431768211456) :
    Calls Try.prog 176 #[wideV m neg] w fun e w' => ∃ v, e = .returned (.tuple #[.int .i64 v, .bool (fits (sgn neg m))]) ∧ (fits (sgn neg m) = true → v = sgn neg m) ∧ Grow w w' := by
  have bel := Below.refl w.heap.size w
  unfold wideV
  refine Calls.start 24 Try.func176 rfl rfl rfl ?_
  refine Cd.seq ?_
  refine Cd.region ?_
  refine Seq.box rfl rfl rfl rfl rfl ?_
  intro g1 w1 n1
  have e1 := Nat.le_trans bel.size n1.ge
  replace bel := bel.step n1.below
  have k1 := n1.blk
  refine Seq.val (Runs.assign rfl rfl) rfl rfl rfl ?_
  refine Seq.val (Runs.assign rfl rfl) rfl rfl rfl ?_
  refine Seq.nil ?_
  refine Post.weak (F' := [(0, _), (1, _), (2, _), (3, _)]) ⟨rfl, rfl, rfl, rfl, trivial⟩ ?_
  refine Post.then_ ?_
  refine Cd.seq ?_
  refine Cd.block ?_
  refine Cd.seq ?_
  refine Cd.region ?_
  refine Seq.val (Runs.fieldB 0 rfl rfl Try.underlying196 rfl (by kernel_rfl)) rfl rfl rfl ?_
  refine Seq.val (Runs.loadB rfl rfl Try.underlying124 rfl k1 rfl) rfl rfl rfl ?_
  refine Seq.val (Runs.neqI rfl rfl rfl) rfl rfl rfl ?_
  refine Seq.val (Runs.assign rfl rfl) rfl rfl rfl ?_
  refine Seq.nil ?_
  refine Post.weak (F' := [(0, _), (1, _), (2, _), (3, _), (4, _)]) ⟨rfl, rfl, rfl, rfl, rfl, trivial⟩ ?_
  refine Post.then_ ?_
  refine Cd.condD rfl (fun hc => ?_) (fun hc => ?_)
  · have hf : fits (sgn neg m) = false := by
      apply fits_not
      unfold sgn
      cases neg <;> simp at hc ⊢ <;> omega
    rw [hf]
    refine Cd.seq ?_
    refine Cd.region ?_
    refine Seq.val (Runs.assign rfl rfl) rfl rfl rfl ?_
    refine Seq.val (Runs.assign rfl rfl) rfl rfl rfl ?_
    refine Seq.nil ?_
    refine Post.weak (F' := [(0, _), (1, _), (2, _), (3, _), (4, _)]) ⟨rfl, rfl, rfl, rfl, rfl, trivial⟩ ?_
    refine Post.then_ ?_
    refine Cd.ret ?_
    refine Post.block_ret ?_
    refine Post.then_ret ?_
    refine Post.end2 rfl rfl rfl (.inl rfl) ?_
    exact ⟨0, rfl, (fun h => by cases h), bel⟩
  · have hlt : m < 18446744073709551616 := by simp at hc; omega
    cases neg
    · skip
      refine Cd.seq ?_
      refine Cd.region ?_
      refine Seq.val (Runs.fieldB 2 rfl rfl Try.underlying196 rfl (by kernel_rfl)) rfl rfl rfl ?_
      refine Seq.val (Runs.loadB rfl rfl Try.underlying4 rfl k1 rfl) rfl rfl rfl ?_
      refine Seq.val (Runs.assign rfl rfl) rfl rfl rfl ?_
      refine Seq.nil ?_
      refine Post.weak (F' := [(0, _), (1, _), (2, _), (3, _), (4, _), (8, _)]) ⟨rfl, rfl, rfl, rfl, rfl, rfl, trivial⟩ ?_
      refine Post.then_ ?_
      refine Cd.condF rfl rfl ?_
      refine Cd.skip ?_
      refine Post.block_normal ?_
      refine Post.then_ ?_
      refine Cd.seq ?_
      refine Cd.weak (F' := [(0, _), (1, _), (4, _), (8, _)]) ⟨rfl, rfl, rfl, rfl, trivial⟩ ?_
      refine Cd.draw 8 (by kernel_rfl) [] (.inl rfl) rfl Grow Grow.refl (fun _ _ _ => Grow.trans) ?_
      intro w2 hw2 zw2
      replace bel := bel.step hw2
      replace k1 := k1.step hw2
      have zbel := bel.size
      have zlt := k1.lt
      refine Dr.val Grow.refl rfl (fun w hG => Runs.fieldB 1 rfl rfl Try.underlying196 rfl (by kernel_rfl)) rfl ?_
      refine Dr.val Grow.refl rfl (fun w hG => Runs.loadB rfl rfl Try.underlying124 rfl (k1.step hG) rfl) rfl ?_
      refine Dr.val Grow.refl rfl (fun w hG => Runs.convI rfl rfl Try.underlying124 Try.underlying2 rfl) rfl ?_
      refine Dr.val Grow.refl rfl (fun w hG => Runs.fieldB 1 rfl rfl Try.underlying196 rfl (by kernel_rfl)) rfl ?_
      refine Dr.val Grow.refl rfl (fun w hG => Runs.loadB rfl rfl Try.underlying124 rfl (k1.step hG) rfl) rfl ?_
      refine Dr.val Grow.refl rfl (fun w hG => Runs.lss rfl rfl rfl) rfl ?_
      refine Dr.val Grow.refl rfl (fun w hG => Runs.assign rfl rfl) rfl ?_
      refine Dr.val Grow.refl rfl (fun w hG => Runs.assign rfl rfl) rfl ?_
      refine Dr.nil ?_
      refine FinX.done (F' := [(0, _), (1, _), (2, _), (3, _), (4, _), (8, _)]) rfl ⟨rfl, rfl, rfl, rfl, rfl, rfl, trivial⟩ ?_
      intro w3 hw3 fw3
      replace bel := bel.step hw3
      replace k1 := k1.step hw3
      refine Seq.nil ?_
      refine Post.weak (F' := [(0, _), (1, _), (2, _), (3, _), (4, _), (8, _)]) ⟨rfl, rfl, rfl, rfl, rfl, rfl, trivial⟩ ?_
      refine Post.then_ ?_
      refine Cd.ret ?_
      refine Post.end2 rfl rfl rfl (.inl rfl) ?_
      refine ⟨_, ret2 rfl (bool_eq ?_), fun h => ?_, bel⟩
      · unfold fits sgn; rw [Bool.eq_iff_iff]; simp; omega
      · unfold fits sgn at *; simp at h ⊢; rw [IntKind.wrap_i64]; omega
    · skip
      refine Cd.seq ?_
      refine Cd.region ?_
      refine Seq.val (Runs.fieldB 2 rfl rfl Try.underlying196 rfl (by kernel_rfl)) rfl rfl rfl ?_
      refine Seq.val (Runs.loadB rfl rfl Try.underlying4 rfl k1 rfl) rfl rfl rfl ?_
      refine Seq.val (Runs.assign rfl rfl) rfl rfl rfl ?_
      refine Seq.nil ?_
      refine Post.weak (F' := [(0, _), (1, _), (2, _), (3, _), (4, _), (8, _)]) ⟨rfl, rfl, rfl, rfl, rfl, rfl, trivial⟩ ?_
      refine Post.then_ ?_
      refine Cd.condT rfl rfl ?_
      refine Cd.seq ?_
      refine Cd.weak (F' := [(0, _), (1, _), (4, _), (8, _)]) ⟨rfl, rfl, rfl, rfl, trivial⟩ ?_
      refine Cd.draw 9 (by kernel_rfl) [] (.inl rfl) rfl Grow Grow.refl (fun _ _ _ => Grow.trans) ?_
      intro w2 hw2 zw2
      replace bel := bel.step hw2
      replace k1 := k1.step hw2
      have zbel := bel.size
      have zlt := k1.lt
      refine Dr.val Grow.refl rfl (fun w hG => Runs.fieldB 1 rfl rfl Try.underlying196 rfl (by kernel_rfl)) rfl ?_
      refine Dr.val Grow.refl rfl (fun w hG => Runs.loadB rfl rfl Try.underlying124 rfl (k1.step hG) rfl) rfl ?_
      refine Dr.val Grow.refl rfl (fun w hG => Runs.convI rfl rfl Try.underlying124 Try.underlying2 rfl) rfl ?_
      refine Dr.val Grow.refl rfl (fun w hG => Runs.neg rfl rfl rfl) rfl ?_
      refine Dr.val Grow.refl rfl (fun w hG => Runs.fieldB 1 rfl rfl Try.underlying196 rfl (by kernel_rfl)) rfl ?_
      refine Dr.val Grow.refl rfl (fun w hG => Runs.loadB rfl rfl Try.underlying124 rfl (k1.step hG) rfl) rfl ?_
      refine Dr.val Grow.refl rfl (fun w hG => Runs.leq rfl rfl rfl) rfl ?_
      refine Dr.val Grow.refl rfl (fun w hG => Runs.assign rfl rfl) rfl ?_
      refine Dr.val Grow.refl rfl (fun w hG => Runs.assign rfl rfl) rfl ?_
      refine Dr.nil ?_
      refine FinX.done (F' := [(0, _), (1, _), (2, _), (3, _), (4, _), (8, _)]) rfl ⟨rfl, rfl, rfl, rfl, rfl, rfl, trivial⟩ ?_
      intro w3 hw3 fw3
      replace bel := bel.step hw3
      replace k1 := k1.step hw3
      refine Seq.nil ?_
      refine Post.weak (F' := [(0, _), (1, _), (2, _), (3, _), (4, _), (8, _)]) ⟨rfl, rfl, rfl, rfl, rfl, rfl, trivial⟩ ?_
      refine Post.then_ ?_
      refine Cd.ret ?_
      refine Post.block_ret ?_
      refine Post.then_ret ?_
      refine Post.end2 rfl rfl rfl (.inl rfl) ?_
      refine ⟨_, ret2 rfl (bool_eq ?_), fun h => ?_, bel⟩
      · unfold fits sgn; rw [Bool.eq_iff_iff]; simp; omega
      · unfold fits sgn at *; simp at h ⊢; rw [IntKind.wrap_i64, IntKind.wrap_i64]; omega
end Go.Proofs.Ytijaldpmpjapiaa

/-
  Texts that were joined: TNumD, TNumT, TNumQ, LexSpec, LexA, LexB, TreA, TreB, TreC, TreD. Conditions: what each theorem names.
-/
import Derived.Test.YtijaldpmpjapiaaC0
set_option linter.unusedSectionVars false
namespace Go.Proofs.Ytijaldpmpjapiaa
open Go.RowKit

theorem zero_num_wide : zeroIs Try.prog 196 = some (some (.agg #[.int .u64 0, .int .u64 0, .bool false])) := by kernel_rfl
theorem size_nat (a : Int) (w : World) (h : I64 a) : Calls Try.prog 129 #[.int .i64 a] w fun e w' => e = .returned (.int .u64 (a.natAbs : Int)) ∧ w = w' := by
  obtain ⟨h0, h1⟩ := h
  refine Calls.start 10 Try.func129 rfl rfl rfl ?_
  refine Cd.seq ?_
  refine Cd.region ?_
  refine Seq.val (Runs.assign rfl rfl) rfl rfl rfl ?_
  refine Seq.nil ?_
  refine Post.weak (F' := [(0, _), (2, _)]) ⟨rfl, rfl, trivial⟩ ?_
  refine Post.then_ ?_
  refine Cd.seq ?_
  refine Cd.seq ?_
  refine Cd.region ?_
  refine Seq.val (Runs.move rfl rfl) rfl rfl rfl ?_
  refine Seq.val (Runs.lss rfl rfl rfl) rfl rfl rfl ?_
  refine Seq.nil ?_
  refine Post.weak (F' := [(0, _), (2, _), (4, _)]) ⟨rfl, rfl, rfl, trivial⟩ ?_
  refine Post.then_ ?_
  refine Cd.condD rfl (fun hc => ?_) (fun hc => ?_)
  · skip
    refine Cd.seq ?_
    refine Cd.region ?_
    refine Seq.val (Runs.move rfl rfl) rfl rfl rfl ?_
    refine Seq.val (Runs.convI rfl rfl Try.underlying2 Try.underlying124 (wrap_u64 a)) rfl rfl rfl ?_
    refine Seq.val (Runs.neg rfl rfl (r := (a.natAbs : Int)) (by rw [wrap_u64]; omega)) rfl rfl rfl ?_
    refine Seq.val (Runs.assign rfl rfl) rfl rfl rfl ?_
    refine Seq.nil ?_
    refine Post.weak (F' := [(0, _), (2, _), (4, _)]) ⟨rfl, rfl, rfl, trivial⟩ ?_
    refine Post.then_ ?_
    refine Cd.ret ?_
    refine Post.then_ret ?_
    refine Post.end1 rfl rfl (.inl rfl) ?_
    exact ⟨rfl, rfl⟩
  · skip
    refine Cd.skip ?_
    refine Post.then_ ?_
    refine Cd.seq ?_
    refine Cd.region ?_
    refine Seq.val (Runs.move rfl rfl) rfl rfl rfl ?_
    refine Seq.val (Runs.convI rfl rfl Try.underlying2 Try.underlying124 (r := (a.natAbs : Int)) (by rw [wrap_u64]; omega)) rfl rfl rfl ?_
    refine Seq.val (Runs.assign rfl rfl) rfl rfl rfl ?_
    refine Seq.nil ?_
    refine Post.weak (F' := [(0, _), (2, _), (4, _)]) ⟨rfl, rfl, rfl, trivial⟩ ?_
    refine Post.then_ ?_
    refine Cd.ret ?_
    refine Post.end1 rfl rfl (.inl rfl) ?_
    exact ⟨rfl, rfl⟩

theorem mul64_nat (x y : Nat) (w : World) (hx : x < 18446744073709551616) (hy : y < 18446744073709551616) :
    Calls Try.prog 168 #[.int .u64 (x : Int), .int .u64 (y : Int)] w fun e w' => e = .returned (.tuple #[.int .u64 ((x * y / 18446744073709551616 : Nat) : Int), .int .u64 ((x * y % 18446744073709551616 : Nat) : Int)]) ∧ w = w' :=
  (mul64_any x y w (by omega) (by omega) (by omega) (by omega)).mono fun e w' ⟨h1, h2⟩ => ⟨by rw [h1]; unfold hiW loW; rw [← Int.natCast_mul]; rfl, h2⟩

/-- A wide number. -/
def wideV (m : Nat) (neg : Bool) : Value := .agg #[.int .u64 ((m / 18446744073709551616 : Nat) : Int), .int .u64 ((m % 18446744073709551616 : Nat) : Int), .bool neg]
theorem run_build_wide (a b : Int) (c : Bool) (w : World) : (Instr.build 196 #[(0, .int .u64 a), (1, .int .u64 b), (2, .bool c)]).run Try.prog w = .ok (.agg #[.int .u64 a, .int .u64 b, .bool c]) w := by
  have hu := Try.underlying196
  go_simp
theorem product_any (a b : Int) (w : World) (ha : I64 a) (hb : I64 b) :
    Calls Try.prog 175 #[.int .i64 a, .int .i64 b] w fun e w' => e = .returned (wideV (a.natAbs * b.natAbs) (decide (decide (a < 0) ≠ decide (b < 0)))) ∧ Grow w w' := by
  have bel := Below.refl w.heap.size w
  have ha2 : a.natAbs < 18446744073709551616 := by have := ha.1; have := ha.2; omega
  have hb2 : b.natAbs < 18446744073709551616 := by have := hb.1; have := hb.2; omega
  refine Calls.start 23 Try.func175 rfl rfl rfl ?_
  refine Cd.seq ?_
  refine Cd.region ?_
  refine Seq.alloc rfl (run_zero zero_num_wide) rfl rfl rfl ?_
  intro g4 w1 n4
  have e4 := Nat.le_trans bel.size n4.ge
  replace bel := bel.step n4.below
  have k4 := n4.blk
  refine Seq.nil ?_
  refine Post.weak (F' := [(0, _), (1, _), (4, _)]) ⟨rfl, rfl, rfl, trivial⟩ ?_
  refine Post.then_ ?_
  refine Cd.seq ?_
  refine Cd.region ?_
  refine Seq.val (Runs.move rfl rfl) rfl rfl rfl ?_
  refine Seq.call (Enters.func rfl rfl rfl (run_enter Try.func129 (by kernel_rfl) rfl)) rfl rfl rfl (size_nat _ _ ha) ?_
  rintro e w3 ⟨rfl, rfl⟩
  refine ⟨_, rfl, ?_⟩
  refine Seq.val (Runs.move rfl rfl) rfl rfl rfl ?_
  refine Seq.call (Enters.func rfl rfl rfl (run_enter Try.func129 (by kernel_rfl) rfl)) rfl rfl rfl (size_nat _ _ hb) ?_
  rintro e w3 ⟨rfl, rfl⟩
  refine ⟨_, rfl, ?_⟩
  refine Seq.call (Enters.func rfl rfl rfl (run_enter Try.func168 (by kernel_rfl) rfl)) rfl rfl rfl (mul64_nat _ _ _ ha2 hb2) ?_
  rintro e w3 ⟨rfl, rfl⟩
  refine ⟨_, rfl, ?_⟩
  refine Seq.val (Runs.move rfl rfl) rfl rfl rfl ?_
  refine Seq.val (Runs.extract rfl rfl rfl) rfl rfl rfl ?_
  refine Seq.val (Runs.extract rfl rfl rfl) rfl rfl rfl ?_
  refine Seq.val (Runs.assign rfl rfl) rfl rfl rfl ?_
  refine Seq.val (Runs.assign rfl rfl) rfl rfl rfl ?_
  refine Seq.nil ?_
  refine Post.weak (F' := [(0, _), (1, _), (4, _), (5, _), (6, _)]) ⟨rfl, rfl, rfl, rfl, rfl, trivial⟩ ?_
  refine Post.then_ ?_
  refine Cd.seq ?_
  refine Cd.region ?_
  refine Seq.val (Runs.move rfl rfl) rfl rfl rfl ?_
  refine Seq.val (Runs.move rfl rfl) rfl rfl rfl ?_
  refine Seq.val (Runs.move rfl rfl) rfl rfl rfl ?_
  refine Seq.val (Runs.lss rfl rfl rfl) rfl rfl rfl ?_
  refine Seq.val (Runs.move rfl rfl) rfl rfl rfl ?_
  refine Seq.val (Runs.lss rfl rfl rfl) rfl rfl rfl ?_
  refine Seq.val (Runs.neqB rfl rfl rfl Try.underlying4) rfl rfl rfl ?_
  refine Seq.val (Runs.build rfl rfl (run_build_wide _ _ _ _)) rfl rfl rfl ?_
  refine Seq.storeN rfl rfl rfl rfl (m := 3) (by kernel_rfl) rfl (by repeat' first | exact trivial | apply And.intro | rfl | assumption) k4 (by simp [Value.cells]) rfl rfl ?_
  intro w2 pw2
  replace bel := bel.put k4 pw2 e4
  replace k4 := pw2.blk
  refine Seq.nil ?_
  refine Post.weak (F' := [(0, _), (1, _), (4, _), (5, _), (6, _)]) ⟨rfl, rfl, rfl, rfl, rfl, trivial⟩ ?_
  refine Post.then_ ?_
  refine Cd.ret ?_
  refine Post.endC rfl rfl k4 Try.underlying196 rfl (m := 3) (by kernel_rfl) rfl (.inl rfl) ?_
  exact ⟨rfl, bel⟩

/-- What narrow answers. -/
def sgn (neg : Bool) (m : Nat) : Int := if neg then -(m : Int) else m
theorem narrow_any (m : Nat) (neg : Bool) (w : World) (hm : m < 340282366920938463463374607431768211456) :
    Calls Try.prog 176 #[wideV m neg] w fun e w' => ∃ v, e = .returned (.tuple #[.int .i64 v, .bool (fits (sgn neg m))]) ∧ (fits (sgn neg m) = true → v = sgn neg m) ∧ Grow w w' := by
  have bel := Below.refl w.heap.size w
  unfold wideV
  refine Calls.start 24 Try.func176 rfl rfl rfl ?_
  refine Cd.seq ?_
  refine Cd.region ?_
  refine Seq.box rfl rfl rfl rfl rfl ?_
  intro g1 w1 n1
  have e1 := Nat.le_trans bel.size n1.ge
  replace bel := bel.step n1.below
  have k1 := n1.blk
  refine Seq.val (Runs.assign rfl rfl) rfl rfl rfl ?_
  refine Seq.val (Runs.assign rfl rfl) rfl rfl rfl ?_
  refine Seq.nil ?_
  refine Post.weak (F' := [(0, _), (1, _), (2, _), (3, _)]) ⟨rfl, rfl, rfl, rfl, trivial⟩ ?_
  refine Post.then_ ?_
  refine Cd.seq ?_
  refine Cd.block ?_
  refine Cd.seq ?_
  refine Cd.region ?_
  refine Seq.val (Runs.fieldB 0 rfl rfl Try.underlying196 rfl (by kernel_rfl)) rfl rfl rfl ?_
  refine Seq.val (Runs.loadB rfl rfl Try.underlying124 rfl k1 rfl) rfl rfl rfl ?_
  refine Seq.val (Runs.neqI rfl rfl rfl) rfl rfl rfl ?_
  refine Seq.val (Runs.assign rfl rfl) rfl rfl rfl ?_
  refine Seq.nil ?_
  refine Post.weak (F' := [(0, _), (1, _), (2, _), (3, _), (4, _)]) ⟨rfl, rfl, rfl, rfl, rfl, trivial⟩ ?_
  refine Post.then_ ?_
  refine Cd.condD rfl (fun hc => ?_) (fun hc => ?_)
  · have hf : fits (sgn neg m) = false := by
      apply fits_not
      unfold sgn
      cases neg <;> simp at hc ⊢ <;> omega
    rw [hf]
    refine Cd.seq ?_
    refine Cd.region ?_
    refine Seq.val (Runs.assign rfl rfl) rfl rfl rfl ?_
    refine Seq.val (Runs.assign rfl rfl) rfl rfl rfl ?_
    refine Seq.nil ?_
    refine Post.weak (F' := [(0, _), (1, _), (2, _), (3, _), (4, _)]) ⟨rfl, rfl, rfl, rfl, rfl, trivial⟩ ?_
    refine Post.then_ ?_
    refine Cd.ret ?_
    refine Post.block_ret ?_
    refine Post.then_ret ?_
    refine Post.end2 rfl rfl rfl (.inl rfl) ?_
    exact ⟨0, rfl, (fun h => by cases h), bel⟩
  · have hlt : m < 18446744073709551616 := by simp at hc; omega
    cases neg
    · skip
      refine Cd.seq ?_
      refine Cd.region ?_
      refine Seq.val (Runs.fieldB 2 rfl rfl Try.underlying196 rfl (by kernel_rfl)) rfl rfl rfl ?_
      refine Seq.val (Runs.loadB rfl rfl Try.underlying4 rfl k1 rfl) rfl rfl rfl ?_
      refine Seq.val (Runs.assign rfl rfl) rfl rfl rfl ?_
      refine Seq.nil ?_
      refine Post.weak (F' := [(0, _), (1, _), (2, _), (3, _), (4, _), (8, _)]) ⟨rfl, rfl, rfl, rfl, rfl, rfl, trivial⟩ ?_
      refine Post.then_ ?_
      refine Cd.condF rfl rfl ?_
      refine Cd.skip ?_
      refine Post.block_normal ?_
      refine Post.then_ ?_
      refine Cd.seq ?_
      refine Cd.weak (F' := [(0, _), (1, _), (4, _), (8, _)]) ⟨rfl, rfl, rfl, rfl, trivial⟩ ?_
      refine Cd.draw 8 (by kernel_rfl) [] (.inl rfl) rfl Grow Grow.refl (fun _ _ _ => Grow.trans) ?_
      intro w2 hw2 zw2
      replace bel := bel.step hw2
      replace k1 := k1.step hw2
      have zbel := bel.size
      have zlt := k1.lt
      refine Dr.val Grow.refl rfl (fun w hG => Runs.fieldB 1 rfl rfl Try.underlying196 rfl (by kernel_rfl)) rfl ?_
      refine Dr.val Grow.refl rfl (fun w hG => Runs.loadB rfl rfl Try.underlying124 rfl (k1.step hG) rfl) rfl ?_
      refine Dr.val Grow.refl rfl (fun w hG => Runs.convI rfl rfl Try.underlying124 Try.underlying2 rfl) rfl ?_
      refine Dr.val Grow.refl rfl (fun w hG => Runs.fieldB 1 rfl rfl Try.underlying196 rfl (by kernel_rfl)) rfl ?_
      refine Dr.val Grow.refl rfl (fun w hG => Runs.loadB rfl rfl Try.underlying124 rfl (k1.step hG) rfl) rfl ?_
      refine Dr.val Grow.refl rfl (fun w hG => Runs.lss rfl rfl rfl) rfl ?_
      refine Dr.val Grow.refl rfl (fun w hG => Runs.assign rfl rfl) rfl ?_
      refine Dr.val Grow.refl rfl (fun w hG => Runs.assign rfl rfl) rfl ?_
      refine Dr.nil ?_
      refine FinX.done (F' := [(0, _), (1, _), (2, _), (3, _), (4, _), (8, _)]) rfl ⟨rfl, rfl, rfl, rfl, rfl, rfl, trivial⟩ ?_
      intro w3 hw3 fw3
      replace bel := bel.step hw3
      replace k1 := k1.step hw3
      refine Seq.nil ?_
      refine Post.weak (F' := [(0, _), (1, _), (2, _), (3, _), (4, _), (8, _)]) ⟨rfl, rfl, rfl, rfl, rfl, rfl, trivial⟩ ?_
      refine Post.then_ ?_
      refine Cd.ret ?_
      refine Post.end2 rfl rfl rfl (.inl rfl) ?_
      refine ⟨_, ret2 rfl (bool_eq ?_), fun h => ?_, bel⟩
      · unfold fits sgn; rw [Bool.eq_iff_iff]; simp; omega
      · unfold fits sgn at *; simp at h ⊢; rw [IntKind.wrap_i64]; omega
    · skip
      refine Cd.seq ?_
      refine Cd.region ?_
      refine Seq.val (Runs.fieldB 2 rfl rfl Try.underlying196 rfl (by kernel_rfl)) rfl rfl rfl ?_
      refine Seq.val (Runs.loadB rfl rfl Try.underlying4 rfl k1 rfl) rfl rfl rfl ?_
      refine Seq.val (Runs.assign rfl rfl) rfl rfl rfl ?_
      refine Seq.nil ?_
      refine Post.weak (F' := [(0, _), (1, _), (2, _), (3, _), (4, _), (8, _)]) ⟨rfl, rfl, rfl, rfl, rfl, rfl, trivial⟩ ?_
      refine Post.then_ ?_
      refine Cd.condT rfl rfl ?_
      refine Cd.seq ?_
      refine Cd.weak (F' := [(0, _), (1, _), (4, _), (8, _)]) ⟨rfl, rfl, rfl, rfl, trivial⟩ ?_
      refine Cd.draw 9 (by kernel_rfl) [] (.inl rfl) rfl Grow Grow.refl (fun _ _ _ => Grow.trans) ?_
      intro w2 hw2 zw2
      replace bel := bel.step hw2
      replace k1 := k1.step hw2
      have zbel := bel.size
      have zlt := k1.lt
      refine Dr.val Grow.refl rfl (fun w hG => Runs.fieldB 1 rfl rfl Try.underlying196 rfl (by kernel_rfl)) rfl ?_
      refine Dr.val Grow.refl rfl (fun w hG => Runs.loadB rfl rfl Try.underlying124 rfl (k1.step hG) rfl) rfl ?_
      refine Dr.val Grow.refl rfl (fun w hG => Runs.convI rfl rfl Try.underlying124 Try.underlying2 rfl) rfl ?_
      refine Dr.val Grow.refl rfl (fun w hG => Runs.neg rfl rfl rfl) rfl ?_
      refine Dr.val Grow.refl rfl (fun w hG => Runs.fieldB 1 rfl rfl Try.underlying196 rfl (by kernel_rfl)) rfl ?_
      refine Dr.val Grow.refl rfl (fun w hG => Runs.loadB rfl rfl Try.underlying124 rfl (k1.step hG) rfl) rfl ?_
      refine Dr.val Grow.refl rfl (fun w hG => Runs.leq rfl rfl rfl) rfl ?_
      refine Dr.val Grow.refl rfl (fun w hG => Runs.assign rfl rfl) rfl ?_
      refine Dr.val Grow.refl rfl (fun w hG => Runs.assign rfl rfl) rfl ?_
      refine Dr.nil ?_
      refine FinX.done (F' := [(0, _), (1, _), (2, _), (3, _), (4, _), (8, _)]) rfl ⟨rfl, rfl, rfl, rfl, rfl, rfl, trivial⟩ ?_
      intro w3 hw3 fw3
      replace bel := bel.step hw3
      replace k1 := k1.step hw3
      refine Seq.nil ?_
      refine Post.weak (F' := [(0, _), (1, _), (2, _), (3, _), (4, _), (8, _)]) ⟨rfl, rfl, rfl, rfl, rfl, rfl, trivial⟩ ?_
      refine Post.then_ ?_
      refine Cd.ret ?_
      refine Post.block_ret ?_
      refine Post.then_ret ?_
      refine Post.end2 rfl rfl rfl (.inl rfl) ?_
      refine ⟨_, ret2 rfl (bool_eq ?_), fun h => ?_, bel⟩
      · unfold fits sgn; rw [Bool.eq_iff_iff]; simp; omega
      · unfold fits sgn at *; simp at h ⊢; rw [IntKind.wrap_i64, IntKind.wrap_i64]; omega
end Go.Proofs.Ytijaldpmpjapiaa

namespace Go.Proofs.Ytijaldpmpjapiaa
open Go.RowKit

theorem two_not {a : Int} (h : fits a = false) : Ending.returned (.tuple #[.int .i64 0, .bool false]) = .returned (.tuple #[.int .i64 (smallOf a), .bool (fits a)]) := by unfold smallOf; rw [h]; rfl
theorem two_yes {a s : Int} (h : fits a = true) (hs : s = a) : Ending.returned (.tuple #[.int .i64 s, .bool true]) = .returned (.tuple #[.int .i64 (smallOf a), .bool (fits a)]) := by unfold smallOf; rw [h, hs]; rfl
theorem sub_num (a b : Int) (w : World) (ha : I64 a) (hb : I64 b) :
    Calls Try.prog 165 #[.int .i64 a, .int .i64 b] w fun e w' => e = .returned (.tuple #[.int .i64 (smallOf (a + -b)), .bool (fits (a + -b))]) ∧ Grow w w' := by
  obtain ⟨ha0, ha1⟩ := ha
  obtain ⟨hb0, hb1⟩ := hb
  refine Calls.start 23 Try.func165 rfl rfl rfl ?_
  refine Cd.seq ?_
  refine Cd.region ?_
  refine Seq.val (Runs.assign rfl rfl) rfl rfl rfl ?_
  refine Seq.val (Runs.assign rfl rfl) rfl rfl rfl ?_
  refine Seq.nil ?_
  refine Post.weak (F' := [(0, _), (1, _), (4, _), (5, _)]) ⟨rfl, rfl, rfl, rfl, trivial⟩ ?_
  refine Post.then_ ?_
  refine Cd.seq ?_
  refine Cd.region ?_
  refine Seq.val (Runs.move rfl rfl) rfl rfl rfl ?_
  refine Seq.val (Runs.move rfl rfl) rfl rfl rfl ?_
  refine Seq.val (Runs.subW rfl rfl rfl rfl) rfl rfl rfl ?_
  generalize hs : IntKind.i64.wrap (a - b) = s
  rw [IntKind.wrap_i64] at hs
  refine Seq.val (Runs.assign rfl rfl) rfl rfl rfl ?_
  refine Seq.nil ?_
  refine Post.weak (F' := [(0, _), (1, _), (4, _), (5, _), (6, _)]) ⟨rfl, rfl, rfl, rfl, rfl, trivial⟩ ?_
  refine Post.then_ ?_
  refine Cd.seq ?_
  refine Cd.seq ?_
  refine Cd.region ?_
  refine Seq.val (Runs.move rfl rfl) rfl rfl rfl ?_
  refine Seq.val (Runs.lss rfl rfl rfl) rfl rfl rfl ?_
  refine Seq.val (Runs.move rfl rfl) rfl rfl rfl ?_
  refine Seq.val (Runs.lss rfl rfl rfl) rfl rfl rfl ?_
  refine Seq.val (Runs.neqB rfl rfl rfl Try.underlying4) rfl rfl rfl ?_
  refine Seq.val (Runs.move rfl rfl) rfl rfl rfl ?_
  refine SeqC.start ?_
  refine SeqC.open rfl rfl rfl rfl rfl rfl rfl (fun hcx => Runs.move rfl rfl) ?_
  refine SeqC.next rfl rfl rfl rfl rfl rfl rfl (fun hcx => Runs.lss rfl rfl rfl) ?_
  refine SeqC.next rfl rfl rfl rfl rfl rfl rfl (fun hcx => Runs.move rfl rfl) ?_
  refine SeqC.next rfl rfl rfl rfl rfl rfl rfl (fun hcx => Runs.lss rfl rfl rfl) ?_
  refine SeqC.next rfl rfl rfl rfl rfl rfl rfl (fun hcx => Runs.neqB rfl rfl rfl Try.underlying4) ?_
  refine SeqC.and rfl rfl rfl rfl rfl rfl rfl ?_
  refine Seq.nil ?_
  refine Post.weak (F' := [(0, _), (1, _), (4, _), (5, _), (6, _), (21, _)]) ⟨rfl, rfl, rfl, rfl, rfl, rfl, trivial⟩ ?_
  refine Post.then_ ?_
  refine Cd.cond rfl (fun h => ?_) (fun h => ?_)
  · skip
    refine Cd.seq ?_
    refine Cd.region ?_
    refine Seq.val (Runs.assign rfl rfl) rfl rfl rfl ?_
    refine Seq.val (Runs.assign rfl rfl) rfl rfl rfl ?_
    refine Seq.nil ?_
    refine Post.weak (F' := [(0, _), (1, _), (4, _), (5, _), (6, _), (21, _)]) ⟨rfl, rfl, rfl, rfl, rfl, rfl, trivial⟩ ?_
    refine Post.then_ ?_
    refine Cd.ret ?_
    refine Post.then_ret ?_
    refine Post.end2 rfl rfl rfl (.inl rfl) ?_
    simp at h
    exact ⟨two_not (fits_not (by omega)), Grow.refl _⟩
  · skip
    refine Cd.skip ?_
    refine Post.then_ ?_
    refine Cd.seq ?_
    refine Cd.region ?_
    refine Seq.val (Runs.move rfl rfl) rfl rfl rfl ?_
    refine Seq.val (Runs.assign rfl rfl) rfl rfl rfl ?_
    refine Seq.val (Runs.assign rfl rfl) rfl rfl rfl ?_
    refine Seq.nil ?_
    refine Post.weak (F' := [(0, _), (1, _), (4, _), (5, _), (6, _), (21, _)]) ⟨rfl, rfl, rfl, rfl, rfl, rfl, trivial⟩ ?_
    refine Post.then_ ?_
    refine Cd.ret ?_
    refine Post.end2 rfl rfl rfl (.inl rfl) ?_
    simp at h
    exact ⟨two_yes (fits_of (by omega) (by omega)) (by omega), Grow.refl _⟩
theorem neg_num (a : Int) (w : World) (ha : I64 a) :
    Calls Try.prog 166 #[.int .i64 a] w fun e w' => e = .returned (.tuple #[.int .i64 (smallOf (-a)), .bool (fits (-a))]) ∧ Grow w w' := by
  obtain ⟨ha0, ha1⟩ := ha
  refine Calls.start 8 Try.func166 rfl rfl rfl ?_
  refine Cd.seq ?_
  refine Cd.region ?_
  refine Seq.val (Runs.assign rfl rfl) rfl rfl rfl ?_
  refine Seq.val (Runs.assign rfl rfl) rfl rfl rfl ?_
  refine Seq.nil ?_
  refine Post.weak (F' := [(0, _), (2, _), (3, _)]) ⟨rfl, rfl, rfl, trivial⟩ ?_
  refine Post.then_ ?_
  refine Cd.seq ?_
  refine Cd.seq ?_
  refine Cd.region ?_
  refine Seq.val (Runs.move rfl rfl) rfl rfl rfl ?_
  refine Seq.val (Runs.eqlI rfl rfl rfl) rfl rfl rfl ?_
  refine Seq.nil ?_
  refine Post.weak (F' := [(0, _), (2, _), (3, _), (5, _)]) ⟨rfl, rfl, rfl, rfl, trivial⟩ ?_
  refine Post.then_ ?_
  refine Cd.condD rfl (fun h => ?_) (fun h => ?_)
  · skip
    refine Cd.seq ?_
    refine Cd.region ?_
    refine Seq.val (Runs.assign rfl rfl) rfl rfl rfl ?_
    refine Seq.val (Runs.assign rfl rfl) rfl rfl rfl ?_
    refine Seq.nil ?_
    refine Post.weak (F' := [(0, _), (2, _), (3, _), (5, _)]) ⟨rfl, rfl, rfl, rfl, trivial⟩ ?_
    refine Post.then_ ?_
    refine Cd.ret ?_
    refine Post.then_ret ?_
    refine Post.end2 rfl rfl rfl (.inl rfl) ?_
    exact ⟨two_not (fits_not (by omega)), Grow.refl _⟩
  · skip
    refine Cd.skip ?_
    refine Post.then_ ?_
    refine Cd.seq ?_
    refine Cd.region ?_
    refine Seq.val (Runs.move rfl rfl) rfl rfl rfl ?_
    refine Seq.val (Runs.neg rfl rfl (wrapI (by omega) (by omega))) rfl rfl rfl ?_
    refine Seq.val (Runs.assign rfl rfl) rfl rfl rfl ?_
    refine Seq.val (Runs.assign rfl rfl) rfl rfl rfl ?_
    refine Seq.nil ?_
    refine Post.weak (F' := [(0, _), (2, _), (3, _), (5, _)]) ⟨rfl, rfl, rfl, rfl, trivial⟩ ?_
    refine Post.then_ ?_
    refine Cd.ret ?_
    refine Post.end2 rfl rfl rfl (.inl rfl) ?_
    exact ⟨two_yes (fits_of (by omega) (by omega)) (by omega), Grow.refl _⟩
theorem sgn_prod (a b : Int) : sgn (decide (decide (a < 0) ≠ decide (b < 0))) (a.natAbs * b.natAbs) = a * b := by
  unfold sgn
  rw [Int.natCast_mul]
  by_cases ha : a < 0
  · have ea : (a.natAbs : Int) = -a := by omega
    by_cases hb : b < 0
    · have eb : (b.natAbs : Int) = -b := by omega
      rw [ea, eb, Int.neg_mul_neg]; simp [ha, hb]
    · have eb : (b.natAbs : Int) = b := by omega
      rw [ea, eb, Int.neg_mul, Int.neg_neg]; simp [ha, hb]
  · have ea : (a.natAbs : Int) = a := by omega
    by_cases hb : b < 0
    · have eb : (b.natAbs : Int) = -b := by omega
      rw [ea, eb, Int.mul_neg, Int.neg_neg]; simp [ha, hb]
    · have eb : (b.natAbs : Int) = b := by omega
      rw [ea, eb]; simp [ha, hb]
theorem mul_num (a b : Int) (w : World) (ha : I64 a) (hb : I64 b) :
    Calls Try.prog 164 #[.int .i64 a, .int .i64 b] w fun e w' => e = .returned (.tuple #[.int .i64 (smallOf (a * b)), .bool (fits (a * b))]) ∧ Grow w w' := by
  have bel := Below.refl w.heap.size w
  have hm : a.natAbs * b.natAbs < 340282366920938463463374607431768211456 := by
    have h1 := ha.1; have h2 := ha.2; have h3 := hb.1; have h4 := hb.2
    have := Nat.mul_le_mul (show a.natAbs ≤ 9223372036854775808 by omega) (show b.natAbs ≤ 9223372036854775808 by omega)
    omega
  refine Calls.start 18 Try.func164 rfl rfl rfl ?_
  refine Cd.seq ?_
  refine Cd.region ?_
  refine Seq.val (Runs.assign rfl rfl) rfl rfl rfl ?_
  refine Seq.val (Runs.assign rfl rfl) rfl rfl rfl ?_
  refine Seq.nil ?_
  refine Post.weak (F' := [(0, _), (1, _), (4, _), (5, _)]) ⟨rfl, rfl, rfl, rfl, trivial⟩ ?_
  refine Post.then_ ?_
  refine Cd.seq ?_
  refine Cd.region ?_
  refine Seq.val (Runs.move rfl rfl) rfl rfl rfl ?_
  refine Seq.val (Runs.move rfl rfl) rfl rfl rfl ?_
  refine Seq.call (Enters.func rfl rfl rfl (run_enter Try.func175 (by kernel_rfl) rfl)) rfl rfl rfl (product_any a b _ ha hb) ?_
  rintro e w4 ⟨rfl, hb4⟩
  refine ⟨_, rfl, ?_⟩
  replace bel := bel.step hb4
  refine Seq.call (Enters.func rfl rfl rfl (run_enter Try.func176 (by kernel_rfl) rfl)) rfl rfl rfl (narrow_any _ _ _ hm) ?_
  rw [sgn_prod]
  rintro e w5 ⟨v, rfl, hv, hb5⟩
  refine ⟨_, rfl, ?_⟩
  replace bel := bel.step hb5
  refine Seq.val (Runs.move rfl rfl) rfl rfl rfl ?_
  refine Seq.val (Runs.extract rfl rfl rfl) rfl rfl rfl ?_
  refine Seq.val (Runs.extract rfl rfl rfl) rfl rfl rfl ?_
  refine Seq.val (Runs.assign rfl rfl) rfl rfl rfl ?_
  refine Seq.val (Runs.assign rfl rfl) rfl rfl rfl ?_
  refine Seq.nil ?_
  refine Post.weak (F' := [(0, _), (1, _), (4, _), (5, _), (6, _), (7, _)]) ⟨rfl, rfl, rfl, rfl, rfl, rfl, trivial⟩ ?_
  refine Post.then_ ?_
  refine Cd.seq ?_
  refine Cd.seq ?_
  refine Cd.region ?_
  refine Seq.val (Runs.move rfl rfl) rfl rfl rfl ?_
  refine Seq.val (Runs.not rfl rfl) rfl rfl rfl ?_
  refine Seq.nil ?_
  refine Post.weak (F' := [(0, _), (1, _), (4, _), (5, _), (6, _), (7, _), (16, _)]) ⟨rfl, rfl, rfl, rfl, rfl, rfl, rfl, trivial⟩ ?_
  refine Post.then_ ?_
  refine Cd.cond rfl (fun h => ?_) (fun h => ?_)
  · skip
    refine Cd.seq ?_
    refine Cd.region ?_
    refine Seq.val (Runs.assign rfl rfl) rfl rfl rfl ?_
    refine Seq.val (Runs.assign rfl rfl) rfl rfl rfl ?_
    refine Seq.nil ?_
    refine Post.weak (F' := [(0, _), (1, _), (4, _), (5, _), (6, _), (7, _), (16, _)]) ⟨rfl, rfl, rfl, rfl, rfl, rfl, rfl, trivial⟩ ?_
    refine Post.then_ ?_
    refine Cd.ret ?_
    refine Post.then_ret ?_
    refine Post.end2 rfl rfl rfl (.inl rfl) ?_
    simp at h
    exact ⟨two_not h, bel⟩
  · skip
    refine Cd.skip ?_
    refine Post.then_ ?_
    refine Cd.seq ?_
    refine Cd.region ?_
    refine Seq.val (Runs.move rfl rfl) rfl rfl rfl ?_
    refine Seq.val (Runs.assign rfl rfl) rfl rfl rfl ?_
    refine Seq.val (Runs.assign rfl rfl) rfl rfl rfl ?_
    refine Seq.nil ?_
    refine Post.weak (F' := [(0, _), (1, _), (4, _), (5, _), (6, _), (7, _), (16, _)]) ⟨rfl, rfl, rfl, rfl, rfl, rfl, rfl, trivial⟩ ?_
    refine Post.then_ ?_
    refine Cd.ret ?_
    refine Post.end2 rfl rfl rfl (.inl rfl) ?_
    simp at h
    exact ⟨two_yes h (hv h), bel⟩

end Go.Proofs.Ytijaldpmpjapiaa

namespace Go.Proofs.Ytijaldpmpjapiaa
open Go.RowKit

/-- A text without its sign. -/
def restOf (l : List Nat) : List Nat := if l.head? = some 45 then l.drop 1 else l
theorem idx_append (F R : List Nat) (c : Nat) (h : c ∉ F) : idx (F ++ c :: R) c = F.length := by
  induction F with
  | nil => simp [idx, List.findIdx_cons]
  | cons x F ih =>
    have hx : (x == c) = false := beq_eq_false_iff_ne.2 (fun e => h (by simp [e]))
    have := ih (fun hm => h (List.mem_cons_of_mem _ hm))
    unfold idx at this ⊢
    rw [List.cons_append, List.findIdx_cons, hx, List.length_cons, ← this]
    rfl
theorem form_amt {l : List Nat} {d : Nat} {y : Int} {F B : List Nat} (h : Form l d y F B) : (l.head? = some 45 ↔ y < 0) ∧ (46 ∈ restOf l ↔ 0 < d) ∧ cutA (restOf l) 46 = F ∧ cutB (restOf l) 46 = B := by
  obtain ⟨hf, hb, hlen, hpos, hlead, hval, heq⟩ := h
  have hF46 : 46 ∉ F := fun hm => by have := hf 46 hm; unfold isDg at this; omega
  have hh : (l.head? = some 45) ↔ y < 0 := by
    rw [heq]
    unfold FormL
    by_cases hx : y < 0
    · simp [hx]
    · cases F with
      | nil => simp at hpos
      | cons c F =>
        have := hf c (List.mem_cons_self ..)
        unfold isDg at this
        simp [hx]
        omega
  have hr : restOf l = F ++ (if 0 < d then 46 :: B else []) := by
    unfold restOf
    by_cases hx : y < 0
    · rw [if_pos (hh.2 hx), heq]
      unfold FormL
      rw [if_pos hx]
      rfl
    · rw [if_neg (fun h => hx (hh.1 h)), heq]
      unfold FormL
      rw [if_neg hx]
      rfl
  refine ⟨hh, ?_, ?_, ?_⟩
  · rw [hr]
    by_cases hd : 0 < d
    · simp [hd]
    · simp [hd, hF46]
  · rw [hr]
    unfold cutA
    by_cases hd : 0 < d
    · rw [if_pos hd, if_pos (by simp), idx_append _ _ _ hF46, List.take_left]
    · rw [if_neg hd, List.append_nil, if_neg hF46]
  · rw [hr]
    unfold cutB
    by_cases hd : 0 < d
    · rw [if_pos hd, if_pos (by simp), idx_append _ _ _ hF46, ← List.drop_drop, List.drop_left]
      rfl
    · rw [if_neg hd, List.append_nil, if_neg hF46]
      exact (List.eq_nil_of_length_eq_zero (by omega)).symm
theorem amt_form {l : List Nat} {d : Nat} {x : Int} (hp : 46 ∈ restOf l ↔ 0 < d) (hb : (cutB (restOf l) 46).length = d) (hf : 0 < (cutA (restOf l) 46).length) (hlead : 1 < (cutA (restOf l) 46).length → (cutA (restOf l) 46)[0]? ≠ some 48)
    (hdg : ∀ c ∈ cutA (restOf l) 46 ++ cutB (restOf l) 46, isDg c) (hx : valD (cutA (restOf l) 46 ++ cutB (restOf l) 46) = x.natAbs) (hs : x < 0 ↔ l.head? = some 45) : Form l d x (cutA (restOf l) 46) (cutB (restOf l) 46) := by
  refine ⟨fun c hc => hdg c (List.mem_append_left _ hc), fun c hc => hdg c (List.mem_append_right _ hc), hb, hf, hlead, hx, ?_⟩
  have hr : restOf l = cutA (restOf l) 46 ++ (if 0 < d then 46 :: cutB (restOf l) 46 else []) := by
    by_cases hd : 0 < d
    · have hm := hp.2 hd
      unfold cutA cutB
      rw [if_pos hm, if_pos hm, if_pos hd]
      exact (idx_split _ _ hm).2.2
    · have hm : ¬ 46 ∈ restOf l := fun h => hd (hp.1 h)
      unfold cutA
      rw [if_neg hm, if_neg hd, List.append_nil]
  unfold FormL
  rw [← hr]
  unfold restOf
  by_cases h : l.head? = some 45
  · rw [if_pos (hs.2 h), if_pos h]
    cases l with
    | nil => simp at h
    | cons c l => simp at h; subst h; rfl
  · rw [if_neg (fun h0 => h (hs.1 h0)), if_neg h]
    rfl
/-- The answer of a text: its number, and whether it is one. -/
def AmtA (l : List Nat) (d x : Int) (b : Bool) : Prop :=
  (b = true → 0 ≤ d ∧ d ≤ 9 ∧ I64 x ∧ ∃ F B, Form l d.toNat x F B) ∧ (b = false → x = 0 ∧ (0 ≤ d → d ≤ 9 → ∀ y, I64 y → ∀ F B, ¬ Form l d.toNat y F B))
theorem AmtA.uniq {l : List Nat} {d x y : Int} {b c : Bool} (h : AmtA l d x b) (k : AmtA l d y c) : x = y ∧ b = c := by
  cases b with
  | true =>
    obtain ⟨h1, h2, h3, F, B, h4⟩ := h.1 rfl
    cases c with
    | true =>
      obtain ⟨-, -, -, F', B', k4⟩ := k.1 rfl
      exact ⟨(signZ_form h4).symm.trans (signZ_form k4), rfl⟩
    | false => exact absurd h4 ((k.2 rfl).2 h1 h2 x h3 F B)
  | false =>
    obtain ⟨h1, h2⟩ := h.2 rfl
    cases c with
    | true =>
      obtain ⟨k1, k2, k3, F, B, k4⟩ := k.1 rfl
      exact absurd k4 (h2 k1 k2 y k3 F B)
    | false => exact ⟨by rw [h1, (k.2 rfl).1], rfl⟩
theorem restOf_lt {l : List Nat} (hl : ∀ x ∈ l, x < 256) : ∀ x ∈ restOf l, x < 256 := by
  unfold restOf
  split
  · exact fun x hx => hl x (List.mem_of_mem_drop hx)
  · exact hl
theorem restOf_len (l : List Nat) : (restOf l).length ≤ l.length := by
  unfold restOf
  split
  · rw [List.length_drop]; omega
  · omega
theorem cutA_sub {l : List Nat} {c : Nat} : (∀ x ∈ cutA l c, x ∈ l) ∧ (cutA l c).length + (cutB l c).length ≤ l.length := by
  unfold cutA cutB
  constructor
  · split
    · exact fun x hx => List.mem_of_mem_take hx
    · exact fun x hx => hx
  · split
    · rename_i h
      have := (idx_split l c h).1
      rw [List.length_take, List.length_drop]; omega
    · simp
theorem cutB_sub {l : List Nat} {c : Nat} : ∀ x ∈ cutB l c, x ∈ l := by
  unfold cutB
  split
  · exact fun x hx => List.mem_of_mem_drop hx
  · exact fun x hx => by simp at hx

set_option maxHeartbeats 1000000 in
theorem amount_any (l : List Nat) (d : Int) (w : World) (hl : ∀ x ∈ l, x < 256) (hn : l.length ≤ 9223372036854775807) (hd : I64 d) :
    Calls Try.prog 137 #[.string (strOf l), .int .i64 d] w fun e w' => ∃ x b, e = .returned (.tuple #[.int .i64 x, .bool b]) ∧ AmtA l d x b ∧ Grow w w' := by
  have bel := Below.refl w.heap.size w
  refine Calls.start 95 Try.func137 rfl rfl rfl ?_
  refine Cd.seq ?_
  refine Cd.region ?_
  refine Seq.val (Runs.assign rfl rfl) rfl rfl rfl ?_
  refine Seq.val (Runs.assign rfl rfl) rfl rfl rfl ?_
  refine Seq.nil ?_
  refine Post.weak (F' := [(0, _), (1, _), (4, _), (5, _)]) ⟨rfl, rfl, rfl, rfl, trivial⟩ ?_
  refine Post.then_ ?_
  refine Cd.seq ?_
  refine Cd.seq ?_
  refine Cd.region ?_
  refine Seq.val (Runs.move rfl rfl) rfl rfl rfl ?_
  refine Seq.val (Runs.lss rfl rfl rfl) rfl rfl rfl ?_
  refine Seq.val (Runs.move rfl rfl) rfl rfl rfl ?_
  refine SeqC.start ?_
  refine SeqC.open rfl rfl rfl rfl rfl rfl rfl (fun hcx => Runs.move rfl rfl) ?_
  refine SeqC.next rfl rfl rfl rfl rfl rfl rfl (fun hcx => Runs.gtr rfl rfl rfl) ?_
  refine SeqC.or rfl rfl rfl rfl rfl rfl rfl ?_
  refine Seq.nil ?_
  refine Post.weak (F' := [(0, _), (1, _), (4, _), (5, _), (21, _)]) ⟨rfl, rfl, rfl, rfl, rfl, trivial⟩ ?_
  refine Post.then_ ?_
  refine Cd.cond rfl (fun h => ?_) (fun h => ?_)
  · skip
    refine Cd.seq ?_
    refine Cd.region ?_
    refine Seq.val (Runs.assign rfl rfl) rfl rfl rfl ?_
    refine Seq.val (Runs.assign rfl rfl) rfl rfl rfl ?_
    refine Seq.nil ?_
    refine Post.weak (F' := [(0, _), (1, _), (4, _), (5, _), (21, _)]) ⟨rfl, rfl, rfl, rfl, rfl, trivial⟩ ?_
    refine Post.then_ ?_
    refine Cd.ret ?_
    refine Post.then_ret ?_
    refine Post.end2 rfl rfl rfl (.inl rfl) ?_
    exact ⟨0, false, rfl, ⟨fun h => (by cases h), fun _ => ⟨rfl, fun h1 h2 => (by simp at h; omega)⟩⟩, bel⟩
  obtain ⟨D, rfl⟩ : ∃ D : Nat, d = (D : Int) := ⟨d.toNat, by simp at h; omega⟩
  have hD : D ≤ 9 := by simp at h; omega
  clear h
  have hno : (∀ y, I64 y → ∀ F B, ¬ Form l D y F B) → AmtA l (D : Int) 0 false := fun h => ⟨fun h => (by cases h), fun _ => ⟨rfl, fun _ _ => by rw [Int.toNat_natCast]; exact h⟩⟩
  have hrl := restOf_lt hl
  have hrn := restOf_len l
  have hrd : (if l.head? = some 45 then l.drop 1 else l) = restOf l := rfl
  refine Cd.skip ?_
  refine Post.then_ ?_
  refine Cd.seq ?_
  refine Cd.region ?_
  refine Seq.val (Runs.move rfl rfl) rfl rfl rfl ?_
  refine Seq.call (Enters.func rfl rfl rfl (run_enter Try.func161 (by kernel_rfl) rfl)) rfl rfl rfl (cutPrefix_any l 45 _ hl (by omega)) ?_
  rintro e w2 ⟨rfl, rfl⟩
  refine ⟨_, rfl, ?_⟩
  rw [hrd]
  refine Seq.val (Runs.move rfl rfl) rfl rfl rfl ?_
  refine Seq.val (Runs.extract rfl rfl rfl) rfl rfl rfl ?_
  refine Seq.val (Runs.extract rfl rfl rfl) rfl rfl rfl ?_
  refine Seq.val (Runs.assign rfl rfl) rfl rfl rfl ?_
  refine Seq.val (Runs.assign rfl rfl) rfl rfl rfl ?_
  refine Seq.nil ?_
  refine Post.weak (F' := [(0, _), (1, _), (4, _), (5, _), (6, _), (7, _), (21, _)]) ⟨rfl, rfl, rfl, rfl, rfl, rfl, rfl, trivial⟩ ?_
  refine Post.then_ ?_
  refine Cd.seq ?_
  refine Cd.region ?_
  refine Seq.val (Runs.move rfl rfl) rfl rfl rfl ?_
  refine Seq.call (Enters.func rfl rfl rfl (run_enter Try.func162 (by kernel_rfl) rfl)) rfl rfl rfl (cut_any (restOf l) 46 _ hrl (by omega) (by omega)) ?_
  rintro e w3 ⟨rfl, hb3⟩
  refine ⟨_, rfl, ?_⟩
  replace bel := bel.step hb3
  have hA := cutA_sub (l := restOf l) (c := 46)
  have hB := cutB_sub (l := restOf l) (c := 46)
  have hFl : ∀ x ∈ cutA (restOf l) 46, x < 256 := fun x hx => hrl x (hA.1 x hx)
  have hBl : ∀ x ∈ cutB (restOf l) 46, x < 256 := fun x hx => hrl x (hB x hx)
  have hlen := hA.2
  have hform := fun y F B (h : Form l D y F B) => form_amt h
  have hmk := fun x => amt_form (l := l) (d := D) (x := x)
  generalize hF : cutA (restOf l) 46 = F at *
  generalize hBd : cutB (restOf l) 46 = B at *
  refine Seq.val (Runs.move rfl rfl) rfl rfl rfl ?_
  refine Seq.val (Runs.extract rfl rfl rfl) rfl rfl rfl ?_
  refine Seq.val (Runs.extract rfl rfl rfl) rfl rfl rfl ?_
  refine Seq.val (Runs.extract rfl rfl rfl) rfl rfl rfl ?_
  refine Seq.val (Runs.assign rfl rfl) rfl rfl rfl ?_
  refine Seq.val (Runs.assign rfl rfl) rfl rfl rfl ?_
  refine Seq.val (Runs.assign rfl rfl) rfl rfl rfl ?_
  refine Seq.nil ?_
  refine Post.weak (F' := [(0, _), (1, _), (4, _), (5, _), (6, _), (7, _), (8, _), (9, _), (10, _), (21, _)]) ⟨rfl, rfl, rfl, rfl, rfl, rfl, rfl, rfl, rfl, rfl, trivial⟩ ?_
  refine Post.then_ ?_
  refine Cd.seq ?_
  refine Cd.seq ?_
  refine Cd.region ?_
  refine Seq.val (Runs.move rfl rfl) rfl rfl rfl ?_
  refine Seq.val (Runs.move rfl rfl) rfl rfl rfl ?_
  refine Seq.val (Runs.gtr rfl rfl rfl) rfl rfl rfl ?_
  refine Seq.val (Runs.neqB rfl rfl rfl Try.underlying4) rfl rfl rfl ?_
  refine Seq.val (Runs.move rfl rfl) rfl rfl rfl ?_
  refine SeqC.start ?_
  refine SeqC.open rfl rfl rfl rfl rfl rfl rfl (fun hcx => Runs.move rfl rfl) ?_
  refine SeqC.next rfl rfl rfl rfl rfl rfl rfl (fun hcx => Runs.lenL rfl rfl Try.underlying9) ?_
  refine SeqC.next rfl rfl rfl rfl rfl rfl rfl (fun hcx => Runs.move rfl rfl) ?_
  refine SeqC.next rfl rfl rfl rfl rfl rfl rfl (fun hcx => Runs.neqI rfl rfl rfl) ?_
  refine SeqC.or rfl rfl rfl rfl rfl rfl rfl ?_
  refine Seq.val (Runs.move rfl rfl) rfl rfl rfl ?_
  refine SeqC.start ?_
  refine SeqC.open rfl rfl rfl rfl rfl rfl rfl (fun hcx => Runs.move rfl rfl) ?_
  refine SeqC.next rfl rfl rfl rfl rfl rfl rfl (fun hcx => Runs.eqlL (a := F) (b := []) rfl rfl rfl hFl (fun x hx => by simp at hx)) ?_
  refine SeqC.or rfl rfl rfl rfl rfl rfl rfl ?_
  refine Seq.val (Runs.move rfl rfl) rfl rfl rfl ?_
  refine SeqC.start ?_
  refine SeqC.open rfl rfl rfl rfl rfl rfl rfl (fun hcx => Runs.move rfl rfl) ?_
  refine SeqC.next rfl rfl rfl rfl rfl rfl rfl (fun hcx => Runs.lenL rfl rfl Try.underlying9) ?_
  refine SeqC.next rfl rfl rfl rfl rfl rfl rfl (fun hcx => Runs.gtr rfl rfl rfl) ?_
  refine SeqC.next rfl rfl rfl rfl rfl rfl rfl (fun hcx => Runs.move rfl rfl) ?_
  refine SeqC.open rfl rfl rfl rfl rfl rfl rfl (fun hcx => Runs.move rfl rfl) ?_
  have hF0 : 1 < F.length → F[0]? = some (F.getD 0 0) := by
    intro h
    cases F with
    | nil => simp at h
    | cons c F => rfl
  have hF1 : F.getD 0 0 < 256 := by
    cases F with
    | nil => simp
    | cons c F => exact hFl c (by simp)
  refine SeqC.next rfl rfl rfl rfl rfl rfl rfl (fun hcx => Runs.indexL (l := F) (j := 0) (c := F.getD 0 0) rfl rfl rfl Try.underlying9 rfl (hF0 (by simp at hcx; omega)) hF1) ?_
  refine SeqC.next rfl rfl rfl rfl rfl rfl rfl (fun hcx => Runs.eqlI rfl rfl rfl) ?_
  refine SeqC.andG rfl rfl rfl rfl rfl rfl rfl rfl rfl rfl rfl ?_
  refine SeqC.or rfl rfl rfl rfl rfl rfl rfl ?_
  refine Seq.nil ?_
  refine Post.weak (F' := [(0, _), (1, _), (4, _), (5, _), (6, _), (7, _), (8, _), (9, _), (10, _), (21, _), (56, _)]) ⟨rfl, rfl, rfl, rfl, rfl, rfl, rfl, rfl, rfl, rfl, rfl, trivial⟩ ?_
  refine Post.then_ ?_
  generalize hf0 : F.getD 0 0 = f0 at *
  have hiff : (decide (46 ∈ restOf l) = decide ((0 : Int) < (D : Int))) ↔ (46 ∈ restOf l ↔ 0 < D) := by
    rw [decide_eq_decide]
    constructor <;> intro h <;> rw [h] <;> omega
  have hnil : F = [] ↔ F.length = 0 := by cases F <;> simp
  refine Cd.cond rfl (fun h => ?_) (fun h => ?_)
  · have hbad : ∀ y, I64 y → ∀ F B, ¬ Form l D y F B := by
      intro y _ F' B' hfm
      obtain ⟨-, e2, rfl, rfl⟩ := hform y F' B' hfm
      have e3 := hfm.len
      have e4 := hfm.pos
      have e5 : 1 < F.length → f0 ≠ 48 := fun h1 h2 => hfm.lead h1 (by rw [hF0 h1, h2])
      have e6 := hiff.2 e2
      have e7 : F ≠ [] := fun h => by rw [h] at e4; simp at e4
      simp only [e6, e3] at h
      simp [e7] at h
      omega
    refine Cd.seq ?_
    refine Cd.region ?_
    refine Seq.val (Runs.assign rfl rfl) rfl rfl rfl ?_
    refine Seq.val (Runs.assign rfl rfl) rfl rfl rfl ?_
    refine Seq.nil ?_
    refine Post.weak (F' := [(0, _), (1, _), (4, _), (5, _), (6, _), (7, _), (8, _), (9, _), (10, _), (21, _), (56, _)]) ⟨rfl, rfl, rfl, rfl, rfl, rfl, rfl, rfl, rfl, rfl, rfl, trivial⟩ ?_
    refine Post.then_ ?_
    refine Cd.ret ?_
    refine Post.then_ret ?_
    refine Post.end2 rfl rfl rfl (.inl rfl) ?_
    exact ⟨0, false, rfl, hno hbad, bel⟩
  have hok : (46 ∈ restOf l ↔ 0 < D) ∧ B.length = D ∧ 0 < F.length ∧ (1 < F.length → F[0]? ≠ some 48) := by
    simp only [Bool.or_eq_false_iff, Bool.and_eq_false_iff, decide_eq_false_iff_not, ne_eq, Decidable.not_not] at h
    obtain ⟨⟨⟨k1, k2⟩, k3⟩, k4⟩ := h
    refine ⟨hiff.1 k1, by omega, by have := mt hnil.2 k3; omega, fun h1 h2 => ?_⟩
    rw [hF0 h1] at h2
    injection h2 with h2
    omega
  obtain ⟨k1, k2, k3, k4⟩ := hok
  replace hmk := fun x => hmk x k1 k2 k3 k4
  have hM : ∀ x ∈ F ++ B, x < 256 := fun x hx => by
    rcases List.mem_append.1 hx with h | h
    · exact hFl x h
    · exact hBl x h
  have hMl : (F ++ B).length ≤ 9223372036854775807 := by rw [List.length_append]; omega
  have hfm : ∀ y, ∀ F' B', Form l D y F' B' → (∀ c ∈ F ++ B, isDg c) ∧ valD (F ++ B) = y.natAbs ∧ (l.head? = some 45 ↔ y < 0) := by
    intro y F' B' hf
    obtain ⟨e1, -, rfl, rfl⟩ := hform y F' B' hf
    exact ⟨fun c hc => by
      rcases List.mem_append.1 hc with h | h
      · exact hf.f c h
      · exact hf.b c h, hf.val, e1⟩
  have hFB : F.length + B.length ≤ 9223372036854775807 := by omega
  clear h hform hF0 hF1 hf0 hiff hnil
  refine Cd.skip ?_
  refine Post.then_ ?_
  refine Cd.seq ?_
  refine Cd.region ?_
  refine Seq.val (Runs.assign rfl rfl) rfl rfl rfl ?_
  refine Seq.nil ?_
  refine Post.weak (F' := [(0, _), (1, _), (4, _), (5, _), (6, _), (7, _), (8, _), (9, _), (10, _), (11, _), (21, _), (56, _)]) ⟨rfl, rfl, rfl, rfl, rfl, rfl, rfl, rfl, rfl, rfl, rfl, rfl, trivial⟩ ?_
  refine Post.then_ ?_
  refine Cd.seq ?_
  refine Cd.seq ?_
  refine Cd.region ?_
  refine Seq.val (Runs.move rfl rfl) rfl rfl rfl ?_
  refine Seq.val (Runs.move rfl rfl) rfl rfl rfl ?_
  refine Seq.val (Runs.addL rfl rfl rfl hFB) rfl rfl rfl ?_
  generalize F ++ B = M at *
  refine Seq.convSB rfl rfl Try.underlying9 Try.underlying108 Try.underlying5 hM rfl rfl rfl ?_
  intro g60 c60 w60 hc60 n60
  replace bel := bel.step n60.below
  have hrd60 := n60.reads
  have hB60 := n60.lt
  refine Seq.val (Runs.len rfl rfl Try.underlying108) rfl rfl rfl ?_
  refine Seq.val (Runs.move rfl rfl) rfl rfl rfl ?_
  refine Seq.nil ?_
  refine Post.weak (F' := [(0, _), (1, _), (4, _), (5, _), (6, _), (7, _), (8, _), (9, _), (10, _), (11, _), (21, _), (56, _), (60, _), (61, _), (62, _)]) ⟨rfl, rfl, rfl, rfl, rfl, rfl, rfl, rfl, rfl, rfl, rfl, rfl, rfl, rfl, rfl, trivial⟩ ?_
  refine Post.then_ ?_
  refine Cd.block ?_
  refine Cd.loop (σ := Nat) (fun k => [(7, .bool (decide (l.head? = some 45))), (11, .int .i64 (-((valD (M.take k) : Nat) : Int))), (60, .slice (some ⟨g60, 0, none⟩) M.length c60), (61, .int .i64 (M.length : Int)), (62, .int .i64 (k : Int))])
    (fun k wr => k ≤ M.length ∧ (∀ c ∈ M.take k, isDg c) ∧ valD (M.take k) ≤ 9223372036854775808 ∧ Below w.heap.size w wr ∧ Below w60.heap.size w60 wr) (fun k => M.length - k) 0 ⟨by omega, by simp, by simp [valD], bel, Below.refl _ _⟩ ⟨rfl, rfl, rfl, rfl, rfl, trivial⟩ ?_
  clear bel
  rintro k wr ⟨hk, hdg, hv, bel, bl60⟩
  refine Cd.seq ?_
  refine Cd.region ?_
  refine Seq.val (Runs.lss rfl rfl rfl) rfl rfl rfl ?_
  refine Seq.nil ?_
  refine Post.weak (F' := [(7, _), (11, _), (60, _), (61, _), (62, _), (63, _)]) ⟨rfl, rfl, rfl, rfl, rfl, rfl, trivial⟩ ?_
  refine Post.then_ ?_
  refine Cd.seq ?_
  refine Cd.condD rfl (fun hc => ?_) (fun hc => ?_)
  · obtain ⟨c, hc⟩ : ∃ c, M[k]? = some c := ⟨_, List.getElem?_eq_getElem (show k < M.length by omega)⟩
    have hc256 := hM c (List.mem_of_getElem? hc)
    have hcell : wr.cell? (Addr.add ⟨g60, 0, none⟩ k) = some (.int .u8 (c : Int)) := by
      obtain ⟨ad, e, hb, hcs⟩ := hrd60.2 (by omega)
      injection e with e
      subst e
      rw [bl60.cell (by rw [block_of_add]; exact hB60)]
      exact hcs k _ (by rw [get_Bt, hc]; rfl)
    have htk : M.take (k + 1) = M.take k ++ [c] := by rw [List.take_add_one, hc]; rfl
    have hvs : valD (M.take (k + 1)) = 10 * valD (M.take k) + (c - 48) := by rw [htk, valD_snoc]
    have hvl := valD_take M (k + 1)
    have hbig : 9223372036854775808 < valD M → ∀ y, I64 y → ∀ F B, ¬ Form l D y F B := fun h y hy F' B' hf => by
      obtain ⟨-, e2, -⟩ := hfm y F' B' hf
      unfold I64 at hy
      omega
    generalize hV : valD (M.take k) = V at *
    refine Cd.skip ?_
    refine Post.then_ ?_
    refine Cd.seq ?_
    refine Cd.block ?_
    refine Cd.seq ?_
    refine Cd.region ?_
    refine Seq.val (Runs.index1 rfl rfl rfl Try.underlying108 (by kernel_rfl) (j := k) rfl (by omega)) rfl rfl rfl ?_
    refine Seq.val (Runs.load1 rfl rfl Try.underlying5 rfl hcell) rfl rfl rfl ?_
    refine Seq.val (Runs.assign rfl rfl) rfl rfl rfl ?_
    refine Seq.nil ?_
    refine Post.weak (F' := [(7, _), (11, _), (13, _), (60, _), (61, _), (62, _), (63, _)]) ⟨rfl, rfl, rfl, rfl, rfl, rfl, rfl, trivial⟩ ?_
    refine Post.then_ ?_
    refine Cd.seq ?_
    refine Cd.seq ?_
    refine Cd.region ?_
    refine Seq.val (Runs.move rfl rfl) rfl rfl rfl ?_
    refine Seq.call (Enters.func rfl rfl rfl (run_enter Try.func163 (by kernel_rfl) rfl)) rfl rfl rfl (digit_any c _) ?_
    rintro e w5 ⟨rfl, rfl⟩
    refine ⟨_, rfl, ?_⟩
    refine Seq.val (Runs.not rfl rfl) rfl rfl rfl ?_
    refine Seq.nil ?_
    refine Post.weak (F' := [(7, _), (11, _), (13, _), (60, _), (61, _), (62, _), (63, _), (68, _)]) ⟨rfl, rfl, rfl, rfl, rfl, rfl, rfl, rfl, trivial⟩ ?_
    refine Post.then_ ?_
    refine Cd.cond rfl (fun h => ?_) (fun h => ?_)
    · have hnd : ∀ y, I64 y → ∀ F B, ¬ Form l D y F B := fun y _ F' B' hf => by
        have := (hfm y F' B' hf).1 c (List.mem_of_getElem? hc)
        unfold isDg at this
        simp at h
        omega
      refine Cd.seq ?_
      refine Cd.region ?_
      refine Seq.val (Runs.assign rfl rfl) rfl rfl rfl ?_
      refine Seq.val (Runs.assign rfl rfl) rfl rfl rfl ?_
      refine Seq.nil ?_
      refine Post.weak (F' := [(4, _), (5, _), (7, _), (11, _), (13, _), (60, _), (61, _), (62, _), (63, _), (68, _)]) ⟨rfl, rfl, rfl, rfl, rfl, rfl, rfl, rfl, rfl, rfl, trivial⟩ ?_
      refine Post.then_ ?_
      refine Cd.ret ?_
      refine Post.then_ret ?_
      refine Post.block_ret ?_
      refine Post.then_ret ?_
      refine Post.round_ret ?_
      refine Post.block_ret ?_
      refine Post.then_ret ?_
      refine Post.end2 rfl rfl rfl (.inl rfl) ?_
      exact ⟨0, false, rfl, hno hnd, bel⟩
    have hcd : isDg c := by unfold isDg; simp at h; omega
    have hcd2 := hcd
    unfold isDg at hcd2
    clear h
    refine Cd.skip ?_
    refine Post.then_ ?_
    refine Cd.seq ?_
    refine Cd.region ?_
    refine Seq.val (Runs.move rfl rfl) rfl rfl rfl ?_
    refine Seq.call (Enters.func rfl rfl rfl (run_enter Try.func164 (by kernel_rfl) rfl)) rfl rfl rfl (mul_num (-(V : Int)) 10 _ (by unfold I64; omega) (by unfold I64; omega)) ?_
    rintro e w6 ⟨rfl, hb6⟩
    refine ⟨_, rfl, ?_⟩
    replace bel := bel.step hb6
    refine Seq.val (Runs.move rfl rfl) rfl rfl rfl ?_
    refine Seq.val (Runs.extract rfl rfl rfl) rfl rfl rfl ?_
    refine Seq.val (Runs.extract rfl rfl rfl) rfl rfl rfl ?_
    refine Seq.val (Runs.assign rfl rfl) rfl rfl rfl ?_
    refine Seq.val (Runs.assign rfl rfl) rfl rfl rfl ?_
    refine Seq.nil ?_
    refine Post.weak (F' := [(7, _), (11, _), (13, _), (14, _), (15, _), (60, _), (61, _), (62, _), (63, _), (68, _)]) ⟨rfl, rfl, rfl, rfl, rfl, rfl, rfl, rfl, rfl, rfl, trivial⟩ ?_
    refine Post.then_ ?_
    refine Cd.seq ?_
    refine Cd.seq ?_
    refine Cd.region ?_
    refine Seq.val (Runs.move rfl rfl) rfl rfl rfl ?_
    refine Seq.val (Runs.not rfl rfl) rfl rfl rfl ?_
    refine Seq.nil ?_
    refine Post.weak (F' := [(7, _), (11, _), (13, _), (14, _), (15, _), (60, _), (61, _), (62, _), (63, _), (68, _), (75, _)]) ⟨rfl, rfl, rfl, rfl, rfl, rfl, rfl, rfl, rfl, rfl, rfl, trivial⟩ ?_
    refine Post.then_ ?_
    refine Cd.cond rfl (fun h => ?_) (fun h => ?_)
    · have hbg : 9223372036854775808 < 10 * V := by
        unfold fits at h
        simp at h
        omega
      refine Cd.seq ?_
      refine Cd.region ?_
      refine Seq.val (Runs.assign rfl rfl) rfl rfl rfl ?_
      refine Seq.val (Runs.assign rfl rfl) rfl rfl rfl ?_
      refine Seq.nil ?_
      refine Post.weak (F' := [(4, _), (5, _), (7, _), (11, _), (13, _), (14, _), (15, _), (60, _), (61, _), (62, _), (63, _), (68, _), (75, _)]) ⟨rfl, rfl, rfl, rfl, rfl, rfl, rfl, rfl, rfl, rfl, rfl, rfl, rfl, trivial⟩ ?_
      refine Post.then_ ?_
      refine Cd.ret ?_
      refine Post.then_ret ?_
      refine Post.block_ret ?_
      refine Post.then_ret ?_
      refine Post.round_ret ?_
      refine Post.block_ret ?_
      refine Post.then_ret ?_
      refine Post.end2 rfl rfl rfl (.inl rfl) ?_
      exact ⟨0, false, rfl, hno (hbig (by omega)), bel⟩
    have hft : fits (-(V : Int) * 10) = true := by simpa using h
    have hsm : smallOf (-(V : Int) * 10) = -(V : Int) * 10 := by unfold smallOf; rw [hft]; rfl
    have hft2 : 10 * V ≤ 9223372036854775808 := by unfold fits at hft; simp at hft; omega
    rw [hsm]
    clear h
    refine Cd.skip ?_
    refine Post.then_ ?_
    refine Cd.seq ?_
    refine Cd.region ?_
    refine Seq.val (Runs.move rfl rfl) rfl rfl rfl ?_
    refine Seq.val (Runs.move rfl rfl) rfl rfl rfl ?_
    refine Seq.val (Runs.subW rfl rfl rfl (wrapB (by omega) (by omega))) rfl rfl rfl ?_
    refine Seq.val (Runs.convI rfl rfl Try.underlying5 Try.underlying2 (wrapI (by omega) (by omega))) rfl rfl rfl ?_
    refine Seq.call (Enters.func rfl rfl rfl (run_enter Try.func165 (by kernel_rfl) rfl)) rfl rfl rfl (sub_num (-(V : Int) * 10) ((c : Int) - 48) _ (by unfold I64; omega) (by unfold I64; omega)) ?_
    rintro e w7 ⟨rfl, hb7⟩
    refine ⟨_, rfl, ?_⟩
    replace bel := bel.step hb7
    refine Seq.val (Runs.move rfl rfl) rfl rfl rfl ?_
    refine Seq.val (Runs.extract rfl rfl rfl) rfl rfl rfl ?_
    refine Seq.val (Runs.extract rfl rfl rfl) rfl rfl rfl ?_
    refine Seq.val (Runs.assign rfl rfl) rfl rfl rfl ?_
    refine Seq.val (Runs.assign rfl rfl) rfl rfl rfl ?_
    refine Seq.nil ?_
    refine Post.weak (F' := [(7, _), (11, _), (13, _), (14, _), (15, _), (60, _), (61, _), (62, _), (63, _), (68, _), (75, _)]) ⟨rfl, rfl, rfl, rfl, rfl, rfl, rfl, rfl, rfl, rfl, rfl, trivial⟩ ?_
    refine Post.then_ ?_
    refine Cd.seq ?_
    refine Cd.region ?_
    refine Seq.val (Runs.move rfl rfl) rfl rfl rfl ?_
    refine Seq.val (Runs.not rfl rfl) rfl rfl rfl ?_
    refine Seq.nil ?_
    refine Post.weak (F' := [(7, _), (11, _), (13, _), (14, _), (15, _), (60, _), (61, _), (62, _), (63, _), (68, _), (75, _), (85, _)]) ⟨rfl, rfl, rfl, rfl, rfl, rfl, rfl, rfl, rfl, rfl, rfl, rfl, trivial⟩ ?_
    refine Post.then_ ?_
    refine Cd.cond rfl (fun h => ?_) (fun h => ?_)
    · have hbg : 9223372036854775808 < 10 * V + (c - 48) := by
        unfold fits at h
        simp at h
        omega
      refine Cd.seq ?_
      refine Cd.region ?_
      refine Seq.val (Runs.assign rfl rfl) rfl rfl rfl ?_
      refine Seq.val (Runs.assign rfl rfl) rfl rfl rfl ?_
      refine Seq.nil ?_
      refine Post.weak (F' := [(4, _), (5, _), (7, _), (11, _), (13, _), (14, _), (15, _), (60, _), (61, _), (62, _), (63, _), (68, _), (75, _), (85, _)]) ⟨rfl, rfl, rfl, rfl, rfl, rfl, rfl, rfl, rfl, rfl, rfl, rfl, rfl, rfl, trivial⟩ ?_
      refine Post.then_ ?_
      refine Cd.ret ?_
      refine Post.block_ret ?_
      refine Post.then_ret ?_
      refine Post.round_ret ?_
      refine Post.block_ret ?_
      refine Post.then_ret ?_
      refine Post.end2 rfl rfl rfl (.inl rfl) ?_
      exact ⟨0, false, rfl, hno (hbig (by omega)), bel⟩
    have hft3 : fits (-(V : Int) * 10 + -((c : Int) - 48)) = true := by simpa using h
    have hsm2 : smallOf (-(V : Int) * 10 + -((c : Int) - 48)) = -(V : Int) * 10 + -((c : Int) - 48) := by unfold smallOf; rw [hft3]; rfl
    have hft4 : 10 * V + (c - 48) ≤ 9223372036854775808 := by unfold fits at hft3; simp at hft3; omega
    rw [hsm2]
    clear h
    refine Cd.skip ?_
    refine Post.block_normal ?_
    refine Post.then_ ?_
    refine Cd.region ?_
    refine Seq.val (Runs.addI rfl rfl rfl (by omega) (by omega)) rfl rfl rfl ?_
    refine Seq.val (Runs.move rfl rfl) rfl rfl rfl ?_
    refine Seq.nil ?_
    refine Post.weak (F' := [(7, _), (11, _), (13, _), (14, _), (15, _), (60, _), (61, _), (62, _), (63, _), (68, _), (75, _), (85, _)]) ⟨rfl, rfl, rfl, rfl, rfl, rfl, rfl, rfl, rfl, rfl, rfl, rfl, trivial⟩ ?_
    refine Post.round (k + 1) ⟨rfl, congrArg (fun x => some (Value.int .i64 x)) (show (-(V : Int) * 10 + -((c : Int) - 48)) = -((valD (M.take (k + 1)) : Nat) : Int) by omega), rfl, rfl, rfl, trivial⟩ ⟨by omega, ?_, by omega, bel, (bl60.step hb6).step hb7⟩ (by omega)
    intro x hx
    rw [htk] at hx
    rcases List.mem_append.1 hx with h | h
    · exact hdg x h
    · simp at h; subst h; exact hcd
  · obtain rfl : k = M.length := by omega
    rw [List.take_of_length_le (Nat.le_refl _)] at hdg hv ⊢
    replace hmk := fun x => hmk x hdg
    generalize valD M = V at *
    refine Cd.exit ?_
    refine Post.then_exit ?_
    refine Post.round_exit ?_
    refine Post.block_exit ?_
    refine Post.then_ ?_
    refine Cd.seq ?_
    refine Cd.seq ?_
    refine Cd.region ?_
    refine Seq.val (Runs.move rfl rfl) rfl rfl rfl ?_
    refine Seq.nil ?_
    refine Post.weak (F' := [(7, _), (11, _), (60, _), (61, _), (62, _), (63, _), (87, _)]) ⟨rfl, rfl, rfl, rfl, rfl, rfl, rfl, trivial⟩ ?_
    refine Post.then_ ?_
    refine Cd.condD rfl (fun h => ?_) (fun h => ?_)
    · skip
      refine Cd.seq ?_
      refine Cd.region ?_
      refine Seq.val (Runs.move rfl rfl) rfl rfl rfl ?_
      refine Seq.val (Runs.move rfl rfl) rfl rfl rfl ?_
      refine Seq.val (Runs.lss rfl rfl rfl) rfl rfl rfl ?_
      refine Seq.val (Runs.assign rfl rfl) rfl rfl rfl ?_
      refine Seq.val (Runs.assign rfl rfl) rfl rfl rfl ?_
      refine Seq.nil ?_
      refine Post.weak (F' := [(4, _), (5, _), (7, _), (11, _), (60, _), (61, _), (62, _), (63, _), (87, _)]) ⟨rfl, rfl, rfl, rfl, rfl, rfl, rfl, rfl, rfl, trivial⟩ ?_
      refine Post.then_ ?_
      refine Cd.ret ?_
      refine Post.then_ret ?_
      refine Post.end2 rfl rfl rfl (.inl rfl) ?_
      refine ⟨_, _, rfl, ⟨fun hb => ?_, fun hb => ?_⟩, bel⟩
      · have hb' : 0 < V := by simpa using hb
        refine ⟨by omega, by omega, by unfold I64; omega, _, _, hmk (-(V : Int)) (by omega) ⟨fun _ => h, fun _ => by omega⟩⟩
      · have hb' : V = 0 := by simp at hb; omega
        subst hb'
        refine ⟨rfl, fun _ _ y hy F' B' hf => ?_⟩
        obtain ⟨-, e2, e3⟩ := hfm y F' B' (by rwa [Int.toNat_natCast] at hf)
        have := e3.1 h
        omega
    · skip
      refine Cd.skip ?_
      refine Post.then_ ?_
      refine Cd.seq ?_
      refine Cd.region ?_
      refine Seq.val (Runs.move rfl rfl) rfl rfl rfl ?_
      refine Seq.call (Enters.func rfl rfl rfl (run_enter Try.func166 (by kernel_rfl) rfl)) rfl rfl rfl (neg_num (-(V : Int)) _ (by unfold I64; omega)) ?_
      rintro e w9 ⟨rfl, hb9⟩
      refine ⟨_, rfl, ?_⟩
      replace bel := bel.step hb9
      refine Seq.val (Runs.extract rfl rfl rfl) rfl rfl rfl ?_
      refine Seq.val (Runs.extract rfl rfl rfl) rfl rfl rfl ?_
      refine Seq.val (Runs.assign rfl rfl) rfl rfl rfl ?_
      refine Seq.val (Runs.assign rfl rfl) rfl rfl rfl ?_
      refine Seq.nil ?_
      refine Post.weak (F' := [(4, _), (5, _), (7, _), (11, _), (60, _), (61, _), (62, _), (63, _), (87, _)]) ⟨rfl, rfl, rfl, rfl, rfl, rfl, rfl, rfl, rfl, trivial⟩ ?_
      refine Post.then_ ?_
      refine Cd.ret ?_
      refine Post.end2 rfl rfl rfl (.inl rfl) ?_
      refine ⟨_, _, rfl, ⟨fun hb => ?_, fun hb => ?_⟩, bel⟩
      · have hsm : smallOf (-(-(V : Int))) = (V : Int) := by unfold smallOf; rw [hb, if_pos rfl, Int.neg_neg]
        rw [hsm]
        unfold fits at hb
        simp at hb
        refine ⟨by omega, by omega, by unfold I64; omega, _, _, hmk (V : Int) (by omega) ⟨fun h0 => by omega, fun h0 => absurd h0 h⟩⟩
      · have hsm : smallOf (-(-(V : Int))) = 0 := by unfold smallOf; rw [hb]; rfl
        refine ⟨hsm, fun _ _ y hy F' B' hf => ?_⟩
        obtain ⟨-, e2, e3⟩ := hfm y F' B' (by rwa [Int.toNat_natCast] at hf)
        have : ¬ y < 0 := fun h0 => h (e3.2 h0)
        unfold fits at hb
        simp at hb
        unfold I64 at hy
        omega
end Go.Proofs.Ytijaldpmpjapiaa

namespace Go.Proofs.Ytijaldpmpjapiaa

def letB (c : Nat) : Bool := (decide (97 ≤ c) && decide (c ≤ 122)) || (decide (65 ≤ c) && decide (c ≤ 90))
def digB (c : Nat) : Bool := decide (48 ≤ c) && decide (c ≤ 57)
def partB (c : Nat) : Bool := letB c || digB c || decide (c = 95)
/-- How many first bytes are so. -/
def runN (p : Nat → Bool) : List Nat → Nat
  | [] => 0
  | c :: l => if p c then runN p l + 1 else 0
theorem runN_le (p : Nat → Bool) : ∀ l, runN p l ≤ l.length
  | [] => Nat.le_refl _
  | c :: l => by
    unfold runN
    split
    · have := runN_le p l; simp; omega
    · simp
theorem runN_all (p : Nat → Bool) : ∀ (l : List Nat), ∀ c ∈ l.take (runN p l), p c = true
  | [], c, h => by simp at h
  | d :: l, c, h => by
    unfold runN at h
    split at h
    · rename_i hd
      rw [List.take_succ_cons] at h
      rcases List.mem_cons.1 h with rfl | h
      · exact hd
      · exact runN_all p l c h
    · simp at h
theorem runN_stop (p : Nat → Bool) : ∀ (l : List Nat) c, l[runN p l]? = some c → p c = false
  | [], c, h => by simp at h
  | d :: l, c, h => by
    unfold runN at h
    split at h
    · exact runN_stop p l c (by simpa using h)
    · rename_i hd
      simp at h
      subst h
      simpa using hd
def blankB (c : Nat) : Bool := decide (c = 32) || decide (c = 9) || decide (c = 10)
def noteB (c : Nat) : Bool := decide (c ≠ 10)
/-- How many first bytes are blanks and remarks; the second: within a remark. -/
def blankF : List Nat → Bool → Nat
  | [], _ => 0
  | c :: l, true => if c = 10 then blankF l false + 1 else blankF l true + 1
  | c :: l, false => if blankB c then blankF l false + 1 else if c = 35 then blankF l true + 1 else 0
def blankN (l : List Nat) : Nat := blankF l false
theorem blankF_le : ∀ l b, blankF l b ≤ l.length
  | [], _ => Nat.le_refl _
  | c :: l, true => by unfold blankF; have := blankF_le l true; have := blankF_le l false; split <;> simp <;> omega
  | c :: l, false => by unfold blankF; have := blankF_le l true; have := blankF_le l false; split; simp; omega; split <;> simp <;> omega
theorem blankF_t (c : Nat) (l : List Nat) : blankF (c :: l) true = if c = 10 then blankF l false + 1 else blankF l true + 1 := by rw [blankF]
theorem blankF_f (c : Nat) (l : List Nat) : blankF (c :: l) false = if blankB c then blankF l false + 1 else if c = 35 then blankF l true + 1 else 0 := by rw [blankF]
theorem runN_cons (p : Nat → Bool) (c : Nat) (l : List Nat) : runN p (c :: l) = if p c then runN p l + 1 else 0 := rfl
/-- A remark goes to the end of its line. -/
theorem blankF_note : ∀ l, blankF l true = runN noteB l + blankF (l.drop (runN noteB l)) false
  | [] => rfl
  | c :: l => by
    rw [blankF_t, runN_cons]
    by_cases hc : c = 10
    · subst hc
      have : noteB 10 = false := by decide
      rw [if_pos rfl, this, if_neg (by simp), List.drop_zero, blankF_f, if_pos (by decide)]
      omega
    · have : noteB c = true := by simp [noteB, hc]
      rw [if_neg hc, this, if_pos rfl, blankF_note l, List.drop_succ_cons]
      omega
theorem blankN_step (c : Nat) (r : List Nat) : blankN (c :: r) = if blankB c then blankN r + 1 else if c = 35 then runN noteB (c :: r) + blankN ((c :: r).drop (runN noteB (c :: r))) else 0 := by
  unfold blankN
  rw [blankF_f]
  split
  · rfl
  · split
    · rename_i hc
      subst hc
      have : noteB 35 = true := by decide
      rw [blankF_note, runN_cons, this, if_pos rfl, List.drop_succ_cons]
      omega
    · rfl
theorem blankN_le (l : List Nat) : blankN l ≤ l.length := blankF_le l false
end Go.Proofs.Ytijaldpmpjapiaa

namespace Go.Proofs.Ytijaldpmpjapiaa
open Go.RowKit

theorem letter_any (c : Nat) (w : World) : Calls Try.prog 26 #[.int .u8 (c : Int)] w fun e w' => e = .returned (.bool (letB c)) ∧ Grow w w' := by
  have bel := Below.refl w.heap.size w
  refine Calls.start 17 Try.func26 rfl rfl rfl ?_
  refine Cd.seq ?_
  refine Cd.region ?_
  refine Seq.val (Runs.assign rfl rfl) rfl rfl rfl ?_
  refine Seq.nil ?_
  refine Post.weak (F' := [(0, _), (2, _)]) ⟨rfl, rfl, trivial⟩ ?_
  refine Post.then_ ?_
  refine Cd.seq ?_
  refine Cd.region ?_
  refine Seq.val (Runs.move rfl rfl) rfl rfl rfl ?_
  refine Seq.val (Runs.geq rfl rfl rfl) rfl rfl rfl ?_
  refine Seq.val (Runs.move rfl rfl) rfl rfl rfl ?_
  refine SeqC.start ?_
  refine SeqC.open rfl rfl rfl rfl rfl rfl rfl (fun hcx => Runs.move rfl rfl) ?_
  refine SeqC.next rfl rfl rfl rfl rfl rfl rfl (fun hcx => Runs.leq rfl rfl rfl) ?_
  refine SeqC.and rfl rfl rfl rfl rfl rfl rfl ?_
  refine Seq.val (Runs.move rfl rfl) rfl rfl rfl ?_
  refine SeqC.start ?_
  refine SeqC.open rfl rfl rfl rfl rfl rfl rfl (fun hcx => Runs.move rfl rfl) ?_
  refine SeqC.next rfl rfl rfl rfl rfl rfl rfl (fun hcx => Runs.geq rfl rfl rfl) ?_
  refine SeqC.next rfl rfl rfl rfl rfl rfl rfl (fun hcx => Runs.move rfl rfl) ?_
  refine SeqC.open rfl rfl rfl rfl rfl rfl rfl (fun hcx => Runs.move rfl rfl) ?_
  refine SeqC.next rfl rfl rfl rfl rfl rfl rfl (fun hcx => Runs.leq rfl rfl rfl) ?_
  refine SeqC.andG rfl rfl rfl rfl rfl rfl rfl rfl rfl rfl rfl ?_
  refine SeqC.or rfl rfl rfl rfl rfl rfl rfl ?_
  refine Seq.val (Runs.assign rfl rfl) rfl rfl rfl ?_
  refine Seq.nil ?_
  refine Post.weak (F' := [(0, _), (2, _)]) ⟨rfl, rfl, trivial⟩ ?_
  refine Post.then_ ?_
  refine Cd.ret ?_
  refine Post.end1 rfl rfl (.inl rfl) ?_
  refine ⟨ret1 (bool_eq ?_), bel⟩
  unfold letB
  rw [Bool.eq_iff_iff]
  simp
  omega
theorem digitL_any (c : Nat) (w : World) : Calls Try.prog 89 #[.int .u8 (c : Int)] w fun e w' => e = .returned (.bool (digB c)) ∧ Grow w w' := by
  have bel := Below.refl w.heap.size w
  refine Calls.start 9 Try.func89 rfl rfl rfl ?_
  refine Cd.seq ?_
  refine Cd.region ?_
  refine Seq.val (Runs.assign rfl rfl) rfl rfl rfl ?_
  refine Seq.nil ?_
  refine Post.weak (F' := [(0, _), (2, _)]) ⟨rfl, rfl, trivial⟩ ?_
  refine Post.then_ ?_
  refine Cd.seq ?_
  refine Cd.region ?_
  refine Seq.val (Runs.move rfl rfl) rfl rfl rfl ?_
  refine Seq.val (Runs.geq rfl rfl rfl) rfl rfl rfl ?_
  refine Seq.val (Runs.move rfl rfl) rfl rfl rfl ?_
  refine SeqC.start ?_
  refine SeqC.open rfl rfl rfl rfl rfl rfl rfl (fun hcx => Runs.move rfl rfl) ?_
  refine SeqC.next rfl rfl rfl rfl rfl rfl rfl (fun hcx => Runs.leq rfl rfl rfl) ?_
  refine SeqC.and rfl rfl rfl rfl rfl rfl rfl ?_
  refine Seq.val (Runs.assign rfl rfl) rfl rfl rfl ?_
  refine Seq.nil ?_
  refine Post.weak (F' := [(0, _), (2, _)]) ⟨rfl, rfl, trivial⟩ ?_
  refine Post.then_ ?_
  refine Cd.ret ?_
  refine Post.end1 rfl rfl (.inl rfl) ?_
  refine ⟨ret1 (bool_eq ?_), bel⟩
  unfold digB
  rw [Bool.eq_iff_iff]
  simp
  omega
theorem part_any (c : Nat) (w : World) : Calls Try.prog 57 #[.int .u8 (c : Int)] w fun e w' => e = .returned (.bool (partB c)) ∧ Grow w w' := by
  have bel := Below.refl w.heap.size w
  refine Calls.start 13 Try.func57 rfl rfl rfl ?_
  refine Cd.seq ?_
  refine Cd.region ?_
  refine Seq.val (Runs.assign rfl rfl) rfl rfl rfl ?_
  refine Seq.nil ?_
  refine Post.weak (F' := [(0, _), (2, _)]) ⟨rfl, rfl, trivial⟩ ?_
  refine Post.then_ ?_
  refine Cd.seq ?_
  refine Cd.region ?_
  refine Seq.val (Runs.move rfl rfl) rfl rfl rfl ?_
  refine Seq.call (Enters.func rfl rfl rfl (run_enter Try.func26 (by kernel_rfl) rfl)) rfl rfl rfl (letter_any c _) ?_
  rintro e w2 ⟨rfl, hb2⟩
  refine ⟨_, rfl, ?_⟩
  replace bel := bel.step hb2
  refine Seq.val (Runs.move rfl rfl) rfl rfl rfl ?_
  refine SeqC.start ?_
  refine SeqC.open rfl rfl rfl rfl rfl rfl rfl (fun hcx => Runs.move rfl rfl) ?_
  refine SeqC.nextC rfl rfl rfl rfl rfl rfl rfl (fun hcx => Enters.func rfl rfl rfl (run_enter Try.func89 (by kernel_rfl) rfl)) (fun hcx => digitL_any c _) ?_
  intro w1 hw1
  replace bel := bel.step hw1
  refine SeqC.or rfl rfl rfl rfl rfl rfl rfl ?_
  refine Seq.val (Runs.move rfl rfl) rfl rfl rfl ?_
  refine SeqC.start ?_
  refine SeqC.open rfl rfl rfl rfl rfl rfl rfl (fun hcx => Runs.move rfl rfl) ?_
  refine SeqC.next rfl rfl rfl rfl rfl rfl rfl (fun hcx => Runs.eqlI rfl rfl rfl) ?_
  refine SeqC.or rfl rfl rfl rfl rfl rfl rfl ?_
  refine Seq.val (Runs.assign rfl rfl) rfl rfl rfl ?_
  refine Seq.nil ?_
  refine Post.weak (F' := [(0, _), (2, _)]) ⟨rfl, rfl, trivial⟩ ?_
  refine Post.then_ ?_
  refine Cd.ret ?_
  refine Post.end1 rfl rfl (.inl rfl) ?_
  refine ⟨ret1 (bool_eq ?_), bel⟩
  unfold partB
  rw [show decide ((c : Int) = 95) = decide (c = 95) from decide_eq_decide.2 (by omega)]
theorem note_any (c : Nat) (w : World) : Calls Try.prog 88 #[.int .u8 (c : Int)] w fun e w' => e = .returned (.bool (noteB c)) ∧ Grow w w' := by
  have bel := Below.refl w.heap.size w
  refine Calls.start 5 Try.func88 rfl rfl rfl ?_
  refine Cd.seq ?_
  refine Cd.region ?_
  refine Seq.val (Runs.assign rfl rfl) rfl rfl rfl ?_
  refine Seq.nil ?_
  refine Post.weak (F' := [(0, _), (2, _)]) ⟨rfl, rfl, trivial⟩ ?_
  refine Post.then_ ?_
  refine Cd.seq ?_
  refine Cd.region ?_
  refine Seq.val (Runs.move rfl rfl) rfl rfl rfl ?_
  refine Seq.val (Runs.neqI rfl rfl rfl) rfl rfl rfl ?_
  refine Seq.val (Runs.assign rfl rfl) rfl rfl rfl ?_
  refine Seq.nil ?_
  refine Post.weak (F' := [(0, _), (2, _)]) ⟨rfl, rfl, trivial⟩ ?_
  refine Post.then_ ?_
  refine Cd.ret ?_
  refine Post.end1 rfl rfl (.inl rfl) ?_
  refine ⟨ret1 (bool_eq ?_), bel⟩
  unfold noteB
  exact decide_eq_decide.2 (by omega)
theorem runN_upto (p : Nat → Bool) (l : List Nat) (k : Nat) (h : k ≤ runN p l) (c : Nat) (hc : l[k]? = some c) : (p c = true ↔ k < runN p l) := by
  constructor
  · intro hp
    rcases Nat.lt_or_ge k (runN p l) with h1 | h1
    · exact h1
    · obtain rfl : k = runN p l := by omega
      rw [runN_stop p l c hc] at hp; cases hp
  · intro h1
    refine runN_all p l c ?_
    refine List.mem_of_getElem? (i := k) ?_
    rw [List.getElem?_take_of_lt h1]; exact hc
theorem run_any (f : FuncId) (p : Nat → Bool) (eg : ∀ args w, (callFunc f args).run Try.prog w = .ok (.enter f args) w) (hp : ∀ (c : Nat) w, Calls Try.prog f #[.int .u8 (c : Int)] w fun e w' => e = .returned (.bool (p c)) ∧ Grow w w')
    (l : List Nat) (w : World) (hl : ∀ x ∈ l, x < 256) (hlen : l.length ≤ 9223372036854775807) :
    Calls Try.prog 56 #[.string (strOf l), .func (.func f) #[] #[]] w fun e w' => e = .returned (.int .i64 (runN p l : Int)) ∧ Grow w w' := by
  have bel := Below.refl w.heap.size w
  have hle := runN_le p l
  refine Calls.start 20 Try.func56 rfl rfl rfl ?_
  refine Cd.seq ?_
  refine Cd.region ?_
  refine Seq.val (Runs.assign rfl rfl) rfl rfl rfl ?_
  refine Seq.nil ?_
  refine Post.weak (F' := [(0, _), (1, _), (4, _)]) ⟨rfl, rfl, rfl, trivial⟩ ?_
  refine Post.then_ ?_
  refine Cd.seq ?_
  refine Cd.region ?_
  refine Seq.val (Runs.assign rfl rfl) rfl rfl rfl ?_
  refine Seq.nil ?_
  refine Post.weak (F' := [(0, _), (1, _), (4, _), (5, _)]) ⟨rfl, rfl, rfl, rfl, trivial⟩ ?_
  refine Post.then_ ?_
  refine Cd.seq ?_
  refine Cd.block ?_
  refine Cd.loop (σ := Nat) (fun k => [(0, .string (strOf l)), (1, .func (.func f) #[] #[]), (5, .int .i64 (k : Int))]) (fun k wr => k ≤ runN p l ∧ Below w.heap.size w wr) (fun k => runN p l - k) 0 ⟨Nat.zero_le _, bel⟩ ⟨rfl, rfl, rfl, trivial⟩ ?_
  clear bel
  rintro k wr ⟨hk, bel⟩
  refine Cd.seq ?_
  refine Cd.seq ?_
  refine Cd.region ?_
  refine Seq.val (Runs.move rfl rfl) rfl rfl rfl ?_
  refine Seq.val (Runs.move rfl rfl) rfl rfl rfl ?_
  refine Seq.val (Runs.lenL rfl rfl Try.underlying9) rfl rfl rfl ?_
  by_cases hi : k < l.length
  · obtain ⟨c, hc⟩ : ∃ c, l[k]? = some c := ⟨_, List.getElem?_eq_getElem hi⟩
    have hc256 := hl c (List.mem_of_getElem? hc)
    have hup := runN_upto p l k hk c hc
    refine Seq.val ((Runs.lss rfl rfl rfl).isT ((by omega))) rfl rfl rfl ?_
    refine Seq.val (Runs.move rfl rfl) rfl rfl rfl ?_
    refine Seq.valG (Runs.move rfl rfl) rfl rfl rfl rfl rfl ?_
    refine Seq.valG (Runs.move rfl rfl) rfl rfl rfl rfl rfl ?_
    refine Seq.valG (Runs.move rfl rfl) rfl rfl rfl rfl rfl ?_
    refine Seq.valG (Runs.indexL (l := l) (j := k) rfl rfl rfl Try.underlying9 rfl hc hc256) rfl rfl rfl rfl rfl ?_
    refine Seq.callG (Enters.value (first := []) (cap := []) rfl rfl rfl eg) rfl rfl rfl rfl rfl (hp c _) ?_
    rintro e w3 ⟨rfl, hb3⟩
    refine ⟨_, rfl, ?_⟩
    replace bel := bel.step hb3
    refine Seq.val (Runs.pickT rfl rfl rfl) rfl rfl rfl ?_
    refine Seq.nil ?_
    refine Post.weak (F' := [(0, _), (1, _), (5, _), (16, _)]) ⟨rfl, rfl, rfl, rfl, trivial⟩ ?_
    refine Post.then_ ?_
    refine Cd.cond rfl (fun h => ?_) (fun h => ?_)
    · have hlt := hup.1 h
      refine Cd.skip ?_
      refine Post.then_ ?_
      refine Cd.block ?_
      refine Cd.region ?_
      refine Seq.val (Runs.move rfl rfl) rfl rfl rfl ?_
      refine Seq.val (Runs.addI rfl rfl rfl (by omega) (by omega)) rfl rfl rfl ?_
      refine Seq.val (Runs.assign rfl rfl) rfl rfl rfl ?_
      refine Seq.nil ?_
      refine Post.weak (F' := [(0, _), (1, _), (5, _), (16, _)]) ⟨rfl, rfl, rfl, rfl, trivial⟩ ?_
      refine Post.block_normal ?_
      exact Post.round (k + 1) ⟨rfl, rfl, rfl, trivial⟩ ⟨by omega, bel⟩ (by omega)
    · have hk2 : runN p l = k := by
        rcases Nat.lt_or_ge k (runN p l) with h1 | h1
        · have := hup.2 h1
          rw [h] at this; cases this
        · omega
      rw [hk2]
      refine Cd.exit ?_
      refine Post.then_exit ?_
      refine Post.round_exit ?_
      refine Post.block_exit ?_
      refine Post.then_ ?_
      refine Cd.seq ?_
      refine Cd.region ?_
      refine Seq.val (Runs.move rfl rfl) rfl rfl rfl ?_
      refine Seq.val (Runs.assign rfl rfl) rfl rfl rfl ?_
      refine Seq.nil ?_
      refine Post.weak (F' := [(0, _), (1, _), (4, _), (5, _), (16, _)]) ⟨rfl, rfl, rfl, rfl, rfl, trivial⟩ ?_
      refine Post.then_ ?_
      refine Cd.ret ?_
      refine Post.end1 rfl rfl (.inl rfl) ?_
      exact ⟨rfl, bel⟩
  · have hk2 : runN p l = k := by omega
    rw [hk2]
    refine Seq.val ((Runs.lss rfl rfl rfl).isF ((by omega))) rfl rfl rfl ?_
    refine Seq.val (Runs.move rfl rfl) rfl rfl rfl ?_
    refine Seq.skipG rfl rfl rfl rfl rfl rfl ?_
    refine Seq.skipG rfl rfl rfl rfl rfl rfl ?_
    refine Seq.skipG rfl rfl rfl rfl rfl rfl ?_
    refine Seq.skipG rfl rfl rfl rfl rfl rfl ?_
    refine Seq.skipG rfl rfl rfl rfl rfl rfl ?_
    refine Seq.val (Runs.pickF rfl rfl rfl) rfl rfl rfl ?_
    refine Seq.nil ?_
    refine Post.weak (F' := [(0, _), (1, _), (5, _), (16, _)]) ⟨rfl, rfl, rfl, rfl, trivial⟩ ?_
    refine Post.then_ ?_
    refine Cd.condF rfl rfl ?_
    refine Cd.exit ?_
    refine Post.then_exit ?_
    refine Post.round_exit ?_
    refine Post.block_exit ?_
    refine Post.then_ ?_
    refine Cd.seq ?_
    refine Cd.region ?_
    refine Seq.val (Runs.move rfl rfl) rfl rfl rfl ?_
    refine Seq.val (Runs.assign rfl rfl) rfl rfl rfl ?_
    refine Seq.nil ?_
    refine Post.weak (F' := [(0, _), (1, _), (4, _), (5, _), (16, _)]) ⟨rfl, rfl, rfl, rfl, rfl, trivial⟩ ?_
    refine Post.then_ ?_
    refine Cd.ret ?_
    refine Post.end1 rfl rfl (.inl rfl) ?_
    exact ⟨rfl, bel⟩
theorem eg_part : ∀ args w, (callFunc 57 args).run Try.prog w = .ok (.enter 57 args) w := fun args w => run_enter Try.func57 (by kernel_rfl) rfl args w
theorem eg_note : ∀ args w, (callFunc 88 args).run Try.prog w = .ok (.enter 88 args) w := fun args w => run_enter Try.func88 (by kernel_rfl) rfl args w
theorem run_part (l : List Nat) (w : World) (hl : ∀ x ∈ l, x < 256) (hlen : l.length ≤ 9223372036854775807) :
    Calls Try.prog 56 #[.string (strOf l), .func (.func 57) #[] #[]] w fun e w' => e = .returned (.int .i64 (runN partB l : Int)) ∧ Grow w w' :=
  run_any _ partB eg_part part_any l w hl hlen
theorem run_note (l : List Nat) (w : World) (hl : ∀ x ∈ l, x < 256) (hlen : l.length ≤ 9223372036854775807) :
    Calls Try.prog 56 #[.string (strOf l), .func (.func 88) #[] #[]] w fun e w' => e = .returned (.int .i64 (runN noteB l : Int)) ∧ Grow w w' :=
  run_any _ noteB eg_note note_any l w hl hlen
end Go.Proofs.Ytijaldpmpjapiaa

namespace Go.Proofs.Ytijaldpmpjapiaa
open Go.RowKit

theorem drop_at {l : List Nat} {k c : Nat} (h : l[k]? = some c) : l.drop k = c :: l.drop (k + 1) := by
  obtain ⟨hk, rfl⟩ := List.getElem?_eq_some_iff.1 h
  exact List.drop_eq_getElem_cons hk
theorem drop_lt {l : List Nat} (hl : ∀ x ∈ l, x < 256) (k : Nat) : ∀ x ∈ l.drop k, x < 256 := fun x hx => hl x (List.mem_of_mem_drop hx)
theorem take_lt {l : List Nat} (hl : ∀ x ∈ l, x < 256) (k : Nat) : ∀ x ∈ l.take k, x < 256 := fun x hx => hl x (List.mem_of_mem_take hx)
theorem blank_any (l : List Nat) (w : World) (hl : ∀ x ∈ l, x < 256) (hlen : l.length ≤ 9223372036854775807) :
    Calls Try.prog 50 #[.string (strOf l)] w fun e w' => e = .returned (.int .i64 (blankN l : Int)) ∧ Grow w w' := by
  have bel := Below.refl w.heap.size w
  refine Calls.start 27 Try.func50 rfl rfl rfl ?_
  refine Cd.seq ?_
  refine Cd.region ?_
  refine Seq.val (Runs.assign rfl rfl) rfl rfl rfl ?_
  refine Seq.nil ?_
  refine Post.weak (F' := [(0, _), (2, _)]) ⟨rfl, rfl, trivial⟩ ?_
  refine Post.then_ ?_
  refine Cd.seq ?_
  refine Cd.region ?_
  refine Seq.val (Runs.assign rfl rfl) rfl rfl rfl ?_
  refine Seq.nil ?_
  refine Post.weak (F' := [(0, _), (2, _), (3, _)]) ⟨rfl, rfl, rfl, trivial⟩ ?_
  refine Post.then_ ?_
  refine Cd.seq ?_
  refine Cd.block ?_
  refine Cd.loop (σ := Nat) (fun k => [(0, .string (strOf l)), (3, .int .i64 (k : Int))]) (fun k wr => k ≤ l.length ∧ blankN l = k + blankN (l.drop k) ∧ Below w.heap.size w wr) (fun k => l.length - k) 0 ⟨Nat.zero_le _, by simp, bel⟩ ⟨rfl, rfl, trivial⟩ ?_
  clear bel
  rintro k wr ⟨hk, hbl, bel⟩
  refine Cd.seq ?_
  refine Cd.seq ?_
  refine Cd.region ?_
  refine Seq.val (Runs.move rfl rfl) rfl rfl rfl ?_
  refine Seq.val (Runs.move rfl rfl) rfl rfl rfl ?_
  refine Seq.val (Runs.lenL rfl rfl Try.underlying9) rfl rfl rfl ?_
  refine Seq.val (Runs.lss rfl rfl rfl) rfl rfl rfl ?_
  refine Seq.nil ?_
  refine Post.weak (F' := [(0, _), (3, _), (7, _)]) ⟨rfl, rfl, rfl, trivial⟩ ?_
  refine Post.then_ ?_
  refine Cd.condD rfl (fun hc => ?_) (fun hc => ?_)
  · obtain ⟨c, hcc⟩ : ∃ c, l[k]? = some c := ⟨_, List.getElem?_eq_getElem (show k < l.length by omega)⟩
    have hc256 := hl c (List.mem_of_getElem? hcc)
    have hdr := drop_at hcc
    have hst := blankN_step c (l.drop (k + 1))
    rw [← hdr] at hst
    refine Cd.skip ?_
    refine Post.then_ ?_
    refine Cd.block ?_
    refine Cd.seq ?_
    refine Cd.region ?_
    refine Seq.val (Runs.move rfl rfl) rfl rfl rfl ?_
    refine Seq.val (Runs.move rfl rfl) rfl rfl rfl ?_
    refine Seq.val (Runs.indexL (l := l) (j := k) rfl rfl rfl Try.underlying9 rfl hcc hc256) rfl rfl rfl ?_
    refine Seq.nil ?_
    refine Post.weak (F' := [(0, _), (3, _), (7, _), (10, _)]) ⟨rfl, rfl, rfl, rfl, trivial⟩ ?_
    refine Post.then_ ?_
    refine Cd.block ?_
    refine Cd.seqJ (σ := Unit) (fun _ => [(0, .string (strOf l)), (3, .int .i64 (k : Int)), (10, .int .u8 (c : Int)), (12, .bool (blankB c))]) (fun _ wr => Below w.heap.size w wr) ?_ ?_
    · skip
      refine Cd.seq ?_
      refine Cd.region ?_
      refine Seq.val (Runs.eqlI rfl rfl rfl) rfl rfl rfl ?_
      refine Seq.val (Runs.assign rfl rfl) rfl rfl rfl ?_
      refine Seq.nil ?_
      refine Post.weak (F' := [(0, _), (3, _), (7, _), (10, _), (12, _)]) ⟨rfl, rfl, rfl, rfl, rfl, trivial⟩ ?_
      refine Post.then_ ?_
      refine Cd.condD rfl (fun h => ?_) (fun h => ?_)
      · skip
        refine Cd.skip ?_
        exact Post.join () ⟨rfl, rfl, rfl, congrArg (fun z => some (Value.bool z)) (by unfold blankB; rw [decide_eq_true h, decide_eq_true (show c = 32 by omega)]; rfl), trivial⟩ bel
      · skip
        refine Cd.seq ?_
        refine Cd.region ?_
        refine Seq.val (Runs.eqlI rfl rfl rfl) rfl rfl rfl ?_
        refine Seq.val (Runs.assign rfl rfl) rfl rfl rfl ?_
        refine Seq.nil ?_
        refine Post.weak (F' := [(0, _), (3, _), (7, _), (10, _), (12, _)]) ⟨rfl, rfl, rfl, rfl, rfl, trivial⟩ ?_
        refine Post.then_ ?_
        refine Cd.condD rfl (fun h2 => ?_) (fun h2 => ?_)
        · skip
          refine Cd.skip ?_
          exact Post.join () ⟨rfl, rfl, rfl, congrArg (fun z => some (Value.bool z)) (by unfold blankB; rw [decide_eq_true h2, decide_eq_true (show c = 9 by omega)]; simp), trivial⟩ bel
        · skip
          refine Cd.region ?_
          refine Seq.val (Runs.eqlI rfl rfl rfl) rfl rfl rfl ?_
          refine Seq.val (Runs.assign rfl rfl) rfl rfl rfl ?_
          refine Seq.nil ?_
          refine Post.weak (F' := [(0, _), (3, _), (7, _), (10, _), (12, _)]) ⟨rfl, rfl, rfl, rfl, rfl, trivial⟩ ?_
          exact Post.join () ⟨rfl, rfl, rfl, congrArg (fun z => some (Value.bool z)) (by unfold blankB; rw [decide_eq_false (show ¬ c = 32 by omega), decide_eq_false (show ¬ c = 9 by omega)]; exact decide_eq_decide.2 (by omega)), trivial⟩ bel
    clear bel
    rintro ⟨⟩ wr bel
    refine Cd.cond rfl (fun h => ?_) (fun h => ?_)
    · rw [h, if_pos rfl] at hst
      refine Cd.region ?_
      refine Seq.val (Runs.move rfl rfl) rfl rfl rfl ?_
      refine Seq.val (Runs.addI rfl rfl rfl (by omega) (by omega)) rfl rfl rfl ?_
      refine Seq.val (Runs.assign rfl rfl) rfl rfl rfl ?_
      refine Seq.nil ?_
      refine Post.weak (F' := [(0, _), (3, _), (10, _), (12, _)]) ⟨rfl, rfl, rfl, rfl, trivial⟩ ?_
      refine Post.block_normal ?_
      refine Post.block_normal ?_
      exact Post.round (k + 1) ⟨rfl, rfl, trivial⟩ ⟨by omega, by omega, bel⟩ (by omega)
    · rw [h, if_neg (by simp)] at hst
      refine Cd.seq ?_
      refine Cd.region ?_
      refine Seq.val (Runs.eqlI rfl rfl rfl) rfl rfl rfl ?_
      refine Seq.val (Runs.assign rfl rfl) rfl rfl rfl ?_
      refine Seq.nil ?_
      refine Post.weak (F' := [(0, _), (3, _), (10, _), (12, _), (18, _)]) ⟨rfl, rfl, rfl, rfl, rfl, trivial⟩ ?_
      refine Post.then_ ?_
      refine Cd.condD rfl (fun h2 => ?_) (fun h2 => ?_)
      · rw [if_pos (by omega)] at hst
        have hr1 : 1 ≤ runN noteB (l.drop k) := by
          rw [hdr, runN_cons, show c = 35 by omega, if_pos (by decide)]
          omega
        have hr2 := runN_le noteB (l.drop k)
        rw [List.length_drop] at hr2
        rw [List.drop_drop] at hst
        refine Cd.region ?_
        refine Seq.val (Runs.move rfl rfl) rfl rfl rfl ?_
        refine Seq.val (Runs.move rfl rfl) rfl rfl rfl ?_
        refine Seq.val (Runs.move rfl rfl) rfl rfl rfl ?_
        refine Seq.val (Runs.sliceFrom (j := k) rfl rfl rfl Try.underlying9 rfl hk) rfl rfl rfl ?_
        refine Seq.call (Enters.func rfl rfl rfl (run_enter Try.func56 (by kernel_rfl) rfl)) rfl rfl rfl (run_note (l.drop k) _ (drop_lt hl k) (by rw [List.length_drop]; omega)) ?_
        rintro e w7 ⟨rfl, hb7⟩
        refine ⟨_, rfl, ?_⟩
        replace bel := bel.step hb7
        generalize runN noteB (l.drop k) = r at *
        refine Seq.val (Runs.addI rfl rfl rfl (by omega) (by omega)) rfl rfl rfl ?_
        refine Seq.val (Runs.assign rfl rfl) rfl rfl rfl ?_
        refine Seq.nil ?_
        refine Post.weak (F' := [(0, _), (3, _), (10, _), (12, _), (18, _)]) ⟨rfl, rfl, rfl, rfl, rfl, trivial⟩ ?_
        refine Post.block_normal ?_
        refine Post.block_normal ?_
        exact Post.round (k + r) ⟨rfl, rfl, trivial⟩ ⟨by omega, by omega, bel⟩ (by omega)
      · rw [if_neg (by omega)] at hst
        have hbk : blankN l = k := by omega
        rw [hbk]
        refine Cd.seq ?_
        refine Cd.region ?_
        refine Seq.val (Runs.move rfl rfl) rfl rfl rfl ?_
        refine Seq.val (Runs.assign rfl rfl) rfl rfl rfl ?_
        refine Seq.nil ?_
        refine Post.weak (F' := [(0, _), (2, _), (3, _), (10, _), (12, _), (18, _)]) ⟨rfl, rfl, rfl, rfl, rfl, rfl, trivial⟩ ?_
        refine Post.then_ ?_
        refine Cd.ret ?_
        refine Post.block_ret ?_
        refine Post.block_ret ?_
        refine Post.round_ret ?_
        refine Post.block_ret ?_
        refine Post.then_ret ?_
        refine Post.end1 rfl rfl (.inl rfl) ?_
        exact ⟨rfl, bel⟩
  · have hbk : blankN l = k := by
      have : l.drop k = [] := List.drop_eq_nil_of_le (by omega)
      rw [this] at hbl
      simpa [blankN, blankF] using hbl
    rw [hbk]
    refine Cd.exit ?_
    refine Post.then_exit ?_
    refine Post.round_exit ?_
    refine Post.block_exit ?_
    refine Post.then_ ?_
    refine Cd.seq ?_
    refine Cd.region ?_
    refine Seq.val (Runs.move rfl rfl) rfl rfl rfl ?_
    refine Seq.val (Runs.assign rfl rfl) rfl rfl rfl ?_
    refine Seq.nil ?_
    refine Post.weak (F' := [(0, _), (2, _), (3, _), (7, _)]) ⟨rfl, rfl, rfl, rfl, trivial⟩ ?_
    refine Post.then_ ?_
    refine Cd.ret ?_
    refine Post.end1 rfl rfl (.inl rfl) ?_
    exact ⟨rfl, bel⟩
/-- Is a text a name? -/
def namedB (l : List Nat) : Bool := decide (l ≠ []) && decide (l.length ≤ 16) && letB (l.getD 0 0) && decide (runN partB l = l.length)
theorem named_any (l : List Nat) (w : World) (hl : ∀ x ∈ l, x < 256) (hlen : l.length ≤ 9223372036854775807) :
    Calls Try.prog 24 #[.string (strOf l)] w fun e w' => e = .returned (.bool (namedB l)) ∧ Grow w w' := by
  have bel := Below.refl w.heap.size w
  have h0 : l ≠ [] → l[0]? = some (l.getD 0 0) := by
    intro h
    cases l with
    | nil => exact absurd rfl h
    | cons c l => rfl
  have h1 : l.getD 0 0 < 256 := by
    cases l with
    | nil => simp
    | cons c l => exact hl c (by simp)
  unfold namedB
  generalize l.getD 0 0 = c0 at *
  refine Calls.start 22 Try.func24 rfl rfl rfl ?_
  refine Cd.seq ?_
  refine Cd.region ?_
  refine Seq.val (Runs.assign rfl rfl) rfl rfl rfl ?_
  refine Seq.nil ?_
  refine Post.weak (F' := [(0, _), (2, _)]) ⟨rfl, rfl, trivial⟩ ?_
  refine Post.then_ ?_
  refine Cd.seq ?_
  refine Cd.region ?_
  refine Seq.val (Runs.move rfl rfl) rfl rfl rfl ?_
  refine Seq.val (Runs.neqL (a := l) (b := []) rfl rfl rfl hl (fun x hx => by simp at hx)) rfl rfl rfl ?_
  refine Seq.val (Runs.move rfl rfl) rfl rfl rfl ?_
  refine SeqC.start ?_
  refine SeqC.open rfl rfl rfl rfl rfl rfl rfl (fun hcx => Runs.move rfl rfl) ?_
  refine SeqC.next rfl rfl rfl rfl rfl rfl rfl (fun hcx => Runs.lenL rfl rfl Try.underlying9) ?_
  refine SeqC.next rfl rfl rfl rfl rfl rfl rfl (fun hcx => Runs.leq rfl rfl rfl) ?_
  refine SeqC.and rfl rfl rfl rfl rfl rfl rfl ?_
  refine Seq.val (Runs.move rfl rfl) rfl rfl rfl ?_
  refine SeqC.start ?_
  refine SeqC.open rfl rfl rfl rfl rfl rfl rfl (fun hcx => Runs.move rfl rfl) ?_
  refine SeqC.next rfl rfl rfl rfl rfl rfl rfl (fun hcx => Runs.indexL (l := l) (j := 0) (c := c0) rfl rfl rfl Try.underlying9 rfl (h0 (by simp [topX] at hcx; exact hcx.1)) h1) ?_
  refine SeqC.nextC rfl rfl rfl rfl rfl rfl rfl (fun hcx => Enters.func rfl rfl rfl (run_enter Try.func26 (by kernel_rfl) rfl)) (fun hcx => letter_any _ _) ?_
  intro w1 hw1
  replace bel := bel.step hw1
  refine SeqC.and rfl rfl rfl rfl rfl rfl rfl ?_
  refine Seq.val (Runs.move rfl rfl) rfl rfl rfl ?_
  refine SeqC.start ?_
  refine SeqC.open rfl rfl rfl rfl rfl rfl rfl (fun hcx => Runs.move rfl rfl) ?_
  refine SeqC.nextC rfl rfl rfl rfl rfl rfl rfl (fun hcx => Enters.func rfl rfl rfl (run_enter Try.func56 (by kernel_rfl) rfl)) (fun hcx => run_part l _ hl hlen) ?_
  intro w2 hw2
  replace bel := bel.step hw2
  refine SeqC.next rfl rfl rfl rfl rfl rfl rfl (fun hcx => Runs.move rfl rfl) ?_
  refine SeqC.next rfl rfl rfl rfl rfl rfl rfl (fun hcx => Runs.lenL rfl rfl Try.underlying9) ?_
  refine SeqC.next rfl rfl rfl rfl rfl rfl rfl (fun hcx => Runs.eqlI rfl rfl rfl) ?_
  refine SeqC.and rfl rfl rfl rfl rfl rfl rfl ?_
  refine Seq.val (Runs.assign rfl rfl) rfl rfl rfl ?_
  refine Seq.nil ?_
  refine Post.weak (F' := [(0, _), (2, _)]) ⟨rfl, rfl, trivial⟩ ?_
  refine Post.then_ ?_
  refine Cd.ret ?_
  refine Post.end1 rfl rfl (.inl rfl) ?_
  refine ⟨ret1 (bool_eq ?_), bel⟩
  rw [Bool.eq_iff_iff]
  simp
  constructor
  · rintro ⟨⟨⟨a, b⟩, c⟩, d⟩
    exact ⟨⟨⟨a, by omega⟩, c⟩, by omega⟩
  · rintro ⟨⟨⟨a, b⟩, c⟩, d⟩
    exact ⟨⟨⟨a, by omega⟩, c⟩, by omega⟩
end Go.Proofs.Ytijaldpmpjapiaa

namespace Go.Proofs.Ytijaldpmpjapiaa
open Go.RowKit

section
variable {P : Program} {E : Operand → Option Value} {o : Oper} {w : World} {x : Operand} {T : TypeId}
/-- A struct, by its cells. -/
theorem Runs.loadF {ad : Addr} {m : Nat} {ps : List Value} {d : TypeDesc} (ho : o.op = .load T x) (hx : E x = some (.pointer (some ad))) (hT : P.underlying T = some d) (hd : (match d with | .struct _ | .array _ _ => true | _ => false) = true) (hs : sizeIs P T m = true) (hm : ps.length = m) (hc : ∀ (j : Nat) (v : Value), ps[j]? = some v → w.cell? (ad.add j) = some v) : Runs P E o w (.agg ps.toArray) w := by
  obtain ⟨i, hi, hsz⟩ := sizeIs_spec hs
  exact .loadN (cs := ps) ho hx hT hd hi (by omega) hc
end
/-- An expression. -/
inductive Ex where
  | mk (op n : Int) (name : List Nat) (args : List Ex)
def Ex.op : Ex → Int | .mk op _ _ _ => op
def Ex.n : Ex → Int | .mk _ n _ _ => n
def Ex.name : Ex → List Nat | .mk _ _ nm _ => nm
def Ex.args : Ex → List Ex | .mk _ _ _ l => l
mutual
def Ex.nodes : Ex → Nat
  | .mk _ _ _ l => 1 + nodesL l
def nodesL : List Ex → Nat
  | [] => 0
  | e :: r => e.nodes + nodesL r
end
mutual
def Ex.depth : Ex → Nat
  | .mk _ _ _ l => 1 + depthL l
def depthL : List Ex → Nat
  | [] => 0
  | e :: r => max e.depth (depthL r)
end
theorem Ex.nodes_mk (op n : Int) (nm : List Nat) (l : List Ex) : (Ex.mk op n nm l).nodes = 1 + nodesL l := by rw [Ex.nodes]
theorem Ex.depth_mk (op n : Int) (nm : List Nat) (l : List Ex) : (Ex.mk op n nm l).depth = 1 + depthL l := by rw [Ex.depth]
theorem nodesL_mem {l : List Ex} {e : Ex} (h : e ∈ l) : e.nodes ≤ nodesL l := by
  induction l with
  | nil => cases h
  | cons x r ih =>
    unfold nodesL
    rcases List.mem_cons.1 h with rfl | h
    · omega
    · have := ih h; omega
theorem Ex.arg_nodes {e x : Ex} (h : x ∈ e.args) : x.nodes < e.nodes := by
  cases e with
  | mk op n nm l =>
    have := nodesL_mem (l := l) h
    rw [Ex.nodes_mk]
    omega
theorem Ex.nodes_pos (e : Ex) : 0 < e.nodes := by cases e; unfold Ex.nodes; omega
theorem depthL_mem {l : List Ex} {e : Ex} (h : e ∈ l) : e.depth ≤ depthL l := by
  induction l with
  | nil => cases h
  | cons x r ih =>
    unfold depthL
    rcases List.mem_cons.1 h with rfl | h
    · omega
    · have := ih h; omega
theorem Ex.arg_depth {e x : Ex} (h : x ∈ e.args) : x.depth < e.depth := by
  cases e with
  | mk op n nm l =>
    have := depthL_mem (l := l) h
    rw [Ex.depth_mk]
    omega
mutual
theorem Ex.depth_nodes : ∀ e : Ex, e.depth ≤ e.nodes
  | .mk _ _ _ l => by unfold Ex.depth Ex.nodes; have := depthL_nodesL l; omega
theorem depthL_nodesL : ∀ l : List Ex, depthL l ≤ nodesL l
  | [] => Nat.le_refl _
  | e :: r => by unfold depthL nodesL; have := Ex.depth_nodes e; have := depthL_nodesL r; omega
end
/-- A row of cells, in blocks of a kind. -/
def Rows (w : World) (S : Nat → Prop) (A : Option Addr) (xs : List Value) : Prop := xs ≠ [] → ∃ ad, A = some ad ∧ S ad.block ∧ ∀ (j : Nat) (u : Value), xs[j]? = some u → w.cell? (ad.add j) = some u
/-- A value that is an expression, its parts in blocks of a kind. -/
inductive RepE (w : World) (S : Nat → Prop) : Ex → Value → Prop
  | mk {op n : Int} {nm : List Nat} {args : List Ex} {A : Option Addr} {c : Nat} {vs : List Value} (hl : vs.length = args.length) (h60 : args.length ≤ 1000) (hop : I64 op) (hn : I64 n) (hnm : ∀ d ∈ nm, d < 256) (hnl : nm.length ≤ 9223372036854775807)
      (hr : ∀ (i : Nat) (e : Ex) (v : Value), args[i]? = some e → vs[i]? = some v → RepE w S e v) (hA : Rows w S A (flatC vs)) : RepE w S (.mk op n nm args) (.agg #[.int .i64 op, .int .i64 n, .string (strOf nm), .slice A args.length c])
theorem RepE.mono {w w' : World} {S S' : Nat → Prop} {e : Ex} {v : Value} (h : RepE w S e v) (hS : ∀ b, S b → S' b) (hc : ∀ p : Addr, S p.block → w'.cell? p = w.cell? p) : RepE w' S' e v := by
  induction h with
  | mk hl h60 hop hn hnm hnl hr hA ih =>
    refine .mk hl h60 hop hn hnm hnl ih fun hne => ?_
    obtain ⟨ad, e1, e2, e3⟩ := hA hne
    exact ⟨ad, e1, hS _ e2, fun j u hu => (hc _ (by rw [block_of_add]; exact e2)).trans (e3 j u hu)⟩
/-- The same, in blocks below a bound. -/
def Rep (w : World) (B : Nat) (e : Ex) (v : Value) : Prop := RepE w (· < B) e v
theorem Rep.below {w w' : World} {B : Nat} {e : Ex} {v : Value} (h : Rep w B e v) (hb : Below B w w') : Rep w' B e v := RepE.mono h (fun _ h => h) (fun _ hp => hb.cell hp)
theorem Rep.more {w : World} {B B' : Nat} {e : Ex} {v : Value} (h : Rep w B e v) (hb : B ≤ B') : Rep w B' e v := RepE.mono h (fun _ h => Nat.lt_of_lt_of_le h hb) (fun _ _ => rfl)
theorem RepE.cells4 {w : World} {S : Nat → Prop} {e : Ex} {v : Value} (h : RepE w S e v) : v.cells.size = 4 := by
  cases h; rfl
theorem flatC_at {vs : List Value} {i : Nat} {v : Value} (hs : ∀ x ∈ vs, x.cells.size = 4) (h : vs[i]? = some v) : ∀ (j : Nat) (u : Value), v.cells.toList[j]? = some u → (flatC vs)[i * 4 + j]? = some u := by
  induction vs generalizing i with
  | nil => cases h
  | cons x r ih =>
    intro j u hj
    have hx : x.cells.size = 4 := hs x List.mem_cons_self
    show (x.cells.toList ++ flatC r)[i * 4 + j]? = some u
    cases i with
    | zero =>
      injection h with h
      subst h
      have : j < x.cells.toList.length := (List.getElem?_eq_some_iff.1 hj).1
      rw [Nat.zero_mul, Nat.zero_add, List.getElem?_append_left this]
      exact hj
    | succ i =>
      have h2 := ih (fun y hy => hs y (List.mem_cons_of_mem _ hy)) (by simpa using h) j u hj
      have hxl : x.cells.toList.length = 4 := by simpa using hx
      rw [List.getElem?_append_right (by rw [hxl]; omega), hxl, ← h2]
      congr 1
      omega
/-- What is known of a value that is an expression. -/
structure RepV (w : World) (B : Nat) (e : Ex) (A : Option Addr) (c : Nat) : Prop where
  h60 : e.args.length ≤ 1000
  op : I64 e.op
  n : I64 e.n
  name : ∀ d ∈ e.name, d < 256
  nlen : e.name.length ≤ 9223372036854775807
  arg : ∀ i x, e.args[i]? = some x → ∃ ad A' c', A = some ad ∧ ad.block < B ∧ Rep w B x (.agg #[.int .i64 x.op, .int .i64 x.n, .string (strOf x.name), .slice A' x.args.length c']) ∧ ∀ (j : Nat) (u : Value), ([.int .i64 x.op, .int .i64 x.n, .string (strOf x.name), .slice A' x.args.length c'] : List Value)[j]? = some u → w.cell? ((ad.add (i * 4)).add j) = some u
theorem RepE.form {w : World} {S : Nat → Prop} {e : Ex} {v : Value} (h : RepE w S e v) : ∃ A c, v = .agg #[.int .i64 e.op, .int .i64 e.n, .string (strOf e.name), .slice A e.args.length c] := by
  cases h; exact ⟨_, _, rfl⟩
theorem Rep.open {w : World} {B : Nat} {e : Ex} {v : Value} (h : Rep w B e v) : ∃ A c, v = .agg #[.int .i64 e.op, .int .i64 e.n, .string (strOf e.name), .slice A e.args.length c] ∧ RepV w B e A c := by
  have h' : RepE w (· < B) e v := h
  cases h' with
  | @mk op n nm args A c vs hl h60 hop hn hnm hnl hr hA =>
    refine ⟨A, c, rfl, h60, hop, hn, hnm, hnl, fun i x hx => ?_⟩
    have hi := (List.getElem?_eq_some_iff.1 hx).1
    replace hi : i < args.length := hi
    obtain ⟨v, hv⟩ : ∃ v, vs[i]? = some v := ⟨_, List.getElem?_eq_getElem (by omega)⟩
    have hrx := hr i x v hx hv
    have h4 : ∀ y ∈ vs, y.cells.size = 4 := fun y hy => by
      obtain ⟨k, hk, rfl⟩ := List.getElem_of_mem hy
      obtain ⟨z, hz⟩ : ∃ z, args[k]? = some z := ⟨_, List.getElem?_eq_getElem (by omega)⟩
      exact (hr k z _ hz (List.getElem?_eq_getElem hk)).cells4
    have hne : flatC vs ≠ [] := by
      intro h0
      obtain ⟨A', c', rfl⟩ := hrx.form
      have := flatC_at h4 hv 0 _ rfl
      rw [h0] at this
      cases this
    obtain ⟨ad, rfl, hb, hc⟩ := hA hne
    obtain ⟨A', c', rfl⟩ := hrx.form
    refine ⟨ad, A', c', rfl, hb, hrx, fun j u hu => ?_⟩
    rw [add_of_add]
    exact hc _ _ (flatC_at h4 hv j u (by simpa [Value.cells] using hu))
theorem RepV.below {w w' : World} {B : Nat} {e : Ex} {A : Option Addr} {c : Nat} (h : RepV w B e A c) (hb : Below B w w') : RepV w' B e A c :=
  ⟨h.h60, h.op, h.n, h.name, h.nlen, fun i x hx => by
    obtain ⟨ad, A', c', e1, e2, e3, e4⟩ := h.arg i x hx
    exact ⟨ad, A', c', e1, e2, e3.below hb, fun j u hu => (hb.cell (by rw [block_of_add, block_of_add]; exact e2)).trans (e4 j u hu)⟩⟩
end Go.Proofs.Ytijaldpmpjapiaa

namespace Go.Proofs.Ytijaldpmpjapiaa
open Go.RowKit

def arityZ (op : Int) : Int := if 1 ≤ op ∧ op ≤ 4 then 0 else if 5 ≤ op ∧ op ≤ 18 then 2 else if op = 19 ∨ op = 20 then 1 else if op = 21 then 3 else -1
theorem arity_any (op : Int) (w : World) : Calls Try.prog 126 #[.int .i64 op] w fun e w' => e = .returned (.int .i64 (arityZ op)) ∧ Grow w w' := by
  have bel := Below.refl w.heap.size w
  refine Calls.start 27 Try.func126 rfl rfl rfl ?_
  refine Cd.seq ?_
  refine Cd.region ?_
  refine Seq.val (Runs.assign rfl rfl) rfl rfl rfl ?_
  refine Seq.nil ?_
  refine Post.weak (F' := [(0, _), (2, _)]) ⟨rfl, rfl, trivial⟩ ?_
  refine Post.then_ ?_
  refine Cd.seq ?_
  refine Cd.block ?_
  refine Cd.seq ?_
  refine Cd.region ?_
  refine Seq.val (Runs.move rfl rfl) rfl rfl rfl ?_
  refine Seq.val (Runs.geq rfl rfl rfl) rfl rfl rfl ?_
  refine Seq.val (Runs.move rfl rfl) rfl rfl rfl ?_
  refine SeqC.start ?_
  refine SeqC.open rfl rfl rfl rfl rfl rfl rfl (fun hcx => Runs.move rfl rfl) ?_
  refine SeqC.next rfl rfl rfl rfl rfl rfl rfl (fun hcx => Runs.leq rfl rfl rfl) ?_
  refine SeqC.and rfl rfl rfl rfl rfl rfl rfl ?_
  refine Seq.val (Runs.assign rfl rfl) rfl rfl rfl ?_
  refine Seq.nil ?_
  refine Post.weak (F' := [(0, _), (2, _), (3, _)]) ⟨rfl, rfl, rfl, trivial⟩ ?_
  refine Post.then_ ?_
  refine Cd.cond rfl (fun h => ?_) (fun h => ?_)
  · simp at h
    refine Cd.seq ?_
    refine Cd.region ?_
    refine Seq.val (Runs.assign rfl rfl) rfl rfl rfl ?_
    refine Seq.nil ?_
    refine Post.weak (F' := [(0, _), (2, _), (3, _)]) ⟨rfl, rfl, rfl, trivial⟩ ?_
    refine Post.then_ ?_
    refine Cd.ret ?_
    refine Post.block_ret ?_
    refine Post.then_ret ?_
    refine Post.end1 rfl rfl (.inl rfl) ?_
    exact ⟨ret1 (int_eq (by unfold arityZ; rw [if_pos h])), bel⟩
  · simp at h
    refine Cd.seq ?_
    refine Cd.region ?_
    refine Seq.val (Runs.move rfl rfl) rfl rfl rfl ?_
    refine Seq.val (Runs.geq rfl rfl rfl) rfl rfl rfl ?_
    refine Seq.val (Runs.move rfl rfl) rfl rfl rfl ?_
    refine SeqC.start ?_
    refine SeqC.open rfl rfl rfl rfl rfl rfl rfl (fun hcx => Runs.move rfl rfl) ?_
    refine SeqC.next rfl rfl rfl rfl rfl rfl rfl (fun hcx => Runs.leq rfl rfl rfl) ?_
    refine SeqC.and rfl rfl rfl rfl rfl rfl rfl ?_
    refine Seq.val (Runs.assign rfl rfl) rfl rfl rfl ?_
    refine Seq.nil ?_
    refine Post.weak (F' := [(0, _), (2, _), (3, _), (10, _)]) ⟨rfl, rfl, rfl, rfl, trivial⟩ ?_
    refine Post.then_ ?_
    refine Cd.cond rfl (fun h2 => ?_) (fun h2 => ?_)
    · simp at h2
      refine Cd.seq ?_
      refine Cd.region ?_
      refine Seq.val (Runs.assign rfl rfl) rfl rfl rfl ?_
      refine Seq.nil ?_
      refine Post.weak (F' := [(0, _), (2, _), (3, _), (10, _)]) ⟨rfl, rfl, rfl, rfl, trivial⟩ ?_
      refine Post.then_ ?_
      refine Cd.ret ?_
      refine Post.block_ret ?_
      refine Post.then_ret ?_
      refine Post.end1 rfl rfl (.inl rfl) ?_
      exact ⟨ret1 (int_eq (by unfold arityZ; rw [if_neg (by omega), if_pos h2])), bel⟩
    · simp at h2
      refine Cd.seq ?_
      refine Cd.region ?_
      refine Seq.val (Runs.move rfl rfl) rfl rfl rfl ?_
      refine Seq.val (Runs.eqlI rfl rfl rfl) rfl rfl rfl ?_
      refine Seq.val (Runs.move rfl rfl) rfl rfl rfl ?_
      refine SeqC.start ?_
      refine SeqC.open rfl rfl rfl rfl rfl rfl rfl (fun hcx => Runs.move rfl rfl) ?_
      refine SeqC.next rfl rfl rfl rfl rfl rfl rfl (fun hcx => Runs.eqlI rfl rfl rfl) ?_
      refine SeqC.or rfl rfl rfl rfl rfl rfl rfl ?_
      refine Seq.val (Runs.assign rfl rfl) rfl rfl rfl ?_
      refine Seq.nil ?_
      refine Post.weak (F' := [(0, _), (2, _), (3, _), (10, _), (17, _)]) ⟨rfl, rfl, rfl, rfl, rfl, trivial⟩ ?_
      refine Post.then_ ?_
      refine Cd.cond rfl (fun h3 => ?_) (fun h3 => ?_)
      · simp at h3
        refine Cd.seq ?_
        refine Cd.region ?_
        refine Seq.val (Runs.assign rfl rfl) rfl rfl rfl ?_
        refine Seq.nil ?_
        refine Post.weak (F' := [(0, _), (2, _), (3, _), (10, _), (17, _)]) ⟨rfl, rfl, rfl, rfl, rfl, trivial⟩ ?_
        refine Post.then_ ?_
        refine Cd.ret ?_
        refine Post.block_ret ?_
        refine Post.then_ret ?_
        refine Post.end1 rfl rfl (.inl rfl) ?_
        exact ⟨ret1 (int_eq (by unfold arityZ; rw [if_neg (by omega), if_neg (by omega), if_pos h3])), bel⟩
      · simp at h3
        refine Cd.seq ?_
        refine Cd.region ?_
        refine Seq.val (Runs.move rfl rfl) rfl rfl rfl ?_
        refine Seq.val (Runs.eqlI rfl rfl rfl) rfl rfl rfl ?_
        refine Seq.val (Runs.assign rfl rfl) rfl rfl rfl ?_
        refine Seq.nil ?_
        refine Post.weak (F' := [(0, _), (2, _), (3, _), (10, _), (17, _), (24, _)]) ⟨rfl, rfl, rfl, rfl, rfl, rfl, trivial⟩ ?_
        refine Post.then_ ?_
        refine Cd.condD rfl (fun hc => ?_) (fun hc => ?_)
        · skip
          refine Cd.seq ?_
          refine Cd.region ?_
          refine Seq.val (Runs.assign rfl rfl) rfl rfl rfl ?_
          refine Seq.nil ?_
          refine Post.weak (F' := [(0, _), (2, _), (3, _), (10, _), (17, _), (24, _)]) ⟨rfl, rfl, rfl, rfl, rfl, rfl, trivial⟩ ?_
          refine Post.then_ ?_
          refine Cd.ret ?_
          refine Post.block_ret ?_
          refine Post.then_ret ?_
          refine Post.end1 rfl rfl (.inl rfl) ?_
          exact ⟨ret1 (int_eq (by unfold arityZ; rw [if_neg (by omega), if_neg (by omega), if_neg (by omega), if_pos (by assumption)])), bel⟩
        · skip
          refine Cd.skip ?_
          refine Post.block_normal ?_
          refine Post.then_ ?_
          refine Cd.seq ?_
          refine Cd.region ?_
          refine Seq.val (Runs.assign rfl rfl) rfl rfl rfl ?_
          refine Seq.nil ?_
          refine Post.weak (F' := [(0, _), (2, _), (3, _), (10, _), (17, _), (24, _)]) ⟨rfl, rfl, rfl, rfl, rfl, rfl, trivial⟩ ?_
          refine Post.then_ ?_
          refine Cd.ret ?_
          refine Post.end1 rfl rfl (.inl rfl) ?_
          exact ⟨ret1 (int_eq (by unfold arityZ; rw [if_neg (by omega), if_neg (by omega), if_neg (by omega), if_neg (by assumption)])), bel⟩
def reserved : List (List Nat) := [[122, 101, 114, 111], [111, 110, 101], [103, 105, 118, 101], [97, 110, 100], [111, 114], [115, 99, 97, 108, 101], [119, 104, 101, 110], [117, 110, 116, 105, 108], [97, 110, 121, 116, 105, 109, 101], [100, 97, 121], [109, 105, 110], [109, 97, 120], [105, 102]]
def reservedB (l : List Nat) : Bool := reserved.any fun x => decide (l = x)
theorem reserved_any (l : List Nat) (w : World) (hl : ∀ d ∈ l, d < 256) : Calls Try.prog 150 #[.string (strOf l)] w fun e w' => e = .returned (.bool (reservedB l)) ∧ Grow w w' := by
  have bel := Below.refl w.heap.size w
  refine Calls.start 18 Try.func150 rfl rfl rfl ?_
  refine Cd.seq ?_
  refine Cd.region ?_
  refine Seq.val (Runs.assign rfl rfl) rfl rfl rfl ?_
  refine Seq.nil ?_
  refine Post.weak (F' := [(0, _), (2, _)]) ⟨rfl, rfl, trivial⟩ ?_
  refine Post.then_ ?_
  refine Cd.seq ?_
  refine Cd.seq ?_
  refine Cd.region ?_
  refine Seq.val (Runs.move rfl rfl) rfl rfl rfl ?_
  refine Seq.nil ?_
  refine Post.weak (F' := [(0, _), (2, _), (3, _)]) ⟨rfl, rfl, rfl, trivial⟩ ?_
  refine Post.then_ ?_
  refine Cd.block ?_
  refine Cd.seqJ (σ := Unit) (fun _ => [(4, .bool (reservedB l))]) (fun _ wr => Below w.heap.size w wr) ?_ ?_
  · skip
    refine Cd.seq ?_
    refine Cd.region ?_
    refine Seq.val (Runs.eqlL (a := l) (b := [122, 101, 114, 111]) rfl rfl rfl hl (by decide)) rfl rfl rfl ?_
    refine Seq.val (Runs.assign rfl rfl) rfl rfl rfl ?_
    refine Seq.nil ?_
    refine Post.weak (F' := [(0, _), (2, _), (3, _), (4, _)]) ⟨rfl, rfl, rfl, rfl, trivial⟩ ?_
    refine Post.then_ ?_
    refine Cd.condD rfl (fun h0 => ?_) (fun h0 => ?_)
    · subst h0
      refine Cd.skip ?_
      exact Post.join () ⟨rfl, trivial⟩ bel
    · skip
      refine Cd.seq ?_
      refine Cd.region ?_
      refine Seq.val (Runs.eqlL (a := l) (b := [111, 110, 101]) rfl rfl rfl hl (by decide)) rfl rfl rfl ?_
      refine Seq.val (Runs.assign rfl rfl) rfl rfl rfl ?_
      refine Seq.nil ?_
      refine Post.weak (F' := [(0, _), (2, _), (3, _), (4, _)]) ⟨rfl, rfl, rfl, rfl, trivial⟩ ?_
      refine Post.then_ ?_
      refine Cd.condD rfl (fun h1 => ?_) (fun h1 => ?_)
      · subst h1
        refine Cd.skip ?_
        exact Post.join () ⟨rfl, trivial⟩ bel
      · skip
        refine Cd.seq ?_
        refine Cd.region ?_
        refine Seq.val (Runs.eqlL (a := l) (b := [103, 105, 118, 101]) rfl rfl rfl hl (by decide)) rfl rfl rfl ?_
        refine Seq.val (Runs.assign rfl rfl) rfl rfl rfl ?_
        refine Seq.nil ?_
        refine Post.weak (F' := [(0, _), (2, _), (3, _), (4, _)]) ⟨rfl, rfl, rfl, rfl, trivial⟩ ?_
        refine Post.then_ ?_
        refine Cd.condD rfl (fun h2 => ?_) (fun h2 => ?_)
        · subst h2
          refine Cd.skip ?_
          exact Post.join () ⟨rfl, trivial⟩ bel
        · skip
          refine Cd.seq ?_
          refine Cd.region ?_
          refine Seq.val (Runs.eqlL (a := l) (b := [97, 110, 100]) rfl rfl rfl hl (by decide)) rfl rfl rfl ?_
          refine Seq.val (Runs.assign rfl rfl) rfl rfl rfl ?_
          refine Seq.nil ?_
          refine Post.weak (F' := [(0, _), (2, _), (3, _), (4, _)]) ⟨rfl, rfl, rfl, rfl, trivial⟩ ?_
          refine Post.then_ ?_
          refine Cd.condD rfl (fun h3 => ?_) (fun h3 => ?_)
          · subst h3
            refine Cd.skip ?_
            exact Post.join () ⟨rfl, trivial⟩ bel
          · skip
            refine Cd.seq ?_
            refine Cd.region ?_
            refine Seq.val (Runs.eqlL (a := l) (b := [111, 114]) rfl rfl rfl hl (by decide)) rfl rfl rfl ?_
            refine Seq.val (Runs.assign rfl rfl) rfl rfl rfl ?_
            refine Seq.nil ?_
            refine Post.weak (F' := [(0, _), (2, _), (3, _), (4, _)]) ⟨rfl, rfl, rfl, rfl, trivial⟩ ?_
            refine Post.then_ ?_
            refine Cd.condD rfl (fun h4 => ?_) (fun h4 => ?_)
            · subst h4
              refine Cd.skip ?_
              exact Post.join () ⟨rfl, trivial⟩ bel
            · skip
              refine Cd.seq ?_
              refine Cd.region ?_
              refine Seq.val (Runs.eqlL (a := l) (b := [115, 99, 97, 108, 101]) rfl rfl rfl hl (by decide)) rfl rfl rfl ?_
              refine Seq.val (Runs.assign rfl rfl) rfl rfl rfl ?_
              refine Seq.nil ?_
              refine Post.weak (F' := [(0, _), (2, _), (3, _), (4, _)]) ⟨rfl, rfl, rfl, rfl, trivial⟩ ?_
              refine Post.then_ ?_
              refine Cd.condD rfl (fun h5 => ?_) (fun h5 => ?_)
              · subst h5
                refine Cd.skip ?_
                exact Post.join () ⟨rfl, trivial⟩ bel
              · skip
                refine Cd.seq ?_
                refine Cd.region ?_
                refine Seq.val (Runs.eqlL (a := l) (b := [119, 104, 101, 110]) rfl rfl rfl hl (by decide)) rfl rfl rfl ?_
                refine Seq.val (Runs.assign rfl rfl) rfl rfl rfl ?_
                refine Seq.nil ?_
                refine Post.weak (F' := [(0, _), (2, _), (3, _), (4, _)]) ⟨rfl, rfl, rfl, rfl, trivial⟩ ?_
                refine Post.then_ ?_
                refine Cd.condD rfl (fun h6 => ?_) (fun h6 => ?_)
                · subst h6
                  refine Cd.skip ?_
                  exact Post.join () ⟨rfl, trivial⟩ bel
                · skip
                  refine Cd.seq ?_
                  refine Cd.region ?_
                  refine Seq.val (Runs.eqlL (a := l) (b := [117, 110, 116, 105, 108]) rfl rfl rfl hl (by decide)) rfl rfl rfl ?_
                  refine Seq.val (Runs.assign rfl rfl) rfl rfl rfl ?_
                  refine Seq.nil ?_
                  refine Post.weak (F' := [(0, _), (2, _), (3, _), (4, _)]) ⟨rfl, rfl, rfl, rfl, trivial⟩ ?_
                  refine Post.then_ ?_
                  refine Cd.condD rfl (fun h7 => ?_) (fun h7 => ?_)
                  · subst h7
                    refine Cd.skip ?_
                    exact Post.join () ⟨rfl, trivial⟩ bel
                  · skip
                    refine Cd.seq ?_
                    refine Cd.region ?_
                    refine Seq.val (Runs.eqlL (a := l) (b := [97, 110, 121, 116, 105, 109, 101]) rfl rfl rfl hl (by decide)) rfl rfl rfl ?_
                    refine Seq.val (Runs.assign rfl rfl) rfl rfl rfl ?_
                    refine Seq.nil ?_
                    refine Post.weak (F' := [(0, _), (2, _), (3, _), (4, _)]) ⟨rfl, rfl, rfl, rfl, trivial⟩ ?_
                    refine Post.then_ ?_
                    refine Cd.condD rfl (fun h8 => ?_) (fun h8 => ?_)
                    · subst h8
                      refine Cd.skip ?_
                      exact Post.join () ⟨rfl, trivial⟩ bel
                    · skip
                      refine Cd.seq ?_
                      refine Cd.region ?_
                      refine Seq.val (Runs.eqlL (a := l) (b := [100, 97, 121]) rfl rfl rfl hl (by decide)) rfl rfl rfl ?_
                      refine Seq.val (Runs.assign rfl rfl) rfl rfl rfl ?_
                      refine Seq.nil ?_
                      refine Post.weak (F' := [(0, _), (2, _), (3, _), (4, _)]) ⟨rfl, rfl, rfl, rfl, trivial⟩ ?_
                      refine Post.then_ ?_
                      refine Cd.condD rfl (fun h9 => ?_) (fun h9 => ?_)
                      · subst h9
                        refine Cd.skip ?_
                        exact Post.join () ⟨rfl, trivial⟩ bel
                      · skip
                        refine Cd.seq ?_
                        refine Cd.region ?_
                        refine Seq.val (Runs.eqlL (a := l) (b := [109, 105, 110]) rfl rfl rfl hl (by decide)) rfl rfl rfl ?_
                        refine Seq.val (Runs.assign rfl rfl) rfl rfl rfl ?_
                        refine Seq.nil ?_
                        refine Post.weak (F' := [(0, _), (2, _), (3, _), (4, _)]) ⟨rfl, rfl, rfl, rfl, trivial⟩ ?_
                        refine Post.then_ ?_
                        refine Cd.condD rfl (fun h10 => ?_) (fun h10 => ?_)
                        · subst h10
                          refine Cd.skip ?_
                          exact Post.join () ⟨rfl, trivial⟩ bel
                        · skip
                          refine Cd.seq ?_
                          refine Cd.region ?_
                          refine Seq.val (Runs.eqlL (a := l) (b := [109, 97, 120]) rfl rfl rfl hl (by decide)) rfl rfl rfl ?_
                          refine Seq.val (Runs.assign rfl rfl) rfl rfl rfl ?_
                          refine Seq.nil ?_
                          refine Post.weak (F' := [(0, _), (2, _), (3, _), (4, _)]) ⟨rfl, rfl, rfl, rfl, trivial⟩ ?_
                          refine Post.then_ ?_
                          refine Cd.condD rfl (fun h11 => ?_) (fun h11 => ?_)
                          · subst h11
                            refine Cd.skip ?_
                            exact Post.join () ⟨rfl, trivial⟩ bel
                          · skip
                            refine Cd.region ?_
                            refine Seq.val (Runs.eqlL (a := l) (b := [105, 102]) rfl rfl rfl hl (by decide)) rfl rfl rfl ?_
                            refine Seq.val (Runs.assign rfl rfl) rfl rfl rfl ?_
                            refine Seq.nil ?_
                            refine Post.weak (F' := [(0, _), (2, _), (3, _), (4, _)]) ⟨rfl, rfl, rfl, rfl, trivial⟩ ?_
                            refine Post.join () ⟨congrArg (fun b => some (Value.bool b)) ?_, trivial⟩ bel
                            simp [reservedB, reserved, h0, h1, h2, h3, h4, h5, h6, h7, h8, h9, h10, h11]
  clear bel
  rintro ⟨⟩ wr bel
  refine Cd.cond rfl (fun h => ?_) (fun h => ?_)
  · skip
    refine Cd.seq ?_
    refine Cd.region ?_
    refine Seq.val (Runs.assign rfl rfl) rfl rfl rfl ?_
    refine Seq.nil ?_
    refine Post.weak (F' := [(2, _), (4, _)]) ⟨rfl, rfl, trivial⟩ ?_
    refine Post.then_ ?_
    refine Cd.ret ?_
    refine Post.block_ret ?_
    refine Post.then_ret ?_
    refine Post.end1 rfl rfl (.inl rfl) ?_
    rw [h]
    exact ⟨rfl, bel⟩
  · skip
    refine Cd.skip ?_
    refine Post.block_normal ?_
    refine Post.then_ ?_
    refine Cd.seq ?_
    refine Cd.region ?_
    refine Seq.val (Runs.assign rfl rfl) rfl rfl rfl ?_
    refine Seq.nil ?_
    refine Post.weak (F' := [(2, _), (4, _)]) ⟨rfl, rfl, trivial⟩ ?_
    refine Post.then_ ?_
    refine Cd.ret ?_
    refine Post.end1 rfl rfl (.inl rfl) ?_
    rw [h]
    exact ⟨rfl, bel⟩
end Go.Proofs.Ytijaldpmpjapiaa

namespace Go.Proofs.Ytijaldpmpjapiaa
open Go.RowKit

def freeB (l : List Nat) : Bool := namedB l && !reservedB l
theorem free_any (l : List Nat) (w : World) (hl : ∀ d ∈ l, d < 256) (hlen : l.length ≤ 9223372036854775807) : Calls Try.prog 118 #[.string (strOf l)] w fun e w' => e = .returned (.bool (freeB l)) ∧ Grow w w' := by
  have bel := Below.refl w.heap.size w
  refine Calls.start 10 Try.func118 rfl rfl rfl ?_
  refine Cd.seq ?_
  refine Cd.region ?_
  refine Seq.val (Runs.assign rfl rfl) rfl rfl rfl ?_
  refine Seq.nil ?_
  refine Post.weak (F' := [(0, _), (2, _)]) ⟨rfl, rfl, trivial⟩ ?_
  refine Post.then_ ?_
  refine Cd.seq ?_
  refine Cd.region ?_
  refine Seq.val (Runs.move rfl rfl) rfl rfl rfl ?_
  refine Seq.call (Enters.func rfl rfl rfl (run_enter Try.func24 (by kernel_rfl) rfl)) rfl rfl rfl (named_any l _ hl hlen) ?_
  rintro e w5 ⟨rfl, hb5⟩
  refine ⟨_, rfl, ?_⟩
  replace bel := bel.step hb5
  refine Seq.val (Runs.move rfl rfl) rfl rfl rfl ?_
  refine SeqC.start ?_
  refine SeqC.open rfl rfl rfl rfl rfl rfl rfl (fun hcx => Runs.move rfl rfl) ?_
  refine SeqC.nextC rfl rfl rfl rfl rfl rfl rfl (fun hcx => Enters.func rfl rfl rfl (run_enter Try.func150 (by kernel_rfl) rfl)) (fun hcx => reserved_any l _ hl) ?_
  intro w1 hw1
  replace bel := bel.step hw1
  refine SeqC.next rfl rfl rfl rfl rfl rfl rfl (fun hcx => Runs.not rfl rfl) ?_
  refine SeqC.and rfl rfl rfl rfl rfl rfl rfl ?_
  refine Seq.val (Runs.assign rfl rfl) rfl rfl rfl ?_
  refine Seq.nil ?_
  refine Post.weak (F' := [(0, _), (2, _)]) ⟨rfl, rfl, trivial⟩ ?_
  refine Post.then_ ?_
  refine Cd.ret ?_
  refine Post.end1 rfl rfl (.inl rfl) ?_
  exact ⟨ret1 (bool_eq (by unfold freeB; cases namedB l <;> rfl)), bel⟩
theorem szSmall_any (a b : Int) (w : World) : Calls Try.prog 68 #[.agg #[.int .i64 a, .int .i64 b]] w fun e w' => e = .returned (.bool (decide (a ≤ 200) && decide (b ≤ 16))) ∧ Grow w w' := by
  have bel := Below.refl w.heap.size w
  refine Calls.start 11 Try.func68 rfl rfl rfl ?_
  refine Cd.seq ?_
  refine Cd.region ?_
  refine Seq.box rfl rfl rfl rfl rfl ?_
  intro g1 w1 n1
  have e1 := Nat.le_trans bel.size n1.ge
  replace bel := bel.step n1.below
  have k1 := n1.blk
  refine Seq.val (Runs.assign rfl rfl) rfl rfl rfl ?_
  refine Seq.nil ?_
  refine Post.weak (F' := [(0, _), (1, _), (2, _)]) ⟨rfl, rfl, rfl, trivial⟩ ?_
  refine Post.then_ ?_
  refine Cd.seq ?_
  refine Cd.region ?_
  refine Seq.val (Runs.fieldB 0 rfl rfl Try.underlying103 rfl (by kernel_rfl)) rfl rfl rfl ?_
  refine Seq.val (Runs.loadB rfl rfl Try.underlying3 rfl k1 rfl) rfl rfl rfl ?_
  refine Seq.val (Runs.leq rfl rfl rfl) rfl rfl rfl ?_
  refine Seq.val (Runs.move rfl rfl) rfl rfl rfl ?_
  refine SeqC.start ?_
  refine SeqC.open rfl rfl rfl rfl rfl rfl rfl (fun hcx => Runs.fieldB 1 rfl rfl Try.underlying103 rfl (by kernel_rfl)) ?_
  refine SeqC.next rfl rfl rfl rfl rfl rfl rfl (fun hcx => Runs.loadB rfl rfl Try.underlying3 rfl k1 rfl) ?_
  refine SeqC.next rfl rfl rfl rfl rfl rfl rfl (fun hcx => Runs.leq rfl rfl rfl) ?_
  refine SeqC.and rfl rfl rfl rfl rfl rfl rfl ?_
  refine Seq.val (Runs.assign rfl rfl) rfl rfl rfl ?_
  refine Seq.nil ?_
  refine Post.weak (F' := [(0, _), (1, _), (2, _)]) ⟨rfl, rfl, rfl, trivial⟩ ?_
  refine Post.then_ ?_
  refine Cd.ret ?_
  refine Post.end1 rfl rfl (.inl rfl) ?_
  exact ⟨ret1 (bool_eq (by cases decide (a ≤ 200) <;> rfl)), bel⟩
theorem zero_term_size : zeroIs Try.prog 103 = some (some (.agg #[.int .i64 0, .int .i64 0])) := by kernel_rfl
theorem run_build_size (a b : Int) (w : World) : (Instr.build 103 #[(0, .int .i64 a), (1, .int .i64 b)]).run Try.prog w = .ok (.agg #[.int .i64 a, .int .i64 b]) w := by
  have hu := Try.underlying103
  go_simp
def withS (s t : Int × Int) : Int × Int := (min (s.1 + t.1) 1000, min (max s.2 (t.2 + 1)) 1000)
theorem with_any (s t : Int × Int) (w : World) (h1 : 0 ≤ s.1 ∧ s.1 ≤ 1000) (h2 : 0 ≤ s.2 ∧ s.2 ≤ 1000) (h3 : 0 ≤ t.1 ∧ t.1 ≤ 1000) (h4 : 0 ≤ t.2 ∧ t.2 ≤ 1000) : Calls Try.prog 116 #[.agg #[.int .i64 s.1, .int .i64 s.2], .agg #[.int .i64 t.1, .int .i64 t.2]] w fun e w' => e = .returned (.agg #[.int .i64 (withS s t).1, .int .i64 (withS s t).2]) ∧ Grow w w' := by
  have bel := Below.refl w.heap.size w
  obtain ⟨a, b⟩ := s
  obtain ⟨c, d⟩ := t
  simp only at h1 h2 h3 h4
  refine Calls.start 19 Try.func116 rfl rfl rfl ?_
  refine Cd.seq ?_
  refine Cd.region ?_
  refine Seq.box rfl rfl rfl rfl rfl ?_
  intro g2 w1 n2
  have e2 := Nat.le_trans bel.size n2.ge
  replace bel := bel.step n2.below
  have k2 := n2.blk
  refine Seq.box rfl rfl rfl rfl rfl ?_
  intro g3 w2 n3
  have e3 := Nat.le_trans bel.size n3.ge
  have l3 := Nat.lt_of_lt_of_le k2.lt n3.ge
  replace bel := bel.step n3.below
  replace k2 := k2.step n3.below
  have k3 := n3.blk
  refine Seq.alloc rfl (run_zero zero_term_size) rfl rfl rfl ?_
  intro g4 w3 n4
  have e4 := Nat.le_trans bel.size n4.ge
  have l4 := Nat.lt_of_lt_of_le k3.lt n4.ge
  have l4_k2 := Nat.lt_of_lt_of_le k2.lt n4.ge
  replace bel := bel.step n4.below
  replace k2 := k2.step n4.below
  replace k3 := k3.step n4.below
  have k4 := n4.blk
  refine Seq.nil ?_
  refine Post.weak (F' := [(0, _), (1, _), (2, _), (3, _), (4, _)]) ⟨rfl, rfl, rfl, rfl, rfl, trivial⟩ ?_
  refine Post.then_ ?_
  refine Cd.seq ?_
  refine Cd.region ?_
  refine Seq.val (Runs.fieldB 0 rfl rfl Try.underlying103 rfl (by kernel_rfl)) rfl rfl rfl ?_
  refine Seq.val (Runs.loadB rfl rfl Try.underlying3 rfl k2 rfl) rfl rfl rfl ?_
  refine Seq.val (Runs.fieldB 0 rfl rfl Try.underlying103 rfl (by kernel_rfl)) rfl rfl rfl ?_
  refine Seq.val (Runs.loadB rfl rfl Try.underlying3 rfl k3 rfl) rfl rfl rfl ?_
  refine Seq.val (Runs.addI rfl rfl rfl (by omega) (by omega)) rfl rfl rfl ?_
  refine Seq.val (Runs.min2 rfl rfl rfl) rfl rfl rfl ?_
  refine Seq.val (Runs.fieldB 1 rfl rfl Try.underlying103 rfl (by kernel_rfl)) rfl rfl rfl ?_
  refine Seq.val (Runs.loadB rfl rfl Try.underlying3 rfl k2 rfl) rfl rfl rfl ?_
  refine Seq.val (Runs.fieldB 1 rfl rfl Try.underlying103 rfl (by kernel_rfl)) rfl rfl rfl ?_
  refine Seq.val (Runs.loadB rfl rfl Try.underlying3 rfl k3 rfl) rfl rfl rfl ?_
  refine Seq.val (Runs.addI rfl rfl rfl (by omega) (by omega)) rfl rfl rfl ?_
  refine Seq.val (Runs.max2 rfl rfl rfl) rfl rfl rfl ?_
  refine Seq.val (Runs.min2 rfl rfl rfl) rfl rfl rfl ?_
  refine Seq.val (Runs.build rfl rfl (run_build_size _ _ _)) rfl rfl rfl ?_
  refine Seq.storeN rfl rfl rfl rfl (m := 2) (by kernel_rfl) rfl (by repeat' first | exact trivial | apply And.intro | rfl | assumption) k4 (by simp [Value.cells]) rfl rfl ?_
  intro w4 pw4
  replace bel := bel.put k4 pw4 e4
  replace k2 := k2.put pw4 (by omega)
  replace k3 := k3.put pw4 (by omega)
  replace k4 := pw4.blk
  refine Seq.nil ?_
  refine Post.weak (F' := [(0, _), (1, _), (2, _), (3, _), (4, _)]) ⟨rfl, rfl, rfl, rfl, rfl, trivial⟩ ?_
  refine Post.then_ ?_
  refine Cd.ret ?_
  refine Post.endC rfl rfl k4 Try.underlying103 rfl (m := 2) (by kernel_rfl) rfl (.inl rfl) ?_
  exact ⟨rfl, bel⟩
mutual
/-- A size as it is counted. -/
def szE : Ex → Int × Int
  | .mk _ _ _ l => szL (1, 1) l
def szL (s : Int × Int) : List Ex → Int × Int
  | [] => s
  | e :: r => if 1000 ≤ s.1 then (1000, 1000) else szL (withS s (szE e)) r
end
def Sz (s : Int × Int) : Prop := (0 ≤ s.1 ∧ s.1 ≤ 1000) ∧ (0 ≤ s.2 ∧ s.2 ≤ 1000)
theorem withS_Sz {s t : Int × Int} (h : Sz s) (k : Sz t) : Sz (withS s t) := by
  unfold Sz withS at *
  simp only
  omega
mutual
theorem szE_Sz : ∀ e, Sz (szE e)
  | .mk op n nm l => by rw [szE]; exact szL_Sz (1, 1) ⟨by simp, by simp⟩ l
theorem szL_Sz : ∀ (s : Int × Int), Sz s → ∀ l, Sz (szL s l)
  | s, h, [] => by rw [szL]; exact h
  | s, h, e :: r => by
    rw [szL]
    split
    · exact ⟨by simp, by simp⟩
    · exact szL_Sz _ (withS_Sz h (szE_Sz e)) r
end
/-- What a size says: nodes up to a thousand; the depth, if they are fewer. -/
def Cnt (s : Int × Int) (n d : Nat) : Prop := s.1 = min (n : Int) 1000 ∧ (n < 1000 → s.2 = (d : Int))
mutual
theorem szE_cnt : ∀ e, Cnt (szE e) e.nodes e.depth
  | .mk op n nm l => by
    rw [szE, Ex.nodes_mk, Ex.depth_mk]
    have := szL_cnt (1, 1) 1 1 ⟨(by show (1 : Int) = min ((1 : Nat) : Int) 1000; omega), fun _ => rfl⟩ (Nat.le_refl _) (Nat.le_refl _) l
    rwa [show max 1 (1 + depthL l) = 1 + depthL l by omega] at this
theorem szL_cnt : ∀ (s : Int × Int) (n d : Nat), Cnt s n d → 1 ≤ d → d ≤ n → ∀ l, Cnt (szL s l) (n + nodesL l) (max d (1 + depthL l))
  | s, n, d, h, h1, h2, [] => by
    rw [szL, nodesL, depthL, show max d (1 + 0) = d by omega]
    exact h
  | s, n, d, h, h1, h2, e :: r => by
    rw [szL, nodesL, depthL]
    have he := szE_cnt e
    have hn := Ex.depth_nodes e
    have hr := depthL_nodesL r
    split
    · obtain ⟨a, b⟩ := h
      exact ⟨by simp only; omega, fun h => by omega⟩
    · have hw : Cnt (withS s (szE e)) (n + e.nodes) (max d (1 + e.depth)) := by
        obtain ⟨a, b⟩ := h
        obtain ⟨a', b'⟩ := he
        refine ⟨by unfold withS; simp only; omega, fun h => ?_⟩
        unfold withS
        simp only
        rw [b (by omega), b' (by omega)]
        omega
      have := szL_cnt _ (n + e.nodes) (max d (1 + e.depth)) hw (by omega) (by omega) r
      rw [show n + (e.nodes + nodesL r) = n + e.nodes + nodesL r by omega, show max d (1 + max e.depth (depthL r)) = max (max d (1 + e.depth)) (1 + depthL r) by omega]
      exact this
end
theorem zero_api_Expr : zeroIs Try.prog 35 = some (some (.agg #[.int .i64 0, .int .i64 0, .string { data := #[] }, .slice none 0 0])) := by kernel_rfl
mutual
/-- A size as it is counted from a depth on. -/
def szF : Ex → Nat → Int × Int
  | .mk _ _ _ l, at_ => szG at_ (1, 1) l
def szG (at_ : Nat) (s : Int × Int) : List Ex → Int × Int
  | [] => s
  | e :: r => if 1000 ≤ at_ ∨ 1000 ≤ s.1 then (1000, 1000) else szG at_ (withS s (szF e (at_ + 1))) r
end
theorem szF_eq (e : Ex) (at_ : Nat) : szF e at_ = szG at_ (1, 1) e.args := by cases e; rw [szF]; rfl
theorem szG_cons (at_ : Nat) (s : Int × Int) (e : Ex) (r : List Ex) : szG at_ s (e :: r) = if 1000 ≤ at_ ∨ 1000 ≤ s.1 then (1000, 1000) else szG at_ (withS s (szF e (at_ + 1))) r := by rw [szG]
theorem szG_nil (at_ : Nat) (s : Int × Int) : szG at_ s [] = s := by rw [szG]
theorem withS_big {s : Int × Int} (h : Sz s) : withS s (1000, 1000) = (1000, 1000) := by
  unfold Sz at h
  unfold withS
  simp only [Prod.mk.injEq]
  omega
theorem szG_big (at_ : Nat) (l : List Ex) : szG at_ (1000, 1000) l = (1000, 1000) := by
  cases l with
  | nil => rw [szG_nil]
  | cons e r => rw [szG_cons, if_pos (.inr (by decide))]
mutual
theorem szF_Sz : ∀ (e : Ex) (at_ : Nat), Sz (szF e at_)
  | .mk op n nm l, at_ => by rw [szF]; exact szG_Sz at_ (1, 1) ⟨by simp, by simp⟩ l
theorem szG_Sz : ∀ (at_ : Nat) (s : Int × Int), Sz s → ∀ l, Sz (szG at_ s l)
  | at_, s, h, [] => by rw [szG]; exact h
  | at_, s, h, e :: r => by
    rw [szG]
    split
    · exact ⟨by simp, by simp⟩
    · exact szG_Sz at_ _ (withS_Sz h (szF_Sz e (at_ + 1))) r
end
mutual
/-- It is the size, or the tree is too deep. -/
theorem szF_or : ∀ (e : Ex) (at_ : Nat), szF e at_ = szE e ∨ (szF e at_ = (1000, 1000) ∧ 1002 ≤ e.depth + at_)
  | .mk op n nm l, at_ => by
    rw [szF, szE, Ex.depth_mk]
    rcases szG_or at_ (1, 1) ⟨by simp, by simp⟩ l with h | ⟨h1, h2⟩
    · exact .inl h
    · exact .inr ⟨h1, by omega⟩
theorem szG_or : ∀ (at_ : Nat) (s : Int × Int), Sz s → ∀ l, szG at_ s l = szL s l ∨ (szG at_ s l = (1000, 1000) ∧ 1001 ≤ depthL l + at_)
  | at_, s, h, [] => by rw [szG, szL]; exact .inl rfl
  | at_, s, h, e :: r => by
    rw [szG, szL, depthL]
    have hd : 0 < e.depth := by cases e; rw [Ex.depth_mk]; omega
    by_cases h1 : 1000 ≤ s.1
    · rw [if_pos (.inr h1), if_pos h1]; exact .inl rfl
    · by_cases h2 : 1000 ≤ at_
      · rw [if_pos (.inl h2)]; exact .inr ⟨rfl, by omega⟩
      · rw [if_neg (by omega), if_neg h1]
        rcases szF_or e (at_ + 1) with h3 | ⟨h3, h4⟩
        · rw [h3]
          rcases szG_or at_ (withS s (szE e)) (withS_Sz h (szE_Sz e)) r with h5 | ⟨h5, h6⟩
          · exact .inl h5
          · exact .inr ⟨h5, by omega⟩
        · rw [h3, withS_big h, szG_big]
          exact .inr ⟨rfl, by omega⟩
end
theorem szF_cnt (e : Ex) : Cnt (szF e 0) e.nodes e.depth := by
  rcases szF_or e 0 with h | ⟨h1, h2⟩
  · rw [h]; exact szE_cnt e
  · rw [h1]
    have := e.depth_nodes
    exact ⟨by simp only; omega, fun h => by omega⟩
theorem sizeExpr_all (N : Nat) : ∀ (e : Ex) (at_ : Nat) (B : Nat) (v : Value) (w : World), e.nodes ≤ N → at_ ≤ 1001 → Rep w B e v → B ≤ w.heap.size → Calls Try.prog 75 #[v, .int .i64 (at_ : Int)] w fun en w' => en = .returned (.agg #[.int .i64 (szF e at_).1, .int .i64 (szF e at_).2]) ∧ Grow w w' := by
  induction N with
  | zero => intro e at_ B v w hN; have := e.nodes_pos; omega
  | succ N ih =>
  intro e at_ B v w hN hdep hrep hB
  obtain ⟨A, c, rfl, hv⟩ := hrep.open
  have bel := Below.refl w.heap.size w
  have hdp : 0 < e.depth := by cases e; rw [Ex.depth_mk]; omega
  have h60 := hv.h60
  refine Calls.start 32 Try.func75 rfl rfl rfl ?_
  refine Cd.seq ?_
  refine Cd.region ?_
  refine Seq.box rfl rfl rfl rfl rfl ?_
  intro g2 w1 n2
  have e2 := Nat.le_trans bel.size n2.ge
  replace bel := bel.step n2.below
  have k2 := n2.blk
  refine Seq.alloc rfl (run_zero zero_term_size) rfl rfl rfl ?_
  intro g4 w2 n4
  have e4 := Nat.le_trans bel.size n4.ge
  have l4 := Nat.lt_of_lt_of_le k2.lt n4.ge
  replace bel := bel.step n4.below
  replace k2 := k2.step n4.below
  have k4 := n4.blk
  refine Seq.nil ?_
  refine Post.weak (F' := [(0, _), (1, _), (2, _), (4, _)]) ⟨rfl, rfl, rfl, rfl, trivial⟩ ?_
  refine Post.then_ ?_
  refine Cd.seq ?_
  refine Cd.region ?_
  refine Seq.val (Runs.build rfl rfl (run_build_size _ _ _)) rfl rfl rfl ?_
  refine Seq.alloc rfl (run_zero zero_term_size) rfl rfl rfl ?_
  intro g5 w3 n5
  have e5 := Nat.le_trans bel.size n5.ge
  have l5 := Nat.lt_of_lt_of_le k4.lt n5.ge
  have l5_k2 := Nat.lt_of_lt_of_le k2.lt n5.ge
  replace bel := bel.step n5.below
  replace k2 := k2.step n5.below
  replace k4 := k4.step n5.below
  have k5 := n5.blk
  refine Seq.storeN rfl rfl rfl rfl (m := 2) (by kernel_rfl) rfl (by repeat' first | exact trivial | apply And.intro | rfl | assumption) k5 (by simp [Value.cells]) rfl rfl ?_
  intro w4 pw4
  replace bel := bel.put k5 pw4 e5
  replace k2 := k2.put pw4 (by omega)
  replace k4 := k4.put pw4 (by omega)
  replace k5 := pw4.blk
  refine Seq.nil ?_
  refine Post.weak (F' := [(0, _), (1, _), (2, _), (4, _), (5, _)]) ⟨rfl, rfl, rfl, rfl, rfl, trivial⟩ ?_
  refine Post.then_ ?_
  refine Cd.seq ?_
  refine Cd.seq ?_
  refine Cd.region ?_
  refine Seq.val (Runs.fieldB 3 rfl rfl Try.underlying35 rfl (by kernel_rfl)) rfl rfl rfl ?_
  refine Seq.val (Runs.loadB rfl rfl Try.underlying25 rfl k2 rfl) rfl rfl rfl ?_
  refine Seq.val (Runs.len rfl rfl Try.underlying25) rfl rfl rfl ?_
  refine Seq.val (Runs.move rfl rfl) rfl rfl rfl ?_
  refine Seq.nil ?_
  refine Post.weak (F' := [(0, _), (1, _), (2, _), (4, _), (5, _), (10, _), (11, _), (12, _)]) ⟨rfl, rfl, rfl, rfl, rfl, rfl, rfl, rfl, trivial⟩ ?_
  refine Post.then_ ?_
  refine Cd.block ?_
  refine Cd.loop (σ := Nat × (Int × Int)) (fun s => [(1, .int .i64 (at_ : Int)), (4, .pointer (some ⟨g4, 0, none⟩)), (5, .pointer (some ⟨g5, 0, none⟩)), (10, .slice A e.args.length c), (11, .int .i64 (e.args.length : Int)), (12, .int .i64 (s.1 : Int))])
    (fun s wr => s.1 ≤ e.args.length ∧ Sz s.2 ∧ szG at_ s.2 (e.args.drop s.1) = szF e at_ ∧ Below w.heap.size w wr ∧ Blk wr g4 103 #[.int .i64 0, .int .i64 0] ∧ Blk wr g5 103 #[.int .i64 s.2.1, .int .i64 s.2.2]) (fun s => e.args.length - s.1) (0, (1, 1)) ⟨Nat.zero_le _, ⟨by simp, by simp⟩, by rw [szF_eq]; rfl, bel, k4, k5⟩ ⟨rfl, rfl, rfl, rfl, rfl, rfl, trivial⟩ ?_
  clear bel k2 k4 k5
  rintro ⟨k, s⟩ wr ⟨hk, hs, hsz, bel, k4, k5⟩
  simp only at hk hs hsz k5
  show Cd _ _ _ _ [(1, .int .i64 (at_ : Int)), (4, .pointer (some ⟨g4, 0, none⟩)), (5, .pointer (some ⟨g5, 0, none⟩)), (10, .slice A e.args.length c), (11, .int .i64 (e.args.length : Int)), (12, .int .i64 (k : Int))] _
  refine Cd.seq ?_
  refine Cd.region ?_
  refine Seq.val (Runs.lss rfl rfl rfl) rfl rfl rfl ?_
  refine Seq.nil ?_
  refine Post.weak (F' := [(1, _), (4, _), (5, _), (10, _), (11, _), (12, _), (13, _)]) ⟨rfl, rfl, rfl, rfl, rfl, rfl, rfl, trivial⟩ ?_
  refine Post.then_ ?_
  refine Cd.seq ?_
  refine Cd.condD rfl (fun hc => ?_) (fun hc => ?_)
  · obtain ⟨x, hx⟩ : ∃ x, e.args[k]? = some x := ⟨_, List.getElem?_eq_getElem (show k < e.args.length by omega)⟩
    obtain ⟨ad, A', c', rfl, hbl, hrx, hc⟩ := hv.arg k x hx
    have hxm := List.mem_of_getElem? hx
    have hxn := Ex.arg_nodes hxm
    have hxd := Ex.arg_depth hxm
    have hc := fun j u hj => ((bel.mono hB).cell (p := (ad.add (k * 4)).add j) (by rw [block_of_add, block_of_add]; exact hbl)).trans (hc j u hj)
    have hdrop : e.args.drop k = x :: e.args.drop (k + 1) := by
      rw [List.drop_eq_getElem_cons (show k < e.args.length by omega)]
      congr 1
      obtain ⟨_, he⟩ := List.getElem?_eq_some_iff.1 hx
      exact he
    rw [hdrop, szG_cons] at hsz
    refine Cd.skip ?_
    refine Post.then_ ?_
    refine Cd.seq ?_
    refine Cd.block ?_
    refine Cd.seq ?_
    refine Cd.region ?_
    refine Seq.val (Runs.indexN rfl rfl rfl Try.underlying25 (s := 4) (by kernel_rfl) (j := k) rfl (by omega)) rfl rfl rfl ?_
    refine Seq.val (Runs.loadF (ps := [.int .i64 x.op, .int .i64 x.n, .string (strOf x.name), .slice A' x.args.length c']) rfl rfl Try.underlying35 rfl (m := 4) (by kernel_rfl) rfl hc) rfl rfl rfl ?_
    refine Seq.alloc rfl (run_zero zero_api_Expr) rfl rfl rfl ?_
    intro g7 w5 n7
    have e7 := Nat.le_trans bel.size n7.ge
    have l7 := Nat.lt_of_lt_of_le k5.lt n7.ge
    have l7_k4 := Nat.lt_of_lt_of_le k4.lt n7.ge
    replace bel := bel.step n7.below
    replace k4 := k4.step n7.below
    replace k5 := k5.step n7.below
    have k7 := n7.blk
    refine Seq.storeN rfl rfl rfl rfl (m := 4) (by kernel_rfl) rfl (by repeat' first | exact trivial | apply And.intro | rfl | assumption) k7 (by simp [Value.cells]) rfl rfl ?_
    intro w6 pw6
    replace bel := bel.put k7 pw6 e7
    replace k4 := k4.put pw6 (by omega)
    replace k5 := k5.put pw6 (by omega)
    replace k7 := pw6.blk
    refine Seq.nil ?_
    refine Post.weak (F' := [(1, _), (4, _), (5, _), (7, _), (10, _), (11, _), (12, _), (13, _)]) ⟨rfl, rfl, rfl, rfl, rfl, rfl, rfl, rfl, trivial⟩ ?_
    refine Post.then_ ?_
    refine Cd.seq ?_
    refine Cd.seq ?_
    refine Cd.region ?_
    refine Seq.val (Runs.move rfl rfl) rfl rfl rfl ?_
    refine Seq.val (Runs.geq rfl rfl rfl) rfl rfl rfl ?_
    refine Seq.val (Runs.move rfl rfl) rfl rfl rfl ?_
    refine SeqC.start ?_
    refine SeqC.open rfl rfl rfl rfl rfl rfl rfl (fun hcx => Runs.fieldB 0 rfl rfl Try.underlying103 rfl (by kernel_rfl)) ?_
    refine SeqC.next rfl rfl rfl rfl rfl rfl rfl (fun hcx => Runs.loadB rfl rfl Try.underlying3 rfl k5 rfl) ?_
    refine SeqC.next rfl rfl rfl rfl rfl rfl rfl (fun hcx => Runs.geq rfl rfl rfl) ?_
    refine SeqC.or rfl rfl rfl rfl rfl rfl rfl ?_
    refine Seq.nil ?_
    refine Post.weak (F' := [(1, _), (4, _), (5, _), (7, _), (10, _), (11, _), (12, _), (13, _), (22, _)]) ⟨rfl, rfl, rfl, rfl, rfl, rfl, rfl, rfl, rfl, trivial⟩ ?_
    refine Post.then_ ?_
    refine Cd.cond rfl (fun h => ?_) (fun h => ?_)
    · simp at h
      rw [if_pos (by omega)] at hsz
      refine Cd.seq ?_
      refine Cd.region ?_
      refine Seq.val (Runs.build rfl rfl (run_build_size _ _ _)) rfl rfl rfl ?_
      refine Seq.storeN rfl rfl rfl rfl (m := 2) (by kernel_rfl) rfl (by repeat' first | exact trivial | apply And.intro | rfl | assumption) k4 (by simp [Value.cells]) rfl rfl ?_
      intro w7 pw7
      replace bel := bel.put k4 pw7 e4
      replace k5 := k5.put pw7 (by omega)
      replace k7 := k7.put pw7 (by omega)
      replace k4 := pw7.blk
      refine Seq.nil ?_
      refine Post.weak (F' := [(1, _), (4, _), (5, _), (7, _), (10, _), (11, _), (12, _), (13, _), (22, _)]) ⟨rfl, rfl, rfl, rfl, rfl, rfl, rfl, rfl, rfl, trivial⟩ ?_
      refine Post.then_ ?_
      refine Cd.ret ?_
      refine Post.then_ret ?_
      refine Post.block_ret ?_
      refine Post.then_ret ?_
      refine Post.round_ret ?_
      refine Post.block_ret ?_
      refine Post.then_ret ?_
      refine Post.endC rfl rfl k4 Try.underlying103 rfl (m := 2) (by kernel_rfl) rfl (.inl rfl) ?_
      rw [← hsz]
      exact ⟨rfl, bel⟩
    · simp at h
      rw [if_neg (by omega)] at hsz
      have hat : at_ + 1 ≤ 1001 := by omega
      have hrec := fun W (hb : Below w.heap.size w W) => ih x (at_ + 1) B _ W (by omega) hat (hrx.below (hb.mono hB)) (Nat.le_trans hB hb.size)
      have hxs := szF_Sz x (at_ + 1)
      have hws := withS_Sz hs hxs
      refine Cd.skip ?_
      refine Post.then_ ?_
      refine Cd.draw 6 (by kernel_rfl) [] (.inl rfl) rfl Grow Grow.refl (fun _ _ _ => Grow.trans) ?_
      intro w7 hw7 zw7
      replace bel := bel.step hw7
      replace k4 := k4.step hw7
      replace k5 := k5.step hw7
      replace k7 := k7.step hw7
      have zbel := bel.size
      have zlt := k7.lt
      refine Dr.val Grow.refl rfl (fun w hG => Runs.loadW rfl rfl Try.underlying103 rfl (k5.step hG) (m := 2) (by kernel_rfl) rfl) rfl ?_
      refine Dr.val Grow.refl rfl (fun w hG => Runs.loadW rfl rfl Try.underlying35 rfl (k7.step hG) (m := 4) (by kernel_rfl) rfl) rfl ?_
      refine Dr.val Grow.refl rfl (fun w hG => Runs.move rfl rfl) rfl ?_
      refine Dr.val Grow.refl rfl (fun w hG => Runs.addI rfl rfl rfl (by omega) (by omega)) rfl ?_
      refine Dr.callV rfl (fun w => Enters.func rfl rfl rfl (run_enter Try.func75 (by kernel_rfl) rfl)) rfl (fun w hG => hrec w (bel.step hG)) ?_
      refine Dr.callV rfl (fun w => Enters.func rfl rfl rfl (run_enter Try.func116 (by kernel_rfl) rfl)) rfl (fun w hG => with_any s (szF x (at_ + 1)) w hs.1 hs.2 hxs.1 hxs.2) ?_
      refine Dr.nil ?_
      refine FinX.done (F' := [(1, _), (4, _), (5, _), (7, _), (10, _), (11, _), (12, _), (13, _), (22, _), (29, _)]) rfl ⟨rfl, rfl, rfl, rfl, rfl, rfl, rfl, rfl, rfl, rfl, trivial⟩ ?_
      intro w8 hw8 fw8
      replace bel := bel.step hw8
      replace k4 := k4.step hw8
      replace k5 := k5.step hw8
      replace k7 := k7.step hw8
      refine Seq.storeN rfl rfl rfl rfl (m := 2) (by kernel_rfl) rfl (by repeat' first | exact trivial | apply And.intro | rfl | assumption) k5 (by simp [Value.cells]) rfl rfl ?_
      intro w9 pw9
      replace bel := bel.put k5 pw9 e5
      replace k4 := k4.put pw9 (by omega)
      replace k5 := pw9.blk
      refine Seq.nil ?_
      refine Post.weak (F' := [(1, _), (4, _), (5, _), (7, _), (10, _), (11, _), (12, _), (13, _), (22, _)]) ⟨rfl, rfl, rfl, rfl, rfl, rfl, rfl, rfl, rfl, trivial⟩ ?_
      refine Post.block_normal ?_
      refine Post.then_ ?_
      refine Cd.region ?_
      refine Seq.val (Runs.addI rfl rfl rfl (by omega) (by omega)) rfl rfl rfl ?_
      refine Seq.val (Runs.move rfl rfl) rfl rfl rfl ?_
      refine Seq.nil ?_
      refine Post.weak (F' := [(1, _), (4, _), (5, _), (7, _), (10, _), (11, _), (12, _), (13, _), (22, _)]) ⟨rfl, rfl, rfl, rfl, rfl, rfl, rfl, rfl, rfl, trivial⟩ ?_
      exact Post.round (k + 1, withS s (szF x (at_ + 1))) ⟨rfl, rfl, rfl, rfl, rfl, rfl, trivial⟩ ⟨by simp only; omega, hws, hsz, bel, k4, k5⟩ (by simp only; omega)
  · obtain rfl : k = e.args.length := by omega
    rw [List.drop_of_length_le (Nat.le_refl _), szG_nil] at hsz
    refine Cd.exit ?_
    refine Post.then_exit ?_
    refine Post.round_exit ?_
    refine Post.block_exit ?_
    refine Post.then_ ?_
    refine Cd.seq ?_
    refine Cd.region ?_
    refine Seq.val (Runs.loadW rfl rfl Try.underlying103 rfl k5 (m := 2) (by kernel_rfl) rfl) rfl rfl rfl ?_
    refine Seq.storeN rfl rfl rfl rfl (m := 2) (by kernel_rfl) rfl (by repeat' first | exact trivial | apply And.intro | rfl | assumption) k4 (by simp [Value.cells]) rfl rfl ?_
    intro w5 pw5
    replace bel := bel.put k4 pw5 e4
    replace k5 := k5.put pw5 (by omega)
    replace k4 := pw5.blk
    refine Seq.nil ?_
    refine Post.weak (F' := [(1, _), (4, _), (5, _), (10, _), (11, _), (12, _), (13, _)]) ⟨rfl, rfl, rfl, rfl, rfl, rfl, rfl, trivial⟩ ?_
    refine Post.then_ ?_
    refine Cd.ret ?_
    refine Post.endC rfl rfl k4 Try.underlying103 rfl (m := 2) (by kernel_rfl) rfl (.inl rfl) ?_
    rw [← hsz]
    exact ⟨rfl, bel⟩
end Go.Proofs.Ytijaldpmpjapiaa

namespace Go.Proofs.Ytijaldpmpjapiaa
open Go.RowKit

/-- The first place at which a predicate holds, or -1. -/
def idxP {α : Type} (p : α → Bool) (l : List α) : Int := match l.findIdx? p with | some i => (i : Int) | none => -1
theorem idxP_some {α : Type} {p : α → Bool} {l : List α} {i : Nat} {x : α} (h : l[i]? = some x) (hp : p x = true) (hb : ∀ y ∈ l.take i, p y = false) : idxP p l = (i : Int) := by
  unfold idxP
  have : l.findIdx? p = some i := by
    rw [List.findIdx?_eq_some_iff_getElem]
    obtain ⟨hi, he⟩ := List.getElem?_eq_some_iff.1 h
    refine ⟨hi, by rw [he]; exact hp, fun j hj => ?_⟩
    have := hb (l[j]) (by rw [List.mem_take_iff_getElem]; exact ⟨j, by omega, rfl⟩)
    rw [this]; simp
  rw [this]
theorem idxP_none {α : Type} {p : α → Bool} {l : List α} (hb : ∀ y ∈ l, p y = false) : idxP p l = -1 := by
  unfold idxP
  have : l.findIdx? p = none := by rw [List.findIdx?_eq_none_iff]; exact hb
  rw [this]
theorem idxP_any {α : Type} (p : α → Bool) (l : List α) : decide (0 ≤ idxP p l) = l.any p := by
  unfold idxP
  cases h : l.findIdx? p with
  | none =>
    rw [List.findIdx?_eq_none_iff] at h
    have : l.any p = false := by rw [List.any_eq_false]; exact fun x hx => by rw [h x hx]; simp
    rw [this]; rfl
  | some i =>
    obtain ⟨hi, he, -⟩ := List.findIdx?_eq_some_iff_getElem.1 h
    have : l.any p = true := by rw [List.any_eq_true]; exact ⟨_, List.getElem_mem hi, he⟩
    rw [this]; simp
theorem indexE_any (g : Nat) (cp : List Value) (p : Ex → Bool) (B : Nat) (A : Option Addr) (c : Nat) (e : Ex) (w : World) (hv : RepV w B e A c) (hB : B ≤ w.heap.size)
    (eg : ∀ args w, (callFunc g args).run Try.prog w = .ok (.enter g args) w) (hp : ∀ x ∈ e.args, ∀ v W, Below w.heap.size w W → Rep W B x v → Calls Try.prog g ([] ++ [v] ++ cp).toArray W fun en w' => en = .returned (.bool (p x)) ∧ Grow W w') :
    Calls Try.prog 153 #[.slice A e.args.length c, .func (.func g) #[] cp.toArray] w fun en w' => en = .returned (.int .i64 (idxP p e.args)) ∧ Grow w w' := by
  have bel := Below.refl w.heap.size w
  have h60 := hv.h60
  obtain ⟨n, hn⟩ : ∃ n, n = e.args.length := ⟨_, rfl⟩
  rw [← hn] at h60 ⊢
  refine Calls.start 19 Try.func153 rfl rfl rfl ?_
  refine Cd.seq ?_
  refine Cd.region ?_
  refine Seq.val (Runs.assign rfl rfl) rfl rfl rfl ?_
  refine Seq.nil ?_
  refine Post.weak (F' := [(0, _), (1, _), (4, _)]) ⟨rfl, rfl, rfl, trivial⟩ ?_
  refine Post.then_ ?_
  refine Cd.seq ?_
  refine Cd.seq ?_
  refine Cd.region ?_
  refine Seq.val (Runs.move rfl rfl) rfl rfl rfl ?_
  refine Seq.val (Runs.len rfl rfl Try.underlying25) rfl rfl rfl ?_
  refine Seq.val (Runs.move rfl rfl) rfl rfl rfl ?_
  refine Seq.nil ?_
  refine Post.weak (F' := [(0, _), (1, _), (4, _), (7, _), (8, _)]) ⟨rfl, rfl, rfl, rfl, rfl, trivial⟩ ?_
  refine Post.then_ ?_
  refine Cd.block ?_
  refine Cd.loop (σ := Nat) (fun k => [(0, .slice A n c), (1, .func (.func g) #[] cp.toArray), (7, .int .i64 (n : Int)), (8, .int .i64 (k : Int))])
    (fun k wr => k ≤ n ∧ (∀ y ∈ e.args.take k, p y = false) ∧ Below w.heap.size w wr) (fun k => n - k) 0 ⟨Nat.zero_le _, by simp, bel⟩ ⟨rfl, rfl, rfl, rfl, trivial⟩ ?_
  clear bel
  rintro k wr ⟨hk, hno, bel⟩
  refine Cd.seq ?_
  refine Cd.region ?_
  refine Seq.val (Runs.lss rfl rfl rfl) rfl rfl rfl ?_
  refine Seq.nil ?_
  refine Post.weak (F' := [(0, _), (1, _), (7, _), (8, _), (9, _)]) ⟨rfl, rfl, rfl, rfl, rfl, trivial⟩ ?_
  refine Post.then_ ?_
  refine Cd.seq ?_
  refine Cd.condD rfl (fun hc => ?_) (fun hc => ?_)
  · obtain ⟨x, hx⟩ : ∃ x, e.args[k]? = some x := ⟨_, List.getElem?_eq_getElem (show k < e.args.length by omega)⟩
    obtain ⟨ad, A', c', rfl, hbl, hrx, hc⟩ := hv.arg k x hx
    have hc := fun j u hj => ((bel.mono hB).cell (p := (ad.add (k * 4)).add j) (by rw [block_of_add, block_of_add]; exact hbl)).trans (hc j u hj)
    have htk : e.args.take (k + 1) = e.args.take k ++ [x] := by rw [List.take_add_one, hx]; rfl
    refine Cd.skip ?_
    refine Post.then_ ?_
    refine Cd.seq ?_
    refine Cd.block ?_
    refine Cd.seq ?_
    refine Cd.region ?_
    refine Seq.val (Runs.move rfl rfl) rfl rfl rfl ?_
    refine Seq.val (Runs.assign rfl rfl) rfl rfl rfl ?_
    refine Seq.nil ?_
    refine Post.weak (F' := [(0, _), (1, _), (5, _), (7, _), (8, _), (9, _)]) ⟨rfl, rfl, rfl, rfl, rfl, rfl, trivial⟩ ?_
    refine Post.then_ ?_
    refine Cd.seq ?_
    refine Cd.region ?_
    refine Seq.val (Runs.move rfl rfl) rfl rfl rfl ?_
    refine Seq.val (Runs.move rfl rfl) rfl rfl rfl ?_
    refine Seq.val (Runs.move rfl rfl) rfl rfl rfl ?_
    refine Seq.val (Runs.indexN rfl rfl rfl Try.underlying25 (s := 4) (by kernel_rfl) (j := k) rfl (by omega)) rfl rfl rfl ?_
    refine Seq.val (Runs.loadF (ps := [.int .i64 x.op, .int .i64 x.n, .string (strOf x.name), .slice A' x.args.length c']) rfl rfl Try.underlying35 rfl (m := 4) (by kernel_rfl) rfl hc) rfl rfl rfl ?_
    refine Seq.call (Enters.value (first := []) (cap := cp) rfl rfl rfl eg) rfl rfl rfl (hp x (List.mem_of_getElem? hx) _ _ bel (hrx.below (bel.mono hB))) ?_
    rintro en w5 ⟨rfl, hb5⟩
    refine ⟨_, rfl, ?_⟩
    replace bel := bel.step hb5
    refine Seq.nil ?_
    refine Post.weak (F' := [(0, _), (1, _), (5, _), (7, _), (8, _), (9, _), (16, _)]) ⟨rfl, rfl, rfl, rfl, rfl, rfl, rfl, trivial⟩ ?_
    refine Post.then_ ?_
    refine Cd.cond rfl (fun h => ?_) (fun h => ?_)
    · skip
      refine Cd.seq ?_
      refine Cd.region ?_
      refine Seq.val (Runs.move rfl rfl) rfl rfl rfl ?_
      refine Seq.val (Runs.assign rfl rfl) rfl rfl rfl ?_
      refine Seq.nil ?_
      refine Post.weak (F' := [(0, _), (1, _), (4, _), (5, _), (7, _), (8, _), (9, _), (16, _)]) ⟨rfl, rfl, rfl, rfl, rfl, rfl, rfl, rfl, trivial⟩ ?_
      refine Post.then_ ?_
      refine Cd.ret ?_
      refine Post.block_ret ?_
      refine Post.then_ret ?_
      refine Post.round_ret ?_
      refine Post.block_ret ?_
      refine Post.then_ret ?_
      refine Post.end1 rfl rfl (.inl rfl) ?_
      exact ⟨ret1 (int_eq (idxP_some hx h hno).symm), bel⟩
    · skip
      refine Cd.skip ?_
      refine Post.block_normal ?_
      refine Post.then_ ?_
      refine Cd.region ?_
      refine Seq.val (Runs.addI rfl rfl rfl (by omega) (by omega)) rfl rfl rfl ?_
      refine Seq.val (Runs.move rfl rfl) rfl rfl rfl ?_
      refine Seq.nil ?_
      refine Post.weak (F' := [(0, _), (1, _), (5, _), (7, _), (8, _), (9, _), (16, _)]) ⟨rfl, rfl, rfl, rfl, rfl, rfl, rfl, trivial⟩ ?_
      refine Post.round (k + 1) ⟨rfl, rfl, rfl, rfl, trivial⟩ ⟨by omega, fun y hy => ?_, bel⟩ (by omega)
      rw [htk] at hy
      rcases List.mem_append.1 hy with hy | hy
      · exact hno y hy
      · simp at hy; subst hy; exact h
  · obtain rfl : k = n := by omega
    rw [List.take_of_length_le (by omega)] at hno
    refine Cd.exit ?_
    refine Post.then_exit ?_
    refine Post.round_exit ?_
    refine Post.block_exit ?_
    refine Post.then_ ?_
    refine Cd.seq ?_
    refine Cd.region ?_
    refine Seq.val (Runs.assign rfl rfl) rfl rfl rfl ?_
    refine Seq.nil ?_
    refine Post.weak (F' := [(0, _), (1, _), (4, _), (7, _), (8, _), (9, _)]) ⟨rfl, rfl, rfl, rfl, rfl, rfl, trivial⟩ ?_
    refine Post.then_ ?_
    refine Cd.ret ?_
    refine Post.end1 rfl rfl (.inl rfl) ?_
    exact ⟨ret1 (int_eq (idxP_none hno).symm), bel⟩
theorem containsE_any (g : Nat) (cp : List Value) (p : Ex → Bool) (B : Nat) (A : Option Addr) (c : Nat) (e : Ex) (w : World) (hv : RepV w B e A c) (hB : B ≤ w.heap.size)
    (eg : ∀ args w, (callFunc g args).run Try.prog w = .ok (.enter g args) w) (hp : ∀ x ∈ e.args, ∀ v W, Below w.heap.size w W → Rep W B x v → Calls Try.prog g ([] ++ [v] ++ cp).toArray W fun en w' => en = .returned (.bool (p x)) ∧ Grow W w') :
    Calls Try.prog 119 #[.slice A e.args.length c, .func (.func g) #[] cp.toArray] w fun en w' => en = .returned (.bool (e.args.any p)) ∧ Grow w w' := by
  have bel := Below.refl w.heap.size w
  have hc := fun W (hb : Below w.heap.size w W) => indexE_any g cp p B A c e W (hv.below (hb.mono hB)) (Nat.le_trans hB hb.size) eg (fun x hx v W2 hb2 hr => hp x hx v W2 (hb.trans (hb2.mono hb.size)) hr)
  have hany := idxP_any p e.args
  obtain ⟨n, hn⟩ : ∃ n, n = e.args.length := ⟨_, rfl⟩
  rw [← hn] at hc ⊢
  refine Calls.start 9 Try.func119 rfl rfl rfl ?_
  refine Cd.seq ?_
  refine Cd.region ?_
  refine Seq.val (Runs.assign rfl rfl) rfl rfl rfl ?_
  refine Seq.nil ?_
  refine Post.weak (F' := [(0, _), (1, _), (4, _)]) ⟨rfl, rfl, rfl, trivial⟩ ?_
  refine Post.then_ ?_
  refine Cd.seq ?_
  refine Cd.region ?_
  refine Seq.val (Runs.move rfl rfl) rfl rfl rfl ?_
  refine Seq.val (Runs.move rfl rfl) rfl rfl rfl ?_
  refine Seq.call (Enters.func rfl rfl rfl (run_enter Try.func153 (by kernel_rfl) rfl)) rfl rfl rfl (hc _ bel) ?_
  rintro en w5 ⟨rfl, hb5⟩
  refine ⟨_, rfl, ?_⟩
  replace bel := bel.step hb5
  refine Seq.val (Runs.geq rfl rfl rfl) rfl rfl rfl ?_
  refine Seq.val (Runs.assign rfl rfl) rfl rfl rfl ?_
  refine Seq.nil ?_
  refine Post.weak (F' := [(0, _), (1, _), (4, _)]) ⟨rfl, rfl, rfl, trivial⟩ ?_
  refine Post.then_ ?_
  refine Cd.ret ?_
  refine Post.end1 rfl rfl (.inl rfl) ?_
  exact ⟨ret1 (bool_eq hany), bel⟩
/-- Is an expression's head as it must be? -/
def headB (op n : Int) (nm : List Nat) (k : Nat) : Bool := decide (arityZ op = (k : Int)) && !(decide (n ≠ 0) && decide (op ≠ 1) && decide (op ≠ 2)) && !(decide (nm ≠ []) && decide (op ≠ 3)) && !decide (n < 0) && !(decide (op = 2) && decide (2932896 < n)) && !(decide (op = 3) && !freeB nm)
mutual
def builtB : Ex → Bool
  | .mk op n nm l => headB op n nm l.length && builtL l
def builtL : List Ex → Bool
  | [] => true
  | e :: r => builtB e && builtL r
end
theorem builtL_all : ∀ l, builtL l = l.all builtB
  | [] => by rw [builtL]; rfl
  | e :: r => by rw [builtL, builtL_all r]; rfl
theorem builtB_eq (e : Ex) : builtB e = (headB e.op e.n e.name e.args.length && e.args.all builtB) := by
  cases e; rw [builtB, builtL_all]; rfl

theorem eg_built1 : ∀ args w, (callFunc 127 args).run Try.prog w = .ok (.enter 127 args) w := fun args w => run_enter Try.func127 (by kernel_rfl) rfl args w
theorem headB_false {op n : Int} {nm : List Nat} {k : Nat} (h : ¬ (arityZ op = (k : Int) ∧ (n = 0 ∨ op = 1 ∨ op = 2) ∧ (nm = [] ∨ op = 3) ∧ 0 ≤ n ∧ (op = 2 → n ≤ 2932896) ∧ (op = 3 → freeB nm = true))) : headB op n nm k = false := by
  cases hh : headB op n nm k with
  | false => rfl
  | true =>
    exfalso
    apply h
    unfold headB at hh
    simp at hh
    obtain ⟨⟨⟨⟨⟨h1, h2⟩, h3⟩, h4⟩, h5⟩, h6⟩ := hh
    exact ⟨h1, by omega, h3, h4, by omega, fun h => by
      rcases h6 with a | a
      · exact absurd h a
      · exact a⟩
theorem headB_true {op n : Int} {nm : List Nat} {k : Nat} (h1 : arityZ op = (k : Int)) (h2 : n = 0 ∨ op = 1 ∨ op = 2) (h3 : nm = [] ∨ op = 3) (h4 : 0 ≤ n) (h5 : op = 2 → n ≤ 2932896) (h6 : op = 3 → freeB nm = true) : headB op n nm k = true := by
  unfold headB
  simp
  refine ⟨⟨⟨⟨⟨h1, by omega⟩, h3⟩, h4⟩, by omega⟩, ?_⟩
  by_cases a : op = 3
  · exact .inr (h6 a)
  · exact .inl a
theorem builtExpr_any (N : Nat) : ∀ (e : Ex) (B : Nat) (v : Value) (w : World), e.nodes ≤ N → Rep w B e v → B ≤ w.heap.size → Calls Try.prog 76 #[v] w fun en w' => en = .returned (.bool (builtB e)) ∧ Grow w w' := by
  induction N with
  | zero => intro e B v w hN; have := e.nodes_pos; omega
  | succ N ih =>
  intro e B v w hN hrep hB
  obtain ⟨A, c, rfl, hv⟩ := hrep.open
  have bel := Below.refl w.heap.size w
  have HB1 := hv.name
  have HB2 : ∀ d ∈ ([] : List Nat), d < 256 := by simp
  have hnl := hv.nlen
  have h60 := hv.h60
  have hn1 := hv.n.1
  have hn2 := hv.n.2
  have hbt := builtB_eq e
  have hcl := fun W (hb : Below w.heap.size w W) => containsE_any 127 [] (fun x => !builtB x) B A c e W (hv.below (hb.mono hB)) (Nat.le_trans hB hb.size) eg_built1 (fun x hx v W2 hb2 hr => by
    have hxn := Ex.arg_nodes hx
    have hrec := ih x B v
    have hs2 := Nat.le_trans hB (Nat.le_trans hb.size hb2.size)
    obtain ⟨Ax, cx, rfl, -⟩ := hr.open
    have bel := Below.refl W2.heap.size W2
    have hrec := fun W3 (hb3 : Below W2.heap.size W2 W3) => hrec W3 (by omega) (hr.below (hb3.mono hs2)) (Nat.le_trans hs2 hb3.size)
    generalize builtB x = q at *
    refine Calls.start 6 Try.func127 rfl rfl rfl ?_
    refine Cd.seq ?_
    refine Cd.region ?_
    refine Seq.box rfl rfl rfl rfl rfl ?_
    intro g1 w1 n1
    have e1 := Nat.le_trans bel.size n1.ge
    replace bel := bel.step n1.below
    have k1 := n1.blk
    refine Seq.val (Runs.assign rfl rfl) rfl rfl rfl ?_
    refine Seq.nil ?_
    refine Post.weak (F' := [(0, _), (1, _), (2, _)]) ⟨rfl, rfl, rfl, trivial⟩ ?_
    refine Post.then_ ?_
    refine Cd.seq ?_
    refine Cd.region ?_
    refine Seq.val (Runs.loadW rfl rfl Try.underlying35 rfl k1 (m := 4) (by kernel_rfl) rfl) rfl rfl rfl ?_
    refine Seq.call (Enters.func rfl rfl rfl (run_enter Try.func76 (by kernel_rfl) rfl)) rfl rfl rfl (hrec _ bel) ?_
    rintro en w5 ⟨rfl, hb5⟩
    refine ⟨_, rfl, ?_⟩
    replace bel := bel.step hb5
    replace k1 := k1.step hb5
    refine Seq.val (Runs.not rfl rfl) rfl rfl rfl ?_
    refine Seq.val (Runs.assign rfl rfl) rfl rfl rfl ?_
    refine Seq.nil ?_
    refine Post.weak (F' := [(0, _), (1, _), (2, _)]) ⟨rfl, rfl, rfl, trivial⟩ ?_
    refine Post.then_ ?_
    refine Cd.ret ?_
    refine Post.end1 rfl rfl (.inl rfl) ?_
    exact ⟨rfl, bel⟩)
  obtain ⟨op, hop⟩ : ∃ op, op = e.op := ⟨_, rfl⟩
  obtain ⟨n, hn⟩ : ∃ n, n = e.n := ⟨_, rfl⟩
  obtain ⟨nm, hnm⟩ : ∃ nm, nm = e.name := ⟨_, rfl⟩
  obtain ⟨k, hk⟩ : ∃ k, k = e.args.length := ⟨_, rfl⟩
  rw [← hop, ← hn, ← hnm, ← hk] at hbt
  rw [← hnm] at HB1 hnl
  rw [← hn] at hn1 hn2
  rw [← hk] at h60 hcl
  rw [← hop, ← hn, ← hnm, ← hk]
  have hbf : ∀ _ : ¬ (arityZ op = (k : Int) ∧ (n = 0 ∨ op = 1 ∨ op = 2) ∧ (nm = [] ∨ op = 3) ∧ 0 ≤ n ∧ (op = 2 → n ≤ 2932896) ∧ (op = 3 → freeB nm = true)), builtB e = false := fun h => by rw [hbt, headB_false h]; rfl
  generalize builtB e = b at *
  refine Calls.start 60 Try.func76 rfl rfl rfl ?_
  refine Cd.seq ?_
  refine Cd.region ?_
  refine Seq.box rfl rfl rfl rfl rfl ?_
  intro g1 w1 n1
  have e1 := Nat.le_trans bel.size n1.ge
  replace bel := bel.step n1.below
  have k1 := n1.blk
  refine Seq.val (Runs.assign rfl rfl) rfl rfl rfl ?_
  refine Seq.nil ?_
  refine Post.weak (F' := [(0, _), (1, _), (2, _)]) ⟨rfl, rfl, rfl, trivial⟩ ?_
  refine Post.then_ ?_
  refine Cd.seqJ (σ := Unit) (fun _ => [(1, .pointer (some ⟨g1, 0, none⟩))]) (fun _ wr => (arityZ op = (k : Int) ∧ (n = 0 ∨ op = 1 ∨ op = 2) ∧ (nm = [] ∨ op = 3)) ∧ Below w.heap.size w wr ∧ Blk wr g1 35 #[.int .i64 op, .int .i64 n, .string (strOf nm), .slice A k c]) ?_ ?_
  · skip
    by_cases h1 : arityZ op = (k : Int)
    · by_cases h2 : n = 0
      · skip
        by_cases h5 : nm = []
        · skip
          refine Cd.seq ?_
          refine Cd.draw 32 (by kernel_rfl) [] (.inl rfl) rfl Grow Grow.refl (fun _ _ _ => Grow.trans) ?_
          intro w2 hw2 zw2
          replace bel := bel.step hw2
          replace k1 := k1.step hw2
          have zbel := bel.size
          have zlt := k1.lt
          refine Dr.val Grow.refl rfl (fun w hG => Runs.fieldB 0 rfl rfl Try.underlying35 rfl (by kernel_rfl)) rfl ?_
          refine Dr.val Grow.refl rfl (fun w hG => Runs.loadB rfl rfl Try.underlying3 rfl (k1.step hG) rfl) rfl ?_
          refine Dr.callV rfl (fun w => Enters.func rfl rfl rfl (run_enter Try.func126 (by kernel_rfl) rfl)) rfl (fun w hG => arity_any op w) ?_
          refine Dr.val Grow.refl rfl (fun w hG => Runs.fieldB 3 rfl rfl Try.underlying35 rfl (by kernel_rfl)) rfl ?_
          refine Dr.val Grow.refl rfl (fun w hG => Runs.loadB rfl rfl Try.underlying25 rfl (k1.step hG) rfl) rfl ?_
          refine Dr.val Grow.refl rfl (fun w hG => Runs.len rfl rfl Try.underlying25) rfl ?_
          refine Dr.val Grow.refl rfl (fun w hG => (Runs.neqI rfl rfl rfl).isF (by omega)) rfl ?_
          refine Dr.val Grow.refl rfl (fun w hG => Runs.move rfl rfl) rfl ?_
          refine Dr.valG Grow.refl rfl (fun w hG => Runs.fieldB 1 rfl rfl Try.underlying35 rfl (by kernel_rfl)) rfl rfl rfl ?_
          refine Dr.valG Grow.refl rfl (fun w hG => Runs.loadB rfl rfl Try.underlying2 rfl (k1.step hG) rfl) rfl rfl rfl ?_
          refine Dr.valG Grow.refl rfl (fun w hG => (Runs.neqI rfl rfl rfl).isF (by omega)) rfl rfl rfl ?_
          refine Dr.valG Grow.refl rfl (fun w hG => Runs.move rfl rfl) rfl rfl rfl ?_
          refine Dr.skip rfl rfl rfl rfl rfl ?_
          refine Dr.skip rfl rfl rfl rfl rfl ?_
          refine Dr.skip rfl rfl rfl rfl rfl ?_
          refine Dr.valG Grow.refl rfl (fun w hG => Runs.pickF rfl rfl rfl) rfl rfl rfl ?_
          refine Dr.valG Grow.refl rfl (fun w hG => Runs.move rfl rfl) rfl rfl rfl ?_
          refine Dr.skip rfl rfl rfl rfl rfl ?_
          refine Dr.skip rfl rfl rfl rfl rfl ?_
          refine Dr.skip rfl rfl rfl rfl rfl ?_
          refine Dr.valG Grow.refl rfl (fun w hG => Runs.pickF rfl rfl rfl) rfl rfl rfl ?_
          refine Dr.val Grow.refl rfl (fun w hG => Runs.pickF rfl rfl rfl) rfl ?_
          refine Dr.val Grow.refl rfl (fun w hG => Runs.move rfl rfl) rfl ?_
          refine Dr.valG Grow.refl rfl (fun w hG => Runs.fieldB 2 rfl rfl Try.underlying35 rfl (by kernel_rfl)) rfl rfl rfl ?_
          refine Dr.valG Grow.refl rfl (fun w hG => Runs.loadB rfl rfl Try.underlying9 rfl (k1.step hG) rfl) rfl rfl rfl ?_
          refine Dr.valG Grow.refl rfl (fun w hG => (Runs.neqL (b := []) rfl rfl rfl HB1 HB2).isF (by simp [h5])) rfl rfl rfl ?_
          refine Dr.valG Grow.refl rfl (fun w hG => Runs.move rfl rfl) rfl rfl rfl ?_
          refine Dr.skip rfl rfl rfl rfl rfl ?_
          refine Dr.skip rfl rfl rfl rfl rfl ?_
          refine Dr.skip rfl rfl rfl rfl rfl ?_
          refine Dr.valG Grow.refl rfl (fun w hG => Runs.pickF rfl rfl rfl) rfl rfl rfl ?_
          refine Dr.val Grow.refl rfl (fun w hG => Runs.pickF rfl rfl rfl) rfl ?_
          refine Dr.nil ?_
          refine FinX.done (F' := [(0, _), (1, _), (2, _), (34, _)]) rfl ⟨rfl, rfl, rfl, rfl, trivial⟩ ?_
          intro w3 hw3 fw3
          replace bel := bel.step hw3
          replace k1 := k1.step hw3
          refine Seq.nil ?_
          refine Post.weak (F' := [(0, _), (1, _), (2, _), (34, _)]) ⟨rfl, rfl, rfl, rfl, trivial⟩ ?_
          refine Post.then_ ?_
          refine Cd.condF rfl rfl ?_
          refine Cd.skip ?_
          exact Post.join () ⟨rfl, trivial⟩ ⟨⟨h1, .inl h2, .inl h5⟩, bel, k1⟩
        · by_cases h6 : op = 3
          · skip
            refine Cd.seq ?_
            refine Cd.draw 32 (by kernel_rfl) [] (.inl rfl) rfl Grow Grow.refl (fun _ _ _ => Grow.trans) ?_
            intro w2 hw2 zw2
            replace bel := bel.step hw2
            replace k1 := k1.step hw2
            have zbel := bel.size
            have zlt := k1.lt
            refine Dr.val Grow.refl rfl (fun w hG => Runs.fieldB 0 rfl rfl Try.underlying35 rfl (by kernel_rfl)) rfl ?_
            refine Dr.val Grow.refl rfl (fun w hG => Runs.loadB rfl rfl Try.underlying3 rfl (k1.step hG) rfl) rfl ?_
            refine Dr.callV rfl (fun w => Enters.func rfl rfl rfl (run_enter Try.func126 (by kernel_rfl) rfl)) rfl (fun w hG => arity_any op w) ?_
            refine Dr.val Grow.refl rfl (fun w hG => Runs.fieldB 3 rfl rfl Try.underlying35 rfl (by kernel_rfl)) rfl ?_
            refine Dr.val Grow.refl rfl (fun w hG => Runs.loadB rfl rfl Try.underlying25 rfl (k1.step hG) rfl) rfl ?_
            refine Dr.val Grow.refl rfl (fun w hG => Runs.len rfl rfl Try.underlying25) rfl ?_
            refine Dr.val Grow.refl rfl (fun w hG => (Runs.neqI rfl rfl rfl).isF (by omega)) rfl ?_
            refine Dr.val Grow.refl rfl (fun w hG => Runs.move rfl rfl) rfl ?_
            refine Dr.valG Grow.refl rfl (fun w hG => Runs.fieldB 1 rfl rfl Try.underlying35 rfl (by kernel_rfl)) rfl rfl rfl ?_
            refine Dr.valG Grow.refl rfl (fun w hG => Runs.loadB rfl rfl Try.underlying2 rfl (k1.step hG) rfl) rfl rfl rfl ?_
            refine Dr.valG Grow.refl rfl (fun w hG => (Runs.neqI rfl rfl rfl).isF (by omega)) rfl rfl rfl ?_
            refine Dr.valG Grow.refl rfl (fun w hG => Runs.move rfl rfl) rfl rfl rfl ?_
            refine Dr.skip rfl rfl rfl rfl rfl ?_
            refine Dr.skip rfl rfl rfl rfl rfl ?_
            refine Dr.skip rfl rfl rfl rfl rfl ?_
            refine Dr.valG Grow.refl rfl (fun w hG => Runs.pickF rfl rfl rfl) rfl rfl rfl ?_
            refine Dr.valG Grow.refl rfl (fun w hG => Runs.move rfl rfl) rfl rfl rfl ?_
            refine Dr.skip rfl rfl rfl rfl rfl ?_
            refine Dr.skip rfl rfl rfl rfl rfl ?_
            refine Dr.skip rfl rfl rfl rfl rfl ?_
            refine Dr.valG Grow.refl rfl (fun w hG => Runs.pickF rfl rfl rfl) rfl rfl rfl ?_
            refine Dr.val Grow.refl rfl (fun w hG => Runs.pickF rfl rfl rfl) rfl ?_
            refine Dr.val Grow.refl rfl (fun w hG => Runs.move rfl rfl) rfl ?_
            refine Dr.valG Grow.refl rfl (fun w hG => Runs.fieldB 2 rfl rfl Try.underlying35 rfl (by kernel_rfl)) rfl rfl rfl ?_
            refine Dr.valG Grow.refl rfl (fun w hG => Runs.loadB rfl rfl Try.underlying9 rfl (k1.step hG) rfl) rfl rfl rfl ?_
            refine Dr.valG Grow.refl rfl (fun w hG => (Runs.neqL (b := []) rfl rfl rfl HB1 HB2).isT (h5)) rfl rfl rfl ?_
            refine Dr.valG Grow.refl rfl (fun w hG => Runs.move rfl rfl) rfl rfl rfl ?_
            refine Dr.valG Grow.refl rfl (fun w hG => Runs.fieldB 0 rfl rfl Try.underlying35 rfl (by kernel_rfl)) rfl rfl rfl ?_
            refine Dr.valG Grow.refl rfl (fun w hG => Runs.loadB rfl rfl Try.underlying3 rfl (k1.step hG) rfl) rfl rfl rfl ?_
            refine Dr.valG Grow.refl rfl (fun w hG => (Runs.neqI rfl rfl rfl).isF (by omega)) rfl rfl rfl ?_
            refine Dr.valG Grow.refl rfl (fun w hG => Runs.pickT rfl rfl rfl) rfl rfl rfl ?_
            refine Dr.val Grow.refl rfl (fun w hG => Runs.pickF rfl rfl rfl) rfl ?_
            refine Dr.nil ?_
            refine FinX.done (F' := [(0, _), (1, _), (2, _), (34, _)]) rfl ⟨rfl, rfl, rfl, rfl, trivial⟩ ?_
            intro w3 hw3 fw3
            replace bel := bel.step hw3
            replace k1 := k1.step hw3
            refine Seq.nil ?_
            refine Post.weak (F' := [(0, _), (1, _), (2, _), (34, _)]) ⟨rfl, rfl, rfl, rfl, trivial⟩ ?_
            refine Post.then_ ?_
            refine Cd.condF rfl rfl ?_
            refine Cd.skip ?_
            exact Post.join () ⟨rfl, trivial⟩ ⟨⟨h1, .inl h2, .inr h6⟩, bel, k1⟩
          · skip
            refine Cd.seq ?_
            refine Cd.draw 32 (by kernel_rfl) [] (.inl rfl) rfl Grow Grow.refl (fun _ _ _ => Grow.trans) ?_
            intro w2 hw2 zw2
            replace bel := bel.step hw2
            replace k1 := k1.step hw2
            have zbel := bel.size
            have zlt := k1.lt
            refine Dr.val Grow.refl rfl (fun w hG => Runs.fieldB 0 rfl rfl Try.underlying35 rfl (by kernel_rfl)) rfl ?_
            refine Dr.val Grow.refl rfl (fun w hG => Runs.loadB rfl rfl Try.underlying3 rfl (k1.step hG) rfl) rfl ?_
            refine Dr.callV rfl (fun w => Enters.func rfl rfl rfl (run_enter Try.func126 (by kernel_rfl) rfl)) rfl (fun w hG => arity_any op w) ?_
            refine Dr.val Grow.refl rfl (fun w hG => Runs.fieldB 3 rfl rfl Try.underlying35 rfl (by kernel_rfl)) rfl ?_
            refine Dr.val Grow.refl rfl (fun w hG => Runs.loadB rfl rfl Try.underlying25 rfl (k1.step hG) rfl) rfl ?_
            refine Dr.val Grow.refl rfl (fun w hG => Runs.len rfl rfl Try.underlying25) rfl ?_
            refine Dr.val Grow.refl rfl (fun w hG => (Runs.neqI rfl rfl rfl).isF (by omega)) rfl ?_
            refine Dr.val Grow.refl rfl (fun w hG => Runs.move rfl rfl) rfl ?_
            refine Dr.valG Grow.refl rfl (fun w hG => Runs.fieldB 1 rfl rfl Try.underlying35 rfl (by kernel_rfl)) rfl rfl rfl ?_
            refine Dr.valG Grow.refl rfl (fun w hG => Runs.loadB rfl rfl Try.underlying2 rfl (k1.step hG) rfl) rfl rfl rfl ?_
            refine Dr.valG Grow.refl rfl (fun w hG => (Runs.neqI rfl rfl rfl).isF (by omega)) rfl rfl rfl ?_
            refine Dr.valG Grow.refl rfl (fun w hG => Runs.move rfl rfl) rfl rfl rfl ?_
            refine Dr.skip rfl rfl rfl rfl rfl ?_
            refine Dr.skip rfl rfl rfl rfl rfl ?_
            refine Dr.skip rfl rfl rfl rfl rfl ?_
            refine Dr.valG Grow.refl rfl (fun w hG => Runs.pickF rfl rfl rfl) rfl rfl rfl ?_
            refine Dr.valG Grow.refl rfl (fun w hG => Runs.move rfl rfl) rfl rfl rfl ?_
            refine Dr.skip rfl rfl rfl rfl rfl ?_
            refine Dr.skip rfl rfl rfl rfl rfl ?_
            refine Dr.skip rfl rfl rfl rfl rfl ?_
            refine Dr.valG Grow.refl rfl (fun w hG => Runs.pickF rfl rfl rfl) rfl rfl rfl ?_
            refine Dr.val Grow.refl rfl (fun w hG => Runs.pickF rfl rfl rfl) rfl ?_
            refine Dr.val Grow.refl rfl (fun w hG => Runs.move rfl rfl) rfl ?_
            refine Dr.valG Grow.refl rfl (fun w hG => Runs.fieldB 2 rfl rfl Try.underlying35 rfl (by kernel_rfl)) rfl rfl rfl ?_
            refine Dr.valG Grow.refl rfl (fun w hG => Runs.loadB rfl rfl Try.underlying9 rfl (k1.step hG) rfl) rfl rfl rfl ?_
            refine Dr.valG Grow.refl rfl (fun w hG => (Runs.neqL (b := []) rfl rfl rfl HB1 HB2).isT (h5)) rfl rfl rfl ?_
            refine Dr.valG Grow.refl rfl (fun w hG => Runs.move rfl rfl) rfl rfl rfl ?_
            refine Dr.valG Grow.refl rfl (fun w hG => Runs.fieldB 0 rfl rfl Try.underlying35 rfl (by kernel_rfl)) rfl rfl rfl ?_
            refine Dr.valG Grow.refl rfl (fun w hG => Runs.loadB rfl rfl Try.underlying3 rfl (k1.step hG) rfl) rfl rfl rfl ?_
            refine Dr.valG Grow.refl rfl (fun w hG => (Runs.neqI rfl rfl rfl).isT (h6)) rfl rfl rfl ?_
            refine Dr.valG Grow.refl rfl (fun w hG => Runs.pickT rfl rfl rfl) rfl rfl rfl ?_
            refine Dr.val Grow.refl rfl (fun w hG => Runs.pickF rfl rfl rfl) rfl ?_
            refine Dr.nil ?_
            refine FinX.done (F' := [(0, _), (1, _), (2, _), (34, _)]) rfl ⟨rfl, rfl, rfl, rfl, trivial⟩ ?_
            intro w3 hw3 fw3
            replace bel := bel.step hw3
            replace k1 := k1.step hw3
            refine Seq.nil ?_
            refine Post.weak (F' := [(0, _), (1, _), (2, _), (34, _)]) ⟨rfl, rfl, rfl, rfl, trivial⟩ ?_
            refine Post.then_ ?_
            refine Cd.condT rfl rfl ?_
            refine Cd.seq ?_
            refine Cd.region ?_
            refine Seq.val (Runs.assign rfl rfl) rfl rfl rfl ?_
            refine Seq.nil ?_
            refine Post.weak (F' := [(0, _), (1, _), (2, _), (34, _)]) ⟨rfl, rfl, rfl, rfl, trivial⟩ ?_
            refine Post.then_ ?_
            refine Cd.ret ?_
            refine Post.then_ret ?_
            refine Post.end1 rfl rfl (.inl rfl) ?_
            rw [hbf (by rintro ⟨-, -, h, -⟩; rcases h with h | h; exact h5 h; exact h6 h)]
            exact ⟨rfl, bel⟩
      · by_cases h3 : op = 1
        · skip
          by_cases h5 : nm = []
          · skip
            refine Cd.seq ?_
            refine Cd.draw 32 (by kernel_rfl) [] (.inl rfl) rfl Grow Grow.refl (fun _ _ _ => Grow.trans) ?_
            intro w2 hw2 zw2
            replace bel := bel.step hw2
            replace k1 := k1.step hw2
            have zbel := bel.size
            have zlt := k1.lt
            refine Dr.val Grow.refl rfl (fun w hG => Runs.fieldB 0 rfl rfl Try.underlying35 rfl (by kernel_rfl)) rfl ?_
            refine Dr.val Grow.refl rfl (fun w hG => Runs.loadB rfl rfl Try.underlying3 rfl (k1.step hG) rfl) rfl ?_
            refine Dr.callV rfl (fun w => Enters.func rfl rfl rfl (run_enter Try.func126 (by kernel_rfl) rfl)) rfl (fun w hG => arity_any op w) ?_
            refine Dr.val Grow.refl rfl (fun w hG => Runs.fieldB 3 rfl rfl Try.underlying35 rfl (by kernel_rfl)) rfl ?_
            refine Dr.val Grow.refl rfl (fun w hG => Runs.loadB rfl rfl Try.underlying25 rfl (k1.step hG) rfl) rfl ?_
            refine Dr.val Grow.refl rfl (fun w hG => Runs.len rfl rfl Try.underlying25) rfl ?_
            refine Dr.val Grow.refl rfl (fun w hG => (Runs.neqI rfl rfl rfl).isF (by omega)) rfl ?_
            refine Dr.val Grow.refl rfl (fun w hG => Runs.move rfl rfl) rfl ?_
            refine Dr.valG Grow.refl rfl (fun w hG => Runs.fieldB 1 rfl rfl Try.underlying35 rfl (by kernel_rfl)) rfl rfl rfl ?_
            refine Dr.valG Grow.refl rfl (fun w hG => Runs.loadB rfl rfl Try.underlying2 rfl (k1.step hG) rfl) rfl rfl rfl ?_
            refine Dr.valG Grow.refl rfl (fun w hG => (Runs.neqI rfl rfl rfl).isT (h2)) rfl rfl rfl ?_
            refine Dr.valG Grow.refl rfl (fun w hG => Runs.move rfl rfl) rfl rfl rfl ?_
            refine Dr.valG Grow.refl rfl (fun w hG => Runs.fieldB 0 rfl rfl Try.underlying35 rfl (by kernel_rfl)) rfl rfl rfl ?_
            refine Dr.valG Grow.refl rfl (fun w hG => Runs.loadB rfl rfl Try.underlying3 rfl (k1.step hG) rfl) rfl rfl rfl ?_
            refine Dr.valG Grow.refl rfl (fun w hG => (Runs.neqI rfl rfl rfl).isF (by omega)) rfl rfl rfl ?_
            refine Dr.valG Grow.refl rfl (fun w hG => Runs.pickT rfl rfl rfl) rfl rfl rfl ?_
            refine Dr.valG Grow.refl rfl (fun w hG => Runs.move rfl rfl) rfl rfl rfl ?_
            refine Dr.skip rfl rfl rfl rfl rfl ?_
            refine Dr.skip rfl rfl rfl rfl rfl ?_
            refine Dr.skip rfl rfl rfl rfl rfl ?_
            refine Dr.valG Grow.refl rfl (fun w hG => Runs.pickF rfl rfl rfl) rfl rfl rfl ?_
            refine Dr.val Grow.refl rfl (fun w hG => Runs.pickF rfl rfl rfl) rfl ?_
            refine Dr.val Grow.refl rfl (fun w hG => Runs.move rfl rfl) rfl ?_
            refine Dr.valG Grow.refl rfl (fun w hG => Runs.fieldB 2 rfl rfl Try.underlying35 rfl (by kernel_rfl)) rfl rfl rfl ?_
            refine Dr.valG Grow.refl rfl (fun w hG => Runs.loadB rfl rfl Try.underlying9 rfl (k1.step hG) rfl) rfl rfl rfl ?_
            refine Dr.valG Grow.refl rfl (fun w hG => (Runs.neqL (b := []) rfl rfl rfl HB1 HB2).isF (by simp [h5])) rfl rfl rfl ?_
            refine Dr.valG Grow.refl rfl (fun w hG => Runs.move rfl rfl) rfl rfl rfl ?_
            refine Dr.skip rfl rfl rfl rfl rfl ?_
            refine Dr.skip rfl rfl rfl rfl rfl ?_
            refine Dr.skip rfl rfl rfl rfl rfl ?_
            refine Dr.valG Grow.refl rfl (fun w hG => Runs.pickF rfl rfl rfl) rfl rfl rfl ?_
            refine Dr.val Grow.refl rfl (fun w hG => Runs.pickF rfl rfl rfl) rfl ?_
            refine Dr.nil ?_
            refine FinX.done (F' := [(0, _), (1, _), (2, _), (34, _)]) rfl ⟨rfl, rfl, rfl, rfl, trivial⟩ ?_
            intro w3 hw3 fw3
            replace bel := bel.step hw3
            replace k1 := k1.step hw3
            refine Seq.nil ?_
            refine Post.weak (F' := [(0, _), (1, _), (2, _), (34, _)]) ⟨rfl, rfl, rfl, rfl, trivial⟩ ?_
            refine Post.then_ ?_
            refine Cd.condF rfl rfl ?_
            refine Cd.skip ?_
            exact Post.join () ⟨rfl, trivial⟩ ⟨⟨h1, .inr (.inl h3), .inl h5⟩, bel, k1⟩
          · by_cases h6 : op = 3
            · skip
              refine Cd.seq ?_
              refine Cd.draw 32 (by kernel_rfl) [] (.inl rfl) rfl Grow Grow.refl (fun _ _ _ => Grow.trans) ?_
              intro w2 hw2 zw2
              replace bel := bel.step hw2
              replace k1 := k1.step hw2
              have zbel := bel.size
              have zlt := k1.lt
              refine Dr.val Grow.refl rfl (fun w hG => Runs.fieldB 0 rfl rfl Try.underlying35 rfl (by kernel_rfl)) rfl ?_
              refine Dr.val Grow.refl rfl (fun w hG => Runs.loadB rfl rfl Try.underlying3 rfl (k1.step hG) rfl) rfl ?_
              refine Dr.callV rfl (fun w => Enters.func rfl rfl rfl (run_enter Try.func126 (by kernel_rfl) rfl)) rfl (fun w hG => arity_any op w) ?_
              refine Dr.val Grow.refl rfl (fun w hG => Runs.fieldB 3 rfl rfl Try.underlying35 rfl (by kernel_rfl)) rfl ?_
              refine Dr.val Grow.refl rfl (fun w hG => Runs.loadB rfl rfl Try.underlying25 rfl (k1.step hG) rfl) rfl ?_
              refine Dr.val Grow.refl rfl (fun w hG => Runs.len rfl rfl Try.underlying25) rfl ?_
              refine Dr.val Grow.refl rfl (fun w hG => (Runs.neqI rfl rfl rfl).isF (by omega)) rfl ?_
              refine Dr.val Grow.refl rfl (fun w hG => Runs.move rfl rfl) rfl ?_
              refine Dr.valG Grow.refl rfl (fun w hG => Runs.fieldB 1 rfl rfl Try.underlying35 rfl (by kernel_rfl)) rfl rfl rfl ?_
              refine Dr.valG Grow.refl rfl (fun w hG => Runs.loadB rfl rfl Try.underlying2 rfl (k1.step hG) rfl) rfl rfl rfl ?_
              refine Dr.valG Grow.refl rfl (fun w hG => (Runs.neqI rfl rfl rfl).isT (h2)) rfl rfl rfl ?_
              refine Dr.valG Grow.refl rfl (fun w hG => Runs.move rfl rfl) rfl rfl rfl ?_
              refine Dr.valG Grow.refl rfl (fun w hG => Runs.fieldB 0 rfl rfl Try.underlying35 rfl (by kernel_rfl)) rfl rfl rfl ?_
              refine Dr.valG Grow.refl rfl (fun w hG => Runs.loadB rfl rfl Try.underlying3 rfl (k1.step hG) rfl) rfl rfl rfl ?_
              refine Dr.valG Grow.refl rfl (fun w hG => (Runs.neqI rfl rfl rfl).isF (by omega)) rfl rfl rfl ?_
              refine Dr.valG Grow.refl rfl (fun w hG => Runs.pickT rfl rfl rfl) rfl rfl rfl ?_
              refine Dr.valG Grow.refl rfl (fun w hG => Runs.move rfl rfl) rfl rfl rfl ?_
              refine Dr.skip rfl rfl rfl rfl rfl ?_
              refine Dr.skip rfl rfl rfl rfl rfl ?_
              refine Dr.skip rfl rfl rfl rfl rfl ?_
              refine Dr.valG Grow.refl rfl (fun w hG => Runs.pickF rfl rfl rfl) rfl rfl rfl ?_
              refine Dr.val Grow.refl rfl (fun w hG => Runs.pickF rfl rfl rfl) rfl ?_
              refine Dr.val Grow.refl rfl (fun w hG => Runs.move rfl rfl) rfl ?_
              refine Dr.valG Grow.refl rfl (fun w hG => Runs.fieldB 2 rfl rfl Try.underlying35 rfl (by kernel_rfl)) rfl rfl rfl ?_
              refine Dr.valG Grow.refl rfl (fun w hG => Runs.loadB rfl rfl Try.underlying9 rfl (k1.step hG) rfl) rfl rfl rfl ?_
              refine Dr.valG Grow.refl rfl (fun w hG => (Runs.neqL (b := []) rfl rfl rfl HB1 HB2).isT (h5)) rfl rfl rfl ?_
              refine Dr.valG Grow.refl rfl (fun w hG => Runs.move rfl rfl) rfl rfl rfl ?_
              refine Dr.valG Grow.refl rfl (fun w hG => Runs.fieldB 0 rfl rfl Try.underlying35 rfl (by kernel_rfl)) rfl rfl rfl ?_
              refine Dr.valG Grow.refl rfl (fun w hG => Runs.loadB rfl rfl Try.underlying3 rfl (k1.step hG) rfl) rfl rfl rfl ?_
              refine Dr.valG Grow.refl rfl (fun w hG => (Runs.neqI rfl rfl rfl).isF (by omega)) rfl rfl rfl ?_
              refine Dr.valG Grow.refl rfl (fun w hG => Runs.pickT rfl rfl rfl) rfl rfl rfl ?_
              refine Dr.val Grow.refl rfl (fun w hG => Runs.pickF rfl rfl rfl) rfl ?_
              refine Dr.nil ?_
              refine FinX.done (F' := [(0, _), (1, _), (2, _), (34, _)]) rfl ⟨rfl, rfl, rfl, rfl, trivial⟩ ?_
              intro w3 hw3 fw3
              replace bel := bel.step hw3
              replace k1 := k1.step hw3
              refine Seq.nil ?_
              refine Post.weak (F' := [(0, _), (1, _), (2, _), (34, _)]) ⟨rfl, rfl, rfl, rfl, trivial⟩ ?_
              refine Post.then_ ?_
              refine Cd.condF rfl rfl ?_
              refine Cd.skip ?_
              exact Post.join () ⟨rfl, trivial⟩ ⟨⟨h1, .inr (.inl h3), .inr h6⟩, bel, k1⟩
            · skip
              refine Cd.seq ?_
              refine Cd.draw 32 (by kernel_rfl) [] (.inl rfl) rfl Grow Grow.refl (fun _ _ _ => Grow.trans) ?_
              intro w2 hw2 zw2
              replace bel := bel.step hw2
              replace k1 := k1.step hw2
              have zbel := bel.size
              have zlt := k1.lt
              refine Dr.val Grow.refl rfl (fun w hG => Runs.fieldB 0 rfl rfl Try.underlying35 rfl (by kernel_rfl)) rfl ?_
              refine Dr.val Grow.refl rfl (fun w hG => Runs.loadB rfl rfl Try.underlying3 rfl (k1.step hG) rfl) rfl ?_
              refine Dr.callV rfl (fun w => Enters.func rfl rfl rfl (run_enter Try.func126 (by kernel_rfl) rfl)) rfl (fun w hG => arity_any op w) ?_
              refine Dr.val Grow.refl rfl (fun w hG => Runs.fieldB 3 rfl rfl Try.underlying35 rfl (by kernel_rfl)) rfl ?_
              refine Dr.val Grow.refl rfl (fun w hG => Runs.loadB rfl rfl Try.underlying25 rfl (k1.step hG) rfl) rfl ?_
              refine Dr.val Grow.refl rfl (fun w hG => Runs.len rfl rfl Try.underlying25) rfl ?_
              refine Dr.val Grow.refl rfl (fun w hG => (Runs.neqI rfl rfl rfl).isF (by omega)) rfl ?_
              refine Dr.val Grow.refl rfl (fun w hG => Runs.move rfl rfl) rfl ?_
              refine Dr.valG Grow.refl rfl (fun w hG => Runs.fieldB 1 rfl rfl Try.underlying35 rfl (by kernel_rfl)) rfl rfl rfl ?_
              refine Dr.valG Grow.refl rfl (fun w hG => Runs.loadB rfl rfl Try.underlying2 rfl (k1.step hG) rfl) rfl rfl rfl ?_
              refine Dr.valG Grow.refl rfl (fun w hG => (Runs.neqI rfl rfl rfl).isT (h2)) rfl rfl rfl ?_
              refine Dr.valG Grow.refl rfl (fun w hG => Runs.move rfl rfl) rfl rfl rfl ?_
              refine Dr.valG Grow.refl rfl (fun w hG => Runs.fieldB 0 rfl rfl Try.underlying35 rfl (by kernel_rfl)) rfl rfl rfl ?_
              refine Dr.valG Grow.refl rfl (fun w hG => Runs.loadB rfl rfl Try.underlying3 rfl (k1.step hG) rfl) rfl rfl rfl ?_
              refine Dr.valG Grow.refl rfl (fun w hG => (Runs.neqI rfl rfl rfl).isF (by omega)) rfl rfl rfl ?_
              refine Dr.valG Grow.refl rfl (fun w hG => Runs.pickT rfl rfl rfl) rfl rfl rfl ?_
              refine Dr.valG Grow.refl rfl (fun w hG => Runs.move rfl rfl) rfl rfl rfl ?_
              refine Dr.skip rfl rfl rfl rfl rfl ?_
              refine Dr.skip rfl rfl rfl rfl rfl ?_
              refine Dr.skip rfl rfl rfl rfl rfl ?_
              refine Dr.valG Grow.refl rfl (fun w hG => Runs.pickF rfl rfl rfl) rfl rfl rfl ?_
              refine Dr.val Grow.refl rfl (fun w hG => Runs.pickF rfl rfl rfl) rfl ?_
              refine Dr.val Grow.refl rfl (fun w hG => Runs.move rfl rfl) rfl ?_
              refine Dr.valG Grow.refl rfl (fun w hG => Runs.fieldB 2 rfl rfl Try.underlying35 rfl (by kernel_rfl)) rfl rfl rfl ?_
              refine Dr.valG Grow.refl rfl (fun w hG => Runs.loadB rfl rfl Try.underlying9 rfl (k1.step hG) rfl) rfl rfl rfl ?_
              refine Dr.valG Grow.refl rfl (fun w hG => (Runs.neqL (b := []) rfl rfl rfl HB1 HB2).isT (h5)) rfl rfl rfl ?_
              refine Dr.valG Grow.refl rfl (fun w hG => Runs.move rfl rfl) rfl rfl rfl ?_
              refine Dr.valG Grow.refl rfl (fun w hG => Runs.fieldB 0 rfl rfl Try.underlying35 rfl (by kernel_rfl)) rfl rfl rfl ?_
              refine Dr.valG Grow.refl rfl (fun w hG => Runs.loadB rfl rfl Try.underlying3 rfl (k1.step hG) rfl) rfl rfl rfl ?_
              refine Dr.valG Grow.refl rfl (fun w hG => (Runs.neqI rfl rfl rfl).isT (h6)) rfl rfl rfl ?_
              refine Dr.valG Grow.refl rfl (fun w hG => Runs.pickT rfl rfl rfl) rfl rfl rfl ?_
              refine Dr.val Grow.refl rfl (fun w hG => Runs.pickF rfl rfl rfl) rfl ?_
              refine Dr.nil ?_
              refine FinX.done (F' := [(0, _), (1, _), (2, _), (34, _)]) rfl ⟨rfl, rfl, rfl, rfl, trivial⟩ ?_
              intro w3 hw3 fw3
              replace bel := bel.step hw3
              replace k1 := k1.step hw3
              refine Seq.nil ?_
              refine Post.weak (F' := [(0, _), (1, _), (2, _), (34, _)]) ⟨rfl, rfl, rfl, rfl, trivial⟩ ?_
              refine Post.then_ ?_
              refine Cd.condT rfl rfl ?_
              refine Cd.seq ?_
              refine Cd.region ?_
              refine Seq.val (Runs.assign rfl rfl) rfl rfl rfl ?_
              refine Seq.nil ?_
              refine Post.weak (F' := [(0, _), (1, _), (2, _), (34, _)]) ⟨rfl, rfl, rfl, rfl, trivial⟩ ?_
              refine Post.then_ ?_
              refine Cd.ret ?_
              refine Post.then_ret ?_
              refine Post.end1 rfl rfl (.inl rfl) ?_
              rw [hbf (by rintro ⟨-, -, h, -⟩; rcases h with h | h; exact h5 h; exact h6 h)]
              exact ⟨rfl, bel⟩
        · by_cases h4 : op = 2
          · skip
            by_cases h5 : nm = []
            · skip
              refine Cd.seq ?_
              refine Cd.draw 32 (by kernel_rfl) [] (.inl rfl) rfl Grow Grow.refl (fun _ _ _ => Grow.trans) ?_
              intro w2 hw2 zw2
              replace bel := bel.step hw2
              replace k1 := k1.step hw2
              have zbel := bel.size
              have zlt := k1.lt
              refine Dr.val Grow.refl rfl (fun w hG => Runs.fieldB 0 rfl rfl Try.underlying35 rfl (by kernel_rfl)) rfl ?_
              refine Dr.val Grow.refl rfl (fun w hG => Runs.loadB rfl rfl Try.underlying3 rfl (k1.step hG) rfl) rfl ?_
              refine Dr.callV rfl (fun w => Enters.func rfl rfl rfl (run_enter Try.func126 (by kernel_rfl) rfl)) rfl (fun w hG => arity_any op w) ?_
              refine Dr.val Grow.refl rfl (fun w hG => Runs.fieldB 3 rfl rfl Try.underlying35 rfl (by kernel_rfl)) rfl ?_
              refine Dr.val Grow.refl rfl (fun w hG => Runs.loadB rfl rfl Try.underlying25 rfl (k1.step hG) rfl) rfl ?_
              refine Dr.val Grow.refl rfl (fun w hG => Runs.len rfl rfl Try.underlying25) rfl ?_
              refine Dr.val Grow.refl rfl (fun w hG => (Runs.neqI rfl rfl rfl).isF (by omega)) rfl ?_
              refine Dr.val Grow.refl rfl (fun w hG => Runs.move rfl rfl) rfl ?_
              refine Dr.valG Grow.refl rfl (fun w hG => Runs.fieldB 1 rfl rfl Try.underlying35 rfl (by kernel_rfl)) rfl rfl rfl ?_
              refine Dr.valG Grow.refl rfl (fun w hG => Runs.loadB rfl rfl Try.underlying2 rfl (k1.step hG) rfl) rfl rfl rfl ?_
              refine Dr.valG Grow.refl rfl (fun w hG => (Runs.neqI rfl rfl rfl).isT (h2)) rfl rfl rfl ?_
              refine Dr.valG Grow.refl rfl (fun w hG => Runs.move rfl rfl) rfl rfl rfl ?_
              refine Dr.valG Grow.refl rfl (fun w hG => Runs.fieldB 0 rfl rfl Try.underlying35 rfl (by kernel_rfl)) rfl rfl rfl ?_
              refine Dr.valG Grow.refl rfl (fun w hG => Runs.loadB rfl rfl Try.underlying3 rfl (k1.step hG) rfl) rfl rfl rfl ?_
              refine Dr.valG Grow.refl rfl (fun w hG => (Runs.neqI rfl rfl rfl).isT (h3)) rfl rfl rfl ?_
              refine Dr.valG Grow.refl rfl (fun w hG => Runs.pickT rfl rfl rfl) rfl rfl rfl ?_
              refine Dr.valG Grow.refl rfl (fun w hG => Runs.move rfl rfl) rfl rfl rfl ?_
              refine Dr.valG Grow.refl rfl (fun w hG => Runs.fieldB 0 rfl rfl Try.underlying35 rfl (by kernel_rfl)) rfl rfl rfl ?_
              refine Dr.valG Grow.refl rfl (fun w hG => Runs.loadB rfl rfl Try.underlying3 rfl (k1.step hG) rfl) rfl rfl rfl ?_
              refine Dr.valG Grow.refl rfl (fun w hG => (Runs.neqI rfl rfl rfl).isF (by omega)) rfl rfl rfl ?_
              refine Dr.valG Grow.refl rfl (fun w hG => Runs.pickT rfl rfl rfl) rfl rfl rfl ?_
              refine Dr.val Grow.refl rfl (fun w hG => Runs.pickF rfl rfl rfl) rfl ?_
              refine Dr.val Grow.refl rfl (fun w hG => Runs.move rfl rfl) rfl ?_
              refine Dr.valG Grow.refl rfl (fun w hG => Runs.fieldB 2 rfl rfl Try.underlying35 rfl (by kernel_rfl)) rfl rfl rfl ?_
              refine Dr.valG Grow.refl rfl (fun w hG => Runs.loadB rfl rfl Try.underlying9 rfl (k1.step hG) rfl) rfl rfl rfl ?_
              refine Dr.valG Grow.refl rfl (fun w hG => (Runs.neqL (b := []) rfl rfl rfl HB1 HB2).isF (by simp [h5])) rfl rfl rfl ?_
              refine Dr.valG Grow.refl rfl (fun w hG => Runs.move rfl rfl) rfl rfl rfl ?_
              refine Dr.skip rfl rfl rfl rfl rfl ?_
              refine Dr.skip rfl rfl rfl rfl rfl ?_
              refine Dr.skip rfl rfl rfl rfl rfl ?_
              refine Dr.valG Grow.refl rfl (fun w hG => Runs.pickF rfl rfl rfl) rfl rfl rfl ?_
              refine Dr.val Grow.refl rfl (fun w hG => Runs.pickF rfl rfl rfl) rfl ?_
              refine Dr.nil ?_
              refine FinX.done (F' := [(0, _), (1, _), (2, _), (34, _)]) rfl ⟨rfl, rfl, rfl, rfl, trivial⟩ ?_
              intro w3 hw3 fw3
              replace bel := bel.step hw3
              replace k1 := k1.step hw3
              refine Seq.nil ?_
              refine Post.weak (F' := [(0, _), (1, _), (2, _), (34, _)]) ⟨rfl, rfl, rfl, rfl, trivial⟩ ?_
              refine Post.then_ ?_
              refine Cd.condF rfl rfl ?_
              refine Cd.skip ?_
              exact Post.join () ⟨rfl, trivial⟩ ⟨⟨h1, .inr (.inr h4), .inl h5⟩, bel, k1⟩
            · by_cases h6 : op = 3
              · skip
                refine Cd.seq ?_
                refine Cd.draw 32 (by kernel_rfl) [] (.inl rfl) rfl Grow Grow.refl (fun _ _ _ => Grow.trans) ?_
                intro w2 hw2 zw2
                replace bel := bel.step hw2
                replace k1 := k1.step hw2
                have zbel := bel.size
                have zlt := k1.lt
                refine Dr.val Grow.refl rfl (fun w hG => Runs.fieldB 0 rfl rfl Try.underlying35 rfl (by kernel_rfl)) rfl ?_
                refine Dr.val Grow.refl rfl (fun w hG => Runs.loadB rfl rfl Try.underlying3 rfl (k1.step hG) rfl) rfl ?_
                refine Dr.callV rfl (fun w => Enters.func rfl rfl rfl (run_enter Try.func126 (by kernel_rfl) rfl)) rfl (fun w hG => arity_any op w) ?_
                refine Dr.val Grow.refl rfl (fun w hG => Runs.fieldB 3 rfl rfl Try.underlying35 rfl (by kernel_rfl)) rfl ?_
                refine Dr.val Grow.refl rfl (fun w hG => Runs.loadB rfl rfl Try.underlying25 rfl (k1.step hG) rfl) rfl ?_
                refine Dr.val Grow.refl rfl (fun w hG => Runs.len rfl rfl Try.underlying25) rfl ?_
                refine Dr.val Grow.refl rfl (fun w hG => (Runs.neqI rfl rfl rfl).isF (by omega)) rfl ?_
                refine Dr.val Grow.refl rfl (fun w hG => Runs.move rfl rfl) rfl ?_
                refine Dr.valG Grow.refl rfl (fun w hG => Runs.fieldB 1 rfl rfl Try.underlying35 rfl (by kernel_rfl)) rfl rfl rfl ?_
                refine Dr.valG Grow.refl rfl (fun w hG => Runs.loadB rfl rfl Try.underlying2 rfl (k1.step hG) rfl) rfl rfl rfl ?_
                refine Dr.valG Grow.refl rfl (fun w hG => (Runs.neqI rfl rfl rfl).isT (h2)) rfl rfl rfl ?_
                refine Dr.valG Grow.refl rfl (fun w hG => Runs.move rfl rfl) rfl rfl rfl ?_
                refine Dr.valG Grow.refl rfl (fun w hG => Runs.fieldB 0 rfl rfl Try.underlying35 rfl (by kernel_rfl)) rfl rfl rfl ?_
                refine Dr.valG Grow.refl rfl (fun w hG => Runs.loadB rfl rfl Try.underlying3 rfl (k1.step hG) rfl) rfl rfl rfl ?_
                refine Dr.valG Grow.refl rfl (fun w hG => (Runs.neqI rfl rfl rfl).isT (h3)) rfl rfl rfl ?_
                refine Dr.valG Grow.refl rfl (fun w hG => Runs.pickT rfl rfl rfl) rfl rfl rfl ?_
                refine Dr.valG Grow.refl rfl (fun w hG => Runs.move rfl rfl) rfl rfl rfl ?_
                refine Dr.valG Grow.refl rfl (fun w hG => Runs.fieldB 0 rfl rfl Try.underlying35 rfl (by kernel_rfl)) rfl rfl rfl ?_
                refine Dr.valG Grow.refl rfl (fun w hG => Runs.loadB rfl rfl Try.underlying3 rfl (k1.step hG) rfl) rfl rfl rfl ?_
                refine Dr.valG Grow.refl rfl (fun w hG => (Runs.neqI rfl rfl rfl).isF (by omega)) rfl rfl rfl ?_
                refine Dr.valG Grow.refl rfl (fun w hG => Runs.pickT rfl rfl rfl) rfl rfl rfl ?_
                refine Dr.val Grow.refl rfl (fun w hG => Runs.pickF rfl rfl rfl) rfl ?_
                refine Dr.val Grow.refl rfl (fun w hG => Runs.move rfl rfl) rfl ?_
                refine Dr.valG Grow.refl rfl (fun w hG => Runs.fieldB 2 rfl rfl Try.underlying35 rfl (by kernel_rfl)) rfl rfl rfl ?_
                refine Dr.valG Grow.refl rfl (fun w hG => Runs.loadB rfl rfl Try.underlying9 rfl (k1.step hG) rfl) rfl rfl rfl ?_
                refine Dr.valG Grow.refl rfl (fun w hG => (Runs.neqL (b := []) rfl rfl rfl HB1 HB2).isT (h5)) rfl rfl rfl ?_
                refine Dr.valG Grow.refl rfl (fun w hG => Runs.move rfl rfl) rfl rfl rfl ?_
                refine Dr.valG Grow.refl rfl (fun w hG => Runs.fieldB 0 rfl rfl Try.underlying35 rfl (by kernel_rfl)) rfl rfl rfl ?_
                refine Dr.valG Grow.refl rfl (fun w hG => Runs.loadB rfl rfl Try.underlying3 rfl (k1.step hG) rfl) rfl rfl rfl ?_
                refine Dr.valG Grow.refl rfl (fun w hG => (Runs.neqI rfl rfl rfl).isF (by omega)) rfl rfl rfl ?_
                refine Dr.valG Grow.refl rfl (fun w hG => Runs.pickT rfl rfl rfl) rfl rfl rfl ?_
                refine Dr.val Grow.refl rfl (fun w hG => Runs.pickF rfl rfl rfl) rfl ?_
                refine Dr.nil ?_
                refine FinX.done (F' := [(0, _), (1, _), (2, _), (34, _)]) rfl ⟨rfl, rfl, rfl, rfl, trivial⟩ ?_
                intro w3 hw3 fw3
                replace bel := bel.step hw3
                replace k1 := k1.step hw3
                refine Seq.nil ?_
                refine Post.weak (F' := [(0, _), (1, _), (2, _), (34, _)]) ⟨rfl, rfl, rfl, rfl, trivial⟩ ?_
                refine Post.then_ ?_
                refine Cd.condF rfl rfl ?_
                refine Cd.skip ?_
                exact Post.join () ⟨rfl, trivial⟩ ⟨⟨h1, .inr (.inr h4), .inr h6⟩, bel, k1⟩
              · skip
                refine Cd.seq ?_
                refine Cd.draw 32 (by kernel_rfl) [] (.inl rfl) rfl Grow Grow.refl (fun _ _ _ => Grow.trans) ?_
                intro w2 hw2 zw2
                replace bel := bel.step hw2
                replace k1 := k1.step hw2
                have zbel := bel.size
                have zlt := k1.lt
                refine Dr.val Grow.refl rfl (fun w hG => Runs.fieldB 0 rfl rfl Try.underlying35 rfl (by kernel_rfl)) rfl ?_
                refine Dr.val Grow.refl rfl (fun w hG => Runs.loadB rfl rfl Try.underlying3 rfl (k1.step hG) rfl) rfl ?_
                refine Dr.callV rfl (fun w => Enters.func rfl rfl rfl (run_enter Try.func126 (by kernel_rfl) rfl)) rfl (fun w hG => arity_any op w) ?_
                refine Dr.val Grow.refl rfl (fun w hG => Runs.fieldB 3 rfl rfl Try.underlying35 rfl (by kernel_rfl)) rfl ?_
                refine Dr.val Grow.refl rfl (fun w hG => Runs.loadB rfl rfl Try.underlying25 rfl (k1.step hG) rfl) rfl ?_
                refine Dr.val Grow.refl rfl (fun w hG => Runs.len rfl rfl Try.underlying25) rfl ?_
                refine Dr.val Grow.refl rfl (fun w hG => (Runs.neqI rfl rfl rfl).isF (by omega)) rfl ?_
                refine Dr.val Grow.refl rfl (fun w hG => Runs.move rfl rfl) rfl ?_
                refine Dr.valG Grow.refl rfl (fun w hG => Runs.fieldB 1 rfl rfl Try.underlying35 rfl (by kernel_rfl)) rfl rfl rfl ?_
                refine Dr.valG Grow.refl rfl (fun w hG => Runs.loadB rfl rfl Try.underlying2 rfl (k1.step hG) rfl) rfl rfl rfl ?_
                refine Dr.valG Grow.refl rfl (fun w hG => (Runs.neqI rfl rfl rfl).isT (h2)) rfl rfl rfl ?_
                refine Dr.valG Grow.refl rfl (fun w hG => Runs.move rfl rfl) rfl rfl rfl ?_
                refine Dr.valG Grow.refl rfl (fun w hG => Runs.fieldB 0 rfl rfl Try.underlying35 rfl (by kernel_rfl)) rfl rfl rfl ?_
                refine Dr.valG Grow.refl rfl (fun w hG => Runs.loadB rfl rfl Try.underlying3 rfl (k1.step hG) rfl) rfl rfl rfl ?_
                refine Dr.valG Grow.refl rfl (fun w hG => (Runs.neqI rfl rfl rfl).isT (h3)) rfl rfl rfl ?_
                refine Dr.valG Grow.refl rfl (fun w hG => Runs.pickT rfl rfl rfl) rfl rfl rfl ?_
                refine Dr.valG Grow.refl rfl (fun w hG => Runs.move rfl rfl) rfl rfl rfl ?_
                refine Dr.valG Grow.refl rfl (fun w hG => Runs.fieldB 0 rfl rfl Try.underlying35 rfl (by kernel_rfl)) rfl rfl rfl ?_
                refine Dr.valG Grow.refl rfl (fun w hG => Runs.loadB rfl rfl Try.underlying3 rfl (k1.step hG) rfl) rfl rfl rfl ?_
                refine Dr.valG Grow.refl rfl (fun w hG => (Runs.neqI rfl rfl rfl).isF (by omega)) rfl rfl rfl ?_
                refine Dr.valG Grow.refl rfl (fun w hG => Runs.pickT rfl rfl rfl) rfl rfl rfl ?_
                refine Dr.val Grow.refl rfl (fun w hG => Runs.pickF rfl rfl rfl) rfl ?_
                refine Dr.val Grow.refl rfl (fun w hG => Runs.move rfl rfl) rfl ?_
                refine Dr.valG Grow.refl rfl (fun w hG => Runs.fieldB 2 rfl rfl Try.underlying35 rfl (by kernel_rfl)) rfl rfl rfl ?_
                refine Dr.valG Grow.refl rfl (fun w hG => Runs.loadB rfl rfl Try.underlying9 rfl (k1.step hG) rfl) rfl rfl rfl ?_
                refine Dr.valG Grow.refl rfl (fun w hG => (Runs.neqL (b := []) rfl rfl rfl HB1 HB2).isT (h5)) rfl rfl rfl ?_
                refine Dr.valG Grow.refl rfl (fun w hG => Runs.move rfl rfl) rfl rfl rfl ?_
                refine Dr.valG Grow.refl rfl (fun w hG => Runs.fieldB 0 rfl rfl Try.underlying35 rfl (by kernel_rfl)) rfl rfl rfl ?_
                refine Dr.valG Grow.refl rfl (fun w hG => Runs.loadB rfl rfl Try.underlying3 rfl (k1.step hG) rfl) rfl rfl rfl ?_
                refine Dr.valG Grow.refl rfl (fun w hG => (Runs.neqI rfl rfl rfl).isT (h6)) rfl rfl rfl ?_
                refine Dr.valG Grow.refl rfl (fun w hG => Runs.pickT rfl rfl rfl) rfl rfl rfl ?_
                refine Dr.val Grow.refl rfl (fun w hG => Runs.pickF rfl rfl rfl) rfl ?_
                refine Dr.nil ?_
                refine FinX.done (F' := [(0, _), (1, _), (2, _), (34, _)]) rfl ⟨rfl, rfl, rfl, rfl, trivial⟩ ?_
                intro w3 hw3 fw3
                replace bel := bel.step hw3
                replace k1 := k1.step hw3
                refine Seq.nil ?_
                refine Post.weak (F' := [(0, _), (1, _), (2, _), (34, _)]) ⟨rfl, rfl, rfl, rfl, trivial⟩ ?_
                refine Post.then_ ?_
                refine Cd.condT rfl rfl ?_
                refine Cd.seq ?_
                refine Cd.region ?_
                refine Seq.val (Runs.assign rfl rfl) rfl rfl rfl ?_
                refine Seq.nil ?_
                refine Post.weak (F' := [(0, _), (1, _), (2, _), (34, _)]) ⟨rfl, rfl, rfl, rfl, trivial⟩ ?_
                refine Post.then_ ?_
                refine Cd.ret ?_
                refine Post.then_ret ?_
                refine Post.end1 rfl rfl (.inl rfl) ?_
                rw [hbf (by rintro ⟨-, -, h, -⟩; rcases h with h | h; exact h5 h; exact h6 h)]
                exact ⟨rfl, bel⟩
          · skip
            refine Cd.seq ?_
            refine Cd.draw 32 (by kernel_rfl) [] (.inl rfl) rfl Grow Grow.refl (fun _ _ _ => Grow.trans) ?_
            intro w2 hw2 zw2
            replace bel := bel.step hw2
            replace k1 := k1.step hw2
            have zbel := bel.size
            have zlt := k1.lt
            refine Dr.val Grow.refl rfl (fun w hG => Runs.fieldB 0 rfl rfl Try.underlying35 rfl (by kernel_rfl)) rfl ?_
            refine Dr.val Grow.refl rfl (fun w hG => Runs.loadB rfl rfl Try.underlying3 rfl (k1.step hG) rfl) rfl ?_
            refine Dr.callV rfl (fun w => Enters.func rfl rfl rfl (run_enter Try.func126 (by kernel_rfl) rfl)) rfl (fun w hG => arity_any op w) ?_
            refine Dr.val Grow.refl rfl (fun w hG => Runs.fieldB 3 rfl rfl Try.underlying35 rfl (by kernel_rfl)) rfl ?_
            refine Dr.val Grow.refl rfl (fun w hG => Runs.loadB rfl rfl Try.underlying25 rfl (k1.step hG) rfl) rfl ?_
            refine Dr.val Grow.refl rfl (fun w hG => Runs.len rfl rfl Try.underlying25) rfl ?_
            refine Dr.val Grow.refl rfl (fun w hG => (Runs.neqI rfl rfl rfl).isF (by omega)) rfl ?_
            refine Dr.val Grow.refl rfl (fun w hG => Runs.move rfl rfl) rfl ?_
            refine Dr.valG Grow.refl rfl (fun w hG => Runs.fieldB 1 rfl rfl Try.underlying35 rfl (by kernel_rfl)) rfl rfl rfl ?_
            refine Dr.valG Grow.refl rfl (fun w hG => Runs.loadB rfl rfl Try.underlying2 rfl (k1.step hG) rfl) rfl rfl rfl ?_
            refine Dr.valG Grow.refl rfl (fun w hG => (Runs.neqI rfl rfl rfl).isT (h2)) rfl rfl rfl ?_
            refine Dr.valG Grow.refl rfl (fun w hG => Runs.move rfl rfl) rfl rfl rfl ?_
            refine Dr.valG Grow.refl rfl (fun w hG => Runs.fieldB 0 rfl rfl Try.underlying35 rfl (by kernel_rfl)) rfl rfl rfl ?_
            refine Dr.valG Grow.refl rfl (fun w hG => Runs.loadB rfl rfl Try.underlying3 rfl (k1.step hG) rfl) rfl rfl rfl ?_
            refine Dr.valG Grow.refl rfl (fun w hG => (Runs.neqI rfl rfl rfl).isT (h3)) rfl rfl rfl ?_
            refine Dr.valG Grow.refl rfl (fun w hG => Runs.pickT rfl rfl rfl) rfl rfl rfl ?_
            refine Dr.valG Grow.refl rfl (fun w hG => Runs.move rfl rfl) rfl rfl rfl ?_
            refine Dr.valG Grow.refl rfl (fun w hG => Runs.fieldB 0 rfl rfl Try.underlying35 rfl (by kernel_rfl)) rfl rfl rfl ?_
            refine Dr.valG Grow.refl rfl (fun w hG => Runs.loadB rfl rfl Try.underlying3 rfl (k1.step hG) rfl) rfl rfl rfl ?_
            refine Dr.valG Grow.refl rfl (fun w hG => (Runs.neqI rfl rfl rfl).isT (h4)) rfl rfl rfl ?_
            refine Dr.valG Grow.refl rfl (fun w hG => Runs.pickT rfl rfl rfl) rfl rfl rfl ?_
            refine Dr.val Grow.refl rfl (fun w hG => Runs.pickF rfl rfl rfl) rfl ?_
            refine Dr.val Grow.refl rfl (fun w hG => Runs.move rfl rfl) rfl ?_
            refine Dr.skip rfl rfl rfl rfl rfl ?_
            refine Dr.skip rfl rfl rfl rfl rfl ?_
            refine Dr.skip rfl rfl rfl rfl rfl ?_
            refine Dr.skip rfl rfl rfl rfl rfl ?_
            refine Dr.skipU rfl rfl rfl rfl ?_
            refine Dr.skipU rfl rfl rfl rfl ?_
            refine Dr.skipU rfl rfl rfl rfl ?_
            refine Dr.skip rfl rfl rfl rfl rfl ?_
            refine Dr.val Grow.refl rfl (fun w hG => Runs.pickT rfl rfl rfl) rfl ?_
            refine Dr.nil ?_
            refine FinX.done (F' := [(0, _), (1, _), (2, _), (34, _)]) rfl ⟨rfl, rfl, rfl, rfl, trivial⟩ ?_
            intro w3 hw3 fw3
            replace bel := bel.step hw3
            replace k1 := k1.step hw3
            refine Seq.nil ?_
            refine Post.weak (F' := [(0, _), (1, _), (2, _), (34, _)]) ⟨rfl, rfl, rfl, rfl, trivial⟩ ?_
            refine Post.then_ ?_
            refine Cd.condT rfl rfl ?_
            refine Cd.seq ?_
            refine Cd.region ?_
            refine Seq.val (Runs.assign rfl rfl) rfl rfl rfl ?_
            refine Seq.nil ?_
            refine Post.weak (F' := [(0, _), (1, _), (2, _), (34, _)]) ⟨rfl, rfl, rfl, rfl, trivial⟩ ?_
            refine Post.then_ ?_
            refine Cd.ret ?_
            refine Post.then_ret ?_
            refine Post.end1 rfl rfl (.inl rfl) ?_
            rw [hbf (by rintro ⟨-, h, -⟩; omega)]
            exact ⟨rfl, bel⟩
    · skip
      refine Cd.seq ?_
      refine Cd.draw 32 (by kernel_rfl) [] (.inl rfl) rfl Grow Grow.refl (fun _ _ _ => Grow.trans) ?_
      intro w2 hw2 zw2
      replace bel := bel.step hw2
      replace k1 := k1.step hw2
      have zbel := bel.size
      have zlt := k1.lt
      refine Dr.val Grow.refl rfl (fun w hG => Runs.fieldB 0 rfl rfl Try.underlying35 rfl (by kernel_rfl)) rfl ?_
      refine Dr.val Grow.refl rfl (fun w hG => Runs.loadB rfl rfl Try.underlying3 rfl (k1.step hG) rfl) rfl ?_
      refine Dr.callV rfl (fun w => Enters.func rfl rfl rfl (run_enter Try.func126 (by kernel_rfl) rfl)) rfl (fun w hG => arity_any op w) ?_
      refine Dr.val Grow.refl rfl (fun w hG => Runs.fieldB 3 rfl rfl Try.underlying35 rfl (by kernel_rfl)) rfl ?_
      refine Dr.val Grow.refl rfl (fun w hG => Runs.loadB rfl rfl Try.underlying25 rfl (k1.step hG) rfl) rfl ?_
      refine Dr.val Grow.refl rfl (fun w hG => Runs.len rfl rfl Try.underlying25) rfl ?_
      refine Dr.val Grow.refl rfl (fun w hG => (Runs.neqI rfl rfl rfl).isT (h1)) rfl ?_
      refine Dr.val Grow.refl rfl (fun w hG => Runs.move rfl rfl) rfl ?_
      refine Dr.skip rfl rfl rfl rfl rfl ?_
      refine Dr.skip rfl rfl rfl rfl rfl ?_
      refine Dr.skip rfl rfl rfl rfl rfl ?_
      refine Dr.skip rfl rfl rfl rfl rfl ?_
      refine Dr.skipU rfl rfl rfl rfl ?_
      refine Dr.skipU rfl rfl rfl rfl ?_
      refine Dr.skipU rfl rfl rfl rfl ?_
      refine Dr.skip rfl rfl rfl rfl rfl ?_
      refine Dr.skip rfl rfl rfl rfl rfl ?_
      refine Dr.skipU rfl rfl rfl rfl ?_
      refine Dr.skipU rfl rfl rfl rfl ?_
      refine Dr.skipU rfl rfl rfl rfl ?_
      refine Dr.skip rfl rfl rfl rfl rfl ?_
      refine Dr.val Grow.refl rfl (fun w hG => Runs.pickT rfl rfl rfl) rfl ?_
      refine Dr.val Grow.refl rfl (fun w hG => Runs.move rfl rfl) rfl ?_
      refine Dr.skip rfl rfl rfl rfl rfl ?_
      refine Dr.skip rfl rfl rfl rfl rfl ?_
      refine Dr.skip rfl rfl rfl rfl rfl ?_
      refine Dr.skip rfl rfl rfl rfl rfl ?_
      refine Dr.skipU rfl rfl rfl rfl ?_
      refine Dr.skipU rfl rfl rfl rfl ?_
      refine Dr.skipU rfl rfl rfl rfl ?_
      refine Dr.skip rfl rfl rfl rfl rfl ?_
      refine Dr.val Grow.refl rfl (fun w hG => Runs.pickT rfl rfl rfl) rfl ?_
      refine Dr.nil ?_
      refine FinX.done (F' := [(0, _), (1, _), (2, _), (34, _)]) rfl ⟨rfl, rfl, rfl, rfl, trivial⟩ ?_
      intro w3 hw3 fw3
      replace bel := bel.step hw3
      replace k1 := k1.step hw3
      refine Seq.nil ?_
      refine Post.weak (F' := [(0, _), (1, _), (2, _), (34, _)]) ⟨rfl, rfl, rfl, rfl, trivial⟩ ?_
      refine Post.then_ ?_
      refine Cd.condT rfl rfl ?_
      refine Cd.seq ?_
      refine Cd.region ?_
      refine Seq.val (Runs.assign rfl rfl) rfl rfl rfl ?_
      refine Seq.nil ?_
      refine Post.weak (F' := [(0, _), (1, _), (2, _), (34, _)]) ⟨rfl, rfl, rfl, rfl, trivial⟩ ?_
      refine Post.then_ ?_
      refine Cd.ret ?_
      refine Post.then_ret ?_
      refine Post.end1 rfl rfl (.inl rfl) ?_
      rw [hbf (by rintro ⟨h, -⟩; exact h1 h)]
      exact ⟨rfl, bel⟩
  clear bel k1
  rintro ⟨⟩ wr ⟨⟨a1, a2, a3⟩, bel, k1⟩
  refine Cd.seq ?_
  refine Cd.block ?_
  refine Cd.seq ?_
  refine Cd.seq ?_
  refine Cd.region ?_
  refine Seq.val (Runs.fieldB 1 rfl rfl Try.underlying35 rfl (by kernel_rfl)) rfl rfl rfl ?_
  refine Seq.val (Runs.loadB rfl rfl Try.underlying2 rfl k1 rfl) rfl rfl rfl ?_
  refine Seq.val (Runs.lss rfl rfl rfl) rfl rfl rfl ?_
  refine Seq.val (Runs.assign rfl rfl) rfl rfl rfl ?_
  refine Seq.nil ?_
  refine Post.weak (F' := [(1, _), (35, _)]) ⟨rfl, rfl, trivial⟩ ?_
  refine Post.then_ ?_
  refine Cd.condD rfl (fun hc => ?_) (fun hc => ?_)
  · skip
    refine Cd.skip ?_
    refine Post.then_ ?_
    refine Cd.condT rfl (decide_eq_true (by assumption)) ?_
    refine Cd.seq ?_
    refine Cd.region ?_
    refine Seq.val (Runs.assign rfl rfl) rfl rfl rfl ?_
    refine Seq.nil ?_
    refine Post.weak (F' := [(1, _), (2, _), (35, _)]) ⟨rfl, rfl, rfl, trivial⟩ ?_
    refine Post.then_ ?_
    refine Cd.ret ?_
    refine Post.block_ret ?_
    refine Post.then_ret ?_
    refine Post.end1 rfl rfl (.inl rfl) ?_
    rw [hbf (by omega)]
    exact ⟨rfl, bel⟩
  · skip
    refine Cd.seq ?_
    refine Cd.region ?_
    refine Seq.val (Runs.fieldB 0 rfl rfl Try.underlying35 rfl (by kernel_rfl)) rfl rfl rfl ?_
    refine Seq.val (Runs.loadB rfl rfl Try.underlying3 rfl k1 rfl) rfl rfl rfl ?_
    refine Seq.val (Runs.eqlI rfl rfl rfl) rfl rfl rfl ?_
    refine Seq.val (Runs.move rfl rfl) rfl rfl rfl ?_
    refine SeqC.start ?_
    refine SeqC.open rfl rfl rfl rfl rfl rfl rfl (fun hcx => Runs.fieldB 1 rfl rfl Try.underlying35 rfl (by kernel_rfl)) ?_
    refine SeqC.next rfl rfl rfl rfl rfl rfl rfl (fun hcx => Runs.loadB rfl rfl Try.underlying2 rfl k1 rfl) ?_
    refine SeqC.next rfl rfl rfl rfl rfl rfl rfl (fun hcx => Runs.gtr rfl rfl rfl) ?_
    refine SeqC.and rfl rfl rfl rfl rfl rfl rfl ?_
    refine Seq.val (Runs.assign rfl rfl) rfl rfl rfl ?_
    refine Seq.nil ?_
    refine Post.weak (F' := [(1, _), (35, _)]) ⟨rfl, rfl, trivial⟩ ?_
    refine Post.then_ ?_
    refine Cd.cond rfl (fun h => ?_) (fun h => ?_)
    · skip
      refine Cd.skip ?_
      refine Post.then_ ?_
      refine Cd.condT rfl h ?_
      refine Cd.seq ?_
      refine Cd.region ?_
      refine Seq.val (Runs.assign rfl rfl) rfl rfl rfl ?_
      refine Seq.nil ?_
      refine Post.weak (F' := [(1, _), (2, _), (35, _)]) ⟨rfl, rfl, rfl, trivial⟩ ?_
      refine Post.then_ ?_
      refine Cd.ret ?_
      refine Post.block_ret ?_
      refine Post.then_ret ?_
      refine Post.end1 rfl rfl (.inl rfl) ?_
      simp at h
      rw [hbf (by omega)]
      exact ⟨rfl, bel⟩
    · simp at h
      refine Cd.region ?_
      refine Seq.val (Runs.fieldB 0 rfl rfl Try.underlying35 rfl (by kernel_rfl)) rfl rfl rfl ?_
      refine Seq.val (Runs.loadB rfl rfl Try.underlying3 rfl k1 rfl) rfl rfl rfl ?_
      refine Seq.val (Runs.eqlI rfl rfl rfl) rfl rfl rfl ?_
      refine Seq.val (Runs.move rfl rfl) rfl rfl rfl ?_
      refine SeqC.start ?_
      refine SeqC.open rfl rfl rfl rfl rfl rfl rfl (fun hcx => Runs.fieldB 2 rfl rfl Try.underlying35 rfl (by kernel_rfl)) ?_
      refine SeqC.next rfl rfl rfl rfl rfl rfl rfl (fun hcx => Runs.loadB rfl rfl Try.underlying9 rfl k1 rfl) ?_
      refine SeqC.nextC rfl rfl rfl rfl rfl rfl rfl (fun hcx => Enters.func rfl rfl rfl (run_enter Try.func118 (by kernel_rfl) rfl)) (fun hcx => free_any nm _ HB1 hnl) ?_
      intro w2 hw2
      replace bel := bel.step hw2
      replace k1 := k1.step hw2
      refine SeqC.next rfl rfl rfl rfl rfl rfl rfl (fun hcx => Runs.not rfl rfl) ?_
      refine SeqC.and rfl rfl rfl rfl rfl rfl rfl ?_
      refine Seq.val (Runs.assign rfl rfl) rfl rfl rfl ?_
      refine Seq.nil ?_
      refine Post.weak (F' := [(1, _), (35, _)]) ⟨rfl, rfl, trivial⟩ ?_
      refine Post.then_ ?_
      refine Cd.cond rfl (fun h2 => ?_) (fun h2 => ?_)
      · skip
        refine Cd.seq ?_
        refine Cd.region ?_
        refine Seq.val (Runs.assign rfl rfl) rfl rfl rfl ?_
        refine Seq.nil ?_
        refine Post.weak (F' := [(1, _), (2, _), (35, _)]) ⟨rfl, rfl, rfl, trivial⟩ ?_
        refine Post.then_ ?_
        refine Cd.ret ?_
        refine Post.block_ret ?_
        refine Post.then_ret ?_
        refine Post.end1 rfl rfl (.inl rfl) ?_
        simp at h2
        rw [hbf (by rintro ⟨-, -, -, -, -, h7⟩; rw [h7 h2.1] at h2; cases h2.2)]
        exact ⟨rfl, bel⟩
      · have hh := headB_true a1 a2 a3 (by omega) (by omega) (fun h3 => by simp at h2; exact h2 h3)
        refine Cd.skip ?_
        refine Post.block_normal ?_
        refine Post.then_ ?_
        refine Cd.seq ?_
        refine Cd.region ?_
        refine Seq.val (Runs.fieldB 3 rfl rfl Try.underlying35 rfl (by kernel_rfl)) rfl rfl rfl ?_
        refine Seq.val (Runs.loadB rfl rfl Try.underlying25 rfl k1 rfl) rfl rfl rfl ?_
        refine Seq.call (Enters.func rfl rfl rfl (run_enter Try.func119 (by kernel_rfl) rfl)) rfl rfl rfl (hcl _ bel) ?_
        rintro en w9 ⟨rfl, hb9⟩
        refine ⟨_, rfl, ?_⟩
        replace bel := bel.step hb9
        replace k1 := k1.step hb9
        refine Seq.val (Runs.not rfl rfl) rfl rfl rfl ?_
        refine Seq.val (Runs.assign rfl rfl) rfl rfl rfl ?_
        refine Seq.nil ?_
        refine Post.weak (F' := [(1, _), (2, _), (35, _)]) ⟨rfl, rfl, rfl, trivial⟩ ?_
        refine Post.then_ ?_
        refine Cd.ret ?_
        refine Post.end1 rfl rfl (.inl rfl) ?_
        refine ⟨ret1 (bool_eq ?_), bel⟩
        rw [hbt, hh, Bool.true_and]
        induction e.args with
        | nil => rfl
        | cons x r ih => simp only [List.any_cons, List.all_cons, Bool.not_or, Bool.not_not, ih]
end Go.Proofs.Ytijaldpmpjapiaa


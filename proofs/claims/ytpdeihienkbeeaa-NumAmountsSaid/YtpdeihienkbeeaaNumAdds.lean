/-
  NumAdds: any sum, difference, opposite and product: the statement returns true. No condition.
-/
import Derived.Test.YtpdeihienkbeeaaNumI
import Derived.Test.YtpdeihienkbeeaaBigL
import Derived.Test.YtpdeihienkbeeaaOpenI
namespace Go.Proofs.Ytpdeihienkbeeaa
open Go.ChangeShapes Go.WideShapes Go.ChangeAt Go.RowKit

theorem two_not {a : Int} (h : fits a = false) : Ending.returned (.tuple #[.int .i64 0, .bool false]) = .returned (.tuple #[.int .i64 (smallOf a), .bool (fits a)]) := by unfold smallOf; rw [h]; rfl
theorem two_yes {a s : Int} (h : fits a = true) (hs : s = a) : Ending.returned (.tuple #[.int .i64 s, .bool true]) = .returned (.tuple #[.int .i64 (smallOf a), .bool (fits a)]) := by unfold smallOf; rw [h, hs]; rfl
theorem add_num (a b : Int) (w : World) (ha : I64 a) (hb : I64 b) :
    Calls Try.prog 21 #[.int .i64 a, .int .i64 b] w fun e w' => e = .returned (.tuple #[.int .i64 (smallOf (a + b)), .bool (fits (a + b))]) ∧ Grow w w' := by
  obtain ⟨ha0, ha1⟩ := ha
  obtain ⟨hb0, hb1⟩ := hb
  refine Calls.start 23 Try.func21 rfl rfl rfl ?_
  refine Cd.seq ?_
  refine Cd.region ?_
  refine Seq.val (Runs.assign rfl rfl) rfl rfl rfl ?_
  refine Seq.val (Runs.assign rfl rfl) rfl rfl rfl ?_
  refine Seq.nil ?_
  refine Post.weak (F' := [(0, _), (1, _), (4, _), (5, _)]) ⟨rfl, rfl, rfl, rfl, trivial⟩ ?_
  refine Post.then_ ?_
  refine Cd.seq ?_
  refine Cd.region ?_
  refine Seq.val (Runs.move rfl rfl) rfl rfl rfl ?_
  refine Seq.val (Runs.move rfl rfl) rfl rfl rfl ?_
  refine Seq.val (Runs.addW rfl rfl rfl rfl) rfl rfl rfl ?_
  generalize hs : IntKind.i64.wrap (a + b) = s
  rw [IntKind.wrap_i64] at hs
  refine Seq.val (Runs.assign rfl rfl) rfl rfl rfl ?_
  refine Seq.nil ?_
  refine Post.weak (F' := [(0, _), (1, _), (4, _), (5, _), (6, _)]) ⟨rfl, rfl, rfl, rfl, rfl, trivial⟩ ?_
  refine Post.then_ ?_
  refine Cd.seq ?_
  refine Cd.seq ?_
  refine Cd.region ?_
  refine Seq.val (Runs.move rfl rfl) rfl rfl rfl ?_
  refine Seq.val (Runs.lss rfl rfl rfl) rfl rfl rfl ?_
  refine Seq.val (Runs.move rfl rfl) rfl rfl rfl ?_
  refine Seq.val (Runs.lss rfl rfl rfl) rfl rfl rfl ?_
  refine Seq.val (Runs.eqlB rfl rfl rfl Try.underlying4) rfl rfl rfl ?_
  refine Seq.val (Runs.move rfl rfl) rfl rfl rfl ?_
  refine SeqC.start ?_
  refine SeqC.open rfl rfl rfl rfl rfl rfl rfl (fun hcx => Runs.move rfl rfl) ?_
  refine SeqC.next rfl rfl rfl rfl rfl rfl rfl (fun hcx => Runs.lss rfl rfl rfl) ?_
  refine SeqC.next rfl rfl rfl rfl rfl rfl rfl (fun hcx => Runs.move rfl rfl) ?_
  refine SeqC.next rfl rfl rfl rfl rfl rfl rfl (fun hcx => Runs.lss rfl rfl rfl) ?_
  refine SeqC.next rfl rfl rfl rfl rfl rfl rfl (fun hcx => Runs.neqB rfl rfl rfl Try.underlying4) ?_
  refine SeqC.and rfl rfl rfl rfl rfl rfl rfl ?_
  refine Seq.nil ?_
  refine Post.weak (F' := [(0, _), (1, _), (4, _), (5, _), (6, _), (21, _)]) ⟨rfl, rfl, rfl, rfl, rfl, rfl, trivial⟩ ?_
  refine Post.then_ ?_
  refine Cd.cond rfl (fun h => ?_) (fun h => ?_)
  · skip
    refine Cd.seq ?_
    refine Cd.region ?_
    refine Seq.val (Runs.assign rfl rfl) rfl rfl rfl ?_
    refine Seq.val (Runs.assign rfl rfl) rfl rfl rfl ?_
    refine Seq.nil ?_
    refine Post.weak (F' := [(0, _), (1, _), (4, _), (5, _), (6, _), (21, _)]) ⟨rfl, rfl, rfl, rfl, rfl, rfl, trivial⟩ ?_
    refine Post.then_ ?_
    refine Cd.ret ?_
    refine Post.then_ret ?_
    refine Post.end2 rfl rfl rfl (.inl rfl) ?_
    simp at h
    exact ⟨two_not (fits_not (by omega)), Grow.refl _⟩
  · skip
    refine Cd.skip ?_
    refine Post.then_ ?_
    refine Cd.seq ?_
    refine Cd.region ?_
    refine Seq.val (Runs.move rfl rfl) rfl rfl rfl ?_
    refine Seq.val (Runs.assign rfl rfl) rfl rfl rfl ?_
    refine Seq.val (Runs.assign rfl rfl) rfl rfl rfl ?_
    refine Seq.nil ?_
    refine Post.weak (F' := [(0, _), (1, _), (4, _), (5, _), (6, _), (21, _)]) ⟨rfl, rfl, rfl, rfl, rfl, rfl, trivial⟩ ?_
    refine Post.then_ ?_
    refine Cd.ret ?_
    refine Post.end2 rfl rfl rfl (.inl rfl) ?_
    simp at h
    exact ⟨two_yes (fits_of (by omega) (by omega)) (by omega), Grow.refl _⟩
theorem sub_num (a b : Int) (w : World) (ha : I64 a) (hb : I64 b) :
    Calls Try.prog 22 #[.int .i64 a, .int .i64 b] w fun e w' => e = .returned (.tuple #[.int .i64 (smallOf (a + -b)), .bool (fits (a + -b))]) ∧ Grow w w' := by
  obtain ⟨ha0, ha1⟩ := ha
  obtain ⟨hb0, hb1⟩ := hb
  refine Calls.start 23 Try.func22 rfl rfl rfl ?_
  refine Cd.seq ?_
  refine Cd.region ?_
  refine Seq.val (Runs.assign rfl rfl) rfl rfl rfl ?_
  refine Seq.val (Runs.assign rfl rfl) rfl rfl rfl ?_
  refine Seq.nil ?_
  refine Post.weak (F' := [(0, _), (1, _), (4, _), (5, _)]) ⟨rfl, rfl, rfl, rfl, trivial⟩ ?_
  refine Post.then_ ?_
  refine Cd.seq ?_
  refine Cd.region ?_
  refine Seq.val (Runs.move rfl rfl) rfl rfl rfl ?_
  refine Seq.val (Runs.move rfl rfl) rfl rfl rfl ?_
  refine Seq.val (Runs.subW rfl rfl rfl rfl) rfl rfl rfl ?_
  generalize hs : IntKind.i64.wrap (a - b) = s
  rw [IntKind.wrap_i64] at hs
  refine Seq.val (Runs.assign rfl rfl) rfl rfl rfl ?_
  refine Seq.nil ?_
  refine Post.weak (F' := [(0, _), (1, _), (4, _), (5, _), (6, _)]) ⟨rfl, rfl, rfl, rfl, rfl, trivial⟩ ?_
  refine Post.then_ ?_
  refine Cd.seq ?_
  refine Cd.seq ?_
  refine Cd.region ?_
  refine Seq.val (Runs.move rfl rfl) rfl rfl rfl ?_
  refine Seq.val (Runs.lss rfl rfl rfl) rfl rfl rfl ?_
  refine Seq.val (Runs.move rfl rfl) rfl rfl rfl ?_
  refine Seq.val (Runs.lss rfl rfl rfl) rfl rfl rfl ?_
  refine Seq.val (Runs.neqB rfl rfl rfl Try.underlying4) rfl rfl rfl ?_
  refine Seq.val (Runs.move rfl rfl) rfl rfl rfl ?_
  refine SeqC.start ?_
  refine SeqC.open rfl rfl rfl rfl rfl rfl rfl (fun hcx => Runs.move rfl rfl) ?_
  refine SeqC.next rfl rfl rfl rfl rfl rfl rfl (fun hcx => Runs.lss rfl rfl rfl) ?_
  refine SeqC.next rfl rfl rfl rfl rfl rfl rfl (fun hcx => Runs.move rfl rfl) ?_
  refine SeqC.next rfl rfl rfl rfl rfl rfl rfl (fun hcx => Runs.lss rfl rfl rfl) ?_
  refine SeqC.next rfl rfl rfl rfl rfl rfl rfl (fun hcx => Runs.neqB rfl rfl rfl Try.underlying4) ?_
  refine SeqC.and rfl rfl rfl rfl rfl rfl rfl ?_
  refine Seq.nil ?_
  refine Post.weak (F' := [(0, _), (1, _), (4, _), (5, _), (6, _), (21, _)]) ⟨rfl, rfl, rfl, rfl, rfl, rfl, trivial⟩ ?_
  refine Post.then_ ?_
  refine Cd.cond rfl (fun h => ?_) (fun h => ?_)
  · skip
    refine Cd.seq ?_
    refine Cd.region ?_
    refine Seq.val (Runs.assign rfl rfl) rfl rfl rfl ?_
    refine Seq.val (Runs.assign rfl rfl) rfl rfl rfl ?_
    refine Seq.nil ?_
    refine Post.weak (F' := [(0, _), (1, _), (4, _), (5, _), (6, _), (21, _)]) ⟨rfl, rfl, rfl, rfl, rfl, rfl, trivial⟩ ?_
    refine Post.then_ ?_
    refine Cd.ret ?_
    refine Post.then_ret ?_
    refine Post.end2 rfl rfl rfl (.inl rfl) ?_
    simp at h
    exact ⟨two_not (fits_not (by omega)), Grow.refl _⟩
  · skip
    refine Cd.skip ?_
    refine Post.then_ ?_
    refine Cd.seq ?_
    refine Cd.region ?_
    refine Seq.val (Runs.move rfl rfl) rfl rfl rfl ?_
    refine Seq.val (Runs.assign rfl rfl) rfl rfl rfl ?_
    refine Seq.val (Runs.assign rfl rfl) rfl rfl rfl ?_
    refine Seq.nil ?_
    refine Post.weak (F' := [(0, _), (1, _), (4, _), (5, _), (6, _), (21, _)]) ⟨rfl, rfl, rfl, rfl, rfl, rfl, trivial⟩ ?_
    refine Post.then_ ?_
    refine Cd.ret ?_
    refine Post.end2 rfl rfl rfl (.inl rfl) ?_
    simp at h
    exact ⟨two_yes (fits_of (by omega) (by omega)) (by omega), Grow.refl _⟩
theorem neg_num (a : Int) (w : World) (ha : I64 a) :
    Calls Try.prog 23 #[.int .i64 a] w fun e w' => e = .returned (.tuple #[.int .i64 (smallOf (-a)), .bool (fits (-a))]) ∧ Grow w w' := by
  obtain ⟨ha0, ha1⟩ := ha
  refine Calls.start 8 Try.func23 rfl rfl rfl ?_
  refine Cd.seq ?_
  refine Cd.region ?_
  refine Seq.val (Runs.assign rfl rfl) rfl rfl rfl ?_
  refine Seq.val (Runs.assign rfl rfl) rfl rfl rfl ?_
  refine Seq.nil ?_
  refine Post.weak (F' := [(0, _), (2, _), (3, _)]) ⟨rfl, rfl, rfl, trivial⟩ ?_
  refine Post.then_ ?_
  refine Cd.seq ?_
  refine Cd.seq ?_
  refine Cd.region ?_
  refine Seq.val (Runs.move rfl rfl) rfl rfl rfl ?_
  refine Seq.val (Runs.eqlI rfl rfl rfl) rfl rfl rfl ?_
  refine Seq.nil ?_
  refine Post.weak (F' := [(0, _), (2, _), (3, _), (5, _)]) ⟨rfl, rfl, rfl, rfl, trivial⟩ ?_
  refine Post.then_ ?_
  refine Cd.condD rfl (fun h => ?_) (fun h => ?_)
  · skip
    refine Cd.seq ?_
    refine Cd.region ?_
    refine Seq.val (Runs.assign rfl rfl) rfl rfl rfl ?_
    refine Seq.val (Runs.assign rfl rfl) rfl rfl rfl ?_
    refine Seq.nil ?_
    refine Post.weak (F' := [(0, _), (2, _), (3, _), (5, _)]) ⟨rfl, rfl, rfl, rfl, trivial⟩ ?_
    refine Post.then_ ?_
    refine Cd.ret ?_
    refine Post.then_ret ?_
    refine Post.end2 rfl rfl rfl (.inl rfl) ?_
    exact ⟨two_not (fits_not (by omega)), Grow.refl _⟩
  · skip
    refine Cd.skip ?_
    refine Post.then_ ?_
    refine Cd.seq ?_
    refine Cd.region ?_
    refine Seq.val (Runs.move rfl rfl) rfl rfl rfl ?_
    refine Seq.val (Runs.neg rfl rfl (wrapI (by omega) (by omega))) rfl rfl rfl ?_
    refine Seq.val (Runs.assign rfl rfl) rfl rfl rfl ?_
    refine Seq.val (Runs.assign rfl rfl) rfl rfl rfl ?_
    refine Seq.nil ?_
    refine Post.weak (F' := [(0, _), (2, _), (3, _), (5, _)]) ⟨rfl, rfl, rfl, rfl, trivial⟩ ?_
    refine Post.then_ ?_
    refine Cd.ret ?_
    refine Post.end2 rfl rfl rfl (.inl rfl) ?_
    exact ⟨two_yes (fits_of (by omega) (by omega)) (by omega), Grow.refl _⟩
theorem sgn_prod (a b : Int) : sgn (decide (decide (a < 0) ≠ decide (b < 0))) (a.natAbs * b.natAbs) = a * b := by
  unfold sgn
  rw [Int.natCast_mul]
  by_cases ha : a < 0
  · have ea : (a.natAbs : Int) = -a := by omega
    by_cases hb : b < 0
    · have eb : (b.natAbs : Int) = -b := by omega
      rw [ea, eb, Int.neg_mul_neg]; simp [ha, hb]
    · have eb : (b.natAbs : Int) = b := by omega
      rw [ea, eb, Int.neg_mul, Int.neg_neg]; simp [ha, hb]
  · have ea : (a.natAbs : Int) = a := by omega
    by_cases hb : b < 0
    · have eb : (b.natAbs : Int) = -b := by omega
      rw [ea, eb, Int.mul_neg, Int.neg_neg]; simp [ha, hb]
    · have eb : (b.natAbs : Int) = b := by omega
      rw [ea, eb]; simp [ha, hb]
theorem mul_num (a b : Int) (w : World) (ha : I64 a) (hb : I64 b) :
    Calls Try.prog 24 #[.int .i64 a, .int .i64 b] w fun e w' => e = .returned (.tuple #[.int .i64 (smallOf (a * b)), .bool (fits (a * b))]) ∧ Grow w w' := by
  have bel := Below.refl w.heap.size w
  have hm : a.natAbs * b.natAbs < 340282366920938463463374607431768211456 := by
    have h1 := ha.1; have h2 := ha.2; have h3 := hb.1; have h4 := hb.2
    have := Nat.mul_le_mul (show a.natAbs ≤ 9223372036854775808 by omega) (show b.natAbs ≤ 9223372036854775808 by omega)
    omega
  refine Calls.start 18 Try.func24 rfl rfl rfl ?_
  refine Cd.seq ?_
  refine Cd.region ?_
  refine Seq.val (Runs.assign rfl rfl) rfl rfl rfl ?_
  refine Seq.val (Runs.assign rfl rfl) rfl rfl rfl ?_
  refine Seq.nil ?_
  refine Post.weak (F' := [(0, _), (1, _), (4, _), (5, _)]) ⟨rfl, rfl, rfl, rfl, trivial⟩ ?_
  refine Post.then_ ?_
  refine Cd.seq ?_
  refine Cd.region ?_
  refine Seq.val (Runs.move rfl rfl) rfl rfl rfl ?_
  refine Seq.val (Runs.move rfl rfl) rfl rfl rfl ?_
  refine Seq.call (Enters.func rfl rfl rfl (run_enter Try.func43 (by kernel_rfl) rfl)) rfl rfl rfl (product_any a b _ ha hb) ?_
  rintro e w4 ⟨rfl, hb4⟩
  refine ⟨_, rfl, ?_⟩
  replace bel := bel.step hb4
  refine Seq.call (Enters.func rfl rfl rfl (run_enter Try.func50 (by kernel_rfl) rfl)) rfl rfl rfl (narrow_any _ _ _ hm) ?_
  rw [sgn_prod]
  rintro e w5 ⟨v, rfl, hv, hb5⟩
  refine ⟨_, rfl, ?_⟩
  replace bel := bel.step hb5
  refine Seq.val (Runs.move rfl rfl) rfl rfl rfl ?_
  refine Seq.val (Runs.extract rfl rfl rfl) rfl rfl rfl ?_
  refine Seq.val (Runs.extract rfl rfl rfl) rfl rfl rfl ?_
  refine Seq.val (Runs.assign rfl rfl) rfl rfl rfl ?_
  refine Seq.val (Runs.assign rfl rfl) rfl rfl rfl ?_
  refine Seq.nil ?_
  refine Post.weak (F' := [(0, _), (1, _), (4, _), (5, _), (6, _), (7, _)]) ⟨rfl, rfl, rfl, rfl, rfl, rfl, trivial⟩ ?_
  refine Post.then_ ?_
  refine Cd.seq ?_
  refine Cd.seq ?_
  refine Cd.region ?_
  refine Seq.val (Runs.move rfl rfl) rfl rfl rfl ?_
  refine Seq.val (Runs.not rfl rfl) rfl rfl rfl ?_
  refine Seq.nil ?_
  refine Post.weak (F' := [(0, _), (1, _), (4, _), (5, _), (6, _), (7, _), (16, _)]) ⟨rfl, rfl, rfl, rfl, rfl, rfl, rfl, trivial⟩ ?_
  refine Post.then_ ?_
  refine Cd.cond rfl (fun h => ?_) (fun h => ?_)
  · skip
    refine Cd.seq ?_
    refine Cd.region ?_
    refine Seq.val (Runs.assign rfl rfl) rfl rfl rfl ?_
    refine Seq.val (Runs.assign rfl rfl) rfl rfl rfl ?_
    refine Seq.nil ?_
    refine Post.weak (F' := [(0, _), (1, _), (4, _), (5, _), (6, _), (7, _), (16, _)]) ⟨rfl, rfl, rfl, rfl, rfl, rfl, rfl, trivial⟩ ?_
    refine Post.then_ ?_
    refine Cd.ret ?_
    refine Post.then_ret ?_
    refine Post.end2 rfl rfl rfl (.inl rfl) ?_
    simp at h
    exact ⟨two_not h, bel⟩
  · skip
    refine Cd.skip ?_
    refine Post.then_ ?_
    refine Cd.seq ?_
    refine Cd.region ?_
    refine Seq.val (Runs.move rfl rfl) rfl rfl rfl ?_
    refine Seq.val (Runs.assign rfl rfl) rfl rfl rfl ?_
    refine Seq.val (Runs.assign rfl rfl) rfl rfl rfl ?_
    refine Seq.nil ?_
    refine Post.weak (F' := [(0, _), (1, _), (4, _), (5, _), (6, _), (7, _), (16, _)]) ⟨rfl, rfl, rfl, rfl, rfl, rfl, rfl, trivial⟩ ?_
    refine Post.then_ ?_
    refine Cd.ret ?_
    refine Post.end2 rfl rfl rfl (.inl rfl) ?_
    simp at h
    exact ⟨two_yes h (hv h), bel⟩

theorem walk_adds (a b : Int) (w : World) (ha : I64 a) (hb : I64 b) :
    Calls Try.prog 8 #[.int .i64 a, .int .i64 b] w fun e w' => e = .returned (.bool true) ∧ Below w.heap.size w w' := by
  have bel := Below.refl w.heap.size w
  have h1 := ha.1
  have h2 := ha.2
  have h3 := hb.1
  have h4 := hb.2
  have hab : (a + b).natAbs < big := big_of (by omega)
  have hsb : (a + -b).natAbs < big := big_of (by omega)
  have hna : (-a).natAbs < big := big_of (by omega)
  have hnb : (-b).natAbs < big := big_of (by omega)
  have hmb : (a * b).natAbs < big := by
    refine big_of ?_
    rw [Int.natAbs_mul]
    have := Nat.mul_le_mul (show a.natAbs ≤ 9223372036854775808 by omega) (show b.natAbs ≤ 9223372036854775808 by omega)
    omega
  refine Calls.start 75 Try.func8 rfl rfl rfl ?_
  refine Cd.seq ?_
  refine Cd.region ?_
  refine Seq.val (Runs.assign rfl rfl) rfl rfl rfl ?_
  refine Seq.nil ?_
  refine Post.weak (F' := [(0, _), (1, _), (4, _)]) ⟨rfl, rfl, rfl, trivial⟩ ?_
  refine Post.then_ ?_
  refine Cd.seq ?_
  refine Cd.region ?_
  refine Seq.val (Runs.move rfl rfl) rfl rfl rfl ?_
  refine Seq.val (Runs.move rfl rfl) rfl rfl rfl ?_
  refine Seq.call (Enters.func rfl rfl rfl (run_enter Try.func21 (by kernel_rfl) rfl)) rfl rfl rfl (add_num a b _ ha hb) ?_
  rintro e w5 ⟨rfl, hb5⟩
  refine ⟨_, rfl, ?_⟩
  replace bel := bel.step hb5
  refine Seq.val (Runs.move rfl rfl) rfl rfl rfl ?_
  refine Seq.val (Runs.extract rfl rfl rfl) rfl rfl rfl ?_
  refine Seq.val (Runs.extract rfl rfl rfl) rfl rfl rfl ?_
  refine Seq.val (Runs.assign rfl rfl) rfl rfl rfl ?_
  refine Seq.val (Runs.assign rfl rfl) rfl rfl rfl ?_
  refine Seq.nil ?_
  refine Post.weak (F' := [(0, _), (1, _), (4, _), (5, _), (6, _)]) ⟨rfl, rfl, rfl, rfl, rfl, trivial⟩ ?_
  refine Post.then_ ?_
  refine Cd.seq ?_
  refine Cd.region ?_
  refine Seq.val (Runs.move rfl rfl) rfl rfl rfl ?_
  refine Seq.val (Runs.move rfl rfl) rfl rfl rfl ?_
  refine Seq.call (Enters.func rfl rfl rfl (run_enter Try.func22 (by kernel_rfl) rfl)) rfl rfl rfl (sub_num a b _ ha hb) ?_
  rintro e w6 ⟨rfl, hb6⟩
  refine ⟨_, rfl, ?_⟩
  replace bel := bel.step hb6
  refine Seq.val (Runs.move rfl rfl) rfl rfl rfl ?_
  refine Seq.val (Runs.extract rfl rfl rfl) rfl rfl rfl ?_
  refine Seq.val (Runs.extract rfl rfl rfl) rfl rfl rfl ?_
  refine Seq.val (Runs.assign rfl rfl) rfl rfl rfl ?_
  refine Seq.val (Runs.assign rfl rfl) rfl rfl rfl ?_
  refine Seq.nil ?_
  refine Post.weak (F' := [(0, _), (1, _), (4, _), (5, _), (6, _), (7, _), (8, _)]) ⟨rfl, rfl, rfl, rfl, rfl, rfl, rfl, trivial⟩ ?_
  refine Post.then_ ?_
  refine Cd.seq ?_
  refine Cd.region ?_
  refine Seq.val (Runs.move rfl rfl) rfl rfl rfl ?_
  refine Seq.call (Enters.func rfl rfl rfl (run_enter Try.func23 (by kernel_rfl) rfl)) rfl rfl rfl (neg_num a _ ha) ?_
  rintro e w7 ⟨rfl, hb7⟩
  refine ⟨_, rfl, ?_⟩
  replace bel := bel.step hb7
  refine Seq.val (Runs.move rfl rfl) rfl rfl rfl ?_
  refine Seq.val (Runs.extract rfl rfl rfl) rfl rfl rfl ?_
  refine Seq.val (Runs.extract rfl rfl rfl) rfl rfl rfl ?_
  refine Seq.val (Runs.assign rfl rfl) rfl rfl rfl ?_
  refine Seq.val (Runs.assign rfl rfl) rfl rfl rfl ?_
  refine Seq.nil ?_
  refine Post.weak (F' := [(0, _), (1, _), (4, _), (5, _), (6, _), (7, _), (8, _), (9, _), (10, _)]) ⟨rfl, rfl, rfl, rfl, rfl, rfl, rfl, rfl, rfl, trivial⟩ ?_
  refine Post.then_ ?_
  refine Cd.seq ?_
  refine Cd.region ?_
  refine Seq.val (Runs.move rfl rfl) rfl rfl rfl ?_
  refine Seq.val (Runs.move rfl rfl) rfl rfl rfl ?_
  refine Seq.call (Enters.func rfl rfl rfl (run_enter Try.func24 (by kernel_rfl) rfl)) rfl rfl rfl (mul_num a b _ ha hb) ?_
  rintro e w8 ⟨rfl, hb8⟩
  refine ⟨_, rfl, ?_⟩
  replace bel := bel.step hb8
  refine Seq.val (Runs.move rfl rfl) rfl rfl rfl ?_
  refine Seq.val (Runs.extract rfl rfl rfl) rfl rfl rfl ?_
  refine Seq.val (Runs.extract rfl rfl rfl) rfl rfl rfl ?_
  refine Seq.val (Runs.assign rfl rfl) rfl rfl rfl ?_
  refine Seq.val (Runs.assign rfl rfl) rfl rfl rfl ?_
  refine Seq.nil ?_
  refine Post.weak (F' := [(0, _), (1, _), (4, _), (5, _), (6, _), (7, _), (8, _), (9, _), (10, _), (11, _), (12, _)]) ⟨rfl, rfl, rfl, rfl, rfl, rfl, rfl, rfl, rfl, rfl, rfl, trivial⟩ ?_
  refine Post.then_ ?_
  refine Cd.seq ?_
  refine Cd.region ?_
  refine Seq.val (Runs.move rfl rfl) rfl rfl rfl ?_
  refine Seq.call (Enters.func rfl rfl rfl (run_enter Try.func25 (by kernel_rfl) rfl)) rfl rfl rfl (of_big a _ h1 h2) ?_
  rintro e w9 ⟨x, rfl, hb9, hx⟩
  refine ⟨_, rfl, ?_⟩
  replace bel := bel.step hb9
  obtain ⟨m, rfl, om, hm⟩ := hx.agg
  refine Seq.val (Runs.move rfl rfl) rfl rfl rfl ?_
  refine Seq.call (Enters.func rfl rfl rfl (run_enter Try.func25 (by kernel_rfl) rfl)) rfl rfl rfl (of_big b _ h3 h4) ?_
  rintro e w10 ⟨y, rfl, hb10, hy⟩
  refine ⟨_, rfl, ?_⟩
  replace bel := bel.step hb10
  replace hm := hm.step hb10
  obtain ⟨q, rfl, oq, hq⟩ := hy.agg
  have i1 := hm.ni
  have i2 := hq.ni
  refine Seq.alloc rfl (run_zero zero_debentureref01_Big) rfl rfl rfl ?_
  intro g13 w1 n13
  have e13 := Nat.le_trans bel.size n13.ge
  replace bel := bel.step n13.below
  replace hm := hm.step n13.below
  replace hq := hq.step n13.below
  have k13 := n13.blk
  refine Seq.alloc rfl (run_zero zero_debentureref01_Big) rfl rfl rfl ?_
  intro g14 w2 n14
  have e14 := Nat.le_trans bel.size n14.ge
  have l14 := Nat.lt_of_lt_of_le k13.lt n14.ge
  replace bel := bel.step n14.below
  replace hm := hm.step n14.below
  replace hq := hq.step n14.below
  replace k13 := k13.step n14.below
  have k14 := n14.blk
  refine Seq.storeN rfl rfl rfl rfl (m := 2) (by kernel_rfl) rfl (by repeat' first | exact trivial | apply And.intro | rfl | assumption) k13 (by simp [Value.cells]) rfl rfl ?_
  intro w3 pw3
  replace bel := bel.put k13 pw3 e13
  replace hm := hm.put k13 pw3 e13
  replace hq := hq.put k13 pw3 e13
  replace k14 := k14.put pw3 (by omega)
  replace k13 := pw3.blk
  refine Seq.storeN rfl rfl rfl rfl (m := 2) (by kernel_rfl) rfl (by repeat' first | exact trivial | apply And.intro | rfl | assumption) k14 (by simp [Value.cells]) rfl rfl ?_
  intro w4 pw4
  replace bel := bel.put k14 pw4 e14
  replace hm := hm.put k14 pw4 e14
  replace hq := hq.put k14 pw4 e14
  replace k13 := k13.put pw4 (by omega)
  replace k14 := pw4.blk
  refine Seq.nil ?_
  refine Post.weak (F' := [(0, _), (1, _), (4, _), (5, _), (6, _), (7, _), (8, _), (9, _), (10, _), (11, _), (12, _), (13, _), (14, _)]) ⟨rfl, rfl, rfl, rfl, rfl, rfl, rfl, rfl, rfl, rfl, rfl, rfl, rfl, trivial⟩ ?_
  refine Post.then_ ?_
  refine Cd.seq ?_
  refine Cd.weak (F' := [(0, _), (1, _), (5, _), (6, _), (7, _), (8, _), (9, _), (10, _), (11, _), (12, _), (13, _), (14, _)]) ⟨rfl, rfl, rfl, rfl, rfl, rfl, rfl, rfl, rfl, rfl, rfl, rfl, trivial⟩ ?_
  refine Cd.draw 34 (by kernel_rfl) [] (.inl rfl) rfl Grow Grow.refl (fun _ _ _ => Grow.trans) ?_
  intro w5 hw5 zw5
  replace bel := bel.step hw5
  replace hm := hm.step hw5
  replace hq := hq.step hw5
  replace k13 := k13.step hw5
  replace k14 := k14.step hw5
  have zbel := bel.size
  have zlt := k14.lt
  refine Dr.val Grow.refl rfl (fun w hG => Runs.loadW rfl rfl Try.underlying31 rfl (k13.step hG) (m := 2) (by kernel_rfl) rfl) rfl ?_
  refine Dr.val Grow.refl rfl (fun w hG => Runs.loadW rfl rfl Try.underlying31 rfl (k14.step hG) (m := 2) (by kernel_rfl) rfl) rfl ?_
  refine Dr.call (Φ := fun x w => BigR w x (a + b)) rfl (fun w => Enters.func rfl rfl rfl (run_enter Try.func26 (by kernel_rfl) rfl)) rfl (BigR.stable _) (fun w hG => plus_big _ _ a b _ ⟨m, rfl, hm.step hG⟩ ⟨q, rfl, hq.step hG⟩ ha.big hb.big) ?_
  refine Dr.val Grow.refl rfl (fun w hG => Runs.move rfl rfl) rfl ?_
  refine Dr.val Grow.refl rfl (fun w hG => Runs.move rfl rfl) rfl ?_
  refine Dr.call1V (j := 2) rfl rfl rfl (fun u w => Enters.func rfl rfl rfl (run_enter Try.func17 (by kernel_rfl) rfl)) rfl (fun u w hG hu => lawSmall_any u (a + b) _ _ _ hu hab rfl rfl) ?_
  refine Dr.val Grow.refl rfl (fun w hG => Runs.move rfl rfl) rfl ?_
  refine Dr.valG Grow.refl rfl (fun w hG => Runs.loadW rfl rfl Try.underlying31 rfl (k13.step hG) (m := 2) (by kernel_rfl) rfl) rfl rfl rfl ?_
  refine Dr.valG Grow.refl rfl (fun w hG => Runs.loadW rfl rfl Try.underlying31 rfl (k14.step hG) (m := 2) (by kernel_rfl) rfl) rfl rfl rfl ?_
  refine Dr.callG (Φ := fun x w => BigR w x (-b)) rfl (fun w => Enters.func rfl rfl rfl (run_enter Try.func27 (by kernel_rfl) rfl)) rfl rfl rfl (BigR.stable _) (fun w hG => minus_big _ b _ ⟨q, rfl, hq.step hG⟩ hb.big) ?_
  refine Dr.call1G (j := 9) (Φ := fun x w => BigR w x (a + -b)) rfl rfl rfl (fun u w => Enters.func rfl rfl rfl (run_enter Try.func26 (by kernel_rfl) rfl)) rfl rfl (fun _ => rfl) (BigR.stable _) (fun u w hG hu => plus_big _ u a (-b) _ ⟨m, rfl, hm.step hG⟩ hu ha.big hnb) ?_
  refine Dr.valG Grow.refl rfl (fun w hG => Runs.move rfl rfl) rfl rfl rfl ?_
  refine Dr.valG Grow.refl rfl (fun w hG => Runs.move rfl rfl) rfl rfl rfl ?_
  refine Dr.call1VG (j := 10) rfl rfl rfl (fun u w => Enters.func rfl rfl rfl (run_enter Try.func17 (by kernel_rfl) rfl)) rfl rfl (fun _ => rfl) (fun u w hG hu => lawSmall_any u (a + -b) _ _ _ hu hsb rfl rfl) ?_
  refine Dr.val Grow.refl rfl (fun w hG => Runs.pickT rfl rfl rfl) rfl ?_
  refine Dr.val Grow.refl rfl (fun w hG => Runs.move rfl rfl) rfl ?_
  refine Dr.valG Grow.refl rfl (fun w hG => Runs.loadW rfl rfl Try.underlying31 rfl (k13.step hG) (m := 2) (by kernel_rfl) rfl) rfl rfl rfl ?_
  refine Dr.callG (Φ := fun x w => BigR w x (-a)) rfl (fun w => Enters.func rfl rfl rfl (run_enter Try.func27 (by kernel_rfl) rfl)) rfl rfl rfl (BigR.stable _) (fun w hG => minus_big _ a _ ⟨m, rfl, hm.step hG⟩ ha.big) ?_
  refine Dr.valG Grow.refl rfl (fun w hG => Runs.move rfl rfl) rfl rfl rfl ?_
  refine Dr.valG Grow.refl rfl (fun w hG => Runs.move rfl rfl) rfl rfl rfl ?_
  refine Dr.call1VG (j := 17) rfl rfl rfl (fun u w => Enters.func rfl rfl rfl (run_enter Try.func17 (by kernel_rfl) rfl)) rfl rfl (fun _ => rfl) (fun u w hG hu => lawSmall_any u (-a) _ _ _ hu hna rfl rfl) ?_
  refine Dr.val Grow.refl rfl (fun w hG => Runs.pickT rfl rfl rfl) rfl ?_
  refine Dr.val Grow.refl rfl (fun w hG => Runs.move rfl rfl) rfl ?_
  refine Dr.valG Grow.refl rfl (fun w hG => Runs.loadW rfl rfl Try.underlying31 rfl (k13.step hG) (m := 2) (by kernel_rfl) rfl) rfl rfl rfl ?_
  refine Dr.valG Grow.refl rfl (fun w hG => Runs.loadW rfl rfl Try.underlying31 rfl (k14.step hG) (m := 2) (by kernel_rfl) rfl) rfl rfl rfl ?_
  refine Dr.callG (Φ := fun x w => BigR w x (a * b)) rfl (fun w => Enters.func rfl rfl rfl (run_enter Try.func28 (by kernel_rfl) rfl)) rfl rfl rfl (BigR.stable _) (fun w hG => times_grow _ _ a b _ ⟨m, rfl, hm.step hG⟩ ⟨q, rfl, hq.step hG⟩ ha.big hb.big) ?_
  refine Dr.valG Grow.refl rfl (fun w hG => Runs.move rfl rfl) rfl rfl rfl ?_
  refine Dr.valG Grow.refl rfl (fun w hG => Runs.move rfl rfl) rfl rfl rfl ?_
  refine Dr.call1VG (j := 25) rfl rfl rfl (fun u w => Enters.func rfl rfl rfl (run_enter Try.func17 (by kernel_rfl) rfl)) rfl rfl (fun _ => rfl) (fun u w hG hu => lawSmall_any u (a * b) _ _ _ hu hmb rfl rfl) ?_
  refine Dr.val Grow.refl rfl (fun w hG => Runs.pickT rfl rfl rfl) rfl ?_
  refine Dr.val Grow.refl rfl (fun w hG => Runs.move rfl rfl) rfl ?_
  refine Dr.callVG rfl (fun w => Enters.func rfl rfl rfl (run_enter Try.func15 (by kernel_rfl) rfl)) rfl rfl rfl (fun w hG => awake_any _) ?_
  refine Dr.val Grow.refl rfl (fun w hG => Runs.pickT rfl rfl rfl) rfl ?_
  refine Dr.val Grow.refl rfl (fun w hG => Runs.assign rfl rfl) rfl ?_
  refine Dr.nil ?_
  refine FinX.done (F' := [(0, _), (1, _), (4, _), (5, _), (6, _), (7, _), (8, _), (9, _), (10, _), (11, _), (12, _), (13, _), (14, _)]) rfl ⟨rfl, rfl, rfl, rfl, rfl, rfl, rfl, rfl, rfl, rfl, rfl, rfl, rfl, trivial⟩ ?_
  intro w6 hw6 fw6
  replace bel := bel.step hw6
  replace hm := hm.step hw6
  replace hq := hq.step hw6
  replace k13 := k13.step hw6
  replace k14 := k14.step hw6
  refine Seq.nil ?_
  refine Post.weak (F' := [(0, _), (1, _), (4, _), (5, _), (6, _), (7, _), (8, _), (9, _), (10, _), (11, _), (12, _), (13, _), (14, _)]) ⟨rfl, rfl, rfl, rfl, rfl, rfl, rfl, rfl, rfl, rfl, rfl, rfl, rfl, trivial⟩ ?_
  refine Post.then_ ?_
  refine Cd.ret ?_
  refine Post.end1 rfl rfl (.inl rfl) ?_
  exact ⟨rfl, bel⟩

namespace NumAdds
theorem own : ownKnob Try.prog.godebug = none := by kernel_rfl
theorem laidOut : laidOutB Try.prog = true := by kernel_rfl
set_option maxRecDepth 100000 in
theorem lifted (os : Os) (started : os.Started) (H : Type) (enc : TypeId × Value → H) :
    ReturnsInHanded {} Try.checked os 8 .any (Rows.numAddsSpec.pre6 enc Try.prog Try.f8 Rows.numAddsRow.domain false) (Rows.numAddsSpec.post enc Try.prog Try.f8 false true false false) := by
  refine returnsInHanded_of_change (C := Try.checked) own started (by kernel_rfl) Try.func8
    (ChangeSpec.witness6 (enc := enc) (C := Try.checked) false ⟨#[], #[.int .i64 0, .int .i64 0], []⟩ 8 (by kernel_rfl) (by kernel_rfl) (by kernel_rfl) (by kernel_rfl)) ?_
  intro W base args ds gs before hval0 hW hcnd _
  have hval : ∀ (j : Nat) t v, Try.f8.params[j]? = some t → args[j]? = some v → Value.okWide Try.prog W .any base t v := hval0
  have hW' := hW
  obtain ⟨p, q, hA0, hV, rfl, hfz, hnd⟩ := hW
  have hA : DataW.TrodAll enc Try.prog W 0 (fun _ => true) true Try.f8.params.toList args.toList ds p := hA0
  rw [Try.params8] at hA hval
  obtain ⟨v0, vs0, d0, ds0, p0, q0, hargs, rfl, rfl, h0, r0⟩ := trodAll_cons hA
  obtain ⟨v1, vs1, d1, ds1, p1, q1, rfl, rfl, rfl, h1, r1⟩ := trodAll_cons r0
  obtain ⟨rfl, rfl, rfl⟩ := trodAll_nil r1
  obtain rfl : args = #[v0, v1] := by cases args; simp_all
  obtain ⟨rfl, rfl⟩ := trodVars_none hV
  have k0 := h0
  have lt0 : ∀ x ∈ p0, x.block < W.heap.size := by obtain ⟨m, hm⟩ := k0; exact DataW.trod_lt m _ _ _ hm
  have k1 := h1
  have lt1 : ∀ x ∈ p1, x.block < W.heap.size := by obtain ⟨m, hm⟩ := k1; exact DataW.trod_lt m _ _ _ hm
  obtain ⟨a, rfl, ha⟩ := open_i64 Try.underlying2 (hval 0 _ v0 rfl rfl)
  obtain ⟨b, rfl, hb⟩ := open_i64 Try.underlying2 (hval 1 _ v1 rfl rfl)
  clear hA0 hval0
  refine (walk_adds a b W ha hb).mono fun e W' ⟨he, bel⟩ => ?_
  subst he
  exact ⟨_, rfl, _, _, _, [], _, [], hW', trodAll_mk1 (shut_bool Try.underlying4 _), (trodAll_cons_mk (Below.trod laidOut (by kernel_rfl) (of_decide_eq_true (by kernel_rfl)) k0 bel lt0) (trodAll_cons_mk (Below.trod laidOut (by kernel_rfl) (of_decide_eq_true (by kernel_rfl)) k1 bel lt1) trodAll_mk0)), rfl, bel.frame _, fun h => by cases h⟩

theorem over : Rows.numAddsRow.holds Try.pinned (OpenSpec.ofChange Rows.numAddsSpec) :=
  OpenClaim.holds_of_wide 8 Try.f8 rfl rfl rfl rfl rfl rfl rfl ⟨rfl, rfl, rfl, rfl, rfl⟩ rfl rfl rfl rfl rfl (by kernel_rfl) Try.func8 (by kernel_rfl)
    (of_decide_eq_true (by kernel_rfl)) (by unfold Func.isWrapper; first | (rw [if_pos (by decide +kernel)]; kernel_rfl) | (rw [if_neg (by decide +kernel)]; exact ⟨rfl, rfl⟩))
    (fun os started H enc _ => lifted os started H enc)

theorem proved : Rows.NumAddsSaid := over

end NumAdds
end Go.Proofs.Ytpdeihienkbeeaa

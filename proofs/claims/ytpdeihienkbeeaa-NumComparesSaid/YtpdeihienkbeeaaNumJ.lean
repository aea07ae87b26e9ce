/-
  num's Apply; RatCmp where a denominator is nought, and where none is: what each answers. Condition: the numbers are of 64 bits.
-/
import Derived.Test.YtpdeihienkbeeaaNumI
namespace Go.Proofs.Ytpdeihienkbeeaa
open Go.RowKit

theorem apply_any (n p q mode : Int) (w : World) (hn : I64 n) (hp : I64 p) (hq : I64 q) :
    Calls Try.prog 31 #[.int .i64 n, .agg #[.int .i64 p, .int .i64 q], .int .i64 mode] w fun e w' => e = .returned (if q = 0 ∨ mode < 0 ∨ 3 < mode then .tuple #[.int .i64 0, .bool false] else
      .tuple #[.int .i64 (smallOf (rndZ (n.natAbs * p.natAbs) (decide (decide (n < 0) ≠ decide (p < 0))) q mode)), .bool (fits (rndZ (n.natAbs * p.natAbs) (decide (decide (n < 0) ≠ decide (p < 0))) q mode))]) ∧ Grow w w' := by
  have bel := Below.refl w.heap.size w
  have h1 := fun w => MulDiv_any n p q mode w hn hp hq
  obtain ⟨x, y, hV⟩ : ∃ x y, (if q = 0 ∨ mode < 0 ∨ 3 < mode then Value.tuple #[.int .i64 0, .bool false] else
      .tuple #[.int .i64 (smallOf (rndZ (n.natAbs * p.natAbs) (decide (decide (n < 0) ≠ decide (p < 0))) q mode)), .bool (fits (rndZ (n.natAbs * p.natAbs) (decide (decide (n < 0) ≠ decide (p < 0))) q mode))]) = .tuple #[.int .i64 x, .bool y] := by
    split
    · exact ⟨_, _, rfl⟩
    · exact ⟨_, _, rfl⟩
  rw [hV] at h1 ⊢
  refine Calls.start 17 Try.func31 rfl rfl rfl ?_
  refine Cd.seq ?_
  refine Cd.region ?_
  refine Seq.box rfl rfl rfl rfl rfl ?_
  intro g4 w1 n4
  have e4 := Nat.le_trans bel.size n4.ge
  replace bel := bel.step n4.below
  have k4 := n4.blk
  refine Seq.val (Runs.assign rfl rfl) rfl rfl rfl ?_
  refine Seq.val (Runs.assign rfl rfl) rfl rfl rfl ?_
  refine Seq.nil ?_
  refine Post.weak (F' := [(0, _), (1, _), (2, _), (4, _), (6, _), (7, _)]) ⟨rfl, rfl, rfl, rfl, rfl, rfl, trivial⟩ ?_
  refine Post.then_ ?_
  refine Cd.seq ?_
  refine Cd.region ?_
  refine Seq.val (Runs.move rfl rfl) rfl rfl rfl ?_
  refine Seq.val (Runs.fieldB 0 rfl rfl Try.underlying45 rfl (by kernel_rfl)) rfl rfl rfl ?_
  refine Seq.val (Runs.loadB rfl rfl Try.underlying2 rfl k4 rfl) rfl rfl rfl ?_
  refine Seq.val (Runs.fieldB 1 rfl rfl Try.underlying45 rfl (by kernel_rfl)) rfl rfl rfl ?_
  refine Seq.val (Runs.loadB rfl rfl Try.underlying2 rfl k4 rfl) rfl rfl rfl ?_
  refine Seq.val (Runs.move rfl rfl) rfl rfl rfl ?_
  refine Seq.call (Enters.func rfl rfl rfl (run_enter Try.func13 (by kernel_rfl) rfl)) rfl rfl rfl (h1 _) ?_
  rintro e w2 ⟨rfl, hb2⟩
  refine ⟨_, rfl, ?_⟩
  replace bel := bel.step hb2
  replace k4 := k4.step hb2
  refine Seq.val (Runs.extract rfl rfl rfl) rfl rfl rfl ?_
  refine Seq.val (Runs.extract rfl rfl rfl) rfl rfl rfl ?_
  refine Seq.val (Runs.assign rfl rfl) rfl rfl rfl ?_
  refine Seq.val (Runs.assign rfl rfl) rfl rfl rfl ?_
  refine Seq.nil ?_
  refine Post.weak (F' := [(0, _), (1, _), (2, _), (4, _), (6, _), (7, _)]) ⟨rfl, rfl, rfl, rfl, rfl, rfl, trivial⟩ ?_
  refine Post.then_ ?_
  refine Cd.ret ?_
  refine Post.end2 rfl rfl rfl (.inl rfl) ?_
  exact ⟨rfl, bel⟩
theorem ratCmp_any (p q r s : Int) (w : World) (hp : I64 p) (hq : I64 q) (hr : I64 r) (hs : I64 s) (hq0 : q ≠ 0) (hs0 : s ≠ 0) :
    Calls Try.prog 29 #[.agg #[.int .i64 p, .int .i64 q], .agg #[.int .i64 r, .int .i64 s]] w fun e w' =>
      e = .returned (.tuple #[.int .i64 (wayOf (decide (p < 0) != decide (q < 0)) ((p.natAbs / Nat.gcd p.natAbs q.natAbs : Nat) : Int) ((q.natAbs / Nat.gcd p.natAbs q.natAbs : Nat) : Int) (decide (r < 0) != decide (s < 0)) ((r.natAbs / Nat.gcd r.natAbs s.natAbs : Nat) : Int) ((s.natAbs / Nat.gcd r.natAbs s.natAbs : Nat) : Int)), .bool true]) ∧ Grow w w' := by
  obtain ⟨p0, p1⟩ := hp
  obtain ⟨q0, q1⟩ := hq
  obtain ⟨r0, r1⟩ := hr
  obtain ⟨s0, s1⟩ := hs
  have a1 := Nat.div_le_self p.natAbs (Nat.gcd p.natAbs q.natAbs)
  have a2 := Nat.div_le_self q.natAbs (Nat.gcd p.natAbs q.natAbs)
  have a3 := Nat.div_le_self r.natAbs (Nat.gcd r.natAbs s.natAbs)
  have a4 := Nat.div_le_self s.natAbs (Nat.gcd r.natAbs s.natAbs)
  have c1 := fun w => signed_any p q w p0 p1 q0 q1 hq0
  have c2 := fun w => signed_any r s w r0 r1 s0 s1 hs0
  generalize p.natAbs / Nat.gcd p.natAbs q.natAbs = n at *
  generalize q.natAbs / Nat.gcd p.natAbs q.natAbs = d at *
  generalize r.natAbs / Nat.gcd r.natAbs s.natAbs = m at *
  generalize s.natAbs / Nat.gcd r.natAbs s.natAbs = k at *
  exact ratCmp_core _ _ n d m k p q r s w rfl (by omega) (by omega) (by omega) (by omega) (by omega) (by omega) (by omega) (by omega) (by simp [hq0]) (by simp [hs0]) c1 c2
theorem ratCmp_zero (p q r s : Int) (w : World) (h : q = 0 ∨ s = 0) :
    Calls Try.prog 29 #[.agg #[.int .i64 p, .int .i64 q], .agg #[.int .i64 r, .int .i64 s]] w fun e w' => e = .returned (.tuple #[.int .i64 0, .bool false]) ∧ Grow w w' := by
  have bel := Below.refl w.heap.size w
  refine Calls.start 108 Try.func29 rfl rfl rfl ?_
  refine Cd.seq ?_
  refine Cd.region ?_
  refine Seq.box rfl rfl rfl rfl rfl ?_
  intro g2 w1 n2
  have e2 := Nat.le_trans bel.size n2.ge
  replace bel := bel.step n2.below
  have k2 := n2.blk
  refine Seq.box rfl rfl rfl rfl rfl ?_
  intro g3 w2 n3
  have e3 := Nat.le_trans bel.size n3.ge
  have l3 := Nat.lt_of_lt_of_le k2.lt n3.ge
  replace bel := bel.step n3.below
  replace k2 := k2.step n3.below
  have k3 := n3.blk
  refine Seq.val (Runs.assign rfl rfl) rfl rfl rfl ?_
  refine Seq.val (Runs.assign rfl rfl) rfl rfl rfl ?_
  refine Seq.nil ?_
  refine Post.weak (F' := [(0, _), (1, _), (2, _), (3, _), (4, _), (5, _)]) ⟨rfl, rfl, rfl, rfl, rfl, rfl, trivial⟩ ?_
  refine Post.then_ ?_
  refine Cd.seq ?_
  refine Cd.seq ?_
  refine Cd.region ?_
  refine Seq.val (Runs.fieldB 1 rfl rfl Try.underlying45 rfl (by kernel_rfl)) rfl rfl rfl ?_
  refine Seq.val (Runs.loadB rfl rfl Try.underlying2 rfl k2 rfl) rfl rfl rfl ?_
  refine Seq.val (Runs.eqlI rfl rfl rfl) rfl rfl rfl ?_
  refine Seq.val (Runs.move rfl rfl) rfl rfl rfl ?_
  refine SeqC.start ?_
  refine SeqC.open rfl rfl rfl rfl rfl rfl rfl (fun hcx => Runs.fieldB 1 rfl rfl Try.underlying45 rfl (by kernel_rfl)) ?_
  refine SeqC.next rfl rfl rfl rfl rfl rfl rfl (fun hcx => Runs.loadB rfl rfl Try.underlying2 rfl k3 rfl) ?_
  refine SeqC.next rfl rfl rfl rfl rfl rfl rfl (fun hcx => Runs.eqlI rfl rfl rfl) ?_
  refine SeqC.or rfl rfl rfl rfl rfl rfl rfl ?_
  refine Seq.nil ?_
  refine Post.weak (F' := [(0, _), (1, _), (2, _), (3, _), (4, _), (5, _), (24, _)]) ⟨rfl, rfl, rfl, rfl, rfl, rfl, rfl, trivial⟩ ?_
  refine Post.then_ ?_
  refine Cd.condT rfl (by simp; omega) ?_
  refine Cd.seq ?_
  refine Cd.region ?_
  refine Seq.val (Runs.assign rfl rfl) rfl rfl rfl ?_
  refine Seq.val (Runs.assign rfl rfl) rfl rfl rfl ?_
  refine Seq.nil ?_
  refine Post.weak (F' := [(0, _), (1, _), (2, _), (3, _), (4, _), (5, _), (24, _)]) ⟨rfl, rfl, rfl, rfl, rfl, rfl, rfl, trivial⟩ ?_
  refine Post.then_ ?_
  refine Cd.ret ?_
  refine Post.then_ret ?_
  refine Post.end2 rfl rfl rfl (.inl rfl) ?_
  exact ⟨rfl, bel⟩
end Go.Proofs.Ytpdeihienkbeeaa

/-
  cmp.Compare, edit's order, may: what each answers. No condition.
-/
import Derived.Test.YthcimkhnijnmgaaEditA
namespace Go.Proofs.Ythcimkhnijnmgaa
open Go.RowKit

def cmpI (a b : Int) : Int := if a < b then -1 else if b < a then 1 else 0
def eqS (a b : List Nat) : Bool := (strOf a).toList == (strOf b).toList
def cmpS (a b : List Nat) : Int := if ltB a b then -1 else if eqS a b then 0 else 1
theorem nanI_any (a : Int) (w : World) : Calls Try.prog 52 #[.int .i64 a] w fun e w' => e = .returned (.bool false) ∧ Grow w w' := by
  have bel := Below.refl w.heap.size w
  refine Calls.start 6 Try.func52 rfl rfl rfl ?_
  refine Cd.seq ?_
  refine Cd.region ?_
  refine Seq.val (Runs.assign rfl rfl) rfl rfl rfl ?_
  refine Seq.nil ?_
  refine Post.weak (F' := [(0, _), (2, _)]) ⟨rfl, rfl, trivial⟩ ?_
  refine Post.then_ ?_
  refine Cd.seq ?_
  refine Cd.region ?_
  refine Seq.val (Runs.move rfl rfl) rfl rfl rfl ?_
  refine Seq.val (Runs.move rfl rfl) rfl rfl rfl ?_
  refine Seq.val (Runs.neqI rfl rfl rfl) rfl rfl rfl ?_
  refine Seq.val (Runs.assign rfl rfl) rfl rfl rfl ?_
  refine Seq.nil ?_
  refine Post.weak (F' := [(0, _), (2, _)]) ⟨rfl, rfl, trivial⟩ ?_
  refine Post.then_ ?_
  refine Cd.ret ?_
  refine Post.end1 rfl rfl (.inl rfl) ?_
  exact ⟨ret1 (bool_eq (by simp)), bel⟩
theorem nanS_any (a : List Nat) (w : World) : Calls Try.prog 53 #[.string (strOf a)] w fun e w' => e = .returned (.bool false) ∧ Grow w w' := by
  have bel := Below.refl w.heap.size w
  refine Calls.start 6 Try.func53 rfl rfl rfl ?_
  refine Cd.seq ?_
  refine Cd.region ?_
  refine Seq.val (Runs.assign rfl rfl) rfl rfl rfl ?_
  refine Seq.nil ?_
  refine Post.weak (F' := [(0, _), (2, _)]) ⟨rfl, rfl, trivial⟩ ?_
  refine Post.then_ ?_
  refine Cd.seq ?_
  refine Cd.region ?_
  refine Seq.val (Runs.move rfl rfl) rfl rfl rfl ?_
  refine Seq.val (Runs.move rfl rfl) rfl rfl rfl ?_
  refine Seq.val (Runs.neqS rfl rfl rfl) rfl rfl rfl ?_
  refine Seq.val (Runs.assign rfl rfl) rfl rfl rfl ?_
  refine Seq.nil ?_
  refine Post.weak (F' := [(0, _), (2, _)]) ⟨rfl, rfl, trivial⟩ ?_
  refine Post.then_ ?_
  refine Cd.ret ?_
  refine Post.end1 rfl rfl (.inl rfl) ?_
  exact ⟨ret1 (bool_eq (by simp)), bel⟩
theorem compareI_any (a b : Int) (w : World) : Calls Try.prog 42 #[.int .i64 a, .int .i64 b] w fun e w' => e = .returned (.int .i64 (cmpI a b)) ∧ Grow w w' := by
  have bel := Below.refl w.heap.size w
  refine Calls.start 20 Try.func42 rfl rfl rfl ?_
  refine Cd.seq ?_
  refine Cd.region ?_
  refine Seq.val (Runs.assign rfl rfl) rfl rfl rfl ?_
  refine Seq.nil ?_
  refine Post.weak (F' := [(0, _), (1, _), (4, _)]) ⟨rfl, rfl, rfl, trivial⟩ ?_
  refine Post.then_ ?_
  refine Cd.seq ?_
  refine Cd.region ?_
  refine Seq.val (Runs.move rfl rfl) rfl rfl rfl ?_
  refine Seq.call (Enters.func rfl rfl rfl (run_enter Try.func52 (by kernel_rfl) rfl)) rfl rfl rfl (nanI_any a _) ?_
  rintro e w2 ⟨rfl, hb2⟩
  refine ⟨_, rfl, ?_⟩
  replace bel := bel.step hb2
  refine Seq.val (Runs.assign rfl rfl) rfl rfl rfl ?_
  refine Seq.nil ?_
  refine Post.weak (F' := [(0, _), (1, _), (4, _), (5, _)]) ⟨rfl, rfl, rfl, rfl, trivial⟩ ?_
  refine Post.then_ ?_
  refine Cd.seq ?_
  refine Cd.region ?_
  refine Seq.val (Runs.move rfl rfl) rfl rfl rfl ?_
  refine Seq.call (Enters.func rfl rfl rfl (run_enter Try.func52 (by kernel_rfl) rfl)) rfl rfl rfl (nanI_any b _) ?_
  rintro e w3 ⟨rfl, hb3⟩
  refine ⟨_, rfl, ?_⟩
  replace bel := bel.step hb3
  refine Seq.val (Runs.assign rfl rfl) rfl rfl rfl ?_
  refine Seq.nil ?_
  refine Post.weak (F' := [(0, _), (1, _), (4, _), (5, _), (6, _)]) ⟨rfl, rfl, rfl, rfl, rfl, trivial⟩ ?_
  refine Post.then_ ?_
  refine Cd.seq ?_
  refine Cd.seq ?_
  refine Cd.region ?_
  refine Seq.val (Runs.move rfl rfl) rfl rfl rfl ?_
  refine Seq.nil ?_
  refine Post.weak (F' := [(0, _), (1, _), (4, _), (5, _), (6, _), (11, _)]) ⟨rfl, rfl, rfl, rfl, rfl, rfl, trivial⟩ ?_
  refine Post.then_ ?_
  refine Cd.condF rfl rfl ?_
  refine Cd.skip ?_
  refine Post.then_ ?_
  refine Cd.seq ?_
  refine Cd.seq ?_
  refine Cd.region ?_
  refine Seq.val (Runs.move rfl rfl) rfl rfl rfl ?_
  refine Seq.nil ?_
  refine Post.weak (F' := [(0, _), (1, _), (4, _), (5, _), (6, _), (11, _), (13, _)]) ⟨rfl, rfl, rfl, rfl, rfl, rfl, rfl, trivial⟩ ?_
  refine Post.then_ ?_
  refine Cd.condF rfl rfl ?_
  refine Cd.skip ?_
  refine Post.then_ ?_
  refine Cd.seq ?_
  refine Cd.seq ?_
  refine Cd.region ?_
  refine Seq.val (Runs.move rfl rfl) rfl rfl rfl ?_
  refine Seq.val (Runs.move rfl rfl) rfl rfl rfl ?_
  refine Seq.val (Runs.lss rfl rfl rfl) rfl rfl rfl ?_
  refine Seq.nil ?_
  refine Post.weak (F' := [(0, _), (1, _), (4, _), (5, _), (6, _), (11, _), (13, _), (16, _)]) ⟨rfl, rfl, rfl, rfl, rfl, rfl, rfl, rfl, trivial⟩ ?_
  refine Post.then_ ?_
  refine Cd.condD rfl (fun hc => ?_) (fun hc => ?_)
  · skip
    refine Cd.seq ?_
    refine Cd.region ?_
    refine Seq.val (Runs.assign rfl rfl) rfl rfl rfl ?_
    refine Seq.nil ?_
    refine Post.weak (F' := [(0, _), (1, _), (4, _), (5, _), (6, _), (11, _), (13, _), (16, _)]) ⟨rfl, rfl, rfl, rfl, rfl, rfl, rfl, rfl, trivial⟩ ?_
    refine Post.then_ ?_
    refine Cd.ret ?_
    refine Post.then_ret ?_
    refine Post.end1 rfl rfl (.inl rfl) ?_
    exact ⟨ret1 (int_eq (by unfold cmpI; rw [if_pos (by omega)])), bel⟩
  · have hn : ¬ a < b := by omega
    refine Cd.skip ?_
    refine Post.then_ ?_
    refine Cd.seq ?_
    refine Cd.seq ?_
    refine Cd.region ?_
    refine Seq.val (Runs.move rfl rfl) rfl rfl rfl ?_
    refine Seq.val (Runs.move rfl rfl) rfl rfl rfl ?_
    refine Seq.val (Runs.gtr rfl rfl rfl) rfl rfl rfl ?_
    refine Seq.nil ?_
    refine Post.weak (F' := [(0, _), (1, _), (4, _), (5, _), (6, _), (11, _), (13, _), (16, _), (19, _)]) ⟨rfl, rfl, rfl, rfl, rfl, rfl, rfl, rfl, rfl, trivial⟩ ?_
    refine Post.then_ ?_
    refine Cd.condD rfl (fun hc => ?_) (fun hc => ?_)
    · skip
      refine Cd.seq ?_
      refine Cd.region ?_
      refine Seq.val (Runs.assign rfl rfl) rfl rfl rfl ?_
      refine Seq.nil ?_
      refine Post.weak (F' := [(0, _), (1, _), (4, _), (5, _), (6, _), (11, _), (13, _), (16, _), (19, _)]) ⟨rfl, rfl, rfl, rfl, rfl, rfl, rfl, rfl, rfl, trivial⟩ ?_
      refine Post.then_ ?_
      refine Cd.ret ?_
      refine Post.then_ret ?_
      refine Post.end1 rfl rfl (.inl rfl) ?_
      exact ⟨ret1 (int_eq (by unfold cmpI; rw [if_neg hn, if_pos (by omega)])), bel⟩
    · skip
      refine Cd.skip ?_
      refine Post.then_ ?_
      refine Cd.seq ?_
      refine Cd.region ?_
      refine Seq.val (Runs.assign rfl rfl) rfl rfl rfl ?_
      refine Seq.nil ?_
      refine Post.weak (F' := [(0, _), (1, _), (4, _), (5, _), (6, _), (11, _), (13, _), (16, _), (19, _)]) ⟨rfl, rfl, rfl, rfl, rfl, rfl, rfl, rfl, rfl, trivial⟩ ?_
      refine Post.then_ ?_
      refine Cd.ret ?_
      refine Post.end1 rfl rfl (.inl rfl) ?_
      exact ⟨ret1 (int_eq (by unfold cmpI; rw [if_neg hn, if_neg (by omega)])), bel⟩
theorem compareS_any (a b : List Nat) (w : World) : Calls Try.prog 43 #[.string (strOf a), .string (strOf b)] w fun e w' => e = .returned (.int .i64 (cmpS a b)) ∧ Grow w w' := by
  have bel := Below.refl w.heap.size w
  refine Calls.start 20 Try.func43 rfl rfl rfl ?_
  refine Cd.seq ?_
  refine Cd.region ?_
  refine Seq.val (Runs.assign rfl rfl) rfl rfl rfl ?_
  refine Seq.nil ?_
  refine Post.weak (F' := [(0, _), (1, _), (4, _)]) ⟨rfl, rfl, rfl, trivial⟩ ?_
  refine Post.then_ ?_
  refine Cd.seq ?_
  refine Cd.region ?_
  refine Seq.val (Runs.move rfl rfl) rfl rfl rfl ?_
  refine Seq.call (Enters.func rfl rfl rfl (run_enter Try.func53 (by kernel_rfl) rfl)) rfl rfl rfl (nanS_any a _) ?_
  rintro e w2 ⟨rfl, hb2⟩
  refine ⟨_, rfl, ?_⟩
  replace bel := bel.step hb2
  refine Seq.val (Runs.assign rfl rfl) rfl rfl rfl ?_
  refine Seq.nil ?_
  refine Post.weak (F' := [(0, _), (1, _), (4, _), (5, _)]) ⟨rfl, rfl, rfl, rfl, trivial⟩ ?_
  refine Post.then_ ?_
  refine Cd.seq ?_
  refine Cd.region ?_
  refine Seq.val (Runs.move rfl rfl) rfl rfl rfl ?_
  refine Seq.call (Enters.func rfl rfl rfl (run_enter Try.func53 (by kernel_rfl) rfl)) rfl rfl rfl (nanS_any b _) ?_
  rintro e w3 ⟨rfl, hb3⟩
  refine ⟨_, rfl, ?_⟩
  replace bel := bel.step hb3
  refine Seq.val (Runs.assign rfl rfl) rfl rfl rfl ?_
  refine Seq.nil ?_
  refine Post.weak (F' := [(0, _), (1, _), (4, _), (5, _), (6, _)]) ⟨rfl, rfl, rfl, rfl, rfl, trivial⟩ ?_
  refine Post.then_ ?_
  refine Cd.seq ?_
  refine Cd.seq ?_
  refine Cd.region ?_
  refine Seq.val (Runs.move rfl rfl) rfl rfl rfl ?_
  refine Seq.nil ?_
  refine Post.weak (F' := [(0, _), (1, _), (4, _), (5, _), (6, _), (11, _)]) ⟨rfl, rfl, rfl, rfl, rfl, rfl, trivial⟩ ?_
  refine Post.then_ ?_
  refine Cd.condF rfl rfl ?_
  refine Cd.skip ?_
  refine Post.then_ ?_
  refine Cd.seq ?_
  refine Cd.seq ?_
  refine Cd.region ?_
  refine Seq.val (Runs.move rfl rfl) rfl rfl rfl ?_
  refine Seq.nil ?_
  refine Post.weak (F' := [(0, _), (1, _), (4, _), (5, _), (6, _), (11, _), (13, _)]) ⟨rfl, rfl, rfl, rfl, rfl, rfl, rfl, trivial⟩ ?_
  refine Post.then_ ?_
  refine Cd.condF rfl rfl ?_
  refine Cd.skip ?_
  refine Post.then_ ?_
  refine Cd.seq ?_
  refine Cd.seq ?_
  refine Cd.region ?_
  refine Seq.val (Runs.move rfl rfl) rfl rfl rfl ?_
  refine Seq.val (Runs.move rfl rfl) rfl rfl rfl ?_
  refine Seq.val (Runs.lssS rfl rfl rfl) rfl rfl rfl ?_
  refine Seq.nil ?_
  refine Post.weak (F' := [(0, _), (1, _), (4, _), (5, _), (6, _), (11, _), (13, _), (16, _)]) ⟨rfl, rfl, rfl, rfl, rfl, rfl, rfl, rfl, trivial⟩ ?_
  refine Post.then_ ?_
  have e1 : Op.bytesLess (strOf a).toList (strOf b).toList = ltB a b := rfl
  have e2 : ((strOf a).toList == (strOf b).toList) = eqS a b := rfl
  refine Cd.cond rfl (fun h => ?_) (fun h => ?_)
  · skip
    refine Cd.seq ?_
    refine Cd.region ?_
    refine Seq.val (Runs.assign rfl rfl) rfl rfl rfl ?_
    refine Seq.nil ?_
    refine Post.weak (F' := [(0, _), (1, _), (4, _), (5, _), (6, _), (11, _), (13, _), (16, _)]) ⟨rfl, rfl, rfl, rfl, rfl, rfl, rfl, rfl, trivial⟩ ?_
    refine Post.then_ ?_
    refine Cd.ret ?_
    refine Post.then_ret ?_
    refine Post.end1 rfl rfl (.inl rfl) ?_
    exact ⟨ret1 (int_eq (by unfold cmpS; rw [← e1, h, if_pos rfl])), bel⟩
  · rw [e1] at h
    refine Cd.skip ?_
    refine Post.then_ ?_
    refine Cd.seq ?_
    refine Cd.seq ?_
    refine Cd.region ?_
    refine Seq.val (Runs.move rfl rfl) rfl rfl rfl ?_
    refine Seq.val (Runs.move rfl rfl) rfl rfl rfl ?_
    refine Seq.val (Runs.gtrS rfl rfl rfl) rfl rfl rfl ?_
    refine Seq.nil ?_
    refine Post.weak (F' := [(0, _), (1, _), (4, _), (5, _), (6, _), (11, _), (13, _), (16, _), (19, _)]) ⟨rfl, rfl, rfl, rfl, rfl, rfl, rfl, rfl, rfl, trivial⟩ ?_
    refine Post.then_ ?_
    refine Cd.cond rfl (fun h2 => ?_) (fun h2 => ?_)
    · rw [e1, e2, h] at h2
      refine Cd.seq ?_
      refine Cd.region ?_
      refine Seq.val (Runs.assign rfl rfl) rfl rfl rfl ?_
      refine Seq.nil ?_
      refine Post.weak (F' := [(0, _), (1, _), (4, _), (5, _), (6, _), (11, _), (13, _), (16, _), (19, _)]) ⟨rfl, rfl, rfl, rfl, rfl, rfl, rfl, rfl, rfl, trivial⟩ ?_
      refine Post.then_ ?_
      refine Cd.ret ?_
      refine Post.then_ret ?_
      refine Post.end1 rfl rfl (.inl rfl) ?_
      exact ⟨ret1 (int_eq (by unfold cmpS; rw [h, if_neg (by simp), if_neg (by simp at h2; rw [h2]; simp)])), bel⟩
    · rw [e1, e2, h] at h2
      refine Cd.skip ?_
      refine Post.then_ ?_
      refine Cd.seq ?_
      refine Cd.region ?_
      refine Seq.val (Runs.assign rfl rfl) rfl rfl rfl ?_
      refine Seq.nil ?_
      refine Post.weak (F' := [(0, _), (1, _), (4, _), (5, _), (6, _), (11, _), (13, _), (16, _), (19, _)]) ⟨rfl, rfl, rfl, rfl, rfl, rfl, rfl, rfl, rfl, trivial⟩ ?_
      refine Post.then_ ?_
      refine Cd.ret ?_
      refine Post.end1 rfl rfl (.inl rfl) ?_
      exact ⟨ret1 (int_eq (by unfold cmpS; rw [h, if_neg (by simp), if_pos (by simpa using h2)])), bel⟩
/-- Which of two files stands first. -/
def ordB (f g : Fl) : Int := if f.level ≠ g.level then cmpI f.level g.level else if f.level = 0 then cmpI g.num f.num else cmpS f.first g.first
theorem order_any (f g : Fl) (w : World) : Calls Try.prog 26 #[f.v, g.v] w fun e w' => e = .returned (.int .i64 (ordB f g)) ∧ Grow w w' := by
  have bel := Below.refl w.heap.size w
  refine Calls.start 28 Try.func26 rfl rfl rfl ?_
  refine Cd.seq ?_
  refine Cd.region ?_
  refine Seq.box rfl rfl rfl rfl rfl ?_
  intro g2 w1 n2
  have e2 := Nat.le_trans bel.size n2.ge
  replace bel := bel.step n2.below
  have k2 := n2.blk
  refine Seq.box rfl rfl rfl rfl rfl ?_
  intro g3 w2 n3
  have e3 := Nat.le_trans bel.size n3.ge
  have l3 := Nat.lt_of_lt_of_le k2.lt n3.ge
  replace bel := bel.step n3.below
  replace k2 := k2.step n3.below
  have k3 := n3.blk
  refine Seq.val (Runs.assign rfl rfl) rfl rfl rfl ?_
  refine Seq.nil ?_
  refine Post.weak (F' := [(0, _), (1, _), (2, _), (3, _), (4, _)]) ⟨rfl, rfl, rfl, rfl, rfl, trivial⟩ ?_
  refine Post.then_ ?_
  refine Cd.seq ?_
  refine Cd.seq ?_
  refine Cd.region ?_
  refine Seq.val (Runs.fieldB 1 rfl rfl Try.underlying37 rfl (by kernel_rfl)) rfl rfl rfl ?_
  refine Seq.val (Runs.loadB rfl rfl Try.underlying3 rfl k2 rfl) rfl rfl rfl ?_
  refine Seq.val (Runs.fieldB 1 rfl rfl Try.underlying37 rfl (by kernel_rfl)) rfl rfl rfl ?_
  refine Seq.val (Runs.loadB rfl rfl Try.underlying3 rfl k3 rfl) rfl rfl rfl ?_
  refine Seq.val (Runs.neqI rfl rfl rfl) rfl rfl rfl ?_
  refine Seq.nil ?_
  refine Post.weak (F' := [(0, _), (1, _), (2, _), (3, _), (4, _), (9, _)]) ⟨rfl, rfl, rfl, rfl, rfl, rfl, trivial⟩ ?_
  refine Post.then_ ?_
  refine Cd.condD rfl (fun hc => ?_) (fun hc => ?_)
  · have hne : f.level ≠ g.level := by omega
    refine Cd.seq ?_
    refine Cd.region ?_
    refine Seq.val (Runs.fieldB 1 rfl rfl Try.underlying37 rfl (by kernel_rfl)) rfl rfl rfl ?_
    refine Seq.val (Runs.loadB rfl rfl Try.underlying3 rfl k2 rfl) rfl rfl rfl ?_
    refine Seq.val (Runs.fieldB 1 rfl rfl Try.underlying37 rfl (by kernel_rfl)) rfl rfl rfl ?_
    refine Seq.val (Runs.loadB rfl rfl Try.underlying3 rfl k3 rfl) rfl rfl rfl ?_
    refine Seq.call (Enters.func rfl rfl rfl (run_enter Try.func42 (by kernel_rfl) rfl)) rfl rfl rfl (compareI_any f.level g.level _) ?_
    rintro e w2 ⟨rfl, hb2⟩
    refine ⟨_, rfl, ?_⟩
    replace bel := bel.step hb2
    replace k2 := k2.step hb2
    replace k3 := k3.step hb2
    refine Seq.val (Runs.assign rfl rfl) rfl rfl rfl ?_
    refine Seq.nil ?_
    refine Post.weak (F' := [(0, _), (1, _), (2, _), (3, _), (4, _), (9, _)]) ⟨rfl, rfl, rfl, rfl, rfl, rfl, trivial⟩ ?_
    refine Post.then_ ?_
    refine Cd.ret ?_
    refine Post.then_ret ?_
    refine Post.end1 rfl rfl (.inl rfl) ?_
    exact ⟨ret1 (int_eq (by unfold ordB; rw [if_pos hne])), bel⟩
  · have hne : ¬ f.level ≠ g.level := by omega
    refine Cd.skip ?_
    refine Post.then_ ?_
    refine Cd.seq ?_
    refine Cd.seq ?_
    refine Cd.region ?_
    refine Seq.val (Runs.fieldB 1 rfl rfl Try.underlying37 rfl (by kernel_rfl)) rfl rfl rfl ?_
    refine Seq.val (Runs.loadB rfl rfl Try.underlying3 rfl k2 rfl) rfl rfl rfl ?_
    refine Seq.val (Runs.eqlI rfl rfl rfl) rfl rfl rfl ?_
    refine Seq.nil ?_
    refine Post.weak (F' := [(0, _), (1, _), (2, _), (3, _), (4, _), (9, _), (17, _)]) ⟨rfl, rfl, rfl, rfl, rfl, rfl, rfl, trivial⟩ ?_
    refine Post.then_ ?_
    refine Cd.condD rfl (fun hc => ?_) (fun hc => ?_)
    · have h0 : f.level = 0 := by omega
      refine Cd.seq ?_
      refine Cd.region ?_
      refine Seq.val (Runs.fieldB 0 rfl rfl Try.underlying37 rfl (by kernel_rfl)) rfl rfl rfl ?_
      refine Seq.val (Runs.loadB rfl rfl Try.underlying3 rfl k3 rfl) rfl rfl rfl ?_
      refine Seq.val (Runs.fieldB 0 rfl rfl Try.underlying37 rfl (by kernel_rfl)) rfl rfl rfl ?_
      refine Seq.val (Runs.loadB rfl rfl Try.underlying3 rfl k2 rfl) rfl rfl rfl ?_
      refine Seq.call (Enters.func rfl rfl rfl (run_enter Try.func42 (by kernel_rfl) rfl)) rfl rfl rfl (compareI_any g.num f.num _) ?_
      rintro e w2 ⟨rfl, hb2⟩
      refine ⟨_, rfl, ?_⟩
      replace bel := bel.step hb2
      replace k2 := k2.step hb2
      replace k3 := k3.step hb2
      refine Seq.val (Runs.assign rfl rfl) rfl rfl rfl ?_
      refine Seq.nil ?_
      refine Post.weak (F' := [(0, _), (1, _), (2, _), (3, _), (4, _), (9, _), (17, _)]) ⟨rfl, rfl, rfl, rfl, rfl, rfl, rfl, trivial⟩ ?_
      refine Post.then_ ?_
      refine Cd.ret ?_
      refine Post.then_ret ?_
      refine Post.end1 rfl rfl (.inl rfl) ?_
      exact ⟨ret1 (int_eq (by unfold ordB; rw [if_neg hne, if_pos h0])), bel⟩
    · have h0 : ¬ f.level = 0 := by omega
      refine Cd.skip ?_
      refine Post.then_ ?_
      refine Cd.seq ?_
      refine Cd.region ?_
      refine Seq.val (Runs.fieldB 2 rfl rfl Try.underlying37 rfl (by kernel_rfl)) rfl rfl rfl ?_
      refine Seq.val (Runs.loadB rfl rfl Try.underlying9 rfl k2 rfl) rfl rfl rfl ?_
      refine Seq.val (Runs.fieldB 2 rfl rfl Try.underlying37 rfl (by kernel_rfl)) rfl rfl rfl ?_
      refine Seq.val (Runs.loadB rfl rfl Try.underlying9 rfl k3 rfl) rfl rfl rfl ?_
      refine Seq.call (Enters.func rfl rfl rfl (run_enter Try.func43 (by kernel_rfl) rfl)) rfl rfl rfl (compareS_any f.first g.first _) ?_
      rintro e w2 ⟨rfl, hb2⟩
      refine ⟨_, rfl, ?_⟩
      replace bel := bel.step hb2
      replace k2 := k2.step hb2
      replace k3 := k3.step hb2
      refine Seq.val (Runs.assign rfl rfl) rfl rfl rfl ?_
      refine Seq.nil ?_
      refine Post.weak (F' := [(0, _), (1, _), (2, _), (3, _), (4, _), (9, _), (17, _)]) ⟨rfl, rfl, rfl, rfl, rfl, rfl, rfl, trivial⟩ ?_
      refine Post.then_ ?_
      refine Cd.ret ?_
      refine Post.end1 rfl rfl (.inl rfl) ?_
      exact ⟨ret1 (int_eq (by unfold ordB; rw [if_neg hne, if_neg h0])), bel⟩
theorem mayKey_any (a : List Nat) (w : World) (ha : ∀ x ∈ a, x < 256) : Calls Try.prog 48 #[.string (strOf a)] w fun e w' => e = .returned (.bool (decide (1 ≤ a.length) && decide (a.length ≤ 80))) ∧ Grow w w' := by
  have bel := Below.refl w.heap.size w
  refine Calls.start 10 Try.func48 rfl rfl rfl ?_
  refine Cd.seq ?_
  refine Cd.region ?_
  refine Seq.val (Runs.assign rfl rfl) rfl rfl rfl ?_
  refine Seq.nil ?_
  refine Post.weak (F' := [(0, _), (2, _)]) ⟨rfl, rfl, trivial⟩ ?_
  refine Post.then_ ?_
  refine Cd.seq ?_
  refine Cd.region ?_
  refine Seq.val (Runs.move rfl rfl) rfl rfl rfl ?_
  refine Seq.val (Runs.neqL (a := a) (b := []) rfl rfl rfl ha (by simp)) rfl rfl rfl ?_
  refine Seq.val (Runs.move rfl rfl) rfl rfl rfl ?_
  refine SeqC.start ?_
  refine SeqC.open rfl rfl rfl rfl rfl rfl rfl (fun hcx => Runs.move rfl rfl) ?_
  refine SeqC.next rfl rfl rfl rfl rfl rfl rfl (fun hcx => Runs.lenL rfl rfl Try.underlying9) ?_
  refine SeqC.next rfl rfl rfl rfl rfl rfl rfl (fun hcx => Runs.leq rfl rfl rfl) ?_
  refine SeqC.and rfl rfl rfl rfl rfl rfl rfl ?_
  refine Seq.val (Runs.assign rfl rfl) rfl rfl rfl ?_
  refine Seq.nil ?_
  refine Post.weak (F' := [(0, _), (2, _)]) ⟨rfl, rfl, trivial⟩ ?_
  refine Post.then_ ?_
  refine Cd.ret ?_
  refine Post.end1 rfl rfl (.inl rfl) ?_
  refine ⟨ret1 (bool_eq ?_), bel⟩
  cases a <;> rw [Bool.eq_iff_iff] <;> simp
  omega
theorem eg_mayKey : ∀ args w, (callFunc 48 args).run Try.prog w = .ok (.enter 48 args) w := fun args w => run_enter Try.func48 (by kernel_rfl) rfl args w
/-- May a file be? -/
def leB (a b : List Nat) : Bool := ltB a b || eqS a b
def mayB (f : Fl) : Bool := decide (1 ≤ f.num) && decide (f.num ≤ 999999) && decide (0 ≤ f.level) && decide (f.level ≤ 4) && (decide (1 ≤ f.first.length) && decide (f.first.length ≤ 80)) && (decide (1 ≤ f.last.length) && decide (f.last.length ≤ 80)) && leB f.first f.last && decide (1 ≤ f.count) && decide (f.count ≤ 1048576) && decide (1 ≤ f.size) && decide (f.size ≤ 1048576)
structure Fl.ok (f : Fl) : Prop where
  first : ∀ x ∈ f.first, x < 256
  last : ∀ x ∈ f.last, x < 256
theorem may_any (f : Fl) (w : World) (hf : f.ok) : Calls Try.prog 35 #[f.v] w fun e w' => e = .returned (.bool (mayB f)) ∧ Grow w w' := by
  have bel := Below.refl w.heap.size w
  refine Calls.start 61 Try.func35 rfl rfl rfl ?_
  refine Cd.seq ?_
  refine Cd.region ?_
  refine Seq.box rfl rfl rfl rfl rfl ?_
  intro g1 w1 n1
  have e1 := Nat.le_trans bel.size n1.ge
  replace bel := bel.step n1.below
  have k1 := n1.blk
  refine Seq.val (Runs.assign rfl rfl) rfl rfl rfl ?_
  refine Seq.nil ?_
  refine Post.weak (F' := [(0, _), (1, _), (2, _)]) ⟨rfl, rfl, rfl, trivial⟩ ?_
  refine Post.then_ ?_
  refine Cd.seq ?_
  refine Cd.region ?_
  refine Seq.val (Runs.assign rfl rfl) rfl rfl rfl ?_
  refine Seq.nil ?_
  refine Post.weak (F' := [(0, _), (1, _), (2, _), (3, _)]) ⟨rfl, rfl, rfl, rfl, trivial⟩ ?_
  refine Post.then_ ?_
  refine Cd.seq ?_
  refine Cd.region ?_
  refine Seq.val (Runs.fieldB 0 rfl rfl Try.underlying37 rfl (by kernel_rfl)) rfl rfl rfl ?_
  refine Seq.val (Runs.loadB rfl rfl Try.underlying3 rfl k1 rfl) rfl rfl rfl ?_
  refine Seq.val (Runs.geq rfl rfl rfl) rfl rfl rfl ?_
  refine Seq.val (Runs.move rfl rfl) rfl rfl rfl ?_
  refine SeqC.start ?_
  refine SeqC.open rfl rfl rfl rfl rfl rfl rfl (fun hcx => Runs.fieldB 0 rfl rfl Try.underlying37 rfl (by kernel_rfl)) ?_
  refine SeqC.next rfl rfl rfl rfl rfl rfl rfl (fun hcx => Runs.loadB rfl rfl Try.underlying3 rfl k1 rfl) ?_
  refine SeqC.next rfl rfl rfl rfl rfl rfl rfl (fun hcx => Runs.leq rfl rfl rfl) ?_
  refine SeqC.and rfl rfl rfl rfl rfl rfl rfl ?_
  refine Seq.val (Runs.move rfl rfl) rfl rfl rfl ?_
  refine SeqC.start ?_
  refine SeqC.open rfl rfl rfl rfl rfl rfl rfl (fun hcx => Runs.fieldB 1 rfl rfl Try.underlying37 rfl (by kernel_rfl)) ?_
  refine SeqC.next rfl rfl rfl rfl rfl rfl rfl (fun hcx => Runs.loadB rfl rfl Try.underlying3 rfl k1 rfl) ?_
  refine SeqC.next rfl rfl rfl rfl rfl rfl rfl (fun hcx => Runs.geq rfl rfl rfl) ?_
  refine SeqC.and rfl rfl rfl rfl rfl rfl rfl ?_
  refine Seq.val (Runs.move rfl rfl) rfl rfl rfl ?_
  refine SeqC.start ?_
  refine SeqC.open rfl rfl rfl rfl rfl rfl rfl (fun hcx => Runs.fieldB 1 rfl rfl Try.underlying37 rfl (by kernel_rfl)) ?_
  refine SeqC.next rfl rfl rfl rfl rfl rfl rfl (fun hcx => Runs.loadB rfl rfl Try.underlying3 rfl k1 rfl) ?_
  refine SeqC.next rfl rfl rfl rfl rfl rfl rfl (fun hcx => Runs.leq rfl rfl rfl) ?_
  refine SeqC.and rfl rfl rfl rfl rfl rfl rfl ?_
  refine Seq.val (Runs.move rfl rfl) rfl rfl rfl ?_
  refine SeqC.start ?_
  refine SeqC.open rfl rfl rfl rfl rfl rfl rfl (fun hcx => Runs.move rfl rfl) ?_
  refine SeqC.next rfl rfl rfl rfl rfl rfl rfl (fun hcx => Runs.fieldB 2 rfl rfl Try.underlying37 rfl (by kernel_rfl)) ?_
  refine SeqC.next rfl rfl rfl rfl rfl rfl rfl (fun hcx => Runs.loadB rfl rfl Try.underlying9 rfl k1 rfl) ?_
  refine SeqC.nextC rfl rfl rfl rfl rfl rfl rfl (fun hcx => Enters.value (first := []) (cap := []) rfl rfl rfl eg_mayKey) (fun hcx => mayKey_any f.first _ hf.first) ?_
  intro w2 hw2
  replace bel := bel.step hw2
  replace k1 := k1.step hw2
  refine SeqC.and rfl rfl rfl rfl rfl rfl rfl ?_
  refine Seq.val (Runs.move rfl rfl) rfl rfl rfl ?_
  refine SeqC.start ?_
  refine SeqC.open rfl rfl rfl rfl rfl rfl rfl (fun hcx => Runs.move rfl rfl) ?_
  refine SeqC.next rfl rfl rfl rfl rfl rfl rfl (fun hcx => Runs.fieldB 3 rfl rfl Try.underlying37 rfl (by kernel_rfl)) ?_
  refine SeqC.next rfl rfl rfl rfl rfl rfl rfl (fun hcx => Runs.loadB rfl rfl Try.underlying9 rfl k1 rfl) ?_
  refine SeqC.nextC rfl rfl rfl rfl rfl rfl rfl (fun hcx => Enters.value (first := []) (cap := []) rfl rfl rfl eg_mayKey) (fun hcx => mayKey_any f.last _ hf.last) ?_
  intro w3 hw3
  replace bel := bel.step hw3
  replace k1 := k1.step hw3
  refine SeqC.and rfl rfl rfl rfl rfl rfl rfl ?_
  refine Seq.val (Runs.move rfl rfl) rfl rfl rfl ?_
  refine SeqC.start ?_
  refine SeqC.open rfl rfl rfl rfl rfl rfl rfl (fun hcx => Runs.fieldB 2 rfl rfl Try.underlying37 rfl (by kernel_rfl)) ?_
  refine SeqC.next rfl rfl rfl rfl rfl rfl rfl (fun hcx => Runs.loadB rfl rfl Try.underlying9 rfl k1 rfl) ?_
  refine SeqC.next rfl rfl rfl rfl rfl rfl rfl (fun hcx => Runs.fieldB 3 rfl rfl Try.underlying37 rfl (by kernel_rfl)) ?_
  refine SeqC.next rfl rfl rfl rfl rfl rfl rfl (fun hcx => Runs.loadB rfl rfl Try.underlying9 rfl k1 rfl) ?_
  refine SeqC.next rfl rfl rfl rfl rfl rfl rfl (fun hcx => Runs.leqS rfl rfl rfl) ?_
  refine SeqC.and rfl rfl rfl rfl rfl rfl rfl ?_
  refine Seq.val (Runs.move rfl rfl) rfl rfl rfl ?_
  refine SeqC.start ?_
  refine SeqC.open rfl rfl rfl rfl rfl rfl rfl (fun hcx => Runs.fieldB 4 rfl rfl Try.underlying37 rfl (by kernel_rfl)) ?_
  refine SeqC.next rfl rfl rfl rfl rfl rfl rfl (fun hcx => Runs.loadB rfl rfl Try.underlying3 rfl k1 rfl) ?_
  refine SeqC.next rfl rfl rfl rfl rfl rfl rfl (fun hcx => Runs.geq rfl rfl rfl) ?_
  refine SeqC.and rfl rfl rfl rfl rfl rfl rfl ?_
  refine Seq.val (Runs.move rfl rfl) rfl rfl rfl ?_
  refine SeqC.start ?_
  refine SeqC.open rfl rfl rfl rfl rfl rfl rfl (fun hcx => Runs.fieldB 4 rfl rfl Try.underlying37 rfl (by kernel_rfl)) ?_
  refine SeqC.next rfl rfl rfl rfl rfl rfl rfl (fun hcx => Runs.loadB rfl rfl Try.underlying3 rfl k1 rfl) ?_
  refine SeqC.next rfl rfl rfl rfl rfl rfl rfl (fun hcx => Runs.leq rfl rfl rfl) ?_
  refine SeqC.and rfl rfl rfl rfl rfl rfl rfl ?_
  refine Seq.val (Runs.move rfl rfl) rfl rfl rfl ?_
  refine SeqC.start ?_
  refine SeqC.open rfl rfl rfl rfl rfl rfl rfl (fun hcx => Runs.fieldB 5 rfl rfl Try.underlying37 rfl (by kernel_rfl)) ?_
  refine SeqC.next rfl rfl rfl rfl rfl rfl rfl (fun hcx => Runs.loadB rfl rfl Try.underlying3 rfl k1 rfl) ?_
  refine SeqC.next rfl rfl rfl rfl rfl rfl rfl (fun hcx => Runs.geq rfl rfl rfl) ?_
  refine SeqC.and rfl rfl rfl rfl rfl rfl rfl ?_
  refine Seq.val (Runs.move rfl rfl) rfl rfl rfl ?_
  refine SeqC.start ?_
  refine SeqC.open rfl rfl rfl rfl rfl rfl rfl (fun hcx => Runs.fieldB 5 rfl rfl Try.underlying37 rfl (by kernel_rfl)) ?_
  refine SeqC.next rfl rfl rfl rfl rfl rfl rfl (fun hcx => Runs.loadB rfl rfl Try.underlying3 rfl k1 rfl) ?_
  refine SeqC.next rfl rfl rfl rfl rfl rfl rfl (fun hcx => Runs.leq rfl rfl rfl) ?_
  refine SeqC.and rfl rfl rfl rfl rfl rfl rfl ?_
  refine Seq.val (Runs.assign rfl rfl) rfl rfl rfl ?_
  refine Seq.nil ?_
  refine Post.weak (F' := [(0, _), (1, _), (2, _), (3, _)]) ⟨rfl, rfl, rfl, rfl, trivial⟩ ?_
  refine Post.then_ ?_
  refine Cd.ret ?_
  refine Post.end1 rfl rfl (.inl rfl) ?_
  exact ⟨ret1 (bool_eq rfl), bel⟩
end Go.Proofs.Ythcimkhnijnmgaa

/-
  Texts that were joined: LexC, LexD, LexE, LexF, LexG, LexH, TreE, TreF, TreG, TreH, TreI, DateA, DateB, CivA, DateC, BigA, BigB, BigC, BigD, BigE, BigF, BigG, BigH, BigI, TBigK, TNumR, TNumS, DateD, CivB, TNumH, TreJ, TreK, TreL, KN, TreM, TreN, TreO, TreP, TrmA, TrmB. Conditions: what each theorem names.
-/
import Derived.Test.YtijaldpmpjapiaaC1
set_option linter.unusedSectionVars false
namespace Go.Proofs.Ytijaldpmpjapiaa
open Go.RowKit

def leapB (y : Int) : Bool := decide (y % 4 = 0) && (decide (y % 100 ≠ 0) || decide (y % 400 = 0))
def daysZ (y m : Int) : Int := if m = 2 then (if leapB y then 29 else 28) else if m = 4 ∨ m = 6 ∨ m = 9 ∨ m = 11 then 30 else if m = 1 ∨ m = 3 ∨ m = 5 ∨ m = 7 ∨ m = 8 ∨ m = 10 ∨ m = 12 then 31 else 0
theorem leap_any (y : Int) (w : World) (h0 : 0 ≤ y) : Calls Try.prog 179 #[.int .i64 y] w fun e w' => e = .returned (.bool (leapB y)) ∧ w = w' := by
  refine Calls.start 16 Try.func179 rfl rfl rfl ?_
  refine Cd.seq ?_
  refine Cd.region ?_
  refine Seq.val (Runs.assign rfl rfl) rfl rfl rfl ?_
  refine Seq.nil ?_
  refine Post.weak (F' := [(0, _), (2, _)]) ⟨rfl, rfl, trivial⟩ ?_
  refine Post.then_ ?_
  refine Cd.seq ?_
  refine Cd.region ?_
  refine Seq.val (Runs.move rfl rfl) rfl rfl rfl ?_
  refine Seq.val (Runs.remN rfl rfl rfl (by omega) (by omega)) rfl rfl rfl ?_
  refine Seq.val (Runs.eqlI rfl rfl rfl) rfl rfl rfl ?_
  refine Seq.val (Runs.move rfl rfl) rfl rfl rfl ?_
  refine SeqC.start ?_
  refine SeqC.open rfl rfl rfl rfl rfl rfl rfl (fun hcx => Runs.move rfl rfl) ?_
  refine SeqC.next rfl rfl rfl rfl rfl rfl rfl (fun hcx => Runs.remN rfl rfl rfl (by omega) (by omega)) ?_
  refine SeqC.next rfl rfl rfl rfl rfl rfl rfl (fun hcx => Runs.neqI rfl rfl rfl) ?_
  refine SeqC.next rfl rfl rfl rfl rfl rfl rfl (fun hcx => Runs.move rfl rfl) ?_
  refine SeqC.open rfl rfl rfl rfl rfl rfl rfl (fun hcx => Runs.move rfl rfl) ?_
  refine SeqC.next rfl rfl rfl rfl rfl rfl rfl (fun hcx => Runs.remN rfl rfl rfl (by omega) (by omega)) ?_
  refine SeqC.next rfl rfl rfl rfl rfl rfl rfl (fun hcx => Runs.eqlI rfl rfl rfl) ?_
  refine SeqC.orG rfl rfl rfl rfl rfl rfl rfl rfl rfl rfl rfl ?_
  refine SeqC.and rfl rfl rfl rfl rfl rfl rfl ?_
  refine Seq.val (Runs.assign rfl rfl) rfl rfl rfl ?_
  refine Seq.nil ?_
  refine Post.weak (F' := [(0, _), (2, _)]) ⟨rfl, rfl, trivial⟩ ?_
  refine Post.then_ ?_
  refine Cd.ret ?_
  refine Post.end1 rfl rfl (.inl rfl) ?_
  refine ⟨ret1 (bool_eq ?_), rfl⟩
  unfold leapB
  rw [Bool.eq_iff_iff]
theorem days_any (y m : Int) (w : World) (h0 : 0 ≤ y) : Calls Try.prog 172 #[.int .i64 y, .int .i64 m] w fun e w' => e = .returned (.int .i64 (daysZ y m)) ∧ w = w' := by
  refine Calls.start 23 Try.func172 rfl rfl rfl ?_
  refine Cd.seq ?_
  refine Cd.region ?_
  refine Seq.val (Runs.assign rfl rfl) rfl rfl rfl ?_
  refine Seq.nil ?_
  refine Post.weak (F' := [(0, _), (1, _), (4, _)]) ⟨rfl, rfl, rfl, trivial⟩ ?_
  refine Post.then_ ?_
  refine Cd.seq ?_
  refine Cd.seq ?_
  refine Cd.region ?_
  refine Seq.val (Runs.move rfl rfl) rfl rfl rfl ?_
  refine Seq.nil ?_
  refine Post.weak (F' := [(0, _), (1, _), (4, _), (5, _)]) ⟨rfl, rfl, rfl, rfl, trivial⟩ ?_
  refine Post.then_ ?_
  refine Cd.block ?_
  refine Cd.seq ?_
  refine Cd.region ?_
  refine Seq.val (Runs.eqlI rfl rfl rfl) rfl rfl rfl ?_
  refine Seq.val (Runs.assign rfl rfl) rfl rfl rfl ?_
  refine Seq.nil ?_
  refine Post.weak (F' := [(0, _), (1, _), (4, _), (5, _), (6, _)]) ⟨rfl, rfl, rfl, rfl, rfl, trivial⟩ ?_
  refine Post.then_ ?_
  refine Cd.condD rfl (fun h => ?_) (fun h => ?_)
  · subst h
    refine Cd.seq ?_
    refine Cd.seq ?_
    refine Cd.region ?_
    refine Seq.val (Runs.move rfl rfl) rfl rfl rfl ?_
    refine Seq.call (Enters.func rfl rfl rfl (run_enter Try.func179 (by kernel_rfl) rfl)) rfl rfl rfl (leap_any y _ h0) ?_
    rintro e w2 ⟨rfl, rfl⟩
    refine ⟨_, rfl, ?_⟩
    refine Seq.nil ?_
    refine Post.weak (F' := [(0, _), (1, _), (4, _), (5, _), (6, _), (9, _)]) ⟨rfl, rfl, rfl, rfl, rfl, rfl, trivial⟩ ?_
    refine Post.then_ ?_
    refine Cd.cond rfl (fun h2 => ?_) (fun h2 => ?_)
    · skip
      refine Cd.seq ?_
      refine Cd.region ?_
      refine Seq.val (Runs.assign rfl rfl) rfl rfl rfl ?_
      refine Seq.nil ?_
      refine Post.weak (F' := [(0, _), (1, _), (4, _), (5, _), (6, _), (9, _)]) ⟨rfl, rfl, rfl, rfl, rfl, rfl, trivial⟩ ?_
      refine Post.then_ ?_
      refine Cd.ret ?_
      refine Post.then_ret ?_
      refine Post.block_ret ?_
      refine Post.then_ret ?_
      refine Post.end1 rfl rfl (.inl rfl) ?_
      exact ⟨ret1 (int_eq (by unfold daysZ; rw [if_pos rfl, if_pos h2])), rfl⟩
    · skip
      refine Cd.skip ?_
      refine Post.then_ ?_
      refine Cd.seq ?_
      refine Cd.region ?_
      refine Seq.val (Runs.assign rfl rfl) rfl rfl rfl ?_
      refine Seq.nil ?_
      refine Post.weak (F' := [(0, _), (1, _), (4, _), (5, _), (6, _), (9, _)]) ⟨rfl, rfl, rfl, rfl, rfl, rfl, trivial⟩ ?_
      refine Post.then_ ?_
      refine Cd.ret ?_
      refine Post.block_ret ?_
      refine Post.then_ret ?_
      refine Post.end1 rfl rfl (.inl rfl) ?_
      exact ⟨ret1 (int_eq (by unfold daysZ; rw [if_pos rfl, h2]; rfl)), rfl⟩
  refine Cd.seq ?_
  refine Cd.seq ?_
  refine Cd.region ?_
  refine Seq.val (Runs.eqlI rfl rfl rfl) rfl rfl rfl ?_
  refine Seq.val (Runs.assign rfl rfl) rfl rfl rfl ?_
  refine Seq.nil ?_
  refine Post.weak (F' := [(0, _), (1, _), (4, _), (5, _), (6, _), (10, _)]) ⟨rfl, rfl, rfl, rfl, rfl, rfl, trivial⟩ ?_
  refine Post.then_ ?_
  refine Cd.condD rfl (fun a4 => ?_) (fun a4 => ?_)
  · skip
    refine Cd.skip ?_
    refine Post.then_ ?_
    refine Cd.condT rfl (decide_eq_true a4) ?_
    refine Cd.seq ?_
    refine Cd.region ?_
    refine Seq.val (Runs.assign rfl rfl) rfl rfl rfl ?_
    refine Seq.nil ?_
    refine Post.weak (F' := [(0, _), (1, _), (4, _), (5, _), (6, _), (10, _)]) ⟨rfl, rfl, rfl, rfl, rfl, rfl, trivial⟩ ?_
    refine Post.then_ ?_
    refine Cd.ret ?_
    refine Post.block_ret ?_
    refine Post.then_ret ?_
    refine Post.end1 rfl rfl (.inl rfl) ?_
    exact ⟨ret1 (int_eq (by unfold daysZ; rw [if_neg h, if_pos (by omega)])), rfl⟩
  refine Cd.seq ?_
  refine Cd.region ?_
  refine Seq.val (Runs.eqlI rfl rfl rfl) rfl rfl rfl ?_
  refine Seq.val (Runs.assign rfl rfl) rfl rfl rfl ?_
  refine Seq.nil ?_
  refine Post.weak (F' := [(0, _), (1, _), (4, _), (5, _), (6, _), (10, _)]) ⟨rfl, rfl, rfl, rfl, rfl, rfl, trivial⟩ ?_
  refine Post.then_ ?_
  refine Cd.condD rfl (fun a6 => ?_) (fun a6 => ?_)
  · skip
    refine Cd.skip ?_
    refine Post.then_ ?_
    refine Cd.condT rfl (decide_eq_true a6) ?_
    refine Cd.seq ?_
    refine Cd.region ?_
    refine Seq.val (Runs.assign rfl rfl) rfl rfl rfl ?_
    refine Seq.nil ?_
    refine Post.weak (F' := [(0, _), (1, _), (4, _), (5, _), (6, _), (10, _)]) ⟨rfl, rfl, rfl, rfl, rfl, rfl, trivial⟩ ?_
    refine Post.then_ ?_
    refine Cd.ret ?_
    refine Post.block_ret ?_
    refine Post.then_ret ?_
    refine Post.end1 rfl rfl (.inl rfl) ?_
    exact ⟨ret1 (int_eq (by unfold daysZ; rw [if_neg h, if_pos (by omega)])), rfl⟩
  refine Cd.seq ?_
  refine Cd.region ?_
  refine Seq.val (Runs.eqlI rfl rfl rfl) rfl rfl rfl ?_
  refine Seq.val (Runs.assign rfl rfl) rfl rfl rfl ?_
  refine Seq.nil ?_
  refine Post.weak (F' := [(0, _), (1, _), (4, _), (5, _), (6, _), (10, _)]) ⟨rfl, rfl, rfl, rfl, rfl, rfl, trivial⟩ ?_
  refine Post.then_ ?_
  refine Cd.condD rfl (fun a9 => ?_) (fun a9 => ?_)
  · skip
    refine Cd.skip ?_
    refine Post.then_ ?_
    refine Cd.condT rfl (decide_eq_true a9) ?_
    refine Cd.seq ?_
    refine Cd.region ?_
    refine Seq.val (Runs.assign rfl rfl) rfl rfl rfl ?_
    refine Seq.nil ?_
    refine Post.weak (F' := [(0, _), (1, _), (4, _), (5, _), (6, _), (10, _)]) ⟨rfl, rfl, rfl, rfl, rfl, rfl, trivial⟩ ?_
    refine Post.then_ ?_
    refine Cd.ret ?_
    refine Post.block_ret ?_
    refine Post.then_ret ?_
    refine Post.end1 rfl rfl (.inl rfl) ?_
    exact ⟨ret1 (int_eq (by unfold daysZ; rw [if_neg h, if_pos (by omega)])), rfl⟩
  refine Cd.region ?_
  refine Seq.val (Runs.eqlI rfl rfl rfl) rfl rfl rfl ?_
  refine Seq.val (Runs.assign rfl rfl) rfl rfl rfl ?_
  refine Seq.nil ?_
  refine Post.weak (F' := [(0, _), (1, _), (4, _), (5, _), (6, _), (10, _)]) ⟨rfl, rfl, rfl, rfl, rfl, rfl, trivial⟩ ?_
  refine Post.then_ ?_
  refine Cd.condD rfl (fun a11 => ?_) (fun a11 => ?_)
  · skip
    refine Cd.seq ?_
    refine Cd.region ?_
    refine Seq.val (Runs.assign rfl rfl) rfl rfl rfl ?_
    refine Seq.nil ?_
    refine Post.weak (F' := [(0, _), (1, _), (4, _), (5, _), (6, _), (10, _)]) ⟨rfl, rfl, rfl, rfl, rfl, rfl, trivial⟩ ?_
    refine Post.then_ ?_
    refine Cd.ret ?_
    refine Post.block_ret ?_
    refine Post.then_ret ?_
    refine Post.end1 rfl rfl (.inl rfl) ?_
    exact ⟨ret1 (int_eq (by unfold daysZ; rw [if_neg h, if_pos (by omega)])), rfl⟩
  refine Cd.seq ?_
  refine Cd.seq ?_
  refine Cd.region ?_
  refine Seq.val (Runs.eqlI rfl rfl rfl) rfl rfl rfl ?_
  refine Seq.val (Runs.assign rfl rfl) rfl rfl rfl ?_
  refine Seq.nil ?_
  refine Post.weak (F' := [(0, _), (1, _), (4, _), (5, _), (6, _), (10, _), (15, _)]) ⟨rfl, rfl, rfl, rfl, rfl, rfl, rfl, trivial⟩ ?_
  refine Post.then_ ?_
  refine Cd.condD rfl (fun a1 => ?_) (fun a1 => ?_)
  · skip
    refine Cd.skip ?_
    refine Post.then_ ?_
    refine Cd.condT rfl (decide_eq_true a1) ?_
    refine Cd.seq ?_
    refine Cd.region ?_
    refine Seq.val (Runs.assign rfl rfl) rfl rfl rfl ?_
    refine Seq.nil ?_
    refine Post.weak (F' := [(0, _), (1, _), (4, _), (5, _), (6, _), (10, _), (15, _)]) ⟨rfl, rfl, rfl, rfl, rfl, rfl, rfl, trivial⟩ ?_
    refine Post.then_ ?_
    refine Cd.ret ?_
    refine Post.block_ret ?_
    refine Post.then_ret ?_
    refine Post.end1 rfl rfl (.inl rfl) ?_
    exact ⟨ret1 (int_eq (by unfold daysZ; rw [if_neg h, if_neg (by omega), if_pos (by omega)])), rfl⟩
  refine Cd.seq ?_
  refine Cd.region ?_
  refine Seq.val (Runs.eqlI rfl rfl rfl) rfl rfl rfl ?_
  refine Seq.val (Runs.assign rfl rfl) rfl rfl rfl ?_
  refine Seq.nil ?_
  refine Post.weak (F' := [(0, _), (1, _), (4, _), (5, _), (6, _), (10, _), (15, _)]) ⟨rfl, rfl, rfl, rfl, rfl, rfl, rfl, trivial⟩ ?_
  refine Post.then_ ?_
  refine Cd.condD rfl (fun a3 => ?_) (fun a3 => ?_)
  · skip
    refine Cd.skip ?_
    refine Post.then_ ?_
    refine Cd.condT rfl (decide_eq_true a3) ?_
    refine Cd.seq ?_
    refine Cd.region ?_
    refine Seq.val (Runs.assign rfl rfl) rfl rfl rfl ?_
    refine Seq.nil ?_
    refine Post.weak (F' := [(0, _), (1, _), (4, _), (5, _), (6, _), (10, _), (15, _)]) ⟨rfl, rfl, rfl, rfl, rfl, rfl, rfl, trivial⟩ ?_
    refine Post.then_ ?_
    refine Cd.ret ?_
    refine Post.block_ret ?_
    refine Post.then_ret ?_
    refine Post.end1 rfl rfl (.inl rfl) ?_
    exact ⟨ret1 (int_eq (by unfold daysZ; rw [if_neg h, if_neg (by omega), if_pos (by omega)])), rfl⟩
  refine Cd.seq ?_
  refine Cd.region ?_
  refine Seq.val (Runs.eqlI rfl rfl rfl) rfl rfl rfl ?_
  refine Seq.val (Runs.assign rfl rfl) rfl rfl rfl ?_
  refine Seq.nil ?_
  refine Post.weak (F' := [(0, _), (1, _), (4, _), (5, _), (6, _), (10, _), (15, _)]) ⟨rfl, rfl, rfl, rfl, rfl, rfl, rfl, trivial⟩ ?_
  refine Post.then_ ?_
  refine Cd.condD rfl (fun a5 => ?_) (fun a5 => ?_)
  · skip
    refine Cd.skip ?_
    refine Post.then_ ?_
    refine Cd.condT rfl (decide_eq_true a5) ?_
    refine Cd.seq ?_
    refine Cd.region ?_
    refine Seq.val (Runs.assign rfl rfl) rfl rfl rfl ?_
    refine Seq.nil ?_
    refine Post.weak (F' := [(0, _), (1, _), (4, _), (5, _), (6, _), (10, _), (15, _)]) ⟨rfl, rfl, rfl, rfl, rfl, rfl, rfl, trivial⟩ ?_
    refine Post.then_ ?_
    refine Cd.ret ?_
    refine Post.block_ret ?_
    refine Post.then_ret ?_
    refine Post.end1 rfl rfl (.inl rfl) ?_
    exact ⟨ret1 (int_eq (by unfold daysZ; rw [if_neg h, if_neg (by omega), if_pos (by omega)])), rfl⟩
  refine Cd.seq ?_
  refine Cd.region ?_
  refine Seq.val (Runs.eqlI rfl rfl rfl) rfl rfl rfl ?_
  refine Seq.val (Runs.assign rfl rfl) rfl rfl rfl ?_
  refine Seq.nil ?_
  refine Post.weak (F' := [(0, _), (1, _), (4, _), (5, _), (6, _), (10, _), (15, _)]) ⟨rfl, rfl, rfl, rfl, rfl, rfl, rfl, trivial⟩ ?_
  refine Post.then_ ?_
  refine Cd.condD rfl (fun a7 => ?_) (fun a7 => ?_)
  · skip
    refine Cd.skip ?_
    refine Post.then_ ?_
    refine Cd.condT rfl (decide_eq_true a7) ?_
    refine Cd.seq ?_
    refine Cd.region ?_
    refine Seq.val (Runs.assign rfl rfl) rfl rfl rfl ?_
    refine Seq.nil ?_
    refine Post.weak (F' := [(0, _), (1, _), (4, _), (5, _), (6, _), (10, _), (15, _)]) ⟨rfl, rfl, rfl, rfl, rfl, rfl, rfl, trivial⟩ ?_
    refine Post.then_ ?_
    refine Cd.ret ?_
    refine Post.block_ret ?_
    refine Post.then_ret ?_
    refine Post.end1 rfl rfl (.inl rfl) ?_
    exact ⟨ret1 (int_eq (by unfold daysZ; rw [if_neg h, if_neg (by omega), if_pos (by omega)])), rfl⟩
  refine Cd.seq ?_
  refine Cd.region ?_
  refine Seq.val (Runs.eqlI rfl rfl rfl) rfl rfl rfl ?_
  refine Seq.val (Runs.assign rfl rfl) rfl rfl rfl ?_
  refine Seq.nil ?_
  refine Post.weak (F' := [(0, _), (1, _), (4, _), (5, _), (6, _), (10, _), (15, _)]) ⟨rfl, rfl, rfl, rfl, rfl, rfl, rfl, trivial⟩ ?_
  refine Post.then_ ?_
  refine Cd.condD rfl (fun a8 => ?_) (fun a8 => ?_)
  · skip
    refine Cd.skip ?_
    refine Post.then_ ?_
    refine Cd.condT rfl (decide_eq_true a8) ?_
    refine Cd.seq ?_
    refine Cd.region ?_
    refine Seq.val (Runs.assign rfl rfl) rfl rfl rfl ?_
    refine Seq.nil ?_
    refine Post.weak (F' := [(0, _), (1, _), (4, _), (5, _), (6, _), (10, _), (15, _)]) ⟨rfl, rfl, rfl, rfl, rfl, rfl, rfl, trivial⟩ ?_
    refine Post.then_ ?_
    refine Cd.ret ?_
    refine Post.block_ret ?_
    refine Post.then_ret ?_
    refine Post.end1 rfl rfl (.inl rfl) ?_
    exact ⟨ret1 (int_eq (by unfold daysZ; rw [if_neg h, if_neg (by omega), if_pos (by omega)])), rfl⟩
  refine Cd.seq ?_
  refine Cd.region ?_
  refine Seq.val (Runs.eqlI rfl rfl rfl) rfl rfl rfl ?_
  refine Seq.val (Runs.assign rfl rfl) rfl rfl rfl ?_
  refine Seq.nil ?_
  refine Post.weak (F' := [(0, _), (1, _), (4, _), (5, _), (6, _), (10, _), (15, _)]) ⟨rfl, rfl, rfl, rfl, rfl, rfl, rfl, trivial⟩ ?_
  refine Post.then_ ?_
  refine Cd.condD rfl (fun a10 => ?_) (fun a10 => ?_)
  · skip
    refine Cd.skip ?_
    refine Post.then_ ?_
    refine Cd.condT rfl (decide_eq_true a10) ?_
    refine Cd.seq ?_
    refine Cd.region ?_
    refine Seq.val (Runs.assign rfl rfl) rfl rfl rfl ?_
    refine Seq.nil ?_
    refine Post.weak (F' := [(0, _), (1, _), (4, _), (5, _), (6, _), (10, _), (15, _)]) ⟨rfl, rfl, rfl, rfl, rfl, rfl, rfl, trivial⟩ ?_
    refine Post.then_ ?_
    refine Cd.ret ?_
    refine Post.block_ret ?_
    refine Post.then_ret ?_
    refine Post.end1 rfl rfl (.inl rfl) ?_
    exact ⟨ret1 (int_eq (by unfold daysZ; rw [if_neg h, if_neg (by omega), if_pos (by omega)])), rfl⟩
  refine Cd.region ?_
  refine Seq.val (Runs.eqlI rfl rfl rfl) rfl rfl rfl ?_
  refine Seq.val (Runs.assign rfl rfl) rfl rfl rfl ?_
  refine Seq.nil ?_
  refine Post.weak (F' := [(0, _), (1, _), (4, _), (5, _), (6, _), (10, _), (15, _)]) ⟨rfl, rfl, rfl, rfl, rfl, rfl, rfl, trivial⟩ ?_
  refine Post.then_ ?_
  refine Cd.condD rfl (fun a12 => ?_) (fun a12 => ?_)
  · skip
    refine Cd.seq ?_
    refine Cd.region ?_
    refine Seq.val (Runs.assign rfl rfl) rfl rfl rfl ?_
    refine Seq.nil ?_
    refine Post.weak (F' := [(0, _), (1, _), (4, _), (5, _), (6, _), (10, _), (15, _)]) ⟨rfl, rfl, rfl, rfl, rfl, rfl, rfl, trivial⟩ ?_
    refine Post.then_ ?_
    refine Cd.ret ?_
    refine Post.block_ret ?_
    refine Post.then_ret ?_
    refine Post.end1 rfl rfl (.inl rfl) ?_
    exact ⟨ret1 (int_eq (by unfold daysZ; rw [if_neg h, if_neg (by omega), if_pos (by omega)])), rfl⟩
  refine Cd.skip ?_
  refine Post.block_normal ?_
  refine Post.then_ ?_
  refine Cd.seq ?_
  refine Cd.region ?_
  refine Seq.val (Runs.assign rfl rfl) rfl rfl rfl ?_
  refine Seq.nil ?_
  refine Post.weak (F' := [(0, _), (1, _), (4, _), (5, _), (6, _), (10, _), (15, _)]) ⟨rfl, rfl, rfl, rfl, rfl, rfl, rfl, trivial⟩ ?_
  refine Post.then_ ?_
  refine Cd.ret ?_
  refine Post.end1 rfl rfl (.inl rfl) ?_
  exact ⟨ret1 (int_eq (by unfold daysZ; rw [if_neg h, if_neg (by omega), if_neg (by omega)])), rfl⟩
def ofOk (y m d : Int) : Bool := decide (1970 ≤ y) && decide (y ≤ 9999) && decide (1 ≤ d) && decide (d ≤ daysZ y m)
def ofY (y m : Int) : Int := if m < 3 then y - 1 else y
def ofM (m : Int) : Int := if m < 3 then m + 9 else m - 3
def ofZ (y m d : Int) : Int := ofY y m / 400 * 146097 + (ofY y m % 400 * 365 + ofY y m % 400 / 4 - ofY y m % 400 / 100 + ((153 * ofM m + 2) / 5 + d - 1)) - 719468
theorem daysZ_m {y m : Int} (h : 0 < daysZ y m) : 1 ≤ m ∧ m ≤ 12 ∧ daysZ y m ≤ 31 := by
  unfold daysZ at *
  split
  · split <;> omega
  · split
    · omega
    · split
      · omega
      · rename_i h1 h2 h3
        rw [if_neg h1, if_neg h2, if_neg h3] at h
        omega
theorem dateOf_any (y m d : Int) (w : World) (hy : I64 y) (hm : -100 ≤ m ∧ m ≤ 100) (hd : I64 d) :
    Calls Try.prog 160 #[.int .i64 y, .int .i64 m, .int .i64 d] w fun e w' => e = .returned (.tuple #[.int .i64 (if ofOk y m d then ofZ y m d else 0), .bool (ofOk y m d)]) ∧ Grow w w' := by
  have bel := Below.refl w.heap.size w
  unfold I64 at hy hd
  by_cases hy2 : y < 1970 ∨ 9999 < y
  · have hf : ofOk y m d = false := by
      unfold ofOk
      rw [Bool.eq_false_iff]
      simp
      omega
    rw [hf]
    refine Calls.start 64 Try.func160 rfl rfl rfl ?_
    refine Cd.seq ?_
    refine Cd.region ?_
    refine Seq.val (Runs.assign rfl rfl) rfl rfl rfl ?_
    refine Seq.val (Runs.assign rfl rfl) rfl rfl rfl ?_
    refine Seq.nil ?_
    refine Post.weak (F' := [(0, _), (1, _), (2, _), (6, _), (7, _)]) ⟨rfl, rfl, rfl, rfl, rfl, trivial⟩ ?_
    refine Post.then_ ?_
    refine Cd.seq ?_
    refine Cd.seq ?_
    refine Cd.region ?_
    refine Seq.val (Runs.move rfl rfl) rfl rfl rfl ?_
    refine Seq.val (Runs.lss rfl rfl rfl) rfl rfl rfl ?_
    refine Seq.val (Runs.move rfl rfl) rfl rfl rfl ?_
    refine SeqC.start ?_
    refine SeqC.open rfl rfl rfl rfl rfl rfl rfl (fun hcx => Runs.move rfl rfl) ?_
    refine SeqC.next rfl rfl rfl rfl rfl rfl rfl (fun hcx => Runs.gtr rfl rfl rfl) ?_
    refine SeqC.or rfl rfl rfl rfl rfl rfl rfl ?_
    refine Seq.val (Runs.move rfl rfl) rfl rfl rfl ?_
    refine SeqC.start ?_
    refine SeqC.open rfl rfl rfl rfl rfl rfl rfl (fun hcx => Runs.move rfl rfl) ?_
    refine SeqC.next rfl rfl rfl rfl rfl rfl rfl (fun hcx => Runs.lss rfl rfl rfl) ?_
    refine SeqC.or rfl rfl rfl rfl rfl rfl rfl ?_
    refine Seq.val (Runs.move rfl rfl) rfl rfl rfl ?_
    refine SeqC.start ?_
    refine SeqC.open rfl rfl rfl rfl rfl rfl rfl (fun hcx => Runs.move rfl rfl) ?_
    refine SeqC.next rfl rfl rfl rfl rfl rfl rfl (fun hcx => Runs.move rfl rfl) ?_
    refine SeqC.next rfl rfl rfl rfl rfl rfl rfl (fun hcx => Runs.move rfl rfl) ?_
    refine SeqC.nextC rfl rfl rfl rfl rfl rfl rfl (fun hcx => Enters.func rfl rfl rfl (run_enter Try.func172 (by kernel_rfl) rfl)) (fun hcx => (by exfalso; simp [topX] at hcx; omega : Calls _ _ _ _ (fun e w' => e = .returned (.int .i64 0) ∧ Grow _ w'))) ?_
    intro w1 hw1
    replace bel := bel.step hw1
    refine SeqC.next rfl rfl rfl rfl rfl rfl rfl (fun hcx => Runs.gtr rfl rfl rfl) ?_
    refine SeqC.or rfl rfl rfl rfl rfl rfl rfl ?_
    refine Seq.nil ?_
    refine Post.weak (F' := [(0, _), (1, _), (2, _), (6, _), (7, _), (28, _)]) ⟨rfl, rfl, rfl, rfl, rfl, rfl, trivial⟩ ?_
    refine Post.then_ ?_
    refine Cd.condT rfl (by simp; omega) ?_
    refine Cd.seq ?_
    refine Cd.region ?_
    refine Seq.val (Runs.assign rfl rfl) rfl rfl rfl ?_
    refine Seq.val (Runs.assign rfl rfl) rfl rfl rfl ?_
    refine Seq.nil ?_
    refine Post.weak (F' := [(0, _), (1, _), (2, _), (6, _), (7, _), (28, _)]) ⟨rfl, rfl, rfl, rfl, rfl, rfl, trivial⟩ ?_
    refine Post.then_ ?_
    refine Cd.ret ?_
    refine Post.then_ret ?_
    refine Post.end2 rfl rfl rfl (.inl rfl) ?_
    exact ⟨rfl, bel⟩
  have hdc := fun w => (days_any y m w (by omega)).mono (fun e w' (h : e = .returned (.int .i64 (daysZ y m)) ∧ w = w') => (⟨h.1, by rw [← h.2]; exact Grow.refl _⟩ : e = .returned (.int .i64 (daysZ y m)) ∧ Grow w w'))
  refine Calls.start 64 Try.func160 rfl rfl rfl ?_
  refine Cd.seq ?_
  refine Cd.region ?_
  refine Seq.val (Runs.assign rfl rfl) rfl rfl rfl ?_
  refine Seq.val (Runs.assign rfl rfl) rfl rfl rfl ?_
  refine Seq.nil ?_
  refine Post.weak (F' := [(0, _), (1, _), (2, _), (6, _), (7, _)]) ⟨rfl, rfl, rfl, rfl, rfl, trivial⟩ ?_
  refine Post.then_ ?_
  refine Cd.seq ?_
  refine Cd.seq ?_
  refine Cd.region ?_
  refine Seq.val (Runs.move rfl rfl) rfl rfl rfl ?_
  refine Seq.val (Runs.lss rfl rfl rfl) rfl rfl rfl ?_
  refine Seq.val (Runs.move rfl rfl) rfl rfl rfl ?_
  refine SeqC.start ?_
  refine SeqC.open rfl rfl rfl rfl rfl rfl rfl (fun hcx => Runs.move rfl rfl) ?_
  refine SeqC.next rfl rfl rfl rfl rfl rfl rfl (fun hcx => Runs.gtr rfl rfl rfl) ?_
  refine SeqC.or rfl rfl rfl rfl rfl rfl rfl ?_
  refine Seq.val (Runs.move rfl rfl) rfl rfl rfl ?_
  refine SeqC.start ?_
  refine SeqC.open rfl rfl rfl rfl rfl rfl rfl (fun hcx => Runs.move rfl rfl) ?_
  refine SeqC.next rfl rfl rfl rfl rfl rfl rfl (fun hcx => Runs.lss rfl rfl rfl) ?_
  refine SeqC.or rfl rfl rfl rfl rfl rfl rfl ?_
  refine Seq.val (Runs.move rfl rfl) rfl rfl rfl ?_
  refine SeqC.start ?_
  refine SeqC.open rfl rfl rfl rfl rfl rfl rfl (fun hcx => Runs.move rfl rfl) ?_
  refine SeqC.next rfl rfl rfl rfl rfl rfl rfl (fun hcx => Runs.move rfl rfl) ?_
  refine SeqC.next rfl rfl rfl rfl rfl rfl rfl (fun hcx => Runs.move rfl rfl) ?_
  refine SeqC.nextC rfl rfl rfl rfl rfl rfl rfl (fun hcx => Enters.func rfl rfl rfl (run_enter Try.func172 (by kernel_rfl) rfl)) (fun hcx => hdc _) ?_
  intro w1 hw1
  replace bel := bel.step hw1
  refine SeqC.next rfl rfl rfl rfl rfl rfl rfl (fun hcx => Runs.gtr rfl rfl rfl) ?_
  refine SeqC.or rfl rfl rfl rfl rfl rfl rfl ?_
  refine Seq.nil ?_
  refine Post.weak (F' := [(0, _), (1, _), (2, _), (6, _), (7, _), (28, _)]) ⟨rfl, rfl, rfl, rfl, rfl, rfl, trivial⟩ ?_
  refine Post.then_ ?_
  refine Cd.cond rfl (fun h => ?_) (fun h => ?_)
  · have hf : ofOk y m d = false := by
      unfold ofOk
      rw [Bool.eq_false_iff]
      simp at h ⊢
      omega
    rw [hf]
    refine Cd.seq ?_
    refine Cd.region ?_
    refine Seq.val (Runs.assign rfl rfl) rfl rfl rfl ?_
    refine Seq.val (Runs.assign rfl rfl) rfl rfl rfl ?_
    refine Seq.nil ?_
    refine Post.weak (F' := [(0, _), (1, _), (2, _), (6, _), (7, _), (28, _)]) ⟨rfl, rfl, rfl, rfl, rfl, rfl, trivial⟩ ?_
    refine Post.then_ ?_
    refine Cd.ret ?_
    refine Post.then_ret ?_
    refine Post.end2 rfl rfl rfl (.inl rfl) ?_
    exact ⟨rfl, bel⟩
  have hd2 : 1 ≤ d ∧ d ≤ daysZ y m := by
    simp at h
    omega
  have hok : ofOk y m d = true := by
    unfold ofOk
    simp
    omega
  rw [hok, if_pos rfl]
  obtain ⟨m1, m2, m3⟩ := daysZ_m (y := y) (m := m) (by omega)
  have hz : ofZ y m d = ofY y m / 400 * 146097 + (ofY y m % 400 * 365 + ofY y m % 400 / 4 - ofY y m % 400 / 100 + ((153 * ofM m + 2) / 5 + d - 1)) - 719468 := rfl
  have hY : 1969 ≤ ofY y m ∧ ofY y m ≤ 9999 := by unfold ofY; split <;> omega
  have hM : 0 ≤ ofM m ∧ ofM m ≤ 11 := by unfold ofM; split <;> omega
  have eY : ofY y m = if m < 3 then y - 1 else y := rfl
  have eM : ofM m = if m < 3 then m + 9 else m - 3 := rfl
  generalize ofY y m = Y at *
  generalize ofM m = M at *
  refine Cd.skip ?_
  refine Post.then_ ?_
  refine Cd.seq ?_
  refine Cd.region ?_
  refine Seq.val (Runs.move rfl rfl) rfl rfl rfl ?_
  refine Seq.val (Runs.move rfl rfl) rfl rfl rfl ?_
  refine Seq.val (Runs.subI rfl rfl rfl (by omega) (by omega)) rfl rfl rfl ?_
  refine Seq.val (Runs.assign rfl rfl) rfl rfl rfl ?_
  refine Seq.val (Runs.assign rfl rfl) rfl rfl rfl ?_
  refine Seq.nil ?_
  refine Post.weak (F' := [(0, _), (1, _), (2, _), (6, _), (7, _), (8, _), (9, _), (28, _)]) ⟨rfl, rfl, rfl, rfl, rfl, rfl, rfl, rfl, trivial⟩ ?_
  refine Post.then_ ?_
  refine Cd.seqJ (σ := Unit) (fun _ => [(2, .int .i64 d), (8, .int .i64 Y), (9, .int .i64 M)]) (fun _ wr => Below w.heap.size w wr) ?_ ?_
  · skip
    refine Cd.seq ?_
    refine Cd.region ?_
    refine Seq.val (Runs.move rfl rfl) rfl rfl rfl ?_
    refine Seq.val (Runs.lss rfl rfl rfl) rfl rfl rfl ?_
    refine Seq.nil ?_
    refine Post.weak (F' := [(0, _), (1, _), (2, _), (6, _), (7, _), (8, _), (9, _), (28, _), (33, _)]) ⟨rfl, rfl, rfl, rfl, rfl, rfl, rfl, rfl, rfl, trivial⟩ ?_
    refine Post.then_ ?_
    refine Cd.condD rfl (fun hc => ?_) (fun hc => ?_)
    · skip
      refine Cd.region ?_
      refine Seq.val (Runs.move rfl rfl) rfl rfl rfl ?_
      refine Seq.val (Runs.subI rfl rfl rfl (by omega) (by omega)) rfl rfl rfl ?_
      refine Seq.val (Runs.move rfl rfl) rfl rfl rfl ?_
      refine Seq.val (Runs.addI rfl rfl rfl (by omega) (by omega)) rfl rfl rfl ?_
      refine Seq.val (Runs.assign rfl rfl) rfl rfl rfl ?_
      refine Seq.val (Runs.assign rfl rfl) rfl rfl rfl ?_
      refine Seq.nil ?_
      refine Post.weak (F' := [(0, _), (1, _), (2, _), (6, _), (7, _), (8, _), (9, _), (28, _), (33, _)]) ⟨rfl, rfl, rfl, rfl, rfl, rfl, rfl, rfl, rfl, trivial⟩ ?_
      exact Post.join () ⟨rfl, congrArg (fun z => some (Value.int .i64 z)) (by rw [eY, if_pos (by omega)]), congrArg (fun z => some (Value.int .i64 z)) (by rw [eM, if_pos (by omega)]; omega), trivial⟩ bel
    · skip
      refine Cd.skip ?_
      exact Post.join () ⟨rfl, congrArg (fun z => some (Value.int .i64 z)) (by rw [eY, if_neg (by omega)]), congrArg (fun z => some (Value.int .i64 z)) (by rw [eM, if_neg (by omega)]), trivial⟩ bel
  clear bel
  rintro ⟨⟩ wr bel
  refine Cd.seq ?_
  refine Cd.region ?_
  refine Seq.val (Runs.move rfl rfl) rfl rfl rfl ?_
  refine Seq.val (Runs.mulI rfl rfl rfl (by omega) (by omega)) rfl rfl rfl ?_
  refine Seq.val (Runs.addI rfl rfl rfl (by omega) (by omega)) rfl rfl rfl ?_
  refine Seq.val (Runs.quoI rfl rfl rfl (by omega) (by omega) (by omega)) rfl rfl rfl ?_
  refine Seq.val (Runs.move rfl rfl) rfl rfl rfl ?_
  refine Seq.val (Runs.addI rfl rfl rfl (by omega) (by omega)) rfl rfl rfl ?_
  refine Seq.val (Runs.subI rfl rfl rfl (by omega) (by omega)) rfl rfl rfl ?_
  refine Seq.val (Runs.assign rfl rfl) rfl rfl rfl ?_
  refine Seq.nil ?_
  refine Post.weak (F' := [(2, _), (8, _), (9, _), (10, _)]) ⟨rfl, rfl, rfl, rfl, trivial⟩ ?_
  refine Post.then_ ?_
  refine Cd.seq ?_
  refine Cd.region ?_
  refine Seq.val (Runs.move rfl rfl) rfl rfl rfl ?_
  refine Seq.val (Runs.remN rfl rfl rfl (by omega) (by omega)) rfl rfl rfl ?_
  refine Seq.val (Runs.mulI rfl rfl rfl (by omega) (by omega)) rfl rfl rfl ?_
  refine Seq.val (Runs.move rfl rfl) rfl rfl rfl ?_
  refine Seq.val (Runs.remN rfl rfl rfl (by omega) (by omega)) rfl rfl rfl ?_
  refine Seq.val (Runs.quoI rfl rfl rfl (by omega) (by omega) (by omega)) rfl rfl rfl ?_
  refine Seq.val (Runs.addI rfl rfl rfl (by omega) (by omega)) rfl rfl rfl ?_
  refine Seq.val (Runs.move rfl rfl) rfl rfl rfl ?_
  refine Seq.val (Runs.remN rfl rfl rfl (by omega) (by omega)) rfl rfl rfl ?_
  refine Seq.val (Runs.quoI rfl rfl rfl (by omega) (by omega) (by omega)) rfl rfl rfl ?_
  refine Seq.val (Runs.subI rfl rfl rfl (by omega) (by omega)) rfl rfl rfl ?_
  refine Seq.val (Runs.move rfl rfl) rfl rfl rfl ?_
  refine Seq.val (Runs.addI rfl rfl rfl (by omega) (by omega)) rfl rfl rfl ?_
  refine Seq.val (Runs.assign rfl rfl) rfl rfl rfl ?_
  refine Seq.nil ?_
  refine Post.weak (F' := [(2, _), (8, _), (9, _), (10, _), (11, _)]) ⟨rfl, rfl, rfl, rfl, rfl, trivial⟩ ?_
  refine Post.then_ ?_
  refine Cd.seq ?_
  refine Cd.region ?_
  refine Seq.val (Runs.move rfl rfl) rfl rfl rfl ?_
  refine Seq.val (Runs.quoI rfl rfl rfl (by omega) (by omega) (by omega)) rfl rfl rfl ?_
  refine Seq.val (Runs.mulI rfl rfl rfl (by omega) (by omega)) rfl rfl rfl ?_
  refine Seq.val (Runs.move rfl rfl) rfl rfl rfl ?_
  refine Seq.val (Runs.addI rfl rfl rfl (by omega) (by omega)) rfl rfl rfl ?_
  refine Seq.val (Runs.subI rfl rfl rfl (by omega) (by omega)) rfl rfl rfl ?_
  refine Seq.val (Runs.assign rfl rfl) rfl rfl rfl ?_
  refine Seq.val (Runs.assign rfl rfl) rfl rfl rfl ?_
  refine Seq.nil ?_
  refine Post.weak (F' := [(2, _), (6, _), (7, _), (8, _), (9, _), (10, _), (11, _)]) ⟨rfl, rfl, rfl, rfl, rfl, rfl, rfl, trivial⟩ ?_
  refine Post.then_ ?_
  refine Cd.ret ?_
  refine Post.end2 rfl rfl rfl (.inl rfl) ?_
  exact ⟨by rw [hz], bel⟩
end Go.Proofs.Ytijaldpmpjapiaa

namespace Go.Proofs.Ytijaldpmpjapiaa
open Go.RowKit

/-- The number of digits; -1: they are none. -/
def numZ (l : List Nat) : Int := if l.all digB then (valD l : Int) else -1
theorem numZ_bd (l : List Nat) (h : l.length ≤ 4) : -1 ≤ numZ l ∧ numZ l ≤ 9999 := by
  unfold numZ
  split
  · rename_i ha
    have := valD_lt l (fun c hc => by
      have := List.all_eq_true.1 ha c hc
      unfold digB at this
      simp at this
      exact this)
    have h2 : 10 ^ l.length ≤ 10 ^ 4 := Nat.pow_le_pow_right (by omega) h
    omega
  · omega
theorem numZ_bd2 (l : List Nat) (h : l.length ≤ 2) : -1 ≤ numZ l ∧ numZ l ≤ 99 := by
  unfold numZ
  split
  · rename_i ha
    have := valD_lt l (fun c hc => by
      have := List.all_eq_true.1 ha c hc
      unfold digB at this
      simp at this
      exact this)
    have h2 : 10 ^ l.length ≤ 10 ^ 2 := Nat.pow_le_pow_right (by omega) h
    omega
  · omega
theorem datePart_any (g : Nat) (l : List Nat) (i j : Nat) (w : World) (hl : ∀ x ∈ l, x < 256) (hg : Blk w g 9 #[.string (strOf l)]) (hi : i ≤ j) (hj : j ≤ l.length) (h4 : j ≤ i + 4) :
    Calls Try.prog 159 #[.int .i64 (i : Int), .int .i64 (j : Int), .pointer (some ⟨g, 0, none⟩)] w fun e w' => e = .returned (.int .i64 (numZ ((l.take j).drop i))) ∧ Grow w w' := by
  have bel := Below.refl w.heap.size w
  have hll : l.length ≤ 9223372036854775807 ∨ 9223372036854775807 < l.length := by omega
  have hM : ∀ x ∈ (l.take j).drop i, x < 256 := drop_lt (take_lt hl j) i
  have hMl : ((l.take j).drop i).length ≤ 4 := by rw [List.length_drop, List.length_take]; omega
  have kg := hg
  refine Calls.start 33 Try.func159 rfl rfl rfl ?_
  refine Cd.seq ?_
  refine Cd.region ?_
  refine Seq.val (Runs.assign rfl rfl) rfl rfl rfl ?_
  refine Seq.nil ?_
  refine Post.weak (F' := [(0, _), (1, _), (2, _), (5, _)]) ⟨rfl, rfl, rfl, rfl, trivial⟩ ?_
  refine Post.then_ ?_
  refine Cd.seq ?_
  refine Cd.region ?_
  refine Seq.val (Runs.assign rfl rfl) rfl rfl rfl ?_
  refine Seq.nil ?_
  refine Post.weak (F' := [(0, _), (1, _), (2, _), (5, _), (6, _)]) ⟨rfl, rfl, rfl, rfl, rfl, trivial⟩ ?_
  refine Post.then_ ?_
  refine Cd.seq ?_
  refine Cd.seq ?_
  refine Cd.region ?_
  refine Seq.val (Runs.loadB rfl rfl Try.underlying9 rfl kg rfl) rfl rfl rfl ?_
  refine Seq.val (Runs.move rfl rfl) rfl rfl rfl ?_
  refine Seq.val (Runs.move rfl rfl) rfl rfl rfl ?_
  refine Seq.val (Runs.sliceAtL (i := i) (j := j) rfl rfl rfl rfl Try.underlying9 rfl rfl hi hj) rfl rfl rfl ?_
  generalize (l.take j).drop i = M at *
  refine Seq.convSB rfl rfl Try.underlying9 Try.underlying108 Try.underlying5 hM rfl rfl rfl ?_
  intro g13 c13 w13 hc13 n13
  replace bel := bel.step n13.below
  have hrd13 := n13.reads
  have hB13 := n13.lt
  refine Seq.val (Runs.len rfl rfl Try.underlying108) rfl rfl rfl ?_
  refine Seq.val (Runs.move rfl rfl) rfl rfl rfl ?_
  refine Seq.nil ?_
  refine Post.weak (F' := [(0, _), (1, _), (2, _), (5, _), (6, _), (13, _), (14, _), (15, _)]) ⟨rfl, rfl, rfl, rfl, rfl, rfl, rfl, rfl, trivial⟩ ?_
  refine Post.then_ ?_
  refine Cd.block ?_
  refine Cd.loop (σ := Nat) (fun k => [(6, .int .i64 ((valD (M.take k) : Nat) : Int)), (13, .slice (some ⟨g13, 0, none⟩) M.length c13), (14, .int .i64 (M.length : Int)), (15, .int .i64 (k : Int))])
    (fun k wr => k ≤ M.length ∧ (∀ c ∈ M.take k, isDg c) ∧ Below w.heap.size w wr ∧ Below w13.heap.size w13 wr) (fun k => M.length - k) 0 ⟨by omega, by simp, bel, Below.refl _ _⟩ ⟨rfl, rfl, rfl, rfl, trivial⟩ ?_
  clear bel
  rintro k wr ⟨hk, hdg, bel, bl13⟩
  have hvl := valD_lt (M.take k) hdg
  rw [List.length_take, Nat.min_eq_left hk] at hvl
  have h10 : 10 ^ k ≤ 10 ^ 4 := Nat.pow_le_pow_right (by omega) (by omega)
  refine Cd.seq ?_
  refine Cd.region ?_
  refine Seq.val (Runs.lss rfl rfl rfl) rfl rfl rfl ?_
  refine Seq.nil ?_
  refine Post.weak (F' := [(6, _), (13, _), (14, _), (15, _), (16, _)]) ⟨rfl, rfl, rfl, rfl, rfl, trivial⟩ ?_
  refine Post.then_ ?_
  refine Cd.seq ?_
  refine Cd.condD rfl (fun hc => ?_) (fun hc => ?_)
  · obtain ⟨c, hcc⟩ : ∃ c, M[k]? = some c := ⟨_, List.getElem?_eq_getElem (show k < M.length by omega)⟩
    have hc256 := hM c (List.mem_of_getElem? hcc)
    have hcell : wr.cell? (Addr.add ⟨g13, 0, none⟩ k) = some (.int .u8 (c : Int)) := by
      obtain ⟨ad, e, hb, hcs⟩ := hrd13.2 (by omega)
      injection e with e
      subst e
      rw [bl13.cell (by rw [block_of_add]; exact hB13)]
      exact hcs k _ (by rw [get_Bt, hcc]; rfl)
    have htk : M.take (k + 1) = M.take k ++ [c] := by rw [List.take_add_one, hcc]; rfl
    have hvs : valD (M.take (k + 1)) = 10 * valD (M.take k) + (c - 48) := by rw [htk, valD_snoc]
    generalize hV : valD (M.take k) = V at *
    refine Cd.skip ?_
    refine Post.then_ ?_
    refine Cd.seq ?_
    refine Cd.block ?_
    refine Cd.seq ?_
    refine Cd.region ?_
    refine Seq.val (Runs.index1 rfl rfl rfl Try.underlying108 (by kernel_rfl) (j := k) rfl (by omega)) rfl rfl rfl ?_
    refine Seq.val (Runs.load1 rfl rfl Try.underlying5 rfl hcell) rfl rfl rfl ?_
    refine Seq.val (Runs.assign rfl rfl) rfl rfl rfl ?_
    refine Seq.nil ?_
    refine Post.weak (F' := [(6, _), (8, _), (13, _), (14, _), (15, _), (16, _)]) ⟨rfl, rfl, rfl, rfl, rfl, rfl, trivial⟩ ?_
    refine Post.then_ ?_
    refine Cd.seq ?_
    refine Cd.seq ?_
    refine Cd.region ?_
    refine Seq.val (Runs.move rfl rfl) rfl rfl rfl ?_
    refine Seq.val (Runs.lss rfl rfl rfl) rfl rfl rfl ?_
    refine Seq.val (Runs.move rfl rfl) rfl rfl rfl ?_
    refine SeqC.start ?_
    refine SeqC.open rfl rfl rfl rfl rfl rfl rfl (fun hcx => Runs.move rfl rfl) ?_
    refine SeqC.next rfl rfl rfl rfl rfl rfl rfl (fun hcx => Runs.gtr rfl rfl rfl) ?_
    refine SeqC.or rfl rfl rfl rfl rfl rfl rfl ?_
    refine Seq.nil ?_
    refine Post.weak (F' := [(6, _), (8, _), (13, _), (14, _), (15, _), (16, _), (24, _)]) ⟨rfl, rfl, rfl, rfl, rfl, rfl, rfl, trivial⟩ ?_
    refine Post.then_ ?_
    refine Cd.cond rfl (fun h => ?_) (fun h => ?_)
    · have hno : ¬ M.all digB = true := by
        intro ha
        have := List.all_eq_true.1 ha c (List.mem_of_getElem? hcc)
        unfold digB at this
        simp at this h
        omega
      refine Cd.seq ?_
      refine Cd.region ?_
      refine Seq.val (Runs.assign rfl rfl) rfl rfl rfl ?_
      refine Seq.nil ?_
      refine Post.weak (F' := [(5, _), (6, _), (8, _), (13, _), (14, _), (15, _), (16, _), (24, _)]) ⟨rfl, rfl, rfl, rfl, rfl, rfl, rfl, rfl, trivial⟩ ?_
      refine Post.then_ ?_
      refine Cd.ret ?_
      refine Post.then_ret ?_
      refine Post.block_ret ?_
      refine Post.then_ret ?_
      refine Post.round_ret ?_
      refine Post.block_ret ?_
      refine Post.then_ret ?_
      refine Post.end1 rfl rfl (.inl rfl) ?_
      exact ⟨ret1 (int_eq (by unfold numZ; rw [if_neg hno])), bel⟩
    · have hcd : isDg c := by unfold isDg; simp at h; omega
      have hcd2 := hcd
      unfold isDg at hcd2
      clear h
      refine Cd.skip ?_
      refine Post.then_ ?_
      refine Cd.region ?_
      refine Seq.val (Runs.move rfl rfl) rfl rfl rfl ?_
      refine Seq.val (Runs.mulI rfl rfl rfl (by omega) (by omega)) rfl rfl rfl ?_
      refine Seq.val (Runs.move rfl rfl) rfl rfl rfl ?_
      refine Seq.val (Runs.subW rfl rfl rfl (wrapB (by omega) (by omega))) rfl rfl rfl ?_
      refine Seq.val (Runs.convI rfl rfl Try.underlying5 Try.underlying3 (wrapI (by omega) (by omega))) rfl rfl rfl ?_
      refine Seq.val (Runs.addI rfl rfl rfl (by omega) (by omega)) rfl rfl rfl ?_
      refine Seq.val (Runs.assign rfl rfl) rfl rfl rfl ?_
      refine Seq.nil ?_
      refine Post.weak (F' := [(6, _), (8, _), (13, _), (14, _), (15, _), (16, _), (24, _)]) ⟨rfl, rfl, rfl, rfl, rfl, rfl, rfl, trivial⟩ ?_
      refine Post.block_normal ?_
      refine Post.then_ ?_
      refine Cd.region ?_
      refine Seq.val (Runs.addI rfl rfl rfl (by omega) (by omega)) rfl rfl rfl ?_
      refine Seq.val (Runs.move rfl rfl) rfl rfl rfl ?_
      refine Seq.nil ?_
      refine Post.weak (F' := [(6, _), (8, _), (13, _), (14, _), (15, _), (16, _), (24, _)]) ⟨rfl, rfl, rfl, rfl, rfl, rfl, rfl, trivial⟩ ?_
      refine Post.round (k + 1) ⟨congrArg (fun x => some (Value.int .i64 x)) (show (10 * (V : Int) + ((c : Int) - 48)) = ((valD (M.take (k + 1)) : Nat) : Int) by omega), rfl, rfl, rfl, trivial⟩ ⟨by omega, ?_, bel, bl13⟩ (by omega)
      intro x hx
      rw [htk] at hx
      rcases List.mem_append.1 hx with h | h
      · exact hdg x h
      · simp at h; subst h; exact hcd
  · obtain rfl : k = M.length := by omega
    rw [List.take_of_length_le (Nat.le_refl _)] at hdg ⊢
    have hall : M.all digB = true := by
      rw [List.all_eq_true]
      intro c hc
      have := hdg c hc
      unfold isDg at this
      unfold digB
      simp
      omega
    refine Cd.exit ?_
    refine Post.then_exit ?_
    refine Post.round_exit ?_
    refine Post.block_exit ?_
    refine Post.then_ ?_
    refine Cd.seq ?_
    refine Cd.region ?_
    refine Seq.val (Runs.move rfl rfl) rfl rfl rfl ?_
    refine Seq.val (Runs.assign rfl rfl) rfl rfl rfl ?_
    refine Seq.nil ?_
    refine Post.weak (F' := [(5, _), (6, _), (13, _), (14, _), (15, _), (16, _)]) ⟨rfl, rfl, rfl, rfl, rfl, rfl, trivial⟩ ?_
    refine Post.then_ ?_
    refine Cd.ret ?_
    refine Post.end1 rfl rfl (.inl rfl) ?_
    exact ⟨ret1 (int_eq (by unfold numZ; rw [if_pos hall])), bel⟩
theorem eg_datePart : ∀ args w, (callFunc 159 args).run Try.prog w = .ok (.enter 159 args) w := fun args w => run_enter Try.func159 (by kernel_rfl) rfl args w
/-- The day of a text. -/
def dateOk (l : List Nat) : Bool := decide (l.length = 10) && decide (l[4]? = some 45) && decide (l[7]? = some 45) && ofOk (numZ ((l.take 4).drop 0)) (numZ ((l.take 7).drop 5)) (numZ ((l.take 10).drop 8))
def dateZ (l : List Nat) : Int := if dateOk l then ofZ (numZ ((l.take 4).drop 0)) (numZ ((l.take 7).drop 5)) (numZ ((l.take 10).drop 8)) else 0
theorem dateParse_any (l : List Nat) (w : World) (hl : ∀ x ∈ l, x < 256) (hlen : l.length ≤ 9223372036854775807) :
    Calls Try.prog 136 #[.string (strOf l)] w fun e w' => e = .returned (.tuple #[.int .i64 (dateZ l), .bool (dateOk l)]) ∧ Grow w w' := by
  have bel := Below.refl w.heap.size w
  by_cases h10 : l.length = 10
  · obtain ⟨c4, h4⟩ : ∃ c, l[4]? = some c := ⟨_, List.getElem?_eq_getElem (by omega)⟩
    obtain ⟨c7, h7⟩ : ∃ c, l[7]? = some c := ⟨_, List.getElem?_eq_getElem (by omega)⟩
    have hc4 := hl c4 (List.mem_of_getElem? h4)
    have hc7 := hl c7 (List.mem_of_getElem? h7)
    refine Calls.start 28 Try.func136 rfl rfl rfl ?_
    refine Cd.seq ?_
    refine Cd.region ?_
    refine Seq.box rfl rfl rfl rfl rfl ?_
    intro g1 w1 n1
    have e1 := Nat.le_trans bel.size n1.ge
    replace bel := bel.step n1.below
    have k1 := n1.blk
    refine Seq.val (Runs.assign rfl rfl) rfl rfl rfl ?_
    refine Seq.val (Runs.assign rfl rfl) rfl rfl rfl ?_
    refine Seq.nil ?_
    refine Post.weak (F' := [(0, _), (1, _), (2, _), (3, _)]) ⟨rfl, rfl, rfl, rfl, trivial⟩ ?_
    refine Post.then_ ?_
    refine Cd.seq ?_
    refine Cd.seq ?_
    refine Cd.region ?_
    refine Seq.val (Runs.loadB rfl rfl Try.underlying9 rfl k1 rfl) rfl rfl rfl ?_
    refine Seq.val (Runs.lenL rfl rfl Try.underlying9) rfl rfl rfl ?_
    refine Seq.val (Runs.neqI rfl rfl rfl) rfl rfl rfl ?_
    refine Seq.val (Runs.move rfl rfl) rfl rfl rfl ?_
    refine SeqC.start ?_
    refine SeqC.open rfl rfl rfl rfl rfl rfl rfl (fun hcx => Runs.loadB rfl rfl Try.underlying9 rfl k1 rfl) ?_
    refine SeqC.next rfl rfl rfl rfl rfl rfl rfl (fun hcx => Runs.indexL (l := l) (j := 4) rfl rfl rfl Try.underlying9 rfl h4 hc4) ?_
    refine SeqC.next rfl rfl rfl rfl rfl rfl rfl (fun hcx => Runs.neqI rfl rfl rfl) ?_
    refine SeqC.or rfl rfl rfl rfl rfl rfl rfl ?_
    refine Seq.val (Runs.move rfl rfl) rfl rfl rfl ?_
    refine SeqC.start ?_
    refine SeqC.open rfl rfl rfl rfl rfl rfl rfl (fun hcx => Runs.loadB rfl rfl Try.underlying9 rfl k1 rfl) ?_
    refine SeqC.next rfl rfl rfl rfl rfl rfl rfl (fun hcx => Runs.indexL (l := l) (j := 7) rfl rfl rfl Try.underlying9 rfl h7 hc7) ?_
    refine SeqC.next rfl rfl rfl rfl rfl rfl rfl (fun hcx => Runs.neqI rfl rfl rfl) ?_
    refine SeqC.or rfl rfl rfl rfl rfl rfl rfl ?_
    refine Seq.nil ?_
    refine Post.weak (F' := [(0, _), (1, _), (2, _), (3, _), (17, _)]) ⟨rfl, rfl, rfl, rfl, rfl, trivial⟩ ?_
    refine Post.then_ ?_
    refine Cd.cond rfl (fun h => ?_) (fun h => ?_)
    · have hf : dateOk l = false := by
        rw [Bool.eq_false_iff]
        intro h2
        unfold dateOk at h2
        rw [h4, h7] at h2
        simp at h2 h
        omega
      have hz : dateZ l = 0 := by unfold dateZ; rw [hf]; rfl
      rw [hf, hz]
      refine Cd.seq ?_
      refine Cd.region ?_
      refine Seq.val (Runs.assign rfl rfl) rfl rfl rfl ?_
      refine Seq.val (Runs.assign rfl rfl) rfl rfl rfl ?_
      refine Seq.nil ?_
      refine Post.weak (F' := [(0, _), (1, _), (2, _), (3, _), (17, _)]) ⟨rfl, rfl, rfl, rfl, rfl, trivial⟩ ?_
      refine Post.then_ ?_
      refine Cd.ret ?_
      refine Post.then_ret ?_
      refine Post.end2 rfl rfl rfl (.inl rfl) ?_
      exact ⟨rfl, bel⟩
    · have h45 : c4 = 45 ∧ c7 = 45 := by simp at h; omega
      have hok : dateOk l = ofOk (numZ ((l.take 4).drop 0)) (numZ ((l.take 7).drop 5)) (numZ ((l.take 10).drop 8)) := by
        unfold dateOk
        rw [h4, h7, h45.1, h45.2, h10]
        simp
      unfold dateZ
      rw [hok]
      have d1 := numZ_bd ((l.take 4).drop 0) (by rw [List.length_drop, List.length_take]; omega)
      have d2 := numZ_bd2 ((l.take 7).drop 5) (by rw [List.length_drop, List.length_take]; omega)
      have d3 := numZ_bd2 ((l.take 10).drop 8) (by rw [List.length_drop, List.length_take]; omega)
      have p1 := fun w (k1 : Blk w g1 9 #[.string (strOf l)]) => datePart_any g1 l 0 4 w hl k1 (by omega) (by omega) (by omega)
      have p2 := fun w (k1 : Blk w g1 9 #[.string (strOf l)]) => datePart_any g1 l 5 7 w hl k1 (by omega) (by omega) (by omega)
      have p3 := fun w (k1 : Blk w g1 9 #[.string (strOf l)]) => datePart_any g1 l 8 10 w hl k1 (by omega) (by omega) (by omega)
      generalize numZ ((l.take 4).drop 0) = y at *
      generalize numZ ((l.take 7).drop 5) = m at *
      generalize numZ ((l.take 10).drop 8) = d at *
      refine Cd.skip ?_
      refine Post.then_ ?_
      refine Cd.seq ?_
      refine Cd.region ?_
      refine Seq.val (Runs.makeFunc rfl (show evL _ _ = some [] from rfl) (show evL _ _ = some [.pointer (some ⟨g1, 0, none⟩)] from rfl) rfl) rfl rfl rfl ?_
      refine Seq.val (Runs.assign rfl rfl) rfl rfl rfl ?_
      refine Seq.nil ?_
      refine Post.weak (F' := [(0, _), (1, _), (2, _), (3, _), (4, _), (17, _)]) ⟨rfl, rfl, rfl, rfl, rfl, rfl, trivial⟩ ?_
      refine Post.then_ ?_
      refine Cd.seq ?_
      refine Cd.region ?_
      refine Seq.val (Runs.move rfl rfl) rfl rfl rfl ?_
      refine Seq.call (Enters.value (first := []) (cap := [.pointer (some ⟨g1, 0, none⟩)]) rfl rfl rfl eg_datePart) rfl rfl rfl (p1 _ k1) ?_
      rintro e w5 ⟨rfl, hb5⟩
      refine ⟨_, rfl, ?_⟩
      replace bel := bel.step hb5
      replace k1 := k1.step hb5
      refine Seq.val (Runs.move rfl rfl) rfl rfl rfl ?_
      refine Seq.call (Enters.value (first := []) (cap := [.pointer (some ⟨g1, 0, none⟩)]) rfl rfl rfl eg_datePart) rfl rfl rfl (p2 _ k1) ?_
      rintro e w6 ⟨rfl, hb6⟩
      refine ⟨_, rfl, ?_⟩
      replace bel := bel.step hb6
      replace k1 := k1.step hb6
      refine Seq.val (Runs.move rfl rfl) rfl rfl rfl ?_
      refine Seq.call (Enters.value (first := []) (cap := [.pointer (some ⟨g1, 0, none⟩)]) rfl rfl rfl eg_datePart) rfl rfl rfl (p3 _ k1) ?_
      rintro e w7 ⟨rfl, hb7⟩
      refine ⟨_, rfl, ?_⟩
      replace bel := bel.step hb7
      replace k1 := k1.step hb7
      refine Seq.call (Enters.func rfl rfl rfl (run_enter Try.func160 (by kernel_rfl) rfl)) rfl rfl rfl (dateOf_any y m d _ (by unfold I64; omega) (by omega) (by unfold I64; omega)) ?_
      rintro e w8 ⟨rfl, hb8⟩
      refine ⟨_, rfl, ?_⟩
      replace bel := bel.step hb8
      replace k1 := k1.step hb8
      refine Seq.val (Runs.extract rfl rfl rfl) rfl rfl rfl ?_
      refine Seq.val (Runs.extract rfl rfl rfl) rfl rfl rfl ?_
      refine Seq.val (Runs.assign rfl rfl) rfl rfl rfl ?_
      refine Seq.val (Runs.assign rfl rfl) rfl rfl rfl ?_
      refine Seq.nil ?_
      refine Post.weak (F' := [(0, _), (1, _), (2, _), (3, _), (4, _), (17, _)]) ⟨rfl, rfl, rfl, rfl, rfl, rfl, trivial⟩ ?_
      refine Post.then_ ?_
      refine Cd.ret ?_
      refine Post.end2 rfl rfl rfl (.inl rfl) ?_
      exact ⟨rfl, bel⟩
  · have hf : dateOk l = false := by
      rw [Bool.eq_false_iff]
      intro h2
      unfold dateOk at h2
      simp [h10] at h2
    have hz : dateZ l = 0 := by unfold dateZ; rw [hf]; rfl
    rw [hf, hz]
    refine Calls.start 28 Try.func136 rfl rfl rfl ?_
    refine Cd.seq ?_
    refine Cd.region ?_
    refine Seq.box rfl rfl rfl rfl rfl ?_
    intro g1 w1 n1
    have e1 := Nat.le_trans bel.size n1.ge
    replace bel := bel.step n1.below
    have k1 := n1.blk
    refine Seq.val (Runs.assign rfl rfl) rfl rfl rfl ?_
    refine Seq.val (Runs.assign rfl rfl) rfl rfl rfl ?_
    refine Seq.nil ?_
    refine Post.weak (F' := [(0, _), (1, _), (2, _), (3, _)]) ⟨rfl, rfl, rfl, rfl, trivial⟩ ?_
    refine Post.then_ ?_
    refine Cd.seq ?_
    refine Cd.seq ?_
    refine Cd.region ?_
    refine Seq.val (Runs.loadB rfl rfl Try.underlying9 rfl k1 rfl) rfl rfl rfl ?_
    refine Seq.val (Runs.lenL rfl rfl Try.underlying9) rfl rfl rfl ?_
    refine Seq.val (Runs.neqI rfl rfl rfl) rfl rfl rfl ?_
    refine Seq.val (Runs.move rfl rfl) rfl rfl rfl ?_
    refine SeqC.start ?_
    refine SeqC.open rfl rfl rfl rfl rfl rfl rfl (fun hcx => Runs.loadB rfl rfl Try.underlying9 rfl k1 rfl) ?_
    refine SeqC.next rfl rfl rfl rfl rfl rfl rfl (fun hcx => (by exfalso; first | (simp [topX] at hcx; omega) | simp [topX] at hcx : Runs _ _ _ _ (.int .u8 0) _)) ?_
    refine SeqC.next rfl rfl rfl rfl rfl rfl rfl (fun hcx => Runs.neqI rfl rfl rfl) ?_
    refine SeqC.or rfl rfl rfl rfl rfl rfl rfl ?_
    refine Seq.val (Runs.move rfl rfl) rfl rfl rfl ?_
    refine SeqC.start ?_
    refine SeqC.open rfl rfl rfl rfl rfl rfl rfl (fun hcx => Runs.loadB rfl rfl Try.underlying9 rfl k1 rfl) ?_
    refine SeqC.next rfl rfl rfl rfl rfl rfl rfl (fun hcx => (by exfalso; first | (simp [topX] at hcx; omega) | simp [topX] at hcx : Runs _ _ _ _ (.int .u8 0) _)) ?_
    refine SeqC.next rfl rfl rfl rfl rfl rfl rfl (fun hcx => Runs.neqI rfl rfl rfl) ?_
    refine SeqC.or rfl rfl rfl rfl rfl rfl rfl ?_
    refine Seq.nil ?_
    refine Post.weak (F' := [(0, _), (1, _), (2, _), (3, _), (17, _)]) ⟨rfl, rfl, rfl, rfl, rfl, trivial⟩ ?_
    refine Post.then_ ?_
    refine Cd.condT rfl (by first | (simp; omega) | simp) ?_
    refine Cd.seq ?_
    refine Cd.region ?_
    refine Seq.val (Runs.assign rfl rfl) rfl rfl rfl ?_
    refine Seq.val (Runs.assign rfl rfl) rfl rfl rfl ?_
    refine Seq.nil ?_
    refine Post.weak (F' := [(0, _), (1, _), (2, _), (3, _), (17, _)]) ⟨rfl, rfl, rfl, rfl, rfl, trivial⟩ ?_
    refine Post.then_ ?_
    refine Cd.ret ?_
    refine Post.then_ret ?_
    refine Post.end2 rfl rfl rfl (.inl rfl) ?_
    exact ⟨rfl, bel⟩
end Go.Proofs.Ytijaldpmpjapiaa

namespace Go.Proofs.Ytijaldpmpjapiaa
open Go.RowKit

theorem zero_string : zeroIs Try.prog 9 = some (some (.string { data := #[] })) := by kernel_rfl
theorem zero_lex_Word : zeroIs Try.prog 50 = some (some (.agg #[.int .i64 0, .string { data := #[] }, .int .i64 0, .int .i64 0])) := by kernel_rfl
theorem run_build_Word3 (a c : Int) (s : ByteArray) (w : World) : (Instr.build 50 #[(0, .int .i64 a), (1, .string s), (2, .int .i64 c)]).run Try.prog w = .ok (.agg #[.int .i64 a, .string s, .int .i64 c, .int .i64 0]) w := by
  have hu := Try.underlying50
  go_simp
theorem run_build_Word2 (a : Int) (s : ByteArray) (w : World) : (Instr.build 50 #[(0, .int .i64 a), (1, .string s)]).run Try.prog w = .ok (.agg #[.int .i64 a, .string s, .int .i64 0, .int .i64 0]) w := by
  have hu := Try.underlying50
  go_simp
theorem run_build_Word0 (w : World) : (Instr.build 50 #[]).run Try.prog w = .ok (.agg #[.int .i64 0, .string { data := #[] }, .int .i64 0, .int .i64 0]) w := by
  have hu := Try.underlying50
  go_simp
theorem hasPrefixL_lite (l p : List Nat) (w : World) (hl : ∀ x ∈ l, x < 256) (hp : ∀ x ∈ p, x < 256) :
    Calls Try.prog 138 #[.string (strOf l), .string (strOf p)] w fun e w' => e = .returned (.bool (decide (l.take p.length = p))) ∧ w = w' := by
  have h2 : ∀ x ∈ l.take p.length, x < 256 := fun x hx => hl x (List.mem_of_mem_take hx)
  refine Calls.start 18 Try.func138 rfl rfl rfl ?_
  refine Cd.seq ?_
  refine Cd.region ?_
  refine Seq.val (Runs.assign rfl rfl) rfl rfl rfl ?_
  refine Seq.nil ?_
  refine Post.weak (F' := [(0, _), (1, _), (4, _)]) ⟨rfl, rfl, rfl, trivial⟩ ?_
  refine Post.then_ ?_
  refine Cd.seq ?_
  refine Cd.region ?_
  refine Seq.val (Runs.move rfl rfl) rfl rfl rfl ?_
  refine Seq.val (Runs.lenL rfl rfl Try.underlying9) rfl rfl rfl ?_
  refine Seq.val (Runs.move rfl rfl) rfl rfl rfl ?_
  refine Seq.val (Runs.lenL rfl rfl Try.underlying9) rfl rfl rfl ?_
  refine Seq.val (Runs.geq rfl rfl rfl) rfl rfl rfl ?_
  refine Seq.val (Runs.move rfl rfl) rfl rfl rfl ?_
  refine SeqC.start ?_
  refine SeqC.open rfl rfl rfl rfl rfl rfl rfl (fun hcx => Runs.move rfl rfl) ?_
  refine SeqC.next rfl rfl rfl rfl rfl rfl rfl (fun hcx => Runs.move rfl rfl) ?_
  refine SeqC.next rfl rfl rfl rfl rfl rfl rfl (fun hcx => Runs.lenL rfl rfl Try.underlying9) ?_
  refine SeqC.next rfl rfl rfl rfl rfl rfl rfl (fun hcx => Runs.sliceTo (j := p.length) rfl rfl rfl Try.underlying9 rfl (by simp [topX] at hcx; omega)) ?_
  refine SeqC.next rfl rfl rfl rfl rfl rfl rfl (fun hcx => Runs.move rfl rfl) ?_
  refine SeqC.next rfl rfl rfl rfl rfl rfl rfl (fun hcx => Runs.eqlL (a := l.take p.length) (b := p) rfl rfl rfl h2 hp) ?_
  refine SeqC.and rfl rfl rfl rfl rfl rfl rfl ?_
  refine Seq.val (Runs.assign rfl rfl) rfl rfl rfl ?_
  refine Seq.nil ?_
  refine Post.weak (F' := [(0, _), (1, _), (4, _)]) ⟨rfl, rfl, rfl, trivial⟩ ?_
  refine Post.then_ ?_
  refine Cd.ret ?_
  refine Post.end1 rfl rfl (.inl rfl) ?_
  refine ⟨ret1 (bool_eq ?_), rfl⟩
  rw [Bool.eq_iff_iff]
  simp
  intro h
  have := congrArg List.length h
  rw [List.length_take] at this
  omega
theorem hasPrefixL_any (l p : List Nat) (w : World) (hl : ∀ x ∈ l, x < 256) (hp : ∀ x ∈ p, x < 256) :
    Calls Try.prog 93 #[.string (strOf l), .string (strOf p)] w fun e w' => e = .returned (.bool (decide (l.take p.length = p))) ∧ w = w' := by
  refine Calls.start 8 Try.func93 rfl rfl rfl ?_
  refine Cd.seq ?_
  refine Cd.region ?_
  refine Seq.val (Runs.assign rfl rfl) rfl rfl rfl ?_
  refine Seq.nil ?_
  refine Post.weak (F' := [(0, _), (1, _), (4, _)]) ⟨rfl, rfl, rfl, trivial⟩ ?_
  refine Post.then_ ?_
  refine Cd.seq ?_
  refine Cd.region ?_
  refine Seq.val (Runs.move rfl rfl) rfl rfl rfl ?_
  refine Seq.val (Runs.move rfl rfl) rfl rfl rfl ?_
  refine Seq.call (Enters.func rfl rfl rfl (run_enter Try.func138 (by kernel_rfl) rfl)) rfl rfl rfl (hasPrefixL_lite l p _ hl hp) ?_
  rintro e w2 ⟨rfl, rfl⟩
  refine ⟨_, rfl, ?_⟩
  refine Seq.val (Runs.assign rfl rfl) rfl rfl rfl ?_
  refine Seq.nil ?_
  refine Post.weak (F' := [(0, _), (1, _), (4, _)]) ⟨rfl, rfl, rfl, trivial⟩ ?_
  refine Post.then_ ?_
  refine Cd.ret ?_
  refine Post.end1 rfl rfl (.inl rfl) ?_
  exact ⟨rfl, rfl⟩
def signsL : List (List Nat) := [[60, 61], [33, 61], [62, 61], [40], [41], [44], [43], [45], [42], [47], [60], [61], [62], [38], [124], [33]]
def strV (L : List (List Nat)) : List Value := L.map fun s => .string (strOf s)
theorem signs_any (w : World) : Calls Try.prog 92 #[] w fun e w' => ∃ g, e = .returned (.slice (some ⟨g, 0, none⟩) 16 16) ∧ Blk w' g 9 (strV signsL).toArray ∧ Grow w w' := by
  have bel := Below.refl w.heap.size w
  refine Calls.start 2 Try.func92 rfl rfl rfl ?_
  refine Cd.seq ?_
  refine Cd.region ?_
  refine Seq.val (Runs.assign rfl rfl) rfl rfl rfl ?_
  refine Seq.nil ?_
  refine Post.weak (F' := [(0, _)]) ⟨rfl, trivial⟩ ?_
  refine Post.then_ ?_
  refine Cd.seq ?_
  refine Cd.region ?_
  refine Seq.slice (vs := [_, _, _, _, _, _, _, _, _, _, _, _, _, _, _, _]) (s := 1) rfl rfl rfl Try.underlying85 (by kernel_rfl) (zero_string) (by omega) (by omega) ⟨rfl, rfl, rfl, rfl, rfl, rfl, rfl, rfl, rfl, rfl, rfl, rfl, rfl, rfl, rfl, rfl, trivial⟩ rfl rfl rfl ?_
  intro g1 w1 n1
  have e1 := Nat.le_trans bel.size n1.ge
  replace bel := bel.step n1.below
  have k1 := n1.blk
  refine Seq.val (Runs.assign rfl rfl) rfl rfl rfl ?_
  refine Seq.nil ?_
  refine Post.weak (F' := [(0, _)]) ⟨rfl, trivial⟩ ?_
  refine Post.then_ ?_
  refine Cd.ret ?_
  refine Post.end1 rfl rfl (.inl rfl) ?_
  exact ⟨_, rfl, k1, bel⟩
def signW (l : List Nat) : Option (List Nat) := signsL.find? fun s => decide (l.take s.length = s)
/-- The number of a text that begins with a digit. -/
def amt0 (t : List Nat) : Option Int := if t.all digB = true ∧ (1 < t.length → t[0]? ≠ some 48) ∧ valD t ≤ 9223372036854775807 then some (valD t : Int) else none
theorem all_dg {t : List Nat} : t.all digB = true ↔ ∀ c ∈ t, isDg c := by
  rw [List.all_eq_true]
  constructor
  · intro h c hc
    have := h c hc
    unfold digB at this
    simp at this
    exact this
  · intro h c hc
    have := h c hc
    unfold isDg at this
    unfold digB
    simp
    omega
theorem amt0_of {t : List Nat} {v : Int} {ok : Bool} (h : AmtA t 0 v ok) (c : Nat) (r : List Nat) (ht : t = c :: r) (hc : digB c = true) : amt0 t = if ok then some v else none := by
  have hc2 : 48 ≤ c ∧ c ≤ 57 := by unfold digB at hc; simp at hc; exact hc
  cases ok with
  | true =>
    obtain ⟨-, -, hv, F, B, hf⟩ := h.1 rfl
    have h0 := hf.len
    have hB : B = [] := List.eq_nil_of_length_eq_zero (by simpa using h0)
    subst hB
    have he := hf.eq
    unfold FormL at he
    rw [if_neg (show ¬ 0 < (0 : Int).toNat by decide), List.append_nil] at he
    have hneg : ¬ v < 0 := by
      intro hn
      rw [if_pos hn, ht] at he
      injection he with he
      omega
    rw [if_neg hneg] at he
    have he2 : t = F := he
    subst he2
    have hval := hf.val
    rw [List.append_nil] at hval
    have hcond : t.all digB = true ∧ (1 < t.length → t[0]? ≠ some 48) ∧ valD t ≤ 9223372036854775807 := ⟨all_dg.2 hf.f, hf.lead, by unfold I64 at hv; omega⟩
    unfold amt0
    rw [if_pos hcond, if_pos rfl, hval]
    congr 1
    omega
  | false =>
    obtain ⟨-, hno⟩ := h.2 rfl
    unfold amt0
    rw [if_neg]
    · rfl
    · rintro ⟨h1, h2, h3⟩
      refine hno (by omega) (by omega) (valD t : Int) (by unfold I64; omega) t [] ⟨all_dg.1 h1, by simp, by simp, by rw [ht]; simp, h2, by rw [List.append_nil]; omega, ?_⟩
      unfold FormL
      rw [if_neg (show ¬ (valD t : Int) < 0 by omega), if_neg (show ¬ 0 < (0 : Int).toNat by decide), List.append_nil]
      rfl
def dayOk (l : List Nat) : Bool := decide (10 ≤ l.length) && !(decide (10 < l.length) && partB (l.getD 10 0)) && dateOk (l.take 10)
theorem day_any (l : List Nat) (w : World) (hl : ∀ x ∈ l, x < 256) (hlen : l.length ≤ 9223372036854775807) :
    Calls Try.prog 90 #[.string (strOf l)] w fun e w' => ∃ a b c, e = .returned (.tuple #[.agg #[.int .i64 a, .string (strOf b), .int .i64 c, .int .i64 0], .bool (dayOk l)]) ∧ (dayOk l = true → a = 2 ∧ b = l.take 10 ∧ c = dateZ (l.take 10)) ∧ Grow w w' := by
  have bel := Below.refl w.heap.size w
  have h0 : 10 < l.length → l[10]? = some (l.getD 10 0) := by
    intro h
    rw [List.getD_eq_getElem?_getD, List.getElem?_eq_getElem h]; rfl
  have h1 : l.getD 10 0 < 256 := by
    rw [List.getD_eq_getElem?_getD]
    cases hh : l[10]? with
    | none => simp
    | some c => exact hl c (List.mem_of_getElem? hh)
  unfold dayOk
  generalize l.getD 10 0 = c0 at *
  refine Calls.start 31 Try.func90 rfl rfl rfl ?_
  refine Cd.seq ?_
  refine Cd.region ?_
  refine Seq.alloc rfl (run_zero zero_lex_Word) rfl rfl rfl ?_
  intro g2 w1 n2
  have e2 := Nat.le_trans bel.size n2.ge
  replace bel := bel.step n2.below
  have k2 := n2.blk
  refine Seq.val (Runs.assign rfl rfl) rfl rfl rfl ?_
  refine Seq.nil ?_
  refine Post.weak (F' := [(0, _), (2, _), (3, _)]) ⟨rfl, rfl, rfl, trivial⟩ ?_
  refine Post.then_ ?_
  refine Cd.seq ?_
  refine Cd.seq ?_
  refine Cd.region ?_
  refine Seq.val (Runs.move rfl rfl) rfl rfl rfl ?_
  refine Seq.val (Runs.lenL rfl rfl Try.underlying9) rfl rfl rfl ?_
  refine Seq.val (Runs.lss rfl rfl rfl) rfl rfl rfl ?_
  refine Seq.val (Runs.move rfl rfl) rfl rfl rfl ?_
  refine SeqC.start ?_
  refine SeqC.open rfl rfl rfl rfl rfl rfl rfl (fun hcx => Runs.move rfl rfl) ?_
  refine SeqC.next rfl rfl rfl rfl rfl rfl rfl (fun hcx => Runs.lenL rfl rfl Try.underlying9) ?_
  refine SeqC.next rfl rfl rfl rfl rfl rfl rfl (fun hcx => Runs.gtr rfl rfl rfl) ?_
  refine SeqC.next rfl rfl rfl rfl rfl rfl rfl (fun hcx => Runs.move rfl rfl) ?_
  refine SeqC.open rfl rfl rfl rfl rfl rfl rfl (fun hcx => Runs.move rfl rfl) ?_
  refine SeqC.next rfl rfl rfl rfl rfl rfl rfl (fun hcx => Runs.indexL (l := l) (j := 10) (c := c0) rfl rfl rfl Try.underlying9 rfl (h0 (by simp [topX] at hcx; omega)) h1) ?_
  refine SeqC.nextC rfl rfl rfl rfl rfl rfl rfl (fun hcx => Enters.func rfl rfl rfl (run_enter Try.func57 (by kernel_rfl) rfl)) (fun hcx => part_any _ _) ?_
  intro w2 hw2
  replace bel := bel.step hw2
  replace k2 := k2.step hw2
  refine SeqC.andG rfl rfl rfl rfl rfl rfl rfl rfl rfl rfl rfl ?_
  refine SeqC.or rfl rfl rfl rfl rfl rfl rfl ?_
  refine Seq.nil ?_
  refine Post.weak (F' := [(0, _), (2, _), (3, _), (18, _)]) ⟨rfl, rfl, rfl, rfl, trivial⟩ ?_
  refine Post.then_ ?_
  refine Cd.cond rfl (fun h => ?_) (fun h => ?_)
  · have hf : (decide (10 ≤ l.length) && !(decide (10 < l.length) && partB c0)) = false := by
      cases hp : partB c0 with
      | false => rw [hp] at h; simp at h ⊢; omega
      | true => rw [hp] at h; simp at h ⊢; omega
    rw [hf]
    refine Cd.seq ?_
    refine Cd.region ?_
    refine Seq.val (Runs.build rfl rfl (run_build_Word0 _)) rfl rfl rfl ?_
    refine Seq.storeN rfl rfl rfl rfl (m := 4) (by kernel_rfl) rfl (by repeat' first | exact trivial | apply And.intro | rfl | assumption) k2 (by simp [Value.cells]) rfl rfl ?_
    intro w3 pw3
    replace bel := bel.put k2 pw3 e2
    replace k2 := pw3.blk
    refine Seq.val (Runs.assign rfl rfl) rfl rfl rfl ?_
    refine Seq.nil ?_
    refine Post.weak (F' := [(0, _), (2, _), (3, _), (18, _)]) ⟨rfl, rfl, rfl, rfl, trivial⟩ ?_
    refine Post.then_ ?_
    refine Cd.ret ?_
    refine Post.then_ret ?_
    refine Post.endC2 rfl rfl rfl k2 Try.underlying50 rfl (m := 4) (by kernel_rfl) rfl (.inl rfl) ?_
    exact ⟨0, [], 0, rfl, (fun h => by cases h), bel⟩
  · have hf : (decide (10 ≤ l.length) && !(decide (10 < l.length) && partB c0)) = true := by
      cases hp : partB c0 with
      | false => rw [hp] at h; simp at h ⊢; omega
      | true => rw [hp] at h; simp at h ⊢; omega
    have h10 : 10 ≤ l.length := by simp at hf; exact hf.1
    rw [hf, Bool.true_and]
    refine Cd.skip ?_
    refine Post.then_ ?_
    refine Cd.seq ?_
    refine Cd.region ?_
    refine Seq.val (Runs.move rfl rfl) rfl rfl rfl ?_
    refine Seq.val (Runs.sliceTo (j := 10) rfl rfl rfl Try.underlying9 rfl h10) rfl rfl rfl ?_
    refine Seq.call (Enters.func rfl rfl rfl (run_enter Try.func136 (by kernel_rfl) rfl)) rfl rfl rfl (dateParse_any (l.take 10) _ (take_lt hl 10) (by rw [List.length_take]; omega)) ?_
    rintro e w5 ⟨rfl, hb5⟩
    refine ⟨_, rfl, ?_⟩
    replace bel := bel.step hb5
    replace k2 := k2.step hb5
    refine Seq.val (Runs.move rfl rfl) rfl rfl rfl ?_
    refine Seq.val (Runs.extract rfl rfl rfl) rfl rfl rfl ?_
    refine Seq.val (Runs.extract rfl rfl rfl) rfl rfl rfl ?_
    refine Seq.val (Runs.assign rfl rfl) rfl rfl rfl ?_
    refine Seq.val (Runs.assign rfl rfl) rfl rfl rfl ?_
    refine Seq.nil ?_
    refine Post.weak (F' := [(0, _), (2, _), (3, _), (4, _), (5, _), (18, _)]) ⟨rfl, rfl, rfl, rfl, rfl, rfl, trivial⟩ ?_
    refine Post.then_ ?_
    refine Cd.seq ?_
    refine Cd.region ?_
    refine Seq.val (Runs.move rfl rfl) rfl rfl rfl ?_
    refine Seq.val (Runs.sliceTo (j := 10) rfl rfl rfl Try.underlying9 rfl h10) rfl rfl rfl ?_
    refine Seq.val (Runs.move rfl rfl) rfl rfl rfl ?_
    refine Seq.val (Runs.build rfl rfl (run_build_Word3 _ _ _ _)) rfl rfl rfl ?_
    refine Seq.val (Runs.move rfl rfl) rfl rfl rfl ?_
    refine Seq.storeN rfl rfl rfl rfl (m := 4) (by kernel_rfl) rfl (by repeat' first | exact trivial | apply And.intro | rfl | assumption) k2 (by simp [Value.cells]) rfl rfl ?_
    intro w3 pw3
    replace bel := bel.put k2 pw3 e2
    replace k2 := pw3.blk
    refine Seq.val (Runs.assign rfl rfl) rfl rfl rfl ?_
    refine Seq.nil ?_
    refine Post.weak (F' := [(0, _), (2, _), (3, _), (4, _), (5, _), (18, _)]) ⟨rfl, rfl, rfl, rfl, rfl, rfl, trivial⟩ ?_
    refine Post.then_ ?_
    refine Cd.ret ?_
    refine Post.endC2 rfl rfl rfl k2 Try.underlying50 rfl (m := 4) (by kernel_rfl) rfl (.inl rfl) ?_
    exact ⟨2, l.take 10, dateZ (l.take 10), rfl, fun _ => ⟨rfl, rfl, rfl⟩, bel⟩
theorem number_any (l : List Nat) (w : World) (hl : ∀ x ∈ l, x < 256) (hlen : l.length ≤ 9223372036854775807) :
    Calls Try.prog 91 #[.string (strOf l)] w fun e w' => ∃ v ok, e = .returned (.tuple #[.agg #[.int .i64 1, .string (strOf (l.take (runN partB l))), .int .i64 v, .int .i64 0], .bool ok]) ∧ AmtA (l.take (runN partB l)) 0 v ok ∧ Grow w w' := by
  have bel := Below.refl w.heap.size w
  have hr := runN_le partB l
  refine Calls.start 22 Try.func91 rfl rfl rfl ?_
  refine Cd.seq ?_
  refine Cd.region ?_
  refine Seq.alloc rfl (run_zero zero_lex_Word) rfl rfl rfl ?_
  intro g2 w1 n2
  have e2 := Nat.le_trans bel.size n2.ge
  replace bel := bel.step n2.below
  have k2 := n2.blk
  refine Seq.val (Runs.assign rfl rfl) rfl rfl rfl ?_
  refine Seq.nil ?_
  refine Post.weak (F' := [(0, _), (2, _), (3, _)]) ⟨rfl, rfl, rfl, trivial⟩ ?_
  refine Post.then_ ?_
  refine Cd.seq ?_
  refine Cd.region ?_
  refine Seq.val (Runs.move rfl rfl) rfl rfl rfl ?_
  refine Seq.call (Enters.func rfl rfl rfl (run_enter Try.func56 (by kernel_rfl) rfl)) rfl rfl rfl (run_part l _ hl hlen) ?_
  rintro e w2 ⟨rfl, hb2⟩
  refine ⟨_, rfl, ?_⟩
  replace bel := bel.step hb2
  replace k2 := k2.step hb2
  generalize runN partB l = n at *
  refine Seq.val (Runs.assign rfl rfl) rfl rfl rfl ?_
  refine Seq.nil ?_
  refine Post.weak (F' := [(0, _), (2, _), (3, _), (4, _)]) ⟨rfl, rfl, rfl, rfl, trivial⟩ ?_
  refine Post.then_ ?_
  refine Cd.seq ?_
  refine Cd.region ?_
  refine Seq.val (Runs.move rfl rfl) rfl rfl rfl ?_
  refine Seq.val (Runs.move rfl rfl) rfl rfl rfl ?_
  refine Seq.val (Runs.sliceTo (j := n) rfl rfl rfl Try.underlying9 rfl hr) rfl rfl rfl ?_
  refine Seq.call (Enters.func rfl rfl rfl (run_enter Try.func137 (by kernel_rfl) rfl)) rfl rfl rfl (amount_any (l.take n) 0 _ (take_lt hl n) (by rw [List.length_take]; omega) (by unfold I64; omega)) ?_
  rintro e w3 ⟨v, ok, rfl, ha, hb3⟩
  refine ⟨_, rfl, ?_⟩
  replace bel := bel.step hb3
  replace k2 := k2.step hb3
  refine Seq.val (Runs.move rfl rfl) rfl rfl rfl ?_
  refine Seq.val (Runs.extract rfl rfl rfl) rfl rfl rfl ?_
  refine Seq.val (Runs.extract rfl rfl rfl) rfl rfl rfl ?_
  refine Seq.val (Runs.assign rfl rfl) rfl rfl rfl ?_
  refine Seq.val (Runs.assign rfl rfl) rfl rfl rfl ?_
  refine Seq.nil ?_
  refine Post.weak (F' := [(0, _), (2, _), (3, _), (4, _), (5, _), (6, _)]) ⟨rfl, rfl, rfl, rfl, rfl, rfl, trivial⟩ ?_
  refine Post.then_ ?_
  refine Cd.seq ?_
  refine Cd.region ?_
  refine Seq.val (Runs.move rfl rfl) rfl rfl rfl ?_
  refine Seq.val (Runs.move rfl rfl) rfl rfl rfl ?_
  refine Seq.val (Runs.sliceTo (j := n) rfl rfl rfl Try.underlying9 rfl hr) rfl rfl rfl ?_
  refine Seq.val (Runs.move rfl rfl) rfl rfl rfl ?_
  refine Seq.val (Runs.build rfl rfl (run_build_Word3 _ _ _ _)) rfl rfl rfl ?_
  refine Seq.val (Runs.move rfl rfl) rfl rfl rfl ?_
  refine Seq.storeN rfl rfl rfl rfl (m := 4) (by kernel_rfl) rfl (by repeat' first | exact trivial | apply And.intro | rfl | assumption) k2 (by simp [Value.cells]) rfl rfl ?_
  intro w2 pw2
  replace bel := bel.put k2 pw2 e2
  replace k2 := pw2.blk
  refine Seq.val (Runs.assign rfl rfl) rfl rfl rfl ?_
  refine Seq.nil ?_
  refine Post.weak (F' := [(0, _), (2, _), (3, _), (4, _), (5, _), (6, _)]) ⟨rfl, rfl, rfl, rfl, rfl, rfl, trivial⟩ ?_
  refine Post.then_ ?_
  refine Cd.ret ?_
  refine Post.endC2 rfl rfl rfl k2 Try.underlying50 rfl (m := 4) (by kernel_rfl) rfl (.inl rfl) ?_
  exact ⟨v, ok, rfl, ha, bel⟩
end Go.Proofs.Ytijaldpmpjapiaa

namespace Go.Proofs.Ytijaldpmpjapiaa
open Go.RowKit

/-- The word with which a text begins: its kind, text and number. -/
def nextW (l : List Nat) : Option (Int × List Nat × Int) := match l with
  | [] => none
  | c :: r => if digB c then (if dayOk (c :: r) then some (2, (c :: r).take 10, dateZ ((c :: r).take 10)) else (amt0 ((c :: r).take (runN partB (c :: r)))).map fun v => (1, (c :: r).take (runN partB (c :: r)), v))
    else if letB c then (if runN partB (c :: r) ≤ 16 then some (3, (c :: r).take (runN partB (c :: r)), 0) else none)
    else (signW (c :: r)).map fun s => (0, s, 0)
theorem find_at {α : Type} (p : α → Bool) : ∀ (L : List α) (k : Nat) (s : α), (∀ j s', j < k → L[j]? = some s' → p s' = false) → L[k]? = some s → p s = true → L.find? p = some s
  | [], k, s, _, h, _ => by simp at h
  | x :: L, 0, s, _, h, hp => by simp at h; subst h; simp [hp]
  | x :: L, k + 1, s, hn, h, hp => by
    have h0 := hn 0 x (by omega) (by simp)
    rw [List.find?_cons, h0]
    exact find_at p L k s (fun j s' hj hs => hn (j + 1) s' (by omega) (by simpa using hs)) (by simpa using h) hp
theorem find_no {α : Type} (p : α → Bool) (L : List α) (h : ∀ (j : Nat) (s' : α), L[j]? = some s' → p s' = false) : L.find? p = none := by
  rw [List.find?_eq_none]
  intro x hx
  obtain ⟨j, hj, rfl⟩ := List.getElem_of_mem hx
  rw [h j _ (List.getElem?_eq_getElem hj)]
  simp
theorem signs_lt : ∀ s ∈ signsL, ∀ x ∈ s, x < 256 := by decide
theorem next_any (l : List Nat) (w : World) (hl : ∀ x ∈ l, x < 256) (hlen : l.length ≤ 9223372036854775807) (hne : l ≠ []) :
    Calls Try.prog 51 #[.string (strOf l)] w fun e w' => ∃ a b c ok, e = .returned (.tuple #[.agg #[.int .i64 a, .string (strOf b), .int .i64 c, .int .i64 0], .bool ok]) ∧ nextW l = (if ok then some (a, b, c) else none) ∧ Grow w w' := by
  have bel := Below.refl w.heap.size w
  obtain ⟨c0, r, hcr⟩ : ∃ c r, l = c :: r := by
    cases l with
    | nil => exact absurd rfl hne
    | cons c r => exact ⟨c, r, rfl⟩
  have h0 : l[0]? = some c0 := by rw [hcr]; rfl
  have hc256 := hl c0 (List.mem_of_getElem? h0)
  have hnw : nextW l = if digB c0 then (if dayOk l then some (2, l.take 10, dateZ (l.take 10)) else (amt0 (l.take (runN partB l))).map fun v => (1, l.take (runN partB l), v))
    else if letB c0 then (if runN partB l ≤ 16 then some (3, l.take (runN partB l), 0) else none)
    else (signW l).map fun s => (0, s, 0) := by rw [hcr]; rfl
  have hrl := runN_le partB l
  refine Calls.start 49 Try.func51 rfl rfl rfl ?_
  refine Cd.seq ?_
  refine Cd.region ?_
  refine Seq.alloc rfl (run_zero zero_lex_Word) rfl rfl rfl ?_
  intro g2 w1 n2
  have e2 := Nat.le_trans bel.size n2.ge
  replace bel := bel.step n2.below
  have k2 := n2.blk
  refine Seq.val (Runs.assign rfl rfl) rfl rfl rfl ?_
  refine Seq.nil ?_
  refine Post.weak (F' := [(0, _), (2, _), (3, _)]) ⟨rfl, rfl, rfl, trivial⟩ ?_
  refine Post.then_ ?_
  refine Cd.seq ?_
  refine Cd.block ?_
  refine Cd.seq ?_
  refine Cd.region ?_
  refine Seq.val (Runs.move rfl rfl) rfl rfl rfl ?_
  refine Seq.val (Runs.indexL (l := l) (j := 0) rfl rfl rfl Try.underlying9 rfl h0 hc256) rfl rfl rfl ?_
  refine Seq.call (Enters.func rfl rfl rfl (run_enter Try.func89 (by kernel_rfl) rfl)) rfl rfl rfl (digitL_any c0 _) ?_
  rintro e w2 ⟨rfl, hb2⟩
  refine ⟨_, rfl, ?_⟩
  replace bel := bel.step hb2
  replace k2 := k2.step hb2
  refine Seq.val (Runs.assign rfl rfl) rfl rfl rfl ?_
  refine Seq.nil ?_
  refine Post.weak (F' := [(0, _), (2, _), (3, _), (9, _)]) ⟨rfl, rfl, rfl, rfl, trivial⟩ ?_
  refine Post.then_ ?_
  refine Cd.cond rfl (fun h => ?_) (fun h => ?_)
  · rw [h, if_pos rfl] at hnw
    refine Cd.seq ?_
    refine Cd.seq ?_
    refine Cd.region ?_
    refine Seq.val (Runs.move rfl rfl) rfl rfl rfl ?_
    refine Seq.call (Enters.func rfl rfl rfl (run_enter Try.func90 (by kernel_rfl) rfl)) rfl rfl rfl (day_any l _ hl hlen) ?_
    rintro e w3 ⟨a, b, c, rfl, hday, hb3⟩
    refine ⟨_, rfl, ?_⟩
    replace bel := bel.step hb3
    replace k2 := k2.step hb3
    refine Seq.val (Runs.move rfl rfl) rfl rfl rfl ?_
    refine Seq.val (Runs.extract rfl rfl rfl) rfl rfl rfl ?_
    refine Seq.val (Runs.extract rfl rfl rfl) rfl rfl rfl ?_
    refine Seq.alloc rfl (run_zero zero_lex_Word) rfl rfl rfl ?_
    intro g4 w2 n4
    have e4 := Nat.le_trans bel.size n4.ge
    have l4 := Nat.lt_of_lt_of_le k2.lt n4.ge
    replace bel := bel.step n4.below
    replace k2 := k2.step n4.below
    have k4 := n4.blk
    refine Seq.storeN rfl rfl rfl rfl (m := 4) (by kernel_rfl) rfl (by repeat' first | exact trivial | apply And.intro | rfl | assumption) k4 (by simp [Value.cells]) rfl rfl ?_
    intro w3 pw3
    replace bel := bel.put k4 pw3 e4
    replace k2 := k2.put pw3 (by omega)
    replace k4 := pw3.blk
    refine Seq.val (Runs.assign rfl rfl) rfl rfl rfl ?_
    refine Seq.nil ?_
    refine Post.weak (F' := [(0, _), (2, _), (3, _), (4, _), (5, _), (9, _)]) ⟨rfl, rfl, rfl, rfl, rfl, rfl, trivial⟩ ?_
    refine Post.then_ ?_
    refine Cd.seq ?_
    refine Cd.region ?_
    refine Seq.val (Runs.move rfl rfl) rfl rfl rfl ?_
    refine Seq.nil ?_
    refine Post.weak (F' := [(0, _), (2, _), (3, _), (4, _), (5, _), (9, _), (18, _)]) ⟨rfl, rfl, rfl, rfl, rfl, rfl, rfl, trivial⟩ ?_
    refine Post.then_ ?_
    refine Cd.cond rfl (fun hd => ?_) (fun hd => ?_)
    · rw [hd, if_pos rfl] at hnw
      obtain ⟨rfl, rfl, rfl⟩ := hday hd
      refine Cd.seq ?_
      refine Cd.region ?_
      refine Seq.val (Runs.loadW rfl rfl Try.underlying50 rfl k4 (m := 4) (by kernel_rfl) rfl) rfl rfl rfl ?_
      refine Seq.storeN rfl rfl rfl rfl (m := 4) (by kernel_rfl) rfl (by repeat' first | exact trivial | apply And.intro | rfl | assumption) k2 (by simp [Value.cells]) rfl rfl ?_
      intro w4 pw4
      replace bel := bel.put k2 pw4 e2
      replace k4 := k4.put pw4 (by omega)
      replace k2 := pw4.blk
      refine Seq.val (Runs.assign rfl rfl) rfl rfl rfl ?_
      refine Seq.nil ?_
      refine Post.weak (F' := [(0, _), (2, _), (3, _), (4, _), (5, _), (9, _), (18, _)]) ⟨rfl, rfl, rfl, rfl, rfl, rfl, rfl, trivial⟩ ?_
      refine Post.then_ ?_
      refine Cd.ret ?_
      refine Post.then_ret ?_
      refine Post.block_ret ?_
      refine Post.then_ret ?_
      refine Post.endC2 rfl rfl rfl k2 Try.underlying50 rfl (m := 4) (by kernel_rfl) rfl (.inl rfl) ?_
      exact ⟨_, _, _, true, rfl, hnw, bel⟩
    · rw [hd, if_neg (by simp)] at hnw
      refine Cd.skip ?_
      refine Post.then_ ?_
      refine Cd.seq ?_
      refine Cd.region ?_
      refine Seq.val (Runs.move rfl rfl) rfl rfl rfl ?_
      refine Seq.call (Enters.func rfl rfl rfl (run_enter Try.func91 (by kernel_rfl) rfl)) rfl rfl rfl (number_any l _ hl hlen) ?_
      rintro e w4 ⟨v, ok, rfl, ha, hb4⟩
      refine ⟨_, rfl, ?_⟩
      have hlt : l.take (runN partB l) = c0 :: (l.take (runN partB l)).drop 1 := by
        have hp : partB c0 = true := by unfold partB; rw [h]; simp
        rw [hcr, runN_cons, if_pos hp, List.take_succ_cons]
        rfl
      have hamt := amt0_of ha c0 _ hlt h
      replace bel := bel.step hb4
      replace k2 := k2.step hb4
      replace k4 := k4.step hb4
      refine Seq.val (Runs.extract rfl rfl rfl) rfl rfl rfl ?_
      refine Seq.val (Runs.extract rfl rfl rfl) rfl rfl rfl ?_
      refine Seq.storeN rfl rfl rfl rfl (m := 4) (by kernel_rfl) rfl (by repeat' first | exact trivial | apply And.intro | rfl | assumption) k2 (by simp [Value.cells]) rfl rfl ?_
      intro w4 pw4
      replace bel := bel.put k2 pw4 e2
      replace k4 := k4.put pw4 (by omega)
      replace k2 := pw4.blk
      refine Seq.val (Runs.assign rfl rfl) rfl rfl rfl ?_
      refine Seq.nil ?_
      refine Post.weak (F' := [(0, _), (2, _), (3, _), (4, _), (5, _), (9, _), (18, _)]) ⟨rfl, rfl, rfl, rfl, rfl, rfl, rfl, trivial⟩ ?_
      refine Post.then_ ?_
      refine Cd.ret ?_
      refine Post.block_ret ?_
      refine Post.then_ret ?_
      refine Post.endC2 rfl rfl rfl k2 Try.underlying50 rfl (m := 4) (by kernel_rfl) rfl (.inl rfl) ?_
      refine ⟨_, _, _, ok, rfl, ?_, bel⟩
      rw [hnw, hamt]
      cases ok <;> rfl
  · rw [h, if_neg (by simp)] at hnw
    refine Cd.seq ?_
    refine Cd.region ?_
    refine Seq.val (Runs.move rfl rfl) rfl rfl rfl ?_
    refine Seq.val (Runs.indexL (l := l) (j := 0) rfl rfl rfl Try.underlying9 rfl h0 hc256) rfl rfl rfl ?_
    refine Seq.call (Enters.func rfl rfl rfl (run_enter Try.func26 (by kernel_rfl) rfl)) rfl rfl rfl (letter_any c0 _) ?_
    rintro e w3 ⟨rfl, hb3⟩
    refine ⟨_, rfl, ?_⟩
    replace bel := bel.step hb3
    replace k2 := k2.step hb3
    refine Seq.val (Runs.assign rfl rfl) rfl rfl rfl ?_
    refine Seq.nil ?_
    refine Post.weak (F' := [(0, _), (2, _), (3, _), (9, _), (24, _)]) ⟨rfl, rfl, rfl, rfl, rfl, trivial⟩ ?_
    refine Post.then_ ?_
    refine Cd.cond rfl (fun h2 => ?_) (fun h2 => ?_)
    · rw [h2, if_pos rfl] at hnw
      refine Cd.seq ?_
      refine Cd.region ?_
      refine Seq.val (Runs.move rfl rfl) rfl rfl rfl ?_
      refine Seq.call (Enters.func rfl rfl rfl (run_enter Try.func56 (by kernel_rfl) rfl)) rfl rfl rfl (run_part l _ hl hlen) ?_
      rintro e w4 ⟨rfl, hb4⟩
      refine ⟨_, rfl, ?_⟩
      replace bel := bel.step hb4
      replace k2 := k2.step hb4
      generalize runN partB l = n at *
      refine Seq.val (Runs.assign rfl rfl) rfl rfl rfl ?_
      refine Seq.nil ?_
      refine Post.weak (F' := [(0, _), (2, _), (3, _), (6, _), (9, _), (24, _)]) ⟨rfl, rfl, rfl, rfl, rfl, rfl, trivial⟩ ?_
      refine Post.then_ ?_
      refine Cd.seq ?_
      refine Cd.region ?_
      refine Seq.val (Runs.move rfl rfl) rfl rfl rfl ?_
      refine Seq.val (Runs.move rfl rfl) rfl rfl rfl ?_
      refine Seq.val (Runs.sliceTo (j := n) rfl rfl rfl Try.underlying9 rfl hrl) rfl rfl rfl ?_
      refine Seq.val (Runs.build rfl rfl (run_build_Word2 _ _ _)) rfl rfl rfl ?_
      refine Seq.val (Runs.move rfl rfl) rfl rfl rfl ?_
      refine Seq.val (Runs.leq rfl rfl rfl) rfl rfl rfl ?_
      refine Seq.storeN rfl rfl rfl rfl (m := 4) (by kernel_rfl) rfl (by repeat' first | exact trivial | apply And.intro | rfl | assumption) k2 (by simp [Value.cells]) rfl rfl ?_
      intro w2 pw2
      replace bel := bel.put k2 pw2 e2
      replace k2 := pw2.blk
      refine Seq.val (Runs.assign rfl rfl) rfl rfl rfl ?_
      refine Seq.nil ?_
      refine Post.weak (F' := [(0, _), (2, _), (3, _), (6, _), (9, _), (24, _)]) ⟨rfl, rfl, rfl, rfl, rfl, rfl, trivial⟩ ?_
      refine Post.then_ ?_
      refine Cd.ret ?_
      refine Post.block_ret ?_
      refine Post.then_ret ?_
      refine Post.endC2 rfl rfl rfl k2 Try.underlying50 rfl (m := 4) (by kernel_rfl) rfl (.inl rfl) ?_
      refine ⟨3, l.take n, 0, decide ((n : Int) ≤ 16), rfl, ?_, bel⟩
      rw [hnw]
      by_cases hn : n ≤ 16
      · rw [if_pos hn, decide_eq_true (show (n : Int) ≤ 16 by omega)]; rfl
      · rw [if_neg hn, decide_eq_false (show ¬ (n : Int) ≤ 16 by omega)]; rfl
    · rw [h2, if_neg (by simp)] at hnw
      refine Cd.skip ?_
      refine Post.block_normal ?_
      refine Post.then_ ?_
      refine Cd.seq ?_
      refine Cd.seq ?_
      refine Cd.region ?_
      refine Seq.call (Enters.func rfl rfl rfl (run_enter Try.func92 (by kernel_rfl) rfl)) rfl rfl rfl (signs_any _) ?_
      rintro e w4 ⟨gs, rfl, ks, hb4⟩
      refine ⟨_, rfl, ?_⟩
      replace bel := bel.step hb4
      replace k2 := k2.step hb4
      refine Seq.val (Runs.len rfl rfl Try.underlying85) rfl rfl rfl ?_
      refine Seq.val (Runs.move rfl rfl) rfl rfl rfl ?_
      refine Seq.nil ?_
      refine Post.weak (F' := [(0, _), (2, _), (3, _), (9, _), (24, _), (36, _), (37, _), (38, _)]) ⟨rfl, rfl, rfl, rfl, rfl, rfl, rfl, rfl, trivial⟩ ?_
      refine Post.then_ ?_
      refine Cd.block ?_
      refine Cd.loop (σ := Nat) (fun k => [(0, .string (strOf l)), (2, .pointer (some ⟨g2, 0, none⟩)), (36, .slice (some ⟨gs, 0, none⟩) 16 16), (37, .int .i64 16), (38, .int .i64 (k : Int))])
        (fun k wr => k ≤ 16 ∧ (∀ j s', j < k → signsL[j]? = some s' → decide (l.take s'.length = s') = false) ∧ Below w.heap.size w wr ∧ Blk wr g2 50 #[.int .i64 0, .string { data := #[] }, .int .i64 0, .int .i64 0] ∧ Blk wr gs 9 (strV signsL).toArray) (fun k => 16 - k) 0 ⟨by omega, fun j s' hj => absurd hj (by omega), bel, k2, ks⟩ ⟨rfl, rfl, rfl, rfl, rfl, trivial⟩ ?_
      clear bel k2 ks
      rintro k wr ⟨hk, hno, bel, k2, ks⟩
      refine Cd.seq ?_
      refine Cd.region ?_
      refine Seq.val (Runs.lss rfl rfl rfl) rfl rfl rfl ?_
      refine Seq.nil ?_
      refine Post.weak (F' := [(0, _), (2, _), (36, _), (37, _), (38, _), (39, _)]) ⟨rfl, rfl, rfl, rfl, rfl, rfl, trivial⟩ ?_
      refine Post.then_ ?_
      refine Cd.seq ?_
      refine Cd.condD rfl (fun hc => ?_) (fun hc => ?_)
      · obtain ⟨s, hs⟩ : ∃ s, signsL[k]? = some s := ⟨_, List.getElem?_eq_getElem (show k < signsL.length by have : signsL.length = 16 := rfl; omega)⟩
        have hsl := signs_lt s (List.mem_of_getElem? hs)
        have hcell : (strV signsL).toArray[k]? = some (.string (strOf s)) := by
          unfold strV
          simp [hs]
        refine Cd.skip ?_
        refine Post.then_ ?_
        refine Cd.seq ?_
        refine Cd.block ?_
        refine Cd.seq ?_
        refine Cd.region ?_
        refine Seq.val (Runs.indexB rfl rfl rfl Try.underlying85 (by kernel_rfl) (j := k) rfl (by omega)) rfl rfl rfl ?_
        refine Seq.val (Runs.loadB rfl rfl Try.underlying9 rfl ks hcell) rfl rfl rfl ?_
        refine Seq.val (Runs.assign rfl rfl) rfl rfl rfl ?_
        refine Seq.nil ?_
        refine Post.weak (F' := [(0, _), (2, _), (8, _), (36, _), (37, _), (38, _), (39, _)]) ⟨rfl, rfl, rfl, rfl, rfl, rfl, rfl, trivial⟩ ?_
        refine Post.then_ ?_
        refine Cd.seq ?_
        refine Cd.region ?_
        refine Seq.val (Runs.move rfl rfl) rfl rfl rfl ?_
        refine Seq.val (Runs.move rfl rfl) rfl rfl rfl ?_
        refine Seq.call (Enters.func rfl rfl rfl (run_enter Try.func93 (by kernel_rfl) rfl)) rfl rfl rfl (hasPrefixL_any l s _ hl hsl) ?_
        rintro e w6 ⟨rfl, rfl⟩
        refine ⟨_, rfl, ?_⟩
        refine Seq.nil ?_
        refine Post.weak (F' := [(0, _), (2, _), (8, _), (36, _), (37, _), (38, _), (39, _), (44, _)]) ⟨rfl, rfl, rfl, rfl, rfl, rfl, rfl, rfl, trivial⟩ ?_
        refine Post.then_ ?_
        refine Cd.cond rfl (fun h3 => ?_) (fun h3 => ?_)
        · have hsw : signW l = some s := find_at _ signsL k s hno hs h3
          rw [hsw] at hnw
          refine Cd.seq ?_
          refine Cd.region ?_
          refine Seq.val (Runs.move rfl rfl) rfl rfl rfl ?_
          refine Seq.val (Runs.build rfl rfl (run_build_Word2 _ _ _)) rfl rfl rfl ?_
          refine Seq.storeN rfl rfl rfl rfl (m := 4) (by kernel_rfl) rfl (by repeat' first | exact trivial | apply And.intro | rfl | assumption) k2 (by simp [Value.cells]) rfl rfl ?_
          intro w2 pw2
          replace bel := bel.put k2 pw2 e2
          replace k2 := pw2.blk
          refine Seq.val (Runs.assign rfl rfl) rfl rfl rfl ?_
          refine Seq.nil ?_
          refine Post.weak (F' := [(0, _), (2, _), (3, _), (8, _), (36, _), (37, _), (38, _), (39, _), (44, _)]) ⟨rfl, rfl, rfl, rfl, rfl, rfl, rfl, rfl, rfl, trivial⟩ ?_
          refine Post.then_ ?_
          refine Cd.ret ?_
          refine Post.block_ret ?_
          refine Post.then_ret ?_
          refine Post.round_ret ?_
          refine Post.block_ret ?_
          refine Post.then_ret ?_
          refine Post.endC2 rfl rfl rfl k2 Try.underlying50 rfl (m := 4) (by kernel_rfl) rfl (.inl rfl) ?_
          exact ⟨0, s, 0, true, rfl, hnw, bel⟩
        · skip
          refine Cd.skip ?_
          refine Post.block_normal ?_
          refine Post.then_ ?_
          refine Cd.region ?_
          refine Seq.val (Runs.addI rfl rfl rfl (by omega) (by omega)) rfl rfl rfl ?_
          refine Seq.val (Runs.move rfl rfl) rfl rfl rfl ?_
          refine Seq.nil ?_
          refine Post.weak (F' := [(0, _), (2, _), (8, _), (36, _), (37, _), (38, _), (39, _), (44, _)]) ⟨rfl, rfl, rfl, rfl, rfl, rfl, rfl, rfl, trivial⟩ ?_
          refine Post.round (k + 1) ⟨rfl, rfl, rfl, rfl, rfl, trivial⟩ ⟨by omega, fun j s' hj hs' => ?_, bel, k2, ks⟩ (by omega)
          rcases Nat.lt_or_ge j k with h4 | h4
          · exact hno j s' h4 hs'
          · obtain rfl : j = k := by omega
            rw [hs] at hs'
            injection hs' with hs'
            subst hs'
            exact h3
      · have hsw : signW l = none := find_no _ signsL fun j s' hs' => hno j s' (by
          have := (List.getElem?_eq_some_iff.1 hs').1
          have h16 : signsL.length = 16 := rfl
          omega) hs'
        rw [hsw] at hnw
        refine Cd.exit ?_
        refine Post.then_exit ?_
        refine Post.round_exit ?_
        refine Post.block_exit ?_
        refine Post.then_ ?_
        refine Cd.seq ?_
        refine Cd.region ?_
        refine Seq.val (Runs.build rfl rfl (run_build_Word0 _)) rfl rfl rfl ?_
        refine Seq.storeN rfl rfl rfl rfl (m := 4) (by kernel_rfl) rfl (by repeat' first | exact trivial | apply And.intro | rfl | assumption) k2 (by simp [Value.cells]) rfl rfl ?_
        intro w2 pw2
        replace bel := bel.put k2 pw2 e2
        replace k2 := pw2.blk
        refine Seq.val (Runs.assign rfl rfl) rfl rfl rfl ?_
        refine Seq.nil ?_
        refine Post.weak (F' := [(0, _), (2, _), (3, _), (36, _), (37, _), (38, _), (39, _)]) ⟨rfl, rfl, rfl, rfl, rfl, rfl, rfl, trivial⟩ ?_
        refine Post.then_ ?_
        refine Cd.ret ?_
        refine Post.endC2 rfl rfl rfl k2 Try.underlying50 rfl (m := 4) (by kernel_rfl) rfl (.inl rfl) ?_
        exact ⟨0, [], 0, false, rfl, hnw, bel⟩
end Go.Proofs.Ytijaldpmpjapiaa

namespace Go.Proofs.Ytijaldpmpjapiaa
open Go.RowKit

/-- A word: its kind, text, number and place. -/
structure Wd where
  kind : Int
  text : List Nat
  n : Int
  pos : Nat
/-- The words from a place on; or where none can stand. -/
def lexW : Nat → List Nat → Nat → List Wd × Option Nat
  | 0, _, _ => ([], none)
  | f + 1, l, p => if l.length ≤ p then ([], none) else match nextW (l.drop p) with
    | none => ([], some p)
    | some (k, t, n) => (⟨k, t, n, p⟩ :: (lexW f l (p + t.length + blankN (l.drop (p + t.length)))).1, (lexW f l (p + t.length + blankN (l.drop (p + t.length)))).2)
def lexAll (l : List Nat) : List Wd × Option Nat := lexW (l.length + 1) l (blankN l)
def wdCells (ws : List Wd) : List Value := ws.flatMap fun x => [.int .i64 x.kind, .string (strOf x.text), .int .i64 x.n, .int .i64 (x.pos : Int)]
theorem wdCells_snoc (ws : List Wd) (x : Wd) : wdCells (ws ++ [x]) = wdCells ws ++ [.int .i64 x.kind, .string (strOf x.text), .int .i64 x.n, .int .i64 (x.pos : Int)] := by simp [wdCells]
theorem lexW_end (f : Nat) (l : List Nat) (p : Nat) (h : l.length ≤ p) : lexW f l p = ([], none) := by
  cases f with
  | zero => rfl
  | succ f => unfold lexW; rw [if_pos h]
theorem lexW_step (f : Nat) (l : List Nat) (p : Nat) (h : p < l.length) : lexW (f + 1) l p = match nextW (l.drop p) with
    | none => ([], some p)
    | some (k, t, n) => (⟨k, t, n, p⟩ :: (lexW f l (p + t.length + blankN (l.drop (p + t.length)))).1, (lexW f l (p + t.length + blankN (l.drop (p + t.length)))).2) := by
  rw [lexW, if_neg (by omega)]
theorem run_pos {l : List Nat} {c : Nat} {r : List Nat} (h : l = c :: r) (hp : partB c = true) : 0 < runN partB l := by rw [h, runN_cons, if_pos hp]; omega
theorem nextW_spec {l : List Nat} {k : Int} {t : List Nat} {n : Int} (h : nextW l = some (k, t, n)) : 0 < t.length ∧ t = l.take t.length ∧ t.length ≤ l.length := by
  cases l with
  | nil => cases h
  | cons c r =>
    have hrl := runN_le partB (c :: r)
    have htk : ∀ j, j ≤ (c :: r).length → 0 < j → 0 < ((c :: r).take j).length ∧ (c :: r).take j = (c :: r).take ((c :: r).take j).length ∧ ((c :: r).take j).length ≤ (c :: r).length := by
      intro j hj h0
      have : ((c :: r).take j).length = j := by rw [List.length_take]; omega
      rw [this]
      exact ⟨h0, rfl, hj⟩
    unfold nextW at h
    simp only at h
    generalize hl : c :: r = l at *
    split at h
    · rename_i hd
      have hp : partB c = true := by unfold partB; rw [hd]; simp
      have h0 := run_pos hl.symm hp
      split at h
      · rename_i hday
        injection h with h
        injection h with h1 h
        injection h with h2 h
        subst h2
        refine htk 10 ?_ (by omega)
        unfold dayOk at hday
        simp at hday
        exact hday.1.1
      · cases ha : amt0 (l.take (runN partB l)) with
        | none => rw [ha] at h; cases h
        | some v =>
          rw [ha] at h
          injection h with h
          injection h with h1 h
          injection h with h2 h
          subst h2
          exact htk _ hrl h0
    · split at h
      · rename_i hd
        have hp : partB c = true := by unfold partB; rw [hd]; simp
        have h0 := run_pos hl.symm hp
        split at h
        · injection h with h
          injection h with h1 h
          injection h with h2 h
          subst h2
          exact htk _ hrl h0
        · cases h
      · cases hs : signW l with
        | none => rw [hs] at h; cases h
        | some s =>
          rw [hs] at h
          injection h with h
          injection h with h1 h
          injection h with h2 h
          subst h2
          have hm := List.mem_of_find?_eq_some hs
          have hp := List.find?_some hs
          simp at hp
          have h0 : 0 < s.length := by
            have : ∀ s ∈ signsL, 0 < s.length := by decide
            exact this s hm
          refine ⟨h0, hp.symm, ?_⟩
          have := congrArg List.length hp
          rw [List.length_take] at this
          omega
/-- A slice of the call's own, whatever is stored elsewhere. -/
structure OwnA (w : World) (B : Nat) (e : TypeId) (size : Nat) (v : Value) (n : Nat) (xs : List Value) : Prop where
  own : Own w B e size v n xs
section
variable {w w' : World} {B size n : Nat} {e : TypeId} {v : Value} {xs : List Value}
theorem OwnA.step (h : OwnA w B e size v n xs) (hb : Below w.heap.size w w') : OwnA w' B e size v n xs := ⟨h.own.step hb⟩
theorem OwnA.put {g B' : Nat} {T : TypeId} {cur cs : Array Value} (h : OwnA w B e size v n xs) (_k : Blk w g T cur) (p : Put w w' g T cs) (_e : B' ≤ g) (hne : v.ownBlock ≠ some g := by assumption) : OwnA w' B e size v n xs := ⟨⟨h.own.row.kept p.grown (.inr hne)⟩⟩
theorem OwnA.ne (h : OwnA w B e size v n xs) {g : Nat} (hg : w.heap.size ≤ g) : v.ownBlock ≠ some g := by
  intro hv
  obtain ⟨hl, ⟨h0, h1⟩ | ⟨g', cap, cur, h0, h1, h2, h3, h4, h5, h6⟩⟩ := h.own.row
  · rw [h0] at hv; cases hv
  · rw [h0] at hv
    injection hv with hv
    have hv : g' = g := hv
    have hlt : g' < w.heap.size := Blk.lt (cs := cur) (t := e) h2
    omega
end
theorem words_any (l : List Nat) (w : World) (hl : ∀ x ∈ l, x < 256) (hlen : l.length ≤ 9223372036854775807) :
    Calls Try.prog 19 #[.string (strOf l)] w fun e w' => Grow w w' ∧ ((4000 < l.length ∧ e = .returned (.tuple #[.slice none 0 0, .int .i64 0, .int .i64 4])) ∨
      (l.length ≤ 4000 ∧ ∃ p : Nat, (lexAll l).2 = some p ∧ e = .returned (.tuple #[.slice none 0 0, .int .i64 (p : Int), .int .i64 11])) ∨
      (l.length ≤ 4000 ∧ (lexAll l).2 = none ∧ ∃ v, e = .returned (.tuple #[v, .int .i64 0, .int .i64 0]) ∧ Own w' w.heap.size 50 4 v (lexAll l).1.length (wdCells (lexAll l).1))) := by
  have bel := Below.refl w.heap.size w
  refine Calls.start 46 Try.func19 rfl rfl rfl ?_
  refine Cd.seq ?_
  refine Cd.region ?_
  refine Seq.val (Runs.assign rfl rfl) rfl rfl rfl ?_
  refine Seq.val (Runs.assign rfl rfl) rfl rfl rfl ?_
  refine Seq.val (Runs.assign rfl rfl) rfl rfl rfl ?_
  refine Seq.nil ?_
  refine Post.weak (F' := [(0, _), (2, _), (3, _), (4, _)]) ⟨rfl, rfl, rfl, rfl, trivial⟩ ?_
  refine Post.then_ ?_
  refine Cd.seq ?_
  refine Cd.seq ?_
  refine Cd.region ?_
  refine Seq.val (Runs.move rfl rfl) rfl rfl rfl ?_
  refine Seq.val (Runs.lenL rfl rfl Try.underlying9) rfl rfl rfl ?_
  refine Seq.val (Runs.gtr rfl rfl rfl) rfl rfl rfl ?_
  refine Seq.nil ?_
  refine Post.weak (F' := [(0, _), (2, _), (3, _), (4, _), (11, _)]) ⟨rfl, rfl, rfl, rfl, rfl, trivial⟩ ?_
  refine Post.then_ ?_
  refine Cd.condD rfl (fun h => ?_) (fun h => ?_)
  · skip
    refine Cd.seq ?_
    refine Cd.region ?_
    refine Seq.val (Runs.assign rfl rfl) rfl rfl rfl ?_
    refine Seq.val (Runs.assign rfl rfl) rfl rfl rfl ?_
    refine Seq.val (Runs.assign rfl rfl) rfl rfl rfl ?_
    refine Seq.nil ?_
    refine Post.weak (F' := [(0, _), (2, _), (3, _), (4, _), (11, _)]) ⟨rfl, rfl, rfl, rfl, rfl, trivial⟩ ?_
    refine Post.then_ ?_
    refine Cd.ret ?_
    refine Post.then_ret ?_
    refine Post.end3 rfl rfl rfl rfl (.inl rfl) ?_
    exact ⟨bel, .inl ⟨by omega, rfl⟩⟩
  have h4 : l.length ≤ 4000 := by omega
  clear h
  have hb0 := blankN_le l
  refine Cd.skip ?_
  refine Post.then_ ?_
  refine Cd.seq ?_
  refine Cd.region ?_
  refine Seq.val (Runs.assign rfl rfl) rfl rfl rfl ?_
  refine Seq.nil ?_
  refine Post.weak (F' := [(0, _), (2, _), (3, _), (4, _), (5, _), (11, _)]) ⟨rfl, rfl, rfl, rfl, rfl, rfl, trivial⟩ ?_
  refine Post.then_ ?_
  refine Cd.seq ?_
  refine Cd.seq ?_
  refine Cd.region ?_
  refine Seq.val (Runs.move rfl rfl) rfl rfl rfl ?_
  refine Seq.call (Enters.func rfl rfl rfl (run_enter Try.func50 (by kernel_rfl) rfl)) rfl rfl rfl (blank_any l _ hl hlen) ?_
  rintro e w4 ⟨rfl, hb4⟩
  refine ⟨_, rfl, ?_⟩
  replace bel := bel.step hb4
  have own : OwnA w4 w.heap.size 50 4 (.slice none 0 0) 0 [] := ⟨Own.nil _ _ _ _⟩
  refine Seq.val (Runs.assign rfl rfl) rfl rfl rfl ?_
  refine Seq.nil ?_
  refine Post.weak (F' := [(0, _), (2, _), (3, _), (4, _), (5, _), (6, _), (11, _)]) ⟨rfl, rfl, rfl, rfl, rfl, rfl, rfl, trivial⟩ ?_
  refine Post.then_ ?_
  refine Cd.block ?_
  refine Cd.loop (σ := Nat × Value × List Wd) (fun s => [(0, .string (strOf l)), (5, s.2.1), (6, .int .i64 (s.1 : Int))])
    (fun s wr => s.1 ≤ l.length ∧ s.2.2.length ≤ s.1 ∧ (∃ f, l.length + 1 ≤ f + s.1 ∧ lexAll l = (s.2.2 ++ (lexW f l s.1).1, (lexW f l s.1).2)) ∧ Below w.heap.size w wr ∧ OwnA wr w.heap.size 50 4 s.2.1 s.2.2.length (wdCells s.2.2)) (fun s => l.length - s.1) (blankN l, .slice none 0 0, [])
    ⟨hb0, by simp, ⟨l.length + 1, by dsimp only; omega, rfl⟩, bel, own⟩ ⟨rfl, rfl, rfl, trivial⟩ ?_
  clear bel
  clear own
  rintro ⟨p, v, ws⟩ wr ⟨hp, hwp, ⟨f, hf, hall⟩, bel, own⟩
  dsimp only at hp hwp hf hall own ⊢
  refine Cd.seq ?_
  refine Cd.seq ?_
  refine Cd.region ?_
  refine Seq.val (Runs.move rfl rfl) rfl rfl rfl ?_
  refine Seq.val (Runs.move rfl rfl) rfl rfl rfl ?_
  refine Seq.val (Runs.lenL rfl rfl Try.underlying9) rfl rfl rfl ?_
  refine Seq.val (Runs.lss rfl rfl rfl) rfl rfl rfl ?_
  refine Seq.nil ?_
  refine Post.weak (F' := [(0, _), (5, _), (6, _), (17, _)]) ⟨rfl, rfl, rfl, rfl, trivial⟩ ?_
  refine Post.then_ ?_
  refine Cd.condD rfl (fun hc => ?_) (fun hc => ?_)
  · obtain ⟨f', rfl⟩ : ∃ f', f = f' + 1 := ⟨f - 1, by omega⟩
    have hdl := drop_lt hl p
    have hdn : (l.drop p).length ≤ 9223372036854775807 := by rw [List.length_drop]; omega
    have hstep := lexW_step f' l p (by omega)
    refine Cd.skip ?_
    refine Post.then_ ?_
    refine Cd.seq ?_
    refine Cd.block ?_
    refine Cd.seq ?_
    refine Cd.region ?_
    refine Seq.val (Runs.move rfl rfl) rfl rfl rfl ?_
    refine Seq.val (Runs.move rfl rfl) rfl rfl rfl ?_
    refine Seq.val (Runs.sliceFrom (j := p) rfl rfl rfl Try.underlying9 rfl hp) rfl rfl rfl ?_
    refine Seq.call (Enters.func rfl rfl rfl (run_enter Try.func51 (by kernel_rfl) rfl)) rfl rfl rfl (next_any (l.drop p) _ hdl hdn (by intro h0; have := congrArg List.length h0; rw [List.length_drop] at this; simp at this; omega)) ?_
    rintro e w6 ⟨a, b, c, ok, rfl, hnx, hb6⟩
    refine ⟨_, rfl, ?_⟩
    replace bel := bel.step hb6
    replace own := own.step hb6
    have hneg : ∀ g, w6.heap.size ≤ g → v.ownBlock ≠ some g := fun g hg => own.ne hg
    have hstep1 : ok = false → lexW (f' + 1) l p = ([], some p) := fun h => by rw [hstep, hnx, h]; rfl
    have hstep2 : ok = true → lexW (f' + 1) l p = (⟨a, b, c, p⟩ :: (lexW f' l (p + b.length + blankN (l.drop (p + b.length)))).1, (lexW f' l (p + b.length + blankN (l.drop (p + b.length)))).2) := fun h => by rw [hstep, hnx, h]; rfl
    have hspec : ok = true → 0 < b.length ∧ b = (l.drop p).take b.length ∧ b.length ≤ (l.drop p).length := fun h => nextW_spec (by rw [hnx, h]; rfl)
    clear hstep hnx
    refine Seq.val (Runs.move rfl rfl) rfl rfl rfl ?_
    refine Seq.val (Runs.extract rfl rfl rfl) rfl rfl rfl ?_
    refine Seq.val (Runs.extract rfl rfl rfl) rfl rfl rfl ?_
    refine Seq.alloc rfl (run_zero zero_lex_Word) rfl rfl rfl ?_
    intro g7 w1 n7
    have e7 := Nat.le_trans bel.size n7.ge
    replace bel := bel.step n7.below
    replace own := own.step n7.below
    have k7 := n7.blk
    have hne7 : v.ownBlock ≠ some g7 := hneg g7 n7.ge
    refine Seq.storeN rfl rfl rfl rfl (m := 4) (by kernel_rfl) rfl (by repeat' first | exact trivial | apply And.intro | rfl | assumption) k7 (by simp [Value.cells]) rfl rfl ?_
    intro w2 pw2
    replace bel := bel.put k7 pw2 e7
    replace own := own.put k7 pw2 e7
    replace k7 := pw2.blk
    refine Seq.val (Runs.assign rfl rfl) rfl rfl rfl ?_
    refine Seq.nil ?_
    refine Post.weak (F' := [(0, _), (5, _), (6, _), (7, _), (8, _), (17, _)]) ⟨rfl, rfl, rfl, rfl, rfl, rfl, trivial⟩ ?_
    refine Post.then_ ?_
    refine Cd.seq ?_
    refine Cd.seq ?_
    refine Cd.region ?_
    refine Seq.val (Runs.move rfl rfl) rfl rfl rfl ?_
    refine Seq.val (Runs.not rfl rfl) rfl rfl rfl ?_
    refine Seq.nil ?_
    refine Post.weak (F' := [(0, _), (5, _), (6, _), (7, _), (8, _), (17, _), (32, _)]) ⟨rfl, rfl, rfl, rfl, rfl, rfl, rfl, trivial⟩ ?_
    refine Post.then_ ?_
    refine Cd.cond rfl (fun h => ?_) (fun h => ?_)
    · have hok : ok = false := by cases ok <;> simp at h ⊢
      rw [hstep1 hok] at hall
      refine Cd.seq ?_
      refine Cd.region ?_
      refine Seq.val (Runs.move rfl rfl) rfl rfl rfl ?_
      refine Seq.val (Runs.assign rfl rfl) rfl rfl rfl ?_
      refine Seq.val (Runs.assign rfl rfl) rfl rfl rfl ?_
      refine Seq.val (Runs.assign rfl rfl) rfl rfl rfl ?_
      refine Seq.nil ?_
      refine Post.weak (F' := [(0, _), (2, _), (3, _), (4, _), (5, _), (6, _), (7, _), (8, _), (17, _), (32, _)]) ⟨rfl, rfl, rfl, rfl, rfl, rfl, rfl, rfl, rfl, rfl, trivial⟩ ?_
      refine Post.then_ ?_
      refine Cd.ret ?_
      refine Post.then_ret ?_
      refine Post.block_ret ?_
      refine Post.then_ret ?_
      refine Post.round_ret ?_
      refine Post.block_ret ?_
      refine Post.then_ret ?_
      refine Post.end3 rfl rfl rfl rfl (.inl rfl) ?_
      exact ⟨bel, .inr (.inl ⟨h4, p, by rw [hall], rfl⟩)⟩
    · have hok : ok = true := by cases ok <;> simp at h ⊢
      obtain ⟨s1, s2, s3⟩ := hspec hok
      rw [List.length_drop] at s3
      rw [hstep2 hok] at hall
      clear hstep1 hstep2 hspec
      have hbl := blankN_le (l.drop (p + b.length))
      rw [List.length_drop] at hbl
      refine Cd.skip ?_
      refine Post.then_ ?_
      refine Cd.seq ?_
      refine Cd.region ?_
      refine Seq.val (Runs.move rfl rfl) rfl rfl rfl ?_
      refine Seq.val (Runs.fieldB 3 rfl rfl Try.underlying50 rfl (by kernel_rfl)) rfl rfl rfl ?_
      refine Seq.store1 rfl rfl rfl (by kernel_rfl) rfl rfl k7 rfl rfl rfl ?_
      intro w3 pw3
      replace bel := bel.put k7 pw3 e7
      replace own := own.put k7 pw3 e7
      replace k7 := pw3.blk
      refine Seq.nil ?_
      refine Post.weak (F' := [(0, _), (5, _), (6, _), (7, _), (8, _), (17, _), (32, _)]) ⟨rfl, rfl, rfl, rfl, rfl, rfl, rfl, trivial⟩ ?_
      refine Post.then_ ?_
      refine Cd.seq ?_
      refine Cd.region ?_
      refine Seq.val (Runs.move rfl rfl) rfl rfl rfl ?_
      refine Seq.val (Runs.loadW rfl rfl Try.underlying50 rfl k7 (m := 4) (by kernel_rfl) rfl) rfl rfl rfl ?_
      refine Seq.slice (vs := [_]) (s := 4) rfl rfl rfl Try.underlying40 (by kernel_rfl) (zero_lex_Word) (by omega) (by omega) ⟨rfl, trivial⟩ rfl rfl rfl ?_
      intro g38 w4 n38
      have e38 := Nat.le_trans bel.size n38.ge
      have l38 := Nat.lt_of_lt_of_le k7.lt n38.ge
      replace bel := bel.step n38.below
      replace own := own.step n38.below
      replace k7 := k7.step n38.below
      have k38 := n38.blk
      replace own := own.own
      refine Seq.append rfl rfl rfl Try.underlying40 (by kernel_rfl) zero_lex_Word rfl (by decide) (b := 40) (by kernel_rfl) own (Reads.blk (size := 4) k38 1 rfl) (by intro x hx; simp [flatC, Value.cells] at hx; rcases hx with rfl | rfl | rfl | rfl <;> rfl) bel.size (by simp only [maxLen]; omega) (by omega) rfl rfl rfl ?_
      clear own
      intro vw5 w5 own haw5
      replace bel := bel.trans haw5.below
      replace k7 := k7.grown haw5.grown (fun e => hne7 e.symm)
      replace own : OwnA w5 w.heap.size 50 4 vw5 (ws ++ [(⟨a, b, c, p⟩ : Wd)]).length (wdCells (ws ++ [⟨a, b, c, p⟩])) := ⟨by rw [List.length_append, wdCells_snoc]; exact own⟩
      refine Seq.val (Runs.assign rfl rfl) rfl rfl rfl ?_
      refine Seq.nil ?_
      refine Post.weak (F' := [(0, _), (5, _), (6, _), (7, _), (8, _), (17, _), (32, _)]) ⟨rfl, rfl, rfl, rfl, rfl, rfl, rfl, trivial⟩ ?_
      refine Post.then_ ?_
      refine Cd.region ?_
      refine Seq.val (Runs.move rfl rfl) rfl rfl rfl ?_
      refine Seq.val (Runs.fieldB 1 rfl rfl Try.underlying50 rfl (by kernel_rfl)) rfl rfl rfl ?_
      refine Seq.val (Runs.loadB rfl rfl Try.underlying9 rfl k7 rfl) rfl rfl rfl ?_
      refine Seq.val (Runs.lenL rfl rfl Try.underlying9) rfl rfl rfl ?_
      refine Seq.val (Runs.addI rfl rfl rfl (by omega) (by omega)) rfl rfl rfl ?_
      refine Seq.val (Runs.assign rfl rfl) rfl rfl rfl ?_
      refine Seq.nil ?_
      refine Post.weak (F' := [(0, _), (5, _), (6, _), (7, _), (8, _), (17, _), (32, _)]) ⟨rfl, rfl, rfl, rfl, rfl, rfl, rfl, trivial⟩ ?_
      refine Post.block_normal ?_
      refine Post.then_ ?_
      refine Cd.region ?_
      refine Seq.val (Runs.move rfl rfl) rfl rfl rfl ?_
      refine Seq.val (Runs.move rfl rfl) rfl rfl rfl ?_
      refine Seq.val (Runs.move rfl rfl) rfl rfl rfl ?_
      refine Seq.val (Runs.sliceFrom (j := p + b.length) rfl rfl rfl Try.underlying9 rfl (by omega)) rfl rfl rfl ?_
      refine Seq.call (Enters.func rfl rfl rfl (run_enter Try.func50 (by kernel_rfl) rfl)) rfl rfl rfl (blank_any (l.drop (p + b.length)) _ (drop_lt hl _) (by rw [List.length_drop]; omega)) ?_
      rintro e w8 ⟨rfl, hb8⟩
      refine ⟨_, rfl, ?_⟩
      replace bel := bel.step hb8
      replace own := own.step hb8
      replace k7 := k7.step hb8
      generalize hq : p + b.length + blankN (l.drop (p + b.length)) = q at *
      refine Seq.val (Runs.addI rfl rfl rfl (by omega) (by omega)) rfl rfl rfl ?_
      refine Seq.val (Runs.assign rfl rfl) rfl rfl rfl ?_
      refine Seq.nil ?_
      refine Post.weak (F' := [(0, _), (5, _), (6, _), (7, _), (8, _), (17, _), (32, _)]) ⟨rfl, rfl, rfl, rfl, rfl, rfl, rfl, trivial⟩ ?_
      refine Post.round (q, vw5, ws ++ [⟨a, b, c, p⟩]) ⟨rfl, rfl, congrArg (fun x : Int => some (Value.int .i64 x)) (show ((p : Int) + (b.length : Int) + (blankN (l.drop (p + b.length)) : Int)) = ((q : Nat) : Int) by omega), trivial⟩ ⟨by dsimp only; omega, by dsimp only; rw [List.length_append]; simp; omega, ⟨f', by dsimp only; omega, ?_⟩, bel, own⟩ (by dsimp only; omega)
      dsimp only
      rw [hall, List.append_assoc]
      rfl
  · have hpe : p = l.length := by omega
    rw [lexW_end f l p (by omega)] at hall
    dsimp only at hall
    rw [List.append_nil] at hall
    refine Cd.exit ?_
    refine Post.then_exit ?_
    refine Post.round_exit ?_
    refine Post.block_exit ?_
    refine Post.then_ ?_
    refine Cd.seq ?_
    refine Cd.region ?_
    refine Seq.val (Runs.move rfl rfl) rfl rfl rfl ?_
    refine Seq.val (Runs.assign rfl rfl) rfl rfl rfl ?_
    refine Seq.val (Runs.assign rfl rfl) rfl rfl rfl ?_
    refine Seq.val (Runs.assign rfl rfl) rfl rfl rfl ?_
    refine Seq.nil ?_
    refine Post.weak (F' := [(0, _), (2, _), (3, _), (4, _), (5, _), (6, _), (17, _)]) ⟨rfl, rfl, rfl, rfl, rfl, rfl, rfl, trivial⟩ ?_
    refine Post.then_ ?_
    refine Cd.ret ?_
    refine Post.end3 rfl rfl rfl rfl (.inl rfl) ?_
    exact ⟨bel, .inr (.inr ⟨h4, by rw [hall], v, rfl, by rw [hall]; exact own.own⟩)⟩
end Go.Proofs.Ytijaldpmpjapiaa

namespace Go.Proofs.Ytijaldpmpjapiaa
open Go.RowKit

theorem Own.form {w : World} {B size n : Nat} {e : TypeId} {v : Value} {xs : List Value} (h : Own w B e size v n xs) (h0 : 0 < n) : ∃ g cap cur, v = .slice (some ⟨g, 0, none⟩) n cap ∧ B ≤ g ∧ Blk w g e cur ∧ ∀ (j : Nat) (x : Value), xs[j]? = some x → cur[j]? = some x := by
  obtain ⟨hl, ⟨_, h1⟩ | ⟨g, cap, cur, rfl, h1, h2, h3, h4, h5, h6⟩⟩ := h.row
  · omega
  · refine ⟨g, cap, cur, rfl, h1, h2, fun j x hx => ?_⟩
    rw [← h6] at hx
    have := List.getElem?_take_of_lt (l := cur.toList) (i := j) (j := n * size) (by
      rcases Nat.lt_or_ge j (n * size) with h | h
      · exact h
      · rw [List.getElem?_eq_none (by rw [List.length_take]; omega)] at hx; cases hx)
    rw [this] at hx
    simpa using hx
def sampleL : List Nat := [100, 97, 121, 62, 61, 50, 48, 50, 52, 45, 48, 49, 45, 51, 49]
section
variable {P : Program} {E : Operand → Option Value} {o : Oper} {w : World} {x y : Operand} {T : TypeId}
end
end Go.Proofs.Ytijaldpmpjapiaa

namespace Go.Proofs.Ytijaldpmpjapiaa
open Go.RowKit

end Go.Proofs.Ytijaldpmpjapiaa

namespace Go.Proofs.Ytijaldpmpjapiaa
open Go.RowKit

/-- An earlier place. -/
def earl (k : Int) (at_ : Nat) : Nat := at_ - 1 - (k % 18446744073709551616).toNat % at_
def toldZ (n d : Int) : Int × Int := if 1000 ≤ n ∨ 1000 ≤ d then (1000, 1000) else (n, d)
/-- Trees that are made, in blocks of a list. -/
structure Forest (w : World) (T : List Nat) (es : List Ex) (vs : List Value) : Prop where
  len : vs.length = es.length
  lt : ∀ b ∈ T, b < w.heap.size
  rep : ∀ (i : Nat) (e : Ex) (v : Value), es[i]? = some e → vs[i]? = some v → RepE w (· ∈ T) e v
section
variable {w w' : World} {T : List Nat} {es : List Ex} {vs : List Value}
theorem Forest.keep (h : Forest w T es vs) (hs : w.heap.size ≤ w'.heap.size) (hb : ∀ b ∈ T, w'.heap[b]? = w.heap[b]?) : Forest w' T es vs :=
  ⟨h.len, fun b hm => Nat.lt_of_lt_of_le (h.lt b hm) hs, fun i e v he hv => (h.rep i e v he hv).mono (fun _ h => h) (fun p hp => World.cell?_of_block (hb p.block hp))⟩
theorem Forest.step (h : Forest w T es vs) (hb : Below w.heap.size w w') : Forest w' T es vs := h.keep hb.size (fun b hm => hb.block b (h.lt b hm))
theorem Forest.grown {row : Option Nat} (h : Forest w T es vs) (hg : w.grownBy w' row) (hne : ∀ b, row = some b → b ∉ T) : Forest w' T es vs := h.keep hg.size (fun b hm => hg.block b (h.lt b hm) (fun e => hne b e.symm hm))
theorem Forest.nil (w : World) : Forest w [] [] [] := ⟨rfl, fun b h => (by cases h), fun i e v h => by cases h⟩
theorem Forest.cells (h : Forest w T es vs) : sizes 4 vs := by
  have : ∀ v ∈ vs, v.cells.size = 4 := fun v hv => by
    obtain ⟨k, hk, rfl⟩ := List.getElem_of_mem hv
    obtain ⟨z, hz⟩ : ∃ z, es[k]? = some z := ⟨_, List.getElem?_eq_getElem (by have := h.len; omega)⟩
    exact (h.rep k z _ hz (List.getElem?_eq_getElem hk)).cells4
  clear h
  induction vs with
  | nil => trivial
  | cons v r ih => exact ⟨this v List.mem_cons_self, ih (fun u hu => this u (List.mem_cons_of_mem _ hu))⟩
end
theorem Own.blockLt {w : World} {B size n : Nat} {e : TypeId} {v : Value} {xs : List Value} (h : Own w B e size v n xs) : ∀ b, v.ownBlock = some b → B ≤ b ∧ b < w.heap.size := fun b hb => by
  obtain ⟨h1, h2⟩ := h.row
  rcases h2 with ⟨rfl, -⟩ | ⟨g', cap, cur, rfl, e2, e3, e4⟩
  · cases hb
  · injection hb with hb
    subst hb
    exact ⟨e2, (show Blk w g' e cur from e3).lt⟩
section
variable {P : Program} {ops : Array Oper} {Q : Exit → Act → World → Prop} {rest : List Oper} {o : Oper} {n d : Nat} {F : List (Nat × Value)} {w : World} {v : Value} {x y : Operand}
/-- append, and where its row lies. -/
theorem Seq.append2 {t e B B2 size b k m c : Nat} {A : Option Addr} {z : Value} {xs news : List Value} (ho : o.op = .call { callee := .builtin .append, args := #[x, y], argTypes := #[t, t] }) (hx : evF F x = some v) (hy : evF F y = some (.slice A m c)) (ht : P.underlying t = some (.slice e)) (hs : sizeIs P e size = true) (hz : zeroIs P e = some (some z)) (hzs : z.cells.size = size) (hsz : 0 < size) (hby : (P.info? e).map (·.bytes) = some b)
    (hown : Own w B e size v k xs) (hr : Reads w B2 size A m news) (h1 : ∀ u ∈ news, u.oneCell' = true) (hB : B ≤ w.heap.size) (h63 : k + m ≤ maxLen) (hbytes : (k + m) * b ≤ 140737488355328) (hg : o.guard = none) (hd : o.dst = some d) (hn : Nat.blt d n = true)
    (h : ∀ v' w', Own w' B e size v' (k + m) (xs ++ news) → App w w' B v → (v'.ownBlock = v.ownBlock ∨ v'.ownBlock = some w.heap.size) → Seq P ops Q rest n ((d, v') :: F) w') : Seq P ops Q (o :: rest) n F w := by
  obtain ⟨i, hi, hisz⟩ := sizeIs_spec hs
  have hz' : i.zero = some z := by unfold zeroIs at hz; rw [hi] at hz; injection hz
  have hb' : i.bytes = b := by rw [hi] at hby; injection hby
  obtain ⟨v', w', hrun, h2, h3, h4⟩ := run_append_any (P := P) w B t o.type e i z size b ht hi hz' hisz hb' hzs hsz v k xs hown.row B2 A m c news hr h1 h63 hbytes hB
  refine Seq.val (v := v') (w' := w') (fun ρ hρ => ?_) hg hd hn (h v' w' ⟨h2⟩ ⟨?_, h3⟩ h4)
  · unfold execOp
    simp only [ho, resolve, invoke, builtin, Sem.run_bind, Sem.run_pure, Result.andThen_ok, List.map_toArray, List.map_cons, List.map_nil, hρ _ _ hx, hρ _ _ hy, hrun]
  · refine ⟨h3.os, h3.tape, h3.output, h3.size, fun j hj => h3.block j (by omega) fun e' => ?_⟩
    rcases hown.row.2 with ⟨rfl, _⟩ | ⟨g, cap, cur, rfl, hBg, _⟩
    · cases e'
    · injection e' with e'
      have : j = g := e'
      omega
end
end Go.Proofs.Ytijaldpmpjapiaa

namespace Go.Proofs.Ytijaldpmpjapiaa
open Go.RowKit

/-- A leaf. -/
structure Lf where
  op : Int
  n : Int
  name : List Nat
  kids : List Int
structure Lf.rng (x : Lf) : Prop where
  op : I64 x.op
  n : I64 x.n
  name : ∀ d ∈ x.name, d < 256
  nlen : x.name.length ≤ 9223372036854775807
def zNodes (e : Ex) : Int := (toldZ (e.nodes : Int) (e.depth : Int)).1
def zDepth (e : Ex) : Int := (toldZ (e.nodes : Int) (e.depth : Int)).2
def sumN : List Ex → Int
  | [] => 0
  | e :: r => zNodes e + sumN r
def maxD : List Ex → Int
  | [] => 0
  | e :: r => max (zDepth e) (maxD r)
/-- What a leaf has within. -/
def pickK (es : List Ex) (ks : List Int) : List Ex := ks.filterMap fun k => if es.length = 0 then none else es[earl k es.length]?
def leafE (es : List Ex) (x : Lf) : Ex := .mk x.op x.n x.name (pickK es (x.kids.take 5))
def addE (es : List Ex) (x : Lf) : List Ex := es ++ [leafE es x]
/-- The expressions of leaves. -/
def treesOf (ls : List Lf) : List Ex := ls.foldl addE []
/-- Ints, as cells. -/
def DI (l : List Int) : List Value := l.map fun z => .int .i64 z
theorem get_DI (l : List Int) (k : Nat) : (DI l)[k]? = l[k]?.map (Value.int .i64) := by simp [DI]
theorem flatC_append (a b : List Value) : flatC (a ++ b) = flatC a ++ flatC b := by
  induction a with
  | nil => rfl
  | cons v r ih => show v.cells.toList ++ flatC (r ++ b) = (v.cells.toList ++ flatC r) ++ flatC b; rw [ih, List.append_assoc]
/-- Leaves that lie in memory. -/
def LfAt (w : World) (B : Nat) (A : Option Addr) (xs : List Lf) : Prop := ∀ i x, xs[i]? = some x → ∃ ad A' c, A = some ad ∧ ad.block < B ∧ Reads w B 1 A' x.kids.length (DI x.kids) ∧ ∀ (j : Nat) (u : Value), ([.int .i64 x.op, .int .i64 x.n, .string (strOf x.name), .slice A' x.kids.length c] : List Value)[j]? = some u → w.cell? ((ad.add (i * 4)).add j) = some u
theorem LfAt.below {w w' : World} {B : Nat} {A : Option Addr} {xs : List Lf} (h : LfAt w B A xs) (hb : Below B w w') : LfAt w' B A xs := fun i x hx => by
  obtain ⟨ad, A', c, e1, e2, e3, e4⟩ := h i x hx
  exact ⟨ad, A', c, e1, e2, e3.below hb, fun j u hu => (hb.cell (by rw [block_of_add, block_of_add]; exact e2)).trans (e4 j u hu)⟩
/-- A slice that may lie nowhere: its blocks. -/
def blocksOf (v : Value) : List Nat := v.ownBlock.toList
theorem mem_blocksOf {v : Value} {b : Nat} : b ∈ blocksOf v ↔ v.ownBlock = some b := by
  unfold blocksOf; cases v.ownBlock <;> simp [eq_comm]
/-- A forest that has one tree more. -/
theorem Forest.more {w : World} {T : List Nat} {es args : List Ex} {vs avs : List Value} {B : Nat} {o n : Int} {nm : List Nat} {vA : Value} (h : Forest w T es vs) (hl : avs.length = args.length) (h60 : args.length ≤ 1000) (hop : I64 o) (hn : I64 n) (hnm : ∀ d ∈ nm, d < 256) (hnl : nm.length ≤ 9223372036854775807)
    (hr : ∀ (i : Nat) (e : Ex) (v : Value), args[i]? = some e → avs[i]? = some v → RepE w (· ∈ T) e v) (hA : Own w B 35 4 vA args.length (flatC avs)) :
    Forest w (blocksOf vA ++ T) (es ++ [.mk o n nm args]) (vs ++ [.agg #[.int .i64 o, .int .i64 n, .string (strOf nm), vA]]) := by
  obtain ⟨A, c, hv, hrd⟩ := hA.reads
  have hbl := hA.blockLt
  refine ⟨by rw [List.length_append, List.length_append, h.len]; rfl, fun b hm => ?_, fun i e v he hvi => ?_⟩
  · rcases List.mem_append.1 hm with hm | hm
    · exact (hbl b (mem_blocksOf.1 hm)).2
    · exact h.lt b hm
  · rcases Nat.lt_or_ge i es.length with hi | hi
    · rw [List.getElem?_append_left hi] at he
      rw [List.getElem?_append_left (by rw [h.len]; exact hi)] at hvi
      exact (h.rep i e v he hvi).mono (fun b hb => List.mem_append_right _ hb) (fun _ _ => rfl)
    · rw [List.getElem?_append_right hi] at he
      rw [List.getElem?_append_right (by rw [h.len]; exact hi), h.len] at hvi
      have h0 : i - es.length = 0 := by
        have := (List.getElem?_eq_some_iff.1 he).1
        simp at this
        exact this
      rw [h0] at he hvi
      injection he with he
      injection hvi with hvi
      subst he hvi
      subst hv
      refine .mk hl h60 hop hn hnm hnl (fun i e v he hv => (hr i e v he hv).mono (fun b hb => List.mem_append_right _ hb) (fun _ _ => rfl)) fun hne => ?_
      have hpos : 0 < args.length := by
        rcases Nat.eq_zero_or_pos args.length with h0 | h0
        · have : avs = [] := List.eq_nil_of_length_eq_zero (by omega)
          rw [this] at hne
          exact absurd rfl hne
        · exact h0
      obtain ⟨ad, rfl, -, hc⟩ := hrd.2 hpos
      exact ⟨ad, rfl, List.mem_append_left _ (mem_blocksOf.2 rfl), hc⟩
end Go.Proofs.Ytijaldpmpjapiaa

namespace Go.Proofs.Ytijaldpmpjapiaa
open Go.RowKit

theorem Own.app {B B2 B' n n2 size size2 : Nat} {w w' : World} {e e2 : TypeId} {v v2 : Value} {xs xs2 : List Value} (h : Own w B e size v n xs) (o : Own w B2 e2 size2 v2 n2 xs2) (ha : App w w' B' v2) (hne : e2 ≠ e := by decide) : Own w' B e size v n xs := by
  refine ⟨h.row.kept ha.grown ?_⟩
  obtain ⟨h1, h2⟩ := h.row
  rcases h2 with ⟨rfl, -⟩ | ⟨g', cap, cur, rfl, e2, e3, e4⟩
  · exact .inl rfl
  · exact .inr fun e' => own_blk_ne o.row (show Blk w g' e cur from e3) hne e'.symm
theorem Blk.app {k n B B' size : Nat} {w w' : World} {t e : TypeId} {cs : Array Value} {v : Value} {xs : List Value} (h : Blk w k t cs) (o : Own w B e size v n xs) (ha : App w w' B' v) (hne : e ≠ t := by decide) : Blk w' k t cs := h.grown ha.grown (fun e' => own_blk_ne o.row h hne e'.symm)
theorem Forest.put {w w' : World} {T : List Nat} {es : List Ex} {vs : List Value} {g B : Nat} {t : TypeId} {cur cs : Array Value} (h : Forest w T es vs) (_k : Blk w g t cur) (p : Put w w' g t cs) (_e : B ≤ g) (hne : g ∉ T := by assumption) : Forest w' T es vs :=
  h.grown p.grown fun b e => by injection e with e; exact e ▸ hne
/-- A slice of the call's own, not among blocks. -/
def Apart (v : Value) (T : List Nat) : Prop := ∀ b, v.ownBlock = some b → b ∉ T
theorem Apart.more {v vA : Value} {T : List Nat} {N : Nat} (h : Apart v T) (hlt : ∀ b, v.ownBlock = some b → b < N) (hA : ∀ b, vA.ownBlock = some b → N ≤ b) : Apart v (blocksOf vA ++ T) := fun b hb hm => by
  rcases List.mem_append.1 hm with hm | hm
  · have := hlt b hb; have := hA b (mem_blocksOf.1 hm); omega
  · exact h b hb hm
theorem Apart.app {v v' : Value} {T : List Nat} {N : Nat} (h : Apart v T) (hlt : ∀ b ∈ T, b < N) (hv : v'.ownBlock = v.ownBlock ∨ v'.ownBlock = some N) : Apart v' T := fun b hb hm => by
  rcases hv with hv | hv
  · exact h b (hv ▸ hb) hm
  · rw [hv] at hb; injection hb with hb; subst hb; exact Nat.lt_irrefl _ (hlt _ hm)
theorem Forest.app {w w' : World} {T : List Nat} {es : List Ex} {vs : List Value} {B : Nat} {v : Value} (h : Forest w T es vs) (hv : Apart v T) (ha : App w w' B v) : Forest w' T es vs := h.grown ha.grown fun b e => hv b e
/-- Two slices, not in one block. -/
def Two (v u : Value) : Prop := ∀ b, v.ownBlock = some b → u.ownBlock ≠ some b
theorem Two.symm {v u : Value} (h : Two v u) : Two u v := fun b hb hv => h b hv hb
theorem Two.app {v u u' : Value} {N : Nat} (h : Two v u) (hlt : ∀ b, v.ownBlock = some b → b < N) (hu : u'.ownBlock = u.ownBlock ∨ u'.ownBlock = some N) : Two v u' := fun b hb hm => by
  rcases hu with hu | hu
  · exact h b hb (hu ▸ hm)
  · rw [hu] at hm; injection hm with hm; subst hm; exact Nat.lt_irrefl _ (hlt _ hb)
/-- What Build answers. -/
def BuiltR (B : Nat) (es : List Ex) (v : Value) (w : World) : Prop := ∃ T vs vE vN vD, v = .agg #[vE, vN, vD, .slice none 0 0, .slice none 0 0, .slice none 0 0] ∧ Forest w T es vs ∧ Own w B 35 4 vE es.length (flatC vs) ∧ Own w B 3 1 vN es.length (DI (es.map zNodes)) ∧ Own w B 3 1 vD es.length (DI (es.map zDepth))
end Go.Proofs.Ytijaldpmpjapiaa

namespace Go.Proofs.Ytijaldpmpjapiaa
open Go.RowKit

/-- A tree's values. -/
def treeV (n : Nat) (AE AN AD : Option Addr) (cE cN cD : Nat) : Value := .agg #[.slice AE n cE, .slice AN n cN, .slice AD n cD, .slice none 0 0, .slice none 0 0, .slice none 0 0]
structure TreeR (w : World) (B : Nat) (es : List Ex) (AE AN AD : Option Addr) : Prop where
  expr : ∀ i e, es[i]? = some e → ∃ ad A' c', AE = some ad ∧ ad.block < B ∧ Rep w B e (.agg #[.int .i64 e.op, .int .i64 e.n, .string (strOf e.name), .slice A' e.args.length c']) ∧ ∀ (j : Nat) (u : Value), ([.int .i64 e.op, .int .i64 e.n, .string (strOf e.name), .slice A' e.args.length c'] : List Value)[j]? = some u → w.cell? ((ad.add (i * 4)).add j) = some u
  nodes : Reads w B 1 AN es.length (DI (es.map zNodes))
  deps : Reads w B 1 AD es.length (DI (es.map zDepth))
theorem TreeR.below {w w' : World} {B : Nat} {es : List Ex} {AE AN AD : Option Addr} (h : TreeR w B es AE AN AD) (hb : Below B w w') : TreeR w' B es AE AN AD :=
  ⟨fun i e he => by
    obtain ⟨ad, A', c', e1, e2, e3, e4⟩ := h.expr i e he
    exact ⟨ad, A', c', e1, e2, e3.below hb, fun j u hu => (hb.cell (by rw [block_of_add, block_of_add]; exact e2)).trans (e4 j u hu)⟩, h.nodes.below hb, h.deps.below hb⟩
theorem BuiltR.tree {B : Nat} {es : List Ex} {v : Value} {w : World} (h : BuiltR B es v w) : ∃ AE AN AD cE cN cD, v = treeV es.length AE AN AD cE cN cD ∧ TreeR w w.heap.size es AE AN AD := by
  obtain ⟨T, vs, vE, vN, vD, rfl, fo, oE, oN, oD⟩ := h
  have h4 : ∀ y ∈ vs, y.cells.size = 4 := sizes_spec fo.cells
  obtain ⟨AE, cE, rfl, hE⟩ := oE.reads
  obtain ⟨AN, cN, rfl, hN⟩ := oN.reads
  obtain ⟨AD, cD, rfl, hD⟩ := oD.reads
  refine ⟨AE, AN, AD, cE, cN, cD, rfl, fun i e he => ?_, hN, hD⟩
  have hi := (List.getElem?_eq_some_iff.1 he).1
  obtain ⟨ev, hev⟩ : ∃ ev, vs[i]? = some ev := ⟨_, List.getElem?_eq_getElem (by rw [fo.len]; omega)⟩
  have hre := fo.rep i e ev he hev
  obtain ⟨A', c', rfl⟩ := hre.form
  obtain ⟨ad, rfl, hb, hc⟩ := hE.2 (by omega)
  exact ⟨ad, A', c', rfl, hb, hre.mono (fun b hm => fo.lt b hm) (fun _ _ => rfl), fun j u hu => by rw [add_of_add]; exact hc _ _ (flatC_at h4 hev j u (by simpa [Value.cells] using hu))⟩
/-- Whether an expression is right. -/
def rightB (e : Ex) : Bool := decide (e.nodes ≤ 200) && decide (e.depth ≤ 16) && builtB e
end Go.Proofs.Ytijaldpmpjapiaa

namespace Go.Proofs.Ytijaldpmpjapiaa
open Go.RowKit

def yearZ (y : Int) : Int := if leapB y then 366 else 365
/-- A number in so many digits. -/
def digR (v : Nat) : Nat → List Nat
  | 0 => []
  | n + 1 => (48 + v / 10 ^ n % 10) :: digR v n
def printD (y m d : Nat) : List Nat := digR y 4 ++ [45] ++ digR m 2 ++ [45] ++ digR d 2
end Go.Proofs.Ytijaldpmpjapiaa

namespace Go.Proofs.Ytijaldpmpjapiaa
open Go.RowKit

def rawV (l : List Nat) : Int := l.foldl (fun (v : Int) (c : Nat) => 10 * v + (c : Int) - 48) 0
end Go.Proofs.Ytijaldpmpjapiaa

namespace Go.Proofs.Ytijaldpmpjapiaa
open Go.RowKit

/-- The first day of a year of an era. -/
def eraS (y : Nat) : Nat := 365 * y + y / 4 - y / 100 + y / 400
/-- The year of a day of an era. -/
def eraY (e : Nat) : Nat := (e - e / 1460 + e / 36524 - e / 146096) / 365
def tabY (y : Nat) : Bool := Nat.beq (eraY (eraS y)) y && Nat.beq (eraY (eraS (y + 1) - 1)) y && Nat.blt (eraS y) (eraS (y + 1)) && Nat.ble (eraS (y + 1)) 146097
/-- A month, and a day of it, of a day of a year that begins with March. -/
def lenM (m : Nat) : Nat := [31, 30, 31, 30, 31, 31, 30, 31, 30, 31, 31, 29].getD m 0
def tabM (t : Nat) : Bool := Nat.ble ((5 * t + 2) / 153) 11 && Nat.ble ((153 * ((5 * t + 2) / 153) + 2) / 5) t && Nat.blt (t - (153 * ((5 * t + 2) / 153) + 2) / 5) (lenM ((5 * t + 2) / 153)) && (!(Nat.beq (t - (153 * ((5 * t + 2) / 153) + 2) / 5) 28 && Nat.beq ((5 * t + 2) / 153) 11) || Nat.beq t 365)
def yT (e : Nat) : Nat := e - eraS (eraY e)
def mT (e : Nat) : Nat := (5 * yT e + 2) / 153
def dT (e : Nat) : Nat := yT e - (153 * mT e + 2) / 5 + 1
def cY (q e : Nat) : Nat := if 10 ≤ mT e then q * 400 + eraY e + 1 else q * 400 + eraY e
def cM (e : Nat) : Nat := if 10 ≤ mT e then mT e - 9 else mT e + 3
/-- A day's text. -/
def dayT (n : Nat) : List Nat := printD (cY ((n + 719468) / 146097) ((n + 719468) % 146097)) (cM ((n + 719468) % 146097)) (dT ((n + 719468) % 146097))
end Go.Proofs.Ytijaldpmpjapiaa

namespace Go.Proofs.Ytijaldpmpjapiaa
open Go.RowKit

end Go.Proofs.Ytijaldpmpjapiaa

namespace Go.Proofs.Ytijaldpmpjapiaa
open Go.RowKit

/-- The number of some digits, the lowest first. -/
def val : List Nat → Nat
  | [] => 0
  | d :: l => d + 65536 * val l
/-- A number's digits, the lowest first, none above it nought. -/
def digs (n : Nat) : List Nat := if n = 0 then [] else n % 65536 :: digs (n / 65536)
termination_by n
decreasing_by omega
theorem digs_zero : digs 0 = [] := by rw [digs]; simp
/-- Digits as cells. -/
def U (l : List Nat) : List Value := l.map fun (d : Nat) => Value.int .u64 (d : Int)
theorem get_U (l : List Nat) (k : Nat) : (U l)[k]? = l[k]?.map fun (d : Nat) => Value.int .u64 (d : Int) := by simp [U]
end Go.Proofs.Ytijaldpmpjapiaa

namespace Go.Proofs.Ytijaldpmpjapiaa
open Go.RowKit

/-- A slice that holds a number's digits. -/
def MagR (w : World) (v : Value) (n : Nat) : Prop := ∃ A c, v = .slice A (digs n).length c ∧ (digs n).length ≤ c ∧ c ≤ 9223372036854775807 ∧ Reads w w.heap.size 1 A (digs n).length (U (digs n))
/-- Its block is none of the old ones. -/
def Fresh (base : Nat) (v : Value) : Prop := match v with
  | .slice (some A) _ _ => base ≤ A.block
  | _ => True
theorem Fresh.mono {b b' : Nat} {v : Value} (h : Fresh b v) (hb : b' ≤ b) : Fresh b' v := by
  unfold Fresh at *
  split <;> first | trivial | (simp only at h; omega)
theorem MagR.step {w w' : World} {v : Value} {n : Nat} (h : MagR w v n) (hb : Below w.heap.size w w') : MagR w' v n := by
  obtain ⟨A, c, e, h1, h2, h3⟩ := h
  exact ⟨A, c, e, h1, h2, (h3.below hb).more hb.size⟩
theorem MagR.drewN {w : World} {v : Value} {n : Nat} (h : MagR w v n) (k : Nat) : MagR (w.drewN k) v n := h
theorem MagR.nil (w : World) (c : Nat) (hc : c ≤ 9223372036854775807) : MagR w (.slice none 0 c) 0 := ⟨none, c, by rw [digs_zero]; rfl, by rw [digs_zero]; simp, hc, by rw [digs_zero]; exact Reads.none_⟩

/-- How two numbers stand. -/
def cmpZ (a b : Int) : Int := if a < b then -1 else if a = b then 0 else 1
def cmpN (a b : Nat) : Int := if a < b then -1 else if a = b then 0 else 1

end Go.Proofs.Ytijaldpmpjapiaa

namespace Go.Proofs.Ytijaldpmpjapiaa
open Go.RowKit

end Go.Proofs.Ytijaldpmpjapiaa

namespace Go.Proofs.Ytijaldpmpjapiaa
open Go.RowKit

end Go.Proofs.Ytijaldpmpjapiaa

namespace Go.Proofs.Ytijaldpmpjapiaa
open Go.RowKit

/-- A Big that is a number. -/
def BigR (w : World) (v : Value) (z : Int) : Prop := ∃ m, v = .agg #[.bool (decide (z < 0)), m] ∧ MagR w m z.natAbs
theorem BigR.step {w w' : World} {v : Value} {z : Int} (h : BigR w v z) (hb : Below w.heap.size w w') : BigR w' v z := by
  obtain ⟨m, e, h⟩ := h
  exact ⟨m, e, h.step hb⟩
/-- A store into a block that holds no numbers changes no digits. -/
theorem Reads.other {w w' : World} {B n g : Nat} {A : Option Addr} {l : List Nat} {cs : Array Value} {t : TypeId} {fr : Nat × Nat} (h : Reads w B 1 A n (U l)) (hg : w.heap[g]? = some (.cells cs t fr)) (hcs : ∀ (k : IntKind) (z : Int), Value.int k z ∉ cs.toList)
    (hgr : w.grownBy w' (some g)) : Reads w' B 1 A n (U l) := by
  refine ⟨h.1, fun hn => ?_⟩
  obtain ⟨ad, hA, hb, hc⟩ := h.2 hn
  refine ⟨ad, hA, hb, fun j u hu => ?_⟩
  have h1 := hc j u hu
  have hne : (ad.add j).block ≠ g := by
    intro he
    rw [get_U] at hu
    cases hl : l[j]? with
    | none => rw [hl] at hu; cases hu
    | some d =>
      rw [hl] at hu
      injection hu with hu
      subst hu
      unfold World.cell? at h1
      rw [he, hg] at h1
      simp only at h1
      split at h1
      · cases h1
      · exact hcs _ _ (Array.mem_toList_iff.2 (Array.mem_of_getElem? h1))
  have hlt : (ad.add j).block < w.heap.size := by
    unfold World.cell? at h1
    rcases Nat.lt_or_ge (ad.add j).block w.heap.size with h2 | h2
    · exact h2
    · rw [Array.getElem?_eq_none h2] at h1; cases h1
  rw [← h1]
  unfold World.cell?
  rw [hgr.block _ hlt (by intro e; injection e with e; exact hne e)]
theorem MagR.other {w w' : World} {n g : Nat} {v : Value} {cs : Array Value} {t : TypeId} {fr : Nat × Nat} (h : MagR w v n) (hg : w.heap[g]? = some (.cells cs t fr)) (hcs : ∀ (k : IntKind) (z : Int), Value.int k z ∉ cs.toList)
    (hgr : w.grownBy w' (some g)) : MagR w' v n := by
  obtain ⟨A, c, e, h1, h2, h3⟩ := h
  exact ⟨A, c, e, h1, h2, (h3.other hg hcs hgr).more hgr.size⟩

end Go.Proofs.Ytijaldpmpjapiaa

namespace Go.Proofs.Ytijaldpmpjapiaa
open Go.RowKit

theorem MagR.put {w w' : World} {v : Value} {n g : Nat} {T : TypeId} {cur cs : Array Value} {B : Nat} (h : MagR w v n) (k : Blk w g T cur) (p : Put w w' g T cs) (_e : B ≤ g) (hcs : ∀ (k : IntKind) (z : Int), Value.int k z ∉ cur.toList := by simp [Value.cells, *]) : MagR w' v n := h.other k hcs p.grown
theorem MagR.one {w : World} {v : Value} {n : Nat} (h : MagR w v n) : v.oneCell' = true := by obtain ⟨A, c, rfl, _⟩ := h; rfl

theorem BigR.stable (z : Int) : ∀ v w w', Grow w w' → BigR w v z → BigR w' v z := fun _ _ _ hG h => h.step hG
theorem MagR.stable (z : Nat) : ∀ v w w', Grow w w' → MagR w v z → MagR w' v z := fun _ _ _ hG h => h.step hG

/-- A bound that all numbers here keep. -/
def big : Nat := 65536 ^ 60
end Go.Proofs.Ytijaldpmpjapiaa

namespace Go.Proofs.Ytijaldpmpjapiaa
open Go.RowKit

theorem BigR.agg {w : World} {v : Value} {z : Int} (h : BigR w v z) : ∃ m, v = .agg #[.bool (decide (z < 0)), m] ∧ m.oneCell' = true ∧ MagR w m z.natAbs := by
  obtain ⟨m, e, hm⟩ := h
  exact ⟨m, e, hm.one, hm⟩
theorem BigR.put {w w' : World} {v : Value} {z : Int} {g B : Nat} {T : TypeId} {cur cs : Array Value} (h : BigR w v z) (k : Blk w g T cur) (p : Put w w' g T cs) (e : B ≤ g) (hcs : ∀ (k : IntKind) (z : Int), Value.int k z ∉ cur.toList := by simp [Value.cells, *]) : BigR w' v z := by
  obtain ⟨m, e1, hm⟩ := h
  exact ⟨m, e1, hm.put k p e hcs⟩
end Go.Proofs.Ytijaldpmpjapiaa

namespace Go.Proofs.Ytijaldpmpjapiaa
open Go.RowKit

end Go.Proofs.Ytijaldpmpjapiaa

namespace Go.Proofs.Ytijaldpmpjapiaa
open Go.RowKit

/-- The number of the digits from k on. -/
def valFrom (l : List Nat) (k : Nat) : Nat := val (l.drop k)
end Go.Proofs.Ytijaldpmpjapiaa

namespace Go.Proofs.Ytijaldpmpjapiaa
open Go.RowKit

theorem digs_0 : digs 0 = [] := by unfold digs; rfl
theorem MagR.zero (w : World) : MagR w (.slice none 0 0) 0 := ⟨none, 0, by rw [digs_0]; rfl, by rw [digs_0]; simp, by omega, by rw [digs_0]; exact Reads.none_⟩
theorem Reads.otherU {w w' : World} {B n g : Nat} {A : Option Addr} {l : List Nat} {cs : Array Value} {t : TypeId} {fr : Nat × Nat} (h : Reads w B 1 A n (U l)) (hg : w.heap[g]? = some (.cells cs t fr)) (hcs : ∀ (z : Int), Value.int .u64 z ∉ cs.toList)
    (hgr : w.grownBy w' (some g)) : Reads w' B 1 A n (U l) := by
  refine ⟨h.1, fun hn => ?_⟩
  obtain ⟨ad, hA, hb, hc⟩ := h.2 hn
  refine ⟨ad, hA, hb, fun j u hu => ?_⟩
  have h1 := hc j u hu
  have hne : (ad.add j).block ≠ g := by
    intro he
    rw [get_U] at hu
    cases hl : l[j]? with
    | none => rw [hl] at hu; cases hu
    | some d =>
      rw [hl] at hu
      injection hu with hu
      subst hu
      unfold World.cell? at h1
      rw [he, hg] at h1
      simp only at h1
      split at h1
      · cases h1
      · exact hcs _ (Array.mem_toList_iff.2 (Array.mem_of_getElem? h1))
  have hlt : (ad.add j).block < w.heap.size := by
    unfold World.cell? at h1
    rcases Nat.lt_or_ge (ad.add j).block w.heap.size with h2 | h2
    · exact h2
    · rw [Array.getElem?_eq_none h2] at h1; cases h1
  rw [← h1]
  unfold World.cell?
  rw [hgr.block _ hlt (by intro e; injection e with e; exact hne e)]
structure MagU (w : World) (m : Value) (n : Nat) : Prop where
  mag : MagR w m n
theorem MagU.step {w w' : World} {m : Value} {n : Nat} (h : MagU w m n) (hb : Below w.heap.size w w') : MagU w' m n := ⟨h.mag.step hb⟩
theorem MagU.put {w w' : World} {m : Value} {n g B : Nat} {T : TypeId} {cur cs : Array Value} (h : MagU w m n) (k : Blk w g T cur) (p : Put w w' g T cs) (_e : B ≤ g) (hcs : ∀ (z : Int), Value.int .u64 z ∉ cur.toList := by simp [Value.cells, *]) : MagU w' m n := by
  obtain ⟨A, c, e, h1, h2, h3⟩ := h.mag
  exact ⟨A, c, e, h1, h2, (h3.otherU k hcs p.grown).more p.grown.size⟩
theorem MagU.big {w : World} {m : Value} {r : Nat} (h : MagU w m r) : BigR w (.agg [Value.bool false, m].toArray) (r : Int) := ⟨m, by rw [decide_eq_false (show ¬ (r : Int) < 0 by omega)], by rw [Int.natAbs_natCast]; exact h.mag⟩
end Go.Proofs.Ytijaldpmpjapiaa

namespace Go.Proofs.Ytijaldpmpjapiaa
open Go.RowKit

/-- The bytes of the first k rounds, the last first. -/
def prR (u d k : Nat) : List Nat := (prB u d k).reverse
end Go.Proofs.Ytijaldpmpjapiaa

namespace Go.Proofs.Ytijaldpmpjapiaa
open Go.RowKit

end Go.Proofs.Ytijaldpmpjapiaa

namespace Go.Proofs.Ytijaldpmpjapiaa
open Go.RowKit

/-- The numbers behind so many bytes. -/
def idxD (k : Nat) : Nat := if 7 < k then 2 else if 4 < k then 1 else 0
def rawS (l : List Nat) : Nat → List Int
  | 0 => [0, 0, 0]
  | k + 1 => if k = 4 ∨ k = 7 then rawS l k else (rawS l k).set (idxD k) (10 * (rawS l k).getD (idxD k) 0 + (l.getD k 0 : Int) - 48)
end Go.Proofs.Ytijaldpmpjapiaa

namespace Go.Proofs.Ytijaldpmpjapiaa
open Go.RowKit

section
variable {P : Program} {n : Nat} {F : List (Nat × Value)} {w : World} {v : Value}
end
theorem Own.base {w : World} {B B' size n : Nat} {e : TypeId} {v : Value} {xs : List Value} (h : Own w B e size v n xs) (hb : B' ≤ B) : Own w B' e size v n xs := ⟨⟨h.row.1, h.row.2.imp id fun ⟨g, cap, cur, e1, e2, r⟩ => ⟨g, cap, cur, e1, Nat.le_trans hb e2, r⟩⟩⟩
end Go.Proofs.Ytijaldpmpjapiaa

namespace Go.Proofs.Ytijaldpmpjapiaa
open Go.RowKit

/-- Nothing but one block has changed. -/
structure Only (w0 w : World) (g : Nat) : Prop where
  row : w0.grownBy w (some g)
theorem Only.step {w0 w w' : World} {g : Nat} (h : Only w0 w g) (hb : Below w.heap.size w w') : Only w0 w' g := ⟨only_below h.row hb⟩
theorem Only.put {w0 w w' : World} {g B : Nat} {T : TypeId} {cur cs : Array Value} (h : Only w0 w g) (_k : Blk w g T cur) (p : Put w w' g T cs) (_e : B ≤ g) : Only w0 w' g := ⟨only_trans h.row p.grown⟩
/-- The first i and the last i have changed places. -/
def turned (xs : List Value) (n i j : Nat) : Option Value := if j < i ∨ n ≤ j + i then xs[n - 1 - j]? else xs[j]?
theorem Own.blk {w : World} {B n : Nat} {e : TypeId} {v : Value} {xs : List Value} (h : Own w B e 1 v n xs) (h0 : 0 < n) : ∃ g cap cur, v = .slice (some ⟨g, 0, none⟩) n cap ∧ B ≤ g ∧ Blk w g e cur ∧ n ≤ cap ∧ cap ≤ maxLen ∧ cur.size = cap ∧ xs.length = n ∧ ∀ j, j < n → cur[j]? = xs[j]? := by
  obtain ⟨hl, ⟨_, h1⟩ | ⟨g, cap, cur, rfl, h1, h2, h3, h4, h5, h6⟩⟩ := h.row
  · omega
  · refine ⟨g, cap, cur, rfl, h1, h2, h3, h4, by omega, by omega, fun j hj => ?_⟩
    rw [← h6, List.getElem?_take_of_lt (by omega)]
    simp

end Go.Proofs.Ytijaldpmpjapiaa

namespace Go.Proofs.Ytijaldpmpjapiaa
open Go.RowKit

/-- How many rounds a number's text takes. -/
def numN (u : Nat) : Nat := ((List.range 21).find? fun N => !(decide (0 < u / 10 ^ N) || decide (N ≤ 0))).getD 0
/-- A whole number's text. -/
def numT (n : Int) : List Nat := printed n 0 (numN n.natAbs)
def signS : List (List Nat) := [[43], [45], [42], [47], [], [], [60], [60, 61], [61], [33, 61], [62, 61], [62], [38], [124], [33], [45]]
def signP : List Int := [4, 4, 5, 5, 7, 7, 3, 3, 3, 3, 3, 3, 2, 1, 6, 6]
/-- An op's sign, and how tightly it binds. -/
def bindT (op : Int) : List Nat × Int := if op < 5 ∨ 20 < op then ([], 7) else (signS.getD (op - 5).toNat [], signP.getD (op - 5).toNat 7)
/-- A text, in parentheses if it binds less tightly than it must. -/
def parT (least : Int) (x : Int × List Nat) : List Nat := if x.1 < least then [40] ++ x.2 ++ [41] else x.2
def joinT : List (List Nat) → List Nat
  | [] => []
  | s :: r => s ++ (r.flatMap fun t => [44, 32] ++ t)
/-- What an op's text is, by the texts within. -/
def headT (op n : Int) (nm : List Nat) (l : List (Int × List Nat)) : List Nat :=
  if op = 1 then numT n else if op = 2 then dayT n.toNat else if op = 3 then nm else if op = 4 then [100, 97, 121]
  else if (bindT op).2 = 6 then (bindT op).1 ++ parT 6 (l.getD 0 (7, []))
  else if (bindT op).2 = 3 then parT 4 (l.getD 0 (7, [])) ++ [32] ++ (bindT op).1 ++ [32] ++ parT 4 (l.getD 1 (7, []))
  else if (bindT op).2 < 6 then parT (bindT op).2 (l.getD 0 (7, [])) ++ [32] ++ (bindT op).1 ++ [32] ++ parT ((bindT op).2 + 1) (l.getD 1 (7, []))
  else (if op = 9 then [109, 105, 110, 40] else if op = 10 then [109, 97, 120, 40] else [105, 102, 40]) ++ joinT (l.map (·.2)) ++ [41]
mutual
def exprT : Ex → List Nat
  | .mk op n nm l => headT op n nm (exprTL l)
def exprTL : List Ex → List (Int × List Nat)
  | [] => []
  | e :: r => ((bindT e.op).2, exprT e) :: exprTL r
end
def pairT (e : Ex) : Int × List Nat := ((bindT e.op).2, exprT e)
def inT (e : Ex) (least : Int) : List Nat := parT least (pairT e)
end Go.Proofs.Ytijaldpmpjapiaa

namespace Go.Proofs.Ytijaldpmpjapiaa
open Go.RowKit

end Go.Proofs.Ytijaldpmpjapiaa

namespace Go.Proofs.Ytijaldpmpjapiaa
open Go.RowKit

end Go.Proofs.Ytijaldpmpjapiaa

namespace Go.Proofs.Ytijaldpmpjapiaa
open Go.RowKit

section
variable {P : Program} {Q : Exit → Act → World → Prop} {n : Nat} {F F' : List (Nat × Value)} {w : World}
def JoinD (n : Nat) (F : List (Nat × Value)) (J : Inhabited (List Deferred) → World → Prop) (a : Act) (w : World) : Prop := ∃ I, @Fr I n F a ∧ J I w
end
end Go.Proofs.Ytijaldpmpjapiaa

namespace Go.Proofs.Ytijaldpmpjapiaa
open Go.RowKit

theorem WrRet.trans {B g : Nat} {bs : List Nat} {w w1 w2 : World} {e : Ending} (h : Wt B w w1) (k : WrRet B g bs w1 e w2) : WrRet B g bs w e w2 := ⟨k.1, h.wt k.2.1, k.2.2⟩
end Go.Proofs.Ytijaldpmpjapiaa

namespace Go.Proofs.Ytijaldpmpjapiaa
open Go.RowKit

/-- What is known of the expressions within. -/
def RecW (B g L : Nat) (w : World) (e : Ex) (A : Option Addr) : Prop := ∀ (i : Nat) (x : Ex), e.args[i]? = some x → ∃ ad A' c', A = some ad ∧
  (∀ W, Below B w W → ∀ (j : Nat) (u : Value), ([.int .i64 x.op, .int .i64 x.n, .string (strOf x.name), .slice A' x.args.length c'] : List Value)[j]? = some u → W.cell? ((ad.add (i * 4)).add j) = some u) ∧
  (∀ W bs' least, Below B w W → Bw W B g bs' → I64 least → bs'.length ≤ L → Calls Try.prog 43 #[.pointer (some ⟨g, 0, none⟩), .agg #[.int .i64 x.op, .int .i64 x.n, .string (strOf x.name), .slice A' x.args.length c'], .int .i64 least] W (WrRet B g (bs' ++ inT x least) W))
/-- Where the ways meet, with the parenthesis or without. -/
def ExJ (Q : Exit → Act → World → Prop) (B g g3 g4 n m : Nat) (bs T : List Nat) (cs : Array Value) (w : World) (I : Inhabited (List Deferred)) (wc : World) : Prop :=
  Wt B w wc ∧ Blk wc g3 77 #[.pointer (some ⟨g, 0, none⟩)] ∧ Blk wc g4 35 cs ∧ ∃ bs0, Bw wc B g bs0 ∧ bs0.length ≤ m ∧ ∀ wx ex, (ex = Exit.ret ∨ ex = Exit.normal) → Wt B w wx → Bw wx B g (bs0 ++ T) → @Post I Q ex n [] wx
end Go.Proofs.Ytijaldpmpjapiaa

namespace Go.Proofs.Ytijaldpmpjapiaa
open Go.RowKit

def prText (right : Bool) (T : List Nat) : List Nat × Int := if right = false then ([], 1) else if 4000 < T.length then ([], 4) else (T, 0)
/-- What print.Expr answers. -/
def printE (e : Ex) : List Nat × Int := prText (rightB e) (exprT e)
end Go.Proofs.Ytijaldpmpjapiaa

namespace Go.Proofs.Ytijaldpmpjapiaa
open Go.RowKit

/-- A concrete expression of two. -/
theorem Rep.two {w : World} {g : Nat} {o : Int} {a b : Ex} {va vb : Value} {cs : Array Value} (k : Blk w g 35 cs) (hcs : cs.toList = flatC [va, vb]) (ho : I64 o) (ha : Rep w w.heap.size a va) (hb : Rep w w.heap.size b vb) :
    Rep w w.heap.size (.mk o 0 [] [a, b]) (.agg #[.int .i64 o, .int .i64 0, .string (strOf []), .slice (some ⟨g, 0, none⟩) 2 2]) := by
  refine RepE.mk (args := [a, b]) (vs := [va, vb]) rfl (by simp) ho (by unfold I64; omega) (by simp) (by simp) (fun i e v he hv => ?_) fun _ => ?_
  · match i, he, hv with
    | 0, he, hv => injection he with he; injection hv with hv; subst he hv; exact ha
    | 1, he, hv => injection he with he; injection hv with hv; subst he hv; exact hb
    | i + 2, he, hv => cases he
  · refine ⟨⟨g, 0, none⟩, rfl, k.lt, fun j u hu => ?_⟩
    rw [← hcs] at hu
    have hadd : (⟨g, 0, none⟩ : Addr).add j = ⟨g, j, none⟩ := by unfold Addr.add; split <;> simp_all
    rw [hadd, k.cell j]
    simpa using hu
theorem Rep.const (w : World) (o z : Int) (B : Nat) (ho : I64 o) (hz : I64 z) : Rep w B (.mk o z [] []) (.agg #[.int .i64 o, .int .i64 z, .string (strOf []), .slice none 0 0]) :=
  RepE.mk (args := []) (vs := []) rfl (by decide) ho hz (by simp) (by simp) (fun i e v he => by cases he) fun h => absurd rfl h
def cE (z : Int) : Ex := .mk 1 z [] []
def sE (a b : Ex) : Ex := .mk 6 0 [] [a, b]
theorem run_build_c (a b : Int) (w : World) : (Instr.build 35 #[(0, .int .i64 a), (1, .int .i64 b)]).run Try.prog w = .ok (.agg #[.int .i64 a, .int .i64 b, .string (strOf []), .slice none 0 0]) w := by
  have hu := Try.underlying35
  go_simp
  rfl
theorem run_build_s (a : Int) (g : Nat) (w : World) : (Instr.build 35 #[(0, .int .i64 a), (3, .slice (some ⟨g, 0, none⟩) 2 2)]).run Try.prog w = .ok (.agg #[.int .i64 a, .int .i64 0, .string (strOf []), .slice (some ⟨g, 0, none⟩) 2 2]) w := by
  have hu := Try.underlying35
  go_simp
  rfl
theorem Rep.step {w w' : World} {e : Ex} {v : Value} (h : Rep w w.heap.size e v) (hb : Below w.heap.size w w') : Rep w' w'.heap.size e v := (h.below hb).more hb.size
end Go.Proofs.Ytijaldpmpjapiaa

namespace Go.Proofs.Ytijaldpmpjapiaa
open Go.RowKit

/-- A term. -/
inductive Tm where
  | mk (op : Int) (name : List Nat) (exprs : List Ex) (terms : List Tm)
def Tm.op : Tm → Int | .mk op _ _ _ => op
def Tm.name : Tm → List Nat | .mk _ nm _ _ => nm
def Tm.exprs : Tm → List Ex | .mk _ _ l _ => l
def Tm.terms : Tm → List Tm | .mk _ _ _ l => l
mutual
def Tm.nodes : Tm → Nat
  | .mk _ _ es l => 1 + nodesL es + nodesM l
def nodesM : List Tm → Nat
  | [] => 0
  | e :: r => e.nodes + nodesM r
end
mutual
def Tm.depth : Tm → Nat
  | .mk _ _ es l => 1 + max (depthL es) (depthM l)
def depthM : List Tm → Nat
  | [] => 0
  | e :: r => max e.depth (depthM r)
end
theorem Tm.nodes_mk (op : Int) (nm : List Nat) (es : List Ex) (l : List Tm) : (Tm.mk op nm es l).nodes = 1 + nodesL es + nodesM l := by rw [Tm.nodes]
theorem Tm.depth_mk (op : Int) (nm : List Nat) (es : List Ex) (l : List Tm) : (Tm.mk op nm es l).depth = 1 + max (depthL es) (depthM l) := by rw [Tm.depth]
theorem Tm.nodes_eq (t : Tm) : t.nodes = 1 + nodesL t.exprs + nodesM t.terms := by cases t; exact Tm.nodes_mk _ _ _ _
theorem Tm.depth_eq (t : Tm) : t.depth = 1 + max (depthL t.exprs) (depthM t.terms) := by cases t; exact Tm.depth_mk _ _ _ _
theorem nodesM_mem {l : List Tm} {t : Tm} (h : t ∈ l) : t.nodes ≤ nodesM l := by
  induction l with
  | nil => cases h
  | cons x r ih =>
    unfold nodesM
    rcases List.mem_cons.1 h with rfl | h
    · omega
    · have := ih h; omega
theorem depthM_mem {l : List Tm} {t : Tm} (h : t ∈ l) : t.depth ≤ depthM l := by
  induction l with
  | nil => cases h
  | cons x r ih =>
    unfold depthM
    rcases List.mem_cons.1 h with rfl | h
    · omega
    · have := ih h; omega
theorem Tm.term_nodes {t x : Tm} (h : x ∈ t.terms) : x.nodes < t.nodes := by have := nodesM_mem h; have := t.nodes_eq; omega
theorem Tm.term_depth {t x : Tm} (h : x ∈ t.terms) : x.depth < t.depth := by have := depthM_mem h; have := t.depth_eq; omega
theorem Tm.expr_depth {t : Tm} {x : Ex} (h : x ∈ t.exprs) : x.depth < t.depth := by have := depthL_mem h; have := t.depth_eq; omega
theorem Tm.nodes_pos (t : Tm) : 0 < t.nodes := by have := t.nodes_eq; omega
mutual
theorem Tm.depth_nodes : ∀ t : Tm, t.depth ≤ t.nodes
  | .mk _ _ es l => by unfold Tm.depth Tm.nodes; have := depthM_nodesM l; have := depthL_nodesL es; omega
theorem depthM_nodesM : ∀ l : List Tm, depthM l ≤ nodesM l
  | [] => Nat.le_refl _
  | e :: r => by unfold depthM nodesM; have := Tm.depth_nodes e; have := depthM_nodesM r; omega
end
/-- A value that is a term, its parts in blocks of a kind. -/
inductive RepT (w : World) (S : Nat → Prop) : Tm → Value → Prop
  | mk {op : Int} {nm : List Nat} {es : List Ex} {ts : List Tm} {A A' : Option Addr} {c c' : Nat} {vs us : List Value} (hl : vs.length = es.length) (hl' : us.length = ts.length) (h60 : es.length ≤ 1000) (h60' : ts.length ≤ 1000) (hop : I64 op) (hnm : ∀ d ∈ nm, d < 256) (hnl : nm.length ≤ 9223372036854775807)
      (hr : ∀ (i : Nat) (e : Ex) (v : Value), es[i]? = some e → vs[i]? = some v → RepE w S e v) (hr' : ∀ (i : Nat) (t : Tm) (v : Value), ts[i]? = some t → us[i]? = some v → RepT w S t v) (hA : Rows w S A (flatC vs)) (hA' : Rows w S A' (flatC us)) : RepT w S (.mk op nm es ts) (.agg #[.int .i64 op, .string (strOf nm), .slice A es.length c, .slice A' ts.length c'])
theorem Rows.mono {w w' : World} {S S' : Nat → Prop} {A : Option Addr} {xs : List Value} (h : Rows w S A xs) (hS : ∀ b, S b → S' b) (hc : ∀ p : Addr, S p.block → w'.cell? p = w.cell? p) : Rows w' S' A xs := fun hne => by
  obtain ⟨ad, e1, e2, e3⟩ := h hne
  exact ⟨ad, e1, hS _ e2, fun j u hu => (hc _ (by rw [block_of_add]; exact e2)).trans (e3 j u hu)⟩
theorem RepT.mono {w w' : World} {S S' : Nat → Prop} {t : Tm} {v : Value} (h : RepT w S t v) (hS : ∀ b, S b → S' b) (hc : ∀ p : Addr, S p.block → w'.cell? p = w.cell? p) : RepT w' S' t v := by
  induction h with
  | mk hl hl' h60 h60' hop hnm hnl hr hr' hA hA' ih => exact .mk hl hl' h60 h60' hop hnm hnl (fun i e v he hv => (hr i e v he hv).mono hS hc) ih (hA.mono hS hc) (hA'.mono hS hc)
def RepB (w : World) (B : Nat) (t : Tm) (v : Value) : Prop := RepT w (· < B) t v
theorem RepB.below {w w' : World} {B : Nat} {t : Tm} {v : Value} (h : RepB w B t v) (hb : Below B w w') : RepB w' B t v := RepT.mono h (fun _ h => h) (fun _ hp => hb.cell hp)
theorem RepB.more {w : World} {B B' : Nat} {t : Tm} {v : Value} (h : RepB w B t v) (hb : B ≤ B') : RepB w B' t v := RepT.mono h (fun _ h => Nat.lt_of_lt_of_le h hb) (fun _ _ => rfl)
theorem RepB.step {w w' : World} {t : Tm} {v : Value} (h : RepB w w.heap.size t v) (hb : Below w.heap.size w w') : RepB w' w'.heap.size t v := (h.below hb).more hb.size
theorem RepT.cells4 {w : World} {S : Nat → Prop} {t : Tm} {v : Value} (h : RepT w S t v) : v.cells.size = 4 := by
  cases h; rfl
theorem RepT.form {w : World} {S : Nat → Prop} {t : Tm} {v : Value} (h : RepT w S t v) : ∃ A c A' c', v = .agg #[.int .i64 t.op, .string (strOf t.name), .slice A t.exprs.length c, .slice A' t.terms.length c'] := by
  cases h; exact ⟨_, _, _, _, rfl⟩
/-- The cells of expressions in a row. -/
def ExAt (w : World) (B : Nat) (es : List Ex) (A : Option Addr) : Prop := ∀ i x, es[i]? = some x → ∃ ad A' c', A = some ad ∧ ad.block < B ∧ Rep w B x (.agg #[.int .i64 x.op, .int .i64 x.n, .string (strOf x.name), .slice A' x.args.length c']) ∧ ∀ (j : Nat) (u : Value), ([.int .i64 x.op, .int .i64 x.n, .string (strOf x.name), .slice A' x.args.length c'] : List Value)[j]? = some u → w.cell? ((ad.add (i * 4)).add j) = some u
def tmV (x : Tm) (A A' : Option Addr) (c c' : Nat) : List Value := [.int .i64 x.op, .string (strOf x.name), .slice A x.exprs.length c, .slice A' x.terms.length c']
def TmAt (w : World) (B : Nat) (ts : List Tm) (A : Option Addr) : Prop := ∀ i x, ts[i]? = some x → ∃ ad A1 A2 c1 c2, A = some ad ∧ ad.block < B ∧ RepB w B x (.agg #[.int .i64 x.op, .string (strOf x.name), .slice A1 x.exprs.length c1, .slice A2 x.terms.length c2]) ∧ ∀ (j : Nat) (u : Value), (tmV x A1 A2 c1 c2)[j]? = some u → w.cell? ((ad.add (i * 4)).add j) = some u
theorem ExAt.below {w w' : World} {B : Nat} {es : List Ex} {A : Option Addr} (h : ExAt w B es A) (hb : Below B w w') : ExAt w' B es A := fun i x hx => by
  obtain ⟨ad, A', c', e1, e2, e3, e4⟩ := h i x hx
  exact ⟨ad, A', c', e1, e2, e3.below hb, fun j u hu => (hb.cell (by rw [block_of_add, block_of_add]; exact e2)).trans (e4 j u hu)⟩
theorem TmAt.below {w w' : World} {B : Nat} {ts : List Tm} {A : Option Addr} (h : TmAt w B ts A) (hb : Below B w w') : TmAt w' B ts A := fun i x hx => by
  obtain ⟨ad, A1, A2, c1, c2, e1, e2, e3, e4⟩ := h i x hx
  exact ⟨ad, A1, A2, c1, c2, e1, e2, e3.below hb, fun j u hu => (hb.cell (by rw [block_of_add, block_of_add]; exact e2)).trans (e4 j u hu)⟩
theorem exAt_of {w : World} {B : Nat} {es : List Ex} {vs : List Value} {A : Option Addr} (hl : vs.length = es.length) (hr : ∀ (i : Nat) (e : Ex) (v : Value), es[i]? = some e → vs[i]? = some v → RepE w (· < B) e v) (hA : Rows w (· < B) A (flatC vs)) : ExAt w B es A := fun i x hx => by
  have hi := (List.getElem?_eq_some_iff.1 hx).1
  obtain ⟨v, hv⟩ : ∃ v, vs[i]? = some v := ⟨_, List.getElem?_eq_getElem (by omega)⟩
  have hrx := hr i x v hx hv
  have h4 : ∀ y ∈ vs, y.cells.size = 4 := fun y hy => by
    obtain ⟨k, hk, rfl⟩ := List.getElem_of_mem hy
    obtain ⟨z, hz⟩ : ∃ z, es[k]? = some z := ⟨_, List.getElem?_eq_getElem (by omega)⟩
    exact (hr k z _ hz (List.getElem?_eq_getElem hk)).cells4
  obtain ⟨A', c', rfl⟩ := hrx.form
  have hne : flatC vs ≠ [] := fun h0 => by have := flatC_at h4 hv 0 _ rfl; rw [h0] at this; cases this
  obtain ⟨ad, rfl, hb, hc⟩ := hA hne
  exact ⟨ad, A', c', rfl, hb, hrx, fun j u hu => by rw [add_of_add]; exact hc _ _ (flatC_at h4 hv j u (by simpa [Value.cells] using hu))⟩
theorem tmAt_of {w : World} {B : Nat} {ts : List Tm} {vs : List Value} {A : Option Addr} (hl : vs.length = ts.length) (hr : ∀ (i : Nat) (e : Tm) (v : Value), ts[i]? = some e → vs[i]? = some v → RepT w (· < B) e v) (hA : Rows w (· < B) A (flatC vs)) : TmAt w B ts A := fun i x hx => by
  have hi := (List.getElem?_eq_some_iff.1 hx).1
  obtain ⟨v, hv⟩ : ∃ v, vs[i]? = some v := ⟨_, List.getElem?_eq_getElem (by omega)⟩
  have hrx := hr i x v hx hv
  have h4 : ∀ y ∈ vs, y.cells.size = 4 := fun y hy => by
    obtain ⟨k, hk, rfl⟩ := List.getElem_of_mem hy
    obtain ⟨z, hz⟩ : ∃ z, ts[k]? = some z := ⟨_, List.getElem?_eq_getElem (by omega)⟩
    exact (hr k z _ hz (List.getElem?_eq_getElem hk)).cells4
  obtain ⟨A1, c1, A2, c2, rfl⟩ := hrx.form
  have hne : flatC vs ≠ [] := fun h0 => by have := flatC_at h4 hv 0 _ rfl; rw [h0] at this; cases this
  obtain ⟨ad, rfl, hb, hc⟩ := hA hne
  exact ⟨ad, A1, A2, c1, c2, rfl, hb, hrx, fun j u hu => by rw [add_of_add]; exact hc _ _ (flatC_at h4 hv j u (by simpa [Value.cells, tmV] using hu))⟩
/-- What is known of a value that is a term. -/
structure RepTV (w : World) (B : Nat) (t : Tm) (A A' : Option Addr) : Prop where
  h60 : t.exprs.length ≤ 1000
  h60' : t.terms.length ≤ 1000
  op : I64 t.op
  name : ∀ d ∈ t.name, d < 256
  nlen : t.name.length ≤ 9223372036854775807
  expr : ExAt w B t.exprs A
  term : TmAt w B t.terms A'
theorem RepB.open {w : World} {B : Nat} {t : Tm} {v : Value} (h : RepB w B t v) : ∃ A c A' c', v = .agg #[.int .i64 t.op, .string (strOf t.name), .slice A t.exprs.length c, .slice A' t.terms.length c'] ∧ RepTV w B t A A' := by
  have h' : RepT w (· < B) t v := h
  cases h' with
  | @mk op nm es ts A A' c c' vs us hl hl' h60 h60' hop hnm hnl hr hr' hA hA' =>
    exact ⟨A, c, A', c', rfl, h60, h60', hop, hnm, hnl, exAt_of hl hr hA, tmAt_of hl' hr' hA'⟩
theorem RepTV.below {w w' : World} {B : Nat} {t : Tm} {A A' : Option Addr} (h : RepTV w B t A A') (hb : Below B w w') : RepTV w' B t A A' := ⟨h.h60, h.h60', h.op, h.name, h.nlen, h.expr.below hb, h.term.below hb⟩
end Go.Proofs.Ytijaldpmpjapiaa

namespace Go.Proofs.Ytijaldpmpjapiaa
open Go.RowKit

def szX (s : Int × Int) : List Ex → Int × Int
  | [] => s
  | e :: r => szX (withS s (szE e)) r
mutual
/-- A size as it is counted. -/
def szT : Tm → Int × Int
  | .mk _ _ es l => szM (szX (1, 1) es) l
def szM (s : Int × Int) : List Tm → Int × Int
  | [] => s
  | t :: r => if 1000 ≤ s.1 then (1000, 1000) else szM (withS s (szT t)) r
end
theorem szX_Sz : ∀ (l : List Ex) (s : Int × Int), Sz s → Sz (szX s l)
  | [], _, h => h
  | e :: r, s, h => szX_Sz r _ (withS_Sz h (szE_Sz e))
mutual
theorem szT_Sz : ∀ t, Sz (szT t)
  | .mk op nm es l => by rw [szT]; exact szM_Sz _ (szX_Sz es _ ⟨by simp, by simp⟩) l
theorem szM_Sz : ∀ (s : Int × Int), Sz s → ∀ l, Sz (szM s l)
  | s, h, [] => by rw [szM]; exact h
  | s, h, e :: r => by
    rw [szM]
    split
    · exact ⟨by simp, by simp⟩
    · exact szM_Sz _ (withS_Sz h (szT_Sz e)) r
end
theorem withS_cnt {s t : Int × Int} {n d n' d' : Nat} (h : Cnt s n d) (k : Cnt t n' d') (h2 : d ≤ n) (h3 : d' ≤ n') : Cnt (withS s t) (n + n') (max d (1 + d')) ∨ (1000 ≤ n + n' ∧ Cnt (withS s t) (n + n') (max d (1 + d'))) := by
  obtain ⟨a, b⟩ := h
  obtain ⟨a', b'⟩ := k
  left
  refine ⟨by unfold withS; simp only; omega, fun h => ?_⟩
  unfold withS
  simp only
  rw [b (by omega), b' (by omega)]
  omega
theorem szX_cnt : ∀ (l : List Ex) (s : Int × Int) (n d : Nat), Cnt s n d → 1 ≤ d → d ≤ n → Cnt (szX s l) (n + nodesL l) (max d (1 + depthL l)) ∧ max d (1 + depthL l) ≤ n + nodesL l
  | [], s, n, d, h, h1, h2 => by
    rw [nodesL, depthL, show max d (1 + 0) = d by omega]
    exact ⟨h, by omega⟩
  | e :: r, s, n, d, h, h1, h2 => by
    rw [nodesL, depthL]
    have he := szE_cnt e
    have hn := Ex.depth_nodes e
    have hp := e.nodes_pos
    have hw := (withS_cnt h he h2 hn).elim id (fun h => h.2)
    have := szX_cnt r _ _ _ hw (by omega) (by omega)
    rw [show n + (e.nodes + nodesL r) = n + e.nodes + nodesL r by omega, show max d (1 + max e.depth (depthL r)) = max (max d (1 + e.depth)) (1 + depthL r) by omega]
    exact this
mutual
theorem szT_cnt : ∀ t, Cnt (szT t) t.nodes t.depth
  | .mk op nm es l => by
    rw [szT, Tm.nodes_mk, Tm.depth_mk]
    have h0 : Cnt (1, 1) 1 1 := ⟨(by show (1 : Int) = min ((1 : Nat) : Int) 1000; omega), fun _ => rfl⟩
    obtain ⟨h1, h2⟩ := szX_cnt es (1, 1) 1 1 h0 (Nat.le_refl _) (Nat.le_refl _)
    have := szM_cnt _ _ _ h1 (by omega) h2 l
    rwa [show max (max 1 (1 + depthL es)) (1 + depthM l) = 1 + max (depthL es) (depthM l) by omega] at this
theorem szM_cnt : ∀ (s : Int × Int) (n d : Nat), Cnt s n d → 1 ≤ d → d ≤ n → ∀ l, Cnt (szM s l) (n + nodesM l) (max d (1 + depthM l))
  | s, n, d, h, h1, h2, [] => by
    rw [szM, nodesM, depthM, show max d (1 + 0) = d by omega]
    exact h
  | s, n, d, h, h1, h2, e :: r => by
    rw [szM, nodesM, depthM]
    have he := szT_cnt e
    have hn := Tm.depth_nodes e
    have hp := e.nodes_pos
    split
    · obtain ⟨a, b⟩ := h
      exact ⟨by simp only; omega, fun h => by omega⟩
    · have hw := (withS_cnt h he h2 hn).elim id (fun h => h.2)
      have := szM_cnt _ _ _ hw (by omega) (by omega) r
      rw [show n + (e.nodes + nodesM r) = n + e.nodes + nodesM r by omega, show max d (1 + max e.depth (depthM r)) = max (max d (1 + e.depth)) (1 + depthM r) by omega]
      exact this
end
theorem zero_api_Term : zeroIs Try.prog 57 = some (some (.agg #[.int .i64 0, .string { data := #[] }, .slice none 0 0, .slice none 0 0])) := by kernel_rfl
def szY (at_ : Nat) (s : Int × Int) : List Ex → Int × Int
  | [] => s
  | e :: r => szY at_ (withS s (szF e (at_ + 1))) r
mutual
/-- A size as it is counted from a depth on. -/
def szU : Tm → Nat → Int × Int
  | .mk _ _ es l, at_ => szV at_ (szY at_ (1, 1) es) l
def szV (at_ : Nat) (s : Int × Int) : List Tm → Int × Int
  | [] => s
  | t :: r => if 1000 ≤ at_ ∨ 1000 ≤ s.1 then (1000, 1000) else szV at_ (withS s (szU t (at_ + 1))) r
end
theorem szU_eq (t : Tm) (at_ : Nat) : szU t at_ = szV at_ (szY at_ (1, 1) t.exprs) t.terms := by cases t; rw [szU]; rfl
theorem szV_cons (at_ : Nat) (s : Int × Int) (e : Tm) (r : List Tm) : szV at_ s (e :: r) = if 1000 ≤ at_ ∨ 1000 ≤ s.1 then (1000, 1000) else szV at_ (withS s (szU e (at_ + 1))) r := by rw [szV]
theorem szV_nil (at_ : Nat) (s : Int × Int) : szV at_ s [] = s := by rw [szV]
theorem szY_Sz (at_ : Nat) : ∀ (l : List Ex) (s : Int × Int), Sz s → Sz (szY at_ s l)
  | [], _, h => h
  | e :: r, s, h => szY_Sz at_ r _ (withS_Sz h (szF_Sz e _))
mutual
theorem szU_Sz : ∀ (t : Tm) (at_ : Nat), Sz (szU t at_)
  | .mk op nm es l, at_ => by rw [szU]; exact szV_Sz at_ _ (szY_Sz at_ es _ ⟨by simp, by simp⟩) l
theorem szV_Sz : ∀ (at_ : Nat) (s : Int × Int), Sz s → ∀ l, Sz (szV at_ s l)
  | at_, s, h, [] => by rw [szV]; exact h
  | at_, s, h, e :: r => by
    rw [szV]
    split
    · exact ⟨by simp, by simp⟩
    · exact szV_Sz at_ _ (withS_Sz h (szU_Sz e _)) r
end
theorem withS_top {t : Int × Int} (h : Sz t) : withS (1000, 1000) t = (1000, 1000) := by
  unfold Sz at h
  unfold withS
  simp only [Prod.mk.injEq]
  omega
theorem szY_big (at_ : Nat) : ∀ (l : List Ex), szY at_ (1000, 1000) l = (1000, 1000)
  | [] => rfl
  | e :: r => by rw [szY, withS_top (szF_Sz e _)]; exact szY_big at_ r
theorem szV_big (at_ : Nat) (l : List Tm) : szV at_ (1000, 1000) l = (1000, 1000) := by
  cases l with
  | nil => rw [szV_nil]
  | cons e r => rw [szV_cons, if_pos (.inr (by decide))]
theorem szY_or (at_ : Nat) : ∀ (l : List Ex) (s : Int × Int), Sz s → szY at_ s l = szX s l ∨ (szY at_ s l = (1000, 1000) ∧ 1001 ≤ depthL l + at_)
  | [], s, h => .inl rfl
  | e :: r, s, h => by
    rw [szY, szX, depthL]
    rcases szF_or e (at_ + 1) with h3 | ⟨h3, h4⟩
    · rw [h3]
      rcases szY_or at_ r (withS s (szE e)) (withS_Sz h (szE_Sz e)) with h5 | ⟨h5, h6⟩
      · exact .inl h5
      · exact .inr ⟨h5, by omega⟩
    · rw [h3, withS_big h, szY_big]
      exact .inr ⟨rfl, by omega⟩
mutual
/-- It is the size, or the tree is too deep. -/
theorem szU_or : ∀ (t : Tm) (at_ : Nat), szU t at_ = szT t ∨ (szU t at_ = (1000, 1000) ∧ 1002 ≤ t.depth + at_)
  | .mk op nm es l, at_ => by
    rw [szU, szT, Tm.depth_mk]
    rcases szY_or at_ es (1, 1) ⟨by simp, by simp⟩ with h0 | ⟨h0, h1⟩
    · rw [h0]
      rcases szV_or at_ _ (szX_Sz es (1, 1) ⟨by simp, by simp⟩) l with h | ⟨h1, h2⟩
      · exact .inl h
      · exact .inr ⟨h1, by omega⟩
    · rw [h0, szV_big]
      exact .inr ⟨rfl, by omega⟩
theorem szV_or : ∀ (at_ : Nat) (s : Int × Int), Sz s → ∀ l, szV at_ s l = szM s l ∨ (szV at_ s l = (1000, 1000) ∧ 1001 ≤ depthM l + at_)
  | at_, s, h, [] => by rw [szV, szM]; exact .inl rfl
  | at_, s, h, e :: r => by
    rw [szV, szM, depthM]
    have hd : 0 < e.depth := by rw [e.depth_eq]; omega
    by_cases h1 : 1000 ≤ s.1
    · rw [if_pos (.inr h1), if_pos h1]; exact .inl rfl
    · by_cases h2 : 1000 ≤ at_
      · rw [if_pos (.inl h2)]; exact .inr ⟨rfl, by omega⟩
      · rw [if_neg (by omega), if_neg h1]
        rcases szU_or e (at_ + 1) with h3 | ⟨h3, h4⟩
        · rw [h3]
          rcases szV_or at_ (withS s (szT e)) (withS_Sz h (szT_Sz e)) r with h5 | ⟨h5, h6⟩
          · exact .inl h5
          · exact .inr ⟨h5, by omega⟩
        · rw [h3, withS_big h, szV_big]
          exact .inr ⟨rfl, by omega⟩
end
theorem szU_cnt (t : Tm) : Cnt (szU t 0) t.nodes t.depth := by
  rcases szU_or t 0 with h | ⟨h1, h2⟩
  · rw [h]; exact szT_cnt t
  · rw [h1]
    have := t.depth_nodes
    exact ⟨by simp only; omega, fun h => by omega⟩
theorem sizeTerm_all (N : Nat) : ∀ (t : Tm) (at_ : Nat) (B : Nat) (v : Value) (w : World), t.nodes ≤ N → at_ ≤ 1000 → RepB w B t v → B ≤ w.heap.size → Calls Try.prog 67 #[v, .int .i64 (at_ : Int)] w fun en w' => en = .returned (.agg #[.int .i64 (szU t at_).1, .int .i64 (szU t at_).2]) ∧ Grow w w' := by
  induction N with
  | zero => intro t at_ B v w hN; have := t.nodes_pos; omega
  | succ N ih =>
  intro t at_ B v w hN hdep hrep hB
  obtain ⟨A, c, A', c', rfl, hv⟩ := hrep.open
  have bel := Below.refl w.heap.size w
  have hdp : 0 < t.depth := by rw [t.depth_eq]; omega
  have h60 := hv.h60
  have h60' := hv.h60'
  refine Calls.start 48 Try.func67 rfl rfl rfl ?_
  refine Cd.seq ?_
  refine Cd.region ?_
  refine Seq.box rfl rfl rfl rfl rfl ?_
  intro g2 w1 n2
  have e2 := Nat.le_trans bel.size n2.ge
  replace bel := bel.step n2.below
  have k2 := n2.blk
  refine Seq.alloc rfl (run_zero zero_term_size) rfl rfl rfl ?_
  intro g4 w2 n4
  have e4 := Nat.le_trans bel.size n4.ge
  have l4 := Nat.lt_of_lt_of_le k2.lt n4.ge
  replace bel := bel.step n4.below
  replace k2 := k2.step n4.below
  have k4 := n4.blk
  refine Seq.nil ?_
  refine Post.weak (F' := [(0, _), (1, _), (2, _), (4, _)]) ⟨rfl, rfl, rfl, rfl, trivial⟩ ?_
  refine Post.then_ ?_
  refine Cd.seq ?_
  refine Cd.region ?_
  refine Seq.val (Runs.build rfl rfl (run_build_size _ _ _)) rfl rfl rfl ?_
  refine Seq.alloc rfl (run_zero zero_term_size) rfl rfl rfl ?_
  intro g5 w3 n5
  have e5 := Nat.le_trans bel.size n5.ge
  have l5 := Nat.lt_of_lt_of_le k4.lt n5.ge
  have l5_k2 := Nat.lt_of_lt_of_le k2.lt n5.ge
  replace bel := bel.step n5.below
  replace k2 := k2.step n5.below
  replace k4 := k4.step n5.below
  have k5 := n5.blk
  refine Seq.storeN rfl rfl rfl rfl (m := 2) (by kernel_rfl) rfl (by repeat' first | exact trivial | apply And.intro | rfl | assumption) k5 (by simp [Value.cells]) rfl rfl ?_
  intro w4 pw4
  replace bel := bel.put k5 pw4 e5
  replace k2 := k2.put pw4 (by omega)
  replace k4 := k4.put pw4 (by omega)
  replace k5 := pw4.blk
  refine Seq.nil ?_
  refine Post.weak (F' := [(0, _), (1, _), (2, _), (4, _), (5, _)]) ⟨rfl, rfl, rfl, rfl, rfl, trivial⟩ ?_
  refine Post.then_ ?_
  refine Cd.seq ?_
  refine Cd.seq ?_
  refine Cd.region ?_
  refine Seq.val (Runs.fieldB 2 rfl rfl Try.underlying57 rfl (by kernel_rfl)) rfl rfl rfl ?_
  refine Seq.val (Runs.loadB rfl rfl Try.underlying25 rfl k2 rfl) rfl rfl rfl ?_
  refine Seq.val (Runs.len rfl rfl Try.underlying25) rfl rfl rfl ?_
  refine Seq.val (Runs.move rfl rfl) rfl rfl rfl ?_
  refine Seq.nil ?_
  refine Post.weak (F' := [(0, _), (1, _), (2, _), (4, _), (5, _), (12, _), (13, _), (14, _)]) ⟨rfl, rfl, rfl, rfl, rfl, rfl, rfl, rfl, trivial⟩ ?_
  refine Post.then_ ?_
  refine Cd.block ?_
  refine Cd.loop (σ := Nat × (Int × Int)) (fun s => [(1, .int .i64 (at_ : Int)), (2, .pointer (some ⟨g2, 0, none⟩)), (4, .pointer (some ⟨g4, 0, none⟩)), (5, .pointer (some ⟨g5, 0, none⟩)), (12, .slice A t.exprs.length c), (13, .int .i64 (t.exprs.length : Int)), (14, .int .i64 (s.1 : Int))])
    (fun s wr => s.1 ≤ t.exprs.length ∧ Sz s.2 ∧ szY at_ s.2 (t.exprs.drop s.1) = szY at_ (1, 1) t.exprs ∧ Below w.heap.size w wr ∧ Blk wr g2 57 #[.int .i64 t.op, .string (strOf t.name), .slice A t.exprs.length c, .slice A' t.terms.length c'] ∧ Blk wr g4 103 #[.int .i64 0, .int .i64 0] ∧ Blk wr g5 103 #[.int .i64 s.2.1, .int .i64 s.2.2]) (fun s => t.exprs.length - s.1) (0, (1, 1)) ⟨Nat.zero_le _, ⟨by simp, by simp⟩, rfl, bel, k2, k4, k5⟩ ⟨rfl, rfl, rfl, rfl, rfl, rfl, rfl, trivial⟩ ?_
  clear bel k2 k4 k5
  rintro ⟨k, s⟩ wr ⟨hk, hs, hsz, bel, k2, k4, k5⟩
  simp only at hk hs hsz k5
  show Cd _ _ _ _ [(1, .int .i64 (at_ : Int)), (2, .pointer (some ⟨g2, 0, none⟩)), (4, .pointer (some ⟨g4, 0, none⟩)), (5, .pointer (some ⟨g5, 0, none⟩)), (12, .slice A t.exprs.length c), (13, .int .i64 (t.exprs.length : Int)), (14, .int .i64 (k : Int))] _
  refine Cd.seq ?_
  refine Cd.region ?_
  refine Seq.val (Runs.lss rfl rfl rfl) rfl rfl rfl ?_
  refine Seq.nil ?_
  refine Post.weak (F' := [(1, _), (2, _), (4, _), (5, _), (12, _), (13, _), (14, _), (15, _)]) ⟨rfl, rfl, rfl, rfl, rfl, rfl, rfl, rfl, trivial⟩ ?_
  refine Post.then_ ?_
  refine Cd.seq ?_
  refine Cd.condD rfl (fun hc => ?_) (fun hc => ?_)
  · obtain ⟨x, hx⟩ : ∃ x, t.exprs[k]? = some x := ⟨_, List.getElem?_eq_getElem (show k < t.exprs.length by omega)⟩
    obtain ⟨ad, Ax, cx, rfl, hbl, hrx, hc⟩ := hv.expr k x hx
    have hxm := List.mem_of_getElem? hx
    have hxd := Tm.expr_depth hxm
    have hc := fun j u hj => ((bel.mono hB).cell (p := (ad.add (k * 4)).add j) (by rw [block_of_add, block_of_add]; exact hbl)).trans (hc j u hj)
    have hdrop : t.exprs.drop k = x :: t.exprs.drop (k + 1) := by
      rw [List.drop_eq_getElem_cons (show k < t.exprs.length by omega)]
      congr 1
      obtain ⟨_, he⟩ := List.getElem?_eq_some_iff.1 hx
      exact he
    rw [hdrop, szY] at hsz
    have hrec := fun W (hb : Below w.heap.size w W) => sizeExpr_all x.nodes x (at_ + 1) B _ W (Nat.le_refl _) (by omega) (hrx.below (hb.mono hB)) (Nat.le_trans hB hb.size)
    have hxs := szF_Sz x (at_ + 1)
    have hws := withS_Sz hs hxs
    refine Cd.skip ?_
    refine Post.then_ ?_
    refine Cd.seq ?_
    refine Cd.block ?_
    refine Cd.seq ?_
    refine Cd.region ?_
    refine Seq.val (Runs.indexN rfl rfl rfl Try.underlying25 (s := 4) (by kernel_rfl) (j := k) rfl (by omega)) rfl rfl rfl ?_
    refine Seq.val (Runs.loadF (ps := [.int .i64 x.op, .int .i64 x.n, .string (strOf x.name), .slice Ax x.args.length cx]) rfl rfl Try.underlying35 rfl (m := 4) (by kernel_rfl) rfl hc) rfl rfl rfl ?_
    refine Seq.alloc rfl (run_zero zero_api_Expr) rfl rfl rfl ?_
    intro g7 w5 n7
    have e7 := Nat.le_trans bel.size n7.ge
    have l7 := Nat.lt_of_lt_of_le k5.lt n7.ge
    have l7_k2 := Nat.lt_of_lt_of_le k2.lt n7.ge
    have l7_k4 := Nat.lt_of_lt_of_le k4.lt n7.ge
    replace bel := bel.step n7.below
    replace k2 := k2.step n7.below
    replace k4 := k4.step n7.below
    replace k5 := k5.step n7.below
    have k7 := n7.blk
    refine Seq.storeN rfl rfl rfl rfl (m := 4) (by kernel_rfl) rfl (by repeat' first | exact trivial | apply And.intro | rfl | assumption) k7 (by simp [Value.cells]) rfl rfl ?_
    intro w6 pw6
    replace bel := bel.put k7 pw6 e7
    replace k2 := k2.put pw6 (by omega)
    replace k4 := k4.put pw6 (by omega)
    replace k5 := k5.put pw6 (by omega)
    replace k7 := pw6.blk
    refine Seq.nil ?_
    refine Post.weak (F' := [(1, _), (2, _), (4, _), (5, _), (7, _), (12, _), (13, _), (14, _), (15, _)]) ⟨rfl, rfl, rfl, rfl, rfl, rfl, rfl, rfl, rfl, trivial⟩ ?_
    refine Post.then_ ?_
    refine Cd.draw 6 (by kernel_rfl) [] (.inl rfl) rfl Grow Grow.refl (fun _ _ _ => Grow.trans) ?_
    intro w7 hw7 zw7
    replace bel := bel.step hw7
    replace k2 := k2.step hw7
    replace k4 := k4.step hw7
    replace k5 := k5.step hw7
    replace k7 := k7.step hw7
    have zbel := bel.size
    have zlt := k7.lt
    refine Dr.val Grow.refl rfl (fun w hG => Runs.loadW rfl rfl Try.underlying103 rfl (k5.step hG) (m := 2) (by kernel_rfl) rfl) rfl ?_
    refine Dr.val Grow.refl rfl (fun w hG => Runs.loadW rfl rfl Try.underlying35 rfl (k7.step hG) (m := 4) (by kernel_rfl) rfl) rfl ?_
    refine Dr.val Grow.refl rfl (fun w hG => Runs.move rfl rfl) rfl ?_
    refine Dr.val Grow.refl rfl (fun w hG => Runs.addI rfl rfl rfl (by omega) (by omega)) rfl ?_
    refine Dr.callV rfl (fun w => Enters.func rfl rfl rfl (run_enter Try.func75 (by kernel_rfl) rfl)) rfl (fun w hG => hrec w (bel.step hG)) ?_
    refine Dr.callV rfl (fun w => Enters.func rfl rfl rfl (run_enter Try.func116 (by kernel_rfl) rfl)) rfl (fun w hG => with_any s (szF x (at_ + 1)) w hs.1 hs.2 hxs.1 hxs.2) ?_
    refine Dr.nil ?_
    refine FinX.done (F' := [(1, _), (2, _), (4, _), (5, _), (7, _), (12, _), (13, _), (14, _), (15, _), (23, _)]) rfl ⟨rfl, rfl, rfl, rfl, rfl, rfl, rfl, rfl, rfl, rfl, trivial⟩ ?_
    intro w8 hw8 fw8
    replace bel := bel.step hw8
    replace k2 := k2.step hw8
    replace k4 := k4.step hw8
    replace k5 := k5.step hw8
    replace k7 := k7.step hw8
    refine Seq.storeN rfl rfl rfl rfl (m := 2) (by kernel_rfl) rfl (by repeat' first | exact trivial | apply And.intro | rfl | assumption) k5 (by simp [Value.cells]) rfl rfl ?_
    intro w9 pw9
    replace bel := bel.put k5 pw9 e5
    replace k2 := k2.put pw9 (by omega)
    replace k4 := k4.put pw9 (by omega)
    replace k5 := pw9.blk
    refine Seq.nil ?_
    refine Post.weak (F' := [(1, _), (2, _), (4, _), (5, _), (7, _), (12, _), (13, _), (14, _), (15, _)]) ⟨rfl, rfl, rfl, rfl, rfl, rfl, rfl, rfl, rfl, trivial⟩ ?_
    refine Post.block_normal ?_
    refine Post.then_ ?_
    refine Cd.region ?_
    refine Seq.val (Runs.addI rfl rfl rfl (by omega) (by omega)) rfl rfl rfl ?_
    refine Seq.val (Runs.move rfl rfl) rfl rfl rfl ?_
    refine Seq.nil ?_
    refine Post.weak (F' := [(1, _), (2, _), (4, _), (5, _), (7, _), (12, _), (13, _), (14, _), (15, _)]) ⟨rfl, rfl, rfl, rfl, rfl, rfl, rfl, rfl, rfl, trivial⟩ ?_
    exact Post.round (k + 1, withS s (szF x (at_ + 1))) ⟨rfl, rfl, rfl, rfl, rfl, rfl, rfl, trivial⟩ ⟨by simp only; omega, hws, hsz, bel, k2, k4, k5⟩ (by simp only; omega)
  · obtain rfl : k = t.exprs.length := by omega
    rw [List.drop_of_length_le (Nat.le_refl _), szY] at hsz
    have hT := szU_eq t at_
    rw [← hsz] at hT
    refine Cd.exit ?_
    refine Post.then_exit ?_
    refine Post.round_exit ?_
    refine Post.block_exit ?_
    refine Post.then_ ?_
    refine Cd.seq ?_
    refine Cd.seq ?_
    refine Cd.region ?_
    refine Seq.val (Runs.fieldB 3 rfl rfl Try.underlying57 rfl (by kernel_rfl)) rfl rfl rfl ?_
    refine Seq.val (Runs.loadB rfl rfl Try.underlying27 rfl k2 rfl) rfl rfl rfl ?_
    refine Seq.val (Runs.len rfl rfl Try.underlying27) rfl rfl rfl ?_
    refine Seq.val (Runs.move rfl rfl) rfl rfl rfl ?_
    refine Seq.nil ?_
    refine Post.weak (F' := [(1, _), (2, _), (4, _), (5, _), (12, _), (13, _), (14, _), (15, _), (26, _), (27, _), (28, _)]) ⟨rfl, rfl, rfl, rfl, rfl, rfl, rfl, rfl, rfl, rfl, rfl, trivial⟩ ?_
    refine Post.then_ ?_
    refine Cd.block ?_
    refine Cd.loop (σ := Nat × (Int × Int)) (fun s => [(1, .int .i64 (at_ : Int)), (4, .pointer (some ⟨g4, 0, none⟩)), (5, .pointer (some ⟨g5, 0, none⟩)), (26, .slice A' t.terms.length c'), (27, .int .i64 (t.terms.length : Int)), (28, .int .i64 (s.1 : Int))])
      (fun s wr => s.1 ≤ t.terms.length ∧ Sz s.2 ∧ szV at_ s.2 (t.terms.drop s.1) = szU t at_ ∧ Below w.heap.size w wr ∧ Blk wr g4 103 #[.int .i64 0, .int .i64 0] ∧ Blk wr g5 103 #[.int .i64 s.2.1, .int .i64 s.2.2]) (fun s => t.terms.length - s.1) (0, s) ⟨Nat.zero_le _, hs, hT.symm, bel, k4, k5⟩ ⟨rfl, rfl, rfl, rfl, rfl, rfl, trivial⟩ ?_
    clear bel k2 k4 k5
    clear hs hsz hT
    rintro ⟨k, s⟩ wr ⟨hk, hs, hsz, bel, k4, k5⟩
    simp only at hk hs hsz k5
    show Cd _ _ _ _ [(1, .int .i64 (at_ : Int)), (4, .pointer (some ⟨g4, 0, none⟩)), (5, .pointer (some ⟨g5, 0, none⟩)), (26, .slice A' t.terms.length c'), (27, .int .i64 (t.terms.length : Int)), (28, .int .i64 (k : Int))] _
    refine Cd.seq ?_
    refine Cd.region ?_
    refine Seq.val (Runs.lss rfl rfl rfl) rfl rfl rfl ?_
    refine Seq.nil ?_
    refine Post.weak (F' := [(1, _), (4, _), (5, _), (26, _), (27, _), (28, _), (29, _)]) ⟨rfl, rfl, rfl, rfl, rfl, rfl, rfl, trivial⟩ ?_
    refine Post.then_ ?_
    refine Cd.seq ?_
    refine Cd.condD rfl (fun hc => ?_) (fun hc => ?_)
    · obtain ⟨x, hx⟩ : ∃ x, t.terms[k]? = some x := ⟨_, List.getElem?_eq_getElem (show k < t.terms.length by omega)⟩
      obtain ⟨ad, A1, A2, c1, c2, rfl, hbl, hrx, hc⟩ := hv.term k x hx
      have hxm := List.mem_of_getElem? hx
      have hxd := Tm.term_depth hxm
      have hxn := Tm.term_nodes hxm
      have hc := fun j u hj => ((bel.mono hB).cell (p := (ad.add (k * 4)).add j) (by rw [block_of_add, block_of_add]; exact hbl)).trans (hc j u hj)
      have hdrop : t.terms.drop k = x :: t.terms.drop (k + 1) := by
        rw [List.drop_eq_getElem_cons (show k < t.terms.length by omega)]
        congr 1
        obtain ⟨_, he⟩ := List.getElem?_eq_some_iff.1 hx
        exact he
      rw [hdrop, szV_cons] at hsz
      refine Cd.skip ?_
      refine Post.then_ ?_
      refine Cd.seq ?_
      refine Cd.block ?_
      refine Cd.seq ?_
      refine Cd.region ?_
      refine Seq.val (Runs.indexN rfl rfl rfl Try.underlying27 (s := 4) (by kernel_rfl) (j := k) rfl (by omega)) rfl rfl rfl ?_
      refine Seq.val (Runs.loadF (ps := [.int .i64 x.op, .string (strOf x.name), .slice A1 x.exprs.length c1, .slice A2 x.terms.length c2]) rfl rfl Try.underlying57 rfl (m := 4) (by kernel_rfl) rfl hc) rfl rfl rfl ?_
      refine Seq.alloc rfl (run_zero zero_api_Term) rfl rfl rfl ?_
      intro g9 w5 n9
      have e9 := Nat.le_trans bel.size n9.ge
      have l9 := Nat.lt_of_lt_of_le k5.lt n9.ge
      have l9_k4 := Nat.lt_of_lt_of_le k4.lt n9.ge
      replace bel := bel.step n9.below
      replace k4 := k4.step n9.below
      replace k5 := k5.step n9.below
      have k9 := n9.blk
      refine Seq.storeN rfl rfl rfl rfl (m := 4) (by kernel_rfl) rfl (by repeat' first | exact trivial | apply And.intro | rfl | assumption) k9 (by simp [Value.cells]) rfl rfl ?_
      intro w6 pw6
      replace bel := bel.put k9 pw6 e9
      replace k4 := k4.put pw6 (by omega)
      replace k5 := k5.put pw6 (by omega)
      replace k9 := pw6.blk
      refine Seq.nil ?_
      refine Post.weak (F' := [(1, _), (4, _), (5, _), (9, _), (26, _), (27, _), (28, _), (29, _)]) ⟨rfl, rfl, rfl, rfl, rfl, rfl, rfl, rfl, trivial⟩ ?_
      refine Post.then_ ?_
      refine Cd.seq ?_
      refine Cd.seq ?_
      refine Cd.region ?_
      refine Seq.val (Runs.move rfl rfl) rfl rfl rfl ?_
      refine Seq.val (Runs.geq rfl rfl rfl) rfl rfl rfl ?_
      refine Seq.val (Runs.move rfl rfl) rfl rfl rfl ?_
      refine SeqC.start ?_
      refine SeqC.open rfl rfl rfl rfl rfl rfl rfl (fun hcx => Runs.fieldB 0 rfl rfl Try.underlying103 rfl (by kernel_rfl)) ?_
      refine SeqC.next rfl rfl rfl rfl rfl rfl rfl (fun hcx => Runs.loadB rfl rfl Try.underlying3 rfl k5 rfl) ?_
      refine SeqC.next rfl rfl rfl rfl rfl rfl rfl (fun hcx => Runs.geq rfl rfl rfl) ?_
      refine SeqC.or rfl rfl rfl rfl rfl rfl rfl ?_
      refine Seq.nil ?_
      refine Post.weak (F' := [(1, _), (4, _), (5, _), (9, _), (26, _), (27, _), (28, _), (29, _), (38, _)]) ⟨rfl, rfl, rfl, rfl, rfl, rfl, rfl, rfl, rfl, trivial⟩ ?_
      refine Post.then_ ?_
      refine Cd.cond rfl (fun h => ?_) (fun h => ?_)
      · simp at h
        rw [if_pos (by omega)] at hsz
        refine Cd.seq ?_
        refine Cd.region ?_
        refine Seq.val (Runs.build rfl rfl (run_build_size _ _ _)) rfl rfl rfl ?_
        refine Seq.storeN rfl rfl rfl rfl (m := 2) (by kernel_rfl) rfl (by repeat' first | exact trivial | apply And.intro | rfl | assumption) k4 (by simp [Value.cells]) rfl rfl ?_
        intro w7 pw7
        replace bel := bel.put k4 pw7 e4
        replace k5 := k5.put pw7 (by omega)
        replace k9 := k9.put pw7 (by omega)
        replace k4 := pw7.blk
        refine Seq.nil ?_
        refine Post.weak (F' := [(1, _), (4, _), (5, _), (9, _), (26, _), (27, _), (28, _), (29, _), (38, _)]) ⟨rfl, rfl, rfl, rfl, rfl, rfl, rfl, rfl, rfl, trivial⟩ ?_
        refine Post.then_ ?_
        refine Cd.ret ?_
        refine Post.then_ret ?_
        refine Post.block_ret ?_
        refine Post.then_ret ?_
        refine Post.round_ret ?_
        refine Post.block_ret ?_
        refine Post.then_ret ?_
        refine Post.endC rfl rfl k4 Try.underlying103 rfl (m := 2) (by kernel_rfl) rfl (.inl rfl) ?_
        rw [← hsz]
        exact ⟨rfl, bel⟩
      · simp at h
        rw [if_neg (by omega)] at hsz
        have hrec := fun W (hb : Below w.heap.size w W) => ih x (at_ + 1) B _ W (by omega) (by omega) (hrx.below (hb.mono hB)) (Nat.le_trans hB hb.size)
        have hxs := szU_Sz x (at_ + 1)
        have hws := withS_Sz hs hxs
        refine Cd.skip ?_
        refine Post.then_ ?_
        refine Cd.draw 6 (by kernel_rfl) [] (.inl rfl) rfl Grow Grow.refl (fun _ _ _ => Grow.trans) ?_
        intro w7 hw7 zw7
        replace bel := bel.step hw7
        replace k4 := k4.step hw7
        replace k5 := k5.step hw7
        replace k9 := k9.step hw7
        have zbel := bel.size
        have zlt := k9.lt
        refine Dr.val Grow.refl rfl (fun w hG => Runs.loadW rfl rfl Try.underlying103 rfl (k5.step hG) (m := 2) (by kernel_rfl) rfl) rfl ?_
        refine Dr.val Grow.refl rfl (fun w hG => Runs.loadW rfl rfl Try.underlying57 rfl (k9.step hG) (m := 4) (by kernel_rfl) rfl) rfl ?_
        refine Dr.val Grow.refl rfl (fun w hG => Runs.move rfl rfl) rfl ?_
        refine Dr.val Grow.refl rfl (fun w hG => Runs.addI rfl rfl rfl (by omega) (by omega)) rfl ?_
        refine Dr.callV rfl (fun w => Enters.func rfl rfl rfl (run_enter Try.func67 (by kernel_rfl) rfl)) rfl (fun w hG => hrec w (bel.step hG)) ?_
        refine Dr.callV rfl (fun w => Enters.func rfl rfl rfl (run_enter Try.func116 (by kernel_rfl) rfl)) rfl (fun w hG => with_any s (szU x (at_ + 1)) w hs.1 hs.2 hxs.1 hxs.2) ?_
        refine Dr.nil ?_
        refine FinX.done (F' := [(1, _), (4, _), (5, _), (9, _), (26, _), (27, _), (28, _), (29, _), (38, _), (45, _)]) rfl ⟨rfl, rfl, rfl, rfl, rfl, rfl, rfl, rfl, rfl, rfl, trivial⟩ ?_
        intro w8 hw8 fw8
        replace bel := bel.step hw8
        replace k4 := k4.step hw8
        replace k5 := k5.step hw8
        replace k9 := k9.step hw8
        refine Seq.storeN rfl rfl rfl rfl (m := 2) (by kernel_rfl) rfl (by repeat' first | exact trivial | apply And.intro | rfl | assumption) k5 (by simp [Value.cells]) rfl rfl ?_
        intro w9 pw9
        replace bel := bel.put k5 pw9 e5
        replace k4 := k4.put pw9 (by omega)
        replace k5 := pw9.blk
        refine Seq.nil ?_
        refine Post.weak (F' := [(1, _), (4, _), (5, _), (9, _), (26, _), (27, _), (28, _), (29, _), (38, _)]) ⟨rfl, rfl, rfl, rfl, rfl, rfl, rfl, rfl, rfl, trivial⟩ ?_
        refine Post.block_normal ?_
        refine Post.then_ ?_
        refine Cd.region ?_
        refine Seq.val (Runs.addI rfl rfl rfl (by omega) (by omega)) rfl rfl rfl ?_
        refine Seq.val (Runs.move rfl rfl) rfl rfl rfl ?_
        refine Seq.nil ?_
        refine Post.weak (F' := [(1, _), (4, _), (5, _), (9, _), (26, _), (27, _), (28, _), (29, _), (38, _)]) ⟨rfl, rfl, rfl, rfl, rfl, rfl, rfl, rfl, rfl, trivial⟩ ?_
        exact Post.round (k + 1, withS s (szU x (at_ + 1))) ⟨rfl, rfl, rfl, rfl, rfl, rfl, trivial⟩ ⟨by simp only; omega, hws, hsz, bel, k4, k5⟩ (by simp only; omega)
    · obtain rfl : k = t.terms.length := by omega
      rw [List.drop_of_length_le (Nat.le_refl _), szV_nil] at hsz
      refine Cd.exit ?_
      refine Post.then_exit ?_
      refine Post.round_exit ?_
      refine Post.block_exit ?_
      refine Post.then_ ?_
      refine Cd.seq ?_
      refine Cd.region ?_
      refine Seq.val (Runs.loadW rfl rfl Try.underlying103 rfl k5 (m := 2) (by kernel_rfl) rfl) rfl rfl rfl ?_
      refine Seq.storeN rfl rfl rfl rfl (m := 2) (by kernel_rfl) rfl (by repeat' first | exact trivial | apply And.intro | rfl | assumption) k4 (by simp [Value.cells]) rfl rfl ?_
      intro w5 pw5
      replace bel := bel.put k4 pw5 e4
      replace k5 := k5.put pw5 (by omega)
      replace k4 := pw5.blk
      refine Seq.nil ?_
      refine Post.weak (F' := [(1, _), (4, _), (5, _), (26, _), (27, _), (28, _), (29, _)]) ⟨rfl, rfl, rfl, rfl, rfl, rfl, rfl, trivial⟩ ?_
      refine Post.then_ ?_
      refine Cd.ret ?_
      refine Post.endC rfl rfl k4 Try.underlying103 rfl (m := 2) (by kernel_rfl) rfl (.inl rfl) ?_
      rw [← hsz]
      exact ⟨rfl, bel⟩
end Go.Proofs.Ytijaldpmpjapiaa


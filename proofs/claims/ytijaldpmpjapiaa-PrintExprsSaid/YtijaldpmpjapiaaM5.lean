/-
  Texts that were joined: DateC, BigA, BigB, BigC, BigD, BigE, BigF, BigG, BigH, BigI, TBigK, TNumR. Conditions: what each theorem names.
-/
import Derived.Test.YtijaldpmpjapiaaM4
set_option linter.unusedSectionVars false
namespace Go.Proofs.Ytijaldpmpjapiaa
open Go.RowKit

theorem refLeap_any (y : Int) (w : World) (h0 : 0 ≤ y) (h1 : y ≤ 100000) : Calls Try.prog 134 #[.int .i64 y] w fun e w' => e = .returned (.bool (leapB y)) ∧ Grow w w' := by
  have bel := Below.refl w.heap.size w
  refine Calls.start 16 Try.func134 rfl rfl rfl ?_
  refine Cd.seq ?_
  refine Cd.region ?_
  refine Seq.val (Runs.assign rfl rfl) rfl rfl rfl ?_
  refine Seq.nil ?_
  refine Post.weak (F' := [(0, _), (2, _)]) ⟨rfl, rfl, trivial⟩ ?_
  refine Post.then_ ?_
  refine Cd.seq ?_
  refine Cd.region ?_
  refine Seq.val (Runs.move rfl rfl) rfl rfl rfl ?_
  refine Seq.val (Runs.remN rfl rfl rfl (by omega) (by omega)) rfl rfl rfl ?_
  refine Seq.val (Runs.eqlI rfl rfl rfl) rfl rfl rfl ?_
  refine Seq.val (Runs.move rfl rfl) rfl rfl rfl ?_
  refine SeqC.start ?_
  refine SeqC.open rfl rfl rfl rfl rfl rfl rfl (fun hcx => Runs.move rfl rfl) ?_
  refine SeqC.next rfl rfl rfl rfl rfl rfl rfl (fun hcx => Runs.remN rfl rfl rfl (by omega) (by omega)) ?_
  refine SeqC.next rfl rfl rfl rfl rfl rfl rfl (fun hcx => Runs.eqlI rfl rfl rfl) ?_
  refine SeqC.next rfl rfl rfl rfl rfl rfl rfl (fun hcx => Runs.move rfl rfl) ?_
  refine SeqC.open rfl rfl rfl rfl rfl rfl rfl (fun hcx => Runs.move rfl rfl) ?_
  refine SeqC.next rfl rfl rfl rfl rfl rfl rfl (fun hcx => Runs.remN rfl rfl rfl (by omega) (by omega)) ?_
  refine SeqC.next rfl rfl rfl rfl rfl rfl rfl (fun hcx => Runs.neqI rfl rfl rfl) ?_
  refine SeqC.andG rfl rfl rfl rfl rfl rfl rfl rfl rfl rfl rfl ?_
  refine SeqC.or rfl rfl rfl rfl rfl rfl rfl ?_
  refine Seq.val (Runs.assign rfl rfl) rfl rfl rfl ?_
  refine Seq.nil ?_
  refine Post.weak (F' := [(0, _), (2, _)]) ⟨rfl, rfl, trivial⟩ ?_
  refine Post.then_ ?_
  refine Cd.ret ?_
  refine Post.end1 rfl rfl (.inl rfl) ?_
  refine ⟨ret1 (bool_eq ?_), bel⟩
  rw [Bool.eq_iff_iff, leapB_iff]
  simp
  omega
theorem refDays_any (y m : Int) (w : World) (h0 : 0 ≤ y) (h1 : y ≤ 100000) (hm : I64 m) : Calls Try.prog 135 #[.int .i64 y, .int .i64 m] w fun e w' => e = .returned (.int .i64 (daysZ y m)) ∧ Grow w w' := by
  have bel := Below.refl w.heap.size w
  have hm1 := hm.1
  have hm2 := hm.2
  refine Calls.start 24 Try.func135 rfl rfl rfl ?_
  refine Cd.seq ?_
  refine Cd.region ?_
  refine Seq.val (Runs.assign rfl rfl) rfl rfl rfl ?_
  refine Seq.nil ?_
  refine Post.weak (F' := [(0, _), (1, _), (4, _)]) ⟨rfl, rfl, rfl, trivial⟩ ?_
  refine Post.then_ ?_
  refine Cd.seq ?_
  refine Cd.seq ?_
  refine Cd.region ?_
  refine Seq.val (Runs.move rfl rfl) rfl rfl rfl ?_
  refine Seq.val (Runs.lss rfl rfl rfl) rfl rfl rfl ?_
  refine Seq.val (Runs.move rfl rfl) rfl rfl rfl ?_
  refine SeqC.start ?_
  refine SeqC.open rfl rfl rfl rfl rfl rfl rfl (fun hcx => Runs.move rfl rfl) ?_
  refine SeqC.next rfl rfl rfl rfl rfl rfl rfl (fun hcx => Runs.gtr rfl rfl rfl) ?_
  refine SeqC.or rfl rfl rfl rfl rfl rfl rfl ?_
  refine Seq.nil ?_
  refine Post.weak (F' := [(0, _), (1, _), (4, _), (11, _)]) ⟨rfl, rfl, rfl, rfl, trivial⟩ ?_
  refine Post.then_ ?_
  refine Cd.cond rfl (fun h => ?_) (fun h => ?_)
  · skip
    refine Cd.seq ?_
    refine Cd.region ?_
    refine Seq.val (Runs.assign rfl rfl) rfl rfl rfl ?_
    refine Seq.nil ?_
    refine Post.weak (F' := [(0, _), (1, _), (4, _), (11, _)]) ⟨rfl, rfl, rfl, rfl, trivial⟩ ?_
    refine Post.then_ ?_
    refine Cd.ret ?_
    refine Post.then_ret ?_
    refine Post.end1 rfl rfl (.inl rfl) ?_
    refine ⟨ret1 (int_eq ?_), bel⟩
    simp at h
    unfold daysZ
    rw [if_neg (by omega), if_neg (by omega), if_neg (by omega)]
  · have hm3 : 1 ≤ m ∧ m ≤ 12 := by simp at h; omega
    clear h
    refine Cd.skip ?_
    refine Post.then_ ?_
    refine Cd.seq ?_
    refine Cd.region ?_
    refine Seq.slice (vs := [_, _, _, _, _, _, _, _, _, _, _, _]) (s := 1) rfl rfl rfl Try.underlying26 (by kernel_rfl) (zero_int) (by omega) (by omega) ⟨rfl, rfl, rfl, rfl, rfl, rfl, rfl, rfl, rfl, rfl, rfl, rfl, trivial⟩ rfl rfl rfl ?_
    intro g12 w1 n12
    have e12 := Nat.le_trans bel.size n12.ge
    replace bel := bel.step n12.below
    have k12 := n12.blk
    refine Seq.val (Runs.assign rfl rfl) rfl rfl rfl ?_
    refine Seq.nil ?_
    refine Post.weak (F' := [(0, _), (1, _), (4, _), (5, _), (11, _)]) ⟨rfl, rfl, rfl, rfl, rfl, trivial⟩ ?_
    refine Post.then_ ?_
    refine Cd.seq ?_
    refine Cd.seq ?_
    refine Cd.region ?_
    refine Seq.val (Runs.move rfl rfl) rfl rfl rfl ?_
    refine Seq.val (Runs.eqlI rfl rfl rfl) rfl rfl rfl ?_
    refine Seq.val (Runs.move rfl rfl) rfl rfl rfl ?_
    refine SeqC.start ?_
    refine SeqC.open rfl rfl rfl rfl rfl rfl rfl (fun hcx => Runs.move rfl rfl) ?_
    refine SeqC.nextC rfl rfl rfl rfl rfl rfl rfl (fun hcx => Enters.func rfl rfl rfl (run_enter Try.func134 (by kernel_rfl) rfl)) (fun hcx => refLeap_any y _ h0 h1) ?_
    intro w2 hw2
    replace bel := bel.step hw2
    replace k12 := k12.step hw2
    refine SeqC.and rfl rfl rfl rfl rfl rfl rfl ?_
    refine Seq.nil ?_
    refine Post.weak (F' := [(0, _), (1, _), (4, _), (5, _), (11, _), (18, _)]) ⟨rfl, rfl, rfl, rfl, rfl, rfl, trivial⟩ ?_
    refine Post.then_ ?_
    refine Cd.cond rfl (fun h => ?_) (fun h => ?_)
    · simp at h
      refine Cd.seq ?_
      refine Cd.region ?_
      refine Seq.val (Runs.assign rfl rfl) rfl rfl rfl ?_
      refine Seq.nil ?_
      refine Post.weak (F' := [(0, _), (1, _), (4, _), (5, _), (11, _), (18, _)]) ⟨rfl, rfl, rfl, rfl, rfl, rfl, trivial⟩ ?_
      refine Post.then_ ?_
      refine Cd.ret ?_
      refine Post.then_ret ?_
      refine Post.end1 rfl rfl (.inl rfl) ?_
      refine ⟨ret1 (int_eq ?_), bel⟩
      unfold daysZ
      rw [if_pos h.1, if_pos h.2]
    · simp at h
      refine Cd.skip ?_
      refine Post.then_ ?_
      refine Cd.seq ?_
      refine Cd.region ?_
      refine Seq.val (Runs.move rfl rfl) rfl rfl rfl ?_
      refine Seq.val (Runs.move rfl rfl) rfl rfl rfl ?_
      refine Seq.val (Runs.subI rfl rfl rfl (by omega) (by omega)) rfl rfl rfl ?_
      have hj : 0 ≤ m - 1 ∧ m - 1 < 12 := by omega
      have hv : (#[(.int .i64 31 : Value), .int .i64 28, .int .i64 31, .int .i64 30, .int .i64 31, .int .i64 30, .int .i64 31, .int .i64 31, .int .i64 30, .int .i64 31, .int .i64 30, .int .i64 31] : Array Value)[(m - 1).toNat]? = some (.int .i64 (daysZ y m)) := by
        rcases (show m = 1 ∨ m = 2 ∨ m = 3 ∨ m = 4 ∨ m = 5 ∨ m = 6 ∨ m = 7 ∨ m = 8 ∨ m = 9 ∨ m = 10 ∨ m = 11 ∨ m = 12 by omega) with rfl | rfl | rfl | rfl | rfl | rfl | rfl | rfl | rfl | rfl | rfl | rfl
        case inr.inl => unfold daysZ; rw [if_pos rfl, h rfl]; rfl
        all_goals rfl
      refine Seq.val (Runs.indexB rfl rfl rfl Try.underlying26 (by kernel_rfl) (j := (m - 1).toNat) (by omega) (by omega)) rfl rfl rfl ?_
      refine Seq.val (Runs.loadB rfl rfl Try.underlying3 rfl k12 hv) rfl rfl rfl ?_
      refine Seq.val (Runs.assign rfl rfl) rfl rfl rfl ?_
      refine Seq.nil ?_
      refine Post.weak (F' := [(0, _), (1, _), (4, _), (5, _), (11, _), (18, _)]) ⟨rfl, rfl, rfl, rfl, rfl, rfl, trivial⟩ ?_
      refine Post.then_ ?_
      refine Cd.ret ?_
      refine Post.end1 rfl rfl (.inl rfl) ?_
      exact ⟨rfl, bel⟩
theorem refDayOf_any (y m d : Int) (w : World) (hy : I64 y) (hm : I64 m) (hd : I64 d) : Calls Try.prog 94 #[.int .i64 y, .int .i64 m, .int .i64 d] w fun e w' => e = .returned (.int .i64 (if ofOk y m d then ofZ y m d else -1)) ∧ Grow w w' := by
  have bel := Below.refl w.heap.size w
  have hy1 := hy.1
  have hy2 := hy.2
  have hm1 := hm.1
  have hm2 := hm.2
  have hd1 := hd.1
  have hd2 := hd.2
  have hok := @of_span y m d
  have hdef : ofOk y m d = (decide (1970 ≤ y) && decide (y ≤ 9999) && decide (1 ≤ d) && decide (d ≤ daysZ y m)) := rfl
  have hdm := @daysZ_m y m
  refine Calls.start 60 Try.func94 rfl rfl rfl ?_
  refine Cd.seq ?_
  refine Cd.region ?_
  refine Seq.val (Runs.assign rfl rfl) rfl rfl rfl ?_
  refine Seq.nil ?_
  refine Post.weak (F' := [(0, _), (1, _), (2, _), (6, _)]) ⟨rfl, rfl, rfl, rfl, trivial⟩ ?_
  refine Post.then_ ?_
  refine Cd.seq ?_
  refine Cd.seq ?_
  refine Cd.region ?_
  refine Seq.val (Runs.move rfl rfl) rfl rfl rfl ?_
  refine Seq.val (Runs.lss rfl rfl rfl) rfl rfl rfl ?_
  refine Seq.val (Runs.move rfl rfl) rfl rfl rfl ?_
  refine SeqC.start ?_
  refine SeqC.open rfl rfl rfl rfl rfl rfl rfl (fun hcx => Runs.move rfl rfl) ?_
  refine SeqC.next rfl rfl rfl rfl rfl rfl rfl (fun hcx => Runs.gtr rfl rfl rfl) ?_
  refine SeqC.or rfl rfl rfl rfl rfl rfl rfl ?_
  refine Seq.val (Runs.move rfl rfl) rfl rfl rfl ?_
  refine SeqC.start ?_
  refine SeqC.open rfl rfl rfl rfl rfl rfl rfl (fun hcx => Runs.move rfl rfl) ?_
  refine SeqC.next rfl rfl rfl rfl rfl rfl rfl (fun hcx => Runs.lss rfl rfl rfl) ?_
  refine SeqC.or rfl rfl rfl rfl rfl rfl rfl ?_
  refine Seq.val (Runs.move rfl rfl) rfl rfl rfl ?_
  refine SeqC.start ?_
  refine SeqC.open rfl rfl rfl rfl rfl rfl rfl (fun hcx => Runs.move rfl rfl) ?_
  refine SeqC.next rfl rfl rfl rfl rfl rfl rfl (fun hcx => Runs.gtr rfl rfl rfl) ?_
  refine SeqC.or rfl rfl rfl rfl rfl rfl rfl ?_
  refine Seq.val (Runs.move rfl rfl) rfl rfl rfl ?_
  refine SeqC.start ?_
  refine SeqC.open rfl rfl rfl rfl rfl rfl rfl (fun hcx => Runs.move rfl rfl) ?_
  refine SeqC.next rfl rfl rfl rfl rfl rfl rfl (fun hcx => Runs.lss rfl rfl rfl) ?_
  refine SeqC.or rfl rfl rfl rfl rfl rfl rfl ?_
  refine Seq.val (Runs.move rfl rfl) rfl rfl rfl ?_
  refine SeqC.start ?_
  refine SeqC.open rfl rfl rfl rfl rfl rfl rfl (fun hcx => Runs.move rfl rfl) ?_
  refine SeqC.next rfl rfl rfl rfl rfl rfl rfl (fun hcx => Runs.move rfl rfl) ?_
  refine SeqC.next rfl rfl rfl rfl rfl rfl rfl (fun hcx => Runs.move rfl rfl) ?_
  refine SeqC.nextC rfl rfl rfl rfl rfl rfl rfl (fun hcx => Enters.func rfl rfl rfl (run_enter Try.func135 (by kernel_rfl) rfl)) (fun hcx => refDays_any y m _ (by simp at hcx; omega) (by simp at hcx; omega) hm) ?_
  intro w1 hw1
  replace bel := bel.step hw1
  refine SeqC.next rfl rfl rfl rfl rfl rfl rfl (fun hcx => Runs.gtr rfl rfl rfl) ?_
  refine SeqC.or rfl rfl rfl rfl rfl rfl rfl ?_
  refine Seq.nil ?_
  refine Post.weak (F' := [(0, _), (1, _), (2, _), (6, _), (34, _)]) ⟨rfl, rfl, rfl, rfl, rfl, trivial⟩ ?_
  refine Post.then_ ?_
  refine Cd.cond rfl (fun h => ?_) (fun h => ?_)
  · have hno : ofOk y m d = false := by
      rw [hdef, Bool.eq_false_iff]
      intro h2
      simp at h2 h
      have := hdm (by omega)
      omega
    refine Cd.seq ?_
    refine Cd.region ?_
    refine Seq.val (Runs.assign rfl rfl) rfl rfl rfl ?_
    refine Seq.nil ?_
    refine Post.weak (F' := [(0, _), (1, _), (2, _), (6, _), (34, _)]) ⟨rfl, rfl, rfl, rfl, rfl, trivial⟩ ?_
    refine Post.then_ ?_
    refine Cd.ret ?_
    refine Post.then_ret ?_
    refine Post.end1 rfl rfl (.inl rfl) ?_
    exact ⟨ret1 (int_eq (by rw [hno]; rfl)), bel⟩
  have hyes : ofOk y m d = true := by
    rw [hdef]
    simp at h ⊢
    omega
  obtain ⟨o1, o2, o3, o4, o5, o6, o7, o8, o9, o10⟩ := hok hyes
  clear h hok hdef hdm
  rw [hyes, if_pos rfl]
  refine Cd.skip ?_
  refine Post.then_ ?_
  refine Cd.seq ?_
  refine Cd.region ?_
  refine Seq.val (Runs.assign rfl rfl) rfl rfl rfl ?_
  refine Seq.nil ?_
  refine Post.weak (F' := [(0, _), (1, _), (2, _), (6, _), (7, _), (34, _)]) ⟨rfl, rfl, rfl, rfl, rfl, rfl, trivial⟩ ?_
  refine Post.then_ ?_
  refine Cd.seq ?_
  refine Cd.seq ?_
  refine Cd.region ?_
  refine Seq.val (Runs.assign rfl rfl) rfl rfl rfl ?_
  refine Seq.nil ?_
  refine Post.weak (F' := [(0, _), (1, _), (2, _), (6, _), (7, _), (8, _), (34, _)]) ⟨rfl, rfl, rfl, rfl, rfl, rfl, rfl, trivial⟩ ?_
  refine Post.then_ ?_
  refine Cd.block ?_
  refine Cd.loop (σ := Nat) (fun k => [(0, .int .i64 y), (1, .int .i64 m), (2, .int .i64 d), (7, .int .i64 (ofZ (1970 + k) 1 1)), (8, .int .i64 (1970 + k))])
    (fun k wr => 1970 + (k : Int) ≤ y ∧ Below w.heap.size w wr) (fun k => (y - 1970 - k).toNat) 0 ⟨by simp; omega, bel⟩ ⟨rfl, rfl, rfl, congrArg (fun x : Int => some (Value.int .i64 x)) (show (0 : Int) = ofZ (1970 + ((0 : Nat) : Int)) 1 1 by rfl), rfl, trivial⟩ ?_
  clear bel
  rintro k wr ⟨hk, bel⟩
  refine Cd.seq ?_
  refine Cd.seq ?_
  refine Cd.region ?_
  refine Seq.val (Runs.move rfl rfl) rfl rfl rfl ?_
  refine Seq.val (Runs.move rfl rfl) rfl rfl rfl ?_
  refine Seq.val (Runs.lss rfl rfl rfl) rfl rfl rfl ?_
  refine Seq.nil ?_
  refine Post.weak (F' := [(0, _), (1, _), (2, _), (7, _), (8, _), (37, _)]) ⟨rfl, rfl, rfl, rfl, rfl, rfl, trivial⟩ ?_
  refine Post.then_ ?_
  refine Cd.condD rfl (fun hc => ?_) (fun hc => ?_)
  · have h1 := of_year (1970 + k)
    have h2 := of_le_y (y := 1970) (y' := 1970 + (k : Int)) (by omega)
    have h3 := of_le_y (y := 1970 + (k : Int) + 1) (y' := 10000) (by omega)
    have h4 := yearZ_pos (1970 + (k : Int))
    rw [of_start] at h2
    rw [of_last] at h3
    have h5 : yearZ (1970 + (k : Int)) = if leapB (1970 + (k : Int)) then 366 else 365 := rfl
    have hnx : (1970 : Int) + ((k + 1 : Nat) : Int) = 1970 + (k : Int) + 1 := by omega
    generalize hY : 1970 + (k : Int) = Y at *
    refine Cd.skip ?_
    refine Post.then_ ?_
    refine Cd.seq ?_
    refine Cd.block ?_
    refine Cd.seq ?_
    refine Cd.region ?_
    refine Seq.val (Runs.move rfl rfl) rfl rfl rfl ?_
    refine Seq.val (Runs.addI rfl rfl rfl (by omega) (by omega)) rfl rfl rfl ?_
    refine Seq.val (Runs.assign rfl rfl) rfl rfl rfl ?_
    refine Seq.nil ?_
    refine Post.weak (F' := [(0, _), (1, _), (2, _), (7, _), (8, _), (37, _)]) ⟨rfl, rfl, rfl, rfl, rfl, rfl, trivial⟩ ?_
    refine Post.then_ ?_
    refine Cd.seq ?_
    refine Cd.region ?_
    refine Seq.val (Runs.move rfl rfl) rfl rfl rfl ?_
    refine Seq.call (Enters.func rfl rfl rfl (run_enter Try.func134 (by kernel_rfl) rfl)) rfl rfl rfl (refLeap_any Y _ (by omega) (by omega)) ?_
    rintro e w5 ⟨rfl, hb5⟩
    refine ⟨_, rfl, ?_⟩
    replace bel := bel.step hb5
    refine Seq.nil ?_
    refine Post.weak (F' := [(0, _), (1, _), (2, _), (7, _), (8, _), (37, _), (43, _)]) ⟨rfl, rfl, rfl, rfl, rfl, rfl, rfl, trivial⟩ ?_
    refine Post.then_ ?_
    refine Cd.cond rfl (fun h => ?_) (fun h => ?_)
    · rw [h, if_pos rfl] at h5
      refine Cd.region ?_
      refine Seq.val (Runs.move rfl rfl) rfl rfl rfl ?_
      refine Seq.val (Runs.addI rfl rfl rfl (by omega) (by omega)) rfl rfl rfl ?_
      refine Seq.val (Runs.assign rfl rfl) rfl rfl rfl ?_
      refine Seq.nil ?_
      refine Post.weak (F' := [(0, _), (1, _), (2, _), (7, _), (8, _), (37, _), (43, _)]) ⟨rfl, rfl, rfl, rfl, rfl, rfl, rfl, trivial⟩ ?_
      refine Post.block_normal ?_
      refine Post.then_ ?_
      refine Cd.region ?_
      refine Seq.val (Runs.move rfl rfl) rfl rfl rfl ?_
      refine Seq.val (Runs.addI rfl rfl rfl (by omega) (by omega)) rfl rfl rfl ?_
      refine Seq.val (Runs.assign rfl rfl) rfl rfl rfl ?_
      refine Seq.nil ?_
      refine Post.weak (F' := [(0, _), (1, _), (2, _), (7, _), (8, _), (37, _), (43, _)]) ⟨rfl, rfl, rfl, rfl, rfl, rfl, rfl, trivial⟩ ?_
      exact Post.round (k + 1) ⟨rfl, rfl, rfl, congrArg (fun x : Int => some (Value.int .i64 x)) (by rw [hnx]; omega), congrArg (fun x : Int => some (Value.int .i64 x)) hnx.symm, trivial⟩ ⟨by omega, bel⟩ (by omega)
    · rw [h, if_neg (by simp)] at h5
      refine Cd.skip ?_
      refine Post.block_normal ?_
      refine Post.then_ ?_
      refine Cd.region ?_
      refine Seq.val (Runs.move rfl rfl) rfl rfl rfl ?_
      refine Seq.val (Runs.addI rfl rfl rfl (by omega) (by omega)) rfl rfl rfl ?_
      refine Seq.val (Runs.assign rfl rfl) rfl rfl rfl ?_
      refine Seq.nil ?_
      refine Post.weak (F' := [(0, _), (1, _), (2, _), (7, _), (8, _), (37, _), (43, _)]) ⟨rfl, rfl, rfl, rfl, rfl, rfl, rfl, trivial⟩ ?_
      exact Post.round (k + 1) ⟨rfl, rfl, rfl, congrArg (fun x : Int => some (Value.int .i64 x)) (by rw [hnx]; omega), congrArg (fun x : Int => some (Value.int .i64 x)) hnx.symm, trivial⟩ ⟨by omega, bel⟩ (by omega)
  have hke : 1970 + (k : Int) = y := by omega
  rw [hke]
  clear hk
  refine Cd.exit ?_
  refine Post.then_exit ?_
  refine Post.round_exit ?_
  refine Post.block_exit ?_
  refine Post.then_ ?_
  refine Cd.seq ?_
  refine Cd.seq ?_
  refine Cd.region ?_
  refine Seq.val (Runs.assign rfl rfl) rfl rfl rfl ?_
  refine Seq.nil ?_
  refine Post.weak (F' := [(0, _), (1, _), (2, _), (7, _), (8, _), (9, _), (37, _)]) ⟨rfl, rfl, rfl, rfl, rfl, rfl, rfl, trivial⟩ ?_
  refine Post.then_ ?_
  refine Cd.block ?_
  refine Cd.loop (σ := Nat) (fun j => [(0, .int .i64 y), (1, .int .i64 m), (2, .int .i64 d), (7, .int .i64 (ofZ y (1 + j) 1)), (9, .int .i64 (1 + j))])
    (fun j wr => 1 + (j : Int) ≤ m ∧ Below w.heap.size w wr) (fun j => (m - 1 - j).toNat) 0 ⟨by simp; omega, bel⟩ ⟨rfl, rfl, rfl, rfl, rfl, trivial⟩ ?_
  clear bel
  rintro j wr2 ⟨hj, bel⟩
  refine Cd.seq ?_
  refine Cd.seq ?_
  refine Cd.region ?_
  refine Seq.val (Runs.move rfl rfl) rfl rfl rfl ?_
  refine Seq.val (Runs.move rfl rfl) rfl rfl rfl ?_
  refine Seq.val (Runs.lss rfl rfl rfl) rfl rfl rfl ?_
  refine Seq.nil ?_
  refine Post.weak (F' := [(0, _), (1, _), (2, _), (7, _), (9, _), (48, _)]) ⟨rfl, rfl, rfl, rfl, rfl, rfl, trivial⟩ ?_
  refine Post.then_ ?_
  have b1 := of_le_m (y := y) (m := 1) (m' := 1 + (j : Int)) (by omega) (by omega) (by omega)
  have b2 := of_le_m (y := y) (m := 1 + (j : Int)) (m' := m) (by omega) (by omega) (by omega)
  have b3 := of_le_y (y := 1970) (y' := y) (by omega)
  have b4 := of_day y m d
  rw [of_start] at b3
  refine Cd.condD rfl (fun hc => ?_) (fun hc => ?_)
  · have h1 := of_month y (1 + (j : Int)) (by omega) (by omega)
    have h2 := of_le_m (y := y) (m := 1 + (j : Int) + 1) (m' := m) (by omega) (by omega) (by omega)
    have h3 := daysZ_pos y (1 + (j : Int))
    have hnx : (1 : Int) + ((j + 1 : Nat) : Int) = 1 + (j : Int) + 1 := by omega
    generalize hM : 1 + (j : Int) = M at *
    refine Cd.skip ?_
    refine Post.then_ ?_
    refine Cd.seq ?_
    refine Cd.block ?_
    refine Cd.region ?_
    refine Seq.val (Runs.move rfl rfl) rfl rfl rfl ?_
    refine Seq.val (Runs.move rfl rfl) rfl rfl rfl ?_
    refine Seq.val (Runs.move rfl rfl) rfl rfl rfl ?_
    refine Seq.call (Enters.func rfl rfl rfl (run_enter Try.func135 (by kernel_rfl) rfl)) rfl rfl rfl (refDays_any y M _ (by omega) (by omega) ⟨by omega, by omega⟩) ?_
    rintro e w5 ⟨rfl, hb5⟩
    refine ⟨_, rfl, ?_⟩
    replace bel := bel.step hb5
    refine Seq.val (Runs.addI rfl rfl rfl (by omega) (by omega)) rfl rfl rfl ?_
    refine Seq.val (Runs.assign rfl rfl) rfl rfl rfl ?_
    refine Seq.nil ?_
    refine Post.weak (F' := [(0, _), (1, _), (2, _), (7, _), (9, _), (48, _)]) ⟨rfl, rfl, rfl, rfl, rfl, rfl, trivial⟩ ?_
    refine Post.block_normal ?_
    refine Post.then_ ?_
    refine Cd.region ?_
    refine Seq.val (Runs.move rfl rfl) rfl rfl rfl ?_
    refine Seq.val (Runs.addI rfl rfl rfl (by omega) (by omega)) rfl rfl rfl ?_
    refine Seq.val (Runs.assign rfl rfl) rfl rfl rfl ?_
    refine Seq.nil ?_
    refine Post.weak (F' := [(0, _), (1, _), (2, _), (7, _), (9, _), (48, _)]) ⟨rfl, rfl, rfl, rfl, rfl, rfl, trivial⟩ ?_
    exact Post.round (j + 1) ⟨rfl, rfl, rfl, congrArg (fun x : Int => some (Value.int .i64 x)) (by rw [hnx]; omega), congrArg (fun x : Int => some (Value.int .i64 x)) hnx.symm, trivial⟩ ⟨by omega, bel⟩ (by omega)
  · have hje : 1 + (j : Int) = m := by omega
    rw [hje] at b1 b2 ⊢
    refine Cd.exit ?_
    refine Post.then_exit ?_
    refine Post.round_exit ?_
    refine Post.block_exit ?_
    refine Post.then_ ?_
    refine Cd.seq ?_
    refine Cd.region ?_
    refine Seq.val (Runs.move rfl rfl) rfl rfl rfl ?_
    refine Seq.val (Runs.move rfl rfl) rfl rfl rfl ?_
    refine Seq.val (Runs.addI rfl rfl rfl (by omega) (by omega)) rfl rfl rfl ?_
    refine Seq.val (Runs.subI rfl rfl rfl (by omega) (by omega)) rfl rfl rfl ?_
    refine Seq.val (Runs.assign rfl rfl) rfl rfl rfl ?_
    refine Seq.nil ?_
    refine Post.weak (F' := [(0, _), (1, _), (2, _), (6, _), (7, _), (9, _), (48, _)]) ⟨rfl, rfl, rfl, rfl, rfl, rfl, rfl, trivial⟩ ?_
    refine Post.then_ ?_
    refine Cd.ret ?_
    refine Post.end1 rfl rfl (.inl rfl) ?_
    exact ⟨ret1 (int_eq (by omega)), bel⟩
theorem refCivil_any (y m d : Int) (w : World) (hok : ofOk y m d = true) : Calls Try.prog 86 #[.int .i64 (ofZ y m d)] w fun e w' => e = .returned (.tuple #[.int .i64 y, .int .i64 m, .int .i64 d]) ∧ Grow w w' := by
  have bel := Below.refl w.heap.size w
  obtain ⟨o1, o2, o3, o4, o5, o6, o7, o8, o9, o10⟩ := of_span hok
  obtain ⟨-, -, o11⟩ := daysZ_m (y := y) (m := m) (by omega)
  have hst := of_start
  have hda := of_day y m d
  have ha1 := of_le_m (y := y) (m := 1) (m' := m) (by omega) (by omega) (by omega)
  generalize hn : ofZ y m d = n at *
  refine Calls.start 48 Try.func86 rfl rfl rfl ?_
  refine Cd.seq ?_
  refine Cd.region ?_
  refine Seq.val (Runs.assign rfl rfl) rfl rfl rfl ?_
  refine Seq.val (Runs.assign rfl rfl) rfl rfl rfl ?_
  refine Seq.val (Runs.assign rfl rfl) rfl rfl rfl ?_
  refine Seq.nil ?_
  refine Post.weak (F' := [(0, _), (2, _), (3, _), (4, _)]) ⟨rfl, rfl, rfl, rfl, trivial⟩ ?_
  refine Post.then_ ?_
  refine Cd.seq ?_
  refine Cd.seq ?_
  refine Cd.region ?_
  refine Seq.val (Runs.move rfl rfl) rfl rfl rfl ?_
  refine Seq.val (Runs.lss rfl rfl rfl) rfl rfl rfl ?_
  refine Seq.val (Runs.move rfl rfl) rfl rfl rfl ?_
  refine SeqC.start ?_
  refine SeqC.open rfl rfl rfl rfl rfl rfl rfl (fun hcx => Runs.move rfl rfl) ?_
  refine SeqC.next rfl rfl rfl rfl rfl rfl rfl (fun hcx => Runs.gtr rfl rfl rfl) ?_
  refine SeqC.or rfl rfl rfl rfl rfl rfl rfl ?_
  refine Seq.nil ?_
  refine Post.weak (F' := [(0, _), (2, _), (3, _), (4, _), (12, _)]) ⟨rfl, rfl, rfl, rfl, rfl, trivial⟩ ?_
  refine Post.then_ ?_
  refine Cd.condF rfl (by simp; omega) ?_
  refine Cd.skip ?_
  refine Post.then_ ?_
  refine Cd.seq ?_
  refine Cd.region ?_
  refine Seq.val (Runs.assign rfl rfl) rfl rfl rfl ?_
  refine Seq.nil ?_
  refine Post.weak (F' := [(0, _), (2, _), (3, _), (4, _), (5, _), (12, _)]) ⟨rfl, rfl, rfl, rfl, rfl, rfl, trivial⟩ ?_
  refine Post.then_ ?_
  refine Cd.seq ?_
  refine Cd.block ?_
  refine Cd.loop (σ := Nat) (fun k => [(0, .int .i64 (n - ofZ (1970 + k) 1 1)), (5, .int .i64 (1970 + k))])
    (fun k wr => 1970 + (k : Int) ≤ y ∧ Below w.heap.size w wr) (fun k => (y - 1970 - k).toNat) 0 ⟨by simp; omega, bel⟩ ⟨congrArg (fun x : Int => some (Value.int .i64 x)) (show n = n - ofZ (1970 + ((0 : Nat) : Int)) 1 1 by show n = n - ofZ 1970 1 1; omega), rfl, trivial⟩ ?_
  clear bel
  rintro k wr ⟨hk, bel⟩
  have h1 := of_year (1970 + k)
  have h2 := of_le_y (y := 1970) (y' := 1970 + (k : Int)) (by omega)
  have h3 := of_le_y (y := 1970 + (k : Int)) (y' := y) hk
  have h4 : 1970 + (k : Int) < y → ofZ (1970 + (k : Int) + 1) 1 1 ≤ ofZ y 1 1 := fun h => of_le_y (y := 1970 + (k : Int) + 1) (y' := y) (by omega)
  have h5 : yearZ (1970 + (k : Int)) = if leapB (1970 + (k : Int)) then 366 else 365 := rfl
  have hnx : (1970 : Int) + ((k + 1 : Nat) : Int) = 1970 + (k : Int) + 1 := by omega
  have h6 : (1970 + (k : Int) < y) ∨ (1970 + (k : Int) = y) := by omega
  rw [hst] at h2
  generalize hY : 1970 + (k : Int) = Y at *
  refine Cd.seq ?_
  refine Cd.seq ?_
  refine Cd.region ?_
  refine Seq.val (Runs.move rfl rfl) rfl rfl rfl ?_
  refine Seq.val (Runs.geq rfl rfl rfl) rfl rfl rfl ?_
  refine Seq.val (Runs.move rfl rfl) rfl rfl rfl ?_
  refine SeqC.start ?_
  refine SeqC.open rfl rfl rfl rfl rfl rfl rfl (fun hcx => Runs.move rfl rfl) ?_
  refine SeqC.next rfl rfl rfl rfl rfl rfl rfl (fun hcx => Runs.geq rfl rfl rfl) ?_
  refine SeqC.next rfl rfl rfl rfl rfl rfl rfl (fun hcx => Runs.move rfl rfl) ?_
  refine SeqC.open rfl rfl rfl rfl rfl rfl rfl (fun hcx => Runs.move rfl rfl) ?_
  refine SeqC.nextC rfl rfl rfl rfl rfl rfl rfl (fun hcx => Enters.func rfl rfl rfl (run_enter Try.func134 (by kernel_rfl) rfl)) (fun hcx => refLeap_any Y _ (by omega) (by omega)) ?_
  intro w1 hw1
  replace bel := bel.step hw1
  refine SeqC.next rfl rfl rfl rfl rfl rfl rfl (fun hcx => Runs.not rfl rfl) ?_
  refine SeqC.orG rfl rfl rfl rfl rfl rfl rfl rfl rfl rfl rfl ?_
  refine SeqC.and rfl rfl rfl rfl rfl rfl rfl ?_
  refine Seq.nil ?_
  refine Post.weak (F' := [(0, _), (5, _), (23, _)]) ⟨rfl, rfl, rfl, trivial⟩ ?_
  refine Post.then_ ?_
  refine Cd.cond rfl (fun h => ?_) (fun h => ?_)
  · have hlt : Y < y := by
      rcases h6 with h6 | h6
      · exact h6
      · exfalso
        subst h6
        simp at h
        cases hl : leapB Y <;> rw [hl] at h h5 <;> simp at h h5 <;> omega
    have h7 := h4 hlt
    refine Cd.skip ?_
    refine Post.then_ ?_
    refine Cd.block ?_
    refine Cd.seq ?_
    refine Cd.region ?_
    refine Seq.val (Runs.move rfl rfl) rfl rfl rfl ?_
    refine Seq.val (Runs.subI rfl rfl rfl (by omega) (by omega)) rfl rfl rfl ?_
    refine Seq.val (Runs.assign rfl rfl) rfl rfl rfl ?_
    refine Seq.nil ?_
    refine Post.weak (F' := [(0, _), (5, _), (23, _)]) ⟨rfl, rfl, rfl, trivial⟩ ?_
    refine Post.then_ ?_
    refine Cd.seq ?_
    refine Cd.seq ?_
    refine Cd.region ?_
    refine Seq.val (Runs.move rfl rfl) rfl rfl rfl ?_
    refine Seq.call (Enters.func rfl rfl rfl (run_enter Try.func134 (by kernel_rfl) rfl)) rfl rfl rfl (refLeap_any Y _ (by omega) (by omega)) ?_
    rintro e w5 ⟨rfl, hb5⟩
    refine ⟨_, rfl, ?_⟩
    replace bel := bel.step hb5
    refine Seq.nil ?_
    refine Post.weak (F' := [(0, _), (5, _), (23, _), (27, _)]) ⟨rfl, rfl, rfl, rfl, trivial⟩ ?_
    refine Post.then_ ?_
    refine Cd.cond rfl (fun hl => ?_) (fun hl => ?_)
    · rw [hl, if_pos rfl] at h5
      refine Cd.region ?_
      refine Seq.val (Runs.move rfl rfl) rfl rfl rfl ?_
      refine Seq.val (Runs.subI rfl rfl rfl (by omega) (by omega)) rfl rfl rfl ?_
      refine Seq.val (Runs.assign rfl rfl) rfl rfl rfl ?_
      refine Seq.nil ?_
      refine Post.weak (F' := [(0, _), (5, _), (23, _), (27, _)]) ⟨rfl, rfl, rfl, rfl, trivial⟩ ?_
      refine Post.then_ ?_
      refine Cd.region ?_
      refine Seq.val (Runs.move rfl rfl) rfl rfl rfl ?_
      refine Seq.val (Runs.addI rfl rfl rfl (by omega) (by omega)) rfl rfl rfl ?_
      refine Seq.val (Runs.assign rfl rfl) rfl rfl rfl ?_
      refine Seq.nil ?_
      refine Post.weak (F' := [(0, _), (5, _), (23, _), (27, _)]) ⟨rfl, rfl, rfl, rfl, trivial⟩ ?_
      refine Post.block_normal ?_
      exact Post.round (k + 1) ⟨congrArg (fun x : Int => some (Value.int .i64 x)) (by rw [hnx]; omega), congrArg (fun x : Int => some (Value.int .i64 x)) hnx.symm, trivial⟩ ⟨by omega, bel⟩ (by omega)
    · rw [hl, if_neg (by simp)] at h5
      refine Cd.skip ?_
      refine Post.then_ ?_
      refine Cd.region ?_
      refine Seq.val (Runs.move rfl rfl) rfl rfl rfl ?_
      refine Seq.val (Runs.addI rfl rfl rfl (by omega) (by omega)) rfl rfl rfl ?_
      refine Seq.val (Runs.assign rfl rfl) rfl rfl rfl ?_
      refine Seq.nil ?_
      refine Post.weak (F' := [(0, _), (5, _), (23, _), (27, _)]) ⟨rfl, rfl, rfl, rfl, trivial⟩ ?_
      refine Post.block_normal ?_
      exact Post.round (k + 1) ⟨congrArg (fun x : Int => some (Value.int .i64 x)) (by rw [hnx]; omega), congrArg (fun x : Int => some (Value.int .i64 x)) hnx.symm, trivial⟩ ⟨by omega, bel⟩ (by omega)
  have hke : Y = y := by
    rcases h6 with h6 | h6
    · exfalso
      have h7 := h4 h6
      simp at h
      cases hl : leapB Y <;> rw [hl] at h h5 <;> simp at h h5 <;> omega
    · exact h6
  subst hke
  clear hk h6 h4
  refine Cd.exit ?_
  refine Post.then_exit ?_
  refine Post.round_exit ?_
  refine Post.block_exit ?_
  refine Post.then_ ?_
  refine Cd.seq ?_
  refine Cd.region ?_
  refine Seq.val (Runs.assign rfl rfl) rfl rfl rfl ?_
  refine Seq.nil ?_
  refine Post.weak (F' := [(0, _), (5, _), (6, _), (23, _)]) ⟨rfl, rfl, rfl, rfl, trivial⟩ ?_
  refine Post.then_ ?_
  refine Cd.seq ?_
  refine Cd.block ?_
  refine Cd.loop (σ := Nat) (fun j => [(0, .int .i64 (n - ofZ Y (1 + j) 1)), (5, .int .i64 Y), (6, .int .i64 (1 + j))])
    (fun j wr => 1 + (j : Int) ≤ m ∧ Below w.heap.size w wr) (fun j => (m - 1 - j).toNat) 0 ⟨by simp; omega, bel⟩ ⟨rfl, rfl, rfl, trivial⟩ ?_
  clear bel
  rintro j wr2 ⟨hj, bel⟩
  have b1 := of_le_m (y := Y) (m := 1) (m' := 1 + (j : Int)) (by omega) (by omega) (by omega)
  have b2 : 1 + (j : Int) < m → ofZ Y (1 + (j : Int)) 1 + daysZ Y (1 + (j : Int)) ≤ ofZ Y m 1 := fun h => by
    have e := of_month Y (1 + (j : Int)) (by omega) (by omega)
    have := of_le_m (y := Y) (m := 1 + (j : Int) + 1) (m' := m) (by omega) (by omega) (by omega)
    omega
  have b3 : 1 + (j : Int) < m → ofZ Y (1 + (j : Int) + 1) 1 = ofZ Y (1 + (j : Int)) 1 + daysZ Y (1 + (j : Int)) := fun h => of_month Y (1 + (j : Int)) (by omega) (by omega)
  have b5 : 1 + (j : Int) < m ∨ 1 + (j : Int) = m := by omega
  have b4 := daysZ_pos Y (1 + (j : Int))
  have hnx : (1 : Int) + ((j + 1 : Nat) : Int) = 1 + (j : Int) + 1 := by omega
  generalize hM : 1 + (j : Int) = M at *
  refine Cd.seq ?_
  refine Cd.seq ?_
  refine Cd.region ?_
  refine Seq.val (Runs.move rfl rfl) rfl rfl rfl ?_
  refine Seq.val (Runs.move rfl rfl) rfl rfl rfl ?_
  refine Seq.val (Runs.move rfl rfl) rfl rfl rfl ?_
  refine Seq.call (Enters.func rfl rfl rfl (run_enter Try.func135 (by kernel_rfl) rfl)) rfl rfl rfl (refDays_any Y M _ (by omega) (by omega) ⟨by omega, by omega⟩) ?_
  rintro e w5 ⟨rfl, hb5⟩
  refine ⟨_, rfl, ?_⟩
  replace bel := bel.step hb5
  refine Seq.val (Runs.geq rfl rfl rfl) rfl rfl rfl ?_
  refine Seq.nil ?_
  refine Post.weak (F' := [(0, _), (5, _), (6, _), (36, _)]) ⟨rfl, rfl, rfl, rfl, trivial⟩ ?_
  refine Post.then_ ?_
  refine Cd.condD rfl (fun hc => ?_) (fun hc => ?_)
  · have hlt : M < m := by
      rcases b5 with h | h
      · exact h
      · exfalso; subst h; omega
    have b6 := b2 hlt
    have b7 := b3 hlt
    refine Cd.skip ?_
    refine Post.then_ ?_
    refine Cd.block ?_
    refine Cd.seq ?_
    refine Cd.region ?_
    refine Seq.val (Runs.move rfl rfl) rfl rfl rfl ?_
    refine Seq.val (Runs.move rfl rfl) rfl rfl rfl ?_
    refine Seq.val (Runs.move rfl rfl) rfl rfl rfl ?_
    refine Seq.call (Enters.func rfl rfl rfl (run_enter Try.func135 (by kernel_rfl) rfl)) rfl rfl rfl (refDays_any Y M _ (by omega) (by omega) ⟨by omega, by omega⟩) ?_
    rintro e w6 ⟨rfl, hb6⟩
    refine ⟨_, rfl, ?_⟩
    replace bel := bel.step hb6
    refine Seq.val (Runs.subI rfl rfl rfl (by omega) (by omega)) rfl rfl rfl ?_
    refine Seq.val (Runs.assign rfl rfl) rfl rfl rfl ?_
    refine Seq.nil ?_
    refine Post.weak (F' := [(0, _), (5, _), (6, _), (36, _)]) ⟨rfl, rfl, rfl, rfl, trivial⟩ ?_
    refine Post.then_ ?_
    refine Cd.region ?_
    refine Seq.val (Runs.move rfl rfl) rfl rfl rfl ?_
    refine Seq.val (Runs.addI rfl rfl rfl (by omega) (by omega)) rfl rfl rfl ?_
    refine Seq.val (Runs.assign rfl rfl) rfl rfl rfl ?_
    refine Seq.nil ?_
    refine Post.weak (F' := [(0, _), (5, _), (6, _), (36, _)]) ⟨rfl, rfl, rfl, rfl, trivial⟩ ?_
    refine Post.block_normal ?_
    exact Post.round (j + 1) ⟨congrArg (fun x : Int => some (Value.int .i64 x)) (by rw [hnx, b7]; omega), rfl, congrArg (fun x : Int => some (Value.int .i64 x)) hnx.symm, trivial⟩ ⟨by omega, bel⟩ (by omega)
  · obtain rfl : M = m := by
      rcases b5 with h | h
      · have := b2 h; omega
      · exact h
    refine Cd.exit ?_
    refine Post.then_exit ?_
    refine Post.round_exit ?_
    refine Post.block_exit ?_
    refine Post.then_ ?_
    refine Cd.seq ?_
    refine Cd.region ?_
    refine Seq.val (Runs.move rfl rfl) rfl rfl rfl ?_
    refine Seq.val (Runs.move rfl rfl) rfl rfl rfl ?_
    refine Seq.val (Runs.move rfl rfl) rfl rfl rfl ?_
    refine Seq.val (Runs.addI rfl rfl rfl (by omega) (by omega)) rfl rfl rfl ?_
    refine Seq.val (Runs.assign rfl rfl) rfl rfl rfl ?_
    refine Seq.val (Runs.assign rfl rfl) rfl rfl rfl ?_
    refine Seq.val (Runs.assign rfl rfl) rfl rfl rfl ?_
    refine Seq.nil ?_
    refine Post.weak (F' := [(0, _), (2, _), (3, _), (4, _), (5, _), (6, _), (36, _)]) ⟨rfl, rfl, rfl, rfl, rfl, rfl, rfl, trivial⟩ ?_
    refine Post.then_ ?_
    refine Cd.ret ?_
    refine Post.end3 rfl rfl rfl rfl (.inl rfl) ?_
    exact ⟨ret3 rfl rfl (int_eq (by omega)), bel⟩
end Go.Proofs.Ytijaldpmpjapiaa
namespace Go.Proofs.Ytijaldpmpjapiaa
open Go.RowKit

/-- The number of some digits, the lowest first. -/
def val : List Nat → Nat
  | [] => 0
  | d :: l => d + 65536 * val l
/-- A number's digits, the lowest first, none above it nought. -/
def digs (n : Nat) : List Nat := if n = 0 then [] else n % 65536 :: digs (n / 65536)
termination_by n
decreasing_by omega
theorem digs_zero : digs 0 = [] := by rw [digs]; simp
theorem digs_pos (n : Nat) (h : n ≠ 0) : digs n = n % 65536 :: digs (n / 65536) := by rw [digs, if_neg h]
theorem val_digs (n : Nat) : val (digs n) = n := by
  induction n using Nat.strongRecOn with
  | _ n ih =>
    by_cases h : n = 0
    · subst h; rw [digs_zero]; rfl
    · rw [digs_pos n h, val, ih _ (by omega)]; omega
theorem digs_lt (n : Nat) : ∀ d ∈ digs n, d < 65536 := by
  induction n using Nat.strongRecOn with
  | _ n ih =>
    by_cases h : n = 0
    · subst h; rw [digs_zero]; simp
    · rw [digs_pos n h]
      intro d hd
      rcases List.mem_cons.1 hd with rfl | hd
      · omega
      · exact ih _ (by omega) d hd
theorem digs_ne_nil (n : Nat) (h : n ≠ 0) : digs n ≠ [] := by rw [digs_pos n h]; simp
theorem digs_len_zero (n : Nat) : (digs n).length = 0 ↔ n = 0 := by
  by_cases h : n = 0
  · subst h; simp [digs_zero]
  · rw [digs_pos n h]; simp [h]
theorem digs_val (l : List Nat) (h : ∀ d ∈ l, d < 65536) (hl : ∀ k, l.length = k + 1 → l[k]? ≠ some 0) : digs (val l) = l := by
  induction l with
  | nil => exact digs_zero
  | cons d l ih =>
    have hd := h d (by simp)
    have ih := ih (fun x hx => h x (by simp [hx])) (fun k hk => by have := hl (k + 1) (by simp [hk]); simpa using this)
    have hne : val (d :: l) ≠ 0 := by
      rw [val]
      intro h0
      have hv : val l = 0 := by omega
      rw [hv, digs_zero] at ih
      subst ih
      have hd0 : d = 0 := by omega
      exact hl 0 rfl (by simp [hd0])
    rw [digs_pos _ hne, val]
    have e1 : (d + 65536 * val l) % 65536 = d := by omega
    have e2 : (d + 65536 * val l) / 65536 = val l := by omega
    rw [e1, e2, ih]
theorem val_append (a b : List Nat) : val (a ++ b) = val a + 65536 ^ a.length * val b := by
  induction a with
  | nil => simp [val]
  | cons d a ih => 
    rw [List.cons_append, val, val, ih, List.length_cons, Nat.pow_succ, Nat.mul_add, Nat.add_assoc, Nat.mul_comm (65536 ^ a.length) 65536, Nat.mul_assoc]
theorem val_snoc (a : List Nat) (d : Nat) : val (a ++ [d]) = val a + 65536 ^ a.length * d := by rw [val_append]; simp [val]
theorem val_take_zero (l : List Nat) (k : Nat) (h : l[k]? = some 0) : val (l.take (k + 1)) = val (l.take k) := by
  rw [List.take_add_one, h]
  show val (_ ++ [0]) = _
  rw [val_snoc]
  simp
theorem val_lt (l : List Nat) (h : ∀ d ∈ l, d < 65536) : val l < 65536 ^ l.length := by
  induction l with
  | nil => simp [val]
  | cons d l ih =>
    have := ih (fun x hx => h x (by simp [hx]))
    have hd := h d (by simp)
    rw [val, List.length_cons, Nat.pow_succ]
    omega
theorem digs_len_le (n k : Nat) (h : n < 65536 ^ k) : (digs n).length ≤ k := by
  induction k generalizing n with
  | zero => obtain rfl : n = 0 := by simpa using h
            simp [digs_zero]
  | succ k ih =>
    by_cases h0 : n = 0
    · subst h0; simp [digs_zero]
    · rw [digs_pos n h0, List.length_cons]
      have := ih (n / 65536) (by rw [Nat.pow_succ] at h; omega)
      omega
theorem lt_of_digs_len (n : Nat) : n < 65536 ^ (digs n).length := by
  have := val_lt _ (digs_lt n)
  rwa [val_digs] at this
theorem digs_last (n k : Nat) (h : (digs n).length = k + 1) : (digs n)[k]? ≠ some 0 := by
  intro h0
  have e := val_take_zero _ _ h0
  rw [List.take_of_length_le (by omega), val_digs] at e
  have hlt := val_lt ((digs n).take k) (fun d hd => digs_lt n d (List.mem_of_mem_take hd))
  rw [← e] at hlt
  have := digs_len_le n _ hlt
  rw [List.length_take] at this
  omega
theorem digs_take (l : List Nat) (k : Nat) (hd : ∀ d ∈ l, d < 65536) (hk : k ≤ l.length) (hv : val (l.take k) = val l) (hl : ∀ j, k = j + 1 → l[j]? ≠ some 0) : digs (val l) = l.take k := by
  rw [← hv]
  refine digs_val _ (fun d h => hd d (List.mem_of_mem_take h)) (fun j hj => ?_)
  rw [List.length_take, Nat.min_eq_left hk] at hj
  subst hj
  have := hl j rfl
  simpa [List.getElem?_take] using this

/-- Digits as cells. -/
def U (l : List Nat) : List Value := l.map fun (d : Nat) => Value.int .u64 (d : Int)
theorem length_U (l : List Nat) : (U l).length = l.length := by simp [U]
theorem get_U (l : List Nat) (k : Nat) : (U l)[k]? = l[k]?.map fun (d : Nat) => Value.int .u64 (d : Int) := by simp [U]
theorem U_append (a b : List Nat) : U (a ++ b) = U a ++ U b := by simp [U]
theorem U_take (l : List Nat) (k : Nat) : (U l).take k = U (l.take k) := by simp [U]
theorem Reads.dig {w wr : World} {B B' n k : Nat} {A : Option Addr} {l : List Nat} (h : Reads w B 1 A n (U l)) (hb : Below B' w wr) (hB : B ≤ B') (hk : k < n) :
    ∃ ad d, A = some ad ∧ ad.block < B ∧ l[k]? = some d ∧ wr.cell? (ad.add k) = some (.int .u64 (d : Int)) := by
  obtain ⟨ad, u, e, hbl, hu, hc⟩ := h.at_ hk
  rw [get_U] at hu
  cases hl : l[k]? with
  | none => rw [hl] at hu; cases hu
  | some d =>
    rw [hl] at hu
    injection hu with hu
    exact ⟨ad, d, e, hbl, rfl, by rw [hb.cell (by rw [block_of_add]; omega), hc, ← hu]⟩
theorem Reads.len_U {w : World} {B n : Nat} {A : Option Addr} {l : List Nat} (h : Reads w B 1 A n (U l)) : l.length = n := by have := h.1; rw [length_U] at this; omega

set_option maxHeartbeats 400000 in
theorem trim_any (B : Nat) (A : Option Addr) (n cap : Nat) (l : List Nat) (w : World) (hr : Reads w B 1 A n (U l)) (hB : B ≤ w.heap.size) (hd : ∀ d ∈ l, d < 65536) (hn : n ≤ 1073741824) (hc : n ≤ cap) :
    Calls Try.prog 143 #[.slice A n cap] w fun e w' => e = .returned (.slice A (digs (val l)).length cap) ∧ w = w' := by
  go_enter Try.func143, Try.ntmps143
  go_wp2_with fail
  go_loopw [0] (fun u wr => ∃ k : Nat, k ≤ n ∧ u = .slice A k cap ∧ val (l.take k) = val l ∧ w = wr) (fun u _ => match u with | .slice _ k _ => k | _ => 0)
  case atStart => exact ⟨n, Nat.le_refl _, rfl, by rw [List.take_of_length_le (by rw [hr.len_U]; omega)], rfl⟩
  case round =>
    obtain ⟨k, hk, rfl, hv, rfl⟩ := hrel
    have hlen := hr.len_U
    have Hd := Lib.hid hd
    have Hv := Lib.hid hv
    clear hd hv
    rcases Nat.eq_zero_or_pos k with h0 | h0
    · subst h0
      have e := digs_take l 0 Hd.out (by omega) Hv.out (by omega)
      have e2 := Lib.hid (congrArg List.length e)
      clear e
      go_wp2_with fail
      go_ret
      rw [e2.out]
      exact ⟨rfl, rfl⟩
    · obtain ⟨j, rfl⟩ : ∃ j, k = j + 1 := ⟨k - 1, by omega⟩
      obtain ⟨ad, d, rfl, hbl, hg, hcell⟩ := hr.dig (Below.refl B w) (Nat.le_refl _) (show j < n by omega)
      have Hg := Lib.hid hg
      have ej : ((j + 1 : Nat) : Int) - 1 = (j : Int) := by omega
      clear hg
      by_cases hz : d = 0
      · subst hz
        have Hv2 := Lib.hid ((val_take_zero l j Hg.out).symm.trans Hv.out)
        go_wp2_with fail
        go_roundw
        case rel => exact ⟨j, by omega, by go_num, Hv2.out, trivial⟩
        case measure => simp
      · have e := digs_take l (j + 1) Hd.out (by omega) Hv.out (fun i hi => by obtain rfl : i = j := by omega
                                                                               rw [Hg.out]; simpa using hz)
        have e2 := Lib.hid (congrArg List.length e)
        clear e
        go_wp2_with fail
        go_ret
        rw [e2.out, List.length_take, Nat.min_eq_left (by omega)]
        exact ⟨rfl, rfl⟩
end Go.Proofs.Ytijaldpmpjapiaa
namespace Go.Proofs.Ytijaldpmpjapiaa
open Go.RowKit

/-- A slice that holds a number's digits. -/
def MagR (w : World) (v : Value) (n : Nat) : Prop := ∃ A c, v = .slice A (digs n).length c ∧ (digs n).length ≤ c ∧ c ≤ 9223372036854775807 ∧ Reads w w.heap.size 1 A (digs n).length (U (digs n))
/-- Its block is none of the old ones. -/
def Fresh (base : Nat) (v : Value) : Prop := match v with
  | .slice (some A) _ _ => base ≤ A.block
  | _ => True
theorem Fresh.mono {b b' : Nat} {v : Value} (h : Fresh b v) (hb : b' ≤ b) : Fresh b' v := by
  unfold Fresh at *
  split <;> first | trivial | (simp only at h; omega)
theorem MagR.step {w w' : World} {v : Value} {n : Nat} (h : MagR w v n) (hb : Below w.heap.size w w') : MagR w' v n := by
  obtain ⟨A, c, e, h1, h2, h3⟩ := h
  exact ⟨A, c, e, h1, h2, (h3.below hb).more hb.size⟩
theorem MagR.drewN {w : World} {v : Value} {n : Nat} (h : MagR w v n) (k : Nat) : MagR (w.drewN k) v n := h
theorem MagR.nil (w : World) (c : Nat) (hc : c ≤ 9223372036854775807) : MagR w (.slice none 0 c) 0 := ⟨none, c, by rw [digs_zero]; rfl, by rw [digs_zero]; simp, hc, by rw [digs_zero]; exact Reads.none_⟩

theorem val_split (l : List Nat) (i d : Nat) (h : l[i]? = some d) : val l = val (l.take i) + 65536 ^ i * (d + 65536 * val (l.drop (i + 1))) := by
  obtain ⟨hi, rfl⟩ := List.getElem?_eq_some_iff.1 h
  have e := val_append (l.take i) (l.drop i)
  rw [List.take_append_drop, List.length_take, Nat.min_eq_left (by omega)] at e
  rw [List.drop_eq_getElem_cons hi, val] at e
  exact e
theorem val_lt_at (a b : List Nat) (i x y : Nat) (ha : ∀ d ∈ a, d < 65536) (hx : a[i]? = some x) (hy : b[i]? = some y) (hlt : x < y) (hd : a.drop (i + 1) = b.drop (i + 1)) : val a < val b := by
  rw [val_split a i x hx, val_split b i y hy, hd]
  obtain ⟨hi, -⟩ := List.getElem?_eq_some_iff.1 hx
  have h1 := val_lt (a.take i) (fun d h => ha d (List.mem_of_mem_take h))
  rw [List.length_take, Nat.min_eq_left (by omega)] at h1
  have h2 : 65536 ^ i * (x + 65536 * val (b.drop (i + 1)) + 1) ≤ 65536 ^ i * (y + 65536 * val (b.drop (i + 1))) := Nat.mul_le_mul_left _ (by omega)
  rw [Nat.mul_add _ _ 1] at h2
  omega
theorem lt_of_len (a b : Nat) (h : (digs a).length < (digs b).length) : a < b := by
  rcases Nat.lt_or_ge a b with h1 | h1
  · exact h1
  · exfalso
    have h2 := lt_of_digs_len a
    have := digs_len_le b _ (Nat.lt_of_le_of_lt h1 h2)
    omega
theorem drop_step {α : Type} (a b : List α) (i : Nat) (x : α) (hx : a[i]? = some x) (hy : b[i]? = some x) (h : a.drop (i + 1) = b.drop (i + 1)) : a.drop i = b.drop i := by
  obtain ⟨h1, e1⟩ := List.getElem?_eq_some_iff.1 hx
  obtain ⟨h2, e2⟩ := List.getElem?_eq_some_iff.1 hy
  rw [List.drop_eq_getElem_cons h1, List.drop_eq_getElem_cons h2, e1, e2, h]

/-- How two numbers stand. -/
def cmpZ (a b : Int) : Int := if a < b then -1 else if a = b then 0 else 1
def cmpN (a b : Nat) : Int := if a < b then -1 else if a = b then 0 else 1

set_option maxHeartbeats 400000 in
theorem cmp_any (x y : Value) (a b : Nat) (w : World) (hx : MagR w x a) (hy : MagR w y b) (ha : (digs a).length ≤ 1073741824) (hb : (digs b).length ≤ 1073741824) :
    Calls Try.prog 141 #[x, y] w fun e w' => e = .returned (.int .i64 (cmpN a b)) ∧ Drawn w w' := by
  obtain ⟨A, ca, rfl, hca, hca2, hra⟩ := hx
  obtain ⟨B, cb, rfl, hcb, hcb2, hrb⟩ := hy
  go_enter Try.func141, Try.ntmps141
  have Hla := Lib.hid (show (digs a).length = (digs a).length from rfl)
  rcases Nat.lt_trichotomy (digs a).length (digs b).length with hl | hl | hl
  · have e := Lib.hid (show cmpN a b = -1 by unfold cmpN; rw [if_pos (lt_of_len a b hl)])
    go_wp2_with fail
    go_ret
    rw [e.out]
    exact ⟨rfl, Drawn.refl _⟩
  · generalize hm : (digs a).length = m at *
    have hne : ((m : Int) != ((digs b).length : Int)) = false := by simp; omega
    rw [← hl] at hrb hb hcb ⊢
    have Ha := Lib.hid hm
    have Hb := Lib.hid hl
    clear hm hl hne
    go_wp2_with fail
    go_loopw [5] (fun i wr => ∃ k : Nat, k ≤ m ∧ i = .int .i64 ((k : Int) - 1) ∧ (digs a).drop k = (digs b).drop k ∧ Drawn w wr) (fun i _ => (intOf i + 1).toNat)
    case atStart => exact ⟨m, Nat.le_refl _, rfl, by rw [List.drop_of_length_le (by rw [Ha.out]; omega), List.drop_of_length_le (by rw [← Hb.out]; omega)], Drawn.refl _⟩
    case round =>
      obtain ⟨k, hk, rfl, hd, hdr⟩ := hrel
      have Hd := Lib.hid hd
      clear hd
      rcases Nat.eq_zero_or_pos k with h0 | h0
      · subst h0
        have hab : a = b := by have := congrArg val Hd.out; simpa [val_digs] using this
        have e := Lib.hid (show cmpN a b = 0 by unfold cmpN; rw [if_neg (by omega), if_pos hab])
        go_wp2_with fail
        go_ret
        rw [e.out]
        exact ⟨rfl, hdr⟩
      · obtain ⟨j, rfl⟩ : ∃ j, k = j + 1 := ⟨k - 1, by omega⟩
        obtain ⟨ad, p, rfl, hbl, hp, hcp⟩ := hra.dig (hdr.below w.heap.size) (Nat.le_refl _) (show j < m by omega)
        obtain ⟨bd, q, rfl, hbl2, hq, hcq⟩ := hrb.dig (hdr.below w.heap.size) (Nat.le_refl _) (show j < m by omega)
        have ej : ((j + 1 : Nat) : Int) - 1 = (j : Int) := by omega
        rw [ej]
        have Hp := Lib.hid hp
        have Hq := Lib.hid hq
        clear hp hq
        rcases Nat.lt_trichotomy p q with hl | hl | hl
        · have e := Lib.hid (show cmpN a b = -1 by
            have := val_lt_at (digs a) (digs b) j p q (digs_lt a) Hp.out Hq.out hl Hd.out
            rw [val_digs, val_digs] at this
            unfold cmpN; rw [if_pos this])
          go_wp2_with fail
          go_quiet (fail)
          go_wp2_with fail
          go_ret
          rw [e.out]
          exact ⟨rfl, hdr.drewN _⟩
        · subst hl
          go_wp2_with fail
          go_quiet (fail)
          go_wp2_with fail
          go_quiet (fail)
          go_wp2_with fail
          go_roundw
          case rel => exact ⟨j, by omega, by go_num, drop_step _ _ j p Hp.out Hq.out Hd.out, hdr.drewN _⟩
          case measure => simp [intOf]
        · have e := Lib.hid (show cmpN a b = 1 by
            have := val_lt_at (digs b) (digs a) j q p (digs_lt b) Hq.out Hp.out hl Hd.out.symm
            rw [val_digs, val_digs] at this
            unfold cmpN; rw [if_neg (by omega), if_neg (by omega)])
          go_wp2_with fail
          go_quiet (fail)
          go_wp2_with fail
          go_quiet (fail)
          go_wp2_with fail
          go_ret
          rw [e.out]
          exact ⟨rfl, (hdr.drewN _).drewN _⟩
  · have e := Lib.hid (show cmpN a b = 1 by unfold cmpN; have := lt_of_len b a hl; rw [if_neg (by omega), if_neg (by omega)])
    go_wp2_with fail
    go_ret
    rw [e.out]
    exact ⟨rfl, Drawn.refl _⟩
end Go.Proofs.Ytijaldpmpjapiaa
namespace Go.Proofs.Ytijaldpmpjapiaa
open Go.RowKit

theorem infoU : (Try.prog.info? 124).map (fun i => (i.zero, i.size, i.bytes)) = some (some (.int .u64 0), 1, 8) := by kernel_rfl
theorem U_snoc (l : List Nat) (d : Nat) (z : Int) (h : z = d) : U l ++ (#[Value.int .u64 z] : Array Value).toList = U (l ++ [d]) := by rw [U_append, h]; rfl
theorem own_snoc {w : World} {base : Nat} {e : TypeId} {n : Nat} {v : Value} {l : List Nat} {d : Nat} {z : Int} (h : w.ownsRow base e 1 v n (U l ++ (#[Value.int .u64 z] : Array Value).toList)) (hz : z = d) : w.ownsRow base e 1 v n (U (l ++ [d])) := U_snoc l d z hz ▸ h
theorem val_take_succ (l : List Nat) (k : Nat) : val (l.take (k + 1)) = val (l.take k) + 65536 ^ k * l.getD k 0 := by
  rcases Nat.lt_or_ge k l.length with h | h
  · rw [List.take_add_one, List.getElem?_eq_getElem h]
    show val (_ ++ [_]) = _
    rw [val_snoc, List.length_take, Nat.min_eq_left (by omega)]
    simp [List.getD, List.getElem?_eq_getElem h]
  · rw [List.take_of_length_le (by omega), List.take_of_length_le (by omega)]
    simp [List.getD, List.getElem?_eq_none h]
theorem getD_lt (n k : Nat) : (digs n).getD k 0 < 65536 := by
  rcases Nat.lt_or_ge k (digs n).length with h | h
  · have := digs_lt n _ (List.getElem_mem h)
    simpa [List.getD, List.getElem?_eq_getElem h] using this
  · simp [List.getD, List.getElem?_eq_none h]
theorem getD_of (l : List Nat) (k d : Nat) (h : l[k]? = some d) : l.getD k 0 = d := by simp [List.getD, h]
theorem getD_out (l : List Nat) (k : Nat) (h : l.length ≤ k) : l.getD k 0 = 0 := by simp [List.getD, List.getElem?_eq_none h]
theorem reads_at_own {w : World} {base : Nat} {e : TypeId} {size n : Nat} {v : Value} {xs : List Value} (h : w.ownsRow base e size v n xs) : ∃ A c, v = .slice A n c ∧ n ≤ c ∧ c ≤ 9223372036854775807 ∧ Reads w w.heap.size size A n xs ∧ ∀ k, Fresh base (.slice A k c) := by
  rcases h.2 with ⟨rfl, rfl⟩ | ⟨g, cap, cur, rfl, hb, _, hc, hc2, _⟩
  · exact ⟨none, 0, rfl, Nat.le_refl _, by omega, Reads.of_own h, fun _ => trivial⟩
  · exact ⟨_, cap, rfl, hc, by unfold maxLen at hc2; omega, Reads.of_own h, fun _ => hb⟩
/-- What trim leaves of digits that the call made. -/
theorem mag_of_trim {w : World} {A : Option Addr} {n c m : Nat} {l : List Nat} (hr : Reads w w.heap.size 1 A n (U l)) (hd : ∀ d ∈ l, d < 65536) (hc : n ≤ c) (hc2 : c ≤ 9223372036854775807) (hv : val l = m) : MagR w (.slice A (digs (val l)).length c) m := by
  subst hv
  have hlen := hr.len_U
  have hle : (digs (val l)).length ≤ n := by rw [← hlen]; exact digs_len_le _ _ (val_lt l hd)
  have e : digs (val l) = l.take (digs (val l)).length := by
    -- the digits of a number are its list's first ones
    have h : ∀ (l : List Nat), (∀ d ∈ l, d < 65536) → digs (val l) = l.take (digs (val l)).length := by
      intro l
      induction l with
      | nil => intro _; simp [val, digs_zero]
      | cons d l ih =>
        intro hd
        have hd0 := hd d (by simp)
        by_cases h0 : val (d :: l) = 0
        · rw [h0, digs_zero]; rfl
        · rw [digs_pos _ h0]
          have e1 : val (d :: l) % 65536 = d := by rw [val]; omega
          have e2 : val (d :: l) / 65536 = val l := by rw [val]; omega
          rw [e1, e2, List.length_cons, List.take_succ_cons, ← ih (fun x hx => hd x (by simp [hx]))]
    exact h l hd
  refine ⟨A, c, rfl, by omega, hc2, ?_⟩
  refine ⟨by rw [length_U]; omega, fun hpos => ?_⟩
  obtain ⟨ad, hA, hb, hcell⟩ := hr.2 (by omega)
  refine ⟨ad, hA, hb, fun j u hu => hcell j u ?_⟩
  rw [e, ← U_take] at hu
  rw [List.getElem?_take] at hu
  split at hu
  · exact hu
  · cases hu

theorem snoc_lt {l : List Nat} (h : ∀ d ∈ l, d < 65536) (v : Nat) : ∀ d ∈ l ++ [v % 65536], d < 65536 := by
  intro d hd
  rcases List.mem_append.1 hd with hd | hd
  · exact h d hd
  · obtain rfl := List.mem_singleton.1 hd
    omega
theorem add_arith (P o t s c v x y : Nat) (h : o + P * c = t + s) (hv : v = c + x + y) : o + P * (v % 65536) + P * 65536 * (v / 65536) = t + P * x + (s + P * y) := by
  have e1 : P * (v % 65536) + P * 65536 * (v / 65536) = P * v := by rw [Nat.mul_assoc, ← Nat.mul_add, Nat.mod_add_div]
  have e2 : P * v = P * c + P * x + P * y := by rw [hv, Nat.mul_add, Nat.mul_add]
  omega

set_option maxHeartbeats 800000 in
set_option maxRecDepth 100000 in
theorem add_any (x y : Value) (a b : Nat) (w : World) (hx : MagR w x a) (hy : MagR w y b) (ha : (digs a).length ≤ 1000000) (hb : (digs b).length ≤ 1000000) :
    Calls Try.prog 140 #[x, y] w fun e w' => ∃ v, e = .returned v ∧ MagR w' v (a + b) ∧ Below w.heap.size w w' ∧ Fresh w.heap.size v := by
  obtain ⟨A, ca, rfl, hca, hca2, hra⟩ := hx
  obtain ⟨B, cb, rfl, hcb, hcb2, hrb⟩ := hy
  obtain ⟨i0, hi0, hz0, hz1, hz2⟩ := info_parts infoU
  generalize hma : (digs a).length = m at *
  generalize hmb : (digs b).length = n at *
  have Hma := Lib.hid hma
  have Hmb := Lib.hid hmb
  clear hma hmb
  go_enter Try.func140, Try.ntmps140
  go_wp2_with fail
  go_loopw [5, 6, 7] (fun v c i wr => ∃ (k cr : Nat) (l : List Nat), k ≤ m + n + 2 ∧ cr ≤ 1 ∧ (m + n < k → cr = 0) ∧ i = .int .i64 k ∧ c = .int .u64 cr ∧ l.length = k ∧ (∀ d ∈ l, d < 65536) ∧ val l + 65536 ^ k * cr = val ((digs a).take k) + val ((digs b).take k) ∧
      wr.ownsRow w.heap.size 124 1 v k (U l) ∧ Below w.heap.size w wr) (fun _ _ i _ => m + n + 2 - (intOf i).toNat)
  case atStart => exact ⟨0, 0, [], by omega, by omega, fun _ => rfl, rfl, rfl, rfl, by simp, by simp [val], World.ownsRow_nil _ _ _ _, Below.refl _ _⟩
  case round =>
    obtain ⟨k, cr, l, hk, hcr, hk2, rfl, rfl, hl, hd, hv, hown, hbl⟩ := hrel
    have Hl := Lib.hid hl
    have Hd := Lib.hid hd
    have Hv := Lib.hid hv
    have hz := hbl.size
    clear hl hd hv
    by_cases h1 : k < m
    · obtain ⟨ad, p, rfl, hbp, hp, hcp⟩ := hra.dig hbl (Nat.le_refl _) h1
      have Hp := Lib.hid (getD_of _ _ _ hp)
      have hp2 : p < 65536 := digs_lt a p (List.mem_of_getElem? hp)
      clear hp
      by_cases h2 : k < n
      · obtain ⟨bd, q, rfl, hbq, hq, hcq⟩ := hrb.dig hbl (Nat.le_refl _) h2
        have Hq := Lib.hid (getD_of _ _ _ hq)
        have hq2 : q < 65536 := digs_lt b q (List.mem_of_getElem? hq)
        clear hq
        go_wp2_with (at_builtin; refine wpList_append_one rfl (.tmp 46) (.tmp 49) _ rfl w.heap.size _ i0 _ 1 8 Try.underlying131 hi0 hz0 hz1 hz2 rfl (by decide) wr _ _ _ _ rfl hown _ rfl rfl rfl (by simp [Value.oneCell']) (by simp only [maxLen]; omega) (by omega) ?_; intro v' w' hown' hb' hz')
        go_roundw
        case rel =>
          refine ⟨k + 1, (cr + p + q) / 65536, l ++ [(cr + p + q) % 65536], by omega, by omega, fun _ => by omega, by go_num, int_eq (by omega), by rw [List.length_append, Hl.out]; rfl, snoc_lt Hd.out _, ?_, own_snoc hown' (by omega), hb' _ _ (Nat.le_refl _) hbl⟩
          rw [val_snoc, val_take_succ, val_take_succ, Hl.out, Nat.pow_succ, Hp.out, Hq.out]
          have := add_arith (65536 ^ k) _ _ _ _ (cr + p + q) p q Hv.out (by omega)
          omega
        case measure => simp [intOf]; omega
      · have Hq := Lib.hid (getD_out (digs b) k (by rw [Hmb.out]; omega))
        go_wp2_with (at_builtin; refine wpList_append_one rfl (.tmp 46) (.tmp 49) _ rfl w.heap.size _ i0 _ 1 8 Try.underlying131 hi0 hz0 hz1 hz2 rfl (by decide) wr _ _ _ _ rfl hown _ rfl rfl rfl (by simp [Value.oneCell']) (by simp only [maxLen]; omega) (by omega) ?_; intro v' w' hown' hb' hz')
        go_roundw
        case rel =>
          refine ⟨k + 1, (cr + p) / 65536, l ++ [(cr + p) % 65536], by omega, by omega, fun _ => by omega, by go_num, int_eq (by omega), by rw [List.length_append, Hl.out]; rfl, snoc_lt Hd.out _, ?_, own_snoc hown' (by omega), hb' _ _ (Nat.le_refl _) hbl⟩
          rw [val_snoc, val_take_succ, val_take_succ, Hl.out, Nat.pow_succ, Hp.out, Hq.out]
          have := add_arith (65536 ^ k) _ _ _ _ (cr + p) p 0 Hv.out (by omega)
          omega
        case measure => simp [intOf]; omega
    · have Hp := Lib.hid (getD_out (digs a) k (by rw [Hma.out]; omega))
      by_cases h2 : k < n
      · obtain ⟨bd, q, rfl, hbq, hq, hcq⟩ := hrb.dig hbl (Nat.le_refl _) h2
        have Hq := Lib.hid (getD_of _ _ _ hq)
        have hq2 : q < 65536 := digs_lt b q (List.mem_of_getElem? hq)
        clear hq
        go_wp2_with (at_builtin; refine wpList_append_one rfl (.tmp 46) (.tmp 49) _ rfl w.heap.size _ i0 _ 1 8 Try.underlying131 hi0 hz0 hz1 hz2 rfl (by decide) wr _ _ _ _ rfl hown _ rfl rfl rfl (by simp [Value.oneCell']) (by simp only [maxLen]; omega) (by omega) ?_; intro v' w' hown' hb' hz')
        go_roundw
        case rel =>
          refine ⟨k + 1, (cr + q) / 65536, l ++ [(cr + q) % 65536], by omega, by omega, fun _ => by omega, by go_num, int_eq (by omega), by rw [List.length_append, Hl.out]; rfl, snoc_lt Hd.out _, ?_, own_snoc hown' (by omega), hb' _ _ (Nat.le_refl _) hbl⟩
          rw [val_snoc, val_take_succ, val_take_succ, Hl.out, Nat.pow_succ, Hp.out, Hq.out]
          have := add_arith (65536 ^ k) _ _ _ _ (cr + q) 0 q Hv.out (by omega)
          omega
        case measure => simp [intOf]; omega
      · have Hq := Lib.hid (getD_out (digs b) k (by rw [Hmb.out]; omega))
        by_cases h3 : 0 < cr
        · obtain rfl : cr = 1 := by omega
          go_wp2_with (at_builtin; refine wpList_append_one rfl (.tmp 46) (.tmp 49) _ rfl w.heap.size _ i0 _ 1 8 Try.underlying131 hi0 hz0 hz1 hz2 rfl (by decide) wr _ _ _ _ rfl hown _ rfl rfl rfl (by simp [Value.oneCell']) (by simp only [maxLen]; omega) (by omega) ?_; intro v' w' hown' hb' hz')
          go_roundw
          case rel =>
            refine ⟨k + 1, (1) / 65536, l ++ [(1) % 65536], by omega, by omega, fun _ => by omega, by go_num, int_eq (by omega), by rw [List.length_append, Hl.out]; rfl, snoc_lt Hd.out _, ?_, own_snoc hown' (by omega), hb' _ _ (Nat.le_refl _) hbl⟩
            rw [val_snoc, val_take_succ, val_take_succ, Hl.out, Nat.pow_succ, Hp.out, Hq.out]
            have := add_arith (65536 ^ k) _ _ _ _ (1) 0 0 Hv.out (by omega)
            omega
          case measure => simp [intOf]; omega
        · obtain rfl : cr = 0 := by omega
          have hval := Hv.out
          rw [List.take_of_length_le (by rw [Hma.out]; omega), List.take_of_length_le (by rw [Hmb.out]; omega), val_digs, val_digs, Nat.mul_zero, Nat.add_zero] at hval
          have Hval := Lib.hid hval
          clear hval
          obtain ⟨A', c', rfl, hc1, hc2, hrd, hfr⟩ := reads_at_own hown
          go_wp2_with fail
          refine (trim_any wr.heap.size A' k c' l _ hrd (Nat.le_refl _) Hd.out (by omega) hc1).mono ?_
          rintro e w1 ⟨rfl, rfl⟩
          go_wp2_with fail
          go_ret
          exact ⟨_, rfl, mag_of_trim hrd Hd.out hc1 hc2 Hval.out, hbl, hfr _⟩
end Go.Proofs.Ytijaldpmpjapiaa
namespace Go.Proofs.Ytijaldpmpjapiaa
open Go.RowKit

theorem sub_arith (P o t s b v x y b' : Nat) (h : o + s = t + P * b + 0) (hv : v + b + y = 65536 + x) (hb : b' = 1 - v / 65536) (hv2 : v < 131072) :
    o + P * (v % 65536) + (s + P * y + P * b) = t + P * x + P * 65536 * b' + P * b := by
  have e0 : v % 65536 + 65536 * (v / 65536) = v := Nat.mod_add_div v 65536
  have e3 : v % 65536 + b + y = x + 65536 * b' := by omega
  have e4 : P * (v % 65536) + P * b + P * y = P * x + P * (65536 * b') := by rw [← Nat.mul_add, ← Nat.mul_add, ← Nat.mul_add, e3]
  rw [← Nat.mul_assoc] at e4
  omega

set_option maxHeartbeats 800000 in
set_option maxRecDepth 100000 in
theorem sub_any (x y : Value) (a b : Nat) (w : World) (hx : MagR w x a) (hy : MagR w y b) (ha : (digs a).length ≤ 1000000) (hle : b ≤ a) :
    Calls Try.prog 142 #[x, y] w fun e w' => ∃ v, e = .returned v ∧ MagR w' v (a - b) ∧ Below w.heap.size w w' ∧ Fresh w.heap.size v := by
  obtain ⟨A, ca, rfl, hca, hca2, hra⟩ := hx
  obtain ⟨B, cb, rfl, hcb, hcb2, hrb⟩ := hy
  obtain ⟨i0, hi0, hz0, hz1, hz2⟩ := info_parts infoU
  have hmn : (digs b).length ≤ (digs a).length := by
    have := lt_of_digs_len a
    exact digs_len_le b _ (by omega)
  generalize hma : (digs a).length = m at *
  generalize hmb : (digs b).length = n at *
  have Hma := Lib.hid hma
  have Hmb := Lib.hid hmb
  clear hma hmb
  go_enter Try.func142, Try.ntmps142
  go_wp2_with fail
  go_loopw [5, 6, 7] (fun v c i wr => ∃ (k bo : Nat) (l : List Nat), k ≤ m ∧ bo ≤ 1 ∧ i = .int .i64 k ∧ c = .int .u64 bo ∧ l.length = k ∧ (∀ d ∈ l, d < 65536) ∧ val l + val ((digs b).take k) = val ((digs a).take k) + 65536 ^ k * bo ∧
      wr.ownsRow w.heap.size 124 1 v k (U l) ∧ Below w.heap.size w wr) (fun _ _ i _ => m - (intOf i).toNat)
  case atStart => exact ⟨0, 0, [], by omega, by omega, rfl, rfl, rfl, by simp, by simp [val], World.ownsRow_nil _ _ _ _, Below.refl _ _⟩
  case round =>
    obtain ⟨k, bo, l, hk, hbo, rfl, rfl, hl, hd, hv, hown, hbl⟩ := hrel
    have Hl := Lib.hid hl
    have Hd := Lib.hid hd
    have Hv := Lib.hid hv
    have hz := hbl.size
    clear hl hd hv
    by_cases h1 : k < m
    · obtain ⟨ad, p, rfl, hbp, hp, hcp⟩ := hra.dig hbl (Nat.le_refl _) h1
      have Hp := Lib.hid (getD_of _ _ _ hp)
      have hp2 : p < 65536 := digs_lt a p (List.mem_of_getElem? hp)
      clear hp
      by_cases h2 : k < n
      · obtain ⟨bd, q, rfl, hbq, hq, hcq⟩ := hrb.dig hbl (Nat.le_refl _) h2
        have Hq := Lib.hid (getD_of _ _ _ hq)
        have hq2 : q < 65536 := digs_lt b q (List.mem_of_getElem? hq)
        clear hq
        go_wp2_with (at_builtin; refine wpList_append_one rfl (.tmp 32) (.tmp 35) _ rfl w.heap.size _ i0 _ 1 8 Try.underlying131 hi0 hz0 hz1 hz2 rfl (by decide) wr _ _ _ _ rfl hown _ rfl rfl rfl (by simp [Value.oneCell']) (by simp only [maxLen]; omega) (by omega) ?_; intro v' w' hown' hb' hz')
        go_roundw
        case rel =>
          refine ⟨k + 1, 1 - (65536 + p - bo - q) / 65536, l ++ [(65536 + p - bo - q) % 65536], by omega, by omega, by go_num, int_eq (by omega), by rw [List.length_append, Hl.out]; rfl, snoc_lt Hd.out _, ?_, own_snoc hown' (by omega), hb' _ _ (Nat.le_refl _) hbl⟩
          rw [val_snoc, val_take_succ, val_take_succ, Hl.out, Nat.pow_succ, Hp.out, Hq.out]
          have := sub_arith (65536 ^ k) _ _ _ _ (65536 + p - bo - q) p q _ Hv.out (by omega) rfl (by omega)
          omega
        case measure => simp [intOf]; omega
      · have Hq := Lib.hid (getD_out (digs b) k (by rw [Hmb.out]; omega))
        go_wp2_with (at_builtin; refine wpList_append_one rfl (.tmp 32) (.tmp 35) _ rfl w.heap.size _ i0 _ 1 8 Try.underlying131 hi0 hz0 hz1 hz2 rfl (by decide) wr _ _ _ _ rfl hown _ rfl rfl rfl (by simp [Value.oneCell']) (by simp only [maxLen]; omega) (by omega) ?_; intro v' w' hown' hb' hz')
        go_roundw
        case rel =>
          refine ⟨k + 1, 1 - (65536 + p - bo) / 65536, l ++ [(65536 + p - bo) % 65536], by omega, by omega, by go_num, int_eq (by omega), by rw [List.length_append, Hl.out]; rfl, snoc_lt Hd.out _, ?_, own_snoc hown' (by omega), hb' _ _ (Nat.le_refl _) hbl⟩
          rw [val_snoc, val_take_succ, val_take_succ, Hl.out, Nat.pow_succ, Hp.out, Hq.out]
          have := sub_arith (65536 ^ k) _ _ _ _ (65536 + p - bo) p 0 _ Hv.out (by omega) rfl (by omega)
          omega
        case measure => simp [intOf]; omega
    · obtain rfl : k = m := by omega
      have hval : val l = a - b := by
        have hval := Hv.out
        rw [List.take_of_length_le (show (digs b).length ≤ k by rw [Hmb.out]; omega), List.take_of_length_le (show (digs a).length ≤ k by rw [Hma.out]; omega), val_digs, val_digs] at hval
        have hlt := val_lt l Hd.out
        rw [Hl.out] at hlt
        rcases Nat.lt_or_ge 0 bo with h | h
        · obtain rfl : bo = 1 := by omega
          omega
        · obtain rfl : bo = 0 := by omega
          omega
      have Hval := Lib.hid hval
      clear hval
      obtain ⟨A', c', rfl, hc1, hc2, hrd, hfr⟩ := reads_at_own hown
      go_wp2_with fail
      refine (trim_any wr.heap.size A' k c' l _ hrd (Nat.le_refl _) Hd.out (by omega) hc1).mono ?_
      rintro e w1 ⟨rfl, rfl⟩
      go_wp2_with fail
      go_ret
      exact ⟨_, rfl, mag_of_trim hrd Hd.out hc1 hc2 Hval.out, hbl, hfr _⟩
end Go.Proofs.Ytijaldpmpjapiaa
namespace Go.Proofs.Ytijaldpmpjapiaa
open Go.RowKit

/-- A Big that is a number. -/
def BigR (w : World) (v : Value) (z : Int) : Prop := ∃ m, v = .agg #[.bool (decide (z < 0)), m] ∧ MagR w m z.natAbs
theorem BigR.step {w w' : World} {v : Value} {z : Int} (h : BigR w v z) (hb : Below w.heap.size w w') : BigR w' v z := by
  obtain ⟨m, e, h⟩ := h
  exact ⟨m, e, h.step hb⟩
theorem val4 (a b c d : Nat) : val [a, b, c, d] = a + 65536 * (b + 65536 * (c + 65536 * d)) := by simp [val]
theorem infoBig : (Try.prog.info? 133).map (fun i => (i.zero, i.size, i.bytes)) = some (some (.agg #[.bool false, .slice none 0 0]), 2, 32) := by kernel_rfl
/-- A store into a block that holds no numbers changes no digits. -/
theorem Reads.other {w w' : World} {B n g : Nat} {A : Option Addr} {l : List Nat} {cs : Array Value} {t : TypeId} {fr : Nat × Nat} (h : Reads w B 1 A n (U l)) (hg : w.heap[g]? = some (.cells cs t fr)) (hcs : ∀ (k : IntKind) (z : Int), Value.int k z ∉ cs.toList)
    (hgr : w.grownBy w' (some g)) : Reads w' B 1 A n (U l) := by
  refine ⟨h.1, fun hn => ?_⟩
  obtain ⟨ad, hA, hb, hc⟩ := h.2 hn
  refine ⟨ad, hA, hb, fun j u hu => ?_⟩
  have h1 := hc j u hu
  have hne : (ad.add j).block ≠ g := by
    intro he
    rw [get_U] at hu
    cases hl : l[j]? with
    | none => rw [hl] at hu; cases hu
    | some d =>
      rw [hl] at hu
      injection hu with hu
      subst hu
      unfold World.cell? at h1
      rw [he, hg] at h1
      simp only at h1
      split at h1
      · cases h1
      · exact hcs _ _ (Array.mem_toList_iff.2 (Array.mem_of_getElem? h1))
  have hlt : (ad.add j).block < w.heap.size := by
    unfold World.cell? at h1
    rcases Nat.lt_or_ge (ad.add j).block w.heap.size with h2 | h2
    · exact h2
    · rw [Array.getElem?_eq_none h2] at h1; cases h1
  rw [← h1]
  unfold World.cell?
  rw [hgr.block _ hlt (by intro e; injection e with e; exact hne e)]
theorem MagR.other {w w' : World} {n g : Nat} {v : Value} {cs : Array Value} {t : TypeId} {fr : Nat × Nat} (h : MagR w v n) (hg : w.heap[g]? = some (.cells cs t fr)) (hcs : ∀ (k : IntKind) (z : Int), Value.int k z ∉ cs.toList)
    (hgr : w.grownBy w' (some g)) : MagR w' v n := by
  obtain ⟨A, c, e, h1, h2, h3⟩ := h
  exact ⟨A, c, e, h1, h2, (h3.other hg hcs hgr).more hgr.size⟩

set_option maxHeartbeats 400000 in
set_option maxRecDepth 100000 in
theorem sign_any (neg : Bool) (m : Value) (n : Nat) (w : World) (hm : MagR w m n) (hn : (digs n).length ≤ 1073741824) :
    Calls Try.prog 139 #[.bool neg, m] w fun e w' => e = .returned (.agg #[.bool (neg && decide (0 < n)), m]) ∧ Below w.heap.size w w' := by
  obtain ⟨A, c, rfl, hc, hc2, hr⟩ := hm
  obtain ⟨i0, hi0, hz0, hz1, hz2⟩ := info_parts infoBig
  have e : decide (0 < n) = decide (0 < (digs n).length) := by
    have := digs_len_zero n
    by_cases h : n = 0
    · simp [h, digs_zero]
    · have h2 : 0 < (digs n).length := by rcases Nat.eq_zero_or_pos (digs n).length with h3 | h3
                                          · exact absurd (this.1 h3) h
                                          · exact h3
      rw [decide_eq_true h2, decide_eq_true (by omega)]
  rw [e]
  generalize (digs n).length = l at *
  have hrow : (w.alloc (.cells #[.bool false, .slice none 0 0] 133)).heap[w.heap.size]? = some (.cells #[.bool false, .slice none 0 0] 133 (0, 0)) := heap_alloc_new w _
  cases neg
  all_goals
    by_cases h : 0 < l
    all_goals
      go_enter Try.func139, Try.ntmps139
      go_wp2_with (refine wpList_store_row rfl _ (.tmp 4) (.tmp 12) rfl rfl w.heap.size 0 rfl #[_, _] rfl i0 hi0 hz1 (by simp [Value.oneCell']) _ _ hrow (by simp) ?_; intro w3 hg3 hgr3 hz3)
      refine bodyPost_ret (results_cell_row rfl _ _ w.heap.size 133 #[_, _] (0, 0) _ rfl hg3 Try.underlying133 rfl (by rw [hi0]; simp [hz1])) rfl ?_
      refine ⟨?_, ((Below.refl w.heap.size w).alloc (Nat.le_refl _) _).grown hgr3 (by simp) (fun k hk => by injection hk with hk; omega)⟩
      simp [h]
end Go.Proofs.Ytijaldpmpjapiaa
namespace Go.Proofs.Ytijaldpmpjapiaa
open Go.RowKit

theorem zero_debentureref01_Big : zeroIs Try.prog 133 = some (some (.agg #[.bool false, .slice none 0 0])) := by kernel_rfl
theorem zero_uint64 : zeroIs Try.prog 124 = some (some (.int .u64 0)) := by kernel_rfl
theorem cmpN_ge {a b : Nat} (h : 0 ≤ cmpN a b) : b ≤ a := by unfold cmpN at h; split at h <;> omega
theorem cmpN_lt {a b : Nat} (h : ¬ 0 ≤ cmpN a b) : a < b := by
  unfold cmpN at h
  split at h
  · omega
  · split at h <;> omega
theorem MagR.put {w w' : World} {v : Value} {n g : Nat} {T : TypeId} {cur cs : Array Value} {B : Nat} (h : MagR w v n) (k : Blk w g T cur) (p : Put w w' g T cs) (_e : B ≤ g) (hcs : ∀ (k : IntKind) (z : Int), Value.int k z ∉ cur.toList := by simp [Value.cells, *]) : MagR w' v n := h.other k hcs p.grown
theorem MagR.ni {w : World} {v : Value} {n : Nat} (h : MagR w v n) : ∀ (k : IntKind) (z : Int), Value.int k z ≠ v := by obtain ⟨A, c, rfl, _⟩ := h; intro k z e; cases e
theorem MagR.one {w : World} {v : Value} {n : Nat} (h : MagR w v n) : v.oneCell' = true := by obtain ⟨A, c, rfl, _⟩ := h; rfl

theorem minus_any (x : Value) (a : Int) (w : World) (hx : BigR w x a) (ha : (digs a.natAbs).length ≤ 1073741824) :
    Calls Try.prog 98 #[x] w fun e w' => ∃ v, e = .returned v ∧ BigR w' v (-a) ∧ Below w.heap.size w w' := by
  obtain ⟨m, rfl, hm⟩ := hx
  have bel := Below.refl w.heap.size w
  have h1 := hm.one
  refine Calls.start 9 Try.func98 rfl rfl rfl ?_
  refine Cd.seq ?_
  refine Cd.region ?_
  refine Seq.box rfl rfl rfl rfl rfl ?_
  intro g1 w1 n1
  have e1 := Nat.le_trans bel.size n1.ge
  replace bel := bel.step n1.below
  replace hm := hm.step n1.below
  have k1 := n1.blk
  refine Seq.alloc rfl (run_zero zero_debentureref01_Big) rfl rfl rfl ?_
  intro g2 w2 n2
  have e2 := Nat.le_trans bel.size n2.ge
  have l2 := Nat.lt_of_lt_of_le k1.lt n2.ge
  replace bel := bel.step n2.below
  replace hm := hm.step n2.below
  replace k1 := k1.step n2.below
  have k2 := n2.blk
  refine Seq.nil ?_
  refine Post.weak (F' := [(0, _), (1, _), (2, _)]) ⟨rfl, rfl, rfl, trivial⟩ ?_
  refine Post.then_ ?_
  refine Cd.seq ?_
  refine Cd.region ?_
  refine Seq.val (Runs.fieldB 0 rfl rfl Try.underlying133 rfl (by kernel_rfl)) rfl rfl rfl ?_
  refine Seq.val (Runs.loadB rfl rfl Try.underlying4 rfl k1 rfl) rfl rfl rfl ?_
  refine Seq.val (Runs.not rfl rfl) rfl rfl rfl ?_
  refine Seq.val (Runs.fieldB 1 rfl rfl Try.underlying133 rfl (by kernel_rfl)) rfl rfl rfl ?_
  refine Seq.val (Runs.loadB rfl rfl Try.underlying131 rfl k1 rfl) rfl rfl rfl ?_
  refine Seq.call (Enters.func rfl rfl rfl (run_enter Try.func139 (by kernel_rfl) rfl)) rfl rfl rfl (sign_any _ _ _ _ hm (by omega)) ?_
  rintro e w3 ⟨rfl, hb⟩
  refine ⟨_, rfl, ?_⟩
  replace bel := bel.step hb
  replace hm := hm.step hb
  replace k1 := k1.step hb
  replace k2 := k2.step hb
  refine Seq.storeN rfl rfl rfl rfl (m := 2) (by kernel_rfl) rfl (by repeat' first | exact trivial | apply And.intro | rfl | assumption) k2 (by simp [Value.cells]) rfl rfl ?_
  intro w3 pw3
  replace bel := bel.put k2 pw3 e2
  replace hm := hm.put k2 pw3 e2
  replace k1 := k1.put pw3 (by omega)
  replace k2 := pw3.blk
  refine Seq.nil ?_
  refine Post.weak (F' := [(0, _), (1, _), (2, _)]) ⟨rfl, rfl, rfl, trivial⟩ ?_
  refine Post.then_ ?_
  refine Cd.ret ?_
  refine Post.endC rfl rfl k2 Try.underlying133 rfl (m := 2) (by kernel_rfl) rfl (.inl rfl) ?_
  refine ⟨_, rfl, ⟨m, ?_, by rw [Int.natAbs_neg]; exact hm⟩, bel⟩
  show Value.agg #[_, m] = _
  have e : (!decide (a < 0) && decide (0 < a.natAbs)) = decide (-a < 0) := by
    rw [Bool.eq_iff_iff]; simp; omega
  rw [e]

theorem sign_big (neg : Bool) (m : Value) (n : Nat) (z : Int) (w : World) (hm : MagR w m n) (hn : (digs n).length ≤ 1073741824) (hz : z.natAbs = n) (hs : (neg && decide (0 < n)) = decide (z < 0)) :
    Calls Try.prog 139 #[.bool neg, m] w fun e w' => ∃ v, e = .returned v ∧ Below w.heap.size w w' ∧ BigR w' v z :=
  (sign_any neg m n w hm hn).mono fun e w' ⟨he, hb⟩ => ⟨_, he, hb, m, by rw [hs], by rw [hz]; exact hm.step hb⟩
theorem add_mag (x y : Value) (a b c : Nat) (w : World) (hx : MagR w x a) (hy : MagR w y b) (hc : c = a + b) (ha : (digs a).length ≤ 1000000) (hb : (digs b).length ≤ 1000000) :
    Calls Try.prog 140 #[x, y] w fun e w' => ∃ v, e = .returned v ∧ Below w.heap.size w w' ∧ MagR w' v c :=
  (add_any x y a b w hx hy ha hb).mono fun e w' ⟨v, he, hm, hb, _⟩ => ⟨v, he, hb, by rw [hc]; exact hm⟩
theorem sub_mag (x y : Value) (a b c : Nat) (w : World) (hx : MagR w x a) (hy : MagR w y b) (hle : b ≤ a) (hc : c = a - b) (ha : (digs a).length ≤ 1000000) :
    Calls Try.prog 142 #[x, y] w fun e w' => ∃ v, e = .returned v ∧ Below w.heap.size w w' ∧ MagR w' v c :=
  (sub_any x y a b w hx hy ha hle).mono fun e w' ⟨v, he, hm, hb, _⟩ => ⟨v, he, hb, by rw [hc]; exact hm⟩
theorem BigR.stable (z : Int) : ∀ v w w', Grow w w' → BigR w v z → BigR w' v z := fun _ _ _ hG h => h.step hG
theorem MagR.stable (z : Nat) : ∀ v w w', Grow w w' → MagR w v z → MagR w' v z := fun _ _ _ hG h => h.step hG

/-- A bound that all numbers here keep. -/
def big : Nat := 65536 ^ 60
theorem len_big {n : Nat} (h : n < 65536 * big) : (digs n).length ≤ 61 := digs_len_le n 61 (by unfold big at h; rw [Nat.pow_succ]; omega)
theorem big_pos : 1606938044258990275541962092341162602522202993782792835301376 ≤ big := by unfold big; decide

theorem plus_any (x y : Value) (a b : Int) (w : World) (hx : BigR w x a) (hy : BigR w y b) (ha : a.natAbs < big) (hb : b.natAbs < big) :
    Calls Try.prog 95 #[x, y] w fun e w' => ∃ v, e = .returned v ∧ BigR w' v (a + b) ∧ Below w.heap.size w w' := by
  obtain ⟨m, rfl, hm⟩ := hx
  obtain ⟨q, rfl, hq⟩ := hy
  have hla := len_big (n := a.natAbs) (by omega)
  have hlb := len_big (n := b.natAbs) (by omega)
  have bel := Below.refl w.heap.size w
  refine Calls.start 40 Try.func95 rfl rfl rfl ?_
  refine Cd.seq ?_
  refine Cd.region ?_
  refine Seq.box rfl rfl rfl rfl rfl ?_
  intro g2 w1 n2
  have e2 := Nat.le_trans bel.size n2.ge
  replace bel := bel.step n2.below
  replace hm := hm.step n2.below
  replace hq := hq.step n2.below
  have k2 := n2.blk
  refine Seq.box rfl rfl rfl rfl rfl ?_
  intro g3 w2 n3
  have e3 := Nat.le_trans bel.size n3.ge
  have l3 := Nat.lt_of_lt_of_le k2.lt n3.ge
  replace bel := bel.step n3.below
  replace hm := hm.step n3.below
  replace hq := hq.step n3.below
  replace k2 := k2.step n3.below
  have k3 := n3.blk
  refine Seq.alloc rfl (run_zero zero_debentureref01_Big) rfl rfl rfl ?_
  intro g4 w3 n4
  have e4 := Nat.le_trans bel.size n4.ge
  have l4 := Nat.lt_of_lt_of_le k3.lt n4.ge
  replace bel := bel.step n4.below
  replace hm := hm.step n4.below
  replace hq := hq.step n4.below
  replace k2 := k2.step n4.below
  replace k3 := k3.step n4.below
  have k4 := n4.blk
  refine Seq.nil ?_
  refine Post.weak (F' := [(0, _), (1, _), (2, _), (3, _), (4, _)]) ⟨rfl, rfl, rfl, rfl, rfl, trivial⟩ ?_
  refine Post.then_ ?_
  refine Cd.seq ?_
  refine Cd.seq ?_
  refine Cd.region ?_
  refine Seq.val (Runs.fieldB 0 rfl rfl Try.underlying133 rfl (by kernel_rfl)) rfl rfl rfl ?_
  refine Seq.val (Runs.loadB rfl rfl Try.underlying4 rfl k2 rfl) rfl rfl rfl ?_
  refine Seq.val (Runs.fieldB 0 rfl rfl Try.underlying133 rfl (by kernel_rfl)) rfl rfl rfl ?_
  refine Seq.val (Runs.loadB rfl rfl Try.underlying4 rfl k3 rfl) rfl rfl rfl ?_
  refine Seq.val (Runs.eqlB rfl rfl rfl Try.underlying4) rfl rfl rfl ?_
  refine Seq.nil ?_
  refine Post.weak (F' := [(0, _), (1, _), (2, _), (3, _), (4, _), (9, _)]) ⟨rfl, rfl, rfl, rfl, rfl, rfl, trivial⟩ ?_
  refine Post.then_ ?_
  refine Cd.condD rfl (fun hc => ?_) (fun hc => ?_)
  · have hab : (a + b).natAbs = a.natAbs + b.natAbs := by simp at hc; omega
    have hl := len_big (n := (a + b).natAbs) (by omega)
    refine Cd.seq ?_
    refine Cd.draw 8 (by kernel_rfl) [] (.inl rfl) rfl Grow Grow.refl (fun _ _ _ => Grow.trans) ?_
    intro w4 hw4 zw4
    replace bel := bel.step hw4
    replace hm := hm.step hw4
    replace hq := hq.step hw4
    replace k2 := k2.step hw4
    replace k3 := k3.step hw4
    replace k4 := k4.step hw4
    have zbel := bel.size
    have zlt := k4.lt
    refine Dr.val Grow.refl rfl (fun w hG => Runs.fieldB 0 rfl rfl Try.underlying133 rfl (by kernel_rfl)) rfl ?_
    refine Dr.val Grow.refl rfl (fun w hG => Runs.loadB rfl rfl Try.underlying4 rfl (k2.step hG) rfl) rfl ?_
    refine Dr.val Grow.refl rfl (fun w hG => Runs.fieldB 1 rfl rfl Try.underlying133 rfl (by kernel_rfl)) rfl ?_
    refine Dr.val Grow.refl rfl (fun w hG => Runs.loadB rfl rfl Try.underlying131 rfl (k2.step hG) rfl) rfl ?_
    refine Dr.val Grow.refl rfl (fun w hG => Runs.fieldB 1 rfl rfl Try.underlying133 rfl (by kernel_rfl)) rfl ?_
    refine Dr.val Grow.refl rfl (fun w hG => Runs.loadB rfl rfl Try.underlying131 rfl (k3.step hG) rfl) rfl ?_
    refine Dr.call (Φ := fun v w => MagR w v (a + b).natAbs) rfl (fun w => Enters.func rfl rfl rfl (run_enter Try.func140 (by kernel_rfl) rfl)) rfl (MagR.stable _) (fun w hG => add_mag _ _ _ _ _ _ (hm.step hG) (hq.step hG) hab (by omega) (by omega)) ?_
    refine Dr.call1 (j := 6) (Φ := fun v w => BigR w v (a + b)) rfl rfl rfl (fun u w => Enters.func rfl rfl rfl (run_enter Try.func139 (by kernel_rfl) rfl)) rfl (BigR.stable _) (fun u w hG hu => sign_big _ u _ (a + b) _ hu (by omega) rfl (by simp at hc; rw [Bool.eq_iff_iff]; simp; omega)) ?_
    refine Dr.nil ?_
    refine FinX.open (j := 7) rfl ?_
    intro u7
    refine FinX.done (F' := [(0, _), (1, _), (2, _), (3, _), (4, _), (9, _), (17, _)]) rfl ⟨rfl, rfl, rfl, rfl, rfl, rfl, rfl, trivial⟩ ?_
    intro w5 hw5 fw5
    replace bel := bel.step hw5
    replace hm := hm.step hw5
    replace hq := hq.step hw5
    replace k2 := k2.step hw5
    replace k3 := k3.step hw5
    replace k4 := k4.step hw5
    obtain ⟨m2, rfl, hm2⟩ := fw5.2
    have hm2o := hm2.one
    refine Seq.storeN rfl rfl rfl rfl (m := 2) (by kernel_rfl) rfl (by repeat' first | exact trivial | apply And.intro | rfl | assumption) k4 (by simp [Value.cells]) rfl rfl ?_
    intro w6 pw6
    replace bel := bel.put k4 pw6 e4
    replace hm := hm.put k4 pw6 e4
    replace hq := hq.put k4 pw6 e4
    replace k2 := k2.put pw6 (by omega)
    replace k3 := k3.put pw6 (by omega)
    replace hm2 := hm2.put k4 pw6 e4
    replace k4 := pw6.blk
    refine Seq.nil ?_
    refine Post.weak (F' := [(0, _), (1, _), (2, _), (3, _), (4, _), (9, _)]) ⟨rfl, rfl, rfl, rfl, rfl, rfl, trivial⟩ ?_
    refine Post.then_ ?_
    refine Cd.ret ?_
    refine Post.then_ret ?_
    refine Post.endC rfl rfl k4 Try.underlying133 rfl (m := 2) (by kernel_rfl) rfl (.inl rfl) ?_
    exact ⟨_, rfl, ⟨m2, rfl, hm2⟩, bel⟩
  · skip
    refine Cd.skip ?_
    refine Post.then_ ?_
    refine Cd.seq ?_
    refine Cd.seq ?_
    refine Cd.region ?_
    refine Seq.val (Runs.fieldB 1 rfl rfl Try.underlying133 rfl (by kernel_rfl)) rfl rfl rfl ?_
    refine Seq.val (Runs.loadB rfl rfl Try.underlying131 rfl k2 rfl) rfl rfl rfl ?_
    refine Seq.val (Runs.fieldB 1 rfl rfl Try.underlying133 rfl (by kernel_rfl)) rfl rfl rfl ?_
    refine Seq.val (Runs.loadB rfl rfl Try.underlying131 rfl k3 rfl) rfl rfl rfl ?_
    refine Seq.call (Enters.func rfl rfl rfl (run_enter Try.func141 (by kernel_rfl) rfl)) rfl rfl rfl (cmp_any _ _ _ _ _ hm hq (by omega) (by omega)) ?_
    rintro e w7 ⟨rfl, hdr⟩
    have hb7 := hdr.below w3.heap.size
    replace bel := bel.step hb7
    replace hm := hm.step hb7
    replace hq := hq.step hb7
    replace k2 := k2.step hb7
    replace k3 := k3.step hb7
    replace k4 := k4.step hb7
    refine ⟨_, rfl, ?_⟩
    refine Seq.val (Runs.geq rfl rfl rfl) rfl rfl rfl ?_
    refine Seq.nil ?_
    refine Post.weak (F' := [(0, _), (1, _), (2, _), (3, _), (4, _), (9, _), (23, _)]) ⟨rfl, rfl, rfl, rfl, rfl, rfl, rfl, trivial⟩ ?_
    refine Post.then_ ?_
    refine Cd.condD rfl (fun hc2 => ?_) (fun hc2 => ?_)
    · have hle : b.natAbs ≤ a.natAbs := cmpN_ge hc2
      have hab : (a + b).natAbs = a.natAbs - b.natAbs := by simp at hc; omega
      have hl := len_big (n := (a + b).natAbs) (by omega)
      refine Cd.seq ?_
      refine Cd.draw 8 (by kernel_rfl) [] (.inl rfl) rfl Grow Grow.refl (fun _ _ _ => Grow.trans) ?_
      intro w4 hw4 zw4
      replace bel := bel.step hw4
      replace hm := hm.step hw4
      replace hq := hq.step hw4
      replace k2 := k2.step hw4
      replace k3 := k3.step hw4
      replace k4 := k4.step hw4
      have zbel := bel.size
      have zlt := k4.lt
      refine Dr.val Grow.refl rfl (fun w hG => Runs.fieldB 0 rfl rfl Try.underlying133 rfl (by kernel_rfl)) rfl ?_
      refine Dr.val Grow.refl rfl (fun w hG => Runs.loadB rfl rfl Try.underlying4 rfl (k2.step hG) rfl) rfl ?_
      refine Dr.val Grow.refl rfl (fun w hG => Runs.fieldB 1 rfl rfl Try.underlying133 rfl (by kernel_rfl)) rfl ?_
      refine Dr.val Grow.refl rfl (fun w hG => Runs.loadB rfl rfl Try.underlying131 rfl (k2.step hG) rfl) rfl ?_
      refine Dr.val Grow.refl rfl (fun w hG => Runs.fieldB 1 rfl rfl Try.underlying133 rfl (by kernel_rfl)) rfl ?_
      refine Dr.val Grow.refl rfl (fun w hG => Runs.loadB rfl rfl Try.underlying131 rfl (k3.step hG) rfl) rfl ?_
      refine Dr.call (Φ := fun v w => MagR w v (a + b).natAbs) rfl (fun w => Enters.func rfl rfl rfl (run_enter Try.func142 (by kernel_rfl) rfl)) rfl (MagR.stable _) (fun w hG => sub_mag _ _ _ _ _ _ (hm.step hG) (hq.step hG) hle hab (by omega)) ?_
      refine Dr.call1 (j := 6) (Φ := fun v w => BigR w v (a + b)) rfl rfl rfl (fun u w => Enters.func rfl rfl rfl (run_enter Try.func139 (by kernel_rfl) rfl)) rfl (BigR.stable _) (fun u w hG hu => sign_big _ u _ (a + b) _ hu (by omega) rfl (by simp at hc; rw [Bool.eq_iff_iff]; simp; omega)) ?_
      refine Dr.nil ?_
      refine FinX.open (j := 7) rfl ?_
      intro u7
      refine FinX.done (F' := [(0, _), (1, _), (2, _), (3, _), (4, _), (9, _), (23, _), (31, _)]) rfl ⟨rfl, rfl, rfl, rfl, rfl, rfl, rfl, rfl, trivial⟩ ?_
      intro w5 hw5 fw5
      replace bel := bel.step hw5
      replace hm := hm.step hw5
      replace hq := hq.step hw5
      replace k2 := k2.step hw5
      replace k3 := k3.step hw5
      replace k4 := k4.step hw5
      obtain ⟨m2, rfl, hm2⟩ := (by assumption : True ∧ BigR _ _ _).2
      have hm2o := hm2.one
      refine Seq.storeN rfl rfl rfl rfl (m := 2) (by kernel_rfl) rfl (by repeat' first | exact trivial | apply And.intro | rfl | assumption) k4 (by simp [Value.cells]) rfl rfl ?_
      intro w6 pw6
      replace bel := bel.put k4 pw6 e4
      replace hm := hm.put k4 pw6 e4
      replace hq := hq.put k4 pw6 e4
      replace k2 := k2.put pw6 (by omega)
      replace k3 := k3.put pw6 (by omega)
      replace hm2 := hm2.put k4 pw6 e4
      replace k4 := pw6.blk
      refine Seq.nil ?_
      refine Post.weak (F' := [(0, _), (1, _), (2, _), (3, _), (4, _), (9, _), (23, _)]) ⟨rfl, rfl, rfl, rfl, rfl, rfl, rfl, trivial⟩ ?_
      refine Post.then_ ?_
      refine Cd.ret ?_
      refine Post.then_ret ?_
      refine Post.endC rfl rfl k4 Try.underlying133 rfl (m := 2) (by kernel_rfl) rfl (.inl rfl) ?_
      exact ⟨_, rfl, ⟨m2, rfl, hm2⟩, bel⟩
    · have hle : a.natAbs ≤ b.natAbs := Nat.le_of_lt (cmpN_lt hc2)
      have hab : (a + b).natAbs = b.natAbs - a.natAbs := by simp at hc; omega
      have hl := len_big (n := (a + b).natAbs) (by omega)
      refine Cd.skip ?_
      refine Post.then_ ?_
      refine Cd.seq ?_
      refine Cd.draw 8 (by kernel_rfl) [] (.inl rfl) rfl Grow Grow.refl (fun _ _ _ => Grow.trans) ?_
      intro w4 hw4 zw4
      replace bel := bel.step hw4
      replace hm := hm.step hw4
      replace hq := hq.step hw4
      replace k2 := k2.step hw4
      replace k3 := k3.step hw4
      replace k4 := k4.step hw4
      have zbel := bel.size
      have zlt := k4.lt
      refine Dr.val Grow.refl rfl (fun w hG => Runs.fieldB 0 rfl rfl Try.underlying133 rfl (by kernel_rfl)) rfl ?_
      refine Dr.val Grow.refl rfl (fun w hG => Runs.loadB rfl rfl Try.underlying4 rfl (k3.step hG) rfl) rfl ?_
      refine Dr.val Grow.refl rfl (fun w hG => Runs.fieldB 1 rfl rfl Try.underlying133 rfl (by kernel_rfl)) rfl ?_
      refine Dr.val Grow.refl rfl (fun w hG => Runs.loadB rfl rfl Try.underlying131 rfl (k3.step hG) rfl) rfl ?_
      refine Dr.val Grow.refl rfl (fun w hG => Runs.fieldB 1 rfl rfl Try.underlying133 rfl (by kernel_rfl)) rfl ?_
      refine Dr.val Grow.refl rfl (fun w hG => Runs.loadB rfl rfl Try.underlying131 rfl (k2.step hG) rfl) rfl ?_
      refine Dr.call (Φ := fun v w => MagR w v (a + b).natAbs) rfl (fun w => Enters.func rfl rfl rfl (run_enter Try.func142 (by kernel_rfl) rfl)) rfl (MagR.stable _) (fun w hG => sub_mag _ _ _ _ _ _ (hq.step hG) (hm.step hG) hle hab (by omega)) ?_
      refine Dr.call1 (j := 6) (Φ := fun v w => BigR w v (a + b)) rfl rfl rfl (fun u w => Enters.func rfl rfl rfl (run_enter Try.func139 (by kernel_rfl) rfl)) rfl (BigR.stable _) (fun u w hG hu => sign_big _ u _ (a + b) _ hu (by omega) rfl (by simp at hc; rw [Bool.eq_iff_iff]; simp; omega)) ?_
      refine Dr.nil ?_
      refine FinX.open (j := 7) rfl ?_
      intro u7
      refine FinX.done (F' := [(0, _), (1, _), (2, _), (3, _), (4, _), (9, _), (23, _), (39, _)]) rfl ⟨rfl, rfl, rfl, rfl, rfl, rfl, rfl, rfl, trivial⟩ ?_
      intro w5 hw5 fw5
      replace bel := bel.step hw5
      replace hm := hm.step hw5
      replace hq := hq.step hw5
      replace k2 := k2.step hw5
      replace k3 := k3.step hw5
      replace k4 := k4.step hw5
      obtain ⟨m2, rfl, hm2⟩ := (by assumption : True ∧ BigR _ _ _).2
      have hm2o := hm2.one
      refine Seq.storeN rfl rfl rfl rfl (m := 2) (by kernel_rfl) rfl (by repeat' first | exact trivial | apply And.intro | rfl | assumption) k4 (by simp [Value.cells]) rfl rfl ?_
      intro w6 pw6
      replace bel := bel.put k4 pw6 e4
      replace hm := hm.put k4 pw6 e4
      replace hq := hq.put k4 pw6 e4
      replace k2 := k2.put pw6 (by omega)
      replace k3 := k3.put pw6 (by omega)
      replace hm2 := hm2.put k4 pw6 e4
      replace k4 := pw6.blk
      refine Seq.nil ?_
      refine Post.weak (F' := [(0, _), (1, _), (2, _), (3, _), (4, _), (9, _), (23, _)]) ⟨rfl, rfl, rfl, rfl, rfl, rfl, rfl, trivial⟩ ?_
      refine Post.then_ ?_
      refine Cd.ret ?_
      refine Post.endC rfl rfl k4 Try.underlying133 rfl (m := 2) (by kernel_rfl) rfl (.inl rfl) ?_
      exact ⟨_, rfl, ⟨m2, rfl, hm2⟩, bel⟩

theorem val_of (n : Nat) (h : n < 18446744073709551616) : val [n % 65536, n / 65536 % 65536, n / 4294967296 % 65536, n / 281474976710656] = n := by
  rw [val4]
  omega
theorem of_digits (w : World) (g n : Nat) (x0 x1 x2 x3 : Int) (t : TypeId) (cs : Array Value) (hcs : cs = #[.int .u64 x0, .int .u64 x1, .int .u64 x2, .int .u64 x3]) (hg : Blk w g t cs)
    (e0 : x0 = ((n % 65536 : Nat) : Int)) (e1 : x1 = ((n / 65536 % 65536 : Nat) : Int)) (e2 : x2 = ((n / 4294967296 % 65536 : Nat) : Int)) (e3 : x3 = ((n / 281474976710656 : Nat) : Int)) :
    Reads w w.heap.size 1 (some ⟨g, 0, none⟩) 4 (U [n % 65536, n / 65536 % 65536, n / 4294967296 % 65536, n / 281474976710656]) := by
  subst hcs e0 e1 e2 e3
  refine ⟨rfl, fun _ => ⟨_, rfl, hg.lt, fun j u hu => ?_⟩⟩
  have hadd : (⟨g, 0, none⟩ : Addr).add j = ⟨g, j, none⟩ := by unfold Addr.add; split <;> simp_all
  rw [hadd, hg.cell j]
  simpa [U] using hu

theorem run_build_Big (b : Bool) (m : Value) (h : m.oneCell' = true) (w : World) : (Instr.build 133 #[(0, .bool b), (1, m)]).run Try.prog w = .ok (.agg #[.bool b, m]) w := by
  have hu := Try.underlying133
  cases m <;> first | (cases h; done) | go_simp
theorem of_any (a : Int) (w : World) (h0 : -9223372036854775808 ≤ a) (h1 : a ≤ 9223372036854775807) :
    Calls Try.prog 97 #[.int .i64 a] w fun e w' => ∃ v, e = .returned v ∧ BigR w' v a ∧ Below w.heap.size w w' := by
  have hv := val_of a.natAbs (by omega)
  have hd : ∀ d ∈ [a.natAbs % 65536, a.natAbs / 65536 % 65536, a.natAbs / 4294967296 % 65536, a.natAbs / 281474976710656], d < 65536 := by
    intro d hd
    simp only [List.mem_cons, List.not_mem_nil, or_false] at hd
    omega
  have bel := Below.refl w.heap.size w
  refine Calls.start 25 Try.func97 rfl rfl rfl ?_
  refine Cd.seq ?_
  refine Cd.region ?_
  refine Seq.alloc rfl (run_zero zero_debentureref01_Big) rfl rfl rfl ?_
  intro g2 w1 n2
  have e2 := Nat.le_trans bel.size n2.ge
  replace bel := bel.step n2.below
  have k2 := n2.blk
  refine Seq.nil ?_
  refine Post.weak (F' := [(0, _), (2, _)]) ⟨rfl, rfl, trivial⟩ ?_
  refine Post.then_ ?_
  refine Cd.seq ?_
  refine Cd.region ?_
  refine Seq.val (Runs.move rfl rfl) rfl rfl rfl ?_
  refine Seq.val (Runs.convI rfl rfl Try.underlying2 Try.underlying124 (wrap_u64 a)) rfl rfl rfl ?_
  refine Seq.val (Runs.assign rfl rfl) rfl rfl rfl ?_
  refine Seq.nil ?_
  refine Post.weak (F' := [(0, _), (2, _), (3, _)]) ⟨rfl, rfl, rfl, trivial⟩ ?_
  refine Post.then_ ?_
  refine Cd.seq ?_
  refine Cd.seq ?_
  refine Cd.region ?_
  refine Seq.val (Runs.move rfl rfl) rfl rfl rfl ?_
  refine Seq.val (Runs.lss rfl rfl rfl) rfl rfl rfl ?_
  refine Seq.nil ?_
  refine Post.weak (F' := [(0, _), (2, _), (3, _), (7, _)]) ⟨rfl, rfl, rfl, rfl, trivial⟩ ?_
  refine Post.then_ ?_
  refine Cd.condD rfl (fun hc => ?_) (fun hc => ?_)
  · skip
    refine Cd.region ?_
    refine Seq.val (Runs.move rfl rfl) rfl rfl rfl ?_
    refine Seq.val (Runs.neg rfl rfl (r := (a.natAbs : Int)) (by rw [wrap_u64]; omega)) rfl rfl rfl ?_
    refine Seq.val (Runs.assign rfl rfl) rfl rfl rfl ?_
    refine Seq.nil ?_
    refine Post.weak (F' := [(0, _), (2, _), (3, _), (7, _)]) ⟨rfl, rfl, rfl, rfl, trivial⟩ ?_
    refine Post.then_ ?_
    refine Cd.seq ?_
    refine Cd.region ?_
    refine Seq.val (Runs.move rfl rfl) rfl rfl rfl ?_
    refine Seq.val (Runs.lss rfl rfl rfl) rfl rfl rfl ?_
    refine Seq.val (Runs.move rfl rfl) rfl rfl rfl ?_
    refine Seq.val (Runs.remN rfl rfl rfl (by omega) (by omega)) rfl rfl rfl ?_
    refine Seq.val (Runs.move rfl rfl) rfl rfl rfl ?_
    refine Seq.val (Runs.quoU rfl rfl rfl (by omega) (by omega) (by omega)) rfl rfl rfl ?_
    refine Seq.val (Runs.remN rfl rfl rfl (by omega) (by omega)) rfl rfl rfl ?_
    refine Seq.val (Runs.move rfl rfl) rfl rfl rfl ?_
    refine Seq.val (Runs.quoU rfl rfl rfl (by omega) (by omega) (by omega)) rfl rfl rfl ?_
    refine Seq.val (Runs.remN rfl rfl rfl (by omega) (by omega)) rfl rfl rfl ?_
    refine Seq.val (Runs.move rfl rfl) rfl rfl rfl ?_
    refine Seq.val (Runs.quoU rfl rfl rfl (by omega) (by omega) (by omega)) rfl rfl rfl ?_
    refine Seq.slice (vs := [_, _, _, _]) (s := 1) rfl rfl rfl Try.underlying131 (by kernel_rfl) (zero_uint64) (by omega) (by omega) ⟨rfl, rfl, rfl, rfl, trivial⟩ rfl rfl rfl ?_
    intro g22 w2 n22
    have e22 := Nat.le_trans bel.size n22.ge
    have l22 := Nat.lt_of_lt_of_le k2.lt n22.ge
    replace bel := bel.step n22.below
    replace k2 := k2.step n22.below
    have k22 := n22.blk
    have hr := of_digits _ g22 a.natAbs _ _ _ _ _ _ rfl k22 (by omega) (by omega) (by omega) (by omega)
    refine Seq.call (Enters.func rfl rfl rfl (run_enter Try.func143 (by kernel_rfl) rfl)) rfl rfl rfl (trim_any _ _ 4 4 _ _ hr (Nat.le_refl _) hd (by omega) (by omega)) ?_
    rintro e w7 ⟨rfl, rfl⟩
    have hm := mag_of_trim hr hd (Nat.le_refl 4) (by omega) hv
    have hm1 := hm.one
    refine ⟨_, rfl, ?_⟩
    rw [hv] at hm hm1 ⊢
    refine Seq.val (Runs.build rfl rfl (run_build_Big _ _ hm1 _)) rfl rfl rfl ?_
    refine Seq.storeN rfl rfl rfl rfl (m := 2) (by kernel_rfl) rfl (by repeat' first | exact trivial | apply And.intro | rfl | assumption) k2 (by simp [Value.cells]) rfl rfl ?_
    intro w3 pw3
    replace bel := bel.put k2 pw3 e2
    replace k22 := k22.put pw3 (by omega)
    replace hm := hm.put k2 pw3 e2
    replace k2 := pw3.blk
    refine Seq.nil ?_
    refine Post.weak (F' := [(0, _), (2, _), (3, _), (7, _)]) ⟨rfl, rfl, rfl, rfl, trivial⟩ ?_
    refine Post.then_ ?_
    refine Cd.ret ?_
    refine Post.endC rfl rfl k2 Try.underlying133 rfl (m := 2) (by kernel_rfl) rfl (.inl rfl) ?_
    exact ⟨_, rfl, ⟨_, rfl, hm⟩, bel⟩
  · skip
    refine Cd.skip ?_
    refine Post.then_ ?_
    refine Cd.seq ?_
    refine Cd.region ?_
    refine Seq.val (Runs.move rfl rfl) rfl rfl rfl ?_
    refine Seq.val (Runs.lss rfl rfl rfl) rfl rfl rfl ?_
    refine Seq.val (Runs.move rfl rfl) rfl rfl rfl ?_
    refine Seq.val (Runs.remN rfl rfl rfl (by omega) (by omega)) rfl rfl rfl ?_
    refine Seq.val (Runs.move rfl rfl) rfl rfl rfl ?_
    refine Seq.val (Runs.quoU rfl rfl rfl (by omega) (by omega) (by omega)) rfl rfl rfl ?_
    refine Seq.val (Runs.remN rfl rfl rfl (by omega) (by omega)) rfl rfl rfl ?_
    refine Seq.val (Runs.move rfl rfl) rfl rfl rfl ?_
    refine Seq.val (Runs.quoU rfl rfl rfl (by omega) (by omega) (by omega)) rfl rfl rfl ?_
    refine Seq.val (Runs.remN rfl rfl rfl (by omega) (by omega)) rfl rfl rfl ?_
    refine Seq.val (Runs.move rfl rfl) rfl rfl rfl ?_
    refine Seq.val (Runs.quoU rfl rfl rfl (by omega) (by omega) (by omega)) rfl rfl rfl ?_
    refine Seq.slice (vs := [_, _, _, _]) (s := 1) rfl rfl rfl Try.underlying131 (by kernel_rfl) (zero_uint64) (by omega) (by omega) ⟨rfl, rfl, rfl, rfl, trivial⟩ rfl rfl rfl ?_
    intro g22 w2 n22
    have e22 := Nat.le_trans bel.size n22.ge
    have l22 := Nat.lt_of_lt_of_le k2.lt n22.ge
    replace bel := bel.step n22.below
    replace k2 := k2.step n22.below
    have k22 := n22.blk
    have hr := of_digits _ g22 a.natAbs _ _ _ _ _ _ rfl k22 (by omega) (by omega) (by omega) (by omega)
    refine Seq.call (Enters.func rfl rfl rfl (run_enter Try.func143 (by kernel_rfl) rfl)) rfl rfl rfl (trim_any _ _ 4 4 _ _ hr (Nat.le_refl _) hd (by omega) (by omega)) ?_
    rintro e w7 ⟨rfl, rfl⟩
    have hm := mag_of_trim hr hd (Nat.le_refl 4) (by omega) hv
    have hm1 := hm.one
    refine ⟨_, rfl, ?_⟩
    rw [hv] at hm hm1 ⊢
    refine Seq.val (Runs.build rfl rfl (run_build_Big _ _ hm1 _)) rfl rfl rfl ?_
    refine Seq.storeN rfl rfl rfl rfl (m := 2) (by kernel_rfl) rfl (by repeat' first | exact trivial | apply And.intro | rfl | assumption) k2 (by simp [Value.cells]) rfl rfl ?_
    intro w3 pw3
    replace bel := bel.put k2 pw3 e2
    replace k22 := k22.put pw3 (by omega)
    replace hm := hm.put k2 pw3 e2
    replace k2 := pw3.blk
    refine Seq.nil ?_
    refine Post.weak (F' := [(0, _), (2, _), (3, _), (7, _)]) ⟨rfl, rfl, rfl, rfl, trivial⟩ ?_
    refine Post.then_ ?_
    refine Cd.ret ?_
    refine Post.endC rfl rfl k2 Try.underlying133 rfl (m := 2) (by kernel_rfl) rfl (.inl rfl) ?_
    exact ⟨_, rfl, ⟨_, rfl, hm⟩, bel⟩
end Go.Proofs.Ytijaldpmpjapiaa
namespace Go.Proofs.Ytijaldpmpjapiaa
open Go.RowKit

theorem cmpZ_gt {a b : Int} : (0 < cmpZ a b) ↔ b < a := by
  unfold cmpZ
  split
  · constructor <;> intro h <;> omega
  · split <;> constructor <;> intro h <;> omega
theorem cmpZ_lt {a b : Int} : (cmpZ a b < 0) ↔ a < b := by
  unfold cmpZ
  split
  · constructor <;> intro h <;> omega
  · split <;> constructor <;> intro h <;> omega
theorem big_of {n : Nat} (h : n < 1606938044258990275541962092341162602522202993782792835301376) : n < big := Nat.lt_of_lt_of_le h big_pos
theorem BigR.agg {w : World} {v : Value} {z : Int} (h : BigR w v z) : ∃ m, v = .agg #[.bool (decide (z < 0)), m] ∧ m.oneCell' = true ∧ MagR w m z.natAbs := by
  obtain ⟨m, e, hm⟩ := h
  exact ⟨m, e, hm.one, hm⟩
theorem BigR.put {w w' : World} {v : Value} {z : Int} {g B : Nat} {T : TypeId} {cur cs : Array Value} (h : BigR w v z) (k : Blk w g T cur) (p : Put w w' g T cs) (e : B ≤ g) (hcs : ∀ (k : IntKind) (z : Int), Value.int k z ∉ cur.toList := by simp [Value.cells, *]) : BigR w' v z := by
  obtain ⟨m, e1, hm⟩ := h
  exact ⟨m, e1, hm.put k p e hcs⟩
theorem minus_big (x : Value) (a : Int) (w : World) (hx : BigR w x a) (ha : a.natAbs < big) :
    Calls Try.prog 98 #[x] w fun e w' => ∃ v, e = .returned v ∧ Below w.heap.size w w' ∧ BigR w' v (-a) :=
  (minus_any x a w hx (by have := len_big (n := a.natAbs) (by omega); omega)).mono fun e w' ⟨v, he, h1, h2⟩ => ⟨v, he, h2, h1⟩
theorem plus_big (x y : Value) (a b : Int) (w : World) (hx : BigR w x a) (hy : BigR w y b) (ha : a.natAbs < big) (hb : b.natAbs < big) :
    Calls Try.prog 95 #[x, y] w fun e w' => ∃ v, e = .returned v ∧ Below w.heap.size w w' ∧ BigR w' v (a + b) :=
  (plus_any x y a b w hx hy ha hb).mono fun e w' ⟨v, he, h1, h2⟩ => ⟨v, he, h2, h1⟩
theorem of_big (a : Int) (w : World) (h0 : -9223372036854775808 ≤ a) (h1 : a ≤ 9223372036854775807) :
    Calls Try.prog 97 #[.int .i64 a] w fun e w' => ∃ v, e = .returned v ∧ Below w.heap.size w w' ∧ BigR w' v a :=
  (of_any a w h0 h1).mono fun e w' ⟨v, he, h1, h2⟩ => ⟨v, he, h2, h1⟩

theorem cmpB_any (x y : Value) (a b : Int) (w : World) (hx : BigR w x a) (hy : BigR w y b) (ha : a.natAbs < big) (hb : b.natAbs < big) :
    Calls Try.prog 144 #[x, y] w fun e w' => e = .returned (.int .i64 (cmpZ a b)) ∧ Below w.heap.size w w' := by
  have hx0 := hx
  have hy0 := hy
  obtain ⟨m, rfl, -, -⟩ := hx.agg
  obtain ⟨q, rfl, -, -⟩ := hy.agg
  have bel := Below.refl w.heap.size w
  refine Calls.start 16 Try.func144 rfl rfl rfl ?_
  refine Cd.seq ?_
  refine Cd.region ?_
  refine Seq.box rfl rfl rfl rfl rfl ?_
  intro g2 w1 n2
  have e2 := Nat.le_trans bel.size n2.ge
  replace bel := bel.step n2.below
  replace hx := hx.step n2.below
  replace hy := hy.step n2.below
  have k2 := n2.blk
  refine Seq.box rfl rfl rfl rfl rfl ?_
  intro g3 w2 n3
  have e3 := Nat.le_trans bel.size n3.ge
  have l3 := Nat.lt_of_lt_of_le k2.lt n3.ge
  replace bel := bel.step n3.below
  replace hx := hx.step n3.below
  replace hy := hy.step n3.below
  replace k2 := k2.step n3.below
  have k3 := n3.blk
  refine Seq.val (Runs.assign rfl rfl) rfl rfl rfl ?_
  refine Seq.nil ?_
  refine Post.weak (F' := [(0, _), (1, _), (2, _), (3, _), (4, _)]) ⟨rfl, rfl, rfl, rfl, rfl, trivial⟩ ?_
  refine Post.then_ ?_
  refine Cd.seq ?_
  refine Cd.draw 5 (by kernel_rfl) [] (.inl rfl) rfl Grow Grow.refl (fun _ _ _ => Grow.trans) ?_
  intro w3 hw3 zw3
  replace bel := bel.step hw3
  replace hx := hx.step hw3
  replace hy := hy.step hw3
  replace k2 := k2.step hw3
  replace k3 := k3.step hw3
  have zbel := bel.size
  have zlt := k3.lt
  refine Dr.val Grow.refl rfl (fun w hG => Runs.loadW rfl rfl Try.underlying133 rfl (k2.step hG) (m := 2) (by kernel_rfl) rfl) rfl ?_
  refine Dr.val Grow.refl rfl (fun w hG => Runs.loadW rfl rfl Try.underlying133 rfl (k3.step hG) (m := 2) (by kernel_rfl) rfl) rfl ?_
  refine Dr.call (Φ := fun v w => BigR w v (-b)) rfl (fun w => Enters.func rfl rfl rfl (run_enter Try.func98 (by kernel_rfl) rfl)) rfl (BigR.stable _) (fun w hG => minus_big _ _ _ (hy.step hG) hb) ?_
  refine Dr.call1 (j := 2) (Φ := fun v w => BigR w v (a + -b)) rfl rfl rfl (fun u w => Enters.func rfl rfl rfl (run_enter Try.func95 (by kernel_rfl) rfl)) rfl (BigR.stable _) (fun u w hG hu => plus_big _ u a (-b) _ (hx.step hG) hu ha (by omega)) ?_
  refine Dr.alloc rfl rfl (run_zero zero_debentureref01_Big) rfl ?_
  refine Dr.nil ?_
  refine FinX.open (j := 3) rfl ?_
  intro u3
  refine FinX.open (j := 4) rfl ?_
  intro u4
  refine FinX.done (F' := [(0, _), (1, _), (2, _), (3, _), (4, _), (5, _), (9, _)]) rfl ⟨rfl, rfl, rfl, rfl, rfl, rfl, rfl, trivial⟩ ?_
  intro w4 hw4 fw4
  replace bel := bel.step hw4
  replace hx := hx.step hw4
  replace hy := hy.step hw4
  replace k2 := k2.step hw4
  replace k3 := k3.step hw4
  obtain ⟨⟨-, h9⟩, g5, rfl, k5, e5⟩ := fw4
  obtain ⟨m9, rfl, o9, h9⟩ := h9.agg
  obtain ⟨A9, c9, rfl, b9, c9', r9⟩ := id h9
  have l5 := Nat.lt_of_lt_of_le zlt e5
  replace e5 := Nat.le_trans zbel e5
  refine Seq.storeN rfl rfl rfl rfl (m := 2) (by kernel_rfl) rfl (by repeat' first | exact trivial | apply And.intro | rfl | assumption) k5 (by simp [Value.cells]) rfl rfl ?_
  intro w5 pw5
  replace bel := bel.put k5 pw5 e5
  replace hx := hx.put k5 pw5 e5
  replace hy := hy.put k5 pw5 e5
  replace k2 := k2.put pw5 (by omega)
  replace k3 := k3.put pw5 (by omega)
  replace h9 := h9.put k5 pw5 e5
  replace k5 := pw5.blk
  refine Seq.nil ?_
  refine Post.weak (F' := [(0, _), (1, _), (2, _), (3, _), (4, _), (5, _)]) ⟨rfl, rfl, rfl, rfl, rfl, rfl, trivial⟩ ?_
  refine Post.then_ ?_
  refine Cd.seq ?_
  refine Cd.seq ?_
  refine Cd.region ?_
  refine Seq.val (Runs.fieldB 1 rfl rfl Try.underlying133 rfl (by kernel_rfl)) rfl rfl rfl ?_
  refine Seq.val (Runs.loadB rfl rfl Try.underlying131 rfl k5 rfl) rfl rfl rfl ?_
  refine Seq.val (Runs.len rfl rfl Try.underlying131) rfl rfl rfl ?_
  refine Seq.val (Runs.eqlI rfl rfl rfl) rfl rfl rfl ?_
  refine Seq.nil ?_
  refine Post.weak (F' := [(0, _), (1, _), (2, _), (3, _), (4, _), (5, _), (13, _)]) ⟨rfl, rfl, rfl, rfl, rfl, rfl, rfl, trivial⟩ ?_
  refine Post.then_ ?_
  refine Cd.condD rfl (fun hc => ?_) (fun hc => ?_)
  · skip
    refine Cd.seq ?_
    refine Cd.region ?_
    refine Seq.val (Runs.assign rfl rfl) rfl rfl rfl ?_
    refine Seq.nil ?_
    refine Post.weak (F' := [(0, _), (1, _), (2, _), (3, _), (4, _), (5, _), (13, _)]) ⟨rfl, rfl, rfl, rfl, rfl, rfl, rfl, trivial⟩ ?_
    refine Post.then_ ?_
    refine Cd.ret ?_
    refine Post.then_ret ?_
    refine Post.end1 rfl rfl (.inl rfl) ?_
    refine ⟨ret1 (int_eq ?_), bel⟩
    have h0 := (digs_len_zero (a + -b).natAbs).1 (by omega)
    unfold cmpZ
    rw [if_neg (by omega), if_pos (by omega)]
  · skip
    refine Cd.skip ?_
    refine Post.then_ ?_
    refine Cd.seq ?_
    refine Cd.seq ?_
    refine Cd.region ?_
    refine Seq.val (Runs.fieldB 0 rfl rfl Try.underlying133 rfl (by kernel_rfl)) rfl rfl rfl ?_
    refine Seq.val (Runs.loadB rfl rfl Try.underlying4 rfl k5 rfl) rfl rfl rfl ?_
    refine Seq.nil ?_
    refine Post.weak (F' := [(0, _), (1, _), (2, _), (3, _), (4, _), (5, _), (13, _), (15, _)]) ⟨rfl, rfl, rfl, rfl, rfl, rfl, rfl, rfl, trivial⟩ ?_
    refine Post.then_ ?_
    refine Cd.condD rfl (fun hc => ?_) (fun hc => ?_)
    · skip
      refine Cd.seq ?_
      refine Cd.region ?_
      refine Seq.val (Runs.assign rfl rfl) rfl rfl rfl ?_
      refine Seq.nil ?_
      refine Post.weak (F' := [(0, _), (1, _), (2, _), (3, _), (4, _), (5, _), (13, _), (15, _)]) ⟨rfl, rfl, rfl, rfl, rfl, rfl, rfl, rfl, trivial⟩ ?_
      refine Post.then_ ?_
      refine Cd.ret ?_
      refine Post.then_ret ?_
      refine Post.end1 rfl rfl (.inl rfl) ?_
      refine ⟨ret1 (int_eq ?_), bel⟩
      unfold cmpZ
      rw [if_pos (by omega)]
    · have h0 := mt (digs_len_zero (a + -b).natAbs).2 (by omega)
      refine Cd.skip ?_
      refine Post.then_ ?_
      refine Cd.seq ?_
      refine Cd.region ?_
      refine Seq.val (Runs.assign rfl rfl) rfl rfl rfl ?_
      refine Seq.nil ?_
      refine Post.weak (F' := [(0, _), (1, _), (2, _), (3, _), (4, _), (5, _), (13, _), (15, _)]) ⟨rfl, rfl, rfl, rfl, rfl, rfl, rfl, rfl, trivial⟩ ?_
      refine Post.then_ ?_
      refine Cd.ret ?_
      refine Post.end1 rfl rfl (.inl rfl) ?_
      refine ⟨ret1 (int_eq ?_), bel⟩
      unfold cmpZ
      rw [if_neg (by omega), if_neg (by omega)]
theorem cmpB_grow (x y : Value) (a b : Int) (w : World) (hx : BigR w x a) (hy : BigR w y b) (ha : a.natAbs < big) (hb : b.natAbs < big) :
    Calls Try.prog 144 #[x, y] w fun e w' => e = .returned (.int .i64 (cmpZ a b)) ∧ Grow w w' := cmpB_any x y a b w hx hy ha hb
end Go.Proofs.Ytijaldpmpjapiaa
namespace Go.Proofs.Ytijaldpmpjapiaa
open Go.RowKit

theorem U_at {l : List Nat} {j d : Nat} (h : l[j]? = some d) : (U l).toArray[j]? = some (.int .u64 (d : Int)) := by simp [U, h]
theorem U_set (l : List Nat) (j d : Nat) : (U l).toArray.setIfInBounds j (.int .u64 (d : Int)) = (U (l.set j d)).toArray := by
  apply Array.ext'
  simp [U, List.map_set]
theorem U_zero (n : Nat) : (List.replicate n (Value.int .u64 0)).toArray = (U (List.replicate n 0)).toArray := by simp [U]
theorem val_set (l : List Nat) : ∀ (j d x : Nat), l[j]? = some x → val (l.set j d) + 65536 ^ j * x = val l + 65536 ^ j * d := by
  induction l with
  | nil => intro j d x h; simp at h
  | cons a l ih =>
    intro j d x h
    cases j with
    | zero =>
      obtain rfl : a = x := by simpa using h
      simp [val]; omega
    | succ j =>
      have := ih j d x (by simpa using h)
      rw [List.set_cons_succ, val, val, Nat.pow_succ, Nat.mul_right_comm, Nat.mul_right_comm _ _ d]
      omega
theorem set_lt {l : List Nat} (h : ∀ d ∈ l, d < 65536) (j v : Nat) (hv : v < 65536) : ∀ d ∈ l.set j v, d < 65536 := by
  intro d hd
  rcases List.mem_or_eq_of_mem_set hd with h1 | rfl
  · exact h d h1
  · exact hv
theorem val_zero (n : Nat) : val (List.replicate n 0) = 0 := by
  induction n with
  | zero => rfl
  | succ n ih => rw [List.replicate_succ, val, ih]
/-- A digit above the number is nought. -/
theorem digit_above (l : List Nat) (j x : Nat) (h : val l < 65536 ^ j) (hx : l[j]? = some x) : x = 0 := by
  have e := val_split l j x hx
  rcases Nat.eq_zero_or_pos x with h0 | h0
  · exact h0
  · exfalso
    have h1 : 65536 ^ j * 1 ≤ 65536 ^ j * (x + 65536 * val (l.drop (j + 1))) := Nat.mul_le_mul_left _ (by omega)
    omega
theorem get_lt {l : List Nat} (h : ∀ d ∈ l, d < 65536) {j d : Nat} (hj : l[j]? = some d) : d < 65536 := h d (List.mem_of_getElem? hj)
/-- One step of the inner loop. -/
theorem times_step (P vl vl' x c v ai bk S : Nat) (h : vl' + P * c = S) (hv : v = x + ai * bk + c) (h2 : vl + P * x = vl' + P * (v % 65536)) : vl + P * 65536 * (v / 65536) = S + P * (ai * bk) := by
  have e0 : v % 65536 + 65536 * (v / 65536) = v := Nat.mod_add_div v 65536
  have e1 : P * v = P * (v % 65536) + P * 65536 * (v / 65536) := by rw [Nat.mul_assoc, ← Nat.mul_add, e0]
  have e2 : P * v = P * x + P * (ai * bk) + P * c := by rw [hv, Nat.mul_add, Nat.mul_add]
  omega

theorem trim_known (k : Nat) (A : Option Addr) (n cap : Nat) (l : List Nat) (w : World) (hr : Reads w w.heap.size 1 A n (U l)) (hd : ∀ d ∈ l, d < 65536) (hn : n ≤ 1073741824) (hc : n ≤ cap) (hk : (digs (val l)).length = k) :
    Calls Try.prog 143 #[.slice A n cap] w fun e w' => e = .returned (.slice A k cap) ∧ Grow w w' :=
  (trim_any _ A n cap l w hr (Nat.le_refl _) hd hn hc).mono fun e w' ⟨h1, h2⟩ => ⟨by rw [h1, hk], by rw [← h2]; exact Grow.refl _⟩
theorem sign_mul (a b : Int) : (decide (decide (a < 0) ≠ decide (b < 0)) && decide (0 < (a * b).natAbs)) = decide (a * b < 0) := by
  rcases Int.lt_trichotomy a 0 with h1 | h1 | h1 <;> rcases Int.lt_trichotomy b 0 with h2 | h2 | h2
  · have := Int.mul_pos_of_neg_of_neg h1 h2
    simp [h1, h2]; omega
  · subst h2; simp
  · have := Int.mul_neg_of_neg_of_pos h1 h2
    have h3 : ¬ b < 0 := by omega
    simp [h1, h3, this]; omega
  · subst h1; simp
  · subst h1; simp
  · subst h1; simp
  · have := Int.mul_neg_of_pos_of_neg h1 h2
    have h3 : ¬ a < 0 := by omega
    simp [h2, h3, this]; omega
  · subst h2; simp
  · have := Int.mul_pos h1 h2
    have h3 : ¬ a < 0 := by omega
    have h4 : ¬ b < 0 := by omega
    simp [h3, h4]; omega

theorem times_any (x y : Value) (a b : Int) (w : World) (hx : BigR w x a) (hy : BigR w y b) (ha : a.natAbs < big) (hb : b.natAbs < big) :
    Calls Try.prog 96 #[x, y] w fun e w' => ∃ v, e = .returned v ∧ Below w.heap.size w w' ∧ BigR w' v (a * b) := by
  obtain ⟨m, rfl, om, hm⟩ := hx.agg
  obtain ⟨q, rfl, oq, hq⟩ := hy.agg
  have hla := len_big (n := a.natAbs) (by omega)
  have hlb := len_big (n := b.natAbs) (by omega)
  obtain ⟨A, ca, rfl, hca, hca2, hra⟩ := hm
  obtain ⟨B, cb, rfl, hcb, hcb2, hrb⟩ := hq
  generalize hma : (digs a.natAbs).length = la at *
  generalize hmb : (digs b.natAbs).length = lb at *
  have bel := Below.refl w.heap.size w
  refine Calls.start 87 Try.func96 rfl rfl rfl ?_
  refine Cd.seq ?_
  refine Cd.region ?_
  refine Seq.box rfl rfl rfl rfl rfl ?_
  intro g2 w1 n2
  have e2 := Nat.le_trans bel.size n2.ge
  replace bel := bel.step n2.below
  have k2 := n2.blk
  refine Seq.box rfl rfl rfl rfl rfl ?_
  intro g3 w2 n3
  have e3 := Nat.le_trans bel.size n3.ge
  have l3 := Nat.lt_of_lt_of_le k2.lt n3.ge
  replace bel := bel.step n3.below
  replace k2 := k2.step n3.below
  have k3 := n3.blk
  refine Seq.alloc rfl (run_zero zero_debentureref01_Big) rfl rfl rfl ?_
  intro g4 w3 n4
  have e4 := Nat.le_trans bel.size n4.ge
  have l4 := Nat.lt_of_lt_of_le k3.lt n4.ge
  replace bel := bel.step n4.below
  replace k2 := k2.step n4.below
  replace k3 := k3.step n4.below
  have k4 := n4.blk
  refine Seq.nil ?_
  refine Post.weak (F' := [(0, _), (1, _), (2, _), (3, _), (4, _)]) ⟨rfl, rfl, rfl, rfl, rfl, trivial⟩ ?_
  refine Post.then_ ?_
  refine Cd.seq ?_
  refine Cd.region ?_
  refine Seq.val (Runs.fieldB 1 rfl rfl Try.underlying133 rfl (by kernel_rfl)) rfl rfl rfl ?_
  refine Seq.val (Runs.loadB rfl rfl Try.underlying131 rfl k2 rfl) rfl rfl rfl ?_
  refine Seq.val (Runs.len rfl rfl Try.underlying131) rfl rfl rfl ?_
  refine Seq.val (Runs.fieldB 1 rfl rfl Try.underlying133 rfl (by kernel_rfl)) rfl rfl rfl ?_
  refine Seq.val (Runs.loadB rfl rfl Try.underlying131 rfl k3 rfl) rfl rfl rfl ?_
  refine Seq.val (Runs.len rfl rfl Try.underlying131) rfl rfl rfl ?_
  refine Seq.val (Runs.addI rfl rfl rfl (by omega) (by omega)) rfl rfl rfl ?_
  refine Seq.val (Runs.addI rfl rfl rfl (by omega) (by omega)) rfl rfl rfl ?_
  refine Seq.make rfl rfl rfl Try.underlying131 (by kernel_rfl) zero_uint64 rfl (b := 8) (by kernel_rfl) (m := la + lb + 1) (by omega) (by omega) (by omega) rfl rfl rfl ?_
  intro g18 w4 n18
  have e18 := Nat.le_trans bel.size n18.ge
  have l18 := Nat.lt_of_lt_of_le k4.lt n18.ge
  replace bel := bel.step n18.below
  replace k2 := k2.step n18.below
  replace k3 := k3.step n18.below
  replace k4 := k4.step n18.below
  have k18 := n18.blk
  refine Seq.val (Runs.assign rfl rfl) rfl rfl rfl ?_
  refine Seq.nil ?_
  refine Post.weak (F' := [(0, _), (1, _), (2, _), (3, _), (4, _), (5, _)]) ⟨rfl, rfl, rfl, rfl, rfl, rfl, trivial⟩ ?_
  refine Post.then_ ?_
  refine Cd.seq ?_
  refine Cd.seq ?_
  refine Cd.region ?_
  refine Seq.val (Runs.assign rfl rfl) rfl rfl rfl ?_
  refine Seq.nil ?_
  refine Post.weak (F' := [(0, _), (1, _), (2, _), (3, _), (4, _), (5, _), (6, _)]) ⟨rfl, rfl, rfl, rfl, rfl, rfl, rfl, trivial⟩ ?_
  refine Post.then_ ?_
  refine Cd.block ?_
  rw [U_zero] at k18
  refine Cd.loop (σ := Nat × List Nat) (fun s => [(2, .pointer (some ⟨g2, 0, none⟩)), (3, .pointer (some ⟨g3, 0, none⟩)), (4, .pointer (some ⟨g4, 0, none⟩)), (5, .slice (some ⟨g18, 0, none⟩) (la + lb + 1) (la + lb + 1)), (6, .int .i64 (s.1 : Int))])
    (fun s wr => s.1 ≤ la ∧ s.2.length = la + lb + 1 ∧ (∀ d ∈ s.2, d < 65536) ∧ val s.2 = val ((digs a.natAbs).take s.1) * b.natAbs ∧ Below w.heap.size w wr ∧ Blk wr g2 133 #[.bool (decide (a < 0)), .slice A la ca] ∧ Blk wr g3 133 #[.bool (decide (b < 0)), .slice B lb cb] ∧ Blk wr g4 133 #[.bool false, .slice none 0 0] ∧ Blk wr g18 124 (U s.2).toArray)
    (fun s => la - s.1) (0, List.replicate (la + lb + 1) 0) ⟨by omega, by simp, by simp, by simp [val_zero, val], bel, k2, k3, k4, k18⟩ ⟨rfl, rfl, rfl, rfl, rfl, trivial⟩ ?_
  clear bel k2 k3 k4 k18
  rintro ⟨i, l⟩ wr ⟨hi, hl, hd, hv, bel, k2, k3, k4, k18⟩
  dsimp only at hi hl hd hv bel k2 k3 k4 k18 ⊢
  refine Cd.seq ?_
  refine Cd.seq ?_
  refine Cd.region ?_
  refine Seq.val (Runs.move rfl rfl) rfl rfl rfl ?_
  refine Seq.val (Runs.fieldB 1 rfl rfl Try.underlying133 rfl (by kernel_rfl)) rfl rfl rfl ?_
  refine Seq.val (Runs.loadB rfl rfl Try.underlying131 rfl k2 rfl) rfl rfl rfl ?_
  refine Seq.val (Runs.len rfl rfl Try.underlying131) rfl rfl rfl ?_
  refine Seq.val (Runs.lss rfl rfl rfl) rfl rfl rfl ?_
  refine Seq.nil ?_
  refine Post.weak (F' := [(2, _), (3, _), (4, _), (5, _), (6, _), (23, _)]) ⟨rfl, rfl, rfl, rfl, rfl, rfl, trivial⟩ ?_
  refine Post.then_ ?_
  refine Cd.condD rfl (fun hc => ?_) (fun hc => ?_)
  · obtain ⟨ad, p, rfl, hbp, hp, hcp⟩ := hra.dig bel (Nat.le_refl _) (show i < la by omega)
    have ci : Cell wr w.heap.size (ad.add i) (.int .u64 p) := ⟨by rw [block_of_add]; exact hbp, hcp⟩
    have hp2 := get_lt (digs_lt _) hp
    refine Cd.skip ?_
    refine Post.then_ ?_
    refine Cd.seq ?_
    refine Cd.block ?_
    refine Cd.seq ?_
    refine Cd.region ?_
    refine Seq.val (Runs.assign rfl rfl) rfl rfl rfl ?_
    refine Seq.nil ?_
    refine Post.weak (F' := [(2, _), (3, _), (4, _), (5, _), (6, _), (7, _), (23, _)]) ⟨rfl, rfl, rfl, rfl, rfl, rfl, rfl, trivial⟩ ?_
    refine Post.then_ ?_
    refine Cd.seq ?_
    refine Cd.seq ?_
    refine Cd.region ?_
    refine Seq.val (Runs.assign rfl rfl) rfl rfl rfl ?_
    refine Seq.nil ?_
    refine Post.weak (F' := [(2, _), (3, _), (4, _), (5, _), (6, _), (7, _), (8, _), (23, _)]) ⟨rfl, rfl, rfl, rfl, rfl, rfl, rfl, rfl, trivial⟩ ?_
    refine Post.then_ ?_
    refine Cd.block ?_
    refine Cd.loop (σ := Nat × Nat × List Nat) (fun s => [(2, .pointer (some ⟨g2, 0, none⟩)), (3, .pointer (some ⟨g3, 0, none⟩)), (4, .pointer (some ⟨g4, 0, none⟩)), (5, .slice (some ⟨g18, 0, none⟩) (la + lb + 1) (la + lb + 1)), (6, .int .i64 (i : Int)), (7, .int .u64 (s.2.1 : Int)), (8, .int .i64 (s.1 : Int))])
      (fun s wr => s.1 ≤ lb ∧ s.2.1 < 65536 ∧ s.2.2.length = la + lb + 1 ∧ (∀ d ∈ s.2.2, d < 65536) ∧ val s.2.2 + 65536 ^ (i + s.1) * s.2.1 = val l + 65536 ^ i * (p * val ((digs b.natAbs).take s.1)) ∧ (∀ j, i + s.1 ≤ j → s.2.2[j]? = l[j]?) ∧
        Below w.heap.size w wr ∧ Blk wr g2 133 #[.bool (decide (a < 0)), .slice (some ad) la ca] ∧ Blk wr g3 133 #[.bool (decide (b < 0)), .slice B lb cb] ∧ Blk wr g4 133 #[.bool false, .slice none 0 0] ∧ Blk wr g18 124 (U s.2.2).toArray ∧ Cell wr w.heap.size (ad.add i) (.int .u64 p))
      (fun s => lb - s.1) (0, 0, l) ⟨by omega, by simp, hl, hd, by simp [val], fun j _ => rfl, bel, k2, k3, k4, k18, ci⟩ ⟨rfl, rfl, rfl, rfl, rfl, rfl, rfl, trivial⟩ ?_
    clear bel k2 k3 k4 k18 ci
    rintro ⟨k, c, l'⟩ wr' ⟨hk, hc2, hl', hd', hv', hsame, bel, k2, k3, k4, k18, ci⟩
    dsimp only at hk hc2 hl' hd' hv' hsame bel k2 k3 k4 k18 ci ⊢
    refine Cd.seq ?_
    refine Cd.seq ?_
    refine Cd.region ?_
    refine Seq.val (Runs.move rfl rfl) rfl rfl rfl ?_
    refine Seq.val (Runs.fieldB 1 rfl rfl Try.underlying133 rfl (by kernel_rfl)) rfl rfl rfl ?_
    refine Seq.val (Runs.loadB rfl rfl Try.underlying131 rfl k3 rfl) rfl rfl rfl ?_
    refine Seq.val (Runs.len rfl rfl Try.underlying131) rfl rfl rfl ?_
    refine Seq.val (Runs.lss rfl rfl rfl) rfl rfl rfl ?_
    refine Seq.nil ?_
    refine Post.weak (F' := [(2, _), (3, _), (4, _), (5, _), (6, _), (7, _), (8, _), (30, _)]) ⟨rfl, rfl, rfl, rfl, rfl, rfl, rfl, rfl, trivial⟩ ?_
    refine Post.then_ ?_
    refine Cd.condD rfl (fun hc => ?_) (fun hc => ?_)
    · obtain ⟨bd, bk, rfl, hbb, hbk, hcb⟩ := hrb.dig bel (Nat.le_refl _) (show k < lb by omega)
      have cj : Cell wr' w.heap.size (bd.add k) (.int .u64 bk) := ⟨by rw [block_of_add]; exact hbb, hcb⟩
      have hbk2 := get_lt (digs_lt _) hbk
      obtain ⟨x, hx⟩ : ∃ x, l'[i + k]? = some x := ⟨_, List.getElem?_eq_getElem (show i + k < l'.length by omega)⟩
      have hx2 := get_lt hd' hx
      have hpb : p * bk ≤ 65535 * 65535 := Nat.mul_le_mul (by omega) (by omega)
      refine Cd.skip ?_
      refine Post.then_ ?_
      refine Cd.seq ?_
      refine Cd.block ?_
      refine Cd.seq ?_
      refine Cd.draw 20 (by kernel_rfl) [] (.inl rfl) rfl Grow Grow.refl (fun _ _ _ => Grow.trans) ?_
      intro w5 hw5 zw5
      replace bel := bel.step hw5
      replace k2 := k2.step hw5
      replace k3 := k3.step hw5
      replace k4 := k4.step hw5
      replace k18 := k18.step hw5
      replace ci := ci.step hw5
      replace cj := cj.step hw5
      have zbel := bel.size
      have zlt := k18.lt
      refine Dr.val Grow.refl rfl (fun w hG => Runs.move rfl rfl) rfl ?_
      refine Dr.val Grow.refl rfl (fun w hG => Runs.move rfl rfl) rfl ?_
      refine Dr.val Grow.refl rfl (fun w hG => Runs.move rfl rfl) rfl ?_
      refine Dr.val Grow.refl rfl (fun w hG => Runs.addI rfl rfl rfl (by omega) (by omega)) rfl ?_
      refine Dr.val Grow.refl rfl (fun w hG => Runs.indexB rfl rfl rfl Try.underlying131 (by kernel_rfl) (j := i + k) (by omega) (by omega)) rfl ?_
      refine Dr.val Grow.refl rfl (fun w hG => Runs.loadB rfl rfl Try.underlying124 rfl (k18.step hG) (U_at hx)) rfl ?_
      refine Dr.val Grow.refl rfl (fun w hG => Runs.fieldB 1 rfl rfl Try.underlying133 rfl (by kernel_rfl)) rfl ?_
      refine Dr.val Grow.refl rfl (fun w hG => Runs.loadB rfl rfl Try.underlying131 rfl (k2.step hG) rfl) rfl ?_
      refine Dr.val Grow.refl rfl (fun w hG => Runs.move rfl rfl) rfl ?_
      refine Dr.val Grow.refl rfl (fun w hG => Runs.index1 rfl rfl rfl Try.underlying131 (by kernel_rfl) (j := i) rfl (by omega)) rfl ?_
      refine Dr.val Grow.refl rfl (fun w hG => Runs.load1 rfl rfl Try.underlying124 rfl (ci.step hG).val) rfl ?_
      refine Dr.val Grow.refl rfl (fun w hG => Runs.fieldB 1 rfl rfl Try.underlying133 rfl (by kernel_rfl)) rfl ?_
      refine Dr.val Grow.refl rfl (fun w hG => Runs.loadB rfl rfl Try.underlying131 rfl (k3.step hG) rfl) rfl ?_
      refine Dr.val Grow.refl rfl (fun w hG => Runs.move rfl rfl) rfl ?_
      refine Dr.val Grow.refl rfl (fun w hG => Runs.index1 rfl rfl rfl Try.underlying131 (by kernel_rfl) (j := k) rfl (by omega)) rfl ?_
      refine Dr.val Grow.refl rfl (fun w hG => Runs.load1 rfl rfl Try.underlying124 rfl (cj.step hG).val) rfl ?_
      refine Dr.val Grow.refl rfl (fun w hG => Runs.mulW rfl rfl rfl (r := ((p * bk : Nat) : Int)) (by rw [← Int.natCast_mul]; exact wrapU (by omega) (by omega))) rfl ?_
      refine Dr.val Grow.refl rfl (fun w hG => Runs.addW rfl rfl rfl (r := ((x + p * bk : Nat) : Int)) (by rw [← Int.natCast_add]; exact wrapU (by omega) (by omega))) rfl ?_
      refine Dr.val Grow.refl rfl (fun w hG => Runs.move rfl rfl) rfl ?_
      refine Dr.val Grow.refl rfl (fun w hG => Runs.addW rfl rfl rfl (r := ((x + p * bk + c : Nat) : Int)) (by rw [← Int.natCast_add]; exact wrapU (by omega) (by omega))) rfl ?_
      refine Dr.nil ?_
      refine FinX.done (F' := [(2, _), (3, _), (4, _), (5, _), (6, _), (7, _), (8, _), (30, _), (52, _)]) rfl ⟨rfl, rfl, rfl, rfl, rfl, rfl, rfl, rfl, rfl, trivial⟩ ?_
      intro w6 hw6 fw6
      replace bel := bel.step hw6
      replace k2 := k2.step hw6
      replace k3 := k3.step hw6
      replace k4 := k4.step hw6
      replace k18 := k18.step hw6
      replace ci := ci.step hw6
      replace cj := cj.step hw6
      refine Seq.val (Runs.assign rfl rfl) rfl rfl rfl ?_
      refine Seq.nil ?_
      refine Post.weak (F' := [(2, _), (3, _), (4, _), (5, _), (6, _), (7, _), (8, _), (9, _), (30, _)]) ⟨rfl, rfl, rfl, rfl, rfl, rfl, rfl, rfl, rfl, trivial⟩ ?_
      refine Post.then_ ?_
      refine Cd.seq ?_
      refine Cd.region ?_
      refine Seq.val (Runs.move rfl rfl) rfl rfl rfl ?_
      refine Seq.val (Runs.move rfl rfl) rfl rfl rfl ?_
      refine Seq.val (Runs.move rfl rfl) rfl rfl rfl ?_
      refine Seq.val (Runs.addI rfl rfl rfl (by omega) (by omega)) rfl rfl rfl ?_
      refine Seq.val (Runs.move rfl rfl) rfl rfl rfl ?_
      refine Seq.val (Runs.remL 65536 rfl rfl rfl rfl (by omega)) rfl rfl rfl ?_
      refine Seq.val (Runs.indexB rfl rfl rfl Try.underlying131 (by kernel_rfl) (j := i + k) (by omega) (by omega)) rfl rfl rfl ?_
      refine Seq.store1 rfl rfl rfl (by kernel_rfl) rfl rfl k18 (U_at hx) rfl rfl ?_
      intro w7 pw7
      replace bel := bel.put k18 pw7 e18
      replace k2 := k2.put pw7 (by omega)
      replace k3 := k3.put pw7 (by omega)
      replace k4 := k4.put pw7 (by omega)
      replace ci := ci.put k18 pw7 e18
      replace cj := cj.put k18 pw7 e18
      replace k18 := pw7.blk
      rw [U_set] at k18
      refine Seq.nil ?_
      refine Post.weak (F' := [(2, _), (3, _), (4, _), (5, _), (6, _), (7, _), (8, _), (9, _), (30, _)]) ⟨rfl, rfl, rfl, rfl, rfl, rfl, rfl, rfl, rfl, trivial⟩ ?_
      refine Post.then_ ?_
      refine Cd.region ?_
      refine Seq.val (Runs.move rfl rfl) rfl rfl rfl ?_
      refine Seq.val (Runs.quoLU 65536 rfl rfl rfl rfl (by omega) (by omega)) rfl rfl rfl ?_
      refine Seq.val (Runs.assign rfl rfl) rfl rfl rfl ?_
      refine Seq.nil ?_
      refine Post.weak (F' := [(2, _), (3, _), (4, _), (5, _), (6, _), (7, _), (8, _), (9, _), (30, _)]) ⟨rfl, rfl, rfl, rfl, rfl, rfl, rfl, rfl, rfl, trivial⟩ ?_
      refine Post.block_normal ?_
      refine Post.then_ ?_
      refine Cd.region ?_
      refine Seq.val (Runs.move rfl rfl) rfl rfl rfl ?_
      refine Seq.val (Runs.addI rfl rfl rfl (by omega) (by omega)) rfl rfl rfl ?_
      refine Seq.val (Runs.assign rfl rfl) rfl rfl rfl ?_
      refine Seq.nil ?_
      refine Post.weak (F' := [(2, _), (3, _), (4, _), (5, _), (6, _), (7, _), (8, _), (9, _), (30, _)]) ⟨rfl, rfl, rfl, rfl, rfl, rfl, rfl, rfl, rfl, trivial⟩ ?_
      refine Post.round (k + 1, (x + p * bk + c) / 65536, l'.set (i + k) ((x + p * bk + c) % 65536)) ⟨rfl, rfl, rfl, rfl, rfl, rfl, rfl, trivial⟩ ?_ (by dsimp only; omega)
      have hval := val_set l' (i + k) ((x + p * bk + c) % 65536) x hx
      refine ⟨by dsimp only; omega, by dsimp only; omega, by simp [hl'], set_lt hd' _ _ (by omega), ?_, ?_, bel, k2, k3, k4, k18, ci⟩
      · dsimp only
        rw [val_take_succ, getD_of _ _ _ hbk, ← Nat.add_assoc, Nat.pow_succ]
        have := times_step (65536 ^ (i + k)) _ _ x c _ p bk _ hv' rfl hval
        rw [this, Nat.pow_add]
        rw [Nat.mul_add p, Nat.mul_add (65536 ^ i)]
        have e3 : 65536 ^ i * 65536 ^ k * (p * bk) = 65536 ^ i * (p * (65536 ^ k * bk)) := by rw [Nat.mul_assoc, Nat.mul_left_comm p (65536 ^ k) bk]
        omega
      · intro j hj
        dsimp only at hj ⊢
        rw [List.getElem?_set_ne (by omega)]
        exact hsame j (by omega)
    · obtain rfl : k = lb := by omega
      have hlt : val l < 65536 ^ (i + k) := by
        rw [hv, Nat.pow_add]
        have h1 := val_lt ((digs a.natAbs).take i) (fun d hd => digs_lt _ d (List.mem_of_mem_take hd))
        rw [List.length_take, hma, Nat.min_eq_left (by omega)] at h1
        have h2 := lt_of_digs_len b.natAbs
        rw [hmb] at h2
        exact Nat.mul_lt_mul_of_lt_of_lt h1 h2
      obtain ⟨x, hx0⟩ : ∃ x, l[i + k]? = some x := ⟨_, List.getElem?_eq_getElem (show i + k < l.length by omega)⟩
      obtain rfl := digit_above l (i + k) x hlt hx0
      have hx : l'[i + k]? = some 0 := by rw [hsame _ (by omega), hx0]
      have hval : val (l'.set (i + k) (0 + c)) = val l' + 65536 ^ (i + k) * c := by have := val_set l' (i + k) (0 + c) 0 hx; simpa using this
      refine Cd.exit ?_
      refine Post.then_exit ?_
      refine Post.round_exit ?_
      refine Post.block_exit ?_
      refine Post.then_ ?_
      refine Cd.draw 17 (by kernel_rfl) [] (.inl rfl) rfl Grow Grow.refl (fun _ _ _ => Grow.trans) ?_
      intro w5 hw5 zw5
      replace bel := bel.step hw5
      replace k2 := k2.step hw5
      replace k3 := k3.step hw5
      replace k4 := k4.step hw5
      replace k18 := k18.step hw5
      replace ci := ci.step hw5
      have zbel := bel.size
      have zlt := k18.lt
      refine Dr.val Grow.refl rfl (fun w hG => Runs.move rfl rfl) rfl ?_
      refine Dr.val Grow.refl rfl (fun w hG => Runs.move rfl rfl) rfl ?_
      refine Dr.val Grow.refl rfl (fun w hG => Runs.fieldB 1 rfl rfl Try.underlying133 rfl (by kernel_rfl)) rfl ?_
      refine Dr.val Grow.refl rfl (fun w hG => Runs.loadB rfl rfl Try.underlying131 rfl (k3.step hG) rfl) rfl ?_
      refine Dr.val Grow.refl rfl (fun w hG => Runs.len rfl rfl Try.underlying131) rfl ?_
      refine Dr.val Grow.refl rfl (fun w hG => Runs.addI rfl rfl rfl (by omega) (by omega)) rfl ?_
      refine Dr.val Grow.refl rfl (fun w hG => Runs.move rfl rfl) rfl ?_
      refine Dr.val Grow.refl rfl (fun w hG => Runs.move rfl rfl) rfl ?_
      refine Dr.val Grow.refl rfl (fun w hG => Runs.fieldB 1 rfl rfl Try.underlying133 rfl (by kernel_rfl)) rfl ?_
      refine Dr.val Grow.refl rfl (fun w hG => Runs.loadB rfl rfl Try.underlying131 rfl (k3.step hG) rfl) rfl ?_
      refine Dr.val Grow.refl rfl (fun w hG => Runs.len rfl rfl Try.underlying131) rfl ?_
      refine Dr.val Grow.refl rfl (fun w hG => Runs.addI rfl rfl rfl (by omega) (by omega)) rfl ?_
      refine Dr.val Grow.refl rfl (fun w hG => Runs.indexB rfl rfl rfl Try.underlying131 (by kernel_rfl) (j := i + k) (by omega) (by omega)) rfl ?_
      refine Dr.val Grow.refl rfl (fun w hG => Runs.loadB rfl rfl Try.underlying124 rfl (k18.step hG) (U_at hx)) rfl ?_
      refine Dr.val Grow.refl rfl (fun w hG => Runs.move rfl rfl) rfl ?_
      refine Dr.val Grow.refl rfl (fun w hG => Runs.addLU rfl rfl rfl (by omega)) rfl ?_
      refine Dr.val Grow.refl rfl (fun w hG => Runs.indexB rfl rfl rfl Try.underlying131 (by kernel_rfl) (j := i + k) (by omega) (by omega)) rfl ?_
      refine Dr.nil ?_
      refine FinX.done (F' := [(2, _), (3, _), (4, _), (5, _), (6, _), (7, _), (8, _), (30, _), (77, _), (78, _)]) rfl ⟨rfl, rfl, rfl, rfl, rfl, rfl, rfl, rfl, rfl, rfl, trivial⟩ ?_
      intro w6 hw6 fw6
      replace bel := bel.step hw6
      replace k2 := k2.step hw6
      replace k3 := k3.step hw6
      replace k4 := k4.step hw6
      replace k18 := k18.step hw6
      replace ci := ci.step hw6
      refine Seq.store1 rfl rfl rfl (by kernel_rfl) rfl rfl k18 (U_at hx) rfl rfl ?_
      intro w7 pw7
      replace bel := bel.put k18 pw7 e18
      replace k2 := k2.put pw7 (by omega)
      replace k3 := k3.put pw7 (by omega)
      replace k4 := k4.put pw7 (by omega)
      replace ci := ci.put k18 pw7 e18
      replace k18 := pw7.blk
      rw [U_set] at k18
      refine Seq.nil ?_
      refine Post.weak (F' := [(2, _), (3, _), (4, _), (5, _), (6, _), (7, _), (8, _), (30, _)]) ⟨rfl, rfl, rfl, rfl, rfl, rfl, rfl, rfl, trivial⟩ ?_
      refine Post.block_normal ?_
      refine Post.then_ ?_
      refine Cd.region ?_
      refine Seq.val (Runs.move rfl rfl) rfl rfl rfl ?_
      refine Seq.val (Runs.addI rfl rfl rfl (by omega) (by omega)) rfl rfl rfl ?_
      refine Seq.val (Runs.assign rfl rfl) rfl rfl rfl ?_
      refine Seq.nil ?_
      refine Post.weak (F' := [(2, _), (3, _), (4, _), (5, _), (6, _), (7, _), (8, _), (30, _)]) ⟨rfl, rfl, rfl, rfl, rfl, rfl, rfl, rfl, trivial⟩ ?_
      refine Post.round (i + 1, l'.set (i + k) (0 + c)) ⟨rfl, rfl, rfl, rfl, rfl, trivial⟩ ?_ (by dsimp only; omega)
      refine ⟨by dsimp only; omega, by simp [hl'], set_lt hd' _ _ (by omega), ?_, bel, k2, k3, k4, k18⟩
      dsimp only
      rw [val_take_succ, getD_of _ _ _ hp, Nat.add_mul, ← hv]
      rw [List.take_of_length_le (by omega), val_digs] at hv'
      rw [Nat.mul_assoc]
      omega
  · obtain rfl : i = la := by omega
    rw [List.take_of_length_le (by omega), val_digs] at hv
    refine Cd.exit ?_
    refine Post.then_exit ?_
    refine Post.round_exit ?_
    refine Post.block_exit ?_
    refine Post.then_ ?_
    refine Cd.seq ?_
    refine Cd.draw 8 (by kernel_rfl) [] (.inl rfl) rfl Grow Grow.refl (fun _ _ _ => Grow.trans) ?_
    intro w5 hw5 zw5
    replace bel := bel.step hw5
    replace k2 := k2.step hw5
    replace k3 := k3.step hw5
    replace k4 := k4.step hw5
    replace k18 := k18.step hw5
    have zbel := bel.size
    have zlt := k18.lt
    refine Dr.val Grow.refl rfl (fun w hG => Runs.fieldB 0 rfl rfl Try.underlying133 rfl (by kernel_rfl)) rfl ?_
    refine Dr.val Grow.refl rfl (fun w hG => Runs.loadB rfl rfl Try.underlying4 rfl (k2.step hG) rfl) rfl ?_
    refine Dr.val Grow.refl rfl (fun w hG => Runs.fieldB 0 rfl rfl Try.underlying133 rfl (by kernel_rfl)) rfl ?_
    refine Dr.val Grow.refl rfl (fun w hG => Runs.loadB rfl rfl Try.underlying4 rfl (k3.step hG) rfl) rfl ?_
    refine Dr.val Grow.refl rfl (fun w hG => Runs.neqB rfl rfl rfl Try.underlying4) rfl ?_
    refine Dr.val Grow.refl rfl (fun w hG => Runs.move rfl rfl) rfl ?_
    have hlen18 : (digs (a * b).natAbs).length ≤ i + lb + 1 := by
      rw [Int.natAbs_mul, ← hv, ← hl]
      exact digs_len_le _ _ (val_lt l hd)
    have hr18 : Reads w5 w5.heap.size 1 (some ⟨g18, 0, none⟩) (i + lb + 1) (U l) := by
      refine ⟨by rw [length_U]; omega, fun _ => ⟨_, rfl, k18.lt, fun j u hu => ?_⟩⟩
      have hadd : (⟨g18, 0, none⟩ : Addr).add j = ⟨g18, j, none⟩ := by unfold Addr.add; split <;> simp_all
      rw [hadd, k18.cell j]
      simpa using hu
    have hm18 : MagR w5 (.slice (some ⟨g18, 0, none⟩) (digs (a * b).natAbs).length (i + lb + 1)) (a * b).natAbs := by
      have := mag_of_trim hr18 hd (Nat.le_refl _) (by omega) (show val l = (a * b).natAbs by rw [hv, Int.natAbs_mul])
      rwa [show val l = (a * b).natAbs by rw [hv, Int.natAbs_mul]] at this
    refine Dr.callV rfl (fun w => Enters.func rfl rfl rfl (run_enter Try.func143 (by kernel_rfl) rfl)) rfl (fun w hG => trim_known _ _ _ _ l w ((hr18.below (show Below w5.heap.size w5 w from hG)).more hG.size) hd (by omega) (by omega) (show (digs (val l)).length = (digs (a * b).natAbs).length by rw [hv, Int.natAbs_mul])) ?_
    refine Dr.call (Φ := fun v w => BigR w v (a * b)) rfl (fun w => Enters.func rfl rfl rfl (run_enter Try.func139 (by kernel_rfl) rfl)) rfl (BigR.stable _) (fun w hG => sign_big _ _ _ (a * b) _ (hm18.step hG) (by omega) rfl (sign_mul a b)) ?_
    refine Dr.nil ?_
    refine FinX.open (j := 7) rfl ?_
    intro u7
    refine FinX.done (F' := [(2, _), (3, _), (4, _), (5, _), (6, _), (23, _), (86, _)]) rfl ⟨rfl, rfl, rfl, rfl, rfl, rfl, rfl, trivial⟩ ?_
    intro w6 hw6 fw6
    replace bel := bel.step hw6
    replace k2 := k2.step hw6
    replace k3 := k3.step hw6
    replace k4 := k4.step hw6
    replace k18 := k18.step hw6
    obtain ⟨m9, rfl, o9, h9⟩ := (by assumption : True ∧ BigR _ _ _).2.agg
    refine Seq.storeN rfl rfl rfl rfl (m := 2) (by kernel_rfl) rfl (by repeat' first | exact trivial | apply And.intro | rfl | assumption) k4 (by simp [Value.cells]) rfl rfl ?_
    intro w7 pw7
    replace bel := bel.put k4 pw7 e4
    replace k2 := k2.put pw7 (by omega)
    replace k3 := k3.put pw7 (by omega)
    replace k18 := k18.put pw7 (by omega)
    replace h9 := h9.put k4 pw7 e4
    replace k4 := pw7.blk
    refine Seq.nil ?_
    refine Post.weak (F' := [(2, _), (3, _), (4, _), (5, _), (6, _), (23, _)]) ⟨rfl, rfl, rfl, rfl, rfl, rfl, trivial⟩ ?_
    refine Post.then_ ?_
    refine Cd.ret ?_
    refine Post.endC rfl rfl k4 Try.underlying133 rfl (m := 2) (by kernel_rfl) rfl (.inl rfl) ?_
    exact ⟨_, rfl, bel, _, rfl, h9⟩
theorem times_grow (x y : Value) (a b : Int) (w : World) (hx : BigR w x a) (hy : BigR w y b) (ha : a.natAbs < big) (hb : b.natAbs < big) :
    Calls Try.prog 96 #[x, y] w fun e w' => ∃ v, e = .returned v ∧ Grow w w' ∧ BigR w' v (a * b) := times_any x y a b w hx hy ha hb
end Go.Proofs.Ytijaldpmpjapiaa
namespace Go.Proofs.Ytijaldpmpjapiaa
open Go.RowKit

/-- The number of the digits from k on. -/
def valFrom (l : List Nat) (k : Nat) : Nat := val (l.drop k)
theorem valFrom_step (l : List Nat) (k d : Nat) (h : l[k]? = some d) : valFrom l k = d + 65536 * valFrom l (k + 1) := by
  obtain ⟨hk, rfl⟩ := List.getElem?_eq_some_iff.1 h
  unfold valFrom
  rw [List.drop_eq_getElem_cons hk, val]
theorem valFrom_le (l : List Nat) (k : Nat) : valFrom l k ≤ val l := by
  have := val_append (l.take k) (l.drop k)
  rw [List.take_append_drop] at this
  unfold valFrom
  have h1 : 1 * val (l.drop k) ≤ 65536 ^ (l.take k).length * val (l.drop k) := Nat.mul_le_mul_right _ (Nat.pos_of_ne_zero (by simp))
  omega

theorem small_any (x : Value) (a : Int) (w : World) (hx : BigR w x a) (ha : a.natAbs < big) :
    Calls Try.prog 99 #[x] w fun e w' => e = .returned (.tuple #[.int .i64 (smallOf a), .bool (fits a)]) ∧ Below w.heap.size w w' := by
  obtain ⟨m, rfl, om, hm⟩ := hx.agg
  have bel := Below.refl w.heap.size w
  by_cases hgt : 9223372036854775807 < a
  · have hf := fits_not (.inr hgt)
    have hs : smallOf a = 0 := by unfold smallOf; rw [hf]; rfl
    rw [hf, hs]
    refine Calls.start 38 Try.func99 rfl rfl rfl ?_
    refine Cd.seq ?_
    refine Cd.region ?_
    refine Seq.box rfl rfl rfl rfl rfl ?_
    intro g1 w1 n1
    have e1 := Nat.le_trans bel.size n1.ge
    replace bel := bel.step n1.below
    replace hx := hx.step n1.below
    have k1 := n1.blk
    refine Seq.val (Runs.assign rfl rfl) rfl rfl rfl ?_
    refine Seq.val (Runs.assign rfl rfl) rfl rfl rfl ?_
    refine Seq.nil ?_
    refine Post.weak (F' := [(0, _), (1, _), (2, _), (3, _)]) ⟨rfl, rfl, rfl, rfl, trivial⟩ ?_
    refine Post.then_ ?_
    refine Cd.seq ?_
    refine Cd.seq ?_
    refine Cd.draw 10 (by kernel_rfl) [] (.inl rfl) rfl Grow Grow.refl (fun _ _ _ => Grow.trans) ?_
    intro w2 hw2 zw2
    replace bel := bel.step hw2
    replace hx := hx.step hw2
    replace k1 := k1.step hw2
    have zbel := bel.size
    have zlt := k1.lt
    refine Dr.val Grow.refl rfl (fun w hG => Runs.loadW rfl rfl Try.underlying133 rfl (k1.step hG) (m := 2) (by kernel_rfl) rfl) rfl ?_
    refine Dr.call (Φ := fun v w => BigR w v 9223372036854775807) rfl (fun w => Enters.func rfl rfl rfl (run_enter Try.func97 (by kernel_rfl) rfl)) rfl (BigR.stable _) (fun w hG => of_big _ _ (by omega) (by omega)) ?_
    refine Dr.call1V (j := 1) rfl rfl rfl (fun u w => Enters.func rfl rfl rfl (run_enter Try.func144 (by kernel_rfl) rfl)) rfl (fun u w hG hu => cmpB_grow _ u a _ _ (hx.step hG) hu ha (big_of (by decide))) ?_
    refine Dr.val Grow.refl rfl (fun w hG => (Runs.gtr rfl rfl rfl).isT (cmpZ_gt.2 hgt)) rfl ?_
    refine Dr.val Grow.refl rfl (fun w hG => Runs.move rfl rfl) rfl ?_
    refine Dr.skip rfl rfl rfl rfl rfl ?_
    refine Dr.skip rfl rfl rfl rfl rfl ?_
    refine Dr.skip rfl rfl rfl rfl rfl ?_
    refine Dr.skip rfl rfl rfl rfl rfl ?_
    refine Dr.val Grow.refl rfl (fun w hG => Runs.pickT rfl rfl rfl) rfl ?_
    refine Dr.nil ?_
    refine FinX.done (F' := [(0, _), (1, _), (2, _), (3, _), (15, _)]) rfl ⟨rfl, rfl, rfl, rfl, rfl, trivial⟩ ?_
    intro w3 hw3 fw3
    replace bel := bel.step hw3
    replace hx := hx.step hw3
    replace k1 := k1.step hw3
    refine Seq.nil ?_
    refine Post.weak (F' := [(0, _), (1, _), (2, _), (3, _), (15, _)]) ⟨rfl, rfl, rfl, rfl, rfl, trivial⟩ ?_
    refine Post.then_ ?_
    refine Cd.condT rfl rfl ?_
    refine Cd.seq ?_
    refine Cd.region ?_
    refine Seq.val (Runs.assign rfl rfl) rfl rfl rfl ?_
    refine Seq.val (Runs.assign rfl rfl) rfl rfl rfl ?_
    refine Seq.nil ?_
    refine Post.weak (F' := [(0, _), (1, _), (2, _), (3, _), (15, _)]) ⟨rfl, rfl, rfl, rfl, rfl, trivial⟩ ?_
    refine Post.then_ ?_
    refine Cd.ret ?_
    refine Post.then_ret ?_
    refine Post.end2 rfl rfl rfl (.inl rfl) ?_
    exact ⟨rfl, bel⟩
  · by_cases hlt : a < -9223372036854775808
    · have hf := fits_not (.inl hlt)
      have hs : smallOf a = 0 := by unfold smallOf; rw [hf]; rfl
      rw [hf, hs]
      refine Calls.start 38 Try.func99 rfl rfl rfl ?_
      refine Cd.seq ?_
      refine Cd.region ?_
      refine Seq.box rfl rfl rfl rfl rfl ?_
      intro g1 w1 n1
      have e1 := Nat.le_trans bel.size n1.ge
      replace bel := bel.step n1.below
      replace hx := hx.step n1.below
      have k1 := n1.blk
      refine Seq.val (Runs.assign rfl rfl) rfl rfl rfl ?_
      refine Seq.val (Runs.assign rfl rfl) rfl rfl rfl ?_
      refine Seq.nil ?_
      refine Post.weak (F' := [(0, _), (1, _), (2, _), (3, _)]) ⟨rfl, rfl, rfl, rfl, trivial⟩ ?_
      refine Post.then_ ?_
      refine Cd.seq ?_
      refine Cd.seq ?_
      refine Cd.draw 10 (by kernel_rfl) [] (.inl rfl) rfl Grow Grow.refl (fun _ _ _ => Grow.trans) ?_
      intro w2 hw2 zw2
      replace bel := bel.step hw2
      replace hx := hx.step hw2
      replace k1 := k1.step hw2
      have zbel := bel.size
      have zlt := k1.lt
      refine Dr.val Grow.refl rfl (fun w hG => Runs.loadW rfl rfl Try.underlying133 rfl (k1.step hG) (m := 2) (by kernel_rfl) rfl) rfl ?_
      refine Dr.call (Φ := fun v w => BigR w v 9223372036854775807) rfl (fun w => Enters.func rfl rfl rfl (run_enter Try.func97 (by kernel_rfl) rfl)) rfl (BigR.stable _) (fun w hG => of_big _ _ (by omega) (by omega)) ?_
      refine Dr.call1V (j := 1) rfl rfl rfl (fun u w => Enters.func rfl rfl rfl (run_enter Try.func144 (by kernel_rfl) rfl)) rfl (fun u w hG hu => cmpB_grow _ u a _ _ (hx.step hG) hu ha (big_of (by decide))) ?_
      refine Dr.val Grow.refl rfl (fun w hG => (Runs.gtr rfl rfl rfl).isF (mt cmpZ_gt.1 hgt)) rfl ?_
      refine Dr.val Grow.refl rfl (fun w hG => Runs.move rfl rfl) rfl ?_
      refine Dr.valG Grow.refl rfl (fun w hG => Runs.loadW rfl rfl Try.underlying133 rfl (k1.step hG) (m := 2) (by kernel_rfl) rfl) rfl rfl rfl ?_
      refine Dr.callG (Φ := fun v w => BigR w v (-9223372036854775808)) rfl (fun w => Enters.func rfl rfl rfl (run_enter Try.func97 (by kernel_rfl) rfl)) rfl rfl rfl (BigR.stable _) (fun w hG => of_big _ _ (by omega) (by omega)) ?_
      refine Dr.call1VG (j := 6) rfl rfl rfl (fun u w => Enters.func rfl rfl rfl (run_enter Try.func144 (by kernel_rfl) rfl)) rfl rfl (fun _ => rfl) (fun u w hG hu => cmpB_grow _ u a _ _ (hx.step hG) hu ha (big_of (by decide))) ?_
      refine Dr.valG Grow.refl rfl (fun w hG => (Runs.lss rfl rfl rfl).isT (cmpZ_lt.2 hlt)) rfl rfl rfl ?_
      refine Dr.val Grow.refl rfl (fun w hG => Runs.pickF rfl rfl rfl) rfl ?_
      refine Dr.nil ?_
      refine FinX.done (F' := [(0, _), (1, _), (2, _), (3, _), (15, _)]) rfl ⟨rfl, rfl, rfl, rfl, rfl, trivial⟩ ?_
      intro w3 hw3 fw3
      replace bel := bel.step hw3
      replace hx := hx.step hw3
      replace k1 := k1.step hw3
      refine Seq.nil ?_
      refine Post.weak (F' := [(0, _), (1, _), (2, _), (3, _), (15, _)]) ⟨rfl, rfl, rfl, rfl, rfl, trivial⟩ ?_
      refine Post.then_ ?_
      refine Cd.condT rfl rfl ?_
      refine Cd.seq ?_
      refine Cd.region ?_
      refine Seq.val (Runs.assign rfl rfl) rfl rfl rfl ?_
      refine Seq.val (Runs.assign rfl rfl) rfl rfl rfl ?_
      refine Seq.nil ?_
      refine Post.weak (F' := [(0, _), (1, _), (2, _), (3, _), (15, _)]) ⟨rfl, rfl, rfl, rfl, rfl, trivial⟩ ?_
      refine Post.then_ ?_
      refine Cd.ret ?_
      refine Post.then_ret ?_
      refine Post.end2 rfl rfl rfl (.inl rfl) ?_
      exact ⟨rfl, bel⟩
    · have hf := fits_of (a := a) (by omega) (by omega)
      have hs : smallOf a = a := by unfold smallOf; rw [if_pos hf]
      rw [hf, hs]
      obtain ⟨A, cm, rfl, hcm, hcm2, hrm⟩ := id hm
      have hlen : (digs a.natAbs).length ≤ 61 := len_big (by omega)
      have hba : a.natAbs < 18446744073709551616 := by omega
      generalize hL : (digs a.natAbs).length = L at *
      refine Calls.start 38 Try.func99 rfl rfl rfl ?_
      refine Cd.seq ?_
      refine Cd.region ?_
      refine Seq.box rfl rfl rfl rfl rfl ?_
      intro g1 w1 n1
      have e1 := Nat.le_trans bel.size n1.ge
      replace bel := bel.step n1.below
      replace hx := hx.step n1.below
      have k1 := n1.blk
      refine Seq.val (Runs.assign rfl rfl) rfl rfl rfl ?_
      refine Seq.val (Runs.assign rfl rfl) rfl rfl rfl ?_
      refine Seq.nil ?_
      refine Post.weak (F' := [(0, _), (1, _), (2, _), (3, _)]) ⟨rfl, rfl, rfl, rfl, trivial⟩ ?_
      refine Post.then_ ?_
      refine Cd.seq ?_
      refine Cd.seq ?_
      refine Cd.draw 10 (by kernel_rfl) [] (.inl rfl) rfl Grow Grow.refl (fun _ _ _ => Grow.trans) ?_
      intro w2 hw2 zw2
      replace bel := bel.step hw2
      replace hx := hx.step hw2
      replace k1 := k1.step hw2
      have zbel := bel.size
      have zlt := k1.lt
      refine Dr.val Grow.refl rfl (fun w hG => Runs.loadW rfl rfl Try.underlying133 rfl (k1.step hG) (m := 2) (by kernel_rfl) rfl) rfl ?_
      refine Dr.call (Φ := fun v w => BigR w v 9223372036854775807) rfl (fun w => Enters.func rfl rfl rfl (run_enter Try.func97 (by kernel_rfl) rfl)) rfl (BigR.stable _) (fun w hG => of_big _ _ (by omega) (by omega)) ?_
      refine Dr.call1V (j := 1) rfl rfl rfl (fun u w => Enters.func rfl rfl rfl (run_enter Try.func144 (by kernel_rfl) rfl)) rfl (fun u w hG hu => cmpB_grow _ u a _ _ (hx.step hG) hu ha (big_of (by decide))) ?_
      refine Dr.val Grow.refl rfl (fun w hG => (Runs.gtr rfl rfl rfl).isF (mt cmpZ_gt.1 hgt)) rfl ?_
      refine Dr.val Grow.refl rfl (fun w hG => Runs.move rfl rfl) rfl ?_
      refine Dr.valG Grow.refl rfl (fun w hG => Runs.loadW rfl rfl Try.underlying133 rfl (k1.step hG) (m := 2) (by kernel_rfl) rfl) rfl rfl rfl ?_
      refine Dr.callG (Φ := fun v w => BigR w v (-9223372036854775808)) rfl (fun w => Enters.func rfl rfl rfl (run_enter Try.func97 (by kernel_rfl) rfl)) rfl rfl rfl (BigR.stable _) (fun w hG => of_big _ _ (by omega) (by omega)) ?_
      refine Dr.call1VG (j := 6) rfl rfl rfl (fun u w => Enters.func rfl rfl rfl (run_enter Try.func144 (by kernel_rfl) rfl)) rfl rfl (fun _ => rfl) (fun u w hG hu => cmpB_grow _ u a _ _ (hx.step hG) hu ha (big_of (by decide))) ?_
      refine Dr.valG Grow.refl rfl (fun w hG => (Runs.lss rfl rfl rfl).isF (mt cmpZ_lt.1 hlt)) rfl rfl rfl ?_
      refine Dr.val Grow.refl rfl (fun w hG => Runs.pickF rfl rfl rfl) rfl ?_
      refine Dr.nil ?_
      refine FinX.done (F' := [(0, _), (1, _), (2, _), (3, _), (15, _)]) rfl ⟨rfl, rfl, rfl, rfl, rfl, trivial⟩ ?_
      intro w3 hw3 fw3
      replace bel := bel.step hw3
      replace hx := hx.step hw3
      replace k1 := k1.step hw3
      refine Seq.nil ?_
      refine Post.weak (F' := [(0, _), (1, _), (2, _), (3, _), (15, _)]) ⟨rfl, rfl, rfl, rfl, rfl, trivial⟩ ?_
      refine Post.then_ ?_
      refine Cd.condF rfl rfl ?_
      refine Cd.skip ?_
      refine Post.then_ ?_
      refine Cd.seq ?_
      refine Cd.region ?_
      refine Seq.val (Runs.assign rfl rfl) rfl rfl rfl ?_
      refine Seq.nil ?_
      refine Post.weak (F' := [(0, _), (1, _), (2, _), (3, _), (4, _), (15, _)]) ⟨rfl, rfl, rfl, rfl, rfl, rfl, trivial⟩ ?_
      refine Post.then_ ?_
      refine Cd.seq ?_
      refine Cd.seq ?_
      refine Cd.region ?_
      refine Seq.val (Runs.fieldB 1 rfl rfl Try.underlying133 rfl (by kernel_rfl)) rfl rfl rfl ?_
      refine Seq.val (Runs.loadB rfl rfl Try.underlying131 rfl k1 rfl) rfl rfl rfl ?_
      refine Seq.val (Runs.len rfl rfl Try.underlying131) rfl rfl rfl ?_
      refine Seq.val (Runs.subI rfl rfl rfl (by omega) (by omega)) rfl rfl rfl ?_
      refine Seq.val (Runs.assign rfl rfl) rfl rfl rfl ?_
      refine Seq.nil ?_
      refine Post.weak (F' := [(0, _), (1, _), (2, _), (3, _), (4, _), (5, _), (15, _)]) ⟨rfl, rfl, rfl, rfl, rfl, rfl, rfl, trivial⟩ ?_
      refine Post.then_ ?_
      refine Cd.block ?_
      refine Cd.loop (σ := Nat) (fun k => [(1, .pointer (some ⟨g1, 0, none⟩)), (2, .int .i64 0), (3, .bool false), (4, .int .u64 (valFrom (digs a.natAbs) k : Int)), (5, .int .i64 ((k : Int) - 1))])
        (fun k wr => k ≤ L ∧ Below w.heap.size w wr ∧ Blk wr g1 133 #[.bool (decide (a < 0)), .slice A L cm]) (fun k => k) L ⟨Nat.le_refl _, bel, k1⟩ ⟨rfl, rfl, rfl, ?_, rfl, trivial⟩ ?_
      · show some (Value.int .u64 0) = _
        unfold valFrom
        rw [List.drop_of_length_le (by omega)]; rfl
      clear bel hx k1
      rintro k wr ⟨hk, bel, k1⟩
      have hvl := valFrom_le (digs a.natAbs) k
      rw [val_digs] at hvl
      refine Cd.seq ?_
      refine Cd.seq ?_
      refine Cd.region ?_
      refine Seq.val (Runs.move rfl rfl) rfl rfl rfl ?_
      refine Seq.val (Runs.geq rfl rfl rfl) rfl rfl rfl ?_
      refine Seq.nil ?_
      refine Post.weak (F' := [(1, _), (2, _), (3, _), (4, _), (5, _), (21, _)]) ⟨rfl, rfl, rfl, rfl, rfl, rfl, trivial⟩ ?_
      refine Post.then_ ?_
      refine Cd.condD rfl (fun hc => ?_) (fun hc => ?_)
      · obtain ⟨j, rfl⟩ : ∃ j, k = j + 1 := ⟨k - 1, by omega⟩
        obtain ⟨ad, p, rfl, hbp, hp, hcp⟩ := hrm.dig bel (Nat.le_refl _) (show j < L by omega)
        have hst := valFrom_step _ _ _ hp
        have hvl2 := valFrom_le (digs a.natAbs) j
        rw [val_digs] at hvl2
        refine Cd.skip ?_
        refine Post.then_ ?_
        refine Cd.seq ?_
        refine Cd.block ?_
        refine Cd.region ?_
        refine Seq.val (Runs.move rfl rfl) rfl rfl rfl ?_
        refine Seq.val (Runs.mulU rfl rfl rfl (by omega) (by omega)) rfl rfl rfl ?_
        refine Seq.val (Runs.fieldB 1 rfl rfl Try.underlying133 rfl (by kernel_rfl)) rfl rfl rfl ?_
        refine Seq.val (Runs.loadB rfl rfl Try.underlying131 rfl k1 rfl) rfl rfl rfl ?_
        refine Seq.val (Runs.move rfl rfl) rfl rfl rfl ?_
        refine Seq.val (Runs.index1 rfl rfl rfl Try.underlying131 (by kernel_rfl) (j := j) (by omega) (by omega)) rfl rfl rfl ?_
        refine Seq.val (Runs.load1 rfl rfl Try.underlying124 rfl hcp) rfl rfl rfl ?_
        refine Seq.val (Runs.addW rfl rfl rfl (r := ((valFrom (digs a.natAbs) j : Nat) : Int)) (by rw [hst]; exact (wrapU (by omega) (by omega)).trans (by omega))) rfl rfl rfl ?_
        refine Seq.val (Runs.assign rfl rfl) rfl rfl rfl ?_
        refine Seq.nil ?_
        refine Post.weak (F' := [(1, _), (2, _), (3, _), (4, _), (5, _), (21, _)]) ⟨rfl, rfl, rfl, rfl, rfl, rfl, trivial⟩ ?_
        refine Post.block_normal ?_
        refine Post.then_ ?_
        refine Cd.region ?_
        refine Seq.val (Runs.move rfl rfl) rfl rfl rfl ?_
        refine Seq.val (Runs.subI rfl rfl rfl (by omega) (by omega)) rfl rfl rfl ?_
        refine Seq.val (Runs.assign rfl rfl) rfl rfl rfl ?_
        refine Seq.nil ?_
        refine Post.weak (F' := [(1, _), (2, _), (3, _), (4, _), (5, _), (21, _)]) ⟨rfl, rfl, rfl, rfl, rfl, rfl, trivial⟩ ?_
        refine Post.round j ⟨rfl, rfl, rfl, rfl, ?_, trivial⟩ ⟨by omega, bel, k1⟩ (Nat.lt_succ_self _)
        show some (Value.int .i64 (((j + 1 : Nat) : Int) - 1 - 1)) = _
        rw [show ((j + 1 : Nat) : Int) - 1 - 1 = (j : Int) - 1 from by omega]
      · obtain rfl : k = 0 := by omega
        have hv0 : valFrom (digs a.natAbs) 0 = a.natAbs := val_digs _
        rw [hv0]
        refine Cd.exit ?_
        refine Post.then_exit ?_
        refine Post.round_exit ?_
        refine Post.block_exit ?_
        refine Post.then_ ?_
        refine Cd.seq ?_
        refine Cd.seq ?_
        refine Cd.region ?_
        refine Seq.val (Runs.fieldB 0 rfl rfl Try.underlying133 rfl (by kernel_rfl)) rfl rfl rfl ?_
        refine Seq.val (Runs.loadB rfl rfl Try.underlying4 rfl k1 rfl) rfl rfl rfl ?_
        refine Seq.nil ?_
        refine Post.weak (F' := [(1, _), (2, _), (3, _), (4, _), (5, _), (21, _), (33, _)]) ⟨rfl, rfl, rfl, rfl, rfl, rfl, rfl, trivial⟩ ?_
        refine Post.then_ ?_
        refine Cd.condD rfl (fun hc => ?_) (fun hc => ?_)
        · skip
          refine Cd.region ?_
          refine Seq.val (Runs.move rfl rfl) rfl rfl rfl ?_
          refine Seq.val (Runs.neg rfl rfl (r := ((a % 18446744073709551616 : Int))) (by rw [wrap_u64]; omega)) rfl rfl rfl ?_
          refine Seq.val (Runs.assign rfl rfl) rfl rfl rfl ?_
          refine Seq.nil ?_
          refine Post.weak (F' := [(1, _), (2, _), (3, _), (4, _), (5, _), (21, _), (33, _)]) ⟨rfl, rfl, rfl, rfl, rfl, rfl, rfl, trivial⟩ ?_
          refine Post.then_ ?_
          refine Cd.seq ?_
          refine Cd.region ?_
          refine Seq.val (Runs.move rfl rfl) rfl rfl rfl ?_
          refine Seq.val (Runs.convI rfl rfl Try.underlying124 Try.underlying2 (k' := .i64) (r := a) (by rw [IntKind.wrap_i64]; omega)) rfl rfl rfl ?_
          refine Seq.val (Runs.assign rfl rfl) rfl rfl rfl ?_
          refine Seq.val (Runs.assign rfl rfl) rfl rfl rfl ?_
          refine Seq.nil ?_
          refine Post.weak (F' := [(1, _), (2, _), (3, _), (4, _), (5, _), (21, _), (33, _)]) ⟨rfl, rfl, rfl, rfl, rfl, rfl, rfl, trivial⟩ ?_
          refine Post.then_ ?_
          refine Cd.ret ?_
          refine Post.end2 rfl rfl rfl (.inl rfl) ?_
          exact ⟨rfl, bel⟩
        · skip
          refine Cd.skip ?_
          refine Post.then_ ?_
          refine Cd.seq ?_
          refine Cd.region ?_
          refine Seq.val (Runs.move rfl rfl) rfl rfl rfl ?_
          refine Seq.val (Runs.convI rfl rfl Try.underlying124 Try.underlying2 (k' := .i64) (r := a) (by rw [IntKind.wrap_i64]; omega)) rfl rfl rfl ?_
          refine Seq.val (Runs.assign rfl rfl) rfl rfl rfl ?_
          refine Seq.val (Runs.assign rfl rfl) rfl rfl rfl ?_
          refine Seq.nil ?_
          refine Post.weak (F' := [(1, _), (2, _), (3, _), (4, _), (5, _), (21, _), (33, _)]) ⟨rfl, rfl, rfl, rfl, rfl, rfl, rfl, trivial⟩ ?_
          refine Post.then_ ?_
          refine Cd.ret ?_
          refine Post.end2 rfl rfl rfl (.inl rfl) ?_
          exact ⟨rfl, bel⟩
end Go.Proofs.Ytijaldpmpjapiaa
namespace Go.Proofs.Ytijaldpmpjapiaa
open Go.RowKit

theorem small_big' (x : Value) (a : Int) (w : World) (hx : BigR w x a) (ha : a.natAbs < big) :
    Calls Try.prog 99 #[x] w fun e w' => e = .returned (.tuple #[.int .i64 (smallOf a), .bool (fits a)]) ∧ Grow w w' := small_any x a w hx ha
theorem run_build_Big0 (w : World) : (Instr.build 133 #[]).run Try.prog w = .ok (.agg #[.bool false, .slice none 0 0]) w := by
  have hu := Try.underlying133
  go_simp
theorem digs_0 : digs 0 = [] := by unfold digs; rfl
theorem MagR.zero (w : World) : MagR w (.slice none 0 0) 0 := ⟨none, 0, by rw [digs_0]; rfl, by rw [digs_0]; simp, by omega, by rw [digs_0]; exact Reads.none_⟩
theorem Reads.otherU {w w' : World} {B n g : Nat} {A : Option Addr} {l : List Nat} {cs : Array Value} {t : TypeId} {fr : Nat × Nat} (h : Reads w B 1 A n (U l)) (hg : w.heap[g]? = some (.cells cs t fr)) (hcs : ∀ (z : Int), Value.int .u64 z ∉ cs.toList)
    (hgr : w.grownBy w' (some g)) : Reads w' B 1 A n (U l) := by
  refine ⟨h.1, fun hn => ?_⟩
  obtain ⟨ad, hA, hb, hc⟩ := h.2 hn
  refine ⟨ad, hA, hb, fun j u hu => ?_⟩
  have h1 := hc j u hu
  have hne : (ad.add j).block ≠ g := by
    intro he
    rw [get_U] at hu
    cases hl : l[j]? with
    | none => rw [hl] at hu; cases hu
    | some d =>
      rw [hl] at hu
      injection hu with hu
      subst hu
      unfold World.cell? at h1
      rw [he, hg] at h1
      simp only at h1
      split at h1
      · cases h1
      · exact hcs _ (Array.mem_toList_iff.2 (Array.mem_of_getElem? h1))
  have hlt : (ad.add j).block < w.heap.size := by
    unfold World.cell? at h1
    rcases Nat.lt_or_ge (ad.add j).block w.heap.size with h2 | h2
    · exact h2
    · rw [Array.getElem?_eq_none h2] at h1; cases h1
  rw [← h1]
  unfold World.cell?
  rw [hgr.block _ hlt (by intro e; injection e with e; exact hne e)]
structure MagU (w : World) (m : Value) (n : Nat) : Prop where
  mag : MagR w m n
theorem MagU.step {w w' : World} {m : Value} {n : Nat} (h : MagU w m n) (hb : Below w.heap.size w w') : MagU w' m n := ⟨h.mag.step hb⟩
theorem MagU.put {w w' : World} {m : Value} {n g B : Nat} {T : TypeId} {cur cs : Array Value} (h : MagU w m n) (k : Blk w g T cur) (p : Put w w' g T cs) (_e : B ≤ g) (hcs : ∀ (z : Int), Value.int .u64 z ∉ cur.toList := by simp [Value.cells, *]) : MagU w' m n := by
  obtain ⟨A, c, e, h1, h2, h3⟩ := h.mag
  exact ⟨A, c, e, h1, h2, (h3.otherU k hcs p.grown).more p.grown.size⟩
theorem MagU.big {w : World} {m : Value} {r : Nat} (h : MagU w m r) : BigR w (.agg [Value.bool false, m].toArray) (r : Int) := ⟨m, by rw [decide_eq_false (show ¬ (r : Int) < 0 by omega)], by rw [Int.natAbs_natCast]; exact h.mag⟩
end Go.Proofs.Ytijaldpmpjapiaa
namespace Go.Proofs.Ytijaldpmpjapiaa
open Go.RowKit

/-- The bytes of the first k rounds, the last first. -/
def prR (u d k : Nat) : List Nat := (prB u d k).reverse
theorem refPrint_any (n : Int) (d : Nat) (w : World) (hn : I64 n) (hd : d ≤ 9) :
    Calls Try.prog 46 #[.int .i64 n, .int .i64 (d : Int)] w fun e w' => (∃ N, Rounds n.natAbs d N ∧ N ≤ 20 ∧ e = .returned (.string (strOf (printed n d N)))) ∧ Grow w w' := by
  have bel := Below.refl w.heap.size w
  have hu : n.natAbs ≤ 9223372036854775808 := by have := hn.1; have := hn.2; omega
  have hn1 := hn.1
  have hn2 := hn.2
  refine Calls.start 47 Try.func46 rfl rfl rfl ?_
  refine Cd.seq ?_
  refine Cd.region ?_
  refine Seq.val (Runs.assign rfl rfl) rfl rfl rfl ?_
  refine Seq.nil ?_
  refine Post.weak (F' := [(0, _), (1, _), (4, _)]) ⟨rfl, rfl, rfl, trivial⟩ ?_
  refine Post.then_ ?_
  refine Cd.seq ?_
  refine Cd.region ?_
  refine Seq.val (Runs.move rfl rfl) rfl rfl rfl ?_
  refine Seq.val (Runs.convI rfl rfl Try.underlying2 Try.underlying124 rfl) rfl rfl rfl ?_
  refine Seq.val (Runs.assign rfl rfl) rfl rfl rfl ?_
  refine Seq.nil ?_
  refine Post.weak (F' := [(0, _), (1, _), (4, _), (5, _)]) ⟨rfl, rfl, rfl, rfl, trivial⟩ ?_
  refine Post.then_ ?_
  refine Cd.seqJ (σ := Unit) (fun _ => [(0, .int .i64 n), (1, .int .i64 (d : Int)), (5, .int .u64 (n.natAbs : Int))]) (fun _ wr => Below w.heap.size w wr) ?_ ?_
  · skip
    refine Cd.seq ?_
    refine Cd.region ?_
    refine Seq.val (Runs.move rfl rfl) rfl rfl rfl ?_
    refine Seq.val (Runs.lss rfl rfl rfl) rfl rfl rfl ?_
    refine Seq.nil ?_
    refine Post.weak (F' := [(0, _), (1, _), (4, _), (5, _), (11, _)]) ⟨rfl, rfl, rfl, rfl, rfl, trivial⟩ ?_
    refine Post.then_ ?_
    refine Cd.condD rfl (fun hc => ?_) (fun hc => ?_)
    · skip
      refine Cd.region ?_
      refine Seq.val (Runs.move rfl rfl) rfl rfl rfl ?_
      refine Seq.val (Runs.neg rfl rfl (r := (n.natAbs : Int)) (by rw [wrap_u64, wrap_u64]; omega)) rfl rfl rfl ?_
      refine Seq.val (Runs.assign rfl rfl) rfl rfl rfl ?_
      refine Seq.nil ?_
      refine Post.weak (F' := [(0, _), (1, _), (4, _), (5, _), (11, _)]) ⟨rfl, rfl, rfl, rfl, rfl, trivial⟩ ?_
      exact Post.join () ⟨rfl, rfl, rfl, trivial⟩ bel
    · skip
      refine Cd.skip ?_
      refine Post.join () ⟨rfl, rfl, ?_, trivial⟩ bel
      refine congrArg (fun z => some (Value.int .u64 z)) ?_
      rw [wrap_u64]; omega
  clear bel
  rintro ⟨⟩ wr bel
  refine Cd.seq ?_
  refine Cd.region ?_
  refine Seq.val (Runs.assign rfl rfl) rfl rfl rfl ?_
  refine Seq.nil ?_
  refine Post.weak (F' := [(0, _), (1, _), (5, _), (6, _)]) ⟨rfl, rfl, rfl, rfl, trivial⟩ ?_
  refine Post.then_ ?_
  refine Cd.seq ?_
  refine Cd.seq ?_
  refine Cd.region ?_
  refine Seq.val (Runs.assign rfl rfl) rfl rfl rfl ?_
  refine Seq.nil ?_
  refine Post.weak (F' := [(0, _), (1, _), (5, _), (6, _), (7, _)]) ⟨rfl, rfl, rfl, rfl, rfl, trivial⟩ ?_
  refine Post.then_ ?_
  refine Cd.block ?_
  generalize hun : n.natAbs = u at *
  refine Cd.loop (σ := Nat) (fun k => [(0, .int .i64 n), (1, .int .i64 (d : Int)), (5, .int .u64 ((u / 10 ^ k : Nat) : Int)), (6, .string (strOf (prR u d k))), (7, .int .i64 (k : Int))])
    (fun k wr => k ≤ 20 ∧ Below w.heap.size w wr ∧ ∀ j, j < k → 0 < u / 10 ^ j ∨ j ≤ d) (fun k => 20 - k) 0 ⟨by omega, bel, fun j hj => absurd hj (by simp)⟩ ⟨rfl, rfl, congrArg (fun x : Nat => some (Value.int .u64 (x : Int))) (show u = u / 10 ^ 0 by simp), rfl, rfl, trivial⟩ ?_
  clear bel
  rintro k wr ⟨hk, bel, hgo⟩
  refine Cd.seq ?_
  refine Cd.seq ?_
  refine Cd.region ?_
  refine Seq.val (Runs.move rfl rfl) rfl rfl rfl ?_
  refine Seq.val (Runs.move rfl rfl) rfl rfl rfl ?_
  refine Seq.val (Runs.leq rfl rfl rfl) rfl rfl rfl ?_
  refine Seq.val (Runs.move rfl rfl) rfl rfl rfl ?_
  refine SeqC.start ?_
  refine SeqC.open rfl rfl rfl rfl rfl rfl rfl (fun hcx => Runs.move rfl rfl) ?_
  refine SeqC.next rfl rfl rfl rfl rfl rfl rfl (fun hcx => Runs.gtr rfl rfl rfl) ?_
  refine SeqC.or rfl rfl rfl rfl rfl rfl rfl ?_
  refine Seq.nil ?_
  refine Post.weak (F' := [(0, _), (1, _), (5, _), (6, _), (7, _), (20, _)]) ⟨rfl, rfl, rfl, rfl, rfl, rfl, trivial⟩ ?_
  refine Post.then_ ?_
  have hlen := prB_len u d k
  have hdk : u / 10 ^ k ≤ u := Nat.div_le_self _ _
  have hdt := div_ten u k
  have hpr : prB u d (k + 1) = prB u d k ++ (if k = d ∧ 0 < d then [46] else []) ++ [48 + u / 10 ^ k % 10] := rfl
  generalize hq : u / 10 ^ k = q at *
  refine Cd.cond rfl (fun hc => ?_) (fun hc => ?_)
  · have hgo1 : 0 < q ∨ k ≤ d := by simp at hc; omega
    have hk20 : k < 20 := by
      rcases Nat.lt_or_ge k 20 with h | h
      · exact h
      · obtain rfl : k = 20 := by omega
        have : u / 10 ^ 20 = 0 := Nat.div_eq_of_lt (by omega)
        omega
    have hgo2 : ∀ j, j < k + 1 → 0 < u / 10 ^ j ∨ j ≤ d := fun j hj => by
      rcases Nat.lt_or_ge j k with h | h
      · exact hgo j h
      · obtain rfl : j = k := by omega
        rw [hq]; exact hgo1
    refine Cd.skip ?_
    refine Post.then_ ?_
    refine Cd.seq ?_
    refine Cd.block ?_
    refine Cd.seqJ (σ := Unit) (fun _ => [(0, .int .i64 n), (1, .int .i64 (d : Int)), (5, .int .u64 (q : Int)), (6, .string (strOf ((prB u d k ++ if k = d ∧ 0 < d then [46] else []).reverse))), (7, .int .i64 (k : Int))]) (fun _ wr => Below w.heap.size w wr) ?_ ?_
    · skip
      refine Cd.seq ?_
      refine Cd.region ?_
      refine Seq.val (Runs.move rfl rfl) rfl rfl rfl ?_
      refine Seq.val (Runs.move rfl rfl) rfl rfl rfl ?_
      refine Seq.val (Runs.eqlI rfl rfl rfl) rfl rfl rfl ?_
      refine Seq.val (Runs.move rfl rfl) rfl rfl rfl ?_
      refine SeqC.start ?_
      refine SeqC.open rfl rfl rfl rfl rfl rfl rfl (fun hcx => Runs.move rfl rfl) ?_
      refine SeqC.next rfl rfl rfl rfl rfl rfl rfl (fun hcx => Runs.gtr rfl rfl rfl) ?_
      refine SeqC.and rfl rfl rfl rfl rfl rfl rfl ?_
      refine Seq.nil ?_
      refine Post.weak (F' := [(0, _), (1, _), (5, _), (6, _), (7, _), (20, _), (29, _)]) ⟨rfl, rfl, rfl, rfl, rfl, rfl, rfl, trivial⟩ ?_
      refine Post.then_ ?_
      refine Cd.cond rfl (fun hp => ?_) (fun hp => ?_)
      · rw [if_pos (by simp at hp; omega)]
        have hl1 : [46].length + (prR u d k).length ≤ 9223372036854775807 := by unfold prR; rw [List.length_reverse]; simp; omega
        refine Cd.region ?_
        refine Seq.val (Runs.move rfl rfl) rfl rfl rfl ?_
        refine Seq.val (Runs.addL (a := [46]) (b := prR u d k) rfl rfl rfl hl1) rfl rfl rfl ?_
        refine Seq.val (Runs.assign rfl rfl) rfl rfl rfl ?_
        refine Seq.nil ?_
        refine Post.weak (F' := [(0, _), (1, _), (5, _), (6, _), (7, _), (20, _), (29, _)]) ⟨rfl, rfl, rfl, rfl, rfl, rfl, rfl, trivial⟩ ?_
        exact Post.join () ⟨rfl, rfl, rfl, by rw [List.reverse_append]; rfl, rfl, trivial⟩ bel
      · rw [if_neg (by simp at hp; omega)]
        refine Cd.skip ?_
        exact Post.join () ⟨rfl, rfl, rfl, by rw [List.append_nil]; rfl, rfl, trivial⟩ bel
    clear bel hc
    rintro ⟨⟩ wr bel
    have hl2 : (prB u d k ++ if k = d ∧ 0 < d then [46] else []).length ≤ 2 * k + 1 := by rw [List.length_append]; split <;> simp <;> omega
    generalize prB u d k ++ (if k = d ∧ 0 < d then [46] else []) = pre at *
    have hl3 : [48 + q % 10].length + pre.reverse.length ≤ 9223372036854775807 := by rw [List.length_reverse]; simp; omega
    have hpr2 : prR u d (k + 1) = [48 + q % 10] ++ pre.reverse := by unfold prR; rw [hpr, List.reverse_append]; rfl
    refine Cd.seq ?_
    refine Cd.region ?_
    refine Seq.val (Runs.move rfl rfl) rfl rfl rfl ?_
    refine Seq.val (Runs.remL 10 rfl rfl rfl rfl (by omega)) rfl rfl rfl ?_
    refine Seq.val (Runs.addU rfl rfl rfl (by omega) (by omega)) rfl rfl rfl ?_
    refine Seq.val (Runs.convI rfl rfl Try.underlying124 Try.underlying5 (wrapB (by omega) (by omega))) rfl rfl rfl ?_
    refine Seq.slice (vs := [_]) (s := 1) rfl rfl rfl Try.underlying108 (by kernel_rfl) (zero_uint8) (by omega) (by omega) ⟨rfl, trivial⟩ rfl rfl rfl ?_
    intro g36 w1 n36
    have e36 := Nat.le_trans bel.size n36.ge
    replace bel := bel.step n36.below
    have k36 := n36.blk
    have hrd := Reads.blk (size := 1) k36 1 rfl
    refine Seq.val (Runs.convBS (l := [48 + q % 10]) rfl rfl Try.underlying108 Try.underlying5 Try.underlying9 hrd (fun x hx => by simp at hx; omega)) rfl rfl rfl ?_
    refine Seq.val (Runs.move rfl rfl) rfl rfl rfl ?_
    refine Seq.val (Runs.addL (a := [48 + q % 10]) (b := pre.reverse) rfl rfl rfl hl3) rfl rfl rfl ?_
    refine Seq.val (Runs.assign rfl rfl) rfl rfl rfl ?_
    refine Seq.nil ?_
    refine Post.weak (F' := [(0, _), (1, _), (5, _), (6, _), (7, _)]) ⟨rfl, rfl, rfl, rfl, rfl, trivial⟩ ?_
    refine Post.then_ ?_
    refine Cd.region ?_
    refine Seq.val (Runs.move rfl rfl) rfl rfl rfl ?_
    refine Seq.val (Runs.quoLU 10 rfl rfl rfl rfl (by omega) (by omega)) rfl rfl rfl ?_
    refine Seq.val (Runs.assign rfl rfl) rfl rfl rfl ?_
    refine Seq.nil ?_
    refine Post.weak (F' := [(0, _), (1, _), (5, _), (6, _), (7, _)]) ⟨rfl, rfl, rfl, rfl, rfl, trivial⟩ ?_
    refine Post.block_normal ?_
    refine Post.then_ ?_
    refine Cd.region ?_
    refine Seq.val (Runs.move rfl rfl) rfl rfl rfl ?_
    refine Seq.val (Runs.addI rfl rfl rfl (by omega) (by omega)) rfl rfl rfl ?_
    refine Seq.val (Runs.assign rfl rfl) rfl rfl rfl ?_
    refine Seq.nil ?_
    refine Post.weak (F' := [(0, _), (1, _), (5, _), (6, _), (7, _)]) ⟨rfl, rfl, rfl, rfl, rfl, trivial⟩ ?_
    refine Post.round (k + 1) ⟨rfl, rfl, congrArg (fun x : Nat => some (Value.int .u64 (x : Int))) hdt, ?_, rfl, trivial⟩ ⟨by omega, bel, hgo2⟩ (by omega)
    rw [hpr2]; rfl
  · have hstop : Rounds u d k := ⟨hgo, by rw [hq]; simp at hc; omega⟩
    have hl1 : [45].length + (prR u d k).length ≤ 9223372036854775807 := by unfold prR; rw [List.length_reverse]; simp; omega
    refine Cd.exit ?_
    refine Post.then_exit ?_
    refine Post.round_exit ?_
    refine Post.block_exit ?_
    refine Post.then_ ?_
    refine Cd.seq ?_
    refine Cd.seq ?_
    refine Cd.region ?_
    refine Seq.val (Runs.move rfl rfl) rfl rfl rfl ?_
    refine Seq.val (Runs.lss rfl rfl rfl) rfl rfl rfl ?_
    refine Seq.nil ?_
    refine Post.weak (F' := [(0, _), (1, _), (5, _), (6, _), (7, _), (20, _), (43, _)]) ⟨rfl, rfl, rfl, rfl, rfl, rfl, rfl, trivial⟩ ?_
    refine Post.then_ ?_
    refine Cd.condD rfl (fun hp => ?_) (fun hp => ?_)
    · have hprd : printed n d k = [45] ++ prR u d k := by unfold printed prR; rw [hun, if_pos hp, List.reverse_append]; rfl
      refine Cd.seq ?_
      refine Cd.region ?_
      refine Seq.val (Runs.move rfl rfl) rfl rfl rfl ?_
      refine Seq.val (Runs.addL (a := [45]) (b := prR u d k) rfl rfl rfl hl1) rfl rfl rfl ?_
      refine Seq.val (Runs.assign rfl rfl) rfl rfl rfl ?_
      refine Seq.nil ?_
      refine Post.weak (F' := [(0, _), (1, _), (4, _), (5, _), (6, _), (7, _), (20, _), (43, _)]) ⟨rfl, rfl, rfl, rfl, rfl, rfl, rfl, rfl, trivial⟩ ?_
      refine Post.then_ ?_
      refine Cd.ret ?_
      refine Post.then_ret ?_
      refine Post.end1 rfl rfl (.inl rfl) ?_
      exact ⟨⟨k, hstop, by omega, by rw [hprd]⟩, bel⟩
    · have hprd : printed n d k = prR u d k := by unfold printed prR; rw [hun, if_neg hp, List.append_nil]
      refine Cd.skip ?_
      refine Post.then_ ?_
      refine Cd.seq ?_
      refine Cd.region ?_
      refine Seq.val (Runs.move rfl rfl) rfl rfl rfl ?_
      refine Seq.val (Runs.assign rfl rfl) rfl rfl rfl ?_
      refine Seq.nil ?_
      refine Post.weak (F' := [(0, _), (1, _), (4, _), (5, _), (6, _), (7, _), (20, _), (43, _)]) ⟨rfl, rfl, rfl, rfl, rfl, rfl, rfl, rfl, trivial⟩ ?_
      refine Post.then_ ?_
      refine Cd.ret ?_
      refine Post.end1 rfl rfl (.inl rfl) ?_
      exact ⟨⟨k, hstop, by omega, by rw [hprd]⟩, bel⟩
end Go.Proofs.Ytijaldpmpjapiaa

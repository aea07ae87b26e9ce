/-
  debentureref01's Print, Amount: what each answers. Condition: the texts are within reach.
-/
import Derived.Test.YtijaldpmpjapiaaTNumQ
import Derived.Test.YtijaldpmpjapiaaTBigK
namespace Go.Proofs.Ytijaldpmpjapiaa
open Go.RowKit

/-- The bytes of the first k rounds, the last first. -/
def prR (u d k : Nat) : List Nat := (prB u d k).reverse
theorem refPrint_any (n : Int) (d : Nat) (w : World) (hn : I64 n) (hd : d ≤ 9) :
    Calls Try.prog 46 #[.int .i64 n, .int .i64 (d : Int)] w fun e w' => (∃ N, Rounds n.natAbs d N ∧ N ≤ 20 ∧ e = .returned (.string (strOf (printed n d N)))) ∧ Grow w w' := by
  have bel := Below.refl w.heap.size w
  have hu : n.natAbs ≤ 9223372036854775808 := by have := hn.1; have := hn.2; omega
  have hn1 := hn.1
  have hn2 := hn.2
  refine Calls.start 47 Try.func46 rfl rfl rfl ?_
  refine Cd.seq ?_
  refine Cd.region ?_
  refine Seq.val (Runs.assign rfl rfl) rfl rfl rfl ?_
  refine Seq.nil ?_
  refine Post.weak (F' := [(0, _), (1, _), (4, _)]) ⟨rfl, rfl, rfl, trivial⟩ ?_
  refine Post.then_ ?_
  refine Cd.seq ?_
  refine Cd.region ?_
  refine Seq.val (Runs.move rfl rfl) rfl rfl rfl ?_
  refine Seq.val (Runs.convI rfl rfl Try.underlying2 Try.underlying124 rfl) rfl rfl rfl ?_
  refine Seq.val (Runs.assign rfl rfl) rfl rfl rfl ?_
  refine Seq.nil ?_
  refine Post.weak (F' := [(0, _), (1, _), (4, _), (5, _)]) ⟨rfl, rfl, rfl, rfl, trivial⟩ ?_
  refine Post.then_ ?_
  refine Cd.seqJ (σ := Unit) (fun _ => [(0, .int .i64 n), (1, .int .i64 (d : Int)), (5, .int .u64 (n.natAbs : Int))]) (fun _ wr => Below w.heap.size w wr) ?_ ?_
  · skip
    refine Cd.seq ?_
    refine Cd.region ?_
    refine Seq.val (Runs.move rfl rfl) rfl rfl rfl ?_
    refine Seq.val (Runs.lss rfl rfl rfl) rfl rfl rfl ?_
    refine Seq.nil ?_
    refine Post.weak (F' := [(0, _), (1, _), (4, _), (5, _), (11, _)]) ⟨rfl, rfl, rfl, rfl, rfl, trivial⟩ ?_
    refine Post.then_ ?_
    refine Cd.condD rfl (fun hc => ?_) (fun hc => ?_)
    · skip
      refine Cd.region ?_
      refine Seq.val (Runs.move rfl rfl) rfl rfl rfl ?_
      refine Seq.val (Runs.neg rfl rfl (r := (n.natAbs : Int)) (by rw [wrap_u64, wrap_u64]; omega)) rfl rfl rfl ?_
      refine Seq.val (Runs.assign rfl rfl) rfl rfl rfl ?_
      refine Seq.nil ?_
      refine Post.weak (F' := [(0, _), (1, _), (4, _), (5, _), (11, _)]) ⟨rfl, rfl, rfl, rfl, rfl, trivial⟩ ?_
      exact Post.join () ⟨rfl, rfl, rfl, trivial⟩ bel
    · skip
      refine Cd.skip ?_
      refine Post.join () ⟨rfl, rfl, ?_, trivial⟩ bel
      refine congrArg (fun z => some (Value.int .u64 z)) ?_
      rw [wrap_u64]; omega
  clear bel
  rintro ⟨⟩ wr bel
  refine Cd.seq ?_
  refine Cd.region ?_
  refine Seq.val (Runs.assign rfl rfl) rfl rfl rfl ?_
  refine Seq.nil ?_
  refine Post.weak (F' := [(0, _), (1, _), (5, _), (6, _)]) ⟨rfl, rfl, rfl, rfl, trivial⟩ ?_
  refine Post.then_ ?_
  refine Cd.seq ?_
  refine Cd.seq ?_
  refine Cd.region ?_
  refine Seq.val (Runs.assign rfl rfl) rfl rfl rfl ?_
  refine Seq.nil ?_
  refine Post.weak (F' := [(0, _), (1, _), (5, _), (6, _), (7, _)]) ⟨rfl, rfl, rfl, rfl, rfl, trivial⟩ ?_
  refine Post.then_ ?_
  refine Cd.block ?_
  generalize hun : n.natAbs = u at *
  refine Cd.loop (σ := Nat) (fun k => [(0, .int .i64 n), (1, .int .i64 (d : Int)), (5, .int .u64 ((u / 10 ^ k : Nat) : Int)), (6, .string (strOf (prR u d k))), (7, .int .i64 (k : Int))])
    (fun k wr => k ≤ 20 ∧ Below w.heap.size w wr ∧ ∀ j, j < k → 0 < u / 10 ^ j ∨ j ≤ d) (fun k => 20 - k) 0 ⟨by omega, bel, fun j hj => absurd hj (by simp)⟩ ⟨rfl, rfl, congrArg (fun x : Nat => some (Value.int .u64 (x : Int))) (show u = u / 10 ^ 0 by simp), rfl, rfl, trivial⟩ ?_
  clear bel
  rintro k wr ⟨hk, bel, hgo⟩
  refine Cd.seq ?_
  refine Cd.seq ?_
  refine Cd.region ?_
  refine Seq.val (Runs.move rfl rfl) rfl rfl rfl ?_
  refine Seq.val (Runs.move rfl rfl) rfl rfl rfl ?_
  refine Seq.val (Runs.leq rfl rfl rfl) rfl rfl rfl ?_
  refine Seq.val (Runs.move rfl rfl) rfl rfl rfl ?_
  refine SeqC.start ?_
  refine SeqC.open rfl rfl rfl rfl rfl rfl rfl (fun hcx => Runs.move rfl rfl) ?_
  refine SeqC.next rfl rfl rfl rfl rfl rfl rfl (fun hcx => Runs.gtr rfl rfl rfl) ?_
  refine SeqC.or rfl rfl rfl rfl rfl rfl rfl ?_
  refine Seq.nil ?_
  refine Post.weak (F' := [(0, _), (1, _), (5, _), (6, _), (7, _), (20, _)]) ⟨rfl, rfl, rfl, rfl, rfl, rfl, trivial⟩ ?_
  refine Post.then_ ?_
  have hlen := prB_len u d k
  have hdk : u / 10 ^ k ≤ u := Nat.div_le_self _ _
  have hdt := div_ten u k
  have hpr : prB u d (k + 1) = prB u d k ++ (if k = d ∧ 0 < d then [46] else []) ++ [48 + u / 10 ^ k % 10] := rfl
  generalize hq : u / 10 ^ k = q at *
  refine Cd.cond rfl (fun hc => ?_) (fun hc => ?_)
  · have hgo1 : 0 < q ∨ k ≤ d := by simp at hc; omega
    have hk20 : k < 20 := by
      rcases Nat.lt_or_ge k 20 with h | h
      · exact h
      · obtain rfl : k = 20 := by omega
        have : u / 10 ^ 20 = 0 := Nat.div_eq_of_lt (by omega)
        omega
    have hgo2 : ∀ j, j < k + 1 → 0 < u / 10 ^ j ∨ j ≤ d := fun j hj => by
      rcases Nat.lt_or_ge j k with h | h
      · exact hgo j h
      · obtain rfl : j = k := by omega
        rw [hq]; exact hgo1
    refine Cd.skip ?_
    refine Post.then_ ?_
    refine Cd.seq ?_
    refine Cd.block ?_
    refine Cd.seqJ (σ := Unit) (fun _ => [(0, .int .i64 n), (1, .int .i64 (d : Int)), (5, .int .u64 (q : Int)), (6, .string (strOf ((prB u d k ++ if k = d ∧ 0 < d then [46] else []).reverse))), (7, .int .i64 (k : Int))]) (fun _ wr => Below w.heap.size w wr) ?_ ?_
    · skip
      refine Cd.seq ?_
      refine Cd.region ?_
      refine Seq.val (Runs.move rfl rfl) rfl rfl rfl ?_
      refine Seq.val (Runs.move rfl rfl) rfl rfl rfl ?_
      refine Seq.val (Runs.eqlI rfl rfl rfl) rfl rfl rfl ?_
      refine Seq.val (Runs.move rfl rfl) rfl rfl rfl ?_
      refine SeqC.start ?_
      refine SeqC.open rfl rfl rfl rfl rfl rfl rfl (fun hcx => Runs.move rfl rfl) ?_
      refine SeqC.next rfl rfl rfl rfl rfl rfl rfl (fun hcx => Runs.gtr rfl rfl rfl) ?_
      refine SeqC.and rfl rfl rfl rfl rfl rfl rfl ?_
      refine Seq.nil ?_
      refine Post.weak (F' := [(0, _), (1, _), (5, _), (6, _), (7, _), (20, _), (29, _)]) ⟨rfl, rfl, rfl, rfl, rfl, rfl, rfl, trivial⟩ ?_
      refine Post.then_ ?_
      refine Cd.cond rfl (fun hp => ?_) (fun hp => ?_)
      · rw [if_pos (by simp at hp; omega)]
        have hl1 : [46].length + (prR u d k).length ≤ 9223372036854775807 := by unfold prR; rw [List.length_reverse]; simp; omega
        refine Cd.region ?_
        refine Seq.val (Runs.move rfl rfl) rfl rfl rfl ?_
        refine Seq.val (Runs.addL (a := [46]) (b := prR u d k) rfl rfl rfl hl1) rfl rfl rfl ?_
        refine Seq.val (Runs.assign rfl rfl) rfl rfl rfl ?_
        refine Seq.nil ?_
        refine Post.weak (F' := [(0, _), (1, _), (5, _), (6, _), (7, _), (20, _), (29, _)]) ⟨rfl, rfl, rfl, rfl, rfl, rfl, rfl, trivial⟩ ?_
        exact Post.join () ⟨rfl, rfl, rfl, by rw [List.reverse_append]; rfl, rfl, trivial⟩ bel
      · rw [if_neg (by simp at hp; omega)]
        refine Cd.skip ?_
        exact Post.join () ⟨rfl, rfl, rfl, by rw [List.append_nil]; rfl, rfl, trivial⟩ bel
    clear bel hc
    rintro ⟨⟩ wr bel
    have hl2 : (prB u d k ++ if k = d ∧ 0 < d then [46] else []).length ≤ 2 * k + 1 := by rw [List.length_append]; split <;> simp <;> omega
    generalize prB u d k ++ (if k = d ∧ 0 < d then [46] else []) = pre at *
    have hl3 : [48 + q % 10].length + pre.reverse.length ≤ 9223372036854775807 := by rw [List.length_reverse]; simp; omega
    have hpr2 : prR u d (k + 1) = [48 + q % 10] ++ pre.reverse := by unfold prR; rw [hpr, List.reverse_append]; rfl
    refine Cd.seq ?_
    refine Cd.region ?_
    refine Seq.val (Runs.move rfl rfl) rfl rfl rfl ?_
    refine Seq.val (Runs.remL 10 rfl rfl rfl rfl (by omega)) rfl rfl rfl ?_
    refine Seq.val (Runs.addU rfl rfl rfl (by omega) (by omega)) rfl rfl rfl ?_
    refine Seq.val (Runs.convI rfl rfl Try.underlying124 Try.underlying5 (wrapB (by omega) (by omega))) rfl rfl rfl ?_
    refine Seq.slice (vs := [_]) (s := 1) rfl rfl rfl Try.underlying108 (by kernel_rfl) (zero_uint8) (by omega) (by omega) ⟨rfl, trivial⟩ rfl rfl rfl ?_
    intro g36 w1 n36
    have e36 := Nat.le_trans bel.size n36.ge
    replace bel := bel.step n36.below
    have k36 := n36.blk
    have hrd := Reads.blk (size := 1) k36 1 rfl
    refine Seq.val (Runs.convBS (l := [48 + q % 10]) rfl rfl Try.underlying108 Try.underlying5 Try.underlying9 hrd (fun x hx => by simp at hx; omega)) rfl rfl rfl ?_
    refine Seq.val (Runs.move rfl rfl) rfl rfl rfl ?_
    refine Seq.val (Runs.addL (a := [48 + q % 10]) (b := pre.reverse) rfl rfl rfl hl3) rfl rfl rfl ?_
    refine Seq.val (Runs.assign rfl rfl) rfl rfl rfl ?_
    refine Seq.nil ?_
    refine Post.weak (F' := [(0, _), (1, _), (5, _), (6, _), (7, _)]) ⟨rfl, rfl, rfl, rfl, rfl, trivial⟩ ?_
    refine Post.then_ ?_
    refine Cd.region ?_
    refine Seq.val (Runs.move rfl rfl) rfl rfl rfl ?_
    refine Seq.val (Runs.quoLU 10 rfl rfl rfl rfl (by omega) (by omega)) rfl rfl rfl ?_
    refine Seq.val (Runs.assign rfl rfl) rfl rfl rfl ?_
    refine Seq.nil ?_
    refine Post.weak (F' := [(0, _), (1, _), (5, _), (6, _), (7, _)]) ⟨rfl, rfl, rfl, rfl, rfl, trivial⟩ ?_
    refine Post.block_normal ?_
    refine Post.then_ ?_
    refine Cd.region ?_
    refine Seq.val (Runs.move rfl rfl) rfl rfl rfl ?_
    refine Seq.val (Runs.addI rfl rfl rfl (by omega) (by omega)) rfl rfl rfl ?_
    refine Seq.val (Runs.assign rfl rfl) rfl rfl rfl ?_
    refine Seq.nil ?_
    refine Post.weak (F' := [(0, _), (1, _), (5, _), (6, _), (7, _)]) ⟨rfl, rfl, rfl, rfl, rfl, trivial⟩ ?_
    refine Post.round (k + 1) ⟨rfl, rfl, congrArg (fun x : Nat => some (Value.int .u64 (x : Int))) hdt, ?_, rfl, trivial⟩ ⟨by omega, bel, hgo2⟩ (by omega)
    rw [hpr2]; rfl
  · have hstop : Rounds u d k := ⟨hgo, by rw [hq]; simp at hc; omega⟩
    have hl1 : [45].length + (prR u d k).length ≤ 9223372036854775807 := by unfold prR; rw [List.length_reverse]; simp; omega
    refine Cd.exit ?_
    refine Post.then_exit ?_
    refine Post.round_exit ?_
    refine Post.block_exit ?_
    refine Post.then_ ?_
    refine Cd.seq ?_
    refine Cd.seq ?_
    refine Cd.region ?_
    refine Seq.val (Runs.move rfl rfl) rfl rfl rfl ?_
    refine Seq.val (Runs.lss rfl rfl rfl) rfl rfl rfl ?_
    refine Seq.nil ?_
    refine Post.weak (F' := [(0, _), (1, _), (5, _), (6, _), (7, _), (20, _), (43, _)]) ⟨rfl, rfl, rfl, rfl, rfl, rfl, rfl, trivial⟩ ?_
    refine Post.then_ ?_
    refine Cd.condD rfl (fun hp => ?_) (fun hp => ?_)
    · have hprd : printed n d k = [45] ++ prR u d k := by unfold printed prR; rw [hun, if_pos hp, List.reverse_append]; rfl
      refine Cd.seq ?_
      refine Cd.region ?_
      refine Seq.val (Runs.move rfl rfl) rfl rfl rfl ?_
      refine Seq.val (Runs.addL (a := [45]) (b := prR u d k) rfl rfl rfl hl1) rfl rfl rfl ?_
      refine Seq.val (Runs.assign rfl rfl) rfl rfl rfl ?_
      refine Seq.nil ?_
      refine Post.weak (F' := [(0, _), (1, _), (4, _), (5, _), (6, _), (7, _), (20, _), (43, _)]) ⟨rfl, rfl, rfl, rfl, rfl, rfl, rfl, rfl, trivial⟩ ?_
      refine Post.then_ ?_
      refine Cd.ret ?_
      refine Post.then_ret ?_
      refine Post.end1 rfl rfl (.inl rfl) ?_
      exact ⟨⟨k, hstop, by omega, by rw [hprd]⟩, bel⟩
    · have hprd : printed n d k = prR u d k := by unfold printed prR; rw [hun, if_neg hp, List.append_nil]
      refine Cd.skip ?_
      refine Post.then_ ?_
      refine Cd.seq ?_
      refine Cd.region ?_
      refine Seq.val (Runs.move rfl rfl) rfl rfl rfl ?_
      refine Seq.val (Runs.assign rfl rfl) rfl rfl rfl ?_
      refine Seq.nil ?_
      refine Post.weak (F' := [(0, _), (1, _), (4, _), (5, _), (6, _), (7, _), (20, _), (43, _)]) ⟨rfl, rfl, rfl, rfl, rfl, rfl, rfl, rfl, trivial⟩ ?_
      refine Post.then_ ?_
      refine Cd.ret ?_
      refine Post.end1 rfl rfl (.inl rfl) ?_
      exact ⟨⟨k, hstop, by omega, by rw [hprd]⟩, bel⟩
end Go.Proofs.Ytijaldpmpjapiaa

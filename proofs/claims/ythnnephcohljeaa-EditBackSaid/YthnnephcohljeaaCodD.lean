/-
  debentureref03's Groups, Signed, Text; debentureref12's size, Laid, Encode: what each answers. Condition: the lists are within reach.
-/
import Derived.Test.YthnnephcohljeaaCodC
import Derived.Test.YthnnephcohljeaaKL
namespace Go.Proofs.Ythnnephcohljeaa
open Go.RowKit

theorem grpK_fuel : ∀ k n, n < 2 * 128 ^ k → grpK k n = grpK (k + 1) n
  | 0, n, h => by
    have h1 : n < 2 := by simpa using h
    rw [grpK_small (by omega), grpK_small (by omega)]
  | k + 1, n, h => by
    by_cases hn : n < 128
    · rw [grpK_small hn, grpK_small hn]
    · rw [grpK_more hn, grpK_more hn, grpK_fuel k (n / 128) (by
        rw [Nat.pow_succ] at h
        rw [Nat.div_lt_iff_lt_mul (by omega)]
        omega)]
theorem grp_more {n : Nat} (hn : ¬ n < 128) (h : n < 18446744073709551616) : grp n = (n % 128 + 128) :: grp (n / 128) := by
  have h2 : n / 128 < 2 * 128 ^ 8 := by rw [Nat.div_lt_iff_lt_mul (by omega)]; omega
  unfold grp
  rw [grpK_more hn, grpK_fuel 8 _ h2]
theorem refGroups_any (n : Nat) : ∀ (w : World), n < 18446744073709551616 → Calls Try.prog 76 #[.int .u64 (n : Int)] w fun e w' => e = .returned (.string (strOf (grp n))) ∧ Grow w w' := by
  induction n using Nat.strongRecOn with
  | _ n ih =>
  intro w hn
  have bel := Below.refl w.heap.size w
  refine Calls.start 19 Try.func76 rfl rfl rfl ?_
  refine Cd.seq ?_
  refine Cd.region ?_
  refine Seq.val (Runs.assign rfl rfl) rfl rfl rfl ?_
  refine Seq.nil ?_
  refine Post.weak (F' := [(0, _), (2, _)]) ⟨rfl, rfl, trivial⟩ ?_
  refine Post.then_ ?_
  refine Cd.seq ?_
  refine Cd.seq ?_
  refine Cd.region ?_
  refine Seq.val (Runs.move rfl rfl) rfl rfl rfl ?_
  refine Seq.val (Runs.lss rfl rfl rfl) rfl rfl rfl ?_
  refine Seq.nil ?_
  refine Post.weak (F' := [(0, _), (2, _), (4, _)]) ⟨rfl, rfl, rfl, trivial⟩ ?_
  refine Post.then_ ?_
  refine Cd.condD rfl (fun hc => ?_) (fun hc => ?_)
  · have hgs : grp n = [n] := grpK_small (by omega)
    refine Cd.seq ?_
    refine Cd.region ?_
    refine Seq.val (Runs.move rfl rfl) rfl rfl rfl ?_
    refine Seq.val (Runs.convI rfl rfl Try.underlying98 Try.underlying5 (wrapB (by omega) (by omega))) rfl rfl rfl ?_
    refine Seq.slice (vs := [_]) (s := 1) rfl rfl rfl Try.underlying71 (by kernel_rfl) (zero_uint8) (by omega) (by omega) ⟨rfl, trivial⟩ rfl rfl rfl ?_
    intro g7 w1 n7
    have e7 := Nat.le_trans bel.size n7.ge
    replace bel := bel.step n7.below
    have k7 := n7.blk
    have hrd := Reads.blk (size := 1) k7 1 rfl
    refine Seq.val (Runs.convBS (l := [n]) rfl rfl Try.underlying71 Try.underlying5 Try.underlying9 hrd (fun x hx => by simp at hx; omega)) rfl rfl rfl ?_
    refine Seq.val (Runs.assign rfl rfl) rfl rfl rfl ?_
    refine Seq.nil ?_
    refine Post.weak (F' := [(0, _), (2, _), (4, _)]) ⟨rfl, rfl, rfl, trivial⟩ ?_
    refine Post.then_ ?_
    refine Cd.ret ?_
    refine Post.then_ret ?_
    refine Post.end1 rfl rfl (.inl rfl) ?_
    rw [hgs]
    exact ⟨rfl, bel⟩
  · have hgm := grp_more (n := n) (by omega) hn
    have hlen := grp_len (n / 128)
    have hsm : [n % 128 + 128].length + (grp (n / 128)).length ≤ 9223372036854775807 := by simp; omega
    have hq : n / 128 < n := Nat.div_lt_self (by omega) (by omega)
    have hm : n % 128 < 128 := Nat.mod_lt _ (by omega)
    have h1 : ((n : Int) % 128) = ((n % 128 : Nat) : Int) := by omega
    have h2 : ((n : Int) / 128) = ((n / 128 : Nat) : Int) := by omega
    have hrec := fun W => ih (n / 128) hq W (by omega)
    generalize n / 128 = q at *
    generalize n % 128 = m at *
    refine Cd.skip ?_
    refine Post.then_ ?_
    refine Cd.seq ?_
    refine Cd.weak (F' := [(0, _), (4, _)]) ⟨rfl, rfl, trivial⟩ ?_
    refine Cd.draw 11 (by kernel_rfl) [] (.inl rfl) rfl Grow Grow.refl (fun _ _ _ => Grow.trans) ?_
    intro w1 hw1 zw1
    replace bel := bel.step hw1
    have zbel := bel.size
    refine Dr.val Grow.refl rfl (fun w hG => Runs.move rfl rfl) rfl ?_
    refine Dr.val Grow.refl rfl (fun w hG => (Runs.remN rfl rfl rfl (by omega) (by omega)).cast (v' := .int .u64 (m : Int)) (int_eq h1)) rfl ?_
    refine Dr.val Grow.refl rfl (fun w hG => Runs.convI rfl rfl Try.underlying98 Try.underlying5 (wrapB (by omega) (by omega))) rfl ?_
    refine Dr.val Grow.refl rfl (fun w hG => Runs.addW rfl rfl rfl (wrapB (by omega) (by omega))) rfl ?_
    refine Dr.slice (vs := [_]) (s := 1) rfl rfl rfl rfl Try.underlying71 (by kernel_rfl) zero_uint8 (by omega) (by omega) ⟨rfl, trivial⟩ rfl ?_
    refine Dr.val1V (j := 4) Grow.refl rfl rfl rfl rfl (fun u w hG hu => by obtain ⟨g, rfl, hb, -⟩ := hu; exact Runs.convBS (l := [m + 128]) rfl rfl Try.underlying71 Try.underlying5 Try.underlying9 (Reads.blk (size := 1) hb 1 rfl) (fun x hx => by simp at hx; omega)) ?_
    refine Dr.val Grow.refl rfl (fun w hG => Runs.move rfl rfl) rfl ?_
    refine Dr.val Grow.refl rfl (fun w hG => (Runs.quoU rfl rfl rfl (by omega) (by omega) (by omega)).cast (v' := .int .u64 (q : Int)) (int_eq h2)) rfl ?_
    refine Dr.callV rfl (fun w => Enters.func rfl rfl rfl (run_enter Try.func76 (by kernel_rfl) rfl)) rfl (fun w hG => hrec _) ?_
    refine Dr.val Grow.refl rfl (fun w hG => Runs.addL (a := [m + 128]) (b := grp q) rfl rfl rfl hsm) rfl ?_
    refine Dr.val Grow.refl rfl (fun w hG => Runs.assign rfl rfl) rfl ?_
    refine Dr.nil ?_
    refine FinX.done (F' := [(0, _), (2, _), (4, _)]) rfl ⟨rfl, rfl, rfl, trivial⟩ ?_
    intro w2 hw2 fw2
    replace bel := bel.step hw2
    refine Seq.nil ?_
    refine Post.weak (F' := [(0, _), (2, _), (4, _)]) ⟨rfl, rfl, rfl, trivial⟩ ?_
    refine Post.then_ ?_
    refine Cd.ret ?_
    refine Post.end1 rfl rfl (.inl rfl) ?_
    rw [hgm]
    exact ⟨rfl, bel⟩
theorem refSigned_any (n : Int) (w : World) (hn : I64 n) : Calls Try.prog 38 #[.int .i64 n] w fun e w' => e = .returned (.string (strOf (grp (sgn n)))) ∧ Grow w w' := by
  have bel := Below.refl w.heap.size w
  have hs := sgn_lt hn
  have hrec := fun W => refGroups_any (sgn n) W hs
  have hsd : sgn n = if 0 ≤ n then (2 * n).toNat else (-2 * n - 1).toNat := rfl
  generalize sgn n = s at *
  unfold I64 at hn
  refine Calls.start 16 Try.func38 rfl rfl rfl ?_
  refine Cd.seq ?_
  refine Cd.region ?_
  refine Seq.val (Runs.assign rfl rfl) rfl rfl rfl ?_
  refine Seq.nil ?_
  refine Post.weak (F' := [(0, _), (2, _)]) ⟨rfl, rfl, trivial⟩ ?_
  refine Post.then_ ?_
  refine Cd.seq ?_
  refine Cd.seq ?_
  refine Cd.region ?_
  refine Seq.val (Runs.move rfl rfl) rfl rfl rfl ?_
  refine Seq.val (Runs.geq rfl rfl rfl) rfl rfl rfl ?_
  refine Seq.nil ?_
  refine Post.weak (F' := [(0, _), (2, _), (4, _)]) ⟨rfl, rfl, rfl, trivial⟩ ?_
  refine Post.then_ ?_
  refine Cd.condD rfl (fun hc => ?_) (fun hc => ?_)
  · rw [if_pos (by omega)] at hsd
    refine Cd.seq ?_
    refine Cd.region ?_
    refine Seq.val (Runs.move rfl rfl) rfl rfl rfl ?_
    refine Seq.val (Runs.convU (r := n.toNat) rfl rfl Try.underlying2 Try.underlying98 (by omega)) rfl rfl rfl ?_
    refine Seq.val ((Runs.mulU rfl rfl rfl (by omega) (by omega)).cast (v' := .int .u64 (s : Int)) (int_eq (by omega))) rfl rfl rfl ?_
    refine Seq.call (Enters.func rfl rfl rfl (run_enter Try.func76 (by kernel_rfl) rfl)) rfl rfl rfl (hrec _) ?_
    rintro e w5 ⟨rfl, hb5⟩
    refine ⟨_, rfl, ?_⟩
    replace bel := bel.step hb5
    refine Seq.val (Runs.assign rfl rfl) rfl rfl rfl ?_
    refine Seq.nil ?_
    refine Post.weak (F' := [(0, _), (2, _), (4, _)]) ⟨rfl, rfl, rfl, trivial⟩ ?_
    refine Post.then_ ?_
    refine Cd.ret ?_
    refine Post.then_ret ?_
    refine Post.end1 rfl rfl (.inl rfl) ?_
    exact ⟨rfl, bel⟩
  · rw [if_neg (by omega)] at hsd
    refine Cd.skip ?_
    refine Post.then_ ?_
    refine Cd.seq ?_
    refine Cd.region ?_
    refine Seq.val (Runs.move rfl rfl) rfl rfl rfl ?_
    refine Seq.val (Runs.addI rfl rfl rfl (by omega) (by omega)) rfl rfl rfl ?_
    refine Seq.val ((Runs.neg rfl rfl rfl).cast (v' := .int .i64 (-(n + 1))) (int_eq (by rw [IntKind.wrap_i64]; omega))) rfl rfl rfl ?_
    refine Seq.val (Runs.convU (r := (-(n + 1)).toNat) rfl rfl Try.underlying2 Try.underlying98 (by omega)) rfl rfl rfl ?_
    refine Seq.val (Runs.mulU rfl rfl rfl (by omega) (by omega)) rfl rfl rfl ?_
    refine Seq.val ((Runs.addU rfl rfl rfl (by omega) (by omega)).cast (v' := .int .u64 (s : Int)) (int_eq (by omega))) rfl rfl rfl ?_
    refine Seq.call (Enters.func rfl rfl rfl (run_enter Try.func76 (by kernel_rfl) rfl)) rfl rfl rfl (hrec _) ?_
    rintro e w5 ⟨rfl, hb5⟩
    refine ⟨_, rfl, ?_⟩
    replace bel := bel.step hb5
    refine Seq.val (Runs.assign rfl rfl) rfl rfl rfl ?_
    refine Seq.nil ?_
    refine Post.weak (F' := [(0, _), (2, _), (4, _)]) ⟨rfl, rfl, rfl, trivial⟩ ?_
    refine Post.then_ ?_
    refine Cd.ret ?_
    refine Post.end1 rfl rfl (.inl rfl) ?_
    exact ⟨rfl, bel⟩
theorem refText_any (s : List Nat) (w : World) (hl : s.length ≤ 1000000000) : Calls Try.prog 40 #[.string (strOf s)] w fun e w' => e = .returned (.string (strOf (txt s))) ∧ Grow w w' := by
  have bel := Below.refl w.heap.size w
  have hg := grp_len s.length
  refine Calls.start 9 Try.func40 rfl rfl rfl ?_
  refine Cd.seq ?_
  refine Cd.region ?_
  refine Seq.val (Runs.assign rfl rfl) rfl rfl rfl ?_
  refine Seq.nil ?_
  refine Post.weak (F' := [(0, _), (2, _)]) ⟨rfl, rfl, trivial⟩ ?_
  refine Post.then_ ?_
  refine Cd.seq ?_
  refine Cd.region ?_
  refine Seq.val (Runs.move rfl rfl) rfl rfl rfl ?_
  refine Seq.val (Runs.lenL rfl rfl Try.underlying9) rfl rfl rfl ?_
  refine Seq.val (Runs.convU (r := s.length) rfl rfl Try.underlying3 Try.underlying98 (by omega)) rfl rfl rfl ?_
  refine Seq.call (Enters.func rfl rfl rfl (run_enter Try.func76 (by kernel_rfl) rfl)) rfl rfl rfl (refGroups_any s.length _ (by omega)) ?_
  rintro e w5 ⟨rfl, hb5⟩
  refine ⟨_, rfl, ?_⟩
  replace bel := bel.step hb5
  refine Seq.val (Runs.move rfl rfl) rfl rfl rfl ?_
  refine Seq.val (Runs.addL (a := grp s.length) (b := s) rfl rfl rfl (by omega)) rfl rfl rfl ?_
  refine Seq.val (Runs.assign rfl rfl) rfl rfl rfl ?_
  refine Seq.nil ?_
  refine Post.weak (F' := [(0, _), (2, _)]) ⟨rfl, rfl, trivial⟩ ?_
  refine Post.then_ ?_
  refine Cd.ret ?_
  refine Post.end1 rfl rfl (.inl rfl) ?_
  exact ⟨rfl, bel⟩
theorem refSize_any (n : Nat) (w : World) (hn : n < 9223372036854775808) : Calls Try.prog 39 #[.int .i64 (n : Int)] w fun e w' => e = .returned (.string (strOf (grp n))) ∧ Grow w w' := by
  have bel := Below.refl w.heap.size w
  refine Calls.start 6 Try.func39 rfl rfl rfl ?_
  refine Cd.seq ?_
  refine Cd.region ?_
  refine Seq.val (Runs.assign rfl rfl) rfl rfl rfl ?_
  refine Seq.nil ?_
  refine Post.weak (F' := [(0, _), (2, _)]) ⟨rfl, rfl, trivial⟩ ?_
  refine Post.then_ ?_
  refine Cd.seq ?_
  refine Cd.region ?_
  refine Seq.val (Runs.move rfl rfl) rfl rfl rfl ?_
  refine Seq.val (Runs.convU (r := n) rfl rfl Try.underlying3 Try.underlying98 (by omega)) rfl rfl rfl ?_
  refine Seq.call (Enters.func rfl rfl rfl (run_enter Try.func76 (by kernel_rfl) rfl)) rfl rfl rfl (refGroups_any n _ (by omega)) ?_
  rintro e w5 ⟨rfl, hb5⟩
  refine ⟨_, rfl, ?_⟩
  replace bel := bel.step hb5
  refine Seq.val (Runs.assign rfl rfl) rfl rfl rfl ?_
  refine Seq.nil ?_
  refine Post.weak (F' := [(0, _), (2, _)]) ⟨rfl, rfl, trivial⟩ ?_
  refine Post.then_ ?_
  refine Cd.ret ?_
  refine Post.end1 rfl rfl (.inl rfl) ?_
  exact ⟨rfl, bel⟩
end Go.Proofs.Ythnnephcohljeaa

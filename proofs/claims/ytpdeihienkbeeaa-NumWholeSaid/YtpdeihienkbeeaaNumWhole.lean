/-
  NumWhole: the parts are together the total; a greater weight has no smaller part; a weight of nought has nothing: the statement returns true. No condition.
-/
import Derived.Test.YtpdeihienkbeeaaNumI
import Derived.Test.YtpdeihienkbeeaaShareB
import Derived.Test.YtpdeihienkbeeaaOpenI
namespace Go.Proofs.Ytpdeihienkbeeaa
open Go.ChangeShapes Go.WideShapes Go.ChangeAt Go.RowKit

theorem walk_whole (t : Int) (A : Option Addr) (n cap : Nat) (l : List Int) (w : World) (ht : I64 t) (hr : Reads w w.heap.size 1 A n (I l)) (hl : ∀ x ∈ l, I64 x) :
    Calls Try.prog 6 #[.int .i64 t, .slice A n cap] w fun e w' => e = .returned (.bool true) ∧ Below w.heap.size w w' := by
  have bel := Below.refl w.heap.size w
  have hlen := hr.len_I
  refine Calls.start 99 Try.func6 rfl rfl rfl ?_
  refine Cd.seq ?_
  refine Cd.region ?_
  refine Seq.val (Runs.assign rfl rfl) rfl rfl rfl ?_
  refine Seq.nil ?_
  refine Post.weak (F' := [(0, _), (1, _), (4, _)]) ⟨rfl, rfl, rfl, trivial⟩ ?_
  refine Post.then_ ?_
  refine Cd.seq ?_
  refine Cd.seq ?_
  refine Cd.region ?_
  refine Seq.val (Runs.move rfl rfl) rfl rfl rfl ?_
  refine Seq.val (Runs.len rfl rfl Try.underlying26) rfl rfl rfl ?_
  refine Seq.val (Runs.gtr rfl rfl rfl) rfl rfl rfl ?_
  refine Seq.nil ?_
  refine Post.weak (F' := [(0, _), (1, _), (4, _), (13, _)]) ⟨rfl, rfl, rfl, rfl, trivial⟩ ?_
  refine Post.then_ ?_
  refine Cd.cond rfl (fun h => ?_) (fun h => ?_)
  · skip
    refine Cd.seq ?_
    refine Cd.region ?_
    refine Seq.call (Enters.func rfl rfl rfl (run_enter Try.func15 (by kernel_rfl) rfl)) rfl rfl rfl (awake_any _) ?_
    rintro e w4 ⟨rfl, hb4⟩
    refine ⟨_, rfl, ?_⟩
    replace bel := bel.step hb4
    refine Seq.val (Runs.assign rfl rfl) rfl rfl rfl ?_
    refine Seq.nil ?_
    refine Post.weak (F' := [(0, _), (1, _), (4, _), (13, _)]) ⟨rfl, rfl, rfl, rfl, trivial⟩ ?_
    refine Post.then_ ?_
    refine Cd.ret ?_
    refine Post.then_ret ?_
    refine Post.end1 rfl rfl (.inl rfl) ?_
    exact ⟨rfl, bel⟩
  have hn : n ≤ 64 := by simp at h; omega
  clear h
  refine Cd.skip ?_
  refine Post.then_ ?_
  refine Cd.seq ?_
  refine Cd.region ?_
  refine Seq.val (Runs.move rfl rfl) rfl rfl rfl ?_
  refine Seq.val (Runs.move rfl rfl) rfl rfl rfl ?_
  refine Seq.call (Enters.func rfl rfl rfl (run_enter Try.func19 (by kernel_rfl) rfl)) rfl rfl rfl (share_any w.heap.size A n cap t l _ (hr.below bel) bel.size ht hl (by omega)) ?_
  rintro e w4 ⟨hb4, ⟨hno, rfl⟩ | ⟨hyes, g, rfl, k5, e5⟩⟩
  · refine ⟨_, rfl, ?_⟩
    replace bel := bel.step hb4
    refine Seq.val (Runs.move rfl rfl) rfl rfl rfl ?_
    refine Seq.val (Runs.extract rfl rfl rfl) rfl rfl rfl ?_
    refine Seq.val (Runs.extract rfl rfl rfl) rfl rfl rfl ?_
    refine Seq.val (Runs.assign rfl rfl) rfl rfl rfl ?_
    refine Seq.val (Runs.assign rfl rfl) rfl rfl rfl ?_
    refine Seq.nil ?_
    refine Post.weak (F' := [(0, _), (1, _), (4, _), (5, _), (6, _), (13, _)]) ⟨rfl, rfl, rfl, rfl, rfl, rfl, trivial⟩ ?_
    refine Post.then_ ?_
    refine Cd.seq ?_
    refine Cd.seq ?_
    refine Cd.region ?_
    refine Seq.val (Runs.move rfl rfl) rfl rfl rfl ?_
    refine Seq.val (Runs.not rfl rfl) rfl rfl rfl ?_
    refine Seq.nil ?_
    refine Post.weak (F' := [(0, _), (1, _), (4, _), (5, _), (6, _), (13, _), (22, _)]) ⟨rfl, rfl, rfl, rfl, rfl, rfl, rfl, trivial⟩ ?_
    refine Post.then_ ?_
    refine Cd.condT rfl rfl ?_
    refine Cd.seq ?_
    refine Cd.region ?_
    refine Seq.val (Runs.move rfl rfl) rfl rfl rfl ?_
    refine Seq.val (Runs.len rfl rfl Try.underlying26) rfl rfl rfl ?_
    refine Seq.val (Runs.eqlI rfl rfl rfl) rfl rfl rfl ?_
    refine Seq.val (Runs.move rfl rfl) rfl rfl rfl ?_
    refine SeqC.start ?_
    refine SeqC.openC rfl rfl rfl rfl rfl rfl rfl (fun hcx => Enters.func rfl rfl rfl (run_enter Try.func15 (by kernel_rfl) rfl)) (fun hcx => awake_any _) ?_
    intro w1 hw1
    replace bel := bel.step hw1
    refine SeqC.and rfl rfl rfl rfl rfl rfl rfl ?_
    refine Seq.val (Runs.assign rfl rfl) rfl rfl rfl ?_
    refine Seq.nil ?_
    refine Post.weak (F' := [(0, _), (1, _), (4, _), (5, _), (6, _), (13, _), (22, _)]) ⟨rfl, rfl, rfl, rfl, rfl, rfl, rfl, trivial⟩ ?_
    refine Post.then_ ?_
    refine Cd.ret ?_
    refine Post.then_ret ?_
    refine Post.end1 rfl rfl (.inl rfl) ?_
    exact ⟨rfl, bel⟩
  refine ⟨_, rfl, ?_⟩
  have hn0 : 0 < l.length := by
    rcases Nat.eq_zero_or_pos l.length with h0 | h0
    · exfalso
      obtain rfl : l = [] := List.eq_nil_of_length_eq_zero h0
      exact absurd hyes.2.2.1 (by decide)
    · exact h0
  have hsum := share_sum hyes hn0
  have hnn := share_nonneg (t := t) hn0
  have hle := le_sum _ hnn
  have hsl := share_len t l
  have hft : fits t = true := fits_of ht.1 ht.2
  have hst : smallOf t = t := by unfold smallOf; rw [hft]; rfl
  replace bel := bel.step hb4
  refine Seq.val (Runs.move rfl rfl) rfl rfl rfl ?_
  refine Seq.val (Runs.extract rfl rfl rfl) rfl rfl rfl ?_
  refine Seq.val (Runs.extract rfl rfl rfl) rfl rfl rfl ?_
  refine Seq.val (Runs.assign rfl rfl) rfl rfl rfl ?_
  refine Seq.val (Runs.assign rfl rfl) rfl rfl rfl ?_
  refine Seq.nil ?_
  refine Post.weak (F' := [(0, _), (1, _), (4, _), (5, _), (6, _), (13, _)]) ⟨rfl, rfl, rfl, rfl, rfl, rfl, trivial⟩ ?_
  refine Post.then_ ?_
  refine Cd.seq ?_
  refine Cd.seq ?_
  refine Cd.region ?_
  refine Seq.val (Runs.move rfl rfl) rfl rfl rfl ?_
  refine Seq.val (Runs.not rfl rfl) rfl rfl rfl ?_
  refine Seq.nil ?_
  refine Post.weak (F' := [(0, _), (1, _), (4, _), (5, _), (6, _), (13, _), (22, _)]) ⟨rfl, rfl, rfl, rfl, rfl, rfl, rfl, trivial⟩ ?_
  refine Post.then_ ?_
  refine Cd.condF rfl rfl ?_
  refine Cd.skip ?_
  refine Post.then_ ?_
  refine Cd.seq ?_
  refine Cd.region ?_
  refine Seq.val (Runs.move rfl rfl) rfl rfl rfl ?_
  refine Seq.call (Enters.func rfl rfl rfl (run_enter Try.func16 (by kernel_rfl) rfl)) rfl rfl rfl (sum_any _ (some ⟨g, 0, none⟩) n n (shareOf t l) _ (Reads.blk k5 n (by simp [I, hsl, hlen])) (Nat.le_refl _) (fun x hx => ⟨by have := hnn x hx; omega, by have := hle.2 x hx; have := ht.2; omega⟩) (by omega)) ?_
  rintro e w5 ⟨rfl, rfl⟩
  refine ⟨_, rfl, ?_⟩
  rw [hsum, hft, hst]
  refine Seq.val (Runs.move rfl rfl) rfl rfl rfl ?_
  refine Seq.val (Runs.extract rfl rfl rfl) rfl rfl rfl ?_
  refine Seq.val (Runs.extract rfl rfl rfl) rfl rfl rfl ?_
  refine Seq.val (Runs.assign rfl rfl) rfl rfl rfl ?_
  refine Seq.val (Runs.assign rfl rfl) rfl rfl rfl ?_
  refine Seq.nil ?_
  refine Post.weak (F' := [(0, _), (1, _), (4, _), (5, _), (6, _), (7, _), (8, _), (13, _), (22, _)]) ⟨rfl, rfl, rfl, rfl, rfl, rfl, rfl, rfl, rfl, trivial⟩ ?_
  refine Post.then_ ?_
  refine Cd.seq ?_
  refine Cd.seq ?_
  refine Cd.region ?_
  refine Seq.val (Runs.move rfl rfl) rfl rfl rfl ?_
  refine Seq.val (Runs.move rfl rfl) rfl rfl rfl ?_
  refine Seq.val (Runs.neqI rfl rfl rfl) rfl rfl rfl ?_
  refine Seq.val (Runs.move rfl rfl) rfl rfl rfl ?_
  refine SeqC.start ?_
  refine SeqC.open rfl rfl rfl rfl rfl rfl rfl (fun hcx => Runs.move rfl rfl) ?_
  refine SeqC.next rfl rfl rfl rfl rfl rfl rfl (fun hcx => Runs.not rfl rfl) ?_
  refine SeqC.or rfl rfl rfl rfl rfl rfl rfl ?_
  refine Seq.val (Runs.move rfl rfl) rfl rfl rfl ?_
  refine SeqC.start ?_
  refine SeqC.open rfl rfl rfl rfl rfl rfl rfl (fun hcx => Runs.move rfl rfl) ?_
  refine SeqC.next rfl rfl rfl rfl rfl rfl rfl (fun hcx => Runs.len rfl rfl Try.underlying26) ?_
  refine SeqC.next rfl rfl rfl rfl rfl rfl rfl (fun hcx => Runs.move rfl rfl) ?_
  refine SeqC.next rfl rfl rfl rfl rfl rfl rfl (fun hcx => Runs.len rfl rfl Try.underlying26) ?_
  refine SeqC.next rfl rfl rfl rfl rfl rfl rfl (fun hcx => Runs.neqI rfl rfl rfl) ?_
  refine SeqC.or rfl rfl rfl rfl rfl rfl rfl ?_
  refine Seq.nil ?_
  refine Post.weak (F' := [(0, _), (1, _), (4, _), (5, _), (6, _), (7, _), (8, _), (13, _), (22, _), (47, _)]) ⟨rfl, rfl, rfl, rfl, rfl, rfl, rfl, rfl, rfl, rfl, trivial⟩ ?_
  refine Post.then_ ?_
  refine Cd.condF rfl (by simp) ?_
  refine Cd.skip ?_
  refine Post.then_ ?_
  refine Cd.seq ?_
  refine Cd.seq ?_
  refine Cd.region ?_
  refine Seq.val (Runs.assign rfl rfl) rfl rfl rfl ?_
  refine Seq.nil ?_
  refine Post.weak (F' := [(0, _), (1, _), (4, _), (5, _), (6, _), (7, _), (8, _), (9, _), (13, _), (22, _), (47, _)]) ⟨rfl, rfl, rfl, rfl, rfl, rfl, rfl, rfl, rfl, rfl, rfl, trivial⟩ ?_
  refine Post.then_ ?_
  refine Cd.block ?_
  refine Cd.loop (σ := Nat) (fun i => [(1, .slice A n cap), (5, .slice (some ⟨g, 0, none⟩) n n), (9, .int .i64 (i : Int))])
    (fun i wr => i ≤ n ∧ Below w.heap.size w wr ∧ Blk wr g 2 (I (shareOf t l)).toArray) (fun i => n - i) 0 ⟨Nat.zero_le _, bel, k5⟩ ⟨rfl, rfl, rfl, trivial⟩ ?_
  clear bel k5
  rintro i wr ⟨hi, bel, k5⟩
  refine Cd.seq ?_
  refine Cd.seq ?_
  refine Cd.region ?_
  refine Seq.val (Runs.move rfl rfl) rfl rfl rfl ?_
  refine Seq.val (Runs.move rfl rfl) rfl rfl rfl ?_
  refine Seq.val (Runs.len rfl rfl Try.underlying26) rfl rfl rfl ?_
  refine Seq.val (Runs.lss rfl rfl rfl) rfl rfl rfl ?_
  refine Seq.nil ?_
  refine Post.weak (F' := [(1, _), (5, _), (9, _), (51, _)]) ⟨rfl, rfl, rfl, rfl, trivial⟩ ?_
  refine Post.then_ ?_
  refine Cd.condD rfl (fun hc => ?_) (fun hc => ?_)
  · obtain ⟨ad, v, rfl, hv, ci⟩ := hr.num bel (Nat.le_refl _) (show i < n by omega)
    have hvd := getD_of_get hv
    have hp := hnn _ (getD_mem (l := shareOf t l) (b := i) (by omega))
    have hz := share_zero hyes i (by omega)
    have ho := share_order hyes i
    rw [hvd] at hz ho
    have kp := I_getD (l := shareOf t l) (j := i) (by omega)
    generalize (shareOf t l).getD i 0 = p at *
    refine Cd.skip ?_
    refine Post.then_ ?_
    refine Cd.seq ?_
    refine Cd.block ?_
    refine Cd.seq ?_
    refine Cd.seq ?_
    refine Cd.region ?_
    refine Seq.val (Runs.move rfl rfl) rfl rfl rfl ?_
    refine Seq.val (Runs.move rfl rfl) rfl rfl rfl ?_
    refine Seq.val (Runs.indexB rfl rfl rfl Try.underlying26 (by kernel_rfl) (j := i) rfl (by omega)) rfl rfl rfl ?_
    refine Seq.val (Runs.loadB rfl rfl Try.underlying2 rfl k5 kp) rfl rfl rfl ?_
    refine Seq.val (Runs.lss rfl rfl rfl) rfl rfl rfl ?_
    refine Seq.val (Runs.move rfl rfl) rfl rfl rfl ?_
    refine SeqC.start ?_
    refine SeqC.open rfl rfl rfl rfl rfl rfl rfl (fun hcx => Runs.move rfl rfl) ?_
    refine SeqC.next rfl rfl rfl rfl rfl rfl rfl (fun hcx => Runs.move rfl rfl) ?_
    refine SeqC.next rfl rfl rfl rfl rfl rfl rfl (fun hcx => Runs.index1 rfl rfl rfl Try.underlying26 (by kernel_rfl) (j := i) rfl (by omega)) ?_
    refine SeqC.next rfl rfl rfl rfl rfl rfl rfl (fun hcx => Runs.load1 rfl rfl Try.underlying2 rfl ci.val) ?_
    refine SeqC.next rfl rfl rfl rfl rfl rfl rfl (fun hcx => Runs.eqlI rfl rfl rfl) ?_
    refine SeqC.next rfl rfl rfl rfl rfl rfl rfl (fun hcx => Runs.move rfl rfl) ?_
    refine SeqC.open rfl rfl rfl rfl rfl rfl rfl (fun hcx => Runs.move rfl rfl) ?_
    refine SeqC.next rfl rfl rfl rfl rfl rfl rfl (fun hcx => Runs.move rfl rfl) ?_
    refine SeqC.next rfl rfl rfl rfl rfl rfl rfl (fun hcx => Runs.indexB rfl rfl rfl Try.underlying26 (by kernel_rfl) (j := i) rfl (by omega)) ?_
    refine SeqC.next rfl rfl rfl rfl rfl rfl rfl (fun hcx => Runs.loadB rfl rfl Try.underlying2 rfl k5 kp) ?_
    refine SeqC.next rfl rfl rfl rfl rfl rfl rfl (fun hcx => Runs.neqI rfl rfl rfl) ?_
    refine SeqC.andG rfl rfl rfl rfl rfl rfl rfl rfl rfl rfl rfl ?_
    refine SeqC.or rfl rfl rfl rfl rfl rfl rfl ?_
    refine Seq.nil ?_
    refine Post.weak (F' := [(1, _), (5, _), (9, _), (51, _), (72, _)]) ⟨rfl, rfl, rfl, rfl, rfl, trivial⟩ ?_
    refine Post.then_ ?_
    refine Cd.cond rfl (fun h => ?_) (fun h => ?_)
    · exfalso
      simp at h
      rcases h with h | ⟨h1, h2⟩
      · omega
      · exact h2 (hz h1)
    clear h
    refine Cd.skip ?_
    refine Post.then_ ?_
    refine Cd.seq ?_
    refine Cd.region ?_
    refine Seq.val (Runs.assign rfl rfl) rfl rfl rfl ?_
    refine Seq.nil ?_
    refine Post.weak (F' := [(1, _), (5, _), (9, _), (10, _), (51, _), (72, _)]) ⟨rfl, rfl, rfl, rfl, rfl, rfl, trivial⟩ ?_
    refine Post.then_ ?_
    refine Cd.block ?_
    refine Cd.loop (σ := Nat) (fun k => [(1, .slice (some ad) n cap), (5, .slice (some ⟨g, 0, none⟩) n n), (9, .int .i64 (i : Int)), (10, .int .i64 (k : Int))])
      (fun k wr => k ≤ i ∧ Below w.heap.size w wr ∧ Blk wr g 2 (I (shareOf t l)).toArray ∧ Cell wr w.heap.size (ad.add i) (.int .i64 v)) (fun k => i - k) 0 ⟨Nat.zero_le _, bel, k5, ci⟩ ⟨rfl, rfl, rfl, rfl, trivial⟩ ?_
    clear bel k5 ci
    rintro k wr ⟨hk, bel, k5, ci⟩
    refine Cd.seq ?_
    refine Cd.seq ?_
    refine Cd.region ?_
    refine Seq.val (Runs.move rfl rfl) rfl rfl rfl ?_
    refine Seq.val (Runs.move rfl rfl) rfl rfl rfl ?_
    refine Seq.val (Runs.lss rfl rfl rfl) rfl rfl rfl ?_
    refine Seq.nil ?_
    refine Post.weak (F' := [(1, _), (5, _), (9, _), (10, _), (75, _)]) ⟨rfl, rfl, rfl, rfl, rfl, trivial⟩ ?_
    refine Post.then_ ?_
    refine Cd.condD rfl (fun hc => ?_) (fun hc => ?_)
    · obtain ⟨ad2, u, hA, hu, ck⟩ := hr.num bel (Nat.le_refl _) (show k < n by omega)
      cases hA
      have hud := getD_of_get hu
      have ho := ho k (by omega) (by omega)
      rw [hud] at ho
      have kq := I_getD (l := shareOf t l) (j := k) (by omega)
      generalize (shareOf t l).getD k 0 = q at *
      refine Cd.skip ?_
      refine Post.then_ ?_
      refine Cd.seq ?_
      refine Cd.block ?_
      refine Cd.seq ?_
      refine Cd.draw 20 (by kernel_rfl) [] (.inl rfl) rfl Grow Grow.refl (fun _ _ _ => Grow.trans) ?_
      intro w1 hw1 zw1
      replace bel := bel.step hw1
      replace k5 := k5.step hw1
      replace ci := ci.step hw1
      replace ck := ck.step hw1
      have zbel := bel.size
      have zlt := k5.lt
      refine Dr.val Grow.refl rfl (fun w hG => Runs.move rfl rfl) rfl ?_
      refine Dr.val Grow.refl rfl (fun w hG => Runs.move rfl rfl) rfl ?_
      refine Dr.val Grow.refl rfl (fun w hG => Runs.index1 rfl rfl rfl Try.underlying26 (by kernel_rfl) (j := i) rfl (by omega)) rfl ?_
      refine Dr.val Grow.refl rfl (fun w hG => Runs.load1 rfl rfl Try.underlying2 rfl (ci.step hG).val) rfl ?_
      refine Dr.val Grow.refl rfl (fun w hG => Runs.move rfl rfl) rfl ?_
      refine Dr.val Grow.refl rfl (fun w hG => Runs.move rfl rfl) rfl ?_
      refine Dr.val Grow.refl rfl (fun w hG => Runs.index1 rfl rfl rfl Try.underlying26 (by kernel_rfl) (j := k) rfl (by omega)) rfl ?_
      refine Dr.val Grow.refl rfl (fun w hG => Runs.load1 rfl rfl Try.underlying2 rfl (ck.step hG).val) rfl ?_
      by_cases hgt : u < v
      · refine Dr.val Grow.refl rfl (fun w hG => (Runs.gtr rfl rfl rfl).isT (hgt)) rfl ?_
        refine Dr.val Grow.refl rfl (fun w hG => Runs.move rfl rfl) rfl ?_
        refine Dr.valG Grow.refl rfl (fun w hG => Runs.move rfl rfl) rfl rfl rfl ?_
        refine Dr.valG Grow.refl rfl (fun w hG => Runs.move rfl rfl) rfl rfl rfl ?_
        refine Dr.valG Grow.refl rfl (fun w hG => Runs.indexB rfl rfl rfl Try.underlying26 (by kernel_rfl) (j := i) rfl (by omega)) rfl rfl rfl ?_
        refine Dr.valG Grow.refl rfl (fun w hG => Runs.loadB rfl rfl Try.underlying2 rfl (k5.step hG) kp) rfl rfl rfl ?_
        refine Dr.valG Grow.refl rfl (fun w hG => Runs.move rfl rfl) rfl rfl rfl ?_
        refine Dr.valG Grow.refl rfl (fun w hG => Runs.move rfl rfl) rfl rfl rfl ?_
        refine Dr.valG Grow.refl rfl (fun w hG => Runs.indexB rfl rfl rfl Try.underlying26 (by kernel_rfl) (j := k) rfl (by omega)) rfl rfl rfl ?_
        refine Dr.valG Grow.refl rfl (fun w hG => Runs.loadB rfl rfl Try.underlying2 rfl (k5.step hG) kq) rfl rfl rfl ?_
        refine Dr.valG Grow.refl rfl (fun w hG => (Runs.lss rfl rfl rfl).isF ((by have := ho hgt; omega))) rfl rfl rfl ?_
        refine Dr.val Grow.refl rfl (fun w hG => Runs.pickT rfl rfl rfl) rfl ?_
        refine Dr.nil ?_
        refine FinX.done (F' := [(1, _), (5, _), (9, _), (10, _), (75, _), (97, _)]) rfl ⟨rfl, rfl, rfl, rfl, rfl, rfl, trivial⟩ ?_
        intro w2 hw2 fw2
        replace bel := bel.step hw2
        replace k5 := k5.step hw2
        replace ci := ci.step hw2
        replace ck := ck.step hw2
        refine Seq.nil ?_
        refine Post.weak (F' := [(1, _), (5, _), (9, _), (10, _), (75, _), (97, _)]) ⟨rfl, rfl, rfl, rfl, rfl, rfl, trivial⟩ ?_
        refine Post.then_ ?_
        refine Cd.condF rfl rfl ?_
        refine Cd.skip ?_
        refine Post.block_normal ?_
        refine Post.then_ ?_
        refine Cd.region ?_
        refine Seq.val (Runs.move rfl rfl) rfl rfl rfl ?_
        refine Seq.val (Runs.addI rfl rfl rfl (by omega) (by omega)) rfl rfl rfl ?_
        refine Seq.val (Runs.assign rfl rfl) rfl rfl rfl ?_
        refine Seq.nil ?_
        refine Post.weak (F' := [(1, _), (5, _), (9, _), (10, _), (75, _), (97, _)]) ⟨rfl, rfl, rfl, rfl, rfl, rfl, trivial⟩ ?_
        exact Post.round (k + 1) ⟨rfl, rfl, rfl, rfl, trivial⟩ ⟨by omega, bel, k5, ci⟩ (by omega)
      · skip
        refine Dr.val Grow.refl rfl (fun w hG => (Runs.gtr rfl rfl rfl).isF (hgt)) rfl ?_
        refine Dr.val Grow.refl rfl (fun w hG => Runs.move rfl rfl) rfl ?_
        refine Dr.skip rfl rfl rfl rfl rfl ?_
        refine Dr.skip rfl rfl rfl rfl rfl ?_
        refine Dr.skip rfl rfl rfl rfl rfl ?_
        refine Dr.skip rfl rfl rfl rfl rfl ?_
        refine Dr.skip rfl rfl rfl rfl rfl ?_
        refine Dr.skip rfl rfl rfl rfl rfl ?_
        refine Dr.skip rfl rfl rfl rfl rfl ?_
        refine Dr.skip rfl rfl rfl rfl rfl ?_
        refine Dr.skip rfl rfl rfl rfl rfl ?_
        refine Dr.val Grow.refl rfl (fun w hG => Runs.pickF rfl rfl rfl) rfl ?_
        refine Dr.nil ?_
        refine FinX.done (F' := [(1, _), (5, _), (9, _), (10, _), (75, _), (97, _)]) rfl ⟨rfl, rfl, rfl, rfl, rfl, rfl, trivial⟩ ?_
        intro w2 hw2 fw2
        replace bel := bel.step hw2
        replace k5 := k5.step hw2
        replace ci := ci.step hw2
        replace ck := ck.step hw2
        refine Seq.nil ?_
        refine Post.weak (F' := [(1, _), (5, _), (9, _), (10, _), (75, _), (97, _)]) ⟨rfl, rfl, rfl, rfl, rfl, rfl, trivial⟩ ?_
        refine Post.then_ ?_
        refine Cd.condF rfl rfl ?_
        refine Cd.skip ?_
        refine Post.block_normal ?_
        refine Post.then_ ?_
        refine Cd.region ?_
        refine Seq.val (Runs.move rfl rfl) rfl rfl rfl ?_
        refine Seq.val (Runs.addI rfl rfl rfl (by omega) (by omega)) rfl rfl rfl ?_
        refine Seq.val (Runs.assign rfl rfl) rfl rfl rfl ?_
        refine Seq.nil ?_
        refine Post.weak (F' := [(1, _), (5, _), (9, _), (10, _), (75, _), (97, _)]) ⟨rfl, rfl, rfl, rfl, rfl, rfl, trivial⟩ ?_
        exact Post.round (k + 1) ⟨rfl, rfl, rfl, rfl, trivial⟩ ⟨by omega, bel, k5, ci⟩ (by omega)
    · skip
      refine Cd.exit ?_
      refine Post.then_exit ?_
      refine Post.round_exit ?_
      refine Post.block_exit ?_
      refine Post.block_normal ?_
      refine Post.then_ ?_
      refine Cd.region ?_
      refine Seq.val (Runs.move rfl rfl) rfl rfl rfl ?_
      refine Seq.val (Runs.addI rfl rfl rfl (by omega) (by omega)) rfl rfl rfl ?_
      refine Seq.val (Runs.assign rfl rfl) rfl rfl rfl ?_
      refine Seq.nil ?_
      refine Post.weak (F' := [(1, _), (5, _), (9, _), (10, _), (75, _)]) ⟨rfl, rfl, rfl, rfl, rfl, trivial⟩ ?_
      exact Post.round (i + 1) ⟨rfl, rfl, rfl, trivial⟩ ⟨by omega, bel, k5⟩ (by omega)
  · skip
    refine Cd.exit ?_
    refine Post.then_exit ?_
    refine Post.round_exit ?_
    refine Post.block_exit ?_
    refine Post.then_ ?_
    refine Cd.seq ?_
    refine Cd.region ?_
    refine Seq.call (Enters.func rfl rfl rfl (run_enter Try.func15 (by kernel_rfl) rfl)) rfl rfl rfl (awake_any _) ?_
    rintro e w9 ⟨rfl, hb9⟩
    refine ⟨_, rfl, ?_⟩
    replace bel := bel.step hb9
    replace k5 := k5.step hb9
    refine Seq.val (Runs.assign rfl rfl) rfl rfl rfl ?_
    refine Seq.nil ?_
    refine Post.weak (F' := [(1, _), (4, _), (5, _), (9, _), (51, _)]) ⟨rfl, rfl, rfl, rfl, rfl, trivial⟩ ?_
    refine Post.then_ ?_
    refine Cd.ret ?_
    refine Post.end1 rfl rfl (.inl rfl) ?_
    exact ⟨rfl, bel⟩

namespace NumWhole
theorem own : ownKnob Try.prog.godebug = none := by kernel_rfl
theorem laidOut : laidOutB Try.prog = true := by kernel_rfl
set_option maxRecDepth 100000 in
theorem lifted (os : Os) (started : os.Started) (H : Type) (enc : TypeId × Value → H) :
    ReturnsInHanded {} Try.checked os 6 .any (Rows.numWholeSpec.pre6 enc Try.prog Try.f6 Rows.numWholeRow.domain false) (Rows.numWholeSpec.post enc Try.prog Try.f6 false true false false) := by
  refine returnsInHanded_of_change (C := Try.checked) own started (by kernel_rfl) Try.func6
    (ChangeSpec.witness6 (enc := enc) (C := Try.checked) false ⟨#[], #[.int .i64 0, .slice none 0 0], []⟩ 8 (by kernel_rfl) (by kernel_rfl) (by kernel_rfl) (by kernel_rfl)) ?_
  intro W base args ds gs before hval0 hW hcnd _
  have hval : ∀ (j : Nat) t v, Try.f6.params[j]? = some t → args[j]? = some v → Value.okWide Try.prog W .any base t v := hval0
  have hW' := hW
  obtain ⟨p, q, hA0, hV, rfl, hfz, hnd⟩ := hW
  have hA : DataW.TrodAll enc Try.prog W 0 (fun _ => true) true Try.f6.params.toList args.toList ds p := hA0
  rw [Try.params6] at hA hval
  obtain ⟨v0, vs0, d0, ds0, p0, q0, hargs, rfl, rfl, h0, r0⟩ := trodAll_cons hA
  obtain ⟨v1, vs1, d1, ds1, p1, q1, rfl, rfl, rfl, h1, r1⟩ := trodAll_cons r0
  obtain ⟨rfl, rfl, rfl⟩ := trodAll_nil r1
  obtain rfl : args = #[v0, v1] := by cases args; simp_all
  obtain ⟨rfl, rfl⟩ := trodVars_none hV
  have k0 := h0
  have lt0 : ∀ x ∈ p0, x.block < W.heap.size := by obtain ⟨m, hm⟩ := k0; exact DataW.trod_lt m _ _ _ hm
  have k1 := h1
  have lt1 : ∀ x ∈ p1, x.block < W.heap.size := by obtain ⟨m, hm⟩ := k1; exact DataW.trod_lt m _ _ _ hm
  obtain ⟨t, rfl, ht⟩ := open_i64 Try.underlying2 (hval 0 _ v0 rfl rfl)
  obtain ⟨A, n, cap, l, rfl, hr, hl⟩ := open_ints (hval 1 _ v1 rfl rfl) h1
  clear hA0 hval0
  refine (walk_whole t A n cap l W ht hr hl).mono fun e W' ⟨he, bel⟩ => ?_
  subst he
  exact ⟨_, rfl, _, _, _, [], _, [], hW', trodAll_mk1 (shut_bool Try.underlying4 _), (trodAll_cons_mk (Below.trod laidOut (by kernel_rfl) (of_decide_eq_true (by kernel_rfl)) k0 bel lt0) (trodAll_cons_mk (Below.trod laidOut (by kernel_rfl) (of_decide_eq_true (by kernel_rfl)) k1 bel lt1) trodAll_mk0)), rfl, bel.frame _, fun h => by cases h⟩

theorem over : Rows.numWholeRow.holds Try.pinned (OpenSpec.ofChange Rows.numWholeSpec) :=
  OpenClaim.holds_of_wide 6 Try.f6 rfl rfl rfl rfl rfl rfl rfl ⟨rfl, rfl, rfl, rfl, rfl⟩ rfl rfl rfl rfl rfl (by kernel_rfl) Try.func6 (by kernel_rfl)
    (of_decide_eq_true (by kernel_rfl)) (by unfold Func.isWrapper; first | (rw [if_pos (by decide +kernel)]; kernel_rfl) | (rw [if_neg (by decide +kernel)]; exact ⟨rfl, rfl⟩))
    (fun os started H enc _ => lifted os started H enc)

theorem proved : Rows.NumWholeSaid := over

end NumWhole
end Go.Proofs.Ytpdeihienkbeeaa

/-
  num's form, Reduce, Gcd, RatMul: what each answers. Condition: the numbers are of 64 bits.
-/
import Derived.Test.YtpdeihienkbeeaaNumE
import Derived.Test.YtpdeihienkbeeaaNumF
import Derived.Test.YtpdeihienkbeeaaRatLawB
namespace Go.Proofs.Ytpdeihienkbeeaa
open Go.RowKit

theorem zero_api_Ratio : zeroIs Try.prog 45 = some (some (.agg #[.int .i64 0, .int .i64 0])) := by kernel_rfl
theorem run_build_Ratio (a b : Int) (w : World) : (Instr.build 45 #[(0, .int .i64 a), (1, .int .i64 b)]).run Try.prog w = .ok (.agg #[.int .i64 a, .int .i64 b]) w := by
  have hu := Try.underlying45
  go_simp
theorem run_build_Ratio0 (w : World) : (Instr.build 45 #[]).run Try.prog w = .ok (.agg #[.int .i64 0, .int .i64 0]) w := by
  have hu := Try.underlying45
  go_simp
theorem divisor_nat (a b : Nat) (w : World) (ha : a < 18446744073709551616) (hb : b < 18446744073709551616) :
    Calls Try.prog 60 #[.int .u64 (a : Int), .int .u64 (b : Int)] w fun e w' => e = .returned (.int .u64 ((Nat.gcd a b : Nat) : Int)) ∧ Grow w w' :=
  (divisor_any a b w (by omega) (by omega) (by omega) (by omega)).mono fun e w' ⟨he, n, hn⟩ => ⟨he, by rw [hn]; exact (Below.refl _ _).drewN n⟩
theorem size_grow (a : Int) (w : World) (h : I64 a) : Calls Try.prog 59 #[.int .i64 a] w fun e w' => e = .returned (.int .u64 (a.natAbs : Int)) ∧ Grow w w' :=
  (size_nat a w h).mono fun e w' ⟨he, hw⟩ => ⟨he, by rw [hw]; exact Grow.refl _⟩
theorem gcd_any (a b : Int) (w : World) (ha : I64 a) (hb : I64 b) :
    Calls Try.prog 37 #[.int .i64 a, .int .i64 b] w fun e w' => e = .returned (.int .i64 (IntKind.i64.wrap ((Nat.gcd a.natAbs b.natAbs : Nat) : Int))) ∧ Grow w w' := by
  have bel := Below.refl w.heap.size w
  have ha2 := ha; have hb2 := hb
  unfold I64 at ha2 hb2
  refine Calls.start 11 Try.func37 rfl rfl rfl ?_
  refine Cd.seq ?_
  refine Cd.region ?_
  refine Seq.val (Runs.assign rfl rfl) rfl rfl rfl ?_
  refine Seq.nil ?_
  refine Post.weak (F' := [(0, _), (1, _), (4, _)]) ⟨rfl, rfl, rfl, trivial⟩ ?_
  refine Post.then_ ?_
  refine Cd.seq ?_
  refine Cd.region ?_
  refine Seq.val (Runs.move rfl rfl) rfl rfl rfl ?_
  refine Seq.call (Enters.func rfl rfl rfl (run_enter Try.func59 (by kernel_rfl) rfl)) rfl rfl rfl (size_grow a _ ha) ?_
  rintro e w2 ⟨rfl, hw2⟩
  refine ⟨_, rfl, ?_⟩
  replace bel := bel.step hw2
  refine Seq.val (Runs.move rfl rfl) rfl rfl rfl ?_
  refine Seq.call (Enters.func rfl rfl rfl (run_enter Try.func59 (by kernel_rfl) rfl)) rfl rfl rfl (size_grow b _ hb) ?_
  rintro e w3 ⟨rfl, hw3⟩
  refine ⟨_, rfl, ?_⟩
  replace bel := bel.step hw3
  refine Seq.call (Enters.func rfl rfl rfl (run_enter Try.func60 (by kernel_rfl) rfl)) rfl rfl rfl (divisor_nat _ _ _ (by omega) (by omega)) ?_
  rintro e w4 ⟨rfl, hw4⟩
  refine ⟨_, rfl, ?_⟩
  replace bel := bel.step hw4
  refine Seq.val (Runs.convI rfl rfl Try.underlying62 Try.underlying2 rfl) rfl rfl rfl ?_
  refine Seq.val (Runs.assign rfl rfl) rfl rfl rfl ?_
  refine Seq.nil ?_
  refine Post.weak (F' := [(0, _), (1, _), (4, _)]) ⟨rfl, rfl, rfl, trivial⟩ ?_
  refine Post.then_ ?_
  refine Cd.ret ?_
  refine Post.end1 rfl rfl (.inl rfl) ?_
  exact ⟨rfl, bel⟩
theorem form_any (neg : Bool) (n d : Nat) (w : World) (hn : n < 18446744073709551616) (hd : d < 18446744073709551616) (h0 : 0 < d) :
    Calls Try.prog 58 #[.bool neg, .int .u64 (n : Int), .int .u64 (d : Int)] w fun e w' => e = .returned (formV neg n d) ∧ Grow w w' := by
  have bel := Below.refl w.heap.size w
  have hg : 0 < Nat.gcd n d := Nat.gcd_pos_of_pos_right _ h0
  have hq1 := Nat.div_le_self n (Nat.gcd n d)
  have hq2 := Nat.div_le_self d (Nat.gcd n d)
  have hF : formV neg n d = .tuple #[.agg #[.int .i64 (formN neg n d), .int .i64 (formD neg n d)], .bool (formB neg n d)] := rfl
  rw [hF]
  unfold formN formD formB
  clear hF
  have hdv := fun w => divisor_nat n d w hn hd
  generalize Nat.gcd n d = g at *
  refine Calls.start 38 Try.func58 rfl rfl rfl ?_
  refine Cd.seq ?_
  refine Cd.region ?_
  refine Seq.alloc rfl (run_zero zero_api_Ratio) rfl rfl rfl ?_
  intro g6 w1 n6
  have e6 := Nat.le_trans bel.size n6.ge
  replace bel := bel.step n6.below
  have k6 := n6.blk
  refine Seq.val (Runs.assign rfl rfl) rfl rfl rfl ?_
  refine Seq.nil ?_
  refine Post.weak (F' := [(0, _), (1, _), (2, _), (6, _), (7, _)]) ⟨rfl, rfl, rfl, rfl, rfl, trivial⟩ ?_
  refine Post.then_ ?_
  refine Cd.seq ?_
  refine Cd.region ?_
  refine Seq.val (Runs.move rfl rfl) rfl rfl rfl ?_
  refine Seq.val (Runs.move rfl rfl) rfl rfl rfl ?_
  refine Seq.call (Enters.func rfl rfl rfl (run_enter Try.func60 (by kernel_rfl) rfl)) rfl rfl rfl (hdv _) ?_
  rintro e w2 ⟨rfl, hw2⟩
  refine ⟨_, rfl, ?_⟩
  replace bel := bel.step hw2
  replace k6 := k6.step hw2
  refine Seq.val (Runs.assign rfl rfl) rfl rfl rfl ?_
  refine Seq.nil ?_
  refine Post.weak (F' := [(0, _), (1, _), (2, _), (6, _), (7, _), (8, _)]) ⟨rfl, rfl, rfl, rfl, rfl, rfl, trivial⟩ ?_
  refine Post.then_ ?_
  refine Cd.seq ?_
  refine Cd.region ?_
  refine Seq.val (Runs.move rfl rfl) rfl rfl rfl ?_
  refine Seq.val (Runs.move rfl rfl) rfl rfl rfl ?_
  refine Seq.val (Runs.quoNU rfl rfl rfl (by omega) (by omega)) rfl rfl rfl ?_
  refine Seq.val (Runs.move rfl rfl) rfl rfl rfl ?_
  refine Seq.val (Runs.build rfl rfl (run_build_wide _ _ _ _)) rfl rfl rfl ?_
  refine Seq.call (Enters.func rfl rfl rfl (run_enter Try.func50 (by kernel_rfl) rfl)) rfl rfl rfl (narrow_lo (n / g) neg _ (by omega)) ?_
  rintro e w3 ⟨v, rfl, hv, hw3⟩
  refine ⟨_, rfl, ?_⟩
  replace bel := bel.step hw3
  replace k6 := k6.step hw3
  refine Seq.val (Runs.move rfl rfl) rfl rfl rfl ?_
  refine Seq.val (Runs.extract rfl rfl rfl) rfl rfl rfl ?_
  refine Seq.val (Runs.extract rfl rfl rfl) rfl rfl rfl ?_
  refine Seq.val (Runs.assign rfl rfl) rfl rfl rfl ?_
  refine Seq.val (Runs.assign rfl rfl) rfl rfl rfl ?_
  refine Seq.nil ?_
  refine Post.weak (F' := [(0, _), (1, _), (2, _), (6, _), (7, _), (8, _), (9, _), (10, _)]) ⟨rfl, rfl, rfl, rfl, rfl, rfl, rfl, rfl, trivial⟩ ?_
  refine Post.then_ ?_
  refine Cd.seq ?_
  refine Cd.region ?_
  refine Seq.val (Runs.move rfl rfl) rfl rfl rfl ?_
  refine Seq.val (Runs.move rfl rfl) rfl rfl rfl ?_
  refine Seq.val (Runs.quoNU rfl rfl rfl (by omega) (by omega)) rfl rfl rfl ?_
  refine Seq.val (Runs.assign rfl rfl) rfl rfl rfl ?_
  refine Seq.nil ?_
  refine Post.weak (F' := [(0, _), (1, _), (2, _), (6, _), (7, _), (8, _), (9, _), (10, _), (11, _)]) ⟨rfl, rfl, rfl, rfl, rfl, rfl, rfl, rfl, rfl, trivial⟩ ?_
  refine Post.then_ ?_
  refine Cd.seq ?_
  refine Cd.seq ?_
  refine Cd.region ?_
  refine Seq.val (Runs.move rfl rfl) rfl rfl rfl ?_
  refine Seq.val (Runs.not rfl rfl) rfl rfl rfl ?_
  refine Seq.val (Runs.move rfl rfl) rfl rfl rfl ?_
  refine SeqC.start ?_
  refine SeqC.open rfl rfl rfl rfl rfl rfl rfl (fun hcx => Runs.move rfl rfl) ?_
  refine SeqC.next rfl rfl rfl rfl rfl rfl rfl (fun hcx => Runs.geq rfl rfl rfl) ?_
  refine SeqC.or rfl rfl rfl rfl rfl rfl rfl ?_
  refine Seq.nil ?_
  refine Post.weak (F' := [(0, _), (1, _), (2, _), (6, _), (7, _), (8, _), (9, _), (10, _), (11, _), (32, _)]) ⟨rfl, rfl, rfl, rfl, rfl, rfl, rfl, rfl, rfl, rfl, trivial⟩ ?_
  refine Post.then_ ?_
  refine Cd.cond rfl (fun h => ?_) (fun h => ?_)
  · have hno : ¬ (fits (sgn neg (n / g)) = true ∧ d / g < 9223372036854775808) := by
      rintro ⟨h1, h2⟩
      simp [h1] at h
      omega
    refine Cd.seq ?_
    refine Cd.region ?_
    refine Seq.val (Runs.build rfl rfl (run_build_Ratio0 _)) rfl rfl rfl ?_
    refine Seq.storeN rfl rfl rfl rfl (m := 2) (by kernel_rfl) rfl (by repeat' first | exact trivial | apply And.intro | rfl | assumption) k6 (by simp [Value.cells]) rfl rfl ?_
    intro w2 pw2
    replace bel := bel.put k6 pw2 e6
    replace k6 := pw2.blk
    refine Seq.val (Runs.assign rfl rfl) rfl rfl rfl ?_
    refine Seq.nil ?_
    refine Post.weak (F' := [(0, _), (1, _), (2, _), (6, _), (7, _), (8, _), (9, _), (10, _), (11, _), (32, _)]) ⟨rfl, rfl, rfl, rfl, rfl, rfl, rfl, rfl, rfl, rfl, trivial⟩ ?_
    refine Post.then_ ?_
    refine Cd.ret ?_
    refine Post.then_ret ?_
    refine Post.endC2 rfl rfl rfl k6 Try.underlying45 rfl (m := 2) (by kernel_rfl) rfl (.inl rfl) ?_
    rw [if_neg hno, if_neg hno]
    refine ⟨ret2 rfl (bool_eq ?_), bel⟩
    rcases Bool.eq_false_or_eq_true (fits (sgn neg (n / g)) && decide (d / g < 9223372036854775808)) with h3 | h3
    · exfalso
      simp at h3
      exact hno h3
    · exact h3.symm
  · have hyes : fits (sgn neg (n / g)) = true ∧ d / g < 9223372036854775808 := by
      cases hf : fits (sgn neg (n / g)) with
      | false => rw [hf] at h; simp at h
      | true => rw [hf] at h; simp at h; exact ⟨rfl, by omega⟩
    obtain rfl := hv hyes.1
    refine Cd.skip ?_
    refine Post.then_ ?_
    refine Cd.seq ?_
    refine Cd.region ?_
    refine Seq.val (Runs.move rfl rfl) rfl rfl rfl ?_
    refine Seq.val (Runs.move rfl rfl) rfl rfl rfl ?_
    generalize d / g = y at *
    refine Seq.val (Runs.convI (r := (y : Int)) rfl rfl Try.underlying62 Try.underlying2 (wrapI (by omega) (by omega))) rfl rfl rfl ?_
    refine Seq.val (Runs.build rfl rfl (run_build_Ratio _ _ _)) rfl rfl rfl ?_
    refine Seq.storeN rfl rfl rfl rfl (m := 2) (by kernel_rfl) rfl (by repeat' first | exact trivial | apply And.intro | rfl | assumption) k6 (by simp [Value.cells]) rfl rfl ?_
    intro w2 pw2
    replace bel := bel.put k6 pw2 e6
    replace k6 := pw2.blk
    refine Seq.val (Runs.assign rfl rfl) rfl rfl rfl ?_
    refine Seq.nil ?_
    refine Post.weak (F' := [(0, _), (1, _), (2, _), (6, _), (7, _), (8, _), (9, _), (10, _), (11, _), (32, _)]) ⟨rfl, rfl, rfl, rfl, rfl, rfl, rfl, rfl, rfl, rfl, trivial⟩ ?_
    refine Post.then_ ?_
    refine Cd.ret ?_
    refine Post.endC2 rfl rfl rfl k6 Try.underlying45 rfl (m := 2) (by kernel_rfl) rfl (.inl rfl) ?_
    rw [if_pos hyes, if_pos hyes, hyes.1, decide_eq_true hyes.2]
    exact ⟨rfl, bel⟩
theorem reduce_any (p q : Int) (w : World) (hp : I64 p) (hq : I64 q) :
    Calls Try.prog 32 #[.agg #[.int .i64 p, .int .i64 q]] w fun e w' => e = .returned (ratV p q) ∧ Grow w w' := by
  have bel := Below.refl w.heap.size w
  have hp2 := hp; have hq2 := hq
  unfold I64 at hp2 hq2
  unfold ratV
  by_cases h0 : q = 0
  · rw [if_pos h0]
    refine Calls.start 24 Try.func32 rfl rfl rfl ?_
    refine Cd.seq ?_
    refine Cd.region ?_
    refine Seq.box rfl rfl rfl rfl rfl ?_
    intro g1 w1 n1
    have e1 := Nat.le_trans bel.size n1.ge
    replace bel := bel.step n1.below
    have k1 := n1.blk
    refine Seq.alloc rfl (run_zero zero_api_Ratio) rfl rfl rfl ?_
    intro g2 w2 n2
    have e2 := Nat.le_trans bel.size n2.ge
    have l2 := Nat.lt_of_lt_of_le k1.lt n2.ge
    replace bel := bel.step n2.below
    replace k1 := k1.step n2.below
    have k2 := n2.blk
    refine Seq.val (Runs.assign rfl rfl) rfl rfl rfl ?_
    refine Seq.nil ?_
    refine Post.weak (F' := [(0, _), (1, _), (2, _), (3, _)]) ⟨rfl, rfl, rfl, rfl, trivial⟩ ?_
    refine Post.then_ ?_
    refine Cd.seq ?_
    refine Cd.seq ?_
    refine Cd.region ?_
    refine Seq.val (Runs.fieldB 1 rfl rfl Try.underlying45 rfl (by kernel_rfl)) rfl rfl rfl ?_
    refine Seq.val (Runs.loadB rfl rfl Try.underlying2 rfl k1 rfl) rfl rfl rfl ?_
    refine Seq.val (Runs.eqlI rfl rfl rfl) rfl rfl rfl ?_
    refine Seq.nil ?_
    refine Post.weak (F' := [(0, _), (1, _), (2, _), (3, _), (6, _)]) ⟨rfl, rfl, rfl, rfl, rfl, trivial⟩ ?_
    refine Post.then_ ?_
    refine Cd.condT rfl (decide_eq_true h0) ?_
    refine Cd.seq ?_
    refine Cd.region ?_
    refine Seq.val (Runs.build rfl rfl (run_build_Ratio0 _)) rfl rfl rfl ?_
    refine Seq.storeN rfl rfl rfl rfl (m := 2) (by kernel_rfl) rfl (by repeat' first | exact trivial | apply And.intro | rfl | assumption) k2 (by simp [Value.cells]) rfl rfl ?_
    intro w3 pw3
    replace bel := bel.put k2 pw3 e2
    replace k1 := k1.put pw3 (by omega)
    replace k2 := pw3.blk
    refine Seq.val (Runs.assign rfl rfl) rfl rfl rfl ?_
    refine Seq.nil ?_
    refine Post.weak (F' := [(0, _), (1, _), (2, _), (3, _), (6, _)]) ⟨rfl, rfl, rfl, rfl, rfl, trivial⟩ ?_
    refine Post.then_ ?_
    refine Cd.ret ?_
    refine Post.then_ret ?_
    refine Post.endC2 rfl rfl rfl k2 Try.underlying45 rfl (m := 2) (by kernel_rfl) rfl (.inl rfl) ?_
    exact ⟨rfl, bel⟩
  · rw [if_neg h0]
    have hf := fun w => form_any (decide (p < 0) != decide (q < 0)) p.natAbs q.natAbs w (by omega) (by omega) (by omega)
    have hfv : formV (decide (p < 0) != decide (q < 0)) p.natAbs q.natAbs = .tuple #[.agg #[.int .i64 (formN (decide (p < 0) != decide (q < 0)) p.natAbs q.natAbs), .int .i64 (formD (decide (p < 0) != decide (q < 0)) p.natAbs q.natAbs)], .bool (formB (decide (p < 0) != decide (q < 0)) p.natAbs q.natAbs)] := rfl
    rw [hfv] at hf ⊢
    generalize formN (decide (p < 0) != decide (q < 0)) p.natAbs q.natAbs = x at *
    generalize formD (decide (p < 0) != decide (q < 0)) p.natAbs q.natAbs = y at *
    generalize formB (decide (p < 0) != decide (q < 0)) p.natAbs q.natAbs = z at *
    have hne : decide (decide (p < 0) ≠ decide (q < 0)) = (decide (p < 0) != decide (q < 0)) := by cases decide (p < 0) <;> cases decide (q < 0) <;> rfl
    rw [← hne] at hf
    refine Calls.start 24 Try.func32 rfl rfl rfl ?_
    refine Cd.seq ?_
    refine Cd.region ?_
    refine Seq.box rfl rfl rfl rfl rfl ?_
    intro g1 w1 n1
    have e1 := Nat.le_trans bel.size n1.ge
    replace bel := bel.step n1.below
    have k1 := n1.blk
    refine Seq.alloc rfl (run_zero zero_api_Ratio) rfl rfl rfl ?_
    intro g2 w2 n2
    have e2 := Nat.le_trans bel.size n2.ge
    have l2 := Nat.lt_of_lt_of_le k1.lt n2.ge
    replace bel := bel.step n2.below
    replace k1 := k1.step n2.below
    have k2 := n2.blk
    refine Seq.val (Runs.assign rfl rfl) rfl rfl rfl ?_
    refine Seq.nil ?_
    refine Post.weak (F' := [(0, _), (1, _), (2, _), (3, _)]) ⟨rfl, rfl, rfl, rfl, trivial⟩ ?_
    refine Post.then_ ?_
    refine Cd.seq ?_
    refine Cd.seq ?_
    refine Cd.region ?_
    refine Seq.val (Runs.fieldB 1 rfl rfl Try.underlying45 rfl (by kernel_rfl)) rfl rfl rfl ?_
    refine Seq.val (Runs.loadB rfl rfl Try.underlying2 rfl k1 rfl) rfl rfl rfl ?_
    refine Seq.val (Runs.eqlI rfl rfl rfl) rfl rfl rfl ?_
    refine Seq.nil ?_
    refine Post.weak (F' := [(0, _), (1, _), (2, _), (3, _), (6, _)]) ⟨rfl, rfl, rfl, rfl, rfl, trivial⟩ ?_
    refine Post.then_ ?_
    refine Cd.condF rfl (decide_eq_false h0) ?_
    refine Cd.skip ?_
    refine Post.then_ ?_
    refine Cd.seq ?_
    refine Cd.draw 16 (by kernel_rfl) [] (.inl rfl) rfl Grow Grow.refl (fun _ _ _ => Grow.trans) ?_
    intro w3 hw3 zw3
    replace bel := bel.step hw3
    replace k1 := k1.step hw3
    replace k2 := k2.step hw3
    have zbel := bel.size
    have zlt := k2.lt
    refine Dr.val Grow.refl rfl (fun w hG => Runs.fieldB 0 rfl rfl Try.underlying45 rfl (by kernel_rfl)) rfl ?_
    refine Dr.val Grow.refl rfl (fun w hG => Runs.loadB rfl rfl Try.underlying2 rfl (k1.step hG) rfl) rfl ?_
    refine Dr.val Grow.refl rfl (fun w hG => Runs.lss rfl rfl rfl) rfl ?_
    refine Dr.val Grow.refl rfl (fun w hG => Runs.fieldB 1 rfl rfl Try.underlying45 rfl (by kernel_rfl)) rfl ?_
    refine Dr.val Grow.refl rfl (fun w hG => Runs.loadB rfl rfl Try.underlying2 rfl (k1.step hG) rfl) rfl ?_
    refine Dr.val Grow.refl rfl (fun w hG => Runs.lss rfl rfl rfl) rfl ?_
    refine Dr.val Grow.refl rfl (fun w hG => Runs.neqB rfl rfl rfl Try.underlying4) rfl ?_
    refine Dr.val Grow.refl rfl (fun w hG => Runs.fieldB 0 rfl rfl Try.underlying45 rfl (by kernel_rfl)) rfl ?_
    refine Dr.val Grow.refl rfl (fun w hG => Runs.loadB rfl rfl Try.underlying2 rfl (k1.step hG) rfl) rfl ?_
    refine Dr.callV rfl (fun w => Enters.func rfl rfl rfl (run_enter Try.func59 (by kernel_rfl) rfl)) rfl (fun w hG => size_grow p _ hp) ?_
    refine Dr.val Grow.refl rfl (fun w hG => Runs.fieldB 1 rfl rfl Try.underlying45 rfl (by kernel_rfl)) rfl ?_
    refine Dr.val Grow.refl rfl (fun w hG => Runs.loadB rfl rfl Try.underlying2 rfl (k1.step hG) rfl) rfl ?_
    refine Dr.callV rfl (fun w => Enters.func rfl rfl rfl (run_enter Try.func59 (by kernel_rfl) rfl)) rfl (fun w hG => size_grow q _ hq) ?_
    refine Dr.callV rfl (fun w => Enters.func rfl rfl rfl (run_enter Try.func58 (by kernel_rfl) rfl)) rfl (fun w hG => hf _) ?_
    refine Dr.val Grow.refl rfl (fun w hG => Runs.extract rfl rfl rfl) rfl ?_
    refine Dr.val Grow.refl rfl (fun w hG => Runs.extract rfl rfl rfl) rfl ?_
    refine Dr.nil ?_
    refine FinX.done (F' := [(0, _), (1, _), (2, _), (3, _), (6, _), (22, _), (23, _)]) rfl ⟨rfl, rfl, rfl, rfl, rfl, rfl, rfl, trivial⟩ ?_
    intro w4 hw4 fw4
    replace bel := bel.step hw4
    replace k1 := k1.step hw4
    replace k2 := k2.step hw4
    refine Seq.storeN rfl rfl rfl rfl (m := 2) (by kernel_rfl) rfl (by repeat' first | exact trivial | apply And.intro | rfl | assumption) k2 (by simp [Value.cells]) rfl rfl ?_
    intro w5 pw5
    replace bel := bel.put k2 pw5 e2
    replace k1 := k1.put pw5 (by omega)
    replace k2 := pw5.blk
    refine Seq.val (Runs.assign rfl rfl) rfl rfl rfl ?_
    refine Seq.nil ?_
    refine Post.weak (F' := [(0, _), (1, _), (2, _), (3, _), (6, _)]) ⟨rfl, rfl, rfl, rfl, rfl, trivial⟩ ?_
    refine Post.then_ ?_
    refine Cd.ret ?_
    refine Post.endC2 rfl rfl rfl k2 Try.underlying45 rfl (m := 2) (by kernel_rfl) rfl (.inl rfl) ?_
    exact ⟨rfl, bel⟩
end Go.Proofs.Ytpdeihienkbeeaa

/-
  debentureref01's Ratio; the law's same of the same: what each answers. Condition: the numbers keep a bound.
-/
import Derived.Test.YtpdeihienkbeeaaNumN
import Derived.Test.YtpdeihienkbeeaaBigO
namespace Go.Proofs.Ytpdeihienkbeeaa
open Go.RowKit

theorem ratV_open (a b : Int) : ∃ x y z, ratV a b = .tuple #[.agg #[.int .i64 x, .int .i64 y], .bool z] := by
  unfold ratV
  split
  · exact ⟨_, _, _, rfl⟩
  · exact ⟨_, _, _, rfl⟩
theorem neB (a b : Bool) : decide (a ≠ b) = (a != b) := by cases a <;> cases b <;> rfl
theorem sgn_neg' (neg : Bool) (n : Nat) : (neg && decide (0 < n)) = decide (sgn neg n < 0) := sgn_neg neg n
theorem refRatio_any (x y : Value) (a b : Int) (w : World) (hx : BigR w x a) (hy : BigR w y b) (ha : a.natAbs < big) (hb : b.natAbs < big) :
    Calls Try.prog 35 #[x, y] w fun e w' => e = .returned (ratV a b) ∧ Grow w w' := by
  obtain ⟨ma, rfl, -, hma⟩ := hx.agg
  obtain ⟨mb, rfl, -, hmb⟩ := hy.agg
  obtain ⟨Aa, ca, rfl⟩ := fieldV_agg hma
  obtain ⟨Ab, cb, rfl⟩ := fieldV_agg hmb
  have hma : MagU w _ _ := ⟨hma⟩
  have hmb : MagU w _ _ := ⟨hmb⟩
  have bel := Below.refl w.heap.size w
  have hz := digs_len_zero b.natAbs
  generalize hla : (digs a.natAbs).length = la at *
  generalize hlb : (digs b.natAbs).length = lb at *
  refine Calls.start 66 Try.func35 rfl rfl rfl ?_
  refine Cd.seq ?_
  refine Cd.region ?_
  refine Seq.box rfl rfl rfl rfl rfl ?_
  intro g2 w1 n2
  have e2 := Nat.le_trans bel.size n2.ge
  replace bel := bel.step n2.below
  replace hma := hma.step n2.below
  replace hmb := hmb.step n2.below
  have k2 := n2.blk
  refine Seq.box rfl rfl rfl rfl rfl ?_
  intro g3 w2 n3
  have e3 := Nat.le_trans bel.size n3.ge
  have l3 := Nat.lt_of_lt_of_le k2.lt n3.ge
  replace bel := bel.step n3.below
  replace hma := hma.step n3.below
  replace hmb := hmb.step n3.below
  replace k2 := k2.step n3.below
  have k3 := n3.blk
  refine Seq.alloc rfl (run_zero zero_api_Ratio) rfl rfl rfl ?_
  intro g4 w3 n4
  have e4 := Nat.le_trans bel.size n4.ge
  have l4 := Nat.lt_of_lt_of_le k3.lt n4.ge
  have l4_k2 := Nat.lt_of_lt_of_le k2.lt n4.ge
  replace bel := bel.step n4.below
  replace hma := hma.step n4.below
  replace hmb := hmb.step n4.below
  replace k2 := k2.step n4.below
  replace k3 := k3.step n4.below
  have k4 := n4.blk
  refine Seq.val (Runs.assign rfl rfl) rfl rfl rfl ?_
  refine Seq.nil ?_
  refine Post.weak (F' := [(0, _), (1, _), (2, _), (3, _), (4, _), (5, _)]) ⟨rfl, rfl, rfl, rfl, rfl, rfl, trivial⟩ ?_
  refine Post.then_ ?_
  refine Cd.seq ?_
  refine Cd.seq ?_
  refine Cd.region ?_
  refine Seq.val (Runs.fieldB 1 rfl rfl Try.underlying31 rfl (by kernel_rfl)) rfl rfl rfl ?_
  refine Seq.val (Runs.loadB rfl rfl Try.underlying29 rfl k3 rfl) rfl rfl rfl ?_
  refine Seq.val (Runs.len rfl rfl Try.underlying29) rfl rfl rfl ?_
  refine Seq.val (Runs.eqlI rfl rfl rfl) rfl rfl rfl ?_
  refine Seq.nil ?_
  refine Post.weak (F' := [(0, _), (1, _), (2, _), (3, _), (4, _), (5, _), (18, _)]) ⟨rfl, rfl, rfl, rfl, rfl, rfl, rfl, trivial⟩ ?_
  refine Post.then_ ?_
  refine Cd.condD rfl (fun h => ?_) (fun h => ?_)
  · have hb0 : b = 0 := by have := hz.1 (by omega); omega
    unfold ratV
    rw [if_pos hb0]
    refine Cd.seq ?_
    refine Cd.region ?_
    refine Seq.val (Runs.build rfl rfl (run_build_Ratio0 _)) rfl rfl rfl ?_
    refine Seq.storeN rfl rfl rfl rfl (m := 2) (by kernel_rfl) rfl (by repeat' first | exact trivial | apply And.intro | rfl | assumption) k4 (by simp [Value.cells]) rfl rfl ?_
    intro w4 pw4
    replace bel := bel.put k4 pw4 e4
    replace hma := hma.put k4 pw4 e4
    replace hmb := hmb.put k4 pw4 e4
    replace k2 := k2.put pw4 (by omega)
    replace k3 := k3.put pw4 (by omega)
    replace k4 := pw4.blk
    refine Seq.val (Runs.assign rfl rfl) rfl rfl rfl ?_
    refine Seq.nil ?_
    refine Post.weak (F' := [(0, _), (1, _), (2, _), (3, _), (4, _), (5, _), (18, _)]) ⟨rfl, rfl, rfl, rfl, rfl, rfl, rfl, trivial⟩ ?_
    refine Post.then_ ?_
    refine Cd.ret ?_
    refine Post.then_ret ?_
    refine Post.endC2 rfl rfl rfl k4 Try.underlying45 rfl (m := 2) (by kernel_rfl) rfl (.inl rfl) ?_
    exact ⟨rfl, bel⟩
  have hb0 : b ≠ 0 := by
    intro h0
    have := hz.2 (by omega)
    omega
  have hg0 : 0 < Nat.gcd a.natAbs b.natAbs := Nat.gcd_pos_of_pos_right _ (by omega)
  have hgl : Nat.gcd a.natAbs b.natAbs ≤ b.natAbs := Nat.gcd_le_right _ (by omega)
  have hF : ratV a b = .tuple #[.agg #[.int .i64 (formN (decide (a < 0) != decide (b < 0)) a.natAbs b.natAbs), .int .i64 (formD (decide (a < 0) != decide (b < 0)) a.natAbs b.natAbs)], .bool (formB (decide (a < 0) != decide (b < 0)) a.natAbs b.natAbs)] := by
    unfold ratV
    rw [if_neg hb0]
    rfl
  rw [hF]
  clear hF
  unfold formN formD formB
  refine Cd.skip ?_
  refine Post.then_ ?_
  refine Cd.seq ?_
  refine Cd.region ?_
  refine Seq.val (Runs.fieldB 1 rfl rfl Try.underlying31 rfl (by kernel_rfl)) rfl rfl rfl ?_
  refine Seq.val (Runs.loadB rfl rfl Try.underlying29 rfl k2 rfl) rfl rfl rfl ?_
  refine Seq.val (Runs.fieldB 1 rfl rfl Try.underlying31 rfl (by kernel_rfl)) rfl rfl rfl ?_
  refine Seq.val (Runs.loadB rfl rfl Try.underlying29 rfl k3 rfl) rfl rfl rfl ?_
  refine Seq.call (Enters.func rfl rfl rfl (run_enter Try.func62 (by kernel_rfl) rfl)) rfl rfl rfl (refgcd_any _ _ a.natAbs b.natAbs _ hma.mag hmb.mag ha hb) ?_
  rintro e w4 ⟨vg, rfl, hb4, hmg⟩
  refine ⟨_, rfl, ?_⟩
  replace bel := bel.step hb4
  replace hma := hma.step hb4
  replace hmb := hmb.step hb4
  replace k2 := k2.step hb4
  replace k3 := k3.step hb4
  replace k4 := k4.step hb4
  have hmg : MagU _ _ _ := ⟨hmg⟩
  generalize Nat.gcd a.natAbs b.natAbs = g at *
  have hq1 := Nat.div_le_self a.natAbs g
  have hq2 := Nat.div_le_self b.natAbs g
  refine Seq.val (Runs.assign rfl rfl) rfl rfl rfl ?_
  refine Seq.nil ?_
  refine Post.weak (F' := [(0, _), (1, _), (2, _), (3, _), (4, _), (5, _), (6, _), (18, _)]) ⟨rfl, rfl, rfl, rfl, rfl, rfl, rfl, rfl, trivial⟩ ?_
  refine Post.then_ ?_
  refine Cd.seq ?_
  refine Cd.region ?_
  refine Seq.val (Runs.fieldB 1 rfl rfl Try.underlying31 rfl (by kernel_rfl)) rfl rfl rfl ?_
  refine Seq.val (Runs.loadB rfl rfl Try.underlying29 rfl k2 rfl) rfl rfl rfl ?_
  refine Seq.val (Runs.move rfl rfl) rfl rfl rfl ?_
  refine Seq.call (Enters.func rfl rfl rfl (run_enter Try.func63 (by kernel_rfl) rfl)) rfl rfl rfl (divide_any _ _ a.natAbs g _ hma.mag hmg.mag ha (by omega) hg0) ?_
  rintro e w5 ⟨q1, r1, rfl, hm1, -, hb5⟩
  refine ⟨_, rfl, ?_⟩
  replace bel := bel.step hb5
  replace hma := hma.step hb5
  replace hmb := hmb.step hb5
  replace k2 := k2.step hb5
  replace k3 := k3.step hb5
  replace k4 := k4.step hb5
  replace hmg := hmg.step hb5
  have hm1 : MagU _ _ _ := ⟨hm1⟩
  refine Seq.val (Runs.move rfl rfl) rfl rfl rfl ?_
  refine Seq.val (Runs.extract rfl rfl rfl) rfl rfl rfl ?_
  refine Seq.val (Runs.extract rfl rfl rfl) rfl rfl rfl ?_
  refine Seq.val (Runs.assign rfl rfl) rfl rfl rfl ?_
  refine Seq.val (Runs.assign rfl rfl) rfl rfl rfl ?_
  refine Seq.nil ?_
  refine Post.weak (F' := [(0, _), (1, _), (2, _), (3, _), (4, _), (5, _), (6, _), (7, _), (18, _)]) ⟨rfl, rfl, rfl, rfl, rfl, rfl, rfl, rfl, rfl, trivial⟩ ?_
  refine Post.then_ ?_
  refine Cd.seq ?_
  refine Cd.region ?_
  refine Seq.val (Runs.fieldB 1 rfl rfl Try.underlying31 rfl (by kernel_rfl)) rfl rfl rfl ?_
  refine Seq.val (Runs.loadB rfl rfl Try.underlying29 rfl k3 rfl) rfl rfl rfl ?_
  refine Seq.val (Runs.move rfl rfl) rfl rfl rfl ?_
  refine Seq.call (Enters.func rfl rfl rfl (run_enter Try.func63 (by kernel_rfl) rfl)) rfl rfl rfl (divide_any _ _ b.natAbs g _ hmb.mag hmg.mag hb (by omega) hg0) ?_
  rintro e w6 ⟨q2, r2, rfl, hm2, -, hb6⟩
  refine ⟨_, rfl, ?_⟩
  replace bel := bel.step hb6
  replace hma := hma.step hb6
  replace hmb := hmb.step hb6
  replace k2 := k2.step hb6
  replace k3 := k3.step hb6
  replace k4 := k4.step hb6
  replace hmg := hmg.step hb6
  replace hm1 := hm1.step hb6
  have hm2 : MagU _ _ _ := ⟨hm2⟩
  have hl1 := len_big (n := a.natAbs / g) (by omega)
  have hl2 := len_big (n := b.natAbs / g) (by omega)
  generalize a.natAbs / g = n at *
  generalize b.natAbs / g = d at *
  refine Seq.val (Runs.move rfl rfl) rfl rfl rfl ?_
  refine Seq.val (Runs.extract rfl rfl rfl) rfl rfl rfl ?_
  refine Seq.val (Runs.extract rfl rfl rfl) rfl rfl rfl ?_
  refine Seq.val (Runs.assign rfl rfl) rfl rfl rfl ?_
  refine Seq.val (Runs.assign rfl rfl) rfl rfl rfl ?_
  refine Seq.nil ?_
  refine Post.weak (F' := [(0, _), (1, _), (2, _), (3, _), (4, _), (5, _), (6, _), (7, _), (9, _), (18, _)]) ⟨rfl, rfl, rfl, rfl, rfl, rfl, rfl, rfl, rfl, rfl, trivial⟩ ?_
  refine Post.then_ ?_
  refine Cd.seq ?_
  refine Cd.region ?_
  refine Seq.val (Runs.fieldB 0 rfl rfl Try.underlying31 rfl (by kernel_rfl)) rfl rfl rfl ?_
  refine Seq.val (Runs.loadB rfl rfl Try.underlying4 rfl k2 rfl) rfl rfl rfl ?_
  refine Seq.val (Runs.fieldB 0 rfl rfl Try.underlying31 rfl (by kernel_rfl)) rfl rfl rfl ?_
  refine Seq.val (Runs.loadB rfl rfl Try.underlying4 rfl k3 rfl) rfl rfl rfl ?_
  refine Seq.val (Runs.neqB rfl rfl rfl Try.underlying4) rfl rfl rfl ?_
  refine Seq.val (Runs.move rfl rfl) rfl rfl rfl ?_
  rw [neB]
  generalize (decide (a < 0) != decide (b < 0)) = neg at *
  refine Seq.call (Enters.func rfl rfl rfl (run_enter Try.func52 (by kernel_rfl) rfl)) rfl rfl rfl (sign_big neg _ n (sgn neg n) _ hm1.mag (by omega) (natAbs_sgn neg n) (sgn_neg neg n)) ?_
  rintro e w7 ⟨v7, rfl, hb7, hv7⟩
  refine ⟨_, rfl, ?_⟩
  replace bel := bel.step hb7
  replace hma := hma.step hb7
  replace hmb := hmb.step hb7
  replace k2 := k2.step hb7
  replace k3 := k3.step hb7
  replace k4 := k4.step hb7
  replace hmg := hmg.step hb7
  replace hm1 := hm1.step hb7
  replace hm2 := hm2.step hb7
  refine Seq.call (Enters.func rfl rfl rfl (run_enter Try.func45 (by kernel_rfl) rfl)) rfl rfl rfl (small_big' _ (sgn neg n) _ hv7 (by rw [natAbs_sgn]; omega)) ?_
  rintro e w8 ⟨rfl, hb8⟩
  refine ⟨_, rfl, ?_⟩
  replace bel := bel.step hb8
  replace hma := hma.step hb8
  replace hmb := hmb.step hb8
  replace k2 := k2.step hb8
  replace k3 := k3.step hb8
  replace k4 := k4.step hb8
  replace hmg := hmg.step hb8
  replace hm1 := hm1.step hb8
  replace hm2 := hm2.step hb8
  refine Seq.val (Runs.move rfl rfl) rfl rfl rfl ?_
  refine Seq.val (Runs.extract rfl rfl rfl) rfl rfl rfl ?_
  refine Seq.val (Runs.extract rfl rfl rfl) rfl rfl rfl ?_
  refine Seq.val (Runs.assign rfl rfl) rfl rfl rfl ?_
  refine Seq.val (Runs.assign rfl rfl) rfl rfl rfl ?_
  refine Seq.nil ?_
  refine Post.weak (F' := [(0, _), (1, _), (2, _), (3, _), (4, _), (5, _), (6, _), (7, _), (9, _), (11, _), (12, _), (18, _)]) ⟨rfl, rfl, rfl, rfl, rfl, rfl, rfl, rfl, rfl, rfl, rfl, rfl, trivial⟩ ?_
  refine Post.then_ ?_
  refine Cd.seq ?_
  refine Cd.region ?_
  refine Seq.val (Runs.move rfl rfl) rfl rfl rfl ?_
  refine Seq.call (Enters.func rfl rfl rfl (run_enter Try.func52 (by kernel_rfl) rfl)) rfl rfl rfl (sign_big false _ d (d : Int) _ hm2.mag (by omega) (Int.natAbs_natCast d) (by rw [decide_eq_false (show ¬ (d : Int) < 0 by omega)]; rfl)) ?_
  rintro e w9 ⟨v9, rfl, hb9, hv9⟩
  refine ⟨_, rfl, ?_⟩
  replace bel := bel.step hb9
  replace hma := hma.step hb9
  replace hmb := hmb.step hb9
  replace k2 := k2.step hb9
  replace k3 := k3.step hb9
  replace k4 := k4.step hb9
  replace hmg := hmg.step hb9
  replace hm1 := hm1.step hb9
  replace hm2 := hm2.step hb9
  refine Seq.call (Enters.func rfl rfl rfl (run_enter Try.func45 (by kernel_rfl) rfl)) rfl rfl rfl (small_big' _ (d : Int) _ hv9 (by rw [Int.natAbs_natCast]; omega)) ?_
  rintro e w10 ⟨rfl, hb10⟩
  refine ⟨_, rfl, ?_⟩
  replace bel := bel.step hb10
  replace hma := hma.step hb10
  replace hmb := hmb.step hb10
  replace k2 := k2.step hb10
  replace k3 := k3.step hb10
  replace k4 := k4.step hb10
  replace hmg := hmg.step hb10
  replace hm1 := hm1.step hb10
  replace hm2 := hm2.step hb10
  have hfd : fits (d : Int) = decide (d < 9223372036854775808) := by
    unfold fits
    rw [Bool.eq_iff_iff]
    simp
    omega
  rw [hfd]
  refine Seq.val (Runs.move rfl rfl) rfl rfl rfl ?_
  refine Seq.val (Runs.extract rfl rfl rfl) rfl rfl rfl ?_
  refine Seq.val (Runs.extract rfl rfl rfl) rfl rfl rfl ?_
  refine Seq.val (Runs.assign rfl rfl) rfl rfl rfl ?_
  refine Seq.val (Runs.assign rfl rfl) rfl rfl rfl ?_
  refine Seq.nil ?_
  refine Post.weak (F' := [(0, _), (1, _), (2, _), (3, _), (4, _), (5, _), (6, _), (7, _), (9, _), (11, _), (12, _), (13, _), (14, _), (18, _)]) ⟨rfl, rfl, rfl, rfl, rfl, rfl, rfl, rfl, rfl, rfl, rfl, rfl, rfl, rfl, trivial⟩ ?_
  refine Post.then_ ?_
  refine Cd.seq ?_
  refine Cd.seq ?_
  refine Cd.region ?_
  refine Seq.val (Runs.move rfl rfl) rfl rfl rfl ?_
  refine Seq.val (Runs.not rfl rfl) rfl rfl rfl ?_
  refine Seq.val (Runs.move rfl rfl) rfl rfl rfl ?_
  refine SeqC.start ?_
  refine SeqC.open rfl rfl rfl rfl rfl rfl rfl (fun hcx => Runs.move rfl rfl) ?_
  refine SeqC.next rfl rfl rfl rfl rfl rfl rfl (fun hcx => Runs.not rfl rfl) ?_
  refine SeqC.or rfl rfl rfl rfl rfl rfl rfl ?_
  refine Seq.nil ?_
  refine Post.weak (F' := [(0, _), (1, _), (2, _), (3, _), (4, _), (5, _), (6, _), (7, _), (9, _), (11, _), (12, _), (13, _), (14, _), (18, _), (61, _)]) ⟨rfl, rfl, rfl, rfl, rfl, rfl, rfl, rfl, rfl, rfl, rfl, rfl, rfl, rfl, rfl, trivial⟩ ?_
  refine Post.then_ ?_
  refine Cd.cond rfl (fun h => ?_) (fun h => ?_)
  · have hno : ¬ (fits (sgn neg n) = true ∧ d < 9223372036854775808) := by
      rintro ⟨h1, h2⟩
      simp [h1] at h
      omega
    refine Cd.seq ?_
    refine Cd.region ?_
    refine Seq.val (Runs.build rfl rfl (run_build_Ratio0 _)) rfl rfl rfl ?_
    refine Seq.storeN rfl rfl rfl rfl (m := 2) (by kernel_rfl) rfl (by repeat' first | exact trivial | apply And.intro | rfl | assumption) k4 (by simp [Value.cells]) rfl rfl ?_
    intro w4 pw4
    replace bel := bel.put k4 pw4 e4
    replace k2 := k2.put pw4 (by omega)
    replace k3 := k3.put pw4 (by omega)
    replace k4 := pw4.blk
    refine Seq.val (Runs.assign rfl rfl) rfl rfl rfl ?_
    refine Seq.nil ?_
    refine Post.weak (F' := [(0, _), (1, _), (2, _), (3, _), (4, _), (5, _), (6, _), (7, _), (9, _), (11, _), (12, _), (13, _), (14, _), (18, _), (61, _)]) ⟨rfl, rfl, rfl, rfl, rfl, rfl, rfl, rfl, rfl, rfl, rfl, rfl, rfl, rfl, rfl, trivial⟩ ?_
    refine Post.then_ ?_
    refine Cd.ret ?_
    refine Post.then_ret ?_
    refine Post.endC2 rfl rfl rfl k4 Try.underlying45 rfl (m := 2) (by kernel_rfl) rfl (.inl rfl) ?_
    rw [if_neg hno, if_neg hno]
    refine ⟨ret2 rfl (bool_eq ?_), bel⟩
    rcases Bool.eq_false_or_eq_true (fits (sgn neg n) && decide (d < 9223372036854775808)) with h3 | h3
    · exfalso
      simp at h3
      exact hno h3
    · exact h3.symm
  · have hyes : fits (sgn neg n) = true ∧ d < 9223372036854775808 := by
      cases hf : fits (sgn neg n) with
      | false => rw [hf] at h; simp at h
      | true => rw [hf] at h; simp at h; exact ⟨rfl, by omega⟩
    have e1 : smallOf (sgn neg n) = sgn neg n := by unfold smallOf; rw [hyes.1]; rfl
    have e2 : smallOf (d : Int) = (d : Int) := by unfold smallOf; rw [hfd, decide_eq_true hyes.2]; rfl
    rw [e1, e2]
    refine Cd.skip ?_
    refine Post.then_ ?_
    refine Cd.seq ?_
    refine Cd.region ?_
    refine Seq.val (Runs.move rfl rfl) rfl rfl rfl ?_
    refine Seq.val (Runs.move rfl rfl) rfl rfl rfl ?_
    refine Seq.val (Runs.build rfl rfl (run_build_Ratio _ _ _)) rfl rfl rfl ?_
    refine Seq.storeN rfl rfl rfl rfl (m := 2) (by kernel_rfl) rfl (by repeat' first | exact trivial | apply And.intro | rfl | assumption) k4 (by simp [Value.cells]) rfl rfl ?_
    intro w4 pw4
    replace bel := bel.put k4 pw4 e4
    replace k2 := k2.put pw4 (by omega)
    replace k3 := k3.put pw4 (by omega)
    replace k4 := pw4.blk
    refine Seq.val (Runs.assign rfl rfl) rfl rfl rfl ?_
    refine Seq.nil ?_
    refine Post.weak (F' := [(0, _), (1, _), (2, _), (3, _), (4, _), (5, _), (6, _), (7, _), (9, _), (11, _), (12, _), (13, _), (14, _), (18, _), (61, _)]) ⟨rfl, rfl, rfl, rfl, rfl, rfl, rfl, rfl, rfl, rfl, rfl, rfl, rfl, rfl, rfl, trivial⟩ ?_
    refine Post.then_ ?_
    refine Cd.ret ?_
    refine Post.endC2 rfl rfl rfl k4 Try.underlying45 rfl (m := 2) (by kernel_rfl) rfl (.inl rfl) ?_
    rw [if_pos hyes, if_pos hyes, hyes.1, decide_eq_true hyes.2]
    exact ⟨rfl, bel⟩
theorem run_eql_ratio (x y : Int) (W : World) : (binOp .eql 45 (.agg #[.int .i64 x, .int .i64 y]) (.agg #[.int .i64 x, .int .i64 y])).run Try.prog W = .ok (.bool true) W := by
  have h0 : (x == x) = true := by simp
  have h1 : (y == y) = true := by simp
  go_simp
theorem eqg_ratio (x y : Int) (p q : Operand) (W : World) : (eqGuard .eql 45 p q (.agg #[.int .i64 x, .int .i64 y]) (.agg #[.int .i64 x, .int .i64 y])).run Try.prog W = .ok () W := by kernel_rfl
theorem same_self (x y : Int) (z : Bool) (w : World) :
    Calls Try.prog 36 #[.agg #[.int .i64 x, .int .i64 y], .bool z, .agg #[.int .i64 x, .int .i64 y], .bool z] w fun e w' => e = .returned (.bool true) ∧ Grow w w' := by
  have bel := Below.refl w.heap.size w
  refine Calls.start 17 Try.func36 rfl rfl rfl ?_
  refine Cd.seq ?_
  refine Cd.region ?_
  refine Seq.box rfl rfl rfl rfl rfl ?_
  intro g4 w1 n4
  have e4 := Nat.le_trans bel.size n4.ge
  replace bel := bel.step n4.below
  have k4 := n4.blk
  refine Seq.box rfl rfl rfl rfl rfl ?_
  intro g6 w2 n6
  have e6 := Nat.le_trans bel.size n6.ge
  have l6 := Nat.lt_of_lt_of_le k4.lt n6.ge
  replace bel := bel.step n6.below
  replace k4 := k4.step n6.below
  have k6 := n6.blk
  refine Seq.val (Runs.assign rfl rfl) rfl rfl rfl ?_
  refine Seq.nil ?_
  refine Post.weak (F' := [(0, _), (1, _), (2, _), (3, _), (4, _), (6, _), (8, _)]) ⟨rfl, rfl, rfl, rfl, rfl, rfl, rfl, trivial⟩ ?_
  refine Post.then_ ?_
  refine Cd.seq ?_
  refine Cd.region ?_
  refine Seq.val (Runs.loadW rfl rfl Try.underlying45 rfl k4 (m := 2) (by kernel_rfl) rfl) rfl rfl rfl ?_
  refine Seq.val (Runs.loadW rfl rfl Try.underlying45 rfl k6 (m := 2) (by kernel_rfl) rfl) rfl rfl rfl ?_
  refine Seq.val (Runs.bin rfl rfl rfl (eqg_ratio x y _ _ _) (run_eql_ratio x y _)) rfl rfl rfl ?_
  refine Seq.val (Runs.move rfl rfl) rfl rfl rfl ?_
  refine SeqC.start ?_
  refine SeqC.open rfl rfl rfl rfl rfl rfl rfl (fun hcx => Runs.move rfl rfl) ?_
  refine SeqC.next rfl rfl rfl rfl rfl rfl rfl (fun hcx => Runs.move rfl rfl) ?_
  refine SeqC.next rfl rfl rfl rfl rfl rfl rfl (fun hcx => Runs.eqlB rfl rfl rfl Try.underlying4) ?_
  refine SeqC.and rfl rfl rfl rfl rfl rfl rfl ?_
  refine Seq.val (Runs.assign rfl rfl) rfl rfl rfl ?_
  refine Seq.nil ?_
  refine Post.weak (F' := [(0, _), (1, _), (2, _), (3, _), (4, _), (6, _), (8, _)]) ⟨rfl, rfl, rfl, rfl, rfl, rfl, rfl, trivial⟩ ?_
  refine Post.then_ ?_
  refine Cd.ret ?_
  refine Post.end1 rfl rfl (.inl rfl) ?_
  exact ⟨ret1 (bool_eq (by simp)), bel⟩
end Go.Proofs.Ytpdeihienkbeeaa

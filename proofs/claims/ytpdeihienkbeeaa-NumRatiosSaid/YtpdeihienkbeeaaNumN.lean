/-
  num's RatAdd; debentureref01's gcd, Gcd, Ratio: what each answers. Condition: the numbers are of 64 bits, or keep a bound.
-/
import Derived.Test.YtpdeihienkbeeaaNumM
import Derived.Test.YtpdeihienkbeeaaBigK
namespace Go.Proofs.Ytpdeihienkbeeaa
open Go.RowKit

theorem ratAdd_any (p q r s : Int) (w : World) (hp : I64 p) (hq : I64 q) (hr : I64 r) (hs : I64 s) :
    Calls Try.prog 33 #[.agg #[.int .i64 p, .int .i64 q], .agg #[.int .i64 r, .int .i64 s]] w fun e' w' => e' = .returned (ratV (p * s + r * q) (q * s)) ∧ Grow w w' := by
  by_cases h0 : q = 0 ∨ s = 0
  · have hqs : q * s = 0 := by rcases h0 with h | h <;> simp [h]
    unfold ratV
    rw [if_pos hqs]
    have bel := Below.refl w.heap.size w
    refine Calls.start 139 Try.func33 rfl rfl rfl ?_
    refine Cd.seq ?_
    refine Cd.region ?_
    refine Seq.box rfl rfl rfl rfl rfl ?_
    intro g2 w1 n2
    have e2 := Nat.le_trans bel.size n2.ge
    replace bel := bel.step n2.below
    have k2 := n2.blk
    refine Seq.box rfl rfl rfl rfl rfl ?_
    intro g3 w2 n3
    have e3 := Nat.le_trans bel.size n3.ge
    have l3 := Nat.lt_of_lt_of_le k2.lt n3.ge
    replace bel := bel.step n3.below
    replace k2 := k2.step n3.below
    have k3 := n3.blk
    refine Seq.alloc rfl (run_zero zero_api_Ratio) rfl rfl rfl ?_
    intro g4 w3 n4
    have e4 := Nat.le_trans bel.size n4.ge
    have l4 := Nat.lt_of_lt_of_le k3.lt n4.ge
    replace bel := bel.step n4.below
    replace k2 := k2.step n4.below
    replace k3 := k3.step n4.below
    have k4 := n4.blk
    refine Seq.val (Runs.assign rfl rfl) rfl rfl rfl ?_
    refine Seq.nil ?_
    refine Post.weak (F' := [(0, _), (1, _), (2, _), (3, _), (4, _), (5, _)]) ⟨rfl, rfl, rfl, rfl, rfl, rfl, trivial⟩ ?_
    refine Post.then_ ?_
    refine Cd.seq ?_
    refine Cd.seq ?_
    refine Cd.region ?_
    refine Seq.val (Runs.fieldB 1 rfl rfl Try.underlying45 rfl (by kernel_rfl)) rfl rfl rfl ?_
    refine Seq.val (Runs.loadB rfl rfl Try.underlying2 rfl k2 rfl) rfl rfl rfl ?_
    refine Seq.val (Runs.eqlI rfl rfl rfl) rfl rfl rfl ?_
    refine Seq.val (Runs.move rfl rfl) rfl rfl rfl ?_
    refine SeqC.start ?_
    refine SeqC.open rfl rfl rfl rfl rfl rfl rfl (fun hcx => Runs.fieldB 1 rfl rfl Try.underlying45 rfl (by kernel_rfl)) ?_
    refine SeqC.next rfl rfl rfl rfl rfl rfl rfl (fun hcx => Runs.loadB rfl rfl Try.underlying2 rfl k3 rfl) ?_
    refine SeqC.next rfl rfl rfl rfl rfl rfl rfl (fun hcx => Runs.eqlI rfl rfl rfl) ?_
    refine SeqC.or rfl rfl rfl rfl rfl rfl rfl ?_
    refine Seq.nil ?_
    refine Post.weak (F' := [(0, _), (1, _), (2, _), (3, _), (4, _), (5, _), (33, _)]) ⟨rfl, rfl, rfl, rfl, rfl, rfl, rfl, trivial⟩ ?_
    refine Post.then_ ?_
    refine Cd.condT rfl (by simp; omega) ?_
    refine Cd.seq ?_
    refine Cd.region ?_
    refine Seq.val (Runs.build rfl rfl (run_build_Ratio0 _)) rfl rfl rfl ?_
    refine Seq.storeN rfl rfl rfl rfl (m := 2) (by kernel_rfl) rfl (by repeat' first | exact trivial | apply And.intro | rfl | assumption) k4 (by simp [Value.cells]) rfl rfl ?_
    intro w4 pw4
    replace bel := bel.put k4 pw4 e4
    replace k2 := k2.put pw4 (by omega)
    replace k3 := k3.put pw4 (by omega)
    replace k4 := pw4.blk
    refine Seq.val (Runs.assign rfl rfl) rfl rfl rfl ?_
    refine Seq.nil ?_
    refine Post.weak (F' := [(0, _), (1, _), (2, _), (3, _), (4, _), (5, _), (33, _)]) ⟨rfl, rfl, rfl, rfl, rfl, rfl, rfl, trivial⟩ ?_
    refine Post.then_ ?_
    refine Cd.ret ?_
    refine Post.then_ret ?_
    refine Post.endC2 rfl rfl rfl k4 Try.underlying45 rfl (m := 2) (by kernel_rfl) rfl (.inl rfl) ?_
    exact ⟨rfl, bel⟩
  have hq0 : q ≠ 0 := fun h => h0 (.inl h)
  have hs0 : s ≠ 0 := fun h => h0 (.inr h)
  obtain ⟨p0, p1⟩ := hp
  obtain ⟨q0, q1⟩ := hq
  obtain ⟨r0, r1⟩ := hr
  obtain ⟨s0, s1⟩ := hs
  have a1 := Nat.div_le_self p.natAbs (Nat.gcd p.natAbs q.natAbs)
  have a2 := Nat.div_le_self q.natAbs (Nat.gcd p.natAbs q.natAbs)
  have a3 := Nat.div_le_self r.natAbs (Nat.gcd r.natAbs s.natAbs)
  have a4 := Nat.div_le_self s.natAbs (Nat.gcd r.natAbs s.natAbs)
  exact ratAdd_core p q r s _ _ _ _ w hq0 hs0 (by omega) (by omega) (by omega) (by omega) (fun w => signed_any p q w p0 p1 q0 q1 hq0) (fun w => signed_any r s w r0 r1 s0 s1 hs0) (red_of p q hq0) (red_of r s hs0)
theorem run_field_Big (b : Bool) (A : Option Addr) (k c : Nat) (w : World) : (Instr.field 31 (.agg #[.bool b, .slice A k c]) 1).run Try.prog w = .ok (.slice A k c) w := by kernel_rfl

theorem refgcd_any (x y : Value) (a b : Nat) (w : World) (hx : MagR w x a) (hy : MagR w y b) (ha : a < big) (hb : b < big) :
    Calls Try.prog 62 #[x, y] w fun e w' => ∃ v, e = .returned v ∧ Grow w w' ∧ MagR w' v (Nat.gcd a b) := by
  have bel := Below.refl w.heap.size w
  refine Calls.start 19 Try.func62 rfl rfl rfl ?_
  refine Cd.seq ?_
  refine Cd.region ?_
  refine Seq.val (Runs.assign rfl rfl) rfl rfl rfl ?_
  refine Seq.nil ?_
  refine Post.weak (F' := [(0, _), (1, _), (4, _)]) ⟨rfl, rfl, rfl, trivial⟩ ?_
  refine Post.then_ ?_
  refine Cd.seq ?_
  refine Cd.block ?_
  refine Cd.loop (σ := Value × Value × Nat × Nat) (fun s => [(0, s.1), (1, s.2.1)])
    (fun s wr => Below w.heap.size w wr ∧ MagR wr s.1 s.2.2.1 ∧ MagR wr s.2.1 s.2.2.2 ∧ s.2.2.1 < big ∧ s.2.2.2 < big ∧ Nat.gcd s.2.2.1 s.2.2.2 = Nat.gcd a b) (fun s => s.2.2.2) (x, y, a, b) ⟨bel, hx, hy, ha, hb, rfl⟩ ⟨rfl, rfl, trivial⟩ ?_
  clear bel
  rintro ⟨u, v, c, d⟩ wr ⟨bel, hu, hv, hcb, hd, hg⟩
  dsimp only at hu hv hcb hd hg ⊢
  obtain ⟨A1, c1, rfl⟩ := fieldV_agg hv
  have hz := digs_len_zero d
  refine Cd.seq ?_
  refine Cd.seq ?_
  refine Cd.region ?_
  refine Seq.val (Runs.move rfl rfl) rfl rfl rfl ?_
  refine Seq.val (Runs.len rfl rfl Try.underlying29) rfl rfl rfl ?_
  refine Seq.val (Runs.gtr rfl rfl rfl) rfl rfl rfl ?_
  refine Seq.nil ?_
  refine Post.weak (F' := [(0, _), (1, _), (9, _)]) ⟨rfl, rfl, rfl, trivial⟩ ?_
  refine Post.then_ ?_
  refine Cd.condD rfl (fun hc => ?_) (fun hc => ?_)
  · have hd0 : 0 < d := by rcases Nat.eq_zero_or_pos d with h | h
                           · have := hz.2 h; omega
                           · exact h
    have hlt := Nat.mod_lt c hd0
    refine Cd.skip ?_
    refine Post.then_ ?_
    refine Cd.block ?_
    refine Cd.seq ?_
    refine Cd.region ?_
    refine Seq.val (Runs.move rfl rfl) rfl rfl rfl ?_
    refine Seq.val (Runs.move rfl rfl) rfl rfl rfl ?_
    refine Seq.call (Enters.func rfl rfl rfl (run_enter Try.func63 (by kernel_rfl) rfl)) rfl rfl rfl (divide_any _ _ c d _ hu hv hcb hd hd0) ?_
    rintro e w2 ⟨q, r, rfl, hq, hr, hb2⟩
    refine ⟨_, rfl, ?_⟩
    replace bel := bel.step hb2
    replace hu := hu.step hb2
    replace hv := hv.step hb2
    refine Seq.val (Runs.move rfl rfl) rfl rfl rfl ?_
    refine Seq.val (Runs.extract rfl rfl rfl) rfl rfl rfl ?_
    refine Seq.val (Runs.extract rfl rfl rfl) rfl rfl rfl ?_
    refine Seq.val (Runs.assign rfl rfl) rfl rfl rfl ?_
    refine Seq.val (Runs.assign rfl rfl) rfl rfl rfl ?_
    refine Seq.nil ?_
    refine Post.weak (F' := [(0, _), (1, _), (6, _), (9, _)]) ⟨rfl, rfl, rfl, rfl, trivial⟩ ?_
    refine Post.then_ ?_
    refine Cd.region ?_
    refine Seq.val (Runs.move rfl rfl) rfl rfl rfl ?_
    refine Seq.val (Runs.move rfl rfl) rfl rfl rfl ?_
    refine Seq.val (Runs.assign rfl rfl) rfl rfl rfl ?_
    refine Seq.val (Runs.assign rfl rfl) rfl rfl rfl ?_
    refine Seq.nil ?_
    refine Post.weak (F' := [(0, _), (1, _), (6, _), (9, _)]) ⟨rfl, rfl, rfl, rfl, trivial⟩ ?_
    refine Post.block_normal ?_
    refine Post.round (_, r, d, c % d) ⟨rfl, rfl, trivial⟩ ⟨bel, hv, hr, hd, by dsimp only; omega, ?_⟩ (by dsimp only; omega)
    dsimp only
    rw [← hg, Nat.gcd_comm c d, Nat.gcd_rec d c, Nat.gcd_comm]
  · have hd0 : d = 0 := hz.1 (by omega)
    subst hd0
    rw [Nat.gcd_zero_right] at hg
    subst hg
    refine Cd.exit ?_
    refine Post.then_exit ?_
    refine Post.round_exit ?_
    refine Post.block_exit ?_
    refine Post.then_ ?_
    refine Cd.seq ?_
    refine Cd.region ?_
    refine Seq.val (Runs.move rfl rfl) rfl rfl rfl ?_
    refine Seq.val (Runs.assign rfl rfl) rfl rfl rfl ?_
    refine Seq.nil ?_
    refine Post.weak (F' := [(0, _), (1, _), (4, _), (9, _)]) ⟨rfl, rfl, rfl, rfl, trivial⟩ ?_
    refine Post.then_ ?_
    refine Cd.ret ?_
    refine Post.end1 rfl rfl (.inl rfl) ?_
    exact ⟨_, rfl, bel, hu⟩

theorem refGcd_any (a b : Int) (w : World) (ha : I64 a) (hb : I64 b) :
    Calls Try.prog 38 #[.int .i64 a, .int .i64 b] w fun e w' => e = .returned (.int .i64 (IntKind.i64.wrap ((Nat.gcd a.natAbs b.natAbs : Nat) : Int))) ∧ Grow w w' := by
  have bel := Below.refl w.heap.size w
  have hgb : Nat.gcd a.natAbs b.natAbs ≤ 9223372036854775808 := by
    have h1 := ha.1; have h2 := ha.2; have h3 := hb.1; have h4 := hb.2
    rcases Nat.eq_zero_or_pos a.natAbs with h | h
    · rw [h, Nat.gcd_zero_left]; omega
    · exact Nat.le_trans (Nat.gcd_le_left _ h) (by omega)
  refine Calls.start 31 Try.func38 rfl rfl rfl ?_
  refine Cd.seq ?_
  refine Cd.region ?_
  refine Seq.val (Runs.assign rfl rfl) rfl rfl rfl ?_
  refine Seq.nil ?_
  refine Post.weak (F' := [(0, _), (1, _), (4, _)]) ⟨rfl, rfl, rfl, trivial⟩ ?_
  refine Post.then_ ?_
  refine Cd.seq ?_
  refine Cd.region ?_
  refine Seq.val (Runs.move rfl rfl) rfl rfl rfl ?_
  refine Seq.call (Enters.func rfl rfl rfl (run_enter Try.func25 (by kernel_rfl) rfl)) rfl rfl rfl (of_big a _ ha.1 ha.2) ?_
  rintro e w2 ⟨va, rfl, hb2, hva⟩
  refine ⟨_, rfl, ?_⟩
  replace bel := bel.step hb2
  obtain ⟨ma, rfl, -, hma⟩ := hva.agg
  obtain ⟨Aa, ca, rfl⟩ := fieldV_agg hma
  refine Seq.val (Runs.field rfl rfl (run_field_Big _ _ _ _ _)) rfl rfl rfl ?_
  refine Seq.val (Runs.move rfl rfl) rfl rfl rfl ?_
  refine Seq.call (Enters.func rfl rfl rfl (run_enter Try.func25 (by kernel_rfl) rfl)) rfl rfl rfl (of_big b _ hb.1 hb.2) ?_
  rintro e w3 ⟨vb, rfl, hb3, hvb⟩
  refine ⟨_, rfl, ?_⟩
  replace bel := bel.step hb3
  replace hma := hma.step hb3
  obtain ⟨mb, rfl, -, hmb⟩ := hvb.agg
  obtain ⟨Ab, cb, rfl⟩ := fieldV_agg hmb
  refine Seq.val (Runs.field rfl rfl (run_field_Big _ _ _ _ _)) rfl rfl rfl ?_
  refine Seq.call (Enters.func rfl rfl rfl (run_enter Try.func62 (by kernel_rfl) rfl)) rfl rfl rfl (refgcd_any _ _ _ _ _ hma hmb ha.big hb.big) ?_
  rintro e w4 ⟨vg, rfl, hb4, hmg⟩
  refine ⟨_, rfl, ?_⟩
  replace bel := bel.step hb4
  replace hma := hma.step hb4
  replace hmb := hmb.step hb4
  generalize Nat.gcd a.natAbs b.natAbs = g at *
  obtain ⟨A, cm, rfl, hcm, hcm2, hrm⟩ := id hmg
  have hlen : (digs g).length ≤ 61 := len_big (Nat.lt_of_lt_of_le (show g < 1606938044258990275541962092341162602522202993782792835301376 by omega) (by have := big_pos; omega))
  generalize hL : (digs g).length = L at *
  refine Seq.val (Runs.assign rfl rfl) rfl rfl rfl ?_
  refine Seq.nil ?_
  refine Post.weak (F' := [(0, _), (1, _), (4, _), (5, _)]) ⟨rfl, rfl, rfl, rfl, trivial⟩ ?_
  refine Post.then_ ?_
  refine Cd.seq ?_
  refine Cd.region ?_
  refine Seq.val (Runs.assign rfl rfl) rfl rfl rfl ?_
  refine Seq.nil ?_
  refine Post.weak (F' := [(0, _), (1, _), (4, _), (5, _), (6, _)]) ⟨rfl, rfl, rfl, rfl, rfl, trivial⟩ ?_
  refine Post.then_ ?_
  refine Cd.seq ?_
  refine Cd.seq ?_
  refine Cd.region ?_
  refine Seq.val (Runs.move rfl rfl) rfl rfl rfl ?_
  refine Seq.val (Runs.len rfl rfl Try.underlying29) rfl rfl rfl ?_
  refine Seq.val (Runs.subI rfl rfl rfl (by omega) (by omega)) rfl rfl rfl ?_
  refine Seq.val (Runs.assign rfl rfl) rfl rfl rfl ?_
  refine Seq.nil ?_
  refine Post.weak (F' := [(0, _), (1, _), (4, _), (5, _), (6, _), (7, _)]) ⟨rfl, rfl, rfl, rfl, rfl, rfl, trivial⟩ ?_
  refine Post.then_ ?_
  refine Cd.block ?_
  refine Cd.loop (σ := Nat) (fun k => [(5, .slice A L cm), (6, .int .u64 (valFrom (digs g) k : Int)), (7, .int .i64 ((k : Int) - 1))])
    (fun k wr => k ≤ L ∧ Below w.heap.size w wr ∧ Below w4.heap.size w4 wr) (fun k => k) L ⟨Nat.le_refl _, bel, Below.refl _ _⟩ ⟨rfl, ?_, rfl, trivial⟩ ?_
  · show some (Value.int .u64 0) = _
    unfold valFrom
    rw [List.drop_of_length_le (by omega)]; rfl
  clear bel
  rintro k wr ⟨hk, bel, bl4⟩
  have hvl := valFrom_le (digs g) k
  rw [val_digs] at hvl
  refine Cd.seq ?_
  refine Cd.seq ?_
  refine Cd.region ?_
  refine Seq.val (Runs.move rfl rfl) rfl rfl rfl ?_
  refine Seq.val (Runs.geq rfl rfl rfl) rfl rfl rfl ?_
  refine Seq.nil ?_
  refine Post.weak (F' := [(5, _), (6, _), (7, _), (19, _)]) ⟨rfl, rfl, rfl, rfl, trivial⟩ ?_
  refine Post.then_ ?_
  refine Cd.condD rfl (fun hc => ?_) (fun hc => ?_)
  · obtain ⟨j, rfl⟩ : ∃ j, k = j + 1 := ⟨k - 1, by omega⟩
    obtain ⟨ad, p, rfl, hbp, hp, hcp⟩ := hrm.dig bl4 (Nat.le_refl _) (show j < L by omega)
    have hst := valFrom_step _ _ _ hp
    have hvl2 := valFrom_le (digs g) j
    rw [val_digs] at hvl2
    refine Cd.skip ?_
    refine Post.then_ ?_
    refine Cd.seq ?_
    refine Cd.block ?_
    refine Cd.region ?_
    refine Seq.val (Runs.move rfl rfl) rfl rfl rfl ?_
    refine Seq.val (Runs.mulU rfl rfl rfl (by omega) (by omega)) rfl rfl rfl ?_
    refine Seq.val (Runs.move rfl rfl) rfl rfl rfl ?_
    refine Seq.val (Runs.move rfl rfl) rfl rfl rfl ?_
    refine Seq.val (Runs.index1 rfl rfl rfl Try.underlying29 (by kernel_rfl) (j := j) (by omega) (by omega)) rfl rfl rfl ?_
    refine Seq.val (Runs.load1 rfl rfl Try.underlying62 rfl hcp) rfl rfl rfl ?_
    refine Seq.val (Runs.addW rfl rfl rfl (r := ((valFrom (digs g) j : Nat) : Int)) (by rw [hst]; exact (wrapU (by omega) (by omega)).trans (by omega))) rfl rfl rfl ?_
    refine Seq.val (Runs.assign rfl rfl) rfl rfl rfl ?_
    refine Seq.nil ?_
    refine Post.weak (F' := [(5, _), (6, _), (7, _), (19, _)]) ⟨rfl, rfl, rfl, rfl, trivial⟩ ?_
    refine Post.block_normal ?_
    refine Post.then_ ?_
    refine Cd.region ?_
    refine Seq.val (Runs.move rfl rfl) rfl rfl rfl ?_
    refine Seq.val (Runs.subI rfl rfl rfl (by omega) (by omega)) rfl rfl rfl ?_
    refine Seq.val (Runs.assign rfl rfl) rfl rfl rfl ?_
    refine Seq.nil ?_
    refine Post.weak (F' := [(5, _), (6, _), (7, _), (19, _)]) ⟨rfl, rfl, rfl, rfl, trivial⟩ ?_
    refine Post.round j ⟨rfl, rfl, ?_, trivial⟩ ⟨by omega, bel, bl4⟩ (Nat.lt_succ_self _)
    show some (Value.int .i64 (((j + 1 : Nat) : Int) - 1 - 1)) = _
    rw [show ((j + 1 : Nat) : Int) - 1 - 1 = (j : Int) - 1 from by omega]
  · obtain rfl : k = 0 := by omega
    have hv0 : valFrom (digs g) 0 = g := val_digs _
    rw [hv0]
    refine Cd.exit ?_
    refine Post.then_exit ?_
    refine Post.round_exit ?_
    refine Post.block_exit ?_
    refine Post.then_ ?_
    refine Cd.seq ?_
    refine Cd.region ?_
    refine Seq.val (Runs.move rfl rfl) rfl rfl rfl ?_
    refine Seq.val (Runs.convI rfl rfl Try.underlying62 Try.underlying2 rfl) rfl rfl rfl ?_
    refine Seq.val (Runs.assign rfl rfl) rfl rfl rfl ?_
    refine Seq.nil ?_
    refine Post.weak (F' := [(4, _), (5, _), (6, _), (7, _), (19, _)]) ⟨rfl, rfl, rfl, rfl, rfl, trivial⟩ ?_
    refine Post.then_ ?_
    refine Cd.ret ?_
    refine Post.end1 rfl rfl (.inl rfl) ?_
    exact ⟨rfl, bel⟩
end Go.Proofs.Ytpdeihienkbeeaa

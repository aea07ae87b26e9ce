/-
  debentureref01's Over, MulDiv: what each answers. Condition: the numbers keep a bound.
-/
import Derived.Test.YtpdeihienkbeeaaBigJ
import Derived.Test.YtpdeihienkbeeaaNumE
namespace Go.Proofs.Ytpdeihienkbeeaa
open Go.RowKit

theorem fieldV_agg {w : World} {v : Value} {n : Nat} (h : MagR w v n) : ∃ A c, v = .slice A (digs n).length c := by obtain ⟨A, c, e, _⟩ := h; exact ⟨A, c, e⟩
theorem sgn_neg (ns : Bool) (n : Nat) : (ns && decide (0 < n)) = decide (sgn ns n < 0) := by
  unfold sgn
  cases ns
  · simp
  · rw [Bool.eq_iff_iff]; simp
theorem natAbs_sgn (ns : Bool) (n : Nat) : (sgn ns n).natAbs = n := by unfold sgn; cases ns <;> simp
theorem mag_one (w : World) (g : Nat) (t : TypeId) (cs : Array Value) (hcs : cs = #[.int .u64 1]) (k : Blk w g t cs) : MagR w (.slice (some ⟨g, 0, none⟩) 1 1) 1 := by
  have e1 : digs 1 = [1] := by rw [digs_pos 1 (by omega), digs_zero]
  refine ⟨_, 1, by rw [e1]; rfl, by rw [e1]; exact Nat.le_refl _, by omega, ?_⟩
  rw [e1]
  refine ⟨rfl, fun _ => ⟨_, rfl, k.lt, fun i u hu => ?_⟩⟩
  have hadd : (⟨g, 0, none⟩ : Addr).add i = ⟨g, i, none⟩ := by unfold Addr.add; split <;> simp_all
  rw [hadd, k.cell i, hcs]
  simpa [U] using hu

theorem over_ref (x y : Value) (a b mode : Int) (w : World) (hx : BigR w x a) (hy : BigR w y b) (ha : a.natAbs < big) (hb : b.natAbs < big) (h0 : b ≠ 0) :
    Calls Try.prog 46 #[x, y, .int .i64 mode] w fun e w' => ∃ v, e = .returned v ∧ Grow w w' ∧ BigR w' v (rndZ a.natAbs (decide (a < 0)) b mode) := by
  obtain ⟨m, rfl, om, hm⟩ := hx.agg
  obtain ⟨p, rfl, op, hp⟩ := hy.agg
  have bel := Below.refl w.heap.size w
  have hb0 : 0 < b.natAbs := by omega
  unfold rndZ
  generalize hns : decide (decide (a < 0) ≠ decide (b < 0)) = ns
  have hqle := Nat.div_le_self a.natAbs b.natAbs
  have hrlt := Nat.mod_lt a.natAbs hb0
  refine Calls.start 71 Try.func46 rfl rfl rfl ?_
  refine Cd.seq ?_
  refine Cd.region ?_
  refine Seq.box rfl rfl rfl rfl rfl ?_
  intro g3 w1 n3
  have e3 := Nat.le_trans bel.size n3.ge
  replace bel := bel.step n3.below
  replace hm := hm.step n3.below
  replace hp := hp.step n3.below
  have k3 := n3.blk
  refine Seq.box rfl rfl rfl rfl rfl ?_
  intro g4 w2 n4
  have e4 := Nat.le_trans bel.size n4.ge
  have l4 := Nat.lt_of_lt_of_le k3.lt n4.ge
  replace bel := bel.step n4.below
  replace hm := hm.step n4.below
  replace hp := hp.step n4.below
  replace k3 := k3.step n4.below
  have k4 := n4.blk
  refine Seq.alloc rfl (run_zero zero_debentureref01_Big) rfl rfl rfl ?_
  intro g6 w3 n6
  have e6 := Nat.le_trans bel.size n6.ge
  have l6 := Nat.lt_of_lt_of_le k4.lt n6.ge
  replace bel := bel.step n6.below
  replace hm := hm.step n6.below
  replace hp := hp.step n6.below
  replace k3 := k3.step n6.below
  replace k4 := k4.step n6.below
  have k6 := n6.blk
  refine Seq.nil ?_
  refine Post.weak (F' := [(0, _), (1, _), (2, _), (3, _), (4, _), (6, _)]) ⟨rfl, rfl, rfl, rfl, rfl, rfl, trivial⟩ ?_
  refine Post.then_ ?_
  refine Cd.seq ?_
  refine Cd.region ?_
  refine Seq.val (Runs.fieldB 1 rfl rfl Try.underlying31 rfl (by kernel_rfl)) rfl rfl rfl ?_
  refine Seq.val (Runs.loadB rfl rfl Try.underlying29 rfl k3 rfl) rfl rfl rfl ?_
  refine Seq.val (Runs.fieldB 1 rfl rfl Try.underlying31 rfl (by kernel_rfl)) rfl rfl rfl ?_
  refine Seq.val (Runs.loadB rfl rfl Try.underlying29 rfl k4 rfl) rfl rfl rfl ?_
  refine Seq.call (Enters.func rfl rfl rfl (run_enter Try.func63 (by kernel_rfl) rfl)) rfl rfl rfl (divide_any _ _ _ _ _ hm hp ha hb hb0) ?_
  rintro e w4 ⟨qv, rv, rfl, hq, hr, hb4⟩
  refine ⟨_, rfl, ?_⟩
  replace bel := bel.step hb4
  replace hm := hm.step hb4
  replace hp := hp.step hb4
  replace k3 := k3.step hb4
  replace k4 := k4.step hb4
  replace k6 := k6.step hb4
  obtain ⟨Aq, cq, rfl⟩ := fieldV_agg hq
  obtain ⟨Ar, cr, rfl⟩ := fieldV_agg hr
  generalize a.natAbs / b.natAbs = q at *
  generalize a.natAbs % b.natAbs = r at *
  have hlr := len_big (n := r) (by omega)
  have hlq := len_big (n := q) (by omega)
  have hlb := len_big (n := b.natAbs) (by omega)
  have hl2 := len_big (n := r + r) (by omega)
  have hrz := digs_len_zero r
  have hqz := digs_len_zero q
  refine Seq.val (Runs.move rfl rfl) rfl rfl rfl ?_
  refine Seq.val (Runs.extract rfl rfl rfl) rfl rfl rfl ?_
  refine Seq.val (Runs.extract rfl rfl rfl) rfl rfl rfl ?_
  refine Seq.val (Runs.assign rfl rfl) rfl rfl rfl ?_
  refine Seq.val (Runs.assign rfl rfl) rfl rfl rfl ?_
  refine Seq.nil ?_
  refine Post.weak (F' := [(0, _), (1, _), (2, _), (3, _), (4, _), (6, _), (7, _), (8, _)]) ⟨rfl, rfl, rfl, rfl, rfl, rfl, rfl, rfl, trivial⟩ ?_
  refine Post.then_ ?_
  refine Cd.seq ?_
  refine Cd.region ?_
  refine Seq.val (Runs.fieldB 0 rfl rfl Try.underlying31 rfl (by kernel_rfl)) rfl rfl rfl ?_
  refine Seq.val (Runs.loadB rfl rfl Try.underlying4 rfl k3 rfl) rfl rfl rfl ?_
  refine Seq.val (Runs.fieldB 0 rfl rfl Try.underlying31 rfl (by kernel_rfl)) rfl rfl rfl ?_
  refine Seq.val (Runs.loadB rfl rfl Try.underlying4 rfl k4 rfl) rfl rfl rfl ?_
  refine Seq.val (Runs.neqB rfl rfl rfl Try.underlying4) rfl rfl rfl ?_
  refine Seq.val (Runs.assign rfl rfl) rfl rfl rfl ?_
  refine Seq.nil ?_
  refine Post.weak (F' := [(0, _), (1, _), (2, _), (3, _), (4, _), (6, _), (7, _), (8, _), (9, _)]) ⟨rfl, rfl, rfl, rfl, rfl, rfl, rfl, rfl, rfl, trivial⟩ ?_
  refine Post.then_ ?_
  refine Cd.seq ?_
  rw [hns]
  refine Cd.weak (F' := [(0, _), (1, _), (2, _), (3, _), (4, _), (6, _), (7, _), (8, _), (9, _)]) ⟨rfl, rfl, rfl, rfl, rfl, rfl, rfl, rfl, rfl, trivial⟩ ?_
  refine Cd.draw 7 (by kernel_rfl) [] (.inl rfl) rfl Grow Grow.refl (fun _ _ _ => Grow.trans) ?_
  intro w4 hw4 zw4
  replace bel := bel.step hw4
  replace hm := hm.step hw4
  replace hp := hp.step hw4
  replace k3 := k3.step hw4
  replace k4 := k4.step hw4
  replace k6 := k6.step hw4
  replace hq := hq.step hw4
  replace hr := hr.step hw4
  have zbel := bel.size
  have zlt := k6.lt
  refine Dr.val Grow.refl rfl (fun w hG => Runs.move rfl rfl) rfl ?_
  refine Dr.val Grow.refl rfl (fun w hG => Runs.move rfl rfl) rfl ?_
  refine Dr.call (Φ := fun v w => MagR w v (r + r)) rfl (fun w => Enters.func rfl rfl rfl (run_enter Try.func53 (by kernel_rfl) rfl)) rfl (MagR.stable _) (fun w hG => add_mag _ _ _ _ _ _ (hr.step hG) (hr.step hG) rfl (by omega) (by omega)) ?_
  refine Dr.val Grow.refl rfl (fun w hG => Runs.fieldB 1 rfl rfl Try.underlying31 rfl (by kernel_rfl)) rfl ?_
  refine Dr.val Grow.refl rfl (fun w hG => Runs.loadB rfl rfl Try.underlying29 rfl (k4.step hG) rfl) rfl ?_
  refine Dr.call1V (j := 2) rfl rfl rfl (fun u w => Enters.func rfl rfl rfl (run_enter Try.func54 (by kernel_rfl) rfl)) rfl (fun u w hG hu => (cmp_any _ _ (r + r) b.natAbs _ hu (hp.step hG) (by omega) (by omega)).mono (fun e w' h => ⟨h.1, h.2.below _⟩)) ?_
  refine Dr.val Grow.refl rfl (fun w hG => Runs.assign rfl rfl) rfl ?_
  refine Dr.nil ?_
  refine FinX.done (F' := [(0, _), (1, _), (2, _), (3, _), (4, _), (6, _), (7, _), (8, _), (9, _), (10, _)]) rfl ⟨rfl, rfl, rfl, rfl, rfl, rfl, rfl, rfl, rfl, rfl, trivial⟩ ?_
  intro w5 hw5 fw5
  replace bel := bel.step hw5
  replace hm := hm.step hw5
  replace hp := hp.step hw5
  replace k3 := k3.step hw5
  replace k4 := k4.step hw5
  replace k6 := k6.step hw5
  replace hq := hq.step hw5
  replace hr := hr.step hw5
  refine Seq.nil ?_
  refine Post.weak (F' := [(0, _), (1, _), (2, _), (3, _), (4, _), (6, _), (7, _), (8, _), (9, _), (10, _)]) ⟨rfl, rfl, rfl, rfl, rfl, rfl, rfl, rfl, rfl, rfl, trivial⟩ ?_
  refine Post.then_ ?_
  refine Cd.seq ?_
  refine Cd.region ?_
  refine Seq.val (Runs.assign rfl rfl) rfl rfl rfl ?_
  refine Seq.nil ?_
  refine Post.weak (F' := [(0, _), (1, _), (2, _), (3, _), (4, _), (6, _), (7, _), (8, _), (9, _), (10, _), (11, _)]) ⟨rfl, rfl, rfl, rfl, rfl, rfl, rfl, rfl, rfl, rfl, rfl, trivial⟩ ?_
  refine Post.then_ ?_
  refine Cd.seqJ (σ := Unit) (fun _ => [(6, .pointer (some ⟨g6, 0, none⟩)), (7, .slice Aq (digs q).length cq), (9, .bool ns), (11, .bool (awayB mode (decide (q % 2 = 1)) ns r b.natAbs))])
    (fun _ wr => Below w.heap.size w wr ∧ MagR wr (.slice Aq (digs q).length cq) q ∧ Blk wr g6 31 #[.bool false, .slice none 0 0]) ?_ ?_
  · skip
    refine Cd.seq ?_
    refine Cd.region ?_
    refine Seq.val (Runs.move rfl rfl) rfl rfl rfl ?_
    refine Seq.nil ?_
    refine Post.weak (F' := [(0, _), (1, _), (2, _), (3, _), (4, _), (6, _), (7, _), (8, _), (9, _), (10, _), (11, _), (31, _)]) ⟨rfl, rfl, rfl, rfl, rfl, rfl, rfl, rfl, rfl, rfl, rfl, rfl, trivial⟩ ?_
    refine Post.then_ ?_
    refine Cd.block ?_
    refine Cd.seq ?_
    refine Cd.region ?_
    refine Seq.val (Runs.eqlI rfl rfl rfl) rfl rfl rfl ?_
    refine Seq.val (Runs.assign rfl rfl) rfl rfl rfl ?_
    refine Seq.nil ?_
    refine Post.weak (F' := [(0, _), (1, _), (2, _), (3, _), (4, _), (6, _), (7, _), (8, _), (9, _), (10, _), (11, _), (31, _), (32, _)]) ⟨rfl, rfl, rfl, rfl, rfl, rfl, rfl, rfl, rfl, rfl, rfl, rfl, rfl, trivial⟩ ?_
    refine Post.then_ ?_
    refine Cd.condD rfl (fun hc => ?_) (fun hc => ?_)
    · skip
      refine Cd.region ?_
      refine Seq.val (Runs.move rfl rfl) rfl rfl rfl ?_
      refine Seq.val (Runs.move rfl rfl) rfl rfl rfl ?_
      refine SeqC.start ?_
      refine SeqC.open rfl rfl rfl rfl rfl rfl rfl (fun hcx => Runs.move rfl rfl) ?_
      refine SeqC.next rfl rfl rfl rfl rfl rfl rfl (fun hcx => Runs.len rfl rfl Try.underlying29) ?_
      refine SeqC.next rfl rfl rfl rfl rfl rfl rfl (fun hcx => Runs.gtr rfl rfl rfl) ?_
      refine SeqC.and rfl rfl rfl rfl rfl rfl rfl ?_
      refine Seq.val (Runs.assign rfl rfl) rfl rfl rfl ?_
      refine Seq.nil ?_
      refine Post.weak (F' := [(0, _), (1, _), (2, _), (3, _), (4, _), (6, _), (7, _), (8, _), (9, _), (10, _), (11, _), (31, _), (32, _)]) ⟨rfl, rfl, rfl, rfl, rfl, rfl, rfl, rfl, rfl, rfl, rfl, rfl, rfl, trivial⟩ ?_
      refine Post.block_normal ?_
      refine Post.join () ⟨rfl, rfl, rfl, ?_, trivial⟩ ⟨bel, hq, k6⟩
      refine congrArg (fun z => some (Value.bool z)) ?_
      unfold awayB
      rw [if_pos hc, Bool.eq_iff_iff]
      simp
      omega
    · skip
      refine Cd.seq ?_
      refine Cd.region ?_
      refine Seq.val (Runs.eqlI rfl rfl rfl) rfl rfl rfl ?_
      refine Seq.val (Runs.assign rfl rfl) rfl rfl rfl ?_
      refine Seq.nil ?_
      refine Post.weak (F' := [(0, _), (1, _), (2, _), (3, _), (4, _), (6, _), (7, _), (8, _), (9, _), (10, _), (11, _), (31, _), (32, _), (40, _)]) ⟨rfl, rfl, rfl, rfl, rfl, rfl, rfl, rfl, rfl, rfl, rfl, rfl, rfl, rfl, trivial⟩ ?_
      refine Post.then_ ?_
      refine Cd.condD rfl (fun hc2 => ?_) (fun hc2 => ?_)
      · skip
        refine Cd.region ?_
        refine Seq.val (Runs.move rfl rfl) rfl rfl rfl ?_
        refine Seq.val (Runs.geq rfl rfl rfl) rfl rfl rfl ?_
        refine Seq.val (Runs.assign rfl rfl) rfl rfl rfl ?_
        refine Seq.nil ?_
        refine Post.weak (F' := [(0, _), (1, _), (2, _), (3, _), (4, _), (6, _), (7, _), (8, _), (9, _), (10, _), (11, _), (31, _), (32, _), (40, _)]) ⟨rfl, rfl, rfl, rfl, rfl, rfl, rfl, rfl, rfl, rfl, rfl, rfl, rfl, rfl, trivial⟩ ?_
        refine Post.block_normal ?_
        refine Post.join () ⟨rfl, rfl, rfl, ?_, trivial⟩ ⟨bel, hq, k6⟩
        refine congrArg (fun z => some (Value.bool z)) ?_
        unfold awayB cmpN
        rw [if_neg hc, if_pos hc2, Bool.eq_iff_iff]
        simp
        split
        · omega
        · split <;> omega
      · skip
        refine Cd.seq ?_
        refine Cd.region ?_
        refine Seq.val (Runs.eqlI rfl rfl rfl) rfl rfl rfl ?_
        refine Seq.val (Runs.assign rfl rfl) rfl rfl rfl ?_
        refine Seq.nil ?_
        refine Post.weak (F' := [(0, _), (1, _), (2, _), (3, _), (4, _), (6, _), (7, _), (8, _), (9, _), (10, _), (11, _), (31, _), (32, _), (40, _), (44, _)]) ⟨rfl, rfl, rfl, rfl, rfl, rfl, rfl, rfl, rfl, rfl, rfl, rfl, rfl, rfl, rfl, trivial⟩ ?_
        refine Post.then_ ?_
        refine Cd.condD rfl (fun hc3 => ?_) (fun hc3 => ?_)
        · skip
          by_cases hq0 : q = 0
          · subst hq0
            have hl0 := hqz.2 rfl
            refine Cd.region ?_
            refine Seq.val (Runs.move rfl rfl) rfl rfl rfl ?_
            refine Seq.val (Runs.gtr rfl rfl rfl) rfl rfl rfl ?_
            refine Seq.val (Runs.move rfl rfl) rfl rfl rfl ?_
            refine SeqC.start ?_
            refine SeqC.open rfl rfl rfl rfl rfl rfl rfl (fun hcx => Runs.move rfl rfl) ?_
            refine SeqC.next rfl rfl rfl rfl rfl rfl rfl (fun hcx => Runs.eqlI rfl rfl rfl) ?_
            refine SeqC.next rfl rfl rfl rfl rfl rfl rfl (fun hcx => Runs.move rfl rfl) ?_
            refine SeqC.open rfl rfl rfl rfl rfl rfl rfl (fun hcx => Runs.move rfl rfl) ?_
            refine SeqC.next rfl rfl rfl rfl rfl rfl rfl (fun hcx => Runs.len rfl rfl Try.underlying29) ?_
            refine SeqC.next rfl rfl rfl rfl rfl rfl rfl (fun hcx => Runs.gtr rfl rfl rfl) ?_
            refine SeqC.andG rfl rfl rfl rfl rfl rfl rfl rfl rfl rfl rfl ?_
            refine SeqC.next rfl rfl rfl rfl rfl rfl rfl (fun hcx => Runs.move rfl rfl) ?_
            refine SeqC.open rfl rfl rfl rfl rfl rfl rfl (fun hcx => Runs.move rfl rfl) ?_
            refine SeqC.next rfl rfl rfl rfl rfl rfl rfl (fun hcx => (by exfalso; simp [hl0] at hcx : Runs _ _ _ _ undef _)) ?_
            refine SeqC.next rfl rfl rfl rfl rfl rfl rfl (fun hcx => (by exfalso; simp [hl0] at hcx : Runs _ _ _ _ undef _)) ?_
            refine SeqC.next rfl rfl rfl rfl rfl rfl rfl (fun hcx => (by exfalso; simp [hl0] at hcx : Runs _ _ _ _ (.int .u64 0) _)) ?_
            refine SeqC.next rfl rfl rfl rfl rfl rfl rfl (fun hcx => Runs.eqlI rfl rfl rfl) ?_
            refine SeqC.andG rfl rfl rfl rfl rfl rfl rfl rfl rfl rfl rfl ?_
            refine SeqC.or rfl rfl rfl rfl rfl rfl rfl ?_
            refine Seq.val (Runs.assign rfl rfl) rfl rfl rfl ?_
            refine Seq.nil ?_
            refine Post.weak (F' := [(0, _), (1, _), (2, _), (3, _), (4, _), (6, _), (7, _), (8, _), (9, _), (10, _), (11, _), (31, _), (32, _), (40, _), (44, _)]) ⟨rfl, rfl, rfl, rfl, rfl, rfl, rfl, rfl, rfl, rfl, rfl, rfl, rfl, rfl, rfl, trivial⟩ ?_
            refine Post.block_normal ?_
            refine Post.join () ⟨rfl, rfl, rfl, ?_, trivial⟩ ⟨bel, hq, k6⟩
            refine congrArg (fun z => some (Value.bool z)) ?_
            unfold awayB cmpN
            rw [if_neg hc, if_neg hc2, if_pos hc3, Bool.eq_iff_iff]
            simp [hl0]
            split
            · omega
            · split <;> omega
          · obtain ⟨Aq', cq', e1, hl1, hl2, hrq⟩ := id hq
            cases e1
            obtain ⟨ad, d, rfl, hbl, hd, hcell⟩ := hrq.dig (Below.refl _ _) (Nat.le_refl _) (show 0 < (digs q).length by omega)
            have hdq : d = q % 65536 := by
              rw [digs_pos q hq0] at hd
              simpa using hd.symm
            refine Cd.region ?_
            refine Seq.val (Runs.move rfl rfl) rfl rfl rfl ?_
            refine Seq.val (Runs.gtr rfl rfl rfl) rfl rfl rfl ?_
            refine Seq.val (Runs.move rfl rfl) rfl rfl rfl ?_
            refine SeqC.start ?_
            refine SeqC.open rfl rfl rfl rfl rfl rfl rfl (fun hcx => Runs.move rfl rfl) ?_
            refine SeqC.next rfl rfl rfl rfl rfl rfl rfl (fun hcx => Runs.eqlI rfl rfl rfl) ?_
            refine SeqC.next rfl rfl rfl rfl rfl rfl rfl (fun hcx => Runs.move rfl rfl) ?_
            refine SeqC.open rfl rfl rfl rfl rfl rfl rfl (fun hcx => Runs.move rfl rfl) ?_
            refine SeqC.next rfl rfl rfl rfl rfl rfl rfl (fun hcx => Runs.len rfl rfl Try.underlying29) ?_
            refine SeqC.next rfl rfl rfl rfl rfl rfl rfl (fun hcx => Runs.gtr rfl rfl rfl) ?_
            refine SeqC.andG rfl rfl rfl rfl rfl rfl rfl rfl rfl rfl rfl ?_
            refine SeqC.next rfl rfl rfl rfl rfl rfl rfl (fun hcx => Runs.move rfl rfl) ?_
            refine SeqC.open rfl rfl rfl rfl rfl rfl rfl (fun hcx => Runs.move rfl rfl) ?_
            refine SeqC.next rfl rfl rfl rfl rfl rfl rfl (fun hcx => Runs.index1 rfl rfl rfl Try.underlying29 (by kernel_rfl) (j := 0) rfl (by omega)) ?_
            refine SeqC.next rfl rfl rfl rfl rfl rfl rfl (fun hcx => Runs.load1 rfl rfl Try.underlying62 rfl hcell) ?_
            refine SeqC.next rfl rfl rfl rfl rfl rfl rfl (fun hcx => Runs.remL 2 rfl rfl rfl rfl (by omega)) ?_
            refine SeqC.next rfl rfl rfl rfl rfl rfl rfl (fun hcx => Runs.eqlI rfl rfl rfl) ?_
            refine SeqC.andG rfl rfl rfl rfl rfl rfl rfl rfl rfl rfl rfl ?_
            refine SeqC.or rfl rfl rfl rfl rfl rfl rfl ?_
            refine Seq.val (Runs.assign rfl rfl) rfl rfl rfl ?_
            refine Seq.nil ?_
            refine Post.weak (F' := [(0, _), (1, _), (2, _), (3, _), (4, _), (6, _), (7, _), (8, _), (9, _), (10, _), (11, _), (31, _), (32, _), (40, _), (44, _)]) ⟨rfl, rfl, rfl, rfl, rfl, rfl, rfl, rfl, rfl, rfl, rfl, rfl, rfl, rfl, rfl, trivial⟩ ?_
            refine Post.block_normal ?_
            refine Post.join () ⟨rfl, rfl, rfl, ?_, trivial⟩ ⟨bel, hq, k6⟩
            refine congrArg (fun z => some (Value.bool z)) ?_
            have hpar : q % 65536 % 2 = q % 2 := by omega
            unfold awayB cmpN
            rw [if_neg hc, if_neg hc2, if_pos hc3, Bool.eq_iff_iff, hdq, hpar]
            simp
            split
            · omega
            · split <;> omega
        · skip
          refine Cd.skip ?_
          refine Post.block_normal ?_
          refine Post.join () ⟨rfl, rfl, rfl, ?_, trivial⟩ ⟨bel, hq, k6⟩
          refine congrArg (fun z => some (Value.bool z)) ?_
          unfold awayB
          rw [if_neg hc, if_neg hc2, if_neg hc3]
  clear bel hm hp k3 k4 k6 hq hr
  rintro ⟨⟩ wr ⟨bel, hq, k6⟩
  refine Cd.seq ?_
  refine Cd.seq ?_
  refine Cd.region ?_
  refine Seq.val (Runs.move rfl rfl) rfl rfl rfl ?_
  refine Seq.nil ?_
  refine Post.weak (F' := [(6, _), (7, _), (9, _), (11, _), (64, _)]) ⟨rfl, rfl, rfl, rfl, rfl, trivial⟩ ?_
  refine Post.then_ ?_
  refine Cd.cond rfl (fun hup => ?_) (fun hup => ?_)
  · rw [hup]
    simp only [if_true]
    have hlq1 := len_big (n := q + 1) (by omega)
    refine Cd.region ?_
    refine Seq.val (Runs.move rfl rfl) rfl rfl rfl ?_
    refine Seq.slice (vs := [_]) (s := 1) rfl rfl rfl Try.underlying29 (by kernel_rfl) (zero_uint64) (by omega) (by omega) ⟨rfl, trivial⟩ rfl rfl rfl ?_
    intro g66 w6 n66
    have e66 := Nat.le_trans bel.size n66.ge
    have l66 := Nat.lt_of_lt_of_le k6.lt n66.ge
    replace bel := bel.step n66.below
    replace k6 := k6.step n66.below
    replace hq := hq.step n66.below
    have k66 := n66.blk
    refine Seq.call (Enters.func rfl rfl rfl (run_enter Try.func53 (by kernel_rfl) rfl)) rfl rfl rfl (add_mag _ _ q 1 (q + 1) _ hq (mag_one _ _ _ _ rfl k66) rfl (by omega) (by rw [digs_pos 1 (by omega), digs_zero]; simp)) ?_
    rintro e w7 ⟨q2, rfl, hb7, hq2⟩
    refine ⟨_, rfl, ?_⟩
    replace bel := bel.step hb7
    replace k6 := k6.step hb7
    replace hq := hq.step hb7
    replace k66 := k66.step hb7
    refine Seq.val (Runs.assign rfl rfl) rfl rfl rfl ?_
    refine Seq.nil ?_
    refine Post.weak (F' := [(6, _), (7, _), (9, _), (11, _), (64, _)]) ⟨rfl, rfl, rfl, rfl, rfl, trivial⟩ ?_
    refine Post.then_ ?_
    refine Cd.seq ?_
    refine Cd.region ?_
    refine Seq.val (Runs.move rfl rfl) rfl rfl rfl ?_
    refine Seq.val (Runs.move rfl rfl) rfl rfl rfl ?_
    refine Seq.call (Enters.func rfl rfl rfl (run_enter Try.func52 (by kernel_rfl) rfl)) rfl rfl rfl (sign_big _ _ _ _ _ hq2 (by omega) (natAbs_sgn ns (q + 1)) (sgn_neg ns (q + 1))) ?_
    rintro e w8 ⟨v, rfl, hb8, hv⟩
    refine ⟨_, rfl, ?_⟩
    replace bel := bel.step hb8
    replace k6 := k6.step hb8
    replace hq := hq.step hb8
    replace k66 := k66.step hb8
    replace hq2 := hq2.step hb8
    obtain ⟨m9, rfl, o9, h9⟩ := hv.agg
    have i9 := h9.ni
    refine Seq.storeN rfl rfl rfl rfl (m := 2) (by kernel_rfl) rfl (by repeat' first | exact trivial | apply And.intro | rfl | assumption) k6 (by simp [Value.cells]) rfl rfl ?_
    intro w7 pw7
    replace bel := bel.put k6 pw7 e6
    replace k66 := k66.put pw7 (by omega)
    replace h9 := h9.put k6 pw7 e6
    replace k6 := pw7.blk
    refine Seq.nil ?_
    refine Post.weak (F' := [(6, _), (7, _), (9, _), (11, _), (64, _)]) ⟨rfl, rfl, rfl, rfl, rfl, trivial⟩ ?_
    refine Post.then_ ?_
    refine Cd.ret ?_
    refine Post.endC rfl rfl k6 Try.underlying31 rfl (m := 2) (by kernel_rfl) rfl (.inl rfl) ?_
    exact ⟨_, rfl, bel, _, rfl, h9⟩
  · rw [hup]
    simp only [Bool.false_eq_true, if_false, Nat.add_zero]
    refine Cd.skip ?_
    refine Post.then_ ?_
    refine Cd.seq ?_
    refine Cd.region ?_
    refine Seq.val (Runs.move rfl rfl) rfl rfl rfl ?_
    refine Seq.val (Runs.move rfl rfl) rfl rfl rfl ?_
    refine Seq.call (Enters.func rfl rfl rfl (run_enter Try.func52 (by kernel_rfl) rfl)) rfl rfl rfl (sign_big _ _ _ _ _ hq (by omega) (natAbs_sgn ns q) (sgn_neg ns q)) ?_
    rintro e w8 ⟨v, rfl, hb8, hv⟩
    refine ⟨_, rfl, ?_⟩
    replace bel := bel.step hb8
    replace k6 := k6.step hb8
    replace hq := hq.step hb8
    obtain ⟨m9, rfl, o9, h9⟩ := hv.agg
    have i9 := h9.ni
    refine Seq.storeN rfl rfl rfl rfl (m := 2) (by kernel_rfl) rfl (by repeat' first | exact trivial | apply And.intro | rfl | assumption) k6 (by simp [Value.cells]) rfl rfl ?_
    intro w6 pw6
    replace bel := bel.put k6 pw6 e6
    replace h9 := h9.put k6 pw6 e6
    replace k6 := pw6.blk
    refine Seq.nil ?_
    refine Post.weak (F' := [(6, _), (7, _), (9, _), (11, _), (64, _)]) ⟨rfl, rfl, rfl, rfl, rfl, trivial⟩ ?_
    refine Post.then_ ?_
    refine Cd.ret ?_
    refine Post.endC rfl rfl k6 Try.underlying31 rfl (m := 2) (by kernel_rfl) rfl (.inl rfl) ?_
    exact ⟨_, rfl, bel, _, rfl, h9⟩

theorem natAbs_mul_big {a b : Int} (ha : I64 a) (hb : I64 b) : (a * b).natAbs < big := by
  refine big_of ?_
  rw [Int.natAbs_mul]
  have h1 := ha.1; have h2 := ha.2; have h3 := hb.1; have h4 := hb.2
  have := Nat.mul_le_mul (show a.natAbs ≤ 9223372036854775808 by omega) (show b.natAbs ≤ 9223372036854775808 by omega)
  omega
theorem I64.big {a : Int} (h : I64 a) : a.natAbs < big := by obtain ⟨h0, h1⟩ := h; exact big_of (by omega)
theorem small_big' (x : Value) (a : Int) (w : World) (hx : BigR w x a) (ha : a.natAbs < big) :
    Calls Try.prog 45 #[x] w fun e w' => e = .returned (.tuple #[.int .i64 (smallOf a), .bool (fits a)]) ∧ Grow w w' := small_any x a w hx ha

theorem rndZ_big (m : Nat) (neg : Bool) (c mode : Int) (h : m < 1000000000000000000000000000000000000000000) : (rndZ m neg c mode).natAbs < big := by
  refine big_of ?_
  unfold rndZ
  rw [natAbs_sgn]
  have := Nat.div_le_self m c.natAbs
  split <;> omega
/-- The sign of nought does not matter. -/
theorem rndZ_zero (neg neg' : Bool) (c mode : Int) (h0 : c ≠ 0) : rndZ 0 neg c mode = rndZ 0 neg' c mode := by
  have hp : 0 < c.natAbs := by omega
  have h1 : ∀ ns, awayB mode (decide (0 / c.natAbs % 2 = 1)) ns (0 % c.natAbs) c.natAbs = false := by
    intro ns
    unfold awayB
    rw [Nat.zero_mod, Nat.zero_div]
    split
    · simp
    · split
      · simp; omega
      · split
        · simp
        · rfl
  unfold rndZ
  rw [h1, h1, Nat.zero_div]
  unfold sgn
  simp
theorem rndZ_mul (a b c mode : Int) (h0 : c ≠ 0) : rndZ (a * b).natAbs (decide (a * b < 0)) c mode = rndZ (a.natAbs * b.natAbs) (decide (decide (a < 0) ≠ decide (b < 0))) c mode := by
  rw [Int.natAbs_mul]
  rcases Nat.eq_zero_or_pos (a.natAbs * b.natAbs) with h | h
  · rw [h]; exact rndZ_zero _ _ _ _ h0
  · have := sign_mul a b
    rw [Int.natAbs_mul, decide_eq_true h, Bool.and_true] at this
    rw [← this]
theorem refMulDiv_any (a b c mode : Int) (w : World) (ha : I64 a) (hb : I64 b) (hc : I64 c) :
    Calls Try.prog 14 #[.int .i64 a, .int .i64 b, .int .i64 c, .int .i64 mode] w fun e w' => e = .returned (if c = 0 ∨ mode < 0 ∨ 3 < mode then .tuple #[.int .i64 0, .bool false] else
      .tuple #[.int .i64 (smallOf (rndZ (a.natAbs * b.natAbs) (decide (decide (a < 0) ≠ decide (b < 0))) c mode)), .bool (fits (rndZ (a.natAbs * b.natAbs) (decide (decide (a < 0) ≠ decide (b < 0))) c mode))]) ∧ Grow w w' := by
  have bel := Below.refl w.heap.size w
  have hm : a.natAbs * b.natAbs < 340282366920938463463374607431768211456 := by
    have h1 := ha.1; have h2 := ha.2; have h3 := hb.1; have h4 := hb.2
    have := Nat.mul_le_mul (show a.natAbs ≤ 9223372036854775808 by omega) (show b.natAbs ≤ 9223372036854775808 by omega)
    omega
  refine Calls.start 32 Try.func14 rfl rfl rfl ?_
  refine Cd.seq ?_
  refine Cd.region ?_
  refine Seq.val (Runs.assign rfl rfl) rfl rfl rfl ?_
  refine Seq.val (Runs.assign rfl rfl) rfl rfl rfl ?_
  refine Seq.nil ?_
  refine Post.weak (F' := [(0, _), (1, _), (2, _), (3, _), (8, _), (9, _)]) ⟨rfl, rfl, rfl, rfl, rfl, rfl, trivial⟩ ?_
  refine Post.then_ ?_
  refine Cd.seq ?_
  refine Cd.seq ?_
  refine Cd.region ?_
  refine Seq.val (Runs.move rfl rfl) rfl rfl rfl ?_
  refine Seq.val (Runs.eqlI rfl rfl rfl) rfl rfl rfl ?_
  refine Seq.val (Runs.move rfl rfl) rfl rfl rfl ?_
  refine SeqC.start ?_
  refine SeqC.open rfl rfl rfl rfl rfl rfl rfl (fun hcx => Runs.move rfl rfl) ?_
  refine SeqC.next rfl rfl rfl rfl rfl rfl rfl (fun hcx => Runs.lss rfl rfl rfl) ?_
  refine SeqC.or rfl rfl rfl rfl rfl rfl rfl ?_
  refine Seq.val (Runs.move rfl rfl) rfl rfl rfl ?_
  refine SeqC.start ?_
  refine SeqC.open rfl rfl rfl rfl rfl rfl rfl (fun hcx => Runs.move rfl rfl) ?_
  refine SeqC.next rfl rfl rfl rfl rfl rfl rfl (fun hcx => Runs.gtr rfl rfl rfl) ?_
  refine SeqC.or rfl rfl rfl rfl rfl rfl rfl ?_
  refine Seq.nil ?_
  refine Post.weak (F' := [(0, _), (1, _), (2, _), (3, _), (8, _), (9, _), (19, _)]) ⟨rfl, rfl, rfl, rfl, rfl, rfl, rfl, trivial⟩ ?_
  refine Post.then_ ?_
  refine Cd.cond rfl (fun h => ?_) (fun h => ?_)
  · rw [if_pos (by simp at h; omega)]
    refine Cd.seq ?_
    refine Cd.region ?_
    refine Seq.val (Runs.assign rfl rfl) rfl rfl rfl ?_
    refine Seq.val (Runs.assign rfl rfl) rfl rfl rfl ?_
    refine Seq.nil ?_
    refine Post.weak (F' := [(0, _), (1, _), (2, _), (3, _), (8, _), (9, _), (19, _)]) ⟨rfl, rfl, rfl, rfl, rfl, rfl, rfl, trivial⟩ ?_
    refine Post.then_ ?_
    refine Cd.ret ?_
    refine Post.then_ret ?_
    refine Post.end2 rfl rfl rfl (.inl rfl) ?_
    exact ⟨rfl, bel⟩
  · have hn : ¬ (c = 0 ∨ mode < 0 ∨ 3 < mode) := by simp at h; omega
    rw [if_neg hn]
    refine Cd.skip ?_
    refine Post.then_ ?_
    refine Cd.seq ?_
    refine Cd.region ?_
    refine Seq.val (Runs.move rfl rfl) rfl rfl rfl ?_
    refine Seq.call (Enters.func rfl rfl rfl (run_enter Try.func25 (by kernel_rfl) rfl)) rfl rfl rfl (of_big a _ ha.1 ha.2) ?_
    rintro e w3 ⟨va, rfl, hb3, hva⟩
    refine ⟨_, rfl, ?_⟩
    replace bel := bel.step hb3
    refine Seq.val (Runs.move rfl rfl) rfl rfl rfl ?_
    refine Seq.call (Enters.func rfl rfl rfl (run_enter Try.func25 (by kernel_rfl) rfl)) rfl rfl rfl (of_big b _ hb.1 hb.2) ?_
    rintro e w4 ⟨vb, rfl, hb4, hvb⟩
    refine ⟨_, rfl, ?_⟩
    replace bel := bel.step hb4
    replace hva := hva.step hb4
    refine Seq.call (Enters.func rfl rfl rfl (run_enter Try.func28 (by kernel_rfl) rfl)) rfl rfl rfl (times_grow _ _ a b _ hva hvb ha.big hb.big) ?_
    rintro e w5 ⟨vp, rfl, hb5, hvp⟩
    refine ⟨_, rfl, ?_⟩
    replace bel := bel.step hb5
    replace hva := hva.step hb5
    replace hvb := hvb.step hb5
    refine Seq.val (Runs.move rfl rfl) rfl rfl rfl ?_
    refine Seq.call (Enters.func rfl rfl rfl (run_enter Try.func25 (by kernel_rfl) rfl)) rfl rfl rfl (of_big c _ hc.1 hc.2) ?_
    rintro e w6 ⟨vc, rfl, hb6, hvc⟩
    refine ⟨_, rfl, ?_⟩
    replace bel := bel.step hb6
    replace hva := hva.step hb6
    replace hvb := hvb.step hb6
    replace hvp := hvp.step hb6
    refine Seq.val (Runs.move rfl rfl) rfl rfl rfl ?_
    refine Seq.call (Enters.func rfl rfl rfl (run_enter Try.func46 (by kernel_rfl) rfl)) rfl rfl rfl (over_ref _ _ (a * b) c mode _ hvp hvc (natAbs_mul_big ha hb) hc.big (by omega)) ?_
    rintro e w7 ⟨vo, rfl, hb7, hvo⟩
    refine ⟨_, rfl, ?_⟩
    replace bel := bel.step hb7
    replace hva := hva.step hb7
    replace hvb := hvb.step hb7
    replace hvp := hvp.step hb7
    replace hvc := hvc.step hb7
    rw [rndZ_mul a b c mode (by omega)] at hvo
    refine Seq.call (Enters.func rfl rfl rfl (run_enter Try.func45 (by kernel_rfl) rfl)) rfl rfl rfl (small_big' _ _ _ hvo (rndZ_big _ _ _ _ (by omega))) ?_
    rintro e w8 ⟨rfl, hb8⟩
    refine ⟨_, rfl, ?_⟩
    replace bel := bel.step hb8
    replace hva := hva.step hb8
    replace hvb := hvb.step hb8
    replace hvp := hvp.step hb8
    replace hvc := hvc.step hb8
    replace hvo := hvo.step hb8
    refine Seq.val (Runs.extract rfl rfl rfl) rfl rfl rfl ?_
    refine Seq.val (Runs.extract rfl rfl rfl) rfl rfl rfl ?_
    refine Seq.val (Runs.assign rfl rfl) rfl rfl rfl ?_
    refine Seq.val (Runs.assign rfl rfl) rfl rfl rfl ?_
    refine Seq.nil ?_
    refine Post.weak (F' := [(0, _), (1, _), (2, _), (3, _), (8, _), (9, _), (19, _)]) ⟨rfl, rfl, rfl, rfl, rfl, rfl, rfl, trivial⟩ ?_
    refine Post.then_ ?_
    refine Cd.ret ?_
    refine Post.end2 rfl rfl rfl (.inl rfl) ?_
    exact ⟨rfl, bel⟩
end Go.Proofs.Ytpdeihienkbeeaa

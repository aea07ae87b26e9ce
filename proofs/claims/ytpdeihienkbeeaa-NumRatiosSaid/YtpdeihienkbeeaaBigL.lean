/-
  debentureref01's Sum; the law's small: what each answers. Condition: the numbers are of 64 bits, not too many.
-/
import Derived.Test.YtpdeihienkbeeaaBigK
import Derived.Test.YtpdeihienkbeeaaNumF
namespace Go.Proofs.Ytpdeihienkbeeaa
open Go.RowKit

theorem run_build_Big0 (w : World) : (Instr.build 31 #[]).run Try.prog w = .ok (.agg #[.bool false, .slice none 0 0]) w := by
  have hu := Try.underlying31
  go_simp
theorem digs_0 : digs 0 = [] := by unfold digs; rfl
theorem MagR.zero (w : World) : MagR w (.slice none 0 0) 0 := ⟨none, 0, by rw [digs_0]; rfl, by rw [digs_0]; simp, by omega, by rw [digs_0]; exact Reads.none_⟩
theorem sum_natAbs (l : List Int) (k : Nat) (hl : ∀ x ∈ l, I64 x) (hn : l.length ≤ 1000000000) : (sumTo l k).natAbs < big := by
  have := sumTo_bd l k hl hn
  exact big_of (by omega)

theorem refSum_any (B : Nat) (A : Option Addr) (n cap : Nat) (l : List Int) (w : World) (hr : Reads w B 1 A n (I l)) (hB : B ≤ w.heap.size) (hl : ∀ x ∈ l, I64 x) (hn : n ≤ 1000000000) :
    Calls Try.prog 18 #[.slice A n cap] w fun e w' => ∃ v, e = .returned v ∧ Grow w w' ∧ BigR w' v l.sum := by
  have hlen := hr.len_I
  have bel := Below.refl w.heap.size w
  refine Calls.start 20 Try.func18 rfl rfl rfl ?_
  refine Cd.seq ?_
  refine Cd.region ?_
  refine Seq.alloc rfl (run_zero zero_debentureref01_Big) rfl rfl rfl ?_
  intro g2 w1 n2
  have e2 := Nat.le_trans bel.size n2.ge
  replace bel := bel.step n2.below
  have k2 := n2.blk
  refine Seq.nil ?_
  refine Post.weak (F' := [(0, _), (2, _)]) ⟨rfl, rfl, trivial⟩ ?_
  refine Post.then_ ?_
  refine Cd.seq ?_
  refine Cd.region ?_
  refine Seq.val (Runs.build rfl rfl (run_build_Big0 _)) rfl rfl rfl ?_
  refine Seq.alloc rfl (run_zero zero_debentureref01_Big) rfl rfl rfl ?_
  intro g3 w2 n3
  have e3 := Nat.le_trans bel.size n3.ge
  have l3 := Nat.lt_of_lt_of_le k2.lt n3.ge
  replace bel := bel.step n3.below
  replace k2 := k2.step n3.below
  have k3 := n3.blk
  refine Seq.storeN rfl rfl rfl rfl (m := 2) (by kernel_rfl) rfl (by repeat' first | exact trivial | apply And.intro | rfl | assumption) k3 (by simp [Value.cells]) rfl rfl ?_
  intro w3 pw3
  replace bel := bel.put k3 pw3 e3
  replace k2 := k2.put pw3 (by omega)
  replace k3 := pw3.blk
  refine Seq.nil ?_
  refine Post.weak (F' := [(0, _), (2, _), (3, _)]) ⟨rfl, rfl, rfl, trivial⟩ ?_
  refine Post.then_ ?_
  refine Cd.seq ?_
  refine Cd.seq ?_
  refine Cd.region ?_
  refine Seq.val (Runs.assign rfl rfl) rfl rfl rfl ?_
  refine Seq.nil ?_
  refine Post.weak (F' := [(0, _), (2, _), (3, _), (4, _)]) ⟨rfl, rfl, rfl, rfl, trivial⟩ ?_
  refine Post.then_ ?_
  refine Cd.block ?_
  refine Cd.loop (σ := Nat × Value) (fun s => [(0, .slice A n cap), (2, .pointer (some ⟨g2, 0, none⟩)), (3, .pointer (some ⟨g3, 0, none⟩)), (4, .int .i64 (s.1 : Int))])
    (fun s wr => s.1 ≤ n ∧ Below w.heap.size w wr ∧ s.2.oneCell' = true ∧ MagR wr s.2 (sumTo l s.1).natAbs ∧ Blk wr g3 31 #[.bool (decide (sumTo l s.1 < 0)), s.2] ∧ Blk wr g2 31 #[.bool false, .slice none 0 0]) (fun s => n - s.1) (0, .slice none 0 0) ⟨Nat.zero_le _, bel, rfl, MagR.zero _, k3, k2⟩ ⟨rfl, rfl, rfl, rfl, trivial⟩ ?_
  clear bel k2 k3
  rintro ⟨i, m⟩ wr ⟨hin, bel, om, hm, k3, k2⟩
  dsimp only at hin om hm k3 ⊢
  have hbi := sum_natAbs l i hl (by omega)
  refine Cd.seq ?_
  refine Cd.seq ?_
  refine Cd.region ?_
  refine Seq.val (Runs.move rfl rfl) rfl rfl rfl ?_
  refine Seq.val (Runs.move rfl rfl) rfl rfl rfl ?_
  refine Seq.val (Runs.len rfl rfl Try.underlying26) rfl rfl rfl ?_
  refine Seq.val (Runs.lss rfl rfl rfl) rfl rfl rfl ?_
  refine Seq.nil ?_
  refine Post.weak (F' := [(0, _), (2, _), (3, _), (4, _), (9, _)]) ⟨rfl, rfl, rfl, rfl, rfl, trivial⟩ ?_
  refine Post.then_ ?_
  refine Cd.condD rfl (fun hc => ?_) (fun hc => ?_)
  · obtain ⟨ad, v, rfl, hv, ci⟩ := hr.num bel hB (show i < n by omega)
    have hv64 := hl v (List.mem_of_getElem? hv)
    have hss := sumTo_succ l i v hv
    refine Cd.skip ?_
    refine Post.then_ ?_
    refine Cd.seq ?_
    refine Cd.block ?_
    refine Cd.draw 7 (by kernel_rfl) [] (.inl rfl) rfl Grow Grow.refl (fun _ _ _ => Grow.trans) ?_
    intro w4 hw4 zw4
    replace bel := bel.step hw4
    replace k2 := k2.step hw4
    replace k3 := k3.step hw4
    replace hm := hm.step hw4
    replace ci := ci.step hw4
    have zbel := bel.size
    have zlt := k3.lt
    refine Dr.val Grow.refl rfl (fun w hG => Runs.loadW rfl rfl Try.underlying31 rfl (k3.step hG) (m := 2) (by kernel_rfl) rfl) rfl ?_
    refine Dr.val Grow.refl rfl (fun w hG => Runs.move rfl rfl) rfl ?_
    refine Dr.val Grow.refl rfl (fun w hG => Runs.move rfl rfl) rfl ?_
    refine Dr.val Grow.refl rfl (fun w hG => Runs.index1 rfl rfl rfl Try.underlying26 (by kernel_rfl) (j := i) rfl (by omega)) rfl ?_
    refine Dr.val Grow.refl rfl (fun w hG => Runs.load1 rfl rfl Try.underlying2 rfl (ci.step hG).val) rfl ?_
    refine Dr.call (Φ := fun u w => BigR w u v) rfl (fun w => Enters.func rfl rfl rfl (run_enter Try.func25 (by kernel_rfl) rfl)) rfl (BigR.stable _) (fun w hG => of_big v _ hv64.1 hv64.2) ?_
    refine Dr.call1 (j := 5) (Φ := fun u w => BigR w u (sumTo l i + v)) rfl rfl rfl (fun u w => Enters.func rfl rfl rfl (run_enter Try.func26 (by kernel_rfl) rfl)) rfl (BigR.stable _) (fun u w hG hu => plus_big _ u (sumTo l i) v _ ⟨m, rfl, hm.step hG⟩ hu hbi hv64.big) ?_
    refine Dr.nil ?_
    have i1 := hm.ni
    refine FinX.open (j := 6) rfl ?_
    intro u6
    refine FinX.done (F' := [(0, _), (2, _), (3, _), (4, _), (9, _), (18, _)]) rfl ⟨rfl, rfl, rfl, rfl, rfl, rfl, trivial⟩ ?_
    intro w5 hw5 fw5
    replace bel := bel.step hw5
    replace k2 := k2.step hw5
    replace k3 := k3.step hw5
    replace hm := hm.step hw5
    replace ci := ci.step hw5
    obtain ⟨m2, rfl, om2, hm2⟩ := fw5.2.agg
    have i2 := hm2.ni
    refine Seq.storeN rfl rfl rfl rfl (m := 2) (by kernel_rfl) rfl (by repeat' first | exact trivial | apply And.intro | rfl | assumption) k3 (by simp [Value.cells]) rfl rfl ?_
    intro w6 pw6
    replace bel := bel.put k3 pw6 e3
    replace k2 := k2.put pw6 (by omega)
    replace ci := ci.put k3 pw6 e3
    replace hm2 := hm2.put k3 pw6 e3
    replace k3 := pw6.blk
    refine Seq.nil ?_
    refine Post.weak (F' := [(0, _), (2, _), (3, _), (4, _), (9, _)]) ⟨rfl, rfl, rfl, rfl, rfl, trivial⟩ ?_
    refine Post.block_normal ?_
    refine Post.then_ ?_
    refine Cd.region ?_
    refine Seq.val (Runs.move rfl rfl) rfl rfl rfl ?_
    refine Seq.val (Runs.addI rfl rfl rfl (by omega) (by omega)) rfl rfl rfl ?_
    refine Seq.val (Runs.assign rfl rfl) rfl rfl rfl ?_
    refine Seq.nil ?_
    refine Post.weak (F' := [(0, _), (2, _), (3, _), (4, _), (9, _)]) ⟨rfl, rfl, rfl, rfl, rfl, trivial⟩ ?_
    refine Post.round (i + 1, m2) ⟨rfl, rfl, rfl, rfl, trivial⟩ ⟨by dsimp only; omega, bel, om2, ?_, ?_, k2⟩ (by dsimp only; omega)
    · dsimp only; rw [hss]; exact hm2
    · dsimp only; rw [hss]; exact k3
  · obtain rfl : i = n := by omega
    have hs : sumTo l i = l.sum := by unfold sumTo; rw [List.take_of_length_le (by omega)]
    rw [hs] at hm k3
    have i1 := hm.ni
    refine Cd.exit ?_
    refine Post.then_exit ?_
    refine Post.round_exit ?_
    refine Post.block_exit ?_
    refine Post.then_ ?_
    refine Cd.seq ?_
    refine Cd.region ?_
    refine Seq.val (Runs.loadW rfl rfl Try.underlying31 rfl k3 (m := 2) (by kernel_rfl) rfl) rfl rfl rfl ?_
    refine Seq.storeN rfl rfl rfl rfl (m := 2) (by kernel_rfl) rfl (by repeat' first | exact trivial | apply And.intro | rfl | assumption) k2 (by simp [Value.cells]) rfl rfl ?_
    intro w4 pw4
    replace bel := bel.put k2 pw4 e2
    replace k3 := k3.put pw4 (by omega)
    replace hm := hm.put k2 pw4 e2
    replace k2 := pw4.blk
    refine Seq.nil ?_
    refine Post.weak (F' := [(0, _), (2, _), (3, _), (4, _), (9, _)]) ⟨rfl, rfl, rfl, rfl, rfl, trivial⟩ ?_
    refine Post.then_ ?_
    refine Cd.ret ?_
    refine Post.endC rfl rfl k2 Try.underlying31 rfl (m := 2) (by kernel_rfl) rfl (.inl rfl) ?_
    exact ⟨_, rfl, bel, m, rfl, hm⟩

theorem lawSmall_any (x : Value) (z n : Int) (ok : Bool) (w : World) (hx : BigR w x z) (hz : z.natAbs < big) (h1 : n = smallOf z) (h2 : ok = fits z) :
    Calls Try.prog 17 #[x, .int .i64 n, .bool ok] w fun e w' => e = .returned (.bool true) ∧ Grow w w' := by
  obtain ⟨m, rfl, om, hm⟩ := hx.agg
  have bel := Below.refl w.heap.size w
  refine Calls.start 22 Try.func17 rfl rfl rfl ?_
  refine Cd.seq ?_
  refine Cd.region ?_
  refine Seq.box rfl rfl rfl rfl rfl ?_
  intro g3 w1 n3
  have e3 := Nat.le_trans bel.size n3.ge
  replace bel := bel.step n3.below
  replace hm := hm.step n3.below
  have k3 := n3.blk
  refine Seq.val (Runs.assign rfl rfl) rfl rfl rfl ?_
  refine Seq.nil ?_
  refine Post.weak (F' := [(0, _), (1, _), (2, _), (3, _), (6, _)]) ⟨rfl, rfl, rfl, rfl, rfl, trivial⟩ ?_
  refine Post.then_ ?_
  refine Cd.seq ?_
  refine Cd.region ?_
  refine Seq.val (Runs.loadW rfl rfl Try.underlying31 rfl k3 (m := 2) (by kernel_rfl) rfl) rfl rfl rfl ?_
  refine Seq.call (Enters.func rfl rfl rfl (run_enter Try.func45 (by kernel_rfl) rfl)) rfl rfl rfl (small_big' _ z _ ⟨m, rfl, hm⟩ hz) ?_
  rintro e w4 ⟨rfl, hb4⟩
  refine ⟨_, rfl, ?_⟩
  replace bel := bel.step hb4
  replace hm := hm.step hb4
  replace k3 := k3.step hb4
  refine Seq.val (Runs.move rfl rfl) rfl rfl rfl ?_
  refine Seq.val (Runs.extract rfl rfl rfl) rfl rfl rfl ?_
  refine Seq.val (Runs.extract rfl rfl rfl) rfl rfl rfl ?_
  refine Seq.val (Runs.assign rfl rfl) rfl rfl rfl ?_
  refine Seq.val (Runs.assign rfl rfl) rfl rfl rfl ?_
  refine Seq.nil ?_
  refine Post.weak (F' := [(0, _), (1, _), (2, _), (3, _), (6, _), (7, _), (8, _)]) ⟨rfl, rfl, rfl, rfl, rfl, rfl, rfl, trivial⟩ ?_
  refine Post.then_ ?_
  refine Cd.seq ?_
  refine Cd.region ?_
  refine Seq.val (Runs.move rfl rfl) rfl rfl rfl ?_
  refine Seq.val (Runs.move rfl rfl) rfl rfl rfl ?_
  refine Seq.val (Runs.eqlI rfl rfl rfl) rfl rfl rfl ?_
  refine Seq.val (Runs.move rfl rfl) rfl rfl rfl ?_
  refine SeqC.start ?_
  refine SeqC.open rfl rfl rfl rfl rfl rfl rfl (fun hcx => Runs.move rfl rfl) ?_
  refine SeqC.next rfl rfl rfl rfl rfl rfl rfl (fun hcx => Runs.move rfl rfl) ?_
  refine SeqC.next rfl rfl rfl rfl rfl rfl rfl (fun hcx => Runs.eqlB rfl rfl rfl Try.underlying4) ?_
  refine SeqC.and rfl rfl rfl rfl rfl rfl rfl ?_
  refine Seq.val (Runs.assign rfl rfl) rfl rfl rfl ?_
  refine Seq.nil ?_
  refine Post.weak (F' := [(0, _), (1, _), (2, _), (3, _), (6, _), (7, _), (8, _)]) ⟨rfl, rfl, rfl, rfl, rfl, rfl, rfl, trivial⟩ ?_
  refine Post.then_ ?_
  refine Cd.ret ?_
  refine Post.end1 rfl rfl (.inl rfl) ?_
  exact ⟨ret1 (bool_eq (by simp [h1, h2])), bel⟩
end Go.Proofs.Ytpdeihienkbeeaa

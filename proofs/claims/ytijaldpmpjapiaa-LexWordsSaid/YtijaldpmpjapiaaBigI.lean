/-
  debentureref01's Small: what it answers. Condition: the number keeps a bound.
-/
import Derived.Test.YtijaldpmpjapiaaBigH
import Derived.Test.YtijaldpmpjapiaaFits
namespace Go.Proofs.Ytijaldpmpjapiaa
open Go.RowKit

/-- The number of the digits from k on. -/
def valFrom (l : List Nat) (k : Nat) : Nat := val (l.drop k)
theorem valFrom_step (l : List Nat) (k d : Nat) (h : l[k]? = some d) : valFrom l k = d + 65536 * valFrom l (k + 1) := by
  obtain ⟨hk, rfl⟩ := List.getElem?_eq_some_iff.1 h
  unfold valFrom
  rw [List.drop_eq_getElem_cons hk, val]
theorem valFrom_le (l : List Nat) (k : Nat) : valFrom l k ≤ val l := by
  have := val_append (l.take k) (l.drop k)
  rw [List.take_append_drop] at this
  unfold valFrom
  have h1 : 1 * val (l.drop k) ≤ 65536 ^ (l.take k).length * val (l.drop k) := Nat.mul_le_mul_right _ (Nat.pos_of_ne_zero (by simp))
  omega

theorem small_any (x : Value) (a : Int) (w : World) (hx : BigR w x a) (ha : a.natAbs < big) :
    Calls Try.prog 99 #[x] w fun e w' => e = .returned (.tuple #[.int .i64 (smallOf a), .bool (fits a)]) ∧ Below w.heap.size w w' := by
  obtain ⟨m, rfl, om, hm⟩ := hx.agg
  have bel := Below.refl w.heap.size w
  by_cases hgt : 9223372036854775807 < a
  · have hf := fits_not (.inr hgt)
    have hs : smallOf a = 0 := by unfold smallOf; rw [hf]; rfl
    rw [hf, hs]
    refine Calls.start 38 Try.func99 rfl rfl rfl ?_
    refine Cd.seq ?_
    refine Cd.region ?_
    refine Seq.box rfl rfl rfl rfl rfl ?_
    intro g1 w1 n1
    have e1 := Nat.le_trans bel.size n1.ge
    replace bel := bel.step n1.below
    replace hx := hx.step n1.below
    have k1 := n1.blk
    refine Seq.val (Runs.assign rfl rfl) rfl rfl rfl ?_
    refine Seq.val (Runs.assign rfl rfl) rfl rfl rfl ?_
    refine Seq.nil ?_
    refine Post.weak (F' := [(0, _), (1, _), (2, _), (3, _)]) ⟨rfl, rfl, rfl, rfl, trivial⟩ ?_
    refine Post.then_ ?_
    refine Cd.seq ?_
    refine Cd.seq ?_
    refine Cd.draw 10 (by kernel_rfl) [] (.inl rfl) rfl Grow Grow.refl (fun _ _ _ => Grow.trans) ?_
    intro w2 hw2 zw2
    replace bel := bel.step hw2
    replace hx := hx.step hw2
    replace k1 := k1.step hw2
    have zbel := bel.size
    have zlt := k1.lt
    refine Dr.val Grow.refl rfl (fun w hG => Runs.loadW rfl rfl Try.underlying133 rfl (k1.step hG) (m := 2) (by kernel_rfl) rfl) rfl ?_
    refine Dr.call (Φ := fun v w => BigR w v 9223372036854775807) rfl (fun w => Enters.func rfl rfl rfl (run_enter Try.func97 (by kernel_rfl) rfl)) rfl (BigR.stable _) (fun w hG => of_big _ _ (by omega) (by omega)) ?_
    refine Dr.call1V (j := 1) rfl rfl rfl (fun u w => Enters.func rfl rfl rfl (run_enter Try.func144 (by kernel_rfl) rfl)) rfl (fun u w hG hu => cmpB_grow _ u a _ _ (hx.step hG) hu ha (big_of (by decide))) ?_
    refine Dr.val Grow.refl rfl (fun w hG => (Runs.gtr rfl rfl rfl).isT (cmpZ_gt.2 hgt)) rfl ?_
    refine Dr.val Grow.refl rfl (fun w hG => Runs.move rfl rfl) rfl ?_
    refine Dr.skip rfl rfl rfl rfl rfl ?_
    refine Dr.skip rfl rfl rfl rfl rfl ?_
    refine Dr.skip rfl rfl rfl rfl rfl ?_
    refine Dr.skip rfl rfl rfl rfl rfl ?_
    refine Dr.val Grow.refl rfl (fun w hG => Runs.pickT rfl rfl rfl) rfl ?_
    refine Dr.nil ?_
    refine FinX.done (F' := [(0, _), (1, _), (2, _), (3, _), (15, _)]) rfl ⟨rfl, rfl, rfl, rfl, rfl, trivial⟩ ?_
    intro w3 hw3 fw3
    replace bel := bel.step hw3
    replace hx := hx.step hw3
    replace k1 := k1.step hw3
    refine Seq.nil ?_
    refine Post.weak (F' := [(0, _), (1, _), (2, _), (3, _), (15, _)]) ⟨rfl, rfl, rfl, rfl, rfl, trivial⟩ ?_
    refine Post.then_ ?_
    refine Cd.condT rfl rfl ?_
    refine Cd.seq ?_
    refine Cd.region ?_
    refine Seq.val (Runs.assign rfl rfl) rfl rfl rfl ?_
    refine Seq.val (Runs.assign rfl rfl) rfl rfl rfl ?_
    refine Seq.nil ?_
    refine Post.weak (F' := [(0, _), (1, _), (2, _), (3, _), (15, _)]) ⟨rfl, rfl, rfl, rfl, rfl, trivial⟩ ?_
    refine Post.then_ ?_
    refine Cd.ret ?_
    refine Post.then_ret ?_
    refine Post.end2 rfl rfl rfl (.inl rfl) ?_
    exact ⟨rfl, bel⟩
  · by_cases hlt : a < -9223372036854775808
    · have hf := fits_not (.inl hlt)
      have hs : smallOf a = 0 := by unfold smallOf; rw [hf]; rfl
      rw [hf, hs]
      refine Calls.start 38 Try.func99 rfl rfl rfl ?_
      refine Cd.seq ?_
      refine Cd.region ?_
      refine Seq.box rfl rfl rfl rfl rfl ?_
      intro g1 w1 n1
      have e1 := Nat.le_trans bel.size n1.ge
      replace bel := bel.step n1.below
      replace hx := hx.step n1.below
      have k1 := n1.blk
      refine Seq.val (Runs.assign rfl rfl) rfl rfl rfl ?_
      refine Seq.val (Runs.assign rfl rfl) rfl rfl rfl ?_
      refine Seq.nil ?_
      refine Post.weak (F' := [(0, _), (1, _), (2, _), (3, _)]) ⟨rfl, rfl, rfl, rfl, trivial⟩ ?_
      refine Post.then_ ?_
      refine Cd.seq ?_
      refine Cd.seq ?_
      refine Cd.draw 10 (by kernel_rfl) [] (.inl rfl) rfl Grow Grow.refl (fun _ _ _ => Grow.trans) ?_
      intro w2 hw2 zw2
      replace bel := bel.step hw2
      replace hx := hx.step hw2
      replace k1 := k1.step hw2
      have zbel := bel.size
      have zlt := k1.lt
      refine Dr.val Grow.refl rfl (fun w hG => Runs.loadW rfl rfl Try.underlying133 rfl (k1.step hG) (m := 2) (by kernel_rfl) rfl) rfl ?_
      refine Dr.call (Φ := fun v w => BigR w v 9223372036854775807) rfl (fun w => Enters.func rfl rfl rfl (run_enter Try.func97 (by kernel_rfl) rfl)) rfl (BigR.stable _) (fun w hG => of_big _ _ (by omega) (by omega)) ?_
      refine Dr.call1V (j := 1) rfl rfl rfl (fun u w => Enters.func rfl rfl rfl (run_enter Try.func144 (by kernel_rfl) rfl)) rfl (fun u w hG hu => cmpB_grow _ u a _ _ (hx.step hG) hu ha (big_of (by decide))) ?_
      refine Dr.val Grow.refl rfl (fun w hG => (Runs.gtr rfl rfl rfl).isF (mt cmpZ_gt.1 hgt)) rfl ?_
      refine Dr.val Grow.refl rfl (fun w hG => Runs.move rfl rfl) rfl ?_
      refine Dr.valG Grow.refl rfl (fun w hG => Runs.loadW rfl rfl Try.underlying133 rfl (k1.step hG) (m := 2) (by kernel_rfl) rfl) rfl rfl rfl ?_
      refine Dr.callG (Φ := fun v w => BigR w v (-9223372036854775808)) rfl (fun w => Enters.func rfl rfl rfl (run_enter Try.func97 (by kernel_rfl) rfl)) rfl rfl rfl (BigR.stable _) (fun w hG => of_big _ _ (by omega) (by omega)) ?_
      refine Dr.call1VG (j := 6) rfl rfl rfl (fun u w => Enters.func rfl rfl rfl (run_enter Try.func144 (by kernel_rfl) rfl)) rfl rfl (fun _ => rfl) (fun u w hG hu => cmpB_grow _ u a _ _ (hx.step hG) hu ha (big_of (by decide))) ?_
      refine Dr.valG Grow.refl rfl (fun w hG => (Runs.lss rfl rfl rfl).isT (cmpZ_lt.2 hlt)) rfl rfl rfl ?_
      refine Dr.val Grow.refl rfl (fun w hG => Runs.pickF rfl rfl rfl) rfl ?_
      refine Dr.nil ?_
      refine FinX.done (F' := [(0, _), (1, _), (2, _), (3, _), (15, _)]) rfl ⟨rfl, rfl, rfl, rfl, rfl, trivial⟩ ?_
      intro w3 hw3 fw3
      replace bel := bel.step hw3
      replace hx := hx.step hw3
      replace k1 := k1.step hw3
      refine Seq.nil ?_
      refine Post.weak (F' := [(0, _), (1, _), (2, _), (3, _), (15, _)]) ⟨rfl, rfl, rfl, rfl, rfl, trivial⟩ ?_
      refine Post.then_ ?_
      refine Cd.condT rfl rfl ?_
      refine Cd.seq ?_
      refine Cd.region ?_
      refine Seq.val (Runs.assign rfl rfl) rfl rfl rfl ?_
      refine Seq.val (Runs.assign rfl rfl) rfl rfl rfl ?_
      refine Seq.nil ?_
      refine Post.weak (F' := [(0, _), (1, _), (2, _), (3, _), (15, _)]) ⟨rfl, rfl, rfl, rfl, rfl, trivial⟩ ?_
      refine Post.then_ ?_
      refine Cd.ret ?_
      refine Post.then_ret ?_
      refine Post.end2 rfl rfl rfl (.inl rfl) ?_
      exact ⟨rfl, bel⟩
    · have hf := fits_of (a := a) (by omega) (by omega)
      have hs : smallOf a = a := by unfold smallOf; rw [if_pos hf]
      rw [hf, hs]
      obtain ⟨A, cm, rfl, hcm, hcm2, hrm⟩ := id hm
      have hlen : (digs a.natAbs).length ≤ 61 := len_big (by omega)
      have hba : a.natAbs < 18446744073709551616 := by omega
      generalize hL : (digs a.natAbs).length = L at *
      refine Calls.start 38 Try.func99 rfl rfl rfl ?_
      refine Cd.seq ?_
      refine Cd.region ?_
      refine Seq.box rfl rfl rfl rfl rfl ?_
      intro g1 w1 n1
      have e1 := Nat.le_trans bel.size n1.ge
      replace bel := bel.step n1.below
      replace hx := hx.step n1.below
      have k1 := n1.blk
      refine Seq.val (Runs.assign rfl rfl) rfl rfl rfl ?_
      refine Seq.val (Runs.assign rfl rfl) rfl rfl rfl ?_
      refine Seq.nil ?_
      refine Post.weak (F' := [(0, _), (1, _), (2, _), (3, _)]) ⟨rfl, rfl, rfl, rfl, trivial⟩ ?_
      refine Post.then_ ?_
      refine Cd.seq ?_
      refine Cd.seq ?_
      refine Cd.draw 10 (by kernel_rfl) [] (.inl rfl) rfl Grow Grow.refl (fun _ _ _ => Grow.trans) ?_
      intro w2 hw2 zw2
      replace bel := bel.step hw2
      replace hx := hx.step hw2
      replace k1 := k1.step hw2
      have zbel := bel.size
      have zlt := k1.lt
      refine Dr.val Grow.refl rfl (fun w hG => Runs.loadW rfl rfl Try.underlying133 rfl (k1.step hG) (m := 2) (by kernel_rfl) rfl) rfl ?_
      refine Dr.call (Φ := fun v w => BigR w v 9223372036854775807) rfl (fun w => Enters.func rfl rfl rfl (run_enter Try.func97 (by kernel_rfl) rfl)) rfl (BigR.stable _) (fun w hG => of_big _ _ (by omega) (by omega)) ?_
      refine Dr.call1V (j := 1) rfl rfl rfl (fun u w => Enters.func rfl rfl rfl (run_enter Try.func144 (by kernel_rfl) rfl)) rfl (fun u w hG hu => cmpB_grow _ u a _ _ (hx.step hG) hu ha (big_of (by decide))) ?_
      refine Dr.val Grow.refl rfl (fun w hG => (Runs.gtr rfl rfl rfl).isF (mt cmpZ_gt.1 hgt)) rfl ?_
      refine Dr.val Grow.refl rfl (fun w hG => Runs.move rfl rfl) rfl ?_
      refine Dr.valG Grow.refl rfl (fun w hG => Runs.loadW rfl rfl Try.underlying133 rfl (k1.step hG) (m := 2) (by kernel_rfl) rfl) rfl rfl rfl ?_
      refine Dr.callG (Φ := fun v w => BigR w v (-9223372036854775808)) rfl (fun w => Enters.func rfl rfl rfl (run_enter Try.func97 (by kernel_rfl) rfl)) rfl rfl rfl (BigR.stable _) (fun w hG => of_big _ _ (by omega) (by omega)) ?_
      refine Dr.call1VG (j := 6) rfl rfl rfl (fun u w => Enters.func rfl rfl rfl (run_enter Try.func144 (by kernel_rfl) rfl)) rfl rfl (fun _ => rfl) (fun u w hG hu => cmpB_grow _ u a _ _ (hx.step hG) hu ha (big_of (by decide))) ?_
      refine Dr.valG Grow.refl rfl (fun w hG => (Runs.lss rfl rfl rfl).isF (mt cmpZ_lt.1 hlt)) rfl rfl rfl ?_
      refine Dr.val Grow.refl rfl (fun w hG => Runs.pickF rfl rfl rfl) rfl ?_
      refine Dr.nil ?_
      refine FinX.done (F' := [(0, _), (1, _), (2, _), (3, _), (15, _)]) rfl ⟨rfl, rfl, rfl, rfl, rfl, trivial⟩ ?_
      intro w3 hw3 fw3
      replace bel := bel.step hw3
      replace hx := hx.step hw3
      replace k1 := k1.step hw3
      refine Seq.nil ?_
      refine Post.weak (F' := [(0, _), (1, _), (2, _), (3, _), (15, _)]) ⟨rfl, rfl, rfl, rfl, rfl, trivial⟩ ?_
      refine Post.then_ ?_
      refine Cd.condF rfl rfl ?_
      refine Cd.skip ?_
      refine Post.then_ ?_
      refine Cd.seq ?_
      refine Cd.region ?_
      refine Seq.val (Runs.assign rfl rfl) rfl rfl rfl ?_
      refine Seq.nil ?_
      refine Post.weak (F' := [(0, _), (1, _), (2, _), (3, _), (4, _), (15, _)]) ⟨rfl, rfl, rfl, rfl, rfl, rfl, trivial⟩ ?_
      refine Post.then_ ?_
      refine Cd.seq ?_
      refine Cd.seq ?_
      refine Cd.region ?_
      refine Seq.val (Runs.fieldB 1 rfl rfl Try.underlying133 rfl (by kernel_rfl)) rfl rfl rfl ?_
      refine Seq.val (Runs.loadB rfl rfl Try.underlying131 rfl k1 rfl) rfl rfl rfl ?_
      refine Seq.val (Runs.len rfl rfl Try.underlying131) rfl rfl rfl ?_
      refine Seq.val (Runs.subI rfl rfl rfl (by omega) (by omega)) rfl rfl rfl ?_
      refine Seq.val (Runs.assign rfl rfl) rfl rfl rfl ?_
      refine Seq.nil ?_
      refine Post.weak (F' := [(0, _), (1, _), (2, _), (3, _), (4, _), (5, _), (15, _)]) ⟨rfl, rfl, rfl, rfl, rfl, rfl, rfl, trivial⟩ ?_
      refine Post.then_ ?_
      refine Cd.block ?_
      refine Cd.loop (σ := Nat) (fun k => [(1, .pointer (some ⟨g1, 0, none⟩)), (2, .int .i64 0), (3, .bool false), (4, .int .u64 (valFrom (digs a.natAbs) k : Int)), (5, .int .i64 ((k : Int) - 1))])
        (fun k wr => k ≤ L ∧ Below w.heap.size w wr ∧ Blk wr g1 133 #[.bool (decide (a < 0)), .slice A L cm]) (fun k => k) L ⟨Nat.le_refl _, bel, k1⟩ ⟨rfl, rfl, rfl, ?_, rfl, trivial⟩ ?_
      · show some (Value.int .u64 0) = _
        unfold valFrom
        rw [List.drop_of_length_le (by omega)]; rfl
      clear bel hx k1
      rintro k wr ⟨hk, bel, k1⟩
      have hvl := valFrom_le (digs a.natAbs) k
      rw [val_digs] at hvl
      refine Cd.seq ?_
      refine Cd.seq ?_
      refine Cd.region ?_
      refine Seq.val (Runs.move rfl rfl) rfl rfl rfl ?_
      refine Seq.val (Runs.geq rfl rfl rfl) rfl rfl rfl ?_
      refine Seq.nil ?_
      refine Post.weak (F' := [(1, _), (2, _), (3, _), (4, _), (5, _), (21, _)]) ⟨rfl, rfl, rfl, rfl, rfl, rfl, trivial⟩ ?_
      refine Post.then_ ?_
      refine Cd.condD rfl (fun hc => ?_) (fun hc => ?_)
      · obtain ⟨j, rfl⟩ : ∃ j, k = j + 1 := ⟨k - 1, by omega⟩
        obtain ⟨ad, p, rfl, hbp, hp, hcp⟩ := hrm.dig bel (Nat.le_refl _) (show j < L by omega)
        have hst := valFrom_step _ _ _ hp
        have hvl2 := valFrom_le (digs a.natAbs) j
        rw [val_digs] at hvl2
        refine Cd.skip ?_
        refine Post.then_ ?_
        refine Cd.seq ?_
        refine Cd.block ?_
        refine Cd.region ?_
        refine Seq.val (Runs.move rfl rfl) rfl rfl rfl ?_
        refine Seq.val (Runs.mulU rfl rfl rfl (by omega) (by omega)) rfl rfl rfl ?_
        refine Seq.val (Runs.fieldB 1 rfl rfl Try.underlying133 rfl (by kernel_rfl)) rfl rfl rfl ?_
        refine Seq.val (Runs.loadB rfl rfl Try.underlying131 rfl k1 rfl) rfl rfl rfl ?_
        refine Seq.val (Runs.move rfl rfl) rfl rfl rfl ?_
        refine Seq.val (Runs.index1 rfl rfl rfl Try.underlying131 (by kernel_rfl) (j := j) (by omega) (by omega)) rfl rfl rfl ?_
        refine Seq.val (Runs.load1 rfl rfl Try.underlying124 rfl hcp) rfl rfl rfl ?_
        refine Seq.val (Runs.addW rfl rfl rfl (r := ((valFrom (digs a.natAbs) j : Nat) : Int)) (by rw [hst]; exact (wrapU (by omega) (by omega)).trans (by omega))) rfl rfl rfl ?_
        refine Seq.val (Runs.assign rfl rfl) rfl rfl rfl ?_
        refine Seq.nil ?_
        refine Post.weak (F' := [(1, _), (2, _), (3, _), (4, _), (5, _), (21, _)]) ⟨rfl, rfl, rfl, rfl, rfl, rfl, trivial⟩ ?_
        refine Post.block_normal ?_
        refine Post.then_ ?_
        refine Cd.region ?_
        refine Seq.val (Runs.move rfl rfl) rfl rfl rfl ?_
        refine Seq.val (Runs.subI rfl rfl rfl (by omega) (by omega)) rfl rfl rfl ?_
        refine Seq.val (Runs.assign rfl rfl) rfl rfl rfl ?_
        refine Seq.nil ?_
        refine Post.weak (F' := [(1, _), (2, _), (3, _), (4, _), (5, _), (21, _)]) ⟨rfl, rfl, rfl, rfl, rfl, rfl, trivial⟩ ?_
        refine Post.round j ⟨rfl, rfl, rfl, rfl, ?_, trivial⟩ ⟨by omega, bel, k1⟩ (Nat.lt_succ_self _)
        show some (Value.int .i64 (((j + 1 : Nat) : Int) - 1 - 1)) = _
        rw [show ((j + 1 : Nat) : Int) - 1 - 1 = (j : Int) - 1 from by omega]
      · obtain rfl : k = 0 := by omega
        have hv0 : valFrom (digs a.natAbs) 0 = a.natAbs := val_digs _
        rw [hv0]
        refine Cd.exit ?_
        refine Post.then_exit ?_
        refine Post.round_exit ?_
        refine Post.block_exit ?_
        refine Post.then_ ?_
        refine Cd.seq ?_
        refine Cd.seq ?_
        refine Cd.region ?_
        refine Seq.val (Runs.fieldB 0 rfl rfl Try.underlying133 rfl (by kernel_rfl)) rfl rfl rfl ?_
        refine Seq.val (Runs.loadB rfl rfl Try.underlying4 rfl k1 rfl) rfl rfl rfl ?_
        refine Seq.nil ?_
        refine Post.weak (F' := [(1, _), (2, _), (3, _), (4, _), (5, _), (21, _), (33, _)]) ⟨rfl, rfl, rfl, rfl, rfl, rfl, rfl, trivial⟩ ?_
        refine Post.then_ ?_
        refine Cd.condD rfl (fun hc => ?_) (fun hc => ?_)
        · skip
          refine Cd.region ?_
          refine Seq.val (Runs.move rfl rfl) rfl rfl rfl ?_
          refine Seq.val (Runs.neg rfl rfl (r := ((a % 18446744073709551616 : Int))) (by rw [wrap_u64]; omega)) rfl rfl rfl ?_
          refine Seq.val (Runs.assign rfl rfl) rfl rfl rfl ?_
          refine Seq.nil ?_
          refine Post.weak (F' := [(1, _), (2, _), (3, _), (4, _), (5, _), (21, _), (33, _)]) ⟨rfl, rfl, rfl, rfl, rfl, rfl, rfl, trivial⟩ ?_
          refine Post.then_ ?_
          refine Cd.seq ?_
          refine Cd.region ?_
          refine Seq.val (Runs.move rfl rfl) rfl rfl rfl ?_
          refine Seq.val (Runs.convI rfl rfl Try.underlying124 Try.underlying2 (k' := .i64) (r := a) (by rw [IntKind.wrap_i64]; omega)) rfl rfl rfl ?_
          refine Seq.val (Runs.assign rfl rfl) rfl rfl rfl ?_
          refine Seq.val (Runs.assign rfl rfl) rfl rfl rfl ?_
          refine Seq.nil ?_
          refine Post.weak (F' := [(1, _), (2, _), (3, _), (4, _), (5, _), (21, _), (33, _)]) ⟨rfl, rfl, rfl, rfl, rfl, rfl, rfl, trivial⟩ ?_
          refine Post.then_ ?_
          refine Cd.ret ?_
          refine Post.end2 rfl rfl rfl (.inl rfl) ?_
          exact ⟨rfl, bel⟩
        · skip
          refine Cd.skip ?_
          refine Post.then_ ?_
          refine Cd.seq ?_
          refine Cd.region ?_
          refine Seq.val (Runs.move rfl rfl) rfl rfl rfl ?_
          refine Seq.val (Runs.convI rfl rfl Try.underlying124 Try.underlying2 (k' := .i64) (r := a) (by rw [IntKind.wrap_i64]; omega)) rfl rfl rfl ?_
          refine Seq.val (Runs.assign rfl rfl) rfl rfl rfl ?_
          refine Seq.val (Runs.assign rfl rfl) rfl rfl rfl ?_
          refine Seq.nil ?_
          refine Post.weak (F' := [(1, _), (2, _), (3, _), (4, _), (5, _), (21, _), (33, _)]) ⟨rfl, rfl, rfl, rfl, rfl, rfl, rfl, trivial⟩ ?_
          refine Post.then_ ?_
          refine Cd.ret ?_
          refine Post.end2 rfl rfl rfl (.inl rfl) ?_
          exact ⟨rfl, bel⟩
end Go.Proofs.Ytijaldpmpjapiaa

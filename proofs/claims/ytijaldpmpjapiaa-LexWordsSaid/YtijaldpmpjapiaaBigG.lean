/-
  debentureref01's Cmp, Times: what each answers. Condition: the numbers keep a bound.
-/
import Derived.Test.YtijaldpmpjapiaaBigF
namespace Go.Proofs.Ytijaldpmpjapiaa
open Go.RowKit

theorem cmpZ_gt {a b : Int} : (0 < cmpZ a b) ↔ b < a := by
  unfold cmpZ
  split
  · constructor <;> intro h <;> omega
  · split <;> constructor <;> intro h <;> omega
theorem cmpZ_lt {a b : Int} : (cmpZ a b < 0) ↔ a < b := by
  unfold cmpZ
  split
  · constructor <;> intro h <;> omega
  · split <;> constructor <;> intro h <;> omega
theorem big_of {n : Nat} (h : n < 1606938044258990275541962092341162602522202993782792835301376) : n < big := Nat.lt_of_lt_of_le h big_pos
theorem BigR.agg {w : World} {v : Value} {z : Int} (h : BigR w v z) : ∃ m, v = .agg #[.bool (decide (z < 0)), m] ∧ m.oneCell' = true ∧ MagR w m z.natAbs := by
  obtain ⟨m, e, hm⟩ := h
  exact ⟨m, e, hm.one, hm⟩
theorem BigR.put {w w' : World} {v : Value} {z : Int} {g B : Nat} {T : TypeId} {cur cs : Array Value} (h : BigR w v z) (k : Blk w g T cur) (p : Put w w' g T cs) (e : B ≤ g) (hcs : ∀ (k : IntKind) (z : Int), Value.int k z ∉ cur.toList := by simp [Value.cells, *]) : BigR w' v z := by
  obtain ⟨m, e1, hm⟩ := h
  exact ⟨m, e1, hm.put k p e hcs⟩
theorem minus_big (x : Value) (a : Int) (w : World) (hx : BigR w x a) (ha : a.natAbs < big) :
    Calls Try.prog 98 #[x] w fun e w' => ∃ v, e = .returned v ∧ Below w.heap.size w w' ∧ BigR w' v (-a) :=
  (minus_any x a w hx (by have := len_big (n := a.natAbs) (by omega); omega)).mono fun e w' ⟨v, he, h1, h2⟩ => ⟨v, he, h2, h1⟩
theorem plus_big (x y : Value) (a b : Int) (w : World) (hx : BigR w x a) (hy : BigR w y b) (ha : a.natAbs < big) (hb : b.natAbs < big) :
    Calls Try.prog 95 #[x, y] w fun e w' => ∃ v, e = .returned v ∧ Below w.heap.size w w' ∧ BigR w' v (a + b) :=
  (plus_any x y a b w hx hy ha hb).mono fun e w' ⟨v, he, h1, h2⟩ => ⟨v, he, h2, h1⟩
theorem of_big (a : Int) (w : World) (h0 : -9223372036854775808 ≤ a) (h1 : a ≤ 9223372036854775807) :
    Calls Try.prog 97 #[.int .i64 a] w fun e w' => ∃ v, e = .returned v ∧ Below w.heap.size w w' ∧ BigR w' v a :=
  (of_any a w h0 h1).mono fun e w' ⟨v, he, h1, h2⟩ => ⟨v, he, h2, h1⟩

theorem cmpB_any (x y : Value) (a b : Int) (w : World) (hx : BigR w x a) (hy : BigR w y b) (ha : a.natAbs < big) (hb : b.natAbs < big) :
    Calls Try.prog 144 #[x, y] w fun e w' => e = .returned (.int .i64 (cmpZ a b)) ∧ Below w.heap.size w w' := by
  have hx0 := hx
  have hy0 := hy
  obtain ⟨m, rfl, -, -⟩ := hx.agg
  obtain ⟨q, rfl, -, -⟩ := hy.agg
  have bel := Below.refl w.heap.size w
  refine Calls.start 16 Try.func144 rfl rfl rfl ?_
  refine Cd.seq ?_
  refine Cd.region ?_
  refine Seq.box rfl rfl rfl rfl rfl ?_
  intro g2 w1 n2
  have e2 := Nat.le_trans bel.size n2.ge
  replace bel := bel.step n2.below
  replace hx := hx.step n2.below
  replace hy := hy.step n2.below
  have k2 := n2.blk
  refine Seq.box rfl rfl rfl rfl rfl ?_
  intro g3 w2 n3
  have e3 := Nat.le_trans bel.size n3.ge
  have l3 := Nat.lt_of_lt_of_le k2.lt n3.ge
  replace bel := bel.step n3.below
  replace hx := hx.step n3.below
  replace hy := hy.step n3.below
  replace k2 := k2.step n3.below
  have k3 := n3.blk
  refine Seq.val (Runs.assign rfl rfl) rfl rfl rfl ?_
  refine Seq.nil ?_
  refine Post.weak (F' := [(0, _), (1, _), (2, _), (3, _), (4, _)]) ⟨rfl, rfl, rfl, rfl, rfl, trivial⟩ ?_
  refine Post.then_ ?_
  refine Cd.seq ?_
  refine Cd.draw 5 (by kernel_rfl) [] (.inl rfl) rfl Grow Grow.refl (fun _ _ _ => Grow.trans) ?_
  intro w3 hw3 zw3
  replace bel := bel.step hw3
  replace hx := hx.step hw3
  replace hy := hy.step hw3
  replace k2 := k2.step hw3
  replace k3 := k3.step hw3
  have zbel := bel.size
  have zlt := k3.lt
  refine Dr.val Grow.refl rfl (fun w hG => Runs.loadW rfl rfl Try.underlying133 rfl (k2.step hG) (m := 2) (by kernel_rfl) rfl) rfl ?_
  refine Dr.val Grow.refl rfl (fun w hG => Runs.loadW rfl rfl Try.underlying133 rfl (k3.step hG) (m := 2) (by kernel_rfl) rfl) rfl ?_
  refine Dr.call (Φ := fun v w => BigR w v (-b)) rfl (fun w => Enters.func rfl rfl rfl (run_enter Try.func98 (by kernel_rfl) rfl)) rfl (BigR.stable _) (fun w hG => minus_big _ _ _ (hy.step hG) hb) ?_
  refine Dr.call1 (j := 2) (Φ := fun v w => BigR w v (a + -b)) rfl rfl rfl (fun u w => Enters.func rfl rfl rfl (run_enter Try.func95 (by kernel_rfl) rfl)) rfl (BigR.stable _) (fun u w hG hu => plus_big _ u a (-b) _ (hx.step hG) hu ha (by omega)) ?_
  refine Dr.alloc rfl rfl (run_zero zero_debentureref01_Big) rfl ?_
  refine Dr.nil ?_
  refine FinX.open (j := 3) rfl ?_
  intro u3
  refine FinX.open (j := 4) rfl ?_
  intro u4
  refine FinX.done (F' := [(0, _), (1, _), (2, _), (3, _), (4, _), (5, _), (9, _)]) rfl ⟨rfl, rfl, rfl, rfl, rfl, rfl, rfl, trivial⟩ ?_
  intro w4 hw4 fw4
  replace bel := bel.step hw4
  replace hx := hx.step hw4
  replace hy := hy.step hw4
  replace k2 := k2.step hw4
  replace k3 := k3.step hw4
  obtain ⟨⟨-, h9⟩, g5, rfl, k5, e5⟩ := fw4
  obtain ⟨m9, rfl, o9, h9⟩ := h9.agg
  obtain ⟨A9, c9, rfl, b9, c9', r9⟩ := id h9
  have l5 := Nat.lt_of_lt_of_le zlt e5
  replace e5 := Nat.le_trans zbel e5
  refine Seq.storeN rfl rfl rfl rfl (m := 2) (by kernel_rfl) rfl (by repeat' first | exact trivial | apply And.intro | rfl | assumption) k5 (by simp [Value.cells]) rfl rfl ?_
  intro w5 pw5
  replace bel := bel.put k5 pw5 e5
  replace hx := hx.put k5 pw5 e5
  replace hy := hy.put k5 pw5 e5
  replace k2 := k2.put pw5 (by omega)
  replace k3 := k3.put pw5 (by omega)
  replace h9 := h9.put k5 pw5 e5
  replace k5 := pw5.blk
  refine Seq.nil ?_
  refine Post.weak (F' := [(0, _), (1, _), (2, _), (3, _), (4, _), (5, _)]) ⟨rfl, rfl, rfl, rfl, rfl, rfl, trivial⟩ ?_
  refine Post.then_ ?_
  refine Cd.seq ?_
  refine Cd.seq ?_
  refine Cd.region ?_
  refine Seq.val (Runs.fieldB 1 rfl rfl Try.underlying133 rfl (by kernel_rfl)) rfl rfl rfl ?_
  refine Seq.val (Runs.loadB rfl rfl Try.underlying131 rfl k5 rfl) rfl rfl rfl ?_
  refine Seq.val (Runs.len rfl rfl Try.underlying131) rfl rfl rfl ?_
  refine Seq.val (Runs.eqlI rfl rfl rfl) rfl rfl rfl ?_
  refine Seq.nil ?_
  refine Post.weak (F' := [(0, _), (1, _), (2, _), (3, _), (4, _), (5, _), (13, _)]) ⟨rfl, rfl, rfl, rfl, rfl, rfl, rfl, trivial⟩ ?_
  refine Post.then_ ?_
  refine Cd.condD rfl (fun hc => ?_) (fun hc => ?_)
  · skip
    refine Cd.seq ?_
    refine Cd.region ?_
    refine Seq.val (Runs.assign rfl rfl) rfl rfl rfl ?_
    refine Seq.nil ?_
    refine Post.weak (F' := [(0, _), (1, _), (2, _), (3, _), (4, _), (5, _), (13, _)]) ⟨rfl, rfl, rfl, rfl, rfl, rfl, rfl, trivial⟩ ?_
    refine Post.then_ ?_
    refine Cd.ret ?_
    refine Post.then_ret ?_
    refine Post.end1 rfl rfl (.inl rfl) ?_
    refine ⟨ret1 (int_eq ?_), bel⟩
    have h0 := (digs_len_zero (a + -b).natAbs).1 (by omega)
    unfold cmpZ
    rw [if_neg (by omega), if_pos (by omega)]
  · skip
    refine Cd.skip ?_
    refine Post.then_ ?_
    refine Cd.seq ?_
    refine Cd.seq ?_
    refine Cd.region ?_
    refine Seq.val (Runs.fieldB 0 rfl rfl Try.underlying133 rfl (by kernel_rfl)) rfl rfl rfl ?_
    refine Seq.val (Runs.loadB rfl rfl Try.underlying4 rfl k5 rfl) rfl rfl rfl ?_
    refine Seq.nil ?_
    refine Post.weak (F' := [(0, _), (1, _), (2, _), (3, _), (4, _), (5, _), (13, _), (15, _)]) ⟨rfl, rfl, rfl, rfl, rfl, rfl, rfl, rfl, trivial⟩ ?_
    refine Post.then_ ?_
    refine Cd.condD rfl (fun hc => ?_) (fun hc => ?_)
    · skip
      refine Cd.seq ?_
      refine Cd.region ?_
      refine Seq.val (Runs.assign rfl rfl) rfl rfl rfl ?_
      refine Seq.nil ?_
      refine Post.weak (F' := [(0, _), (1, _), (2, _), (3, _), (4, _), (5, _), (13, _), (15, _)]) ⟨rfl, rfl, rfl, rfl, rfl, rfl, rfl, rfl, trivial⟩ ?_
      refine Post.then_ ?_
      refine Cd.ret ?_
      refine Post.then_ret ?_
      refine Post.end1 rfl rfl (.inl rfl) ?_
      refine ⟨ret1 (int_eq ?_), bel⟩
      unfold cmpZ
      rw [if_pos (by omega)]
    · have h0 := mt (digs_len_zero (a + -b).natAbs).2 (by omega)
      refine Cd.skip ?_
      refine Post.then_ ?_
      refine Cd.seq ?_
      refine Cd.region ?_
      refine Seq.val (Runs.assign rfl rfl) rfl rfl rfl ?_
      refine Seq.nil ?_
      refine Post.weak (F' := [(0, _), (1, _), (2, _), (3, _), (4, _), (5, _), (13, _), (15, _)]) ⟨rfl, rfl, rfl, rfl, rfl, rfl, rfl, rfl, trivial⟩ ?_
      refine Post.then_ ?_
      refine Cd.ret ?_
      refine Post.end1 rfl rfl (.inl rfl) ?_
      refine ⟨ret1 (int_eq ?_), bel⟩
      unfold cmpZ
      rw [if_neg (by omega), if_neg (by omega)]
theorem cmpB_grow (x y : Value) (a b : Int) (w : World) (hx : BigR w x a) (hy : BigR w y b) (ha : a.natAbs < big) (hb : b.natAbs < big) :
    Calls Try.prog 144 #[x, y] w fun e w' => e = .returned (.int .i64 (cmpZ a b)) ∧ Grow w w' := cmpB_any x y a b w hx hy ha hb
end Go.Proofs.Ytijaldpmpjapiaa

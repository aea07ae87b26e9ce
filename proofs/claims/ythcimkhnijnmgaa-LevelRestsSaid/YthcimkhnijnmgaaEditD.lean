/-
  edit.laid: what it answers. Condition: the lists are within reach.
-/
import Derived.Test.YthcimkhnijnmgaaEditC
namespace Go.Proofs.Ythcimkhnijnmgaa
open Go.RowKit

section
variable {P : Program} {E : Operand → Option Value} {o : Oper} {w : World} {x y z u : Operand} {k : IntKind} {p q r s : Int}
theorem Runs.min3 {ts : Array TypeId} (ho : o.op = .call { callee := .builtin .min, args := #[x, y, z], argTypes := ts }) (hx : E x = some (.int k p)) (hy : E y = some (.int k q)) (hz : E z = some (.int k r)) : Runs P E o w (.int k (min (min p q) r)) w :=
  .of_call ho rfl (vs := [.int k p, .int k q, .int k r]) (by simp only [evL, hx, hy, hz]) (fun cs => by
    have h1 : (if q < p then q else p) = min p q := by omega
    have h2 : (if r < min p q then r else min p q) = min (min p q) r := by omega
    simp [builtin, Builtin.min_, Builtin.min2, h1, h2])
theorem Runs.min4 {ts : Array TypeId} (ho : o.op = .call { callee := .builtin .min, args := #[x, y, z, u], argTypes := ts }) (hx : E x = some (.int k p)) (hy : E y = some (.int k q)) (hz : E z = some (.int k r)) (hu : E u = some (.int k s)) : Runs P E o w (.int k (min (min (min p q) r) s)) w :=
  .of_call ho rfl (vs := [.int k p, .int k q, .int k r, .int k s]) (by simp only [evL, hx, hy, hz, hu]) (fun cs => by
    have h1 : (if q < p then q else p) = min p q := by omega
    have h2 : (if r < min p q then r else min p q) = min (min p q) r := by omega
    have h3 : (if s < min (min p q) r then s else min (min p q) r) = min (min (min p q) r) s := by omega
    simp [builtin, Builtin.min_, Builtin.min2, h1, h2, h3]
    split <;> omega)
end
def badF (f : Fl) : Bool := decide (min (min (min f.num f.level) f.count) f.size < 0) || decide (80 < max (f.first.length : Int) (f.last.length : Int))
theorem laidF_any (f : Fl) (w : World) : Calls Try.prog 37 #[f.v] w fun e w' => e = .returned (.bool (badF f)) ∧ Grow w w' := by
  have bel := Below.refl w.heap.size w
  refine Calls.start 23 Try.func37 rfl rfl rfl ?_
  refine Cd.seq ?_
  refine Cd.region ?_
  refine Seq.box rfl rfl rfl rfl rfl ?_
  intro g1 w1 n1
  have e1 := Nat.le_trans bel.size n1.ge
  replace bel := bel.step n1.below
  have k1 := n1.blk
  refine Seq.val (Runs.assign rfl rfl) rfl rfl rfl ?_
  refine Seq.nil ?_
  refine Post.weak (F' := [(0, _), (1, _), (2, _)]) ⟨rfl, rfl, rfl, trivial⟩ ?_
  refine Post.then_ ?_
  refine Cd.seq ?_
  refine Cd.region ?_
  refine Seq.val (Runs.fieldB 0 rfl rfl Try.underlying37 rfl (by kernel_rfl)) rfl rfl rfl ?_
  refine Seq.val (Runs.loadB rfl rfl Try.underlying3 rfl k1 rfl) rfl rfl rfl ?_
  refine Seq.val (Runs.fieldB 1 rfl rfl Try.underlying37 rfl (by kernel_rfl)) rfl rfl rfl ?_
  refine Seq.val (Runs.loadB rfl rfl Try.underlying3 rfl k1 rfl) rfl rfl rfl ?_
  refine Seq.val (Runs.fieldB 4 rfl rfl Try.underlying37 rfl (by kernel_rfl)) rfl rfl rfl ?_
  refine Seq.val (Runs.loadB rfl rfl Try.underlying3 rfl k1 rfl) rfl rfl rfl ?_
  refine Seq.val (Runs.fieldB 5 rfl rfl Try.underlying37 rfl (by kernel_rfl)) rfl rfl rfl ?_
  refine Seq.val (Runs.loadB rfl rfl Try.underlying3 rfl k1 rfl) rfl rfl rfl ?_
  refine Seq.val (Runs.min4 rfl rfl rfl rfl rfl) rfl rfl rfl ?_
  refine Seq.val (Runs.lss rfl rfl rfl) rfl rfl rfl ?_
  refine Seq.val (Runs.move rfl rfl) rfl rfl rfl ?_
  refine SeqC.start ?_
  refine SeqC.open rfl rfl rfl rfl rfl rfl rfl (fun hcx => Runs.fieldB 2 rfl rfl Try.underlying37 rfl (by kernel_rfl)) ?_
  refine SeqC.next rfl rfl rfl rfl rfl rfl rfl (fun hcx => Runs.loadB rfl rfl Try.underlying9 rfl k1 rfl) ?_
  refine SeqC.next rfl rfl rfl rfl rfl rfl rfl (fun hcx => Runs.lenL rfl rfl Try.underlying9) ?_
  refine SeqC.next rfl rfl rfl rfl rfl rfl rfl (fun hcx => Runs.fieldB 3 rfl rfl Try.underlying37 rfl (by kernel_rfl)) ?_
  refine SeqC.next rfl rfl rfl rfl rfl rfl rfl (fun hcx => Runs.loadB rfl rfl Try.underlying9 rfl k1 rfl) ?_
  refine SeqC.next rfl rfl rfl rfl rfl rfl rfl (fun hcx => Runs.lenL rfl rfl Try.underlying9) ?_
  refine SeqC.next rfl rfl rfl rfl rfl rfl rfl (fun hcx => Runs.max2 rfl rfl rfl) ?_
  refine SeqC.next rfl rfl rfl rfl rfl rfl rfl (fun hcx => Runs.gtr rfl rfl rfl) ?_
  refine SeqC.or rfl rfl rfl rfl rfl rfl rfl ?_
  refine Seq.val (Runs.assign rfl rfl) rfl rfl rfl ?_
  refine Seq.nil ?_
  refine Post.weak (F' := [(0, _), (1, _), (2, _)]) ⟨rfl, rfl, rfl, trivial⟩ ?_
  refine Post.then_ ?_
  refine Cd.ret ?_
  refine Post.end1 rfl rfl (.inl rfl) ?_
  exact ⟨ret1 (bool_eq rfl), bel⟩
theorem laidN_any (n : Int) (w : World) : Calls Try.prog 38 #[.int .i64 n] w fun e w' => e = .returned (.bool (decide (n < 0))) ∧ Grow w w' := by
  have bel := Below.refl w.heap.size w
  refine Calls.start 5 Try.func38 rfl rfl rfl ?_
  refine Cd.seq ?_
  refine Cd.region ?_
  refine Seq.val (Runs.assign rfl rfl) rfl rfl rfl ?_
  refine Seq.nil ?_
  refine Post.weak (F' := [(0, _), (2, _)]) ⟨rfl, rfl, trivial⟩ ?_
  refine Post.then_ ?_
  refine Cd.seq ?_
  refine Cd.region ?_
  refine Seq.val (Runs.move rfl rfl) rfl rfl rfl ?_
  refine Seq.val (Runs.lss rfl rfl rfl) rfl rfl rfl ?_
  refine Seq.val (Runs.assign rfl rfl) rfl rfl rfl ?_
  refine Seq.nil ?_
  refine Post.weak (F' := [(0, _), (2, _)]) ⟨rfl, rfl, trivial⟩ ?_
  refine Post.then_ ?_
  refine Cd.ret ?_
  refine Post.end1 rfl rfl (.inl rfl) ?_
  exact ⟨rfl, bel⟩
theorem eg_laidF : ∀ args w, (callFunc 37 args).run Try.prog w = .ok (.enter 37 args) w := fun args w => run_enter Try.func37 (by kernel_rfl) rfl args w
theorem eg_laidN : ∀ args w, (callFunc 38 args).run Try.prog w = .ok (.enter 38 args) w := fun args w => run_enter Try.func38 (by kernel_rfl) rfl args w
def DI (l : List Int) : List Value := l.map fun z => .int .i64 z
theorem indexN_any (g : Nat) (cp : List Value) (p : Int → Bool) (B : Nat) (A : Option Addr) (n cap : Nat) (l : List Int) (w : World) (hr : Reads w B 1 A n (DI l)) (hB : B ≤ w.heap.size) (hn : n ≤ 1000000000)
    (eg : ∀ args w, (callFunc g args).run Try.prog w = .ok (.enter g args) w) (hp : ∀ z ∈ l, ∀ W, Below w.heap.size w W → Calls Try.prog g ([] ++ [Value.int .i64 z] ++ cp).toArray W fun e w' => e = .returned (.bool (p z)) ∧ Grow W w') :
    Calls Try.prog 49 #[.slice A n cap, .func (.func g) #[] cp.toArray] w fun e w' => e = .returned (.int .i64 (idxP p l)) ∧ Grow w w' := by
  have bel := Below.refl w.heap.size w
  have hll : l.length = n := by have := hr.1; simpa [DI] using this
  refine Calls.start 19 Try.func49 rfl rfl rfl ?_
  refine Cd.seq ?_
  refine Cd.region ?_
  refine Seq.val (Runs.assign rfl rfl) rfl rfl rfl ?_
  refine Seq.nil ?_
  refine Post.weak (F' := [(0, _), (1, _), (4, _)]) ⟨rfl, rfl, rfl, trivial⟩ ?_
  refine Post.then_ ?_
  refine Cd.seq ?_
  refine Cd.seq ?_
  refine Cd.region ?_
  refine Seq.val (Runs.move rfl rfl) rfl rfl rfl ?_
  refine Seq.val (Runs.len rfl rfl Try.underlying31) rfl rfl rfl ?_
  refine Seq.val (Runs.move rfl rfl) rfl rfl rfl ?_
  refine Seq.nil ?_
  refine Post.weak (F' := [(0, _), (1, _), (4, _), (7, _), (8, _)]) ⟨rfl, rfl, rfl, rfl, rfl, trivial⟩ ?_
  refine Post.then_ ?_
  refine Cd.block ?_
  refine Cd.loop (σ := Nat) (fun k => [(0, .slice A n cap), (1, .func (.func g) #[] cp.toArray), (7, .int .i64 (n : Int)), (8, .int .i64 (k : Int))])
    (fun k wr => k ≤ n ∧ (∀ y ∈ l.take k, p y = false) ∧ Below w.heap.size w wr) (fun k => n - k) 0 ⟨Nat.zero_le _, by simp, bel⟩ ⟨rfl, rfl, rfl, rfl, trivial⟩ ?_
  clear bel
  rintro k wr ⟨hk, hno, bel⟩
  refine Cd.seq ?_
  refine Cd.region ?_
  refine Seq.val (Runs.lss rfl rfl rfl) rfl rfl rfl ?_
  refine Seq.nil ?_
  refine Post.weak (F' := [(0, _), (1, _), (7, _), (8, _), (9, _)]) ⟨rfl, rfl, rfl, rfl, rfl, trivial⟩ ?_
  refine Post.then_ ?_
  refine Cd.seq ?_
  refine Cd.condD rfl (fun hc => ?_) (fun hc => ?_)
  · obtain ⟨f, hf⟩ : ∃ f, l[k]? = some f := ⟨_, List.getElem?_eq_getElem (show k < l.length by omega)⟩
    obtain ⟨ad, rfl, hbl, hc⟩ := hr.2 (by omega)
    have hc := (bel.cell (p := ad.add k) (by rw [block_of_add]; omega)).trans (hc k (.int .i64 f) (by simp [DI, hf]))
    have htk : l.take (k + 1) = l.take k ++ [f] := by rw [List.take_add_one, hf]; rfl
    refine Cd.skip ?_
    refine Post.then_ ?_
    refine Cd.seq ?_
    refine Cd.block ?_
    refine Cd.seq ?_
    refine Cd.region ?_
    refine Seq.val (Runs.move rfl rfl) rfl rfl rfl ?_
    refine Seq.val (Runs.assign rfl rfl) rfl rfl rfl ?_
    refine Seq.nil ?_
    refine Post.weak (F' := [(0, _), (1, _), (5, _), (7, _), (8, _), (9, _)]) ⟨rfl, rfl, rfl, rfl, rfl, rfl, trivial⟩ ?_
    refine Post.then_ ?_
    refine Cd.seq ?_
    refine Cd.region ?_
    refine Seq.val (Runs.move rfl rfl) rfl rfl rfl ?_
    refine Seq.val (Runs.move rfl rfl) rfl rfl rfl ?_
    refine Seq.val (Runs.move rfl rfl) rfl rfl rfl ?_
    refine Seq.val (Runs.index1 rfl rfl rfl Try.underlying31 (by kernel_rfl) (j := k) rfl (by omega)) rfl rfl rfl ?_
    refine Seq.val (Runs.load1 rfl rfl Try.underlying3 rfl hc) rfl rfl rfl ?_
    refine Seq.call (Enters.value (first := []) (cap := cp) rfl rfl rfl eg) rfl rfl rfl (hp f (List.mem_of_getElem? hf) _ bel) ?_
    rintro e w5 ⟨rfl, hb5⟩
    refine ⟨_, rfl, ?_⟩
    replace bel := bel.step hb5
    refine Seq.nil ?_
    refine Post.weak (F' := [(0, _), (1, _), (5, _), (7, _), (8, _), (9, _), (16, _)]) ⟨rfl, rfl, rfl, rfl, rfl, rfl, rfl, trivial⟩ ?_
    refine Post.then_ ?_
    refine Cd.cond rfl (fun h => ?_) (fun h => ?_)
    · skip
      refine Cd.seq ?_
      refine Cd.region ?_
      refine Seq.val (Runs.move rfl rfl) rfl rfl rfl ?_
      refine Seq.val (Runs.assign rfl rfl) rfl rfl rfl ?_
      refine Seq.nil ?_
      refine Post.weak (F' := [(0, _), (1, _), (4, _), (5, _), (7, _), (8, _), (9, _), (16, _)]) ⟨rfl, rfl, rfl, rfl, rfl, rfl, rfl, rfl, trivial⟩ ?_
      refine Post.then_ ?_
      refine Cd.ret ?_
      refine Post.block_ret ?_
      refine Post.then_ret ?_
      refine Post.round_ret ?_
      refine Post.block_ret ?_
      refine Post.then_ret ?_
      refine Post.end1 rfl rfl (.inl rfl) ?_
      exact ⟨ret1 (int_eq (idxP_some hf h hno).symm), bel⟩
    · skip
      refine Cd.skip ?_
      refine Post.block_normal ?_
      refine Post.then_ ?_
      refine Cd.region ?_
      refine Seq.val (Runs.addI rfl rfl rfl (by omega) (by omega)) rfl rfl rfl ?_
      refine Seq.val (Runs.move rfl rfl) rfl rfl rfl ?_
      refine Seq.nil ?_
      refine Post.weak (F' := [(0, _), (1, _), (5, _), (7, _), (8, _), (9, _), (16, _)]) ⟨rfl, rfl, rfl, rfl, rfl, rfl, rfl, trivial⟩ ?_
      refine Post.round (k + 1) ⟨rfl, rfl, rfl, rfl, trivial⟩ ⟨by omega, fun y hy => ?_, bel⟩ (by omega)
      rw [htk] at hy
      rcases List.mem_append.1 hy with hy | hy
      · exact hno y hy
      · simp at hy; subst hy; exact h
  · obtain rfl : k = n := by omega
    rw [List.take_of_length_le (by omega)] at hno
    refine Cd.exit ?_
    refine Post.then_exit ?_
    refine Post.round_exit ?_
    refine Post.block_exit ?_
    refine Post.then_ ?_
    refine Cd.seq ?_
    refine Cd.region ?_
    refine Seq.val (Runs.assign rfl rfl) rfl rfl rfl ?_
    refine Seq.nil ?_
    refine Post.weak (F' := [(0, _), (1, _), (4, _), (7, _), (8, _), (9, _)]) ⟨rfl, rfl, rfl, rfl, rfl, rfl, trivial⟩ ?_
    refine Post.then_ ?_
    refine Cd.ret ?_
    refine Post.end1 rfl rfl (.inl rfl) ?_
    exact ⟨ret1 (int_eq (idxP_none hno).symm), bel⟩
theorem containsN_any (g : Nat) (cp : List Value) (p : Int → Bool) (B : Nat) (A : Option Addr) (n cap : Nat) (l : List Int) (w : World) (hr : Reads w B 1 A n (DI l)) (hB : B ≤ w.heap.size) (hn : n ≤ 1000000000)
    (eg : ∀ args w, (callFunc g args).run Try.prog w = .ok (.enter g args) w) (hp : ∀ z ∈ l, ∀ W, Below w.heap.size w W → Calls Try.prog g ([] ++ [Value.int .i64 z] ++ cp).toArray W fun e w' => e = .returned (.bool (p z)) ∧ Grow W w') :
    Calls Try.prog 40 #[.slice A n cap, .func (.func g) #[] cp.toArray] w fun e w' => e = .returned (.bool (l.any p)) ∧ Grow w w' := by
  have bel := Below.refl w.heap.size w
  have hc := fun W (hb : Below w.heap.size w W) => indexN_any g cp p B A n cap l W (hr.below (hb.mono hB)) (Nat.le_trans hB hb.size) hn eg (fun f hf W2 hb2 => hp f hf W2 (hb.trans (hb2.mono hb.size)))
  have hany := idxP_any p l
  refine Calls.start 9 Try.func40 rfl rfl rfl ?_
  refine Cd.seq ?_
  refine Cd.region ?_
  refine Seq.val (Runs.assign rfl rfl) rfl rfl rfl ?_
  refine Seq.nil ?_
  refine Post.weak (F' := [(0, _), (1, _), (4, _)]) ⟨rfl, rfl, rfl, trivial⟩ ?_
  refine Post.then_ ?_
  refine Cd.seq ?_
  refine Cd.region ?_
  refine Seq.val (Runs.move rfl rfl) rfl rfl rfl ?_
  refine Seq.val (Runs.move rfl rfl) rfl rfl rfl ?_
  refine Seq.call (Enters.func rfl rfl rfl (run_enter Try.func49 (by kernel_rfl) rfl)) rfl rfl rfl (hc _ bel) ?_
  rintro e w5 ⟨rfl, hb5⟩
  refine ⟨_, rfl, ?_⟩
  replace bel := bel.step hb5
  refine Seq.val (Runs.geq rfl rfl rfl) rfl rfl rfl ?_
  refine Seq.val (Runs.assign rfl rfl) rfl rfl rfl ?_
  refine Seq.nil ?_
  refine Post.weak (F' := [(0, _), (1, _), (4, _)]) ⟨rfl, rfl, rfl, trivial⟩ ?_
  refine Post.then_ ?_
  refine Cd.ret ?_
  refine Post.end1 rfl rfl (.inl rfl) ?_
  exact ⟨ret1 (bool_eq hany), bel⟩
/-- Can an edit be laid? -/
def laidB (lg nx sq : Int) (drop : List Int) (add : List Fl) : Bool := decide (-1 ≤ min (min lg nx) sq) && decide (max (drop.length : Int) (add.length : Int) ≤ 100) && !(add.any badF) && !(drop.any fun n => decide (n < 0))
theorem laid_any (lg nx sq : Int) (B : Nat) (A A' : Option Addr) (cap cap' : Nat) (drop : List Int) (add : List Fl) (w : World) (hr : Reads w B 1 A drop.length (DI drop)) (hr' : Reads w B 6 A' add.length (fcs add)) (hB : B ≤ w.heap.size) :
    Calls Try.prog 20 #[.agg #[.int .i64 lg, .int .i64 nx, .int .i64 sq, .slice A drop.length cap, .slice A' add.length cap']] w fun e w' => e = .returned (.bool (laidB lg nx sq drop add)) ∧ Grow w w' := by
  have bel := Below.refl w.heap.size w
  have hc := fun W (hb : Below w.heap.size w W) (hn : add.length ≤ 1000000000) => containsF_any 37 [] badF B A' add.length cap' add W (hr'.below (hb.mono hB)) (Nat.le_trans hB hb.size) hn eg_laidF (fun f _ W2 _ => laidF_any f W2)
  have hc' := fun W (hb : Below w.heap.size w W) (hn : drop.length ≤ 1000000000) => containsN_any 38 [] (fun n => decide (n < 0)) B A drop.length cap drop W (hr.below (hb.mono hB)) (Nat.le_trans hB hb.size) hn eg_laidN (fun f _ W2 _ => laidN_any f W2)
  refine Calls.start 37 Try.func20 rfl rfl rfl ?_
  refine Cd.seq ?_
  refine Cd.region ?_
  refine Seq.box rfl rfl rfl rfl rfl ?_
  intro g1 w1 n1
  have e1 := Nat.le_trans bel.size n1.ge
  replace bel := bel.step n1.below
  have k1 := n1.blk
  refine Seq.val (Runs.assign rfl rfl) rfl rfl rfl ?_
  refine Seq.nil ?_
  refine Post.weak (F' := [(0, _), (1, _), (2, _)]) ⟨rfl, rfl, rfl, trivial⟩ ?_
  refine Post.then_ ?_
  refine Cd.seq ?_
  refine Cd.region ?_
  refine Seq.val (Runs.assign rfl rfl) rfl rfl rfl ?_
  refine Seq.nil ?_
  refine Post.weak (F' := [(0, _), (1, _), (2, _), (3, _)]) ⟨rfl, rfl, rfl, rfl, trivial⟩ ?_
  refine Post.then_ ?_
  refine Cd.seq ?_
  refine Cd.region ?_
  refine Seq.val (Runs.assign rfl rfl) rfl rfl rfl ?_
  refine Seq.nil ?_
  refine Post.weak (F' := [(0, _), (1, _), (2, _), (3, _), (4, _)]) ⟨rfl, rfl, rfl, rfl, rfl, trivial⟩ ?_
  refine Post.then_ ?_
  refine Cd.seq ?_
  refine Cd.region ?_
  refine Seq.val (Runs.fieldB 0 rfl rfl Try.underlying46 rfl (by kernel_rfl)) rfl rfl rfl ?_
  refine Seq.val (Runs.loadB rfl rfl Try.underlying3 rfl k1 rfl) rfl rfl rfl ?_
  refine Seq.val (Runs.fieldB 1 rfl rfl Try.underlying46 rfl (by kernel_rfl)) rfl rfl rfl ?_
  refine Seq.val (Runs.loadB rfl rfl Try.underlying3 rfl k1 rfl) rfl rfl rfl ?_
  refine Seq.val (Runs.fieldB 2 rfl rfl Try.underlying46 rfl (by kernel_rfl)) rfl rfl rfl ?_
  refine Seq.val (Runs.loadB rfl rfl Try.underlying3 rfl k1 rfl) rfl rfl rfl ?_
  refine Seq.val (Runs.min3 rfl rfl rfl rfl) rfl rfl rfl ?_
  refine Seq.val (Runs.geq rfl rfl rfl) rfl rfl rfl ?_
  refine Seq.val (Runs.move rfl rfl) rfl rfl rfl ?_
  refine SeqC.start ?_
  refine SeqC.open rfl rfl rfl rfl rfl rfl rfl (fun hcx => Runs.fieldB 3 rfl rfl Try.underlying46 rfl (by kernel_rfl)) ?_
  refine SeqC.next rfl rfl rfl rfl rfl rfl rfl (fun hcx => Runs.loadB rfl rfl Try.underlying31 rfl k1 rfl) ?_
  refine SeqC.next rfl rfl rfl rfl rfl rfl rfl (fun hcx => Runs.len rfl rfl Try.underlying31) ?_
  refine SeqC.next rfl rfl rfl rfl rfl rfl rfl (fun hcx => Runs.fieldB 4 rfl rfl Try.underlying46 rfl (by kernel_rfl)) ?_
  refine SeqC.next rfl rfl rfl rfl rfl rfl rfl (fun hcx => Runs.loadB rfl rfl Try.underlying27 rfl k1 rfl) ?_
  refine SeqC.next rfl rfl rfl rfl rfl rfl rfl (fun hcx => Runs.len rfl rfl Try.underlying27) ?_
  refine SeqC.next rfl rfl rfl rfl rfl rfl rfl (fun hcx => Runs.max2 rfl rfl rfl) ?_
  refine SeqC.next rfl rfl rfl rfl rfl rfl rfl (fun hcx => Runs.leq rfl rfl rfl) ?_
  refine SeqC.and rfl rfl rfl rfl rfl rfl rfl ?_
  refine Seq.val (Runs.move rfl rfl) rfl rfl rfl ?_
  refine SeqC.start ?_
  refine SeqC.open rfl rfl rfl rfl rfl rfl rfl (fun hcx => Runs.fieldB 4 rfl rfl Try.underlying46 rfl (by kernel_rfl)) ?_
  refine SeqC.next rfl rfl rfl rfl rfl rfl rfl (fun hcx => Runs.loadB rfl rfl Try.underlying27 rfl k1 rfl) ?_
  refine SeqC.next rfl rfl rfl rfl rfl rfl rfl (fun hcx => Runs.move rfl rfl) ?_
  refine SeqC.nextC rfl rfl rfl rfl rfl rfl rfl (fun hcx => Enters.func rfl rfl rfl (run_enter Try.func39 (by kernel_rfl) rfl)) (fun hcx => hc _ bel (by simp [topX] at hcx; omega)) ?_
  intro w2 hw2
  replace bel := bel.step hw2
  replace k1 := k1.step hw2
  refine SeqC.next rfl rfl rfl rfl rfl rfl rfl (fun hcx => Runs.not rfl rfl) ?_
  refine SeqC.and rfl rfl rfl rfl rfl rfl rfl ?_
  refine Seq.val (Runs.move rfl rfl) rfl rfl rfl ?_
  refine SeqC.start ?_
  refine SeqC.open rfl rfl rfl rfl rfl rfl rfl (fun hcx => Runs.fieldB 3 rfl rfl Try.underlying46 rfl (by kernel_rfl)) ?_
  refine SeqC.next rfl rfl rfl rfl rfl rfl rfl (fun hcx => Runs.loadB rfl rfl Try.underlying31 rfl k1 rfl) ?_
  refine SeqC.next rfl rfl rfl rfl rfl rfl rfl (fun hcx => Runs.move rfl rfl) ?_
  refine SeqC.nextC rfl rfl rfl rfl rfl rfl rfl (fun hcx => Enters.func rfl rfl rfl (run_enter Try.func40 (by kernel_rfl) rfl)) (fun hcx => hc' _ bel (by simp [topX] at hcx; omega)) ?_
  intro w3 hw3
  replace bel := bel.step hw3
  replace k1 := k1.step hw3
  refine SeqC.next rfl rfl rfl rfl rfl rfl rfl (fun hcx => Runs.not rfl rfl) ?_
  refine SeqC.and rfl rfl rfl rfl rfl rfl rfl ?_
  refine Seq.val (Runs.assign rfl rfl) rfl rfl rfl ?_
  refine Seq.nil ?_
  refine Post.weak (F' := [(0, _), (1, _), (2, _), (3, _), (4, _)]) ⟨rfl, rfl, rfl, rfl, rfl, trivial⟩ ?_
  refine Post.then_ ?_
  refine Cd.ret ?_
  refine Post.end1 rfl rfl (.inl rfl) ?_
  exact ⟨ret1 (bool_eq rfl), bel⟩
end Go.Proofs.Ythcimkhnijnmgaa

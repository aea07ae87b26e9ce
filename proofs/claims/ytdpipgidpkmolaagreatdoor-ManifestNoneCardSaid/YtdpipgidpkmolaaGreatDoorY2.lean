/-
  Texts that were joined: EditD, NcA, WbE, WaT, WaU, WaV, WbA, WbB, WbC, WbD, WbF, WbG, WbH, WbI, WbJ, WbK, WbL, WbM, WcA, WcB. Conditions: what each theorem names.
-/
import Derived.Test.YtdpipgidpkmolaaGreatDoorY1
import Derived.Sort.OwnSortedInts
set_option linter.unusedSectionVars false
namespace Go.Proofs.YtdpipgidpkmolaaGreatDoor
open Go.RowKit

section
variable {P : Program} {E : Operand → Option Value} {o : Oper} {w : World} {x y z u : Operand} {k : IntKind} {p q r s : Int}
theorem Runs.min3 {ts : Array TypeId} (ho : o.op = .call { callee := .builtin .min, args := #[x, y, z], argTypes := ts }) (hx : E x = some (.int k p)) (hy : E y = some (.int k q)) (hz : E z = some (.int k r)) : Runs P E o w (.int k (min (min p q) r)) w :=
  .of_call ho rfl (vs := [.int k p, .int k q, .int k r]) (by simp only [evL, hx, hy, hz]) (fun cs => by
    have h1 : (if q < p then q else p) = min p q := by omega
    have h2 : (if r < min p q then r else min p q) = min (min p q) r := by omega
    simp [builtin, Builtin.min_, Builtin.min2, h1, h2])
theorem Runs.min4 {ts : Array TypeId} (ho : o.op = .call { callee := .builtin .min, args := #[x, y, z, u], argTypes := ts }) (hx : E x = some (.int k p)) (hy : E y = some (.int k q)) (hz : E z = some (.int k r)) (hu : E u = some (.int k s)) : Runs P E o w (.int k (min (min (min p q) r) s)) w :=
  .of_call ho rfl (vs := [.int k p, .int k q, .int k r, .int k s]) (by simp only [evL, hx, hy, hz, hu]) (fun cs => by
    have h1 : (if q < p then q else p) = min p q := by omega
    have h2 : (if r < min p q then r else min p q) = min (min p q) r := by omega
    have h3 : (if s < min (min p q) r then s else min (min p q) r) = min (min (min p q) r) s := by omega
    simp [builtin, Builtin.min_, Builtin.min2, h1, h2, h3]
    split <;> omega)
end
def badF (f : Fl) : Bool := decide (min (min (min f.num f.level) f.count) f.size < 0) || decide (80 < max (f.first.length : Int) (f.last.length : Int))
theorem laidF_any (f : Fl) (w : World) : Calls Tryz.prog 120 #[f.v] w fun e w' => e = .returned (.bool (badF f)) ∧ Grow w w' := by
  have bel := Below.refl w.heap.size w
  refine Calls.start 23 Tryz.func120 rfl rfl rfl ?_
  refine Cd.seq ?_
  refine Cd.region ?_
  refine Seq.box rfl rfl rfl rfl rfl ?_
  intro g1 w1 n1
  have e1 := Nat.le_trans bel.size n1.ge
  replace bel := bel.step n1.below
  have k1 := n1.blk
  refine Seq.val (Runs.assign rfl rfl) rfl rfl rfl ?_
  refine Seq.nil ?_
  refine Post.weak (F' := [(0, _), (1, _), (2, _)]) ⟨rfl, rfl, rfl, trivial⟩ ?_
  refine Post.then_ ?_
  refine Cd.seq ?_
  refine Cd.region ?_
  refine Seq.val (Runs.fieldB 0 rfl rfl Tryz.underlying81 rfl (by kernel_rfl)) rfl rfl rfl ?_
  refine Seq.val (Runs.loadB rfl rfl Tryz.underlying3 rfl k1 rfl) rfl rfl rfl ?_
  refine Seq.val (Runs.fieldB 1 rfl rfl Tryz.underlying81 rfl (by kernel_rfl)) rfl rfl rfl ?_
  refine Seq.val (Runs.loadB rfl rfl Tryz.underlying3 rfl k1 rfl) rfl rfl rfl ?_
  refine Seq.val (Runs.fieldB 4 rfl rfl Tryz.underlying81 rfl (by kernel_rfl)) rfl rfl rfl ?_
  refine Seq.val (Runs.loadB rfl rfl Tryz.underlying3 rfl k1 rfl) rfl rfl rfl ?_
  refine Seq.val (Runs.fieldB 5 rfl rfl Tryz.underlying81 rfl (by kernel_rfl)) rfl rfl rfl ?_
  refine Seq.val (Runs.loadB rfl rfl Tryz.underlying3 rfl k1 rfl) rfl rfl rfl ?_
  refine Seq.val (Runs.min4 rfl rfl rfl rfl rfl) rfl rfl rfl ?_
  refine Seq.val (Runs.lss rfl rfl rfl) rfl rfl rfl ?_
  refine Seq.val (Runs.move rfl rfl) rfl rfl rfl ?_
  refine SeqC.start ?_
  refine SeqC.open rfl rfl rfl rfl rfl rfl rfl (fun hcx => Runs.fieldB 2 rfl rfl Tryz.underlying81 rfl (by kernel_rfl)) ?_
  refine SeqC.next rfl rfl rfl rfl rfl rfl rfl (fun hcx => Runs.loadB rfl rfl Tryz.underlying9 rfl k1 rfl) ?_
  refine SeqC.next rfl rfl rfl rfl rfl rfl rfl (fun hcx => Runs.lenL rfl rfl Tryz.underlying9) ?_
  refine SeqC.next rfl rfl rfl rfl rfl rfl rfl (fun hcx => Runs.fieldB 3 rfl rfl Tryz.underlying81 rfl (by kernel_rfl)) ?_
  refine SeqC.next rfl rfl rfl rfl rfl rfl rfl (fun hcx => Runs.loadB rfl rfl Tryz.underlying9 rfl k1 rfl) ?_
  refine SeqC.next rfl rfl rfl rfl rfl rfl rfl (fun hcx => Runs.lenL rfl rfl Tryz.underlying9) ?_
  refine SeqC.next rfl rfl rfl rfl rfl rfl rfl (fun hcx => Runs.max2 rfl rfl rfl) ?_
  refine SeqC.next rfl rfl rfl rfl rfl rfl rfl (fun hcx => Runs.gtr rfl rfl rfl) ?_
  refine SeqC.or rfl rfl rfl rfl rfl rfl rfl ?_
  refine Seq.val (Runs.assign rfl rfl) rfl rfl rfl ?_
  refine Seq.nil ?_
  refine Post.weak (F' := [(0, _), (1, _), (2, _)]) ⟨rfl, rfl, rfl, trivial⟩ ?_
  refine Post.then_ ?_
  refine Cd.ret ?_
  refine Post.end1 rfl rfl (.inl rfl) ?_
  exact ⟨ret1 (bool_eq rfl), bel⟩
theorem laidN_any (n : Int) (w : World) : Calls Tryz.prog 121 #[.int .i64 n] w fun e w' => e = .returned (.bool (decide (n < 0))) ∧ Grow w w' := by
  have bel := Below.refl w.heap.size w
  refine Calls.start 5 Tryz.func121 rfl rfl rfl ?_
  refine Cd.seq ?_
  refine Cd.region ?_
  refine Seq.val (Runs.assign rfl rfl) rfl rfl rfl ?_
  refine Seq.nil ?_
  refine Post.weak (F' := [(0, _), (2, _)]) ⟨rfl, rfl, trivial⟩ ?_
  refine Post.then_ ?_
  refine Cd.seq ?_
  refine Cd.region ?_
  refine Seq.val (Runs.move rfl rfl) rfl rfl rfl ?_
  refine Seq.val (Runs.lss rfl rfl rfl) rfl rfl rfl ?_
  refine Seq.val (Runs.assign rfl rfl) rfl rfl rfl ?_
  refine Seq.nil ?_
  refine Post.weak (F' := [(0, _), (2, _)]) ⟨rfl, rfl, trivial⟩ ?_
  refine Post.then_ ?_
  refine Cd.ret ?_
  refine Post.end1 rfl rfl (.inl rfl) ?_
  exact ⟨rfl, bel⟩
theorem eg_laidF : ∀ args w, (callFunc 120 args).run Tryz.prog w = .ok (.enter 120 args) w := fun args w => run_enter Tryz.func120 (by kernel_rfl) rfl args w
theorem eg_laidN : ∀ args w, (callFunc 121 args).run Tryz.prog w = .ok (.enter 121 args) w := fun args w => run_enter Tryz.func121 (by kernel_rfl) rfl args w
def DI (l : List Int) : List Value := l.map fun z => .int .i64 z
theorem indexN_any (g : Nat) (cp : List Value) (p : Int → Bool) (B : Nat) (A : Option Addr) (n cap : Nat) (l : List Int) (w : World) (hr : Reads w B 1 A n (DI l)) (hB : B ≤ w.heap.size) (hn : n ≤ 1000000000)
    (eg : ∀ args w, (callFunc g args).run Tryz.prog w = .ok (.enter g args) w) (hp : ∀ z ∈ l, ∀ W, Below w.heap.size w W → Calls Tryz.prog g ([] ++ [Value.int .i64 z] ++ cp).toArray W fun e w' => e = .returned (.bool (p z)) ∧ Grow W w') :
    Calls Tryz.prog 156 #[.slice A n cap, .func (.func g) #[] cp.toArray] w fun e w' => e = .returned (.int .i64 (idxP p l)) ∧ Grow w w' := by
  have bel := Below.refl w.heap.size w
  have hll : l.length = n := by have := hr.1; simpa [DI] using this
  refine Calls.start 19 Tryz.func156 rfl rfl rfl ?_
  refine Cd.seq ?_
  refine Cd.region ?_
  refine Seq.val (Runs.assign rfl rfl) rfl rfl rfl ?_
  refine Seq.nil ?_
  refine Post.weak (F' := [(0, _), (1, _), (4, _)]) ⟨rfl, rfl, rfl, trivial⟩ ?_
  refine Post.then_ ?_
  refine Cd.seq ?_
  refine Cd.seq ?_
  refine Cd.region ?_
  refine Seq.val (Runs.move rfl rfl) rfl rfl rfl ?_
  refine Seq.val (Runs.len rfl rfl Tryz.underlying40) rfl rfl rfl ?_
  refine Seq.val (Runs.move rfl rfl) rfl rfl rfl ?_
  refine Seq.nil ?_
  refine Post.weak (F' := [(0, _), (1, _), (4, _), (7, _), (8, _)]) ⟨rfl, rfl, rfl, rfl, rfl, trivial⟩ ?_
  refine Post.then_ ?_
  refine Cd.block ?_
  refine Cd.loop (σ := Nat) (fun k => [(0, .slice A n cap), (1, .func (.func g) #[] cp.toArray), (7, .int .i64 (n : Int)), (8, .int .i64 (k : Int))])
    (fun k wr => k ≤ n ∧ (∀ y ∈ l.take k, p y = false) ∧ Below w.heap.size w wr) (fun k => n - k) 0 ⟨Nat.zero_le _, by simp, bel⟩ ⟨rfl, rfl, rfl, rfl, trivial⟩ ?_
  clear bel
  rintro k wr ⟨hk, hno, bel⟩
  refine Cd.seq ?_
  refine Cd.region ?_
  refine Seq.val (Runs.lss rfl rfl rfl) rfl rfl rfl ?_
  refine Seq.nil ?_
  refine Post.weak (F' := [(0, _), (1, _), (7, _), (8, _), (9, _)]) ⟨rfl, rfl, rfl, rfl, rfl, trivial⟩ ?_
  refine Post.then_ ?_
  refine Cd.seq ?_
  refine Cd.condD rfl (fun hc => ?_) (fun hc => ?_)
  · obtain ⟨f, hf⟩ : ∃ f, l[k]? = some f := ⟨_, List.getElem?_eq_getElem (show k < l.length by omega)⟩
    obtain ⟨ad, rfl, hbl, hc⟩ := hr.2 (by omega)
    have hc := (bel.cell (p := ad.add k) (by rw [block_of_add]; omega)).trans (hc k (.int .i64 f) (by simp [DI, hf]))
    have htk : l.take (k + 1) = l.take k ++ [f] := by rw [List.take_add_one, hf]; rfl
    refine Cd.skip ?_
    refine Post.then_ ?_
    refine Cd.seq ?_
    refine Cd.block ?_
    refine Cd.seq ?_
    refine Cd.region ?_
    refine Seq.val (Runs.move rfl rfl) rfl rfl rfl ?_
    refine Seq.val (Runs.assign rfl rfl) rfl rfl rfl ?_
    refine Seq.nil ?_
    refine Post.weak (F' := [(0, _), (1, _), (5, _), (7, _), (8, _), (9, _)]) ⟨rfl, rfl, rfl, rfl, rfl, rfl, trivial⟩ ?_
    refine Post.then_ ?_
    refine Cd.seq ?_
    refine Cd.region ?_
    refine Seq.val (Runs.move rfl rfl) rfl rfl rfl ?_
    refine Seq.val (Runs.move rfl rfl) rfl rfl rfl ?_
    refine Seq.val (Runs.move rfl rfl) rfl rfl rfl ?_
    refine Seq.val (Runs.index1 rfl rfl rfl Tryz.underlying40 (by kernel_rfl) (j := k) rfl (by omega)) rfl rfl rfl ?_
    refine Seq.val (Runs.load1 rfl rfl Tryz.underlying3 rfl hc) rfl rfl rfl ?_
    refine Seq.call (Enters.value (first := []) (cap := cp) rfl rfl rfl eg) rfl rfl rfl (hp f (List.mem_of_getElem? hf) _ bel) ?_
    rintro e w5 ⟨rfl, hb5⟩
    refine ⟨_, rfl, ?_⟩
    replace bel := bel.step hb5
    refine Seq.nil ?_
    refine Post.weak (F' := [(0, _), (1, _), (5, _), (7, _), (8, _), (9, _), (16, _)]) ⟨rfl, rfl, rfl, rfl, rfl, rfl, rfl, trivial⟩ ?_
    refine Post.then_ ?_
    refine Cd.cond rfl (fun h => ?_) (fun h => ?_)
    · skip
      refine Cd.seq ?_
      refine Cd.region ?_
      refine Seq.val (Runs.move rfl rfl) rfl rfl rfl ?_
      refine Seq.val (Runs.assign rfl rfl) rfl rfl rfl ?_
      refine Seq.nil ?_
      refine Post.weak (F' := [(0, _), (1, _), (4, _), (5, _), (7, _), (8, _), (9, _), (16, _)]) ⟨rfl, rfl, rfl, rfl, rfl, rfl, rfl, rfl, trivial⟩ ?_
      refine Post.then_ ?_
      refine Cd.ret ?_
      refine Post.block_ret ?_
      refine Post.then_ret ?_
      refine Post.round_ret ?_
      refine Post.block_ret ?_
      refine Post.then_ret ?_
      refine Post.end1 rfl rfl (.inl rfl) ?_
      exact ⟨ret1 (int_eq (idxP_some hf h hno).symm), bel⟩
    · skip
      refine Cd.skip ?_
      refine Post.block_normal ?_
      refine Post.then_ ?_
      refine Cd.region ?_
      refine Seq.val (Runs.addI rfl rfl rfl (by omega) (by omega)) rfl rfl rfl ?_
      refine Seq.val (Runs.move rfl rfl) rfl rfl rfl ?_
      refine Seq.nil ?_
      refine Post.weak (F' := [(0, _), (1, _), (5, _), (7, _), (8, _), (9, _), (16, _)]) ⟨rfl, rfl, rfl, rfl, rfl, rfl, rfl, trivial⟩ ?_
      refine Post.round (k + 1) ⟨rfl, rfl, rfl, rfl, trivial⟩ ⟨by omega, fun y hy => ?_, bel⟩ (by omega)
      rw [htk] at hy
      rcases List.mem_append.1 hy with hy | hy
      · exact hno y hy
      · simp at hy; subst hy; exact h
  · obtain rfl : k = n := by omega
    rw [List.take_of_length_le (by omega)] at hno
    refine Cd.exit ?_
    refine Post.then_exit ?_
    refine Post.round_exit ?_
    refine Post.block_exit ?_
    refine Post.then_ ?_
    refine Cd.seq ?_
    refine Cd.region ?_
    refine Seq.val (Runs.assign rfl rfl) rfl rfl rfl ?_
    refine Seq.nil ?_
    refine Post.weak (F' := [(0, _), (1, _), (4, _), (7, _), (8, _), (9, _)]) ⟨rfl, rfl, rfl, rfl, rfl, rfl, trivial⟩ ?_
    refine Post.then_ ?_
    refine Cd.ret ?_
    refine Post.end1 rfl rfl (.inl rfl) ?_
    exact ⟨ret1 (int_eq (idxP_none hno).symm), bel⟩
theorem containsN_any (g : Nat) (cp : List Value) (p : Int → Bool) (B : Nat) (A : Option Addr) (n cap : Nat) (l : List Int) (w : World) (hr : Reads w B 1 A n (DI l)) (hB : B ≤ w.heap.size) (hn : n ≤ 1000000000)
    (eg : ∀ args w, (callFunc g args).run Tryz.prog w = .ok (.enter g args) w) (hp : ∀ z ∈ l, ∀ W, Below w.heap.size w W → Calls Tryz.prog g ([] ++ [Value.int .i64 z] ++ cp).toArray W fun e w' => e = .returned (.bool (p z)) ∧ Grow W w') :
    Calls Tryz.prog 123 #[.slice A n cap, .func (.func g) #[] cp.toArray] w fun e w' => e = .returned (.bool (l.any p)) ∧ Grow w w' := by
  have bel := Below.refl w.heap.size w
  have hc := fun W (hb : Below w.heap.size w W) => indexN_any g cp p B A n cap l W (hr.below (hb.mono hB)) (Nat.le_trans hB hb.size) hn eg (fun f hf W2 hb2 => hp f hf W2 (hb.trans (hb2.mono hb.size)))
  have hany := idxP_any p l
  refine Calls.start 9 Tryz.func123 rfl rfl rfl ?_
  refine Cd.seq ?_
  refine Cd.region ?_
  refine Seq.val (Runs.assign rfl rfl) rfl rfl rfl ?_
  refine Seq.nil ?_
  refine Post.weak (F' := [(0, _), (1, _), (4, _)]) ⟨rfl, rfl, rfl, trivial⟩ ?_
  refine Post.then_ ?_
  refine Cd.seq ?_
  refine Cd.region ?_
  refine Seq.val (Runs.move rfl rfl) rfl rfl rfl ?_
  refine Seq.val (Runs.move rfl rfl) rfl rfl rfl ?_
  refine Seq.call (Enters.func rfl rfl rfl (run_enter Tryz.func156 (by kernel_rfl) rfl)) rfl rfl rfl (hc _ bel) ?_
  rintro e w5 ⟨rfl, hb5⟩
  refine ⟨_, rfl, ?_⟩
  replace bel := bel.step hb5
  refine Seq.val (Runs.geq rfl rfl rfl) rfl rfl rfl ?_
  refine Seq.val (Runs.assign rfl rfl) rfl rfl rfl ?_
  refine Seq.nil ?_
  refine Post.weak (F' := [(0, _), (1, _), (4, _)]) ⟨rfl, rfl, rfl, trivial⟩ ?_
  refine Post.then_ ?_
  refine Cd.ret ?_
  refine Post.end1 rfl rfl (.inl rfl) ?_
  exact ⟨ret1 (bool_eq hany), bel⟩
/-- Can an edit be laid? -/
def laidB (lg nx sq : Int) (drop : List Int) (add : List Fl) : Bool := decide (-1 ≤ min (min lg nx) sq) && decide (max (drop.length : Int) (add.length : Int) ≤ 100) && !(add.any badF) && !(drop.any fun n => decide (n < 0))
theorem laid_any (lg nx sq : Int) (B : Nat) (A A' : Option Addr) (cap cap' : Nat) (drop : List Int) (add : List Fl) (w : World) (hr : Reads w B 1 A drop.length (DI drop)) (hr' : Reads w B 6 A' add.length (fcs add)) (hB : B ≤ w.heap.size) :
    Calls Tryz.prog 61 #[.agg #[.int .i64 lg, .int .i64 nx, .int .i64 sq, .slice A drop.length cap, .slice A' add.length cap']] w fun e w' => e = .returned (.bool (laidB lg nx sq drop add)) ∧ Grow w w' := by
  have bel := Below.refl w.heap.size w
  have hc := fun W (hb : Below w.heap.size w W) (hn : add.length ≤ 1000000000) => containsF_any 120 [] badF B A' add.length cap' add W (hr'.below (hb.mono hB)) (Nat.le_trans hB hb.size) hn eg_laidF (fun f _ W2 _ => laidF_any f W2)
  have hc' := fun W (hb : Below w.heap.size w W) (hn : drop.length ≤ 1000000000) => containsN_any 121 [] (fun n => decide (n < 0)) B A drop.length cap drop W (hr.below (hb.mono hB)) (Nat.le_trans hB hb.size) hn eg_laidN (fun f _ W2 _ => laidN_any f W2)
  refine Calls.start 37 Tryz.func61 rfl rfl rfl ?_
  refine Cd.seq ?_
  refine Cd.region ?_
  refine Seq.box rfl rfl rfl rfl rfl ?_
  intro g1 w1 n1
  have e1 := Nat.le_trans bel.size n1.ge
  replace bel := bel.step n1.below
  have k1 := n1.blk
  refine Seq.val (Runs.assign rfl rfl) rfl rfl rfl ?_
  refine Seq.nil ?_
  refine Post.weak (F' := [(0, _), (1, _), (2, _)]) ⟨rfl, rfl, rfl, trivial⟩ ?_
  refine Post.then_ ?_
  refine Cd.seq ?_
  refine Cd.region ?_
  refine Seq.val (Runs.assign rfl rfl) rfl rfl rfl ?_
  refine Seq.nil ?_
  refine Post.weak (F' := [(0, _), (1, _), (2, _), (3, _)]) ⟨rfl, rfl, rfl, rfl, trivial⟩ ?_
  refine Post.then_ ?_
  refine Cd.seq ?_
  refine Cd.region ?_
  refine Seq.val (Runs.assign rfl rfl) rfl rfl rfl ?_
  refine Seq.nil ?_
  refine Post.weak (F' := [(0, _), (1, _), (2, _), (3, _), (4, _)]) ⟨rfl, rfl, rfl, rfl, rfl, trivial⟩ ?_
  refine Post.then_ ?_
  refine Cd.seq ?_
  refine Cd.region ?_
  refine Seq.val (Runs.fieldB 0 rfl rfl Tryz.underlying47 rfl (by kernel_rfl)) rfl rfl rfl ?_
  refine Seq.val (Runs.loadB rfl rfl Tryz.underlying3 rfl k1 rfl) rfl rfl rfl ?_
  refine Seq.val (Runs.fieldB 1 rfl rfl Tryz.underlying47 rfl (by kernel_rfl)) rfl rfl rfl ?_
  refine Seq.val (Runs.loadB rfl rfl Tryz.underlying3 rfl k1 rfl) rfl rfl rfl ?_
  refine Seq.val (Runs.fieldB 2 rfl rfl Tryz.underlying47 rfl (by kernel_rfl)) rfl rfl rfl ?_
  refine Seq.val (Runs.loadB rfl rfl Tryz.underlying3 rfl k1 rfl) rfl rfl rfl ?_
  refine Seq.val (Runs.min3 rfl rfl rfl rfl) rfl rfl rfl ?_
  refine Seq.val (Runs.geq rfl rfl rfl) rfl rfl rfl ?_
  refine Seq.val (Runs.move rfl rfl) rfl rfl rfl ?_
  refine SeqC.start ?_
  refine SeqC.open rfl rfl rfl rfl rfl rfl rfl (fun hcx => Runs.fieldB 3 rfl rfl Tryz.underlying47 rfl (by kernel_rfl)) ?_
  refine SeqC.next rfl rfl rfl rfl rfl rfl rfl (fun hcx => Runs.loadB rfl rfl Tryz.underlying40 rfl k1 rfl) ?_
  refine SeqC.next rfl rfl rfl rfl rfl rfl rfl (fun hcx => Runs.len rfl rfl Tryz.underlying40) ?_
  refine SeqC.next rfl rfl rfl rfl rfl rfl rfl (fun hcx => Runs.fieldB 4 rfl rfl Tryz.underlying47 rfl (by kernel_rfl)) ?_
  refine SeqC.next rfl rfl rfl rfl rfl rfl rfl (fun hcx => Runs.loadB rfl rfl Tryz.underlying36 rfl k1 rfl) ?_
  refine SeqC.next rfl rfl rfl rfl rfl rfl rfl (fun hcx => Runs.len rfl rfl Tryz.underlying36) ?_
  refine SeqC.next rfl rfl rfl rfl rfl rfl rfl (fun hcx => Runs.max2 rfl rfl rfl) ?_
  refine SeqC.next rfl rfl rfl rfl rfl rfl rfl (fun hcx => Runs.leq rfl rfl rfl) ?_
  refine SeqC.and rfl rfl rfl rfl rfl rfl rfl ?_
  refine Seq.val (Runs.move rfl rfl) rfl rfl rfl ?_
  refine SeqC.start ?_
  refine SeqC.open rfl rfl rfl rfl rfl rfl rfl (fun hcx => Runs.fieldB 4 rfl rfl Tryz.underlying47 rfl (by kernel_rfl)) ?_
  refine SeqC.next rfl rfl rfl rfl rfl rfl rfl (fun hcx => Runs.loadB rfl rfl Tryz.underlying36 rfl k1 rfl) ?_
  refine SeqC.next rfl rfl rfl rfl rfl rfl rfl (fun hcx => Runs.move rfl rfl) ?_
  refine SeqC.nextC rfl rfl rfl rfl rfl rfl rfl (fun hcx => Enters.func rfl rfl rfl (run_enter Tryz.func122 (by kernel_rfl) rfl)) (fun hcx => hc _ bel (by simp [topX] at hcx; omega)) ?_
  intro w2 hw2
  replace bel := bel.step hw2
  replace k1 := k1.step hw2
  refine SeqC.next rfl rfl rfl rfl rfl rfl rfl (fun hcx => Runs.not rfl rfl) ?_
  refine SeqC.and rfl rfl rfl rfl rfl rfl rfl ?_
  refine Seq.val (Runs.move rfl rfl) rfl rfl rfl ?_
  refine SeqC.start ?_
  refine SeqC.open rfl rfl rfl rfl rfl rfl rfl (fun hcx => Runs.fieldB 3 rfl rfl Tryz.underlying47 rfl (by kernel_rfl)) ?_
  refine SeqC.next rfl rfl rfl rfl rfl rfl rfl (fun hcx => Runs.loadB rfl rfl Tryz.underlying40 rfl k1 rfl) ?_
  refine SeqC.next rfl rfl rfl rfl rfl rfl rfl (fun hcx => Runs.move rfl rfl) ?_
  refine SeqC.nextC rfl rfl rfl rfl rfl rfl rfl (fun hcx => Enters.func rfl rfl rfl (run_enter Tryz.func123 (by kernel_rfl) rfl)) (fun hcx => hc' _ bel (by simp [topX] at hcx; omega)) ?_
  intro w3 hw3
  replace bel := bel.step hw3
  replace k1 := k1.step hw3
  refine SeqC.next rfl rfl rfl rfl rfl rfl rfl (fun hcx => Runs.not rfl rfl) ?_
  refine SeqC.and rfl rfl rfl rfl rfl rfl rfl ?_
  refine Seq.val (Runs.assign rfl rfl) rfl rfl rfl ?_
  refine Seq.nil ?_
  refine Post.weak (F' := [(0, _), (1, _), (2, _), (3, _), (4, _)]) ⟨rfl, rfl, rfl, rfl, rfl, trivial⟩ ?_
  refine Post.then_ ?_
  refine Cd.ret ?_
  refine Post.end1 rfl rfl (.inl rfl) ?_
  exact ⟨ret1 (bool_eq rfl), bel⟩
end Go.Proofs.YtdpipgidpkmolaaGreatDoor

namespace Go.Proofs.YtdpipgidpkmolaaGreatDoor
open Go.RowKit

/-- A number in groups of seven bits. -/
def grpK : Nat → Nat → List Nat
  | 0, n => [n]
  | k + 1, n => if n < 128 then [n] else (n % 128 + 128) :: grpK k (n / 128)
def grp (n : Nat) : List Nat := grpK 9 n
theorem grpK_small {k n : Nat} (h : n < 128) : grpK k n = [n] := by
  cases k with
  | zero => rfl
  | succ k => unfold grpK; rw [if_pos h]
theorem grpK_more {k n : Nat} (h : ¬ n < 128) : grpK (k + 1) n = (n % 128 + 128) :: grpK k (n / 128) := by
  show (if n < 128 then [n] else (n % 128 + 128) :: grpK k (n / 128)) = _
  rw [if_neg h]
theorem grpK_len : ∀ k n, (grpK k n).length ≤ k + 1
  | 0, n => by simp [grpK]
  | k + 1, n => by
    unfold grpK
    split
    · simp
    · have := grpK_len k (n / 128)
      simp; omega
theorem grp_len (n : Nat) : (grp n).length ≤ 10 := grpK_len 9 n
theorem grpK_lt : ∀ k n, n < 2 * 128 ^ k → ∀ d ∈ grpK k n, d < 256
  | 0, n, h, d, hd => by simp [grpK] at hd; subst hd; simp at h; omega
  | k + 1, n, h, d, hd => by
    unfold grpK at hd
    split at hd
    · simp at hd; omega
    · rcases List.mem_cons.1 hd with rfl | hd
      · omega
      · refine grpK_lt k (n / 128) ?_ d hd
        rw [Nat.pow_succ] at h
        rw [Nat.div_lt_iff_lt_mul (by omega)]
        omega
theorem grp_lt {n : Nat} (h : n < 18446744073709551616) : ∀ d ∈ grp n, d < 256 := grpK_lt 9 n (by omega)
theorem groups_any (B g n : Nat) (bs : List Nat) (w : World) (h : Wr w B g bs) (hn : n < 18446744073709551616) (hl : bs.length + 10 ≤ 1000000000) :
    Calls Tryz.prog 127 #[.pointer (some ⟨g, 0, none⟩), .int .u64 (n : Int)] w fun e w' => e = .returned (.pointer (some ⟨g, 0, none⟩)) ∧ Wf B w w' ∧ Wr w' B g (bs ++ grp n) := by
  have wf := Wf.refl B w
  have hn9 : n < 2 * 128 ^ 9 := by omega
  refine Calls.start 20 Tryz.func127 rfl rfl rfl ?_
  refine Cd.seq ?_
  refine Cd.region ?_
  refine Seq.val (Runs.assign rfl rfl) rfl rfl rfl ?_
  refine Seq.nil ?_
  refine Post.weak (F' := [(0, _), (1, _), (4, _)]) ⟨rfl, rfl, rfl, trivial⟩ ?_
  refine Post.then_ ?_
  refine Cd.seq ?_
  refine Cd.block ?_
  refine Cd.loop (σ := List Nat × Nat × Nat) (fun s => [(0, .pointer (some ⟨g, 0, none⟩)), (1, .int .u64 (s.2.2 : Int))])
    (fun s wr => s.1.length + s.2.1 = 9 ∧ s.2.2 < 2 * 128 ^ s.2.1 ∧ s.1 ++ grpK s.2.1 s.2.2 = grp n ∧ Wf B w wr ∧ Wr wr B g (bs ++ s.1)) (fun s => s.2.1) ([], 9, n) ⟨rfl, hn9, List.nil_append _, wf, by rw [List.append_nil]; exact h⟩ ⟨rfl, rfl, trivial⟩ ?_
  clear wf
  rintro ⟨done, k, m⟩ wr0 ⟨hd, hm, he, wf, wr⟩
  simp only at hd hm he wr
  show Cd _ _ _ _ [(0, .pointer (some ⟨g, 0, none⟩)), (1, .int .u64 (m : Int))] _
  have hm64 : m < 18446744073709551616 := Nat.lt_of_lt_of_le hm (by
    have : (128 : Nat) ^ k ≤ 128 ^ 9 := Nat.pow_le_pow_right (by omega) (by omega)
    omega)
  refine Cd.seq ?_
  refine Cd.seq ?_
  refine Cd.region ?_
  refine Seq.val (Runs.move rfl rfl) rfl rfl rfl ?_
  refine Seq.val (Runs.geq rfl rfl rfl) rfl rfl rfl ?_
  refine Seq.nil ?_
  refine Post.weak (F' := [(0, _), (1, _), (6, _)]) ⟨rfl, rfl, rfl, trivial⟩ ?_
  refine Post.then_ ?_
  refine Cd.condD rfl (fun hc => ?_) (fun hc => ?_)
  · obtain ⟨k, rfl⟩ : ∃ j, k = j + 1 := ⟨k - 1, by
      rcases Nat.eq_zero_or_pos k with h0 | h0
      · subst h0; simp at hm; omega
      · omega⟩
    refine Cd.skip ?_
    refine Post.then_ ?_
    refine Cd.seq ?_
    refine Cd.block ?_
    refine Cd.region ?_
    refine Seq.val (Runs.move rfl rfl) rfl rfl rfl ?_
    refine Seq.val (Runs.move rfl rfl) rfl rfl rfl ?_
    refine Seq.val (Runs.convI rfl rfl Tryz.underlying164 Tryz.underlying5 (wrap8 m)) rfl rfl rfl ?_
    refine Seq.val ((Runs.or8 (b := 128) rfl rfl rfl (by omega) (by omega)).cast (by rw [or128 (m % 256) (by omega), show m % 256 % 128 = m % 128 by omega])) rfl rfl rfl ?_
    refine Seq.slice (vs := [_]) (s := 1) rfl rfl rfl Tryz.underlying103 (by kernel_rfl) (zero_uint8) (by omega) (by omega) ⟨rfl, trivial⟩ rfl rfl rfl ?_
    intro g13 w1 n13
    have e13 := Nat.le_trans wf.below.size n13.ge
    replace wf := wf.step n13.below
    replace wr := wr.step n13.below
    have k13 := n13.blk
    have hrd : Reads w1 w1.heap.size 1 (some ⟨g13, 0, none⟩) 1 (Bt [m % 128 + 128]) := Reads.blk (size := 1) k13 1 rfl
    refine Seq.call (Enters.func rfl rfl rfl (run_enter Tryz.func161 (by kernel_rfl) rfl)) rfl rfl rfl (put_any B g _ 1 1 _ _ [m % 128 + 128] _ wr hrd (by simp; omega) (by simp; omega)) ?_
    clear wr
    rintro e w2 ⟨rfl, fw2, wr⟩
    refine ⟨_, rfl, ?_⟩
    replace wf := wf.wf fw2
    refine Seq.nil ?_
    refine Post.weak (F' := [(0, _), (1, _), (6, _)]) ⟨rfl, rfl, rfl, trivial⟩ ?_
    refine Post.block_normal ?_
    refine Post.then_ ?_
    refine Cd.region ?_
    refine Seq.val (Runs.move rfl rfl) rfl rfl rfl ?_
    refine Seq.val ((Runs.shrL rfl rfl rfl (s := 7) rfl (by omega)).cast (v' := .int .u64 ((m / 128 : Nat) : Int)) (by rw [show (2 : Nat) ^ 7 = 128 from rfl])) rfl rfl rfl ?_
    refine Seq.val (Runs.assign rfl rfl) rfl rfl rfl ?_
    refine Seq.nil ?_
    refine Post.weak (F' := [(0, _), (1, _), (6, _)]) ⟨rfl, rfl, rfl, trivial⟩ ?_
    rw [List.append_assoc] at wr
    refine Post.round (done ++ [m % 128 + 128], k, m / 128) ⟨rfl, rfl, trivial⟩ ⟨by simp; omega, ?_, ?_, wf, wr⟩ (by simp)
    · simp only
      rw [Nat.pow_succ] at hm
      rw [Nat.div_lt_iff_lt_mul (by omega)]
      omega
    · rw [← he, grpK_more (by omega), List.append_assoc]; rfl
  · skip
    refine Cd.exit ?_
    refine Post.then_exit ?_
    refine Post.round_exit ?_
    refine Post.block_exit ?_
    refine Post.then_ ?_
    refine Cd.seq ?_
    refine Cd.region ?_
    refine Seq.val (Runs.move rfl rfl) rfl rfl rfl ?_
    refine Seq.val (Runs.move rfl rfl) rfl rfl rfl ?_
    refine Seq.val (Runs.convI rfl rfl Tryz.underlying164 Tryz.underlying5 (wrapB (by omega) (by omega))) rfl rfl rfl ?_
    refine Seq.slice (vs := [_]) (s := 1) rfl rfl rfl Tryz.underlying103 (by kernel_rfl) (zero_uint8) (by omega) (by omega) ⟨rfl, trivial⟩ rfl rfl rfl ?_
    intro g18 w1 n18
    have e18 := Nat.le_trans wf.below.size n18.ge
    replace wf := wf.step n18.below
    replace wr := wr.step n18.below
    have k18 := n18.blk
    have hrd : Reads w1 w1.heap.size 1 (some ⟨g18, 0, none⟩) 1 (Bt [m]) := Reads.blk (size := 1) k18 1 rfl
    refine Seq.call (Enters.func rfl rfl rfl (run_enter Tryz.func161 (by kernel_rfl) rfl)) rfl rfl rfl (put_any B g _ 1 1 _ _ [m] _ wr hrd (by simp; omega) (by simp; omega)) ?_
    clear wr
    rintro e w2 ⟨rfl, fw2, wr⟩
    refine ⟨_, rfl, ?_⟩
    replace wf := wf.wf fw2
    refine Seq.val (Runs.assign rfl rfl) rfl rfl rfl ?_
    refine Seq.nil ?_
    refine Post.weak (F' := [(0, _), (1, _), (4, _), (6, _)]) ⟨rfl, rfl, rfl, rfl, trivial⟩ ?_
    refine Post.then_ ?_
    refine Cd.ret ?_
    refine Post.end1 rfl rfl (.inl rfl) ?_
    rw [List.append_assoc, show done ++ [m] = grp n by rw [← he, grpK_small (by omega)]] at wr
    exact ⟨rfl, wf, wr⟩
theorem size_any (B g n : Nat) (bs : List Nat) (w : World) (h : Wr w B g bs) (hn : n < 9223372036854775808) (hl : bs.length + 10 ≤ 1000000000) :
    Calls Tryz.prog 70 #[.pointer (some ⟨g, 0, none⟩), .int .i64 (n : Int)] w fun e w' => e = .returned (.pointer (some ⟨g, 0, none⟩)) ∧ Wf B w w' ∧ Wr w' B g (bs ++ grp n) := by
  have wf := Wf.refl B w
  have wr := h
  refine Calls.start 10 Tryz.func70 rfl rfl rfl ?_
  refine Cd.seq ?_
  refine Cd.region ?_
  refine Seq.val (Runs.assign rfl rfl) rfl rfl rfl ?_
  refine Seq.nil ?_
  refine Post.weak (F' := [(0, _), (1, _), (4, _)]) ⟨rfl, rfl, rfl, trivial⟩ ?_
  refine Post.then_ ?_
  refine Cd.seq ?_
  refine Cd.region ?_
  refine Seq.val (Runs.move rfl rfl) rfl rfl rfl ?_
  refine Seq.val (Runs.move rfl rfl) rfl rfl rfl ?_
  refine Seq.val ((Runs.max2 rfl rfl rfl).cast (v' := .int .i64 (n : Int)) (int_eq (by omega))) rfl rfl rfl ?_
  refine Seq.val (Runs.convU (r := n) rfl rfl Tryz.underlying3 Tryz.underlying164 (by omega)) rfl rfl rfl ?_
  refine Seq.call (Enters.func rfl rfl rfl (run_enter Tryz.func127 (by kernel_rfl) rfl)) rfl rfl rfl (groups_any B g n _ _ wr (by omega) hl) ?_
  clear wr
  rintro e w1 ⟨rfl, fw1, wr⟩
  refine ⟨_, rfl, ?_⟩
  replace wf := wf.wf fw1
  refine Seq.val (Runs.assign rfl rfl) rfl rfl rfl ?_
  refine Seq.nil ?_
  refine Post.weak (F' := [(0, _), (1, _), (4, _)]) ⟨rfl, rfl, rfl, trivial⟩ ?_
  refine Post.then_ ?_
  refine Cd.ret ?_
  refine Post.end1 rfl rfl (.inl rfl) ?_
  exact ⟨rfl, wf, wr⟩
/-- A signed number as one without a sign. -/
def sgn (n : Int) : Nat := if 0 ≤ n then (2 * n).toNat else (-2 * n - 1).toNat
theorem sgn_lt {n : Int} (h : I64 n) : sgn n < 18446744073709551616 := by
  unfold sgn I64 at *
  split <;> omega
theorem xor_ones {a : Nat} (h : a < 18446744073709551616) : a ^^^ 18446744073709551615 = 18446744073709551615 - a := by
  have := congrArg BitVec.toNat (BitVec.xor_allOnes (x := BitVec.ofNat 64 a))
  rw [BitVec.toNat_xor, BitVec.toNat_not, BitVec.toNat_allOnes, BitVec.toNat_ofNat, Nat.mod_eq_of_lt (by omega)] at this
  exact this
theorem signed_any (B g : Nat) (n : Int) (bs : List Nat) (w : World) (h : Wr w B g bs) (hn : I64 n) (hl : bs.length + 10 ≤ 1000000000) :
    Calls Tryz.prog 67 #[.pointer (some ⟨g, 0, none⟩), .int .i64 n] w fun e w' => e = .returned (.pointer (some ⟨g, 0, none⟩)) ∧ Wf B w w' ∧ Wr w' B g (bs ++ grp (sgn n)) := by
  have wf := Wf.refl B w
  have wr := h
  have hs := sgn_lt hn
  unfold I64 at hn
  obtain ⟨a, ha⟩ : ∃ a : Nat, n % 18446744073709551616 = (a : Int) := ⟨(n % 18446744073709551616).toNat, by omega⟩
  obtain ⟨a2, ha2⟩ : ∃ a2 : Nat, a2 = a * 2 % 18446744073709551616 := ⟨_, rfl⟩
  obtain ⟨z, hz⟩ : ∃ z : Int, z = if 0 ≤ n then 0 else -1 := ⟨_, rfl⟩
  obtain ⟨b, hb⟩ : ∃ b : Nat, b = if 0 ≤ n then 0 else 18446744073709551615 := ⟨_, rfl⟩
  have hx : sgn n = a2 ^^^ b := by
    unfold sgn
    by_cases h0 : 0 ≤ n
    · rw [hb, if_pos h0, if_pos h0, Nat.xor_zero]; omega
    · rw [hb, if_neg h0, if_neg h0, xor_ones (by omega)]; omega
  have hfd : n.fdiv 9223372036854775808 = z := by
    rw [Int.fdiv_eq_ediv_of_nonneg _ (by omega), hz]
    split <;> omega
  refine Calls.start 14 Tryz.func67 rfl rfl rfl ?_
  refine Cd.seq ?_
  refine Cd.region ?_
  refine Seq.val (Runs.assign rfl rfl) rfl rfl rfl ?_
  refine Seq.nil ?_
  refine Post.weak (F' := [(0, _), (1, _), (4, _)]) ⟨rfl, rfl, rfl, trivial⟩ ?_
  refine Post.then_ ?_
  refine Cd.seq ?_
  refine Cd.region ?_
  refine Seq.val (Runs.move rfl rfl) rfl rfl rfl ?_
  refine Seq.val (Runs.move rfl rfl) rfl rfl rfl ?_
  refine Seq.val (Runs.convU (r := a) rfl rfl Tryz.underlying2 Tryz.underlying164 ha) rfl rfl rfl ?_
  refine Seq.val (Runs.shlW (r := (a2 : Int)) rfl rfl rfl (by omega) (by rw [IntKind.wrap_u64]; show ((a : Int) * 2) % _ = _; omega)) rfl rfl rfl ?_
  refine Seq.val (Runs.move rfl rfl) rfl rfl rfl ?_
  refine Seq.val (Runs.shrW (r := z) rfl rfl rfl (by omega) hfd) rfl rfl rfl ?_
  refine Seq.val (Runs.convU (r := b) rfl rfl Tryz.underlying2 Tryz.underlying164 (by rw [hz, hb]; split <;> rfl)) rfl rfl rfl ?_
  refine Seq.val (Runs.bitsU (a := a2) (b := b) rfl rfl rfl (by omega) (by rw [hb]; split <;> omega) (.inr (.inr ⟨rfl, hx⟩))) rfl rfl rfl ?_
  refine Seq.call (Enters.func rfl rfl rfl (run_enter Tryz.func127 (by kernel_rfl) rfl)) rfl rfl rfl (groups_any B g (sgn n) _ _ wr hs hl) ?_
  clear wr
  rintro e w1 ⟨rfl, fw1, wr⟩
  refine ⟨_, rfl, ?_⟩
  replace wf := wf.wf fw1
  refine Seq.val (Runs.assign rfl rfl) rfl rfl rfl ?_
  refine Seq.nil ?_
  refine Post.weak (F' := [(0, _), (1, _), (4, _)]) ⟨rfl, rfl, rfl, trivial⟩ ?_
  refine Post.then_ ?_
  refine Cd.ret ?_
  refine Post.end1 rfl rfl (.inl rfl) ?_
  exact ⟨rfl, wf, wr⟩
theorem text_any (B g : Nat) (s bs : List Nat) (w : World) (h : Wr w B g bs) (hs : ∀ d ∈ s, d < 256) (hl : bs.length + 10 + s.length ≤ 1000000000) :
    Calls Tryz.prog 73 #[.pointer (some ⟨g, 0, none⟩), .string (strOf s)] w fun e w' => e = .returned (.pointer (some ⟨g, 0, none⟩)) ∧ Wf B w w' ∧ Wr w' B g (bs ++ (grp s.length ++ s)) := by
  have wf := Wf.refl B w
  have wr := h
  have hg := grp_len s.length
  refine Calls.start 11 Tryz.func73 rfl rfl rfl ?_
  refine Cd.seq ?_
  refine Cd.region ?_
  refine Seq.val (Runs.assign rfl rfl) rfl rfl rfl ?_
  refine Seq.nil ?_
  refine Post.weak (F' := [(0, _), (1, _), (4, _)]) ⟨rfl, rfl, rfl, trivial⟩ ?_
  refine Post.then_ ?_
  refine Cd.seq ?_
  refine Cd.region ?_
  refine Seq.val (Runs.move rfl rfl) rfl rfl rfl ?_
  refine Seq.val (Runs.move rfl rfl) rfl rfl rfl ?_
  refine Seq.val (Runs.lenL rfl rfl Tryz.underlying9) rfl rfl rfl ?_
  refine Seq.call (Enters.func rfl rfl rfl (run_enter Tryz.func70 (by kernel_rfl) rfl)) rfl rfl rfl (size_any B g s.length _ _ wr (by omega) (by omega)) ?_
  clear wr
  rintro e w1 ⟨rfl, fw1, wr⟩
  refine ⟨_, rfl, ?_⟩
  replace wf := wf.wf fw1
  refine Seq.val (Runs.move rfl rfl) rfl rfl rfl ?_
  refine Seq.call (Enters.func rfl rfl rfl (run_enter Tryz.func128 (by kernel_rfl) rfl)) rfl rfl rfl (raw_any B g s _ _ wr hs (by rw [List.length_append]; omega)) ?_
  clear wr
  rintro e w2 ⟨rfl, fw2, wr⟩
  refine ⟨_, rfl, ?_⟩
  replace wf := wf.wf fw2
  rw [List.append_assoc] at wr
  refine Seq.val (Runs.assign rfl rfl) rfl rfl rfl ?_
  refine Seq.nil ?_
  refine Post.weak (F' := [(0, _), (1, _), (4, _)]) ⟨rfl, rfl, rfl, trivial⟩ ?_
  refine Post.then_ ?_
  refine Cd.ret ?_
  refine Post.end1 rfl rfl (.inl rfl) ?_
  exact ⟨rfl, wf, wr⟩
/-- One of some lists, by its place. -/
def nthL {α : Type} (d : α) : List α → Nat → α
  | [], _ => d
  | x :: _, 0 => x
  | _ :: r, k + 1 => nthL d r k
theorem enc1_any (B g n : Nat) (bs : List Nat) (w : World) (h : Wr w B g bs) (hn : n < 9223372036854775808) (hl : bs.length + 10 ≤ 1000000000) :
    Calls Tryz.prog 69 #[.pointer (some ⟨g, 0, none⟩), .int .i64 (n : Int)] w fun e w' => e = .returned (.tuple #[]) ∧ Wf B w w' ∧ Wr w' B g (bs ++ grp n) := by
  have wf := Wf.refl B w
  have wr := h
  refine Calls.start 7 Tryz.func69 rfl rfl rfl ?_
  refine Cd.region ?_
  refine Seq.val (Runs.move rfl rfl) rfl rfl rfl ?_
  refine Seq.val (Runs.move rfl rfl) rfl rfl rfl ?_
  refine Seq.call (Enters.func rfl rfl rfl (run_enter Tryz.func70 (by kernel_rfl) rfl)) rfl rfl rfl (size_any B g n _ _ wr hn hl) ?_
  clear wr
  rintro e w1 ⟨rfl, fw1, wr⟩
  refine ⟨_, rfl, ?_⟩
  replace wf := wf.wf fw1
  refine Seq.nil ?_
  refine Post.weak (F' := [(0, _), (1, _)]) ⟨rfl, rfl, trivial⟩ ?_
  refine Post.end0 rfl (.inr rfl) ?_
  exact ⟨rfl, wf, wr⟩
def DN (l : List Nat) : List Int := l.map fun (z : Nat) => (z : Int)
/-- A file, as it is laid. -/
structure Fn where
  num : Nat
  level : Nat
  first : List Nat
  last : List Nat
  count : Nat
  size : Nat
def Fn.fl (f : Fn) : Fl := ⟨f.num, f.level, f.first, f.last, f.count, f.size⟩
def txt (s : List Nat) : List Nat := grp s.length ++ s
def Fn.bytes (f : Fn) : List Nat := grp f.num ++ (grp f.level ++ (txt f.first ++ (txt f.last ++ (grp f.count ++ grp f.size))))
structure Fn.ok (f : Fn) : Prop where
  num : f.num < 9223372036854775808
  level : f.level < 9223372036854775808
  count : f.count < 9223372036854775808
  size : f.size < 9223372036854775808
  first : ∀ d ∈ f.first, d < 256
  last : ∀ d ∈ f.last, d < 256
  first80 : f.first.length ≤ 80
  last80 : f.last.length ≤ 80
theorem Fn.len {f : Fn} (h : f.ok) : f.bytes.length ≤ 220 := by
  have h1 := grp_len f.num
  have h2 := grp_len f.level
  have h3 := grp_len f.first.length
  have h4 := grp_len f.last.length
  have h5 := grp_len f.count
  have h6 := grp_len f.size
  have h7 := h.first80
  have h8 := h.last80
  simp only [Fn.bytes, txt, List.length_append]
  omega
theorem enc2_any (B g : Nat) (f : Fn) (bs : List Nat) (w : World) (h : Wr w B g bs) (hf : f.ok) (hl : bs.length + 220 ≤ 1000000000) :
    Calls Tryz.prog 72 #[.pointer (some ⟨g, 0, none⟩), f.fl.v] w fun e w' => e = .returned (.tuple #[]) ∧ Wf B w w' ∧ Wr w' B g (bs ++ f.bytes) := by
  have wf := Wf.refl B w
  have wr := h
  have h1 := grp_len f.num
  have h2 := grp_len f.level
  have h3 := grp_len f.first.length
  have h4 := grp_len f.last.length
  have h5 := grp_len f.count
  have h6 := grp_len f.size
  have h7 := hf.first80
  have h8 := hf.last80
  refine Calls.start 23 Tryz.func72 rfl rfl rfl ?_
  refine Cd.seq ?_
  refine Cd.region ?_
  refine Seq.box rfl rfl rfl rfl rfl ?_
  intro g3 w1 n3
  have e3 := Nat.le_trans wf.below.size n3.ge
  replace wf := wf.step n3.below
  replace wr := wr.step n3.below
  have k3 := n3.blk
  refine Seq.nil ?_
  refine Post.weak (F' := [(0, _), (1, _), (3, _)]) ⟨rfl, rfl, rfl, trivial⟩ ?_
  refine Post.then_ ?_
  refine Cd.drawJ 19 (by kernel_rfl) [] [3, 6, 9, 12, 15, 18] (fun i h => by cases h) rfl rfl (.inl rfl) rfl (Wf B) (Wf.refl B) (fun _ _ _ => Wf.trans) (fun c w => Wr w B g (nthL [] [bs, bs ++ grp f.num, bs ++ grp f.num ++ grp f.level, bs ++ grp f.num ++ grp f.level ++ txt f.first, bs ++ grp f.num ++ grp f.level ++ txt f.first ++ txt f.last, bs ++ grp f.num ++ grp f.level ++ txt f.first ++ txt f.last ++ grp f.count, bs ++ grp f.num ++ grp f.level ++ txt f.first ++ txt f.last ++ grp f.count ++ grp f.size] c)) ?_
  intro w2 hw2 zw2
  replace wf := wf.step hw2
  replace wr := wr.step hw2
  replace k3 := k3.step hw2
  refine ⟨wr, ?_⟩
  have zlt := k3.lt
  refine DJ.val rfl (Wf.refl B) rfl (fun w hG => Runs.move rfl rfl) rfl ?_
  refine DJ.val rfl (Wf.refl B) rfl (fun w hG => Runs.fieldB 0 rfl rfl Tryz.underlying81 rfl (by kernel_rfl)) rfl ?_
  refine DJ.val rfl (Wf.refl B) rfl (fun w hG => Runs.loadB rfl rfl Tryz.underlying3 rfl (k3.wf hG) rfl) rfl ?_
  refine DJ.chain 0 rfl rfl (fun w => Enters.func rfl rfl rfl (run_enter Tryz.func70 (by kernel_rfl) rfl)) rfl (fun w hG wr => size_any B g f.num _ _ wr hf.num (by omega)) ?_
  refine DJ.val rfl (Wf.refl B) rfl (fun w hG => Runs.fieldB 1 rfl rfl Tryz.underlying81 rfl (by kernel_rfl)) rfl ?_
  refine DJ.val rfl (Wf.refl B) rfl (fun w hG => Runs.loadB rfl rfl Tryz.underlying3 rfl (k3.wf hG) rfl) rfl ?_
  refine DJ.chain 1 rfl rfl (fun w => Enters.func rfl rfl rfl (run_enter Tryz.func70 (by kernel_rfl) rfl)) rfl (fun w hG wr => size_any B g f.level _ _ wr hf.level (by simp only [nthL, List.length_append]; omega)) ?_
  refine DJ.val rfl (Wf.refl B) rfl (fun w hG => Runs.fieldB 2 rfl rfl Tryz.underlying81 rfl (by kernel_rfl)) rfl ?_
  refine DJ.val rfl (Wf.refl B) rfl (fun w hG => Runs.loadB rfl rfl Tryz.underlying9 rfl (k3.wf hG) rfl) rfl ?_
  refine DJ.chain 2 rfl rfl (fun w => Enters.func rfl rfl rfl (run_enter Tryz.func73 (by kernel_rfl) rfl)) rfl (fun w hG wr => text_any B g f.first _ _ wr hf.first (by simp only [nthL, List.length_append]; omega)) ?_
  refine DJ.val rfl (Wf.refl B) rfl (fun w hG => Runs.fieldB 3 rfl rfl Tryz.underlying81 rfl (by kernel_rfl)) rfl ?_
  refine DJ.val rfl (Wf.refl B) rfl (fun w hG => Runs.loadB rfl rfl Tryz.underlying9 rfl (k3.wf hG) rfl) rfl ?_
  refine DJ.chain 3 rfl rfl (fun w => Enters.func rfl rfl rfl (run_enter Tryz.func73 (by kernel_rfl) rfl)) rfl (fun w hG wr => text_any B g f.last _ _ wr hf.last (by simp only [nthL, txt, List.length_append]; omega)) ?_
  refine DJ.val rfl (Wf.refl B) rfl (fun w hG => Runs.fieldB 4 rfl rfl Tryz.underlying81 rfl (by kernel_rfl)) rfl ?_
  refine DJ.val rfl (Wf.refl B) rfl (fun w hG => Runs.loadB rfl rfl Tryz.underlying3 rfl (k3.wf hG) rfl) rfl ?_
  refine DJ.chain 4 rfl rfl (fun w => Enters.func rfl rfl rfl (run_enter Tryz.func70 (by kernel_rfl) rfl)) rfl (fun w hG wr => size_any B g f.count _ _ wr hf.count (by simp only [nthL, txt, List.length_append]; omega)) ?_
  refine DJ.val rfl (Wf.refl B) rfl (fun w hG => Runs.fieldB 5 rfl rfl Tryz.underlying81 rfl (by kernel_rfl)) rfl ?_
  refine DJ.val rfl (Wf.refl B) rfl (fun w hG => Runs.loadB rfl rfl Tryz.underlying3 rfl (k3.wf hG) rfl) rfl ?_
  refine DJ.chain 5 rfl rfl (fun w => Enters.func rfl rfl rfl (run_enter Tryz.func70 (by kernel_rfl) rfl)) rfl (fun w hG wr => size_any B g f.size _ _ wr hf.size (by simp only [nthL, txt, List.length_append]; omega)) ?_
  refine DJ.nil ?_
  refine FinX.done (F' := [(0, _), (1, _), (3, _)]) rfl ⟨rfl, rfl, rfl, trivial⟩ ?_
  intro w3 hw3 fw3
  replace wf := wf.wf hw3
  replace k3 := k3.wf hw3
  clear wr
  have wr := fw3
  refine Seq.nil ?_
  refine Post.weak (F' := [(0, _), (1, _), (3, _)]) ⟨rfl, rfl, rfl, trivial⟩ ?_
  refine Post.end0 rfl (.inr rfl) ?_
  exact ⟨rfl, wf, by have wr' : Wr _ B g (bs ++ grp f.num ++ grp f.level ++ txt f.first ++ txt f.last ++ grp f.count ++ grp f.size) := wr; simpa only [Fn.bytes, List.append_assoc] using wr'⟩
theorem zero_edit_File : zeroIs Tryz.prog 81 = some (some (.agg #[.int .i64 0, .int .i64 0, .string { data := #[] }, .string { data := #[] }, .int .i64 0, .int .i64 0])) := by kernel_rfl
theorem eg_enc1 : ∀ args w, (callFunc 69 args).run Tryz.prog w = .ok (.enter 69 args) w := fun args w => run_enter Tryz.func69 (by kernel_rfl) rfl args w
theorem eg_enc2 : ∀ args w, (callFunc 72 args).run Tryz.prog w = .ok (.enter 72 args) w := fun args w => run_enter Tryz.func72 (by kernel_rfl) rfl args w
theorem flat_take {α : Type} (f : α → List Nat) {l : List α} {k : Nat} {x : α} (h : l[k]? = some x) : (l.take (k + 1)).flatMap f = (l.take k).flatMap f ++ f x := by
  rw [List.take_add_one, h, List.flatMap_append]
  simp
theorem flat_len {α : Type} (f : α → List Nat) (m : Nat) : ∀ {l : List α}, (∀ x ∈ l, (f x).length ≤ m) → (l.flatMap f).length ≤ l.length * m
  | [], _ => by simp
  | x :: r, h => by
    have h1 := h x List.mem_cons_self
    have h2 := flat_len f m (l := r) (fun y hy => h y (List.mem_cons_of_mem _ hy))
    rw [List.flatMap_cons, List.length_append, List.length_cons, Nat.add_mul]
    omega
theorem putN_any (B g B2 cap : Nat) (A : Option Addr) (l : List Nat) (bs : List Nat) (w : World) (h : Wr w B g bs) (hr : Reads w B2 1 A l.length (DI (DN l))) (hB : B2 ≤ B) (hn : ∀ n ∈ l, n < 9223372036854775808) (hlen : l.length ≤ 1000) (hl : bs.length ≤ 900000000) :
    Calls Tryz.prog 68 #[.pointer (some ⟨g, 0, none⟩), .slice A l.length cap, .func (.func 69) #[] #[]] w fun e w' => e = .returned (.tuple #[]) ∧ Wf B w w' ∧ Wr w' B g (bs ++ (grp l.length ++ l.flatMap grp)) := by
  have wf := Wf.refl B w
  have wr := h
  have hBw := h.size
  have hg := grp_len l.length
  generalize hn0 : l.length = n at *
  refine Calls.start 23 Tryz.func68 rfl rfl rfl ?_
  refine Cd.seq ?_
  refine Cd.region ?_
  refine Seq.val (Runs.move rfl rfl) rfl rfl rfl ?_
  refine Seq.val (Runs.move rfl rfl) rfl rfl rfl ?_
  refine Seq.val (Runs.len rfl rfl Tryz.underlying40) rfl rfl rfl ?_
  refine Seq.call (Enters.func rfl rfl rfl (run_enter Tryz.func70 (by kernel_rfl) rfl)) rfl rfl rfl (size_any B g n _ _ wr (by omega) (by omega)) ?_
  clear wr
  rintro e w1 ⟨rfl, fw1, wr⟩
  refine ⟨_, rfl, ?_⟩
  replace wf := wf.wf fw1
  refine Seq.nil ?_
  refine Post.weak (F' := [(0, _), (1, _), (2, _)]) ⟨rfl, rfl, rfl, trivial⟩ ?_
  refine Post.then_ ?_
  refine Cd.seq ?_
  refine Cd.region ?_
  refine Seq.val (Runs.move rfl rfl) rfl rfl rfl ?_
  refine Seq.val (Runs.len rfl rfl Tryz.underlying40) rfl rfl rfl ?_
  refine Seq.val (Runs.move rfl rfl) rfl rfl rfl ?_
  refine Seq.nil ?_
  refine Post.weak (F' := [(0, _), (1, _), (2, _), (12, _), (13, _), (14, _)]) ⟨rfl, rfl, rfl, rfl, rfl, rfl, trivial⟩ ?_
  refine Post.then_ ?_
  refine Cd.block ?_
  refine Cd.loop (σ := Nat) (fun k => [(0, .pointer (some ⟨g, 0, none⟩)), (2, .func (.func 69) #[] #[]), (12, .slice A n cap), (13, .int .i64 (n : Int)), (14, .int .i64 (k : Int))])
    (fun k wr => k ≤ n ∧ Wf B w wr ∧ Wr wr B g (bs ++ grp n ++ (l.take k).flatMap grp)) (fun k => n - k) 0 ⟨Nat.zero_le _, wf, by simpa using wr⟩ ⟨rfl, rfl, rfl, rfl, rfl, trivial⟩ ?_
  clear wf wr
  rintro k wr0 ⟨hk, wf, wr⟩
  have hlt := flat_len grp 10 (l := l.take k) (fun x _ => grp_len x)
  rw [List.length_take] at hlt
  refine Cd.seq ?_
  refine Cd.region ?_
  refine Seq.val (Runs.lss rfl rfl rfl) rfl rfl rfl ?_
  refine Seq.nil ?_
  refine Post.weak (F' := [(0, _), (2, _), (12, _), (13, _), (14, _), (15, _)]) ⟨rfl, rfl, rfl, rfl, rfl, rfl, trivial⟩ ?_
  refine Post.then_ ?_
  refine Cd.seq ?_
  refine Cd.condD rfl (fun hc => ?_) (fun hc => ?_)
  · obtain ⟨x, hx⟩ : ∃ x, l[k]? = some x := ⟨_, List.getElem?_eq_getElem (show k < l.length by omega)⟩
    obtain ⟨ad, rfl, hbl, hc⟩ := hr.2 (by omega)
    have hc := ((wf.to hBw).cell (p := ad.add k) (by rw [block_of_add]; omega)).trans (hc k (.int .i64 (x : Int)) (by simp [DI, DN, hx]))
    refine Cd.skip ?_
    refine Post.then_ ?_
    refine Cd.seq ?_
    refine Cd.block ?_
    refine Cd.seq ?_
    refine Cd.region ?_
    refine Seq.val (Runs.index1 rfl rfl rfl Tryz.underlying40 (by kernel_rfl) (j := k) rfl (by omega)) rfl rfl rfl ?_
    refine Seq.val (Runs.load1 rfl rfl Tryz.underlying3 rfl hc) rfl rfl rfl ?_
    refine Seq.val (Runs.assign rfl rfl) rfl rfl rfl ?_
    refine Seq.nil ?_
    refine Post.weak (F' := [(0, _), (2, _), (7, _), (12, _), (13, _), (14, _), (15, _)]) ⟨rfl, rfl, rfl, rfl, rfl, rfl, rfl, trivial⟩ ?_
    refine Post.then_ ?_
    refine Cd.region ?_
    refine Seq.val (Runs.move rfl rfl) rfl rfl rfl ?_
    refine Seq.val (Runs.move rfl rfl) rfl rfl rfl ?_
    refine Seq.val (Runs.move rfl rfl) rfl rfl rfl ?_
    refine Seq.call (Enters.value (first := []) (cap := []) rfl rfl rfl eg_enc1) rfl rfl rfl (enc1_any B g x _ _ wr (hn x (List.mem_of_getElem? hx)) (by simp only [List.length_append]; omega)) ?_
    clear wr
    rintro e w5 ⟨rfl, f5, wr⟩
    refine ⟨_, rfl, ?_⟩
    replace wf := wf.wf f5
    rw [List.append_assoc, ← flat_take grp hx] at wr
    refine Seq.nil ?_
    refine Post.weak (F' := [(0, _), (2, _), (7, _), (12, _), (13, _), (14, _), (15, _)]) ⟨rfl, rfl, rfl, rfl, rfl, rfl, rfl, trivial⟩ ?_
    refine Post.block_normal ?_
    refine Post.then_ ?_
    refine Cd.region ?_
    refine Seq.val (Runs.addI rfl rfl rfl (by omega) (by omega)) rfl rfl rfl ?_
    refine Seq.val (Runs.move rfl rfl) rfl rfl rfl ?_
    refine Seq.nil ?_
    refine Post.weak (F' := [(0, _), (2, _), (7, _), (12, _), (13, _), (14, _), (15, _)]) ⟨rfl, rfl, rfl, rfl, rfl, rfl, rfl, trivial⟩ ?_
    exact Post.round (k + 1) ⟨rfl, rfl, rfl, rfl, rfl, trivial⟩ ⟨by omega, wf, wr⟩ (by omega)
  · obtain rfl : k = n := by omega
    rw [List.take_of_length_le (by omega), List.append_assoc] at wr
    refine Cd.exit ?_
    refine Post.then_exit ?_
    refine Post.round_exit ?_
    refine Post.block_exit ?_
    refine Post.end0 rfl (.inr rfl) ?_
    exact ⟨rfl, wf, wr⟩
theorem putF_any (B g B2 cap : Nat) (A : Option Addr) (l : List Fn) (bs : List Nat) (w : World) (h : Wr w B g bs) (hr : Reads w B2 6 A l.length (fcs (l.map Fn.fl))) (hB : B2 ≤ B) (hn : ∀ f ∈ l, f.ok) (hlen : l.length ≤ 1000) (hl : bs.length ≤ 900000000) :
    Calls Tryz.prog 71 #[.pointer (some ⟨g, 0, none⟩), .slice A l.length cap, .func (.func 72) #[] #[]] w fun e w' => e = .returned (.tuple #[]) ∧ Wf B w w' ∧ Wr w' B g (bs ++ (grp l.length ++ l.flatMap Fn.bytes)) := by
  have wf := Wf.refl B w
  have wr := h
  have hBw := h.size
  have hg := grp_len l.length
  generalize hn0 : l.length = n at *
  refine Calls.start 23 Tryz.func71 rfl rfl rfl ?_
  refine Cd.seq ?_
  refine Cd.region ?_
  refine Seq.val (Runs.move rfl rfl) rfl rfl rfl ?_
  refine Seq.val (Runs.move rfl rfl) rfl rfl rfl ?_
  refine Seq.val (Runs.len rfl rfl Tryz.underlying36) rfl rfl rfl ?_
  refine Seq.call (Enters.func rfl rfl rfl (run_enter Tryz.func70 (by kernel_rfl) rfl)) rfl rfl rfl (size_any B g n _ _ wr (by omega) (by omega)) ?_
  clear wr
  rintro e w1 ⟨rfl, fw1, wr⟩
  refine ⟨_, rfl, ?_⟩
  replace wf := wf.wf fw1
  refine Seq.nil ?_
  refine Post.weak (F' := [(0, _), (1, _), (2, _)]) ⟨rfl, rfl, rfl, trivial⟩ ?_
  refine Post.then_ ?_
  refine Cd.seq ?_
  refine Cd.region ?_
  refine Seq.val (Runs.move rfl rfl) rfl rfl rfl ?_
  refine Seq.val (Runs.len rfl rfl Tryz.underlying36) rfl rfl rfl ?_
  refine Seq.val (Runs.move rfl rfl) rfl rfl rfl ?_
  refine Seq.nil ?_
  refine Post.weak (F' := [(0, _), (1, _), (2, _), (12, _), (13, _), (14, _)]) ⟨rfl, rfl, rfl, rfl, rfl, rfl, trivial⟩ ?_
  refine Post.then_ ?_
  refine Cd.block ?_
  refine Cd.loop (σ := Nat) (fun k => [(0, .pointer (some ⟨g, 0, none⟩)), (2, .func (.func 72) #[] #[]), (12, .slice A n cap), (13, .int .i64 (n : Int)), (14, .int .i64 (k : Int))])
    (fun k wr => k ≤ n ∧ Wf B w wr ∧ Wr wr B g (bs ++ grp n ++ (l.take k).flatMap Fn.bytes)) (fun k => n - k) 0 ⟨Nat.zero_le _, wf, by simpa using wr⟩ ⟨rfl, rfl, rfl, rfl, rfl, trivial⟩ ?_
  clear wf wr
  rintro k wr0 ⟨hk, wf, wr⟩
  have hlt := flat_len Fn.bytes 220 (l := l.take k) (fun x hx => Fn.len (hn x (List.mem_of_mem_take hx)))
  rw [List.length_take] at hlt
  refine Cd.seq ?_
  refine Cd.region ?_
  refine Seq.val (Runs.lss rfl rfl rfl) rfl rfl rfl ?_
  refine Seq.nil ?_
  refine Post.weak (F' := [(0, _), (2, _), (12, _), (13, _), (14, _), (15, _)]) ⟨rfl, rfl, rfl, rfl, rfl, rfl, trivial⟩ ?_
  refine Post.then_ ?_
  refine Cd.seq ?_
  refine Cd.condD rfl (fun hc => ?_) (fun hc => ?_)
  · obtain ⟨x, hx⟩ : ∃ x, l[k]? = some x := ⟨_, List.getElem?_eq_getElem (show k < l.length by omega)⟩
    have hxm : (l.map Fn.fl)[k]? = some x.fl := by rw [List.getElem?_map, hx]; rfl
    obtain ⟨ad, rfl, hbl, hin, hc⟩ := hr.fl ((wf.to hBw).mono hB) hxm
    refine Cd.skip ?_
    refine Post.then_ ?_
    refine Cd.seq ?_
    refine Cd.block ?_
    refine Cd.seq ?_
    refine Cd.region ?_
    refine Seq.val (Runs.indexN rfl rfl rfl Tryz.underlying36 (s := 6) (by kernel_rfl) (j := k) rfl (by omega)) rfl rfl rfl ?_
    refine Seq.val (Runs.loadF (ps := [.int .i64 x.num, .int .i64 x.level, .string (strOf x.first), .string (strOf x.last), .int .i64 x.count, .int .i64 x.size]) rfl rfl Tryz.underlying81 rfl (m := 6) (by kernel_rfl) rfl hc) rfl rfl rfl ?_
    refine Seq.alloc rfl (run_zero zero_edit_File) rfl rfl rfl ?_
    intro g7 w2 n7
    have e7 := Nat.le_trans wf.below.size n7.ge
    replace wf := wf.step n7.below
    replace wr := wr.step n7.below
    have k7 := n7.blk
    refine Seq.storeN rfl rfl rfl rfl (m := 6) (by kernel_rfl) rfl (by repeat' first | exact trivial | apply And.intro | rfl | assumption) k7 (by simp [Value.cells]) rfl rfl ?_
    intro w3 pw3
    replace wf := wf.put k7 pw3 e7
    replace wr := wr.put k7 pw3 e7
    replace k7 := pw3.blk
    refine Seq.nil ?_
    refine Post.weak (F' := [(0, _), (2, _), (7, _), (12, _), (13, _), (14, _), (15, _)]) ⟨rfl, rfl, rfl, rfl, rfl, rfl, rfl, trivial⟩ ?_
    refine Post.then_ ?_
    refine Cd.region ?_
    refine Seq.val (Runs.move rfl rfl) rfl rfl rfl ?_
    refine Seq.val (Runs.move rfl rfl) rfl rfl rfl ?_
    refine Seq.val (Runs.loadW rfl rfl Tryz.underlying81 rfl k7 (m := 6) (by kernel_rfl) rfl) rfl rfl rfl ?_
    refine Seq.call (Enters.value (first := []) (cap := []) rfl rfl rfl eg_enc2) rfl rfl rfl (enc2_any B g x _ _ wr (hn x (List.mem_of_getElem? hx)) (by simp only [List.length_append]; omega)) ?_
    clear wr
    rintro e w5 ⟨rfl, f5, wr⟩
    refine ⟨_, rfl, ?_⟩
    replace wf := wf.wf f5
    rw [List.append_assoc, ← flat_take Fn.bytes hx] at wr
    refine Seq.nil ?_
    refine Post.weak (F' := [(0, _), (2, _), (7, _), (12, _), (13, _), (14, _), (15, _)]) ⟨rfl, rfl, rfl, rfl, rfl, rfl, rfl, trivial⟩ ?_
    refine Post.block_normal ?_
    refine Post.then_ ?_
    refine Cd.region ?_
    refine Seq.val (Runs.addI rfl rfl rfl (by omega) (by omega)) rfl rfl rfl ?_
    refine Seq.val (Runs.move rfl rfl) rfl rfl rfl ?_
    refine Seq.nil ?_
    refine Post.weak (F' := [(0, _), (2, _), (7, _), (12, _), (13, _), (14, _), (15, _)]) ⟨rfl, rfl, rfl, rfl, rfl, rfl, rfl, trivial⟩ ?_
    exact Post.round (k + 1) ⟨rfl, rfl, rfl, rfl, rfl, trivial⟩ ⟨by omega, wf, wr⟩ (by omega)
  · obtain rfl : k = n := by omega
    rw [List.take_of_length_le (by omega), List.append_assoc] at wr
    refine Cd.exit ?_
    refine Post.then_exit ?_
    refine Post.round_exit ?_
    refine Post.block_exit ?_
    refine Post.end0 rfl (.inr rfl) ?_
    exact ⟨rfl, wf, wr⟩
/-- An edit as a value. -/
def ev (lg nx sq : Int) (A : Option Addr) (n c : Nat) (A' : Option Addr) (n' c' : Nat) : Value := .agg #[.int .i64 lg, .int .i64 nx, .int .i64 sq, .slice A n c, .slice A' n' c']
/-- An edit's bytes. -/
def encB (lg nx sq : Int) (drop : List Nat) (add : List Fn) : List Nat := grp (sgn lg) ++ (grp (sgn nx) ++ (grp (sgn sq) ++ (grp drop.length ++ (drop.flatMap grp ++ (grp add.length ++ add.flatMap Fn.bytes)))))
/-- edit.Encode. -/
theorem encode_any (lg nx sq : Int) (B : Nat) (A A' : Option Addr) (cap cap' : Nat) (drop : List Nat) (add : List Fn) (w : World) (hr : Reads w B 1 A drop.length (DI (DN drop))) (hr' : Reads w B 6 A' add.length (fcs (add.map Fn.fl))) (hB : B ≤ w.heap.size)
    (hlg : I64 lg) (hnx : I64 nx) (hsq : I64 sq) (hd : ∀ n ∈ drop, n < 9223372036854775808) (hf : ∀ f ∈ add, f.ok) (hdl : drop.length ≤ 1000) (hal : add.length ≤ 1000) (hlaid : laidB lg nx sq (DN drop) (add.map Fn.fl) = true) :
    Calls Tryz.prog 32 #[.agg #[.int .i64 lg, .int .i64 nx, .int .i64 sq, .slice A drop.length cap, .slice A' add.length cap']] w fun e w' => e = .returned (.tuple #[.string (strOf (encB lg nx sq drop add)), .int .i64 0]) ∧ Grow w w' := by
  have bel := Below.refl w.heap.size w
  have h1 := grp_len (sgn lg)
  have h2 := grp_len (sgn nx)
  have h3 := grp_len (sgn sq)
  have h4 := grp_len drop.length
  have h5 := grp_len add.length
  have hlen : (drop.flatMap grp).length ≤ 10000 := by
    have := flat_len grp 10 (l := drop) (fun x _ => grp_len x)
    omega
  have hl0 := fun W (hb : Below w.heap.size w W) => laid_any lg nx sq B A A' cap cap' (DN drop) (add.map Fn.fl) W (by rw [DN, List.length_map]; exact hr.below (hb.mono hB)) (by rw [List.length_map]; exact hr'.below (hb.mono hB)) (Nat.le_trans hB hb.size)
  rw [hlaid] at hl0
  simp only [DN, List.length_map] at hl0
  refine Calls.start 30 Tryz.func32 rfl rfl rfl ?_
  refine Cd.seq ?_
  refine Cd.region ?_
  refine Seq.box rfl rfl rfl rfl rfl ?_
  intro g1 w1 n1
  have e1 := Nat.le_trans bel.size n1.ge
  replace bel := bel.step n1.below
  have k1 := n1.blk
  refine Seq.val (Runs.assign rfl rfl) rfl rfl rfl ?_
  refine Seq.val (Runs.assign rfl rfl) rfl rfl rfl ?_
  refine Seq.nil ?_
  refine Post.weak (F' := [(0, _), (1, _), (2, _), (3, _)]) ⟨rfl, rfl, rfl, rfl, trivial⟩ ?_
  refine Post.then_ ?_
  refine Cd.seq ?_
  refine Cd.seq ?_
  refine Cd.region ?_
  refine Seq.val (Runs.loadW rfl rfl Tryz.underlying47 rfl k1 (m := 5) (by kernel_rfl) rfl) rfl rfl rfl ?_
  refine Seq.call (Enters.func rfl rfl rfl (run_enter Tryz.func61 (by kernel_rfl) rfl)) rfl rfl rfl (hl0 _ bel) ?_
  rintro e w5 ⟨rfl, hb5⟩
  refine ⟨_, rfl, ?_⟩
  replace bel := bel.step hb5
  replace k1 := k1.step hb5
  refine Seq.val (Runs.not rfl rfl) rfl rfl rfl ?_
  refine Seq.nil ?_
  refine Post.weak (F' := [(0, _), (1, _), (2, _), (3, _), (7, _)]) ⟨rfl, rfl, rfl, rfl, rfl, trivial⟩ ?_
  refine Post.then_ ?_
  refine Cd.condF rfl rfl ?_
  refine Cd.skip ?_
  refine Post.then_ ?_
  refine Cd.seq ?_
  refine Cd.region ?_
  refine Seq.val (Runs.build rfl rfl (run_build_Wr0 _)) rfl rfl rfl ?_
  refine Seq.box rfl rfl rfl rfl rfl ?_
  intro g9 w2 n9
  have e9 := Nat.le_trans bel.size n9.ge
  have l9 := Nat.lt_of_lt_of_le k1.lt n9.ge
  replace bel := bel.step n9.below
  replace k1 := k1.step n9.below
  have k9 := n9.blk
  refine Seq.val (Runs.assign rfl rfl) rfl rfl rfl ?_
  refine Seq.nil ?_
  refine Post.weak (F' := [(0, _), (1, _), (2, _), (3, _), (4, _), (7, _)]) ⟨rfl, rfl, rfl, rfl, rfl, rfl, trivial⟩ ?_
  refine Post.then_ ?_
  refine Cd.seq ?_
  have wr : Wr w2 g9 g9 [] := ⟨Nat.le_refl _, fun d hd => (by cases hd), _, k9, Own.nil _ _ _ _⟩
  have wf := Wf.refl g9 w2
  have hg9 : g9 ≤ w2.heap.size := Nat.le_of_lt n9.lt
  refine Cd.drawJ 10 (by kernel_rfl) [] [3, 6, 9] (fun i h => by cases h) rfl rfl (.inl rfl) rfl (Wf g9) (Wf.refl g9) (fun _ _ _ => Wf.trans) (fun c w => Wr w g9 g9 (nthL [] [[], grp (sgn lg), grp (sgn lg) ++ grp (sgn nx), grp (sgn lg) ++ grp (sgn nx) ++ grp (sgn sq)] c)) ?_
  intro w3 hw3 zw3
  replace k1 := k1.step hw3
  replace wf := wf.step hw3
  replace wr := wr.step hw3
  refine ⟨wr, ?_⟩
  have zlt := k1.lt
  refine DJ.val rfl (Wf.refl g9) rfl (fun w hG => Runs.move rfl rfl) rfl ?_
  refine DJ.val rfl (Wf.refl g9) rfl (fun w hG => Runs.fieldB 0 rfl rfl Tryz.underlying47 rfl (by kernel_rfl)) rfl ?_
  refine DJ.val rfl (Wf.refl g9) rfl (fun w hG => Runs.loadB rfl rfl Tryz.underlying3 rfl (k1.wf hG) rfl) rfl ?_
  refine DJ.chain 0 rfl rfl (fun w => Enters.func rfl rfl rfl (run_enter Tryz.func67 (by kernel_rfl) rfl)) rfl (fun w hG wr => signed_any g9 g9 lg [] _ wr hlg (by simp)) ?_
  refine DJ.val rfl (Wf.refl g9) rfl (fun w hG => Runs.fieldB 1 rfl rfl Tryz.underlying47 rfl (by kernel_rfl)) rfl ?_
  refine DJ.val rfl (Wf.refl g9) rfl (fun w hG => Runs.loadB rfl rfl Tryz.underlying3 rfl (k1.wf hG) rfl) rfl ?_
  refine DJ.chain 1 rfl rfl (fun w => Enters.func rfl rfl rfl (run_enter Tryz.func67 (by kernel_rfl) rfl)) rfl (fun w hG wr => signed_any g9 g9 nx _ _ wr hnx (by omega)) ?_
  refine DJ.val rfl (Wf.refl g9) rfl (fun w hG => Runs.fieldB 2 rfl rfl Tryz.underlying47 rfl (by kernel_rfl)) rfl ?_
  refine DJ.val rfl (Wf.refl g9) rfl (fun w hG => Runs.loadB rfl rfl Tryz.underlying3 rfl (k1.wf hG) rfl) rfl ?_
  refine DJ.chain 2 rfl rfl (fun w => Enters.func rfl rfl rfl (run_enter Tryz.func67 (by kernel_rfl) rfl)) rfl (fun w hG wr => signed_any g9 g9 sq _ _ wr hsq (by simp only [nthL, List.length_append]; omega)) ?_
  refine DJ.nil ?_
  refine FinX.done (F' := [(0, _), (1, _), (2, _), (3, _), (4, _), (7, _)]) rfl ⟨rfl, rfl, rfl, rfl, rfl, rfl, trivial⟩ ?_
  intro w4 hw4 fw4
  replace k1 := k1.wf hw4
  replace wf := wf.wf hw4
  clear wr
  have wr := fw4
  refine Seq.nil ?_
  refine Post.weak (F' := [(0, _), (1, _), (2, _), (3, _), (4, _), (7, _)]) ⟨rfl, rfl, rfl, rfl, rfl, rfl, trivial⟩ ?_
  refine Post.then_ ?_
  refine Cd.seq ?_
  refine Cd.region ?_
  refine Seq.val (Runs.move rfl rfl) rfl rfl rfl ?_
  refine Seq.val (Runs.fieldB 3 rfl rfl Tryz.underlying47 rfl (by kernel_rfl)) rfl rfl rfl ?_
  refine Seq.val (Runs.loadB rfl rfl Tryz.underlying40 rfl k1 rfl) rfl rfl rfl ?_
  replace wr : Wr _ g9 g9 (grp (sgn lg) ++ grp (sgn nx) ++ grp (sgn sq)) := wr
  have bel2 := bel.trans ((wf.to hg9).mono e9)
  refine Seq.call (Enters.func rfl rfl rfl (run_enter Tryz.func68 (by kernel_rfl) rfl)) rfl rfl rfl (putN_any g9 g9 B cap A drop _ _ wr (hr.below (bel2.mono hB)) (Nat.le_trans hB e9) hd hdl (by simp only [List.length_append]; omega)) ?_
  clear wr
  rintro e w5 ⟨rfl, fw5, wr⟩
  refine ⟨_, rfl, ?_⟩
  replace k1 := k1.wf fw5
  replace wf := wf.wf fw5
  refine Seq.nil ?_
  refine Post.weak (F' := [(0, _), (1, _), (2, _), (3, _), (4, _), (7, _)]) ⟨rfl, rfl, rfl, rfl, rfl, rfl, trivial⟩ ?_
  refine Post.then_ ?_
  refine Cd.seq ?_
  refine Cd.region ?_
  refine Seq.val (Runs.move rfl rfl) rfl rfl rfl ?_
  refine Seq.val (Runs.fieldB 4 rfl rfl Tryz.underlying47 rfl (by kernel_rfl)) rfl rfl rfl ?_
  refine Seq.val (Runs.loadB rfl rfl Tryz.underlying36 rfl k1 rfl) rfl rfl rfl ?_
  have bel3 := bel.trans ((wf.to hg9).mono e9)
  refine Seq.call (Enters.func rfl rfl rfl (run_enter Tryz.func71 (by kernel_rfl) rfl)) rfl rfl rfl (putF_any g9 g9 B cap' A' add _ _ wr (hr'.below (bel3.mono hB)) (Nat.le_trans hB e9) hf hal (by simp only [List.length_append]; omega)) ?_
  clear wr
  rintro e w6 ⟨rfl, fw6, wr⟩
  refine ⟨_, rfl, ?_⟩
  replace k1 := k1.wf fw6
  replace wf := wf.wf fw6
  have bel4 := bel.trans ((wf.to hg9).mono e9)
  clear bel
  have bel := bel4
  refine Seq.nil ?_
  refine Post.weak (F' := [(0, _), (1, _), (2, _), (3, _), (4, _), (7, _)]) ⟨rfl, rfl, rfl, rfl, rfl, rfl, trivial⟩ ?_
  refine Post.then_ ?_
  refine Cd.seq ?_
  refine Cd.region ?_
  refine Seq.val (Runs.move rfl rfl) rfl rfl rfl ?_
  refine Seq.call (Enters.func rfl rfl rfl (run_enter Tryz.func74 (by kernel_rfl) rfl)) rfl rfl rfl (wbytes_any g9 g9 _ _ wr) ?_
  rintro e w15 ⟨rfl, hb15⟩
  refine ⟨_, rfl, ?_⟩
  replace k1 := k1.step hb15
  replace wr := wr.step hb15
  replace bel := bel.step hb15
  refine Seq.val (Runs.assign rfl rfl) rfl rfl rfl ?_
  refine Seq.val (Runs.assign rfl rfl) rfl rfl rfl ?_
  refine Seq.nil ?_
  refine Post.weak (F' := [(0, _), (1, _), (2, _), (3, _), (4, _), (7, _)]) ⟨rfl, rfl, rfl, rfl, rfl, rfl, trivial⟩ ?_
  refine Post.then_ ?_
  refine Cd.ret ?_
  refine Post.end2 rfl rfl rfl (.inl rfl) ?_
  refine ⟨?_, bel⟩
  simp only [encB, List.append_assoc]
end Go.Proofs.YtdpipgidpkmolaaGreatDoor

namespace Go.Proofs.YtdpipgidpkmolaaGreatDoor
open Go.RowKit

section
variable {P : Program} {ops : Array Oper} {Q : Exit → Act → World → Prop} {rest : List Oper} {E : Operand → Option Value} {F : List (Nat × Value)} {o : Oper} {w : World} {x y z : Operand} {t k e m n d : Nat} {l : List (List Nat × Nat)} {nm : List Nat}
theorem Seq.mapDel0 (ho : o.op = .call { callee := .builtin .delete, args := #[x, y], argTypes := #[t, k] }) (hx : evF F x = some (.map (some m))) (hy : evF F y = some (.string (strOf nm))) (h : Mp w m l) (hn : ∀ c ∈ nm, c < 256) (ht : P.underlying t = some (.map k e)) (hk : P.underlying k = some .string)
    (hg : o.guard = none) (hd : o.dst = none) (hr : ∀ w', PutM w w' m (del l nm) → Seq P ops Q rest n F w') : Seq P ops Q (o :: rest) n F w := by
  obtain ⟨w', h1, h2⟩ := Mp.delete (ty := o.type) h ht hk hn
  refine Seq.val0 (v := .tuple #[]) (w' := w') (fun ρ hρ => ?_) hg hd (hr w' h2)
  unfold execOp
  simp only [ho, resolve, invoke, builtin, Sem.run_bind, Sem.run_pure, Result.andThen_ok, List.map_toArray, List.map_cons, List.map_nil, hρ _ _ hx, hρ _ _ hy, h1]
end
theorem fsOf_del (l : List (List Nat × Nat)) (F : Nat → Fil) (nm : List Nat) : fsOf (del l nm) F = (fsOf l F).filter (fun p => decide (p.1 ≠ nm)) := by
  unfold fsOf del
  rw [List.filter_map]
  rfl
theorem usedL_del {fs : List (List Nat × Fil)} {nm : List Nat} (hn : (fs.map (·.1)).Nodup) : usedL (fs.filter fun p => decide (p.1 ≠ nm)) + (getL fs nm).data.length = usedL fs := by
  induction fs with
  | nil => rfl
  | cons p r ih =>
    rw [List.map_cons, List.nodup_cons] at hn
    by_cases e : p.1 = nm
    · have hs : r.filter (fun p => decide (p.1 ≠ nm)) = r := by
        rw [List.filter_eq_self]
        intro q hq
        rw [decide_eq_true_eq]
        intro e2
        exact hn.1 (by rw [e, ← e2]; exact List.mem_map.2 ⟨q, hq, rfl⟩)
      have hg : getL (p :: r) nm = p.2 := by
        unfold getL
        rw [List.find?_cons_of_pos (by simpa using e)]
        rfl
      rw [List.filter_cons_of_neg (by simp [e]), hs, usedL, hg]
      omega
    · have hg : getL (p :: r) nm = getL r nm := by
        unfold getL
        rw [List.find?_cons_of_neg (by simpa using e)]
      rw [List.filter_cons_of_pos (by simpa using e), usedL, usedL, hg]
      have := ih hn.2
      omega
theorem Fs.del {w : World} {B : Nat} {l : List (List Nat × Nat)} {F : Nat → Fil} (h : Fs w B l F) (nm : List Nat) : Fs w B (del l nm) F :=
  ⟨fun p hp => h.blk p (List.mem_filter.1 hp).1, h.nd.sublist (List.Sublist.map _ (List.filter_sublist))⟩
theorem Fs.putM {w w' : World} {B m : Nat} {l l' : List (List Nat × Nat)} {F : Nat → Fil} (h : Fs w B l F) (p : PutM w w' m l') : Fs w' B l F := ⟨fun q hq => ⟨(h.blk q hq).1, (h.blk q hq).2.putM p⟩, h.nd⟩
/-- Without a file. -/
def Dk.wipe (D : Dk) (nm : List Nat) : Dk := { D with files := D.files.filter fun p => decide (p.1 ≠ nm) }
theorem wipe_used {D : Dk} {nm : List Nat} (hn : (D.files.map (·.1)).Nodup) : (D.wipe nm).used + ((D.fileOf nm).data.length : Int) = D.used := by
  have := usedL_del (nm := nm) hn
  show (usedL (D.files.filter fun p => decide (p.1 ≠ nm)) : Int) + ((getL D.files nm).data.length : Int) = (usedL D.files : Int)
  omega
theorem wipe_ok {D : Dk} {nm : List Nat} (h : D.ok) (hn : (D.files.map (·.1)).Nodup) : (D.wipe nm).ok := by
  have hu := wipe_used (nm := nm) hn
  refine ⟨h.room0, h.room1, ?_, h.left0, h.left1, fun p hp => h.fil p (List.mem_filter.1 hp).1, Nat.le_trans (List.length_filter_le _ _) h.most⟩
  have := h.fits
  show (D.wipe nm).used ≤ D.room
  omega
theorem wipe_none {D : Dk} {nm : List Nat} (h : D.get nm = none) : D.wipe nm = D := by
  unfold Dk.wipe
  have : (D.files.filter fun p => decide (p.1 ≠ nm)) = D.files := by
    rw [List.filter_eq_self]
    intro p hp
    rw [decide_eq_true_eq]
    intro e
    unfold Dk.get at h
    rw [Option.map_eq_none_iff, List.find?_eq_none] at h
    exact h p hp (by simpa using e)
  rw [this]
theorem drop_d_any (B g0 m : Nat) (D : Dk) (l : List (List Nat × Nat)) (F : Nat → Fil) (c1 c2 : Int) (nm : List Nat) (w : World) (h : DkR w B g0 D m l F c1 c2) (hsm : ∀ c ∈ nm, c < 256) :
    Calls Tryz.prog 93 #[.pointer (some ⟨g0, 0, none⟩), .string (strOf nm)] w fun e w' => e = .returned (.tuple #[]) ∧ DkR w' B g0 (D.wipe nm) m (del l nm) F c1 c2 ∧ Df B w w' := by
  obtain ⟨k0, mp, hm, fs, fl0, e0, ok0⟩ := h
  have df := Df.refl B w
  have hBw : B ≤ w.heap.size := Nat.le_trans e0 (Nat.le_of_lt k0.lt)
  have hg := get_some fl0 nm
  have hnn := mp.nodup
  have hnd : (D.files.map (·.1)).Nodup := by rw [fl0, fs_names]; exact hnn
  refine Calls.start 33 Tryz.func93 rfl rfl rfl ?_
  refine Cd.seq ?_
  refine Cd.region ?_
  refine Seq.val (Runs.move rfl rfl) rfl rfl rfl ?_
  refine Seq.val (Runs.nilCheck rfl rfl) rfl rfl rfl ?_
  refine Seq.val (Runs.fieldB 1 rfl rfl Tryz.underlying65 rfl (by kernel_rfl)) rfl rfl rfl ?_
  refine Seq.val (Runs.loadB rfl rfl Tryz.underlying63 rfl k0 rfl) rfl rfl rfl ?_
  refine Seq.val (Runs.move rfl rfl) rfl rfl rfl ?_
  refine Seq.val (Runs.lookup2 rfl rfl rfl mp hsm Tryz.underlying63 Tryz.underlying9 zero_pfile) rfl rfl rfl ?_
  refine Seq.val (Runs.move rfl rfl) rfl rfl rfl ?_
  refine Seq.val (Runs.extract rfl rfl rfl) rfl rfl rfl ?_
  refine Seq.val (Runs.extract rfl rfl rfl) rfl rfl rfl ?_
  refine Seq.val (Runs.assign rfl rfl) rfl rfl rfl ?_
  refine Seq.val (Runs.assign rfl rfl) rfl rfl rfl ?_
  refine Seq.nil ?_
  refine Post.weak (F' := [(0, _), (1, _), (4, _), (5, _)]) ⟨rfl, rfl, rfl, rfl, trivial⟩ ?_
  refine Post.then_ ?_
  refine Cd.seq ?_
  refine Cd.region ?_
  refine Seq.val (Runs.move rfl rfl) rfl rfl rfl ?_
  refine Seq.nil ?_
  refine Post.weak (F' := [(0, _), (1, _), (4, _), (5, _), (15, _)]) ⟨rfl, rfl, rfl, rfl, rfl, trivial⟩ ?_
  refine Post.then_ ?_
  refine Cd.cond rfl (fun h => ?_) (fun h => ?_)
  · have h : (lk l nm).isSome = true := h
    obtain ⟨g4, hg4⟩ := Option.isSome_iff_exists.1 h
    have hv : lkV l nm = .pointer (some ⟨g4, 0, none⟩) := by unfold lkV; rw [hg4]; rfl
    obtain ⟨e4, k4⟩ : B ≤ g4 ∧ Blk _ g4 100 (F g4).cs := fs.blk _ (lk_mem hg4)
    have hne04 := k0.neT k4
    have hgg : D.get nm = some (F g4) := by rw [hg, hg4]; rfl
    have hfo : D.fileOf nm = F g4 := by rw [fileOf_eq, hgg]; rfl
    have hu := wipe_used (nm := nm) hnd
    rw [hfo] at hu
    have hfo1 : (F g4).data.length ≤ 1048576 := (ok0.fil _ (get_mem hgg)).1.2.2
    have hwok := wipe_ok (nm := nm) ok0 hnd
    obtain ⟨us, hus⟩ : ∃ us, us = D.used := ⟨_, rfl⟩
    have hu0 : 0 ≤ us := by rw [hus]; exact Int.natCast_nonneg _
    have hu1 : us ≤ 16777216 := by rw [hus]; have := ok0.fits; have := ok0.room1; omega
    replace k0 : Blk w g0 65 #[.int .i64 D.room, .map (some m), .int .i64 us, .int .i64 c1, .int .i64 c2, .bool D.off, .bool D.armed, .int .i64 D.left] := by rw [hus]; exact k0
    rw [hv]
    refine Cd.seq ?_
    refine Cd.draw 12 (by kernel_rfl) [] (.inl rfl) rfl Grow Grow.refl (fun _ _ _ => Grow.trans) ?_
    intro w1 hw1 zw1
    replace df := df.step hw1
    replace k0 := k0.step hw1
    replace mp := mp.step hw1
    replace fs := fs.step hw1
    replace k4 := k4.step hw1
    have zlt := k4.lt
    refine Dr.val Grow.refl rfl (fun w hG => Runs.move rfl rfl) rfl ?_
    refine Dr.val Grow.refl rfl (fun w hG => Runs.nilCheck rfl rfl) rfl ?_
    refine Dr.val Grow.refl rfl (fun w hG => Runs.fieldB 2 rfl rfl Tryz.underlying65 rfl (by kernel_rfl)) rfl ?_
    refine Dr.val Grow.refl rfl (fun w hG => Runs.loadB rfl rfl Tryz.underlying3 rfl (k0.step hG) rfl) rfl ?_
    refine Dr.val Grow.refl rfl (fun w hG => Runs.move rfl rfl) rfl ?_
    refine Dr.val Grow.refl rfl (fun w hG => Runs.nilCheck rfl rfl) rfl ?_
    refine Dr.val Grow.refl rfl (fun w hG => Runs.fieldB 0 rfl rfl Tryz.underlying100 rfl (by kernel_rfl)) rfl ?_
    refine Dr.val Grow.refl rfl (fun w hG => Runs.loadB rfl rfl Tryz.underlying9 rfl (k4.step hG) rfl) rfl ?_
    refine Dr.val Grow.refl rfl (fun w hG => Runs.lenL rfl rfl Tryz.underlying9) rfl ?_
    refine Dr.val Grow.refl rfl (fun w hG => Runs.subI rfl rfl rfl (by omega) (by omega)) rfl ?_
    refine Dr.val Grow.refl rfl (fun w hG => Runs.nilCheck rfl rfl) rfl ?_
    refine Dr.val Grow.refl rfl (fun w hG => Runs.fieldB 2 rfl rfl Tryz.underlying65 rfl (by kernel_rfl)) rfl ?_
    refine Dr.nil ?_
    refine FinX.done (F' := [(0, _), (1, _), (4, _), (5, _), (15, _), (25, _), (27, _)]) rfl ⟨rfl, rfl, rfl, rfl, rfl, rfl, rfl, trivial⟩ ?_
    intro w2 hw2 fw2
    replace df := df.step hw2
    replace k0 := k0.step hw2
    replace mp := mp.step hw2
    replace fs := fs.step hw2
    replace k4 := k4.step hw2
    refine Seq.store1 rfl rfl rfl (by kernel_rfl) rfl rfl k0 rfl rfl rfl ?_
    intro w3 pw3
    replace df := df.put k0 pw3 e0
    replace mp := mp.put k0 pw3 e0
    replace fs := fs.put k0 pw3 e0
    replace k4 := k4.put pw3 (by omega)
    replace k0 := pw3.blk
    refine Seq.nil ?_
    refine Post.weak (F' := [(0, _), (1, _), (4, _), (5, _), (15, _)]) ⟨rfl, rfl, rfl, rfl, rfl, trivial⟩ ?_
    refine Post.then_ ?_
    refine Cd.region ?_
    refine Seq.val (Runs.move rfl rfl) rfl rfl rfl ?_
    refine Seq.val (Runs.nilCheck rfl rfl) rfl rfl rfl ?_
    refine Seq.val (Runs.fieldB 1 rfl rfl Tryz.underlying65 rfl (by kernel_rfl)) rfl rfl rfl ?_
    refine Seq.val (Runs.loadB rfl rfl Tryz.underlying63 rfl k0 rfl) rfl rfl rfl ?_
    refine Seq.val (Runs.move rfl rfl) rfl rfl rfl ?_
    refine Seq.mapDel0 rfl rfl rfl mp hsm Tryz.underlying63 Tryz.underlying9 rfl rfl ?_
    intro wm pm
    replace df := df.putM hm pm
    replace k0 := k0.putM pm
    replace fs := (fs.putM pm).del nm
    replace mp := pm.mp
    clear pm k4
    refine Seq.nil ?_
    refine Post.weak (F' := [(0, _), (1, _), (4, _), (5, _), (15, _)]) ⟨rfl, rfl, rfl, rfl, rfl, trivial⟩ ?_
    refine Post.end0 rfl (.inr rfl) ?_
    refine ⟨rfl, ⟨?_, mp, hm, fs, ?_, e0, hwok⟩, df⟩
    · have hu2 : (D.wipe nm).used = us - ((F g4).data.length : Int) := by omega
      unfold Dk.cs
      rw [hu2]
      exact k0
    · rw [fsOf_del, ← fl0]; rfl
  · have h : lk l nm = none := by
      have h' : (lk l nm).isSome = false := h
      simpa using h'
    have hn0 : D.get nm = none := by rw [hg, h]; rfl
    have hdel : del l nm = l := by
      unfold del
      rw [List.filter_eq_self]
      intro p hp
      simpa using lk_none_of h p hp
    rw [wipe_none hn0, hdel]
    refine Cd.skip ?_
    refine Post.end0 rfl (.inr rfl) ?_
    exact ⟨rfl, ⟨k0, mp, hm, fs, fl0, e0, ok0⟩, df⟩
/-- Without a file, where it may be. -/
def Dk.delete (D : Dk) (nm : List Nat) : Dk := if D.thereE [nm] nm = 0 then D.tick.wipe nm else D.tick
/-- A file by another name. -/
def Dk.rename (D : Dk) (a b : List Nat) : Dk := if D.thereE [a, b] a ≠ 0 ∨ a = b then D.tick else match D.get a with | some f => { (D.tick.wipe b).wipe a with files := ((D.tick.wipe b).wipe a).files ++ [(b, f)] } | none => D.tick
theorem delete_d_any (B g0 : Nat) (D : Dk) (nm : List Nat) (w : World) (h : DkAt w B g0 D) (hsm : ∀ c ∈ nm, c < 256) (hl : nm.length ≤ 1000000000) :
    Calls Tryz.prog 46 #[.pointer (some ⟨g0, 0, none⟩), .string (strOf nm)] w fun e w' => e = .returned (.int .i64 (D.thereE [nm] nm)) ∧ DkAt w' B g0 (D.delete nm) ∧ Df B w w' := by
  obtain ⟨m, l, F, c1, c2, dk⟩ := h
  have df := Df.refl B w
  refine Calls.start 19 Tryz.func46 rfl rfl rfl ?_
  refine Cd.seq ?_
  refine Cd.region ?_
  refine Seq.val (Runs.assign rfl rfl) rfl rfl rfl ?_
  refine Seq.nil ?_
  refine Post.weak (F' := [(0, _), (1, _), (4, _)]) ⟨rfl, rfl, rfl, trivial⟩ ?_
  refine Post.then_ ?_
  refine Cd.seq ?_
  refine Cd.region ?_
  refine Seq.val (Runs.move rfl rfl) rfl rfl rfl ?_
  refine Seq.val (Runs.move rfl rfl) rfl rfl rfl ?_
  refine Seq.call (Enters.func rfl rfl rfl (run_enter Tryz.func92 (by kernel_rfl) rfl)) rfl rfl rfl (there_any B g0 m D l F c1 c2 nm [] (.slice none 0 0) 0 0 _ dk (Own.nil _ _ _ _) (by simpa using hsm) (by simpa using hl) (by omega)) ?_
  clear dk
  rintro e w1 ⟨rfl, ⟨c3, dk⟩, fw1⟩
  refine ⟨_, rfl, ?_⟩
  replace df := df.df fw1
  refine Seq.val (Runs.move rfl rfl) rfl rfl rfl ?_
  refine Seq.val (Runs.extract rfl rfl rfl) rfl rfl rfl ?_
  refine Seq.val (Runs.extract rfl rfl rfl) rfl rfl rfl ?_
  refine Seq.val (Runs.assign rfl rfl) rfl rfl rfl ?_
  refine Seq.val (Runs.assign rfl rfl) rfl rfl rfl ?_
  refine Seq.nil ?_
  refine Post.weak (F' := [(0, _), (1, _), (4, _), (6, _)]) ⟨rfl, rfl, rfl, rfl, trivial⟩ ?_
  refine Post.then_ ?_
  refine Cd.seq ?_
  refine Cd.seq ?_
  refine Cd.region ?_
  refine Seq.val (Runs.move rfl rfl) rfl rfl rfl ?_
  refine Seq.val (Runs.eqlI rfl rfl rfl) rfl rfl rfl ?_
  refine Seq.nil ?_
  refine Post.weak (F' := [(0, _), (1, _), (4, _), (6, _), (14, _)]) ⟨rfl, rfl, rfl, rfl, rfl, trivial⟩ ?_
  refine Post.then_ ?_
  refine Cd.cond rfl (fun h => ?_) (fun h => ?_)
  · have h : D.thereE [nm] nm = 0 := by simpa using h
    have hS : D.delete nm = D.tick.wipe nm := by unfold Dk.delete; rw [if_pos h]
    rw [hS]
    refine Cd.region ?_
    refine Seq.val (Runs.move rfl rfl) rfl rfl rfl ?_
    refine Seq.val (Runs.move rfl rfl) rfl rfl rfl ?_
    refine Seq.call (Enters.func rfl rfl rfl (run_enter Tryz.func93 (by kernel_rfl) rfl)) rfl rfl rfl (drop_d_any B g0 m D.tick l F c1 c3 nm _ dk hsm) ?_
    clear dk
    rintro e w2 ⟨rfl, dk, fw2⟩
    refine ⟨_, rfl, ?_⟩
    replace df := df.df fw2
    refine Seq.nil ?_
    refine Post.weak (F' := [(0, _), (1, _), (4, _), (6, _), (14, _)]) ⟨rfl, rfl, rfl, rfl, rfl, trivial⟩ ?_
    refine Post.then_ ?_
    refine Cd.seq ?_
    refine Cd.region ?_
    refine Seq.val (Runs.move rfl rfl) rfl rfl rfl ?_
    refine Seq.val (Runs.assign rfl rfl) rfl rfl rfl ?_
    refine Seq.nil ?_
    refine Post.weak (F' := [(0, _), (1, _), (4, _), (6, _), (14, _)]) ⟨rfl, rfl, rfl, rfl, rfl, trivial⟩ ?_
    refine Post.then_ ?_
    refine Cd.ret ?_
    refine Post.end1 rfl rfl (.inl rfl) ?_
    exact ⟨rfl, ⟨m, _, F, c1, c3, dk⟩, df⟩
  · have h : D.thereE [nm] nm ≠ 0 := by simpa using h
    have hS : D.delete nm = D.tick := by unfold Dk.delete; rw [if_neg h]
    rw [hS]
    refine Cd.skip ?_
    refine Post.then_ ?_
    refine Cd.seq ?_
    refine Cd.region ?_
    refine Seq.val (Runs.move rfl rfl) rfl rfl rfl ?_
    refine Seq.val (Runs.assign rfl rfl) rfl rfl rfl ?_
    refine Seq.nil ?_
    refine Post.weak (F' := [(0, _), (1, _), (4, _), (6, _), (14, _)]) ⟨rfl, rfl, rfl, rfl, rfl, trivial⟩ ?_
    refine Post.then_ ?_
    refine Cd.ret ?_
    refine Post.end1 rfl rfl (.inl rfl) ?_
    exact ⟨rfl, ⟨m, l, F, c1, c3, dk⟩, df⟩
theorem rename_ok {D : Dk} {a b : List Nat} {f : Fil} (h : D.ok) (hn : (D.files.map (·.1)).Nodup) (hf : D.get a = some f) (hne : a ≠ b) (hb : ∀ c ∈ b, c < 256) (hb1 : nameOk b = true) : ({ (D.wipe b).wipe a with files := ((D.wipe b).wipe a).files ++ [(b, f)] } : Dk).ok ∧ ({ (D.wipe b).wipe a with files := ((D.wipe b).wipe a).files ++ [(b, f)] } : Dk).used = (D.wipe b).used := by
  have h1 := wipe_ok (nm := b) h hn
  have hn1 : ((D.wipe b).files.map (·.1)).Nodup := hn.sublist (List.Sublist.map _ List.filter_sublist)
  have h2 := wipe_ok (nm := a) h1 hn1
  have hu := wipe_used (nm := a) hn1
  have hg : getL (D.wipe b).files a = f := by
    unfold getL Dk.wipe
    have : (D.files.filter fun p => decide (p.1 ≠ b)).find? (fun p => decide (p.1 = a)) = D.files.find? (fun p => decide (p.1 = a)) := by
      rw [List.find?_filter]
      congr 1
      funext p
      by_cases e : p.1 = a
      · simp [e, hne]
      · simp [e]
    show (((D.files.filter fun p => decide (p.1 ≠ b)).find? (fun p => decide (p.1 = a))).map fun (p : List Nat × Fil) => p.2).getD ⟨[], 0⟩ = f
    rw [this]
    unfold Dk.get at hf
    rw [hf]
    rfl
  have hu2 : ({ (D.wipe b).wipe a with files := ((D.wipe b).wipe a).files ++ [(b, f)] } : Dk).used = (D.wipe b).used := by
    show ((usedL (((D.wipe b).wipe a).files ++ [(b, f)]) : Nat) : Int) = _
    rw [usedL_app]
    have e : (D.wipe b).fileOf a = f := hg
    rw [e] at hu
    have e2 : usedL [(b, f)] = f.data.length := by simp [usedL]
    rw [e2]
    have e3 : ((usedL ((D.wipe b).wipe a).files : Nat) : Int) = ((D.wipe b).wipe a).used := rfl
    omega
  refine ⟨⟨h.room0, h.room1, ?_, h.left0, h.left1, ?_, ?_⟩, hu2⟩
  · rw [hu2]; exact h1.fits
  · intro p hp
    rcases List.mem_append.1 hp with hp | hp
    · exact h2.fil p hp
    · simp at hp
      subst hp
      unfold nameOk at hb1
      rw [Bool.and_eq_true, decide_eq_true_eq, decide_eq_true_eq] at hb1
      exact ⟨(h.fil _ (get_mem hf)).1, hb, hb1.1, hb1.2⟩
  · have h3 : (a, f) ∈ (D.wipe b).files := by
      unfold Dk.wipe
      rw [List.mem_filter]
      exact ⟨get_mem hf, by simpa using hne⟩
    have h4 : ((D.wipe b).wipe a).files.length < (D.wipe b).files.length := by
      show ((D.wipe b).files.filter _).length < _
      rw [List.length_filter_lt_length_iff_exists]
      exact ⟨(a, f), h3, by simp⟩
    have h5 := h1.most
    show (((D.wipe b).wipe a).files ++ [(b, f)]).length ≤ 200
    rw [List.length_append, List.length_singleton]
    omega
set_option maxHeartbeats 2000000 in
theorem rename_d_any (B g0 : Nat) (D : Dk) (a b : List Nat) (w : World) (h : DkAt w B g0 D) (ha : ∀ c ∈ a, c < 256) (hb : ∀ c ∈ b, c < 256) (hal : a.length ≤ 1000000000) (hbl : b.length ≤ 1000000000) :
    Calls Tryz.prog 97 #[.pointer (some ⟨g0, 0, none⟩), .string (strOf a), .string (strOf b)] w fun e w' => e = .returned (.int .i64 (D.thereE [a, b] a)) ∧ DkAt w' B g0 (D.rename a b) ∧ Df B w w' := by
  obtain ⟨m, l, F, c1, c2, dk⟩ := h
  have df := Df.refl B w
  have hm := dk.hm
  refine Calls.start 39 Tryz.func97 rfl rfl rfl ?_
  refine Cd.seq ?_
  refine Cd.region ?_
  refine Seq.val (Runs.assign rfl rfl) rfl rfl rfl ?_
  refine Seq.nil ?_
  refine Post.weak (F' := [(0, _), (1, _), (2, _), (6, _)]) ⟨rfl, rfl, rfl, rfl, trivial⟩ ?_
  refine Post.then_ ?_
  refine Cd.seq ?_
  refine Cd.region ?_
  refine Seq.val (Runs.move rfl rfl) rfl rfl rfl ?_
  refine Seq.val (Runs.move rfl rfl) rfl rfl rfl ?_
  refine Seq.val (Runs.move rfl rfl) rfl rfl rfl ?_
  refine Seq.slice (vs := [_]) (s := 1) rfl rfl rfl Tryz.underlying54 (by kernel_rfl) (zero_string) (by omega) (by omega) ⟨rfl, trivial⟩ rfl rfl rfl ?_
  intro g13 w1 n13
  replace df := df.step n13.below
  replace dk := dk.step n13.below
  have k13 := n13.blk
  have own : Own w1 w.heap.size 9 1 (.slice (some ⟨g13, 0, none⟩) 1 1) 1 (Ts [b]) := Own.of_blk k13 n13.ge rfl (by decide)
  refine Seq.call (Enters.func rfl rfl rfl (run_enter Tryz.func92 (by kernel_rfl) rfl)) rfl rfl rfl (there_any B g0 m D l F c1 c2 a [b] (.slice (some ⟨g13, 0, none⟩) 1 1) _ _ _ dk own (by simpa using ⟨ha, hb⟩) (by simpa using ⟨hal, hbl⟩) (by omega)) ?_
  clear dk
  rintro e w2 ⟨rfl, ⟨c3, dk⟩, fw2⟩
  refine ⟨_, rfl, ?_⟩
  replace df := df.df fw2
  refine Seq.val (Runs.move rfl rfl) rfl rfl rfl ?_
  refine Seq.val (Runs.extract rfl rfl rfl) rfl rfl rfl ?_
  refine Seq.val (Runs.extract rfl rfl rfl) rfl rfl rfl ?_
  refine Seq.val (Runs.assign rfl rfl) rfl rfl rfl ?_
  refine Seq.val (Runs.assign rfl rfl) rfl rfl rfl ?_
  refine Seq.nil ?_
  refine Post.weak (F' := [(0, _), (1, _), (2, _), (6, _), (7, _), (8, _)]) ⟨rfl, rfl, rfl, rfl, rfl, rfl, trivial⟩ ?_
  refine Post.then_ ?_
  refine Cd.seq ?_
  refine Cd.seq ?_
  refine Cd.region ?_
  refine Seq.val (Runs.move rfl rfl) rfl rfl rfl ?_
  refine Seq.val (Runs.neqI rfl rfl rfl) rfl rfl rfl ?_
  refine Seq.val (Runs.move rfl rfl) rfl rfl rfl ?_
  refine SeqC.start ?_
  refine SeqC.open rfl rfl rfl rfl rfl rfl rfl (fun hcx => Runs.move rfl rfl) ?_
  refine SeqC.next rfl rfl rfl rfl rfl rfl rfl (fun hcx => Runs.move rfl rfl) ?_
  refine SeqC.next rfl rfl rfl rfl rfl rfl rfl (fun hcx => Runs.eqlL rfl rfl rfl ha hb) ?_
  refine SeqC.or rfl rfl rfl rfl rfl rfl rfl ?_
  refine Seq.nil ?_
  refine Post.weak (F' := [(0, _), (1, _), (2, _), (6, _), (7, _), (8, _), (23, _)]) ⟨rfl, rfl, rfl, rfl, rfl, rfl, rfl, trivial⟩ ?_
  refine Post.then_ ?_
  refine Cd.cond rfl (fun h => ?_) (fun h => ?_)
  · have h : D.thereE [a, b] a ≠ 0 ∨ a = b := by simpa using h
    have hR : D.rename a b = D.tick := by unfold Dk.rename; rw [if_pos h]
    rw [hR]
    refine Cd.seq ?_
    refine Cd.region ?_
    refine Seq.val (Runs.move rfl rfl) rfl rfl rfl ?_
    refine Seq.val (Runs.assign rfl rfl) rfl rfl rfl ?_
    refine Seq.nil ?_
    refine Post.weak (F' := [(0, _), (1, _), (2, _), (6, _), (7, _), (8, _), (23, _)]) ⟨rfl, rfl, rfl, rfl, rfl, rfl, rfl, trivial⟩ ?_
    refine Post.then_ ?_
    refine Cd.ret ?_
    refine Post.then_ret ?_
    refine Post.end1 rfl rfl (.inl rfl) ?_
    exact ⟨rfl, ⟨m, l, F, c1, c3, dk⟩, df⟩
  have h : D.thereE [a, b] a = 0 ∧ a ≠ b := by simpa using h
  obtain ⟨h0, hab⟩ := h
  obtain ⟨hb0, f, hf⟩ := thereE_zero h0
  have hbok := (beginE_zero hb0).2 b (by simp)
  have hft : D.tick.get a = some f := by
    have : D.tick.get a = D.get a := by unfold Dk.get; rw [tick_files]
    rw [this, hf]
  have hR : D.rename a b = { (D.tick.wipe b).wipe a with files := ((D.tick.wipe b).wipe a).files ++ [(b, f)] } := by
    unfold Dk.rename
    rw [if_neg (by rintro (h | h); exact h h0; exact hab h), hf]
  have hg := get_some dk.fl a
  rw [hft] at hg
  obtain ⟨g7, hg7, hF7⟩ := Option.map_eq_some_iff.1 hg.symm
  rw [h0, if_pos rfl]
  have hv : lkV l a = .pointer (some ⟨g7, 0, none⟩) := by unfold lkV; rw [hg7]; rfl
  have hblk7 := dk.fs.blk _ (lk_mem hg7)
  have hB7 : B ≤ g7 := hblk7.1
  have hnn := dk.mp.nodup
  have hndb := dk.fs.nd
  have okt := dk.ok
  have hndt : (D.tick.files.map (·.1)).Nodup := by rw [dk.fl, fs_names]; exact hnn
  have hrok := rename_ok okt hndt hft hab hb hbok
  rw [hv, hR]
  refine Cd.skip ?_
  refine Post.then_ ?_
  refine Cd.seq ?_
  refine Cd.region ?_
  refine Seq.val (Runs.move rfl rfl) rfl rfl rfl ?_
  refine Seq.val (Runs.move rfl rfl) rfl rfl rfl ?_
  refine Seq.call (Enters.func rfl rfl rfl (run_enter Tryz.func93 (by kernel_rfl) rfl)) rfl rfl rfl (drop_d_any B g0 m D.tick l F c1 c3 b _ dk hb) ?_
  clear dk
  rintro e w3 ⟨rfl, dk, fw3⟩
  refine ⟨_, rfl, ?_⟩
  replace df := df.df fw3
  have k0 := dk.k
  have mp := dk.mp
  have fs := dk.fs
  have fl := dk.fl
  have e0 := dk.hB
  clear dk
  obtain ⟨-, k7⟩ := fs.blk (a, g7) (by unfold del; rw [List.mem_filter]; exact ⟨lk_mem hg7, by simpa using hab⟩)
  rw [show F (a, g7).2 = f from hF7] at k7
  refine Seq.nil ?_
  refine Post.weak (F' := [(0, _), (1, _), (2, _), (6, _), (7, _), (8, _), (23, _)]) ⟨rfl, rfl, rfl, rfl, rfl, rfl, rfl, trivial⟩ ?_
  refine Post.then_ ?_
  refine Cd.seq ?_
  refine Cd.region ?_
  refine Seq.val (Runs.move rfl rfl) rfl rfl rfl ?_
  refine Seq.val (Runs.nilCheck rfl rfl) rfl rfl rfl ?_
  refine Seq.val (Runs.fieldB 1 rfl rfl Tryz.underlying65 rfl (by kernel_rfl)) rfl rfl rfl ?_
  refine Seq.val (Runs.loadB rfl rfl Tryz.underlying63 rfl k0 rfl) rfl rfl rfl ?_
  refine Seq.val (Runs.move rfl rfl) rfl rfl rfl ?_
  refine Seq.mapDel0 rfl rfl rfl mp ha Tryz.underlying63 Tryz.underlying9 rfl rfl ?_
  intro wm pm
  replace df := df.putM hm pm
  replace k0 := k0.putM pm
  replace fs := (fs.putM pm).del a
  replace k7 := k7.putM pm
  replace mp := pm.mp
  clear pm
  refine Seq.nil ?_
  refine Post.weak (F' := [(0, _), (1, _), (2, _), (6, _), (7, _), (8, _), (23, _)]) ⟨rfl, rfl, rfl, rfl, rfl, rfl, rfl, trivial⟩ ?_
  refine Post.then_ ?_
  refine Cd.seq ?_
  refine Cd.region ?_
  refine Seq.val (Runs.move rfl rfl) rfl rfl rfl ?_
  refine Seq.val (Runs.nilCheck rfl rfl) rfl rfl rfl ?_
  refine Seq.val (Runs.fieldB 1 rfl rfl Tryz.underlying65 rfl (by kernel_rfl)) rfl rfl rfl ?_
  refine Seq.val (Runs.loadB rfl rfl Tryz.underlying63 rfl k0 rfl) rfl rfl rfl ?_
  refine Seq.val (Runs.move rfl rfl) rfl rfl rfl ?_
  refine Seq.val (Runs.move rfl rfl) rfl rfl rfl ?_
  refine Seq.mapUpd (b := g7) rfl rfl rfl rfl mp hb Tryz.underlying63 Tryz.underlying9 rfl rfl ?_
  intro wn pn
  replace df := df.putM hm pn
  replace k0 := k0.putM pn
  have fx := (fs.off g7).putM pn
  have hlk : lk (del (del l b) a) b = none := lk_none fun p hp => by
    have h1 := (List.mem_filter.1 hp).1
    have h2 := (List.mem_filter.1 h1).2
    simpa using h2
  have hno7 : ∀ p ∈ del (del l b) a, p.2 ≠ g7 := fun p hp e => by
    have h1 := (List.mem_filter.1 hp).2
    have h2 := (List.mem_filter.1 (List.mem_filter.1 hp).1).1
    have h3 := (mem_one hnn hndb (lk_mem hg7) h2).2 e
    simp [h3] at h1
  have hnn2 : ((del (del l b) a).map (·.1)).Nodup := (hnn.sublist (List.Sublist.map _ List.filter_sublist)).sublist (List.Sublist.map _ List.filter_sublist)
  replace k7 := k7.putM pn
  have fs2 : Fs wn B (upd (del (del l b) a) b g7) (setF F g7 f) := put_blk hnn2 fx hB7 k7 (.inr ⟨hlk, hno7⟩)
  replace mp := pn.mp
  clear pn fs
  refine Seq.nil ?_
  refine Post.weak (F' := [(0, _), (1, _), (2, _), (6, _), (7, _), (8, _), (23, _)]) ⟨rfl, rfl, rfl, rfl, rfl, rfl, rfl, trivial⟩ ?_
  refine Post.then_ ?_
  refine Cd.seq ?_
  refine Cd.region ?_
  refine Seq.val (Runs.assign rfl rfl) rfl rfl rfl ?_
  refine Seq.nil ?_
  refine Post.weak (F' := [(0, _), (1, _), (2, _), (6, _), (7, _), (8, _), (23, _)]) ⟨rfl, rfl, rfl, rfl, rfl, rfl, rfl, trivial⟩ ?_
  refine Post.then_ ?_
  refine Cd.ret ?_
  refine Post.end1 rfl rfl (.inl rfl) ?_
  have hfs : ({ (D.tick.wipe b).wipe a with files := ((D.tick.wipe b).wipe a).files ++ [(b, f)] } : Dk).files = fsOf (upd (del (del l b) a) b g7) (setF F g7 f) := by
    rw [put_fs f hnn2 fx.nd (.inr ⟨hlk, hno7⟩)]
    unfold putL
    rw [find_isSome, hlk, fsOf_del, ← fl]
    rfl
  refine ⟨rfl, ⟨m, _, _, c1, c3, ?_, mp, hm, fs2, hfs, e0, hrok.1⟩, df⟩
  unfold Dk.cs
  rw [hrok.2]
  exact k0
end Go.Proofs.YtdpipgidpkmolaaGreatDoor

namespace Go.Proofs.YtdpipgidpkmolaaGreatDoor
open Go.RowKit

/-- What is framed at the beginning: bytes, how many are taken, 0 whole, 1 short, 2 bad. -/
def openN (s : List Nat) : List Nat × Nat × Nat :=
  if s.length < 8 then ([], 0, 1)
  else if laidC (s.take 4) ≠ (s.drop 4).take 4 ∨ 131072 < valB (s.take 4) then ([], 0, 2)
  else if s.length < 12 + valB (s.take 4) then ([], 0, 1)
  else if laidC ((s.drop 8).take (valB (s.take 4))) ≠ (s.drop (8 + valB (s.take 4))).take 4 then ([], 0, 2)
  else ((s.drop 8).take (valB (s.take 4)), 12 + valB (s.take 4), 0)
end Go.Proofs.YtdpipgidpkmolaaGreatDoor

namespace Go.Proofs.YtdpipgidpkmolaaGreatDoor
open Go.RowKit

def allGo : Nat → List Nat → List (List Nat) × Nat × Nat
  | 0, _ => ([], 0, 0)
  | f + 1, s => if s = [] then ([], 0, 0) else if (openN s).2.2 ≠ 0 then ([], 0, (openN s).2.2) else ((openN s).1 :: (allGo f (s.drop (openN s).2.1)).1, (openN s).2.1 + (allGo f (s.drop (openN s).2.1)).2.1, (allGo f (s.drop (openN s).2.1)).2.2)
/-- All that is framed, one behind the other; where it ends; why. -/
def allN (s : List Nat) : List (List Nat) × Nat × Nat := allGo s.length s
end Go.Proofs.YtdpipgidpkmolaaGreatDoor

namespace Go.Proofs.YtdpipgidpkmolaaGreatDoor
open Go.RowKit

/-- A mark of a count. -/
def markN (n : Nat) : List Nat := beB 8 n ++ laidC (beB 8 n)
theorem markN_len (n : Nat) : (markN n).length = 12 := by unfold markN; rw [List.length_append, beB_len, laidC_len]
theorem markN_lt (n : Nat) : Byt (markN n) := Byt.app (beB_lt 8 _) (laidC_lt _)
theorem marked_any (n : Nat) (w : World) (hN : Nib w) (hn : n ≤ 9223372036854775807) : Calls Tryz.prog 152 #[.int .i64 (n : Int)] w fun e w' => e = .returned (.string (strOf (markN n))) ∧ Grow w w' := by
  have bel := Below.refl w.heap.size w
  have nb := hN
  refine Calls.start 16 Tryz.func152 rfl rfl rfl ?_
  refine Cd.seq ?_
  refine Cd.region ?_
  refine Seq.val (Runs.assign rfl rfl) rfl rfl rfl ?_
  refine Seq.nil ?_
  refine Post.weak (F' := [(0, _), (2, _)]) ⟨rfl, rfl, trivial⟩ ?_
  refine Post.then_ ?_
  refine Cd.seq ?_
  refine Cd.region ?_
  refine Seq.val (Runs.build rfl rfl (run_build_Wr0 _)) rfl rfl rfl ?_
  refine Seq.box rfl rfl rfl rfl rfl ?_
  intro g5 w1 n5
  have e5 := Nat.le_trans bel.size n5.ge
  replace bel := bel.step n5.below
  replace nb := nb.step n5.below
  have k5 := n5.blk
  refine Seq.val (Runs.assign rfl rfl) rfl rfl rfl ?_
  refine Seq.nil ?_
  refine Post.weak (F' := [(0, _), (2, _), (3, _)]) ⟨rfl, rfl, rfl, trivial⟩ ?_
  refine Post.then_ ?_
  refine Cd.seq ?_
  refine Cd.region ?_
  refine Seq.val (Runs.move rfl rfl) rfl rfl rfl ?_
  refine Seq.val (Runs.move rfl rfl) rfl rfl rfl ?_
  have wr : Wr w1 g5 g5 [] := ⟨Nat.le_refl _, fun d hd => (by cases hd), _, k5, Own.nil _ _ _ _⟩
  have wf := Wf.refl g5 w1
  have hg5 : g5 ≤ w1.heap.size := Nat.le_of_lt n5.lt
  have h3 : 2 < g5 := by have := hN.lt; omega
  refine Seq.val (Runs.convU (r := n) rfl rfl Tryz.underlying3 Tryz.underlying164 (by omega)) rfl rfl rfl ?_
  refine Seq.call (Enters.func rfl rfl rfl (run_enter Tryz.func200 (by kernel_rfl) rfl)) rfl rfl rfl (fixed8_any g5 g5 n [] _ wr (by omega) (by simp)) ?_
  clear wr
  rintro e w2 ⟨rfl, fw2, wr⟩
  refine ⟨_, rfl, ?_⟩
  replace nb := nb.wf fw2
  replace wf := wf.wf fw2
  refine Seq.nil ?_
  refine Post.weak (F' := [(0, _), (2, _), (3, _)]) ⟨rfl, rfl, rfl, trivial⟩ ?_
  refine Post.then_ ?_
  refine Cd.seq ?_
  refine Cd.region ?_
  refine Seq.val (Runs.move rfl rfl) rfl rfl rfl ?_
  refine Seq.val (Runs.move rfl rfl) rfl rfl rfl ?_
  rw [List.nil_append] at wr
  refine Seq.call (Enters.func rfl rfl rfl (run_enter Tryz.func74 (by kernel_rfl) rfl)) rfl rfl rfl (wbytes_any g5 g5 _ _ wr) ?_
  rintro e w7 ⟨rfl, hb7⟩
  refine ⟨_, rfl, ?_⟩
  replace nb := nb.step hb7
  replace wf := wf.step hb7
  replace wr := wr.step hb7
  refine Seq.call (Enters.func rfl rfl rfl (run_enter Tryz.func101 (by kernel_rfl) rfl)) rfl rfl rfl (laid_c_any _ _ nb (beB_lt 8 _) (by rw [beB_len]; omega)) ?_
  rintro e w8 ⟨rfl, hb8⟩
  refine ⟨_, rfl, ?_⟩
  replace nb := nb.step hb8
  replace wf := wf.step hb8
  replace wr := wr.step hb8
  refine Seq.call (Enters.func rfl rfl rfl (run_enter Tryz.func128 (by kernel_rfl) rfl)) rfl rfl rfl (raw_any g5 g5 (laidC (beB 8 n)) _ _ wr (laidC_lt _) (by rw [beB_len, laidC_len]; omega)) ?_
  clear wr
  rintro e w3 ⟨rfl, fw3, wr⟩
  refine ⟨_, rfl, ?_⟩
  replace nb := nb.wf fw3
  replace wf := wf.wf fw3
  refine Seq.call (Enters.func rfl rfl rfl (run_enter Tryz.func74 (by kernel_rfl) rfl)) rfl rfl rfl (wbytes_any g5 g5 _ _ wr) ?_
  rintro e w10 ⟨rfl, hb10⟩
  refine ⟨_, rfl, ?_⟩
  replace nb := nb.step hb10
  replace wf := wf.step hb10
  replace wr := wr.step hb10
  refine Seq.val (Runs.assign rfl rfl) rfl rfl rfl ?_
  refine Seq.nil ?_
  refine Post.weak (F' := [(0, _), (2, _), (3, _)]) ⟨rfl, rfl, rfl, trivial⟩ ?_
  refine Post.then_ ?_
  refine Cd.ret ?_
  refine Post.end1 rfl rfl (.inl rfl) ?_
  exact ⟨rfl, bel.trans ((wf.to hg5).mono e5)⟩
/-- One mark more. -/
def cntStep (a : Nat × Bool) (x : List Nat) : Nat × Bool :=
  if 4295098368 < valB (x.take 8) ∨ x ≠ markN (valB (x.take 8)) then a
  else if 4294967296 ≤ valB (x.take 8) then (if valB (x.take 8) - 4294967296 ≤ 131072 then max a.1 (valB (x.take 8) - 4294967296) else a.1, true)
  else (if valB (x.take 8) ≤ 131072 then max a.1 (valB (x.take 8)) else a.1, a.2)
def cntGo : Nat → Nat × Bool → List Nat → Nat × Bool
  | 0, a, _ => a
  | f + 1, a, s => if 12 ≤ s.length then cntGo f (cntStep a (s.take 12)) (s.drop 12) else a
/-- The greatest count of marks, and whether one seals. -/
def countN (s : List Nat) : Nat × Bool := cntGo s.length (0, false) s
end Go.Proofs.YtdpipgidpkmolaaGreatDoor

namespace Go.Proofs.YtdpipgidpkmolaaGreatDoor
open Go.RowKit Go.Maps Go.Sort

/-- What the tables hold. -/
structure Gv (w : World) : Prop where
  nib : Nib w
  pow : Lib.TabIs Tryz.prog w "internal/strconv.uint64pow10" .u64 Lib.pow10Tab
  mx : ∃ m : Int, w.cell? ⟨0, 0, none⟩ = some (.int .i64 m)
theorem glob_pow : Tryz.prog.globalNamed "internal/strconv.uint64pow10" = some 1 := by kernel_rfl
theorem Gv.lt {w : World} (h : Gv w) : 6 < w.heap.size ∨ w.heap.size ≤ 6 := by omega
theorem tab_keep {w w' : World} (h : Lib.TabIs Tryz.prog w "internal/strconv.uint64pow10" .u64 Lib.pow10Tab) (e : w'.heap[1]? = w.heap[1]?) : Lib.TabIs Tryz.prog w' "internal/strconv.uint64pow10" .u64 Lib.pow10Tab := by
  unfold Lib.TabIs World.var? at h ⊢
  rw [glob_pow] at h ⊢
  simp only [Option.bind_some] at h ⊢
  rw [e]
  exact h
theorem tab_lt {w : World} (h : Lib.TabIs Tryz.prog w "internal/strconv.uint64pow10" .u64 Lib.pow10Tab) : 1 < w.heap.size := by
  unfold Lib.TabIs World.var? at h
  rw [glob_pow] at h
  simp only [Option.bind_some] at h
  cases e : w.heap[1]? with
  | none => rw [e] at h; cases h
  | some o => exact (Array.getElem?_eq_some_iff.1 e).1
theorem Gv.top {w : World} (h : Gv w) : max 2 1 < w.heap.size := by
  have h1 := tab_lt h.pow
  have h2 := World.block_lt_of_cell? w _ (h.nib.cell 0 (by omega))
  have h3 : 2 < w.heap.size := h2
  omega
theorem Gv.below {w w' : World} {B : Nat} (h : Gv w) (hb : Below B w w') (hB : max 2 1 < B) : Gv w' :=
  ⟨h.nib.below hb (by omega), tab_keep h.pow (hb.block _ (by omega)), by obtain ⟨m, hm⟩ := h.mx; exact ⟨m, (hb.cell (show 0 < B by omega)).trans hm⟩⟩
theorem Gv.step {w w' : World} (h : Gv w) (hb : Below w.heap.size w w') : Gv w' := h.below hb (h.top)
theorem Gv.df {w w' : World} {B : Nat} (h : Gv w) (f : Df B w w') (hB : max 2 1 < B := by omega) : Gv w' := h.below f.below (by have := h.top; omega)
theorem Gv.put {w w' : World} {B g : Nat} {T : TypeId} {cur cs : Array Value} (h : Gv w) (k : Blk w g T cur) (p : Put w w' g T cs) (e : B ≤ g) (hB : max 2 1 < B := by omega) : Gv w' := h.below (p.below e k.lt) hB
/-- A number's decimal digits. -/
def decN (u : Nat) : List Nat := if h : u < 10 then [48 + u] else decN (u / 10) ++ [48 + u % 10]
termination_by u
decreasing_by omega
theorem decN_u8 (u : Nat) : u8s (decN u) = Lib.decDigits u := by
  induction u using Nat.strongRecOn with
  | ind u ih =>
    rw [decN, Lib.decDigits]
    split
    · rfl
    · rename_i h
      rw [← ih (u / 10) (by omega)]
      simp [u8s]
theorem decN_lt (u : Nat) : ∀ c ∈ decN u, 48 ≤ c ∧ c < 58 := by
  induction u using Nat.strongRecOn with
  | ind u ih =>
    rw [decN]
    split
    · intro c hc; simp at hc; omega
    · rename_i h
      intro c hc
      rcases List.mem_append.1 hc with hc | hc
      · exact ih (u / 10) (by omega) c hc
      · simp at hc; omega
theorem decN_len : ∀ (k u : Nat), u < 10 ^ (k + 1) → (decN u).length ≤ k + 1
  | 0, u, h => by rw [decN, dif_pos (by simpa using h)]; simp
  | k + 1, u, h => by
    rw [decN]
    split
    · simp
    · rw [List.length_append, List.length_singleton]
      have := decN_len k (u / 10) (by rw [Nat.pow_succ] at h; omega)
      omega
theorem str_u8 {s : List Nat} {l : List UInt8} (h : u8s s = l) : (⟨l.toArray⟩ : ByteArray) = strOf s := by rw [← h]; rfl
theorem below_growN (w : World) (k : Nat) (os : Array Obj) : Below w.heap.size w (grow (w.drewN k) os) := ⟨rfl, rfl, rfl, by simp [grow], fun j hj => by simp only [grow]; exact Array.getElem?_append_left hj⟩
theorem itoa_any (n : Nat) (w : World) (g : Gv w) (hn : n ≤ 9223372036854775807) : Calls Tryz.prog 44 #[.int .i64 (n : Int)] w fun e w' => e = .returned (.string (strOf (decN n))) ∧ Grow w w' := by
  refine (Any.strconv_Itoa shItoa (n : Int) (by omega) (by omega) w g.pow).mono ?_
  rintro e w' ⟨rfl, k, os, rfl⟩
  refine ⟨?_, below_growN _ _ _⟩
  rw [Lib.itoa_nonneg, str_u8 (decN_u8 n)]
theorem rep_u8 (c : Nat) : u8s (List.replicate c 48) = Lib.repeatL [48] c := by
  induction c with
  | zero => rfl
  | succ c ih => rw [List.replicate_succ, Lib.repeatL, ← ih]; rfl
theorem repeat0_any (c : Nat) (w : World) (hc : c ≤ 1000) : Calls Tryz.prog 45 #[.string { data := #[48] }, .int .i64 (c : Int)] w fun e w' => e = .returned (.string (strOf (List.replicate c 48))) ∧ Grow w w' := by
  refine (Any.strings_Repeat shRep shRepX { data := #[48] } c w (by omega) (by show 1 * c ≤ _; omega)).mono ?_
  rintro e w' ⟨rfl, hb⟩
  exact ⟨by rw [← str_u8 (rep_u8 c)], hb⟩
theorem repeatZ_any (z : Int) (c : Nat) (w : World) (h : z = (c : Int)) (hc : c ≤ 1000) : Calls Tryz.prog 45 #[.string { data := #[48] }, .int .i64 z] w fun e w' => e = .returned (.string (strOf (List.replicate c 48))) ∧ Grow w w' := by
  subst h
  exact repeat0_any c w hc
/-- A segment's number, in six digits. -/
def dig6 (n : Nat) : List Nat := List.replicate (6 - (decN n).length) 48 ++ decN n
def fileN (nm : List Nat) (n : Nat) (kind : List Nat) : List Nat := nm ++ [46] ++ dig6 n ++ kind
/-- A log's own block. -/
def wlCs (gd : Nat) (nm : List Nat) (num count size : Int) (broken : Bool) : Array Value := #[.pointer (some ⟨gd, 0, none⟩), .string (strOf nm), .int .i64 num, .int .i64 count, .int .i64 size, .bool broken]
theorem file_any (g0 gd n : Nat) (nm kind : List Nat) (num count size : Int) (broken : Bool) (w : World) (gv : Gv w) (k0 : Blk w g0 111 (wlCs gd nm num count size broken)) (hn : n ≤ 999999) (hnl : nm.length ≤ 1000) (hkl : kind.length ≤ 1000) :
    Calls Tryz.prog 106 #[.pointer (some ⟨g0, 0, none⟩), .int .i64 (n : Int), .string (strOf kind)] w fun e w' => e = .returned (.string (strOf (fileN nm n kind))) ∧ Grow w w' := by
  have bel := Below.refl w.heap.size w
  have hdl := decN_len 5 n (by omega)
  refine Calls.start 25 Tryz.func106 rfl rfl rfl ?_
  refine Cd.seq ?_
  refine Cd.region ?_
  refine Seq.val (Runs.assign rfl rfl) rfl rfl rfl ?_
  refine Seq.nil ?_
  refine Post.weak (F' := [(0, _), (1, _), (2, _), (6, _)]) ⟨rfl, rfl, rfl, rfl, trivial⟩ ?_
  refine Post.then_ ?_
  refine Cd.seq ?_
  refine Cd.region ?_
  refine Seq.val (Runs.move rfl rfl) rfl rfl rfl ?_
  refine Seq.call (Enters.func rfl rfl rfl (run_enter Tryz.func44 (by kernel_rfl) rfl)) rfl rfl rfl (itoa_any n _ gv (by omega)) ?_
  rintro e w5 ⟨rfl, hb5⟩
  refine ⟨_, rfl, ?_⟩
  replace bel := bel.step hb5
  replace k0 := k0.step hb5
  refine Seq.val (Runs.assign rfl rfl) rfl rfl rfl ?_
  refine Seq.nil ?_
  refine Post.weak (F' := [(0, _), (1, _), (2, _), (6, _), (7, _)]) ⟨rfl, rfl, rfl, rfl, rfl, trivial⟩ ?_
  refine Post.then_ ?_
  refine Cd.seq ?_
  refine Cd.draw 15 (by kernel_rfl) [] (.inl rfl) rfl Grow Grow.refl (fun _ _ _ => Grow.trans) ?_
  intro w1 hw1 zw1
  replace bel := bel.step hw1
  replace k0 := k0.step hw1
  have zbel := bel.size
  have zlt := k0.lt
  refine Dr.val Grow.refl rfl (fun w hG => Runs.move rfl rfl) rfl ?_
  refine Dr.val Grow.refl rfl (fun w hG => Runs.nilCheck rfl rfl) rfl ?_
  refine Dr.val Grow.refl rfl (fun w hG => Runs.fieldB 1 rfl rfl Tryz.underlying111 rfl (by kernel_rfl)) rfl ?_
  refine Dr.val Grow.refl rfl (fun w hG => Runs.loadB rfl rfl Tryz.underlying9 rfl (k0.step hG) rfl) rfl ?_
  refine Dr.val Grow.refl rfl (fun w hG => Runs.addL (b := [46]) rfl rfl rfl (show nm.length + 1 ≤ _ by omega)) rfl ?_
  refine Dr.val Grow.refl rfl (fun w hG => Runs.move rfl rfl) rfl ?_
  refine Dr.val Grow.refl rfl (fun w hG => Runs.lenL rfl rfl Tryz.underlying9) rfl ?_
  refine Dr.val Grow.refl rfl (fun w hG => Runs.subI rfl rfl rfl (by omega) (by omega)) rfl ?_
  refine Dr.val Grow.refl rfl (fun w hG => Runs.max2 rfl rfl rfl) rfl ?_
  refine Dr.callV rfl (fun w => Enters.func rfl rfl rfl (run_enter Tryz.func45 (by kernel_rfl) rfl)) rfl (fun w hG => repeatZ_any _ (6 - (decN n).length) w (by omega) (by omega)) ?_
  refine Dr.val Grow.refl rfl (fun w hG => Runs.addL rfl rfl rfl (by simp only [List.length_append, List.length_replicate, List.length_singleton]; omega)) rfl ?_
  refine Dr.val Grow.refl rfl (fun w hG => Runs.move rfl rfl) rfl ?_
  refine Dr.val Grow.refl rfl (fun w hG => Runs.addL rfl rfl rfl (by simp only [List.length_append, List.length_replicate, List.length_singleton]; omega)) rfl ?_
  refine Dr.val Grow.refl rfl (fun w hG => Runs.move rfl rfl) rfl ?_
  refine Dr.val Grow.refl rfl (fun w hG => Runs.addL rfl rfl rfl (by simp only [List.length_append, List.length_replicate, List.length_singleton]; omega)) rfl ?_
  refine FinX.done (F' := [(0, _), (1, _), (2, _), (6, _), (7, _), (24, _)]) rfl ⟨rfl, rfl, rfl, rfl, rfl, rfl, trivial⟩ ?_
  intro w2 hw2 fw2
  replace bel := bel.step hw2
  replace k0 := k0.step hw2
  refine Seq.val (Runs.assign rfl rfl) rfl rfl rfl ?_
  refine Seq.nil ?_
  refine Post.weak (F' := [(0, _), (1, _), (2, _), (6, _), (7, _)]) ⟨rfl, rfl, rfl, rfl, rfl, trivial⟩ ?_
  refine Post.then_ ?_
  refine Cd.ret ?_
  refine Post.end1 rfl rfl (.inl rfl) ?_
  refine ⟨?_, bel⟩
  have e : nm ++ [46] ++ List.replicate (6 - (decN n).length) 48 ++ decN n ++ kind = fileN nm n kind := by unfold fileN dig6; simp
  rw [← e]
end Go.Proofs.YtdpipgidpkmolaaGreatDoor

namespace Go.Proofs.YtdpipgidpkmolaaGreatDoor
open Go.RowKit Go.Maps Go.Sort

theorem dig6_lt (n : Nat) : ∀ c ∈ dig6 n, 48 ≤ c ∧ c < 58 := by
  intro c hc
  unfold dig6 at hc
  rcases List.mem_append.1 hc with hc | hc
  · have := List.eq_of_mem_replicate hc; omega
  · exact decN_lt n c hc
theorem dig6_len {n : Nat} (h : n ≤ 999999) : (dig6 n).length = 6 := by
  have := decN_len 5 n (by omega)
  unfold dig6
  rw [List.length_append, List.length_replicate]
  omega
theorem decFrom_app : ∀ (a b : List UInt8) (acc : Nat), Lib.decFrom acc (a ++ b) = (Lib.decFrom acc a).bind fun m => Lib.decFrom m b
  | [], b, acc => rfl
  | x :: a, b, acc => by
    rw [List.cons_append, Lib.decFrom, Lib.decFrom]
    cases Lib.digitVal x with
    | none => rfl
    | some d => exact decFrom_app a b _
theorem digitVal_ok {d : Nat} (h : d < 10) : Lib.digitVal (UInt8.ofNat (48 + d)) = some d := by
  have e : (UInt8.ofNat (48 + d)).toNat = 48 + d := ofNat_toNat (by omega)
  unfold Lib.digitVal
  rw [e, if_pos (by omega)]
  congr 1
  omega
theorem decFrom_dec : ∀ n, Lib.decFrom 0 (u8s (decN n)) = some n := by
  intro n
  induction n using Nat.strongRecOn with
  | ind n ih =>
    rw [decN]
    split
    · rename_i h
      show Lib.decFrom 0 [UInt8.ofNat (48 + n)] = _
      rw [Lib.decFrom, digitVal_ok h]
      simp [Lib.decFrom]
    · rename_i h
      have e : u8s (decN (n / 10) ++ [48 + n % 10]) = u8s (decN (n / 10)) ++ [UInt8.ofNat (48 + n % 10)] := by simp [u8s]
      rw [e, decFrom_app, ih (n / 10) (by omega)]
      simp only [Option.bind_some]
      rw [Lib.decFrom, digitVal_ok (by omega)]
      simp only [Lib.decFrom, Option.some.injEq]
      omega
theorem decFrom_zeros : ∀ (k : Nat) (l : List UInt8), Lib.decFrom 0 (u8s (List.replicate k 48) ++ l) = Lib.decFrom 0 l
  | 0, l => rfl
  | k + 1, l => by
    have e : u8s (List.replicate (k + 1) 48) ++ l = UInt8.ofNat (48 + 0) :: (u8s (List.replicate k 48) ++ l) := by rw [List.replicate_succ]; rfl
    rw [e, Lib.decFrom, digitVal_ok (by omega)]
    exact decFrom_zeros k l
theorem atoi_dig6 {n : Nat} (h : n ≤ 999999) : Lib.atoi (u8s (dig6 n)) = some (n : Int) := by
  have hl := dig6_len h
  have hd := dig6_lt n
  have hdec : Lib.decNat (u8s (dig6 n)) = some n := by
    unfold Lib.decNat
    have hne : (u8s (dig6 n)).isEmpty = false := by
      cases e : dig6 n with
      | nil => rw [e] at hl; cases hl
      | cons x r => rfl
    rw [hne]
    simp only [Bool.false_eq_true, if_false]
    unfold dig6
    have e : u8s (List.replicate (6 - (decN n).length) 48 ++ decN n) = u8s (List.replicate (6 - (decN n).length) 48) ++ u8s (decN n) := by simp [u8s]
    rw [e, decFrom_zeros, decFrom_dec]
  cases e : dig6 n with
  | nil => rw [e] at hl; cases hl
  | cons x r =>
    have hx := hd x (by rw [e]; exact List.mem_cons_self)
    rw [e] at hdec
    have e2 : u8s (x :: r) = UInt8.ofNat x :: u8s r := rfl
    rw [e2] at hdec ⊢
    have hx2 : (UInt8.ofNat x).toNat = x := ofNat_toNat (by omega)
    have n1 : (UInt8.ofNat x == 45) = false := by
      rw [beq_eq_false_iff_ne]
      intro h3
      rw [h3] at hx2
      have : (45 : UInt8).toNat = 45 := rfl
      omega
    have n2 : (UInt8.ofNat x == 43) = false := by
      rw [beq_eq_false_iff_ne]
      intro h3
      rw [h3] at hx2
      have : (43 : UInt8).toNat = 43 := rfl
      omega
    show (if (UInt8.ofNat x == 45) = true then (Lib.decNat (u8s r)).map (fun (m : Nat) => -(m : Int)) else if (UInt8.ofNat x == 43) = true then (Lib.decNat (u8s r)).map (fun (m : Nat) => (m : Int)) else (Lib.decNat (UInt8.ofNat x :: u8s r)).map (fun (m : Nat) => (m : Int))) = _
    rw [n1, n2, hdec]
    rfl
theorem strOf_u8 (s : List Nat) : (strOf s).data.toList = u8s s := strOf_data s
theorem below_bytesW (w : World) (e : TypeId) (s : ByteArray) : Below w.heap.size w (Lib.bytesWorld w e s) := ⟨rfl, rfl, rfl, by rw [Lib.bytesWorld_size]; omega, fun j hj => Lib.bytesWorld_at_old w e s j hj⟩
theorem atoi_any (n : Nat) (w : World) (h : n ≤ 999999) : Calls Tryz.prog 105 #[.string (strOf (dig6 n))] w fun e w' => e = .returned (.tuple #[.int .i64 (n : Int), .nilIface]) ∧ Grow w w' := by
  refine (Any.strconv_Atoi shAtoi (strOf (dig6 n)) (n : Int) (by rw [strOf_size, dig6_len h]; omega) (by rw [strOf_u8]; exact atoi_dig6 h) w).mono ?_
  rintro e w' ⟨rfl, t, rfl⟩
  exact ⟨rfl, below_bytesW _ _ _⟩
theorem cutP_any (nm r : List Nat) (w : World) : Calls Tryz.prog 104 #[.string (strOf (nm ++ r)), .string (strOf nm)] w fun e w' => e = .returned (.tuple #[.string (strOf r), .bool true]) ∧ Grow w w' := by
  refine (Any.strings_CutPrefix shCutP (strOf (nm ++ r)) (strOf nm) w).mono ?_
  rintro e w' ⟨rfl, rfl⟩
  have e1 : u8s (nm ++ r) = u8s nm ++ u8s r := by simp [u8s]
  have h1 : Lib.hasPrefix (u8s nm ++ u8s r) (u8s nm) = true := by
    unfold Lib.hasPrefix
    rw [List.isPrefixOf_iff_prefix]
    exact List.prefix_append _ _
  rw [strOf_u8, strOf_u8, e1, h1]
  refine ⟨?_, Below.refl _ _⟩
  unfold Lib.trimPrefix
  rw [h1, if_pos rfl, List.drop_left]
  rfl
theorem cut_any (a b : List Nat) (w : World) (g : Gv w) (ha : ∀ c ∈ a, c < 46 ∨ 46 < c) (hb : Byt a) (hl : a.length + b.length ≤ 1000000) : Calls Tryz.prog 47 #[.string (strOf (a ++ 46 :: b)), .string { data := #[46] }] w fun e w' => e = .returned (.tuple #[.string (strOf a), .string (strOf b), .bool true]) ∧ Grow w w' := by
  obtain ⟨m, hm⟩ := g.mx
  refine (Any.strings_Cut shCut (strOf (a ++ 46 :: b)) { data := #[46] } m w (by rw [strOf_size]; simp only [List.length_append, List.length_cons]; omega) hm).mono ?_
  rintro e w' ⟨rfl, k, rfl⟩
  have e1 : u8s (a ++ 46 :: b) = u8s a ++ 46 :: u8s b := by simp [u8s]
  have hi : Lib.index (u8s a ++ 46 :: u8s b) [46] = ((u8s a).length : Int) := by
    refine Lib.index_first (by simp) ?_ ?_
    · unfold Lib.occAt
      rw [List.drop_left]
      rfl
    · intro j hj
      unfold Lib.occAt
      have hja : j < a.length := by simpa [u8s] using hj
      rw [List.drop_append_of_le_length (by omega)]
      have hc : (u8s a)[j]? = some (UInt8.ofNat a[j]) := by simp [u8s, hja]
      rw [drop_head hc, List.cons_append]
      have hne : (46 : UInt8) ≠ UInt8.ofNat a[j] := fun e => by
        have h1 := ha a[j] (List.getElem_mem hja)
        have h2 : (UInt8.ofNat a[j]).toNat = a[j] := ofNat_toNat (hb _ (List.getElem_mem hja))
        rw [← e] at h2
        have : (46 : UInt8).toNat = 46 := rfl
        omega
      simp [List.isPrefixOf, hne]
  have hcut : Lib.cut (u8s a ++ 46 :: u8s b) [46] = (u8s a, u8s b, true) := by
    unfold Lib.cut
    rw [hi, if_pos (by omega), Int.toNat_natCast, List.take_left]
    have : (u8s a ++ 46 :: u8s b).drop ((u8s a).length + [(46 : UInt8)].length) = u8s b := by
      rw [← List.drop_drop, List.drop_left]
      rfl
    rw [this]
  have e2 : (({ data := #[46] } : ByteArray)).data.toList = [46] := rfl
  rw [strOf_u8, e1, e2, hcut]
  exact ⟨rfl, ⟨rfl, rfl, rfl, Nat.le_refl _, fun _ _ => rfl⟩⟩
end Go.Proofs.YtdpipgidpkmolaaGreatDoor

namespace Go.Proofs.YtdpipgidpkmolaaGreatDoor
open Go.RowKit Go.Maps Go.Sort

/-- Whether a log's name may be. -/
def rightN (nm : List Nat) : Bool := nm.all (fun c => decide (97 ≤ c) && decide (c ≤ 122)) && (decide (nm ≠ []) && decide (nm.length ≤ 8))
theorem right_w_any (nm : List Nat) (w : World) (hs : Byt nm) (hl : nm.length ≤ 100000000) : Calls Tryz.prog 54 #[.string (strOf nm)] w fun e w' => e = .returned (.bool (rightN nm)) ∧ Grow w w' := by
  have bel := Below.refl w.heap.size w
  refine Calls.start 26 Tryz.func54 rfl rfl rfl ?_
  refine Cd.seq ?_
  refine Cd.region ?_
  refine Seq.val (Runs.assign rfl rfl) rfl rfl rfl ?_
  refine Seq.nil ?_
  refine Post.weak (F' := [(0, _), (2, _)]) ⟨rfl, rfl, trivial⟩ ?_
  refine Post.then_ ?_
  refine Cd.seq ?_
  refine Cd.seq ?_
  refine Cd.region ?_
  refine Seq.val (Runs.move rfl rfl) rfl rfl rfl ?_
  refine Seq.convSB rfl rfl Tryz.underlying9 Tryz.underlying103 Tryz.underlying5 hs rfl rfl rfl ?_
  intro g6 c w2 hc hn
  replace bel := bel.step hn.below
  have hrd := hn.reads
  have hb2 := Below.refl w2.heap.size w2
  clear hn
  obtain ⟨A, hA⟩ : ∃ A, A = some (⟨g6, 0, none⟩ : Addr) := ⟨_, rfl⟩
  rw [← hA] at hrd ⊢
  clear hA
  have bel0 := bel
  clear bel
  have bel := hb2
  refine Seq.val (Runs.len rfl rfl Tryz.underlying103) rfl rfl rfl ?_
  refine Seq.val (Runs.move rfl rfl) rfl rfl rfl ?_
  refine Seq.nil ?_
  refine Post.weak (F' := [(0, _), (2, _), (6, _), (7, _), (8, _)]) ⟨rfl, rfl, rfl, rfl, rfl, trivial⟩ ?_
  refine Post.then_ ?_
  refine Cd.block ?_
  refine Cd.loop (σ := Nat) (fun j => [(0, .string (strOf nm)), (6, .slice A nm.length c), (7, .int .i64 (nm.length : Int)), (8, .int .i64 (j : Int))]) (fun j wr => j ≤ nm.length ∧ (∀ x ∈ nm.take j, 97 ≤ x ∧ x ≤ 122) ∧ Below w2.heap.size w2 wr) (fun j => nm.length - j) 0 ⟨Nat.zero_le _, by simp, bel⟩ ⟨rfl, rfl, rfl, rfl, trivial⟩ ?_
  clear bel
  rintro j wr ⟨hj, hall, bel⟩
  refine Cd.seq ?_
  refine Cd.region ?_
  refine Seq.val (Runs.lss rfl rfl rfl) rfl rfl rfl ?_
  refine Seq.nil ?_
  refine Post.weak (F' := [(0, _), (6, _), (7, _), (8, _), (9, _)]) ⟨rfl, rfl, rfl, rfl, rfl, trivial⟩ ?_
  refine Post.then_ ?_
  refine Cd.seq ?_
  refine Cd.condD rfl (fun hc => ?_) (fun hc => ?_)
  · obtain ⟨b, hb⟩ : ∃ b, nm[j]? = some b := ⟨_, List.getElem?_eq_getElem (by omega)⟩
    have hb256 := hs b (List.mem_of_getElem? hb)
    obtain ⟨ad, rfl, hbd, hcl⟩ := hrd.2 (by omega)
    have hcd := (bel.cell (p := ad.add j) (by rw [block_of_add]; exact hbd)).trans (hcl j (.int .u8 (b : Int)) (by rw [get_Bt, hb]; rfl))
    refine Cd.skip ?_
    refine Post.then_ ?_
    refine Cd.seq ?_
    refine Cd.block ?_
    refine Cd.seq ?_
    refine Cd.region ?_
    refine Seq.val (Runs.index1 rfl rfl rfl Tryz.underlying103 (by kernel_rfl) (j := j) rfl (by omega)) rfl rfl rfl ?_
    refine Seq.val (Runs.load1 rfl rfl Tryz.underlying5 rfl hcd) rfl rfl rfl ?_
    refine Seq.val (Runs.assign rfl rfl) rfl rfl rfl ?_
    refine Seq.nil ?_
    refine Post.weak (F' := [(0, _), (4, _), (6, _), (7, _), (8, _), (9, _)]) ⟨rfl, rfl, rfl, rfl, rfl, rfl, trivial⟩ ?_
    refine Post.then_ ?_
    refine Cd.seq ?_
    refine Cd.region ?_
    refine Seq.val (Runs.move rfl rfl) rfl rfl rfl ?_
    refine Seq.val (Runs.lss rfl rfl rfl) rfl rfl rfl ?_
    refine Seq.val (Runs.move rfl rfl) rfl rfl rfl ?_
    refine SeqC.start ?_
    refine SeqC.open rfl rfl rfl rfl rfl rfl rfl (fun hcx => Runs.move rfl rfl) ?_
    refine SeqC.next rfl rfl rfl rfl rfl rfl rfl (fun hcx => Runs.gtr rfl rfl rfl) ?_
    refine SeqC.or rfl rfl rfl rfl rfl rfl rfl ?_
    refine Seq.nil ?_
    refine Post.weak (F' := [(0, _), (4, _), (6, _), (7, _), (8, _), (9, _), (17, _)]) ⟨rfl, rfl, rfl, rfl, rfl, rfl, rfl, trivial⟩ ?_
    refine Post.then_ ?_
    refine Cd.cond rfl (fun h => ?_) (fun h => ?_)
    · have h1 : b < 97 ∨ 122 < b := by
        have h' : (decide ((b : Int) < 97) || decide ((122 : Int) < (b : Int))) = true := h
        rw [Bool.or_eq_true, decide_eq_true_eq, decide_eq_true_eq] at h'
        omega
      have hR : rightN nm = false := by
        unfold rightN
        rw [Bool.and_eq_false_iff]
        left
        rw [List.all_eq_false]
        refine ⟨b, List.mem_of_getElem? hb, ?_⟩
        simp only [Bool.and_eq_true, decide_eq_true_eq]
        omega
      rw [hR]
      refine Cd.seq ?_
      refine Cd.region ?_
      refine Seq.val (Runs.assign rfl rfl) rfl rfl rfl ?_
      refine Seq.nil ?_
      refine Post.weak (F' := [(0, _), (2, _), (4, _), (6, _), (7, _), (8, _), (9, _), (17, _)]) ⟨rfl, rfl, rfl, rfl, rfl, rfl, rfl, rfl, trivial⟩ ?_
      refine Post.then_ ?_
      refine Cd.ret ?_
      refine Post.block_ret ?_
      refine Post.then_ret ?_
      refine Post.round_ret ?_
      refine Post.block_ret ?_
      refine Post.then_ret ?_
      refine Post.end1 rfl rfl (.inl rfl) ?_
      exact ⟨rfl, bel0.step bel⟩
    · have h1 : 97 ≤ b ∧ b ≤ 122 := by
        have h' : (decide ((b : Int) < 97) || decide ((122 : Int) < (b : Int))) = false := h
        rw [Bool.or_eq_false_iff, decide_eq_false_iff_not, decide_eq_false_iff_not] at h'
        omega
      refine Cd.skip ?_
      refine Post.block_normal ?_
      refine Post.then_ ?_
      refine Cd.region ?_
      refine Seq.val (Runs.addI rfl rfl rfl (by omega) (by omega)) rfl rfl rfl ?_
      refine Seq.val (Runs.move rfl rfl) rfl rfl rfl ?_
      refine Seq.nil ?_
      refine Post.weak (F' := [(0, _), (4, _), (6, _), (7, _), (8, _), (9, _), (17, _)]) ⟨rfl, rfl, rfl, rfl, rfl, rfl, rfl, trivial⟩ ?_
      refine Post.round (j + 1) ⟨rfl, rfl, rfl, int_at (by omega), trivial⟩ ⟨by omega, fun x hx => ?_, bel⟩ (by omega)
      rw [take_last hb] at hx
      rcases List.mem_append.1 hx with hx | hx
      · exact hall x hx
      · simp at hx; subst hx; exact h1
  · have hR : rightN nm = (decide (nm ≠ []) && decide ((nm.length : Int) ≤ 8)) := by
      unfold rightN
      rw [List.take_of_length_le (by omega)] at hall
      have : nm.all (fun c => decide (97 ≤ c) && decide (c ≤ 122)) = true := by
        rw [List.all_eq_true]
        intro x hx
        have := hall x hx
        simp [this]
      rw [this, Bool.true_and]
      congr 1
      by_cases h8 : nm.length ≤ 8
      · rw [decide_eq_true h8, decide_eq_true (by omega)]
      · rw [decide_eq_false h8, decide_eq_false (by omega)]
    rw [hR]
    refine Cd.exit ?_
    refine Post.then_exit ?_
    refine Post.round_exit ?_
    refine Post.block_exit ?_
    refine Post.then_ ?_
    refine Cd.seq ?_
    refine Cd.region ?_
    refine Seq.val (Runs.move rfl rfl) rfl rfl rfl ?_
    refine Seq.val (Runs.neqL (b := []) rfl rfl rfl hs (by simp)) rfl rfl rfl ?_
    refine Seq.val (Runs.move rfl rfl) rfl rfl rfl ?_
    refine SeqC.start ?_
    refine SeqC.open rfl rfl rfl rfl rfl rfl rfl (fun hcx => Runs.move rfl rfl) ?_
    refine SeqC.next rfl rfl rfl rfl rfl rfl rfl (fun hcx => Runs.lenL rfl rfl Tryz.underlying9) ?_
    refine SeqC.next rfl rfl rfl rfl rfl rfl rfl (fun hcx => Runs.leq rfl rfl rfl) ?_
    refine SeqC.and rfl rfl rfl rfl rfl rfl rfl ?_
    refine Seq.val (Runs.assign rfl rfl) rfl rfl rfl ?_
    refine Seq.nil ?_
    refine Post.weak (F' := [(0, _), (2, _), (6, _), (7, _), (8, _), (9, _)]) ⟨rfl, rfl, rfl, rfl, rfl, rfl, trivial⟩ ?_
    refine Post.then_ ?_
    refine Cd.ret ?_
    refine Post.end1 rfl rfl (.inl rfl) ?_
    exact ⟨rfl, bel0.step bel⟩
end Go.Proofs.YtdpipgidpkmolaaGreatDoor

namespace Go.Proofs.YtdpipgidpkmolaaGreatDoor
open Go.RowKit Go.Maps Go.Sort

def logB : List Nat := [108, 111, 103]
def ackB : List Nat := [97, 99, 107]
def newB : List Nat := [110, 101, 119]
/-- Names of files that are a log's own. -/
def OwnNm (nm : List Nat) (s : List Nat) : Prop := ∃ n k, n ≤ 999999 ∧ (k = logB ∨ k = ackB ∨ k = newB) ∧ s = fileN nm n (46 :: k)
theorem zero_int : zeroIs Tryz.prog 3 = some (some (.int .i64 0)) := by kernel_rfl
/-- The numbers that names tell. -/
def NumIn (nm : List Nat) (names : List (List Nat)) (n : Nat) : Prop := n ≤ 999999 ∧ (fileN nm n (46 :: logB) ∈ names ∨ fileN nm n (46 :: ackB) ∈ names)
theorem ones_nat (l : List Nat) : ∀ u ∈ l.map (fun (n : Nat) => Value.int .i64 (n : Int)), u.oneCell' = true := fun u hu => by
  obtain ⟨z, -, rfl⟩ := List.mem_map.1 hu
  rfl
theorem dig6_inj {m n : Nat} (hm : m ≤ 999999) (hn : n ≤ 999999) (h : dig6 m = dig6 n) : m = n := by
  have h1 := atoi_dig6 hm
  rw [h, atoi_dig6 hn] at h1
  injection h1 with h1
  omega
theorem fileN_inj {nm : List Nat} {m n : Nat} {a b : List Nat} (hm : m ≤ 999999) (hn : n ≤ 999999) (h : fileN nm m a = fileN nm n b) : m = n ∧ a = b := by
  unfold fileN at h
  rw [List.append_assoc, List.append_assoc, List.append_assoc, List.append_assoc] at h
  have h1 := List.append_cancel_left h
  have h2 := List.append_cancel_left h1
  have h3 := List.append_inj h2 (by rw [dig6_len hm, dig6_len hn])
  exact ⟨dig6_inj hm hn h3.1, h3.2⟩
theorem numIn_more {nm : List Nat} {l : List (List Nat)} {n : Nat} {k : List Nat} (hn : n ≤ 999999) (m : Nat) : NumIn nm (l ++ [fileN nm n (46 :: k)]) m ↔ NumIn nm l m ∨ (m = n ∧ (k = logB ∨ k = ackB)) := by
  unfold NumIn
  simp only [List.mem_append, List.mem_singleton]
  constructor
  · rintro ⟨h1, (h2 | h2) | (h2 | h2)⟩
    · exact .inl ⟨h1, .inl h2⟩
    · obtain ⟨e1, e2⟩ := fileN_inj h1 hn h2
      exact .inr ⟨e1, .inl (by injection e2 with _ e2; exact e2.symm)⟩
    · exact .inl ⟨h1, .inr h2⟩
    · obtain ⟨e1, e2⟩ := fileN_inj h1 hn h2
      exact .inr ⟨e1, .inr (by injection e2 with _ e2; exact e2.symm)⟩
  · rintro (⟨h1, h2 | h2⟩ | ⟨rfl, rfl | rfl⟩)
    · exact ⟨h1, .inl (.inl h2)⟩
    · exact ⟨h1, .inr (.inl h2)⟩
    · exact ⟨hn, .inl (.inr rfl)⟩
    · exact ⟨hn, .inr (.inr rfl)⟩
/-- Behind the sort and the pressing: each number once, in order. -/
theorem comp_inv (d : Array Int) (hs : ∀ i j, i ≤ j → j < d.size → d[i]! ≤ d[j]!) : ∀ m, m ≤ d.size → (Lib.compactUpTo d m).Pairwise (· < ·) ∧ ∀ z, z ∈ Lib.compactUpTo d m ↔ ∃ i, i < m ∧ d[i]! = z
  | 0, _ => ⟨by simp [Lib.compactUpTo], fun z => by simp [Lib.compactUpTo]⟩
  | m + 1, h => by
    obtain ⟨h1, h2⟩ := comp_inv d hs m (by omega)
    rw [Lib.compactUpTo_succ]
    by_cases hk : m = 0 ∨ d[m]! ≠ d[m - 1]!
    · have hkk : Lib.keeps d m = true := by unfold Lib.keeps; exact decide_eq_true hk
      rw [hkk, if_pos rfl]
      refine ⟨?_, fun z => ?_⟩
      · rw [List.pairwise_append]
        refine ⟨h1, by simp, ?_⟩
        intro a ha b hb
        simp at hb
        subst hb
        obtain ⟨i, hi, rfl⟩ := (h2 a).1 ha
        have e1 := hs i (m - 1) (by omega) (by omega)
        have e2 := hs (m - 1) m (by omega) (by omega)
        rcases hk with hk | hk <;> omega
      · rw [List.mem_append, h2 z, List.mem_singleton]
        constructor
        · rintro (⟨i, hi, e⟩ | e)
          · exact ⟨i, by omega, e⟩
          · exact ⟨m, by omega, e.symm⟩
        · rintro ⟨i, hi, e⟩
          rcases Nat.lt_or_eq_of_le (Nat.le_of_lt_succ hi) with h3 | h3
          · exact .inl ⟨i, h3, e⟩
          · subst h3; exact .inr e.symm
    · have hkk : Lib.keeps d m = false := by unfold Lib.keeps; exact decide_eq_false hk
      rw [hkk]
      simp only [Bool.false_eq_true, if_false, List.append_nil]
      refine ⟨h1, fun z => ?_⟩
      rw [h2 z]
      have hk1 : m ≠ 0 := fun e => hk (.inl e)
      have hk2 : d[m]! = d[m - 1]! := by
        by_cases e : d[m]! = d[m - 1]!
        · exact e
        · exact absurd (.inr e) hk
      constructor
      · rintro ⟨i, hi, e⟩; exact ⟨i, by omega, e⟩
      · rintro ⟨i, hi, e⟩
        rcases Nat.lt_or_eq_of_le (Nat.le_of_lt_succ hi) with h3 | h3
        · exact ⟨i, h3, e⟩
        · subst h3; exact ⟨i - 1, by omega, by rw [← hk2]; exact e⟩
theorem press {zs : List Int} : (Lib.compact (zs.mergeSort fun x y => decide (x ≤ y))).Pairwise (· < ·) ∧ ∀ z, z ∈ Lib.compact (zs.mergeSort fun x y => decide (x ≤ y)) ↔ z ∈ zs := by
  obtain ⟨S, hS⟩ : ∃ S, S = zs.mergeSort (fun x y => decide (x ≤ y)) := ⟨_, rfl⟩
  have hsort : S.Pairwise (· ≤ ·) := by
    have h1 := List.pairwise_mergeSort (le := fun (x y : Int) => decide (x ≤ y)) (fun a b c h1 h2 => by rw [decide_eq_true_eq] at *; omega) (fun a b => by rw [Bool.or_eq_true, decide_eq_true_eq, decide_eq_true_eq]; omega) zs
    rw [← hS] at h1
    exact h1.imp fun h => by simpa using h
  have hperm : S.Perm zs := by rw [hS]; exact List.mergeSort_perm _ _
  rw [← hS]
  have hs : ∀ i j, i ≤ j → j < S.toArray.size → S.toArray[i]! ≤ S.toArray[j]! := fun i j hij hj => by
    have hj' : j < S.length := by simpa using hj
    rw [getElem!_pos S.toArray i (by simpa using (show i < S.length by omega)), getElem!_pos S.toArray j (by simpa using hj')]
    rcases Nat.lt_or_eq_of_le hij with h1 | h1
    · exact List.pairwise_iff_getElem.1 hsort i j (by omega) hj' h1
    · subst h1; exact Int.le_refl _
  obtain ⟨h1, h2⟩ := comp_inv S.toArray hs S.length (by simp)
  refine ⟨h1, fun z => ?_⟩
  rw [← hperm.mem_iff]
  show z ∈ Lib.compactUpTo S.toArray S.length ↔ _
  rw [h2 z]
  constructor
  · rintro ⟨i, hi, e⟩
    rw [getElem!_pos S.toArray i (by simpa using hi)] at e
    rw [← e]
    simp
  · intro hz
    obtain ⟨i, hi, e⟩ := List.getElem_of_mem hz
    exact ⟨i, hi, by rw [getElem!_pos S.toArray i (by simpa using hi)]; simpa using e⟩
theorem Own.mono {w : World} {B B' size n : Nat} {e : TypeId} {v : Value} {xs : List Value} (h : Own w B e size v n xs) (hB : B' ≤ B) : Own w B' e size v n xs := by
  obtain ⟨⟨hl, h0 | ⟨g, cap, cur, hv, hb, r⟩⟩⟩ := h
  · exact ⟨⟨hl, .inl h0⟩⟩
  · exact ⟨⟨hl, .inr ⟨g, cap, cur, hv, Nat.le_trans hB hb, r⟩⟩⟩
theorem sortI_any (B c n : Nat) (A : Option Addr) (zs : List Int) (w : World) (own : Own w B 3 1 (.slice A n c) n (zs.map (Value.int .i64))) (hn : n ≤ 1000000) : Calls Tryz.prog 107 #[.slice A n c] w fun e w' => e = .returned (.tuple #[]) ∧ Own w' B 3 1 (.slice A n c) n ((zs.mergeSort fun x y => decide (x ≤ y)).map (Value.int .i64)) ∧ Below B w w' := by
  have hl : zs.length = n := by have := own.row.1; simpa using this
  rcases own.row.2 with ⟨hv, h0⟩ | ⟨g, cap, cur, hv, hb, hg, h1, h2, h3, h4⟩
  · injection hv with e1 e2 e3
    subst e1 e2 e3
    obtain rfl : zs = [] := List.eq_nil_of_length_eq_zero hl
    refine (Any.slices_Sort_int_none shSortI none 0 w).mono ?_
    rintro e w' ⟨rfl, rfl⟩
    exact ⟨rfl, by simpa using own, Below.refl _ _⟩
  · injection hv with e1 _ e3
    subst e1 e3 hl
    have hgl : g < w.heap.size := (Array.getElem?_eq_some_iff.1 hg).1
    have hH := holds_of_blockI (ss := zs) hg (by simpa using h4)
    refine (Any.slices_Sort_int shSortI g 0 c zs w hH hgl (by omega)).mono ?_
    rintro e w' ⟨rfl, m, os, rfl⟩
    exact ⟨rfl, ⟨ownsRow_sortedI (by simp) hb hg h1 h2 h3⟩, only_to_below (grownBy_sortedI _) hb hgl⟩
theorem compI_any (B c n : Nat) (A : Option Addr) (zs : List Int) (w : World) (own : Own w B 3 1 (.slice A n c) n (zs.map (Value.int .i64))) (hn : n ≤ 1000000) : Calls Tryz.prog 108 #[.slice A n c] w fun e w' => ∃ v, e = .returned v ∧ Own w' B 3 1 v (Lib.compact zs).length ((Lib.compact zs).map (Value.int .i64)) ∧ Below B w w' := by
  have hl : zs.length = n := by have := own.row.1; simpa using this
  rcases own.row.2 with ⟨hv, h0⟩ | ⟨g, cap, cur, hv, hb, hg, h1, h2, h3, h4⟩
  · injection hv with e1 e2 e3
    subst e1 e2 e3
    obtain rfl : zs = [] := List.eq_nil_of_length_eq_zero hl
    refine (Any.slices_Compact_int_empty shComp none 0 w).mono ?_
    rintro e w' ⟨rfl, rfl⟩
    exact ⟨_, rfl, own, Below.refl _ _⟩
  · injection hv with e1 _ e3
    subst e1 e3 hl
    have hgl : g < w.heap.size := (Array.getElem?_eq_some_iff.1 hg).1
    have hH := holds_of_blockI (ss := zs) hg (by simpa using h4)
    refine (Any.slices_Compact_int shComp g 0 c zs w hH (by omega) h1).mono ?_
    rintro e w' ⟨rfl, q, rfl⟩
    have hcl : (Lib.compact zs).length ≤ zs.length := by
      show (((List.range zs.length).filter _).map _).length ≤ _
      rw [List.length_map]
      exact Nat.le_trans (List.length_filter_le _ _) (by simp)
    have hr := ownsRow_sortedI (n := q) (os := #[]) (ss := zs) (ts := Lib.compact zs ++ List.replicate (zs.length - (Lib.compact zs).length) 0) (by rw [List.length_append, List.length_replicate]; omega) hb hg h1 h2 h3
    rw [grow_empty] at hr
    have hbl : Below B w (putRow (Value.int .i64) (Sort.ahead w q) g 0 (Lib.compact zs ++ List.replicate (zs.length - (Lib.compact zs).length) 0).toArray) := by
      have := grownBy_sortedI (w := w) (g := g) (n := q) (os := #[]) (Lib.compact zs ++ List.replicate (zs.length - (Lib.compact zs).length) 0).toArray
      rw [grow_empty] at this
      exact only_to_below this hb hgl
    refine ⟨_, rfl, ?_, hbl⟩
    obtain ⟨hl2, ⟨hv2, -⟩ | ⟨g2, cap2, cur2, hv2, hb2, hg2, h12, h22, h32, h42⟩⟩ := hr
    · cases hv2
    · injection hv2 with e1 _ e3
      subst e3
      refine ⟨⟨by simp, .inr ⟨g2, c, cur2, by rw [e1], hb2, hg2, by omega, h22, h32, ?_⟩⟩⟩
      rw [Nat.mul_one] at h42 ⊢
      have : cur2.toList.take (Lib.compact zs).length = (cur2.toList.take zs.length).take (Lib.compact zs).length := by rw [List.take_take, Nat.min_eq_left hcl]
      have hlm : ((Lib.compact zs).map (Value.int .i64)).length = (Lib.compact zs).length := List.length_map _
      rw [this, h42, List.map_append, ← hlm, List.take_left]
set_option maxHeartbeats 4000000 in
theorem numbers_any (B g0 gd : Nat) (D : Dk) (nm : List Nat) (num count size : Int) (broken : Bool) (w : World) (gv : Gv w) (k0 : Blk w g0 111 (wlCs gd nm num count size broken)) (dk : DkAt w B gd D) (hnm : Byt nm) (hnl : nm.length ≤ 8) (hown : ∀ p ∈ D.files, OwnNm nm p.1) :
    Calls Tryz.prog 56 #[.pointer (some ⟨g0, 0, none⟩)] w fun e w' => ∃ (v : Value) (ns : List Nat), e = .returned v ∧ ns.Pairwise (· < ·) ∧ (∀ n, n ∈ ns ↔ NumIn nm (D.files.map (·.1)) n) ∧ Own w' w.heap.size 3 1 v ns.length (ns.map fun (n : Nat) => Value.int .i64 (n : Int)) ∧ Grow w w' := by
  have bel := Below.refl w.heap.size w
  have own := Own.nil w w.heap.size 3 1
  obtain ⟨names, hnames⟩ : ∃ names, names = sortN (D.files.map (·.1)) := ⟨_, rfl⟩
  have hperm : names.Perm (D.files.map (·.1)) := by rw [hnames]; exact List.mergeSort_perm _ _
  have hmost : D.files.length ≤ 200 := by obtain ⟨m, l, F, c1, c2, h⟩ := dk; exact h.ok.most
  have hnlen : names.length = D.files.length := by rw [hperm.length_eq, List.length_map]
  have hgood : ∀ s ∈ names, OwnNm nm s := fun s hs => by
    obtain ⟨p, hp, rfl⟩ := List.mem_map.1 (hperm.mem_iff.1 hs)
    exact hown p hp
  refine Calls.start 82 Tryz.func56 rfl rfl rfl ?_
  refine Cd.seq ?_
  refine Cd.region ?_
  refine Seq.val (Runs.assign rfl rfl) rfl rfl rfl ?_
  refine Seq.nil ?_
  refine Post.weak (F' := [(0, _), (2, _)]) ⟨rfl, rfl, trivial⟩ ?_
  refine Post.then_ ?_
  refine Cd.seq ?_
  refine Cd.region ?_
  refine Seq.val (Runs.assign rfl rfl) rfl rfl rfl ?_
  refine Seq.nil ?_
  refine Post.weak (F' := [(0, _), (2, _), (3, _)]) ⟨rfl, rfl, rfl, trivial⟩ ?_
  refine Post.then_ ?_
  refine Cd.seq ?_
  refine Cd.seq ?_
  refine Cd.region ?_
  refine Seq.val (Runs.move rfl rfl) rfl rfl rfl ?_
  refine Seq.val (Runs.nilCheck rfl rfl) rfl rfl rfl ?_
  refine Seq.val (Runs.fieldB 0 rfl rfl Tryz.underlying111 rfl (by kernel_rfl)) rfl rfl rfl ?_
  refine Seq.val (Runs.loadB rfl rfl Tryz.underlying26 rfl k0 rfl) rfl rfl rfl ?_
  refine Seq.call (Enters.func rfl rfl rfl (run_enter Tryz.func19 (by kernel_rfl) rfl)) rfl rfl rfl (names_any B gd D _ (dk.step bel)) ?_
  rintro e w5 ⟨v17, rfl, ownN, hb5⟩
  refine ⟨_, rfl, ?_⟩
  rw [← hnames] at ownN
  replace bel := bel.step hb5
  replace k0 := k0.step hb5
  replace own := own.step hb5
  obtain ⟨A, c, rfl, hrd⟩ := ownN.reads
  refine Seq.val (Runs.len rfl rfl Tryz.underlying54) rfl rfl rfl ?_
  refine Seq.val (Runs.move rfl rfl) rfl rfl rfl ?_
  refine Seq.nil ?_
  refine Post.weak (F' := [(0, _), (2, _), (3, _), (17, _), (18, _), (19, _)]) ⟨rfl, rfl, rfl, rfl, rfl, rfl, trivial⟩ ?_
  refine Post.then_ ?_
  refine Cd.block ?_
  have hw5 := bel.size
  have bel0 := bel
  clear bel
  have bel := Below.refl w5.heap.size w5
  clear own
  have own := Own.nil w5 w5.heap.size 3 1
  refine Cd.loop (σ := Nat × List Nat × Value) (fun q => [(0, .pointer (some ⟨g0, 0, none⟩)), (17, .slice A D.files.length c), (18, .int .i64 (D.files.length : Int)), (19, .int .i64 (q.1 : Int)), (3, q.2.2)]) (fun q wr => q.1 ≤ D.files.length ∧ q.2.1.length ≤ q.1 ∧ (∀ n, n ∈ q.2.1 ↔ NumIn nm (names.take q.1) n) ∧ Below w5.heap.size w5 wr ∧ Blk wr g0 111 (wlCs gd nm num count size broken) ∧ Own wr w5.heap.size 3 1 q.2.2 q.2.1.length (q.2.1.map fun (n : Nat) => Value.int .i64 (n : Int))) (fun q => D.files.length - q.1) (0, [], .slice none 0 0) ⟨Nat.zero_le _, Nat.le_refl _, fun n => by simp [NumIn], bel, k0, own⟩ ⟨rfl, rfl, rfl, rfl, rfl, trivial⟩ ?_
  clear bel k0 own
  rintro ⟨j, zs, v⟩ wr ⟨hj, hzl, hmem, bel, k0, own⟩
  simp only at hj hzl hmem own
  obtain ⟨A3, c3, rfl, -⟩ := own.reads
  show Cd _ _ _ _ [(0, .pointer (some ⟨g0, 0, none⟩)), (17, .slice A D.files.length c), (18, .int .i64 (D.files.length : Int)), (19, .int .i64 (j : Int)), (3, .slice A3 zs.length c3)] _
  refine Cd.seq ?_
  refine Cd.region ?_
  refine Seq.val (Runs.lss rfl rfl rfl) rfl rfl rfl ?_
  refine Seq.nil ?_
  refine Post.weak (F' := [(0, _), (3, _), (17, _), (18, _), (19, _), (20, _)]) ⟨rfl, rfl, rfl, rfl, rfl, rfl, trivial⟩ ?_
  refine Post.then_ ?_
  refine Cd.seq ?_
  refine Cd.condD rfl (fun hc => ?_) (fun hc => ?_)
  · obtain ⟨s, hs⟩ : ∃ s, names[j]? = some s := ⟨_, List.getElem?_eq_getElem (by omega)⟩
    obtain ⟨n, k, hn, hk, rfl⟩ := hgood s (List.mem_of_getElem? hs)
    have hsf : fileN nm n (46 :: k) = (nm ++ [46]) ++ (dig6 n ++ 46 :: k) := by unfold fileN; simp
    have hd6 := dig6_len hn
    have hd6l := dig6_lt n
    have hk3 : k.length = 3 := by rcases hk with rfl | rfl | rfl <;> rfl
    have hkb : Byt k := by rcases hk with rfl | rfl | rfl <;> (intro d hd; revert d; decide)
    obtain ⟨ad, rfl, hbd, hcl⟩ := hrd.2 (by omega)
    have hcd := (bel.cell (p := ad.add j) (by rw [block_of_add]; exact hbd)).trans (hcl j (.string (strOf (fileN nm n (46 :: k)))) (by rw [get_Ts, hs]; rfl))
    have gv1 : Gv wr := gv.step (bel0.trans (bel.mono hw5))
    refine Cd.skip ?_
    refine Post.then_ ?_
    refine Cd.seq ?_
    refine Cd.block ?_
    refine Cd.seq ?_
    refine Cd.region ?_
    refine Seq.val (Runs.index1 rfl rfl rfl Tryz.underlying54 (by kernel_rfl) (j := j) rfl (by omega)) rfl rfl rfl ?_
    refine Seq.val (Runs.load1 rfl rfl Tryz.underlying9 rfl hcd) rfl rfl rfl ?_
    refine Seq.val (Runs.assign rfl rfl) rfl rfl rfl ?_
    refine Seq.nil ?_
    refine Post.weak (F' := [(0, _), (3, _), (5, _), (17, _), (18, _), (19, _), (20, _)]) ⟨rfl, rfl, rfl, rfl, rfl, rfl, rfl, trivial⟩ ?_
    refine Post.then_ ?_
    refine Cd.seq ?_
    refine Cd.region ?_
    refine Seq.val (Runs.move rfl rfl) rfl rfl rfl ?_
    refine Seq.val (Runs.move rfl rfl) rfl rfl rfl ?_
    refine Seq.val (Runs.nilCheck rfl rfl) rfl rfl rfl ?_
    refine Seq.val (Runs.fieldB 1 rfl rfl Tryz.underlying111 rfl (by kernel_rfl)) rfl rfl rfl ?_
    refine Seq.val (Runs.loadB rfl rfl Tryz.underlying9 rfl k0 rfl) rfl rfl rfl ?_
    refine Seq.val (Runs.addL (b := [46]) rfl rfl rfl (show nm.length + 1 ≤ _ by omega)) rfl rfl rfl ?_
    rw [hsf]
    refine Seq.call (Enters.func rfl rfl rfl (run_enter Tryz.func104 (by kernel_rfl) rfl)) rfl rfl rfl (cutP_any (nm ++ [46]) (dig6 n ++ 46 :: k) _) ?_
    rintro e x6 ⟨rfl, hb6⟩
    refine ⟨_, rfl, ?_⟩
    replace bel := bel.step hb6
    replace k0 := k0.step hb6
    replace own := own.step hb6
    refine Seq.val (Runs.move rfl rfl) rfl rfl rfl ?_
    refine Seq.val (Runs.extract rfl rfl rfl) rfl rfl rfl ?_
    refine Seq.val (Runs.extract rfl rfl rfl) rfl rfl rfl ?_
    refine Seq.val (Runs.assign rfl rfl) rfl rfl rfl ?_
    refine Seq.val (Runs.assign rfl rfl) rfl rfl rfl ?_
    refine Seq.nil ?_
    refine Post.weak (F' := [(0, _), (3, _), (5, _), (6, _), (7, _), (17, _), (18, _), (19, _), (20, _)]) ⟨rfl, rfl, rfl, rfl, rfl, rfl, rfl, rfl, rfl, trivial⟩ ?_
    refine Post.then_ ?_
    refine Cd.seq ?_
    refine Cd.region ?_
    refine Seq.val (Runs.move rfl rfl) rfl rfl rfl ?_
    refine Seq.call (Enters.func rfl rfl rfl (run_enter Tryz.func47 (by kernel_rfl) rfl)) rfl rfl rfl (cut_any (dig6 n) k _ (gv.step (bel0.trans (bel.mono hw5))) (fun c hc => by have := hd6l c hc; omega) (fun c hc => by have := hd6l c hc; omega) (by omega)) ?_
    rintro e x7 ⟨rfl, hb7⟩
    refine ⟨_, rfl, ?_⟩
    replace bel := bel.step hb7
    replace k0 := k0.step hb7
    replace own := own.step hb7
    refine Seq.val (Runs.move rfl rfl) rfl rfl rfl ?_
    refine Seq.val (Runs.extract rfl rfl rfl) rfl rfl rfl ?_
    refine Seq.val (Runs.extract rfl rfl rfl) rfl rfl rfl ?_
    refine Seq.val (Runs.extract rfl rfl rfl) rfl rfl rfl ?_
    refine Seq.val (Runs.assign rfl rfl) rfl rfl rfl ?_
    refine Seq.val (Runs.assign rfl rfl) rfl rfl rfl ?_
    refine Seq.val (Runs.assign rfl rfl) rfl rfl rfl ?_
    refine Seq.nil ?_
    refine Post.weak (F' := [(0, _), (3, _), (5, _), (6, _), (7, _), (8, _), (9, _), (10, _), (17, _), (18, _), (19, _), (20, _)]) ⟨rfl, rfl, rfl, rfl, rfl, rfl, rfl, rfl, rfl, rfl, rfl, rfl, trivial⟩ ?_
    refine Post.then_ ?_
    refine Cd.seq ?_
    refine Cd.region ?_
    refine Seq.val (Runs.move rfl rfl) rfl rfl rfl ?_
    refine Seq.call (Enters.func rfl rfl rfl (run_enter Tryz.func105 (by kernel_rfl) rfl)) rfl rfl rfl (atoi_any n _ hn) ?_
    rintro e x8 ⟨rfl, hb8⟩
    refine ⟨_, rfl, ?_⟩
    replace bel := bel.step hb8
    replace k0 := k0.step hb8
    replace own := own.step hb8
    refine Seq.val (Runs.move rfl rfl) rfl rfl rfl ?_
    refine Seq.val (Runs.extract rfl rfl rfl) rfl rfl rfl ?_
    refine Seq.val (Runs.extract rfl rfl rfl) rfl rfl rfl ?_
    refine Seq.val (Runs.assign rfl rfl) rfl rfl rfl ?_
    refine Seq.val (Runs.assign rfl rfl) rfl rfl rfl ?_
    refine Seq.nil ?_
    refine Post.weak (F' := [(0, _), (3, _), (5, _), (6, _), (7, _), (8, _), (9, _), (10, _), (11, _), (12, _), (17, _), (18, _), (19, _), (20, _)]) ⟨rfl, rfl, rfl, rfl, rfl, rfl, rfl, rfl, rfl, rfl, rfl, rfl, rfl, rfl, trivial⟩ ?_
    refine Post.then_ ?_
    refine Cd.seq ?_
    refine Cd.region ?_
    refine Seq.val (Runs.move rfl rfl) rfl rfl rfl ?_
    refine Seq.val (Runs.move rfl rfl) rfl rfl rfl ?_
    refine SeqC.start ?_
    refine SeqC.open rfl rfl rfl rfl rfl rfl rfl (fun hcx => Runs.move rfl rfl) ?_
    refine SeqC.and rfl rfl rfl rfl rfl rfl rfl ?_
    refine Seq.val (Runs.move rfl rfl) rfl rfl rfl ?_
    refine SeqC.start ?_
    refine SeqC.open rfl rfl rfl rfl rfl rfl rfl (fun hcx => Runs.move rfl rfl) ?_
    refine SeqC.next rfl rfl rfl rfl rfl rfl rfl (fun hcx => Runs.bin (v := .bool true) rfl rfl rfl rfl (by kernel_rfl)) ?_
    refine SeqC.and rfl rfl rfl rfl rfl rfl rfl ?_
    refine Seq.val (Runs.move rfl rfl) rfl rfl rfl ?_
    refine SeqC.start ?_
    refine SeqC.open rfl rfl rfl rfl rfl rfl rfl (fun hcx => Runs.move rfl rfl) ?_
    have hfb : Byt (fileN nm n (46 :: k)) := by
      unfold fileN
      refine Byt.app (Byt.app (Byt.app hnm (by intro d hd; simp at hd; omega)) (fun c hc => by have := hd6l c hc; omega)) ?_
      intro d hd
      rcases List.mem_cons.1 hd with rfl | hd
      · omega
      · exact hkb d hd
    refine SeqC.next rfl rfl rfl rfl rfl rfl rfl (fun hcx => Runs.eqlL (b := logB) rfl rfl rfl hkb (by decide)) ?_
    refine SeqC.next rfl rfl rfl rfl rfl rfl rfl (fun hcx => Runs.move rfl rfl) ?_
    refine SeqC.open rfl rfl rfl rfl rfl rfl rfl (fun hcx => Runs.move rfl rfl) ?_
    refine SeqC.next rfl rfl rfl rfl rfl rfl rfl (fun hcx => Runs.eqlL (b := ackB) rfl rfl rfl hkb (by decide)) ?_
    refine SeqC.orG rfl rfl rfl rfl rfl rfl rfl rfl rfl rfl rfl ?_
    refine SeqC.and rfl rfl rfl rfl rfl rfl rfl ?_
    refine Seq.val (Runs.move rfl rfl) rfl rfl rfl ?_
    refine SeqC.start ?_
    refine SeqC.open rfl rfl rfl rfl rfl rfl rfl (fun hcx => Runs.move rfl rfl) ?_
    refine SeqC.next rfl rfl rfl rfl rfl rfl rfl (fun hcx => Runs.move rfl rfl) ?_
    refine SeqC.next rfl rfl rfl rfl rfl rfl rfl (fun hcx => Runs.move rfl rfl) ?_
    refine SeqC.next rfl rfl rfl rfl rfl rfl rfl (fun hcx => Runs.addL (a := [46]) (b := k) rfl rfl rfl (by simp only [List.length_singleton]; omega)) ?_
    refine SeqC.nextC rfl rfl rfl rfl rfl rfl rfl (fun hcx => Enters.func rfl rfl rfl (run_enter Tryz.func106 (by kernel_rfl) rfl)) (fun hcx => file_any g0 gd n nm (46 :: k) num count size broken _ (gv.step (bel0.trans (bel.mono hw5))) k0 hn (by omega) (by simp only [List.length_cons]; omega)) ?_
    intro w1 hw1
    replace bel := bel.step hw1
    replace k0 := k0.step hw1
    replace own := own.step hw1
    refine SeqC.next rfl rfl rfl rfl rfl rfl rfl (fun hcx => Runs.move rfl rfl) ?_
    refine SeqC.next rfl rfl rfl rfl rfl rfl rfl (fun hcx => Runs.eqlL rfl rfl rfl hfb (by rw [← hsf]; exact hfb)) ?_
    refine SeqC.and rfl rfl rfl rfl rfl rfl rfl ?_
    refine Seq.val (Runs.move rfl rfl) rfl rfl rfl ?_
    refine SeqC.start ?_
    refine SeqC.open rfl rfl rfl rfl rfl rfl rfl (fun hcx => Runs.move rfl rfl) ?_
    refine SeqC.next rfl rfl rfl rfl rfl rfl rfl (fun hcx => Runs.geq rfl rfl rfl) ?_
    refine SeqC.and rfl rfl rfl rfl rfl rfl rfl ?_
    refine Seq.nil ?_
    refine Post.weak (F' := [(0, _), (3, _), (5, _), (6, _), (7, _), (8, _), (9, _), (10, _), (11, _), (12, _), (17, _), (18, _), (19, _), (20, _), (72, _)]) ⟨rfl, rfl, rfl, rfl, rfl, rfl, rfl, rfl, rfl, rfl, rfl, rfl, rfl, rfl, rfl, trivial⟩ ?_
    refine Post.then_ ?_
    have hval : (decide (k = logB) || decide (k = ackB)) = true ↔ (k = logB ∨ k = ackB) := by rw [Bool.or_eq_true, decide_eq_true_eq, decide_eq_true_eq]
    have hnj : names.take (j + 1) = names.take j ++ [fileN nm n (46 :: k)] := take_last hs
    refine Cd.cond rfl (fun h => ?_) (fun h => ?_)
    · have hkk : k = logB ∨ k = ackB := by
        apply hval.1
        cases e : (decide (k = logB) || decide (k = ackB)) with
        | true => rfl
        | false =>
          exfalso
          have h' : (true && true && true && (decide (k = logB) || decide (k = ackB)) && decide (fileN nm n (46 :: k) = nm ++ [46] ++ (dig6 n ++ 46 :: k)) && decide ((0 : Int) ≤ (n : Int))) = true := h
          rw [e] at h'
          simp at h'
      refine Cd.region ?_
      refine Seq.val (Runs.move rfl rfl) rfl rfl rfl ?_
      refine Seq.val (Runs.move rfl rfl) rfl rfl rfl ?_
      refine Seq.slice (vs := [_]) (s := 1) rfl rfl rfl Tryz.underlying40 (by kernel_rfl) (zero_int) (by omega) (by omega) ⟨rfl, trivial⟩ rfl rfl rfl ?_
      intro g75 w2 n75
      have e75 := Nat.le_trans bel.size n75.ge
      have l75 := Nat.lt_of_lt_of_le k0.lt n75.ge
      replace bel := bel.step n75.below
      replace k0 := k0.step n75.below
      replace own := own.step n75.below
      have k75 := n75.blk
      have hrx := Reads.blk (size := 1) k75 1 rfl
      refine Seq.append rfl rfl rfl Tryz.underlying40 (by kernel_rfl) zero_int rfl (by decide) (b := 8) (by kernel_rfl) own hrx (ones_nat [n]) bel.size (by simp only [maxLen]; omega) (by omega) rfl rfl rfl ?_
      intro v2 wb own2 ha
      have bel2 := bel.trans ha.below
      have k02 := k0.appNe own ha
      replace own2 : Own wb w5.heap.size 3 1 v2 (zs.length + 1) ((zs.map fun (n : Nat) => Value.int .i64 (n : Int)) ++ [n].map fun (n : Nat) => Value.int .i64 (n : Int)) := own2
      rw [← List.map_append] at own2
      clear bel own k75 hrx ha k0
      have bel := bel2
      have own := own2
      have k0 := k02
      clear bel2 own2 k02
      refine Seq.val (Runs.assign rfl rfl) rfl rfl rfl ?_
      refine Seq.nil ?_
      refine Post.weak (F' := [(0, _), (3, _), (5, _), (6, _), (7, _), (8, _), (9, _), (10, _), (11, _), (12, _), (17, _), (18, _), (19, _), (20, _), (72, _)]) ⟨rfl, rfl, rfl, rfl, rfl, rfl, rfl, rfl, rfl, rfl, rfl, rfl, rfl, rfl, rfl, trivial⟩ ?_
      refine Post.block_normal ?_
      refine Post.then_ ?_
      refine Cd.region ?_
      refine Seq.val (Runs.addI rfl rfl rfl (by omega) (by omega)) rfl rfl rfl ?_
      refine Seq.val (Runs.move rfl rfl) rfl rfl rfl ?_
      refine Seq.nil ?_
      refine Post.weak (F' := [(0, _), (3, _), (5, _), (6, _), (7, _), (8, _), (9, _), (10, _), (11, _), (12, _), (17, _), (18, _), (19, _), (20, _), (72, _)]) ⟨rfl, rfl, rfl, rfl, rfl, rfl, rfl, rfl, rfl, rfl, rfl, rfl, rfl, rfl, rfl, trivial⟩ ?_
      exact Post.round (j + 1, zs ++ [n], v2) ⟨rfl, rfl, rfl, int_at (by omega), rfl, trivial⟩ ⟨by simp only; omega, by simp only [List.length_append, List.length_singleton]; omega, fun m => by rw [hnj, numIn_more hn, ← hmem m]; simp [hkk], bel, k0, by simpa using own⟩ (by simp only; omega)
    · have hkk : ¬ (k = logB ∨ k = ackB) := by
        intro hkk
        have h' : (true && true && true && (decide (k = logB) || decide (k = ackB)) && decide (fileN nm n (46 :: k) = nm ++ [46] ++ (dig6 n ++ 46 :: k)) && decide ((0 : Int) ≤ (n : Int))) = false := h
        rw [hval.2 hkk, ← hsf, decide_eq_true rfl, decide_eq_true (by omega)] at h'
        cases h'
      refine Cd.skip ?_
      refine Post.block_normal ?_
      refine Post.then_ ?_
      refine Cd.region ?_
      refine Seq.val (Runs.addI rfl rfl rfl (by omega) (by omega)) rfl rfl rfl ?_
      refine Seq.val (Runs.move rfl rfl) rfl rfl rfl ?_
      refine Seq.nil ?_
      refine Post.weak (F' := [(0, _), (3, _), (5, _), (6, _), (7, _), (8, _), (9, _), (10, _), (11, _), (12, _), (17, _), (18, _), (19, _), (20, _), (72, _)]) ⟨rfl, rfl, rfl, rfl, rfl, rfl, rfl, rfl, rfl, rfl, rfl, rfl, rfl, rfl, rfl, trivial⟩ ?_
      exact Post.round (j + 1, zs, .slice A3 zs.length c3) ⟨rfl, rfl, rfl, int_at (by omega), rfl, trivial⟩ ⟨by simp only; omega, by simp only; omega, fun m => by rw [hnj, numIn_more hn, hmem m]; simp [hkk], bel, k0, own⟩ (by simp only; omega)
  · have hall : ∀ n, n ∈ zs ↔ NumIn nm (D.files.map (·.1)) n := fun n => by
      rw [hmem n, List.take_of_length_le (by omega)]
      unfold NumIn
      rw [hperm.mem_iff, hperm.mem_iff]
    refine Cd.exit ?_
    refine Post.then_exit ?_
    refine Post.round_exit ?_
    refine Post.block_exit ?_
    refine Post.then_ ?_
    refine Cd.seq ?_
    refine Cd.region ?_
    refine Seq.val (Runs.move rfl rfl) rfl rfl rfl ?_
    have hmap : ∀ l : List Nat, (l.map fun (n : Nat) => Value.int .i64 (n : Int)) = (l.map fun (n : Nat) => (n : Int)).map (Value.int .i64) := fun l => by rw [List.map_map]; rfl
    rw [hmap] at own
    refine Seq.call (Enters.func rfl rfl rfl (run_enter Tryz.func107 (by kernel_rfl) rfl)) rfl rfl rfl (sortI_any w5.heap.size c3 zs.length A3 (zs.map fun (n : Nat) => (n : Int)) _ own (by omega)) ?_
    clear own k0
    rintro e x1 ⟨rfl, own, hb1⟩
    refine ⟨_, rfl, ?_⟩
    replace bel := bel.trans hb1
    have hpress := press (zs := zs.map fun (n : Nat) => (n : Int))
    obtain ⟨Z, hZ⟩ : ∃ Z, Z = (zs.map fun (n : Nat) => (n : Int)).mergeSort fun x y => decide (x ≤ y) := ⟨_, rfl⟩
    rw [← hZ] at own hpress
    refine Seq.nil ?_
    refine Post.weak (F' := [(0, _), (3, _), (17, _), (18, _), (19, _), (20, _)]) ⟨rfl, rfl, rfl, rfl, rfl, rfl, trivial⟩ ?_
    refine Post.then_ ?_
    refine Cd.seq ?_
    refine Cd.region ?_
    refine Seq.val (Runs.move rfl rfl) rfl rfl rfl ?_
    refine Seq.call (Enters.func rfl rfl rfl (run_enter Tryz.func108 (by kernel_rfl) rfl)) rfl rfl rfl (compI_any w5.heap.size c3 zs.length A3 Z _ own (by omega)) ?_
    clear own
    rintro e x2 ⟨v2, rfl, own, hb2⟩
    refine ⟨_, rfl, ?_⟩
    replace bel := bel.trans hb2
    refine Seq.val (Runs.assign rfl rfl) rfl rfl rfl ?_
    refine Seq.nil ?_
    refine Post.weak (F' := [(0, _), (2, _), (3, _), (17, _), (18, _), (19, _), (20, _)]) ⟨rfl, rfl, rfl, rfl, rfl, rfl, rfl, trivial⟩ ?_
    refine Post.then_ ?_
    refine Cd.ret ?_
    refine Post.end1 rfl rfl (.inl rfl) ?_
    have hback : ((Lib.compact Z).map Int.toNat).map (fun (n : Nat) => (n : Int)) = Lib.compact Z := by
      rw [List.map_map]
      conv => rhs; rw [← List.map_id (Lib.compact Z)]
      refine List.map_congr_left fun z hz => ?_
      obtain ⟨n, -, rfl⟩ := List.mem_map.1 ((hpress.2 z).1 hz)
      rfl
    refine ⟨v2, (Lib.compact Z).map Int.toNat, rfl, ?_, fun n => ?_, ?_, ?_⟩
    · have h1 := hpress.1
      rw [← hback] at h1
      exact (List.pairwise_map.1 h1).imp fun h => by omega
    · rw [← hall n]
      constructor
      · intro hn
        have h1 : (n : Int) ∈ Lib.compact Z := by rw [← hback]; exact List.mem_map.2 ⟨n, hn, rfl⟩
        obtain ⟨m, hm, e⟩ := List.mem_map.1 ((hpress.2 _).1 h1)
        obtain rfl : m = n := by omega
        exact hm
      · intro hn
        exact List.mem_map.2 ⟨(n : Int), (hpress.2 _).2 (List.mem_map.2 ⟨n, hn, rfl⟩), by simp⟩
    · rw [hmap, hback, List.length_map]
      exact own.mono hw5
    · exact bel0.trans (bel.mono hw5)
end Go.Proofs.YtdpipgidpkmolaaGreatDoor

namespace Go.Proofs.YtdpipgidpkmolaaGreatDoor
open Go.RowKit

/-- What a log's methods leave as it was. -/
structure Lf (B : Nat) (w w' : World) : Prop where
  below : Below (min B w.heap.size) w w'
  keep : ∀ k t cs, Blk w k t cs → t ≠ 65 → t ≠ 100 → t ≠ 111 → Blk w' k t cs
section
variable {B : Nat} {w w' w'' : World}
theorem Lf.refl (B : Nat) (w : World) : Lf B w w := ⟨Below.refl _ _, fun _ _ _ h _ _ _ => h⟩
theorem Lf.trans (h : Lf B w w') (k : Lf B w' w'') : Lf B w w'' := ⟨h.below.trans (k.below.mono (by have := h.below.size; omega)), fun i t cs hb h1 h2 h3 => k.keep i t cs (h.keep i t cs hb h1 h2 h3) h1 h2 h3⟩
theorem Lf.lf (h : Lf B w w') (k : Lf B w' w'') : Lf B w w'' := h.trans k
theorem Lf.of (h : Df B w w') : Lf B w w' := ⟨h.below, fun i t cs hb h1 h2 _ => h.keep i t cs hb h1 h2⟩
theorem Lf.df (h : Lf B w w') (k : Df B w' w'') : Lf B w w'' := h.trans (Lf.of k)
theorem Lf.step (h : Lf B w w') (k : Below w'.heap.size w' w'') : Lf B w w'' := h.df (Df.grow k)
theorem Lf.size (h : Lf B w w') : w.heap.size ≤ w'.heap.size := h.below.size
theorem Lf.to (h : Lf B w w') (hB : B ≤ w.heap.size) : Below B w w' := by have := h.below; rwa [Nat.min_eq_left hB] at this
theorem Lf.putX {g : Nat} {T : TypeId} {cur cs : Array Value} (h : Lf B w w') (k : Blk w' g T cur) (p : Put w' w'' g T cs) (ht : (B ≤ g ∧ T = 111) ∨ w.heap.size ≤ g) : Lf B w w'' := by
  refine ⟨h.below.trans (p.below (by omega) k.lt), fun i t cs' hb h3 h4 h5 => (h.keep i t cs' hb h3 h4 h5).grown p.grown (fun e => ?_)⟩
  injection e with e
  have hb1 := h.keep i t cs' hb h3 h4 h5
  have hb2 := hb.lt
  rcases ht with ⟨-, h2⟩ | h1
  · have h6 : w'.heap[i]? = some (.cells cs' t) := hb1
    have h7 : w'.heap[g]? = some (.cells cur T) := k
    rw [← e, h6] at h7
    injection h7 with h7
    injection h7 with _ h7
    exact h5 (h7.trans h2)
  · omega
theorem Lf.put {B' g : Nat} {T : TypeId} {cur cs : Array Value} (h : Lf B w w') (k : Blk w' g T cur) (p : Put w' w'' g T cs) (e : B' ≤ g) (ht : (B ≤ B' ∧ T = 111) ∨ w.heap.size ≤ B' := by first | exact .inl ⟨by omega, rfl⟩ | exact .inr (by omega)) : Lf B w w'' :=
  h.putX k p (by rcases ht with ⟨h1, h2⟩ | h1; exact .inl ⟨by omega, h2⟩; exact .inr (by omega))
theorem Blk.lf {k : Nat} {t : TypeId} {cs : Array Value} (h : Blk w k t cs) (f : Lf B w w') (h1 : t ≠ 65 := by decide) (h2 : t ≠ 100 := by decide) (h3 : t ≠ 111 := by decide) : Blk w' k t cs := f.keep k t cs h h1 h2 h3
theorem Reads.lf {B2 size n : Nat} {A : Option Addr} {xs : List Value} (h : Reads w B2 size A n xs) (f : Lf B w w') (hB : B2 ≤ B) (hs : B2 ≤ w.heap.size) : Reads w' B2 size A n xs := h.below (f.below.mono (by omega))
theorem Own.lf {B' size n : Nat} {e : TypeId} {v : Value} {xs : List Value} (h : Own w B' e size v n xs) (f : Lf B w w') (h1 : e ≠ 65 := by decide) (h2 : e ≠ 100 := by decide) (h3 : e ≠ 111 := by decide) : Own w' B' e size v n xs := by
  obtain ⟨⟨hl, h0 | ⟨g, cap, cur, rfl, hB, hg, r⟩⟩⟩ := h
  · exact ⟨⟨hl, .inl h0⟩⟩
  · exact ⟨⟨hl, .inr ⟨g, cap, cur, rfl, hB, f.keep g e cur hg h1 h2 h3, r⟩⟩⟩
theorem Gv.lf (h : Gv w) (f : Lf B w w') (hB : max 2 1 < B := by omega) : Gv w' := h.below f.below (by have := h.top; omega)
/-- A slice of one's own, beside another one (of another type) that grows. -/
theorem Own.appNe {B1 B2 B3 n1 n2 s1 s2 : Nat} {e1 e2 : TypeId} {v1 v2 : Value} {xs1 xs2 : List Value} (h : Own w B1 e1 s1 v1 n1 xs1) (o : Own w B2 e2 s2 v2 n2 xs2) (ha : App w w' B3 v2) (hne : e2 ≠ e1 := by decide) : Own w' B1 e1 s1 v1 n1 xs1 := by
  obtain ⟨⟨hl, h0 | ⟨g, cap, cur, rfl, hB, hg, r⟩⟩⟩ := h
  · exact ⟨⟨hl, .inl h0⟩⟩
  · have hg' : Blk w g e1 cur := hg
    exact ⟨⟨hl, .inr ⟨g, cap, cur, rfl, hB, hg'.appNe o ha hne, r⟩⟩⟩
end
section
variable {P : Program} {E : Operand → Option Value} {o : Oper} {w : World} {x y : Operand} {T : TypeId}
end
theorem Own.cap {w : World} {B1 size n c : Nat} {e : TypeId} {A : Option Addr} {xs : List Value} (h : Own w B1 e size (.slice A n c) n xs) : n ≤ c := by
  obtain ⟨⟨hl, ⟨hv, h0⟩ | ⟨g, cap, cur, hv, hB, hg, h1, h2, h3, h4⟩⟩⟩ := h
  · injection hv with e1 e2 e3
    omega
  · injection hv with e1 e2 e3
    omega
theorem DkR.size {w : World} {B g m : Nat} {D : Dk} {l : List (List Nat × Nat)} {F : Nat → Fil} {c1 c2 : Int} (h : DkR w B g D m l F c1 c2) : B ≤ w.heap.size := Nat.le_trans h.hB (Nat.le_of_lt h.k.lt)
theorem DkAt.size {w : World} {B g : Nat} {D : Dk} (h : DkAt w B g D) : B ≤ w.heap.size := by
  obtain ⟨m, l, F, c1, c2, h⟩ := h
  exact h.size
theorem DkAt.ok {w : World} {B g : Nat} {D : Dk} (h : DkAt w B g D) : D.ok := by
  obtain ⟨m, l, F, c1, c2, h⟩ := h
  exact h.ok
theorem DkAt.nd {w : World} {B g : Nat} {D : Dk} (h : DkAt w B g D) : (D.files.map (·.1)).Nodup := by
  obtain ⟨m, l, F, c1, c2, h⟩ := h
  rw [h.fl, fs_names]
  exact h.mp.nodup
theorem Lf.app {w w' w'' : World} {B B2 B3 n size : Nat} {e : TypeId} {v : Value} {xs : List Value} (h : Lf B w w') (_o : Own w' B2 e size v n xs) (ha : App w' w'' B3 v) (h0 : w.heap.size ≤ B3) : Lf B w w'' := by
  refine ⟨h.below.trans (ha.below.mono (by omega)), fun i t cs hb h3 h4 h5 => ?_⟩
  have h6 := h.keep i t cs hb h3 h4 h5
  have h7 : w''.heap[i]? = w'.heap[i]? := ha.below.block i (by have := hb.lt; omega)
  exact h7.trans h6
theorem DkAt.mono {w : World} {B B' g : Nat} {D : Dk} (h : DkAt w B g D) (hB : B' ≤ B) : DkAt w B' g D := by
  obtain ⟨m, l, F, c1, c2, h⟩ := h
  exact ⟨m, l, F, c1, c2, h.k, h.mp, Nat.le_trans hB h.hm, ⟨fun p hp => ⟨Nat.le_trans hB (h.fs.blk p hp).1, (h.fs.blk p hp).2⟩, h.fs.nd⟩, h.fl, Nat.le_trans hB h.hB, h.ok⟩
end Go.Proofs.YtdpipgidpkmolaaGreatDoor

namespace Go.Proofs.YtdpipgidpkmolaaGreatDoor
open Go.RowKit

def logK : List Nat := 46 :: logB
def ackK : List Nat := 46 :: ackB
def newK : List Nat := 46 :: newB
/-- Without a file, if it is there. -/
def Dk.dropE (D : Dk) (nm : List Nat) : Int := if D.thereE [nm] nm = 7 then 0 else D.thereE [nm] nm
/-- A mark behind a file's bytes, safe. -/
def Dk.note (D : Dk) (ack : List Nat) (c : Nat) : Dk × Int :=
  if D.appendE ack (markN c) ≠ 0 then (D.append ack (markN c), D.appendE ack (markN c))
  else ((D.append ack (markN c)).sync ack, (D.append ack (markN c)).thereE [ack] ack)
/-- A segment's mark laid anew. -/
def Dk.fresh (D : Dk) (fresh ack : List Nat) (c : Nat) : Dk × Int :=
  if D.appendE fresh (markN c) ≠ 0 then (D.append fresh (markN c), D.appendE fresh (markN c))
  else if (D.append fresh (markN c)).thereE [fresh] fresh ≠ 0 then ((D.append fresh (markN c)).sync fresh, (D.append fresh (markN c)).thereE [fresh] fresh)
  else (((D.append fresh (markN c)).sync fresh).rename fresh ack, ((D.append fresh (markN c)).sync fresh).thereE [fresh, ack] fresh)
/-- A segment is sealed. -/
def Dk.again (D : Dk) (nm : List Nat) (n cnt : Nat) : Dk × Int :=
  if D.dropE (fileN nm n newK) ≠ 0 then (D.delete (fileN nm n newK), D.dropE (fileN nm n newK))
  else if 200 ≤ (D.delete (fileN nm n newK)).files.length then
    if (D.delete (fileN nm n newK)).dropE (fileN nm n ackK) ≠ 0 then ((D.delete (fileN nm n newK)).delete (fileN nm n ackK), (D.delete (fileN nm n newK)).dropE (fileN nm n ackK))
    else ((D.delete (fileN nm n newK)).delete (fileN nm n ackK)).note (fileN nm n ackK) (4294967296 + cnt)
  else (D.delete (fileN nm n newK)).fresh (fileN nm n newK) (fileN nm n ackK) (4294967296 + cnt)
/-- A file's bytes; those of none are none. -/
def Dk.datN (D : Dk) (nm : List Nat) : List Nat := ((D.get nm).map (·.data)).getD []
/-- A segment's records, and what becomes of the disk. -/
def segN (D : Dk) (nm : List Nat) (n : Nat) : Dk × Int × List (List Nat) :=
  if (allN (D.datN (fileN nm n logK))).1.length < (countN (D.datN (fileN nm n ackK))).1 then (D, 9, [])
  else if (countN (D.datN (fileN nm n ackK))).2 = true then (D, 0, (allN (D.datN (fileN nm n logK))).1.take (countN (D.datN (fileN nm n ackK))).1)
  else if (countN (D.datN (fileN nm n ackK))).1 < (allN (D.datN (fileN nm n logK))).1.length ∨ (allN (D.datN (fileN nm n logK))).2.1 < (D.datN (fileN nm n logK)).length then
    ((D.again nm n (allN (D.datN (fileN nm n logK))).1.length).1, (D.again nm n (allN (D.datN (fileN nm n logK))).1.length).2, (allN (D.datN (fileN nm n logK))).1)
  else (D, 0, (allN (D.datN (fileN nm n logK))).1)
theorem numsL_ex (nm : List Nat) (names : List (List Nat)) : ∃ l : List Nat, l.Pairwise (· < ·) ∧ l.length ≤ 1000000 ∧ ∀ n, n ∈ l ↔ NumIn nm names n := by
  classical
  obtain ⟨M, hM⟩ : ∃ M, M = 1000000 := ⟨_, rfl⟩
  refine ⟨(List.range M).filter fun n => decide (NumIn nm names n), List.Pairwise.filter _ List.pairwise_lt_range, Nat.le_trans (List.length_filter_le _ _) (by rw [List.length_range]; omega), fun n => ?_⟩
  rw [List.mem_filter, List.mem_range, decide_eq_true_eq]
  exact ⟨fun h => h.2, fun h => ⟨by have := h.1; omega, h⟩⟩
/-- The numbers that names tell, in order. -/
noncomputable def numsL (nm : List Nat) (names : List (List Nat)) : List Nat := Classical.choose (numsL_ex nm names)
/-- All segments, one behind the other: the disk, why not, the records, the next number. -/
def openGo (nm : List Nat) : List Nat → Dk → List (Nat × List Nat) → Nat → Dk × Int × List (Nat × List Nat) × Nat
  | [], D, acc, num => (D, 0, acc, num)
  | n :: r, D, acc, _ => if (segN D nm n).2.1 ≠ 0 then ((segN D nm n).1, (segN D nm n).2.1, [], 0) else openGo nm r (segN D nm n).1 (acc ++ (segN D nm n).2.2.map fun s => (n, s)) (n + 1)
noncomputable def openW (D : Dk) (nm : List Nat) : Dk × Int × List (Nat × List Nat) × Nat := openGo nm (numsL nm (D.files.map (·.1))) D [] 0
end Go.Proofs.YtdpipgidpkmolaaGreatDoor

namespace Go.Proofs.YtdpipgidpkmolaaGreatDoor
open Go.RowKit

theorem fileN_byt {nm k : List Nat} (n : Nat) (hn : Byt nm) (hk : Byt k) : Byt (fileN nm n k) := by
  unfold fileN
  refine Byt.app (Byt.app (Byt.app hn (by intro d hd; simp at hd; omega)) (fun c hc => ?_)) hk
  have := dig6_lt n c hc
  omega
theorem fileN_len {nm k : List Nat} {n : Nat} (hn : n ≤ 999999) : (fileN nm n k).length = nm.length + 7 + k.length := by
  unfold fileN
  have := dig6_len hn
  simp only [List.length_append, List.length_singleton]
  omega
theorem logK_byt : Byt logK := by intro d hd; revert d; decide
theorem ackK_byt : Byt ackK := by intro d hd; revert d; decide
theorem note_any (B g0 gd n c : Nat) (D : Dk) (nm : List Nat) (num count size : Int) (broken : Bool) (w : World) (gv : Gv w) (hgB : max 2 1 < B) (k0 : Blk w g0 111 (wlCs gd nm num count size broken)) (dk : DkAt w B gd D) (hn : n ≤ 999999) (hnm : Byt nm) (hnl : nm.length ≤ 8) (hc : c ≤ 9000000000) :
    Calls Tryz.prog 131 #[.pointer (some ⟨g0, 0, none⟩), .int .i64 (n : Int), .int .i64 (c : Int)] w fun e w' => e = .returned (.int .i64 (D.note (fileN nm n ackK) c).2) ∧ DkAt w' B gd (D.note (fileN nm n ackK) c).1 ∧ Df B w w' := by
  have df := Df.refl B w
  have hab := fileN_byt n hnm ackK_byt
  have hal : (fileN nm n ackK).length ≤ 1000 := by rw [fileN_len hn]; show nm.length + 7 + 4 ≤ _; omega
  refine Calls.start 29 Tryz.func131 rfl rfl rfl ?_
  refine Cd.seq ?_
  refine Cd.region ?_
  refine Seq.val (Runs.assign rfl rfl) rfl rfl rfl ?_
  refine Seq.nil ?_
  refine Post.weak (F' := [(0, _), (1, _), (2, _), (6, _)]) ⟨rfl, rfl, rfl, rfl, trivial⟩ ?_
  refine Post.then_ ?_
  refine Cd.seq ?_
  refine Cd.seq ?_
  refine Cd.draw 9 (by kernel_rfl) [] (.inl rfl) rfl Grow Grow.refl (fun _ _ _ => Grow.trans) ?_
  intro w1 hw1 zw1
  replace df := df.step hw1
  replace dk := dk.step hw1
  replace k0 := k0.step hw1
  replace gv := gv.step hw1
  have zlt := k0.lt
  refine Dr.val Grow.refl rfl (fun w hG => Runs.move rfl rfl) rfl ?_
  refine Dr.val Grow.refl rfl (fun w hG => Runs.nilCheck rfl rfl) rfl ?_
  refine Dr.val Grow.refl rfl (fun w hG => Runs.fieldB 0 rfl rfl Tryz.underlying111 rfl (by kernel_rfl)) rfl ?_
  refine Dr.val Grow.refl rfl (fun w hG => Runs.loadB rfl rfl Tryz.underlying26 rfl (k0.step hG) rfl) rfl ?_
  refine Dr.val Grow.refl rfl (fun w hG => Runs.move rfl rfl) rfl ?_
  refine Dr.val Grow.refl rfl (fun w hG => Runs.move rfl rfl) rfl ?_
  refine Dr.callV rfl (fun w => Enters.func rfl rfl rfl (run_enter Tryz.func106 (by kernel_rfl) rfl)) rfl (fun w hG => file_any g0 gd n nm ackK num count size broken w (gv.step hG) (k0.step hG) hn (by omega) (by decide)) ?_
  refine Dr.val Grow.refl rfl (fun w hG => Runs.move rfl rfl) rfl ?_
  refine Dr.callV rfl (fun w => Enters.func rfl rfl rfl (run_enter Tryz.func152 (by kernel_rfl) rfl)) rfl (fun w hG => marked_any c w (gv.step hG).nib (by omega)) ?_
  refine FinX.done (F' := [(0, _), (1, _), (2, _), (6, _), (11, _), (14, _), (16, _)]) rfl ⟨rfl, rfl, rfl, rfl, rfl, rfl, rfl, trivial⟩ ?_
  intro w2 hw2 fw2
  replace df := df.step hw2
  replace dk := dk.step hw2
  replace k0 := k0.step hw2
  replace gv := gv.step hw2
  obtain ⟨ack, hack⟩ : ∃ x, x = fileN nm n ackK := ⟨_, rfl⟩
  rw [← hack] at hab hal
  rw [← hack]
  refine Seq.call (Enters.func rfl rfl rfl (run_enter Tryz.func95 (by kernel_rfl) rfl)) rfl rfl rfl (append_d_any B gd D ack (markN c) _ dk hab (markN_lt c) (by omega) (by rw [markN_len]; omega)) ?_
  clear dk
  rintro e w3 ⟨rfl, dk, fw3⟩
  refine ⟨_, rfl, ?_⟩
  replace df := df.df fw3
  replace k0 := k0.df fw3
  replace gv := gv.df fw3
  refine Seq.val (Runs.assign rfl rfl) rfl rfl rfl ?_
  refine Seq.nil ?_
  refine Post.weak (F' := [(0, _), (1, _), (2, _), (6, _), (7, _)]) ⟨rfl, rfl, rfl, rfl, rfl, trivial⟩ ?_
  refine Post.then_ ?_
  refine Cd.seq ?_
  refine Cd.region ?_
  refine Seq.val (Runs.move rfl rfl) rfl rfl rfl ?_
  refine Seq.val (Runs.neqI rfl rfl rfl) rfl rfl rfl ?_
  refine Seq.nil ?_
  refine Post.weak (F' := [(0, _), (1, _), (2, _), (6, _), (7, _), (19, _)]) ⟨rfl, rfl, rfl, rfl, rfl, rfl, trivial⟩ ?_
  refine Post.then_ ?_
  refine Cd.cond rfl (fun h => ?_) (fun h => ?_)
  · have h : D.appendE ack (markN c) ≠ 0 := by simpa using h
    have hN : D.note ack c = (D.append ack (markN c), D.appendE ack (markN c)) := by unfold Dk.note; rw [if_pos h]
    rw [hN]
    refine Cd.seq ?_
    refine Cd.region ?_
    refine Seq.val (Runs.move rfl rfl) rfl rfl rfl ?_
    refine Seq.val (Runs.assign rfl rfl) rfl rfl rfl ?_
    refine Seq.nil ?_
    refine Post.weak (F' := [(0, _), (1, _), (2, _), (6, _), (7, _), (19, _)]) ⟨rfl, rfl, rfl, rfl, rfl, rfl, trivial⟩ ?_
    refine Post.then_ ?_
    refine Cd.ret ?_
    refine Post.then_ret ?_
    refine Post.end1 rfl rfl (.inl rfl) ?_
    exact ⟨rfl, dk, df⟩
  have h : ¬ (D.appendE ack (markN c) ≠ 0) := by simpa using h
  have hN : D.note ack c = ((D.append ack (markN c)).sync ack, (D.append ack (markN c)).thereE [ack] ack) := by unfold Dk.note; rw [if_neg h]
  rw [hN]
  refine Cd.skip ?_
  refine Post.then_ ?_
  refine Cd.seq ?_
  refine Cd.draw 7 (by kernel_rfl) [] (.inl rfl) rfl Grow Grow.refl (fun _ _ _ => Grow.trans) ?_
  intro w4 hw4 zw4
  replace df := df.step hw4
  replace dk := dk.step hw4
  replace k0 := k0.step hw4
  replace gv := gv.step hw4
  have zlt := k0.lt
  refine Dr.val Grow.refl rfl (fun w hG => Runs.move rfl rfl) rfl ?_
  refine Dr.val Grow.refl rfl (fun w hG => Runs.nilCheck rfl rfl) rfl ?_
  refine Dr.val Grow.refl rfl (fun w hG => Runs.fieldB 0 rfl rfl Tryz.underlying111 rfl (by kernel_rfl)) rfl ?_
  refine Dr.val Grow.refl rfl (fun w hG => Runs.loadB rfl rfl Tryz.underlying26 rfl (k0.step hG) rfl) rfl ?_
  refine Dr.val Grow.refl rfl (fun w hG => Runs.move rfl rfl) rfl ?_
  refine Dr.val Grow.refl rfl (fun w hG => Runs.move rfl rfl) rfl ?_
  refine Dr.callV rfl (fun w => Enters.func rfl rfl rfl (run_enter Tryz.func106 (by kernel_rfl) rfl)) rfl (fun w hG => file_any g0 gd n nm ackK num count size broken w (gv.step hG) (k0.step hG) hn (by omega) (by decide)) ?_
  refine FinX.done (F' := [(0, _), (1, _), (2, _), (6, _), (7, _), (19, _), (24, _), (27, _)]) rfl ⟨rfl, rfl, rfl, rfl, rfl, rfl, rfl, rfl, trivial⟩ ?_
  intro w5 hw5 fw5
  replace df := df.step hw5
  replace dk := dk.step hw5
  replace k0 := k0.step hw5
  replace gv := gv.step hw5
  rw [← hack]
  refine Seq.call (Enters.func rfl rfl rfl (run_enter Tryz.func96 (by kernel_rfl) rfl)) rfl rfl rfl (sync_any B gd (D.append ack (markN c)) ack _ dk hab (by omega)) ?_
  clear dk
  rintro e w6 ⟨rfl, dk, fw6⟩
  refine ⟨_, rfl, ?_⟩
  replace df := df.df fw6
  replace k0 := k0.df fw6
  replace gv := gv.df fw6
  refine Seq.val (Runs.assign rfl rfl) rfl rfl rfl ?_
  refine Seq.nil ?_
  refine Post.weak (F' := [(0, _), (1, _), (2, _), (6, _), (7, _), (19, _)]) ⟨rfl, rfl, rfl, rfl, rfl, rfl, trivial⟩ ?_
  refine Post.then_ ?_
  refine Cd.ret ?_
  refine Post.end1 rfl rfl (.inl rfl) ?_
  exact ⟨rfl, dk, df⟩
end Go.Proofs.YtdpipgidpkmolaaGreatDoor

namespace Go.Proofs.YtdpipgidpkmolaaGreatDoor
open Go.RowKit

end Go.Proofs.YtdpipgidpkmolaaGreatDoor

namespace Go.Proofs.YtdpipgidpkmolaaGreatDoor
open Go.RowKit

theorem run_build_wal (gd : Nat) (nm : List Nat) (w : World) : (Instr.build 111 #[(0, .pointer (some ⟨gd, 0, none⟩)), (1, .string (strOf nm))]).run Tryz.prog w = .ok (.agg (wlCs gd nm 0 0 0 false)) w := by
  have hu := Tryz.underlying111
  unfold wlCs
  go_simp
/-- Records, laid flat. -/
def recV (r : Nat × List Nat) : List Value := [.int .i64 (r.1 : Int), .string (strOf r.2)]
def recsV (l : List (Nat × List Nat)) : List Value := l.flatMap recV
/-- What Open answers. -/
def OpenR (w w' : World) (gd : Nat) (nm : List Nat) (v1 v2 : Value) (r : Dk × Int × List (Nat × List Nat) × Nat) : Prop :=
  (r.2.1 ≠ 0 ∧ v1 = .pointer none ∧ v2 = .slice none 0 0) ∨
  (r.2.1 = 0 ∧ ∃ g, v1 = .pointer (some ⟨g, 0, none⟩) ∧ w.heap.size ≤ g ∧ Blk w' g 111 (wlCs gd nm (r.2.2.2 : Int) 0 0 false) ∧ Own w' w.heap.size 115 2 v2 r.2.2.1.length (recsV r.2.2.1))
end Go.Proofs.YtdpipgidpkmolaaGreatDoor

namespace Go.Proofs.YtdpipgidpkmolaaGreatDoor
open Go.RowKit

section
variable {P : Program} {ops : Array Oper} {Q : Exit → Act → World → Prop} {rest : List Oper} {o : Oper} {n d : Nat} {F : List (Nat × Value)} {C : Cxs} {w w' : World} {v : Value} {c : Bool} {H : List (Nat × Value)}
/-- A call under the same guard, of whose value only something is known. -/
theorem SeqC.nextCE {f : FuncId} {args : Array Value} {j t : Nat} {b want : Bool} {c0 : Bool} {Φ : Value → World → Prop} (hg : o.guard = some (j, want)) (ht : (ops[j]?).bind (·.dst) = some t) (hb : look (match C with | [] => F | (_, H) :: _ => H) t = some (.bool b)) (hc0 : c0 = (topX C && (b == want))) (hd : o.dst = some d) (hn : Nat.blt d n = true) (hf : freeX d ((c0, H) :: C) F = true)
    (hrun : c0 = true → Enters P (evF (allX ((c0, H) :: C) F)) o w f args) (hcall : c0 = true → Calls P f args w fun e w' => ∃ v, e = .returned v ∧ Φ v w' ∧ Grow w w') (h : ∀ v w', (c0 = true → Φ v w') → Grow w w' → SeqC P ops Q rest n ((c0, (d, v) :: H) :: C) F w') : SeqC P ops Q (o :: rest) n ((c0, H) :: C) F w := by
  intro a ha hC
  obtain ⟨h1, h2, h3, h4⟩ := id hC
  refine wpList_step fun K hK => ?_
  have hwant : Region.wanted o (yielded ops a.tmps) = c0 := by
    rw [hc0]
    have hy : yielded ops a.tmps j = if topX C = true then some b else none := by
      unfold yielded
      simp only [ht, Option.bind_some]
      cases C with
      | nil => simp [topX, ha.slot t _ hb]
      | cons x r =>
        obtain ⟨c1, H1⟩ := x
        obtain ⟨g1, g2, g3, g4⟩ := h4
        cases c1
        · simp [topX, g3 rfl t _ hb, undef]
        · simp [topX, g2 rfl t _ hb]
    unfold Region.wanted
    simp only [hg, hy]
    cases topX C <;> cases b <;> cases want <;> rfl
  rw [hwant]
  have hbase := freeX_base hf
  have hne : ∀ t u, look H t = some u → d ≠ t := fun t u ht e => by
    subst e
    simp only [freeX, Bool.and_eq_true] at hf
    rw [ht] at hf; simp at hf
  have hf2 : freeX d C F = true := by simp only [freeX, Bool.and_eq_true] at hf; exact hf.2
  cases hc : c0 with
  | true =>
    rw [if_pos rfl]
    unfold Oper.wp
    rw [hrun hc a.eval (HoldX.fr ha hC hc).ev, Oper.upon_enter, hd]
    refine (hcall hc).mono fun e w' ⟨v, he', hΦ, hgr⟩ => ?_
    subst he'
    refine hK _ _ (h v _ (fun _ => hΦ) hgr _ (ha.keep hbase) ⟨h1, fun _ t' u hu => ?_, fun e => (by rw [hc] at e; cases e), h4.put hf2⟩)
    rcases look_put hu with ⟨rfl, rfl⟩ | ⟨-, hu⟩
    · simp [Act.put, ha.size, Nat.blt_eq.mp hn]
    · simp only [Act.put]; rw [Array.getElem?_setIfInBounds_ne (hne t' u hu)]; exact h2 hc t' u hu
  | false =>
    rw [if_neg (by simp), hd]
    refine hK _ _ (h undef _ (fun e => by rw [hc] at e; cases e) (Grow.refl _) _ (ha.keep hbase) ⟨h1, fun e => (by rw [hc] at e; cases e), fun _ t' u hu => ?_, h4.put hf2⟩)
    rcases look_put hu with ⟨rfl, rfl⟩ | ⟨-, hu⟩
    · simp [Act.put, ha.size, Nat.blt_eq.mp hn]
    · simp only [Act.put]; rw [Array.getElem?_setIfInBounds_ne (hne t' u hu)]; exact h3 hc t' u hu
end
/-- Whether there is room for a frame. -/
def roomW (D : Dk) (num count len : Nat) : Bool := decide ((len : Int) + 24 ≤ D.room - D.used) && (!decide (count = 0) || decide (D.files.length + 2 ≤ 200)) && decide (num ≤ 999999)
/-- A frame laid, and marked. -/
def Dk.lay (D : Dk) (nm : List Nat) (num count : Nat) (s : List Nat) : Dk × Int :=
  if D.appendE (fileN nm num logK) s ≠ 0 then (D.append (fileN nm num logK) s, D.appendE (fileN nm num logK) s)
  else if (D.append (fileN nm num logK) s).thereE [fileN nm num logK] (fileN nm num logK) ≠ 0 then ((D.append (fileN nm num logK) s).sync (fileN nm num logK), (D.append (fileN nm num logK) s).thereE [fileN nm num logK] (fileN nm num logK))
  else ((D.append (fileN nm num logK) s).sync (fileN nm num logK)).note (fileN nm num ackK) (count + 1)
/-- A log under way. -/
structure Wl where
  num : Nat
  count : Nat
  size : Nat
  broken : Bool
def Wl.cs (W : Wl) (gd : Nat) (nm : List Nat) : Array Value := wlCs gd nm (W.num : Int) (W.count : Int) (W.size : Int) W.broken
def Wl.rotate (W : Wl) : Wl := if 0 < W.count then ⟨W.num + 1, 0, 0, W.broken⟩ else W
def Wl.least (W : Wl) (n : Int) : Wl := if (W.num : Int) < n then ⟨n.toNat, 0, 0, W.broken⟩ else W
/-- Behind a rotation, where the segment is full. -/
def Wl.turned (W : Wl) (data : List Nat) : Wl := if 1048576 - (W.size : Int) < ((data.length + 12 : Nat) : Int) then W.rotate else W
/-- A record behind the others. -/
def appW (W : Wl) (D : Dk) (nm data : List Nat) : Wl × Dk × Int :=
  if 131072 < data.length then (W, D, 4)
  else if W.broken = true then (W, D, 6)
  else if roomW D (W.turned data).num (W.turned data).count (data.length + 12) = false then (W.turned data, D, 5)
  else if (D.lay nm (W.turned data).num (W.turned data).count (frameN data)).2 ≠ 0 then ({ W.turned data with broken := true }, (D.lay nm (W.turned data).num (W.turned data).count (frameN data)).1, (D.lay nm (W.turned data).num (W.turned data).count (frameN data)).2)
  else (⟨(W.turned data).num, (W.turned data).count + 1, (W.turned data).size + (data.length + 12), (W.turned data).broken⟩, (D.lay nm (W.turned data).num (W.turned data).count (frameN data)).1, 0)
theorem room_any (B g0 gd : Nat) (D : Dk) (nm s : List Nat) (W : Wl) (w : World) (k0 : Blk w g0 111 (W.cs gd nm)) (dk : DkAt w B gd D) (hs : s.length ≤ 1000000) :
    Calls Tryz.prog 77 #[.pointer (some ⟨g0, 0, none⟩), .string (strOf s)] w fun e w' => e = .returned (.bool (roomW D W.num W.count s.length)) ∧ Grow w w' := by
  have bel := Below.refl w.heap.size w
  have hok := dk.ok
  have hlen := hok.most
  unfold Wl.cs at k0
  refine Calls.start 41 Tryz.func77 rfl rfl rfl ?_
  refine Cd.seq ?_
  refine Cd.region ?_
  refine Seq.val (Runs.assign rfl rfl) rfl rfl rfl ?_
  refine Seq.nil ?_
  refine Post.weak (F' := [(0, _), (1, _), (4, _)]) ⟨rfl, rfl, rfl, trivial⟩ ?_
  refine Post.then_ ?_
  refine Cd.seq ?_
  refine Cd.region ?_
  refine Seq.val (Runs.move rfl rfl) rfl rfl rfl ?_
  refine Seq.val (Runs.nilCheck rfl rfl) rfl rfl rfl ?_
  refine Seq.val (Runs.fieldB 3 rfl rfl Tryz.underlying111 rfl (by kernel_rfl)) rfl rfl rfl ?_
  refine Seq.val (Runs.loadB rfl rfl Tryz.underlying3 rfl k0 rfl) rfl rfl rfl ?_
  refine Seq.val (Runs.eqlI rfl rfl rfl) rfl rfl rfl ?_
  refine Seq.val (Runs.assign rfl rfl) rfl rfl rfl ?_
  refine Seq.nil ?_
  refine Post.weak (F' := [(0, _), (1, _), (4, _), (5, _)]) ⟨rfl, rfl, rfl, rfl, trivial⟩ ?_
  refine Post.then_ ?_
  refine Cd.seq ?_
  refine Cd.region ?_
  refine Seq.val (Runs.move rfl rfl) rfl rfl rfl ?_
  refine Seq.val (Runs.lenL rfl rfl Tryz.underlying9) rfl rfl rfl ?_
  refine Seq.val (Runs.addI rfl rfl rfl (by omega) (by omega)) rfl rfl rfl ?_
  refine Seq.val (Runs.move rfl rfl) rfl rfl rfl ?_
  refine Seq.val (Runs.nilCheck rfl rfl) rfl rfl rfl ?_
  refine Seq.val (Runs.fieldB 0 rfl rfl Tryz.underlying111 rfl (by kernel_rfl)) rfl rfl rfl ?_
  refine Seq.val (Runs.loadB rfl rfl Tryz.underlying26 rfl k0 rfl) rfl rfl rfl ?_
  refine Seq.call (Enters.func rfl rfl rfl (run_enter Tryz.func130 (by kernel_rfl) rfl)) rfl rfl rfl (free_any B gd D _ dk) ?_
  rintro e w5 ⟨rfl, hb5⟩
  refine ⟨_, rfl, ?_⟩
  replace bel := bel.step hb5
  replace k0 := k0.step hb5
  replace dk := dk.step hb5
  refine Seq.val (Runs.leq rfl rfl rfl) rfl rfl rfl ?_
  refine Seq.val (Runs.move rfl rfl) rfl rfl rfl ?_
  refine SeqC.start ?_
  refine SeqC.open rfl rfl rfl rfl rfl rfl rfl (fun hcx => Runs.move rfl rfl) ?_
  refine SeqC.next rfl rfl rfl rfl rfl rfl rfl (fun hcx => Runs.not rfl rfl) ?_
  refine SeqC.next rfl rfl rfl rfl rfl rfl rfl (fun hcx => Runs.move rfl rfl) ?_
  refine SeqC.open rfl rfl rfl rfl rfl rfl rfl (fun hcx => Runs.move rfl rfl) ?_
  refine SeqC.next rfl rfl rfl rfl rfl rfl rfl (fun hcx => Runs.nilCheck rfl rfl) ?_
  refine SeqC.next rfl rfl rfl rfl rfl rfl rfl (fun hcx => Runs.fieldB 0 rfl rfl Tryz.underlying111 rfl (by kernel_rfl)) ?_
  refine SeqC.next rfl rfl rfl rfl rfl rfl rfl (fun hcx => Runs.loadB rfl rfl Tryz.underlying26 rfl k0 rfl) ?_
  refine SeqC.nextCE (Φ := fun v _ => ∃ A c, v = .slice A D.files.length c) rfl rfl rfl rfl rfl rfl rfl (fun hcx => Enters.func rfl rfl rfl (run_enter Tryz.func19 (by kernel_rfl) rfl)) (fun hcx => (names_any B gd D _ dk).mono ?_) ?_
  · rintro e w' ⟨v, rfl, own, hb⟩
    obtain ⟨A, c, rfl, -⟩ := own.reads
    exact ⟨_, rfl, ⟨A, c, rfl⟩, hb⟩
  intro v28 w28 hv28 hb28
  replace bel := bel.step hb28
  replace k0 := k0.step hb28
  replace dk := dk.step hb28
  refine SeqC.next rfl rfl rfl rfl rfl rfl rfl (fun hcx => (by obtain ⟨A, c, rfl⟩ := hv28 hcx; exact Runs.len rfl rfl Tryz.underlying54)) ?_
  refine SeqC.next rfl rfl rfl rfl rfl rfl rfl (fun hcx => Runs.addI rfl rfl rfl (by omega) (by omega)) ?_
  refine SeqC.next rfl rfl rfl rfl rfl rfl rfl (fun hcx => Runs.leq rfl rfl rfl) ?_
  refine SeqC.orG rfl rfl rfl rfl rfl rfl rfl rfl rfl rfl rfl ?_
  refine SeqC.and rfl rfl rfl rfl rfl rfl rfl ?_
  refine Seq.val (Runs.move rfl rfl) rfl rfl rfl ?_
  refine SeqC.start ?_
  refine SeqC.open rfl rfl rfl rfl rfl rfl rfl (fun hcx => Runs.move rfl rfl) ?_
  refine SeqC.next rfl rfl rfl rfl rfl rfl rfl (fun hcx => Runs.nilCheck rfl rfl) ?_
  refine SeqC.next rfl rfl rfl rfl rfl rfl rfl (fun hcx => Runs.fieldB 2 rfl rfl Tryz.underlying111 rfl (by kernel_rfl)) ?_
  refine SeqC.next rfl rfl rfl rfl rfl rfl rfl (fun hcx => Runs.loadB rfl rfl Tryz.underlying3 rfl k0 rfl) ?_
  refine SeqC.next rfl rfl rfl rfl rfl rfl rfl (fun hcx => Runs.leq rfl rfl rfl) ?_
  refine SeqC.and rfl rfl rfl rfl rfl rfl rfl ?_
  refine Seq.val (Runs.assign rfl rfl) rfl rfl rfl ?_
  refine Seq.nil ?_
  refine Post.weak (F' := [(0, _), (1, _), (4, _), (5, _)]) ⟨rfl, rfl, rfl, rfl, trivial⟩ ?_
  refine Post.then_ ?_
  refine Cd.ret ?_
  refine Post.end1 rfl rfl (.inl rfl) ?_
  refine ⟨?_, bel⟩
  have e1 : decide ((W.count : Int) = 0) = decide (W.count = 0) := decide_eq_decide.2 (by omega)
  have e2 : decide ((D.files.length : Int) + 2 ≤ 200) = decide (D.files.length + 2 ≤ 200) := decide_eq_decide.2 (by omega)
  have e3 : decide ((W.num : Int) ≤ 999999) = decide (W.num ≤ 999999) := decide_eq_decide.2 (by omega)
  unfold roomW
  rw [← e1, ← e2, ← e3]
theorem lay_any (B g0 gd : Nat) (D : Dk) (nm s : List Nat) (W : Wl) (w : World) (gv : Gv w) (hgB : max 2 1 < B) (k0 : Blk w g0 111 (W.cs gd nm)) (dk : DkAt w B gd D) (hnm : Byt nm) (hnl : nm.length ≤ 8) (hn : W.num ≤ 999999) (hc : W.count ≤ 1000000) (hs : Byt s) (hsl : s.length ≤ 1000000) :
    Calls Tryz.prog 78 #[.pointer (some ⟨g0, 0, none⟩), .string (strOf s)] w fun e w' => e = .returned (.int .i64 (D.lay nm W.num W.count s).2) ∧ DkAt w' B gd (D.lay nm W.num W.count s).1 ∧ Df B w w' := by
  have df := Df.refl B w
  obtain ⟨num, count, size, broken⟩ := W
  simp only at hn hc
  unfold Wl.cs at k0
  simp only at k0 ⊢
  have hlb := fileN_byt num hnm logK_byt
  have hll : (fileN nm num logK).length ≤ 1000 := by rw [fileN_len hn]; show nm.length + 7 + 4 ≤ _; omega
  unfold Dk.lay
  refine Calls.start 44 Tryz.func78 rfl rfl rfl ?_
  refine Cd.seq ?_
  refine Cd.region ?_
  refine Seq.val (Runs.assign rfl rfl) rfl rfl rfl ?_
  refine Seq.nil ?_
  refine Post.weak (F' := [(0, _), (1, _), (4, _)]) ⟨rfl, rfl, rfl, trivial⟩ ?_
  refine Post.then_ ?_
  refine Cd.seq ?_
  refine Cd.region ?_
  refine Seq.val (Runs.move rfl rfl) rfl rfl rfl ?_
  refine Seq.val (Runs.move rfl rfl) rfl rfl rfl ?_
  refine Seq.val (Runs.nilCheck rfl rfl) rfl rfl rfl ?_
  refine Seq.val (Runs.fieldB 2 rfl rfl Tryz.underlying111 rfl (by kernel_rfl)) rfl rfl rfl ?_
  refine Seq.val (Runs.loadB rfl rfl Tryz.underlying3 rfl k0 rfl) rfl rfl rfl ?_
  refine Seq.call (Enters.func rfl rfl rfl (run_enter Tryz.func106 (by kernel_rfl) rfl)) rfl rfl rfl (file_any g0 gd num nm logK num count size broken _ gv k0 hn (by omega) (by decide)) ?_
  rintro e w5 ⟨rfl, hb5⟩
  refine ⟨_, rfl, ?_⟩
  replace df := df.step hb5
  replace dk := dk.step hb5
  replace k0 := k0.step hb5
  replace gv := gv.step hb5
  obtain ⟨lg, hlg⟩ : ∃ x, x = fileN nm num logK := ⟨_, rfl⟩
  rw [← hlg] at hlb hll
  rw [← hlg]
  refine Seq.val (Runs.assign rfl rfl) rfl rfl rfl ?_
  refine Seq.nil ?_
  refine Post.weak (F' := [(0, _), (1, _), (4, _), (5, _)]) ⟨rfl, rfl, rfl, rfl, trivial⟩ ?_
  refine Post.then_ ?_
  refine Cd.seq ?_
  refine Cd.seq ?_
  refine Cd.region ?_
  refine Seq.val (Runs.move rfl rfl) rfl rfl rfl ?_
  refine Seq.val (Runs.nilCheck rfl rfl) rfl rfl rfl ?_
  refine Seq.val (Runs.fieldB 0 rfl rfl Tryz.underlying111 rfl (by kernel_rfl)) rfl rfl rfl ?_
  refine Seq.val (Runs.loadB rfl rfl Tryz.underlying26 rfl k0 rfl) rfl rfl rfl ?_
  refine Seq.val (Runs.move rfl rfl) rfl rfl rfl ?_
  refine Seq.val (Runs.move rfl rfl) rfl rfl rfl ?_
  refine Seq.call (Enters.func rfl rfl rfl (run_enter Tryz.func95 (by kernel_rfl) rfl)) rfl rfl rfl (append_d_any B gd D lg s _ dk hlb hs (by omega) (by omega)) ?_
  clear dk
  rintro e w1 ⟨rfl, dk, fw1⟩
  refine ⟨_, rfl, ?_⟩
  replace df := df.df fw1
  replace k0 := k0.df fw1
  replace gv := gv.df fw1
  refine Seq.val (Runs.assign rfl rfl) rfl rfl rfl ?_
  refine Seq.nil ?_
  refine Post.weak (F' := [(0, _), (1, _), (4, _), (5, _), (6, _)]) ⟨rfl, rfl, rfl, rfl, rfl, trivial⟩ ?_
  refine Post.then_ ?_
  refine Cd.seq ?_
  refine Cd.region ?_
  refine Seq.val (Runs.move rfl rfl) rfl rfl rfl ?_
  refine Seq.val (Runs.neqI rfl rfl rfl) rfl rfl rfl ?_
  refine Seq.nil ?_
  refine Post.weak (F' := [(0, _), (1, _), (4, _), (5, _), (6, _), (22, _)]) ⟨rfl, rfl, rfl, rfl, rfl, rfl, trivial⟩ ?_
  refine Post.then_ ?_
  refine Cd.cond rfl (fun h => ?_) (fun h => ?_)
  · have h : D.appendE lg s ≠ 0 := by simpa using h
    rw [if_pos h]
    refine Cd.seq ?_
    refine Cd.region ?_
    refine Seq.val (Runs.move rfl rfl) rfl rfl rfl ?_
    refine Seq.val (Runs.assign rfl rfl) rfl rfl rfl ?_
    refine Seq.nil ?_
    refine Post.weak (F' := [(0, _), (1, _), (4, _), (5, _), (6, _), (22, _)]) ⟨rfl, rfl, rfl, rfl, rfl, rfl, trivial⟩ ?_
    refine Post.then_ ?_
    refine Cd.ret ?_
    refine Post.then_ret ?_
    refine Post.end1 rfl rfl (.inl rfl) ?_
    exact ⟨rfl, dk, df⟩
  have h : ¬ (D.appendE lg s ≠ 0) := by simpa using h
  rw [if_neg h]
  obtain ⟨D1, hD1⟩ : ∃ x, x = D.append lg s := ⟨_, rfl⟩
  rw [← hD1] at dk
  rw [← hD1]
  refine Cd.skip ?_
  refine Post.then_ ?_
  refine Cd.seq ?_
  refine Cd.seq ?_
  refine Cd.region ?_
  refine Seq.val (Runs.move rfl rfl) rfl rfl rfl ?_
  refine Seq.val (Runs.nilCheck rfl rfl) rfl rfl rfl ?_
  refine Seq.val (Runs.fieldB 0 rfl rfl Tryz.underlying111 rfl (by kernel_rfl)) rfl rfl rfl ?_
  refine Seq.val (Runs.loadB rfl rfl Tryz.underlying26 rfl k0 rfl) rfl rfl rfl ?_
  refine Seq.val (Runs.move rfl rfl) rfl rfl rfl ?_
  refine Seq.call (Enters.func rfl rfl rfl (run_enter Tryz.func96 (by kernel_rfl) rfl)) rfl rfl rfl (sync_any B gd D1 lg _ dk hlb (by omega)) ?_
  clear dk
  rintro e w2 ⟨rfl, dk, fw2⟩
  refine ⟨_, rfl, ?_⟩
  replace df := df.df fw2
  replace k0 := k0.df fw2
  replace gv := gv.df fw2
  refine Seq.val (Runs.assign rfl rfl) rfl rfl rfl ?_
  refine Seq.nil ?_
  refine Post.weak (F' := [(0, _), (1, _), (4, _), (5, _), (6, _), (7, _), (22, _)]) ⟨rfl, rfl, rfl, rfl, rfl, rfl, rfl, trivial⟩ ?_
  refine Post.then_ ?_
  refine Cd.seq ?_
  refine Cd.region ?_
  refine Seq.val (Runs.move rfl rfl) rfl rfl rfl ?_
  refine Seq.val (Runs.neqI rfl rfl rfl) rfl rfl rfl ?_
  refine Seq.nil ?_
  refine Post.weak (F' := [(0, _), (1, _), (4, _), (5, _), (6, _), (7, _), (22, _), (31, _)]) ⟨rfl, rfl, rfl, rfl, rfl, rfl, rfl, rfl, trivial⟩ ?_
  refine Post.then_ ?_
  refine Cd.cond rfl (fun h => ?_) (fun h => ?_)
  · have h : D1.thereE [lg] lg ≠ 0 := by simpa using h
    rw [if_pos h]
    refine Cd.seq ?_
    refine Cd.region ?_
    refine Seq.val (Runs.move rfl rfl) rfl rfl rfl ?_
    refine Seq.val (Runs.assign rfl rfl) rfl rfl rfl ?_
    refine Seq.nil ?_
    refine Post.weak (F' := [(0, _), (1, _), (4, _), (5, _), (6, _), (7, _), (22, _), (31, _)]) ⟨rfl, rfl, rfl, rfl, rfl, rfl, rfl, rfl, trivial⟩ ?_
    refine Post.then_ ?_
    refine Cd.ret ?_
    refine Post.then_ret ?_
    refine Post.end1 rfl rfl (.inl rfl) ?_
    exact ⟨rfl, dk, df⟩
  have h : ¬ (D1.thereE [lg] lg ≠ 0) := by simpa using h
  rw [if_neg h]
  refine Cd.skip ?_
  refine Post.then_ ?_
  refine Cd.seq ?_
  refine Cd.draw 10 (by kernel_rfl) [] (.inl rfl) rfl Grow Grow.refl (fun _ _ _ => Grow.trans) ?_
  intro w3 hw3 zw3
  replace df := df.step hw3
  replace dk := dk.step hw3
  replace k0 := k0.step hw3
  replace gv := gv.step hw3
  have zlt := k0.lt
  refine Dr.val Grow.refl rfl (fun w hG => Runs.move rfl rfl) rfl ?_
  refine Dr.val Grow.refl rfl (fun w hG => Runs.move rfl rfl) rfl ?_
  refine Dr.val Grow.refl rfl (fun w hG => Runs.nilCheck rfl rfl) rfl ?_
  refine Dr.val Grow.refl rfl (fun w hG => Runs.fieldB 2 rfl rfl Tryz.underlying111 rfl (by kernel_rfl)) rfl ?_
  refine Dr.val Grow.refl rfl (fun w hG => Runs.loadB rfl rfl Tryz.underlying3 rfl (k0.step hG) rfl) rfl ?_
  refine Dr.val Grow.refl rfl (fun w hG => Runs.move rfl rfl) rfl ?_
  refine Dr.val Grow.refl rfl (fun w hG => Runs.nilCheck rfl rfl) rfl ?_
  refine Dr.val Grow.refl rfl (fun w hG => Runs.fieldB 3 rfl rfl Tryz.underlying111 rfl (by kernel_rfl)) rfl ?_
  refine Dr.val Grow.refl rfl (fun w hG => Runs.loadB rfl rfl Tryz.underlying3 rfl (k0.step hG) rfl) rfl ?_
  refine Dr.val Grow.refl rfl (fun w hG => Runs.addI rfl rfl rfl (by omega) (by omega)) rfl ?_
  refine Dr.nil ?_
  refine FinX.done (F' := [(0, _), (1, _), (4, _), (5, _), (6, _), (7, _), (22, _), (31, _), (33, _), (37, _), (42, _)]) rfl ⟨rfl, rfl, rfl, rfl, rfl, rfl, rfl, rfl, rfl, rfl, rfl, trivial⟩ ?_
  intro w4 hw4 fw4
  replace df := df.step hw4
  replace dk := dk.step hw4
  replace k0 := k0.step hw4
  replace gv := gv.step hw4
  have e41 : (count : Int) + 1 = ((count + 1 : Nat) : Int) := by omega
  rw [e41]
  refine Seq.call (Enters.func rfl rfl rfl (run_enter Tryz.func131 (by kernel_rfl) rfl)) rfl rfl rfl (note_any B g0 gd num (count + 1) (D1.sync lg) nm num count size broken _ gv hgB k0 dk hn hnm hnl (by omega)) ?_
  clear dk
  rintro e w5 ⟨rfl, dk, fw5⟩
  refine ⟨_, rfl, ?_⟩
  replace df := df.df fw5
  replace k0 := k0.df fw5
  replace gv := gv.df fw5
  refine Seq.val (Runs.assign rfl rfl) rfl rfl rfl ?_
  refine Seq.nil ?_
  refine Post.weak (F' := [(0, _), (1, _), (4, _), (5, _), (6, _), (7, _), (22, _), (31, _)]) ⟨rfl, rfl, rfl, rfl, rfl, rfl, rfl, rfl, trivial⟩ ?_
  refine Post.then_ ?_
  refine Cd.ret ?_
  refine Post.end1 rfl rfl (.inl rfl) ?_
  exact ⟨rfl, dk, df⟩
end Go.Proofs.YtdpipgidpkmolaaGreatDoor

namespace Go.Proofs.YtdpipgidpkmolaaGreatDoor
open Go.RowKit

theorem rotate_any (B g0 gd : Nat) (D : Dk) (nm : List Nat) (W : Wl) (w : World) (e0 : B ≤ g0) (hB : B ≤ w.heap.size) (k0 : Blk w g0 111 (W.cs gd nm)) (dk : DkAt w B gd D) (hn : W.num ≤ 1000000000) :
    Calls Tryz.prog 76 #[.pointer (some ⟨g0, 0, none⟩)] w fun e w' => e = .returned (.int .i64 (W.rotate.num : Int)) ∧ Blk w' g0 111 (W.rotate.cs gd nm) ∧ DkAt w' B gd D ∧ Lf B w w' := by
  have lf := Lf.refl B w
  obtain ⟨num, count, size, broken⟩ := W
  simp only at hn
  unfold Wl.cs at k0
  unfold Wl.rotate
  simp only at k0 ⊢
  refine Calls.start 28 Tryz.func76 rfl rfl rfl ?_
  refine Cd.seq ?_
  refine Cd.region ?_
  refine Seq.val (Runs.assign rfl rfl) rfl rfl rfl ?_
  refine Seq.nil ?_
  refine Post.weak (F' := [(0, _), (2, _)]) ⟨rfl, rfl, trivial⟩ ?_
  refine Post.then_ ?_
  refine Cd.seq ?_
  refine Cd.seq ?_
  refine Cd.region ?_
  refine Seq.val (Runs.move rfl rfl) rfl rfl rfl ?_
  refine Seq.val (Runs.eqlP rfl rfl rfl Tryz.underlying68) rfl rfl rfl ?_
  refine Seq.nil ?_
  refine Post.weak (F' := [(0, _), (2, _), (4, _)]) ⟨rfl, rfl, rfl, trivial⟩ ?_
  refine Post.then_ ?_
  refine Cd.condF rfl rfl ?_
  refine Cd.skip ?_
  refine Post.then_ ?_
  refine Cd.seq ?_
  refine Cd.seq ?_
  refine Cd.region ?_
  refine Seq.val (Runs.move rfl rfl) rfl rfl rfl ?_
  refine Seq.val (Runs.nilCheck rfl rfl) rfl rfl rfl ?_
  refine Seq.val (Runs.fieldB 3 rfl rfl Tryz.underlying111 rfl (by kernel_rfl)) rfl rfl rfl ?_
  refine Seq.val (Runs.loadB rfl rfl Tryz.underlying3 rfl k0 rfl) rfl rfl rfl ?_
  refine Seq.val (Runs.gtr rfl rfl rfl) rfl rfl rfl ?_
  refine Seq.nil ?_
  refine Post.weak (F' := [(0, _), (2, _), (4, _), (9, _)]) ⟨rfl, rfl, rfl, rfl, trivial⟩ ?_
  refine Post.then_ ?_
  refine Cd.cond rfl (fun h => ?_) (fun h => ?_)
  · have h : 0 < count := by
      have h' : (0 : Int) < (count : Int) := by simpa using h
      omega
    rw [if_pos h]
    refine Cd.region ?_
    refine Seq.val (Runs.move rfl rfl) rfl rfl rfl ?_
    refine Seq.val (Runs.move rfl rfl) rfl rfl rfl ?_
    refine Seq.val (Runs.move rfl rfl) rfl rfl rfl ?_
    refine Seq.val (Runs.move rfl rfl) rfl rfl rfl ?_
    refine Seq.val (Runs.nilCheck rfl rfl) rfl rfl rfl ?_
    refine Seq.val (Runs.fieldB 2 rfl rfl Tryz.underlying111 rfl (by kernel_rfl)) rfl rfl rfl ?_
    refine Seq.val (Runs.loadB rfl rfl Tryz.underlying3 rfl k0 rfl) rfl rfl rfl ?_
    refine Seq.val (Runs.addI rfl rfl rfl (by omega) (by omega)) rfl rfl rfl ?_
    refine Seq.val (Runs.nilCheck rfl rfl) rfl rfl rfl ?_
    refine Seq.val (Runs.fieldB 2 rfl rfl Tryz.underlying111 rfl (by kernel_rfl)) rfl rfl rfl ?_
    refine Seq.store1 rfl rfl rfl (by kernel_rfl) rfl rfl k0 rfl rfl rfl ?_
    intro w1 pw1
    replace lf := lf.put k0 pw1 e0
    replace dk := dk.put k0 pw1 e0
    replace k0 := pw1.blk
    refine Seq.val (Runs.nilCheck rfl rfl) rfl rfl rfl ?_
    refine Seq.val (Runs.fieldB 3 rfl rfl Tryz.underlying111 rfl (by kernel_rfl)) rfl rfl rfl ?_
    refine Seq.store1 rfl rfl rfl (by kernel_rfl) rfl rfl k0 rfl rfl rfl ?_
    intro w2 pw2
    replace lf := lf.put k0 pw2 e0
    replace dk := dk.put k0 pw2 e0
    replace k0 := pw2.blk
    refine Seq.val (Runs.nilCheck rfl rfl) rfl rfl rfl ?_
    refine Seq.val (Runs.fieldB 4 rfl rfl Tryz.underlying111 rfl (by kernel_rfl)) rfl rfl rfl ?_
    refine Seq.store1 rfl rfl rfl (by kernel_rfl) rfl rfl k0 rfl rfl rfl ?_
    intro w3 pw3
    replace lf := lf.put k0 pw3 e0
    replace dk := dk.put k0 pw3 e0
    replace k0 := pw3.blk
    refine Seq.nil ?_
    refine Post.weak (F' := [(0, _), (2, _), (4, _), (9, _)]) ⟨rfl, rfl, rfl, rfl, trivial⟩ ?_
    refine Post.then_ ?_
    refine Cd.seq ?_
    refine Cd.region ?_
    refine Seq.val (Runs.move rfl rfl) rfl rfl rfl ?_
    refine Seq.val (Runs.nilCheck rfl rfl) rfl rfl rfl ?_
    refine Seq.val (Runs.fieldB 2 rfl rfl Tryz.underlying111 rfl (by kernel_rfl)) rfl rfl rfl ?_
    refine Seq.val (Runs.loadB rfl rfl Tryz.underlying3 rfl k0 rfl) rfl rfl rfl ?_
    refine Seq.val (Runs.assign rfl rfl) rfl rfl rfl ?_
    refine Seq.nil ?_
    refine Post.weak (F' := [(0, _), (2, _), (4, _), (9, _)]) ⟨rfl, rfl, rfl, rfl, trivial⟩ ?_
    refine Post.then_ ?_
    refine Cd.ret ?_
    refine Post.end1 rfl rfl (.inl rfl) ?_
    exact ⟨rfl, k0, dk, lf⟩
  · have h : ¬ (0 < count) := by
      have h' : ¬ ((0 : Int) < (count : Int)) := by simpa using h
      omega
    rw [if_neg h]
    refine Cd.skip ?_
    refine Post.then_ ?_
    refine Cd.seq ?_
    refine Cd.region ?_
    refine Seq.val (Runs.move rfl rfl) rfl rfl rfl ?_
    refine Seq.val (Runs.nilCheck rfl rfl) rfl rfl rfl ?_
    refine Seq.val (Runs.fieldB 2 rfl rfl Tryz.underlying111 rfl (by kernel_rfl)) rfl rfl rfl ?_
    refine Seq.val (Runs.loadB rfl rfl Tryz.underlying3 rfl k0 rfl) rfl rfl rfl ?_
    refine Seq.val (Runs.assign rfl rfl) rfl rfl rfl ?_
    refine Seq.nil ?_
    refine Post.weak (F' := [(0, _), (2, _), (4, _), (9, _)]) ⟨rfl, rfl, rfl, rfl, trivial⟩ ?_
    refine Post.then_ ?_
    refine Cd.ret ?_
    refine Post.end1 rfl rfl (.inl rfl) ?_
    exact ⟨rfl, k0, dk, lf⟩
end Go.Proofs.YtdpipgidpkmolaaGreatDoor

namespace Go.Proofs.YtdpipgidpkmolaaGreatDoor
open Go.RowKit

theorem turned_le (W : Wl) (data : List Nat) : (W.turned data).count ≤ W.count ∧ (W.turned data).num ≤ W.num + 1 ∧ (W.turned data).size ≤ W.size ∧ (W.turned data).broken = W.broken := by
  unfold Wl.turned Wl.rotate
  split
  · split
    · exact ⟨Nat.zero_le _, Nat.le_refl _, Nat.zero_le _, rfl⟩
    · exact ⟨Nat.le_refl _, Nat.le_succ _, Nat.le_refl _, rfl⟩
  · exact ⟨Nat.le_refl _, Nat.le_succ _, Nat.le_refl _, rfl⟩
set_option maxHeartbeats 2000000 in
theorem append_w_any (B g0 gd : Nat) (D : Dk) (nm data : List Nat) (W : Wl) (w : World) (gv : Gv w) (hgB : max 2 1 < B) (e0 : B ≤ g0) (k0 : Blk w g0 111 (W.cs gd nm)) (dk : DkAt w B gd D) (hnm : Byt nm) (hnl : nm.length ≤ 8) (hn : W.num ≤ 1000000) (hc : W.count ≤ 1000000) (hsz : W.size ≤ 1000000000) (hd : Byt data) (hdl : data.length ≤ 100000000) :
    Calls Tryz.prog 33 #[.pointer (some ⟨g0, 0, none⟩), .string (strOf data)] w fun e w' => e = .returned (.int .i64 (appW W D nm data).2.2) ∧ Blk w' g0 111 ((appW W D nm data).1.cs gd nm) ∧ DkAt w' B gd (appW W D nm data).2.1 ∧ Lf B w w' := by
  have lf := Lf.refl B w
  have hB := dk.size
  have hturn := turned_le W data
  unfold appW
  refine Calls.start 62 Tryz.func33 rfl rfl rfl ?_
  refine Cd.seq ?_
  refine Cd.region ?_
  refine Seq.val (Runs.assign rfl rfl) rfl rfl rfl ?_
  refine Seq.nil ?_
  refine Post.weak (F' := [(0, _), (1, _), (4, _)]) ⟨rfl, rfl, rfl, trivial⟩ ?_
  refine Post.then_ ?_
  refine Cd.seq ?_
  refine Cd.seq ?_
  refine Cd.region ?_
  refine Seq.val (Runs.move rfl rfl) rfl rfl rfl ?_
  refine Seq.val (Runs.eqlP rfl rfl rfl Tryz.underlying68) rfl rfl rfl ?_
  refine Seq.nil ?_
  refine Post.weak (F' := [(0, _), (1, _), (4, _), (9, _)]) ⟨rfl, rfl, rfl, rfl, trivial⟩ ?_
  refine Post.then_ ?_
  refine Cd.condF rfl rfl ?_
  refine Cd.skip ?_
  refine Post.then_ ?_
  refine Cd.seq ?_
  refine Cd.region ?_
  refine Seq.val (Runs.move rfl rfl) rfl rfl rfl ?_
  refine Seq.call (Enters.func rfl rfl rfl (run_enter Tryz.func75 (by kernel_rfl) rfl)) rfl rfl rfl (frame_any data _ gv.nib hd hdl) ?_
  rintro e w5 ⟨rfl, hb5⟩
  refine ⟨_, rfl, ?_⟩
  replace lf := lf.step hb5
  replace dk := dk.step hb5
  replace k0 := k0.step hb5
  replace gv := gv.step hb5
  refine Seq.val (Runs.move rfl rfl) rfl rfl rfl ?_
  refine Seq.val (Runs.extract rfl rfl rfl) rfl rfl rfl ?_
  refine Seq.val (Runs.extract rfl rfl rfl) rfl rfl rfl ?_
  refine Seq.val (Runs.assign rfl rfl) rfl rfl rfl ?_
  refine Seq.val (Runs.assign rfl rfl) rfl rfl rfl ?_
  refine Seq.nil ?_
  refine Post.weak (F' := [(0, _), (1, _), (4, _), (5, _), (6, _), (9, _)]) ⟨rfl, rfl, rfl, rfl, rfl, rfl, trivial⟩ ?_
  refine Post.then_ ?_
  refine Cd.seq ?_
  refine Cd.block ?_
  refine Cd.seq ?_
  refine Cd.region ?_
  refine Seq.val (Runs.move rfl rfl) rfl rfl rfl ?_
  refine Seq.val (Runs.not rfl rfl) rfl rfl rfl ?_
  refine Seq.val (Runs.assign rfl rfl) rfl rfl rfl ?_
  refine Seq.nil ?_
  refine Post.weak (F' := [(0, _), (1, _), (4, _), (5, _), (6, _), (9, _), (15, _)]) ⟨rfl, rfl, rfl, rfl, rfl, rfl, rfl, trivial⟩ ?_
  refine Post.then_ ?_
  refine Cd.cond rfl (fun h => ?_) (fun h => ?_)
  · have h : 131072 < data.length := by
      have h' : (!decide (data.length ≤ 131072)) = true := h
      rw [Bool.not_eq_true', decide_eq_false_iff_not] at h'
      omega
    rw [if_pos h]
    refine Cd.seq ?_
    refine Cd.region ?_
    refine Seq.val (Runs.assign rfl rfl) rfl rfl rfl ?_
    refine Seq.nil ?_
    refine Post.weak (F' := [(0, _), (1, _), (4, _), (5, _), (6, _), (9, _), (15, _)]) ⟨rfl, rfl, rfl, rfl, rfl, rfl, rfl, trivial⟩ ?_
    refine Post.then_ ?_
    refine Cd.ret ?_
    refine Post.block_ret ?_
    refine Post.then_ret ?_
    refine Post.end1 rfl rfl (.inl rfl) ?_
    exact ⟨rfl, k0, dk, lf⟩
  have hlen : data.length ≤ 131072 := by
    have h' : (!decide (data.length ≤ 131072)) = false := h
    rw [Bool.not_eq_false', decide_eq_true_eq] at h'
    exact h'
  rw [if_neg (by omega), if_pos hlen]
  obtain ⟨W0, hW0⟩ : ∃ x, x = W := ⟨_, rfl⟩
  have k0' := k0
  rw [← hW0] at k0'
  obtain ⟨num, count, size, broken⟩ := W0
  clear k0
  have k0 := k0'
  clear k0'
  unfold Wl.cs at k0
  simp only at k0
  have hbr : W.broken = broken := by rw [← hW0]
  refine Cd.seq ?_
  refine Cd.region ?_
  refine Seq.val (Runs.move rfl rfl) rfl rfl rfl ?_
  refine Seq.val (Runs.nilCheck rfl rfl) rfl rfl rfl ?_
  refine Seq.val (Runs.fieldB 5 rfl rfl Tryz.underlying111 rfl (by kernel_rfl)) rfl rfl rfl ?_
  refine Seq.val (Runs.loadB rfl rfl Tryz.underlying4 rfl k0 rfl) rfl rfl rfl ?_
  refine Seq.val (Runs.assign rfl rfl) rfl rfl rfl ?_
  refine Seq.nil ?_
  refine Post.weak (F' := [(0, _), (1, _), (4, _), (5, _), (6, _), (9, _), (15, _), (18, _)]) ⟨rfl, rfl, rfl, rfl, rfl, rfl, rfl, rfl, trivial⟩ ?_
  refine Post.then_ ?_
  refine Cd.cond rfl (fun h => ?_) (fun h => ?_)
  · have h : broken = true := h
    rw [if_pos (by rw [hbr]; exact h), ← hW0]
    refine Cd.seq ?_
    refine Cd.region ?_
    refine Seq.val (Runs.assign rfl rfl) rfl rfl rfl ?_
    refine Seq.nil ?_
    refine Post.weak (F' := [(0, _), (1, _), (4, _), (5, _), (6, _), (9, _), (15, _), (18, _)]) ⟨rfl, rfl, rfl, rfl, rfl, rfl, rfl, rfl, trivial⟩ ?_
    refine Post.then_ ?_
    refine Cd.ret ?_
    refine Post.block_ret ?_
    refine Post.then_ret ?_
    refine Post.end1 rfl rfl (.inl rfl) ?_
    exact ⟨rfl, k0, dk, lf⟩
  have h : broken = false := h
  subst h
  rw [if_neg (by rw [hbr]; simp)]
  obtain ⟨fr, hfr⟩ : ∃ x, x = frameN data := ⟨_, rfl⟩
  have hfl : fr.length = data.length + 12 := by rw [hfr, frameN_len]
  have hfb : Byt fr := by rw [hfr]; exact frameN_lt hd
  rw [← hfr]
  have hW'e : W.turned data = if 1048576 - (size : Int) < (fr.length : Int) then (Wl.mk num count size false).rotate else ⟨num, count, size, false⟩ := by rw [← hW0, hfl]; rfl
  have hsz0 : size ≤ 1000000000 := by rw [← hW0] at hsz; exact hsz
  have hn0 : num ≤ 1000000 := by rw [← hW0] at hn; exact hn
  have hc0 : W.count = count := by rw [← hW0]
  have hs0 : W.size = size := by rw [← hW0]
  have hn1 : W.num = num := by rw [← hW0]
  obtain ⟨W', hW'⟩ : ∃ x, x = W.turned data := ⟨_, rfl⟩
  rw [← hW'] at hturn hW'e
  rw [← hW']
  refine Cd.skip ?_
  refine Post.block_normal ?_
  refine Post.then_ ?_
  refine Cd.seqJ (σ := Unit) (fun _ => [(0, .pointer (some ⟨g0, 0, none⟩)), (5, .string (strOf fr))]) (fun _ wr => Blk wr g0 111 (W'.cs gd nm) ∧ DkAt wr B gd D ∧ Lf B w wr ∧ Gv wr) ?_ ?_
  · skip
    refine Cd.seq ?_
    refine Cd.region ?_
    refine Seq.val (Runs.move rfl rfl) rfl rfl rfl ?_
    refine Seq.val (Runs.lenL rfl rfl Tryz.underlying9) rfl rfl rfl ?_
    refine Seq.val (Runs.move rfl rfl) rfl rfl rfl ?_
    refine Seq.val (Runs.nilCheck rfl rfl) rfl rfl rfl ?_
    refine Seq.val (Runs.fieldB 4 rfl rfl Tryz.underlying111 rfl (by kernel_rfl)) rfl rfl rfl ?_
    refine Seq.val (Runs.loadB rfl rfl Tryz.underlying3 rfl k0 rfl) rfl rfl rfl ?_
    refine Seq.val (Runs.subI rfl rfl rfl (by omega) (by omega)) rfl rfl rfl ?_
    refine Seq.val (Runs.gtr rfl rfl rfl) rfl rfl rfl ?_
    refine Seq.nil ?_
    refine Post.weak (F' := [(0, _), (1, _), (4, _), (5, _), (6, _), (9, _), (15, _), (18, _), (30, _)]) ⟨rfl, rfl, rfl, rfl, rfl, rfl, rfl, rfl, rfl, trivial⟩ ?_
    refine Post.then_ ?_
    refine Cd.cond rfl (fun h => ?_) (fun h => ?_)
    · have h : 1048576 - (size : Int) < (fr.length : Int) := by simpa using h
      rw [if_pos h] at hW'e
      rw [hW'e]
      refine Cd.region ?_
      refine Seq.val (Runs.move rfl rfl) rfl rfl rfl ?_
      refine Seq.call (Enters.func rfl rfl rfl (run_enter Tryz.func76 (by kernel_rfl) rfl)) rfl rfl rfl (rotate_any B g0 gd D nm ⟨num, count, size, false⟩ _ e0 (by have := lf.size; omega) k0 dk (by show num ≤ _; omega)) ?_
      clear k0 dk
      rintro e w1 ⟨rfl, k0, dk, fw1⟩
      refine ⟨_, rfl, ?_⟩
      replace lf := lf.lf fw1
      replace gv := gv.lf fw1
      refine Seq.nil ?_
      refine Post.weak (F' := [(0, _), (1, _), (4, _), (5, _), (6, _), (9, _), (15, _), (18, _), (30, _)]) ⟨rfl, rfl, rfl, rfl, rfl, rfl, rfl, rfl, rfl, trivial⟩ ?_
      exact Post.join () ⟨rfl, rfl, trivial⟩ ⟨k0, dk, lf, gv⟩
    · have h : ¬ (1048576 - (size : Int) < (fr.length : Int)) := by simpa using h
      rw [if_neg h] at hW'e
      rw [hW'e]
      refine Cd.skip ?_
      exact Post.join () ⟨rfl, rfl, trivial⟩ ⟨k0, dk, lf, gv⟩
  clear lf dk k0 gv
  rintro ⟨⟩ wj ⟨k0, dk, lf, gv⟩
  obtain ⟨ht1, ht2, ht3, ht4⟩ := hturn
  clear hW'e hW'
  obtain ⟨num', count', size', broken'⟩ := W'
  simp only at ht1 ht2 ht3 ht4
  simp only
  obtain rfl : broken' = false := by rw [ht4, hbr]
  refine Cd.seq ?_
  refine Cd.seq ?_
  refine Cd.region ?_
  refine Seq.val (Runs.move rfl rfl) rfl rfl rfl ?_
  refine Seq.val (Runs.move rfl rfl) rfl rfl rfl ?_
  refine Seq.call (Enters.func rfl rfl rfl (run_enter Tryz.func77 (by kernel_rfl) rfl)) rfl rfl rfl (room_any B g0 gd D nm fr ⟨num', count', size', false⟩ _ k0 dk (by omega)) ?_
  rintro e w6 ⟨rfl, hb6⟩
  refine ⟨_, rfl, ?_⟩
  rw [hfl]
  simp only
  replace lf := lf.step hb6
  replace dk := dk.step hb6
  replace k0 := k0.step hb6
  replace gv := gv.step hb6
  refine Seq.val (Runs.not rfl rfl) rfl rfl rfl ?_
  refine Seq.nil ?_
  refine Post.weak (F' := [(0, _), (5, _), (36, _)]) ⟨rfl, rfl, rfl, trivial⟩ ?_
  refine Post.then_ ?_
  refine Cd.cond rfl (fun h => ?_) (fun h => ?_)
  · have h : roomW D num' count' (data.length + 12) = false := by simpa using h
    rw [if_pos h]
    refine Cd.seq ?_
    refine Cd.region ?_
    refine Seq.val (Runs.assign rfl rfl) rfl rfl rfl ?_
    refine Seq.nil ?_
    refine Post.weak (F' := [(0, _), (4, _), (5, _), (36, _)]) ⟨rfl, rfl, rfl, rfl, trivial⟩ ?_
    refine Post.then_ ?_
    refine Cd.ret ?_
    refine Post.then_ret ?_
    refine Post.end1 rfl rfl (.inl rfl) ?_
    exact ⟨rfl, k0, dk, lf⟩
  have h : roomW D num' count' (data.length + 12) = true := by simpa using h
  rw [if_neg (by simp [h])]
  have hn6 : num' ≤ 999999 := by
    unfold roomW at h
    rw [Bool.and_eq_true, decide_eq_true_eq] at h
    exact h.2
  refine Cd.skip ?_
  refine Post.then_ ?_
  refine Cd.seq ?_
  refine Cd.seq ?_
  refine Cd.region ?_
  refine Seq.val (Runs.move rfl rfl) rfl rfl rfl ?_
  refine Seq.val (Runs.move rfl rfl) rfl rfl rfl ?_
  refine Seq.call (Enters.func rfl rfl rfl (run_enter Tryz.func78 (by kernel_rfl) rfl)) rfl rfl rfl (lay_any B g0 gd D nm fr ⟨num', count', size', false⟩ _ gv hgB k0 dk hnm hnl hn6 (by show count' ≤ _; omega) hfb (by omega)) ?_
  clear dk
  rintro e w1 ⟨rfl, dk, fw1⟩
  refine ⟨_, rfl, ?_⟩
  replace lf := lf.df fw1
  replace k0 := k0.df fw1
  replace gv := gv.df fw1
  simp only at dk
  simp only
  unfold Wl.cs at k0
  simp only at k0
  refine Seq.val (Runs.assign rfl rfl) rfl rfl rfl ?_
  refine Seq.nil ?_
  refine Post.weak (F' := [(0, _), (5, _), (7, _), (36, _)]) ⟨rfl, rfl, rfl, rfl, trivial⟩ ?_
  refine Post.then_ ?_
  refine Cd.seq ?_
  refine Cd.region ?_
  refine Seq.val (Runs.move rfl rfl) rfl rfl rfl ?_
  refine Seq.val (Runs.neqI rfl rfl rfl) rfl rfl rfl ?_
  refine Seq.nil ?_
  refine Post.weak (F' := [(0, _), (5, _), (7, _), (36, _), (41, _)]) ⟨rfl, rfl, rfl, rfl, rfl, trivial⟩ ?_
  refine Post.then_ ?_
  refine Cd.cond rfl (fun h => ?_) (fun h => ?_)
  · have h : (D.lay nm num' count' fr).2 ≠ 0 := by simpa using h
    rw [if_pos h]
    refine Cd.seq ?_
    refine Cd.region ?_
    refine Seq.val (Runs.move rfl rfl) rfl rfl rfl ?_
    refine Seq.val (Runs.nilCheck rfl rfl) rfl rfl rfl ?_
    refine Seq.val (Runs.fieldB 5 rfl rfl Tryz.underlying111 rfl (by kernel_rfl)) rfl rfl rfl ?_
    refine Seq.store1 rfl rfl rfl (by kernel_rfl) rfl rfl k0 rfl rfl rfl ?_
    intro w2 pw2
    replace lf := lf.put k0 pw2 e0
    replace dk := dk.put k0 pw2 e0
    replace gv := gv.put k0 pw2 e0
    replace k0 := pw2.blk
    refine Seq.nil ?_
    refine Post.weak (F' := [(0, _), (5, _), (7, _), (36, _), (41, _)]) ⟨rfl, rfl, rfl, rfl, rfl, trivial⟩ ?_
    refine Post.then_ ?_
    refine Cd.seq ?_
    refine Cd.region ?_
    refine Seq.val (Runs.move rfl rfl) rfl rfl rfl ?_
    refine Seq.val (Runs.assign rfl rfl) rfl rfl rfl ?_
    refine Seq.nil ?_
    refine Post.weak (F' := [(0, _), (4, _), (5, _), (7, _), (36, _), (41, _)]) ⟨rfl, rfl, rfl, rfl, rfl, rfl, trivial⟩ ?_
    refine Post.then_ ?_
    refine Cd.ret ?_
    refine Post.then_ret ?_
    refine Post.end1 rfl rfl (.inl rfl) ?_
    exact ⟨rfl, k0, dk, lf⟩
  have h : ¬ ((D.lay nm num' count' fr).2 ≠ 0) := by simpa using h
  rw [if_neg h]
  refine Cd.skip ?_
  refine Post.then_ ?_
  refine Cd.seq ?_
  refine Cd.region ?_
  refine Seq.val (Runs.move rfl rfl) rfl rfl rfl ?_
  refine Seq.val (Runs.nilCheck rfl rfl) rfl rfl rfl ?_
  refine Seq.val (Runs.fieldB 3 rfl rfl Tryz.underlying111 rfl (by kernel_rfl)) rfl rfl rfl ?_
  refine Seq.val (Runs.loadB rfl rfl Tryz.underlying3 rfl k0 rfl) rfl rfl rfl ?_
  refine Seq.val (Runs.addI rfl rfl rfl (by omega) (by omega)) rfl rfl rfl ?_
  refine Seq.val (Runs.nilCheck rfl rfl) rfl rfl rfl ?_
  refine Seq.val (Runs.fieldB 3 rfl rfl Tryz.underlying111 rfl (by kernel_rfl)) rfl rfl rfl ?_
  refine Seq.store1 rfl rfl rfl (by kernel_rfl) rfl rfl k0 rfl rfl rfl ?_
  intro w2 pw2
  replace lf := lf.put k0 pw2 e0
  replace dk := dk.put k0 pw2 e0
  replace gv := gv.put k0 pw2 e0
  replace k0 := pw2.blk
  refine Seq.nil ?_
  refine Post.weak (F' := [(0, _), (5, _), (7, _), (36, _), (41, _)]) ⟨rfl, rfl, rfl, rfl, rfl, trivial⟩ ?_
  refine Post.then_ ?_
  refine Cd.seq ?_
  refine Cd.region ?_
  refine Seq.val (Runs.move rfl rfl) rfl rfl rfl ?_
  refine Seq.val (Runs.nilCheck rfl rfl) rfl rfl rfl ?_
  refine Seq.val (Runs.fieldB 4 rfl rfl Tryz.underlying111 rfl (by kernel_rfl)) rfl rfl rfl ?_
  refine Seq.val (Runs.loadB rfl rfl Tryz.underlying3 rfl k0 rfl) rfl rfl rfl ?_
  refine Seq.val (Runs.move rfl rfl) rfl rfl rfl ?_
  refine Seq.val (Runs.lenL rfl rfl Tryz.underlying9) rfl rfl rfl ?_
  refine Seq.val (Runs.addI rfl rfl rfl (by omega) (by omega)) rfl rfl rfl ?_
  refine Seq.val (Runs.nilCheck rfl rfl) rfl rfl rfl ?_
  refine Seq.val (Runs.fieldB 4 rfl rfl Tryz.underlying111 rfl (by kernel_rfl)) rfl rfl rfl ?_
  refine Seq.store1 rfl rfl rfl (by kernel_rfl) rfl rfl k0 rfl rfl rfl ?_
  intro w3 pw3
  replace lf := lf.put k0 pw3 e0
  replace dk := dk.put k0 pw3 e0
  replace gv := gv.put k0 pw3 e0
  replace k0 := pw3.blk
  refine Seq.nil ?_
  refine Post.weak (F' := [(0, _), (5, _), (7, _), (36, _), (41, _)]) ⟨rfl, rfl, rfl, rfl, rfl, trivial⟩ ?_
  refine Post.then_ ?_
  refine Cd.seq ?_
  refine Cd.region ?_
  refine Seq.val (Runs.assign rfl rfl) rfl rfl rfl ?_
  refine Seq.nil ?_
  refine Post.weak (F' := [(0, _), (4, _), (5, _), (7, _), (36, _), (41, _)]) ⟨rfl, rfl, rfl, rfl, rfl, rfl, trivial⟩ ?_
  refine Post.then_ ?_
  refine Cd.ret ?_
  refine Post.end1 rfl rfl (.inl rfl) ?_
  refine ⟨rfl, ?_, dk, lf⟩
  unfold Wl.cs
  simp only
  rw [← hfl]
  exact k0
end Go.Proofs.YtdpipgidpkmolaaGreatDoor

namespace Go.Proofs.YtdpipgidpkmolaaGreatDoor
open Go.RowKit

theorem foldB (k n : Nat) : ∀ a, (beB k n).foldl (fun n c => n * 256 + c) a = a * 256 ^ k + n % 256 ^ k := by
  induction k with
  | zero => intro a; simp [beB, Nat.mod_one]
  | succ k ih =>
    intro a
    rw [beB, List.foldl_cons, ih, Nat.mod_pow_succ, Nat.pow_succ]
    generalize 256 ^ k = p
    generalize n / p % 256 = d
    generalize n % p = r
    rw [Nat.add_mul, Nat.mul_assoc, Nat.mul_comm 256 p, Nat.mul_comm d p]
    omega
theorem valB_be {k n : Nat} (h : n < 256 ^ k) : valB (beB k n) = n := by
  unfold valB
  rw [foldB, Nat.mod_eq_of_lt h]
  omega
def framesN (l : List (List Nat)) : List Nat := l.flatMap frameN
def marksL (l : List Nat) : List Nat := l.flatMap markN
def marksN (k : Nat) : List Nat := marksL ((List.range k).map (· + 1))
theorem framesN_app (a b : List (List Nat)) : framesN (a ++ b) = framesN a ++ framesN b := by simp [framesN]
theorem framesN_one (s : List Nat) : framesN [s] = frameN s := by simp [framesN]
theorem marksN_succ (k : Nat) : marksN (k + 1) = marksN k ++ markN (k + 1) := by simp [marksN, marksL, List.range_succ]
theorem marksN_len (k : Nat) : (marksN k).length = 12 * k := by
  induction k with
  | zero => rfl
  | succ k ih => rw [marksN_succ, List.length_append, ih, markN_len]; omega
end Go.Proofs.YtdpipgidpkmolaaGreatDoor

namespace Go.Proofs.YtdpipgidpkmolaaGreatDoor
open Go.RowKit

/-- A disk that is on, and isn't armed. -/
structure Dk.calm (D : Dk) : Prop where
  off : D.off = false
  armed : D.armed = false
theorem tick_calm {D : Dk} (h : D.calm) : D.tick = D := by unfold Dk.tick; rw [if_neg (by simp [h.off]), if_neg (by simp [h.armed])]
theorem beginE_calm {D : Dk} (h : D.calm) {ns : List (List Nat)} (hn : ∀ s ∈ ns, nameOk s = true) : D.beginE ns = 0 := by
  unfold Dk.beginE
  rw [tick_calm h, h.off, if_neg (by simp), if_pos (List.all_eq_true.2 hn)]
theorem thereE_calm {D : Dk} (h : D.calm) {ns : List (List Nat)} (hn : ∀ s ∈ ns, nameOk s = true) (x : List Nat) : D.thereE ns x = if (D.get x).isSome then 0 else 7 := by
  unfold Dk.thereE
  rw [beginE_calm h hn, if_neg (by simp)]
theorem mem_names {D : Dk} {x : List Nat} : x ∈ D.files.map (·.1) ↔ (D.get x).isSome = true := by
  unfold Dk.get
  rw [Option.isSome_map, List.find?_isSome]
  constructor
  · intro h
    obtain ⟨p, hp, rfl⟩ := List.mem_map.1 h
    exact ⟨p, hp, by simp⟩
  · rintro ⟨p, hp, e⟩
    exact List.mem_map.2 ⟨p, hp, by simpa using e⟩
theorem map_get (fs : List (List Nat × Fil)) (a : List Nat) (f : Fil) (x : List Nat) : ((fs.map fun p => if p.1 = a then (p.1, f) else p).find? (fun p => decide (p.1 = x))).map (·.2) = if x = a then ((fs.find? fun p => decide (p.1 = x)).map fun _ => f) else (fs.find? fun p => decide (p.1 = x)).map (·.2) := by
  have hq : ((fun p : List Nat × Fil => decide (p.1 = x)) ∘ fun p : List Nat × Fil => if p.1 = a then (p.1, f) else p) = fun p => decide (p.1 = x) := by
    funext p
    simp only [Function.comp]
    split <;> rfl
  rw [List.find?_map, hq]
  cases e : fs.find? (fun p => decide (p.1 = x)) with
  | none => simp
  | some p =>
    have h1 := List.find?_some e
    simp only [decide_eq_true_eq] at h1
    subst h1
    by_cases h2 : p.1 = a <;> simp [h2]
theorem putL_get (fs : List (List Nat × Fil)) (a : List Nat) (f : Fil) (x : List Nat) : ((putL fs a f).find? (fun p => decide (p.1 = x))).map (·.2) = if x = a then some f else (fs.find? fun p => decide (p.1 = x)).map (·.2) := by
  unfold putL
  split
  · rename_i h
    rw [map_get]
    split
    · rename_i e
      subst e
      cases e2 : fs.find? (fun p => decide (p.1 = x)) with
      | none => rw [e2] at h; cases h
      | some p => rfl
    · rfl
  · rename_i h
    rw [List.find?_append]
    split
    · rename_i e
      subst e
      have : fs.find? (fun p => decide (p.1 = x)) = none := by
        cases e2 : fs.find? (fun p => decide (p.1 = x)) with
        | none => rfl
        | some p => rw [e2] at h; exact absurd rfl h
      rw [this]
      simp
    · rename_i e
      have h1 : [(a, f)].find? (fun p => decide (p.1 = x)) = none := by
        rw [List.find?_cons_of_neg (by simpa using fun e2 => e e2.symm)]
        rfl
      rw [h1, Option.or_none]
theorem get_append {D : Dk} {a s : List Nat} (h : D.appendE a s = 0) (x : List Nat) : (D.append a s).get x = if x = a then some ⟨(D.fileOf a).data ++ s, (D.fileOf a).safe⟩ else D.get x := by
  have : D.append a s = { D.tick with files := putL D.files a ⟨(D.fileOf a).data ++ s, (D.fileOf a).safe⟩ } := by unfold Dk.append; rw [if_pos h]
  rw [this]
  exact putL_get _ _ _ _
theorem append_room (D : Dk) (a s : List Nat) : (D.append a s).room = D.room := by unfold Dk.append; split <;> exact tick_room D
theorem append_calm {D : Dk} {a s : List Nat} (h : D.calm) : (D.append a s).calm := by
  unfold Dk.append
  split
  · exact ⟨by show D.tick.off = _; rw [tick_calm h]; exact h.off, by show D.tick.armed = _; rw [tick_calm h]; exact h.armed⟩
  · rw [tick_calm h]; exact h
theorem append_len (D : Dk) (a s : List Nat) : (D.append a s).files.length ≤ D.files.length + 1 := by
  unfold Dk.append
  split
  · show (putL _ _ _).length ≤ _
    rw [putL_len]
    split <;> omega
  · rw [tick_files]; omega
theorem get_sync {D : Dk} (hc : D.calm) {a : List Nat} {f : Fil} (ha : nameOk a = true) (hf : D.get a = some f) (x : List Nat) : (D.sync a).get x = if x = a then some { f with safe := f.data.length } else D.get x := by
  have h0 : D.thereE [a] a = 0 := by rw [thereE_calm hc (by simpa using ha), hf]; rfl
  have : D.sync a = D.set a { f with safe := f.data.length } := by unfold Dk.sync; rw [if_pos h0, hf, tick_calm hc]
  rw [this]
  show ((D.files.map _).find? _).map _ = _
  rw [map_get]
  split
  · rename_i e
    subst e
    unfold Dk.get at hf
    cases e2 : D.files.find? (fun p => decide (p.1 = x)) with
    | none => rw [e2] at hf; cases hf
    | some p => rfl
  · rfl
theorem sync_len (D : Dk) (a : List Nat) : (D.sync a).files.length = D.files.length := by
  unfold Dk.sync
  split
  · split
    · unfold Dk.set; simp [tick_files]
    · rw [tick_files]
  · rw [tick_files]
theorem sync_room (D : Dk) (a : List Nat) : (D.sync a).room = D.room := by
  unfold Dk.sync
  split
  · split
    · exact tick_room D
    · exact tick_room D
  · exact tick_room D
theorem sync_calm {D : Dk} {a : List Nat} (h : D.calm) : (D.sync a).calm := by
  unfold Dk.sync
  split
  · split
    · exact ⟨by show D.tick.off = _; rw [tick_calm h]; exact h.off, by show D.tick.armed = _; rw [tick_calm h]; exact h.armed⟩
    · rw [tick_calm h]; exact h
  · rw [tick_calm h]; exact h
theorem sync_used {D : Dk} {a : List Nat} (hn : (D.files.map (·.1)).Nodup) : (D.sync a).used = D.used := by
  unfold Dk.sync
  split
  · split
    · rename_i f hf
      unfold Dk.set Dk.used
      show ((usedL (D.tick.files.map _) : Nat) : Int) = _
      rw [tick_files, usedL_set]
      intro p hp e
      have h1 := get_mem hf
      have h2 : (D.files.map (·.1)).Nodup := hn
      obtain ⟨i, hi, hip⟩ := List.getElem_of_mem hp
      obtain ⟨j, hj, hjp⟩ := List.getElem_of_mem h1
      have h3 : (D.files.map (·.1))[i]? = (D.files.map (·.1))[j]? := by
        rw [List.getElem?_map, List.getElem?_map, List.getElem?_eq_getElem hi, List.getElem?_eq_getElem hj, hip, hjp]
        simp [e]
      have h4 := (List.getElem?_inj (by rw [List.length_map]; exact hi) h2).1 h3
      subst h4
      rw [hip] at hjp
      rw [hjp]
    · exact tick_used D
  · exact tick_used D
theorem sync_names (D : Dk) (a : List Nat) : (D.sync a).files.map (·.1) = D.files.map (·.1) := by
  unfold Dk.sync
  split
  · split
    · unfold Dk.set
      show (D.tick.files.map _).map _ = _
      rw [tick_files, List.map_map]
      refine List.map_congr_left fun p _ => ?_
      simp only [Function.comp]
      split <;> rfl
    · rw [tick_files]
  · rw [tick_files]
theorem putL_nodup {fs : List (List Nat × Fil)} {a : List Nat} {f : Fil} (h : (fs.map (·.1)).Nodup) : ((putL fs a f).map (·.1)).Nodup := by
  unfold putL
  split
  · rw [List.map_map]
    have : ((fun p : List Nat × Fil => p.1) ∘ fun p : List Nat × Fil => if p.1 = a then (p.1, f) else p) = fun p => p.1 := by
      funext p
      simp only [Function.comp]
      split <;> rfl
    rw [this]
    exact h
  · rename_i h1
    rw [List.map_append, List.nodup_append]
    refine ⟨h, by simp, ?_⟩
    intro x hx b hb
    simp at hb
    subst hb
    intro e
    subst e
    obtain ⟨p, hp, e2⟩ := List.mem_map.1 hx
    apply h1
    rw [List.find?_isSome]
    exact ⟨p, hp, by simpa using e2⟩
theorem append_nodup {D : Dk} {a s : List Nat} (h : (D.files.map (·.1)).Nodup) : ((D.append a s).files.map (·.1)).Nodup := by
  unfold Dk.append
  split
  · exact putL_nodup h
  · rw [tick_files]; exact h
theorem append_used {D : Dk} {a s : List Nat} (hn : (D.files.map (·.1)).Nodup) (hE : D.appendE a s = 0) : (D.append a s).used = D.used + (s.length : Int) := by
  have hA : D.append a s = { D.tick with files := putL D.files a ⟨(D.fileOf a).data ++ s, (D.fileOf a).safe⟩ } := by unfold Dk.append; rw [if_pos hE]
  have hu := usedL_put (nm := a) ⟨(D.fileOf a).data ++ s, (D.fileOf a).safe⟩ hn
  have e : getL D.files a = D.fileOf a := rfl
  rw [e] at hu
  simp only [List.length_append] at hu
  rw [hA]
  show ((usedL (putL D.files a _) : Nat) : Int) = ((usedL D.files : Nat) : Int) + _
  omega
theorem appendE_calm {D : Dk} {a s : List Nat} (hc : D.calm) (ha : nameOk a = true) (h1 : (D.get a).isSome = true ∨ D.files.length < 200) (h2 : (D.fileOf a).data.length + s.length ≤ 1048576) (h3 : (s.length : Int) ≤ D.room - D.used) : D.appendE a s = 0 := by
  unfold Dk.appendE
  rw [beginE_calm hc (by simpa using ha), if_neg (by simp), if_neg, if_neg (by omega), if_neg (by omega)]
  rintro ⟨h4, h5⟩
  rcases h1 with h1 | h1
  · rw [h1] at h4; cases h4
  · omega
end Go.Proofs.YtdpipgidpkmolaaGreatDoor


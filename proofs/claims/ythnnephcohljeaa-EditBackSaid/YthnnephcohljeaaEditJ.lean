/-
  debenturelaw12's told, is; debentureref12's SameFiles, SameEdits of the same: what they answer. Condition: the lists are within reach.
-/
import Derived.Test.YthnnephcohljeaaCodN
import Derived.Test.YthnnephcohljeaaEditI
namespace Go.Proofs.Ythnnephcohljeaa
open Go.ChangeShapes Go.WideShapes Go.ChangeAt Go.Deep Go.RowKit

theorem told_any (B n cap : Nat) (A : Option Addr) (fs : List Fl) (w : World) (hr : Reads w B 6 A n (fcs fs)) (hB : B ≤ w.heap.size) (hn : n ≤ 101) :
    Calls Try.prog 53 #[.slice A n cap] w fun e w' => ∃ v, e = .returned v ∧ Grow w w' ∧ ∃ A' c, v = .slice A' n c ∧ Own w' w.heap.size 23 6 v n (fcs fs) := by
  have bel := Below.refl w.heap.size w
  have hfl := hr.fl_len
  have own : Own w w.heap.size 23 6 (.slice none 0 0) 0 [] := Own.nil _ _ _ _
  refine Calls.start 19 Try.func53 rfl rfl rfl ?_
  refine Cd.seq ?_
  refine Cd.region ?_
  refine Seq.val (Runs.assign rfl rfl) rfl rfl rfl ?_
  refine Seq.nil ?_
  refine Post.weak (F' := [(0, _), (2, _)]) ⟨rfl, rfl, trivial⟩ ?_
  refine Post.then_ ?_
  refine Cd.seq ?_
  refine Cd.region ?_
  refine Seq.val (Runs.assign rfl rfl) rfl rfl rfl ?_
  refine Seq.nil ?_
  refine Post.weak (F' := [(0, _), (2, _), (3, _)]) ⟨rfl, rfl, rfl, trivial⟩ ?_
  refine Post.then_ ?_
  refine Cd.seq ?_
  refine Cd.seq ?_
  refine Cd.region ?_
  refine Seq.val (Runs.assign rfl rfl) rfl rfl rfl ?_
  refine Seq.nil ?_
  refine Post.weak (F' := [(0, _), (2, _), (3, _), (4, _)]) ⟨rfl, rfl, rfl, rfl, trivial⟩ ?_
  refine Post.then_ ?_
  refine Cd.block ?_
  refine Cd.loop (σ := Nat × Value) (fun s => [(0, .slice A n cap), (3, s.2), (4, .int .i64 (s.1 : Int))]) (fun s wr => s.1 ≤ n ∧ Below w.heap.size w wr ∧ Own wr w.heap.size 23 6 s.2 s.1 (fcs (fs.take s.1))) (fun s => n - s.1) (0, .slice none 0 0) ⟨Nat.zero_le _, bel, own⟩ ⟨rfl, rfl, rfl, trivial⟩ ?_
  clear bel
  clear own
  rintro ⟨k, v⟩ wr ⟨hk, bel, own⟩
  simp only at hk own
  show Cd _ _ _ _ [(0, .slice A n cap), (3, v), (4, .int .i64 (k : Int))] _
  refine Cd.seq ?_
  refine Cd.seq ?_
  refine Cd.region ?_
  refine Seq.val (Runs.move rfl rfl) rfl rfl rfl ?_
  refine Seq.val (Runs.move rfl rfl) rfl rfl rfl ?_
  refine Seq.val (Runs.len rfl rfl Try.underlying36) rfl rfl rfl ?_
  refine Seq.val (Runs.lss rfl rfl rfl) rfl rfl rfl ?_
  refine Seq.nil ?_
  refine Post.weak (F' := [(0, _), (3, _), (4, _), (8, _)]) ⟨rfl, rfl, rfl, rfl, trivial⟩ ?_
  refine Post.then_ ?_
  refine Cd.condD rfl (fun hc => ?_) (fun hc => ?_)
  · obtain ⟨f, hf⟩ : ∃ f, fs[k]? = some f := ⟨_, List.getElem?_eq_getElem (show k < fs.length by omega)⟩
    obtain ⟨ad, rfl, hbl, hin, hc⟩ := hr.fl (bel.mono hB) hf
    have htk := fcs_take hf
    refine Cd.skip ?_
    refine Post.then_ ?_
    refine Cd.seq ?_
    refine Cd.block ?_
    refine Cd.region ?_
    refine Seq.val (Runs.move rfl rfl) rfl rfl rfl ?_
    refine Seq.val (Runs.move rfl rfl) rfl rfl rfl ?_
    refine Seq.val (Runs.move rfl rfl) rfl rfl rfl ?_
    refine Seq.val (Runs.indexN rfl rfl rfl Try.underlying36 (s := 6) (by kernel_rfl) (j := k) rfl (by omega)) rfl rfl rfl ?_
    refine Seq.val (Runs.loadF (ps := [.int .i64 f.num, .int .i64 f.level, .string (strOf f.first), .string (strOf f.last), .int .i64 f.count, .int .i64 f.size]) rfl rfl Try.underlying28 rfl (m := 6) (by kernel_rfl) rfl hc) rfl rfl rfl ?_
    refine Seq.slice (vs := [_]) (s := 6) rfl rfl rfl Try.underlying25 (by kernel_rfl) (zero_debentureref12_File) (by omega) (by omega) ⟨rfl, trivial⟩ rfl rfl rfl ?_
    intro g16 w1 n16
    have e16 := Nat.le_trans bel.size n16.ge
    replace bel := bel.step n16.below
    replace own := own.step n16.below
    have k16 := n16.blk
    have hrd := Reads.blk (size := 6) k16 1 rfl
    refine Seq.append rfl rfl rfl Try.underlying25 (by kernel_rfl) zero_debentureref12_File rfl (by decide) (b := 64) (by kernel_rfl) own (hrd) (by intro x hx; simp [flatC, Value.cells] at hx; rcases hx with rfl | rfl | rfl | rfl | rfl | rfl <;> rfl) bel.size (by simp only [maxLen]; omega) (by omega) rfl rfl rfl ?_
    clear own
    intro vw2 w2 own haw2
    replace bel := bel.trans haw2.below
    refine Seq.val (Runs.assign rfl rfl) rfl rfl rfl ?_
    refine Seq.nil ?_
    refine Post.weak (F' := [(0, _), (3, _), (4, _), (8, _)]) ⟨rfl, rfl, rfl, rfl, trivial⟩ ?_
    refine Post.block_normal ?_
    refine Post.then_ ?_
    refine Cd.region ?_
    refine Seq.val (Runs.move rfl rfl) rfl rfl rfl ?_
    refine Seq.val (Runs.addI rfl rfl rfl (by omega) (by omega)) rfl rfl rfl ?_
    refine Seq.val (Runs.assign rfl rfl) rfl rfl rfl ?_
    refine Seq.nil ?_
    refine Post.weak (F' := [(0, _), (3, _), (4, _), (8, _)]) ⟨rfl, rfl, rfl, rfl, trivial⟩ ?_
    exact Post.round (k + 1, vw2) ⟨rfl, rfl, rfl, trivial⟩ ⟨by simp only; omega, bel, by rw [htk]; exact own⟩ (by simp only; omega)
  · obtain rfl : k = n := by omega
    rw [List.take_of_length_le (by omega)] at own
    obtain ⟨A', c, rfl, -⟩ := own.reads
    refine Cd.exit ?_
    refine Post.then_exit ?_
    refine Post.round_exit ?_
    refine Post.block_exit ?_
    refine Post.then_ ?_
    refine Cd.seq ?_
    refine Cd.region ?_
    refine Seq.val (Runs.move rfl rfl) rfl rfl rfl ?_
    refine Seq.val (Runs.assign rfl rfl) rfl rfl rfl ?_
    refine Seq.nil ?_
    refine Post.weak (F' := [(0, _), (2, _), (3, _), (4, _), (8, _)]) ⟨rfl, rfl, rfl, rfl, rfl, trivial⟩ ?_
    refine Post.then_ ?_
    refine Cd.ret ?_
    refine Post.end1 rfl rfl (.inl rfl) ?_
    exact ⟨_, rfl, bel, A', c, rfl, own⟩
def OwnG (B n : Nat) (xs : List Value) (v : Value) (w : World) : Prop := ∃ A c, v = .slice A n c ∧ Own w B 23 6 v n xs
theorem OwnG.stable {B n : Nat} {xs : List Value} : ∀ v w w', Grow w w' → OwnG B n xs v w → OwnG B n xs v w' := fun _ _ _ hG ⟨A, c, e, h⟩ => ⟨A, c, e, h.step hG⟩
theorem run_build_REdit (a b c : Int) (A A' : Option Addr) (m k m' k' : Nat) (w : World) : (Instr.build 32 #[(0, .int .i64 a), (1, .int .i64 b), (2, .int .i64 c), (3, .slice A m k), (4, .slice A' m' k')]).run Try.prog w = .ok (.agg #[.int .i64 a, .int .i64 b, .int .i64 c, .slice A m k, .slice A' m' k']) w := by
  have hu := Try.underlying32
  go_simp
theorem is_any (lg nx sq : Int) (B n m c c' : Nat) (A A' : Option Addr) (fs : List Fl) (w : World) (hr : Reads w B 6 A' m (fcs fs)) (hB : B ≤ w.heap.size) (hn : m ≤ 101) :
    Calls Try.prog 19 #[.agg #[.int .i64 lg, .int .i64 nx, .int .i64 sq, .slice A n c, .slice A' m c']] w fun e w' => Grow w w' ∧ ∃ A2 c2, e = .returned (.agg #[.int .i64 lg, .int .i64 nx, .int .i64 sq, .slice A n c, .slice A2 m c2]) ∧ Own w' w.heap.size 23 6 (.slice A2 m c2) m (fcs fs) := by
  have bel := Below.refl w.heap.size w
  refine Calls.start 15 Try.func19 rfl rfl rfl ?_
  refine Cd.seq ?_
  refine Cd.region ?_
  refine Seq.box rfl rfl rfl rfl rfl ?_
  intro g1 w1 n1
  have e1 := Nat.le_trans bel.size n1.ge
  replace bel := bel.step n1.below
  have k1 := n1.blk
  refine Seq.alloc rfl (run_zero zero_debentureref12_Edit) rfl rfl rfl ?_
  intro g2 w2 n2
  have e2 := Nat.le_trans bel.size n2.ge
  have l2 := Nat.lt_of_lt_of_le k1.lt n2.ge
  replace bel := bel.step n2.below
  replace k1 := k1.step n2.below
  have k2 := n2.blk
  refine Seq.nil ?_
  refine Post.weak (F' := [(0, _), (1, _), (2, _)]) ⟨rfl, rfl, rfl, trivial⟩ ?_
  refine Post.then_ ?_
  refine Cd.seq ?_
  have hfl := fun W (hb : Below w.heap.size w W) => told_any B m c' A' fs W (hr.below (hb.mono hB)) (Nat.le_trans hB hb.size) hn
  refine Cd.draw 11 (by kernel_rfl) [] (.inl rfl) rfl Grow Grow.refl (fun _ _ _ => Grow.trans) ?_
  intro w3 hw3 zw3
  replace bel := bel.step hw3
  replace k1 := k1.step hw3
  replace k2 := k2.step hw3
  have zbel := bel.size
  have zlt := k2.lt
  refine Dr.val Grow.refl rfl (fun w hG => Runs.fieldB 0 rfl rfl Try.underlying38 rfl (by kernel_rfl)) rfl ?_
  refine Dr.val Grow.refl rfl (fun w hG => Runs.loadB rfl rfl Try.underlying3 rfl (k1.step hG) rfl) rfl ?_
  refine Dr.val Grow.refl rfl (fun w hG => Runs.fieldB 1 rfl rfl Try.underlying38 rfl (by kernel_rfl)) rfl ?_
  refine Dr.val Grow.refl rfl (fun w hG => Runs.loadB rfl rfl Try.underlying3 rfl (k1.step hG) rfl) rfl ?_
  refine Dr.val Grow.refl rfl (fun w hG => Runs.fieldB 2 rfl rfl Try.underlying38 rfl (by kernel_rfl)) rfl ?_
  refine Dr.val Grow.refl rfl (fun w hG => Runs.loadB rfl rfl Try.underlying3 rfl (k1.step hG) rfl) rfl ?_
  refine Dr.val Grow.refl rfl (fun w hG => Runs.fieldB 3 rfl rfl Try.underlying38 rfl (by kernel_rfl)) rfl ?_
  refine Dr.val Grow.refl rfl (fun w hG => Runs.loadB rfl rfl Try.underlying30 rfl (k1.step hG) rfl) rfl ?_
  refine Dr.val Grow.refl rfl (fun w hG => Runs.fieldB 4 rfl rfl Try.underlying38 rfl (by kernel_rfl)) rfl ?_
  refine Dr.val Grow.refl rfl (fun w hG => Runs.loadB rfl rfl Try.underlying36 rfl (k1.step hG) rfl) rfl ?_
  refine Dr.call (Φ := OwnG w.heap.size m (fcs fs)) rfl (fun w => Enters.func rfl rfl rfl (run_enter Try.func53 (by kernel_rfl) rfl)) rfl (OwnG.stable) (fun w hG => (hfl _ (bel.step hG)).mono fun e w' ⟨v, e1, hg, A2, c2, e2, ho⟩ => ⟨v, e1, hg, A2, c2, e2, ⟨own_base ho.row (bel.step hG).size⟩⟩) ?_
  refine Dr.nil ?_
  refine FinX.open (j := 10) rfl ?_
  intro u10
  refine FinX.done (F' := [(0, _), (1, _), (2, _), (4, _), (6, _), (8, _), (10, _), (13, _)]) rfl ⟨rfl, rfl, rfl, rfl, rfl, rfl, rfl, rfl, trivial⟩ ?_
  intro w4 hw4 fw4
  replace bel := bel.step hw4
  replace k1 := k1.step hw4
  replace k2 := k2.step hw4
  obtain ⟨A2, c2, rfl, own⟩ := fw4.2
  refine Seq.val (Runs.build rfl rfl (run_build_REdit _ _ _ _ _ _ _ _ _ _)) rfl rfl rfl ?_
  refine Seq.storeN rfl rfl rfl rfl (m := 5) (by kernel_rfl) rfl (by repeat' first | exact trivial | apply And.intro | rfl | assumption) k2 (by simp [Value.cells]) rfl rfl ?_
  intro w5 pw5
  replace bel := bel.put k2 pw5 e2
  replace k1 := k1.put pw5 (by omega)
  replace own := own.put k2 pw5 e2
  replace k2 := pw5.blk
  refine Seq.nil ?_
  refine Post.weak (F' := [(0, _), (1, _), (2, _)]) ⟨rfl, rfl, rfl, trivial⟩ ?_
  refine Post.then_ ?_
  refine Cd.ret ?_
  refine Post.endC rfl rfl k2 Try.underlying32 rfl (m := 5) (by kernel_rfl) rfl (.inl rfl) ?_
  exact ⟨bel, A2, c2, rfl, own⟩
theorem run_neq_file (f : Fl) (w : World) : (binOp .neq 23 f.v f.v).run Try.prog w = .ok (.bool false) w := by
  have hu := Try.underlying23
  go_simp
theorem guard_file (x y : Operand) (a b : Array Value) (w : World) : (eqGuard .neq 23 x y (.agg a) (.agg b)).run Try.prog w = .ok () w := by
  have h : Try.prog.eqGuardType Try.prog.depth 23 = false := by kernel_rfl
  simp [eqGuard, program, h, Sem.run_bind, Sem.run]
theorem sameFiles_any (B n c c' : Nat) (A A' : Option Addr) (fs : List Fl) (w : World) (hr : Reads w B 6 A n (fcs fs)) (hr' : Reads w B 6 A' n (fcs fs)) (hB : B ≤ w.heap.size) (hn : n ≤ 1000) :
    Calls Try.prog 52 #[.slice A n c, .slice A' n c'] w fun e w' => e = .returned (.bool true) ∧ Grow w w' := by
  have bel := Below.refl w.heap.size w
  have hfl := hr.fl_len
  refine Calls.start 26 Try.func52 rfl rfl rfl ?_
  refine Cd.seq ?_
  refine Cd.region ?_
  refine Seq.val (Runs.assign rfl rfl) rfl rfl rfl ?_
  refine Seq.nil ?_
  refine Post.weak (F' := [(0, _), (1, _), (4, _)]) ⟨rfl, rfl, rfl, trivial⟩ ?_
  refine Post.then_ ?_
  refine Cd.seq ?_
  refine Cd.seq ?_
  refine Cd.region ?_
  refine Seq.val (Runs.move rfl rfl) rfl rfl rfl ?_
  refine Seq.val (Runs.len rfl rfl Try.underlying25) rfl rfl rfl ?_
  refine Seq.val (Runs.move rfl rfl) rfl rfl rfl ?_
  refine Seq.val (Runs.len rfl rfl Try.underlying25) rfl rfl rfl ?_
  refine Seq.val (Runs.neqI rfl rfl rfl) rfl rfl rfl ?_
  refine Seq.nil ?_
  refine Post.weak (F' := [(0, _), (1, _), (4, _), (10, _)]) ⟨rfl, rfl, rfl, rfl, trivial⟩ ?_
  refine Post.then_ ?_
  refine Cd.condF rfl (decide_eq_false (by simp)) ?_
  refine Cd.skip ?_
  refine Post.then_ ?_
  refine Cd.seq ?_
  refine Cd.seq ?_
  refine Cd.region ?_
  refine Seq.val (Runs.assign rfl rfl) rfl rfl rfl ?_
  refine Seq.nil ?_
  refine Post.weak (F' := [(0, _), (1, _), (4, _), (5, _), (10, _)]) ⟨rfl, rfl, rfl, rfl, rfl, trivial⟩ ?_
  refine Post.then_ ?_
  refine Cd.block ?_
  refine Cd.loop (σ := Nat) (fun k => [(0, .slice A n c), (1, .slice A' n c'), (5, .int .i64 (k : Int))]) (fun k wr => k ≤ n ∧ Below w.heap.size w wr) (fun k => n - k) 0 ⟨Nat.zero_le _, bel⟩ ⟨rfl, rfl, rfl, trivial⟩ ?_
  clear bel
  rintro k wr ⟨hk, bel⟩
  refine Cd.seq ?_
  refine Cd.seq ?_
  refine Cd.region ?_
  refine Seq.val (Runs.move rfl rfl) rfl rfl rfl ?_
  refine Seq.val (Runs.move rfl rfl) rfl rfl rfl ?_
  refine Seq.val (Runs.len rfl rfl Try.underlying25) rfl rfl rfl ?_
  refine Seq.val (Runs.lss rfl rfl rfl) rfl rfl rfl ?_
  refine Seq.nil ?_
  refine Post.weak (F' := [(0, _), (1, _), (5, _), (14, _)]) ⟨rfl, rfl, rfl, rfl, trivial⟩ ?_
  refine Post.then_ ?_
  refine Cd.condD rfl (fun hc => ?_) (fun hc => ?_)
  · obtain ⟨f, hf⟩ : ∃ f, fs[k]? = some f := ⟨_, List.getElem?_eq_getElem (show k < fs.length by omega)⟩
    obtain ⟨ad, rfl, hbl, hin, hc⟩ := hr.fl (bel.mono hB) hf
    obtain ⟨ad', rfl, hbl', hin', hc'⟩ := hr'.fl (bel.mono hB) hf
    have hc := fun W (hG : Below wr.heap.size wr W) j v hj => (hG.cell (p := (ad.add (k * 6)).add j) (by rw [block_of_add, block_of_add]; have := bel.size; omega)).trans (hc j v hj)
    have hc' := fun W (hG : Below wr.heap.size wr W) j v hj => (hG.cell (p := (ad'.add (k * 6)).add j) (by rw [block_of_add, block_of_add]; have := bel.size; omega)).trans (hc' j v hj)
    have hne := run_neq_file f
    refine Cd.skip ?_
    refine Post.then_ ?_
    refine Cd.seq ?_
    refine Cd.block ?_
    refine Cd.seq ?_
    refine Cd.draw 9 (by kernel_rfl) [] (.inl rfl) rfl Grow Grow.refl (fun _ _ _ => Grow.trans) ?_
    intro w1 hw1 zw1
    replace bel := bel.step hw1
    have zbel := bel.size
    have hwsz := hw1
    refine Dr.val Grow.refl rfl (fun w hG => Runs.move rfl rfl) rfl ?_
    refine Dr.val Grow.refl rfl (fun w hG => Runs.move rfl rfl) rfl ?_
    refine Dr.val Grow.refl rfl (fun w hG => Runs.indexN rfl rfl rfl Try.underlying25 (s := 6) (by kernel_rfl) (j := k) rfl (by omega)) rfl ?_
    refine Dr.val Grow.refl rfl (fun w hG => Runs.loadF (ps := [.int .i64 f.num, .int .i64 f.level, .string (strOf f.first), .string (strOf f.last), .int .i64 f.count, .int .i64 f.size]) rfl rfl Try.underlying23 rfl (m := 6) (by kernel_rfl) rfl (hc w (Below.step hwsz hG))) rfl ?_
    refine Dr.val Grow.refl rfl (fun w hG => Runs.move rfl rfl) rfl ?_
    refine Dr.val Grow.refl rfl (fun w hG => Runs.move rfl rfl) rfl ?_
    refine Dr.val Grow.refl rfl (fun w hG => Runs.indexN rfl rfl rfl Try.underlying25 (s := 6) (by kernel_rfl) (j := k) rfl (by omega)) rfl ?_
    refine Dr.val Grow.refl rfl (fun w hG => Runs.loadF (ps := [.int .i64 f.num, .int .i64 f.level, .string (strOf f.first), .string (strOf f.last), .int .i64 f.count, .int .i64 f.size]) rfl rfl Try.underlying23 rfl (m := 6) (by kernel_rfl) rfl (hc' w (Below.step hwsz hG))) rfl ?_
    refine Dr.val Grow.refl rfl (fun w hG => Runs.bin rfl rfl rfl (guard_file _ _ _ _ w) (hne w)) rfl ?_
    refine Dr.nil ?_
    refine FinX.done (F' := [(0, _), (1, _), (5, _), (14, _), (25, _)]) rfl ⟨rfl, rfl, rfl, rfl, rfl, trivial⟩ ?_
    intro w2 hw2 fw2
    replace bel := bel.step hw2
    refine Seq.nil ?_
    refine Post.weak (F' := [(0, _), (1, _), (5, _), (14, _), (25, _)]) ⟨rfl, rfl, rfl, rfl, rfl, trivial⟩ ?_
    refine Post.then_ ?_
    refine Cd.condF rfl rfl ?_
    refine Cd.skip ?_
    refine Post.block_normal ?_
    refine Post.then_ ?_
    refine Cd.region ?_
    refine Seq.val (Runs.move rfl rfl) rfl rfl rfl ?_
    refine Seq.val (Runs.addI rfl rfl rfl (by omega) (by omega)) rfl rfl rfl ?_
    refine Seq.val (Runs.assign rfl rfl) rfl rfl rfl ?_
    refine Seq.nil ?_
    refine Post.weak (F' := [(0, _), (1, _), (5, _), (14, _), (25, _)]) ⟨rfl, rfl, rfl, rfl, rfl, trivial⟩ ?_
    exact Post.round (k + 1) ⟨rfl, rfl, rfl, trivial⟩ ⟨by omega, bel⟩ (by omega)
  · skip
    refine Cd.exit ?_
    refine Post.then_exit ?_
    refine Post.round_exit ?_
    refine Post.block_exit ?_
    refine Post.then_ ?_
    refine Cd.seq ?_
    refine Cd.region ?_
    refine Seq.val (Runs.assign rfl rfl) rfl rfl rfl ?_
    refine Seq.nil ?_
    refine Post.weak (F' := [(0, _), (1, _), (4, _), (5, _), (14, _)]) ⟨rfl, rfl, rfl, rfl, rfl, trivial⟩ ?_
    refine Post.then_ ?_
    refine Cd.ret ?_
    refine Post.end1 rfl rfl (.inl rfl) ?_
    exact ⟨rfl, bel⟩
theorem sameEdits_any (lg nx sq : Int) (B n m c c' k k' : Nat) (A A' D D' : Option Addr) (dl : List Int) (fs : List Fl) (w : World) (h1 : Reads w B 1 A n (DI dl)) (h2 : Reads w B 6 A' m (fcs fs)) (h3 : Reads w B 1 D n (DI dl)) (h4 : Reads w B 6 D' m (fcs fs)) (hB : B ≤ w.heap.size) (hn : n ≤ 1000) (hm : m ≤ 1000) :
    Calls Try.prog 18 #[.agg #[.int .i64 lg, .int .i64 nx, .int .i64 sq, .slice A n c, .slice A' m c'], .agg #[.int .i64 lg, .int .i64 nx, .int .i64 sq, .slice D n k, .slice D' m k']] w fun e w' => e = .returned (.bool true) ∧ Grow w w' := by
  have bel := Below.refl w.heap.size w
  have hdl : dl.length = n := by have := h1.1; simpa [DI] using this
  refine Calls.start 57 Try.func18 rfl rfl rfl ?_
  refine Cd.seq ?_
  refine Cd.region ?_
  refine Seq.box rfl rfl rfl rfl rfl ?_
  intro g2 w1 n2
  have e2 := Nat.le_trans bel.size n2.ge
  replace bel := bel.step n2.below
  have k2 := n2.blk
  refine Seq.box rfl rfl rfl rfl rfl ?_
  intro g3 w2 n3
  have e3 := Nat.le_trans bel.size n3.ge
  have l3 := Nat.lt_of_lt_of_le k2.lt n3.ge
  replace bel := bel.step n3.below
  replace k2 := k2.step n3.below
  have k3 := n3.blk
  refine Seq.val (Runs.assign rfl rfl) rfl rfl rfl ?_
  refine Seq.nil ?_
  refine Post.weak (F' := [(0, _), (1, _), (2, _), (3, _), (4, _)]) ⟨rfl, rfl, rfl, rfl, rfl, trivial⟩ ?_
  refine Post.then_ ?_
  refine Cd.seq ?_
  refine Cd.seq ?_
  refine Cd.region ?_
  refine Seq.val (Runs.fieldB 0 rfl rfl Try.underlying32 rfl (by kernel_rfl)) rfl rfl rfl ?_
  refine Seq.val (Runs.loadB rfl rfl Try.underlying3 rfl k2 rfl) rfl rfl rfl ?_
  refine Seq.val (Runs.fieldB 0 rfl rfl Try.underlying32 rfl (by kernel_rfl)) rfl rfl rfl ?_
  refine Seq.val (Runs.loadB rfl rfl Try.underlying3 rfl k3 rfl) rfl rfl rfl ?_
  refine Seq.val (Runs.neqI rfl rfl rfl) rfl rfl rfl ?_
  refine Seq.val (Runs.move rfl rfl) rfl rfl rfl ?_
  refine SeqC.start ?_
  refine SeqC.open rfl rfl rfl rfl rfl rfl rfl (fun hcx => Runs.fieldB 1 rfl rfl Try.underlying32 rfl (by kernel_rfl)) ?_
  refine SeqC.next rfl rfl rfl rfl rfl rfl rfl (fun hcx => Runs.loadB rfl rfl Try.underlying3 rfl k2 rfl) ?_
  refine SeqC.next rfl rfl rfl rfl rfl rfl rfl (fun hcx => Runs.fieldB 1 rfl rfl Try.underlying32 rfl (by kernel_rfl)) ?_
  refine SeqC.next rfl rfl rfl rfl rfl rfl rfl (fun hcx => Runs.loadB rfl rfl Try.underlying3 rfl k3 rfl) ?_
  refine SeqC.next rfl rfl rfl rfl rfl rfl rfl (fun hcx => Runs.neqI rfl rfl rfl) ?_
  refine SeqC.or rfl rfl rfl rfl rfl rfl rfl ?_
  refine Seq.val (Runs.move rfl rfl) rfl rfl rfl ?_
  refine SeqC.start ?_
  refine SeqC.open rfl rfl rfl rfl rfl rfl rfl (fun hcx => Runs.fieldB 2 rfl rfl Try.underlying32 rfl (by kernel_rfl)) ?_
  refine SeqC.next rfl rfl rfl rfl rfl rfl rfl (fun hcx => Runs.loadB rfl rfl Try.underlying3 rfl k2 rfl) ?_
  refine SeqC.next rfl rfl rfl rfl rfl rfl rfl (fun hcx => Runs.fieldB 2 rfl rfl Try.underlying32 rfl (by kernel_rfl)) ?_
  refine SeqC.next rfl rfl rfl rfl rfl rfl rfl (fun hcx => Runs.loadB rfl rfl Try.underlying3 rfl k3 rfl) ?_
  refine SeqC.next rfl rfl rfl rfl rfl rfl rfl (fun hcx => Runs.neqI rfl rfl rfl) ?_
  refine SeqC.or rfl rfl rfl rfl rfl rfl rfl ?_
  refine Seq.val (Runs.move rfl rfl) rfl rfl rfl ?_
  refine SeqC.start ?_
  refine SeqC.open rfl rfl rfl rfl rfl rfl rfl (fun hcx => Runs.fieldB 3 rfl rfl Try.underlying32 rfl (by kernel_rfl)) ?_
  refine SeqC.next rfl rfl rfl rfl rfl rfl rfl (fun hcx => Runs.loadB rfl rfl Try.underlying30 rfl k2 rfl) ?_
  refine SeqC.next rfl rfl rfl rfl rfl rfl rfl (fun hcx => Runs.len rfl rfl Try.underlying30) ?_
  refine SeqC.next rfl rfl rfl rfl rfl rfl rfl (fun hcx => Runs.fieldB 3 rfl rfl Try.underlying32 rfl (by kernel_rfl)) ?_
  refine SeqC.next rfl rfl rfl rfl rfl rfl rfl (fun hcx => Runs.loadB rfl rfl Try.underlying30 rfl k3 rfl) ?_
  refine SeqC.next rfl rfl rfl rfl rfl rfl rfl (fun hcx => Runs.len rfl rfl Try.underlying30) ?_
  refine SeqC.next rfl rfl rfl rfl rfl rfl rfl (fun hcx => Runs.neqI rfl rfl rfl) ?_
  refine SeqC.or rfl rfl rfl rfl rfl rfl rfl ?_
  refine Seq.nil ?_
  refine Post.weak (F' := [(0, _), (1, _), (2, _), (3, _), (4, _), (33, _)]) ⟨rfl, rfl, rfl, rfl, rfl, rfl, trivial⟩ ?_
  refine Post.then_ ?_
  refine Cd.condF rfl (by simp) ?_
  refine Cd.skip ?_
  refine Post.then_ ?_
  refine Cd.seq ?_
  refine Cd.seq ?_
  refine Cd.region ?_
  refine Seq.val (Runs.assign rfl rfl) rfl rfl rfl ?_
  refine Seq.nil ?_
  refine Post.weak (F' := [(0, _), (1, _), (2, _), (3, _), (4, _), (5, _), (33, _)]) ⟨rfl, rfl, rfl, rfl, rfl, rfl, rfl, trivial⟩ ?_
  refine Post.then_ ?_
  refine Cd.block ?_
  refine Cd.loop (σ := Nat) (fun j => [(2, .pointer (some ⟨g2, 0, none⟩)), (3, .pointer (some ⟨g3, 0, none⟩)), (5, .int .i64 (j : Int))]) (fun j wr => j ≤ n ∧ Below w.heap.size w wr ∧ Blk wr g2 32 #[.int .i64 lg, .int .i64 nx, .int .i64 sq, .slice A n c, .slice A' m c'] ∧ Blk wr g3 32 #[.int .i64 lg, .int .i64 nx, .int .i64 sq, .slice D n k, .slice D' m k']) (fun j => n - j) 0 ⟨Nat.zero_le _, bel, k2, k3⟩ ⟨rfl, rfl, rfl, trivial⟩ ?_
  clear bel k2 k3
  rintro j wr ⟨hj, bel, k2, k3⟩
  refine Cd.seq ?_
  refine Cd.seq ?_
  refine Cd.region ?_
  refine Seq.val (Runs.move rfl rfl) rfl rfl rfl ?_
  refine Seq.val (Runs.fieldB 3 rfl rfl Try.underlying32 rfl (by kernel_rfl)) rfl rfl rfl ?_
  refine Seq.val (Runs.loadB rfl rfl Try.underlying30 rfl k2 rfl) rfl rfl rfl ?_
  refine Seq.val (Runs.len rfl rfl Try.underlying30) rfl rfl rfl ?_
  refine Seq.val (Runs.lss rfl rfl rfl) rfl rfl rfl ?_
  refine Seq.nil ?_
  refine Post.weak (F' := [(2, _), (3, _), (5, _), (38, _)]) ⟨rfl, rfl, rfl, rfl, trivial⟩ ?_
  refine Post.then_ ?_
  refine Cd.condD rfl (fun hc => ?_) (fun hc => ?_)
  · obtain ⟨x, hx⟩ : ∃ x, dl[j]? = some x := ⟨_, List.getElem?_eq_getElem (show j < dl.length by omega)⟩
    obtain ⟨ad, rfl, hbl, hc⟩ := h1.2 (by omega)
    obtain ⟨ad', rfl, hbl', hc'⟩ := h3.2 (by omega)
    have hc := fun W (hb : Below w.heap.size w W) => (hb.cell (p := ad.add j) (by rw [block_of_add]; omega)).trans (hc j (.int .i64 x) (by simp [DI, hx]))
    have hc' := fun W (hb : Below w.heap.size w W) => (hb.cell (p := ad'.add j) (by rw [block_of_add]; omega)).trans (hc' j (.int .i64 x) (by simp [DI, hx]))
    refine Cd.skip ?_
    refine Post.then_ ?_
    refine Cd.seq ?_
    refine Cd.block ?_
    refine Cd.seq ?_
    refine Cd.draw 11 (by kernel_rfl) [] (.inl rfl) rfl Grow Grow.refl (fun _ _ _ => Grow.trans) ?_
    intro w3 hw3 zw3
    replace bel := bel.step hw3
    replace k2 := k2.step hw3
    replace k3 := k3.step hw3
    have zbel := bel.size
    have zlt := k3.lt
    refine Dr.val Grow.refl rfl (fun w hG => Runs.fieldB 3 rfl rfl Try.underlying32 rfl (by kernel_rfl)) rfl ?_
    refine Dr.val Grow.refl rfl (fun w hG => Runs.loadB rfl rfl Try.underlying30 rfl (k2.step hG) rfl) rfl ?_
    refine Dr.val Grow.refl rfl (fun w hG => Runs.move rfl rfl) rfl ?_
    refine Dr.val Grow.refl rfl (fun w hG => Runs.index1 rfl rfl rfl Try.underlying30 (by kernel_rfl) (j := j) rfl (by omega)) rfl ?_
    refine Dr.val Grow.refl rfl (fun w hG => Runs.load1 rfl rfl Try.underlying3 rfl (hc w (bel.step hG))) rfl ?_
    refine Dr.val Grow.refl rfl (fun w hG => Runs.fieldB 3 rfl rfl Try.underlying32 rfl (by kernel_rfl)) rfl ?_
    refine Dr.val Grow.refl rfl (fun w hG => Runs.loadB rfl rfl Try.underlying30 rfl (k3.step hG) rfl) rfl ?_
    refine Dr.val Grow.refl rfl (fun w hG => Runs.move rfl rfl) rfl ?_
    refine Dr.val Grow.refl rfl (fun w hG => Runs.index1 rfl rfl rfl Try.underlying30 (by kernel_rfl) (j := j) rfl (by omega)) rfl ?_
    refine Dr.val Grow.refl rfl (fun w hG => Runs.load1 rfl rfl Try.underlying3 rfl (hc' w (bel.step hG))) rfl ?_
    refine Dr.val Grow.refl rfl (fun w hG => Runs.neqI rfl rfl rfl) rfl ?_
    refine Dr.nil ?_
    refine FinX.done (F' := [(2, _), (3, _), (5, _), (38, _), (51, _)]) rfl ⟨rfl, rfl, rfl, rfl, rfl, trivial⟩ ?_
    intro w4 hw4 fw4
    replace bel := bel.step hw4
    replace k2 := k2.step hw4
    replace k3 := k3.step hw4
    refine Seq.nil ?_
    refine Post.weak (F' := [(2, _), (3, _), (5, _), (38, _), (51, _)]) ⟨rfl, rfl, rfl, rfl, rfl, trivial⟩ ?_
    refine Post.then_ ?_
    refine Cd.condF rfl (by simp) ?_
    refine Cd.skip ?_
    refine Post.block_normal ?_
    refine Post.then_ ?_
    refine Cd.region ?_
    refine Seq.val (Runs.move rfl rfl) rfl rfl rfl ?_
    refine Seq.val (Runs.addI rfl rfl rfl (by omega) (by omega)) rfl rfl rfl ?_
    refine Seq.val (Runs.assign rfl rfl) rfl rfl rfl ?_
    refine Seq.nil ?_
    refine Post.weak (F' := [(2, _), (3, _), (5, _), (38, _), (51, _)]) ⟨rfl, rfl, rfl, rfl, rfl, trivial⟩ ?_
    exact Post.round (j + 1) ⟨rfl, rfl, rfl, trivial⟩ ⟨by omega, bel, k2, k3⟩ (by omega)
  · skip
    refine Cd.exit ?_
    refine Post.then_exit ?_
    refine Post.round_exit ?_
    refine Post.block_exit ?_
    refine Post.then_ ?_
    refine Cd.seq ?_
    refine Cd.region ?_
    refine Seq.val (Runs.fieldB 4 rfl rfl Try.underlying32 rfl (by kernel_rfl)) rfl rfl rfl ?_
    refine Seq.val (Runs.loadB rfl rfl Try.underlying25 rfl k2 rfl) rfl rfl rfl ?_
    refine Seq.val (Runs.fieldB 4 rfl rfl Try.underlying32 rfl (by kernel_rfl)) rfl rfl rfl ?_
    refine Seq.val (Runs.loadB rfl rfl Try.underlying25 rfl k3 rfl) rfl rfl rfl ?_
    refine Seq.call (Enters.func rfl rfl rfl (run_enter Try.func52 (by kernel_rfl) rfl)) rfl rfl rfl (sameFiles_any B m c' k' A' D' fs _ (h2.below (bel.mono hB)) (h4.below (bel.mono hB)) (Nat.le_trans hB bel.size) hm) ?_
    rintro e w5 ⟨rfl, hb5⟩
    refine ⟨_, rfl, ?_⟩
    replace bel := bel.step hb5
    replace k2 := k2.step hb5
    replace k3 := k3.step hb5
    refine Seq.val (Runs.assign rfl rfl) rfl rfl rfl ?_
    refine Seq.nil ?_
    refine Post.weak (F' := [(2, _), (3, _), (4, _), (5, _), (38, _)]) ⟨rfl, rfl, rfl, rfl, rfl, trivial⟩ ?_
    refine Post.then_ ?_
    refine Cd.ret ?_
    refine Post.end1 rfl rfl (.inl rfl) ?_
    exact ⟨rfl, bel⟩
end Go.Proofs.Ythnnephcohljeaa

/-
  debenturelaw12's great, files, of: what they answer; what comes in. Condition: the lists are within reach.
-/
import Derived.Test.YthnnephcohljeaaCodE
import Derived.Test.YthnnephcohljeaaEditG
import Derived.Test.YthnnephcohljeaaTOpen
namespace Go.Proofs.Ythnnephcohljeaa
open Go.ChangeShapes Go.WideShapes Go.ChangeAt Go.Deep Go.RowKit

theorem great_any (B n cap : Nat) (A : Option Addr) (fs : List Fl) (w : World) (hr : Reads w B 6 A n (fcs fs)) (hB : B ≤ w.heap.size) :
    Calls Try.prog 8 #[.slice A n cap] w fun e w' => (∃ b, e = .returned (.bool b) ∧ (b = false → n ≤ 101)) ∧ Grow w w' := by
  have bel := Below.refl w.heap.size w
  have hfl := hr.fl_len
  refine Calls.start 34 Try.func8 rfl rfl rfl ?_
  refine Cd.seq ?_
  refine Cd.region ?_
  refine Seq.val (Runs.assign rfl rfl) rfl rfl rfl ?_
  refine Seq.nil ?_
  refine Post.weak (F' := [(0, _), (2, _)]) ⟨rfl, rfl, trivial⟩ ?_
  refine Post.then_ ?_
  refine Cd.seq ?_
  refine Cd.seq ?_
  refine Cd.region ?_
  refine Seq.val (Runs.move rfl rfl) rfl rfl rfl ?_
  refine Seq.val (Runs.len rfl rfl Try.underlying25) rfl rfl rfl ?_
  refine Seq.val (Runs.gtr rfl rfl rfl) rfl rfl rfl ?_
  refine Seq.val (Runs.move rfl rfl) rfl rfl rfl ?_
  refine SeqC.start ?_
  refine SeqC.open rfl rfl rfl rfl rfl rfl rfl (fun hcx => Runs.move rfl rfl) ?_
  refine SeqC.next rfl rfl rfl rfl rfl rfl rfl (fun hcx => Runs.len rfl rfl Try.underlying25) ?_
  refine SeqC.next rfl rfl rfl rfl rfl rfl rfl (fun hcx => Runs.neqI rfl rfl rfl) ?_
  refine SeqC.and rfl rfl rfl rfl rfl rfl rfl ?_
  refine Seq.nil ?_
  refine Post.weak (F' := [(0, _), (2, _), (11, _)]) ⟨rfl, rfl, rfl, trivial⟩ ?_
  refine Post.then_ ?_
  refine Cd.cond rfl (fun h => ?_) (fun h => ?_)
  · skip
    refine Cd.seq ?_
    refine Cd.region ?_
    refine Seq.val (Runs.assign rfl rfl) rfl rfl rfl ?_
    refine Seq.nil ?_
    refine Post.weak (F' := [(0, _), (2, _), (11, _)]) ⟨rfl, rfl, rfl, trivial⟩ ?_
    refine Post.then_ ?_
    refine Cd.ret ?_
    refine Post.then_ret ?_
    refine Post.end1 rfl rfl (.inl rfl) ?_
    exact ⟨⟨true, rfl, fun h => by cases h⟩, bel⟩
  · have hn : n ≤ 101 := by simp at h; omega
    refine Cd.skip ?_
    refine Post.then_ ?_
    refine Cd.seq ?_
    refine Cd.seq ?_
    refine Cd.region ?_
    refine Seq.val (Runs.assign rfl rfl) rfl rfl rfl ?_
    refine Seq.nil ?_
    refine Post.weak (F' := [(0, _), (2, _), (3, _), (11, _)]) ⟨rfl, rfl, rfl, rfl, trivial⟩ ?_
    refine Post.then_ ?_
    refine Cd.block ?_
    refine Cd.loop (σ := Nat) (fun j => [(0, .slice A n cap), (3, .int .i64 (j : Int))]) (fun j wr => j ≤ n ∧ Below w.heap.size w wr) (fun j => n - j) 0 ⟨by omega, bel⟩ ⟨rfl, rfl, trivial⟩ ?_
    clear bel
    rintro j wr ⟨hj, bel⟩
    refine Cd.seq ?_
    refine Cd.seq ?_
    refine Cd.region ?_
    refine Seq.val (Runs.move rfl rfl) rfl rfl rfl ?_
    refine Seq.val (Runs.move rfl rfl) rfl rfl rfl ?_
    refine Seq.val (Runs.len rfl rfl Try.underlying25) rfl rfl rfl ?_
    refine Seq.val (Runs.lss rfl rfl rfl) rfl rfl rfl ?_
    refine Seq.nil ?_
    refine Post.weak (F' := [(0, _), (3, _), (15, _)]) ⟨rfl, rfl, rfl, trivial⟩ ?_
    refine Post.then_ ?_
    refine Cd.condD rfl (fun hc => ?_) (fun hc => ?_)
    · obtain ⟨f, hf⟩ : ∃ f, fs[j]? = some f := ⟨_, List.getElem?_eq_getElem (show j < fs.length by omega)⟩
      obtain ⟨ad, rfl, hbl, hin, hc⟩ := hr.fl (bel.mono hB) hf
      have hc2 := hc 2 _ rfl
      have hc3 := hc 3 _ rfl
      refine Cd.skip ?_
      refine Post.then_ ?_
      refine Cd.seq ?_
      refine Cd.block ?_
      refine Cd.seq ?_
      refine Cd.region ?_
      refine Seq.val (Runs.move rfl rfl) rfl rfl rfl ?_
      refine Seq.val (Runs.move rfl rfl) rfl rfl rfl ?_
      refine Seq.val (Runs.indexN rfl rfl rfl Try.underlying25 (s := 6) (by kernel_rfl) (j := j) rfl (by omega)) rfl rfl rfl ?_
      refine Seq.val (Runs.fieldA 2 rfl rfl Try.underlying23 rfl (by kernel_rfl)) rfl rfl rfl ?_
      refine Seq.val (Runs.load1 rfl rfl Try.underlying9 rfl hc2) rfl rfl rfl ?_
      refine Seq.val (Runs.lenL rfl rfl Try.underlying9) rfl rfl rfl ?_
      refine Seq.val (Runs.gtr rfl rfl rfl) rfl rfl rfl ?_
      refine Seq.val (Runs.move rfl rfl) rfl rfl rfl ?_
      refine SeqC.start ?_
      refine SeqC.open rfl rfl rfl rfl rfl rfl rfl (fun hcx => Runs.move rfl rfl) ?_
      refine SeqC.next rfl rfl rfl rfl rfl rfl rfl (fun hcx => Runs.move rfl rfl) ?_
      refine SeqC.next rfl rfl rfl rfl rfl rfl rfl (fun hcx => Runs.indexN rfl rfl rfl Try.underlying25 (s := 6) (by kernel_rfl) (j := j) rfl (by omega)) ?_
      refine SeqC.next rfl rfl rfl rfl rfl rfl rfl (fun hcx => Runs.fieldA 3 rfl rfl Try.underlying23 rfl (by kernel_rfl)) ?_
      refine SeqC.next rfl rfl rfl rfl rfl rfl rfl (fun hcx => Runs.load1 rfl rfl Try.underlying9 rfl hc3) ?_
      refine SeqC.next rfl rfl rfl rfl rfl rfl rfl (fun hcx => Runs.lenL rfl rfl Try.underlying9) ?_
      refine SeqC.next rfl rfl rfl rfl rfl rfl rfl (fun hcx => Runs.gtr rfl rfl rfl) ?_
      refine SeqC.or rfl rfl rfl rfl rfl rfl rfl ?_
      refine Seq.nil ?_
      refine Post.weak (F' := [(0, _), (3, _), (15, _), (33, _)]) ⟨rfl, rfl, rfl, rfl, trivial⟩ ?_
      refine Post.then_ ?_
      refine Cd.cond rfl (fun h => ?_) (fun h => ?_)
      · skip
        refine Cd.seq ?_
        refine Cd.region ?_
        refine Seq.val (Runs.assign rfl rfl) rfl rfl rfl ?_
        refine Seq.nil ?_
        refine Post.weak (F' := [(0, _), (2, _), (3, _), (15, _), (33, _)]) ⟨rfl, rfl, rfl, rfl, rfl, trivial⟩ ?_
        refine Post.then_ ?_
        refine Cd.ret ?_
        refine Post.block_ret ?_
        refine Post.then_ret ?_
        refine Post.round_ret ?_
        refine Post.block_ret ?_
        refine Post.then_ret ?_
        refine Post.end1 rfl rfl (.inl rfl) ?_
        exact ⟨⟨true, rfl, fun h => by cases h⟩, bel⟩
      · skip
        refine Cd.skip ?_
        refine Post.block_normal ?_
        refine Post.then_ ?_
        refine Cd.region ?_
        refine Seq.val (Runs.move rfl rfl) rfl rfl rfl ?_
        refine Seq.val (Runs.addI rfl rfl rfl (by omega) (by omega)) rfl rfl rfl ?_
        refine Seq.val (Runs.assign rfl rfl) rfl rfl rfl ?_
        refine Seq.nil ?_
        refine Post.weak (F' := [(0, _), (3, _), (15, _), (33, _)]) ⟨rfl, rfl, rfl, rfl, trivial⟩ ?_
        exact Post.round (j + 1) ⟨rfl, rfl, trivial⟩ ⟨by omega, bel⟩ (by omega)
    · skip
      refine Cd.exit ?_
      refine Post.then_exit ?_
      refine Post.round_exit ?_
      refine Post.block_exit ?_
      refine Post.then_ ?_
      refine Cd.seq ?_
      refine Cd.region ?_
      refine Seq.val (Runs.assign rfl rfl) rfl rfl rfl ?_
      refine Seq.nil ?_
      refine Post.weak (F' := [(0, _), (2, _), (3, _), (15, _)]) ⟨rfl, rfl, rfl, rfl, trivial⟩ ?_
      refine Post.then_ ?_
      refine Cd.ret ?_
      refine Post.end1 rfl rfl (.inl rfl) ?_
      exact ⟨⟨false, rfl, fun _ => hn⟩, bel⟩
theorem fcs_take {fs : List Fl} {k : Nat} {f : Fl} (h : fs[k]? = some f) : fcs (fs.take (k + 1)) = fcs (fs.take k) ++ f.cs.toList := by
  unfold fcs
  rw [List.take_add_one, h, List.flatMap_append]
  simp
theorem files_any (B n cap : Nat) (A : Option Addr) (fs : List Fl) (w : World) (hr : Reads w B 6 A n (fcs fs)) (hB : B ≤ w.heap.size) (hn : n ≤ 101) :
    Calls Try.prog 37 #[.slice A n cap] w fun e w' => ∃ v, e = .returned v ∧ Grow w w' ∧ ∃ A' c, v = .slice A' n c ∧ Own w' w.heap.size 28 6 v n (fcs fs) := by
  have bel := Below.refl w.heap.size w
  have hfl := hr.fl_len
  have own : Own w w.heap.size 28 6 (.slice none 0 0) 0 [] := Own.nil _ _ _ _
  refine Calls.start 19 Try.func37 rfl rfl rfl ?_
  refine Cd.seq ?_
  refine Cd.region ?_
  refine Seq.val (Runs.assign rfl rfl) rfl rfl rfl ?_
  refine Seq.nil ?_
  refine Post.weak (F' := [(0, _), (2, _)]) ⟨rfl, rfl, trivial⟩ ?_
  refine Post.then_ ?_
  refine Cd.seq ?_
  refine Cd.region ?_
  refine Seq.val (Runs.assign rfl rfl) rfl rfl rfl ?_
  refine Seq.nil ?_
  refine Post.weak (F' := [(0, _), (2, _), (3, _)]) ⟨rfl, rfl, rfl, trivial⟩ ?_
  refine Post.then_ ?_
  refine Cd.seq ?_
  refine Cd.seq ?_
  refine Cd.region ?_
  refine Seq.val (Runs.assign rfl rfl) rfl rfl rfl ?_
  refine Seq.nil ?_
  refine Post.weak (F' := [(0, _), (2, _), (3, _), (4, _)]) ⟨rfl, rfl, rfl, rfl, trivial⟩ ?_
  refine Post.then_ ?_
  refine Cd.block ?_
  refine Cd.loop (σ := Nat × Value) (fun s => [(0, .slice A n cap), (3, s.2), (4, .int .i64 (s.1 : Int))]) (fun s wr => s.1 ≤ n ∧ Below w.heap.size w wr ∧ Own wr w.heap.size 28 6 s.2 s.1 (fcs (fs.take s.1))) (fun s => n - s.1) (0, .slice none 0 0) ⟨Nat.zero_le _, bel, own⟩ ⟨rfl, rfl, rfl, trivial⟩ ?_
  clear bel
  clear own
  rintro ⟨k, v⟩ wr ⟨hk, bel, own⟩
  simp only at hk own
  show Cd _ _ _ _ [(0, .slice A n cap), (3, v), (4, .int .i64 (k : Int))] _
  refine Cd.seq ?_
  refine Cd.seq ?_
  refine Cd.region ?_
  refine Seq.val (Runs.move rfl rfl) rfl rfl rfl ?_
  refine Seq.val (Runs.move rfl rfl) rfl rfl rfl ?_
  refine Seq.val (Runs.len rfl rfl Try.underlying25) rfl rfl rfl ?_
  refine Seq.val (Runs.lss rfl rfl rfl) rfl rfl rfl ?_
  refine Seq.nil ?_
  refine Post.weak (F' := [(0, _), (3, _), (4, _), (8, _)]) ⟨rfl, rfl, rfl, rfl, trivial⟩ ?_
  refine Post.then_ ?_
  refine Cd.condD rfl (fun hc => ?_) (fun hc => ?_)
  · obtain ⟨f, hf⟩ : ∃ f, fs[k]? = some f := ⟨_, List.getElem?_eq_getElem (show k < fs.length by omega)⟩
    obtain ⟨ad, rfl, hbl, hin, hc⟩ := hr.fl (bel.mono hB) hf
    have htk := fcs_take hf
    refine Cd.skip ?_
    refine Post.then_ ?_
    refine Cd.seq ?_
    refine Cd.block ?_
    refine Cd.region ?_
    refine Seq.val (Runs.move rfl rfl) rfl rfl rfl ?_
    refine Seq.val (Runs.move rfl rfl) rfl rfl rfl ?_
    refine Seq.val (Runs.move rfl rfl) rfl rfl rfl ?_
    refine Seq.val (Runs.indexN rfl rfl rfl Try.underlying25 (s := 6) (by kernel_rfl) (j := k) rfl (by omega)) rfl rfl rfl ?_
    refine Seq.val (Runs.loadF (ps := [.int .i64 f.num, .int .i64 f.level, .string (strOf f.first), .string (strOf f.last), .int .i64 f.count, .int .i64 f.size]) rfl rfl Try.underlying23 rfl (m := 6) (by kernel_rfl) rfl hc) rfl rfl rfl ?_
    refine Seq.slice (vs := [_]) (s := 6) rfl rfl rfl Try.underlying36 (by kernel_rfl) (zero_edit_File) (by omega) (by omega) ⟨rfl, trivial⟩ rfl rfl rfl ?_
    intro g16 w1 n16
    have e16 := Nat.le_trans bel.size n16.ge
    replace bel := bel.step n16.below
    replace own := own.step n16.below
    have k16 := n16.blk
    have hrd := Reads.blk (size := 6) k16 1 rfl
    refine Seq.append rfl rfl rfl Try.underlying36 (by kernel_rfl) zero_edit_File rfl (by decide) (b := 64) (by kernel_rfl) own (hrd) (by intro x hx; simp [flatC, Value.cells] at hx; rcases hx with rfl | rfl | rfl | rfl | rfl | rfl <;> rfl) bel.size (by simp only [maxLen]; omega) (by omega) rfl rfl rfl ?_
    clear own
    intro vw2 w2 own haw2
    replace bel := bel.trans haw2.below
    refine Seq.val (Runs.assign rfl rfl) rfl rfl rfl ?_
    refine Seq.nil ?_
    refine Post.weak (F' := [(0, _), (3, _), (4, _), (8, _)]) ⟨rfl, rfl, rfl, rfl, trivial⟩ ?_
    refine Post.block_normal ?_
    refine Post.then_ ?_
    refine Cd.region ?_
    refine Seq.val (Runs.move rfl rfl) rfl rfl rfl ?_
    refine Seq.val (Runs.addI rfl rfl rfl (by omega) (by omega)) rfl rfl rfl ?_
    refine Seq.val (Runs.assign rfl rfl) rfl rfl rfl ?_
    refine Seq.nil ?_
    refine Post.weak (F' := [(0, _), (3, _), (4, _), (8, _)]) ⟨rfl, rfl, rfl, rfl, trivial⟩ ?_
    exact Post.round (k + 1, vw2) ⟨rfl, rfl, rfl, trivial⟩ ⟨by simp only; omega, bel, by rw [htk]; exact own⟩ (by simp only; omega)
  · obtain rfl : k = n := by omega
    rw [List.take_of_length_le (by omega)] at own
    obtain ⟨A', c, rfl, -⟩ := own.reads
    refine Cd.exit ?_
    refine Post.then_exit ?_
    refine Post.round_exit ?_
    refine Post.block_exit ?_
    refine Post.then_ ?_
    refine Cd.seq ?_
    refine Cd.region ?_
    refine Seq.val (Runs.move rfl rfl) rfl rfl rfl ?_
    refine Seq.val (Runs.assign rfl rfl) rfl rfl rfl ?_
    refine Seq.nil ?_
    refine Post.weak (F' := [(0, _), (2, _), (3, _), (4, _), (8, _)]) ⟨rfl, rfl, rfl, rfl, rfl, trivial⟩ ?_
    refine Post.then_ ?_
    refine Cd.ret ?_
    refine Post.end1 rfl rfl (.inl rfl) ?_
    exact ⟨_, rfl, bel, A', c, rfl, own⟩
/-- A list of files of the call's own. -/
def OwnF (B n : Nat) (xs : List Value) (v : Value) (w : World) : Prop := ∃ A c, v = .slice A n c ∧ Own w B 28 6 v n xs
theorem OwnF.stable {B n : Nat} {xs : List Value} : ∀ v w w', Grow w w' → OwnF B n xs v w → OwnF B n xs v w' := fun _ _ _ hG ⟨A, c, e, h⟩ => ⟨A, c, e, h.step hG⟩
theorem zero_edit_Edit : zeroIs Try.prog 38 = some (some (.agg #[.int .i64 0, .int .i64 0, .int .i64 0, .slice none 0 0, .slice none 0 0])) := by kernel_rfl
theorem run_build_Edit (a b c : Int) (A A' : Option Addr) (m k m' k' : Nat) (w : World) : (Instr.build 38 #[(0, .int .i64 a), (1, .int .i64 b), (2, .int .i64 c), (3, .slice A m k), (4, .slice A' m' k')]).run Try.prog w = .ok (.agg #[.int .i64 a, .int .i64 b, .int .i64 c, .slice A m k, .slice A' m' k']) w := by
  have hu := Try.underlying38
  go_simp
theorem of_any (lg nx sq : Int) (B n m c c' : Nat) (A A' : Option Addr) (fs : List Fl) (w : World) (hr : Reads w B 6 A' m (fcs fs)) (hB : B ≤ w.heap.size) (hn : m ≤ 101) :
    Calls Try.prog 13 #[.agg #[.int .i64 lg, .int .i64 nx, .int .i64 sq, .slice A n c, .slice A' m c']] w fun e w' => Grow w w' ∧ ∃ A2 c2, e = .returned (.agg #[.int .i64 lg, .int .i64 nx, .int .i64 sq, .slice A n c, .slice A2 m c2]) ∧ Own w' w.heap.size 28 6 (.slice A2 m c2) m (fcs fs) := by
  have bel := Below.refl w.heap.size w
  refine Calls.start 15 Try.func13 rfl rfl rfl ?_
  refine Cd.seq ?_
  refine Cd.region ?_
  refine Seq.box rfl rfl rfl rfl rfl ?_
  intro g1 w1 n1
  have e1 := Nat.le_trans bel.size n1.ge
  replace bel := bel.step n1.below
  have k1 := n1.blk
  refine Seq.alloc rfl (run_zero zero_edit_Edit) rfl rfl rfl ?_
  intro g2 w2 n2
  have e2 := Nat.le_trans bel.size n2.ge
  have l2 := Nat.lt_of_lt_of_le k1.lt n2.ge
  replace bel := bel.step n2.below
  replace k1 := k1.step n2.below
  have k2 := n2.blk
  refine Seq.nil ?_
  refine Post.weak (F' := [(0, _), (1, _), (2, _)]) ⟨rfl, rfl, rfl, trivial⟩ ?_
  refine Post.then_ ?_
  refine Cd.seq ?_
  have hfl := fun W (hb : Below w.heap.size w W) => files_any B m c' A' fs W (hr.below (hb.mono hB)) (Nat.le_trans hB hb.size) hn
  refine Cd.draw 11 (by kernel_rfl) [] (.inl rfl) rfl Grow Grow.refl (fun _ _ _ => Grow.trans) ?_
  intro w3 hw3 zw3
  replace bel := bel.step hw3
  replace k1 := k1.step hw3
  replace k2 := k2.step hw3
  have zbel := bel.size
  have zlt := k2.lt
  refine Dr.val Grow.refl rfl (fun w hG => Runs.fieldB 0 rfl rfl Try.underlying32 rfl (by kernel_rfl)) rfl ?_
  refine Dr.val Grow.refl rfl (fun w hG => Runs.loadB rfl rfl Try.underlying3 rfl (k1.step hG) rfl) rfl ?_
  refine Dr.val Grow.refl rfl (fun w hG => Runs.fieldB 1 rfl rfl Try.underlying32 rfl (by kernel_rfl)) rfl ?_
  refine Dr.val Grow.refl rfl (fun w hG => Runs.loadB rfl rfl Try.underlying3 rfl (k1.step hG) rfl) rfl ?_
  refine Dr.val Grow.refl rfl (fun w hG => Runs.fieldB 2 rfl rfl Try.underlying32 rfl (by kernel_rfl)) rfl ?_
  refine Dr.val Grow.refl rfl (fun w hG => Runs.loadB rfl rfl Try.underlying3 rfl (k1.step hG) rfl) rfl ?_
  refine Dr.val Grow.refl rfl (fun w hG => Runs.fieldB 3 rfl rfl Try.underlying32 rfl (by kernel_rfl)) rfl ?_
  refine Dr.val Grow.refl rfl (fun w hG => Runs.loadB rfl rfl Try.underlying30 rfl (k1.step hG) rfl) rfl ?_
  refine Dr.val Grow.refl rfl (fun w hG => Runs.fieldB 4 rfl rfl Try.underlying32 rfl (by kernel_rfl)) rfl ?_
  refine Dr.val Grow.refl rfl (fun w hG => Runs.loadB rfl rfl Try.underlying25 rfl (k1.step hG) rfl) rfl ?_
  refine Dr.call (Φ := OwnF w.heap.size m (fcs fs)) rfl (fun w => Enters.func rfl rfl rfl (run_enter Try.func37 (by kernel_rfl) rfl)) rfl (OwnF.stable) (fun w hG => (hfl _ (bel.step hG)).mono fun e w' ⟨v, e1, hg, A2, c2, e2, ho⟩ => ⟨v, e1, hg, A2, c2, e2, ⟨own_base ho.row (bel.step hG).size⟩⟩) ?_
  refine Dr.nil ?_
  refine FinX.open (j := 10) rfl ?_
  intro u10
  refine FinX.done (F' := [(0, _), (1, _), (2, _), (4, _), (6, _), (8, _), (10, _), (13, _)]) rfl ⟨rfl, rfl, rfl, rfl, rfl, rfl, rfl, rfl, trivial⟩ ?_
  intro w4 hw4 fw4
  replace bel := bel.step hw4
  replace k1 := k1.step hw4
  replace k2 := k2.step hw4
  obtain ⟨A2, c2, rfl, own⟩ := fw4.2
  refine Seq.val (Runs.build rfl rfl (run_build_Edit _ _ _ _ _ _ _ _ _ _)) rfl rfl rfl ?_
  refine Seq.storeN rfl rfl rfl rfl (m := 5) (by kernel_rfl) rfl (by repeat' first | exact trivial | apply And.intro | rfl | assumption) k2 (by simp [Value.cells]) rfl rfl ?_
  intro w5 pw5
  replace bel := bel.put k2 pw5 e2
  replace k1 := k1.put pw5 (by omega)
  replace own := own.put k2 pw5 e2
  replace k2 := pw5.blk
  refine Seq.nil ?_
  refine Post.weak (F' := [(0, _), (1, _), (2, _)]) ⟨rfl, rfl, rfl, trivial⟩ ?_
  refine Post.then_ ?_
  refine Cd.ret ?_
  refine Post.endC rfl rfl k2 Try.underlying38 rfl (m := 5) (by kernel_rfl) rfl (.inl rfl) ?_
  exact ⟨bel, A2, c2, rfl, own⟩
/-- What an edit says, as numbers without a sign. -/
def nFn (f : Fl) : Fn := ⟨f.num.toNat, f.level.toNat, f.first, f.last, f.count.toNat, f.size.toNat⟩
structure Fl.rng (f : Fl) : Prop where
  num : I64 f.num
  level : I64 f.level
  count : I64 f.count
  size : I64 f.size
  first : ∀ d ∈ f.first, d < 256
  last : ∀ d ∈ f.last, d < 256
theorem laid_forms {lg nx sq : Int} {drop : List Int} {add : List Fl} (h : laidB lg nx sq drop add = true) (hd : ∀ x ∈ drop, I64 x) (ha : ∀ f ∈ add, f.rng) :
    DN (drop.map Int.toNat) = drop ∧ (add.map nFn).map Fn.fl = add ∧ (∀ n ∈ drop.map Int.toNat, n < 9223372036854775808) ∧ (∀ f ∈ add.map nFn, f.ok) ∧ drop.length ≤ 100 ∧ add.length ≤ 100 := by
  obtain ⟨-, -, -, h4, h5, h6, h7⟩ := (laidB_iff ..).1 h
  have hb : ∀ f ∈ add, 0 ≤ f.num ∧ 0 ≤ f.level ∧ 0 ≤ f.count ∧ 0 ≤ f.size ∧ f.first.length ≤ 80 ∧ f.last.length ≤ 80 := fun f hf => by
    have := h7 f hf
    rw [badF_iff] at this
    have := of_decide_eq_false this
    omega
  refine ⟨?_, ?_, ?_, ?_, h4, h5⟩
  · unfold DN
    rw [List.map_map]
    conv => rhs; rw [← List.map_id drop]
    refine List.map_congr_left fun x hx => ?_
    have := h6 x hx
    show ((x.toNat : Nat) : Int) = x
    omega
  · rw [List.map_map]
    conv => rhs; rw [← List.map_id add]
    refine List.map_congr_left fun f hf => ?_
    obtain ⟨b1, b2, b3, b4, -, -⟩ := hb f hf
    show (⟨((f.num.toNat : Nat) : Int), ((f.level.toNat : Nat) : Int), f.first, f.last, ((f.count.toNat : Nat) : Int), ((f.size.toNat : Nat) : Int)⟩ : Fl) = f
    rw [Int.toNat_of_nonneg b1, Int.toNat_of_nonneg b2, Int.toNat_of_nonneg b3, Int.toNat_of_nonneg b4]
  · intro n hn
    obtain ⟨x, hx, rfl⟩ := List.mem_map.1 hn
    have := (hd x hx).2
    have := h6 x hx
    omega
  · intro g hg
    obtain ⟨f, hf, rfl⟩ := List.mem_map.1 hg
    obtain ⟨b1, b2, b3, b4, b5, b6⟩ := hb f hf
    have r := ha f hf
    have r1 := r.num.2
    have r2 := r.level.2
    have r3 := r.count.2
    have r4 := r.size.2
    exact ⟨by show f.num.toNat < _; omega, by show f.level.toNat < _; omega, by show f.count.toNat < _; omega, by show f.size.toNat < _; omega, r.first, r.last, b5, b6⟩
theorem choose_of {α : Type} (n : Nat) (p : Nat → α → Prop) (h : ∀ i, i < n → ∃ f, p i f) : ∃ l : List α, l.length = n ∧ ∀ i f, l[i]? = some f → p i f := by
  induction n with
  | zero => exact ⟨[], rfl, fun i f hf => by simp at hf⟩
  | succ n ih =>
    obtain ⟨l, hl, hp⟩ := ih fun i hi => h i (by omega)
    obtain ⟨x, hx⟩ := h n (by omega)
    refine ⟨l ++ [x], by simp [hl], fun i f hf => ?_⟩
    rcases Nat.lt_or_ge i n with hi | hi
    · rw [List.getElem?_append_left (by omega)] at hf
      exact hp i f hf
    · rw [List.getElem?_append_right (by omega)] at hf
      have h0 : i - l.length = 0 := by
        have := (List.getElem?_eq_some_iff.1 hf).1
        simp at this
        omega
      rw [h0] at hf
      simp at hf
      subst hf
      have : i = n := by omega
      subst this
      exact hx
theorem has64 {x : Int} (h : Lit.wf (.int .i64 x) = true) : I64 x := by
  simp only [Lit.wf, Bool.and_eq_true, decide_eq_true_eq] at h
  exact ⟨h.1, h.2⟩
end Go.Proofs.Ythnnephcohljeaa

/-
  Files sorted in place: swapRange, rotate, insertionSort of slices. Condition: the files are few.
-/
import Derived.Test.YthcimkhnijnmgaaSrtA
import Derived.Test.YthcimkhnijnmgaaEditE
namespace Go.Proofs.Ythcimkhnijnmgaa
open Go.RowKit

/-- Only a block and new ones have changed. -/
structure Onl (w0 w : World) (g : Nat) : Prop where
  row : w0.grownBy w (some g)
theorem Onl.step {w0 w w' : World} {g : Nat} (h : Onl w0 w g) (hb : Below w.heap.size w w') : Onl w0 w' g := ⟨only_below h.row hb⟩
theorem Onl.trans {w0 w w' : World} {g : Nat} (h : Onl w0 w g) (h' : Onl w w' g) : Onl w0 w' g := ⟨only_trans h.row h'.row⟩
theorem Onl.refl (w : World) (g : Nat) : Onl w w g := ⟨only_of_below (Below.refl _ _) _⟩
theorem int_at {z z' : Int} (h : z = z') : (some (Value.int .i64 z) : Option Value) = some (.int .i64 z') := by rw [h]
theorem Seq.storeR {ops : Array Oper} {Q : Exit → Act → World → Prop} {rest : List Oper} {n : Nat} {F : List (Nat × Value)} {o : Oper} {x y : Operand} {T : TypeId} {w w0 : World} {g j : Nat} {d : List Fl} {pad : List Value} {f : Fl} [Inhabited (List Deferred)] (ho : o.op = .store T x y) (hx : evF F x = some (.pointer (some ⟨g, 6 * j, none⟩))) (hy : evF F y = some f.v) (hs : sizeIs Try.prog T 6 = true)
    (k : Blk w g 37 (fcs d ++ pad).toArray) (hj : j < d.length) (only : Onl w0 w g) (hg : o.guard = none) (hd : o.dst = none)
    (h : ∀ w', Blk w' g 37 (fcs (d.set j f) ++ pad).toArray → Onl w0 w' g → Seq Try.prog ops Q rest n F w') : Seq Try.prog ops Q (o :: rest) n F w := by
  refine Seq.storeN (cs := f.cs) ho hx hy rfl hs rfl ⟨rfl, rfl, rfl, rfl, rfl, rfl, trivial⟩ k (by have h6 : f.cs.size = 6 := rfl; rw [h6]; simp [fcs_len]; omega) hg hd fun w' p => ?_
  have k' := p.blk
  rw [fcs_set f hj] at k'
  exact h w' k' ⟨only_trans only.row p.grown⟩
theorem swapR_any (g cap a b c n : Nat) (P U M V S : List Fl) (pad : List Value) (v : Value) (w : World) (hn : U.length = V.length) (hN : n = (P ++ (U ++ (M ++ (V ++ S)))).length) (h1 : n ≤ 1000000) (ha : a = P.length) (hb : b = P.length + U.length + M.length) (hcc : c = U.length) (k0 : Blk w g 37 (fcs (P ++ (U ++ (M ++ (V ++ S)))) ++ pad).toArray) :
    Calls Try.prog 57 #[.slice (some ⟨g, 0, none⟩) n cap, .int .i64 (a : Int), .int .i64 (b : Int), .int .i64 (c : Int), v] w fun e w' => e = .returned (.tuple #[]) ∧ Blk w' g 37 (fcs (P ++ (V ++ (M ++ (U ++ S)))) ++ pad).toArray ∧ Onl w w' g := by
  have only := Onl.refl w g
  obtain ⟨d, hd⟩ : ∃ d, d = P ++ (U ++ (M ++ (V ++ S))) := ⟨_, rfl⟩
  rw [← hd] at k0 hN
  have hdl : d.length = P.length + U.length + M.length + V.length + S.length := by rw [hd]; simp; omega
  refine Calls.start 38 Try.func57 rfl rfl rfl ?_
  refine Cd.seq ?_
  refine Cd.region ?_
  refine Seq.val (Runs.assign rfl rfl) rfl rfl rfl ?_
  refine Seq.nil ?_
  refine Post.weak (F' := [(0, _), (1, _), (2, _), (3, _), (10, _)]) ⟨rfl, rfl, rfl, rfl, rfl, trivial⟩ ?_
  refine Post.then_ ?_
  refine Cd.block ?_
  refine Cd.loop (σ := Nat × List Fl) (fun s => [(0, .slice (some ⟨g, 0, none⟩) n cap), (1, .int .i64 (a : Int)), (2, .int .i64 (b : Int)), (3, .int .i64 (c : Int)), (10, .int .i64 (s.1 : Int))])
    (fun s wr => s.1 ≤ c ∧ s.2.length = d.length ∧ (∀ j, s.2[j]? = swB d a b s.1 j) ∧ Blk wr g 37 (fcs (s.2) ++ pad).toArray ∧ Onl w wr g) (fun s => c - s.1) (0, d) ⟨Nat.zero_le _, rfl, swB_zero d a b, k0, only⟩ ⟨rfl, rfl, rfl, rfl, rfl, trivial⟩ ?_
  clear k0 only
  rintro ⟨i, q⟩ wr ⟨hi, hql, hq, k0, only⟩
  simp only at hi hql hq k0
  show Cd _ _ _ _ [(0, .slice (some ⟨g, 0, none⟩) n cap), (1, .int .i64 (a : Int)), (2, .int .i64 (b : Int)), (3, .int .i64 (c : Int)), (10, .int .i64 (i : Int))] _
  refine Cd.seq ?_
  refine Cd.seq ?_
  refine Cd.region ?_
  refine Seq.val (Runs.move rfl rfl) rfl rfl rfl ?_
  refine Seq.val (Runs.move rfl rfl) rfl rfl rfl ?_
  refine Seq.val (Runs.lss rfl rfl rfl) rfl rfl rfl ?_
  refine Seq.nil ?_
  refine Post.weak (F' := [(0, _), (1, _), (2, _), (3, _), (10, _), (13, _)]) ⟨rfl, rfl, rfl, rfl, rfl, rfl, trivial⟩ ?_
  refine Post.then_ ?_
  refine Cd.condD rfl (fun hc => ?_) (fun hc => ?_)
  · obtain ⟨x, hx⟩ : ∃ x, d[a + i]? = some x := ⟨_, List.getElem?_eq_getElem (show a + i < d.length by omega)⟩
    obtain ⟨y, hy⟩ : ∃ x, d[b + i]? = some x := ⟨_, List.getElem?_eq_getElem (show b + i < d.length by omega)⟩
    have hx' : q[a + i]? = some x := by rw [hq]; unfold swB; rw [if_neg (by omega), if_neg (by omega)]; exact hx
    have hy' : q[b + i]? = some y := by rw [hq]; unfold swB; rw [if_neg (by omega), if_neg (by omega)]; exact hy
    have hst := swB_step (by omega) hq hx hy hql (by omega)
    refine Cd.skip ?_
    refine Post.then_ ?_
    refine Cd.seq ?_
    refine Cd.block ?_
    refine Cd.draw 20 (by kernel_rfl) [4, 5, 6, 7] (.inr (fun _ _ d _ _ h => by cases d <;> exact h)) rfl Grow Grow.refl (fun _ _ _ => Grow.trans) ?_
    intro w1 hw1 zw1
    replace k0 := k0.step hw1
    replace only := only.step hw1
    have zlt := k0.lt
    refine Dr.val Grow.refl rfl (fun w hG => Runs.move rfl rfl) rfl ?_
    refine Dr.val Grow.refl rfl (fun w hG => Runs.move rfl rfl) rfl ?_
    refine Dr.val Grow.refl rfl (fun w hG => Runs.move rfl rfl) rfl ?_
    refine Dr.val Grow.refl rfl (fun w hG => Runs.addI rfl rfl rfl (by omega) (by omega)) rfl ?_
    refine Dr.late rfl rfl (fun w => Runs.move rfl rfl) Grow.refl rfl ?_
    refine Dr.late rfl rfl (fun w => Runs.move rfl rfl) Grow.refl rfl ?_
    refine Dr.late rfl rfl (fun w => Runs.move rfl rfl) Grow.refl rfl ?_
    refine Dr.late rfl rfl (fun w => Runs.addI rfl rfl rfl (by omega) (by omega)) Grow.refl rfl ?_
    refine Dr.val Grow.refl rfl (fun w hG => Runs.move rfl rfl) rfl ?_
    refine Dr.val Grow.refl rfl (fun w hG => Runs.move rfl rfl) rfl ?_
    refine Dr.val Grow.refl rfl (fun w hG => Runs.move rfl rfl) rfl ?_
    refine Dr.val Grow.refl rfl (fun w hG => Runs.addI rfl rfl rfl (by omega) (by omega)) rfl ?_
    refine Dr.val Grow.refl rfl (fun w hG => Runs.indexBN rfl rfl rfl Try.underlying27 (s := 6) (by kernel_rfl) (j := b + i) (by omega) (by omega)) rfl ?_
    refine Dr.val Grow.refl rfl (fun w hG => Runs.loadP (off := 6 * (b + i)) (ps := [.int .i64 y.num, .int .i64 y.level, .string (strOf y.first), .string (strOf y.last), .int .i64 y.count, .int .i64 y.size]) rfl rfl Try.underlying37 rfl (k0.step hG) (m := 6) (by kernel_rfl) rfl (fcs_ld hy')) rfl ?_
    refine Dr.val Grow.refl rfl (fun w hG => Runs.move rfl rfl) rfl ?_
    refine Dr.val Grow.refl rfl (fun w hG => Runs.move rfl rfl) rfl ?_
    refine Dr.val Grow.refl rfl (fun w hG => Runs.move rfl rfl) rfl ?_
    refine Dr.val Grow.refl rfl (fun w hG => Runs.addI rfl rfl rfl (by omega) (by omega)) rfl ?_
    refine Dr.val Grow.refl rfl (fun w hG => Runs.indexBN rfl rfl rfl Try.underlying27 (s := 6) (by kernel_rfl) (j := a + i) (by omega) (by omega)) rfl ?_
    refine Dr.val Grow.refl rfl (fun w hG => Runs.loadP (off := 6 * (a + i)) (ps := [.int .i64 x.num, .int .i64 x.level, .string (strOf x.first), .string (strOf x.last), .int .i64 x.count, .int .i64 x.size]) rfl rfl Try.underlying37 rfl (k0.step hG) (m := 6) (by kernel_rfl) rfl (fcs_ld hx')) rfl ?_
    refine Dr.nil ?_
    refine FinX.done (F' := [(0, _), (1, _), (2, _), (3, _), (10, _), (13, _), (16, _), (19, _), (20, _), (23, _), (29, _), (35, _)]) rfl ⟨rfl, rfl, rfl, rfl, rfl, rfl, rfl, rfl, rfl, rfl, rfl, rfl, trivial⟩ ?_
    intro w2 hw2 fw2
    replace k0 := k0.step hw2
    replace only := only.step hw2
    refine Seq.val (Runs.indexBN rfl rfl rfl Try.underlying27 (s := 6) (by kernel_rfl) (j := a + i) (by omega) (by omega)) rfl rfl rfl ?_
    refine Seq.storeR (f := y) rfl rfl rfl (by kernel_rfl) k0 (by (try simp only [List.length_set]); omega) only rfl rfl ?_
    intro wz kz oz
    clear k0 only
    have k0 := kz
    have only := oz
    clear kz oz
    refine Seq.val (Runs.indexBN rfl rfl rfl Try.underlying27 (s := 6) (by kernel_rfl) (j := b + i) (by omega) (by omega)) rfl rfl rfl ?_
    refine Seq.storeR (f := x) rfl rfl rfl (by kernel_rfl) k0 (by (try simp only [List.length_set]); omega) only rfl rfl ?_
    intro wz kz oz
    clear k0 only
    have k0 := kz
    have only := oz
    clear kz oz
    refine Seq.nil ?_
    refine Post.weak (F' := [(0, _), (1, _), (2, _), (3, _), (10, _), (13, _)]) ⟨rfl, rfl, rfl, rfl, rfl, rfl, trivial⟩ ?_
    refine Post.block_normal ?_
    refine Post.then_ ?_
    refine Cd.region ?_
    refine Seq.val (Runs.move rfl rfl) rfl rfl rfl ?_
    refine Seq.val (Runs.addI rfl rfl rfl (by omega) (by omega)) rfl rfl rfl ?_
    refine Seq.val (Runs.assign rfl rfl) rfl rfl rfl ?_
    refine Seq.nil ?_
    refine Post.weak (F' := [(0, _), (1, _), (2, _), (3, _), (10, _), (13, _)]) ⟨rfl, rfl, rfl, rfl, rfl, rfl, trivial⟩ ?_
    exact Post.round (i + 1, (q.set (a + i) y).set (b + i) x) ⟨rfl, rfl, rfl, rfl, int_at (by omega), trivial⟩ ⟨by simp only; omega, by simp [hql], hst, k0, only⟩ (by simp only; omega)
  · obtain rfl : i = c := by omega
    subst ha hb hcc
    rw [hd] at hq
    rw [swB_end hn hq] at k0
    refine Cd.exit ?_
    refine Post.then_exit ?_
    refine Post.round_exit ?_
    refine Post.block_exit ?_
    refine Post.end0 rfl (.inr rfl) ?_
    exact ⟨rfl, k0, only⟩
theorem rotate_any (g cap a m b n : Nat) (P U V S : List Fl) (pad : List Value) (v : Value) (w : World) (hU : 0 < U.length) (hV : 0 < V.length) (hN : n = (P ++ (U ++ (V ++ S))).length) (h1 : n ≤ 1000000) (ha : a = P.length) (hm : m = a + U.length) (hb : b = m + V.length) (k0 : Blk w g 37 (fcs (P ++ (U ++ (V ++ S))) ++ pad).toArray) :
    Calls Try.prog 56 #[.slice (some ⟨g, 0, none⟩) n cap, .int .i64 (a : Int), .int .i64 (m : Int), .int .i64 (b : Int), v] w fun e w' => e = .returned (.tuple #[]) ∧ Blk w' g 37 (fcs (P ++ (V ++ (U ++ S))) ++ pad).toArray ∧ Onl w w' g := by
  have only := Onl.refl w g
  simp only [List.length_append] at hN
  refine Calls.start 58 Try.func56 rfl rfl rfl ?_
  refine Cd.seq ?_
  refine Cd.region ?_
  refine Seq.val (Runs.move rfl rfl) rfl rfl rfl ?_
  refine Seq.val (Runs.move rfl rfl) rfl rfl rfl ?_
  refine Seq.val (Runs.subI rfl rfl rfl (by omega) (by omega)) rfl rfl rfl ?_
  refine Seq.val (Runs.assign rfl rfl) rfl rfl rfl ?_
  refine Seq.nil ?_
  refine Post.weak (F' := [(0, _), (1, _), (2, _), (3, _), (4, _), (10, _)]) ⟨rfl, rfl, rfl, rfl, rfl, rfl, trivial⟩ ?_
  refine Post.then_ ?_
  refine Cd.seq ?_
  refine Cd.region ?_
  refine Seq.val (Runs.move rfl rfl) rfl rfl rfl ?_
  refine Seq.val (Runs.move rfl rfl) rfl rfl rfl ?_
  refine Seq.val (Runs.subI rfl rfl rfl (by omega) (by omega)) rfl rfl rfl ?_
  refine Seq.val (Runs.assign rfl rfl) rfl rfl rfl ?_
  refine Seq.nil ?_
  refine Post.weak (F' := [(0, _), (1, _), (2, _), (3, _), (4, _), (10, _), (11, _)]) ⟨rfl, rfl, rfl, rfl, rfl, rfl, rfl, trivial⟩ ?_
  refine Post.then_ ?_
  refine Cd.seq ?_
  refine Cd.block ?_
  refine Cd.loop (σ := List Fl × List Fl × List Fl × List Fl) (fun s => [(0, .slice (some ⟨g, 0, none⟩) n cap), (2, .int .i64 (m : Int)), (4, v), (10, .int .i64 (s.2.1.length : Int)), (11, .int .i64 (s.2.2.1.length : Int))])
    (fun s wr => 0 < s.2.1.length ∧ 0 < s.2.2.1.length ∧ m = P.length + s.1.length + s.2.1.length ∧ s.1 ++ (s.2.2.1 ++ (s.2.1 ++ s.2.2.2)) = V ++ U ∧ Blk wr g 37 (fcs (P ++ (s.1 ++ (s.2.1 ++ (s.2.2.1 ++ (s.2.2.2 ++ S))))) ++ pad).toArray ∧ Onl w wr g) (fun s => s.2.1.length + s.2.2.1.length) ([], U, V, []) ⟨hU, hV, by simp; omega, by simp, by simpa using k0, only⟩ ⟨rfl, rfl, rfl, int_at (by simp only; omega), int_at (by simp only; omega), trivial⟩ ?_
  clear k0 only
  rintro ⟨D1, U1, V1, D2⟩ wr ⟨hU1, hV1, hm1, hD, k0, only⟩
  simp only at hU1 hV1 hm1 hD k0
  have hl := congrArg List.length hD
  simp only [List.length_append] at hl
  show Cd _ _ _ _ [(0, .slice (some ⟨g, 0, none⟩) n cap), (2, .int .i64 (m : Int)), (4, v), (10, .int .i64 (U1.length : Int)), (11, .int .i64 (V1.length : Int))] _
  refine Cd.seq ?_
  refine Cd.seq ?_
  refine Cd.region ?_
  refine Seq.val (Runs.move rfl rfl) rfl rfl rfl ?_
  refine Seq.val (Runs.move rfl rfl) rfl rfl rfl ?_
  refine Seq.val (Runs.neqI rfl rfl rfl) rfl rfl rfl ?_
  refine Seq.nil ?_
  refine Post.weak (F' := [(0, _), (2, _), (4, _), (10, _), (11, _), (20, _)]) ⟨rfl, rfl, rfl, rfl, rfl, rfl, trivial⟩ ?_
  refine Post.then_ ?_
  refine Cd.cond rfl (fun h => ?_) (fun h => ?_)
  · have h : U1.length ≠ V1.length := by simp at h; omega
    refine Cd.skip ?_
    refine Post.then_ ?_
    refine Cd.block ?_
    refine Cd.seq ?_
    refine Cd.region ?_
    refine Seq.val (Runs.move rfl rfl) rfl rfl rfl ?_
    refine Seq.val (Runs.move rfl rfl) rfl rfl rfl ?_
    refine Seq.val (Runs.gtr rfl rfl rfl) rfl rfl rfl ?_
    refine Seq.nil ?_
    refine Post.weak (F' := [(0, _), (2, _), (4, _), (10, _), (11, _), (20, _), (23, _)]) ⟨rfl, rfl, rfl, rfl, rfl, rfl, rfl, trivial⟩ ?_
    refine Post.then_ ?_
    refine Cd.condD rfl (fun hc => ?_) (fun hc => ?_)
    · obtain ⟨A, B, rfl, hA⟩ : ∃ A B, U1 = A ++ B ∧ A.length = V1.length := ⟨U1.take V1.length, U1.drop V1.length, (List.take_append_drop _ _).symm, by rw [List.length_take]; omega⟩
      have k0 : Blk wr g 37 (fcs ((P ++ D1) ++ (A ++ (B ++ (V1 ++ (D2 ++ S))))) ++ pad).toArray := by simpa using k0
      have hAB : (A ++ B).length = A.length + B.length := List.length_append
      simp only [List.length_append] at hm1 hl hU1 hc
      refine Cd.seq ?_
      refine Cd.region ?_
      refine Seq.val (Runs.move rfl rfl) rfl rfl rfl ?_
      refine Seq.val (Runs.move rfl rfl) rfl rfl rfl ?_
      refine Seq.val (Runs.move rfl rfl) rfl rfl rfl ?_
      refine Seq.val (Runs.subI rfl rfl rfl (by omega) (by omega)) rfl rfl rfl ?_
      refine Seq.val (Runs.move rfl rfl) rfl rfl rfl ?_
      refine Seq.val (Runs.move rfl rfl) rfl rfl rfl ?_
      refine Seq.val (Runs.move rfl rfl) rfl rfl rfl ?_
      have hz1 : (m : Int) - ((A ++ B).length : Int) = ((P ++ D1).length : Int) := by simp only [List.length_append]; omega
      rw [hz1]
      refine Seq.call (Enters.func rfl rfl rfl (run_enter Try.func57 (by kernel_rfl) rfl)) rfl rfl rfl (swapR_any g cap (P ++ D1).length m V1.length n (P ++ D1) A B V1 (D2 ++ S) pad v _ hA (by simp only [List.length_append]; omega) h1 rfl (by simp only [List.length_append]; omega) hA.symm k0) ?_
      rintro en w5 ⟨rfl, kz, oz⟩
      refine ⟨_, rfl, ?_⟩
      have only2 := only.trans oz
      clear k0 only
      have only := only2
      clear only2 oz
      have k0 : Blk w5 g 37 (fcs (P ++ ((D1 ++ V1) ++ (B ++ (A ++ (D2 ++ S))))) ++ pad).toArray := by simpa using kz
      clear kz
      refine Seq.nil ?_
      refine Post.weak (F' := [(0, _), (2, _), (4, _), (10, _), (11, _), (20, _), (23, _)]) ⟨rfl, rfl, rfl, rfl, rfl, rfl, rfl, trivial⟩ ?_
      refine Post.then_ ?_
      refine Cd.region ?_
      refine Seq.val (Runs.move rfl rfl) rfl rfl rfl ?_
      refine Seq.val (Runs.move rfl rfl) rfl rfl rfl ?_
      refine Seq.val (Runs.subI rfl rfl rfl (by omega) (by omega)) rfl rfl rfl ?_
      refine Seq.val (Runs.assign rfl rfl) rfl rfl rfl ?_
      refine Seq.nil ?_
      refine Post.weak (F' := [(0, _), (2, _), (4, _), (10, _), (11, _), (20, _), (23, _)]) ⟨rfl, rfl, rfl, rfl, rfl, rfl, rfl, trivial⟩ ?_
      refine Post.block_normal ?_
      refine Post.round (D1 ++ V1, B, A, D2) ⟨rfl, rfl, rfl, int_at (by simp only [List.length_append]; omega), int_at (by simp only; omega), trivial⟩ ⟨by simp only; omega, by simp only; omega, by simp only [List.length_append]; omega, by simpa using hD, k0, only⟩ (by simp only [List.length_append]; omega)
    · obtain ⟨A, B, rfl, hB⟩ : ∃ A B, V1 = A ++ B ∧ B.length = U1.length := ⟨V1.take (V1.length - U1.length), V1.drop (V1.length - U1.length), (List.take_append_drop _ _).symm, by rw [List.length_drop]; omega⟩
      have k0 : Blk wr g 37 (fcs ((P ++ D1) ++ (U1 ++ (A ++ (B ++ (D2 ++ S))))) ++ pad).toArray := by simpa using k0
      have hAB : (A ++ B).length = A.length + B.length := List.length_append
      simp only [List.length_append] at hl hV1 hc h
      refine Cd.seq ?_
      refine Cd.region ?_
      refine Seq.val (Runs.move rfl rfl) rfl rfl rfl ?_
      refine Seq.val (Runs.move rfl rfl) rfl rfl rfl ?_
      refine Seq.val (Runs.move rfl rfl) rfl rfl rfl ?_
      refine Seq.val (Runs.subI rfl rfl rfl (by omega) (by omega)) rfl rfl rfl ?_
      refine Seq.val (Runs.move rfl rfl) rfl rfl rfl ?_
      refine Seq.val (Runs.move rfl rfl) rfl rfl rfl ?_
      refine Seq.val (Runs.addI rfl rfl rfl (by omega) (by omega)) rfl rfl rfl ?_
      refine Seq.val (Runs.move rfl rfl) rfl rfl rfl ?_
      refine Seq.val (Runs.subI rfl rfl rfl (by omega) (by omega)) rfl rfl rfl ?_
      refine Seq.val (Runs.move rfl rfl) rfl rfl rfl ?_
      refine Seq.val (Runs.move rfl rfl) rfl rfl rfl ?_
      have hz1 : (m : Int) - (U1.length : Int) = ((P ++ D1).length : Int) := by simp only [List.length_append]; omega
      have hz2 : (m : Int) + ((A ++ B).length : Int) - (U1.length : Int) = ((m + A.length : Nat) : Int) := by simp only [List.length_append]; omega
      rw [hz1, hz2]
      refine Seq.call (Enters.func rfl rfl rfl (run_enter Try.func57 (by kernel_rfl) rfl)) rfl rfl rfl (swapR_any g cap (P ++ D1).length (m + A.length) U1.length n (P ++ D1) U1 A B (D2 ++ S) pad v _ hB.symm (by simp only [List.length_append]; omega) h1 rfl (by simp only [List.length_append]; omega) rfl k0) ?_
      rintro en w5 ⟨rfl, kz, oz⟩
      refine ⟨_, rfl, ?_⟩
      have only2 := only.trans oz
      clear k0 only
      have only := only2
      clear only2 oz
      have k0 : Blk w5 g 37 (fcs (P ++ (D1 ++ (B ++ (A ++ ((U1 ++ D2) ++ S))))) ++ pad).toArray := by simpa using kz
      clear kz
      refine Seq.nil ?_
      refine Post.weak (F' := [(0, _), (2, _), (4, _), (10, _), (11, _), (20, _), (23, _)]) ⟨rfl, rfl, rfl, rfl, rfl, rfl, rfl, trivial⟩ ?_
      refine Post.then_ ?_
      refine Cd.region ?_
      refine Seq.val (Runs.move rfl rfl) rfl rfl rfl ?_
      refine Seq.val (Runs.move rfl rfl) rfl rfl rfl ?_
      refine Seq.val (Runs.subI rfl rfl rfl (by omega) (by omega)) rfl rfl rfl ?_
      refine Seq.val (Runs.assign rfl rfl) rfl rfl rfl ?_
      refine Seq.nil ?_
      refine Post.weak (F' := [(0, _), (2, _), (4, _), (10, _), (11, _), (20, _), (23, _)]) ⟨rfl, rfl, rfl, rfl, rfl, rfl, rfl, trivial⟩ ?_
      refine Post.block_normal ?_
      refine Post.round (D1, B, A, U1 ++ D2) ⟨rfl, rfl, rfl, int_at (by simp only; omega), int_at (by simp only [List.length_append]; omega), trivial⟩ ⟨by simp only; omega, by simp only; omega, by simp only; omega, by simpa using hD, k0, only⟩ (by simp only [List.length_append]; omega)
  · have h : U1.length = V1.length := by simp at h; omega
    have k0 : Blk wr g 37 (fcs ((P ++ D1) ++ (U1 ++ ([] ++ (V1 ++ (D2 ++ S))))) ++ pad).toArray := by simpa using k0
    refine Cd.exit ?_
    refine Post.then_exit ?_
    refine Post.round_exit ?_
    refine Post.block_exit ?_
    refine Post.then_ ?_
    refine Cd.region ?_
    refine Seq.val (Runs.move rfl rfl) rfl rfl rfl ?_
    refine Seq.val (Runs.move rfl rfl) rfl rfl rfl ?_
    refine Seq.val (Runs.move rfl rfl) rfl rfl rfl ?_
    refine Seq.val (Runs.subI rfl rfl rfl (by omega) (by omega)) rfl rfl rfl ?_
    refine Seq.val (Runs.move rfl rfl) rfl rfl rfl ?_
    refine Seq.val (Runs.move rfl rfl) rfl rfl rfl ?_
    refine Seq.val (Runs.move rfl rfl) rfl rfl rfl ?_
    have hz1 : (m : Int) - (U1.length : Int) = ((P ++ D1).length : Int) := by simp only [List.length_append]; omega
    rw [hz1]
    refine Seq.call (Enters.func rfl rfl rfl (run_enter Try.func57 (by kernel_rfl) rfl)) rfl rfl rfl (swapR_any g cap (P ++ D1).length m U1.length n (P ++ D1) U1 [] V1 (D2 ++ S) pad v _ h (by simp only [List.length_append, List.length_nil]; omega) h1 rfl (by simp only [List.length_append, List.length_nil]; omega) rfl k0) ?_
    rintro en w5 ⟨rfl, kz, oz⟩
    refine ⟨_, rfl, ?_⟩
    have only2 := only.trans oz
    clear k0 only
    have only := only2
    clear only2 oz
    have k0 : Blk w5 g 37 (fcs (P ++ (V ++ (U ++ S))) ++ pad).toArray := by
      have e : (P ++ D1) ++ (V1 ++ ([] ++ (U1 ++ (D2 ++ S)))) = P ++ (V ++ (U ++ S)) := by
        rw [← List.append_assoc V U S, ← hD]
        simp
      rw [← e]
      exact kz
    clear kz
    refine Seq.nil ?_
    refine Post.weak (F' := [(0, _), (2, _), (4, _), (10, _), (11, _), (20, _)]) ⟨rfl, rfl, rfl, rfl, rfl, rfl, trivial⟩ ?_
    refine Post.end0 rfl (.inr rfl) ?_
    exact ⟨rfl, k0, only⟩
end Go.Proofs.Ythcimkhnijnmgaa

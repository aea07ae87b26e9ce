/-
  LexSpaces: with a blank, or a remark, behind each word the words are the same, but their places: the statement returns true. No condition.
-/
import Derived.Test.YtijaldpmpjapiaaLexJ
import Derived.Test.YtijaldpmpjapiaaTOpen
namespace Go.Proofs.Ytijaldpmpjapiaa
open Go.ChangeShapes Go.WideShapes Go.ChangeAt Go.RowKit

theorem join_snoc (b : Bool) (ws : List Wd) (i : Nat) (x : Wd) (h : ws[i]? = some x) : joinL b (ws.take (i + 1)) = joinL b (ws.take i) ++ (x.text ++ sepL b) := by
  rw [List.take_add_one, h]
  simp [joinL]
theorem join_take (b : Bool) (ws : List Wd) (i : Nat) : (joinL b (ws.take i)).length ≤ (joinL b ws).length := by
  have : joinL b ws = joinL b (ws.take i) ++ joinL b (ws.drop i) := by
    unfold joinL
    rw [← List.flatMap_append, List.take_append_drop]
  rw [this, List.length_append]
  omega
set_option maxHeartbeats 1000000 in
theorem walk_spaces (l : List Nat) (b : Bool) (w : World) (hl : ∀ x ∈ l, x < 256) (hlen : l.length ≤ 9223372036854775807) :
    Calls Try.prog 6 #[.string (strOf l), .bool b] w fun e w' => e = .returned (.bool true) ∧ Below w.heap.size w w' := by
  have bel := Below.refl w.heap.size w
  refine Calls.start 112 Try.func6 rfl rfl rfl ?_
  refine Cd.seq ?_
  refine Cd.region ?_
  refine Seq.val (Runs.assign rfl rfl) rfl rfl rfl ?_
  refine Seq.nil ?_
  refine Post.weak (F' := [(0, _), (1, _), (4, _)]) ⟨rfl, rfl, rfl, trivial⟩ ?_
  refine Post.then_ ?_
  refine Cd.seq ?_
  refine Cd.region ?_
  refine Seq.val (Runs.move rfl rfl) rfl rfl rfl ?_
  refine Seq.call (Enters.func rfl rfl rfl (run_enter Try.func19 (by kernel_rfl) rfl)) rfl rfl rfl (words_any l _ hl hlen) ?_
  rintro e w2 ⟨hb2, ⟨h1, rfl⟩ | ⟨h1, p, h2, rfl⟩ | ⟨h4, h2, v, rfl, own⟩⟩
  · refine ⟨_, rfl, ?_⟩
    replace bel := bel.step hb2
    refine Seq.val (Runs.move rfl rfl) rfl rfl rfl ?_
    refine Seq.val (Runs.extract rfl rfl rfl) rfl rfl rfl ?_
    refine Seq.val (Runs.extract rfl rfl rfl) rfl rfl rfl ?_
    refine Seq.val (Runs.extract rfl rfl rfl) rfl rfl rfl ?_
    refine Seq.val (Runs.assign rfl rfl) rfl rfl rfl ?_
    refine Seq.val (Runs.assign rfl rfl) rfl rfl rfl ?_
    refine Seq.val (Runs.assign rfl rfl) rfl rfl rfl ?_
    refine Seq.nil ?_
    refine Post.weak (F' := [(0, _), (1, _), (4, _), (5, _), (7, _)]) ⟨rfl, rfl, rfl, rfl, rfl, trivial⟩ ?_
    refine Post.then_ ?_
    refine Cd.seq ?_
    refine Cd.seq ?_
    refine Cd.region ?_
    refine Seq.val (Runs.move rfl rfl) rfl rfl rfl ?_
    refine Seq.val (Runs.neqI rfl rfl rfl) rfl rfl rfl ?_
    refine Seq.val (Runs.move rfl rfl) rfl rfl rfl ?_
    refine SeqC.start ?_
    refine SeqC.open rfl rfl rfl rfl rfl rfl rfl (fun hcx => Runs.move rfl rfl) ?_
    refine SeqC.next rfl rfl rfl rfl rfl rfl rfl (fun hcx => Runs.lenL rfl rfl Try.underlying9) ?_
    refine SeqC.next rfl rfl rfl rfl rfl rfl rfl (fun hcx => Runs.gtr rfl rfl rfl) ?_
    refine SeqC.or rfl rfl rfl rfl rfl rfl rfl ?_
    refine Seq.nil ?_
    refine Post.weak (F' := [(0, _), (1, _), (4, _), (5, _), (7, _), (26, _)]) ⟨rfl, rfl, rfl, rfl, rfl, rfl, trivial⟩ ?_
    refine Post.then_ ?_
    refine Cd.condT rfl (by simp) ?_
    refine Cd.seq ?_
    refine Cd.region ?_
    refine Seq.call (Enters.func rfl rfl rfl (run_enter Try.func20 (by kernel_rfl) rfl)) rfl rfl rfl (awake17_any _) ?_
    rintro e w9 ⟨rfl, hb9⟩
    refine ⟨_, rfl, ?_⟩
    replace bel := bel.step hb9
    refine Seq.val (Runs.assign rfl rfl) rfl rfl rfl ?_
    refine Seq.nil ?_
    refine Post.weak (F' := [(0, _), (1, _), (4, _), (5, _), (7, _), (26, _)]) ⟨rfl, rfl, rfl, rfl, rfl, rfl, trivial⟩ ?_
    refine Post.then_ ?_
    refine Cd.ret ?_
    refine Post.then_ret ?_
    refine Post.end1 rfl rfl (.inl rfl) ?_
    exact ⟨rfl, bel⟩
  · refine ⟨_, rfl, ?_⟩
    replace bel := bel.step hb2
    refine Seq.val (Runs.move rfl rfl) rfl rfl rfl ?_
    refine Seq.val (Runs.extract rfl rfl rfl) rfl rfl rfl ?_
    refine Seq.val (Runs.extract rfl rfl rfl) rfl rfl rfl ?_
    refine Seq.val (Runs.extract rfl rfl rfl) rfl rfl rfl ?_
    refine Seq.val (Runs.assign rfl rfl) rfl rfl rfl ?_
    refine Seq.val (Runs.assign rfl rfl) rfl rfl rfl ?_
    refine Seq.val (Runs.assign rfl rfl) rfl rfl rfl ?_
    refine Seq.nil ?_
    refine Post.weak (F' := [(0, _), (1, _), (4, _), (5, _), (7, _)]) ⟨rfl, rfl, rfl, rfl, rfl, trivial⟩ ?_
    refine Post.then_ ?_
    refine Cd.seq ?_
    refine Cd.seq ?_
    refine Cd.region ?_
    refine Seq.val (Runs.move rfl rfl) rfl rfl rfl ?_
    refine Seq.val (Runs.neqI rfl rfl rfl) rfl rfl rfl ?_
    refine Seq.val (Runs.move rfl rfl) rfl rfl rfl ?_
    refine SeqC.start ?_
    refine SeqC.open rfl rfl rfl rfl rfl rfl rfl (fun hcx => Runs.move rfl rfl) ?_
    refine SeqC.next rfl rfl rfl rfl rfl rfl rfl (fun hcx => Runs.lenL rfl rfl Try.underlying9) ?_
    refine SeqC.next rfl rfl rfl rfl rfl rfl rfl (fun hcx => Runs.gtr rfl rfl rfl) ?_
    refine SeqC.or rfl rfl rfl rfl rfl rfl rfl ?_
    refine Seq.nil ?_
    refine Post.weak (F' := [(0, _), (1, _), (4, _), (5, _), (7, _), (26, _)]) ⟨rfl, rfl, rfl, rfl, rfl, rfl, trivial⟩ ?_
    refine Post.then_ ?_
    refine Cd.condT rfl (by simp) ?_
    refine Cd.seq ?_
    refine Cd.region ?_
    refine Seq.call (Enters.func rfl rfl rfl (run_enter Try.func20 (by kernel_rfl) rfl)) rfl rfl rfl (awake17_any _) ?_
    rintro e w9 ⟨rfl, hb9⟩
    refine ⟨_, rfl, ?_⟩
    replace bel := bel.step hb9
    refine Seq.val (Runs.assign rfl rfl) rfl rfl rfl ?_
    refine Seq.nil ?_
    refine Post.weak (F' := [(0, _), (1, _), (4, _), (5, _), (7, _), (26, _)]) ⟨rfl, rfl, rfl, rfl, rfl, rfl, trivial⟩ ?_
    refine Post.then_ ?_
    refine Cd.ret ?_
    refine Post.then_ret ?_
    refine Post.end1 rfl rfl (.inl rfl) ?_
    exact ⟨rfl, bel⟩
  obtain ⟨A, cap, rfl, -⟩ := own.reads
  refine ⟨_, rfl, ?_⟩
  have hch := chain_all l h2
  have hjl := join_len b l _ 0 hch
  obtain ⟨ws', hw1, hw2, hw3⟩ := lex_spaces l b
  have hwt : ∀ x ∈ (lexAll l).1, ∀ y ∈ x.text, y < 256 := by
    have : ∀ (ws : List Wd) q, Chain l ws q → ∀ x ∈ ws, ∀ y ∈ x.text, y < 256 := by
      intro ws
      induction ws with
      | nil => intro q h x hx; simp at hx
      | cons z r ih =>
        intro q h x hx
        obtain ⟨c1, c2, c3, c4, c5⟩ := h
        rcases List.mem_cons.1 hx with rfl | hx
        · rw [c4]; exact take_lt (drop_lt hl _) _
        · exact ih _ c5 x hx
    exact this _ _ hch
  have hwl : (lexAll l).1.length ≤ 4000 := by
    have : ∀ (ws : List Wd) q, Chain l ws q → ws.length + q ≤ l.length := by
      intro ws
      induction ws with
      | nil => intro q h; have h : q + blankN (l.drop q) = l.length := h; simp; omega
      | cons x r ih =>
        intro q h
        obtain ⟨c1, c2, c3, -, c5⟩ := h
        have := ih _ c5
        simp
        omega
    have := this _ _ hch
    omega
  generalize (lexAll l).1 = ws at *
  replace bel := bel.step hb2
  refine Seq.val (Runs.move rfl rfl) rfl rfl rfl ?_
  refine Seq.val (Runs.extract rfl rfl rfl) rfl rfl rfl ?_
  refine Seq.val (Runs.extract rfl rfl rfl) rfl rfl rfl ?_
  refine Seq.val (Runs.extract rfl rfl rfl) rfl rfl rfl ?_
  refine Seq.val (Runs.assign rfl rfl) rfl rfl rfl ?_
  refine Seq.val (Runs.assign rfl rfl) rfl rfl rfl ?_
  refine Seq.val (Runs.assign rfl rfl) rfl rfl rfl ?_
  refine Seq.nil ?_
  refine Post.weak (F' := [(0, _), (1, _), (4, _), (5, _), (7, _)]) ⟨rfl, rfl, rfl, rfl, rfl, trivial⟩ ?_
  refine Post.then_ ?_
  refine Cd.seq ?_
  refine Cd.seq ?_
  refine Cd.region ?_
  refine Seq.val (Runs.move rfl rfl) rfl rfl rfl ?_
  refine Seq.val (Runs.neqI rfl rfl rfl) rfl rfl rfl ?_
  refine Seq.val (Runs.move rfl rfl) rfl rfl rfl ?_
  refine SeqC.start ?_
  refine SeqC.open rfl rfl rfl rfl rfl rfl rfl (fun hcx => Runs.move rfl rfl) ?_
  refine SeqC.next rfl rfl rfl rfl rfl rfl rfl (fun hcx => Runs.lenL rfl rfl Try.underlying9) ?_
  refine SeqC.next rfl rfl rfl rfl rfl rfl rfl (fun hcx => Runs.gtr rfl rfl rfl) ?_
  refine SeqC.or rfl rfl rfl rfl rfl rfl rfl ?_
  refine Seq.nil ?_
  refine Post.weak (F' := [(0, _), (1, _), (4, _), (5, _), (7, _), (26, _)]) ⟨rfl, rfl, rfl, rfl, rfl, rfl, trivial⟩ ?_
  refine Post.then_ ?_
  refine Cd.cond rfl (fun h => ?_) (fun h => ?_)
  · skip
    refine Cd.seq ?_
    refine Cd.region ?_
    refine Seq.call (Enters.func rfl rfl rfl (run_enter Try.func20 (by kernel_rfl) rfl)) rfl rfl rfl (awake17_any _) ?_
    rintro e w9 ⟨rfl, hb9⟩
    refine ⟨_, rfl, ?_⟩
    replace bel := bel.step hb9
    replace own := own.step hb9
    refine Seq.val (Runs.assign rfl rfl) rfl rfl rfl ?_
    refine Seq.nil ?_
    refine Post.weak (F' := [(0, _), (1, _), (4, _), (5, _), (7, _), (26, _)]) ⟨rfl, rfl, rfl, rfl, rfl, rfl, trivial⟩ ?_
    refine Post.then_ ?_
    refine Cd.ret ?_
    refine Post.then_ret ?_
    refine Post.end1 rfl rfl (.inl rfl) ?_
    exact ⟨rfl, bel⟩
  have h500 : l.length ≤ 500 := by simp at h; omega
  clear h
  refine Cd.skip ?_
  refine Post.then_ ?_
  refine Cd.seq ?_
  refine Cd.region ?_
  refine Seq.val (Runs.assign rfl rfl) rfl rfl rfl ?_
  refine Seq.nil ?_
  refine Post.weak (F' := [(0, _), (1, _), (4, _), (5, _), (7, _), (8, _), (26, _)]) ⟨rfl, rfl, rfl, rfl, rfl, rfl, rfl, trivial⟩ ?_
  refine Post.then_ ?_
  refine Cd.seq ?_
  refine Cd.seq ?_
  refine Cd.region ?_
  refine Seq.val (Runs.assign rfl rfl) rfl rfl rfl ?_
  refine Seq.nil ?_
  refine Post.weak (F' := [(0, _), (1, _), (4, _), (5, _), (7, _), (8, _), (9, _), (26, _)]) ⟨rfl, rfl, rfl, rfl, rfl, rfl, rfl, rfl, trivial⟩ ?_
  refine Post.then_ ?_
  refine Cd.block ?_
  refine Cd.loop (σ := Nat) (fun i => [(1, .bool b), (5, .slice A ws.length cap), (8, .string (strOf (joinL b (ws.take i)))), (9, .int .i64 (i : Int))])
    (fun i wr => i ≤ ws.length ∧ Below w.heap.size w wr ∧ Own wr w.heap.size 50 4 (.slice A ws.length cap) ws.length (wdCells ws)) (fun i => ws.length - i) 0 ⟨Nat.zero_le _, bel, own⟩ ⟨rfl, rfl, rfl, rfl, trivial⟩ ?_
  clear bel own
  rintro i wr ⟨hi, bel, own⟩
  refine Cd.seq ?_
  refine Cd.seq ?_
  refine Cd.region ?_
  refine Seq.val (Runs.move rfl rfl) rfl rfl rfl ?_
  refine Seq.val (Runs.move rfl rfl) rfl rfl rfl ?_
  refine Seq.val (Runs.len rfl rfl Try.underlying40) rfl rfl rfl ?_
  refine Seq.val (Runs.lss rfl rfl rfl) rfl rfl rfl ?_
  refine Seq.nil ?_
  refine Post.weak (F' := [(1, _), (5, _), (8, _), (9, _), (31, _)]) ⟨rfl, rfl, rfl, rfl, rfl, trivial⟩ ?_
  refine Post.then_ ?_
  refine Cd.condD rfl (fun hc => ?_) (fun hc => ?_)
  · obtain ⟨x, hx⟩ : ∃ x, ws[i]? = some x := ⟨_, List.getElem?_eq_getElem (show i < ws.length by omega)⟩
    obtain ⟨g, cap', cur, hv, -, kg, hcur⟩ := own.form (by omega)
    injection hv with hv1 _ hv3
    subst hv1
    have hc1 := hcur _ _ (wdCells_at hx).2.1
    have hsn := join_snoc b ws i x hx
    have hjt := join_take b ws (i + 1)
    have hjt2 : (joinL b (ws.take (i + 1))).length = (joinL b (ws.take i)).length + (x.text.length + (sepL b).length) := by rw [hsn]; simp
    have hsl : 1 ≤ (sepL b).length := by cases b <;> simp [sepL]
    refine Cd.skip ?_
    refine Post.then_ ?_
    refine Cd.seq ?_
    refine Cd.block ?_
    refine Cd.seq ?_
    refine Cd.region ?_
    refine Seq.val (Runs.move rfl rfl) rfl rfl rfl ?_
    refine Seq.val (Runs.move rfl rfl) rfl rfl rfl ?_
    refine Seq.val (Runs.move rfl rfl) rfl rfl rfl ?_
    refine Seq.val (Runs.indexBN rfl rfl rfl Try.underlying40 (s := 4) (by kernel_rfl) (j := i) rfl (by omega)) rfl rfl rfl ?_
    refine Seq.val (Runs.fieldP 1 rfl rfl Try.underlying50 rfl (by kernel_rfl)) rfl rfl rfl ?_
    refine Seq.val (Runs.loadB rfl rfl Try.underlying9 rfl kg hc1) rfl rfl rfl ?_
    refine Seq.val (Runs.addL (a := joinL b (ws.take i)) (b := x.text) rfl rfl rfl (by omega)) rfl rfl rfl ?_
    refine Seq.val (Runs.addL (a := joinL b (ws.take i) ++ x.text) (b := [32]) rfl rfl rfl (by rw [List.length_append]; simp; omega)) rfl rfl rfl ?_
    refine Seq.val (Runs.assign rfl rfl) rfl rfl rfl ?_
    refine Seq.nil ?_
    refine Post.weak (F' := [(1, _), (5, _), (8, _), (9, _), (31, _)]) ⟨rfl, rfl, rfl, rfl, rfl, trivial⟩ ?_
    refine Post.then_ ?_
    refine Cd.seq ?_
    refine Cd.region ?_
    refine Seq.val (Runs.move rfl rfl) rfl rfl rfl ?_
    refine Seq.nil ?_
    refine Post.weak (F' := [(1, _), (5, _), (8, _), (9, _), (31, _), (42, _)]) ⟨rfl, rfl, rfl, rfl, rfl, rfl, trivial⟩ ?_
    refine Post.then_ ?_
    refine Cd.cond rfl (fun h => ?_) (fun h => ?_)
    · subst h
      refine Cd.region ?_
      refine Seq.val (Runs.move rfl rfl) rfl rfl rfl ?_
      refine Seq.val (Runs.addL (a := joinL true (ws.take i) ++ x.text ++ [32]) (b := [35, 32, 40, 10]) rfl rfl rfl (by rw [List.length_append, List.length_append]; simp; omega)) rfl rfl rfl ?_
      refine Seq.val (Runs.assign rfl rfl) rfl rfl rfl ?_
      refine Seq.nil ?_
      refine Post.weak (F' := [(1, _), (5, _), (8, _), (9, _), (31, _), (42, _)]) ⟨rfl, rfl, rfl, rfl, rfl, rfl, trivial⟩ ?_
      refine Post.block_normal ?_
      refine Post.then_ ?_
      refine Cd.region ?_
      refine Seq.val (Runs.move rfl rfl) rfl rfl rfl ?_
      refine Seq.val (Runs.addI rfl rfl rfl (by omega) (by omega)) rfl rfl rfl ?_
      refine Seq.val (Runs.assign rfl rfl) rfl rfl rfl ?_
      refine Seq.nil ?_
      refine Post.weak (F' := [(1, _), (5, _), (8, _), (9, _), (31, _), (42, _)]) ⟨rfl, rfl, rfl, rfl, rfl, rfl, trivial⟩ ?_
      exact Post.round (i + 1) ⟨rfl, rfl, congrArg (fun z => some (Value.string (strOf z))) (by rw [hsn]; simp [sepL]), rfl, trivial⟩ ⟨by omega, bel, own⟩ (by omega)
    · subst h
      refine Cd.skip ?_
      refine Post.block_normal ?_
      refine Post.then_ ?_
      refine Cd.region ?_
      refine Seq.val (Runs.move rfl rfl) rfl rfl rfl ?_
      refine Seq.val (Runs.addI rfl rfl rfl (by omega) (by omega)) rfl rfl rfl ?_
      refine Seq.val (Runs.assign rfl rfl) rfl rfl rfl ?_
      refine Seq.nil ?_
      refine Post.weak (F' := [(1, _), (5, _), (8, _), (9, _), (31, _), (42, _)]) ⟨rfl, rfl, rfl, rfl, rfl, rfl, trivial⟩ ?_
      exact Post.round (i + 1) ⟨rfl, rfl, congrArg (fun z => some (Value.string (strOf z))) (by rw [hsn]; simp [sepL]), rfl, trivial⟩ ⟨by omega, bel, own⟩ (by omega)
  obtain rfl : i = ws.length := by omega
  rw [List.take_length]
  have hTl : ∀ x ∈ joinL b ws, x < 256 := by
    intro y hy
    unfold joinL at hy
    obtain ⟨x, hx, hy⟩ := List.mem_flatMap.1 hy
    rcases List.mem_append.1 hy with hy | hy
    · exact hwt x hx y hy
    · cases b <;> simp [sepL] at hy <;> omega
  generalize hT : joinL b ws = T at *
  refine Cd.exit ?_
  refine Post.then_exit ?_
  refine Post.round_exit ?_
  refine Post.block_exit ?_
  refine Post.then_ ?_
  refine Cd.seq ?_
  refine Cd.region ?_
  refine Seq.val (Runs.move rfl rfl) rfl rfl rfl ?_
  refine Seq.call (Enters.func rfl rfl rfl (run_enter Try.func19 (by kernel_rfl) rfl)) rfl rfl rfl (words_any T _ hTl (by omega)) ?_
  rintro e w5 ⟨hb5, ⟨h1, rfl⟩ | ⟨h1, p, h5, rfl⟩ | ⟨-, h5, v2, rfl, own2⟩⟩
  · exact absurd h1 (by omega)
  · rw [hw1] at h5; cases h5
  rw [hw1] at own2
  dsimp only at own2
  rw [hw2] at own2
  obtain ⟨A2, cap2, rfl, -⟩ := own2.reads
  refine ⟨_, rfl, ?_⟩
  have hbs := bel.size
  replace bel := bel.step hb5
  replace own := own.step hb5
  refine Seq.val (Runs.move rfl rfl) rfl rfl rfl ?_
  refine Seq.val (Runs.extract rfl rfl rfl) rfl rfl rfl ?_
  refine Seq.val (Runs.extract rfl rfl rfl) rfl rfl rfl ?_
  refine Seq.val (Runs.extract rfl rfl rfl) rfl rfl rfl ?_
  refine Seq.val (Runs.assign rfl rfl) rfl rfl rfl ?_
  refine Seq.val (Runs.assign rfl rfl) rfl rfl rfl ?_
  refine Seq.val (Runs.assign rfl rfl) rfl rfl rfl ?_
  refine Seq.nil ?_
  refine Post.weak (F' := [(1, _), (5, _), (8, _), (9, _), (10, _), (12, _), (31, _)]) ⟨rfl, rfl, rfl, rfl, rfl, rfl, rfl, trivial⟩ ?_
  refine Post.then_ ?_
  refine Cd.seq ?_
  refine Cd.seq ?_
  refine Cd.region ?_
  refine Seq.val (Runs.move rfl rfl) rfl rfl rfl ?_
  refine Seq.val (Runs.lenL rfl rfl Try.underlying9) rfl rfl rfl ?_
  refine Seq.val (Runs.gtr rfl rfl rfl) rfl rfl rfl ?_
  refine Seq.nil ?_
  refine Post.weak (F' := [(1, _), (5, _), (8, _), (9, _), (10, _), (12, _), (31, _), (53, _)]) ⟨rfl, rfl, rfl, rfl, rfl, rfl, rfl, rfl, trivial⟩ ?_
  refine Post.then_ ?_
  refine Cd.condF rfl (decide_eq_false (by omega)) ?_
  refine Cd.skip ?_
  refine Post.then_ ?_
  refine Cd.seq ?_
  refine Cd.seq ?_
  refine Cd.region ?_
  refine Seq.val (Runs.move rfl rfl) rfl rfl rfl ?_
  refine Seq.val (Runs.neqI rfl rfl rfl) rfl rfl rfl ?_
  refine Seq.val (Runs.move rfl rfl) rfl rfl rfl ?_
  refine SeqC.start ?_
  refine SeqC.open rfl rfl rfl rfl rfl rfl rfl (fun hcx => Runs.move rfl rfl) ?_
  refine SeqC.next rfl rfl rfl rfl rfl rfl rfl (fun hcx => Runs.len rfl rfl Try.underlying40) ?_
  refine SeqC.next rfl rfl rfl rfl rfl rfl rfl (fun hcx => Runs.move rfl rfl) ?_
  refine SeqC.next rfl rfl rfl rfl rfl rfl rfl (fun hcx => Runs.len rfl rfl Try.underlying40) ?_
  refine SeqC.next rfl rfl rfl rfl rfl rfl rfl (fun hcx => Runs.neqI rfl rfl rfl) ?_
  refine SeqC.or rfl rfl rfl rfl rfl rfl rfl ?_
  refine Seq.nil ?_
  refine Post.weak (F' := [(1, _), (5, _), (8, _), (9, _), (10, _), (12, _), (31, _), (53, _), (67, _)]) ⟨rfl, rfl, rfl, rfl, rfl, rfl, rfl, rfl, rfl, trivial⟩ ?_
  refine Post.then_ ?_
  refine Cd.condF rfl (by simp) ?_
  refine Cd.skip ?_
  refine Post.then_ ?_
  refine Cd.seq ?_
  refine Cd.seq ?_
  refine Cd.region ?_
  refine Seq.val (Runs.assign rfl rfl) rfl rfl rfl ?_
  refine Seq.nil ?_
  refine Post.weak (F' := [(1, _), (5, _), (8, _), (9, _), (10, _), (12, _), (13, _), (31, _), (53, _), (67, _)]) ⟨rfl, rfl, rfl, rfl, rfl, rfl, rfl, rfl, rfl, rfl, trivial⟩ ?_
  refine Post.then_ ?_
  refine Cd.block ?_
  refine Cd.loop (σ := Nat) (fun i => [(5, .slice A ws.length cap), (10, .slice A2 ws.length cap2), (13, .int .i64 (i : Int))])
    (fun i wr2 => i ≤ ws.length ∧ Below w.heap.size w wr2 ∧ Own wr2 w.heap.size 50 4 (.slice A ws.length cap) ws.length (wdCells ws) ∧ Own wr2 wr.heap.size 50 4 (.slice A2 ws.length cap2) ws.length (wdCells ws')) (fun i => ws.length - i) 0 ⟨Nat.zero_le _, bel, own, own2⟩ ⟨rfl, rfl, rfl, trivial⟩ ?_
  clear bel own own2
  rintro i wr2 ⟨hi, bel, own, own2⟩
  refine Cd.seq ?_
  refine Cd.seq ?_
  refine Cd.region ?_
  refine Seq.val (Runs.move rfl rfl) rfl rfl rfl ?_
  refine Seq.val (Runs.move rfl rfl) rfl rfl rfl ?_
  refine Seq.val (Runs.len rfl rfl Try.underlying40) rfl rfl rfl ?_
  refine Seq.val (Runs.lss rfl rfl rfl) rfl rfl rfl ?_
  refine Seq.nil ?_
  refine Post.weak (F' := [(5, _), (10, _), (13, _), (71, _)]) ⟨rfl, rfl, rfl, rfl, trivial⟩ ?_
  refine Post.then_ ?_
  refine Cd.condD rfl (fun hc => ?_) (fun hc => ?_)
  · obtain ⟨x, hx⟩ : ∃ x, ws[i]? = some x := ⟨_, List.getElem?_eq_getElem (show i < ws.length by omega)⟩
    obtain ⟨y, hy, y1, y2, y3⟩ := hw3 i x hx
    obtain ⟨g, cap', cur, hv, -, kg, hcur⟩ := own.form (by omega)
    injection hv with hv1 _ hv3
    subst hv1
    obtain ⟨g2, cap2', cur2, hv, -, kg2, hcur2⟩ := own2.form (by omega)
    injection hv with hv1 _ hv3
    subst hv1
    have a0 := hcur _ _ (wdCells_at hx).1
    have a1 := hcur _ _ (wdCells_at hx).2.1
    have a2 := hcur _ _ (wdCells_at hx).2.2.1
    have b0 := hcur2 _ _ (wdCells_at hy).1
    have b1 := hcur2 _ _ (wdCells_at hy).2.1
    have b2 := hcur2 _ _ (wdCells_at hy).2.2.1
    rw [y1] at b0
    rw [y2] at b1
    rw [y3] at b2
    have hxt := hwt x (List.mem_of_getElem? hx)
    refine Cd.skip ?_
    refine Post.then_ ?_
    refine Cd.seq ?_
    refine Cd.block ?_
    refine Cd.seq ?_
    refine Cd.draw 37 (by kernel_rfl) [] (.inl rfl) rfl Grow Grow.refl (fun _ _ _ => Grow.trans) ?_
    intro w1 hw1 zw1
    replace bel := bel.step hw1
    replace own := own.step hw1
    replace own2 := own2.step hw1
    replace kg := kg.step hw1
    replace kg2 := kg2.step hw1
    have zbel := bel.size
    refine Dr.val Grow.refl rfl (fun w hG => Runs.move rfl rfl) rfl ?_
    refine Dr.val Grow.refl rfl (fun w hG => Runs.move rfl rfl) rfl ?_
    refine Dr.val Grow.refl rfl (fun w hG => Runs.indexBN rfl rfl rfl Try.underlying40 (s := 4) (by kernel_rfl) (j := i) rfl (by omega)) rfl ?_
    refine Dr.val Grow.refl rfl (fun w hG => Runs.fieldP 0 rfl rfl Try.underlying50 rfl (by kernel_rfl)) rfl ?_
    refine Dr.val Grow.refl rfl (fun w hG => Runs.loadB rfl rfl Try.underlying3 rfl (kg2.step hG) b0) rfl ?_
    refine Dr.val Grow.refl rfl (fun w hG => Runs.move rfl rfl) rfl ?_
    refine Dr.val Grow.refl rfl (fun w hG => Runs.move rfl rfl) rfl ?_
    refine Dr.val Grow.refl rfl (fun w hG => Runs.indexBN rfl rfl rfl Try.underlying40 (s := 4) (by kernel_rfl) (j := i) rfl (by omega)) rfl ?_
    refine Dr.val Grow.refl rfl (fun w hG => Runs.fieldP 0 rfl rfl Try.underlying50 rfl (by kernel_rfl)) rfl ?_
    refine Dr.val Grow.refl rfl (fun w hG => Runs.loadB rfl rfl Try.underlying3 rfl (kg.step hG) a0) rfl ?_
    refine Dr.val Grow.refl rfl (fun w hG => (Runs.neqI rfl rfl rfl).isF ((fun h => h rfl))) rfl ?_
    refine Dr.val Grow.refl rfl (fun w hG => Runs.move rfl rfl) rfl ?_
    refine Dr.valG Grow.refl rfl (fun w hG => Runs.move rfl rfl) rfl rfl rfl ?_
    refine Dr.valG Grow.refl rfl (fun w hG => Runs.move rfl rfl) rfl rfl rfl ?_
    refine Dr.valG Grow.refl rfl (fun w hG => Runs.indexBN rfl rfl rfl Try.underlying40 (s := 4) (by kernel_rfl) (j := i) rfl (by omega)) rfl rfl rfl ?_
    refine Dr.valG Grow.refl rfl (fun w hG => Runs.fieldP 1 rfl rfl Try.underlying50 rfl (by kernel_rfl)) rfl rfl rfl ?_
    refine Dr.valG Grow.refl rfl (fun w hG => Runs.loadB rfl rfl Try.underlying9 rfl (kg2.step hG) b1) rfl rfl rfl ?_
    refine Dr.valG Grow.refl rfl (fun w hG => Runs.move rfl rfl) rfl rfl rfl ?_
    refine Dr.valG Grow.refl rfl (fun w hG => Runs.move rfl rfl) rfl rfl rfl ?_
    refine Dr.valG Grow.refl rfl (fun w hG => Runs.indexBN rfl rfl rfl Try.underlying40 (s := 4) (by kernel_rfl) (j := i) rfl (by omega)) rfl rfl rfl ?_
    refine Dr.valG Grow.refl rfl (fun w hG => Runs.fieldP 1 rfl rfl Try.underlying50 rfl (by kernel_rfl)) rfl rfl rfl ?_
    refine Dr.valG Grow.refl rfl (fun w hG => Runs.loadB rfl rfl Try.underlying9 rfl (kg.step hG) a1) rfl rfl rfl ?_
    refine Dr.valG Grow.refl rfl (fun w hG => (Runs.neqL (a := x.text) (b := x.text) rfl rfl rfl hxt hxt).isF (fun h => h rfl)) rfl rfl rfl ?_
    refine Dr.val Grow.refl rfl (fun w hG => Runs.pickF rfl rfl rfl) rfl ?_
    refine Dr.val Grow.refl rfl (fun w hG => Runs.move rfl rfl) rfl ?_
    refine Dr.valG Grow.refl rfl (fun w hG => Runs.move rfl rfl) rfl rfl rfl ?_
    refine Dr.valG Grow.refl rfl (fun w hG => Runs.move rfl rfl) rfl rfl rfl ?_
    refine Dr.valG Grow.refl rfl (fun w hG => Runs.indexBN rfl rfl rfl Try.underlying40 (s := 4) (by kernel_rfl) (j := i) rfl (by omega)) rfl rfl rfl ?_
    refine Dr.valG Grow.refl rfl (fun w hG => Runs.fieldP 2 rfl rfl Try.underlying50 rfl (by kernel_rfl)) rfl rfl rfl ?_
    refine Dr.valG Grow.refl rfl (fun w hG => Runs.loadB rfl rfl Try.underlying2 rfl (kg2.step hG) b2) rfl rfl rfl ?_
    refine Dr.valG Grow.refl rfl (fun w hG => Runs.move rfl rfl) rfl rfl rfl ?_
    refine Dr.valG Grow.refl rfl (fun w hG => Runs.move rfl rfl) rfl rfl rfl ?_
    refine Dr.valG Grow.refl rfl (fun w hG => Runs.indexBN rfl rfl rfl Try.underlying40 (s := 4) (by kernel_rfl) (j := i) rfl (by omega)) rfl rfl rfl ?_
    refine Dr.valG Grow.refl rfl (fun w hG => Runs.fieldP 2 rfl rfl Try.underlying50 rfl (by kernel_rfl)) rfl rfl rfl ?_
    refine Dr.valG Grow.refl rfl (fun w hG => Runs.loadB rfl rfl Try.underlying2 rfl (kg.step hG) a2) rfl rfl rfl ?_
    refine Dr.valG Grow.refl rfl (fun w hG => (Runs.neqI rfl rfl rfl).isF ((fun h => h rfl))) rfl rfl rfl ?_
    refine Dr.val Grow.refl rfl (fun w hG => Runs.pickF rfl rfl rfl) rfl ?_
    refine Dr.nil ?_
    refine FinX.done (F' := [(5, _), (10, _), (13, _), (71, _), (110, _)]) rfl ⟨rfl, rfl, rfl, rfl, rfl, trivial⟩ ?_
    intro w2 hw2 fw2
    replace bel := bel.step hw2
    replace own := own.step hw2
    replace own2 := own2.step hw2
    replace kg := kg.step hw2
    replace kg2 := kg2.step hw2
    refine Seq.nil ?_
    refine Post.weak (F' := [(5, _), (10, _), (13, _), (71, _), (110, _)]) ⟨rfl, rfl, rfl, rfl, rfl, trivial⟩ ?_
    refine Post.then_ ?_
    refine Cd.condF rfl rfl ?_
    refine Cd.skip ?_
    refine Post.block_normal ?_
    refine Post.then_ ?_
    refine Cd.region ?_
    refine Seq.val (Runs.move rfl rfl) rfl rfl rfl ?_
    refine Seq.val (Runs.addI rfl rfl rfl (by omega) (by omega)) rfl rfl rfl ?_
    refine Seq.val (Runs.assign rfl rfl) rfl rfl rfl ?_
    refine Seq.nil ?_
    refine Post.weak (F' := [(5, _), (10, _), (13, _), (71, _), (110, _)]) ⟨rfl, rfl, rfl, rfl, rfl, trivial⟩ ?_
    exact Post.round (i + 1) ⟨rfl, rfl, rfl, trivial⟩ ⟨by omega, bel, own, own2⟩ (by omega)
  · skip
    refine Cd.exit ?_
    refine Post.then_exit ?_
    refine Post.round_exit ?_
    refine Post.block_exit ?_
    refine Post.then_ ?_
    refine Cd.seq ?_
    refine Cd.region ?_
    refine Seq.call (Enters.func rfl rfl rfl (run_enter Try.func20 (by kernel_rfl) rfl)) rfl rfl rfl (awake17_any _) ?_
    rintro e w9 ⟨rfl, hb9⟩
    refine ⟨_, rfl, ?_⟩
    replace bel := bel.step hb9
    replace own := own.step hb9
    replace own2 := own2.step hb9
    refine Seq.val (Runs.assign rfl rfl) rfl rfl rfl ?_
    refine Seq.nil ?_
    refine Post.weak (F' := [(4, _), (5, _), (10, _), (13, _), (71, _)]) ⟨rfl, rfl, rfl, rfl, rfl, trivial⟩ ?_
    refine Post.then_ ?_
    refine Cd.ret ?_
    refine Post.end1 rfl rfl (.inl rfl) ?_
    exact ⟨rfl, bel⟩

set_option maxRecDepth 100000 in
theorem open_bl {W : World} {base t : Nat} {v : Value} (hu : Try.prog.underlying t = some .bool) (hv : Value.okWide Try.prog W .any base t v) : ∃ b, v = .bool b := okWide_bool hu hv

namespace LexSpaces
theorem own : ownKnob Try.prog.godebug = none := by kernel_rfl
theorem laidOut : laidOutB Try.prog = true := by kernel_rfl
set_option maxRecDepth 100000 in
theorem lifted (os : Os) (started : os.Started) (H : Type) (enc : TypeId × Value → H) :
    ReturnsInHanded {} Try.checked os 6 .any (Rows.lexSpacesSpec.pre6 enc Try.prog Try.f6 Rows.lexSpacesRow.domain false) (Rows.lexSpacesSpec.post enc Try.prog Try.f6 false true false false) := by
  refine returnsInHanded_of_change (C := Try.checked) own started (by kernel_rfl) Try.func6
    (ChangeSpec.witness6 (enc := enc) (C := Try.checked) false ⟨#[], #[.string { data := #[] }, .bool false], []⟩ 8 (by kernel_rfl) (by kernel_rfl) (by kernel_rfl) (by kernel_rfl)) ?_
  intro W base args ds gs before hval0 hW hcnd _
  have hval : ∀ (j : Nat) t v, Try.f6.params[j]? = some t → args[j]? = some v → Value.okWide Try.prog W .any base t v := hval0
  have hW' := hW
  obtain ⟨p, q, hA0, hV, rfl, hfz, hnd⟩ := hW
  have hA : DataW.TrodAll enc Try.prog W 0 (fun _ => true) true Try.f6.params.toList args.toList ds p := hA0
  rw [Try.params6] at hA hval
  obtain ⟨v0, vs0, d0, ds0, p0, q0, hargs, rfl, rfl, h0, r0⟩ := trodAll_cons hA
  obtain ⟨v1, vs1, d1, ds1, p1, q1, rfl, rfl, rfl, h1, r1⟩ := trodAll_cons r0
  obtain ⟨rfl, rfl, rfl⟩ := trodAll_nil r1
  obtain rfl : args = #[v0, v1] := by cases args; simp_all
  obtain ⟨rfl, rfl⟩ := trodVars_none hV
  have k0 := h0
  have lt0 : ∀ x ∈ p0, x.block < W.heap.size := by obtain ⟨m, hm⟩ := k0; exact DataW.trod_lt m _ _ _ hm
  have k1 := h1
  have lt1 : ∀ x ∈ p1, x.block < W.heap.size := by obtain ⟨m, hm⟩ := k1; exact DataW.trod_lt m _ _ _ hm
  obtain ⟨l, rfl, hl, hlen⟩ := open_str Try.underlying9 (hval 0 _ v0 rfl rfl)
  obtain ⟨b, rfl⟩ := open_bl Try.underlying4 (hval 1 _ v1 rfl rfl)
  clear hA0 hval0
  refine (walk_spaces l b W hl hlen).mono fun e W' ⟨he, bel⟩ => ?_
  subst he
  exact ⟨_, rfl, _, _, _, [], _, [], hW', trodAll_mk1 (shut_bool Try.underlying4 _), (trodAll_cons_mk (Below.trod laidOut (by kernel_rfl) (of_decide_eq_true (by kernel_rfl)) k0 bel lt0) (trodAll_cons_mk (Below.trod laidOut (by kernel_rfl) (of_decide_eq_true (by kernel_rfl)) k1 bel lt1) trodAll_mk0)), rfl, bel.frame _, fun h => by cases h⟩

theorem over : Rows.lexSpacesRow.holds Try.pinned (OpenSpec.ofChange Rows.lexSpacesSpec) :=
  OpenClaim.holds_of_wide 6 Try.f6 rfl rfl rfl rfl rfl rfl rfl ⟨rfl, rfl, rfl, rfl, rfl⟩ rfl rfl rfl rfl rfl (by kernel_rfl) Try.func6 (by kernel_rfl)
    (of_decide_eq_true (by kernel_rfl)) (by unfold Func.isWrapper; first | (rw [if_pos (by decide +kernel)]; kernel_rfl) | (rw [if_neg (by decide +kernel)]; exact ⟨rfl, rfl⟩))
    (fun os started H enc _ => lifted os started H enc)

theorem proved : Rows.LexSpacesSaid := over

end LexSpaces
end Go.Proofs.Ytijaldpmpjapiaa

/-
  LexStands: each word's text stands where it says; between words there are blanks alone: the statement returns true. No condition.
-/
import Derived.Test.YtijaldpmpjapiaaLexI
import Derived.Test.YtijaldpmpjapiaaTOpen
namespace Go.Proofs.Ytijaldpmpjapiaa
open Go.ChangeShapes Go.WideShapes Go.ChangeAt Go.RowKit

theorem walk_stands (l : List Nat) (w : World) (hl : ∀ x ∈ l, x < 256) (hlen : l.length ≤ 9223372036854775807) :
    Calls Try.prog 5 #[.string (strOf l)] w fun e w' => e = .returned (.bool true) ∧ Below w.heap.size w w' := by
  have bel := Below.refl w.heap.size w
  refine Calls.start 123 Try.func5 rfl rfl rfl ?_
  refine Cd.seq ?_
  refine Cd.region ?_
  refine Seq.val (Runs.assign rfl rfl) rfl rfl rfl ?_
  refine Seq.nil ?_
  refine Post.weak (F' := [(0, _), (2, _)]) ⟨rfl, rfl, trivial⟩ ?_
  refine Post.then_ ?_
  refine Cd.seq ?_
  refine Cd.region ?_
  refine Seq.val (Runs.move rfl rfl) rfl rfl rfl ?_
  refine Seq.call (Enters.func rfl rfl rfl (run_enter Try.func19 (by kernel_rfl) rfl)) rfl rfl rfl (words_any l _ hl hlen) ?_
  rintro e w2 ⟨hb2, ⟨h1, rfl⟩ | ⟨h1, p, h2, rfl⟩ | ⟨h4, h2, v, rfl, own⟩⟩
  · refine ⟨_, rfl, ?_⟩
    replace bel := bel.step hb2
    refine Seq.val (Runs.move rfl rfl) rfl rfl rfl ?_
    refine Seq.val (Runs.extract rfl rfl rfl) rfl rfl rfl ?_
    refine Seq.val (Runs.extract rfl rfl rfl) rfl rfl rfl ?_
    refine Seq.val (Runs.extract rfl rfl rfl) rfl rfl rfl ?_
    refine Seq.val (Runs.assign rfl rfl) rfl rfl rfl ?_
    refine Seq.val (Runs.assign rfl rfl) rfl rfl rfl ?_
    refine Seq.val (Runs.assign rfl rfl) rfl rfl rfl ?_
    refine Seq.nil ?_
    refine Post.weak (F' := [(0, _), (2, _), (3, _), (5, _)]) ⟨rfl, rfl, rfl, rfl, trivial⟩ ?_
    refine Post.then_ ?_
    refine Cd.seq ?_
    refine Cd.seq ?_
    refine Cd.region ?_
    refine Seq.val (Runs.move rfl rfl) rfl rfl rfl ?_
    refine Seq.val (Runs.neqI rfl rfl rfl) rfl rfl rfl ?_
    refine Seq.nil ?_
    refine Post.weak (F' := [(0, _), (2, _), (3, _), (5, _), (19, _)]) ⟨rfl, rfl, rfl, rfl, rfl, trivial⟩ ?_
    refine Post.then_ ?_
    refine Cd.condT rfl rfl ?_
    refine Cd.seq ?_
    refine Cd.region ?_
    refine Seq.val (Runs.move rfl rfl) rfl rfl rfl ?_
    refine Seq.val (Runs.len rfl rfl Try.underlying40) rfl rfl rfl ?_
    refine Seq.val (Runs.eqlI rfl rfl rfl) rfl rfl rfl ?_
    refine Seq.val (Runs.move rfl rfl) rfl rfl rfl ?_
    refine SeqC.start ?_
    refine SeqC.openC rfl rfl rfl rfl rfl rfl rfl (fun hcx => Enters.func rfl rfl rfl (run_enter Try.func20 (by kernel_rfl) rfl)) (fun hcx => awake17_any _) ?_
    intro w1 hw1
    replace bel := bel.step hw1
    refine SeqC.and rfl rfl rfl rfl rfl rfl rfl ?_
    refine Seq.val (Runs.assign rfl rfl) rfl rfl rfl ?_
    refine Seq.nil ?_
    refine Post.weak (F' := [(0, _), (2, _), (3, _), (5, _), (19, _)]) ⟨rfl, rfl, rfl, rfl, rfl, trivial⟩ ?_
    refine Post.then_ ?_
    refine Cd.ret ?_
    refine Post.then_ret ?_
    refine Post.end1 rfl rfl (.inl rfl) ?_
    exact ⟨rfl, bel⟩
  · refine ⟨_, rfl, ?_⟩
    replace bel := bel.step hb2
    refine Seq.val (Runs.move rfl rfl) rfl rfl rfl ?_
    refine Seq.val (Runs.extract rfl rfl rfl) rfl rfl rfl ?_
    refine Seq.val (Runs.extract rfl rfl rfl) rfl rfl rfl ?_
    refine Seq.val (Runs.extract rfl rfl rfl) rfl rfl rfl ?_
    refine Seq.val (Runs.assign rfl rfl) rfl rfl rfl ?_
    refine Seq.val (Runs.assign rfl rfl) rfl rfl rfl ?_
    refine Seq.val (Runs.assign rfl rfl) rfl rfl rfl ?_
    refine Seq.nil ?_
    refine Post.weak (F' := [(0, _), (2, _), (3, _), (5, _)]) ⟨rfl, rfl, rfl, rfl, trivial⟩ ?_
    refine Post.then_ ?_
    refine Cd.seq ?_
    refine Cd.seq ?_
    refine Cd.region ?_
    refine Seq.val (Runs.move rfl rfl) rfl rfl rfl ?_
    refine Seq.val (Runs.neqI rfl rfl rfl) rfl rfl rfl ?_
    refine Seq.nil ?_
    refine Post.weak (F' := [(0, _), (2, _), (3, _), (5, _), (19, _)]) ⟨rfl, rfl, rfl, rfl, rfl, trivial⟩ ?_
    refine Post.then_ ?_
    refine Cd.condT rfl rfl ?_
    refine Cd.seq ?_
    refine Cd.region ?_
    refine Seq.val (Runs.move rfl rfl) rfl rfl rfl ?_
    refine Seq.val (Runs.len rfl rfl Try.underlying40) rfl rfl rfl ?_
    refine Seq.val (Runs.eqlI rfl rfl rfl) rfl rfl rfl ?_
    refine Seq.val (Runs.move rfl rfl) rfl rfl rfl ?_
    refine SeqC.start ?_
    refine SeqC.openC rfl rfl rfl rfl rfl rfl rfl (fun hcx => Enters.func rfl rfl rfl (run_enter Try.func20 (by kernel_rfl) rfl)) (fun hcx => awake17_any _) ?_
    intro w1 hw1
    replace bel := bel.step hw1
    refine SeqC.and rfl rfl rfl rfl rfl rfl rfl ?_
    refine Seq.val (Runs.assign rfl rfl) rfl rfl rfl ?_
    refine Seq.nil ?_
    refine Post.weak (F' := [(0, _), (2, _), (3, _), (5, _), (19, _)]) ⟨rfl, rfl, rfl, rfl, rfl, trivial⟩ ?_
    refine Post.then_ ?_
    refine Cd.ret ?_
    refine Post.then_ret ?_
    refine Post.end1 rfl rfl (.inl rfl) ?_
    exact ⟨rfl, bel⟩
  obtain ⟨A, cap, rfl, -⟩ := own.reads
  refine ⟨_, rfl, ?_⟩
  have hch := chain_all l h2
  have h0n : (lexAll l).1.length ≤ 4000 := by
    have : ∀ (ws : List Wd) q, Chain l ws q → ws.length + q ≤ l.length := by
      intro ws
      induction ws with
      | nil => intro q h; have h : q + blankN (l.drop q) = l.length := h; simp; omega
      | cons x r ih =>
        intro q h
        obtain ⟨c1, c2, c3, -, c5⟩ := h
        have := ih _ c5
        simp
        omega
    have := this _ _ hch
    omega
  generalize (lexAll l).1 = ws at *
  replace bel := bel.step hb2
  refine Seq.val (Runs.move rfl rfl) rfl rfl rfl ?_
  refine Seq.val (Runs.extract rfl rfl rfl) rfl rfl rfl ?_
  refine Seq.val (Runs.extract rfl rfl rfl) rfl rfl rfl ?_
  refine Seq.val (Runs.extract rfl rfl rfl) rfl rfl rfl ?_
  refine Seq.val (Runs.assign rfl rfl) rfl rfl rfl ?_
  refine Seq.val (Runs.assign rfl rfl) rfl rfl rfl ?_
  refine Seq.val (Runs.assign rfl rfl) rfl rfl rfl ?_
  refine Seq.nil ?_
  refine Post.weak (F' := [(0, _), (2, _), (3, _), (5, _)]) ⟨rfl, rfl, rfl, rfl, trivial⟩ ?_
  refine Post.then_ ?_
  refine Cd.seq ?_
  refine Cd.seq ?_
  refine Cd.region ?_
  refine Seq.val (Runs.move rfl rfl) rfl rfl rfl ?_
  refine Seq.val (Runs.neqI rfl rfl rfl) rfl rfl rfl ?_
  refine Seq.nil ?_
  refine Post.weak (F' := [(0, _), (2, _), (3, _), (5, _), (19, _)]) ⟨rfl, rfl, rfl, rfl, rfl, trivial⟩ ?_
  refine Post.then_ ?_
  refine Cd.condF rfl rfl ?_
  refine Cd.skip ?_
  refine Post.then_ ?_
  refine Cd.seq ?_
  refine Cd.region ?_
  refine Seq.val (Runs.assign rfl rfl) rfl rfl rfl ?_
  refine Seq.nil ?_
  refine Post.weak (F' := [(0, _), (2, _), (3, _), (5, _), (6, _), (19, _)]) ⟨rfl, rfl, rfl, rfl, rfl, rfl, trivial⟩ ?_
  refine Post.then_ ?_
  refine Cd.seq ?_
  refine Cd.region ?_
  refine Seq.val (Runs.assign rfl rfl) rfl rfl rfl ?_
  refine Seq.nil ?_
  refine Post.weak (F' := [(0, _), (2, _), (3, _), (5, _), (6, _), (7, _), (19, _)]) ⟨rfl, rfl, rfl, rfl, rfl, rfl, rfl, trivial⟩ ?_
  refine Post.then_ ?_
  refine Cd.seq ?_
  refine Cd.seq ?_
  refine Cd.region ?_
  refine Seq.val (Runs.assign rfl rfl) rfl rfl rfl ?_
  refine Seq.nil ?_
  refine Post.weak (F' := [(0, _), (2, _), (3, _), (5, _), (6, _), (7, _), (8, _), (19, _)]) ⟨rfl, rfl, rfl, rfl, rfl, rfl, rfl, rfl, trivial⟩ ?_
  refine Post.then_ ?_
  refine Cd.block ?_
  refine Cd.loop (σ := Nat × Nat × Bool) (fun s => [(0, .string (strOf l)), (3, .slice A ws.length cap), (6, .int .i64 (s.2.1 : Int)), (7, .bool s.2.2), (8, .int .i64 (s.1 : Int))])
    (fun s wr => Below w.heap.size w wr ∧ Own wr w.heap.size 50 4 (.slice A ws.length cap) ws.length (wdCells ws) ∧ ((s.1 ≤ ws.length ∧ Chain l (ws.drop s.1) s.2.1 ∧ s.2.2 = false ∧ s.2.1 ≤ l.length) ∨ s.1 = ws.length + 1)) (fun s => ws.length + 1 - s.1) (0, 0, false) ⟨bel, own, .inl ⟨Nat.zero_le _, hch, rfl, Nat.zero_le _⟩⟩ ⟨rfl, rfl, rfl, rfl, rfl, trivial⟩ ?_
  clear bel own
  rintro ⟨i, q, nb⟩ wr ⟨bel, own, hinv⟩
  dsimp only at hinv ⊢
  refine Cd.seq ?_
  refine Cd.seq ?_
  refine Cd.region ?_
  refine Seq.val (Runs.move rfl rfl) rfl rfl rfl ?_
  refine Seq.val (Runs.move rfl rfl) rfl rfl rfl ?_
  refine Seq.val (Runs.len rfl rfl Try.underlying40) rfl rfl rfl ?_
  refine Seq.val (Runs.leq rfl rfl rfl) rfl rfl rfl ?_
  refine Seq.nil ?_
  refine Post.weak (F' := [(0, _), (3, _), (6, _), (7, _), (8, _), (29, _)]) ⟨rfl, rfl, rfl, rfl, rfl, rfl, trivial⟩ ?_
  refine Post.then_ ?_
  refine Cd.condD rfl (fun hc => ?_) (fun hc => ?_)
  · obtain ⟨hin, hcq, rfl, hql⟩ : i ≤ ws.length ∧ Chain l (ws.drop i) q ∧ nb = false ∧ q ≤ l.length := by
      rcases hinv with h | h
      · exact h
      · omega
    have hm : q + blankN (l.drop q) ≤ l.length := by
      have := blankN_le (l.drop q)
      rw [List.length_drop] at this
      omega
    have hbin := blank_in (l.drop q) false
    have hbout := blank_out (l.drop q) false
    rw [List.length_drop] at hbout
    have hbn : blankF (l.drop q) false = blankN (l.drop q) := rfl
    rw [hbn] at hbin hbout
    have hend : (i < ws.length → ∃ x, ws[i]? = some x ∧ x.pos = q + blankN (l.drop q) ∧ 0 < x.text.length ∧ x.pos + x.text.length ≤ l.length ∧ x.text = (l.drop x.pos).take x.text.length ∧ Chain l (ws.drop (i + 1)) (x.pos + x.text.length)) ∧ (i = ws.length → q + blankN (l.drop q) = l.length) := by
      constructor
      · intro h
        rw [List.drop_eq_getElem_cons h] at hcq
        obtain ⟨c1, c2, c3, c4, c5⟩ := hcq
        exact ⟨ws[i], List.getElem?_eq_getElem h, c1, c2, c3, c4, c5⟩
      · intro h
        rw [List.drop_of_length_le (by omega)] at hcq
        exact hcq
    generalize blankN (l.drop q) = m at *
    have hcell : i < ws.length → ∃ g cur, A = some ⟨g, 0, none⟩ ∧ Blk wr g 50 cur ∧ ∀ (j : Nat) (x : Value), (wdCells ws)[j]? = some x → cur[j]? = some x := by
      intro h
      obtain ⟨g, cap', cur, hv, -, kg, hcur⟩ := own.form (by omega)
      injection hv with hv1 _ _
      exact ⟨g, cur, hv1, kg, hcur⟩
    refine Cd.skip ?_
    refine Post.then_ ?_
    refine Cd.seq ?_
    refine Cd.block ?_
    refine Cd.seq ?_
    refine Cd.region ?_
    refine Seq.val (Runs.move rfl rfl) rfl rfl rfl ?_
    refine Seq.val (Runs.lenL rfl rfl Try.underlying9) rfl rfl rfl ?_
    refine Seq.val (Runs.assign rfl rfl) rfl rfl rfl ?_
    refine Seq.nil ?_
    refine Post.weak (F' := [(0, _), (3, _), (6, _), (7, _), (8, _), (9, _), (29, _)]) ⟨rfl, rfl, rfl, rfl, rfl, rfl, rfl, trivial⟩ ?_
    refine Post.then_ ?_
    refine Cd.seqJ (σ := Unit) (fun _ => [(0, .string (strOf l)), (3, .slice A ws.length cap), (6, .int .i64 (q : Int)), (7, .bool false), (8, .int .i64 (i : Int)), (9, .int .i64 ((q + m : Nat) : Int))]) (fun _ wr' => Below w.heap.size w wr' ∧ Own wr' w.heap.size 50 4 (.slice A ws.length cap) ws.length (wdCells ws)) ?_ ?_
    · skip
      refine Cd.seq ?_
      refine Cd.region ?_
      refine Seq.val (Runs.move rfl rfl) rfl rfl rfl ?_
      refine Seq.val (Runs.move rfl rfl) rfl rfl rfl ?_
      refine Seq.val (Runs.len rfl rfl Try.underlying40) rfl rfl rfl ?_
      refine Seq.val (Runs.lss rfl rfl rfl) rfl rfl rfl ?_
      refine Seq.nil ?_
      refine Post.weak (F' := [(0, _), (3, _), (6, _), (7, _), (8, _), (9, _), (29, _), (37, _)]) ⟨rfl, rfl, rfl, rfl, rfl, rfl, rfl, rfl, trivial⟩ ?_
      refine Post.then_ ?_
      refine Cd.condD rfl (fun hc => ?_) (fun hc => ?_)
      · obtain ⟨x, hx, hxp, -⟩ := hend.1 (by omega)
        obtain ⟨g, cur, rfl, kg, hcur⟩ := hcell (by omega)
        have hc3 := hcur _ _ (wdCells_at hx).2.2.2
        refine Cd.region ?_
        refine Seq.val (Runs.move rfl rfl) rfl rfl rfl ?_
        refine Seq.val (Runs.move rfl rfl) rfl rfl rfl ?_
        refine Seq.val (Runs.indexBN rfl rfl rfl Try.underlying40 (s := 4) (by kernel_rfl) (j := i) rfl (by omega)) rfl rfl rfl ?_
        refine Seq.val (Runs.fieldP 3 rfl rfl Try.underlying50 rfl (by kernel_rfl)) rfl rfl rfl ?_
        refine Seq.val (Runs.loadB rfl rfl Try.underlying3 rfl kg hc3) rfl rfl rfl ?_
        refine Seq.val (Runs.assign rfl rfl) rfl rfl rfl ?_
        refine Seq.nil ?_
        refine Post.weak (F' := [(0, _), (3, _), (6, _), (7, _), (8, _), (9, _), (29, _), (37, _)]) ⟨rfl, rfl, rfl, rfl, rfl, rfl, rfl, rfl, trivial⟩ ?_
        exact Post.join () ⟨rfl, rfl, rfl, rfl, rfl, congrArg (fun x : Int => some (Value.int .i64 x)) (show (x.pos : Int) = ((q + m : Nat) : Int) by omega), trivial⟩ ⟨bel, own⟩
      · have he := hend.2 (by omega)
        refine Cd.skip ?_
        exact Post.join () ⟨rfl, rfl, rfl, rfl, rfl, congrArg (fun x : Int => some (Value.int .i64 x)) (show (l.length : Int) = ((q + m : Nat) : Int) by omega), trivial⟩ ⟨bel, own⟩
    clear hcell
    clear bel own
    rintro ⟨⟩ wr' ⟨bel, own⟩
    have hcell : i < ws.length → ∃ g cur, A = some ⟨g, 0, none⟩ ∧ Blk wr' g 50 cur ∧ ∀ (j : Nat) (x : Value), (wdCells ws)[j]? = some x → cur[j]? = some x := by
      intro h
      obtain ⟨g, cap', cur, hv, -, kg, hcur⟩ := own.form (by omega)
      injection hv with hv1 _ _
      exact ⟨g, cur, hv1, kg, hcur⟩
    refine Cd.seq ?_
    refine Cd.seq ?_
    refine Cd.region ?_
    refine Seq.val (Runs.move rfl rfl) rfl rfl rfl ?_
    refine Seq.val (Runs.move rfl rfl) rfl rfl rfl ?_
    refine Seq.val (Runs.lss rfl rfl rfl) rfl rfl rfl ?_
    refine Seq.val (Runs.move rfl rfl) rfl rfl rfl ?_
    refine SeqC.start ?_
    refine SeqC.open rfl rfl rfl rfl rfl rfl rfl (fun hcx => Runs.move rfl rfl) ?_
    refine SeqC.next rfl rfl rfl rfl rfl rfl rfl (fun hcx => Runs.move rfl rfl) ?_
    refine SeqC.next rfl rfl rfl rfl rfl rfl rfl (fun hcx => Runs.lenL rfl rfl Try.underlying9) ?_
    refine SeqC.next rfl rfl rfl rfl rfl rfl rfl (fun hcx => Runs.gtr rfl rfl rfl) ?_
    refine SeqC.or rfl rfl rfl rfl rfl rfl rfl ?_
    refine Seq.nil ?_
    refine Post.weak (F' := [(0, _), (3, _), (6, _), (7, _), (8, _), (9, _), (51, _)]) ⟨rfl, rfl, rfl, rfl, rfl, rfl, rfl, trivial⟩ ?_
    refine Post.then_ ?_
    refine Cd.condF rfl (by simp; omega) ?_
    refine Cd.skip ?_
    refine Post.then_ ?_
    refine Cd.seq ?_
    refine Cd.block ?_
    refine Cd.loop (σ := Nat) (fun j => [(0, .string (strOf l)), (3, .slice A ws.length cap), (6, .int .i64 ((q + j : Nat) : Int)), (7, .bool (stK (l.drop q) false j)), (8, .int .i64 (i : Int)), (9, .int .i64 ((q + m : Nat) : Int))])
      (fun j wr2 => j ≤ m ∧ Below w.heap.size w wr2 ∧ Own wr2 w.heap.size 50 4 (.slice A ws.length cap) ws.length (wdCells ws)) (fun j => m - j) 0 ⟨Nat.zero_le _, bel, own⟩ ⟨rfl, rfl, rfl, rfl, rfl, rfl, trivial⟩ ?_
    clear hcell
    clear bel own
    rintro j wr2 ⟨hj, bel, own⟩
    have hcell : i < ws.length → ∃ g cur, A = some ⟨g, 0, none⟩ ∧ Blk wr2 g 50 cur ∧ ∀ (j : Nat) (x : Value), (wdCells ws)[j]? = some x → cur[j]? = some x := by
      intro h
      obtain ⟨g, cap', cur, hv, -, kg, hcur⟩ := own.form (by omega)
      injection hv with hv1 _ _
      exact ⟨g, cur, hv1, kg, hcur⟩
    refine Cd.seq ?_
    refine Cd.seq ?_
    refine Cd.region ?_
    refine Seq.val (Runs.move rfl rfl) rfl rfl rfl ?_
    refine Seq.val (Runs.move rfl rfl) rfl rfl rfl ?_
    refine Seq.val (Runs.lss rfl rfl rfl) rfl rfl rfl ?_
    refine Seq.nil ?_
    refine Post.weak (F' := [(0, _), (3, _), (6, _), (7, _), (8, _), (9, _), (54, _)]) ⟨rfl, rfl, rfl, rfl, rfl, rfl, rfl, trivial⟩ ?_
    refine Post.then_ ?_
    refine Cd.condD rfl (fun hc => ?_) (fun hc => ?_)
    · obtain ⟨c, hcc⟩ : ∃ c, l[q + j]? = some c := ⟨_, List.getElem?_eq_getElem (show q + j < l.length by omega)⟩
      have hc256 := hl c (List.mem_of_getElem? hcc)
      have hdc : (l.drop q)[j]? = some c := by rw [List.getElem?_drop]; exact hcc
      have hin := hbin j c (by omega) hdc
      have hst : stK (l.drop q) false (j + 1) = stepB (stK (l.drop q) false j) c := by
        show stepB _ ((l.drop q).getD j 0) = _
        rw [List.getD_eq_getElem?_getD, hdc]; rfl
      generalize stK (l.drop q) false j = nt at *
      refine Cd.skip ?_
      refine Post.then_ ?_
      refine Cd.seq ?_
      refine Cd.block ?_
      refine Cd.seq ?_
      refine Cd.region ?_
      refine Seq.val (Runs.move rfl rfl) rfl rfl rfl ?_
      refine Seq.val (Runs.move rfl rfl) rfl rfl rfl ?_
      refine Seq.val (Runs.indexL (l := l) (j := q + j) rfl rfl rfl Try.underlying9 rfl hcc hc256) rfl rfl rfl ?_
      by_cases h10 : c = 10
      · subst h10
        have e : stepB nt 10 = false := by unfold stepB; simp
        rw [e] at hst
        refine Seq.val (Runs.assign rfl rfl) rfl rfl rfl ?_
        refine Seq.nil ?_
        refine Post.weak (F' := [(0, _), (3, _), (6, _), (7, _), (8, _), (9, _), (10, _), (54, _)]) ⟨rfl, rfl, rfl, rfl, rfl, rfl, rfl, rfl, trivial⟩ ?_
        refine Post.then_ ?_
        refine Cd.seq ?_
        refine Cd.seq ?_
        refine Cd.region ?_
        refine Seq.val (Runs.move rfl rfl) rfl rfl rfl ?_
        refine Seq.val (Runs.eqlI rfl rfl rfl) rfl rfl rfl ?_
        refine Seq.nil ?_
        refine Post.weak (F' := [(0, _), (3, _), (6, _), (7, _), (8, _), (9, _), (10, _), (54, _), (61, _)]) ⟨rfl, rfl, rfl, rfl, rfl, rfl, rfl, rfl, rfl, trivial⟩ ?_
        refine Post.then_ ?_
        refine Cd.condT rfl rfl ?_
        refine Cd.region ?_
        refine Seq.val (Runs.assign rfl rfl) rfl rfl rfl ?_
        refine Seq.nil ?_
        refine Post.weak (F' := [(0, _), (3, _), (6, _), (7, _), (8, _), (9, _), (10, _), (54, _), (61, _)]) ⟨rfl, rfl, rfl, rfl, rfl, rfl, rfl, rfl, rfl, trivial⟩ ?_
        refine Post.then_ ?_
        refine Cd.seq ?_
        refine Cd.seq ?_
        refine Cd.region ?_
        refine Seq.val (Runs.move rfl rfl) rfl rfl rfl ?_
        refine Seq.val (Runs.eqlI rfl rfl rfl) rfl rfl rfl ?_
        refine Seq.nil ?_
        refine Post.weak (F' := [(0, _), (3, _), (6, _), (7, _), (8, _), (9, _), (10, _), (54, _), (61, _), (63, _)]) ⟨rfl, rfl, rfl, rfl, rfl, rfl, rfl, rfl, rfl, rfl, trivial⟩ ?_
        refine Post.then_ ?_
        refine Cd.condF rfl rfl ?_
        refine Cd.skip ?_
        refine Post.then_ ?_
        refine Cd.seq ?_
        refine Cd.region ?_
        refine Seq.val (Runs.move rfl rfl) rfl rfl rfl ?_
        refine Seq.val (Runs.not rfl rfl) rfl rfl rfl ?_
        refine Seq.val (Runs.move rfl rfl) rfl rfl rfl ?_
        refine SeqC.start ?_
        refine SeqC.open rfl rfl rfl rfl rfl rfl rfl (fun hcx => Runs.move rfl rfl) ?_
        refine SeqC.next rfl rfl rfl rfl rfl rfl rfl (fun hcx => Runs.neqI rfl rfl rfl) ?_
        refine SeqC.and rfl rfl rfl rfl rfl rfl rfl ?_
        refine Seq.val (Runs.move rfl rfl) rfl rfl rfl ?_
        refine SeqC.start ?_
        refine SeqC.open rfl rfl rfl rfl rfl rfl rfl (fun hcx => Runs.move rfl rfl) ?_
        refine SeqC.next rfl rfl rfl rfl rfl rfl rfl (fun hcx => Runs.neqI rfl rfl rfl) ?_
        refine SeqC.and rfl rfl rfl rfl rfl rfl rfl ?_
        refine Seq.val (Runs.move rfl rfl) rfl rfl rfl ?_
        refine SeqC.start ?_
        refine SeqC.open rfl rfl rfl rfl rfl rfl rfl (fun hcx => Runs.move rfl rfl) ?_
        refine SeqC.next rfl rfl rfl rfl rfl rfl rfl (fun hcx => Runs.neqI rfl rfl rfl) ?_
        refine SeqC.and rfl rfl rfl rfl rfl rfl rfl ?_
        refine Seq.nil ?_
        refine Post.weak (F' := [(0, _), (3, _), (6, _), (7, _), (8, _), (9, _), (10, _), (54, _), (61, _), (63, _), (77, _)]) ⟨rfl, rfl, rfl, rfl, rfl, rfl, rfl, rfl, rfl, rfl, rfl, trivial⟩ ?_
        refine Post.then_ ?_
        refine Cd.condF rfl (by simp) ?_
        refine Cd.skip ?_
        refine Post.block_normal ?_
        refine Post.then_ ?_
        refine Cd.region ?_
        refine Seq.val (Runs.move rfl rfl) rfl rfl rfl ?_
        refine Seq.val (Runs.addI rfl rfl rfl (by omega) (by omega)) rfl rfl rfl ?_
        refine Seq.val (Runs.assign rfl rfl) rfl rfl rfl ?_
        refine Seq.nil ?_
        refine Post.weak (F' := [(0, _), (3, _), (6, _), (7, _), (8, _), (9, _), (10, _), (54, _), (61, _), (63, _), (77, _)]) ⟨rfl, rfl, rfl, rfl, rfl, rfl, rfl, rfl, rfl, rfl, rfl, trivial⟩ ?_
        exact Post.round (j + 1) ⟨rfl, rfl, congrArg (fun x : Int => some (Value.int .i64 x)) (show ((q + j : Nat) : Int) + 1 = ((q + (j + 1) : Nat) : Int) by omega), congrArg (fun z => some (Value.bool z)) hst.symm, rfl, rfl, trivial⟩ ⟨by omega, bel, own⟩ (by omega)
      by_cases h35 : c = 35
      · subst h35
        have e : stepB nt 35 = true := by unfold stepB; simp
        rw [e] at hst
        refine Seq.val (Runs.assign rfl rfl) rfl rfl rfl ?_
        refine Seq.nil ?_
        refine Post.weak (F' := [(0, _), (3, _), (6, _), (7, _), (8, _), (9, _), (10, _), (54, _)]) ⟨rfl, rfl, rfl, rfl, rfl, rfl, rfl, rfl, trivial⟩ ?_
        refine Post.then_ ?_
        refine Cd.seq ?_
        refine Cd.seq ?_
        refine Cd.region ?_
        refine Seq.val (Runs.move rfl rfl) rfl rfl rfl ?_
        refine Seq.val (Runs.eqlI rfl rfl rfl) rfl rfl rfl ?_
        refine Seq.nil ?_
        refine Post.weak (F' := [(0, _), (3, _), (6, _), (7, _), (8, _), (9, _), (10, _), (54, _), (61, _)]) ⟨rfl, rfl, rfl, rfl, rfl, rfl, rfl, rfl, rfl, trivial⟩ ?_
        refine Post.then_ ?_
        refine Cd.condF rfl rfl ?_
        refine Cd.skip ?_
        refine Post.then_ ?_
        refine Cd.seq ?_
        refine Cd.seq ?_
        refine Cd.region ?_
        refine Seq.val (Runs.move rfl rfl) rfl rfl rfl ?_
        refine Seq.val (Runs.eqlI rfl rfl rfl) rfl rfl rfl ?_
        refine Seq.nil ?_
        refine Post.weak (F' := [(0, _), (3, _), (6, _), (7, _), (8, _), (9, _), (10, _), (54, _), (61, _), (63, _)]) ⟨rfl, rfl, rfl, rfl, rfl, rfl, rfl, rfl, rfl, rfl, trivial⟩ ?_
        refine Post.then_ ?_
        refine Cd.condT rfl rfl ?_
        refine Cd.region ?_
        refine Seq.val (Runs.assign rfl rfl) rfl rfl rfl ?_
        refine Seq.nil ?_
        refine Post.weak (F' := [(0, _), (3, _), (6, _), (7, _), (8, _), (9, _), (10, _), (54, _), (61, _), (63, _)]) ⟨rfl, rfl, rfl, rfl, rfl, rfl, rfl, rfl, rfl, rfl, trivial⟩ ?_
        refine Post.then_ ?_
        refine Cd.seq ?_
        refine Cd.region ?_
        refine Seq.val (Runs.move rfl rfl) rfl rfl rfl ?_
        refine Seq.val (Runs.not rfl rfl) rfl rfl rfl ?_
        refine Seq.val (Runs.move rfl rfl) rfl rfl rfl ?_
        refine SeqC.start ?_
        refine SeqC.open rfl rfl rfl rfl rfl rfl rfl (fun hcx => Runs.move rfl rfl) ?_
        refine SeqC.next rfl rfl rfl rfl rfl rfl rfl (fun hcx => Runs.neqI rfl rfl rfl) ?_
        refine SeqC.and rfl rfl rfl rfl rfl rfl rfl ?_
        refine Seq.val (Runs.move rfl rfl) rfl rfl rfl ?_
        refine SeqC.start ?_
        refine SeqC.open rfl rfl rfl rfl rfl rfl rfl (fun hcx => Runs.move rfl rfl) ?_
        refine SeqC.next rfl rfl rfl rfl rfl rfl rfl (fun hcx => Runs.neqI rfl rfl rfl) ?_
        refine SeqC.and rfl rfl rfl rfl rfl rfl rfl ?_
        refine Seq.val (Runs.move rfl rfl) rfl rfl rfl ?_
        refine SeqC.start ?_
        refine SeqC.open rfl rfl rfl rfl rfl rfl rfl (fun hcx => Runs.move rfl rfl) ?_
        refine SeqC.next rfl rfl rfl rfl rfl rfl rfl (fun hcx => Runs.neqI rfl rfl rfl) ?_
        refine SeqC.and rfl rfl rfl rfl rfl rfl rfl ?_
        refine Seq.nil ?_
        refine Post.weak (F' := [(0, _), (3, _), (6, _), (7, _), (8, _), (9, _), (10, _), (54, _), (61, _), (63, _), (77, _)]) ⟨rfl, rfl, rfl, rfl, rfl, rfl, rfl, rfl, rfl, rfl, rfl, trivial⟩ ?_
        refine Post.then_ ?_
        refine Cd.condF rfl (by simp) ?_
        refine Cd.skip ?_
        refine Post.block_normal ?_
        refine Post.then_ ?_
        refine Cd.region ?_
        refine Seq.val (Runs.move rfl rfl) rfl rfl rfl ?_
        refine Seq.val (Runs.addI rfl rfl rfl (by omega) (by omega)) rfl rfl rfl ?_
        refine Seq.val (Runs.assign rfl rfl) rfl rfl rfl ?_
        refine Seq.nil ?_
        refine Post.weak (F' := [(0, _), (3, _), (6, _), (7, _), (8, _), (9, _), (10, _), (54, _), (61, _), (63, _), (77, _)]) ⟨rfl, rfl, rfl, rfl, rfl, rfl, rfl, rfl, rfl, rfl, rfl, trivial⟩ ?_
        exact Post.round (j + 1) ⟨rfl, rfl, congrArg (fun x : Int => some (Value.int .i64 x)) (show ((q + j : Nat) : Int) + 1 = ((q + (j + 1) : Nat) : Int) by omega), congrArg (fun z => some (Value.bool z)) hst.symm, rfl, rfl, trivial⟩ ⟨by omega, bel, own⟩ (by omega)
      · have e : stepB nt c = nt := by unfold stepB; rw [if_neg h35, if_neg h10]
        rw [e] at hst hin
        have hbb : nt = true ∨ c = 32 ∨ c = 9 := by
          rcases hin with h | h
          · exact .inl h
          · unfold blankB at h
            simp at h
            omega
        refine Seq.val (Runs.assign rfl rfl) rfl rfl rfl ?_
        refine Seq.nil ?_
        refine Post.weak (F' := [(0, _), (3, _), (6, _), (7, _), (8, _), (9, _), (10, _), (54, _)]) ⟨rfl, rfl, rfl, rfl, rfl, rfl, rfl, rfl, trivial⟩ ?_
        refine Post.then_ ?_
        refine Cd.seq ?_
        refine Cd.seq ?_
        refine Cd.region ?_
        refine Seq.val (Runs.move rfl rfl) rfl rfl rfl ?_
        refine Seq.val (Runs.eqlI rfl rfl rfl) rfl rfl rfl ?_
        refine Seq.nil ?_
        refine Post.weak (F' := [(0, _), (3, _), (6, _), (7, _), (8, _), (9, _), (10, _), (54, _), (61, _)]) ⟨rfl, rfl, rfl, rfl, rfl, rfl, rfl, rfl, rfl, trivial⟩ ?_
        refine Post.then_ ?_
        refine Cd.condF rfl (decide_eq_false (by omega)) ?_
        refine Cd.skip ?_
        refine Post.then_ ?_
        refine Cd.seq ?_
        refine Cd.seq ?_
        refine Cd.region ?_
        refine Seq.val (Runs.move rfl rfl) rfl rfl rfl ?_
        refine Seq.val (Runs.eqlI rfl rfl rfl) rfl rfl rfl ?_
        refine Seq.nil ?_
        refine Post.weak (F' := [(0, _), (3, _), (6, _), (7, _), (8, _), (9, _), (10, _), (54, _), (61, _), (63, _)]) ⟨rfl, rfl, rfl, rfl, rfl, rfl, rfl, rfl, rfl, rfl, trivial⟩ ?_
        refine Post.then_ ?_
        refine Cd.condF rfl (decide_eq_false (by omega)) ?_
        refine Cd.skip ?_
        refine Post.then_ ?_
        refine Cd.seq ?_
        refine Cd.region ?_
        refine Seq.val (Runs.move rfl rfl) rfl rfl rfl ?_
        refine Seq.val (Runs.not rfl rfl) rfl rfl rfl ?_
        refine Seq.val (Runs.move rfl rfl) rfl rfl rfl ?_
        refine SeqC.start ?_
        refine SeqC.open rfl rfl rfl rfl rfl rfl rfl (fun hcx => Runs.move rfl rfl) ?_
        refine SeqC.next rfl rfl rfl rfl rfl rfl rfl (fun hcx => Runs.neqI rfl rfl rfl) ?_
        refine SeqC.and rfl rfl rfl rfl rfl rfl rfl ?_
        refine Seq.val (Runs.move rfl rfl) rfl rfl rfl ?_
        refine SeqC.start ?_
        refine SeqC.open rfl rfl rfl rfl rfl rfl rfl (fun hcx => Runs.move rfl rfl) ?_
        refine SeqC.next rfl rfl rfl rfl rfl rfl rfl (fun hcx => Runs.neqI rfl rfl rfl) ?_
        refine SeqC.and rfl rfl rfl rfl rfl rfl rfl ?_
        refine Seq.val (Runs.move rfl rfl) rfl rfl rfl ?_
        refine SeqC.start ?_
        refine SeqC.open rfl rfl rfl rfl rfl rfl rfl (fun hcx => Runs.move rfl rfl) ?_
        refine SeqC.next rfl rfl rfl rfl rfl rfl rfl (fun hcx => Runs.neqI rfl rfl rfl) ?_
        refine SeqC.and rfl rfl rfl rfl rfl rfl rfl ?_
        refine Seq.nil ?_
        refine Post.weak (F' := [(0, _), (3, _), (6, _), (7, _), (8, _), (9, _), (10, _), (54, _), (61, _), (63, _), (77, _)]) ⟨rfl, rfl, rfl, rfl, rfl, rfl, rfl, rfl, rfl, rfl, rfl, trivial⟩ ?_
        refine Post.then_ ?_
        refine Cd.condF rfl (by rcases hbb with rfl | rfl | rfl <;> simp) ?_
        refine Cd.skip ?_
        refine Post.block_normal ?_
        refine Post.then_ ?_
        refine Cd.region ?_
        refine Seq.val (Runs.move rfl rfl) rfl rfl rfl ?_
        refine Seq.val (Runs.addI rfl rfl rfl (by omega) (by omega)) rfl rfl rfl ?_
        refine Seq.val (Runs.assign rfl rfl) rfl rfl rfl ?_
        refine Seq.nil ?_
        refine Post.weak (F' := [(0, _), (3, _), (6, _), (7, _), (8, _), (9, _), (10, _), (54, _), (61, _), (63, _), (77, _)]) ⟨rfl, rfl, rfl, rfl, rfl, rfl, rfl, rfl, rfl, rfl, rfl, trivial⟩ ?_
        exact Post.round (j + 1) ⟨rfl, rfl, congrArg (fun x : Int => some (Value.int .i64 x)) (show ((q + j : Nat) : Int) + 1 = ((q + (j + 1) : Nat) : Int) by omega), congrArg (fun z => some (Value.bool z)) hst.symm, rfl, rfl, trivial⟩ ⟨by omega, bel, own⟩ (by omega)
    · obtain rfl : j = m := by omega
      have hni : i < ws.length → stK (l.drop q) false j = false := by
        intro hi
        obtain ⟨x, hx, h1, h2, h3, -⟩ := hend.1 hi
        exact hbout (by omega)
      refine Cd.exit ?_
      refine Post.then_exit ?_
      refine Post.round_exit ?_
      refine Post.block_exit ?_
      refine Post.then_ ?_
      refine Cd.seq ?_
      refine Cd.seq ?_
      refine Cd.region ?_
      refine Seq.val (Runs.move rfl rfl) rfl rfl rfl ?_
      refine Seq.val (Runs.move rfl rfl) rfl rfl rfl ?_
      refine SeqC.start ?_
      refine SeqC.open rfl rfl rfl rfl rfl rfl rfl (fun hcx => Runs.move rfl rfl) ?_
      refine SeqC.next rfl rfl rfl rfl rfl rfl rfl (fun hcx => Runs.move rfl rfl) ?_
      refine SeqC.next rfl rfl rfl rfl rfl rfl rfl (fun hcx => Runs.len rfl rfl Try.underlying40) ?_
      refine SeqC.next rfl rfl rfl rfl rfl rfl rfl (fun hcx => Runs.lss rfl rfl rfl) ?_
      refine SeqC.and rfl rfl rfl rfl rfl rfl rfl ?_
      refine Seq.nil ?_
      refine Post.weak (F' := [(0, _), (3, _), (6, _), (7, _), (8, _), (9, _), (54, _), (84, _)]) ⟨rfl, rfl, rfl, rfl, rfl, rfl, rfl, rfl, trivial⟩ ?_
      refine Post.then_ ?_
      refine Cd.condF rfl (by rcases Nat.lt_or_ge i ws.length with hi | hi <;> first | (rw [hni hi]; rfl) | (simp; omega)) ?_
      refine Cd.skip ?_
      refine Post.then_ ?_
      refine Cd.seq ?_
      refine Cd.region ?_
      refine Seq.val (Runs.move rfl rfl) rfl rfl rfl ?_
      refine Seq.val (Runs.move rfl rfl) rfl rfl rfl ?_
      refine Seq.val (Runs.len rfl rfl Try.underlying40) rfl rfl rfl ?_
      refine Seq.val (Runs.lss rfl rfl rfl) rfl rfl rfl ?_
      refine Seq.nil ?_
      refine Post.weak (F' := [(0, _), (3, _), (6, _), (7, _), (8, _), (9, _), (54, _), (84, _), (88, _)]) ⟨rfl, rfl, rfl, rfl, rfl, rfl, rfl, rfl, rfl, trivial⟩ ?_
      refine Post.then_ ?_
      refine Cd.condD rfl (fun hc => ?_) (fun hc => ?_)
      · obtain ⟨x, hx, hxp, h2, h3, h4, h5⟩ := hend.1 (by omega)
        obtain ⟨g, cur, rfl, kg, hcur⟩ := hcell (by omega)
        have hc1 := hcur _ _ (wdCells_at hx).2.1
        have hxt : ∀ y ∈ x.text, y < 256 := by
          rw [h4]
          exact take_lt (drop_lt hl _) _
        have hsl : (l.take (q + j + x.text.length)).drop (q + j) = x.text := by
          rw [List.drop_take, ← hxp, Nat.add_sub_cancel_left]
          exact h4.symm
        refine Cd.seq ?_
        refine Cd.region ?_
        refine Seq.val (Runs.move rfl rfl) rfl rfl rfl ?_
        refine Seq.val (Runs.move rfl rfl) rfl rfl rfl ?_
        refine Seq.val (Runs.indexBN rfl rfl rfl Try.underlying40 (s := 4) (by kernel_rfl) (j := i) rfl (by omega)) rfl rfl rfl ?_
        refine Seq.val (Runs.fieldP 1 rfl rfl Try.underlying50 rfl (by kernel_rfl)) rfl rfl rfl ?_
        refine Seq.val (Runs.loadB rfl rfl Try.underlying9 rfl kg hc1) rfl rfl rfl ?_
        refine Seq.val (Runs.lenL rfl rfl Try.underlying9) rfl rfl rfl ?_
        refine Seq.val (Runs.assign rfl rfl) rfl rfl rfl ?_
        refine Seq.nil ?_
        refine Post.weak (F' := [(0, _), (3, _), (6, _), (7, _), (8, _), (9, _), (11, _), (54, _), (84, _), (88, _)]) ⟨rfl, rfl, rfl, rfl, rfl, rfl, rfl, rfl, rfl, rfl, trivial⟩ ?_
        refine Post.then_ ?_
        refine Cd.seq ?_
        refine Cd.seq ?_
        refine Cd.draw 24 (by kernel_rfl) [] (.inl rfl) rfl Grow Grow.refl (fun _ _ _ => Grow.trans) ?_
        intro w1 hw1 zw1
        replace bel := bel.step hw1
        replace own := own.step hw1
        replace kg := kg.step hw1
        have zbel := bel.size
        refine Dr.val Grow.refl rfl (fun w hG => Runs.move rfl rfl) rfl ?_
        refine Dr.val Grow.refl rfl (fun w hG => (Runs.eqlI rfl rfl rfl).isF ((by omega))) rfl ?_
        refine Dr.val Grow.refl rfl (fun w hG => Runs.move rfl rfl) rfl ?_
        refine Dr.valG Grow.refl rfl (fun w hG => Runs.move rfl rfl) rfl rfl rfl ?_
        refine Dr.valG Grow.refl rfl (fun w hG => Runs.move rfl rfl) rfl rfl rfl ?_
        refine Dr.valG Grow.refl rfl (fun w hG => Runs.addI rfl rfl rfl (by omega) (by omega)) rfl rfl rfl ?_
        refine Dr.valG Grow.refl rfl (fun w hG => Runs.move rfl rfl) rfl rfl rfl ?_
        refine Dr.valG Grow.refl rfl (fun w hG => Runs.lenL rfl rfl Try.underlying9) rfl rfl rfl ?_
        refine Dr.valG Grow.refl rfl (fun w hG => (Runs.gtr rfl rfl rfl).isF ((by omega))) rfl rfl rfl ?_
        refine Dr.val Grow.refl rfl (fun w hG => Runs.pickF rfl rfl rfl) rfl ?_
        refine Dr.val Grow.refl rfl (fun w hG => Runs.move rfl rfl) rfl ?_
        refine Dr.valG Grow.refl rfl (fun w hG => Runs.move rfl rfl) rfl rfl rfl ?_
        refine Dr.valG Grow.refl rfl (fun w hG => Runs.move rfl rfl) rfl rfl rfl ?_
        refine Dr.valG Grow.refl rfl (fun w hG => Runs.move rfl rfl) rfl rfl rfl ?_
        refine Dr.valG Grow.refl rfl (fun w hG => Runs.move rfl rfl) rfl rfl rfl ?_
        refine Dr.valG Grow.refl rfl (fun w hG => Runs.addI rfl rfl rfl (by omega) (by omega)) rfl rfl rfl ?_
        refine Dr.valG Grow.refl rfl (fun w hG => Runs.sliceAtL (i := q + j) (j := q + j + x.text.length) rfl rfl rfl rfl Try.underlying9 rfl (by omega) (by omega) (by omega)) rfl rfl rfl ?_
        refine Dr.valG Grow.refl rfl (fun w hG => Runs.move rfl rfl) rfl rfl rfl ?_
        refine Dr.valG Grow.refl rfl (fun w hG => Runs.move rfl rfl) rfl rfl rfl ?_
        refine Dr.valG Grow.refl rfl (fun w hG => Runs.indexBN rfl rfl rfl Try.underlying40 (s := 4) (by kernel_rfl) (j := i) rfl (by omega)) rfl rfl rfl ?_
        refine Dr.valG Grow.refl rfl (fun w hG => Runs.fieldP 1 rfl rfl Try.underlying50 rfl (by kernel_rfl)) rfl rfl rfl ?_
        refine Dr.valG Grow.refl rfl (fun w hG => Runs.loadB rfl rfl Try.underlying9 rfl (kg.step hG) hc1) rfl rfl rfl ?_
        refine Dr.valG Grow.refl rfl (fun w hG => (Runs.neqL (a := (l.take (q + j + x.text.length)).drop (q + j)) (b := x.text) rfl rfl rfl (drop_lt (take_lt hl _) _) hxt).isF (fun h => h hsl)) rfl rfl rfl ?_
        refine Dr.val Grow.refl rfl (fun w hG => Runs.pickF rfl rfl rfl) rfl ?_
        refine Dr.nil ?_
        refine FinX.done (F' := [(0, _), (3, _), (6, _), (7, _), (8, _), (9, _), (11, _), (54, _), (84, _), (88, _), (118, _)]) rfl ⟨rfl, rfl, rfl, rfl, rfl, rfl, rfl, rfl, rfl, rfl, rfl, trivial⟩ ?_
        intro w2 hw2 fw2
        replace bel := bel.step hw2
        replace own := own.step hw2
        replace kg := kg.step hw2
        refine Seq.nil ?_
        refine Post.weak (F' := [(0, _), (3, _), (6, _), (7, _), (8, _), (9, _), (11, _), (54, _), (84, _), (88, _), (118, _)]) ⟨rfl, rfl, rfl, rfl, rfl, rfl, rfl, rfl, rfl, rfl, rfl, trivial⟩ ?_
        refine Post.then_ ?_
        refine Cd.condF rfl rfl ?_
        refine Cd.skip ?_
        refine Post.then_ ?_
        refine Cd.region ?_
        refine Seq.val (Runs.move rfl rfl) rfl rfl rfl ?_
        refine Seq.val (Runs.move rfl rfl) rfl rfl rfl ?_
        refine Seq.val (Runs.addI rfl rfl rfl (by omega) (by omega)) rfl rfl rfl ?_
        refine Seq.val (Runs.assign rfl rfl) rfl rfl rfl ?_
        refine Seq.nil ?_
        refine Post.weak (F' := [(0, _), (3, _), (6, _), (7, _), (8, _), (9, _), (11, _), (54, _), (84, _), (88, _), (118, _)]) ⟨rfl, rfl, rfl, rfl, rfl, rfl, rfl, rfl, rfl, rfl, rfl, trivial⟩ ?_
        refine Post.block_normal ?_
        refine Post.then_ ?_
        refine Cd.region ?_
        refine Seq.val (Runs.move rfl rfl) rfl rfl rfl ?_
        refine Seq.val (Runs.addI rfl rfl rfl (by omega) (by omega)) rfl rfl rfl ?_
        refine Seq.val (Runs.assign rfl rfl) rfl rfl rfl ?_
        refine Seq.nil ?_
        refine Post.weak (F' := [(0, _), (3, _), (6, _), (7, _), (8, _), (9, _), (11, _), (54, _), (84, _), (88, _), (118, _)]) ⟨rfl, rfl, rfl, rfl, rfl, rfl, rfl, rfl, rfl, rfl, rfl, trivial⟩ ?_
        refine Post.round (i + 1, x.pos + x.text.length, stK (l.drop q) false j) ⟨rfl, rfl, congrArg (fun z : Int => some (Value.int .i64 z)) (show ((q + j : Nat) : Int) + (x.text.length : Int) = ((x.pos + x.text.length : Nat) : Int) by omega), rfl, rfl, trivial⟩ ⟨bel, own, .inl ⟨by dsimp only; omega, h5, hbout (by omega), by dsimp only; omega⟩⟩ (by dsimp only; omega)
      · skip
        refine Cd.skip ?_
        refine Post.block_normal ?_
        refine Post.then_ ?_
        refine Cd.region ?_
        refine Seq.val (Runs.move rfl rfl) rfl rfl rfl ?_
        refine Seq.val (Runs.addI rfl rfl rfl (by omega) (by omega)) rfl rfl rfl ?_
        refine Seq.val (Runs.assign rfl rfl) rfl rfl rfl ?_
        refine Seq.nil ?_
        refine Post.weak (F' := [(0, _), (3, _), (6, _), (7, _), (8, _), (9, _), (54, _), (84, _), (88, _)]) ⟨rfl, rfl, rfl, rfl, rfl, rfl, rfl, rfl, rfl, trivial⟩ ?_
        exact Post.round (i + 1, q + j, stK (l.drop q) false j) ⟨rfl, rfl, rfl, rfl, rfl, trivial⟩ ⟨bel, own, .inr (by dsimp only; omega)⟩ (by dsimp only; omega)
  · skip
    refine Cd.exit ?_
    refine Post.then_exit ?_
    refine Post.round_exit ?_
    refine Post.block_exit ?_
    refine Post.then_ ?_
    refine Cd.seq ?_
    refine Cd.region ?_
    refine Seq.call (Enters.func rfl rfl rfl (run_enter Try.func20 (by kernel_rfl) rfl)) rfl rfl rfl (awake17_any _) ?_
    rintro e w9 ⟨rfl, hb9⟩
    refine ⟨_, rfl, ?_⟩
    replace bel := bel.step hb9
    replace own := own.step hb9
    refine Seq.val (Runs.assign rfl rfl) rfl rfl rfl ?_
    refine Seq.nil ?_
    refine Post.weak (F' := [(0, _), (2, _), (3, _), (6, _), (7, _), (8, _), (29, _)]) ⟨rfl, rfl, rfl, rfl, rfl, rfl, rfl, trivial⟩ ?_
    refine Post.then_ ?_
    refine Cd.ret ?_
    refine Post.end1 rfl rfl (.inl rfl) ?_
    exact ⟨rfl, bel⟩

namespace LexStands
theorem own : ownKnob Try.prog.godebug = none := by kernel_rfl
theorem laidOut : laidOutB Try.prog = true := by kernel_rfl
set_option maxRecDepth 100000 in
theorem lifted (os : Os) (started : os.Started) (H : Type) (enc : TypeId × Value → H) :
    ReturnsInHanded {} Try.checked os 5 .any (Rows.lexStandsSpec.pre6 enc Try.prog Try.f5 Rows.lexStandsRow.domain false) (Rows.lexStandsSpec.post enc Try.prog Try.f5 false true false false) := by
  refine returnsInHanded_of_change (C := Try.checked) own started (by kernel_rfl) Try.func5
    (ChangeSpec.witness6 (enc := enc) (C := Try.checked) false ⟨#[], #[.string { data := #[] }], []⟩ 8 (by kernel_rfl) (by kernel_rfl) (by kernel_rfl) (by kernel_rfl)) ?_
  intro W base args ds gs before hval0 hW hcnd _
  have hval : ∀ (j : Nat) t v, Try.f5.params[j]? = some t → args[j]? = some v → Value.okWide Try.prog W .any base t v := hval0
  have hW' := hW
  obtain ⟨p, q, hA0, hV, rfl, hfz, hnd⟩ := hW
  have hA : DataW.TrodAll enc Try.prog W 0 (fun _ => true) true Try.f5.params.toList args.toList ds p := hA0
  rw [Try.params5] at hA hval
  obtain ⟨v0, vs0, d0, ds0, p0, q0, hargs, rfl, rfl, h0, r0⟩ := trodAll_cons hA
  obtain ⟨rfl, rfl, rfl⟩ := trodAll_nil r0
  obtain rfl : args = #[v0] := by cases args; simp_all
  obtain ⟨rfl, rfl⟩ := trodVars_none hV
  have k0 := h0
  have lt0 : ∀ x ∈ p0, x.block < W.heap.size := by obtain ⟨m, hm⟩ := k0; exact DataW.trod_lt m _ _ _ hm
  obtain ⟨l, rfl, hl, hlen⟩ := open_str Try.underlying9 (hval 0 _ v0 rfl rfl)
  clear hA0 hval0
  refine (walk_stands l W hl hlen).mono fun e W' ⟨he, bel⟩ => ?_
  subst he
  exact ⟨_, rfl, _, _, _, [], _, [], hW', trodAll_mk1 (shut_bool Try.underlying4 _), (trodAll_cons_mk (Below.trod laidOut (by kernel_rfl) (of_decide_eq_true (by kernel_rfl)) k0 bel lt0) trodAll_mk0), rfl, bel.frame _, fun h => by cases h⟩

theorem over : Rows.lexStandsRow.holds Try.pinned (OpenSpec.ofChange Rows.lexStandsSpec) :=
  OpenClaim.holds_of_wide 5 Try.f5 rfl rfl rfl rfl rfl rfl rfl ⟨rfl, rfl, rfl, rfl, rfl⟩ rfl rfl rfl rfl rfl (by kernel_rfl) Try.func5 (by kernel_rfl)
    (of_decide_eq_true (by kernel_rfl)) (by unfold Func.isWrapper; first | (rw [if_pos (by decide +kernel)]; kernel_rfl) | (rw [if_neg (by decide +kernel)]; exact ⟨rfl, rfl⟩))
    (fun os started H enc _ => lifted os started H enc)

theorem proved : Rows.LexStandsSaid := over

end LexStands
end Go.Proofs.Ytijaldpmpjapiaa

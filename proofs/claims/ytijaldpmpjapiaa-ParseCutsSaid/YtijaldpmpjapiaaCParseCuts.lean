/-
  ParseCuts: a term's text that is cut off at a word ends too early: the statement returns true. No condition.
-/
import Derived.Test.YtijaldpmpjapiaaC5
namespace Go.Proofs.Ytijaldpmpjapiaa
open Go.ChangeShapes Go.WideShapes Go.ChangeAt Go.RowKit

theorem parseT_ok {l : List Nat} (h : (parseT l).2.2 = 0) : l.length ≤ 4000 ∧ (lexAll l).2 = none ∧ ∃ t, termQ (lexAll l).1 = .ok t (lexAll l).1.length := by
  have hz : (parAt l (termQ (lexAll l).1)).2 = 0 := by
    unfold parseT at h
    by_cases h1 : (parAt l (termQ (lexAll l).1)).2 ≠ 0
    · rw [if_pos h1] at h; exact absurd h h1
    · exact Decidable.of_not_not h1
  unfold parAt at hz
  by_cases h4 : 4000 < l.length
  · rw [if_pos h4] at hz; cases hz
  · rw [if_neg h4] at hz
    refine ⟨by omega, ?_⟩
    cases h2 : (lexAll l).2 with
    | some p => rw [h2] at hz; cases hz
    | none =>
      rw [h2] at hz
      refine ⟨rfl, ?_⟩
      cases hr : termQ (lexAll l).1 with
      | out => exact absurd hr (termQ_ne _)
      | bad p ov => rw [hr] at hz; cases ov <;> cases hz
      | ok t p =>
        rw [hr] at hz
        dsimp only at hz
        by_cases h3 : p = (lexAll l).1.length
        · exact ⟨t, by rw [h3]⟩
        · rw [if_neg h3] at hz; cases hz
theorem parseT_cut {l : List Nat} (h : (parseT l).2.2 = 0) {j : Nat} {x : Wd} (hx : (lexAll l).1[j]? = some x) : parseT (l.take x.pos) = (zeroTm, x.pos, 11) := by
  obtain ⟨h4, h2, t, ht⟩ := parseT_ok h
  have hj := (List.getElem?_eq_some_iff.1 hx).1
  have hla := lexAll_take hx
  obtain ⟨c, hc, -⟩ := (lexAll_pos l).1 x (List.mem_of_getElem? hx)
  have hxl := (List.getElem?_eq_some_iff.1 hc).1
  have htq := termQ_cut ht hj
  have hlen : (l.take x.pos).length = x.pos := by rw [List.length_take]; omega
  have hpa : parAt (l.take x.pos) (termQ (lexAll (l.take x.pos)).1) = (x.pos, 11) := by
    unfold parAt
    rw [if_neg (by omega), hla]
    dsimp only
    rw [htq]
    show (endPos (l.take x.pos) j, (11 : Int)) = _
    unfold endPos
    rw [hla, List.getD_eq_getElem?_getD, List.getElem?_eq_none (by rw [List.length_take]; omega), hlen]
    rfl
  unfold parseT
  rw [hpa, if_pos (by simp)]
theorem walk_pcuts (l : List Nat) (k : Int) (w : World) (hl : ∀ x ∈ l, x < 256) (hlen : l.length ≤ 9223372036854775807) (hk : I64 k) :
    Calls Try.prog 10 #[.string (strOf l), .int .i64 k] w fun e w' => e = .returned (.bool true) ∧ Below w.heap.size w w' := by
  have bel := Below.refl w.heap.size w
  have hps := parse_any l w hl hlen
  refine Calls.start 66 Try.func10 rfl rfl rfl ?_
  refine Cd.seq ?_
  refine Cd.region ?_
  refine Seq.val (Runs.assign rfl rfl) rfl rfl rfl ?_
  refine Seq.nil ?_
  refine Post.weak (F' := [(0, _), (1, _), (4, _)]) ⟨rfl, rfl, rfl, trivial⟩ ?_
  refine Post.then_ ?_
  refine Cd.seq ?_
  refine Cd.region ?_
  refine Seq.val (Runs.move rfl rfl) rfl rfl rfl ?_
  refine Seq.call (Enters.func rfl rfl rfl (run_enter Try.func33 (by kernel_rfl) rfl)) rfl rfl rfl (hps) ?_
  rintro en w5 ⟨hb5, v, S, rfl, hrep, hS⟩
  obtain ⟨er, her⟩ : ∃ er, (parseT l).2.2 = er := ⟨_, rfl⟩
  rw [her]
  obtain ⟨A, c, A', c', rfl⟩ := hrep.form
  refine ⟨_, rfl, ?_⟩
  have bel5 := hb5
  clear bel
  have bel := Below.refl w5.heap.size w5
  refine Seq.val (Runs.move rfl rfl) rfl rfl rfl ?_
  refine Seq.val (Runs.extract rfl rfl rfl) rfl rfl rfl ?_
  refine Seq.val (Runs.extract rfl rfl rfl) rfl rfl rfl ?_
  refine Seq.val (Runs.extract rfl rfl rfl) rfl rfl rfl ?_
  refine Seq.alloc rfl (run_zero zero_api_Term) rfl rfl rfl ?_
  intro g5 w1 n5
  have e5 := Nat.le_trans bel.size n5.ge
  replace bel := bel.step n5.below
  have k5 := n5.blk
  refine Seq.storeN rfl rfl rfl rfl (m := 4) (by kernel_rfl) rfl (by repeat' first | exact trivial | apply And.intro | rfl | assumption) k5 (by simp [Value.cells]) rfl rfl ?_
  intro w2 pw2
  replace bel := bel.put k5 pw2 e5
  replace k5 := pw2.blk
  refine Seq.val (Runs.assign rfl rfl) rfl rfl rfl ?_
  refine Seq.val (Runs.assign rfl rfl) rfl rfl rfl ?_
  refine Seq.nil ?_
  refine Post.weak (F' := [(0, _), (1, _), (4, _), (7, _)]) ⟨rfl, rfl, rfl, rfl, trivial⟩ ?_
  refine Post.then_ ?_
  refine Cd.seq ?_
  refine Cd.region ?_
  refine Seq.val (Runs.move rfl rfl) rfl rfl rfl ?_
  refine Seq.call (Enters.func rfl rfl rfl (run_enter Try.func19 (by kernel_rfl) rfl)) rfl rfl rfl (words_any l _ hl hlen) ?_
  rintro en w6 ⟨hb6, ⟨h1, rfl⟩ | ⟨h1, p, h2, rfl⟩ | ⟨h4, h2, u, rfl, own⟩⟩
  · have hne : er ≠ 0 := fun e => by have := (parseT_ok (her.trans e)).1; omega
    refine ⟨_, rfl, ?_⟩
    replace bel := bel.step hb6
    replace k5 := k5.step hb6
    refine Seq.val (Runs.move rfl rfl) rfl rfl rfl ?_
    refine Seq.val (Runs.extract rfl rfl rfl) rfl rfl rfl ?_
    refine Seq.val (Runs.extract rfl rfl rfl) rfl rfl rfl ?_
    refine Seq.val (Runs.extract rfl rfl rfl) rfl rfl rfl ?_
    refine Seq.val (Runs.assign rfl rfl) rfl rfl rfl ?_
    refine Seq.val (Runs.assign rfl rfl) rfl rfl rfl ?_
    refine Seq.val (Runs.assign rfl rfl) rfl rfl rfl ?_
    refine Seq.nil ?_
    refine Post.weak (F' := [(0, _), (1, _), (4, _), (7, _), (8, _)]) ⟨rfl, rfl, rfl, rfl, rfl, trivial⟩ ?_
    refine Post.then_ ?_
    refine Cd.seq ?_
    refine Cd.seq ?_
    refine Cd.region ?_
    refine Seq.val (Runs.move rfl rfl) rfl rfl rfl ?_
    refine Seq.val (Runs.neqI rfl rfl rfl) rfl rfl rfl ?_
    refine Seq.val (Runs.move rfl rfl) rfl rfl rfl ?_
    refine SeqC.start ?_
    refine SeqC.open rfl rfl rfl rfl rfl rfl rfl (fun hcx => Runs.move rfl rfl) ?_
    refine SeqC.next rfl rfl rfl rfl rfl rfl rfl (fun hcx => Runs.len rfl rfl Try.underlying40) ?_
    refine SeqC.next rfl rfl rfl rfl rfl rfl rfl (fun hcx => Runs.lss rfl rfl rfl) ?_
    refine SeqC.or rfl rfl rfl rfl rfl rfl rfl ?_
    refine Seq.nil ?_
    refine Post.weak (F' := [(0, _), (1, _), (4, _), (7, _), (8, _), (33, _)]) ⟨rfl, rfl, rfl, rfl, rfl, rfl, trivial⟩ ?_
    refine Post.then_ ?_
    refine Cd.condT rfl (by simp [hne]) ?_
    refine Cd.seq ?_
    refine Cd.region ?_
    refine Seq.call (Enters.func rfl rfl rfl (run_enter Try.func35 (by kernel_rfl) rfl)) rfl rfl rfl (awake19_any _) ?_
    rintro e w9 ⟨rfl, hb9⟩
    refine ⟨_, rfl, ?_⟩
    replace bel := bel.step hb9
    replace k5 := k5.step hb9
    refine Seq.val (Runs.assign rfl rfl) rfl rfl rfl ?_
    refine Seq.nil ?_
    refine Post.weak (F' := [(0, _), (1, _), (4, _), (7, _), (8, _), (33, _)]) ⟨rfl, rfl, rfl, rfl, rfl, rfl, trivial⟩ ?_
    refine Post.then_ ?_
    refine Cd.ret ?_
    refine Post.then_ret ?_
    refine Post.end1 rfl rfl (.inl rfl) ?_
    exact ⟨rfl, bel5.trans (bel.mono bel5.size)⟩
  · have hne : er ≠ 0 := fun e => by have := (parseT_ok (her.trans e)).2.1; rw [h2] at this; cases this
    refine ⟨_, rfl, ?_⟩
    replace bel := bel.step hb6
    replace k5 := k5.step hb6
    refine Seq.val (Runs.move rfl rfl) rfl rfl rfl ?_
    refine Seq.val (Runs.extract rfl rfl rfl) rfl rfl rfl ?_
    refine Seq.val (Runs.extract rfl rfl rfl) rfl rfl rfl ?_
    refine Seq.val (Runs.extract rfl rfl rfl) rfl rfl rfl ?_
    refine Seq.val (Runs.assign rfl rfl) rfl rfl rfl ?_
    refine Seq.val (Runs.assign rfl rfl) rfl rfl rfl ?_
    refine Seq.val (Runs.assign rfl rfl) rfl rfl rfl ?_
    refine Seq.nil ?_
    refine Post.weak (F' := [(0, _), (1, _), (4, _), (7, _), (8, _)]) ⟨rfl, rfl, rfl, rfl, rfl, trivial⟩ ?_
    refine Post.then_ ?_
    refine Cd.seq ?_
    refine Cd.seq ?_
    refine Cd.region ?_
    refine Seq.val (Runs.move rfl rfl) rfl rfl rfl ?_
    refine Seq.val (Runs.neqI rfl rfl rfl) rfl rfl rfl ?_
    refine Seq.val (Runs.move rfl rfl) rfl rfl rfl ?_
    refine SeqC.start ?_
    refine SeqC.open rfl rfl rfl rfl rfl rfl rfl (fun hcx => Runs.move rfl rfl) ?_
    refine SeqC.next rfl rfl rfl rfl rfl rfl rfl (fun hcx => Runs.len rfl rfl Try.underlying40) ?_
    refine SeqC.next rfl rfl rfl rfl rfl rfl rfl (fun hcx => Runs.lss rfl rfl rfl) ?_
    refine SeqC.or rfl rfl rfl rfl rfl rfl rfl ?_
    refine Seq.nil ?_
    refine Post.weak (F' := [(0, _), (1, _), (4, _), (7, _), (8, _), (33, _)]) ⟨rfl, rfl, rfl, rfl, rfl, rfl, trivial⟩ ?_
    refine Post.then_ ?_
    refine Cd.condT rfl (by simp [hne]) ?_
    refine Cd.seq ?_
    refine Cd.region ?_
    refine Seq.call (Enters.func rfl rfl rfl (run_enter Try.func35 (by kernel_rfl) rfl)) rfl rfl rfl (awake19_any _) ?_
    rintro e w9 ⟨rfl, hb9⟩
    refine ⟨_, rfl, ?_⟩
    replace bel := bel.step hb9
    replace k5 := k5.step hb9
    refine Seq.val (Runs.assign rfl rfl) rfl rfl rfl ?_
    refine Seq.nil ?_
    refine Post.weak (F' := [(0, _), (1, _), (4, _), (7, _), (8, _), (33, _)]) ⟨rfl, rfl, rfl, rfl, rfl, rfl, trivial⟩ ?_
    refine Post.then_ ?_
    refine Cd.ret ?_
    refine Post.then_ret ?_
    refine Post.end1 rfl rfl (.inl rfl) ?_
    exact ⟨rfl, bel5.trans (bel.mono bel5.size)⟩
  obtain ⟨D, cap, rfl, -⟩ := own.reads
  refine ⟨_, rfl, ?_⟩
  by_cases hc : er ≠ 0 ∨ (lexAll l).1.length < 2
  · skip
    replace bel := bel.step hb6
    replace k5 := k5.step hb6
    refine Seq.val (Runs.move rfl rfl) rfl rfl rfl ?_
    refine Seq.val (Runs.extract rfl rfl rfl) rfl rfl rfl ?_
    refine Seq.val (Runs.extract rfl rfl rfl) rfl rfl rfl ?_
    refine Seq.val (Runs.extract rfl rfl rfl) rfl rfl rfl ?_
    refine Seq.val (Runs.assign rfl rfl) rfl rfl rfl ?_
    refine Seq.val (Runs.assign rfl rfl) rfl rfl rfl ?_
    refine Seq.val (Runs.assign rfl rfl) rfl rfl rfl ?_
    refine Seq.nil ?_
    refine Post.weak (F' := [(0, _), (1, _), (4, _), (7, _), (8, _)]) ⟨rfl, rfl, rfl, rfl, rfl, trivial⟩ ?_
    refine Post.then_ ?_
    refine Cd.seq ?_
    refine Cd.seq ?_
    refine Cd.region ?_
    refine Seq.val (Runs.move rfl rfl) rfl rfl rfl ?_
    refine Seq.val (Runs.neqI rfl rfl rfl) rfl rfl rfl ?_
    refine Seq.val (Runs.move rfl rfl) rfl rfl rfl ?_
    refine SeqC.start ?_
    refine SeqC.open rfl rfl rfl rfl rfl rfl rfl (fun hcx => Runs.move rfl rfl) ?_
    refine SeqC.next rfl rfl rfl rfl rfl rfl rfl (fun hcx => Runs.len rfl rfl Try.underlying40) ?_
    refine SeqC.next rfl rfl rfl rfl rfl rfl rfl (fun hcx => Runs.lss rfl rfl rfl) ?_
    refine SeqC.or rfl rfl rfl rfl rfl rfl rfl ?_
    refine Seq.nil ?_
    refine Post.weak (F' := [(0, _), (1, _), (4, _), (7, _), (8, _), (33, _)]) ⟨rfl, rfl, rfl, rfl, rfl, rfl, trivial⟩ ?_
    refine Post.then_ ?_
    refine Cd.condT rfl (by rcases hc with hc | hc <;> simp [hc] <;> omega) ?_
    refine Cd.seq ?_
    refine Cd.region ?_
    refine Seq.call (Enters.func rfl rfl rfl (run_enter Try.func35 (by kernel_rfl) rfl)) rfl rfl rfl (awake19_any _) ?_
    rintro e w9 ⟨rfl, hb9⟩
    refine ⟨_, rfl, ?_⟩
    replace bel := bel.step hb9
    replace k5 := k5.step hb9
    refine Seq.val (Runs.assign rfl rfl) rfl rfl rfl ?_
    refine Seq.nil ?_
    refine Post.weak (F' := [(0, _), (1, _), (4, _), (7, _), (8, _), (33, _)]) ⟨rfl, rfl, rfl, rfl, rfl, rfl, trivial⟩ ?_
    refine Post.then_ ?_
    refine Cd.ret ?_
    refine Post.then_ret ?_
    refine Post.end1 rfl rfl (.inl rfl) ?_
    exact ⟨rfl, bel5.trans (bel.mono bel5.size)⟩
  obtain ⟨he0, hn2⟩ : er = 0 ∧ 2 ≤ (lexAll l).1.length := by omega
  subst he0
  have hcnt := lexAll_cnt l
  have hcut := fun j x hx => parseT_cut her (j := j) (x := x) hx
  have hxp := (lexAll_pos l).1
  generalize (lexAll l).1 = ws at *
  obtain ⟨u, hu⟩ : ∃ u : Nat, IntKind.u64.wrap k = (u : Int) := ⟨(k % 18446744073709551616).toNat, by rw [wrap_u64]; omega⟩
  obtain ⟨m, hm⟩ : ∃ m : Nat, (u : Int) % ((ws.length : Int) - 1) = (m : Int) := ⟨((u : Int) % ((ws.length : Int) - 1)).toNat, by have := Int.emod_nonneg (u : Int) (b := (ws.length : Int) - 1) (by omega); omega⟩
  have hml : (m : Int) < (ws.length : Int) - 1 := by rw [← hm]; exact Int.emod_lt_of_pos _ (by omega)
  obtain ⟨x, hx⟩ : ∃ x, ws[m + 1]? = some x := ⟨_, List.getElem?_eq_getElem (by omega)⟩
  obtain ⟨g, cap', cur, hv, -, kg, hcur⟩ := own.form (by omega)
  injection hv with hv1 _ hv3
  subst hv1
  have hc3 := hcur _ _ (wdCells_at hx).2.2.2
  obtain ⟨ch, hch, -⟩ := hxp x (List.mem_of_getElem? hx)
  have hxl := (List.getElem?_eq_some_iff.1 hch).1
  have hct := hcut _ _ hx
  replace bel := bel.step hb6
  replace k5 := k5.step hb6
  refine Seq.val (Runs.move rfl rfl) rfl rfl rfl ?_
  refine Seq.val (Runs.extract rfl rfl rfl) rfl rfl rfl ?_
  refine Seq.val (Runs.extract rfl rfl rfl) rfl rfl rfl ?_
  refine Seq.val (Runs.extract rfl rfl rfl) rfl rfl rfl ?_
  refine Seq.val (Runs.assign rfl rfl) rfl rfl rfl ?_
  refine Seq.val (Runs.assign rfl rfl) rfl rfl rfl ?_
  refine Seq.val (Runs.assign rfl rfl) rfl rfl rfl ?_
  refine Seq.nil ?_
  refine Post.weak (F' := [(0, _), (1, _), (4, _), (7, _), (8, _)]) ⟨rfl, rfl, rfl, rfl, rfl, trivial⟩ ?_
  refine Post.then_ ?_
  refine Cd.seq ?_
  refine Cd.seq ?_
  refine Cd.region ?_
  refine Seq.val (Runs.move rfl rfl) rfl rfl rfl ?_
  refine Seq.val (Runs.neqI rfl rfl rfl) rfl rfl rfl ?_
  refine Seq.val (Runs.move rfl rfl) rfl rfl rfl ?_
  refine SeqC.start ?_
  refine SeqC.open rfl rfl rfl rfl rfl rfl rfl (fun hcx => Runs.move rfl rfl) ?_
  refine SeqC.next rfl rfl rfl rfl rfl rfl rfl (fun hcx => Runs.len rfl rfl Try.underlying40) ?_
  refine SeqC.next rfl rfl rfl rfl rfl rfl rfl (fun hcx => Runs.lss rfl rfl rfl) ?_
  refine SeqC.or rfl rfl rfl rfl rfl rfl rfl ?_
  refine Seq.nil ?_
  refine Post.weak (F' := [(0, _), (1, _), (4, _), (7, _), (8, _), (33, _)]) ⟨rfl, rfl, rfl, rfl, rfl, rfl, trivial⟩ ?_
  refine Post.then_ ?_
  refine Cd.condF rfl (by simp; omega) ?_
  refine Cd.skip ?_
  refine Post.then_ ?_
  refine Cd.seq ?_
  refine Cd.region ?_
  refine Seq.val (Runs.move rfl rfl) rfl rfl rfl ?_
  refine Seq.val (Runs.move rfl rfl) rfl rfl rfl ?_
  refine Seq.val (Runs.convI rfl rfl Try.underlying3 Try.underlying63 hu) rfl rfl rfl ?_
  refine Seq.val (Runs.move rfl rfl) rfl rfl rfl ?_
  refine Seq.val (Runs.len rfl rfl Try.underlying40) rfl rfl rfl ?_
  refine Seq.val (Runs.subI rfl rfl rfl (by omega) (by omega)) rfl rfl rfl ?_
  refine Seq.val (Runs.convI rfl rfl Try.underlying3 Try.underlying63 (wrapU (by omega) (by omega))) rfl rfl rfl ?_
  refine Seq.val ((Runs.remN rfl rfl rfl (by omega) (by omega)).cast (congrArg (Value.int .u64) hm)) rfl rfl rfl ?_
  refine Seq.val (Runs.convI rfl rfl Try.underlying63 Try.underlying3 (wrapI (by omega) (by omega))) rfl rfl rfl ?_
  refine Seq.val (Runs.addI rfl rfl rfl (by omega) (by omega)) rfl rfl rfl ?_
  refine Seq.val (Runs.indexBN rfl rfl rfl Try.underlying40 (s := 4) (by kernel_rfl) (j := m + 1) (by omega) (by omega)) rfl rfl rfl ?_
  refine Seq.val (Runs.fieldP 3 rfl rfl Try.underlying50 rfl (by kernel_rfl)) rfl rfl rfl ?_
  refine Seq.val (Runs.loadB rfl rfl Try.underlying3 rfl kg hc3) rfl rfl rfl ?_
  refine Seq.val (Runs.assign rfl rfl) rfl rfl rfl ?_
  refine Seq.nil ?_
  refine Post.weak (F' := [(0, _), (1, _), (4, _), (7, _), (8, _), (11, _), (33, _)]) ⟨rfl, rfl, rfl, rfl, rfl, rfl, rfl, trivial⟩ ?_
  refine Post.then_ ?_
  refine Cd.seq ?_
  refine Cd.region ?_
  refine Seq.val (Runs.move rfl rfl) rfl rfl rfl ?_
  refine Seq.val (Runs.move rfl rfl) rfl rfl rfl ?_
  refine Seq.val (Runs.sliceTo rfl rfl rfl Try.underlying9 (j := x.pos) rfl (by omega)) rfl rfl rfl ?_
  have hps2 := fun W => parse_any (l.take x.pos) W (take_lt hl _) (by rw [List.length_take]; omega)
  rw [hct] at hps2
  refine Seq.call (Enters.func rfl rfl rfl (run_enter Try.func33 (by kernel_rfl) rfl)) rfl rfl rfl (hps2 _) ?_
  rintro en w8 ⟨hb8, v8, S8, rfl, hrep8, hS8⟩
  obtain ⟨A8, c8, A8', c8', rfl⟩ := hrep8.form
  refine ⟨_, rfl, ?_⟩
  replace bel := bel.step hb8
  replace k5 := k5.step hb8
  refine Seq.val (Runs.move rfl rfl) rfl rfl rfl ?_
  refine Seq.val (Runs.extract rfl rfl rfl) rfl rfl rfl ?_
  refine Seq.val (Runs.extract rfl rfl rfl) rfl rfl rfl ?_
  refine Seq.val (Runs.extract rfl rfl rfl) rfl rfl rfl ?_
  refine Seq.alloc rfl (run_zero zero_api_Term) rfl rfl rfl ?_
  intro g12 w3 n12
  have e12 := Nat.le_trans bel.size n12.ge
  have l12 := Nat.lt_of_lt_of_le k5.lt n12.ge
  replace bel := bel.step n12.below
  replace k5 := k5.step n12.below
  have k12 := n12.blk
  refine Seq.storeN rfl rfl rfl rfl (m := 4) (by kernel_rfl) rfl (by repeat' first | exact trivial | apply And.intro | rfl | assumption) k12 (by simp [Value.cells]) rfl rfl ?_
  intro w4 pw4
  replace bel := bel.put k12 pw4 e12
  replace k5 := k5.put pw4 (by omega)
  replace k12 := pw4.blk
  refine Seq.val (Runs.assign rfl rfl) rfl rfl rfl ?_
  refine Seq.val (Runs.assign rfl rfl) rfl rfl rfl ?_
  refine Seq.nil ?_
  refine Post.weak (F' := [(0, _), (1, _), (4, _), (7, _), (8, _), (11, _), (13, _), (14, _), (33, _)]) ⟨rfl, rfl, rfl, rfl, rfl, rfl, rfl, rfl, rfl, trivial⟩ ?_
  refine Post.then_ ?_
  refine Cd.seq ?_
  refine Cd.region ?_
  refine Seq.val (Runs.move rfl rfl) rfl rfl rfl ?_
  refine Seq.val (Runs.eqlI rfl rfl rfl) rfl rfl rfl ?_
  refine Seq.val (Runs.move rfl rfl) rfl rfl rfl ?_
  refine SeqC.start ?_
  refine SeqC.open rfl rfl rfl rfl rfl rfl rfl (fun hcx => Runs.move rfl rfl) ?_
  refine SeqC.next rfl rfl rfl rfl rfl rfl rfl (fun hcx => Runs.move rfl rfl) ?_
  refine SeqC.next rfl rfl rfl rfl rfl rfl rfl (fun hcx => Runs.eqlI rfl rfl rfl) ?_
  refine SeqC.and rfl rfl rfl rfl rfl rfl rfl ?_
  refine Seq.val (Runs.move rfl rfl) rfl rfl rfl ?_
  refine SeqC.start ?_
  refine SeqC.openC rfl rfl rfl rfl rfl rfl rfl (fun hcx => Enters.func rfl rfl rfl (run_enter Try.func35 (by kernel_rfl) rfl)) (fun hcx => awake19_any _) ?_
  intro w5 hw5
  replace bel := bel.step hw5
  replace k5 := k5.step hw5
  replace k12 := k12.step hw5
  refine SeqC.and rfl rfl rfl rfl rfl rfl rfl ?_
  refine Seq.val (Runs.assign rfl rfl) rfl rfl rfl ?_
  refine Seq.nil ?_
  refine Post.weak (F' := [(0, _), (1, _), (4, _), (7, _), (8, _), (11, _), (13, _), (14, _), (33, _)]) ⟨rfl, rfl, rfl, rfl, rfl, rfl, rfl, rfl, rfl, trivial⟩ ?_
  refine Post.then_ ?_
  refine Cd.ret ?_
  refine Post.end1 rfl rfl (.inl rfl) ?_
  exact ⟨ret1 (bool_eq (by simp)), bel5.trans (bel.mono bel5.size)⟩

namespace ParseCuts
theorem own : ownKnob Try.prog.godebug = none := by kernel_rfl
theorem laidOut : laidOutB Try.prog = true := by kernel_rfl
set_option maxRecDepth 100000 in
theorem lifted (os : Os) (started : os.Started) (H : Type) (enc : TypeId × Value → H) :
    ReturnsInHanded {} Try.checked os 10 .any (Rows.parseCutsSpec.pre6 enc Try.prog Try.f10 Rows.parseCutsRow.domain false) (Rows.parseCutsSpec.post enc Try.prog Try.f10 false true false false) := by
  refine returnsInHanded_of_change (C := Try.checked) own started (by kernel_rfl) Try.func10
    (ChangeSpec.witness6 (enc := enc) (C := Try.checked) false ⟨#[], #[.string { data := #[] }, .int .i64 0], []⟩ 8 (by kernel_rfl) (by kernel_rfl) (by kernel_rfl) (by kernel_rfl)) ?_
  intro W base args ds gs before hval0 hW hcnd _
  have hval : ∀ (j : Nat) t v, Try.f10.params[j]? = some t → args[j]? = some v → Value.okWide Try.prog W .any base t v := hval0
  have hW' := hW
  obtain ⟨p, q, hA0, hV, rfl, hfz, hnd⟩ := hW
  have hA : DataW.TrodAll enc Try.prog W 0 (fun _ => true) true Try.f10.params.toList args.toList ds p := hA0
  rw [Try.params10] at hA hval
  obtain ⟨v0, vs0, d0, ds0, p0, q0, hargs, rfl, rfl, h0, r0⟩ := trodAll_cons hA
  obtain ⟨v1, vs1, d1, ds1, p1, q1, rfl, rfl, rfl, h1, r1⟩ := trodAll_cons r0
  obtain ⟨rfl, rfl, rfl⟩ := trodAll_nil r1
  obtain rfl : args = #[v0, v1] := by cases args; simp_all
  obtain ⟨rfl, rfl⟩ := trodVars_none hV
  have k0 := h0
  have lt0 : ∀ x ∈ p0, x.block < W.heap.size := by obtain ⟨m, hm⟩ := k0; exact DataW.trod_lt m _ _ _ hm
  have k1 := h1
  have lt1 : ∀ x ∈ p1, x.block < W.heap.size := by obtain ⟨m, hm⟩ := k1; exact DataW.trod_lt m _ _ _ hm
  obtain ⟨l, rfl, hl, hlen⟩ := open_str Try.underlying9 (hval 0 _ v0 rfl rfl)
  obtain ⟨k, rfl, hk⟩ := open_i64 Try.underlying3 (hval 1 _ v1 rfl rfl)
  clear hA0 hval0
  refine (walk_pcuts l k W hl hlen hk).mono fun e W' ⟨he, bel⟩ => ?_
  subst he
  exact ⟨_, rfl, _, _, _, [], _, [], hW', trodAll_mk1 (shut_bool Try.underlying4 _), (trodAll_cons_mk (Below.trod laidOut (by kernel_rfl) (of_decide_eq_true (by kernel_rfl)) k0 bel lt0) (trodAll_cons_mk (Below.trod laidOut (by kernel_rfl) (of_decide_eq_true (by kernel_rfl)) k1 bel lt1) trodAll_mk0)), rfl, bel.frame _, fun h => by cases h⟩

theorem over : Rows.parseCutsRow.holds Try.pinned (OpenSpec.ofChange Rows.parseCutsSpec) :=
  OpenClaim.holds_of_wide 10 Try.f10 rfl rfl rfl rfl rfl rfl rfl ⟨rfl, rfl, rfl, rfl, rfl⟩ rfl rfl rfl rfl rfl (by kernel_rfl) Try.func10 (by kernel_rfl)
    (of_decide_eq_true (by kernel_rfl)) (by unfold Func.isWrapper; first | (rw [if_pos (by decide +kernel)]; kernel_rfl) | (rw [if_neg (by decide +kernel)]; exact ⟨rfl, rfl⟩))
    (fun os started H enc _ => lifted os started H enc)

theorem proved : Rows.ParseCutsSaid := over

end ParseCuts
end Go.Proofs.Ytijaldpmpjapiaa

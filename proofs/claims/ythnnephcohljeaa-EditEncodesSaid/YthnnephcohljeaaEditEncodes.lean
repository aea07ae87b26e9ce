/-
  EditEncodes: any edit's bytes, or that it can't be laid: the statement returns true. No condition.
-/
import Derived.Test.YthnnephcohljeaaEditI
namespace Go.Proofs.Ythnnephcohljeaa
open Go.ChangeShapes Go.WideShapes Go.ChangeAt Go.Deep Go.RowKit

set_option maxRecDepth 100000 in
theorem walk_encodes (lg nx sq : Int) (A A' : Option Addr) (n c n' c' : Nat) (drop : List Int) (add : List Fl) (w : World) (hr : Reads w w.heap.size 1 A n (DI drop)) (hr' : Reads w w.heap.size 6 A' n' (fcs add)) (i1 : I64 lg) (i2 : I64 nx) (i3 : I64 sq) (i4 : ∀ x ∈ drop, I64 x) (i5 : ∀ f ∈ add, Fl.rng f) :
    Calls Try.prog 4 #[.agg #[.int .i64 lg, .int .i64 nx, .int .i64 sq, .slice A n c, .slice A' n' c']] w fun e w' => e = .returned (.bool true) ∧ Below w.heap.size w w' := by
  have bel := Below.refl w.heap.size w
  have hfl := hr'.fl_len
  have hdl : drop.length = n := by have := hr.1; simpa [DI] using this
  refine Calls.start 44 Try.func4 rfl rfl rfl ?_
  refine Cd.seq ?_
  refine Cd.region ?_
  refine Seq.box rfl rfl rfl rfl rfl ?_
  intro g1 w1 n1
  have e1 := Nat.le_trans bel.size n1.ge
  replace bel := bel.step n1.below
  have k1 := n1.blk
  refine Seq.val (Runs.assign rfl rfl) rfl rfl rfl ?_
  refine Seq.nil ?_
  refine Post.weak (F' := [(0, _), (1, _), (2, _)]) ⟨rfl, rfl, rfl, trivial⟩ ?_
  refine Post.then_ ?_
  refine Cd.seq ?_
  refine Cd.seq ?_
  refine Cd.region ?_
  refine Seq.val (Runs.fieldB 4 rfl rfl Try.underlying32 rfl (by kernel_rfl)) rfl rfl rfl ?_
  refine Seq.val (Runs.loadB rfl rfl Try.underlying25 rfl k1 rfl) rfl rfl rfl ?_
  refine Seq.call (Enters.func rfl rfl rfl (run_enter Try.func8 (by kernel_rfl) rfl)) rfl rfl rfl (great_any _ n' c' A' add _ (hr'.below bel) bel.size) ?_
  rintro e w5 ⟨⟨b, rfl, hb⟩, hb5⟩
  refine ⟨_, rfl, ?_⟩
  replace bel := bel.step hb5
  replace k1 := k1.step hb5
  refine Seq.val (Runs.move rfl rfl) rfl rfl rfl ?_
  refine SeqC.start ?_
  refine SeqC.open rfl rfl rfl rfl rfl rfl rfl (fun hcx => Runs.fieldB 3 rfl rfl Try.underlying32 rfl (by kernel_rfl)) ?_
  refine SeqC.next rfl rfl rfl rfl rfl rfl rfl (fun hcx => Runs.loadB rfl rfl Try.underlying30 rfl k1 rfl) ?_
  refine SeqC.next rfl rfl rfl rfl rfl rfl rfl (fun hcx => Runs.len rfl rfl Try.underlying30) ?_
  refine SeqC.next rfl rfl rfl rfl rfl rfl rfl (fun hcx => Runs.gtr rfl rfl rfl) ?_
  refine SeqC.or rfl rfl rfl rfl rfl rfl rfl ?_
  refine Seq.nil ?_
  refine Post.weak (F' := [(0, _), (1, _), (2, _), (13, _)]) ⟨rfl, rfl, rfl, rfl, trivial⟩ ?_
  refine Post.then_ ?_
  refine Cd.cond rfl (fun h => ?_) (fun h => ?_)
  · skip
    refine Cd.seq ?_
    refine Cd.region ?_
    refine Seq.call (Enters.func rfl rfl rfl (run_enter Try.func9 (by kernel_rfl) rfl)) rfl rfl rfl (awake12_any _) ?_
    rintro e w6 ⟨rfl, hb6⟩
    refine ⟨_, rfl, ?_⟩
    replace bel := bel.step hb6
    replace k1 := k1.step hb6
    refine Seq.val (Runs.assign rfl rfl) rfl rfl rfl ?_
    refine Seq.nil ?_
    refine Post.weak (F' := [(0, _), (1, _), (2, _), (13, _)]) ⟨rfl, rfl, rfl, rfl, trivial⟩ ?_
    refine Post.then_ ?_
    refine Cd.ret ?_
    refine Post.then_ret ?_
    refine Post.end1 rfl rfl (.inl rfl) ?_
    exact ⟨rfl, bel⟩
  · simp only [Bool.or_eq_false_iff, decide_eq_false_iff_not] at h
    have hn' := hb h.1
    refine Cd.skip ?_
    refine Post.then_ ?_
    refine Cd.seq ?_
    refine Cd.region ?_
    refine Seq.val (Runs.loadW rfl rfl Try.underlying32 rfl k1 (m := 5) (by kernel_rfl) rfl) rfl rfl rfl ?_
    refine Seq.call (Enters.func rfl rfl rfl (run_enter Try.func13 (by kernel_rfl) rfl)) rfl rfl rfl (of_any lg nx sq _ n n' c c' A A' add _ (hr'.below bel) bel.size hn') ?_
    rintro e w6 ⟨hb6, A2, c2, rfl, own⟩
    refine ⟨_, rfl, ?_⟩
    replace bel := bel.step hb6
    replace k1 := k1.step hb6
    have bel0 := bel
    obtain ⟨A3, c3, hv3, hrd⟩ := own.reads
    injection hv3 with hv4 _ hv5
    subst hv4 hv5
    cases hlaid : laidB lg nx sq drop add with
    | false =>
      have hen := encode_not lg nx sq w6.heap.size A A2 c c2 drop add _ (by rw [hdl]; exact (hr.below bel).more bel.size) (by rw [hfl]; exact hrd) (Nat.le_refl _) hlaid
      rw [hdl, hfl] at hen
      refine Seq.call (Enters.func rfl rfl rfl (run_enter Try.func12 (by kernel_rfl) rfl)) rfl rfl rfl (hen) ?_
      rintro e w7 ⟨rfl, hb7⟩
      refine ⟨_, rfl, ?_⟩
      replace bel := bel.step hb7
      replace k1 := k1.step hb7
      refine Seq.val (Runs.move rfl rfl) rfl rfl rfl ?_
      refine Seq.val (Runs.extract rfl rfl rfl) rfl rfl rfl ?_
      refine Seq.val (Runs.extract rfl rfl rfl) rfl rfl rfl ?_
      refine Seq.val (Runs.assign rfl rfl) rfl rfl rfl ?_
      refine Seq.val (Runs.assign rfl rfl) rfl rfl rfl ?_
      refine Seq.nil ?_
      refine Post.weak (F' := [(0, _), (1, _), (2, _), (3, _), (4, _), (13, _)]) ⟨rfl, rfl, rfl, rfl, rfl, rfl, trivial⟩ ?_
      refine Post.then_ ?_
      refine Cd.seq ?_
      refine Cd.seq ?_
      refine Cd.region ?_
      refine Seq.val (Runs.loadW rfl rfl Try.underlying32 rfl k1 (m := 5) (by kernel_rfl) rfl) rfl rfl rfl ?_
      have hlr := refLaid_any lg nx sq w.heap.size A A' c c' drop add _ (by rw [hdl]; exact hr.below bel) (by rw [hfl]; exact hr'.below bel) bel.size
      rw [hdl, hfl, hlaid] at hlr
      refine Seq.call (Enters.func rfl rfl rfl (run_enter Try.func14 (by kernel_rfl) rfl)) rfl rfl rfl (hlr) ?_
      rintro e w8 ⟨rfl, hb8⟩
      refine ⟨_, rfl, ?_⟩
      replace bel := bel.step hb8
      replace k1 := k1.step hb8
      refine Seq.val (Runs.not rfl rfl) rfl rfl rfl ?_
      refine Seq.nil ?_
      refine Post.weak (F' := [(0, _), (1, _), (2, _), (3, _), (4, _), (13, _), (23, _)]) ⟨rfl, rfl, rfl, rfl, rfl, rfl, rfl, trivial⟩ ?_
      refine Post.then_ ?_
      refine Cd.condT rfl rfl ?_
      refine Cd.seq ?_
      refine Cd.region ?_
      refine Seq.val (Runs.move rfl rfl) rfl rfl rfl ?_
      refine Seq.val (Runs.eqlS rfl rfl rfl) rfl rfl rfl ?_
      refine Seq.val (Runs.move rfl rfl) rfl rfl rfl ?_
      refine SeqC.start ?_
      refine SeqC.open rfl rfl rfl rfl rfl rfl rfl (fun hcx => Runs.move rfl rfl) ?_
      refine SeqC.next rfl rfl rfl rfl rfl rfl rfl (fun hcx => Runs.eqlI rfl rfl rfl) ?_
      refine SeqC.and rfl rfl rfl rfl rfl rfl rfl ?_
      refine Seq.val (Runs.move rfl rfl) rfl rfl rfl ?_
      refine SeqC.start ?_
      refine SeqC.openC rfl rfl rfl rfl rfl rfl rfl (fun hcx => Enters.func rfl rfl rfl (run_enter Try.func9 (by kernel_rfl) rfl)) (fun hcx => awake12_any _) ?_
      intro w2 hw2
      replace bel := bel.step hw2
      replace k1 := k1.step hw2
      refine SeqC.and rfl rfl rfl rfl rfl rfl rfl ?_
      refine Seq.val (Runs.assign rfl rfl) rfl rfl rfl ?_
      refine Seq.nil ?_
      refine Post.weak (F' := [(0, _), (1, _), (2, _), (3, _), (4, _), (13, _), (23, _)]) ⟨rfl, rfl, rfl, rfl, rfl, rfl, rfl, trivial⟩ ?_
      refine Post.then_ ?_
      refine Cd.ret ?_
      refine Post.then_ret ?_
      refine Post.end1 rfl rfl (.inl rfl) ?_
      exact ⟨ret1 (bool_eq (by simp)), bel⟩
    | true =>
      obtain ⟨ed, ea, hd9, hf9, hd1, hf1⟩ := laid_forms hlaid i4 i5
      obtain ⟨drop', hdr⟩ : ∃ d', d' = drop.map Int.toNat := ⟨_, rfl⟩
      obtain ⟨add', har⟩ : ∃ a', a' = add.map nFn := ⟨_, rfl⟩
      rw [← hdr] at ed hd9
      rw [← har] at ea hf9
      have hdl' : drop'.length = n := by rw [hdr, List.length_map, hdl]
      have hal' : add'.length = n' := by rw [har, List.length_map, hfl]
      subst ed ea
      have hen := encode_any lg nx sq w6.heap.size A A2 c c2 drop' add' _ (by rw [hdl']; exact (hr.below bel).more bel.size) (by rw [hal']; exact hrd) (Nat.le_refl _) i1 i2 i3 hd9 hf9 (by omega) (by omega) hlaid
      rw [hdl', hal'] at hen
      refine Seq.call (Enters.func rfl rfl rfl (run_enter Try.func12 (by kernel_rfl) rfl)) rfl rfl rfl (hen) ?_
      rintro e w7 ⟨rfl, hb7⟩
      refine ⟨_, rfl, ?_⟩
      replace bel := bel.step hb7
      replace k1 := k1.step hb7
      refine Seq.val (Runs.move rfl rfl) rfl rfl rfl ?_
      refine Seq.val (Runs.extract rfl rfl rfl) rfl rfl rfl ?_
      refine Seq.val (Runs.extract rfl rfl rfl) rfl rfl rfl ?_
      refine Seq.val (Runs.assign rfl rfl) rfl rfl rfl ?_
      refine Seq.val (Runs.assign rfl rfl) rfl rfl rfl ?_
      refine Seq.nil ?_
      refine Post.weak (F' := [(0, _), (1, _), (2, _), (3, _), (4, _), (13, _)]) ⟨rfl, rfl, rfl, rfl, rfl, rfl, trivial⟩ ?_
      refine Post.then_ ?_
      refine Cd.seq ?_
      refine Cd.seq ?_
      refine Cd.region ?_
      refine Seq.val (Runs.loadW rfl rfl Try.underlying32 rfl k1 (m := 5) (by kernel_rfl) rfl) rfl rfl rfl ?_
      have hlr := refLaid_any lg nx sq w.heap.size A A' c c' _ _ _ (by rw [hdl]; exact hr.below bel) (by rw [hfl]; exact hr'.below bel) bel.size
      rw [hdl, hfl, hlaid] at hlr
      refine Seq.call (Enters.func rfl rfl rfl (run_enter Try.func14 (by kernel_rfl) rfl)) rfl rfl rfl (hlr) ?_
      rintro e w8 ⟨rfl, hb8⟩
      refine ⟨_, rfl, ?_⟩
      replace bel := bel.step hb8
      replace k1 := k1.step hb8
      refine Seq.val (Runs.not rfl rfl) rfl rfl rfl ?_
      refine Seq.nil ?_
      refine Post.weak (F' := [(0, _), (1, _), (2, _), (3, _), (4, _), (13, _), (23, _)]) ⟨rfl, rfl, rfl, rfl, rfl, rfl, rfl, trivial⟩ ?_
      refine Post.then_ ?_
      refine Cd.condF rfl rfl ?_
      refine Cd.skip ?_
      refine Post.then_ ?_
      refine Cd.seq ?_
      refine Cd.region ?_
      refine Seq.val (Runs.move rfl rfl) rfl rfl rfl ?_
      refine Seq.val (Runs.loadW rfl rfl Try.underlying32 rfl k1 (m := 5) (by kernel_rfl) rfl) rfl rfl rfl ?_
      have hle := refEncode_any lg nx sq w.heap.size A A' c c' drop' add' _ (by rw [hdl']; exact hr.below bel) (by rw [hal']; exact hr'.below bel) bel.size i1 i2 i3 hd9 hf9 (by omega) (by omega)
      rw [hdl', hal'] at hle
      refine Seq.call (Enters.func rfl rfl rfl (run_enter Try.func15 (by kernel_rfl) rfl)) rfl rfl rfl (hle) ?_
      rintro e w9 ⟨rfl, hb9⟩
      refine ⟨_, rfl, ?_⟩
      replace bel := bel.step hb9
      replace k1 := k1.step hb9
      refine Seq.val (Runs.eqlS rfl rfl rfl) rfl rfl rfl ?_
      refine Seq.val (Runs.move rfl rfl) rfl rfl rfl ?_
      refine SeqC.start ?_
      refine SeqC.open rfl rfl rfl rfl rfl rfl rfl (fun hcx => Runs.move rfl rfl) ?_
      refine SeqC.next rfl rfl rfl rfl rfl rfl rfl (fun hcx => Runs.eqlI rfl rfl rfl) ?_
      refine SeqC.and rfl rfl rfl rfl rfl rfl rfl ?_
      refine Seq.val (Runs.move rfl rfl) rfl rfl rfl ?_
      refine SeqC.start ?_
      refine SeqC.openC rfl rfl rfl rfl rfl rfl rfl (fun hcx => Enters.func rfl rfl rfl (run_enter Try.func9 (by kernel_rfl) rfl)) (fun hcx => awake12_any _) ?_
      intro w2 hw2
      replace bel := bel.step hw2
      replace k1 := k1.step hw2
      refine SeqC.and rfl rfl rfl rfl rfl rfl rfl ?_
      refine Seq.val (Runs.assign rfl rfl) rfl rfl rfl ?_
      refine Seq.nil ?_
      refine Post.weak (F' := [(0, _), (1, _), (2, _), (3, _), (4, _), (13, _), (23, _)]) ⟨rfl, rfl, rfl, rfl, rfl, rfl, rfl, trivial⟩ ?_
      refine Post.then_ ?_
      refine Cd.ret ?_
      refine Post.end1 rfl rfl (.inl rfl) ?_
      exact ⟨ret1 (bool_eq (by simp)), bel⟩
namespace EditEncodes
theorem own : ownKnob Try.prog.godebug = none := by kernel_rfl
theorem laidOut : laidOutB Try.prog = true := by kernel_rfl
set_option maxRecDepth 100000 in
theorem lifted (os : Os) (started : os.Started) (H : Type) (enc : TypeId × Value → H) :
    ReturnsInHanded {} Try.checked os 4 .any (Rows.editEncodesSpec.pre6 enc Try.prog Try.f4 Rows.editEncodesRow.domain false) (Rows.editEncodesSpec.post enc Try.prog Try.f4 false true false false) := by
  refine returnsInHanded_of_change (C := Try.checked) own started (by kernel_rfl) Try.func4
    (ChangeSpec.witness6 (enc := enc) (C := Try.checked) false ⟨#[], #[.agg #[.int .i64 0, .int .i64 0, .int .i64 0, .slice none 0 0, .slice none 0 0]], []⟩ 8 (by kernel_rfl) (by kernel_rfl) (by kernel_rfl) (by kernel_rfl)) ?_
  intro W base args ds gs before hval0 hW hcnd _
  have hval : ∀ (j : Nat) t v, Try.f4.params[j]? = some t → args[j]? = some v → Value.okWide Try.prog W .any base t v := hval0
  have hW' := hW
  obtain ⟨p, q, hA0, hV, rfl, hfz, hnd⟩ := hW
  have hA : DataW.TrodAll enc Try.prog W 0 (fun _ => true) true Try.f4.params.toList args.toList ds p := hA0
  rw [Try.params4] at hA hval
  obtain ⟨v0, vs0, d0, ds0, p0, q0, hargs, rfl, rfl, h0, r0⟩ := trodAll_cons hA
  obtain ⟨rfl, rfl, rfl⟩ := trodAll_nil r0
  obtain rfl : args = #[v0] := by cases args; simp_all
  obtain ⟨rfl, rfl⟩ := trodVars_none hV
  have k0 := h0
  have lt0 : ∀ x ∈ p0, x.block < W.heap.size := by obtain ⟨m, hm⟩ := k0; exact DataW.trod_lt m _ _ _ hm
  obtain ⟨lg, nx, sq, A, n, c, A', n', c', drop, add, rfl, hr, hr', i1, i2, i3, i4, i5⟩ := open_edit (hval 0 _ v0 rfl rfl) h0
  clear hA0 hval0
  refine (walk_encodes lg nx sq A A' n c n' c' drop add W hr hr' i1 i2 i3 i4 i5).mono fun e W' ⟨he, bel⟩ => ?_
  subst he
  exact ⟨_, rfl, _, _, _, [], _, [], hW', trodAll_mk1 (shut_bool Try.underlying4 _), (trodAll_cons_mk (Below.trod laidOut (by kernel_rfl) (of_decide_eq_true (by kernel_rfl)) k0 bel lt0) trodAll_mk0), rfl, bel.frame _, fun h => by cases h⟩

theorem over : Rows.editEncodesRow.holds Try.pinned (OpenSpec.ofChange Rows.editEncodesSpec) :=
  OpenClaim.holds_of_wide 4 Try.f4 rfl rfl rfl rfl rfl rfl rfl ⟨rfl, rfl, rfl, rfl, rfl⟩ rfl rfl rfl rfl rfl (by kernel_rfl) Try.func4 (by kernel_rfl)
    (of_decide_eq_true (by kernel_rfl)) (by unfold Func.isWrapper; first | (rw [if_pos (by decide +kernel)]; kernel_rfl) | (rw [if_neg (by decide +kernel)]; exact ⟨rfl, rfl⟩))
    (fun os started H enc _ => lifted os started H enc)

theorem proved : Rows.EditEncodesSaid := over

end EditEncodes
end Go.Proofs.Ythnnephcohljeaa

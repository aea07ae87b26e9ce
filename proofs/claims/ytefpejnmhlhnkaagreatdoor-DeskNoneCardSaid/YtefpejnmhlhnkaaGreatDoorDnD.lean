/-
  The law DeskNone. Condition: crc's table is as it was laid.
-/
import Derived.Test.YtefpejnmhlhnkaaGreatDoorDnC
namespace Go.Proofs.YtefpejnmhlhnkaaGreatDoor
open Go.RowKit

theorem zero_debenturelaw26_Say : zeroIs Tryz.prog 42 = some (some (.agg #[.int .i64 0, .string { data := #[] }, .string { data := #[] }, .string { data := #[] }, .string { data := #[] }, .string { data := #[] }, .int .i64 0, .int .i64 0, .int .i64 0, .int .i64 0, .slice none 0 0, .slice none 0 0])) := by kernel_rfl
theorem run_build_Say (a : As) (w : World) : (Instr.build 42 #[(0, a.v)]).run Tryz.prog w = .ok (.agg a.say.toArray) w := by
  have hu := Tryz.underlying42
  go_simp
/-! an engine on an empty disk, run from its start -/
noncomputable def cA : RI.Rr := getR (runO 15 [.int .i64 1048576] ⟨.lf, 0⟩)
noncomputable def cB : RI.Rr := getR (runO 16 [] cA.s)
noncomputable def cC : RI.Rr := getR (runO 14 [cA.v, cB.v] cB.s)
/-- An engine, and no error. -/
noncomputable def isOpen (v : RI.V) : Bool := match v with
  | .tup [.ptr (some _), .int .i64 n] => RI.iEq n 0
  | _ => false
set_option maxRecDepth 1000000 in
theorem cA_one : isOne (runO 15 [.int .i64 1048576] ⟨.lf, 0⟩) = true := by kernel_rfl
set_option maxRecDepth 1000000 in
theorem cB_one : isOne (runO 16 [] cA.s) = true := by kernel_rfl
set_option maxRecDepth 1000000 in
theorem cC_one : RI.an (isOne (runO 14 [cA.v, cB.v] cB.s)) (isOpen cC.v) = true := by kernel_rfl
theorem isOpen_spec {v : RI.V} {x : Value} {ρ : RI.Env} {L : RI.Loc} (h : isOpen v = true) (hx : RI.RV ρ L v x) : ∃ A, x = .tuple #[.pointer (some A), .int .i64 0] := by
  unfold isOpen at h
  split at h
  · have := RI.iEq_true h
    subst this
    cases hx with
    | tup hl =>
      rcases hl with _ | ⟨h0, hl⟩
      rcases hl with _ | ⟨h1, hl⟩
      cases hl
      cases h1
      cases h0
      exact ⟨_, rfl⟩
  · cases h
set_option maxHeartbeats 4000000 in
theorem walk_none (asks chores c1 c2 : Int) (a : As) (w : World) (nb : Nb w) (hb : ∀ x ∈ a.t, x < 256) :
    Calls Tryz.prog 4 #[.int .i64 asks, .int .i64 chores, a.v, .agg #[.int .i64 c1, .int .i64 c2]] w fun e w' => e = .returned (.bool true) ∧ Below w.heap.size w w' := by
  have bel := Below.refl w.heap.size w
  refine Calls.start 131 Tryz.func4 rfl rfl rfl ?_
  refine Cd.seq ?_
  refine Cd.region ?_
  refine Seq.box rfl rfl rfl rfl rfl ?_
  intro g6 w1 n6
  have e6 := Nat.le_trans bel.size n6.ge
  replace bel := bel.step n6.below
  replace nb := nb.step n6.below
  have k6 := n6.blk
  refine Seq.box rfl rfl rfl rfl rfl ?_
  intro g7 w2 n7
  have e7 := Nat.le_trans bel.size n7.ge
  have l7 := Nat.lt_of_lt_of_le k6.lt n7.ge
  replace bel := bel.step n7.below
  replace nb := nb.step n7.below
  replace k6 := k6.step n7.below
  have k7 := n7.blk
  refine Seq.val (Runs.assign rfl rfl) rfl rfl rfl ?_
  refine Seq.nil ?_
  refine Post.weak (F' := [(0, _), (1, _), (2, _), (3, _), (6, _), (7, _), (8, _)]) ⟨rfl, rfl, rfl, rfl, rfl, rfl, rfl, trivial⟩ ?_
  refine Post.then_ ?_
  refine Cd.seq ?_
  refine Cd.seq ?_
  refine Cd.region ?_
  refine Seq.val (Runs.loadW rfl rfl Tryz.underlying36 rfl k6 (m := 10) (by kernel_rfl) rfl) rfl rfl rfl ?_
  refine Seq.val (Runs.build rfl rfl (run_build_Say a _)) rfl rfl rfl ?_
  refine Seq.slice (vs := [_]) (s := 12) rfl rfl rfl Tryz.underlying43 (by kernel_rfl) (zero_debenturelaw26_Say) (by omega) (by omega) ⟨rfl, trivial⟩ rfl rfl rfl ?_
  intro g20 w3 n20
  have e20 := Nat.le_trans bel.size n20.ge
  have l20 := Nat.lt_of_lt_of_le k7.lt n20.ge
  have l20_k6 := Nat.lt_of_lt_of_le k6.lt n20.ge
  replace bel := bel.step n20.below
  replace nb := nb.step n20.below
  replace k6 := k6.step n20.below
  replace k7 := k7.step n20.below
  have k20 := n20.blk
  refine Seq.call (Enters.func rfl rfl rfl (run_enter Tryz.func11 (by kernel_rfl) rfl)) rfl rfl rfl (small_one _ 1 a _ nb k20 hb) ?_
  rintro e w9 ⟨⟨b, rfl⟩, hb9⟩
  refine ⟨_, rfl, ?_⟩
  replace bel := bel.step hb9
  replace nb := nb.step hb9
  replace k6 := k6.step hb9
  replace k7 := k7.step hb9
  replace k20 := k20.step hb9
  refine Seq.val (Runs.not rfl rfl) rfl rfl rfl ?_
  refine Seq.val (Runs.move rfl rfl) rfl rfl rfl ?_
  refine SeqC.start ?_
  refine SeqC.openC rfl rfl rfl rfl rfl rfl rfl (fun hcx => Enters.func rfl rfl rfl (run_enter Tryz.func5 (by kernel_rfl) rfl)) (fun hcx => awake28_any _ nb) ?_
  intro w4 hw4
  replace bel := bel.step hw4
  replace nb := nb.step hw4
  replace k6 := k6.step hw4
  replace k7 := k7.step hw4
  replace k20 := k20.step hw4
  refine SeqC.next rfl rfl rfl rfl rfl rfl rfl (fun hcx => Runs.not rfl rfl) ?_
  refine SeqC.or rfl rfl rfl rfl rfl rfl rfl ?_
  refine Seq.nil ?_
  refine Post.weak (F' := [(0, _), (1, _), (2, _), (3, _), (6, _), (7, _), (8, _), (26, _)]) ⟨rfl, rfl, rfl, rfl, rfl, rfl, rfl, rfl, trivial⟩ ?_
  refine Post.then_ ?_
  refine Cd.cond rfl (fun h => ?_) (fun h => ?_)
  · skip
    refine Cd.seq ?_
    refine Cd.region ?_
    refine Seq.call (Enters.func rfl rfl rfl (run_enter Tryz.func5 (by kernel_rfl) rfl)) rfl rfl rfl (awake28_any _ nb) ?_
    rintro e w10 ⟨rfl, hb10⟩
    refine ⟨_, rfl, ?_⟩
    replace bel := bel.step hb10
    replace nb := nb.step hb10
    replace k6 := k6.step hb10
    replace k7 := k7.step hb10
    replace k20 := k20.step hb10
    refine Seq.val (Runs.assign rfl rfl) rfl rfl rfl ?_
    refine Seq.nil ?_
    refine Post.weak (F' := [(0, _), (1, _), (2, _), (3, _), (6, _), (7, _), (8, _), (26, _)]) ⟨rfl, rfl, rfl, rfl, rfl, rfl, rfl, rfl, trivial⟩ ?_
    refine Post.then_ ?_
    refine Cd.ret ?_
    refine Post.then_ret ?_
    refine Post.end1 rfl rfl (.inl rfl) ?_
    exact ⟨rfl, bel⟩
  · skip
    refine Cd.skip ?_
    refine Post.then_ ?_
    refine Cd.seq ?_
    refine Cd.region ?_
    refine Seq.val (Runs.assign rfl rfl) rfl rfl rfl ?_
    refine Seq.nil ?_
    refine Post.weak (F' := [(0, _), (1, _), (2, _), (3, _), (6, _), (7, _), (8, _), (9, _), (26, _)]) ⟨rfl, rfl, rfl, rfl, rfl, rfl, rfl, rfl, rfl, trivial⟩ ?_
    refine Post.then_ ?_
    refine Cd.seq ?_
    refine Cd.region ?_
    refine Seq.val (Runs.assign rfl rfl) rfl rfl rfl ?_
    refine Seq.nil ?_
    refine Post.weak (F' := [(0, _), (1, _), (2, _), (3, _), (6, _), (7, _), (8, _), (9, _), (10, _), (26, _)]) ⟨rfl, rfl, rfl, rfl, rfl, rfl, rfl, rfl, rfl, rfl, trivial⟩ ?_
    refine Post.then_ ?_
    refine Cd.seq ?_
    refine Cd.region ?_
    refine Seq.val (Runs.move rfl rfl) rfl rfl rfl ?_
    refine Seq.call (Enters.func rfl rfl rfl (run_enter Tryz.func9 (by kernel_rfl) rfl)) rfl rfl rfl (nilLine_close _) ?_
    rintro e w10 ⟨rfl, rfl⟩
    refine ⟨_, rfl, ?_⟩
    refine Seq.nil ?_
    refine Post.weak (F' := [(0, _), (1, _), (2, _), (3, _), (6, _), (7, _), (8, _), (9, _), (10, _), (26, _)]) ⟨rfl, rfl, rfl, rfl, rfl, rfl, rfl, rfl, rfl, rfl, trivial⟩ ?_
    refine Post.then_ ?_
    refine Cd.seq ?_
    refine Cd.region ?_
    refine Seq.val (Runs.move rfl rfl) rfl rfl rfl ?_
    refine Seq.call (Enters.func rfl rfl rfl (run_enter Tryz.func8 (by kernel_rfl) rfl)) rfl rfl rfl (nilLine_take _) ?_
    rintro e w11 ⟨rfl, rfl⟩
    refine ⟨_, rfl, ?_⟩
    refine Seq.val (Runs.move rfl rfl) rfl rfl rfl ?_
    refine Seq.val (Runs.extract rfl rfl rfl) rfl rfl rfl ?_
    refine Seq.val (Runs.extract rfl rfl rfl) rfl rfl rfl ?_
    refine Seq.val (Runs.assign rfl rfl) rfl rfl rfl ?_
    refine Seq.val (Runs.assign rfl rfl) rfl rfl rfl ?_
    refine Seq.nil ?_
    refine Post.weak (F' := [(0, _), (1, _), (2, _), (3, _), (6, _), (7, _), (8, _), (9, _), (10, _), (11, _), (12, _), (26, _)]) ⟨rfl, rfl, rfl, rfl, rfl, rfl, rfl, rfl, rfl, rfl, rfl, rfl, trivial⟩ ?_
    refine Post.then_ ?_
    refine Cd.seq ?_
    refine Cd.region ?_
    refine Seq.val (Runs.move rfl rfl) rfl rfl rfl ?_
    refine Seq.call (Enters.func rfl rfl rfl (run_enter Tryz.func12 (by kernel_rfl) rfl)) rfl rfl rfl (nilDesk_close _) ?_
    rintro e w12 ⟨rfl, rfl⟩
    refine ⟨_, rfl, ?_⟩
    refine Seq.nil ?_
    refine Post.weak (F' := [(0, _), (1, _), (2, _), (3, _), (6, _), (7, _), (8, _), (9, _), (10, _), (11, _), (12, _), (26, _)]) ⟨rfl, rfl, rfl, rfl, rfl, rfl, rfl, rfl, rfl, rfl, rfl, rfl, trivial⟩ ?_
    refine Post.then_ ?_
    refine Cd.seq ?_
    refine Cd.region ?_
    refine Seq.val (Runs.move rfl rfl) rfl rfl rfl ?_
    refine Seq.call (Enters.func rfl rfl rfl (run_enter Tryz.func13 (by kernel_rfl) rfl)) rfl rfl rfl (nilDesk_waiting _) ?_
    rintro e w13 ⟨rfl, rfl⟩
    refine ⟨_, rfl, ?_⟩
    refine Seq.val (Runs.move rfl rfl) rfl rfl rfl ?_
    refine Seq.val (Runs.extract rfl rfl rfl) rfl rfl rfl ?_
    refine Seq.val (Runs.extract rfl rfl rfl) rfl rfl rfl ?_
    refine Seq.val (Runs.assign rfl rfl) rfl rfl rfl ?_
    refine Seq.val (Runs.assign rfl rfl) rfl rfl rfl ?_
    refine Seq.nil ?_
    refine Post.weak (F' := [(0, _), (1, _), (2, _), (3, _), (6, _), (7, _), (8, _), (9, _), (10, _), (11, _), (12, _), (13, _), (14, _), (26, _)]) ⟨rfl, rfl, rfl, rfl, rfl, rfl, rfl, rfl, rfl, rfl, rfl, rfl, rfl, rfl, trivial⟩ ?_
    refine Post.then_ ?_
    refine Cd.seq ?_
    refine Cd.region ?_
    obtain ⟨y, hat⟩ := At.start nb
    have nb0 := nb
    refine Seq.call (Enters.func rfl rfl rfl (run_enter Tryz.func15 (by kernel_rfl) rfl)) rfl rfl rfl (runs_from nb0 hat (f := 15) (l := [.int .i64 1048576]) (xs := [.int .i64 1048576]) (.cons (.int _ _) .nil) cA_one (enters_of Tryz.func15 (by kernel_rfl) rfl _ _)) ?_
    rintro e wa ⟨xa, La, rfl, hla, hata, hxa⟩
    refine ⟨_, rfl, ?_⟩
    refine Seq.call (Enters.func rfl rfl rfl (run_enter Tryz.func16 (by kernel_rfl) rfl)) rfl rfl rfl (runs_from nb0 hata (f := 16) (l := []) (xs := []) .nil cB_one (enters_of Tryz.func16 (by kernel_rfl) rfl _ _)) ?_
    rintro e wb ⟨xb, Lb, rfl, hlb, hatb, hxb⟩
    refine ⟨_, rfl, ?_⟩
    refine Seq.call (Enters.func rfl rfl rfl (run_enter Tryz.func14 (by kernel_rfl) rfl)) rfl rfl rfl (runs_from nb0 hatb (f := 14) (l := [cA.v, cB.v]) (xs := [xa, xb]) (.cons (hxa.mono hlb) (.cons hxb .nil)) (RI.an_true cC_one).1 (enters_of Tryz.func14 (by kernel_rfl) rfl _ _)) ?_
    rintro e wc ⟨xc, Lc, rfl, hlc, hatc, hxc⟩
    refine ⟨_, rfl, ?_⟩
    obtain ⟨G, rfl⟩ := isOpen_spec (RI.an_true cC_one).2 hxc
    replace bel := bel.step hatc.rel.below
    replace nb := nb.step hatc.rel.below
    replace k6 := k6.step hatc.rel.below
    replace k7 := k7.step hatc.rel.below
    replace k20 := k20.step hatc.rel.below
    refine Seq.val (Runs.move rfl rfl) rfl rfl rfl ?_
    refine Seq.val (Runs.extract rfl rfl rfl) rfl rfl rfl ?_
    refine Seq.val (Runs.extract rfl rfl rfl) rfl rfl rfl ?_
    refine Seq.val (Runs.assign rfl rfl) rfl rfl rfl ?_
    refine Seq.val (Runs.assign rfl rfl) rfl rfl rfl ?_
    refine Seq.nil ?_
    refine Post.weak (F' := [(0, _), (1, _), (2, _), (3, _), (6, _), (7, _), (8, _), (9, _), (10, _), (11, _), (12, _), (13, _), (14, _), (15, _), (16, _), (26, _)]) ⟨rfl, rfl, rfl, rfl, rfl, rfl, rfl, rfl, rfl, rfl, rfl, rfl, rfl, rfl, rfl, rfl, trivial⟩ ?_
    refine Post.then_ ?_
    refine Cd.seq ?_
    refine Cd.region ?_
    refine Seq.val (Runs.move rfl rfl) rfl rfl rfl ?_
    refine Seq.val (Runs.geq rfl rfl rfl) rfl rfl rfl ?_
    refine Seq.val (Runs.move rfl rfl) rfl rfl rfl ?_
    refine SeqC.start ?_
    refine SeqC.open rfl rfl rfl rfl rfl rfl rfl (fun hcx => Runs.move rfl rfl) ?_
    refine SeqC.next rfl rfl rfl rfl rfl rfl rfl (fun hcx => Runs.leq rfl rfl rfl) ?_
    refine SeqC.and rfl rfl rfl rfl rfl rfl rfl ?_
    refine Seq.val (Runs.move rfl rfl) rfl rfl rfl ?_
    refine SeqC.start ?_
    refine SeqC.open rfl rfl rfl rfl rfl rfl rfl (fun hcx => Runs.move rfl rfl) ?_
    refine SeqC.next rfl rfl rfl rfl rfl rfl rfl (fun hcx => Runs.geq rfl rfl rfl) ?_
    refine SeqC.and rfl rfl rfl rfl rfl rfl rfl ?_
    refine Seq.val (Runs.move rfl rfl) rfl rfl rfl ?_
    refine SeqC.start ?_
    refine SeqC.open rfl rfl rfl rfl rfl rfl rfl (fun hcx => Runs.move rfl rfl) ?_
    refine SeqC.next rfl rfl rfl rfl rfl rfl rfl (fun hcx => Runs.leq rfl rfl rfl) ?_
    refine SeqC.and rfl rfl rfl rfl rfl rfl rfl ?_
    refine Seq.val (Runs.assign rfl rfl) rfl rfl rfl ?_
    refine Seq.nil ?_
    refine Post.weak (F' := [(0, _), (1, _), (2, _), (3, _), (6, _), (7, _), (8, _), (9, _), (10, _), (11, _), (12, _), (13, _), (14, _), (15, _), (16, _), (17, _), (26, _)]) ⟨rfl, rfl, rfl, rfl, rfl, rfl, rfl, rfl, rfl, rfl, rfl, rfl, rfl, rfl, rfl, rfl, rfl, trivial⟩ ?_
    refine Post.then_ ?_
    refine Cd.seq ?_
    refine Cd.region ?_
    refine Seq.val (Runs.move rfl rfl) rfl rfl rfl ?_
    refine Seq.call (Enters.func rfl rfl rfl (run_enter Tryz.func7 (by kernel_rfl) rfl)) rfl rfl rfl (nilLine_offer _) ?_
    rintro e w14 ⟨rfl, rfl⟩
    refine ⟨_, rfl, ?_⟩
    refine Seq.val (Runs.eqlI rfl rfl rfl) rfl rfl rfl ?_
    refine Seq.val (Runs.move rfl rfl) rfl rfl rfl ?_
    refine Seq.valG (Runs.move rfl rfl) rfl rfl rfl rfl rfl ?_
    refine Seq.valG (Runs.eqlI rfl rfl rfl) rfl rfl rfl rfl rfl ?_
    refine Seq.val (Runs.pickT rfl rfl rfl) rfl rfl rfl ?_
    refine Seq.val (Runs.move rfl rfl) rfl rfl rfl ?_
    refine Seq.valG (Runs.move rfl rfl) rfl rfl rfl rfl rfl ?_
    refine Seq.valG (Runs.not rfl rfl) rfl rfl rfl rfl rfl ?_
    refine Seq.val (Runs.pickT rfl rfl rfl) rfl rfl rfl ?_
    refine Seq.val (Runs.move rfl rfl) rfl rfl rfl ?_
    refine Seq.valG (Runs.move rfl rfl) rfl rfl rfl rfl rfl ?_
    refine Seq.callG (Enters.func rfl rfl rfl (run_enter Tryz.func10 (by kernel_rfl) rfl)) rfl rfl rfl rfl rfl (nilLine_len _) ?_
    rintro e w15 ⟨rfl, rfl⟩
    refine ⟨_, rfl, ?_⟩
    refine Seq.valG (Runs.eqlI rfl rfl rfl) rfl rfl rfl rfl rfl ?_
    refine Seq.val (Runs.pickT rfl rfl rfl) rfl rfl rfl ?_
    refine Seq.val (Runs.move rfl rfl) rfl rfl rfl ?_
    refine Seq.valG (Runs.move rfl rfl) rfl rfl rfl rfl rfl ?_
    refine Seq.valG (Runs.loadW rfl rfl Tryz.underlying36 rfl k6 (m := 10) (by kernel_rfl) rfl) rfl rfl rfl rfl rfl ?_
    refine Seq.callG (Enters.func rfl rfl rfl (run_enter Tryz.func17 (by kernel_rfl) rfl)) rfl rfl rfl rfl rfl (nilDesk_ask _ _) ?_
    rintro e w16 ⟨rfl, hb16⟩
    refine ⟨_, rfl, ?_⟩
    replace bel := bel.step hb16
    replace nb := nb.step hb16
    replace k6 := k6.step hb16
    replace k7 := k7.step hb16
    replace k20 := k20.step hb16
    refine Seq.valG (Runs.eqlI rfl rfl rfl) rfl rfl rfl rfl rfl ?_
    refine Seq.val (Runs.pickT rfl rfl rfl) rfl rfl rfl ?_
    refine Seq.val (Runs.move rfl rfl) rfl rfl rfl ?_
    refine Seq.valG (Runs.move rfl rfl) rfl rfl rfl rfl rfl ?_
    refine Seq.valG (Runs.loadW rfl rfl Tryz.underlying37 rfl k7 (m := 2) (by kernel_rfl) rfl) rfl rfl rfl rfl rfl ?_
    refine Seq.callG (Enters.func rfl rfl rfl (run_enter Tryz.func18 (by kernel_rfl) rfl)) rfl rfl rfl rfl rfl (nilDesk_do _ _) ?_
    rintro e w17 ⟨rfl, hb17⟩
    refine ⟨_, rfl, ?_⟩
    replace bel := bel.step hb17
    replace nb := nb.step hb17
    replace k6 := k6.step hb17
    replace k7 := k7.step hb17
    replace k20 := k20.step hb17
    refine Seq.valG (Runs.eqlI rfl rfl rfl) rfl rfl rfl rfl rfl ?_
    refine Seq.val (Runs.pickT rfl rfl rfl) rfl rfl rfl ?_
    refine Seq.val (Runs.move rfl rfl) rfl rfl rfl ?_
    refine Seq.valG (Runs.move rfl rfl) rfl rfl rfl rfl rfl ?_
    refine Seq.callG (Enters.func rfl rfl rfl (run_enter Tryz.func19 (by kernel_rfl) rfl)) rfl rfl rfl rfl rfl (nilDesk_step _) ?_
    rintro e w18 ⟨rfl, rfl⟩
    refine ⟨_, rfl, ?_⟩
    refine Seq.valG (Runs.not rfl rfl) rfl rfl rfl rfl rfl ?_
    refine Seq.val (Runs.pickT rfl rfl rfl) rfl rfl rfl ?_
    refine Seq.val (Runs.move rfl rfl) rfl rfl rfl ?_
    refine Seq.valG (Runs.move rfl rfl) rfl rfl rfl rfl rfl ?_
    refine Seq.callG (Enters.func rfl rfl rfl (run_enter Tryz.func20 (by kernel_rfl) rfl)) rfl rfl rfl rfl rfl (nilDesk_run _ nb) ?_
    rintro e w19 ⟨rfl, hb19⟩
    refine ⟨_, rfl, ?_⟩
    replace bel := bel.step hb19
    replace nb := nb.step hb19
    replace k6 := k6.step hb19
    replace k7 := k7.step hb19
    replace k20 := k20.step hb19
    refine Seq.valG (Runs.eqlI rfl rfl rfl) rfl rfl rfl rfl rfl ?_
    refine Seq.val (Runs.pickT rfl rfl rfl) rfl rfl rfl ?_
    refine Seq.val (Runs.move rfl rfl) rfl rfl rfl ?_
    refine Seq.valG (Runs.move rfl rfl) rfl rfl rfl rfl rfl ?_
    refine Seq.valG (Runs.eqlI rfl rfl rfl) rfl rfl rfl rfl rfl ?_
    refine Seq.val (Runs.pickT rfl rfl rfl) rfl rfl rfl ?_
    refine Seq.val (Runs.move rfl rfl) rfl rfl rfl ?_
    refine Seq.valG (Runs.move rfl rfl) rfl rfl rfl rfl rfl ?_
    refine Seq.valG (Runs.eqlI rfl rfl rfl) rfl rfl rfl rfl rfl ?_
    refine Seq.val (Runs.pickT rfl rfl rfl) rfl rfl rfl ?_
    refine Seq.val (Runs.move rfl rfl) rfl rfl rfl ?_
    refine Seq.valG (Runs.move rfl rfl) rfl rfl rfl rfl rfl ?_
    refine Seq.callG (Enters.func rfl rfl rfl (run_enter Tryz.func21 (by kernel_rfl) rfl)) rfl rfl rfl rfl rfl (nilDesk_told _) ?_
    rintro e w20 ⟨rfl, rfl⟩
    refine ⟨_, rfl, ?_⟩
    refine Seq.valG (Runs.len rfl rfl Tryz.underlying58) rfl rfl rfl rfl rfl ?_
    refine Seq.valG (Runs.eqlI rfl rfl rfl) rfl rfl rfl rfl rfl ?_
    refine Seq.val (Runs.pickT rfl rfl rfl) rfl rfl rfl ?_
    refine Seq.val (Runs.move rfl rfl) rfl rfl rfl ?_
    refine Seq.callG (Enters.func rfl rfl rfl (run_enter Tryz.func22 (by kernel_rfl) rfl)) rfl rfl rfl rfl rfl (newDesk_any none 1 1 _) ?_
    rintro e w21 ⟨⟨A1, rfl, hA1⟩, hb21⟩
    refine ⟨_, rfl, ?_⟩
    obtain rfl : A1 = none := by simpa using hA1
    replace bel := bel.step hb21
    replace nb := nb.step hb21
    replace k6 := k6.step hb21
    replace k7 := k7.step hb21
    replace k20 := k20.step hb21
    refine Seq.valG (Runs.eqlP rfl rfl rfl Tryz.underlying44) rfl rfl rfl rfl rfl ?_
    refine Seq.val (Runs.pickT rfl rfl rfl) rfl rfl rfl ?_
    refine Seq.val (Runs.move rfl rfl) rfl rfl rfl ?_
    refine Seq.valG (Runs.move rfl rfl) rfl rfl rfl rfl rfl ?_
    refine Seq.valG (Runs.eqlI rfl rfl rfl) rfl rfl rfl rfl rfl ?_
    refine Seq.val (Runs.pickT rfl rfl rfl) rfl rfl rfl ?_
    refine Seq.val (Runs.move rfl rfl) rfl rfl rfl ?_
    refine Seq.valG (Runs.move rfl rfl) rfl rfl rfl rfl rfl ?_
    refine Seq.valG (Runs.move rfl rfl) rfl rfl rfl rfl rfl ?_
    refine Seq.valG (Runs.move rfl rfl) rfl rfl rfl rfl rfl ?_
    refine Seq.callG (Enters.func rfl rfl rfl (run_enter Tryz.func22 (by kernel_rfl) rfl)) rfl rfl rfl rfl rfl (newDesk_any (some G) asks chores _) ?_
    rintro e w22 ⟨⟨A2, rfl, hA2⟩, hb22⟩
    refine ⟨_, rfl, ?_⟩
    replace bel := bel.step hb22
    replace nb := nb.step hb22
    replace k6 := k6.step hb22
    replace k7 := k7.step hb22
    replace k20 := k20.step hb22
    refine Seq.valG (Runs.neqP rfl rfl rfl Tryz.underlying44) rfl rfl rfl rfl rfl ?_
    refine Seq.valG (Runs.move rfl rfl) rfl rfl rfl rfl rfl ?_
    refine Seq.valG (Runs.eqlB rfl rfl rfl Tryz.underlying4) rfl rfl rfl rfl rfl ?_
    refine Seq.val (Runs.pickT rfl rfl rfl) rfl rfl rfl ?_
    refine Seq.val (Runs.assign rfl rfl) rfl rfl rfl ?_
    refine Seq.nil ?_
    refine Post.weak (F' := [(0, _), (1, _), (2, _), (3, _), (6, _), (7, _), (8, _), (9, _), (10, _), (11, _), (12, _), (13, _), (14, _), (15, _), (16, _), (17, _), (26, _)]) ⟨rfl, rfl, rfl, rfl, rfl, rfl, rfl, rfl, rfl, rfl, rfl, rfl, rfl, rfl, rfl, rfl, rfl, trivial⟩ ?_
    refine Post.then_ ?_
    refine Cd.ret ?_
    refine Post.end1 rfl rfl (.inl rfl) ?_
    refine ⟨?_, bel⟩
    congr 2
    rw [decide_eq_true_eq, hA2]
    unfold roomB
    simp only [Option.isSome_some, Bool.true_and]
    simp only [Bool.and_assoc]
end Go.Proofs.YtefpejnmhlhnkaaGreatDoor

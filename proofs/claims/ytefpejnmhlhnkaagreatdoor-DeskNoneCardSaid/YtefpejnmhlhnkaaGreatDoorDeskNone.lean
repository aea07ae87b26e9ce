/-
  The law DeskNone: of no line, and no desk, nothing comes; a desk needs an engine, and room. Condition: the listed variables read as the program's text lays them.
-/
import Derived.Test.YtefpejnmhlhnkaaGreatDoorGrF
import Derived.Test.YtefpejnmhlhnkaaGreatDoorDnD
import Derived.Test.YtefpejnmhlhnkaaGreatDoorCards
import Derived.SevenTiedAt
namespace Go.Proofs.YtefpejnmhlhnkaaGreatDoor
namespace DeskNone
open Go.ChangeShapes Go.WideShapes Go.ChangeAt Go.Deep Go.RowKit

theorem namedF : Tryz.prog.funcNamed "debenture/debenturelaw28.DeskNone" = some 4 := by kernel_rfl
theorem noInit : Tryz.prog.inits.idxOf? 4 = none := by kernel_rfl
theorem wOk (os : Os) : Input.okWideB Tryz.prog ((doorL os).forCall (fun _ _ => 0) ⟨#[], #[.int .i64 0, .int .i64 0, .agg #[.int .i64 0, .string { data := #[] }, .string { data := #[] }, .string { data := #[] }, .string { data := #[] }, .string { data := #[] }, .int .i64 0, .int .i64 0, .int .i64 0, .int .i64 0], .agg #[.int .i64 0, .int .i64 0]], []⟩) 4 ⟨#[], #[.int .i64 0, .int .i64 0, .agg #[.int .i64 0, .string { data := #[] }, .string { data := #[] }, .string { data := #[] }, .string { data := #[] }, .string { data := #[] }, .int .i64 0, .int .i64 0, .int .i64 0, .int .i64 0], .agg #[.int .i64 0, .int .i64 0]], []⟩ = true := by kernel_rfl
theorem wPre (os : Os) (H : Type) (enc : TypeId × Value → H) : Rows.deskNoneSpec.preB enc Tryz.prog Tryz.f4 [] false ((doorL os).forCall (fun _ _ => 0) ⟨#[], #[.int .i64 0, .int .i64 0, .agg #[.int .i64 0, .string { data := #[] }, .string { data := #[] }, .string { data := #[] }, .string { data := #[] }, .string { data := #[] }, .int .i64 0, .int .i64 0, .int .i64 0, .int .i64 0], .agg #[.int .i64 0, .int .i64 0]], []⟩).memory #[.int .i64 0, .int .i64 0, .agg #[.int .i64 0, .string { data := #[] }, .string { data := #[] }, .string { data := #[] }, .string { data := #[] }, .string { data := #[] }, .int .i64 0, .int .i64 0, .int .i64 0, .int .i64 0], .agg #[.int .i64 0, .int .i64 0]] 8 = true := by kernel_rfl
theorem wSz (os : Os) (H : Type) (enc : TypeId × Value → H) : Rows.deskNoneSpec.sizedB enc Tryz.prog Tryz.f4 false ((doorL os).forCall (fun _ _ => 0) ⟨#[], #[.int .i64 0, .int .i64 0, .agg #[.int .i64 0, .string { data := #[] }, .string { data := #[] }, .string { data := #[] }, .string { data := #[] }, .string { data := #[] }, .int .i64 0, .int .i64 0, .int .i64 0, .int .i64 0], .agg #[.int .i64 0, .int .i64 0]], []⟩).memory #[.int .i64 0, .int .i64 0, .agg #[.int .i64 0, .string { data := #[] }, .string { data := #[] }, .string { data := #[] }, .string { data := #[] }, .string { data := #[] }, .int .i64 0, .int .i64 0, .int .i64 0, .int .i64 0], .agg #[.int .i64 0, .int .i64 0]] 8 = true := by kernel_rfl
set_option maxRecDepth 100000 in
theorem lifted (os : Os) (started : os.Started) (H : Type) (enc : TypeId × Value → H) :
    ReturnsInHanded {} Tryz.checked os 4 .any (fun w args => (Rows.deskNoneSpec.pre enc Tryz.prog Tryz.f4 [] false w args ∧ laidMetH Tryz.prog laidL w) ∧ sizedMet enc Tryz.prog Tryz.f4 (OpenSpec.ofChange Rows.deskNoneSpec) false w args) (Rows.deskNoneSpec.post enc Tryz.prog Tryz.f4 false true false false) := by
  refine lift_laid (C := Tryz.checked) (X := fun w _ => laidMetH Tryz.prog laidL w) (fun _ _ _ hh h => h.of_heap hh) own started noInit Tryz.func4
    (ChangeSpec.witness_shaped (enc := enc) (C := Tryz.checked) (os := os) (X := fun w _ => laidMetH Tryz.prog laidL w) false (doorL os) #[.int .i64 0, .int .i64 0, .agg #[.int .i64 0, .string { data := #[] }, .string { data := #[] }, .string { data := #[] }, .string { data := #[] }, .string { data := #[] }, .int .i64 0, .int .i64 0, .int .i64 0, .int .i64 0], .agg #[.int .i64 0, .int .i64 0]] 8 rfl (doorS os _) (wOk os) (wPre os H enc) (wSz os H enc) (door_met os _)) ?_
  intro W base args ds gs before hval0 hW hL hsh
  have hval : ∀ (j : Nat) t v, Tryz.f4.params[j]? = some t → args[j]? = some v → Value.okWide Tryz.prog W .any base t v := hval0
  have hW' := hW
  obtain ⟨p, q, hA0, hV, rfl, hfz, hnd⟩ := hW
  have hA : DataW.TrodAll enc Tryz.prog W 0 (fun _ => true) true Tryz.f4.params.toList args.toList ds p := hA0
  rw [Tryz.params4] at hA hval
  obtain ⟨v0, vs0, d0, ds0, p0, q0, hargs, rfl, rfl, h0, r0⟩ := trodAll_cons hA
  obtain ⟨v1, vs1, d1, ds1, p1, q1, rfl, rfl, rfl, h1, r1⟩ := trodAll_cons r0
  obtain ⟨v2, vs2, d2, ds2, p2, q2, rfl, rfl, rfl, h2, r2⟩ := trodAll_cons r1
  obtain ⟨v3, vs3, d3, ds3, p3, q3, rfl, rfl, rfl, h3, r3⟩ := trodAll_cons r2
  obtain ⟨rfl, rfl, rfl⟩ := trodAll_nil r3
  obtain rfl : args = #[v0, v1, v2, v3] := by cases args; simp_all
  obtain ⟨rfl, rfl⟩ := trodVars_none hV
  have k0 := h0
  have lt0 : ∀ x ∈ p0, x.block < W.heap.size := by obtain ⟨m, hm⟩ := k0; exact DataW.trod_lt m _ _ _ hm
  have k1 := h1
  have lt1 : ∀ x ∈ p1, x.block < W.heap.size := by obtain ⟨m, hm⟩ := k1; exact DataW.trod_lt m _ _ _ hm
  have k2 := h2
  have lt2 : ∀ x ∈ p2, x.block < W.heap.size := by obtain ⟨m, hm⟩ := k2; exact DataW.trod_lt m _ _ _ hm
  have k3 := h3
  have lt3 : ∀ x ∈ p3, x.block < W.heap.size := by obtain ⟨m, hm⟩ := k3; exact DataW.trod_lt m _ _ _ hm
  obtain ⟨asks, rfl, hasks⟩ := open_i64 Tryz.underlying3 (hval 0 _ v0 rfl rfl)
  obtain ⟨chores, rfl, hchores⟩ := open_i64 Tryz.underlying3 (hval 1 _ v1 rfl rfl)
  obtain ⟨a, rfl, hb⟩ := open_ask26 (hval 2 _ v2 rfl rfl) h2
  obtain ⟨c1, c2, rfl⟩ := open_chore (hval 3 _ v3 rfl rfl) h3
  clear hA0 hval0
  have gv := gv_of_laid hL hsh
  refine (walk_none asks chores c1 c2 a W gv hb).mono fun e W' ⟨he, bel⟩ => ?_
  subst he
  exact ⟨_, rfl, _, _, _, [], _, [], hW', trodAll_mk1 (shut_bool Tryz.underlying4 _), (trodAll_cons_mk (Below.trod laidOut (by kernel_rfl) (of_decide_eq_true (by kernel_rfl)) k0 bel lt0) (trodAll_cons_mk (Below.trod laidOut (by kernel_rfl) (of_decide_eq_true (by kernel_rfl)) k1 bel lt1) (trodAll_cons_mk (Below.trod laidOut (by kernel_rfl) (of_decide_eq_true (by kernel_rfl)) k2 bel lt2) (trodAll_cons_mk (Below.trod laidOut (by kernel_rfl) (of_decide_eq_true (by kernel_rfl)) k3 bel lt3) trodAll_mk0)))), rfl, bel.frame _, fun h => by cases h⟩

theorem lPs : Tryz.f4.params.toList = [3, 3, 36, 37] := by kernel_rfl
theorem lRs : Tryz.f4.resultTypes.toList = [4] := by kernel_rfl
theorem lLs : (Rows.deskNoneRow.laid.filterMap fun x => (Tryz.prog.globalNamed x.1).bind fun g => (Tryz.prog.globals[g]?).map (·.type)) = [331, 331, 769, 799, 800, 718] := by kernel_rfl
theorem lTie : namedTie Tryz.prog Rows.deskNoneRow.named Rows.deskNoneSpec.vars = true := by kernel_rfl
theorem lPl : (Rows.deskNoneRow.plainKeys == Tryz.prog.plainKeys) = true := by kernel_rfl
theorem lLf : (Rows.deskNoneRow.lifted == Tryz.prog.liftsFinal) = true := by kernel_rfl
theorem lMk : (Tryz.prog.make == some Rows.deskNoneRow.make) = true := by kernel_rfl
theorem lMo : (Rows.deskNoneRow.mapsOut == Tryz.prog.mapsAmong Tryz.f4.resultTypes.toList) = true := by kernel_rfl
theorem lPt : ∀ t ∈ ([3, 3, 36, 37] : List Nat), Tame Tryz.prog t := fun t ht => by
  simp only [List.mem_cons, List.not_mem_nil, or_false] at ht
  rcases ht with rfl | rfl | rfl | rfl
  · exact tame3
  · exact tame3
  · exact tame36
  · exact tame37
theorem lRt : ∀ t ∈ ([4] : List Nat), Tame Tryz.prog t ∧ t < Tryz.prog.types.size := fun t ht => by
  simp only [List.mem_cons, List.not_mem_nil, or_false] at ht
  subst ht
  exact ⟨tame4, by rw [tsz]; decide⟩
theorem lLt : ∀ t ∈ ([331, 331, 769, 799, 800, 718] : List Nat), Tryz.prog.veiledRec t = false := fun t ht => by
  simp only [List.mem_cons, List.not_mem_nil, or_false] at ht
  rcases ht with rfl | rfl | rfl | rfl | rfl | rfl
  · exact veil331
  · exact veil331
  · exact veil769
  · exact veil799
  · exact veil800
  · exact veil718
theorem facts : joinedFacts Tryz.prog 4 Tryz.f4 Rows.deskNoneSpec Rows.deskNoneRow = true :=
  joined_plain lPs rfl lRs lPt lRt rfl rfl rfl rfl rfl rfl rfl rfl lLs lLt rfl laidOut mapsRow lTie rfl stops_ rfl knobs_ inPlaceDeskNone rfl rfl unfollowedDeskNone namedDeskNone lMo rfl lPl rfl heard enterable lLf lMk rfl rfl
theorem inst : Tryz.f4.isInstance Tryz.prog Rows.deskNoneRow.origin Rows.deskNoneRow.targs := of_decide_eq_true (by kernel_rfl)
theorem wrap : Tryz.f4.isWrapper Tryz.prog Rows.deskNoneRow.wrapper Rows.deskNoneRow.mainSum := by
  unfold Func.isWrapper
  first | (rw [if_pos (by decide +kernel)]; kernel_rfl) | (rw [if_neg (by decide +kernel)]; exact ⟨rfl, rfl⟩)
theorem over : Rows.DeskNoneSaid :=
  OpenClaim.holds_of_wide 4 Tryz.f4 rfl rfl rfl rfl rfl rfl rfl ⟨rfl, rfl, rfl, rfl, rfl⟩ rfl rfl rfl rfl rfl namedF Tryz.func4 facts inst wrap
    (fun os started H enc _ => lifted os started H enc)
theorem byText : Rows.deskNoneRow.wfByText (OpenSpec.ofChange Rows.deskNoneSpec) = true := by kernel_rfl
theorem tied : Rows.deskNoneRow.laidByTextAt .later Tryz.pinned [.sentinel, .sentinel, .data, .data, .data, .data] true := OpenClaim.laidByTextAt_later rfl rfl tieAll noOwn fitsL
theorem goes : false = Rows.deskNoneRow.goesBy Tryz.prog := goes_of noGoes rfl namedF
theorem stand3 : Tryz.prog.wantsStandIn 3 = false := by kernel_rfl
theorem stand36 : Tryz.prog.wantsStandIn 36 = false := by kernel_rfl
theorem stand37 : Tryz.prog.wantsStandIn 37 = false := by kernel_rfl

theorem proved : Rows.DeskNoneCardSaid :=
  Claim7.holds_tied_plain_at .later [] [.sentinel, .sentinel, .data, .data, .data, .data] true (true, "14ef7a324ef58652c0e02d94aa5ea6cce208d77056b15f9ed2cd3ec0e7a8e6eb") true
    over (fun _ h => by cases h) byText (fun _ h => by cases h) tied rfl ⟨rfl, rfl⟩ mainIs_ rfl
    (fun f fn hf hfn => by
      obtain rfl : f = 4 := Option.some.inj (namedF.symm.trans hf) |>.symm
      obtain rfl : fn = Tryz.f4 := (Option.some.inj (Tryz.func4.symm.trans hfn)).symm
      refine ⟨looks_, fun j t ht => ?_⟩
      rw [Tryz.params4] at ht
      have hm : t ∈ [3, 3, 36, 37] := by simpa using Array.mem_of_getElem? ht
      simp only [List.mem_cons, List.not_mem_nil, or_false] at hm
      rcases hm with rfl | rfl | rfl | rfl
      · exact stand3
      · exact stand3
      · exact stand36
      · exact stand37)
    goes
end DeskNone
#print axioms DeskNone.proved
end Go.Proofs.YtefpejnmhlhnkaaGreatDoor

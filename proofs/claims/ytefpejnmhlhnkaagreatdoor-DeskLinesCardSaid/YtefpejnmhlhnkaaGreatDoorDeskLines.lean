/-
  The law DeskLines: whatever is offered, taken and closed, with any room: each answer, and how many wait behind it. Condition: the listed variables read as the program's text lays them.
-/
import Derived.Test.YtefpejnmhlhnkaaGreatDoorGrF
import Derived.Test.YtefpejnmhlhnkaaGreatDoorDkC
import Derived.Test.YtefpejnmhlhnkaaGreatDoorCards
import Derived.SevenTiedAt
namespace Go.Proofs.YtefpejnmhlhnkaaGreatDoor
namespace DeskLines
open Go.ChangeShapes Go.WideShapes Go.ChangeAt Go.Deep Go.RowKit

theorem namedF : Tryz.prog.funcNamed "debenture/debenturelaw28.DeskLines" = some 3 := by kernel_rfl
theorem noInit : Tryz.prog.inits.idxOf? 3 = none := by kernel_rfl
theorem wOk (os : Os) : Input.okWideB Tryz.prog ((doorL os).forCall (fun _ _ => 0) ⟨#[], #[.int .i64 0, .slice none 0 0], []⟩) 3 ⟨#[], #[.int .i64 0, .slice none 0 0], []⟩ = true := by kernel_rfl
theorem wPre (os : Os) (H : Type) (enc : TypeId × Value → H) : Rows.deskLinesSpec.preB enc Tryz.prog Tryz.f3 [] false ((doorL os).forCall (fun _ _ => 0) ⟨#[], #[.int .i64 0, .slice none 0 0], []⟩).memory #[.int .i64 0, .slice none 0 0] 8 = true := by kernel_rfl
theorem wSz (os : Os) (H : Type) (enc : TypeId × Value → H) : Rows.deskLinesSpec.sizedB enc Tryz.prog Tryz.f3 false ((doorL os).forCall (fun _ _ => 0) ⟨#[], #[.int .i64 0, .slice none 0 0], []⟩).memory #[.int .i64 0, .slice none 0 0] 8 = true := by kernel_rfl
set_option maxRecDepth 100000 in
theorem lifted (os : Os) (started : os.Started) (H : Type) (enc : TypeId × Value → H) :
    ReturnsInHanded {} Tryz.checked os 3 .any (fun w args => (Rows.deskLinesSpec.pre enc Tryz.prog Tryz.f3 [] false w args ∧ laidMetH Tryz.prog laidL w) ∧ sizedMet enc Tryz.prog Tryz.f3 (OpenSpec.ofChange Rows.deskLinesSpec) false w args) (Rows.deskLinesSpec.post enc Tryz.prog Tryz.f3 false true false false) := by
  refine lift_laid (C := Tryz.checked) (X := fun w _ => laidMetH Tryz.prog laidL w) (fun _ _ _ hh h => h.of_heap hh) own started noInit Tryz.func3
    (ChangeSpec.witness_shaped (enc := enc) (C := Tryz.checked) (os := os) (X := fun w _ => laidMetH Tryz.prog laidL w) false (doorL os) #[.int .i64 0, .slice none 0 0] 8 rfl (doorS os _) (wOk os) (wPre os H enc) (wSz os H enc) (door_met os _)) ?_
  intro W base args ds gs before hval0 hW hL hsh
  have hval : ∀ (j : Nat) t v, Tryz.f3.params[j]? = some t → args[j]? = some v → Value.okWide Tryz.prog W .any base t v := hval0
  have hW' := hW
  obtain ⟨p, q, hA0, hV, rfl, hfz, hnd⟩ := hW
  have hA : DataW.TrodAll enc Tryz.prog W 0 (fun _ => true) true Tryz.f3.params.toList args.toList ds p := hA0
  rw [Tryz.params3] at hA hval
  obtain ⟨v0, vs0, d0, ds0, p0, q0, hargs, rfl, rfl, h0, r0⟩ := trodAll_cons hA
  obtain ⟨v1, vs1, d1, ds1, p1, q1, rfl, rfl, rfl, h1, r1⟩ := trodAll_cons r0
  obtain ⟨rfl, rfl, rfl⟩ := trodAll_nil r1
  obtain rfl : args = #[v0, v1] := by cases args; simp_all
  obtain ⟨rfl, rfl⟩ := trodVars_none hV
  have k0 := h0
  have lt0 : ∀ x ∈ p0, x.block < W.heap.size := by obtain ⟨m, hm⟩ := k0; exact DataW.trod_lt m _ _ _ hm
  have k1 := h1
  have lt1 : ∀ x ∈ p1, x.block < W.heap.size := by obtain ⟨m, hm⟩ := k1; exact DataW.trod_lt m _ _ _ hm
  obtain ⟨room, rfl, hroom⟩ := open_i64 Tryz.underlying3 (hval 0 _ v0 rfl rfl)
  obtain ⟨A, n, c, l, rfl, hr⟩ := open_acts28 (hval 1 _ v1 rfl rfl) h1
  clear hA0 hval0
  have gv := gv_of_laid hL hsh
  refine (walk_lines A n c room l W gv hr).mono fun e W' ⟨he, bel⟩ => ?_
  subst he
  exact ⟨_, rfl, _, _, _, [], _, [], hW', trodAll_mk1 (shut_bool Tryz.underlying4 _), (trodAll_cons_mk (Below.trod laidOut (by kernel_rfl) (of_decide_eq_true (by kernel_rfl)) k0 bel lt0) (trodAll_cons_mk (Below.trod laidOut (by kernel_rfl) (of_decide_eq_true (by kernel_rfl)) k1 bel lt1) trodAll_mk0)), rfl, bel.frame _, fun h => by cases h⟩

theorem lPs : Tryz.f3.params.toList = [3, 22] := by kernel_rfl
theorem lRs : Tryz.f3.resultTypes.toList = [4] := by kernel_rfl
theorem lLs : (Rows.deskLinesRow.laid.filterMap fun x => (Tryz.prog.globalNamed x.1).bind fun g => (Tryz.prog.globals[g]?).map (·.type)) = [331, 331, 769, 799, 800, 718] := by kernel_rfl
theorem lTie : namedTie Tryz.prog Rows.deskLinesRow.named Rows.deskLinesSpec.vars = true := by kernel_rfl
theorem lPl : (Rows.deskLinesRow.plainKeys == Tryz.prog.plainKeys) = true := by kernel_rfl
theorem lLf : (Rows.deskLinesRow.lifted == Tryz.prog.liftsFinal) = true := by kernel_rfl
theorem lMk : (Tryz.prog.make == some Rows.deskLinesRow.make) = true := by kernel_rfl
theorem lMo : (Rows.deskLinesRow.mapsOut == Tryz.prog.mapsAmong Tryz.f3.resultTypes.toList) = true := by kernel_rfl
theorem lPt : ∀ t ∈ ([3, 22] : List Nat), Tame Tryz.prog t := fun t ht => by
  simp only [List.mem_cons, List.not_mem_nil, or_false] at ht
  rcases ht with rfl | rfl
  · exact tame3
  · exact tame22
theorem lRt : ∀ t ∈ ([4] : List Nat), Tame Tryz.prog t ∧ t < Tryz.prog.types.size := fun t ht => by
  simp only [List.mem_cons, List.not_mem_nil, or_false] at ht
  subst ht
  exact ⟨tame4, by rw [tsz]; decide⟩
theorem lLt : ∀ t ∈ ([331, 331, 769, 799, 800, 718] : List Nat), Tryz.prog.veiledRec t = false := fun t ht => by
  simp only [List.mem_cons, List.not_mem_nil, or_false] at ht
  rcases ht with rfl | rfl | rfl | rfl | rfl | rfl
  · exact veil331
  · exact veil331
  · exact veil769
  · exact veil799
  · exact veil800
  · exact veil718
theorem facts : joinedFacts Tryz.prog 3 Tryz.f3 Rows.deskLinesSpec Rows.deskLinesRow = true :=
  joined_plain lPs rfl lRs lPt lRt rfl rfl rfl rfl rfl rfl rfl rfl lLs lLt rfl laidOut mapsRow lTie rfl stops_ rfl knobs_ inPlaceDeskLines rfl rfl unfollowedDeskLines namedDeskLines lMo rfl lPl rfl heard enterable lLf lMk rfl rfl
theorem inst : Tryz.f3.isInstance Tryz.prog Rows.deskLinesRow.origin Rows.deskLinesRow.targs := of_decide_eq_true (by kernel_rfl)
theorem wrap : Tryz.f3.isWrapper Tryz.prog Rows.deskLinesRow.wrapper Rows.deskLinesRow.mainSum := by
  unfold Func.isWrapper
  first | (rw [if_pos (by decide +kernel)]; kernel_rfl) | (rw [if_neg (by decide +kernel)]; exact ⟨rfl, rfl⟩)
theorem over : Rows.DeskLinesSaid :=
  OpenClaim.holds_of_wide 3 Tryz.f3 rfl rfl rfl rfl rfl rfl rfl ⟨rfl, rfl, rfl, rfl, rfl⟩ rfl rfl rfl rfl rfl namedF Tryz.func3 facts inst wrap
    (fun os started H enc _ => lifted os started H enc)
theorem byText : Rows.deskLinesRow.wfByText (OpenSpec.ofChange Rows.deskLinesSpec) = true := by kernel_rfl
theorem tied : Rows.deskLinesRow.laidByTextAt .later Tryz.pinned [.sentinel, .sentinel, .data, .data, .data, .data] true := OpenClaim.laidByTextAt_later rfl rfl tieAll noOwn fitsL
theorem goes : false = Rows.deskLinesRow.goesBy Tryz.prog := goes_of noGoes rfl namedF
theorem stand3 : Tryz.prog.wantsStandIn 3 = false := by kernel_rfl
theorem stand22 : Tryz.prog.wantsStandIn 22 = false := by kernel_rfl

theorem proved : Rows.DeskLinesCardSaid :=
  Claim7.holds_tied_plain_at .later [] [.sentinel, .sentinel, .data, .data, .data, .data] true (true, "14ef7a324ef58652c0e02d94aa5ea6cce208d77056b15f9ed2cd3ec0e7a8e6eb") true
    over (fun _ h => by cases h) byText (fun _ h => by cases h) tied rfl ⟨rfl, rfl⟩ mainIs_ rfl
    (fun f fn hf hfn => by
      obtain rfl : f = 3 := Option.some.inj (namedF.symm.trans hf) |>.symm
      obtain rfl : fn = Tryz.f3 := (Option.some.inj (Tryz.func3.symm.trans hfn)).symm
      refine ⟨looks_, fun j t ht => ?_⟩
      rw [Tryz.params3] at ht
      have hm : t ∈ [3, 22] := by simpa using Array.mem_of_getElem? ht
      simp only [List.mem_cons, List.not_mem_nil, or_false] at hm
      rcases hm with rfl | rfl
      · exact stand3
      · exact stand22)
    goes
end DeskLines
#print axioms DeskLines.proved
end Go.Proofs.YtefpejnmhlhnkaaGreatDoor

/-
  The law EngineAsks: the program and the reference tell the same asks as right ones. Condition: the listed variables read as the program's text lays them.
-/
import Derived.Test.YtenikchlnfhikaaGreatDoorY16
import Derived.Test.YtenikchlnfhikaaGreatDoorCards
import Derived.SevenTiedAt
set_option linter.unusedVariables false
set_option linter.unusedSimpArgs false
namespace Go.Proofs.YtenikchlnfhikaaGreatDoor
namespace EngineAsks
open Go.ChangeShapes Go.WideShapes Go.ChangeAt Go.Deep Go.RowKit

theorem namedF : Tryz.prog.funcNamed "debenture/debenturelaw26.EngineAsks" = some 3 := by kernel_rfl
theorem noInit : Tryz.prog.inits.idxOf? 3 = none := by kernel_rfl
theorem wOk (os : Os) : Input.okWideB Tryz.prog ((doorL os).forCall (fun _ _ => 0) ⟨#[], #[.agg #[.int .i64 0, .string { data := #[] }, .string { data := #[] }, .string { data := #[] }, .string { data := #[] }, .string { data := #[] }, .int .i64 0, .int .i64 0, .int .i64 0, .int .i64 0]], []⟩) 3 ⟨#[], #[.agg #[.int .i64 0, .string { data := #[] }, .string { data := #[] }, .string { data := #[] }, .string { data := #[] }, .string { data := #[] }, .int .i64 0, .int .i64 0, .int .i64 0, .int .i64 0]], []⟩ = true := by kernel_rfl
theorem wPre (os : Os) (H : Type) (enc : TypeId × Value → H) : Rows.engineAsksSpec.preB enc Tryz.prog Tryz.f3 [] false ((doorL os).forCall (fun _ _ => 0) ⟨#[], #[.agg #[.int .i64 0, .string { data := #[] }, .string { data := #[] }, .string { data := #[] }, .string { data := #[] }, .string { data := #[] }, .int .i64 0, .int .i64 0, .int .i64 0, .int .i64 0]], []⟩).memory #[.agg #[.int .i64 0, .string { data := #[] }, .string { data := #[] }, .string { data := #[] }, .string { data := #[] }, .string { data := #[] }, .int .i64 0, .int .i64 0, .int .i64 0, .int .i64 0]] 8 = true := by kernel_rfl
theorem wSz (os : Os) (H : Type) (enc : TypeId × Value → H) : Rows.engineAsksSpec.sizedB enc Tryz.prog Tryz.f3 false ((doorL os).forCall (fun _ _ => 0) ⟨#[], #[.agg #[.int .i64 0, .string { data := #[] }, .string { data := #[] }, .string { data := #[] }, .string { data := #[] }, .string { data := #[] }, .int .i64 0, .int .i64 0, .int .i64 0, .int .i64 0]], []⟩).memory #[.agg #[.int .i64 0, .string { data := #[] }, .string { data := #[] }, .string { data := #[] }, .string { data := #[] }, .string { data := #[] }, .int .i64 0, .int .i64 0, .int .i64 0, .int .i64 0]] 8 = true := by kernel_rfl
set_option maxRecDepth 100000 in
theorem lifted (os : Os) (started : os.Started) (H : Type) (enc : TypeId × Value → H) :
    ReturnsInHanded {} Tryz.checked os 3 .any (fun w args => (Rows.engineAsksSpec.pre enc Tryz.prog Tryz.f3 [] false w args ∧ laidMetH Tryz.prog laidL w) ∧ sizedMet enc Tryz.prog Tryz.f3 (OpenSpec.ofChange Rows.engineAsksSpec) false w args) (Rows.engineAsksSpec.post enc Tryz.prog Tryz.f3 false true false false) := by
  refine lift_laid (C := Tryz.checked) (X := fun w _ => laidMetH Tryz.prog laidL w) (fun _ _ _ hh h => h.of_heap hh) own started noInit Tryz.func3
    (ChangeSpec.witness_shaped (enc := enc) (C := Tryz.checked) (os := os) (X := fun w _ => laidMetH Tryz.prog laidL w) false (doorL os) #[.agg #[.int .i64 0, .string { data := #[] }, .string { data := #[] }, .string { data := #[] }, .string { data := #[] }, .string { data := #[] }, .int .i64 0, .int .i64 0, .int .i64 0, .int .i64 0]] 8 rfl (doorS os _) (wOk os) (wPre os H enc) (wSz os H enc) (door_met os _)) ?_
  intro W base args ds gs before hval0 hW hL hsh
  have hval : ∀ (j : Nat) t v, Tryz.f3.params[j]? = some t → args[j]? = some v → Value.okWide Tryz.prog W .any base t v := hval0
  have hW' := hW
  obtain ⟨p, q, hA0, hV, rfl, hfz, hnd⟩ := hW
  have hA : DataW.TrodAll enc Tryz.prog W 0 (fun _ => true) true Tryz.f3.params.toList args.toList ds p := hA0
  rw [Tryz.params3] at hA hval
  obtain ⟨v0, vs0, d0, ds0, p0, q0, hargs, rfl, rfl, h0, r0⟩ := trodAll_cons hA
  obtain ⟨rfl, rfl, rfl⟩ := trodAll_nil r0
  obtain rfl : args = #[v0] := by cases args; simp_all
  obtain ⟨rfl, rfl⟩ := trodVars_none hV
  have k0 := h0
  have lt0 : ∀ x ∈ p0, x.block < W.heap.size := by obtain ⟨m, hm⟩ := k0; exact DataW.trod_lt m _ _ _ hm
  obtain ⟨a, rfl, hb⟩ := open_ask26 (hval 0 _ v0 rfl rfl) h0
  clear hA0 hval0
  have gv := gv_of_laid hL hsh
  refine (walk_asks a W gv hb).mono fun e W' ⟨he, bel⟩ => ?_
  subst he
  exact ⟨_, rfl, _, _, _, [], _, [], hW', trodAll_mk1 (shut_bool Tryz.underlying4 _), (trodAll_cons_mk (Below.trod laidOut (by kernel_rfl) (of_decide_eq_true (by kernel_rfl)) k0 bel lt0) trodAll_mk0), rfl, bel.frame _, fun h => by cases h⟩

theorem lPs : Tryz.f3.params.toList = [23] := by kernel_rfl
theorem lRs : Tryz.f3.resultTypes.toList = [4] := by kernel_rfl
theorem lLs : (Rows.engineAsksRow.laid.filterMap fun x => (Tryz.prog.globalNamed x.1).bind fun g => (Tryz.prog.globals[g]?).map (·.type)) = [269, 269, 770, 780, 781, 730] := by kernel_rfl
theorem lTie : namedTie Tryz.prog Rows.engineAsksRow.named Rows.engineAsksSpec.vars = true := by kernel_rfl
theorem lPl : (Rows.engineAsksRow.plainKeys == Tryz.prog.plainKeys) = true := by kernel_rfl
theorem lLf : (Rows.engineAsksRow.lifted == Tryz.prog.liftsFinal) = true := by kernel_rfl
theorem lMk : (Tryz.prog.make == some Rows.engineAsksRow.make) = true := by kernel_rfl
theorem lMo : (Rows.engineAsksRow.mapsOut == Tryz.prog.mapsAmong Tryz.f3.resultTypes.toList) = true := by kernel_rfl
theorem lPt : ∀ t ∈ ([23] : List Nat), Tame Tryz.prog t := fun t ht => by
  simp only [List.mem_cons, List.not_mem_nil, or_false] at ht
  rcases ht with rfl
  · exact tame23
theorem lRt : ∀ t ∈ ([4] : List Nat), Tame Tryz.prog t ∧ t < Tryz.prog.types.size := fun t ht => by
  simp only [List.mem_cons, List.not_mem_nil, or_false] at ht
  subst ht
  exact ⟨tame4, by rw [tsz]; decide⟩
theorem lLt : ∀ t ∈ ([269, 269, 770, 780, 781, 730] : List Nat), Tryz.prog.veiledRec t = false := fun t ht => by
  simp only [List.mem_cons, List.not_mem_nil, or_false] at ht
  rcases ht with rfl | rfl | rfl | rfl | rfl | rfl
  · exact veil269
  · exact veil269
  · exact veil770
  · exact veil780
  · exact veil781
  · exact veil730
theorem facts : joinedFacts Tryz.prog 3 Tryz.f3 Rows.engineAsksSpec Rows.engineAsksRow = true :=
  joined_plain lPs rfl lRs lPt lRt rfl rfl rfl rfl rfl rfl rfl rfl lLs lLt rfl laidOut mapsRow lTie rfl stops_ rfl knobs_ inPlaceEngineAsks rfl rfl unfollowedEngineAsks namedEngineAsks lMo rfl lPl rfl heard enterable lLf lMk rfl rfl
theorem inst : Tryz.f3.isInstance Tryz.prog Rows.engineAsksRow.origin Rows.engineAsksRow.targs := of_decide_eq_true (by kernel_rfl)
theorem wrap : Tryz.f3.isWrapper Tryz.prog Rows.engineAsksRow.wrapper Rows.engineAsksRow.mainSum := by
  unfold Func.isWrapper
  first | (rw [if_pos (by decide +kernel)]; kernel_rfl) | (rw [if_neg (by decide +kernel)]; exact ⟨rfl, rfl⟩)
theorem over : Rows.EngineAsksSaid :=
  OpenClaim.holds_of_wide 3 Tryz.f3 rfl rfl rfl rfl rfl rfl rfl ⟨rfl, rfl, rfl, rfl, rfl⟩ rfl rfl rfl rfl rfl namedF Tryz.func3 facts inst wrap
    (fun os started H enc _ => lifted os started H enc)
theorem byText : Rows.engineAsksRow.wfByText (OpenSpec.ofChange Rows.engineAsksSpec) = true := by kernel_rfl
theorem tied : Rows.engineAsksRow.laidByTextAt .later Tryz.pinned [.sentinel, .sentinel, .data, .data, .data, .data] true := OpenClaim.laidByTextAt_later rfl rfl tieAll noOwn fitsL
theorem goes : false = Rows.engineAsksRow.goesBy Tryz.prog := goes_of noGoes rfl namedF
theorem stand23 : Tryz.prog.wantsStandIn 23 = false := by kernel_rfl

theorem proved : Rows.EngineAsksCardSaid :=
  Claim7.holds_tied_plain_at .later [] [.sentinel, .sentinel, .data, .data, .data, .data] true (true, "1ce0cc3bba0e40533cc3edafa8a4ca401495f6ef636b0550eb557ef9769d0302") true
    over (fun _ h => by cases h) byText (fun _ h => by cases h) tied rfl ⟨rfl, rfl⟩ mainIs_ rfl
    (fun f fn hf hfn => by
      obtain rfl : f = 3 := Option.some.inj (namedF.symm.trans hf) |>.symm
      obtain rfl : fn = Tryz.f3 := (Option.some.inj (Tryz.func3.symm.trans hfn)).symm
      refine ⟨looks_, fun j t ht => ?_⟩
      rw [Tryz.params3] at ht
      have hm : t ∈ [23] := by simpa using Array.mem_of_getElem? ht
      simp only [List.mem_cons, List.not_mem_nil, or_false] at hm
      rcases hm with rfl
      · exact stand23)
    goes
end EngineAsks
#print axioms EngineAsks.proved
end Go.Proofs.YtenikchlnfhikaaGreatDoor

/-
  The law ArchiveNone: of no engine, and no shelf, nothing comes; of an item that is not there its error. Condition: the listed variables read as the program's text lays them.
-/
import Derived.Test.YtenikchlnfhikaaGreatDoorY20
import Derived.Test.YtenikchlnfhikaaGreatDoorCards
import Derived.SevenTiedAt
set_option linter.unusedVariables false
set_option linter.unusedSimpArgs false
namespace Go.Proofs.YtenikchlnfhikaaGreatDoor
namespace ArchiveNone
open Go.ChangeShapes Go.WideShapes Go.ChangeAt Go.Deep Go.RowKit

theorem namedF : Tryz.prog.funcNamed "debenture/debenturelaw27.ArchiveNone" = some 5 := by kernel_rfl
theorem noInit : Tryz.prog.inits.idxOf? 5 = none := by kernel_rfl
theorem wOk (os : Os) : Input.okWideB Tryz.prog ((doorL os).forCall (fun _ _ => 0) ⟨#[], #[.string { data := #[] }, .string { data := #[] }], []⟩) 5 ⟨#[], #[.string { data := #[] }, .string { data := #[] }], []⟩ = true := by kernel_rfl
theorem wPre (os : Os) (H : Type) (enc : TypeId × Value → H) : Rows.archiveNoneSpec.preB enc Tryz.prog Tryz.f5 [] false ((doorL os).forCall (fun _ _ => 0) ⟨#[], #[.string { data := #[] }, .string { data := #[] }], []⟩).memory #[.string { data := #[] }, .string { data := #[] }] 8 = true := by kernel_rfl
theorem wSz (os : Os) (H : Type) (enc : TypeId × Value → H) : Rows.archiveNoneSpec.sizedB enc Tryz.prog Tryz.f5 false ((doorL os).forCall (fun _ _ => 0) ⟨#[], #[.string { data := #[] }, .string { data := #[] }], []⟩).memory #[.string { data := #[] }, .string { data := #[] }] 8 = true := by kernel_rfl
set_option maxRecDepth 100000 in
theorem lifted (os : Os) (started : os.Started) (H : Type) (enc : TypeId × Value → H) :
    ReturnsInHanded {} Tryz.checked os 5 .any (fun w args => (Rows.archiveNoneSpec.pre enc Tryz.prog Tryz.f5 [] false w args ∧ laidMetH Tryz.prog laidL w) ∧ sizedMet enc Tryz.prog Tryz.f5 (OpenSpec.ofChange Rows.archiveNoneSpec) false w args) (Rows.archiveNoneSpec.post enc Tryz.prog Tryz.f5 false true false false) := by
  refine lift_laid (C := Tryz.checked) (X := fun w _ => laidMetH Tryz.prog laidL w) (fun _ _ _ hh h => h.of_heap hh) own started noInit Tryz.func5
    (ChangeSpec.witness_shaped (enc := enc) (C := Tryz.checked) (os := os) (X := fun w _ => laidMetH Tryz.prog laidL w) false (doorL os) #[.string { data := #[] }, .string { data := #[] }] 8 rfl (doorS os _) (wOk os) (wPre os H enc) (wSz os H enc) (door_met os _)) ?_
  intro W base args ds gs before hval0 hW hL hsh
  have hval : ∀ (j : Nat) t v, Tryz.f5.params[j]? = some t → args[j]? = some v → Value.okWide Tryz.prog W .any base t v := hval0
  have hW' := hW
  obtain ⟨p, q, hA0, hV, rfl, hfz, hnd⟩ := hW
  have hA : DataW.TrodAll enc Tryz.prog W 0 (fun _ => true) true Tryz.f5.params.toList args.toList ds p := hA0
  rw [Tryz.params5] at hA hval
  obtain ⟨v0, vs0, d0, ds0, p0, q0, hargs, rfl, rfl, h0, r0⟩ := trodAll_cons hA
  obtain ⟨v1, vs1, d1, ds1, p1, q1, rfl, rfl, rfl, h1, r1⟩ := trodAll_cons r0
  obtain ⟨rfl, rfl, rfl⟩ := trodAll_nil r1
  obtain rfl : args = #[v0, v1] := by cases args; simp_all
  obtain ⟨rfl, rfl⟩ := trodVars_none hV
  have k0 := h0
  have lt0 : ∀ x ∈ p0, x.block < W.heap.size := by obtain ⟨m, hm⟩ := k0; exact DataW.trod_lt m _ _ _ hm
  have k1 := h1
  have lt1 : ∀ x ∈ p1, x.block < W.heap.size := by obtain ⟨m, hm⟩ := k1; exact DataW.trod_lt m _ _ _ hm
  obtain ⟨i, rfl, hi, hil⟩ := open_str Tryz.underlying9 (hval 0 _ v0 rfl rfl)
  obtain ⟨s, rfl, hs, hsl⟩ := open_str Tryz.underlying9 (hval 1 _ v1 rfl rfl)
  clear hA0 hval0
  have gv := gv_of_laid hL hsh
  refine (walk_archive i s W gv hi hs hil hsl).mono fun e W' ⟨he, bel⟩ => ?_
  subst he
  exact ⟨_, rfl, _, _, _, [], _, [], hW', trodAll_mk1 (shut_bool Tryz.underlying4 _), (trodAll_cons_mk (Below.trod laidOut (by kernel_rfl) (of_decide_eq_true (by kernel_rfl)) k0 bel lt0) (trodAll_cons_mk (Below.trod laidOut (by kernel_rfl) (of_decide_eq_true (by kernel_rfl)) k1 bel lt1) trodAll_mk0)), rfl, bel.frame _, fun h => by cases h⟩

theorem lPs : Tryz.f5.params.toList = [9, 9] := by kernel_rfl
theorem lRs : Tryz.f5.resultTypes.toList = [4] := by kernel_rfl
theorem lLs : (Rows.archiveNoneRow.laid.filterMap fun x => (Tryz.prog.globalNamed x.1).bind fun g => (Tryz.prog.globals[g]?).map (·.type)) = [269, 269, 770, 780, 781, 730] := by kernel_rfl
theorem lTie : namedTie Tryz.prog Rows.archiveNoneRow.named Rows.archiveNoneSpec.vars = true := by kernel_rfl
theorem lPl : (Rows.archiveNoneRow.plainKeys == Tryz.prog.plainKeys) = true := by kernel_rfl
theorem lLf : (Rows.archiveNoneRow.lifted == Tryz.prog.liftsFinal) = true := by kernel_rfl
theorem lMk : (Tryz.prog.make == some Rows.archiveNoneRow.make) = true := by kernel_rfl
theorem lMo : (Rows.archiveNoneRow.mapsOut == Tryz.prog.mapsAmong Tryz.f5.resultTypes.toList) = true := by kernel_rfl
theorem lPt : ∀ t ∈ ([9, 9] : List Nat), Tame Tryz.prog t := fun t ht => by
  simp only [List.mem_cons, List.not_mem_nil, or_false] at ht
  rcases ht with rfl | rfl
  · exact tame9
  · exact tame9
theorem lRt : ∀ t ∈ ([4] : List Nat), Tame Tryz.prog t ∧ t < Tryz.prog.types.size := fun t ht => by
  simp only [List.mem_cons, List.not_mem_nil, or_false] at ht
  subst ht
  exact ⟨tame4, by rw [tsz]; decide⟩
theorem lLt : ∀ t ∈ ([269, 269, 770, 780, 781, 730] : List Nat), Tryz.prog.veiledRec t = false := fun t ht => by
  simp only [List.mem_cons, List.not_mem_nil, or_false] at ht
  rcases ht with rfl | rfl | rfl | rfl | rfl | rfl
  · exact veil269
  · exact veil269
  · exact veil770
  · exact veil780
  · exact veil781
  · exact veil730
theorem facts : joinedFacts Tryz.prog 5 Tryz.f5 Rows.archiveNoneSpec Rows.archiveNoneRow = true :=
  joined_plain lPs rfl lRs lPt lRt rfl rfl rfl rfl rfl rfl rfl rfl lLs lLt rfl laidOut mapsRow lTie rfl stops_ rfl knobs_ inPlaceArchiveNone rfl rfl unfollowedArchiveNone namedArchiveNone lMo rfl lPl rfl heard enterable lLf lMk rfl rfl
theorem inst : Tryz.f5.isInstance Tryz.prog Rows.archiveNoneRow.origin Rows.archiveNoneRow.targs := of_decide_eq_true (by kernel_rfl)
theorem wrap : Tryz.f5.isWrapper Tryz.prog Rows.archiveNoneRow.wrapper Rows.archiveNoneRow.mainSum := by
  unfold Func.isWrapper
  first | (rw [if_pos (by decide +kernel)]; kernel_rfl) | (rw [if_neg (by decide +kernel)]; exact ⟨rfl, rfl⟩)
theorem over : Rows.ArchiveNoneSaid :=
  OpenClaim.holds_of_wide 5 Tryz.f5 rfl rfl rfl rfl rfl rfl rfl ⟨rfl, rfl, rfl, rfl, rfl⟩ rfl rfl rfl rfl rfl namedF Tryz.func5 facts inst wrap
    (fun os started H enc _ => lifted os started H enc)
theorem byText : Rows.archiveNoneRow.wfByText (OpenSpec.ofChange Rows.archiveNoneSpec) = true := by kernel_rfl
theorem tied : Rows.archiveNoneRow.laidByTextAt .later Tryz.pinned [.sentinel, .sentinel, .data, .data, .data, .data] true := OpenClaim.laidByTextAt_later rfl rfl tieAll noOwn fitsL
theorem goes : false = Rows.archiveNoneRow.goesBy Tryz.prog := goes_of noGoes rfl namedF
theorem stand9 : Tryz.prog.wantsStandIn 9 = false := by kernel_rfl

theorem proved : Rows.ArchiveNoneCardSaid :=
  Claim7.holds_tied_plain_at .later [] [.sentinel, .sentinel, .data, .data, .data, .data] true (true, "1ce0cc3bba0e40533cc3edafa8a4ca401495f6ef636b0550eb557ef9769d0302") true
    over (fun _ h => by cases h) byText (fun _ h => by cases h) tied rfl ⟨rfl, rfl⟩ mainIs_ rfl
    (fun f fn hf hfn => by
      obtain rfl : f = 5 := Option.some.inj (namedF.symm.trans hf) |>.symm
      obtain rfl : fn = Tryz.f5 := (Option.some.inj (Tryz.func5.symm.trans hfn)).symm
      refine ⟨looks_, fun j t ht => ?_⟩
      rw [Tryz.params5] at ht
      have hm : t ∈ [9, 9] := by simpa using Array.mem_of_getElem? ht
      simp only [List.mem_cons, List.not_mem_nil, or_false] at hm
      rcases hm with rfl | rfl
      · exact stand9
      · exact stand9)
    goes
end ArchiveNone
#print axioms ArchiveNone.proved
end Go.Proofs.YtenikchlnfhikaaGreatDoor

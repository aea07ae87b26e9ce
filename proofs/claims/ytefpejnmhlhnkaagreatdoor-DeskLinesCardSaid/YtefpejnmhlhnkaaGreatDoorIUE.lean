/-
  The kit's contracts of maps.Keys, slices.Sorted and slices.Sort laid at this seat; what the interpreter asks of a map's keys in order, and of the place of a byte. No condition.
-/
import Derived.Test.YtefpejnmhlhnkaaGreatDoorProg
import Derived.Test.YtefpejnmhlhnkaaGreatDoorWords
import Derived.Test.YtefpejnmhlhnkaaGreatDoorIM2
import Derived.Shelf.SlIter.Nil
import Derived.Shelf.SortM.Plain
import Derived.Shelf.SortM.SortNone
set_option linter.unusedVariables false
namespace Go.Proofs.YtefpejnmhlhnkaaGreatDoor
open Go.RowKit Go.Maps Go.Sort Go.Shelf
def shKeys_ren : Go.Shelf.Ren := ⟨fun | 7 => 297 | 10 => 428 | n => n, fun | 23 => 86 | 26 => 9 | 3 => 315 | 28 => 445 | 0 => 0 | 27 => 444 | 33 => 203 | 4 => 4 | n => n, fun | n => n⟩
theorem shKeys : Go.Proofs.SlLaysZ.n7 Tryz.prog shKeys_ren where
  mixed := by kernel_rfl
  f7 := ⟨ "maps.Keys[map[string]*debenture/disk.file,string,*debenture/disk.file]", by decide, Tryz.func297.trans (congrArg some (by kernel_rfl))⟩
  f10 := ⟨ "maps.Keys[map[string]*debenture/disk.file,string,*debenture/disk.file]$1", by decide, Tryz.func428.trans (congrArg some (by kernel_rfl))⟩
  t0 := Tryz.underlying0
  a0 := Tryz.isAgg0
  z0 := Tryz.sizeOf0
  v0 := Tryz.zeroValue0
  t4 := Tryz.underlying4
  a4 := Tryz.isAgg4
  z4 := Tryz.sizeOf4
  v4 := Tryz.zeroValue4
  t23 := Tryz.underlying86
  a23 := Tryz.isAgg86
  z23 := Tryz.sizeOf86
  v23 := Tryz.zeroValue86
  t26 := Tryz.underlying9
  a26 := Tryz.isAgg9
  z26 := Tryz.sizeOf9
  v26 := Tryz.zeroValue9
  t27 := Tryz.underlying444
  a27 := Tryz.isAgg444
  z27 := Tryz.sizeOf444
  v27 := Tryz.zeroValue444
  t28 := Tryz.underlying445
  a28 := Tryz.isAgg445
  z28 := Tryz.sizeOf445
  v28 := Tryz.zeroValue445
  t33 := Tryz.underlying203
  a33 := Tryz.isAgg203
  z33 := Tryz.sizeOf203
  v33 := Tryz.zeroValue203
def shKeysB_ren : Go.Shelf.Ren := ⟨fun | 7 => 290 | 10 => 419 | n => n, fun | 23 => 170 | 26 => 9 | 3 => 363 | 28 => 445 | 0 => 0 | 27 => 444 | 33 => 203 | 4 => 4 | n => n, fun | n => n⟩
theorem shKeysB : Go.Proofs.SlLaysZ.n7 Tryz.prog shKeysB_ren where
  mixed := by kernel_rfl
  f7 := ⟨ "maps.Keys[map[string]debenture/event.Contract,string,debenture/event.Contract]", by decide, Tryz.func290.trans (congrArg some (by kernel_rfl))⟩
  f10 := ⟨ "maps.Keys[map[string]debenture/event.Contract,string,debenture/event.Contract]$1", by decide, Tryz.func419.trans (congrArg some (by kernel_rfl))⟩
  t0 := Tryz.underlying0
  a0 := Tryz.isAgg0
  z0 := Tryz.sizeOf0
  v0 := Tryz.zeroValue0
  t4 := Tryz.underlying4
  a4 := Tryz.isAgg4
  z4 := Tryz.sizeOf4
  v4 := Tryz.zeroValue4
  t23 := Tryz.underlying170
  a23 := Tryz.isAgg170
  z23 := Tryz.sizeOf170
  v23 := Tryz.zeroValue170
  t26 := Tryz.underlying9
  a26 := Tryz.isAgg9
  z26 := Tryz.sizeOf9
  v26 := Tryz.zeroValue9
  t27 := Tryz.underlying444
  a27 := Tryz.isAgg444
  z27 := Tryz.sizeOf444
  v27 := Tryz.zeroValue444
  t28 := Tryz.underlying445
  a28 := Tryz.isAgg445
  z28 := Tryz.sizeOf445
  v28 := Tryz.zeroValue445
  t33 := Tryz.underlying203
  a33 := Tryz.isAgg203
  z33 := Tryz.sizeOf203
  v33 := Tryz.zeroValue203
def shSorted_ren : Go.Shelf.Ren := ⟨fun | 6 => 289 | 8 => 418 | 9 => 371 | 11 => 564 | 13 => 329 | 12 => 504 | 23 => 462 | 24 => 463 | 14 => 626 | 15 => 627 | 16 => 628 | 17 => 629 | 18 => 630 | 19 => 631 | 20 => 632 | 21 => 633 | 22 => 634 | 25 => 692 | 26 => 590 | 27 => 591 | 28 => 693 | 29 => 694 | 30 => 584 | 31 => 715 | n => n, fun | 26 => 9 | 28 => 445 | 24 => 126 | 0 => 0 | 3 => 3 | 37 => 309 | 48 => 461 | 50 => 160 | 4 => 4 | 40 => 602 | 39 => 601 | 45 => 31 | 5 => 5 | 9 => 9 | 51 => 706 | 55 => 709 | 57 => 766 | 58 => 45 | 33 => 203 | n => n, fun | n => n⟩
theorem shSorted : Go.Proofs.SlLaysZ.n6 Tryz.prog shSorted_ren where
  mixed := by kernel_rfl
  f6 := ⟨ "slices.Sorted[string]", by decide, Tryz.func289.trans (congrArg some (by kernel_rfl))⟩
  f8 := ⟨ "slices.Collect[string]", by decide, Tryz.func418.trans (congrArg some (by kernel_rfl))⟩
  f11 := ⟨ "slices.AppendSeq[[]string,string]", by decide, Tryz.func564.trans (congrArg some (by kernel_rfl))⟩
  t0 := Tryz.underlying0
  a0 := Tryz.isAgg0
  z0 := Tryz.sizeOf0
  v0 := Tryz.zeroValue0
  t24 := Tryz.underlying126
  a24 := Tryz.isAgg126
  z24 := Tryz.sizeOf126
  v24 := Tryz.zeroValue126
  t26 := Tryz.underlying9
  a26 := Tryz.isAgg9
  z26 := Tryz.sizeOf9
  v26 := Tryz.zeroValue9
  t28 := Tryz.underlying445
  a28 := Tryz.isAgg445
  z28 := Tryz.sizeOf445
  v28 := Tryz.zeroValue445
  i26 := by kernel_rfl
def shSortS_ren : Go.Shelf.Ren := ⟨fun | 6 => 371 | 8 => 329 | 9 => 504 | 19 => 462 | 20 => 463 | 21 => 626 | 22 => 627 | 23 => 628 | 24 => 629 | 25 => 630 | 26 => 631 | 27 => 632 | 28 => 633 | 29 => 634 | 36 => 692 | 31 => 590 | 32 => 591 | 37 => 693 | 38 => 694 | 39 => 584 | 41 => 715 | n => n, fun | 27 => 126 | 29 => 9 | 3 => 3 | 32 => 309 | 26 => 126 | 0 => 0 | 44 => 461 | 46 => 160 | 4 => 4 | 36 => 602 | 35 => 601 | 41 => 31 | 5 => 5 | 9 => 9 | 53 => 706 | 57 => 709 | 63 => 766 | 64 => 45 | n => n, fun | n => n⟩
theorem shSortS : Go.Proofs.SlLaysM.n6 Tryz.prog shSortS_ren where
  mixed := by kernel_rfl
  f6 := ⟨ "slices.Sort[[]string,string]", by decide, Tryz.func371.trans (congrArg some (by kernel_rfl))⟩
  f8 := Tryz.func329.trans (congrArg some (by kernel_rfl))
  f9 := ⟨ "slices.pdqsortOrdered[string]", by decide, Tryz.func504.trans (congrArg some (by kernel_rfl))⟩
  f19 := Tryz.func462.trans (congrArg some (by kernel_rfl))
  f20 := Tryz.func463.trans (congrArg some (by kernel_rfl))
  f21 := ⟨ "slices.insertionSortOrdered[string]", by decide, Tryz.func626.trans (congrArg some (by kernel_rfl))⟩
  f22 := ⟨ "slices.heapSortOrdered[string]", by decide, Tryz.func627.trans (congrArg some (by kernel_rfl))⟩
  f23 := ⟨ "slices.breakPatternsOrdered[string]", by decide, Tryz.func628.trans (congrArg some (by kernel_rfl))⟩
  f24 := ⟨ "slices.choosePivotOrdered[string]", by decide, Tryz.func629.trans (congrArg some (by kernel_rfl))⟩
  f25 := ⟨ "slices.reverseRangeOrdered[string]", by decide, Tryz.func630.trans (congrArg some (by kernel_rfl))⟩
  f26 := ⟨ "slices.partialInsertionSortOrdered[string]", by decide, Tryz.func631.trans (congrArg some (by kernel_rfl))⟩
  f27 := ⟨ "cmp.Less[string]", by decide, Tryz.func632.trans (congrArg some (by kernel_rfl))⟩
  f28 := ⟨ "slices.partitionEqualOrdered[string]", by decide, Tryz.func633.trans (congrArg some (by kernel_rfl))⟩
  f29 := ⟨ "slices.partitionOrdered[string]", by decide, Tryz.func634.trans (congrArg some (by kernel_rfl))⟩
  f31 := Tryz.func590.trans (congrArg some (by kernel_rfl))
  f32 := Tryz.func591.trans (congrArg some (by kernel_rfl))
  f36 := ⟨ "slices.siftDownOrdered[string]", by decide, Tryz.func692.trans (congrArg some (by kernel_rfl))⟩
  f37 := ⟨ "slices.medianAdjacentOrdered[string]", by decide, Tryz.func693.trans (congrArg some (by kernel_rfl))⟩
  f38 := ⟨ "slices.medianOrdered[string]", by decide, Tryz.func694.trans (congrArg some (by kernel_rfl))⟩
  f39 := ⟨ "cmp.isNaN[string]", by decide, Tryz.func584.trans (congrArg some (by kernel_rfl))⟩
  f41 := ⟨ "slices.order2Ordered[string]", by decide, Tryz.func715.trans (congrArg some (by kernel_rfl))⟩
  t0 := Tryz.underlying0
  a0 := Tryz.isAgg0
  z0 := Tryz.sizeOf0
  v0 := Tryz.zeroValue0
  t3 := Tryz.underlying3
  a3 := Tryz.isAgg3
  z3 := Tryz.sizeOf3
  v3 := Tryz.zeroValue3
  t4 := Tryz.underlying4
  a4 := Tryz.isAgg4
  z4 := Tryz.sizeOf4
  v4 := Tryz.zeroValue4
  t5 := Tryz.underlying5
  a5 := Tryz.isAgg5
  z5 := Tryz.sizeOf5
  v5 := Tryz.zeroValue5
  t9 := Tryz.underlying9
  a9 := Tryz.isAgg9
  z9 := Tryz.sizeOf9
  v9 := Tryz.zeroValue9
  t26 := Tryz.underlying126
  a26 := Tryz.isAgg126
  z26 := Tryz.sizeOf126
  v26 := Tryz.zeroValue126
  t27 := Tryz.underlying126
  a27 := Tryz.isAgg126
  z27 := Tryz.sizeOf126
  v27 := Tryz.zeroValue126
  t29 := Tryz.underlying9
  a29 := Tryz.isAgg9
  z29 := Tryz.sizeOf9
  v29 := Tryz.zeroValue9
  t32 := Tryz.underlying309
  a32 := Tryz.isAgg309
  z32 := Tryz.sizeOf309
  v32 := Tryz.zeroValue309
  t35 := Tryz.underlying601
  a35 := Tryz.isAgg601
  z35 := Tryz.sizeOf601
  v35 := Tryz.zeroValue601
  t36 := Tryz.underlying602
  a36 := Tryz.isAgg602
  z36 := Tryz.sizeOf602
  v36 := Tryz.zeroValue602
  t41 := Tryz.underlying31
  a41 := Tryz.isAgg31
  z41 := Tryz.sizeOf31
  v41 := Tryz.zeroValue31
  t44 := Tryz.underlying461
  a44 := Tryz.isAgg461
  z44 := Tryz.sizeOf461
  v44 := Tryz.zeroValue461
  t46 := Tryz.underlying160
  a46 := Tryz.isAgg160
  z46 := Tryz.sizeOf160
  v46 := Tryz.zeroValue160
  t53 := Tryz.underlying706
  a53 := Tryz.isAgg706
  z53 := Tryz.sizeOf706
  v53 := Tryz.zeroValue706
  t57 := Tryz.underlying709
  a57 := Tryz.isAgg709
  z57 := Tryz.sizeOf709
  v57 := Tryz.zeroValue709
  t63 := Tryz.underlying766
  a63 := Tryz.isAgg766
  z63 := Tryz.sizeOf766
  v63 := Tryz.zeroValue766
  t64 := Tryz.underlying45
  a64 := Tryz.isAgg45
  z64 := Tryz.sizeOf45
  v64 := Tryz.zeroValue45
def anyR : Value → Option (DataW Unit × List MemPlace) := fun _ => some (.agg [], [])
theorem keyOf_str1 (sb : ByteArray) (h : sb.size ≤ 1000000) : keyOf Tryz.prog 9 (.string sb) = some (.string sb.data.toList) := by
  have hk := Tryz.underlying9
  have h2 : sb.size ≤ maxLen := by simp only [maxLen]; omega
  simp [keyOf, hk, mapKey, h2]
theorem owns_of {w : World} {m clk : Nat} {es : Array MapEntry} (h1 : w.heap[m]? = some (.map es clk)) (h2 : Go.MapKept.Stamped es clk) (hk : ∀ x ∈ es.toList, ∃ sb : ByteArray, x.key = .string sb ∧ sb.size ≤ 1000000) (hn : es.size ≤ 1000000) : ∃ D0 : DataW Unit, w.ownsMap Tryz.prog 9 anyR m es.size D0 ∧ (strKeys D0).Perm (es.toList.map fun x => RI.keyB x.key) ∧ Maps.size D0 = es.size := by
  have hrd2 : ∀ x ∈ es.toList, ∃ y, WideElems.rd Tryz.prog 9 anyR x = some y := fun x hx => by
    obtain ⟨sb, e, hs⟩ := hk x hx
    obtain ⟨key, val, born⟩ := x
    simp only at e
    subst e
    exact ⟨_, WideElems.rd_mk (keyOf_str1 sb hs) rfl⟩
  refine ⟨.map ((es.toList.map (WideElems.rg Tryz.prog 9 anyR)).foldr DataW.insert []), ⟨es, clk, h1, ⟨by simp only [maxLen]; omega, h2, hrd2⟩, Nat.le_refl _, rfl⟩, ?_, ?_⟩
  · show (((es.toList.map (WideElems.rg Tryz.prog 9 anyR)).foldr DataW.insert []).map fun p => Go.strOf p.1).Perm _
    refine ((WideShapes.sorted_perm _).map _).trans ?_
    rw [List.map_map]
    have : (es.toList.map ((fun p : Lit × DataW Unit => Go.strOf p.1) ∘ WideElems.rg Tryz.prog 9 anyR)) = es.toList.map fun x => RI.keyB x.key := by
      apply List.map_congr_left
      intro x hx
      obtain ⟨sb, e, hs⟩ := hk x hx
      obtain ⟨key, val, born⟩ := x
      simp only at e
      subst e
      have := WideElems.rg_of (WideElems.rd_mk (R := anyR) (val := val) (born := born) (keyOf_str1 sb hs) rfl)
      simp only [Function.comp, this]
      rfl
    rw [this]
  · show ((es.toList.map (WideElems.rg Tryz.prog 9 anyR)).foldr DataW.insert []).length = _
    rw [length_sorted]
    simp
theorem sortCon_of {ρk : Go.Shelf.Ren} (L : Go.Proofs.SlLaysZ.n10 Tryz.prog ρk) (ht : ρk.t 26 = 9) (eg : ∀ args w, (callFunc (ρk.f 10) args).run Tryz.prog w = .ok (.enter (ρk.f 10) args) w) : RI.SortCon Tryz.prog 289 (ρk.f 10) 9 := by
  have hsrt : AnyZ.SortsIn Tryz.prog shSorted_ren Fence.wide 4 :=
    ⟨fun blk off cap ss W hH hblk hsz => callsIn_wide.2 (AnyM.slices_Sort_string shSortS blk off cap ss W hH hblk hsz), fun p cap W => callsIn_wide.2 (AnyM.slices_Sort_string_none shSortS p cap W)⟩
  have hS : ∀ (S : List (List UInt8) → Prop) (N : Nat) (hN : N ≤ maxLen) (hNb : N * 16 ≤ 140737488355328) (w : World) (lb : Array Value), SeqGives Fence.wide 2 Tryz.prog (ρk.f 10) lb encStr S N w → _ := fun S N hN hNb w lb hseq =>
    callsIn_wide.1 (AnyZ.sorted_in shSorted Fence.wide 5 trivial trivial trivial trivial rfl (by omega) hsrt (enters_of Tryz.func371 (by kernel_rfl) rfl) (ρk.f 10) lb trivial eg S N hN hNb w hseq)
  refine ⟨fun w B b es clk hB hc hb hst hk hn => ?_, fun w B hB hc => ?_⟩
  · obtain ⟨D0, hown, hperm, hsize⟩ := owns_of hb hst hk hn
    have hseq := AnyZ.keys_gives L Fence.wide 2 trivial rfl (by omega) B b es.size D0 w hB hc (by rw [ht]; exact hown)
    refine (hS _ _ (by rw [hsize]; simp only [maxLen]; omega) (by rw [hsize]; omega) w _ hseq).mono ?_
    rintro e w' ⟨v, ss, rfl, h1, h2, h3, h4⟩
    exact ⟨v, ss, rfl, h1.trans hperm, h2, h3, h4⟩
  · have hseq := AnyZ.keys_gives_nil L Fence.wide 2 trivial rfl B w hB hc
    refine (hS _ _ (Nat.zero_le _) (by omega) w _ hseq).mono ?_
    rintro e w' ⟨v, ss, rfl, h1, h2, h3, h4⟩
    have := h3.2 h1
    subst this
    exact ⟨rfl, h4⟩
theorem sortCon_file : RI.SortCon Tryz.prog 289 428 9 :=
  sortCon_of (ρk := shKeys_ren) { shKeys with } rfl (enters_of Tryz.func428 (by kernel_rfl) rfl)
theorem sortCon_bool : RI.SortCon Tryz.prog 289 419 9 :=
  sortCon_of (ρk := shKeysB_ren) { shKeysB with } rfl (enters_of Tryz.func419 (by kernel_rfl) rfl)
theorem idxCon : RI.IdxCon Tryz.prog 664 := fun sb c w => by
  have := run_callFunc_extern (P := Tryz.prog) Tryz.func664 (by kernel_rfl) (by kernel_rfl) (by kernel_rfl) (e := Extern.BytealgIndexByte.indexByte) (by kernel_rfl) #[.string sb, .int .u8 c] w
  rw [this, Lib.run_indexByteString]
  rfl
end Go.Proofs.YtefpejnmhlhnkaaGreatDoor

/-
  Texts that were joined: IVE, IVI, InsA, InsB, IVF, IVG, TLoad, EsA, EqD, EqE, EqF, EqG, EnA. Conditions: what each theorem names.
-/
import Derived.Test.YtenikchlnfhikaaGreatDoorY0
import Derived.Test.YtenikchlnfhikaaGreatDoorY1
import Derived.Test.YtenikchlnfhikaaGreatDoorY4
import Derived.Shelf.SlIter.Nil
import Derived.Shelf.SortM.Plain
import Derived.Shelf.SortM.SortNone
import Derived.Recover
import Derived.Defers
import Derived.Lib.Overlaps
import Derived.Lib.AppendZerosOnto
import Derived.Laws.IdiomCopy
import Derived.Laws.Externs
import Derived.KernelRfl
set_option linter.unusedSectionVars false
set_option linter.unusedVariables false
set_option linter.unusedSimpArgs false
set_option linter.unusedVariables false
namespace Go.Proofs.YtenikchlnfhikaaGreatDoor
open Go.RowKit Go.Maps Go.Sort Go.Shelf
def shKeys_ren : Go.Shelf.Ren := ⟨fun | 7 => 446 | 10 => 569 | n => n, fun | 23 => 162 | 26 => 9 | 3 => 462 | 28 => 253 | 0 => 0 | 27 => 252 | 33 => 95 | 4 => 4 | n => n, fun | n => n⟩
theorem shKeys : Go.Proofs.SlLaysZ.n7 Tryz.prog shKeys_ren where
  mixed := by kernel_rfl
  f7 := ⟨ "maps.Keys[map[string]*debenture/disk.file,string,*debenture/disk.file]", by decide, Tryz.func446.trans (congrArg some (by kernel_rfl))⟩
  f10 := ⟨ "maps.Keys[map[string]*debenture/disk.file,string,*debenture/disk.file]$1", by decide, Tryz.func569.trans (congrArg some (by kernel_rfl))⟩
  t0 := Tryz.underlying0
  a0 := Tryz.isAgg0
  z0 := Tryz.sizeOf0
  v0 := Tryz.zeroValue0
  t4 := Tryz.underlying4
  a4 := Tryz.isAgg4
  z4 := Tryz.sizeOf4
  v4 := Tryz.zeroValue4
  t23 := Tryz.underlying162
  a23 := Tryz.isAgg162
  z23 := Tryz.sizeOf162
  v23 := Tryz.zeroValue162
  t26 := Tryz.underlying9
  a26 := Tryz.isAgg9
  z26 := Tryz.sizeOf9
  v26 := Tryz.zeroValue9
  t27 := Tryz.underlying252
  a27 := Tryz.isAgg252
  z27 := Tryz.sizeOf252
  v27 := Tryz.zeroValue252
  t28 := Tryz.underlying253
  a28 := Tryz.isAgg253
  z28 := Tryz.sizeOf253
  v28 := Tryz.zeroValue253
  t33 := Tryz.underlying95
  a33 := Tryz.isAgg95
  z33 := Tryz.sizeOf95
  v33 := Tryz.zeroValue95
def shKeysB_ren : Go.Shelf.Ren := ⟨fun | 7 => 146 | 10 => 265 | n => n, fun | 23 => 116 | 26 => 9 | 3 => 48 | 28 => 253 | 0 => 0 | 27 => 252 | 33 => 95 | 4 => 4 | n => n, fun | n => n⟩
theorem shKeysB : Go.Proofs.SlLaysZ.n7 Tryz.prog shKeysB_ren where
  mixed := by kernel_rfl
  f7 := ⟨ "maps.Keys[map[string]debenture/event.Contract,string,debenture/event.Contract]", by decide, Tryz.func146.trans (congrArg some (by kernel_rfl))⟩
  f10 := ⟨ "maps.Keys[map[string]debenture/event.Contract,string,debenture/event.Contract]$1", by decide, Tryz.func265.trans (congrArg some (by kernel_rfl))⟩
  t0 := Tryz.underlying0
  a0 := Tryz.isAgg0
  z0 := Tryz.sizeOf0
  v0 := Tryz.zeroValue0
  t4 := Tryz.underlying4
  a4 := Tryz.isAgg4
  z4 := Tryz.sizeOf4
  v4 := Tryz.zeroValue4
  t23 := Tryz.underlying116
  a23 := Tryz.isAgg116
  z23 := Tryz.sizeOf116
  v23 := Tryz.zeroValue116
  t26 := Tryz.underlying9
  a26 := Tryz.isAgg9
  z26 := Tryz.sizeOf9
  v26 := Tryz.zeroValue9
  t27 := Tryz.underlying252
  a27 := Tryz.isAgg252
  z27 := Tryz.sizeOf252
  v27 := Tryz.zeroValue252
  t28 := Tryz.underlying253
  a28 := Tryz.isAgg253
  z28 := Tryz.sizeOf253
  v28 := Tryz.zeroValue253
  t33 := Tryz.underlying95
  a33 := Tryz.isAgg95
  z33 := Tryz.sizeOf95
  v33 := Tryz.zeroValue95
def shKeysC_ren : Go.Shelf.Ren := ⟨fun | 7 => 345 | 10 => 491 | n => n, fun | 23 => 493 | 26 => 9 | 3 => 4 | 28 => 253 | 0 => 0 | 27 => 252 | 33 => 95 | 4 => 4 | n => n, fun | n => n⟩
theorem shKeysC : Go.Proofs.SlLaysZ.n7 Tryz.prog shKeysC_ren where
  mixed := by kernel_rfl
  f7 := ⟨ "maps.Keys[map[string]bool,string,bool]", by decide, Tryz.func345.trans (congrArg some (by kernel_rfl))⟩
  f10 := ⟨ "maps.Keys[map[string]bool,string,bool]$1", by decide, Tryz.func491.trans (congrArg some (by kernel_rfl))⟩
  t0 := Tryz.underlying0
  a0 := Tryz.isAgg0
  z0 := Tryz.sizeOf0
  v0 := Tryz.zeroValue0
  t4 := Tryz.underlying4
  a4 := Tryz.isAgg4
  z4 := Tryz.sizeOf4
  v4 := Tryz.zeroValue4
  t23 := Tryz.underlying493
  a23 := Tryz.isAgg493
  z23 := Tryz.sizeOf493
  v23 := Tryz.zeroValue493
  t26 := Tryz.underlying9
  a26 := Tryz.isAgg9
  z26 := Tryz.sizeOf9
  v26 := Tryz.zeroValue9
  t27 := Tryz.underlying252
  a27 := Tryz.isAgg252
  z27 := Tryz.sizeOf252
  v27 := Tryz.zeroValue252
  t28 := Tryz.underlying253
  a28 := Tryz.isAgg253
  z28 := Tryz.sizeOf253
  v28 := Tryz.zeroValue253
  t33 := Tryz.underlying95
  a33 := Tryz.isAgg95
  z33 := Tryz.sizeOf95
  v33 := Tryz.zeroValue95
def shKeysD_ren : Go.Shelf.Ren := ⟨fun | 7 => 606 | 10 => 668 | n => n, fun | 23 => 720 | 26 => 9 | 3 => 515 | 28 => 253 | 0 => 0 | 27 => 252 | 33 => 95 | 4 => 4 | n => n, fun | n => n⟩
theorem shKeysD : Go.Proofs.SlLaysZ.n7 Tryz.prog shKeysD_ren where
  mixed := by kernel_rfl
  f7 := ⟨ "maps.Keys[map[string][]int64,string,[]int64]", by decide, Tryz.func606.trans (congrArg some (by kernel_rfl))⟩
  f10 := ⟨ "maps.Keys[map[string][]int64,string,[]int64]$1", by decide, Tryz.func668.trans (congrArg some (by kernel_rfl))⟩
  t0 := Tryz.underlying0
  a0 := Tryz.isAgg0
  z0 := Tryz.sizeOf0
  v0 := Tryz.zeroValue0
  t4 := Tryz.underlying4
  a4 := Tryz.isAgg4
  z4 := Tryz.sizeOf4
  v4 := Tryz.zeroValue4
  t23 := Tryz.underlying720
  a23 := Tryz.isAgg720
  z23 := Tryz.sizeOf720
  v23 := Tryz.zeroValue720
  t26 := Tryz.underlying9
  a26 := Tryz.isAgg9
  z26 := Tryz.sizeOf9
  v26 := Tryz.zeroValue9
  t27 := Tryz.underlying252
  a27 := Tryz.isAgg252
  z27 := Tryz.sizeOf252
  v27 := Tryz.zeroValue252
  t28 := Tryz.underlying253
  a28 := Tryz.isAgg253
  z28 := Tryz.sizeOf253
  v28 := Tryz.zeroValue253
  t33 := Tryz.underlying95
  a33 := Tryz.isAgg95
  z33 := Tryz.sizeOf95
  v33 := Tryz.zeroValue95
def shSorted_ren : Go.Shelf.Ren := ⟨fun | 6 => 145 | 8 => 263 | 9 => 264 | 11 => 386 | 13 => 136 | 12 => 387 | 23 => 256 | 24 => 257 | 14 => 523 | 15 => 524 | 16 => 525 | 17 => 526 | 18 => 527 | 19 => 528 | 20 => 166 | 21 => 529 | 22 => 530 | 25 => 618 | 26 => 381 | 27 => 382 | 28 => 619 | 29 => 620 | 30 => 293 | 31 => 675 | n => n, fun | 26 => 9 | 28 => 253 | 24 => 51 | 0 => 0 | 3 => 3 | 37 => 241 | 48 => 395 | 50 => 215 | 4 => 4 | 40 => 389 | 39 => 388 | 45 => 158 | 5 => 5 | 9 => 9 | 51 => 531 | 55 => 534 | 57 => 652 | 58 => 458 | 33 => 95 | n => n, fun | n => n⟩
theorem shSorted : Go.Proofs.SlLaysZ.n6 Tryz.prog shSorted_ren where
  mixed := by kernel_rfl
  f6 := ⟨ "slices.Sorted[string]", by decide, Tryz.func145.trans (congrArg some (by kernel_rfl))⟩
  f8 := ⟨ "slices.Collect[string]", by decide, Tryz.func263.trans (congrArg some (by kernel_rfl))⟩
  f11 := ⟨ "slices.AppendSeq[[]string,string]", by decide, Tryz.func386.trans (congrArg some (by kernel_rfl))⟩
  t0 := Tryz.underlying0
  a0 := Tryz.isAgg0
  z0 := Tryz.sizeOf0
  v0 := Tryz.zeroValue0
  t24 := Tryz.underlying51
  a24 := Tryz.isAgg51
  z24 := Tryz.sizeOf51
  v24 := Tryz.zeroValue51
  t26 := Tryz.underlying9
  a26 := Tryz.isAgg9
  z26 := Tryz.sizeOf9
  v26 := Tryz.zeroValue9
  t28 := Tryz.underlying253
  a28 := Tryz.isAgg253
  z28 := Tryz.sizeOf253
  v28 := Tryz.zeroValue253
  i26 := by kernel_rfl
def shSortS_ren : Go.Shelf.Ren := ⟨fun | 6 => 264 | 8 => 136 | 9 => 387 | 19 => 256 | 20 => 257 | 21 => 523 | 22 => 524 | 23 => 525 | 24 => 526 | 25 => 527 | 26 => 528 | 27 => 166 | 28 => 529 | 29 => 530 | 36 => 618 | 31 => 381 | 32 => 382 | 37 => 619 | 38 => 620 | 39 => 293 | 41 => 675 | n => n, fun | 27 => 51 | 29 => 9 | 3 => 3 | 32 => 241 | 26 => 51 | 0 => 0 | 44 => 395 | 46 => 215 | 4 => 4 | 36 => 389 | 35 => 388 | 41 => 158 | 5 => 5 | 9 => 9 | 53 => 531 | 57 => 534 | 63 => 652 | 64 => 458 | n => n, fun | n => n⟩
theorem shSortS : Go.Proofs.SlLaysM.n6 Tryz.prog shSortS_ren where
  mixed := by kernel_rfl
  f6 := ⟨ "slices.Sort[[]string,string]", by decide, Tryz.func264.trans (congrArg some (by kernel_rfl))⟩
  f8 := Tryz.func136.trans (congrArg some (by kernel_rfl))
  f9 := ⟨ "slices.pdqsortOrdered[string]", by decide, Tryz.func387.trans (congrArg some (by kernel_rfl))⟩
  f19 := Tryz.func256.trans (congrArg some (by kernel_rfl))
  f20 := Tryz.func257.trans (congrArg some (by kernel_rfl))
  f21 := ⟨ "slices.insertionSortOrdered[string]", by decide, Tryz.func523.trans (congrArg some (by kernel_rfl))⟩
  f22 := ⟨ "slices.heapSortOrdered[string]", by decide, Tryz.func524.trans (congrArg some (by kernel_rfl))⟩
  f23 := ⟨ "slices.breakPatternsOrdered[string]", by decide, Tryz.func525.trans (congrArg some (by kernel_rfl))⟩
  f24 := ⟨ "slices.choosePivotOrdered[string]", by decide, Tryz.func526.trans (congrArg some (by kernel_rfl))⟩
  f25 := ⟨ "slices.reverseRangeOrdered[string]", by decide, Tryz.func527.trans (congrArg some (by kernel_rfl))⟩
  f26 := ⟨ "slices.partialInsertionSortOrdered[string]", by decide, Tryz.func528.trans (congrArg some (by kernel_rfl))⟩
  f27 := ⟨ "cmp.Less[string]", by decide, Tryz.func166.trans (congrArg some (by kernel_rfl))⟩
  f28 := ⟨ "slices.partitionEqualOrdered[string]", by decide, Tryz.func529.trans (congrArg some (by kernel_rfl))⟩
  f29 := ⟨ "slices.partitionOrdered[string]", by decide, Tryz.func530.trans (congrArg some (by kernel_rfl))⟩
  f31 := Tryz.func381.trans (congrArg some (by kernel_rfl))
  f32 := Tryz.func382.trans (congrArg some (by kernel_rfl))
  f36 := ⟨ "slices.siftDownOrdered[string]", by decide, Tryz.func618.trans (congrArg some (by kernel_rfl))⟩
  f37 := ⟨ "slices.medianAdjacentOrdered[string]", by decide, Tryz.func619.trans (congrArg some (by kernel_rfl))⟩
  f38 := ⟨ "slices.medianOrdered[string]", by decide, Tryz.func620.trans (congrArg some (by kernel_rfl))⟩
  f39 := ⟨ "cmp.isNaN[string]", by decide, Tryz.func293.trans (congrArg some (by kernel_rfl))⟩
  f41 := ⟨ "slices.order2Ordered[string]", by decide, Tryz.func675.trans (congrArg some (by kernel_rfl))⟩
  t0 := Tryz.underlying0
  a0 := Tryz.isAgg0
  z0 := Tryz.sizeOf0
  v0 := Tryz.zeroValue0
  t3 := Tryz.underlying3
  a3 := Tryz.isAgg3
  z3 := Tryz.sizeOf3
  v3 := Tryz.zeroValue3
  t4 := Tryz.underlying4
  a4 := Tryz.isAgg4
  z4 := Tryz.sizeOf4
  v4 := Tryz.zeroValue4
  t5 := Tryz.underlying5
  a5 := Tryz.isAgg5
  z5 := Tryz.sizeOf5
  v5 := Tryz.zeroValue5
  t9 := Tryz.underlying9
  a9 := Tryz.isAgg9
  z9 := Tryz.sizeOf9
  v9 := Tryz.zeroValue9
  t26 := Tryz.underlying51
  a26 := Tryz.isAgg51
  z26 := Tryz.sizeOf51
  v26 := Tryz.zeroValue51
  t27 := Tryz.underlying51
  a27 := Tryz.isAgg51
  z27 := Tryz.sizeOf51
  v27 := Tryz.zeroValue51
  t29 := Tryz.underlying9
  a29 := Tryz.isAgg9
  z29 := Tryz.sizeOf9
  v29 := Tryz.zeroValue9
  t32 := Tryz.underlying241
  a32 := Tryz.isAgg241
  z32 := Tryz.sizeOf241
  v32 := Tryz.zeroValue241
  t35 := Tryz.underlying388
  a35 := Tryz.isAgg388
  z35 := Tryz.sizeOf388
  v35 := Tryz.zeroValue388
  t36 := Tryz.underlying389
  a36 := Tryz.isAgg389
  z36 := Tryz.sizeOf389
  v36 := Tryz.zeroValue389
  t41 := Tryz.underlying158
  a41 := Tryz.isAgg158
  z41 := Tryz.sizeOf158
  v41 := Tryz.zeroValue158
  t44 := Tryz.underlying395
  a44 := Tryz.isAgg395
  z44 := Tryz.sizeOf395
  v44 := Tryz.zeroValue395
  t46 := Tryz.underlying215
  a46 := Tryz.isAgg215
  z46 := Tryz.sizeOf215
  v46 := Tryz.zeroValue215
  t53 := Tryz.underlying531
  a53 := Tryz.isAgg531
  z53 := Tryz.sizeOf531
  v53 := Tryz.zeroValue531
  t57 := Tryz.underlying534
  a57 := Tryz.isAgg534
  z57 := Tryz.sizeOf534
  v57 := Tryz.zeroValue534
  t63 := Tryz.underlying652
  a63 := Tryz.isAgg652
  z63 := Tryz.sizeOf652
  v63 := Tryz.zeroValue652
  t64 := Tryz.underlying458
  a64 := Tryz.isAgg458
  z64 := Tryz.sizeOf458
  v64 := Tryz.zeroValue458
def anyR : Value → Option (DataW Unit × List MemPlace) := fun _ => some (.agg [], [])
theorem keyOf_str1 (sb : ByteArray) (h : sb.size ≤ 1000000) : keyOf Tryz.prog 9 (.string sb) = some (.string sb.data.toList) := by
  have hk := Tryz.underlying9
  have h2 : sb.size ≤ maxLen := by simp only [maxLen]; omega
  simp [keyOf, hk, mapKey, h2]
theorem owns_of {w : World} {m clk : Nat} {es : Array MapEntry} (h1 : w.heap[m]? = some (.map es clk)) (h2 : Go.MapKept.Stamped es clk) (hk : ∀ x ∈ es.toList, ∃ sb : ByteArray, x.key = .string sb ∧ sb.size ≤ 1000000) (hn : es.size ≤ 1000000) : ∃ D0 : DataW Unit, w.ownsMap Tryz.prog 9 anyR m es.size D0 ∧ (strKeys D0).Perm (es.toList.map fun x => RI.keyB x.key) ∧ Maps.size D0 = es.size := by
  have hrd2 : ∀ x ∈ es.toList, ∃ y, WideElems.rd Tryz.prog 9 anyR x = some y := fun x hx => by
    obtain ⟨sb, e, hs⟩ := hk x hx
    obtain ⟨key, val, born⟩ := x
    simp only at e
    subst e
    exact ⟨_, WideElems.rd_mk (keyOf_str1 sb hs) rfl⟩
  refine ⟨.map ((es.toList.map (WideElems.rg Tryz.prog 9 anyR)).foldr DataW.insert []), ⟨es, clk, h1, ⟨by simp only [maxLen]; omega, h2, hrd2⟩, Nat.le_refl _, rfl⟩, ?_, ?_⟩
  · show (((es.toList.map (WideElems.rg Tryz.prog 9 anyR)).foldr DataW.insert []).map fun p => Go.strOf p.1).Perm _
    refine ((WideShapes.sorted_perm _).map _).trans ?_
    rw [List.map_map]
    have : (es.toList.map ((fun p : Lit × DataW Unit => Go.strOf p.1) ∘ WideElems.rg Tryz.prog 9 anyR)) = es.toList.map fun x => RI.keyB x.key := by
      apply List.map_congr_left
      intro x hx
      obtain ⟨sb, e, hs⟩ := hk x hx
      obtain ⟨key, val, born⟩ := x
      simp only at e
      subst e
      have := WideElems.rg_of (WideElems.rd_mk (R := anyR) (val := val) (born := born) (keyOf_str1 sb hs) rfl)
      simp only [Function.comp, this]
      rfl
    rw [this]
  · show ((es.toList.map (WideElems.rg Tryz.prog 9 anyR)).foldr DataW.insert []).length = _
    rw [length_sorted]
    simp
theorem sortCon_of {ρk : Go.Shelf.Ren} (L : Go.Proofs.SlLaysZ.n10 Tryz.prog ρk) (ht : ρk.t 26 = 9) (eg : ∀ args w, (callFunc (ρk.f 10) args).run Tryz.prog w = .ok (.enter (ρk.f 10) args) w) : RI.SortCon Tryz.prog 145 (ρk.f 10) 9 := by
  have hsrt : AnyZ.SortsIn Tryz.prog shSorted_ren Fence.wide 4 :=
    ⟨fun blk off cap ss W hH hblk hsz => callsIn_wide.2 (AnyM.slices_Sort_string shSortS blk off cap ss W hH hblk hsz), fun p cap W => callsIn_wide.2 (AnyM.slices_Sort_string_none shSortS p cap W)⟩
  have hS : ∀ (S : List (List UInt8) → Prop) (N : Nat) (hN : N ≤ maxLen) (hNb : N * 16 ≤ 140737488355328) (w : World) (lb : Array Value), SeqGives Fence.wide 2 Tryz.prog (ρk.f 10) lb encStr S N w → _ := fun S N hN hNb w lb hseq =>
    callsIn_wide.1 (AnyZ.sorted_in shSorted Fence.wide 5 trivial trivial trivial trivial rfl (by omega) hsrt (enters_of Tryz.func264 (by kernel_rfl) rfl) (ρk.f 10) lb trivial eg S N hN hNb w hseq)
  refine ⟨fun w B b es clk hB hc hb hst hk hn => ?_, fun w B hB hc => ?_⟩
  · obtain ⟨D0, hown, hperm, hsize⟩ := owns_of hb hst hk hn
    have hseq := AnyZ.keys_gives L Fence.wide 2 trivial rfl (by omega) B b es.size D0 w hB hc (by rw [ht]; exact hown)
    refine (hS _ _ (by rw [hsize]; simp only [maxLen]; omega) (by rw [hsize]; omega) w _ hseq).mono ?_
    rintro e w' ⟨v, ss, rfl, h1, h2, h3, h4⟩
    exact ⟨v, ss, rfl, h1.trans hperm, h2, h3, h4⟩
  · have hseq := AnyZ.keys_gives_nil L Fence.wide 2 trivial rfl B w hB hc
    refine (hS _ _ (Nat.zero_le _) (by omega) w _ hseq).mono ?_
    rintro e w' ⟨v, ss, rfl, h1, h2, h3, h4⟩
    have := h3.2 h1
    subst this
    exact ⟨rfl, h4⟩
theorem sortConA : RI.SortCon Tryz.prog 145 569 9 :=
  sortCon_of (ρk := shKeys_ren) { shKeys with } rfl (enters_of Tryz.func569 (by kernel_rfl) rfl)
theorem sortConB : RI.SortCon Tryz.prog 145 265 9 :=
  sortCon_of (ρk := shKeysB_ren) { shKeysB with } rfl (enters_of Tryz.func265 (by kernel_rfl) rfl)
theorem sortConC : RI.SortCon Tryz.prog 145 491 9 :=
  sortCon_of (ρk := shKeysC_ren) { shKeysC with } rfl (enters_of Tryz.func491 (by kernel_rfl) rfl)
theorem sortConD : RI.SortCon Tryz.prog 145 668 9 :=
  sortCon_of (ρk := shKeysD_ren) { shKeysD with } rfl (enters_of Tryz.func668 (by kernel_rfl) rfl)
theorem idxCon : RI.IdxCon Tryz.prog 520 := fun sb c w => by
  have := run_callFunc_extern (P := Tryz.prog) Tryz.func520 (by kernel_rfl) (by kernel_rfl) (by kernel_rfl) (e := Extern.BytealgIndexByte.indexByte) (by kernel_rfl) #[.string sb, .int .u8 c] w
  rw [this, Lib.run_indexByteString]
  rfl
end Go.Proofs.YtenikchlnfhikaaGreatDoor

set_option linter.unusedVariables false
namespace Go.Proofs.YtenikchlnfhikaaGreatDoor
open Go Go.RowKit
theorem idle_any (p : Value) (w : World) : CallsD Tryz.prog 547 #[p] .returning w fun e u' w' => e = .returned (.tuple #[]) ∧ u' = .returning ∧ w' = w := by
  refine callsD_of_wpS Tryz.func547 rfl fun c₀ cs hu => ?_
  apply wpS_seq
  apply wpS_region
  simp [wpOpsS, go_sem, recoverD, hu, Tryz.ntmps547, Exit.thenS]
  apply wpS_seq
  apply wpS_region
  simp [wpOpsS, go_sem, recoverD, hu, Exit.thenS, Tryz.underlying20]
  refine wpS_cond (t := false) (by simp [Act.eval, Array.replicate]) ?_
  simp only [Bool.false_eq_true, if_false]
  refine wpS_of_wp (wp_skip ?_)
  cases c₀
  simp_all [bodyPostS, results, Tryz.results547]
noncomputable def idleN (f : FuncId) (l : List RI.V) (s : RI.St) : Option RI.St := RI.cd (Nat.beq f 547) (match l with
  | [_] => some s
  | _ => none) none
theorem idleN_spec {ρ : RI.Env} {w0 : World} : RI.SpecDn Tryz.prog ρ w0 idleN := by
  intro f l s s' L xs w K h hl e hk
  unfold idleN at e
  replace e := RI.cd_some e
  obtain ⟨h1, e⟩ := e
  have h1 := RI.beq_iff.1 h1
  subst h1
  split at e
  · injection e with e
    subst e
    cases hl with
    | cons hv hr =>
      cases hr
      refine ⟨_, RI.run_enter Tryz.func547 (by kernel_rfl) rfl _ w, (idle_any _ w).mono fun e u w' ⟨h1, h2, h3⟩ => ⟨h2, ⟨_, h1⟩, ?_⟩⟩
      subst h3
      exact hk L _ L.le_refl h
  · cases e
end Go.Proofs.YtenikchlnfhikaaGreatDoor

namespace Go.Proofs.YtenikchlnfhikaaGreatDoor
open Go.RowKit

section
variable {P : Program} {ops : Array Oper} {Q : Exit → Act → World → Prop} {rest : List Oper} {E : Operand → Option Value} {o : Oper} {n d : Nat} {F : List (Nat × Value)} {w w' : World} {v : Value} {x y z : Operand} {T : TypeId}
theorem Runs.hereI {f : FuncId} {args : Array Operand} {ts : Array TypeId} {vs : List Value} (ho : o.op = .call { callee := .value (.func f), args := args, argTypes := ts }) (hf : E (.func f) = some (.func (.func f) #[] #[])) (hx : evL E args.toList = some vs)
    (he : (callFunc f vs.toArray).run P w = .ok (.value v) w') : Runs P E o w v w' := fun ρ h => by
  have hargs : args.map ρ = vs.toArray := by
    apply Array.ext'
    rw [Array.toList_map, evL_map h hx]
  unfold execOp
  simp only [ho, resolve, h _ _ hf, Deferred.ofValue, hargs, Sem.run_bind, Sem.run_pure, Result.andThen_ok, invoke]
  simp [he]
/-- s[i:], s[:j] of elements s cells wide. -/
theorem Runs.sliceLoI {k : IntKind} {A : Option Addr} {n c e s j : Nat} {p : Int} (ho : o.op = .slice T x (some y) none none) (hx : E x = some (.slice A n c)) (hy : E y = some (.int k p)) (hT : P.underlying T = some (.slice e)) (hs : sizeIs P e s = true) (hp : p = (j : Int)) (hj : j ≤ n) : Runs P E o w (sliced A j n c s) w := fun ρ h => by
  subst hp
  have he : P.elem T = e := by simp [Program.elem, hT]
  have hT' : P.underlying T = some (.slice (P.elem T)) := by rw [he]; exact hT
  obtain ⟨i, hi, hsz⟩ := sizeIs_spec hs
  have h1 := run_slice_l (P := P) (w := w) T A n c hT' k (j : Int) (by omega) (by omega)
  rw [he, run_sizeOf (h := hi)] at h1
  unfold execOp; simp only [ho, Option.map_some, Option.map_none]; rw [h _ _ hx, h _ _ hy]
  simp only [Sem.run_bind, run_sliceAt_slice (h := hT'), h1, Result.andThen_ok]
  have hcs : P.cellsOf e = s := by simp [Program.cellsOf, hi, hsz]
  rw [Int.toNat_natCast, hcs]
  rfl
theorem Runs.sliceLoA {k : IntKind} {g off n c e s j : Nat} {p : Int} (ho : o.op = .slice T x (some y) none none) (hx : E x = some (.slice (some ⟨g, off, none⟩) n c)) (hy : E y = some (.int k p)) (hT : P.underlying T = some (.slice e)) (hs : sizeIs P e s = true) (hp : p = (j : Int)) (hj : j ≤ n) (hc : j < c) : Runs P E o w (.slice (some ⟨g, off + j * s, none⟩) (n - j) (c - j)) w :=
  (Runs.sliceLoI ho hx hy hT hs hp hj).cast (by rw [sliced, if_neg (by omega)]; simp [Addr.add])
theorem Runs.sliceHiI {k : IntKind} {A : Option Addr} {n c e s j : Nat} {p : Int} (ho : o.op = .slice T x none (some y) none) (hx : E x = some (.slice A n c)) (hy : E y = some (.int k p)) (hT : P.underlying T = some (.slice e)) (hs : sizeIs P e s = true) (hp : p = (j : Int)) (hj : j ≤ c) : Runs P E o w (.slice A j c) w := fun ρ h => by
  subst hp
  have he : P.elem T = e := by simp [Program.elem, hT]
  have hT' : P.underlying T = some (.slice (P.elem T)) := by rw [he]; exact hT
  obtain ⟨i, hi, hsz⟩ := sizeIs_spec hs
  have h1 := run_slice_h (P := P) (w := w) T A n c hT' k (j : Int) (by omega) (by omega)
  rw [he, run_sizeOf (h := hi)] at h1
  unfold execOp; simp only [ho, Option.map_some, Option.map_none]; rw [h _ _ hx, h _ _ hy]
  simp only [Sem.run_bind, run_sliceAt_slice (h := hT'), h1, Result.andThen_ok]
  have h2 : sliced A 0 j c (P.cellsOf e) = .slice A j c := by
    unfold sliced
    congr 1
    split
    · rfl
    · cases A <;> simp [Addr.add]
  rw [Int.toNat_natCast, h2]
  rfl
theorem run_copyN (w : World) (dT sT ty elem : TypeId) {size m : Nat} (b o dLen dCap : Nat) (a : Addr) (sLen sCap : Nat) (cs : List Value)
    (hu : P.underlying dT = some (.slice elem)) (hs : sizeIs P elem size = true) (hm : Nat.min sLen dLen = m) (hn : cs.length = m * size)
    (hsrc : ∀ j v, cs[j]? = some v → w.cell? (a.add j) = some v) (hc : ∀ j, j < cs.length → (w.cell? ⟨b, o + j, none⟩).isSome = true) (hf : ∀ j, j < cs.length → w.frozen? ⟨b, o + j, none⟩ = false) (h1 : ∀ v ∈ cs, v.oneCell' = true) :
    (Builtin.copy_ #[dT, sT] ty #[.slice (some ⟨b, o, none⟩) dLen dCap, .slice (some a) sLen sCap]).run P w = .ok (goInt m) (w.setCells b o cs) := by
  have hl := _root_.Go.run_loadCells_list (P := P) w a cs hsrc
  have hst := run_storeCells_cells (P := P) b o cs 0 w (by simpa using hc) (by simpa using hf) h1
  obtain ⟨i, hi, hsz⟩ := sizeIs_spec hs
  simp [Builtin.copy_, run_underlying hu, Builtin.lenOf, Builtin.firstCells, sizeOf, typeInfo, hi, hsz, hm, ← hn, hl, hst]
theorem grownSetCells : ∀ (vs : List Value) (o : Nat) (w : World) (b : Nat), w.grownBy (w.setCells b o vs) (some b) ∧ (w.setCells b o vs).heap.size = w.heap.size
  | [], o, w, b => ⟨⟨rfl, rfl, rfl, Nat.le_refl _, fun _ _ _ => rfl⟩, rfl⟩
  | v :: r, o, w, b => by
    rw [World.setCells]
    obtain ⟨h, hs⟩ := grownSetCells r (o + 1) (w.setCell ⟨b, o, none⟩ v) b
    have h0 : (w.setCell ⟨b, o, none⟩ v).heap.size = w.heap.size := by simp [World.setCell]
    exact ⟨⟨h.os, h.tape, h.output, by rw [hs, h0]; exact Nat.le_refl _, fun k hk hne => (h.block k (by rw [h0]; exact hk) hne).trans (Below.heap_setCell w _ v k (fun e => hne (by rw [e])))⟩, by rw [hs, h0]⟩
theorem Seq.copyN {t t' e size m dn dc sn sc off soff gs : Nat} {cs : List Value} {g : Nat} {cur cur' : Array Value} (ho : o.op = .call { callee := .builtin .copy, args := #[x, y], argTypes := #[t, t'] }) (hx : evF F x = some (.slice (some ⟨g, off, none⟩) dn dc)) (hy : evF F y = some (.slice (some ⟨gs, soff, none⟩) sn sc)) (ht : P.underlying t = some (.slice e)) (hs : sizeIs P e size = true)
    (hm : Nat.min sn dn = m) (hn : cs.length = m * size) (hb : Blk w g e cur) (hb' : Blk w gs e cur') (hfit : off + cs.length ≤ cur.size) (hsrc : ∀ j v, cs[j]? = some v → cur'[soff + j]? = some v) (h1 : ∀ v ∈ cs, v.oneCell' = true) (hg : o.guard = none) (hd : o.dst = some d) (hnn : Nat.blt d n = true)
    (h : ∀ w' C', Put w w' g e C' → C'.size = cur.size → (∀ i, C'[i]? = if off ≤ i ∧ i < off + cs.length then cs[i - off]? else cur[i]?) → Seq P ops Q rest n ((d, .int .i64 (m : Int)) :: F) w') : Seq P ops Q (o :: rest) n F w := by
  have hrun := run_copyN (P := P) w t t' o.type e g off dn dc ⟨gs, soff, none⟩ sn sc cs ht hs hm hn (fun j v hj => by rw [Addr.add_lit]; exact (hb'.cell _).trans (hsrc j v hj)) (fun j hj => by
    rw [hb.cell, Array.getElem?_eq_getElem (by omega)]; rfl) (fun j _ => hb.frozen _) h1
  obtain ⟨C', b1, b2, b3⟩ := RI.heap_setCells g cs off w cur e (0, 0) hb hfit
  refine Seq.val (v := .int .i64 (m : Int)) (w' := w.setCells g off cs) (fun ρ hρ => ?_) hg hd hnn (h _ C' ⟨b1, (grownSetCells cs off w g).1, (grownSetCells cs off w g).2⟩ b2 b3)
  unfold execOp
  simp only [ho, resolve, invoke, builtin, Sem.run_bind, Sem.run_pure, Result.andThen_ok, List.map_toArray, List.map_cons, List.map_nil, hρ _ _ hx, hρ _ _ hy, hrun]
  rfl
/-- append(s, make(..)...) where there is no room: a new row. -/
theorem Seq.appendZ {t tn e size b k m c : Nat} {g : Nat} {cur : Array Value} {z : Value} {p : Int} {kn : IntKind} (ho : o.op = .call { callee := .builtin .append, args := #[x, y], argTypes := #[t, tn] }) (hx : evF F x = some (.slice (some ⟨g, 0, none⟩) k c)) (hy : evF F y = some (.int kn p)) (hp : p = (m : Int)) (ht : P.underlying t = some (.slice e)) (htn : P.underlying tn = some (.int kn))
    (hs : sizeIs P e size = true) (hz : zeroIs P e = some (some z)) (hzs : z.cells.size = size) (hsz : 0 < size) (hby : (P.info? e).map (·.bytes) = some b) (hb : Blk w g e cur) (hk : k * size ≤ cur.size) (hm : 0 < m) (hroom : c < k + m) (hbig : (k + m) * b ≤ 1000000) (hsm : k + m ≤ 1000000)
    (hg : o.guard = none) (hd : o.dst = some d) (hnn : Nat.blt d n = true)
    (h : ∀ g' c' w' cs, New w w' g' e cs → k + m ≤ c' → cs.size = c' * size → (∀ j, j < k * size → cs[j]? = cur[j]?) → Seq P ops Q rest n ((d, .slice (some ⟨g', 0, none⟩) (k + m) c') :: F) w') : Seq P ops Q (o :: rest) n F w := by
  subst hp
  obtain ⟨i, hi, hisz⟩ := sizeIs_spec hs
  have hz' : i.zero = some z := by unfold zeroIs at hz; rw [hi] at hz; injection hz
  have hb' : i.bytes = b := by rw [hi] at hby; injection hby
  have hlen : (cur.toList.take (k * size)).length = k * size := by rw [List.length_take]; simp; omega
  have hold : (Builtin.firstCells i.size k (.slice (some ⟨g, 0, none⟩) k c)).run P w.drew = .ok (cur.toList.take (k * size)).toArray w.drew := by
    have := _root_.Go.run_loadCells_list (P := P) w.drew ⟨g, 0, none⟩ (cur.toList.take (k * size)) (fun j u hu => by
      have hj := (List.getElem?_eq_some_iff.1 hu).1
      rw [List.getElem?_take, if_pos (by omega)] at hu
      rw [Addr.add_lit, Nat.zero_add]
      exact (hb.cell j).trans (by simpa using hu))
    rw [hlen] at this
    rw [hisz]
    exact this
  have hrun := Lib.run_append_grow_zeros (P := P) w t tn o.type e i z kn kn ht htn hi hz' (some ⟨g, 0, none⟩) k c (cur.toList.take (k * size)) hold m hm (by omega) (by omega) (by omega) (by rw [hb']; have := Nat.mul_le_mul_right b (show m ≤ k + m by omega); omega) (by rw [hb']; exact growslice_fits hroom (by omega))
  have hge := grownCap_ge w (k + m) c e
  obtain ⟨R, hR⟩ : ∃ R, R = ((cur.toList.take (k * size)).toArray ++ Builtin.zeroCells z.cells m ++ Builtin.zeroCells z.cells (grownCap w (k + m) c e - (k + m))) := ⟨_, rfl⟩
  rw [← hR] at hrun
  refine Seq.val (v := .slice (some ⟨w.heap.size, 0, none⟩) (k + m) (grownCap w (k + m) c e)) (w' := w.drew.alloc (.cells R e)) (fun ρ hρ => ?_) hg hd hnn (h w.heap.size (grownCap w (k + m) c e) _ R ⟨Nat.le_refl _, Blk.new w.drew _ _, ((Below.refl _ w).drew.alloc (Nat.le_refl _) _)⟩ hge ?_ ?_)
  · unfold execOp
    simp only [ho, resolve, invoke, builtin, Sem.run_bind, Sem.run_pure, Result.andThen_ok, List.map_toArray, List.map_cons, List.map_nil, hρ _ _ hx, hρ _ _ hy, hrun]
  · rw [hR]
    generalize grownCap w (k + m) c e = G at hge ⊢
    have e1 : ((cur.toList.take (k * size)).toArray ++ Builtin.zeroCells z.cells m ++ Builtin.zeroCells z.cells (G - (k + m))).size = k * size + m * size + (G - (k + m)) * size := by
      simp only [Array.size_append, List.size_toArray, hlen, Builtin.zeroCells]
      simp [hzs]
    rw [e1, ← Nat.add_mul, ← Nat.add_mul]
    congr 1
    omega
  · intro j hj
    rw [hR]
    rw [Array.getElem?_append_left (by simp only [Array.size_append, List.size_toArray, hlen]; omega), Array.getElem?_append_left (by simp only [List.size_toArray, hlen]; exact hj)]
    rw [List.getElem?_toArray, List.getElem?_take, if_pos hj]
    simp
end

theorem zero_debenture_ledger_entry : zeroIs Tryz.prog 517 = some (some (.agg #[.string { data := #[] }, .string { data := #[] }, .int .i64 0, .slice none 0 0])) := by kernel_rfl
/-- Nothing that was there has changed but one block. -/
structure GB (w w' : World) (B : Nat) : Prop where
  gr : w.grownBy w' (some B)
theorem GB.step {w w' w'' : World} {B : Nat} (h : GB w w' B) (hb : Below w'.heap.size w' w'') : GB w w'' B :=
  ⟨⟨hb.os.trans h.gr.os, hb.tape.trans h.gr.tape, hb.output.trans h.gr.output, Nat.le_trans h.gr.size hb.size, fun k hk hne => (hb.block k (Nat.lt_of_lt_of_le hk h.gr.size)).trans (h.gr.block k hk hne)⟩⟩
theorem GB.putB {w w' w'' : World} {B : Nat} {T : TypeId} {cs : Array Value} (h : GB w w' B) (p : Put w' w'' B T cs) : GB w w'' B :=
  ⟨⟨p.grown.os.trans h.gr.os, p.grown.tape.trans h.gr.tape, p.grown.output.trans h.gr.output, Nat.le_trans h.gr.size p.grown.size, fun k hk hne => (p.grown.block k (Nat.lt_of_lt_of_le hk h.gr.size) hne).trans (h.gr.block k hk hne)⟩⟩
/-- What is left behind: the two entries in a row. -/
structure InsR (w w' : World) (B c : Nat) (C N : Array Value) (v : Value) : Prop where
  ex : ∃ (g c' : Nat) (C' : Array Value), v = .slice (some ⟨g, 0, none⟩) 2 c' ∧ Blk w' g 517 C' ∧ 2 ≤ c' ∧ c' * 4 ≤ C'.size ∧ (∀ j, j < 4 → C'[j]? = N[j]?) ∧ (∀ j, j < 4 → C'[4 + j]? = C[j]?) ∧ ((g = B ∧ c' = c ∧ C'.size = C.size ∧ GB w w' B) ∨ (w.heap.size ≤ g ∧ Below w.heap.size w w'))
theorem ins_any (B c vb vc : Nat) (C N : Array Value) (w : World) (h1 : Blk w B 517 C) (h2 : Blk w vb 517 N) (hne : vb ≠ B) (hc1 : 1 ≤ c) (hcs : c * 4 ≤ C.size) (hN : 4 ≤ N.size) (ho1 : ∀ j v, j < 4 → C[j]? = some v → v.oneCell' = true) (ho2 : ∀ j v, j < 4 → N[j]? = some v → v.oneCell' = true) :
    Calls Tryz.prog 503 #[.slice (some ⟨B, 0, none⟩) 1 c, .int .i64 0, .slice (some ⟨vb, 0, none⟩) 1 vc] w fun e w' => ∃ v, e = .returned v ∧ InsR w w' B c C N v := by
  have e1 : (C.toList.take 4).length = 4 := by rw [List.length_take]; simp; omega
  have e2 : (N.toList.take 4).length = 4 := by rw [List.length_take]; simp; omega
  have ho3 : ∀ v ∈ N.toList.take 4, v.oneCell' = true := fun v hv => by
    obtain ⟨j, hj, rfl⟩ := List.getElem_of_mem hv
    rw [e2] at hj
    exact ho2 j _ hj (by simp)
  have ho4 : ∀ v ∈ C.toList.take 4, v.oneCell' = true := fun v hv => by
    obtain ⟨j, hj, rfl⟩ := List.getElem_of_mem hv
    rw [e1] at hj
    exact ho1 j _ hj (by simp)
  have hsN : ∀ j v, (N.toList.take 4)[j]? = some v → N[j]? = some v := fun j v hj => by
    rw [List.getElem?_take] at hj
    split at hj <;> first | (cases hj; done) | (simpa using hj)
  have hsC : ∀ j v, (C.toList.take 4)[j]? = some v → C[j]? = some v := fun j v hj => by
    rw [List.getElem?_take] at hj
    split at hj <;> first | (cases hj; done) | (simpa using hj)
  refine Calls.start 95 Tryz.func503 rfl rfl rfl ?_
  refine Cd.seq ?_
  refine Cd.region ?_
  refine Seq.val (Runs.assign rfl rfl) rfl rfl rfl ?_
  refine Seq.nil ?_
  refine Post.weak (F' := [(0, _), (1, _), (2, _), (6, _)]) ⟨rfl, rfl, rfl, rfl, trivial⟩ ?_
  refine Post.then_ ?_
  refine Cd.seq ?_
  refine Cd.region ?_
  refine Seq.val (Runs.move rfl rfl) rfl rfl rfl ?_
  refine Seq.val (Runs.move rfl rfl) rfl rfl rfl ?_
  refine Seq.val (Runs.sliceLoA rfl rfl rfl Tryz.underlying513 (s := 4) (by kernel_rfl) (j := 0) rfl (by omega) (by omega)) rfl rfl rfl ?_
  refine Seq.nil ?_
  refine Post.weak (F' := [(0, _), (1, _), (2, _), (6, _)]) ⟨rfl, rfl, rfl, rfl, trivial⟩ ?_
  refine Post.then_ ?_
  refine Cd.seq ?_
  refine Cd.region ?_
  refine Seq.val (Runs.move rfl rfl) rfl rfl rfl ?_
  refine Seq.val (Runs.len rfl rfl Tryz.underlying513) rfl rfl rfl ?_
  refine Seq.val (Runs.assign rfl rfl) rfl rfl rfl ?_
  refine Seq.nil ?_
  refine Post.weak (F' := [(0, _), (1, _), (2, _), (6, _), (7, _)]) ⟨rfl, rfl, rfl, rfl, rfl, trivial⟩ ?_
  refine Post.then_ ?_
  refine Cd.seq ?_
  refine Cd.seq ?_
  refine Cd.region ?_
  refine Seq.val (Runs.move rfl rfl) rfl rfl rfl ?_
  refine Seq.val (Runs.eqlI rfl rfl rfl) rfl rfl rfl ?_
  refine Seq.nil ?_
  refine Post.weak (F' := [(0, _), (1, _), (2, _), (6, _), (7, _), (16, _)]) ⟨rfl, rfl, rfl, rfl, rfl, rfl, trivial⟩ ?_
  refine Post.then_ ?_
  refine Cd.condF rfl (by simp) ?_
  refine Cd.skip ?_
  refine Post.then_ ?_
  refine Cd.seq ?_
  refine Cd.region ?_
  refine Seq.val (Runs.move rfl rfl) rfl rfl rfl ?_
  refine Seq.val (Runs.len rfl rfl Tryz.underlying513) rfl rfl rfl ?_
  refine Seq.val (Runs.assign rfl rfl) rfl rfl rfl ?_
  refine Seq.nil ?_
  refine Post.weak (F' := [(0, _), (1, _), (2, _), (6, _), (7, _), (8, _), (16, _)]) ⟨rfl, rfl, rfl, rfl, rfl, rfl, rfl, trivial⟩ ?_
  refine Post.then_ ?_
  refine Cd.seq ?_
  refine Cd.seq ?_
  refine Cd.region ?_
  refine Seq.val (Runs.move rfl rfl) rfl rfl rfl ?_
  refine Seq.val (Runs.move rfl rfl) rfl rfl rfl ?_
  refine Seq.val (Runs.eqlI rfl rfl rfl) rfl rfl rfl ?_
  refine Seq.nil ?_
  refine Post.weak (F' := [(0, _), (1, _), (2, _), (6, _), (7, _), (8, _), (16, _), (22, _)]) ⟨rfl, rfl, rfl, rfl, rfl, rfl, rfl, rfl, trivial⟩ ?_
  refine Post.then_ ?_
  refine Cd.condF rfl (by simp) ?_
  refine Cd.skip ?_
  refine Post.then_ ?_
  refine Cd.seq ?_
  refine Cd.seq ?_
  refine Cd.region ?_
  refine Seq.val (Runs.move rfl rfl) rfl rfl rfl ?_
  refine Seq.val (Runs.move rfl rfl) rfl rfl rfl ?_
  refine Seq.val (Runs.addI rfl rfl rfl (by omega) (by omega)) rfl rfl rfl ?_
  refine Seq.val (Runs.move rfl rfl) rfl rfl rfl ?_
  refine Seq.val (Runs.cap rfl rfl Tryz.underlying513) rfl rfl rfl ?_
  refine Seq.val (Runs.gtr rfl rfl rfl) rfl rfl rfl ?_
  refine Seq.nil ?_
  refine Post.weak (F' := [(0, _), (1, _), (2, _), (6, _), (7, _), (8, _), (16, _), (22, _), (31, _)]) ⟨rfl, rfl, rfl, rfl, rfl, rfl, rfl, rfl, rfl, trivial⟩ ?_
  refine Post.then_ ?_
  refine Cd.condD rfl (fun hc => ?_) (fun hc => ?_)
  · skip
    refine Cd.seq ?_
    refine Cd.region ?_
    refine Seq.val (Runs.move rfl rfl) rfl rfl rfl ?_
    refine Seq.val (Runs.move rfl rfl) rfl rfl rfl ?_
    refine Seq.val (Runs.sliceHiI rfl rfl rfl Tryz.underlying513 (s := 4) (by kernel_rfl) (j := 0) rfl (by omega)) rfl rfl rfl ?_
    refine Seq.val (Runs.move rfl rfl) rfl rfl rfl ?_
    refine Seq.val (Runs.move rfl rfl) rfl rfl rfl ?_
    refine Seq.val (Runs.addI rfl rfl rfl (by omega) (by omega)) rfl rfl rfl ?_
    refine Seq.val (Runs.move rfl rfl) rfl rfl rfl ?_
    refine Seq.val (Runs.subI rfl rfl rfl (by omega) (by omega)) rfl rfl rfl ?_
    refine Seq.appendZ (size := 4) (b := 64) (m := 2) rfl rfl rfl (by omega) Tryz.underlying513 Tryz.underlying3 (by kernel_rfl) zero_debenture_ledger_entry rfl (by omega) (by kernel_rfl) h1 (by omega) (by omega) (by omega) (by omega) (by omega) rfl rfl rfl ?_
    intro g4 c4 w4 cs4 n4 hc4 hs4 _
    have hg1 : g4 ≠ vb := by have := h2.lt; have := n4.ge; omega
    have hg2 : g4 ≠ B := by have := h1.lt; have := n4.ge; omega
    have hb4 := n4.below
    have hge := n4.ge
    replace h1 := h1.step n4.below
    replace h2 := h2.step n4.below
    have k4 := n4.blk
    refine Seq.val (Runs.assign rfl rfl) rfl rfl rfl ?_
    refine Seq.nil ?_
    refine Post.weak (F' := [(0, _), (1, _), (2, _), (6, _), (7, _), (8, _), (9, _), (16, _), (22, _), (31, _)]) ⟨rfl, rfl, rfl, rfl, rfl, rfl, rfl, rfl, rfl, rfl, trivial⟩ ?_
    refine Post.then_ ?_
    refine Cd.seq ?_
    refine Cd.region ?_
    refine Seq.val (Runs.move rfl rfl) rfl rfl rfl ?_
    refine Seq.val (Runs.move rfl rfl) rfl rfl rfl ?_
    refine Seq.val (Runs.sliceLoA rfl rfl rfl Tryz.underlying513 (s := 4) (by kernel_rfl) (j := 0) rfl (by omega) (by omega)) rfl rfl rfl ?_
    refine Seq.val (Runs.move rfl rfl) rfl rfl rfl ?_
    refine Seq.copyN (size := 4) (m := 1) (cs := N.toList.take 4) rfl rfl rfl Tryz.underlying513 (by kernel_rfl) rfl e2 k4 h2 (by rw [e2]; omega) (fun j v hj => by simpa using hsN j v hj) ho3 rfl rfl rfl ?_
    intro w5 C5 p5 hs5 hx5
    replace hb4 := p5.below_of hb4 hge k4.lt
    replace h1 := h1.put p5 (by omega)
    replace k4 := p5.blk
    refine Seq.nil ?_
    refine Post.weak (F' := [(0, _), (1, _), (2, _), (6, _), (7, _), (8, _), (9, _), (16, _), (22, _), (31, _)]) ⟨rfl, rfl, rfl, rfl, rfl, rfl, rfl, rfl, rfl, rfl, trivial⟩ ?_
    refine Post.then_ ?_
    refine Cd.seq ?_
    refine Cd.draw 8 (by kernel_rfl) [] (.inl rfl) rfl Grow Grow.refl (fun _ _ _ => Grow.trans) ?_
    intro w1 hw1 zw1
    replace h1 := h1.step hw1
    replace k4 := k4.step hw1
    replace hb4 := hb4.step hw1
    have zlt := k4.lt
    refine Dr.val Grow.refl rfl (fun w hG => Runs.move rfl rfl) rfl ?_
    refine Dr.val Grow.refl rfl (fun w hG => Runs.move rfl rfl) rfl ?_
    refine Dr.val Grow.refl rfl (fun w hG => Runs.move rfl rfl) rfl ?_
    refine Dr.val Grow.refl rfl (fun w hG => Runs.addI rfl rfl rfl (by omega) (by omega)) rfl ?_
    refine Dr.val Grow.refl rfl (fun w hG => Runs.sliceLoA rfl rfl rfl Tryz.underlying513 (s := 4) (by kernel_rfl) (j := 1) (by omega) (by omega) (by omega)) rfl ?_
    refine Dr.val Grow.refl rfl (fun w hG => Runs.move rfl rfl) rfl ?_
    refine Dr.val Grow.refl rfl (fun w hG => Runs.move rfl rfl) rfl ?_
    refine Dr.val Grow.refl rfl (fun w hG => Runs.sliceLoA rfl rfl rfl Tryz.underlying513 (s := 4) (by kernel_rfl) (j := 0) rfl (by omega) (by omega)) rfl ?_
    refine Dr.nil ?_
    refine FinX.done (F' := [(0, _), (1, _), (2, _), (6, _), (7, _), (8, _), (9, _), (16, _), (22, _), (31, _), (50, _), (53, _)]) rfl ⟨rfl, rfl, rfl, rfl, rfl, rfl, rfl, rfl, rfl, rfl, rfl, rfl, trivial⟩ ?_
    intro w2 hw2 fw2
    replace h1 := h1.step hw2
    replace k4 := k4.step hw2
    replace hb4 := hb4.step hw2
    refine Seq.copyN (size := 4) (m := 1) (cs := C.toList.take 4) rfl rfl rfl Tryz.underlying513 (by kernel_rfl) (by show Nat.min (1 - 0) (0 + 2 - 1) = 1; rfl) e1 k4 h1 (by rw [e1]; omega) (fun j v hj => by simpa using hsC j v hj) ho4 rfl rfl rfl ?_
    intro w6 C6 p6 hs6 hx6
    replace hb4 := p6.below_of hb4 hge k4.lt
    replace k4 := p6.blk
    refine Seq.nil ?_
    refine Post.weak (F' := [(0, _), (1, _), (2, _), (6, _), (7, _), (8, _), (9, _), (16, _), (22, _), (31, _)]) ⟨rfl, rfl, rfl, rfl, rfl, rfl, rfl, rfl, rfl, rfl, trivial⟩ ?_
    refine Post.then_ ?_
    refine Cd.seq ?_
    refine Cd.region ?_
    refine Seq.val (Runs.move rfl rfl) rfl rfl rfl ?_
    refine Seq.val (Runs.assign rfl rfl) rfl rfl rfl ?_
    refine Seq.nil ?_
    refine Post.weak (F' := [(0, _), (1, _), (2, _), (6, _), (7, _), (8, _), (9, _), (16, _), (22, _), (31, _)]) ⟨rfl, rfl, rfl, rfl, rfl, rfl, rfl, rfl, rfl, rfl, trivial⟩ ?_
    refine Post.then_ ?_
    refine Cd.ret ?_
    refine Post.then_ret ?_
    refine Post.end1 rfl rfl (.inl rfl) ?_
    rw [e1] at hx6
    rw [e2] at hx5
    refine ⟨_, rfl, g4, c4, C6, rfl, k4, by omega, by omega, fun j hj => ?_, fun j hj => ?_, .inr ⟨hge, hb4⟩⟩
    · rw [hx6, if_neg (by omega), hx5, if_pos (by omega), List.getElem?_take, if_pos (by omega)]
      simp
    · rw [hx6, if_pos (by omega), List.getElem?_take, if_pos (by omega)]
      simp
  · skip
    have hov : ∀ o1 n1 c1, (callFunc 607 #[.slice (some ⟨vb, 0, none⟩) 1 vc, .slice (some ⟨B, o1, none⟩) n1 c1]).run Tryz.prog w = .ok (.value (.bool false)) w := fun o1 n1 c1 => by
      rw [run_callFunc_extern Tryz.func607 (by kernel_rfl) (by kernel_rfl) (by kernel_rfl) (e := Extern.SlicesOverlaps.overlaps #[513, 513] #[4]) (by kernel_rfl),
        Lib.run_overlaps_apart w 513 4 517 Tryz.underlying513 4 (fun w => by obtain ⟨i, hi, hs⟩ := sizeIs_spec (P := Tryz.prog) (t := 517) (n := 4) (by kernel_rfl); simp [sizeOf, typeInfo, hi, hs]) ⟨vb, 0, none⟩ ⟨B, o1, none⟩ 1 vc n1 c1 hne 517 517 N.size C.size (by unfold Blk at h2; simp [World.shape?, h2]) (by unfold Blk at h1; simp [World.shape?, h1]) (by omega) (h2.frozen _) (h2.frozen _)]
      rfl
    refine Cd.skip ?_
    refine Post.then_ ?_
    refine Cd.seq ?_
    refine Cd.region ?_
    refine Seq.val (Runs.move rfl rfl) rfl rfl rfl ?_
    refine Seq.val (Runs.move rfl rfl) rfl rfl rfl ?_
    refine Seq.val (Runs.move rfl rfl) rfl rfl rfl ?_
    refine Seq.val (Runs.addI rfl rfl rfl (by omega) (by omega)) rfl rfl rfl ?_
    refine Seq.val (Runs.sliceHiI rfl rfl rfl Tryz.underlying513 (s := 4) (by kernel_rfl) (j := 2) (by omega) (by omega)) rfl rfl rfl ?_
    refine Seq.val (Runs.assign rfl rfl) rfl rfl rfl ?_
    refine Seq.nil ?_
    refine Post.weak (F' := [(0, _), (1, _), (2, _), (6, _), (7, _), (8, _), (16, _), (22, _), (31, _)]) ⟨rfl, rfl, rfl, rfl, rfl, rfl, rfl, rfl, rfl, trivial⟩ ?_
    refine Post.then_ ?_
    refine Cd.seq ?_
    refine Cd.seq ?_
    refine Cd.region ?_
    refine Seq.val (Runs.move rfl rfl) rfl rfl rfl ?_
    refine Seq.val (Runs.move rfl rfl) rfl rfl rfl ?_
    refine Seq.val (Runs.move rfl rfl) rfl rfl rfl ?_
    refine Seq.val (Runs.move rfl rfl) rfl rfl rfl ?_
    refine Seq.val (Runs.addI rfl rfl rfl (by omega) (by omega)) rfl rfl rfl ?_
    refine Seq.val (Runs.sliceLoA rfl rfl rfl Tryz.underlying513 (s := 4) (by kernel_rfl) (j := 1) (by omega) (by omega) (by omega)) rfl rfl rfl ?_
    refine Seq.val (Runs.hereI rfl rfl rfl (hov _ _ _)) rfl rfl rfl ?_
    refine Seq.val (Runs.not rfl rfl) rfl rfl rfl ?_
    refine Seq.nil ?_
    refine Post.weak (F' := [(0, _), (1, _), (2, _), (6, _), (7, _), (8, _), (16, _), (22, _), (31, _), (68, _)]) ⟨rfl, rfl, rfl, rfl, rfl, rfl, rfl, rfl, rfl, rfl, trivial⟩ ?_
    refine Post.then_ ?_
    refine Cd.condT rfl (by simp) ?_
    have og : GB w w B := ⟨⟨rfl, rfl, rfl, Nat.le_refl _, fun _ _ _ => rfl⟩⟩
    refine Cd.seq ?_
    refine Cd.draw 8 (by kernel_rfl) [] (.inl rfl) rfl Grow Grow.refl (fun _ _ _ => Grow.trans) ?_
    intro w1 hw1 zw1
    replace h1 := h1.step hw1
    replace h2 := h2.step hw1
    replace og := og.step hw1
    refine Dr.val Grow.refl rfl (fun w hG => Runs.move rfl rfl) rfl ?_
    refine Dr.val Grow.refl rfl (fun w hG => Runs.move rfl rfl) rfl ?_
    refine Dr.val Grow.refl rfl (fun w hG => Runs.move rfl rfl) rfl ?_
    refine Dr.val Grow.refl rfl (fun w hG => Runs.addI rfl rfl rfl (by omega) (by omega)) rfl ?_
    refine Dr.val Grow.refl rfl (fun w hG => Runs.sliceLoA rfl rfl rfl Tryz.underlying513 (s := 4) (by kernel_rfl) (j := 1) (by omega) (by omega) (by omega)) rfl ?_
    refine Dr.val Grow.refl rfl (fun w hG => Runs.move rfl rfl) rfl ?_
    refine Dr.val Grow.refl rfl (fun w hG => Runs.move rfl rfl) rfl ?_
    refine Dr.val Grow.refl rfl (fun w hG => Runs.sliceLoA rfl rfl rfl Tryz.underlying513 (s := 4) (by kernel_rfl) (j := 0) rfl (by omega) (by omega)) rfl ?_
    refine Dr.nil ?_
    refine FinX.done (F' := [(0, _), (1, _), (2, _), (6, _), (7, _), (8, _), (16, _), (22, _), (31, _), (68, _), (73, _), (76, _)]) rfl ⟨rfl, rfl, rfl, rfl, rfl, rfl, rfl, rfl, rfl, rfl, rfl, rfl, trivial⟩ ?_
    intro w2 hw2 fw2
    replace h1 := h1.step hw2
    replace h2 := h2.step hw2
    replace og := og.step hw2
    refine Seq.copyN (size := 4) (m := 1) (cs := C.toList.take 4) rfl rfl rfl Tryz.underlying513 (by kernel_rfl) (by show Nat.min (2 - 0) (2 - 1) = 1; rfl) e1 h1 h1 (by rw [e1]; omega) (fun j v hj => by simpa using hsC j v hj) ho4 rfl rfl rfl ?_
    intro w5 C5 p5 hs5 hx5
    replace h2 := h2.put p5 hne
    replace og := og.putB p5
    replace h1 := p5.blk
    refine Seq.nil ?_
    refine Post.weak (F' := [(0, _), (1, _), (2, _), (6, _), (7, _), (8, _), (16, _), (22, _), (31, _), (68, _)]) ⟨rfl, rfl, rfl, rfl, rfl, rfl, rfl, rfl, rfl, rfl, trivial⟩ ?_
    refine Post.then_ ?_
    refine Cd.seq ?_
    refine Cd.region ?_
    refine Seq.val (Runs.move rfl rfl) rfl rfl rfl ?_
    refine Seq.val (Runs.move rfl rfl) rfl rfl rfl ?_
    refine Seq.val (Runs.sliceLoA rfl rfl rfl Tryz.underlying513 (s := 4) (by kernel_rfl) (j := 0) rfl (by omega) (by omega)) rfl rfl rfl ?_
    refine Seq.val (Runs.move rfl rfl) rfl rfl rfl ?_
    refine Seq.copyN (size := 4) (m := 1) (cs := N.toList.take 4) rfl rfl rfl Tryz.underlying513 (by kernel_rfl) (by show Nat.min 1 (2 - 0) = 1; rfl) e2 h1 h2 (by rw [e2, hs5]; omega) (fun j v hj => by simpa using hsN j v hj) ho3 rfl rfl rfl ?_
    intro w6 C6 p6 hs6 hx6
    replace og := og.putB p6
    replace h1 := p6.blk
    refine Seq.nil ?_
    refine Post.weak (F' := [(0, _), (1, _), (2, _), (6, _), (7, _), (8, _), (16, _), (22, _), (31, _), (68, _)]) ⟨rfl, rfl, rfl, rfl, rfl, rfl, rfl, rfl, rfl, rfl, trivial⟩ ?_
    refine Post.then_ ?_
    refine Cd.seq ?_
    refine Cd.region ?_
    refine Seq.val (Runs.move rfl rfl) rfl rfl rfl ?_
    refine Seq.val (Runs.assign rfl rfl) rfl rfl rfl ?_
    refine Seq.nil ?_
    refine Post.weak (F' := [(0, _), (1, _), (2, _), (6, _), (7, _), (8, _), (16, _), (22, _), (31, _), (68, _)]) ⟨rfl, rfl, rfl, rfl, rfl, rfl, rfl, rfl, rfl, rfl, trivial⟩ ?_
    refine Post.then_ ?_
    refine Cd.ret ?_
    refine Post.then_ret ?_
    refine Post.end1 rfl rfl (.inl rfl) ?_
    rw [e2] at hx6
    rw [e1] at hx5
    refine ⟨_, rfl, B, c, C6, rfl, h1, by omega, by omega, fun j hj => ?_, fun j hj => ?_, .inl ⟨rfl, rfl, by omega, og⟩⟩
    · rw [hx6, if_pos (by omega), List.getElem?_take, if_pos (by omega)]
      simp
    · rw [hx6, if_neg (by omega), hx5, if_pos (by omega), List.getElem?_take, if_pos (by omega)]
      simp
end Go.Proofs.YtenikchlnfhikaaGreatDoor

set_option linter.unusedVariables false
namespace Go.Proofs.YtenikchlnfhikaaGreatDoor
open Go Go.RowKit
noncomputable def insN (T : RI.Tb) (l : List RI.V) (s : RI.St) : Option (RI.Oc RI.Rr) := match l with
  | [.sg (.own b g o) n wd, .int .i64 (.ofNat i), .sl (some (.own vb vg vo)) vn vc] =>
    RI.cd (RI.an (Nat.beq o 0) (RI.an (Nat.beq n 1) (RI.an (Nat.beq wd 4) (RI.an (Nat.beq i 0) (RI.an (Nat.beq vo 0) (RI.an (Nat.beq vn 1) (RI.nt (Nat.beq vb b))))))))
      (RI.on (s.h.get b) none fun ob => RI.onRow ob none fun t z g' fz c => RI.on (s.h.get vb) none fun ob2 => RI.onRow ob2 none fun t2 z2 g2 fz2 c2 =>
        RI.cd (RI.an (Nat.beq g g') (RI.an (Nat.beq z 4) (RI.an (Nat.beq fz 0) (RI.an (Nat.beq t 517) (RI.an (Nat.beq vg g2) (RI.an (Nat.beq fz2 0) (Nat.beq t2 517)))))))
          (RI.on (RI.rd T s (.own b g 0) 4) none fun lo => RI.on (RI.rd T s (.own vb vg 0) 4) none fun lv => RI.cd (RI.an (RI.all1 lo) (RI.all1 lv))
            (some (RI.wrL (lv ++ lo) 0 .lf fun c => RI.sN (Nat.succ g) fun g => s.h.set b (.row t 8 g 0 c) fun h => .one ⟨.sg (.own b g 0) 2 4, ⟨h, s.nx⟩⟩)) none) none) none
  | _ => none
theorem onRow_some {β : Type} {o : RI.Ob} {k : TypeId → Nat → Nat → Nat → RI.Tr RI.V → Option β} {x : β} (h : RI.onRow o none k = some x) : ∃ t n g z c, o = .row t n g z c ∧ k t n g z c = some x := by
  cases o with
  | row t n g z c => exact ⟨t, n, g, z, c, rfl, h⟩
  | map l c => cases h
  | it m s e l => cases h
  | si l p => cases h
  | chan a b c d e => cases h
theorem insN_spec {T : RI.Tb} {ρ : RI.Env} {w0 : World} (hc : RI.Ctx Tryz.prog T ρ w0) : RI.Spec1 Tryz.prog ρ w0 503 (insN T) := by
  intro l s o L xs w K h hl e ho
  unfold insN at e
  split at e
  · rename_i b g o' n wd i vb vg vo vn vc
    replace e := RI.cd_some e
    obtain ⟨e0, e⟩ := e
    obtain ⟨q1, e0⟩ := RI.an_true e0
    obtain ⟨q2, e0⟩ := RI.an_true e0
    obtain ⟨q3, e0⟩ := RI.an_true e0
    obtain ⟨q4, e0⟩ := RI.an_true e0
    obtain ⟨q5, e0⟩ := RI.an_true e0
    obtain ⟨q6, q7⟩ := RI.an_true e0
    have q1 := RI.beq_iff.1 q1
    have q2 := RI.beq_iff.1 q2
    have q3 := RI.beq_iff.1 q3
    have q4 := RI.beq_iff.1 q4
    have q5 := RI.beq_iff.1 q5
    have q6 := RI.beq_iff.1 q6
    subst q1 q2 q3 q4 q5 q6
    have hvb : vb ≠ b := fun q => by
      subst q
      rw [Nat.beq_refl] at q7
      cases q7
    replace e := RI.on_some e
    obtain ⟨ob, hob, e⟩ := e
    replace e := onRow_some e
    obtain ⟨t, z, g', fz, cs, rfl, e⟩ := e
    replace e := RI.on_some e
    obtain ⟨ob2, hob2, e⟩ := e
    replace e := onRow_some e
    obtain ⟨t2, z2, g2, fz2, cs2, rfl, e⟩ := e
    replace e := RI.cd_some e
    obtain ⟨e0, e⟩ := e
    obtain ⟨q1, e0⟩ := RI.an_true e0
    obtain ⟨q2, e0⟩ := RI.an_true e0
    obtain ⟨q3, e0⟩ := RI.an_true e0
    obtain ⟨q4, e0⟩ := RI.an_true e0
    obtain ⟨q5, e0⟩ := RI.an_true e0
    obtain ⟨q6, q8⟩ := RI.an_true e0
    have q1 := RI.beq_iff.1 q1
    have q2 := RI.beq_iff.1 q2
    have q3 := RI.beq_iff.1 q3
    have q4 := RI.beq_iff.1 q4
    have q5 := RI.beq_iff.1 q5
    have q6 := RI.beq_iff.1 q6
    have q8 := RI.beq_iff.1 q8
    subst q1 q2 q3 q4 q5 q6 q8
    replace e := RI.on_some e
    obtain ⟨lo, hlo, e⟩ := e
    replace e := RI.on_some e
    obtain ⟨lv, hlv, e⟩ := e
    replace e := RI.cd_some e
    obtain ⟨e0, e⟩ := e
    obtain ⟨a1o, a1v⟩ := RI.an_true e0
    injection e with e
    rw [RI.wrL_eq, RI.sN_eq, RI.Tr.set_put] at e
    subst e
    rcases hl with _ | ⟨hv1, hl⟩
    rcases hl with _ | ⟨hv2, hl⟩
    rcases hl with _ | ⟨hv3, hl⟩
    cases hl
    cases hv2
    cases hv1 with
    | @sg _ _ _ _ _ B base sz c hL hnc hroom =>
      cases hv3 with
      | sl hA hvn =>
        cases hA with
        | @own _ _ _ B2 base2 sz2 hL2 =>
          obtain ⟨hB, hb0, C, f, a1, a2, a3, a4, a5, a6⟩ := h.row hob hL
          obtain ⟨hB2, hb02, C2, f2, d1, d2, d3, d4, d5, d6⟩ := h.row hob2 hL2
          subst hb0 hb02
          have hf : f = (0, 0) := a4 rfl
          have hf2 : f2 = (0, 0) := d4 rfl
          subst hf hf2
          obtain ⟨xo, g1, g2, g3, g4⟩ := RI.rd_spec hc h (.own hL) hlo
          obtain ⟨xv, k1, k2, k3, k4⟩ := RI.rd_spec hc h (.own hL2) hlv
          have hCo : ∀ j u, xo[j]? = some u → C[j]? = some u := fun j u hu => by
            have := g4 j u hu
            rw [Addr.add_lit] at this
            have b1 : Blk w B _ C := a1
            rw [b1.cell] at this
            simpa using this
          have hCv : ∀ j u, xv[j]? = some u → C2[j]? = some u := fun j u hu => by
            have := k4 j u hu
            rw [Addr.add_lit] at this
            have b1 : Blk w B2 _ C2 := d1
            rw [b1.cell] at this
            simpa using this
          have hlen2 : 4 ≤ C2.size := by
            have h3 : 3 < xv.length := by omega
            have := hCv 3 _ (List.getElem?_eq_getElem h3)
            have := (Array.getElem?_eq_some_iff.1 this).1
            omega
          have hlt : b < s.nx := Nat.lt_of_not_le fun hh => by rw [h.fresh b g hh] at hL; cases hL
          have hne : B2 ≠ B := fun q => h.inj vb b _ _ _ _ hvb hob2 hob hL2 hL q
          have hBw : B < w.heap.size := (Array.getElem?_eq_some_iff.1 a1).1
          have hen : (callFunc 503 [Value.slice (some ⟨B, 0 + 0, none⟩) 1 c, .int .i64 (Int.ofNat 0), .slice (some ⟨B2, 0 + 0, none⟩) 1 vc].toArray).run Tryz.prog w = .ok (.enter 503 _) w := RI.run_enter Tryz.func503 (by kernel_rfl) rfl _ w
          refine .inl ⟨_, w, hen, (ins_any B c B2 vc C C2 w a1 d1 hne hnc (by omega) hlen2 (fun j v hj hv => ?_) (fun j v hj hv => ?_)).mono ?_⟩
          · have hj' : j < xo.length := by omega
            have := hCo j _ (List.getElem?_eq_getElem hj')
            have hv := Option.some.inj (this.symm.trans hv)
            rw [← hv]
            exact g1.ones hc a1o _ (List.getElem_mem hj')
          · have hj' : j < xv.length := by omega
            have := hCv j _ (List.getElem?_eq_getElem hj')
            have hv := Option.some.inj (this.symm.trans hv)
            rw [← hv]
            exact k1.ones hc a1v _ (List.getElem_mem hj')
          · rintro e w' ⟨v, rfl, ⟨gg, c', C', rfl, m1, m2, m3, m4, m5, m6⟩⟩
            refine ⟨_, rfl, ?_⟩
            have hcell : ∀ (i : Nat) (v : RI.V), i < 8 → (RI.wrT (lv ++ lo) 0 .lf).get i = some v → ∃ x, C'[i]? = some x ∧ RI.RV ρ L v x := fun i v hi hv => by
              rw [RI.wrT_get, if_pos (by rw [List.length_append]; omega), Nat.sub_zero] at hv
              obtain ⟨u, n1, n2⟩ := (k1.append g1).get hv
              refine ⟨u, ?_, n2⟩
              by_cases h4 : i < 4
              · rw [m4 i h4]
                rw [List.getElem?_append_left (by omega)] at n1
                exact hCv i u n1
              · rw [List.getElem?_append_right (by omega), k2] at n1
                have := m5 (i - 4) (by omega)
                rw [show 4 + (i - 4) = i by omega] at this
                rw [this]
                exact hCo _ u n1
            rcases m6 with ⟨rfl, rfl, hs', hg⟩ | ⟨hge, hbel⟩
            · obtain ⟨r1, r2⟩ := h.turn (o' := .row 517 8 (g + 1) 0 (RI.wrT (lv ++ lo) 0 .lf)) hob hlt (h.held hL) rfl (x := (gg, 0, sz)) (.inl ⟨_, hL, rfl⟩) (w' := w') (h.below.trans (only_to_below hg.gr hB hBw))
                (RI.RO.mkRow (RI.Loc.put_self _ _ _ _) hB rfl m1 (by omega) (by omega) (fun _ => rfl) (fun q => by cases q) fun i v hi hv => by
                  obtain ⟨x, x1, x2⟩ := hcell i v hi hv
                  exact ⟨x, x1, x2.mono (RI.Loc.le_put (h.top b _ _ hob (Nat.lt_succ_self _)) _)⟩)
                (fun k hk hk' => hg.gr.block k hk' (fun q => hk (by injection q)))
              refine ho _ _ _ r1 r2 ?_
              have := RI.RV.sg (ρ := ρ) (n := 2) (w := 4) (o := 0) (c := c') (RI.Loc.put_self L b (g + 1) (gg, 0, sz)) m2 (by omega)
              simpa [RI.Ob.g] using this
            · obtain ⟨r1, r2⟩ := h.turn (o' := .row 517 8 (g + 1) 0 (RI.wrT (lv ++ lo) 0 .lf)) hob hlt (h.held hL) rfl (x := (gg, 0, C'.size)) (.inr hge) (w' := w') (h.below.step hbel)
                (RI.RO.mkRow (RI.Loc.put_self _ _ _ _) (Nat.le_trans h.below.size hge) rfl m1 rfl (by omega) (fun _ => rfl) (fun q => by cases q) fun i v hi hv => by
                  obtain ⟨x, x1, x2⟩ := hcell i v hi hv
                  exact ⟨x, x1, x2.mono (RI.Loc.le_put (h.top b _ _ hob (Nat.lt_succ_self _)) _)⟩)
                (fun k hk hk' => hbel.block k hk')
              refine ho _ _ _ r1 r2 ?_
              have := RI.RV.sg (ρ := ρ) (n := 2) (w := 4) (o := 0) (c := c') (RI.Loc.put_self L b (g + 1) (gg, 0, C'.size)) m2 (by omega)
              simpa [RI.Ob.g] using this
  · cases e
end Go.Proofs.YtenikchlnfhikaaGreatDoor

set_option linter.unusedVariables false
namespace Go.Proofs.YtenikchlnfhikaaGreatDoor
open Go.RowKit
/-- crc's table. -/
def crcT : List Nat := [0x00000000, 0x105ec76f, 0x20bd8ede, 0x30e349b1, 0x417b1dbc, 0x5125dad3, 0x61c69362, 0x7198540d, 0x82f63b78, 0x92a8fc17, 0xa24bb5a6, 0xb21572c9, 0xc38d26c4, 0xd3d3e1ab, 0xe330a81a, 0xf36e6f75]
structure Nb (w : World) : Prop where
  es : ∃ x, w.cell? ⟨2, 0, none⟩ = some x ∧ x.oneCell' = true
  cell : ∀ i, i < 16 → w.cell? ⟨1, i, none⟩ = some (.int .u32 ((crcT.getD i 0 : Nat) : Int))
theorem Nb.lt {w : World} (h : Nb w) : 1 < w.heap.size := World.block_lt_of_cell? w _ (h.cell 0 (by omega))
theorem Nb.lt2 {w : World} (h : Nb w) : 2 < w.heap.size := by obtain ⟨x, hx, -⟩ := h.es; exact World.block_lt_of_cell? w _ hx
theorem Nb.below {w w' : World} {B : Nat} (h : Nb w) (hb : Below B w w') (hB : 1 < B) (hB2 : 2 < B) : Nb w' := ⟨by obtain ⟨x, hx, h1⟩ := h.es; exact ⟨x, (hb.cell hB2).trans hx, h1⟩, fun i hi => (hb.cell hB).trans (h.cell i hi)⟩
theorem Nb.step {w w' : World} (h : Nb w) (hb : Below w.heap.size w w') : Nb w' := h.below hb h.lt h.lt2
noncomputable def typs : RI.Tr (List TypeInfo) := RI.tabOf Tryz.prog.types.toList
noncomputable def fns : RI.Tr (List Func) := RI.tabOf Tryz.prog.funcs.toList
noncomputable def glb (b o : Nat) : Option RI.V := RI.cd (Nat.beq b 1) (RI.on (RI.nth crcT o) none fun n => some (.int .u32 (.ofNat n))) (RI.cd (Nat.beq b 2) (RI.cd (Nat.beq o 0) (some (.un 0)) none) none)
noncomputable def tb : RI.Tb := ⟨RI.tabAt typs, RI.tabAt fns, glb, fun t => Tryz.prog.stoodInHeld t⟩
noncomputable def ks (k : Nat) : Bool := or (Nat.beq k 569) (or (Nat.beq k 265) (or (Nat.beq k 491) (Nat.beq k 668)))
noncomputable def nat : FuncId → List RI.V → RI.St → Option (RI.Oc RI.Rr) :=
  RI.natC 395 RI.sameN (RI.natC 504 RI.addN (RI.natC 258 RI.cmpsN (RI.natC 503 (insN tb)
    (RI.natv tb 145 520 9 ks))))
noncomputable def isTrue (o : RI.Oc RI.Rr) : Bool := match o with
  | .one r => (match r.v with
    | .bool b => b
    | _ => false)
  | _ => false
set_option maxRecDepth 1000000 in
theorem fns_ok : RI.fsOkB Tryz.prog.funcs.toList = true := by kernel_rfl
noncomputable def nmsOkB (l : List Func) : Bool := @List.rec Func (fun _ => Bool) true (fun f _ ih => RI.an (RI.nt (f.name == "runtime.NumGoroutine")) ih) l
set_option maxRecDepth 1000000 in
theorem nms_ok : nmsOkB Tryz.prog.funcs.toList = true := by kernel_rfl
theorem nmsOkB_spec : ∀ {l : List Func}, nmsOkB l = true → ∀ f ∈ l, (f.name == "runtime.NumGoroutine") = false
  | [], _, f, hf => by simp at hf
  | x :: r, h, f, hf => by
    obtain ⟨h1, h2⟩ := RI.an_true (show RI.an (RI.nt (x.name == "runtime.NumGoroutine")) (nmsOkB r) = true from h)
    simp only [List.mem_cons] at hf
    rcases hf with rfl | hf
    · rw [RI.nt_eq] at h1
      simpa using h1
    · exact nmsOkB_spec h2 f hf
theorem fnsOk : RI.FnsOk tb := fun f fn c hf hb => by
  have h1 : Tryz.prog.funcs.toList[f]? = some fn := RI.tab_spec hf
  have hm := List.mem_of_getElem? h1
  exact ⟨nmsOkB_spec nms_ok fn hm, RI.fsOkB_spec fns_ok fn hm c hb⟩
set_option maxRecDepth 1000000 in
theorem info_at (t : Nat) (i : TypeInfo) (h : Tryz.prog.types[t]? = some i) : Tryz.prog.info? t = some i := by
  have hlt := (Array.getElem?_eq_some_iff.1 h).1
  unfold Tables.info?
  rw [if_pos hlt]
  exact h
/-- What the one symbol stands for: an error of strconv's. -/
def ρx (x : Value) : RI.Env := ⟨fun _ => x, fun _ => False⟩
set_option maxRecDepth 1000000 in
theorem ctx_of {w : World} (hg : Nb w) {x : Value} (hx : w.cell? ⟨2, 0, none⟩ = some x) (h1 : x.oneCell' = true) : RI.Ctx Tryz.prog tb (ρx x) w := by
  refine ⟨fun t i h => info_at t i ?_, fun f fn h => ?_, fun b o v h => ?_, fun n => h1, fun t h => h, by kernel_rfl⟩
  · have : Tryz.prog.types.toList[t]? = some i := RI.tab_spec h
    simpa using this
  · have : Tryz.prog.funcs.toList[f]? = some fn := RI.tab_spec h
    simpa using this
  · have h : RI.cd (Nat.beq b 1) (RI.on (RI.nth crcT o) none fun n => some (.int .u32 (.ofNat n))) (RI.cd (Nat.beq b 2) (RI.cd (Nat.beq o 0) (some (.un 0)) none) none) = some v := h
    cases hb : Nat.beq b 1 with
    | true =>
      rw [hb, RI.cd_true] at h
      have hb := RI.beq_iff.1 hb
      subst hb
      replace h := RI.on_some h
      obtain ⟨n, hn, h⟩ := h
      injection h with h
      subst h
      rw [RI.nth_eq] at hn
      have hlt : o < 16 := (List.getElem?_eq_some_iff.1 hn).1
      refine ⟨hg.lt, _, hg.cell o hlt, fun L => ?_⟩
      rw [List.getD_eq_getElem?_getD, hn]
      exact .int _ _
    | false =>
      rw [hb, RI.cd_false] at h
      replace h := RI.cd_some h
      obtain ⟨h2, h⟩ := h
      replace h := RI.cd_some h
      obtain ⟨h3, h⟩ := h
      injection h with h
      subst h
      have h2 := RI.beq_iff.1 h2
      have h3 := RI.beq_iff.1 h3
      subst h2 h3
      exact ⟨hg.lt2, x, hx, fun L => .un 0⟩
theorem noEscape_is (x : Value) (w : World) : (callFunc 395 #[x]).run Tryz.prog w = .ok (.value x) w := by
  rw [run_callFunc_extern Tryz.func395 (by kernel_rfl) (by kernel_rfl) (by kernel_rfl) (e := Extern.AbiNoEscape.same) (by kernel_rfl)]
  rfl
theorem add64_is (x y c : Int) (w : World) (h0 : 0 ≤ x) (h1 : 0 ≤ y) (h2 : 0 ≤ c) (h3 : c ≤ 1) : (callFunc 504 #[.int .u64 x, .int .u64 y, .int .u64 c]).run Tryz.prog w = .ok (.value (.tuple #[.int .u64 ((x + y + c) % 18446744073709551616), .int .u64 ((x + y + c) / 18446744073709551616)])) w := by
  rw [run_callFunc_extern Tryz.func504 (by kernel_rfl) (by kernel_rfl) (by kernel_rfl) (e := add64Entry) (by kernel_rfl), run_add64 x y c h0 h1 h2 h3]
  rfl
theorem cmpstring_is (a b : ByteArray) (w : World) : (callFunc 258 #[.string a, .string b]).run Tryz.prog w = .ok (.value (.int .i64 (Lib.compareBytes a.data.toList b.data.toList))) w := by
  rw [run_callFunc_extern Tryz.func258 (by kernel_rfl) (by kernel_rfl) (by kernel_rfl) (e := Extern.BytealgCompare.compare) (by kernel_rfl), Lib.run_compareString]
  rfl
set_option maxRecDepth 1000000 in
theorem nat_spec {w : World} (hg : Nb w) {x : Value} (hx : w.cell? ⟨2, 0, none⟩ = some x) (h1 : x.oneCell' = true) (ρ' : RI.Env) (hu : (ρx x).un = ρ'.un) : RI.SpecN Tryz.prog ρ' w nat := by
  refine RI.natC_spec (RI.sameN_spec noEscape_is) (RI.natC_spec (RI.addN_spec add64_is) (RI.natC_spec (RI.cmpsN_spec cmpstring_is) (RI.natC_spec (insN_spec ((ctx_of hg hx h1).env hu)) ?_)))
  refine RI.natv_spec ((ctx_of hg hx h1).env hu) (fun k hk => ?_) idxCon Tryz.func145 (by kernel_rfl) rfl
  unfold ks at hk
  cases h2 : Nat.beq k 569 with
  | true => rw [RI.beq_iff.1 h2]; exact sortConA
  | false =>
  rw [h2] at hk
  cases h3 : Nat.beq k 265 with
  | true => rw [RI.beq_iff.1 h3]; exact sortConB
  | false =>
  rw [h3] at hk
  cases h4 : Nat.beq k 491 with
  | true => rw [RI.beq_iff.1 h4]; exact sortConC
  | false =>
  rw [h4] at hk
  have hk : Nat.beq k 668 = true := hk
  rw [RI.beq_iff.1 hk]
  exact sortConD
end Go.Proofs.YtenikchlnfhikaaGreatDoor

set_option linter.unusedVariables false
namespace Go.Proofs.YtenikchlnfhikaaGreatDoor
open Go Go.RowKit
noncomputable def runO (f : FuncId) (l : List RI.V) (s : RI.St) : RI.Oc RI.Rr := (RI.both tb nat idleN 1000000).c f l s
noncomputable def getR (o : RI.Oc RI.Rr) : RI.Rr := match o with
  | .one r => r
  | _ => ⟨.nilI, ⟨.lf, 0⟩⟩
/-- It is one end. -/
noncomputable def isOne (o : RI.Oc RI.Rr) : Bool := match o with
  | .one _ => true
  | _ => false
/-- It is one end, with this value. -/
noncomputable def isV (v : RI.V) (o : RI.Oc RI.Rr) : Bool := match o with
  | .one r => RI.V.beq r.v v
  | _ => false
theorem isOne_spec {o : RI.Oc RI.Rr} (h : isOne o = true) : o = .one (getR o) := by
  unfold isOne at h
  split at h
  · rfl
  · cases h
theorem isV_spec {v : RI.V} {o : RI.Oc RI.Rr} (h : isV v o = true) : isOne o = true ∧ (getR o).v = v := by
  unfold isV at h
  split at h
  · exact ⟨rfl, RI.V.beq_true h⟩
  · cases h
/-- A world that a run has come to. -/
structure At (w0 : World) (y : Value) (s : RI.St) (w : World) (L : RI.Loc) : Prop where
  es : w0.cell? ⟨2, 0, none⟩ = some y
  one : y.oneCell' = true
  rel : RI.Rel (ρx y) w0 L s w
theorem At.start {w : World} (hg : Nb w) : ∃ y, At w y ⟨.lf, 0⟩ w (fun _ _ => none) := by
  obtain ⟨x, hx, h1⟩ := hg.es
  exact ⟨x, hx, h1, Below.refl _ _, fun _ _ _ => rfl, fun b o g h => (by cases h), fun b h => h.elim, fun b o h => (by cases h), fun b b' o o' x x' _ h => (by cases h)⟩
set_option maxRecDepth 1000000 in
theorem runs_from {w0 w : World} {y : Value} (hg : Nb w0) {s : RI.St} {L : RI.Loc} (h : At w0 y s w L) {f : FuncId} {l : List RI.V} {xs : List Value} (hl : RI.RVs (ρx y) L l xs) (hv : isOne (runO f l s) = true) (hen : (callFunc f xs.toArray).run Tryz.prog w = .ok (.enter f xs.toArray) w) :
    Calls Tryz.prog f xs.toArray w fun e w' => ∃ x L', e = .returned x ∧ L.le L' ∧ At w0 y (getR (runO f l s)).s w' L' ∧ RI.RV (ρx y) L' (getR (runO f l s)).v x := by
  obtain ⟨hx0, h10, hrel⟩ := h
  have hn := nat_spec hg hx0 h10
  have hdn : ∀ ρ' : RI.Env, (ρx y).un = ρ'.un → RI.SpecDn Tryz.prog ρ' w0 idleN := fun ρ' hu => idleN_spec
  have hone := isOne_spec hv
  have hrun := (RI.both_run (ctx_of hg hx0 h10) fnsOk hn hdn 1000000).2 f l s L xs w (fun x w' => ∃ L', L.le L' ∧ At w0 y (getR (runO f l s)).s w' L' ∧ RI.RV (ρx y) L' (getR (runO f l s)).v x) hrel hl (by
    show (runO f l s).all _
    generalize getR (runO f l s) = S at hone ⊢
    rw [hone]
    intro L' x w' hle hr hx
    exact ⟨L', hle, ⟨hx0, h10, hr⟩, hx⟩)
  rcases hrun with ⟨g, w1, h1, h2⟩ | ⟨x, w1, h1, -⟩
  · rw [hen] at h1
    injection h1 with h1 h3
    injection h1 with h1
    subst h1 h3
    exact h2.mono fun e w' ⟨x, he, L', k1, k2, k3⟩ => ⟨x, L', he, k1, k2, k3⟩
  · rw [hen] at h1
    injection h1 with h1
    cases h1
/-- A closed call, by itself. -/
theorem runs_one (w : World) (hg : Nb w) {f : FuncId} {l : List RI.V} {xs : List Value} (hl : ∀ y, RI.RVs (ρx y) (fun _ _ => none) l xs) {v : RI.V} (hv : isV v (runO f l ⟨.lf, 0⟩) = true) (hen : (callFunc f xs.toArray).run Tryz.prog w = .ok (.enter f xs.toArray) w) :
    Calls Tryz.prog f xs.toArray w fun e w' => ∃ x L' y, e = .returned x ∧ RI.RV (ρx y) L' v x ∧ Below w.heap.size w w' := by
  obtain ⟨y, hy⟩ := At.start hg
  obtain ⟨h1, h2⟩ := isV_spec hv
  exact (runs_from hg hy (hl y) h1 hen).mono fun e w' ⟨x, L', k1, k2, k3, k4⟩ => ⟨x, L', y, k1, by rw [← h2]; exact k4, k3.rel.below⟩
set_option maxRecDepth 1000000 in
theorem runs_leaves {w0 w : World} {y : Value} (hg : Nb w0) {s : RI.St} {L : RI.Loc} (h : At w0 y s w L) {f : FuncId} {l : List RI.V} {xs : List Value} (hl : RI.RVs (ρx y) L l xs) (S : RI.Sh) (ok : List Bool → RI.Rr → Bool) (hv : ∀ p ∈ S.paths, RI.leafB (ok p) p (runO f l s) = true) (hen : (callFunc f xs.toArray).run Tryz.prog w = .ok (.enter f xs.toArray) w) :
    Calls Tryz.prog f xs.toArray w fun e w' => ∃ x L' r, e = .returned x ∧ L.le L' ∧ (∃ p ∈ S.paths, ok p r = true) ∧ At w0 y r.s w' L' ∧ RI.RV (ρx y) L' r.v x := by
  obtain ⟨hx0, h10, hrel⟩ := h
  have hn := nat_spec hg hx0 h10
  have hdn : ∀ ρ' : RI.Env, (ρx y).un = ρ'.un → RI.SpecDn Tryz.prog ρ' w0 idleN := fun ρ' hu => idleN_spec
  have hrun := (RI.both_run (ctx_of hg hx0 h10) fnsOk hn hdn 1000000).2 f l s L xs w (fun x w' => ∃ L' r, L.le L' ∧ (∃ p ∈ S.paths, ok p r = true) ∧ At w0 y r.s w' L' ∧ RI.RV (ρx y) L' r.v x) hrel hl (by
    show (runO f l s).all _
    refine RI.Oc.all_mono ?_ (RI.all_leaves S ok _ hv)
    intro r hp L' x w' hle hr hx
    exact ⟨L', r, hle, hp, ⟨hx0, h10, hr⟩, hx⟩)
  rcases hrun with ⟨g, w1, h1, h2⟩ | ⟨x, w1, h1, -⟩
  · rw [hen] at h1
    injection h1 with h1 h3
    injection h1 with h1
    subst h1 h3
    exact h2.mono fun e w' ⟨x, he, L', r, k1, k2, k3, k4⟩ => ⟨x, L', r, he, k1, k2, k3, k4⟩
  · rw [hen] at h1
    injection h1 with h1
    cases h1
end Go.Proofs.YtenikchlnfhikaaGreatDoor

namespace Go.Proofs.YtenikchlnfhikaaGreatDoor
open Go.RowKit

theorem Own.form {w : World} {B size n : Nat} {e : TypeId} {v : Value} {xs : List Value} (h : Own w B e size v n xs) (h0 : 0 < n) : ∃ g cap cur, v = .slice (some ⟨g, 0, none⟩) n cap ∧ B ≤ g ∧ Blk w g e cur ∧ ∀ (j : Nat) (x : Value), xs[j]? = some x → cur[j]? = some x := by
  obtain ⟨hl, ⟨_, h1⟩ | ⟨g, cap, cur, rfl, h1, h2, h3, h4, h5, h6⟩⟩ := h.row
  · omega
  · refine ⟨g, cap, cur, rfl, h1, h2, fun j x hx => ?_⟩
    rw [← h6] at hx
    have := List.getElem?_take_of_lt (l := cur.toList) (i := j) (j := n * size) (by
      rcases Nat.lt_or_ge j (n * size) with h | h
      · exact h
      · rw [List.getElem?_eq_none (by rw [List.length_take]; omega)] at hx; cases hx)
    rw [this] at hx
    simpa using hx
section
variable {P : Program} {E : Operand → Option Value} {o : Oper} {w : World} {x y : Operand} {T : TypeId}
/-- A struct within a block. -/
theorem Runs.loadP {g off m : Nat} {cs : Array Value} {ps : List Value} {t : TypeId} {d : TypeDesc} (ho : o.op = .load T x) (hx : E x = some (.pointer (some ⟨g, off, none⟩))) (hT : P.underlying T = some d) (hd : (match d with | .struct _ | .array _ _ => true | _ => false) = true) (hb : Blk w g t cs) (hs : sizeIs P T m = true) (hm : ps.length = m) (hp : ∀ j v, ps[j]? = some v → cs[off + j]? = some v) : Runs P E o w (.agg ps.toArray) w := by
  obtain ⟨i, hi, hsz⟩ := sizeIs_spec hs
  exact .loadN (cs := ps) ho hx hT hd hi (by omega) (fun j v hj => by
    have hadd : (⟨g, off, none⟩ : Addr).add j = ⟨g, off + j, none⟩ := by unfold Addr.add; split <;> simp_all
    rw [hadd, hb.cell (off + j)]
    exact hp j v hj)
theorem Runs.indexBN {k : IntKind} {g j m c e s : Nat} {p : Int} (ho : o.op = .indexAddr T x y) (hx : E x = some (.slice (some ⟨g, 0, none⟩) m c)) (hy : E y = some (.int k p)) (hT : P.underlying T = some (.slice e)) (hs : sizeIs P e s = true) (hp : p = (j : Int)) (hlt : j < m) : Runs P E o w (.pointer (some ⟨g, s * j, none⟩)) w := by
  have h := Runs.indexN (w := w) ho hx hy hT hs hp hlt
  have e : (⟨g, 0, none⟩ : Addr).add (j * s) = ⟨g, s * j, none⟩ := by unfold Addr.add; split <;> simp_all [Nat.mul_comm]
  rwa [e] at h
end
section
variable {P : Program} {E : Operand → Option Value} {o : Oper} {w : World} {x : Operand} {T : TypeId}
theorem Runs.fieldP {g off i t : Nat} (k : Nat) {fields : Array Field} (ho : o.op = .fieldAddr T x i) (hx : E x = some (.pointer (some ⟨g, off, none⟩))) (hT : P.underlying T = some (.struct fields)) (hf : offAt fields i = some (t, k)) (hs : sizePos P t = true) :
    Runs P E o w (.pointer (some ⟨g, off + k, none⟩)) w := by
  have h := Runs.fieldA (w := w) k ho hx hT hf hs
  have e : (⟨g, off, none⟩ : Addr).add k = ⟨g, off + k, none⟩ := by unfold Addr.add; split <;> simp_all
  rwa [e] at h
end
end Go.Proofs.YtenikchlnfhikaaGreatDoor

namespace Go.Proofs.YtenikchlnfhikaaGreatDoor
open Go.RowKit

/-- An ask. -/
structure As where
  k : Int
  r : List Nat
  i : List Nat
  x : List Nat
  y : List Nat
  t : List Nat
  d : Int
  p : Int
  wh : Int
  n : Int
abbrev As.cs (a : As) : List Value := [.int .i64 a.k, .string (strOf a.r), .string (strOf a.i), .string (strOf a.x), .string (strOf a.y), .string (strOf a.t), .int .i64 a.d, .int .i64 a.p, .int .i64 a.wh, .int .i64 a.n]
abbrev As.v (a : As) : Value := .agg a.cs.toArray
theorem zero_debentureref26_Ask : zeroIs Tryz.prog 23 = some (some (.agg #[.int .i64 0, .string { data := #[] }, .string { data := #[] }, .string { data := #[] }, .string { data := #[] }, .string { data := #[] }, .int .i64 0, .int .i64 0, .int .i64 0, .int .i64 0])) := by kernel_rfl
abbrev treeN : Value := .agg #[.slice none 0 0, .slice none 0 0, .slice none 0 0, .slice none 0 0, .slice none 0 0, .slice none 0 0]
def treeNV : RI.V := .agg [.sl none 0 0, .sl none 0 0, .sl none 0 0, .sl none 0 0, .sl none 0 0, .sl none 0 0]
set_option maxRecDepth 100000 in
theorem build_none (w : World) (hg : Nb w) : Calls Tryz.prog 294 #[.slice none 0 0, .slice none 0 0] w fun e w' => e = .returned treeN ∧ Below w.heap.size w w' := by
  refine (runs_one w hg (f := 294) (l := [.sl none 0 0, .sl none 0 0]) (xs := [.slice none 0 0, .slice none 0 0]) (fun y => .cons .sl0 (.cons .sl0 .nil)) (v := treeNV) (by kernel_rfl) (RI.run_enter Tryz.func294 (by kernel_rfl) rfl _ w)).mono ?_
  rintro e w' ⟨x, L', y, rfl, hx, hb⟩
  cases hx with
  | agg h =>
    rcases h with _ | ⟨h0, h⟩
    rcases h with _ | ⟨h1, h⟩
    rcases h with _ | ⟨h2, h⟩
    rcases h with _ | ⟨h3, h⟩
    rcases h with _ | ⟨h4, h⟩
    rcases h with _ | ⟨h5, h⟩
    cases h
    cases h0
    cases h1
    cases h2
    cases h3
    cases h4
    cases h5
    exact ⟨rfl, hb⟩
abbrev termN : Value := .agg #[.int .i64 0, .string { data := #[] }, .slice none 0 0, .slice none 0 0]
def termNV : RI.V := .agg [.int .i64 0, .str [], .sl none 0 0, .sl none 0 0]
set_option maxRecDepth 100000 in
theorem last_none (w : World) (hg : Nb w) : Calls Tryz.prog 295 #[treeN] w fun e w' => e = .returned (.tuple #[termN, .bool false]) ∧ Below w.heap.size w w' := by
  refine (runs_one w hg (f := 295) (l := [treeNV]) (xs := [treeN]) (fun y => .cons (.agg (.cons .sl0 (.cons .sl0 (.cons .sl0 (.cons .sl0 (.cons .sl0 (.cons .sl0 .nil))))))) .nil) (v := .tup [termNV, .bool false]) (by kernel_rfl) (RI.run_enter Tryz.func295 (by kernel_rfl) rfl _ w)).mono ?_
  rintro e w' ⟨x, L', y, rfl, hx, hb⟩
  cases hx with
  | tup h =>
    rcases h with _ | ⟨h0, h⟩
    rcases h with _ | ⟨h1, h⟩
    cases h
    cases h1
    cases h0 with
    | agg h =>
      rcases h with _ | ⟨h0, h⟩
      rcases h with _ | ⟨h1, h⟩
      rcases h with _ | ⟨h2, h⟩
      rcases h with _ | ⟨h3, h⟩
      cases h
      cases h0
      cases h2
      cases h3
      generalize hz : ([] : List Nat) = z at h1
      cases h1 with
      | str sb =>
        have hsz : sb = { data := #[] } := by
          have hz : sb.data.toList.map UInt8.toNat = [] := hz.symm
          have := List.map_eq_nil_iff.1 hz
          obtain ⟨d⟩ := sb
          simp only at this
          have : d = #[] := Array.toList_eq_nil_iff.1 this
          rw [this]
        subst hsz
        exact ⟨rfl, hb⟩
theorem said_none (a : As) (w : World) (hg : Nb w) : Calls Tryz.prog 169 #[a.v, .slice none 0 0, .slice none 0 0] w fun e w' => e = .returned a.v ∧ Below w.heap.size w w' := by
  have bel := Below.refl w.heap.size w
  have nb := hg
  refine Calls.start 31 Tryz.func169 rfl rfl rfl ?_
  refine Cd.seq ?_
  refine Cd.region ?_
  refine Seq.box rfl rfl rfl rfl rfl ?_
  intro g3 w1 n3
  have e3 := Nat.le_trans bel.size n3.ge
  replace bel := bel.step n3.below
  replace nb := nb.step n3.below
  have k3 := n3.blk
  refine Seq.alloc rfl (run_zero zero_debentureref26_Ask) rfl rfl rfl ?_
  intro g6 w2 n6
  have e6 := Nat.le_trans bel.size n6.ge
  have l6 := Nat.lt_of_lt_of_le k3.lt n6.ge
  replace bel := bel.step n6.below
  replace nb := nb.step n6.below
  replace k3 := k3.step n6.below
  have k6 := n6.blk
  refine Seq.nil ?_
  refine Post.weak (F' := [(0, _), (1, _), (2, _), (3, _), (6, _)]) ⟨rfl, rfl, rfl, rfl, rfl, trivial⟩ ?_
  refine Post.then_ ?_
  refine Cd.seq ?_
  refine Cd.region ?_
  refine Seq.val (Runs.move rfl rfl) rfl rfl rfl ?_
  refine Seq.val (Runs.move rfl rfl) rfl rfl rfl ?_
  refine Seq.call (Enters.func rfl rfl rfl (run_enter Tryz.func294 (by kernel_rfl) rfl)) rfl rfl rfl (build_none _ nb) ?_
  rintro e w3 ⟨rfl, hb3⟩
  refine ⟨_, rfl, ?_⟩
  replace bel := bel.step hb3
  replace nb := nb.step hb3
  replace k3 := k3.step hb3
  replace k6 := k6.step hb3
  refine Seq.call (Enters.func rfl rfl rfl (run_enter Tryz.func295 (by kernel_rfl) rfl)) rfl rfl rfl (last_none _ nb) ?_
  rintro e w4 ⟨rfl, hb4⟩
  refine ⟨_, rfl, ?_⟩
  replace bel := bel.step hb4
  replace nb := nb.step hb4
  replace k3 := k3.step hb4
  replace k6 := k6.step hb4
  refine Seq.val (Runs.move rfl rfl) rfl rfl rfl ?_
  refine Seq.val (Runs.extract rfl rfl rfl) rfl rfl rfl ?_
  refine Seq.val (Runs.extract rfl rfl rfl) rfl rfl rfl ?_
  refine Seq.alloc rfl (run_zero zero_api_Term) rfl rfl rfl ?_
  intro g7 w3 n7
  have e7 := Nat.le_trans bel.size n7.ge
  have l7 := Nat.lt_of_lt_of_le k6.lt n7.ge
  have l7_k3 := Nat.lt_of_lt_of_le k3.lt n7.ge
  replace bel := bel.step n7.below
  replace k3 := k3.step n7.below
  replace k6 := k6.step n7.below
  have k7 := n7.blk
  refine Seq.storeN rfl rfl rfl rfl (m := 4) (by kernel_rfl) rfl (by repeat' first | exact trivial | apply And.intro | rfl | assumption) k7 (by simp [Value.cells]) rfl rfl ?_
  intro w4 pw4
  replace bel := bel.put k7 pw4 e7
  replace k3 := k3.put pw4 (by omega)
  replace k6 := k6.put pw4 (by omega)
  replace k7 := pw4.blk
  refine Seq.val (Runs.assign rfl rfl) rfl rfl rfl ?_
  refine Seq.nil ?_
  refine Post.weak (F' := [(0, _), (1, _), (2, _), (3, _), (6, _), (7, _), (8, _)]) ⟨rfl, rfl, rfl, rfl, rfl, rfl, rfl, trivial⟩ ?_
  refine Post.then_ ?_
  refine Cd.seq ?_
  refine Cd.seq ?_
  refine Cd.region ?_
  refine Seq.val (Runs.fieldB 0 rfl rfl Tryz.underlying23 rfl (by kernel_rfl)) rfl rfl rfl ?_
  refine Seq.val (Runs.loadB rfl rfl Tryz.underlying3 rfl k3 rfl) rfl rfl rfl ?_
  refine Seq.val (Runs.eqlI rfl rfl rfl) rfl rfl rfl ?_
  refine Seq.val (Runs.move rfl rfl) rfl rfl rfl ?_
  refine SeqC.start ?_
  refine SeqC.open rfl rfl rfl rfl rfl rfl rfl (fun hcx => Runs.move rfl rfl) ?_
  refine SeqC.next rfl rfl rfl rfl rfl rfl rfl (fun hcx => Runs.len rfl rfl Tryz.underlying26) ?_
  refine SeqC.next rfl rfl rfl rfl rfl rfl rfl (fun hcx => Runs.gtr rfl rfl rfl) ?_
  refine SeqC.and rfl rfl rfl rfl rfl rfl rfl ?_
  refine Seq.val (Runs.move rfl rfl) rfl rfl rfl ?_
  refine SeqC.start ?_
  refine SeqC.open rfl rfl rfl rfl rfl rfl rfl (fun hcx => Runs.move rfl rfl) ?_
  refine SeqC.and rfl rfl rfl rfl rfl rfl rfl ?_
  refine Seq.nil ?_
  refine Post.weak (F' := [(0, _), (1, _), (2, _), (3, _), (6, _), (7, _), (8, _), (26, _)]) ⟨rfl, rfl, rfl, rfl, rfl, rfl, rfl, rfl, trivial⟩ ?_
  refine Post.then_ ?_
  refine Cd.condF rfl (by simp) ?_
  refine Cd.skip ?_
  refine Post.then_ ?_
  refine Cd.seq ?_
  refine Cd.region ?_
  refine Seq.val (Runs.loadW rfl rfl Tryz.underlying23 rfl k3 (m := 10) (by kernel_rfl) rfl) rfl rfl rfl ?_
  refine Seq.storeN rfl rfl rfl rfl (m := 10) (by kernel_rfl) rfl (by repeat' first | exact trivial | apply And.intro | rfl | assumption) k6 (by simp [Value.cells]) rfl rfl ?_
  intro w5 pw5
  replace bel := bel.put k6 pw5 e6
  replace k3 := k3.put pw5 (by omega)
  replace k7 := k7.put pw5 (by omega)
  replace k6 := pw5.blk
  refine Seq.nil ?_
  refine Post.weak (F' := [(0, _), (1, _), (2, _), (3, _), (6, _), (7, _), (8, _), (26, _)]) ⟨rfl, rfl, rfl, rfl, rfl, rfl, rfl, rfl, trivial⟩ ?_
  refine Post.then_ ?_
  refine Cd.ret ?_
  refine Post.endC rfl rfl k6 Tryz.underlying23 rfl (m := 10) (by kernel_rfl) rfl (.inl rfl) ?_
  exact ⟨rfl, bel⟩
theorem heavy_any (B c : Nat) (A : Option Addr) (a : As) (w : World) (hr : Reads w B 10 A 1 a.cs) (ht : a.t.length ≤ 5000) (hb : ∀ x ∈ a.t, x < 256) :
    Calls Tryz.prog 79 #[.slice A 1 c] w fun e w' => (∃ b, e = .returned (.bool b)) ∧ w = w' := by
  obtain ⟨ad, rfl, -, hcl⟩ := hr.2 (by omega)
  have c5 : w.cell? ((ad.add (0 * 10)).add 5) = some (.string (strOf a.t)) := by rw [add_of_add]; exact hcl 5 _ rfl
  have c0 : w.cell? ((ad.add (0 * 10)).add 0) = some (.int .i64 a.k) := by rw [add_of_add]; exact hcl 0 _ rfl
  refine Calls.start 55 Tryz.func79 rfl rfl rfl ?_
  refine Cd.seq ?_
  refine Cd.region ?_
  refine Seq.val (Runs.assign rfl rfl) rfl rfl rfl ?_
  refine Seq.nil ?_
  refine Post.weak (F' := [(0, _), (2, _)]) ⟨rfl, rfl, trivial⟩ ?_
  refine Post.then_ ?_
  refine Cd.seq ?_
  refine Cd.region ?_
  refine Seq.val (Runs.assign rfl rfl) rfl rfl rfl ?_
  refine Seq.val (Runs.assign rfl rfl) rfl rfl rfl ?_
  refine Seq.nil ?_
  refine Post.weak (F' := [(0, _), (2, _), (3, _), (4, _)]) ⟨rfl, rfl, rfl, rfl, trivial⟩ ?_
  refine Post.then_ ?_
  refine Cd.seq ?_
  refine Cd.seq ?_
  refine Cd.region ?_
  refine Seq.val (Runs.assign rfl rfl) rfl rfl rfl ?_
  refine Seq.nil ?_
  refine Post.weak (F' := [(0, _), (2, _), (3, _), (4, _), (5, _)]) ⟨rfl, rfl, rfl, rfl, rfl, trivial⟩ ?_
  refine Post.then_ ?_
  refine Cd.block ?_
  refine Cd.loop (σ := Nat × Nat × Nat) (fun q => [(0, .slice (some ad) 1 c), (3, .int .i64 (q.2.1 : Int)), (4, .int .i64 (q.2.2 : Int)), (5, .int .i64 (q.1 : Int))]) (fun q wr => q.1 ≤ 1 ∧ q.2.1 ≤ 5000 * q.1 ∧ q.2.2 ≤ 5000 * q.1 ∧ w = wr) (fun q => 1 - q.1) (0, 0, 0) ⟨by simp, by simp, by simp, rfl⟩ ⟨rfl, rfl, rfl, rfl, trivial⟩ ?_
  rintro ⟨i, on, sz⟩ wr ⟨hi, hon, hsz, rfl⟩
  simp only at hi hon hsz
  show Cd _ _ _ _ [(0, .slice (some ad) 1 c), (3, .int .i64 (on : Int)), (4, .int .i64 (sz : Int)), (5, .int .i64 (i : Int))] _
  refine Cd.seq ?_
  refine Cd.seq ?_
  refine Cd.region ?_
  refine Seq.val (Runs.move rfl rfl) rfl rfl rfl ?_
  refine Seq.val (Runs.move rfl rfl) rfl rfl rfl ?_
  refine Seq.val (Runs.len rfl rfl Tryz.underlying166) rfl rfl rfl ?_
  refine Seq.val (Runs.lss rfl rfl rfl) rfl rfl rfl ?_
  refine Seq.nil ?_
  refine Post.weak (F' := [(0, _), (3, _), (4, _), (5, _), (11, _)]) ⟨rfl, rfl, rfl, rfl, rfl, trivial⟩ ?_
  refine Post.then_ ?_
  refine Cd.condD rfl (fun hc => ?_) (fun hc => ?_)
  · obtain rfl : i = 0 := by omega
    refine Cd.skip ?_
    refine Post.then_ ?_
    refine Cd.seq ?_
    refine Cd.block ?_
    refine Cd.seq ?_
    refine Cd.region ?_
    refine Seq.val (Runs.move rfl rfl) rfl rfl rfl ?_
    refine Seq.val (Runs.move rfl rfl) rfl rfl rfl ?_
    refine Seq.val (Runs.indexN rfl rfl rfl Tryz.underlying166 (s := 10) (by kernel_rfl) (j := 0) rfl (by omega)) rfl rfl rfl ?_
    refine Seq.val (Runs.fieldA 5 rfl rfl Tryz.underlying23 rfl (by kernel_rfl)) rfl rfl rfl ?_
    refine Seq.val (Runs.load1 rfl rfl Tryz.underlying9 rfl c5) rfl rfl rfl ?_
    refine Seq.val (Runs.assign rfl rfl) rfl rfl rfl ?_
    refine Seq.nil ?_
    refine Post.weak (F' := [(0, _), (3, _), (4, _), (5, _), (6, _), (11, _)]) ⟨rfl, rfl, rfl, rfl, rfl, rfl, trivial⟩ ?_
    refine Post.then_ ?_
    refine Cd.seq ?_
    refine Cd.seq ?_
    refine Cd.region ?_
    refine Seq.val (Runs.move rfl rfl) rfl rfl rfl ?_
    refine Seq.val (Runs.move rfl rfl) rfl rfl rfl ?_
    refine Seq.val (Runs.indexN rfl rfl rfl Tryz.underlying166 (s := 10) (by kernel_rfl) (j := 0) rfl (by omega)) rfl rfl rfl ?_
    refine Seq.val (Runs.fieldA 0 rfl rfl Tryz.underlying23 rfl (by kernel_rfl)) rfl rfl rfl ?_
    refine Seq.val (Runs.load1 rfl rfl Tryz.underlying3 rfl c0) rfl rfl rfl ?_
    refine Seq.val (Runs.neqI rfl rfl rfl) rfl rfl rfl ?_
    refine Seq.val (Runs.move rfl rfl) rfl rfl rfl ?_
    refine SeqC.start ?_
    refine SeqC.open rfl rfl rfl rfl rfl rfl rfl (fun hcx => Runs.move rfl rfl) ?_
    refine SeqC.next rfl rfl rfl rfl rfl rfl rfl (fun hcx => Runs.lenL rfl rfl Tryz.underlying9) ?_
    refine SeqC.next rfl rfl rfl rfl rfl rfl rfl (fun hcx => Runs.gtr rfl rfl rfl) ?_
    refine SeqC.or rfl rfl rfl rfl rfl rfl rfl ?_
    refine Seq.nil ?_
    refine Post.weak (F' := [(0, _), (3, _), (4, _), (5, _), (6, _), (11, _), (29, _)]) ⟨rfl, rfl, rfl, rfl, rfl, rfl, rfl, trivial⟩ ?_
    refine Post.then_ ?_
    refine Cd.cond rfl (fun h => ?_) (fun h => ?_)
    · skip
      refine Cd.exit ?_
      refine Post.then_exit ?_
      refine Post.block_exit ?_
      refine Post.then_ ?_
      refine Cd.region ?_
      refine Seq.val (Runs.move rfl rfl) rfl rfl rfl ?_
      refine Seq.val (Runs.addI rfl rfl rfl (by omega) (by omega)) rfl rfl rfl ?_
      refine Seq.val (Runs.assign rfl rfl) rfl rfl rfl ?_
      refine Seq.nil ?_
      refine Post.weak (F' := [(0, _), (3, _), (4, _), (5, _), (6, _), (11, _), (29, _)]) ⟨rfl, rfl, rfl, rfl, rfl, rfl, rfl, trivial⟩ ?_
      exact Post.round (1, on, sz) ⟨rfl, rfl, rfl, rfl, trivial⟩ ⟨by simp only; omega, by simp only; omega, by simp only; omega, rfl⟩ (by omega)
    · skip
      refine Cd.skip ?_
      refine Post.then_ ?_
      refine Cd.seq ?_
      refine Cd.region ?_
      refine Seq.val (Runs.move rfl rfl) rfl rfl rfl ?_
      refine Seq.val (Runs.move rfl rfl) rfl rfl rfl ?_
      refine Seq.val (Runs.lenL rfl rfl Tryz.underlying9) rfl rfl rfl ?_
      refine Seq.val (Runs.addI rfl rfl rfl (by omega) (by omega)) rfl rfl rfl ?_
      refine Seq.val (Runs.assign rfl rfl) rfl rfl rfl ?_
      refine Seq.nil ?_
      refine Post.weak (F' := [(0, _), (3, _), (4, _), (5, _), (6, _), (11, _), (29, _)]) ⟨rfl, rfl, rfl, rfl, rfl, rfl, rfl, trivial⟩ ?_
      refine Post.then_ ?_
      refine Cd.seq ?_
      refine Cd.region ?_
      refine Seq.val (Runs.assign rfl rfl) rfl rfl rfl ?_
      refine Seq.nil ?_
      refine Post.weak (F' := [(0, _), (3, _), (4, _), (5, _), (6, _), (7, _), (11, _), (29, _)]) ⟨rfl, rfl, rfl, rfl, rfl, rfl, rfl, rfl, trivial⟩ ?_
      refine Post.then_ ?_
      refine Cd.block ?_
      refine Cd.loop (σ := Nat × Nat) (fun q => [(0, .slice (some ad) 1 c), (3, .int .i64 (q.2 : Int)), (4, .int .i64 ((sz : Int) + (a.t.length : Int))), (5, .int .i64 ((0 : Nat) : Int)), (6, .string (strOf a.t)), (7, .int .i64 (q.1 : Int))]) (fun q wr => q.1 ≤ a.t.length ∧ q.2 ≤ q.1 ∧ w = wr) (fun q => a.t.length + 1 - q.1) (0, on) ⟨by simp only; omega, by simp only; omega, rfl⟩ ⟨rfl, rfl, rfl, rfl, rfl, rfl, trivial⟩ ?_
      rintro ⟨k, on'⟩ wr ⟨hk, hon', rfl⟩
      simp only at hk hon'
      show Cd _ _ _ _ [(0, .slice (some ad) 1 c), (3, .int .i64 (on' : Int)), (4, .int .i64 ((sz : Int) + (a.t.length : Int))), (5, .int .i64 ((0 : Nat) : Int)), (6, .string (strOf a.t)), (7, .int .i64 (k : Int))] _
      refine Cd.seq ?_
      refine Cd.seq ?_
      refine Cd.region ?_
      refine Seq.val (Runs.move rfl rfl) rfl rfl rfl ?_
      refine Seq.val (Runs.addI rfl rfl rfl (by omega) (by omega)) rfl rfl rfl ?_
      refine Seq.val (Runs.move rfl rfl) rfl rfl rfl ?_
      refine Seq.val (Runs.lenL rfl rfl Tryz.underlying9) rfl rfl rfl ?_
      refine Seq.val (Runs.leq rfl rfl rfl) rfl rfl rfl ?_
      refine Seq.nil ?_
      refine Post.weak (F' := [(0, _), (3, _), (4, _), (5, _), (6, _), (7, _), (38, _)]) ⟨rfl, rfl, rfl, rfl, rfl, rfl, rfl, trivial⟩ ?_
      refine Post.then_ ?_
      refine Cd.condD rfl (fun hc => ?_) (fun hc => ?_)
      · skip
        refine Cd.skip ?_
        refine Post.then_ ?_
        refine Cd.seq ?_
        refine Cd.block ?_
        refine Cd.seq ?_
        refine Cd.region ?_
        refine Seq.val (Runs.move rfl rfl) rfl rfl rfl ?_
        refine Seq.val (Runs.move rfl rfl) rfl rfl rfl ?_
        refine Seq.val (Runs.move rfl rfl) rfl rfl rfl ?_
        refine Seq.val (Runs.addI rfl rfl rfl (by omega) (by omega)) rfl rfl rfl ?_
        refine Seq.val (Runs.sliceAtL rfl rfl rfl rfl Tryz.underlying9 (i := k) (j := k + 3) rfl (by omega) (by omega) (by omega)) rfl rfl rfl ?_
        refine Seq.val (Runs.eqlL (b := [111, 110, 101]) rfl rfl rfl (fun x hx => hb x (List.mem_of_mem_take (List.mem_of_mem_drop hx))) (by decide)) rfl rfl rfl ?_
        refine Seq.nil ?_
        refine Post.weak (F' := [(0, _), (3, _), (4, _), (5, _), (6, _), (7, _), (38, _), (46, _)]) ⟨rfl, rfl, rfl, rfl, rfl, rfl, rfl, rfl, trivial⟩ ?_
        refine Post.then_ ?_
        refine Cd.condD rfl (fun hc => ?_) (fun hc => ?_)
        · skip
          refine Cd.region ?_
          refine Seq.val (Runs.move rfl rfl) rfl rfl rfl ?_
          refine Seq.val (Runs.addI rfl rfl rfl (by omega) (by omega)) rfl rfl rfl ?_
          refine Seq.val (Runs.assign rfl rfl) rfl rfl rfl ?_
          refine Seq.nil ?_
          refine Post.weak (F' := [(0, _), (3, _), (4, _), (5, _), (6, _), (7, _), (38, _), (46, _)]) ⟨rfl, rfl, rfl, rfl, rfl, rfl, rfl, rfl, trivial⟩ ?_
          refine Post.block_normal ?_
          refine Post.then_ ?_
          refine Cd.region ?_
          refine Seq.val (Runs.move rfl rfl) rfl rfl rfl ?_
          refine Seq.val (Runs.addI rfl rfl rfl (by omega) (by omega)) rfl rfl rfl ?_
          refine Seq.val (Runs.assign rfl rfl) rfl rfl rfl ?_
          refine Seq.nil ?_
          refine Post.weak (F' := [(0, _), (3, _), (4, _), (5, _), (6, _), (7, _), (38, _), (46, _)]) ⟨rfl, rfl, rfl, rfl, rfl, rfl, rfl, rfl, trivial⟩ ?_
          exact Post.round (k + 1, on' + 1) ⟨rfl, rfl, rfl, rfl, rfl, rfl, trivial⟩ ⟨by simp only; omega, by simp only; omega, rfl⟩ (by omega)
        · skip
          refine Cd.skip ?_
          refine Post.block_normal ?_
          refine Post.then_ ?_
          refine Cd.region ?_
          refine Seq.val (Runs.move rfl rfl) rfl rfl rfl ?_
          refine Seq.val (Runs.addI rfl rfl rfl (by omega) (by omega)) rfl rfl rfl ?_
          refine Seq.val (Runs.assign rfl rfl) rfl rfl rfl ?_
          refine Seq.nil ?_
          refine Post.weak (F' := [(0, _), (3, _), (4, _), (5, _), (6, _), (7, _), (38, _), (46, _)]) ⟨rfl, rfl, rfl, rfl, rfl, rfl, rfl, rfl, trivial⟩ ?_
          exact Post.round (k + 1, on') ⟨rfl, rfl, rfl, rfl, rfl, rfl, trivial⟩ ⟨by simp only; omega, by simp only; omega, rfl⟩ (by omega)
      · skip
        refine Cd.exit ?_
        refine Post.then_exit ?_
        refine Post.round_exit ?_
        refine Post.block_exit ?_
        refine Post.block_normal ?_
        refine Post.then_ ?_
        refine Cd.region ?_
        refine Seq.val (Runs.move rfl rfl) rfl rfl rfl ?_
        refine Seq.val (Runs.addI rfl rfl rfl (by omega) (by omega)) rfl rfl rfl ?_
        refine Seq.val (Runs.assign rfl rfl) rfl rfl rfl ?_
        refine Seq.nil ?_
        refine Post.weak (F' := [(0, _), (3, _), (4, _), (5, _), (6, _), (7, _), (38, _)]) ⟨rfl, rfl, rfl, rfl, rfl, rfl, rfl, trivial⟩ ?_
        exact Post.round (1, on', sz + a.t.length) ⟨rfl, rfl, rfl, rfl, trivial⟩ ⟨by simp only; omega, by simp only; omega, by simp only; omega, rfl⟩ (by omega)
  · skip
    refine Cd.exit ?_
    refine Post.then_exit ?_
    refine Post.round_exit ?_
    refine Post.block_exit ?_
    refine Post.then_ ?_
    refine Cd.seq ?_
    refine Cd.region ?_
    refine Seq.val (Runs.move rfl rfl) rfl rfl rfl ?_
    refine Seq.val (Runs.gtr rfl rfl rfl) rfl rfl rfl ?_
    refine Seq.val (Runs.move rfl rfl) rfl rfl rfl ?_
    refine SeqC.start ?_
    refine SeqC.open rfl rfl rfl rfl rfl rfl rfl (fun hcx => Runs.move rfl rfl) ?_
    refine SeqC.next rfl rfl rfl rfl rfl rfl rfl (fun hcx => Runs.gtr rfl rfl rfl) ?_
    refine SeqC.or rfl rfl rfl rfl rfl rfl rfl ?_
    refine Seq.val (Runs.assign rfl rfl) rfl rfl rfl ?_
    refine Seq.nil ?_
    refine Post.weak (F' := [(0, _), (2, _), (3, _), (4, _), (5, _), (11, _)]) ⟨rfl, rfl, rfl, rfl, rfl, rfl, trivial⟩ ?_
    refine Post.then_ ?_
    refine Cd.ret ?_
    refine Post.end1 rfl rfl (.inl rfl) ?_
    exact ⟨⟨_, rfl⟩, rfl⟩
end Go.Proofs.YtenikchlnfhikaaGreatDoor

namespace Go.Proofs.YtenikchlnfhikaaGreatDoor
open Go.RowKit

def zeroS : List Nat := [122, 101, 114, 111]
/-- An ask, as an event on day 0. -/
def evOf (a : As) : Ev := ⟨a.k, a.i, a.x, a.y, a.t, if a.k = 1 ∨ a.k = 3 then 0 else a.d, a.p, a.wh, a.n⟩
set_option maxRecDepth 100000 in
theorem run_build_evA (k : Int) (i x y t : ByteArray) (d p wh n : Int) (w : World) : (Instr.build 97 #[(0, .int .i64 k), (1, .string i), (2, .string x), (3, .string y), (4, .string t), (5, .int .i64 d), (6, .int .i64 p), (7, .int .i64 wh), (8, .int .i64 n)]).run Tryz.prog w = .ok (.agg #[.int .i64 k, .string i, .string x, .string y, .string t, .int .i64 d, .int .i64 p, .int .i64 wh, .int .i64 n]) w := by
  have hu := Tryz.underlying97
  go_simp
set_option maxHeartbeats 1000000 in
theorem event_any (a : As) (w : World) : Calls Tryz.prog 36 #[a.v, .int .i64 0] w fun en w' => en = .returned (evOf a).v ∧ Grow w w' := by
  have bel := Below.refl w.heap.size w
  unfold evOf Ev.v
  refine Calls.start 36 Tryz.func36 rfl rfl rfl ?_
  refine Cd.seq ?_
  refine Cd.region ?_
  refine Seq.box rfl rfl rfl rfl rfl ?_
  intro g2 w1 n2
  have e2 := Nat.le_trans bel.size n2.ge
  replace bel := bel.step n2.below
  have k2 := n2.blk
  refine Seq.alloc rfl (run_zero zero_event_Event) rfl rfl rfl ?_
  intro g4 w2 n4
  have e4 := Nat.le_trans bel.size n4.ge
  have l4 := Nat.lt_of_lt_of_le k2.lt n4.ge
  replace bel := bel.step n4.below
  replace k2 := k2.step n4.below
  have k4 := n4.blk
  refine Seq.nil ?_
  refine Post.weak (F' := [(0, _), (1, _), (2, _), (4, _)]) ⟨rfl, rfl, rfl, rfl, trivial⟩ ?_
  refine Post.then_ ?_
  refine Cd.seq ?_
  refine Cd.region ?_
  refine Seq.val (Runs.fieldB 0 rfl rfl Tryz.underlying34 rfl (by kernel_rfl)) rfl rfl rfl ?_
  refine Seq.val (Runs.loadB rfl rfl Tryz.underlying3 rfl k2 rfl) rfl rfl rfl ?_
  refine Seq.val (Runs.fieldB 2 rfl rfl Tryz.underlying34 rfl (by kernel_rfl)) rfl rfl rfl ?_
  refine Seq.val (Runs.loadB rfl rfl Tryz.underlying9 rfl k2 rfl) rfl rfl rfl ?_
  refine Seq.val (Runs.fieldB 3 rfl rfl Tryz.underlying34 rfl (by kernel_rfl)) rfl rfl rfl ?_
  refine Seq.val (Runs.loadB rfl rfl Tryz.underlying9 rfl k2 rfl) rfl rfl rfl ?_
  refine Seq.val (Runs.fieldB 4 rfl rfl Tryz.underlying34 rfl (by kernel_rfl)) rfl rfl rfl ?_
  refine Seq.val (Runs.loadB rfl rfl Tryz.underlying9 rfl k2 rfl) rfl rfl rfl ?_
  refine Seq.val (Runs.fieldB 5 rfl rfl Tryz.underlying34 rfl (by kernel_rfl)) rfl rfl rfl ?_
  refine Seq.val (Runs.loadB rfl rfl Tryz.underlying9 rfl k2 rfl) rfl rfl rfl ?_
  refine Seq.val (Runs.fieldB 6 rfl rfl Tryz.underlying34 rfl (by kernel_rfl)) rfl rfl rfl ?_
  refine Seq.val (Runs.loadB rfl rfl Tryz.underlying3 rfl k2 rfl) rfl rfl rfl ?_
  refine Seq.val (Runs.fieldB 7 rfl rfl Tryz.underlying34 rfl (by kernel_rfl)) rfl rfl rfl ?_
  refine Seq.val (Runs.loadB rfl rfl Tryz.underlying3 rfl k2 rfl) rfl rfl rfl ?_
  refine Seq.val (Runs.fieldB 8 rfl rfl Tryz.underlying34 rfl (by kernel_rfl)) rfl rfl rfl ?_
  refine Seq.val (Runs.loadB rfl rfl Tryz.underlying3 rfl k2 rfl) rfl rfl rfl ?_
  refine Seq.val (Runs.fieldB 9 rfl rfl Tryz.underlying34 rfl (by kernel_rfl)) rfl rfl rfl ?_
  refine Seq.val (Runs.loadB rfl rfl Tryz.underlying2 rfl k2 rfl) rfl rfl rfl ?_
  refine Seq.val (Runs.build rfl rfl (run_build_evA _ _ _ _ _ _ _ _ _ _)) rfl rfl rfl ?_
  refine Seq.alloc rfl (run_zero zero_event_Event) rfl rfl rfl ?_
  intro g5 w3 n5
  have e5 := Nat.le_trans bel.size n5.ge
  have l5 := Nat.lt_of_lt_of_le k4.lt n5.ge
  have l5_k2 := Nat.lt_of_lt_of_le k2.lt n5.ge
  replace bel := bel.step n5.below
  replace k2 := k2.step n5.below
  replace k4 := k4.step n5.below
  have k5 := n5.blk
  refine Seq.storeN rfl rfl rfl rfl (m := 9) (by kernel_rfl) rfl (by repeat' first | exact trivial | apply And.intro | rfl | assumption) k5 (by simp [Value.cells]) rfl rfl ?_
  intro w4 pw4
  replace bel := bel.put k5 pw4 e5
  replace k2 := k2.put pw4 (by omega)
  replace k4 := k4.put pw4 (by omega)
  replace k5 := pw4.blk
  refine Seq.nil ?_
  refine Post.weak (F' := [(0, _), (1, _), (2, _), (4, _), (5, _)]) ⟨rfl, rfl, rfl, rfl, rfl, trivial⟩ ?_
  refine Post.then_ ?_
  refine Cd.seq ?_
  refine Cd.seq ?_
  refine Cd.region ?_
  refine Seq.val (Runs.fieldB 0 rfl rfl Tryz.underlying34 rfl (by kernel_rfl)) rfl rfl rfl ?_
  refine Seq.val (Runs.loadB rfl rfl Tryz.underlying3 rfl k2 rfl) rfl rfl rfl ?_
  refine Seq.val (Runs.eqlI rfl rfl rfl) rfl rfl rfl ?_
  refine Seq.val (Runs.move rfl rfl) rfl rfl rfl ?_
  refine SeqC.start ?_
  refine SeqC.open rfl rfl rfl rfl rfl rfl rfl (fun hcx => Runs.fieldB 0 rfl rfl Tryz.underlying34 rfl (by kernel_rfl)) ?_
  refine SeqC.next rfl rfl rfl rfl rfl rfl rfl (fun hcx => Runs.loadB rfl rfl Tryz.underlying3 rfl k2 rfl) ?_
  refine SeqC.next rfl rfl rfl rfl rfl rfl rfl (fun hcx => Runs.eqlI rfl rfl rfl) ?_
  refine SeqC.or rfl rfl rfl rfl rfl rfl rfl ?_
  refine Seq.nil ?_
  refine Post.weak (F' := [(0, _), (1, _), (2, _), (4, _), (5, _), (32, _)]) ⟨rfl, rfl, rfl, rfl, rfl, rfl, trivial⟩ ?_
  refine Post.then_ ?_
  refine Cd.cond rfl (fun h1 => ?_) (fun h1 => ?_)
  · skip
    refine Cd.region ?_
    refine Seq.val (Runs.move rfl rfl) rfl rfl rfl ?_
    refine Seq.val (Runs.fieldB 5 rfl rfl Tryz.underlying97 rfl (by kernel_rfl)) rfl rfl rfl ?_
    refine Seq.store1 rfl rfl rfl (by kernel_rfl) rfl rfl k5 rfl rfl rfl ?_
    intro w5 pw5
    replace bel := bel.put k5 pw5 e5
    replace k2 := k2.put pw5 (by omega)
    replace k4 := k4.put pw5 (by omega)
    replace k5 := pw5.blk
    refine Seq.nil ?_
    refine Post.weak (F' := [(0, _), (1, _), (2, _), (4, _), (5, _), (32, _)]) ⟨rfl, rfl, rfl, rfl, rfl, rfl, trivial⟩ ?_
    refine Post.then_ ?_
    refine Cd.seq ?_
    refine Cd.region ?_
    refine Seq.val (Runs.loadW rfl rfl Tryz.underlying97 rfl k5 (m := 9) (by kernel_rfl) rfl) rfl rfl rfl ?_
    refine Seq.storeN rfl rfl rfl rfl (m := 9) (by kernel_rfl) rfl (by repeat' first | exact trivial | apply And.intro | rfl | assumption) k4 (by simp [Value.cells]) rfl rfl ?_
    intro w6 pw6
    replace bel := bel.put k4 pw6 e4
    replace k2 := k2.put pw6 (by omega)
    replace k5 := k5.put pw6 (by omega)
    replace k4 := pw6.blk
    refine Seq.nil ?_
    refine Post.weak (F' := [(0, _), (1, _), (2, _), (4, _), (5, _), (32, _)]) ⟨rfl, rfl, rfl, rfl, rfl, rfl, trivial⟩ ?_
    refine Post.then_ ?_
    refine Cd.ret ?_
    refine Post.endC rfl rfl k4 Tryz.underlying97 rfl (m := 9) (by kernel_rfl) rfl (.inl rfl) ?_
    have h1 : a.k = 1 ∨ a.k = 3 := by simpa using h1
    rw [if_pos h1]
    exact ⟨rfl, bel⟩
  refine Cd.skip ?_
  refine Post.then_ ?_
  refine Cd.seq ?_
  refine Cd.region ?_
  refine Seq.val (Runs.loadW rfl rfl Tryz.underlying97 rfl k5 (m := 9) (by kernel_rfl) rfl) rfl rfl rfl ?_
  refine Seq.storeN rfl rfl rfl rfl (m := 9) (by kernel_rfl) rfl (by repeat' first | exact trivial | apply And.intro | rfl | assumption) k4 (by simp [Value.cells]) rfl rfl ?_
  intro w5 pw5
  replace bel := bel.put k4 pw5 e4
  replace k2 := k2.put pw5 (by omega)
  replace k5 := k5.put pw5 (by omega)
  replace k4 := pw5.blk
  refine Seq.nil ?_
  refine Post.weak (F' := [(0, _), (1, _), (2, _), (4, _), (5, _), (32, _)]) ⟨rfl, rfl, rfl, rfl, rfl, rfl, trivial⟩ ?_
  refine Post.then_ ?_
  refine Cd.ret ?_
  refine Post.endC rfl rfl k4 Tryz.underlying97 rfl (m := 9) (by kernel_rfl) rfl (.inl rfl) ?_
  have h1 : ¬ (a.k = 1 ∨ a.k = 3) := by simpa using h1
  rw [if_neg h1]
  exact ⟨rfl, bel⟩
end Go.Proofs.YtenikchlnfhikaaGreatDoor

namespace Go.Proofs.YtenikchlnfhikaaGreatDoor
open Go.RowKit

/-- What is known of an ask's texts. -/
structure As.rng (a : As) : Prop where
  r : ∀ x ∈ a.r, x < 256
  lr : a.r.length ≤ 9223372036854775807
  t : ∀ x ∈ a.t, x < 256
  ev : (evOf a).rng
  d : I64 a.d
def evR (a : As) : Ev := if a.k = 1 then { evOf a with text := zeroS } else evOf a
def rightAskB (a : As) : Bool := namedB a.r && (decide (a.k = 2) || decide (a.d = 0)) && (decide (a.k = 1) || decide (a.t = [])) && rightE (evR a)
theorem evR_rng {a : As} (h : (evOf a).rng) : (evR a).rng := by
  have hz : ∀ x ∈ zeroS, x < 256 := by decide
  unfold evR
  split
  · obtain ⟨a1, a2, a3, a4, a5, a6, a7, a8, a9, b1, b2, b3, b4⟩ := h
    exact ⟨a1, a2, a3, a4, hz, a6, a7, a8, a9, b1, b2, b3, by show (4 : Nat) ≤ 9223372036854775807; omega⟩
  · exact h
set_option maxHeartbeats 1000000 in
theorem engRight (a : As) (hr : a.rng) (w : World) (hpz : ∀ W, Below w.heap.size w W → Calls Tryz.prog 85 #[.string (strOf zeroS)] W fun en w' => Below W.heap.size W w' ∧ ∃ x1 x2 A1 n1 c1 A2 n2 c2, en = .returned (.tuple #[.agg #[.int .i64 x1, .string x2, .slice A1 n1 c1, .slice A2 n2 c2], .bool true])) :
    Calls Tryz.prog 8 #[a.v] w fun en w' => en = .returned (.bool (rightAskB a)) ∧ Grow w w' := by
  have bel := Below.refl w.heap.size w
  have hnm := fun W => named_any a.r W hr.r hr.lr
  obtain ⟨E, hE⟩ : ∃ E, E = evOf a := ⟨_, rfl⟩
  have hevc := fun W => event_any a W
  rw [← hE] at hevc
  unfold Ev.v at hevc
  have htx := hr.t
  refine Calls.start 36 Tryz.func8 rfl rfl rfl ?_
  refine Cd.seq ?_
  refine Cd.region ?_
  refine Seq.box rfl rfl rfl rfl rfl ?_
  intro g1 w1 n1
  have e1 := Nat.le_trans bel.size n1.ge
  replace bel := bel.step n1.below
  have k1 := n1.blk
  refine Seq.val (Runs.assign rfl rfl) rfl rfl rfl ?_
  refine Seq.nil ?_
  refine Post.weak (F' := [(0, _), (1, _), (2, _)]) ⟨rfl, rfl, rfl, trivial⟩ ?_
  refine Post.then_ ?_
  refine Cd.seq ?_
  refine Cd.seq ?_
  refine Cd.region ?_
  refine Seq.val (Runs.fieldB 1 rfl rfl Tryz.underlying34 rfl (by kernel_rfl)) rfl rfl rfl ?_
  refine Seq.val (Runs.loadB rfl rfl Tryz.underlying9 rfl k1 rfl) rfl rfl rfl ?_
  refine Seq.call (Enters.func rfl rfl rfl (run_enter Tryz.func35 (by kernel_rfl) rfl)) rfl rfl rfl (hnm _) ?_
  rintro en w4 ⟨rfl, hb4⟩
  refine ⟨_, rfl, ?_⟩
  replace bel := bel.step hb4
  replace k1 := k1.step hb4
  refine Seq.val (Runs.not rfl rfl) rfl rfl rfl ?_
  refine Seq.val (Runs.move rfl rfl) rfl rfl rfl ?_
  refine SeqC.start ?_
  refine SeqC.open rfl rfl rfl rfl rfl rfl rfl (fun hcx => Runs.fieldB 0 rfl rfl Tryz.underlying34 rfl (by kernel_rfl)) ?_
  refine SeqC.next rfl rfl rfl rfl rfl rfl rfl (fun hcx => Runs.loadB rfl rfl Tryz.underlying3 rfl k1 rfl) ?_
  refine SeqC.next rfl rfl rfl rfl rfl rfl rfl (fun hcx => Runs.neqI rfl rfl rfl) ?_
  refine SeqC.next rfl rfl rfl rfl rfl rfl rfl (fun hcx => Runs.move rfl rfl) ?_
  refine SeqC.open rfl rfl rfl rfl rfl rfl rfl (fun hcx => Runs.fieldB 6 rfl rfl Tryz.underlying34 rfl (by kernel_rfl)) ?_
  refine SeqC.next rfl rfl rfl rfl rfl rfl rfl (fun hcx => Runs.loadB rfl rfl Tryz.underlying3 rfl k1 rfl) ?_
  refine SeqC.next rfl rfl rfl rfl rfl rfl rfl (fun hcx => Runs.neqI rfl rfl rfl) ?_
  refine SeqC.andG rfl rfl rfl rfl rfl rfl rfl rfl rfl rfl rfl ?_
  refine SeqC.or rfl rfl rfl rfl rfl rfl rfl ?_
  refine Seq.val (Runs.move rfl rfl) rfl rfl rfl ?_
  refine SeqC.start ?_
  refine SeqC.open rfl rfl rfl rfl rfl rfl rfl (fun hcx => Runs.fieldB 0 rfl rfl Tryz.underlying34 rfl (by kernel_rfl)) ?_
  refine SeqC.next rfl rfl rfl rfl rfl rfl rfl (fun hcx => Runs.loadB rfl rfl Tryz.underlying3 rfl k1 rfl) ?_
  refine SeqC.next rfl rfl rfl rfl rfl rfl rfl (fun hcx => Runs.neqI rfl rfl rfl) ?_
  refine SeqC.next rfl rfl rfl rfl rfl rfl rfl (fun hcx => Runs.move rfl rfl) ?_
  refine SeqC.open rfl rfl rfl rfl rfl rfl rfl (fun hcx => Runs.fieldB 5 rfl rfl Tryz.underlying34 rfl (by kernel_rfl)) ?_
  refine SeqC.next rfl rfl rfl rfl rfl rfl rfl (fun hcx => Runs.loadB rfl rfl Tryz.underlying9 rfl k1 rfl) ?_
  refine SeqC.next rfl rfl rfl rfl rfl rfl rfl (fun hcx => Runs.neqL (a := a.t) (b := []) rfl rfl rfl htx (by simp)) ?_
  refine SeqC.andG rfl rfl rfl rfl rfl rfl rfl rfl rfl rfl rfl ?_
  refine SeqC.or rfl rfl rfl rfl rfl rfl rfl ?_
  refine Seq.nil ?_
  refine Post.weak (F' := [(0, _), (1, _), (2, _), (27, _)]) ⟨rfl, rfl, rfl, rfl, trivial⟩ ?_
  refine Post.then_ ?_
  refine Cd.cond rfl (fun h1 => ?_) (fun h1 => ?_)
  · skip
    refine Cd.seq ?_
    refine Cd.region ?_
    refine Seq.val (Runs.assign rfl rfl) rfl rfl rfl ?_
    refine Seq.nil ?_
    refine Post.weak (F' := [(0, _), (1, _), (2, _), (27, _)]) ⟨rfl, rfl, rfl, rfl, trivial⟩ ?_
    refine Post.then_ ?_
    refine Cd.ret ?_
    refine Post.then_ret ?_
    refine Post.end1 rfl rfl (.inl rfl) ?_
    refine ⟨ret1 (bool_eq ?_), bel⟩
    unfold rightAskB
    by_cases q1 : namedB a.r = true <;> by_cases q2 : a.k = 2 <;> by_cases q3 : a.d = 0 <;> by_cases q4 : a.k = 1 <;> by_cases q5 : a.t = [] <;> simp_all
  have h2 : namedB a.r = true ∧ (a.k = 2 ∨ a.d = 0) ∧ (a.k = 1 ∨ a.t = []) := by
    by_cases q1 : namedB a.r = true <;> by_cases q2 : a.k = 2 <;> by_cases q3 : a.d = 0 <;> by_cases q4 : a.k = 1 <;> by_cases q5 : a.t = [] <;> simp_all
  refine Cd.skip ?_
  refine Post.then_ ?_
  refine Cd.seq ?_
  refine Cd.region ?_
  refine Seq.val (Runs.loadW rfl rfl Tryz.underlying34 rfl k1 (m := 10) (by kernel_rfl) rfl) rfl rfl rfl ?_
  refine Seq.call (Enters.func rfl rfl rfl (run_enter Tryz.func36 (by kernel_rfl) rfl)) rfl rfl rfl (hevc _) ?_
  rintro en w5 ⟨rfl, hb5⟩
  refine ⟨_, rfl, ?_⟩
  replace bel := bel.step hb5
  replace k1 := k1.step hb5
  refine Seq.alloc rfl (run_zero zero_event_Event) rfl rfl rfl ?_
  intro g3 w2 n3
  have e3 := Nat.le_trans bel.size n3.ge
  have l3 := Nat.lt_of_lt_of_le k1.lt n3.ge
  replace bel := bel.step n3.below
  replace k1 := k1.step n3.below
  have k3 := n3.blk
  refine Seq.storeN rfl rfl rfl rfl (m := 9) (by kernel_rfl) rfl (by repeat' first | exact trivial | apply And.intro | rfl | assumption) k3 (by simp [Value.cells]) rfl rfl ?_
  intro w3 pw3
  replace bel := bel.put k3 pw3 e3
  replace k1 := k1.put pw3 (by omega)
  replace k3 := pw3.blk
  refine Seq.nil ?_
  refine Post.weak (F' := [(0, _), (1, _), (2, _), (3, _), (27, _)]) ⟨rfl, rfl, rfl, rfl, rfl, trivial⟩ ?_
  refine Post.then_ ?_
  refine Cd.seq ?_
  refine Cd.seq ?_
  refine Cd.region ?_
  refine Seq.val (Runs.fieldB 0 rfl rfl Tryz.underlying34 rfl (by kernel_rfl)) rfl rfl rfl ?_
  refine Seq.val (Runs.loadB rfl rfl Tryz.underlying3 rfl k1 rfl) rfl rfl rfl ?_
  refine Seq.val (Runs.eqlI rfl rfl rfl) rfl rfl rfl ?_
  refine Seq.nil ?_
  refine Post.weak (F' := [(0, _), (1, _), (2, _), (3, _), (27, _), (32, _)]) ⟨rfl, rfl, rfl, rfl, rfl, rfl, trivial⟩ ?_
  refine Post.then_ ?_
  replace k3 : Blk _ g3 97 #[.int .i64 E.kind, .string (strOf E.id), .string (strOf E.a), .string (strOf E.b), .string (strOf E.text), .int .i64 E.day, .int .i64 E.at_, .int .i64 E.which, .int .i64 E.n] := k3
  have hk : E.kind = a.k := by rw [hE]; rfl
  refine Cd.cond rfl (fun h3 => ?_) (fun h3 => ?_)
  · have h3 : a.k = 1 := by simpa using h3
    have hR := fun W (hW : Below w.heap.size w W) => right_eq (evR a) (evR_rng hr.ev) W (fun W2 hb _ => by
      have e : (evR a).text = zeroS := by unfold evR; rw [if_pos h3]
      rw [e]
      exact hpz W2 (hW.step hb))
    have e2 : evR a = { E with text := zeroS } := by unfold evR; rw [if_pos h3, hE]
    rw [e2] at hR
    unfold Ev.v at hR
    refine Cd.region ?_
    refine Seq.val (Runs.fieldB 4 rfl rfl Tryz.underlying97 rfl (by kernel_rfl)) rfl rfl rfl ?_
    refine Seq.store1 rfl rfl rfl (by kernel_rfl) rfl rfl k3 rfl rfl rfl ?_
    intro w4 pw4
    replace bel := bel.put k3 pw4 e3
    replace k1 := k1.put pw4 (by omega)
    replace k3 := pw4.blk
    refine Seq.nil ?_
    refine Post.weak (F' := [(0, _), (1, _), (2, _), (3, _), (27, _), (32, _)]) ⟨rfl, rfl, rfl, rfl, rfl, rfl, trivial⟩ ?_
    refine Post.then_ ?_
    refine Cd.seq ?_
    refine Cd.region ?_
    refine Seq.val (Runs.loadW rfl rfl Tryz.underlying97 rfl k3 (m := 9) (by kernel_rfl) rfl) rfl rfl rfl ?_
    replace k3 : Blk _ g3 97 #[.int .i64 E.kind, .string (strOf E.id), .string (strOf E.a), .string (strOf E.b), .string (strOf zeroS), .int .i64 E.day, .int .i64 E.at_, .int .i64 E.which, .int .i64 E.n] := k3
    refine Seq.call (Enters.func rfl rfl rfl (run_enter Tryz.func37 (by kernel_rfl) rfl)) rfl rfl rfl (hR _ bel) ?_
    rintro en w9 ⟨rfl, hb9⟩
    refine ⟨_, rfl, ?_⟩
    replace bel := bel.step hb9
    refine Seq.val (Runs.assign rfl rfl) rfl rfl rfl ?_
    refine Seq.nil ?_
    refine Post.weak (F' := [(0, _), (1, _), (2, _), (3, _), (27, _), (32, _)]) ⟨rfl, rfl, rfl, rfl, rfl, rfl, trivial⟩ ?_
    refine Post.then_ ?_
    refine Cd.ret ?_
    refine Post.end1 rfl rfl (.inl rfl) ?_
    refine ⟨ret1 (bool_eq ?_), bel⟩
    unfold rightAskB
    rw [e2]
    simp [h2.1, h3, h2.2.1]
    omega
  · have h3 : a.k ≠ 1 := by simpa using h3
    have hR := fun W (hW : Below w.heap.size w W) => right_eq (evR a) (evR_rng hr.ev) W (fun W2 hb q => by
      have e : (evR a).kind = a.k := by unfold evR; rw [if_neg h3]; rfl
      rw [e] at q
      exact absurd q h3)
    have e2 : evR a = E := by unfold evR; rw [if_neg h3, hE]
    rw [e2] at hR
    unfold Ev.v at hR
    refine Cd.skip ?_
    refine Post.then_ ?_
    refine Cd.seq ?_
    refine Cd.region ?_
    refine Seq.val (Runs.loadW rfl rfl Tryz.underlying97 rfl k3 (m := 9) (by kernel_rfl) rfl) rfl rfl rfl ?_
    refine Seq.call (Enters.func rfl rfl rfl (run_enter Tryz.func37 (by kernel_rfl) rfl)) rfl rfl rfl (hR _ bel) ?_
    rintro en w9 ⟨rfl, hb9⟩
    refine ⟨_, rfl, ?_⟩
    replace bel := bel.step hb9
    refine Seq.val (Runs.assign rfl rfl) rfl rfl rfl ?_
    refine Seq.nil ?_
    refine Post.weak (F' := [(0, _), (1, _), (2, _), (3, _), (27, _), (32, _)]) ⟨rfl, rfl, rfl, rfl, rfl, rfl, trivial⟩ ?_
    refine Post.then_ ?_
    refine Cd.ret ?_
    refine Post.end1 rfl rfl (.inl rfl) ?_
    refine ⟨ret1 (bool_eq ?_), bel⟩
    unfold rightAskB
    rw [e2]
    obtain ⟨h21, h22, h23⟩ := h2
    have h24 := h23.resolve_left h3
    rcases h22 with h22 | h22 <;> simp [h21, h22, h24]
end Go.Proofs.YtenikchlnfhikaaGreatDoor

namespace Go.Proofs.YtenikchlnfhikaaGreatDoor
open Go.RowKit

theorem zero_string : zeroIs Tryz.prog 9 = some (some (.string { data := #[] })) := by kernel_rfl
theorem refLetter_any (c : Nat) (w : World) : Calls Tryz.prog 87 #[.int .u8 (c : Int)] w fun e w' => e = .returned (.bool (letB c)) ∧ Grow w w' := by
  have bel := Below.refl w.heap.size w
  refine Calls.start 17 Tryz.func87 rfl rfl rfl ?_
  refine Cd.seq ?_
  refine Cd.region ?_
  refine Seq.val (Runs.assign rfl rfl) rfl rfl rfl ?_
  refine Seq.nil ?_
  refine Post.weak (F' := [(0, _), (2, _)]) ⟨rfl, rfl, trivial⟩ ?_
  refine Post.then_ ?_
  refine Cd.seq ?_
  refine Cd.region ?_
  refine Seq.val (Runs.move rfl rfl) rfl rfl rfl ?_
  refine Seq.val (Runs.geq rfl rfl rfl) rfl rfl rfl ?_
  refine Seq.val (Runs.move rfl rfl) rfl rfl rfl ?_
  refine SeqC.start ?_
  refine SeqC.open rfl rfl rfl rfl rfl rfl rfl (fun hcx => Runs.move rfl rfl) ?_
  refine SeqC.next rfl rfl rfl rfl rfl rfl rfl (fun hcx => Runs.leq rfl rfl rfl) ?_
  refine SeqC.and rfl rfl rfl rfl rfl rfl rfl ?_
  refine Seq.val (Runs.move rfl rfl) rfl rfl rfl ?_
  refine SeqC.start ?_
  refine SeqC.open rfl rfl rfl rfl rfl rfl rfl (fun hcx => Runs.move rfl rfl) ?_
  refine SeqC.next rfl rfl rfl rfl rfl rfl rfl (fun hcx => Runs.geq rfl rfl rfl) ?_
  refine SeqC.next rfl rfl rfl rfl rfl rfl rfl (fun hcx => Runs.move rfl rfl) ?_
  refine SeqC.open rfl rfl rfl rfl rfl rfl rfl (fun hcx => Runs.move rfl rfl) ?_
  refine SeqC.next rfl rfl rfl rfl rfl rfl rfl (fun hcx => Runs.leq rfl rfl rfl) ?_
  refine SeqC.andG rfl rfl rfl rfl rfl rfl rfl rfl rfl rfl rfl ?_
  refine SeqC.or rfl rfl rfl rfl rfl rfl rfl ?_
  refine Seq.val (Runs.assign rfl rfl) rfl rfl rfl ?_
  refine Seq.nil ?_
  refine Post.weak (F' := [(0, _), (2, _)]) ⟨rfl, rfl, trivial⟩ ?_
  refine Post.then_ ?_
  refine Cd.ret ?_
  refine Post.end1 rfl rfl (.inl rfl) ?_
  refine ⟨ret1 (bool_eq ?_), bel⟩
  unfold letB
  rw [Bool.eq_iff_iff]
  simp
  omega
theorem refPart_any (c : Nat) (w : World) : Calls Tryz.prog 88 #[.int .u8 (c : Int)] w fun e w' => e = .returned (.bool (partB c)) ∧ Grow w w' := by
  have bel := Below.refl w.heap.size w
  refine Calls.start 17 Tryz.func88 rfl rfl rfl ?_
  refine Cd.seq ?_
  refine Cd.region ?_
  refine Seq.val (Runs.assign rfl rfl) rfl rfl rfl ?_
  refine Seq.nil ?_
  refine Post.weak (F' := [(0, _), (2, _)]) ⟨rfl, rfl, trivial⟩ ?_
  refine Post.then_ ?_
  refine Cd.seq ?_
  refine Cd.region ?_
  refine Seq.val (Runs.move rfl rfl) rfl rfl rfl ?_
  refine Seq.call (Enters.func rfl rfl rfl (run_enter Tryz.func87 (by kernel_rfl) rfl)) rfl rfl rfl (refLetter_any c _) ?_
  rintro e w2 ⟨rfl, hb2⟩
  refine ⟨_, rfl, ?_⟩
  replace bel := bel.step hb2
  refine Seq.val (Runs.move rfl rfl) rfl rfl rfl ?_
  refine SeqC.start ?_
  refine SeqC.open rfl rfl rfl rfl rfl rfl rfl (fun hcx => Runs.move rfl rfl) ?_
  refine SeqC.next rfl rfl rfl rfl rfl rfl rfl (fun hcx => Runs.geq rfl rfl rfl) ?_
  refine SeqC.next rfl rfl rfl rfl rfl rfl rfl (fun hcx => Runs.move rfl rfl) ?_
  refine SeqC.open rfl rfl rfl rfl rfl rfl rfl (fun hcx => Runs.move rfl rfl) ?_
  refine SeqC.next rfl rfl rfl rfl rfl rfl rfl (fun hcx => Runs.leq rfl rfl rfl) ?_
  refine SeqC.andG rfl rfl rfl rfl rfl rfl rfl rfl rfl rfl rfl ?_
  refine SeqC.or rfl rfl rfl rfl rfl rfl rfl ?_
  refine Seq.val (Runs.move rfl rfl) rfl rfl rfl ?_
  refine SeqC.start ?_
  refine SeqC.open rfl rfl rfl rfl rfl rfl rfl (fun hcx => Runs.move rfl rfl) ?_
  refine SeqC.next rfl rfl rfl rfl rfl rfl rfl (fun hcx => Runs.eqlI rfl rfl rfl) ?_
  refine SeqC.or rfl rfl rfl rfl rfl rfl rfl ?_
  refine Seq.val (Runs.assign rfl rfl) rfl rfl rfl ?_
  refine Seq.nil ?_
  refine Post.weak (F' := [(0, _), (2, _)]) ⟨rfl, rfl, trivial⟩ ?_
  refine Post.then_ ?_
  refine Cd.ret ?_
  refine Post.end1 rfl rfl (.inl rfl) ?_
  refine ⟨ret1 (bool_eq ?_), bel⟩
  unfold partB digB
  cases letB c <;> rw [Bool.eq_iff_iff] <;> simp <;> omega
theorem refNamed_any (l : List Nat) (w : World) (hl : ∀ x ∈ l, x < 256) (hlen : l.length ≤ 9223372036854775807) :
    Calls Tryz.prog 38 #[.string (strOf l)] w fun e w' => e = .returned (.bool (namedB l)) ∧ Grow w w' := by
  have bel := Below.refl w.heap.size w
  have h0 : l ≠ [] → l[0]? = some (l.getD 0 0) := by
    intro h
    cases l with
    | nil => exact absurd rfl h
    | cons c l => rfl
  have h1 : l.getD 0 0 < 256 := by
    cases l with
    | nil => simp
    | cons c l => exact hl c (by simp)
  have hnil : l ≠ [] ↔ 0 < l.length := by cases l <;> simp
  unfold namedB
  generalize l.getD 0 0 = c0 at *
  refine Calls.start 29 Tryz.func38 rfl rfl rfl ?_
  refine Cd.seq ?_
  refine Cd.region ?_
  refine Seq.val (Runs.assign rfl rfl) rfl rfl rfl ?_
  refine Seq.nil ?_
  refine Post.weak (F' := [(0, _), (2, _)]) ⟨rfl, rfl, trivial⟩ ?_
  refine Post.then_ ?_
  refine Cd.seq ?_
  refine Cd.seq ?_
  refine Cd.region ?_
  refine Seq.val (Runs.move rfl rfl) rfl rfl rfl ?_
  refine Seq.val (Runs.lenL rfl rfl Tryz.underlying9) rfl rfl rfl ?_
  refine Seq.val (Runs.lss rfl rfl rfl) rfl rfl rfl ?_
  refine Seq.val (Runs.move rfl rfl) rfl rfl rfl ?_
  refine SeqC.start ?_
  refine SeqC.open rfl rfl rfl rfl rfl rfl rfl (fun hcx => Runs.move rfl rfl) ?_
  refine SeqC.next rfl rfl rfl rfl rfl rfl rfl (fun hcx => Runs.lenL rfl rfl Tryz.underlying9) ?_
  refine SeqC.next rfl rfl rfl rfl rfl rfl rfl (fun hcx => Runs.gtr rfl rfl rfl) ?_
  refine SeqC.or rfl rfl rfl rfl rfl rfl rfl ?_
  refine Seq.val (Runs.move rfl rfl) rfl rfl rfl ?_
  refine SeqC.start ?_
  refine SeqC.open rfl rfl rfl rfl rfl rfl rfl (fun hcx => Runs.move rfl rfl) ?_
  refine SeqC.next rfl rfl rfl rfl rfl rfl rfl (fun hcx => Runs.indexL (l := l) (j := 0) (c := c0) rfl rfl rfl Tryz.underlying9 rfl (h0 (hnil.2 (by simp [topX] at hcx; omega))) h1) ?_
  refine SeqC.nextC rfl rfl rfl rfl rfl rfl rfl (fun hcx => Enters.func rfl rfl rfl (run_enter Tryz.func87 (by kernel_rfl) rfl)) (fun hcx => refLetter_any _ _) ?_
  intro w1 hw1
  replace bel := bel.step hw1
  refine SeqC.next rfl rfl rfl rfl rfl rfl rfl (fun hcx => Runs.not rfl rfl) ?_
  refine SeqC.or rfl rfl rfl rfl rfl rfl rfl ?_
  refine Seq.nil ?_
  refine Post.weak (F' := [(0, _), (2, _), (17, _)]) ⟨rfl, rfl, rfl, trivial⟩ ?_
  refine Post.then_ ?_
  refine Cd.cond rfl (fun h => ?_) (fun h => ?_)
  · have hf : (decide (l ≠ []) && decide (l.length ≤ 16) && letB c0 && decide (runN partB l = l.length)) = false := by
      rw [Bool.eq_false_iff]
      intro h2
      simp only [Bool.and_eq_true, decide_eq_true_eq] at h2
      have h3 := hnil.1 h2.1.1.1
      rw [h2.1.2] at h
      simp at h
      omega
    rw [hf]
    refine Cd.seq ?_
    refine Cd.region ?_
    refine Seq.val (Runs.assign rfl rfl) rfl rfl rfl ?_
    refine Seq.nil ?_
    refine Post.weak (F' := [(0, _), (2, _), (17, _)]) ⟨rfl, rfl, rfl, trivial⟩ ?_
    refine Post.then_ ?_
    refine Cd.ret ?_
    refine Post.then_ret ?_
    refine Post.end1 rfl rfl (.inl rfl) ?_
    exact ⟨rfl, bel⟩
  have hok : l ≠ [] ∧ l.length ≤ 16 ∧ letB c0 = true := by
    cases hle : letB c0 with
    | false => rw [hle] at h; simp at h
    | true => rw [hle] at h; simp at h; exact ⟨hnil.2 (by omega), by omega, rfl⟩
  have hrl := runN_le partB l
  rw [decide_eq_true hok.1, decide_eq_true hok.2.1, hok.2.2]
  refine Cd.skip ?_
  refine Post.then_ ?_
  refine Cd.seq ?_
  refine Cd.seq ?_
  refine Cd.region ?_
  refine Seq.val (Runs.assign rfl rfl) rfl rfl rfl ?_
  refine Seq.nil ?_
  refine Post.weak (F' := [(0, _), (2, _), (3, _), (17, _)]) ⟨rfl, rfl, rfl, rfl, trivial⟩ ?_
  refine Post.then_ ?_
  refine Cd.block ?_
  refine Cd.loop (σ := Nat) (fun k => [(0, .string (strOf l)), (3, .int .i64 (k : Int))]) (fun k wr => k ≤ runN partB l ∧ Below w.heap.size w wr) (fun k => l.length - k) 0 ⟨Nat.zero_le _, bel⟩ ⟨rfl, rfl, trivial⟩ ?_
  clear bel
  rintro k wr ⟨hk, bel⟩
  refine Cd.seq ?_
  refine Cd.seq ?_
  refine Cd.region ?_
  refine Seq.val (Runs.move rfl rfl) rfl rfl rfl ?_
  refine Seq.val (Runs.move rfl rfl) rfl rfl rfl ?_
  refine Seq.val (Runs.lenL rfl rfl Tryz.underlying9) rfl rfl rfl ?_
  refine Seq.val (Runs.lss rfl rfl rfl) rfl rfl rfl ?_
  refine Seq.nil ?_
  refine Post.weak (F' := [(0, _), (3, _), (21, _)]) ⟨rfl, rfl, rfl, trivial⟩ ?_
  refine Post.then_ ?_
  refine Cd.condD rfl (fun hc => ?_) (fun hc => ?_)
  · obtain ⟨c, hcc⟩ : ∃ c, l[k]? = some c := ⟨_, List.getElem?_eq_getElem (show k < l.length by omega)⟩
    have hc256 := hl c (List.mem_of_getElem? hcc)
    have hup := runN_upto partB l k hk c hcc
    refine Cd.skip ?_
    refine Post.then_ ?_
    refine Cd.seq ?_
    refine Cd.block ?_
    refine Cd.seq ?_
    refine Cd.region ?_
    refine Seq.val (Runs.move rfl rfl) rfl rfl rfl ?_
    refine Seq.val (Runs.move rfl rfl) rfl rfl rfl ?_
    refine Seq.val (Runs.indexL (l := l) (j := k) rfl rfl rfl Tryz.underlying9 rfl hcc hc256) rfl rfl rfl ?_
    refine Seq.call (Enters.func rfl rfl rfl (run_enter Tryz.func88 (by kernel_rfl) rfl)) rfl rfl rfl (refPart_any c _) ?_
    rintro e w5 ⟨rfl, hb5⟩
    refine ⟨_, rfl, ?_⟩
    replace bel := bel.step hb5
    refine Seq.val (Runs.not rfl rfl) rfl rfl rfl ?_
    refine Seq.nil ?_
    refine Post.weak (F' := [(0, _), (3, _), (21, _), (28, _)]) ⟨rfl, rfl, rfl, rfl, trivial⟩ ?_
    refine Post.then_ ?_
    refine Cd.cond rfl (fun h2 => ?_) (fun h2 => ?_)
    · have hne : ¬ runN partB l = l.length := by
        intro he
        have := hup.2 (by omega)
        rw [this] at h2
        cases h2
      rw [decide_eq_false hne]
      refine Cd.seq ?_
      refine Cd.region ?_
      refine Seq.val (Runs.assign rfl rfl) rfl rfl rfl ?_
      refine Seq.nil ?_
      refine Post.weak (F' := [(0, _), (2, _), (3, _), (21, _), (28, _)]) ⟨rfl, rfl, rfl, rfl, rfl, trivial⟩ ?_
      refine Post.then_ ?_
      refine Cd.ret ?_
      refine Post.block_ret ?_
      refine Post.then_ret ?_
      refine Post.round_ret ?_
      refine Post.block_ret ?_
      refine Post.then_ret ?_
      refine Post.end1 rfl rfl (.inl rfl) ?_
      exact ⟨rfl, bel⟩
    · have hlt := hup.1 (by simpa using h2)
      refine Cd.skip ?_
      refine Post.block_normal ?_
      refine Post.then_ ?_
      refine Cd.region ?_
      refine Seq.val (Runs.move rfl rfl) rfl rfl rfl ?_
      refine Seq.val (Runs.addI rfl rfl rfl (by omega) (by omega)) rfl rfl rfl ?_
      refine Seq.val (Runs.assign rfl rfl) rfl rfl rfl ?_
      refine Seq.nil ?_
      refine Post.weak (F' := [(0, _), (3, _), (21, _), (28, _)]) ⟨rfl, rfl, rfl, rfl, trivial⟩ ?_
      exact Post.round (k + 1) ⟨rfl, rfl, trivial⟩ ⟨by omega, bel⟩ (by omega)
  · rw [decide_eq_true (show runN partB l = l.length by omega)]
    refine Cd.exit ?_
    refine Post.then_exit ?_
    refine Post.round_exit ?_
    refine Post.block_exit ?_
    refine Post.then_ ?_
    refine Cd.seq ?_
    refine Cd.region ?_
    refine Seq.val (Runs.assign rfl rfl) rfl rfl rfl ?_
    refine Seq.nil ?_
    refine Post.weak (F' := [(0, _), (2, _), (3, _), (21, _)]) ⟨rfl, rfl, rfl, rfl, trivial⟩ ?_
    refine Post.then_ ?_
    refine Cd.ret ?_
    refine Post.end1 rfl rfl (.inl rfl) ?_
    exact ⟨rfl, bel⟩
/-- Which fields a kind has. -/
def hasL : Nat → List Nat
  | 1 => [105, 97, 98, 116, 100]
  | 2 => [100]
  | 3 => [97, 100, 110]
  | 4 => [105, 97, 119]
  | 5 => [105, 97, 98]
  | 6 => [105, 97]
  | 7 => [105]
  | _ => []
def refE (e : Ev) (s : List Nat) : Bool :=
  !((decide (decide (105 ∈ s) ≠ decide (e.id ≠ [])) || decide (decide (97 ∈ s) ≠ decide (e.a ≠ [])) || decide (decide (98 ∈ s) ≠ decide (e.b ≠ [])) || decide (decide (116 ∈ s) ≠ decide (e.text ≠ [])))) &&
  (!((decide (105 ∈ s) && !namedB e.id) || (decide (97 ∈ s) && !namedB e.a) || (decide (98 ∈ s) && (!namedB e.b || decide (e.a = e.b)))) &&
  (!((decide (e.day < 0) || decide (2932896 < e.day)) || (!decide (100 ∈ s) && decide (e.day ≠ 0)) || (!decide (110 ∈ s) && decide (e.n ≠ 0))) &&
  (if decide (119 ∈ s) = true then decide (0 ≤ e.at_) && decide (e.at_ ≤ 199) && (decide (e.which = 0) || decide (e.which = 1)) else decide (e.at_ = 0) && decide (e.which = 0))))
theorem named_ne {l : List Nat} (h : namedB l = true) : l ≠ [] := fun h0 => by rw [h0] at h; exact absurd h (by decide)
theorem refE_eq (e : Ev) (ht : e.kind = 1 → e.text ≠ []) {k : Nat} (hk : e.kind = (k : Int)) (h1 : 1 ≤ k) (h7 : k ≤ 7) : refE e (hasL k) = rightE e := by
  have hid := fun h => named_ne (l := e.id) h
  have ha := fun h => named_ne (l := e.a) h
  have hb := fun h => named_ne (l := e.b) h
  obtain ⟨kd, id, a, b, text, day, at_, which, n⟩ := e
  dsimp only at *
  subst hk
  have hk : k = 1 ∨ k = 2 ∨ k = 3 ∨ k = 4 ∨ k = 5 ∨ k = 6 ∨ k = 7 := by omega
  rw [Bool.eq_iff_iff]
  rcases hk with rfl | rfl | rfl | rfl | rfl | rfl | rfl <;> simp [refE, rightE, blankE, zeroE, namedE, hasL] <;> grind
theorem refIn_ev (l : List Nat) (c : Nat) (w : World) (hl : ∀ x ∈ l, x < 256) (h1 : l.length ≤ 1000) (hc : c < 256) : Calls Tryz.prog 89 #[.string (strOf l), .int .u8 (c : Int)] w fun en w' => en = .returned (.bool (decide (c ∈ l))) ∧ Grow w w' := by
  have bel := Below.refl w.heap.size w
  refine Calls.start 17 Tryz.func89 rfl rfl rfl ?_
  refine Cd.seq ?_
  refine Cd.region ?_
  refine Seq.val (Runs.assign rfl rfl) rfl rfl rfl ?_
  refine Seq.nil ?_
  refine Post.weak (F' := [(0, _), (1, _), (4, _)]) ⟨rfl, rfl, rfl, trivial⟩ ?_
  refine Post.then_ ?_
  refine Cd.seq ?_
  refine Cd.seq ?_
  refine Cd.region ?_
  refine Seq.val (Runs.assign rfl rfl) rfl rfl rfl ?_
  refine Seq.nil ?_
  refine Post.weak (F' := [(0, _), (1, _), (4, _), (5, _)]) ⟨rfl, rfl, rfl, rfl, trivial⟩ ?_
  refine Post.then_ ?_
  refine Cd.block ?_
  refine Cd.loop (σ := Nat) (fun i => [(0, .string (strOf l)), (1, .int .u8 (c : Int)), (5, .int .i64 (i : Int))]) (fun i wr => i ≤ l.length ∧ Below w.heap.size w wr ∧ ∀ j, j < i → l[j]? ≠ some c) (fun i => l.length - i) 0 ⟨Nat.zero_le _, bel, fun j h => by omega⟩ ⟨rfl, rfl, rfl, trivial⟩ ?_
  clear bel
  rintro i wr ⟨hi, bel, hno⟩
  refine Cd.seq ?_
  refine Cd.seq ?_
  refine Cd.region ?_
  refine Seq.val (Runs.move rfl rfl) rfl rfl rfl ?_
  refine Seq.val (Runs.move rfl rfl) rfl rfl rfl ?_
  refine Seq.val (Runs.lenL rfl rfl Tryz.underlying9) rfl rfl rfl ?_
  refine Seq.val (Runs.lss rfl rfl rfl) rfl rfl rfl ?_
  refine Seq.nil ?_
  refine Post.weak (F' := [(0, _), (1, _), (5, _), (9, _)]) ⟨rfl, rfl, rfl, rfl, trivial⟩ ?_
  refine Post.then_ ?_
  refine Cd.condD rfl (fun hc => ?_) (fun hc => ?_)
  · obtain ⟨d, hd⟩ : ∃ d, l[i]? = some d := ⟨_, List.getElem?_eq_getElem (by omega)⟩
    have hd2 := hl d (List.mem_of_getElem? hd)
    refine Cd.skip ?_
    refine Post.then_ ?_
    refine Cd.seq ?_
    refine Cd.block ?_
    refine Cd.seq ?_
    refine Cd.region ?_
    refine Seq.val (Runs.move rfl rfl) rfl rfl rfl ?_
    refine Seq.val (Runs.move rfl rfl) rfl rfl rfl ?_
    refine Seq.val (Runs.indexL (l := l) (j := i) rfl rfl rfl Tryz.underlying9 rfl hd hd2) rfl rfl rfl ?_
    refine Seq.val (Runs.move rfl rfl) rfl rfl rfl ?_
    refine Seq.val (Runs.eqlI rfl rfl rfl) rfl rfl rfl ?_
    refine Seq.nil ?_
    refine Post.weak (F' := [(0, _), (1, _), (5, _), (9, _), (16, _)]) ⟨rfl, rfl, rfl, rfl, rfl, trivial⟩ ?_
    refine Post.then_ ?_
    refine Cd.condD rfl (fun hc => ?_) (fun hc => ?_)
    · skip
      refine Cd.seq ?_
      refine Cd.region ?_
      refine Seq.val (Runs.assign rfl rfl) rfl rfl rfl ?_
      refine Seq.nil ?_
      refine Post.weak (F' := [(0, _), (1, _), (4, _), (5, _), (9, _), (16, _)]) ⟨rfl, rfl, rfl, rfl, rfl, rfl, trivial⟩ ?_
      refine Post.then_ ?_
      refine Cd.ret ?_
      refine Post.block_ret ?_
      refine Post.then_ret ?_
      refine Post.round_ret ?_
      refine Post.block_ret ?_
      refine Post.then_ret ?_
      refine Post.end1 rfl rfl (.inl rfl) ?_
      obtain rfl : d = c := by omega
      exact ⟨ret1 (bool_eq (decide_eq_true (List.mem_of_getElem? hd)).symm), bel⟩
    · skip
      refine Cd.skip ?_
      refine Post.block_normal ?_
      refine Post.then_ ?_
      refine Cd.region ?_
      refine Seq.val (Runs.move rfl rfl) rfl rfl rfl ?_
      refine Seq.val (Runs.addI rfl rfl rfl (by omega) (by omega)) rfl rfl rfl ?_
      refine Seq.val (Runs.assign rfl rfl) rfl rfl rfl ?_
      refine Seq.nil ?_
      refine Post.weak (F' := [(0, _), (1, _), (5, _), (9, _), (16, _)]) ⟨rfl, rfl, rfl, rfl, rfl, trivial⟩ ?_
      refine Post.round (i + 1) ⟨rfl, rfl, rfl, trivial⟩ ⟨by omega, bel, fun j hj => ?_⟩ (by omega)
      rcases Nat.lt_or_ge j i with h | h
      · exact hno j h
      · obtain rfl : j = i := by omega
        rw [hd]
        intro h
        injection h with h
        omega
  · obtain rfl : i = l.length := by omega
    refine Cd.exit ?_
    refine Post.then_exit ?_
    refine Post.round_exit ?_
    refine Post.block_exit ?_
    refine Post.then_ ?_
    refine Cd.seq ?_
    refine Cd.region ?_
    refine Seq.val (Runs.assign rfl rfl) rfl rfl rfl ?_
    refine Seq.nil ?_
    refine Post.weak (F' := [(0, _), (1, _), (4, _), (5, _), (9, _)]) ⟨rfl, rfl, rfl, rfl, rfl, trivial⟩ ?_
    refine Post.then_ ?_
    refine Cd.ret ?_
    refine Post.end1 rfl rfl (.inl rfl) ?_
    refine ⟨ret1 (bool_eq (decide_eq_false fun h => ?_).symm), bel⟩
    obtain ⟨j, hj, hjc⟩ := List.getElem_of_mem h
    exact hno j hj (by rw [List.getElem?_eq_getElem hj, hjc])
theorem hasL_one {k : Nat} (h : 116 ∈ hasL k) : k = 1 := by
  unfold hasL at h
  split at h <;> simp_all
theorem hasL_byt (k : Nat) : (∀ x ∈ hasL k, x < 256) ∧ (hasL k).length ≤ 1000 := by
  unfold hasL
  split <;> exact ⟨by decide, by decide⟩
theorem hasL_cell {k : Nat} (h1 : 1 ≤ k) (h7 : k ≤ 7) : (#[.string { data := #[] }, .string { data := #[105, 97, 98, 116, 100] }, .string { data := #[100] }, .string { data := #[97, 100, 110] }, .string { data := #[105, 97, 119] }, .string { data := #[105, 97, 98] }, .string { data := #[105, 97] }, .string { data := #[105] }] : Array Value)[k]? = some (.string (strOf (hasL k))) := by
  have hk : k = 1 ∨ k = 2 ∨ k = 3 ∨ k = 4 ∨ k = 5 ∨ k = 6 ∨ k = 7 := by omega
  rcases hk with rfl | rfl | rfl | rfl | rfl | rfl | rfl <;> rfl
set_option maxHeartbeats 2000000 in
theorem refRight_eq (e : Ev) (he : e.rng) (w : World) (htz : e.kind = 1 → e.text = zeroS) (hpz : ∀ W, Below w.heap.size w W → Calls Tryz.prog 90 #[.string (strOf zeroS)] W fun en w' => Below W.heap.size W w' ∧ ∃ x1 x2 A1 n1 c1 A2 n2 c2, en = .returned (.tuple #[.agg #[.int .i64 x1, .string x2, .slice A1 n1 c1, .slice A2 n2 c2], .bool true])) : Calls Tryz.prog 39 #[e.v] w fun en w' => en = .returned (.bool (rightE e)) ∧ Grow w w' := by
  have bel := Below.refl w.heap.size w
  have hn0 : ∀ x ∈ ([] : List Nat), x < 256 := fun x h => by cases h
  have nm1 := fun W => refNamed_any e.id W he.id he.lid
  have nm2 := fun W => refNamed_any e.a W he.a he.la
  have nm3 := fun W => refNamed_any e.b W he.b he.lb
  have a1 := he.id
  have a2 := he.a
  have a3 := he.b
  have a4 := he.text
  have hkI := he.kind
  have hdom : 1 ≤ e.kind → e.kind ≤ 7 → ∃ k : Nat, e.kind = (k : Int) ∧ 1 ≤ k ∧ k ≤ 7 := fun h1 h2 => ⟨e.kind.toNat, by omega, by omega, by omega⟩
  have hout : ¬ (1 ≤ e.kind ∧ e.kind ≤ 7) → rightE e = false := fun h => by
    unfold rightE
    by_cases h1 : 1 ≤ e.kind
    · rw [decide_eq_false (show ¬ e.kind ≤ 7 from fun h2 => h ⟨h1, h2⟩)]; simp
    · rw [decide_eq_false h1]; simp
  have hres := @refE_eq e (fun h => by rw [htz h]; decide)
  obtain ⟨R, hR⟩ : ∃ R, rightE e = R := ⟨_, rfl⟩
  rw [hR] at hout hres ⊢
  unfold Ev.v
  refine Calls.start 153 Tryz.func39 rfl rfl rfl ?_
  refine Cd.seq ?_
  refine Cd.region ?_
  refine Seq.box rfl rfl rfl rfl rfl ?_
  intro g1 w1 n1
  have e1 := Nat.le_trans bel.size n1.ge
  replace bel := bel.step n1.below
  have k1 := n1.blk
  refine Seq.val (Runs.assign rfl rfl) rfl rfl rfl ?_
  refine Seq.nil ?_
  refine Post.weak (F' := [(0, _), (1, _), (2, _)]) ⟨rfl, rfl, rfl, trivial⟩ ?_
  refine Post.then_ ?_
  refine Cd.seq ?_
  refine Cd.region ?_
  refine Seq.slice (vs := [_, _, _, _, _, _, _, _]) (s := 1) rfl rfl rfl Tryz.underlying51 (by kernel_rfl) (zero_string) (by omega) (by omega) ⟨rfl, rfl, rfl, rfl, rfl, rfl, rfl, rfl, trivial⟩ rfl rfl rfl ?_
  intro g7 w2 n7
  have e7 := Nat.le_trans bel.size n7.ge
  have l7 := Nat.lt_of_lt_of_le k1.lt n7.ge
  replace bel := bel.step n7.below
  replace k1 := k1.step n7.below
  have k7 := n7.blk
  refine Seq.val (Runs.assign rfl rfl) rfl rfl rfl ?_
  refine Seq.nil ?_
  refine Post.weak (F' := [(0, _), (1, _), (2, _), (3, _)]) ⟨rfl, rfl, rfl, rfl, trivial⟩ ?_
  refine Post.then_ ?_
  refine Cd.seq ?_
  refine Cd.seq ?_
  refine Cd.region ?_
  refine Seq.val (Runs.fieldB 0 rfl rfl Tryz.underlying100 rfl (by kernel_rfl)) rfl rfl rfl ?_
  refine Seq.val (Runs.loadB rfl rfl Tryz.underlying3 rfl k1 rfl) rfl rfl rfl ?_
  refine Seq.val (Runs.lss rfl rfl rfl) rfl rfl rfl ?_
  refine Seq.val (Runs.move rfl rfl) rfl rfl rfl ?_
  refine SeqC.start ?_
  refine SeqC.open rfl rfl rfl rfl rfl rfl rfl (fun hcx => Runs.fieldB 0 rfl rfl Tryz.underlying100 rfl (by kernel_rfl)) ?_
  refine SeqC.next rfl rfl rfl rfl rfl rfl rfl (fun hcx => Runs.loadB rfl rfl Tryz.underlying3 rfl k1 rfl) ?_
  refine SeqC.next rfl rfl rfl rfl rfl rfl rfl (fun hcx => Runs.gtr rfl rfl rfl) ?_
  refine SeqC.or rfl rfl rfl rfl rfl rfl rfl ?_
  refine Seq.nil ?_
  refine Post.weak (F' := [(0, _), (1, _), (2, _), (3, _), (15, _)]) ⟨rfl, rfl, rfl, rfl, rfl, trivial⟩ ?_
  refine Post.then_ ?_
  refine Cd.cond rfl (fun h => ?_) (fun h => ?_)
  · skip
    refine Cd.seq ?_
    refine Cd.region ?_
    refine Seq.val (Runs.assign rfl rfl) rfl rfl rfl ?_
    refine Seq.nil ?_
    refine Post.weak (F' := [(0, _), (1, _), (2, _), (3, _), (15, _)]) ⟨rfl, rfl, rfl, rfl, rfl, trivial⟩ ?_
    refine Post.then_ ?_
    refine Cd.ret ?_
    refine Post.then_ret ?_
    refine Post.end1 rfl rfl (.inl rfl) ?_
    exact ⟨ret1 (bool_eq (hout (by simp at h; omega)).symm), bel⟩
  obtain ⟨k, hk, hk1, hk7⟩ := hdom (by simp at h; omega) (by simp at h; omega)
  have hres := hres hk hk1 hk7
  have hcell := hasL_cell hk1 hk7
  obtain ⟨hsb, hsl⟩ := hasL_byt k
  have h1t : 116 ∈ hasL k → e.text = zeroS := fun h => htz (by rw [hk, hasL_one h]; rfl)
  obtain ⟨s, hs⟩ : ∃ s, hasL k = s := ⟨_, rfl⟩
  rw [hs] at hres hcell hsb hsl h1t
  have hin := fun (c : Nat) (hc : c < 256) W => refIn_ev s c W hsb hsl hc
  have h105 := hin 105 (by decide)
  have h97 := hin 97 (by decide)
  have h98 := hin 98 (by decide)
  have h116 := hin 116 (by decide)
  have h100 := hin 100 (by decide)
  have h110 := hin 110 (by decide)
  have h119 := hin 119 (by decide)
  clear hin hout hdom
  refine Cd.skip ?_
  refine Post.then_ ?_
  refine Cd.seq ?_
  refine Cd.region ?_
  refine Seq.val (Runs.move rfl rfl) rfl rfl rfl ?_
  refine Seq.val (Runs.fieldB 0 rfl rfl Tryz.underlying100 rfl (by kernel_rfl)) rfl rfl rfl ?_
  refine Seq.val (Runs.loadB rfl rfl Tryz.underlying3 rfl k1 rfl) rfl rfl rfl ?_
  refine Seq.val (Runs.indexB rfl rfl rfl Tryz.underlying51 (by kernel_rfl) (j := k) hk (by omega)) rfl rfl rfl ?_
  refine Seq.val (Runs.loadB rfl rfl Tryz.underlying9 rfl k7 hcell) rfl rfl rfl ?_
  refine Seq.val (Runs.assign rfl rfl) rfl rfl rfl ?_
  refine Seq.nil ?_
  refine Post.weak (F' := [(0, _), (1, _), (2, _), (3, _), (4, _), (15, _)]) ⟨rfl, rfl, rfl, rfl, rfl, rfl, trivial⟩ ?_
  refine Post.then_ ?_
  refine Cd.seq ?_
  refine Cd.seq ?_
  by_cases x1 : decide (105 ∈ s) ≠ decide (e.id ≠ [])
  · skip
    refine Cd.draw 30 (by kernel_rfl) [] (.inl rfl) rfl Grow Grow.refl (fun _ _ _ => Grow.trans) ?_
    intro w3 hw3 zw3
    replace bel := bel.step hw3
    replace k1 := k1.step hw3
    have zbel := bel.size
    have zlt := k1.lt
    refine Dr.val Grow.refl rfl (fun w hG => Runs.move rfl rfl) rfl ?_
    refine Dr.callV rfl (fun w => Enters.func rfl rfl rfl (run_enter Tryz.func89 (by kernel_rfl) rfl)) rfl (fun w hG => h105 w) ?_
    refine Dr.val Grow.refl rfl (fun w hG => Runs.fieldB 1 rfl rfl Tryz.underlying100 rfl (by kernel_rfl)) rfl ?_
    refine Dr.val Grow.refl rfl (fun w hG => Runs.loadB rfl rfl Tryz.underlying9 rfl (k1.step hG) rfl) rfl ?_
    refine Dr.val Grow.refl rfl (fun w hG => Runs.neqL (a := e.id) (b := []) rfl rfl rfl a1 hn0) rfl ?_
    refine Dr.val Grow.refl rfl (fun w hG => (Runs.neqB rfl rfl rfl Tryz.underlying4).isT (x1)) rfl ?_
    refine Dr.val Grow.refl rfl (fun w hG => Runs.move rfl rfl) rfl ?_
    refine Dr.skip rfl rfl rfl rfl rfl ?_
    refine Dr.skip rfl rfl rfl rfl rfl ?_
    refine Dr.skip rfl rfl rfl rfl rfl ?_
    refine Dr.skip rfl rfl rfl rfl rfl ?_
    refine Dr.skip rfl rfl rfl rfl rfl ?_
    refine Dr.skip rfl rfl rfl rfl rfl ?_
    refine Dr.val Grow.refl rfl (fun w hG => Runs.pickT rfl rfl rfl) rfl ?_
    refine Dr.val Grow.refl rfl (fun w hG => Runs.move rfl rfl) rfl ?_
    refine Dr.skip rfl rfl rfl rfl rfl ?_
    refine Dr.skip rfl rfl rfl rfl rfl ?_
    refine Dr.skip rfl rfl rfl rfl rfl ?_
    refine Dr.skip rfl rfl rfl rfl rfl ?_
    refine Dr.skip rfl rfl rfl rfl rfl ?_
    refine Dr.skip rfl rfl rfl rfl rfl ?_
    refine Dr.val Grow.refl rfl (fun w hG => Runs.pickT rfl rfl rfl) rfl ?_
    refine Dr.val Grow.refl rfl (fun w hG => Runs.move rfl rfl) rfl ?_
    refine Dr.skip rfl rfl rfl rfl rfl ?_
    refine Dr.skip rfl rfl rfl rfl rfl ?_
    refine Dr.skip rfl rfl rfl rfl rfl ?_
    refine Dr.skip rfl rfl rfl rfl rfl ?_
    refine Dr.skip rfl rfl rfl rfl rfl ?_
    refine Dr.skip rfl rfl rfl rfl rfl ?_
    refine Dr.val Grow.refl rfl (fun w hG => Runs.pickT rfl rfl rfl) rfl ?_
    refine Dr.nil ?_
    refine FinX.done (F' := [(0, _), (1, _), (2, _), (3, _), (4, _), (15, _), (50, _)]) rfl ⟨rfl, rfl, rfl, rfl, rfl, rfl, rfl, trivial⟩ ?_
    intro w4 hw4 fw4
    replace bel := bel.step hw4
    replace k1 := k1.step hw4
    refine Seq.nil ?_
    refine Post.weak (F' := [(0, _), (1, _), (2, _), (3, _), (4, _), (15, _), (50, _)]) ⟨rfl, rfl, rfl, rfl, rfl, rfl, rfl, trivial⟩ ?_
    refine Post.then_ ?_
    refine Cd.condT rfl rfl ?_
    refine Cd.seq ?_
    refine Cd.region ?_
    refine Seq.val (Runs.assign rfl rfl) rfl rfl rfl ?_
    refine Seq.nil ?_
    refine Post.weak (F' := [(0, _), (1, _), (2, _), (3, _), (4, _), (15, _), (50, _)]) ⟨rfl, rfl, rfl, rfl, rfl, rfl, rfl, trivial⟩ ?_
    refine Post.then_ ?_
    refine Cd.ret ?_
    refine Post.then_ret ?_
    refine Post.end1 rfl rfl (.inl rfl) ?_
    exact ⟨ret1 (bool_eq (by rw [← hres]; unfold refE; rw [decide_eq_true x1]; simp)), bel⟩
  by_cases x2 : decide (97 ∈ s) ≠ decide (e.a ≠ [])
  · skip
    refine Cd.draw 30 (by kernel_rfl) [] (.inl rfl) rfl Grow Grow.refl (fun _ _ _ => Grow.trans) ?_
    intro w3 hw3 zw3
    replace bel := bel.step hw3
    replace k1 := k1.step hw3
    have zbel := bel.size
    have zlt := k1.lt
    refine Dr.val Grow.refl rfl (fun w hG => Runs.move rfl rfl) rfl ?_
    refine Dr.callV rfl (fun w => Enters.func rfl rfl rfl (run_enter Tryz.func89 (by kernel_rfl) rfl)) rfl (fun w hG => h105 w) ?_
    refine Dr.val Grow.refl rfl (fun w hG => Runs.fieldB 1 rfl rfl Tryz.underlying100 rfl (by kernel_rfl)) rfl ?_
    refine Dr.val Grow.refl rfl (fun w hG => Runs.loadB rfl rfl Tryz.underlying9 rfl (k1.step hG) rfl) rfl ?_
    refine Dr.val Grow.refl rfl (fun w hG => Runs.neqL (a := e.id) (b := []) rfl rfl rfl a1 hn0) rfl ?_
    refine Dr.val Grow.refl rfl (fun w hG => (Runs.neqB rfl rfl rfl Tryz.underlying4).isF (x1)) rfl ?_
    refine Dr.val Grow.refl rfl (fun w hG => Runs.move rfl rfl) rfl ?_
    refine Dr.valG Grow.refl rfl (fun w hG => Runs.move rfl rfl) rfl rfl rfl ?_
    refine Dr.callVG rfl (fun w => Enters.func rfl rfl rfl (run_enter Tryz.func89 (by kernel_rfl) rfl)) rfl rfl rfl (fun w hG => h97 w) ?_
    refine Dr.valG Grow.refl rfl (fun w hG => Runs.fieldB 2 rfl rfl Tryz.underlying100 rfl (by kernel_rfl)) rfl rfl rfl ?_
    refine Dr.valG Grow.refl rfl (fun w hG => Runs.loadB rfl rfl Tryz.underlying9 rfl (k1.step hG) rfl) rfl rfl rfl ?_
    refine Dr.valG Grow.refl rfl (fun w hG => Runs.neqL (a := e.a) (b := []) rfl rfl rfl a2 hn0) rfl rfl rfl ?_
    refine Dr.valG Grow.refl rfl (fun w hG => (Runs.neqB rfl rfl rfl Tryz.underlying4).isT (x2)) rfl rfl rfl ?_
    refine Dr.val Grow.refl rfl (fun w hG => Runs.pickF rfl rfl rfl) rfl ?_
    refine Dr.val Grow.refl rfl (fun w hG => Runs.move rfl rfl) rfl ?_
    refine Dr.skip rfl rfl rfl rfl rfl ?_
    refine Dr.skip rfl rfl rfl rfl rfl ?_
    refine Dr.skip rfl rfl rfl rfl rfl ?_
    refine Dr.skip rfl rfl rfl rfl rfl ?_
    refine Dr.skip rfl rfl rfl rfl rfl ?_
    refine Dr.skip rfl rfl rfl rfl rfl ?_
    refine Dr.val Grow.refl rfl (fun w hG => Runs.pickT rfl rfl rfl) rfl ?_
    refine Dr.val Grow.refl rfl (fun w hG => Runs.move rfl rfl) rfl ?_
    refine Dr.skip rfl rfl rfl rfl rfl ?_
    refine Dr.skip rfl rfl rfl rfl rfl ?_
    refine Dr.skip rfl rfl rfl rfl rfl ?_
    refine Dr.skip rfl rfl rfl rfl rfl ?_
    refine Dr.skip rfl rfl rfl rfl rfl ?_
    refine Dr.skip rfl rfl rfl rfl rfl ?_
    refine Dr.val Grow.refl rfl (fun w hG => Runs.pickT rfl rfl rfl) rfl ?_
    refine Dr.nil ?_
    refine FinX.done (F' := [(0, _), (1, _), (2, _), (3, _), (4, _), (15, _), (50, _)]) rfl ⟨rfl, rfl, rfl, rfl, rfl, rfl, rfl, trivial⟩ ?_
    intro w4 hw4 fw4
    replace bel := bel.step hw4
    replace k1 := k1.step hw4
    refine Seq.nil ?_
    refine Post.weak (F' := [(0, _), (1, _), (2, _), (3, _), (4, _), (15, _), (50, _)]) ⟨rfl, rfl, rfl, rfl, rfl, rfl, rfl, trivial⟩ ?_
    refine Post.then_ ?_
    refine Cd.condT rfl rfl ?_
    refine Cd.seq ?_
    refine Cd.region ?_
    refine Seq.val (Runs.assign rfl rfl) rfl rfl rfl ?_
    refine Seq.nil ?_
    refine Post.weak (F' := [(0, _), (1, _), (2, _), (3, _), (4, _), (15, _), (50, _)]) ⟨rfl, rfl, rfl, rfl, rfl, rfl, rfl, trivial⟩ ?_
    refine Post.then_ ?_
    refine Cd.ret ?_
    refine Post.then_ret ?_
    refine Post.end1 rfl rfl (.inl rfl) ?_
    exact ⟨ret1 (bool_eq (by rw [← hres]; unfold refE; rw [decide_eq_true x2]; simp)), bel⟩
  by_cases x3 : decide (98 ∈ s) ≠ decide (e.b ≠ [])
  · skip
    refine Cd.draw 30 (by kernel_rfl) [] (.inl rfl) rfl Grow Grow.refl (fun _ _ _ => Grow.trans) ?_
    intro w3 hw3 zw3
    replace bel := bel.step hw3
    replace k1 := k1.step hw3
    have zbel := bel.size
    have zlt := k1.lt
    refine Dr.val Grow.refl rfl (fun w hG => Runs.move rfl rfl) rfl ?_
    refine Dr.callV rfl (fun w => Enters.func rfl rfl rfl (run_enter Tryz.func89 (by kernel_rfl) rfl)) rfl (fun w hG => h105 w) ?_
    refine Dr.val Grow.refl rfl (fun w hG => Runs.fieldB 1 rfl rfl Tryz.underlying100 rfl (by kernel_rfl)) rfl ?_
    refine Dr.val Grow.refl rfl (fun w hG => Runs.loadB rfl rfl Tryz.underlying9 rfl (k1.step hG) rfl) rfl ?_
    refine Dr.val Grow.refl rfl (fun w hG => Runs.neqL (a := e.id) (b := []) rfl rfl rfl a1 hn0) rfl ?_
    refine Dr.val Grow.refl rfl (fun w hG => (Runs.neqB rfl rfl rfl Tryz.underlying4).isF (x1)) rfl ?_
    refine Dr.val Grow.refl rfl (fun w hG => Runs.move rfl rfl) rfl ?_
    refine Dr.valG Grow.refl rfl (fun w hG => Runs.move rfl rfl) rfl rfl rfl ?_
    refine Dr.callVG rfl (fun w => Enters.func rfl rfl rfl (run_enter Tryz.func89 (by kernel_rfl) rfl)) rfl rfl rfl (fun w hG => h97 w) ?_
    refine Dr.valG Grow.refl rfl (fun w hG => Runs.fieldB 2 rfl rfl Tryz.underlying100 rfl (by kernel_rfl)) rfl rfl rfl ?_
    refine Dr.valG Grow.refl rfl (fun w hG => Runs.loadB rfl rfl Tryz.underlying9 rfl (k1.step hG) rfl) rfl rfl rfl ?_
    refine Dr.valG Grow.refl rfl (fun w hG => Runs.neqL (a := e.a) (b := []) rfl rfl rfl a2 hn0) rfl rfl rfl ?_
    refine Dr.valG Grow.refl rfl (fun w hG => (Runs.neqB rfl rfl rfl Tryz.underlying4).isF (x2)) rfl rfl rfl ?_
    refine Dr.val Grow.refl rfl (fun w hG => Runs.pickF rfl rfl rfl) rfl ?_
    refine Dr.val Grow.refl rfl (fun w hG => Runs.move rfl rfl) rfl ?_
    refine Dr.valG Grow.refl rfl (fun w hG => Runs.move rfl rfl) rfl rfl rfl ?_
    refine Dr.callVG rfl (fun w => Enters.func rfl rfl rfl (run_enter Tryz.func89 (by kernel_rfl) rfl)) rfl rfl rfl (fun w hG => h98 w) ?_
    refine Dr.valG Grow.refl rfl (fun w hG => Runs.fieldB 3 rfl rfl Tryz.underlying100 rfl (by kernel_rfl)) rfl rfl rfl ?_
    refine Dr.valG Grow.refl rfl (fun w hG => Runs.loadB rfl rfl Tryz.underlying9 rfl (k1.step hG) rfl) rfl rfl rfl ?_
    refine Dr.valG Grow.refl rfl (fun w hG => Runs.neqL (a := e.b) (b := []) rfl rfl rfl a3 hn0) rfl rfl rfl ?_
    refine Dr.valG Grow.refl rfl (fun w hG => (Runs.neqB rfl rfl rfl Tryz.underlying4).isT (x3)) rfl rfl rfl ?_
    refine Dr.val Grow.refl rfl (fun w hG => Runs.pickF rfl rfl rfl) rfl ?_
    refine Dr.val Grow.refl rfl (fun w hG => Runs.move rfl rfl) rfl ?_
    refine Dr.skip rfl rfl rfl rfl rfl ?_
    refine Dr.skip rfl rfl rfl rfl rfl ?_
    refine Dr.skip rfl rfl rfl rfl rfl ?_
    refine Dr.skip rfl rfl rfl rfl rfl ?_
    refine Dr.skip rfl rfl rfl rfl rfl ?_
    refine Dr.skip rfl rfl rfl rfl rfl ?_
    refine Dr.val Grow.refl rfl (fun w hG => Runs.pickT rfl rfl rfl) rfl ?_
    refine Dr.nil ?_
    refine FinX.done (F' := [(0, _), (1, _), (2, _), (3, _), (4, _), (15, _), (50, _)]) rfl ⟨rfl, rfl, rfl, rfl, rfl, rfl, rfl, trivial⟩ ?_
    intro w4 hw4 fw4
    replace bel := bel.step hw4
    replace k1 := k1.step hw4
    refine Seq.nil ?_
    refine Post.weak (F' := [(0, _), (1, _), (2, _), (3, _), (4, _), (15, _), (50, _)]) ⟨rfl, rfl, rfl, rfl, rfl, rfl, rfl, trivial⟩ ?_
    refine Post.then_ ?_
    refine Cd.condT rfl rfl ?_
    refine Cd.seq ?_
    refine Cd.region ?_
    refine Seq.val (Runs.assign rfl rfl) rfl rfl rfl ?_
    refine Seq.nil ?_
    refine Post.weak (F' := [(0, _), (1, _), (2, _), (3, _), (4, _), (15, _), (50, _)]) ⟨rfl, rfl, rfl, rfl, rfl, rfl, rfl, trivial⟩ ?_
    refine Post.then_ ?_
    refine Cd.ret ?_
    refine Post.then_ret ?_
    refine Post.end1 rfl rfl (.inl rfl) ?_
    exact ⟨ret1 (bool_eq (by rw [← hres]; unfold refE; rw [decide_eq_true x3]; simp)), bel⟩
  by_cases x4 : decide (116 ∈ s) ≠ decide (e.text ≠ [])
  · skip
    refine Cd.draw 30 (by kernel_rfl) [] (.inl rfl) rfl Grow Grow.refl (fun _ _ _ => Grow.trans) ?_
    intro w3 hw3 zw3
    replace bel := bel.step hw3
    replace k1 := k1.step hw3
    have zbel := bel.size
    have zlt := k1.lt
    refine Dr.val Grow.refl rfl (fun w hG => Runs.move rfl rfl) rfl ?_
    refine Dr.callV rfl (fun w => Enters.func rfl rfl rfl (run_enter Tryz.func89 (by kernel_rfl) rfl)) rfl (fun w hG => h105 w) ?_
    refine Dr.val Grow.refl rfl (fun w hG => Runs.fieldB 1 rfl rfl Tryz.underlying100 rfl (by kernel_rfl)) rfl ?_
    refine Dr.val Grow.refl rfl (fun w hG => Runs.loadB rfl rfl Tryz.underlying9 rfl (k1.step hG) rfl) rfl ?_
    refine Dr.val Grow.refl rfl (fun w hG => Runs.neqL (a := e.id) (b := []) rfl rfl rfl a1 hn0) rfl ?_
    refine Dr.val Grow.refl rfl (fun w hG => (Runs.neqB rfl rfl rfl Tryz.underlying4).isF (x1)) rfl ?_
    refine Dr.val Grow.refl rfl (fun w hG => Runs.move rfl rfl) rfl ?_
    refine Dr.valG Grow.refl rfl (fun w hG => Runs.move rfl rfl) rfl rfl rfl ?_
    refine Dr.callVG rfl (fun w => Enters.func rfl rfl rfl (run_enter Tryz.func89 (by kernel_rfl) rfl)) rfl rfl rfl (fun w hG => h97 w) ?_
    refine Dr.valG Grow.refl rfl (fun w hG => Runs.fieldB 2 rfl rfl Tryz.underlying100 rfl (by kernel_rfl)) rfl rfl rfl ?_
    refine Dr.valG Grow.refl rfl (fun w hG => Runs.loadB rfl rfl Tryz.underlying9 rfl (k1.step hG) rfl) rfl rfl rfl ?_
    refine Dr.valG Grow.refl rfl (fun w hG => Runs.neqL (a := e.a) (b := []) rfl rfl rfl a2 hn0) rfl rfl rfl ?_
    refine Dr.valG Grow.refl rfl (fun w hG => (Runs.neqB rfl rfl rfl Tryz.underlying4).isF (x2)) rfl rfl rfl ?_
    refine Dr.val Grow.refl rfl (fun w hG => Runs.pickF rfl rfl rfl) rfl ?_
    refine Dr.val Grow.refl rfl (fun w hG => Runs.move rfl rfl) rfl ?_
    refine Dr.valG Grow.refl rfl (fun w hG => Runs.move rfl rfl) rfl rfl rfl ?_
    refine Dr.callVG rfl (fun w => Enters.func rfl rfl rfl (run_enter Tryz.func89 (by kernel_rfl) rfl)) rfl rfl rfl (fun w hG => h98 w) ?_
    refine Dr.valG Grow.refl rfl (fun w hG => Runs.fieldB 3 rfl rfl Tryz.underlying100 rfl (by kernel_rfl)) rfl rfl rfl ?_
    refine Dr.valG Grow.refl rfl (fun w hG => Runs.loadB rfl rfl Tryz.underlying9 rfl (k1.step hG) rfl) rfl rfl rfl ?_
    refine Dr.valG Grow.refl rfl (fun w hG => Runs.neqL (a := e.b) (b := []) rfl rfl rfl a3 hn0) rfl rfl rfl ?_
    refine Dr.valG Grow.refl rfl (fun w hG => (Runs.neqB rfl rfl rfl Tryz.underlying4).isF (x3)) rfl rfl rfl ?_
    refine Dr.val Grow.refl rfl (fun w hG => Runs.pickF rfl rfl rfl) rfl ?_
    refine Dr.val Grow.refl rfl (fun w hG => Runs.move rfl rfl) rfl ?_
    refine Dr.valG Grow.refl rfl (fun w hG => Runs.move rfl rfl) rfl rfl rfl ?_
    refine Dr.callVG rfl (fun w => Enters.func rfl rfl rfl (run_enter Tryz.func89 (by kernel_rfl) rfl)) rfl rfl rfl (fun w hG => h116 w) ?_
    refine Dr.valG Grow.refl rfl (fun w hG => Runs.fieldB 4 rfl rfl Tryz.underlying100 rfl (by kernel_rfl)) rfl rfl rfl ?_
    refine Dr.valG Grow.refl rfl (fun w hG => Runs.loadB rfl rfl Tryz.underlying9 rfl (k1.step hG) rfl) rfl rfl rfl ?_
    refine Dr.valG Grow.refl rfl (fun w hG => Runs.neqL (a := e.text) (b := []) rfl rfl rfl a4 hn0) rfl rfl rfl ?_
    refine Dr.valG Grow.refl rfl (fun w hG => (Runs.neqB rfl rfl rfl Tryz.underlying4).isT (x4)) rfl rfl rfl ?_
    refine Dr.val Grow.refl rfl (fun w hG => Runs.pickF rfl rfl rfl) rfl ?_
    refine Dr.nil ?_
    refine FinX.done (F' := [(0, _), (1, _), (2, _), (3, _), (4, _), (15, _), (50, _)]) rfl ⟨rfl, rfl, rfl, rfl, rfl, rfl, rfl, trivial⟩ ?_
    intro w4 hw4 fw4
    replace bel := bel.step hw4
    replace k1 := k1.step hw4
    refine Seq.nil ?_
    refine Post.weak (F' := [(0, _), (1, _), (2, _), (3, _), (4, _), (15, _), (50, _)]) ⟨rfl, rfl, rfl, rfl, rfl, rfl, rfl, trivial⟩ ?_
    refine Post.then_ ?_
    refine Cd.condT rfl rfl ?_
    refine Cd.seq ?_
    refine Cd.region ?_
    refine Seq.val (Runs.assign rfl rfl) rfl rfl rfl ?_
    refine Seq.nil ?_
    refine Post.weak (F' := [(0, _), (1, _), (2, _), (3, _), (4, _), (15, _), (50, _)]) ⟨rfl, rfl, rfl, rfl, rfl, rfl, rfl, trivial⟩ ?_
    refine Post.then_ ?_
    refine Cd.ret ?_
    refine Post.then_ret ?_
    refine Post.end1 rfl rfl (.inl rfl) ?_
    exact ⟨ret1 (bool_eq (by rw [← hres]; unfold refE; rw [decide_eq_true x4]; simp)), bel⟩
  refine Cd.draw 30 (by kernel_rfl) [] (.inl rfl) rfl Grow Grow.refl (fun _ _ _ => Grow.trans) ?_
  intro w3 hw3 zw3
  replace bel := bel.step hw3
  replace k1 := k1.step hw3
  have zbel := bel.size
  have zlt := k1.lt
  refine Dr.val Grow.refl rfl (fun w hG => Runs.move rfl rfl) rfl ?_
  refine Dr.callV rfl (fun w => Enters.func rfl rfl rfl (run_enter Tryz.func89 (by kernel_rfl) rfl)) rfl (fun w hG => h105 w) ?_
  refine Dr.val Grow.refl rfl (fun w hG => Runs.fieldB 1 rfl rfl Tryz.underlying100 rfl (by kernel_rfl)) rfl ?_
  refine Dr.val Grow.refl rfl (fun w hG => Runs.loadB rfl rfl Tryz.underlying9 rfl (k1.step hG) rfl) rfl ?_
  refine Dr.val Grow.refl rfl (fun w hG => Runs.neqL (a := e.id) (b := []) rfl rfl rfl a1 hn0) rfl ?_
  refine Dr.val Grow.refl rfl (fun w hG => (Runs.neqB rfl rfl rfl Tryz.underlying4).isF (x1)) rfl ?_
  refine Dr.val Grow.refl rfl (fun w hG => Runs.move rfl rfl) rfl ?_
  refine Dr.valG Grow.refl rfl (fun w hG => Runs.move rfl rfl) rfl rfl rfl ?_
  refine Dr.callVG rfl (fun w => Enters.func rfl rfl rfl (run_enter Tryz.func89 (by kernel_rfl) rfl)) rfl rfl rfl (fun w hG => h97 w) ?_
  refine Dr.valG Grow.refl rfl (fun w hG => Runs.fieldB 2 rfl rfl Tryz.underlying100 rfl (by kernel_rfl)) rfl rfl rfl ?_
  refine Dr.valG Grow.refl rfl (fun w hG => Runs.loadB rfl rfl Tryz.underlying9 rfl (k1.step hG) rfl) rfl rfl rfl ?_
  refine Dr.valG Grow.refl rfl (fun w hG => Runs.neqL (a := e.a) (b := []) rfl rfl rfl a2 hn0) rfl rfl rfl ?_
  refine Dr.valG Grow.refl rfl (fun w hG => (Runs.neqB rfl rfl rfl Tryz.underlying4).isF (x2)) rfl rfl rfl ?_
  refine Dr.val Grow.refl rfl (fun w hG => Runs.pickF rfl rfl rfl) rfl ?_
  refine Dr.val Grow.refl rfl (fun w hG => Runs.move rfl rfl) rfl ?_
  refine Dr.valG Grow.refl rfl (fun w hG => Runs.move rfl rfl) rfl rfl rfl ?_
  refine Dr.callVG rfl (fun w => Enters.func rfl rfl rfl (run_enter Tryz.func89 (by kernel_rfl) rfl)) rfl rfl rfl (fun w hG => h98 w) ?_
  refine Dr.valG Grow.refl rfl (fun w hG => Runs.fieldB 3 rfl rfl Tryz.underlying100 rfl (by kernel_rfl)) rfl rfl rfl ?_
  refine Dr.valG Grow.refl rfl (fun w hG => Runs.loadB rfl rfl Tryz.underlying9 rfl (k1.step hG) rfl) rfl rfl rfl ?_
  refine Dr.valG Grow.refl rfl (fun w hG => Runs.neqL (a := e.b) (b := []) rfl rfl rfl a3 hn0) rfl rfl rfl ?_
  refine Dr.valG Grow.refl rfl (fun w hG => (Runs.neqB rfl rfl rfl Tryz.underlying4).isF (x3)) rfl rfl rfl ?_
  refine Dr.val Grow.refl rfl (fun w hG => Runs.pickF rfl rfl rfl) rfl ?_
  refine Dr.val Grow.refl rfl (fun w hG => Runs.move rfl rfl) rfl ?_
  refine Dr.valG Grow.refl rfl (fun w hG => Runs.move rfl rfl) rfl rfl rfl ?_
  refine Dr.callVG rfl (fun w => Enters.func rfl rfl rfl (run_enter Tryz.func89 (by kernel_rfl) rfl)) rfl rfl rfl (fun w hG => h116 w) ?_
  refine Dr.valG Grow.refl rfl (fun w hG => Runs.fieldB 4 rfl rfl Tryz.underlying100 rfl (by kernel_rfl)) rfl rfl rfl ?_
  refine Dr.valG Grow.refl rfl (fun w hG => Runs.loadB rfl rfl Tryz.underlying9 rfl (k1.step hG) rfl) rfl rfl rfl ?_
  refine Dr.valG Grow.refl rfl (fun w hG => Runs.neqL (a := e.text) (b := []) rfl rfl rfl a4 hn0) rfl rfl rfl ?_
  refine Dr.valG Grow.refl rfl (fun w hG => (Runs.neqB rfl rfl rfl Tryz.underlying4).isF (x4)) rfl rfl rfl ?_
  refine Dr.val Grow.refl rfl (fun w hG => Runs.pickF rfl rfl rfl) rfl ?_
  refine Dr.nil ?_
  refine FinX.done (F' := [(0, _), (1, _), (2, _), (3, _), (4, _), (15, _), (50, _)]) rfl ⟨rfl, rfl, rfl, rfl, rfl, rfl, rfl, trivial⟩ ?_
  intro w4 hw4 fw4
  replace bel := bel.step hw4
  replace k1 := k1.step hw4
  refine Seq.nil ?_
  refine Post.weak (F' := [(0, _), (1, _), (2, _), (3, _), (4, _), (15, _), (50, _)]) ⟨rfl, rfl, rfl, rfl, rfl, rfl, rfl, trivial⟩ ?_
  refine Post.then_ ?_
  refine Cd.condF rfl rfl ?_
  rw [show refE e s = _ from by unfold refE; rw [decide_eq_false x1, decide_eq_false x2, decide_eq_false x3, decide_eq_false x4]] at hres
  clear x1 x2 x3 x4
  refine Cd.skip ?_
  refine Post.then_ ?_
  refine Cd.seq ?_
  refine Cd.seq ?_
  refine Cd.region ?_
  refine Seq.val (Runs.move rfl rfl) rfl rfl rfl ?_
  refine Seq.call (Enters.func rfl rfl rfl (run_enter Tryz.func89 (by kernel_rfl) rfl)) rfl rfl rfl (h105 _) ?_
  rintro en w9 ⟨rfl, hb9⟩
  refine ⟨_, rfl, ?_⟩
  replace bel := bel.step hb9
  replace k1 := k1.step hb9
  refine Seq.val (Runs.move rfl rfl) rfl rfl rfl ?_
  refine SeqC.start ?_
  refine SeqC.open rfl rfl rfl rfl rfl rfl rfl (fun hcx => Runs.fieldB 1 rfl rfl Tryz.underlying100 rfl (by kernel_rfl)) ?_
  refine SeqC.next rfl rfl rfl rfl rfl rfl rfl (fun hcx => Runs.loadB rfl rfl Tryz.underlying9 rfl k1 rfl) ?_
  refine SeqC.nextC rfl rfl rfl rfl rfl rfl rfl (fun hcx => Enters.func rfl rfl rfl (run_enter Tryz.func38 (by kernel_rfl) rfl)) (fun hcx => nm1 _) ?_
  intro w5 hw5
  replace bel := bel.step hw5
  replace k1 := k1.step hw5
  refine SeqC.next rfl rfl rfl rfl rfl rfl rfl (fun hcx => Runs.not rfl rfl) ?_
  refine SeqC.and rfl rfl rfl rfl rfl rfl rfl ?_
  refine Seq.val (Runs.move rfl rfl) rfl rfl rfl ?_
  refine SeqC.start ?_
  refine SeqC.open rfl rfl rfl rfl rfl rfl rfl (fun hcx => Runs.move rfl rfl) ?_
  refine SeqC.nextC rfl rfl rfl rfl rfl rfl rfl (fun hcx => Enters.func rfl rfl rfl (run_enter Tryz.func89 (by kernel_rfl) rfl)) (fun hcx => h97 _) ?_
  intro w6 hw6
  replace bel := bel.step hw6
  replace k1 := k1.step hw6
  refine SeqC.next rfl rfl rfl rfl rfl rfl rfl (fun hcx => Runs.move rfl rfl) ?_
  refine SeqC.open rfl rfl rfl rfl rfl rfl rfl (fun hcx => Runs.fieldB 2 rfl rfl Tryz.underlying100 rfl (by kernel_rfl)) ?_
  refine SeqC.next rfl rfl rfl rfl rfl rfl rfl (fun hcx => Runs.loadB rfl rfl Tryz.underlying9 rfl k1 rfl) ?_
  refine SeqC.nextC rfl rfl rfl rfl rfl rfl rfl (fun hcx => Enters.func rfl rfl rfl (run_enter Tryz.func38 (by kernel_rfl) rfl)) (fun hcx => nm2 _) ?_
  intro w7 hw7
  replace bel := bel.step hw7
  replace k1 := k1.step hw7
  refine SeqC.next rfl rfl rfl rfl rfl rfl rfl (fun hcx => Runs.not rfl rfl) ?_
  refine SeqC.andG rfl rfl rfl rfl rfl rfl rfl rfl rfl rfl rfl ?_
  refine SeqC.or rfl rfl rfl rfl rfl rfl rfl ?_
  refine Seq.val (Runs.move rfl rfl) rfl rfl rfl ?_
  refine SeqC.start ?_
  refine SeqC.open rfl rfl rfl rfl rfl rfl rfl (fun hcx => Runs.move rfl rfl) ?_
  refine SeqC.nextC rfl rfl rfl rfl rfl rfl rfl (fun hcx => Enters.func rfl rfl rfl (run_enter Tryz.func89 (by kernel_rfl) rfl)) (fun hcx => h98 _) ?_
  intro w8 hw8
  replace bel := bel.step hw8
  replace k1 := k1.step hw8
  refine SeqC.next rfl rfl rfl rfl rfl rfl rfl (fun hcx => Runs.move rfl rfl) ?_
  refine SeqC.open rfl rfl rfl rfl rfl rfl rfl (fun hcx => Runs.fieldB 3 rfl rfl Tryz.underlying100 rfl (by kernel_rfl)) ?_
  refine SeqC.next rfl rfl rfl rfl rfl rfl rfl (fun hcx => Runs.loadB rfl rfl Tryz.underlying9 rfl k1 rfl) ?_
  refine SeqC.nextC rfl rfl rfl rfl rfl rfl rfl (fun hcx => Enters.func rfl rfl rfl (run_enter Tryz.func38 (by kernel_rfl) rfl)) (fun hcx => nm3 _) ?_
  intro w9 hw9
  replace bel := bel.step hw9
  replace k1 := k1.step hw9
  refine SeqC.next rfl rfl rfl rfl rfl rfl rfl (fun hcx => Runs.not rfl rfl) ?_
  refine SeqC.next rfl rfl rfl rfl rfl rfl rfl (fun hcx => Runs.move rfl rfl) ?_
  refine SeqC.open rfl rfl rfl rfl rfl rfl rfl (fun hcx => Runs.fieldB 2 rfl rfl Tryz.underlying100 rfl (by kernel_rfl)) ?_
  refine SeqC.next rfl rfl rfl rfl rfl rfl rfl (fun hcx => Runs.loadB rfl rfl Tryz.underlying9 rfl k1 rfl) ?_
  refine SeqC.next rfl rfl rfl rfl rfl rfl rfl (fun hcx => Runs.fieldB 3 rfl rfl Tryz.underlying100 rfl (by kernel_rfl)) ?_
  refine SeqC.next rfl rfl rfl rfl rfl rfl rfl (fun hcx => Runs.loadB rfl rfl Tryz.underlying9 rfl k1 rfl) ?_
  refine SeqC.next rfl rfl rfl rfl rfl rfl rfl (fun hcx => Runs.eqlL (a := e.a) (b := e.b) rfl rfl rfl a2 a3) ?_
  refine SeqC.orG rfl rfl rfl rfl rfl rfl rfl rfl rfl rfl rfl ?_
  refine SeqC.andG rfl rfl rfl rfl rfl rfl rfl rfl rfl rfl rfl ?_
  refine SeqC.or rfl rfl rfl rfl rfl rfl rfl ?_
  refine Seq.nil ?_
  refine Post.weak (F' := [(0, _), (1, _), (2, _), (3, _), (4, _), (15, _), (50, _), (85, _)]) ⟨rfl, rfl, rfl, rfl, rfl, rfl, rfl, rfl, trivial⟩ ?_
  refine Post.then_ ?_
  obtain ⟨B1, hB1⟩ : ∃ B1, ((decide (105 ∈ s) && !namedB e.id) || (decide (97 ∈ s) && !namedB e.a) || (decide (98 ∈ s) && (!namedB e.b || decide (e.a = e.b)))) = B1 := ⟨_, rfl⟩
  rw [hB1] at hres
  refine Cd.cond rfl (fun c1 => ?_) (fun c1 => ?_)
  · skip
    refine Cd.seq ?_
    refine Cd.region ?_
    refine Seq.val (Runs.assign rfl rfl) rfl rfl rfl ?_
    refine Seq.nil ?_
    refine Post.weak (F' := [(0, _), (1, _), (2, _), (3, _), (4, _), (15, _), (50, _), (85, _)]) ⟨rfl, rfl, rfl, rfl, rfl, rfl, rfl, rfl, trivial⟩ ?_
    refine Post.then_ ?_
    refine Cd.ret ?_
    refine Post.then_ret ?_
    refine Post.end1 rfl rfl (.inl rfl) ?_
    have c1 : B1 = true := by rw [← hB1]; simpa using c1
    exact ⟨ret1 (bool_eq (by rw [← hres, c1]; simp)), bel⟩
  have c1 : B1 = false := by rw [← hB1]; simpa using c1
  rw [c1] at hres
  refine Cd.skip ?_
  refine Post.then_ ?_
  refine Cd.seqJ (σ := Unit) (fun _ => [(1, .pointer (some ⟨g1, 0, none⟩)), (4, .string (strOf s))]) (fun _ wr => Below w.heap.size w wr ∧ Blk wr g1 100 #[.int .i64 e.kind, .string (strOf e.id), .string (strOf e.a), .string (strOf e.b), .string (strOf e.text), .int .i64 e.day, .int .i64 e.at_, .int .i64 e.which, .int .i64 e.n]) ?_ ?_
  · skip
    refine Cd.seq ?_
    refine Cd.region ?_
    refine Seq.val (Runs.move rfl rfl) rfl rfl rfl ?_
    refine Seq.call (Enters.func rfl rfl rfl (run_enter Tryz.func89 (by kernel_rfl) rfl)) rfl rfl rfl (h116 _) ?_
    rintro en w10 ⟨rfl, hb10⟩
    refine ⟨_, rfl, ?_⟩
    replace bel := bel.step hb10
    replace k1 := k1.step hb10
    refine Seq.nil ?_
    refine Post.weak (F' := [(0, _), (1, _), (2, _), (3, _), (4, _), (15, _), (50, _), (85, _), (87, _)]) ⟨rfl, rfl, rfl, rfl, rfl, rfl, rfl, rfl, rfl, trivial⟩ ?_
    refine Post.then_ ?_
    refine Cd.cond rfl (fun c2 => ?_) (fun c2 => ?_)
    · skip
      refine Cd.seq ?_
      refine Cd.region ?_
      refine Seq.val (Runs.fieldB 4 rfl rfl Tryz.underlying100 rfl (by kernel_rfl)) rfl rfl rfl ?_
      refine Seq.val (Runs.loadB rfl rfl Tryz.underlying9 rfl k1 rfl) rfl rfl rfl ?_
      have c3 := h1t (by simpa using c2)
      rw [c3]
      refine Seq.call (Enters.func rfl rfl rfl (run_enter Tryz.func90 (by kernel_rfl) rfl)) rfl rfl rfl (hpz _ bel) ?_
      rintro en w11 ⟨hb11, x1, x2, A1, d1, e1, A2, d2, e2, rfl⟩
      refine ⟨_, rfl, ?_⟩
      replace bel := bel.step hb11
      replace k1 := k1.step hb11
      refine Seq.val (Runs.move rfl rfl) rfl rfl rfl ?_
      refine Seq.val (Runs.extract rfl rfl rfl) rfl rfl rfl ?_
      refine Seq.val (Runs.extract rfl rfl rfl) rfl rfl rfl ?_
      refine Seq.alloc rfl (run_zero zero_api_Term) rfl rfl rfl ?_
      intro g5 w10 n5
      have e5 := Nat.le_trans bel.size n5.ge
      have l5 := Nat.lt_of_lt_of_le k1.lt n5.ge
      replace bel := bel.step n5.below
      replace k1 := k1.step n5.below
      have k5 := n5.blk
      refine Seq.storeN rfl rfl rfl rfl (m := 4) (by kernel_rfl) rfl (by repeat' first | exact trivial | apply And.intro | rfl | assumption) k5 (by simp [Value.cells]) rfl rfl ?_
      intro w11 pw11
      replace bel := bel.put k5 pw11 e5
      replace k1 := k1.put pw11 (by omega)
      replace k5 := pw11.blk
      refine Seq.val (Runs.assign rfl rfl) rfl rfl rfl ?_
      refine Seq.nil ?_
      refine Post.weak (F' := [(0, _), (1, _), (2, _), (3, _), (4, _), (6, _), (15, _), (50, _), (85, _), (87, _)]) ⟨rfl, rfl, rfl, rfl, rfl, rfl, rfl, rfl, rfl, rfl, trivial⟩ ?_
      refine Post.then_ ?_
      refine Cd.seq ?_
      refine Cd.region ?_
      refine Seq.val (Runs.move rfl rfl) rfl rfl rfl ?_
      refine Seq.val (Runs.not rfl rfl) rfl rfl rfl ?_
      refine Seq.nil ?_
      refine Post.weak (F' := [(0, _), (1, _), (2, _), (3, _), (4, _), (6, _), (15, _), (50, _), (85, _), (87, _), (95, _)]) ⟨rfl, rfl, rfl, rfl, rfl, rfl, rfl, rfl, rfl, rfl, rfl, trivial⟩ ?_
      refine Post.then_ ?_
      refine Cd.condF rfl rfl ?_
      refine Cd.skip ?_
      exact Post.join () ⟨rfl, rfl, trivial⟩ ⟨bel, by rw [← c3]; exact k1⟩
    · skip
      refine Cd.skip ?_
      exact Post.join () ⟨rfl, rfl, trivial⟩ ⟨bel, k1⟩
  clear bel k1
  rintro u wj ⟨bel, k1⟩
  refine Cd.seq ?_
  refine Cd.seq ?_
  refine Cd.region ?_
  refine Seq.val (Runs.fieldB 5 rfl rfl Tryz.underlying100 rfl (by kernel_rfl)) rfl rfl rfl ?_
  refine Seq.val (Runs.loadB rfl rfl Tryz.underlying3 rfl k1 rfl) rfl rfl rfl ?_
  refine Seq.val (Runs.lss rfl rfl rfl) rfl rfl rfl ?_
  refine Seq.val (Runs.move rfl rfl) rfl rfl rfl ?_
  refine SeqC.start ?_
  refine SeqC.open rfl rfl rfl rfl rfl rfl rfl (fun hcx => Runs.fieldB 5 rfl rfl Tryz.underlying100 rfl (by kernel_rfl)) ?_
  refine SeqC.next rfl rfl rfl rfl rfl rfl rfl (fun hcx => Runs.loadB rfl rfl Tryz.underlying3 rfl k1 rfl) ?_
  refine SeqC.next rfl rfl rfl rfl rfl rfl rfl (fun hcx => Runs.gtr rfl rfl rfl) ?_
  refine SeqC.or rfl rfl rfl rfl rfl rfl rfl ?_
  refine Seq.val (Runs.move rfl rfl) rfl rfl rfl ?_
  refine SeqC.start ?_
  refine SeqC.open rfl rfl rfl rfl rfl rfl rfl (fun hcx => Runs.move rfl rfl) ?_
  refine SeqC.nextC rfl rfl rfl rfl rfl rfl rfl (fun hcx => Enters.func rfl rfl rfl (run_enter Tryz.func89 (by kernel_rfl) rfl)) (fun hcx => h100 _) ?_
  intro w10 hw10
  replace bel := bel.step hw10
  replace k1 := k1.step hw10
  refine SeqC.next rfl rfl rfl rfl rfl rfl rfl (fun hcx => Runs.not rfl rfl) ?_
  refine SeqC.next rfl rfl rfl rfl rfl rfl rfl (fun hcx => Runs.move rfl rfl) ?_
  refine SeqC.open rfl rfl rfl rfl rfl rfl rfl (fun hcx => Runs.fieldB 5 rfl rfl Tryz.underlying100 rfl (by kernel_rfl)) ?_
  refine SeqC.next rfl rfl rfl rfl rfl rfl rfl (fun hcx => Runs.loadB rfl rfl Tryz.underlying3 rfl k1 rfl) ?_
  refine SeqC.next rfl rfl rfl rfl rfl rfl rfl (fun hcx => Runs.neqI rfl rfl rfl) ?_
  refine SeqC.andG rfl rfl rfl rfl rfl rfl rfl rfl rfl rfl rfl ?_
  refine SeqC.or rfl rfl rfl rfl rfl rfl rfl ?_
  refine Seq.val (Runs.move rfl rfl) rfl rfl rfl ?_
  refine SeqC.start ?_
  refine SeqC.open rfl rfl rfl rfl rfl rfl rfl (fun hcx => Runs.move rfl rfl) ?_
  refine SeqC.nextC rfl rfl rfl rfl rfl rfl rfl (fun hcx => Enters.func rfl rfl rfl (run_enter Tryz.func89 (by kernel_rfl) rfl)) (fun hcx => h110 _) ?_
  intro w11 hw11
  replace bel := bel.step hw11
  replace k1 := k1.step hw11
  refine SeqC.next rfl rfl rfl rfl rfl rfl rfl (fun hcx => Runs.not rfl rfl) ?_
  refine SeqC.next rfl rfl rfl rfl rfl rfl rfl (fun hcx => Runs.move rfl rfl) ?_
  refine SeqC.open rfl rfl rfl rfl rfl rfl rfl (fun hcx => Runs.fieldB 8 rfl rfl Tryz.underlying100 rfl (by kernel_rfl)) ?_
  refine SeqC.next rfl rfl rfl rfl rfl rfl rfl (fun hcx => Runs.loadB rfl rfl Tryz.underlying2 rfl k1 rfl) ?_
  refine SeqC.next rfl rfl rfl rfl rfl rfl rfl (fun hcx => Runs.neqI rfl rfl rfl) ?_
  refine SeqC.andG rfl rfl rfl rfl rfl rfl rfl rfl rfl rfl rfl ?_
  refine SeqC.or rfl rfl rfl rfl rfl rfl rfl ?_
  refine Seq.nil ?_
  refine Post.weak (F' := [(1, _), (4, _), (123, _)]) ⟨rfl, rfl, rfl, trivial⟩ ?_
  refine Post.then_ ?_
  obtain ⟨B2, hB2⟩ : ∃ B2, ((decide (e.day < 0) || decide (2932896 < e.day)) || (!decide (100 ∈ s) && decide (e.day ≠ 0)) || (!decide (110 ∈ s) && decide (e.n ≠ 0))) = B2 := ⟨_, rfl⟩
  rw [hB2] at hres
  refine Cd.cond rfl (fun c4 => ?_) (fun c4 => ?_)
  · skip
    refine Cd.seq ?_
    refine Cd.region ?_
    refine Seq.val (Runs.assign rfl rfl) rfl rfl rfl ?_
    refine Seq.nil ?_
    refine Post.weak (F' := [(1, _), (2, _), (4, _), (123, _)]) ⟨rfl, rfl, rfl, rfl, trivial⟩ ?_
    refine Post.then_ ?_
    refine Cd.ret ?_
    refine Post.then_ret ?_
    refine Post.end1 rfl rfl (.inl rfl) ?_
    have c4 : B2 = true := by rw [← hB2]; simpa using c4
    exact ⟨ret1 (bool_eq (by rw [← hres, c4]; simp)), bel⟩
  have c4 : B2 = false := by rw [← hB2]; simpa using c4
  rw [c4] at hres
  refine Cd.skip ?_
  refine Post.then_ ?_
  refine Cd.seq ?_
  refine Cd.seq ?_
  refine Cd.region ?_
  refine Seq.val (Runs.move rfl rfl) rfl rfl rfl ?_
  refine Seq.call (Enters.func rfl rfl rfl (run_enter Tryz.func89 (by kernel_rfl) rfl)) rfl rfl rfl (h119 _) ?_
  rintro en w12 ⟨rfl, hb12⟩
  refine ⟨_, rfl, ?_⟩
  replace bel := bel.step hb12
  replace k1 := k1.step hb12
  refine Seq.val (Runs.not rfl rfl) rfl rfl rfl ?_
  refine Seq.nil ?_
  refine Post.weak (F' := [(1, _), (4, _), (123, _), (126, _)]) ⟨rfl, rfl, rfl, rfl, trivial⟩ ?_
  refine Post.then_ ?_
  refine Cd.cond rfl (fun c5 => ?_) (fun c5 => ?_)
  · skip
    refine Cd.seq ?_
    refine Cd.region ?_
    refine Seq.val (Runs.fieldB 6 rfl rfl Tryz.underlying100 rfl (by kernel_rfl)) rfl rfl rfl ?_
    refine Seq.val (Runs.loadB rfl rfl Tryz.underlying3 rfl k1 rfl) rfl rfl rfl ?_
    refine Seq.val (Runs.eqlI rfl rfl rfl) rfl rfl rfl ?_
    refine Seq.val (Runs.move rfl rfl) rfl rfl rfl ?_
    refine SeqC.start ?_
    refine SeqC.open rfl rfl rfl rfl rfl rfl rfl (fun hcx => Runs.fieldB 7 rfl rfl Tryz.underlying100 rfl (by kernel_rfl)) ?_
    refine SeqC.next rfl rfl rfl rfl rfl rfl rfl (fun hcx => Runs.loadB rfl rfl Tryz.underlying3 rfl k1 rfl) ?_
    refine SeqC.next rfl rfl rfl rfl rfl rfl rfl (fun hcx => Runs.eqlI rfl rfl rfl) ?_
    refine SeqC.and rfl rfl rfl rfl rfl rfl rfl ?_
    refine Seq.val (Runs.assign rfl rfl) rfl rfl rfl ?_
    refine Seq.nil ?_
    refine Post.weak (F' := [(1, _), (2, _), (4, _), (123, _), (126, _)]) ⟨rfl, rfl, rfl, rfl, rfl, trivial⟩ ?_
    refine Post.then_ ?_
    refine Cd.ret ?_
    refine Post.then_ret ?_
    refine Post.end1 rfl rfl (.inl rfl) ?_
    have c5 : decide (119 ∈ s) = false := by simpa using c5
    exact ⟨ret1 (bool_eq (by rw [← hres, c5]; simp)), bel⟩
  · skip
    refine Cd.skip ?_
    refine Post.then_ ?_
    refine Cd.seq ?_
    refine Cd.region ?_
    refine Seq.val (Runs.fieldB 6 rfl rfl Tryz.underlying100 rfl (by kernel_rfl)) rfl rfl rfl ?_
    refine Seq.val (Runs.loadB rfl rfl Tryz.underlying3 rfl k1 rfl) rfl rfl rfl ?_
    refine Seq.val (Runs.geq rfl rfl rfl) rfl rfl rfl ?_
    refine Seq.val (Runs.move rfl rfl) rfl rfl rfl ?_
    refine SeqC.start ?_
    refine SeqC.open rfl rfl rfl rfl rfl rfl rfl (fun hcx => Runs.fieldB 6 rfl rfl Tryz.underlying100 rfl (by kernel_rfl)) ?_
    refine SeqC.next rfl rfl rfl rfl rfl rfl rfl (fun hcx => Runs.loadB rfl rfl Tryz.underlying3 rfl k1 rfl) ?_
    refine SeqC.next rfl rfl rfl rfl rfl rfl rfl (fun hcx => Runs.leq rfl rfl rfl) ?_
    refine SeqC.and rfl rfl rfl rfl rfl rfl rfl ?_
    refine Seq.val (Runs.move rfl rfl) rfl rfl rfl ?_
    refine SeqC.start ?_
    refine SeqC.open rfl rfl rfl rfl rfl rfl rfl (fun hcx => Runs.fieldB 7 rfl rfl Tryz.underlying100 rfl (by kernel_rfl)) ?_
    refine SeqC.next rfl rfl rfl rfl rfl rfl rfl (fun hcx => Runs.loadB rfl rfl Tryz.underlying3 rfl k1 rfl) ?_
    refine SeqC.next rfl rfl rfl rfl rfl rfl rfl (fun hcx => Runs.eqlI rfl rfl rfl) ?_
    refine SeqC.next rfl rfl rfl rfl rfl rfl rfl (fun hcx => Runs.move rfl rfl) ?_
    refine SeqC.open rfl rfl rfl rfl rfl rfl rfl (fun hcx => Runs.fieldB 7 rfl rfl Tryz.underlying100 rfl (by kernel_rfl)) ?_
    refine SeqC.next rfl rfl rfl rfl rfl rfl rfl (fun hcx => Runs.loadB rfl rfl Tryz.underlying3 rfl k1 rfl) ?_
    refine SeqC.next rfl rfl rfl rfl rfl rfl rfl (fun hcx => Runs.eqlI rfl rfl rfl) ?_
    refine SeqC.orG rfl rfl rfl rfl rfl rfl rfl rfl rfl rfl rfl ?_
    refine SeqC.and rfl rfl rfl rfl rfl rfl rfl ?_
    refine Seq.val (Runs.assign rfl rfl) rfl rfl rfl ?_
    refine Seq.nil ?_
    refine Post.weak (F' := [(1, _), (2, _), (4, _), (123, _), (126, _)]) ⟨rfl, rfl, rfl, rfl, rfl, trivial⟩ ?_
    refine Post.then_ ?_
    refine Cd.ret ?_
    refine Post.end1 rfl rfl (.inl rfl) ?_
    have c5 : decide (119 ∈ s) = true := by simpa using c5
    exact ⟨ret1 (bool_eq (by rw [← hres, c5]; simp)), bel⟩
end Go.Proofs.YtenikchlnfhikaaGreatDoor

namespace Go.Proofs.YtenikchlnfhikaaGreatDoor
open Go.RowKit

def evS (a : As) : Ev := ⟨a.k, a.i, a.x, a.y, if a.k = 1 then zeroS else [], a.d, a.p, a.wh, a.n⟩
theorem evS_rng {a : As} (h : a.rng) : (evS a).rng := by
  have hz : ∀ x ∈ (if a.k = 1 then zeroS else []), x < 256 := by split <;> decide
  have hl : (if a.k = 1 then zeroS else []).length ≤ 9223372036854775807 := by split <;> (show _ ≤ _; decide)
  obtain ⟨a1, a2, a3, a4, a5, a6, a7, a8, a9, b1, b2, b3, b4⟩ := h.ev
  exact ⟨a1, a2, a3, a4, hz, h.d, a7, a8, a9, b1, b2, b3, hl⟩
theorem evS_is {a : As} (h1 : a.k = 2 ∨ a.d = 0) (h2 : a.k = 1 ∨ a.t = []) : evS a = evR a := by
  unfold evS evR evOf
  by_cases q : a.k = 1
  · rcases h1 with h1 | h1
    · omega
    · simp [q, h1]
  · have h2 := h2.resolve_left q
    rcases h1 with h1 | h1
    · simp [q, h1, h2]
    · simp [q, h1, h2]
theorem run_build_evR (k : Int) (i x y : ByteArray) (d p wh n : Int) (w : World) : (Instr.build 100 #[(0, .int .i64 k), (1, .string i), (2, .string x), (3, .string y), (5, .int .i64 d), (6, .int .i64 p), (7, .int .i64 wh), (8, .int .i64 n)]).run Tryz.prog w = .ok (.agg #[.int .i64 k, .string i, .string x, .string y, .string { data := #[] }, .int .i64 d, .int .i64 p, .int .i64 wh, .int .i64 n]) w := by
  have hu := Tryz.underlying100
  go_simp
theorem zero_debentureref25_Event : zeroIs Tryz.prog 100 = some (some (.agg #[.int .i64 0, .string { data := #[] }, .string { data := #[] }, .string { data := #[] }, .string { data := #[] }, .int .i64 0, .int .i64 0, .int .i64 0, .int .i64 0])) := by kernel_rfl
set_option maxHeartbeats 1000000 in
theorem refAskRight (a : As) (hr : a.rng) (w : World) (hpz : ∀ W, Below w.heap.size w W → Calls Tryz.prog 90 #[.string (strOf zeroS)] W fun en w' => Below W.heap.size W w' ∧ ∃ x1 x2 A1 n1 c1 A2 n2 c2, en = .returned (.tuple #[.agg #[.int .i64 x1, .string x2, .slice A1 n1 c1, .slice A2 n2 c2], .bool true])) :
    Calls Tryz.prog 9 #[a.v] w fun en w' => en = .returned (.bool (rightAskB a)) ∧ Grow w w' := by
  have bel := Below.refl w.heap.size w
  have hnm := fun W => refNamed_any a.r W hr.r hr.lr
  have htx := hr.t
  refine Calls.start 45 Tryz.func9 rfl rfl rfl ?_
  refine Cd.seq ?_
  refine Cd.region ?_
  refine Seq.box rfl rfl rfl rfl rfl ?_
  intro g1 w1 n1
  have e1 := Nat.le_trans bel.size n1.ge
  replace bel := bel.step n1.below
  have k1 := n1.blk
  refine Seq.val (Runs.assign rfl rfl) rfl rfl rfl ?_
  refine Seq.nil ?_
  refine Post.weak (F' := [(0, _), (1, _), (2, _)]) ⟨rfl, rfl, rfl, trivial⟩ ?_
  refine Post.then_ ?_
  refine Cd.seq ?_
  refine Cd.region ?_
  refine Seq.val (Runs.fieldB 0 rfl rfl Tryz.underlying23 rfl (by kernel_rfl)) rfl rfl rfl ?_
  refine Seq.val (Runs.loadB rfl rfl Tryz.underlying3 rfl k1 rfl) rfl rfl rfl ?_
  refine Seq.val (Runs.fieldB 2 rfl rfl Tryz.underlying23 rfl (by kernel_rfl)) rfl rfl rfl ?_
  refine Seq.val (Runs.loadB rfl rfl Tryz.underlying9 rfl k1 rfl) rfl rfl rfl ?_
  refine Seq.val (Runs.fieldB 3 rfl rfl Tryz.underlying23 rfl (by kernel_rfl)) rfl rfl rfl ?_
  refine Seq.val (Runs.loadB rfl rfl Tryz.underlying9 rfl k1 rfl) rfl rfl rfl ?_
  refine Seq.val (Runs.fieldB 4 rfl rfl Tryz.underlying23 rfl (by kernel_rfl)) rfl rfl rfl ?_
  refine Seq.val (Runs.loadB rfl rfl Tryz.underlying9 rfl k1 rfl) rfl rfl rfl ?_
  refine Seq.val (Runs.fieldB 6 rfl rfl Tryz.underlying23 rfl (by kernel_rfl)) rfl rfl rfl ?_
  refine Seq.val (Runs.loadB rfl rfl Tryz.underlying3 rfl k1 rfl) rfl rfl rfl ?_
  refine Seq.val (Runs.fieldB 7 rfl rfl Tryz.underlying23 rfl (by kernel_rfl)) rfl rfl rfl ?_
  refine Seq.val (Runs.loadB rfl rfl Tryz.underlying3 rfl k1 rfl) rfl rfl rfl ?_
  refine Seq.val (Runs.fieldB 8 rfl rfl Tryz.underlying23 rfl (by kernel_rfl)) rfl rfl rfl ?_
  refine Seq.val (Runs.loadB rfl rfl Tryz.underlying3 rfl k1 rfl) rfl rfl rfl ?_
  refine Seq.val (Runs.fieldB 9 rfl rfl Tryz.underlying23 rfl (by kernel_rfl)) rfl rfl rfl ?_
  refine Seq.val (Runs.loadB rfl rfl Tryz.underlying2 rfl k1 rfl) rfl rfl rfl ?_
  refine Seq.val (Runs.build rfl rfl (run_build_evR _ _ _ _ _ _ _ _ _)) rfl rfl rfl ?_
  refine Seq.alloc rfl (run_zero zero_debentureref25_Event) rfl rfl rfl ?_
  intro g3 w2 n3
  have e3 := Nat.le_trans bel.size n3.ge
  have l3 := Nat.lt_of_lt_of_le k1.lt n3.ge
  replace bel := bel.step n3.below
  replace k1 := k1.step n3.below
  have k3 := n3.blk
  refine Seq.storeN rfl rfl rfl rfl (m := 9) (by kernel_rfl) rfl (by repeat' first | exact trivial | apply And.intro | rfl | assumption) k3 (by simp [Value.cells]) rfl rfl ?_
  intro w3 pw3
  replace bel := bel.put k3 pw3 e3
  replace k1 := k1.put pw3 (by omega)
  replace k3 := pw3.blk
  refine Seq.nil ?_
  refine Post.weak (F' := [(0, _), (1, _), (2, _), (3, _)]) ⟨rfl, rfl, rfl, rfl, trivial⟩ ?_
  refine Post.then_ ?_
  refine Cd.seq ?_
  refine Cd.seq ?_
  refine Cd.region ?_
  refine Seq.val (Runs.fieldB 0 rfl rfl Tryz.underlying23 rfl (by kernel_rfl)) rfl rfl rfl ?_
  refine Seq.val (Runs.loadB rfl rfl Tryz.underlying3 rfl k1 rfl) rfl rfl rfl ?_
  refine Seq.val (Runs.eqlI rfl rfl rfl) rfl rfl rfl ?_
  refine Seq.nil ?_
  refine Post.weak (F' := [(0, _), (1, _), (2, _), (3, _), (23, _)]) ⟨rfl, rfl, rfl, rfl, rfl, trivial⟩ ?_
  refine Post.then_ ?_
  obtain ⟨E, hE⟩ : ∃ E, E = evS a := ⟨_, rfl⟩
  have hR := fun W (hW : Below w.heap.size w W) => refRight_eq (evS a) (evS_rng hr) W (fun q => by
    have q : a.k = 1 := q
    unfold evS
    rw [if_pos q]) (fun W2 hb => hpz W2 (hW.step hb))
  have hfin : ∀ b : Bool, (a.k = 1 ∨ a.t = []) → b = (namedB a.r && (decide (a.k = 2) || decide (a.d = 0)) && rightE (evS a)) → b = rightAskB a := fun b h1 h2 => by
    unfold rightAskB
    rw [h2]
    by_cases q : a.k = 2 ∨ a.d = 0
    · rw [evS_is q h1]
      rcases h1 with h1 | h1 <;> simp [h1]
    · have q1 : ¬ a.k = 2 := fun h => q (.inl h)
      have q2 : ¬ a.d = 0 := fun h => q (.inr h)
      simp [q1, q2]
  refine Cd.cond rfl (fun h3 => ?_) (fun h3 => ?_)
  · have h3 : a.k = 1 := by simpa using h3
    have e2 : evS a = ⟨a.k, a.i, a.x, a.y, zeroS, a.d, a.p, a.wh, a.n⟩ := by unfold evS; rw [if_pos h3]
    rw [e2] at hR hfin
    unfold Ev.v at hR
    replace k3 : Blk _ g3 100 #[.int .i64 a.k, .string (strOf a.i), .string (strOf a.x), .string (strOf a.y), .string (strOf []), .int .i64 a.d, .int .i64 a.p, .int .i64 a.wh, .int .i64 a.n] := k3
    refine Cd.region ?_
    refine Seq.val (Runs.fieldB 4 rfl rfl Tryz.underlying100 rfl (by kernel_rfl)) rfl rfl rfl ?_
    refine Seq.store1 rfl rfl rfl (by kernel_rfl) rfl rfl k3 rfl rfl rfl ?_
    intro w4 pw4
    replace bel := bel.put k3 pw4 e3
    replace k1 := k1.put pw4 (by omega)
    replace k3 := pw4.blk
    refine Seq.nil ?_
    refine Post.weak (F' := [(0, _), (1, _), (2, _), (3, _), (23, _)]) ⟨rfl, rfl, rfl, rfl, rfl, trivial⟩ ?_
    refine Post.then_ ?_
    refine Cd.seq ?_
    refine Cd.region ?_
    refine Seq.val (Runs.fieldB 1 rfl rfl Tryz.underlying23 rfl (by kernel_rfl)) rfl rfl rfl ?_
    refine Seq.val (Runs.loadB rfl rfl Tryz.underlying9 rfl k1 rfl) rfl rfl rfl ?_
    replace k3 : Blk _ g3 100 #[.int .i64 a.k, .string (strOf a.i), .string (strOf a.x), .string (strOf a.y), .string (strOf zeroS), .int .i64 a.d, .int .i64 a.p, .int .i64 a.wh, .int .i64 a.n] := k3
    refine Seq.call (Enters.func rfl rfl rfl (run_enter Tryz.func38 (by kernel_rfl) rfl)) rfl rfl rfl (hnm _) ?_
    rintro en w4 ⟨rfl, hb4⟩
    refine ⟨_, rfl, ?_⟩
    replace bel := bel.step hb4
    replace k1 := k1.step hb4
    replace k3 := k3.step hb4
    refine Seq.val (Runs.move rfl rfl) rfl rfl rfl ?_
    refine SeqC.start ?_
    refine SeqC.open rfl rfl rfl rfl rfl rfl rfl (fun hcx => Runs.fieldB 0 rfl rfl Tryz.underlying23 rfl (by kernel_rfl)) ?_
    refine SeqC.next rfl rfl rfl rfl rfl rfl rfl (fun hcx => Runs.loadB rfl rfl Tryz.underlying3 rfl k1 rfl) ?_
    refine SeqC.next rfl rfl rfl rfl rfl rfl rfl (fun hcx => Runs.eqlI rfl rfl rfl) ?_
    refine SeqC.next rfl rfl rfl rfl rfl rfl rfl (fun hcx => Runs.move rfl rfl) ?_
    refine SeqC.open rfl rfl rfl rfl rfl rfl rfl (fun hcx => Runs.fieldB 6 rfl rfl Tryz.underlying23 rfl (by kernel_rfl)) ?_
    refine SeqC.next rfl rfl rfl rfl rfl rfl rfl (fun hcx => Runs.loadB rfl rfl Tryz.underlying3 rfl k1 rfl) ?_
    refine SeqC.next rfl rfl rfl rfl rfl rfl rfl (fun hcx => Runs.eqlI rfl rfl rfl) ?_
    refine SeqC.orG rfl rfl rfl rfl rfl rfl rfl rfl rfl rfl rfl ?_
    refine SeqC.and rfl rfl rfl rfl rfl rfl rfl ?_
    refine Seq.val (Runs.move rfl rfl) rfl rfl rfl ?_
    refine SeqC.start ?_
    refine SeqC.open rfl rfl rfl rfl rfl rfl rfl (fun hcx => Runs.loadW rfl rfl Tryz.underlying100 rfl k3 (m := 9) (by kernel_rfl) rfl) ?_
    refine SeqC.nextC rfl rfl rfl rfl rfl rfl rfl (fun hcx => Enters.func rfl rfl rfl (run_enter Tryz.func39 (by kernel_rfl) rfl)) (fun hcx => hR _ bel) ?_
    intro w5 hw5
    replace bel := bel.step hw5
    replace k1 := k1.step hw5
    replace k3 := k3.step hw5
    refine SeqC.and rfl rfl rfl rfl rfl rfl rfl ?_
    refine Seq.val (Runs.assign rfl rfl) rfl rfl rfl ?_
    refine Seq.nil ?_
    refine Post.weak (F' := [(0, _), (1, _), (2, _), (3, _), (23, _)]) ⟨rfl, rfl, rfl, rfl, rfl, trivial⟩ ?_
    refine Post.then_ ?_
    refine Cd.ret ?_
    refine Post.end1 rfl rfl (.inl rfl) ?_
    exact ⟨ret1 (bool_eq (hfin _ (.inl h3) (by simp))), bel⟩
  · have h3 : a.k ≠ 1 := by simpa using h3
    have e2 : evS a = ⟨a.k, a.i, a.x, a.y, [], a.d, a.p, a.wh, a.n⟩ := by unfold evS; rw [if_neg h3]
    rw [e2] at hR hfin
    unfold Ev.v at hR
    replace k3 : Blk _ g3 100 #[.int .i64 a.k, .string (strOf a.i), .string (strOf a.x), .string (strOf a.y), .string (strOf []), .int .i64 a.d, .int .i64 a.p, .int .i64 a.wh, .int .i64 a.n] := k3
    refine Cd.seq ?_
    refine Cd.region ?_
    refine Seq.val (Runs.fieldB 5 rfl rfl Tryz.underlying23 rfl (by kernel_rfl)) rfl rfl rfl ?_
    refine Seq.val (Runs.loadB rfl rfl Tryz.underlying9 rfl k1 rfl) rfl rfl rfl ?_
    refine Seq.val (Runs.neqL (a := a.t) (b := []) rfl rfl rfl htx (by simp)) rfl rfl rfl ?_
    refine Seq.nil ?_
    refine Post.weak (F' := [(0, _), (1, _), (2, _), (3, _), (23, _), (27, _)]) ⟨rfl, rfl, rfl, rfl, rfl, rfl, trivial⟩ ?_
    refine Post.then_ ?_
    refine Cd.cond rfl (fun h4 => ?_) (fun h4 => ?_)
    · have h4 : a.t ≠ [] := by simpa using h4
      refine Cd.seq ?_
      refine Cd.region ?_
      refine Seq.val (Runs.assign rfl rfl) rfl rfl rfl ?_
      refine Seq.nil ?_
      refine Post.weak (F' := [(0, _), (1, _), (2, _), (3, _), (23, _), (27, _)]) ⟨rfl, rfl, rfl, rfl, rfl, rfl, trivial⟩ ?_
      refine Post.then_ ?_
      refine Cd.ret ?_
      refine Post.then_ret ?_
      refine Post.end1 rfl rfl (.inl rfl) ?_
      refine ⟨ret1 (bool_eq ?_), bel⟩
      unfold rightAskB
      simp [h3, h4]
    · have h4 : a.t = [] := by simpa using h4
      refine Cd.skip ?_
      refine Post.then_ ?_
      refine Cd.seq ?_
      refine Cd.region ?_
      refine Seq.val (Runs.fieldB 1 rfl rfl Tryz.underlying23 rfl (by kernel_rfl)) rfl rfl rfl ?_
      refine Seq.val (Runs.loadB rfl rfl Tryz.underlying9 rfl k1 rfl) rfl rfl rfl ?_
      refine Seq.call (Enters.func rfl rfl rfl (run_enter Tryz.func38 (by kernel_rfl) rfl)) rfl rfl rfl (hnm _) ?_
      rintro en w4 ⟨rfl, hb4⟩
      refine ⟨_, rfl, ?_⟩
      replace bel := bel.step hb4
      replace k1 := k1.step hb4
      replace k3 := k3.step hb4
      refine Seq.val (Runs.move rfl rfl) rfl rfl rfl ?_
      refine SeqC.start ?_
      refine SeqC.open rfl rfl rfl rfl rfl rfl rfl (fun hcx => Runs.fieldB 0 rfl rfl Tryz.underlying23 rfl (by kernel_rfl)) ?_
      refine SeqC.next rfl rfl rfl rfl rfl rfl rfl (fun hcx => Runs.loadB rfl rfl Tryz.underlying3 rfl k1 rfl) ?_
      refine SeqC.next rfl rfl rfl rfl rfl rfl rfl (fun hcx => Runs.eqlI rfl rfl rfl) ?_
      refine SeqC.next rfl rfl rfl rfl rfl rfl rfl (fun hcx => Runs.move rfl rfl) ?_
      refine SeqC.open rfl rfl rfl rfl rfl rfl rfl (fun hcx => Runs.fieldB 6 rfl rfl Tryz.underlying23 rfl (by kernel_rfl)) ?_
      refine SeqC.next rfl rfl rfl rfl rfl rfl rfl (fun hcx => Runs.loadB rfl rfl Tryz.underlying3 rfl k1 rfl) ?_
      refine SeqC.next rfl rfl rfl rfl rfl rfl rfl (fun hcx => Runs.eqlI rfl rfl rfl) ?_
      refine SeqC.orG rfl rfl rfl rfl rfl rfl rfl rfl rfl rfl rfl ?_
      refine SeqC.and rfl rfl rfl rfl rfl rfl rfl ?_
      refine Seq.val (Runs.move rfl rfl) rfl rfl rfl ?_
      refine SeqC.start ?_
      refine SeqC.open rfl rfl rfl rfl rfl rfl rfl (fun hcx => Runs.loadW rfl rfl Tryz.underlying100 rfl k3 (m := 9) (by kernel_rfl) rfl) ?_
      refine SeqC.nextC rfl rfl rfl rfl rfl rfl rfl (fun hcx => Enters.func rfl rfl rfl (run_enter Tryz.func39 (by kernel_rfl) rfl)) (fun hcx => hR _ bel) ?_
      intro w4 hw4
      replace bel := bel.step hw4
      replace k1 := k1.step hw4
      replace k3 := k3.step hw4
      refine SeqC.and rfl rfl rfl rfl rfl rfl rfl ?_
      refine Seq.val (Runs.assign rfl rfl) rfl rfl rfl ?_
      refine Seq.nil ?_
      refine Post.weak (F' := [(0, _), (1, _), (2, _), (3, _), (23, _), (27, _)]) ⟨rfl, rfl, rfl, rfl, rfl, rfl, trivial⟩ ?_
      refine Post.then_ ?_
      refine Cd.ret ?_
      refine Post.end1 rfl rfl (.inl rfl) ?_
      exact ⟨ret1 (bool_eq (hfin _ (.inr h4) (by simp))), bel⟩
end Go.Proofs.YtenikchlnfhikaaGreatDoor

set_option linter.unusedVariables false
namespace Go.Proofs.YtenikchlnfhikaaGreatDoor
open Go Go.RowKit
noncomputable def stO : List (Nat × RI.Ob) := [(0, .map [⟨.str [109, 97, 97, 46, 48, 48, 48, 48, 48, 48, 46, 108, 111, 103], .ptr (some (.own 46 0 0)), 0⟩, ⟨.str [109, 97, 97, 46, 48, 48, 48, 48, 48, 48, 46, 97, 99, 107], .ptr (some (.own 66 0 0)), 1⟩, ⟨.str [67, 85, 82, 82, 69, 78, 84], .ptr (some (.own 94 0 0)), 3⟩] 4), (1, .row 164 8 0 0 (RI.wrT [.int .i64 1048576, .mp (some 0), .int .i64 42, .int .i64 42, .int .i64 8, .bool false, .bool false, .int .i64 0] 0 .lf)), (5, .row 293 9 0 0 (RI.wrT [.ptr (some (.own 1 0 0)), .int .i64 0, .ptr (some (.own 12 0 0)), .int .i64 0, .int .i64 1, .int .i64 0, .sl none 0 0, .int .i64 1, .bool false] 0 .lf)), (12, .row 304 6 0 0 (RI.wrT [.ptr (some (.own 1 0 0)), .str [109, 97, 97], .int .i64 0, .int .i64 1, .int .i64 17, .bool false] 0 .lf)), (46, .row 465 2 0 0 (RI.wrT [.str [0, 0, 0, 5, 219, 95, 150, 125, 1, 2, 1, 0, 0, 102, 168, 69, 103], .int .i64 17] 0 .lf)), (66, .row 465 2 0 0 (RI.wrT [.str [0, 0, 0, 0, 0, 0, 0, 1, 137, 49, 67, 126], .int .i64 12] 0 .lf)), (94, .row 465 2 0 0 (RI.wrT [.str [0, 0, 0, 1, 196, 200, 12, 186, 0, 81, 83, 125, 82], .int .i64 13] 0 .lf)), (113, .row 304 6 0 0 (RI.wrT [.ptr (some (.own 1 0 0)), .str [119], .int .i64 0, .int .i64 0, .int .i64 0, .bool false] 0 .lf)), (128, .map [] 0), (135, .row 313 12 0 0 (RI.wrT [.ptr none, .ptr none, .ptr none, .ptr none, .ptr none, .ptr none, .ptr none, .ptr none, .ptr none, .ptr none, .ptr none, .ptr none] 0 .lf)), (136, .row 316 3 0 0 (RI.wrT [.str [], .str [], .sl (some (.own 135 0 0)) 12 12] 0 .lf)), (137, .row 318 3 0 0 (RI.wrT [.ptr (some (.own 136 0 0)), .int .i64 0, .int .u64 0] 0 .lf)), (138, .row 319 12 0 0 (RI.wrT [.ptr none, .ptr none, .ptr none, .ptr none, .ptr none, .ptr none, .ptr none, .ptr none, .ptr none, .ptr none, .ptr none, .ptr none] 0 .lf)), (139, .row 322 3 0 0 (RI.wrT [.int .i64 0, .int .i64 0, .sl (some (.own 138 0 0)) 12 12] 0 .lf)), (140, .row 324 3 0 0 (RI.wrT [.ptr (some (.own 139 0 0)), .int .i64 0, .int .u64 0] 0 .lf)), (141, .row 327 5 0 0 (RI.wrT [.int .i64 0, .int .i64 0, .ptr none, .ptr (some (.own 141 0 0)), .ptr (some (.own 141 0 0))] 0 .lf)), (142, .map [] 0), (143, .row 330 5 0 0 (RI.wrT [.int .i64 32, .mp (some 142), .ptr (some (.own 141 0 0)), .int .i64 0, .int .i64 0] 0 .lf)), (144, .row 203 13 0 0 (RI.wrT [.ptr (some (.own 1 0 0)), .int .i64 2, .int .i64 4000, .int .i64 2, .int .i64 1000, .ptr (some (.own 5 0 0)), .ptr (some (.own 113 0 0)), .ptr (some (.own 137 0 0)), .int .i64 0, .ptr (some (.own 140 0 0)), .mp (some 128), .ptr (some (.own 143 0 0)), .int .i64 0] 0 .lf)), (156, .row 105 3 0 0 (RI.wrT [.ptr (some (.own 144 0 0)), .int .i64 0, .int .i64 0] 0 .lf))]
noncomputable def stOV : RI.V := .tup [.ptr (some (.own 156 0 0)), .int .i64 0]
noncomputable def stOOk (r : RI.Rr) : Bool := RI.an (RI.V.beq r.v stOV) (RI.an (Nat.beq r.s.nx 173) (RI.hasAll r.s stO))
noncomputable abbrev stOS : RI.St := RI.stOf stO 173
noncomputable def vCfg : RI.V := .agg [.int .i64 2, .int .i64 4000, .int .i64 2, .int .i64 1000]
noncomputable def s1 : RI.St := (getR (runO 33 [.int .i64 1048576] ⟨.lf, 0⟩)).s
set_option maxRecDepth 1000000 in
theorem run_new : isV (.ptr (some (.own 1 0 0))) (runO 33 [.int .i64 1048576] ⟨.lf, 0⟩) = true := by kernel_rfl
noncomputable def s2 : RI.St := (getR (runO 11 [] s1)).s
set_option maxRecDepth 1000000 in
theorem run_config : isV vCfg (runO 11 [] s1) = true := by kernel_rfl
set_option maxRecDepth 1000000 in
theorem run_open : RI.leafB stOOk [] (runO 10 [.ptr (some (.own 1 0 0)), vCfg] s2) = true := by kernel_rfl
end Go.Proofs.YtenikchlnfhikaaGreatDoor


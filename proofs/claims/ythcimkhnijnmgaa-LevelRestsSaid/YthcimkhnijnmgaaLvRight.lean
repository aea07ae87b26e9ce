/-
  debentureref12: ahead, Overlap, Right: what a right version's files keep to. Condition: the slice lies within reach.
-/
import Derived.Test.YthcimkhnijnmgaaLvFile
import Derived.Test.YthcimkhnijnmgaaLvTail
namespace Go.Proofs.Ythcimkhnijnmgaa.Lv
open Go.RowKit

theorem row4' {W : World} {g : Nat} {x0 x1 x2 x3 : Value} {t : TypeId} {fr : Nat × Nat} (h : W.heap[g]? = some (.cells #[x0, x1, x2, x3] t fr)) :
    W.cell? ⟨g, 0, none⟩ = some x0 ∧ W.cell? ⟨g, 1, none⟩ = some x1 ∧ W.cell? ⟨g, 2, none⟩ = some x2 ∧ W.cell? ⟨g, 3, none⟩ = some x3 := by
  refine ⟨?_, ?_, ?_, ?_⟩ <;> (rw [cell_of_row _ _ _ _ _ _ h]; rfl)
theorem row6 {W : World} {g : Nat} {x0 x1 x2 x3 x4 x5 : Value} {t : TypeId} {fr : Nat × Nat} (h : W.heap[g]? = some (.cells #[x0, x1, x2, x3, x4, x5] t fr)) :
    W.cell? ⟨g, 0, none⟩ = some x0 ∧ W.cell? ⟨g, 1, none⟩ = some x1 ∧ W.cell? ⟨g, 2, none⟩ = some x2 ∧ W.cell? ⟨g, 3, none⟩ = some x3 ∧ W.cell? ⟨g, 4, none⟩ = some x4 ∧ W.cell? ⟨g, 5, none⟩ = some x5 := by
  refine ⟨?_, ?_, ?_, ?_, ?_, ?_⟩ <;> (rw [cell_of_row _ _ _ _ _ _ h]; rfl)
def aheadB (a b : File) : Bool := if a.level = b.level then (if a.level = 0 then decide (b.num < a.num) else Op.bytesLess a.first.toList b.first.toList) else decide (a.level < b.level)
def overB (a b : File) : Bool := !Op.bytesLess a.last.toList b.first.toList && !Op.bytesLess b.last.toList a.first.toList

set_option maxHeartbeats 400000 in
theorem ahead_any (a b : File) (w : World) :
    Calls Try.prog 27 #[.agg #[.int .i64 a.num, .int .i64 a.level, .string a.first, .string a.last, .int .i64 a.count, .int .i64 a.size], .agg #[.int .i64 b.num, .int .i64 b.level, .string b.first, .string b.last, .int .i64 b.count, .int .i64 b.size]] w fun e w' =>
      e = .returned (.bool (aheadB a b)) ∧ Below w.heap.size w w' := by
  by_cases h1 : a.level = b.level
  · have hne : (a.level != b.level) = false := by simpa using h1
    by_cases h2 : a.level = 0
    · have h0 : (a.level == 0) = true := by simpa using h2
      have e1 := Lib.hid (show aheadB a b = decide (b.num < a.num) by unfold aheadB; rw [if_pos h1, if_pos h2])
      clear h1 h2
      go_enter Try.func27, Try.ntmps27
      go_wp2
      go_ret
      rw [e1.out]
      exact ⟨rfl, ((Below.refl _ _).alloc (Nat.le_refl _) _).alloc (by simp) _⟩
    · have h0 : (a.level == 0) = false := by simpa using h2
      have e1 := Lib.hid (show aheadB a b = Op.bytesLess a.first.toList b.first.toList by unfold aheadB; rw [if_pos h1, if_neg h2])
      clear h1 h2
      go_enter Try.func27, Try.ntmps27
      go_wp2
      go_ret
      rw [e1.out]
      exact ⟨rfl, ((Below.refl _ _).alloc (Nat.le_refl _) _).alloc (by simp) _⟩
  · have hne : (a.level != b.level) = true := by simpa using h1
    have e1 := Lib.hid (show aheadB a b = decide (a.level < b.level) by unfold aheadB; rw [if_neg h1])
    clear h1
    go_enter Try.func27, Try.ntmps27
    go_wp2
    go_ret
    rw [e1.out]
    exact ⟨rfl, ((Below.refl _ _).alloc (Nat.le_refl _) _).alloc (by simp) _⟩

set_option maxHeartbeats 400000 in
theorem over_any (a b : File) (w : World) :
    Calls Try.prog 28 #[.agg #[.int .i64 a.num, .int .i64 a.level, .string a.first, .string a.last, .int .i64 a.count, .int .i64 a.size], .agg #[.int .i64 b.num, .int .i64 b.level, .string b.first, .string b.last, .int .i64 b.count, .int .i64 b.size]] w fun e w' =>
      e = .returned (.bool (overB a b)) ∧ Below w.heap.size w w' := by
  unfold overB
  cases h1 : Op.bytesLess a.last.toList b.first.toList <;> cases h2 : Op.bytesLess b.last.toList a.first.toList
  all_goals
    go_enter Try.func28, Try.ntmps28
    go_wp2
    go_ret
    exact ⟨rfl, ((Below.refl _ _).alloc (Nat.le_refl _) _).alloc (by simp) _⟩

/-- What a right version's file keeps to, by itself. -/
def FileOk (nx : Int) (f : File) : Prop :=
  1 ≤ f.num ∧ f.num < nx ∧ 0 ≤ f.level ∧ f.level ≤ 4 ∧ 1 ≤ f.first.size ∧ 1 ≤ f.last.size ∧ f.first.size ≤ 80 ∧ f.last.size ≤ 80 ∧ (!Op.bytesLess f.first.toList f.last.toList && !(f.first.toList == f.last.toList)) = false ∧ 1 ≤ f.count ∧ f.count ≤ 1048576 ∧ 1 ≤ f.size ∧ f.size ≤ 1048576
/-- What two files, the first ahead of the second, keep to. -/
def PairOk (g f : File) : Prop := f.num ≠ g.num ∧ aheadB g f = true ∧ (f.level = g.level → 0 < f.level → overB f g = false)
def RightP (lg nx sq : Int) (fs : List File) : Prop :=
  0 ≤ lg ∧ lg ≤ 999999 ∧ 0 ≤ nx ∧ nx ≤ 999999 ∧ 0 ≤ sq ∧ sq ≤ 4611686018427387904 ∧ fs.length ≤ 100 ∧ (∀ f ∈ fs, FileOk nx f) ∧ ∀ (i k : Nat) (f g : File), k < i → fs[i]? = some f → fs[k]? = some g → PairOk g f
def RightSaid (lg nx sq : Int) (fs : List File) (w : World) (e : Ending) (w' : World) : Prop := ∃ b, e = .returned (.bool b) ∧ (b = true ↔ RightP lg nx sq fs) ∧ Below w.heap.size w w'

set_option maxHeartbeats 25600000 in
set_option maxRecDepth 100000 in
theorem right_any (B : Nat) (A : Option Addr) (len cap : Nat) (fs : List File) (lg nx sq : Int) (w : World) (hlen : len * 64 ≤ 140737488351232) (hr : Reads w B 6 A len (cellsOf fs)) (hB : B ≤ w.heap.size) :
    Calls Try.prog 11 #[.agg #[.int .i64 lg, .int .i64 nx, .int .i64 sq, .slice A len cap]] w (RightSaid lg nx sq fs w) := by
  have Hlf := Lib.hid (length_of_cells hr)
  have Hr := Lib.hid hr
  clear hr
  by_cases hh : 0 ≤ lg ∧ lg ≤ 999999 ∧ 0 ≤ nx ∧ nx ≤ 999999 ∧ 0 ≤ sq ∧ sq ≤ 4611686018427387904 ∧ len ≤ 100
  · obtain ⟨l0, l1, n0, n1, s0, s1, ln⟩ := hh
    go_enter Try.func11, Try.ntmps11
    go_wp2_with fail
    go_loopw [3] (fun u wr => ∃ i : Nat, i ≤ len ∧ u = .int .i64 i ∧ (∀ f ∈ fs.take i, FileOk nx f) ∧ (∀ (i' k : Nat) (f g : File), i' < i → k < i' → fs[i']? = some f → fs[k]? = some g → PairOk g f) ∧
        wr.heap[w.heap.size]? = some (.cells #[.int .i64 lg, .int .i64 nx, .int .i64 sq, .slice A len cap] 24 (0, 0)) ∧ Below w.heap.size w wr) (fun u _ => len - (intOf u).toNat)
    case atStart => exact ⟨0, Nat.zero_le _, rfl, by simp, fun i' k f g h => by omega, heap_alloc_new w _, (Below.refl _ _).alloc (Nat.le_refl _) _⟩
    case round =>
      obtain ⟨i, hi, rfl, hok, hpr, hg, hb⟩ := hrel
      have Hok := Lib.hid hok
      have Hpr := Lib.hid hpr
      have Hg := Lib.hid hg
      have hgl : w.heap.size < wr.heap.size := (Array.getElem?_eq_some_iff.1 hg).1
      obtain ⟨x0, x1, x2, x3⟩ := row4' hg
      clear hok hpr hg
      by_cases hlt : i < len
      · obtain ⟨ad, f, rfl, hbl, hf, c0, c1, c2, c3, c4, c5⟩ := Hr.out.file hb hB hlt
        have Hf := Lib.hid hf
        clear hf
        by_cases o1 : 1 ≤ f.num
        case neg =>
          have Hno := Lib.hid (show ¬ RightP lg nx sq fs from fun hp => o1 ((hp.2.2.2.2.2.2.2.1 f (List.mem_of_getElem? Hf.out)).1))
          have o1' : f.num < 1 := by omega
          clear o1
          clear Hok Hpr Hg Hr Hlf x2
          go_wp2_with ((with_reducible refine wpList_tail (o := ⟨some 56, _, _, _, _, _⟩) 162 55 true ?hp ?hn ?h0 ?hq); (case hp => ((conv => lhs; cbv); rfl)); (case hn => rfl); (case h0 => rfl); simp only [mergeP, valOf])
          all_goals
            go_ret
            exact ⟨false, rfl, by simp [Hno.out], (hb.alloc hb.size _)⟩
        by_cases o2 : f.num < nx
        case neg =>
          have Hno := Lib.hid (show ¬ RightP lg nx sq fs from fun hp => o2 ((hp.2.2.2.2.2.2.2.1 f (List.mem_of_getElem? Hf.out)).2.1))
          have o2' : nx ≤ f.num := by omega
          clear o2
          clear Hok Hpr Hg Hr Hlf x2
          go_wp2_with ((with_reducible refine wpList_tail (o := ⟨some 63, _, _, _, _, _⟩) 162 62 true ?hp ?hn ?h0 ?hq); (case hp => ((conv => lhs; cbv); rfl)); (case hn => rfl); (case h0 => rfl); simp only [mergeP, valOf])
          all_goals
            go_ret
            exact ⟨false, rfl, by simp [Hno.out], (hb.alloc hb.size _)⟩
        by_cases o3 : 0 ≤ f.level
        case neg =>
          have Hno := Lib.hid (show ¬ RightP lg nx sq fs from fun hp => o3 ((hp.2.2.2.2.2.2.2.1 f (List.mem_of_getElem? Hf.out)).2.2.1))
          have o3' : f.level < 0 := by omega
          clear o3
          clear Hok Hpr Hg Hr Hlf x2
          go_wp2_with ((with_reducible refine wpList_tail (o := ⟨some 68, _, _, _, _, _⟩) 162 67 true ?hp ?hn ?h0 ?hq); (case hp => ((conv => lhs; cbv); rfl)); (case hn => rfl); (case h0 => rfl); simp only [mergeP, valOf])
          all_goals
            go_ret
            exact ⟨false, rfl, by simp [Hno.out], (hb.alloc hb.size _)⟩
        by_cases o4 : f.level ≤ 4
        case neg =>
          have Hno := Lib.hid (show ¬ RightP lg nx sq fs from fun hp => o4 ((hp.2.2.2.2.2.2.2.1 f (List.mem_of_getElem? Hf.out)).2.2.2.1))
          have o4' : 4 < f.level := by omega
          clear o4
          clear Hok Hpr Hg Hr Hlf x2
          go_wp2_with ((with_reducible refine wpList_tail (o := ⟨some 73, _, _, _, _, _⟩) 162 72 true ?hp ?hn ?h0 ?hq); (case hp => ((conv => lhs; cbv); rfl)); (case hn => rfl); (case h0 => rfl); simp only [mergeP, valOf])
          all_goals
            go_ret
            exact ⟨false, rfl, by simp [Hno.out], (hb.alloc hb.size _)⟩
        by_cases o5 : 1 ≤ f.first.size
        case neg =>
          have Hno := Lib.hid (show ¬ RightP lg nx sq fs from fun hp => o5 ((hp.2.2.2.2.2.2.2.1 f (List.mem_of_getElem? Hf.out)).2.2.2.2.1))
          have o5' : f.first.size < 1 := by omega
          clear o5
          clear Hok Hpr Hg Hr Hlf x2
          go_wp2_with ((with_reducible refine wpList_tail (o := ⟨some 79, _, _, _, _, _⟩) 162 78 true ?hp ?hn ?h0 ?hq); (case hp => ((conv => lhs; cbv); rfl)); (case hn => rfl); (case h0 => rfl); simp only [mergeP, valOf])
          all_goals
            go_ret
            exact ⟨false, rfl, by simp [Hno.out], (hb.alloc hb.size _)⟩
        by_cases o6 : 1 ≤ f.last.size
        case neg =>
          have Hno := Lib.hid (show ¬ RightP lg nx sq fs from fun hp => o6 ((hp.2.2.2.2.2.2.2.1 f (List.mem_of_getElem? Hf.out)).2.2.2.2.2.1))
          have o6' : f.last.size < 1 := by omega
          clear o6
          clear Hok Hpr Hg Hr Hlf x2
          go_wp2_with ((with_reducible refine wpList_tail (o := ⟨some 85, _, _, _, _, _⟩) 162 84 true ?hp ?hn ?h0 ?hq); (case hp => ((conv => lhs; cbv); rfl)); (case hn => rfl); (case h0 => rfl); simp only [mergeP, valOf])
          all_goals
            go_ret
            exact ⟨false, rfl, by simp [Hno.out], (hb.alloc hb.size _)⟩
        by_cases o7 : f.first.size ≤ 80
        case neg =>
          have Hno := Lib.hid (show ¬ RightP lg nx sq fs from fun hp => o7 ((hp.2.2.2.2.2.2.2.1 f (List.mem_of_getElem? Hf.out)).2.2.2.2.2.2.1))
          have o7' : 80 < f.first.size := by omega
          clear o7
          clear Hok Hpr Hg Hr Hlf x2
          go_wp2_with ((with_reducible refine wpList_tail (o := ⟨some 91, _, _, _, _, _⟩) 162 90 true ?hp ?hn ?h0 ?hq); (case hp => ((conv => lhs; cbv); rfl)); (case hn => rfl); (case h0 => rfl); simp only [mergeP, valOf])
          all_goals
            go_ret
            exact ⟨false, rfl, by simp [Hno.out], (hb.alloc hb.size _)⟩
        by_cases o8 : f.last.size ≤ 80
        case neg =>
          have Hno := Lib.hid (show ¬ RightP lg nx sq fs from fun hp => o8 ((hp.2.2.2.2.2.2.2.1 f (List.mem_of_getElem? Hf.out)).2.2.2.2.2.2.2.1))
          have o8' : 80 < f.last.size := by omega
          clear o8
          clear Hok Hpr Hg Hr Hlf x2
          go_wp2_with ((with_reducible refine wpList_tail (o := ⟨some 97, _, _, _, _, _⟩) 162 96 true ?hp ?hn ?h0 ?hq); (case hp => ((conv => lhs; cbv); rfl)); (case hn => rfl); (case h0 => rfl); simp only [mergeP, valOf])
          all_goals
            go_ret
            exact ⟨false, rfl, by simp [Hno.out], (hb.alloc hb.size _)⟩
        by_cases o9 : (!Op.bytesLess f.first.toList f.last.toList && !(f.first.toList == f.last.toList)) = false
        case neg =>
          have Hno := Lib.hid (show ¬ RightP lg nx sq fs from fun hp => o9 ((hp.2.2.2.2.2.2.2.1 f (List.mem_of_getElem? Hf.out)).2.2.2.2.2.2.2.2.1))
          have o9' : (!Op.bytesLess f.first.toList f.last.toList && !(f.first.toList == f.last.toList)) = true := Bool.not_eq_false _ ▸ (by revert o9; cases (!Op.bytesLess f.first.toList f.last.toList && !(f.first.toList == f.last.toList)) <;> simp)
          clear o9
          clear Hok Hpr Hg Hr Hlf x2
          go_wp2_with ((with_reducible refine wpList_tail (o := ⟨some 104, _, _, _, _, _⟩) 162 103 true ?hp ?hn ?h0 ?hq); (case hp => ((conv => lhs; cbv); rfl)); (case hn => rfl); (case h0 => rfl); simp only [mergeP, valOf])
          all_goals
            go_ret
            exact ⟨false, rfl, by simp [Hno.out], (hb.alloc hb.size _)⟩
        by_cases o10 : 1 ≤ f.count
        case neg =>
          have Hno := Lib.hid (show ¬ RightP lg nx sq fs from fun hp => o10 ((hp.2.2.2.2.2.2.2.1 f (List.mem_of_getElem? Hf.out)).2.2.2.2.2.2.2.2.2.1))
          have o10' : f.count < 1 := by omega
          clear o10
          clear Hok Hpr Hg Hr Hlf x2
          go_wp2_with ((with_reducible refine wpList_tail (o := ⟨some 109, _, _, _, _, _⟩) 162 108 true ?hp ?hn ?h0 ?hq); (case hp => ((conv => lhs; cbv); rfl)); (case hn => rfl); (case h0 => rfl); simp only [mergeP, valOf])
          all_goals
            go_ret
            exact ⟨false, rfl, by simp [Hno.out], (hb.alloc hb.size _)⟩
        by_cases o11 : f.count ≤ 1048576
        case neg =>
          have Hno := Lib.hid (show ¬ RightP lg nx sq fs from fun hp => o11 ((hp.2.2.2.2.2.2.2.1 f (List.mem_of_getElem? Hf.out)).2.2.2.2.2.2.2.2.2.2.1))
          have o11' : 1048576 < f.count := by omega
          clear o11
          clear Hok Hpr Hg Hr Hlf x2
          go_wp2_with ((with_reducible refine wpList_tail (o := ⟨some 114, _, _, _, _, _⟩) 162 113 true ?hp ?hn ?h0 ?hq); (case hp => ((conv => lhs; cbv); rfl)); (case hn => rfl); (case h0 => rfl); simp only [mergeP, valOf])
          all_goals
            go_ret
            exact ⟨false, rfl, by simp [Hno.out], (hb.alloc hb.size _)⟩
        by_cases o12 : 1 ≤ f.size
        case neg =>
          have Hno := Lib.hid (show ¬ RightP lg nx sq fs from fun hp => o12 ((hp.2.2.2.2.2.2.2.1 f (List.mem_of_getElem? Hf.out)).2.2.2.2.2.2.2.2.2.2.2.1))
          have o12' : f.size < 1 := by omega
          clear o12
          clear Hok Hpr Hg Hr Hlf x2
          go_wp2_with ((with_reducible refine wpList_tail (o := ⟨some 119, _, _, _, _, _⟩) 162 118 true ?hp ?hn ?h0 ?hq); (case hp => ((conv => lhs; cbv); rfl)); (case hn => rfl); (case h0 => rfl); simp only [mergeP, valOf])
          all_goals
            go_ret
            exact ⟨false, rfl, by simp [Hno.out], (hb.alloc hb.size _)⟩
        by_cases o13 : f.size ≤ 1048576
        case neg =>
          have Hno := Lib.hid (show ¬ RightP lg nx sq fs from fun hp => o13 ((hp.2.2.2.2.2.2.2.1 f (List.mem_of_getElem? Hf.out)).2.2.2.2.2.2.2.2.2.2.2.2))
          have o13' : 1048576 < f.size := by omega
          clear o13
          clear Hok Hpr Hg Hr Hlf x2
          go_wp2_with fail
          all_goals
            go_ret
            exact ⟨false, rfl, by simp [Hno.out], (hb.alloc hb.size _)⟩
        have Hfo := Lib.hid (show FileOk nx f from ⟨o1, o2, o3, o4, o5, o6, o7, o8, o9, o10, o11, o12, o13⟩)
        go_wp2_with fail
        have hz := hb.size
        have hbW := hb.alloc hz (.cells #[.int .i64 f.num, .int .i64 f.level, .string f.first, .string f.last, .int .i64 f.count, .int .i64 f.size] 51)
        have hgW := Lib.hid ((Below.heap_alloc wr (.cells #[.int .i64 f.num, .int .i64 f.level, .string f.first, .string f.last, .int .i64 f.count, .int .i64 f.size] 51) _ hgl).trans Hg.out)
        have hfW := Lib.hid (heap_alloc_new wr (.cells #[.int .i64 f.num, .int .i64 f.level, .string f.first, .string f.last, .int .i64 f.count, .int .i64 f.size] 51))
        clear x0 x1 x2 x3 c0 c1 c2 c3 c4 c5 o5 o6 o7 o8 o9 o10 o11 o12 o13
        obtain ⟨wo, rfl⟩ : ∃ wo : World, wo = wr := ⟨_, rfl⟩
        go_loopw [5] (fun u wr => ∃ k : Nat, k ≤ i ∧ u = .int .i64 k ∧ (∀ (k' : Nat) (g : File), k' < k → fs[k']? = some g → PairOk g f) ∧
            wr.heap[w.heap.size]? = some (.cells #[.int .i64 lg, .int .i64 nx, .int .i64 sq, .slice (some ad) len cap] 24 (0, 0)) ∧
            wr.heap[wo.heap.size]? = some (.cells #[.int .i64 f.num, .int .i64 f.level, .string f.first, .string f.last, .int .i64 f.count, .int .i64 f.size] 51 (0, 0)) ∧ Below w.heap.size w wr) (fun u _ => i - (intOf u).toNat)
        case atStart => exact ⟨0, Nat.zero_le _, rfl, fun k' g h => by omega, hgW.out, hfW.out, hbW⟩
        case round =>
          obtain ⟨k, hk, rfl, hpk, hg2, hf2, hb2⟩ := hrel
          have Hpk := Lib.hid hpk
          have Hg2 := Lib.hid hg2
          have Hf2 := Lib.hid hf2
          have hgl2 : wo.heap.size < wr.heap.size := (Array.getElem?_eq_some_iff.1 hf2).1
          obtain ⟨x0, x1, x2, x3⟩ := row4' hg2
          obtain ⟨y0, y1, y2, y3, y4, y5⟩ := row6 hf2
          clear hpk hg2 hf2
          by_cases hlk : k < i
          · obtain ⟨ad', g, had, -, hgg, c0, c1, c2, c3, c4, c5⟩ := Hr.out.file hb2 hB (show k < len by omega)
            injection had with had
            subst had
            have Hgg := Lib.hid hgg
            clear hgg
            have Hbad := Lib.hid (show ¬ PairOk g f → ¬ RightP lg nx sq fs from fun h hp => h (hp.2.2.2.2.2.2.2.2 i k f g hlk Hf.out Hgg.out))
            by_cases hne : f.num = g.num
            · have hne' : (f.num == g.num) = true := by simpa using hne
              have Hx := Lib.hid (Hbad.out fun h => h.1 hne)
              clear hne
              go_wp2_with fail
              go_ret
              exact ⟨false, rfl, by simp [Hx.out], (hb2.alloc hb2.size _)⟩
            · have hne' : (f.num == g.num) = false := by simpa using hne
              have Hne := Lib.hid hne
              clear hne
              go_wp2_with fail
              refine (ahead_any g f _).mono ?_
              obtain ⟨ba, hba⟩ : ∃ b, aheadB g f = b := ⟨_, rfl⟩
              rw [hba]
              rintro e w3 ⟨rfl, hb3⟩
              have hb3' := below_of_alloc hb2 hb2.size hb3
              have hg3 := Lib.hid ((hb3.block _ (by simp; omega)).trans ((Below.heap_alloc _ _ _ (by omega)).trans Hg2.out))
              have hf3 := Lib.hid ((hb3.block _ (by simp; omega)).trans ((Below.heap_alloc _ _ _ (by omega)).trans Hf2.out))
              have N := newcell hb3
              have e0 := N 0 _ rfl; have e1 := N 1 _ rfl; have e2 := N 2 _ rfl; have e3 := N 3 _ rfl; have e4 := N 4 _ rfl; have e5 := N 5 _ rfl
              obtain ⟨z0, z1, z2, z3, z4, z5⟩ := row6 hf3.out
              have hz3 : wo.heap.size < w3.heap.size := (Array.getElem?_eq_some_iff.1 hf3.out).1
              clear N hb3 x0 x1 x2 x3 y0 y1 y2 y3 y4 y5 c0 c1 c2 c3 c4 c5
              cases ba
              · have Hx := Lib.hid (Hbad.out fun h => by have := h.2.1; rw [hba] at this; cases this)
                clear hba
                go_wp2_with fail
                go_ret
                exact ⟨false, rfl, by simp [Hx.out], hb3'⟩
              · have Hba := Lib.hid hba
                clear hba
                by_cases hlv : f.level = g.level ∧ 0 < f.level
                · obtain ⟨hl1, hl2⟩ := hlv
                  have hl1' : (f.level == g.level) = true := by simpa using hl1
                  have Hl1 := Lib.hid hl1
                  clear hl1
                  go_wp2_with fail
                  refine (over_any f g _).mono ?_
                  obtain ⟨bo, hbo⟩ : ∃ b, overB f g = b := ⟨_, rfl⟩
                  rw [hbo]
                  rintro e w4 ⟨rfl, hb4⟩
                  cases bo
                  · have Hst := Lib.hid (show PairOk g f from ⟨Hne.out, Hba.out, fun _ _ => hbo⟩)
                    clear hbo
                    go_wp2_with fail
                    go_roundw
                    case rel => exact ⟨k + 1, by omega, by go_num, fun k' g' hk' hg' => by
                      by_cases hkk : k' < k
                      · exact Hpk.out k' g' hkk hg'
                      · obtain rfl : k' = k := by omega
                        have := Hgg.out; rw [hg'] at this; injection this with this; subst this; exact Hst.out, (hb4.block _ (by omega)).trans hg3.out, (hb4.block _ (by omega)).trans hf3.out, hb3'.trans (hb4.mono (by omega))⟩
                    case measure => simp [intOf]; omega
                  · have Hx := Lib.hid (Hbad.out fun h => by have := h.2.2 Hl1.out hl2; rw [hbo] at this; cases this)
                    clear hbo
                    go_wp2_with fail
                    go_ret
                    exact ⟨false, rfl, by simp [Hx.out], hb3'.trans (hb4.mono (by omega))⟩
                · have Hst := Lib.hid (show PairOk g f from ⟨Hne.out, Hba.out, fun a b => absurd ⟨a, b⟩ hlv⟩)
                  have Hlv := Lib.hid hlv
                  clear hlv
                  cases hl1' : (f.level == g.level)
                  · go_wp2_with fail
                    go_roundw
                    case rel => exact ⟨k + 1, by omega, by go_num, fun k' g' hk' hg' => by
                      by_cases hkk : k' < k
                      · exact Hpk.out k' g' hkk hg'
                      · obtain rfl : k' = k := by omega
                        have := Hgg.out; rw [hg'] at this; injection this with this; subst this; exact Hst.out, hg3.out, hf3.out, hb3'⟩
                    case measure => simp [intOf]; omega
                  · have hl2 : ¬ 0 < f.level := fun h => Hlv.out ⟨by simpa using hl1', h⟩
                    go_wp2_with fail
                    go_roundw
                    case rel => exact ⟨k + 1, by omega, by go_num, fun k' g' hk' hg' => by
                      by_cases hkk : k' < k
                      · exact Hpk.out k' g' hkk hg'
                      · obtain rfl : k' = k := by omega
                        have := Hgg.out; rw [hg'] at this; injection this with this; subst this; exact Hst.out, hg3.out, hf3.out, hb3'⟩
                    case measure => simp [intOf]; omega
          · obtain rfl : k = i := by omega
            go_wp2_with fail
            go_roundw
            case rel =>
              refine ⟨k + 1, by omega, by go_num, fun f' hf' => ?_, fun i' k' f' g' hi' hk' hf' hg' => ?_, Hg2.out, hb2⟩
              · rw [List.take_add_one, Hf.out] at hf'
                simp only [List.mem_append, Option.toList_some, List.mem_singleton] at hf'
                rcases hf' with hf' | rfl
                · exact Hok.out f' hf'
                · exact Hfo.out
              · by_cases hii : i' < k
                · exact Hpr.out i' k' f' g' hii hk' hf' hg'
                · obtain rfl : i' = k := by omega
                  have := Hf.out; rw [hf'] at this; injection this with this; subst this
                  exact Hpk.out k' g' hk' hg'
            case measure => simp [intOf]; omega
      · have Hall := Lib.hid (show RightP lg nx sq fs from ⟨l0, l1, n0, n1, s0, s1, by rw [Hlf.out]; exact ln, fun f hf => Hok.out f (by rw [List.take_of_length_le (by rw [Hlf.out]; omega)]; exact hf),
          fun i' k f g hk hf hg => Hpr.out i' k f g (by have := (List.getElem?_eq_some_iff.1 hf).1; rw [Hlf.out] at this; omega) hk hf hg⟩)
        go_wp2_with fail
        go_ret
        exact ⟨true, rfl, by simp [Hall.out], hb⟩
  · have hno : ¬ RightP lg nx sq fs := fun h => hh ⟨h.1, h.2.1, h.2.2.1, h.2.2.2.1, h.2.2.2.2.1, h.2.2.2.2.2.1, by rw [← Hlf.out]; exact h.2.2.2.2.2.2.1⟩
    have Hno := Lib.hid hno
    have fin : ∀ W : World, Below w.heap.size w W → RightSaid lg nx sq fs w (.returned (.bool false)) W := fun W h => ⟨false, rfl, by simp [Hno.out], h⟩
    have Fin := Lib.hid fin
    clear hno fin
    by_cases q0 : 0 ≤ lg
    case neg =>
      have q0' : lg < 0 := by omega
      clear q0 hh
      go_enter Try.func11, Try.ntmps11
      go_wp2_with ((with_reducible refine wpList_tail (o := ⟨some 10, _, _, _, _, _⟩) 162 9 true ?hp ?hn ?h0 ?hq); (case hp => ((conv => lhs; cbv); rfl)); (case hn => rfl); (case h0 => rfl); simp only [mergeP, valOf])
      go_ret
      exact Fin.out _ ((Below.refl _ _).alloc (Nat.le_refl _) _)
    by_cases q1 : lg ≤ 999999
    case neg =>
      have q1' : 999999 < lg := by omega
      clear q1 hh
      go_enter Try.func11, Try.ntmps11
      go_wp2_with ((with_reducible refine wpList_tail (o := ⟨some 15, _, _, _, _, _⟩) 162 14 true ?hp ?hn ?h0 ?hq); (case hp => ((conv => lhs; cbv); rfl)); (case hn => rfl); (case h0 => rfl); simp only [mergeP, valOf])
      go_ret
      exact Fin.out _ ((Below.refl _ _).alloc (Nat.le_refl _) _)
    by_cases q2 : 0 ≤ nx
    case neg =>
      have q2' : nx < 0 := by omega
      clear q2 hh
      go_enter Try.func11, Try.ntmps11
      go_wp2_with ((with_reducible refine wpList_tail (o := ⟨some 20, _, _, _, _, _⟩) 162 19 true ?hp ?hn ?h0 ?hq); (case hp => ((conv => lhs; cbv); rfl)); (case hn => rfl); (case h0 => rfl); simp only [mergeP, valOf])
      go_ret
      exact Fin.out _ ((Below.refl _ _).alloc (Nat.le_refl _) _)
    by_cases q3 : nx ≤ 999999
    case neg =>
      have q3' : 999999 < nx := by omega
      clear q3 hh
      go_enter Try.func11, Try.ntmps11
      go_wp2_with ((with_reducible refine wpList_tail (o := ⟨some 25, _, _, _, _, _⟩) 162 24 true ?hp ?hn ?h0 ?hq); (case hp => ((conv => lhs; cbv); rfl)); (case hn => rfl); (case h0 => rfl); simp only [mergeP, valOf])
      go_ret
      exact Fin.out _ ((Below.refl _ _).alloc (Nat.le_refl _) _)
    by_cases q4 : 0 ≤ sq
    case neg =>
      have q4' : sq < 0 := by omega
      clear q4 hh
      go_enter Try.func11, Try.ntmps11
      go_wp2_with ((with_reducible refine wpList_tail (o := ⟨some 30, _, _, _, _, _⟩) 162 29 true ?hp ?hn ?h0 ?hq); (case hp => ((conv => lhs; cbv); rfl)); (case hn => rfl); (case h0 => rfl); simp only [mergeP, valOf])
      go_ret
      exact Fin.out _ ((Below.refl _ _).alloc (Nat.le_refl _) _)
    by_cases q5 : sq ≤ 4611686018427387904
    case neg =>
      have q5' : 4611686018427387904 < sq := by omega
      clear q5 hh
      go_enter Try.func11, Try.ntmps11
      go_wp2_with ((with_reducible refine wpList_tail (o := ⟨some 35, _, _, _, _, _⟩) 162 34 true ?hp ?hn ?h0 ?hq); (case hp => ((conv => lhs; cbv); rfl)); (case hn => rfl); (case h0 => rfl); simp only [mergeP, valOf])
      go_ret
      exact Fin.out _ ((Below.refl _ _).alloc (Nat.le_refl _) _)
    have q6 : 100 < len := by
      apply Decidable.byContradiction
      intro h
      exact hh ⟨q0, q1, q2, q3, q4, q5, by omega⟩
    clear hh
    go_enter Try.func11, Try.ntmps11
    go_wp2_with fail
    go_ret
    exact Fin.out _ ((Below.refl _ _).alloc (Nat.le_refl _) _)
end Go.Proofs.Ythcimkhnijnmgaa.Lv

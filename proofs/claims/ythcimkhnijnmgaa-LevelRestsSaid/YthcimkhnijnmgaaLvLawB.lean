/-
  The statements' helpers of layer 15: version, told, within, same, SameFiles. Condition: the slices lie within reach.
-/
import Derived.Test.YthcimkhnijnmgaaLvLawA
import Derived.Deep.DeepCutAuto
import Derived.Deep.RegionLaw
namespace Go.Proofs.Ythcimkhnijnmgaa.Lv
open Go.RowKit

theorem infoRF : (Try.prog.info? 51).map (fun i => (i.zero, i.size, i.bytes)) = some (some (.agg #[.int .i64 0, .int .i64 0, .string ByteArray.empty, .string ByteArray.empty, .int .i64 0, .int .i64 0]), 6, 64) := by kernel_rfl

/-- version: the same files in a row of its own. -/
def VersionSaid (lg nx sq : Int) (len : Nat) (fs : List File) (w : World) (e : Ending) (w' : World) : Prop :=
  ∃ A c, e = .returned (.agg #[.int .i64 lg, .int .i64 nx, .int .i64 sq, .slice A len c]) ∧ w'.ownsRow w.heap.size 37 6 (.slice A len c) len (cellsOf fs) ∧ Below w.heap.size w w'
set_option maxHeartbeats 1000000 in
set_option maxRecDepth 100000 in
theorem version_any (B : Nat) (A : Option Addr) (len cap : Nat) (fs : List File) (lg nx sq : Int) (w : World) (hlen : len * 64 ≤ 140737488351232) (hr : Reads w B 6 A len (cellsOf fs)) (hB : B ≤ w.heap.size) :
    Calls Try.prog 6 #[.agg #[.int .i64 lg, .int .i64 nx, .int .i64 sq, .slice A len cap]] w (VersionSaid lg nx sq len fs w) := by
  obtain ⟨i0, hi0, hz0, hz1, hz2⟩ := info_parts info60
  obtain ⟨i1, hi1, hy0, hy1, _⟩ := info_parts infoVer
  have Hlf := Lib.hid (length_of_cells hr)
  have Hr := Lib.hid hr
  clear hr
  go_enter Try.func6, Try.ntmps6
  go_wp2_with fail
  go_loopw [4] (fun i wr => ∃ (k : Nat) (A' : Option Addr) (c' : Nat), k ≤ len ∧ i = .int .i64 k ∧ wr.heap[w.heap.size]? = some (.cells #[.int .i64 lg, .int .i64 nx, .int .i64 sq, .slice A len cap] 24 (0, 0)) ∧
      wr.heap[w.heap.size + 1]? = some (.cells #[.int .i64 0, .int .i64 0, .int .i64 0, .slice none 0 0] 29 (0, 0)) ∧
      wr.heap[w.heap.size + 2]? = some (.cells #[.int .i64 lg, .int .i64 nx, .int .i64 sq, .slice A' k c'] 29 (0, 0)) ∧
      wr.ownsRow (w.heap.size + 3) 37 6 (.slice A' k c') k (cellsOf (fs.take k)) ∧ Below w.heap.size w wr)
    (fun i _ => len - (intOf i).toNat)
  case atStart =>
    refine ⟨0, none, 0, Nat.zero_le _, rfl, ?_, ?_, ?_, World.ownsRow_nil _ _ _ _, (((Below.refl _ _).alloc (Nat.le_refl _) _).alloc (by simp) _).alloc (by simp <;> omega) _⟩
    · exact (Below.heap_alloc _ _ _ (by simp <;> omega)).trans (heap_alloc2_old w _ _)
    · exact (Below.heap_alloc _ _ _ (by simp)).trans (heap_alloc2_new w _ _)
    · have := heap_alloc_new ((w.alloc (.cells #[.int .i64 lg, .int .i64 nx, .int .i64 sq, .slice A len cap] 24)).alloc (.cells #[.int .i64 0, .int .i64 0, .int .i64 0, .slice none 0 0] 29)) (.cells #[.int .i64 lg, .int .i64 nx, .int .i64 sq, .slice none 0 0] 29)
      simpa using this
  case round =>
    obtain ⟨k, A', c', hk, rfl, hg0, hg1, hg2, hown, hb⟩ := hrel
    have hgl : w.heap.size + 2 < wr.heap.size := (Array.getElem?_eq_some_iff.1 hg2).1
    obtain ⟨x0, x1, x2, x3⟩ := row4 hg0
    obtain ⟨y0, y1, y2, y3⟩ := row4 hg2
    have Hg0 := Lib.hid hg0
    have Hg1 := Lib.hid hg1
    have Hg2 := Lib.hid hg2
    clear hg0 hg1 hg2
    by_cases hlt : k < len
    · obtain ⟨ad, f, rfl, hbl, hf, c0, c1, c2, c3, c4, c5⟩ := Hr.out.file hb hB hlt
      have e1 := Lib.hid (show fs.take (k + 1) = fs.take k ++ [f] by rw [List.take_add_one, hf]; rfl)
      clear hf
      have y3f := frozen_of_row wr (w.heap.size + 2) 3 _ _ Hg2.out
      have HK : ∀ W1 : World, Below (w.heap.size + 3) wr W1 → (W1.cell? ⟨w.heap.size + 2, 3, none⟩ = some (.slice A' k c') ∧ W1.frozen? ⟨w.heap.size + 2, 3, none⟩ = false ∧ W1.cell? ⟨w.heap.size, 3, none⟩ = some (.slice (some ad) len cap) ∧
          W1.cell? (ad.add (k * 6)) = some (.int .i64 f.num) ∧ W1.cell? ⟨(ad.add (k * 6)).block, (ad.add (k * 6)).off + 1, none⟩ = some (.int .i64 f.level) ∧
          W1.cell? ⟨(ad.add (k * 6)).block, (ad.add (k * 6)).off + 2, none⟩ = some (.string f.first) ∧ W1.cell? ⟨(ad.add (k * 6)).block, (ad.add (k * 6)).off + 3, none⟩ = some (.string f.last) ∧
          W1.cell? ⟨(ad.add (k * 6)).block, (ad.add (k * 6)).off + 4, none⟩ = some (.int .i64 f.count) ∧ W1.cell? ⟨(ad.add (k * 6)).block, (ad.add (k * 6)).off + 5, none⟩ = some (.int .i64 f.size)) ∧ Below (w.heap.size + 3) wr W1 := fun W1 h => by
        have hbk : (ad.add (k * 6)).block < w.heap.size + 3 := by rw [block_of_add]; omega
        exact ⟨⟨(h.cell (p := ⟨w.heap.size + 2, 3, none⟩) (by simp)).trans y3, (h.frozen (p := ⟨w.heap.size + 2, 3, none⟩) (by simp)).trans y3f, (h.cell (p := ⟨w.heap.size, 3, none⟩) (by simp <;> omega)).trans x3,
          (h.cell hbk).trans c0, (h.cell (p := ⟨_, _, none⟩) hbk).trans c1, (h.cell (p := ⟨_, _, none⟩) hbk).trans c2, (h.cell (p := ⟨_, _, none⟩) hbk).trans c3, (h.cell (p := ⟨_, _, none⟩) hbk).trans c4, (h.cell (p := ⟨_, _, none⟩) hbk).trans c5⟩, h⟩
      have HKK := Lib.hid HK
      clear HK
      go_wp2_with fail
      go_region_law (first | (refine step_append_at (by rfl) _ _ _ (by rfl) (w.heap.size + 3) _ i0 _ 6 64 Try.underlying27 hi0 hz0 hz1 hz2 rfl (by decide) _ _ _ _ (by rfl) (own_drewN (hown.alloc _) 1) wr.heap.size #[.int .i64 f.num, .int .i64 f.level, .string f.first, .string f.last, .int .i64 f.count, .int .i64 f.size] _ (heap_alloc_new wr _) (by rfl) (by rfl) (by simp [Value.oneCell']) (by simp only [maxLen]; omega) (by simp <;> omega) ?_; intro A2 c2 w2 hown2 hb'; have h2 := HKK.out w2 (((((Below.refl _ _).alloc (by omega) _).drewN 1)).trans (hb' _ (Nat.le_refl _))); have e3 : w2.cell? ⟨w.heap.size + 1 + 1, 3, none⟩ = some (.slice A' k c') := h2.1.1; have f3 : w2.frozen? ⟨w.heap.size + 1 + 1, 3, none⟩ = false := h2.1.2.1; have hbb := Lib.hid h2.2; clear h2))
      all_goals
        go_wp2_with fail
        go_roundw
      all_goals first
        | (case rel =>
            refine ⟨k + 1, A2, c2, by omega, by go_num, ?_, ?_, ?_, ?_, ?_⟩
            · exact (Below.heap_setCell _ _ _ _ (by show w.heap.size ≠ w.heap.size + 1 + 1; omega)).trans ((hbb.out.block _ (by omega)).trans Hg0.out)
            · exact (Below.heap_setCell _ _ _ _ (by show w.heap.size + 1 ≠ w.heap.size + 1 + 1; omega)).trans ((hbb.out.block _ (by omega)).trans Hg1.out)
            · exact heap_setCell_same w2 (w.heap.size + 2) 3 _ _ _ ((hbb.out.block _ (by omega)).trans Hg2.out)
            · rw [e1.out, cellsOf_snoc]
              exact ownsRow_setCell_below hown2 (by show w.heap.size + 1 + 1 < w.heap.size + 3; omega) _
            · exact (hb.trans (hbb.out.mono (by omega))).setCell (by show w.heap.size ≤ w.heap.size + 1 + 1; omega) _)
        | (case measure => simp [intOf]; omega)
    · obtain rfl : k = len := by omega
      have e1 := Lib.hid (show fs.take k = fs from List.take_of_length_le (by rw [Hlf.out]; omega))
      have hg1 := Hg1.out
      go_wp2_with (refine wpList_store_row rfl _ (.tmp 2) (.tmp 29) rfl rfl (w.heap.size + 1) 0 rfl #[.int .i64 lg, .int .i64 nx, .int .i64 sq, .slice A' k c'] rfl i1 hi1 hy1 (by simp [Value.oneCell']) _ _ hg1 (by simp) ?_; intro w3 hg3 hgr3 hz3)
      refine bodyPost_ret (results_cell_row rfl _ _ (w.heap.size + 1) 29 #[.int .i64 lg, .int .i64 nx, .int .i64 sq, .slice A' k c'] (0, 0) _ rfl hg3 Try.underlying29 rfl (by rw [hi1]; simp [hy1])) rfl ?_
      rw [e1.out] at hown
      exact ⟨A', c', rfl, (own_base hown (by omega)).kept hgr3 (own_ne_blk hown hg1 (by decide)), hb.grown hgr3 (by omega) (fun k hk => by injection hk with hk; omega)⟩
end Go.Proofs.Ythcimkhnijnmgaa.Lv

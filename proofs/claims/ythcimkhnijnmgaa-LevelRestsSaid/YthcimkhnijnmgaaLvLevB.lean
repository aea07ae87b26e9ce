/-
  level: settings, and a level's task. Condition: the slices lie within reach, the numbers within 62 bits.
-/
import Derived.Test.YthcimkhnijnmgaaLvLevA
import Derived.Lib.MinMax
import Derived.Deep.RegionHeld3
namespace Go.Proofs.Ythcimkhnijnmgaa.Lv
open Go.RowKit

structure Cfg where
  zero : Int
  base : Int
  times : Int
  table : Int
def Cfg.agg (c : Cfg) : Value := .agg #[.int .i64 c.zero, .int .i64 c.base, .int .i64 c.times, .int .i64 c.table]
def clamp (n lo hi : Int) : Int := if n < lo then lo else if hi < n then hi else n
def Cfg.fit (c : Cfg) : Cfg := ⟨clamp c.zero 1 50, clamp c.base 1 1048576, clamp c.times 2 20, clamp c.table 64 262144⟩
theorem clamp_bd (n lo hi : Int) (h : lo ≤ hi) : lo ≤ clamp n lo hi ∧ clamp n lo hi ≤ hi := by unfold clamp; split <;> (try split) <;> omega

set_option maxHeartbeats 400000 in
theorem fit1_any (n lo hi : Int) (h : lo ≤ hi) (w : World) : Calls Try.prog 45 #[.int .i64 n, .int .i64 lo, .int .i64 hi] w fun e w' => e = .returned (.int .i64 (clamp n lo hi)) ∧ w = w' := by
  have hc := Lib.hid (show min (max n lo) hi = clamp n lo hi by unfold clamp; split <;> (try split) <;> omega)
  go_enter Try.func45, Try.ntmps45
  go_wp2
  go_ret
  exact ⟨ret1 (int_eq hc.out), rfl⟩

set_option maxHeartbeats 400000 in
theorem bounds_any (w : World) : Calls Try.prog 44 #[] w fun e w' => e = .returned (.tuple #[.agg #[.int .i64 1, .int .i64 1, .int .i64 2, .int .i64 64], .agg #[.int .i64 50, .int .i64 1048576, .int .i64 20, .int .i64 262144]]) ∧ Below w.heap.size w w' := by
  go_enter Try.func44, Try.ntmps44
  go_wp2
  exact bodyPost_ret (v := .tuple #[.agg #[.int .i64 1, .int .i64 1, .int .i64 2, .int .i64 64], .agg #[.int .i64 50, .int .i64 1048576, .int .i64 20, .int .i64 262144]]) (by simp [results, Try.results44, go_sem]) rfl ⟨rfl, ((Below.refl _ _).alloc (Nat.le_refl _) _).alloc (by simp) _⟩

theorem infoCfg : (Try.prog.info? 50).map (fun i => (i.zero, i.size, i.bytes)) = some (some (.agg #[.int .i64 0, .int .i64 0, .int .i64 0, .int .i64 0]), 4, 32) := by kernel_rfl
theorem row4 {W : World} {g : Nat} {x0 x1 x2 x3 : Value} {t : TypeId} {fr : Nat × Nat} (h : W.heap[g]? = some (.cells #[x0, x1, x2, x3] t fr)) :
    W.cell? ⟨g, 0, none⟩ = some x0 ∧ W.cell? ⟨g, 1, none⟩ = some x1 ∧ W.cell? ⟨g, 2, none⟩ = some x2 ∧ W.cell? ⟨g, 3, none⟩ = some x3 := by
  refine ⟨?_, ?_, ?_, ?_⟩ <;> (rw [cell_of_row _ _ _ _ _ _ h]; rfl)
set_option maxHeartbeats 400000 in
set_option maxRecDepth 100000 in
theorem fitCfg_any (c : Cfg) (w : World) : Calls Try.prog 29 #[c.agg] w fun e w' => e = .returned c.fit.agg ∧ Below w.heap.size w w' := by
  unfold Cfg.agg
  go_enter Try.func29, Try.ntmps29
  go_wp2_with fail
  refine (bounds_any _).mono ?_
  rintro e w1 ⟨rfl, hb1⟩
  have hb0 := below_of_alloc (below_of_alloc (Below.refl _ w) (Nat.le_refl _) (Below.refl _ _)) (by simp) hb1
  have h0 := (hb1.block w.heap.size (by simp; omega)).trans (heap_alloc2_old w _ _)
  have h1 := (hb1.block (w.heap.size + 1) (by simp)).trans (heap_alloc2_new w _ _)
  have hz : w.heap.size + 1 < w1.heap.size := by have := size_of_alloc hb1; simpa using this
  clear hb1
  go_wp2_with fail
  obtain ⟨W, hW⟩ : ∃ W, (w1.alloc (.cells #[.int .i64 1, .int .i64 1, .int .i64 2, .int .i64 64] 50)).alloc (.cells #[.int .i64 50, .int .i64 1048576, .int .i64 20, .int .i64 262144] 50) = W := ⟨_, rfl⟩
  rw [hW]
  have h2 := heap_alloc2_old w1 (.cells #[.int .i64 1, .int .i64 1, .int .i64 2, .int .i64 64] 50) (.cells #[.int .i64 50, .int .i64 1048576, .int .i64 20, .int .i64 262144] 50)
  have h3 := heap_alloc2_new w1 (.cells #[.int .i64 1, .int .i64 1, .int .i64 2, .int .i64 64] 50) (.cells #[.int .i64 50, .int .i64 1048576, .int .i64 20, .int .i64 262144] 50)
  rw [hW] at h2 h3
  have hbW : Below w1.heap.size w1 W := by rw [← hW]; exact ((Below.refl _ _).alloc (Nat.le_refl _) _).alloc (by simp) _
  have h0 := (hbW.block _ (by omega)).trans h0
  have h1 := (hbW.block _ (by omega)).trans h1
  have hz4 := Lib.hid hbW.size
  have hbw := Lib.hid (hb0.trans (hbW.mono (by omega)))
  clear hb0 hbW hW
  have i0 := row4 h0; have i1 := row4 h1; have i2 := row4 h2; have i3 := row4 h3
  obtain ⟨a0, a1, a2, a3⟩ := i0
  obtain ⟨b0, b1, b2, b3⟩ := i2
  obtain ⟨c0, c1, c2, c3⟩ := i3
  clear i1 h0 h2 h3
  have H1 := Lib.hid h1
  clear h1
  go_still_tail 33, (by kernel_rfl)
  still_call (same_right (fit1_any _ _ _ (by decide) _))
  repeat still_step
  still_call (same_right (fit1_any _ _ _ (by decide) _))
  repeat still_step
  still_call (same_right (fit1_any _ _ _ (by decide) _))
  repeat still_step
  still_call (same_right (fit1_any _ _ _ (by decide) _))
  repeat still_step
  refine wpStill_nil ?_
  change wpList _ _ _ _ _ W.drew
  have hd1 := Lib.hid (show W.drew.heap[w.heap.size + 1]? = _ from H1.out)
  obtain ⟨i0, hi0, hz0, hz1, _⟩ := info_parts infoCfg
  clear a0 a1 a2 a3 b0 b1 b2 b3 c0 c1 c2 c3 h0 h1
  go_wp2_with (refine wpList_store_row rfl _ (.tmp 2) (.tmp 42) rfl rfl (w.heap.size + 1) 0 rfl #[.int .i64 (clamp c.zero 1 50), .int .i64 (clamp c.base 1 1048576), .int .i64 (clamp c.times 2 20), .int .i64 (clamp c.table 64 262144)] rfl i0 hi0 hz1 (by simp [Value.oneCell']) _ _ hd1.out (by simp) ?_; intro w3 hg3 hgr3 hz3)
  refine bodyPost_ret (results_cell_row rfl _ _ (w.heap.size + 1) 50 #[.int .i64 (clamp c.zero 1 50), .int .i64 (clamp c.base 1 1048576), .int .i64 (clamp c.times 2 20), .int .i64 (clamp c.table 64 262144)] (0, 0) _ rfl hg3 Try.underlying50 rfl (by rw [hi0]; simp [hz1])) rfl ?_
  have hsz := hz4.out
  exact ⟨rfl, (hbw.out.drewN 1).grown hgr3 (by show w.heap.size ≤ W.heap.size; omega) (fun k hk => by injection hk with hk; omega)⟩
end Go.Proofs.Ythcimkhnijnmgaa.Lv

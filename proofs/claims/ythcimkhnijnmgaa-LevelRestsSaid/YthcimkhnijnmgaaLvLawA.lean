/-
  The statements' own example (awake), and their fit. No condition.
-/
import Derived.Test.YthcimkhnijnmgaaLvLevD
namespace Go.Proofs.Ythcimkhnijnmgaa.Lv
open Go.RowKit

/-- The example's files: 4 first, as many as k. -/
def exF (i : Int) : File := ⟨i, 0, ⟨#[97]⟩, ⟨#[98]⟩, 1, 1⟩
def exTo : Nat → List File
  | 0 => []
  | k + 1 => exTo k ++ [exF (4 - (k : Int))]
theorem exTo_len (k : Nat) : (exTo k).length = k := by
  induction k with
  | zero => rfl
  | succ k ih => simp [exTo, ih]
theorem exTo_mem (k : Nat) (hk : k ≤ 4) : ∀ f ∈ exTo k, 0 ≤ f.num ∧ f.num ≤ 4 ∧ f.level = 0 ∧ f.size = 1 := by
  induction k with
  | zero => simp [exTo]
  | succ k ih =>
    intro f hf
    simp only [exTo, List.mem_append, List.mem_singleton] at hf
    rcases hf with hf | rfl
    · exact ih (by omega) f hf
    · exact ⟨by simp [exF]; omega, by simp [exF]; omega, rfl, rfl⟩
theorem ex_level (n : Int) (hn : n ≠ 0) : (exTo 4).filter (·.level == n) = [] := by
  rw [List.filter_eq_nil_iff]
  intro f hf
  have := (exTo_mem 4 (Nat.le_refl _) f hf).2.2.1
  rw [this]
  simpa using fun h => hn h.symm
theorem ex_zero : (exTo 4).filter (·.level == 0) = exTo 4 := by
  rw [List.filter_eq_self]
  intro f hf
  rw [(exTo_mem 4 (Nat.le_refl _) f hf).2.2.1]
  rfl
theorem ex_pick : (pickTo (exTo 4) (Cfg.fit ⟨4, 1, 2, 64⟩) 4).1 = 0 := by
  have h0 : scoreN (exTo 4) 0 = 4 := by unfold scoreN; rw [if_pos rfl]; show (((exTo 4).filter (·.level == 0)).length : Int) = 4; rw [ex_zero]; rfl
  have hk : ∀ k : Int, 1 ≤ k → scoreN (exTo 4) k = 0 := fun k hk => by
    unfold scoreN
    rw [if_neg (by omega)]
    show sumSize ((exTo 4).filter (·.level == k)) = 0
    rw [ex_level _ (by omega)]
    rfl
  have h1 := hk 1 (by omega)
  have h2 := hk 2 (by omega)
  have h3 := hk 3 (by omega)
  have m0 : scoreM (Cfg.fit ⟨4, 1, 2, 64⟩) 0 = 4 := by decide
  have m1 : scoreM (Cfg.fit ⟨4, 1, 2, 64⟩) 1 = 1 := by decide
  have m2 : scoreM (Cfg.fit ⟨4, 1, 2, 64⟩) 2 = 2 := by decide
  have m3 : scoreM (Cfg.fit ⟨4, 1, 2, 64⟩) 3 = 4 := by decide
  simp [pickTo, pickStep, h0, h1, h2, h3, m0, m1, m2, m3]
theorem ex_from : takeFrom (exTo 4) 0 = exTo 4 := by
  unfold takeFrom
  rw [if_neg (by decide), ex_zero]
  rfl
theorem ex_into : takeInto (exTo 4) 0 = [] := by
  unfold takeInto
  rw [ex_from]
  show withinS (exTo 4) (0 + 1) _ _ = []
  unfold withinS
  rw [ex_level (0 + 1) (by decide)]
  rfl

theorem infoVer : (Try.prog.info? 29).map (fun i => (i.zero, i.size, i.bytes)) = some (some (.agg #[.int .i64 0, .int .i64 0, .int .i64 0, .slice none 0 0]), 4, 48) := by kernel_rfl
set_option maxHeartbeats 800000 in
set_option maxRecDepth 100000 in
theorem awake_any (w : World) : Calls Try.prog 5 #[] w fun e w' => e = .returned (.bool true) ∧ Below w.heap.size w w' := by
  obtain ⟨i0, hi0, hz0, hz1, hz2⟩ := info_parts info60
  go_enter Try.func5, Try.ntmps5
  go_wp2_with fail
  go_loopw [2] (fun i wr => ∃ (k : Nat) (A : Option Addr) (c : Nat), k ≤ 4 ∧ i = .int .i64 (4 - (k : Int)) ∧ wr.heap[w.heap.size]? = some (.cells #[.int .i64 0, .int .i64 9, .int .i64 0, .slice A k c] 29 (0, 0)) ∧ wr.ownsRow (w.heap.size + 1) 37 6 (.slice A k c) k (cellsOf (exTo k)) ∧ Below w.heap.size w wr)
    (fun i _ => (intOf i).toNat)
  case atStart => exact ⟨0, none, 0, by omega, rfl, heap_alloc_new w _, World.ownsRow_nil _ _ _ _, (Below.refl _ _).alloc (Nat.le_refl _) _⟩
  case round =>
    obtain ⟨k, A, c, hk, rfl, hg, hown, hb⟩ := hrel
    obtain ⟨b0, b1, b2, b3⟩ := row4 hg
    have hlt : w.heap.size < wr.heap.size := (Array.getElem?_eq_some_iff.1 hg).1
    have Hg := Lib.hid hg
    clear hg
    by_cases h4 : k < 4
    · have hkk := Lib.hid (show exTo (k + 1) = exTo k ++ [exF (4 - (k : Int))] from rfl)
      go_wp2_with (at_builtin; refine wpList_append_one rfl (.tmp 11) (.tmp 14) _ rfl (w.heap.size + 1) _ i0 _ 6 64 Try.underlying27 hi0 hz0 hz1 hz2 rfl (by decide) wr #[.int .i64 (4 - (k : Int)), .int .i64 0, .string ⟨#[97]⟩, .string ⟨#[98]⟩, .int .i64 1, .int .i64 1] _ _ _ rfl hown _ rfl rfl rfl (by simp [Value.oneCell']) (by simp only [maxLen]; omega) (by omega) ?_; intro v' w' hown' hb' hz'; obtain ⟨A', c', rfl, -⟩ := reads_own hown'; have hbs := hb' (w.heap.size + 1) wr (Nat.le_refl _) (Below.refl _ _); have hg' := (hbs.block w.heap.size (by omega)).trans Hg.out; obtain ⟨e0, e1, e2, e3⟩ := row4 hg'; have f3 := frozen_of_row w' w.heap.size 3 _ _ hg')
      go_roundw
      case rel =>
        refine ⟨k + 1, A', c', by omega, by go_num, ?_, ?_, ?_⟩
        · exact heap_setCell_same w' w.heap.size 3 _ _ _ hg'
        · rw [hkk.out, cellsOf_snoc]
          exact ownsRow_setCell_below hown' (by simp) _
        · exact (hb.trans (hbs.mono (by omega))).setCell (by simp) _
      case measure => simp [intOf]; omega
    · obtain rfl : k = 4 := by omega
      go_wp2_with fail
      refine (pick_any _ A 4 c (exTo 4) ⟨4, 1, 2, 64⟩ 0 9 0 _ (by omega) (Reads.of_own hown) (Nat.le_refl _) (fun f hf => by have := exTo_mem 4 (Nat.le_refl _) f hf; omega) (fun f hf => by have := exTo_mem 4 (Nat.le_refl _) f hf; omega)).mono ?_
      rw [ex_pick]
      rintro e w5 ⟨hT, hb5⟩
      rcases hT with ⟨hnil, -⟩ | ⟨hne, va, vb, rfl, hva, hvb⟩
      · rw [ex_from] at hnil
        exact absurd hnil (by simp [exTo])
      · rw [ex_from, exTo_len] at hva
        rw [ex_into] at hvb ⊢
        obtain ⟨Aa, ca, rfl, -⟩ := reads_own hva
        obtain ⟨Ab, cb, rfl, -⟩ := reads_own hvb
        have hbw := Lib.hid (hb.trans (hb5.mono (by omega)))
        have hz5 := hbw.out.size
        clear hva hvb hne hb5 b0 b1 b2 b3 hown
        go_wp2_with fail
        go_ret
        exact ⟨by simp, hbw.out.alloc hz5 _⟩
end Go.Proofs.Ythcimkhnijnmgaa.Lv


/-
  edit.File as data; the files of a level (edit.Level). No condition but that the slice lies within reach.
-/
import Derived.Test.YthcimkhnijnmgaaRows
import Derived.Test.YthcimkhnijnmgaaWords
import Derived.Handy
namespace Go.Proofs.Ythcimkhnijnmgaa.Lv
open Go.RowKit

structure File where
  num : Int
  level : Int
  first : ByteArray
  last : ByteArray
  count : Int
  size : Int

def File.cells (f : File) : List Value := [.int .i64 f.num, .int .i64 f.level, .string f.first, .string f.last, .int .i64 f.count, .int .i64 f.size]
def cellsOf (fs : List File) : List Value := fs.flatMap File.cells

theorem length_cellsOf (fs : List File) : (cellsOf fs).length = fs.length * 6 := by
  unfold cellsOf
  induction fs with
  | nil => rfl
  | cons f fs ih => simp only [List.flatMap_cons, List.length_append, ih, List.length_cons]; simp [File.cells]; omega
theorem get_cellsOf (fs : List File) (k : Nat) (f : File) (h : fs[k]? = some f) (j : Nat) (hj : j < 6) : (cellsOf fs)[k * 6 + j]? = f.cells[j]? := by
  unfold cellsOf
  induction fs generalizing k with
  | nil => simp at h
  | cons g fs ih =>
    rw [List.flatMap_cons]
    match k with
    | 0 =>
      simp only [List.getElem?_cons_zero, Option.some.injEq] at h
      subst h
      rw [Nat.zero_mul, Nat.zero_add, List.getElem?_append_left (by simp [File.cells]; omega)]
    | k + 1 =>
      simp only [List.getElem?_cons_succ] at h
      rw [List.getElem?_append_right (by simp [File.cells]; omega), ← ih k h]
      congr 1
      simp [File.cells]; omega
theorem length_of_cells {w : World} {B n : Nat} {A : Option Addr} {fs : List File} (h : Reads w B 6 A n (cellsOf fs)) : fs.length = n := by
  have h1 := h.1
  rw [length_cellsOf] at h1
  omega
theorem off_add (a : Addr) (n j : Nat) (hj : 0 < j) : a.add (n + j) = ⟨(a.add n).block, (a.add n).off + j, none⟩ := by
  unfold Addr.add
  by_cases h : n = 0
  · subst h; rw [if_neg (by omega)]; simp
  · rw [if_neg (by omega), if_neg h]; simp [Nat.add_assoc]
/-- The cells of one file of a slice, as the walk spells their addresses. -/
theorem _root_.Go.Proofs.Ythcimkhnijnmgaa.Reads.file {w wr : World} {B B' n k : Nat} {A : Option Addr} {fs : List File} (h : Reads w B 6 A n (cellsOf fs)) (hb : Below B' w wr) (hB : B ≤ B') (hk : k < n) :
    ∃ ad f, A = some ad ∧ ad.block < B ∧ fs[k]? = some f ∧ wr.cell? (ad.add (k * 6)) = some (.int .i64 f.num) ∧ wr.cell? ⟨(ad.add (k * 6)).block, (ad.add (k * 6)).off + 1, none⟩ = some (.int .i64 f.level) ∧
      wr.cell? ⟨(ad.add (k * 6)).block, (ad.add (k * 6)).off + 2, none⟩ = some (.string f.first) ∧ wr.cell? ⟨(ad.add (k * 6)).block, (ad.add (k * 6)).off + 3, none⟩ = some (.string f.last) ∧
      wr.cell? ⟨(ad.add (k * 6)).block, (ad.add (k * 6)).off + 4, none⟩ = some (.int .i64 f.count) ∧ wr.cell? ⟨(ad.add (k * 6)).block, (ad.add (k * 6)).off + 5, none⟩ = some (.int .i64 f.size) := by
  obtain ⟨ad, rfl, hbl, hc⟩ := h.2 (by omega)
  have hl := length_of_cells h
  have hf : fs[k]? = some fs[k] := List.getElem?_eq_getElem (by omega)
  have hat : ∀ (j : Nat) (u : Value), j < 6 → fs[k].cells[j]? = some u → wr.cell? (ad.add (k * 6 + j)) = some u := fun j u hj hu =>
    (hb.cell (by rw [block_of_add]; omega)).trans (hc _ _ (by rw [get_cellsOf fs k _ hf j hj]; exact hu))
  refine ⟨ad, fs[k], rfl, hbl, hf, hat 0 _ (by omega) rfl, ?_, ?_, ?_, ?_, ?_⟩
  · rw [← off_add _ _ _ (by omega)]; exact hat 1 _ (by omega) rfl
  · rw [← off_add _ _ _ (by omega)]; exact hat 2 _ (by omega) rfl
  · rw [← off_add _ _ _ (by omega)]; exact hat 3 _ (by omega) rfl
  · rw [← off_add _ _ _ (by omega)]; exact hat 4 _ (by omega) rfl
  · rw [← off_add _ _ _ (by omega)]; exact hat 5 _ (by omega) rfl

theorem info60 : (Try.prog.info? 37).map (fun i => (i.zero, i.size, i.bytes)) = some (some (.agg #[.int .i64 0, .int .i64 0, .string ByteArray.empty, .string ByteArray.empty, .int .i64 0, .int .i64 0]), 6, 64) := by kernel_rfl

theorem filter_hit {α : Type} (p : α → Bool) (l : List α) (k : Nat) (x : α) (h : l[k]? = some x) (hp : p x = true) : (l.take (k + 1)).filter p = (l.take k).filter p ++ [x] := by
  rw [List.take_add_one, h, List.filter_append]; simp [hp]
theorem filter_miss {α : Type} (p : α → Bool) (l : List α) (k : Nat) (x : α) (h : l[k]? = some x) (hp : p x = false) : (l.take (k + 1)).filter p = (l.take k).filter p := by
  rw [List.take_add_one, h, List.filter_append]; simp [hp]
theorem cellsOf_snoc (l : List File) (f : File) : cellsOf (l ++ [f]) = cellsOf l ++ f.cells := by simp [cellsOf]

set_option maxHeartbeats 400000 in
set_option maxRecDepth 100000 in
theorem level_any (A : Option Addr) (len cap : Nat) (fs : List File) (lg nx sq n : Int) (w : World) (hlen : len * 64 ≤ 140737488351232) (hr : Reads w w.heap.size 6 A len (cellsOf fs)) :
    Calls Try.prog 13 #[.agg #[.int .i64 lg, .int .i64 nx, .int .i64 sq, .slice A len cap], .int .i64 n] w fun e w' =>
      ∃ v, e = .returned v ∧ w'.ownsRow w.heap.size 37 6 v (fs.filter (·.level == n)).length (cellsOf (fs.filter (·.level == n))) ∧ Below w.heap.size w w' := by
  obtain ⟨i0, hi0, hz0, hz1, hz2⟩ := info_parts info60
  go_enter Try.func13, Try.ntmps13
  go_wp2_with fail
  go_loopw [5, 11] (fun v i wr => ∃ k : Nat, k ≤ len ∧ i = .int .i64 k ∧ wr.ownsRow w.heap.size 37 6 v ((fs.take k).filter (·.level == n)).length (cellsOf ((fs.take k).filter (·.level == n))) ∧ Below w.heap.size w wr)
    (fun _ i _ => len - (intOf i).toNat)
  case atStart => exact ⟨0, Nat.zero_le _, rfl, World.ownsRow_nil _ _ _ _, (Below.refl _ _).alloc (Nat.le_refl _) _⟩
  case round =>
    obtain ⟨k, hk, rfl, hown, hb⟩ := hrel
    have hlf := length_of_cells hr
    by_cases hlt : k < len
    · obtain ⟨ad, f, rfl, hbl, hf, c0, c1, c2, c3, c4, c5⟩ := hr.file hb (Nat.le_refl _) hlt
      have hm : ((fs.take k).filter (·.level == n)).length ≤ k := Nat.le_trans (List.length_filter_le _ _) (List.length_take_le _ _)
      have hz := hb.size
      cases hn : (f.level == n)
      · have e1 := Lib.hid (filter_miss (·.level == n) fs k f hf hn)
        clear hf hlf
        go_wp2_with fail
        go_roundw
        case rel => exact ⟨k + 1, by omega, by go_num, by rw [e1.out]; exact hown.alloc _, hb.alloc hz _⟩
        case measure => simp [intOf]; omega
      · have e1 := Lib.hid (filter_hit (·.level == n) fs k f hf hn)
        clear hf hlf
        go_wp2_with (at_builtin; refine wpList_append_one rfl (.tmp 19) (.tmp 21) _ rfl w.heap.size _ i0 _ 6 64 Try.underlying27 hi0 hz0 hz1 hz2 rfl (by decide) (wr.alloc _) #[.int .i64 f.num, .int .i64 f.level, .string f.first, .string f.last, .int .i64 f.count, .int .i64 f.size] _ _ _ rfl (hown.alloc _) _ (by simp) rfl rfl (by simp [Value.oneCell']) (by simp only [maxLen]; omega) (by simp; omega) ?_; intro v' w' hown' hb' hz')
        go_roundw
        case rel => exact ⟨k + 1, by omega, by go_num, by rw [e1.out, List.length_append, cellsOf_snoc]; exact hown', hb' _ _ (Nat.le_refl _) (hb.alloc hz _)⟩
        case measure => simp [intOf]; omega
    · have hkl : k = len := by omega
      have e1 := Lib.hid (show (fs.take k) = fs from List.take_of_length_le (by omega))
      clear hkl hlf
      go_wp2_with fail
      go_ret
      rw [e1.out] at hown
      exact ⟨_, rfl, hown, hb⟩
end Go.Proofs.Ythcimkhnijnmgaa.Lv

/-
  slices.MinFunc at edit.File by the files' numbers. Condition: the numbers lie within 62 bits.
-/
import Derived.Test.YthcimkhnijnmgaaLvSlices
import Derived.StillTailTactics
namespace Go.Proofs.Ythcimkhnijnmgaa.Lv
open Go.RowKit

set_option maxHeartbeats 400000 in
set_option maxRecDepth 100000 in
theorem byNum_any (a b : File) (w : World) (ha0 : 0 ≤ a.num) (ha : a.num ≤ 4611686018427387904) (hb0 : 0 ≤ b.num) (hb : b.num ≤ 4611686018427387904) :
    Calls Try.prog 15 #[a.agg, b.agg] w fun e w' => e = .returned (.int .i64 (a.num - b.num)) ∧ Below w.heap.size w w' := by
  unfold File.agg
  go_enter Try.func15, Try.ntmps15
  go_wp2
  go_ret
  exact ⟨rfl, ((Below.refl _ _).alloc (Nat.le_refl _) _).alloc (by simp) _⟩

/-- The first file of the least number. -/
def minBy (f : File) (l : List File) : File := l.foldl (fun m x => if x.num < m.num then x else m) f

theorem minBy_snoc (f : File) (l : List File) (x : File) : minBy f (l ++ [x]) = if x.num < (minBy f l).num then x else minBy f l := by unfold minBy; rw [List.foldl_append]; rfl
theorem minBy_mem (f : File) (l : List File) (n : Nat) : minBy f (l.take n) ∈ f :: l := by
  have h : ∀ (l : List File) (g : File), minBy g l = g ∨ minBy g l ∈ l := by
    intro l
    induction l with
    | nil => intro g; exact .inl rfl
    | cons x l ih =>
      intro g
      rcases ih (if x.num < g.num then x else g) with h | h
      · show minBy _ l = g ∨ _
        by_cases hx : x.num < g.num
        · right; rw [show minBy g (x :: l) = minBy (if x.num < g.num then x else g) l from rfl, h, if_pos hx]; exact List.mem_cons_self
        · left; rw [h, if_neg hx]
      · exact .inr (List.mem_cons_of_mem _ h)
  rcases h (l.take n) f with h | h
  · rw [h]; exact List.mem_cons_self
  · exact List.mem_cons_of_mem _ (List.mem_of_mem_take h)
set_option maxHeartbeats 400000 in
set_option maxRecDepth 100000 in
theorem minFunc_any (B : Nat) (A : Option Addr) (len cap : Nat) (f0 : File) (fs : List File) (w : World) (hlen : len * 64 ≤ 140737488351232) (hr : Reads w B 6 A len (cellsOf (f0 :: fs))) (hB : B ≤ w.heap.size)
    (hnum : ∀ f ∈ f0 :: fs, 0 ≤ f.num ∧ f.num ≤ 4611686018427387904) :
    Calls Try.prog 14 #[.slice A len cap, .func (.func 15) #[] #[]] w fun e w' =>
      e = .returned (minBy f0 fs).agg ∧ Below w.heap.size w w' := by
  have hlf := length_of_cells hr
  simp only [List.length_cons] at hlf
  obtain ⟨ad, f, rfl, hbl, hf, c0, c1, c2, c3, c4, c5⟩ := hr.file (Below.refl B w) (Nat.le_refl _) (show 0 < len by omega)
  simp only [List.getElem?_cons_zero, Option.some.injEq] at hf
  subst hf
  simp only [Nat.zero_mul, Addr.add, if_true] at c0 c1 c2 c3 c4 c5
  have hl1 : decide ((len : Int) < 1) = false := by simp; omega
  have hbs : ad.block < w.heap.size := by omega
  have c0' : ∀ o, (w.alloc o).cell? ad = some (.int .i64 f0.num) := fun o => (World.cell?_alloc_lt w o ad hbs).trans c0
  have Hn := Lib.hid hnum
  clear hnum
  go_enter Try.func14, Try.ntmps14
  go_wp2_with fail
  go_loopw [6] (fun i wr => ∃ (k : Nat) (m : File), 1 ≤ k ∧ k ≤ len ∧ i = .int .i64 k ∧ m = minBy f0 (fs.take (k - 1)) ∧ wr.heap[w.heap.size + 1]? = some (.cells #[.int .i64 m.num, .int .i64 m.level, .string m.first, .string m.last, .int .i64 m.count, .int .i64 m.size] 37 (0, 0)) ∧ w.heap.size + 1 < wr.heap.size ∧
      wr.heap[w.heap.size]? = some (.cells #[.int .i64 0, .int .i64 0, .string { data := #[] }, .string { data := #[] }, .int .i64 0, .int .i64 0] 37 (0, 0)) ∧ Below w.heap.size w wr)
    (fun i _ => len - (intOf i).toNat)
  case atStart =>
    refine ⟨1, f0, by omega, by omega, by go_num, by simp [minBy], ?_, by simp, ?_, ((Below.refl _ _).alloc (Nat.le_refl _) _).alloc (by simp) _⟩
    · exact heap_alloc2_new w _ _
    · exact heap_alloc2_old w _ _
  case round =>
    obtain ⟨k, m, hk1, hk, rfl, hm, hblk, hz, hblk0, hb⟩ := hrel
    have Hm := Lib.hid hm
    have Hblk := Lib.hid hblk
    have Hblk0 := Lib.hid hblk0
    clear hm c0' c0 c1 c2 c3 c4 c5
    have N : ∀ j u, (#[.int .i64 m.num, .int .i64 m.level, .string m.first, .string m.last, .int .i64 m.count, .int .i64 m.size] : Array Value)[j]? = some u → wr.cell? ⟨w.heap.size + 1, j, none⟩ = some u := fun j u hu => by rw [cell_of_row _ _ _ _ _ _ hblk]; exact hu
    have e0 := N 0 _ rfl; have e1 := N 1 _ rfl; have e2 := N 2 _ rfl; have e3 := N 3 _ rfl; have e4 := N 4 _ rfl; have e5 := N 5 _ rfl
    clear N hblk hblk0
    by_cases hlt : k < len
    · obtain ⟨ad', f, had, -, hf, c0, c1, c2, c3, c4, c5⟩ := hr.file hb hB hlt
      injection had with had
      subst had
      have hfm := Hn.out f (List.mem_of_getElem? hf)
      have hmm : m ∈ f0 :: fs := by rw [Hm.out]; exact minBy_mem f0 _ _
      have hmn := Hn.out m hmm
      have Hf := Lib.hid hf
      clear hf hlf hmm
      go_wp2_with fail
      go_still_tail 6, (by kernel_rfl)
      change wpList _ _ _ _ _ wr.drew
      go_wp2_with fail
      refine (byNum_any f m _ hfm.1 hfm.2 hmn.1 hmn.2).mono ?_
      rintro e w2 ⟨rfl, hb2⟩
      have hrow2 := (hb2.block (w.heap.size + 1) (by simpa using hz)).trans Hblk.out
      have hrow0 := (hb2.block w.heap.size (by simp; omega)).trans Hblk0.out
      have hz2 := hb2.size
      have hbw2 := (hb.drewN 1).trans (hb2.mono (by simpa using hb.size))
      obtain ⟨ad', f', had, -, hf, d0, d1, d2, d3, d4, d5⟩ := hr.file hbw2 hB hlt
      injection had with had
      subst had
      obtain rfl : f = f' := by have := Hf.out; rw [hf] at this; injection this with this; exact this.symm
      have hs1 : (f0 :: fs)[k]? = fs[k - 1]? := by obtain ⟨k', rfl⟩ : ∃ k', k = k' + 1 := ⟨k - 1, by omega⟩; simp
      have hfs : fs[k - 1]? = some f := by rw [← hs1]; exact hf
      have hsn : minBy f0 (fs.take (k + 1 - 1)) = if f.num < m.num then f else m := by rw [show k + 1 - 1 = (k - 1) + 1 by omega, List.take_add_one, hfs, Hm.out]; exact minBy_snoc _ _ _
      have Hsn := Lib.hid hsn
      have hz2' : w.heap.size + 1 < w2.heap.size := by simp at hz2; omega
      clear hb2 hf hs1 hfs hsn hfm hmn c0 c1 c2 c3 c4 c5 e0 e1 e2 e3 e4 e5 hb hz hz2 Hf Hm Hn
      have Hr0 := Lib.hid hrow0
      have Hr2 := Lib.hid hrow2
      clear hrow0 hrow2
      by_cases hlt2 : f.num < m.num
      · have hdec : f.num - m.num < 0 := by omega
        have hrow2 := Hr2.out
        obtain ⟨i0, hi0, hz0, hz1, _⟩ := info_parts info60
        go_wp2_with (refine wpList_store_row rfl _ (.tmp 5) (.tmp 31) rfl rfl (w.heap.size + 1) 0 rfl #[.int .i64 f.num, .int .i64 f.level, .string f.first, .string f.last, .int .i64 f.count, .int .i64 f.size] rfl i0 hi0 hz1 f.oneCells _ _ hrow2 (by simp) ?_; intro w3 hg3 hgr3 hz3)
        go_roundw
        case rel =>
          refine ⟨k + 1, f, by omega, by omega, by go_num, ?_, hg3, by omega, ?_, ?_⟩
          · rw [Hsn.out, if_pos hlt2]
          · exact (hgr3.block _ (by omega) (by simp)).trans Hr0.out
          · exact hbw2.grown hgr3 (by have := hbw2.size; omega) (fun k hk => by injection hk with hk; omega)
        case measure => simp [intOf]; omega
      · have hdec : ¬ f.num - m.num < 0 := by omega
        go_wp2_with fail
        go_roundw
        case rel => exact ⟨k + 1, m, by omega, by omega, by go_num, by rw [Hsn.out, if_neg (by omega)], Hr2.out, by omega, Hr0.out, hbw2⟩
        case measure => simp [intOf]; omega
    · have hlast : m = minBy f0 fs := by rw [Hm.out, List.take_of_length_le (by omega)]
      have Hl := Lib.hid hlast
      have hrow0 := Hblk0.out
      obtain ⟨i0, hi0, hz0, hz1, _⟩ := info_parts info60
      clear hlast hlf Hm Hn
      go_wp2_with (refine wpList_store_row rfl _ (.tmp 4) (.tmp 32) rfl rfl w.heap.size 0 rfl #[.int .i64 m.num, .int .i64 m.level, .string m.first, .string m.last, .int .i64 m.count, .int .i64 m.size] rfl i0 hi0 hz1 m.oneCells _ _ hrow0 (by simp) ?_; intro w3 hg3 hgr3 hz3)
      refine bodyPost_ret (results_cell_row rfl _ _ w.heap.size 37 #[.int .i64 m.num, .int .i64 m.level, .string m.first, .string m.last, .int .i64 m.count, .int .i64 m.size] (0, 0) _ rfl hg3 Try.underlying37 rfl (by rw [hi0]; simp [hz1])) rfl ?_
      rw [← Hl.out]
      exact ⟨rfl, hb.grown hgr3 (by omega) (fun k hk => by injection hk with hk; omega)⟩
end Go.Proofs.Ythcimkhnijnmgaa.Lv

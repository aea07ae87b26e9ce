/-
  LevelRests: what is taken, as one file of its span on the next level, is right: plain. No condition.
-/
import Derived.Test.YthcimkhnijnmgaaRstA
import Derived.Test.YthcimkhnijnmgaaLvGreat
import Derived.Test.YthcimkhnijnmgaaLvLawB
namespace Go.Proofs.Ythcimkhnijnmgaa
open Go.RowKit

/-- A file, its texts as lists. -/
def flOf (f : Lv.File) : Fl := ⟨f.num, f.level, bytesOf f.first, bytesOf f.last, f.count, f.size⟩
theorem cells_fl (fs : List Lv.File) : Lv.cellsOf fs = fcs (fs.map flOf) := by
  unfold Lv.cellsOf fcs
  rw [List.flatMap_map]
  congr 1
  funext f
  simp [Lv.File.cells, flOf, strOf_bytesOf]
theorem flOf_ok (f : Lv.File) : (flOf f).ok := ⟨bytesOf_lt _, bytesOf_lt _⟩
theorem ltB_fl (a b : ByteArray) : ltB (bytesOf a) (bytesOf b) = Op.bytesLess a.toList b.toList := by unfold ltB; rw [strOf_bytesOf, strOf_bytesOf]
theorem bytesOf_len (a : ByteArray) : (bytesOf a).length = a.size := by rw [← strOf_size, strOf_bytesOf]
/-- A list of files that a right version may have. -/
structure GoodP (nx : Int) (l : List Fl) : Prop where
  may : ∀ f ∈ l, mayB f = true ∧ f.num < nx
  pair : l.Pairwise fun g f => ltF g f ∧ clashB f g = false
theorem good_files {nx : Int} {l : List Fl} (h : GoodP nx l) : ∀ k, k ≤ l.length → rightFiles nx k l = true
  | 0, _ => rfl
  | k + 1, hk => by
    obtain ⟨f, hf⟩ : ∃ f, l[k]? = some f := ⟨_, List.getElem?_eq_getElem (show k < l.length by omega)⟩
    have hfm := h.may f (List.mem_of_getElem? hf)
    have hp := List.pairwise_iff_getElem.1 h.pair
    have hfe : l[k] = f := (List.getElem?_eq_some_iff.1 hf).2
    rw [rightFiles_succ hf, good_files h k (by omega), Bool.true_and, Bool.and_eq_true]
    constructor
    · unfold goodB
      rw [hfm.1, decide_eq_true hfm.2]
      by_cases h0 : k = 0
      · rw [if_pos h0]; rfl
      · rw [if_neg h0, List.getElem?_eq_getElem (show k - 1 < l.length by omega)]
        have := (hp (k - 1) k (by omega) (by omega) (by omega)).1
        rw [hfe] at this
        have this : ordB l[k - 1] f < 0 := this
        simpa using this
    · rw [Bool.not_eq_true', List.any_eq_false]
      intro g hg
      obtain ⟨i, hi, hig⟩ := List.getElem_of_mem hg
      rw [List.length_take] at hi
      rw [List.getElem_take] at hig
      have := (hp i k (by omega) (by omega) (by omega)).2
      rw [hfe, hig] at this
      rw [this]
      simp
theorem good_right {lg nx sq : Int} {l : List Fl} (h : GoodP nx l) (h1 : 0 ≤ lg ∧ lg ≤ 999999) (h2 : 0 ≤ nx ∧ nx ≤ 999999) (h3 : 0 ≤ sq ∧ sq ≤ 4611686018427387904) (h4 : l.length ≤ 100) : rightB lg nx sq l = true := by
  unfold rightB
  rw [good_files h _ (Nat.le_refl _)]
  simp only [Bool.and_eq_true, decide_eq_true_eq]
  exact ⟨⟨⟨⟨h1, h2⟩, h3⟩, h4⟩, trivial⟩
theorem ahead_lt {a b : Lv.File} (h : Lv.aheadB a b = true) : ltF (flOf a) (flOf b) := by
  rw [ltF_iff]
  unfold Lv.aheadB at h
  unfold flOf
  dsimp only
  by_cases h1 : a.level = b.level
  · rw [if_pos h1] at h
    by_cases h2 : a.level = 0
    · rw [if_pos h2, decide_eq_true_eq] at h
      exact .inr ⟨h1, .inl ⟨h2, h⟩⟩
    · rw [if_neg h2] at h
      exact .inr ⟨h1, .inr ⟨h2, by rw [ltB_fl]; exact h⟩⟩
  · rw [if_neg h1, decide_eq_true_eq] at h
    exact .inl h
theorem over_fl (a b : Lv.File) : ovB (flOf a) (flOf b) = Lv.overB a b := by
  unfold ovB Lv.overB flOf
  rw [ltB_fl, ltB_fl]
theorem eqS_fl (a b : ByteArray) : eqS (bytesOf a) (bytesOf b) = (a.toList == b.toList) := by unfold eqS; rw [strOf_bytesOf, strOf_bytesOf]
theorem may_fl {nx : Int} {f : Lv.File} (h : Lv.FileOk nx f) (hnx : nx ≤ 999999) : mayB (flOf f) = true ∧ (flOf f).num < nx := by
  obtain ⟨h1, h2, h3, h4, h5, h6, h7, h8, h9, h10, h11, h12, h13⟩ := h
  refine ⟨?_, h2⟩
  unfold mayB leB flOf
  dsimp only
  rw [ltB_fl, eqS_fl, bytesOf_len, bytesOf_len]
  simp only [Bool.and_eq_true, decide_eq_true_eq, Bool.or_eq_true]
  refine ⟨⟨⟨⟨⟨⟨⟨⟨⟨⟨h1, by omega⟩, h3⟩, h4⟩, ⟨by omega, by omega⟩⟩, ⟨by omega, by omega⟩⟩, ?_⟩, h10⟩, h11⟩, h12⟩, h13⟩
  cases e1 : Op.bytesLess f.first.toList f.last.toList with
  | true => exact .inl rfl
  | false =>
    right
    rw [e1] at h9
    simpa using h9
theorem right_good {lg nx sq : Int} {fs : List Lv.File} (h : Lv.RightP lg nx sq fs) : GoodP nx (fs.map flOf) := by
  obtain ⟨-, -, -, hnx, -, -, -, hF, hP⟩ := h
  constructor
  · intro f hf
    obtain ⟨g, hg, rfl⟩ := List.mem_map.1 hf
    exact may_fl (hF g hg) hnx
  · rw [List.pairwise_map, List.pairwise_iff_getElem]
    intro i j hi hj hij
    obtain ⟨q1, q2, q3⟩ := hP j i fs[j] fs[i] hij (List.getElem?_eq_getElem hj) (List.getElem?_eq_getElem hi)
    refine ⟨ahead_lt q2, ?_⟩
    unfold clashB
    rw [Bool.or_eq_false_iff, over_fl]
    refine ⟨decide_eq_false q1, ?_⟩
    by_cases h1 : fs[j].level = fs[i].level
    · by_cases h2 : 0 < fs[j].level
      · rw [q3 h1 h2]
        simp
      · rw [show decide (0 < (flOf fs[j]).level) = false from decide_eq_false h2]
        simp
    · rw [show decide ((flOf fs[j]).level = (flOf fs[i]).level) = false from decide_eq_false h1]
      simp
theorem clash_sym (f g : Fl) : clashB f g = clashB g f := by
  unfold clashB ovB
  by_cases h1 : f.num = g.num
  · rw [show decide (f.num = g.num) = true from decide_eq_true h1, show decide (g.num = f.num) = true from decide_eq_true h1.symm]
    rfl
  · rw [show decide (f.num = g.num) = false from decide_eq_false h1, show decide (g.num = f.num) = false from decide_eq_false (fun h => h1 h.symm)]
    by_cases h2 : f.level = g.level
    · rw [show decide (f.level = g.level) = true from decide_eq_true h2, show decide (g.level = f.level) = true from decide_eq_true h2.symm, h2]
      cases ltB f.last g.first <;> cases ltB g.last f.first <;> rfl
    · rw [show decide (f.level = g.level) = false from decide_eq_false h2, show decide (g.level = f.level) = false from decide_eq_false (fun h => h2 h.symm)]
      rfl
/-- Files that don't clash, sorted, are good. -/
theorem good_sorted {nx : Int} {l M : List Fl} (hm : ∀ f ∈ l, mayB f = true ∧ f.num < nx) (hc : l.Pairwise fun g f => clashB f g = false) (hp : M.Perm l) (hs : M.Pairwise leF) : GoodP nx M := by
  have hm' : ∀ f ∈ M, mayB f = true ∧ f.num < nx := fun f hf => hm f (hp.subset hf)
  refine ⟨hm', ?_⟩
  have hc' : M.Pairwise fun g f => clashB f g = false := (hp.pairwise_iff (fun {a b} h => by rw [clash_sym]; exact h)).2 hc
  refine (hs.and hc').imp_of_mem ?_
  rintro a b ha hb ⟨h1, h2⟩
  refine ⟨?_, h2⟩
  apply Classical.byContradiction
  intro h3
  unfold leF at h1
  rw [ltF_iff] at h1 h3
  unfold clashB at h2
  rw [Bool.or_eq_false_iff] at h2
  obtain ⟨h4, h5⟩ := h2
  have h4 : b.num ≠ a.num := by simpa using h4
  by_cases hl : a.level = b.level
  · by_cases h0 : a.level = 0
    · apply h1
      refine .inr ⟨hl.symm, .inl ⟨by omega, ?_⟩⟩
      have : ¬ b.num < a.num := fun h => h3 (.inr ⟨hl, .inl ⟨h0, h⟩⟩)
      omega
    · have e1 : ltB b.first a.first = false := by
        cases h : ltB b.first a.first with
        | false => rfl
        | true => exact absurd (.inr ⟨hl.symm, .inr ⟨by omega, h⟩⟩) h1
      have e2 : ltB a.first b.first = false := by
        cases h : ltB a.first b.first with
        | false => rfl
        | true => exact absurd (.inr ⟨hl, .inr ⟨h0, h⟩⟩) h3
      have hla : 0 ≤ a.level := by
        have := (hm' a ha).1
        unfold mayB at this
        simp only [Bool.and_eq_true, decide_eq_true_eq] at this
        omega
      rw [decide_eq_true hl.symm, decide_eq_true (by omega)] at h5
      have le_of : ∀ f : Fl, mayB f = true → ltB f.last f.first = false := fun f hf => by
        unfold mayB leB at hf
        simp only [Bool.and_eq_true, Bool.or_eq_true] at hf
        have h6 := hf.1.1.1.1.2
        cases h : ltB f.last f.first with
        | false => rfl
        | true =>
          rcases h6 with h6 | h6
          · have := ltB_tr h h6
            rw [ltB_irr] at this
            cases this
          · have e : (strOf f.first).toList = (strOf f.last).toList := by unfold eqS at h6; simpa using h6
            unfold ltB at h
            rw [e, bl_irr] at h
            cases h
      have la := le_of a (hm' a ha).1
      have lb := le_of b (hm' b hb).1
      simp only [Bool.true_and] at h5
      unfold ovB at h5
      rw [show ltB b.last a.first = false from ltB_neg lb e1, show ltB a.last b.first = false from ltB_neg la e2] at h5
      cases h5
  · by_cases h6 : b.level < a.level
    · exact h1 (.inl h6)
    · exact h3 (.inl (by omega))
end Go.Proofs.Ythcimkhnijnmgaa

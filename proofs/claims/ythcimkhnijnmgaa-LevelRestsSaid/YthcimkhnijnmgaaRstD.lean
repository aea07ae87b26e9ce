/-
  LevelRests: what is left, and what is made of what was taken, do not clash: plain. No condition.
-/
import Derived.Test.YthcimkhnijnmgaaRstB
namespace Go.Proofs.Ythcimkhnijnmgaa
open Go.RowKit

theorem bl_neg {x y z : List UInt8} (h1 : Op.bytesLess x y = false) (h2 : Op.bytesLess y z = false) : Op.bytesLess x z = false := by
  cases h : Op.bytesLess x z with
  | false => rfl
  | true =>
    exfalso
    cases hzy : Op.bytesLess z y with
    | true => rw [bl_tr _ _ _ h hzy] at h1; cases h1
    | false =>
      have e := bl_tot _ _ h2 hzy
      rw [e, h] at h1
      cases h1
theorem bl_lt_le {a b c : List UInt8} (h1 : Op.bytesLess a b = true) (h2 : Op.bytesLess c b = false) : Op.bytesLess a c = true := by
  cases h : Op.bytesLess a c with
  | true => rfl
  | false => rw [bl_neg h h2] at h1; cases h1
theorem bl_le_lt {a b c : List UInt8} (h1 : Op.bytesLess b a = false) (h2 : Op.bytesLess b c = true) : Op.bytesLess a c = true := by
  cases h : Op.bytesLess a c with
  | true => rfl
  | false => rw [bl_neg h1 h] at h2; cases h2
theorem bl_asym {a b : List UInt8} (h : Op.bytesLess a b = true) : Op.bytesLess b a = false := by
  cases h2 : Op.bytesLess b a with
  | false => rfl
  | true => have := bl_tr _ _ _ h h2; rw [bl_irr] at this; cases this
theorem minS_sp (a b : ByteArray) : (Lib.minS a b = a ∨ Lib.minS a b = b) ∧ Op.bytesLess a.toList (Lib.minS a b).toList = false ∧ Op.bytesLess b.toList (Lib.minS a b).toList = false := by
  unfold Lib.minS
  split
  · rename_i h
    refine ⟨.inl rfl, bl_irr _, ?_⟩
    rcases h with h | h
    · apply bl_asym
      rw [bytesLess_eq, Lib.toList_data, Lib.toList_data]
      exact decide_eq_true h
    · rw [Lib.toList_data, Lib.toList_data, h]
      exact bl_irr _
  · rename_i h
    refine ⟨.inr rfl, ?_, bl_irr _⟩
    rw [bytesLess_eq, Lib.toList_data, Lib.toList_data]
    exact decide_eq_false fun h2 => h (.inl h2)
theorem maxS_sp (a b : ByteArray) : (Lib.maxS a b = a ∨ Lib.maxS a b = b) ∧ Op.bytesLess (Lib.maxS a b).toList a.toList = false ∧ Op.bytesLess (Lib.maxS a b).toList b.toList = false := by
  unfold Lib.maxS
  split
  · rename_i h
    refine ⟨.inr rfl, ?_, bl_irr _⟩
    apply bl_asym
    rw [bytesLess_eq, Lib.toList_data, Lib.toList_data]
    exact decide_eq_true h
  · rename_i h
    refine ⟨.inl rfl, bl_irr _, ?_⟩
    rw [bytesLess_eq, Lib.toList_data, Lib.toList_data]
    exact decide_eq_false h
theorem fold_lo : ∀ (l : List Lv.File) (a : ByteArray), (l.foldl (fun a f => Lib.minS a f.first) a = a ∨ ∃ f ∈ l, l.foldl (fun a f => Lib.minS a f.first) a = f.first) ∧ Op.bytesLess a.toList (l.foldl (fun a f => Lib.minS a f.first) a).toList = false ∧ ∀ f ∈ l, Op.bytesLess f.first.toList (l.foldl (fun a f => Lib.minS a f.first) a).toList = false
  | [], a => ⟨.inl rfl, bl_irr _, fun f h => by cases h⟩
  | x :: r, a => by
    obtain ⟨h1, h2, h3⟩ := fold_lo r (Lib.minS a x.first)
    obtain ⟨m1, m2, m3⟩ := minS_sp a x.first
    rw [List.foldl_cons]
    refine ⟨?_, bl_neg m2 h2, fun f hf => ?_⟩
    · rcases h1 with h1 | ⟨f, hf, h1⟩
      · rcases m1 with m1 | m1
        · exact .inl (h1.trans m1)
        · exact .inr ⟨x, List.mem_cons_self, h1.trans m1⟩
      · exact .inr ⟨f, List.mem_cons_of_mem _ hf, h1⟩
    · rcases List.mem_cons.1 hf with rfl | hf
      · exact bl_neg m3 h2
      · exact h3 f hf
theorem fold_hi : ∀ (l : List Lv.File) (a : ByteArray), (l.foldl (fun a f => Lib.maxS a f.last) a = a ∨ ∃ f ∈ l, l.foldl (fun a f => Lib.maxS a f.last) a = f.last) ∧ Op.bytesLess (l.foldl (fun a f => Lib.maxS a f.last) a).toList a.toList = false ∧ ∀ f ∈ l, Op.bytesLess (l.foldl (fun a f => Lib.maxS a f.last) a).toList f.last.toList = false
  | [], a => ⟨.inl rfl, bl_irr _, fun f h => by cases h⟩
  | x :: r, a => by
    obtain ⟨h1, h2, h3⟩ := fold_hi r (Lib.maxS a x.last)
    obtain ⟨m1, m2, m3⟩ := maxS_sp a x.last
    rw [List.foldl_cons]
    refine ⟨?_, bl_neg h2 m2, fun f hf => ?_⟩
    · rcases h1 with h1 | ⟨f, hf, h1⟩
      · rcases m1 with m1 | m1
        · exact .inl (h1.trans m1)
        · exact .inr ⟨x, List.mem_cons_self, h1.trans m1⟩
      · exact .inr ⟨f, List.mem_cons_of_mem _ hf, h1⟩
    · rcases List.mem_cons.1 hf with rfl | hf
      · exact bl_neg h2 m3
      · exact h3 f hf
theorem lo_sp {f0 : Lv.File} {l : List Lv.File} (h : f0 ∈ l) : (∃ f ∈ l, Lv.loOf f0 l = f.first) ∧ ∀ f ∈ l, Op.bytesLess f.first.toList (Lv.loOf f0 l).toList = false := by
  obtain ⟨h1, h2, h3⟩ := fold_lo l f0.first
  refine ⟨?_, h3⟩
  rcases h1 with h1 | h1
  · exact ⟨f0, h, h1⟩
  · exact h1
theorem hi_sp {f0 : Lv.File} {l : List Lv.File} (h : f0 ∈ l) : (∃ f ∈ l, Lv.hiOf f0 l = f.last) ∧ ∀ f ∈ l, Op.bytesLess (Lv.hiOf f0 l).toList f.last.toList = false := by
  obtain ⟨h1, h2, h3⟩ := fold_hi l f0.last
  refine ⟨?_, h3⟩
  rcases h1 with h1 | h1
  · exact ⟨f0, h, h1⟩
  · exact h1
theorem ok_le {nx : Int} {f : Lv.File} (h : Lv.FileOk nx f) : Op.bytesLess f.last.toList f.first.toList = false := by
  have h9 := h.2.2.2.2.2.2.2.2.1
  cases e : Op.bytesLess f.last.toList f.first.toList with
  | false => rfl
  | true =>
    exfalso
    rw [bl_asym e] at h9
    have : (f.first.toList == f.last.toList) = true := by simpa using h9
    rw [eq_of_beq this, bl_irr] at e
    cases e
/-- What is taken. -/
theorem take_sp {fs : List Lv.File} {n : Int} (h : Lv.takeFrom fs n ≠ []) : 0 ≤ n ∧ n < 4 ∧ (∀ f ∈ Lv.takeFrom fs n, f ∈ fs ∧ f.level = n) ∧ ∃ f r, Lv.takeFrom fs n = f :: r ∧ Lv.takeInto fs n = Lv.withinS fs (n + 1) (Lv.loOf f (f :: r)) (Lv.hiOf f (f :: r)) ∧ (r = [] ∨ (f :: r).Sublist fs) := by
  have hr : ∃ f r, Lv.takeFrom fs n = f :: r := by
    cases e : Lv.takeFrom fs n with
    | nil => exact absurd e h
    | cons f r => exact ⟨f, r, rfl⟩
  obtain ⟨f, r, hfr⟩ := hr
  have hi : Lv.takeInto fs n = Lv.withinS fs (n + 1) (Lv.loOf f (f :: r)) (Lv.hiOf f (f :: r)) := by unfold Lv.takeInto; rw [hfr]
  have hfr0 := hfr
  unfold Lv.takeFrom at hfr h
  by_cases hn : n < 0 ∨ 4 ≤ n
  · rw [if_pos hn] at hfr; cases hfr
  rw [if_neg hn] at hfr
  have hmem : ∀ g ∈ fs.filter (fun f => f.level == n), g ∈ fs ∧ g.level = n := fun g hg => by
    rw [List.mem_filter] at hg
    exact ⟨hg.1, by simpa using hg.2⟩
  cases hl : fs.filter (fun f => f.level == n) with
  | nil => rw [hl] at hfr; cases hfr
  | cons g s =>
    rw [hl] at hfr hmem
    simp only at hfr
    by_cases hp : 0 < n
    · rw [if_pos hp] at hfr
      injection hfr with e1 e2
      have hm : Lv.minBy g s ∈ g :: s := by have := Lv.minBy_mem g s s.length; rwa [List.take_length] at this
      refine ⟨by omega, by omega, fun x hx => ?_, f, r, hfr0, hi, .inl e2.symm⟩
      rw [hfr0, ← e1, ← e2] at hx
      simp at hx
      subst hx
      exact hmem _ hm
    · rw [if_neg hp] at hfr
      refine ⟨by omega, by omega, fun x hx => ?_, f, r, hfr0, hi, .inr ?_⟩
      · rw [hfr0, ← hfr] at hx
        exact hmem x hx
      · rw [← hfr, ← hl]
        exact List.filter_sublist
theorem into_mem {fs : List Lv.File} {n : Int} {lo hi : ByteArray} {f : Lv.File} : f ∈ Lv.withinS fs n lo hi ↔ f ∈ fs ∧ f.level = n ∧ Lv.outB lo hi f = false := by
  unfold Lv.withinS
  rw [List.mem_filter, List.mem_filter]
  simp [and_assoc]
/-- A file that is left does not overlap what is made. -/
theorem left_out {nx : Int} {fs T I : List Lv.File} {n : Int} {f0 G : Lv.File} (hok : ∀ f ∈ fs, Lv.FileOk nx f) (hdis : ∀ f ∈ fs, ∀ g ∈ fs, f ≠ g → f.level = g.level → 0 < f.level → Lv.overB f g = false) (hn : 0 ≤ n) (h0 : f0 ∈ T) (hT : ∀ f ∈ T, f ∈ fs) (hI : I = Lv.withinS fs (n + 1) (Lv.loOf f0 T) (Lv.hiOf f0 T)) (hG : G ∈ fs) (hGl : G.level = n + 1) (hGI : G ∉ I) : Op.bytesLess (Lv.hiOf f0 (T ++ I)).toList G.first.toList = true ∨ Op.bytesLess G.last.toList (Lv.loOf f0 (T ++ I)).toList = true := by
  obtain ⟨-, lo2⟩ := lo_sp h0
  obtain ⟨-, hi2⟩ := hi_sp h0
  have hmem : f0 ∈ T ++ I := List.mem_append_left _ h0
  obtain ⟨⟨F, hF, eF⟩, -⟩ := lo_sp hmem
  obtain ⟨⟨E, hE, eE⟩, -⟩ := hi_sp hmem
  have hout : Lv.outB (Lv.loOf f0 T) (Lv.hiOf f0 T) G = true := by
    cases e : Lv.outB (Lv.loOf f0 T) (Lv.hiOf f0 T) G with
    | true => rfl
    | false => exact absurd (by rw [hI]; exact into_mem.2 ⟨hG, hGl, e⟩) hGI
  have hle : Op.bytesLess (Lv.hiOf f0 T).toList (Lv.loOf f0 T).toList = false := bl_neg (bl_neg (hi2 f0 h0) (ok_le (hok f0 (hT f0 h0)))) (lo2 f0 h0)
  have hGle := ok_le (hok G hG)
  have inI : ∀ f ∈ I, f ∈ fs ∧ f.level = n + 1 ∧ Op.bytesLess f.last.toList (Lv.loOf f0 T).toList = false ∧ Op.bytesLess (Lv.hiOf f0 T).toList f.first.toList = false := fun f hf => by
    rw [hI] at hf
    obtain ⟨a, b, c⟩ := into_mem.1 hf
    unfold Lv.outB at c
    simp only [Bool.or_eq_false_iff] at c
    exact ⟨a, b, c.1.2, c.2⟩
  have disj : ∀ f ∈ I, Op.bytesLess f.last.toList G.first.toList = true ∨ Op.bytesLess G.last.toList f.first.toList = true := fun f hf => by
    obtain ⟨a, b, -⟩ := inI f hf
    have := hdis f a G hG (fun e => hGI (e ▸ hf)) (by omega) (by omega)
    unfold Lv.overB at this
    simp only [Bool.and_eq_false_iff, Bool.not_eq_false'] at this
    exact this
  unfold Lv.outB at hout
  rw [hle, Bool.false_or, Bool.or_eq_true] at hout
  rcases hout with h | h
  · right
    rw [eF]
    rcases List.mem_append.1 hF with hF | hF
    · exact bl_lt_le h (lo2 F hF)
    · rcases disj F hF with d | d
      · exfalso
        have x1 := bl_lt_le d hGle
        have x2 := bl_tr _ _ _ x1 h
        rw [(inI F hF).2.2.1] at x2
        cases x2
      · exact d
  · left
    rw [eE]
    rcases List.mem_append.1 hE with hE | hE
    · exact bl_le_lt (hi2 E hE) h
    · rcases disj E hE with d | d
      · exact d
      · exfalso
        have x1 := bl_lt_le h hGle
        have x2 := bl_tr _ _ _ x1 d
        rw [(inI E hE).2.2.2] at x2
        cases x2
end Go.Proofs.Ythcimkhnijnmgaa

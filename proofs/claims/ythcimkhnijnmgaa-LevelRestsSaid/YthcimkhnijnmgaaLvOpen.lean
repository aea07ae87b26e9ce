/-
  An argument that is a version (the reference's), opened to its files. No condition.
-/
import Derived.Test.YthcimkhnijnmgaaLvFile
import Derived.ProofKit
import Derived.OpenShut
import Derived.Lib.SmallJoins
import Derived.Deep.Slices
import Derived.Deep.Fields
import Derived.ChangeSame
namespace Go.Proofs.Ythcimkhnijnmgaa.Lv
open Go.ChangeShapes Go.WideShapes Go.Deep Go.RowKit

section
variable {H : Type} {enc : TypeId × Value → H} {P : Program} {w : World} {base : Nat} {spare : Nat → Bool} {held : Bool}
theorem open_slice_fields {t e : TypeId} {fs : Array Field} {fuel : Nat} {cs : List Value} {x : DataW H × List MemPlace} (ht : P.underlying t = some (.slice e)) (he : P.underlying e = some (.struct fs))
    (hone : oneCellFields P fs = true) (hC : P.cellsOf e = fs.size) (h : DataW.trod enc P w base spare held fuel t cs = some x) :
    (cs = [.slice none 0 0] ∧ x = (.nil, [])) ∨
    ∃ (a : Addr) (len cap m : Nat) (D : Nat → DataW H) (Pl : Nat → List MemPlace), cs = [.slice (some a) len cap] ∧ base ≤ a.block ∧ len ≤ cap ∧ cap ≤ maxLen ∧ m = (if spare a.block then cap else len) ∧
      x = (.slice ((List.range len).map D) ((List.range (m - len)).map fun j => D (len + j)), MemPlace.row a (m * fs.size) ++ (List.range m).flatMap Pl) ∧
      ∀ i, i < m → ∃ (ys : List (DataW H × List MemPlace)) (n : Nat), D i = .agg (ys.map (·.1)) ∧ Pl i = ys.flatMap (·.2) ∧ ys.length = fs.size ∧
        ∀ (j : Nat) (f : Field), fs[j]? = some f → ∃ (v : Value) (y : DataW H × List MemPlace), w.cell? (a.add (i * fs.size + j)) = some v ∧ ys[j]? = some y ∧ DataW.trod enc P w base spare held n f.type [v] = some y := by
  rcases open_slice ht h with h0 | ⟨a, len, cap, m, n, D, Pl, hcs, hb, hl, hm, hmm, hx, hi⟩
  · exact .inl h0
  · refine .inr ⟨a, len, cap, m, D, Pl, hcs, hb, hl, hm, hmm, by rw [hC] at hx; exact hx, fun i him => ?_⟩
    obtain ⟨cs', hc, ht'⟩ := hi i him
    rw [hC] at hc
    obtain ⟨ys, n', hn', hy, hlen, hyl, hf⟩ := DataW.trod_struct he ht'
    obtain ⟨_, hcl, hat⟩ := World.cells?_some hc
    simp only [Prod.mk.injEq] at hy
    refine ⟨ys, n', hy.1, hy.2, hyl, fun j f hj => ?_⟩
    obtain ⟨ho, hk⟩ := hone_of hone j f hj
    have hjl : j < fs.size := (Array.getElem?_eq_some_iff.1 hj).1
    have hcell := hat j hjl
    have hv : cs'[j]? = some (cs'[j]'(by omega)) := List.getElem?_eq_getElem (by omega)
    have h1 := hf j f hj
    rw [ho, hk] at h1
    have hone' : (cs'.drop j).take 1 = [cs'[j]'(by omega)] := by
      rw [List.drop_eq_getElem_cons (by omega)]
      rfl
    rw [hone'] at h1
    have hys : ys[j]? = some (ys[j]'(by omega)) := List.getElem?_eq_getElem (by omega)
    refine ⟨_, _, ?_, hys, h1.trans hys⟩
    rw [← Go.Deep.add_add, hcell, hv]
end

theorem choose_file (n : Nat) (p : Nat → File → Prop) (h : ∀ i, i < n → ∃ f, p i f) : ∃ fs : List File, fs.length = n ∧ ∀ i f, fs[i]? = some f → p i f := by
  induction n with
  | zero => exact ⟨[], rfl, fun i f hf => by simp at hf⟩
  | succ n ih =>
    obtain ⟨fs, hl, hp⟩ := ih fun i hi => h i (by omega)
    obtain ⟨f, hf⟩ := h n (by omega)
    refine ⟨fs ++ [f], by simp [hl], fun i g hg => ?_⟩
    by_cases hi : i < n
    · rw [List.getElem?_append_left (by omega)] at hg; exact hp i g hg
    · have hin : i = n := by
        have := (List.getElem?_eq_some_iff.1 hg).1
        simp [hl] at this
        omega
      subst hin
      rw [List.getElem?_append_right (by omega), hl, Nat.sub_self] at hg
      simp at hg
      subst hg
      exact hf
/-- A slice of files, as data, reads as a list of files. -/
theorem open_files {H : Type} {enc : TypeId × Value → H} {W : World} {v : Value} {y : DataW H × List MemPlace} {m : Nat}
    (h : DataW.trod enc Try.prog W 0 (fun _ => true) true m 22 [v] = some y) : ∃ A len cap fs, v = .slice A len cap ∧ Reads W W.heap.size 6 A len (cellsOf fs) := by
  rcases open_slice_fields Try.underlying22 Try.underlying51 (by kernel_rfl) (by kernel_rfl) h with ⟨hcs, -⟩ | ⟨a, len, cap, k, D, Pl, hcs, -, hlc, -, hk, -, hf⟩
  · simp at hcs
    exact ⟨none, 0, 0, [], hcs, Reads.none_⟩
  · simp only [if_true] at hk
    simp at hcs
    obtain ⟨fs, hl, hp⟩ := choose_file len (fun i f => ∀ j u, f.cells[j]? = some u → W.cell? (a.add (i * 6 + j)) = some u) fun i hi => by
      obtain ⟨ys, n, -, -, hyl, hfj⟩ := hf i (by omega)
      obtain ⟨v0, z0, k0, -, t0⟩ := hfj 0 _ rfl
      obtain ⟨v1, z1, k1, -, t1⟩ := hfj 1 _ rfl
      obtain ⟨v2, z2, k2, -, t2⟩ := hfj 2 _ rfl
      obtain ⟨v3, z3, k3, -, t3⟩ := hfj 3 _ rfl
      obtain ⟨v4, z4, k4, -, t4⟩ := hfj 4 _ rfl
      obtain ⟨v5, z5, k5, -, t5⟩ := hfj 5 _ rfl
      obtain ⟨x0, e0, -, -⟩ := DataW.trod_int Try.underlying3 t0
      obtain ⟨x1, e1, -, -⟩ := DataW.trod_int Try.underlying3 t1
      obtain ⟨x2, e2, -⟩ := DataW.trod_string Try.underlying9 t2
      obtain ⟨x3, e3, -⟩ := DataW.trod_string Try.underlying9 t3
      obtain ⟨x4, e4, -, -⟩ := DataW.trod_int Try.underlying3 t4
      obtain ⟨x5, e5, -, -⟩ := DataW.trod_int Try.underlying3 t5
      simp at e0 e1 e2 e3 e4 e5
      subst e0 e1 e2 e3 e4 e5
      refine ⟨⟨x0, x1, x2, x3, x4, x5⟩, fun j u hu => ?_⟩
      match j, hu with
      | 0, hu => simp [File.cells] at hu; subst hu; exact k0
      | 1, hu => simp [File.cells] at hu; subst hu; exact k1
      | 2, hu => simp [File.cells] at hu; subst hu; exact k2
      | 3, hu => simp [File.cells] at hu; subst hu; exact k3
      | 4, hu => simp [File.cells] at hu; subst hu; exact k4
      | 5, hu => simp [File.cells] at hu; subst hu; exact k5
      | j + 6, hu => simp [File.cells] at hu
    refine ⟨some a, len, cap, fs, hcs, by rw [length_cellsOf, hl], fun hpos => ⟨a, rfl, ?_, fun j u hu => ?_⟩⟩
    · obtain ⟨f, hf0⟩ : ∃ f, fs[0]? = some f := ⟨_, List.getElem?_eq_getElem (by omega)⟩
      have := World.block_lt_of_cell? W _ (hp 0 f hf0 0 _ rfl)
      rwa [block_of_add] at this
    · have hj : j < len * 6 := by have := (List.getElem?_eq_some_iff.1 hu).1; rw [length_cellsOf, hl] at this; exact this
      have hi : j / 6 < fs.length := by omega
      have hg := get_cellsOf fs (j / 6) _ (List.getElem?_eq_getElem hi) (j % 6) (by omega)
      rw [show j / 6 * 6 + j % 6 = j by omega, hu] at hg
      have := hp (j / 6) _ (List.getElem?_eq_getElem hi) (j % 6) u hg.symm
      rwa [show j / 6 * 6 + j % 6 = j by omega] at this
set_option maxRecDepth 100000 in
/-- A version that comes in. -/
theorem open_version {H : Type} {enc : TypeId × Value → H} {W : World} {base : Nat} {v : Value} {d : DataW H} {p : List MemPlace} (hv : Value.okWide Try.prog W .any base 24 v)
    (h : DataW.Trod enc Try.prog W 0 (fun _ => true) true 24 v d p) :
    ∃ lg nx sq A len cap fs, v = .agg #[.int .i64 lg, .int .i64 nx, .int .i64 sq, .slice A len cap] ∧ Reads W W.heap.size 6 A len (cellsOf fs) := by
  obtain ⟨c0, c1, c2, c3, y0, y1, y2, y3, m, rfl, -, -, hy0, hy1, hy2, hy3⟩ := Joins.open_agg4 Try.underlying24 (by kernel_rfl) (by kernel_rfl) hv h
  obtain ⟨x0, e0, -, -⟩ := DataW.trod_int Try.underlying3 hy0
  obtain ⟨x1, e1, -, -⟩ := DataW.trod_int Try.underlying3 hy1
  obtain ⟨x2, e2, -, -⟩ := DataW.trod_int Try.underlying3 hy2
  simp at e0 e1 e2
  subst e0 e1 e2
  obtain ⟨A, len, cap, fs, rfl, hr⟩ := open_files hy3
  exact ⟨x0, x1, x2, A, len, cap, fs, rfl, hr⟩
end Go.Proofs.Ythcimkhnijnmgaa.Lv

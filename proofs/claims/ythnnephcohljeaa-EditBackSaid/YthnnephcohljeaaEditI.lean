/-
  What comes in: an edit. No condition.
-/
import Derived.Test.YthnnephcohljeaaEditH
namespace Go.Proofs.Ythnnephcohljeaa
open Go.ChangeShapes Go.WideShapes Go.ChangeAt Go.Deep Go.RowKit

section
variable {H : Type} {enc : TypeId × Value → H} {P : Program} {w : World} {base : Nat} {spare : Nat → Bool} {held : Bool}
theorem open_slice_fields {t e : TypeId} {fs : Array Field} {fuel : Nat} {cs : List Value} {x : DataW H × List MemPlace} (ht : P.underlying t = some (.slice e)) (he : P.underlying e = some (.struct fs))
    (hone : oneCellFields P fs = true) (hC : P.cellsOf e = fs.size) (h : DataW.trod enc P w base spare held fuel t cs = some x) :
    (cs = [.slice none 0 0] ∧ x = (.nil, [])) ∨
    ∃ (a : Addr) (len cap m : Nat) (D : Nat → DataW H) (Pl : Nat → List MemPlace), cs = [.slice (some a) len cap] ∧ base ≤ a.block ∧ len ≤ cap ∧ cap ≤ maxLen ∧ m = (if spare a.block then cap else len) ∧
      x = (.slice ((List.range len).map D) ((List.range (m - len)).map fun j => D (len + j)), MemPlace.row a (m * fs.size) ++ (List.range m).flatMap Pl) ∧
      ∀ i, i < m → ∃ (ys : List (DataW H × List MemPlace)) (n : Nat), D i = .agg (ys.map (·.1)) ∧ Pl i = ys.flatMap (·.2) ∧ ys.length = fs.size ∧
        ∀ (j : Nat) (f : Field), fs[j]? = some f → ∃ (v : Value) (y : DataW H × List MemPlace), w.cell? (a.add (i * fs.size + j)) = some v ∧ ys[j]? = some y ∧ DataW.trod enc P w base spare held n f.type [v] = some y := by
  rcases open_slice ht h with h0 | ⟨a, len, cap, m, n, D, Pl, hcs, hb, hl, hm, hmm, hx, hi⟩
  · exact .inl h0
  · refine .inr ⟨a, len, cap, m, D, Pl, hcs, hb, hl, hm, hmm, by rw [hC] at hx; exact hx, fun i him => ?_⟩
    obtain ⟨cs', hc, ht'⟩ := hi i him
    rw [hC] at hc
    obtain ⟨ys, n', hn', hy, hlen, hyl, hf⟩ := DataW.trod_struct he ht'
    obtain ⟨_, hcl, hat⟩ := World.cells?_some hc
    simp only [Prod.mk.injEq] at hy
    refine ⟨ys, n', hy.1, hy.2, hyl, fun j f hj => ?_⟩
    obtain ⟨ho, hk⟩ := hone_of hone j f hj
    have hjl : j < fs.size := (Array.getElem?_eq_some_iff.1 hj).1
    have hcell := hat j hjl
    have hv : cs'[j]? = some (cs'[j]'(by omega)) := List.getElem?_eq_getElem (by omega)
    have h1 := hf j f hj
    rw [ho, hk] at h1
    have hone' : (cs'.drop j).take 1 = [cs'[j]'(by omega)] := by
      rw [List.drop_eq_getElem_cons (by omega)]
      rfl
    rw [hone'] at h1
    have hys : ys[j]? = some (ys[j]'(by omega)) := List.getElem?_eq_getElem (by omega)
    refine ⟨_, _, ?_, hys, h1.trans hys⟩
    rw [← Go.Deep.add_add, hcell, hv]
end
set_option maxRecDepth 100000 in
theorem open_fls {H : Type} {enc : TypeId × Value → H} {W : World} {v : Value} {y : DataW H × List MemPlace} {m : Nat}
    (h : DataW.trod enc Try.prog W 0 (fun _ => true) true m 25 [v] = some y) : ∃ A len cap fs, v = .slice A len cap ∧ Reads W W.heap.size 6 A len (fcs fs) ∧ ∀ f ∈ fs, Fl.rng f := by
  rcases open_slice_fields Try.underlying25 Try.underlying23 (by kernel_rfl) (by kernel_rfl) h with ⟨hcs, -⟩ | ⟨a, len, cap, k, D, Pl, hcs, -, hlc, -, hk, -, hf⟩
  · simp at hcs
    exact ⟨none, 0, 0, [], hcs, Reads.none_, by simp⟩
  · simp only [if_true] at hk
    simp at hcs
    obtain ⟨fs, hl, hp⟩ := choose_of len (fun i (f : Fl) => f.rng ∧ ∀ (j : Nat) (u : Value), f.cs.toList[j]? = some u → W.cell? (a.add (i * 6 + j)) = some u) fun i hi => by
      obtain ⟨ys, n, -, -, hyl, hfj⟩ := hf i (by omega)
      obtain ⟨v0, z0, k0, -, t0⟩ := hfj 0 _ rfl
      obtain ⟨v1, z1, k1, -, t1⟩ := hfj 1 _ rfl
      obtain ⟨v2, z2, k2, -, t2⟩ := hfj 2 _ rfl
      obtain ⟨v3, z3, k3, -, t3⟩ := hfj 3 _ rfl
      obtain ⟨v4, z4, k4, -, t4⟩ := hfj 4 _ rfl
      obtain ⟨v5, z5, k5, -, t5⟩ := hfj 5 _ rfl
      obtain ⟨x0, e0, -, w0⟩ := DataW.trod_int Try.underlying3 t0
      obtain ⟨x1, e1, -, w1⟩ := DataW.trod_int Try.underlying3 t1
      obtain ⟨x2, e2, -⟩ := DataW.trod_string Try.underlying9 t2
      obtain ⟨x3, e3, -⟩ := DataW.trod_string Try.underlying9 t3
      obtain ⟨x4, e4, -, w4⟩ := DataW.trod_int Try.underlying3 t4
      obtain ⟨x5, e5, -, w5⟩ := DataW.trod_int Try.underlying3 t5
      simp at e0 e1 e2 e3 e4 e5
      subst e0 e1 e2 e3 e4 e5
      refine ⟨⟨x0, x1, bytesOf x2, bytesOf x3, x4, x5⟩, ⟨has64 w0, has64 w1, has64 w4, has64 w5, bytesOf_lt _, bytesOf_lt _⟩, fun j u hu => ?_⟩
      simp only [Fl.cs, strOf_bytesOf] at hu
      match j, hu with
      | 0, hu => simp at hu; subst hu; exact k0
      | 1, hu => simp at hu; subst hu; exact k1
      | 2, hu => simp at hu; subst hu; exact k2
      | 3, hu => simp at hu; subst hu; exact k3
      | 4, hu => simp at hu; subst hu; exact k4
      | 5, hu => simp at hu; subst hu; exact k5
      | j + 6, hu => simp at hu
    refine ⟨some a, len, cap, fs, hcs, ⟨by rw [fcs_len, hl], fun hpos => ⟨a, rfl, ?_, fun j u hu => ?_⟩⟩, fun f hf => ?_⟩
    · obtain ⟨f, hf0⟩ : ∃ f, fs[0]? = some f := ⟨_, List.getElem?_eq_getElem (by omega)⟩
      have := World.block_lt_of_cell? W _ ((hp 0 f hf0).2 0 _ rfl)
      rwa [block_of_add] at this
    · have hj : j < len * 6 := by have := (List.getElem?_eq_some_iff.1 hu).1; rw [fcs_len, hl] at this; exact this
      have hi : j / 6 < fs.length := by omega
      obtain ⟨f, hfi⟩ : ∃ f, fs[j / 6]? = some f := ⟨_, List.getElem?_eq_getElem hi⟩
      obtain ⟨x, hx⟩ : ∃ x, f.cs.toList[j % 6]? = some x := ⟨_, List.getElem?_eq_getElem (show j % 6 < f.cs.toList.length from Nat.mod_lt _ (by decide))⟩
      have hg := fcs_at hfi (j % 6) x hx
      rw [show j / 6 * 6 + j % 6 = j by omega, hu] at hg
      injection hg with hg
      subst hg
      have := (hp (j / 6) _ hfi).2 (j % 6) u hx
      rwa [show j / 6 * 6 + j % 6 = j by omega] at this
    · obtain ⟨j, hj, rfl⟩ := List.getElem_of_mem hf
      exact (hp j _ (List.getElem?_eq_getElem hj)).1
set_option maxRecDepth 100000 in
theorem open_dis {H : Type} {enc : TypeId × Value → H} {W : World} {v : Value} {y : DataW H × List MemPlace} {m : Nat}
    (h : DataW.trod enc Try.prog W 0 (fun _ => true) true m 30 [v] = some y) : ∃ A len cap l, v = .slice A len cap ∧ Reads W W.heap.size 1 A len (DI l) ∧ ∀ x ∈ l, I64 x := by
  rcases open_slice Try.underlying30 h with ⟨hcs, -⟩ | ⟨a, len', cap', k, n, D, Pl, hcs, -, hlc, -, hk, -, hf⟩
  · simp at hcs
    exact ⟨none, 0, 0, [], hcs, Reads.none_, by simp⟩
  · simp only [if_true] at hk
    simp at hcs
    have hC : Try.prog.cellsOf 3 = 1 := by kernel_rfl
    rw [hC] at hf
    obtain ⟨l, hl, hp⟩ := choose_of len' (fun i (x : Int) => I64 x ∧ W.cell? (a.add i) = some (.int .i64 x)) fun i hi => by
      obtain ⟨cs', hc, ht⟩ := hf i (by omega)
      obtain ⟨x, rfl, -, hwf⟩ := DataW.trod_int Try.underlying3 ht
      obtain ⟨_, _, hat⟩ := World.cells?_some hc
      have h0 := hat (i := 0) (by omega)
      refine ⟨x, has64 hwf, ?_⟩
      rw [add_of_add, Nat.mul_one, Nat.add_zero] at h0
      rw [h0]; rfl
    refine ⟨some a, len', cap', l, hcs, ⟨by simp [DI, hl], fun hpos => ⟨a, rfl, ?_, fun j u hu => ?_⟩⟩, fun x hx => ?_⟩
    · obtain ⟨x, hx⟩ : ∃ x, l[0]? = some x := ⟨_, List.getElem?_eq_getElem (by omega)⟩
      have := World.block_lt_of_cell? W _ (hp 0 x hx).2
      rwa [block_of_add] at this
    · simp only [DI, List.getElem?_map] at hu
      cases hx : l[j]? with
      | none => rw [hx] at hu; cases hu
      | some x =>
        rw [hx] at hu
        injection hu with hu
        rw [← hu]
        exact (hp j x hx).2
    · obtain ⟨j, hj, rfl⟩ := List.getElem_of_mem hx
      exact (hp j _ (List.getElem?_eq_getElem hj)).1
set_option maxRecDepth 100000 in
theorem open_edit {H : Type} {enc : TypeId × Value → H} {W : World} {base : Nat} {v : Value} {d : DataW H} {p : List MemPlace} (hv : Value.okWide Try.prog W .any base 32 v)
    (h : DataW.Trod enc Try.prog W 0 (fun _ => true) true 32 v d p) : ∃ lg nx sq A n c A' n' c' drop add, v = .agg #[.int .i64 lg, .int .i64 nx, .int .i64 sq, .slice A n c, .slice A' n' c'] ∧
      Reads W W.heap.size 1 A n (DI drop) ∧ Reads W W.heap.size 6 A' n' (fcs add) ∧ I64 lg ∧ I64 nx ∧ I64 sq ∧ (∀ x ∈ drop, I64 x) ∧ ∀ f ∈ add, Fl.rng f := by
  obtain ⟨cs, rfl, hsz⟩ := okWide_struct Try.underlying32 hv
  have hC : Try.prog.cellsOf 32 = 5 := by kernel_rfl
  have ci : Try.prog.cellsOf 3 = 1 := by kernel_rfl
  have cd : Try.prog.cellsOf 30 = 1 := by kernel_rfl
  have cf : Try.prog.cellsOf 25 = 1 := by kernel_rfl
  obtain ⟨l⟩ := cs
  have hsz := hsz.trans hC
  match l, hsz with
  | [c0, c1, c2, c3, c4], _ =>
    obtain ⟨fuel, hf⟩ := h
    obtain ⟨xs, n, -, -, -, hlen, hfj⟩ := DataW.trod_struct Try.underlying32 hf
    match xs, hlen with
    | [y0, y1, y2, y3, y4], _ =>
      have t0 := hfj 0 _ rfl
      have t1 := hfj 1 _ rfl
      have t2 := hfj 2 _ rfl
      have t3 := hfj 3 _ rfl
      have t4 := hfj 4 _ rfl
      simp [Value.cells, ci, cd, cf] at t0 t1 t2 t3 t4
      obtain ⟨x0, e0, -, w0⟩ := DataW.trod_int Try.underlying3 t0
      obtain ⟨x1, e1, -, w1⟩ := DataW.trod_int Try.underlying3 t1
      obtain ⟨x2, e2, -, w2⟩ := DataW.trod_int Try.underlying3 t2
      obtain ⟨A, len, cap, drop, e3, r3, b3⟩ := open_dis t3
      obtain ⟨A', len', cap', add, e4, r4, b4⟩ := open_fls t4
      simp at e0 e1 e2
      subst e0 e1 e2 e3 e4
      exact ⟨x0, x1, x2, A, len, cap, A', len', cap', drop, add, rfl, r3, r4, has64 w0, has64 w1, has64 w2, b3, b4⟩
end Go.Proofs.Ythnnephcohljeaa

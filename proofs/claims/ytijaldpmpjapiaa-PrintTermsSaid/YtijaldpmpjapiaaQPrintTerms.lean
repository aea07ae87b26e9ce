/-
  PrintTerms: any term's text, and its lines; or that it has none. No condition.
-/
import Derived.Test.YtijaldpmpjapiaaQ5
namespace Go.Proofs.Ytijaldpmpjapiaa
open Go.ChangeShapes Go.WideShapes Go.ChangeAt Go.Deep Go.RowKit

theorem choose_of {α : Type} (n : Nat) (p : Nat → α → Prop) (h : ∀ i, i < n → ∃ f, p i f) : ∃ l : List α, l.length = n ∧ ∀ i f, l[i]? = some f → p i f := by
  induction n with
  | zero => exact ⟨[], rfl, fun i f hf => by simp at hf⟩
  | succ n ih =>
    obtain ⟨l, hl, hp⟩ := ih fun i hi => h i (by omega)
    obtain ⟨x, hx⟩ := h n (by omega)
    refine ⟨l ++ [x], by simp [hl], fun i f hf => ?_⟩
    rcases Nat.lt_or_ge i n with hi | hi
    · rw [List.getElem?_append_left (by omega)] at hf
      exact hp i f hf
    · rw [List.getElem?_append_right (by omega)] at hf
      have h0 : i - l.length = 0 := by
        have := (List.getElem?_eq_some_iff.1 hf).1
        simp at this
        omega
      rw [h0] at hf
      simp at hf
      subst hf
      have : i = n := by omega
      subst this
      exact hx
theorem has64 {x : Int} (h : Lit.wf (.int .i64 x) = true) : I64 x := by
  simp only [Lit.wf, Bool.and_eq_true, decide_eq_true_eq] at h
  exact ⟨h.1, h.2⟩
section
variable {H : Type} {enc : TypeId × Value → H} {P : Program} {w : World} {base : Nat} {spare : Nat → Bool} {held : Bool}
theorem open_slice_fields {t e : TypeId} {fs : Array Field} {fuel : Nat} {cs : List Value} {x : DataW H × List MemPlace} (ht : P.underlying t = some (.slice e)) (he : P.underlying e = some (.struct fs))
    (hone : oneCellFields P fs = true) (hC : P.cellsOf e = fs.size) (h : DataW.trod enc P w base spare held fuel t cs = some x) :
    (cs = [.slice none 0 0] ∧ x = (.nil, [])) ∨
    ∃ (a : Addr) (len cap m : Nat) (D : Nat → DataW H) (Pl : Nat → List MemPlace), cs = [.slice (some a) len cap] ∧ base ≤ a.block ∧ len ≤ cap ∧ cap ≤ maxLen ∧ m = (if spare a.block then cap else len) ∧
      x = (.slice ((List.range len).map D) ((List.range (m - len)).map fun j => D (len + j)), MemPlace.row a (m * fs.size) ++ (List.range m).flatMap Pl) ∧
      ∀ i, i < m → ∃ (ys : List (DataW H × List MemPlace)) (n : Nat), D i = .agg (ys.map (·.1)) ∧ Pl i = ys.flatMap (·.2) ∧ ys.length = fs.size ∧
        ∀ (j : Nat) (f : Field), fs[j]? = some f → ∃ (v : Value) (y : DataW H × List MemPlace), w.cell? (a.add (i * fs.size + j)) = some v ∧ ys[j]? = some y ∧ DataW.trod enc P w base spare held n f.type [v] = some y := by
  rcases open_slice ht h with h0 | ⟨a, len, cap, m, n, D, Pl, hcs, hb, hl, hm, hmm, hx, hi⟩
  · exact .inl h0
  · refine .inr ⟨a, len, cap, m, D, Pl, hcs, hb, hl, hm, hmm, by rw [hC] at hx; exact hx, fun i him => ?_⟩
    obtain ⟨cs', hc, ht'⟩ := hi i him
    rw [hC] at hc
    obtain ⟨ys, n', hn', hy, hlen, hyl, hf⟩ := DataW.trod_struct he ht'
    obtain ⟨_, hcl, hat⟩ := World.cells?_some hc
    simp only [Prod.mk.injEq] at hy
    refine ⟨ys, n', hy.1, hy.2, hyl, fun j f hj => ?_⟩
    obtain ⟨ho, hk⟩ := hone_of hone j f hj
    have hjl : j < fs.size := (Array.getElem?_eq_some_iff.1 hj).1
    have hcell := hat j hjl
    have hv : cs'[j]? = some (cs'[j]'(by omega)) := List.getElem?_eq_getElem (by omega)
    have h1 := hf j f hj
    rw [ho, hk] at h1
    have hone' : (cs'.drop j).take 1 = [cs'[j]'(by omega)] := by
      rw [List.drop_eq_getElem_cons (by omega)]
      rfl
    rw [hone'] at h1
    have hys : ys[j]? = some (ys[j]'(by omega)) := List.getElem?_eq_getElem (by omega)
    refine ⟨_, _, ?_, hys, h1.trans hys⟩
    rw [← Go.Deep.add_add, hcell, hv]
end
set_option maxRecDepth 100000 in
theorem open_dis {H : Type} {enc : TypeId × Value → H} {W : World} {v : Value} {y : DataW H × List MemPlace} {m : Nat}
    (h : DataW.trod enc Try.prog W 0 (fun _ => true) true m 26 [v] = some y) : ∃ A len cap l, v = .slice A len cap ∧ Reads W W.heap.size 1 A len (DI l) ∧ ∀ x ∈ l, I64 x := by
  rcases open_slice Try.underlying26 h with ⟨hcs, -⟩ | ⟨a, len', cap', k, n, D, Pl, hcs, -, hlc, -, hk, -, hf⟩
  · simp at hcs
    exact ⟨none, 0, 0, [], hcs, Reads.none_, by simp⟩
  · simp only [if_true] at hk
    simp at hcs
    have hC : Try.prog.cellsOf 3 = 1 := by kernel_rfl
    rw [hC] at hf
    obtain ⟨l, hl, hp⟩ := choose_of len' (fun i (x : Int) => I64 x ∧ W.cell? (a.add i) = some (.int .i64 x)) fun i hi => by
      obtain ⟨cs', hc, ht⟩ := hf i (by omega)
      obtain ⟨x, rfl, -, hwf⟩ := DataW.trod_int Try.underlying3 ht
      obtain ⟨_, _, hat⟩ := World.cells?_some hc
      have h0 := hat (i := 0) (by omega)
      refine ⟨x, has64 hwf, ?_⟩
      rw [add_of_add, Nat.mul_one, Nat.add_zero] at h0
      rw [h0]; rfl
    refine ⟨some a, len', cap', l, hcs, ⟨by simp [DI, hl], fun hpos => ⟨a, rfl, ?_, fun j u hu => ?_⟩⟩, fun x hx => ?_⟩
    · obtain ⟨x, hx⟩ : ∃ x, l[0]? = some x := ⟨_, List.getElem?_eq_getElem (by omega)⟩
      have := World.block_lt_of_cell? W _ (hp 0 x hx).2
      rwa [block_of_add] at this
    · simp only [DI, List.getElem?_map] at hu
      cases hx : l[j]? with
      | none => rw [hx] at hu; cases hu
      | some x =>
        rw [hx] at hu
        injection hu with hu
        rw [← hu]
        exact (hp j x hx).2
    · obtain ⟨j, hj, rfl⟩ := List.getElem_of_mem hx
      exact (hp j _ (List.getElem?_eq_getElem hj)).1
set_option maxRecDepth 100000 in
theorem open_leaves {H : Type} {enc : TypeId × Value → H} {W : World} {base : Nat} {v : Value} {d : DataW H} {p : List MemPlace} (hv : Value.okWide Try.prog W .any base 22 v)
    (h : DataW.Trod enc Try.prog W 0 (fun _ => true) true 22 v d p) : ∃ A len cap xs, v = .slice A len cap ∧ xs.length = len ∧ (∀ x ∈ xs, Lf.rng x) ∧ LfAt W W.heap.size A xs := by
  obtain ⟨A, len, cap, rfl⟩ := okWide_slice Try.underlying22 hv
  obtain ⟨m, hm⟩ := h
  rcases open_slice_fields Try.underlying22 Try.underlying69 (by kernel_rfl) (by kernel_rfl) hm with ⟨hcs, -⟩ | ⟨a, len', cap', k, D, Pl, hcs, -, hlc, -, hk, -, hf⟩
  · simp [Value.cells] at hcs
    obtain ⟨rfl, rfl, rfl⟩ := hcs
    exact ⟨none, 0, 0, [], rfl, rfl, by simp, fun i x h => by cases h⟩
  · simp only [if_true] at hk
    simp [Value.cells] at hcs
    obtain ⟨rfl, rfl, rfl⟩ := hcs
    obtain ⟨fs, hl, hp⟩ := choose_of len (fun i (f : Lf) => f.rng ∧ ∃ A' c, Reads W W.heap.size 1 A' f.kids.length (DI f.kids) ∧ ∀ (j : Nat) (u : Value), ([.int .i64 f.op, .int .i64 f.n, .string (strOf f.name), .slice A' f.kids.length c] : List Value)[j]? = some u → W.cell? (a.add (i * 4 + j)) = some u) fun i hi => by
      obtain ⟨ys, n, -, -, hyl, hfj⟩ := hf i (by omega)
      obtain ⟨v0, z0, k0, -, t0⟩ := hfj 0 _ rfl
      obtain ⟨v1, z1, k1, -, t1⟩ := hfj 1 _ rfl
      obtain ⟨v2, z2, k2, -, t2⟩ := hfj 2 _ rfl
      obtain ⟨v3, z3, k3, -, t3⟩ := hfj 3 _ rfl
      obtain ⟨x0, e0, -, w0⟩ := DataW.trod_int Try.underlying3 t0
      obtain ⟨x1, e1, -, w1⟩ := DataW.trod_int Try.underlying2 t1
      obtain ⟨x2, e2, -, w2⟩ := DataW.trod_string Try.underlying9 t2
      obtain ⟨A', n', c', l, e3, r3, b3⟩ := open_dis t3
      simp at e0 e1 e2
      subst e0 e1 e2 e3
      have hln : l.length = n' := by have := r3.1; rw [length_DI] at this; omega
      subst hln
      have hbl : (bytesOf x2).length = x2.size := by rw [← strOf_size, strOf_bytesOf]
      refine ⟨⟨x0, x1, bytesOf x2, l⟩, ⟨has64 w0, has64 w1, bytesOf_lt _, by dsimp only; rw [hbl]; exact w2⟩, A', c', r3, fun j u hu => ?_⟩
      · simp only [strOf_bytesOf] at hu
        match j, hu with
        | 0, hu => simp at hu; subst hu; exact k0
        | 1, hu => simp at hu; subst hu; exact k1
        | 2, hu => simp at hu; subst hu; exact k2
        | 3, hu => simp at hu; subst hu; exact k3
        | j + 4, hu => simp at hu
    refine ⟨some a, len, cap, fs, rfl, hl, fun f hf0 => ?_, fun i x hx => ?_⟩
    · obtain ⟨j, hj, rfl⟩ := List.getElem_of_mem hf0
      exact (hp j _ (List.getElem?_eq_getElem hj)).1
    · obtain ⟨-, A', c', r, hc⟩ := hp i x hx
      have hb := World.block_lt_of_cell? W _ (hc 0 _ rfl)
      rw [block_of_add] at hb
      exact ⟨a, A', c', rfl, hb, r, fun j u hu => by rw [add_of_add]; exact hc j u hu⟩
theorem LfAt.more {w : World} {B B' : Nat} {A : Option Addr} {xs : List Lf} (h : LfAt w B A xs) (hb : B ≤ B') : LfAt w B' A xs := fun i x hx => by
  obtain ⟨ad, A', c, e1, e2, e3, e4⟩ := h i x hx
  exact ⟨ad, A', c, e1, Nat.lt_of_lt_of_le e2 hb, e3.more hb, e4⟩
theorem KnAt.more {w : World} {B B' : Nat} {A : Option Addr} {xs : List Kn} (h : KnAt w B A xs) (hb : B ≤ B') : KnAt w B' A xs := fun i x hx => by
  obtain ⟨ad, A1, A2, c1, c2, e1, e2, e3, e3', e4⟩ := h i x hx
  exact ⟨ad, A1, A2, c1, c2, e1, Nat.lt_of_lt_of_le e2 hb, e3.more hb, e3'.more hb, e4⟩
set_option maxRecDepth 100000 in
theorem open_knots {H : Type} {enc : TypeId × Value → H} {W : World} {base : Nat} {v : Value} {d : DataW H} {p : List MemPlace} (hv : Value.okWide Try.prog W .any base 54 v)
    (h : DataW.Trod enc Try.prog W 0 (fun _ => true) true 54 v d p) : ∃ A len cap xs, v = .slice A len cap ∧ xs.length = len ∧ (∀ x ∈ xs, Kn.rng x) ∧ KnAt W W.heap.size A xs := by
  obtain ⟨A, len, cap, rfl⟩ := okWide_slice Try.underlying54 hv
  obtain ⟨m, hm⟩ := h
  rcases open_slice_fields Try.underlying54 Try.underlying74 (by kernel_rfl) (by kernel_rfl) hm with ⟨hcs, -⟩ | ⟨a, len', cap', k, D, Pl, hcs, -, hlc, -, hk, -, hf⟩
  · simp [Value.cells] at hcs
    obtain ⟨rfl, rfl, rfl⟩ := hcs
    exact ⟨none, 0, 0, [], rfl, rfl, by simp, fun i x h => by cases h⟩
  · simp only [if_true] at hk
    simp [Value.cells] at hcs
    obtain ⟨rfl, rfl, rfl⟩ := hcs
    obtain ⟨fs, hl, hp⟩ := choose_of len (fun i (f : Kn) => f.rng ∧ ∃ A1 A2 c1 c2, Reads W W.heap.size 1 A1 f.exprs.length (DI f.exprs) ∧ Reads W W.heap.size 1 A2 f.terms.length (DI f.terms) ∧ ∀ (j : Nat) (u : Value), ([.int .i64 f.op, .string (strOf f.name), .slice A1 f.exprs.length c1, .slice A2 f.terms.length c2] : List Value)[j]? = some u → W.cell? (a.add (i * 4 + j)) = some u) fun i hi => by
      obtain ⟨ys, n, -, -, hyl, hfj⟩ := hf i (by omega)
      obtain ⟨v0, z0, k0, -, t0⟩ := hfj 0 _ rfl
      obtain ⟨v1, z1, k1, -, t1⟩ := hfj 1 _ rfl
      obtain ⟨v2, z2, k2, -, t2⟩ := hfj 2 _ rfl
      obtain ⟨v3, z3, k3, -, t3⟩ := hfj 3 _ rfl
      obtain ⟨x0, e0, -, w0⟩ := DataW.trod_int Try.underlying3 t0
      obtain ⟨x2, e2, -, w2⟩ := DataW.trod_string Try.underlying9 t1
      obtain ⟨A1, n1, c1, l1, e1, r1, b1⟩ := open_dis t2
      obtain ⟨A2, n2, c2, l2, e3, r2, b2⟩ := open_dis t3
      simp at e0 e2
      subst e0 e1 e2 e3
      have hln : l1.length = n1 := by have := r1.1; rw [length_DI] at this; omega
      subst hln
      have hln2 : l2.length = n2 := by have := r2.1; rw [length_DI] at this; omega
      subst hln2
      have hbl : (bytesOf x2).length = x2.size := by rw [← strOf_size, strOf_bytesOf]
      refine ⟨⟨x0, bytesOf x2, l1, l2⟩, ⟨has64 w0, bytesOf_lt _, by dsimp only; rw [hbl]; exact w2⟩, A1, A2, c1, c2, r1, r2, fun j u hu => ?_⟩
      · simp only [strOf_bytesOf] at hu
        match j, hu with
        | 0, hu => simp at hu; subst hu; exact k0
        | 1, hu => simp at hu; subst hu; exact k1
        | 2, hu => simp at hu; subst hu; exact k2
        | 3, hu => simp at hu; subst hu; exact k3
        | j + 4, hu => simp at hu
    refine ⟨some a, len, cap, fs, rfl, hl, fun f hf0 => ?_, fun i x hx => ?_⟩
    · obtain ⟨j, hj, rfl⟩ := List.getElem_of_mem hf0
      exact (hp j _ (List.getElem?_eq_getElem hj)).1
    · obtain ⟨-, A1, A2, c1, c2, r1, r2, hc⟩ := hp i x hx
      have hb := World.block_lt_of_cell? W _ (hc 0 _ rfl)
      rw [block_of_add] at hb
      exact ⟨a, A1, A2, c1, c2, rfl, hb, r1, r2, fun j u hu => by rw [add_of_add]; exact hc j u hu⟩
theorem tell_text (t : Tm) (w : World) : Calls Try.prog 18 #[.string (strOf (prText (rightT t) (textR t)).1), .int .i64 (prText (rightT t) (textR t)).2, .bool (rightT t), .string (strOf (textR t))] w fun e w' => e = .returned (.bool true) ∧ Grow w w' := by
  have h := tell_any (rightT t) (textR t) w (textR_len t)
  have e : (if rightT t = true then textR t else []) = textR t := by
    cases hr : rightT t with
    | true => rfl
    | false => unfold textR; rw [hr]; rfl
  rwa [e] at h
theorem tell_lines (t : Tm) (w : World) : Calls Try.prog 18 #[.string (strOf (prText (rightT t) (linesR t)).1), .int .i64 (prText (rightT t) (linesR t)).2, .bool (rightT t), .string (strOf (linesR t))] w fun e w' => e = .returned (.bool true) ∧ Grow w w' := by
  have h := tell_any (rightT t) (linesR t) w (linesR_len t)
  have e : (if rightT t = true then linesR t else []) = linesR t := by
    cases hr : rightT t with
    | true => rfl
    | false => unfold linesR; rw [hr]; rfl
  rwa [e] at h
theorem walk_pterms (A AK : Option Addr) (n c nK cK : Nat) (xs : List Lf) (ks : List Kn) (W : World) (hl : xs.length = n) (hx : ∀ x ∈ xs, x.rng) (hr : LfAt W W.heap.size A xs) (hlK : ks.length = nK) (hxK : ∀ x ∈ ks, x.rng) (hrK : KnAt W W.heap.size AK ks) : Calls Try.prog 8 #[.slice A n c, .slice AK nK cK] W fun e w' => e = .returned (.bool true) ∧ Below W.heap.size W w' := by
  have bel := Below.refl W.heap.size W
  refine Calls.start 79 Try.func8 rfl rfl rfl ?_
  refine Cd.seq ?_
  refine Cd.region ?_
  refine Seq.val (Runs.assign rfl rfl) rfl rfl rfl ?_
  refine Seq.nil ?_
  refine Post.weak (F' := [(0, _), (1, _), (4, _)]) ⟨rfl, rfl, rfl, trivial⟩ ?_
  refine Post.then_ ?_
  refine Cd.seq ?_
  refine Cd.seq ?_
  refine Cd.region ?_
  refine Seq.val (Runs.move rfl rfl) rfl rfl rfl ?_
  refine Seq.val (Runs.move rfl rfl) rfl rfl rfl ?_
  refine Seq.call (Enters.func rfl rfl rfl (run_enter Try.func12 (by kernel_rfl) rfl)) rfl rfl rfl (greatK_any n c nK cK A AK _) ?_
  rintro e w5 ⟨rfl, hb5⟩
  refine ⟨_, rfl, ?_⟩
  replace bel := bel.step hb5
  refine Seq.nil ?_
  refine Post.weak (F' := [(0, _), (1, _), (4, _), (15, _)]) ⟨rfl, rfl, rfl, rfl, trivial⟩ ?_
  refine Post.then_ ?_
  refine Cd.cond rfl (fun hc => ?_) (fun hc => ?_)
  · skip
    refine Cd.seq ?_
    refine Cd.region ?_
    refine Seq.call (Enters.func rfl rfl rfl (run_enter Try.func13 (by kernel_rfl) rfl)) rfl rfl rfl (awake20_any _) ?_
    rintro e w6 ⟨rfl, hb6⟩
    refine ⟨_, rfl, ?_⟩
    replace bel := bel.step hb6
    refine Seq.val (Runs.assign rfl rfl) rfl rfl rfl ?_
    refine Seq.nil ?_
    refine Post.weak (F' := [(0, _), (1, _), (4, _), (15, _)]) ⟨rfl, rfl, rfl, rfl, trivial⟩ ?_
    refine Post.then_ ?_
    refine Cd.ret ?_
    refine Post.then_ret ?_
    refine Post.end1 rfl rfl (.inl rfl) ?_
    exact ⟨rfl, bel⟩
  have h60 : n ≤ 60 ∧ nK ≤ 60 := by simp at hc; omega
  refine Cd.skip ?_
  refine Post.then_ ?_
  refine Cd.seq ?_
  refine Cd.region ?_
  refine Seq.val (Runs.move rfl rfl) rfl rfl rfl ?_
  refine Seq.val (Runs.move rfl rfl) rfl rfl rfl ?_
  refine Seq.call (Enters.func rfl rfl rfl (run_enter Try.func14 (by kernel_rfl) rfl)) rfl rfl rfl (buildK_any n c nK cK A AK xs ks _ hl h60.1 hx ((hr.below bel).more bel.size) hlK h60.2 hxK ((hrK.below bel).more bel.size)) ?_
  rintro e w6 ⟨⟨v, rfl, hbr⟩, hb6⟩
  refine ⟨_, rfl, ?_⟩
  replace bel := bel.step hb6
  obtain ⟨AE, AN, AD, AT, AM, AP, cE, cN, cD, cT, cM, cP, hv, tr, tt⟩ := hbr.tree
  have hdep := termsOf_depth (treesOf xs) 60 (fun e he => Nat.le_trans (treesOf_depth xs e he) (by omega)) ks
  have hlen := termsOf_length (treesOf xs) ks
  clear hbr
  obtain ⟨es, hes⟩ : ∃ es, es = treesOf xs := ⟨_, rfl⟩
  obtain ⟨ts, hts⟩ : ∃ ts, ts = termsOf (treesOf xs) ks := ⟨_, rfl⟩
  rw [← hts] at hv tt hdep hlen
  rw [← hes] at hv tr
  unfold treeK at hv
  subst hv
  have bel0 := bel
  replace bel := Below.refl w6.heap.size w6
  refine Seq.alloc rfl (run_zero zero_debentureref18_Tree) rfl rfl rfl ?_
  intro g5 w1 n5
  have e5 := Nat.le_trans bel.size n5.ge
  replace bel := bel.step n5.below
  have k5 := n5.blk
  refine Seq.storeN rfl rfl rfl rfl (m := 6) (by kernel_rfl) rfl (by repeat' first | exact trivial | apply And.intro | rfl | assumption) k5 (by simp [Value.cells]) rfl rfl ?_
  intro w2 pw2
  replace bel := bel.put k5 pw2 e5
  replace k5 := pw2.blk
  refine Seq.nil ?_
  refine Post.weak (F' := [(0, _), (1, _), (4, _), (5, _), (15, _)]) ⟨rfl, rfl, rfl, rfl, rfl, trivial⟩ ?_
  refine Post.then_ ?_
  refine Cd.seq ?_
  refine Cd.seq ?_
  refine Cd.region ?_
  refine Seq.val (Runs.assign rfl rfl) rfl rfl rfl ?_
  refine Seq.nil ?_
  refine Post.weak (F' := [(0, _), (1, _), (4, _), (5, _), (6, _), (15, _)]) ⟨rfl, rfl, rfl, rfl, rfl, rfl, trivial⟩ ?_
  refine Post.then_ ?_
  refine Cd.block ?_
  refine Cd.loop (σ := Nat) (fun i => [(5, .pointer (some ⟨g5, 0, none⟩)), (6, .int .i64 (i : Int))]) (fun i wr => i ≤ ts.length ∧ Below w6.heap.size w6 wr ∧ Blk wr g5 29 #[.slice AE es.length cE, .slice AN es.length cN, .slice AD es.length cD, .slice AT ts.length cT, .slice AM ts.length cM, .slice AP ts.length cP]) (fun i => ts.length - i) 0 ⟨Nat.zero_le _, bel, k5⟩ ⟨rfl, rfl, trivial⟩ ?_
  clear bel k5
  rintro i wr ⟨hi, bel, k5⟩
  refine Cd.seq ?_
  refine Cd.seq ?_
  refine Cd.region ?_
  refine Seq.val (Runs.move rfl rfl) rfl rfl rfl ?_
  refine Seq.val (Runs.fieldB 3 rfl rfl Try.underlying29 rfl (by kernel_rfl)) rfl rfl rfl ?_
  refine Seq.val (Runs.loadB rfl rfl Try.underlying27 rfl k5 rfl) rfl rfl rfl ?_
  refine Seq.val (Runs.len rfl rfl Try.underlying27) rfl rfl rfl ?_
  refine Seq.val (Runs.lss rfl rfl rfl) rfl rfl rfl ?_
  refine Seq.nil ?_
  refine Post.weak (F' := [(5, _), (6, _), (24, _)]) ⟨rfl, rfl, rfl, trivial⟩ ?_
  refine Post.then_ ?_
  refine Cd.condD rfl (fun hc => ?_) (fun hc => ?_)
  · obtain ⟨t, ht⟩ : ∃ t, ts[i]? = some t := ⟨_, List.getElem?_eq_getElem (by omega)⟩
    have hde := hdep t (List.mem_of_getElem? ht)
    obtain ⟨ad, A1, A2, d1, d2, rfl, hadb, hrep, hcell⟩ := tt.term i t ht
    have hcE : ∀ W', Below w6.heap.size w6 W' → ∀ (q : Nat) (u : Value), ([.int .i64 t.op, .string (strOf t.name), .slice A1 t.exprs.length d1, .slice A2 t.terms.length d2] : List Value)[q]? = some u → W'.cell? ((ad.add (i * 4)).add q) = some u := fun W' hW q u hq => (hW.cell (by rw [block_of_add, block_of_add]; exact hadb)).trans (hcell q u hq)
    have hrepC : ∀ W', Below w6.heap.size w6 W' → RepB W' W'.heap.size t _ := fun W' hb => (hrep.below hb).more hb.size
    have hright : ∀ W', Below w6.heap.size w6 W' → Calls Try.prog 30 #[.agg #[.slice AE es.length cE, .slice AN es.length cN, .slice AD es.length cD, .slice (some ad) ts.length cT, .slice AM ts.length cM, .slice AP ts.length cP], .int .i64 (i : Int)] W' fun en w' => en = .returned (.bool (rightT t)) ∧ Grow W' w' := fun W' hb => treeRightT_any i es.length cE cN cD cT cM cP AE AN AD (some ad) AM AP ts t W' ((tt.below hb).more hb.size) ht
    refine Cd.skip ?_
    refine Post.then_ ?_
    refine Cd.seq ?_
    refine Cd.block ?_
    refine Cd.seq ?_
    refine Cd.region ?_
    refine Seq.val (Runs.fieldB 3 rfl rfl Try.underlying29 rfl (by kernel_rfl)) rfl rfl rfl ?_
    refine Seq.val (Runs.loadB rfl rfl Try.underlying27 rfl k5 rfl) rfl rfl rfl ?_
    refine Seq.val (Runs.move rfl rfl) rfl rfl rfl ?_
    refine Seq.val (Runs.indexN rfl rfl rfl Try.underlying27 (s := 4) (by kernel_rfl) (j := i) rfl (by omega)) rfl rfl rfl ?_
    refine Seq.val (Runs.loadF (ps := [.int .i64 t.op, .string (strOf t.name), .slice A1 t.exprs.length d1, .slice A2 t.terms.length d2]) rfl rfl Try.underlying57 rfl (m := 4) (by kernel_rfl) rfl (hcE _ bel)) rfl rfl rfl ?_
    refine Seq.call (Enters.func rfl rfl rfl (run_enter Try.func28 (by kernel_rfl) rfl)) rfl rfl rfl (printTerm_any t _ _ (by omega) (hrepC _ bel)) ?_
    rintro en w7 ⟨rfl, hb7⟩
    refine ⟨_, rfl, ?_⟩
    replace bel := bel.step hb7
    replace k5 := k5.step hb7
    refine Seq.val (Runs.move rfl rfl) rfl rfl rfl ?_
    refine Seq.val (Runs.extract rfl rfl rfl) rfl rfl rfl ?_
    refine Seq.val (Runs.extract rfl rfl rfl) rfl rfl rfl ?_
    refine Seq.val (Runs.assign rfl rfl) rfl rfl rfl ?_
    refine Seq.val (Runs.assign rfl rfl) rfl rfl rfl ?_
    refine Seq.nil ?_
    refine Post.weak (F' := [(5, _), (6, _), (7, _), (8, _), (24, _)]) ⟨rfl, rfl, rfl, rfl, rfl, trivial⟩ ?_
    refine Post.then_ ?_
    refine Cd.seq ?_
    refine Cd.region ?_
    refine Seq.val (Runs.fieldB 3 rfl rfl Try.underlying29 rfl (by kernel_rfl)) rfl rfl rfl ?_
    refine Seq.val (Runs.loadB rfl rfl Try.underlying27 rfl k5 rfl) rfl rfl rfl ?_
    refine Seq.val (Runs.move rfl rfl) rfl rfl rfl ?_
    refine Seq.val (Runs.indexN rfl rfl rfl Try.underlying27 (s := 4) (by kernel_rfl) (j := i) rfl (by omega)) rfl rfl rfl ?_
    refine Seq.val (Runs.loadF (ps := [.int .i64 t.op, .string (strOf t.name), .slice A1 t.exprs.length d1, .slice A2 t.terms.length d2]) rfl rfl Try.underlying57 rfl (m := 4) (by kernel_rfl) rfl (hcE _ bel)) rfl rfl rfl ?_
    refine Seq.call (Enters.func rfl rfl rfl (run_enter Try.func29 (by kernel_rfl) rfl)) rfl rfl rfl (printLines_any t _ _ (by omega) (hrepC _ bel)) ?_
    rintro en w8 ⟨rfl, hb8⟩
    refine ⟨_, rfl, ?_⟩
    replace bel := bel.step hb8
    replace k5 := k5.step hb8
    refine Seq.val (Runs.move rfl rfl) rfl rfl rfl ?_
    refine Seq.val (Runs.extract rfl rfl rfl) rfl rfl rfl ?_
    refine Seq.val (Runs.extract rfl rfl rfl) rfl rfl rfl ?_
    refine Seq.val (Runs.assign rfl rfl) rfl rfl rfl ?_
    refine Seq.val (Runs.assign rfl rfl) rfl rfl rfl ?_
    refine Seq.nil ?_
    refine Post.weak (F' := [(5, _), (6, _), (7, _), (8, _), (9, _), (10, _), (24, _)]) ⟨rfl, rfl, rfl, rfl, rfl, rfl, rfl, trivial⟩ ?_
    refine Post.then_ ?_
    refine Cd.seq ?_
    refine Cd.region ?_
    refine Seq.val (Runs.assign rfl rfl) rfl rfl rfl ?_
    refine Seq.val (Runs.assign rfl rfl) rfl rfl rfl ?_
    refine Seq.nil ?_
    refine Post.weak (F' := [(5, _), (6, _), (7, _), (8, _), (9, _), (10, _), (11, _), (12, _), (24, _)]) ⟨rfl, rfl, rfl, rfl, rfl, rfl, rfl, rfl, rfl, trivial⟩ ?_
    refine Post.then_ ?_
    refine Cd.seqJ (σ := Unit) (fun _ => [(5, .pointer (some ⟨g5, 0, none⟩)), (6, .int .i64 (i : Int)), (7, .string (strOf (prText (rightT t) (textR t)).1)), (8, .int .i64 (prText (rightT t) (textR t)).2), (9, .string (strOf (prText (rightT t) (linesR t)).1)), (10, .int .i64 (prText (rightT t) (linesR t)).2), (11, .string (strOf (textR t))), (12, .string (strOf (linesR t)))]) (fun _ wr => Below w6.heap.size w6 wr ∧ Blk wr g5 29 #[.slice AE es.length cE, .slice AN es.length cN, .slice AD es.length cD, .slice (some ad) ts.length cT, .slice AM ts.length cM, .slice AP ts.length cP]) ?_ ?_
    · skip
      refine Cd.seq ?_
      refine Cd.region ?_
      refine Seq.val (Runs.loadW rfl rfl Try.underlying29 rfl k5 (m := 6) (by kernel_rfl) rfl) rfl rfl rfl ?_
      refine Seq.val (Runs.move rfl rfl) rfl rfl rfl ?_
      refine Seq.call (Enters.func rfl rfl rfl (run_enter Try.func30 (by kernel_rfl) rfl)) rfl rfl rfl (hright _ bel) ?_
      rintro en w9 ⟨rfl, hb9⟩
      refine ⟨_, rfl, ?_⟩
      replace bel := bel.step hb9
      replace k5 := k5.step hb9
      refine Seq.nil ?_
      refine Post.weak (F' := [(5, _), (6, _), (7, _), (8, _), (9, _), (10, _), (11, _), (12, _), (24, _), (47, _)]) ⟨rfl, rfl, rfl, rfl, rfl, rfl, rfl, rfl, rfl, rfl, trivial⟩ ?_
      refine Post.then_ ?_
      refine Cd.cond rfl (fun hc2 => ?_) (fun hc2 => ?_)
      · obtain ⟨h1, h2, h3⟩ := rightT_spec hc2
        have e1 : textR t = termT t := by unfold textR; rw [if_pos hc2]
        have e2 : linesR t = linesT 0 t := by unfold linesR; rw [if_pos hc2]
        have hre1 : ∀ W', Below w6.heap.size w6 W' → Calls Try.prog 31 #[.agg #[.int .i64 t.op, .string (strOf t.name), .slice A1 t.exprs.length d1, .slice A2 t.terms.length d2]] W' fun en w' => en = .returned (.string (strOf (textR t))) ∧ Grow W' w' := fun W' hb => by
          rw [e1]
          exact refTerm_any t.nodes t _ _ W' (Nat.le_refl _) h1 h3 (hrepC _ hb) (Nat.le_refl _)
        have hre2 : ∀ W', Below w6.heap.size w6 W' → Calls Try.prog 32 #[.agg #[.int .i64 t.op, .string (strOf t.name), .slice A1 t.exprs.length d1, .slice A2 t.terms.length d2], .string (strOf [])] W' fun en w' => en = .returned (.string (strOf (linesR t))) ∧ Grow W' w' := fun W' hb => by
          rw [e2]
          exact refLines_any t.nodes t _ 0 _ W' (Nat.le_refl _) h1 h3 (by omega) (hrepC _ hb) (Nat.le_refl _)
        refine Cd.seq ?_
        refine Cd.region ?_
        refine Seq.val (Runs.fieldB 3 rfl rfl Try.underlying29 rfl (by kernel_rfl)) rfl rfl rfl ?_
        refine Seq.val (Runs.loadB rfl rfl Try.underlying27 rfl k5 rfl) rfl rfl rfl ?_
        refine Seq.val (Runs.move rfl rfl) rfl rfl rfl ?_
        refine Seq.val (Runs.indexN rfl rfl rfl Try.underlying27 (s := 4) (by kernel_rfl) (j := i) rfl (by omega)) rfl rfl rfl ?_
        refine Seq.val (Runs.loadF (ps := [.int .i64 t.op, .string (strOf t.name), .slice A1 t.exprs.length d1, .slice A2 t.terms.length d2]) rfl rfl Try.underlying57 rfl (m := 4) (by kernel_rfl) rfl (hcE _ bel)) rfl rfl rfl ?_
        refine Seq.call (Enters.func rfl rfl rfl (run_enter Try.func31 (by kernel_rfl) rfl)) rfl rfl rfl (hre1 _ bel) ?_
        rintro en w10 ⟨rfl, hb10⟩
        refine ⟨_, rfl, ?_⟩
        replace bel := bel.step hb10
        replace k5 := k5.step hb10
        refine Seq.val (Runs.assign rfl rfl) rfl rfl rfl ?_
        refine Seq.nil ?_
        refine Post.weak (F' := [(5, _), (6, _), (7, _), (8, _), (9, _), (10, _), (11, _), (12, _), (24, _), (47, _)]) ⟨rfl, rfl, rfl, rfl, rfl, rfl, rfl, rfl, rfl, rfl, trivial⟩ ?_
        refine Post.then_ ?_
        refine Cd.region ?_
        refine Seq.val (Runs.fieldB 3 rfl rfl Try.underlying29 rfl (by kernel_rfl)) rfl rfl rfl ?_
        refine Seq.val (Runs.loadB rfl rfl Try.underlying27 rfl k5 rfl) rfl rfl rfl ?_
        refine Seq.val (Runs.move rfl rfl) rfl rfl rfl ?_
        refine Seq.val (Runs.indexN rfl rfl rfl Try.underlying27 (s := 4) (by kernel_rfl) (j := i) rfl (by omega)) rfl rfl rfl ?_
        refine Seq.val (Runs.loadF (ps := [.int .i64 t.op, .string (strOf t.name), .slice A1 t.exprs.length d1, .slice A2 t.terms.length d2]) rfl rfl Try.underlying57 rfl (m := 4) (by kernel_rfl) rfl (hcE _ bel)) rfl rfl rfl ?_
        refine Seq.call (Enters.func rfl rfl rfl (run_enter Try.func32 (by kernel_rfl) rfl)) rfl rfl rfl (hre2 _ bel) ?_
        rintro en w11 ⟨rfl, hb11⟩
        refine ⟨_, rfl, ?_⟩
        replace bel := bel.step hb11
        replace k5 := k5.step hb11
        refine Seq.val (Runs.assign rfl rfl) rfl rfl rfl ?_
        refine Seq.nil ?_
        refine Post.weak (F' := [(5, _), (6, _), (7, _), (8, _), (9, _), (10, _), (11, _), (12, _), (24, _), (47, _)]) ⟨rfl, rfl, rfl, rfl, rfl, rfl, rfl, rfl, rfl, rfl, trivial⟩ ?_
        exact Post.join () ⟨rfl, rfl, rfl, rfl, rfl, rfl, rfl, rfl, trivial⟩ ⟨bel, k5⟩
      · have e1 : textR t = [] := by unfold textR; rw [hc2]; rfl
        have e2 : linesR t = [] := by unfold linesR; rw [hc2]; rfl
        refine Cd.skip ?_
        exact Post.join () ⟨rfl, rfl, rfl, rfl, rfl, rfl, by rw [e1]; rfl, by rw [e2]; rfl, trivial⟩ ⟨bel, k5⟩
    clear bel k5
    rintro u wj ⟨bel, k5⟩
    refine Cd.seq ?_
    refine Cd.region ?_
    refine Seq.val (Runs.move rfl rfl) rfl rfl rfl ?_
    refine Seq.val (Runs.move rfl rfl) rfl rfl rfl ?_
    refine Seq.val (Runs.loadW rfl rfl Try.underlying29 rfl k5 (m := 6) (by kernel_rfl) rfl) rfl rfl rfl ?_
    refine Seq.val (Runs.move rfl rfl) rfl rfl rfl ?_
    refine Seq.call (Enters.func rfl rfl rfl (run_enter Try.func30 (by kernel_rfl) rfl)) rfl rfl rfl (hright _ bel) ?_
    rintro en w12 ⟨rfl, hb12⟩
    refine ⟨_, rfl, ?_⟩
    replace bel := bel.step hb12
    replace k5 := k5.step hb12
    refine Seq.val (Runs.move rfl rfl) rfl rfl rfl ?_
    refine Seq.call (Enters.func rfl rfl rfl (run_enter Try.func18 (by kernel_rfl) rfl)) rfl rfl rfl (tell_text t _) ?_
    rintro en w13 ⟨rfl, hb13⟩
    refine ⟨_, rfl, ?_⟩
    replace bel := bel.step hb13
    replace k5 := k5.step hb13
    refine Seq.val (Runs.not rfl rfl) rfl rfl rfl ?_
    refine Seq.val (Runs.move rfl rfl) rfl rfl rfl ?_
    refine SeqC.start ?_
    refine SeqC.open rfl rfl rfl rfl rfl rfl rfl (fun hcx => Runs.move rfl rfl) ?_
    refine SeqC.next rfl rfl rfl rfl rfl rfl rfl (fun hcx => Runs.move rfl rfl) ?_
    refine SeqC.next rfl rfl rfl rfl rfl rfl rfl (fun hcx => Runs.loadW rfl rfl Try.underlying29 rfl k5 (m := 6) (by kernel_rfl) rfl) ?_
    refine SeqC.next rfl rfl rfl rfl rfl rfl rfl (fun hcx => Runs.move rfl rfl) ?_
    refine SeqC.nextC rfl rfl rfl rfl rfl rfl rfl (fun hcx => Enters.func rfl rfl rfl (run_enter Try.func30 (by kernel_rfl) rfl)) (fun hcx => hright _ bel) ?_
    intro w3 hw3
    replace bel := bel.step hw3
    replace k5 := k5.step hw3
    refine SeqC.next rfl rfl rfl rfl rfl rfl rfl (fun hcx => Runs.move rfl rfl) ?_
    refine SeqC.nextC rfl rfl rfl rfl rfl rfl rfl (fun hcx => Enters.func rfl rfl rfl (run_enter Try.func18 (by kernel_rfl) rfl)) (fun hcx => tell_lines t _) ?_
    intro w4 hw4
    replace bel := bel.step hw4
    replace k5 := k5.step hw4
    refine SeqC.next rfl rfl rfl rfl rfl rfl rfl (fun hcx => Runs.not rfl rfl) ?_
    refine SeqC.or rfl rfl rfl rfl rfl rfl rfl ?_
    refine Seq.nil ?_
    refine Post.weak (F' := [(5, _), (6, _), (7, _), (8, _), (9, _), (10, _), (11, _), (12, _), (77, _)]) ⟨rfl, rfl, rfl, rfl, rfl, rfl, rfl, rfl, rfl, trivial⟩ ?_
    refine Post.then_ ?_
    refine Cd.condF rfl rfl ?_
    refine Cd.skip ?_
    refine Post.block_normal ?_
    refine Post.then_ ?_
    refine Cd.region ?_
    refine Seq.val (Runs.move rfl rfl) rfl rfl rfl ?_
    refine Seq.val (Runs.addI rfl rfl rfl (by omega) (by omega)) rfl rfl rfl ?_
    refine Seq.val (Runs.assign rfl rfl) rfl rfl rfl ?_
    refine Seq.nil ?_
    refine Post.weak (F' := [(5, _), (6, _), (7, _), (8, _), (9, _), (10, _), (11, _), (12, _), (77, _)]) ⟨rfl, rfl, rfl, rfl, rfl, rfl, rfl, rfl, rfl, trivial⟩ ?_
    exact Post.round (i + 1) ⟨rfl, rfl, trivial⟩ ⟨by omega, bel, k5⟩ (by omega)
  · skip
    refine Cd.exit ?_
    refine Post.then_exit ?_
    refine Post.round_exit ?_
    refine Post.block_exit ?_
    refine Post.then_ ?_
    refine Cd.seq ?_
    refine Cd.region ?_
    refine Seq.call (Enters.func rfl rfl rfl (run_enter Try.func13 (by kernel_rfl) rfl)) rfl rfl rfl (awake20_any _) ?_
    rintro e w7 ⟨rfl, hb7⟩
    refine ⟨_, rfl, ?_⟩
    replace bel := bel.step hb7
    replace k5 := k5.step hb7
    refine Seq.val (Runs.assign rfl rfl) rfl rfl rfl ?_
    refine Seq.nil ?_
    refine Post.weak (F' := [(4, _), (5, _), (6, _), (24, _)]) ⟨rfl, rfl, rfl, rfl, trivial⟩ ?_
    refine Post.then_ ?_
    refine Cd.ret ?_
    refine Post.end1 rfl rfl (.inl rfl) ?_
    exact ⟨rfl, bel0.trans (bel.mono bel0.size)⟩
namespace PrintTerms
theorem own : ownKnob Try.prog.godebug = none := by kernel_rfl
theorem laidOut : laidOutB Try.prog = true := by kernel_rfl
set_option maxRecDepth 100000 in
theorem lifted (os : Os) (started : os.Started) (H : Type) (enc : TypeId × Value → H) :
    ReturnsInHanded {} Try.checked os 8 .any (Rows.printTermsSpec.pre6 enc Try.prog Try.f8 Rows.printTermsRow.domain false) (Rows.printTermsSpec.post enc Try.prog Try.f8 false true false false) := by
  refine returnsInHanded_of_change (C := Try.checked) own started (by kernel_rfl) Try.func8
    (ChangeSpec.witness6 (enc := enc) (C := Try.checked) false ⟨#[], #[.slice none 0 0, .slice none 0 0], []⟩ 8 (by kernel_rfl) (by kernel_rfl) (by kernel_rfl) (by kernel_rfl)) ?_
  intro W base args ds gs before hval0 hW hcnd _
  have hval : ∀ (j : Nat) t v, Try.f8.params[j]? = some t → args[j]? = some v → Value.okWide Try.prog W .any base t v := hval0
  have hW' := hW
  obtain ⟨p, q, hA0, hV, rfl, hfz, hnd⟩ := hW
  have hA : DataW.TrodAll enc Try.prog W 0 (fun _ => true) true Try.f8.params.toList args.toList ds p := hA0
  rw [Try.params8] at hA hval
  obtain ⟨v0, vs0, d0, ds0, p0, q0, hargs, rfl, rfl, h0, r0⟩ := trodAll_cons hA
  obtain ⟨v1, vs1, d1, ds1, p1, q1, rfl, rfl, rfl, h1, r1⟩ := trodAll_cons r0
  obtain ⟨rfl, rfl, rfl⟩ := trodAll_nil r1
  obtain rfl : args = #[v0, v1] := by cases args; simp_all
  obtain ⟨rfl, rfl⟩ := trodVars_none hV
  have k0 := h0
  have lt0 : ∀ x ∈ p0, x.block < W.heap.size := by obtain ⟨m, hm⟩ := k0; exact DataW.trod_lt m _ _ _ hm
  have k1 := h1
  have lt1 : ∀ x ∈ p1, x.block < W.heap.size := by obtain ⟨m, hm⟩ := k1; exact DataW.trod_lt m _ _ _ hm
  obtain ⟨A, n, cap, xs, rfl, hl, hx, hr⟩ := open_leaves (hval 0 _ v0 rfl rfl) h0
  obtain ⟨AK, nK, capK, ks, rfl, hlK, hxK, hrK⟩ := open_knots (hval 1 _ v1 rfl rfl) h1
  clear hA0 hval0
  refine (walk_pterms A AK n cap nK capK xs ks W hl hx hr hlK hxK hrK).mono fun e W' ⟨he, bel⟩ => ?_
  subst he
  exact ⟨_, rfl, _, _, _, [], _, [], hW', trodAll_mk1 (shut_bool Try.underlying4 _), (trodAll_cons_mk (Below.trod laidOut (by kernel_rfl) (of_decide_eq_true (by kernel_rfl)) k0 bel lt0) (trodAll_cons_mk (Below.trod laidOut (by kernel_rfl) (of_decide_eq_true (by kernel_rfl)) k1 bel lt1) trodAll_mk0)), rfl, bel.frame _, fun h => by cases h⟩

theorem over : Rows.printTermsRow.holds Try.pinned (OpenSpec.ofChange Rows.printTermsSpec) :=
  OpenClaim.holds_of_wide 8 Try.f8 rfl rfl rfl rfl rfl rfl rfl ⟨rfl, rfl, rfl, rfl, rfl⟩ rfl rfl rfl rfl rfl (by kernel_rfl) Try.func8 (by kernel_rfl)
    (of_decide_eq_true (by kernel_rfl)) (by unfold Func.isWrapper; first | (rw [if_pos (by decide +kernel)]; kernel_rfl) | (rw [if_neg (by decide +kernel)]; exact ⟨rfl, rfl⟩))
    (fun os started H enc _ => lifted os started H enc)

theorem proved : Rows.PrintTermsSaid := over

end PrintTerms
end Go.Proofs.Ytijaldpmpjapiaa

/-
  PrintExprs: any expression's text, or that it has none. No condition.
-/
import Derived.Test.YtijaldpmpjapiaaM7
namespace Go.Proofs.Ytijaldpmpjapiaa
open Go.ChangeShapes Go.WideShapes Go.ChangeAt Go.Deep Go.RowKit

theorem choose_of {α : Type} (n : Nat) (p : Nat → α → Prop) (h : ∀ i, i < n → ∃ f, p i f) : ∃ l : List α, l.length = n ∧ ∀ i f, l[i]? = some f → p i f := by
  induction n with
  | zero => exact ⟨[], rfl, fun i f hf => by simp at hf⟩
  | succ n ih =>
    obtain ⟨l, hl, hp⟩ := ih fun i hi => h i (by omega)
    obtain ⟨x, hx⟩ := h n (by omega)
    refine ⟨l ++ [x], by simp [hl], fun i f hf => ?_⟩
    rcases Nat.lt_or_ge i n with hi | hi
    · rw [List.getElem?_append_left (by omega)] at hf
      exact hp i f hf
    · rw [List.getElem?_append_right (by omega)] at hf
      have h0 : i - l.length = 0 := by
        have := (List.getElem?_eq_some_iff.1 hf).1
        simp at this
        omega
      rw [h0] at hf
      simp at hf
      subst hf
      have : i = n := by omega
      subst this
      exact hx
theorem has64 {x : Int} (h : Lit.wf (.int .i64 x) = true) : I64 x := by
  simp only [Lit.wf, Bool.and_eq_true, decide_eq_true_eq] at h
  exact ⟨h.1, h.2⟩
section
variable {H : Type} {enc : TypeId × Value → H} {P : Program} {w : World} {base : Nat} {spare : Nat → Bool} {held : Bool}
theorem open_slice_fields {t e : TypeId} {fs : Array Field} {fuel : Nat} {cs : List Value} {x : DataW H × List MemPlace} (ht : P.underlying t = some (.slice e)) (he : P.underlying e = some (.struct fs))
    (hone : oneCellFields P fs = true) (hC : P.cellsOf e = fs.size) (h : DataW.trod enc P w base spare held fuel t cs = some x) :
    (cs = [.slice none 0 0] ∧ x = (.nil, [])) ∨
    ∃ (a : Addr) (len cap m : Nat) (D : Nat → DataW H) (Pl : Nat → List MemPlace), cs = [.slice (some a) len cap] ∧ base ≤ a.block ∧ len ≤ cap ∧ cap ≤ maxLen ∧ m = (if spare a.block then cap else len) ∧
      x = (.slice ((List.range len).map D) ((List.range (m - len)).map fun j => D (len + j)), MemPlace.row a (m * fs.size) ++ (List.range m).flatMap Pl) ∧
      ∀ i, i < m → ∃ (ys : List (DataW H × List MemPlace)) (n : Nat), D i = .agg (ys.map (·.1)) ∧ Pl i = ys.flatMap (·.2) ∧ ys.length = fs.size ∧
        ∀ (j : Nat) (f : Field), fs[j]? = some f → ∃ (v : Value) (y : DataW H × List MemPlace), w.cell? (a.add (i * fs.size + j)) = some v ∧ ys[j]? = some y ∧ DataW.trod enc P w base spare held n f.type [v] = some y := by
  rcases open_slice ht h with h0 | ⟨a, len, cap, m, n, D, Pl, hcs, hb, hl, hm, hmm, hx, hi⟩
  · exact .inl h0
  · refine .inr ⟨a, len, cap, m, D, Pl, hcs, hb, hl, hm, hmm, by rw [hC] at hx; exact hx, fun i him => ?_⟩
    obtain ⟨cs', hc, ht'⟩ := hi i him
    rw [hC] at hc
    obtain ⟨ys, n', hn', hy, hlen, hyl, hf⟩ := DataW.trod_struct he ht'
    obtain ⟨_, hcl, hat⟩ := World.cells?_some hc
    simp only [Prod.mk.injEq] at hy
    refine ⟨ys, n', hy.1, hy.2, hyl, fun j f hj => ?_⟩
    obtain ⟨ho, hk⟩ := hone_of hone j f hj
    have hjl : j < fs.size := (Array.getElem?_eq_some_iff.1 hj).1
    have hcell := hat j hjl
    have hv : cs'[j]? = some (cs'[j]'(by omega)) := List.getElem?_eq_getElem (by omega)
    have h1 := hf j f hj
    rw [ho, hk] at h1
    have hone' : (cs'.drop j).take 1 = [cs'[j]'(by omega)] := by
      rw [List.drop_eq_getElem_cons (by omega)]
      rfl
    rw [hone'] at h1
    have hys : ys[j]? = some (ys[j]'(by omega)) := List.getElem?_eq_getElem (by omega)
    refine ⟨_, _, ?_, hys, h1.trans hys⟩
    rw [← Go.Deep.add_add, hcell, hv]
end
set_option maxRecDepth 100000 in
theorem open_dis {H : Type} {enc : TypeId × Value → H} {W : World} {v : Value} {y : DataW H × List MemPlace} {m : Nat}
    (h : DataW.trod enc Try.prog W 0 (fun _ => true) true m 26 [v] = some y) : ∃ A len cap l, v = .slice A len cap ∧ Reads W W.heap.size 1 A len (DI l) ∧ ∀ x ∈ l, I64 x := by
  rcases open_slice Try.underlying26 h with ⟨hcs, -⟩ | ⟨a, len', cap', k, n, D, Pl, hcs, -, hlc, -, hk, -, hf⟩
  · simp at hcs
    exact ⟨none, 0, 0, [], hcs, Reads.none_, by simp⟩
  · simp only [if_true] at hk
    simp at hcs
    have hC : Try.prog.cellsOf 3 = 1 := by kernel_rfl
    rw [hC] at hf
    obtain ⟨l, hl, hp⟩ := choose_of len' (fun i (x : Int) => I64 x ∧ W.cell? (a.add i) = some (.int .i64 x)) fun i hi => by
      obtain ⟨cs', hc, ht⟩ := hf i (by omega)
      obtain ⟨x, rfl, -, hwf⟩ := DataW.trod_int Try.underlying3 ht
      obtain ⟨_, _, hat⟩ := World.cells?_some hc
      have h0 := hat (i := 0) (by omega)
      refine ⟨x, has64 hwf, ?_⟩
      rw [add_of_add, Nat.mul_one, Nat.add_zero] at h0
      rw [h0]; rfl
    refine ⟨some a, len', cap', l, hcs, ⟨by simp [DI, hl], fun hpos => ⟨a, rfl, ?_, fun j u hu => ?_⟩⟩, fun x hx => ?_⟩
    · obtain ⟨x, hx⟩ : ∃ x, l[0]? = some x := ⟨_, List.getElem?_eq_getElem (by omega)⟩
      have := World.block_lt_of_cell? W _ (hp 0 x hx).2
      rwa [block_of_add] at this
    · simp only [DI, List.getElem?_map] at hu
      cases hx : l[j]? with
      | none => rw [hx] at hu; cases hu
      | some x =>
        rw [hx] at hu
        injection hu with hu
        rw [← hu]
        exact (hp j x hx).2
    · obtain ⟨j, hj, rfl⟩ := List.getElem_of_mem hx
      exact (hp j _ (List.getElem?_eq_getElem hj)).1
set_option maxRecDepth 100000 in
theorem open_leaves {H : Type} {enc : TypeId × Value → H} {W : World} {base : Nat} {v : Value} {d : DataW H} {p : List MemPlace} (hv : Value.okWide Try.prog W .any base 22 v)
    (h : DataW.Trod enc Try.prog W 0 (fun _ => true) true 22 v d p) : ∃ A len cap xs, v = .slice A len cap ∧ xs.length = len ∧ (∀ x ∈ xs, Lf.rng x) ∧ LfAt W W.heap.size A xs := by
  obtain ⟨A, len, cap, rfl⟩ := okWide_slice Try.underlying22 hv
  obtain ⟨m, hm⟩ := h
  rcases open_slice_fields Try.underlying22 Try.underlying69 (by kernel_rfl) (by kernel_rfl) hm with ⟨hcs, -⟩ | ⟨a, len', cap', k, D, Pl, hcs, -, hlc, -, hk, -, hf⟩
  · simp [Value.cells] at hcs
    obtain ⟨rfl, rfl, rfl⟩ := hcs
    exact ⟨none, 0, 0, [], rfl, rfl, by simp, fun i x h => by cases h⟩
  · simp only [if_true] at hk
    simp [Value.cells] at hcs
    obtain ⟨rfl, rfl, rfl⟩ := hcs
    obtain ⟨fs, hl, hp⟩ := choose_of len (fun i (f : Lf) => f.rng ∧ ∃ A' c, Reads W W.heap.size 1 A' f.kids.length (DI f.kids) ∧ ∀ (j : Nat) (u : Value), ([.int .i64 f.op, .int .i64 f.n, .string (strOf f.name), .slice A' f.kids.length c] : List Value)[j]? = some u → W.cell? (a.add (i * 4 + j)) = some u) fun i hi => by
      obtain ⟨ys, n, -, -, hyl, hfj⟩ := hf i (by omega)
      obtain ⟨v0, z0, k0, -, t0⟩ := hfj 0 _ rfl
      obtain ⟨v1, z1, k1, -, t1⟩ := hfj 1 _ rfl
      obtain ⟨v2, z2, k2, -, t2⟩ := hfj 2 _ rfl
      obtain ⟨v3, z3, k3, -, t3⟩ := hfj 3 _ rfl
      obtain ⟨x0, e0, -, w0⟩ := DataW.trod_int Try.underlying3 t0
      obtain ⟨x1, e1, -, w1⟩ := DataW.trod_int Try.underlying2 t1
      obtain ⟨x2, e2, -, w2⟩ := DataW.trod_string Try.underlying9 t2
      obtain ⟨A', n', c', l, e3, r3, b3⟩ := open_dis t3
      simp at e0 e1 e2
      subst e0 e1 e2 e3
      have hln : l.length = n' := by have := r3.1; rw [length_DI] at this; omega
      subst hln
      have hbl : (bytesOf x2).length = x2.size := by rw [← strOf_size, strOf_bytesOf]
      refine ⟨⟨x0, x1, bytesOf x2, l⟩, ⟨has64 w0, has64 w1, bytesOf_lt _, by dsimp only; rw [hbl]; exact w2⟩, A', c', r3, fun j u hu => ?_⟩
      · simp only [strOf_bytesOf] at hu
        match j, hu with
        | 0, hu => simp at hu; subst hu; exact k0
        | 1, hu => simp at hu; subst hu; exact k1
        | 2, hu => simp at hu; subst hu; exact k2
        | 3, hu => simp at hu; subst hu; exact k3
        | j + 4, hu => simp at hu
    refine ⟨some a, len, cap, fs, rfl, hl, fun f hf0 => ?_, fun i x hx => ?_⟩
    · obtain ⟨j, hj, rfl⟩ := List.getElem_of_mem hf0
      exact (hp j _ (List.getElem?_eq_getElem hj)).1
    · obtain ⟨-, A', c', r, hc⟩ := hp i x hx
      have hb := World.block_lt_of_cell? W _ (hc 0 _ rfl)
      rw [block_of_add] at hb
      exact ⟨a, A', c', rfl, hb, r, fun j u hu => by rw [add_of_add]; exact hc j u hu⟩
theorem LfAt.more {w : World} {B B' : Nat} {A : Option Addr} {xs : List Lf} (h : LfAt w B A xs) (hb : B ≤ B') : LfAt w B' A xs := fun i x hx => by
  obtain ⟨ad, A', c, e1, e2, e3, e4⟩ := h i x hx
  exact ⟨ad, A', c, e1, Nat.lt_of_lt_of_le e2 hb, e3.more hb, e4⟩
theorem TreeR.more {w : World} {B B' : Nat} {es : List Ex} {AE AN AD : Option Addr} (h : TreeR w B es AE AN AD) (hb : B ≤ B') : TreeR w B' es AE AN AD :=
  ⟨fun i e he => by
    obtain ⟨ad, A', c', e1, e2, e3, e4⟩ := h.expr i e he
    exact ⟨ad, A', c', e1, Nat.lt_of_lt_of_le e2 hb, e3.more hb, e4⟩, h.nodes.more hb, h.deps.more hb⟩
theorem walk_pexprs (A : Option Addr) (n c : Nat) (xs : List Lf) (W : World) (hl : xs.length = n) (hx : ∀ x ∈ xs, x.rng) (hr : LfAt W W.heap.size A xs) : Calls Try.prog 3 #[.slice A n c] W fun e w' => e = .returned (.bool true) ∧ Below W.heap.size W w' := by
  have bel := Below.refl W.heap.size W
  refine Calls.start 47 Try.func3 rfl rfl rfl ?_
  refine Cd.seq ?_
  refine Cd.region ?_
  refine Seq.val (Runs.assign rfl rfl) rfl rfl rfl ?_
  refine Seq.nil ?_
  refine Post.weak (F' := [(0, _), (2, _)]) ⟨rfl, rfl, trivial⟩ ?_
  refine Post.then_ ?_
  refine Cd.seq ?_
  refine Cd.seq ?_
  refine Cd.region ?_
  refine Seq.val (Runs.move rfl rfl) rfl rfl rfl ?_
  refine Seq.call (Enters.func rfl rfl rfl (run_enter Try.func12 (by kernel_rfl) rfl)) rfl rfl rfl (great_any n c A _) ?_
  rintro e w5 ⟨rfl, hb5⟩
  refine ⟨_, rfl, ?_⟩
  replace bel := bel.step hb5
  refine Seq.nil ?_
  refine Post.weak (F' := [(0, _), (2, _), (9, _)]) ⟨rfl, rfl, rfl, trivial⟩ ?_
  refine Post.then_ ?_
  refine Cd.condD rfl (fun hc => ?_) (fun hc => ?_)
  · skip
    refine Cd.seq ?_
    refine Cd.region ?_
    refine Seq.call (Enters.func rfl rfl rfl (run_enter Try.func13 (by kernel_rfl) rfl)) rfl rfl rfl (awake20_any _) ?_
    rintro e w6 ⟨rfl, hb6⟩
    refine ⟨_, rfl, ?_⟩
    replace bel := bel.step hb6
    refine Seq.val (Runs.assign rfl rfl) rfl rfl rfl ?_
    refine Seq.nil ?_
    refine Post.weak (F' := [(0, _), (2, _), (9, _)]) ⟨rfl, rfl, rfl, trivial⟩ ?_
    refine Post.then_ ?_
    refine Cd.ret ?_
    refine Post.then_ret ?_
    refine Post.end1 rfl rfl (.inl rfl) ?_
    exact ⟨rfl, bel⟩
  refine Cd.skip ?_
  refine Post.then_ ?_
  refine Cd.seq ?_
  refine Cd.region ?_
  refine Seq.val (Runs.move rfl rfl) rfl rfl rfl ?_
  refine Seq.call (Enters.func rfl rfl rfl (run_enter Try.func14 (by kernel_rfl) rfl)) rfl rfl rfl (build_any n c A xs _ hl (by omega) hx ((hr.below bel).more bel.size)) ?_
  rintro e w6 ⟨⟨v, rfl, hbr⟩, hb6⟩
  refine ⟨_, rfl, ?_⟩
  replace bel := bel.step hb6
  obtain ⟨AE, AN, AD, cE, cN, cD, hv, tr⟩ := hbr.tree
  have hdep := treesOf_depth xs
  have hlen := treesOf_length xs
  clear hbr
  obtain ⟨es, hes⟩ : ∃ es, es = treesOf xs := ⟨_, rfl⟩
  rw [← hes] at hv tr hdep hlen
  have hv0 := hv
  unfold treeV at hv
  subst hv
  have bel0 := bel
  replace bel := Below.refl w6.heap.size w6
  refine Seq.alloc rfl (run_zero zero_debentureref18_Tree) rfl rfl rfl ?_
  intro g3 w1 n3
  have e3 := Nat.le_trans bel.size n3.ge
  replace bel := bel.step n3.below
  have k3 := n3.blk
  refine Seq.storeN rfl rfl rfl rfl (m := 6) (by kernel_rfl) rfl (by repeat' first | exact trivial | apply And.intro | rfl | assumption) k3 (by simp [Value.cells]) rfl rfl ?_
  intro w2 pw2
  replace bel := bel.put k3 pw2 e3
  replace k3 := pw2.blk
  refine Seq.nil ?_
  refine Post.weak (F' := [(0, _), (2, _), (3, _), (9, _)]) ⟨rfl, rfl, rfl, rfl, trivial⟩ ?_
  refine Post.then_ ?_
  refine Cd.seq ?_
  refine Cd.seq ?_
  refine Cd.region ?_
  refine Seq.val (Runs.assign rfl rfl) rfl rfl rfl ?_
  refine Seq.nil ?_
  refine Post.weak (F' := [(0, _), (2, _), (3, _), (4, _), (9, _)]) ⟨rfl, rfl, rfl, rfl, rfl, trivial⟩ ?_
  refine Post.then_ ?_
  refine Cd.block ?_
  refine Cd.loop (σ := Nat) (fun i => [(3, .pointer (some ⟨g3, 0, none⟩)), (4, .int .i64 (i : Int))]) (fun i wr => i ≤ es.length ∧ Below w6.heap.size w6 wr ∧ Blk wr g3 29 #[.slice AE es.length cE, .slice AN es.length cN, .slice AD es.length cD, .slice none 0 0, .slice none 0 0, .slice none 0 0]) (fun i => es.length - i) 0 ⟨Nat.zero_le _, bel, k3⟩ ⟨rfl, rfl, trivial⟩ ?_
  clear bel k3
  rintro i wr ⟨hi, bel, k3⟩
  refine Cd.seq ?_
  refine Cd.seq ?_
  refine Cd.region ?_
  refine Seq.val (Runs.move rfl rfl) rfl rfl rfl ?_
  refine Seq.val (Runs.fieldB 0 rfl rfl Try.underlying29 rfl (by kernel_rfl)) rfl rfl rfl ?_
  refine Seq.val (Runs.loadB rfl rfl Try.underlying25 rfl k3 rfl) rfl rfl rfl ?_
  refine Seq.val (Runs.len rfl rfl Try.underlying25) rfl rfl rfl ?_
  refine Seq.val (Runs.lss rfl rfl rfl) rfl rfl rfl ?_
  refine Seq.nil ?_
  refine Post.weak (F' := [(3, _), (4, _), (17, _)]) ⟨rfl, rfl, rfl, trivial⟩ ?_
  refine Post.then_ ?_
  refine Cd.condD rfl (fun hc => ?_) (fun hc => ?_)
  · obtain ⟨e, he⟩ : ∃ e, es[i]? = some e := ⟨_, List.getElem?_eq_getElem (by omega)⟩
    have hde := hdep e (List.mem_of_getElem? he)
    obtain ⟨ad, A', c', rfl, hadb, hrep, hcell⟩ := tr.expr i e he
    have hcE : ∀ W', Below w6.heap.size w6 W' → ∀ (q : Nat) (u : Value), ([.int .i64 e.op, .int .i64 e.n, .string (strOf e.name), .slice A' e.args.length c'] : List Value)[q]? = some u → W'.cell? ((ad.add (i * 4)).add q) = some u := fun W' hW q u hq => (hW.cell (by rw [block_of_add, block_of_add]; exact hadb)).trans (hcell q u hq)
    have hrepC : ∀ W', Below w6.heap.size w6 W' → Rep W' W'.heap.size e _ := fun W' hb => (hrep.below hb).more hb.size
    have hright : ∀ W', Below w6.heap.size w6 W' → Calls Try.prog 16 #[.agg #[.slice (some ad) es.length cE, .slice AN es.length cN, .slice AD es.length cD, .slice none 0 0, .slice none 0 0, .slice none 0 0], .int .i64 (i : Int)] W' fun en w' => en = .returned (.bool (rightB e)) ∧ Grow W' w' := fun W' hb => treeRight_any i cE cN cD (some ad) AN AD es e W' ((tr.below hb).more hb.size) he
    obtain ⟨T, hTd⟩ : ∃ T, T = if rightB e = true then exprT e else [] := ⟨_, rfl⟩
    have hpr : printE e = prText (rightB e) T := by
      rw [hTd]
      unfold printE prText
      cases rightB e <;> rfl
    have hTl : T.length ≤ 1000000 := by
      rw [hTd]
      split
      · rename_i h
        unfold rightB at h
        simp at h
        have := (exprT_bd e.nodes e (Nat.le_refl _) h.2).1
        omega
      · simp
    have htell : ∀ W', Calls Try.prog 18 #[.string (strOf (printE e).1), .int .i64 (printE e).2, .bool (rightB e), .string (strOf T)] W' fun e w' => e = .returned (.bool true) ∧ Grow W' w' := fun W' => by
      have h := tell_any (rightB e) T W' hTl
      rw [← hpr] at h
      have hTT : (if rightB e = true then T else []) = T := by
        cases hrb : rightB e with
        | true => rfl
        | false => rw [hTd, hrb]; rfl
      rw [hTT] at h
      exact h
    refine Cd.skip ?_
    refine Post.then_ ?_
    refine Cd.seq ?_
    refine Cd.block ?_
    refine Cd.seq ?_
    refine Cd.region ?_
    refine Seq.val (Runs.fieldB 0 rfl rfl Try.underlying29 rfl (by kernel_rfl)) rfl rfl rfl ?_
    refine Seq.val (Runs.loadB rfl rfl Try.underlying25 rfl k3 rfl) rfl rfl rfl ?_
    refine Seq.val (Runs.move rfl rfl) rfl rfl rfl ?_
    refine Seq.val (Runs.indexN rfl rfl rfl Try.underlying25 (s := 4) (by kernel_rfl) (j := i) rfl (by omega)) rfl rfl rfl ?_
    refine Seq.val (Runs.loadF (ps := [.int .i64 e.op, .int .i64 e.n, .string (strOf e.name), .slice A' e.args.length c']) rfl rfl Try.underlying35 rfl (m := 4) (by kernel_rfl) rfl (hcE _ bel)) rfl rfl rfl ?_
    refine Seq.call (Enters.func rfl rfl rfl (run_enter Try.func15 (by kernel_rfl) rfl)) rfl rfl rfl (printExpr_any e _ _ (by omega) (hrepC _ bel)) ?_
    rintro en w7 ⟨rfl, hb7⟩
    refine ⟨_, rfl, ?_⟩
    replace bel := bel.step hb7
    replace k3 := k3.step hb7
    refine Seq.val (Runs.move rfl rfl) rfl rfl rfl ?_
    refine Seq.val (Runs.extract rfl rfl rfl) rfl rfl rfl ?_
    refine Seq.val (Runs.extract rfl rfl rfl) rfl rfl rfl ?_
    refine Seq.val (Runs.assign rfl rfl) rfl rfl rfl ?_
    refine Seq.val (Runs.assign rfl rfl) rfl rfl rfl ?_
    refine Seq.nil ?_
    refine Post.weak (F' := [(3, _), (4, _), (5, _), (6, _), (17, _)]) ⟨rfl, rfl, rfl, rfl, rfl, trivial⟩ ?_
    refine Post.then_ ?_
    refine Cd.seq ?_
    refine Cd.region ?_
    refine Seq.val (Runs.assign rfl rfl) rfl rfl rfl ?_
    refine Seq.nil ?_
    refine Post.weak (F' := [(3, _), (4, _), (5, _), (6, _), (7, _), (17, _)]) ⟨rfl, rfl, rfl, rfl, rfl, rfl, trivial⟩ ?_
    refine Post.then_ ?_
    refine Cd.seq ?_
    refine Cd.seq ?_
    refine Cd.region ?_
    refine Seq.val (Runs.loadW rfl rfl Try.underlying29 rfl k3 (m := 6) (by kernel_rfl) rfl) rfl rfl rfl ?_
    refine Seq.val (Runs.move rfl rfl) rfl rfl rfl ?_
    refine Seq.call (Enters.func rfl rfl rfl (run_enter Try.func16 (by kernel_rfl) rfl)) rfl rfl rfl (hright _ bel) ?_
    rintro en w8 ⟨rfl, hb8⟩
    refine ⟨_, rfl, ?_⟩
    replace bel := bel.step hb8
    replace k3 := k3.step hb8
    refine Seq.nil ?_
    refine Post.weak (F' := [(3, _), (4, _), (5, _), (6, _), (7, _), (17, _), (31, _)]) ⟨rfl, rfl, rfl, rfl, rfl, rfl, rfl, trivial⟩ ?_
    refine Post.then_ ?_
    refine Cd.cond rfl (fun hc2 => ?_) (fun hc2 => ?_)
    · have hrb := hc2
      rw [if_pos hc2] at hTd
      unfold rightB at hc2
      simp at hc2
      have hre : ∀ W', Below w6.heap.size w6 W' → Calls Try.prog 17 #[.agg #[.int .i64 e.op, .int .i64 e.n, .string (strOf e.name), .slice A' e.args.length c']] W' fun en w' => en = .returned (.string (strOf T)) ∧ Grow W' w' := fun W' hb => by
        rw [hTd]
        exact refExpr_any e.nodes e _ _ W' (Nat.le_refl _) hc2.1.1 hc2.2 (hrepC _ hb) (Nat.le_refl _)
      refine Cd.region ?_
      refine Seq.val (Runs.fieldB 0 rfl rfl Try.underlying29 rfl (by kernel_rfl)) rfl rfl rfl ?_
      refine Seq.val (Runs.loadB rfl rfl Try.underlying25 rfl k3 rfl) rfl rfl rfl ?_
      refine Seq.val (Runs.move rfl rfl) rfl rfl rfl ?_
      refine Seq.val (Runs.indexN rfl rfl rfl Try.underlying25 (s := 4) (by kernel_rfl) (j := i) rfl (by omega)) rfl rfl rfl ?_
      refine Seq.val (Runs.loadF (ps := [.int .i64 e.op, .int .i64 e.n, .string (strOf e.name), .slice A' e.args.length c']) rfl rfl Try.underlying35 rfl (m := 4) (by kernel_rfl) rfl (hcE _ bel)) rfl rfl rfl ?_
      refine Seq.call (Enters.func rfl rfl rfl (run_enter Try.func17 (by kernel_rfl) rfl)) rfl rfl rfl (hre _ bel) ?_
      rintro en w9 ⟨rfl, hb9⟩
      refine ⟨_, rfl, ?_⟩
      replace bel := bel.step hb9
      replace k3 := k3.step hb9
      refine Seq.val (Runs.assign rfl rfl) rfl rfl rfl ?_
      refine Seq.nil ?_
      refine Post.weak (F' := [(3, _), (4, _), (5, _), (6, _), (7, _), (17, _), (31, _)]) ⟨rfl, rfl, rfl, rfl, rfl, rfl, rfl, trivial⟩ ?_
      refine Post.then_ ?_
      refine Cd.seq ?_
      refine Cd.region ?_
      refine Seq.val (Runs.move rfl rfl) rfl rfl rfl ?_
      refine Seq.val (Runs.move rfl rfl) rfl rfl rfl ?_
      refine Seq.val (Runs.loadW rfl rfl Try.underlying29 rfl k3 (m := 6) (by kernel_rfl) rfl) rfl rfl rfl ?_
      refine Seq.val (Runs.move rfl rfl) rfl rfl rfl ?_
      refine Seq.call (Enters.func rfl rfl rfl (run_enter Try.func16 (by kernel_rfl) rfl)) rfl rfl rfl (hright _ bel) ?_
      rintro en w10 ⟨rfl, hb10⟩
      refine ⟨_, rfl, ?_⟩
      replace bel := bel.step hb10
      replace k3 := k3.step hb10
      refine Seq.val (Runs.move rfl rfl) rfl rfl rfl ?_
      refine Seq.call (Enters.func rfl rfl rfl (run_enter Try.func18 (by kernel_rfl) rfl)) rfl rfl rfl (htell _) ?_
      rintro en w11 ⟨rfl, hb11⟩
      refine ⟨_, rfl, ?_⟩
      replace bel := bel.step hb11
      replace k3 := k3.step hb11
      refine Seq.val (Runs.not rfl rfl) rfl rfl rfl ?_
      refine Seq.nil ?_
      refine Post.weak (F' := [(3, _), (4, _), (5, _), (6, _), (7, _), (17, _), (31, _), (45, _)]) ⟨rfl, rfl, rfl, rfl, rfl, rfl, rfl, rfl, trivial⟩ ?_
      refine Post.then_ ?_
      refine Cd.condF rfl rfl ?_
      refine Cd.skip ?_
      refine Post.block_normal ?_
      refine Post.then_ ?_
      refine Cd.region ?_
      refine Seq.val (Runs.move rfl rfl) rfl rfl rfl ?_
      refine Seq.val (Runs.addI rfl rfl rfl (by omega) (by omega)) rfl rfl rfl ?_
      refine Seq.val (Runs.assign rfl rfl) rfl rfl rfl ?_
      refine Seq.nil ?_
      refine Post.weak (F' := [(3, _), (4, _), (5, _), (6, _), (7, _), (17, _), (31, _), (45, _)]) ⟨rfl, rfl, rfl, rfl, rfl, rfl, rfl, rfl, trivial⟩ ?_
      exact Post.round (i + 1) ⟨rfl, rfl, trivial⟩ ⟨by omega, bel, k3⟩ (by omega)
    · rw [if_neg (by rw [hc2]; decide)] at hTd
      subst hTd
      refine Cd.skip ?_
      refine Post.then_ ?_
      refine Cd.seq ?_
      refine Cd.region ?_
      refine Seq.val (Runs.move rfl rfl) rfl rfl rfl ?_
      refine Seq.val (Runs.move rfl rfl) rfl rfl rfl ?_
      refine Seq.val (Runs.loadW rfl rfl Try.underlying29 rfl k3 (m := 6) (by kernel_rfl) rfl) rfl rfl rfl ?_
      refine Seq.val (Runs.move rfl rfl) rfl rfl rfl ?_
      refine Seq.call (Enters.func rfl rfl rfl (run_enter Try.func16 (by kernel_rfl) rfl)) rfl rfl rfl (hright _ bel) ?_
      rintro en w10 ⟨rfl, hb10⟩
      refine ⟨_, rfl, ?_⟩
      replace bel := bel.step hb10
      replace k3 := k3.step hb10
      refine Seq.val (Runs.move rfl rfl) rfl rfl rfl ?_
      refine Seq.call (Enters.func rfl rfl rfl (run_enter Try.func18 (by kernel_rfl) rfl)) rfl rfl rfl (htell _) ?_
      rintro en w11 ⟨rfl, hb11⟩
      refine ⟨_, rfl, ?_⟩
      replace bel := bel.step hb11
      replace k3 := k3.step hb11
      refine Seq.val (Runs.not rfl rfl) rfl rfl rfl ?_
      refine Seq.nil ?_
      refine Post.weak (F' := [(3, _), (4, _), (5, _), (6, _), (7, _), (17, _), (31, _), (45, _)]) ⟨rfl, rfl, rfl, rfl, rfl, rfl, rfl, rfl, trivial⟩ ?_
      refine Post.then_ ?_
      refine Cd.condF rfl rfl ?_
      refine Cd.skip ?_
      refine Post.block_normal ?_
      refine Post.then_ ?_
      refine Cd.region ?_
      refine Seq.val (Runs.move rfl rfl) rfl rfl rfl ?_
      refine Seq.val (Runs.addI rfl rfl rfl (by omega) (by omega)) rfl rfl rfl ?_
      refine Seq.val (Runs.assign rfl rfl) rfl rfl rfl ?_
      refine Seq.nil ?_
      refine Post.weak (F' := [(3, _), (4, _), (5, _), (6, _), (7, _), (17, _), (31, _), (45, _)]) ⟨rfl, rfl, rfl, rfl, rfl, rfl, rfl, rfl, trivial⟩ ?_
      exact Post.round (i + 1) ⟨rfl, rfl, trivial⟩ ⟨by omega, bel, k3⟩ (by omega)
  · skip
    refine Cd.exit ?_
    refine Post.then_exit ?_
    refine Post.round_exit ?_
    refine Post.block_exit ?_
    refine Post.then_ ?_
    refine Cd.seq ?_
    refine Cd.region ?_
    refine Seq.call (Enters.func rfl rfl rfl (run_enter Try.func13 (by kernel_rfl) rfl)) rfl rfl rfl (awake20_any _) ?_
    rintro e w7 ⟨rfl, hb7⟩
    refine ⟨_, rfl, ?_⟩
    replace bel := bel.step hb7
    replace k3 := k3.step hb7
    refine Seq.val (Runs.assign rfl rfl) rfl rfl rfl ?_
    refine Seq.nil ?_
    refine Post.weak (F' := [(2, _), (3, _), (4, _), (17, _)]) ⟨rfl, rfl, rfl, rfl, trivial⟩ ?_
    refine Post.then_ ?_
    refine Cd.ret ?_
    refine Post.end1 rfl rfl (.inl rfl) ?_
    exact ⟨rfl, bel0.trans (bel.mono bel0.size)⟩
namespace PrintExprs
theorem own : ownKnob Try.prog.godebug = none := by kernel_rfl
theorem laidOut : laidOutB Try.prog = true := by kernel_rfl
set_option maxRecDepth 100000 in
theorem lifted (os : Os) (started : os.Started) (H : Type) (enc : TypeId × Value → H) :
    ReturnsInHanded {} Try.checked os 3 .any (Rows.printExprsSpec.pre6 enc Try.prog Try.f3 Rows.printExprsRow.domain false) (Rows.printExprsSpec.post enc Try.prog Try.f3 false true false false) := by
  refine returnsInHanded_of_change (C := Try.checked) own started (by kernel_rfl) Try.func3
    (ChangeSpec.witness6 (enc := enc) (C := Try.checked) false ⟨#[], #[.slice none 0 0], []⟩ 8 (by kernel_rfl) (by kernel_rfl) (by kernel_rfl) (by kernel_rfl)) ?_
  intro W base args ds gs before hval0 hW hcnd _
  have hval : ∀ (j : Nat) t v, Try.f3.params[j]? = some t → args[j]? = some v → Value.okWide Try.prog W .any base t v := hval0
  have hW' := hW
  obtain ⟨p, q, hA0, hV, rfl, hfz, hnd⟩ := hW
  have hA : DataW.TrodAll enc Try.prog W 0 (fun _ => true) true Try.f3.params.toList args.toList ds p := hA0
  rw [Try.params3] at hA hval
  obtain ⟨v0, vs0, d0, ds0, p0, q0, hargs, rfl, rfl, h0, r0⟩ := trodAll_cons hA
  obtain ⟨rfl, rfl, rfl⟩ := trodAll_nil r0
  obtain rfl : args = #[v0] := by cases args; simp_all
  obtain ⟨rfl, rfl⟩ := trodVars_none hV
  have k0 := h0
  have lt0 : ∀ x ∈ p0, x.block < W.heap.size := by obtain ⟨m, hm⟩ := k0; exact DataW.trod_lt m _ _ _ hm
  obtain ⟨A, n, cap, xs, rfl, hl, hx, hr⟩ := open_leaves (hval 0 _ v0 rfl rfl) h0
  clear hA0 hval0
  refine (walk_pexprs A n cap xs W hl hx hr).mono fun e W' ⟨he, bel⟩ => ?_
  subst he
  exact ⟨_, rfl, _, _, _, [], _, [], hW', trodAll_mk1 (shut_bool Try.underlying4 _), (trodAll_cons_mk (Below.trod laidOut (by kernel_rfl) (of_decide_eq_true (by kernel_rfl)) k0 bel lt0) trodAll_mk0), rfl, bel.frame _, fun h => by cases h⟩

theorem over : Rows.printExprsRow.holds Try.pinned (OpenSpec.ofChange Rows.printExprsSpec) :=
  OpenClaim.holds_of_wide 3 Try.f3 rfl rfl rfl rfl rfl rfl rfl ⟨rfl, rfl, rfl, rfl, rfl⟩ rfl rfl rfl rfl rfl (by kernel_rfl) Try.func3 (by kernel_rfl)
    (of_decide_eq_true (by kernel_rfl)) (by unfold Func.isWrapper; first | (rw [if_pos (by decide +kernel)]; kernel_rfl) | (rw [if_neg (by decide +kernel)]; exact ⟨rfl, rfl⟩))
    (fun os started H enc _ => lifted os started H enc)

theorem proved : Rows.PrintExprsSaid := over

end PrintExprs
end Go.Proofs.Ytijaldpmpjapiaa

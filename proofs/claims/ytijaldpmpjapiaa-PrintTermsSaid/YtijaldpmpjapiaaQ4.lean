/-
  Texts that were joined: TrmF, TrmG, TrmH, TrmI, TrmJ, TrmK, TrmL, TrmM, TrmN. Conditions: what each theorem names.
-/
import Derived.Test.YtijaldpmpjapiaaQ3
set_option linter.unusedSectionVars false
namespace Go.Proofs.Ytijaldpmpjapiaa
open Go.RowKit

theorem run_build_Tm (a : Int) (s : List Nat) (w : World) : (Instr.build 57 #[(0, .int .i64 a), (1, .string (strOf s))]).run Try.prog w = .ok (.agg #[.int .i64 a, .string (strOf s), .slice none 0 0, .slice none 0 0]) w := by
  have hu := Try.underlying57
  go_simp
theorem zero_debentureref18_Knot : zeroIs Try.prog 74 = some (some (.agg #[.int .i64 0, .string { data := #[] }, .slice none 0 0, .slice none 0 0])) := by kernel_rfl
theorem toldK (n d : Int) (es : List Ex) (l : List Tm) (op : Int) (nm : List Nat) (w : World) (hn : n = 1 + sumN es + sumM l) (hd : d = 1 + max (maxD es) (maxM l)) : Calls Try.prog 39 #[.int .i64 n, .int .i64 d] w fun e w' => e = .returned (.tuple #[.int .i64 (zMuch (.mk op nm es l)), .int .i64 (zDeep (.mk op nm es l))]) ∧ Grow w w' := by
  have h := told_any n d w
  subst hn hd
  rw [toldT_mk op nm es l] at h
  exact h
theorem Only.low {w0 w w' : World} {g : Nat} (h : Only w0 w g) (hb : Below w0.heap.size w w') : Only w0 w' g :=
  ⟨⟨hb.os.trans h.row.os, hb.tape.trans h.row.tape, hb.output.trans h.row.output, Nat.le_trans h.row.size hb.size, fun i hi hne => (hb.block i hi).trans (h.row.block i hi hne)⟩⟩
/-- What Build answers. -/
def BuiltK (es : List Ex) (ts : List Tm) (v : Value) (w : World) : Prop := ∃ T T' B B' vs us vE vN vD vT vM vP, v = .agg #[vE, vN, vD, vT, vM, vP] ∧ Forest w T es vs ∧ ForestT w T' ts us ∧ Own w B 35 4 vE es.length (flatC vs) ∧ Own w B 3 1 vN es.length (DI (es.map zNodes)) ∧ Own w B 3 1 vD es.length (DI (es.map zDepth)) ∧
  Own w B' 57 4 vT ts.length (flatC us) ∧ Own w B' 3 1 vM ts.length (DI (ts.map zMuch)) ∧ Own w B' 3 1 vP ts.length (DI (ts.map zDeep))
theorem buildK_any (n c nK cK : Nat) (A AK : Option Addr) (xs : List Lf) (ks : List Kn) (w : World) (hl : xs.length = n) (h60 : n ≤ 60) (hx : ∀ x ∈ xs, x.rng) (hA : LfAt w w.heap.size A xs) (hlK : ks.length = nK) (hK60 : nK ≤ 60) (hxK : ∀ x ∈ ks, x.rng) (hK : KnAt w w.heap.size AK ks) :
    Calls Try.prog 14 #[.slice A n c, .slice AK nK cK] w fun e w' => (∃ v, e = .returned v ∧ BuiltK (treesOf xs) (termsOf (treesOf xs) ks) v w') ∧ Grow w w' := by
  have bel := Below.refl w.heap.size w
  refine Calls.start 249 Try.func14 rfl rfl rfl ?_
  refine Cd.seq ?_
  refine Cd.region ?_
  refine Seq.alloc rfl (run_zero zero_debentureref18_Tree) rfl rfl rfl ?_
  intro g4 w1 n4
  have e4 := Nat.le_trans bel.size n4.ge
  replace bel := bel.step n4.below
  have k4 := n4.blk
  refine Seq.nil ?_
  refine Post.weak (F' := [(0, _), (1, _), (4, _)]) ⟨rfl, rfl, rfl, trivial⟩ ?_
  refine Post.then_ ?_
  refine Cd.seq ?_
  refine Cd.region ?_
  refine Seq.val (Runs.build rfl rfl (run_build_Tree _)) rfl rfl rfl ?_
  refine Seq.alloc rfl (run_zero zero_debentureref18_Tree) rfl rfl rfl ?_
  intro g5 w2 n5
  have e5 := Nat.le_trans bel.size n5.ge
  have l5 := Nat.lt_of_lt_of_le k4.lt n5.ge
  replace bel := bel.step n5.below
  replace k4 := k4.step n5.below
  have k5 := n5.blk
  refine Seq.storeN rfl rfl rfl rfl (m := 6) (by kernel_rfl) rfl (by repeat' first | exact trivial | apply And.intro | rfl | assumption) k5 (by simp [Value.cells]) rfl rfl ?_
  intro w3 pw3
  replace bel := bel.put k5 pw3 e5
  replace k4 := k4.put pw3 (by omega)
  replace k5 := pw3.blk
  refine Seq.nil ?_
  refine Post.weak (F' := [(0, _), (1, _), (4, _), (5, _)]) ⟨rfl, rfl, rfl, rfl, trivial⟩ ?_
  refine Post.then_ ?_
  refine Cd.seq ?_
  refine Cd.seq ?_
  refine Cd.region ?_
  refine Seq.val (Runs.assign rfl rfl) rfl rfl rfl ?_
  refine Seq.nil ?_
  refine Post.weak (F' := [(0, _), (1, _), (4, _), (5, _), (6, _)]) ⟨rfl, rfl, rfl, rfl, rfl, trivial⟩ ?_
  refine Post.then_ ?_
  refine Cd.block ?_
  refine Cd.loop (σ := Nat × List Nat × List Value × Value × Value × Value) (fun s => [(0, .slice A n c), (1, .slice AK nK cK), (4, .pointer (some ⟨g4, 0, none⟩)), (5, .pointer (some ⟨g5, 0, none⟩)), (6, .int .i64 (s.1 : Int))])
    (fun s wr => s.1 ≤ n ∧ Below w.heap.size w wr ∧ Blk wr g4 29 #[.slice none 0 0, .slice none 0 0, .slice none 0 0, .slice none 0 0, .slice none 0 0, .slice none 0 0] ∧ Blk wr g5 29 #[s.2.2.2.1, s.2.2.2.2.1, s.2.2.2.2.2, .slice none 0 0, .slice none 0 0, .slice none 0 0] ∧
      Forest wr s.2.1 (treesOf (xs.take s.1)) s.2.2.1 ∧ (∀ b ∈ s.2.1, g5 < b) ∧ Own wr w.heap.size 35 4 s.2.2.2.1 (treesOf (xs.take s.1)).length (flatC s.2.2.1) ∧ Own wr w.heap.size 3 1 s.2.2.2.2.1 (treesOf (xs.take s.1)).length (DI ((treesOf (xs.take s.1)).map zNodes)) ∧ Own wr w.heap.size 3 1 s.2.2.2.2.2 (treesOf (xs.take s.1)).length (DI ((treesOf (xs.take s.1)).map zDepth)) ∧
      Apart s.2.2.2.1 s.2.1 ∧ Apart s.2.2.2.2.1 s.2.1 ∧ Apart s.2.2.2.2.2 s.2.1 ∧ Two s.2.2.2.2.1 s.2.2.2.2.2)
    (fun s => n - s.1) (0, [], [], .slice none 0 0, .slice none 0 0, .slice none 0 0)
    ⟨Nat.zero_le _, bel, k4, k5, Forest.nil _, fun b h => (by cases h), Own.nil _ _ _ _, Own.nil _ _ _ _, Own.nil _ _ _ _, fun b h => (by cases h), fun b h => (by cases h), fun b h => (by cases h), fun b h => (by cases h)⟩ ⟨rfl, rfl, rfl, rfl, rfl, trivial⟩ ?_
  clear bel k4 k5
  rintro ⟨i, T, vs, vE, vN, vD⟩ wr ⟨hi, bel, k4, k5, fo, hfar, oE, oN, oD, aE, aN, aD, aND⟩
  dsimp only at hi k5 fo hfar oE oN oD aE aN aD aND ⊢
  have hTl : (treesOf (xs.take i)).length = i := by rw [treesOf_length, List.length_take]; omega
  refine Cd.seq ?_
  refine Cd.seq ?_
  refine Cd.region ?_
  refine Seq.val (Runs.move rfl rfl) rfl rfl rfl ?_
  refine Seq.val (Runs.move rfl rfl) rfl rfl rfl ?_
  refine Seq.val (Runs.len rfl rfl Try.underlying22) rfl rfl rfl ?_
  refine Seq.val (Runs.lss rfl rfl rfl) rfl rfl rfl ?_
  refine Seq.val (Runs.move rfl rfl) rfl rfl rfl ?_
  refine SeqC.start ?_
  refine SeqC.open rfl rfl rfl rfl rfl rfl rfl (fun hcx => Runs.move rfl rfl) ?_
  refine SeqC.next rfl rfl rfl rfl rfl rfl rfl (fun hcx => Runs.lss rfl rfl rfl) ?_
  refine SeqC.and rfl rfl rfl rfl rfl rfl rfl ?_
  refine Seq.nil ?_
  refine Post.weak (F' := [(0, _), (1, _), (4, _), (5, _), (6, _), (30, _)]) ⟨rfl, rfl, rfl, rfl, rfl, rfl, trivial⟩ ?_
  refine Post.then_ ?_
  refine Cd.cond rfl (fun hc => ?_) (fun hc => ?_)
  · simp only [Bool.and_eq_true, decide_eq_true_eq] at hc
    obtain ⟨x, hxi⟩ : ∃ x, xs[i]? = some x := ⟨_, List.getElem?_eq_getElem (show i < xs.length by omega)⟩
    have hrng := hx x (List.mem_of_getElem? hxi)
    have htake : treesOf (xs.take (i + 1)) = treesOf (xs.take i) ++ [leafE (treesOf (xs.take i)) x] := by rw [List.take_add_one, hxi]; exact treesOf_snoc _ _
    obtain ⟨ad, A', c', rfl, hadb, hrd, hcell⟩ := (hA.below bel) i x hxi
    generalize treesOf (xs.take i) = es at *
    have bel0 := bel
    replace bel := Below.refl wr.heap.size wr
    have hg5 := k5.lt
    have oE0 := oE
    have oN0 := oN
    have oD0 := oD
    refine Cd.skip ?_
    refine Post.then_ ?_
    refine Cd.seq ?_
    refine Cd.block ?_
    refine Cd.seq ?_
    refine Cd.region ?_
    refine Seq.val (Runs.move rfl rfl) rfl rfl rfl ?_
    refine Seq.val (Runs.move rfl rfl) rfl rfl rfl ?_
    refine Seq.val (Runs.indexN rfl rfl rfl Try.underlying22 (s := 4) (by kernel_rfl) (j := i) rfl (by omega)) rfl rfl rfl ?_
    refine Seq.val (Runs.loadF (ps := [.int .i64 x.op, .int .i64 x.n, .string (strOf x.name), .slice A' x.kids.length c']) rfl rfl Try.underlying69 rfl (m := 4) (by kernel_rfl) rfl hcell) rfl rfl rfl ?_
    refine Seq.alloc rfl (run_zero zero_debentureref18_Leaf) rfl rfl rfl ?_
    intro g7 w4 n7
    have e7 := Nat.le_trans bel.size n7.ge
    have l7 := Nat.lt_of_lt_of_le k5.lt n7.ge
    replace bel := bel.step n7.below
    replace k5 := k5.step n7.below
    have k7 := n7.blk
    refine Seq.storeN rfl rfl rfl rfl (m := 4) (by kernel_rfl) rfl (by repeat' first | exact trivial | apply And.intro | rfl | assumption) k7 (by simp [Value.cells]) rfl rfl ?_
    intro w5 pw5
    replace bel := bel.put k7 pw5 e7
    replace k5 := k5.put pw5 (by omega)
    replace k7 := pw5.blk
    refine Seq.nil ?_
    refine Post.weak (F' := [(0, _), (1, _), (4, _), (5, _), (6, _), (7, _), (30, _)]) ⟨rfl, rfl, rfl, rfl, rfl, rfl, rfl, trivial⟩ ?_
    refine Post.then_ ?_
    refine Cd.seq ?_
    refine Cd.region ?_
    refine Seq.val (Runs.fieldB 0 rfl rfl Try.underlying69 rfl (by kernel_rfl)) rfl rfl rfl ?_
    refine Seq.val (Runs.loadB rfl rfl Try.underlying3 rfl k7 rfl) rfl rfl rfl ?_
    refine Seq.val (Runs.fieldB 1 rfl rfl Try.underlying69 rfl (by kernel_rfl)) rfl rfl rfl ?_
    refine Seq.val (Runs.loadB rfl rfl Try.underlying2 rfl k7 rfl) rfl rfl rfl ?_
    refine Seq.val (Runs.fieldB 2 rfl rfl Try.underlying69 rfl (by kernel_rfl)) rfl rfl rfl ?_
    refine Seq.val (Runs.loadB rfl rfl Try.underlying9 rfl k7 rfl) rfl rfl rfl ?_
    refine Seq.val (Runs.build rfl rfl (run_build_Ex _ _ _ _)) rfl rfl rfl ?_
    refine Seq.alloc rfl (run_zero zero_api_Expr) rfl rfl rfl ?_
    intro g8 w6 n8
    have e8 := Nat.le_trans bel.size n8.ge
    have l8 := Nat.lt_of_lt_of_le k7.lt n8.ge
    have l8_k5 := Nat.lt_of_lt_of_le k5.lt n8.ge
    replace bel := bel.step n8.below
    replace k5 := k5.step n8.below
    replace k7 := k7.step n8.below
    have k8 := n8.blk
    refine Seq.storeN rfl rfl rfl rfl (m := 4) (by kernel_rfl) rfl (by repeat' first | exact trivial | apply And.intro | rfl | assumption) k8 (by simp [Value.cells]) rfl rfl ?_
    intro w7 pw7
    replace bel := bel.put k8 pw7 e8
    replace k5 := k5.put pw7 (by omega)
    replace k7 := k7.put pw7 (by omega)
    replace k8 := pw7.blk
    refine Seq.nil ?_
    refine Post.weak (F' := [(0, _), (1, _), (4, _), (5, _), (6, _), (7, _), (8, _), (30, _)]) ⟨rfl, rfl, rfl, rfl, rfl, rfl, rfl, rfl, trivial⟩ ?_
    refine Post.then_ ?_
    refine Cd.seq ?_
    refine Cd.region ?_
    refine Seq.val (Runs.assign rfl rfl) rfl rfl rfl ?_
    refine Seq.val (Runs.assign rfl rfl) rfl rfl rfl ?_
    refine Seq.nil ?_
    refine Post.weak (F' := [(0, _), (1, _), (4, _), (5, _), (6, _), (7, _), (8, _), (9, _), (10, _), (30, _)]) ⟨rfl, rfl, rfl, rfl, rfl, rfl, rfl, rfl, rfl, rfl, trivial⟩ ?_
    refine Post.then_ ?_
    refine Cd.seq ?_
    refine Cd.seq ?_
    refine Cd.region ?_
    refine Seq.val (Runs.assign rfl rfl) rfl rfl rfl ?_
    refine Seq.nil ?_
    refine Post.weak (F' := [(0, _), (1, _), (4, _), (5, _), (6, _), (7, _), (8, _), (9, _), (10, _), (11, _), (30, _)]) ⟨rfl, rfl, rfl, rfl, rfl, rfl, rfl, rfl, rfl, rfl, rfl, trivial⟩ ?_
    refine Post.then_ ?_
    refine Cd.block ?_
    refine Cd.loop (σ := Nat × List Value × Value × Int × Int) (fun s => [(0, .slice (some ad) n c), (1, .slice AK nK cK), (4, .pointer (some ⟨g4, 0, none⟩)), (5, .pointer (some ⟨g5, 0, none⟩)), (6, .int .i64 (i : Int)), (7, .pointer (some ⟨g7, 0, none⟩)), (8, .pointer (some ⟨g8, 0, none⟩)), (9, .int .i64 s.2.2.2.1), (10, .int .i64 s.2.2.2.2), (11, .int .i64 (s.1 : Int))])
      (fun s w2 => s.1 ≤ x.kids.length ∧ s.1 ≤ 5 ∧ Below wr.heap.size wr w2 ∧ Blk w2 g5 29 #[vE, vN, vD, .slice none 0 0, .slice none 0 0, .slice none 0 0] ∧ Blk w2 g7 69 #[.int .i64 x.op, .int .i64 x.n, .string (strOf x.name), .slice A' x.kids.length c'] ∧ Blk w2 g8 35 #[.int .i64 x.op, .int .i64 x.n, .string (strOf x.name), s.2.2.1] ∧
        OwnA w2 (g8 + 1) 35 4 s.2.2.1 (pickK es (x.kids.take s.1)).length (flatC s.2.1) ∧ s.2.1.length = (pickK es (x.kids.take s.1)).length ∧ (∀ j e v, (pickK es (x.kids.take s.1))[j]? = some e → s.2.1[j]? = some v → RepE wr (· ∈ T) e v) ∧ s.2.2.2.1 = 1 + sumN (pickK es (x.kids.take s.1)) ∧ s.2.2.2.2 = 1 + maxD (pickK es (x.kids.take s.1)))
      (fun s => 5 - s.1) (0, [], .slice none 0 0, 1, 1)
      ⟨Nat.zero_le _, Nat.zero_le _, bel, k5, k7, k8, ⟨Own.nil _ _ _ _⟩, rfl, (fun j e v h => absurd ((List.getElem?_nil (α := Ex) (i := j)).symm.trans h) (fun h => by cases h)), rfl, rfl⟩ ⟨rfl, rfl, rfl, rfl, rfl, rfl, rfl, rfl, rfl, rfl, trivial⟩ ?_
    clear bel k5 k7 k8
    rintro ⟨k, avs, vA, nn, dd⟩ w2 ⟨hk, hk5, bel, k5, k7, k8, own, havl, hrep, hnn, hdd⟩
    dsimp only at hk hk5 k8 own havl hrep hnn hdd ⊢
    have hlA := own.own.blockLt
    have hpl := pickK_length es (x.kids.take k)
    have hpl2 : (x.kids.take k).length ≤ k := by rw [List.length_take]; omega
    have hsb := sumN_bounds (pickK es (x.kids.take k))
    have hmb := maxD_nonneg (pickK es (x.kids.take k))
    refine Cd.seq ?_
    refine Cd.seq ?_
    refine Cd.region ?_
    refine Seq.val (Runs.move rfl rfl) rfl rfl rfl ?_
    refine Seq.val (Runs.fieldB 3 rfl rfl Try.underlying69 rfl (by kernel_rfl)) rfl rfl rfl ?_
    refine Seq.val (Runs.loadB rfl rfl Try.underlying26 rfl k7 rfl) rfl rfl rfl ?_
    refine Seq.val (Runs.len rfl rfl Try.underlying26) rfl rfl rfl ?_
    refine Seq.val (Runs.lss rfl rfl rfl) rfl rfl rfl ?_
    refine Seq.val (Runs.move rfl rfl) rfl rfl rfl ?_
    refine SeqC.start ?_
    refine SeqC.open rfl rfl rfl rfl rfl rfl rfl (fun hcx => Runs.move rfl rfl) ?_
    refine SeqC.next rfl rfl rfl rfl rfl rfl rfl (fun hcx => Runs.lss rfl rfl rfl) ?_
    refine SeqC.and rfl rfl rfl rfl rfl rfl rfl ?_
    refine Seq.nil ?_
    refine Post.weak (F' := [(0, _), (1, _), (4, _), (5, _), (6, _), (7, _), (8, _), (9, _), (10, _), (11, _), (52, _)]) ⟨rfl, rfl, rfl, rfl, rfl, rfl, rfl, rfl, rfl, rfl, rfl, trivial⟩ ?_
    refine Post.then_ ?_
    refine Cd.cond rfl (fun hc => ?_) (fun hc => ?_)
    · simp only [Bool.and_eq_true, decide_eq_true_eq] at hc
      obtain ⟨z, hz⟩ : ∃ z, x.kids[k]? = some z := ⟨_, List.getElem?_eq_getElem (by omega)⟩
      obtain ⟨ad', rfl, hbl', hc'⟩ := hrd.2 (by omega)
      have hc' := fun W (hb : Below wr.heap.size wr W) => (hb.cell (p := ad'.add k) (by rw [block_of_add]; have := bel0.size; omega)).trans (hc' k (.int .i64 z) (by rw [get_DI, hz]; rfl))
      have hks : x.kids.take (k + 1) = x.kids.take k ++ [z] := by rw [List.take_add_one, hz]; rfl
      refine Cd.skip ?_
      refine Post.then_ ?_
      refine Cd.seq ?_
      refine Cd.block ?_
      refine Cd.seq ?_
      refine Cd.region ?_
      refine Seq.val (Runs.fieldB 3 rfl rfl Try.underlying69 rfl (by kernel_rfl)) rfl rfl rfl ?_
      refine Seq.val (Runs.loadB rfl rfl Try.underlying26 rfl k7 rfl) rfl rfl rfl ?_
      refine Seq.val (Runs.move rfl rfl) rfl rfl rfl ?_
      refine Seq.val (Runs.index1 rfl rfl rfl Try.underlying26 (by kernel_rfl) (j := k) rfl (by omega)) rfl rfl rfl ?_
      refine Seq.val (Runs.load1 rfl rfl Try.underlying3 rfl (hc' _ bel)) rfl rfl rfl ?_
      refine Seq.val (Runs.move rfl rfl) rfl rfl rfl ?_
      refine Seq.call (Enters.func rfl rfl rfl (run_enter Try.func38 (by kernel_rfl) rfl)) rfl rfl rfl (earlierC z i _ (by omega)) ?_
      rintro e w5 ⟨⟨z', rfl, hz'⟩, hb5⟩
      refine ⟨_, rfl, ?_⟩
      replace bel := bel.step hb5
      replace k5 := k5.step hb5
      replace k7 := k7.step hb5
      replace k8 := k8.step hb5
      replace own := own.step hb5
      refine Seq.val (Runs.assign rfl rfl) rfl rfl rfl ?_
      refine Seq.nil ?_
      refine Post.weak (F' := [(0, _), (1, _), (4, _), (5, _), (6, _), (7, _), (8, _), (9, _), (10, _), (11, _), (12, _), (52, _)]) ⟨rfl, rfl, rfl, rfl, rfl, rfl, rfl, rfl, rfl, rfl, rfl, rfl, trivial⟩ ?_
      refine Post.then_ ?_
      refine Cd.seq ?_
      refine Cd.region ?_
      refine Seq.val (Runs.move rfl rfl) rfl rfl rfl ?_
      refine Seq.val (Runs.geq rfl rfl rfl) rfl rfl rfl ?_
      refine Seq.nil ?_
      refine Post.weak (F' := [(0, _), (1, _), (4, _), (5, _), (6, _), (7, _), (8, _), (9, _), (10, _), (11, _), (12, _), (52, _), (63, _)]) ⟨rfl, rfl, rfl, rfl, rfl, rfl, rfl, rfl, rfl, rfl, rfl, rfl, rfl, trivial⟩ ?_
      refine Post.then_ ?_
      refine Cd.condD rfl (fun h => ?_) (fun h => ?_)
      · obtain ⟨h0i, rfl⟩ : 0 < i ∧ z' = (earl z i : Int) := by rcases hz' with ⟨h1, h2⟩ | h2; exact absurd h (by omega); exact h2
        clear hz'
        have hj := earl_lt z h0i
        generalize hjj : earl z i = j at *
        obtain ⟨e, he⟩ : ∃ e, es[j]? = some e := ⟨_, List.getElem?_eq_getElem (by omega)⟩
        obtain ⟨ev, hev⟩ : ∃ ev, vs[j]? = some ev := ⟨_, List.getElem?_eq_getElem (by rw [fo.len]; omega)⟩
        have hre := fo.rep j e ev he hev
        obtain ⟨AA, cc, rfl⟩ := hre.form
        have h4 : ∀ y ∈ vs, y.cells.size = 4 := sizes_spec fo.cells
        obtain ⟨aE0, cE, rfl, hrE⟩ := oE.reads
        obtain ⟨adE, rfl, hbE, hcE⟩ := hrE.2 (by omega)
        have hcE : ∀ W, Below wr.heap.size wr W → ∀ (q : Nat) (u : Value), ([.int .i64 e.op, .int .i64 e.n, .string (strOf e.name), .slice AA e.args.length cc] : List Value)[q]? = some u → W.cell? ((adE.add (j * 4)).add q) = some u := fun W hb q u hq => (hb.cell (p := (adE.add (j * 4)).add q) (by rw [block_of_add, block_of_add]; exact hbE)).trans (by rw [add_of_add]; exact hcE _ _ (flatC_at h4 hev q u (by simpa [Value.cells] using hq)))
        obtain ⟨aN0, cN, rfl, hrN⟩ := oN.reads
        obtain ⟨adN, rfl, hbN, hcN⟩ := hrN.2 (by omega)
        have hcN := fun W (hb : Below wr.heap.size wr W) => (hb.cell (p := adN.add j) (by rw [block_of_add]; exact hbN)).trans (hcN j (.int .i64 (zNodes e)) (by rw [get_DI, List.getElem?_map, he]; rfl))
        obtain ⟨aD0, cD, rfl, hrD⟩ := oD.reads
        obtain ⟨adD, rfl, hbD, hcD⟩ := hrD.2 (by omega)
        have hcD := fun W (hb : Below wr.heap.size wr W) => (hb.cell (p := adD.add j) (by rw [block_of_add]; exact hbD)).trans (hcD j (.int .i64 (zDepth e)) (by rw [get_DI, List.getElem?_map, he]; rfl))
        have hpk : pickK es (x.kids.take (k + 1)) = pickK es (x.kids.take k) ++ [e] := by rw [hks]; exact pickK_some _ _ _ _ (by rw [hTl, hjj]; exact he)
        have hzb := z_bounds e
        refine Cd.seq ?_
        refine Cd.draw 8 (by kernel_rfl) [] (.inl rfl) rfl Grow Grow.refl (fun _ _ _ => Grow.trans) ?_
        intro w8 hw8 zw8
        replace bel := bel.step hw8
        replace k5 := k5.step hw8
        replace k7 := k7.step hw8
        replace k8 := k8.step hw8
        replace own := own.step hw8
        have zbel := bel.size
        have zlt := k8.lt
        refine Dr.val Grow.refl rfl (fun w hG => Runs.fieldB 3 rfl rfl Try.underlying35 rfl (by kernel_rfl)) rfl ?_
        refine Dr.val Grow.refl rfl (fun w hG => Runs.loadB rfl rfl Try.underlying25 rfl (k8.step hG) rfl) rfl ?_
        refine Dr.val Grow.refl rfl (fun w hG => Runs.fieldB 0 rfl rfl Try.underlying29 rfl (by kernel_rfl)) rfl ?_
        refine Dr.val Grow.refl rfl (fun w hG => Runs.loadB rfl rfl Try.underlying25 rfl (k5.step hG) rfl) rfl ?_
        refine Dr.val Grow.refl rfl (fun w hG => Runs.move rfl rfl) rfl ?_
        refine Dr.val Grow.refl rfl (fun w hG => Runs.indexN rfl rfl rfl Try.underlying25 (s := 4) (by kernel_rfl) (j := j) rfl (by omega)) rfl ?_
        refine Dr.val Grow.refl rfl (fun w hG => Runs.loadF (ps := [.int .i64 e.op, .int .i64 e.n, .string (strOf e.name), .slice AA e.args.length cc]) rfl rfl Try.underlying35 rfl (m := 4) (by kernel_rfl) rfl (hcE w (Below.step bel hG))) rfl ?_
        refine Dr.slice (vs := [_]) (s := 4) rfl rfl rfl rfl Try.underlying25 (by kernel_rfl) zero_api_Expr (by omega) (by omega) ⟨rfl, trivial⟩ rfl ?_
        refine Dr.nil ?_
        refine FinX.open (j := 7) rfl ?_
        intro u7
        refine FinX.done (F' := [(0, _), (1, _), (4, _), (5, _), (6, _), (7, _), (8, _), (9, _), (10, _), (11, _), (12, _), (52, _), (63, _), (65, _), (71, _)]) rfl ⟨rfl, rfl, rfl, rfl, rfl, rfl, rfl, rfl, rfl, rfl, rfl, rfl, rfl, rfl, rfl, trivial⟩ ?_
        intro w9 hw9 fw9
        replace bel := bel.step hw9
        replace k5 := k5.step hw9
        replace k7 := k7.step hw9
        replace k8 := k8.step hw9
        replace own := own.step hw9
        obtain ⟨gS, rfl, kS, -⟩ := fw9.2
        have hne8 : vA.ownBlock ≠ some g8 := fun e' => by have := (own.own.blockLt _ e').1; omega
        refine Seq.append rfl rfl rfl Try.underlying25 (by kernel_rfl) zero_api_Expr rfl (by decide) (b := 56) (by kernel_rfl) own.own (Reads.blk (size := 4) kS 1 rfl) (by intro x hx; simp [flatC, Value.cells] at hx; rcases hx with rfl | rfl | rfl | rfl <;> rfl) (Nat.succ_le_of_lt k8.lt) (by simp only [maxLen]; omega) (by omega) rfl rfl rfl ?_
        intro vA' wa oA ha
        replace k7 := k7.app own.own ha
        replace k5 := k5.app own.own ha
        replace k8 := k8.grown ha.grown (fun e' => hne8 e'.symm)
        replace bel := bel.trans (ha.below.mono (by omega))
        clear own
        obtain ⟨A2, c2, rfl, -⟩ := oA.reads
        have own := OwnA.mk oA
        have hne9 : (Value.slice A2 ((pickK es (x.kids.take k)).length + 1) c2).ownBlock ≠ some g8 := fun e' => by have := (own.own.blockLt _ e').1; omega
        refine Seq.val (Runs.fieldB 3 rfl rfl Try.underlying35 rfl (by kernel_rfl)) rfl rfl rfl ?_
        refine Seq.store1 rfl rfl rfl (by kernel_rfl) rfl rfl k8 rfl rfl rfl ?_
        intro w10 pw10
        replace bel := bel.put k8 pw10 e8
        replace k5 := k5.put pw10 (by omega)
        replace k7 := k7.put pw10 (by omega)
        replace own := own.put k8 pw10 e8
        replace k8 := pw10.blk
        refine Seq.nil ?_
        refine Post.weak (F' := [(0, _), (1, _), (4, _), (5, _), (6, _), (7, _), (8, _), (9, _), (10, _), (11, _), (12, _), (52, _), (63, _)]) ⟨rfl, rfl, rfl, rfl, rfl, rfl, rfl, rfl, rfl, rfl, rfl, rfl, rfl, trivial⟩ ?_
        refine Post.then_ ?_
        refine Cd.seq ?_
        refine Cd.region ?_
        refine Seq.val (Runs.move rfl rfl) rfl rfl rfl ?_
        refine Seq.val (Runs.fieldB 1 rfl rfl Try.underlying29 rfl (by kernel_rfl)) rfl rfl rfl ?_
        refine Seq.val (Runs.loadB rfl rfl Try.underlying26 rfl k5 rfl) rfl rfl rfl ?_
        refine Seq.val (Runs.move rfl rfl) rfl rfl rfl ?_
        refine Seq.val (Runs.index1 rfl rfl rfl Try.underlying26 (by kernel_rfl) (j := j) rfl (by omega)) rfl rfl rfl ?_
        refine Seq.val (Runs.load1 rfl rfl Try.underlying3 rfl (hcN _ bel)) rfl rfl rfl ?_
        refine Seq.val (Runs.addI rfl rfl rfl (by omega) (by omega)) rfl rfl rfl ?_
        refine Seq.val (Runs.assign rfl rfl) rfl rfl rfl ?_
        refine Seq.nil ?_
        refine Post.weak (F' := [(0, _), (1, _), (4, _), (5, _), (6, _), (7, _), (8, _), (9, _), (10, _), (11, _), (12, _), (52, _), (63, _)]) ⟨rfl, rfl, rfl, rfl, rfl, rfl, rfl, rfl, rfl, rfl, rfl, rfl, rfl, trivial⟩ ?_
        refine Post.then_ ?_
        refine Cd.region ?_
        refine Seq.val (Runs.move rfl rfl) rfl rfl rfl ?_
        refine Seq.val (Runs.fieldB 2 rfl rfl Try.underlying29 rfl (by kernel_rfl)) rfl rfl rfl ?_
        refine Seq.val (Runs.loadB rfl rfl Try.underlying26 rfl k5 rfl) rfl rfl rfl ?_
        refine Seq.val (Runs.move rfl rfl) rfl rfl rfl ?_
        refine Seq.val (Runs.index1 rfl rfl rfl Try.underlying26 (by kernel_rfl) (j := j) rfl (by omega)) rfl rfl rfl ?_
        refine Seq.val (Runs.load1 rfl rfl Try.underlying3 rfl (hcD _ bel)) rfl rfl rfl ?_
        refine Seq.val (Runs.addI rfl rfl rfl (by omega) (by omega)) rfl rfl rfl ?_
        refine Seq.val (Runs.max2 rfl rfl rfl) rfl rfl rfl ?_
        refine Seq.val (Runs.assign rfl rfl) rfl rfl rfl ?_
        refine Seq.nil ?_
        refine Post.weak (F' := [(0, _), (1, _), (4, _), (5, _), (6, _), (7, _), (8, _), (9, _), (10, _), (11, _), (12, _), (52, _), (63, _)]) ⟨rfl, rfl, rfl, rfl, rfl, rfl, rfl, rfl, rfl, rfl, rfl, rfl, rfl, trivial⟩ ?_
        refine Post.block_normal ?_
        refine Post.then_ ?_
        refine Cd.region ?_
        refine Seq.val (Runs.move rfl rfl) rfl rfl rfl ?_
        refine Seq.val (Runs.addI rfl rfl rfl (by omega) (by omega)) rfl rfl rfl ?_
        refine Seq.val (Runs.assign rfl rfl) rfl rfl rfl ?_
        refine Seq.nil ?_
        refine Post.weak (F' := [(0, _), (1, _), (4, _), (5, _), (6, _), (7, _), (8, _), (9, _), (10, _), (11, _), (12, _), (52, _), (63, _)]) ⟨rfl, rfl, rfl, rfl, rfl, rfl, rfl, rfl, rfl, rfl, rfl, rfl, rfl, trivial⟩ ?_
        have hlen2 : (pickK es (x.kids.take (k + 1))).length = (pickK es (x.kids.take k)).length + 1 := by rw [hpk]; simp
        refine Post.round (k + 1, avs ++ [.agg #[.int .i64 e.op, .int .i64 e.n, .string (strOf e.name), .slice AA e.args.length cc]], .slice A2 ((pickK es (x.kids.take k)).length + 1) c2, nn + zNodes e, max dd (zDepth e + 1)) ⟨rfl, rfl, rfl, rfl, rfl, rfl, rfl, rfl, rfl, rfl, trivial⟩ ⟨by dsimp only; omega, by dsimp only; omega, bel, k5, k7, k8, ?_, ?_, ?_, ?_, ?_⟩ (by dsimp only; omega)
        · dsimp only
          rw [hlen2, flatC_append]
          exact own
        · dsimp only
          rw [hlen2, List.length_append, havl]; rfl
        · dsimp only
          rw [hpk]
          intro q y v hq hv
          rcases Nat.lt_or_ge q avs.length with hqi | hqi
          · rw [List.getElem?_append_left hqi] at hv
            rw [List.getElem?_append_left (by omega)] at hq
            exact hrep q y v hq hv
          · rw [List.getElem?_append_right hqi] at hv
            rw [List.getElem?_append_right (by omega), ← havl] at hq
            have h0 : q - avs.length = 0 := by
              have := (List.getElem?_eq_some_iff.1 hv).1
              simp at this
              exact this
            rw [h0] at hq hv
            injection hq with hq
            injection hv with hv
            subst hq hv
            exact hre
        · dsimp only
          rw [hpk, sumN_snoc, hnn]; omega
        · dsimp only
          rw [hpk, maxD_snoc, hdd]; omega
      · obtain ⟨h0i, rfl⟩ : i = 0 ∧ z' = -1 := by rcases hz' with ⟨h1, h2⟩ | ⟨h1, h2⟩; exact ⟨h1, h2⟩; exact absurd (by omega) h
        have hpk : pickK es (x.kids.take (k + 1)) = pickK es (x.kids.take k) := by rw [hks]; exact pickK_none _ _ _ (by omega)
        refine Cd.skip ?_
        refine Post.block_normal ?_
        refine Post.then_ ?_
        refine Cd.region ?_
        refine Seq.val (Runs.move rfl rfl) rfl rfl rfl ?_
        refine Seq.val (Runs.addI rfl rfl rfl (by omega) (by omega)) rfl rfl rfl ?_
        refine Seq.val (Runs.assign rfl rfl) rfl rfl rfl ?_
        refine Seq.nil ?_
        refine Post.weak (F' := [(0, _), (1, _), (4, _), (5, _), (6, _), (7, _), (8, _), (9, _), (10, _), (11, _), (12, _), (52, _), (63, _)]) ⟨rfl, rfl, rfl, rfl, rfl, rfl, rfl, rfl, rfl, rfl, rfl, rfl, rfl, trivial⟩ ?_
        exact Post.round (k + 1, avs, vA, nn, dd) ⟨rfl, rfl, rfl, rfl, rfl, rfl, rfl, rfl, rfl, rfl, trivial⟩ ⟨by dsimp only; omega, by dsimp only; omega, bel, k5, k7, k8, by dsimp only; rw [hpk]; exact own, by dsimp only; rw [hpk]; exact havl, by dsimp only; rw [hpk]; exact hrep, by dsimp only; rw [hpk]; exact hnn, by dsimp only; rw [hpk]; exact hdd⟩ (by dsimp only; omega)
    · have hfull : x.kids.take k = x.kids.take 5 := by
        have hc' : ¬ ((k : Int) < x.kids.length ∧ (k : Int) < 5) := fun h => by rw [decide_eq_true h.1, decide_eq_true h.2] at hc; cases hc
        rcases Nat.lt_or_ge k 5 with h5 | h5
        · rw [List.take_of_length_le (by omega), List.take_of_length_le (by omega)]
        · rw [show k = 5 by omega]
      have hpl5 := pickK_length es (x.kids.take 5)
      have hpl6 : (x.kids.take 5).length ≤ 5 := by rw [List.length_take]; omega
      rw [hfull] at own havl hrep hnn hdd
      refine Cd.exit ?_
      refine Post.then_exit ?_
      refine Post.round_exit ?_
      refine Post.block_exit ?_
      refine Post.then_ ?_
      refine Cd.seq ?_
      refine Cd.region ?_
      refine Seq.val (Runs.move rfl rfl) rfl rfl rfl ?_
      refine Seq.val (Runs.move rfl rfl) rfl rfl rfl ?_
      refine Seq.call (Enters.func rfl rfl rfl (run_enter Try.func39 (by kernel_rfl) rfl)) rfl rfl rfl (toldC nn dd (pickK es (x.kids.take 5)) x.op x.n x.name _ hnn hdd) ?_
      rintro e w6 ⟨rfl, hb6⟩
      refine ⟨_, rfl, ?_⟩
      replace bel := bel.step hb6
      replace k5 := k5.step hb6
      replace k7 := k7.step hb6
      replace k8 := k8.step hb6
      replace own := own.step hb6
      have hlA := own.own.blockLt
      have oE := oE.step bel
      have oN := oN.step bel
      have oD := oD.step bel
      have ltE : ∀ b, vE.ownBlock = some b → b < g8 + 1 := fun b hb => by have := (oE0.blockLt b hb).2; omega
      have ltN : ∀ b, vN.ownBlock = some b → b < g8 + 1 := fun b hb => by have := (oN0.blockLt b hb).2; omega
      have ltD : ∀ b, vD.ownBlock = some b → b < g8 + 1 := fun b hb => by have := (oD0.blockLt b hb).2; omega
      have aE := aE.more ltE (fun b hb => (hlA b hb).1)
      have aN := aN.more ltN (fun b hb => (hlA b hb).1)
      have aD := aD.more ltD (fun b hb => (hlA b hb).1)
      have fo2 := (fo.step bel).more (nm := x.name) havl (by omega) hrng.op hrng.n hrng.name hrng.nlen (fun j e v he hv => (hrep j e v he hv).mono (fun _ h => h) (fun p hp => bel.cell (fo.lt _ hp))) own.own
      have hg5T : g5 ∉ blocksOf vA ++ T := fun hm => by
        rcases List.mem_append.1 hm with hm | hm
        · have := (hlA _ (mem_blocksOf.1 hm)).1; omega
        · have := hfar _ hm; omega
      have hfar2 : ∀ b ∈ blocksOf vA ++ T, g5 < b := fun b hm => by
        rcases List.mem_append.1 hm with hm | hm
        · have := (hlA _ (mem_blocksOf.1 hm)).1; omega
        · exact hfar _ hm
      have k4 := k4.step bel
      have l54 : g4 ≠ g5 := by omega
      replace bel := bel0.trans (bel.mono bel0.size)
      refine Seq.val (Runs.move rfl rfl) rfl rfl rfl ?_
      refine Seq.val (Runs.extract rfl rfl rfl) rfl rfl rfl ?_
      refine Seq.val (Runs.extract rfl rfl rfl) rfl rfl rfl ?_
      refine Seq.val (Runs.assign rfl rfl) rfl rfl rfl ?_
      refine Seq.val (Runs.assign rfl rfl) rfl rfl rfl ?_
      refine Seq.nil ?_
      refine Post.weak (F' := [(0, _), (1, _), (4, _), (5, _), (6, _), (7, _), (8, _), (9, _), (10, _), (11, _), (52, _)]) ⟨rfl, rfl, rfl, rfl, rfl, rfl, rfl, rfl, rfl, rfl, rfl, trivial⟩ ?_
      refine Post.then_ ?_
      refine Cd.seq ?_
      refine Cd.region ?_
      refine Seq.val (Runs.fieldB 0 rfl rfl Try.underlying29 rfl (by kernel_rfl)) rfl rfl rfl ?_
      refine Seq.val (Runs.loadB rfl rfl Try.underlying25 rfl k5 rfl) rfl rfl rfl ?_
      refine Seq.val (Runs.loadW rfl rfl Try.underlying35 rfl k8 (m := 4) (by kernel_rfl) rfl) rfl rfl rfl ?_
      refine Seq.slice (vs := [_]) (s := 4) rfl rfl rfl Try.underlying25 (by kernel_rfl) (zero_api_Expr) (by omega) (by omega) ⟨rfl, trivial⟩ rfl rfl rfl ?_
      intro g98 w8 n98
      have e98 := Nat.le_trans bel.size n98.ge
      have l98 := Nat.lt_of_lt_of_le k4.lt n98.ge
      have l98_k5 := Nat.lt_of_lt_of_le k5.lt n98.ge
      have l98_k8 := Nat.lt_of_lt_of_le k8.lt n98.ge
      replace bel := bel.step n98.below
      replace k5 := k5.step n98.below
      replace k8 := k8.step n98.below
      replace fo2 := fo2.step n98.below
      replace oE := oE.step n98.below
      replace oN := oN.step n98.below
      replace oD := oD.step n98.below
      replace k4 := k4.step n98.below
      have k98 := n98.blk
      refine Seq.append2 rfl rfl rfl Try.underlying25 (by kernel_rfl) zero_api_Expr rfl (by decide) (b := 56) (by kernel_rfl) oE (Reads.blk (size := 4) k98 1 rfl) (by intro x hx; simp [flatC, Value.cells] at hx; rcases hx with rfl | rfl | rfl | rfl <;> first | rfl | exact own.own.reads.elim fun A h => h.elim fun c h => h.1 ▸ rfl) bel.size (by simp only [maxLen]; omega) (by omega) rfl rfl rfl ?_
      intro vE' wa oE' ha hvE
      have aE' := aE.app fo2.lt hvE
      replace k5 := k5.app oE ha
      replace k4 := k4.app oE ha
      replace fo2 := fo2.app aE ha
      replace oN := oN.app oE ha
      replace oD := oD.app oE ha
      replace bel := bel.trans ha.below
      clear oE aE
      obtain ⟨A2, c2, rfl, -⟩ := oE'.reads
      have oE := oE'
      clear oE'
      refine Seq.val (Runs.fieldB 0 rfl rfl Try.underlying29 rfl (by kernel_rfl)) rfl rfl rfl ?_
      refine Seq.store1 rfl rfl rfl (by kernel_rfl) rfl rfl k5 rfl rfl rfl ?_
      intro w9 pw9
      replace bel := bel.put k5 pw9 e5
      replace fo2 := fo2.put k5 pw9 e5
      replace oE := oE.put k5 pw9 e5
      replace oN := oN.put k5 pw9 e5
      replace oD := oD.put k5 pw9 e5
      replace k4 := k4.put pw9 (by omega)
      replace k5 := pw9.blk
      refine Seq.nil ?_
      refine Post.weak (F' := [(0, _), (1, _), (4, _), (5, _), (6, _), (7, _), (8, _), (9, _), (10, _), (11, _), (52, _)]) ⟨rfl, rfl, rfl, rfl, rfl, rfl, rfl, rfl, rfl, rfl, rfl, trivial⟩ ?_
      refine Post.then_ ?_
      refine Cd.seq ?_
      refine Cd.region ?_
      refine Seq.val (Runs.fieldB 1 rfl rfl Try.underlying29 rfl (by kernel_rfl)) rfl rfl rfl ?_
      refine Seq.val (Runs.loadB rfl rfl Try.underlying26 rfl k5 rfl) rfl rfl rfl ?_
      refine Seq.val (Runs.move rfl rfl) rfl rfl rfl ?_
      refine Seq.slice (vs := [_]) (s := 1) rfl rfl rfl Try.underlying26 (by kernel_rfl) (zero_int) (by omega) (by omega) ⟨rfl, trivial⟩ rfl rfl rfl ?_
      intro g104 w10 n104
      have e104 := Nat.le_trans bel.size n104.ge
      have l104 := Nat.lt_of_lt_of_le k4.lt n104.ge
      have l104_k5 := Nat.lt_of_lt_of_le k5.lt n104.ge
      replace bel := bel.step n104.below
      replace k5 := k5.step n104.below
      replace fo2 := fo2.step n104.below
      replace oE := oE.step n104.below
      replace oN := oN.step n104.below
      replace oD := oD.step n104.below
      replace k4 := k4.step n104.below
      have k104 := n104.blk
      refine Seq.append2 rfl rfl rfl Try.underlying26 (by kernel_rfl) zero_int rfl (by decide) (b := 8) (by kernel_rfl) oN (Reads.blk (size := 1) k104 1 rfl) (by intro x hx; simp [flatC, Value.cells] at hx; rw [hx]; rfl) bel.size (by simp only [maxLen]; omega) (by omega) rfl rfl rfl ?_
      intro vN' wb oN' ha hvN
      have aN' := aN.app fo2.lt hvN
      have aND' := (aND.symm.app (fun b hb => (oD.blockLt b hb).2) hvN).symm
      replace k5 := k5.app oN ha
      replace k4 := k4.app oN ha
      replace fo2 := fo2.app aN ha
      replace oE := oE.app oN ha
      replace oD := oD.kept' ha.grown (fun b hb e => aND b e hb)
      replace bel := bel.trans ha.below
      clear oN aN aND
      obtain ⟨A3, c3, rfl, -⟩ := oN'.reads
      have oN := oN'
      clear oN'
      refine Seq.val (Runs.fieldB 1 rfl rfl Try.underlying29 rfl (by kernel_rfl)) rfl rfl rfl ?_
      refine Seq.store1 rfl rfl rfl (by kernel_rfl) rfl rfl k5 rfl rfl rfl ?_
      intro w11 pw11
      replace bel := bel.put k5 pw11 e5
      replace fo2 := fo2.put k5 pw11 e5
      replace oE := oE.put k5 pw11 e5
      replace oN := oN.put k5 pw11 e5
      replace oD := oD.put k5 pw11 e5
      replace k4 := k4.put pw11 (by omega)
      replace k5 := pw11.blk
      refine Seq.nil ?_
      refine Post.weak (F' := [(0, _), (1, _), (4, _), (5, _), (6, _), (7, _), (8, _), (9, _), (10, _), (11, _), (52, _)]) ⟨rfl, rfl, rfl, rfl, rfl, rfl, rfl, rfl, rfl, rfl, rfl, trivial⟩ ?_
      refine Post.then_ ?_
      refine Cd.region ?_
      refine Seq.val (Runs.fieldB 2 rfl rfl Try.underlying29 rfl (by kernel_rfl)) rfl rfl rfl ?_
      refine Seq.val (Runs.loadB rfl rfl Try.underlying26 rfl k5 rfl) rfl rfl rfl ?_
      refine Seq.val (Runs.move rfl rfl) rfl rfl rfl ?_
      refine Seq.slice (vs := [_]) (s := 1) rfl rfl rfl Try.underlying26 (by kernel_rfl) (zero_int) (by omega) (by omega) ⟨rfl, trivial⟩ rfl rfl rfl ?_
      intro g110 w12 n110
      have e110 := Nat.le_trans bel.size n110.ge
      have l110 := Nat.lt_of_lt_of_le k4.lt n110.ge
      have l110_k5 := Nat.lt_of_lt_of_le k5.lt n110.ge
      replace bel := bel.step n110.below
      replace k5 := k5.step n110.below
      replace fo2 := fo2.step n110.below
      replace oE := oE.step n110.below
      replace oN := oN.step n110.below
      replace oD := oD.step n110.below
      replace k4 := k4.step n110.below
      have k110 := n110.blk
      refine Seq.append2 rfl rfl rfl Try.underlying26 (by kernel_rfl) zero_int rfl (by decide) (b := 8) (by kernel_rfl) oD (Reads.blk (size := 1) k110 1 rfl) (by intro x hx; simp [flatC, Value.cells] at hx; rw [hx]; rfl) bel.size (by simp only [maxLen]; omega) (by omega) rfl rfl rfl ?_
      intro vD' wc oD' ha hvD
      have aD' := aD.app fo2.lt hvD
      have aND2 := aND'.app (fun b hb => (oN.blockLt b hb).2) hvD
      replace k5 := k5.app oD ha
      replace k4 := k4.app oD ha
      replace fo2 := fo2.app aD ha
      replace oE := oE.app oD ha
      replace oN := oN.kept' ha.grown (fun b hb e => aND' b hb e)
      replace bel := bel.trans ha.below
      clear oD aD
      obtain ⟨A4, c4, rfl, -⟩ := oD'.reads
      have oD := oD'
      clear oD'
      refine Seq.val (Runs.fieldB 2 rfl rfl Try.underlying29 rfl (by kernel_rfl)) rfl rfl rfl ?_
      refine Seq.store1 rfl rfl rfl (by kernel_rfl) rfl rfl k5 rfl rfl rfl ?_
      intro w13 pw13
      replace bel := bel.put k5 pw13 e5
      replace fo2 := fo2.put k5 pw13 e5
      replace oE := oE.put k5 pw13 e5
      replace oN := oN.put k5 pw13 e5
      replace oD := oD.put k5 pw13 e5
      replace k4 := k4.put pw13 (by omega)
      replace k5 := pw13.blk
      refine Seq.nil ?_
      refine Post.weak (F' := [(0, _), (1, _), (4, _), (5, _), (6, _), (7, _), (8, _), (9, _), (10, _), (11, _), (52, _)]) ⟨rfl, rfl, rfl, rfl, rfl, rfl, rfl, rfl, rfl, rfl, rfl, trivial⟩ ?_
      refine Post.block_normal ?_
      refine Post.then_ ?_
      refine Cd.region ?_
      refine Seq.val (Runs.move rfl rfl) rfl rfl rfl ?_
      refine Seq.val (Runs.addI rfl rfl rfl (by omega) (by omega)) rfl rfl rfl ?_
      refine Seq.val (Runs.assign rfl rfl) rfl rfl rfl ?_
      refine Seq.nil ?_
      refine Post.weak (F' := [(0, _), (1, _), (4, _), (5, _), (6, _), (7, _), (8, _), (9, _), (10, _), (11, _), (52, _)]) ⟨rfl, rfl, rfl, rfl, rfl, rfl, rfl, rfl, rfl, rfl, rfl, trivial⟩ ?_
      have hlE : (es ++ [leafE es x]).length = es.length + 1 := by simp
      refine Post.round (i + 1, blocksOf vA ++ T, vs ++ [.agg #[.int .i64 x.op, .int .i64 x.n, .string (strOf x.name), vA]], .slice A2 (es.length + 1) c2, .slice A3 (es.length + 1) c3, .slice A4 (es.length + 1) c4) ⟨rfl, rfl, rfl, rfl, rfl, trivial⟩ ?_ (by dsimp only; omega)
      dsimp only
      rw [htake, hlE, flatC_append, List.map_append, List.map_append, DI_append, DI_append]
      exact ⟨by omega, bel, k4, k5, fo2, hfar2, oE, oN, oD, aE', aN', aD', aND2⟩
  · have hin : i = n := by
      have hc' : ¬ ((i : Int) < n ∧ (i : Int) < 60) := fun h => by rw [decide_eq_true h.1, decide_eq_true h.2] at hc; cases hc
      omega
    subst hin
    rw [show xs.take i = xs from List.take_of_length_le (by omega)] at fo oE oN oD
    refine Cd.exit ?_
    refine Post.then_exit ?_
    refine Post.round_exit ?_
    refine Post.block_exit ?_
    refine Post.then_ ?_
    refine Cd.seq ?_
    refine Cd.seq ?_
    refine Cd.region ?_
    refine Seq.val (Runs.assign rfl rfl) rfl rfl rfl ?_
    refine Seq.nil ?_
    refine Post.weak (F' := [(0, _), (1, _), (4, _), (5, _), (6, _), (13, _), (30, _)]) ⟨rfl, rfl, rfl, rfl, rfl, rfl, rfl, trivial⟩ ?_
    refine Post.then_ ?_
    refine Cd.block ?_
    have hlt5 := k5.lt
    have hesl := treesOf_length xs
    generalize hes : treesOf xs = es at *
    have hgT : g5 ∉ T := fun hm => by have := hfar _ hm; omega
    refine Cd.loop (σ := Nat × List Nat × List Value × Value × Value × Value) (fun s => [(0, .slice A i c), (1, .slice AK nK cK), (4, .pointer (some ⟨g4, 0, none⟩)), (5, .pointer (some ⟨g5, 0, none⟩)), (13, .int .i64 (s.1 : Int))])
      (fun s w3 => s.1 ≤ nK ∧ Only wr w3 g5 ∧ Blk w3 g4 29 #[.slice none 0 0, .slice none 0 0, .slice none 0 0, .slice none 0 0, .slice none 0 0, .slice none 0 0] ∧ Blk w3 g5 29 #[vE, vN, vD, s.2.2.2.1, s.2.2.2.2.1, s.2.2.2.2.2] ∧
        ForestT w3 s.2.1 (termsOf es (ks.take s.1)) s.2.2.1 ∧ (∀ b ∈ s.2.1, g5 < b) ∧ (∀ b ∈ T, b ∈ s.2.1) ∧ Own w3 wr.heap.size 57 4 s.2.2.2.1 (termsOf es (ks.take s.1)).length (flatC s.2.2.1) ∧ Own w3 wr.heap.size 3 1 s.2.2.2.2.1 (termsOf es (ks.take s.1)).length (DI ((termsOf es (ks.take s.1)).map zMuch)) ∧ Own w3 wr.heap.size 3 1 s.2.2.2.2.2 (termsOf es (ks.take s.1)).length (DI ((termsOf es (ks.take s.1)).map zDeep)) ∧
        Apart s.2.2.2.1 s.2.1 ∧ Apart s.2.2.2.2.1 s.2.1 ∧ Apart s.2.2.2.2.2 s.2.1 ∧ Two s.2.2.2.2.1 s.2.2.2.2.2)
      (fun s => nK - s.1) (0, T, [], .slice none 0 0, .slice none 0 0, .slice none 0 0)
      ⟨Nat.zero_le _, ⟨only_of_below (Below.refl _ _) _⟩, k4, k5, ForestT.nil _ _ fo.lt, hfar, fun b h => h, Own.nil _ _ _ _, Own.nil _ _ _ _, Own.nil _ _ _ _, fun b h => (by cases h), fun b h => (by cases h), fun b h => (by cases h), fun b h => (by cases h)⟩ ⟨rfl, rfl, rfl, rfl, rfl, trivial⟩ ?_
    have belR := bel
    have k5R := k5
    clear bel k4 k5
    rintro ⟨k, T3, us, vT, vM, vP⟩ w3 ⟨hk, only, k4, k5, ft, hfar3, hsub, oT, oM, oP, aT, aM, aP, aMP⟩
    dsimp only at hk k5 ft hfar3 hsub oT oM oP aT aM aP aMP ⊢
    have hb3 : Below w.heap.size w w3 := belR.trans (only_to_below only.row e5 hlt5)
    have hTl : (termsOf es (ks.take k)).length = k := by rw [termsOf_length, List.length_take]; omega
    have bel := Below.refl w3.heap.size w3
    refine Cd.seq ?_
    refine Cd.seq ?_
    refine Cd.region ?_
    refine Seq.val (Runs.move rfl rfl) rfl rfl rfl ?_
    refine Seq.val (Runs.move rfl rfl) rfl rfl rfl ?_
    refine Seq.val (Runs.len rfl rfl Try.underlying54) rfl rfl rfl ?_
    refine Seq.val (Runs.lss rfl rfl rfl) rfl rfl rfl ?_
    refine Seq.val (Runs.move rfl rfl) rfl rfl rfl ?_
    refine SeqC.start ?_
    refine SeqC.open rfl rfl rfl rfl rfl rfl rfl (fun hcx => Runs.move rfl rfl) ?_
    refine SeqC.next rfl rfl rfl rfl rfl rfl rfl (fun hcx => Runs.lss rfl rfl rfl) ?_
    refine SeqC.and rfl rfl rfl rfl rfl rfl rfl ?_
    refine Seq.nil ?_
    refine Post.weak (F' := [(0, _), (1, _), (4, _), (5, _), (13, _), (120, _)]) ⟨rfl, rfl, rfl, rfl, rfl, rfl, trivial⟩ ?_
    refine Post.then_ ?_
    refine Cd.cond rfl (fun hc => ?_) (fun hc => ?_)
    · simp only [Bool.and_eq_true, decide_eq_true_eq] at hc
      obtain ⟨x, hxi⟩ : ∃ x, ks[k]? = some x := ⟨_, List.getElem?_eq_getElem (show k < ks.length by omega)⟩
      have hrng := hxK x (List.mem_of_getElem? hxi)
      have htake : termsOf es (ks.take (k + 1)) = termsOf es (ks.take k) ++ [knotT es (termsOf es (ks.take k)) x] := by rw [List.take_add_one, hxi]; exact termsOf_snoc _ _ _
      obtain ⟨ad, A1, A2, c1, c2, rfl, hadb, hrd1, hrd2, hcell⟩ := (hK.below hb3) k x hxi
      generalize termsOf es (ks.take k) = ts at *
      have fo3 := fo.grown only.row (fun b e => by injection e with e; subst e; exact hgT)
      have kk := own_blk_ne oE.row k5R (by decide)
      have oE3 := oE.kept' only.row (fun b hb e => kk (by rw [hb, e]))
      have kk2 := own_blk_ne oN.row k5R (by decide)
      have oN3 := oN.kept' only.row (fun b hb e => kk2 (by rw [hb, e]))
      have kk3 := own_blk_ne oD.row k5R (by decide)
      have oD3 := oD.kept' only.row (fun b hb e => kk3 (by rw [hb, e]))
      have hg53 := k5.lt
      have hesl60 : es.length ≤ 60 := by omega
      refine Cd.skip ?_
      refine Post.then_ ?_
      refine Cd.seq ?_
      refine Cd.block ?_
      refine Cd.seq ?_
      refine Cd.region ?_
      refine Seq.val (Runs.move rfl rfl) rfl rfl rfl ?_
      refine Seq.val (Runs.move rfl rfl) rfl rfl rfl ?_
      refine Seq.val (Runs.indexN rfl rfl rfl Try.underlying54 (s := 4) (by kernel_rfl) (j := k) rfl (by omega)) rfl rfl rfl ?_
      refine Seq.val (Runs.loadF (ps := [.int .i64 x.op, .string (strOf x.name), .slice A1 x.exprs.length c1, .slice A2 x.terms.length c2]) rfl rfl Try.underlying74 rfl (m := 4) (by kernel_rfl) rfl hcell) rfl rfl rfl ?_
      refine Seq.alloc rfl (run_zero zero_debentureref18_Knot) rfl rfl rfl ?_
      intro g14 w4 n14
      have e14 := Nat.le_trans bel.size n14.ge
      have l14 := Nat.lt_of_lt_of_le k5.lt n14.ge
      replace bel := bel.step n14.below
      replace k5 := k5.step n14.below
      have k14 := n14.blk
      refine Seq.storeN rfl rfl rfl rfl (m := 4) (by kernel_rfl) rfl (by repeat' first | exact trivial | apply And.intro | rfl | assumption) k14 (by simp [Value.cells]) rfl rfl ?_
      intro w5 pw5
      replace bel := bel.put k14 pw5 e14
      replace k5 := k5.put pw5 (by omega)
      replace k14 := pw5.blk
      refine Seq.nil ?_
      refine Post.weak (F' := [(0, _), (1, _), (4, _), (5, _), (13, _), (14, _), (120, _)]) ⟨rfl, rfl, rfl, rfl, rfl, rfl, rfl, trivial⟩ ?_
      refine Post.then_ ?_
      refine Cd.seq ?_
      refine Cd.region ?_
      refine Seq.val (Runs.fieldB 0 rfl rfl Try.underlying74 rfl (by kernel_rfl)) rfl rfl rfl ?_
      refine Seq.val (Runs.loadB rfl rfl Try.underlying3 rfl k14 rfl) rfl rfl rfl ?_
      refine Seq.val (Runs.fieldB 1 rfl rfl Try.underlying74 rfl (by kernel_rfl)) rfl rfl rfl ?_
      refine Seq.val (Runs.loadB rfl rfl Try.underlying9 rfl k14 rfl) rfl rfl rfl ?_
      refine Seq.val (Runs.build rfl rfl (run_build_Tm _ _ _)) rfl rfl rfl ?_
      refine Seq.alloc rfl (run_zero zero_api_Term) rfl rfl rfl ?_
      intro g15 w6 n15
      have e15 := Nat.le_trans bel.size n15.ge
      have l15 := Nat.lt_of_lt_of_le k14.lt n15.ge
      have l15_k5 := Nat.lt_of_lt_of_le k5.lt n15.ge
      replace bel := bel.step n15.below
      replace k5 := k5.step n15.below
      replace k14 := k14.step n15.below
      have k15 := n15.blk
      refine Seq.storeN rfl rfl rfl rfl (m := 4) (by kernel_rfl) rfl (by repeat' first | exact trivial | apply And.intro | rfl | assumption) k15 (by simp [Value.cells]) rfl rfl ?_
      intro w7 pw7
      replace bel := bel.put k15 pw7 e15
      replace k5 := k5.put pw7 (by omega)
      replace k14 := k14.put pw7 (by omega)
      replace k15 := pw7.blk
      refine Seq.nil ?_
      refine Post.weak (F' := [(0, _), (1, _), (4, _), (5, _), (13, _), (14, _), (15, _), (120, _)]) ⟨rfl, rfl, rfl, rfl, rfl, rfl, rfl, rfl, trivial⟩ ?_
      refine Post.then_ ?_
      refine Cd.seq ?_
      refine Cd.region ?_
      refine Seq.val (Runs.assign rfl rfl) rfl rfl rfl ?_
      refine Seq.val (Runs.assign rfl rfl) rfl rfl rfl ?_
      refine Seq.nil ?_
      refine Post.weak (F' := [(0, _), (1, _), (4, _), (5, _), (13, _), (14, _), (15, _), (16, _), (17, _), (120, _)]) ⟨rfl, rfl, rfl, rfl, rfl, rfl, rfl, rfl, rfl, rfl, trivial⟩ ?_
      refine Post.then_ ?_
      refine Cd.seq ?_
      refine Cd.seq ?_
      refine Cd.region ?_
      refine Seq.val (Runs.assign rfl rfl) rfl rfl rfl ?_
      refine Seq.nil ?_
      refine Post.weak (F' := [(0, _), (1, _), (4, _), (5, _), (13, _), (14, _), (15, _), (16, _), (17, _), (18, _), (120, _)]) ⟨rfl, rfl, rfl, rfl, rfl, rfl, rfl, rfl, rfl, rfl, rfl, trivial⟩ ?_
      refine Post.then_ ?_
      refine Cd.block ?_
      refine Cd.loop (σ := Nat × List Value × Value × Int × Int) (fun s => [(0, .slice A i c), (1, .slice (some ad) nK cK), (4, .pointer (some ⟨g4, 0, none⟩)), (5, .pointer (some ⟨g5, 0, none⟩)), (13, .int .i64 (k : Int)), (14, .pointer (some ⟨g14, 0, none⟩)), (15, .pointer (some ⟨g15, 0, none⟩)), (16, .int .i64 s.2.2.2.1), (17, .int .i64 s.2.2.2.2), (18, .int .i64 (s.1 : Int))])
        (fun s w2 => s.1 ≤ x.exprs.length ∧ s.1 ≤ 3 ∧ Below w3.heap.size w3 w2 ∧ Blk w2 g5 29 #[vE, vN, vD, vT, vM, vP] ∧ Blk w2 g14 74 #[.int .i64 x.op, .string (strOf x.name), .slice A1 x.exprs.length c1, .slice A2 x.terms.length c2] ∧ Blk w2 g15 57 #[.int .i64 x.op, .string (strOf x.name), s.2.2.1, .slice none 0 0] ∧
          Own w2 (g15 + 1) 35 4 s.2.2.1 (pickK es (x.exprs.take s.1)).length (flatC s.2.1) ∧ s.2.1.length = (pickK es (x.exprs.take s.1)).length ∧ (∀ j e v, (pickK es (x.exprs.take s.1))[j]? = some e → s.2.1[j]? = some v → RepE w3 (· ∈ T) e v) ∧ s.2.2.2.1 = 1 + sumN (pickK es (x.exprs.take s.1)) ∧ s.2.2.2.2 = 1 + maxD (pickK es (x.exprs.take s.1)))
        (fun s => 3 - s.1) (0, [], .slice none 0 0, 1, 1)
        ⟨Nat.zero_le _, Nat.zero_le _, bel, k5, k14, k15, Own.nil _ _ _ _, rfl, (fun j e v h => absurd ((List.getElem?_nil (α := Ex) (i := j)).symm.trans h) (fun h => by cases h)), rfl, rfl⟩ ⟨rfl, rfl, rfl, rfl, rfl, rfl, rfl, rfl, rfl, rfl, trivial⟩ ?_
      clear bel k5 k14 k15
      rintro ⟨q, avs, vA, nn, dd⟩ w2 ⟨hq, hq3, bel, k5, k14, k15, own, havl, hrep, hnn, hdd⟩
      dsimp only at hq hq3 k15 own havl hrep hnn hdd ⊢
      have hlA := own.blockLt
      have hpl := pickK_length es (x.exprs.take q)
      have hpl2 : (x.exprs.take q).length ≤ q := by rw [List.length_take]; omega
      have hsb := sumN_bounds (pickK es (x.exprs.take q))
      have hmb := maxD_nonneg (pickK es (x.exprs.take q))
      refine Cd.seq ?_
      refine Cd.seq ?_
      refine Cd.region ?_
      refine Seq.val (Runs.move rfl rfl) rfl rfl rfl ?_
      refine Seq.val (Runs.fieldB 2 rfl rfl Try.underlying74 rfl (by kernel_rfl)) rfl rfl rfl ?_
      refine Seq.val (Runs.loadB rfl rfl Try.underlying26 rfl k14 rfl) rfl rfl rfl ?_
      refine Seq.val (Runs.len rfl rfl Try.underlying26) rfl rfl rfl ?_
      refine Seq.val (Runs.lss rfl rfl rfl) rfl rfl rfl ?_
      refine Seq.val (Runs.move rfl rfl) rfl rfl rfl ?_
      refine SeqC.start ?_
      refine SeqC.open rfl rfl rfl rfl rfl rfl rfl (fun hcx => Runs.move rfl rfl) ?_
      refine SeqC.next rfl rfl rfl rfl rfl rfl rfl (fun hcx => Runs.lss rfl rfl rfl) ?_
      refine SeqC.and rfl rfl rfl rfl rfl rfl rfl ?_
      refine Seq.nil ?_
      refine Post.weak (F' := [(0, _), (1, _), (4, _), (5, _), (13, _), (14, _), (15, _), (16, _), (17, _), (18, _), (140, _)]) ⟨rfl, rfl, rfl, rfl, rfl, rfl, rfl, rfl, rfl, rfl, rfl, trivial⟩ ?_
      refine Post.then_ ?_
      refine Cd.cond rfl (fun hc => ?_) (fun hc => ?_)
      · simp only [Bool.and_eq_true, decide_eq_true_eq] at hc
        obtain ⟨z, hz⟩ : ∃ z, x.exprs[q]? = some z := ⟨_, List.getElem?_eq_getElem (by omega)⟩
        obtain ⟨ad', rfl, hbl', hc'⟩ := hrd1.2 (by omega)
        have hc' := fun W (hb : Below w3.heap.size w3 W) => (hb.cell (p := ad'.add q) (by rw [block_of_add]; have := hb3.size; omega)).trans (hc' q (.int .i64 z) (by rw [get_DI, hz]; rfl))
        have hks : x.exprs.take (q + 1) = x.exprs.take q ++ [z] := by rw [List.take_add_one, hz]; rfl
        obtain ⟨aE0, cE, rfl, hrE⟩ := oE3.reads
        refine Cd.skip ?_
        refine Post.then_ ?_
        refine Cd.seq ?_
        refine Cd.block ?_
        refine Cd.seq ?_
        refine Cd.draw 9 (by kernel_rfl) [] (.inl rfl) rfl Grow Grow.refl (fun _ _ _ => Grow.trans) ?_
        intro w8 hw8 zw8
        replace bel := bel.step hw8
        replace k5 := k5.step hw8
        replace k14 := k14.step hw8
        replace k15 := k15.step hw8
        replace own := own.step hw8
        have zbel := bel.size
        have zlt := k15.lt
        refine Dr.val Grow.refl rfl (fun w hG => Runs.fieldB 2 rfl rfl Try.underlying74 rfl (by kernel_rfl)) rfl ?_
        refine Dr.val Grow.refl rfl (fun w hG => Runs.loadB rfl rfl Try.underlying26 rfl (k14.step hG) rfl) rfl ?_
        refine Dr.val Grow.refl rfl (fun w hG => Runs.move rfl rfl) rfl ?_
        refine Dr.val Grow.refl rfl (fun w hG => Runs.index1 rfl rfl rfl Try.underlying26 (by kernel_rfl) (j := q) rfl (by omega)) rfl ?_
        refine Dr.val Grow.refl rfl (fun w hG => Runs.load1 rfl rfl Try.underlying3 rfl (hc' _ (Below.step bel hG))) rfl ?_
        refine Dr.val Grow.refl rfl (fun w hG => Runs.fieldB 0 rfl rfl Try.underlying29 rfl (by kernel_rfl)) rfl ?_
        refine Dr.val Grow.refl rfl (fun w hG => Runs.loadB rfl rfl Try.underlying25 rfl (k5.step hG) rfl) rfl ?_
        refine Dr.val Grow.refl rfl (fun w hG => Runs.len rfl rfl Try.underlying25) rfl ?_
        refine Dr.call (Φ := (fun v _ => ∃ z', v = .int .i64 z' ∧ ((es.length = 0 ∧ z' = -1) ∨ (0 < es.length ∧ z' = (earl z es.length : Int))))) rfl (fun w => Enters.func rfl rfl rfl (run_enter Try.func38 (by kernel_rfl) rfl)) rfl (fun _ _ _ _ h => h) (fun w hG => (earlierC z es.length w (by omega)).mono fun e w' ⟨⟨z', h1, h2⟩, h3⟩ => ⟨_, h1, h3, z', rfl, h2⟩) ?_
        refine Dr.nil ?_
        refine FinX.open (j := 8) rfl ?_
        intro u8
        refine FinX.done (F' := [(0, _), (1, _), (4, _), (5, _), (13, _), (14, _), (15, _), (16, _), (17, _), (18, _), (140, _), (151, _)]) rfl ⟨rfl, rfl, rfl, rfl, rfl, rfl, rfl, rfl, rfl, rfl, rfl, rfl, trivial⟩ ?_
        intro w9 hw9 fw9
        replace bel := bel.step hw9
        replace k5 := k5.step hw9
        replace k14 := k14.step hw9
        replace k15 := k15.step hw9
        replace own := own.step hw9
        obtain ⟨z', rfl, hz'⟩ := fw9.2
        refine Seq.val (Runs.assign rfl rfl) rfl rfl rfl ?_
        refine Seq.nil ?_
        refine Post.weak (F' := [(0, _), (1, _), (4, _), (5, _), (13, _), (14, _), (15, _), (16, _), (17, _), (18, _), (19, _), (140, _)]) ⟨rfl, rfl, rfl, rfl, rfl, rfl, rfl, rfl, rfl, rfl, rfl, rfl, trivial⟩ ?_
        refine Post.then_ ?_
        refine Cd.seq ?_
        refine Cd.region ?_
        refine Seq.val (Runs.move rfl rfl) rfl rfl rfl ?_
        refine Seq.val (Runs.geq rfl rfl rfl) rfl rfl rfl ?_
        refine Seq.nil ?_
        refine Post.weak (F' := [(0, _), (1, _), (4, _), (5, _), (13, _), (14, _), (15, _), (16, _), (17, _), (18, _), (19, _), (140, _), (153, _)]) ⟨rfl, rfl, rfl, rfl, rfl, rfl, rfl, rfl, rfl, rfl, rfl, rfl, rfl, trivial⟩ ?_
        refine Post.then_ ?_
        refine Cd.condD rfl (fun h => ?_) (fun h => ?_)
        · obtain ⟨h0i, rfl⟩ : 0 < es.length ∧ z' = (earl z es.length : Int) := by rcases hz' with ⟨h1, h2⟩ | h2; exact absurd h (by omega); exact h2
          clear hz'
          have hj := earl_lt z h0i
          generalize hjj : earl z es.length = j at *
          obtain ⟨e, he⟩ : ∃ e, es[j]? = some e := ⟨_, List.getElem?_eq_getElem (by omega)⟩
          obtain ⟨ev, hev⟩ : ∃ ev, vs[j]? = some ev := ⟨_, List.getElem?_eq_getElem (by rw [fo3.len]; omega)⟩
          have hre := fo3.rep j e ev he hev
          obtain ⟨AA, cc, rfl⟩ := hre.form
          have h4 : ∀ y ∈ vs, y.cells.size = 4 := sizes_spec fo3.cells
          obtain ⟨adE, rfl, hbE, hcE⟩ := hrE.2 (by omega)
          have hcE : ∀ W, Below w3.heap.size w3 W → ∀ (q : Nat) (u : Value), ([.int .i64 e.op, .int .i64 e.n, .string (strOf e.name), .slice AA e.args.length cc] : List Value)[q]? = some u → W.cell? ((adE.add (j * 4)).add q) = some u := fun W hb q u hq => (hb.cell (p := (adE.add (j * 4)).add q) (by rw [block_of_add, block_of_add]; exact hbE)).trans (by rw [add_of_add]; exact hcE _ _ (flatC_at h4 hev q u (by simpa [Value.cells] using hq)))
          obtain ⟨aN0, cN, rfl, hrN⟩ := oN3.reads
          obtain ⟨adN, rfl, hbN, hcN⟩ := hrN.2 (by omega)
          have hcN := fun W (hb : Below w3.heap.size w3 W) => (hb.cell (p := adN.add j) (by rw [block_of_add]; exact hbN)).trans (hcN j (.int .i64 (zNodes e)) (by rw [get_DI, List.getElem?_map, he]; rfl))
          obtain ⟨aD0, cD, rfl, hrD⟩ := oD3.reads
          obtain ⟨adD, rfl, hbD, hcD⟩ := hrD.2 (by omega)
          have hcD := fun W (hb : Below w3.heap.size w3 W) => (hb.cell (p := adD.add j) (by rw [block_of_add]; exact hbD)).trans (hcD j (.int .i64 (zDepth e)) (by rw [get_DI, List.getElem?_map, he]; rfl))
          have hpk : pickK es (x.exprs.take (q + 1)) = pickK es (x.exprs.take q) ++ [e] := by rw [hks]; exact pickK_some _ _ _ _ (by rw [hjj]; exact he)
          have hzb := z_bounds e
          refine Cd.seq ?_
          refine Cd.draw 8 (by kernel_rfl) [] (.inl rfl) rfl Grow Grow.refl (fun _ _ _ => Grow.trans) ?_
          intro w10 hw10 zw10
          replace bel := bel.step hw10
          replace k5 := k5.step hw10
          replace k14 := k14.step hw10
          replace k15 := k15.step hw10
          replace own := own.step hw10
          have zbel := bel.size
          have zlt := k15.lt
          refine Dr.val Grow.refl rfl (fun w hG => Runs.fieldB 2 rfl rfl Try.underlying57 rfl (by kernel_rfl)) rfl ?_
          refine Dr.val Grow.refl rfl (fun w hG => Runs.loadB rfl rfl Try.underlying25 rfl (k15.step hG) rfl) rfl ?_
          refine Dr.val Grow.refl rfl (fun w hG => Runs.fieldB 0 rfl rfl Try.underlying29 rfl (by kernel_rfl)) rfl ?_
          refine Dr.val Grow.refl rfl (fun w hG => Runs.loadB rfl rfl Try.underlying25 rfl (k5.step hG) rfl) rfl ?_
          refine Dr.val Grow.refl rfl (fun w hG => Runs.move rfl rfl) rfl ?_
          refine Dr.val Grow.refl rfl (fun w hG => Runs.indexN rfl rfl rfl Try.underlying25 (s := 4) (by kernel_rfl) (j := j) rfl (by omega)) rfl ?_
          refine Dr.val Grow.refl rfl (fun w hG => Runs.loadF (ps := [.int .i64 e.op, .int .i64 e.n, .string (strOf e.name), .slice AA e.args.length cc]) rfl rfl Try.underlying35 rfl (m := 4) (by kernel_rfl) rfl (hcE w (Below.step bel hG))) rfl ?_
          refine Dr.slice (vs := [_]) (s := 4) rfl rfl rfl rfl Try.underlying25 (by kernel_rfl) zero_api_Expr (by omega) (by omega) ⟨rfl, trivial⟩ rfl ?_
          refine Dr.nil ?_
          refine FinX.open (j := 7) rfl ?_
          intro u7
          refine FinX.done (F' := [(0, _), (1, _), (4, _), (5, _), (13, _), (14, _), (15, _), (16, _), (17, _), (18, _), (19, _), (140, _), (153, _), (155, _), (161, _)]) rfl ⟨rfl, rfl, rfl, rfl, rfl, rfl, rfl, rfl, rfl, rfl, rfl, rfl, rfl, rfl, rfl, trivial⟩ ?_
          intro w11 hw11 fw11
          replace bel := bel.step hw11
          replace k5 := k5.step hw11
          replace k14 := k14.step hw11
          replace k15 := k15.step hw11
          replace own := own.step hw11
          obtain ⟨gS, rfl, kS, -⟩ := fw11.2
          have hne8 : vA.ownBlock ≠ some g15 := fun e' => by have := (own.blockLt _ e').1; omega
          refine Seq.append rfl rfl rfl Try.underlying25 (by kernel_rfl) zero_api_Expr rfl (by decide) (b := 56) (by kernel_rfl) own (Reads.blk (size := 4) kS 1 rfl) (by intro x hx; simp [flatC, Value.cells] at hx; rcases hx with rfl | rfl | rfl | rfl <;> rfl) (Nat.succ_le_of_lt k15.lt) (by simp only [maxLen]; omega) (by omega) rfl rfl rfl ?_
          intro vA' wa oA ha
          replace k14 := k14.app own ha
          replace k5 := k5.app own ha
          replace k15 := k15.grown ha.grown (fun e' => hne8 e'.symm)
          replace bel := bel.trans (ha.below.mono (by omega))
          clear own
          obtain ⟨A2, c2, rfl, -⟩ := oA.reads
          have own := oA
          have hne9 : (Value.slice A2 ((pickK es (x.exprs.take q)).length + 1) c2).ownBlock ≠ some g15 := fun e' => by have := (own.blockLt _ e').1; omega
          refine Seq.val (Runs.fieldB 2 rfl rfl Try.underlying57 rfl (by kernel_rfl)) rfl rfl rfl ?_
          refine Seq.store1 rfl rfl rfl (by kernel_rfl) rfl rfl k15 rfl rfl rfl ?_
          intro w12 pw12
          replace bel := bel.put k15 pw12 e15
          replace k5 := k5.put pw12 (by omega)
          replace k14 := k14.put pw12 (by omega)
          replace own := own.put k15 pw12 e15
          replace k15 := pw12.blk
          refine Seq.nil ?_
          refine Post.weak (F' := [(0, _), (1, _), (4, _), (5, _), (13, _), (14, _), (15, _), (16, _), (17, _), (18, _), (19, _), (140, _), (153, _)]) ⟨rfl, rfl, rfl, rfl, rfl, rfl, rfl, rfl, rfl, rfl, rfl, rfl, rfl, trivial⟩ ?_
          refine Post.then_ ?_
          refine Cd.seq ?_
          refine Cd.region ?_
          refine Seq.val (Runs.move rfl rfl) rfl rfl rfl ?_
          refine Seq.val (Runs.fieldB 1 rfl rfl Try.underlying29 rfl (by kernel_rfl)) rfl rfl rfl ?_
          refine Seq.val (Runs.loadB rfl rfl Try.underlying26 rfl k5 rfl) rfl rfl rfl ?_
          refine Seq.val (Runs.move rfl rfl) rfl rfl rfl ?_
          refine Seq.val (Runs.index1 rfl rfl rfl Try.underlying26 (by kernel_rfl) (j := j) rfl (by omega)) rfl rfl rfl ?_
          refine Seq.val (Runs.load1 rfl rfl Try.underlying3 rfl (hcN _ bel)) rfl rfl rfl ?_
          refine Seq.val (Runs.addI rfl rfl rfl (by omega) (by omega)) rfl rfl rfl ?_
          refine Seq.val (Runs.assign rfl rfl) rfl rfl rfl ?_
          refine Seq.nil ?_
          refine Post.weak (F' := [(0, _), (1, _), (4, _), (5, _), (13, _), (14, _), (15, _), (16, _), (17, _), (18, _), (19, _), (140, _), (153, _)]) ⟨rfl, rfl, rfl, rfl, rfl, rfl, rfl, rfl, rfl, rfl, rfl, rfl, rfl, trivial⟩ ?_
          refine Post.then_ ?_
          refine Cd.region ?_
          refine Seq.val (Runs.move rfl rfl) rfl rfl rfl ?_
          refine Seq.val (Runs.fieldB 2 rfl rfl Try.underlying29 rfl (by kernel_rfl)) rfl rfl rfl ?_
          refine Seq.val (Runs.loadB rfl rfl Try.underlying26 rfl k5 rfl) rfl rfl rfl ?_
          refine Seq.val (Runs.move rfl rfl) rfl rfl rfl ?_
          refine Seq.val (Runs.index1 rfl rfl rfl Try.underlying26 (by kernel_rfl) (j := j) rfl (by omega)) rfl rfl rfl ?_
          refine Seq.val (Runs.load1 rfl rfl Try.underlying3 rfl (hcD _ bel)) rfl rfl rfl ?_
          refine Seq.val (Runs.addI rfl rfl rfl (by omega) (by omega)) rfl rfl rfl ?_
          refine Seq.val (Runs.max2 rfl rfl rfl) rfl rfl rfl ?_
          refine Seq.val (Runs.assign rfl rfl) rfl rfl rfl ?_
          refine Seq.nil ?_
          refine Post.weak (F' := [(0, _), (1, _), (4, _), (5, _), (13, _), (14, _), (15, _), (16, _), (17, _), (18, _), (19, _), (140, _), (153, _)]) ⟨rfl, rfl, rfl, rfl, rfl, rfl, rfl, rfl, rfl, rfl, rfl, rfl, rfl, trivial⟩ ?_
          refine Post.block_normal ?_
          refine Post.then_ ?_
          refine Cd.region ?_
          refine Seq.val (Runs.move rfl rfl) rfl rfl rfl ?_
          refine Seq.val (Runs.addI rfl rfl rfl (by omega) (by omega)) rfl rfl rfl ?_
          refine Seq.val (Runs.assign rfl rfl) rfl rfl rfl ?_
          refine Seq.nil ?_
          refine Post.weak (F' := [(0, _), (1, _), (4, _), (5, _), (13, _), (14, _), (15, _), (16, _), (17, _), (18, _), (19, _), (140, _), (153, _)]) ⟨rfl, rfl, rfl, rfl, rfl, rfl, rfl, rfl, rfl, rfl, rfl, rfl, rfl, trivial⟩ ?_
          have hlen2 : (pickK es (x.exprs.take (q + 1))).length = (pickK es (x.exprs.take q)).length + 1 := by rw [hpk]; simp
          refine Post.round (q + 1, avs ++ [.agg #[.int .i64 e.op, .int .i64 e.n, .string (strOf e.name), .slice AA e.args.length cc]], .slice A2 ((pickK es (x.exprs.take q)).length + 1) c2, nn + zNodes e, max dd (zDepth e + 1)) ⟨rfl, rfl, rfl, rfl, rfl, rfl, rfl, rfl, rfl, rfl, trivial⟩ ⟨by dsimp only; omega, by dsimp only; omega, bel, k5, k14, k15, ?_, ?_, ?_, ?_, ?_⟩ (by dsimp only; omega)
          · dsimp only
            rw [hlen2, flatC_append]
            exact own
          · dsimp only
            rw [hlen2, List.length_append, havl]; rfl
          · dsimp only
            rw [hpk]
            intro q y v hq hv
            rcases Nat.lt_or_ge q avs.length with hqi | hqi
            · rw [List.getElem?_append_left hqi] at hv
              rw [List.getElem?_append_left (by omega)] at hq
              exact hrep q y v hq hv
            · rw [List.getElem?_append_right hqi] at hv
              rw [List.getElem?_append_right (by omega), ← havl] at hq
              have h0 : q - avs.length = 0 := by
                have := (List.getElem?_eq_some_iff.1 hv).1
                simp at this
                exact this
              rw [h0] at hq hv
              injection hq with hq
              injection hv with hv
              subst hq hv
              exact hre
          · dsimp only
            rw [hpk, sumN_snoc, hnn]; omega
          · dsimp only
            rw [hpk, maxD_snoc, hdd]; omega
        · obtain ⟨h0i, rfl⟩ : es.length = 0 ∧ z' = -1 := by rcases hz' with ⟨h1, h2⟩ | ⟨h1, h2⟩; exact ⟨h1, h2⟩; exact absurd (by omega) h
          have hpk : pickK es (x.exprs.take (q + 1)) = pickK es (x.exprs.take q) := by rw [hks]; exact pickK_none _ _ _ h0i
          refine Cd.skip ?_
          refine Post.block_normal ?_
          refine Post.then_ ?_
          refine Cd.region ?_
          refine Seq.val (Runs.move rfl rfl) rfl rfl rfl ?_
          refine Seq.val (Runs.addI rfl rfl rfl (by omega) (by omega)) rfl rfl rfl ?_
          refine Seq.val (Runs.assign rfl rfl) rfl rfl rfl ?_
          refine Seq.nil ?_
          refine Post.weak (F' := [(0, _), (1, _), (4, _), (5, _), (13, _), (14, _), (15, _), (16, _), (17, _), (18, _), (19, _), (140, _), (153, _)]) ⟨rfl, rfl, rfl, rfl, rfl, rfl, rfl, rfl, rfl, rfl, rfl, rfl, rfl, trivial⟩ ?_
          exact Post.round (q + 1, avs, vA, nn, dd) ⟨rfl, rfl, rfl, rfl, rfl, rfl, rfl, rfl, rfl, rfl, trivial⟩ ⟨by dsimp only; omega, by dsimp only; omega, bel, k5, k14, k15, by dsimp only; rw [hpk]; exact own, by dsimp only; rw [hpk]; exact havl, by dsimp only; rw [hpk]; exact hrep, by dsimp only; rw [hpk]; exact hnn, by dsimp only; rw [hpk]; exact hdd⟩ (by dsimp only; omega)
      · have hfull : x.exprs.take q = x.exprs.take 3 := by
          have hc' : ¬ ((q : Int) < x.exprs.length ∧ (q : Int) < 3) := fun h => by rw [decide_eq_true h.1, decide_eq_true h.2] at hc; cases hc
          rcases Nat.lt_or_ge q 3 with h5 | h5
          · rw [List.take_of_length_le (by omega), List.take_of_length_le (by omega)]
          · rw [show q = 3 by omega]
        rw [hfull] at own havl hrep hnn hdd
        have hplE := pickK_length es (x.exprs.take 3)
        have hplE2 : (x.exprs.take 3).length ≤ 3 := by rw [List.length_take]; omega
        have hsbE := sumN_bounds (pickK es (x.exprs.take 3))
        have hmbE := maxD_nonneg (pickK es (x.exprs.take 3))
        generalize hae : pickK es (x.exprs.take 3) = ae at *
        clear hfull hpl hpl2 hsb hmb hlA
        have hltE : ∀ b, vA.ownBlock = some b → g15 + 1 ≤ b := fun b hb => (own.blockLt b hb).1
        obtain ⟨AV, cV, rfl, -⟩ := own.reads
        refine Cd.exit ?_
        refine Post.then_exit ?_
        refine Post.round_exit ?_
        refine Post.block_exit ?_
        refine Post.then_ ?_
        refine Cd.seq ?_
        refine Cd.seq ?_
        refine Cd.region ?_
        refine Seq.val (Runs.assign rfl rfl) rfl rfl rfl ?_
        refine Seq.nil ?_
        refine Post.weak (F' := [(0, _), (1, _), (4, _), (5, _), (13, _), (14, _), (15, _), (16, _), (17, _), (18, _), (20, _), (140, _)]) ⟨rfl, rfl, rfl, rfl, rfl, rfl, rfl, rfl, rfl, rfl, rfl, rfl, trivial⟩ ?_
        refine Post.then_ ?_
        refine Cd.block ?_
        refine Cd.loop (σ := Nat × List Value × Value × Int × Int) (fun s => [(0, .slice A i c), (1, .slice (some ad) nK cK), (4, .pointer (some ⟨g4, 0, none⟩)), (5, .pointer (some ⟨g5, 0, none⟩)), (13, .int .i64 (k : Int)), (14, .pointer (some ⟨g14, 0, none⟩)), (15, .pointer (some ⟨g15, 0, none⟩)), (16, .int .i64 s.2.2.2.1), (17, .int .i64 s.2.2.2.2), (20, .int .i64 (s.1 : Int))])
          (fun s w2 => s.1 ≤ x.terms.length ∧ s.1 ≤ 4 ∧ Below w3.heap.size w3 w2 ∧ Blk w2 g5 29 #[vE, vN, vD, vT, vM, vP] ∧ Blk w2 g14 74 #[.int .i64 x.op, .string (strOf x.name), .slice A1 x.exprs.length c1, .slice A2 x.terms.length c2] ∧ Blk w2 g15 57 #[.int .i64 x.op, .string (strOf x.name), .slice AV ae.length cV, s.2.2.1] ∧
            Own w2 (g15 + 1) 35 4 (.slice AV ae.length cV) ae.length (flatC avs) ∧ OwnA w2 (g15 + 1) 57 4 s.2.2.1 (pickM ts (x.terms.take s.1)).length (flatC s.2.1) ∧ s.2.1.length = (pickM ts (x.terms.take s.1)).length ∧ (∀ j e v, (pickM ts (x.terms.take s.1))[j]? = some e → s.2.1[j]? = some v → RepT w3 (· ∈ T3) e v) ∧ s.2.2.2.1 = 1 + sumN ae + sumM (pickM ts (x.terms.take s.1)) ∧ s.2.2.2.2 = 1 + max (maxD ae) (maxM (pickM ts (x.terms.take s.1))))
          (fun s => 4 - s.1) (0, [], .slice none 0 0, nn, dd)
          ⟨Nat.zero_le _, Nat.zero_le _, bel, k5, k14, k15, own, ⟨Own.nil _ _ _ _⟩, rfl, (fun j e v h => absurd ((List.getElem?_nil (α := Tm) (i := j)).symm.trans h) (fun h => by cases h)), by show nn = 1 + sumN ae + 0; omega, by show dd = 1 + max (maxD ae) 0; omega⟩ ⟨rfl, rfl, rfl, rfl, rfl, rfl, rfl, rfl, rfl, rfl, trivial⟩ ?_
        clear bel k5 k14 k15 own
        clear hnn hdd
        rintro ⟨q, tvs, vB, nn, dd⟩ w2 ⟨hq, hq3, bel, k5, k14, k15, own, ownT, htvl, hrepT, hnn, hdd⟩
        dsimp only at hq hq3 k15 ownT htvl hrepT hnn hdd ⊢
        have hlB := ownT.own.blockLt
        have hpl := pickM_length ts (x.terms.take q)
        have hpl2 : (x.terms.take q).length ≤ q := by rw [List.length_take]; omega
        have hsb := sumM_bounds (pickM ts (x.terms.take q))
        have hmb := maxM_nonneg (pickM ts (x.terms.take q))
        refine Cd.seq ?_
        refine Cd.seq ?_
        refine Cd.region ?_
        refine Seq.val (Runs.move rfl rfl) rfl rfl rfl ?_
        refine Seq.val (Runs.fieldB 3 rfl rfl Try.underlying74 rfl (by kernel_rfl)) rfl rfl rfl ?_
        refine Seq.val (Runs.loadB rfl rfl Try.underlying26 rfl k14 rfl) rfl rfl rfl ?_
        refine Seq.val (Runs.len rfl rfl Try.underlying26) rfl rfl rfl ?_
        refine Seq.val (Runs.lss rfl rfl rfl) rfl rfl rfl ?_
        refine Seq.val (Runs.move rfl rfl) rfl rfl rfl ?_
        refine SeqC.start ?_
        refine SeqC.open rfl rfl rfl rfl rfl rfl rfl (fun hcx => Runs.move rfl rfl) ?_
        refine SeqC.next rfl rfl rfl rfl rfl rfl rfl (fun hcx => Runs.lss rfl rfl rfl) ?_
        refine SeqC.and rfl rfl rfl rfl rfl rfl rfl ?_
        refine Seq.nil ?_
        refine Post.weak (F' := [(0, _), (1, _), (4, _), (5, _), (13, _), (14, _), (15, _), (16, _), (17, _), (20, _), (187, _)]) ⟨rfl, rfl, rfl, rfl, rfl, rfl, rfl, rfl, rfl, rfl, rfl, trivial⟩ ?_
        refine Post.then_ ?_
        refine Cd.cond rfl (fun hc => ?_) (fun hc => ?_)
        · simp only [Bool.and_eq_true, decide_eq_true_eq] at hc
          obtain ⟨z, hz⟩ : ∃ z, x.terms[q]? = some z := ⟨_, List.getElem?_eq_getElem (by omega)⟩
          obtain ⟨ad', rfl, hbl', hc'⟩ := hrd2.2 (by omega)
          have hc' := fun W (hb : Below w3.heap.size w3 W) => (hb.cell (p := ad'.add q) (by rw [block_of_add]; have := hb3.size; omega)).trans (hc' q (.int .i64 z) (by rw [get_DI, hz]; rfl))
          have hks : x.terms.take (q + 1) = x.terms.take q ++ [z] := by rw [List.take_add_one, hz]; rfl
          refine Cd.skip ?_
          refine Post.then_ ?_
          refine Cd.seq ?_
          refine Cd.block ?_
          refine Cd.seq ?_
          refine Cd.region ?_
          refine Seq.val (Runs.fieldB 3 rfl rfl Try.underlying74 rfl (by kernel_rfl)) rfl rfl rfl ?_
          refine Seq.val (Runs.loadB rfl rfl Try.underlying26 rfl k14 rfl) rfl rfl rfl ?_
          refine Seq.val (Runs.move rfl rfl) rfl rfl rfl ?_
          refine Seq.val (Runs.index1 rfl rfl rfl Try.underlying26 (by kernel_rfl) (j := q) rfl (by omega)) rfl rfl rfl ?_
          refine Seq.val (Runs.load1 rfl rfl Try.underlying3 rfl (hc' _ bel)) rfl rfl rfl ?_
          refine Seq.val (Runs.move rfl rfl) rfl rfl rfl ?_
          refine Seq.call (Enters.func rfl rfl rfl (run_enter Try.func38 (by kernel_rfl) rfl)) rfl rfl rfl (earlierC z k _ (by omega)) ?_
          rintro e w5 ⟨⟨z', rfl, hz'⟩, hb5⟩
          refine ⟨_, rfl, ?_⟩
          replace bel := bel.step hb5
          replace k5 := k5.step hb5
          replace k14 := k14.step hb5
          replace k15 := k15.step hb5
          replace own := own.step hb5
          replace ownT := ownT.step hb5
          refine Seq.val (Runs.assign rfl rfl) rfl rfl rfl ?_
          refine Seq.nil ?_
          refine Post.weak (F' := [(0, _), (1, _), (4, _), (5, _), (13, _), (14, _), (15, _), (16, _), (17, _), (20, _), (21, _), (187, _)]) ⟨rfl, rfl, rfl, rfl, rfl, rfl, rfl, rfl, rfl, rfl, rfl, rfl, trivial⟩ ?_
          refine Post.then_ ?_
          refine Cd.seq ?_
          refine Cd.region ?_
          refine Seq.val (Runs.move rfl rfl) rfl rfl rfl ?_
          refine Seq.val (Runs.geq rfl rfl rfl) rfl rfl rfl ?_
          refine Seq.nil ?_
          refine Post.weak (F' := [(0, _), (1, _), (4, _), (5, _), (13, _), (14, _), (15, _), (16, _), (17, _), (20, _), (21, _), (187, _), (198, _)]) ⟨rfl, rfl, rfl, rfl, rfl, rfl, rfl, rfl, rfl, rfl, rfl, rfl, rfl, trivial⟩ ?_
          refine Post.then_ ?_
          refine Cd.condD rfl (fun h => ?_) (fun h => ?_)
          · obtain ⟨h0i, rfl⟩ : 0 < k ∧ z' = (earl z k : Int) := by rcases hz' with ⟨h1, h2⟩ | h2; exact absurd h (by omega); exact h2
            clear hz'
            have hj := earl_lt z h0i
            generalize hjj : earl z k = j at *
            obtain ⟨e, he⟩ : ∃ e, ts[j]? = some e := ⟨_, List.getElem?_eq_getElem (by omega)⟩
            obtain ⟨ev, hev⟩ : ∃ ev, us[j]? = some ev := ⟨_, List.getElem?_eq_getElem (by rw [ft.len]; omega)⟩
            have hre := ft.rep j e ev he hev
            obtain ⟨B1, d1, B2, d2, rfl⟩ := hre.form
            have h4 : ∀ y ∈ us, y.cells.size = 4 := sizes_spec ft.cells
            obtain ⟨aT0, cT, rfl, hrT⟩ := oT.reads
            obtain ⟨adT, rfl, hbT, hcT⟩ := hrT.2 (by omega)
            have hcT : ∀ W, Below w3.heap.size w3 W → ∀ (q : Nat) (u : Value), ([.int .i64 e.op, .string (strOf e.name), .slice B1 e.exprs.length d1, .slice B2 e.terms.length d2] : List Value)[q]? = some u → W.cell? ((adT.add (j * 4)).add q) = some u := fun W hb q u hq => (hb.cell (p := (adT.add (j * 4)).add q) (by rw [block_of_add, block_of_add]; exact hbT)).trans (by rw [add_of_add]; exact hcT _ _ (flatC_at h4 hev q u (by simpa [Value.cells] using hq)))
            obtain ⟨aM0, cM, rfl, hrM⟩ := oM.reads
            obtain ⟨adM, rfl, hbM, hcM⟩ := hrM.2 (by omega)
            have hcM := fun W (hb : Below w3.heap.size w3 W) => (hb.cell (p := adM.add j) (by rw [block_of_add]; exact hbM)).trans (hcM j (.int .i64 (zMuch e)) (by rw [get_DI, List.getElem?_map, he]; rfl))
            obtain ⟨aP0, cP, rfl, hrP⟩ := oP.reads
            obtain ⟨adP, rfl, hbP, hcP⟩ := hrP.2 (by omega)
            have hcP := fun W (hb : Below w3.heap.size w3 W) => (hb.cell (p := adP.add j) (by rw [block_of_add]; exact hbP)).trans (hcP j (.int .i64 (zDeep e)) (by rw [get_DI, List.getElem?_map, he]; rfl))
            have hpk : pickM ts (x.terms.take (q + 1)) = pickM ts (x.terms.take q) ++ [e] := by rw [hks]; exact pickM_some _ _ _ _ (by rw [hTl, hjj]; exact he)
            have hzb := zT_bounds e
            refine Cd.seq ?_
            refine Cd.draw 8 (by kernel_rfl) [] (.inl rfl) rfl Grow Grow.refl (fun _ _ _ => Grow.trans) ?_
            intro w8 hw8 zw8
            replace bel := bel.step hw8
            replace k5 := k5.step hw8
            replace k14 := k14.step hw8
            replace k15 := k15.step hw8
            replace own := own.step hw8
            replace ownT := ownT.step hw8
            have zbel := bel.size
            have zlt := k15.lt
            refine Dr.val Grow.refl rfl (fun w hG => Runs.fieldB 3 rfl rfl Try.underlying57 rfl (by kernel_rfl)) rfl ?_
            refine Dr.val Grow.refl rfl (fun w hG => Runs.loadB rfl rfl Try.underlying27 rfl (k15.step hG) rfl) rfl ?_
            refine Dr.val Grow.refl rfl (fun w hG => Runs.fieldB 3 rfl rfl Try.underlying29 rfl (by kernel_rfl)) rfl ?_
            refine Dr.val Grow.refl rfl (fun w hG => Runs.loadB rfl rfl Try.underlying27 rfl (k5.step hG) rfl) rfl ?_
            refine Dr.val Grow.refl rfl (fun w hG => Runs.move rfl rfl) rfl ?_
            refine Dr.val Grow.refl rfl (fun w hG => Runs.indexN rfl rfl rfl Try.underlying27 (s := 4) (by kernel_rfl) (j := j) rfl (by omega)) rfl ?_
            refine Dr.val Grow.refl rfl (fun w hG => Runs.loadF (ps := [.int .i64 e.op, .string (strOf e.name), .slice B1 e.exprs.length d1, .slice B2 e.terms.length d2]) rfl rfl Try.underlying57 rfl (m := 4) (by kernel_rfl) rfl (hcT w (Below.step bel hG))) rfl ?_
            refine Dr.slice (vs := [_]) (s := 4) rfl rfl rfl rfl Try.underlying27 (by kernel_rfl) zero_api_Term (by omega) (by omega) ⟨rfl, trivial⟩ rfl ?_
            refine Dr.nil ?_
            refine FinX.open (j := 7) rfl ?_
            intro u7
            refine FinX.done (F' := [(0, _), (1, _), (4, _), (5, _), (13, _), (14, _), (15, _), (16, _), (17, _), (20, _), (21, _), (187, _), (198, _), (200, _), (206, _)]) rfl ⟨rfl, rfl, rfl, rfl, rfl, rfl, rfl, rfl, rfl, rfl, rfl, rfl, rfl, rfl, rfl, trivial⟩ ?_
            intro w9 hw9 fw9
            replace bel := bel.step hw9
            replace k5 := k5.step hw9
            replace k14 := k14.step hw9
            replace k15 := k15.step hw9
            replace own := own.step hw9
            replace ownT := ownT.step hw9
            obtain ⟨gS, rfl, kS, -⟩ := fw9.2
            have hne8 : vB.ownBlock ≠ some g15 := fun e' => by have := (ownT.own.blockLt _ e').1; omega
            refine Seq.append rfl rfl rfl Try.underlying27 (by kernel_rfl) zero_api_Term rfl (by decide) (b := 72) (by kernel_rfl) ownT.own (Reads.blk (size := 4) kS 1 rfl) (by intro x hx; simp [flatC, Value.cells] at hx; rcases hx with rfl | rfl | rfl | rfl <;> rfl) (Nat.succ_le_of_lt k15.lt) (by simp only [maxLen]; omega) (by omega) rfl rfl rfl ?_
            intro vB' wa oA ha
            replace k14 := k14.app ownT.own ha
            replace k5 := k5.app ownT.own ha
            replace own := own.app ownT.own ha
            replace k15 := k15.grown ha.grown (fun e' => hne8 e'.symm)
            replace bel := bel.trans (ha.below.mono (by omega))
            clear ownT
            obtain ⟨A9, c9, rfl, -⟩ := oA.reads
            have ownT := OwnA.mk oA
            have hne9 : (Value.slice A9 ((pickM ts (x.terms.take q)).length + 1) c9).ownBlock ≠ some g15 := fun e' => by have := (ownT.own.blockLt _ e').1; omega
            refine Seq.val (Runs.fieldB 3 rfl rfl Try.underlying57 rfl (by kernel_rfl)) rfl rfl rfl ?_
            refine Seq.store1 rfl rfl rfl (by kernel_rfl) rfl rfl k15 rfl rfl rfl ?_
            intro w10 pw10
            replace bel := bel.put k15 pw10 e15
            replace k5 := k5.put pw10 (by omega)
            replace k14 := k14.put pw10 (by omega)
            replace own := own.put k15 pw10 e15
            replace ownT := ownT.put k15 pw10 e15
            replace k15 := pw10.blk
            refine Seq.nil ?_
            refine Post.weak (F' := [(0, _), (1, _), (4, _), (5, _), (13, _), (14, _), (15, _), (16, _), (17, _), (20, _), (21, _), (187, _), (198, _)]) ⟨rfl, rfl, rfl, rfl, rfl, rfl, rfl, rfl, rfl, rfl, rfl, rfl, rfl, trivial⟩ ?_
            refine Post.then_ ?_
            refine Cd.seq ?_
            refine Cd.region ?_
            refine Seq.val (Runs.move rfl rfl) rfl rfl rfl ?_
            refine Seq.val (Runs.fieldB 4 rfl rfl Try.underlying29 rfl (by kernel_rfl)) rfl rfl rfl ?_
            refine Seq.val (Runs.loadB rfl rfl Try.underlying26 rfl k5 rfl) rfl rfl rfl ?_
            refine Seq.val (Runs.move rfl rfl) rfl rfl rfl ?_
            refine Seq.val (Runs.index1 rfl rfl rfl Try.underlying26 (by kernel_rfl) (j := j) rfl (by omega)) rfl rfl rfl ?_
            refine Seq.val (Runs.load1 rfl rfl Try.underlying3 rfl (hcM _ bel)) rfl rfl rfl ?_
            refine Seq.val (Runs.addI rfl rfl rfl (by omega) (by omega)) rfl rfl rfl ?_
            refine Seq.val (Runs.assign rfl rfl) rfl rfl rfl ?_
            refine Seq.nil ?_
            refine Post.weak (F' := [(0, _), (1, _), (4, _), (5, _), (13, _), (14, _), (15, _), (16, _), (17, _), (20, _), (21, _), (187, _), (198, _)]) ⟨rfl, rfl, rfl, rfl, rfl, rfl, rfl, rfl, rfl, rfl, rfl, rfl, rfl, trivial⟩ ?_
            refine Post.then_ ?_
            refine Cd.region ?_
            refine Seq.val (Runs.move rfl rfl) rfl rfl rfl ?_
            refine Seq.val (Runs.fieldB 5 rfl rfl Try.underlying29 rfl (by kernel_rfl)) rfl rfl rfl ?_
            refine Seq.val (Runs.loadB rfl rfl Try.underlying26 rfl k5 rfl) rfl rfl rfl ?_
            refine Seq.val (Runs.move rfl rfl) rfl rfl rfl ?_
            refine Seq.val (Runs.index1 rfl rfl rfl Try.underlying26 (by kernel_rfl) (j := j) rfl (by omega)) rfl rfl rfl ?_
            refine Seq.val (Runs.load1 rfl rfl Try.underlying3 rfl (hcP _ bel)) rfl rfl rfl ?_
            refine Seq.val (Runs.addI rfl rfl rfl (by omega) (by omega)) rfl rfl rfl ?_
            refine Seq.val (Runs.max2 rfl rfl rfl) rfl rfl rfl ?_
            refine Seq.val (Runs.assign rfl rfl) rfl rfl rfl ?_
            refine Seq.nil ?_
            refine Post.weak (F' := [(0, _), (1, _), (4, _), (5, _), (13, _), (14, _), (15, _), (16, _), (17, _), (20, _), (21, _), (187, _), (198, _)]) ⟨rfl, rfl, rfl, rfl, rfl, rfl, rfl, rfl, rfl, rfl, rfl, rfl, rfl, trivial⟩ ?_
            refine Post.block_normal ?_
            refine Post.then_ ?_
            refine Cd.region ?_
            refine Seq.val (Runs.move rfl rfl) rfl rfl rfl ?_
            refine Seq.val (Runs.addI rfl rfl rfl (by omega) (by omega)) rfl rfl rfl ?_
            refine Seq.val (Runs.assign rfl rfl) rfl rfl rfl ?_
            refine Seq.nil ?_
            refine Post.weak (F' := [(0, _), (1, _), (4, _), (5, _), (13, _), (14, _), (15, _), (16, _), (17, _), (20, _), (21, _), (187, _), (198, _)]) ⟨rfl, rfl, rfl, rfl, rfl, rfl, rfl, rfl, rfl, rfl, rfl, rfl, rfl, trivial⟩ ?_
            have hlen2 : (pickM ts (x.terms.take (q + 1))).length = (pickM ts (x.terms.take q)).length + 1 := by rw [hpk]; simp
            refine Post.round (q + 1, tvs ++ [.agg #[.int .i64 e.op, .string (strOf e.name), .slice B1 e.exprs.length d1, .slice B2 e.terms.length d2]], .slice A9 ((pickM ts (x.terms.take q)).length + 1) c9, nn + zMuch e, max dd (zDeep e + 1)) ⟨rfl, rfl, rfl, rfl, rfl, rfl, rfl, rfl, rfl, rfl, trivial⟩ ⟨by dsimp only; omega, by dsimp only; omega, bel, k5, k14, k15, own, ?_, ?_, ?_, ?_, ?_⟩ (by dsimp only; omega)
            · dsimp only
              rw [hlen2, flatC_append]
              exact ownT
            · dsimp only
              rw [hlen2, List.length_append, htvl]; rfl
            · dsimp only
              rw [hpk]
              intro q y v hq hv
              rcases Nat.lt_or_ge q tvs.length with hqi | hqi
              · rw [List.getElem?_append_left hqi] at hv
                rw [List.getElem?_append_left (by omega)] at hq
                exact hrepT q y v hq hv
              · rw [List.getElem?_append_right hqi] at hv
                rw [List.getElem?_append_right (by omega), ← htvl] at hq
                have h0 : q - tvs.length = 0 := by
                  have := (List.getElem?_eq_some_iff.1 hv).1
                  simp at this
                  exact this
                rw [h0] at hq hv
                injection hq with hq
                injection hv with hv
                subst hq hv
                exact hre
            · dsimp only
              rw [hpk, sumM_snoc, hnn]; omega
            · dsimp only
              rw [hpk, maxM_snoc, hdd]; omega
          · obtain ⟨h0i, rfl⟩ : k = 0 ∧ z' = -1 := by rcases hz' with ⟨h1, h2⟩ | ⟨h1, h2⟩; exact ⟨h1, h2⟩; exact absurd (by omega) h
            have hpk : pickM ts (x.terms.take (q + 1)) = pickM ts (x.terms.take q) := by rw [hks]; exact pickM_none _ _ _ (by omega)
            refine Cd.skip ?_
            refine Post.block_normal ?_
            refine Post.then_ ?_
            refine Cd.region ?_
            refine Seq.val (Runs.move rfl rfl) rfl rfl rfl ?_
            refine Seq.val (Runs.addI rfl rfl rfl (by omega) (by omega)) rfl rfl rfl ?_
            refine Seq.val (Runs.assign rfl rfl) rfl rfl rfl ?_
            refine Seq.nil ?_
            refine Post.weak (F' := [(0, _), (1, _), (4, _), (5, _), (13, _), (14, _), (15, _), (16, _), (17, _), (20, _), (21, _), (187, _), (198, _)]) ⟨rfl, rfl, rfl, rfl, rfl, rfl, rfl, rfl, rfl, rfl, rfl, rfl, rfl, trivial⟩ ?_
            exact Post.round (q + 1, tvs, vB, nn, dd) ⟨rfl, rfl, rfl, rfl, rfl, rfl, rfl, rfl, rfl, rfl, trivial⟩ ⟨by dsimp only; omega, by dsimp only; omega, bel, k5, k14, k15, own, by dsimp only; rw [hpk]; exact ownT, by dsimp only; rw [hpk]; exact htvl, by dsimp only; rw [hpk]; exact hrepT, by dsimp only; rw [hpk]; exact hnn, by dsimp only; rw [hpk]; exact hdd⟩ (by dsimp only; omega)
        · have hfullT : x.terms.take q = x.terms.take 4 := by
            have hc' : ¬ ((q : Int) < x.terms.length ∧ (q : Int) < 4) := fun h => by rw [decide_eq_true h.1, decide_eq_true h.2] at hc; cases hc
            rcases Nat.lt_or_ge q 4 with h5 | h5
            · rw [List.take_of_length_le (by omega), List.take_of_length_le (by omega)]
            · rw [show q = 4 by omega]
          rw [hfullT] at ownT htvl hrepT hnn hdd
          have hplT := pickM_length ts (x.terms.take 4)
          have hplT2 : (x.terms.take 4).length ≤ 4 := by rw [List.length_take]; omega
          have hkn : knotT es ts x = .mk x.op x.name ae (pickM ts (x.terms.take 4)) := by unfold knotT; rw [hae]
          generalize hat : pickM ts (x.terms.take 4) = am at *
          rw [hkn] at htake
          refine Cd.exit ?_
          refine Post.then_exit ?_
          refine Post.round_exit ?_
          refine Post.block_exit ?_
          refine Post.then_ ?_
          refine Cd.seq ?_
          refine Cd.region ?_
          refine Seq.val (Runs.move rfl rfl) rfl rfl rfl ?_
          refine Seq.val (Runs.move rfl rfl) rfl rfl rfl ?_
          refine Seq.call (Enters.func rfl rfl rfl (run_enter Try.func39 (by kernel_rfl) rfl)) rfl rfl rfl (toldK nn dd ae am x.op x.name _ hnn hdd) ?_
          rintro e w6 ⟨rfl, hb6⟩
          refine ⟨_, rfl, ?_⟩
          replace bel := bel.step hb6
          replace k5 := k5.step hb6
          replace k14 := k14.step hb6
          replace k15 := k15.step hb6
          replace own := own.step hb6
          replace ownT := ownT.step hb6
          have hlB := ownT.own.blockLt
          have oT0 := oT
          have oM0 := oM
          have oP0 := oP
          have oT := oT.step bel
          have oM := oM.step bel
          have oP := oP.step bel
          have ltT : ∀ b, vT.ownBlock = some b → b < g15 + 1 := fun b hb => by have := (oT0.blockLt b hb).2; omega
          have ltM : ∀ b, vM.ownBlock = some b → b < g15 + 1 := fun b hb => by have := (oM0.blockLt b hb).2; omega
          have ltP : ∀ b, vP.ownBlock = some b → b < g15 + 1 := fun b hb => by have := (oP0.blockLt b hb).2; omega
          have aT := (aT.more ltT (fun b hb => (hlB b hb).1)).more ltT hltE
          have aM := (aM.more ltM (fun b hb => (hlB b hb).1)).more ltM hltE
          have aP := (aP.more ltP (fun b hb => (hlB b hb).1)).more ltP hltE
          have ft2 := (ft.step bel).more (nm := x.name) havl htvl (by omega) (by omega) hrng.op hrng.name hrng.nlen (fun j e v he hv => (hrep j e v he hv).mono (fun b h => hsub b h) (fun p hp => bel.cell (fo3.lt _ hp))) (fun j e v he hv => (hrepT j e v he hv).mono (fun _ h => h) (fun p hp => bel.cell (ft.lt _ hp))) own ownT.own
          generalize hT4 : blocksOf (.slice AV ae.length cV) ++ (blocksOf vB ++ T3) = T4 at *
          have hmem4 : ∀ b ∈ T4, g5 < b := fun b hm => by
            rw [← hT4] at hm
            rcases List.mem_append.1 hm with hm | hm
            · have := hltE _ (mem_blocksOf.1 hm); omega
            · rcases List.mem_append.1 hm with hm | hm
              · have := (hlB _ (mem_blocksOf.1 hm)).1; omega
              · exact hfar3 _ hm
          have hg5T : g5 ∉ T4 := fun hm => by have := hmem4 _ hm; omega
          have hsub4 : ∀ b ∈ T, b ∈ T4 := fun b hb => by rw [← hT4]; exact List.mem_append_right _ (List.mem_append_right _ (hsub b hb))
          have k4 := k4.step bel
          have l54 : g4 ≠ g5 := by omega
          replace only := only.step bel
          clear bel
          obtain ⟨AB, cB, rfl, -⟩ := ownT.own.reads
          refine Seq.val (Runs.move rfl rfl) rfl rfl rfl ?_
          refine Seq.val (Runs.extract rfl rfl rfl) rfl rfl rfl ?_
          refine Seq.val (Runs.extract rfl rfl rfl) rfl rfl rfl ?_
          refine Seq.val (Runs.assign rfl rfl) rfl rfl rfl ?_
          refine Seq.val (Runs.assign rfl rfl) rfl rfl rfl ?_
          refine Seq.nil ?_
          refine Post.weak (F' := [(0, _), (1, _), (4, _), (5, _), (13, _), (14, _), (15, _), (16, _), (17, _), (20, _), (187, _)]) ⟨rfl, rfl, rfl, rfl, rfl, rfl, rfl, rfl, rfl, rfl, rfl, trivial⟩ ?_
          refine Post.then_ ?_
          refine Cd.seq ?_
          refine Cd.region ?_
          refine Seq.val (Runs.fieldB 3 rfl rfl Try.underlying29 rfl (by kernel_rfl)) rfl rfl rfl ?_
          refine Seq.val (Runs.loadB rfl rfl Try.underlying27 rfl k5 rfl) rfl rfl rfl ?_
          refine Seq.val (Runs.loadW rfl rfl Try.underlying57 rfl k15 (m := 4) (by kernel_rfl) rfl) rfl rfl rfl ?_
          refine Seq.slice (vs := [_]) (s := 4) rfl rfl rfl Try.underlying27 (by kernel_rfl) (zero_api_Term) (by omega) (by omega) ⟨rfl, trivial⟩ rfl rfl rfl ?_
          intro g233 w8 n233
          have l233 := Nat.lt_of_lt_of_le k4.lt n233.ge
          have l233_k5 := Nat.lt_of_lt_of_le k5.lt n233.ge
          have l233_k15 := Nat.lt_of_lt_of_le k15.lt n233.ge
          replace k5 := k5.step n233.below
          replace k15 := k15.step n233.below
          replace only := only.step n233.below
          replace ft2 := ft2.step n233.below
          replace oT := oT.step n233.below
          replace oM := oM.step n233.below
          replace oP := oP.step n233.below
          replace k4 := k4.step n233.below
          have k233 := n233.blk
          refine Seq.append2 rfl rfl rfl Try.underlying27 (by kernel_rfl) zero_api_Term rfl (by decide) (b := 72) (by kernel_rfl) oT (Reads.blk (size := 4) k233 1 rfl) (by intro x hx; simp [flatC, Value.cells] at hx; rcases hx with rfl | rfl | rfl | rfl <;> rfl) only.row.size (by simp only [maxLen]; omega) (by omega) rfl rfl rfl ?_
          intro vT' wa oT' ha hvT
          have aT' := aT.app ft2.lt hvT
          replace k5 := k5.app oT ha
          replace k4 := k4.app oT ha
          replace ft2 := ft2.app aT ha
          replace oM := oM.app oT ha
          replace oP := oP.app oT ha
          replace only := only.low ha.below
          clear oT aT
          obtain ⟨A5, c5, rfl, -⟩ := oT'.reads
          have oT := oT'
          clear oT'
          refine Seq.val (Runs.fieldB 3 rfl rfl Try.underlying29 rfl (by kernel_rfl)) rfl rfl rfl ?_
          refine Seq.store1 rfl rfl rfl (by kernel_rfl) rfl rfl k5 rfl rfl rfl ?_
          intro w9 pw9
          replace only := only.put k5 pw9 e5
          replace ft2 := ft2.put k5 pw9 e5
          replace oT := oT.put k5 pw9 e5
          replace oM := oM.put k5 pw9 e5
          replace oP := oP.put k5 pw9 e5
          replace k4 := k4.put pw9 (by omega)
          replace k5 := pw9.blk
          refine Seq.nil ?_
          refine Post.weak (F' := [(0, _), (1, _), (4, _), (5, _), (13, _), (14, _), (15, _), (16, _), (17, _), (20, _), (187, _)]) ⟨rfl, rfl, rfl, rfl, rfl, rfl, rfl, rfl, rfl, rfl, rfl, trivial⟩ ?_
          refine Post.then_ ?_
          refine Cd.seq ?_
          refine Cd.region ?_
          refine Seq.val (Runs.fieldB 4 rfl rfl Try.underlying29 rfl (by kernel_rfl)) rfl rfl rfl ?_
          refine Seq.val (Runs.loadB rfl rfl Try.underlying26 rfl k5 rfl) rfl rfl rfl ?_
          refine Seq.val (Runs.move rfl rfl) rfl rfl rfl ?_
          refine Seq.slice (vs := [_]) (s := 1) rfl rfl rfl Try.underlying26 (by kernel_rfl) (zero_int) (by omega) (by omega) ⟨rfl, trivial⟩ rfl rfl rfl ?_
          intro g239 w10 n239
          have l239 := Nat.lt_of_lt_of_le k4.lt n239.ge
          have l239_k5 := Nat.lt_of_lt_of_le k5.lt n239.ge
          replace k5 := k5.step n239.below
          replace only := only.step n239.below
          replace ft2 := ft2.step n239.below
          replace oT := oT.step n239.below
          replace oM := oM.step n239.below
          replace oP := oP.step n239.below
          replace k4 := k4.step n239.below
          have k239 := n239.blk
          refine Seq.append2 rfl rfl rfl Try.underlying26 (by kernel_rfl) zero_int rfl (by decide) (b := 8) (by kernel_rfl) oM (Reads.blk (size := 1) k239 1 rfl) (by intro x hx; simp [flatC, Value.cells] at hx; rw [hx]; rfl) only.row.size (by simp only [maxLen]; omega) (by omega) rfl rfl rfl ?_
          intro vM' wb oM' ha hvM
          have aM' := aM.app ft2.lt hvM
          have aMP' := (aMP.symm.app (fun b hb => (oP.blockLt b hb).2) hvM).symm
          replace k5 := k5.app oM ha
          replace k4 := k4.app oM ha
          replace ft2 := ft2.app aM ha
          replace oT := oT.app oM ha
          replace oP := oP.kept' ha.grown (fun b hb e => aMP b e hb)
          replace only := only.low ha.below
          clear oM aM aMP
          obtain ⟨A6, c6, rfl, -⟩ := oM'.reads
          have oM := oM'
          clear oM'
          refine Seq.val (Runs.fieldB 4 rfl rfl Try.underlying29 rfl (by kernel_rfl)) rfl rfl rfl ?_
          refine Seq.store1 rfl rfl rfl (by kernel_rfl) rfl rfl k5 rfl rfl rfl ?_
          intro w11 pw11
          replace only := only.put k5 pw11 e5
          replace ft2 := ft2.put k5 pw11 e5
          replace oT := oT.put k5 pw11 e5
          replace oM := oM.put k5 pw11 e5
          replace oP := oP.put k5 pw11 e5
          replace k4 := k4.put pw11 (by omega)
          replace k5 := pw11.blk
          refine Seq.nil ?_
          refine Post.weak (F' := [(0, _), (1, _), (4, _), (5, _), (13, _), (14, _), (15, _), (16, _), (17, _), (20, _), (187, _)]) ⟨rfl, rfl, rfl, rfl, rfl, rfl, rfl, rfl, rfl, rfl, rfl, trivial⟩ ?_
          refine Post.then_ ?_
          refine Cd.region ?_
          refine Seq.val (Runs.fieldB 5 rfl rfl Try.underlying29 rfl (by kernel_rfl)) rfl rfl rfl ?_
          refine Seq.val (Runs.loadB rfl rfl Try.underlying26 rfl k5 rfl) rfl rfl rfl ?_
          refine Seq.val (Runs.move rfl rfl) rfl rfl rfl ?_
          refine Seq.slice (vs := [_]) (s := 1) rfl rfl rfl Try.underlying26 (by kernel_rfl) (zero_int) (by omega) (by omega) ⟨rfl, trivial⟩ rfl rfl rfl ?_
          intro g245 w12 n245
          have l245 := Nat.lt_of_lt_of_le k4.lt n245.ge
          have l245_k5 := Nat.lt_of_lt_of_le k5.lt n245.ge
          replace k5 := k5.step n245.below
          replace only := only.step n245.below
          replace ft2 := ft2.step n245.below
          replace oT := oT.step n245.below
          replace oM := oM.step n245.below
          replace oP := oP.step n245.below
          replace k4 := k4.step n245.below
          have k245 := n245.blk
          refine Seq.append2 rfl rfl rfl Try.underlying26 (by kernel_rfl) zero_int rfl (by decide) (b := 8) (by kernel_rfl) oP (Reads.blk (size := 1) k245 1 rfl) (by intro x hx; simp [flatC, Value.cells] at hx; rw [hx]; rfl) only.row.size (by simp only [maxLen]; omega) (by omega) rfl rfl rfl ?_
          intro vP' wc oP' ha hvP
          have aP' := aP.app ft2.lt hvP
          have aMP2 := aMP'.app (fun b hb => (oM.blockLt b hb).2) hvP
          replace k5 := k5.app oP ha
          replace k4 := k4.app oP ha
          replace ft2 := ft2.app aP ha
          replace oT := oT.app oP ha
          replace oM := oM.kept' ha.grown (fun b hb e => aMP' b hb e)
          replace only := only.low ha.below
          clear oP aP
          obtain ⟨A7, c7, rfl, -⟩ := oP'.reads
          have oP := oP'
          clear oP'
          refine Seq.val (Runs.fieldB 5 rfl rfl Try.underlying29 rfl (by kernel_rfl)) rfl rfl rfl ?_
          refine Seq.store1 rfl rfl rfl (by kernel_rfl) rfl rfl k5 rfl rfl rfl ?_
          intro w13 pw13
          replace only := only.put k5 pw13 e5
          replace ft2 := ft2.put k5 pw13 e5
          replace oT := oT.put k5 pw13 e5
          replace oM := oM.put k5 pw13 e5
          replace oP := oP.put k5 pw13 e5
          replace k4 := k4.put pw13 (by omega)
          replace k5 := pw13.blk
          refine Seq.nil ?_
          refine Post.weak (F' := [(0, _), (1, _), (4, _), (5, _), (13, _), (14, _), (15, _), (16, _), (17, _), (20, _), (187, _)]) ⟨rfl, rfl, rfl, rfl, rfl, rfl, rfl, rfl, rfl, rfl, rfl, trivial⟩ ?_
          refine Post.block_normal ?_
          refine Post.then_ ?_
          refine Cd.region ?_
          refine Seq.val (Runs.move rfl rfl) rfl rfl rfl ?_
          refine Seq.val (Runs.addI rfl rfl rfl (by omega) (by omega)) rfl rfl rfl ?_
          refine Seq.val (Runs.assign rfl rfl) rfl rfl rfl ?_
          refine Seq.nil ?_
          refine Post.weak (F' := [(0, _), (1, _), (4, _), (5, _), (13, _), (14, _), (15, _), (16, _), (17, _), (20, _), (187, _)]) ⟨rfl, rfl, rfl, rfl, rfl, rfl, rfl, rfl, rfl, rfl, rfl, trivial⟩ ?_
          have hlE : (ts ++ [Tm.mk x.op x.name ae am]).length = ts.length + 1 := by simp
          refine Post.round (k + 1, T4, us ++ [.agg #[.int .i64 x.op, .string (strOf x.name), .slice AV ae.length cV, .slice AB am.length cB]], .slice A5 (ts.length + 1) c5, .slice A6 (ts.length + 1) c6, .slice A7 (ts.length + 1) c7) ⟨rfl, rfl, rfl, rfl, rfl, trivial⟩ ?_ (by dsimp only; omega)
          dsimp only
          rw [htake, hlE, flatC_append, List.map_append, List.map_append, DI_append, DI_append]
          exact ⟨by omega, only, k4, k5, ft2, hmem4, hsub4, oT, oM, oP, aT', aM', aP', aMP2⟩
    · have hin : k = nK := by
        have hc' : ¬ ((k : Int) < nK ∧ (k : Int) < 60) := fun h => by rw [decide_eq_true h.1, decide_eq_true h.2] at hc; cases hc
        omega
      subst hin
      rw [show ks.take k = ks from List.take_of_length_le (by omega)] at ft oT oM oP
      have fo3 := fo.grown only.row (fun b e => by injection e with e; subst e; exact hgT)
      have kk := own_blk_ne oE.row k5R (by decide)
      have oE3 := oE.kept' only.row (fun b hb e => kk (by rw [hb, e]))
      have kk2 := own_blk_ne oN.row k5R (by decide)
      have oN3 := oN.kept' only.row (fun b hb e => kk2 (by rw [hb, e]))
      have kk3 := own_blk_ne oD.row k5R (by decide)
      have oD3 := oD.kept' only.row (fun b hb e => kk3 (by rw [hb, e]))
      obtain ⟨A2, c2, rfl, -⟩ := oE.reads
      obtain ⟨A3, c3, rfl, -⟩ := oN.reads
      obtain ⟨A4, c4, rfl, -⟩ := oD.reads
      obtain ⟨A5, c5, rfl, -⟩ := oT.reads
      obtain ⟨A6, c6, rfl, -⟩ := oM.reads
      obtain ⟨A7, c7, rfl, -⟩ := oP.reads
      have hgT4 : g4 ∉ T := fun hm => by have := hfar _ hm; omega
      have hgT34 : g4 ∉ T3 := fun hm => by have := hfar3 _ hm; omega
      replace bel := hb3
      refine Cd.exit ?_
      refine Post.then_exit ?_
      refine Post.round_exit ?_
      refine Post.block_exit ?_
      refine Post.then_ ?_
      refine Cd.seq ?_
      refine Cd.region ?_
      refine Seq.val (Runs.loadW rfl rfl Try.underlying29 rfl k5 (m := 6) (by kernel_rfl) rfl) rfl rfl rfl ?_
      refine Seq.storeN rfl rfl rfl rfl (m := 6) (by kernel_rfl) rfl (by repeat' first | exact trivial | apply And.intro | rfl | assumption) k4 (by simp [Value.cells]) rfl rfl ?_
      intro w4 pw4
      replace bel := bel.put k4 pw4 e4
      replace k5 := k5.put pw4 (by omega)
      replace fo3 := fo3.put k4 pw4 e4
      replace ft := ft.put k4 pw4 e4
      replace oE3 := oE3.put k4 pw4 e4
      replace oN3 := oN3.put k4 pw4 e4
      replace oD3 := oD3.put k4 pw4 e4
      replace oT := oT.put k4 pw4 e4
      replace oM := oM.put k4 pw4 e4
      replace oP := oP.put k4 pw4 e4
      replace k4 := pw4.blk
      refine Seq.nil ?_
      refine Post.weak (F' := [(0, _), (1, _), (4, _), (5, _), (13, _), (120, _)]) ⟨rfl, rfl, rfl, rfl, rfl, rfl, trivial⟩ ?_
      refine Post.then_ ?_
      refine Cd.ret ?_
      refine Post.endC rfl rfl k4 Try.underlying29 rfl (m := 6) (by kernel_rfl) rfl (.inl rfl) ?_
      exact ⟨⟨_, rfl, T, T3, _, _, vs, us, _, _, _, _, _, _, rfl, fo3, ft, oE3, oN3, oD3, oT, oM, oP⟩, bel⟩
end Go.Proofs.Ytijaldpmpjapiaa

namespace Go.Proofs.Ytijaldpmpjapiaa
open Go.RowKit

/-- A tree's values. -/
def treeK (n m : Nat) (AE AN AD AT AM AP : Option Addr) (cE cN cD cT cM cP : Nat) : Value := .agg #[.slice AE n cE, .slice AN n cN, .slice AD n cD, .slice AT m cT, .slice AM m cM, .slice AP m cP]
structure TreeT (w : World) (B : Nat) (ts : List Tm) (AT AM AP : Option Addr) : Prop where
  term : TmAt w B ts AT
  much : Reads w B 1 AM ts.length (DI (ts.map zMuch))
  deep : Reads w B 1 AP ts.length (DI (ts.map zDeep))
theorem TreeT.below {w w' : World} {B : Nat} {ts : List Tm} {AT AM AP : Option Addr} (h : TreeT w B ts AT AM AP) (hb : Below B w w') : TreeT w' B ts AT AM AP := ⟨h.term.below hb, h.much.below hb, h.deep.below hb⟩
theorem TmAt.more {w : World} {B B' : Nat} {ts : List Tm} {A : Option Addr} (h : TmAt w B ts A) (hb : B ≤ B') : TmAt w B' ts A := fun i x hx => by
  obtain ⟨ad, A1, A2, c1, c2, e1, e2, e3, e4⟩ := h i x hx
  exact ⟨ad, A1, A2, c1, c2, e1, Nat.lt_of_lt_of_le e2 hb, e3.more hb, e4⟩
theorem TreeT.more {w : World} {B B' : Nat} {ts : List Tm} {AT AM AP : Option Addr} (h : TreeT w B ts AT AM AP) (hb : B ≤ B') : TreeT w B' ts AT AM AP := ⟨h.term.more hb, h.much.more hb, h.deep.more hb⟩
theorem tmAt_own {w : World} {T : List Nat} {ts : List Tm} {vs : List Value} {B c : Nat} {A : Option Addr} (ft : ForestT w T ts vs) (hE : Own w B 57 4 (.slice A ts.length c) ts.length (flatC vs)) : TmAt w w.heap.size ts A := fun i e he => by
  have h4 : ∀ y ∈ vs, y.cells.size = 4 := sizes_spec ft.cells
  obtain ⟨A', c', hv, hr⟩ := hE.reads
  injection hv with e1 _ _
  subst e1
  have hi := (List.getElem?_eq_some_iff.1 he).1
  obtain ⟨ev, hev⟩ : ∃ ev, vs[i]? = some ev := ⟨_, List.getElem?_eq_getElem (by rw [ft.len]; omega)⟩
  have hre := ft.rep i e ev he hev
  obtain ⟨A1, c1, A2, c2, rfl⟩ := hre.form
  obtain ⟨ad, rfl, hb, hc⟩ := hr.2 (by omega)
  exact ⟨ad, A1, A2, c1, c2, rfl, hb, hre.mono (fun b hm => ft.lt b hm) (fun _ _ => rfl), fun j u hu => by rw [add_of_add]; exact hc _ _ (flatC_at h4 hev j u (by simpa [Value.cells, tmV] using hu))⟩
theorem BuiltK.tree {es : List Ex} {ts : List Tm} {v : Value} {w : World} (h : BuiltK es ts v w) : ∃ AE AN AD AT AM AP cE cN cD cT cM cP, v = treeK es.length ts.length AE AN AD AT AM AP cE cN cD cT cM cP ∧ TreeR w w.heap.size es AE AN AD ∧ TreeT w w.heap.size ts AT AM AP := by
  obtain ⟨T, T', B, B', vs, us, vE, vN, vD, vT, vM, vP, rfl, fo, ft, oE, oN, oD, oT, oM, oP⟩ := h
  have hb : BuiltR B es (.agg #[vE, vN, vD, .slice none 0 0, .slice none 0 0, .slice none 0 0]) w := ⟨T, vs, vE, vN, vD, rfl, fo, oE, oN, oD⟩
  obtain ⟨AE, AN, AD, cE, cN, cD, hv, tr⟩ := hb.tree
  obtain ⟨AT, cT, rfl, -⟩ := oT.reads
  obtain ⟨AM, cM, rfl, hM⟩ := oM.reads
  obtain ⟨AP, cP, rfl, hP⟩ := oP.reads
  unfold treeV at hv
  have e1 : vE = .slice AE es.length cE ∧ vN = .slice AN es.length cN ∧ vD = .slice AD es.length cD := by simpa using hv
  obtain ⟨rfl, rfl, rfl⟩ := e1
  exact ⟨AE, AN, AD, AT, AM, AP, cE, cN, cD, cT, cM, cP, rfl, tr, tmAt_own ft oT, hM, hP⟩
theorem zT_right (e : Tm) : ((decide (zMuch e ≤ 200) && decide (zDeep e ≤ 16)) && builtT e) = rightT e := by
  have hdn := e.depth_nodes
  unfold rightT
  congr 1
  rw [Bool.eq_iff_iff]
  simp only [Bool.and_eq_true, decide_eq_true_eq]
  unfold zMuch zDeep toldZ
  split <;> constructor <;> intro h <;> dsimp only at * <;> omega
theorem treeRightT_any (i n cE cN cD cT cM cP : Nat) (AE AN AD AT AM AP : Option Addr) (ts : List Tm) (e : Tm) (w : World) (hr : TreeT w w.heap.size ts AT AM AP) (he : ts[i]? = some e) :
    Calls Try.prog 30 #[treeK n ts.length AE AN AD AT AM AP cE cN cD cT cM cP, .int .i64 (i : Int)] w fun en w' => en = .returned (.bool (rightT e)) ∧ Grow w w' := by
  have bel := Below.refl w.heap.size w
  have hi := (List.getElem?_eq_some_iff.1 he).1
  obtain ⟨ad, A1, A2, c1, c2, rfl, hb, hrep, hcell⟩ := hr.term i e he
  have hcE : ∀ W, Below w.heap.size w W → ∀ (q : Nat) (u : Value), ([.int .i64 e.op, .string (strOf e.name), .slice A1 e.exprs.length c1, .slice A2 e.terms.length c2] : List Value)[q]? = some u → W.cell? ((ad.add (i * 4)).add q) = some u := fun W hW q u hq => (hW.cell (by rw [block_of_add, block_of_add]; exact hb)).trans (hcell q u hq)
  obtain ⟨adN, rfl, hbN, hcN⟩ := hr.much.2 (by omega)
  have hcN := fun W (hb : Below w.heap.size w W) => (hb.cell (p := adN.add i) (by rw [block_of_add]; exact hbN)).trans (hcN i (.int .i64 (zMuch e)) (by rw [get_DI, List.getElem?_map, he]; rfl))
  obtain ⟨adD, rfl, hbD, hcD⟩ := hr.deep.2 (by omega)
  have hcD := fun W (hb : Below w.heap.size w W) => (hb.cell (p := adD.add i) (by rw [block_of_add]; exact hbD)).trans (hcD i (.int .i64 (zDeep e)) (by rw [get_DI, List.getElem?_map, he]; rfl))
  have hbt := fun W (hb : Below w.heap.size w W) => refTBuilt_any e.nodes e w.heap.size _ W (Nat.le_refl _) (hrep.below hb) hb.size
  have hz := zT_right e
  unfold treeK
  refine Calls.start 27 Try.func30 rfl rfl rfl ?_
  refine Cd.seq ?_
  refine Cd.region ?_
  refine Seq.box rfl rfl rfl rfl rfl ?_
  intro g2 w1 n2
  have e2 := Nat.le_trans bel.size n2.ge
  replace bel := bel.step n2.below
  have k2 := n2.blk
  refine Seq.val (Runs.assign rfl rfl) rfl rfl rfl ?_
  refine Seq.nil ?_
  refine Post.weak (F' := [(0, _), (1, _), (2, _), (4, _)]) ⟨rfl, rfl, rfl, rfl, trivial⟩ ?_
  refine Post.then_ ?_
  refine Cd.seq ?_
  refine Cd.region ?_
  refine Seq.val (Runs.fieldB 4 rfl rfl Try.underlying29 rfl (by kernel_rfl)) rfl rfl rfl ?_
  refine Seq.val (Runs.loadB rfl rfl Try.underlying26 rfl k2 rfl) rfl rfl rfl ?_
  refine Seq.val (Runs.move rfl rfl) rfl rfl rfl ?_
  refine Seq.val (Runs.index1 rfl rfl rfl Try.underlying26 (by kernel_rfl) (j := i) rfl (by omega)) rfl rfl rfl ?_
  refine Seq.val (Runs.load1 rfl rfl Try.underlying3 rfl (hcN _ bel)) rfl rfl rfl ?_
  refine Seq.val (Runs.leq rfl rfl rfl) rfl rfl rfl ?_
  refine Seq.val (Runs.move rfl rfl) rfl rfl rfl ?_
  refine SeqC.start ?_
  refine SeqC.open rfl rfl rfl rfl rfl rfl rfl (fun hcx => Runs.fieldB 5 rfl rfl Try.underlying29 rfl (by kernel_rfl)) ?_
  refine SeqC.next rfl rfl rfl rfl rfl rfl rfl (fun hcx => Runs.loadB rfl rfl Try.underlying26 rfl k2 rfl) ?_
  refine SeqC.next rfl rfl rfl rfl rfl rfl rfl (fun hcx => Runs.move rfl rfl) ?_
  refine SeqC.next rfl rfl rfl rfl rfl rfl rfl (fun hcx => Runs.index1 rfl rfl rfl Try.underlying26 (by kernel_rfl) (j := i) rfl (by omega)) ?_
  refine SeqC.next rfl rfl rfl rfl rfl rfl rfl (fun hcx => Runs.load1 rfl rfl Try.underlying3 rfl (hcD _ bel)) ?_
  refine SeqC.next rfl rfl rfl rfl rfl rfl rfl (fun hcx => Runs.leq rfl rfl rfl) ?_
  refine SeqC.and rfl rfl rfl rfl rfl rfl rfl ?_
  refine Seq.val (Runs.move rfl rfl) rfl rfl rfl ?_
  refine SeqC.start ?_
  refine SeqC.open rfl rfl rfl rfl rfl rfl rfl (fun hcx => Runs.fieldB 3 rfl rfl Try.underlying29 rfl (by kernel_rfl)) ?_
  refine SeqC.next rfl rfl rfl rfl rfl rfl rfl (fun hcx => Runs.loadB rfl rfl Try.underlying27 rfl k2 rfl) ?_
  refine SeqC.next rfl rfl rfl rfl rfl rfl rfl (fun hcx => Runs.move rfl rfl) ?_
  refine SeqC.next rfl rfl rfl rfl rfl rfl rfl (fun hcx => Runs.indexN rfl rfl rfl Try.underlying27 (s := 4) (by kernel_rfl) (j := i) rfl (by omega)) ?_
  refine SeqC.next rfl rfl rfl rfl rfl rfl rfl (fun hcx => Runs.loadF (ps := [.int .i64 e.op, .string (strOf e.name), .slice A1 e.exprs.length c1, .slice A2 e.terms.length c2]) rfl rfl Try.underlying57 rfl (m := 4) (by kernel_rfl) rfl (hcE _ bel)) ?_
  refine SeqC.nextC rfl rfl rfl rfl rfl rfl rfl (fun hcx => Enters.func rfl rfl rfl (run_enter Try.func62 (by kernel_rfl) rfl)) (fun hcx => hbt _ bel) ?_
  intro w2 hw2
  replace bel := bel.step hw2
  replace k2 := k2.step hw2
  refine SeqC.and rfl rfl rfl rfl rfl rfl rfl ?_
  refine Seq.val (Runs.assign rfl rfl) rfl rfl rfl ?_
  refine Seq.nil ?_
  refine Post.weak (F' := [(0, _), (1, _), (2, _), (4, _)]) ⟨rfl, rfl, rfl, rfl, trivial⟩ ?_
  refine Post.then_ ?_
  refine Cd.ret ?_
  refine Post.end1 rfl rfl (.inl rfl) ?_
  exact ⟨ret1 (bool_eq hz), bel⟩
end Go.Proofs.Ytijaldpmpjapiaa

namespace Go.Proofs.Ytijaldpmpjapiaa
open Go.RowKit

def wordsT : List (List Nat) := [[122, 101, 114, 111], [111, 110, 101], [103, 105, 118, 101], [97, 110, 100], [111, 114], [115, 99, 97, 108, 101], [119, 104, 101, 110], [117, 110, 116, 105, 108], [97, 110, 121, 116, 105, 109, 101]]
/-- A term's word. -/
def wordT (op : Int) : List Nat := wordsT.getD (op - 1).toNat []
mutual
/-- A term's text. -/
def termT : Tm → List Nat
  | .mk op nm es l => if op = 1 then [122, 101, 114, 111] else wordT op ++ [40] ++ joinT ((if op = 2 then [nm] else []) ++ es.map exprT ++ termTL l) ++ [41]
def termTL : List Tm → List (List Nat)
  | [] => []
  | t :: r => termT t :: termTL r
end
theorem termTL_map : ∀ l, termTL l = l.map termT
  | [] => by rw [termTL]; rfl
  | e :: r => by rw [termTL, termTL_map r]; rfl
theorem termT_eq (t : Tm) : termT t = if t.op = 1 then [122, 101, 114, 111] else wordT t.op ++ [40] ++ joinT ((if t.op = 2 then [t.name] else []) ++ t.exprs.map exprT ++ t.terms.map termT) ++ [41] := by
  cases t; rw [termT, termTL_map]; rfl
theorem refWord_any (op : Int) (w : World) (h1 : 1 ≤ op) (h2 : op ≤ 9) : Calls Try.prog 63 #[.int .i64 op] w fun e w' => e = .returned (.string (strOf (wordT op))) ∧ Grow w w' := by
  have bel := Below.refl w.heap.size w
  obtain ⟨j, hj⟩ : ∃ j, (op - 1).toNat = j := ⟨_, rfl⟩
  have hw : wordT op = wordsT.getD j [] := by unfold wordT; rw [hj]
  rw [hw]
  have hj9 : j < 9 := by omega
  have hs : (wordsT.map fun s => Value.string (strOf s)).toArray[j]? = some (.string (strOf (wordsT.getD j []))) := by
    rw [List.getElem?_toArray, List.getElem?_map, List.getD_eq_getElem?_getD, List.getElem?_eq_getElem (show j < wordsT.length from hj9)]
    rfl
  refine Calls.start 10 Try.func63 rfl rfl rfl ?_
  refine Cd.seq ?_
  refine Cd.region ?_
  refine Seq.val (Runs.assign rfl rfl) rfl rfl rfl ?_
  refine Seq.nil ?_
  refine Post.weak (F' := [(0, _), (2, _)]) ⟨rfl, rfl, trivial⟩ ?_
  refine Post.then_ ?_
  refine Cd.seq ?_
  refine Cd.region ?_
  refine Seq.slice (vs := [_, _, _, _, _, _, _, _, _]) (s := 1) rfl rfl rfl Try.underlying85 (by kernel_rfl) (zero_string) (by omega) (by omega) ⟨rfl, rfl, rfl, rfl, rfl, rfl, rfl, rfl, rfl, trivial⟩ rfl rfl rfl ?_
  intro g4 w1 n4
  have e4 := Nat.le_trans bel.size n4.ge
  replace bel := bel.step n4.below
  have k4 := n4.blk
  refine Seq.val (Runs.assign rfl rfl) rfl rfl rfl ?_
  refine Seq.nil ?_
  refine Post.weak (F' := [(0, _), (2, _), (3, _)]) ⟨rfl, rfl, rfl, trivial⟩ ?_
  refine Post.then_ ?_
  refine Cd.seq ?_
  refine Cd.region ?_
  refine Seq.val (Runs.move rfl rfl) rfl rfl rfl ?_
  refine Seq.val (Runs.move rfl rfl) rfl rfl rfl ?_
  refine Seq.val (Runs.subI rfl rfl rfl (by omega) (by omega)) rfl rfl rfl ?_
  have k4 : Blk _ g4 9 (wordsT.map fun s => Value.string (strOf s)).toArray := k4
  refine Seq.val (Runs.indexB rfl rfl rfl Try.underlying85 (by kernel_rfl) (j := j) (by omega) (by omega)) rfl rfl rfl ?_
  refine Seq.val (Runs.loadB rfl rfl Try.underlying9 rfl k4 hs) rfl rfl rfl ?_
  refine Seq.val (Runs.assign rfl rfl) rfl rfl rfl ?_
  refine Seq.nil ?_
  refine Post.weak (F' := [(0, _), (2, _), (3, _)]) ⟨rfl, rfl, rfl, trivial⟩ ?_
  refine Post.then_ ?_
  refine Cd.ret ?_
  refine Post.end1 rfl rfl (.inl rfl) ?_
  exact ⟨rfl, bel⟩
theorem printWord_any (op : Int) (w : World) (h1 : 1 ≤ op) (h2 : op ≤ 9) : Calls Try.prog 100 #[.int .i64 op] w fun e w' => e = .returned (.string (strOf (wordT op))) ∧ Grow w w' := by
  have bel := Below.refl w.heap.size w
  refine Calls.start 20 Try.func100 rfl rfl rfl ?_
  refine Cd.seq ?_
  refine Cd.region ?_
  refine Seq.val (Runs.assign rfl rfl) rfl rfl rfl ?_
  refine Seq.nil ?_
  refine Post.weak (F' := [(0, _), (2, _)]) ⟨rfl, rfl, trivial⟩ ?_
  refine Post.then_ ?_
  refine Cd.seq ?_
  refine Cd.seq ?_
  refine Cd.region ?_
  refine Seq.val (Runs.move rfl rfl) rfl rfl rfl ?_
  refine Seq.nil ?_
  refine Post.weak (F' := [(0, _), (2, _), (3, _)]) ⟨rfl, rfl, rfl, trivial⟩ ?_
  refine Post.then_ ?_
  refine Cd.block ?_
  refine Cd.seq ?_
  refine Cd.region ?_
  refine Seq.val (Runs.eqlI rfl rfl rfl) rfl rfl rfl ?_
  refine Seq.val (Runs.assign rfl rfl) rfl rfl rfl ?_
  refine Seq.nil ?_
  refine Post.weak (F' := [(0, _), (2, _), (3, _), (4, _)]) ⟨rfl, rfl, rfl, rfl, trivial⟩ ?_
  refine Post.then_ ?_
  refine Cd.condD rfl (fun g1 => ?_) (fun g1 => ?_)
  · skip
    refine Cd.seq ?_
    refine Cd.region ?_
    refine Seq.val (Runs.assign rfl rfl) rfl rfl rfl ?_
    refine Seq.nil ?_
    refine Post.weak (F' := [(0, _), (2, _), (3, _), (4, _)]) ⟨rfl, rfl, rfl, rfl, trivial⟩ ?_
    refine Post.then_ ?_
    refine Cd.ret ?_
    refine Post.block_ret ?_
    refine Post.then_ret ?_
    refine Post.end1 rfl rfl (.inl rfl) ?_
    subst g1
    exact ⟨rfl, bel⟩
  refine Cd.seq ?_
  refine Cd.region ?_
  refine Seq.val (Runs.eqlI rfl rfl rfl) rfl rfl rfl ?_
  refine Seq.val (Runs.assign rfl rfl) rfl rfl rfl ?_
  refine Seq.nil ?_
  refine Post.weak (F' := [(0, _), (2, _), (3, _), (4, _), (6, _)]) ⟨rfl, rfl, rfl, rfl, rfl, trivial⟩ ?_
  refine Post.then_ ?_
  refine Cd.condD rfl (fun h3 => ?_) (fun h3 => ?_)
  · skip
    refine Cd.seq ?_
    refine Cd.region ?_
    refine Seq.val (Runs.assign rfl rfl) rfl rfl rfl ?_
    refine Seq.nil ?_
    refine Post.weak (F' := [(0, _), (2, _), (3, _), (4, _), (6, _)]) ⟨rfl, rfl, rfl, rfl, rfl, trivial⟩ ?_
    refine Post.then_ ?_
    refine Cd.ret ?_
    refine Post.block_ret ?_
    refine Post.then_ret ?_
    refine Post.end1 rfl rfl (.inl rfl) ?_
    subst h3
    exact ⟨rfl, bel⟩
  refine Cd.seq ?_
  refine Cd.region ?_
  refine Seq.val (Runs.eqlI rfl rfl rfl) rfl rfl rfl ?_
  refine Seq.val (Runs.assign rfl rfl) rfl rfl rfl ?_
  refine Seq.nil ?_
  refine Post.weak (F' := [(0, _), (2, _), (3, _), (4, _), (6, _), (8, _)]) ⟨rfl, rfl, rfl, rfl, rfl, rfl, trivial⟩ ?_
  refine Post.then_ ?_
  refine Cd.condD rfl (fun h4 => ?_) (fun h4 => ?_)
  · skip
    refine Cd.seq ?_
    refine Cd.region ?_
    refine Seq.val (Runs.assign rfl rfl) rfl rfl rfl ?_
    refine Seq.nil ?_
    refine Post.weak (F' := [(0, _), (2, _), (3, _), (4, _), (6, _), (8, _)]) ⟨rfl, rfl, rfl, rfl, rfl, rfl, trivial⟩ ?_
    refine Post.then_ ?_
    refine Cd.ret ?_
    refine Post.block_ret ?_
    refine Post.then_ret ?_
    refine Post.end1 rfl rfl (.inl rfl) ?_
    subst h4
    exact ⟨rfl, bel⟩
  refine Cd.seq ?_
  refine Cd.region ?_
  refine Seq.val (Runs.eqlI rfl rfl rfl) rfl rfl rfl ?_
  refine Seq.val (Runs.assign rfl rfl) rfl rfl rfl ?_
  refine Seq.nil ?_
  refine Post.weak (F' := [(0, _), (2, _), (3, _), (4, _), (6, _), (8, _), (10, _)]) ⟨rfl, rfl, rfl, rfl, rfl, rfl, rfl, trivial⟩ ?_
  refine Post.then_ ?_
  refine Cd.condD rfl (fun h5 => ?_) (fun h5 => ?_)
  · skip
    refine Cd.seq ?_
    refine Cd.region ?_
    refine Seq.val (Runs.assign rfl rfl) rfl rfl rfl ?_
    refine Seq.nil ?_
    refine Post.weak (F' := [(0, _), (2, _), (3, _), (4, _), (6, _), (8, _), (10, _)]) ⟨rfl, rfl, rfl, rfl, rfl, rfl, rfl, trivial⟩ ?_
    refine Post.then_ ?_
    refine Cd.ret ?_
    refine Post.block_ret ?_
    refine Post.then_ret ?_
    refine Post.end1 rfl rfl (.inl rfl) ?_
    subst h5
    exact ⟨rfl, bel⟩
  refine Cd.seq ?_
  refine Cd.region ?_
  refine Seq.val (Runs.eqlI rfl rfl rfl) rfl rfl rfl ?_
  refine Seq.val (Runs.assign rfl rfl) rfl rfl rfl ?_
  refine Seq.nil ?_
  refine Post.weak (F' := [(0, _), (2, _), (3, _), (4, _), (6, _), (8, _), (10, _), (12, _)]) ⟨rfl, rfl, rfl, rfl, rfl, rfl, rfl, rfl, trivial⟩ ?_
  refine Post.then_ ?_
  refine Cd.condD rfl (fun h6 => ?_) (fun h6 => ?_)
  · skip
    refine Cd.seq ?_
    refine Cd.region ?_
    refine Seq.val (Runs.assign rfl rfl) rfl rfl rfl ?_
    refine Seq.nil ?_
    refine Post.weak (F' := [(0, _), (2, _), (3, _), (4, _), (6, _), (8, _), (10, _), (12, _)]) ⟨rfl, rfl, rfl, rfl, rfl, rfl, rfl, rfl, trivial⟩ ?_
    refine Post.then_ ?_
    refine Cd.ret ?_
    refine Post.block_ret ?_
    refine Post.then_ret ?_
    refine Post.end1 rfl rfl (.inl rfl) ?_
    subst h6
    exact ⟨rfl, bel⟩
  refine Cd.seq ?_
  refine Cd.region ?_
  refine Seq.val (Runs.eqlI rfl rfl rfl) rfl rfl rfl ?_
  refine Seq.val (Runs.assign rfl rfl) rfl rfl rfl ?_
  refine Seq.nil ?_
  refine Post.weak (F' := [(0, _), (2, _), (3, _), (4, _), (6, _), (8, _), (10, _), (12, _), (14, _)]) ⟨rfl, rfl, rfl, rfl, rfl, rfl, rfl, rfl, rfl, trivial⟩ ?_
  refine Post.then_ ?_
  refine Cd.condD rfl (fun h7 => ?_) (fun h7 => ?_)
  · skip
    refine Cd.seq ?_
    refine Cd.region ?_
    refine Seq.val (Runs.assign rfl rfl) rfl rfl rfl ?_
    refine Seq.nil ?_
    refine Post.weak (F' := [(0, _), (2, _), (3, _), (4, _), (6, _), (8, _), (10, _), (12, _), (14, _)]) ⟨rfl, rfl, rfl, rfl, rfl, rfl, rfl, rfl, rfl, trivial⟩ ?_
    refine Post.then_ ?_
    refine Cd.ret ?_
    refine Post.block_ret ?_
    refine Post.then_ret ?_
    refine Post.end1 rfl rfl (.inl rfl) ?_
    subst h7
    exact ⟨rfl, bel⟩
  refine Cd.seq ?_
  refine Cd.region ?_
  refine Seq.val (Runs.eqlI rfl rfl rfl) rfl rfl rfl ?_
  refine Seq.val (Runs.assign rfl rfl) rfl rfl rfl ?_
  refine Seq.nil ?_
  refine Post.weak (F' := [(0, _), (2, _), (3, _), (4, _), (6, _), (8, _), (10, _), (12, _), (14, _), (16, _)]) ⟨rfl, rfl, rfl, rfl, rfl, rfl, rfl, rfl, rfl, rfl, trivial⟩ ?_
  refine Post.then_ ?_
  refine Cd.condD rfl (fun h8 => ?_) (fun h8 => ?_)
  · skip
    refine Cd.seq ?_
    refine Cd.region ?_
    refine Seq.val (Runs.assign rfl rfl) rfl rfl rfl ?_
    refine Seq.nil ?_
    refine Post.weak (F' := [(0, _), (2, _), (3, _), (4, _), (6, _), (8, _), (10, _), (12, _), (14, _), (16, _)]) ⟨rfl, rfl, rfl, rfl, rfl, rfl, rfl, rfl, rfl, rfl, trivial⟩ ?_
    refine Post.then_ ?_
    refine Cd.ret ?_
    refine Post.block_ret ?_
    refine Post.then_ret ?_
    refine Post.end1 rfl rfl (.inl rfl) ?_
    subst h8
    exact ⟨rfl, bel⟩
  refine Cd.seq ?_
  refine Cd.region ?_
  refine Seq.val (Runs.eqlI rfl rfl rfl) rfl rfl rfl ?_
  refine Seq.val (Runs.assign rfl rfl) rfl rfl rfl ?_
  refine Seq.nil ?_
  refine Post.weak (F' := [(0, _), (2, _), (3, _), (4, _), (6, _), (8, _), (10, _), (12, _), (14, _), (16, _), (18, _)]) ⟨rfl, rfl, rfl, rfl, rfl, rfl, rfl, rfl, rfl, rfl, rfl, trivial⟩ ?_
  refine Post.then_ ?_
  refine Cd.condD rfl (fun h9 => ?_) (fun h9 => ?_)
  · skip
    refine Cd.seq ?_
    refine Cd.region ?_
    refine Seq.val (Runs.assign rfl rfl) rfl rfl rfl ?_
    refine Seq.nil ?_
    refine Post.weak (F' := [(0, _), (2, _), (3, _), (4, _), (6, _), (8, _), (10, _), (12, _), (14, _), (16, _), (18, _)]) ⟨rfl, rfl, rfl, rfl, rfl, rfl, rfl, rfl, rfl, rfl, rfl, trivial⟩ ?_
    refine Post.then_ ?_
    refine Cd.ret ?_
    refine Post.block_ret ?_
    refine Post.then_ret ?_
    refine Post.end1 rfl rfl (.inl rfl) ?_
    subst h9
    exact ⟨rfl, bel⟩
  refine Cd.skip ?_
  refine Post.block_normal ?_
  refine Post.then_ ?_
  refine Cd.seq ?_
  refine Cd.region ?_
  refine Seq.val (Runs.assign rfl rfl) rfl rfl rfl ?_
  refine Seq.nil ?_
  refine Post.weak (F' := [(0, _), (2, _), (3, _), (4, _), (6, _), (8, _), (10, _), (12, _), (14, _), (16, _), (18, _)]) ⟨rfl, rfl, rfl, rfl, rfl, rfl, rfl, rfl, rfl, rfl, rfl, trivial⟩ ?_
  refine Post.then_ ?_
  refine Cd.ret ?_
  refine Post.end1 rfl rfl (.inl rfl) ?_
  obtain rfl : op = 2 := by omega
  exact ⟨rfl, bel⟩
end Go.Proofs.Ytijaldpmpjapiaa

namespace Go.Proofs.Ytijaldpmpjapiaa
open Go.RowKit

theorem builtT_inv {t : Tm} (h : builtT t = true) : headTB t.op t.name t.exprs.length t.terms.length = true ∧ (∀ x ∈ t.exprs, builtB x = true) ∧ ∀ x ∈ t.terms, builtT x = true := by
  rw [builtT_eq, Bool.and_eq_true, Bool.and_eq_true, List.all_eq_true, List.all_eq_true] at h
  exact ⟨h.1.1, h.1.2, h.2⟩
theorem wordT_len (op : Int) : (wordT op).length ≤ 7 ∧ ∀ x ∈ wordT op, x < 256 := by
  unfold wordT
  generalize (op - 1).toNat = j
  rcases Nat.lt_or_ge j 9 with h | h
  · have key : ∀ j : Fin 9, (wordsT.getD j.val []).length ≤ 7 ∧ ∀ x ∈ wordsT.getD j.val [], x < 256 := by decide
    exact key ⟨j, h⟩
  · rw [List.getD_eq_getElem?_getD, List.getElem?_eq_none (show wordsT.length ≤ j from h)]
    simp
theorem join_len : ∀ l : List (List Nat), (joinT l).length ≤ (l.map fun t => t.length + 2).sum
  | [] => by simp [joinT]
  | [x] => by simp [joinT]
  | x :: y :: r => by
    have h2 := join_len (y :: r)
    rw [joinT_cons2]
    simp only [List.length_append, List.length_cons, List.length_nil, List.map_cons, List.sum_cons] at h2 ⊢
    omega
theorem sum_exprs : ∀ l : List Ex, (∀ x ∈ l, (exprT x).length ≤ 50 * x.nodes) → ((l.map exprT).map fun t => t.length + 2).sum ≤ 60 * nodesL l
  | [], _ => by simp
  | x :: r, h => by
    have h1 := h x List.mem_cons_self
    have h2 := sum_exprs r fun z hz => h z (List.mem_cons_of_mem _ hz)
    have hp := x.nodes_pos
    rw [nodesL, List.map_cons, List.map_cons, List.sum_cons]
    omega
theorem sum_terms : ∀ l : List Tm, (∀ x ∈ l, (termT x).length + 2 ≤ 60 * x.nodes) → ((l.map termT).map fun t => t.length + 2).sum ≤ 60 * nodesM l
  | [], _ => by simp
  | x :: r, h => by
    have h1 := h x List.mem_cons_self
    have h2 := sum_terms r fun z hz => h z (List.mem_cons_of_mem _ hz)
    rw [nodesM, List.map_cons, List.map_cons, List.sum_cons]
    omega
theorem termT_bd (N : Nat) : ∀ t : Tm, t.nodes ≤ N → builtT t = true → (termT t).length + 2 ≤ 60 * t.nodes ∧ ∀ d ∈ termT t, d < 256 := by
  induction N with
  | zero => intro t hN; have := t.nodes_pos; omega
  | succ N ih =>
    intro t hN hb
    obtain ⟨hh, he, ht⟩ := builtT_inv hb
    obtain ⟨a1, a2, a3⟩ := (headTB_iff _ _ _ _).1 hh
    have hn := t.nodes_eq
    have hE := sum_exprs t.exprs fun x hx => (exprT_bd x.nodes x (Nat.le_refl _) (he x hx)).1
    have hT := sum_terms t.terms fun x hx => (ih x (by have := Tm.term_nodes hx; omega) (ht x hx)).1
    have hw := wordT_len t.op
    rw [termT_eq]
    split
    · exact ⟨by simp; omega, by decide⟩
    · have hj := join_len ((if t.op = 2 then [t.name] else []) ++ t.exprs.map exprT ++ t.terms.map termT)
      rw [List.map_append, List.map_append, List.sum_append, List.sum_append] at hj
      have hnm : ((if t.op = 2 then [t.name] else []).map fun t => t.length + 2).sum ≤ 18 := by
        split
        · rename_i h
          have := free_len (a2 h)
          simp; omega
        · simp
      refine ⟨by simp only [List.length_append, List.length_cons, List.length_nil]; omega, bt3 (fun x hx => ?_) (join_lt fun u hu => ?_) (by decide)⟩
      · rcases List.mem_append.1 hx with hx | hx
        · exact hw.2 x hx
        · simp at hx; omega
      · rcases List.mem_append.1 hu with hu | hu
        · rcases List.mem_append.1 hu with hu | hu
          · split at hu
            · rename_i h
              obtain rfl := List.mem_singleton.1 hu
              exact free_lt (a2 h)
            · cases hu
          · obtain ⟨x, hx, rfl⟩ := List.mem_map.1 hu
            exact (exprT_bd x.nodes x (Nat.le_refl _) (he x hx)).2
        · obtain ⟨x, hx, rfl⟩ := List.mem_map.1 hu
          exact (ih x (by have := Tm.term_nodes hx; omega) (ht x hx)).2
end Go.Proofs.Ytijaldpmpjapiaa

namespace Go.Proofs.Ytijaldpmpjapiaa
open Go.RowKit

def strs (l : List (List Nat)) : List Value := l.map fun s => .string (strOf s)
theorem strs_append (a b : List (List Nat)) : strs (a ++ b) = strs a ++ strs b := by simp [strs]
theorem refTerm_any (N : Nat) : ∀ (t : Tm) (B : Nat) (v : Value) (w : World), t.nodes ≤ N → t.nodes ≤ 200 → builtT t = true → RepB w B t v → B ≤ w.heap.size → Calls Try.prog 31 #[v] w fun en w' => en = .returned (.string (strOf (termT t))) ∧ Grow w w' := by
  induction N with
  | zero => intro t B v w hN; have := t.nodes_pos; omega
  | succ N ih =>
  intro t B v w hN h200 hbt hrep hB
  obtain ⟨A, c, A', c', rfl, hv⟩ := hrep.open
  obtain ⟨hh, hexp, hter⟩ := builtT_inv hbt
  obtain ⟨a1, a2, a3⟩ := (headTB_iff _ _ _ _).1 hh
  obtain ⟨p1, p2, p3, p4⟩ := arT_op a1
  have hT := termT_eq t
  have bel := Below.refl w.heap.size w
  refine Calls.start 57 Try.func31 rfl rfl rfl ?_
  refine Cd.seq ?_
  refine Cd.region ?_
  refine Seq.box rfl rfl rfl rfl rfl ?_
  intro g1 w1 n1
  have e1 := Nat.le_trans bel.size n1.ge
  replace bel := bel.step n1.below
  have k1 := n1.blk
  refine Seq.val (Runs.assign rfl rfl) rfl rfl rfl ?_
  refine Seq.nil ?_
  refine Post.weak (F' := [(0, _), (1, _), (2, _)]) ⟨rfl, rfl, rfl, trivial⟩ ?_
  refine Post.then_ ?_
  refine Cd.seq ?_
  refine Cd.seq ?_
  refine Cd.region ?_
  refine Seq.val (Runs.fieldB 0 rfl rfl Try.underlying57 rfl (by kernel_rfl)) rfl rfl rfl ?_
  refine Seq.val (Runs.loadB rfl rfl Try.underlying3 rfl k1 rfl) rfl rfl rfl ?_
  refine Seq.val (Runs.eqlI rfl rfl rfl) rfl rfl rfl ?_
  refine Seq.nil ?_
  refine Post.weak (F' := [(0, _), (1, _), (2, _), (8, _)]) ⟨rfl, rfl, rfl, rfl, trivial⟩ ?_
  refine Post.then_ ?_
  refine Cd.condD rfl (fun h1 => ?_) (fun h1 => ?_)
  · rw [if_pos h1] at hT
    refine Cd.seq ?_
    refine Cd.region ?_
    refine Seq.val (Runs.assign rfl rfl) rfl rfl rfl ?_
    refine Seq.nil ?_
    refine Post.weak (F' := [(0, _), (1, _), (2, _), (8, _)]) ⟨rfl, rfl, rfl, rfl, trivial⟩ ?_
    refine Post.then_ ?_
    refine Cd.ret ?_
    refine Post.then_ret ?_
    refine Post.end1 rfl rfl (.inl rfl) ?_
    rw [hT]
    exact ⟨rfl, bel⟩
  rw [if_neg h1] at hT
  refine Cd.skip ?_
  refine Post.then_ ?_
  refine Cd.seq ?_
  refine Cd.region ?_
  refine Seq.val (Runs.assign rfl rfl) rfl rfl rfl ?_
  refine Seq.nil ?_
  refine Post.weak (F' := [(0, _), (1, _), (2, _), (3, _), (8, _)]) ⟨rfl, rfl, rfl, rfl, rfl, trivial⟩ ?_
  refine Post.then_ ?_
  refine Cd.seqJ (σ := Value) (fun v => [(1, .pointer (some ⟨g1, 0, none⟩)), (3, v)]) (fun v wr => Below w.heap.size w wr ∧ Blk wr g1 57 #[.int .i64 t.op, .string (strOf t.name), .slice A t.exprs.length c, .slice A' t.terms.length c'] ∧ Own wr w.heap.size 9 1 v (if t.op = 2 then [t.name] else []).length (strs (if t.op = 2 then [t.name] else []))) ?_ ?_
  · skip
    refine Cd.seq ?_
    refine Cd.region ?_
    refine Seq.val (Runs.fieldB 0 rfl rfl Try.underlying57 rfl (by kernel_rfl)) rfl rfl rfl ?_
    refine Seq.val (Runs.loadB rfl rfl Try.underlying3 rfl k1 rfl) rfl rfl rfl ?_
    refine Seq.val (Runs.eqlI rfl rfl rfl) rfl rfl rfl ?_
    refine Seq.nil ?_
    refine Post.weak (F' := [(0, _), (1, _), (2, _), (3, _), (8, _), (11, _)]) ⟨rfl, rfl, rfl, rfl, rfl, rfl, trivial⟩ ?_
    refine Post.then_ ?_
    refine Cd.condD rfl (fun h2 => ?_) (fun h2 => ?_)
    · rw [if_pos h2]
      have own : Own w1 w.heap.size 9 1 (.slice none 0 0) 0 [] := Own.nil _ _ _ _
      refine Cd.region ?_
      refine Seq.val (Runs.move rfl rfl) rfl rfl rfl ?_
      refine Seq.val (Runs.fieldB 1 rfl rfl Try.underlying57 rfl (by kernel_rfl)) rfl rfl rfl ?_
      refine Seq.val (Runs.loadB rfl rfl Try.underlying9 rfl k1 rfl) rfl rfl rfl ?_
      refine Seq.slice (vs := [_]) (s := 1) rfl rfl rfl Try.underlying85 (by kernel_rfl) (zero_string) (by omega) (by omega) ⟨rfl, trivial⟩ rfl rfl rfl ?_
      intro g15 w2 n15
      have e15 := Nat.le_trans bel.size n15.ge
      have l15 := Nat.lt_of_lt_of_le k1.lt n15.ge
      replace bel := bel.step n15.below
      replace k1 := k1.step n15.below
      replace own := own.step n15.below
      have k15 := n15.blk
      refine Seq.append rfl rfl rfl Try.underlying85 (by kernel_rfl) zero_string rfl (by decide) (b := 16) (by kernel_rfl) own (Reads.blk k15 1 rfl) (by intro x hx; simp [flatC, Value.cells] at hx; rw [hx]; rfl) bel.size (by simp only [maxLen]; omega) (by omega) rfl rfl rfl ?_
      intro vw3 w3 ow3 haw3
      try replace k1 := k1.app own haw3
      try replace k15 := k15.app own haw3
      clear own
      have own := ow3
      replace bel := bel.trans haw3.below
      refine Seq.val (Runs.assign rfl rfl) rfl rfl rfl ?_
      refine Seq.nil ?_
      refine Post.weak (F' := [(0, _), (1, _), (2, _), (3, _), (8, _), (11, _)]) ⟨rfl, rfl, rfl, rfl, rfl, rfl, trivial⟩ ?_
      exact Post.join _ ⟨rfl, rfl, trivial⟩ ⟨bel, k1, own⟩
    · rw [if_neg h2]
      refine Cd.skip ?_
      exact Post.join _ ⟨rfl, rfl, trivial⟩ ⟨bel, k1, Own.nil _ _ _ _⟩
  clear bel k1
  rintro v wj ⟨bel, k1, own⟩
  obtain ⟨pre, hpre⟩ : ∃ pre, pre = if t.op = 2 then [t.name] else [] := ⟨_, rfl⟩
  rw [← hpre] at own hT
  have hpl : pre.length ≤ 1 := by rw [hpre]; split <;> simp
  refine Cd.seq ?_
  refine Cd.seq ?_
  refine Cd.region ?_
  refine Seq.val (Runs.assign rfl rfl) rfl rfl rfl ?_
  refine Seq.nil ?_
  refine Post.weak (F' := [(1, _), (3, _), (4, _)]) ⟨rfl, rfl, rfl, trivial⟩ ?_
  refine Post.then_ ?_
  refine Cd.block ?_
  refine Cd.loop (σ := Nat × Value) (fun s => [(1, .pointer (some ⟨g1, 0, none⟩)), (3, s.2), (4, .int .i64 (s.1 : Int))]) (fun s wr => s.1 ≤ t.exprs.length ∧ Below w.heap.size w wr ∧ Blk wr g1 57 #[.int .i64 t.op, .string (strOf t.name), .slice A t.exprs.length c, .slice A' t.terms.length c'] ∧ Own wr w.heap.size 9 1 s.2 (pre ++ (t.exprs.take s.1).map exprT).length (strs (pre ++ (t.exprs.take s.1).map exprT))) (fun s => t.exprs.length - s.1) (0, v) ⟨Nat.zero_le _, bel, k1, by simpa using own⟩ ⟨rfl, rfl, rfl, trivial⟩ ?_
  clear bel k1
  clear own
  rintro ⟨k, v⟩ wr ⟨hk, bel, k1, own⟩
  dsimp only at hk own ⊢
  refine Cd.seq ?_
  refine Cd.seq ?_
  refine Cd.region ?_
  refine Seq.val (Runs.move rfl rfl) rfl rfl rfl ?_
  refine Seq.val (Runs.fieldB 2 rfl rfl Try.underlying57 rfl (by kernel_rfl)) rfl rfl rfl ?_
  refine Seq.val (Runs.loadB rfl rfl Try.underlying25 rfl k1 rfl) rfl rfl rfl ?_
  refine Seq.val (Runs.len rfl rfl Try.underlying25) rfl rfl rfl ?_
  refine Seq.val (Runs.lss rfl rfl rfl) rfl rfl rfl ?_
  refine Seq.nil ?_
  refine Post.weak (F' := [(1, _), (3, _), (4, _), (21, _)]) ⟨rfl, rfl, rfl, rfl, trivial⟩ ?_
  refine Post.then_ ?_
  refine Cd.condD rfl (fun hc => ?_) (fun hc => ?_)
  · obtain ⟨y, hy⟩ : ∃ y, t.exprs[k]? = some y := ⟨_, List.getElem?_eq_getElem (by omega)⟩
    obtain ⟨ad, Ax, cx, rfl, hbl, hrx, hc⟩ := hv.expr k y hy
    have hxm := List.mem_of_getElem? hy
    have hxn := Tm.expr_nodes hxm
    have hc := fun j u hj => ((bel.mono hB).cell (p := (ad.add (k * 4)).add j) (by rw [block_of_add, block_of_add]; exact hbl)).trans (hc j u hj)
    have htk : t.exprs.take (k + 1) = t.exprs.take k ++ [y] := by rw [List.take_add_one, hy]; rfl
    have hrec := fun W (hb : Below w.heap.size w W) => refExpr_any y.nodes y B _ W (Nat.le_refl _) (by omega) (hexp y hxm) (hrx.below (hb.mono hB)) (Nat.le_trans hB hb.size)
    have hlk : (pre ++ (t.exprs.take k).map exprT).length ≤ 10 := by rw [List.length_append, List.length_map, List.length_take]; omega
    refine Cd.skip ?_
    refine Post.then_ ?_
    refine Cd.seq ?_
    refine Cd.block ?_
    refine Cd.region ?_
    refine Seq.val (Runs.move rfl rfl) rfl rfl rfl ?_
    refine Seq.val (Runs.fieldB 2 rfl rfl Try.underlying57 rfl (by kernel_rfl)) rfl rfl rfl ?_
    refine Seq.val (Runs.loadB rfl rfl Try.underlying25 rfl k1 rfl) rfl rfl rfl ?_
    refine Seq.val (Runs.move rfl rfl) rfl rfl rfl ?_
    refine Seq.val (Runs.indexN rfl rfl rfl Try.underlying25 (s := 4) (by kernel_rfl) (j := k) rfl (by omega)) rfl rfl rfl ?_
    refine Seq.val (Runs.loadF (ps := [.int .i64 y.op, .int .i64 y.n, .string (strOf y.name), .slice Ax y.args.length cx]) rfl rfl Try.underlying35 rfl (m := 4) (by kernel_rfl) rfl hc) rfl rfl rfl ?_
    refine Seq.call (Enters.func rfl rfl rfl (run_enter Try.func17 (by kernel_rfl) rfl)) rfl rfl rfl (hrec _ bel) ?_
    rintro en w6 ⟨rfl, hb6⟩
    refine ⟨_, rfl, ?_⟩
    replace bel := bel.step hb6
    replace k1 := k1.step hb6
    replace own := own.step hb6
    refine Seq.slice (vs := [_]) (s := 1) rfl rfl rfl Try.underlying85 (by kernel_rfl) (zero_string) (by omega) (by omega) ⟨rfl, trivial⟩ rfl rfl rfl ?_
    intro g31 w2 n31
    have e31 := Nat.le_trans bel.size n31.ge
    have l31 := Nat.lt_of_lt_of_le k1.lt n31.ge
    replace bel := bel.step n31.below
    replace k1 := k1.step n31.below
    replace own := own.step n31.below
    have k31 := n31.blk
    refine Seq.append rfl rfl rfl Try.underlying85 (by kernel_rfl) zero_string rfl (by decide) (b := 16) (by kernel_rfl) own (Reads.blk k31 1 rfl) (by intro x hx; simp [flatC, Value.cells] at hx; rw [hx]; rfl) bel.size (by simp only [maxLen]; omega) (by omega) rfl rfl rfl ?_
    intro vw3 w3 ow3 haw3
    try replace k1 := k1.app own haw3
    try replace k31 := k31.app own haw3
    clear own
    have own := ow3
    replace bel := bel.trans haw3.below
    refine Seq.val (Runs.assign rfl rfl) rfl rfl rfl ?_
    refine Seq.nil ?_
    refine Post.weak (F' := [(1, _), (3, _), (4, _), (21, _)]) ⟨rfl, rfl, rfl, rfl, trivial⟩ ?_
    refine Post.block_normal ?_
    refine Post.then_ ?_
    refine Cd.region ?_
    refine Seq.val (Runs.move rfl rfl) rfl rfl rfl ?_
    refine Seq.val (Runs.addI rfl rfl rfl (by omega) (by omega)) rfl rfl rfl ?_
    refine Seq.val (Runs.assign rfl rfl) rfl rfl rfl ?_
    refine Seq.nil ?_
    refine Post.weak (F' := [(1, _), (3, _), (4, _), (21, _)]) ⟨rfl, rfl, rfl, rfl, trivial⟩ ?_
    refine Post.round (k + 1, _) ⟨rfl, rfl, rfl, trivial⟩ ⟨by dsimp only; omega, bel, k1, ?_⟩ (by dsimp only; omega)
    dsimp only
    rw [htk, List.map_append, ← List.append_assoc, strs_append, List.length_append]
    exact own
  obtain rfl : k = t.exprs.length := by omega
  rw [List.take_of_length_le (Nat.le_refl _)] at own
  obtain ⟨pre2, hpre2⟩ : ∃ pre2, pre2 = pre ++ t.exprs.map exprT := ⟨_, rfl⟩
  rw [← hpre2] at own hT
  have hpl2 : pre2.length ≤ 10 := by rw [hpre2, List.length_append, List.length_map]; omega
  refine Cd.exit ?_
  refine Post.then_exit ?_
  refine Post.round_exit ?_
  refine Post.block_exit ?_
  refine Post.then_ ?_
  refine Cd.seq ?_
  refine Cd.seq ?_
  refine Cd.region ?_
  refine Seq.val (Runs.assign rfl rfl) rfl rfl rfl ?_
  refine Seq.nil ?_
  refine Post.weak (F' := [(1, _), (3, _), (4, _), (5, _), (21, _)]) ⟨rfl, rfl, rfl, rfl, rfl, trivial⟩ ?_
  refine Post.then_ ?_
  refine Cd.block ?_
  refine Cd.loop (σ := Nat × Value) (fun s => [(1, .pointer (some ⟨g1, 0, none⟩)), (3, s.2), (5, .int .i64 (s.1 : Int))]) (fun s wr => s.1 ≤ t.terms.length ∧ Below w.heap.size w wr ∧ Blk wr g1 57 #[.int .i64 t.op, .string (strOf t.name), .slice A t.exprs.length c, .slice A' t.terms.length c'] ∧ Own wr w.heap.size 9 1 s.2 (pre2 ++ (t.terms.take s.1).map termT).length (strs (pre2 ++ (t.terms.take s.1).map termT))) (fun s => t.terms.length - s.1) (0, v) ⟨Nat.zero_le _, bel, k1, by simpa using own⟩ ⟨rfl, rfl, rfl, trivial⟩ ?_
  clear bel k1
  clear own
  rintro ⟨k, v⟩ wr ⟨hk, bel, k1, own⟩
  dsimp only at hk own ⊢
  refine Cd.seq ?_
  refine Cd.seq ?_
  refine Cd.region ?_
  refine Seq.val (Runs.move rfl rfl) rfl rfl rfl ?_
  refine Seq.val (Runs.fieldB 3 rfl rfl Try.underlying57 rfl (by kernel_rfl)) rfl rfl rfl ?_
  refine Seq.val (Runs.loadB rfl rfl Try.underlying27 rfl k1 rfl) rfl rfl rfl ?_
  refine Seq.val (Runs.len rfl rfl Try.underlying27) rfl rfl rfl ?_
  refine Seq.val (Runs.lss rfl rfl rfl) rfl rfl rfl ?_
  refine Seq.nil ?_
  refine Post.weak (F' := [(1, _), (3, _), (5, _), (37, _)]) ⟨rfl, rfl, rfl, rfl, trivial⟩ ?_
  refine Post.then_ ?_
  refine Cd.condD rfl (fun hc => ?_) (fun hc => ?_)
  · obtain ⟨y, hy⟩ : ∃ y, t.terms[k]? = some y := ⟨_, List.getElem?_eq_getElem (by omega)⟩
    obtain ⟨ad, A1, A2, d1, d2, rfl, hbl, hrx, hc⟩ := hv.term k y hy
    have hxm := List.mem_of_getElem? hy
    have hxn := Tm.term_nodes hxm
    have hc := fun j u hj => ((bel.mono hB).cell (p := (ad.add (k * 4)).add j) (by rw [block_of_add, block_of_add]; exact hbl)).trans (hc j u hj)
    have htk : t.terms.take (k + 1) = t.terms.take k ++ [y] := by rw [List.take_add_one, hy]; rfl
    have hrec := fun W (hb : Below w.heap.size w W) => ih y B _ W (by omega) (by omega) (hter y hxm) (hrx.below (hb.mono hB)) (Nat.le_trans hB hb.size)
    have hlk : (pre2 ++ (t.terms.take k).map termT).length ≤ 20 := by rw [List.length_append, List.length_map, List.length_take]; omega
    refine Cd.skip ?_
    refine Post.then_ ?_
    refine Cd.seq ?_
    refine Cd.block ?_
    refine Cd.region ?_
    refine Seq.val (Runs.move rfl rfl) rfl rfl rfl ?_
    refine Seq.val (Runs.fieldB 3 rfl rfl Try.underlying57 rfl (by kernel_rfl)) rfl rfl rfl ?_
    refine Seq.val (Runs.loadB rfl rfl Try.underlying27 rfl k1 rfl) rfl rfl rfl ?_
    refine Seq.val (Runs.move rfl rfl) rfl rfl rfl ?_
    refine Seq.val (Runs.indexN rfl rfl rfl Try.underlying27 (s := 4) (by kernel_rfl) (j := k) rfl (by omega)) rfl rfl rfl ?_
    refine Seq.val (Runs.loadF (ps := [.int .i64 y.op, .string (strOf y.name), .slice A1 y.exprs.length d1, .slice A2 y.terms.length d2]) rfl rfl Try.underlying57 rfl (m := 4) (by kernel_rfl) rfl hc) rfl rfl rfl ?_
    refine Seq.call (Enters.func rfl rfl rfl (run_enter Try.func31 (by kernel_rfl) rfl)) rfl rfl rfl (hrec _ bel) ?_
    rintro en w6 ⟨rfl, hb6⟩
    refine ⟨_, rfl, ?_⟩
    replace bel := bel.step hb6
    replace k1 := k1.step hb6
    replace own := own.step hb6
    refine Seq.slice (vs := [_]) (s := 1) rfl rfl rfl Try.underlying85 (by kernel_rfl) (zero_string) (by omega) (by omega) ⟨rfl, trivial⟩ rfl rfl rfl ?_
    intro g47 w2 n47
    have e47 := Nat.le_trans bel.size n47.ge
    have l47 := Nat.lt_of_lt_of_le k1.lt n47.ge
    replace bel := bel.step n47.below
    replace k1 := k1.step n47.below
    replace own := own.step n47.below
    have k47 := n47.blk
    refine Seq.append rfl rfl rfl Try.underlying85 (by kernel_rfl) zero_string rfl (by decide) (b := 16) (by kernel_rfl) own (Reads.blk k47 1 rfl) (by intro x hx; simp [flatC, Value.cells] at hx; rw [hx]; rfl) bel.size (by simp only [maxLen]; omega) (by omega) rfl rfl rfl ?_
    intro vw3 w3 ow3 haw3
    try replace k1 := k1.app own haw3
    try replace k47 := k47.app own haw3
    clear own
    have own := ow3
    replace bel := bel.trans haw3.below
    refine Seq.val (Runs.assign rfl rfl) rfl rfl rfl ?_
    refine Seq.nil ?_
    refine Post.weak (F' := [(1, _), (3, _), (5, _), (37, _)]) ⟨rfl, rfl, rfl, rfl, trivial⟩ ?_
    refine Post.block_normal ?_
    refine Post.then_ ?_
    refine Cd.region ?_
    refine Seq.val (Runs.move rfl rfl) rfl rfl rfl ?_
    refine Seq.val (Runs.addI rfl rfl rfl (by omega) (by omega)) rfl rfl rfl ?_
    refine Seq.val (Runs.assign rfl rfl) rfl rfl rfl ?_
    refine Seq.nil ?_
    refine Post.weak (F' := [(1, _), (3, _), (5, _), (37, _)]) ⟨rfl, rfl, rfl, rfl, trivial⟩ ?_
    refine Post.round (k + 1, _) ⟨rfl, rfl, rfl, trivial⟩ ⟨by dsimp only; omega, bel, k1, ?_⟩ (by dsimp only; omega)
    dsimp only
    rw [htk, List.map_append, ← List.append_assoc, strs_append, List.length_append]
    exact own
  · obtain rfl : k = t.terms.length := by omega
    rw [List.take_of_length_le (Nat.le_refl _)] at own
    obtain ⟨l, hl⟩ : ∃ l, l = pre2 ++ t.terms.map termT := ⟨_, rfl⟩
    rw [← hl] at own hT
    have hll : l.length ≤ 20 := by rw [hl, List.length_append, List.length_map]; omega
    have hbd := (termT_bd t.nodes t (Nat.le_refl _) hbt).1
    have hwl := (wordT_len t.op).1
    rw [hT] at hbd
    simp only [List.length_append, List.length_cons, List.length_nil] at hbd
    obtain ⟨A9, c9, rfl, rd⟩ := own.reads
    have hjoin := fun W (hb : Below wr.heap.size wr W) => join_any l.length c9 A9 l W ((rd.below hb).more hb.size) (by omega) (by omega)
    have hloc := Below.refl wr.heap.size wr
    refine Cd.exit ?_
    refine Post.then_exit ?_
    refine Post.round_exit ?_
    refine Post.block_exit ?_
    refine Post.then_ ?_
    refine Cd.seq ?_
    refine Cd.region ?_
    refine Seq.val (Runs.fieldB 0 rfl rfl Try.underlying57 rfl (by kernel_rfl)) rfl rfl rfl ?_
    refine Seq.val (Runs.loadB rfl rfl Try.underlying3 rfl k1 rfl) rfl rfl rfl ?_
    refine Seq.call (Enters.func rfl rfl rfl (run_enter Try.func63 (by kernel_rfl) rfl)) rfl rfl rfl (refWord_any t.op _ p1 p2) ?_
    rintro en w6 ⟨rfl, hb6⟩
    refine ⟨_, rfl, ?_⟩
    replace bel := bel.step hb6
    replace k1 := k1.step hb6
    replace hloc := hloc.step hb6
    refine Seq.val (Runs.addL (b := [40]) rfl rfl rfl (by simp only [List.length_cons, List.length_nil]; omega)) rfl rfl rfl ?_
    refine Seq.val (Runs.move rfl rfl) rfl rfl rfl ?_
    refine Seq.call (Enters.func rfl rfl rfl (run_enter Try.func49 (by kernel_rfl) rfl)) rfl rfl rfl (hjoin _ hloc) ?_
    rintro en w7 ⟨rfl, hb7⟩
    refine ⟨_, rfl, ?_⟩
    replace bel := bel.step hb7
    replace k1 := k1.step hb7
    replace hloc := hloc.step hb7
    refine Seq.val (Runs.addL rfl rfl rfl (by simp only [List.length_append, List.length_cons, List.length_nil]; omega)) rfl rfl rfl ?_
    refine Seq.val (Runs.addL (b := [41]) rfl rfl rfl (by simp only [List.length_append, List.length_cons, List.length_nil]; omega)) rfl rfl rfl ?_
    refine Seq.val (Runs.assign rfl rfl) rfl rfl rfl ?_
    refine Seq.nil ?_
    refine Post.weak (F' := [(1, _), (2, _), (3, _), (5, _), (37, _)]) ⟨rfl, rfl, rfl, rfl, rfl, trivial⟩ ?_
    refine Post.then_ ?_
    refine Cd.ret ?_
    refine Post.end1 rfl rfl (.inl rfl) ?_
    rw [hT]
    exact ⟨rfl, bel⟩
end Go.Proofs.Ytijaldpmpjapiaa

namespace Go.Proofs.Ytijaldpmpjapiaa
open Go.RowKit

/-- The blanks of so many levels. -/
def blanksT (n : Nat) : List Nat := List.replicate (2 * n) 32
/-- Rows, each on a line of its own behind some blanks, with commas between. -/
def segs (m : List Nat) : List (List Nat) → List Nat
  | [] => []
  | x :: r => [10] ++ m ++ x ++ r.flatMap fun y => [44, 10] ++ m ++ y
mutual
/-- A term's lines, at a level. -/
def linesT (deep : Nat) : Tm → List Nat
  | .mk op nm es l => if l = [] then termT (.mk op nm es l) else wordT op ++ [40] ++ segs (blanksT (deep + 1)) (es.map exprT ++ linesTL (deep + 1) l) ++ [10] ++ blanksT deep ++ [41]
def linesTL (deep : Nat) : List Tm → List (List Nat)
  | [] => []
  | t :: r => linesT deep t :: linesTL deep r
end
theorem linesTL_map (deep : Nat) : ∀ l, linesTL deep l = l.map (linesT deep)
  | [] => by rw [linesTL]; rfl
  | e :: r => by rw [linesTL, linesTL_map deep r]; rfl
/-- What stands within a term. -/
def rowsT (deep : Nat) (t : Tm) : List (List Nat) := t.exprs.map exprT ++ t.terms.map (linesT (deep + 1))
theorem linesT_eq (deep : Nat) (t : Tm) : linesT deep t = if t.terms = [] then termT t else wordT t.op ++ [40] ++ segs (blanksT (deep + 1)) (rowsT deep t) ++ [10] ++ blanksT deep ++ [41] := by
  cases t; rw [linesT, linesTL_map]; rfl
theorem segs_snoc (m : List Nat) (l : List (List Nat)) (y : List Nat) : segs m (l ++ [y]) = segs m l ++ (if l = [] then [] else [44]) ++ [10] ++ m ++ y := by
  cases l with
  | nil => simp [segs]
  | cons x r => simp [segs, List.flatMap_append]
theorem blanksT_succ (n : Nat) : blanksT n ++ [32, 32] = blanksT (n + 1) := by
  unfold blanksT
  rw [show 2 * (n + 1) = 2 * n + 2 from by omega, ← List.replicate_append_replicate]
  rfl
theorem blanksT_len (n : Nat) : (blanksT n).length = 2 * n := List.length_replicate
theorem blanksT_lt (n : Nat) : ∀ x ∈ blanksT n, x < 256 := fun x hx => by rw [(List.mem_replicate.1 hx).2]; decide
theorem segs_len (m : List Nat) : ∀ l : List (List Nat), (segs m l).length ≤ (l.map fun t => t.length + (m.length + 2)).sum
  | [] => Nat.le_refl _
  | x :: r => by
    have h : ∀ r : List (List Nat), (r.flatMap fun y => [44, 10] ++ m ++ y).length ≤ (r.map fun t => t.length + (m.length + 2)).sum := fun r => by
      induction r with
      | nil => simp
      | cons y r ih =>
        rw [List.flatMap_cons, List.map_cons, List.sum_cons]
        simp only [List.length_append, List.length_cons, List.length_nil] at ih ⊢
        omega
    have := h r
    rw [List.map_cons, List.sum_cons]
    simp only [segs, List.length_append, List.length_cons, List.length_nil] at this ⊢
    omega
theorem segs_lt {m : List Nat} {l : List (List Nat)} (hm : ∀ x ∈ m, x < 256) (hl : ∀ t ∈ l, ∀ x ∈ t, x < 256) : ∀ x ∈ segs m l, x < 256 := by
  cases l with
  | nil => intro x hx; cases hx
  | cons y r =>
    intro x hx
    simp only [segs, List.mem_append, List.mem_flatMap, List.mem_cons, List.not_mem_nil, or_false] at hx
    rcases hx with ((hx | hx) | hx) | ⟨z, hz, (hx | hx) | hx⟩
    · omega
    · exact hm x hx
    · exact hl y List.mem_cons_self x hx
    · omega
    · exact hm x hx
    · exact hl z (List.mem_cons_of_mem _ hz) x hx
theorem sumE_bd (c : Nat) : ∀ l : List Ex, (∀ x ∈ l, (exprT x).length ≤ 50 * x.nodes) → ((l.map exprT).map fun t => t.length + c).sum ≤ (50 + c) * nodesL l
  | [], _ => by simp
  | x :: r, h => by
    have h1 := h x List.mem_cons_self
    have h2 := sumE_bd c r fun z hz => h z (List.mem_cons_of_mem _ hz)
    have hp := x.nodes_pos
    have hc : c ≤ c * x.nodes := Nat.le_mul_of_pos_right _ hp
    rw [nodesL, List.map_cons, List.map_cons, List.sum_cons, Nat.mul_add, Nat.add_mul 50 c x.nodes]
    omega
theorem sumL_bd (c k d : Nat) : ∀ l : List Tm, (∀ x ∈ l, (linesT d x).length + c ≤ k * x.nodes) → ((l.map (linesT d)).map fun t => t.length + c).sum ≤ k * nodesM l
  | [], _ => by simp
  | x :: r, h => by
    have h1 := h x List.mem_cons_self
    have h2 := sumL_bd c k d r fun z hz => h z (List.mem_cons_of_mem _ hz)
    rw [nodesM, List.map_cons, List.map_cons, List.sum_cons, Nat.mul_add]
    omega
theorem linesT_bd (N : Nat) : ∀ (t : Tm) (d : Nat), t.nodes ≤ N → builtT t = true → d + t.depth ≤ 50 → (linesT d t).length + 110 ≤ 300 * t.nodes ∧ ∀ x ∈ linesT d t, x < 256 := by
  induction N with
  | zero => intro t d hN; have := t.nodes_pos; omega
  | succ N ih =>
    intro t d hN hb hd
    obtain ⟨hh, he, ht⟩ := builtT_inv hb
    have hn := t.nodes_eq
    have hp := t.nodes_pos
    have hw := wordT_len t.op
    have htt := termT_bd t.nodes t (Nat.le_refl _) hb
    rw [linesT_eq]
    split
    · exact ⟨by omega, htt.2⟩
    · have hs := segs_len (blanksT (d + 1)) (rowsT d t)
      unfold rowsT at hs
      rw [List.map_append, List.sum_append, blanksT_len] at hs
      have hE := sumE_bd (2 * (d + 1) + 2) t.exprs fun x hx => (exprT_bd x.nodes x (Nat.le_refl _) (he x hx)).1
      have hT := sumL_bd (2 * (d + 1) + 2) 300 (d + 1) t.terms fun x hx => by
        have := (ih x (d + 1) (by have := Tm.term_nodes hx; omega) (ht x hx) (by have := Tm.term_depth hx; omega)).1
        omega
      have hE' : (50 + (2 * (d + 1) + 2)) * nodesL t.exprs ≤ 300 * nodesL t.exprs := Nat.mul_le_mul_right _ (by omega)
      have hr : rowsT d t = t.exprs.map exprT ++ t.terms.map (linesT (d + 1)) := rfl
      rw [← hr] at hs
      refine ⟨by simp only [List.length_append, List.length_cons, List.length_nil, blanksT_len]; omega, fun x hx => ?_⟩
      simp only [List.mem_append, List.mem_cons, List.not_mem_nil, or_false] at hx
      rcases hx with ((((hx | hx) | hx) | hx) | hx) | hx
      · exact hw.2 x hx
      · omega
      · refine segs_lt (blanksT_lt _) (fun u hu => ?_) x hx
        unfold rowsT at hu
        rcases List.mem_append.1 hu with hu | hu
        · obtain ⟨z, hz, rfl⟩ := List.mem_map.1 hu
          exact (exprT_bd z.nodes z (Nat.le_refl _) (he z hz)).2
        · obtain ⟨z, hz, rfl⟩ := List.mem_map.1 hu
          exact (ih z (d + 1) (by have := Tm.term_nodes hz; omega) (ht z hz) (by have := Tm.term_depth hz; omega)).2
      · omega
      · exact blanksT_lt _ x hx
      · omega
end Go.Proofs.Ytijaldpmpjapiaa

namespace Go.Proofs.Ytijaldpmpjapiaa
open Go.RowKit

theorem segs_take (m : List Nat) (l : List (List Nat)) (k : Nat) : (segs m (l.take k)).length ≤ (segs m l).length := by
  have h : ∀ a b : List (List Nat), (segs m a).length ≤ (segs m (a ++ b)).length := fun a b => by
    cases a with
    | nil => simp [segs]
    | cons x r =>
      have e : segs m (x :: r ++ b) = segs m (x :: r) ++ b.flatMap fun y => [44, 10] ++ m ++ y := by simp [segs, List.flatMap_append]
      rw [e, List.length_append]
      omega
  have := h (l.take k) (l.drop k)
  rwa [List.take_append_drop] at this
/-- What is written of the lines, ahead of a row. -/
def linesA (m word : List Nat) (rows : List (List Nat)) (k : Nat) : List Nat := word ++ [40] ++ segs m (rows.take k) ++ (if k = 0 ∨ k = rows.length then [10] else [44, 10])
theorem linesA_len (m word : List Nat) (rows : List (List Nat)) (k : Nat) : (linesA m word rows k).length ≤ word.length + (segs m rows).length + 3 := by
  have := segs_take m rows k
  unfold linesA
  simp only [List.length_append, List.length_cons, List.length_nil]
  split <;> simp only [List.length_cons, List.length_nil] <;> omega
theorem linesA_step {m word : List Nat} {rows : List (List Nat)} {k : Nat} {y : List Nat} (hy : rows[k]? = some y) : linesA m word rows k ++ m ++ y ++ (if k + 1 = rows.length then [10] else [44, 10]) = linesA m word rows (k + 1) := by
  have hk := (List.getElem?_eq_some_iff.1 hy).1
  have htk : rows.take (k + 1) = rows.take k ++ [y] := by rw [List.take_add_one, hy]; rfl
  have hnil : (rows.take k = []) ↔ k = 0 := by
    constructor
    · intro h; have := congrArg List.length h; rw [List.length_take, List.length_nil] at this; omega
    · rintro rfl; rfl
  unfold linesA
  rw [htk, segs_snoc]
  by_cases h0 : k = 0
  · subst h0
    rw [if_pos (.inl rfl), if_pos (hnil.2 rfl)]
    by_cases h1 : 0 + 1 = rows.length
    · rw [if_pos h1, if_pos (.inr h1)]; simp
    · rw [if_neg h1, if_neg (by omega)]; simp
  · rw [if_neg (show ¬ (k = 0 ∨ k = rows.length) by omega), if_neg (mt hnil.1 h0)]
    by_cases h1 : k + 1 = rows.length
    · rw [if_pos h1, if_pos (.inr h1)]; simp
    · rw [if_neg h1, if_neg (by omega)]; simp
theorem linesA_end {m word : List Nat} {rows : List (List Nat)} (d : Nat) : linesA m word rows rows.length ++ blanksT d ++ [41] = word ++ [40] ++ segs m rows ++ [10] ++ blanksT d ++ [41] := by
  unfold linesA
  rw [if_pos (.inr rfl), List.take_of_length_le (Nat.le_refl _)]
theorem refLines_any (N : Nat) : ∀ (t : Tm) (B d : Nat) (v : Value) (w : World), t.nodes ≤ N → t.nodes ≤ 200 → builtT t = true → d + t.depth ≤ 50 → RepB w B t v → B ≤ w.heap.size → Calls Try.prog 32 #[v, .string (strOf (blanksT d))] w fun en w' => en = .returned (.string (strOf (linesT d t))) ∧ Grow w w' := by
  induction N with
  | zero => intro t B d v w hN; have := t.nodes_pos; omega
  | succ N ih =>
  intro t B d v w hN h200 hbt hdd hrep hB
  obtain ⟨A, c, A', c', rfl, hv⟩ := hrep.open
  obtain ⟨hh, hexp, hter⟩ := builtT_inv hbt
  obtain ⟨a1, a2, a3⟩ := (headTB_iff _ _ _ _).1 hh
  obtain ⟨p1, p2, p3, p4⟩ := arT_op a1
  have hT := linesT_eq d t
  have hbd := (linesT_bd t.nodes t d (Nat.le_refl _) hbt hdd).1
  have bel := Below.refl w.heap.size w
  have h60 := hv.h60'
  have h61 := hv.h60
  refine Calls.start 71 Try.func32 rfl rfl rfl ?_
  refine Cd.seq ?_
  refine Cd.region ?_
  refine Seq.box rfl rfl rfl rfl rfl ?_
  intro g2 w1 n2
  have e2 := Nat.le_trans bel.size n2.ge
  replace bel := bel.step n2.below
  have k2 := n2.blk
  refine Seq.val (Runs.assign rfl rfl) rfl rfl rfl ?_
  refine Seq.nil ?_
  refine Post.weak (F' := [(0, _), (1, _), (2, _), (4, _)]) ⟨rfl, rfl, rfl, rfl, trivial⟩ ?_
  refine Post.then_ ?_
  refine Cd.seq ?_
  refine Cd.seq ?_
  refine Cd.region ?_
  refine Seq.val (Runs.fieldB 3 rfl rfl Try.underlying57 rfl (by kernel_rfl)) rfl rfl rfl ?_
  refine Seq.val (Runs.loadB rfl rfl Try.underlying27 rfl k2 rfl) rfl rfl rfl ?_
  refine Seq.val (Runs.len rfl rfl Try.underlying27) rfl rfl rfl ?_
  refine Seq.val (Runs.eqlI rfl rfl rfl) rfl rfl rfl ?_
  refine Seq.nil ?_
  refine Post.weak (F' := [(0, _), (1, _), (2, _), (4, _), (12, _)]) ⟨rfl, rfl, rfl, rfl, rfl, trivial⟩ ?_
  refine Post.then_ ?_
  refine Cd.condD rfl (fun h0 => ?_) (fun h0 => ?_)
  · have hnil : t.terms = [] := List.eq_nil_of_length_eq_zero (by omega)
    rw [if_pos hnil] at hT
    have hrec := fun W (hb : Below w.heap.size w W) => refTerm_any t.nodes t B _ W (Nat.le_refl _) h200 hbt (hrep.below (hb.mono hB)) (Nat.le_trans hB hb.size)
    refine Cd.seq ?_
    refine Cd.region ?_
    refine Seq.val (Runs.loadW rfl rfl Try.underlying57 rfl k2 (m := 4) (by kernel_rfl) rfl) rfl rfl rfl ?_
    refine Seq.call (Enters.func rfl rfl rfl (run_enter Try.func31 (by kernel_rfl) rfl)) rfl rfl rfl (hrec _ bel) ?_
    rintro en w6 ⟨rfl, hb6⟩
    refine ⟨_, rfl, ?_⟩
    replace bel := bel.step hb6
    replace k2 := k2.step hb6
    refine Seq.val (Runs.assign rfl rfl) rfl rfl rfl ?_
    refine Seq.nil ?_
    refine Post.weak (F' := [(0, _), (1, _), (2, _), (4, _), (12, _)]) ⟨rfl, rfl, rfl, rfl, rfl, trivial⟩ ?_
    refine Post.then_ ?_
    refine Cd.ret ?_
    refine Post.then_ret ?_
    refine Post.end1 rfl rfl (.inl rfl) ?_
    rw [hT]
    exact ⟨rfl, bel⟩
  have hne : t.terms ≠ [] := fun h => h0 (by rw [h]; rfl)
  have hpos : 0 < t.terms.length := by
    rcases Nat.eq_zero_or_pos t.terms.length with h | h
    · exact absurd (List.eq_nil_of_length_eq_zero h) hne
    · exact h
  rw [if_neg hne] at hT
  rw [hT] at hbd
  simp only [List.length_append, List.length_cons, List.length_nil, blanksT_len] at hbd
  have hlA := linesA_len (blanksT (d + 1)) (wordT t.op) (rowsT d t)
  have hbl1 := blanksT_len (d + 1)
  have hbl0 := blanksT_len d
  have hrl : (rowsT d t).length = t.exprs.length + t.terms.length := by unfold rowsT; simp
  have hwl := (wordT_len t.op).1
  refine Cd.skip ?_
  refine Post.then_ ?_
  refine Cd.seq ?_
  refine Cd.region ?_
  refine Seq.val (Runs.move rfl rfl) rfl rfl rfl ?_
  refine Seq.val (Runs.addL (b := [32, 32]) rfl rfl rfl (by simp only [List.length_cons, List.length_nil]; omega)) rfl rfl rfl ?_
  refine Seq.val (Runs.assign rfl rfl) rfl rfl rfl ?_
  refine Seq.nil ?_
  refine Post.weak (F' := [(0, _), (1, _), (2, _), (4, _), (5, _), (12, _)]) ⟨rfl, rfl, rfl, rfl, rfl, rfl, trivial⟩ ?_
  refine Post.then_ ?_
  refine Cd.seq ?_
  refine Cd.region ?_
  refine Seq.val (Runs.fieldB 0 rfl rfl Try.underlying57 rfl (by kernel_rfl)) rfl rfl rfl ?_
  refine Seq.val (Runs.loadB rfl rfl Try.underlying3 rfl k2 rfl) rfl rfl rfl ?_
  refine Seq.call (Enters.func rfl rfl rfl (run_enter Try.func63 (by kernel_rfl) rfl)) rfl rfl rfl (refWord_any t.op _ p1 p2) ?_
  rintro en w6 ⟨rfl, hb6⟩
  refine ⟨_, rfl, ?_⟩
  replace bel := bel.step hb6
  replace k2 := k2.step hb6
  refine Seq.val (Runs.addL (b := [40, 10]) rfl rfl rfl (by simp only [List.length_cons, List.length_nil]; omega)) rfl rfl rfl ?_
  refine Seq.val (Runs.assign rfl rfl) rfl rfl rfl ?_
  refine Seq.nil ?_
  refine Post.weak (F' := [(0, _), (1, _), (2, _), (4, _), (5, _), (6, _), (12, _)]) ⟨rfl, rfl, rfl, rfl, rfl, rfl, rfl, trivial⟩ ?_
  refine Post.then_ ?_
  refine Cd.seq ?_
  refine Cd.seq ?_
  refine Cd.region ?_
  refine Seq.val (Runs.assign rfl rfl) rfl rfl rfl ?_
  refine Seq.nil ?_
  refine Post.weak (F' := [(0, _), (1, _), (2, _), (4, _), (5, _), (6, _), (7, _), (12, _)]) ⟨rfl, rfl, rfl, rfl, rfl, rfl, rfl, rfl, trivial⟩ ?_
  refine Post.then_ ?_
  refine Cd.block ?_
  refine Cd.loop (σ := Nat) (fun k => [(1, .string (strOf (blanksT d))), (2, .pointer (some ⟨g2, 0, none⟩)), (5, .string (strOf (blanksT (d + 1)))), (6, .string (strOf (linesA (blanksT (d + 1)) (wordT t.op) (rowsT d t) k))), (7, .int .i64 (k : Int))]) (fun k wr => k ≤ t.exprs.length ∧ Below w.heap.size w wr ∧ Blk wr g2 57 #[.int .i64 t.op, .string (strOf t.name), .slice A t.exprs.length c, .slice A' t.terms.length c']) (fun k => t.exprs.length - k) 0 ⟨Nat.zero_le _, bel, k2⟩ ⟨rfl, rfl, congrArg (fun x => some (Value.string (strOf x))) (blanksT_succ d), congrArg (fun x => some (Value.string (strOf x))) (show wordT t.op ++ [40, 10] = linesA (blanksT (d + 1)) (wordT t.op) (rowsT d t) 0 by unfold linesA; simp [segs]), rfl, trivial⟩ ?_
  clear bel k2
  rintro k wr ⟨hk, bel, k2⟩
  refine Cd.seq ?_
  refine Cd.seq ?_
  refine Cd.region ?_
  refine Seq.val (Runs.move rfl rfl) rfl rfl rfl ?_
  refine Seq.val (Runs.fieldB 2 rfl rfl Try.underlying57 rfl (by kernel_rfl)) rfl rfl rfl ?_
  refine Seq.val (Runs.loadB rfl rfl Try.underlying25 rfl k2 rfl) rfl rfl rfl ?_
  refine Seq.val (Runs.len rfl rfl Try.underlying25) rfl rfl rfl ?_
  refine Seq.val (Runs.lss rfl rfl rfl) rfl rfl rfl ?_
  refine Seq.nil ?_
  refine Post.weak (F' := [(1, _), (2, _), (5, _), (6, _), (7, _), (25, _)]) ⟨rfl, rfl, rfl, rfl, rfl, rfl, trivial⟩ ?_
  refine Post.then_ ?_
  refine Cd.condD rfl (fun hc => ?_) (fun hc => ?_)
  · obtain ⟨y, hy⟩ : ∃ y, t.exprs[k]? = some y := ⟨_, List.getElem?_eq_getElem (by omega)⟩
    obtain ⟨ad, Ax, cx, rfl, hbl, hrx, hc⟩ := hv.expr k y hy
    have hxm := List.mem_of_getElem? hy
    have hxn := Tm.expr_nodes hxm
    have hc := fun j u hj => ((bel.mono hB).cell (p := (ad.add (k * 4)).add j) (by rw [block_of_add, block_of_add]; exact hbl)).trans (hc j u hj)
    have hrec := fun W (hb : Below w.heap.size w W) => refExpr_any y.nodes y B _ W (Nat.le_refl _) (by omega) (hexp y hxm) (hrx.below (hb.mono hB)) (Nat.le_trans hB hb.size)
    have hyl := (exprT_bd y.nodes y (Nat.le_refl _) (hexp y hxm)).1
    have hstep := linesA_step (m := blanksT (d + 1)) (word := wordT t.op) (rows := rowsT d t) (k := k) (y := exprT y) (by unfold rowsT; rw [List.getElem?_append_left (by simp; omega), List.getElem?_map, hy]; rfl)
    rw [if_neg (by omega)] at hstep
    have hlk := hlA k
    refine Cd.skip ?_
    refine Post.then_ ?_
    refine Cd.seq ?_
    refine Cd.block ?_
    refine Cd.region ?_
    refine Seq.val (Runs.move rfl rfl) rfl rfl rfl ?_
    refine Seq.val (Runs.move rfl rfl) rfl rfl rfl ?_
    refine Seq.val (Runs.addL rfl rfl rfl (by omega)) rfl rfl rfl ?_
    refine Seq.val (Runs.fieldB 2 rfl rfl Try.underlying57 rfl (by kernel_rfl)) rfl rfl rfl ?_
    refine Seq.val (Runs.loadB rfl rfl Try.underlying25 rfl k2 rfl) rfl rfl rfl ?_
    refine Seq.val (Runs.move rfl rfl) rfl rfl rfl ?_
    refine Seq.val (Runs.indexN rfl rfl rfl Try.underlying25 (s := 4) (by kernel_rfl) (j := k) rfl (by omega)) rfl rfl rfl ?_
    refine Seq.val (Runs.loadF (ps := [.int .i64 y.op, .int .i64 y.n, .string (strOf y.name), .slice Ax y.args.length cx]) rfl rfl Try.underlying35 rfl (m := 4) (by kernel_rfl) rfl hc) rfl rfl rfl ?_
    refine Seq.call (Enters.func rfl rfl rfl (run_enter Try.func17 (by kernel_rfl) rfl)) rfl rfl rfl (hrec _ bel) ?_
    rintro en w6 ⟨rfl, hb6⟩
    refine ⟨_, rfl, ?_⟩
    replace bel := bel.step hb6
    replace k2 := k2.step hb6
    refine Seq.val (Runs.addL rfl rfl rfl (by simp only [List.length_append]; omega)) rfl rfl rfl ?_
    refine Seq.val (Runs.addL (b := [44, 10]) rfl rfl rfl (by simp only [List.length_append, List.length_cons, List.length_nil]; omega)) rfl rfl rfl ?_
    refine Seq.val (Runs.assign rfl rfl) rfl rfl rfl ?_
    refine Seq.nil ?_
    refine Post.weak (F' := [(1, _), (2, _), (5, _), (6, _), (7, _), (25, _)]) ⟨rfl, rfl, rfl, rfl, rfl, rfl, trivial⟩ ?_
    refine Post.block_normal ?_
    refine Post.then_ ?_
    refine Cd.region ?_
    refine Seq.val (Runs.move rfl rfl) rfl rfl rfl ?_
    refine Seq.val (Runs.addI rfl rfl rfl (by omega) (by omega)) rfl rfl rfl ?_
    refine Seq.val (Runs.assign rfl rfl) rfl rfl rfl ?_
    refine Seq.nil ?_
    refine Post.weak (F' := [(1, _), (2, _), (5, _), (6, _), (7, _), (25, _)]) ⟨rfl, rfl, rfl, rfl, rfl, rfl, trivial⟩ ?_
    refine Post.round (k + 1) ⟨rfl, rfl, rfl, congrArg (fun x => some (Value.string (strOf x))) hstep, rfl, trivial⟩ ⟨by omega, bel, k2⟩ (by omega)
  obtain rfl : k = t.exprs.length := by omega
  refine Cd.exit ?_
  refine Post.then_exit ?_
  refine Post.round_exit ?_
  refine Post.block_exit ?_
  refine Post.then_ ?_
  refine Cd.seq ?_
  refine Cd.seq ?_
  refine Cd.region ?_
  refine Seq.val (Runs.assign rfl rfl) rfl rfl rfl ?_
  refine Seq.nil ?_
  refine Post.weak (F' := [(1, _), (2, _), (5, _), (6, _), (7, _), (8, _), (25, _)]) ⟨rfl, rfl, rfl, rfl, rfl, rfl, rfl, trivial⟩ ?_
  refine Post.then_ ?_
  refine Cd.block ?_
  refine Cd.loop (σ := Nat) (fun k => [(1, .string (strOf (blanksT d))), (2, .pointer (some ⟨g2, 0, none⟩)), (5, .string (strOf (blanksT (d + 1)))), (6, .string (strOf (linesA (blanksT (d + 1)) (wordT t.op) (rowsT d t) (t.exprs.length + k)))), (8, .int .i64 (k : Int))]) (fun k wr => k ≤ t.terms.length ∧ Below w.heap.size w wr ∧ Blk wr g2 57 #[.int .i64 t.op, .string (strOf t.name), .slice A t.exprs.length c, .slice A' t.terms.length c']) (fun k => t.terms.length - k) 0 ⟨Nat.zero_le _, bel, k2⟩ ⟨rfl, rfl, rfl, rfl, rfl, trivial⟩ ?_
  clear bel k2
  rintro k wr ⟨hk, bel, k2⟩
  refine Cd.seq ?_
  refine Cd.seq ?_
  refine Cd.region ?_
  refine Seq.val (Runs.move rfl rfl) rfl rfl rfl ?_
  refine Seq.val (Runs.fieldB 3 rfl rfl Try.underlying57 rfl (by kernel_rfl)) rfl rfl rfl ?_
  refine Seq.val (Runs.loadB rfl rfl Try.underlying27 rfl k2 rfl) rfl rfl rfl ?_
  refine Seq.val (Runs.len rfl rfl Try.underlying27) rfl rfl rfl ?_
  refine Seq.val (Runs.lss rfl rfl rfl) rfl rfl rfl ?_
  refine Seq.nil ?_
  refine Post.weak (F' := [(1, _), (2, _), (5, _), (6, _), (8, _), (43, _)]) ⟨rfl, rfl, rfl, rfl, rfl, rfl, trivial⟩ ?_
  refine Post.then_ ?_
  refine Cd.condD rfl (fun hc => ?_) (fun hc => ?_)
  · obtain ⟨y, hy⟩ : ∃ y, t.terms[k]? = some y := ⟨_, List.getElem?_eq_getElem (by omega)⟩
    obtain ⟨ad, A1, A2, d1, d2, rfl, hbl, hrx, hc⟩ := hv.term k y hy
    have hxm := List.mem_of_getElem? hy
    have hxn := Tm.term_nodes hxm
    have hxd := Tm.term_depth hxm
    have hc := fun j u hj => ((bel.mono hB).cell (p := (ad.add (k * 4)).add j) (by rw [block_of_add, block_of_add]; exact hbl)).trans (hc j u hj)
    have hrec := fun W (hb : Below w.heap.size w W) => ih y B (d + 1) _ W (by omega) (by omega) (hter y hxm) (by omega) (hrx.below (hb.mono hB)) (Nat.le_trans hB hb.size)
    have hyl := (linesT_bd y.nodes y (d + 1) (Nat.le_refl _) (hter y hxm) (by omega)).1
    have hstep := linesA_step (m := blanksT (d + 1)) (word := wordT t.op) (rows := rowsT d t) (k := t.exprs.length + k) (y := linesT (d + 1) y) (by unfold rowsT; rw [List.getElem?_append_right (by simp), List.length_map, Nat.add_sub_cancel_left, List.getElem?_map, hy]; rfl)
    have hlk := hlA (t.exprs.length + k)
    refine Cd.skip ?_
    refine Post.then_ ?_
    refine Cd.seq ?_
    refine Cd.block ?_
    refine Cd.seq ?_
    refine Cd.region ?_
    refine Seq.val (Runs.move rfl rfl) rfl rfl rfl ?_
    refine Seq.val (Runs.move rfl rfl) rfl rfl rfl ?_
    refine Seq.val (Runs.addL rfl rfl rfl (by omega)) rfl rfl rfl ?_
    refine Seq.val (Runs.fieldB 3 rfl rfl Try.underlying57 rfl (by kernel_rfl)) rfl rfl rfl ?_
    refine Seq.val (Runs.loadB rfl rfl Try.underlying27 rfl k2 rfl) rfl rfl rfl ?_
    refine Seq.val (Runs.move rfl rfl) rfl rfl rfl ?_
    refine Seq.val (Runs.indexN rfl rfl rfl Try.underlying27 (s := 4) (by kernel_rfl) (j := k) rfl (by omega)) rfl rfl rfl ?_
    refine Seq.val (Runs.loadF (ps := [.int .i64 y.op, .string (strOf y.name), .slice A1 y.exprs.length d1, .slice A2 y.terms.length d2]) rfl rfl Try.underlying57 rfl (m := 4) (by kernel_rfl) rfl hc) rfl rfl rfl ?_
    refine Seq.val (Runs.move rfl rfl) rfl rfl rfl ?_
    refine Seq.call (Enters.func rfl rfl rfl (run_enter Try.func32 (by kernel_rfl) rfl)) rfl rfl rfl (hrec _ bel) ?_
    rintro en w6 ⟨rfl, hb6⟩
    refine ⟨_, rfl, ?_⟩
    replace bel := bel.step hb6
    replace k2 := k2.step hb6
    refine Seq.val (Runs.addL rfl rfl rfl (by simp only [List.length_append]; omega)) rfl rfl rfl ?_
    refine Seq.val (Runs.assign rfl rfl) rfl rfl rfl ?_
    refine Seq.nil ?_
    refine Post.weak (F' := [(1, _), (2, _), (5, _), (6, _), (8, _), (43, _)]) ⟨rfl, rfl, rfl, rfl, rfl, rfl, trivial⟩ ?_
    refine Post.then_ ?_
    refine Cd.seq ?_
    refine Cd.seq ?_
    refine Cd.region ?_
    refine Seq.val (Runs.move rfl rfl) rfl rfl rfl ?_
    refine Seq.val (Runs.fieldB 3 rfl rfl Try.underlying57 rfl (by kernel_rfl)) rfl rfl rfl ?_
    refine Seq.val (Runs.loadB rfl rfl Try.underlying27 rfl k2 rfl) rfl rfl rfl ?_
    refine Seq.val (Runs.len rfl rfl Try.underlying27) rfl rfl rfl ?_
    refine Seq.val (Runs.subI rfl rfl rfl (by omega) (by omega)) rfl rfl rfl ?_
    refine Seq.val (Runs.lss rfl rfl rfl) rfl rfl rfl ?_
    refine Seq.nil ?_
    refine Post.weak (F' := [(1, _), (2, _), (5, _), (6, _), (8, _), (43, _), (62, _)]) ⟨rfl, rfl, rfl, rfl, rfl, rfl, rfl, trivial⟩ ?_
    refine Post.then_ ?_
    refine Cd.condD rfl (fun hl => ?_) (fun hl => ?_)
    · rw [if_neg (by omega)] at hstep
      refine Cd.region ?_
      refine Seq.val (Runs.move rfl rfl) rfl rfl rfl ?_
      refine Seq.val (Runs.addL (b := [44]) rfl rfl rfl (by simp only [List.length_append, List.length_cons, List.length_nil]; omega)) rfl rfl rfl ?_
      refine Seq.val (Runs.assign rfl rfl) rfl rfl rfl ?_
      refine Seq.nil ?_
      refine Post.weak (F' := [(1, _), (2, _), (5, _), (6, _), (8, _), (43, _), (62, _)]) ⟨rfl, rfl, rfl, rfl, rfl, rfl, rfl, trivial⟩ ?_
      refine Post.then_ ?_
      refine Cd.region ?_
      refine Seq.val (Runs.move rfl rfl) rfl rfl rfl ?_
      refine Seq.val (Runs.addL (b := [10]) rfl rfl rfl (by simp only [List.length_append, List.length_cons, List.length_nil]; omega)) rfl rfl rfl ?_
      refine Seq.val (Runs.assign rfl rfl) rfl rfl rfl ?_
      refine Seq.nil ?_
      refine Post.weak (F' := [(1, _), (2, _), (5, _), (6, _), (8, _), (43, _), (62, _)]) ⟨rfl, rfl, rfl, rfl, rfl, rfl, rfl, trivial⟩ ?_
      refine Post.block_normal ?_
      refine Post.then_ ?_
      refine Cd.region ?_
      refine Seq.val (Runs.move rfl rfl) rfl rfl rfl ?_
      refine Seq.val (Runs.addI rfl rfl rfl (by omega) (by omega)) rfl rfl rfl ?_
      refine Seq.val (Runs.assign rfl rfl) rfl rfl rfl ?_
      refine Seq.nil ?_
      refine Post.weak (F' := [(1, _), (2, _), (5, _), (6, _), (8, _), (43, _), (62, _)]) ⟨rfl, rfl, rfl, rfl, rfl, rfl, rfl, trivial⟩ ?_
      refine Post.round (k + 1) ⟨rfl, rfl, rfl, congrArg (fun x => some (Value.string (strOf x))) (by rw [← Nat.add_assoc, ← hstep]; simp), rfl, trivial⟩ ⟨by omega, bel, k2⟩ (by omega)
    · rw [if_pos (by omega)] at hstep
      refine Cd.skip ?_
      refine Post.then_ ?_
      refine Cd.region ?_
      refine Seq.val (Runs.move rfl rfl) rfl rfl rfl ?_
      refine Seq.val (Runs.addL (b := [10]) rfl rfl rfl (by simp only [List.length_append, List.length_cons, List.length_nil]; omega)) rfl rfl rfl ?_
      refine Seq.val (Runs.assign rfl rfl) rfl rfl rfl ?_
      refine Seq.nil ?_
      refine Post.weak (F' := [(1, _), (2, _), (5, _), (6, _), (8, _), (43, _), (62, _)]) ⟨rfl, rfl, rfl, rfl, rfl, rfl, rfl, trivial⟩ ?_
      refine Post.block_normal ?_
      refine Post.then_ ?_
      refine Cd.region ?_
      refine Seq.val (Runs.move rfl rfl) rfl rfl rfl ?_
      refine Seq.val (Runs.addI rfl rfl rfl (by omega) (by omega)) rfl rfl rfl ?_
      refine Seq.val (Runs.assign rfl rfl) rfl rfl rfl ?_
      refine Seq.nil ?_
      refine Post.weak (F' := [(1, _), (2, _), (5, _), (6, _), (8, _), (43, _), (62, _)]) ⟨rfl, rfl, rfl, rfl, rfl, rfl, rfl, trivial⟩ ?_
      refine Post.round (k + 1) ⟨rfl, rfl, rfl, congrArg (fun x => some (Value.string (strOf x))) (by rw [← Nat.add_assoc, ← hstep]), rfl, trivial⟩ ⟨by omega, bel, k2⟩ (by omega)
  · obtain rfl : k = t.terms.length := by omega
    have hlk := hlA (t.exprs.length + t.terms.length)
    have hend := linesA_end (m := blanksT (d + 1)) (word := wordT t.op) (rows := rowsT d t) d
    rw [hrl] at hend
    refine Cd.exit ?_
    refine Post.then_exit ?_
    refine Post.round_exit ?_
    refine Post.block_exit ?_
    refine Post.then_ ?_
    refine Cd.seq ?_
    refine Cd.region ?_
    refine Seq.val (Runs.move rfl rfl) rfl rfl rfl ?_
    refine Seq.val (Runs.move rfl rfl) rfl rfl rfl ?_
    refine Seq.val (Runs.addL rfl rfl rfl (by omega)) rfl rfl rfl ?_
    refine Seq.val (Runs.addL (b := [41]) rfl rfl rfl (by simp only [List.length_append, List.length_cons, List.length_nil]; omega)) rfl rfl rfl ?_
    refine Seq.val (Runs.assign rfl rfl) rfl rfl rfl ?_
    refine Seq.nil ?_
    refine Post.weak (F' := [(1, _), (2, _), (4, _), (5, _), (6, _), (8, _), (43, _)]) ⟨rfl, rfl, rfl, rfl, rfl, rfl, rfl, trivial⟩ ?_
    refine Post.then_ ?_
    refine Cd.ret ?_
    refine Post.end1 rfl rfl (.inl rfl) ?_
    rw [hT, ← hend]
    exact ⟨rfl, bel⟩
end Go.Proofs.Ytijaldpmpjapiaa

namespace Go.Proofs.Ytijaldpmpjapiaa
open Go.RowKit

theorem mul2_any (d : Nat) (w : World) (hd : d ≤ 60) : Calls Try.prog 145 #[.int .u64 2, .int .u64 (d : Int)] w fun e w' => e = .returned (.tuple #[.int .u64 0, .int .u64 ((2 * d : Nat) : Int)]) ∧ w = w' := by
  have hm := mul64_any 2 (d : Int) w (by omega) (by omega) (by omega) (by omega)
  have e1 : hiW 2 (d : Int) = 0 := by unfold hiW; omega
  have e2 : loW 2 (d : Int) = ((2 * d : Nat) : Int) := by unfold loW; omega
  rw [e1, e2] at hm
  refine Calls.start 30 Try.func145 rfl rfl rfl ?_
  refine Cd.seq ?_
  refine Cd.region ?_
  refine Seq.val (Runs.assign rfl rfl) rfl rfl rfl ?_
  refine Seq.val (Runs.assign rfl rfl) rfl rfl rfl ?_
  refine Seq.nil ?_
  refine Post.weak (F' := [(0, _), (1, _), (4, _), (5, _)]) ⟨rfl, rfl, rfl, rfl, trivial⟩ ?_
  refine Post.then_ ?_
  refine Cd.seq ?_
  refine Cd.condF rfl rfl ?_
  refine Cd.skip ?_
  refine Post.then_ ?_
  refine Cd.seq ?_
  refine Cd.region ?_
  refine Seq.val (Runs.move rfl rfl) rfl rfl rfl ?_
  refine Seq.val (Runs.move rfl rfl) rfl rfl rfl ?_
  refine Seq.call (Enters.func rfl rfl rfl (run_enter Try.func168 (by kernel_rfl) rfl)) rfl rfl rfl (hm) ?_
  rintro e w2 ⟨rfl, rfl⟩
  refine ⟨_, rfl, ?_⟩
  refine Seq.val (Runs.move rfl rfl) rfl rfl rfl ?_
  refine Seq.val (Runs.extract rfl rfl rfl) rfl rfl rfl ?_
  refine Seq.val (Runs.extract rfl rfl rfl) rfl rfl rfl ?_
  refine Seq.val (Runs.assign rfl rfl) rfl rfl rfl ?_
  refine Seq.val (Runs.assign rfl rfl) rfl rfl rfl ?_
  refine Seq.nil ?_
  refine Post.weak (F' := [(0, _), (1, _), (4, _), (5, _), (8, _), (9, _)]) ⟨rfl, rfl, rfl, rfl, rfl, rfl, trivial⟩ ?_
  refine Post.then_ ?_
  refine Cd.seq ?_
  refine Cd.region ?_
  refine Seq.val (Runs.move rfl rfl) rfl rfl rfl ?_
  refine Seq.val (Runs.move rfl rfl) rfl rfl rfl ?_
  refine Seq.val (Runs.assign rfl rfl) rfl rfl rfl ?_
  refine Seq.val (Runs.assign rfl rfl) rfl rfl rfl ?_
  refine Seq.nil ?_
  refine Post.weak (F' := [(0, _), (1, _), (4, _), (5, _), (8, _), (9, _)]) ⟨rfl, rfl, rfl, rfl, rfl, rfl, trivial⟩ ?_
  refine Post.then_ ?_
  refine Cd.ret ?_
  refine Post.end2 rfl rfl rfl (.inl rfl) ?_
  exact ⟨rfl, rfl⟩
def blanks128 : List Nat := List.replicate 128 32
theorem repeat_any (d : Nat) (w : World) (hd : d ≤ 60) : Calls Try.prog 104 #[.string (strOf [32, 32]), .int .i64 (d : Int)] w fun e w' => e = .returned (.string (strOf (blanksT d))) ∧ Grow w w' := by
  have bel := Below.refl w.heap.size w
  have hpre : ∀ s : ByteArray, s = strOf blanks128 → Calls Try.prog 93 #[.string s, .string (strOf [32, 32])] w fun e w' => e = .returned (.bool true) ∧ Grow w w' := fun s hs => by
    have h := hasPrefixL_any blanks128 [32, 32] w (fun x hx => by rw [(List.mem_replicate.1 hx).2]; decide) (by decide)
    rw [decide_eq_true (by decide)] at h
    rw [hs]
    exact h.mono fun e w' hr => ⟨hr.1, hr.2 ▸ Below.refl _ _⟩
  have htk : blanks128.take (2 * d) = blanksT d := by
    unfold blanks128 blanksT
    rw [List.take_replicate, Nat.min_eq_left (by omega)]
  refine Calls.start 125 Try.func104 rfl rfl rfl ?_
  refine Cd.seq ?_
  refine Cd.region ?_
  refine Seq.val (Runs.assign rfl rfl) rfl rfl rfl ?_
  refine Seq.nil ?_
  refine Post.weak (F' := [(0, _), (1, _), (4, _)]) ⟨rfl, rfl, rfl, trivial⟩ ?_
  refine Post.then_ ?_
  refine Cd.seq ?_
  refine Cd.seq ?_
  refine Cd.region ?_
  refine Seq.val (Runs.move rfl rfl) rfl rfl rfl ?_
  refine Seq.nil ?_
  refine Post.weak (F' := [(0, _), (1, _), (4, _), (11, _)]) ⟨rfl, rfl, rfl, rfl, trivial⟩ ?_
  refine Post.then_ ?_
  refine Cd.block ?_
  refine Cd.seq ?_
  refine Cd.region ?_
  refine Seq.val (Runs.eqlI rfl rfl rfl) rfl rfl rfl ?_
  refine Seq.val (Runs.assign rfl rfl) rfl rfl rfl ?_
  refine Seq.nil ?_
  refine Post.weak (F' := [(0, _), (1, _), (4, _), (11, _), (12, _)]) ⟨rfl, rfl, rfl, rfl, rfl, trivial⟩ ?_
  refine Post.then_ ?_
  refine Cd.condD rfl (fun h0 => ?_) (fun h0 => ?_)
  · obtain rfl : d = 0 := by omega
    refine Cd.seq ?_
    refine Cd.region ?_
    refine Seq.val (Runs.assign rfl rfl) rfl rfl rfl ?_
    refine Seq.nil ?_
    refine Post.weak (F' := [(0, _), (1, _), (4, _), (11, _), (12, _)]) ⟨rfl, rfl, rfl, rfl, rfl, trivial⟩ ?_
    refine Post.then_ ?_
    refine Cd.ret ?_
    refine Post.block_ret ?_
    refine Post.then_ret ?_
    refine Post.end1 rfl rfl (.inl rfl) ?_
    exact ⟨rfl, bel⟩
  refine Cd.seq ?_
  refine Cd.region ?_
  refine Seq.val (Runs.eqlI rfl rfl rfl) rfl rfl rfl ?_
  refine Seq.val (Runs.assign rfl rfl) rfl rfl rfl ?_
  refine Seq.nil ?_
  refine Post.weak (F' := [(0, _), (1, _), (4, _), (11, _), (12, _), (14, _)]) ⟨rfl, rfl, rfl, rfl, rfl, rfl, trivial⟩ ?_
  refine Post.then_ ?_
  refine Cd.condD rfl (fun h1 => ?_) (fun h1 => ?_)
  · obtain rfl : d = 1 := by omega
    refine Cd.seq ?_
    refine Cd.region ?_
    refine Seq.val (Runs.move rfl rfl) rfl rfl rfl ?_
    refine Seq.val (Runs.assign rfl rfl) rfl rfl rfl ?_
    refine Seq.nil ?_
    refine Post.weak (F' := [(0, _), (1, _), (4, _), (11, _), (12, _), (14, _)]) ⟨rfl, rfl, rfl, rfl, rfl, rfl, trivial⟩ ?_
    refine Post.then_ ?_
    refine Cd.ret ?_
    refine Post.block_ret ?_
    refine Post.then_ret ?_
    refine Post.end1 rfl rfl (.inl rfl) ?_
    exact ⟨rfl, bel⟩
  refine Cd.skip ?_
  refine Post.block_normal ?_
  refine Post.then_ ?_
  refine Cd.seq ?_
  refine Cd.seq ?_
  refine Cd.region ?_
  refine Seq.val (Runs.move rfl rfl) rfl rfl rfl ?_
  refine Seq.val (Runs.lss rfl rfl rfl) rfl rfl rfl ?_
  refine Seq.nil ?_
  refine Post.weak (F' := [(0, _), (1, _), (4, _), (11, _), (12, _), (14, _), (18, _)]) ⟨rfl, rfl, rfl, rfl, rfl, rfl, rfl, trivial⟩ ?_
  refine Post.then_ ?_
  refine Cd.condF rfl (decide_eq_false (by omega)) ?_
  refine Cd.skip ?_
  refine Post.then_ ?_
  refine Cd.seq ?_
  refine Cd.region ?_
  refine Seq.val (Runs.move rfl rfl) rfl rfl rfl ?_
  refine Seq.val (Runs.lenL rfl rfl Try.underlying9) rfl rfl rfl ?_
  refine Seq.val (Runs.convI (r := 2) rfl rfl Try.underlying3 Try.underlying63 (by decide)) rfl rfl rfl ?_
  refine Seq.val (Runs.move rfl rfl) rfl rfl rfl ?_
  refine Seq.val (Runs.convI (r := (d : Int)) rfl rfl Try.underlying3 Try.underlying63 (wrapU (by omega) (by omega))) rfl rfl rfl ?_
  refine Seq.call (Enters.func rfl rfl rfl (run_enter Try.func145 (by kernel_rfl) rfl)) rfl rfl rfl (mul2_any d _ hd) ?_
  rintro e w2 ⟨rfl, rfl⟩
  refine ⟨_, rfl, ?_⟩
  refine Seq.val (Runs.move rfl rfl) rfl rfl rfl ?_
  refine Seq.val (Runs.extract rfl rfl rfl) rfl rfl rfl ?_
  refine Seq.val (Runs.extract rfl rfl rfl) rfl rfl rfl ?_
  refine Seq.val (Runs.assign rfl rfl) rfl rfl rfl ?_
  refine Seq.val (Runs.assign rfl rfl) rfl rfl rfl ?_
  refine Seq.nil ?_
  refine Post.weak (F' := [(0, _), (1, _), (4, _), (5, _), (6, _), (11, _), (12, _), (14, _), (18, _)]) ⟨rfl, rfl, rfl, rfl, rfl, rfl, rfl, rfl, rfl, trivial⟩ ?_
  refine Post.then_ ?_
  refine Cd.seq ?_
  refine Cd.seq ?_
  refine Cd.region ?_
  refine Seq.val (Runs.move rfl rfl) rfl rfl rfl ?_
  refine Seq.val (Runs.gtr rfl rfl rfl) rfl rfl rfl ?_
  refine Seq.val (Runs.move rfl rfl) rfl rfl rfl ?_
  refine SeqC.start ?_
  refine SeqC.open rfl rfl rfl rfl rfl rfl rfl (fun hcx => Runs.move rfl rfl) ?_
  refine SeqC.next rfl rfl rfl rfl rfl rfl rfl (fun hcx => Runs.gtr rfl rfl rfl) ?_
  refine SeqC.or rfl rfl rfl rfl rfl rfl rfl ?_
  refine Seq.nil ?_
  refine Post.weak (F' := [(0, _), (1, _), (4, _), (5, _), (6, _), (11, _), (12, _), (14, _), (18, _), (34, _)]) ⟨rfl, rfl, rfl, rfl, rfl, rfl, rfl, rfl, rfl, rfl, trivial⟩ ?_
  refine Post.then_ ?_
  refine Cd.condF rfl (by simp; omega) ?_
  refine Cd.skip ?_
  refine Post.then_ ?_
  refine Cd.seq ?_
  refine Cd.region ?_
  refine Seq.val (Runs.move rfl rfl) rfl rfl rfl ?_
  refine Seq.val (Runs.convI (r := ((2 * d : Nat) : Int)) rfl rfl Try.underlying63 Try.underlying3 (wrapI (by omega) (by omega))) rfl rfl rfl ?_
  refine Seq.val (Runs.assign rfl rfl) rfl rfl rfl ?_
  refine Seq.nil ?_
  refine Post.weak (F' := [(0, _), (1, _), (4, _), (5, _), (6, _), (7, _), (11, _), (12, _), (14, _), (18, _), (34, _)]) ⟨rfl, rfl, rfl, rfl, rfl, rfl, rfl, rfl, rfl, rfl, rfl, trivial⟩ ?_
  refine Post.then_ ?_
  refine Cd.seq ?_
  refine Cd.seq ?_
  refine Cd.region ?_
  refine Seq.val (Runs.move rfl rfl) rfl rfl rfl ?_
  refine Seq.val (Runs.lenL rfl rfl Try.underlying9) rfl rfl rfl ?_
  refine Seq.val (Runs.eqlI rfl rfl rfl) rfl rfl rfl ?_
  refine Seq.nil ?_
  refine Post.weak (F' := [(0, _), (1, _), (4, _), (5, _), (6, _), (7, _), (11, _), (12, _), (14, _), (18, _), (34, _), (40, _)]) ⟨rfl, rfl, rfl, rfl, rfl, rfl, rfl, rfl, rfl, rfl, rfl, rfl, trivial⟩ ?_
  refine Post.then_ ?_
  refine Cd.condF rfl (by decide) ?_
  refine Cd.skip ?_
  refine Post.then_ ?_
  refine Cd.seq ?_
  refine Cd.seq ?_
  refine Cd.region ?_
  refine Seq.val (Runs.move rfl rfl) rfl rfl rfl ?_
  refine Seq.val (Runs.indexL (l := [32, 32]) (j := 0) (c := 32) rfl rfl rfl Try.underlying9 rfl rfl (by decide)) rfl rfl rfl ?_
  refine Seq.nil ?_
  refine Post.weak (F' := [(0, _), (1, _), (4, _), (5, _), (6, _), (7, _), (11, _), (12, _), (14, _), (18, _), (34, _), (40, _), (42, _)]) ⟨rfl, rfl, rfl, rfl, rfl, rfl, rfl, rfl, rfl, rfl, rfl, rfl, rfl, trivial⟩ ?_
  refine Post.then_ ?_
  refine Cd.block ?_
  refine Cd.seq ?_
  refine Cd.seq ?_
  refine Cd.region ?_
  refine Seq.val (Runs.eqlI rfl rfl rfl) rfl rfl rfl ?_
  refine Seq.val (Runs.assign rfl rfl) rfl rfl rfl ?_
  refine Seq.nil ?_
  refine Post.weak (F' := [(0, _), (1, _), (4, _), (5, _), (6, _), (7, _), (11, _), (12, _), (14, _), (18, _), (34, _), (40, _), (42, _), (43, _)]) ⟨rfl, rfl, rfl, rfl, rfl, rfl, rfl, rfl, rfl, rfl, rfl, rfl, rfl, rfl, trivial⟩ ?_
  refine Post.then_ ?_
  refine Cd.condT rfl (by decide) ?_
  refine Cd.skip ?_
  refine Post.then_ ?_
  refine Cd.condT rfl (by decide) ?_
  refine Cd.block ?_
  refine Cd.seq ?_
  refine Cd.region ?_
  refine Seq.val (Runs.move rfl rfl) rfl rfl rfl ?_
  refine Seq.val (Runs.leq rfl rfl rfl) rfl rfl rfl ?_
  refine Seq.val (Runs.move rfl rfl) rfl rfl rfl ?_
  refine SeqC.start ?_
  refine SeqC.open rfl rfl rfl rfl rfl rfl rfl (fun hcx => Runs.move rfl rfl) ?_
  refine SeqC.nextC rfl rfl rfl rfl rfl rfl rfl (fun hcx => Enters.func rfl rfl rfl (run_enter Try.func93 (by kernel_rfl) rfl)) (fun hcx => hpre _ (by kernel_rfl)) ?_
  intro w1 hw1
  replace bel := bel.step hw1
  refine SeqC.and rfl rfl rfl rfl rfl rfl rfl ?_
  refine Seq.val (Runs.assign rfl rfl) rfl rfl rfl ?_
  refine Seq.nil ?_
  refine Post.weak (F' := [(0, _), (1, _), (4, _), (5, _), (6, _), (7, _), (11, _), (12, _), (14, _), (18, _), (34, _), (40, _), (42, _), (43, _), (49, _)]) ⟨rfl, rfl, rfl, rfl, rfl, rfl, rfl, rfl, rfl, rfl, rfl, rfl, rfl, rfl, rfl, trivial⟩ ?_
  refine Post.then_ ?_
  refine Cd.condT rfl (by simp; omega) ?_
  refine Cd.seq ?_
  refine Cd.region ?_
  refine Seq.val (Runs.move rfl rfl) rfl rfl rfl ?_
  refine Seq.val (Runs.sliceTo (l := blanks128) (j := 2 * d) rfl (by kernel_rfl) rfl Try.underlying9 rfl (by unfold blanks128; rw [List.length_replicate]; omega)) rfl rfl rfl ?_
  refine Seq.val (Runs.assign rfl rfl) rfl rfl rfl ?_
  refine Seq.nil ?_
  refine Post.weak (F' := [(0, _), (1, _), (4, _), (5, _), (6, _), (7, _), (11, _), (12, _), (14, _), (18, _), (34, _), (40, _), (42, _), (43, _), (49, _)]) ⟨rfl, rfl, rfl, rfl, rfl, rfl, rfl, rfl, rfl, rfl, rfl, rfl, rfl, rfl, rfl, trivial⟩ ?_
  refine Post.then_ ?_
  refine Cd.ret ?_
  refine Post.block_ret ?_
  refine Post.block_ret ?_
  refine Post.then_ret ?_
  refine Post.end1 rfl rfl (.inl rfl) ?_
  rw [htk]
  exact ⟨rfl, bel⟩
end Go.Proofs.Ytijaldpmpjapiaa

namespace Go.Proofs.Ytijaldpmpjapiaa
open Go.RowKit

/-- What is written of a part, by what writes the terms within. -/
theorem part_term (B g i : Nat) (t : Tm) (A A' : Option Addr) (c c' f : Nat) (fst cp : List Value) (bs T : List Nat) (W : World) (hv : RepTV W B t A A') (h200 : t.nodes ≤ 200) (hbt : builtT t = true) (wr : Bw W B g bs) (hl : bs.length ≤ 60000000)
    (eg : ∀ args w, (callFunc f args).run Try.prog w = .ok (.enter f args) w) (hi : i < t.exprs.length + t.terms.length)
    (hT : ∀ x, t.exprs[i]? = some x → T = exprT x)
    (hS : ∀ k x A1 A2 c1 c2, t.terms[k]? = some x → i = t.exprs.length + k → ∀ W', Wt B W W' → RepB W' B x (.agg (tmV x A1 A2 c1 c2).toArray) → Bw W' B g bs → Calls Try.prog f (fst ++ [Value.agg (tmV x A1 A2 c1 c2).toArray] ++ cp).toArray W' (WrRet B g (bs ++ T) W')) :
    Calls Try.prog 102 #[.pointer (some ⟨g, 0, none⟩), .agg #[.int .i64 t.op, .string (strOf t.name), .slice A t.exprs.length c, .slice A' t.terms.length c'], .int .i64 (i : Int), .func (.func f) fst.toArray cp.toArray] W (WrRet B g (bs ++ T) W) := by
  obtain ⟨hh, hexp, hter⟩ := builtT_inv hbt
  have hBW := wr.size
  have h60 := hv.h60
  have h61 := hv.h60'
  have wt := Wt.refl B W
  refine Calls.start 31 Try.func102 rfl rfl rfl ?_
  refine Cd.seq ?_
  refine Cd.region ?_
  refine Seq.box rfl rfl rfl rfl rfl ?_
  intro g5 w1 n5
  replace wt := wt.step n5.below
  replace wr := wr.step n5.below
  have k5 := n5.blk
  refine Seq.nil ?_
  refine Post.weak (F' := [(0, _), (1, _), (2, _), (3, _), (5, _)]) ⟨rfl, rfl, rfl, rfl, rfl, trivial⟩ ?_
  refine Post.then_ ?_
  refine Cd.seq ?_
  refine Cd.seq ?_
  refine Cd.region ?_
  refine Seq.val (Runs.move rfl rfl) rfl rfl rfl ?_
  refine Seq.val (Runs.fieldB 2 rfl rfl Try.underlying57 rfl (by kernel_rfl)) rfl rfl rfl ?_
  refine Seq.val (Runs.loadB rfl rfl Try.underlying25 rfl k5 rfl) rfl rfl rfl ?_
  refine Seq.val (Runs.len rfl rfl Try.underlying25) rfl rfl rfl ?_
  refine Seq.val (Runs.lss rfl rfl rfl) rfl rfl rfl ?_
  refine Seq.nil ?_
  refine Post.weak (F' := [(0, _), (1, _), (2, _), (3, _), (5, _), (12, _)]) ⟨rfl, rfl, rfl, rfl, rfl, rfl, trivial⟩ ?_
  refine Post.then_ ?_
  refine Cd.condD rfl (fun hc => ?_) (fun hc => ?_)
  · obtain ⟨y, hy⟩ : ∃ y, t.exprs[i]? = some y := ⟨_, List.getElem?_eq_getElem (by omega)⟩
    obtain ⟨ad, Ax, cx, rfl, hbl, hrx, hce⟩ := hv.expr i y hy
    have hxm := List.mem_of_getElem? hy
    have hxn := Tm.expr_nodes hxm
    have hxd := y.depth_nodes
    have hce := fun j u hj => ((wt.to hBW).cell (p := (ad.add (i * 4)).add j) (by rw [block_of_add, block_of_add]; exact hbl)).trans (hce j u hj)
    have hex := exprW_any y.nodes y B g bs _ 1 _ (Nat.le_refl _) (by omega) (hexp y hxm) (hrx.below (wt.to hBW)) wr (by unfold I64; omega) (by omega)
    rw [inT_one, ← hT y hy] at hex
    refine Cd.seq ?_
    refine Cd.region ?_
    refine Seq.val (Runs.move rfl rfl) rfl rfl rfl ?_
    refine Seq.val (Runs.fieldB 2 rfl rfl Try.underlying57 rfl (by kernel_rfl)) rfl rfl rfl ?_
    refine Seq.val (Runs.loadB rfl rfl Try.underlying25 rfl k5 rfl) rfl rfl rfl ?_
    refine Seq.val (Runs.move rfl rfl) rfl rfl rfl ?_
    refine Seq.val (Runs.indexN rfl rfl rfl Try.underlying25 (s := 4) (by kernel_rfl) (j := i) rfl (by omega)) rfl rfl rfl ?_
    refine Seq.val (Runs.loadF (ps := [.int .i64 y.op, .int .i64 y.n, .string (strOf y.name), .slice Ax y.args.length cx]) rfl rfl Try.underlying35 rfl (m := 4) (by kernel_rfl) rfl hce) rfl rfl rfl ?_
    refine Seq.call (Enters.func rfl rfl rfl (run_enter Try.func43 (by kernel_rfl) rfl)) rfl rfl rfl (hex) ?_
    clear wr
    rintro e w2 ⟨⟨_, rfl⟩, fw2, wr⟩
    refine ⟨_, rfl, ?_⟩
    replace wt := wt.wt fw2
    refine Seq.nil ?_
    refine Post.weak (F' := [(0, _), (1, _), (2, _), (3, _), (5, _), (12, _)]) ⟨rfl, rfl, rfl, rfl, rfl, rfl, trivial⟩ ?_
    refine Post.then_ ?_
    refine Cd.ret ?_
    refine Post.then_ret ?_
    refine Post.end0 rfl (.inl rfl) ?_
    exact ⟨⟨_, rfl⟩, wt, wr⟩
  · obtain ⟨k, rfl⟩ : ∃ k, i = t.exprs.length + k := ⟨i - t.exprs.length, by omega⟩
    obtain ⟨y, hy⟩ : ∃ y, t.terms[k]? = some y := ⟨_, List.getElem?_eq_getElem (by omega)⟩
    obtain ⟨ad, A1, A2, d1, d2, rfl, hbl, hrx, hce⟩ := hv.term k y hy
    have hce := fun j u hj => ((wt.to hBW).cell (p := (ad.add (k * 4)).add j) (by rw [block_of_add, block_of_add]; exact hbl)).trans (hce j u hj)
    have hsub := hS k y A1 A2 d1 d2 hy rfl _ wt (hrx.below (wt.to hBW)) wr
    refine Cd.skip ?_
    refine Post.then_ ?_
    refine Cd.region ?_
    refine Seq.val (Runs.move rfl rfl) rfl rfl rfl ?_
    refine Seq.val (Runs.fieldB 3 rfl rfl Try.underlying57 rfl (by kernel_rfl)) rfl rfl rfl ?_
    refine Seq.val (Runs.loadB rfl rfl Try.underlying27 rfl k5 rfl) rfl rfl rfl ?_
    refine Seq.val (Runs.move rfl rfl) rfl rfl rfl ?_
    refine Seq.val (Runs.fieldB 2 rfl rfl Try.underlying57 rfl (by kernel_rfl)) rfl rfl rfl ?_
    refine Seq.val (Runs.loadB rfl rfl Try.underlying25 rfl k5 rfl) rfl rfl rfl ?_
    refine Seq.val (Runs.len rfl rfl Try.underlying25) rfl rfl rfl ?_
    refine Seq.val (Runs.subI rfl rfl rfl (by omega) (by omega)) rfl rfl rfl ?_
    refine Seq.val (Runs.indexN rfl rfl rfl Try.underlying27 (s := 4) (by kernel_rfl) (j := k) (by omega) (by omega)) rfl rfl rfl ?_
    refine Seq.val (Runs.loadF (ps := [.int .i64 y.op, .string (strOf y.name), .slice A1 y.exprs.length d1, .slice A2 y.terms.length d2]) rfl rfl Try.underlying57 rfl (m := 4) (by kernel_rfl) rfl hce) rfl rfl rfl ?_
    refine Seq.call (Enters.value (first := fst) (cap := cp) rfl rfl rfl eg) rfl rfl rfl hsub ?_
    clear wr
    rintro e w9 ⟨⟨_, rfl⟩, f9, wr⟩
    refine ⟨_, rfl, ?_⟩
    replace wt := wt.wt f9
    refine Seq.nil ?_
    refine Post.weak (F' := [(0, _), (1, _), (2, _), (3, _), (5, _), (12, _)]) ⟨rfl, rfl, rfl, rfl, rfl, rfl, trivial⟩ ?_
    refine Post.end0 rfl (.inr rfl) ?_
    exact ⟨⟨_, rfl⟩, wt, wr⟩
theorem eg_term : ∀ args w, (callFunc 59 args).run Try.prog w = .ok (.enter 59 args) w := fun args w => run_enter Try.func59 (by kernel_rfl) rfl args w
theorem eg_term1 : ∀ args w, (callFunc 101 args).run Try.prog w = .ok (.enter 101 args) w := fun args w => run_enter Try.func101 (by kernel_rfl) rfl args w
/-- What is known of the terms within. -/
def RecT (B g L : Nat) (t : Tm) : Prop := ∀ (x : Tm) (A1 A2 : Option Addr) (c1 c2 : Nat), x ∈ t.terms → ∀ (W : World) (bs' : List Nat), RepB W B x (.agg (tmV x A1 A2 c1 c2).toArray) → Bw W B g bs' → bs'.length ≤ L → Calls Try.prog 59 #[.pointer (some ⟨g, 0, none⟩), .agg (tmV x A1 A2 c1 c2).toArray] W (WrRet B g (bs' ++ termT x) W)
def rowsP (t : Tm) : List (List Nat) := t.exprs.map exprT ++ t.terms.map termT
theorem rowsP_expr {t : Tm} {i : Nat} {x : Ex} (h : t.exprs[i]? = some x) : (rowsP t)[i]? = some (exprT x) := by
  have := (List.getElem?_eq_some_iff.1 h).1
  unfold rowsP
  rw [List.getElem?_append_left (by simp; omega), List.getElem?_map, h]; rfl
theorem rowsP_term {t : Tm} {k : Nat} {x : Tm} (h : t.terms[k]? = some x) : (rowsP t)[t.exprs.length + k]? = some (termT x) := by
  unfold rowsP
  rw [List.getElem?_append_right (by simp), List.length_map, Nat.add_sub_cancel_left, List.getElem?_map, h]; rfl
theorem termArg_of (B g L g2 g3 i c c' : Nat) (A A' : Option Addr) (t : Tm) (bs T : List Nat) (w W : World) (h : RecT B g L t) (hv : RepTV w B t A A') (h200 : t.nodes ≤ 200) (hbt : builtT t = true) (hb : Below B w W) (k2 : Blk W g2 77 #[.pointer (some ⟨g, 0, none⟩)]) (k3 : Blk W g3 57 #[.int .i64 t.op, .string (strOf t.name), .slice A t.exprs.length c, .slice A' t.terms.length c']) (wr : Bw W B g bs) (hL : bs.length ≤ L) (hL2 : L ≤ 60000000) (hT : (rowsP t)[i]? = some T) :
    Calls Try.prog 101 #[.int .i64 (i : Int), .pointer (some ⟨g2, 0, none⟩), .pointer (some ⟨g3, 0, none⟩)] W (WrRet B g (bs ++ T) W) := by
  have hBW := wr.size
  have hi := (List.getElem?_eq_some_iff.1 hT).1
  have hi : i < t.exprs.length + t.terms.length := by unfold rowsP at hi; simpa using hi
  have hpart := part_term B g i t A A' c c' 59 [.pointer (some ⟨g, 0, none⟩)] [] bs T W (hv.below hb) h200 hbt wr (by omega) eg_term hi
    (fun x hx => by rw [rowsP_expr hx] at hT; injection hT with hT; exact hT.symm)
    (fun k x A1 A2 c1 c2 hx hik W' hb' hr hw => by
      subst hik
      rw [rowsP_term hx] at hT
      injection hT with hT
      subst hT
      exact h x A1 A2 c1 c2 (List.mem_of_getElem? hx) W' bs hr hw hL)
  have wt := Wt.refl B W
  refine Calls.start 10 Try.func101 rfl rfl rfl ?_
  refine Cd.region ?_
  refine Seq.val (Runs.loadB rfl rfl Try.underlying77 rfl k2 rfl) rfl rfl rfl ?_
  refine Seq.val (Runs.loadW rfl rfl Try.underlying57 rfl k3 (m := 4) (by kernel_rfl) rfl) rfl rfl rfl ?_
  refine Seq.val (Runs.move rfl rfl) rfl rfl rfl ?_
  refine Seq.val (Runs.loadB rfl rfl Try.underlying77 rfl k2 rfl) rfl rfl rfl ?_
  refine Seq.val (Runs.makeFunc (v := .func (.func 59) #[.pointer (some ⟨g, 0, none⟩)] #[]) rfl (show evL _ _ = some [.pointer (some ⟨g, 0, none⟩)] from rfl) (show evL _ _ = some [] from rfl) rfl) rfl rfl rfl ?_
  refine Seq.call (Enters.func rfl rfl rfl (run_enter Try.func102 (by kernel_rfl) rfl)) rfl rfl rfl (hpart) ?_
  clear wr
  rintro e w1 ⟨⟨_, rfl⟩, fw1, wr⟩
  refine ⟨_, rfl, ?_⟩
  replace wt := wt.wt fw1
  refine Seq.nil ?_
  refine Post.weak (F' := [(0, _), (1, _), (2, _)]) ⟨rfl, rfl, rfl, trivial⟩ ?_
  refine Post.end0 rfl (.inr rfl) ?_
  exact ⟨⟨_, rfl⟩, wt, wr⟩
theorem termW_any (N : Nat) : ∀ (t : Tm) (B g : Nat) (bs : List Nat) (v : Value) (w : World), t.nodes ≤ N → t.nodes ≤ 200 → builtT t = true → RepB w B t v → Bw w B g bs → bs.length + 100000 * t.depth ≤ 50000000 →
    Calls Try.prog 59 #[.pointer (some ⟨g, 0, none⟩), v] w (WrRet B g (bs ++ termT t) w) := by
  induction N with
  | zero => intro t B g bs v w hN; have := t.nodes_pos; omega
  | succ N ih =>
  intro t B g bs v w hN h200 hbt hrep hbw hbs
  obtain ⟨A, c, A', c', rfl, hv⟩ := hrep.open
  obtain ⟨hh, hexp, hter⟩ := builtT_inv hbt
  obtain ⟨a1, a2, a3⟩ := (headTB_iff _ _ _ _).1 hh
  obtain ⟨p1, p2, p3, p4⟩ := arT_op a1
  have hBW := hbw.size
  have hT := termT_eq t
  have hbd := termT_bd t.nodes t (Nat.le_refl _) hbt
  have h60 := hv.h60
  have h61 := hv.h60'
  have hrec : RecT B g (bs.length + 60000) t := fun x A1 A2 c1 c2 hx W bs' hr hw hl => by
    have hnd := Tm.term_nodes hx
    have hdp := Tm.term_depth hx
    exact ih x B g bs' _ W (by omega) (by omega) (hter x hx) hr hw (by omega)
  have wt := Wt.refl B w
  have wr := hbw
  refine Calls.start 35 Try.func59 rfl rfl rfl ?_
  refine Cd.seq ?_
  refine Cd.region ?_
  refine Seq.box rfl rfl rfl rfl rfl ?_
  intro g2 w1 n2
  replace wt := wt.step n2.below
  replace wr := wr.step n2.below
  have k2 := n2.blk
  refine Seq.box rfl rfl rfl rfl rfl ?_
  intro g3 w2 n3
  have l3 := Nat.lt_of_lt_of_le k2.lt n3.ge
  replace wt := wt.step n3.below
  replace wr := wr.step n3.below
  replace k2 := k2.step n3.below
  have k3 := n3.blk
  refine Seq.nil ?_
  refine Post.weak (F' := [(0, _), (1, _), (2, _), (3, _)]) ⟨rfl, rfl, rfl, rfl, trivial⟩ ?_
  refine Post.then_ ?_
  refine Cd.seq ?_
  refine Cd.region ?_
  refine Seq.val (Runs.fieldB 0 rfl rfl Try.underlying57 rfl (by kernel_rfl)) rfl rfl rfl ?_
  refine Seq.val (Runs.loadB rfl rfl Try.underlying3 rfl k3 rfl) rfl rfl rfl ?_
  refine Seq.nil ?_
  refine Post.weak (F' := [(0, _), (1, _), (2, _), (3, _), (5, _)]) ⟨rfl, rfl, rfl, rfl, rfl, trivial⟩ ?_
  refine Post.then_ ?_
  refine Cd.block ?_
  refine Cd.seq ?_
  refine Cd.region ?_
  refine Seq.val (Runs.eqlI rfl rfl rfl) rfl rfl rfl ?_
  refine Seq.val (Runs.assign rfl rfl) rfl rfl rfl ?_
  refine Seq.nil ?_
  refine Post.weak (F' := [(0, _), (1, _), (2, _), (3, _), (5, _), (19, _)]) ⟨rfl, rfl, rfl, rfl, rfl, rfl, trivial⟩ ?_
  refine Post.then_ ?_
  refine Cd.condD rfl (fun h1 => ?_) (fun h1 => ?_)
  · rw [if_pos h1] at hT
    refine Cd.region ?_
    refine Seq.val (Runs.loadB rfl rfl Try.underlying77 rfl k2 rfl) rfl rfl rfl ?_
    refine Seq.val (Runs.nilCheck rfl rfl) rfl rfl rfl ?_
    refine Seq.val (Runs.fieldB 0 rfl rfl Try.underlying112 rfl (by kernel_rfl)) rfl rfl rfl ?_
    refine Seq.call (Enters.func rfl rfl rfl (run_enter Try.func78 (by kernel_rfl) rfl)) rfl rfl rfl ((writeS_both B g [122, 101, 114, 111] bs _ wr (by decide) (by simp only [List.length_cons, List.length_nil]; omega)).1) ?_
    clear wr
    rintro e w3 ⟨⟨_, rfl⟩, fw3, wr⟩
    refine ⟨_, rfl, ?_⟩
    replace wt := wt.wt fw3
    refine Seq.nil ?_
    refine Post.weak (F' := [(0, _), (1, _), (2, _), (3, _), (5, _), (19, _)]) ⟨rfl, rfl, rfl, rfl, rfl, rfl, trivial⟩ ?_
    refine Post.block_normal ?_
    refine Post.end0 rfl (.inr rfl) ?_
    rw [hT]
    exact ⟨⟨_, rfl⟩, wt, wr⟩
  rw [if_neg h1] at hT
  refine Cd.seq ?_
  refine Cd.region ?_
  refine Seq.val (Runs.eqlI rfl rfl rfl) rfl rfl rfl ?_
  refine Seq.val (Runs.assign rfl rfl) rfl rfl rfl ?_
  refine Seq.nil ?_
  refine Post.weak (F' := [(0, _), (1, _), (2, _), (3, _), (5, _), (19, _), (25, _)]) ⟨rfl, rfl, rfl, rfl, rfl, rfl, rfl, trivial⟩ ?_
  refine Post.then_ ?_
  refine Cd.condD rfl (fun h2 => ?_) (fun h2 => ?_)
  · have hnm := free_len (a2 h2)
    have hnl := free_lt (a2 h2)
    have he0 : t.exprs = [] ∧ t.terms = [] := by
      rw [h2] at a1
      have e1 : arT 2 = (0, 0) := rfl
      rw [e1] at a1
      injection a1 with x1 x2
      exact ⟨List.eq_nil_of_length_eq_zero (by omega), List.eq_nil_of_length_eq_zero (by omega)⟩
    have hT2 : termT t = [111, 110, 101, 40] ++ t.name ++ [41] := by
      rw [hT, if_pos h2, he0.1, he0.2, h2]
      simp [joinT]
      rfl
    refine Cd.draw 7 (by kernel_rfl) [] (.inl rfl) rfl Grow Grow.refl (fun _ _ _ => Grow.trans) ?_
    intro w3 hw3 zw3
    replace wt := wt.step hw3
    replace wr := wr.step hw3
    replace k2 := k2.step hw3
    replace k3 := k3.step hw3
    have zlt := k3.lt
    refine Dr.val Grow.refl rfl (fun w hG => Runs.loadB rfl rfl Try.underlying77 rfl (k2.step hG) rfl) rfl ?_
    refine Dr.val Grow.refl rfl (fun w hG => Runs.nilCheck rfl rfl) rfl ?_
    refine Dr.val Grow.refl rfl (fun w hG => Runs.fieldB 0 rfl rfl Try.underlying112 rfl (by kernel_rfl)) rfl ?_
    refine Dr.val Grow.refl rfl (fun w hG => Runs.fieldB 1 rfl rfl Try.underlying57 rfl (by kernel_rfl)) rfl ?_
    refine Dr.val Grow.refl rfl (fun w hG => Runs.loadB rfl rfl Try.underlying9 rfl (k3.step hG) rfl) rfl ?_
    refine Dr.val Grow.refl rfl (fun w hG => Runs.addL (a := [111, 110, 101, 40]) rfl rfl rfl (by simp only [List.length_cons, List.length_nil]; omega)) rfl ?_
    refine Dr.val Grow.refl rfl (fun w hG => Runs.addL (b := [41]) rfl rfl rfl (by simp only [List.length_append, List.length_cons, List.length_nil]; omega)) rfl ?_
    refine Dr.nil ?_
    refine FinX.done (F' := [(0, _), (1, _), (2, _), (3, _), (5, _), (19, _), (25, _), (29, _), (33, _)]) rfl ⟨rfl, rfl, rfl, rfl, rfl, rfl, rfl, rfl, rfl, trivial⟩ ?_
    intro w4 hw4 fw4
    replace wt := wt.step hw4
    replace wr := wr.step hw4
    replace k2 := k2.step hw4
    replace k3 := k3.step hw4
    refine Seq.call (Enters.func rfl rfl rfl (run_enter Try.func78 (by kernel_rfl) rfl)) rfl rfl rfl ((writeS_both B g ([111, 110, 101, 40] ++ t.name ++ [41]) bs _ wr (bt3 (by decide) hnl (by decide)) (by simp only [List.length_append, List.length_cons, List.length_nil]; omega)).1) ?_
    clear wr
    rintro e w5 ⟨⟨_, rfl⟩, fw5, wr⟩
    refine ⟨_, rfl, ?_⟩
    replace wt := wt.wt fw5
    refine Seq.nil ?_
    refine Post.weak (F' := [(0, _), (1, _), (2, _), (3, _), (5, _), (19, _), (25, _)]) ⟨rfl, rfl, rfl, rfl, rfl, rfl, rfl, trivial⟩ ?_
    refine Post.block_normal ?_
    refine Post.end0 rfl (.inr rfl) ?_
    rw [hT2]
    exact ⟨⟨_, rfl⟩, wt, wr⟩
  rw [if_neg h2, List.nil_append] at hT
  have hjr : t.exprs.map exprT ++ t.terms.map termT = rowsP t := rfl
  rw [hjr] at hT
  have hrl : (rowsP t).length = t.exprs.length + t.terms.length := by unfold rowsP; simp
  have hwl := wordT_len t.op
  have hjl : (joinT (rowsP t)).length ≤ 20000 := by
    have := hbd.1
    rw [hT] at this
    simp only [List.length_append, List.length_cons, List.length_nil] at this
    omega
  have hrows : ∀ u ∈ rowsP t, ∀ d ∈ u, d < 256 := fun u hu => by
    unfold rowsP at hu
    rcases List.mem_append.1 hu with hu | hu
    · obtain ⟨z, hz, rfl⟩ := List.mem_map.1 hu
      exact (exprT_bd z.nodes z (Nat.le_refl _) (hexp z hz)).2
    · obtain ⟨z, hz, rfl⟩ := List.mem_map.1 hu
      exact (termT_bd z.nodes z (Nat.le_refl _) (hter z hz)).2
  have hword : ∀ W, Calls Try.prog 100 #[.int .i64 t.op] W fun e w' => e = .returned (.string (strOf (wordT t.op))) ∧ Grow W w' := fun W => printWord_any t.op W p1 p2
  refine Cd.draw 12 (by kernel_rfl) [] (.inl rfl) rfl Grow Grow.refl (fun _ _ _ => Grow.trans) ?_
  intro w3 hw3 zw3
  replace wt := wt.step hw3
  replace wr := wr.step hw3
  replace k2 := k2.step hw3
  replace k3 := k3.step hw3
  have zlt := k3.lt
  refine Dr.val Grow.refl rfl (fun w hG => Runs.loadB rfl rfl Try.underlying77 rfl (k2.step hG) rfl) rfl ?_
  refine Dr.val Grow.refl rfl (fun w hG => Runs.fieldB 0 rfl rfl Try.underlying57 rfl (by kernel_rfl)) rfl ?_
  refine Dr.val Grow.refl rfl (fun w hG => Runs.loadB rfl rfl Try.underlying3 rfl (k3.step hG) rfl) rfl ?_
  refine Dr.callV rfl (fun w => Enters.func rfl rfl rfl (run_enter Try.func100 (by kernel_rfl) rfl)) rfl (fun w hG => hword w) ?_
  refine Dr.val Grow.refl rfl (fun w hG => Runs.fieldB 2 rfl rfl Try.underlying57 rfl (by kernel_rfl)) rfl ?_
  refine Dr.val Grow.refl rfl (fun w hG => Runs.loadB rfl rfl Try.underlying25 rfl (k3.step hG) rfl) rfl ?_
  refine Dr.val Grow.refl rfl (fun w hG => Runs.len rfl rfl Try.underlying25) rfl ?_
  refine Dr.val Grow.refl rfl (fun w hG => Runs.fieldB 3 rfl rfl Try.underlying57 rfl (by kernel_rfl)) rfl ?_
  refine Dr.val Grow.refl rfl (fun w hG => Runs.loadB rfl rfl Try.underlying27 rfl (k3.step hG) rfl) rfl ?_
  refine Dr.val Grow.refl rfl (fun w hG => Runs.len rfl rfl Try.underlying27) rfl ?_
  refine Dr.val Grow.refl rfl (fun w hG => Runs.addI rfl rfl rfl (by omega) (by omega)) rfl ?_
  refine Dr.val Grow.refl rfl (fun w hG => Runs.makeFunc (v := .func (.func 101) #[] #[.pointer (some ⟨g2, 0, none⟩), .pointer (some ⟨g3, 0, none⟩)]) rfl (show evL _ _ = some [] from rfl) (show evL _ _ = some [.pointer (some ⟨g2, 0, none⟩), .pointer (some ⟨g3, 0, none⟩)] from rfl) rfl) rfl ?_
  refine Dr.nil ?_
  refine FinX.done (F' := [(0, _), (1, _), (2, _), (3, _), (5, _), (6, _), (9, _), (16, _), (17, _), (19, _), (25, _)]) rfl ⟨rfl, rfl, rfl, rfl, rfl, rfl, rfl, rfl, rfl, rfl, rfl, trivial⟩ ?_
  intro w4 hw4 fw4
  replace wt := wt.step hw4
  replace wr := wr.step hw4
  replace k2 := k2.step hw4
  replace k3 := k3.step hw4
  have hlist := list_any B g 101 (t.exprs.length + t.terms.length) [.pointer (some ⟨g2, 0, none⟩), .pointer (some ⟨g3, 0, none⟩)] (wordT t.op) bs (rowsP t) _ wr hwl.2 (by omega) hrl (by omega) hrows hjl (by omega) eg_term1
    (fun i u hu W' bs' hwt hwr hlen => termArg_of B g (bs.length + 60000) g2 g3 i c c' A A' t bs' u w W' hrec hv h200 hbt ((wt.wt hwt).to hBW) (k2.wt hwt) (k3.wt hwt) hwr (by omega) (by omega) hu)
  refine Seq.call (Enters.func rfl rfl rfl (run_enter Try.func80 (by kernel_rfl) rfl)) rfl rfl rfl (hlist) ?_
  clear wr
  rintro e w5 ⟨⟨_, rfl⟩, fw5, wr⟩
  refine ⟨_, rfl, ?_⟩
  replace wt := wt.wt fw5
  refine Seq.nil ?_
  refine Post.weak (F' := [(0, _), (1, _), (2, _), (3, _), (5, _), (19, _), (25, _)]) ⟨rfl, rfl, rfl, rfl, rfl, rfl, rfl, trivial⟩ ?_
  refine Post.block_normal ?_
  refine Post.end0 rfl (.inr rfl) ?_
  rw [hT]
  exact ⟨⟨_, rfl⟩, wt, by simpa only [List.append_assoc] using wr⟩
end Go.Proofs.Ytijaldpmpjapiaa


/-
  debenturelaw28's small at one ask: it ends; a chain of closed calls: an engine on an empty disk. Condition: crc's table is as it was laid.
-/
import Derived.Test.YtefpejnmhlhnkaaGreatDoorDnA
import Derived.Test.YtefpejnmhlhnkaaGreatDoorTLoad
import Derived.Test.YtefpejnmhlhnkaaGreatDoorKL
namespace Go.Proofs.YtefpejnmhlhnkaaGreatDoor
open Go.RowKit

/-- An ask. -/
structure As where
  k : Int
  r : List Nat
  i : List Nat
  x : List Nat
  y : List Nat
  t : List Nat
  d : Int
  p : Int
  wh : Int
  n : Int
abbrev As.cs (a : As) : List Value := [.int .i64 a.k, .string (strOf a.r), .string (strOf a.i), .string (strOf a.x), .string (strOf a.y), .string (strOf a.t), .int .i64 a.d, .int .i64 a.p, .int .i64 a.wh, .int .i64 a.n]
abbrev As.v (a : As) : Value := .agg a.cs.toArray
theorem zero_debentureref26_Ask : zeroIs Tryz.prog 36 = some (some (.agg #[.int .i64 0, .string { data := #[] }, .string { data := #[] }, .string { data := #[] }, .string { data := #[] }, .string { data := #[] }, .int .i64 0, .int .i64 0, .int .i64 0, .int .i64 0])) := by kernel_rfl
theorem zero_api_Term : zeroIs Tryz.prog 110 = some (some (.agg #[.int .i64 0, .string { data := #[] }, .slice none 0 0, .slice none 0 0])) := by kernel_rfl
abbrev treeN : Value := .agg #[.slice none 0 0, .slice none 0 0, .slice none 0 0, .slice none 0 0, .slice none 0 0, .slice none 0 0]
def treeNV : RI.V := .agg [.sl none 0 0, .sl none 0 0, .sl none 0 0, .sl none 0 0, .sl none 0 0, .sl none 0 0]
set_option maxRecDepth 100000 in
theorem build_none (w : World) (hg : Nb w) : Calls Tryz.prog 47 #[.slice none 0 0, .slice none 0 0] w fun e w' => e = .returned treeN ∧ Below w.heap.size w w' := by
  refine (runs_one w hg (f := 47) (l := [.sl none 0 0, .sl none 0 0]) (xs := [.slice none 0 0, .slice none 0 0]) (fun y => .cons .sl0 (.cons .sl0 .nil)) (v := treeNV) (by kernel_rfl) (enters_of Tryz.func47 (by kernel_rfl) rfl _ w)).mono ?_
  rintro e w' ⟨x, L', y, rfl, hx, hb⟩
  cases hx with
  | agg h =>
    rcases h with _ | ⟨h0, h⟩
    rcases h with _ | ⟨h1, h⟩
    rcases h with _ | ⟨h2, h⟩
    rcases h with _ | ⟨h3, h⟩
    rcases h with _ | ⟨h4, h⟩
    rcases h with _ | ⟨h5, h⟩
    cases h
    cases h0
    cases h1
    cases h2
    cases h3
    cases h4
    cases h5
    exact ⟨rfl, hb⟩
abbrev termN : Value := .agg #[.int .i64 0, .string { data := #[] }, .slice none 0 0, .slice none 0 0]
def termNV : RI.V := .agg [.int .i64 0, .str [], .sl none 0 0, .sl none 0 0]
set_option maxRecDepth 100000 in
theorem last_none (w : World) (hg : Nb w) : Calls Tryz.prog 48 #[treeN] w fun e w' => e = .returned (.tuple #[termN, .bool false]) ∧ Below w.heap.size w w' := by
  refine (runs_one w hg (f := 48) (l := [treeNV]) (xs := [treeN]) (fun y => .cons (.agg (.cons .sl0 (.cons .sl0 (.cons .sl0 (.cons .sl0 (.cons .sl0 (.cons .sl0 .nil))))))) .nil) (v := .tup [termNV, .bool false]) (by kernel_rfl) (enters_of Tryz.func48 (by kernel_rfl) rfl _ w)).mono ?_
  rintro e w' ⟨x, L', y, rfl, hx, hb⟩
  cases hx with
  | tup h =>
    rcases h with _ | ⟨h0, h⟩
    rcases h with _ | ⟨h1, h⟩
    cases h
    cases h1
    cases h0 with
    | agg h =>
      rcases h with _ | ⟨h0, h⟩
      rcases h with _ | ⟨h1, h⟩
      rcases h with _ | ⟨h2, h⟩
      rcases h with _ | ⟨h3, h⟩
      cases h
      cases h0
      cases h2
      cases h3
      generalize hz : ([] : List Nat) = z at h1
      cases h1 with
      | str sb =>
        have hsz : sb = { data := #[] } := by
          have hz : sb.data.toList.map UInt8.toNat = [] := hz.symm
          have := List.map_eq_nil_iff.1 hz
          obtain ⟨d⟩ := sb
          simp only at this
          have : d = #[] := Array.toList_eq_nil_iff.1 this
          rw [this]
        subst hsz
        exact ⟨rfl, hb⟩
theorem said_none (a : As) (w : World) (hg : Nb w) : Calls Tryz.prog 26 #[a.v, .slice none 0 0, .slice none 0 0] w fun e w' => e = .returned a.v ∧ Below w.heap.size w w' := by
  have bel := Below.refl w.heap.size w
  have nb := hg
  refine Calls.start 31 Tryz.func26 rfl rfl rfl ?_
  refine Cd.seq ?_
  refine Cd.region ?_
  refine Seq.box rfl rfl rfl rfl rfl ?_
  intro g3 w1 n3
  have e3 := Nat.le_trans bel.size n3.ge
  replace bel := bel.step n3.below
  replace nb := nb.step n3.below
  have k3 := n3.blk
  refine Seq.alloc rfl (run_zero zero_debentureref26_Ask) rfl rfl rfl ?_
  intro g6 w2 n6
  have e6 := Nat.le_trans bel.size n6.ge
  have l6 := Nat.lt_of_lt_of_le k3.lt n6.ge
  replace bel := bel.step n6.below
  replace nb := nb.step n6.below
  replace k3 := k3.step n6.below
  have k6 := n6.blk
  refine Seq.nil ?_
  refine Post.weak (F' := [(0, _), (1, _), (2, _), (3, _), (6, _)]) ⟨rfl, rfl, rfl, rfl, rfl, trivial⟩ ?_
  refine Post.then_ ?_
  refine Cd.seq ?_
  refine Cd.region ?_
  refine Seq.val (Runs.move rfl rfl) rfl rfl rfl ?_
  refine Seq.val (Runs.move rfl rfl) rfl rfl rfl ?_
  refine Seq.call (Enters.func rfl rfl rfl (run_enter Tryz.func47 (by kernel_rfl) rfl)) rfl rfl rfl (build_none _ nb) ?_
  rintro e w3 ⟨rfl, hb3⟩
  refine ⟨_, rfl, ?_⟩
  replace bel := bel.step hb3
  replace nb := nb.step hb3
  replace k3 := k3.step hb3
  replace k6 := k6.step hb3
  refine Seq.call (Enters.func rfl rfl rfl (run_enter Tryz.func48 (by kernel_rfl) rfl)) rfl rfl rfl (last_none _ nb) ?_
  rintro e w4 ⟨rfl, hb4⟩
  refine ⟨_, rfl, ?_⟩
  replace bel := bel.step hb4
  replace nb := nb.step hb4
  replace k3 := k3.step hb4
  replace k6 := k6.step hb4
  refine Seq.val (Runs.move rfl rfl) rfl rfl rfl ?_
  refine Seq.val (Runs.extract rfl rfl rfl) rfl rfl rfl ?_
  refine Seq.val (Runs.extract rfl rfl rfl) rfl rfl rfl ?_
  refine Seq.alloc rfl (run_zero zero_api_Term) rfl rfl rfl ?_
  intro g7 w3 n7
  have e7 := Nat.le_trans bel.size n7.ge
  have l7 := Nat.lt_of_lt_of_le k6.lt n7.ge
  have l7_k3 := Nat.lt_of_lt_of_le k3.lt n7.ge
  replace bel := bel.step n7.below
  replace k3 := k3.step n7.below
  replace k6 := k6.step n7.below
  have k7 := n7.blk
  refine Seq.storeN rfl rfl rfl rfl (m := 4) (by kernel_rfl) rfl (by repeat' first | exact trivial | apply And.intro | rfl | assumption) k7 (by simp [Value.cells]) rfl rfl ?_
  intro w4 pw4
  replace bel := bel.put k7 pw4 e7
  replace k3 := k3.put pw4 (by omega)
  replace k6 := k6.put pw4 (by omega)
  replace k7 := pw4.blk
  refine Seq.val (Runs.assign rfl rfl) rfl rfl rfl ?_
  refine Seq.nil ?_
  refine Post.weak (F' := [(0, _), (1, _), (2, _), (3, _), (6, _), (7, _), (8, _)]) ⟨rfl, rfl, rfl, rfl, rfl, rfl, rfl, trivial⟩ ?_
  refine Post.then_ ?_
  refine Cd.seq ?_
  refine Cd.seq ?_
  refine Cd.region ?_
  refine Seq.val (Runs.fieldB 0 rfl rfl Tryz.underlying36 rfl (by kernel_rfl)) rfl rfl rfl ?_
  refine Seq.val (Runs.loadB rfl rfl Tryz.underlying3 rfl k3 rfl) rfl rfl rfl ?_
  refine Seq.val (Runs.eqlI rfl rfl rfl) rfl rfl rfl ?_
  refine Seq.val (Runs.move rfl rfl) rfl rfl rfl ?_
  refine SeqC.start ?_
  refine SeqC.open rfl rfl rfl rfl rfl rfl rfl (fun hcx => Runs.move rfl rfl) ?_
  refine SeqC.next rfl rfl rfl rfl rfl rfl rfl (fun hcx => Runs.len rfl rfl Tryz.underlying40) ?_
  refine SeqC.next rfl rfl rfl rfl rfl rfl rfl (fun hcx => Runs.gtr rfl rfl rfl) ?_
  refine SeqC.and rfl rfl rfl rfl rfl rfl rfl ?_
  refine Seq.val (Runs.move rfl rfl) rfl rfl rfl ?_
  refine SeqC.start ?_
  refine SeqC.open rfl rfl rfl rfl rfl rfl rfl (fun hcx => Runs.move rfl rfl) ?_
  refine SeqC.and rfl rfl rfl rfl rfl rfl rfl ?_
  refine Seq.nil ?_
  refine Post.weak (F' := [(0, _), (1, _), (2, _), (3, _), (6, _), (7, _), (8, _), (26, _)]) ⟨rfl, rfl, rfl, rfl, rfl, rfl, rfl, rfl, trivial⟩ ?_
  refine Post.then_ ?_
  refine Cd.condF rfl (by simp) ?_
  refine Cd.skip ?_
  refine Post.then_ ?_
  refine Cd.seq ?_
  refine Cd.region ?_
  refine Seq.val (Runs.loadW rfl rfl Tryz.underlying36 rfl k3 (m := 10) (by kernel_rfl) rfl) rfl rfl rfl ?_
  refine Seq.storeN rfl rfl rfl rfl (m := 10) (by kernel_rfl) rfl (by repeat' first | exact trivial | apply And.intro | rfl | assumption) k6 (by simp [Value.cells]) rfl rfl ?_
  intro w5 pw5
  replace bel := bel.put k6 pw5 e6
  replace k3 := k3.put pw5 (by omega)
  replace k7 := k7.put pw5 (by omega)
  replace k6 := pw5.blk
  refine Seq.nil ?_
  refine Post.weak (F' := [(0, _), (1, _), (2, _), (3, _), (6, _), (7, _), (8, _), (26, _)]) ⟨rfl, rfl, rfl, rfl, rfl, rfl, rfl, rfl, trivial⟩ ?_
  refine Post.then_ ?_
  refine Cd.ret ?_
  refine Post.endC rfl rfl k6 Tryz.underlying36 rfl (m := 10) (by kernel_rfl) rfl (.inl rfl) ?_
  exact ⟨rfl, bel⟩
theorem heavy_any (B c : Nat) (A : Option Addr) (a : As) (w : World) (hr : Reads w B 10 A 1 a.cs) (ht : a.t.length ≤ 5000) (hb : ∀ x ∈ a.t, x < 256) :
    Calls Tryz.prog 27 #[.slice A 1 c] w fun e w' => (∃ b, e = .returned (.bool b)) ∧ w = w' := by
  obtain ⟨ad, rfl, -, hcl⟩ := hr.2 (by omega)
  have c5 : w.cell? ((ad.add (0 * 10)).add 5) = some (.string (strOf a.t)) := by rw [add_of_add]; exact hcl 5 _ rfl
  have c0 : w.cell? ((ad.add (0 * 10)).add 0) = some (.int .i64 a.k) := by rw [add_of_add]; exact hcl 0 _ rfl
  refine Calls.start 55 Tryz.func27 rfl rfl rfl ?_
  refine Cd.seq ?_
  refine Cd.region ?_
  refine Seq.val (Runs.assign rfl rfl) rfl rfl rfl ?_
  refine Seq.nil ?_
  refine Post.weak (F' := [(0, _), (2, _)]) ⟨rfl, rfl, trivial⟩ ?_
  refine Post.then_ ?_
  refine Cd.seq ?_
  refine Cd.region ?_
  refine Seq.val (Runs.assign rfl rfl) rfl rfl rfl ?_
  refine Seq.val (Runs.assign rfl rfl) rfl rfl rfl ?_
  refine Seq.nil ?_
  refine Post.weak (F' := [(0, _), (2, _), (3, _), (4, _)]) ⟨rfl, rfl, rfl, rfl, trivial⟩ ?_
  refine Post.then_ ?_
  refine Cd.seq ?_
  refine Cd.seq ?_
  refine Cd.region ?_
  refine Seq.val (Runs.assign rfl rfl) rfl rfl rfl ?_
  refine Seq.nil ?_
  refine Post.weak (F' := [(0, _), (2, _), (3, _), (4, _), (5, _)]) ⟨rfl, rfl, rfl, rfl, rfl, trivial⟩ ?_
  refine Post.then_ ?_
  refine Cd.block ?_
  refine Cd.loop (σ := Nat × Nat × Nat) (fun q => [(0, .slice (some ad) 1 c), (3, .int .i64 (q.2.1 : Int)), (4, .int .i64 (q.2.2 : Int)), (5, .int .i64 (q.1 : Int))]) (fun q wr => q.1 ≤ 1 ∧ q.2.1 ≤ 5000 * q.1 ∧ q.2.2 ≤ 5000 * q.1 ∧ w = wr) (fun q => 1 - q.1) (0, 0, 0) ⟨by simp, by simp, by simp, rfl⟩ ⟨rfl, rfl, rfl, rfl, trivial⟩ ?_
  rintro ⟨i, on, sz⟩ wr ⟨hi, hon, hsz, rfl⟩
  simp only at hi hon hsz
  show Cd _ _ _ _ [(0, .slice (some ad) 1 c), (3, .int .i64 (on : Int)), (4, .int .i64 (sz : Int)), (5, .int .i64 (i : Int))] _
  refine Cd.seq ?_
  refine Cd.seq ?_
  refine Cd.region ?_
  refine Seq.val (Runs.move rfl rfl) rfl rfl rfl ?_
  refine Seq.val (Runs.move rfl rfl) rfl rfl rfl ?_
  refine Seq.val (Runs.len rfl rfl Tryz.underlying70) rfl rfl rfl ?_
  refine Seq.val (Runs.lss rfl rfl rfl) rfl rfl rfl ?_
  refine Seq.nil ?_
  refine Post.weak (F' := [(0, _), (3, _), (4, _), (5, _), (11, _)]) ⟨rfl, rfl, rfl, rfl, rfl, trivial⟩ ?_
  refine Post.then_ ?_
  refine Cd.condD rfl (fun hc => ?_) (fun hc => ?_)
  · obtain rfl : i = 0 := by omega
    refine Cd.skip ?_
    refine Post.then_ ?_
    refine Cd.seq ?_
    refine Cd.block ?_
    refine Cd.seq ?_
    refine Cd.region ?_
    refine Seq.val (Runs.move rfl rfl) rfl rfl rfl ?_
    refine Seq.val (Runs.move rfl rfl) rfl rfl rfl ?_
    refine Seq.val (Runs.indexN rfl rfl rfl Tryz.underlying70 (s := 10) (by kernel_rfl) (j := 0) rfl (by omega)) rfl rfl rfl ?_
    refine Seq.val (Runs.fieldA 5 rfl rfl Tryz.underlying36 rfl (by kernel_rfl)) rfl rfl rfl ?_
    refine Seq.val (Runs.load1 rfl rfl Tryz.underlying9 rfl c5) rfl rfl rfl ?_
    refine Seq.val (Runs.assign rfl rfl) rfl rfl rfl ?_
    refine Seq.nil ?_
    refine Post.weak (F' := [(0, _), (3, _), (4, _), (5, _), (6, _), (11, _)]) ⟨rfl, rfl, rfl, rfl, rfl, rfl, trivial⟩ ?_
    refine Post.then_ ?_
    refine Cd.seq ?_
    refine Cd.seq ?_
    refine Cd.region ?_
    refine Seq.val (Runs.move rfl rfl) rfl rfl rfl ?_
    refine Seq.val (Runs.move rfl rfl) rfl rfl rfl ?_
    refine Seq.val (Runs.indexN rfl rfl rfl Tryz.underlying70 (s := 10) (by kernel_rfl) (j := 0) rfl (by omega)) rfl rfl rfl ?_
    refine Seq.val (Runs.fieldA 0 rfl rfl Tryz.underlying36 rfl (by kernel_rfl)) rfl rfl rfl ?_
    refine Seq.val (Runs.load1 rfl rfl Tryz.underlying3 rfl c0) rfl rfl rfl ?_
    refine Seq.val (Runs.neqI rfl rfl rfl) rfl rfl rfl ?_
    refine Seq.val (Runs.move rfl rfl) rfl rfl rfl ?_
    refine SeqC.start ?_
    refine SeqC.open rfl rfl rfl rfl rfl rfl rfl (fun hcx => Runs.move rfl rfl) ?_
    refine SeqC.next rfl rfl rfl rfl rfl rfl rfl (fun hcx => Runs.lenL rfl rfl Tryz.underlying9) ?_
    refine SeqC.next rfl rfl rfl rfl rfl rfl rfl (fun hcx => Runs.gtr rfl rfl rfl) ?_
    refine SeqC.or rfl rfl rfl rfl rfl rfl rfl ?_
    refine Seq.nil ?_
    refine Post.weak (F' := [(0, _), (3, _), (4, _), (5, _), (6, _), (11, _), (29, _)]) ⟨rfl, rfl, rfl, rfl, rfl, rfl, rfl, trivial⟩ ?_
    refine Post.then_ ?_
    refine Cd.cond rfl (fun h => ?_) (fun h => ?_)
    · skip
      refine Cd.exit ?_
      refine Post.then_exit ?_
      refine Post.block_exit ?_
      refine Post.then_ ?_
      refine Cd.region ?_
      refine Seq.val (Runs.move rfl rfl) rfl rfl rfl ?_
      refine Seq.val (Runs.addI rfl rfl rfl (by omega) (by omega)) rfl rfl rfl ?_
      refine Seq.val (Runs.assign rfl rfl) rfl rfl rfl ?_
      refine Seq.nil ?_
      refine Post.weak (F' := [(0, _), (3, _), (4, _), (5, _), (6, _), (11, _), (29, _)]) ⟨rfl, rfl, rfl, rfl, rfl, rfl, rfl, trivial⟩ ?_
      exact Post.round (1, on, sz) ⟨rfl, rfl, rfl, rfl, trivial⟩ ⟨by simp only; omega, by simp only; omega, by simp only; omega, rfl⟩ (by omega)
    · skip
      refine Cd.skip ?_
      refine Post.then_ ?_
      refine Cd.seq ?_
      refine Cd.region ?_
      refine Seq.val (Runs.move rfl rfl) rfl rfl rfl ?_
      refine Seq.val (Runs.move rfl rfl) rfl rfl rfl ?_
      refine Seq.val (Runs.lenL rfl rfl Tryz.underlying9) rfl rfl rfl ?_
      refine Seq.val (Runs.addI rfl rfl rfl (by omega) (by omega)) rfl rfl rfl ?_
      refine Seq.val (Runs.assign rfl rfl) rfl rfl rfl ?_
      refine Seq.nil ?_
      refine Post.weak (F' := [(0, _), (3, _), (4, _), (5, _), (6, _), (11, _), (29, _)]) ⟨rfl, rfl, rfl, rfl, rfl, rfl, rfl, trivial⟩ ?_
      refine Post.then_ ?_
      refine Cd.seq ?_
      refine Cd.region ?_
      refine Seq.val (Runs.assign rfl rfl) rfl rfl rfl ?_
      refine Seq.nil ?_
      refine Post.weak (F' := [(0, _), (3, _), (4, _), (5, _), (6, _), (7, _), (11, _), (29, _)]) ⟨rfl, rfl, rfl, rfl, rfl, rfl, rfl, rfl, trivial⟩ ?_
      refine Post.then_ ?_
      refine Cd.block ?_
      refine Cd.loop (σ := Nat × Nat) (fun q => [(0, .slice (some ad) 1 c), (3, .int .i64 (q.2 : Int)), (4, .int .i64 ((sz : Int) + (a.t.length : Int))), (5, .int .i64 ((0 : Nat) : Int)), (6, .string (strOf a.t)), (7, .int .i64 (q.1 : Int))]) (fun q wr => q.1 ≤ a.t.length ∧ q.2 ≤ q.1 ∧ w = wr) (fun q => a.t.length + 1 - q.1) (0, on) ⟨by simp only; omega, by simp only; omega, rfl⟩ ⟨rfl, rfl, rfl, rfl, rfl, rfl, trivial⟩ ?_
      rintro ⟨k, on'⟩ wr ⟨hk, hon', rfl⟩
      simp only at hk hon'
      show Cd _ _ _ _ [(0, .slice (some ad) 1 c), (3, .int .i64 (on' : Int)), (4, .int .i64 ((sz : Int) + (a.t.length : Int))), (5, .int .i64 ((0 : Nat) : Int)), (6, .string (strOf a.t)), (7, .int .i64 (k : Int))] _
      refine Cd.seq ?_
      refine Cd.seq ?_
      refine Cd.region ?_
      refine Seq.val (Runs.move rfl rfl) rfl rfl rfl ?_
      refine Seq.val (Runs.addI rfl rfl rfl (by omega) (by omega)) rfl rfl rfl ?_
      refine Seq.val (Runs.move rfl rfl) rfl rfl rfl ?_
      refine Seq.val (Runs.lenL rfl rfl Tryz.underlying9) rfl rfl rfl ?_
      refine Seq.val (Runs.leq rfl rfl rfl) rfl rfl rfl ?_
      refine Seq.nil ?_
      refine Post.weak (F' := [(0, _), (3, _), (4, _), (5, _), (6, _), (7, _), (38, _)]) ⟨rfl, rfl, rfl, rfl, rfl, rfl, rfl, trivial⟩ ?_
      refine Post.then_ ?_
      refine Cd.condD rfl (fun hc => ?_) (fun hc => ?_)
      · skip
        refine Cd.skip ?_
        refine Post.then_ ?_
        refine Cd.seq ?_
        refine Cd.block ?_
        refine Cd.seq ?_
        refine Cd.region ?_
        refine Seq.val (Runs.move rfl rfl) rfl rfl rfl ?_
        refine Seq.val (Runs.move rfl rfl) rfl rfl rfl ?_
        refine Seq.val (Runs.move rfl rfl) rfl rfl rfl ?_
        refine Seq.val (Runs.addI rfl rfl rfl (by omega) (by omega)) rfl rfl rfl ?_
        refine Seq.val (Runs.sliceAtL rfl rfl rfl rfl Tryz.underlying9 (i := k) (j := k + 3) rfl (by omega) (by omega) (by omega)) rfl rfl rfl ?_
        refine Seq.val (Runs.eqlL (b := [111, 110, 101]) rfl rfl rfl (fun x hx => hb x (List.mem_of_mem_take (List.mem_of_mem_drop hx))) (by decide)) rfl rfl rfl ?_
        refine Seq.nil ?_
        refine Post.weak (F' := [(0, _), (3, _), (4, _), (5, _), (6, _), (7, _), (38, _), (46, _)]) ⟨rfl, rfl, rfl, rfl, rfl, rfl, rfl, rfl, trivial⟩ ?_
        refine Post.then_ ?_
        refine Cd.condD rfl (fun hc => ?_) (fun hc => ?_)
        · skip
          refine Cd.region ?_
          refine Seq.val (Runs.move rfl rfl) rfl rfl rfl ?_
          refine Seq.val (Runs.addI rfl rfl rfl (by omega) (by omega)) rfl rfl rfl ?_
          refine Seq.val (Runs.assign rfl rfl) rfl rfl rfl ?_
          refine Seq.nil ?_
          refine Post.weak (F' := [(0, _), (3, _), (4, _), (5, _), (6, _), (7, _), (38, _), (46, _)]) ⟨rfl, rfl, rfl, rfl, rfl, rfl, rfl, rfl, trivial⟩ ?_
          refine Post.block_normal ?_
          refine Post.then_ ?_
          refine Cd.region ?_
          refine Seq.val (Runs.move rfl rfl) rfl rfl rfl ?_
          refine Seq.val (Runs.addI rfl rfl rfl (by omega) (by omega)) rfl rfl rfl ?_
          refine Seq.val (Runs.assign rfl rfl) rfl rfl rfl ?_
          refine Seq.nil ?_
          refine Post.weak (F' := [(0, _), (3, _), (4, _), (5, _), (6, _), (7, _), (38, _), (46, _)]) ⟨rfl, rfl, rfl, rfl, rfl, rfl, rfl, rfl, trivial⟩ ?_
          exact Post.round (k + 1, on' + 1) ⟨rfl, rfl, rfl, rfl, rfl, rfl, trivial⟩ ⟨by simp only; omega, by simp only; omega, rfl⟩ (by omega)
        · skip
          refine Cd.skip ?_
          refine Post.block_normal ?_
          refine Post.then_ ?_
          refine Cd.region ?_
          refine Seq.val (Runs.move rfl rfl) rfl rfl rfl ?_
          refine Seq.val (Runs.addI rfl rfl rfl (by omega) (by omega)) rfl rfl rfl ?_
          refine Seq.val (Runs.assign rfl rfl) rfl rfl rfl ?_
          refine Seq.nil ?_
          refine Post.weak (F' := [(0, _), (3, _), (4, _), (5, _), (6, _), (7, _), (38, _), (46, _)]) ⟨rfl, rfl, rfl, rfl, rfl, rfl, rfl, rfl, trivial⟩ ?_
          exact Post.round (k + 1, on') ⟨rfl, rfl, rfl, rfl, rfl, rfl, trivial⟩ ⟨by simp only; omega, by simp only; omega, rfl⟩ (by omega)
      · skip
        refine Cd.exit ?_
        refine Post.then_exit ?_
        refine Post.round_exit ?_
        refine Post.block_exit ?_
        refine Post.block_normal ?_
        refine Post.then_ ?_
        refine Cd.region ?_
        refine Seq.val (Runs.move rfl rfl) rfl rfl rfl ?_
        refine Seq.val (Runs.addI rfl rfl rfl (by omega) (by omega)) rfl rfl rfl ?_
        refine Seq.val (Runs.assign rfl rfl) rfl rfl rfl ?_
        refine Seq.nil ?_
        refine Post.weak (F' := [(0, _), (3, _), (4, _), (5, _), (6, _), (7, _), (38, _)]) ⟨rfl, rfl, rfl, rfl, rfl, rfl, rfl, trivial⟩ ?_
        exact Post.round (1, on', sz + a.t.length) ⟨rfl, rfl, rfl, rfl, trivial⟩ ⟨by simp only; omega, by simp only; omega, by simp only; omega, rfl⟩ (by omega)
  · skip
    refine Cd.exit ?_
    refine Post.then_exit ?_
    refine Post.round_exit ?_
    refine Post.block_exit ?_
    refine Post.then_ ?_
    refine Cd.seq ?_
    refine Cd.region ?_
    refine Seq.val (Runs.move rfl rfl) rfl rfl rfl ?_
    refine Seq.val (Runs.gtr rfl rfl rfl) rfl rfl rfl ?_
    refine Seq.val (Runs.move rfl rfl) rfl rfl rfl ?_
    refine SeqC.start ?_
    refine SeqC.open rfl rfl rfl rfl rfl rfl rfl (fun hcx => Runs.move rfl rfl) ?_
    refine SeqC.next rfl rfl rfl rfl rfl rfl rfl (fun hcx => Runs.gtr rfl rfl rfl) ?_
    refine SeqC.or rfl rfl rfl rfl rfl rfl rfl ?_
    refine Seq.val (Runs.assign rfl rfl) rfl rfl rfl ?_
    refine Seq.nil ?_
    refine Post.weak (F' := [(0, _), (2, _), (3, _), (4, _), (5, _), (11, _)]) ⟨rfl, rfl, rfl, rfl, rfl, rfl, trivial⟩ ?_
    refine Post.then_ ?_
    refine Cd.ret ?_
    refine Post.end1 rfl rfl (.inl rfl) ?_
    exact ⟨⟨_, rfl⟩, rfl⟩
end Go.Proofs.YtefpejnmhlhnkaaGreatDoor

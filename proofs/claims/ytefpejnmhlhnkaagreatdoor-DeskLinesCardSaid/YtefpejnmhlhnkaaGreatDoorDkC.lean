/-
  The law DeskLines. Condition: the tables stand as they are laid.
-/
import Derived.Test.YtefpejnmhlhnkaaGreatDoorDkB
import Derived.Test.YtefpejnmhlhnkaaGreatDoorIUF
namespace Go.Proofs.YtefpejnmhlhnkaaGreatDoor
open Go.RowKit

theorem Ln.step {w w' : World} {B g room : Nat} {closed : Bool} {vs : List Int} (h : Ln w B g room closed vs) (hb : Below w.heap.size w w') : Ln w' B g room closed vs := by
  obtain ⟨⟨R, s, r, hR, k0, hc⟩, hg⟩ := h
  exact ⟨⟨R, s, r, hR, k0.step hb, (hb.block R (Array.getElem?_eq_some_iff.1 hc).1).trans hc⟩, hg⟩
theorem Ln.app {w w' : World} {B g room : Nat} {closed : Bool} {vs : List Int} (h : Ln w B g room closed vs) (ha : AppC w w' B 3) : Ln w' B g room closed vs := by
  obtain ⟨⟨R, s, r, hR, k0, hc⟩, hg⟩ := h
  refine ⟨⟨R, s, r, hR, (ha.keep g k0.lt fun cur q => ?_).trans k0, (ha.keep R (Array.getElem?_eq_some_iff.1 hc).1 fun cur q => ?_).trans hc⟩, hg⟩
  · have := k0.symm.trans q
    injection this with this
    injection this with h1 h2 h3
    exact absurd h2 (by decide)
  · have := hc.symm.trans q
    cases this
theorem Is_len (l : List Int) : (Is l).length = l.length := by simp [Is]
theorem Cut.lenI {w : World} {B e : Nat} {v : Value} {l : List Int} (h : Cut w B e v (Is l)) : ∃ A c, v = .slice A l.length c := by
  obtain ⟨A, c, h⟩ := h.len
  rw [Is_len] at h
  exact ⟨A, c, h⟩
theorem Cut.headI {w : World} {B e : Nat} {v : Value} {x : Int} {l : List Int} (h : Cut w B e v (Is (x :: l))) : ∃ a c, v = .slice (some a) (l.length + 1) c ∧ w.cell? (a.add 0) = some (.int .i64 x) := by
  obtain ⟨a, c, h, h2⟩ := Cut.head (u := .int .i64 x) (xs := Is l) h
  rw [Is_len] at h
  exact ⟨a, c, h, h2⟩
/-- Acts, as cells. -/
def Ac (l : List (Int × Int)) : List Value := l.flatMap fun x => [.int .i64 x.1, .int .i64 x.2]
theorem Ac_len (l : List (Int × Int)) : (Ac l).length = l.length * 2 := by
  induction l with
  | nil => rfl
  | cons x r ih =>
    show ([Value.int .i64 x.1, Value.int .i64 x.2] ++ Ac r).length = _
    rw [List.length_append, ih, List.length_cons]
    simp
    omega
theorem Ac_get : ∀ (l : List (Int × Int)) (i : Nat) (x : Int × Int), l[i]? = some x → (Ac l)[i * 2]? = some (.int .i64 x.1) ∧ (Ac l)[i * 2 + 1]? = some (.int .i64 x.2)
  | [], i, x, h => by simp at h
  | y :: r, 0, x, h => by
    simp at h
    subst h
    exact ⟨rfl, rfl⟩
  | y :: r, i + 1, x, h => by
    obtain ⟨h1, h2⟩ := Ac_get r i x (by simpa using h)
    rw [show (i + 1) * 2 = i * 2 + 2 by omega, show i * 2 + 2 + 1 = i * 2 + 1 + 2 by omega]
    exact ⟨h1, h2⟩
set_option maxHeartbeats 4000000 in
theorem walk_lines (A : Option Addr) (n c : Nat) (room : Int) (l : List (Int × Int)) (w : World) (nb : Nb w) (hr : Reads w w.heap.size 2 A n (Ac l)) :
    Calls Tryz.prog 3 #[.int .i64 room, .slice A n c] w fun e w' => e = .returned (.bool true) ∧ Below w.heap.size w w' := by
  have bel := Below.refl w.heap.size w
  have hl : l.length = n := by have := hr.1; rw [Ac_len] at this; omega
  refine Calls.start 105 Tryz.func3 rfl rfl rfl ?_
  refine Cd.seq ?_
  refine Cd.region ?_
  refine Seq.val (Runs.assign rfl rfl) rfl rfl rfl ?_
  refine Seq.nil ?_
  refine Post.weak (F' := [(0, _), (1, _), (4, _)]) ⟨rfl, rfl, rfl, trivial⟩ ?_
  refine Post.then_ ?_
  refine Cd.seq ?_
  refine Cd.seq ?_
  refine Cd.region ?_
  refine Seq.val (Runs.move rfl rfl) rfl rfl rfl ?_
  refine Seq.val (Runs.len rfl rfl Tryz.underlying22) rfl rfl rfl ?_
  refine Seq.val (Runs.gtr rfl rfl rfl) rfl rfl rfl ?_
  refine Seq.val (Runs.move rfl rfl) rfl rfl rfl ?_
  refine SeqC.start ?_
  refine SeqC.openC rfl rfl rfl rfl rfl rfl rfl (fun hcx => Enters.func rfl rfl rfl (run_enter Tryz.func5 (by kernel_rfl) rfl)) (fun hcx => awake28_any _ nb) ?_
  intro w1 hw1
  replace bel := bel.step hw1
  replace nb := nb.step hw1
  refine SeqC.next rfl rfl rfl rfl rfl rfl rfl (fun hcx => Runs.not rfl rfl) ?_
  refine SeqC.or rfl rfl rfl rfl rfl rfl rfl ?_
  refine Seq.nil ?_
  refine Post.weak (F' := [(0, _), (1, _), (4, _), (18, _)]) ⟨rfl, rfl, rfl, rfl, trivial⟩ ?_
  refine Post.then_ ?_
  refine Cd.cond rfl (fun h => ?_) (fun h => ?_)
  · skip
    refine Cd.seq ?_
    refine Cd.region ?_
    refine Seq.call (Enters.func rfl rfl rfl (run_enter Tryz.func5 (by kernel_rfl) rfl)) rfl rfl rfl (awake28_any _ nb) ?_
    rintro e w5 ⟨rfl, hb5⟩
    refine ⟨_, rfl, ?_⟩
    replace bel := bel.step hb5
    replace nb := nb.step hb5
    refine Seq.val (Runs.assign rfl rfl) rfl rfl rfl ?_
    refine Seq.nil ?_
    refine Post.weak (F' := [(0, _), (1, _), (4, _), (18, _)]) ⟨rfl, rfl, rfl, rfl, trivial⟩ ?_
    refine Post.then_ ?_
    refine Cd.ret ?_
    refine Post.then_ret ?_
    refine Post.end1 rfl rfl (.inl rfl) ?_
    exact ⟨rfl, bel⟩
  have hn : n ≤ 200 := by simp at h; omega
  refine Cd.skip ?_
  refine Post.then_ ?_
  refine Cd.seq ?_
  refine Cd.region ?_
  refine Seq.val (Runs.move rfl rfl) rfl rfl rfl ?_
  refine Seq.call (Enters.func rfl rfl rfl (run_enter Tryz.func6 (by kernel_rfl) rfl)) rfl rfl rfl (newLine_any room _) ?_
  rintro e w2 (⟨h2, rfl, rfl⟩ | ⟨h1, h2, g, rfl, hLn, hb2⟩)
  · refine ⟨_, rfl, ?_⟩
    refine Seq.val (Runs.assign rfl rfl) rfl rfl rfl ?_
    refine Seq.nil ?_
    refine Post.weak (F' := [(0, _), (1, _), (4, _), (5, _), (18, _)]) ⟨rfl, rfl, rfl, rfl, rfl, trivial⟩ ?_
    refine Post.then_ ?_
    refine Cd.seq ?_
    refine Cd.seq ?_
    refine Cd.region ?_
    refine Seq.val (Runs.move rfl rfl) rfl rfl rfl ?_
    refine Seq.val (Runs.lss rfl rfl rfl) rfl rfl rfl ?_
    refine Seq.val (Runs.move rfl rfl) rfl rfl rfl ?_
    refine SeqC.start ?_
    refine SeqC.open rfl rfl rfl rfl rfl rfl rfl (fun hcx => Runs.move rfl rfl) ?_
    refine SeqC.next rfl rfl rfl rfl rfl rfl rfl (fun hcx => Runs.gtr rfl rfl rfl) ?_
    refine SeqC.or rfl rfl rfl rfl rfl rfl rfl ?_
    refine Seq.nil ?_
    refine Post.weak (F' := [(0, _), (1, _), (4, _), (5, _), (18, _), (27, _)]) ⟨rfl, rfl, rfl, rfl, rfl, rfl, trivial⟩ ?_
    refine Post.then_ ?_
    refine Cd.condT rfl (by simp; omega) ?_
    refine Cd.seq ?_
    refine Cd.region ?_
    refine Seq.val (Runs.move rfl rfl) rfl rfl rfl ?_
    refine Seq.val (Runs.eqlP rfl rfl rfl Tryz.underlying24) rfl rfl rfl ?_
    refine Seq.val (Runs.assign rfl rfl) rfl rfl rfl ?_
    refine Seq.nil ?_
    refine Post.weak (F' := [(0, _), (1, _), (4, _), (5, _), (18, _), (27, _)]) ⟨rfl, rfl, rfl, rfl, rfl, rfl, trivial⟩ ?_
    refine Post.then_ ?_
    refine Cd.ret ?_
    refine Post.then_ret ?_
    refine Post.end1 rfl rfl (.inl rfl) ?_
    exact ⟨rfl, bel⟩
  refine ⟨_, rfl, ?_⟩
  obtain ⟨m, rfl⟩ : ∃ m : Nat, room = (m : Int) := ⟨room.toNat, by omega⟩
  rw [Int.toNat_natCast] at hLn
  have hB1 := bel.size
  obtain ⟨B, hB⟩ : ∃ B, w1.heap.size = B := ⟨_, rfl⟩
  rw [hB] at hLn hB1 hb2
  replace bel := bel.trans (hb2.mono hB1)
  have hB2 := hb2.size
  rw [hB] at hB2
  refine Seq.val (Runs.assign rfl rfl) rfl rfl rfl ?_
  refine Seq.nil ?_
  refine Post.weak (F' := [(0, _), (1, _), (4, _), (5, _), (18, _)]) ⟨rfl, rfl, rfl, rfl, rfl, trivial⟩ ?_
  refine Post.then_ ?_
  refine Cd.seq ?_
  refine Cd.seq ?_
  refine Cd.region ?_
  refine Seq.val (Runs.move rfl rfl) rfl rfl rfl ?_
  refine Seq.val (Runs.lss rfl rfl rfl) rfl rfl rfl ?_
  refine Seq.val (Runs.move rfl rfl) rfl rfl rfl ?_
  refine SeqC.start ?_
  refine SeqC.open rfl rfl rfl rfl rfl rfl rfl (fun hcx => Runs.move rfl rfl) ?_
  refine SeqC.next rfl rfl rfl rfl rfl rfl rfl (fun hcx => Runs.gtr rfl rfl rfl) ?_
  refine SeqC.or rfl rfl rfl rfl rfl rfl rfl ?_
  refine Seq.nil ?_
  refine Post.weak (F' := [(0, _), (1, _), (4, _), (5, _), (18, _), (27, _)]) ⟨rfl, rfl, rfl, rfl, rfl, rfl, trivial⟩ ?_
  refine Post.then_ ?_
  refine Cd.condF rfl (by simp; omega) ?_
  refine Cd.skip ?_
  refine Post.then_ ?_
  refine Cd.seq ?_
  refine Cd.region ?_
  refine Seq.val (Runs.assign rfl rfl) rfl rfl rfl ?_
  refine Seq.nil ?_
  refine Post.weak (F' := [(0, _), (1, _), (4, _), (5, _), (6, _), (18, _), (27, _)]) ⟨rfl, rfl, rfl, rfl, rfl, rfl, rfl, trivial⟩ ?_
  refine Post.then_ ?_
  refine Cd.seq ?_
  refine Cd.region ?_
  refine Seq.val (Runs.assign rfl rfl) rfl rfl rfl ?_
  refine Seq.nil ?_
  refine Post.weak (F' := [(0, _), (1, _), (4, _), (5, _), (6, _), (7, _), (18, _), (27, _)]) ⟨rfl, rfl, rfl, rfl, rfl, rfl, rfl, rfl, trivial⟩ ?_
  refine Post.then_ ?_
  refine Cd.seq ?_
  refine Cd.seq ?_
  refine Cd.region ?_
  refine Seq.val (Runs.assign rfl rfl) rfl rfl rfl ?_
  refine Seq.nil ?_
  refine Post.weak (F' := [(0, _), (1, _), (4, _), (5, _), (6, _), (7, _), (8, _), (18, _), (27, _)]) ⟨rfl, rfl, rfl, rfl, rfl, rfl, rfl, rfl, rfl, trivial⟩ ?_
  refine Post.then_ ?_
  refine Cd.block ?_
  have own : Cut w2 B 3 (.slice none 0 0) (Is []) := Cut.nil w2 B 3
  refine Cd.loop (σ := Nat × List Int × Bool × Value) (fun q => [(0, .int .i64 (m : Int)), (1, .slice A n c), (5, .pointer (some ⟨g, 0, none⟩)), (6, q.2.2.2), (7, .bool q.2.2.1), (8, .int .i64 (q.1 : Int))])
    (fun q wr => q.1 ≤ n ∧ q.2.1.length ≤ m ∧ Cut wr B 3 q.2.2.2 (Is q.2.1) ∧ Ln wr B g m q.2.2.1 q.2.1 ∧ Below w.heap.size w wr ∧ B ≤ wr.heap.size) (fun q => n - q.1) (0, [], false, .slice none 0 0) ⟨by omega, by simp, own, hLn, bel, hB2⟩ ⟨rfl, rfl, rfl, rfl, rfl, rfl, trivial⟩ ?_
  clear own hLn bel hB2 hb2
  rintro ⟨i, now, closed, v⟩ wr ⟨hi, hm, own, hLn, bel, hB2⟩
  simp only at hi hm own hLn
  have own0 := own
  obtain ⟨A6, c6, rfl⟩ := own.lenI
  show Cd _ _ _ _ [(0, .int .i64 (m : Int)), (1, .slice A n c), (5, .pointer (some ⟨g, 0, none⟩)), (6, .slice A6 now.length c6), (7, .bool closed), (8, .int .i64 (i : Int))] _
  refine Cd.seq ?_
  refine Cd.seq ?_
  refine Cd.region ?_
  refine Seq.val (Runs.move rfl rfl) rfl rfl rfl ?_
  refine Seq.val (Runs.move rfl rfl) rfl rfl rfl ?_
  refine Seq.val (Runs.len rfl rfl Tryz.underlying22) rfl rfl rfl ?_
  refine Seq.val (Runs.lss rfl rfl rfl) rfl rfl rfl ?_
  refine Seq.nil ?_
  refine Post.weak (F' := [(0, _), (1, _), (5, _), (6, _), (7, _), (8, _), (33, _)]) ⟨rfl, rfl, rfl, rfl, rfl, rfl, rfl, trivial⟩ ?_
  refine Post.then_ ?_
  refine Cd.condD rfl (fun hc => ?_) (fun hc => ?_)
  · obtain ⟨⟨kd, N⟩, hx⟩ : ∃ x, l[i]? = some x := ⟨_, List.getElem?_eq_getElem (by omega)⟩
    obtain ⟨ad, rfl, hbd, hcl⟩ := hr.2 (by omega)
    have hg2 := Ac_get l i _ hx
    have ca : ∀ W, Below w.heap.size w W → W.cell? ((ad.add (i * 2)).add 0) = some (.int .i64 kd) := fun W hW => by
      rw [add_of_add]
      exact (hW.cell (by rw [block_of_add]; exact hbd)).trans (hcl _ _ hg2.1)
    have cb : ∀ W, Below w.heap.size w W → W.cell? ((ad.add (i * 2)).add 1) = some (.int .i64 N) := fun W hW => by
      rw [add_of_add]
      exact (hW.cell (by rw [block_of_add]; exact hbd)).trans (hcl _ _ hg2.2)
    refine Cd.skip ?_
    refine Post.then_ ?_
    refine Cd.seq ?_
    refine Cd.block ?_
    refine Cd.seq ?_
    refine Cd.seq ?_
    refine Cd.region ?_
    refine Seq.val (Runs.move rfl rfl) rfl rfl rfl ?_
    refine Seq.val (Runs.move rfl rfl) rfl rfl rfl ?_
    refine Seq.val (Runs.indexN rfl rfl rfl Tryz.underlying22 (s := 2) (by kernel_rfl) (j := i) rfl (by omega)) rfl rfl rfl ?_
    refine Seq.val (Runs.fieldA 0 rfl rfl Tryz.underlying28 rfl (by kernel_rfl)) rfl rfl rfl ?_
    refine Seq.val (Runs.load1 rfl rfl Tryz.underlying3 rfl (ca _ bel)) rfl rfl rfl ?_
    refine Seq.nil ?_
    refine Post.weak (F' := [(0, _), (1, _), (5, _), (6, _), (7, _), (8, _), (33, _), (40, _)]) ⟨rfl, rfl, rfl, rfl, rfl, rfl, rfl, rfl, trivial⟩ ?_
    refine Post.then_ ?_
    refine Cd.block ?_
    refine Cd.seq ?_
    refine Cd.region ?_
    refine Seq.val (Runs.eqlI rfl rfl rfl) rfl rfl rfl ?_
    refine Seq.val (Runs.assign rfl rfl) rfl rfl rfl ?_
    refine Seq.nil ?_
    refine Post.weak (F' := [(0, _), (1, _), (5, _), (6, _), (7, _), (8, _), (33, _), (40, _), (43, _)]) ⟨rfl, rfl, rfl, rfl, rfl, rfl, rfl, rfl, rfl, trivial⟩ ?_
    refine Post.then_ ?_
    by_cases h0 : kd = 0
    · subst h0
      refine Cd.condT rfl rfl ?_
      refine Cd.seq ?_
      refine Cd.region ?_
      refine Seq.val (Runs.assign rfl rfl) rfl rfl rfl ?_
      refine Seq.nil ?_
      refine Post.weak (F' := [(0, _), (1, _), (5, _), (6, _), (7, _), (8, _), (9, _), (33, _), (40, _), (43, _)]) ⟨rfl, rfl, rfl, rfl, rfl, rfl, rfl, rfl, rfl, rfl, trivial⟩ ?_
      refine Post.then_ ?_
      refine Cd.seq ?_
      refine Cd.seq ?_
      refine Cd.region ?_
      refine Seq.val (Runs.move rfl rfl) rfl rfl rfl ?_
      refine Seq.nil ?_
      refine Post.weak (F' := [(0, _), (1, _), (5, _), (6, _), (7, _), (8, _), (9, _), (33, _), (40, _), (43, _), (45, _)]) ⟨rfl, rfl, rfl, rfl, rfl, rfl, rfl, rfl, rfl, rfl, rfl, trivial⟩ ?_
      refine Post.then_ ?_
      cases closed with
      | true =>
        refine Cd.condT rfl rfl ?_
        refine Cd.region ?_
        refine Seq.val (Runs.assign rfl rfl) rfl rfl rfl ?_
        refine Seq.nil ?_
        refine Post.weak (F' := [(0, _), (1, _), (5, _), (6, _), (7, _), (8, _), (9, _), (33, _), (40, _), (43, _), (45, _)]) ⟨rfl, rfl, rfl, rfl, rfl, rfl, rfl, rfl, rfl, rfl, rfl, trivial⟩ ?_
        refine Post.then_ ?_
        refine Cd.seq ?_
        refine Cd.region ?_
        refine Seq.val (Runs.move rfl rfl) rfl rfl rfl ?_
        refine Seq.val (Runs.move rfl rfl) rfl rfl rfl ?_
        refine Seq.val (Runs.move rfl rfl) rfl rfl rfl ?_
        refine Seq.val (Runs.indexN rfl rfl rfl Tryz.underlying22 (s := 2) (by kernel_rfl) (j := i) rfl (by omega)) rfl rfl rfl ?_
        refine Seq.val (Runs.fieldA 1 rfl rfl Tryz.underlying28 rfl (by kernel_rfl)) rfl rfl rfl ?_
        refine Seq.val (Runs.load1 rfl rfl Tryz.underlying3 rfl (cb _ bel)) rfl rfl rfl ?_
        refine Seq.call (Enters.func rfl rfl rfl (run_enter Tryz.func7 (by kernel_rfl) rfl)) rfl rfl rfl (offer_any B g m true now N _ hLn) ?_
        rintro e w7 ⟨rfl, hLn7, f7⟩
        refine ⟨_, rfl, ?_⟩
        refine Seq.val (Runs.move rfl rfl) rfl rfl rfl ?_
        refine Seq.val (Runs.neqI rfl rfl rfl) rfl rfl rfl ?_
        refine Seq.nil ?_
        refine Post.weak (F' := [(0, _), (1, _), (5, _), (6, _), (7, _), (8, _), (9, _), (33, _), (40, _), (43, _), (45, _), (66, _)]) ⟨rfl, rfl, rfl, rfl, rfl, rfl, rfl, rfl, rfl, rfl, rfl, rfl, trivial⟩ ?_
        refine Post.then_ ?_
        refine Cd.condF rfl (by simp [offC]) ?_
        refine Cd.skip ?_
        refine Post.block_normal ?_
        refine Post.then_ ?_
        refine Cd.seq ?_
        refine Cd.region ?_
        refine Seq.val (Runs.move rfl rfl) rfl rfl rfl ?_
        refine Seq.call (Enters.func rfl rfl rfl (run_enter Tryz.func10 (by kernel_rfl) rfl)) rfl rfl rfl (lenLn_any B g m true _ _ hLn7) ?_
        rintro e w8 ⟨rfl, rfl⟩
        refine ⟨_, rfl, ?_⟩
        refine Seq.val (Runs.move rfl rfl) rfl rfl rfl ?_
        refine Seq.val (Runs.len rfl rfl Tryz.underlying26) rfl rfl rfl ?_
        refine Seq.val (Runs.neqI rfl rfl rfl) rfl rfl rfl ?_
        refine Seq.nil ?_
        refine Post.weak (F' := [(0, _), (1, _), (5, _), (6, _), (7, _), (8, _), (9, _), (33, _), (40, _), (43, _), (45, _), (66, _), (104, _)]) ⟨rfl, rfl, rfl, rfl, rfl, rfl, rfl, rfl, rfl, rfl, rfl, rfl, rfl, trivial⟩ ?_
        refine Post.then_ ?_
        refine Cd.condF rfl (by simp [offV]) ?_
        refine Cd.skip ?_
        refine Post.block_normal ?_
        refine Post.then_ ?_
        refine Cd.region ?_
        refine Seq.val (Runs.move rfl rfl) rfl rfl rfl ?_
        refine Seq.val (Runs.addI rfl rfl rfl (by omega) (by omega)) rfl rfl rfl ?_
        refine Seq.val (Runs.assign rfl rfl) rfl rfl rfl ?_
        refine Seq.nil ?_
        refine Post.weak (F' := [(0, _), (1, _), (5, _), (6, _), (7, _), (8, _), (9, _), (33, _), (40, _), (43, _), (45, _), (66, _), (104, _)]) ⟨rfl, rfl, rfl, rfl, rfl, rfl, rfl, rfl, rfl, rfl, rfl, rfl, rfl, trivial⟩ ?_
        exact Post.round (i + 1, now, true, .slice A6 now.length c6) ⟨rfl, rfl, rfl, rfl, rfl, rfl, trivial⟩ ⟨by omega, hm, own.same f7.keep, hLn7, bel.trans (f7.below.mono hB1), Nat.le_trans hB2 f7.below.size⟩ (by omega)
      | false =>
        refine Cd.condF rfl rfl ?_
        refine Cd.seq ?_
        refine Cd.region ?_
        refine Seq.val (Runs.move rfl rfl) rfl rfl rfl ?_
        refine Seq.val (Runs.len rfl rfl Tryz.underlying26) rfl rfl rfl ?_
        refine Seq.val (Runs.move rfl rfl) rfl rfl rfl ?_
        refine Seq.val (Runs.geq rfl rfl rfl) rfl rfl rfl ?_
        refine Seq.nil ?_
        refine Post.weak (F' := [(0, _), (1, _), (5, _), (6, _), (7, _), (8, _), (9, _), (33, _), (40, _), (43, _), (45, _), (49, _)]) ⟨rfl, rfl, rfl, rfl, rfl, rfl, rfl, rfl, rfl, rfl, rfl, rfl, trivial⟩ ?_
        refine Post.then_ ?_
        by_cases hf : m ≤ now.length
        · skip
          refine Cd.condT rfl (by simp; omega) ?_
          refine Cd.region ?_
          refine Seq.val (Runs.assign rfl rfl) rfl rfl rfl ?_
          refine Seq.nil ?_
          refine Post.weak (F' := [(0, _), (1, _), (5, _), (6, _), (7, _), (8, _), (9, _), (33, _), (40, _), (43, _), (45, _), (49, _)]) ⟨rfl, rfl, rfl, rfl, rfl, rfl, rfl, rfl, rfl, rfl, rfl, rfl, trivial⟩ ?_
          refine Post.then_ ?_
          refine Cd.seq ?_
          refine Cd.region ?_
          refine Seq.val (Runs.move rfl rfl) rfl rfl rfl ?_
          refine Seq.val (Runs.move rfl rfl) rfl rfl rfl ?_
          refine Seq.val (Runs.move rfl rfl) rfl rfl rfl ?_
          refine Seq.val (Runs.indexN rfl rfl rfl Tryz.underlying22 (s := 2) (by kernel_rfl) (j := i) rfl (by omega)) rfl rfl rfl ?_
          refine Seq.val (Runs.fieldA 1 rfl rfl Tryz.underlying28 rfl (by kernel_rfl)) rfl rfl rfl ?_
          refine Seq.val (Runs.load1 rfl rfl Tryz.underlying3 rfl (cb _ bel)) rfl rfl rfl ?_
          refine Seq.call (Enters.func rfl rfl rfl (run_enter Tryz.func7 (by kernel_rfl) rfl)) rfl rfl rfl (offer_any B g m false now N _ hLn) ?_
          rintro e w7 ⟨rfl, hLn7, f7⟩
          refine ⟨_, rfl, ?_⟩
          rw [show offV false m now N = now by simp [offV, hf]] at hLn7
          refine Seq.val (Runs.move rfl rfl) rfl rfl rfl ?_
          refine Seq.val (Runs.neqI rfl rfl rfl) rfl rfl rfl ?_
          refine Seq.nil ?_
          refine Post.weak (F' := [(0, _), (1, _), (5, _), (6, _), (7, _), (8, _), (9, _), (33, _), (40, _), (43, _), (45, _), (49, _), (66, _)]) ⟨rfl, rfl, rfl, rfl, rfl, rfl, rfl, rfl, rfl, rfl, rfl, rfl, rfl, trivial⟩ ?_
          refine Post.then_ ?_
          refine Cd.condF rfl (by simp [offC, hf]) ?_
          refine Cd.skip ?_
          refine Post.block_normal ?_
          refine Post.then_ ?_
          refine Cd.seq ?_
          refine Cd.region ?_
          refine Seq.val (Runs.move rfl rfl) rfl rfl rfl ?_
          refine Seq.call (Enters.func rfl rfl rfl (run_enter Tryz.func10 (by kernel_rfl) rfl)) rfl rfl rfl (lenLn_any B g m false _ _ hLn7) ?_
          rintro e w8 ⟨rfl, rfl⟩
          refine ⟨_, rfl, ?_⟩
          refine Seq.val (Runs.move rfl rfl) rfl rfl rfl ?_
          refine Seq.val (Runs.len rfl rfl Tryz.underlying26) rfl rfl rfl ?_
          refine Seq.val (Runs.neqI rfl rfl rfl) rfl rfl rfl ?_
          refine Seq.nil ?_
          refine Post.weak (F' := [(0, _), (1, _), (5, _), (6, _), (7, _), (8, _), (9, _), (33, _), (40, _), (43, _), (45, _), (49, _), (66, _), (104, _)]) ⟨rfl, rfl, rfl, rfl, rfl, rfl, rfl, rfl, rfl, rfl, rfl, rfl, rfl, rfl, trivial⟩ ?_
          refine Post.then_ ?_
          refine Cd.condF rfl (by simp) ?_
          refine Cd.skip ?_
          refine Post.block_normal ?_
          refine Post.then_ ?_
          refine Cd.region ?_
          refine Seq.val (Runs.move rfl rfl) rfl rfl rfl ?_
          refine Seq.val (Runs.addI rfl rfl rfl (by omega) (by omega)) rfl rfl rfl ?_
          refine Seq.val (Runs.assign rfl rfl) rfl rfl rfl ?_
          refine Seq.nil ?_
          refine Post.weak (F' := [(0, _), (1, _), (5, _), (6, _), (7, _), (8, _), (9, _), (33, _), (40, _), (43, _), (45, _), (49, _), (66, _), (104, _)]) ⟨rfl, rfl, rfl, rfl, rfl, rfl, rfl, rfl, rfl, rfl, rfl, rfl, rfl, rfl, trivial⟩ ?_
          exact Post.round (i + 1, now, false, .slice A6 now.length c6) ⟨rfl, rfl, rfl, rfl, rfl, rfl, trivial⟩ ⟨by omega, hm, own.same f7.keep, hLn7, bel.trans (f7.below.mono hB1), Nat.le_trans hB2 f7.below.size⟩ (by omega)
        · skip
          refine Cd.condF rfl (by simp; omega) ?_
          refine Cd.region ?_
          refine Seq.val (Runs.move rfl rfl) rfl rfl rfl ?_
          refine Seq.val (Runs.move rfl rfl) rfl rfl rfl ?_
          refine Seq.val (Runs.move rfl rfl) rfl rfl rfl ?_
          refine Seq.val (Runs.indexN rfl rfl rfl Tryz.underlying22 (s := 2) (by kernel_rfl) (j := i) rfl (by omega)) rfl rfl rfl ?_
          refine Seq.val (Runs.fieldA 1 rfl rfl Tryz.underlying28 rfl (by kernel_rfl)) rfl rfl rfl ?_
          refine Seq.val (Runs.load1 rfl rfl Tryz.underlying3 rfl (cb _ bel)) rfl rfl rfl ?_
          refine Seq.slice (vs := [_]) (s := 1) rfl rfl rfl Tryz.underlying26 (by kernel_rfl) (zero_int) (by omega) (by omega) ⟨rfl, trivial⟩ rfl rfl rfl ?_
          intro g56 w2 n56
          have e56 := Nat.le_trans bel.size n56.ge
          replace bel := bel.step n56.below
          replace own := own.step n56.below
          replace hLn := hLn.step n56.below
          have k56 := n56.blk
          have hsz := n56.below.size
          refine Seq.appendC rfl rfl rfl Tryz.underlying26 (by kernel_rfl) zero_int rfl (b := 8) (by kernel_rfl) own (Reads.blk k56 1 rfl) rfl (by omega) (by rw [Is_len]; omega) (by rw [Is_len]; simp only [maxLen]; omega) rfl rfl rfl ?_
          clear own
          intro v7 w7 own ha
          rw [show Is now ++ [Value.int .i64 N] = Is (now ++ [N]) by simp [Is]] at own
          obtain ⟨A7, c7, rfl⟩ := own.lenI
          replace hLn := hLn.app ha
          replace bel := bel.trans (ha.below.mono hB1)
          have hsz7 := ha.below.size
          refine Seq.val (Runs.assign rfl rfl) rfl rfl rfl ?_
          refine Seq.nil ?_
          refine Post.weak (F' := [(0, _), (1, _), (5, _), (6, _), (7, _), (8, _), (9, _), (33, _), (40, _), (43, _), (45, _), (49, _)]) ⟨rfl, rfl, rfl, rfl, rfl, rfl, rfl, rfl, rfl, rfl, rfl, rfl, trivial⟩ ?_
          refine Post.then_ ?_
          refine Cd.seq ?_
          refine Cd.region ?_
          refine Seq.val (Runs.move rfl rfl) rfl rfl rfl ?_
          refine Seq.val (Runs.move rfl rfl) rfl rfl rfl ?_
          refine Seq.val (Runs.move rfl rfl) rfl rfl rfl ?_
          refine Seq.val (Runs.indexN rfl rfl rfl Tryz.underlying22 (s := 2) (by kernel_rfl) (j := i) rfl (by omega)) rfl rfl rfl ?_
          refine Seq.val (Runs.fieldA 1 rfl rfl Tryz.underlying28 rfl (by kernel_rfl)) rfl rfl rfl ?_
          refine Seq.val (Runs.load1 rfl rfl Tryz.underlying3 rfl (cb _ bel)) rfl rfl rfl ?_
          refine Seq.call (Enters.func rfl rfl rfl (run_enter Tryz.func7 (by kernel_rfl) rfl)) rfl rfl rfl (offer_any B g m false now N _ hLn) ?_
          rintro e w8 ⟨rfl, hLn8, f8⟩
          refine ⟨_, rfl, ?_⟩
          rw [show offV false m now N = now ++ [N] by simp [offV, hf]] at hLn8
          refine Seq.val (Runs.move rfl rfl) rfl rfl rfl ?_
          refine Seq.val (Runs.neqI rfl rfl rfl) rfl rfl rfl ?_
          refine Seq.nil ?_
          refine Post.weak (F' := [(0, _), (1, _), (5, _), (6, _), (7, _), (8, _), (9, _), (33, _), (40, _), (43, _), (45, _), (49, _), (66, _)]) ⟨rfl, rfl, rfl, rfl, rfl, rfl, rfl, rfl, rfl, rfl, rfl, rfl, rfl, trivial⟩ ?_
          refine Post.then_ ?_
          refine Cd.condF rfl (by simp [offC, hf]) ?_
          refine Cd.skip ?_
          refine Post.block_normal ?_
          refine Post.then_ ?_
          refine Cd.seq ?_
          refine Cd.region ?_
          refine Seq.val (Runs.move rfl rfl) rfl rfl rfl ?_
          refine Seq.call (Enters.func rfl rfl rfl (run_enter Tryz.func10 (by kernel_rfl) rfl)) rfl rfl rfl (lenLn_any B g m false _ _ hLn8) ?_
          rintro e w9 ⟨rfl, rfl⟩
          refine ⟨_, rfl, ?_⟩
          refine Seq.val (Runs.move rfl rfl) rfl rfl rfl ?_
          refine Seq.val (Runs.len rfl rfl Tryz.underlying26) rfl rfl rfl ?_
          refine Seq.val (Runs.neqI rfl rfl rfl) rfl rfl rfl ?_
          refine Seq.nil ?_
          refine Post.weak (F' := [(0, _), (1, _), (5, _), (6, _), (7, _), (8, _), (9, _), (33, _), (40, _), (43, _), (45, _), (49, _), (66, _), (104, _)]) ⟨rfl, rfl, rfl, rfl, rfl, rfl, rfl, rfl, rfl, rfl, rfl, rfl, rfl, rfl, trivial⟩ ?_
          refine Post.then_ ?_
          refine Cd.condF rfl (by simp) ?_
          refine Cd.skip ?_
          refine Post.block_normal ?_
          refine Post.then_ ?_
          refine Cd.region ?_
          refine Seq.val (Runs.move rfl rfl) rfl rfl rfl ?_
          refine Seq.val (Runs.addI rfl rfl rfl (by omega) (by omega)) rfl rfl rfl ?_
          refine Seq.val (Runs.assign rfl rfl) rfl rfl rfl ?_
          refine Seq.nil ?_
          refine Post.weak (F' := [(0, _), (1, _), (5, _), (6, _), (7, _), (8, _), (9, _), (33, _), (40, _), (43, _), (45, _), (49, _), (66, _), (104, _)]) ⟨rfl, rfl, rfl, rfl, rfl, rfl, rfl, rfl, rfl, rfl, rfl, rfl, rfl, rfl, trivial⟩ ?_
          exact Post.round (i + 1, now ++ [N], false, .slice A7 (now ++ [N]).length c7) ⟨rfl, rfl, rfl, rfl, rfl, rfl, trivial⟩ ⟨by omega, by simp; omega, own.same f8.keep, hLn8, bel.trans (f8.below.mono hB1), by have := f8.below.size; omega⟩ (by omega)
    · skip
      refine Cd.condF rfl (by simpa using h0) ?_
      refine Cd.seq ?_
      refine Cd.region ?_
      refine Seq.val (Runs.eqlI rfl rfl rfl) rfl rfl rfl ?_
      refine Seq.val (Runs.assign rfl rfl) rfl rfl rfl ?_
      refine Seq.nil ?_
      refine Post.weak (F' := [(0, _), (1, _), (5, _), (6, _), (7, _), (8, _), (33, _), (40, _), (43, _), (67, _)]) ⟨rfl, rfl, rfl, rfl, rfl, rfl, rfl, rfl, rfl, rfl, trivial⟩ ?_
      refine Post.then_ ?_
      by_cases h1 : kd = 1
      · subst h1
        refine Cd.condT rfl rfl ?_
        refine Cd.seq ?_
        refine Cd.region ?_
        refine Seq.val (Runs.move rfl rfl) rfl rfl rfl ?_
        refine Seq.call (Enters.func rfl rfl rfl (run_enter Tryz.func8 (by kernel_rfl) rfl)) rfl rfl rfl (take_any B g m closed now _ hLn) ?_
        rintro e w7 ⟨rfl, hLn7, f7⟩
        refine ⟨_, rfl, ?_⟩
        replace own := own.same f7.keep
        replace bel := bel.trans (f7.below.mono hB1)
        have hB3 := Nat.le_trans hB2 f7.below.size
        cases now with
        | nil =>
          refine Seq.val (Runs.move rfl rfl) rfl rfl rfl ?_
          refine Seq.val (Runs.extract rfl rfl rfl) rfl rfl rfl ?_
          refine Seq.val (Runs.extract rfl rfl rfl) rfl rfl rfl ?_
          refine Seq.val (Runs.assign rfl rfl) rfl rfl rfl ?_
          refine Seq.val (Runs.assign rfl rfl) rfl rfl rfl ?_
          refine Seq.nil ?_
          refine Post.weak (F' := [(0, _), (1, _), (5, _), (6, _), (7, _), (8, _), (10, _), (11, _), (33, _), (40, _), (43, _), (67, _)]) ⟨rfl, rfl, rfl, rfl, rfl, rfl, rfl, rfl, rfl, rfl, rfl, rfl, trivial⟩ ?_
          refine Post.then_ ?_
          refine Cd.seq ?_
          refine Cd.seq ?_
          refine Cd.region ?_
          refine Seq.val (Runs.move rfl rfl) rfl rfl rfl ?_
          refine Seq.val (Runs.move rfl rfl) rfl rfl rfl ?_
          refine Seq.val (Runs.len rfl rfl Tryz.underlying26) rfl rfl rfl ?_
          refine Seq.val (Runs.gtr rfl rfl rfl) rfl rfl rfl ?_
          refine Seq.val (Runs.neqB rfl rfl rfl Tryz.underlying4) rfl rfl rfl ?_
          refine Seq.val (Runs.move rfl rfl) rfl rfl rfl ?_
          refine SeqC.start ?_
          refine SeqC.open rfl rfl rfl rfl rfl rfl rfl (fun hcx => Runs.move rfl rfl) ?_
          refine SeqC.next rfl rfl rfl rfl rfl rfl rfl (fun hcx => Runs.move rfl rfl) ?_
          refine SeqC.open rfl rfl rfl rfl rfl rfl rfl (fun hcx => Runs.move rfl rfl) ?_
          refine SeqC.next rfl rfl rfl rfl rfl rfl rfl (fun hcx => Runs.move rfl rfl) ?_
          refine SeqC.next rfl rfl rfl rfl rfl rfl rfl (fun hcx => (by simp at hcx : Runs _ _ _ _ (Value.pointer none) _)) ?_
          refine SeqC.next rfl rfl rfl rfl rfl rfl rfl (fun hcx => (by simp at hcx : Runs _ _ _ _ (Value.int .i64 0) _)) ?_
          refine SeqC.next rfl rfl rfl rfl rfl rfl rfl (fun hcx => Runs.neqI rfl rfl rfl) ?_
          refine SeqC.andG rfl rfl rfl rfl rfl rfl rfl rfl rfl rfl rfl ?_
          refine SeqC.or rfl rfl rfl rfl rfl rfl rfl ?_
          refine Seq.val (Runs.move rfl rfl) rfl rfl rfl ?_
          refine SeqC.start ?_
          refine SeqC.open rfl rfl rfl rfl rfl rfl rfl (fun hcx => Runs.move rfl rfl) ?_
          refine SeqC.next rfl rfl rfl rfl rfl rfl rfl (fun hcx => Runs.not rfl rfl) ?_
          refine SeqC.next rfl rfl rfl rfl rfl rfl rfl (fun hcx => Runs.move rfl rfl) ?_
          refine SeqC.open rfl rfl rfl rfl rfl rfl rfl (fun hcx => Runs.move rfl rfl) ?_
          refine SeqC.next rfl rfl rfl rfl rfl rfl rfl (fun hcx => Runs.neqI rfl rfl rfl) ?_
          refine SeqC.andG rfl rfl rfl rfl rfl rfl rfl rfl rfl rfl rfl ?_
          refine SeqC.or rfl rfl rfl rfl rfl rfl rfl ?_
          refine Seq.nil ?_
          refine Post.weak (F' := [(0, _), (1, _), (5, _), (6, _), (7, _), (8, _), (10, _), (11, _), (33, _), (40, _), (43, _), (67, _), (96, _)]) ⟨rfl, rfl, rfl, rfl, rfl, rfl, rfl, rfl, rfl, rfl, rfl, rfl, rfl, trivial⟩ ?_
          refine Post.then_ ?_
          refine Cd.condF rfl (by simp) ?_
          refine Cd.skip ?_
          refine Post.then_ ?_
          refine Cd.seq ?_
          refine Cd.region ?_
          refine Seq.val (Runs.move rfl rfl) rfl rfl rfl ?_
          refine Seq.nil ?_
          refine Post.weak (F' := [(0, _), (1, _), (5, _), (6, _), (7, _), (8, _), (10, _), (11, _), (33, _), (40, _), (43, _), (67, _), (96, _), (97, _)]) ⟨rfl, rfl, rfl, rfl, rfl, rfl, rfl, rfl, rfl, rfl, rfl, rfl, rfl, rfl, trivial⟩ ?_
          refine Post.then_ ?_
          refine Cd.condF rfl rfl ?_
          refine Cd.skip ?_
          refine Post.block_normal ?_
          refine Post.then_ ?_
          refine Cd.seq ?_
          refine Cd.region ?_
          refine Seq.val (Runs.move rfl rfl) rfl rfl rfl ?_
          refine Seq.call (Enters.func rfl rfl rfl (run_enter Tryz.func10 (by kernel_rfl) rfl)) rfl rfl rfl (lenLn_any B g m closed _ _ hLn7) ?_
          rintro e w8 ⟨rfl, rfl⟩
          refine ⟨_, rfl, ?_⟩
          refine Seq.val (Runs.move rfl rfl) rfl rfl rfl ?_
          refine Seq.val (Runs.len rfl rfl Tryz.underlying26) rfl rfl rfl ?_
          refine Seq.val (Runs.neqI rfl rfl rfl) rfl rfl rfl ?_
          refine Seq.nil ?_
          refine Post.weak (F' := [(0, _), (1, _), (5, _), (6, _), (7, _), (8, _), (10, _), (11, _), (33, _), (40, _), (43, _), (67, _), (96, _), (97, _), (104, _)]) ⟨rfl, rfl, rfl, rfl, rfl, rfl, rfl, rfl, rfl, rfl, rfl, rfl, rfl, rfl, rfl, trivial⟩ ?_
          refine Post.then_ ?_
          refine Cd.condF rfl (by simp) ?_
          refine Cd.skip ?_
          refine Post.block_normal ?_
          refine Post.then_ ?_
          refine Cd.region ?_
          refine Seq.val (Runs.move rfl rfl) rfl rfl rfl ?_
          refine Seq.val (Runs.addI rfl rfl rfl (by omega) (by omega)) rfl rfl rfl ?_
          refine Seq.val (Runs.assign rfl rfl) rfl rfl rfl ?_
          refine Seq.nil ?_
          refine Post.weak (F' := [(0, _), (1, _), (5, _), (6, _), (7, _), (8, _), (10, _), (11, _), (33, _), (40, _), (43, _), (67, _), (96, _), (97, _), (104, _)]) ⟨rfl, rfl, rfl, rfl, rfl, rfl, rfl, rfl, rfl, rfl, rfl, rfl, rfl, rfl, rfl, trivial⟩ ?_
          exact Post.round (i + 1, [], closed, .slice A6 0 c6) ⟨rfl, rfl, rfl, rfl, rfl, rfl, trivial⟩ ⟨by omega, by simp, own, hLn7, bel, hB3⟩ (by omega)
        | cons x now =>
          obtain ⟨a7, c7, e7, hc7⟩ := own.headI
          injection e7 with e7 e7' e7''
          subst e7
          refine Seq.val (Runs.move rfl rfl) rfl rfl rfl ?_
          refine Seq.val (Runs.extract rfl rfl rfl) rfl rfl rfl ?_
          refine Seq.val (Runs.extract rfl rfl rfl) rfl rfl rfl ?_
          refine Seq.val (Runs.assign rfl rfl) rfl rfl rfl ?_
          refine Seq.val (Runs.assign rfl rfl) rfl rfl rfl ?_
          refine Seq.nil ?_
          refine Post.weak (F' := [(0, _), (1, _), (5, _), (6, _), (7, _), (8, _), (10, _), (11, _), (33, _), (40, _), (43, _), (67, _)]) ⟨rfl, rfl, rfl, rfl, rfl, rfl, rfl, rfl, rfl, rfl, rfl, rfl, trivial⟩ ?_
          refine Post.then_ ?_
          refine Cd.seq ?_
          refine Cd.seq ?_
          refine Cd.region ?_
          refine Seq.val (Runs.move rfl rfl) rfl rfl rfl ?_
          refine Seq.val (Runs.move rfl rfl) rfl rfl rfl ?_
          refine Seq.val (Runs.len rfl rfl Tryz.underlying26) rfl rfl rfl ?_
          refine Seq.val (Runs.gtr rfl rfl rfl) rfl rfl rfl ?_
          refine Seq.val (Runs.neqB rfl rfl rfl Tryz.underlying4) rfl rfl rfl ?_
          refine Seq.val (Runs.move rfl rfl) rfl rfl rfl ?_
          refine SeqC.start ?_
          refine SeqC.open rfl rfl rfl rfl rfl rfl rfl (fun hcx => Runs.move rfl rfl) ?_
          refine SeqC.next rfl rfl rfl rfl rfl rfl rfl (fun hcx => Runs.move rfl rfl) ?_
          refine SeqC.open rfl rfl rfl rfl rfl rfl rfl (fun hcx => Runs.move rfl rfl) ?_
          refine SeqC.next rfl rfl rfl rfl rfl rfl rfl (fun hcx => Runs.move rfl rfl) ?_
          refine SeqC.next rfl rfl rfl rfl rfl rfl rfl (fun hcx => Runs.index1 rfl rfl rfl Tryz.underlying26 (by kernel_rfl) (j := 0) rfl (by simp)) ?_
          refine SeqC.next rfl rfl rfl rfl rfl rfl rfl (fun hcx => Runs.load1 rfl rfl Tryz.underlying3 rfl hc7) ?_
          refine SeqC.next rfl rfl rfl rfl rfl rfl rfl (fun hcx => Runs.neqI rfl rfl rfl) ?_
          refine SeqC.andG rfl rfl rfl rfl rfl rfl rfl rfl rfl rfl rfl ?_
          refine SeqC.or rfl rfl rfl rfl rfl rfl rfl ?_
          refine Seq.val (Runs.move rfl rfl) rfl rfl rfl ?_
          refine SeqC.start ?_
          refine SeqC.open rfl rfl rfl rfl rfl rfl rfl (fun hcx => Runs.move rfl rfl) ?_
          refine SeqC.next rfl rfl rfl rfl rfl rfl rfl (fun hcx => Runs.not rfl rfl) ?_
          refine SeqC.next rfl rfl rfl rfl rfl rfl rfl (fun hcx => Runs.move rfl rfl) ?_
          refine SeqC.open rfl rfl rfl rfl rfl rfl rfl (fun hcx => Runs.move rfl rfl) ?_
          refine SeqC.next rfl rfl rfl rfl rfl rfl rfl (fun hcx => Runs.neqI rfl rfl rfl) ?_
          refine SeqC.andG rfl rfl rfl rfl rfl rfl rfl rfl rfl rfl rfl ?_
          refine SeqC.or rfl rfl rfl rfl rfl rfl rfl ?_
          refine Seq.nil ?_
          refine Post.weak (F' := [(0, _), (1, _), (5, _), (6, _), (7, _), (8, _), (10, _), (11, _), (33, _), (40, _), (43, _), (67, _), (96, _)]) ⟨rfl, rfl, rfl, rfl, rfl, rfl, rfl, rfl, rfl, rfl, rfl, rfl, rfl, trivial⟩ ?_
          refine Post.then_ ?_
          refine Cd.condF rfl (by simp) ?_
          refine Cd.skip ?_
          refine Post.then_ ?_
          refine Cd.seq ?_
          refine Cd.region ?_
          refine Seq.val (Runs.move rfl rfl) rfl rfl rfl ?_
          refine Seq.nil ?_
          refine Post.weak (F' := [(0, _), (1, _), (5, _), (6, _), (7, _), (8, _), (10, _), (11, _), (33, _), (40, _), (43, _), (67, _), (96, _), (97, _)]) ⟨rfl, rfl, rfl, rfl, rfl, rfl, rfl, rfl, rfl, rfl, rfl, rfl, rfl, rfl, trivial⟩ ?_
          refine Post.then_ ?_
          refine Cd.condT rfl rfl ?_
          refine Cd.region ?_
          refine Seq.val (Runs.move rfl rfl) rfl rfl rfl ?_
          refine Seq.cut rfl rfl Tryz.underlying26 (by kernel_rfl) own rfl rfl rfl ?_
          clear own
          intro v8 own
          replace own : Cut _ B 3 v8 (Is now) := own
          obtain ⟨A8, c8, rfl⟩ := own.lenI
          refine Seq.val (Runs.assign rfl rfl) rfl rfl rfl ?_
          refine Seq.nil ?_
          refine Post.weak (F' := [(0, _), (1, _), (5, _), (6, _), (7, _), (8, _), (10, _), (11, _), (33, _), (40, _), (43, _), (67, _), (96, _), (97, _)]) ⟨rfl, rfl, rfl, rfl, rfl, rfl, rfl, rfl, rfl, rfl, rfl, rfl, rfl, rfl, trivial⟩ ?_
          refine Post.block_normal ?_
          refine Post.then_ ?_
          refine Cd.seq ?_
          refine Cd.region ?_
          refine Seq.val (Runs.move rfl rfl) rfl rfl rfl ?_
          refine Seq.call (Enters.func rfl rfl rfl (run_enter Tryz.func10 (by kernel_rfl) rfl)) rfl rfl rfl (lenLn_any B g m closed _ _ hLn7) ?_
          rintro e w8 ⟨rfl, rfl⟩
          refine ⟨_, rfl, ?_⟩
          refine Seq.val (Runs.move rfl rfl) rfl rfl rfl ?_
          refine Seq.val (Runs.len rfl rfl Tryz.underlying26) rfl rfl rfl ?_
          refine Seq.val (Runs.neqI rfl rfl rfl) rfl rfl rfl ?_
          refine Seq.nil ?_
          refine Post.weak (F' := [(0, _), (1, _), (5, _), (6, _), (7, _), (8, _), (10, _), (11, _), (33, _), (40, _), (43, _), (67, _), (96, _), (97, _), (104, _)]) ⟨rfl, rfl, rfl, rfl, rfl, rfl, rfl, rfl, rfl, rfl, rfl, rfl, rfl, rfl, rfl, trivial⟩ ?_
          refine Post.then_ ?_
          refine Cd.condF rfl (by simp) ?_
          refine Cd.skip ?_
          refine Post.block_normal ?_
          refine Post.then_ ?_
          refine Cd.region ?_
          refine Seq.val (Runs.move rfl rfl) rfl rfl rfl ?_
          refine Seq.val (Runs.addI rfl rfl rfl (by omega) (by omega)) rfl rfl rfl ?_
          refine Seq.val (Runs.assign rfl rfl) rfl rfl rfl ?_
          refine Seq.nil ?_
          refine Post.weak (F' := [(0, _), (1, _), (5, _), (6, _), (7, _), (8, _), (10, _), (11, _), (33, _), (40, _), (43, _), (67, _), (96, _), (97, _), (104, _)]) ⟨rfl, rfl, rfl, rfl, rfl, rfl, rfl, rfl, rfl, rfl, rfl, rfl, rfl, rfl, rfl, trivial⟩ ?_
          exact Post.round (i + 1, now, closed, .slice A8 now.length c8) ⟨rfl, rfl, rfl, rfl, rfl, rfl, trivial⟩ ⟨by omega, by simp at hm ⊢; omega, own, hLn7, bel, hB3⟩ (by omega)
      · skip
        refine Cd.condF rfl (by simpa using h1) ?_
        refine Cd.seq ?_
        refine Cd.region ?_
        refine Seq.val (Runs.move rfl rfl) rfl rfl rfl ?_
        refine Seq.call (Enters.func rfl rfl rfl (run_enter Tryz.func9 (by kernel_rfl) rfl)) rfl rfl rfl (close_any B g m closed now _ hLn) ?_
        rintro e w7 ⟨rfl, hLn7, f7⟩
        refine ⟨_, rfl, ?_⟩
        refine Seq.nil ?_
        refine Post.weak (F' := [(0, _), (1, _), (5, _), (6, _), (7, _), (8, _), (33, _), (40, _), (43, _), (67, _)]) ⟨rfl, rfl, rfl, rfl, rfl, rfl, rfl, rfl, rfl, rfl, trivial⟩ ?_
        refine Post.then_ ?_
        refine Cd.region ?_
        refine Seq.val (Runs.assign rfl rfl) rfl rfl rfl ?_
        refine Seq.nil ?_
        refine Post.weak (F' := [(0, _), (1, _), (5, _), (6, _), (7, _), (8, _), (33, _), (40, _), (43, _), (67, _)]) ⟨rfl, rfl, rfl, rfl, rfl, rfl, rfl, rfl, rfl, rfl, trivial⟩ ?_
        refine Post.block_normal ?_
        refine Post.then_ ?_
        refine Cd.seq ?_
        refine Cd.region ?_
        refine Seq.val (Runs.move rfl rfl) rfl rfl rfl ?_
        refine Seq.call (Enters.func rfl rfl rfl (run_enter Tryz.func10 (by kernel_rfl) rfl)) rfl rfl rfl (lenLn_any B g m true _ _ hLn7) ?_
        rintro e w8 ⟨rfl, rfl⟩
        refine ⟨_, rfl, ?_⟩
        refine Seq.val (Runs.move rfl rfl) rfl rfl rfl ?_
        refine Seq.val (Runs.len rfl rfl Tryz.underlying26) rfl rfl rfl ?_
        refine Seq.val (Runs.neqI rfl rfl rfl) rfl rfl rfl ?_
        refine Seq.nil ?_
        refine Post.weak (F' := [(0, _), (1, _), (5, _), (6, _), (7, _), (8, _), (33, _), (40, _), (43, _), (67, _), (104, _)]) ⟨rfl, rfl, rfl, rfl, rfl, rfl, rfl, rfl, rfl, rfl, rfl, trivial⟩ ?_
        refine Post.then_ ?_
        refine Cd.condF rfl (by simp) ?_
        refine Cd.skip ?_
        refine Post.block_normal ?_
        refine Post.then_ ?_
        refine Cd.region ?_
        refine Seq.val (Runs.move rfl rfl) rfl rfl rfl ?_
        refine Seq.val (Runs.addI rfl rfl rfl (by omega) (by omega)) rfl rfl rfl ?_
        refine Seq.val (Runs.assign rfl rfl) rfl rfl rfl ?_
        refine Seq.nil ?_
        refine Post.weak (F' := [(0, _), (1, _), (5, _), (6, _), (7, _), (8, _), (33, _), (40, _), (43, _), (67, _), (104, _)]) ⟨rfl, rfl, rfl, rfl, rfl, rfl, rfl, rfl, rfl, rfl, rfl, trivial⟩ ?_
        exact Post.round (i + 1, now, true, .slice A6 now.length c6) ⟨rfl, rfl, rfl, rfl, rfl, rfl, trivial⟩ ⟨by omega, hm, own.same f7.keep, hLn7, bel.trans (f7.below.mono hB1), Nat.le_trans hB2 f7.below.size⟩ (by omega)
  · skip
    refine Cd.exit ?_
    refine Post.then_exit ?_
    refine Post.round_exit ?_
    refine Post.block_exit ?_
    refine Post.then_ ?_
    refine Cd.seq ?_
    refine Cd.region ?_
    refine Seq.val (Runs.assign rfl rfl) rfl rfl rfl ?_
    refine Seq.nil ?_
    refine Post.weak (F' := [(0, _), (1, _), (4, _), (5, _), (6, _), (7, _), (8, _), (33, _)]) ⟨rfl, rfl, rfl, rfl, rfl, rfl, rfl, rfl, trivial⟩ ?_
    refine Post.then_ ?_
    refine Cd.ret ?_
    refine Post.end1 rfl rfl (.inl rfl) ?_
    exact ⟨rfl, bel⟩
end Go.Proofs.YtefpejnmhlhnkaaGreatDoor

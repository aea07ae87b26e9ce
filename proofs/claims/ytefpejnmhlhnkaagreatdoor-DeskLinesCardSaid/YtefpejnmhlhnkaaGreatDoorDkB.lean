/-
  desk.Line of ints: NewLine, Offer, Take, Close, Len: what each answers and leaves. No condition but the line's own.
-/
import Derived.Test.YtefpejnmhlhnkaaGreatDoorProg
import Derived.Test.YtefpejnmhlhnkaaGreatDoorDkA
namespace Go.Proofs.YtefpejnmhlhnkaaGreatDoor
open Go.RowKit

theorem zero_int : zeroIs Tryz.prog 3 = some (some (.int .i64 0)) := by kernel_rfl
/-- A list of ints, as cells. -/
def Is (l : List Int) : List Value := l.map (.int .i64)
/-- A line: what waits, whether it is closed. -/
structure Ln (w : World) (B g room : Nat) (closed : Bool) (vs : List Int) : Prop where
  ex : ∃ R s r, B ≤ R ∧ Blk w g 69 #[.chan (some R), .bool closed] ∧ w.heap[R]? = some (.chan room (Is vs).toArray closed s r false)
  ge : B ≤ g
/-- Blocks below are as they were, and rows of ints. -/
structure LF (w w' : World) (B : Nat) : Prop where
  below : Below B w w'
  keep : ∀ (k : Nat), (∃ cur : Array Value, w.heap[k]? = some (Obj.cells cur 3 (0, 0))) → w'.heap[k]? = w.heap[k]?
theorem LF.refl (w : World) (B : Nat) : LF w w B := ⟨Below.refl _ _, fun _ _ => rfl⟩
theorem heap_setChan_ne (w : World) (R cap : Nat) (buf : Array Value) (c : Bool) (s r : Nat) (k : Nat) (h : k ≠ R) : (w.setChan R cap buf c s r false).heap[k]? = w.heap[k]? := by
  unfold World.setChan
  simp only
  rw [Array.getElem?_setIfInBounds_ne (fun q => h q.symm)]
theorem heap_setChan (w : World) (R cap : Nat) (buf : Array Value) (c : Bool) (s r : Nat) {o : Obj} (h : w.heap[R]? = some o) : (w.setChan R cap buf c s r false).heap[R]? = some (.chan cap buf c s r false) := by
  have := (Array.getElem?_eq_some_iff.1 h).1
  unfold World.setChan
  simp [this]
theorem LF.chan {w : World} {R B cap cap' : Nat} {buf buf' : Array Value} {c c' : Bool} {s r s' r' : Nat} (h : w.heap[R]? = some (.chan cap' buf' c' s' r' false)) (hB : B ≤ R) : LF w (w.setChan R cap buf c s r false) B := by
  refine ⟨⟨rfl, rfl, rfl, by simp [World.setChan], fun k hk => heap_setChan_ne _ _ _ _ _ _ _ _ (by omega)⟩, fun k ⟨cur, hc⟩ => heap_setChan_ne _ _ _ _ _ _ _ _ fun q => ?_⟩
  subst q
  rw [h] at hc
  cases hc
theorem Blk.chan {w : World} {R g T cap : Nat} {buf : Array Value} {c : Bool} {s r : Nat} {cs : Array Value} {cap' : Nat} {buf' : Array Value} {c' : Bool} {s' r' : Nat} (k : Blk w g T cs) (h : w.heap[R]? = some (.chan cap' buf' c' s' r' false)) : Blk (w.setChan R cap buf c s r false) g T cs := by
  have hne : g ≠ R := fun q => by
    subst q
    have := k.symm.trans h
    cases this
  exact (heap_setChan_ne _ _ _ _ _ _ _ _ hne).trans k
theorem run_build_Ln (R : Nat) (w : World) : (Instr.build 69 #[(0, .chan (some R))]).run Tryz.prog w = .ok (.agg #[.chan (some R), .bool false]) w := by
  have hu := Tryz.underlying69
  go_simp

theorem newLine_any (room : Int) (w : World) : Calls Tryz.prog 6 #[.int .i64 room] w fun e w' =>
    ((room < 1 ∨ 64 < room) ∧ e = .returned (.pointer none) ∧ w' = w) ∨ (1 ≤ room ∧ room ≤ 64 ∧ ∃ g, e = .returned (.pointer (some ⟨g, 0, none⟩)) ∧ Ln w' w.heap.size g room.toNat false [] ∧ Below w.heap.size w w') := by
  refine Calls.start 13 Tryz.func6 rfl rfl rfl ?_
  refine Cd.seq ?_
  refine Cd.region ?_
  refine Seq.val (Runs.assign rfl rfl) rfl rfl rfl ?_
  refine Seq.nil ?_
  refine Post.weak (F' := [(0, _), (2, _)]) ⟨rfl, rfl, trivial⟩ ?_
  refine Post.then_ ?_
  refine Cd.seq ?_
  refine Cd.seq ?_
  refine Cd.region ?_
  refine Seq.val (Runs.move rfl rfl) rfl rfl rfl ?_
  refine Seq.val (Runs.lss rfl rfl rfl) rfl rfl rfl ?_
  refine Seq.val (Runs.move rfl rfl) rfl rfl rfl ?_
  refine SeqC.start ?_
  refine SeqC.open rfl rfl rfl rfl rfl rfl rfl (fun hcx => Runs.move rfl rfl) ?_
  refine SeqC.next rfl rfl rfl rfl rfl rfl rfl (fun hcx => Runs.gtr rfl rfl rfl) ?_
  refine SeqC.or rfl rfl rfl rfl rfl rfl rfl ?_
  refine Seq.nil ?_
  refine Post.weak (F' := [(0, _), (2, _), (8, _)]) ⟨rfl, rfl, rfl, trivial⟩ ?_
  refine Post.then_ ?_
  refine Cd.cond rfl (fun h => ?_) (fun h => ?_)
  · skip
    refine Cd.seq ?_
    refine Cd.region ?_
    refine Seq.val (Runs.assign rfl rfl) rfl rfl rfl ?_
    refine Seq.nil ?_
    refine Post.weak (F' := [(0, _), (2, _), (8, _)]) ⟨rfl, rfl, rfl, trivial⟩ ?_
    refine Post.then_ ?_
    refine Cd.ret ?_
    refine Post.then_ret ?_
    refine Post.end1 rfl rfl (.inl rfl) ?_
    exact .inl ⟨by simp at h; omega, rfl, rfl⟩
  · skip
    obtain ⟨m, rfl⟩ : ∃ m : Nat, room = (m : Int) := ⟨room.toNat, by simp at h; omega⟩
    have hm : 1 ≤ m ∧ m ≤ 64 := by simp at h; omega
    refine Cd.skip ?_
    refine Post.then_ ?_
    refine Cd.seq ?_
    refine Cd.region ?_
    refine Seq.val (Runs.move rfl rfl) rfl rfl rfl ?_
    refine Seq.val (Runs.makeChan rfl rfl rfl Tryz.underlying67 (b := 8) (by kernel_rfl) (by omega) (by omega)) rfl rfl rfl ?_
    refine Seq.val (Runs.build rfl rfl (run_build_Ln _ _)) rfl rfl rfl ?_
    refine Seq.box rfl rfl rfl rfl rfl ?_
    intro g12 w1 n12
    have k12 := n12.blk
    refine Seq.val (Runs.assign rfl rfl) rfl rfl rfl ?_
    refine Seq.nil ?_
    refine Post.weak (F' := [(0, _), (2, _), (8, _)]) ⟨rfl, rfl, rfl, trivial⟩ ?_
    refine Post.then_ ?_
    refine Cd.ret ?_
    refine Post.end1 rfl rfl (.inl rfl) ?_
    have hc : (w.alloc (.chan m #[] false 0 0 false)).heap[w.heap.size]? = some (.chan m #[] false 0 0 false) := by
      show (w.heap.push _)[w.heap.size]? = _
      simp
    have hsz : (w.alloc (.chan m #[] false 0 0 false)).heap.size = w.heap.size + 1 := by
      show (w.heap.push _).size = _
      simp
    refine .inr ⟨by omega, by omega, g12, rfl, ⟨⟨w.heap.size, 0, 0, Nat.le_refl _, k12, ?_⟩, ?_⟩, ?_⟩
    · rw [n12.below.block _ (by omega)]
      exact hc
    · have := n12.ge
      omega
    · exact ((Below.refl _ w).alloc (Nat.le_refl _) _).trans (n12.below.mono (by omega))

theorem LF.trans {w w' w'' : World} {B : Nat} (h : LF w w' B) (k : LF w' w'' B) : LF w w'' B :=
  ⟨h.below.trans k.below, fun j ⟨cur, hc⟩ => (k.keep j ⟨cur, (h.keep j ⟨cur, hc⟩).trans hc⟩).trans (h.keep j ⟨cur, hc⟩)⟩
theorem LF.put {w w' : World} {B g : Nat} {cur cs : Array Value} (k : Blk w g 69 cur) (p : Put w w' g 69 cs) (hB : B ≤ g) : LF w w' B :=
  ⟨p.below hB k.lt, fun j ⟨c, hc⟩ => p.grown.block j (Array.getElem?_eq_some_iff.1 hc).1 fun q => by
    injection q with q
    subst q
    have := k.symm.trans hc
    injection this with this
    injection this with h1 h2 h3
    exact absurd h2 (by decide)⟩
def offC (closed : Bool) (room : Nat) (vs : List Int) : Int := if closed then 6 else if room ≤ vs.length then 17 else 0
def offV (closed : Bool) (room : Nat) (vs : List Int) (n : Int) : List Int := if closed then vs else if room ≤ vs.length then vs else vs ++ [n]
theorem Is_size (l : List Int) : (Is l).toArray.size = l.length := by simp [Is]
theorem offer_any (B g room : Nat) (closed : Bool) (vs : List Int) (n : Int) (w : World) (h : Ln w B g room closed vs) :
    Calls Tryz.prog 7 #[.pointer (some ⟨g, 0, none⟩), .int .i64 n] w fun e w' => e = .returned (.int .i64 (offC closed room vs)) ∧ Ln w' B g room closed (offV closed room vs n) ∧ LF w w' B := by
  obtain ⟨⟨R, s, r, hR, k0, hb⟩, hg⟩ := h
  refine Calls.start 21 Tryz.func7 rfl rfl rfl ?_
  refine Cd.seq ?_
  refine Cd.region ?_
  refine Seq.val (Runs.assign rfl rfl) rfl rfl rfl ?_
  refine Seq.nil ?_
  refine Post.weak (F' := [(0, _), (1, _), (4, _)]) ⟨rfl, rfl, rfl, trivial⟩ ?_
  refine Post.then_ ?_
  refine Cd.seq ?_
  refine Cd.block ?_
  refine Cd.seq ?_
  refine Cd.region ?_
  refine Seq.val (Runs.move rfl rfl) rfl rfl rfl ?_
  refine Seq.val (Runs.eqlP rfl rfl rfl Tryz.underlying24) rfl rfl rfl ?_
  refine Seq.val (Runs.assign rfl rfl) rfl rfl rfl ?_
  refine Seq.nil ?_
  refine Post.weak (F' := [(0, _), (1, _), (4, _), (5, _)]) ⟨rfl, rfl, rfl, rfl, trivial⟩ ?_
  refine Post.then_ ?_
  refine Cd.condF rfl rfl ?_
  refine Cd.seq ?_
  refine Cd.region ?_
  refine Seq.val (Runs.move rfl rfl) rfl rfl rfl ?_
  refine Seq.val (Runs.nilCheck rfl rfl) rfl rfl rfl ?_
  refine Seq.val (Runs.fieldB 1 rfl rfl Tryz.underlying69 rfl (by kernel_rfl)) rfl rfl rfl ?_
  refine Seq.val (Runs.loadB rfl rfl Tryz.underlying4 rfl k0 rfl) rfl rfl rfl ?_
  refine Seq.val (Runs.assign rfl rfl) rfl rfl rfl ?_
  refine Seq.nil ?_
  refine Post.weak (F' := [(0, _), (1, _), (4, _), (5, _), (8, _)]) ⟨rfl, rfl, rfl, rfl, rfl, trivial⟩ ?_
  refine Post.then_ ?_
  cases closed with
  | true =>
    refine Cd.condT rfl rfl ?_
    refine Cd.seq ?_
    refine Cd.region ?_
    refine Seq.val (Runs.assign rfl rfl) rfl rfl rfl ?_
    refine Seq.nil ?_
    refine Post.weak (F' := [(0, _), (1, _), (4, _), (5, _), (8, _)]) ⟨rfl, rfl, rfl, rfl, rfl, trivial⟩ ?_
    refine Post.then_ ?_
    refine Cd.ret ?_
    refine Post.block_ret ?_
    refine Post.then_ret ?_
    refine Post.end1 rfl rfl (.inl rfl) ?_
    exact ⟨rfl, ⟨⟨R, s, r, hR, k0, hb⟩, hg⟩, .refl _ _⟩
  | false =>
    refine Cd.condF rfl rfl ?_
    refine Cd.skip ?_
    refine Post.block_normal ?_
    refine Post.then_ ?_
    refine Cd.seq ?_
    refine Cd.seq ?_
    refine Cd.region ?_
    refine Seq.val (Runs.move rfl rfl) rfl rfl rfl ?_
    refine Seq.val (Runs.nilCheck rfl rfl) rfl rfl rfl ?_
    refine Seq.val (Runs.fieldB 0 rfl rfl Tryz.underlying69 rfl (by kernel_rfl)) rfl rfl rfl ?_
    refine Seq.val (Runs.loadB rfl rfl Tryz.underlying67 rfl k0 rfl) rfl rfl rfl ?_
    refine Seq.nil ?_
    refine Post.weak (F' := [(0, _), (1, _), (4, _), (5, _), (8, _), (16, _)]) ⟨rfl, rfl, rfl, rfl, rfl, rfl, trivial⟩ ?_
    refine Post.then_ ?_
    refine Cd.region ?_
    refine Seq.val (Runs.move rfl rfl) rfl rfl rfl ?_
    refine Seq.nil ?_
    refine Post.weak (F' := [(0, _), (1, _), (4, _), (5, _), (8, _), (16, _), (17, _)]) ⟨rfl, rfl, rfl, rfl, rfl, rfl, rfl, trivial⟩ ?_
    refine Post.then_ ?_
    refine Cd.seq ?_
    by_cases hf : room ≤ vs.length
    · skip
      refine Cd.sel (sel_full rfl rfl rfl rfl zero_int hb (by rw [Is_size]; exact hf)) rfl rfl ?_
      refine Seq.val (Runs.extract rfl rfl rfl) rfl rfl rfl ?_
      refine Seq.val (Runs.eqlI rfl rfl rfl) rfl rfl rfl ?_
      refine Seq.nil ?_
      refine Post.weak (F' := [(0, _), (1, _), (4, _), (5, _), (8, _), (16, _), (17, _), (20, _)]) ⟨rfl, rfl, rfl, rfl, rfl, rfl, rfl, rfl, trivial⟩ ?_
      refine Post.then_ ?_
      refine Cd.block ?_
      refine Cd.condF rfl rfl ?_
      refine Cd.seq ?_
      refine Cd.region ?_
      refine Seq.val (Runs.assign rfl rfl) rfl rfl rfl ?_
      refine Seq.nil ?_
      refine Post.weak (F' := [(0, _), (1, _), (4, _), (5, _), (8, _), (16, _), (17, _), (20, _)]) ⟨rfl, rfl, rfl, rfl, rfl, rfl, rfl, rfl, trivial⟩ ?_
      refine Post.then_ ?_
      refine Cd.ret ?_
      refine Post.block_ret ?_
      refine Post.end1 rfl rfl (.inl rfl) ?_
      refine ⟨by simp [offC, hf], ?_, .refl _ _⟩
      simp only [offV, hf, if_true, Bool.false_eq_true, if_false]
      exact ⟨⟨R, s, r, hR, k0, hb⟩, hg⟩
    · skip
      refine Cd.sel (sel_send rfl rfl rfl rfl zero_int hb (by rw [Is_size]; omega)) rfl rfl ?_
      refine Seq.val (Runs.extract rfl rfl rfl) rfl rfl rfl ?_
      refine Seq.val (Runs.eqlI rfl rfl rfl) rfl rfl rfl ?_
      refine Seq.nil ?_
      refine Post.weak (F' := [(0, _), (1, _), (4, _), (5, _), (8, _), (16, _), (17, _), (20, _)]) ⟨rfl, rfl, rfl, rfl, rfl, rfl, rfl, rfl, trivial⟩ ?_
      refine Post.then_ ?_
      refine Cd.block ?_
      refine Cd.condT rfl rfl ?_
      refine Cd.seq ?_
      refine Cd.region ?_
      refine Seq.val (Runs.assign rfl rfl) rfl rfl rfl ?_
      refine Seq.nil ?_
      refine Post.weak (F' := [(0, _), (1, _), (4, _), (5, _), (8, _), (16, _), (17, _), (20, _)]) ⟨rfl, rfl, rfl, rfl, rfl, rfl, rfl, rfl, trivial⟩ ?_
      refine Post.then_ ?_
      refine Cd.ret ?_
      refine Post.block_ret ?_
      refine Post.end1 rfl rfl (.inl rfl) ?_
      refine ⟨by simp [offC, hf], ?_, .chan hb hR⟩
      simp only [offV, hf, Bool.false_eq_true, if_false]
      refine ⟨⟨R, s + 1, r, hR, k0.chan hb, ?_⟩, hg⟩
      rw [heap_setChan _ _ _ _ _ _ _ hb]
      simp [Is]
theorem take_any (B g room : Nat) (closed : Bool) (vs : List Int) (w : World) (h : Ln w B g room closed vs) :
    Calls Tryz.prog 8 #[.pointer (some ⟨g, 0, none⟩)] w fun e w' => e = .returned (.tuple #[.int .i64 (vs.headD 0), .bool (!vs.isEmpty)]) ∧ Ln w' B g room closed vs.tail ∧ LF w w' B := by
  obtain ⟨⟨R, s, r, hR, k0, hb⟩, hg⟩ := h
  refine Calls.start 22 Tryz.func8 rfl rfl rfl ?_
  refine Cd.seq ?_
  refine Cd.region ?_
  refine Seq.val (Runs.assign rfl rfl) rfl rfl rfl ?_
  refine Seq.val (Runs.assign rfl rfl) rfl rfl rfl ?_
  refine Seq.nil ?_
  refine Post.weak (F' := [(0, _), (2, _), (3, _)]) ⟨rfl, rfl, rfl, trivial⟩ ?_
  refine Post.then_ ?_
  refine Cd.seq ?_
  refine Cd.region ?_
  refine Seq.val (Runs.assign rfl rfl) rfl rfl rfl ?_
  refine Seq.nil ?_
  refine Post.weak (F' := [(0, _), (2, _), (3, _), (4, _)]) ⟨rfl, rfl, rfl, rfl, trivial⟩ ?_
  refine Post.then_ ?_
  refine Cd.seq ?_
  refine Cd.seq ?_
  refine Cd.region ?_
  refine Seq.val (Runs.move rfl rfl) rfl rfl rfl ?_
  refine Seq.val (Runs.eqlP rfl rfl rfl Tryz.underlying24) rfl rfl rfl ?_
  refine Seq.nil ?_
  refine Post.weak (F' := [(0, _), (2, _), (3, _), (4, _), (8, _)]) ⟨rfl, rfl, rfl, rfl, rfl, trivial⟩ ?_
  refine Post.then_ ?_
  refine Cd.condF rfl rfl ?_
  refine Cd.skip ?_
  refine Post.then_ ?_
  refine Cd.seq ?_
  refine Cd.region ?_
  refine Seq.val (Runs.move rfl rfl) rfl rfl rfl ?_
  refine Seq.val (Runs.nilCheck rfl rfl) rfl rfl rfl ?_
  refine Seq.val (Runs.fieldB 0 rfl rfl Tryz.underlying69 rfl (by kernel_rfl)) rfl rfl rfl ?_
  refine Seq.val (Runs.loadB rfl rfl Tryz.underlying67 rfl k0 rfl) rfl rfl rfl ?_
  refine Seq.nil ?_
  refine Post.weak (F' := [(0, _), (2, _), (3, _), (4, _), (8, _), (13, _)]) ⟨rfl, rfl, rfl, rfl, rfl, rfl, trivial⟩ ?_
  refine Post.then_ ?_
  refine Cd.seq ?_
  cases vs with
  | nil =>
    cases closed with
    | true =>
      refine Cd.sel (sel_shut rfl rfl rfl zero_int hb) rfl rfl ?_
      refine Seq.val (Runs.extract rfl rfl rfl) rfl rfl rfl ?_
      refine Seq.val (Runs.eqlI rfl rfl rfl) rfl rfl rfl ?_
      refine Seq.nil ?_
      refine Post.weak (F' := [(0, _), (2, _), (3, _), (4, _), (8, _), (13, _), (14, _), (16, _)]) ⟨rfl, rfl, rfl, rfl, rfl, rfl, rfl, rfl, trivial⟩ ?_
      refine Post.then_ ?_
      refine Cd.block ?_
      refine Cd.condT rfl rfl ?_
      refine Cd.seq ?_
      refine Cd.region ?_
      refine Seq.val (Runs.extract rfl rfl rfl) rfl rfl rfl ?_
      refine Seq.val (Runs.extract rfl rfl rfl) rfl rfl rfl ?_
      refine Seq.val (Runs.assign rfl rfl) rfl rfl rfl ?_
      refine Seq.val (Runs.assign rfl rfl) rfl rfl rfl ?_
      refine Seq.nil ?_
      refine Post.weak (F' := [(0, _), (2, _), (3, _), (4, _), (5, _), (6, _), (8, _), (13, _), (14, _), (16, _)]) ⟨rfl, rfl, rfl, rfl, rfl, rfl, rfl, rfl, rfl, rfl, trivial⟩ ?_
      refine Post.then_ ?_
      refine Cd.seq ?_
      refine Cd.region ?_
      refine Seq.val (Runs.move rfl rfl) rfl rfl rfl ?_
      refine Seq.val (Runs.move rfl rfl) rfl rfl rfl ?_
      refine Seq.val (Runs.assign rfl rfl) rfl rfl rfl ?_
      refine Seq.val (Runs.assign rfl rfl) rfl rfl rfl ?_
      refine Seq.nil ?_
      refine Post.weak (F' := [(0, _), (2, _), (3, _), (4, _), (5, _), (6, _), (8, _), (13, _), (14, _), (16, _)]) ⟨rfl, rfl, rfl, rfl, rfl, rfl, rfl, rfl, rfl, rfl, trivial⟩ ?_
      refine Post.then_ ?_
      refine Cd.ret ?_
      refine Post.block_ret ?_
      refine Post.end2 rfl rfl rfl (.inl rfl) ?_
      exact ⟨rfl, ⟨⟨R, s, r, hR, k0, hb⟩, hg⟩, .refl _ _⟩
    | false =>
      refine Cd.sel (sel_none rfl rfl rfl zero_int hb) rfl rfl ?_
      refine Seq.val (Runs.extract rfl rfl rfl) rfl rfl rfl ?_
      refine Seq.val (Runs.eqlI rfl rfl rfl) rfl rfl rfl ?_
      refine Seq.nil ?_
      refine Post.weak (F' := [(0, _), (2, _), (3, _), (4, _), (8, _), (13, _), (14, _), (16, _)]) ⟨rfl, rfl, rfl, rfl, rfl, rfl, rfl, rfl, trivial⟩ ?_
      refine Post.then_ ?_
      refine Cd.block ?_
      refine Cd.condF rfl rfl ?_
      refine Cd.seq ?_
      refine Cd.region ?_
      refine Seq.val (Runs.move rfl rfl) rfl rfl rfl ?_
      refine Seq.val (Runs.assign rfl rfl) rfl rfl rfl ?_
      refine Seq.val (Runs.assign rfl rfl) rfl rfl rfl ?_
      refine Seq.nil ?_
      refine Post.weak (F' := [(0, _), (2, _), (3, _), (4, _), (8, _), (13, _), (14, _), (16, _)]) ⟨rfl, rfl, rfl, rfl, rfl, rfl, rfl, rfl, trivial⟩ ?_
      refine Post.then_ ?_
      refine Cd.ret ?_
      refine Post.block_ret ?_
      refine Post.end2 rfl rfl rfl (.inl rfl) ?_
      exact ⟨rfl, ⟨⟨R, s, r, hR, k0, hb⟩, hg⟩, .refl _ _⟩
  | cons v vs =>
    refine Cd.sel (sel_recv rfl rfl rfl zero_int hb (by rw [Is_size]; simp)) rfl rfl ?_
    refine Seq.val (Runs.extract rfl rfl rfl) rfl rfl rfl ?_
    refine Seq.val (Runs.eqlI rfl rfl rfl) rfl rfl rfl ?_
    refine Seq.nil ?_
    refine Post.weak (F' := [(0, _), (2, _), (3, _), (4, _), (8, _), (13, _), (14, _), (16, _)]) ⟨rfl, rfl, rfl, rfl, rfl, rfl, rfl, rfl, trivial⟩ ?_
    refine Post.then_ ?_
    refine Cd.block ?_
    refine Cd.condT rfl rfl ?_
    refine Cd.seq ?_
    refine Cd.region ?_
    refine Seq.val (Runs.extract rfl rfl rfl) rfl rfl rfl ?_
    refine Seq.val (Runs.extract rfl rfl rfl) rfl rfl rfl ?_
    refine Seq.val (Runs.assign rfl rfl) rfl rfl rfl ?_
    refine Seq.val (Runs.assign rfl rfl) rfl rfl rfl ?_
    refine Seq.nil ?_
    refine Post.weak (F' := [(0, _), (2, _), (3, _), (4, _), (5, _), (6, _), (8, _), (13, _), (14, _), (16, _)]) ⟨rfl, rfl, rfl, rfl, rfl, rfl, rfl, rfl, rfl, rfl, trivial⟩ ?_
    refine Post.then_ ?_
    refine Cd.seq ?_
    refine Cd.region ?_
    refine Seq.val (Runs.move rfl rfl) rfl rfl rfl ?_
    refine Seq.val (Runs.move rfl rfl) rfl rfl rfl ?_
    refine Seq.val (Runs.assign rfl rfl) rfl rfl rfl ?_
    refine Seq.val (Runs.assign rfl rfl) rfl rfl rfl ?_
    refine Seq.nil ?_
    refine Post.weak (F' := [(0, _), (2, _), (3, _), (4, _), (5, _), (6, _), (8, _), (13, _), (14, _), (16, _)]) ⟨rfl, rfl, rfl, rfl, rfl, rfl, rfl, rfl, rfl, rfl, trivial⟩ ?_
    refine Post.then_ ?_
    refine Cd.ret ?_
    refine Post.block_ret ?_
    refine Post.end2 rfl rfl rfl (.inl rfl) ?_
    refine ⟨?_, ?_, .chan hb hR⟩
    · simp [Is]
    · refine ⟨⟨R, s, r + 1, hR, k0.chan hb, ?_⟩, hg⟩
      rw [heap_setChan _ _ _ _ _ _ _ hb]
      have : (Is (v :: vs)).toArray.extract 1 (Is (v :: vs)).toArray.size = (Is vs).toArray := by
        apply Array.ext'
        simp [Is, List.extract_eq_take_drop]
        rw [List.take_of_length_le (by simp)]
      rw [this]
      rfl
theorem lenLn_any (B g room : Nat) (closed : Bool) (vs : List Int) (w : World) (h : Ln w B g room closed vs) :
    Calls Tryz.prog 10 #[.pointer (some ⟨g, 0, none⟩)] w fun e w' => e = .returned (.int .i64 (vs.length : Int)) ∧ w' = w := by
  obtain ⟨⟨R, s, r, hR, k0, hb⟩, hg⟩ := h
  refine Calls.start 10 Tryz.func10 rfl rfl rfl ?_
  refine Cd.seq ?_
  refine Cd.region ?_
  refine Seq.val (Runs.assign rfl rfl) rfl rfl rfl ?_
  refine Seq.nil ?_
  refine Post.weak (F' := [(0, _), (2, _)]) ⟨rfl, rfl, trivial⟩ ?_
  refine Post.then_ ?_
  refine Cd.seq ?_
  refine Cd.seq ?_
  refine Cd.region ?_
  refine Seq.val (Runs.move rfl rfl) rfl rfl rfl ?_
  refine Seq.val (Runs.eqlP rfl rfl rfl Tryz.underlying24) rfl rfl rfl ?_
  refine Seq.nil ?_
  refine Post.weak (F' := [(0, _), (2, _), (4, _)]) ⟨rfl, rfl, rfl, trivial⟩ ?_
  refine Post.then_ ?_
  refine Cd.condF rfl rfl ?_
  refine Cd.skip ?_
  refine Post.then_ ?_
  refine Cd.seq ?_
  refine Cd.region ?_
  refine Seq.val (Runs.move rfl rfl) rfl rfl rfl ?_
  refine Seq.val (Runs.nilCheck rfl rfl) rfl rfl rfl ?_
  refine Seq.val (Runs.fieldB 0 rfl rfl Tryz.underlying69 rfl (by kernel_rfl)) rfl rfl rfl ?_
  refine Seq.val (Runs.loadB rfl rfl Tryz.underlying67 rfl k0 rfl) rfl rfl rfl ?_
  refine Seq.val (Runs.lenC rfl rfl Tryz.underlying67 hb) rfl rfl rfl ?_
  refine Seq.val (Runs.assign rfl rfl) rfl rfl rfl ?_
  refine Seq.nil ?_
  refine Post.weak (F' := [(0, _), (2, _), (4, _)]) ⟨rfl, rfl, rfl, trivial⟩ ?_
  refine Post.then_ ?_
  refine Cd.ret ?_
  refine Post.end1 rfl rfl (.inl rfl) ?_
  exact ⟨by rw [Is_size], rfl⟩
theorem close_any (B g room : Nat) (closed : Bool) (vs : List Int) (w : World) (h : Ln w B g room closed vs) :
    Calls Tryz.prog 9 #[.pointer (some ⟨g, 0, none⟩)] w fun e w' => e = .returned (.tuple #[]) ∧ Ln w' B g room true vs ∧ LF w w' B := by
  obtain ⟨⟨R, s, r, hR, k0, hb⟩, hg⟩ := h
  have hk0 := k0
  refine Calls.start 18 Tryz.func9 rfl rfl rfl ?_
  refine Cd.seq ?_
  refine Cd.region ?_
  refine Seq.val (Runs.move rfl rfl) rfl rfl rfl ?_
  refine Seq.val (Runs.neqP rfl rfl rfl Tryz.underlying24) rfl rfl rfl ?_
  refine Seq.val (Runs.move rfl rfl) rfl rfl rfl ?_
  refine SeqC.start ?_
  refine SeqC.open rfl rfl rfl rfl rfl rfl rfl (fun hcx => Runs.move rfl rfl) ?_
  refine SeqC.next rfl rfl rfl rfl rfl rfl rfl (fun hcx => Runs.nilCheck rfl rfl) ?_
  refine SeqC.next rfl rfl rfl rfl rfl rfl rfl (fun hcx => Runs.fieldB 1 rfl rfl Tryz.underlying69 rfl (by kernel_rfl)) ?_
  refine SeqC.next rfl rfl rfl rfl rfl rfl rfl (fun hcx => Runs.loadB rfl rfl Tryz.underlying4 rfl k0 rfl) ?_
  refine SeqC.next rfl rfl rfl rfl rfl rfl rfl (fun hcx => Runs.not rfl rfl) ?_
  refine SeqC.and rfl rfl rfl rfl rfl rfl rfl ?_
  refine Seq.nil ?_
  refine Post.weak (F' := [(0, _), (10, _)]) ⟨rfl, rfl, trivial⟩ ?_
  refine Post.then_ ?_
  cases closed with
  | true =>
    refine Cd.condF rfl rfl ?_
    refine Cd.skip ?_
    refine Post.end0 rfl (.inr rfl) ?_
    exact ⟨rfl, ⟨⟨R, s, r, hR, k0, hb⟩, hg⟩, .refl _ _⟩
  | false =>
    refine Cd.condT rfl rfl ?_
    refine Cd.seq ?_
    refine Cd.region ?_
    refine Seq.val (Runs.move rfl rfl) rfl rfl rfl ?_
    refine Seq.val (Runs.nilCheck rfl rfl) rfl rfl rfl ?_
    refine Seq.val (Runs.fieldB 1 rfl rfl Tryz.underlying69 rfl (by kernel_rfl)) rfl rfl rfl ?_
    refine Seq.store1 rfl rfl rfl (by kernel_rfl) rfl rfl k0 rfl rfl rfl ?_
    intro w1 pw1
    replace k0 := pw1.blk
    refine Seq.nil ?_
    refine Post.weak (F' := [(0, _), (10, _)]) ⟨rfl, rfl, trivial⟩ ?_
    refine Post.then_ ?_
    refine Cd.region ?_
    refine Seq.val (Runs.move rfl rfl) rfl rfl rfl ?_
    refine Seq.val (Runs.nilCheck rfl rfl) rfl rfl rfl ?_
    refine Seq.val (Runs.fieldB 0 rfl rfl Tryz.underlying69 rfl (by kernel_rfl)) rfl rfl rfl ?_
    refine Seq.val (Runs.loadB rfl rfl Tryz.underlying67 rfl k0 rfl) rfl rfl rfl ?_
    have hRg : R ≠ g := fun q => by
      subst q
      have := hb.symm.trans hk0
      cases this
    have hb1 := (pw1.grown.block R (Array.getElem?_eq_some_iff.1 hb).1 (fun q => hRg (by injection q))).trans hb
    refine Seq.val0 (Runs.close rfl rfl hb1) rfl rfl ?_
    refine Seq.nil ?_
    refine Post.weak (F' := [(0, _), (10, _)]) ⟨rfl, rfl, trivial⟩ ?_
    refine Post.end0 rfl (.inr rfl) ?_
    refine ⟨rfl, ⟨⟨R, s, r, hR, ?_, heap_setChan _ _ _ _ _ _ _ hb1⟩, hg⟩, (LF.put hk0 pw1 hg).trans (.chan hb1 hR)⟩
    exact k0.chan hb1
end Go.Proofs.YtefpejnmhlhnkaaGreatDoor

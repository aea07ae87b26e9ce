/-
  Texts that were joined: WfA, WfB, WfC, WgG, TOpen, WdD, WfD. Conditions: what each theorem names.
-/
import Derived.Test.YtnlepoplncjliaaGreatDoorY3
import Derived.ProofKit
import Derived.OpenShut
import Derived.Lib.SmallJoins
import Derived.Deep.Slices
import Derived.Deep.Fields
import Derived.ChangeSame
import Derived.LaidMore
import Derived.Lib.LaidTab
import Derived.Shelf.Vars
set_option linter.unusedSectionVars false
namespace Go.Proofs.YtnlepoplncjliaaGreatDoor
open Go.RowKit

/-- What lies below a bound stays. -/
structure Bf (B : Nat) (w w' : World) : Prop where
  below : Below (min B w.heap.size) w w'
section
variable {B : Nat} {w w' w'' : World}
theorem Bf.refl (B : Nat) (w : World) : Bf B w w := ⟨Below.refl _ _⟩
theorem Bf.size (h : Bf B w w') : w.heap.size ≤ w'.heap.size := h.below.size
theorem Bf.trans (h : Bf B w w') (k : Bf B w' w'') : Bf B w w'' := ⟨h.below.trans (k.below.mono (by have := h.size; omega))⟩
theorem Bf.bf (h : Bf B w w') (k : Bf B w' w'') : Bf B w w'' := h.trans k
theorem Bf.lf (h : Bf B w w') (k : Lf B w' w'') : Bf B w w'' := h.trans ⟨k.below⟩
theorem Bf.df (h : Bf B w w') (k : Df B w' w'') : Bf B w w'' := h.trans ⟨k.below⟩
theorem Bf.step (h : Bf B w w') (k : Below w'.heap.size w' w'') : Bf B w w'' := h.trans ⟨k.mono (Nat.min_le_right _ _)⟩
theorem Bf.put {B' g : Nat} {T : TypeId} {cur cs : Array Value} (h : Bf B w w') (k : Blk w' g T cur) (p : Put w' w'' g T cs) (e : B' ≤ g) (ht : B ≤ B' ∨ w.heap.size ≤ B' := by omega) : Bf B w w'' := ⟨h.below.trans (p.below (by omega) k.lt)⟩
theorem Bf.app {B2 B3 n size : Nat} {e : TypeId} {v : Value} {xs : List Value} (h : Bf B w w') (_o : Own w' B2 e size v n xs) (ha : App w' w'' B3 v) (ht : B ≤ B3 ∨ w.heap.size ≤ B3 := by omega) : Bf B w w'' := ⟨h.below.trans (ha.below.mono (by omega))⟩
theorem Bf.to (h : Bf B w w') (hB : B ≤ w.heap.size) : Below B w w' := by have := h.below; rwa [Nat.min_eq_left hB] at this
theorem Gv.bf (h : Gv w) (f : Bf B w w') (hB : 4 < B := by omega) : Gv w' := h.below f.below (by have := tab_lt h.pow; omega)
theorem Gv.app {B2 B3 n size : Nat} {e : TypeId} {v : Value} {xs : List Value} (h : Gv w) (_o : Own w B2 e size v n xs) (ha : App w w' B3 v) (hB : 4 < B3 := by omega) : Gv w' := h.below ha.below hB
end
/-- A log under way, and what must be there. -/
def runCs (gd g6 : Nat) (v : Value) (num : Int) (has : Bool) : Array Value := #[.pointer (some ⟨gd, 0, none⟩), .pointer (some ⟨g6, 0, none⟩), v, .int .i64 num, .bool has]
theorem run_build_run (gd g6 : Nat) (w : World) : (Instr.build 59 #[(0, .pointer (some ⟨gd, 0, none⟩)), (1, .pointer (some ⟨g6, 0, none⟩))]).run Tryz.prog w = .ok (.agg (runCs gd g6 (.slice none 0 0) 0 false)) w := by
  have hu := Tryz.underlying59
  unfold runCs
  go_simp
/-- A log under way, in its blocks. -/
structure RunAt (w : World) (B gr : Nat) (D : Dk) (W : Wl) (segs : List (Nat × List (List Nat))) : Prop where
  ex : ∃ gd g6 v, Blk w gr 59 (runCs gd g6 v (W.num : Int) (decide (0 < W.count))) ∧ DkAt w B gd D ∧ Blk w g6 80 (W.cs gd [119]) ∧ Own w B 36 2 v (recsOf segs).length (recsV (recsOf segs)) ∧ B ≤ g6
  hr : B ≤ gr
theorem RunAt.step {w w' : World} {B gr : Nat} {D : Dk} {W : Wl} {segs : List (Nat × List (List Nat))} (h : RunAt w B gr D W segs) (hb : Below w.heap.size w w') : RunAt w' B gr D W segs := by
  obtain ⟨⟨gd, g6, v, h1, h2, h3, h4, h5⟩, h6⟩ := h
  exact ⟨⟨gd, g6, v, h1.step hb, h2.step hb, h3.step hb, h4.step hb, h5⟩, h6⟩
set_option maxHeartbeats 2000000 in
theorem begin_r_any (w : World) (gv : Gv w) : Calls Tryz.prog 24 #[] w fun e w' => ∃ gr, e = .returned (.pointer (some ⟨gr, 0, none⟩)) ∧ RunAt w' w.heap.size gr (Dk.new 1048576) ⟨0, 0, 0, false⟩ [] ∧ Grow w w' := by
  have lf := Lf.refl w.heap.size w
  have hgw := tab_lt gv.pow
  have hL0 : LogIs (Dk.new 1048576) [119] [] := LogIs.nil
  have hO0 := hL0.opens
  have hnext : nextN 0 [] = 0 := rfl
  have hrec0 : recsOf [] = [] := rfl
  rw [hnext, hrec0] at hO0
  refine Calls.start 31 Tryz.func24 rfl rfl rfl ?_
  refine Cd.seq ?_
  refine Cd.region ?_
  refine Seq.val (Runs.assign rfl rfl) rfl rfl rfl ?_
  refine Seq.nil ?_
  refine Post.weak (F' := [(0, _)]) ⟨rfl, trivial⟩ ?_
  refine Post.then_ ?_
  refine Cd.seq ?_
  refine Cd.region ?_
  refine Seq.call (Enters.func rfl rfl rfl (run_enter Tryz.func12 (by kernel_rfl) rfl)) rfl rfl rfl (new_any 1048576 _ (by omega) (by omega)) ?_
  rintro e w5 ⟨gd, rfl, dk, hb5⟩
  refine ⟨_, rfl, ?_⟩
  replace lf := lf.step hb5
  replace gv := gv.step hb5
  refine Seq.val (Runs.assign rfl rfl) rfl rfl rfl ?_
  refine Seq.nil ?_
  refine Post.weak (F' := [(0, _), (1, _)]) ⟨rfl, rfl, trivial⟩ ?_
  refine Post.then_ ?_
  refine Cd.seq ?_
  refine Cd.region ?_
  refine Seq.val (Runs.move rfl rfl) rfl rfl rfl ?_
  refine Seq.call (Enters.func rfl rfl rfl (run_enter Tryz.func13 (by kernel_rfl) rfl)) rfl rfl rfl (open_any w.heap.size gd (Dk.new 1048576) [119] _ gv hgw dk rfl right_w (byt_one (by omega)) hL0.own_nm) ?_
  clear dk
  rintro e w1 ⟨v1, v2, rfl, hO, dk, fw1⟩
  refine ⟨_, rfl, ?_⟩
  replace lf := lf.df fw1
  replace gv := gv.df fw1
  rw [hO0] at hO dk
  rw [hO0]
  rcases hO with ⟨h, -, -⟩ | ⟨-, g6, rfl, hg6, k6, own6⟩
  · exact absurd rfl h
  obtain ⟨A, c, rfl, -⟩ := own6.reads
  clear own6
  have e6 : w.heap.size ≤ g6 := Nat.le_trans hb5.size hg6
  replace k6 : Blk _ g6 80 (Wl.cs ⟨0, 0, 0, false⟩ gd [119]) := k6
  replace dk : DkAt _ w.heap.size gd (Dk.new 1048576) := dk
  have hsz1 := lf.size
  refine Seq.val (Runs.move rfl rfl) rfl rfl rfl ?_
  refine Seq.val (Runs.extract rfl rfl rfl) rfl rfl rfl ?_
  refine Seq.val (Runs.extract rfl rfl rfl) rfl rfl rfl ?_
  refine Seq.val (Runs.extract rfl rfl rfl) rfl rfl rfl ?_
  refine Seq.val (Runs.assign rfl rfl) rfl rfl rfl ?_
  refine Seq.val (Runs.assign rfl rfl) rfl rfl rfl ?_
  refine Seq.val (Runs.assign rfl rfl) rfl rfl rfl ?_
  refine Seq.nil ?_
  refine Post.weak (F' := [(0, _), (1, _), (2, _), (3, _), (4, _)]) ⟨rfl, rfl, rfl, rfl, rfl, trivial⟩ ?_
  refine Post.then_ ?_
  refine Cd.seq ?_
  refine Cd.seq ?_
  refine Cd.region ?_
  refine Seq.val (Runs.move rfl rfl) rfl rfl rfl ?_
  refine Seq.val (Runs.eqlP rfl rfl rfl Tryz.underlying26) rfl rfl rfl ?_
  refine Seq.val (Runs.move rfl rfl) rfl rfl rfl ?_
  refine SeqC.start ?_
  refine SeqC.open rfl rfl rfl rfl rfl rfl rfl (fun hcx => Runs.move rfl rfl) ?_
  refine SeqC.next rfl rfl rfl rfl rfl rfl rfl (fun hcx => Runs.eqlP rfl rfl rfl Tryz.underlying28) ?_
  refine SeqC.or rfl rfl rfl rfl rfl rfl rfl ?_
  refine Seq.val (Runs.move rfl rfl) rfl rfl rfl ?_
  refine SeqC.start ?_
  refine SeqC.open rfl rfl rfl rfl rfl rfl rfl (fun hcx => Runs.move rfl rfl) ?_
  refine SeqC.next rfl rfl rfl rfl rfl rfl rfl (fun hcx => Runs.neqI rfl rfl rfl) ?_
  refine SeqC.or rfl rfl rfl rfl rfl rfl rfl ?_
  refine Seq.val (Runs.move rfl rfl) rfl rfl rfl ?_
  refine SeqC.start ?_
  refine SeqC.open rfl rfl rfl rfl rfl rfl rfl (fun hcx => Runs.move rfl rfl) ?_
  refine SeqC.next rfl rfl rfl rfl rfl rfl rfl (fun hcx => Runs.len rfl rfl Tryz.underlying29) ?_
  refine SeqC.next rfl rfl rfl rfl rfl rfl rfl (fun hcx => Runs.neqI rfl rfl rfl) ?_
  refine SeqC.or rfl rfl rfl rfl rfl rfl rfl ?_
  refine Seq.nil ?_
  refine Post.weak (F' := [(0, _), (1, _), (2, _), (3, _), (4, _), (26, _)]) ⟨rfl, rfl, rfl, rfl, rfl, rfl, trivial⟩ ?_
  refine Post.then_ ?_
  refine Cd.condF rfl rfl ?_
  refine Cd.skip ?_
  refine Post.then_ ?_
  refine Cd.seq ?_
  refine Cd.region ?_
  refine Seq.val (Runs.move rfl rfl) rfl rfl rfl ?_
  refine Seq.val (Runs.move rfl rfl) rfl rfl rfl ?_
  refine Seq.val (Runs.build rfl rfl (run_build_run gd g6 _)) rfl rfl rfl ?_
  refine Seq.box rfl rfl rfl rfl rfl ?_
  intro g30 w2 n30
  have l30 := Nat.lt_of_lt_of_le k6.lt n30.ge
  replace lf := lf.step n30.below
  replace gv := gv.step n30.below
  replace dk := dk.step n30.below
  replace k6 := k6.step n30.below
  have k30 := n30.blk
  refine Seq.val (Runs.assign rfl rfl) rfl rfl rfl ?_
  refine Seq.nil ?_
  refine Post.weak (F' := [(0, _), (1, _), (2, _), (3, _), (4, _), (26, _)]) ⟨rfl, rfl, rfl, rfl, rfl, rfl, trivial⟩ ?_
  refine Post.then_ ?_
  refine Cd.ret ?_
  refine Post.end1 rfl rfl (.inl rfl) ?_
  exact ⟨g30, rfl, ⟨⟨gd, g6, .slice none 0 0, k30, dk, k6, Own.nil _ _ _ _, e6⟩, Nat.le_trans hsz1 n30.ge⟩, lf.to (Nat.le_refl _)⟩
theorem recsOf_last {segs : List (Nat × List (List Nat))} (hne : ∀ s ∈ segs, s.2 ≠ []) : (recsOf segs = [] ∧ nextN 0 segs = 0) ∨ ∃ r, (recsOf segs)[(recsOf segs).length - 1]? = some r ∧ 0 < (recsOf segs).length ∧ nextN 0 segs = r.1 + 1 := by
  rcases List.eq_nil_or_concat segs with e | ⟨ini, t, e⟩
  · left
    rw [e]
    exact ⟨rfl, rfl⟩
  · right
    rw [List.concat_eq_append] at e
    have ht := hne t (by rw [e]; simp)
    rcases List.eq_nil_or_concat t.2 with e2 | ⟨l, x, e2⟩
    · exact absurd e2 ht
    · rw [List.concat_eq_append] at e2
      have e3 : recsOf segs = (recsOf ini ++ l.map fun y => (t.1, y)) ++ [(t.1, x)] := by
        rw [e, recsOf_app]
        simp [recsOf, e2]
      refine ⟨(t.1, x), ?_, ?_, by rw [e, nextN_app]⟩
      · rw [e3, List.length_append, List.length_singleton, Nat.add_sub_cancel, List.getElem?_append_right (Nat.le_refl _), Nat.sub_self]
        rfl
      · rw [e3, List.length_append, List.length_singleton]
        omega
theorem same_self (A A' : Option Addr) (n c n' c' B : Nat) (l : List (Nat × List Nat)) (w : World) (hr : Reads w B 2 A n (recsV l)) (hr' : Reads w B 2 A' n' (recsV l)) (hB : B ≤ w.heap.size) (hb : ∀ r ∈ l, Byt r.2) (hn : n ≤ 1000000000) (hn' : n' ≤ 1000000000) :
    Calls Tryz.prog 16 #[.slice A n c, .slice A' n' c'] w fun e w' => e = .returned (.bool true) ∧ Grow w w' := by
  have h := same_any A A' n c n' c' B l l w hr hr' hB hb hb hn hn'
  rw [decide_eq_true rfl] at h
  exact h
set_option maxHeartbeats 4000000 in
theorem opened_any (B gr : Nat) (D : Dk) (W : Wl) (segs : List (Nat × List (List Nat))) (k : Nat) (w : World) (gv : Gv w) (hgB : 4 < B) (hP : PlIs D W segs k) (hk : k ≤ 1000) (h : RunAt w B gr D W segs) :
    Calls Tryz.prog 47 #[.pointer (some ⟨gr, 0, none⟩)] w fun e w' => e = .returned (.bool true) ∧ RunAt w' B gr D ⟨nextN 0 segs, 0, 0, false⟩ segs ∧ Bf B w w' := by
  obtain ⟨⟨gd, g6, v, k90, dk, -, own, -⟩, e90⟩ := h
  have bf := Bf.refl B w
  have hO0 := hP.wl.log.opens
  have hbyt := recsOf_byt hP.wl.log
  have hlast := recsOf_last (fun s hs => (hP.wl.log.recs s hs).1)
  have hrl := hP.recs
  have hown := hP.wl.log.own_nm
  have hoff := hP.wl.log.calm.off
  obtain ⟨L, hL⟩ : ∃ L, L = recsOf segs := ⟨_, rfl⟩
  obtain ⟨nx, hnx⟩ : ∃ x, x = nextN 0 segs := ⟨_, rfl⟩
  have hnxb := hP.open_.2.num
  replace hnxb : nextN 0 segs ≤ 900 + (k + 1) := hnxb
  rw [← hnx] at hnxb
  rw [← hL, ← hnx] at hO0 hlast
  rw [← hL] at hbyt hrl own
  rw [← hnx]
  obtain ⟨A0, c0, rfl, -⟩ := own.reads
  refine Calls.start 62 Tryz.func47 rfl rfl rfl ?_
  refine Cd.seq ?_
  refine Cd.region ?_
  refine Seq.val (Runs.assign rfl rfl) rfl rfl rfl ?_
  refine Seq.nil ?_
  refine Post.weak (F' := [(0, _), (2, _)]) ⟨rfl, rfl, trivial⟩ ?_
  refine Post.then_ ?_
  refine Cd.seq ?_
  refine Cd.region ?_
  refine Seq.val (Runs.move rfl rfl) rfl rfl rfl ?_
  refine Seq.val (Runs.nilCheck rfl rfl) rfl rfl rfl ?_
  refine Seq.val (Runs.fieldB 0 rfl rfl Tryz.underlying59 rfl (by kernel_rfl)) rfl rfl rfl ?_
  refine Seq.val (Runs.loadB rfl rfl Tryz.underlying26 rfl k90 rfl) rfl rfl rfl ?_
  have hBw := dk.size
  refine Seq.call (Enters.func rfl rfl rfl (run_enter Tryz.func13 (by kernel_rfl) rfl)) rfl rfl rfl (open_any B gd D [119] _ gv hgB dk hoff right_w (byt_one (by omega)) hown) ?_
  clear dk
  rintro e w1 ⟨v1, v2, rfl, hO, dk, fw1⟩
  refine ⟨_, rfl, ?_⟩
  replace bf := bf.df fw1
  replace gv := gv.df fw1
  replace k90 := k90.df fw1
  replace own := own.df fw1
  rw [hO0] at hO dk
  rw [hO0]
  rcases hO with ⟨h, -, -⟩ | ⟨-, g16, rfl, hg16, k16, own16⟩
  · exact absurd rfl h
  replace k16 : Blk _ g16 80 (Wl.cs ⟨nx, 0, 0, false⟩ gd [119]) := k16
  replace dk : DkAt _ B gd D := dk
  replace own16 : Own _ _ 36 2 v2 L.length (recsV L) := own16
  have e16 : B ≤ g16 := Nat.le_trans hBw hg16
  have hne16 := k90.neT k16
  obtain ⟨A1, c1, rfl, -⟩ := own16.reads
  refine Seq.val (Runs.move rfl rfl) rfl rfl rfl ?_
  refine Seq.val (Runs.extract rfl rfl rfl) rfl rfl rfl ?_
  refine Seq.val (Runs.extract rfl rfl rfl) rfl rfl rfl ?_
  refine Seq.val (Runs.extract rfl rfl rfl) rfl rfl rfl ?_
  refine Seq.val (Runs.assign rfl rfl) rfl rfl rfl ?_
  refine Seq.val (Runs.assign rfl rfl) rfl rfl rfl ?_
  refine Seq.val (Runs.assign rfl rfl) rfl rfl rfl ?_
  refine Seq.nil ?_
  refine Post.weak (F' := [(0, _), (2, _), (3, _), (4, _), (5, _)]) ⟨rfl, rfl, rfl, rfl, rfl, trivial⟩ ?_
  refine Post.then_ ?_
  refine Cd.seq ?_
  refine Cd.region ?_
  refine Seq.val (Runs.move rfl rfl) rfl rfl rfl ?_
  refine Seq.val (Runs.move rfl rfl) rfl rfl rfl ?_
  refine Seq.val (Runs.nilCheck rfl rfl) rfl rfl rfl ?_
  refine Seq.val (Runs.fieldB 1 rfl rfl Tryz.underlying59 rfl (by kernel_rfl)) rfl rfl rfl ?_
  refine Seq.store1 rfl rfl rfl (by kernel_rfl) rfl rfl k90 rfl rfl rfl ?_
  intro w2 pw2
  replace bf := bf.put k90 pw2 e90
  replace gv := gv.put k90 pw2 e90
  replace dk := dk.put k90 pw2 e90
  replace own := own.put k90 pw2 e90
  replace k16 := k16.put pw2 (by omega)
  replace own16 := own16.put k90 pw2 e90
  replace k90 := pw2.blk
  refine Seq.nil ?_
  refine Post.weak (F' := [(0, _), (2, _), (3, _), (4, _), (5, _)]) ⟨rfl, rfl, rfl, rfl, rfl, trivial⟩ ?_
  refine Post.then_ ?_
  refine Cd.seq ?_
  refine Cd.region ?_
  refine Seq.val (Runs.move rfl rfl) rfl rfl rfl ?_
  refine Seq.val (Runs.nilCheck rfl rfl) rfl rfl rfl ?_
  refine Seq.val (Runs.fieldB 4 rfl rfl Tryz.underlying59 rfl (by kernel_rfl)) rfl rfl rfl ?_
  refine Seq.store1 rfl rfl rfl (by kernel_rfl) rfl rfl k90 rfl rfl rfl ?_
  intro w3 pw3
  replace bf := bf.put k90 pw3 e90
  replace gv := gv.put k90 pw3 e90
  replace dk := dk.put k90 pw3 e90
  replace own := own.put k90 pw3 e90
  replace k16 := k16.put pw3 (by omega)
  replace own16 := own16.put k90 pw3 e90
  replace k90 := pw3.blk
  refine Seq.nil ?_
  refine Post.weak (F' := [(0, _), (2, _), (3, _), (4, _), (5, _)]) ⟨rfl, rfl, rfl, rfl, rfl, trivial⟩ ?_
  refine Post.then_ ?_
  refine Cd.seq ?_
  refine Cd.region ?_
  refine Seq.val (Runs.move rfl rfl) rfl rfl rfl ?_
  refine Seq.val (Runs.nilCheck rfl rfl) rfl rfl rfl ?_
  refine Seq.val (Runs.fieldB 3 rfl rfl Tryz.underlying59 rfl (by kernel_rfl)) rfl rfl rfl ?_
  refine Seq.store1 rfl rfl rfl (by kernel_rfl) rfl rfl k90 rfl rfl rfl ?_
  intro w4 pw4
  replace bf := bf.put k90 pw4 e90
  replace gv := gv.put k90 pw4 e90
  replace dk := dk.put k90 pw4 e90
  replace own := own.put k90 pw4 e90
  replace k16 := k16.put pw4 (by omega)
  replace own16 := own16.put k90 pw4 e90
  replace k90 := pw4.blk
  refine Seq.nil ?_
  refine Post.weak (F' := [(0, _), (2, _), (3, _), (4, _), (5, _)]) ⟨rfl, rfl, rfl, rfl, rfl, trivial⟩ ?_
  refine Post.then_ ?_
  refine Cd.seq ?_
  refine Cd.seq ?_
  refine Cd.region ?_
  refine Seq.val (Runs.move rfl rfl) rfl rfl rfl ?_
  refine Seq.val (Runs.len rfl rfl Tryz.underlying29) rfl rfl rfl ?_
  refine Seq.val (Runs.gtr rfl rfl rfl) rfl rfl rfl ?_
  refine Seq.nil ?_
  refine Post.weak (F' := [(0, _), (2, _), (3, _), (4, _), (5, _), (27, _)]) ⟨rfl, rfl, rfl, rfl, rfl, rfl, trivial⟩ ?_
  refine Post.then_ ?_
  replace k90 : Blk _ gr 59 (runCs gd g16 (.slice A0 L.length c0) 0 false) := k90
  refine Cd.cond rfl (fun h => ?_) (fun h => ?_)
  · have h : (0 : Int) < (L.length : Int) := by simpa using h
    obtain ⟨r, hr, -, hnxe⟩ : ∃ r, L[L.length - 1]? = some r ∧ 0 < L.length ∧ nx = r.1 + 1 := by
      rcases hlast with ⟨h1, -⟩ | h1
      · rw [h1] at h; simp at h
      · exact h1
    have hcell : ∃ ad, A1 = some ad ∧ ∀ wr, Own wr w.heap.size 36 2 (.slice A1 L.length c1) L.length (recsV L) → wr.cell? ((ad.add ((L.length - 1) * 2)).add 0) = some (.int .i64 (r.1 : Int)) := by
      obtain ⟨A1', c1', hv1, hr1⟩ := own16.reads
      injection hv1 with e1 _ e2
      subst e1 e2
      obtain ⟨ad, hA1, -, -, -⟩ := hr1.rec (Below.refl _ _) hr
      refine ⟨ad, hA1, fun wr ho => ?_⟩
      obtain ⟨A1', c1', hv1, hr1⟩ := ho.reads
      injection hv1 with e1 _ e2
      subst e1 e2
      obtain ⟨ad', hA2, -, -, hcl⟩ := hr1.rec (Below.refl _ _) hr
      rw [hA1] at hA2
      injection hA2 with hA2
      subst hA2
      exact hcl 0 _ rfl
    obtain ⟨ad, rfl, hcd⟩ := hcell
    refine Cd.region ?_
    refine Seq.val (Runs.move rfl rfl) rfl rfl rfl ?_
    refine Seq.val (Runs.move rfl rfl) rfl rfl rfl ?_
    refine Seq.val (Runs.move rfl rfl) rfl rfl rfl ?_
    refine Seq.val (Runs.len rfl rfl Tryz.underlying29) rfl rfl rfl ?_
    refine Seq.val (Runs.subI rfl rfl rfl (by omega) (by omega)) rfl rfl rfl ?_
    refine Seq.val (Runs.indexN rfl rfl rfl Tryz.underlying29 (s := 2) (by kernel_rfl) (j := L.length - 1) (by omega) (by omega)) rfl rfl rfl ?_
    refine Seq.val (Runs.fieldA 0 rfl rfl Tryz.underlying36 rfl (by kernel_rfl)) rfl rfl rfl ?_
    refine Seq.val (Runs.load1 rfl rfl Tryz.underlying3 rfl (hcd _ own16)) rfl rfl rfl ?_
    refine Seq.val (Runs.addI rfl rfl rfl (by omega) (by omega)) rfl rfl rfl ?_
    refine Seq.val (Runs.nilCheck rfl rfl) rfl rfl rfl ?_
    refine Seq.val (Runs.fieldB 3 rfl rfl Tryz.underlying59 rfl (by kernel_rfl)) rfl rfl rfl ?_
    refine Seq.store1 rfl rfl rfl (by kernel_rfl) rfl rfl k90 rfl rfl rfl ?_
    intro w5 pw5
    replace bf := bf.put k90 pw5 e90
    replace gv := gv.put k90 pw5 e90
    replace dk := dk.put k90 pw5 e90
    replace own := own.put k90 pw5 e90
    replace k16 := k16.put pw5 (by omega)
    replace own16 := own16.put k90 pw5 e90
    replace k90 := pw5.blk
    refine Seq.nil ?_
    refine Post.weak (F' := [(0, _), (2, _), (3, _), (4, _), (5, _), (27, _)]) ⟨rfl, rfl, rfl, rfl, rfl, rfl, trivial⟩ ?_
    refine Post.then_ ?_
    refine Cd.seq ?_
    replace k90 : Blk _ gr 59 (runCs gd g16 (.slice A0 L.length c0) ((r.1 : Int) + 1) false) := k90
    rw [show (r.1 : Int) + 1 = (nx : Int) by omega] at k90
    refine Cd.draw 23 (by kernel_rfl) [] (.inl rfl) rfl Grow Grow.refl (fun _ _ _ => Grow.trans) ?_
    intro w6 hw6 zw6
    replace bf := bf.step hw6
    replace gv := gv.step hw6
    replace k90 := k90.step hw6
    replace dk := dk.step hw6
    replace own := own.step hw6
    replace k16 := k16.step hw6
    replace own16 := own16.step hw6
    have zlt := k16.lt
    obtain ⟨A1x, c1x, hv1, hr1⟩ := own16.reads
    injection hv1 with e1 _ e2
    subst e1 e2
    obtain ⟨A0', c0', hv0, hr0⟩ := own.reads
    injection hv0 with e1 _ e2
    subst e1 e2
    refine Dr.val Grow.refl rfl (fun w hG => Runs.move rfl rfl) rfl ?_
    refine Dr.val Grow.refl rfl (fun w hG => Runs.neqP rfl rfl rfl Tryz.underlying28) rfl ?_
    refine Dr.val Grow.refl rfl (fun w hG => Runs.move rfl rfl) rfl ?_
    refine Dr.valG Grow.refl rfl (fun w hG => Runs.move rfl rfl) rfl rfl rfl ?_
    refine Dr.valG Grow.refl rfl (fun w hG => (Runs.eqlI rfl rfl rfl).isT (rfl)) rfl rfl rfl ?_
    refine Dr.val Grow.refl rfl (fun w hG => Runs.pickT rfl rfl rfl) rfl ?_
    refine Dr.val Grow.refl rfl (fun w hG => Runs.move rfl rfl) rfl ?_
    refine Dr.valG Grow.refl rfl (fun w hG => Runs.move rfl rfl) rfl rfl rfl ?_
    refine Dr.valG Grow.refl rfl (fun w hG => Runs.move rfl rfl) rfl rfl rfl ?_
    refine Dr.valG Grow.refl rfl (fun w hG => Runs.nilCheck rfl rfl) rfl rfl rfl ?_
    refine Dr.valG Grow.refl rfl (fun w hG => Runs.fieldB 2 rfl rfl Tryz.underlying59 rfl (by kernel_rfl)) rfl rfl rfl ?_
    refine Dr.valG Grow.refl rfl (fun w hG => Runs.loadB rfl rfl Tryz.underlying29 rfl (k90.step hG) rfl) rfl rfl rfl ?_
    refine Dr.callVG rfl (fun w => Enters.func rfl rfl rfl (run_enter Tryz.func16 (by kernel_rfl) rfl)) rfl rfl rfl (fun w hG => same_self (some ad) A0 _ c1 _ c0 _ L w (hr1.below hG) (hr0.below hG) hG.size hbyt (by omega) (by omega)) ?_
    refine Dr.val Grow.refl rfl (fun w hG => Runs.pickT rfl rfl rfl) rfl ?_
    refine Dr.val Grow.refl rfl (fun w hG => Runs.move rfl rfl) rfl ?_
    refine Dr.valG Grow.refl rfl (fun w hG => Runs.move rfl rfl) rfl rfl rfl ?_
    refine Dr.callVG rfl (fun w => Enters.func rfl rfl rfl (run_enter Tryz.func20 (by kernel_rfl) rfl)) rfl rfl rfl (fun w hG => number_any g16 gd [119] ⟨nx, 0, 0, false⟩ w (k16.step hG)) ?_
    refine Dr.valG Grow.refl rfl (fun w hG => Runs.move rfl rfl) rfl rfl rfl ?_
    refine Dr.valG Grow.refl rfl (fun w hG => Runs.nilCheck rfl rfl) rfl rfl rfl ?_
    refine Dr.valG Grow.refl rfl (fun w hG => Runs.fieldB 3 rfl rfl Tryz.underlying59 rfl (by kernel_rfl)) rfl rfl rfl ?_
    refine Dr.valG Grow.refl rfl (fun w hG => Runs.loadB rfl rfl Tryz.underlying3 rfl (k90.step hG) rfl) rfl rfl rfl ?_
    refine Dr.valG Grow.refl rfl (fun w hG => (Runs.eqlI rfl rfl rfl).isT (rfl)) rfl rfl rfl ?_
    refine Dr.val Grow.refl rfl (fun w hG => Runs.pickT rfl rfl rfl) rfl ?_
    refine Dr.nil ?_
    refine FinX.done (F' := [(0, _), (2, _), (3, _), (4, _), (5, _), (27, _), (61, _)]) rfl ⟨rfl, rfl, rfl, rfl, rfl, rfl, rfl, trivial⟩ ?_
    intro w7 hw7 fw7
    replace bf := bf.step hw7
    replace gv := gv.step hw7
    replace k90 := k90.step hw7
    replace dk := dk.step hw7
    replace own := own.step hw7
    replace k16 := k16.step hw7
    replace own16 := own16.step hw7
    refine Seq.val (Runs.assign rfl rfl) rfl rfl rfl ?_
    refine Seq.nil ?_
    refine Post.weak (F' := [(0, _), (2, _), (3, _), (4, _), (5, _), (27, _)]) ⟨rfl, rfl, rfl, rfl, rfl, rfl, trivial⟩ ?_
    refine Post.then_ ?_
    refine Cd.ret ?_
    refine Post.end1 rfl rfl (.inl rfl) ?_
    rw [hL] at own
    exact ⟨rfl, ⟨⟨gd, g16, _, by rw [hL] at k90; exact k90, dk, k16, own, e16⟩, e90⟩, bf⟩
  · have h : ¬ ((0 : Int) < (L.length : Int)) := by simpa using h
    have hL0 : L = [] := List.eq_nil_of_length_eq_zero (by omega)
    have hnx0 : nx = 0 := by
      rcases hlast with ⟨-, h1⟩ | ⟨r, -, h1, -⟩
      · exact h1
      · omega
    subst hnx0
    refine Cd.skip ?_
    refine Post.then_ ?_
    refine Cd.seq ?_
    refine Cd.draw 23 (by kernel_rfl) [] (.inl rfl) rfl Grow Grow.refl (fun _ _ _ => Grow.trans) ?_
    intro w5 hw5 zw5
    replace bf := bf.step hw5
    replace gv := gv.step hw5
    replace k90 := k90.step hw5
    replace dk := dk.step hw5
    replace own := own.step hw5
    replace k16 := k16.step hw5
    replace own16 := own16.step hw5
    have zlt := k16.lt
    obtain ⟨A1', c1', hv1, hr1⟩ := own16.reads
    injection hv1 with e1 _ e2
    subst e1 e2
    obtain ⟨A0', c0', hv0, hr0⟩ := own.reads
    injection hv0 with e1 _ e2
    subst e1 e2
    refine Dr.val Grow.refl rfl (fun w hG => Runs.move rfl rfl) rfl ?_
    refine Dr.val Grow.refl rfl (fun w hG => Runs.neqP rfl rfl rfl Tryz.underlying28) rfl ?_
    refine Dr.val Grow.refl rfl (fun w hG => Runs.move rfl rfl) rfl ?_
    refine Dr.valG Grow.refl rfl (fun w hG => Runs.move rfl rfl) rfl rfl rfl ?_
    refine Dr.valG Grow.refl rfl (fun w hG => (Runs.eqlI rfl rfl rfl).isT (rfl)) rfl rfl rfl ?_
    refine Dr.val Grow.refl rfl (fun w hG => Runs.pickT rfl rfl rfl) rfl ?_
    refine Dr.val Grow.refl rfl (fun w hG => Runs.move rfl rfl) rfl ?_
    refine Dr.valG Grow.refl rfl (fun w hG => Runs.move rfl rfl) rfl rfl rfl ?_
    refine Dr.valG Grow.refl rfl (fun w hG => Runs.move rfl rfl) rfl rfl rfl ?_
    refine Dr.valG Grow.refl rfl (fun w hG => Runs.nilCheck rfl rfl) rfl rfl rfl ?_
    refine Dr.valG Grow.refl rfl (fun w hG => Runs.fieldB 2 rfl rfl Tryz.underlying59 rfl (by kernel_rfl)) rfl rfl rfl ?_
    refine Dr.valG Grow.refl rfl (fun w hG => Runs.loadB rfl rfl Tryz.underlying29 rfl (k90.step hG) rfl) rfl rfl rfl ?_
    refine Dr.callVG rfl (fun w => Enters.func rfl rfl rfl (run_enter Tryz.func16 (by kernel_rfl) rfl)) rfl rfl rfl (fun w hG => same_self A1 A0 _ c1 _ c0 _ L w (hr1.below hG) (hr0.below hG) hG.size hbyt (by omega) (by omega)) ?_
    refine Dr.val Grow.refl rfl (fun w hG => Runs.pickT rfl rfl rfl) rfl ?_
    refine Dr.val Grow.refl rfl (fun w hG => Runs.move rfl rfl) rfl ?_
    refine Dr.valG Grow.refl rfl (fun w hG => Runs.move rfl rfl) rfl rfl rfl ?_
    refine Dr.callVG rfl (fun w => Enters.func rfl rfl rfl (run_enter Tryz.func20 (by kernel_rfl) rfl)) rfl rfl rfl (fun w hG => number_any g16 gd [119] ⟨0, 0, 0, false⟩ w (k16.step hG)) ?_
    refine Dr.valG Grow.refl rfl (fun w hG => Runs.move rfl rfl) rfl rfl rfl ?_
    refine Dr.valG Grow.refl rfl (fun w hG => Runs.nilCheck rfl rfl) rfl rfl rfl ?_
    refine Dr.valG Grow.refl rfl (fun w hG => Runs.fieldB 3 rfl rfl Tryz.underlying59 rfl (by kernel_rfl)) rfl rfl rfl ?_
    refine Dr.valG Grow.refl rfl (fun w hG => Runs.loadB rfl rfl Tryz.underlying3 rfl (k90.step hG) rfl) rfl rfl rfl ?_
    refine Dr.valG Grow.refl rfl (fun w hG => (Runs.eqlI rfl rfl rfl).isT (rfl)) rfl rfl rfl ?_
    refine Dr.val Grow.refl rfl (fun w hG => Runs.pickT rfl rfl rfl) rfl ?_
    refine Dr.nil ?_
    refine FinX.done (F' := [(0, _), (2, _), (3, _), (4, _), (5, _), (27, _), (61, _)]) rfl ⟨rfl, rfl, rfl, rfl, rfl, rfl, rfl, trivial⟩ ?_
    intro w6 hw6 fw6
    replace bf := bf.step hw6
    replace gv := gv.step hw6
    replace k90 := k90.step hw6
    replace dk := dk.step hw6
    replace own := own.step hw6
    replace k16 := k16.step hw6
    replace own16 := own16.step hw6
    refine Seq.val (Runs.assign rfl rfl) rfl rfl rfl ?_
    refine Seq.nil ?_
    refine Post.weak (F' := [(0, _), (2, _), (3, _), (4, _), (5, _), (27, _)]) ⟨rfl, rfl, rfl, rfl, rfl, rfl, trivial⟩ ?_
    refine Post.then_ ?_
    refine Cd.ret ?_
    refine Post.end1 rfl rfl (.inl rfl) ?_
    rw [hL] at own
    exact ⟨rfl, ⟨⟨gd, g16, _, by rw [hL] at k90; exact k90, dk, k16, own, e16⟩, e90⟩, bf⟩
end Go.Proofs.YtnlepoplncjliaaGreatDoor

namespace Go.Proofs.YtnlepoplncjliaaGreatDoor
open Go.RowKit

/-- An act. -/
structure ActV where
  kind : Int
  n : Int
  data : List Nat
def ActV.cs (a : ActV) : List Value := [.int .i64 a.kind, .int .i64 a.n, .string (strOf a.data)]
def ActV.v (a : ActV) : Value := .agg #[.int .i64 a.kind, .int .i64 a.n, .string (strOf a.data)]
/-- A log's block and its disk. -/
structure WkAt (w : World) (B gd g6 : Nat) (D : Dk) (W : Wl) : Prop where
  k : Blk w g6 80 (W.cs gd [119])
  dk : DkAt w B gd D
theorem WkAt.step {w w' : World} {B gd g6 : Nat} {D : Dk} {W : Wl} (h : WkAt w B gd g6 D W) (hb : Below w.heap.size w w') : WkAt w' B gd g6 D W := ⟨h.k.step hb, h.dk.step hb⟩
def nthW (W0 W1 : Wl) (c : Nat) : Wl := if c = 0 then W0 else W1
theorem rotate_j (B g6 gd : Nat) (D : Dk) (W : Wl) (w : World) (e6 : B ≤ g6) (h : WkAt w B gd g6 D W) (hn : W.num ≤ 1000000000) :
    Calls Tryz.prog 29 #[.pointer (some ⟨g6, 0, none⟩)] w fun e w' => e = .returned (.int .i64 (W.rotate.num : Int)) ∧ Lf B w w' ∧ WkAt w' B gd g6 D W.rotate :=
  (rotate_any B g6 gd D [119] W w e6 h.dk.size h.k h.dk hn).mono fun _ _ ⟨h1, h2, h3, h4⟩ => ⟨h1, h4, h2, h3⟩
theorem least_j (B g6 gd : Nat) (D : Dk) (n : Int) (W : Wl) (w : World) (e6 : B ≤ g6) (h : WkAt w B gd g6 D W) (hn : W.num ≤ 1000000000) :
    Calls Tryz.prog 30 #[.pointer (some ⟨g6, 0, none⟩), .int .i64 n] w fun e w' => e = .returned (.int .i64 ((W.least n).num : Int)) ∧ Lf B w w' ∧ WkAt w' B gd g6 D (W.least n) :=
  (least_any B g6 gd D [119] n W w e6 h.dk.size h.k h.dk hn).mono fun _ _ ⟨h1, h2, h3, h4⟩ => ⟨h1, h4, h2, h3⟩
set_option maxHeartbeats 8000000 in
theorem does_any (B gr : Nat) (a : ActV) (D : Dk) (W : Wl) (segs : List (Nat × List (List Nat))) (k : Nat) (w : World) (gv : Gv w) (hgB : 4 < B) (hP : PlIs D W segs k) (hk : k ≤ 30) (h : RunAt w B gr D W segs) (hd : Byt a.data) (hdl : a.data.length ≤ 300) (hn : I64 a.n) :
    Calls Tryz.prog 25 #[.pointer (some ⟨gr, 0, none⟩), a.v] w fun e w' => ∃ D' W' segs', e = .returned (.tuple #[.bool true, .bool false]) ∧ PlIs D' W' segs' (k + 1) ∧ RunAt w' B gr D' W' segs' ∧ Bf B w w' := by
  obtain ⟨⟨gd, g6, v, k90, dk, k6, own, e6⟩, e90⟩ := h
  have bf := Bf.refl B w
  have hBw := dk.size
  have hb1 := hP.num
  have hb2 := hP.cnt
  have hb3 := hP.size
  have hrl := hP.recs
  have hwn : W.broken = false := hP.wl.broken
  have hne6 := k90.neT k6
  obtain ⟨A0, c0, rfl, -⟩ := own.reads
  unfold ActV.v
  refine Calls.start 156 Tryz.func25 rfl rfl rfl ?_
  refine Cd.seq ?_
  refine Cd.region ?_
  refine Seq.box rfl rfl rfl rfl rfl ?_
  intro g3 w1 n3
  have l3 := Nat.lt_of_lt_of_le k6.lt n3.ge
  replace bf := bf.step n3.below
  replace gv := gv.step n3.below
  replace k90 := k90.step n3.below
  replace dk := dk.step n3.below
  replace k6 := k6.step n3.below
  replace own := own.step n3.below
  have k3 := n3.blk
  refine Seq.val (Runs.assign rfl rfl) rfl rfl rfl ?_
  refine Seq.val (Runs.assign rfl rfl) rfl rfl rfl ?_
  refine Seq.nil ?_
  refine Post.weak (F' := [(0, _), (1, _), (3, _), (4, _), (5, _)]) ⟨rfl, rfl, rfl, rfl, rfl, trivial⟩ ?_
  refine Post.then_ ?_
  refine Cd.seq ?_
  refine Cd.seq ?_
  refine Cd.region ?_
  refine Seq.val (Runs.fieldB 0 rfl rfl Tryz.underlying57 rfl (by kernel_rfl)) rfl rfl rfl ?_
  refine Seq.val (Runs.loadB rfl rfl Tryz.underlying3 rfl k3 rfl) rfl rfl rfl ?_
  refine Seq.nil ?_
  refine Post.weak (F' := [(0, _), (1, _), (3, _), (4, _), (5, _), (12, _)]) ⟨rfl, rfl, rfl, rfl, rfl, rfl, trivial⟩ ?_
  refine Post.then_ ?_
  refine Cd.block ?_
  refine Cd.seq ?_
  refine Cd.region ?_
  refine Seq.val (Runs.eqlI rfl rfl rfl) rfl rfl rfl ?_
  refine Seq.val (Runs.assign rfl rfl) rfl rfl rfl ?_
  refine Seq.nil ?_
  refine Post.weak (F' := [(0, _), (1, _), (3, _), (4, _), (5, _), (12, _), (13, _)]) ⟨rfl, rfl, rfl, rfl, rfl, rfl, rfl, trivial⟩ ?_
  refine Post.then_ ?_
  have hne3 := k90.neT k3
  have hne63 := k6.neT k3
  refine Cd.cond rfl (fun h => ?_) (fun h => ?_)
  · obtain ⟨D', segs', hA, hP', hrec⟩ := hP.append hk hd hdl
    refine Cd.seq ?_
    refine Cd.draw 6 (by kernel_rfl) [] (.inl rfl) rfl Grow Grow.refl (fun _ _ _ => Grow.trans) ?_
    intro w2 hw2 zw2
    replace bf := bf.step hw2
    replace gv := gv.step hw2
    replace k90 := k90.step hw2
    replace dk := dk.step hw2
    replace k6 := k6.step hw2
    replace own := own.step hw2
    replace k3 := k3.step hw2
    have zlt := k3.lt
    refine Dr.val Grow.refl rfl (fun w hG => Runs.move rfl rfl) rfl ?_
    refine Dr.val Grow.refl rfl (fun w hG => Runs.nilCheck rfl rfl) rfl ?_
    refine Dr.val Grow.refl rfl (fun w hG => Runs.fieldB 1 rfl rfl Tryz.underlying59 rfl (by kernel_rfl)) rfl ?_
    refine Dr.val Grow.refl rfl (fun w hG => Runs.loadB rfl rfl Tryz.underlying28 rfl (k90.step hG) rfl) rfl ?_
    refine Dr.val Grow.refl rfl (fun w hG => Runs.fieldB 2 rfl rfl Tryz.underlying57 rfl (by kernel_rfl)) rfl ?_
    refine Dr.val Grow.refl rfl (fun w hG => Runs.loadB rfl rfl Tryz.underlying9 rfl (k3.step hG) rfl) rfl ?_
    refine Dr.nil ?_
    refine FinX.done (F' := [(0, _), (1, _), (3, _), (4, _), (5, _), (12, _), (13, _), (18, _), (20, _)]) rfl ⟨rfl, rfl, rfl, rfl, rfl, rfl, rfl, rfl, rfl, trivial⟩ ?_
    intro w3 hw3 fw3
    replace bf := bf.step hw3
    replace gv := gv.step hw3
    replace k90 := k90.step hw3
    replace dk := dk.step hw3
    replace k6 := k6.step hw3
    replace own := own.step hw3
    replace k3 := k3.step hw3
    refine Seq.call (Enters.func rfl rfl rfl (run_enter Tryz.func15 (by kernel_rfl) rfl)) rfl rfl rfl (append_w_any B g6 gd D [119] a.data W _ gv hgB e6 k6 dk (byt_one (by omega)) (by decide) (by omega) (by omega) (by omega) hd (by omega)) ?_
    clear k6 dk
    rintro e w4 ⟨rfl, k6, dk, fw4⟩
    refine ⟨_, rfl, ?_⟩
    replace bf := bf.lf fw4
    replace gv := gv.lf fw4
    replace k90 := k90.lf fw4
    replace own := own.lf fw4
    replace k3 := k3.lf fw4
    rw [hA] at k6 dk
    rw [hA]
    refine Seq.val (Runs.assign rfl rfl) rfl rfl rfl ?_
    refine Seq.nil ?_
    refine Post.weak (F' := [(0, _), (1, _), (3, _), (4, _), (5, _), (6, _), (12, _), (13, _)]) ⟨rfl, rfl, rfl, rfl, rfl, rfl, rfl, rfl, trivial⟩ ?_
    refine Post.then_ ?_
    refine Cd.seq ?_
    refine Cd.seq ?_
    refine Cd.region ?_
    refine Seq.val (Runs.move rfl rfl) rfl rfl rfl ?_
    refine Seq.val (Runs.eqlI rfl rfl rfl) rfl rfl rfl ?_
    refine Seq.nil ?_
    refine Post.weak (F' := [(0, _), (1, _), (3, _), (4, _), (5, _), (6, _), (12, _), (13, _), (23, _)]) ⟨rfl, rfl, rfl, rfl, rfl, rfl, rfl, rfl, rfl, trivial⟩ ?_
    refine Post.then_ ?_
    refine Cd.condF rfl rfl ?_
    refine Cd.skip ?_
    refine Post.then_ ?_
    refine Cd.seq ?_
    refine Cd.draw 13 (by kernel_rfl) [0] (.inr (fun _ _ d _ _ h => by cases d <;> exact h)) rfl Grow Grow.refl (fun _ _ _ => Grow.trans) ?_
    intro w5 hw5 zw5
    replace bf := bf.step hw5
    replace gv := gv.step hw5
    replace k90 := k90.step hw5
    replace dk := dk.step hw5
    replace k6 := k6.step hw5
    replace own := own.step hw5
    replace k3 := k3.step hw5
    have zlt := k3.lt
    refine Dr.late rfl rfl (fun w => Runs.move rfl rfl) Grow.refl rfl ?_
    refine Dr.val Grow.refl rfl (fun w hG => Runs.move rfl rfl) rfl ?_
    refine Dr.val Grow.refl rfl (fun w hG => Runs.nilCheck rfl rfl) rfl ?_
    refine Dr.val Grow.refl rfl (fun w hG => Runs.fieldB 2 rfl rfl Tryz.underlying59 rfl (by kernel_rfl)) rfl ?_
    refine Dr.val Grow.refl rfl (fun w hG => Runs.loadB rfl rfl Tryz.underlying29 rfl (k90.step hG) rfl) rfl ?_
    refine Dr.val Grow.refl rfl (fun w hG => Runs.move rfl rfl) rfl ?_
    refine Dr.val Grow.refl rfl (fun w hG => Runs.nilCheck rfl rfl) rfl ?_
    refine Dr.val Grow.refl rfl (fun w hG => Runs.fieldB 3 rfl rfl Tryz.underlying59 rfl (by kernel_rfl)) rfl ?_
    refine Dr.val Grow.refl rfl (fun w hG => Runs.loadB rfl rfl Tryz.underlying3 rfl (k90.step hG) rfl) rfl ?_
    refine Dr.val Grow.refl rfl (fun w hG => Runs.fieldB 2 rfl rfl Tryz.underlying57 rfl (by kernel_rfl)) rfl ?_
    refine Dr.val Grow.refl rfl (fun w hG => Runs.loadB rfl rfl Tryz.underlying9 rfl (k3.step hG) rfl) rfl ?_
    refine Dr.val Grow.refl rfl (fun w hG => Runs.build rfl rfl (run_build_rec (W.num : Int) a.data w)) rfl ?_
    refine Dr.slice (vs := [_]) (s := 2) rfl rfl rfl rfl Tryz.underlying29 (by kernel_rfl) zero_wal_Rec (by omega) (by omega) ⟨rfl, trivial⟩ rfl ?_
    refine Dr.nil ?_
    refine FinX.open (j := 12) rfl ?_
    intro u12
    refine FinX.done (F' := [(0, _), (1, _), (3, _), (4, _), (5, _), (6, _), (12, _), (13, _), (23, _), (24, _), (28, _), (36, _)]) rfl ⟨rfl, rfl, rfl, rfl, rfl, rfl, rfl, rfl, rfl, rfl, rfl, rfl, trivial⟩ ?_
    intro w6 hw6 fw6
    replace bf := bf.step hw6
    replace gv := gv.step hw6
    replace k90 := k90.step hw6
    replace dk := dk.step hw6
    replace k6 := k6.step hw6
    replace own := own.step hw6
    replace k3 := k3.step hw6
    obtain ⟨-, g36, rfl, k36, e36⟩ := fw6
    have hrx := Reads.blk (size := 2) k36 1 rfl
    have hBw6 := dk.size
    refine Seq.append rfl rfl rfl Tryz.underlying29 (by kernel_rfl) zero_wal_Rec rfl (by decide) (b := 24) (by kernel_rfl) own hrx (ones_recV (W.num, a.data)) hBw6 (by simp only [maxLen]; omega) (by omega) rfl rfl rfl ?_
    intro v2 wb own2 ha
    replace dk := dk.app own ha
    replace bf := bf.app own ha
    replace k6 := k6.appNe own ha
    replace k90 := k90.appNe own ha
    replace gv := gv.app own ha
    replace own2 : Own wb B 36 2 v2 ((recsOf segs).length + 1) (recsV (recsOf segs) ++ recsV [(W.num, a.data)]) := own2
    have hrecl : (recsOf segs').length = (recsOf segs).length + 1 := by rw [hrec]; simp
    rw [← recsV_app, ← hrec, ← hrecl] at own2
    clear own k36 hrx ha k3
    have own := own2
    clear own2
    obtain ⟨A2, c2, rfl, -⟩ := own.reads
    refine Seq.val (Runs.nilCheck rfl rfl) rfl rfl rfl ?_
    refine Seq.val (Runs.fieldB 2 rfl rfl Tryz.underlying59 rfl (by kernel_rfl)) rfl rfl rfl ?_
    refine Seq.store1 rfl rfl rfl (by kernel_rfl) rfl rfl k90 rfl rfl rfl ?_
    intro w7 pw7
    replace bf := bf.put k90 pw7 e90
    replace gv := gv.put k90 pw7 e90
    replace dk := dk.put k90 pw7 e90
    replace k6 := k6.put pw7 (by omega)
    replace own := own.put k90 pw7 e90
    replace k90 := pw7.blk
    refine Seq.nil ?_
    refine Post.weak (F' := [(0, _), (1, _), (3, _), (4, _), (5, _), (6, _), (12, _), (13, _), (23, _)]) ⟨rfl, rfl, rfl, rfl, rfl, rfl, rfl, rfl, rfl, trivial⟩ ?_
    refine Post.then_ ?_
    refine Cd.seq ?_
    refine Cd.region ?_
    refine Seq.val (Runs.move rfl rfl) rfl rfl rfl ?_
    refine Seq.val (Runs.nilCheck rfl rfl) rfl rfl rfl ?_
    refine Seq.val (Runs.fieldB 4 rfl rfl Tryz.underlying59 rfl (by kernel_rfl)) rfl rfl rfl ?_
    refine Seq.store1 rfl rfl rfl (by kernel_rfl) rfl rfl k90 rfl rfl rfl ?_
    intro w8 pw8
    replace bf := bf.put k90 pw8 e90
    replace gv := gv.put k90 pw8 e90
    replace dk := dk.put k90 pw8 e90
    replace k6 := k6.put pw8 (by omega)
    replace own := own.put k90 pw8 e90
    replace k90 := pw8.blk
    refine Seq.nil ?_
    refine Post.weak (F' := [(0, _), (1, _), (3, _), (4, _), (5, _), (6, _), (12, _), (13, _), (23, _)]) ⟨rfl, rfl, rfl, rfl, rfl, rfl, rfl, rfl, rfl, trivial⟩ ?_
    refine Post.then_ ?_
    refine Cd.seq ?_
    refine Cd.region ?_
    refine Seq.val (Runs.move rfl rfl) rfl rfl rfl ?_
    refine Seq.val (Runs.eqlI rfl rfl rfl) rfl rfl rfl ?_
    refine Seq.val (Runs.assign rfl rfl) rfl rfl rfl ?_
    refine Seq.val (Runs.assign rfl rfl) rfl rfl rfl ?_
    refine Seq.nil ?_
    refine Post.weak (F' := [(0, _), (1, _), (3, _), (4, _), (5, _), (6, _), (12, _), (13, _), (23, _)]) ⟨rfl, rfl, rfl, rfl, rfl, rfl, rfl, rfl, rfl, trivial⟩ ?_
    refine Post.then_ ?_
    refine Cd.ret ?_
    refine Post.block_ret ?_
    refine Post.then_ret ?_
    refine Post.end2 rfl rfl rfl (.inl rfl) ?_
    exact ⟨D', _, segs', rfl, hP', ⟨⟨gd, g6, _, by rw [decide_eq_true (show 0 < W.count + 1 by omega)]; exact k90, dk, k6, own, e6⟩, e90⟩, bf⟩
  refine Cd.seq ?_
  refine Cd.region ?_
  refine Seq.val (Runs.eqlI rfl rfl rfl) rfl rfl rfl ?_
  refine Seq.val (Runs.assign rfl rfl) rfl rfl rfl ?_
  refine Seq.nil ?_
  refine Post.weak (F' := [(0, _), (1, _), (3, _), (4, _), (5, _), (12, _), (13, _), (45, _)]) ⟨rfl, rfl, rfl, rfl, rfl, rfl, rfl, rfl, trivial⟩ ?_
  refine Post.then_ ?_
  refine Cd.cond rfl (fun h => ?_) (fun h => ?_)
  · have hP' := hP.rotate
    refine Cd.seq ?_
    refine Cd.seq ?_
    refine Cd.region ?_
    refine Seq.val (Runs.move rfl rfl) rfl rfl rfl ?_
    refine Seq.val (Runs.nilCheck rfl rfl) rfl rfl rfl ?_
    refine Seq.val (Runs.fieldB 4 rfl rfl Tryz.underlying59 rfl (by kernel_rfl)) rfl rfl rfl ?_
    refine Seq.val (Runs.loadB rfl rfl Tryz.underlying4 rfl k90 rfl) rfl rfl rfl ?_
    refine Seq.nil ?_
    refine Post.weak (F' := [(0, _), (1, _), (3, _), (4, _), (5, _), (12, _), (13, _), (45, _), (50, _)]) ⟨rfl, rfl, rfl, rfl, rfl, rfl, rfl, rfl, rfl, trivial⟩ ?_
    refine Post.then_ ?_
    refine Cd.cond rfl (fun h => ?_) (fun h => ?_)
    · have h : 0 < W.count := by simpa using h
      have hrot : W.rotate = ⟨W.num + 1, 0, 0, W.broken⟩ := by unfold Wl.rotate; rw [if_pos h]
      refine Cd.seq ?_
      refine Cd.region ?_
      refine Seq.val (Runs.move rfl rfl) rfl rfl rfl ?_
      refine Seq.val (Runs.nilCheck rfl rfl) rfl rfl rfl ?_
      refine Seq.val (Runs.fieldB 3 rfl rfl Tryz.underlying59 rfl (by kernel_rfl)) rfl rfl rfl ?_
      refine Seq.val (Runs.loadB rfl rfl Tryz.underlying3 rfl k90 rfl) rfl rfl rfl ?_
      refine Seq.val (Runs.addI rfl rfl rfl (by omega) (by omega)) rfl rfl rfl ?_
      refine Seq.val (Runs.nilCheck rfl rfl) rfl rfl rfl ?_
      refine Seq.val (Runs.fieldB 3 rfl rfl Tryz.underlying59 rfl (by kernel_rfl)) rfl rfl rfl ?_
      refine Seq.store1 rfl rfl rfl (by kernel_rfl) rfl rfl k90 rfl rfl rfl ?_
      intro w2 pw2
      replace bf := bf.put k90 pw2 e90
      replace gv := gv.put k90 pw2 e90
      replace dk := dk.put k90 pw2 e90
      replace k6 := k6.put pw2 (by omega)
      replace own := own.put k90 pw2 e90
      replace k3 := k3.put pw2 (by omega)
      replace k90 := pw2.blk
      refine Seq.nil ?_
      refine Post.weak (F' := [(0, _), (1, _), (3, _), (4, _), (5, _), (12, _), (13, _), (45, _), (50, _)]) ⟨rfl, rfl, rfl, rfl, rfl, rfl, rfl, rfl, rfl, trivial⟩ ?_
      refine Post.then_ ?_
      refine Cd.region ?_
      refine Seq.val (Runs.move rfl rfl) rfl rfl rfl ?_
      refine Seq.val (Runs.nilCheck rfl rfl) rfl rfl rfl ?_
      refine Seq.val (Runs.fieldB 4 rfl rfl Tryz.underlying59 rfl (by kernel_rfl)) rfl rfl rfl ?_
      refine Seq.store1 rfl rfl rfl (by kernel_rfl) rfl rfl k90 rfl rfl rfl ?_
      intro w3 pw3
      replace bf := bf.put k90 pw3 e90
      replace gv := gv.put k90 pw3 e90
      replace dk := dk.put k90 pw3 e90
      replace k6 := k6.put pw3 (by omega)
      replace own := own.put k90 pw3 e90
      replace k3 := k3.put pw3 (by omega)
      replace k90 := pw3.blk
      refine Seq.nil ?_
      refine Post.weak (F' := [(0, _), (1, _), (3, _), (4, _), (5, _), (12, _), (13, _), (45, _), (50, _)]) ⟨rfl, rfl, rfl, rfl, rfl, rfl, rfl, rfl, rfl, trivial⟩ ?_
      refine Post.then_ ?_
      refine Cd.seq ?_
      have wk : WkAt _ B gd g6 D W := ⟨k6, dk⟩
      clear k6 dk
      refine Cd.weak (F' := [(0, _), (1, _), (3, _), (12, _), (13, _), (45, _), (50, _)]) ⟨rfl, rfl, rfl, rfl, rfl, rfl, rfl, trivial⟩ ?_
      refine Cd.drawJ 12 (by kernel_rfl) [] [4] (fun i h => by cases h) rfl rfl (.inl rfl) rfl (Lf B) (Lf.refl B) (fun _ _ _ => Lf.trans) (fun c w => WkAt w B gd g6 D (nthW W W.rotate c)) ?_
      intro w4 hw4 zw4
      replace bf := bf.step hw4
      replace gv := gv.step hw4
      replace k90 := k90.step hw4
      replace own := own.step hw4
      replace k3 := k3.step hw4
      replace wk := wk.step hw4
      refine ⟨wk, ?_⟩
      have zlt := k3.lt
      refine DJ.val rfl (Lf.refl B) rfl (fun w hG => Runs.move rfl rfl) rfl ?_
      refine DJ.val rfl (Lf.refl B) rfl (fun w hG => Runs.nilCheck rfl rfl) rfl ?_
      refine DJ.val rfl (Lf.refl B) rfl (fun w hG => Runs.fieldB 1 rfl rfl Tryz.underlying59 rfl (by kernel_rfl)) rfl ?_
      refine DJ.val rfl (Lf.refl B) rfl (fun w hG => Runs.loadB rfl rfl Tryz.underlying28 rfl (k90.lf hG) rfl) rfl ?_
      refine DJ.chain 0 rfl rfl (fun w => Enters.func rfl rfl rfl (run_enter Tryz.func29 (by kernel_rfl) rfl)) rfl (fun w hG wk => rotate_j B g6 gd D W w e6 wk (by omega)) ?_
      refine DJ.val rfl (Lf.refl B) rfl (fun w hG => Runs.move rfl rfl) rfl ?_
      refine DJ.val rfl (Lf.refl B) rfl (fun w hG => Runs.nilCheck rfl rfl) rfl ?_
      refine DJ.val rfl (Lf.refl B) rfl (fun w hG => Runs.fieldB 3 rfl rfl Tryz.underlying59 rfl (by kernel_rfl)) rfl ?_
      refine DJ.val rfl (Lf.refl B) rfl (fun w hG => Runs.loadB rfl rfl Tryz.underlying3 rfl (k90.lf hG) rfl) rfl ?_
      refine DJ.val rfl (Lf.refl B) rfl (fun w hG => Runs.eqlI rfl rfl rfl) rfl ?_
      refine DJ.val rfl (Lf.refl B) rfl (fun w hG => Runs.assign rfl rfl) rfl ?_
      refine DJ.val rfl (Lf.refl B) rfl (fun w hG => Runs.assign rfl rfl) rfl ?_
      refine DJ.nil ?_
      refine FinX.done (F' := [(0, _), (1, _), (3, _), (4, _), (5, _), (12, _), (13, _), (45, _), (50, _)]) rfl ⟨rfl, rfl, rfl, rfl, rfl, rfl, rfl, rfl, rfl, trivial⟩ ?_
      intro w5 hw5 fw5
      replace bf := bf.lf hw5
      replace gv := gv.lf hw5
      replace k90 := k90.lf hw5
      replace own := own.lf hw5
      replace k3 := k3.lf hw5
      clear wk
      have wk := fw5
      refine Seq.nil ?_
      refine Post.weak (F' := [(0, _), (1, _), (3, _), (4, _), (5, _), (12, _), (13, _), (45, _), (50, _)]) ⟨rfl, rfl, rfl, rfl, rfl, rfl, rfl, rfl, rfl, trivial⟩ ?_
      refine Post.then_ ?_
      refine Cd.ret ?_
      refine Post.block_ret ?_
      refine Post.then_ret ?_
      refine Post.end2 rfl rfl rfl (.inl rfl) ?_
      have wk : WkAt _ B gd g6 D W.rotate := wk
      refine ⟨D, W.rotate, segs, ?_, hP', ⟨⟨gd, g6, _, ?_, wk.dk, wk.k, own, e6⟩, e90⟩, bf⟩
      · rw [hrot]; simp
      · rw [hrot]; exact k90
    · have h : ¬ (0 < W.count) := by simpa using h
      have hrot : W.rotate = W := by unfold Wl.rotate; rw [if_neg h]
      refine Cd.skip ?_
      refine Post.then_ ?_
      refine Cd.seq ?_
      have wk : WkAt _ B gd g6 D W := ⟨k6, dk⟩
      clear k6 dk
      refine Cd.weak (F' := [(0, _), (1, _), (3, _), (12, _), (13, _), (45, _), (50, _)]) ⟨rfl, rfl, rfl, rfl, rfl, rfl, rfl, trivial⟩ ?_
      refine Cd.drawJ 12 (by kernel_rfl) [] [4] (fun i h => by cases h) rfl rfl (.inl rfl) rfl (Lf B) (Lf.refl B) (fun _ _ _ => Lf.trans) (fun c w => WkAt w B gd g6 D (nthW W W.rotate c)) ?_
      intro w2 hw2 zw2
      replace bf := bf.step hw2
      replace gv := gv.step hw2
      replace k90 := k90.step hw2
      replace own := own.step hw2
      replace k3 := k3.step hw2
      replace wk := wk.step hw2
      refine ⟨wk, ?_⟩
      have zlt := k3.lt
      refine DJ.val rfl (Lf.refl B) rfl (fun w hG => Runs.move rfl rfl) rfl ?_
      refine DJ.val rfl (Lf.refl B) rfl (fun w hG => Runs.nilCheck rfl rfl) rfl ?_
      refine DJ.val rfl (Lf.refl B) rfl (fun w hG => Runs.fieldB 1 rfl rfl Tryz.underlying59 rfl (by kernel_rfl)) rfl ?_
      refine DJ.val rfl (Lf.refl B) rfl (fun w hG => Runs.loadB rfl rfl Tryz.underlying28 rfl (k90.lf hG) rfl) rfl ?_
      refine DJ.chain 0 rfl rfl (fun w => Enters.func rfl rfl rfl (run_enter Tryz.func29 (by kernel_rfl) rfl)) rfl (fun w hG wk => rotate_j B g6 gd D W w e6 wk (by omega)) ?_
      refine DJ.val rfl (Lf.refl B) rfl (fun w hG => Runs.move rfl rfl) rfl ?_
      refine DJ.val rfl (Lf.refl B) rfl (fun w hG => Runs.nilCheck rfl rfl) rfl ?_
      refine DJ.val rfl (Lf.refl B) rfl (fun w hG => Runs.fieldB 3 rfl rfl Tryz.underlying59 rfl (by kernel_rfl)) rfl ?_
      refine DJ.val rfl (Lf.refl B) rfl (fun w hG => Runs.loadB rfl rfl Tryz.underlying3 rfl (k90.lf hG) rfl) rfl ?_
      refine DJ.val rfl (Lf.refl B) rfl (fun w hG => Runs.eqlI rfl rfl rfl) rfl ?_
      refine DJ.val rfl (Lf.refl B) rfl (fun w hG => Runs.assign rfl rfl) rfl ?_
      refine DJ.val rfl (Lf.refl B) rfl (fun w hG => Runs.assign rfl rfl) rfl ?_
      refine DJ.nil ?_
      refine FinX.done (F' := [(0, _), (1, _), (3, _), (4, _), (5, _), (12, _), (13, _), (45, _), (50, _)]) rfl ⟨rfl, rfl, rfl, rfl, rfl, rfl, rfl, rfl, rfl, trivial⟩ ?_
      intro w3 hw3 fw3
      replace bf := bf.lf hw3
      replace gv := gv.lf hw3
      replace k90 := k90.lf hw3
      replace own := own.lf hw3
      replace k3 := k3.lf hw3
      clear wk
      have wk := fw3
      refine Seq.nil ?_
      refine Post.weak (F' := [(0, _), (1, _), (3, _), (4, _), (5, _), (12, _), (13, _), (45, _), (50, _)]) ⟨rfl, rfl, rfl, rfl, rfl, rfl, rfl, rfl, rfl, trivial⟩ ?_
      refine Post.then_ ?_
      refine Cd.ret ?_
      refine Post.block_ret ?_
      refine Post.then_ret ?_
      refine Post.end2 rfl rfl rfl (.inl rfl) ?_
      have wk : WkAt _ B gd g6 D W.rotate := wk
      refine ⟨D, W.rotate, segs, ?_, hP', ⟨⟨gd, g6, _, ?_, wk.dk, wk.k, own, e6⟩, e90⟩, bf⟩
      · rw [hrot]; simp
      · rw [hrot]; exact k90
  refine Cd.seq ?_
  refine Cd.region ?_
  refine Seq.val (Runs.eqlI rfl rfl rfl) rfl rfl rfl ?_
  refine Seq.val (Runs.assign rfl rfl) rfl rfl rfl ?_
  refine Seq.nil ?_
  refine Post.weak (F' := [(0, _), (1, _), (3, _), (4, _), (5, _), (12, _), (13, _), (45, _), (71, _)]) ⟨rfl, rfl, rfl, rfl, rfl, rfl, rfl, rfl, rfl, trivial⟩ ?_
  refine Post.then_ ?_
  refine Cd.cond rfl (fun h => ?_) (fun h => ?_)
  · obtain ⟨m, hm, hm9⟩ : ∃ m : Nat, a.n % 18446744073709551616 % 900 = (m : Int) ∧ m < 900 := ⟨(a.n % 18446744073709551616 % 900).toNat, by omega, by omega⟩
    have hP' := hP.least (n := (m : Int)) (by omega)
    obtain ⟨u, hu⟩ : ∃ u : Nat, a.n % 18446744073709551616 = (u : Int) := ⟨(a.n % 18446744073709551616).toNat, by omega⟩
    refine Cd.seq ?_
    refine Cd.region ?_
    refine Seq.val (Runs.fieldB 1 rfl rfl Tryz.underlying57 rfl (by kernel_rfl)) rfl rfl rfl ?_
    refine Seq.val (Runs.loadB rfl rfl Tryz.underlying3 rfl k3 rfl) rfl rfl rfl ?_
    refine Seq.val (Runs.convU (r := u) rfl rfl Tryz.underlying3 Tryz.underlying67 hu) rfl rfl rfl ?_
    refine Seq.val (Runs.remN rfl rfl rfl (by omega) (by omega)) rfl rfl rfl ?_
    have hum : (u : Int) % 900 = (m : Int) := by rw [← hu]; exact hm
    refine Seq.val (Runs.convI (r := (m : Int)) rfl rfl Tryz.underlying67 Tryz.underlying3 (by rw [hum]; exact wrapI (by omega) (by omega))) rfl rfl rfl ?_
    refine Seq.val (Runs.assign rfl rfl) rfl rfl rfl ?_
    refine Seq.nil ?_
    refine Post.weak (F' := [(0, _), (1, _), (3, _), (4, _), (5, _), (7, _), (12, _), (13, _), (45, _), (71, _)]) ⟨rfl, rfl, rfl, rfl, rfl, rfl, rfl, rfl, rfl, rfl, trivial⟩ ?_
    refine Post.then_ ?_
    refine Cd.seq ?_
    refine Cd.seq ?_
    refine Cd.region ?_
    refine Seq.val (Runs.move rfl rfl) rfl rfl rfl ?_
    refine Seq.val (Runs.move rfl rfl) rfl rfl rfl ?_
    refine Seq.val (Runs.nilCheck rfl rfl) rfl rfl rfl ?_
    refine Seq.val (Runs.fieldB 3 rfl rfl Tryz.underlying59 rfl (by kernel_rfl)) rfl rfl rfl ?_
    refine Seq.val (Runs.loadB rfl rfl Tryz.underlying3 rfl k90 rfl) rfl rfl rfl ?_
    refine Seq.val (Runs.gtr rfl rfl rfl) rfl rfl rfl ?_
    refine Seq.nil ?_
    refine Post.weak (F' := [(0, _), (1, _), (3, _), (4, _), (5, _), (7, _), (12, _), (13, _), (45, _), (71, _), (83, _)]) ⟨rfl, rfl, rfl, rfl, rfl, rfl, rfl, rfl, rfl, rfl, rfl, trivial⟩ ?_
    refine Post.then_ ?_
    refine Cd.cond rfl (fun h => ?_) (fun h => ?_)
    · have h : (W.num : Int) < (m : Int) := by simpa using h
      have hle : W.least (m : Int) = ⟨m, 0, 0, W.broken⟩ := by unfold Wl.least; rw [if_pos h, Int.toNat_natCast]
      refine Cd.seq ?_
      refine Cd.region ?_
      refine Seq.val (Runs.move rfl rfl) rfl rfl rfl ?_
      refine Seq.val (Runs.move rfl rfl) rfl rfl rfl ?_
      refine Seq.val (Runs.nilCheck rfl rfl) rfl rfl rfl ?_
      refine Seq.val (Runs.fieldB 3 rfl rfl Tryz.underlying59 rfl (by kernel_rfl)) rfl rfl rfl ?_
      refine Seq.store1 rfl rfl rfl (by kernel_rfl) rfl rfl k90 rfl rfl rfl ?_
      intro w2 pw2
      replace bf := bf.put k90 pw2 e90
      replace gv := gv.put k90 pw2 e90
      replace dk := dk.put k90 pw2 e90
      replace k6 := k6.put pw2 (by omega)
      replace own := own.put k90 pw2 e90
      replace k3 := k3.put pw2 (by omega)
      replace k90 := pw2.blk
      refine Seq.nil ?_
      refine Post.weak (F' := [(0, _), (1, _), (3, _), (4, _), (5, _), (7, _), (12, _), (13, _), (45, _), (71, _), (83, _)]) ⟨rfl, rfl, rfl, rfl, rfl, rfl, rfl, rfl, rfl, rfl, rfl, trivial⟩ ?_
      refine Post.then_ ?_
      refine Cd.region ?_
      refine Seq.val (Runs.move rfl rfl) rfl rfl rfl ?_
      refine Seq.val (Runs.nilCheck rfl rfl) rfl rfl rfl ?_
      refine Seq.val (Runs.fieldB 4 rfl rfl Tryz.underlying59 rfl (by kernel_rfl)) rfl rfl rfl ?_
      refine Seq.store1 rfl rfl rfl (by kernel_rfl) rfl rfl k90 rfl rfl rfl ?_
      intro w3 pw3
      replace bf := bf.put k90 pw3 e90
      replace gv := gv.put k90 pw3 e90
      replace dk := dk.put k90 pw3 e90
      replace k6 := k6.put pw3 (by omega)
      replace own := own.put k90 pw3 e90
      replace k3 := k3.put pw3 (by omega)
      replace k90 := pw3.blk
      refine Seq.nil ?_
      refine Post.weak (F' := [(0, _), (1, _), (3, _), (4, _), (5, _), (7, _), (12, _), (13, _), (45, _), (71, _), (83, _)]) ⟨rfl, rfl, rfl, rfl, rfl, rfl, rfl, rfl, rfl, rfl, rfl, trivial⟩ ?_
      refine Post.then_ ?_
      refine Cd.seq ?_
      have wk : WkAt _ B gd g6 D W := ⟨k6, dk⟩
      clear k6 dk
      refine Cd.weak (F' := [(0, _), (1, _), (3, _), (7, _), (12, _), (13, _), (45, _), (71, _), (83, _)]) ⟨rfl, rfl, rfl, rfl, rfl, rfl, rfl, rfl, rfl, trivial⟩ ?_
      refine Cd.drawJ 13 (by kernel_rfl) [] [5] (fun i h => by cases h) rfl rfl (.inl rfl) rfl (Lf B) (Lf.refl B) (fun _ _ _ => Lf.trans) (fun c w => WkAt w B gd g6 D (nthW W (W.least (m : Int)) c)) ?_
      intro w4 hw4 zw4
      replace bf := bf.step hw4
      replace gv := gv.step hw4
      replace k90 := k90.step hw4
      replace own := own.step hw4
      replace k3 := k3.step hw4
      replace wk := wk.step hw4
      refine ⟨wk, ?_⟩
      have zlt := k3.lt
      refine DJ.val rfl (Lf.refl B) rfl (fun w hG => Runs.move rfl rfl) rfl ?_
      refine DJ.val rfl (Lf.refl B) rfl (fun w hG => Runs.nilCheck rfl rfl) rfl ?_
      refine DJ.val rfl (Lf.refl B) rfl (fun w hG => Runs.fieldB 1 rfl rfl Tryz.underlying59 rfl (by kernel_rfl)) rfl ?_
      refine DJ.val rfl (Lf.refl B) rfl (fun w hG => Runs.loadB rfl rfl Tryz.underlying28 rfl (k90.lf hG) rfl) rfl ?_
      refine DJ.val rfl (Lf.refl B) rfl (fun w hG => Runs.move rfl rfl) rfl ?_
      refine DJ.chain 0 rfl rfl (fun w => Enters.func rfl rfl rfl (run_enter Tryz.func30 (by kernel_rfl) rfl)) rfl (fun w hG wk => least_j B g6 gd D (m : Int) W w e6 wk (by omega)) ?_
      refine DJ.val rfl (Lf.refl B) rfl (fun w hG => Runs.move rfl rfl) rfl ?_
      refine DJ.val rfl (Lf.refl B) rfl (fun w hG => Runs.nilCheck rfl rfl) rfl ?_
      refine DJ.val rfl (Lf.refl B) rfl (fun w hG => Runs.fieldB 3 rfl rfl Tryz.underlying59 rfl (by kernel_rfl)) rfl ?_
      refine DJ.val rfl (Lf.refl B) rfl (fun w hG => Runs.loadB rfl rfl Tryz.underlying3 rfl (k90.lf hG) rfl) rfl ?_
      refine DJ.val rfl (Lf.refl B) rfl (fun w hG => Runs.eqlI rfl rfl rfl) rfl ?_
      refine DJ.val rfl (Lf.refl B) rfl (fun w hG => Runs.assign rfl rfl) rfl ?_
      refine DJ.val rfl (Lf.refl B) rfl (fun w hG => Runs.assign rfl rfl) rfl ?_
      refine DJ.nil ?_
      refine FinX.done (F' := [(0, _), (1, _), (3, _), (4, _), (5, _), (7, _), (12, _), (13, _), (45, _), (71, _), (83, _)]) rfl ⟨rfl, rfl, rfl, rfl, rfl, rfl, rfl, rfl, rfl, rfl, rfl, trivial⟩ ?_
      intro w5 hw5 fw5
      replace bf := bf.lf hw5
      replace gv := gv.lf hw5
      replace k90 := k90.lf hw5
      replace own := own.lf hw5
      replace k3 := k3.lf hw5
      clear wk
      have wk := fw5
      refine Seq.nil ?_
      refine Post.weak (F' := [(0, _), (1, _), (3, _), (4, _), (5, _), (7, _), (12, _), (13, _), (45, _), (71, _), (83, _)]) ⟨rfl, rfl, rfl, rfl, rfl, rfl, rfl, rfl, rfl, rfl, rfl, trivial⟩ ?_
      refine Post.then_ ?_
      refine Cd.ret ?_
      refine Post.block_ret ?_
      refine Post.then_ret ?_
      refine Post.end2 rfl rfl rfl (.inl rfl) ?_
      have wk : WkAt _ B gd g6 D (W.least (m : Int)) := wk
      refine ⟨D, W.least (m : Int), segs, ?_, hP', ⟨⟨gd, g6, _, ?_, wk.dk, wk.k, own, e6⟩, e90⟩, bf⟩
      · rw [hle]; simp
      · rw [hle]; exact k90
    · have h : ¬ ((W.num : Int) < (m : Int)) := by simpa using h
      have hle : W.least (m : Int) = W := by unfold Wl.least; rw [if_neg h]
      refine Cd.skip ?_
      refine Post.then_ ?_
      refine Cd.seq ?_
      have wk : WkAt _ B gd g6 D W := ⟨k6, dk⟩
      clear k6 dk
      refine Cd.weak (F' := [(0, _), (1, _), (3, _), (7, _), (12, _), (13, _), (45, _), (71, _), (83, _)]) ⟨rfl, rfl, rfl, rfl, rfl, rfl, rfl, rfl, rfl, trivial⟩ ?_
      refine Cd.drawJ 13 (by kernel_rfl) [] [5] (fun i h => by cases h) rfl rfl (.inl rfl) rfl (Lf B) (Lf.refl B) (fun _ _ _ => Lf.trans) (fun c w => WkAt w B gd g6 D (nthW W (W.least (m : Int)) c)) ?_
      intro w2 hw2 zw2
      replace bf := bf.step hw2
      replace gv := gv.step hw2
      replace k90 := k90.step hw2
      replace own := own.step hw2
      replace k3 := k3.step hw2
      replace wk := wk.step hw2
      refine ⟨wk, ?_⟩
      have zlt := k3.lt
      refine DJ.val rfl (Lf.refl B) rfl (fun w hG => Runs.move rfl rfl) rfl ?_
      refine DJ.val rfl (Lf.refl B) rfl (fun w hG => Runs.nilCheck rfl rfl) rfl ?_
      refine DJ.val rfl (Lf.refl B) rfl (fun w hG => Runs.fieldB 1 rfl rfl Tryz.underlying59 rfl (by kernel_rfl)) rfl ?_
      refine DJ.val rfl (Lf.refl B) rfl (fun w hG => Runs.loadB rfl rfl Tryz.underlying28 rfl (k90.lf hG) rfl) rfl ?_
      refine DJ.val rfl (Lf.refl B) rfl (fun w hG => Runs.move rfl rfl) rfl ?_
      refine DJ.chain 0 rfl rfl (fun w => Enters.func rfl rfl rfl (run_enter Tryz.func30 (by kernel_rfl) rfl)) rfl (fun w hG wk => least_j B g6 gd D (m : Int) W w e6 wk (by omega)) ?_
      refine DJ.val rfl (Lf.refl B) rfl (fun w hG => Runs.move rfl rfl) rfl ?_
      refine DJ.val rfl (Lf.refl B) rfl (fun w hG => Runs.nilCheck rfl rfl) rfl ?_
      refine DJ.val rfl (Lf.refl B) rfl (fun w hG => Runs.fieldB 3 rfl rfl Tryz.underlying59 rfl (by kernel_rfl)) rfl ?_
      refine DJ.val rfl (Lf.refl B) rfl (fun w hG => Runs.loadB rfl rfl Tryz.underlying3 rfl (k90.lf hG) rfl) rfl ?_
      refine DJ.val rfl (Lf.refl B) rfl (fun w hG => Runs.eqlI rfl rfl rfl) rfl ?_
      refine DJ.val rfl (Lf.refl B) rfl (fun w hG => Runs.assign rfl rfl) rfl ?_
      refine DJ.val rfl (Lf.refl B) rfl (fun w hG => Runs.assign rfl rfl) rfl ?_
      refine DJ.nil ?_
      refine FinX.done (F' := [(0, _), (1, _), (3, _), (4, _), (5, _), (7, _), (12, _), (13, _), (45, _), (71, _), (83, _)]) rfl ⟨rfl, rfl, rfl, rfl, rfl, rfl, rfl, rfl, rfl, rfl, rfl, trivial⟩ ?_
      intro w3 hw3 fw3
      replace bf := bf.lf hw3
      replace gv := gv.lf hw3
      replace k90 := k90.lf hw3
      replace own := own.lf hw3
      replace k3 := k3.lf hw3
      clear wk
      have wk := fw3
      refine Seq.nil ?_
      refine Post.weak (F' := [(0, _), (1, _), (3, _), (4, _), (5, _), (7, _), (12, _), (13, _), (45, _), (71, _), (83, _)]) ⟨rfl, rfl, rfl, rfl, rfl, rfl, rfl, rfl, rfl, rfl, rfl, trivial⟩ ?_
      refine Post.then_ ?_
      refine Cd.ret ?_
      refine Post.block_ret ?_
      refine Post.then_ret ?_
      refine Post.end2 rfl rfl rfl (.inl rfl) ?_
      have wk : WkAt _ B gd g6 D (W.least (m : Int)) := wk
      refine ⟨D, W.least (m : Int), segs, ?_, hP', ⟨⟨gd, g6, _, ?_, wk.dk, wk.k, own, e6⟩, e90⟩, bf⟩
      · rw [hle]; simp
      · rw [hle]; exact k90
  refine Cd.seq ?_
  refine Cd.region ?_
  refine Seq.val (Runs.eqlI rfl rfl rfl) rfl rfl rfl ?_
  refine Seq.val (Runs.assign rfl rfl) rfl rfl rfl ?_
  refine Seq.nil ?_
  refine Post.weak (F' := [(0, _), (1, _), (3, _), (4, _), (5, _), (12, _), (13, _), (45, _), (71, _), (102, _)]) ⟨rfl, rfl, rfl, rfl, rfl, rfl, rfl, rfl, rfl, rfl, trivial⟩ ?_
  refine Post.then_ ?_
  refine Cd.cond rfl (fun h => ?_) (fun h => ?_)
  · obtain ⟨D', segs', hA, hP', hrec⟩ := hP.retire a.n
    have hown := hP.wl.log.own_nm
    refine Cd.seq ?_
    refine Cd.draw 6 (by kernel_rfl) [] (.inl rfl) rfl Grow Grow.refl (fun _ _ _ => Grow.trans) ?_
    intro w2 hw2 zw2
    replace bf := bf.step hw2
    replace gv := gv.step hw2
    replace k90 := k90.step hw2
    replace dk := dk.step hw2
    replace k6 := k6.step hw2
    replace own := own.step hw2
    replace k3 := k3.step hw2
    have zlt := k3.lt
    refine Dr.val Grow.refl rfl (fun w hG => Runs.move rfl rfl) rfl ?_
    refine Dr.val Grow.refl rfl (fun w hG => Runs.nilCheck rfl rfl) rfl ?_
    refine Dr.val Grow.refl rfl (fun w hG => Runs.fieldB 1 rfl rfl Tryz.underlying59 rfl (by kernel_rfl)) rfl ?_
    refine Dr.val Grow.refl rfl (fun w hG => Runs.loadB rfl rfl Tryz.underlying28 rfl (k90.step hG) rfl) rfl ?_
    refine Dr.val Grow.refl rfl (fun w hG => Runs.fieldB 1 rfl rfl Tryz.underlying57 rfl (by kernel_rfl)) rfl ?_
    refine Dr.val Grow.refl rfl (fun w hG => Runs.loadB rfl rfl Tryz.underlying3 rfl (k3.step hG) rfl) rfl ?_
    refine Dr.nil ?_
    refine FinX.done (F' := [(0, _), (1, _), (3, _), (4, _), (5, _), (12, _), (13, _), (45, _), (71, _), (102, _), (107, _), (109, _)]) rfl ⟨rfl, rfl, rfl, rfl, rfl, rfl, rfl, rfl, rfl, rfl, rfl, rfl, trivial⟩ ?_
    intro w3 hw3 fw3
    replace bf := bf.step hw3
    replace gv := gv.step hw3
    replace k90 := k90.step hw3
    replace dk := dk.step hw3
    replace k6 := k6.step hw3
    replace own := own.step hw3
    replace k3 := k3.step hw3
    refine Seq.call (Enters.func rfl rfl rfl (run_enter Tryz.func28 (by kernel_rfl) rfl)) rfl rfl rfl (retire_any B g6 gd D [119] a.n W _ gv hgB e6 k6 dk (byt_one (by omega)) (by decide) hown (by omega)) ?_
    clear k6 dk
    rintro e w4 ⟨rfl, k6, dk, fw4⟩
    refine ⟨_, rfl, ?_⟩
    replace bf := bf.lf fw4
    replace gv := gv.lf fw4
    replace k90 := k90.lf fw4
    replace own := own.lf fw4
    replace k3 := k3.lf fw4
    rw [hA] at k6 dk
    rw [hA]
    refine Seq.val (Runs.assign rfl rfl) rfl rfl rfl ?_
    refine Seq.nil ?_
    refine Post.weak (F' := [(0, _), (1, _), (3, _), (4, _), (5, _), (8, _), (12, _), (13, _), (45, _), (71, _), (102, _)]) ⟨rfl, rfl, rfl, rfl, rfl, rfl, rfl, rfl, rfl, rfl, rfl, trivial⟩ ?_
    refine Post.then_ ?_
    refine Cd.seq ?_
    refine Cd.seq ?_
    refine Cd.region ?_
    refine Seq.val (Runs.move rfl rfl) rfl rfl rfl ?_
    refine Seq.val (Runs.eqlI rfl rfl rfl) rfl rfl rfl ?_
    refine Seq.nil ?_
    refine Post.weak (F' := [(0, _), (1, _), (3, _), (4, _), (5, _), (8, _), (12, _), (13, _), (45, _), (71, _), (102, _), (112, _)]) ⟨rfl, rfl, rfl, rfl, rfl, rfl, rfl, rfl, rfl, rfl, rfl, rfl, trivial⟩ ?_
    refine Post.then_ ?_
    refine Cd.condF rfl rfl ?_
    refine Cd.skip ?_
    refine Post.then_ ?_
    refine Cd.seq ?_
    refine Cd.region ?_
    refine Seq.val (Runs.assign rfl rfl) rfl rfl rfl ?_
    refine Seq.nil ?_
    refine Post.weak (F' := [(0, _), (1, _), (3, _), (4, _), (5, _), (8, _), (9, _), (12, _), (13, _), (45, _), (71, _), (102, _), (112, _)]) ⟨rfl, rfl, rfl, rfl, rfl, rfl, rfl, rfl, rfl, rfl, rfl, rfl, rfl, trivial⟩ ?_
    refine Post.then_ ?_
    refine Cd.seq ?_
    refine Cd.seq ?_
    refine Cd.region ?_
    refine Seq.val (Runs.assign rfl rfl) rfl rfl rfl ?_
    refine Seq.nil ?_
    refine Post.weak (F' := [(0, _), (1, _), (3, _), (4, _), (5, _), (8, _), (9, _), (10, _), (12, _), (13, _), (45, _), (71, _), (102, _), (112, _)]) ⟨rfl, rfl, rfl, rfl, rfl, rfl, rfl, rfl, rfl, rfl, rfl, rfl, rfl, rfl, trivial⟩ ?_
    refine Post.then_ ?_
    refine Cd.block ?_
    obtain ⟨L, hL⟩ : ∃ L, L = recsOf segs := ⟨_, rfl⟩
    obtain ⟨lim, hlim⟩ : ∃ lim, lim = min a.n (W.num : Int) := ⟨_, rfl⟩
    rw [← hL] at own k90 hrl hrec
    rw [← hlim] at hrec
    obtain ⟨A0', c0', hv0, hr0⟩ := own.reads
    injection hv0 with e1 _ e2
    subst e1 e2
    clear own
    have bel := Below.refl w4.heap.size w4
    have own9 := Own.nil w4 w4.heap.size 36 2
    have hBw4 := dk.size
    refine Cd.loop (σ := Nat × Value) (fun q => [(0, .pointer (some ⟨gr, 0, none⟩)), (3, .pointer (some ⟨g3, 0, none⟩)), (8, .int .i64 0), (9, q.2), (10, .int .i64 (q.1 : Int))]) (fun q wr => q.1 ≤ L.length ∧ Below w4.heap.size w4 wr ∧ Own wr w4.heap.size 36 2 q.2 ((L.take q.1).filter fun r => decide (lim ≤ (r.1 : Int))).length (recsV ((L.take q.1).filter fun r => decide (lim ≤ (r.1 : Int))))) (fun q => L.length - q.1) (0, .slice none 0 0) ⟨Nat.zero_le _, bel, own9⟩ ⟨rfl, rfl, rfl, rfl, rfl, trivial⟩ ?_
    clear bel own9
    rintro ⟨j, v9⟩ wr ⟨hj, bel, own9⟩
    simp only at hj own9
    replace bf := bf.step bel
    replace gv := gv.step bel
    replace k90 := k90.step bel
    replace dk := dk.step bel
    replace k6 := k6.step bel
    replace k3 := k3.step bel
    obtain ⟨A9, c9, rfl, -⟩ := own9.reads
    have hfl9 : ((L.take j).filter fun r => decide (lim ≤ (r.1 : Int))).length ≤ j := Nat.le_trans (List.length_filter_le _ _) (by rw [List.length_take]; omega)
    show Cd _ _ _ _ [(0, .pointer (some ⟨gr, 0, none⟩)), (3, .pointer (some ⟨g3, 0, none⟩)), (8, .int .i64 0), (9, .slice A9 ((L.take j).filter fun r => decide (lim ≤ (r.1 : Int))).length c9), (10, .int .i64 (j : Int))] _
    refine Cd.seq ?_
    refine Cd.seq ?_
    refine Cd.region ?_
    refine Seq.val (Runs.move rfl rfl) rfl rfl rfl ?_
    refine Seq.val (Runs.move rfl rfl) rfl rfl rfl ?_
    refine Seq.val (Runs.nilCheck rfl rfl) rfl rfl rfl ?_
    refine Seq.val (Runs.fieldB 2 rfl rfl Tryz.underlying59 rfl (by kernel_rfl)) rfl rfl rfl ?_
    refine Seq.val (Runs.loadB rfl rfl Tryz.underlying29 rfl k90 rfl) rfl rfl rfl ?_
    refine Seq.val (Runs.len rfl rfl Tryz.underlying29) rfl rfl rfl ?_
    refine Seq.val (Runs.lss rfl rfl rfl) rfl rfl rfl ?_
    refine Seq.nil ?_
    refine Post.weak (F' := [(0, _), (3, _), (8, _), (9, _), (10, _), (119, _)]) ⟨rfl, rfl, rfl, rfl, rfl, rfl, trivial⟩ ?_
    refine Post.then_ ?_
    refine Cd.condD rfl (fun hc => ?_) (fun hc => ?_)
    · obtain ⟨r, hr⟩ : ∃ r, L[j]? = some r := ⟨_, List.getElem?_eq_getElem (by omega)⟩
      obtain ⟨ad, rfl, -, -, -⟩ := hr0.rec (Below.refl _ _) hr
      have hcell : ∀ wx, Below w4.heap.size w4 wx → ∀ (i : Nat) (u : Value), (recV r)[i]? = some u → wx.cell? ((ad.add (j * 2)).add i) = some u := fun wx hb i u hu => by
        obtain ⟨ad', e, -, -, hcl⟩ := hr0.rec hb hr
        injection e with e
        subst e
        exact hcl i u hu
      have htk : L.take (j + 1) = L.take j ++ [r] := take_last hr
      have hlimW : min a.n (W.num : Int) = lim := hlim.symm
      refine Cd.skip ?_
      refine Post.then_ ?_
      refine Cd.seq ?_
      refine Cd.block ?_
      refine Cd.seq ?_
      refine Cd.draw 16 (by kernel_rfl) [] (.inl rfl) rfl Grow Grow.refl (fun _ _ _ => Grow.trans) ?_
      intro w5 hw5 zw5
      replace bf := bf.step hw5
      replace gv := gv.step hw5
      replace dk := dk.step hw5
      replace k6 := k6.step hw5
      replace bel := bel.step hw5
      replace own9 := own9.step hw5
      replace k3 := k3.step hw5
      replace k90 := k90.step hw5
      have zbel := bel.size
      have zlt := k90.lt
      refine Dr.val Grow.refl rfl (fun w hG => Runs.move rfl rfl) rfl ?_
      refine Dr.val Grow.refl rfl (fun w hG => Runs.nilCheck rfl rfl) rfl ?_
      refine Dr.val Grow.refl rfl (fun w hG => Runs.fieldB 2 rfl rfl Tryz.underlying59 rfl (by kernel_rfl)) rfl ?_
      refine Dr.val Grow.refl rfl (fun w hG => Runs.loadB rfl rfl Tryz.underlying29 rfl (k90.step hG) rfl) rfl ?_
      refine Dr.val Grow.refl rfl (fun w hG => Runs.move rfl rfl) rfl ?_
      refine Dr.val Grow.refl rfl (fun w hG => Runs.indexN rfl rfl rfl Tryz.underlying29 (s := 2) (by kernel_rfl) (j := j) rfl (by omega)) rfl ?_
      refine Dr.val Grow.refl rfl (fun w hG => Runs.fieldA 0 rfl rfl Tryz.underlying36 rfl (by kernel_rfl)) rfl ?_
      refine Dr.val Grow.refl rfl (fun w hG => Runs.load1 rfl rfl Tryz.underlying3 rfl (hcell w (bel.step hG) 0 _ rfl)) rfl ?_
      refine Dr.val Grow.refl rfl (fun w hG => Runs.fieldB 1 rfl rfl Tryz.underlying57 rfl (by kernel_rfl)) rfl ?_
      refine Dr.val Grow.refl rfl (fun w hG => Runs.loadB rfl rfl Tryz.underlying3 rfl (k3.step hG) rfl) rfl ?_
      refine Dr.val Grow.refl rfl (fun w hG => Runs.move rfl rfl) rfl ?_
      refine Dr.val Grow.refl rfl (fun w hG => Runs.nilCheck rfl rfl) rfl ?_
      refine Dr.val Grow.refl rfl (fun w hG => Runs.fieldB 3 rfl rfl Tryz.underlying59 rfl (by kernel_rfl)) rfl ?_
      refine Dr.val Grow.refl rfl (fun w hG => Runs.loadB rfl rfl Tryz.underlying3 rfl (k90.step hG) rfl) rfl ?_
      refine Dr.val Grow.refl rfl (fun w hG => Runs.min2 rfl rfl rfl) rfl ?_
      refine Dr.val Grow.refl rfl (fun w hG => Runs.geq rfl rfl rfl) rfl ?_
      refine Dr.nil ?_
      refine FinX.done (F' := [(0, _), (3, _), (8, _), (9, _), (10, _), (119, _), (137, _)]) rfl ⟨rfl, rfl, rfl, rfl, rfl, rfl, rfl, trivial⟩ ?_
      intro w6 hw6 fw6
      replace bf := bf.step hw6
      replace gv := gv.step hw6
      replace dk := dk.step hw6
      replace k6 := k6.step hw6
      replace bel := bel.step hw6
      replace own9 := own9.step hw6
      replace k3 := k3.step hw6
      replace k90 := k90.step hw6
      refine Seq.nil ?_
      refine Post.weak (F' := [(0, _), (3, _), (8, _), (9, _), (10, _), (119, _), (137, _)]) ⟨rfl, rfl, rfl, rfl, rfl, rfl, rfl, trivial⟩ ?_
      refine Post.then_ ?_
      rw [hlimW]
      refine Cd.cond rfl (fun h => ?_) (fun h => ?_)
      · have h : lim ≤ (r.1 : Int) := by simpa using h
        have hF : (L.take (j + 1)).filter (fun r => decide (lim ≤ (r.1 : Int))) = (L.take j).filter (fun r => decide (lim ≤ (r.1 : Int))) ++ [r] := by
          rw [htk, List.filter_append]
          congr 1
          simp [h]
        refine Cd.region ?_
        refine Seq.val (Runs.move rfl rfl) rfl rfl rfl ?_
        refine Seq.val (Runs.move rfl rfl) rfl rfl rfl ?_
        refine Seq.val (Runs.nilCheck rfl rfl) rfl rfl rfl ?_
        refine Seq.val (Runs.fieldB 2 rfl rfl Tryz.underlying59 rfl (by kernel_rfl)) rfl rfl rfl ?_
        refine Seq.val (Runs.loadB rfl rfl Tryz.underlying29 rfl k90 rfl) rfl rfl rfl ?_
        refine Seq.val (Runs.move rfl rfl) rfl rfl rfl ?_
        refine Seq.val (Runs.indexN rfl rfl rfl Tryz.underlying29 (s := 2) (by kernel_rfl) (j := j) rfl (by omega)) rfl rfl rfl ?_
        refine Seq.val (Runs.loadCs rfl rfl Tryz.underlying36 rfl (m := 2) (ps := recV r) (by kernel_rfl) rfl (fun i u hu => hcell _ bel i u hu)) rfl rfl rfl ?_
        refine Seq.slice (vs := [_]) (s := 2) rfl rfl rfl Tryz.underlying29 (by kernel_rfl) (zero_wal_Rec) (by omega) (by omega) ⟨rfl, trivial⟩ rfl rfl rfl ?_
        intro g146 w7 n146
        have e146 := Nat.le_trans bel.size n146.ge
        have l146 := Nat.lt_of_lt_of_le k90.lt n146.ge
        replace bf := bf.step n146.below
        replace gv := gv.step n146.below
        replace dk := dk.step n146.below
        replace k6 := k6.step n146.below
        replace bel := bel.step n146.below
        replace own9 := own9.step n146.below
        replace k3 := k3.step n146.below
        replace k90 := k90.step n146.below
        have k146 := n146.blk
        have hrx := Reads.blk (size := 2) k146 1 rfl
        refine Seq.append rfl rfl rfl Tryz.underlying29 (by kernel_rfl) zero_wal_Rec rfl (by decide) (b := 24) (by kernel_rfl) own9 hrx (ones_recV r) bel.size (by simp only [maxLen]; omega) (by omega) rfl rfl rfl ?_
        intro v2 wb own2 ha
        replace bel := bel.trans ha.below
        replace own2 : Own wb w4.heap.size 36 2 v2 (((L.take j).filter fun r => decide (lim ≤ (r.1 : Int))).length + 1) (recsV ((L.take j).filter fun r => decide (lim ≤ (r.1 : Int))) ++ recsV [r]) := own2
        have hFl : ((L.take (j + 1)).filter fun r => decide (lim ≤ (r.1 : Int))).length = ((L.take j).filter fun r => decide (lim ≤ (r.1 : Int))).length + 1 := by rw [hF]; simp
        rw [← recsV_app, ← hF, ← hFl] at own2
        clear own9 k146 hrx ha bf gv dk k6 k3 k90
        refine Seq.val (Runs.assign rfl rfl) rfl rfl rfl ?_
        refine Seq.nil ?_
        refine Post.weak (F' := [(0, _), (3, _), (8, _), (9, _), (10, _), (119, _), (137, _)]) ⟨rfl, rfl, rfl, rfl, rfl, rfl, rfl, trivial⟩ ?_
        refine Post.block_normal ?_
        refine Post.then_ ?_
        refine Cd.region ?_
        refine Seq.val (Runs.move rfl rfl) rfl rfl rfl ?_
        refine Seq.val (Runs.addI rfl rfl rfl (by omega) (by omega)) rfl rfl rfl ?_
        refine Seq.val (Runs.assign rfl rfl) rfl rfl rfl ?_
        refine Seq.nil ?_
        refine Post.weak (F' := [(0, _), (3, _), (8, _), (9, _), (10, _), (119, _), (137, _)]) ⟨rfl, rfl, rfl, rfl, rfl, rfl, rfl, trivial⟩ ?_
        exact Post.round (j + 1, v2) ⟨rfl, rfl, rfl, rfl, int_at (by omega), trivial⟩ ⟨by simp only; omega, bel, own2⟩ (by simp only; omega)
      · have h : ¬ (lim ≤ (r.1 : Int)) := by simpa using h
        have hF : (L.take (j + 1)).filter (fun r => decide (lim ≤ (r.1 : Int))) = (L.take j).filter (fun r => decide (lim ≤ (r.1 : Int))) := by
          rw [htk, List.filter_append]
          simp [h]
        refine Cd.skip ?_
        refine Post.block_normal ?_
        refine Post.then_ ?_
        refine Cd.region ?_
        refine Seq.val (Runs.move rfl rfl) rfl rfl rfl ?_
        refine Seq.val (Runs.addI rfl rfl rfl (by omega) (by omega)) rfl rfl rfl ?_
        refine Seq.val (Runs.assign rfl rfl) rfl rfl rfl ?_
        refine Seq.nil ?_
        refine Post.weak (F' := [(0, _), (3, _), (8, _), (9, _), (10, _), (119, _), (137, _)]) ⟨rfl, rfl, rfl, rfl, rfl, rfl, rfl, trivial⟩ ?_
        refine Post.round (j + 1, .slice A9 ((L.take j).filter fun r => decide (lim ≤ (r.1 : Int))).length c9) ⟨rfl, rfl, rfl, rfl, int_at (by omega), trivial⟩ ⟨by simp only; omega, bel, ?_⟩ (by simp only; omega)
        simp only
        rw [hF]
        exact own9
    · obtain rfl : j = L.length := by omega
      rw [List.take_length] at own9
      rw [List.take_length]
      rw [← hrec] at own9
      rw [← hrec]
      refine Cd.exit ?_
      refine Post.then_exit ?_
      refine Post.round_exit ?_
      refine Post.block_exit ?_
      refine Post.then_ ?_
      refine Cd.seq ?_
      refine Cd.region ?_
      refine Seq.val (Runs.move rfl rfl) rfl rfl rfl ?_
      refine Seq.val (Runs.move rfl rfl) rfl rfl rfl ?_
      refine Seq.val (Runs.nilCheck rfl rfl) rfl rfl rfl ?_
      refine Seq.val (Runs.fieldB 2 rfl rfl Tryz.underlying59 rfl (by kernel_rfl)) rfl rfl rfl ?_
      refine Seq.store1 rfl rfl rfl (by kernel_rfl) rfl rfl k90 rfl rfl rfl ?_
      intro w5 pw5
      replace bf := bf.put k90 pw5 e90
      replace gv := gv.put k90 pw5 e90
      replace dk := dk.put k90 pw5 e90
      replace k6 := k6.put pw5 (by omega)
      replace own9 := own9.put k90 pw5 e90
      replace k3 := k3.put pw5 (by omega)
      replace k90 := pw5.blk
      refine Seq.nil ?_
      refine Post.weak (F' := [(0, _), (3, _), (8, _), (9, _), (10, _), (119, _)]) ⟨rfl, rfl, rfl, rfl, rfl, rfl, trivial⟩ ?_
      refine Post.then_ ?_
      refine Cd.seq ?_
      refine Cd.region ?_
      refine Seq.val (Runs.move rfl rfl) rfl rfl rfl ?_
      refine Seq.val (Runs.eqlI rfl rfl rfl) rfl rfl rfl ?_
      refine Seq.val (Runs.assign rfl rfl) rfl rfl rfl ?_
      refine Seq.val (Runs.assign rfl rfl) rfl rfl rfl ?_
      refine Seq.nil ?_
      refine Post.weak (F' := [(0, _), (3, _), (4, _), (5, _), (8, _), (9, _), (10, _), (119, _)]) ⟨rfl, rfl, rfl, rfl, rfl, rfl, rfl, rfl, trivial⟩ ?_
      refine Post.then_ ?_
      refine Cd.ret ?_
      refine Post.block_ret ?_
      refine Post.then_ret ?_
      refine Post.end2 rfl rfl rfl (.inl rfl) ?_
      exact ⟨D', W, segs', rfl, hP', ⟨⟨gd, g6, _, k90, dk, k6, own9.mono hBw4, e6⟩, e90⟩, bf⟩
  have hP' := hP.open_.2
  refine Cd.skip ?_
  refine Post.block_normal ?_
  refine Post.then_ ?_
  refine Cd.seq ?_
  refine Cd.region ?_
  refine Seq.val (Runs.move rfl rfl) rfl rfl rfl ?_
  refine Seq.call (Enters.func rfl rfl rfl (run_enter Tryz.func47 (by kernel_rfl) rfl)) rfl rfl rfl (opened_any B gr D W segs k _ gv hgB hP (by omega) ⟨⟨gd, g6, _, k90, dk, k6, own, e6⟩, e90⟩) ?_
  rintro e w9 ⟨rfl, hR, f9⟩
  refine ⟨_, rfl, ?_⟩
  replace bf := bf.bf f9
  clear k90 dk k6 own gv k3
  refine Seq.val (Runs.assign rfl rfl) rfl rfl rfl ?_
  refine Seq.val (Runs.assign rfl rfl) rfl rfl rfl ?_
  refine Seq.nil ?_
  refine Post.weak (F' := [(0, _), (1, _), (3, _), (4, _), (5, _), (12, _), (13, _), (45, _), (71, _), (102, _)]) ⟨rfl, rfl, rfl, rfl, rfl, rfl, rfl, rfl, rfl, rfl, trivial⟩ ?_
  refine Post.then_ ?_
  refine Cd.ret ?_
  refine Post.end2 rfl rfl rfl (.inl rfl) ?_
  exact ⟨D, _, segs, rfl, hP', hR, bf⟩
end Go.Proofs.YtnlepoplncjliaaGreatDoor

namespace Go.Proofs.YtnlepoplncjliaaGreatDoor
open Go.RowKit

/-- Acts, laid flat. -/
def acsV (l : List ActV) : List Value := l.flatMap ActV.cs
theorem acsV_at {l : List ActV} {i : Nat} {r : ActV} (h : l[i]? = some r) : ∀ (j : Nat) (v : Value), r.cs[j]? = some v → (acsV l)[i * 3 + j]? = some v := by
  intro j v hj
  have hj2 : j < 3 := (List.getElem?_eq_some_iff.1 hj).1
  induction l generalizing i with
  | nil => cases h
  | cons x l ih =>
    have e : acsV (x :: l) = x.cs ++ acsV l := by simp [acsV]
    have hx : x.cs.length = 3 := rfl
    cases i with
    | zero =>
      injection h with h
      subst h
      rw [e, Nat.zero_mul, Nat.zero_add, List.getElem?_append_left (by omega)]
      exact hj
    | succ i =>
      rw [e, List.getElem?_append_right (by omega)]
      have := ih (i := i) (by simpa using h)
      rw [show (i + 1) * 3 + j - x.cs.length = i * 3 + j by omega]
      exact this
theorem acsV_len (a : List ActV) : (acsV a).length = a.length * 3 := by
  induction a with
  | nil => rfl
  | cons x a ih => simp only [acsV, List.flatMap_cons, List.length_append, List.length_cons] at ih ⊢; rw [ih]; simp [ActV.cs]; omega
theorem Reads.act {w wr : World} {B n i : Nat} {A : Option Addr} {l : List ActV} {r : ActV} (h : Reads w B 3 A n (acsV l)) (hb : Below B w wr) (hf : l[i]? = some r) : ∃ ad, A = some ad ∧ ad.block < B ∧ i < n ∧ ∀ (j : Nat) (v : Value), r.cs[j]? = some v → wr.cell? ((ad.add (i * 3)).add j) = some v := by
  have hl := h.1
  rw [acsV_len] at hl
  have hi := (List.getElem?_eq_some_iff.1 hf).1
  have hin : i < n := by omega
  obtain ⟨ad, rfl, hbl, hc⟩ := h.2 (by omega)
  exact ⟨ad, rfl, hbl, hin, fun j v hj => by
    rw [addr_add2]
    exact (hb.cell (by rw [block_of_add]; exact hbl)).trans (hc _ _ (acsV_at hf j v hj))⟩
/-- Whether there is more than is asked of. -/
def greatL (l : List ActV) : Bool := decide (20 < l.length) || l.any fun a => decide (300 < a.data.length)
theorem great_any (A : Option Addr) (n c : Nat) (l : List ActV) (w : World) (hr : Reads w w.heap.size 3 A n (acsV l)) :
    Calls Tryz.prog 23 #[.slice A n c] w fun e w' => e = .returned (.bool (greatL l)) ∧ Grow w w' := by
  have bel := Below.refl w.heap.size w
  have hl : l.length = n := by have := hr.1; rw [acsV_len] at this; omega
  refine Calls.start 20 Tryz.func23 rfl rfl rfl ?_
  refine Cd.seq ?_
  refine Cd.region ?_
  refine Seq.val (Runs.assign rfl rfl) rfl rfl rfl ?_
  refine Seq.nil ?_
  refine Post.weak (F' := [(0, _), (2, _)]) ⟨rfl, rfl, trivial⟩ ?_
  refine Post.then_ ?_
  refine Cd.seq ?_
  refine Cd.seq ?_
  refine Cd.region ?_
  refine Seq.val (Runs.move rfl rfl) rfl rfl rfl ?_
  refine Seq.val (Runs.len rfl rfl Tryz.underlying50) rfl rfl rfl ?_
  refine Seq.val (Runs.gtr rfl rfl rfl) rfl rfl rfl ?_
  refine Seq.nil ?_
  refine Post.weak (F' := [(0, _), (2, _), (6, _)]) ⟨rfl, rfl, rfl, trivial⟩ ?_
  refine Post.then_ ?_
  refine Cd.cond rfl (fun h => ?_) (fun h => ?_)
  · have h : (20 : Int) < (n : Int) := by simpa using h
    have hS : greatL l = true := by unfold greatL; rw [decide_eq_true (by omega)]; rfl
    rw [hS]
    refine Cd.seq ?_
    refine Cd.region ?_
    refine Seq.val (Runs.assign rfl rfl) rfl rfl rfl ?_
    refine Seq.nil ?_
    refine Post.weak (F' := [(0, _), (2, _), (6, _)]) ⟨rfl, rfl, rfl, trivial⟩ ?_
    refine Post.then_ ?_
    refine Cd.ret ?_
    refine Post.then_ret ?_
    refine Post.end1 rfl rfl (.inl rfl) ?_
    exact ⟨rfl, bel⟩
  have h : ¬ ((20 : Int) < (n : Int)) := by simpa using h
  refine Cd.skip ?_
  refine Post.then_ ?_
  refine Cd.seq ?_
  refine Cd.seq ?_
  refine Cd.region ?_
  refine Seq.val (Runs.assign rfl rfl) rfl rfl rfl ?_
  refine Seq.nil ?_
  refine Post.weak (F' := [(0, _), (2, _), (3, _), (6, _)]) ⟨rfl, rfl, rfl, rfl, trivial⟩ ?_
  refine Post.then_ ?_
  refine Cd.block ?_
  refine Cd.loop (σ := Nat) (fun j => [(0, .slice A n c), (3, .int .i64 (j : Int))]) (fun j wr => j ≤ n ∧ (∀ s ∈ l.take j, s.data.length ≤ 300) ∧ Below w.heap.size w wr) (fun j => n - j) 0 ⟨Nat.zero_le _, by simp, bel⟩ ⟨rfl, rfl, trivial⟩ ?_
  clear bel
  rintro j wr ⟨hj, hall, bel⟩
  refine Cd.seq ?_
  refine Cd.seq ?_
  refine Cd.region ?_
  refine Seq.val (Runs.move rfl rfl) rfl rfl rfl ?_
  refine Seq.val (Runs.move rfl rfl) rfl rfl rfl ?_
  refine Seq.val (Runs.len rfl rfl Tryz.underlying50) rfl rfl rfl ?_
  refine Seq.val (Runs.lss rfl rfl rfl) rfl rfl rfl ?_
  refine Seq.nil ?_
  refine Post.weak (F' := [(0, _), (3, _), (10, _)]) ⟨rfl, rfl, rfl, trivial⟩ ?_
  refine Post.then_ ?_
  refine Cd.condD rfl (fun hc => ?_) (fun hc => ?_)
  · obtain ⟨s, hs⟩ : ∃ s, l[j]? = some s := ⟨_, List.getElem?_eq_getElem (by omega)⟩
    obtain ⟨ad, rfl, -, -, hcl⟩ := hr.act bel hs
    refine Cd.skip ?_
    refine Post.then_ ?_
    refine Cd.seq ?_
    refine Cd.block ?_
    refine Cd.seq ?_
    refine Cd.region ?_
    refine Seq.val (Runs.move rfl rfl) rfl rfl rfl ?_
    refine Seq.val (Runs.move rfl rfl) rfl rfl rfl ?_
    refine Seq.val (Runs.indexN rfl rfl rfl Tryz.underlying50 (s := 3) (by kernel_rfl) (j := j) rfl (by omega)) rfl rfl rfl ?_
    refine Seq.val (Runs.fieldA 2 rfl rfl Tryz.underlying57 rfl (by kernel_rfl)) rfl rfl rfl ?_
    refine Seq.val (Runs.load1 rfl rfl Tryz.underlying9 rfl (hcl 2 _ rfl)) rfl rfl rfl ?_
    refine Seq.val (Runs.lenL rfl rfl Tryz.underlying9) rfl rfl rfl ?_
    refine Seq.val (Runs.gtr rfl rfl rfl) rfl rfl rfl ?_
    refine Seq.nil ?_
    refine Post.weak (F' := [(0, _), (3, _), (10, _), (19, _)]) ⟨rfl, rfl, rfl, rfl, trivial⟩ ?_
    refine Post.then_ ?_
    refine Cd.cond rfl (fun h => ?_) (fun h => ?_)
    · have h : (300 : Int) < (s.data.length : Int) := by simpa using h
      have hS : greatL l = true := by
        unfold greatL
        rw [Bool.or_eq_true]
        right
        rw [List.any_eq_true]
        exact ⟨s, List.mem_of_getElem? hs, by simp; omega⟩
      rw [hS]
      refine Cd.seq ?_
      refine Cd.region ?_
      refine Seq.val (Runs.assign rfl rfl) rfl rfl rfl ?_
      refine Seq.nil ?_
      refine Post.weak (F' := [(0, _), (2, _), (3, _), (10, _), (19, _)]) ⟨rfl, rfl, rfl, rfl, rfl, trivial⟩ ?_
      refine Post.then_ ?_
      refine Cd.ret ?_
      refine Post.block_ret ?_
      refine Post.then_ret ?_
      refine Post.round_ret ?_
      refine Post.block_ret ?_
      refine Post.then_ret ?_
      refine Post.end1 rfl rfl (.inl rfl) ?_
      exact ⟨rfl, bel⟩
    have h : ¬ ((300 : Int) < (s.data.length : Int)) := by simpa using h
    refine Cd.skip ?_
    refine Post.block_normal ?_
    refine Post.then_ ?_
    refine Cd.region ?_
    refine Seq.val (Runs.move rfl rfl) rfl rfl rfl ?_
    refine Seq.val (Runs.addI rfl rfl rfl (by omega) (by omega)) rfl rfl rfl ?_
    refine Seq.val (Runs.assign rfl rfl) rfl rfl rfl ?_
    refine Seq.nil ?_
    refine Post.weak (F' := [(0, _), (3, _), (10, _), (19, _)]) ⟨rfl, rfl, rfl, rfl, trivial⟩ ?_
    refine Post.round (j + 1) ⟨rfl, int_at (by omega), trivial⟩ ⟨by omega, fun x hx => ?_, bel⟩ (by omega)
    rw [take_last hs] at hx
    rcases List.mem_append.1 hx with hx | hx
    · exact hall x hx
    · simp at hx; subst hx; omega
  · have hS : greatL l = false := by
      unfold greatL
      rw [decide_eq_false (by omega), Bool.false_or, List.any_eq_false]
      intro s hs
      rw [List.take_of_length_le (by omega)] at hall
      simpa using hall s hs
    rw [hS]
    refine Cd.exit ?_
    refine Post.then_exit ?_
    refine Post.round_exit ?_
    refine Post.block_exit ?_
    refine Post.then_ ?_
    refine Cd.seq ?_
    refine Cd.region ?_
    refine Seq.val (Runs.assign rfl rfl) rfl rfl rfl ?_
    refine Seq.nil ?_
    refine Post.weak (F' := [(0, _), (2, _), (3, _), (10, _)]) ⟨rfl, rfl, rfl, rfl, trivial⟩ ?_
    refine Post.then_ ?_
    refine Cd.ret ?_
    refine Post.end1 rfl rfl (.inl rfl) ?_
    exact ⟨rfl, bel⟩
theorem RunAt.mono {w : World} {B B' gr : Nat} {D : Dk} {W : Wl} {segs : List (Nat × List (List Nat))} (h : RunAt w B gr D W segs) (hB : B' ≤ B) : RunAt w B' gr D W segs := by
  obtain ⟨⟨gd, g6, v, h1, h2, h3, h4, h5⟩, h6⟩ := h
  exact ⟨⟨gd, g6, v, h1, h2.mono hB, h3, h4.mono hB, Nat.le_trans hB h5⟩, Nat.le_trans hB h6⟩
end Go.Proofs.YtnlepoplncjliaaGreatDoor

namespace Go.Proofs.YtnlepoplncjliaaGreatDoor
open Go.RowKit

theorem uint_nat (a : Int) : ∃ u : Nat, a % 18446744073709551616 = (u : Int) ∧ u < 18446744073709551616 := ⟨(a % 18446744073709551616).toNat, by omega, by omega⟩
set_option maxHeartbeats 4000000 in
theorem walk_rots (A : Option Addr) (n c bits : Nat) (l : List ActV) (which at_ : Int) (w : World) (gv : Gv w) (hr : Reads w w.heap.size 3 A n (acsV l)) (hl : ∀ a ∈ l, Byt a.data ∧ I64 a.n) (hbits : bits < 4294967296) :
    Calls Tryz.prog 7 #[.slice A n c, .int .i64 which, .int .i64 at_, .int .u32 (bits : Int)] w fun e w' => e = .returned (.bool true) ∧ Grow w w' := by
  have bf := Bf.refl w.heap.size w
  have hgw := tab_lt gv.pow
  have hln : l.length = n := by have := hr.1; rw [acsV_len] at this; omega
  refine Calls.start 117 Tryz.func7 rfl rfl rfl ?_
  refine Cd.seq ?_
  refine Cd.region ?_
  refine Seq.val (Runs.assign rfl rfl) rfl rfl rfl ?_
  refine Seq.nil ?_
  refine Post.weak (F' := [(0, _), (1, _), (2, _), (3, _), (8, _)]) ⟨rfl, rfl, rfl, rfl, rfl, trivial⟩ ?_
  refine Post.then_ ?_
  refine Cd.seq ?_
  refine Cd.seq ?_
  refine Cd.region ?_
  refine Seq.val (Runs.move rfl rfl) rfl rfl rfl ?_
  refine Seq.call (Enters.func rfl rfl rfl (run_enter Tryz.func23 (by kernel_rfl) rfl)) rfl rfl rfl (great_any A n c l _ (hr.below (Below.refl _ _))) ?_
  rintro e w4 ⟨rfl, hb4⟩
  refine ⟨_, rfl, ?_⟩
  replace bf := bf.step hb4
  replace gv := gv.step hb4
  refine Seq.val (Runs.move rfl rfl) rfl rfl rfl ?_
  refine SeqC.start ?_
  refine SeqC.openC rfl rfl rfl rfl rfl rfl rfl (fun hcx => Enters.func rfl rfl rfl (run_enter Tryz.func11 (by kernel_rfl) rfl)) (fun hcx => awake_any _ gv) ?_
  intro w1 hw1
  replace bf := bf.step hw1
  replace gv := gv.step hw1
  refine SeqC.next rfl rfl rfl rfl rfl rfl rfl (fun hcx => Runs.not rfl rfl) ?_
  refine SeqC.or rfl rfl rfl rfl rfl rfl rfl ?_
  refine Seq.nil ?_
  refine Post.weak (F' := [(0, _), (1, _), (2, _), (3, _), (8, _), (22, _)]) ⟨rfl, rfl, rfl, rfl, rfl, rfl, trivial⟩ ?_
  refine Post.then_ ?_
  refine Cd.cond rfl (fun h => ?_) (fun h => ?_)
  · skip
    refine Cd.seq ?_
    refine Cd.region ?_
    refine Seq.call (Enters.func rfl rfl rfl (run_enter Tryz.func11 (by kernel_rfl) rfl)) rfl rfl rfl (awake_any _ gv) ?_
    rintro e w5 ⟨rfl, hb5⟩
    refine ⟨_, rfl, ?_⟩
    replace bf := bf.step hb5
    replace gv := gv.step hb5
    refine Seq.val (Runs.assign rfl rfl) rfl rfl rfl ?_
    refine Seq.nil ?_
    refine Post.weak (F' := [(0, _), (1, _), (2, _), (3, _), (8, _), (22, _)]) ⟨rfl, rfl, rfl, rfl, rfl, rfl, trivial⟩ ?_
    refine Post.then_ ?_
    refine Cd.ret ?_
    refine Post.then_ret ?_
    refine Post.end1 rfl rfl (.inl rfl) ?_
    exact ⟨rfl, bf.to (Nat.le_refl _)⟩
  have h : greatL l = false := by
    cases e : greatL l with
    | false => rfl
    | true => rw [e] at h; cases h
  unfold greatL at h
  rw [Bool.or_eq_false_iff, decide_eq_false_iff_not, List.any_eq_false] at h
  obtain ⟨hn20, hall⟩ := h
  refine Cd.skip ?_
  refine Post.then_ ?_
  refine Cd.seq ?_
  refine Cd.region ?_
  have hsz0 := bf.size
  refine Seq.call (Enters.func rfl rfl rfl (run_enter Tryz.func24 (by kernel_rfl) rfl)) rfl rfl rfl (begin_r_any _ gv) ?_
  rintro e w5 ⟨gr, rfl, hR, hb5⟩
  refine ⟨_, rfl, ?_⟩
  replace hR := hR.mono hsz0
  replace bf := bf.step hb5
  replace gv := gv.step hb5
  have hP := PlIs.begin_
  refine Seq.val (Runs.assign rfl rfl) rfl rfl rfl ?_
  refine Seq.nil ?_
  refine Post.weak (F' := [(0, _), (1, _), (2, _), (3, _), (8, _), (9, _), (22, _)]) ⟨rfl, rfl, rfl, rfl, rfl, rfl, rfl, trivial⟩ ?_
  refine Post.then_ ?_
  refine Cd.seq ?_
  refine Cd.seq ?_
  refine Cd.region ?_
  refine Seq.val (Runs.move rfl rfl) rfl rfl rfl ?_
  refine Seq.val (Runs.eqlP rfl rfl rfl Tryz.underlying52) rfl rfl rfl ?_
  refine Seq.nil ?_
  refine Post.weak (F' := [(0, _), (1, _), (2, _), (3, _), (8, _), (9, _), (22, _), (26, _)]) ⟨rfl, rfl, rfl, rfl, rfl, rfl, rfl, rfl, trivial⟩ ?_
  refine Post.then_ ?_
  refine Cd.condF rfl rfl ?_
  refine Cd.skip ?_
  refine Post.then_ ?_
  refine Cd.seq ?_
  refine Cd.seq ?_
  refine Cd.region ?_
  refine Seq.val (Runs.assign rfl rfl) rfl rfl rfl ?_
  refine Seq.nil ?_
  refine Post.weak (F' := [(0, _), (1, _), (2, _), (3, _), (8, _), (9, _), (10, _), (22, _), (26, _)]) ⟨rfl, rfl, rfl, rfl, rfl, rfl, rfl, rfl, rfl, trivial⟩ ?_
  refine Post.then_ ?_
  refine Cd.block ?_
  refine Cd.loop (σ := Nat × Dk × Wl × List (Nat × List (List Nat))) (fun q => [(0, .slice A n c), (1, .int .i64 which), (2, .int .i64 at_), (3, .int .u32 (bits : Int)), (9, .pointer (some ⟨gr, 0, none⟩)), (10, .int .i64 (q.1 : Int))]) (fun q wr => q.1 ≤ n ∧ PlIs q.2.1 q.2.2.1 q.2.2.2 q.1 ∧ RunAt wr w.heap.size gr q.2.1 q.2.2.1 q.2.2.2 ∧ Bf w.heap.size w wr ∧ Gv wr) (fun q => n - q.1) (0, Dk.new 1048576, ⟨0, 0, 0, false⟩, []) ⟨Nat.zero_le _, hP, hR, bf, gv⟩ ⟨rfl, rfl, rfl, rfl, rfl, rfl, trivial⟩ ?_
  clear hP hR bf gv
  rintro ⟨i, D, W, segs⟩ wr ⟨hi, hP, hR, bf, gv⟩
  simp only at hi hP hR
  show Cd _ _ _ _ [(0, .slice A n c), (1, .int .i64 which), (2, .int .i64 at_), (3, .int .u32 (bits : Int)), (9, .pointer (some ⟨gr, 0, none⟩)), (10, .int .i64 (i : Int))] _
  refine Cd.seq ?_
  refine Cd.seq ?_
  refine Cd.region ?_
  refine Seq.val (Runs.move rfl rfl) rfl rfl rfl ?_
  refine Seq.val (Runs.move rfl rfl) rfl rfl rfl ?_
  refine Seq.val (Runs.len rfl rfl Tryz.underlying50) rfl rfl rfl ?_
  refine Seq.val (Runs.lss rfl rfl rfl) rfl rfl rfl ?_
  refine Seq.nil ?_
  refine Post.weak (F' := [(0, _), (1, _), (2, _), (3, _), (9, _), (10, _), (30, _)]) ⟨rfl, rfl, rfl, rfl, rfl, rfl, rfl, trivial⟩ ?_
  refine Post.then_ ?_
  refine Cd.condD rfl (fun hc => ?_) (fun hc => ?_)
  · obtain ⟨a, ha⟩ : ∃ a, l[i]? = some a := ⟨_, List.getElem?_eq_getElem (by omega)⟩
    have ham := List.mem_of_getElem? ha
    obtain ⟨hd, hn⟩ := hl a ham
    have hdl : a.data.length ≤ 300 := by simpa using hall a ham
    obtain ⟨ad, rfl, -, -, hcl⟩ := hr.act (bf.to (Nat.le_refl _)) ha
    refine Cd.skip ?_
    refine Post.then_ ?_
    refine Cd.seq ?_
    refine Cd.block ?_
    refine Cd.region ?_
    refine Seq.val (Runs.move rfl rfl) rfl rfl rfl ?_
    refine Seq.val (Runs.move rfl rfl) rfl rfl rfl ?_
    refine Seq.val (Runs.move rfl rfl) rfl rfl rfl ?_
    refine Seq.val (Runs.indexN rfl rfl rfl Tryz.underlying50 (s := 3) (by kernel_rfl) (j := i) rfl (by omega)) rfl rfl rfl ?_
    refine Seq.val (Runs.loadCs rfl rfl Tryz.underlying57 rfl (m := 3) (ps := a.cs) (by kernel_rfl) rfl hcl) rfl rfl rfl ?_
    have hk : i ≤ 30 := by omega
    refine Seq.call (Enters.func rfl rfl rfl (run_enter Tryz.func25 (by kernel_rfl) rfl)) rfl rfl rfl (does_any w.heap.size gr a D W segs i _ gv hgw hP hk hR hd hdl hn) ?_
    clear hP hR
    rintro e w2 ⟨D', W', segs', rfl, hP, hR, fw2⟩
    refine ⟨_, rfl, ?_⟩
    replace bf := bf.bf fw2
    replace gv := gv.bf fw2
    refine Seq.nil ?_
    refine Post.weak (F' := [(0, _), (1, _), (2, _), (3, _), (9, _), (10, _), (30, _)]) ⟨rfl, rfl, rfl, rfl, rfl, rfl, rfl, trivial⟩ ?_
    refine Post.block_normal ?_
    refine Post.then_ ?_
    refine Cd.region ?_
    refine Seq.val (Runs.move rfl rfl) rfl rfl rfl ?_
    refine Seq.val (Runs.addI rfl rfl rfl (by omega) (by omega)) rfl rfl rfl ?_
    refine Seq.val (Runs.assign rfl rfl) rfl rfl rfl ?_
    refine Seq.nil ?_
    refine Post.weak (F' := [(0, _), (1, _), (2, _), (3, _), (9, _), (10, _), (30, _)]) ⟨rfl, rfl, rfl, rfl, rfl, rfl, rfl, trivial⟩ ?_
    exact Post.round (i + 1, D', W', segs') ⟨rfl, rfl, rfl, rfl, rfl, int_at (by omega), trivial⟩ ⟨by simp only; omega, hP, hR, bf, gv⟩ (by simp only; omega)
  · obtain ⟨⟨gd, g6, v, k90, dk, -, own, -⟩, e90⟩ := hR
    have hbyt := recsOf_byt hP.wl.log
    have hrl := hP.recs
    have hown := hP.wl.log.own_nm
    have hoff := hP.wl.log.calm.off
    obtain ⟨A0, c0, rfl, -⟩ := own.reads
    refine Cd.exit ?_
    refine Post.then_exit ?_
    refine Post.round_exit ?_
    refine Post.block_exit ?_
    refine Post.then_ ?_
    refine Cd.seq ?_
    refine Cd.region ?_
    refine Seq.val (Runs.move rfl rfl) rfl rfl rfl ?_
    refine Seq.val (Runs.nilCheck rfl rfl) rfl rfl rfl ?_
    refine Seq.val (Runs.fieldB 0 rfl rfl Tryz.underlying59 rfl (by kernel_rfl)) rfl rfl rfl ?_
    refine Seq.val (Runs.loadB rfl rfl Tryz.underlying26 rfl k90 rfl) rfl rfl rfl ?_
    have hdl := dk.ok.most
    refine Seq.call (Enters.func rfl rfl rfl (run_enter Tryz.func31 (by kernel_rfl) rfl)) rfl rfl rfl (names_any w.heap.size gd D _ dk) ?_
    rintro e w6 ⟨v6, rfl, ownN, hb6⟩
    refine ⟨_, rfl, ?_⟩
    obtain ⟨names, hnames⟩ : ∃ names, names = sortN (D.files.map (·.1)) := ⟨_, rfl⟩
    rw [← hnames] at ownN
    have hperm : names.Perm (D.files.map (·.1)) := by rw [hnames]; exact List.mergeSort_perm _ _
    have hnlen : names.length = D.files.length := by rw [hperm.length_eq, List.length_map]
    replace bf := bf.step hb6
    replace gv := gv.step hb6
    replace k90 := k90.step hb6
    replace dk := dk.step hb6
    replace own := own.step hb6
    obtain ⟨A6, c6, rfl, hrN⟩ := ownN.reads
    refine Seq.val (Runs.assign rfl rfl) rfl rfl rfl ?_
    refine Seq.nil ?_
    refine Post.weak (F' := [(0, _), (1, _), (2, _), (3, _), (9, _), (10, _), (11, _), (30, _)]) ⟨rfl, rfl, rfl, rfl, rfl, rfl, rfl, rfl, trivial⟩ ?_
    refine Post.then_ ?_
    refine Cd.seq ?_
    refine Cd.seq ?_
    refine Cd.region ?_
    refine Seq.val (Runs.move rfl rfl) rfl rfl rfl ?_
    refine Seq.val (Runs.len rfl rfl Tryz.underlying22) rfl rfl rfl ?_
    refine Seq.val (Runs.eqlI rfl rfl rfl) rfl rfl rfl ?_
    refine Seq.nil ?_
    refine Post.weak (F' := [(0, _), (1, _), (2, _), (3, _), (9, _), (10, _), (11, _), (30, _), (46, _)]) ⟨rfl, rfl, rfl, rfl, rfl, rfl, rfl, rfl, rfl, trivial⟩ ?_
    refine Post.then_ ?_
    refine Cd.cond rfl (fun h => ?_) (fun h => ?_)
    · have h : (D.files.length : Int) = 0 := by simpa using h
      have hnil : recsOf segs = [] := by
        cases e : segs with
        | nil => rfl
        | cons s r =>
          exfalso
          have h1 := hP.wl.log.log s (by rw [e]; exact List.mem_cons_self)
          have h2 := mem_names.2 (by rw [h1]; rfl)
          have h3 := List.length_pos_of_mem h2
          rw [List.length_map] at h3
          omega
      have hl0 : (recsOf segs).length = 0 := by rw [hnil]; rfl
      refine Cd.seq ?_
      refine Cd.region ?_
      refine Seq.val (Runs.move rfl rfl) rfl rfl rfl ?_
      refine Seq.val (Runs.nilCheck rfl rfl) rfl rfl rfl ?_
      refine Seq.val (Runs.fieldB 2 rfl rfl Tryz.underlying59 rfl (by kernel_rfl)) rfl rfl rfl ?_
      refine Seq.val (Runs.loadB rfl rfl Tryz.underlying29 rfl k90 rfl) rfl rfl rfl ?_
      refine Seq.val (Runs.len rfl rfl Tryz.underlying29) rfl rfl rfl ?_
      refine Seq.val (Runs.eqlI rfl rfl rfl) rfl rfl rfl ?_
      refine Seq.val (Runs.assign rfl rfl) rfl rfl rfl ?_
      refine Seq.nil ?_
      refine Post.weak (F' := [(0, _), (1, _), (2, _), (3, _), (8, _), (9, _), (10, _), (11, _), (30, _), (46, _)]) ⟨rfl, rfl, rfl, rfl, rfl, rfl, rfl, rfl, rfl, rfl, trivial⟩ ?_
      refine Post.then_ ?_
      refine Cd.ret ?_
      refine Post.then_ret ?_
      refine Post.end1 rfl rfl (.inl rfl) ?_
      exact ⟨by rw [hl0]; rfl, bf.to (Nat.le_refl _)⟩
    have h : (D.files.length : Int) ≠ 0 := by simpa using h
    obtain ⟨u, hu, hu64⟩ := uint_nat which
    obtain ⟨j, hj, hjl⟩ : ∃ j, j = u % D.files.length ∧ j < D.files.length := ⟨_, rfl, Nat.mod_lt _ (by omega)⟩
    obtain ⟨x, hx⟩ : ∃ x, names[j]? = some x := ⟨_, List.getElem?_eq_getElem (by omega)⟩
    have hxm : x ∈ D.files.map (·.1) := hperm.mem_iff.1 (List.mem_of_getElem? hx)
    obtain ⟨f, hf⟩ := Option.isSome_iff_exists.1 (mem_names.1 hxm)
    have hfil := dk.ok.fil _ (get_mem hf)
    have hxs : ∀ c ∈ x, c < 256 := hfil.2.1
    have hsf : f.safe ≤ 1048576 := Nat.le_trans hfil.1.2.1 hfil.1.2.2
    obtain ⟨ad6, rfl, -, hcl6⟩ := hrN.2 (by omega)
    have hcx := hcl6 j (.string (strOf x)) (by rw [get_Ts, hx]; rfl)
    obtain ⟨z, hz, hz64⟩ := uint_nat at_
    have hrot := hP.rot (at_ := z % (8 * f.safe)) (bits := bits) (by omega) hf
    obtain ⟨hfs, hf0, hrot⟩ := hrot
    have hmod : z % (8 * f.safe) < 8 * f.safe := Nat.mod_lt _ (by omega)
    refine Cd.skip ?_
    refine Post.then_ ?_
    refine Cd.seq ?_
    refine Cd.region ?_
    refine Seq.val (Runs.move rfl rfl) rfl rfl rfl ?_
    refine Seq.val (Runs.move rfl rfl) rfl rfl rfl ?_
    refine Seq.val (Runs.convU (r := u) rfl rfl Tryz.underlying3 Tryz.underlying67 hu) rfl rfl rfl ?_
    refine Seq.val (Runs.move rfl rfl) rfl rfl rfl ?_
    refine Seq.val (Runs.len rfl rfl Tryz.underlying22) rfl rfl rfl ?_
    refine Seq.val (Runs.convU (r := D.files.length) rfl rfl Tryz.underlying3 Tryz.underlying67 (by omega)) rfl rfl rfl ?_
    refine Seq.val (Runs.remNU rfl rfl rfl (by omega)) rfl rfl rfl ?_
    rw [← hj]
    refine Seq.val (Runs.convI (r := (j : Int)) rfl rfl Tryz.underlying67 Tryz.underlying3 (wrapI (by omega) (by omega))) rfl rfl rfl ?_
    refine Seq.val (Runs.index1 rfl rfl rfl Tryz.underlying22 (by kernel_rfl) (j := j) rfl (by omega)) rfl rfl rfl ?_
    refine Seq.val (Runs.load1 rfl rfl Tryz.underlying9 rfl hcx) rfl rfl rfl ?_
    refine Seq.val (Runs.assign rfl rfl) rfl rfl rfl ?_
    refine Seq.nil ?_
    refine Post.weak (F' := [(0, _), (1, _), (2, _), (3, _), (9, _), (10, _), (11, _), (12, _), (30, _), (46, _)]) ⟨rfl, rfl, rfl, rfl, rfl, rfl, rfl, rfl, rfl, rfl, trivial⟩ ?_
    refine Post.then_ ?_
    refine Cd.seq ?_
    refine Cd.seq ?_
    refine Cd.region ?_
    refine Seq.val (Runs.move rfl rfl) rfl rfl rfl ?_
    refine Seq.val (Runs.nilCheck rfl rfl) rfl rfl rfl ?_
    refine Seq.val (Runs.fieldB 0 rfl rfl Tryz.underlying59 rfl (by kernel_rfl)) rfl rfl rfl ?_
    refine Seq.val (Runs.loadB rfl rfl Tryz.underlying26 rfl k90 rfl) rfl rfl rfl ?_
    refine Seq.val (Runs.move rfl rfl) rfl rfl rfl ?_
    refine Seq.call (Enters.func rfl rfl rfl (run_enter Tryz.func32 (by kernel_rfl) rfl)) rfl rfl rfl (safe_any w.heap.size gd D x f _ dk hxs hf) ?_
    rintro e w7 ⟨rfl, hb7⟩
    refine ⟨_, rfl, ?_⟩
    replace bf := bf.step hb7
    replace gv := gv.step hb7
    replace k90 := k90.step hb7
    replace dk := dk.step hb7
    replace own := own.step hb7
    refine Seq.val (Runs.mulI rfl rfl rfl (by omega) (by omega)) rfl rfl rfl ?_
    refine Seq.val (Runs.assign rfl rfl) rfl rfl rfl ?_
    refine Seq.nil ?_
    refine Post.weak (F' := [(0, _), (1, _), (2, _), (3, _), (9, _), (10, _), (11, _), (12, _), (13, _), (30, _), (46, _)]) ⟨rfl, rfl, rfl, rfl, rfl, rfl, rfl, rfl, rfl, rfl, rfl, trivial⟩ ?_
    refine Post.then_ ?_
    refine Cd.seq ?_
    refine Cd.region ?_
    refine Seq.val (Runs.move rfl rfl) rfl rfl rfl ?_
    refine Seq.val (Runs.gtr rfl rfl rfl) rfl rfl rfl ?_
    refine Seq.nil ?_
    refine Post.weak (F' := [(0, _), (1, _), (2, _), (3, _), (9, _), (10, _), (11, _), (12, _), (13, _), (30, _), (46, _), (71, _)]) ⟨rfl, rfl, rfl, rfl, rfl, rfl, rfl, rfl, rfl, rfl, rfl, rfl, trivial⟩ ?_
    refine Post.then_ ?_
    refine Cd.cond rfl (fun h => ?_) (fun h => ?_)
    · obtain ⟨y, hy⟩ : ∃ y, y = z % (8 * f.safe) := ⟨_, rfl⟩
      rw [← hy] at hmod hrot
      obtain ⟨D', hD'⟩ : ∃ D', D' = D.set x ⟨rotN f.safe y bits f.data, f.safe⟩ := ⟨_, rfl⟩
      have hoff' : D'.off = false := by rw [hD']; exact hoff
      have hown' : ∀ p ∈ D'.files, OwnNm [119] p.1 := fun p hp => by
        have h1 : p.1 ∈ D'.files.map (·.1) := List.mem_map.2 ⟨p, hp, rfl⟩
        rw [hD', set_names] at h1
        obtain ⟨q, hq, e⟩ := List.mem_map.1 h1
        rw [← e]
        exact hown q hq
      rw [← hD'] at hrot
      have hns : (8 : Int) * (f.safe : Int) = ((8 * f.safe : Nat) : Int) := by omega
      refine Cd.draw 12 (by kernel_rfl) [] (.inl rfl) rfl Grow Grow.refl (fun _ _ _ => Grow.trans) ?_
      intro w2 hw2 zw2
      replace bf := bf.step hw2
      replace gv := gv.step hw2
      replace k90 := k90.step hw2
      replace dk := dk.step hw2
      replace own := own.step hw2
      have zlt := k90.lt
      refine Dr.val Grow.refl rfl (fun w hG => Runs.move rfl rfl) rfl ?_
      refine Dr.val Grow.refl rfl (fun w hG => Runs.nilCheck rfl rfl) rfl ?_
      refine Dr.val Grow.refl rfl (fun w hG => Runs.fieldB 0 rfl rfl Tryz.underlying59 rfl (by kernel_rfl)) rfl ?_
      refine Dr.val Grow.refl rfl (fun w hG => Runs.loadB rfl rfl Tryz.underlying26 rfl (k90.step hG) rfl) rfl ?_
      refine Dr.val Grow.refl rfl (fun w hG => Runs.move rfl rfl) rfl ?_
      refine Dr.val Grow.refl rfl (fun w hG => Runs.move rfl rfl) rfl ?_
      refine Dr.val Grow.refl rfl (fun w hG => Runs.convU (r := z) rfl rfl Tryz.underlying3 Tryz.underlying67 hz) rfl ?_
      refine Dr.val Grow.refl rfl (fun w hG => Runs.move rfl rfl) rfl ?_
      refine Dr.val Grow.refl rfl (fun w hG => Runs.convU (r := 8 * f.safe) rfl rfl Tryz.underlying3 Tryz.underlying67 (by omega)) rfl ?_
      refine Dr.val Grow.refl rfl (fun w hG => Runs.remNU rfl rfl rfl (by omega)) rfl ?_
      rw [← hy]
      refine Dr.val Grow.refl rfl (fun w hG => Runs.convI (r := (y : Int)) rfl rfl Tryz.underlying67 Tryz.underlying3 (wrapI (by omega) (by omega))) rfl ?_
      refine Dr.val Grow.refl rfl (fun w hG => Runs.move rfl rfl) rfl ?_
      refine Dr.nil ?_
      refine FinX.done (F' := [(0, _), (1, _), (2, _), (3, _), (9, _), (10, _), (11, _), (12, _), (13, _), (30, _), (46, _), (71, _), (75, _), (76, _), (82, _), (83, _)]) rfl ⟨rfl, rfl, rfl, rfl, rfl, rfl, rfl, rfl, rfl, rfl, rfl, rfl, rfl, rfl, rfl, rfl, trivial⟩ ?_
      intro w3 hw3 fw3
      replace bf := bf.step hw3
      replace gv := gv.step hw3
      replace k90 := k90.step hw3
      replace dk := dk.step hw3
      replace own := own.step hw3
      refine Seq.call (Enters.func rfl rfl rfl (run_enter Tryz.func33 (by kernel_rfl) rfl)) rfl rfl rfl (rot_any w.heap.size gd D x f y bits _ dk hxs hf (by omega) hbits) ?_
      clear dk
      rintro e w4 ⟨tb, rfl, dk, fw4⟩
      refine ⟨_, rfl, ?_⟩
      replace bf := bf.df fw4
      replace gv := gv.df fw4
      replace k90 := k90.df fw4
      replace own := own.df fw4
      rw [← hD'] at dk
      refine Seq.nil ?_
      refine Post.weak (F' := [(0, _), (1, _), (2, _), (3, _), (9, _), (10, _), (11, _), (12, _), (13, _), (30, _), (46, _), (71, _)]) ⟨rfl, rfl, rfl, rfl, rfl, rfl, rfl, rfl, rfl, rfl, rfl, rfl, trivial⟩ ?_
      refine Post.then_ ?_
      refine Cd.seq ?_
      refine Cd.region ?_
      refine Seq.val (Runs.move rfl rfl) rfl rfl rfl ?_
      refine Seq.val (Runs.nilCheck rfl rfl) rfl rfl rfl ?_
      refine Seq.val (Runs.fieldB 0 rfl rfl Tryz.underlying59 rfl (by kernel_rfl)) rfl rfl rfl ?_
      refine Seq.val (Runs.loadB rfl rfl Tryz.underlying26 rfl k90 rfl) rfl rfl rfl ?_
      refine Seq.call (Enters.func rfl rfl rfl (run_enter Tryz.func13 (by kernel_rfl) rfl)) rfl rfl rfl (open_any w.heap.size gd D' [119] _ gv hgw dk hoff' right_w (byt_one (by omega)) hown') ?_
      clear dk
      rintro e w5 ⟨v1, v2, rfl, hO, dk, fw5⟩
      refine ⟨_, rfl, ?_⟩
      replace bf := bf.df fw5
      replace gv := gv.df fw5
      replace k90 := k90.df fw5
      replace own := own.df fw5
      obtain ⟨D2, hrot | ⟨hrot, hb0⟩⟩ := hrot
      · rw [hrot] at hO dk
        rw [hrot]
        rcases hO with ⟨h, -, -⟩ | ⟨-, g14, rfl, -, -, own14⟩
        · exact absurd rfl h
        replace own14 : Own _ _ 36 2 v2 (recsOf segs).length (recsV (recsOf segs)) := own14
        obtain ⟨A14, c14, rfl, hr14⟩ := own14.reads
        obtain ⟨A9', c9', hv9, hr9⟩ := own.reads
        injection hv9 with e1 _ e2
        subst e1 e2
        refine Seq.val (Runs.move rfl rfl) rfl rfl rfl ?_
        refine Seq.val (Runs.extract rfl rfl rfl) rfl rfl rfl ?_
        refine Seq.val (Runs.extract rfl rfl rfl) rfl rfl rfl ?_
        refine Seq.val (Runs.extract rfl rfl rfl) rfl rfl rfl ?_
        refine Seq.val (Runs.assign rfl rfl) rfl rfl rfl ?_
        refine Seq.val (Runs.assign rfl rfl) rfl rfl rfl ?_
        refine Seq.val (Runs.assign rfl rfl) rfl rfl rfl ?_
        refine Seq.nil ?_
        refine Post.weak (F' := [(0, _), (1, _), (2, _), (3, _), (9, _), (10, _), (11, _), (12, _), (13, _), (14, _), (15, _), (16, _), (30, _), (46, _), (71, _)]) ⟨rfl, rfl, rfl, rfl, rfl, rfl, rfl, rfl, rfl, rfl, rfl, rfl, rfl, rfl, rfl, trivial⟩ ?_
        refine Post.then_ ?_
        refine Cd.seq ?_
        refine Cd.seq ?_
        refine Cd.region ?_
        refine Seq.val (Runs.move rfl rfl) rfl rfl rfl ?_
        refine Seq.val (Runs.eqlI rfl rfl rfl) rfl rfl rfl ?_
        refine Seq.nil ?_
        refine Post.weak (F' := [(0, _), (1, _), (2, _), (3, _), (9, _), (10, _), (11, _), (12, _), (13, _), (14, _), (15, _), (16, _), (30, _), (46, _), (71, _), (95, _)]) ⟨rfl, rfl, rfl, rfl, rfl, rfl, rfl, rfl, rfl, rfl, rfl, rfl, rfl, rfl, rfl, rfl, trivial⟩ ?_
        refine Post.then_ ?_
        refine Cd.condF rfl rfl ?_
        refine Cd.skip ?_
        refine Post.then_ ?_
        refine Cd.seq ?_
        refine Cd.region ?_
        refine Seq.val (Runs.move rfl rfl) rfl rfl rfl ?_
        refine Seq.val (Runs.eqlI rfl rfl rfl) rfl rfl rfl ?_
        refine Seq.val (Runs.move rfl rfl) rfl rfl rfl ?_
        refine SeqC.start ?_
        refine SeqC.open rfl rfl rfl rfl rfl rfl rfl (fun hcx => Runs.move rfl rfl) ?_
        refine SeqC.next rfl rfl rfl rfl rfl rfl rfl (fun hcx => Runs.move rfl rfl) ?_
        refine SeqC.next rfl rfl rfl rfl rfl rfl rfl (fun hcx => Runs.nilCheck rfl rfl) ?_
        refine SeqC.next rfl rfl rfl rfl rfl rfl rfl (fun hcx => Runs.fieldB 2 rfl rfl Tryz.underlying59 rfl (by kernel_rfl)) ?_
        refine SeqC.next rfl rfl rfl rfl rfl rfl rfl (fun hcx => Runs.loadB rfl rfl Tryz.underlying29 rfl k90 rfl) ?_
        refine SeqC.nextC rfl rfl rfl rfl rfl rfl rfl (fun hcx => Enters.func rfl rfl rfl (run_enter Tryz.func16 (by kernel_rfl) rfl)) (fun hcx => same_self A14 A0 _ c14 _ c0 _ (recsOf segs) _ hr14 hr9 (Nat.le_refl _) hbyt (by omega) (by omega)) ?_
        intro w6 hw6
        replace bf := bf.step hw6
        replace gv := gv.step hw6
        replace k90 := k90.step hw6
        replace dk := dk.step hw6
        replace own := own.step hw6
        refine SeqC.and rfl rfl rfl rfl rfl rfl rfl ?_
        refine Seq.val (Runs.assign rfl rfl) rfl rfl rfl ?_
        refine Seq.nil ?_
        refine Post.weak (F' := [(0, _), (1, _), (2, _), (3, _), (8, _), (9, _), (10, _), (11, _), (12, _), (13, _), (14, _), (15, _), (16, _), (30, _), (46, _), (71, _), (95, _)]) ⟨rfl, rfl, rfl, rfl, rfl, rfl, rfl, rfl, rfl, rfl, rfl, rfl, rfl, rfl, rfl, rfl, rfl, trivial⟩ ?_
        refine Post.then_ ?_
        refine Cd.ret ?_
        refine Post.end1 rfl rfl (.inl rfl) ?_
        exact ⟨by simp, bf.to (Nat.le_refl _)⟩
      · rw [hrot] at hO dk
        rw [hrot]
        rcases hO with ⟨-, rfl, rfl⟩ | ⟨h, -⟩
        · skip
          refine Seq.val (Runs.move rfl rfl) rfl rfl rfl ?_
          refine Seq.val (Runs.extract rfl rfl rfl) rfl rfl rfl ?_
          refine Seq.val (Runs.extract rfl rfl rfl) rfl rfl rfl ?_
          refine Seq.val (Runs.extract rfl rfl rfl) rfl rfl rfl ?_
          refine Seq.val (Runs.assign rfl rfl) rfl rfl rfl ?_
          refine Seq.val (Runs.assign rfl rfl) rfl rfl rfl ?_
          refine Seq.val (Runs.assign rfl rfl) rfl rfl rfl ?_
          refine Seq.nil ?_
          refine Post.weak (F' := [(0, _), (1, _), (2, _), (3, _), (9, _), (10, _), (11, _), (12, _), (13, _), (14, _), (15, _), (16, _), (30, _), (46, _), (71, _)]) ⟨rfl, rfl, rfl, rfl, rfl, rfl, rfl, rfl, rfl, rfl, rfl, rfl, rfl, rfl, rfl, trivial⟩ ?_
          refine Post.then_ ?_
          refine Cd.seq ?_
          refine Cd.seq ?_
          refine Cd.region ?_
          refine Seq.val (Runs.move rfl rfl) rfl rfl rfl ?_
          refine Seq.val (Runs.eqlI rfl rfl rfl) rfl rfl rfl ?_
          refine Seq.nil ?_
          refine Post.weak (F' := [(0, _), (1, _), (2, _), (3, _), (9, _), (10, _), (11, _), (12, _), (13, _), (14, _), (15, _), (16, _), (30, _), (46, _), (71, _), (95, _)]) ⟨rfl, rfl, rfl, rfl, rfl, rfl, rfl, rfl, rfl, rfl, rfl, rfl, rfl, rfl, rfl, rfl, trivial⟩ ?_
          refine Post.then_ ?_
          refine Cd.condT rfl rfl ?_
          refine Cd.seq ?_
          refine Cd.region ?_
          refine Seq.val (Runs.move rfl rfl) rfl rfl rfl ?_
          refine Seq.val (Runs.eqlP rfl rfl rfl Tryz.underlying28) rfl rfl rfl ?_
          refine Seq.val (Runs.move rfl rfl) rfl rfl rfl ?_
          refine SeqC.start ?_
          refine SeqC.open rfl rfl rfl rfl rfl rfl rfl (fun hcx => Runs.move rfl rfl) ?_
          refine SeqC.next rfl rfl rfl rfl rfl rfl rfl (fun hcx => Runs.len rfl rfl Tryz.underlying29) ?_
          refine SeqC.next rfl rfl rfl rfl rfl rfl rfl (fun hcx => Runs.eqlI rfl rfl rfl) ?_
          refine SeqC.and rfl rfl rfl rfl rfl rfl rfl ?_
          refine Seq.val (Runs.move rfl rfl) rfl rfl rfl ?_
          refine SeqC.start ?_
          refine SeqC.open rfl rfl rfl rfl rfl rfl rfl (fun hcx => Runs.move rfl rfl) ?_
          refine SeqC.next rfl rfl rfl rfl rfl rfl rfl (fun hcx => Runs.neqI rfl rfl rfl) ?_
          refine SeqC.and rfl rfl rfl rfl rfl rfl rfl ?_
          refine Seq.val (Runs.assign rfl rfl) rfl rfl rfl ?_
          refine Seq.nil ?_
          refine Post.weak (F' := [(0, _), (1, _), (2, _), (3, _), (8, _), (9, _), (10, _), (11, _), (12, _), (13, _), (14, _), (15, _), (16, _), (30, _), (46, _), (71, _), (95, _)]) ⟨rfl, rfl, rfl, rfl, rfl, rfl, rfl, rfl, rfl, rfl, rfl, rfl, rfl, rfl, rfl, rfl, rfl, trivial⟩ ?_
          refine Post.then_ ?_
          refine Cd.ret ?_
          refine Post.then_ret ?_
          refine Post.end1 rfl rfl (.inl rfl) ?_
          have hb1 : (bits : Int) ≠ 0 := by omega
          exact ⟨by simp; omega, bf.to (Nat.le_refl _)⟩
        · cases h
    · exfalso
      have h' : ¬ ((0 : Int) < 8 * (f.safe : Int)) := by simpa using h
      omega
end Go.Proofs.YtnlepoplncjliaaGreatDoor

namespace Go.Proofs.YtnlepoplncjliaaGreatDoor
open Go.ChangeShapes Go.WideShapes Go.Deep Go.RowKit

set_option maxRecDepth 100000 in
theorem open_int {W : World} {base t : Nat} {v : Value} {k : IntKind} (hu : Tryz.prog.underlying t = some (.int k)) (hv : Value.okWide Tryz.prog W .any base t v) : ∃ n, v = .int k n ∧ k.has n := by
  obtain ⟨n, rfl⟩ := okWide_int hu hv
  simp only [Value.okWide, hu, Cell.okWide] at hv
  exact ⟨n, rfl, by simpa [Cell.ok, hu] using hv⟩
set_option maxRecDepth 100000 in
theorem open_i64 {W : World} {base t : Nat} {v : Value} (hu : Tryz.prog.underlying t = some (.int .i64)) (hv : Value.okWide Tryz.prog W .any base t v) : ∃ n, v = .int .i64 n ∧ I64 n := by
  obtain ⟨n, rfl, h⟩ := open_int hu hv
  exact ⟨n, rfl, h.1, h.2⟩
end Go.Proofs.YtnlepoplncjliaaGreatDoor

namespace Go.Proofs.YtnlepoplncjliaaGreatDoor
open Go.ChangeShapes Go.WideShapes Go.ChangeAt Go.Deep Go.RowKit

theorem laid_tail {P : Program} {W : World} {x : String × DataW Unit} {rest : List (String × DataW Unit)} (h : laidMet P (x :: rest) W) : laidMet P rest W := by
  obtain ⟨ps, ⟨g, t, cs, fuel, p, q, h1, h2, h3, h4, h5, rfl⟩, hn, hi⟩ := h
  exact ⟨q, h5, (List.nodup_append.1 hn).2.1, fun b off hm => hi b off (List.mem_append_right _ hm)⟩
def laidL : List (String × DataW Unit) := Rows.walFullRow.laid
theorem gv_of_laid {W : World} (h : laidMetH Tryz.prog laidL W) (hs : W.ShapedOpen Tryz.prog) : Gv W := by
  rw [MakeChecks.laidMetH_plain _ _ _ (by kernel_rfl)] at h
  have h3 := laid_tail (laid_tail (show laidMet Tryz.prog (_ :: _ :: _) W from h))
  have tn : Lib.TabIs Tryz.prog W "debenture/crc.nibbles" .u32 (nibs.map Int.ofNat) := Lib.tabIs_of_head (rest := _) (g := 3) (by kernel_rfl) (by kernel_rfl) Tryz.underlying195 Tryz.underlying65 (by kernel_rfl) (by kernel_rfl) h3
  have tp : Lib.TabIs Tryz.prog W "internal/strconv.uint64pow10" .u64 Lib.pow10Tab := Lib.tabIs_of_head (rest := _) (g := 4) (by kernel_rfl) (by kernel_rfl) Tryz.underlying214 Tryz.underlying97 (by kernel_rfl) (by kernel_rfl) (laid_tail h3)
  refine ⟨⟨fun i hi => ?_⟩, tp, cell_of_shapedOpen_int (t := 3) (zero := #[.int .i64 0]) hs (of_decide_eq_true (by kernel_rfl)) (by kernel_rfl) rfl (by kernel_rfl) (by kernel_rfl) Tryz.underlying3⟩
  rw [tn.cell (g := 3) (by kernel_rfl) i (by rw [List.length_map]; exact hi)]
  congr 2
  have : ∀ i, i < 16 → (nibs.map Int.ofNat).getD i 0 = ((nibs.getD i 0 : Nat) : Int) := by decide
  exact this i hi
theorem choose_at {α : Type} (n : Nat) (p : Nat → α → Prop) (h : ∀ i, i < n → ∃ f, p i f) : ∃ l : List α, l.length = n ∧ ∀ i f, l[i]? = some f → p i f := by
  induction n with
  | zero => exact ⟨[], rfl, fun i f hf => by simp at hf⟩
  | succ n ih =>
    obtain ⟨l, hl, hp⟩ := ih fun i hi => h i (by omega)
    obtain ⟨x, hx⟩ := h n (by omega)
    refine ⟨l ++ [x], by simp [hl], fun i f hf => ?_⟩
    rcases Nat.lt_or_ge i l.length with h1 | h1
    · rw [List.getElem?_append_left h1] at hf
      exact hp i f hf
    · rw [List.getElem?_append_right h1] at hf
      have h2 : i - l.length = 0 := by
        rcases Nat.eq_zero_or_pos (i - l.length) with h2 | h2
        · exact h2
        · rw [List.getElem?_eq_none (by simp; omega)] at hf; cases hf
      rw [h2] at hf
      injection hf with hf
      subst hf
      have : i = n := by omega
      subst this
      exact hx
theorem strOf_of (s : ByteArray) : ∃ l : List Nat, s = strOf l ∧ Byt l ∧ l.length = s.size := by
  refine ⟨s.data.toList.map UInt8.toNat, ?_, fun c hc => ?_, by rw [List.length_map]; rfl⟩
  · have : (s.data.toList.map UInt8.toNat).map UInt8.ofNat = s.data.toList := by
      rw [List.map_map]
      conv => rhs; rw [← List.map_id s.data.toList]
      exact List.map_congr_left fun b _ => by simp
    unfold strOf
    rw [this]
  · obtain ⟨b, -, rfl⟩ := List.mem_map.1 hc
    exact b.toNat_lt
/-- The wrap for rows that list variables, with what the world's shape says handed on. -/
theorem lift_laid {H : Type} {enc : TypeId × Value → H} {a : Assume} {C : Checked} {os : Os} {f : FuncId} {fn : Func} {s : ChangeSpec} {X : World → Array Value → Prop} {apart fresh handsOn again : Bool}
    (hX : ∀ (w w' : World) (args : Array Value), w.heap = w'.heap → X w args → X w' args) (own : ownKnob C.prog.godebug = none) (started : os.Started) (hi : C.prog.inits.idxOf? f = none) (hfn : C.prog.funcs[f]? = some fn)
    (wit : ∃ (w : World) (tape : Tape) (i : Input), w.os = os ∧ (w.forCall tape i).Shaped C.prog ∧ i.vars = [] ∧ Input.okWide C.prog (w.forCall tape i) .any w.heap.size f i ∧
      ((s.pre enc C.prog fn [] apart (w.forCall tape i).memory i.args ∧ X (w.forCall tape i).memory i.args) ∧ sizedMet enc C.prog fn (OpenSpec.ofChange s) apart (w.forCall tape i).memory i.args) ∧ a.holds C.prog (lone (Frame.enter C.prog f i.args .normal) [] (w.forCall tape i)))
    (walk : ∀ (W : World) (base : Nat) (args : Array Value) (ds gs : List (DataW H)) (before : List MemPlace), (∀ (j : Nat) t v, fn.params[j]? = some t → args[j]? = some v → Value.okWide C.prog W .any base t v) →
      DataW.Whole enc C.prog fn.params.toList s.vars apart W args.toList ds gs before → X W args → W.ShapedOpen C.prog →
      Calls C.prog f args W fun e W' => ∃ v, e = .returned v ∧ s.post enc C.prog fn apart fresh handsOn again W args v W') :
    ReturnsInHanded a C os f .any (fun w args => (s.pre enc C.prog fn [] apart w args ∧ X w args) ∧ sizedMet enc C.prog fn (OpenSpec.ofChange s) apart w args) (s.post enc C.prog fn apart fresh handsOn again) := by
  refine returnsInHanded_of_calls own started hi wit fun w tape i _ hsh _ hok hp _ => ?_
  obtain ⟨⟨⟨ds, gs, before, hw, -⟩, hx⟩, -⟩ := hp
  obtain ⟨_, _, _, fn', hfn', _, _, _, _, hval⟩ := hok
  obtain rfl : fn' = fn := Option.some.inj (hfn'.symm.trans hfn)
  refine (walk _ _ _ ds gs before hval (DataW.Whole.of_heap (by rfl) hw) (hX _ _ _ (by rfl) hx) hsh).mono fun e W' he => ?_
  obtain ⟨v, rfl, hp⟩ := he
  exact ChangeSpec.post_blind hp
theorem own : ownKnob Tryz.prog.godebug = none := by kernel_rfl
theorem laidOut : laidOutB Tryz.prog = true := by kernel_rfl
theorem door_met (os : Os) (args : Array Value) : laidMetH Tryz.prog laidL ((World.doorLaid Tryz.prog 67 os).forCall (fun _ _ => 0) ⟨#[], args, []⟩).memory :=
  laidMetH_of_parts3 (fuel := 8) (laidMet_of_run' 8 (by kernel_rfl) (by kernel_rfl)) (by kernel_rfl) (by kernel_rfl)
end Go.Proofs.YtnlepoplncjliaaGreatDoor

namespace Go.Proofs.YtnlepoplncjliaaGreatDoor
open Go.ChangeShapes Go.WideShapes Go.Deep Go.RowKit

section
variable {H : Type} {enc : TypeId × Value → H} {P : Program} {w : World} {base : Nat} {spare : Nat → Bool} {held : Bool}
theorem open_slice_fields {t e : TypeId} {fs : Array Field} {fuel : Nat} {cs : List Value} {x : DataW H × List MemPlace} (ht : P.underlying t = some (.slice e)) (he : P.underlying e = some (.struct fs))
    (hone : oneCellFields P fs = true) (hC : P.cellsOf e = fs.size) (h : DataW.trod enc P w base spare held fuel t cs = some x) :
    (cs = [.slice none 0 0] ∧ x = (.nil, [])) ∨
    ∃ (a : Addr) (len cap m : Nat) (D : Nat → DataW H) (Pl : Nat → List MemPlace), cs = [.slice (some a) len cap] ∧ base ≤ a.block ∧ len ≤ cap ∧ cap ≤ maxLen ∧ m = (if spare a.block then cap else len) ∧
      x = (.slice ((List.range len).map D) ((List.range (m - len)).map fun j => D (len + j)), MemPlace.row a (m * fs.size) ++ (List.range m).flatMap Pl) ∧
      ∀ i, i < m → ∃ (ys : List (DataW H × List MemPlace)) (n : Nat), D i = .agg (ys.map (·.1)) ∧ Pl i = ys.flatMap (·.2) ∧ ys.length = fs.size ∧
        ∀ (j : Nat) (f : Field), fs[j]? = some f → ∃ (v : Value) (y : DataW H × List MemPlace), w.cell? (a.add (i * fs.size + j)) = some v ∧ ys[j]? = some y ∧ DataW.trod enc P w base spare held n f.type [v] = some y := by
  rcases open_slice ht h with h0 | ⟨a, len, cap, m, n, D, Pl, hcs, hb, hl, hm, hmm, hx, hi⟩
  · exact .inl h0
  · refine .inr ⟨a, len, cap, m, D, Pl, hcs, hb, hl, hm, hmm, by rw [hC] at hx; exact hx, fun i him => ?_⟩
    obtain ⟨cs', hc, ht'⟩ := hi i him
    rw [hC] at hc
    obtain ⟨ys, n', hn', hy, hlen, hyl, hf⟩ := DataW.trod_struct he ht'
    obtain ⟨_, hcl, hat⟩ := World.cells?_some hc
    simp only [Prod.mk.injEq] at hy
    refine ⟨ys, n', hy.1, hy.2, hyl, fun j f hj => ?_⟩
    obtain ⟨ho, hk⟩ := hone_of hone j f hj
    have hjl : j < fs.size := (Array.getElem?_eq_some_iff.1 hj).1
    have hcell := hat j hjl
    have hv : cs'[j]? = some (cs'[j]'(by omega)) := List.getElem?_eq_getElem (by omega)
    have h1 := hf j f hj
    rw [ho, hk] at h1
    have hone' : (cs'.drop j).take 1 = [cs'[j]'(by omega)] := by
      rw [List.drop_eq_getElem_cons (by omega)]
      rfl
    rw [hone'] at h1
    have hys : ys[j]? = some (ys[j]'(by omega)) := List.getElem?_eq_getElem (by omega)
    refine ⟨_, _, ?_, hys, h1.trans hys⟩
    rw [← Go.Deep.add_add, hcell, hv]
end

set_option maxRecDepth 100000 in
theorem open_acts {H : Type} {enc : TypeId × Value → H} {W : World} {base : Nat} {v : Value} {d : DataW H} {p : List MemPlace} (hv : Value.okWide Tryz.prog W .any base 50 v)
    (h : DataW.Trod enc Tryz.prog W 0 (fun _ => true) true 50 v d p) : ∃ A len cap l, v = .slice A len cap ∧ Reads W W.heap.size 3 A len (acsV l) ∧ ∀ a ∈ l, Byt a.data ∧ I64 a.n := by
  obtain ⟨A, len, cap, rfl⟩ := okWide_slice Tryz.underlying50 hv
  obtain ⟨m, hm⟩ := h
  rcases open_slice_fields Tryz.underlying50 Tryz.underlying57 (by kernel_rfl) (by kernel_rfl) hm with ⟨hcs, -⟩ | ⟨a, len', cap', k, D, Pl, hcs, -, hlc, -, hk, -, hf⟩
  · simp [Value.cells] at hcs
    obtain ⟨rfl, rfl, rfl⟩ := hcs
    exact ⟨none, 0, 0, [], rfl, Reads.none_, by simp⟩
  · simp only [if_true] at hk
    simp [Value.cells] at hcs
    obtain ⟨rfl, rfl, rfl⟩ := hcs
    obtain ⟨l, hl, hp⟩ := choose_at (α := ActV) len (fun i f => (Byt f.data ∧ I64 f.n) ∧ ∀ j u, f.cs[j]? = some u → W.cell? (a.add (i * 3 + j)) = some u) fun i hi => by
      obtain ⟨ys, n, -, -, hyl, hfj⟩ := hf i (by omega)
      obtain ⟨v0, z0, k0, -, t0⟩ := hfj 0 _ rfl
      obtain ⟨v1, z1, k1, -, t1⟩ := hfj 1 _ rfl
      obtain ⟨v2, z2, k2, -, t2⟩ := hfj 2 _ rfl
      obtain ⟨x0, e0, -, -⟩ := DataW.trod_int Tryz.underlying3 t0
      obtain ⟨x1, e1, -, hwf⟩ := DataW.trod_int Tryz.underlying3 t1
      obtain ⟨x2, e2, -⟩ := DataW.trod_string Tryz.underlying9 t2
      simp at e0 e1 e2
      subst e0 e1 e2
      obtain ⟨s, rfl, hs, -⟩ := strOf_of x2
      simp only [Lit.wf, Bool.and_eq_true, decide_eq_true_eq] at hwf
      refine ⟨⟨x0, x1, s⟩, ⟨hs, hwf.1, hwf.2⟩, fun j u hu => ?_⟩
      match j, hu with
      | 0, hu => simp [ActV.cs] at hu; subst hu; exact k0
      | 1, hu => simp [ActV.cs] at hu; subst hu; exact k1
      | 2, hu => simp [ActV.cs] at hu; subst hu; exact k2
      | j + 3, hu => simp [ActV.cs] at hu
    refine ⟨some a, len, cap, l, rfl, ⟨by rw [acsV_len, hl], fun hpos => ⟨a, rfl, ?_, fun j u hu => ?_⟩⟩, fun x hx => ?_⟩
    · obtain ⟨f, hf0⟩ : ∃ f, l[0]? = some f := ⟨_, List.getElem?_eq_getElem (by omega)⟩
      have := World.block_lt_of_cell? W _ ((hp 0 f hf0).2 0 _ rfl)
      rwa [block_of_add] at this
    · have hj : j < len * 3 := by have := (List.getElem?_eq_some_iff.1 hu).1; rw [acsV_len, hl] at this; exact this
      have hi : j / 3 < l.length := by omega
      obtain ⟨f, hf0⟩ : ∃ f, l[j / 3]? = some f := ⟨_, List.getElem?_eq_getElem hi⟩
      have hj3 : j % 3 < f.cs.length := by show j % 3 < 3; omega
      have hg := acsV_at hf0 (j % 3) _ (List.getElem?_eq_getElem hj3)
      rw [show j / 3 * 3 + j % 3 = j by omega, hu] at hg
      have := (hp (j / 3) f hf0).2 (j % 3) u (by rw [List.getElem?_eq_getElem hj3, ← hg])
      rwa [show j / 3 * 3 + j % 3 = j by omega] at this
    · obtain ⟨j, hj, rfl⟩ := List.getElem_of_mem hx
      exact (hp j _ (List.getElem?_eq_getElem hj)).1
set_option maxRecDepth 100000 in
theorem open_u32 {W : World} {base t : Nat} {v : Value} (hu : Tryz.prog.underlying t = some (.int .u32)) (hv : Value.okWide Tryz.prog W .any base t v) : ∃ n : Nat, v = .int .u32 (n : Int) ∧ n < 4294967296 := by
  obtain ⟨n, rfl, h0, h1⟩ := open_int hu hv
  have h2 : (0 : Int) ≤ n := h0
  have e : IntKind.u32.max = 4294967295 := by decide
  rw [e] at h1
  exact ⟨n.toNat, by rw [Int.toNat_of_nonneg h2], by omega⟩
end Go.Proofs.YtnlepoplncjliaaGreatDoor


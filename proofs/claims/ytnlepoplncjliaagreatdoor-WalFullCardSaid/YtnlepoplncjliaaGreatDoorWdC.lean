/-
  The law WalFull. Condition: the tables stand as they are laid.
-/
import Derived.Test.YtnlepoplncjliaaGreatDoorWdB
namespace Go.Proofs.YtnlepoplncjliaaGreatDoor
open Go.RowKit

theorem Lf.app {w w' w'' : World} {B B2 B3 n size : Nat} {e : TypeId} {v : Value} {xs : List Value} (h : Lf B w w') (_o : Own w' B2 e size v n xs) (ha : App w' w'' B3 v) (h0 : w.heap.size ≤ B3) : Lf B w w'' := by
  refine ⟨h.below.trans (ha.below.mono (by omega)), fun i t cs hb h3 h4 h5 => ?_⟩
  have h6 := h.keep i t cs hb h3 h4 h5
  have h7 : w''.heap[i]? = w'.heap[i]? := ha.below.block i (by have := hb.lt; omega)
  exact h7.trans h6
/-- Whether texts are few and short. -/
def smallL (l : List (List Nat)) : Bool := decide (l.length ≤ 12) && l.all fun s => decide (s.length ≤ 300)
theorem small_any (A : Option Addr) (n c : Nat) (l : List (List Nat)) (w : World) (hr : Reads w w.heap.size 1 A n (Ts l)) :
    Calls Tryz.prog 10 #[.slice A n c] w fun e w' => e = .returned (.bool (smallL l)) ∧ Grow w w' := by
  have bel := Below.refl w.heap.size w
  have hl : l.length = n := by have := hr.1; rw [Ts_len] at this; omega
  refine Calls.start 19 Tryz.func10 rfl rfl rfl ?_
  refine Cd.seq ?_
  refine Cd.region ?_
  refine Seq.val (Runs.assign rfl rfl) rfl rfl rfl ?_
  refine Seq.nil ?_
  refine Post.weak (F' := [(0, _), (2, _)]) ⟨rfl, rfl, trivial⟩ ?_
  refine Post.then_ ?_
  refine Cd.seq ?_
  refine Cd.seq ?_
  refine Cd.region ?_
  refine Seq.val (Runs.move rfl rfl) rfl rfl rfl ?_
  refine Seq.val (Runs.len rfl rfl Tryz.underlying22) rfl rfl rfl ?_
  refine Seq.val (Runs.gtr rfl rfl rfl) rfl rfl rfl ?_
  refine Seq.nil ?_
  refine Post.weak (F' := [(0, _), (2, _), (6, _)]) ⟨rfl, rfl, rfl, trivial⟩ ?_
  refine Post.then_ ?_
  refine Cd.cond rfl (fun h => ?_) (fun h => ?_)
  · have h : (12 : Int) < (n : Int) := by simpa using h
    have hS : smallL l = false := by unfold smallL; rw [decide_eq_false (by omega)]; rfl
    rw [hS]
    refine Cd.seq ?_
    refine Cd.region ?_
    refine Seq.val (Runs.assign rfl rfl) rfl rfl rfl ?_
    refine Seq.nil ?_
    refine Post.weak (F' := [(0, _), (2, _), (6, _)]) ⟨rfl, rfl, rfl, trivial⟩ ?_
    refine Post.then_ ?_
    refine Cd.ret ?_
    refine Post.then_ret ?_
    refine Post.end1 rfl rfl (.inl rfl) ?_
    exact ⟨rfl, bel⟩
  have h : ¬ ((12 : Int) < (n : Int)) := by simpa using h
  refine Cd.skip ?_
  refine Post.then_ ?_
  refine Cd.seq ?_
  refine Cd.seq ?_
  refine Cd.region ?_
  refine Seq.val (Runs.assign rfl rfl) rfl rfl rfl ?_
  refine Seq.nil ?_
  refine Post.weak (F' := [(0, _), (2, _), (3, _), (6, _)]) ⟨rfl, rfl, rfl, rfl, trivial⟩ ?_
  refine Post.then_ ?_
  refine Cd.block ?_
  refine Cd.loop (σ := Nat) (fun j => [(0, .slice A n c), (3, .int .i64 (j : Int))]) (fun j wr => j ≤ n ∧ (∀ s ∈ l.take j, s.length ≤ 300) ∧ Below w.heap.size w wr) (fun j => n - j) 0 ⟨Nat.zero_le _, by simp, bel⟩ ⟨rfl, rfl, trivial⟩ ?_
  clear bel
  rintro j wr ⟨hj, hall, bel⟩
  refine Cd.seq ?_
  refine Cd.seq ?_
  refine Cd.region ?_
  refine Seq.val (Runs.move rfl rfl) rfl rfl rfl ?_
  refine Seq.val (Runs.move rfl rfl) rfl rfl rfl ?_
  refine Seq.val (Runs.len rfl rfl Tryz.underlying22) rfl rfl rfl ?_
  refine Seq.val (Runs.lss rfl rfl rfl) rfl rfl rfl ?_
  refine Seq.nil ?_
  refine Post.weak (F' := [(0, _), (3, _), (10, _)]) ⟨rfl, rfl, rfl, trivial⟩ ?_
  refine Post.then_ ?_
  refine Cd.condD rfl (fun hc => ?_) (fun hc => ?_)
  · obtain ⟨s, hs⟩ : ∃ s, l[j]? = some s := ⟨_, List.getElem?_eq_getElem (by omega)⟩
    obtain ⟨ad, rfl, hbd, hcl⟩ := hr.2 (by omega)
    have hcd := (bel.cell (p := ad.add j) (by rw [block_of_add]; exact hbd)).trans (hcl j (.string (strOf s)) (by rw [get_Ts, hs]; rfl))
    refine Cd.skip ?_
    refine Post.then_ ?_
    refine Cd.seq ?_
    refine Cd.block ?_
    refine Cd.seq ?_
    refine Cd.region ?_
    refine Seq.val (Runs.move rfl rfl) rfl rfl rfl ?_
    refine Seq.val (Runs.move rfl rfl) rfl rfl rfl ?_
    refine Seq.val (Runs.index1 rfl rfl rfl Tryz.underlying22 (by kernel_rfl) (j := j) rfl (by omega)) rfl rfl rfl ?_
    refine Seq.val (Runs.load1 rfl rfl Tryz.underlying9 rfl hcd) rfl rfl rfl ?_
    refine Seq.val (Runs.lenL rfl rfl Tryz.underlying9) rfl rfl rfl ?_
    refine Seq.val (Runs.gtr rfl rfl rfl) rfl rfl rfl ?_
    refine Seq.nil ?_
    refine Post.weak (F' := [(0, _), (3, _), (10, _), (18, _)]) ⟨rfl, rfl, rfl, rfl, trivial⟩ ?_
    refine Post.then_ ?_
    refine Cd.cond rfl (fun h => ?_) (fun h => ?_)
    · have h : (300 : Int) < (s.length : Int) := by simpa using h
      have hS : smallL l = false := by
        unfold smallL
        rw [Bool.and_eq_false_iff]
        right
        rw [List.all_eq_false]
        exact ⟨s, List.mem_of_getElem? hs, by simp; omega⟩
      rw [hS]
      refine Cd.seq ?_
      refine Cd.region ?_
      refine Seq.val (Runs.assign rfl rfl) rfl rfl rfl ?_
      refine Seq.nil ?_
      refine Post.weak (F' := [(0, _), (2, _), (3, _), (10, _), (18, _)]) ⟨rfl, rfl, rfl, rfl, rfl, trivial⟩ ?_
      refine Post.then_ ?_
      refine Cd.ret ?_
      refine Post.block_ret ?_
      refine Post.then_ret ?_
      refine Post.round_ret ?_
      refine Post.block_ret ?_
      refine Post.then_ret ?_
      refine Post.end1 rfl rfl (.inl rfl) ?_
      exact ⟨rfl, bel⟩
    have h : ¬ ((300 : Int) < (s.length : Int)) := by simpa using h
    refine Cd.skip ?_
    refine Post.block_normal ?_
    refine Post.then_ ?_
    refine Cd.region ?_
    refine Seq.val (Runs.move rfl rfl) rfl rfl rfl ?_
    refine Seq.val (Runs.addI rfl rfl rfl (by omega) (by omega)) rfl rfl rfl ?_
    refine Seq.val (Runs.assign rfl rfl) rfl rfl rfl ?_
    refine Seq.nil ?_
    refine Post.weak (F' := [(0, _), (3, _), (10, _), (18, _)]) ⟨rfl, rfl, rfl, rfl, trivial⟩ ?_
    refine Post.round (j + 1) ⟨rfl, int_at (by omega), trivial⟩ ⟨by omega, fun x hx => ?_, bel⟩ (by omega)
    rw [take_last hs] at hx
    rcases List.mem_append.1 hx with hx | hx
    · exact hall x hx
    · simp at hx; subst hx; omega
  · have hS : smallL l = true := by
      unfold smallL
      rw [decide_eq_true (by omega), Bool.true_and, List.all_eq_true]
      intro s hs
      rw [List.take_of_length_le (by omega)] at hall
      simpa using hall s hs
    rw [hS]
    refine Cd.exit ?_
    refine Post.then_exit ?_
    refine Post.round_exit ?_
    refine Post.block_exit ?_
    refine Post.then_ ?_
    refine Cd.seq ?_
    refine Cd.region ?_
    refine Seq.val (Runs.assign rfl rfl) rfl rfl rfl ?_
    refine Seq.nil ?_
    refine Post.weak (F' := [(0, _), (2, _), (3, _), (10, _)]) ⟨rfl, rfl, rfl, rfl, trivial⟩ ?_
    refine Post.then_ ?_
    refine Cd.ret ?_
    refine Post.end1 rfl rfl (.inl rfl) ?_
    exact ⟨rfl, bel⟩
theorem DkAt.mono {w : World} {B B' g : Nat} {D : Dk} (h : DkAt w B g D) (hB : B' ≤ B) : DkAt w B' g D := by
  obtain ⟨m, l, F, c1, c2, h⟩ := h
  exact ⟨m, l, F, c1, c2, h.k, h.mp, Nat.le_trans hB h.hm, ⟨fun p hp => ⟨Nat.le_trans hB (h.fs.blk p hp).1, (h.fs.blk p hp).2⟩, h.fs.nd⟩, h.fl, Nat.le_trans hB h.hB, h.ok⟩
theorem recsOf_byt {D : Dk} {nm : List Nat} {segs : List (Nat × List (List Nat))} (h : LogIs D nm segs) : ∀ r ∈ recsOf segs, Byt r.2 := by
  intro r hr
  unfold recsOf at hr
  obtain ⟨s, hs, h2⟩ := List.mem_flatMap.1 hr
  obtain ⟨x, hx, rfl⟩ := List.mem_map.1 h2
  exact ((h.recs s hs).2.1 x hx).1
set_option maxHeartbeats 4000000 in
theorem walk_full (A : Option Addr) (n c room : Nat) (l : List (List Nat)) (w : World) (gv : Gv w) (hr : Reads w w.heap.size 1 A n (Ts l)) (hb : ∀ s ∈ l, Byt s) (hroom : room < 65536) :
    Calls Tryz.prog 3 #[.slice A n c, .int .u16 (room : Int)] w fun e w' => e = .returned (.bool true) ∧ Grow w w' := by
  have lf := Lf.refl w.heap.size w
  have hgw := tab_lt gv.pow
  have hl : l.length = n := by have := hr.1; rw [Ts_len] at this; omega
  have hL0 : LogIs (Dk.new (room : Int)) [119] [] := LogIs.nil
  have hO0 := hL0.opens
  have hnext : nextN 0 [] = 0 := rfl
  have hrec0 : recsOf [] = [] := rfl
  rw [hnext, hrec0] at hO0
  refine Calls.start 105 Tryz.func3 rfl rfl rfl ?_
  refine Cd.seq ?_
  refine Cd.region ?_
  refine Seq.val (Runs.assign rfl rfl) rfl rfl rfl ?_
  refine Seq.nil ?_
  refine Post.weak (F' := [(0, _), (1, _), (4, _)]) ⟨rfl, rfl, rfl, trivial⟩ ?_
  refine Post.then_ ?_
  refine Cd.seq ?_
  refine Cd.seq ?_
  refine Cd.region ?_
  refine Seq.val (Runs.move rfl rfl) rfl rfl rfl ?_
  refine Seq.call (Enters.func rfl rfl rfl (run_enter Tryz.func10 (by kernel_rfl) rfl)) rfl rfl rfl (small_any A n c l _ (hr.below (Below.refl _ _))) ?_
  rintro e w4 ⟨rfl, hb4⟩
  refine ⟨_, rfl, ?_⟩
  replace lf := lf.step hb4
  replace gv := gv.step hb4
  refine Seq.val (Runs.not rfl rfl) rfl rfl rfl ?_
  refine Seq.val (Runs.move rfl rfl) rfl rfl rfl ?_
  refine SeqC.start ?_
  refine SeqC.openC rfl rfl rfl rfl rfl rfl rfl (fun hcx => Enters.func rfl rfl rfl (run_enter Tryz.func11 (by kernel_rfl) rfl)) (fun hcx => awake_any _ gv) ?_
  intro w1 hw1
  replace lf := lf.step hw1
  replace gv := gv.step hw1
  refine SeqC.next rfl rfl rfl rfl rfl rfl rfl (fun hcx => Runs.not rfl rfl) ?_
  refine SeqC.or rfl rfl rfl rfl rfl rfl rfl ?_
  refine Seq.nil ?_
  refine Post.weak (F' := [(0, _), (1, _), (4, _), (22, _)]) ⟨rfl, rfl, rfl, rfl, trivial⟩ ?_
  refine Post.then_ ?_
  refine Cd.cond rfl (fun h => ?_) (fun h => ?_)
  · skip
    refine Cd.seq ?_
    refine Cd.region ?_
    refine Seq.call (Enters.func rfl rfl rfl (run_enter Tryz.func11 (by kernel_rfl) rfl)) rfl rfl rfl (awake_any _ gv) ?_
    rintro e w5 ⟨rfl, hb5⟩
    refine ⟨_, rfl, ?_⟩
    replace lf := lf.step hb5
    replace gv := gv.step hb5
    refine Seq.val (Runs.assign rfl rfl) rfl rfl rfl ?_
    refine Seq.nil ?_
    refine Post.weak (F' := [(0, _), (1, _), (4, _), (22, _)]) ⟨rfl, rfl, rfl, rfl, trivial⟩ ?_
    refine Post.then_ ?_
    refine Cd.ret ?_
    refine Post.then_ret ?_
    refine Post.end1 rfl rfl (.inl rfl) ?_
    exact ⟨rfl, lf.to (Nat.le_refl _)⟩
  have h : smallL l = true := by
    cases e : smallL l with
    | true => rfl
    | false => rw [e] at h; cases h
  unfold smallL at h
  rw [Bool.and_eq_true, decide_eq_true_eq, List.all_eq_true] at h
  obtain ⟨hn12, hall⟩ := h
  refine Cd.skip ?_
  refine Post.then_ ?_
  refine Cd.seq ?_
  refine Cd.region ?_
  refine Seq.val (Runs.move rfl rfl) rfl rfl rfl ?_
  refine Seq.val (Runs.convI rfl rfl Tryz.underlying23 Tryz.underlying3 (wrapI (by omega) (by omega))) rfl rfl rfl ?_
  have hsz0 := lf.size
  refine Seq.call (Enters.func rfl rfl rfl (run_enter Tryz.func12 (by kernel_rfl) rfl)) rfl rfl rfl (new_any (room : Int) _ (by omega) (by omega)) ?_
  rintro e w5 ⟨gd, rfl, dk, hb5⟩
  refine ⟨_, rfl, ?_⟩
  replace dk := dk.mono hsz0
  have hsz5 := Nat.le_trans hsz0 hb5.size
  replace lf := lf.step hb5
  replace gv := gv.step hb5
  refine Seq.val (Runs.assign rfl rfl) rfl rfl rfl ?_
  refine Seq.nil ?_
  refine Post.weak (F' := [(0, _), (1, _), (4, _), (5, _), (22, _)]) ⟨rfl, rfl, rfl, rfl, rfl, trivial⟩ ?_
  refine Post.then_ ?_
  refine Cd.seq ?_
  refine Cd.region ?_
  refine Seq.val (Runs.move rfl rfl) rfl rfl rfl ?_
  refine Seq.call (Enters.func rfl rfl rfl (run_enter Tryz.func13 (by kernel_rfl) rfl)) rfl rfl rfl (open_any w.heap.size gd (Dk.new (room : Int)) [119] _ gv hgw dk rfl right_w (byt_one (by omega)) hL0.own_nm) ?_
  clear dk
  rintro e w2 ⟨v1, v2, rfl, hO, dk, fw2⟩
  refine ⟨_, rfl, ?_⟩
  replace lf := lf.df fw2
  replace gv := gv.df fw2
  rw [hO0] at hO dk
  rw [hO0]
  rcases hO with ⟨h, -, -⟩ | ⟨-, g6, rfl, hg6, k6, own6⟩
  · exact absurd rfl h
  obtain ⟨A6, c6, rfl, -⟩ := own6.reads
  clear own6
  have e6 : w.heap.size ≤ g6 := Nat.le_trans hsz5 hg6
  replace k6 : Blk _ g6 80 (Wl.cs ⟨0, 0, 0, false⟩ gd [119]) := k6
  replace dk : DkAt _ w.heap.size gd (Dk.new (room : Int)) := dk
  refine Seq.val (Runs.move rfl rfl) rfl rfl rfl ?_
  refine Seq.val (Runs.extract rfl rfl rfl) rfl rfl rfl ?_
  refine Seq.val (Runs.extract rfl rfl rfl) rfl rfl rfl ?_
  refine Seq.val (Runs.extract rfl rfl rfl) rfl rfl rfl ?_
  refine Seq.val (Runs.assign rfl rfl) rfl rfl rfl ?_
  refine Seq.val (Runs.assign rfl rfl) rfl rfl rfl ?_
  refine Seq.val (Runs.assign rfl rfl) rfl rfl rfl ?_
  refine Seq.nil ?_
  refine Post.weak (F' := [(0, _), (1, _), (4, _), (5, _), (6, _), (8, _), (22, _)]) ⟨rfl, rfl, rfl, rfl, rfl, rfl, rfl, trivial⟩ ?_
  refine Post.then_ ?_
  refine Cd.seq ?_
  refine Cd.seq ?_
  refine Cd.region ?_
  refine Seq.val (Runs.move rfl rfl) rfl rfl rfl ?_
  refine Seq.val (Runs.eqlP rfl rfl rfl Tryz.underlying26) rfl rfl rfl ?_
  refine Seq.val (Runs.move rfl rfl) rfl rfl rfl ?_
  refine SeqC.start ?_
  refine SeqC.open rfl rfl rfl rfl rfl rfl rfl (fun hcx => Runs.move rfl rfl) ?_
  refine SeqC.next rfl rfl rfl rfl rfl rfl rfl (fun hcx => Runs.eqlP rfl rfl rfl Tryz.underlying28) ?_
  refine SeqC.or rfl rfl rfl rfl rfl rfl rfl ?_
  refine Seq.val (Runs.move rfl rfl) rfl rfl rfl ?_
  refine SeqC.start ?_
  refine SeqC.open rfl rfl rfl rfl rfl rfl rfl (fun hcx => Runs.move rfl rfl) ?_
  refine SeqC.next rfl rfl rfl rfl rfl rfl rfl (fun hcx => Runs.neqI rfl rfl rfl) ?_
  refine SeqC.or rfl rfl rfl rfl rfl rfl rfl ?_
  refine Seq.nil ?_
  refine Post.weak (F' := [(0, _), (1, _), (4, _), (5, _), (6, _), (8, _), (22, _), (42, _)]) ⟨rfl, rfl, rfl, rfl, rfl, rfl, rfl, rfl, trivial⟩ ?_
  refine Post.then_ ?_
  refine Cd.condF rfl rfl ?_
  refine Cd.skip ?_
  refine Post.then_ ?_
  refine Cd.seq ?_
  refine Cd.region ?_
  refine Seq.val (Runs.assign rfl rfl) rfl rfl rfl ?_
  refine Seq.nil ?_
  refine Post.weak (F' := [(0, _), (1, _), (4, _), (5, _), (6, _), (8, _), (9, _), (22, _), (42, _)]) ⟨rfl, rfl, rfl, rfl, rfl, rfl, rfl, rfl, rfl, trivial⟩ ?_
  refine Post.then_ ?_
  refine Cd.seq ?_
  refine Cd.seq ?_
  refine Cd.region ?_
  refine Seq.val (Runs.assign rfl rfl) rfl rfl rfl ?_
  refine Seq.nil ?_
  refine Post.weak (F' := [(0, _), (1, _), (4, _), (5, _), (6, _), (8, _), (9, _), (10, _), (22, _), (42, _)]) ⟨rfl, rfl, rfl, rfl, rfl, rfl, rfl, rfl, rfl, rfl, trivial⟩ ?_
  refine Post.then_ ?_
  refine Cd.block ?_
  have own := Own.nil w2 w.heap.size 36 2
  refine Cd.loop (σ := Nat × Dk × Wl × List (Nat × List (List Nat)) × Value) (fun q => [(0, .slice A n c), (5, .pointer (some ⟨gd, 0, none⟩)), (6, .pointer (some ⟨g6, 0, none⟩)), (9, q.2.2.2.2), (10, .int .i64 (q.1 : Int))]) (fun q wr => q.1 ≤ n ∧ DkAt wr w.heap.size gd q.2.1 ∧ WlIs q.2.1 [119] q.2.2.1 q.2.2.2.1 ∧ q.2.2.1.num = 0 ∧ q.2.2.1.count ≤ q.1 ∧ q.2.2.1.size ≤ 312 * q.1 ∧ q.2.1.files.length ≤ 2 * q.1 ∧ (recsOf q.2.2.2.1).length ≤ q.1 ∧ Lf w.heap.size w wr ∧ Gv wr ∧ Blk wr g6 80 (q.2.2.1.cs gd [119]) ∧ Own wr w.heap.size 36 2 q.2.2.2.2 (recsOf q.2.2.2.1).length (recsV (recsOf q.2.2.2.1))) (fun q => n - q.1) (0, Dk.new (room : Int), ⟨0, 0, 0, false⟩, [], .slice none 0 0) ⟨Nat.zero_le _, dk, WlIs.opened hL0, rfl, Nat.le_refl _, Nat.le_refl _, Nat.le_refl _, Nat.le_refl _, lf, gv, k6, own⟩ ⟨rfl, rfl, rfl, rfl, rfl, trivial⟩ ?_
  clear dk lf gv k6 own
  rintro ⟨i, D, W, segs, v⟩ wr ⟨hi, dk, hW, hnum, hcnt, hsz, hfl, hrl, lf, gv, k6, own⟩
  simp only at hi dk hW hnum hcnt hsz hfl hrl k6 own
  obtain ⟨A9, c9, rfl, -⟩ := own.reads
  show Cd _ _ _ _ [(0, .slice A n c), (5, .pointer (some ⟨gd, 0, none⟩)), (6, .pointer (some ⟨g6, 0, none⟩)), (9, .slice A9 (recsOf segs).length c9), (10, .int .i64 (i : Int))] _
  have hdok := dk.ok
  have hu0 : 0 ≤ D.used := Int.natCast_nonneg _
  have hu1 := hdok.fits
  have hu2 := hdok.room1
  refine Cd.seq ?_
  refine Cd.seq ?_
  refine Cd.region ?_
  refine Seq.val (Runs.move rfl rfl) rfl rfl rfl ?_
  refine Seq.val (Runs.move rfl rfl) rfl rfl rfl ?_
  refine Seq.val (Runs.len rfl rfl Tryz.underlying22) rfl rfl rfl ?_
  refine Seq.val (Runs.lss rfl rfl rfl) rfl rfl rfl ?_
  refine Seq.nil ?_
  refine Post.weak (F' := [(0, _), (5, _), (6, _), (9, _), (10, _), (46, _)]) ⟨rfl, rfl, rfl, rfl, rfl, rfl, trivial⟩ ?_
  refine Post.then_ ?_
  refine Cd.condD rfl (fun hc => ?_) (fun hc => ?_)
  · obtain ⟨s, hs⟩ : ∃ s, l[i]? = some s := ⟨_, List.getElem?_eq_getElem (by omega)⟩
    have hsm := List.mem_of_getElem? hs
    have hsb := hb s hsm
    have hsl : s.length ≤ 300 := by simpa using hall s hsm
    obtain ⟨ad, rfl, hbd, hcl⟩ := hr.2 (by omega)
    have hcd : ∀ wr', Lf w.heap.size w wr' → wr'.cell? (ad.add i) = some (.string (strOf s)) := fun wr' hlf => ((hlf.to (Nat.le_refl _)).cell (p := ad.add i) (by rw [block_of_add]; exact hbd)).trans (hcl i (.string (strOf s)) (by rw [get_Ts, hs]; rfl))
    refine Cd.skip ?_
    refine Post.then_ ?_
    refine Cd.seq ?_
    refine Cd.block ?_
    refine Cd.seq ?_
    refine Cd.region ?_
    refine Seq.val (Runs.move rfl rfl) rfl rfl rfl ?_
    refine Seq.call (Enters.func rfl rfl rfl (run_enter Tryz.func14 (by kernel_rfl) rfl)) rfl rfl rfl (free_any w.heap.size gd D _ dk) ?_
    rintro e w6 ⟨rfl, hb6⟩
    refine ⟨_, rfl, ?_⟩
    replace lf := lf.step hb6
    replace gv := gv.step hb6
    replace dk := dk.step hb6
    replace k6 := k6.step hb6
    replace own := own.step hb6
    refine Seq.val (Runs.assign rfl rfl) rfl rfl rfl ?_
    refine Seq.nil ?_
    refine Post.weak (F' := [(0, _), (5, _), (6, _), (9, _), (10, _), (11, _), (46, _)]) ⟨rfl, rfl, rfl, rfl, rfl, rfl, rfl, trivial⟩ ?_
    refine Post.then_ ?_
    refine Cd.seq ?_
    refine Cd.region ?_
    refine Seq.val (Runs.move rfl rfl) rfl rfl rfl ?_
    refine Seq.val (Runs.move rfl rfl) rfl rfl rfl ?_
    refine Seq.val (Runs.move rfl rfl) rfl rfl rfl ?_
    refine Seq.val (Runs.index1 rfl rfl rfl Tryz.underlying22 (by kernel_rfl) (j := i) rfl (by omega)) rfl rfl rfl ?_
    refine Seq.val (Runs.load1 rfl rfl Tryz.underlying9 rfl (hcd _ lf)) rfl rfl rfl ?_
    refine Seq.call (Enters.func rfl rfl rfl (run_enter Tryz.func15 (by kernel_rfl) rfl)) rfl rfl rfl (append_w_any w.heap.size g6 gd D [119] s W _ gv hgw e6 k6 dk (byt_one (by omega)) (by decide) (by omega) (by omega) (by omega) hsb (by omega)) ?_
    clear k6 dk
    rintro e w3 ⟨rfl, k6, dk, fw3⟩
    refine ⟨_, rfl, ?_⟩
    replace lf := lf.lf fw3
    replace gv := gv.lf fw3
    replace own := own.lf fw3
    by_cases hfit : (s.length : Int) + 36 ≤ D.room - D.used
    · obtain ⟨D', segs', hA, hW', hrec', hro', hu', hfl'⟩ := hW.append (by decide) hsb (by omega) (by omega) (by omega) (by omega) (by omega) hfit
      rw [hA] at k6 dk
      rw [hA]
      have hfit2 : decide (36 + (s.length : Int) ≤ D.room - D.used) = true := decide_eq_true (by omega)
      refine Seq.val (Runs.assign rfl rfl) rfl rfl rfl ?_
      refine Seq.nil ?_
      refine Post.weak (F' := [(0, _), (5, _), (6, _), (9, _), (10, _), (11, _), (12, _), (46, _)]) ⟨rfl, rfl, rfl, rfl, rfl, rfl, rfl, rfl, trivial⟩ ?_
      refine Post.then_ ?_
      refine Cd.seq ?_
      refine Cd.region ?_
      refine Seq.val (Runs.move rfl rfl) rfl rfl rfl ?_
      refine Seq.val (Runs.move rfl rfl) rfl rfl rfl ?_
      refine Seq.val (Runs.index1 rfl rfl rfl Tryz.underlying22 (by kernel_rfl) (j := i) rfl (by omega)) rfl rfl rfl ?_
      refine Seq.val (Runs.load1 rfl rfl Tryz.underlying9 rfl (hcd _ lf)) rfl rfl rfl ?_
      refine Seq.val (Runs.lenL rfl rfl Tryz.underlying9) rfl rfl rfl ?_
      refine Seq.val (Runs.addI rfl rfl rfl (by omega) (by omega)) rfl rfl rfl ?_
      refine Seq.val (Runs.move rfl rfl) rfl rfl rfl ?_
      refine Seq.val (Runs.leq rfl rfl rfl) rfl rfl rfl ?_
      refine Seq.val (Runs.assign rfl rfl) rfl rfl rfl ?_
      refine Seq.nil ?_
      refine Post.weak (F' := [(0, _), (5, _), (6, _), (9, _), (10, _), (11, _), (12, _), (13, _), (46, _)]) ⟨rfl, rfl, rfl, rfl, rfl, rfl, rfl, rfl, rfl, trivial⟩ ?_
      refine Post.then_ ?_
      refine Cd.seq ?_
      refine Cd.seq ?_
      refine Cd.region ?_
      refine Seq.val (Runs.move rfl rfl) rfl rfl rfl ?_
      refine Seq.val (Runs.move rfl rfl) rfl rfl rfl ?_
      refine Seq.val (Runs.eqlI rfl rfl rfl) rfl rfl rfl ?_
      refine Seq.val (Runs.neqB rfl rfl rfl Tryz.underlying4) rfl rfl rfl ?_
      refine Seq.val (Runs.move rfl rfl) rfl rfl rfl ?_
      refine SeqC.start ?_
      refine SeqC.open rfl rfl rfl rfl rfl rfl rfl (fun hcx => Runs.move rfl rfl) ?_
      refine SeqC.next rfl rfl rfl rfl rfl rfl rfl (fun hcx => Runs.not rfl rfl) ?_
      refine SeqC.next rfl rfl rfl rfl rfl rfl rfl (fun hcx => Runs.move rfl rfl) ?_
      refine SeqC.open rfl rfl rfl rfl rfl rfl rfl (fun hcx => Runs.move rfl rfl) ?_
      refine SeqC.next rfl rfl rfl rfl rfl rfl rfl (fun hcx => Runs.neqI rfl rfl rfl) ?_
      refine SeqC.next rfl rfl rfl rfl rfl rfl rfl (fun hcx => Runs.move rfl rfl) ?_
      refine SeqC.open rfl rfl rfl rfl rfl rfl rfl (fun hcx => Runs.move rfl rfl) ?_
      refine SeqC.nextC rfl rfl rfl rfl rfl rfl rfl (fun hcx => Enters.func rfl rfl rfl (run_enter Tryz.func14 (by kernel_rfl) rfl)) (fun hcx => free_any w.heap.size gd D' _ dk) ?_
      intro w4 hw4
      replace lf := lf.step hw4
      replace gv := gv.step hw4
      replace dk := dk.step hw4
      replace k6 := k6.step hw4
      replace own := own.step hw4
      rw [hfit2]
      refine SeqC.next rfl rfl rfl rfl rfl rfl rfl (fun hcx => Runs.move rfl rfl) ?_
      refine SeqC.next rfl rfl rfl rfl rfl rfl rfl (fun hcx => Runs.neqI rfl rfl rfl) ?_
      refine SeqC.orG rfl rfl rfl rfl rfl rfl rfl rfl rfl rfl rfl ?_
      refine SeqC.andG rfl rfl rfl rfl rfl rfl rfl rfl rfl rfl rfl ?_
      refine SeqC.or rfl rfl rfl rfl rfl rfl rfl ?_
      refine Seq.nil ?_
      refine Post.weak (F' := [(0, _), (5, _), (6, _), (9, _), (10, _), (11, _), (12, _), (13, _), (46, _), (82, _)]) ⟨rfl, rfl, rfl, rfl, rfl, rfl, rfl, rfl, rfl, rfl, trivial⟩ ?_
      refine Post.then_ ?_
      refine Cd.condF rfl rfl ?_
      refine Cd.skip ?_
      refine Post.then_ ?_
      refine Cd.seq ?_
      refine Cd.region ?_
      refine Seq.val (Runs.move rfl rfl) rfl rfl rfl ?_
      refine Seq.nil ?_
      refine Post.weak (F' := [(0, _), (5, _), (6, _), (9, _), (10, _), (11, _), (12, _), (13, _), (46, _), (82, _), (83, _)]) ⟨rfl, rfl, rfl, rfl, rfl, rfl, rfl, rfl, rfl, rfl, rfl, trivial⟩ ?_
      refine Post.then_ ?_
      refine Cd.condT rfl rfl ?_
      refine Cd.region ?_
      refine Seq.val (Runs.move rfl rfl) rfl rfl rfl ?_
      refine Seq.val (Runs.move rfl rfl) rfl rfl rfl ?_
      refine Seq.val (Runs.move rfl rfl) rfl rfl rfl ?_
      refine Seq.val (Runs.index1 rfl rfl rfl Tryz.underlying22 (by kernel_rfl) (j := i) rfl (by omega)) rfl rfl rfl ?_
      refine Seq.val (Runs.load1 rfl rfl Tryz.underlying9 rfl (hcd _ lf)) rfl rfl rfl ?_
      refine Seq.val (Runs.build rfl rfl (run_build_rec1 s _)) rfl rfl rfl ?_
      refine Seq.slice (vs := [_]) (s := 2) rfl rfl rfl Tryz.underlying29 (by kernel_rfl) (zero_wal_Rec) (by omega) (by omega) ⟨rfl, trivial⟩ rfl rfl rfl ?_
      intro g90 w5 n90
      have l90 := Nat.lt_of_lt_of_le k6.lt n90.ge
      replace lf := lf.step n90.below
      replace gv := gv.step n90.below
      replace dk := dk.step n90.below
      replace k6 := k6.step n90.below
      replace own := own.step n90.below
      have k90 := n90.blk
      have hrx := Reads.blk (size := 2) k90 1 rfl
      refine Seq.append rfl rfl rfl Tryz.underlying29 (by kernel_rfl) zero_wal_Rec rfl (by decide) (b := 24) (by kernel_rfl) own hrx (ones_recV (0, s)) lf.size (by simp only [maxLen]; omega) (by omega) rfl rfl rfl ?_
      intro v2 wb own2 ha
      replace dk := dk.app own ha
      replace lf := lf.app own ha (Nat.le_refl _)
      replace k6 := k6.appNe own ha
      replace gv := gv.below ha.below hgw
      replace own2 : Own wb w.heap.size 36 2 v2 ((recsOf segs).length + 1) (recsV (recsOf segs) ++ recsV [(0, s)]) := own2
      have hrec2 : recsOf segs' = recsOf segs ++ [(0, s)] := by rw [hrec', hnum]
      have hrecl : (recsOf segs').length = (recsOf segs).length + 1 := by rw [hrec2]; simp
      rw [← recsV_app, ← hrec2, ← hrecl] at own2
      clear own k90 hrx ha
      refine Seq.val (Runs.assign rfl rfl) rfl rfl rfl ?_
      refine Seq.nil ?_
      refine Post.weak (F' := [(0, _), (5, _), (6, _), (9, _), (10, _), (11, _), (12, _), (13, _), (46, _), (82, _), (83, _)]) ⟨rfl, rfl, rfl, rfl, rfl, rfl, rfl, rfl, rfl, rfl, rfl, trivial⟩ ?_
      refine Post.block_normal ?_
      refine Post.then_ ?_
      refine Cd.region ?_
      refine Seq.val (Runs.move rfl rfl) rfl rfl rfl ?_
      refine Seq.val (Runs.addI rfl rfl rfl (by omega) (by omega)) rfl rfl rfl ?_
      refine Seq.val (Runs.assign rfl rfl) rfl rfl rfl ?_
      refine Seq.nil ?_
      refine Post.weak (F' := [(0, _), (5, _), (6, _), (9, _), (10, _), (11, _), (12, _), (13, _), (46, _), (82, _), (83, _)]) ⟨rfl, rfl, rfl, rfl, rfl, rfl, rfl, rfl, rfl, rfl, rfl, trivial⟩ ?_
      exact Post.round (i + 1, D', ⟨W.num, W.count + 1, W.size + (s.length + 12), false⟩, segs', v2) ⟨rfl, rfl, rfl, rfl, int_at (by omega), trivial⟩ ⟨by simp only; omega, dk, hW', hnum, by simp only; omega, by simp only; omega, by simp only; omega, by simp only; omega, lf, gv, k6, own2⟩ (by simp only; omega)
    · have hA := appW_full (D := D) (nm := [119]) (data := s) (W := W) hW.broken (by omega) (by omega) hfit
      rw [hA] at k6 dk
      rw [hA]
      have hfit2 : decide (36 + (s.length : Int) ≤ D.room - D.used) = false := decide_eq_false (by omega)
      refine Seq.val (Runs.assign rfl rfl) rfl rfl rfl ?_
      refine Seq.nil ?_
      refine Post.weak (F' := [(0, _), (5, _), (6, _), (9, _), (10, _), (11, _), (12, _), (46, _)]) ⟨rfl, rfl, rfl, rfl, rfl, rfl, rfl, rfl, trivial⟩ ?_
      refine Post.then_ ?_
      refine Cd.seq ?_
      refine Cd.region ?_
      refine Seq.val (Runs.move rfl rfl) rfl rfl rfl ?_
      refine Seq.val (Runs.move rfl rfl) rfl rfl rfl ?_
      refine Seq.val (Runs.index1 rfl rfl rfl Tryz.underlying22 (by kernel_rfl) (j := i) rfl (by omega)) rfl rfl rfl ?_
      refine Seq.val (Runs.load1 rfl rfl Tryz.underlying9 rfl (hcd _ lf)) rfl rfl rfl ?_
      refine Seq.val (Runs.lenL rfl rfl Tryz.underlying9) rfl rfl rfl ?_
      refine Seq.val (Runs.addI rfl rfl rfl (by omega) (by omega)) rfl rfl rfl ?_
      refine Seq.val (Runs.move rfl rfl) rfl rfl rfl ?_
      refine Seq.val (Runs.leq rfl rfl rfl) rfl rfl rfl ?_
      refine Seq.val (Runs.assign rfl rfl) rfl rfl rfl ?_
      refine Seq.nil ?_
      refine Post.weak (F' := [(0, _), (5, _), (6, _), (9, _), (10, _), (11, _), (12, _), (13, _), (46, _)]) ⟨rfl, rfl, rfl, rfl, rfl, rfl, rfl, rfl, rfl, trivial⟩ ?_
      refine Post.then_ ?_
      refine Cd.seq ?_
      refine Cd.seq ?_
      refine Cd.region ?_
      refine Seq.val (Runs.move rfl rfl) rfl rfl rfl ?_
      refine Seq.val (Runs.move rfl rfl) rfl rfl rfl ?_
      refine Seq.val (Runs.eqlI rfl rfl rfl) rfl rfl rfl ?_
      refine Seq.val (Runs.neqB rfl rfl rfl Tryz.underlying4) rfl rfl rfl ?_
      refine Seq.val (Runs.move rfl rfl) rfl rfl rfl ?_
      refine SeqC.start ?_
      refine SeqC.open rfl rfl rfl rfl rfl rfl rfl (fun hcx => Runs.move rfl rfl) ?_
      refine SeqC.next rfl rfl rfl rfl rfl rfl rfl (fun hcx => Runs.not rfl rfl) ?_
      refine SeqC.next rfl rfl rfl rfl rfl rfl rfl (fun hcx => Runs.move rfl rfl) ?_
      refine SeqC.open rfl rfl rfl rfl rfl rfl rfl (fun hcx => Runs.move rfl rfl) ?_
      refine SeqC.next rfl rfl rfl rfl rfl rfl rfl (fun hcx => Runs.neqI rfl rfl rfl) ?_
      refine SeqC.next rfl rfl rfl rfl rfl rfl rfl (fun hcx => Runs.move rfl rfl) ?_
      refine SeqC.open rfl rfl rfl rfl rfl rfl rfl (fun hcx => Runs.move rfl rfl) ?_
      refine SeqC.nextC rfl rfl rfl rfl rfl rfl rfl (fun hcx => Enters.func rfl rfl rfl (run_enter Tryz.func14 (by kernel_rfl) rfl)) (fun hcx => free_any w.heap.size gd D _ dk) ?_
      intro w4 hw4
      replace lf := lf.step hw4
      replace gv := gv.step hw4
      replace dk := dk.step hw4
      replace k6 := k6.step hw4
      replace own := own.step hw4
      rw [hfit2]
      refine SeqC.next rfl rfl rfl rfl rfl rfl rfl (fun hcx => Runs.move rfl rfl) ?_
      refine SeqC.next rfl rfl rfl rfl rfl rfl rfl (fun hcx => Runs.neqI rfl rfl rfl) ?_
      refine SeqC.orG rfl rfl rfl rfl rfl rfl rfl rfl rfl rfl rfl ?_
      refine SeqC.andG rfl rfl rfl rfl rfl rfl rfl rfl rfl rfl rfl ?_
      refine SeqC.or rfl rfl rfl rfl rfl rfl rfl ?_
      refine Seq.nil ?_
      refine Post.weak (F' := [(0, _), (5, _), (6, _), (9, _), (10, _), (11, _), (12, _), (13, _), (46, _), (82, _)]) ⟨rfl, rfl, rfl, rfl, rfl, rfl, rfl, rfl, rfl, rfl, trivial⟩ ?_
      refine Post.then_ ?_
      refine Cd.condF rfl (by simp) ?_
      refine Cd.skip ?_
      refine Post.then_ ?_
      refine Cd.seq ?_
      refine Cd.region ?_
      refine Seq.val (Runs.move rfl rfl) rfl rfl rfl ?_
      refine Seq.nil ?_
      refine Post.weak (F' := [(0, _), (5, _), (6, _), (9, _), (10, _), (11, _), (12, _), (13, _), (46, _), (82, _), (83, _)]) ⟨rfl, rfl, rfl, rfl, rfl, rfl, rfl, rfl, rfl, rfl, rfl, trivial⟩ ?_
      refine Post.then_ ?_
      refine Cd.condF rfl rfl ?_
      refine Cd.skip ?_
      refine Post.block_normal ?_
      refine Post.then_ ?_
      refine Cd.region ?_
      refine Seq.val (Runs.move rfl rfl) rfl rfl rfl ?_
      refine Seq.val (Runs.addI rfl rfl rfl (by omega) (by omega)) rfl rfl rfl ?_
      refine Seq.val (Runs.assign rfl rfl) rfl rfl rfl ?_
      refine Seq.nil ?_
      refine Post.weak (F' := [(0, _), (5, _), (6, _), (9, _), (10, _), (11, _), (12, _), (13, _), (46, _), (82, _), (83, _)]) ⟨rfl, rfl, rfl, rfl, rfl, rfl, rfl, rfl, rfl, rfl, rfl, trivial⟩ ?_
      exact Post.round (i + 1, D, W, segs, .slice A9 (recsOf segs).length c9) ⟨rfl, rfl, rfl, rfl, int_at (by omega), trivial⟩ ⟨by simp only; omega, dk, hW, hnum, by simp only; omega, by simp only; omega, by simp only; omega, by simp only; omega, lf, gv, k6, own⟩ (by simp only; omega)
  · have hO := hW.log.opens
    have hbyt := recsOf_byt hW.log
    refine Cd.exit ?_
    refine Post.then_exit ?_
    refine Post.round_exit ?_
    refine Post.block_exit ?_
    refine Post.then_ ?_
    refine Cd.seq ?_
    refine Cd.region ?_
    refine Seq.val (Runs.move rfl rfl) rfl rfl rfl ?_
    refine Seq.call (Enters.func rfl rfl rfl (run_enter Tryz.func13 (by kernel_rfl) rfl)) rfl rfl rfl (open_any w.heap.size gd D [119] _ gv hgw dk hW.log.calm.off right_w (byt_one (by omega)) hW.log.own_nm) ?_
    clear dk
    rintro e w3 ⟨v1, v2, rfl, hO2, dk, fw3⟩
    refine ⟨_, rfl, ?_⟩
    replace lf := lf.df fw3
    replace gv := gv.df fw3
    replace k6 := k6.df fw3
    replace own := own.df fw3
    rw [hO] at hO2 dk
    rw [hO]
    rcases hO2 with ⟨h, -, -⟩ | ⟨-, g14, rfl, -, -, own14⟩
    · exact absurd rfl h
    replace own14 : Own _ _ 36 2 v2 (recsOf segs).length (recsV (recsOf segs)) := own14
    obtain ⟨A14, c14, rfl, hr14⟩ := own14.reads
    obtain ⟨A9', c9', hv9, hr9⟩ := own.reads
    injection hv9 with e1 _ e2
    subst e1 e2
    refine Seq.val (Runs.move rfl rfl) rfl rfl rfl ?_
    refine Seq.val (Runs.extract rfl rfl rfl) rfl rfl rfl ?_
    refine Seq.val (Runs.extract rfl rfl rfl) rfl rfl rfl ?_
    refine Seq.val (Runs.extract rfl rfl rfl) rfl rfl rfl ?_
    refine Seq.val (Runs.assign rfl rfl) rfl rfl rfl ?_
    refine Seq.val (Runs.assign rfl rfl) rfl rfl rfl ?_
    refine Seq.val (Runs.assign rfl rfl) rfl rfl rfl ?_
    refine Seq.nil ?_
    refine Post.weak (F' := [(0, _), (5, _), (6, _), (8, _), (9, _), (10, _), (15, _), (46, _)]) ⟨rfl, rfl, rfl, rfl, rfl, rfl, rfl, rfl, trivial⟩ ?_
    refine Post.then_ ?_
    refine Cd.seq ?_
    refine Cd.region ?_
    refine Seq.val (Runs.move rfl rfl) rfl rfl rfl ?_
    refine Seq.val (Runs.eqlI rfl rfl rfl) rfl rfl rfl ?_
    refine Seq.val (Runs.move rfl rfl) rfl rfl rfl ?_
    refine SeqC.start ?_
    refine SeqC.open rfl rfl rfl rfl rfl rfl rfl (fun hcx => Runs.move rfl rfl) ?_
    refine SeqC.next rfl rfl rfl rfl rfl rfl rfl (fun hcx => Runs.move rfl rfl) ?_
    refine SeqC.nextC rfl rfl rfl rfl rfl rfl rfl (fun hcx => Enters.func rfl rfl rfl (run_enter Tryz.func16 (by kernel_rfl) rfl)) (fun hcx => same_any A14 A9 _ c14 _ c9 _ (recsOf segs) (recsOf segs) _ hr14 hr9 (Nat.le_refl _) hbyt hbyt (by omega) (by omega)) ?_
    intro w4 hw4
    replace lf := lf.step hw4
    replace gv := gv.step hw4
    replace dk := dk.step hw4
    replace k6 := k6.step hw4
    replace own := own.step hw4
    refine SeqC.and rfl rfl rfl rfl rfl rfl rfl ?_
    refine Seq.val (Runs.assign rfl rfl) rfl rfl rfl ?_
    refine Seq.nil ?_
    refine Post.weak (F' := [(0, _), (4, _), (5, _), (6, _), (8, _), (9, _), (10, _), (15, _), (46, _)]) ⟨rfl, rfl, rfl, rfl, rfl, rfl, rfl, rfl, rfl, trivial⟩ ?_
    refine Post.then_ ?_
    refine Cd.ret ?_
    refine Post.end1 rfl rfl (.inl rfl) ?_
    exact ⟨by simp, lf.to (Nat.le_refl _)⟩
end Go.Proofs.YtnlepoplncjliaaGreatDoor

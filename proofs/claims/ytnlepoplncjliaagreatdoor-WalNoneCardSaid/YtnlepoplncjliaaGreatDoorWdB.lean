/-
  The law of wal: awake. Condition: the tables stand as they are laid.
-/
import Derived.Test.YtnlepoplncjliaaGreatDoorWdA
namespace Go.Proofs.YtnlepoplncjliaaGreatDoor
open Go.RowKit

theorem WlIs.rotated {D : Dk} {nm : List Nat} {W : Wl} {segs : List (Nat × List (List Nat))} (h : WlIs D nm W segs) : WlIs D nm W.rotate segs := by
  unfold Wl.rotate
  split
  · rename_i hc
    refine ⟨h.log, h.broken, .inl ⟨rfl, rfl, fun s hs => ?_⟩⟩
    show s.1 < W.num + 1
    rcases h.at_ with ⟨h1, -, -⟩ | ⟨ini, l, h1, h2, h3⟩
    · omega
    · rw [h1] at hs
      rcases List.mem_append.1 hs with hs | hs
      · have := h.log.inc
        rw [h1, List.map_append, List.pairwise_append] at this
        have := this.2.2 s.1 (List.mem_map.2 ⟨s, hs, rfl⟩) W.num (by simp)
        omega
      · simp at hs; subst hs; omega
  · exact h
theorem byt_one {c : Nat} (h : c < 256) : Byt [c] := by intro d hd; simp at hd; omega
theorem right_w : rightN [119] = true := by decide
theorem run_build_rec1 (s : List Nat) (w : World) : (Instr.build 36 #[(1, .string (strOf s))]).run Tryz.prog w = .ok (.agg #[.int .i64 0, .string (strOf s)]) w := by
  have hu := Tryz.underlying36
  go_simp
set_option maxHeartbeats 4000000 in
theorem awake_any (w : World) (gv : Gv w) : Calls Tryz.prog 11 #[] w fun e w' => e = .returned (.bool true) ∧ Grow w w' := by
  have lf := Lf.refl w.heap.size w
  have hgw := tab_lt gv.pow
  have hL0 : LogIs (Dk.new 1000) [119] [] := LogIs.nil
  have hO0 := hL0.opens
  have hnext : nextN 0 [] = 0 := rfl
  have hrec0 : recsOf [] = [] := rfl
  rw [hnext, hrec0] at hO0
  obtain ⟨D1, s1, hA1, hW1, hr1, hro1, hu1, hf1⟩ := WlIs.append (WlIs.opened hL0) (data := [97]) (by decide) (byt_one (by omega)) (by decide) (by decide) (by decide) (by decide) (by decide) (by decide)
  rw [hnext] at hA1 hW1 hr1
  rw [hrec0] at hr1
  have hW2 := hW1.rotated
  have hrot : (Wl.mk 0 (0 + 1) (0 + ([97].length + 12)) false).rotate = ⟨1, 0, 0, false⟩ := rfl
  rw [hrot] at hW2
  have hu0 : (Dk.new 1000).used = 0 := rfl
  have hro0 : (Dk.new 1000).room = 1000 := rfl
  have hf0 : (Dk.new 1000).files.length = 0 := rfl
  rw [hu0] at hu1
  rw [hro0] at hro1
  rw [hf0] at hf1
  obtain ⟨D2, s2, hA2, hW3, hr2, -, -, -⟩ := WlIs.append hW2 (data := [98]) (by decide) (byt_one (by omega)) (by decide) (by decide) (by decide) (by decide) (by omega) (by rw [hro1, hu1]; decide)
  rw [hr1] at hr2
  have hO2 := hW3.log.opens
  rw [hr2] at hO2
  generalize nextN 0 s2 = nx at hO2
  replace hA1 : appW ⟨0, 0, 0, false⟩ (Dk.new 1000) [119] [97] = (⟨0, 1, 13, false⟩, D1, 0) := hA1
  replace hA2 : appW ⟨1, 0, 0, false⟩ D1 [119] [98] = (⟨1, 1, 13, false⟩, D2, 0) := hA2
  replace hO2 : openW D2 [119] = (D2, 0, [(0, [97]), (1, [98])], nx) := hO2
  have hown2 := hW3.log.own_nm
  have hoff2 := hW3.log.calm.off
  clear hW1 hW2 hW3 hr1 hr2 hro1 hu1 hf1 hrot hu0 hro0 hf0 hnext hrec0
  refine Calls.start 69 Tryz.func11 rfl rfl rfl ?_
  refine Cd.seq ?_
  refine Cd.region ?_
  refine Seq.val (Runs.assign rfl rfl) rfl rfl rfl ?_
  refine Seq.nil ?_
  refine Post.weak (F' := [(0, _)]) ⟨rfl, trivial⟩ ?_
  refine Post.then_ ?_
  refine Cd.seq ?_
  refine Cd.region ?_
  refine Seq.call (Enters.func rfl rfl rfl (run_enter Tryz.func12 (by kernel_rfl) rfl)) rfl rfl rfl (new_any 1000 _ (by omega) (by omega)) ?_
  rintro e w5 ⟨gd, rfl, dk, hb5⟩
  refine ⟨_, rfl, ?_⟩
  replace lf := lf.step hb5
  replace gv := gv.step hb5
  refine Seq.val (Runs.assign rfl rfl) rfl rfl rfl ?_
  refine Seq.nil ?_
  refine Post.weak (F' := [(0, _), (1, _)]) ⟨rfl, rfl, trivial⟩ ?_
  refine Post.then_ ?_
  refine Cd.seq ?_
  refine Cd.region ?_
  refine Seq.val (Runs.move rfl rfl) rfl rfl rfl ?_
  refine Seq.call (Enters.func rfl rfl rfl (run_enter Tryz.func13 (by kernel_rfl) rfl)) rfl rfl rfl (open_any w.heap.size gd (Dk.new 1000) [119] _ gv hgw dk rfl right_w (byt_one (by omega)) hL0.own_nm) ?_
  clear dk
  rintro e w1 ⟨v1, v2, rfl, hO, dk, fw1⟩
  refine ⟨_, rfl, ?_⟩
  replace lf := lf.df fw1
  replace gv := gv.df fw1
  rw [hO0] at hO dk
  rw [hO0]
  rcases hO with ⟨h, -, -⟩ | ⟨-, g6, rfl, hg6, k6, own6⟩
  · exact absurd rfl h
  obtain ⟨A, c, rfl, -⟩ := own6.reads
  clear own6
  have e6 : w.heap.size ≤ g6 := Nat.le_trans hb5.size hg6
  replace k6 : Blk _ g6 80 (Wl.cs ⟨0, 0, 0, false⟩ gd [119]) := k6
  refine Seq.val (Runs.move rfl rfl) rfl rfl rfl ?_
  refine Seq.val (Runs.extract rfl rfl rfl) rfl rfl rfl ?_
  refine Seq.val (Runs.extract rfl rfl rfl) rfl rfl rfl ?_
  refine Seq.val (Runs.extract rfl rfl rfl) rfl rfl rfl ?_
  refine Seq.val (Runs.assign rfl rfl) rfl rfl rfl ?_
  refine Seq.val (Runs.assign rfl rfl) rfl rfl rfl ?_
  refine Seq.val (Runs.assign rfl rfl) rfl rfl rfl ?_
  refine Seq.nil ?_
  refine Post.weak (F' := [(0, _), (1, _), (2, _), (3, _), (4, _)]) ⟨rfl, rfl, rfl, rfl, rfl, trivial⟩ ?_
  refine Post.then_ ?_
  refine Cd.seq ?_
  refine Cd.seq ?_
  refine Cd.region ?_
  refine Seq.val (Runs.move rfl rfl) rfl rfl rfl ?_
  refine Seq.val (Runs.eqlP rfl rfl rfl Tryz.underlying26) rfl rfl rfl ?_
  refine Seq.val (Runs.move rfl rfl) rfl rfl rfl ?_
  refine Seq.valG (Runs.move rfl rfl) rfl rfl rfl rfl rfl ?_
  refine Seq.valG (Runs.eqlP rfl rfl rfl Tryz.underlying28) rfl rfl rfl rfl rfl ?_
  refine Seq.val (Runs.pickF rfl rfl rfl) rfl rfl rfl ?_
  refine Seq.val (Runs.move rfl rfl) rfl rfl rfl ?_
  refine Seq.valG (Runs.move rfl rfl) rfl rfl rfl rfl rfl ?_
  refine Seq.valG (Runs.neqI rfl rfl rfl) rfl rfl rfl rfl rfl ?_
  refine Seq.val (Runs.pickF rfl rfl rfl) rfl rfl rfl ?_
  refine Seq.val (Runs.move rfl rfl) rfl rfl rfl ?_
  refine Seq.valG (Runs.move rfl rfl) rfl rfl rfl rfl rfl ?_
  refine Seq.valG (Runs.len rfl rfl Tryz.underlying29) rfl rfl rfl rfl rfl ?_
  refine Seq.valG (Runs.neqI rfl rfl rfl) rfl rfl rfl rfl rfl ?_
  refine Seq.val (Runs.pickF rfl rfl rfl) rfl rfl rfl ?_
  refine Seq.val (Runs.move rfl rfl) rfl rfl rfl ?_
  refine Seq.valG (Runs.move rfl rfl) rfl rfl rfl rfl rfl ?_
  refine Seq.callG (Enters.func rfl rfl rfl (run_enter Tryz.func15 (by kernel_rfl) rfl)) rfl rfl rfl rfl rfl (append_w_any w.heap.size g6 gd (Dk.new 1000) [119] [97] ⟨0, 0, 0, false⟩ _ gv hgw e6 k6 dk (byt_one (by omega)) (by decide) (by decide) (by decide) (by decide) (byt_one (by omega)) (by decide)) ?_
  clear k6 dk
  rw [hA1]
  rintro e w7 ⟨rfl, k6, dk, f7⟩
  refine ⟨_, rfl, ?_⟩
  replace lf := lf.lf f7
  replace gv := gv.lf f7
  clear f7
  refine Seq.valG (Runs.neqI rfl rfl rfl) rfl rfl rfl rfl rfl ?_
  refine Seq.val (Runs.pickF rfl rfl rfl) rfl rfl rfl ?_
  refine Seq.val (Runs.move rfl rfl) rfl rfl rfl ?_
  refine Seq.valG (Runs.move rfl rfl) rfl rfl rfl rfl rfl ?_
  refine Seq.callG (Enters.func rfl rfl rfl (run_enter Tryz.func29 (by kernel_rfl) rfl)) rfl rfl rfl rfl rfl (rotate_any w.heap.size g6 gd D1 [119] ⟨0, 1, 13, false⟩ _ e6 lf.size k6 dk (by decide)) ?_
  clear k6 dk
  rintro e w8 ⟨rfl, k6, dk, f8⟩
  refine ⟨_, rfl, ?_⟩
  replace lf := lf.lf f8
  replace gv := gv.lf f8
  clear f8
  replace k6 : Blk _ g6 80 (Wl.cs ⟨1, 0, 0, false⟩ gd [119]) := k6
  refine Seq.valG (Runs.neqI rfl rfl rfl) rfl rfl rfl rfl rfl ?_
  refine Seq.val (Runs.pickF rfl rfl rfl) rfl rfl rfl ?_
  refine Seq.val (Runs.move rfl rfl) rfl rfl rfl ?_
  refine Seq.valG (Runs.move rfl rfl) rfl rfl rfl rfl rfl ?_
  refine Seq.callG (Enters.func rfl rfl rfl (run_enter Tryz.func15 (by kernel_rfl) rfl)) rfl rfl rfl rfl rfl (append_w_any w.heap.size g6 gd D1 [119] [98] ⟨1, 0, 0, false⟩ _ gv hgw e6 k6 dk (byt_one (by omega)) (by decide) (by decide) (by decide) (by decide) (byt_one (by omega)) (by decide)) ?_
  clear k6 dk
  rw [hA2]
  rintro e w9 ⟨rfl, k6, dk, f9⟩
  refine ⟨_, rfl, ?_⟩
  replace lf := lf.lf f9
  replace gv := gv.lf f9
  clear f9
  refine Seq.valG (Runs.neqI rfl rfl rfl) rfl rfl rfl rfl rfl ?_
  refine Seq.val (Runs.pickF rfl rfl rfl) rfl rfl rfl ?_
  refine Seq.nil ?_
  refine Post.weak (F' := [(0, _), (1, _), (2, _), (3, _), (4, _), (41, _)]) ⟨rfl, rfl, rfl, rfl, rfl, rfl, trivial⟩ ?_
  refine Post.then_ ?_
  refine Cd.condF rfl rfl ?_
  replace dk : DkAt w9 w.heap.size gd D2 := dk
  replace k6 : Blk w9 g6 80 (Wl.cs ⟨1, 1, 13, false⟩ gd [119]) := k6
  refine Cd.skip ?_
  refine Post.then_ ?_
  refine Cd.seq ?_
  refine Cd.region ?_
  refine Seq.val (Runs.move rfl rfl) rfl rfl rfl ?_
  refine Seq.call (Enters.func rfl rfl rfl (run_enter Tryz.func13 (by kernel_rfl) rfl)) rfl rfl rfl (open_any w.heap.size gd D2 [119] _ gv hgw dk hoff2 right_w (byt_one (by omega)) hown2) ?_
  clear dk
  rintro e w2 ⟨v1, v2, rfl, hO, dk, fw2⟩
  refine ⟨_, rfl, ?_⟩
  replace lf := lf.df fw2
  replace gv := gv.df fw2
  replace k6 := k6.df fw2
  rw [hO2] at hO dk
  rw [hO2]
  rcases hO with ⟨h, -, -⟩ | ⟨-, g16, rfl, -, -, own⟩
  · exact absurd rfl h
  obtain ⟨g3, cap, cur, rfl, -, k3, hcur⟩ := own.form (show 0 < 2 by decide)
  have hc0 : ∀ (j : Nat) (v : Value), (recV (0, [97]))[j]? = some v → cur[2 * 0 + j]? = some v := fun j v hj => hcur _ _ (by have := recsV_at (l := [(0, [97]), (1, [98])]) (i := 0) rfl j v hj; simpa using this)
  have hc1 : ∀ (j : Nat) (v : Value), (recV (1, [98]))[j]? = some v → cur[2 * 1 + j]? = some v := fun j v hj => hcur _ _ (by have := recsV_at (l := [(0, [97]), (1, [98])]) (i := 1) rfl j v hj; simpa using this)
  have heq0 := run_eql_rec (0, [97]) (0, [97])
  have heq1 := run_eql_rec (1, [98]) (1, [98])
  rw [same_rec (byt_one (by omega)) (byt_one (by omega)), decide_eq_true rfl] at heq0 heq1
  refine Seq.val (Runs.move rfl rfl) rfl rfl rfl ?_
  refine Seq.val (Runs.extract rfl rfl rfl) rfl rfl rfl ?_
  refine Seq.val (Runs.extract rfl rfl rfl) rfl rfl rfl ?_
  refine Seq.val (Runs.extract rfl rfl rfl) rfl rfl rfl ?_
  refine Seq.val (Runs.assign rfl rfl) rfl rfl rfl ?_
  refine Seq.val (Runs.assign rfl rfl) rfl rfl rfl ?_
  refine Seq.nil ?_
  refine Post.weak (F' := [(0, _), (1, _), (2, _), (3, _), (4, _), (41, _)]) ⟨rfl, rfl, rfl, rfl, rfl, rfl, trivial⟩ ?_
  refine Post.then_ ?_
  refine Cd.seq ?_
  refine Cd.region ?_
  refine Seq.val (Runs.move rfl rfl) rfl rfl rfl ?_
  refine Seq.val (Runs.eqlI rfl rfl rfl) rfl rfl rfl ?_
  refine Seq.val (Runs.move rfl rfl) rfl rfl rfl ?_
  refine Seq.valG (Runs.move rfl rfl) rfl rfl rfl rfl rfl ?_
  refine Seq.valG (Runs.len rfl rfl Tryz.underlying29) rfl rfl rfl rfl rfl ?_
  refine Seq.valG (Runs.eqlI rfl rfl rfl) rfl rfl rfl rfl rfl ?_
  refine Seq.val (Runs.pickT rfl rfl rfl) rfl rfl rfl ?_
  refine Seq.val (Runs.move rfl rfl) rfl rfl rfl ?_
  refine Seq.valG (Runs.move rfl rfl) rfl rfl rfl rfl rfl ?_
  refine Seq.valG (Runs.indexBN rfl rfl rfl Tryz.underlying29 (s := 2) (by kernel_rfl) (j := 0) rfl (show 0 < 2 by decide)) rfl rfl rfl rfl rfl ?_
  refine Seq.valG (Runs.loadP rfl rfl Tryz.underlying36 rfl k3 (m := 2) (ps := recV (0, [97])) (by kernel_rfl) rfl hc0) rfl rfl rfl rfl rfl ?_
  refine Seq.valG (Runs.build rfl rfl (run_build_rec1 [97] _)) rfl rfl rfl rfl rfl ?_
  refine Seq.valG (Runs.bin rfl rfl rfl (guard_rec _ _ _ _ _ _) (heq0 _)) rfl rfl rfl rfl rfl ?_
  refine Seq.val (Runs.pickT rfl rfl rfl) rfl rfl rfl ?_
  refine Seq.val (Runs.move rfl rfl) rfl rfl rfl ?_
  refine Seq.valG (Runs.move rfl rfl) rfl rfl rfl rfl rfl ?_
  refine Seq.valG (Runs.indexBN rfl rfl rfl Tryz.underlying29 (s := 2) (by kernel_rfl) (j := 1) rfl (show 1 < 2 by decide)) rfl rfl rfl rfl rfl ?_
  refine Seq.valG (Runs.loadP rfl rfl Tryz.underlying36 rfl k3 (m := 2) (ps := recV (1, [98])) (by kernel_rfl) rfl hc1) rfl rfl rfl rfl rfl ?_
  refine Seq.valG (Runs.build rfl rfl (run_build_rec 1 [98] _)) rfl rfl rfl rfl rfl ?_
  refine Seq.valG (Runs.bin rfl rfl rfl (guard_rec _ _ _ _ _ _) (heq1 _)) rfl rfl rfl rfl rfl ?_
  refine Seq.val (Runs.pickT rfl rfl rfl) rfl rfl rfl ?_
  refine Seq.val (Runs.assign rfl rfl) rfl rfl rfl ?_
  refine Seq.nil ?_
  refine Post.weak (F' := [(0, _), (1, _), (2, _), (3, _), (4, _), (41, _)]) ⟨rfl, rfl, rfl, rfl, rfl, rfl, trivial⟩ ?_
  refine Post.then_ ?_
  refine Cd.ret ?_
  refine Post.end1 rfl rfl (.inl rfl) ?_
  exact ⟨rfl, lf.to (Nat.le_refl _)⟩
end Go.Proofs.YtnlepoplncjliaaGreatDoor

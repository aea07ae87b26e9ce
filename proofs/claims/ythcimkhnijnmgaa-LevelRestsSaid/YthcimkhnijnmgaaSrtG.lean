/-
  Files sorted: slices.SortStableFunc. Condition: at most 39 files.
-/
import Derived.Test.YthcimkhnijnmgaaSrtF
namespace Go.Proofs.Ythcimkhnijnmgaa
open Go.RowKit

set_option maxHeartbeats 2000000 in
theorem stableF_any (g cap n : Nat) (d : List Fl) (pad : List Value) (w : World) (hN : n = d.length) (h1 : n ≤ 39) (k0 : Blk w g 37 (fcs (d) ++ pad).toArray) :
    Calls Try.prog 41 #[.slice (some ⟨g, 0, none⟩) n cap, .int .i64 (n : Int), .func (.func 26) #[] #[]] w fun e w' => ∃ M, e = .returned (.tuple #[]) ∧ M.Perm d ∧ M.Pairwise leF ∧ Blk w' g 37 (fcs (M) ++ pad).toArray ∧ Onl w w' g := by
  have only := Onl.refl w g
  refine Calls.start 63 Try.func41 rfl rfl rfl ?_
  refine Cd.seq ?_
  refine Cd.region ?_
  refine Seq.val (Runs.assign rfl rfl) rfl rfl rfl ?_
  refine Seq.nil ?_
  refine Post.weak (F' := [(0, _), (1, _), (2, _), (6, _)]) ⟨rfl, rfl, rfl, rfl, trivial⟩ ?_
  refine Post.then_ ?_
  refine Cd.seq ?_
  refine Cd.region ?_
  refine Seq.val (Runs.move rfl rfl) rfl rfl rfl ?_
  refine Seq.val (Runs.assign rfl rfl) rfl rfl rfl ?_
  refine Seq.val (Runs.assign rfl rfl) rfl rfl rfl ?_
  refine Seq.nil ?_
  refine Post.weak (F' := [(0, _), (1, _), (2, _), (6, _), (7, _), (8, _)]) ⟨rfl, rfl, rfl, rfl, rfl, rfl, trivial⟩ ?_
  refine Post.then_ ?_
  refine Cd.seq ?_
  refine Cd.block ?_
  refine Cd.loop (σ := Nat × List Fl) (fun s => [(0, .slice (some ⟨g, 0, none⟩) n cap), (1, .int .i64 (n : Int)), (2, .func (.func 26) #[] #[]), (6, .int .i64 20), (7, .int .i64 ((20 * s.1 : Nat) : Int)), (8, .int .i64 ((20 + 20 * s.1 : Nat) : Int))])
    (fun s wr => (s.1 = 0 ∧ s.2 = [] ∨ s.1 = 1 ∧ 20 ≤ n ∧ s.2.Perm (d.take 20) ∧ s.2.Pairwise leF) ∧ Blk wr g 37 (fcs (s.2 ++ d.drop (20 * s.1)) ++ pad).toArray ∧ Onl w wr g) (fun s => 1 - s.1) (0, []) ⟨.inl ⟨rfl, rfl⟩, by simpa using k0, only⟩ ⟨rfl, rfl, rfl, rfl, rfl, rfl, trivial⟩ ?_
  clear k0 only
  rintro ⟨t, M0⟩ wr ⟨ht, k0, only⟩
  simp only at ht k0
  show Cd _ _ _ _ [(0, .slice (some ⟨g, 0, none⟩) n cap), (1, .int .i64 (n : Int)), (2, .func (.func 26) #[] #[]), (6, .int .i64 20), (7, .int .i64 ((20 * t : Nat) : Int)), (8, .int .i64 ((20 + 20 * t : Nat) : Int))] _
  refine Cd.seq ?_
  refine Cd.seq ?_
  refine Cd.region ?_
  refine Seq.val (Runs.move rfl rfl) rfl rfl rfl ?_
  refine Seq.val (Runs.move rfl rfl) rfl rfl rfl ?_
  refine Seq.val (Runs.leq rfl rfl rfl) rfl rfl rfl ?_
  refine Seq.nil ?_
  refine Post.weak (F' := [(0, _), (1, _), (2, _), (6, _), (7, _), (8, _), (13, _)]) ⟨rfl, rfl, rfl, rfl, rfl, rfl, rfl, trivial⟩ ?_
  refine Post.then_ ?_
  refine Cd.condD rfl (fun hc => ?_) (fun hc => ?_)
  · have ht0 : t = 0 ∧ M0 = [] := by
      rcases ht with h | h
      · exact h
      · omega
    obtain ⟨rfl, rfl⟩ := ht0
    have k0' : Blk wr g 37 (fcs ([] ++ (d.take 20 ++ d.drop 20)) ++ pad).toArray := by simpa using k0
    clear k0
    have k0 := k0'
    clear k0'
    have hl20 : (d.take 20).length = 20 := by rw [List.length_take]; omega
    refine Cd.skip ?_
    refine Post.then_ ?_
    refine Cd.block ?_
    refine Cd.seq ?_
    refine Cd.region ?_
    refine Seq.val (Runs.move rfl rfl) rfl rfl rfl ?_
    refine Seq.val (Runs.move rfl rfl) rfl rfl rfl ?_
    refine Seq.val (Runs.move rfl rfl) rfl rfl rfl ?_
    refine Seq.val (Runs.move rfl rfl) rfl rfl rfl ?_
    refine Seq.call (Enters.func rfl rfl rfl (run_enter Try.func50 (by kernel_rfl) rfl)) rfl rfl rfl (insert_any g cap 0 20 n [] (d.take 20) (d.drop 20) pad _ (by rw [List.nil_append, List.take_append_drop]; exact hN) (by omega) rfl (by omega) k0) ?_
    rintro en w5 ⟨M, rfl, hp, hw, kz, oz⟩
    refine ⟨_, rfl, ?_⟩
    have only2 := only.trans oz
    clear k0 only
    have only := only2
    have k0 := kz
    clear only2 oz kz
    refine Seq.nil ?_
    refine Post.weak (F' := [(0, _), (1, _), (2, _), (6, _), (7, _), (8, _), (13, _)]) ⟨rfl, rfl, rfl, rfl, rfl, rfl, rfl, trivial⟩ ?_
    refine Post.then_ ?_
    refine Cd.seq ?_
    refine Cd.region ?_
    refine Seq.val (Runs.move rfl rfl) rfl rfl rfl ?_
    refine Seq.val (Runs.assign rfl rfl) rfl rfl rfl ?_
    refine Seq.nil ?_
    refine Post.weak (F' := [(0, _), (1, _), (2, _), (6, _), (7, _), (8, _), (13, _)]) ⟨rfl, rfl, rfl, rfl, rfl, rfl, rfl, trivial⟩ ?_
    refine Post.then_ ?_
    refine Cd.region ?_
    refine Seq.val (Runs.move rfl rfl) rfl rfl rfl ?_
    refine Seq.val (Runs.move rfl rfl) rfl rfl rfl ?_
    refine Seq.val (Runs.addI rfl rfl rfl (by omega) (by omega)) rfl rfl rfl ?_
    refine Seq.val (Runs.assign rfl rfl) rfl rfl rfl ?_
    refine Seq.nil ?_
    refine Post.weak (F' := [(0, _), (1, _), (2, _), (6, _), (7, _), (8, _), (13, _)]) ⟨rfl, rfl, rfl, rfl, rfl, rfl, rfl, trivial⟩ ?_
    refine Post.block_normal ?_
    exact Post.round (1, M) ⟨rfl, rfl, rfl, rfl, rfl, rfl, trivial⟩ ⟨.inr ⟨rfl, by omega, hp, hw⟩, by simpa using k0, only⟩ (by simp only; omega)
  · have htl : M0.length = 20 * t := by
      rcases ht with ⟨rfl, rfl⟩ | ⟨rfl, h, hp, -⟩
      · rfl
      · rw [hp.length_eq, List.length_take]; omega
    have hdl : (d.drop (20 * t)).length = n - 20 * t := by rw [List.length_drop]; omega
    have ht1 : t = 0 ∨ t = 1 := by rcases ht with h | h <;> omega
    have htn : 20 * t ≤ n := by rcases ht with h | h <;> omega
    have k0' : Blk wr g 37 (fcs (M0 ++ (d.drop (20 * t) ++ [])) ++ pad).toArray := by simpa using k0
    clear k0
    have k0 := k0'
    clear k0'
    refine Cd.exit ?_
    refine Post.then_exit ?_
    refine Post.round_exit ?_
    refine Post.block_exit ?_
    refine Post.then_ ?_
    refine Cd.seq ?_
    refine Cd.region ?_
    refine Seq.val (Runs.move rfl rfl) rfl rfl rfl ?_
    refine Seq.val (Runs.move rfl rfl) rfl rfl rfl ?_
    refine Seq.val (Runs.move rfl rfl) rfl rfl rfl ?_
    refine Seq.val (Runs.move rfl rfl) rfl rfl rfl ?_
    refine Seq.call (Enters.func rfl rfl rfl (run_enter Try.func50 (by kernel_rfl) rfl)) rfl rfl rfl (insert_any g cap (20 * t) n n M0 (d.drop (20 * t)) [] pad _ (by simp only [List.length_append, List.length_nil]; omega) (by omega) htl.symm (by omega) k0) ?_
    rintro en w5 ⟨M1, rfl, hp1, hw1, kz, oz⟩
    refine ⟨_, rfl, ?_⟩
    have only2 := only.trans oz
    clear k0 only
    have only := only2
    have k0 : Blk w5 g 37 (fcs (M0 ++ M1) ++ pad).toArray := by simpa using kz
    clear only2 oz kz
    have hM1 : M1.length = n - 20 * t := by rw [hp1.length_eq]; exact hdl
    refine Seq.nil ?_
    refine Post.weak (F' := [(0, _), (1, _), (2, _), (6, _), (7, _), (8, _), (13, _)]) ⟨rfl, rfl, rfl, rfl, rfl, rfl, rfl, trivial⟩ ?_
    refine Post.then_ ?_
    refine Cd.block ?_
    refine Cd.loop (σ := Nat × List Fl) (fun s => [(0, .slice (some ⟨g, 0, none⟩) n cap), (1, .int .i64 (n : Int)), (2, .func (.func 26) #[] #[]), (6, .int .i64 ((20 + 20 * s.1 : Nat) : Int))])
      (fun s wr => (s.1 = 0 ∧ s.2 = M0 ++ M1 ∨ s.1 = 1 ∧ s.2.Perm d ∧ s.2.Pairwise leF) ∧ Blk wr g 37 (fcs (s.2) ++ pad).toArray ∧ Onl w wr g) (fun s => 1 - s.1) (0, M0 ++ M1) ⟨.inl ⟨rfl, rfl⟩, k0, only⟩ ⟨rfl, rfl, rfl, rfl, trivial⟩ ?_
    clear k0 only
    rintro ⟨u, M⟩ wr ⟨hu, k0, only⟩
    simp only at hu k0
    show Cd _ _ _ _ [(0, .slice (some ⟨g, 0, none⟩) n cap), (1, .int .i64 (n : Int)), (2, .func (.func 26) #[] #[]), (6, .int .i64 ((20 + 20 * u : Nat) : Int))] _
    refine Cd.seq ?_
    refine Cd.seq ?_
    refine Cd.region ?_
    refine Seq.val (Runs.move rfl rfl) rfl rfl rfl ?_
    refine Seq.val (Runs.move rfl rfl) rfl rfl rfl ?_
    refine Seq.val (Runs.lss rfl rfl rfl) rfl rfl rfl ?_
    refine Seq.nil ?_
    refine Post.weak (F' := [(0, _), (1, _), (2, _), (6, _), (30, _)]) ⟨rfl, rfl, rfl, rfl, rfl, trivial⟩ ?_
    refine Post.then_ ?_
    refine Cd.condD rfl (fun hc => ?_) (fun hc => ?_)
    · have hu0 : u = 0 ∧ M = M0 ++ M1 := by
        rcases hu with h | h
        · exact h
        · omega
      obtain ⟨rfl, rfl⟩ := hu0
      have ht2 : t = 1 := by
        rcases ht1 with h | h
        · omega
        · exact h
      subst ht2
      obtain ⟨-, h20, hp0, hw0⟩ : 1 = 1 ∧ 20 ≤ n ∧ M0.Perm (d.take 20) ∧ M0.Pairwise leF := by
        rcases ht with ⟨h, -⟩ | h
        · omega
        · exact h
      refine Cd.skip ?_
      refine Post.then_ ?_
      refine Cd.block ?_
      refine Cd.seq ?_
      refine Cd.region ?_
      refine Seq.val (Runs.move rfl rfl) rfl rfl rfl ?_
      refine Seq.val (Runs.mulI rfl rfl rfl (by omega) (by omega)) rfl rfl rfl ?_
      refine Seq.val (Runs.assign rfl rfl) rfl rfl rfl ?_
      refine Seq.val (Runs.assign rfl rfl) rfl rfl rfl ?_
      refine Seq.nil ?_
      refine Post.weak (F' := [(0, _), (1, _), (2, _), (6, _), (7, _), (8, _), (30, _)]) ⟨rfl, rfl, rfl, rfl, rfl, rfl, rfl, trivial⟩ ?_
      refine Post.then_ ?_
      refine Cd.seq ?_
      refine Cd.block ?_
      refine Cd.loop (σ := Unit) (fun _ => [(0, .slice (some ⟨g, 0, none⟩) n cap), (1, .int .i64 (n : Int)), (2, .func (.func 26) #[] #[]), (6, .int .i64 20), (7, .int .i64 0), (8, .int .i64 40)]) (fun _ wr => Blk wr g 37 (fcs (M0 ++ M1) ++ pad).toArray ∧ Onl w wr g) (fun _ => 0) () ⟨k0, only⟩ ⟨rfl, rfl, rfl, rfl, rfl, rfl, trivial⟩ ?_
      clear k0 only
      rintro ⟨⟩ wr ⟨k0, only⟩
      refine Cd.seq ?_
      refine Cd.seq ?_
      refine Cd.region ?_
      refine Seq.val (Runs.move rfl rfl) rfl rfl rfl ?_
      refine Seq.val (Runs.move rfl rfl) rfl rfl rfl ?_
      refine Seq.val (Runs.leq rfl rfl rfl) rfl rfl rfl ?_
      refine Seq.nil ?_
      refine Post.weak (F' := [(0, _), (1, _), (2, _), (6, _), (7, _), (8, _), (35, _)]) ⟨rfl, rfl, rfl, rfl, rfl, rfl, rfl, trivial⟩ ?_
      refine Post.then_ ?_
      refine Cd.condF rfl (decide_eq_false (by omega)) ?_
      refine Cd.exit ?_
      refine Post.then_exit ?_
      refine Post.round_exit ?_
      refine Post.block_exit ?_
      refine Post.then_ ?_
      refine Cd.seq ?_
      refine Cd.seq ?_
      refine Cd.region ?_
      refine Seq.val (Runs.move rfl rfl) rfl rfl rfl ?_
      refine Seq.val (Runs.move rfl rfl) rfl rfl rfl ?_
      refine Seq.val (Runs.addI rfl rfl rfl (by omega) (by omega)) rfl rfl rfl ?_
      refine Seq.val (Runs.assign rfl rfl) rfl rfl rfl ?_
      refine Seq.nil ?_
      refine Post.weak (F' := [(0, _), (1, _), (2, _), (6, _), (7, _), (8, _), (9, _), (35, _)]) ⟨rfl, rfl, rfl, rfl, rfl, rfl, rfl, rfl, trivial⟩ ?_
      refine Post.then_ ?_
      refine Cd.seq ?_
      refine Cd.region ?_
      refine Seq.val (Runs.move rfl rfl) rfl rfl rfl ?_
      refine Seq.val (Runs.move rfl rfl) rfl rfl rfl ?_
      refine Seq.val (Runs.lss rfl rfl rfl) rfl rfl rfl ?_
      refine Seq.nil ?_
      refine Post.weak (F' := [(0, _), (1, _), (2, _), (6, _), (7, _), (8, _), (9, _), (35, _), (54, _)]) ⟨rfl, rfl, rfl, rfl, rfl, rfl, rfl, rfl, rfl, trivial⟩ ?_
      refine Post.then_ ?_
      refine Cd.condT rfl (decide_eq_true (by omega)) ?_
      have k0' : Blk wr g 37 (fcs ([] ++ (M0 ++ (M1 ++ []))) ++ pad).toArray := by simpa using k0
      clear k0
      have k0 := k0'
      clear k0'
      refine Cd.region ?_
      refine Seq.val (Runs.move rfl rfl) rfl rfl rfl ?_
      refine Seq.val (Runs.move rfl rfl) rfl rfl rfl ?_
      refine Seq.val (Runs.move rfl rfl) rfl rfl rfl ?_
      refine Seq.val (Runs.move rfl rfl) rfl rfl rfl ?_
      refine Seq.val (Runs.move rfl rfl) rfl rfl rfl ?_
      refine Seq.call (Enters.func rfl rfl rfl (run_enter Try.func51 (by kernel_rfl) rfl)) rfl rfl rfl (symM_any (M0.length + M1.length) g cap 0 20 n n [] M0 M1 [] pad _ (Nat.le_refl _) (by omega) (by omega) (by simp only [List.length_append, List.length_nil]; omega) (by omega) rfl (by omega) (by omega) hw0 hw1 k0) ?_
      rintro en w6 ⟨M, rfl, hp2, hw2, kz, oz⟩
      refine ⟨_, rfl, ?_⟩
      have only2 := only.trans oz
      clear k0 only
      have only := only2
      have k0 : Blk w6 g 37 (fcs (M) ++ pad).toArray := by simpa using kz
      clear only2 oz kz
      have hpd : M.Perm d := by
        refine hp2.trans ?_
        have := hp0.append hp1
        rwa [show 20 * 1 = 20 from rfl, List.take_append_drop] at this
      refine Seq.nil ?_
      refine Post.weak (F' := [(0, _), (1, _), (2, _), (6, _), (7, _), (8, _), (9, _), (35, _), (54, _)]) ⟨rfl, rfl, rfl, rfl, rfl, rfl, rfl, rfl, rfl, trivial⟩ ?_
      refine Post.then_ ?_
      refine Cd.region ?_
      refine Seq.val (Runs.move rfl rfl) rfl rfl rfl ?_
      refine Seq.val (Runs.mulI rfl rfl rfl (by omega) (by omega)) rfl rfl rfl ?_
      refine Seq.val (Runs.assign rfl rfl) rfl rfl rfl ?_
      refine Seq.nil ?_
      refine Post.weak (F' := [(0, _), (1, _), (2, _), (6, _), (7, _), (8, _), (9, _), (35, _), (54, _)]) ⟨rfl, rfl, rfl, rfl, rfl, rfl, rfl, rfl, rfl, trivial⟩ ?_
      refine Post.block_normal ?_
      exact Post.round (1, M) ⟨rfl, rfl, rfl, rfl, trivial⟩ ⟨.inr ⟨rfl, hpd, hw2⟩, k0, only⟩ (by simp only; omega)
    · skip
      refine Cd.exit ?_
      refine Post.then_exit ?_
      refine Post.round_exit ?_
      refine Post.block_exit ?_
      refine Post.end0 rfl (.inr rfl) ?_
      refine ⟨M, rfl, ?_, ?_, k0, only⟩
      · rcases hu with ⟨rfl, rfl⟩ | ⟨-, h, -⟩
        · rcases ht with ⟨rfl, rfl⟩ | ⟨rfl, h20, hp0, -⟩
          · simpa using hp1
          · have := hp0.append hp1
            rwa [show 20 * 1 = 20 from rfl, List.take_append_drop] at this
        · exact h
      · rcases hu with ⟨rfl, rfl⟩ | ⟨-, -, h⟩
        · rcases ht with ⟨rfl, rfl⟩ | ⟨rfl, h20, -, hw0⟩
          · simpa using hw1
          · have : M1 = [] := List.length_eq_zero_iff.1 (by omega)
            rw [this, List.append_nil]
            exact hw0
        · exact h
theorem sortF_any (g cap n : Nat) (d : List Fl) (pad : List Value) (w : World) (hN : n = d.length) (h1 : n ≤ 39) (k0 : Blk w g 37 (fcs (d) ++ pad).toArray) :
    Calls Try.prog 25 #[.slice (some ⟨g, 0, none⟩) n cap, .func (.func 26) #[] #[]] w fun e w' => ∃ M, e = .returned (.tuple #[]) ∧ M.Perm d ∧ M.Pairwise leF ∧ Blk w' g 37 (fcs (M) ++ pad).toArray ∧ Onl w w' g := by
  refine Calls.start 9 Try.func25 rfl rfl rfl ?_
  refine Cd.region ?_
  refine Seq.val (Runs.move rfl rfl) rfl rfl rfl ?_
  refine Seq.val (Runs.move rfl rfl) rfl rfl rfl ?_
  refine Seq.val (Runs.len rfl rfl Try.underlying27) rfl rfl rfl ?_
  refine Seq.val (Runs.move rfl rfl) rfl rfl rfl ?_
  refine Seq.call (Enters.func rfl rfl rfl (run_enter Try.func41 (by kernel_rfl) rfl)) rfl rfl rfl (stableF_any g cap n d pad _ hN h1 k0) ?_
  rintro en w5 ⟨M, rfl, hp, hw, kz, oz⟩
  refine ⟨_, rfl, ?_⟩
  clear k0
  have k0 := kz
  clear kz
  refine Seq.nil ?_
  refine Post.weak (F' := [(0, _), (1, _)]) ⟨rfl, rfl, trivial⟩ ?_
  refine Post.end0 rfl (.inr rfl) ?_
  exact ⟨M, rfl, hp, hw, k0, oz⟩
end Go.Proofs.Ythcimkhnijnmgaa

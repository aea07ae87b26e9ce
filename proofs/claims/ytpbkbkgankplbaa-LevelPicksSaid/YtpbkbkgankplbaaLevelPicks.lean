/-
  LevelPicks: of any version, by any setting, the most pressing task: the statement returns true. No condition.
-/
import Derived.Test.YtpbkbkgankplbaaPickA
namespace Go.Proofs.Ytpbkbkgankplbaa
open Go.ChangeShapes Go.WideShapes Go.ChangeAt Go.RowKit

theorem zero_level_Task : zeroIs Try.prog 29 = some (some (.agg #[.int .i64 0, .slice none 0 0, .slice none 0 0, .bool false])) := by kernel_rfl

theorem walk_picks (A : Option Addr) (len cap : Nat) (fs : List File) (lg nx sq : Int) (c0 : Cfg) (w : World) (hr : Reads w w.heap.size 6 A len (cellsOf fs)) :
    Calls Try.prog 4 #[.agg #[.int .i64 lg, .int .i64 nx, .int .i64 sq, .slice A len cap], .agg #[.int .i64 c0.zero, .int .i64 c0.base, .int .i64 c0.times, .int .i64 c0.table]] w fun e w' => e = .returned (.bool true) ∧ Below w.heap.size w w' := by
  have hlen := length_of_cells hr
  have bel := Below.refl w.heap.size w
  refine Calls.start 119 Try.func4 rfl rfl rfl ?_
  refine Cd.seq ?_
  refine Cd.region ?_
  refine Seq.box rfl rfl rfl rfl rfl ?_
  intro g2 w1 n2
  have e2 := Nat.le_trans bel.size n2.ge
  replace bel := bel.step n2.below
  have k2 := n2.blk
  refine Seq.box rfl rfl rfl rfl rfl ?_
  intro g3 w2 n3
  have e3 := Nat.le_trans bel.size n3.ge
  have l3 := Nat.lt_of_lt_of_le k2.lt n3.ge
  replace bel := bel.step n3.below
  replace k2 := k2.step n3.below
  have k3 := n3.blk
  refine Seq.val (Runs.assign rfl rfl) rfl rfl rfl ?_
  refine Seq.nil ?_
  refine Post.weak (F' := [(0, _), (1, _), (2, _), (3, _), (4, _)]) ⟨rfl, rfl, rfl, rfl, rfl, trivial⟩ ?_
  refine Post.then_ ?_
  refine Cd.seq ?_
  refine Cd.seq ?_
  refine Cd.region ?_
  refine Seq.val (Runs.loadW rfl rfl Try.underlying24 rfl k2 (m := 4) (by kernel_rfl) rfl) rfl rfl rfl ?_
  refine Seq.call (Enters.func rfl rfl rfl (run_enter Try.func8 (by kernel_rfl) rfl)) rfl rfl rfl (great_any w.heap.size A len cap fs lg nx sq _ (hr.below bel) bel.size) ?_
  rintro e w3 ⟨b, rfl, hb, hb3⟩
  refine ⟨_, rfl, ?_⟩
  replace bel := bel.step hb3
  replace k2 := k2.step hb3
  replace k3 := k3.step hb3
  refine Seq.nil ?_
  refine Post.weak (F' := [(0, _), (1, _), (2, _), (3, _), (4, _), (17, _)]) ⟨rfl, rfl, rfl, rfl, rfl, rfl, trivial⟩ ?_
  refine Post.then_ ?_
  refine Cd.cond rfl (fun hc => ?_) (fun hc => ?_)
  · skip
    refine Cd.seq ?_
    refine Cd.region ?_
    refine Seq.call (Enters.func rfl rfl rfl (run_enter Try.func9 (by kernel_rfl) rfl)) rfl rfl rfl (awake_any _) ?_
    rintro e w4 ⟨rfl, hb4⟩
    refine ⟨_, rfl, ?_⟩
    replace bel := bel.step hb4
    replace k2 := k2.step hb4
    replace k3 := k3.step hb4
    refine Seq.val (Runs.assign rfl rfl) rfl rfl rfl ?_
    refine Seq.nil ?_
    refine Post.weak (F' := [(0, _), (1, _), (2, _), (3, _), (4, _), (17, _)]) ⟨rfl, rfl, rfl, rfl, rfl, rfl, trivial⟩ ?_
    refine Post.then_ ?_
    refine Cd.ret ?_
    refine Post.then_ret ?_
    refine Post.end1 rfl rfl (.inl rfl) ?_
    exact ⟨rfl, bel⟩
  obtain ⟨h30, hR⟩ := hb hc
  have hnum : ∀ f ∈ fs, 0 ≤ f.num ∧ f.num ≤ 4611686018427387904 := fun f hf => by
    have h1 := hR.2.2.2.2.2.2.2.1 f hf
    have h2 := hR.2.2.2.1
    have h3 := h1.1
    have h4 := h1.2.1
    omega
  have hsz : ∀ f ∈ fs, 0 ≤ f.size ∧ f.size ≤ 1048576 := fun f hf => by
    have h1 := hR.2.2.2.2.2.2.2.1 f hf
    have h3 := h1.2.2.2.2.2.2.2.2.2.2.2
    omega
  clear hb hR hc
  refine Cd.skip ?_
  refine Post.then_ ?_
  refine Cd.seq ?_
  refine Cd.draw 8 (by kernel_rfl) [6] (.inr (fun _ _ d _ _ h => by cases d <;> exact h)) rfl Grow Grow.refl (fun _ _ _ => Grow.trans) ?_
  intro w3 hw3 zw3
  replace bel := bel.step hw3
  replace k2 := k2.step hw3
  replace k3 := k3.step hw3
  have zbel := bel.size
  have zlt := k3.lt
  refine Dr.val Grow.refl rfl (fun w hG => Runs.loadW rfl rfl Try.underlying24 rfl (k2.step hG) (m := 4) (by kernel_rfl) rfl) rfl ?_
  refine Dr.call (Φ := VerV lg nx sq len fs) rfl (fun w => Enters.func rfl rfl rfl (run_enter Try.func11 (by kernel_rfl) rfl)) rfl (VerV.stable _ _ _ _ _) (fun w hG => version_V _ A len cap fs lg nx sq _ (by omega) (hr.below (bel.step hG)) (bel.step hG).size) ?_
  refine Dr.val Grow.refl rfl (fun w hG => Runs.loadW rfl rfl Try.underlying39 rfl (k3.step hG) (m := 4) (by kernel_rfl) rfl) rfl ?_
  refine Dr.call1 (j := 1) (Φ := PickV fs (pickTo fs c0.fit 4).1) rfl rfl rfl (fun u w => Enters.func rfl rfl rfl (run_enter Try.func13 (by kernel_rfl) rfl)) rfl (PickV.stable _ _) (fun u w hG hu => pick_V u len fs c0 lg nx sq _ (by omega) hu hnum hsz) ?_
  refine Dr.val1 (j := 3) (Φ := PickV fs (pickTo fs c0.fit 4).1) Grow.refl rfl rfl rfl (PickV.stable _ _) rfl (fun u w hG hu => ⟨u, Runs.move rfl rfl, hu⟩) ?_
  refine Dr.val1 (j := 4) (Φ := TaskV fs (pickTo fs c0.fit 4).1) Grow.refl rfl rfl rfl (TaskV.stable _ _) rfl (fun u w hG hu => by obtain ⟨tv, rfl, h⟩ := hu; exact ⟨_, Runs.extract rfl rfl rfl, tv, rfl, h⟩) ?_
  refine Dr.late1 (j := 4) rfl rfl rfl rfl (fun u w w' hG hu => by obtain ⟨tv, rfl, h⟩ := hu; exact Runs.extract rfl rfl rfl) Grow.refl rfl ?_
  refine Dr.alloc rfl rfl (run_zero zero_level_Task) rfl ?_
  refine Dr.nil ?_
  refine FinX.open (j := 5) rfl ?_
  intro u5
  refine FinX.open (j := 7) rfl ?_
  intro u7
  refine FinX.done (F' := [(0, _), (1, _), (2, _), (3, _), (4, _), (5, _), (17, _), (24, _), (25, _)]) rfl ⟨rfl, rfl, rfl, rfl, rfl, rfl, rfl, rfl, rfl, trivial⟩ ?_
  intro w4 hw4 fw4
  replace bel := bel.step hw4
  replace k2 := k2.step hw4
  replace k3 := k3.step hw4
  obtain ⟨⟨-, tv, rfl, hT⟩, g5, rfl, k5, e5⟩ := (by assumption : (True ∧ TaskV _ _ _ _) ∧ NewPtr _ _ _ _ _)
  have l5 := Nat.lt_of_lt_of_le zlt e5
  replace e5 := Nat.le_trans zbel e5
  obtain ⟨t0, t1, t2, t3, htv, o0, o1, o2, o3⟩ := hT.four
  subst htv
  refine Seq.storeN rfl rfl rfl rfl (m := 4) (by kernel_rfl) rfl (by repeat' first | exact trivial | apply And.intro | rfl | assumption) k5 (by simp [Value.cells]) rfl rfl ?_
  intro w5 pw5
  replace bel := bel.put k5 pw5 e5
  replace k2 := k2.put pw5 (by omega)
  replace k3 := k3.put pw5 (by omega)
  replace hT := hT.put k5 pw5 e5
  replace k5 := pw5.blk
  refine Seq.val (Runs.assign rfl rfl) rfl rfl rfl ?_
  refine Seq.nil ?_
  refine Post.weak (F' := [(0, _), (1, _), (2, _), (3, _), (4, _), (5, _), (6, _), (17, _)]) ⟨rfl, rfl, rfl, rfl, rfl, rfl, rfl, rfl, trivial⟩ ?_
  refine Post.then_ ?_
  refine Cd.seq ?_
  refine Cd.region ?_
  refine Seq.val (Runs.assign rfl rfl) rfl rfl rfl ?_
  refine Seq.nil ?_
  refine Post.weak (F' := [(0, _), (1, _), (2, _), (3, _), (4, _), (5, _), (6, _), (7, _), (17, _)]) ⟨rfl, rfl, rfl, rfl, rfl, rfl, rfl, rfl, rfl, trivial⟩ ?_
  refine Post.then_ ?_
  refine Cd.seq ?_
  refine Cd.region ?_
  refine Seq.val (Runs.build rfl rfl (run_build_Big0 _)) rfl rfl rfl ?_
  refine Seq.call (Enters.func rfl rfl rfl (run_enter Try.func14 (by kernel_rfl) rfl)) rfl rfl rfl (of_big 1 _ (by omega) (by omega)) ?_
  rintro e w9 ⟨v27, rfl, hb9, h27⟩
  refine ⟨_, rfl, ?_⟩
  replace bel := bel.step hb9
  replace k2 := k2.step hb9
  replace k3 := k3.step hb9
  replace k5 := k5.step hb9
  replace hT := hT.step hb9
  obtain ⟨m27, rfl, o27, h27⟩ := h27.agg
  have i27 := h27.ni
  refine Seq.alloc rfl (run_zero zero_debentureref01_Big) rfl rfl rfl ?_
  intro g8 w6 n8
  have e8 := Nat.le_trans bel.size n8.ge
  have l8 := Nat.lt_of_lt_of_le k5.lt n8.ge
  replace bel := bel.step n8.below
  replace k2 := k2.step n8.below
  replace k3 := k3.step n8.below
  replace k5 := k5.step n8.below
  replace hT := hT.step n8.below
  replace h27 := h27.step n8.below
  have k8 := n8.blk
  refine Seq.alloc rfl (run_zero zero_debentureref01_Big) rfl rfl rfl ?_
  intro g9 w7 n9
  have e9 := Nat.le_trans bel.size n9.ge
  have l9 := Nat.lt_of_lt_of_le k8.lt n9.ge
  replace bel := bel.step n9.below
  replace k2 := k2.step n9.below
  replace k3 := k3.step n9.below
  replace k5 := k5.step n9.below
  replace hT := hT.step n9.below
  replace h27 := h27.step n9.below
  replace k8 := k8.step n9.below
  have k9 := n9.blk
  refine Seq.storeN rfl rfl rfl rfl (m := 2) (by kernel_rfl) rfl (by repeat' first | exact trivial | apply And.intro | rfl | assumption) k8 (by simp [Value.cells]) rfl rfl ?_
  intro w8 pw8
  replace bel := bel.put k8 pw8 e8
  replace k2 := k2.put pw8 (by omega)
  replace k3 := k3.put pw8 (by omega)
  replace k5 := k5.put pw8 (by omega)
  replace hT := hT.put k8 pw8 e8
  replace h27 := h27.put k8 pw8 e8
  replace k9 := k9.put pw8 (by omega)
  replace k8 := pw8.blk
  refine Seq.storeN rfl rfl rfl rfl (m := 2) (by kernel_rfl) rfl (by repeat' first | exact trivial | apply And.intro | rfl | assumption) k9 (by simp [Value.cells]) rfl rfl ?_
  intro w9 pw9
  replace bel := bel.put k9 pw9 e9
  replace k2 := k2.put pw9 (by omega)
  replace k3 := k3.put pw9 (by omega)
  replace k5 := k5.put pw9 (by omega)
  replace hT := hT.put k9 pw9 e9
  replace h27 := h27.put k9 pw9 e9
  replace k8 := k8.put pw9 (by omega)
  replace k9 := pw9.blk
  refine Seq.nil ?_
  refine Post.weak (F' := [(0, _), (1, _), (2, _), (3, _), (4, _), (5, _), (6, _), (7, _), (8, _), (9, _), (17, _)]) ⟨rfl, rfl, rfl, rfl, rfl, rfl, rfl, rfl, rfl, rfl, rfl, trivial⟩ ?_
  refine Post.then_ ?_
  refine Cd.seq ?_
  refine Cd.region ?_
  refine Seq.val (Runs.fieldB 1 rfl rfl Try.underlying39 rfl (by kernel_rfl)) rfl rfl rfl ?_
  refine Seq.val (Runs.loadB rfl rfl Try.underlying3 rfl k3 rfl) rfl rfl rfl ?_
  refine Seq.call (Enters.func rfl rfl rfl (run_enter Try.func15 (by kernel_rfl) rfl)) rfl rfl rfl (fit_grow _ _ _ _) ?_
  rintro e w10 ⟨rfl, hb10⟩
  refine ⟨_, rfl, ?_⟩
  replace bel := bel.step hb10
  replace k2 := k2.step hb10
  replace k3 := k3.step hb10
  replace k5 := k5.step hb10
  replace hT := hT.step hb10
  replace h27 := h27.step hb10
  replace k8 := k8.step hb10
  replace k9 := k9.step hb10
  have hcl := clamp_in c0.base 1 1048576 (by omega) (by omega) (by omega)
  refine Seq.call (Enters.func rfl rfl rfl (run_enter Try.func14 (by kernel_rfl) rfl)) rfl rfl rfl (of_big _ _ hcl.1 hcl.2) ?_
  rintro e w11 ⟨v31, rfl, hb11, h31⟩
  refine ⟨_, rfl, ?_⟩
  replace bel := bel.step hb11
  replace k2 := k2.step hb11
  replace k3 := k3.step hb11
  replace k5 := k5.step hb11
  replace hT := hT.step hb11
  replace h27 := h27.step hb11
  replace k8 := k8.step hb11
  replace k9 := k9.step hb11
  obtain ⟨m31, rfl, o31, h31⟩ := h31.agg
  have i31 := h31.ni
  refine Seq.alloc rfl (run_zero zero_debentureref01_Big) rfl rfl rfl ?_
  intro g10 w10 n10
  have e10 := Nat.le_trans bel.size n10.ge
  have l10 := Nat.lt_of_lt_of_le k9.lt n10.ge
  replace bel := bel.step n10.below
  replace k2 := k2.step n10.below
  replace k3 := k3.step n10.below
  replace k5 := k5.step n10.below
  replace hT := hT.step n10.below
  replace h27 := h27.step n10.below
  replace k8 := k8.step n10.below
  replace k9 := k9.step n10.below
  replace h31 := h31.step n10.below
  have k10 := n10.blk
  refine Seq.storeN rfl rfl rfl rfl (m := 2) (by kernel_rfl) rfl (by repeat' first | exact trivial | apply And.intro | rfl | assumption) k10 (by simp [Value.cells]) rfl rfl ?_
  intro w11 pw11
  replace bel := bel.put k10 pw11 e10
  replace k2 := k2.put pw11 (by omega)
  replace k3 := k3.put pw11 (by omega)
  replace k5 := k5.put pw11 (by omega)
  replace hT := hT.put k10 pw11 e10
  replace h27 := h27.put k10 pw11 e10
  replace k8 := k8.put pw11 (by omega)
  replace k9 := k9.put pw11 (by omega)
  replace h31 := h31.put k10 pw11 e10
  replace k10 := pw11.blk
  refine Seq.nil ?_
  refine Post.weak (F' := [(0, _), (1, _), (2, _), (3, _), (4, _), (5, _), (6, _), (7, _), (8, _), (9, _), (10, _), (17, _)]) ⟨rfl, rfl, rfl, rfl, rfl, rfl, rfl, rfl, rfl, rfl, rfl, rfl, trivial⟩ ?_
  refine Post.then_ ?_
  refine Cd.seq ?_
  refine Cd.seq ?_
  refine Cd.region ?_
  refine Seq.val (Runs.assign rfl rfl) rfl rfl rfl ?_
  refine Seq.nil ?_
  refine Post.weak (F' := [(0, _), (1, _), (2, _), (3, _), (4, _), (5, _), (6, _), (7, _), (8, _), (9, _), (10, _), (11, _), (17, _)]) ⟨rfl, rfl, rfl, rfl, rfl, rfl, rfl, rfl, rfl, rfl, rfl, rfl, rfl, trivial⟩ ?_
  refine Post.then_ ?_
  refine Cd.block ?_
  generalize hcf : c0.fit = c at *
  have hcz : clamp c0.zero 1 50 = c.zero := by rw [← hcf]; rfl
  have hcb : clamp c0.base 1 1048576 = c.base := by rw [← hcf]; rfl
  have hct : clamp c0.times 2 20 = c.times := by rw [← hcf]; rfl
  have z0 : 1 ≤ c.zero ∧ c.zero ≤ 50 := by rw [← hcz]; exact clamp_bd _ _ _ (by decide)
  have z1 : 1 ≤ c.base ∧ c.base ≤ 1048576 := by rw [← hcb]; exact clamp_bd _ _ _ (by decide)
  have z2 : 2 ≤ c.times ∧ c.times ≤ 20 := by rw [← hct]; exact clamp_bd _ _ _ (by decide)
  rw [hcb] at h31 k10
  refine Cd.loop (σ := Nat × Value × Value × Value) (fun s => [(2, .pointer (some ⟨g2, 0, none⟩)), (3, .pointer (some ⟨g3, 0, none⟩)), (5, .pointer (some ⟨g5, 0, none⟩)), (6, .bool (okTask fs (pickTo fs c 4).1)), (7, .int .i64 (pickTo fs c s.1).1), (8, .pointer (some ⟨g8, 0, none⟩)), (9, .pointer (some ⟨g9, 0, none⟩)), (10, .pointer (some ⟨g10, 0, none⟩)), (11, .int .i64 (s.1 : Int))])
    (fun s wr => s.1 ≤ 4 ∧ Below w.heap.size w wr ∧ Blk wr g2 24 #[.int .i64 lg, .int .i64 nx, .int .i64 sq, .slice A len cap] ∧ Blk wr g3 39 #[.int .i64 c0.zero, .int .i64 c0.base, .int .i64 c0.times, .int .i64 c0.table] ∧
      Blk wr g5 29 #[t0, t1, t2, t3] ∧ TaskO fs (pickTo fs c 4).1 #[t0, t1, t2, t3] wr ∧
      Blk wr g8 43 #[.bool (decide ((pickTo fs c s.1).2.1 < 0)), s.2.1] ∧ MagR wr s.2.1 (pickTo fs c s.1).2.1.natAbs ∧
      Blk wr g9 43 #[.bool (decide ((pickTo fs c s.1).2.2 < 0)), s.2.2.1] ∧ MagR wr s.2.2.1 (pickTo fs c s.1).2.2.natAbs ∧
      Blk wr g10 43 #[.bool (decide (limOf c.base c.times (s.1 - 1) < 0)), s.2.2.2] ∧ MagR wr s.2.2.2 (limOf c.base c.times (s.1 - 1)).natAbs)
    (fun s => 4 - s.1) (0, .slice none 0 0, m27, m31) ⟨by omega, bel, k2, k3, k5, hT, k8, MagR.nil _ 0 (by omega), k9, h27, k10, h31⟩ ⟨rfl, rfl, rfl, rfl, rfl, rfl, rfl, rfl, rfl, trivial⟩ ?_
  clear bel k2 k3 k5 hT h27 k8 k9 h31 k10
  rintro ⟨k, m8, m9, m10⟩ wr ⟨hk, bel, k2, k3, k5, hT, k8, h8, k9, h9, k10, h10⟩
  dsimp only at hk bel k2 k3 k5 hT k8 h8 k9 h9 k10 h10 ⊢
  have o8 := h8.one
  have i8 := h8.ni
  have o9 := h9.one
  have i9 := h9.ni
  have o10 := h10.one
  have i10 := h10.ni
  refine Cd.seq ?_
  refine Cd.seq ?_
  refine Cd.region ?_
  refine Seq.val (Runs.move rfl rfl) rfl rfl rfl ?_
  refine Seq.val (Runs.lss rfl rfl rfl) rfl rfl rfl ?_
  refine Seq.nil ?_
  refine Post.weak (F' := [(2, _), (3, _), (5, _), (6, _), (7, _), (8, _), (9, _), (10, _), (11, _), (33, _)]) ⟨rfl, rfl, rfl, rfl, rfl, rfl, rfl, rfl, rfl, rfl, trivial⟩ ?_
  refine Post.then_ ?_
  refine Cd.condD rfl (fun hc => ?_) (fun hc => ?_)
  · have hpb := pickTo_bd fs c (by omega) hsz z0.1 z0.2 z1.1 z1.2 (by omega) z2.2 k hk
    have hsb := score_bd fs c k (by omega) (by omega) hsz z0.1 z0.2 z1.1 z1.2 (by omega) z2.2
    have hlim := limOf_bd c.base c.times z1.1 z1.2 (by omega) z2.2 (k - 1) (by omega)
    have hlim2 := limOf_bd c.base c.times z1.1 z1.2 (by omega) z2.2 k (by omega)
    refine Cd.skip ?_
    refine Post.then_ ?_
    refine Cd.seq ?_
    refine Cd.block ?_
    refine Cd.seq ?_
    refine Cd.region ?_
    refine Seq.val (Runs.fieldB 0 rfl rfl Try.underlying39 rfl (by kernel_rfl)) rfl rfl rfl ?_
    refine Seq.val (Runs.loadB rfl rfl Try.underlying3 rfl k3 rfl) rfl rfl rfl ?_
    refine Seq.call (Enters.func rfl rfl rfl (run_enter Try.func15 (by kernel_rfl) rfl)) rfl rfl rfl (fit_grow _ _ _ _) ?_
    rintro e w13 ⟨rfl, hb13⟩
    refine ⟨_, rfl, ?_⟩
    replace bel := bel.step hb13
    replace k2 := k2.step hb13
    replace k3 := k3.step hb13
    replace k5 := k5.step hb13
    replace hT := hT.step hb13
    replace k8 := k8.step hb13
    replace k9 := k9.step hb13
    replace k10 := k10.step hb13
    replace h8 := h8.step hb13
    replace h9 := h9.step hb13
    replace h10 := h10.step hb13
    rw [hcz]
    refine Seq.call (Enters.func rfl rfl rfl (run_enter Try.func14 (by kernel_rfl) rfl)) rfl rfl rfl (of_big _ _ (by omega) (by omega)) ?_
    rintro e w14 ⟨v39, rfl, hb14, h39⟩
    refine ⟨_, rfl, ?_⟩
    replace bel := bel.step hb14
    replace k2 := k2.step hb14
    replace k3 := k3.step hb14
    replace k5 := k5.step hb14
    replace hT := hT.step hb14
    replace k8 := k8.step hb14
    replace k9 := k9.step hb14
    replace k10 := k10.step hb14
    replace h8 := h8.step hb14
    replace h9 := h9.step hb14
    replace h10 := h10.step hb14
    obtain ⟨m39, rfl, o39, h39⟩ := h39.agg
    have i39 := h39.ni
    refine Seq.alloc rfl (run_zero zero_debentureref01_Big) rfl rfl rfl ?_
    intro g13 w12 n13
    have e13 := Nat.le_trans bel.size n13.ge
    have l13 := Nat.lt_of_lt_of_le k10.lt n13.ge
    replace bel := bel.step n13.below
    replace k2 := k2.step n13.below
    replace k3 := k3.step n13.below
    replace k5 := k5.step n13.below
    replace hT := hT.step n13.below
    replace k8 := k8.step n13.below
    replace k9 := k9.step n13.below
    replace k10 := k10.step n13.below
    replace h8 := h8.step n13.below
    replace h9 := h9.step n13.below
    replace h10 := h10.step n13.below
    replace h39 := h39.step n13.below
    have k13 := n13.blk
    refine Seq.val (Runs.assign rfl rfl) rfl rfl rfl ?_
    refine Seq.storeN rfl rfl rfl rfl (m := 2) (by kernel_rfl) rfl (by repeat' first | exact trivial | apply And.intro | rfl | assumption) k13 (by simp [Value.cells]) rfl rfl ?_
    intro w13 pw13
    replace bel := bel.put k13 pw13 e13
    replace k2 := k2.put pw13 (by omega)
    replace k3 := k3.put pw13 (by omega)
    replace k5 := k5.put pw13 (by omega)
    replace hT := hT.put k13 pw13 e13
    replace k8 := k8.put pw13 (by omega)
    replace k9 := k9.put pw13 (by omega)
    replace k10 := k10.put pw13 (by omega)
    replace h8 := h8.put k13 pw13 e13
    replace h9 := h9.put k13 pw13 e13
    replace h10 := h10.put k13 pw13 e13
    replace h39 := h39.put k13 pw13 e13
    replace k13 := pw13.blk
    refine Seq.nil ?_
    refine Post.weak (F' := [(2, _), (3, _), (5, _), (6, _), (7, _), (8, _), (9, _), (10, _), (11, _), (12, _), (13, _), (33, _)]) ⟨rfl, rfl, rfl, rfl, rfl, rfl, rfl, rfl, rfl, rfl, rfl, rfl, trivial⟩ ?_
    refine Post.then_ ?_
    refine Cd.seq ?_
    refine Cd.seq ?_
    refine Cd.region ?_
    refine Seq.val (Runs.assign rfl rfl) rfl rfl rfl ?_
    refine Seq.nil ?_
    refine Post.weak (F' := [(2, _), (3, _), (5, _), (6, _), (7, _), (8, _), (9, _), (10, _), (11, _), (12, _), (13, _), (14, _), (33, _)]) ⟨rfl, rfl, rfl, rfl, rfl, rfl, rfl, rfl, rfl, rfl, rfl, rfl, rfl, trivial⟩ ?_
    refine Post.then_ ?_
    refine Cd.block ?_
    refine Cd.loop (σ := Nat) (fun i => [(2, .pointer (some ⟨g2, 0, none⟩)), (3, .pointer (some ⟨g3, 0, none⟩)), (5, .pointer (some ⟨g5, 0, none⟩)), (6, .bool (okTask fs (pickTo fs c 4).1)), (7, .int .i64 (pickTo fs c k).1), (8, .pointer (some ⟨g8, 0, none⟩)), (9, .pointer (some ⟨g9, 0, none⟩)), (10, .pointer (some ⟨g10, 0, none⟩)), (11, .int .i64 (k : Int)), (12, .int .i64 (scoreN (fs.take i) k)), (13, .pointer (some ⟨g13, 0, none⟩)), (14, .int .i64 (i : Int))])
      (fun i wr' => wr' = w13 ∧ i ≤ len) (fun i => len - i) 0 ⟨rfl, Nat.zero_le _⟩ ⟨rfl, rfl, rfl, rfl, rfl, rfl, rfl, rfl, rfl, ?_, rfl, rfl, trivial⟩ ?_
    · rw [List.take_zero, scoreN_nil]; rfl
    rintro i wr' ⟨rfl, hi⟩
    refine Cd.seq ?_
    refine Cd.seq ?_
    refine Cd.region ?_
    refine Seq.val (Runs.move rfl rfl) rfl rfl rfl ?_
    refine Seq.val (Runs.fieldB 3 rfl rfl Try.underlying24 rfl (by kernel_rfl)) rfl rfl rfl ?_
    refine Seq.val (Runs.loadB rfl rfl Try.underlying22 rfl k2 rfl) rfl rfl rfl ?_
    refine Seq.val (Runs.len rfl rfl Try.underlying22) rfl rfl rfl ?_
    refine Seq.val (Runs.lss rfl rfl rfl) rfl rfl rfl ?_
    refine Seq.nil ?_
    refine Post.weak (F' := [(2, _), (3, _), (5, _), (6, _), (7, _), (8, _), (9, _), (10, _), (11, _), (12, _), (13, _), (14, _), (44, _)]) ⟨rfl, rfl, rfl, rfl, rfl, rfl, rfl, rfl, rfl, rfl, rfl, rfl, rfl, trivial⟩ ?_
    refine Post.then_ ?_
    refine Cd.condD rfl (fun hc => ?_) (fun hc => ?_)
    · obtain ⟨ad, f, rfl, hbl, hf, -, hlev, -, -, -, hsize⟩ := hr.file bel (Nat.le_refl _) (show i < len by omega)
      have hfm : f ∈ fs := List.mem_of_getElem? hf
      have hfs := hsz f hfm
      have hsn := scoreN_snoc (fs.take i) f k
      rw [← take_snoc' _ _ _ hf] at hsn
      have hsb2 := scoreN_bd fs i k (by omega) hsz
      by_cases hl : f.level = (k : Int)
      · by_cases h0 : k = 0
        · rw [if_pos hl, if_pos (by omega)] at hsn
          refine Cd.skip ?_
          refine Post.then_ ?_
          refine Cd.seq ?_
          refine Cd.block ?_
          refine Cd.seq ?_
          refine Cd.seq ?_
          refine Cd.region ?_
          refine Seq.val (Runs.fieldB 3 rfl rfl Try.underlying24 rfl (by kernel_rfl)) rfl rfl rfl ?_
          refine Seq.val (Runs.loadB rfl rfl Try.underlying22 rfl k2 rfl) rfl rfl rfl ?_
          refine Seq.val (Runs.move rfl rfl) rfl rfl rfl ?_
          refine Seq.val (Runs.indexN rfl rfl rfl Try.underlying22 (by kernel_rfl) (s := 6) (j := i) rfl (by omega)) rfl rfl rfl ?_
          refine Seq.val (Runs.fieldA 1 rfl rfl Try.underlying47 rfl (by kernel_rfl)) rfl rfl rfl ?_
          refine Seq.val (Runs.load1 rfl rfl Try.underlying3 rfl hlev) rfl rfl rfl ?_
          refine Seq.val (Runs.move rfl rfl) rfl rfl rfl ?_
          refine Seq.val ((Runs.eqlI rfl rfl rfl).isT (hl)) rfl rfl rfl ?_
          refine Seq.val (Runs.move rfl rfl) rfl rfl rfl ?_
          refine Seq.valG (Runs.move rfl rfl) rfl rfl rfl rfl rfl ?_
          refine Seq.valG ((Runs.gtr rfl rfl rfl).isF (by omega)) rfl rfl rfl rfl rfl ?_
          refine Seq.val (Runs.pickT rfl rfl rfl) rfl rfl rfl ?_
          refine Seq.nil ?_
          refine Post.weak (F' := [(2, _), (3, _), (5, _), (6, _), (7, _), (8, _), (9, _), (10, _), (11, _), (12, _), (13, _), (14, _), (44, _), (58, _)]) ⟨rfl, rfl, rfl, rfl, rfl, rfl, rfl, rfl, rfl, rfl, rfl, rfl, rfl, rfl, trivial⟩ ?_
          refine Post.then_ ?_
          refine Cd.condF rfl rfl ?_
          refine Cd.skip ?_
          refine Post.then_ ?_
          refine Cd.seq ?_
          refine Cd.region ?_
          refine Seq.val (Runs.fieldB 3 rfl rfl Try.underlying24 rfl (by kernel_rfl)) rfl rfl rfl ?_
          refine Seq.val (Runs.loadB rfl rfl Try.underlying22 rfl k2 rfl) rfl rfl rfl ?_
          refine Seq.val (Runs.move rfl rfl) rfl rfl rfl ?_
          refine Seq.val (Runs.indexN rfl rfl rfl Try.underlying22 (by kernel_rfl) (s := 6) (j := i) rfl (by omega)) rfl rfl rfl ?_
          refine Seq.val (Runs.fieldA 1 rfl rfl Try.underlying47 rfl (by kernel_rfl)) rfl rfl rfl ?_
          refine Seq.val (Runs.load1 rfl rfl Try.underlying3 rfl hlev) rfl rfl rfl ?_
          refine Seq.val (Runs.move rfl rfl) rfl rfl rfl ?_
          refine Seq.val ((Runs.eqlI rfl rfl rfl).isT (hl)) rfl rfl rfl ?_
          refine Seq.val (Runs.move rfl rfl) rfl rfl rfl ?_
          refine Seq.valG (Runs.move rfl rfl) rfl rfl rfl rfl rfl ?_
          refine Seq.valG ((Runs.eqlI rfl rfl rfl).isT (by omega)) rfl rfl rfl rfl rfl ?_
          refine Seq.val (Runs.pickT rfl rfl rfl) rfl rfl rfl ?_
          refine Seq.nil ?_
          refine Post.weak (F' := [(2, _), (3, _), (5, _), (6, _), (7, _), (8, _), (9, _), (10, _), (11, _), (12, _), (13, _), (14, _), (44, _), (58, _), (78, _)]) ⟨rfl, rfl, rfl, rfl, rfl, rfl, rfl, rfl, rfl, rfl, rfl, rfl, rfl, rfl, rfl, trivial⟩ ?_
          refine Post.then_ ?_
          refine Cd.condT rfl rfl ?_
          refine Cd.region ?_
          refine Seq.val (Runs.move rfl rfl) rfl rfl rfl ?_
          refine Seq.val (Runs.addI rfl rfl rfl (by omega) (by omega)) rfl rfl rfl ?_
          refine Seq.val (Runs.assign rfl rfl) rfl rfl rfl ?_
          refine Seq.nil ?_
          refine Post.weak (F' := [(2, _), (3, _), (5, _), (6, _), (7, _), (8, _), (9, _), (10, _), (11, _), (12, _), (13, _), (14, _), (44, _), (58, _), (78, _)]) ⟨rfl, rfl, rfl, rfl, rfl, rfl, rfl, rfl, rfl, rfl, rfl, rfl, rfl, rfl, rfl, trivial⟩ ?_
          refine Post.block_normal ?_
          refine Post.then_ ?_
          refine Cd.region ?_
          refine Seq.val (Runs.move rfl rfl) rfl rfl rfl ?_
          refine Seq.val (Runs.addI rfl rfl rfl (by omega) (by omega)) rfl rfl rfl ?_
          refine Seq.val (Runs.assign rfl rfl) rfl rfl rfl ?_
          refine Seq.nil ?_
          refine Post.weak (F' := [(2, _), (3, _), (5, _), (6, _), (7, _), (8, _), (9, _), (10, _), (11, _), (12, _), (13, _), (14, _), (44, _), (58, _), (78, _)]) ⟨rfl, rfl, rfl, rfl, rfl, rfl, rfl, rfl, rfl, rfl, rfl, rfl, rfl, rfl, rfl, trivial⟩ ?_
          refine Post.round (i + 1) ⟨rfl, rfl, rfl, rfl, rfl, rfl, rfl, rfl, rfl, ?_, rfl, rfl, trivial⟩ ⟨rfl, by omega⟩ (by omega)
          exact congrArg (fun z => some (Value.int .i64 z)) hsn.symm
        · rw [if_pos hl, if_neg (by omega)] at hsn
          refine Cd.skip ?_
          refine Post.then_ ?_
          refine Cd.seq ?_
          refine Cd.block ?_
          refine Cd.seq ?_
          refine Cd.seq ?_
          refine Cd.region ?_
          refine Seq.val (Runs.fieldB 3 rfl rfl Try.underlying24 rfl (by kernel_rfl)) rfl rfl rfl ?_
          refine Seq.val (Runs.loadB rfl rfl Try.underlying22 rfl k2 rfl) rfl rfl rfl ?_
          refine Seq.val (Runs.move rfl rfl) rfl rfl rfl ?_
          refine Seq.val (Runs.indexN rfl rfl rfl Try.underlying22 (by kernel_rfl) (s := 6) (j := i) rfl (by omega)) rfl rfl rfl ?_
          refine Seq.val (Runs.fieldA 1 rfl rfl Try.underlying47 rfl (by kernel_rfl)) rfl rfl rfl ?_
          refine Seq.val (Runs.load1 rfl rfl Try.underlying3 rfl hlev) rfl rfl rfl ?_
          refine Seq.val (Runs.move rfl rfl) rfl rfl rfl ?_
          refine Seq.val ((Runs.eqlI rfl rfl rfl).isT (hl)) rfl rfl rfl ?_
          refine Seq.val (Runs.move rfl rfl) rfl rfl rfl ?_
          refine Seq.valG (Runs.move rfl rfl) rfl rfl rfl rfl rfl ?_
          refine Seq.valG ((Runs.gtr rfl rfl rfl).isT (by omega)) rfl rfl rfl rfl rfl ?_
          refine Seq.val (Runs.pickT rfl rfl rfl) rfl rfl rfl ?_
          refine Seq.nil ?_
          refine Post.weak (F' := [(2, _), (3, _), (5, _), (6, _), (7, _), (8, _), (9, _), (10, _), (11, _), (12, _), (13, _), (14, _), (44, _), (58, _)]) ⟨rfl, rfl, rfl, rfl, rfl, rfl, rfl, rfl, rfl, rfl, rfl, rfl, rfl, rfl, trivial⟩ ?_
          refine Post.then_ ?_
          refine Cd.condT rfl rfl ?_
          refine Cd.region ?_
          refine Seq.val (Runs.move rfl rfl) rfl rfl rfl ?_
          refine Seq.val (Runs.fieldB 3 rfl rfl Try.underlying24 rfl (by kernel_rfl)) rfl rfl rfl ?_
          refine Seq.val (Runs.loadB rfl rfl Try.underlying22 rfl k2 rfl) rfl rfl rfl ?_
          refine Seq.val (Runs.move rfl rfl) rfl rfl rfl ?_
          refine Seq.val (Runs.indexN rfl rfl rfl Try.underlying22 (by kernel_rfl) (s := 6) (j := i) rfl (by omega)) rfl rfl rfl ?_
          refine Seq.val (Runs.fieldA 5 rfl rfl Try.underlying47 rfl (by kernel_rfl)) rfl rfl rfl ?_
          refine Seq.val (Runs.load1 rfl rfl Try.underlying3 rfl hsize) rfl rfl rfl ?_
          refine Seq.val (Runs.addI rfl rfl rfl (by omega) (by omega)) rfl rfl rfl ?_
          refine Seq.val (Runs.assign rfl rfl) rfl rfl rfl ?_
          refine Seq.nil ?_
          refine Post.weak (F' := [(2, _), (3, _), (5, _), (6, _), (7, _), (8, _), (9, _), (10, _), (11, _), (12, _), (13, _), (14, _), (44, _), (58, _)]) ⟨rfl, rfl, rfl, rfl, rfl, rfl, rfl, rfl, rfl, rfl, rfl, rfl, rfl, rfl, trivial⟩ ?_
          refine Post.then_ ?_
          refine Cd.seq ?_
          refine Cd.region ?_
          refine Seq.val (Runs.fieldB 3 rfl rfl Try.underlying24 rfl (by kernel_rfl)) rfl rfl rfl ?_
          refine Seq.val (Runs.loadB rfl rfl Try.underlying22 rfl k2 rfl) rfl rfl rfl ?_
          refine Seq.val (Runs.move rfl rfl) rfl rfl rfl ?_
          refine Seq.val (Runs.indexN rfl rfl rfl Try.underlying22 (by kernel_rfl) (s := 6) (j := i) rfl (by omega)) rfl rfl rfl ?_
          refine Seq.val (Runs.fieldA 1 rfl rfl Try.underlying47 rfl (by kernel_rfl)) rfl rfl rfl ?_
          refine Seq.val (Runs.load1 rfl rfl Try.underlying3 rfl hlev) rfl rfl rfl ?_
          refine Seq.val (Runs.move rfl rfl) rfl rfl rfl ?_
          refine Seq.val ((Runs.eqlI rfl rfl rfl).isT (hl)) rfl rfl rfl ?_
          refine Seq.val (Runs.move rfl rfl) rfl rfl rfl ?_
          refine Seq.valG (Runs.move rfl rfl) rfl rfl rfl rfl rfl ?_
          refine Seq.valG ((Runs.eqlI rfl rfl rfl).isF (by omega)) rfl rfl rfl rfl rfl ?_
          refine Seq.val (Runs.pickT rfl rfl rfl) rfl rfl rfl ?_
          refine Seq.nil ?_
          refine Post.weak (F' := [(2, _), (3, _), (5, _), (6, _), (7, _), (8, _), (9, _), (10, _), (11, _), (12, _), (13, _), (14, _), (44, _), (58, _), (78, _)]) ⟨rfl, rfl, rfl, rfl, rfl, rfl, rfl, rfl, rfl, rfl, rfl, rfl, rfl, rfl, rfl, trivial⟩ ?_
          refine Post.then_ ?_
          refine Cd.condF rfl rfl ?_
          refine Cd.skip ?_
          refine Post.block_normal ?_
          refine Post.then_ ?_
          refine Cd.region ?_
          refine Seq.val (Runs.move rfl rfl) rfl rfl rfl ?_
          refine Seq.val (Runs.addI rfl rfl rfl (by omega) (by omega)) rfl rfl rfl ?_
          refine Seq.val (Runs.assign rfl rfl) rfl rfl rfl ?_
          refine Seq.nil ?_
          refine Post.weak (F' := [(2, _), (3, _), (5, _), (6, _), (7, _), (8, _), (9, _), (10, _), (11, _), (12, _), (13, _), (14, _), (44, _), (58, _), (78, _)]) ⟨rfl, rfl, rfl, rfl, rfl, rfl, rfl, rfl, rfl, rfl, rfl, rfl, rfl, rfl, rfl, trivial⟩ ?_
          refine Post.round (i + 1) ⟨rfl, rfl, rfl, rfl, rfl, rfl, rfl, rfl, rfl, ?_, rfl, rfl, trivial⟩ ⟨rfl, by omega⟩ (by omega)
          exact congrArg (fun z => some (Value.int .i64 z)) hsn.symm
      · rw [if_neg hl] at hsn
        refine Cd.skip ?_
        refine Post.then_ ?_
        refine Cd.seq ?_
        refine Cd.block ?_
        refine Cd.seq ?_
        refine Cd.seq ?_
        refine Cd.region ?_
        refine Seq.val (Runs.fieldB 3 rfl rfl Try.underlying24 rfl (by kernel_rfl)) rfl rfl rfl ?_
        refine Seq.val (Runs.loadB rfl rfl Try.underlying22 rfl k2 rfl) rfl rfl rfl ?_
        refine Seq.val (Runs.move rfl rfl) rfl rfl rfl ?_
        refine Seq.val (Runs.indexN rfl rfl rfl Try.underlying22 (by kernel_rfl) (s := 6) (j := i) rfl (by omega)) rfl rfl rfl ?_
        refine Seq.val (Runs.fieldA 1 rfl rfl Try.underlying47 rfl (by kernel_rfl)) rfl rfl rfl ?_
        refine Seq.val (Runs.load1 rfl rfl Try.underlying3 rfl hlev) rfl rfl rfl ?_
        refine Seq.val (Runs.move rfl rfl) rfl rfl rfl ?_
        refine Seq.val ((Runs.eqlI rfl rfl rfl).isF (hl)) rfl rfl rfl ?_
        refine Seq.val (Runs.move rfl rfl) rfl rfl rfl ?_
        refine Seq.skipG rfl rfl rfl rfl rfl rfl ?_
        refine Seq.skipG rfl rfl rfl rfl rfl rfl ?_
        refine Seq.val (Runs.pickF rfl rfl rfl) rfl rfl rfl ?_
        refine Seq.nil ?_
        refine Post.weak (F' := [(2, _), (3, _), (5, _), (6, _), (7, _), (8, _), (9, _), (10, _), (11, _), (12, _), (13, _), (14, _), (44, _), (58, _)]) ⟨rfl, rfl, rfl, rfl, rfl, rfl, rfl, rfl, rfl, rfl, rfl, rfl, rfl, rfl, trivial⟩ ?_
        refine Post.then_ ?_
        refine Cd.condF rfl rfl ?_
        refine Cd.skip ?_
        refine Post.then_ ?_
        refine Cd.seq ?_
        refine Cd.region ?_
        refine Seq.val (Runs.fieldB 3 rfl rfl Try.underlying24 rfl (by kernel_rfl)) rfl rfl rfl ?_
        refine Seq.val (Runs.loadB rfl rfl Try.underlying22 rfl k2 rfl) rfl rfl rfl ?_
        refine Seq.val (Runs.move rfl rfl) rfl rfl rfl ?_
        refine Seq.val (Runs.indexN rfl rfl rfl Try.underlying22 (by kernel_rfl) (s := 6) (j := i) rfl (by omega)) rfl rfl rfl ?_
        refine Seq.val (Runs.fieldA 1 rfl rfl Try.underlying47 rfl (by kernel_rfl)) rfl rfl rfl ?_
        refine Seq.val (Runs.load1 rfl rfl Try.underlying3 rfl hlev) rfl rfl rfl ?_
        refine Seq.val (Runs.move rfl rfl) rfl rfl rfl ?_
        refine Seq.val ((Runs.eqlI rfl rfl rfl).isF (hl)) rfl rfl rfl ?_
        refine Seq.val (Runs.move rfl rfl) rfl rfl rfl ?_
        refine Seq.skipG rfl rfl rfl rfl rfl rfl ?_
        refine Seq.skipG rfl rfl rfl rfl rfl rfl ?_
        refine Seq.val (Runs.pickF rfl rfl rfl) rfl rfl rfl ?_
        refine Seq.nil ?_
        refine Post.weak (F' := [(2, _), (3, _), (5, _), (6, _), (7, _), (8, _), (9, _), (10, _), (11, _), (12, _), (13, _), (14, _), (44, _), (58, _), (78, _)]) ⟨rfl, rfl, rfl, rfl, rfl, rfl, rfl, rfl, rfl, rfl, rfl, rfl, rfl, rfl, rfl, trivial⟩ ?_
        refine Post.then_ ?_
        refine Cd.condF rfl rfl ?_
        refine Cd.skip ?_
        refine Post.block_normal ?_
        refine Post.then_ ?_
        refine Cd.region ?_
        refine Seq.val (Runs.move rfl rfl) rfl rfl rfl ?_
        refine Seq.val (Runs.addI rfl rfl rfl (by omega) (by omega)) rfl rfl rfl ?_
        refine Seq.val (Runs.assign rfl rfl) rfl rfl rfl ?_
        refine Seq.nil ?_
        refine Post.weak (F' := [(2, _), (3, _), (5, _), (6, _), (7, _), (8, _), (9, _), (10, _), (11, _), (12, _), (13, _), (14, _), (44, _), (58, _), (78, _)]) ⟨rfl, rfl, rfl, rfl, rfl, rfl, rfl, rfl, rfl, rfl, rfl, rfl, rfl, rfl, rfl, trivial⟩ ?_
        refine Post.round (i + 1) ⟨rfl, rfl, rfl, rfl, rfl, rfl, rfl, rfl, rfl, ?_, rfl, rfl, trivial⟩ ⟨rfl, by omega⟩ (by omega)
        exact congrArg (fun z => some (Value.int .i64 z)) (by omega)
    · obtain rfl : i = len := by omega
      rw [List.take_of_length_le (by omega)]
      refine Cd.exit ?_
      refine Post.then_exit ?_
      refine Post.round_exit ?_
      refine Post.block_exit ?_
      refine Post.then_ ?_
      refine Cd.seqJ (σ := Value × Value) (fun _ => [(2, .pointer (some ⟨g2, 0, none⟩)), (3, .pointer (some ⟨g3, 0, none⟩)), (5, .pointer (some ⟨g5, 0, none⟩)), (6, .bool (okTask fs (pickTo fs c 4).1)), (7, .int .i64 (pickTo fs c k).1), (8, .pointer (some ⟨g8, 0, none⟩)), (9, .pointer (some ⟨g9, 0, none⟩)), (10, .pointer (some ⟨g10, 0, none⟩)), (11, .int .i64 (k : Int)), (12, .int .i64 (scoreN fs k)), (13, .pointer (some ⟨g13, 0, none⟩))])
        (fun s wr => Below w.heap.size w wr ∧ Blk wr g2 24 #[.int .i64 lg, .int .i64 nx, .int .i64 sq, .slice A i cap] ∧ Blk wr g3 39 #[.int .i64 c0.zero, .int .i64 c0.base, .int .i64 c0.times, .int .i64 c0.table] ∧
          Blk wr g5 29 #[t0, t1, t2, t3] ∧ TaskO fs (pickTo fs c 4).1 #[t0, t1, t2, t3] wr ∧
          Blk wr g8 43 #[.bool (decide ((pickTo fs c k).2.1 < 0)), m8] ∧ MagR wr m8 (pickTo fs c k).2.1.natAbs ∧
          Blk wr g9 43 #[.bool (decide ((pickTo fs c k).2.2 < 0)), m9] ∧ MagR wr m9 (pickTo fs c k).2.2.natAbs ∧
          Blk wr g10 43 #[.bool (decide (limOf c.base c.times k < 0)), s.1] ∧ MagR wr s.1 (limOf c.base c.times k).natAbs ∧
          Blk wr g13 43 #[.bool (decide (scoreM c k < 0)), s.2] ∧ MagR wr s.2 (scoreM c k).natAbs) ?_ ?_
      · skip
        refine Cd.seq ?_
        refine Cd.region ?_
        refine Seq.val (Runs.move rfl rfl) rfl rfl rfl ?_
        refine Seq.val (Runs.gtr rfl rfl rfl) rfl rfl rfl ?_
        refine Seq.nil ?_
        refine Post.weak (F' := [(2, _), (3, _), (5, _), (6, _), (7, _), (8, _), (9, _), (10, _), (11, _), (12, _), (13, _), (14, _), (44, _), (82, _)]) ⟨rfl, rfl, rfl, rfl, rfl, rfl, rfl, rfl, rfl, rfl, rfl, rfl, rfl, rfl, trivial⟩ ?_
        refine Post.then_ ?_
        refine Cd.condD rfl (fun hc => ?_) (fun hc => ?_)
        · have hM := scoreM_pos c k (by omega)
          have hL := limOf_step c.base c.times k (by omega)
          refine Cd.seq ?_
          refine Cd.region ?_
          refine Seq.val (Runs.loadW rfl rfl Try.underlying43 rfl k10 (m := 2) (by kernel_rfl) rfl) rfl rfl rfl ?_
          refine Seq.storeN rfl rfl rfl rfl (m := 2) (by kernel_rfl) rfl (by repeat' first | exact trivial | apply And.intro | rfl | assumption) k13 (by simp [Value.cells]) rfl rfl ?_
          intro w14 pw14
          replace bel := bel.put k13 pw14 e13
          replace k2 := k2.put pw14 (by omega)
          replace k3 := k3.put pw14 (by omega)
          replace k5 := k5.put pw14 (by omega)
          replace hT := hT.put k13 pw14 e13
          replace k8 := k8.put pw14 (by omega)
          replace k9 := k9.put pw14 (by omega)
          replace k10 := k10.put pw14 (by omega)
          replace h8 := h8.put k13 pw14 e13
          replace h9 := h9.put k13 pw14 e13
          replace h10 := h10.put k13 pw14 e13
          replace h39 := h39.put k13 pw14 e13
          replace k13 := pw14.blk
          refine Seq.nil ?_
          refine Post.weak (F' := [(2, _), (3, _), (5, _), (6, _), (7, _), (8, _), (9, _), (10, _), (11, _), (12, _), (13, _), (14, _), (44, _), (82, _)]) ⟨rfl, rfl, rfl, rfl, rfl, rfl, rfl, rfl, rfl, rfl, rfl, rfl, rfl, rfl, trivial⟩ ?_
          refine Post.then_ ?_
          refine Cd.draw 6 (by kernel_rfl) [] (.inl rfl) rfl Grow Grow.refl (fun _ _ _ => Grow.trans) ?_
          intro w15 hw15 zw15
          replace bel := bel.step hw15
          replace k2 := k2.step hw15
          replace k3 := k3.step hw15
          replace k5 := k5.step hw15
          replace hT := hT.step hw15
          replace k8 := k8.step hw15
          replace k9 := k9.step hw15
          replace k10 := k10.step hw15
          replace h8 := h8.step hw15
          replace h9 := h9.step hw15
          replace h10 := h10.step hw15
          replace h39 := h39.step hw15
          replace k13 := k13.step hw15
          have zbel := bel.size
          have zlt := k13.lt
          refine Dr.val Grow.refl rfl (fun w hG => Runs.loadW rfl rfl Try.underlying43 rfl (k10.step hG) (m := 2) (by kernel_rfl) rfl) rfl ?_
          refine Dr.val Grow.refl rfl (fun w hG => Runs.fieldB 2 rfl rfl Try.underlying39 rfl (by kernel_rfl)) rfl ?_
          refine Dr.val Grow.refl rfl (fun w hG => Runs.loadB rfl rfl Try.underlying3 rfl (k3.step hG) rfl) rfl ?_
          refine Dr.callV rfl (fun w => Enters.func rfl rfl rfl (run_enter Try.func15 (by kernel_rfl) rfl)) rfl (fun w hG => (fit_grow _ _ _ _)) ?_
          rw [hct]
          refine Dr.call (Φ := fun v w => BigR w v c.times) rfl (fun w => Enters.func rfl rfl rfl (run_enter Try.func14 (by kernel_rfl) rfl)) rfl (BigR.stable _) (fun w hG => of_big _ _ (by omega) (by omega)) ?_
          refine Dr.call1 (j := 4) (Φ := fun v w => BigR w v (limOf c.base c.times k)) rfl rfl rfl (fun u w => Enters.func rfl rfl rfl (run_enter Try.func16 (by kernel_rfl) rfl)) rfl (BigR.stable _) (fun u w hG hu => by rw [hL]; exact times_grow _ _ _ _ _ ⟨_, rfl, h10.step hG⟩ hu (small_big (by omega) (by omega)) (small_big (by omega) (by omega))) ?_
          refine Dr.nil ?_
          refine FinX.open (j := 5) rfl ?_
          intro u5
          refine FinX.done (F' := [(2, _), (3, _), (5, _), (6, _), (7, _), (8, _), (9, _), (10, _), (11, _), (12, _), (13, _), (14, _), (44, _), (82, _), (89, _)]) rfl ⟨rfl, rfl, rfl, rfl, rfl, rfl, rfl, rfl, rfl, rfl, rfl, rfl, rfl, rfl, rfl, trivial⟩ ?_
          intro w16 hw16 fw16
          replace bel := bel.step hw16
          replace k2 := k2.step hw16
          replace k3 := k3.step hw16
          replace k5 := k5.step hw16
          replace hT := hT.step hw16
          replace k8 := k8.step hw16
          replace k9 := k9.step hw16
          replace k10 := k10.step hw16
          replace h8 := h8.step hw16
          replace h9 := h9.step hw16
          replace h10 := h10.step hw16
          replace h39 := h39.step hw16
          replace k13 := k13.step hw16
          obtain ⟨m10', rfl, o10', h10'⟩ := (by assumption : True ∧ BigR _ _ _).2.agg
          have i10' := h10'.ni
          refine Seq.storeN rfl rfl rfl rfl (m := 2) (by kernel_rfl) rfl (by repeat' first | exact trivial | apply And.intro | rfl | assumption) k10 (by simp [Value.cells]) rfl rfl ?_
          intro w17 pw17
          replace bel := bel.put k10 pw17 e10
          replace k2 := k2.put pw17 (by omega)
          replace k3 := k3.put pw17 (by omega)
          replace k5 := k5.put pw17 (by omega)
          replace hT := hT.put k10 pw17 e10
          replace k8 := k8.put pw17 (by omega)
          replace k9 := k9.put pw17 (by omega)
          replace h8 := h8.put k10 pw17 e10
          replace h9 := h9.put k10 pw17 e10
          replace h10 := h10.put k10 pw17 e10
          replace h39 := h39.put k10 pw17 e10
          replace k13 := k13.put pw17 (by omega)
          replace h10' := h10'.put k10 pw17 e10
          replace k10 := pw17.blk
          refine Seq.nil ?_
          refine Post.weak (F' := [(2, _), (3, _), (5, _), (6, _), (7, _), (8, _), (9, _), (10, _), (11, _), (12, _), (13, _), (14, _), (44, _), (82, _)]) ⟨rfl, rfl, rfl, rfl, rfl, rfl, rfl, rfl, rfl, rfl, rfl, rfl, rfl, rfl, trivial⟩ ?_
          refine Post.join (m10', m10) ⟨rfl, rfl, rfl, rfl, rfl, rfl, rfl, rfl, rfl, rfl, rfl, trivial⟩ ⟨bel, k2, k3, k5, hT, k8, h8, k9, h9, k10, h10', ?_, ?_⟩
          · rw [hM]; exact k13
          · rw [hM]; exact h10
        · obtain rfl : k = 0 := by omega
          refine Cd.skip ?_
          exact Post.join (m10, m39) ⟨rfl, rfl, rfl, rfl, rfl, rfl, rfl, rfl, rfl, rfl, rfl, trivial⟩ ⟨bel, k2, k3, k5, hT, k8, h8, k9, h9, k10, h10, k13, h39⟩
      clear bel k2 k3 k5 hT k8 k9 k10 h8 h9 h10 h39 k13
      rintro ⟨m10', m13⟩ wr ⟨bel, k2, k3, k5, hT, k8, h8, k9, h9, k10, h10, k13, h13⟩
      dsimp only at bel k2 k3 k5 hT k8 h8 k9 h9 k10 h10 k13 h13
      have o8 := h8.one
      have i8 := h8.ni
      have o9 := h9.one
      have i9 := h9.ni
      have o10 := h10.one
      have i10 := h10.ni
      have o13 := h13.one
      have i13 := h13.ni
      refine Cd.seq ?_
      refine Cd.region ?_
      refine Seq.val (Runs.move rfl rfl) rfl rfl rfl ?_
      refine Seq.call (Enters.func rfl rfl rfl (run_enter Try.func14 (by kernel_rfl) rfl)) rfl rfl rfl (of_big _ _ (by omega) (by omega)) ?_
      rintro e w21 ⟨v91, rfl, hb21, h15⟩
      refine ⟨_, rfl, ?_⟩
      replace bel := bel.step hb21
      replace k2 := k2.step hb21
      replace k3 := k3.step hb21
      replace k5 := k5.step hb21
      replace hT := hT.step hb21
      replace k8 := k8.step hb21
      replace k9 := k9.step hb21
      replace k10 := k10.step hb21
      replace h8 := h8.step hb21
      replace h9 := h9.step hb21
      replace h10 := h10.step hb21
      replace k13 := k13.step hb21
      replace h13 := h13.step hb21
      obtain ⟨m15, rfl, o15, h15⟩ := h15.agg
      have i15 := h15.ni
      refine Seq.alloc rfl (run_zero zero_debentureref01_Big) rfl rfl rfl ?_
      intro g15 w14 n15
      have e15 := Nat.le_trans bel.size n15.ge
      have l15 := Nat.lt_of_lt_of_le k13.lt n15.ge
      replace bel := bel.step n15.below
      replace k2 := k2.step n15.below
      replace k3 := k3.step n15.below
      replace k5 := k5.step n15.below
      replace hT := hT.step n15.below
      replace k8 := k8.step n15.below
      replace k9 := k9.step n15.below
      replace k10 := k10.step n15.below
      replace h8 := h8.step n15.below
      replace h9 := h9.step n15.below
      replace h10 := h10.step n15.below
      replace k13 := k13.step n15.below
      replace h13 := h13.step n15.below
      replace h15 := h15.step n15.below
      have k15 := n15.blk
      refine Seq.storeN rfl rfl rfl rfl (m := 2) (by kernel_rfl) rfl (by repeat' first | exact trivial | apply And.intro | rfl | assumption) k15 (by simp [Value.cells]) rfl rfl ?_
      intro w15 pw15
      replace bel := bel.put k15 pw15 e15
      replace k2 := k2.put pw15 (by omega)
      replace k3 := k3.put pw15 (by omega)
      replace k5 := k5.put pw15 (by omega)
      replace hT := hT.put k15 pw15 e15
      replace k8 := k8.put pw15 (by omega)
      replace k9 := k9.put pw15 (by omega)
      replace k10 := k10.put pw15 (by omega)
      replace h8 := h8.put k15 pw15 e15
      replace h9 := h9.put k15 pw15 e15
      replace h10 := h10.put k15 pw15 e15
      replace k13 := k13.put pw15 (by omega)
      replace h13 := h13.put k15 pw15 e15
      replace h15 := h15.put k15 pw15 e15
      replace k15 := pw15.blk
      refine Seq.nil ?_
      refine Post.weak (F' := [(2, _), (3, _), (5, _), (6, _), (7, _), (8, _), (9, _), (10, _), (11, _), (12, _), (13, _), (15, _)]) ⟨rfl, rfl, rfl, rfl, rfl, rfl, rfl, rfl, rfl, rfl, rfl, rfl, trivial⟩ ?_
      refine Post.then_ ?_
      refine Cd.seq ?_
      refine Cd.seq ?_
      refine Cd.region ?_
      refine Seq.val (Runs.loadW rfl rfl Try.underlying43 rfl k15 (m := 2) (by kernel_rfl) rfl) rfl rfl rfl ?_
      refine Seq.val (Runs.loadW rfl rfl Try.underlying43 rfl k13 (m := 2) (by kernel_rfl) rfl) rfl rfl rfl ?_
      refine Seq.call (Enters.func rfl rfl rfl (run_enter Try.func17 (by kernel_rfl) rfl)) rfl rfl rfl (cmpB_any _ _ (scoreN fs k) (scoreM c k) _ ⟨_, rfl, h15⟩ ⟨_, rfl, h13⟩ (small_big (by omega) (by omega)) (small_big (by omega) (by omega))) ?_
      rintro e w22 ⟨rfl, hb22⟩
      refine ⟨_, rfl, ?_⟩
      replace bel := bel.step hb22
      replace k2 := k2.step hb22
      replace k3 := k3.step hb22
      replace k5 := k5.step hb22
      replace hT := hT.step hb22
      replace k8 := k8.step hb22
      replace k9 := k9.step hb22
      replace k10 := k10.step hb22
      replace h8 := h8.step hb22
      replace h9 := h9.step hb22
      replace h10 := h10.step hb22
      replace k13 := k13.step hb22
      replace h13 := h13.step hb22
      replace h15 := h15.step hb22
      replace k15 := k15.step hb22
      refine Seq.val (Runs.lss rfl rfl rfl) rfl rfl rfl ?_
      refine Seq.nil ?_
      refine Post.weak (F' := [(2, _), (3, _), (5, _), (6, _), (7, _), (8, _), (9, _), (10, _), (11, _), (12, _), (13, _), (15, _), (95, _)]) ⟨rfl, rfl, rfl, rfl, rfl, rfl, rfl, rfl, rfl, rfl, rfl, rfl, rfl, trivial⟩ ?_
      refine Post.then_ ?_
      refine Cd.condD rfl (fun hc => ?_) (fun hc => ?_)
      · have hlt := cmpZ_lt.1 hc
        have hst : pickTo fs c (k + 1) = pickTo fs c k := by rw [pick_step, if_neg (fun h => by omega)]
        refine Cd.exit ?_
        refine Post.then_exit ?_
        refine Post.block_exit ?_
        refine Post.then_ ?_
        refine Cd.region ?_
        refine Seq.val (Runs.move rfl rfl) rfl rfl rfl ?_
        refine Seq.val (Runs.addI rfl rfl rfl (by omega) (by omega)) rfl rfl rfl ?_
        refine Seq.val (Runs.assign rfl rfl) rfl rfl rfl ?_
        refine Seq.nil ?_
        refine Post.weak (F' := [(2, _), (3, _), (5, _), (6, _), (7, _), (8, _), (9, _), (10, _), (11, _), (12, _), (13, _), (15, _), (95, _)]) ⟨rfl, rfl, rfl, rfl, rfl, rfl, rfl, rfl, rfl, rfl, rfl, rfl, rfl, trivial⟩ ?_
        refine Post.round (k + 1, m8, m9, m10') ⟨rfl, rfl, rfl, rfl, by rw [hst]; rfl, rfl, rfl, rfl, rfl, trivial⟩ ⟨by dsimp only; omega, bel, k2, k3, k5, hT, ?_, ?_, ?_, ?_, k10, h10⟩ (by dsimp only; omega)
        · dsimp only; rw [hst]; exact k8
        · dsimp only; rw [hst]; exact h8
        · dsimp only; rw [hst]; exact k9
        · dsimp only; rw [hst]; exact h9
      · have hge := mt cmpZ_lt.2 hc
        by_cases hbest : (pickTo fs c k).1 < 0
        · have hst : pickTo fs c (k + 1) = ((k : Int), scoreN fs k, scoreM c k) := by rw [pick_step, if_pos ⟨by omega, .inl hbest⟩]
          refine Cd.skip ?_
          refine Post.then_ ?_
          refine Cd.seq ?_
          refine Cd.draw 12 (by kernel_rfl) [] (.inl rfl) rfl Grow Grow.refl (fun _ _ _ => Grow.trans) ?_
          intro w16 hw16 zw16
          replace bel := bel.step hw16
          replace k2 := k2.step hw16
          replace k3 := k3.step hw16
          replace k5 := k5.step hw16
          replace hT := hT.step hw16
          replace k8 := k8.step hw16
          replace k9 := k9.step hw16
          replace k10 := k10.step hw16
          replace h8 := h8.step hw16
          replace h9 := h9.step hw16
          replace h10 := h10.step hw16
          replace k13 := k13.step hw16
          replace h13 := h13.step hw16
          replace h15 := h15.step hw16
          replace k15 := k15.step hw16
          have zbel := bel.size
          have zlt := k15.lt
          refine Dr.val Grow.refl rfl (fun w hG => Runs.move rfl rfl) rfl ?_
          refine Dr.val Grow.refl rfl (fun w hG => (Runs.lss rfl rfl rfl).isT (hbest)) rfl ?_
          refine Dr.val Grow.refl rfl (fun w hG => Runs.move rfl rfl) rfl ?_
          refine Dr.skip rfl rfl rfl rfl rfl ?_
          refine Dr.skip rfl rfl rfl rfl rfl ?_
          refine Dr.skip rfl rfl rfl rfl rfl ?_
          refine Dr.skip rfl rfl rfl rfl rfl ?_
          refine Dr.skip rfl rfl rfl rfl rfl ?_
          refine Dr.skip rfl rfl rfl rfl rfl ?_
          refine Dr.skip rfl rfl rfl rfl rfl ?_
          refine Dr.skip rfl rfl rfl rfl rfl ?_
          refine Dr.val Grow.refl rfl (fun w hG => Runs.pickT rfl rfl rfl) rfl ?_
          refine Dr.nil ?_
          refine FinX.done (F' := [(2, _), (3, _), (5, _), (6, _), (7, _), (8, _), (9, _), (10, _), (11, _), (12, _), (13, _), (15, _), (95, _), (107, _)]) rfl ⟨rfl, rfl, rfl, rfl, rfl, rfl, rfl, rfl, rfl, rfl, rfl, rfl, rfl, rfl, trivial⟩ ?_
          intro w17 hw17 fw17
          replace bel := bel.step hw17
          replace k2 := k2.step hw17
          replace k3 := k3.step hw17
          replace k5 := k5.step hw17
          replace hT := hT.step hw17
          replace k8 := k8.step hw17
          replace k9 := k9.step hw17
          replace k10 := k10.step hw17
          replace h8 := h8.step hw17
          replace h9 := h9.step hw17
          replace h10 := h10.step hw17
          replace k13 := k13.step hw17
          replace h13 := h13.step hw17
          replace h15 := h15.step hw17
          replace k15 := k15.step hw17
          refine Seq.nil ?_
          refine Post.weak (F' := [(2, _), (3, _), (5, _), (6, _), (7, _), (8, _), (9, _), (10, _), (11, _), (12, _), (13, _), (15, _), (95, _), (107, _)]) ⟨rfl, rfl, rfl, rfl, rfl, rfl, rfl, rfl, rfl, rfl, rfl, rfl, rfl, rfl, trivial⟩ ?_
          refine Post.then_ ?_
          refine Cd.condT rfl rfl ?_
          refine Cd.seq ?_
          refine Cd.region ?_
          refine Seq.val (Runs.move rfl rfl) rfl rfl rfl ?_
          refine Seq.val (Runs.assign rfl rfl) rfl rfl rfl ?_
          refine Seq.nil ?_
          refine Post.weak (F' := [(2, _), (3, _), (5, _), (6, _), (7, _), (8, _), (9, _), (10, _), (11, _), (12, _), (13, _), (15, _), (95, _), (107, _)]) ⟨rfl, rfl, rfl, rfl, rfl, rfl, rfl, rfl, rfl, rfl, rfl, rfl, rfl, rfl, trivial⟩ ?_
          refine Post.then_ ?_
          refine Cd.seq ?_
          refine Cd.region ?_
          refine Seq.val (Runs.loadW rfl rfl Try.underlying43 rfl k15 (m := 2) (by kernel_rfl) rfl) rfl rfl rfl ?_
          refine Seq.storeN rfl rfl rfl rfl (m := 2) (by kernel_rfl) rfl (by repeat' first | exact trivial | apply And.intro | rfl | assumption) k8 (by simp [Value.cells]) rfl rfl ?_
          intro w18 pw18
          replace bel := bel.put k8 pw18 e8
          replace k2 := k2.put pw18 (by omega)
          replace k3 := k3.put pw18 (by omega)
          replace k5 := k5.put pw18 (by omega)
          replace hT := hT.put k8 pw18 e8
          replace k9 := k9.put pw18 (by omega)
          replace k10 := k10.put pw18 (by omega)
          replace h8 := h8.put k8 pw18 e8
          replace h9 := h9.put k8 pw18 e8
          replace h10 := h10.put k8 pw18 e8
          replace k13 := k13.put pw18 (by omega)
          replace h13 := h13.put k8 pw18 e8
          replace h15 := h15.put k8 pw18 e8
          replace k15 := k15.put pw18 (by omega)
          replace k8 := pw18.blk
          refine Seq.nil ?_
          refine Post.weak (F' := [(2, _), (3, _), (5, _), (6, _), (7, _), (8, _), (9, _), (10, _), (11, _), (12, _), (13, _), (15, _), (95, _), (107, _)]) ⟨rfl, rfl, rfl, rfl, rfl, rfl, rfl, rfl, rfl, rfl, rfl, rfl, rfl, rfl, trivial⟩ ?_
          refine Post.then_ ?_
          refine Cd.region ?_
          refine Seq.val (Runs.loadW rfl rfl Try.underlying43 rfl k13 (m := 2) (by kernel_rfl) rfl) rfl rfl rfl ?_
          refine Seq.storeN rfl rfl rfl rfl (m := 2) (by kernel_rfl) rfl (by repeat' first | exact trivial | apply And.intro | rfl | assumption) k9 (by simp [Value.cells]) rfl rfl ?_
          intro w19 pw19
          replace bel := bel.put k9 pw19 e9
          replace k2 := k2.put pw19 (by omega)
          replace k3 := k3.put pw19 (by omega)
          replace k5 := k5.put pw19 (by omega)
          replace hT := hT.put k9 pw19 e9
          replace k8 := k8.put pw19 (by omega)
          replace k10 := k10.put pw19 (by omega)
          replace h8 := h8.put k9 pw19 e9
          replace h9 := h9.put k9 pw19 e9
          replace h10 := h10.put k9 pw19 e9
          replace k13 := k13.put pw19 (by omega)
          replace h13 := h13.put k9 pw19 e9
          replace h15 := h15.put k9 pw19 e9
          replace k15 := k15.put pw19 (by omega)
          replace k9 := pw19.blk
          refine Seq.nil ?_
          refine Post.weak (F' := [(2, _), (3, _), (5, _), (6, _), (7, _), (8, _), (9, _), (10, _), (11, _), (12, _), (13, _), (15, _), (95, _), (107, _)]) ⟨rfl, rfl, rfl, rfl, rfl, rfl, rfl, rfl, rfl, rfl, rfl, rfl, rfl, rfl, trivial⟩ ?_
          refine Post.block_normal ?_
          refine Post.then_ ?_
          refine Cd.region ?_
          refine Seq.val (Runs.move rfl rfl) rfl rfl rfl ?_
          refine Seq.val (Runs.addI rfl rfl rfl (by omega) (by omega)) rfl rfl rfl ?_
          refine Seq.val (Runs.assign rfl rfl) rfl rfl rfl ?_
          refine Seq.nil ?_
          refine Post.weak (F' := [(2, _), (3, _), (5, _), (6, _), (7, _), (8, _), (9, _), (10, _), (11, _), (12, _), (13, _), (15, _), (95, _), (107, _)]) ⟨rfl, rfl, rfl, rfl, rfl, rfl, rfl, rfl, rfl, rfl, rfl, rfl, rfl, rfl, trivial⟩ ?_
          refine Post.round (k + 1, m15, m13, m10') ⟨rfl, rfl, rfl, rfl, by rw [hst]; rfl, rfl, rfl, rfl, rfl, trivial⟩ ⟨by dsimp only; omega, bel, k2, k3, k5, hT, ?_, ?_, ?_, ?_, k10, h10⟩ (by dsimp only; omega)
          · dsimp only; rw [hst]; exact k8
          · dsimp only; rw [hst]; exact h15
          · dsimp only; rw [hst]; exact k9
          · dsimp only; rw [hst]; exact h13
        · skip
          refine Cd.skip ?_
          refine Post.then_ ?_
          refine Cd.seq ?_
          refine Cd.draw 12 (by kernel_rfl) [] (.inl rfl) rfl Grow Grow.refl (fun _ _ _ => Grow.trans) ?_
          intro w16 hw16 zw16
          replace bel := bel.step hw16
          replace k2 := k2.step hw16
          replace k3 := k3.step hw16
          replace k5 := k5.step hw16
          replace hT := hT.step hw16
          replace k8 := k8.step hw16
          replace k9 := k9.step hw16
          replace k10 := k10.step hw16
          replace h8 := h8.step hw16
          replace h9 := h9.step hw16
          replace h10 := h10.step hw16
          replace k13 := k13.step hw16
          replace h13 := h13.step hw16
          replace h15 := h15.step hw16
          replace k15 := k15.step hw16
          have zbel := bel.size
          have zlt := k15.lt
          refine Dr.val Grow.refl rfl (fun w hG => Runs.move rfl rfl) rfl ?_
          refine Dr.val Grow.refl rfl (fun w hG => (Runs.lss rfl rfl rfl).isF (hbest)) rfl ?_
          refine Dr.val Grow.refl rfl (fun w hG => Runs.move rfl rfl) rfl ?_
          refine Dr.valG Grow.refl rfl (fun w hG => Runs.loadW rfl rfl Try.underlying43 rfl (k15.step hG) (m := 2) (by kernel_rfl) rfl) rfl rfl rfl ?_
          refine Dr.valG Grow.refl rfl (fun w hG => Runs.loadW rfl rfl Try.underlying43 rfl (k9.step hG) (m := 2) (by kernel_rfl) rfl) rfl rfl rfl ?_
          refine Dr.callG (Φ := fun v w => BigR w v (scoreN fs k * (pickTo fs c k).2.2)) rfl (fun w => Enters.func rfl rfl rfl (run_enter Try.func16 (by kernel_rfl) rfl)) rfl rfl rfl (BigR.stable _) (fun w hG => times_grow _ _ _ _ _ ⟨_, rfl, h15.step hG⟩ ⟨_, rfl, h9.step hG⟩ (small_big (by omega) (by omega)) (small_big (by omega) (by omega))) ?_
          refine Dr.valG Grow.refl rfl (fun w hG => Runs.loadW rfl rfl Try.underlying43 rfl (k8.step hG) (m := 2) (by kernel_rfl) rfl) rfl rfl rfl ?_
          refine Dr.valG Grow.refl rfl (fun w hG => Runs.loadW rfl rfl Try.underlying43 rfl (k13.step hG) (m := 2) (by kernel_rfl) rfl) rfl rfl rfl ?_
          refine Dr.callG (Φ := fun v w => BigR w v ((pickTo fs c k).2.1 * scoreM c k)) rfl (fun w => Enters.func rfl rfl rfl (run_enter Try.func16 (by kernel_rfl) rfl)) rfl rfl rfl (BigR.stable _) (fun w hG => times_grow _ _ _ _ _ ⟨_, rfl, h8.step hG⟩ ⟨_, rfl, h13.step hG⟩ (small_big (by omega) (by omega)) (small_big (by omega) (by omega))) ?_
          refine Dr.call2VG (j := 5) (j' := 8) rfl rfl rfl rfl rfl (fun u u' w => Enters.func rfl rfl rfl (run_enter Try.func17 (by kernel_rfl) rfl)) rfl rfl (fun _ _ => rfl) (fun u u' w hG hu hu' => cmpB_grow _ _ _ _ _ hu hu' (natAbs_big_mul (by omega) (by omega) (by omega) (by omega)) (natAbs_big_mul (by omega) (by omega) (by omega) (by omega))) ?_
          refine Dr.valG Grow.refl rfl (fun w hG => Runs.gtr rfl rfl rfl) rfl rfl rfl ?_
          refine Dr.val Grow.refl rfl (fun w hG => Runs.pickF rfl rfl rfl) rfl ?_
          refine Dr.nil ?_
          refine FinX.done (F' := [(2, _), (3, _), (5, _), (6, _), (7, _), (8, _), (9, _), (10, _), (11, _), (12, _), (13, _), (15, _), (95, _), (107, _)]) rfl ⟨rfl, rfl, rfl, rfl, rfl, rfl, rfl, rfl, rfl, rfl, rfl, rfl, rfl, rfl, trivial⟩ ?_
          intro w17 hw17 fw17
          replace bel := bel.step hw17
          replace k2 := k2.step hw17
          replace k3 := k3.step hw17
          replace k5 := k5.step hw17
          replace hT := hT.step hw17
          replace k8 := k8.step hw17
          replace k9 := k9.step hw17
          replace k10 := k10.step hw17
          replace h8 := h8.step hw17
          replace h9 := h9.step hw17
          replace h10 := h10.step hw17
          replace k13 := k13.step hw17
          replace h13 := h13.step hw17
          replace h15 := h15.step hw17
          replace k15 := k15.step hw17
          refine Seq.nil ?_
          refine Post.weak (F' := [(2, _), (3, _), (5, _), (6, _), (7, _), (8, _), (9, _), (10, _), (11, _), (12, _), (13, _), (15, _), (95, _), (107, _)]) ⟨rfl, rfl, rfl, rfl, rfl, rfl, rfl, rfl, rfl, rfl, rfl, rfl, rfl, rfl, trivial⟩ ?_
          refine Post.then_ ?_
          refine Cd.condD rfl (fun hc => ?_) (fun hc => ?_)
          · have hgt := cmpZ_gt.1 hc
            have hst : pickTo fs c (k + 1) = ((k : Int), scoreN fs k, scoreM c k) := by rw [pick_step, if_pos ⟨by omega, .inr hgt⟩]
            refine Cd.seq ?_
            refine Cd.region ?_
            refine Seq.val (Runs.move rfl rfl) rfl rfl rfl ?_
            refine Seq.val (Runs.assign rfl rfl) rfl rfl rfl ?_
            refine Seq.nil ?_
            refine Post.weak (F' := [(2, _), (3, _), (5, _), (6, _), (7, _), (8, _), (9, _), (10, _), (11, _), (12, _), (13, _), (15, _), (95, _), (107, _)]) ⟨rfl, rfl, rfl, rfl, rfl, rfl, rfl, rfl, rfl, rfl, rfl, rfl, rfl, rfl, trivial⟩ ?_
            refine Post.then_ ?_
            refine Cd.seq ?_
            refine Cd.region ?_
            refine Seq.val (Runs.loadW rfl rfl Try.underlying43 rfl k15 (m := 2) (by kernel_rfl) rfl) rfl rfl rfl ?_
            refine Seq.storeN rfl rfl rfl rfl (m := 2) (by kernel_rfl) rfl (by repeat' first | exact trivial | apply And.intro | rfl | assumption) k8 (by simp [Value.cells]) rfl rfl ?_
            intro w18 pw18
            replace bel := bel.put k8 pw18 e8
            replace k2 := k2.put pw18 (by omega)
            replace k3 := k3.put pw18 (by omega)
            replace k5 := k5.put pw18 (by omega)
            replace hT := hT.put k8 pw18 e8
            replace k9 := k9.put pw18 (by omega)
            replace k10 := k10.put pw18 (by omega)
            replace h8 := h8.put k8 pw18 e8
            replace h9 := h9.put k8 pw18 e8
            replace h10 := h10.put k8 pw18 e8
            replace k13 := k13.put pw18 (by omega)
            replace h13 := h13.put k8 pw18 e8
            replace h15 := h15.put k8 pw18 e8
            replace k15 := k15.put pw18 (by omega)
            replace k8 := pw18.blk
            refine Seq.nil ?_
            refine Post.weak (F' := [(2, _), (3, _), (5, _), (6, _), (7, _), (8, _), (9, _), (10, _), (11, _), (12, _), (13, _), (15, _), (95, _), (107, _)]) ⟨rfl, rfl, rfl, rfl, rfl, rfl, rfl, rfl, rfl, rfl, rfl, rfl, rfl, rfl, trivial⟩ ?_
            refine Post.then_ ?_
            refine Cd.region ?_
            refine Seq.val (Runs.loadW rfl rfl Try.underlying43 rfl k13 (m := 2) (by kernel_rfl) rfl) rfl rfl rfl ?_
            refine Seq.storeN rfl rfl rfl rfl (m := 2) (by kernel_rfl) rfl (by repeat' first | exact trivial | apply And.intro | rfl | assumption) k9 (by simp [Value.cells]) rfl rfl ?_
            intro w19 pw19
            replace bel := bel.put k9 pw19 e9
            replace k2 := k2.put pw19 (by omega)
            replace k3 := k3.put pw19 (by omega)
            replace k5 := k5.put pw19 (by omega)
            replace hT := hT.put k9 pw19 e9
            replace k8 := k8.put pw19 (by omega)
            replace k10 := k10.put pw19 (by omega)
            replace h8 := h8.put k9 pw19 e9
            replace h9 := h9.put k9 pw19 e9
            replace h10 := h10.put k9 pw19 e9
            replace k13 := k13.put pw19 (by omega)
            replace h13 := h13.put k9 pw19 e9
            replace h15 := h15.put k9 pw19 e9
            replace k15 := k15.put pw19 (by omega)
            replace k9 := pw19.blk
            refine Seq.nil ?_
            refine Post.weak (F' := [(2, _), (3, _), (5, _), (6, _), (7, _), (8, _), (9, _), (10, _), (11, _), (12, _), (13, _), (15, _), (95, _), (107, _)]) ⟨rfl, rfl, rfl, rfl, rfl, rfl, rfl, rfl, rfl, rfl, rfl, rfl, rfl, rfl, trivial⟩ ?_
            refine Post.block_normal ?_
            refine Post.then_ ?_
            refine Cd.region ?_
            refine Seq.val (Runs.move rfl rfl) rfl rfl rfl ?_
            refine Seq.val (Runs.addI rfl rfl rfl (by omega) (by omega)) rfl rfl rfl ?_
            refine Seq.val (Runs.assign rfl rfl) rfl rfl rfl ?_
            refine Seq.nil ?_
            refine Post.weak (F' := [(2, _), (3, _), (5, _), (6, _), (7, _), (8, _), (9, _), (10, _), (11, _), (12, _), (13, _), (15, _), (95, _), (107, _)]) ⟨rfl, rfl, rfl, rfl, rfl, rfl, rfl, rfl, rfl, rfl, rfl, rfl, rfl, rfl, trivial⟩ ?_
            refine Post.round (k + 1, m15, m13, m10') ⟨rfl, rfl, rfl, rfl, by rw [hst]; rfl, rfl, rfl, rfl, rfl, trivial⟩ ⟨by dsimp only; omega, bel, k2, k3, k5, hT, ?_, ?_, ?_, ?_, k10, h10⟩ (by dsimp only; omega)
            · dsimp only; rw [hst]; exact k8
            · dsimp only; rw [hst]; exact h15
            · dsimp only; rw [hst]; exact k9
            · dsimp only; rw [hst]; exact h13
          · have hgt := mt cmpZ_gt.2 hc
            have hst : pickTo fs c (k + 1) = pickTo fs c k := by rw [pick_step, if_neg (fun h => by rcases h.2 with h | h; exact hbest h; exact hgt h)]
            refine Cd.skip ?_
            refine Post.block_normal ?_
            refine Post.then_ ?_
            refine Cd.region ?_
            refine Seq.val (Runs.move rfl rfl) rfl rfl rfl ?_
            refine Seq.val (Runs.addI rfl rfl rfl (by omega) (by omega)) rfl rfl rfl ?_
            refine Seq.val (Runs.assign rfl rfl) rfl rfl rfl ?_
            refine Seq.nil ?_
            refine Post.weak (F' := [(2, _), (3, _), (5, _), (6, _), (7, _), (8, _), (9, _), (10, _), (11, _), (12, _), (13, _), (15, _), (95, _), (107, _)]) ⟨rfl, rfl, rfl, rfl, rfl, rfl, rfl, rfl, rfl, rfl, rfl, rfl, rfl, rfl, trivial⟩ ?_
            refine Post.round (k + 1, m8, m9, m10') ⟨rfl, rfl, rfl, rfl, by rw [hst]; rfl, rfl, rfl, rfl, rfl, trivial⟩ ⟨by dsimp only; omega, bel, k2, k3, k5, hT, ?_, ?_, ?_, ?_, k10, h10⟩ (by dsimp only; omega)
            · dsimp only; rw [hst]; exact k8
            · dsimp only; rw [hst]; exact h8
            · dsimp only; rw [hst]; exact k9
            · dsimp only; rw [hst]; exact h9
  · obtain rfl : k = 4 := by omega
    refine Cd.exit ?_
    refine Post.then_exit ?_
    refine Post.round_exit ?_
    refine Post.block_exit ?_
    refine Post.then_ ?_
    refine Cd.seq ?_
    refine Cd.region ?_
    refine Seq.val (Runs.loadW rfl rfl Try.underlying24 rfl k2 (m := 4) (by kernel_rfl) rfl) rfl rfl rfl ?_
    refine Seq.val (Runs.move rfl rfl) rfl rfl rfl ?_
    refine Seq.val (Runs.loadW rfl rfl Try.underlying29 rfl k5 (m := 4) (by kernel_rfl) rfl) rfl rfl rfl ?_
    refine Seq.val (Runs.move rfl rfl) rfl rfl rfl ?_
    refine Seq.call (Enters.func rfl rfl rfl (run_enter Try.func12 (by kernel_rfl) rfl)) rfl rfl rfl (takes_any w.heap.size A len cap fs lg nx sq _ _ _ _ (by omega) (hr.below bel) bel.size hT.takes) ?_
    rintro e w30 ⟨rfl, hb30⟩
    refine ⟨_, rfl, ?_⟩
    replace bel := bel.step hb30
    replace k2 := k2.step hb30
    replace k3 := k3.step hb30
    replace k5 := k5.step hb30
    replace hT := hT.step hb30
    replace k8 := k8.step hb30
    replace k9 := k9.step hb30
    replace k10 := k10.step hb30
    replace h8 := h8.step hb30
    replace h9 := h9.step hb30
    replace h10 := h10.step hb30
    refine Seq.val (Runs.move rfl rfl) rfl rfl rfl ?_
    refine Seq.callG (Enters.func rfl rfl rfl (run_enter Try.func9 (by kernel_rfl) rfl)) rfl rfl rfl rfl rfl (awake_any _) ?_
    rintro e w31 ⟨rfl, hb31⟩
    refine ⟨_, rfl, ?_⟩
    replace bel := bel.step hb31
    replace k2 := k2.step hb31
    replace k3 := k3.step hb31
    replace k5 := k5.step hb31
    replace hT := hT.step hb31
    replace k8 := k8.step hb31
    replace k9 := k9.step hb31
    replace k10 := k10.step hb31
    replace h8 := h8.step hb31
    replace h9 := h9.step hb31
    replace h10 := h10.step hb31
    refine Seq.val (Runs.pickT rfl rfl rfl) rfl rfl rfl ?_
    refine Seq.val (Runs.assign rfl rfl) rfl rfl rfl ?_
    refine Seq.nil ?_
    refine Post.weak (F' := [(2, _), (3, _), (4, _), (5, _), (6, _), (7, _), (8, _), (9, _), (10, _), (11, _), (33, _)]) ⟨rfl, rfl, rfl, rfl, rfl, rfl, rfl, rfl, rfl, rfl, rfl, trivial⟩ ?_
    refine Post.then_ ?_
    refine Cd.ret ?_
    refine Post.end1 rfl rfl (.inl rfl) ?_
    exact ⟨rfl, bel⟩
set_option maxRecDepth 100000 in
theorem open_cfg2 {H : Type} {enc : TypeId × Value → H} {W : World} {base : Nat} {v : Value} {d : DataW H} {p : List MemPlace} (hv : Value.okWide Try.prog W .any base 39 v)
    (h : DataW.Trod enc Try.prog W 0 (fun _ => true) true 39 v d p) : ∃ c : Cfg, v = .agg #[.int .i64 c.zero, .int .i64 c.base, .int .i64 c.times, .int .i64 c.table] := by
  obtain ⟨c0, c1, c2, c3, y0, y1, y2, y3, m, rfl, -, -, hy0, hy1, hy2, hy3⟩ := Joins.open_agg4 Try.underlying39 (by kernel_rfl) (by kernel_rfl) hv h
  obtain ⟨x0, e0, -, -⟩ := DataW.trod_int Try.underlying3 hy0
  obtain ⟨x1, e1, -, -⟩ := DataW.trod_int Try.underlying3 hy1
  obtain ⟨x2, e2, -, -⟩ := DataW.trod_int Try.underlying3 hy2
  obtain ⟨x3, e3, -, -⟩ := DataW.trod_int Try.underlying3 hy3
  simp at e0 e1 e2 e3
  subst e0 e1 e2 e3
  exact ⟨⟨x0, x1, x2, x3⟩, rfl⟩

namespace LevelPicks
theorem own : ownKnob Try.prog.godebug = none := by kernel_rfl
theorem laidOut : laidOutB Try.prog = true := by kernel_rfl
set_option maxRecDepth 100000 in
theorem lifted (os : Os) (started : os.Started) (H : Type) (enc : TypeId × Value → H) :
    ReturnsInHanded {} Try.checked os 4 .any (Rows.levelPicksSpec.pre6 enc Try.prog Try.f4 Rows.levelPicksRow.domain false) (Rows.levelPicksSpec.post enc Try.prog Try.f4 false true false false) := by
  refine returnsInHanded_of_change (C := Try.checked) own started (by kernel_rfl) Try.func4
    (ChangeSpec.witness6 (enc := enc) (C := Try.checked) false ⟨#[], #[.agg #[.int .i64 0, .int .i64 0, .int .i64 0, .slice none 0 0], .agg #[.int .i64 0, .int .i64 0, .int .i64 0, .int .i64 0]], []⟩ 8 (by kernel_rfl) (by kernel_rfl) (by kernel_rfl) (by kernel_rfl)) ?_
  intro W base args ds gs before hval0 hW hcnd _
  have hval : ∀ (j : Nat) t v, Try.f4.params[j]? = some t → args[j]? = some v → Value.okWide Try.prog W .any base t v := hval0
  have hW' := hW
  obtain ⟨p, q, hA0, hV, rfl, hfz, hnd⟩ := hW
  have hA : DataW.TrodAll enc Try.prog W 0 (fun _ => true) true Try.f4.params.toList args.toList ds p := hA0
  rw [Try.params4] at hA hval
  obtain ⟨v0, vs0, d0, ds0, p0, q0, hargs, rfl, rfl, h0, r0⟩ := trodAll_cons hA
  obtain ⟨v1, vs1, d1, ds1, p1, q1, rfl, rfl, rfl, h1, r1⟩ := trodAll_cons r0
  obtain ⟨rfl, rfl, rfl⟩ := trodAll_nil r1
  obtain rfl : args = #[v0, v1] := by cases args; simp_all
  obtain ⟨rfl, rfl⟩ := trodVars_none hV
  have k0 := h0
  have lt0 : ∀ x ∈ p0, x.block < W.heap.size := by obtain ⟨m, hm⟩ := k0; exact DataW.trod_lt m _ _ _ hm
  have k1 := h1
  have lt1 : ∀ x ∈ p1, x.block < W.heap.size := by obtain ⟨m, hm⟩ := k1; exact DataW.trod_lt m _ _ _ hm
  obtain ⟨lg, nx, sq, A, len, cap, fs, rfl, hr⟩ := open_version (hval 0 _ v0 rfl rfl) h0
  obtain ⟨c, rfl⟩ := open_cfg2 (hval 1 _ v1 rfl rfl) h1
  clear hA0 hval0
  refine (walk_picks A len cap fs lg nx sq c W hr).mono fun e W' ⟨he, bel⟩ => ?_
  subst he
  exact ⟨_, rfl, _, _, _, [], _, [], hW', trodAll_mk1 (shut_bool Try.underlying4 _), (trodAll_cons_mk (Below.trod laidOut (by kernel_rfl) (of_decide_eq_true (by kernel_rfl)) k0 bel lt0) (trodAll_cons_mk (Below.trod laidOut (by kernel_rfl) (of_decide_eq_true (by kernel_rfl)) k1 bel lt1) trodAll_mk0)), rfl, bel.frame _, fun h => by cases h⟩

theorem over : Rows.levelPicksRow.holds Try.pinned (OpenSpec.ofChange Rows.levelPicksSpec) :=
  OpenClaim.holds_of_wide 4 Try.f4 rfl rfl rfl rfl rfl rfl rfl ⟨rfl, rfl, rfl, rfl, rfl⟩ rfl rfl rfl rfl rfl (by kernel_rfl) Try.func4 (by kernel_rfl)
    (of_decide_eq_true (by kernel_rfl)) (by unfold Func.isWrapper; first | (rw [if_pos (by decide +kernel)]; kernel_rfl) | (rw [if_neg (by decide +kernel)]; exact ⟨rfl, rfl⟩))
    (fun os started H enc _ => lifted os started H enc)

theorem proved : Rows.LevelPicksSaid := over

end LevelPicks
end Go.Proofs.Ytpbkbkgankplbaa

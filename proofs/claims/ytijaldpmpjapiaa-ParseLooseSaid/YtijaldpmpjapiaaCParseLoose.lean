/-
  ParseLoose: with parentheses around an expression, and blanks and a remark, it is the same: the statement returns true. No condition.
-/
import Derived.Test.YtijaldpmpjapiaaC6
namespace Go.Proofs.Ytijaldpmpjapiaa
open Go.ChangeShapes Go.WideShapes Go.ChangeAt Go.RowKit

theorem parseX_zero {l : List Nat} (h : (parseX l).2.2 = 0) : ∃ x, parseX l = (x, 0, 0) := by
  unfold parseX at h ⊢
  by_cases h1 : (parAt l (exprQ (lexAll l).1)).2 ≠ 0
  · rw [if_pos h1] at h; exact absurd h h1
  · rw [if_neg h1] at h ⊢
    cases hr : exprQ (lexAll l).1 with
    | out => exact ⟨_, rfl⟩
    | bad p ov => exact ⟨_, rfl⟩
    | ok x p =>
      rw [hr] at h
      dsimp only at h ⊢
      by_cases h2 : rightB x = true
      · rw [if_pos h2]; exact ⟨_, rfl⟩
      · rw [if_neg h2] at h; cases h
theorem walk_ploose (l : List Nat) (n : Nat) (w : World) (hl : ∀ x ∈ l, x < 256) (hlen : l.length ≤ 9223372036854775807) (hn : n < 256) :
    Calls Try.prog 11 #[.string (strOf l), .int .u8 (n : Int)] w fun e w' => e = .returned (.bool true) ∧ Below w.heap.size w w' := by
  have bel := Below.refl w.heap.size w
  have hps := parseExpr_any l w hl hlen
  refine Calls.start 57 Try.func11 rfl rfl rfl ?_
  refine Cd.seq ?_
  refine Cd.region ?_
  refine Seq.val (Runs.assign rfl rfl) rfl rfl rfl ?_
  refine Seq.nil ?_
  refine Post.weak (F' := [(0, _), (1, _), (4, _)]) ⟨rfl, rfl, rfl, trivial⟩ ?_
  refine Post.then_ ?_
  refine Cd.seq ?_
  refine Cd.seq ?_
  refine Cd.region ?_
  refine Seq.val (Runs.move rfl rfl) rfl rfl rfl ?_
  refine Seq.val (Runs.lenL rfl rfl Try.underlying9) rfl rfl rfl ?_
  refine Seq.val (Runs.gtr rfl rfl rfl) rfl rfl rfl ?_
  refine Seq.nil ?_
  refine Post.weak (F' := [(0, _), (1, _), (4, _), (15, _)]) ⟨rfl, rfl, rfl, rfl, trivial⟩ ?_
  refine Post.then_ ?_
  refine Cd.condD rfl (fun h => ?_) (fun h => ?_)
  · skip
    refine Cd.seq ?_
    refine Cd.region ?_
    refine Seq.call (Enters.func rfl rfl rfl (run_enter Try.func35 (by kernel_rfl) rfl)) rfl rfl rfl (awake19_any _) ?_
    rintro e w9 ⟨rfl, hb9⟩
    refine ⟨_, rfl, ?_⟩
    replace bel := bel.step hb9
    refine Seq.val (Runs.assign rfl rfl) rfl rfl rfl ?_
    refine Seq.nil ?_
    refine Post.weak (F' := [(0, _), (1, _), (4, _), (15, _)]) ⟨rfl, rfl, rfl, rfl, trivial⟩ ?_
    refine Post.then_ ?_
    refine Cd.ret ?_
    refine Post.then_ret ?_
    refine Post.end1 rfl rfl (.inl rfl) ?_
    exact ⟨rfl, bel⟩
  have h1000 : l.length ≤ 1000 := by omega
  clear h
  refine Cd.skip ?_
  refine Post.then_ ?_
  refine Cd.seq ?_
  refine Cd.region ?_
  refine Seq.val (Runs.move rfl rfl) rfl rfl rfl ?_
  refine Seq.call (Enters.func rfl rfl rfl (run_enter Try.func36 (by kernel_rfl) rfl)) rfl rfl rfl (hps) ?_
  rintro en w5 ⟨hb5, v, S, rfl, hrep, hS⟩
  obtain ⟨er, her⟩ : ∃ er, (parseX l).2.2 = er := ⟨_, rfl⟩
  rw [her]
  obtain ⟨A, c, rfl⟩ := hrep.form
  refine ⟨_, rfl, ?_⟩
  have bel5 := hb5
  clear bel
  have bel := Below.refl w5.heap.size w5
  by_cases he : er ≠ 0
  · skip
    refine Seq.val (Runs.move rfl rfl) rfl rfl rfl ?_
    refine Seq.val (Runs.extract rfl rfl rfl) rfl rfl rfl ?_
    refine Seq.val (Runs.extract rfl rfl rfl) rfl rfl rfl ?_
    refine Seq.val (Runs.extract rfl rfl rfl) rfl rfl rfl ?_
    refine Seq.alloc rfl (run_zero zero_api_Expr) rfl rfl rfl ?_
    intro g5 w1 n5
    have e5 := Nat.le_trans bel.size n5.ge
    replace bel := bel.step n5.below
    have k5 := n5.blk
    refine Seq.storeN rfl rfl rfl rfl (m := 4) (by kernel_rfl) rfl (by repeat' first | exact trivial | apply And.intro | rfl | assumption) k5 (by simp [Value.cells]) rfl rfl ?_
    intro w2 pw2
    replace bel := bel.put k5 pw2 e5
    replace k5 := pw2.blk
    refine Seq.val (Runs.assign rfl rfl) rfl rfl rfl ?_
    refine Seq.val (Runs.assign rfl rfl) rfl rfl rfl ?_
    refine Seq.nil ?_
    refine Post.weak (F' := [(0, _), (1, _), (4, _), (5, _), (7, _), (15, _)]) ⟨rfl, rfl, rfl, rfl, rfl, rfl, trivial⟩ ?_
    refine Post.then_ ?_
    refine Cd.seq ?_
    refine Cd.seq ?_
    refine Cd.region ?_
    refine Seq.val (Runs.move rfl rfl) rfl rfl rfl ?_
    refine Seq.val (Runs.neqI rfl rfl rfl) rfl rfl rfl ?_
    refine Seq.nil ?_
    refine Post.weak (F' := [(0, _), (1, _), (4, _), (5, _), (7, _), (15, _), (24, _)]) ⟨rfl, rfl, rfl, rfl, rfl, rfl, rfl, trivial⟩ ?_
    refine Post.then_ ?_
    refine Cd.condT rfl (by simp [he]) ?_
    refine Cd.seq ?_
    refine Cd.region ?_
    refine Seq.call (Enters.func rfl rfl rfl (run_enter Try.func35 (by kernel_rfl) rfl)) rfl rfl rfl (awake19_any _) ?_
    rintro e w9 ⟨rfl, hb9⟩
    refine ⟨_, rfl, ?_⟩
    replace bel := bel.step hb9
    replace k5 := k5.step hb9
    refine Seq.val (Runs.assign rfl rfl) rfl rfl rfl ?_
    refine Seq.nil ?_
    refine Post.weak (F' := [(0, _), (1, _), (4, _), (5, _), (7, _), (15, _), (24, _)]) ⟨rfl, rfl, rfl, rfl, rfl, rfl, rfl, trivial⟩ ?_
    refine Post.then_ ?_
    refine Cd.ret ?_
    refine Post.then_ret ?_
    refine Post.end1 rfl rfl (.inl rfl) ?_
    exact ⟨rfl, bel5.trans (bel.mono bel5.size)⟩
  obtain rfl : er = 0 := Decidable.of_not_not he
  obtain ⟨x, hx⟩ := parseX_zero her
  have hlo := fun i hi => Loose.wrapN (.inl hx : Loose x l) h1000 i hi
  have hrb := RepE.mono (w' := w5) (S' := (· < w5.heap.size)) hrep (fun b hb => (hS b hb).2) (fun _ _ => rfl)
  rw [hx] at hrb ⊢
  have hrb : Rep w5 w5.heap.size x (.agg #[.int .i64 x.op, .int .i64 x.n, .string (strOf x.name), .slice A x.args.length c]) := hrb
  dsimp only
  refine Seq.val (Runs.move rfl rfl) rfl rfl rfl ?_
  refine Seq.val (Runs.extract rfl rfl rfl) rfl rfl rfl ?_
  refine Seq.val (Runs.extract rfl rfl rfl) rfl rfl rfl ?_
  refine Seq.val (Runs.extract rfl rfl rfl) rfl rfl rfl ?_
  refine Seq.alloc rfl (run_zero zero_api_Expr) rfl rfl rfl ?_
  intro g5 w1 n5
  have e5 := Nat.le_trans bel.size n5.ge
  replace bel := bel.step n5.below
  have k5 := n5.blk
  refine Seq.storeN rfl rfl rfl rfl (m := 4) (by kernel_rfl) rfl (by repeat' first | exact trivial | apply And.intro | rfl | assumption) k5 (by simp [Value.cells]) rfl rfl ?_
  intro w2 pw2
  replace bel := bel.put k5 pw2 e5
  replace k5 := pw2.blk
  refine Seq.val (Runs.assign rfl rfl) rfl rfl rfl ?_
  refine Seq.val (Runs.assign rfl rfl) rfl rfl rfl ?_
  refine Seq.nil ?_
  refine Post.weak (F' := [(0, _), (1, _), (4, _), (5, _), (7, _), (15, _)]) ⟨rfl, rfl, rfl, rfl, rfl, rfl, trivial⟩ ?_
  refine Post.then_ ?_
  refine Cd.seq ?_
  refine Cd.seq ?_
  refine Cd.region ?_
  refine Seq.val (Runs.move rfl rfl) rfl rfl rfl ?_
  refine Seq.val (Runs.neqI rfl rfl rfl) rfl rfl rfl ?_
  refine Seq.nil ?_
  refine Post.weak (F' := [(0, _), (1, _), (4, _), (5, _), (7, _), (15, _), (24, _)]) ⟨rfl, rfl, rfl, rfl, rfl, rfl, rfl, trivial⟩ ?_
  refine Post.then_ ?_
  refine Cd.condF rfl (by simp) ?_
  refine Cd.skip ?_
  refine Post.then_ ?_
  refine Cd.seq ?_
  refine Cd.region ?_
  refine Seq.val (Runs.move rfl rfl) rfl rfl rfl ?_
  refine Seq.val (Runs.assign rfl rfl) rfl rfl rfl ?_
  refine Seq.nil ?_
  refine Post.weak (F' := [(0, _), (1, _), (4, _), (5, _), (7, _), (8, _), (15, _), (24, _)]) ⟨rfl, rfl, rfl, rfl, rfl, rfl, rfl, rfl, trivial⟩ ?_
  refine Post.then_ ?_
  refine Cd.seq ?_
  refine Cd.seq ?_
  refine Cd.region ?_
  refine Seq.val (Runs.assign rfl rfl) rfl rfl rfl ?_
  refine Seq.nil ?_
  refine Post.weak (F' := [(0, _), (1, _), (4, _), (5, _), (7, _), (8, _), (9, _), (15, _), (24, _)]) ⟨rfl, rfl, rfl, rfl, rfl, rfl, rfl, rfl, rfl, trivial⟩ ?_
  refine Post.then_ ?_
  refine Cd.block ?_
  refine Cd.loop (σ := Nat) (fun i => [(1, .int .u8 (n : Int)), (5, .pointer (some ⟨g5, 0, none⟩)), (8, .string (strOf (wrapN i l))), (9, .int .i64 (i : Int))])
    (fun i wr => i ≤ n % 5 ∧ Below w5.heap.size w5 wr ∧ Blk wr g5 35 #[.int .i64 x.op, .int .i64 x.n, .string (strOf x.name), .slice A x.args.length c]) (fun i => n % 5 - i) 0 ⟨Nat.zero_le _, bel, k5⟩ ⟨rfl, rfl, rfl, rfl, trivial⟩ ?_
  clear bel k5
  rintro i wr ⟨hi, bel, k5⟩
  have hwl := wrapN_len l i
  have hm5 : n % 5 ≤ 4 := by omega
  refine Cd.seq ?_
  refine Cd.seq ?_
  refine Cd.region ?_
  refine Seq.val (Runs.move rfl rfl) rfl rfl rfl ?_
  refine Seq.val (Runs.move rfl rfl) rfl rfl rfl ?_
  refine Seq.val (Runs.remL 5 rfl rfl rfl rfl (by omega)) rfl rfl rfl ?_
  refine Seq.val (Runs.convI rfl rfl Try.underlying5 Try.underlying3 (wrapI (by omega) (by omega))) rfl rfl rfl ?_
  refine Seq.val (Runs.lss rfl rfl rfl) rfl rfl rfl ?_
  refine Seq.nil ?_
  refine Post.weak (F' := [(1, _), (5, _), (8, _), (9, _), (31, _)]) ⟨rfl, rfl, rfl, rfl, rfl, trivial⟩ ?_
  refine Post.then_ ?_
  refine Cd.condD rfl (fun hc => ?_) (fun hc => ?_)
  · skip
    refine Cd.skip ?_
    refine Post.then_ ?_
    refine Cd.seq ?_
    refine Cd.block ?_
    refine Cd.seq ?_
    refine Cd.region ?_
    refine Seq.val (Runs.move rfl rfl) rfl rfl rfl ?_
    refine Seq.val (Runs.addL (a := [32, 40, 32]) (b := wrapN i l) rfl rfl rfl (by simp; omega)) rfl rfl rfl ?_
    refine Seq.val (Runs.addL (a := [32, 40, 32] ++ wrapN i l) (b := [32, 10, 41, 32, 35, 32, 41, 32, 109, 111, 114, 101]) rfl rfl rfl (by simp; omega)) rfl rfl rfl ?_
    refine Seq.val (Runs.assign rfl rfl) rfl rfl rfl ?_
    refine Seq.nil ?_
    refine Post.weak (F' := [(1, _), (5, _), (8, _), (9, _), (31, _)]) ⟨rfl, rfl, rfl, rfl, rfl, trivial⟩ ?_
    refine Post.then_ ?_
    refine Cd.region ?_
    refine Seq.val (Runs.move rfl rfl) rfl rfl rfl ?_
    refine Seq.val (Runs.addL (a := [32, 40, 32] ++ wrapN i l ++ [32, 10, 41, 32, 35, 32, 41, 32, 109, 111, 114, 101]) (b := [10]) rfl rfl rfl (by simp; omega)) rfl rfl rfl ?_
    refine Seq.val (Runs.assign rfl rfl) rfl rfl rfl ?_
    refine Seq.nil ?_
    refine Post.weak (F' := [(1, _), (5, _), (8, _), (9, _), (31, _)]) ⟨rfl, rfl, rfl, rfl, rfl, trivial⟩ ?_
    refine Post.block_normal ?_
    refine Post.then_ ?_
    refine Cd.region ?_
    refine Seq.val (Runs.move rfl rfl) rfl rfl rfl ?_
    refine Seq.val (Runs.addI rfl rfl rfl (by omega) (by omega)) rfl rfl rfl ?_
    refine Seq.val (Runs.assign rfl rfl) rfl rfl rfl ?_
    refine Seq.nil ?_
    refine Post.weak (F' := [(1, _), (5, _), (8, _), (9, _), (31, _)]) ⟨rfl, rfl, rfl, rfl, rfl, trivial⟩ ?_
    exact Post.round (i + 1) ⟨rfl, rfl, congrArg (fun z => some (Value.string (strOf z))) (by simp [wrapN, wrapL, tailL]), rfl, trivial⟩ ⟨by omega, bel, k5⟩ (by omega)
  obtain rfl : i = n % 5 := by omega
  have hps2 := fun W => parseExpr_any (wrapN (n % 5) l) W (wrapN_lt hl _) (by omega)
  have hl5 := hlo (n % 5) (by omega)
  generalize wrapN (n % 5) l = t at *
  refine Cd.exit ?_
  refine Post.then_exit ?_
  refine Post.round_exit ?_
  refine Post.block_exit ?_
  refine Post.then_ ?_
  refine Cd.seq ?_
  refine Cd.region ?_
  refine Seq.val (Runs.move rfl rfl) rfl rfl rfl ?_
  refine Seq.call (Enters.func rfl rfl rfl (run_enter Try.func36 (by kernel_rfl) rfl)) rfl rfl rfl (hps2 _) ?_
  rintro en w8 ⟨hb8, v8, S8, rfl, hrep8, hS8⟩
  obtain ⟨A8, c8, rfl⟩ := hrep8.form
  refine ⟨_, rfl, ?_⟩
  have hrb8 := RepE.mono (w' := w8) (S' := (· < w8.heap.size)) hrep8 (fun b hb => (hS8 b hb).2) (fun _ _ => rfl)
  replace bel := bel.step hb8
  replace k5 := k5.step hb8
  rcases hl5 with h5 | h5
  · skip
    rw [h5] at hrb8 ⊢
    have hrb8 : Rep w8 w8.heap.size x (.agg #[.int .i64 x.op, .int .i64 x.n, .string (strOf x.name), .slice A8 x.args.length c8]) := hrb8
    dsimp only
    have bel8 := bel
    clear bel
    have bel := Below.refl w8.heap.size w8
    refine Seq.val (Runs.move rfl rfl) rfl rfl rfl ?_
    refine Seq.val (Runs.extract rfl rfl rfl) rfl rfl rfl ?_
    refine Seq.val (Runs.extract rfl rfl rfl) rfl rfl rfl ?_
    refine Seq.val (Runs.extract rfl rfl rfl) rfl rfl rfl ?_
    refine Seq.alloc rfl (run_zero zero_api_Expr) rfl rfl rfl ?_
    intro g10 w3 n10
    have e10 := Nat.le_trans bel.size n10.ge
    have l10 := Nat.lt_of_lt_of_le k5.lt n10.ge
    replace bel := bel.step n10.below
    replace k5 := k5.step n10.below
    have k10 := n10.blk
    refine Seq.storeN rfl rfl rfl rfl (m := 4) (by kernel_rfl) rfl (by repeat' first | exact trivial | apply And.intro | rfl | assumption) k10 (by simp [Value.cells]) rfl rfl ?_
    intro w4 pw4
    replace bel := bel.put k10 pw4 e10
    replace k5 := k5.put pw4 (by omega)
    replace k10 := pw4.blk
    refine Seq.val (Runs.assign rfl rfl) rfl rfl rfl ?_
    refine Seq.val (Runs.assign rfl rfl) rfl rfl rfl ?_
    refine Seq.nil ?_
    refine Post.weak (F' := [(1, _), (5, _), (8, _), (9, _), (10, _), (12, _), (31, _)]) ⟨rfl, rfl, rfl, rfl, rfl, rfl, rfl, trivial⟩ ?_
    refine Post.then_ ?_
    refine Cd.seq ?_
    refine Cd.seq ?_
    refine Cd.region ?_
    refine Seq.val (Runs.move rfl rfl) rfl rfl rfl ?_
    refine Seq.val (Runs.eqlI rfl rfl rfl) rfl rfl rfl ?_
    refine Seq.nil ?_
    refine Post.weak (F' := [(1, _), (5, _), (8, _), (9, _), (10, _), (12, _), (31, _), (46, _)]) ⟨rfl, rfl, rfl, rfl, rfl, rfl, rfl, rfl, trivial⟩ ?_
    refine Post.then_ ?_
    refine Cd.condF rfl (by simp) ?_
    refine Cd.skip ?_
    refine Post.then_ ?_
    refine Cd.seq ?_
    refine Cd.region ?_
    refine Seq.val (Runs.move rfl rfl) rfl rfl rfl ?_
    refine Seq.val (Runs.eqlI rfl rfl rfl) rfl rfl rfl ?_
    refine Seq.val (Runs.move rfl rfl) rfl rfl rfl ?_
    refine SeqC.start ?_
    refine SeqC.open rfl rfl rfl rfl rfl rfl rfl (fun hcx => Runs.loadW rfl rfl Try.underlying35 rfl k5 (m := 4) (by kernel_rfl) rfl) ?_
    refine SeqC.next rfl rfl rfl rfl rfl rfl rfl (fun hcx => Runs.loadW rfl rfl Try.underlying35 rfl k10 (m := 4) (by kernel_rfl) rfl) ?_
    have r2 := (hrb8.below bel).more bel.size
    have r3 := (hrb.below (bel8.trans (bel.mono bel8.size))).more (Nat.le_trans bel8.size bel.size)
    refine SeqC.nextC rfl rfl rfl rfl rfl rfl rfl (fun hcx => Enters.func rfl rfl rfl (run_enter Try.func37 (by kernel_rfl) rfl)) (fun hcx => (sameExpr_any x.nodes x _ _ _ _ (Nat.le_refl _) r3 r2 (Nat.le_refl _))) ?_
    intro w5 hw5
    replace bel := bel.step hw5
    replace k5 := k5.step hw5
    replace k10 := k10.step hw5
    refine SeqC.and rfl rfl rfl rfl rfl rfl rfl ?_
    refine Seq.val (Runs.move rfl rfl) rfl rfl rfl ?_
    refine SeqC.start ?_
    refine SeqC.openC rfl rfl rfl rfl rfl rfl rfl (fun hcx => Enters.func rfl rfl rfl (run_enter Try.func35 (by kernel_rfl) rfl)) (fun hcx => awake19_any _) ?_
    intro w6 hw6
    replace bel := bel.step hw6
    replace k5 := k5.step hw6
    replace k10 := k10.step hw6
    refine SeqC.and rfl rfl rfl rfl rfl rfl rfl ?_
    refine Seq.val (Runs.assign rfl rfl) rfl rfl rfl ?_
    refine Seq.nil ?_
    refine Post.weak (F' := [(1, _), (4, _), (5, _), (8, _), (9, _), (10, _), (12, _), (31, _), (46, _)]) ⟨rfl, rfl, rfl, rfl, rfl, rfl, rfl, rfl, rfl, trivial⟩ ?_
    refine Post.then_ ?_
    refine Cd.ret ?_
    refine Post.end1 rfl rfl (.inl rfl) ?_
    exact ⟨ret1 (bool_eq (by simp)), (bel5.trans (bel8.mono bel5.size)).trans (bel.mono (Nat.le_trans bel5.size bel8.size))⟩
  · rw [h5]
    have bel8 := bel
    clear bel
    have bel := Below.refl w8.heap.size w8
    refine Seq.val (Runs.move rfl rfl) rfl rfl rfl ?_
    refine Seq.val (Runs.extract rfl rfl rfl) rfl rfl rfl ?_
    refine Seq.val (Runs.extract rfl rfl rfl) rfl rfl rfl ?_
    refine Seq.val (Runs.extract rfl rfl rfl) rfl rfl rfl ?_
    refine Seq.alloc rfl (run_zero zero_api_Expr) rfl rfl rfl ?_
    intro g10 w3 n10
    have e10 := Nat.le_trans bel.size n10.ge
    have l10 := Nat.lt_of_lt_of_le k5.lt n10.ge
    replace bel := bel.step n10.below
    replace k5 := k5.step n10.below
    have k10 := n10.blk
    refine Seq.storeN rfl rfl rfl rfl (m := 4) (by kernel_rfl) rfl (by repeat' first | exact trivial | apply And.intro | rfl | assumption) k10 (by simp [Value.cells]) rfl rfl ?_
    intro w4 pw4
    replace bel := bel.put k10 pw4 e10
    replace k5 := k5.put pw4 (by omega)
    replace k10 := pw4.blk
    refine Seq.val (Runs.assign rfl rfl) rfl rfl rfl ?_
    refine Seq.val (Runs.assign rfl rfl) rfl rfl rfl ?_
    refine Seq.nil ?_
    refine Post.weak (F' := [(1, _), (5, _), (8, _), (9, _), (10, _), (12, _), (31, _)]) ⟨rfl, rfl, rfl, rfl, rfl, rfl, rfl, trivial⟩ ?_
    refine Post.then_ ?_
    refine Cd.seq ?_
    refine Cd.seq ?_
    refine Cd.region ?_
    refine Seq.val (Runs.move rfl rfl) rfl rfl rfl ?_
    refine Seq.val (Runs.eqlI rfl rfl rfl) rfl rfl rfl ?_
    refine Seq.nil ?_
    refine Post.weak (F' := [(1, _), (5, _), (8, _), (9, _), (10, _), (12, _), (31, _), (46, _)]) ⟨rfl, rfl, rfl, rfl, rfl, rfl, rfl, rfl, trivial⟩ ?_
    refine Post.then_ ?_
    refine Cd.condT rfl (by simp) ?_
    refine Cd.seq ?_
    refine Cd.region ?_
    refine Seq.val (Runs.assign rfl rfl) rfl rfl rfl ?_
    refine Seq.nil ?_
    refine Post.weak (F' := [(1, _), (4, _), (5, _), (8, _), (9, _), (10, _), (12, _), (31, _), (46, _)]) ⟨rfl, rfl, rfl, rfl, rfl, rfl, rfl, rfl, rfl, trivial⟩ ?_
    refine Post.then_ ?_
    refine Cd.ret ?_
    refine Post.then_ret ?_
    refine Post.end1 rfl rfl (.inl rfl) ?_
    exact ⟨rfl, (bel5.trans (bel8.mono bel5.size)).trans (bel.mono (Nat.le_trans bel5.size bel8.size))⟩

namespace ParseLoose
theorem own : ownKnob Try.prog.godebug = none := by kernel_rfl
theorem laidOut : laidOutB Try.prog = true := by kernel_rfl
set_option maxRecDepth 100000 in
theorem lifted (os : Os) (started : os.Started) (H : Type) (enc : TypeId × Value → H) :
    ReturnsInHanded {} Try.checked os 11 .any (Rows.parseLooseSpec.pre6 enc Try.prog Try.f11 Rows.parseLooseRow.domain false) (Rows.parseLooseSpec.post enc Try.prog Try.f11 false true false false) := by
  refine returnsInHanded_of_change (C := Try.checked) own started (by kernel_rfl) Try.func11
    (ChangeSpec.witness6 (enc := enc) (C := Try.checked) false ⟨#[], #[.string { data := #[] }, .int .u8 0], []⟩ 8 (by kernel_rfl) (by kernel_rfl) (by kernel_rfl) (by kernel_rfl)) ?_
  intro W base args ds gs before hval0 hW hcnd _
  have hval : ∀ (j : Nat) t v, Try.f11.params[j]? = some t → args[j]? = some v → Value.okWide Try.prog W .any base t v := hval0
  have hW' := hW
  obtain ⟨p, q, hA0, hV, rfl, hfz, hnd⟩ := hW
  have hA : DataW.TrodAll enc Try.prog W 0 (fun _ => true) true Try.f11.params.toList args.toList ds p := hA0
  rw [Try.params11] at hA hval
  obtain ⟨v0, vs0, d0, ds0, p0, q0, hargs, rfl, rfl, h0, r0⟩ := trodAll_cons hA
  obtain ⟨v1, vs1, d1, ds1, p1, q1, rfl, rfl, rfl, h1, r1⟩ := trodAll_cons r0
  obtain ⟨rfl, rfl, rfl⟩ := trodAll_nil r1
  obtain rfl : args = #[v0, v1] := by cases args; simp_all
  obtain ⟨rfl, rfl⟩ := trodVars_none hV
  have k0 := h0
  have lt0 : ∀ x ∈ p0, x.block < W.heap.size := by obtain ⟨m, hm⟩ := k0; exact DataW.trod_lt m _ _ _ hm
  have k1 := h1
  have lt1 : ∀ x ∈ p1, x.block < W.heap.size := by obtain ⟨m, hm⟩ := k1; exact DataW.trod_lt m _ _ _ hm
  obtain ⟨l, rfl, hl, hlen⟩ := open_str Try.underlying9 (hval 0 _ v0 rfl rfl)
  obtain ⟨n, rfl, hn⟩ := open_u8 Try.underlying5 (hval 1 _ v1 rfl rfl)
  clear hA0 hval0
  refine (walk_ploose l n W hl hlen hn).mono fun e W' ⟨he, bel⟩ => ?_
  subst he
  exact ⟨_, rfl, _, _, _, [], _, [], hW', trodAll_mk1 (shut_bool Try.underlying4 _), (trodAll_cons_mk (Below.trod laidOut (by kernel_rfl) (of_decide_eq_true (by kernel_rfl)) k0 bel lt0) (trodAll_cons_mk (Below.trod laidOut (by kernel_rfl) (of_decide_eq_true (by kernel_rfl)) k1 bel lt1) trodAll_mk0)), rfl, bel.frame _, fun h => by cases h⟩

theorem over : Rows.parseLooseRow.holds Try.pinned (OpenSpec.ofChange Rows.parseLooseSpec) :=
  OpenClaim.holds_of_wide 11 Try.f11 rfl rfl rfl rfl rfl rfl rfl ⟨rfl, rfl, rfl, rfl, rfl⟩ rfl rfl rfl rfl rfl (by kernel_rfl) Try.func11 (by kernel_rfl)
    (of_decide_eq_true (by kernel_rfl)) (by unfold Func.isWrapper; first | (rw [if_pos (by decide +kernel)]; kernel_rfl) | (rw [if_neg (by decide +kernel)]; exact ⟨rfl, rfl⟩))
    (fun os started H enc _ => lifted os started H enc)

theorem proved : Rows.ParseLooseSaid := over

end ParseLoose
end Go.Proofs.Ytijaldpmpjapiaa

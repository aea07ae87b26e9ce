/-
  num's more, RatAdd: what each answers. Condition: the numbers are of 64 bits.
-/
import Derived.Test.YtpdeihienkbeeaaNumL
import Derived.Shelf.Spec.BitsCarry
namespace Go.Proofs.Ytpdeihienkbeeaa
open Go.RowKit

theorem sub64_b (x y b : Nat) (hb : b ≤ 1) (w : World) : (callFunc 70 [.int .u64 (x : Int), .int .u64 (y : Int), .int .u64 (b : Int)].toArray).run Try.prog w =
    .ok (.value (.tuple #[.int .u64 (((x + 18446744073709551616 - y - b) % 18446744073709551616 : Nat) : Int), .int .u64 ((if x < y + b then 1 else 0 : Nat) : Int)])) w := by
  rw [run_callFunc_extern Try.func70 (by kernel_rfl) (by kernel_rfl) (by kernel_rfl) (e := sub64Entry) (by kernel_rfl), run_sub64 x y b hb]
  rfl
theorem run_build_Ratio1 (w : World) : (Instr.build 45 #[(1, .int .i64 1)]).run Try.prog w = .ok (.agg #[.int .i64 0, .int .i64 1]) w := by
  have hu := Try.underlying45
  go_simp
theorem more_any (ah al bh bl : Nat) (na nb : Bool) (w : World) (h1 : ah < 9223372036854775808) (h2 : al < 18446744073709551616) (h3 : bh < 9223372036854775808) (h4 : bl < 18446744073709551616) :
    Calls Try.prog 61 #[.agg #[.int .u64 (ah : Int), .int .u64 (al : Int), .bool na], .agg #[.int .u64 (bh : Int), .int .u64 (bl : Int), .bool nb]] w fun e w' => ∃ (H L : Nat) (neg : Bool), e = .returned (.tuple #[.agg #[.int .u64 (H : Int), .int .u64 (L : Int), .bool neg], .bool true]) ∧ H < 18446744073709551616 ∧ L < 18446744073709551616 ∧
      sgn neg (H * 18446744073709551616 + L) = sgn na (ah * 18446744073709551616 + al) + sgn nb (bh * 18446744073709551616 + bl) ∧ Grow w w' := by
  have bel := Below.refl w.heap.size w
  refine Calls.start 86 Try.func61 rfl rfl rfl ?_
  refine Cd.seq ?_
  refine Cd.region ?_
  refine Seq.box rfl rfl rfl rfl rfl ?_
  intro g2 w1 n2
  have e2 := Nat.le_trans bel.size n2.ge
  replace bel := bel.step n2.below
  have k2 := n2.blk
  refine Seq.box rfl rfl rfl rfl rfl ?_
  intro g3 w2 n3
  have e3 := Nat.le_trans bel.size n3.ge
  have l3 := Nat.lt_of_lt_of_le k2.lt n3.ge
  replace bel := bel.step n3.below
  replace k2 := k2.step n3.below
  have k3 := n3.blk
  refine Seq.alloc rfl (run_zero zero_num_wide) rfl rfl rfl ?_
  intro g4 w3 n4
  have e4 := Nat.le_trans bel.size n4.ge
  have l4 := Nat.lt_of_lt_of_le k3.lt n4.ge
  have l4_k2 := Nat.lt_of_lt_of_le k2.lt n4.ge
  replace bel := bel.step n4.below
  replace k2 := k2.step n4.below
  replace k3 := k3.step n4.below
  have k4 := n4.blk
  refine Seq.val (Runs.assign rfl rfl) rfl rfl rfl ?_
  refine Seq.nil ?_
  refine Post.weak (F' := [(0, _), (1, _), (2, _), (3, _), (4, _), (5, _)]) ⟨rfl, rfl, rfl, rfl, rfl, rfl, trivial⟩ ?_
  refine Post.then_ ?_
  refine Cd.seq ?_
  refine Cd.seq ?_
  refine Cd.region ?_
  refine Seq.val (Runs.fieldB 2 rfl rfl Try.underlying64 rfl (by kernel_rfl)) rfl rfl rfl ?_
  refine Seq.val (Runs.loadB rfl rfl Try.underlying4 rfl k2 rfl) rfl rfl rfl ?_
  refine Seq.val (Runs.fieldB 2 rfl rfl Try.underlying64 rfl (by kernel_rfl)) rfl rfl rfl ?_
  refine Seq.val (Runs.loadB rfl rfl Try.underlying4 rfl k3 rfl) rfl rfl rfl ?_
  refine Seq.val (Runs.eqlB rfl rfl rfl Try.underlying4) rfl rfl rfl ?_
  refine Seq.nil ?_
  refine Post.weak (F' := [(0, _), (1, _), (2, _), (3, _), (4, _), (5, _), (18, _)]) ⟨rfl, rfl, rfl, rfl, rfl, rfl, rfl, trivial⟩ ?_
  refine Post.then_ ?_
  refine Cd.condD rfl (fun hc => ?_) (fun hc => ?_)
  · subst hc
    refine Cd.seq ?_
    refine Cd.region ?_
    refine Seq.val (Runs.fieldB 1 rfl rfl Try.underlying64 rfl (by kernel_rfl)) rfl rfl rfl ?_
    refine Seq.val (Runs.loadB rfl rfl Try.underlying62 rfl k2 rfl) rfl rfl rfl ?_
    refine Seq.val (Runs.fieldB 1 rfl rfl Try.underlying64 rfl (by kernel_rfl)) rfl rfl rfl ?_
    refine Seq.val (Runs.loadB rfl rfl Try.underlying62 rfl k3 rfl) rfl rfl rfl ?_
    refine Seq.val (Runs.here rfl rfl rfl (add64_0 al bl _)) rfl rfl rfl ?_
    refine Seq.val (Runs.move rfl rfl) rfl rfl rfl ?_
    refine Seq.val (Runs.extract rfl rfl rfl) rfl rfl rfl ?_
    refine Seq.val (Runs.extract rfl rfl rfl) rfl rfl rfl ?_
    refine Seq.val (Runs.assign rfl rfl) rfl rfl rfl ?_
    refine Seq.val (Runs.assign rfl rfl) rfl rfl rfl ?_
    refine Seq.nil ?_
    refine Post.weak (F' := [(0, _), (1, _), (2, _), (3, _), (4, _), (5, _), (6, _), (7, _), (18, _)]) ⟨rfl, rfl, rfl, rfl, rfl, rfl, rfl, rfl, rfl, trivial⟩ ?_
    refine Post.then_ ?_
    refine Cd.seq ?_
    refine Cd.region ?_
    refine Seq.val (Runs.fieldB 0 rfl rfl Try.underlying64 rfl (by kernel_rfl)) rfl rfl rfl ?_
    refine Seq.val (Runs.loadB rfl rfl Try.underlying62 rfl k2 rfl) rfl rfl rfl ?_
    refine Seq.val (Runs.fieldB 0 rfl rfl Try.underlying64 rfl (by kernel_rfl)) rfl rfl rfl ?_
    refine Seq.val (Runs.loadB rfl rfl Try.underlying62 rfl k3 rfl) rfl rfl rfl ?_
    refine Seq.val (Runs.move rfl rfl) rfl rfl rfl ?_
    refine Seq.val (Runs.here rfl rfl rfl (add64_c ah bh ((al + bl) / 18446744073709551616) (by omega) _)) rfl rfl rfl ?_
    refine Seq.val (Runs.move rfl rfl) rfl rfl rfl ?_
    refine Seq.val (Runs.extract rfl rfl rfl) rfl rfl rfl ?_
    refine Seq.val (Runs.extract rfl rfl rfl) rfl rfl rfl ?_
    refine Seq.val (Runs.assign rfl rfl) rfl rfl rfl ?_
    refine Seq.val (Runs.assign rfl rfl) rfl rfl rfl ?_
    refine Seq.nil ?_
    refine Post.weak (F' := [(0, _), (1, _), (2, _), (3, _), (4, _), (5, _), (6, _), (7, _), (8, _), (9, _), (18, _)]) ⟨rfl, rfl, rfl, rfl, rfl, rfl, rfl, rfl, rfl, rfl, rfl, trivial⟩ ?_
    refine Post.then_ ?_
    refine Cd.seq ?_
    refine Cd.region ?_
    refine Seq.val (Runs.move rfl rfl) rfl rfl rfl ?_
    refine Seq.val (Runs.move rfl rfl) rfl rfl rfl ?_
    refine Seq.val (Runs.fieldB 2 rfl rfl Try.underlying64 rfl (by kernel_rfl)) rfl rfl rfl ?_
    refine Seq.val (Runs.loadB rfl rfl Try.underlying4 rfl k2 rfl) rfl rfl rfl ?_
    refine Seq.val (Runs.build rfl rfl (run_build_wide _ _ _ _)) rfl rfl rfl ?_
    refine Seq.val (Runs.move rfl rfl) rfl rfl rfl ?_
    refine Seq.val (Runs.eqlI rfl rfl rfl) rfl rfl rfl ?_
    refine Seq.storeN rfl rfl rfl rfl (m := 3) (by kernel_rfl) rfl (by repeat' first | exact trivial | apply And.intro | rfl | assumption) k4 (by simp [Value.cells]) rfl rfl ?_
    intro w4 pw4
    replace bel := bel.put k4 pw4 e4
    replace k2 := k2.put pw4 (by omega)
    replace k3 := k3.put pw4 (by omega)
    replace k4 := pw4.blk
    refine Seq.val (Runs.assign rfl rfl) rfl rfl rfl ?_
    refine Seq.nil ?_
    refine Post.weak (F' := [(0, _), (1, _), (2, _), (3, _), (4, _), (5, _), (6, _), (7, _), (8, _), (9, _), (18, _)]) ⟨rfl, rfl, rfl, rfl, rfl, rfl, rfl, rfl, rfl, rfl, rfl, trivial⟩ ?_
    refine Post.then_ ?_
    refine Cd.ret ?_
    refine Post.then_ret ?_
    refine Post.endC2 rfl rfl rfl k4 Try.underlying64 rfl (m := 3) (by kernel_rfl) rfl (.inl rfl) ?_
    refine ⟨_, _, _, ret2 rfl (bool_eq (by simp; omega)), Nat.mod_lt _ (by omega), Nat.mod_lt _ (by omega), ?_, bel⟩
    unfold sgn
    cases na <;> simp <;> omega
  · skip
    refine Cd.skip ?_
    refine Post.then_ ?_
    refine Cd.seq ?_
    refine Cd.seq ?_
    refine Cd.region ?_
    refine Seq.val (Runs.fieldB 0 rfl rfl Try.underlying64 rfl (by kernel_rfl)) rfl rfl rfl ?_
    refine Seq.val (Runs.loadB rfl rfl Try.underlying62 rfl k2 rfl) rfl rfl rfl ?_
    refine Seq.val (Runs.fieldB 0 rfl rfl Try.underlying64 rfl (by kernel_rfl)) rfl rfl rfl ?_
    refine Seq.val (Runs.loadB rfl rfl Try.underlying62 rfl k3 rfl) rfl rfl rfl ?_
    refine Seq.val (Runs.lss rfl rfl rfl) rfl rfl rfl ?_
    refine Seq.val (Runs.move rfl rfl) rfl rfl rfl ?_
    refine SeqC.start ?_
    refine SeqC.open rfl rfl rfl rfl rfl rfl rfl (fun hcx => Runs.fieldB 0 rfl rfl Try.underlying64 rfl (by kernel_rfl)) ?_
    refine SeqC.next rfl rfl rfl rfl rfl rfl rfl (fun hcx => Runs.loadB rfl rfl Try.underlying62 rfl k2 rfl) ?_
    refine SeqC.next rfl rfl rfl rfl rfl rfl rfl (fun hcx => Runs.fieldB 0 rfl rfl Try.underlying64 rfl (by kernel_rfl)) ?_
    refine SeqC.next rfl rfl rfl rfl rfl rfl rfl (fun hcx => Runs.loadB rfl rfl Try.underlying62 rfl k3 rfl) ?_
    refine SeqC.next rfl rfl rfl rfl rfl rfl rfl (fun hcx => Runs.eqlI rfl rfl rfl) ?_
    refine SeqC.next rfl rfl rfl rfl rfl rfl rfl (fun hcx => Runs.move rfl rfl) ?_
    refine SeqC.open rfl rfl rfl rfl rfl rfl rfl (fun hcx => Runs.fieldB 1 rfl rfl Try.underlying64 rfl (by kernel_rfl)) ?_
    refine SeqC.next rfl rfl rfl rfl rfl rfl rfl (fun hcx => Runs.loadB rfl rfl Try.underlying62 rfl k2 rfl) ?_
    refine SeqC.next rfl rfl rfl rfl rfl rfl rfl (fun hcx => Runs.fieldB 1 rfl rfl Try.underlying64 rfl (by kernel_rfl)) ?_
    refine SeqC.next rfl rfl rfl rfl rfl rfl rfl (fun hcx => Runs.loadB rfl rfl Try.underlying62 rfl k3 rfl) ?_
    refine SeqC.next rfl rfl rfl rfl rfl rfl rfl (fun hcx => Runs.lss rfl rfl rfl) ?_
    refine SeqC.andG rfl rfl rfl rfl rfl rfl rfl rfl rfl rfl rfl ?_
    refine SeqC.or rfl rfl rfl rfl rfl rfl rfl ?_
    refine Seq.nil ?_
    refine Post.weak (F' := [(0, _), (1, _), (2, _), (3, _), (4, _), (5, _), (18, _), (61, _)]) ⟨rfl, rfl, rfl, rfl, rfl, rfl, rfl, rfl, trivial⟩ ?_
    refine Post.then_ ?_
    refine Cd.cond rfl (fun hs => ?_) (fun hs => ?_)
    · skip
      refine Cd.region ?_
      refine Seq.val (Runs.loadW rfl rfl Try.underlying64 rfl k3 (m := 3) (by kernel_rfl) rfl) rfl rfl rfl ?_
      refine Seq.val (Runs.loadW rfl rfl Try.underlying64 rfl k2 (m := 3) (by kernel_rfl) rfl) rfl rfl rfl ?_
      refine Seq.storeN rfl rfl rfl rfl (m := 3) (by kernel_rfl) rfl (by repeat' first | exact trivial | apply And.intro | rfl | assumption) k2 (by simp [Value.cells]) rfl rfl ?_
      intro w4 pw4
      replace bel := bel.put k2 pw4 e2
      replace k3 := k3.put pw4 (by omega)
      replace k4 := k4.put pw4 (by omega)
      replace k2 := pw4.blk
      refine Seq.storeN rfl rfl rfl rfl (m := 3) (by kernel_rfl) rfl (by repeat' first | exact trivial | apply And.intro | rfl | assumption) k3 (by simp [Value.cells]) rfl rfl ?_
      intro w5 pw5
      replace bel := bel.put k3 pw5 e3
      replace k2 := k2.put pw5 (by omega)
      replace k4 := k4.put pw5 (by omega)
      replace k3 := pw5.blk
      refine Seq.nil ?_
      refine Post.weak (F' := [(0, _), (1, _), (2, _), (3, _), (4, _), (5, _), (18, _), (61, _)]) ⟨rfl, rfl, rfl, rfl, rfl, rfl, rfl, rfl, trivial⟩ ?_
      refine Post.then_ ?_
      refine Cd.seq ?_
      refine Cd.region ?_
      refine Seq.val (Runs.fieldB 1 rfl rfl Try.underlying64 rfl (by kernel_rfl)) rfl rfl rfl ?_
      refine Seq.val (Runs.loadB rfl rfl Try.underlying62 rfl k2 rfl) rfl rfl rfl ?_
      refine Seq.val (Runs.fieldB 1 rfl rfl Try.underlying64 rfl (by kernel_rfl)) rfl rfl rfl ?_
      refine Seq.val (Runs.loadB rfl rfl Try.underlying62 rfl k3 rfl) rfl rfl rfl ?_
      refine Seq.val (Runs.here rfl rfl rfl (sub64_b bl al 0 (by omega) _)) rfl rfl rfl ?_
      refine Seq.val (Runs.move rfl rfl) rfl rfl rfl ?_
      refine Seq.val (Runs.extract rfl rfl rfl) rfl rfl rfl ?_
      refine Seq.val (Runs.extract rfl rfl rfl) rfl rfl rfl ?_
      refine Seq.val (Runs.assign rfl rfl) rfl rfl rfl ?_
      refine Seq.val (Runs.assign rfl rfl) rfl rfl rfl ?_
      refine Seq.nil ?_
      refine Post.weak (F' := [(0, _), (1, _), (2, _), (3, _), (4, _), (5, _), (10, _), (11, _), (18, _), (61, _)]) ⟨rfl, rfl, rfl, rfl, rfl, rfl, rfl, rfl, rfl, rfl, trivial⟩ ?_
      refine Post.then_ ?_
      refine Cd.seq ?_
      refine Cd.region ?_
      refine Seq.val (Runs.fieldB 0 rfl rfl Try.underlying64 rfl (by kernel_rfl)) rfl rfl rfl ?_
      refine Seq.val (Runs.loadB rfl rfl Try.underlying62 rfl k2 rfl) rfl rfl rfl ?_
      refine Seq.val (Runs.fieldB 0 rfl rfl Try.underlying64 rfl (by kernel_rfl)) rfl rfl rfl ?_
      refine Seq.val (Runs.loadB rfl rfl Try.underlying62 rfl k3 rfl) rfl rfl rfl ?_
      refine Seq.val (Runs.move rfl rfl) rfl rfl rfl ?_
      refine Seq.val (Runs.here rfl rfl rfl (sub64_b bh ah (if bl < al + 0 then 1 else 0) (by split <;> omega) _)) rfl rfl rfl ?_
      refine Seq.val (Runs.move rfl rfl) rfl rfl rfl ?_
      refine Seq.val (Runs.extract rfl rfl rfl) rfl rfl rfl ?_
      refine Seq.val (Runs.extract rfl rfl rfl) rfl rfl rfl ?_
      refine Seq.val (Runs.assign rfl rfl) rfl rfl rfl ?_
      refine Seq.val (Runs.assign rfl rfl) rfl rfl rfl ?_
      refine Seq.nil ?_
      refine Post.weak (F' := [(0, _), (1, _), (2, _), (3, _), (4, _), (5, _), (10, _), (11, _), (12, _), (18, _), (61, _)]) ⟨rfl, rfl, rfl, rfl, rfl, rfl, rfl, rfl, rfl, rfl, rfl, trivial⟩ ?_
      refine Post.then_ ?_
      refine Cd.seq ?_
      refine Cd.region ?_
      refine Seq.val (Runs.move rfl rfl) rfl rfl rfl ?_
      refine Seq.val (Runs.move rfl rfl) rfl rfl rfl ?_
      refine Seq.val (Runs.fieldB 2 rfl rfl Try.underlying64 rfl (by kernel_rfl)) rfl rfl rfl ?_
      refine Seq.val (Runs.loadB rfl rfl Try.underlying4 rfl k2 rfl) rfl rfl rfl ?_
      refine Seq.val (Runs.build rfl rfl (run_build_wide _ _ _ _)) rfl rfl rfl ?_
      refine Seq.storeN rfl rfl rfl rfl (m := 3) (by kernel_rfl) rfl (by repeat' first | exact trivial | apply And.intro | rfl | assumption) k4 (by simp [Value.cells]) rfl rfl ?_
      intro w6 pw6
      replace bel := bel.put k4 pw6 e4
      replace k2 := k2.put pw6 (by omega)
      replace k3 := k3.put pw6 (by omega)
      replace k4 := pw6.blk
      refine Seq.val (Runs.assign rfl rfl) rfl rfl rfl ?_
      refine Seq.nil ?_
      refine Post.weak (F' := [(0, _), (1, _), (2, _), (3, _), (4, _), (5, _), (10, _), (11, _), (12, _), (18, _), (61, _)]) ⟨rfl, rfl, rfl, rfl, rfl, rfl, rfl, rfl, rfl, rfl, rfl, trivial⟩ ?_
      refine Post.then_ ?_
      refine Cd.ret ?_
      refine Post.endC2 rfl rfl rfl k4 Try.underlying64 rfl (m := 3) (by kernel_rfl) rfl (.inl rfl) ?_
      refine ⟨_, _, _, rfl, Nat.mod_lt _ (by omega), Nat.mod_lt _ (by omega), ?_, bel⟩
      clear bel
      unfold sgn
      cases na <;> cases nb <;> simp at hc <;> simp at hs ⊢ <;> split <;> omega
    · skip
      refine Cd.skip ?_
      refine Post.then_ ?_
      refine Cd.seq ?_
      refine Cd.region ?_
      refine Seq.val (Runs.fieldB 1 rfl rfl Try.underlying64 rfl (by kernel_rfl)) rfl rfl rfl ?_
      refine Seq.val (Runs.loadB rfl rfl Try.underlying62 rfl k2 rfl) rfl rfl rfl ?_
      refine Seq.val (Runs.fieldB 1 rfl rfl Try.underlying64 rfl (by kernel_rfl)) rfl rfl rfl ?_
      refine Seq.val (Runs.loadB rfl rfl Try.underlying62 rfl k3 rfl) rfl rfl rfl ?_
      refine Seq.val (Runs.here rfl rfl rfl (sub64_b al bl 0 (by omega) _)) rfl rfl rfl ?_
      refine Seq.val (Runs.move rfl rfl) rfl rfl rfl ?_
      refine Seq.val (Runs.extract rfl rfl rfl) rfl rfl rfl ?_
      refine Seq.val (Runs.extract rfl rfl rfl) rfl rfl rfl ?_
      refine Seq.val (Runs.assign rfl rfl) rfl rfl rfl ?_
      refine Seq.val (Runs.assign rfl rfl) rfl rfl rfl ?_
      refine Seq.nil ?_
      refine Post.weak (F' := [(0, _), (1, _), (2, _), (3, _), (4, _), (5, _), (10, _), (11, _), (18, _), (61, _)]) ⟨rfl, rfl, rfl, rfl, rfl, rfl, rfl, rfl, rfl, rfl, trivial⟩ ?_
      refine Post.then_ ?_
      refine Cd.seq ?_
      refine Cd.region ?_
      refine Seq.val (Runs.fieldB 0 rfl rfl Try.underlying64 rfl (by kernel_rfl)) rfl rfl rfl ?_
      refine Seq.val (Runs.loadB rfl rfl Try.underlying62 rfl k2 rfl) rfl rfl rfl ?_
      refine Seq.val (Runs.fieldB 0 rfl rfl Try.underlying64 rfl (by kernel_rfl)) rfl rfl rfl ?_
      refine Seq.val (Runs.loadB rfl rfl Try.underlying62 rfl k3 rfl) rfl rfl rfl ?_
      refine Seq.val (Runs.move rfl rfl) rfl rfl rfl ?_
      refine Seq.val (Runs.here rfl rfl rfl (sub64_b ah bh (if al < bl + 0 then 1 else 0) (by split <;> omega) _)) rfl rfl rfl ?_
      refine Seq.val (Runs.move rfl rfl) rfl rfl rfl ?_
      refine Seq.val (Runs.extract rfl rfl rfl) rfl rfl rfl ?_
      refine Seq.val (Runs.extract rfl rfl rfl) rfl rfl rfl ?_
      refine Seq.val (Runs.assign rfl rfl) rfl rfl rfl ?_
      refine Seq.val (Runs.assign rfl rfl) rfl rfl rfl ?_
      refine Seq.nil ?_
      refine Post.weak (F' := [(0, _), (1, _), (2, _), (3, _), (4, _), (5, _), (10, _), (11, _), (12, _), (18, _), (61, _)]) ⟨rfl, rfl, rfl, rfl, rfl, rfl, rfl, rfl, rfl, rfl, rfl, trivial⟩ ?_
      refine Post.then_ ?_
      refine Cd.seq ?_
      refine Cd.region ?_
      refine Seq.val (Runs.move rfl rfl) rfl rfl rfl ?_
      refine Seq.val (Runs.move rfl rfl) rfl rfl rfl ?_
      refine Seq.val (Runs.fieldB 2 rfl rfl Try.underlying64 rfl (by kernel_rfl)) rfl rfl rfl ?_
      refine Seq.val (Runs.loadB rfl rfl Try.underlying4 rfl k2 rfl) rfl rfl rfl ?_
      refine Seq.val (Runs.build rfl rfl (run_build_wide _ _ _ _)) rfl rfl rfl ?_
      refine Seq.storeN rfl rfl rfl rfl (m := 3) (by kernel_rfl) rfl (by repeat' first | exact trivial | apply And.intro | rfl | assumption) k4 (by simp [Value.cells]) rfl rfl ?_
      intro w4 pw4
      replace bel := bel.put k4 pw4 e4
      replace k2 := k2.put pw4 (by omega)
      replace k3 := k3.put pw4 (by omega)
      replace k4 := pw4.blk
      refine Seq.val (Runs.assign rfl rfl) rfl rfl rfl ?_
      refine Seq.nil ?_
      refine Post.weak (F' := [(0, _), (1, _), (2, _), (3, _), (4, _), (5, _), (10, _), (11, _), (12, _), (18, _), (61, _)]) ⟨rfl, rfl, rfl, rfl, rfl, rfl, rfl, rfl, rfl, rfl, rfl, trivial⟩ ?_
      refine Post.then_ ?_
      refine Cd.ret ?_
      refine Post.endC2 rfl rfl rfl k4 Try.underlying64 rfl (m := 3) (by kernel_rfl) rfl (.inl rfl) ?_
      refine ⟨_, _, _, rfl, Nat.mod_lt _ (by omega), Nat.mod_lt _ (by omega), ?_, bel⟩
      clear bel
      unfold sgn
      cases na <;> cases nb <;> simp at hc <;> simp at hs ⊢ <;> split <;> omega

theorem mod_wide (H L g : Nat) : (H % g * 18446744073709551616 + L) % g = (H * 18446744073709551616 + L) % g := by
  rw [Nat.add_mod, Nat.mod_mul_mod, ← Nat.add_mod]
set_option maxHeartbeats 1000000 in
theorem ratAdd_core (p q r s : Int) (n d m e : Nat) (w : World) (hq0 : q ≠ 0) (hs0 : s ≠ 0) (hn : n ≤ 9223372036854775808) (hd : d ≤ 9223372036854775808) (hm : m ≤ 9223372036854775808) (he : e ≤ 9223372036854775808)
    (c1 : ∀ w, Calls Try.prog 56 #[.agg #[.int .i64 p, .int .i64 q]] w fun e' w' => e' = .returned (.tuple #[.bool (decide (p < 0) != decide (q < 0)), .int .u64 (n : Int), .int .u64 (d : Int)]) ∧ Below w.heap.size w w')
    (c2 : ∀ w, Calls Try.prog 56 #[.agg #[.int .i64 r, .int .i64 s]] w fun e' w' => e' = .returned (.tuple #[.bool (decide (r < 0) != decide (s < 0)), .int .u64 (m : Int), .int .u64 (e : Int)]) ∧ Below w.heap.size w w')
    (h1 : Red p q n d) (h2 : Red r s m e) :
    Calls Try.prog 33 #[.agg #[.int .i64 p, .int .i64 q], .agg #[.int .i64 r, .int .i64 s]] w fun e' w' => e' = .returned (ratV (p * s + r * q) (q * s)) ∧ Grow w w' := by
  have hlaw := fun W neg => add_law p q r s n d m e W neg h1 h2
  have g1 : 0 < Nat.gcd d e := Nat.gcd_pos_of_pos_right _ h2.pos
  have gl : Nat.gcd d e ≤ 9223372036854775808 := Nat.le_trans (Nat.gcd_le_left _ h1.pos) hd
  have v1 := fun w => divisor_nat d e w (by omega) (by omega)
  have be := Nat.div_le_self e (Nat.gcd d e)
  have bd := Nat.div_le_self d (Nat.gcd d e)
  have u1 := fun w => mul64_nat n (e / Nat.gcd d e) w (by omega) (by omega)
  have u2 := fun w => mul64_nat m (d / Nat.gcd d e) w (by omega) (by omega)
  have l1 : n * (e / Nat.gcd d e) ≤ 9223372036854775808 * 9223372036854775808 := Nat.mul_le_mul hn (by omega)
  have l2 : m * (d / Nat.gcd d e) ≤ 9223372036854775808 * 9223372036854775808 := Nat.mul_le_mul hm (by omega)
  have bel := Below.refl w.heap.size w
  generalize hsg : (decide (p < 0) != decide (q < 0)) = sg at *
  generalize htg : (decide (r < 0) != decide (s < 0)) = tg at *
  generalize Nat.gcd d e = g at *
  generalize ratV (p * s + r * q) (q * s) = V at *
  refine Calls.start 139 Try.func33 rfl rfl rfl ?_
  refine Cd.seq ?_
  refine Cd.region ?_
  refine Seq.box rfl rfl rfl rfl rfl ?_
  intro g2 w1 n2
  have e2 := Nat.le_trans bel.size n2.ge
  replace bel := bel.step n2.below
  have k2 := n2.blk
  refine Seq.box rfl rfl rfl rfl rfl ?_
  intro g3 w2 n3
  have e3 := Nat.le_trans bel.size n3.ge
  have l3 := Nat.lt_of_lt_of_le k2.lt n3.ge
  replace bel := bel.step n3.below
  replace k2 := k2.step n3.below
  have k3 := n3.blk
  refine Seq.alloc rfl (run_zero zero_api_Ratio) rfl rfl rfl ?_
  intro g4 w3 n4
  have e4 := Nat.le_trans bel.size n4.ge
  have l4 := Nat.lt_of_lt_of_le k3.lt n4.ge
  have l4_k2 := Nat.lt_of_lt_of_le k2.lt n4.ge
  replace bel := bel.step n4.below
  replace k2 := k2.step n4.below
  replace k3 := k3.step n4.below
  have k4 := n4.blk
  refine Seq.val (Runs.assign rfl rfl) rfl rfl rfl ?_
  refine Seq.nil ?_
  refine Post.weak (F' := [(0, _), (1, _), (2, _), (3, _), (4, _), (5, _)]) ⟨rfl, rfl, rfl, rfl, rfl, rfl, trivial⟩ ?_
  refine Post.then_ ?_
  refine Cd.seq ?_
  refine Cd.seq ?_
  refine Cd.region ?_
  refine Seq.val (Runs.fieldB 1 rfl rfl Try.underlying45 rfl (by kernel_rfl)) rfl rfl rfl ?_
  refine Seq.val (Runs.loadB rfl rfl Try.underlying2 rfl k2 rfl) rfl rfl rfl ?_
  refine Seq.val (Runs.eqlI rfl rfl rfl) rfl rfl rfl ?_
  refine Seq.val (Runs.move rfl rfl) rfl rfl rfl ?_
  refine SeqC.start ?_
  refine SeqC.open rfl rfl rfl rfl rfl rfl rfl (fun hcx => Runs.fieldB 1 rfl rfl Try.underlying45 rfl (by kernel_rfl)) ?_
  refine SeqC.next rfl rfl rfl rfl rfl rfl rfl (fun hcx => Runs.loadB rfl rfl Try.underlying2 rfl k3 rfl) ?_
  refine SeqC.next rfl rfl rfl rfl rfl rfl rfl (fun hcx => Runs.eqlI rfl rfl rfl) ?_
  refine SeqC.or rfl rfl rfl rfl rfl rfl rfl ?_
  refine Seq.nil ?_
  refine Post.weak (F' := [(0, _), (1, _), (2, _), (3, _), (4, _), (5, _), (33, _)]) ⟨rfl, rfl, rfl, rfl, rfl, rfl, rfl, trivial⟩ ?_
  refine Post.then_ ?_
  refine Cd.condF rfl (by simp; omega) ?_
  refine Cd.skip ?_
  refine Post.then_ ?_
  refine Cd.seq ?_
  refine Cd.region ?_
  refine Seq.val (Runs.loadW rfl rfl Try.underlying45 rfl k2 (m := 2) (by kernel_rfl) rfl) rfl rfl rfl ?_
  refine Seq.call (Enters.func rfl rfl rfl (run_enter Try.func56 (by kernel_rfl) rfl)) rfl rfl rfl (c1 _) ?_
  rintro e' w2 ⟨rfl, hb2⟩
  refine ⟨_, rfl, ?_⟩
  replace bel := bel.step hb2
  replace k2 := k2.step hb2
  replace k3 := k3.step hb2
  replace k4 := k4.step hb2
  refine Seq.val (Runs.move rfl rfl) rfl rfl rfl ?_
  refine Seq.val (Runs.extract rfl rfl rfl) rfl rfl rfl ?_
  refine Seq.val (Runs.extract rfl rfl rfl) rfl rfl rfl ?_
  refine Seq.val (Runs.extract rfl rfl rfl) rfl rfl rfl ?_
  refine Seq.val (Runs.assign rfl rfl) rfl rfl rfl ?_
  refine Seq.val (Runs.assign rfl rfl) rfl rfl rfl ?_
  refine Seq.val (Runs.assign rfl rfl) rfl rfl rfl ?_
  refine Seq.nil ?_
  refine Post.weak (F' := [(0, _), (1, _), (2, _), (3, _), (4, _), (5, _), (6, _), (7, _), (8, _), (33, _)]) ⟨rfl, rfl, rfl, rfl, rfl, rfl, rfl, rfl, rfl, rfl, trivial⟩ ?_
  refine Post.then_ ?_
  refine Cd.seq ?_
  refine Cd.region ?_
  refine Seq.val (Runs.loadW rfl rfl Try.underlying45 rfl k3 (m := 2) (by kernel_rfl) rfl) rfl rfl rfl ?_
  refine Seq.call (Enters.func rfl rfl rfl (run_enter Try.func56 (by kernel_rfl) rfl)) rfl rfl rfl (c2 _) ?_
  rintro e' w3 ⟨rfl, hb3⟩
  refine ⟨_, rfl, ?_⟩
  replace bel := bel.step hb3
  replace k2 := k2.step hb3
  replace k3 := k3.step hb3
  replace k4 := k4.step hb3
  refine Seq.val (Runs.move rfl rfl) rfl rfl rfl ?_
  refine Seq.val (Runs.extract rfl rfl rfl) rfl rfl rfl ?_
  refine Seq.val (Runs.extract rfl rfl rfl) rfl rfl rfl ?_
  refine Seq.val (Runs.extract rfl rfl rfl) rfl rfl rfl ?_
  refine Seq.val (Runs.assign rfl rfl) rfl rfl rfl ?_
  refine Seq.val (Runs.assign rfl rfl) rfl rfl rfl ?_
  refine Seq.val (Runs.assign rfl rfl) rfl rfl rfl ?_
  refine Seq.nil ?_
  refine Post.weak (F' := [(0, _), (1, _), (2, _), (3, _), (4, _), (5, _), (6, _), (7, _), (8, _), (9, _), (10, _), (11, _), (33, _)]) ⟨rfl, rfl, rfl, rfl, rfl, rfl, rfl, rfl, rfl, rfl, rfl, rfl, rfl, trivial⟩ ?_
  refine Post.then_ ?_
  refine Cd.seq ?_
  refine Cd.region ?_
  refine Seq.val (Runs.move rfl rfl) rfl rfl rfl ?_
  refine Seq.val (Runs.move rfl rfl) rfl rfl rfl ?_
  refine Seq.call (Enters.func rfl rfl rfl (run_enter Try.func60 (by kernel_rfl) rfl)) rfl rfl rfl (v1 _) ?_
  rintro e' w4 ⟨rfl, hb4⟩
  refine ⟨_, rfl, ?_⟩
  replace bel := bel.step hb4
  replace k2 := k2.step hb4
  replace k3 := k3.step hb4
  replace k4 := k4.step hb4
  refine Seq.val (Runs.assign rfl rfl) rfl rfl rfl ?_
  refine Seq.nil ?_
  refine Post.weak (F' := [(0, _), (1, _), (2, _), (3, _), (4, _), (5, _), (6, _), (7, _), (8, _), (9, _), (10, _), (11, _), (12, _), (33, _)]) ⟨rfl, rfl, rfl, rfl, rfl, rfl, rfl, rfl, rfl, rfl, rfl, rfl, rfl, rfl, trivial⟩ ?_
  refine Post.then_ ?_
  refine Cd.seq ?_
  refine Cd.region ?_
  refine Seq.val (Runs.move rfl rfl) rfl rfl rfl ?_
  refine Seq.val (Runs.move rfl rfl) rfl rfl rfl ?_
  refine Seq.val (Runs.move rfl rfl) rfl rfl rfl ?_
  refine Seq.val (Runs.quoNU rfl rfl rfl (by omega) (by omega)) rfl rfl rfl ?_
  refine Seq.call (Enters.func rfl rfl rfl (run_enter Try.func57 (by kernel_rfl) rfl)) rfl rfl rfl (u1 _) ?_
  rintro e' w5 ⟨rfl, rfl⟩
  refine ⟨_, rfl, ?_⟩
  refine Seq.val (Runs.move rfl rfl) rfl rfl rfl ?_
  refine Seq.val (Runs.extract rfl rfl rfl) rfl rfl rfl ?_
  refine Seq.val (Runs.extract rfl rfl rfl) rfl rfl rfl ?_
  refine Seq.val (Runs.assign rfl rfl) rfl rfl rfl ?_
  refine Seq.val (Runs.assign rfl rfl) rfl rfl rfl ?_
  refine Seq.nil ?_
  refine Post.weak (F' := [(0, _), (1, _), (2, _), (3, _), (4, _), (5, _), (6, _), (7, _), (8, _), (9, _), (10, _), (11, _), (12, _), (13, _), (14, _), (33, _)]) ⟨rfl, rfl, rfl, rfl, rfl, rfl, rfl, rfl, rfl, rfl, rfl, rfl, rfl, rfl, rfl, rfl, trivial⟩ ?_
  refine Post.then_ ?_
  refine Cd.seq ?_
  refine Cd.region ?_
  refine Seq.val (Runs.move rfl rfl) rfl rfl rfl ?_
  refine Seq.val (Runs.move rfl rfl) rfl rfl rfl ?_
  refine Seq.val (Runs.move rfl rfl) rfl rfl rfl ?_
  refine Seq.val (Runs.quoNU rfl rfl rfl (by omega) (by omega)) rfl rfl rfl ?_
  refine Seq.call (Enters.func rfl rfl rfl (run_enter Try.func57 (by kernel_rfl) rfl)) rfl rfl rfl (u2 _) ?_
  rintro e' w6 ⟨rfl, rfl⟩
  refine ⟨_, rfl, ?_⟩
  generalize hX : n * (e / g) = X at *
  generalize hY : m * (d / g) = Y at *
  refine Seq.val (Runs.move rfl rfl) rfl rfl rfl ?_
  refine Seq.val (Runs.extract rfl rfl rfl) rfl rfl rfl ?_
  refine Seq.val (Runs.extract rfl rfl rfl) rfl rfl rfl ?_
  refine Seq.val (Runs.assign rfl rfl) rfl rfl rfl ?_
  refine Seq.val (Runs.assign rfl rfl) rfl rfl rfl ?_
  refine Seq.nil ?_
  refine Post.weak (F' := [(0, _), (1, _), (2, _), (3, _), (4, _), (5, _), (6, _), (7, _), (8, _), (9, _), (10, _), (11, _), (12, _), (13, _), (14, _), (15, _), (16, _), (33, _)]) ⟨rfl, rfl, rfl, rfl, rfl, rfl, rfl, rfl, rfl, rfl, rfl, rfl, rfl, rfl, rfl, rfl, rfl, rfl, trivial⟩ ?_
  refine Post.then_ ?_
  refine Cd.seq ?_
  refine Cd.region ?_
  refine Seq.val (Runs.move rfl rfl) rfl rfl rfl ?_
  refine Seq.val (Runs.move rfl rfl) rfl rfl rfl ?_
  refine Seq.val (Runs.move rfl rfl) rfl rfl rfl ?_
  refine Seq.val (Runs.build rfl rfl (run_build_wide _ _ _ _)) rfl rfl rfl ?_
  refine Seq.val (Runs.move rfl rfl) rfl rfl rfl ?_
  refine Seq.val (Runs.move rfl rfl) rfl rfl rfl ?_
  refine Seq.val (Runs.move rfl rfl) rfl rfl rfl ?_
  refine Seq.val (Runs.build rfl rfl (run_build_wide _ _ _ _)) rfl rfl rfl ?_
  refine Seq.call (Enters.func rfl rfl rfl (run_enter Try.func61 (by kernel_rfl) rfl)) rfl rfl rfl (more_any (X / 18446744073709551616) (X % 18446744073709551616) (Y / 18446744073709551616) (Y % 18446744073709551616) sg tg _ (by omega) (by omega) (by omega) (by omega)) ?_
  rintro e' w7 ⟨H, L, neg, rfl, hH, hL, hsum, hb7⟩
  refine ⟨_, rfl, ?_⟩
  replace bel := bel.step hb7
  replace k2 := k2.step hb7
  replace k3 := k3.step hb7
  replace k4 := k4.step hb7
  obtain ⟨W, hW2⟩ : ∃ W, W = H * 18446744073709551616 + L := ⟨_, rfl⟩
  have hW := hlaw W neg (by rw [hW2, hsum, show X / 18446744073709551616 * 18446744073709551616 + X % 18446744073709551616 = X by omega, show Y / 18446744073709551616 * 18446744073709551616 + Y % 18446744073709551616 = Y by omega])
  clear hlaw hsum
  obtain ⟨hW0, hW1, hr0, hden⟩ := hW
  refine Seq.val (Runs.move rfl rfl) rfl rfl rfl ?_
  refine Seq.val (Runs.extract rfl rfl rfl) rfl rfl rfl ?_
  refine Seq.val (Runs.extract rfl rfl rfl) rfl rfl rfl ?_
  refine Seq.alloc rfl (run_zero zero_num_wide) rfl rfl rfl ?_
  intro g17 w4 n17
  have e17 := Nat.le_trans bel.size n17.ge
  have l17 := Nat.lt_of_lt_of_le k4.lt n17.ge
  have l17_k2 := Nat.lt_of_lt_of_le k2.lt n17.ge
  have l17_k3 := Nat.lt_of_lt_of_le k3.lt n17.ge
  replace bel := bel.step n17.below
  replace k2 := k2.step n17.below
  replace k3 := k3.step n17.below
  replace k4 := k4.step n17.below
  have k17 := n17.blk
  refine Seq.storeN rfl rfl rfl rfl (m := 3) (by kernel_rfl) rfl (by repeat' first | exact trivial | apply And.intro | rfl | assumption) k17 (by simp [Value.cells]) rfl rfl ?_
  intro w5 pw5
  replace bel := bel.put k17 pw5 e17
  replace k2 := k2.put pw5 (by omega)
  replace k3 := k3.put pw5 (by omega)
  replace k4 := k4.put pw5 (by omega)
  replace k17 := pw5.blk
  refine Seq.val (Runs.assign rfl rfl) rfl rfl rfl ?_
  refine Seq.nil ?_
  refine Post.weak (F' := [(0, _), (1, _), (2, _), (3, _), (4, _), (5, _), (6, _), (7, _), (8, _), (9, _), (10, _), (11, _), (12, _), (13, _), (14, _), (15, _), (16, _), (17, _), (18, _), (33, _)]) ⟨rfl, rfl, rfl, rfl, rfl, rfl, rfl, rfl, rfl, rfl, rfl, rfl, rfl, rfl, rfl, rfl, rfl, rfl, rfl, rfl, trivial⟩ ?_
  refine Post.then_ ?_
  refine Cd.seq ?_
  refine Cd.seq ?_
  refine Cd.region ?_
  refine Seq.val (Runs.move rfl rfl) rfl rfl rfl ?_
  refine Seq.val (Runs.not rfl rfl) rfl rfl rfl ?_
  refine Seq.nil ?_
  refine Post.weak (F' := [(0, _), (1, _), (2, _), (3, _), (4, _), (5, _), (6, _), (7, _), (8, _), (9, _), (10, _), (11, _), (12, _), (13, _), (14, _), (15, _), (16, _), (17, _), (18, _), (33, _), (79, _)]) ⟨rfl, rfl, rfl, rfl, rfl, rfl, rfl, rfl, rfl, rfl, rfl, rfl, rfl, rfl, rfl, rfl, rfl, rfl, rfl, rfl, rfl, trivial⟩ ?_
  refine Post.then_ ?_
  refine Cd.condF rfl rfl ?_
  refine Cd.skip ?_
  refine Post.then_ ?_
  refine Cd.seq ?_
  refine Cd.seq ?_
  refine Cd.region ?_
  refine Seq.val (Runs.fieldB 0 rfl rfl Try.underlying64 rfl (by kernel_rfl)) rfl rfl rfl ?_
  refine Seq.val (Runs.loadB rfl rfl Try.underlying62 rfl k17 rfl) rfl rfl rfl ?_
  refine Seq.val (Runs.eqlI rfl rfl rfl) rfl rfl rfl ?_
  refine Seq.val (Runs.move rfl rfl) rfl rfl rfl ?_
  refine SeqC.start ?_
  refine SeqC.open rfl rfl rfl rfl rfl rfl rfl (fun hcx => Runs.fieldB 1 rfl rfl Try.underlying64 rfl (by kernel_rfl)) ?_
  refine SeqC.next rfl rfl rfl rfl rfl rfl rfl (fun hcx => Runs.loadB rfl rfl Try.underlying62 rfl k17 rfl) ?_
  refine SeqC.next rfl rfl rfl rfl rfl rfl rfl (fun hcx => Runs.eqlI rfl rfl rfl) ?_
  refine SeqC.and rfl rfl rfl rfl rfl rfl rfl ?_
  refine Seq.nil ?_
  refine Post.weak (F' := [(0, _), (1, _), (2, _), (3, _), (4, _), (5, _), (6, _), (7, _), (8, _), (9, _), (10, _), (11, _), (12, _), (13, _), (14, _), (15, _), (16, _), (17, _), (18, _), (33, _), (79, _), (88, _)]) ⟨rfl, rfl, rfl, rfl, rfl, rfl, rfl, rfl, rfl, rfl, rfl, rfl, rfl, rfl, rfl, rfl, rfl, rfl, rfl, rfl, rfl, rfl, trivial⟩ ?_
  refine Post.then_ ?_
  refine Cd.cond rfl (fun hc => ?_) (fun hc => ?_)
  · rw [hW0 (by simp at hc; omega)]
    refine Cd.seq ?_
    refine Cd.region ?_
    refine Seq.val (Runs.build rfl rfl (run_build_Ratio1 _)) rfl rfl rfl ?_
    refine Seq.storeN rfl rfl rfl rfl (m := 2) (by kernel_rfl) rfl (by repeat' first | exact trivial | apply And.intro | rfl | assumption) k4 (by simp [Value.cells]) rfl rfl ?_
    intro w6 pw6
    replace bel := bel.put k4 pw6 e4
    replace k2 := k2.put pw6 (by omega)
    replace k3 := k3.put pw6 (by omega)
    replace k17 := k17.put pw6 (by omega)
    replace k4 := pw6.blk
    refine Seq.val (Runs.assign rfl rfl) rfl rfl rfl ?_
    refine Seq.nil ?_
    refine Post.weak (F' := [(0, _), (1, _), (2, _), (3, _), (4, _), (5, _), (6, _), (7, _), (8, _), (9, _), (10, _), (11, _), (12, _), (13, _), (14, _), (15, _), (16, _), (17, _), (18, _), (33, _), (79, _), (88, _)]) ⟨rfl, rfl, rfl, rfl, rfl, rfl, rfl, rfl, rfl, rfl, rfl, rfl, rfl, rfl, rfl, rfl, rfl, rfl, rfl, rfl, rfl, rfl, trivial⟩ ?_
    refine Post.then_ ?_
    refine Cd.ret ?_
    refine Post.then_ret ?_
    refine Post.endC2 rfl rfl rfl k4 Try.underlying45 rfl (m := 2) (by kernel_rfl) rfl (.inl rfl) ?_
    exact ⟨rfl, bel⟩
  have hWp : 0 < W := by
    rcases Nat.eq_zero_or_pos W with h | h
    · exfalso
      obtain rfl : H = 0 := by omega
      obtain rfl : L = 0 := by omega
      simp at hc
    · exact h
  obtain ⟨hV, hco⟩ := hW1 hWp
  rw [hV]
  clear hV hW0 hW1
  have hmw := mod_wide H L g
  rw [← hW2] at hmw
  have hlt := Nat.mod_lt W g1
  have hHg := Nat.mod_lt H g1
  have z1 := fun w => div64_any (H % g) L g w hL (by omega) hHg
  rw [hmw] at z1
  obtain ⟨qq, hqq⟩ : ∃ x, x = (H % g * 18446744073709551616 + L) / g := ⟨_, rfl⟩
  rw [← hqq] at z1
  obtain ⟨left, hleft⟩ : ∃ x, x = W % g := ⟨_, rfl⟩
  rw [← hleft] at z1 hlt hr0 hco hden ⊢
  obtain ⟨ρ, hρ⟩ : ∃ x, x = Nat.gcd left g := ⟨_, rfl⟩
  rw [← hρ] at hr0 hco hden ⊢
  have hρl : ρ ≤ g := by rw [hρ]; exact Nat.gcd_le_right _ g1
  have z2 := fun w => divisor_nat left g w (by omega) (by omega)
  rw [← hρ] at z2
  have be2 := Nat.div_le_self e ρ
  have z3 := fun w => mul64_nat (d / g) (e / ρ) w (by omega) (by omega)
  clear hmw hleft hρ
  refine Cd.skip ?_
  refine Post.then_ ?_
  refine Cd.seq ?_
  refine Cd.draw 11 (by kernel_rfl) [10] (.inr (fun _ _ d _ _ h => by cases d <;> exact h)) rfl Grow Grow.refl (fun _ _ _ => Grow.trans) ?_
  intro w6 hw6 zw6
  replace bel := bel.step hw6
  replace k2 := k2.step hw6
  replace k3 := k3.step hw6
  replace k4 := k4.step hw6
  replace k17 := k17.step hw6
  have zbel := bel.size
  have zlt := k17.lt
  refine Dr.val Grow.refl rfl (fun w hG => Runs.fieldB 0 rfl rfl Try.underlying64 rfl (by kernel_rfl)) rfl ?_
  refine Dr.val Grow.refl rfl (fun w hG => Runs.loadB rfl rfl Try.underlying62 rfl (k17.step hG) rfl) rfl ?_
  refine Dr.val Grow.refl rfl (fun w hG => Runs.move rfl rfl) rfl ?_
  refine Dr.val Grow.refl rfl (fun w hG => Runs.remNU rfl rfl rfl (by omega)) rfl ?_
  refine Dr.val Grow.refl rfl (fun w hG => Runs.fieldB 1 rfl rfl Try.underlying64 rfl (by kernel_rfl)) rfl ?_
  refine Dr.val Grow.refl rfl (fun w hG => Runs.loadB rfl rfl Try.underlying62 rfl (k17.step hG) rfl) rfl ?_
  refine Dr.val Grow.refl rfl (fun w hG => Runs.move rfl rfl) rfl ?_
  refine Dr.callV rfl (fun w => Enters.func rfl rfl rfl (run_enter Try.func49 (by kernel_rfl) rfl)) rfl (fun w hG => z1 _) ?_
  refine Dr.val Grow.refl rfl (fun w hG => Runs.move rfl rfl) rfl ?_
  refine Dr.val Grow.refl rfl (fun w hG => Runs.extract rfl rfl rfl) rfl ?_
  refine Dr.late rfl rfl (fun w => Runs.extract rfl rfl rfl) Grow.refl rfl ?_
  refine Dr.nil ?_
  refine FinX.done (F' := [(0, _), (1, _), (2, _), (3, _), (4, _), (5, _), (6, _), (7, _), (8, _), (9, _), (10, _), (11, _), (12, _), (13, _), (14, _), (15, _), (16, _), (17, _), (18, _), (33, _), (79, _), (88, _), (99, _), (100, _)]) rfl ⟨rfl, rfl, rfl, rfl, rfl, rfl, rfl, rfl, rfl, rfl, rfl, rfl, rfl, rfl, rfl, rfl, rfl, rfl, rfl, rfl, rfl, rfl, rfl, rfl, trivial⟩ ?_
  intro w7 hw7 fw7
  replace bel := bel.step hw7
  replace k2 := k2.step hw7
  replace k3 := k3.step hw7
  replace k4 := k4.step hw7
  replace k17 := k17.step hw7
  refine Seq.val (Runs.assign rfl rfl) rfl rfl rfl ?_
  refine Seq.val (Runs.assign rfl rfl) rfl rfl rfl ?_
  refine Seq.nil ?_
  refine Post.weak (F' := [(0, _), (1, _), (2, _), (3, _), (4, _), (5, _), (6, _), (7, _), (8, _), (9, _), (10, _), (11, _), (12, _), (13, _), (14, _), (15, _), (16, _), (17, _), (18, _), (20, _), (33, _), (79, _), (88, _)]) ⟨rfl, rfl, rfl, rfl, rfl, rfl, rfl, rfl, rfl, rfl, rfl, rfl, rfl, rfl, rfl, rfl, rfl, rfl, rfl, rfl, rfl, rfl, rfl, trivial⟩ ?_
  refine Post.then_ ?_
  refine Cd.seq ?_
  refine Cd.region ?_
  refine Seq.val (Runs.move rfl rfl) rfl rfl rfl ?_
  refine Seq.val (Runs.move rfl rfl) rfl rfl rfl ?_
  refine Seq.call (Enters.func rfl rfl rfl (run_enter Try.func60 (by kernel_rfl) rfl)) rfl rfl rfl (z2 _) ?_
  rintro e' w9 ⟨rfl, hb9⟩
  refine ⟨_, rfl, ?_⟩
  replace bel := bel.step hb9
  replace k2 := k2.step hb9
  replace k3 := k3.step hb9
  replace k4 := k4.step hb9
  replace k17 := k17.step hb9
  refine Seq.val (Runs.assign rfl rfl) rfl rfl rfl ?_
  refine Seq.nil ?_
  refine Post.weak (F' := [(0, _), (1, _), (2, _), (3, _), (4, _), (5, _), (6, _), (7, _), (8, _), (9, _), (10, _), (11, _), (12, _), (13, _), (14, _), (15, _), (16, _), (17, _), (18, _), (20, _), (21, _), (33, _), (79, _), (88, _)]) ⟨rfl, rfl, rfl, rfl, rfl, rfl, rfl, rfl, rfl, rfl, rfl, rfl, rfl, rfl, rfl, rfl, rfl, rfl, rfl, rfl, rfl, rfl, rfl, rfl, trivial⟩ ?_
  refine Post.then_ ?_
  refine Cd.seq ?_
  refine Cd.draw 10 (by kernel_rfl) [9] (.inr (fun _ _ d _ _ h => by cases d <;> exact h)) rfl Grow Grow.refl (fun _ _ _ => Grow.trans) ?_
  intro w8 hw8 zw8
  replace bel := bel.step hw8
  replace k2 := k2.step hw8
  replace k3 := k3.step hw8
  replace k4 := k4.step hw8
  replace k17 := k17.step hw8
  have zbel := bel.size
  have zlt := k17.lt
  refine Dr.val Grow.refl rfl (fun w hG => Runs.move rfl rfl) rfl ?_
  refine Dr.val Grow.refl rfl (fun w hG => Runs.move rfl rfl) rfl ?_
  refine Dr.val Grow.refl rfl (fun w hG => Runs.quoNU rfl rfl rfl (by omega) (by omega)) rfl ?_
  refine Dr.val Grow.refl rfl (fun w hG => Runs.move rfl rfl) rfl ?_
  refine Dr.val Grow.refl rfl (fun w hG => Runs.move rfl rfl) rfl ?_
  refine Dr.val Grow.refl rfl (fun w hG => Runs.quoNU rfl rfl rfl (by omega) (by omega)) rfl ?_
  refine Dr.callV rfl (fun w => Enters.func rfl rfl rfl (run_enter Try.func57 (by kernel_rfl) rfl)) rfl (fun w hG => (z3 _).mono (fun e' w' h => ⟨h.1, by rw [← h.2]; exact Grow.refl _⟩)) ?_
  refine Dr.val Grow.refl rfl (fun w hG => Runs.move rfl rfl) rfl ?_
  refine Dr.val Grow.refl rfl (fun w hG => Runs.extract rfl rfl rfl) rfl ?_
  refine Dr.late rfl rfl (fun w => Runs.extract rfl rfl rfl) Grow.refl rfl ?_
  refine Dr.nil ?_
  refine FinX.done (F' := [(0, _), (1, _), (2, _), (3, _), (4, _), (5, _), (6, _), (7, _), (8, _), (9, _), (10, _), (11, _), (12, _), (13, _), (14, _), (15, _), (16, _), (17, _), (18, _), (20, _), (21, _), (33, _), (79, _), (88, _), (112, _), (113, _)]) rfl ⟨rfl, rfl, rfl, rfl, rfl, rfl, rfl, rfl, rfl, rfl, rfl, rfl, rfl, rfl, rfl, rfl, rfl, rfl, rfl, rfl, rfl, rfl, rfl, rfl, rfl, rfl, trivial⟩ ?_
  intro w9 hw9 fw9
  replace bel := bel.step hw9
  replace k2 := k2.step hw9
  replace k3 := k3.step hw9
  replace k4 := k4.step hw9
  replace k17 := k17.step hw9
  obtain ⟨D, hD⟩ : ∃ x, x = d / g * (e / ρ) := ⟨_, rfl⟩
  rw [← hD] at hden hco ⊢
  refine Seq.val (Runs.assign rfl rfl) rfl rfl rfl ?_
  refine Seq.val (Runs.assign rfl rfl) rfl rfl rfl ?_
  refine Seq.nil ?_
  refine Post.weak (F' := [(0, _), (1, _), (2, _), (3, _), (4, _), (5, _), (6, _), (7, _), (8, _), (9, _), (10, _), (11, _), (12, _), (13, _), (14, _), (15, _), (16, _), (17, _), (18, _), (20, _), (21, _), (22, _), (23, _), (33, _), (79, _), (88, _)]) ⟨rfl, rfl, rfl, rfl, rfl, rfl, rfl, rfl, rfl, rfl, rfl, rfl, rfl, rfl, rfl, rfl, rfl, rfl, rfl, rfl, rfl, rfl, rfl, rfl, rfl, rfl, trivial⟩ ?_
  refine Post.then_ ?_
  refine Cd.seq ?_
  refine Cd.seq ?_
  refine Cd.region ?_
  refine Seq.val (Runs.fieldB 0 rfl rfl Try.underlying64 rfl (by kernel_rfl)) rfl rfl rfl ?_
  refine Seq.val (Runs.loadB rfl rfl Try.underlying62 rfl k17 rfl) rfl rfl rfl ?_
  refine Seq.val (Runs.move rfl rfl) rfl rfl rfl ?_
  refine Seq.val (Runs.geq rfl rfl rfl) rfl rfl rfl ?_
  refine Seq.val (Runs.move rfl rfl) rfl rfl rfl ?_
  refine SeqC.start ?_
  refine SeqC.open rfl rfl rfl rfl rfl rfl rfl (fun hcx => Runs.move rfl rfl) ?_
  refine SeqC.next rfl rfl rfl rfl rfl rfl rfl (fun hcx => Runs.neqI rfl rfl rfl) ?_
  refine SeqC.or rfl rfl rfl rfl rfl rfl rfl ?_
  refine Seq.nil ?_
  refine Post.weak (F' := [(0, _), (1, _), (2, _), (3, _), (4, _), (5, _), (6, _), (7, _), (8, _), (9, _), (10, _), (11, _), (12, _), (13, _), (14, _), (15, _), (16, _), (17, _), (18, _), (20, _), (21, _), (22, _), (23, _), (33, _), (79, _), (88, _), (121, _)]) ⟨rfl, rfl, rfl, rfl, rfl, rfl, rfl, rfl, rfl, rfl, rfl, rfl, rfl, rfl, rfl, rfl, rfl, rfl, rfl, rfl, rfl, rfl, rfl, rfl, rfl, rfl, rfl, trivial⟩ ?_
  refine Post.then_ ?_
  refine Cd.cond rfl (fun hc2 => ?_) (fun hc2 => ?_)
  · have hb : 18446744073709551616 ≤ W / ρ ∨ 18446744073709551616 ≤ D := by
      simp at hc2
      rcases hc2 with h | h
      · left
        rw [Nat.le_div_iff_mul_le hr0]
        have : ρ * 18446744073709551616 ≤ H * 18446744073709551616 := Nat.mul_le_mul_right _ h
        omega
      · right; omega
    rw [formV_no _ _ D hco hb]
    refine Cd.seq ?_
    refine Cd.region ?_
    refine Seq.val (Runs.build rfl rfl (run_build_Ratio0 _)) rfl rfl rfl ?_
    refine Seq.storeN rfl rfl rfl rfl (m := 2) (by kernel_rfl) rfl (by repeat' first | exact trivial | apply And.intro | rfl | assumption) k4 (by simp [Value.cells]) rfl rfl ?_
    intro w10 pw10
    replace bel := bel.put k4 pw10 e4
    replace k2 := k2.put pw10 (by omega)
    replace k3 := k3.put pw10 (by omega)
    replace k17 := k17.put pw10 (by omega)
    replace k4 := pw10.blk
    refine Seq.val (Runs.assign rfl rfl) rfl rfl rfl ?_
    refine Seq.nil ?_
    refine Post.weak (F' := [(0, _), (1, _), (2, _), (3, _), (4, _), (5, _), (6, _), (7, _), (8, _), (9, _), (10, _), (11, _), (12, _), (13, _), (14, _), (15, _), (16, _), (17, _), (18, _), (20, _), (21, _), (22, _), (23, _), (33, _), (79, _), (88, _), (121, _)]) ⟨rfl, rfl, rfl, rfl, rfl, rfl, rfl, rfl, rfl, rfl, rfl, rfl, rfl, rfl, rfl, rfl, rfl, rfl, rfl, rfl, rfl, rfl, rfl, rfl, rfl, rfl, rfl, trivial⟩ ?_
    refine Post.then_ ?_
    refine Cd.ret ?_
    refine Post.then_ret ?_
    refine Post.endC2 rfl rfl rfl k4 Try.underlying45 rfl (m := 2) (by kernel_rfl) rfl (.inl rfl) ?_
    exact ⟨rfl, bel⟩
  have hHρ : H < ρ ∧ D < 18446744073709551616 := by simp at hc2; omega
  have hWρ : W / ρ < 18446744073709551616 := by
    rw [Nat.div_lt_iff_lt_mul hr0]
    have : (H + 1) * 18446744073709551616 ≤ ρ * 18446744073709551616 := Nat.mul_le_mul_right _ hHρ.1
    omega
  have z4 := fun w => div64_any H L ρ w hL (by omega) hHρ.1
  rw [← hW2] at z4
  have hf := fun w => form_any neg (W / ρ) D w hWρ hHρ.2 hden
  obtain ⟨x, y, z, hV⟩ := formV_open neg (W / ρ) D
  rw [hV] at hf ⊢
  obtain ⟨K, hK⟩ : ∃ x, x = W / ρ := ⟨_, rfl⟩
  rw [← hK] at z4 hf
  rw [Nat.mod_eq_of_lt hHρ.2]
  refine Cd.skip ?_
  refine Post.then_ ?_
  refine Cd.seq ?_
  refine Cd.region ?_
  refine Seq.val (Runs.fieldB 0 rfl rfl Try.underlying64 rfl (by kernel_rfl)) rfl rfl rfl ?_
  refine Seq.val (Runs.loadB rfl rfl Try.underlying62 rfl k17 rfl) rfl rfl rfl ?_
  refine Seq.val (Runs.fieldB 1 rfl rfl Try.underlying64 rfl (by kernel_rfl)) rfl rfl rfl ?_
  refine Seq.val (Runs.loadB rfl rfl Try.underlying62 rfl k17 rfl) rfl rfl rfl ?_
  refine Seq.val (Runs.move rfl rfl) rfl rfl rfl ?_
  refine Seq.call (Enters.func rfl rfl rfl (run_enter Try.func49 (by kernel_rfl) rfl)) rfl rfl rfl (z4 _) ?_
  rintro e' w12 ⟨rfl, hb12⟩
  refine ⟨_, rfl, ?_⟩
  replace bel := bel.step hb12
  replace k2 := k2.step hb12
  replace k3 := k3.step hb12
  replace k4 := k4.step hb12
  replace k17 := k17.step hb12
  refine Seq.val (Runs.move rfl rfl) rfl rfl rfl ?_
  refine Seq.val (Runs.extract rfl rfl rfl) rfl rfl rfl ?_
  refine Seq.val (Runs.extract rfl rfl rfl) rfl rfl rfl ?_
  refine Seq.val (Runs.assign rfl rfl) rfl rfl rfl ?_
  refine Seq.val (Runs.assign rfl rfl) rfl rfl rfl ?_
  refine Seq.nil ?_
  refine Post.weak (F' := [(0, _), (1, _), (2, _), (3, _), (4, _), (5, _), (6, _), (7, _), (8, _), (9, _), (10, _), (11, _), (12, _), (13, _), (14, _), (15, _), (16, _), (17, _), (18, _), (20, _), (21, _), (22, _), (23, _), (24, _), (33, _), (79, _), (88, _), (121, _)]) ⟨rfl, rfl, rfl, rfl, rfl, rfl, rfl, rfl, rfl, rfl, rfl, rfl, rfl, rfl, rfl, rfl, rfl, rfl, rfl, rfl, rfl, rfl, rfl, rfl, rfl, rfl, rfl, rfl, trivial⟩ ?_
  refine Post.then_ ?_
  refine Cd.seq ?_
  refine Cd.region ?_
  refine Seq.val (Runs.fieldB 2 rfl rfl Try.underlying64 rfl (by kernel_rfl)) rfl rfl rfl ?_
  refine Seq.val (Runs.loadB rfl rfl Try.underlying4 rfl k17 rfl) rfl rfl rfl ?_
  refine Seq.val (Runs.move rfl rfl) rfl rfl rfl ?_
  refine Seq.val (Runs.move rfl rfl) rfl rfl rfl ?_
  refine Seq.call (Enters.func rfl rfl rfl (run_enter Try.func58 (by kernel_rfl) rfl)) rfl rfl rfl (hf _) ?_
  rintro e' w13 ⟨rfl, hb13⟩
  refine ⟨_, rfl, ?_⟩
  replace bel := bel.step hb13
  replace k2 := k2.step hb13
  replace k3 := k3.step hb13
  replace k4 := k4.step hb13
  replace k17 := k17.step hb13
  refine Seq.val (Runs.extract rfl rfl rfl) rfl rfl rfl ?_
  refine Seq.val (Runs.extract rfl rfl rfl) rfl rfl rfl ?_
  refine Seq.storeN rfl rfl rfl rfl (m := 2) (by kernel_rfl) rfl (by repeat' first | exact trivial | apply And.intro | rfl | assumption) k4 (by simp [Value.cells]) rfl rfl ?_
  intro w10 pw10
  replace bel := bel.put k4 pw10 e4
  replace k2 := k2.put pw10 (by omega)
  replace k3 := k3.put pw10 (by omega)
  replace k17 := k17.put pw10 (by omega)
  replace k4 := pw10.blk
  refine Seq.val (Runs.assign rfl rfl) rfl rfl rfl ?_
  refine Seq.nil ?_
  refine Post.weak (F' := [(0, _), (1, _), (2, _), (3, _), (4, _), (5, _), (6, _), (7, _), (8, _), (9, _), (10, _), (11, _), (12, _), (13, _), (14, _), (15, _), (16, _), (17, _), (18, _), (20, _), (21, _), (22, _), (23, _), (24, _), (33, _), (79, _), (88, _), (121, _)]) ⟨rfl, rfl, rfl, rfl, rfl, rfl, rfl, rfl, rfl, rfl, rfl, rfl, rfl, rfl, rfl, rfl, rfl, rfl, rfl, rfl, rfl, rfl, rfl, rfl, rfl, rfl, rfl, rfl, trivial⟩ ?_
  refine Post.then_ ?_
  refine Cd.ret ?_
  refine Post.endC2 rfl rfl rfl k4 Try.underlying45 rfl (m := 2) (by kernel_rfl) rfl (.inl rfl) ?_
  exact ⟨rfl, bel⟩
end Go.Proofs.Ytpdeihienkbeeaa

/-
  ParseRight: what is parsed is right; what isn't is told with a place: the statement returns true. No condition.
-/
import Derived.Test.YtijaldpmpjapiaaR5
namespace Go.Proofs.Ytijaldpmpjapiaa
open Go.ChangeShapes Go.WideShapes Go.ChangeAt Go.RowKit

theorem walk_pright (l : List Nat) (w : World) (hl : ∀ x ∈ l, x < 256) (hlen : l.length ≤ 9223372036854775807) :
    Calls Try.prog 9 #[.string (strOf l)] w fun e w' => e = .returned (.bool true) ∧ Below w.heap.size w w' := by
  have bel := Below.refl w.heap.size w
  have hps := parse_any l w hl hlen
  refine Calls.start 87 Try.func9 rfl rfl rfl ?_
  refine Cd.seq ?_
  refine Cd.region ?_
  refine Seq.val (Runs.assign rfl rfl) rfl rfl rfl ?_
  refine Seq.nil ?_
  refine Post.weak (F' := [(0, _), (2, _)]) ⟨rfl, rfl, trivial⟩ ?_
  refine Post.then_ ?_
  refine Cd.seq ?_
  refine Cd.region ?_
  refine Seq.val (Runs.move rfl rfl) rfl rfl rfl ?_
  refine Seq.call (Enters.func rfl rfl rfl (run_enter Try.func33 (by kernel_rfl) rfl)) rfl rfl rfl (hps) ?_
  rintro en w5 ⟨hb5, v, S, rfl, hrep, hS⟩
  rcases parseT_or l with ⟨t, hp, hri, h4⟩ | ⟨hp, h4⟩ | ⟨hp, h4⟩ | ⟨p, hp, h4, hpl⟩
  · rw [hp] at hrep ⊢
    have hrb : RepB w5 w5.heap.size t v := hrep.mono (fun b hb => (hS b hb).2) (fun _ _ => rfl)
    obtain ⟨A, c, A', c', rfl⟩ := hrep.form
    refine ⟨_, rfl, ?_⟩
    have bel5 := hb5
    clear bel
    have bel := Below.refl w5.heap.size w5
    refine Seq.val (Runs.move rfl rfl) rfl rfl rfl ?_
    refine Seq.val (Runs.extract rfl rfl rfl) rfl rfl rfl ?_
    refine Seq.val (Runs.extract rfl rfl rfl) rfl rfl rfl ?_
    refine Seq.val (Runs.extract rfl rfl rfl) rfl rfl rfl ?_
    refine Seq.alloc rfl (run_zero zero_api_Term) rfl rfl rfl ?_
    intro g3 w1 n3
    have e3 := Nat.le_trans bel.size n3.ge
    replace bel := bel.step n3.below
    have k3 := n3.blk
    refine Seq.storeN rfl rfl rfl rfl (m := 4) (by kernel_rfl) rfl (by repeat' first | exact trivial | apply And.intro | rfl | assumption) k3 (by simp [Value.cells]) rfl rfl ?_
    intro w2 pw2
    replace bel := bel.put k3 pw2 e3
    replace k3 := pw2.blk
    refine Seq.val (Runs.assign rfl rfl) rfl rfl rfl ?_
    refine Seq.val (Runs.assign rfl rfl) rfl rfl rfl ?_
    refine Seq.nil ?_
    refine Post.weak (F' := [(0, _), (2, _), (3, _), (4, _), (5, _)]) ⟨rfl, rfl, rfl, rfl, rfl, trivial⟩ ?_
    refine Post.then_ ?_
    refine Cd.seq ?_
    refine Cd.seq ?_
    refine Cd.region ?_
    refine Seq.val (Runs.move rfl rfl) rfl rfl rfl ?_
    refine Seq.val (Runs.eqlI rfl rfl rfl) rfl rfl rfl ?_
    refine Seq.nil ?_
    refine Post.weak (F' := [(0, _), (2, _), (3, _), (4, _), (5, _), (13, _)]) ⟨rfl, rfl, rfl, rfl, rfl, rfl, trivial⟩ ?_
    refine Post.then_ ?_
    refine Cd.condT rfl (by simp) ?_
    refine Cd.seq ?_
    refine Cd.region ?_
    refine Seq.val (Runs.loadW rfl rfl Try.underlying57 rfl k3 (m := 4) (by kernel_rfl) rfl) rfl rfl rfl ?_
    refine Seq.call (Enters.func rfl rfl rfl (run_enter Try.func34 (by kernel_rfl) rfl)) rfl rfl rfl (right_all t _ _ _ ((hrb.below bel).more bel.size) (Nat.le_refl _)) ?_
    rintro en w7 ⟨rfl, hb7⟩
    refine ⟨_, rfl, ?_⟩
    replace bel := bel.step hb7
    replace k3 := k3.step hb7
    refine Seq.val (Runs.move rfl rfl) rfl rfl rfl ?_
    refine SeqC.start ?_
    refine SeqC.open rfl rfl rfl rfl rfl rfl rfl (fun hcx => Runs.move rfl rfl) ?_
    refine SeqC.next rfl rfl rfl rfl rfl rfl rfl (fun hcx => Runs.eqlI rfl rfl rfl) ?_
    refine SeqC.and rfl rfl rfl rfl rfl rfl rfl ?_
    refine Seq.val (Runs.move rfl rfl) rfl rfl rfl ?_
    refine SeqC.start ?_
    refine SeqC.openC rfl rfl rfl rfl rfl rfl rfl (fun hcx => Enters.func rfl rfl rfl (run_enter Try.func35 (by kernel_rfl) rfl)) (fun hcx => awake19_any _) ?_
    intro w3 hw3
    replace bel := bel.step hw3
    replace k3 := k3.step hw3
    refine SeqC.and rfl rfl rfl rfl rfl rfl rfl ?_
    refine Seq.val (Runs.assign rfl rfl) rfl rfl rfl ?_
    refine Seq.nil ?_
    refine Post.weak (F' := [(0, _), (2, _), (3, _), (4, _), (5, _), (13, _)]) ⟨rfl, rfl, rfl, rfl, rfl, rfl, trivial⟩ ?_
    refine Post.then_ ?_
    refine Cd.ret ?_
    refine Post.then_ret ?_
    refine Post.end1 rfl rfl (.inl rfl) ?_
    exact ⟨ret1 (bool_eq (by simp [hri])), bel5.trans (bel.mono bel5.size)⟩
  · rw [hp] at hrep ⊢
    obtain ⟨A, c, A', c', rfl⟩ := hrep.form
    refine ⟨_, rfl, ?_⟩
    have bel5 := hb5
    clear bel
    have bel := Below.refl w5.heap.size w5
    refine Seq.val (Runs.move rfl rfl) rfl rfl rfl ?_
    refine Seq.val (Runs.extract rfl rfl rfl) rfl rfl rfl ?_
    refine Seq.val (Runs.extract rfl rfl rfl) rfl rfl rfl ?_
    refine Seq.val (Runs.extract rfl rfl rfl) rfl rfl rfl ?_
    refine Seq.alloc rfl (run_zero zero_api_Term) rfl rfl rfl ?_
    intro g3 w1 n3
    have e3 := Nat.le_trans bel.size n3.ge
    replace bel := bel.step n3.below
    have k3 := n3.blk
    refine Seq.storeN rfl rfl rfl rfl (m := 4) (by kernel_rfl) rfl (by repeat' first | exact trivial | apply And.intro | rfl | assumption) k3 (by simp [Value.cells]) rfl rfl ?_
    intro w2 pw2
    replace bel := bel.put k3 pw2 e3
    replace k3 := pw2.blk
    refine Seq.val (Runs.assign rfl rfl) rfl rfl rfl ?_
    refine Seq.val (Runs.assign rfl rfl) rfl rfl rfl ?_
    refine Seq.nil ?_
    refine Post.weak (F' := [(0, _), (2, _), (3, _), (4, _), (5, _)]) ⟨rfl, rfl, rfl, rfl, rfl, trivial⟩ ?_
    refine Post.then_ ?_
    refine Cd.seq ?_
    refine Cd.seq ?_
    refine Cd.region ?_
    refine Seq.val (Runs.move rfl rfl) rfl rfl rfl ?_
    refine Seq.val (Runs.eqlI rfl rfl rfl) rfl rfl rfl ?_
    refine Seq.nil ?_
    refine Post.weak (F' := [(0, _), (2, _), (3, _), (4, _), (5, _), (13, _)]) ⟨rfl, rfl, rfl, rfl, rfl, rfl, trivial⟩ ?_
    refine Post.then_ ?_
    refine Cd.condF rfl (by simp) ?_
    refine Cd.skip ?_
    refine Post.then_ ?_
    refine Cd.seq ?_
    refine Cd.seq ?_
    refine Cd.region ?_
    refine Seq.val (Runs.move rfl rfl) rfl rfl rfl ?_
    refine Seq.val (Runs.neqI rfl rfl rfl) rfl rfl rfl ?_
    refine Seq.nil ?_
    refine Post.weak (F' := [(0, _), (2, _), (3, _), (4, _), (5, _), (13, _), (24, _)]) ⟨rfl, rfl, rfl, rfl, rfl, rfl, rfl, trivial⟩ ?_
    refine Post.then_ ?_
    refine Cd.condT rfl (by simp) ?_
    refine Cd.seq ?_
    refine Cd.region ?_
    refine Seq.val (Runs.move rfl rfl) rfl rfl rfl ?_
    refine Seq.val (Runs.eqlI rfl rfl rfl) rfl rfl rfl ?_
    refine Seq.val (Runs.move rfl rfl) rfl rfl rfl ?_
    refine SeqC.start ?_
    refine SeqC.open rfl rfl rfl rfl rfl rfl rfl (fun hcx => Runs.move rfl rfl) ?_
    refine SeqC.next rfl rfl rfl rfl rfl rfl rfl (fun hcx => Runs.eqlI rfl rfl rfl) ?_
    refine SeqC.next rfl rfl rfl rfl rfl rfl rfl (fun hcx => Runs.move rfl rfl) ?_
    refine SeqC.next rfl rfl rfl rfl rfl rfl rfl (fun hcx => Runs.lenL rfl rfl Try.underlying9) ?_
    refine SeqC.next rfl rfl rfl rfl rfl rfl rfl (fun hcx => Runs.gtr rfl rfl rfl) ?_
    refine SeqC.next rfl rfl rfl rfl rfl rfl rfl (fun hcx => Runs.eqlB rfl rfl rfl Try.underlying4) ?_
    refine SeqC.and rfl rfl rfl rfl rfl rfl rfl ?_
    refine Seq.val (Runs.move rfl rfl) rfl rfl rfl ?_
    refine SeqC.start ?_
    refine SeqC.open rfl rfl rfl rfl rfl rfl rfl (fun hcx => Runs.move rfl rfl) ?_
    refine SeqC.next rfl rfl rfl rfl rfl rfl rfl (fun hcx => Runs.eqlI rfl rfl rfl) ?_
    refine SeqC.next rfl rfl rfl rfl rfl rfl rfl (fun hcx => Runs.move rfl rfl) ?_
    refine SeqC.open rfl rfl rfl rfl rfl rfl rfl (fun hcx => Runs.move rfl rfl) ?_
    refine SeqC.next rfl rfl rfl rfl rfl rfl rfl (fun hcx => Runs.eqlI rfl rfl rfl) ?_
    refine SeqC.orG rfl rfl rfl rfl rfl rfl rfl rfl rfl rfl rfl ?_
    refine SeqC.and rfl rfl rfl rfl rfl rfl rfl ?_
    refine Seq.val (Runs.move rfl rfl) rfl rfl rfl ?_
    refine SeqC.start ?_
    refine SeqC.openC rfl rfl rfl rfl rfl rfl rfl (fun hcx => Enters.func rfl rfl rfl (run_enter Try.func35 (by kernel_rfl) rfl)) (fun hcx => awake19_any _) ?_
    intro w3 hw3
    replace bel := bel.step hw3
    replace k3 := k3.step hw3
    refine SeqC.and rfl rfl rfl rfl rfl rfl rfl ?_
    refine Seq.val (Runs.assign rfl rfl) rfl rfl rfl ?_
    refine Seq.nil ?_
    refine Post.weak (F' := [(0, _), (2, _), (3, _), (4, _), (5, _), (13, _), (24, _)]) ⟨rfl, rfl, rfl, rfl, rfl, rfl, rfl, trivial⟩ ?_
    refine Post.then_ ?_
    refine Cd.ret ?_
    refine Post.then_ret ?_
    refine Post.end1 rfl rfl (.inl rfl) ?_
    exact ⟨ret1 (bool_eq (by simp; omega)), bel5.trans (bel.mono bel5.size)⟩
  · rw [hp] at hrep ⊢
    obtain ⟨A, c, A', c', rfl⟩ := hrep.form
    refine ⟨_, rfl, ?_⟩
    have bel5 := hb5
    clear bel
    have bel := Below.refl w5.heap.size w5
    refine Seq.val (Runs.move rfl rfl) rfl rfl rfl ?_
    refine Seq.val (Runs.extract rfl rfl rfl) rfl rfl rfl ?_
    refine Seq.val (Runs.extract rfl rfl rfl) rfl rfl rfl ?_
    refine Seq.val (Runs.extract rfl rfl rfl) rfl rfl rfl ?_
    refine Seq.alloc rfl (run_zero zero_api_Term) rfl rfl rfl ?_
    intro g3 w1 n3
    have e3 := Nat.le_trans bel.size n3.ge
    replace bel := bel.step n3.below
    have k3 := n3.blk
    refine Seq.storeN rfl rfl rfl rfl (m := 4) (by kernel_rfl) rfl (by repeat' first | exact trivial | apply And.intro | rfl | assumption) k3 (by simp [Value.cells]) rfl rfl ?_
    intro w2 pw2
    replace bel := bel.put k3 pw2 e3
    replace k3 := pw2.blk
    refine Seq.val (Runs.assign rfl rfl) rfl rfl rfl ?_
    refine Seq.val (Runs.assign rfl rfl) rfl rfl rfl ?_
    refine Seq.nil ?_
    refine Post.weak (F' := [(0, _), (2, _), (3, _), (4, _), (5, _)]) ⟨rfl, rfl, rfl, rfl, rfl, trivial⟩ ?_
    refine Post.then_ ?_
    refine Cd.seq ?_
    refine Cd.seq ?_
    refine Cd.region ?_
    refine Seq.val (Runs.move rfl rfl) rfl rfl rfl ?_
    refine Seq.val (Runs.eqlI rfl rfl rfl) rfl rfl rfl ?_
    refine Seq.nil ?_
    refine Post.weak (F' := [(0, _), (2, _), (3, _), (4, _), (5, _), (13, _)]) ⟨rfl, rfl, rfl, rfl, rfl, rfl, trivial⟩ ?_
    refine Post.then_ ?_
    refine Cd.condF rfl (by simp) ?_
    refine Cd.skip ?_
    refine Post.then_ ?_
    refine Cd.seq ?_
    refine Cd.seq ?_
    refine Cd.region ?_
    refine Seq.val (Runs.move rfl rfl) rfl rfl rfl ?_
    refine Seq.val (Runs.neqI rfl rfl rfl) rfl rfl rfl ?_
    refine Seq.nil ?_
    refine Post.weak (F' := [(0, _), (2, _), (3, _), (4, _), (5, _), (13, _), (24, _)]) ⟨rfl, rfl, rfl, rfl, rfl, rfl, rfl, trivial⟩ ?_
    refine Post.then_ ?_
    refine Cd.condT rfl (by simp) ?_
    refine Cd.seq ?_
    refine Cd.region ?_
    refine Seq.val (Runs.move rfl rfl) rfl rfl rfl ?_
    refine Seq.val (Runs.eqlI rfl rfl rfl) rfl rfl rfl ?_
    refine Seq.val (Runs.move rfl rfl) rfl rfl rfl ?_
    refine SeqC.start ?_
    refine SeqC.open rfl rfl rfl rfl rfl rfl rfl (fun hcx => Runs.move rfl rfl) ?_
    refine SeqC.next rfl rfl rfl rfl rfl rfl rfl (fun hcx => Runs.eqlI rfl rfl rfl) ?_
    refine SeqC.next rfl rfl rfl rfl rfl rfl rfl (fun hcx => Runs.move rfl rfl) ?_
    refine SeqC.next rfl rfl rfl rfl rfl rfl rfl (fun hcx => Runs.lenL rfl rfl Try.underlying9) ?_
    refine SeqC.next rfl rfl rfl rfl rfl rfl rfl (fun hcx => Runs.gtr rfl rfl rfl) ?_
    refine SeqC.next rfl rfl rfl rfl rfl rfl rfl (fun hcx => Runs.eqlB rfl rfl rfl Try.underlying4) ?_
    refine SeqC.and rfl rfl rfl rfl rfl rfl rfl ?_
    refine Seq.val (Runs.move rfl rfl) rfl rfl rfl ?_
    refine SeqC.start ?_
    refine SeqC.open rfl rfl rfl rfl rfl rfl rfl (fun hcx => Runs.move rfl rfl) ?_
    refine SeqC.next rfl rfl rfl rfl rfl rfl rfl (fun hcx => Runs.eqlI rfl rfl rfl) ?_
    refine SeqC.next rfl rfl rfl rfl rfl rfl rfl (fun hcx => Runs.move rfl rfl) ?_
    refine SeqC.open rfl rfl rfl rfl rfl rfl rfl (fun hcx => Runs.move rfl rfl) ?_
    refine SeqC.next rfl rfl rfl rfl rfl rfl rfl (fun hcx => Runs.eqlI rfl rfl rfl) ?_
    refine SeqC.orG rfl rfl rfl rfl rfl rfl rfl rfl rfl rfl rfl ?_
    refine SeqC.and rfl rfl rfl rfl rfl rfl rfl ?_
    refine Seq.val (Runs.move rfl rfl) rfl rfl rfl ?_
    refine SeqC.start ?_
    refine SeqC.openC rfl rfl rfl rfl rfl rfl rfl (fun hcx => Enters.func rfl rfl rfl (run_enter Try.func35 (by kernel_rfl) rfl)) (fun hcx => awake19_any _) ?_
    intro w3 hw3
    replace bel := bel.step hw3
    replace k3 := k3.step hw3
    refine SeqC.and rfl rfl rfl rfl rfl rfl rfl ?_
    refine Seq.val (Runs.assign rfl rfl) rfl rfl rfl ?_
    refine Seq.nil ?_
    refine Post.weak (F' := [(0, _), (2, _), (3, _), (4, _), (5, _), (13, _), (24, _)]) ⟨rfl, rfl, rfl, rfl, rfl, rfl, rfl, trivial⟩ ?_
    refine Post.then_ ?_
    refine Cd.ret ?_
    refine Post.then_ret ?_
    refine Post.end1 rfl rfl (.inl rfl) ?_
    exact ⟨ret1 (bool_eq (by simp; omega)), bel5.trans (bel.mono bel5.size)⟩
  · rw [hp] at hrep ⊢
    obtain ⟨A, c, A', c', rfl⟩ := hrep.form
    refine ⟨_, rfl, ?_⟩
    have bel5 := hb5
    clear bel
    have bel := Below.refl w5.heap.size w5
    refine Seq.val (Runs.move rfl rfl) rfl rfl rfl ?_
    refine Seq.val (Runs.extract rfl rfl rfl) rfl rfl rfl ?_
    refine Seq.val (Runs.extract rfl rfl rfl) rfl rfl rfl ?_
    refine Seq.val (Runs.extract rfl rfl rfl) rfl rfl rfl ?_
    refine Seq.alloc rfl (run_zero zero_api_Term) rfl rfl rfl ?_
    intro g3 w1 n3
    have e3 := Nat.le_trans bel.size n3.ge
    replace bel := bel.step n3.below
    have k3 := n3.blk
    refine Seq.storeN rfl rfl rfl rfl (m := 4) (by kernel_rfl) rfl (by repeat' first | exact trivial | apply And.intro | rfl | assumption) k3 (by simp [Value.cells]) rfl rfl ?_
    intro w2 pw2
    replace bel := bel.put k3 pw2 e3
    replace k3 := pw2.blk
    refine Seq.val (Runs.assign rfl rfl) rfl rfl rfl ?_
    refine Seq.val (Runs.assign rfl rfl) rfl rfl rfl ?_
    refine Seq.nil ?_
    refine Post.weak (F' := [(0, _), (2, _), (3, _), (4, _), (5, _)]) ⟨rfl, rfl, rfl, rfl, rfl, trivial⟩ ?_
    refine Post.then_ ?_
    refine Cd.seq ?_
    refine Cd.seq ?_
    refine Cd.region ?_
    refine Seq.val (Runs.move rfl rfl) rfl rfl rfl ?_
    refine Seq.val (Runs.eqlI rfl rfl rfl) rfl rfl rfl ?_
    refine Seq.nil ?_
    refine Post.weak (F' := [(0, _), (2, _), (3, _), (4, _), (5, _), (13, _)]) ⟨rfl, rfl, rfl, rfl, rfl, rfl, trivial⟩ ?_
    refine Post.then_ ?_
    refine Cd.condF rfl (by simp) ?_
    refine Cd.skip ?_
    refine Post.then_ ?_
    refine Cd.seq ?_
    refine Cd.seq ?_
    refine Cd.region ?_
    refine Seq.val (Runs.move rfl rfl) rfl rfl rfl ?_
    refine Seq.val (Runs.neqI rfl rfl rfl) rfl rfl rfl ?_
    refine Seq.nil ?_
    refine Post.weak (F' := [(0, _), (2, _), (3, _), (4, _), (5, _), (13, _), (24, _)]) ⟨rfl, rfl, rfl, rfl, rfl, rfl, rfl, trivial⟩ ?_
    refine Post.then_ ?_
    refine Cd.condF rfl (by simp) ?_
    rcases hpl with rfl | ⟨ch, hch, hb1, hb2, hb3, hb4⟩
    · skip
      refine Cd.skip ?_
      refine Post.then_ ?_
      refine Cd.seq ?_
      refine Cd.region ?_
      refine Seq.val (Runs.move rfl rfl) rfl rfl rfl ?_
      refine Seq.val (Runs.geq rfl rfl rfl) rfl rfl rfl ?_
      refine Seq.val (Runs.move rfl rfl) rfl rfl rfl ?_
      refine SeqC.start ?_
      refine SeqC.open rfl rfl rfl rfl rfl rfl rfl (fun hcx => Runs.move rfl rfl) ?_
      refine SeqC.next rfl rfl rfl rfl rfl rfl rfl (fun hcx => Runs.move rfl rfl) ?_
      refine SeqC.next rfl rfl rfl rfl rfl rfl rfl (fun hcx => Runs.lenL rfl rfl Try.underlying9) ?_
      refine SeqC.next rfl rfl rfl rfl rfl rfl rfl (fun hcx => Runs.leq rfl rfl rfl) ?_
      refine SeqC.and rfl rfl rfl rfl rfl rfl rfl ?_
      refine Seq.val (Runs.move rfl rfl) rfl rfl rfl ?_
      refine SeqC.start ?_
      refine SeqC.open rfl rfl rfl rfl rfl rfl rfl (fun hcx => Runs.move rfl rfl) ?_
      refine SeqC.next rfl rfl rfl rfl rfl rfl rfl (fun hcx => Runs.move rfl rfl) ?_
      refine SeqC.next rfl rfl rfl rfl rfl rfl rfl (fun hcx => Runs.lenL rfl rfl Try.underlying9) ?_
      refine SeqC.next rfl rfl rfl rfl rfl rfl rfl (fun hcx => Runs.eqlI rfl rfl rfl) ?_
      refine SeqC.next rfl rfl rfl rfl rfl rfl rfl (fun hcx => Runs.move rfl rfl) ?_
      refine SeqC.open rfl rfl rfl rfl rfl rfl rfl (fun hcx => Runs.move rfl rfl) ?_
      refine SeqC.next rfl rfl rfl rfl rfl rfl rfl (fun hcx => Runs.move rfl rfl) ?_
      refine SeqC.next rfl rfl rfl rfl rfl rfl rfl (fun hcx => (Bool.noConfusion (show false = true by simp [topX] at hcx) : Runs _ _ _ _ (.int .u8 0) _)) ?_
      refine SeqC.next rfl rfl rfl rfl rfl rfl rfl (fun hcx => Runs.neqI rfl rfl rfl) ?_
      refine SeqC.next rfl rfl rfl rfl rfl rfl rfl (fun hcx => Runs.move rfl rfl) ?_
      refine SeqC.open rfl rfl rfl rfl rfl rfl rfl (fun hcx => Runs.move rfl rfl) ?_
      refine SeqC.next rfl rfl rfl rfl rfl rfl rfl (fun hcx => Runs.move rfl rfl) ?_
      refine SeqC.next rfl rfl rfl rfl rfl rfl rfl (fun hcx => (Bool.noConfusion (show false = true by simp [topX] at hcx) : Runs _ _ _ _ (.int .u8 0) _)) ?_
      refine SeqC.next rfl rfl rfl rfl rfl rfl rfl (fun hcx => Runs.neqI rfl rfl rfl) ?_
      refine SeqC.andG rfl rfl rfl rfl rfl rfl rfl rfl rfl rfl rfl ?_
      refine SeqC.next rfl rfl rfl rfl rfl rfl rfl (fun hcx => Runs.move rfl rfl) ?_
      refine SeqC.open rfl rfl rfl rfl rfl rfl rfl (fun hcx => Runs.move rfl rfl) ?_
      refine SeqC.next rfl rfl rfl rfl rfl rfl rfl (fun hcx => Runs.move rfl rfl) ?_
      refine SeqC.next rfl rfl rfl rfl rfl rfl rfl (fun hcx => (Bool.noConfusion (show false = true by simp [topX] at hcx) : Runs _ _ _ _ (.int .u8 0) _)) ?_
      refine SeqC.next rfl rfl rfl rfl rfl rfl rfl (fun hcx => Runs.neqI rfl rfl rfl) ?_
      refine SeqC.andG rfl rfl rfl rfl rfl rfl rfl rfl rfl rfl rfl ?_
      refine SeqC.next rfl rfl rfl rfl rfl rfl rfl (fun hcx => Runs.move rfl rfl) ?_
      refine SeqC.open rfl rfl rfl rfl rfl rfl rfl (fun hcx => Runs.move rfl rfl) ?_
      refine SeqC.next rfl rfl rfl rfl rfl rfl rfl (fun hcx => Runs.move rfl rfl) ?_
      refine SeqC.next rfl rfl rfl rfl rfl rfl rfl (fun hcx => (Bool.noConfusion (show false = true by simp [topX] at hcx) : Runs _ _ _ _ (.int .u8 0) _)) ?_
      refine SeqC.next rfl rfl rfl rfl rfl rfl rfl (fun hcx => Runs.neqI rfl rfl rfl) ?_
      refine SeqC.andG rfl rfl rfl rfl rfl rfl rfl rfl rfl rfl rfl ?_
      refine SeqC.orG rfl rfl rfl rfl rfl rfl rfl rfl rfl rfl rfl ?_
      refine SeqC.and rfl rfl rfl rfl rfl rfl rfl ?_
      refine Seq.val (Runs.move rfl rfl) rfl rfl rfl ?_
      refine SeqC.start ?_
      refine SeqC.openC rfl rfl rfl rfl rfl rfl rfl (fun hcx => Enters.func rfl rfl rfl (run_enter Try.func35 (by kernel_rfl) rfl)) (fun hcx => awake19_any _) ?_
      intro w3 hw3
      replace bel := bel.step hw3
      replace k3 := k3.step hw3
      refine SeqC.and rfl rfl rfl rfl rfl rfl rfl ?_
      refine Seq.val (Runs.assign rfl rfl) rfl rfl rfl ?_
      refine Seq.nil ?_
      refine Post.weak (F' := [(0, _), (2, _), (3, _), (4, _), (5, _), (13, _), (24, _)]) ⟨rfl, rfl, rfl, rfl, rfl, rfl, rfl, trivial⟩ ?_
      refine Post.then_ ?_
      refine Cd.ret ?_
      refine Post.end1 rfl rfl (.inl rfl) ?_
      exact ⟨ret1 (bool_eq (by simp)), bel5.trans (bel.mono bel5.size)⟩
    · have hpp := (List.getElem?_eq_some_iff.1 hch).1
      refine Cd.skip ?_
      refine Post.then_ ?_
      refine Cd.seq ?_
      refine Cd.region ?_
      refine Seq.val (Runs.move rfl rfl) rfl rfl rfl ?_
      refine Seq.val (Runs.geq rfl rfl rfl) rfl rfl rfl ?_
      refine Seq.val (Runs.move rfl rfl) rfl rfl rfl ?_
      refine SeqC.start ?_
      refine SeqC.open rfl rfl rfl rfl rfl rfl rfl (fun hcx => Runs.move rfl rfl) ?_
      refine SeqC.next rfl rfl rfl rfl rfl rfl rfl (fun hcx => Runs.move rfl rfl) ?_
      refine SeqC.next rfl rfl rfl rfl rfl rfl rfl (fun hcx => Runs.lenL rfl rfl Try.underlying9) ?_
      refine SeqC.next rfl rfl rfl rfl rfl rfl rfl (fun hcx => Runs.leq rfl rfl rfl) ?_
      refine SeqC.and rfl rfl rfl rfl rfl rfl rfl ?_
      refine Seq.val (Runs.move rfl rfl) rfl rfl rfl ?_
      refine SeqC.start ?_
      refine SeqC.open rfl rfl rfl rfl rfl rfl rfl (fun hcx => Runs.move rfl rfl) ?_
      refine SeqC.next rfl rfl rfl rfl rfl rfl rfl (fun hcx => Runs.move rfl rfl) ?_
      refine SeqC.next rfl rfl rfl rfl rfl rfl rfl (fun hcx => Runs.lenL rfl rfl Try.underlying9) ?_
      refine SeqC.next rfl rfl rfl rfl rfl rfl rfl (fun hcx => Runs.eqlI rfl rfl rfl) ?_
      refine SeqC.next rfl rfl rfl rfl rfl rfl rfl (fun hcx => Runs.move rfl rfl) ?_
      refine SeqC.open rfl rfl rfl rfl rfl rfl rfl (fun hcx => Runs.move rfl rfl) ?_
      refine SeqC.next rfl rfl rfl rfl rfl rfl rfl (fun hcx => Runs.move rfl rfl) ?_
      refine SeqC.next rfl rfl rfl rfl rfl rfl rfl (fun hcx => Runs.indexL rfl rfl rfl Try.underlying9 (j := p) rfl hch (hl _ (List.mem_of_getElem? hch))) ?_
      refine SeqC.next rfl rfl rfl rfl rfl rfl rfl (fun hcx => Runs.neqI rfl rfl rfl) ?_
      refine SeqC.next rfl rfl rfl rfl rfl rfl rfl (fun hcx => Runs.move rfl rfl) ?_
      refine SeqC.open rfl rfl rfl rfl rfl rfl rfl (fun hcx => Runs.move rfl rfl) ?_
      refine SeqC.next rfl rfl rfl rfl rfl rfl rfl (fun hcx => Runs.move rfl rfl) ?_
      refine SeqC.next rfl rfl rfl rfl rfl rfl rfl (fun hcx => Runs.indexL rfl rfl rfl Try.underlying9 (j := p) rfl hch (hl _ (List.mem_of_getElem? hch))) ?_
      refine SeqC.next rfl rfl rfl rfl rfl rfl rfl (fun hcx => Runs.neqI rfl rfl rfl) ?_
      refine SeqC.andG rfl rfl rfl rfl rfl rfl rfl rfl rfl rfl rfl ?_
      refine SeqC.next rfl rfl rfl rfl rfl rfl rfl (fun hcx => Runs.move rfl rfl) ?_
      refine SeqC.open rfl rfl rfl rfl rfl rfl rfl (fun hcx => Runs.move rfl rfl) ?_
      refine SeqC.next rfl rfl rfl rfl rfl rfl rfl (fun hcx => Runs.move rfl rfl) ?_
      refine SeqC.next rfl rfl rfl rfl rfl rfl rfl (fun hcx => Runs.indexL rfl rfl rfl Try.underlying9 (j := p) rfl hch (hl _ (List.mem_of_getElem? hch))) ?_
      refine SeqC.next rfl rfl rfl rfl rfl rfl rfl (fun hcx => Runs.neqI rfl rfl rfl) ?_
      refine SeqC.andG rfl rfl rfl rfl rfl rfl rfl rfl rfl rfl rfl ?_
      refine SeqC.next rfl rfl rfl rfl rfl rfl rfl (fun hcx => Runs.move rfl rfl) ?_
      refine SeqC.open rfl rfl rfl rfl rfl rfl rfl (fun hcx => Runs.move rfl rfl) ?_
      refine SeqC.next rfl rfl rfl rfl rfl rfl rfl (fun hcx => Runs.move rfl rfl) ?_
      refine SeqC.next rfl rfl rfl rfl rfl rfl rfl (fun hcx => Runs.indexL rfl rfl rfl Try.underlying9 (j := p) rfl hch (hl _ (List.mem_of_getElem? hch))) ?_
      refine SeqC.next rfl rfl rfl rfl rfl rfl rfl (fun hcx => Runs.neqI rfl rfl rfl) ?_
      refine SeqC.andG rfl rfl rfl rfl rfl rfl rfl rfl rfl rfl rfl ?_
      refine SeqC.orG rfl rfl rfl rfl rfl rfl rfl rfl rfl rfl rfl ?_
      refine SeqC.and rfl rfl rfl rfl rfl rfl rfl ?_
      refine Seq.val (Runs.move rfl rfl) rfl rfl rfl ?_
      refine SeqC.start ?_
      refine SeqC.openC rfl rfl rfl rfl rfl rfl rfl (fun hcx => Enters.func rfl rfl rfl (run_enter Try.func35 (by kernel_rfl) rfl)) (fun hcx => awake19_any _) ?_
      intro w3 hw3
      replace bel := bel.step hw3
      replace k3 := k3.step hw3
      refine SeqC.and rfl rfl rfl rfl rfl rfl rfl ?_
      refine Seq.val (Runs.assign rfl rfl) rfl rfl rfl ?_
      refine Seq.nil ?_
      refine Post.weak (F' := [(0, _), (2, _), (3, _), (4, _), (5, _), (13, _), (24, _)]) ⟨rfl, rfl, rfl, rfl, rfl, rfl, rfl, trivial⟩ ?_
      refine Post.then_ ?_
      refine Cd.ret ?_
      refine Post.end1 rfl rfl (.inl rfl) ?_
      exact ⟨ret1 (bool_eq (by simp; omega)), bel5.trans (bel.mono bel5.size)⟩

namespace ParseRight
theorem own : ownKnob Try.prog.godebug = none := by kernel_rfl
theorem laidOut : laidOutB Try.prog = true := by kernel_rfl
set_option maxRecDepth 100000 in
theorem lifted (os : Os) (started : os.Started) (H : Type) (enc : TypeId × Value → H) :
    ReturnsInHanded {} Try.checked os 9 .any (Rows.parseRightSpec.pre6 enc Try.prog Try.f9 Rows.parseRightRow.domain false) (Rows.parseRightSpec.post enc Try.prog Try.f9 false true false false) := by
  refine returnsInHanded_of_change (C := Try.checked) own started (by kernel_rfl) Try.func9
    (ChangeSpec.witness6 (enc := enc) (C := Try.checked) false ⟨#[], #[.string { data := #[] }], []⟩ 8 (by kernel_rfl) (by kernel_rfl) (by kernel_rfl) (by kernel_rfl)) ?_
  intro W base args ds gs before hval0 hW hcnd _
  have hval : ∀ (j : Nat) t v, Try.f9.params[j]? = some t → args[j]? = some v → Value.okWide Try.prog W .any base t v := hval0
  have hW' := hW
  obtain ⟨p, q, hA0, hV, rfl, hfz, hnd⟩ := hW
  have hA : DataW.TrodAll enc Try.prog W 0 (fun _ => true) true Try.f9.params.toList args.toList ds p := hA0
  rw [Try.params9] at hA hval
  obtain ⟨v0, vs0, d0, ds0, p0, q0, hargs, rfl, rfl, h0, r0⟩ := trodAll_cons hA
  obtain ⟨rfl, rfl, rfl⟩ := trodAll_nil r0
  obtain rfl : args = #[v0] := by cases args; simp_all
  obtain ⟨rfl, rfl⟩ := trodVars_none hV
  have k0 := h0
  have lt0 : ∀ x ∈ p0, x.block < W.heap.size := by obtain ⟨m, hm⟩ := k0; exact DataW.trod_lt m _ _ _ hm
  obtain ⟨l, rfl, hl, hlen⟩ := open_str Try.underlying9 (hval 0 _ v0 rfl rfl)
  clear hA0 hval0
  refine (walk_pright l W hl hlen).mono fun e W' ⟨he, bel⟩ => ?_
  subst he
  exact ⟨_, rfl, _, _, _, [], _, [], hW', trodAll_mk1 (shut_bool Try.underlying4 _), (trodAll_cons_mk (Below.trod laidOut (by kernel_rfl) (of_decide_eq_true (by kernel_rfl)) k0 bel lt0) trodAll_mk0), rfl, bel.frame _, fun h => by cases h⟩

theorem over : Rows.parseRightRow.holds Try.pinned (OpenSpec.ofChange Rows.parseRightSpec) :=
  OpenClaim.holds_of_wide 9 Try.f9 rfl rfl rfl rfl rfl rfl rfl ⟨rfl, rfl, rfl, rfl, rfl⟩ rfl rfl rfl rfl rfl (by kernel_rfl) Try.func9 (by kernel_rfl)
    (of_decide_eq_true (by kernel_rfl)) (by unfold Func.isWrapper; first | (rw [if_pos (by decide +kernel)]; kernel_rfl) | (rw [if_neg (by decide +kernel)]; exact ⟨rfl, rfl⟩))
    (fun os started H enc _ => lifted os started H enc)

theorem proved : Rows.ParseRightSaid := over

end ParseRight
end Go.Proofs.Ytijaldpmpjapiaa

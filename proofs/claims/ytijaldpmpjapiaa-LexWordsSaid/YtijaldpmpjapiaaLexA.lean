/-
  lex: letters, digits, runs, blanks, names: what each function answers. Condition: the texts are within reach.
-/
import Derived.Test.YtijaldpmpjapiaaTNumQ
import Derived.Test.YtijaldpmpjapiaaLexSpec
namespace Go.Proofs.Ytijaldpmpjapiaa
open Go.RowKit

theorem letter_any (c : Nat) (w : World) : Calls Try.prog 26 #[.int .u8 (c : Int)] w fun e w' => e = .returned (.bool (letB c)) ∧ Grow w w' := by
  have bel := Below.refl w.heap.size w
  refine Calls.start 17 Try.func26 rfl rfl rfl ?_
  refine Cd.seq ?_
  refine Cd.region ?_
  refine Seq.val (Runs.assign rfl rfl) rfl rfl rfl ?_
  refine Seq.nil ?_
  refine Post.weak (F' := [(0, _), (2, _)]) ⟨rfl, rfl, trivial⟩ ?_
  refine Post.then_ ?_
  refine Cd.seq ?_
  refine Cd.region ?_
  refine Seq.val (Runs.move rfl rfl) rfl rfl rfl ?_
  refine Seq.val (Runs.geq rfl rfl rfl) rfl rfl rfl ?_
  refine Seq.val (Runs.move rfl rfl) rfl rfl rfl ?_
  refine SeqC.start ?_
  refine SeqC.open rfl rfl rfl rfl rfl rfl rfl (fun hcx => Runs.move rfl rfl) ?_
  refine SeqC.next rfl rfl rfl rfl rfl rfl rfl (fun hcx => Runs.leq rfl rfl rfl) ?_
  refine SeqC.and rfl rfl rfl rfl rfl rfl rfl ?_
  refine Seq.val (Runs.move rfl rfl) rfl rfl rfl ?_
  refine SeqC.start ?_
  refine SeqC.open rfl rfl rfl rfl rfl rfl rfl (fun hcx => Runs.move rfl rfl) ?_
  refine SeqC.next rfl rfl rfl rfl rfl rfl rfl (fun hcx => Runs.geq rfl rfl rfl) ?_
  refine SeqC.next rfl rfl rfl rfl rfl rfl rfl (fun hcx => Runs.move rfl rfl) ?_
  refine SeqC.open rfl rfl rfl rfl rfl rfl rfl (fun hcx => Runs.move rfl rfl) ?_
  refine SeqC.next rfl rfl rfl rfl rfl rfl rfl (fun hcx => Runs.leq rfl rfl rfl) ?_
  refine SeqC.andG rfl rfl rfl rfl rfl rfl rfl rfl rfl rfl rfl ?_
  refine SeqC.or rfl rfl rfl rfl rfl rfl rfl ?_
  refine Seq.val (Runs.assign rfl rfl) rfl rfl rfl ?_
  refine Seq.nil ?_
  refine Post.weak (F' := [(0, _), (2, _)]) ⟨rfl, rfl, trivial⟩ ?_
  refine Post.then_ ?_
  refine Cd.ret ?_
  refine Post.end1 rfl rfl (.inl rfl) ?_
  refine ⟨ret1 (bool_eq ?_), bel⟩
  unfold letB
  rw [Bool.eq_iff_iff]
  simp
  omega
theorem digitL_any (c : Nat) (w : World) : Calls Try.prog 89 #[.int .u8 (c : Int)] w fun e w' => e = .returned (.bool (digB c)) ∧ Grow w w' := by
  have bel := Below.refl w.heap.size w
  refine Calls.start 9 Try.func89 rfl rfl rfl ?_
  refine Cd.seq ?_
  refine Cd.region ?_
  refine Seq.val (Runs.assign rfl rfl) rfl rfl rfl ?_
  refine Seq.nil ?_
  refine Post.weak (F' := [(0, _), (2, _)]) ⟨rfl, rfl, trivial⟩ ?_
  refine Post.then_ ?_
  refine Cd.seq ?_
  refine Cd.region ?_
  refine Seq.val (Runs.move rfl rfl) rfl rfl rfl ?_
  refine Seq.val (Runs.geq rfl rfl rfl) rfl rfl rfl ?_
  refine Seq.val (Runs.move rfl rfl) rfl rfl rfl ?_
  refine SeqC.start ?_
  refine SeqC.open rfl rfl rfl rfl rfl rfl rfl (fun hcx => Runs.move rfl rfl) ?_
  refine SeqC.next rfl rfl rfl rfl rfl rfl rfl (fun hcx => Runs.leq rfl rfl rfl) ?_
  refine SeqC.and rfl rfl rfl rfl rfl rfl rfl ?_
  refine Seq.val (Runs.assign rfl rfl) rfl rfl rfl ?_
  refine Seq.nil ?_
  refine Post.weak (F' := [(0, _), (2, _)]) ⟨rfl, rfl, trivial⟩ ?_
  refine Post.then_ ?_
  refine Cd.ret ?_
  refine Post.end1 rfl rfl (.inl rfl) ?_
  refine ⟨ret1 (bool_eq ?_), bel⟩
  unfold digB
  rw [Bool.eq_iff_iff]
  simp
  omega
theorem part_any (c : Nat) (w : World) : Calls Try.prog 57 #[.int .u8 (c : Int)] w fun e w' => e = .returned (.bool (partB c)) ∧ Grow w w' := by
  have bel := Below.refl w.heap.size w
  refine Calls.start 13 Try.func57 rfl rfl rfl ?_
  refine Cd.seq ?_
  refine Cd.region ?_
  refine Seq.val (Runs.assign rfl rfl) rfl rfl rfl ?_
  refine Seq.nil ?_
  refine Post.weak (F' := [(0, _), (2, _)]) ⟨rfl, rfl, trivial⟩ ?_
  refine Post.then_ ?_
  refine Cd.seq ?_
  refine Cd.region ?_
  refine Seq.val (Runs.move rfl rfl) rfl rfl rfl ?_
  refine Seq.call (Enters.func rfl rfl rfl (run_enter Try.func26 (by kernel_rfl) rfl)) rfl rfl rfl (letter_any c _) ?_
  rintro e w2 ⟨rfl, hb2⟩
  refine ⟨_, rfl, ?_⟩
  replace bel := bel.step hb2
  refine Seq.val (Runs.move rfl rfl) rfl rfl rfl ?_
  refine SeqC.start ?_
  refine SeqC.open rfl rfl rfl rfl rfl rfl rfl (fun hcx => Runs.move rfl rfl) ?_
  refine SeqC.nextC rfl rfl rfl rfl rfl rfl rfl (fun hcx => Enters.func rfl rfl rfl (run_enter Try.func89 (by kernel_rfl) rfl)) (fun hcx => digitL_any c _) ?_
  intro w1 hw1
  replace bel := bel.step hw1
  refine SeqC.or rfl rfl rfl rfl rfl rfl rfl ?_
  refine Seq.val (Runs.move rfl rfl) rfl rfl rfl ?_
  refine SeqC.start ?_
  refine SeqC.open rfl rfl rfl rfl rfl rfl rfl (fun hcx => Runs.move rfl rfl) ?_
  refine SeqC.next rfl rfl rfl rfl rfl rfl rfl (fun hcx => Runs.eqlI rfl rfl rfl) ?_
  refine SeqC.or rfl rfl rfl rfl rfl rfl rfl ?_
  refine Seq.val (Runs.assign rfl rfl) rfl rfl rfl ?_
  refine Seq.nil ?_
  refine Post.weak (F' := [(0, _), (2, _)]) ⟨rfl, rfl, trivial⟩ ?_
  refine Post.then_ ?_
  refine Cd.ret ?_
  refine Post.end1 rfl rfl (.inl rfl) ?_
  refine ⟨ret1 (bool_eq ?_), bel⟩
  unfold partB
  rw [show decide ((c : Int) = 95) = decide (c = 95) from decide_eq_decide.2 (by omega)]
theorem note_any (c : Nat) (w : World) : Calls Try.prog 88 #[.int .u8 (c : Int)] w fun e w' => e = .returned (.bool (noteB c)) ∧ Grow w w' := by
  have bel := Below.refl w.heap.size w
  refine Calls.start 5 Try.func88 rfl rfl rfl ?_
  refine Cd.seq ?_
  refine Cd.region ?_
  refine Seq.val (Runs.assign rfl rfl) rfl rfl rfl ?_
  refine Seq.nil ?_
  refine Post.weak (F' := [(0, _), (2, _)]) ⟨rfl, rfl, trivial⟩ ?_
  refine Post.then_ ?_
  refine Cd.seq ?_
  refine Cd.region ?_
  refine Seq.val (Runs.move rfl rfl) rfl rfl rfl ?_
  refine Seq.val (Runs.neqI rfl rfl rfl) rfl rfl rfl ?_
  refine Seq.val (Runs.assign rfl rfl) rfl rfl rfl ?_
  refine Seq.nil ?_
  refine Post.weak (F' := [(0, _), (2, _)]) ⟨rfl, rfl, trivial⟩ ?_
  refine Post.then_ ?_
  refine Cd.ret ?_
  refine Post.end1 rfl rfl (.inl rfl) ?_
  refine ⟨ret1 (bool_eq ?_), bel⟩
  unfold noteB
  exact decide_eq_decide.2 (by omega)
theorem runN_upto (p : Nat → Bool) (l : List Nat) (k : Nat) (h : k ≤ runN p l) (c : Nat) (hc : l[k]? = some c) : (p c = true ↔ k < runN p l) := by
  constructor
  · intro hp
    rcases Nat.lt_or_ge k (runN p l) with h1 | h1
    · exact h1
    · obtain rfl : k = runN p l := by omega
      rw [runN_stop p l c hc] at hp; cases hp
  · intro h1
    refine runN_all p l c ?_
    refine List.mem_of_getElem? (i := k) ?_
    rw [List.getElem?_take_of_lt h1]; exact hc
theorem run_any (f : FuncId) (p : Nat → Bool) (eg : ∀ args w, (callFunc f args).run Try.prog w = .ok (.enter f args) w) (hp : ∀ (c : Nat) w, Calls Try.prog f #[.int .u8 (c : Int)] w fun e w' => e = .returned (.bool (p c)) ∧ Grow w w')
    (l : List Nat) (w : World) (hl : ∀ x ∈ l, x < 256) (hlen : l.length ≤ 9223372036854775807) :
    Calls Try.prog 56 #[.string (strOf l), .func (.func f) #[] #[]] w fun e w' => e = .returned (.int .i64 (runN p l : Int)) ∧ Grow w w' := by
  have bel := Below.refl w.heap.size w
  have hle := runN_le p l
  refine Calls.start 20 Try.func56 rfl rfl rfl ?_
  refine Cd.seq ?_
  refine Cd.region ?_
  refine Seq.val (Runs.assign rfl rfl) rfl rfl rfl ?_
  refine Seq.nil ?_
  refine Post.weak (F' := [(0, _), (1, _), (4, _)]) ⟨rfl, rfl, rfl, trivial⟩ ?_
  refine Post.then_ ?_
  refine Cd.seq ?_
  refine Cd.region ?_
  refine Seq.val (Runs.assign rfl rfl) rfl rfl rfl ?_
  refine Seq.nil ?_
  refine Post.weak (F' := [(0, _), (1, _), (4, _), (5, _)]) ⟨rfl, rfl, rfl, rfl, trivial⟩ ?_
  refine Post.then_ ?_
  refine Cd.seq ?_
  refine Cd.block ?_
  refine Cd.loop (σ := Nat) (fun k => [(0, .string (strOf l)), (1, .func (.func f) #[] #[]), (5, .int .i64 (k : Int))]) (fun k wr => k ≤ runN p l ∧ Below w.heap.size w wr) (fun k => runN p l - k) 0 ⟨Nat.zero_le _, bel⟩ ⟨rfl, rfl, rfl, trivial⟩ ?_
  clear bel
  rintro k wr ⟨hk, bel⟩
  refine Cd.seq ?_
  refine Cd.seq ?_
  refine Cd.region ?_
  refine Seq.val (Runs.move rfl rfl) rfl rfl rfl ?_
  refine Seq.val (Runs.move rfl rfl) rfl rfl rfl ?_
  refine Seq.val (Runs.lenL rfl rfl Try.underlying9) rfl rfl rfl ?_
  by_cases hi : k < l.length
  · obtain ⟨c, hc⟩ : ∃ c, l[k]? = some c := ⟨_, List.getElem?_eq_getElem hi⟩
    have hc256 := hl c (List.mem_of_getElem? hc)
    have hup := runN_upto p l k hk c hc
    refine Seq.val ((Runs.lss rfl rfl rfl).isT ((by omega))) rfl rfl rfl ?_
    refine Seq.val (Runs.move rfl rfl) rfl rfl rfl ?_
    refine Seq.valG (Runs.move rfl rfl) rfl rfl rfl rfl rfl ?_
    refine Seq.valG (Runs.move rfl rfl) rfl rfl rfl rfl rfl ?_
    refine Seq.valG (Runs.move rfl rfl) rfl rfl rfl rfl rfl ?_
    refine Seq.valG (Runs.indexL (l := l) (j := k) rfl rfl rfl Try.underlying9 rfl hc hc256) rfl rfl rfl rfl rfl ?_
    refine Seq.callG (Enters.value (first := []) (cap := []) rfl rfl rfl eg) rfl rfl rfl rfl rfl (hp c _) ?_
    rintro e w3 ⟨rfl, hb3⟩
    refine ⟨_, rfl, ?_⟩
    replace bel := bel.step hb3
    refine Seq.val (Runs.pickT rfl rfl rfl) rfl rfl rfl ?_
    refine Seq.nil ?_
    refine Post.weak (F' := [(0, _), (1, _), (5, _), (16, _)]) ⟨rfl, rfl, rfl, rfl, trivial⟩ ?_
    refine Post.then_ ?_
    refine Cd.cond rfl (fun h => ?_) (fun h => ?_)
    · have hlt := hup.1 h
      refine Cd.skip ?_
      refine Post.then_ ?_
      refine Cd.block ?_
      refine Cd.region ?_
      refine Seq.val (Runs.move rfl rfl) rfl rfl rfl ?_
      refine Seq.val (Runs.addI rfl rfl rfl (by omega) (by omega)) rfl rfl rfl ?_
      refine Seq.val (Runs.assign rfl rfl) rfl rfl rfl ?_
      refine Seq.nil ?_
      refine Post.weak (F' := [(0, _), (1, _), (5, _), (16, _)]) ⟨rfl, rfl, rfl, rfl, trivial⟩ ?_
      refine Post.block_normal ?_
      exact Post.round (k + 1) ⟨rfl, rfl, rfl, trivial⟩ ⟨by omega, bel⟩ (by omega)
    · have hk2 : runN p l = k := by
        rcases Nat.lt_or_ge k (runN p l) with h1 | h1
        · have := hup.2 h1
          rw [h] at this; cases this
        · omega
      rw [hk2]
      refine Cd.exit ?_
      refine Post.then_exit ?_
      refine Post.round_exit ?_
      refine Post.block_exit ?_
      refine Post.then_ ?_
      refine Cd.seq ?_
      refine Cd.region ?_
      refine Seq.val (Runs.move rfl rfl) rfl rfl rfl ?_
      refine Seq.val (Runs.assign rfl rfl) rfl rfl rfl ?_
      refine Seq.nil ?_
      refine Post.weak (F' := [(0, _), (1, _), (4, _), (5, _), (16, _)]) ⟨rfl, rfl, rfl, rfl, rfl, trivial⟩ ?_
      refine Post.then_ ?_
      refine Cd.ret ?_
      refine Post.end1 rfl rfl (.inl rfl) ?_
      exact ⟨rfl, bel⟩
  · have hk2 : runN p l = k := by omega
    rw [hk2]
    refine Seq.val ((Runs.lss rfl rfl rfl).isF ((by omega))) rfl rfl rfl ?_
    refine Seq.val (Runs.move rfl rfl) rfl rfl rfl ?_
    refine Seq.skipG rfl rfl rfl rfl rfl rfl ?_
    refine Seq.skipG rfl rfl rfl rfl rfl rfl ?_
    refine Seq.skipG rfl rfl rfl rfl rfl rfl ?_
    refine Seq.skipG rfl rfl rfl rfl rfl rfl ?_
    refine Seq.skipG rfl rfl rfl rfl rfl rfl ?_
    refine Seq.val (Runs.pickF rfl rfl rfl) rfl rfl rfl ?_
    refine Seq.nil ?_
    refine Post.weak (F' := [(0, _), (1, _), (5, _), (16, _)]) ⟨rfl, rfl, rfl, rfl, trivial⟩ ?_
    refine Post.then_ ?_
    refine Cd.condF rfl rfl ?_
    refine Cd.exit ?_
    refine Post.then_exit ?_
    refine Post.round_exit ?_
    refine Post.block_exit ?_
    refine Post.then_ ?_
    refine Cd.seq ?_
    refine Cd.region ?_
    refine Seq.val (Runs.move rfl rfl) rfl rfl rfl ?_
    refine Seq.val (Runs.assign rfl rfl) rfl rfl rfl ?_
    refine Seq.nil ?_
    refine Post.weak (F' := [(0, _), (1, _), (4, _), (5, _), (16, _)]) ⟨rfl, rfl, rfl, rfl, rfl, trivial⟩ ?_
    refine Post.then_ ?_
    refine Cd.ret ?_
    refine Post.end1 rfl rfl (.inl rfl) ?_
    exact ⟨rfl, bel⟩
theorem eg_part : ∀ args w, (callFunc 57 args).run Try.prog w = .ok (.enter 57 args) w := fun args w => run_enter Try.func57 (by kernel_rfl) rfl args w
theorem eg_note : ∀ args w, (callFunc 88 args).run Try.prog w = .ok (.enter 88 args) w := fun args w => run_enter Try.func88 (by kernel_rfl) rfl args w
theorem run_part (l : List Nat) (w : World) (hl : ∀ x ∈ l, x < 256) (hlen : l.length ≤ 9223372036854775807) :
    Calls Try.prog 56 #[.string (strOf l), .func (.func 57) #[] #[]] w fun e w' => e = .returned (.int .i64 (runN partB l : Int)) ∧ Grow w w' :=
  run_any _ partB eg_part part_any l w hl hlen
theorem run_note (l : List Nat) (w : World) (hl : ∀ x ∈ l, x < 256) (hlen : l.length ≤ 9223372036854775807) :
    Calls Try.prog 56 #[.string (strOf l), .func (.func 88) #[] #[]] w fun e w' => e = .returned (.int .i64 (runN noteB l : Int)) ∧ Grow w w' :=
  run_any _ noteB eg_note note_any l w hl hlen
end Go.Proofs.Ytijaldpmpjapiaa

/-
  Texts that were joined: LexA, LexB, TreA, TreB, TreC, TreD, LexC, LexD, LexE, LexF, LexG, LexH, TreE, TreF, TreG, TreH, TreI, DateA, DateB. Conditions: what each theorem names.
-/
import Derived.Test.YtijaldpmpjapiaaQ0
set_option linter.unusedSectionVars false
namespace Go.Proofs.Ytijaldpmpjapiaa
open Go.RowKit

theorem letter_any (c : Nat) (w : World) : Calls Try.prog 26 #[.int .u8 (c : Int)] w fun e w' => e = .returned (.bool (letB c)) ∧ Grow w w' := by
  have bel := Below.refl w.heap.size w
  refine Calls.start 17 Try.func26 rfl rfl rfl ?_
  refine Cd.seq ?_
  refine Cd.region ?_
  refine Seq.val (Runs.assign rfl rfl) rfl rfl rfl ?_
  refine Seq.nil ?_
  refine Post.weak (F' := [(0, _), (2, _)]) ⟨rfl, rfl, trivial⟩ ?_
  refine Post.then_ ?_
  refine Cd.seq ?_
  refine Cd.region ?_
  refine Seq.val (Runs.move rfl rfl) rfl rfl rfl ?_
  refine Seq.val (Runs.geq rfl rfl rfl) rfl rfl rfl ?_
  refine Seq.val (Runs.move rfl rfl) rfl rfl rfl ?_
  refine SeqC.start ?_
  refine SeqC.open rfl rfl rfl rfl rfl rfl rfl (fun hcx => Runs.move rfl rfl) ?_
  refine SeqC.next rfl rfl rfl rfl rfl rfl rfl (fun hcx => Runs.leq rfl rfl rfl) ?_
  refine SeqC.and rfl rfl rfl rfl rfl rfl rfl ?_
  refine Seq.val (Runs.move rfl rfl) rfl rfl rfl ?_
  refine SeqC.start ?_
  refine SeqC.open rfl rfl rfl rfl rfl rfl rfl (fun hcx => Runs.move rfl rfl) ?_
  refine SeqC.next rfl rfl rfl rfl rfl rfl rfl (fun hcx => Runs.geq rfl rfl rfl) ?_
  refine SeqC.next rfl rfl rfl rfl rfl rfl rfl (fun hcx => Runs.move rfl rfl) ?_
  refine SeqC.open rfl rfl rfl rfl rfl rfl rfl (fun hcx => Runs.move rfl rfl) ?_
  refine SeqC.next rfl rfl rfl rfl rfl rfl rfl (fun hcx => Runs.leq rfl rfl rfl) ?_
  refine SeqC.andG rfl rfl rfl rfl rfl rfl rfl rfl rfl rfl rfl ?_
  refine SeqC.or rfl rfl rfl rfl rfl rfl rfl ?_
  refine Seq.val (Runs.assign rfl rfl) rfl rfl rfl ?_
  refine Seq.nil ?_
  refine Post.weak (F' := [(0, _), (2, _)]) ⟨rfl, rfl, trivial⟩ ?_
  refine Post.then_ ?_
  refine Cd.ret ?_
  refine Post.end1 rfl rfl (.inl rfl) ?_
  refine ⟨ret1 (bool_eq ?_), bel⟩
  unfold letB
  rw [Bool.eq_iff_iff]
  simp
  omega
theorem digitL_any (c : Nat) (w : World) : Calls Try.prog 89 #[.int .u8 (c : Int)] w fun e w' => e = .returned (.bool (digB c)) ∧ Grow w w' := by
  have bel := Below.refl w.heap.size w
  refine Calls.start 9 Try.func89 rfl rfl rfl ?_
  refine Cd.seq ?_
  refine Cd.region ?_
  refine Seq.val (Runs.assign rfl rfl) rfl rfl rfl ?_
  refine Seq.nil ?_
  refine Post.weak (F' := [(0, _), (2, _)]) ⟨rfl, rfl, trivial⟩ ?_
  refine Post.then_ ?_
  refine Cd.seq ?_
  refine Cd.region ?_
  refine Seq.val (Runs.move rfl rfl) rfl rfl rfl ?_
  refine Seq.val (Runs.geq rfl rfl rfl) rfl rfl rfl ?_
  refine Seq.val (Runs.move rfl rfl) rfl rfl rfl ?_
  refine SeqC.start ?_
  refine SeqC.open rfl rfl rfl rfl rfl rfl rfl (fun hcx => Runs.move rfl rfl) ?_
  refine SeqC.next rfl rfl rfl rfl rfl rfl rfl (fun hcx => Runs.leq rfl rfl rfl) ?_
  refine SeqC.and rfl rfl rfl rfl rfl rfl rfl ?_
  refine Seq.val (Runs.assign rfl rfl) rfl rfl rfl ?_
  refine Seq.nil ?_
  refine Post.weak (F' := [(0, _), (2, _)]) ⟨rfl, rfl, trivial⟩ ?_
  refine Post.then_ ?_
  refine Cd.ret ?_
  refine Post.end1 rfl rfl (.inl rfl) ?_
  refine ⟨ret1 (bool_eq ?_), bel⟩
  unfold digB
  rw [Bool.eq_iff_iff]
  simp
  omega
theorem part_any (c : Nat) (w : World) : Calls Try.prog 57 #[.int .u8 (c : Int)] w fun e w' => e = .returned (.bool (partB c)) ∧ Grow w w' := by
  have bel := Below.refl w.heap.size w
  refine Calls.start 13 Try.func57 rfl rfl rfl ?_
  refine Cd.seq ?_
  refine Cd.region ?_
  refine Seq.val (Runs.assign rfl rfl) rfl rfl rfl ?_
  refine Seq.nil ?_
  refine Post.weak (F' := [(0, _), (2, _)]) ⟨rfl, rfl, trivial⟩ ?_
  refine Post.then_ ?_
  refine Cd.seq ?_
  refine Cd.region ?_
  refine Seq.val (Runs.move rfl rfl) rfl rfl rfl ?_
  refine Seq.call (Enters.func rfl rfl rfl (run_enter Try.func26 (by kernel_rfl) rfl)) rfl rfl rfl (letter_any c _) ?_
  rintro e w2 ⟨rfl, hb2⟩
  refine ⟨_, rfl, ?_⟩
  replace bel := bel.step hb2
  refine Seq.val (Runs.move rfl rfl) rfl rfl rfl ?_
  refine SeqC.start ?_
  refine SeqC.open rfl rfl rfl rfl rfl rfl rfl (fun hcx => Runs.move rfl rfl) ?_
  refine SeqC.nextC rfl rfl rfl rfl rfl rfl rfl (fun hcx => Enters.func rfl rfl rfl (run_enter Try.func89 (by kernel_rfl) rfl)) (fun hcx => digitL_any c _) ?_
  intro w1 hw1
  replace bel := bel.step hw1
  refine SeqC.or rfl rfl rfl rfl rfl rfl rfl ?_
  refine Seq.val (Runs.move rfl rfl) rfl rfl rfl ?_
  refine SeqC.start ?_
  refine SeqC.open rfl rfl rfl rfl rfl rfl rfl (fun hcx => Runs.move rfl rfl) ?_
  refine SeqC.next rfl rfl rfl rfl rfl rfl rfl (fun hcx => Runs.eqlI rfl rfl rfl) ?_
  refine SeqC.or rfl rfl rfl rfl rfl rfl rfl ?_
  refine Seq.val (Runs.assign rfl rfl) rfl rfl rfl ?_
  refine Seq.nil ?_
  refine Post.weak (F' := [(0, _), (2, _)]) ⟨rfl, rfl, trivial⟩ ?_
  refine Post.then_ ?_
  refine Cd.ret ?_
  refine Post.end1 rfl rfl (.inl rfl) ?_
  refine ⟨ret1 (bool_eq ?_), bel⟩
  unfold partB
  rw [show decide ((c : Int) = 95) = decide (c = 95) from decide_eq_decide.2 (by omega)]
theorem runN_upto (p : Nat → Bool) (l : List Nat) (k : Nat) (h : k ≤ runN p l) (c : Nat) (hc : l[k]? = some c) : (p c = true ↔ k < runN p l) := by
  constructor
  · intro hp
    rcases Nat.lt_or_ge k (runN p l) with h1 | h1
    · exact h1
    · obtain rfl : k = runN p l := by omega
      rw [runN_stop p l c hc] at hp; cases hp
  · intro h1
    refine runN_all p l c ?_
    refine List.mem_of_getElem? (i := k) ?_
    rw [List.getElem?_take_of_lt h1]; exact hc
theorem run_any (f : FuncId) (p : Nat → Bool) (eg : ∀ args w, (callFunc f args).run Try.prog w = .ok (.enter f args) w) (hp : ∀ (c : Nat) w, Calls Try.prog f #[.int .u8 (c : Int)] w fun e w' => e = .returned (.bool (p c)) ∧ Grow w w')
    (l : List Nat) (w : World) (hl : ∀ x ∈ l, x < 256) (hlen : l.length ≤ 9223372036854775807) :
    Calls Try.prog 56 #[.string (strOf l), .func (.func f) #[] #[]] w fun e w' => e = .returned (.int .i64 (runN p l : Int)) ∧ Grow w w' := by
  have bel := Below.refl w.heap.size w
  have hle := runN_le p l
  refine Calls.start 20 Try.func56 rfl rfl rfl ?_
  refine Cd.seq ?_
  refine Cd.region ?_
  refine Seq.val (Runs.assign rfl rfl) rfl rfl rfl ?_
  refine Seq.nil ?_
  refine Post.weak (F' := [(0, _), (1, _), (4, _)]) ⟨rfl, rfl, rfl, trivial⟩ ?_
  refine Post.then_ ?_
  refine Cd.seq ?_
  refine Cd.region ?_
  refine Seq.val (Runs.assign rfl rfl) rfl rfl rfl ?_
  refine Seq.nil ?_
  refine Post.weak (F' := [(0, _), (1, _), (4, _), (5, _)]) ⟨rfl, rfl, rfl, rfl, trivial⟩ ?_
  refine Post.then_ ?_
  refine Cd.seq ?_
  refine Cd.block ?_
  refine Cd.loop (σ := Nat) (fun k => [(0, .string (strOf l)), (1, .func (.func f) #[] #[]), (5, .int .i64 (k : Int))]) (fun k wr => k ≤ runN p l ∧ Below w.heap.size w wr) (fun k => runN p l - k) 0 ⟨Nat.zero_le _, bel⟩ ⟨rfl, rfl, rfl, trivial⟩ ?_
  clear bel
  rintro k wr ⟨hk, bel⟩
  refine Cd.seq ?_
  refine Cd.seq ?_
  refine Cd.region ?_
  refine Seq.val (Runs.move rfl rfl) rfl rfl rfl ?_
  refine Seq.val (Runs.move rfl rfl) rfl rfl rfl ?_
  refine Seq.val (Runs.lenL rfl rfl Try.underlying9) rfl rfl rfl ?_
  by_cases hi : k < l.length
  · obtain ⟨c, hc⟩ : ∃ c, l[k]? = some c := ⟨_, List.getElem?_eq_getElem hi⟩
    have hc256 := hl c (List.mem_of_getElem? hc)
    have hup := runN_upto p l k hk c hc
    refine Seq.val ((Runs.lss rfl rfl rfl).isT ((by omega))) rfl rfl rfl ?_
    refine Seq.val (Runs.move rfl rfl) rfl rfl rfl ?_
    refine Seq.valG (Runs.move rfl rfl) rfl rfl rfl rfl rfl ?_
    refine Seq.valG (Runs.move rfl rfl) rfl rfl rfl rfl rfl ?_
    refine Seq.valG (Runs.move rfl rfl) rfl rfl rfl rfl rfl ?_
    refine Seq.valG (Runs.indexL (l := l) (j := k) rfl rfl rfl Try.underlying9 rfl hc hc256) rfl rfl rfl rfl rfl ?_
    refine Seq.callG (Enters.value (first := []) (cap := []) rfl rfl rfl eg) rfl rfl rfl rfl rfl (hp c _) ?_
    rintro e w3 ⟨rfl, hb3⟩
    refine ⟨_, rfl, ?_⟩
    replace bel := bel.step hb3
    refine Seq.val (Runs.pickT rfl rfl rfl) rfl rfl rfl ?_
    refine Seq.nil ?_
    refine Post.weak (F' := [(0, _), (1, _), (5, _), (16, _)]) ⟨rfl, rfl, rfl, rfl, trivial⟩ ?_
    refine Post.then_ ?_
    refine Cd.cond rfl (fun h => ?_) (fun h => ?_)
    · have hlt := hup.1 h
      refine Cd.skip ?_
      refine Post.then_ ?_
      refine Cd.block ?_
      refine Cd.region ?_
      refine Seq.val (Runs.move rfl rfl) rfl rfl rfl ?_
      refine Seq.val (Runs.addI rfl rfl rfl (by omega) (by omega)) rfl rfl rfl ?_
      refine Seq.val (Runs.assign rfl rfl) rfl rfl rfl ?_
      refine Seq.nil ?_
      refine Post.weak (F' := [(0, _), (1, _), (5, _), (16, _)]) ⟨rfl, rfl, rfl, rfl, trivial⟩ ?_
      refine Post.block_normal ?_
      exact Post.round (k + 1) ⟨rfl, rfl, rfl, trivial⟩ ⟨by omega, bel⟩ (by omega)
    · have hk2 : runN p l = k := by
        rcases Nat.lt_or_ge k (runN p l) with h1 | h1
        · have := hup.2 h1
          rw [h] at this; cases this
        · omega
      rw [hk2]
      refine Cd.exit ?_
      refine Post.then_exit ?_
      refine Post.round_exit ?_
      refine Post.block_exit ?_
      refine Post.then_ ?_
      refine Cd.seq ?_
      refine Cd.region ?_
      refine Seq.val (Runs.move rfl rfl) rfl rfl rfl ?_
      refine Seq.val (Runs.assign rfl rfl) rfl rfl rfl ?_
      refine Seq.nil ?_
      refine Post.weak (F' := [(0, _), (1, _), (4, _), (5, _), (16, _)]) ⟨rfl, rfl, rfl, rfl, rfl, trivial⟩ ?_
      refine Post.then_ ?_
      refine Cd.ret ?_
      refine Post.end1 rfl rfl (.inl rfl) ?_
      exact ⟨rfl, bel⟩
  · have hk2 : runN p l = k := by omega
    rw [hk2]
    refine Seq.val ((Runs.lss rfl rfl rfl).isF ((by omega))) rfl rfl rfl ?_
    refine Seq.val (Runs.move rfl rfl) rfl rfl rfl ?_
    refine Seq.skipG rfl rfl rfl rfl rfl rfl ?_
    refine Seq.skipG rfl rfl rfl rfl rfl rfl ?_
    refine Seq.skipG rfl rfl rfl rfl rfl rfl ?_
    refine Seq.skipG rfl rfl rfl rfl rfl rfl ?_
    refine Seq.skipG rfl rfl rfl rfl rfl rfl ?_
    refine Seq.val (Runs.pickF rfl rfl rfl) rfl rfl rfl ?_
    refine Seq.nil ?_
    refine Post.weak (F' := [(0, _), (1, _), (5, _), (16, _)]) ⟨rfl, rfl, rfl, rfl, trivial⟩ ?_
    refine Post.then_ ?_
    refine Cd.condF rfl rfl ?_
    refine Cd.exit ?_
    refine Post.then_exit ?_
    refine Post.round_exit ?_
    refine Post.block_exit ?_
    refine Post.then_ ?_
    refine Cd.seq ?_
    refine Cd.region ?_
    refine Seq.val (Runs.move rfl rfl) rfl rfl rfl ?_
    refine Seq.val (Runs.assign rfl rfl) rfl rfl rfl ?_
    refine Seq.nil ?_
    refine Post.weak (F' := [(0, _), (1, _), (4, _), (5, _), (16, _)]) ⟨rfl, rfl, rfl, rfl, rfl, trivial⟩ ?_
    refine Post.then_ ?_
    refine Cd.ret ?_
    refine Post.end1 rfl rfl (.inl rfl) ?_
    exact ⟨rfl, bel⟩
theorem eg_part : ∀ args w, (callFunc 57 args).run Try.prog w = .ok (.enter 57 args) w := fun args w => run_enter Try.func57 (by kernel_rfl) rfl args w
theorem run_part (l : List Nat) (w : World) (hl : ∀ x ∈ l, x < 256) (hlen : l.length ≤ 9223372036854775807) :
    Calls Try.prog 56 #[.string (strOf l), .func (.func 57) #[] #[]] w fun e w' => e = .returned (.int .i64 (runN partB l : Int)) ∧ Grow w w' :=
  run_any _ partB eg_part part_any l w hl hlen
end Go.Proofs.Ytijaldpmpjapiaa

namespace Go.Proofs.Ytijaldpmpjapiaa
open Go.RowKit

/-- Is a text a name? -/
def namedB (l : List Nat) : Bool := decide (l ≠ []) && decide (l.length ≤ 16) && letB (l.getD 0 0) && decide (runN partB l = l.length)
theorem named_any (l : List Nat) (w : World) (hl : ∀ x ∈ l, x < 256) (hlen : l.length ≤ 9223372036854775807) :
    Calls Try.prog 24 #[.string (strOf l)] w fun e w' => e = .returned (.bool (namedB l)) ∧ Grow w w' := by
  have bel := Below.refl w.heap.size w
  have h0 : l ≠ [] → l[0]? = some (l.getD 0 0) := by
    intro h
    cases l with
    | nil => exact absurd rfl h
    | cons c l => rfl
  have h1 : l.getD 0 0 < 256 := by
    cases l with
    | nil => simp
    | cons c l => exact hl c (by simp)
  unfold namedB
  generalize l.getD 0 0 = c0 at *
  refine Calls.start 22 Try.func24 rfl rfl rfl ?_
  refine Cd.seq ?_
  refine Cd.region ?_
  refine Seq.val (Runs.assign rfl rfl) rfl rfl rfl ?_
  refine Seq.nil ?_
  refine Post.weak (F' := [(0, _), (2, _)]) ⟨rfl, rfl, trivial⟩ ?_
  refine Post.then_ ?_
  refine Cd.seq ?_
  refine Cd.region ?_
  refine Seq.val (Runs.move rfl rfl) rfl rfl rfl ?_
  refine Seq.val (Runs.neqL (a := l) (b := []) rfl rfl rfl hl (fun x hx => by simp at hx)) rfl rfl rfl ?_
  refine Seq.val (Runs.move rfl rfl) rfl rfl rfl ?_
  refine SeqC.start ?_
  refine SeqC.open rfl rfl rfl rfl rfl rfl rfl (fun hcx => Runs.move rfl rfl) ?_
  refine SeqC.next rfl rfl rfl rfl rfl rfl rfl (fun hcx => Runs.lenL rfl rfl Try.underlying9) ?_
  refine SeqC.next rfl rfl rfl rfl rfl rfl rfl (fun hcx => Runs.leq rfl rfl rfl) ?_
  refine SeqC.and rfl rfl rfl rfl rfl rfl rfl ?_
  refine Seq.val (Runs.move rfl rfl) rfl rfl rfl ?_
  refine SeqC.start ?_
  refine SeqC.open rfl rfl rfl rfl rfl rfl rfl (fun hcx => Runs.move rfl rfl) ?_
  refine SeqC.next rfl rfl rfl rfl rfl rfl rfl (fun hcx => Runs.indexL (l := l) (j := 0) (c := c0) rfl rfl rfl Try.underlying9 rfl (h0 (by simp [topX] at hcx; exact hcx.1)) h1) ?_
  refine SeqC.nextC rfl rfl rfl rfl rfl rfl rfl (fun hcx => Enters.func rfl rfl rfl (run_enter Try.func26 (by kernel_rfl) rfl)) (fun hcx => letter_any _ _) ?_
  intro w1 hw1
  replace bel := bel.step hw1
  refine SeqC.and rfl rfl rfl rfl rfl rfl rfl ?_
  refine Seq.val (Runs.move rfl rfl) rfl rfl rfl ?_
  refine SeqC.start ?_
  refine SeqC.open rfl rfl rfl rfl rfl rfl rfl (fun hcx => Runs.move rfl rfl) ?_
  refine SeqC.nextC rfl rfl rfl rfl rfl rfl rfl (fun hcx => Enters.func rfl rfl rfl (run_enter Try.func56 (by kernel_rfl) rfl)) (fun hcx => run_part l _ hl hlen) ?_
  intro w2 hw2
  replace bel := bel.step hw2
  refine SeqC.next rfl rfl rfl rfl rfl rfl rfl (fun hcx => Runs.move rfl rfl) ?_
  refine SeqC.next rfl rfl rfl rfl rfl rfl rfl (fun hcx => Runs.lenL rfl rfl Try.underlying9) ?_
  refine SeqC.next rfl rfl rfl rfl rfl rfl rfl (fun hcx => Runs.eqlI rfl rfl rfl) ?_
  refine SeqC.and rfl rfl rfl rfl rfl rfl rfl ?_
  refine Seq.val (Runs.assign rfl rfl) rfl rfl rfl ?_
  refine Seq.nil ?_
  refine Post.weak (F' := [(0, _), (2, _)]) ⟨rfl, rfl, trivial⟩ ?_
  refine Post.then_ ?_
  refine Cd.ret ?_
  refine Post.end1 rfl rfl (.inl rfl) ?_
  refine ⟨ret1 (bool_eq ?_), bel⟩
  rw [Bool.eq_iff_iff]
  simp
  constructor
  · rintro ⟨⟨⟨a, b⟩, c⟩, d⟩
    exact ⟨⟨⟨a, by omega⟩, c⟩, by omega⟩
  · rintro ⟨⟨⟨a, b⟩, c⟩, d⟩
    exact ⟨⟨⟨a, by omega⟩, c⟩, by omega⟩
end Go.Proofs.Ytijaldpmpjapiaa

namespace Go.Proofs.Ytijaldpmpjapiaa
open Go.RowKit

section
variable {P : Program} {E : Operand → Option Value} {o : Oper} {w : World} {x : Operand} {T : TypeId}
/-- A struct, by its cells. -/
theorem Runs.loadF {ad : Addr} {m : Nat} {ps : List Value} {d : TypeDesc} (ho : o.op = .load T x) (hx : E x = some (.pointer (some ad))) (hT : P.underlying T = some d) (hd : (match d with | .struct _ | .array _ _ => true | _ => false) = true) (hs : sizeIs P T m = true) (hm : ps.length = m) (hc : ∀ (j : Nat) (v : Value), ps[j]? = some v → w.cell? (ad.add j) = some v) : Runs P E o w (.agg ps.toArray) w := by
  obtain ⟨i, hi, hsz⟩ := sizeIs_spec hs
  exact .loadN (cs := ps) ho hx hT hd hi (by omega) hc
end
/-- An expression. -/
inductive Ex where
  | mk (op n : Int) (name : List Nat) (args : List Ex)
def Ex.op : Ex → Int | .mk op _ _ _ => op
def Ex.n : Ex → Int | .mk _ n _ _ => n
def Ex.name : Ex → List Nat | .mk _ _ nm _ => nm
def Ex.args : Ex → List Ex | .mk _ _ _ l => l
mutual
def Ex.nodes : Ex → Nat
  | .mk _ _ _ l => 1 + nodesL l
def nodesL : List Ex → Nat
  | [] => 0
  | e :: r => e.nodes + nodesL r
end
mutual
def Ex.depth : Ex → Nat
  | .mk _ _ _ l => 1 + depthL l
def depthL : List Ex → Nat
  | [] => 0
  | e :: r => max e.depth (depthL r)
end
theorem Ex.nodes_mk (op n : Int) (nm : List Nat) (l : List Ex) : (Ex.mk op n nm l).nodes = 1 + nodesL l := by rw [Ex.nodes]
theorem Ex.depth_mk (op n : Int) (nm : List Nat) (l : List Ex) : (Ex.mk op n nm l).depth = 1 + depthL l := by rw [Ex.depth]
theorem nodesL_mem {l : List Ex} {e : Ex} (h : e ∈ l) : e.nodes ≤ nodesL l := by
  induction l with
  | nil => cases h
  | cons x r ih =>
    unfold nodesL
    rcases List.mem_cons.1 h with rfl | h
    · omega
    · have := ih h; omega
theorem Ex.arg_nodes {e x : Ex} (h : x ∈ e.args) : x.nodes < e.nodes := by
  cases e with
  | mk op n nm l =>
    have := nodesL_mem (l := l) h
    rw [Ex.nodes_mk]
    omega
theorem Ex.nodes_pos (e : Ex) : 0 < e.nodes := by cases e; unfold Ex.nodes; omega
theorem depthL_mem {l : List Ex} {e : Ex} (h : e ∈ l) : e.depth ≤ depthL l := by
  induction l with
  | nil => cases h
  | cons x r ih =>
    unfold depthL
    rcases List.mem_cons.1 h with rfl | h
    · omega
    · have := ih h; omega
theorem Ex.arg_depth {e x : Ex} (h : x ∈ e.args) : x.depth < e.depth := by
  cases e with
  | mk op n nm l =>
    have := depthL_mem (l := l) h
    rw [Ex.depth_mk]
    omega
mutual
theorem Ex.depth_nodes : ∀ e : Ex, e.depth ≤ e.nodes
  | .mk _ _ _ l => by unfold Ex.depth Ex.nodes; have := depthL_nodesL l; omega
theorem depthL_nodesL : ∀ l : List Ex, depthL l ≤ nodesL l
  | [] => Nat.le_refl _
  | e :: r => by unfold depthL nodesL; have := Ex.depth_nodes e; have := depthL_nodesL r; omega
end
/-- A row of cells, in blocks of a kind. -/
def Rows (w : World) (S : Nat → Prop) (A : Option Addr) (xs : List Value) : Prop := xs ≠ [] → ∃ ad, A = some ad ∧ S ad.block ∧ ∀ (j : Nat) (u : Value), xs[j]? = some u → w.cell? (ad.add j) = some u
/-- A value that is an expression, its parts in blocks of a kind. -/
inductive RepE (w : World) (S : Nat → Prop) : Ex → Value → Prop
  | mk {op n : Int} {nm : List Nat} {args : List Ex} {A : Option Addr} {c : Nat} {vs : List Value} (hl : vs.length = args.length) (h60 : args.length ≤ 1000) (hop : I64 op) (hn : I64 n) (hnm : ∀ d ∈ nm, d < 256) (hnl : nm.length ≤ 9223372036854775807)
      (hr : ∀ (i : Nat) (e : Ex) (v : Value), args[i]? = some e → vs[i]? = some v → RepE w S e v) (hA : Rows w S A (flatC vs)) : RepE w S (.mk op n nm args) (.agg #[.int .i64 op, .int .i64 n, .string (strOf nm), .slice A args.length c])
theorem RepE.mono {w w' : World} {S S' : Nat → Prop} {e : Ex} {v : Value} (h : RepE w S e v) (hS : ∀ b, S b → S' b) (hc : ∀ p : Addr, S p.block → w'.cell? p = w.cell? p) : RepE w' S' e v := by
  induction h with
  | mk hl h60 hop hn hnm hnl hr hA ih =>
    refine .mk hl h60 hop hn hnm hnl ih fun hne => ?_
    obtain ⟨ad, e1, e2, e3⟩ := hA hne
    exact ⟨ad, e1, hS _ e2, fun j u hu => (hc _ (by rw [block_of_add]; exact e2)).trans (e3 j u hu)⟩
/-- The same, in blocks below a bound. -/
def Rep (w : World) (B : Nat) (e : Ex) (v : Value) : Prop := RepE w (· < B) e v
theorem Rep.below {w w' : World} {B : Nat} {e : Ex} {v : Value} (h : Rep w B e v) (hb : Below B w w') : Rep w' B e v := RepE.mono h (fun _ h => h) (fun _ hp => hb.cell hp)
theorem Rep.more {w : World} {B B' : Nat} {e : Ex} {v : Value} (h : Rep w B e v) (hb : B ≤ B') : Rep w B' e v := RepE.mono h (fun _ h => Nat.lt_of_lt_of_le h hb) (fun _ _ => rfl)
theorem RepE.cells4 {w : World} {S : Nat → Prop} {e : Ex} {v : Value} (h : RepE w S e v) : v.cells.size = 4 := by
  cases h; rfl
theorem flatC_at {vs : List Value} {i : Nat} {v : Value} (hs : ∀ x ∈ vs, x.cells.size = 4) (h : vs[i]? = some v) : ∀ (j : Nat) (u : Value), v.cells.toList[j]? = some u → (flatC vs)[i * 4 + j]? = some u := by
  induction vs generalizing i with
  | nil => cases h
  | cons x r ih =>
    intro j u hj
    have hx : x.cells.size = 4 := hs x List.mem_cons_self
    show (x.cells.toList ++ flatC r)[i * 4 + j]? = some u
    cases i with
    | zero =>
      injection h with h
      subst h
      have : j < x.cells.toList.length := (List.getElem?_eq_some_iff.1 hj).1
      rw [Nat.zero_mul, Nat.zero_add, List.getElem?_append_left this]
      exact hj
    | succ i =>
      have h2 := ih (fun y hy => hs y (List.mem_cons_of_mem _ hy)) (by simpa using h) j u hj
      have hxl : x.cells.toList.length = 4 := by simpa using hx
      rw [List.getElem?_append_right (by rw [hxl]; omega), hxl, ← h2]
      congr 1
      omega
/-- What is known of a value that is an expression. -/
structure RepV (w : World) (B : Nat) (e : Ex) (A : Option Addr) (c : Nat) : Prop where
  h60 : e.args.length ≤ 1000
  op : I64 e.op
  n : I64 e.n
  name : ∀ d ∈ e.name, d < 256
  nlen : e.name.length ≤ 9223372036854775807
  arg : ∀ i x, e.args[i]? = some x → ∃ ad A' c', A = some ad ∧ ad.block < B ∧ Rep w B x (.agg #[.int .i64 x.op, .int .i64 x.n, .string (strOf x.name), .slice A' x.args.length c']) ∧ ∀ (j : Nat) (u : Value), ([.int .i64 x.op, .int .i64 x.n, .string (strOf x.name), .slice A' x.args.length c'] : List Value)[j]? = some u → w.cell? ((ad.add (i * 4)).add j) = some u
theorem RepE.form {w : World} {S : Nat → Prop} {e : Ex} {v : Value} (h : RepE w S e v) : ∃ A c, v = .agg #[.int .i64 e.op, .int .i64 e.n, .string (strOf e.name), .slice A e.args.length c] := by
  cases h; exact ⟨_, _, rfl⟩
theorem Rep.open {w : World} {B : Nat} {e : Ex} {v : Value} (h : Rep w B e v) : ∃ A c, v = .agg #[.int .i64 e.op, .int .i64 e.n, .string (strOf e.name), .slice A e.args.length c] ∧ RepV w B e A c := by
  have h' : RepE w (· < B) e v := h
  cases h' with
  | @mk op n nm args A c vs hl h60 hop hn hnm hnl hr hA =>
    refine ⟨A, c, rfl, h60, hop, hn, hnm, hnl, fun i x hx => ?_⟩
    have hi := (List.getElem?_eq_some_iff.1 hx).1
    replace hi : i < args.length := hi
    obtain ⟨v, hv⟩ : ∃ v, vs[i]? = some v := ⟨_, List.getElem?_eq_getElem (by omega)⟩
    have hrx := hr i x v hx hv
    have h4 : ∀ y ∈ vs, y.cells.size = 4 := fun y hy => by
      obtain ⟨k, hk, rfl⟩ := List.getElem_of_mem hy
      obtain ⟨z, hz⟩ : ∃ z, args[k]? = some z := ⟨_, List.getElem?_eq_getElem (by omega)⟩
      exact (hr k z _ hz (List.getElem?_eq_getElem hk)).cells4
    have hne : flatC vs ≠ [] := by
      intro h0
      obtain ⟨A', c', rfl⟩ := hrx.form
      have := flatC_at h4 hv 0 _ rfl
      rw [h0] at this
      cases this
    obtain ⟨ad, rfl, hb, hc⟩ := hA hne
    obtain ⟨A', c', rfl⟩ := hrx.form
    refine ⟨ad, A', c', rfl, hb, hrx, fun j u hu => ?_⟩
    rw [add_of_add]
    exact hc _ _ (flatC_at h4 hv j u (by simpa [Value.cells] using hu))
theorem RepV.below {w w' : World} {B : Nat} {e : Ex} {A : Option Addr} {c : Nat} (h : RepV w B e A c) (hb : Below B w w') : RepV w' B e A c :=
  ⟨h.h60, h.op, h.n, h.name, h.nlen, fun i x hx => by
    obtain ⟨ad, A', c', e1, e2, e3, e4⟩ := h.arg i x hx
    exact ⟨ad, A', c', e1, e2, e3.below hb, fun j u hu => (hb.cell (by rw [block_of_add, block_of_add]; exact e2)).trans (e4 j u hu)⟩⟩
end Go.Proofs.Ytijaldpmpjapiaa

namespace Go.Proofs.Ytijaldpmpjapiaa
open Go.RowKit

def arityZ (op : Int) : Int := if 1 ≤ op ∧ op ≤ 4 then 0 else if 5 ≤ op ∧ op ≤ 18 then 2 else if op = 19 ∨ op = 20 then 1 else if op = 21 then 3 else -1
theorem arity_any (op : Int) (w : World) : Calls Try.prog 126 #[.int .i64 op] w fun e w' => e = .returned (.int .i64 (arityZ op)) ∧ Grow w w' := by
  have bel := Below.refl w.heap.size w
  refine Calls.start 27 Try.func126 rfl rfl rfl ?_
  refine Cd.seq ?_
  refine Cd.region ?_
  refine Seq.val (Runs.assign rfl rfl) rfl rfl rfl ?_
  refine Seq.nil ?_
  refine Post.weak (F' := [(0, _), (2, _)]) ⟨rfl, rfl, trivial⟩ ?_
  refine Post.then_ ?_
  refine Cd.seq ?_
  refine Cd.block ?_
  refine Cd.seq ?_
  refine Cd.region ?_
  refine Seq.val (Runs.move rfl rfl) rfl rfl rfl ?_
  refine Seq.val (Runs.geq rfl rfl rfl) rfl rfl rfl ?_
  refine Seq.val (Runs.move rfl rfl) rfl rfl rfl ?_
  refine SeqC.start ?_
  refine SeqC.open rfl rfl rfl rfl rfl rfl rfl (fun hcx => Runs.move rfl rfl) ?_
  refine SeqC.next rfl rfl rfl rfl rfl rfl rfl (fun hcx => Runs.leq rfl rfl rfl) ?_
  refine SeqC.and rfl rfl rfl rfl rfl rfl rfl ?_
  refine Seq.val (Runs.assign rfl rfl) rfl rfl rfl ?_
  refine Seq.nil ?_
  refine Post.weak (F' := [(0, _), (2, _), (3, _)]) ⟨rfl, rfl, rfl, trivial⟩ ?_
  refine Post.then_ ?_
  refine Cd.cond rfl (fun h => ?_) (fun h => ?_)
  · simp at h
    refine Cd.seq ?_
    refine Cd.region ?_
    refine Seq.val (Runs.assign rfl rfl) rfl rfl rfl ?_
    refine Seq.nil ?_
    refine Post.weak (F' := [(0, _), (2, _), (3, _)]) ⟨rfl, rfl, rfl, trivial⟩ ?_
    refine Post.then_ ?_
    refine Cd.ret ?_
    refine Post.block_ret ?_
    refine Post.then_ret ?_
    refine Post.end1 rfl rfl (.inl rfl) ?_
    exact ⟨ret1 (int_eq (by unfold arityZ; rw [if_pos h])), bel⟩
  · simp at h
    refine Cd.seq ?_
    refine Cd.region ?_
    refine Seq.val (Runs.move rfl rfl) rfl rfl rfl ?_
    refine Seq.val (Runs.geq rfl rfl rfl) rfl rfl rfl ?_
    refine Seq.val (Runs.move rfl rfl) rfl rfl rfl ?_
    refine SeqC.start ?_
    refine SeqC.open rfl rfl rfl rfl rfl rfl rfl (fun hcx => Runs.move rfl rfl) ?_
    refine SeqC.next rfl rfl rfl rfl rfl rfl rfl (fun hcx => Runs.leq rfl rfl rfl) ?_
    refine SeqC.and rfl rfl rfl rfl rfl rfl rfl ?_
    refine Seq.val (Runs.assign rfl rfl) rfl rfl rfl ?_
    refine Seq.nil ?_
    refine Post.weak (F' := [(0, _), (2, _), (3, _), (10, _)]) ⟨rfl, rfl, rfl, rfl, trivial⟩ ?_
    refine Post.then_ ?_
    refine Cd.cond rfl (fun h2 => ?_) (fun h2 => ?_)
    · simp at h2
      refine Cd.seq ?_
      refine Cd.region ?_
      refine Seq.val (Runs.assign rfl rfl) rfl rfl rfl ?_
      refine Seq.nil ?_
      refine Post.weak (F' := [(0, _), (2, _), (3, _), (10, _)]) ⟨rfl, rfl, rfl, rfl, trivial⟩ ?_
      refine Post.then_ ?_
      refine Cd.ret ?_
      refine Post.block_ret ?_
      refine Post.then_ret ?_
      refine Post.end1 rfl rfl (.inl rfl) ?_
      exact ⟨ret1 (int_eq (by unfold arityZ; rw [if_neg (by omega), if_pos h2])), bel⟩
    · simp at h2
      refine Cd.seq ?_
      refine Cd.region ?_
      refine Seq.val (Runs.move rfl rfl) rfl rfl rfl ?_
      refine Seq.val (Runs.eqlI rfl rfl rfl) rfl rfl rfl ?_
      refine Seq.val (Runs.move rfl rfl) rfl rfl rfl ?_
      refine SeqC.start ?_
      refine SeqC.open rfl rfl rfl rfl rfl rfl rfl (fun hcx => Runs.move rfl rfl) ?_
      refine SeqC.next rfl rfl rfl rfl rfl rfl rfl (fun hcx => Runs.eqlI rfl rfl rfl) ?_
      refine SeqC.or rfl rfl rfl rfl rfl rfl rfl ?_
      refine Seq.val (Runs.assign rfl rfl) rfl rfl rfl ?_
      refine Seq.nil ?_
      refine Post.weak (F' := [(0, _), (2, _), (3, _), (10, _), (17, _)]) ⟨rfl, rfl, rfl, rfl, rfl, trivial⟩ ?_
      refine Post.then_ ?_
      refine Cd.cond rfl (fun h3 => ?_) (fun h3 => ?_)
      · simp at h3
        refine Cd.seq ?_
        refine Cd.region ?_
        refine Seq.val (Runs.assign rfl rfl) rfl rfl rfl ?_
        refine Seq.nil ?_
        refine Post.weak (F' := [(0, _), (2, _), (3, _), (10, _), (17, _)]) ⟨rfl, rfl, rfl, rfl, rfl, trivial⟩ ?_
        refine Post.then_ ?_
        refine Cd.ret ?_
        refine Post.block_ret ?_
        refine Post.then_ret ?_
        refine Post.end1 rfl rfl (.inl rfl) ?_
        exact ⟨ret1 (int_eq (by unfold arityZ; rw [if_neg (by omega), if_neg (by omega), if_pos h3])), bel⟩
      · simp at h3
        refine Cd.seq ?_
        refine Cd.region ?_
        refine Seq.val (Runs.move rfl rfl) rfl rfl rfl ?_
        refine Seq.val (Runs.eqlI rfl rfl rfl) rfl rfl rfl ?_
        refine Seq.val (Runs.assign rfl rfl) rfl rfl rfl ?_
        refine Seq.nil ?_
        refine Post.weak (F' := [(0, _), (2, _), (3, _), (10, _), (17, _), (24, _)]) ⟨rfl, rfl, rfl, rfl, rfl, rfl, trivial⟩ ?_
        refine Post.then_ ?_
        refine Cd.condD rfl (fun hc => ?_) (fun hc => ?_)
        · skip
          refine Cd.seq ?_
          refine Cd.region ?_
          refine Seq.val (Runs.assign rfl rfl) rfl rfl rfl ?_
          refine Seq.nil ?_
          refine Post.weak (F' := [(0, _), (2, _), (3, _), (10, _), (17, _), (24, _)]) ⟨rfl, rfl, rfl, rfl, rfl, rfl, trivial⟩ ?_
          refine Post.then_ ?_
          refine Cd.ret ?_
          refine Post.block_ret ?_
          refine Post.then_ret ?_
          refine Post.end1 rfl rfl (.inl rfl) ?_
          exact ⟨ret1 (int_eq (by unfold arityZ; rw [if_neg (by omega), if_neg (by omega), if_neg (by omega), if_pos (by assumption)])), bel⟩
        · skip
          refine Cd.skip ?_
          refine Post.block_normal ?_
          refine Post.then_ ?_
          refine Cd.seq ?_
          refine Cd.region ?_
          refine Seq.val (Runs.assign rfl rfl) rfl rfl rfl ?_
          refine Seq.nil ?_
          refine Post.weak (F' := [(0, _), (2, _), (3, _), (10, _), (17, _), (24, _)]) ⟨rfl, rfl, rfl, rfl, rfl, rfl, trivial⟩ ?_
          refine Post.then_ ?_
          refine Cd.ret ?_
          refine Post.end1 rfl rfl (.inl rfl) ?_
          exact ⟨ret1 (int_eq (by unfold arityZ; rw [if_neg (by omega), if_neg (by omega), if_neg (by omega), if_neg (by assumption)])), bel⟩
def reserved : List (List Nat) := [[122, 101, 114, 111], [111, 110, 101], [103, 105, 118, 101], [97, 110, 100], [111, 114], [115, 99, 97, 108, 101], [119, 104, 101, 110], [117, 110, 116, 105, 108], [97, 110, 121, 116, 105, 109, 101], [100, 97, 121], [109, 105, 110], [109, 97, 120], [105, 102]]
def reservedB (l : List Nat) : Bool := reserved.any fun x => decide (l = x)
theorem reserved_any (l : List Nat) (w : World) (hl : ∀ d ∈ l, d < 256) : Calls Try.prog 150 #[.string (strOf l)] w fun e w' => e = .returned (.bool (reservedB l)) ∧ Grow w w' := by
  have bel := Below.refl w.heap.size w
  refine Calls.start 18 Try.func150 rfl rfl rfl ?_
  refine Cd.seq ?_
  refine Cd.region ?_
  refine Seq.val (Runs.assign rfl rfl) rfl rfl rfl ?_
  refine Seq.nil ?_
  refine Post.weak (F' := [(0, _), (2, _)]) ⟨rfl, rfl, trivial⟩ ?_
  refine Post.then_ ?_
  refine Cd.seq ?_
  refine Cd.seq ?_
  refine Cd.region ?_
  refine Seq.val (Runs.move rfl rfl) rfl rfl rfl ?_
  refine Seq.nil ?_
  refine Post.weak (F' := [(0, _), (2, _), (3, _)]) ⟨rfl, rfl, rfl, trivial⟩ ?_
  refine Post.then_ ?_
  refine Cd.block ?_
  refine Cd.seqJ (σ := Unit) (fun _ => [(4, .bool (reservedB l))]) (fun _ wr => Below w.heap.size w wr) ?_ ?_
  · skip
    refine Cd.seq ?_
    refine Cd.region ?_
    refine Seq.val (Runs.eqlL (a := l) (b := [122, 101, 114, 111]) rfl rfl rfl hl (by decide)) rfl rfl rfl ?_
    refine Seq.val (Runs.assign rfl rfl) rfl rfl rfl ?_
    refine Seq.nil ?_
    refine Post.weak (F' := [(0, _), (2, _), (3, _), (4, _)]) ⟨rfl, rfl, rfl, rfl, trivial⟩ ?_
    refine Post.then_ ?_
    refine Cd.condD rfl (fun h0 => ?_) (fun h0 => ?_)
    · subst h0
      refine Cd.skip ?_
      exact Post.join () ⟨rfl, trivial⟩ bel
    · skip
      refine Cd.seq ?_
      refine Cd.region ?_
      refine Seq.val (Runs.eqlL (a := l) (b := [111, 110, 101]) rfl rfl rfl hl (by decide)) rfl rfl rfl ?_
      refine Seq.val (Runs.assign rfl rfl) rfl rfl rfl ?_
      refine Seq.nil ?_
      refine Post.weak (F' := [(0, _), (2, _), (3, _), (4, _)]) ⟨rfl, rfl, rfl, rfl, trivial⟩ ?_
      refine Post.then_ ?_
      refine Cd.condD rfl (fun h1 => ?_) (fun h1 => ?_)
      · subst h1
        refine Cd.skip ?_
        exact Post.join () ⟨rfl, trivial⟩ bel
      · skip
        refine Cd.seq ?_
        refine Cd.region ?_
        refine Seq.val (Runs.eqlL (a := l) (b := [103, 105, 118, 101]) rfl rfl rfl hl (by decide)) rfl rfl rfl ?_
        refine Seq.val (Runs.assign rfl rfl) rfl rfl rfl ?_
        refine Seq.nil ?_
        refine Post.weak (F' := [(0, _), (2, _), (3, _), (4, _)]) ⟨rfl, rfl, rfl, rfl, trivial⟩ ?_
        refine Post.then_ ?_
        refine Cd.condD rfl (fun h2 => ?_) (fun h2 => ?_)
        · subst h2
          refine Cd.skip ?_
          exact Post.join () ⟨rfl, trivial⟩ bel
        · skip
          refine Cd.seq ?_
          refine Cd.region ?_
          refine Seq.val (Runs.eqlL (a := l) (b := [97, 110, 100]) rfl rfl rfl hl (by decide)) rfl rfl rfl ?_
          refine Seq.val (Runs.assign rfl rfl) rfl rfl rfl ?_
          refine Seq.nil ?_
          refine Post.weak (F' := [(0, _), (2, _), (3, _), (4, _)]) ⟨rfl, rfl, rfl, rfl, trivial⟩ ?_
          refine Post.then_ ?_
          refine Cd.condD rfl (fun h3 => ?_) (fun h3 => ?_)
          · subst h3
            refine Cd.skip ?_
            exact Post.join () ⟨rfl, trivial⟩ bel
          · skip
            refine Cd.seq ?_
            refine Cd.region ?_
            refine Seq.val (Runs.eqlL (a := l) (b := [111, 114]) rfl rfl rfl hl (by decide)) rfl rfl rfl ?_
            refine Seq.val (Runs.assign rfl rfl) rfl rfl rfl ?_
            refine Seq.nil ?_
            refine Post.weak (F' := [(0, _), (2, _), (3, _), (4, _)]) ⟨rfl, rfl, rfl, rfl, trivial⟩ ?_
            refine Post.then_ ?_
            refine Cd.condD rfl (fun h4 => ?_) (fun h4 => ?_)
            · subst h4
              refine Cd.skip ?_
              exact Post.join () ⟨rfl, trivial⟩ bel
            · skip
              refine Cd.seq ?_
              refine Cd.region ?_
              refine Seq.val (Runs.eqlL (a := l) (b := [115, 99, 97, 108, 101]) rfl rfl rfl hl (by decide)) rfl rfl rfl ?_
              refine Seq.val (Runs.assign rfl rfl) rfl rfl rfl ?_
              refine Seq.nil ?_
              refine Post.weak (F' := [(0, _), (2, _), (3, _), (4, _)]) ⟨rfl, rfl, rfl, rfl, trivial⟩ ?_
              refine Post.then_ ?_
              refine Cd.condD rfl (fun h5 => ?_) (fun h5 => ?_)
              · subst h5
                refine Cd.skip ?_
                exact Post.join () ⟨rfl, trivial⟩ bel
              · skip
                refine Cd.seq ?_
                refine Cd.region ?_
                refine Seq.val (Runs.eqlL (a := l) (b := [119, 104, 101, 110]) rfl rfl rfl hl (by decide)) rfl rfl rfl ?_
                refine Seq.val (Runs.assign rfl rfl) rfl rfl rfl ?_
                refine Seq.nil ?_
                refine Post.weak (F' := [(0, _), (2, _), (3, _), (4, _)]) ⟨rfl, rfl, rfl, rfl, trivial⟩ ?_
                refine Post.then_ ?_
                refine Cd.condD rfl (fun h6 => ?_) (fun h6 => ?_)
                · subst h6
                  refine Cd.skip ?_
                  exact Post.join () ⟨rfl, trivial⟩ bel
                · skip
                  refine Cd.seq ?_
                  refine Cd.region ?_
                  refine Seq.val (Runs.eqlL (a := l) (b := [117, 110, 116, 105, 108]) rfl rfl rfl hl (by decide)) rfl rfl rfl ?_
                  refine Seq.val (Runs.assign rfl rfl) rfl rfl rfl ?_
                  refine Seq.nil ?_
                  refine Post.weak (F' := [(0, _), (2, _), (3, _), (4, _)]) ⟨rfl, rfl, rfl, rfl, trivial⟩ ?_
                  refine Post.then_ ?_
                  refine Cd.condD rfl (fun h7 => ?_) (fun h7 => ?_)
                  · subst h7
                    refine Cd.skip ?_
                    exact Post.join () ⟨rfl, trivial⟩ bel
                  · skip
                    refine Cd.seq ?_
                    refine Cd.region ?_
                    refine Seq.val (Runs.eqlL (a := l) (b := [97, 110, 121, 116, 105, 109, 101]) rfl rfl rfl hl (by decide)) rfl rfl rfl ?_
                    refine Seq.val (Runs.assign rfl rfl) rfl rfl rfl ?_
                    refine Seq.nil ?_
                    refine Post.weak (F' := [(0, _), (2, _), (3, _), (4, _)]) ⟨rfl, rfl, rfl, rfl, trivial⟩ ?_
                    refine Post.then_ ?_
                    refine Cd.condD rfl (fun h8 => ?_) (fun h8 => ?_)
                    · subst h8
                      refine Cd.skip ?_
                      exact Post.join () ⟨rfl, trivial⟩ bel
                    · skip
                      refine Cd.seq ?_
                      refine Cd.region ?_
                      refine Seq.val (Runs.eqlL (a := l) (b := [100, 97, 121]) rfl rfl rfl hl (by decide)) rfl rfl rfl ?_
                      refine Seq.val (Runs.assign rfl rfl) rfl rfl rfl ?_
                      refine Seq.nil ?_
                      refine Post.weak (F' := [(0, _), (2, _), (3, _), (4, _)]) ⟨rfl, rfl, rfl, rfl, trivial⟩ ?_
                      refine Post.then_ ?_
                      refine Cd.condD rfl (fun h9 => ?_) (fun h9 => ?_)
                      · subst h9
                        refine Cd.skip ?_
                        exact Post.join () ⟨rfl, trivial⟩ bel
                      · skip
                        refine Cd.seq ?_
                        refine Cd.region ?_
                        refine Seq.val (Runs.eqlL (a := l) (b := [109, 105, 110]) rfl rfl rfl hl (by decide)) rfl rfl rfl ?_
                        refine Seq.val (Runs.assign rfl rfl) rfl rfl rfl ?_
                        refine Seq.nil ?_
                        refine Post.weak (F' := [(0, _), (2, _), (3, _), (4, _)]) ⟨rfl, rfl, rfl, rfl, trivial⟩ ?_
                        refine Post.then_ ?_
                        refine Cd.condD rfl (fun h10 => ?_) (fun h10 => ?_)
                        · subst h10
                          refine Cd.skip ?_
                          exact Post.join () ⟨rfl, trivial⟩ bel
                        · skip
                          refine Cd.seq ?_
                          refine Cd.region ?_
                          refine Seq.val (Runs.eqlL (a := l) (b := [109, 97, 120]) rfl rfl rfl hl (by decide)) rfl rfl rfl ?_
                          refine Seq.val (Runs.assign rfl rfl) rfl rfl rfl ?_
                          refine Seq.nil ?_
                          refine Post.weak (F' := [(0, _), (2, _), (3, _), (4, _)]) ⟨rfl, rfl, rfl, rfl, trivial⟩ ?_
                          refine Post.then_ ?_
                          refine Cd.condD rfl (fun h11 => ?_) (fun h11 => ?_)
                          · subst h11
                            refine Cd.skip ?_
                            exact Post.join () ⟨rfl, trivial⟩ bel
                          · skip
                            refine Cd.region ?_
                            refine Seq.val (Runs.eqlL (a := l) (b := [105, 102]) rfl rfl rfl hl (by decide)) rfl rfl rfl ?_
                            refine Seq.val (Runs.assign rfl rfl) rfl rfl rfl ?_
                            refine Seq.nil ?_
                            refine Post.weak (F' := [(0, _), (2, _), (3, _), (4, _)]) ⟨rfl, rfl, rfl, rfl, trivial⟩ ?_
                            refine Post.join () ⟨congrArg (fun b => some (Value.bool b)) ?_, trivial⟩ bel
                            simp [reservedB, reserved, h0, h1, h2, h3, h4, h5, h6, h7, h8, h9, h10, h11]
  clear bel
  rintro ⟨⟩ wr bel
  refine Cd.cond rfl (fun h => ?_) (fun h => ?_)
  · skip
    refine Cd.seq ?_
    refine Cd.region ?_
    refine Seq.val (Runs.assign rfl rfl) rfl rfl rfl ?_
    refine Seq.nil ?_
    refine Post.weak (F' := [(2, _), (4, _)]) ⟨rfl, rfl, trivial⟩ ?_
    refine Post.then_ ?_
    refine Cd.ret ?_
    refine Post.block_ret ?_
    refine Post.then_ret ?_
    refine Post.end1 rfl rfl (.inl rfl) ?_
    rw [h]
    exact ⟨rfl, bel⟩
  · skip
    refine Cd.skip ?_
    refine Post.block_normal ?_
    refine Post.then_ ?_
    refine Cd.seq ?_
    refine Cd.region ?_
    refine Seq.val (Runs.assign rfl rfl) rfl rfl rfl ?_
    refine Seq.nil ?_
    refine Post.weak (F' := [(2, _), (4, _)]) ⟨rfl, rfl, trivial⟩ ?_
    refine Post.then_ ?_
    refine Cd.ret ?_
    refine Post.end1 rfl rfl (.inl rfl) ?_
    rw [h]
    exact ⟨rfl, bel⟩
end Go.Proofs.Ytijaldpmpjapiaa

namespace Go.Proofs.Ytijaldpmpjapiaa
open Go.RowKit

def freeB (l : List Nat) : Bool := namedB l && !reservedB l
theorem free_any (l : List Nat) (w : World) (hl : ∀ d ∈ l, d < 256) (hlen : l.length ≤ 9223372036854775807) : Calls Try.prog 118 #[.string (strOf l)] w fun e w' => e = .returned (.bool (freeB l)) ∧ Grow w w' := by
  have bel := Below.refl w.heap.size w
  refine Calls.start 10 Try.func118 rfl rfl rfl ?_
  refine Cd.seq ?_
  refine Cd.region ?_
  refine Seq.val (Runs.assign rfl rfl) rfl rfl rfl ?_
  refine Seq.nil ?_
  refine Post.weak (F' := [(0, _), (2, _)]) ⟨rfl, rfl, trivial⟩ ?_
  refine Post.then_ ?_
  refine Cd.seq ?_
  refine Cd.region ?_
  refine Seq.val (Runs.move rfl rfl) rfl rfl rfl ?_
  refine Seq.call (Enters.func rfl rfl rfl (run_enter Try.func24 (by kernel_rfl) rfl)) rfl rfl rfl (named_any l _ hl hlen) ?_
  rintro e w5 ⟨rfl, hb5⟩
  refine ⟨_, rfl, ?_⟩
  replace bel := bel.step hb5
  refine Seq.val (Runs.move rfl rfl) rfl rfl rfl ?_
  refine SeqC.start ?_
  refine SeqC.open rfl rfl rfl rfl rfl rfl rfl (fun hcx => Runs.move rfl rfl) ?_
  refine SeqC.nextC rfl rfl rfl rfl rfl rfl rfl (fun hcx => Enters.func rfl rfl rfl (run_enter Try.func150 (by kernel_rfl) rfl)) (fun hcx => reserved_any l _ hl) ?_
  intro w1 hw1
  replace bel := bel.step hw1
  refine SeqC.next rfl rfl rfl rfl rfl rfl rfl (fun hcx => Runs.not rfl rfl) ?_
  refine SeqC.and rfl rfl rfl rfl rfl rfl rfl ?_
  refine Seq.val (Runs.assign rfl rfl) rfl rfl rfl ?_
  refine Seq.nil ?_
  refine Post.weak (F' := [(0, _), (2, _)]) ⟨rfl, rfl, trivial⟩ ?_
  refine Post.then_ ?_
  refine Cd.ret ?_
  refine Post.end1 rfl rfl (.inl rfl) ?_
  exact ⟨ret1 (bool_eq (by unfold freeB; cases namedB l <;> rfl)), bel⟩
theorem szSmall_any (a b : Int) (w : World) : Calls Try.prog 68 #[.agg #[.int .i64 a, .int .i64 b]] w fun e w' => e = .returned (.bool (decide (a ≤ 200) && decide (b ≤ 16))) ∧ Grow w w' := by
  have bel := Below.refl w.heap.size w
  refine Calls.start 11 Try.func68 rfl rfl rfl ?_
  refine Cd.seq ?_
  refine Cd.region ?_
  refine Seq.box rfl rfl rfl rfl rfl ?_
  intro g1 w1 n1
  have e1 := Nat.le_trans bel.size n1.ge
  replace bel := bel.step n1.below
  have k1 := n1.blk
  refine Seq.val (Runs.assign rfl rfl) rfl rfl rfl ?_
  refine Seq.nil ?_
  refine Post.weak (F' := [(0, _), (1, _), (2, _)]) ⟨rfl, rfl, rfl, trivial⟩ ?_
  refine Post.then_ ?_
  refine Cd.seq ?_
  refine Cd.region ?_
  refine Seq.val (Runs.fieldB 0 rfl rfl Try.underlying103 rfl (by kernel_rfl)) rfl rfl rfl ?_
  refine Seq.val (Runs.loadB rfl rfl Try.underlying3 rfl k1 rfl) rfl rfl rfl ?_
  refine Seq.val (Runs.leq rfl rfl rfl) rfl rfl rfl ?_
  refine Seq.val (Runs.move rfl rfl) rfl rfl rfl ?_
  refine SeqC.start ?_
  refine SeqC.open rfl rfl rfl rfl rfl rfl rfl (fun hcx => Runs.fieldB 1 rfl rfl Try.underlying103 rfl (by kernel_rfl)) ?_
  refine SeqC.next rfl rfl rfl rfl rfl rfl rfl (fun hcx => Runs.loadB rfl rfl Try.underlying3 rfl k1 rfl) ?_
  refine SeqC.next rfl rfl rfl rfl rfl rfl rfl (fun hcx => Runs.leq rfl rfl rfl) ?_
  refine SeqC.and rfl rfl rfl rfl rfl rfl rfl ?_
  refine Seq.val (Runs.assign rfl rfl) rfl rfl rfl ?_
  refine Seq.nil ?_
  refine Post.weak (F' := [(0, _), (1, _), (2, _)]) ⟨rfl, rfl, rfl, trivial⟩ ?_
  refine Post.then_ ?_
  refine Cd.ret ?_
  refine Post.end1 rfl rfl (.inl rfl) ?_
  exact ⟨ret1 (bool_eq (by cases decide (a ≤ 200) <;> rfl)), bel⟩
theorem zero_term_size : zeroIs Try.prog 103 = some (some (.agg #[.int .i64 0, .int .i64 0])) := by kernel_rfl
theorem run_build_size (a b : Int) (w : World) : (Instr.build 103 #[(0, .int .i64 a), (1, .int .i64 b)]).run Try.prog w = .ok (.agg #[.int .i64 a, .int .i64 b]) w := by
  have hu := Try.underlying103
  go_simp
def withS (s t : Int × Int) : Int × Int := (min (s.1 + t.1) 1000, min (max s.2 (t.2 + 1)) 1000)
theorem with_any (s t : Int × Int) (w : World) (h1 : 0 ≤ s.1 ∧ s.1 ≤ 1000) (h2 : 0 ≤ s.2 ∧ s.2 ≤ 1000) (h3 : 0 ≤ t.1 ∧ t.1 ≤ 1000) (h4 : 0 ≤ t.2 ∧ t.2 ≤ 1000) : Calls Try.prog 116 #[.agg #[.int .i64 s.1, .int .i64 s.2], .agg #[.int .i64 t.1, .int .i64 t.2]] w fun e w' => e = .returned (.agg #[.int .i64 (withS s t).1, .int .i64 (withS s t).2]) ∧ Grow w w' := by
  have bel := Below.refl w.heap.size w
  obtain ⟨a, b⟩ := s
  obtain ⟨c, d⟩ := t
  simp only at h1 h2 h3 h4
  refine Calls.start 19 Try.func116 rfl rfl rfl ?_
  refine Cd.seq ?_
  refine Cd.region ?_
  refine Seq.box rfl rfl rfl rfl rfl ?_
  intro g2 w1 n2
  have e2 := Nat.le_trans bel.size n2.ge
  replace bel := bel.step n2.below
  have k2 := n2.blk
  refine Seq.box rfl rfl rfl rfl rfl ?_
  intro g3 w2 n3
  have e3 := Nat.le_trans bel.size n3.ge
  have l3 := Nat.lt_of_lt_of_le k2.lt n3.ge
  replace bel := bel.step n3.below
  replace k2 := k2.step n3.below
  have k3 := n3.blk
  refine Seq.alloc rfl (run_zero zero_term_size) rfl rfl rfl ?_
  intro g4 w3 n4
  have e4 := Nat.le_trans bel.size n4.ge
  have l4 := Nat.lt_of_lt_of_le k3.lt n4.ge
  have l4_k2 := Nat.lt_of_lt_of_le k2.lt n4.ge
  replace bel := bel.step n4.below
  replace k2 := k2.step n4.below
  replace k3 := k3.step n4.below
  have k4 := n4.blk
  refine Seq.nil ?_
  refine Post.weak (F' := [(0, _), (1, _), (2, _), (3, _), (4, _)]) ⟨rfl, rfl, rfl, rfl, rfl, trivial⟩ ?_
  refine Post.then_ ?_
  refine Cd.seq ?_
  refine Cd.region ?_
  refine Seq.val (Runs.fieldB 0 rfl rfl Try.underlying103 rfl (by kernel_rfl)) rfl rfl rfl ?_
  refine Seq.val (Runs.loadB rfl rfl Try.underlying3 rfl k2 rfl) rfl rfl rfl ?_
  refine Seq.val (Runs.fieldB 0 rfl rfl Try.underlying103 rfl (by kernel_rfl)) rfl rfl rfl ?_
  refine Seq.val (Runs.loadB rfl rfl Try.underlying3 rfl k3 rfl) rfl rfl rfl ?_
  refine Seq.val (Runs.addI rfl rfl rfl (by omega) (by omega)) rfl rfl rfl ?_
  refine Seq.val (Runs.min2 rfl rfl rfl) rfl rfl rfl ?_
  refine Seq.val (Runs.fieldB 1 rfl rfl Try.underlying103 rfl (by kernel_rfl)) rfl rfl rfl ?_
  refine Seq.val (Runs.loadB rfl rfl Try.underlying3 rfl k2 rfl) rfl rfl rfl ?_
  refine Seq.val (Runs.fieldB 1 rfl rfl Try.underlying103 rfl (by kernel_rfl)) rfl rfl rfl ?_
  refine Seq.val (Runs.loadB rfl rfl Try.underlying3 rfl k3 rfl) rfl rfl rfl ?_
  refine Seq.val (Runs.addI rfl rfl rfl (by omega) (by omega)) rfl rfl rfl ?_
  refine Seq.val (Runs.max2 rfl rfl rfl) rfl rfl rfl ?_
  refine Seq.val (Runs.min2 rfl rfl rfl) rfl rfl rfl ?_
  refine Seq.val (Runs.build rfl rfl (run_build_size _ _ _)) rfl rfl rfl ?_
  refine Seq.storeN rfl rfl rfl rfl (m := 2) (by kernel_rfl) rfl (by repeat' first | exact trivial | apply And.intro | rfl | assumption) k4 (by simp [Value.cells]) rfl rfl ?_
  intro w4 pw4
  replace bel := bel.put k4 pw4 e4
  replace k2 := k2.put pw4 (by omega)
  replace k3 := k3.put pw4 (by omega)
  replace k4 := pw4.blk
  refine Seq.nil ?_
  refine Post.weak (F' := [(0, _), (1, _), (2, _), (3, _), (4, _)]) ⟨rfl, rfl, rfl, rfl, rfl, trivial⟩ ?_
  refine Post.then_ ?_
  refine Cd.ret ?_
  refine Post.endC rfl rfl k4 Try.underlying103 rfl (m := 2) (by kernel_rfl) rfl (.inl rfl) ?_
  exact ⟨rfl, bel⟩
mutual
/-- A size as it is counted. -/
def szE : Ex → Int × Int
  | .mk _ _ _ l => szL (1, 1) l
def szL (s : Int × Int) : List Ex → Int × Int
  | [] => s
  | e :: r => if 1000 ≤ s.1 then (1000, 1000) else szL (withS s (szE e)) r
end
theorem szE_eq (e : Ex) : szE e = szL (1, 1) e.args := by cases e; rw [szE]; rfl
theorem szL_cons (s : Int × Int) (e : Ex) (r : List Ex) : szL s (e :: r) = if 1000 ≤ s.1 then (1000, 1000) else szL (withS s (szE e)) r := by rw [szL]
theorem szL_nil (s : Int × Int) : szL s [] = s := by rw [szL]
def Sz (s : Int × Int) : Prop := (0 ≤ s.1 ∧ s.1 ≤ 1000) ∧ (0 ≤ s.2 ∧ s.2 ≤ 1000)
theorem withS_Sz {s t : Int × Int} (h : Sz s) (k : Sz t) : Sz (withS s t) := by
  unfold Sz withS at *
  simp only
  omega
mutual
theorem szE_Sz : ∀ e, Sz (szE e)
  | .mk op n nm l => by rw [szE]; exact szL_Sz (1, 1) ⟨by simp, by simp⟩ l
theorem szL_Sz : ∀ (s : Int × Int), Sz s → ∀ l, Sz (szL s l)
  | s, h, [] => by rw [szL]; exact h
  | s, h, e :: r => by
    rw [szL]
    split
    · exact ⟨by simp, by simp⟩
    · exact szL_Sz _ (withS_Sz h (szE_Sz e)) r
end
/-- What a size says: nodes up to a thousand; the depth, if they are fewer. -/
def Cnt (s : Int × Int) (n d : Nat) : Prop := s.1 = min (n : Int) 1000 ∧ (n < 1000 → s.2 = (d : Int))
mutual
theorem szE_cnt : ∀ e, Cnt (szE e) e.nodes e.depth
  | .mk op n nm l => by
    rw [szE, Ex.nodes_mk, Ex.depth_mk]
    have := szL_cnt (1, 1) 1 1 ⟨(by show (1 : Int) = min ((1 : Nat) : Int) 1000; omega), fun _ => rfl⟩ (Nat.le_refl _) (Nat.le_refl _) l
    rwa [show max 1 (1 + depthL l) = 1 + depthL l by omega] at this
theorem szL_cnt : ∀ (s : Int × Int) (n d : Nat), Cnt s n d → 1 ≤ d → d ≤ n → ∀ l, Cnt (szL s l) (n + nodesL l) (max d (1 + depthL l))
  | s, n, d, h, h1, h2, [] => by
    rw [szL, nodesL, depthL, show max d (1 + 0) = d by omega]
    exact h
  | s, n, d, h, h1, h2, e :: r => by
    rw [szL, nodesL, depthL]
    have he := szE_cnt e
    have hn := Ex.depth_nodes e
    have hr := depthL_nodesL r
    split
    · obtain ⟨a, b⟩ := h
      exact ⟨by simp only; omega, fun h => by omega⟩
    · have hw : Cnt (withS s (szE e)) (n + e.nodes) (max d (1 + e.depth)) := by
        obtain ⟨a, b⟩ := h
        obtain ⟨a', b'⟩ := he
        refine ⟨by unfold withS; simp only; omega, fun h => ?_⟩
        unfold withS
        simp only
        rw [b (by omega), b' (by omega)]
        omega
      have := szL_cnt _ (n + e.nodes) (max d (1 + e.depth)) hw (by omega) (by omega) r
      rw [show n + (e.nodes + nodesL r) = n + e.nodes + nodesL r by omega, show max d (1 + max e.depth (depthL r)) = max (max d (1 + e.depth)) (1 + depthL r) by omega]
      exact this
end
theorem zero_api_Expr : zeroIs Try.prog 35 = some (some (.agg #[.int .i64 0, .int .i64 0, .string { data := #[] }, .slice none 0 0])) := by kernel_rfl
theorem sizeExpr_any (N : Nat) : ∀ (e : Ex) (at_ : Nat) (B : Nat) (v : Value) (w : World), e.nodes ≤ N → e.depth + at_ ≤ 900 → Rep w B e v → B ≤ w.heap.size → Calls Try.prog 75 #[v, .int .i64 (at_ : Int)] w fun en w' => en = .returned (.agg #[.int .i64 (szE e).1, .int .i64 (szE e).2]) ∧ Grow w w' := by
  induction N with
  | zero => intro e at_ B v w hN; have := e.nodes_pos; omega
  | succ N ih =>
  intro e at_ B v w hN hdep hrep hB
  obtain ⟨A, c, rfl, hv⟩ := hrep.open
  have bel := Below.refl w.heap.size w
  have hdp : 0 < e.depth := by cases e; rw [Ex.depth_mk]; omega
  have h60 := hv.h60
  refine Calls.start 32 Try.func75 rfl rfl rfl ?_
  refine Cd.seq ?_
  refine Cd.region ?_
  refine Seq.box rfl rfl rfl rfl rfl ?_
  intro g2 w1 n2
  have e2 := Nat.le_trans bel.size n2.ge
  replace bel := bel.step n2.below
  have k2 := n2.blk
  refine Seq.alloc rfl (run_zero zero_term_size) rfl rfl rfl ?_
  intro g4 w2 n4
  have e4 := Nat.le_trans bel.size n4.ge
  have l4 := Nat.lt_of_lt_of_le k2.lt n4.ge
  replace bel := bel.step n4.below
  replace k2 := k2.step n4.below
  have k4 := n4.blk
  refine Seq.nil ?_
  refine Post.weak (F' := [(0, _), (1, _), (2, _), (4, _)]) ⟨rfl, rfl, rfl, rfl, trivial⟩ ?_
  refine Post.then_ ?_
  refine Cd.seq ?_
  refine Cd.region ?_
  refine Seq.val (Runs.build rfl rfl (run_build_size _ _ _)) rfl rfl rfl ?_
  refine Seq.alloc rfl (run_zero zero_term_size) rfl rfl rfl ?_
  intro g5 w3 n5
  have e5 := Nat.le_trans bel.size n5.ge
  have l5 := Nat.lt_of_lt_of_le k4.lt n5.ge
  have l5_k2 := Nat.lt_of_lt_of_le k2.lt n5.ge
  replace bel := bel.step n5.below
  replace k2 := k2.step n5.below
  replace k4 := k4.step n5.below
  have k5 := n5.blk
  refine Seq.storeN rfl rfl rfl rfl (m := 2) (by kernel_rfl) rfl (by repeat' first | exact trivial | apply And.intro | rfl | assumption) k5 (by simp [Value.cells]) rfl rfl ?_
  intro w4 pw4
  replace bel := bel.put k5 pw4 e5
  replace k2 := k2.put pw4 (by omega)
  replace k4 := k4.put pw4 (by omega)
  replace k5 := pw4.blk
  refine Seq.nil ?_
  refine Post.weak (F' := [(0, _), (1, _), (2, _), (4, _), (5, _)]) ⟨rfl, rfl, rfl, rfl, rfl, trivial⟩ ?_
  refine Post.then_ ?_
  refine Cd.seq ?_
  refine Cd.seq ?_
  refine Cd.region ?_
  refine Seq.val (Runs.fieldB 3 rfl rfl Try.underlying35 rfl (by kernel_rfl)) rfl rfl rfl ?_
  refine Seq.val (Runs.loadB rfl rfl Try.underlying25 rfl k2 rfl) rfl rfl rfl ?_
  refine Seq.val (Runs.len rfl rfl Try.underlying25) rfl rfl rfl ?_
  refine Seq.val (Runs.move rfl rfl) rfl rfl rfl ?_
  refine Seq.nil ?_
  refine Post.weak (F' := [(0, _), (1, _), (2, _), (4, _), (5, _), (10, _), (11, _), (12, _)]) ⟨rfl, rfl, rfl, rfl, rfl, rfl, rfl, rfl, trivial⟩ ?_
  refine Post.then_ ?_
  refine Cd.block ?_
  refine Cd.loop (σ := Nat × (Int × Int)) (fun s => [(1, .int .i64 (at_ : Int)), (4, .pointer (some ⟨g4, 0, none⟩)), (5, .pointer (some ⟨g5, 0, none⟩)), (10, .slice A e.args.length c), (11, .int .i64 (e.args.length : Int)), (12, .int .i64 (s.1 : Int))])
    (fun s wr => s.1 ≤ e.args.length ∧ Sz s.2 ∧ szL s.2 (e.args.drop s.1) = szE e ∧ Below w.heap.size w wr ∧ Blk wr g4 103 #[.int .i64 0, .int .i64 0] ∧ Blk wr g5 103 #[.int .i64 s.2.1, .int .i64 s.2.2]) (fun s => e.args.length - s.1) (0, (1, 1)) ⟨Nat.zero_le _, ⟨by simp, by simp⟩, by rw [szE_eq]; rfl, bel, k4, k5⟩ ⟨rfl, rfl, rfl, rfl, rfl, rfl, trivial⟩ ?_
  clear bel k2 k4 k5
  rintro ⟨k, s⟩ wr ⟨hk, hs, hsz, bel, k4, k5⟩
  simp only at hk hs hsz k5
  show Cd _ _ _ _ [(1, .int .i64 (at_ : Int)), (4, .pointer (some ⟨g4, 0, none⟩)), (5, .pointer (some ⟨g5, 0, none⟩)), (10, .slice A e.args.length c), (11, .int .i64 (e.args.length : Int)), (12, .int .i64 (k : Int))] _
  refine Cd.seq ?_
  refine Cd.region ?_
  refine Seq.val (Runs.lss rfl rfl rfl) rfl rfl rfl ?_
  refine Seq.nil ?_
  refine Post.weak (F' := [(1, _), (4, _), (5, _), (10, _), (11, _), (12, _), (13, _)]) ⟨rfl, rfl, rfl, rfl, rfl, rfl, rfl, trivial⟩ ?_
  refine Post.then_ ?_
  refine Cd.seq ?_
  refine Cd.condD rfl (fun hc => ?_) (fun hc => ?_)
  · obtain ⟨x, hx⟩ : ∃ x, e.args[k]? = some x := ⟨_, List.getElem?_eq_getElem (show k < e.args.length by omega)⟩
    obtain ⟨ad, A', c', rfl, hbl, hrx, hc⟩ := hv.arg k x hx
    have hxm := List.mem_of_getElem? hx
    have hxn := Ex.arg_nodes hxm
    have hxd := Ex.arg_depth hxm
    have hc := fun j u hj => ((bel.mono hB).cell (p := (ad.add (k * 4)).add j) (by rw [block_of_add, block_of_add]; exact hbl)).trans (hc j u hj)
    have hdrop : e.args.drop k = x :: e.args.drop (k + 1) := by
      rw [List.drop_eq_getElem_cons (show k < e.args.length by omega)]
      congr 1
      obtain ⟨_, he⟩ := List.getElem?_eq_some_iff.1 hx
      exact he
    rw [hdrop, szL_cons] at hsz
    refine Cd.skip ?_
    refine Post.then_ ?_
    refine Cd.seq ?_
    refine Cd.block ?_
    refine Cd.seq ?_
    refine Cd.region ?_
    refine Seq.val (Runs.indexN rfl rfl rfl Try.underlying25 (s := 4) (by kernel_rfl) (j := k) rfl (by omega)) rfl rfl rfl ?_
    refine Seq.val (Runs.loadF (ps := [.int .i64 x.op, .int .i64 x.n, .string (strOf x.name), .slice A' x.args.length c']) rfl rfl Try.underlying35 rfl (m := 4) (by kernel_rfl) rfl hc) rfl rfl rfl ?_
    refine Seq.alloc rfl (run_zero zero_api_Expr) rfl rfl rfl ?_
    intro g7 w5 n7
    have e7 := Nat.le_trans bel.size n7.ge
    have l7 := Nat.lt_of_lt_of_le k5.lt n7.ge
    have l7_k4 := Nat.lt_of_lt_of_le k4.lt n7.ge
    replace bel := bel.step n7.below
    replace k4 := k4.step n7.below
    replace k5 := k5.step n7.below
    have k7 := n7.blk
    refine Seq.storeN rfl rfl rfl rfl (m := 4) (by kernel_rfl) rfl (by repeat' first | exact trivial | apply And.intro | rfl | assumption) k7 (by simp [Value.cells]) rfl rfl ?_
    intro w6 pw6
    replace bel := bel.put k7 pw6 e7
    replace k4 := k4.put pw6 (by omega)
    replace k5 := k5.put pw6 (by omega)
    replace k7 := pw6.blk
    refine Seq.nil ?_
    refine Post.weak (F' := [(1, _), (4, _), (5, _), (7, _), (10, _), (11, _), (12, _), (13, _)]) ⟨rfl, rfl, rfl, rfl, rfl, rfl, rfl, rfl, trivial⟩ ?_
    refine Post.then_ ?_
    refine Cd.seq ?_
    refine Cd.seq ?_
    refine Cd.region ?_
    refine Seq.val (Runs.move rfl rfl) rfl rfl rfl ?_
    refine Seq.val (Runs.geq rfl rfl rfl) rfl rfl rfl ?_
    refine Seq.val (Runs.move rfl rfl) rfl rfl rfl ?_
    refine SeqC.start ?_
    refine SeqC.open rfl rfl rfl rfl rfl rfl rfl (fun hcx => Runs.fieldB 0 rfl rfl Try.underlying103 rfl (by kernel_rfl)) ?_
    refine SeqC.next rfl rfl rfl rfl rfl rfl rfl (fun hcx => Runs.loadB rfl rfl Try.underlying3 rfl k5 rfl) ?_
    refine SeqC.next rfl rfl rfl rfl rfl rfl rfl (fun hcx => Runs.geq rfl rfl rfl) ?_
    refine SeqC.or rfl rfl rfl rfl rfl rfl rfl ?_
    refine Seq.nil ?_
    refine Post.weak (F' := [(1, _), (4, _), (5, _), (7, _), (10, _), (11, _), (12, _), (13, _), (22, _)]) ⟨rfl, rfl, rfl, rfl, rfl, rfl, rfl, rfl, rfl, trivial⟩ ?_
    refine Post.then_ ?_
    refine Cd.cond rfl (fun h => ?_) (fun h => ?_)
    · simp at h
      rw [if_pos (by omega)] at hsz
      refine Cd.seq ?_
      refine Cd.region ?_
      refine Seq.val (Runs.build rfl rfl (run_build_size _ _ _)) rfl rfl rfl ?_
      refine Seq.storeN rfl rfl rfl rfl (m := 2) (by kernel_rfl) rfl (by repeat' first | exact trivial | apply And.intro | rfl | assumption) k4 (by simp [Value.cells]) rfl rfl ?_
      intro w7 pw7
      replace bel := bel.put k4 pw7 e4
      replace k5 := k5.put pw7 (by omega)
      replace k7 := k7.put pw7 (by omega)
      replace k4 := pw7.blk
      refine Seq.nil ?_
      refine Post.weak (F' := [(1, _), (4, _), (5, _), (7, _), (10, _), (11, _), (12, _), (13, _), (22, _)]) ⟨rfl, rfl, rfl, rfl, rfl, rfl, rfl, rfl, rfl, trivial⟩ ?_
      refine Post.then_ ?_
      refine Cd.ret ?_
      refine Post.then_ret ?_
      refine Post.block_ret ?_
      refine Post.then_ret ?_
      refine Post.round_ret ?_
      refine Post.block_ret ?_
      refine Post.then_ret ?_
      refine Post.endC rfl rfl k4 Try.underlying103 rfl (m := 2) (by kernel_rfl) rfl (.inl rfl) ?_
      rw [← hsz]
      exact ⟨rfl, bel⟩
    · simp at h
      rw [if_neg (by omega)] at hsz
      have hrec := fun W (hb : Below w.heap.size w W) => ih x (at_ + 1) B _ W (by omega) (by omega) (hrx.below (hb.mono hB)) (Nat.le_trans hB hb.size)
      have hxs := szE_Sz x
      have hws := withS_Sz hs hxs
      refine Cd.skip ?_
      refine Post.then_ ?_
      refine Cd.draw 6 (by kernel_rfl) [] (.inl rfl) rfl Grow Grow.refl (fun _ _ _ => Grow.trans) ?_
      intro w7 hw7 zw7
      replace bel := bel.step hw7
      replace k4 := k4.step hw7
      replace k5 := k5.step hw7
      replace k7 := k7.step hw7
      have zbel := bel.size
      have zlt := k7.lt
      refine Dr.val Grow.refl rfl (fun w hG => Runs.loadW rfl rfl Try.underlying103 rfl (k5.step hG) (m := 2) (by kernel_rfl) rfl) rfl ?_
      refine Dr.val Grow.refl rfl (fun w hG => Runs.loadW rfl rfl Try.underlying35 rfl (k7.step hG) (m := 4) (by kernel_rfl) rfl) rfl ?_
      refine Dr.val Grow.refl rfl (fun w hG => Runs.move rfl rfl) rfl ?_
      refine Dr.val Grow.refl rfl (fun w hG => Runs.addI rfl rfl rfl (by omega) (by omega)) rfl ?_
      refine Dr.callV rfl (fun w => Enters.func rfl rfl rfl (run_enter Try.func75 (by kernel_rfl) rfl)) rfl (fun w hG => hrec w (bel.step hG)) ?_
      refine Dr.callV rfl (fun w => Enters.func rfl rfl rfl (run_enter Try.func116 (by kernel_rfl) rfl)) rfl (fun w hG => with_any s (szE x) w hs.1 hs.2 hxs.1 hxs.2) ?_
      refine Dr.nil ?_
      refine FinX.done (F' := [(1, _), (4, _), (5, _), (7, _), (10, _), (11, _), (12, _), (13, _), (22, _), (29, _)]) rfl ⟨rfl, rfl, rfl, rfl, rfl, rfl, rfl, rfl, rfl, rfl, trivial⟩ ?_
      intro w8 hw8 fw8
      replace bel := bel.step hw8
      replace k4 := k4.step hw8
      replace k5 := k5.step hw8
      replace k7 := k7.step hw8
      refine Seq.storeN rfl rfl rfl rfl (m := 2) (by kernel_rfl) rfl (by repeat' first | exact trivial | apply And.intro | rfl | assumption) k5 (by simp [Value.cells]) rfl rfl ?_
      intro w9 pw9
      replace bel := bel.put k5 pw9 e5
      replace k4 := k4.put pw9 (by omega)
      replace k5 := pw9.blk
      refine Seq.nil ?_
      refine Post.weak (F' := [(1, _), (4, _), (5, _), (7, _), (10, _), (11, _), (12, _), (13, _), (22, _)]) ⟨rfl, rfl, rfl, rfl, rfl, rfl, rfl, rfl, rfl, trivial⟩ ?_
      refine Post.block_normal ?_
      refine Post.then_ ?_
      refine Cd.region ?_
      refine Seq.val (Runs.addI rfl rfl rfl (by omega) (by omega)) rfl rfl rfl ?_
      refine Seq.val (Runs.move rfl rfl) rfl rfl rfl ?_
      refine Seq.nil ?_
      refine Post.weak (F' := [(1, _), (4, _), (5, _), (7, _), (10, _), (11, _), (12, _), (13, _), (22, _)]) ⟨rfl, rfl, rfl, rfl, rfl, rfl, rfl, rfl, rfl, trivial⟩ ?_
      exact Post.round (k + 1, withS s (szE x)) ⟨rfl, rfl, rfl, rfl, rfl, rfl, trivial⟩ ⟨by simp only; omega, hws, hsz, bel, k4, k5⟩ (by simp only; omega)
  · obtain rfl : k = e.args.length := by omega
    rw [List.drop_of_length_le (Nat.le_refl _), szL_nil] at hsz
    refine Cd.exit ?_
    refine Post.then_exit ?_
    refine Post.round_exit ?_
    refine Post.block_exit ?_
    refine Post.then_ ?_
    refine Cd.seq ?_
    refine Cd.region ?_
    refine Seq.val (Runs.loadW rfl rfl Try.underlying103 rfl k5 (m := 2) (by kernel_rfl) rfl) rfl rfl rfl ?_
    refine Seq.storeN rfl rfl rfl rfl (m := 2) (by kernel_rfl) rfl (by repeat' first | exact trivial | apply And.intro | rfl | assumption) k4 (by simp [Value.cells]) rfl rfl ?_
    intro w5 pw5
    replace bel := bel.put k4 pw5 e4
    replace k5 := k5.put pw5 (by omega)
    replace k4 := pw5.blk
    refine Seq.nil ?_
    refine Post.weak (F' := [(1, _), (4, _), (5, _), (10, _), (11, _), (12, _), (13, _)]) ⟨rfl, rfl, rfl, rfl, rfl, rfl, rfl, trivial⟩ ?_
    refine Post.then_ ?_
    refine Cd.ret ?_
    refine Post.endC rfl rfl k4 Try.underlying103 rfl (m := 2) (by kernel_rfl) rfl (.inl rfl) ?_
    rw [← hsz]
    exact ⟨rfl, bel⟩
end Go.Proofs.Ytijaldpmpjapiaa

namespace Go.Proofs.Ytijaldpmpjapiaa
open Go.RowKit

/-- The first place at which a predicate holds, or -1. -/
def idxP {α : Type} (p : α → Bool) (l : List α) : Int := match l.findIdx? p with | some i => (i : Int) | none => -1
theorem idxP_some {α : Type} {p : α → Bool} {l : List α} {i : Nat} {x : α} (h : l[i]? = some x) (hp : p x = true) (hb : ∀ y ∈ l.take i, p y = false) : idxP p l = (i : Int) := by
  unfold idxP
  have : l.findIdx? p = some i := by
    rw [List.findIdx?_eq_some_iff_getElem]
    obtain ⟨hi, he⟩ := List.getElem?_eq_some_iff.1 h
    refine ⟨hi, by rw [he]; exact hp, fun j hj => ?_⟩
    have := hb (l[j]) (by rw [List.mem_take_iff_getElem]; exact ⟨j, by omega, rfl⟩)
    rw [this]; simp
  rw [this]
theorem idxP_none {α : Type} {p : α → Bool} {l : List α} (hb : ∀ y ∈ l, p y = false) : idxP p l = -1 := by
  unfold idxP
  have : l.findIdx? p = none := by rw [List.findIdx?_eq_none_iff]; exact hb
  rw [this]
theorem idxP_any {α : Type} (p : α → Bool) (l : List α) : decide (0 ≤ idxP p l) = l.any p := by
  unfold idxP
  cases h : l.findIdx? p with
  | none =>
    rw [List.findIdx?_eq_none_iff] at h
    have : l.any p = false := by rw [List.any_eq_false]; exact fun x hx => by rw [h x hx]; simp
    rw [this]; rfl
  | some i =>
    obtain ⟨hi, he, -⟩ := List.findIdx?_eq_some_iff_getElem.1 h
    have : l.any p = true := by rw [List.any_eq_true]; exact ⟨_, List.getElem_mem hi, he⟩
    rw [this]; simp
theorem indexE_any (g : Nat) (cp : List Value) (p : Ex → Bool) (B : Nat) (A : Option Addr) (c : Nat) (e : Ex) (w : World) (hv : RepV w B e A c) (hB : B ≤ w.heap.size)
    (eg : ∀ args w, (callFunc g args).run Try.prog w = .ok (.enter g args) w) (hp : ∀ x ∈ e.args, ∀ v W, Below w.heap.size w W → Rep W B x v → Calls Try.prog g ([] ++ [v] ++ cp).toArray W fun en w' => en = .returned (.bool (p x)) ∧ Grow W w') :
    Calls Try.prog 153 #[.slice A e.args.length c, .func (.func g) #[] cp.toArray] w fun en w' => en = .returned (.int .i64 (idxP p e.args)) ∧ Grow w w' := by
  have bel := Below.refl w.heap.size w
  have h60 := hv.h60
  obtain ⟨n, hn⟩ : ∃ n, n = e.args.length := ⟨_, rfl⟩
  rw [← hn] at h60 ⊢
  refine Calls.start 19 Try.func153 rfl rfl rfl ?_
  refine Cd.seq ?_
  refine Cd.region ?_
  refine Seq.val (Runs.assign rfl rfl) rfl rfl rfl ?_
  refine Seq.nil ?_
  refine Post.weak (F' := [(0, _), (1, _), (4, _)]) ⟨rfl, rfl, rfl, trivial⟩ ?_
  refine Post.then_ ?_
  refine Cd.seq ?_
  refine Cd.seq ?_
  refine Cd.region ?_
  refine Seq.val (Runs.move rfl rfl) rfl rfl rfl ?_
  refine Seq.val (Runs.len rfl rfl Try.underlying25) rfl rfl rfl ?_
  refine Seq.val (Runs.move rfl rfl) rfl rfl rfl ?_
  refine Seq.nil ?_
  refine Post.weak (F' := [(0, _), (1, _), (4, _), (7, _), (8, _)]) ⟨rfl, rfl, rfl, rfl, rfl, trivial⟩ ?_
  refine Post.then_ ?_
  refine Cd.block ?_
  refine Cd.loop (σ := Nat) (fun k => [(0, .slice A n c), (1, .func (.func g) #[] cp.toArray), (7, .int .i64 (n : Int)), (8, .int .i64 (k : Int))])
    (fun k wr => k ≤ n ∧ (∀ y ∈ e.args.take k, p y = false) ∧ Below w.heap.size w wr) (fun k => n - k) 0 ⟨Nat.zero_le _, by simp, bel⟩ ⟨rfl, rfl, rfl, rfl, trivial⟩ ?_
  clear bel
  rintro k wr ⟨hk, hno, bel⟩
  refine Cd.seq ?_
  refine Cd.region ?_
  refine Seq.val (Runs.lss rfl rfl rfl) rfl rfl rfl ?_
  refine Seq.nil ?_
  refine Post.weak (F' := [(0, _), (1, _), (7, _), (8, _), (9, _)]) ⟨rfl, rfl, rfl, rfl, rfl, trivial⟩ ?_
  refine Post.then_ ?_
  refine Cd.seq ?_
  refine Cd.condD rfl (fun hc => ?_) (fun hc => ?_)
  · obtain ⟨x, hx⟩ : ∃ x, e.args[k]? = some x := ⟨_, List.getElem?_eq_getElem (show k < e.args.length by omega)⟩
    obtain ⟨ad, A', c', rfl, hbl, hrx, hc⟩ := hv.arg k x hx
    have hc := fun j u hj => ((bel.mono hB).cell (p := (ad.add (k * 4)).add j) (by rw [block_of_add, block_of_add]; exact hbl)).trans (hc j u hj)
    have htk : e.args.take (k + 1) = e.args.take k ++ [x] := by rw [List.take_add_one, hx]; rfl
    refine Cd.skip ?_
    refine Post.then_ ?_
    refine Cd.seq ?_
    refine Cd.block ?_
    refine Cd.seq ?_
    refine Cd.region ?_
    refine Seq.val (Runs.move rfl rfl) rfl rfl rfl ?_
    refine Seq.val (Runs.assign rfl rfl) rfl rfl rfl ?_
    refine Seq.nil ?_
    refine Post.weak (F' := [(0, _), (1, _), (5, _), (7, _), (8, _), (9, _)]) ⟨rfl, rfl, rfl, rfl, rfl, rfl, trivial⟩ ?_
    refine Post.then_ ?_
    refine Cd.seq ?_
    refine Cd.region ?_
    refine Seq.val (Runs.move rfl rfl) rfl rfl rfl ?_
    refine Seq.val (Runs.move rfl rfl) rfl rfl rfl ?_
    refine Seq.val (Runs.move rfl rfl) rfl rfl rfl ?_
    refine Seq.val (Runs.indexN rfl rfl rfl Try.underlying25 (s := 4) (by kernel_rfl) (j := k) rfl (by omega)) rfl rfl rfl ?_
    refine Seq.val (Runs.loadF (ps := [.int .i64 x.op, .int .i64 x.n, .string (strOf x.name), .slice A' x.args.length c']) rfl rfl Try.underlying35 rfl (m := 4) (by kernel_rfl) rfl hc) rfl rfl rfl ?_
    refine Seq.call (Enters.value (first := []) (cap := cp) rfl rfl rfl eg) rfl rfl rfl (hp x (List.mem_of_getElem? hx) _ _ bel (hrx.below (bel.mono hB))) ?_
    rintro en w5 ⟨rfl, hb5⟩
    refine ⟨_, rfl, ?_⟩
    replace bel := bel.step hb5
    refine Seq.nil ?_
    refine Post.weak (F' := [(0, _), (1, _), (5, _), (7, _), (8, _), (9, _), (16, _)]) ⟨rfl, rfl, rfl, rfl, rfl, rfl, rfl, trivial⟩ ?_
    refine Post.then_ ?_
    refine Cd.cond rfl (fun h => ?_) (fun h => ?_)
    · skip
      refine Cd.seq ?_
      refine Cd.region ?_
      refine Seq.val (Runs.move rfl rfl) rfl rfl rfl ?_
      refine Seq.val (Runs.assign rfl rfl) rfl rfl rfl ?_
      refine Seq.nil ?_
      refine Post.weak (F' := [(0, _), (1, _), (4, _), (5, _), (7, _), (8, _), (9, _), (16, _)]) ⟨rfl, rfl, rfl, rfl, rfl, rfl, rfl, rfl, trivial⟩ ?_
      refine Post.then_ ?_
      refine Cd.ret ?_
      refine Post.block_ret ?_
      refine Post.then_ret ?_
      refine Post.round_ret ?_
      refine Post.block_ret ?_
      refine Post.then_ret ?_
      refine Post.end1 rfl rfl (.inl rfl) ?_
      exact ⟨ret1 (int_eq (idxP_some hx h hno).symm), bel⟩
    · skip
      refine Cd.skip ?_
      refine Post.block_normal ?_
      refine Post.then_ ?_
      refine Cd.region ?_
      refine Seq.val (Runs.addI rfl rfl rfl (by omega) (by omega)) rfl rfl rfl ?_
      refine Seq.val (Runs.move rfl rfl) rfl rfl rfl ?_
      refine Seq.nil ?_
      refine Post.weak (F' := [(0, _), (1, _), (5, _), (7, _), (8, _), (9, _), (16, _)]) ⟨rfl, rfl, rfl, rfl, rfl, rfl, rfl, trivial⟩ ?_
      refine Post.round (k + 1) ⟨rfl, rfl, rfl, rfl, trivial⟩ ⟨by omega, fun y hy => ?_, bel⟩ (by omega)
      rw [htk] at hy
      rcases List.mem_append.1 hy with hy | hy
      · exact hno y hy
      · simp at hy; subst hy; exact h
  · obtain rfl : k = n := by omega
    rw [List.take_of_length_le (by omega)] at hno
    refine Cd.exit ?_
    refine Post.then_exit ?_
    refine Post.round_exit ?_
    refine Post.block_exit ?_
    refine Post.then_ ?_
    refine Cd.seq ?_
    refine Cd.region ?_
    refine Seq.val (Runs.assign rfl rfl) rfl rfl rfl ?_
    refine Seq.nil ?_
    refine Post.weak (F' := [(0, _), (1, _), (4, _), (7, _), (8, _), (9, _)]) ⟨rfl, rfl, rfl, rfl, rfl, rfl, trivial⟩ ?_
    refine Post.then_ ?_
    refine Cd.ret ?_
    refine Post.end1 rfl rfl (.inl rfl) ?_
    exact ⟨ret1 (int_eq (idxP_none hno).symm), bel⟩
theorem containsE_any (g : Nat) (cp : List Value) (p : Ex → Bool) (B : Nat) (A : Option Addr) (c : Nat) (e : Ex) (w : World) (hv : RepV w B e A c) (hB : B ≤ w.heap.size)
    (eg : ∀ args w, (callFunc g args).run Try.prog w = .ok (.enter g args) w) (hp : ∀ x ∈ e.args, ∀ v W, Below w.heap.size w W → Rep W B x v → Calls Try.prog g ([] ++ [v] ++ cp).toArray W fun en w' => en = .returned (.bool (p x)) ∧ Grow W w') :
    Calls Try.prog 119 #[.slice A e.args.length c, .func (.func g) #[] cp.toArray] w fun en w' => en = .returned (.bool (e.args.any p)) ∧ Grow w w' := by
  have bel := Below.refl w.heap.size w
  have hc := fun W (hb : Below w.heap.size w W) => indexE_any g cp p B A c e W (hv.below (hb.mono hB)) (Nat.le_trans hB hb.size) eg (fun x hx v W2 hb2 hr => hp x hx v W2 (hb.trans (hb2.mono hb.size)) hr)
  have hany := idxP_any p e.args
  obtain ⟨n, hn⟩ : ∃ n, n = e.args.length := ⟨_, rfl⟩
  rw [← hn] at hc ⊢
  refine Calls.start 9 Try.func119 rfl rfl rfl ?_
  refine Cd.seq ?_
  refine Cd.region ?_
  refine Seq.val (Runs.assign rfl rfl) rfl rfl rfl ?_
  refine Seq.nil ?_
  refine Post.weak (F' := [(0, _), (1, _), (4, _)]) ⟨rfl, rfl, rfl, trivial⟩ ?_
  refine Post.then_ ?_
  refine Cd.seq ?_
  refine Cd.region ?_
  refine Seq.val (Runs.move rfl rfl) rfl rfl rfl ?_
  refine Seq.val (Runs.move rfl rfl) rfl rfl rfl ?_
  refine Seq.call (Enters.func rfl rfl rfl (run_enter Try.func153 (by kernel_rfl) rfl)) rfl rfl rfl (hc _ bel) ?_
  rintro en w5 ⟨rfl, hb5⟩
  refine ⟨_, rfl, ?_⟩
  replace bel := bel.step hb5
  refine Seq.val (Runs.geq rfl rfl rfl) rfl rfl rfl ?_
  refine Seq.val (Runs.assign rfl rfl) rfl rfl rfl ?_
  refine Seq.nil ?_
  refine Post.weak (F' := [(0, _), (1, _), (4, _)]) ⟨rfl, rfl, rfl, trivial⟩ ?_
  refine Post.then_ ?_
  refine Cd.ret ?_
  refine Post.end1 rfl rfl (.inl rfl) ?_
  exact ⟨ret1 (bool_eq hany), bel⟩
/-- Is an expression's head as it must be? -/
def headB (op n : Int) (nm : List Nat) (k : Nat) : Bool := decide (arityZ op = (k : Int)) && !(decide (n ≠ 0) && decide (op ≠ 1) && decide (op ≠ 2)) && !(decide (nm ≠ []) && decide (op ≠ 3)) && !decide (n < 0) && !(decide (op = 2) && decide (2932896 < n)) && !(decide (op = 3) && !freeB nm)
mutual
def builtB : Ex → Bool
  | .mk op n nm l => headB op n nm l.length && builtL l
def builtL : List Ex → Bool
  | [] => true
  | e :: r => builtB e && builtL r
end
theorem builtL_all : ∀ l, builtL l = l.all builtB
  | [] => by rw [builtL]; rfl
  | e :: r => by rw [builtL, builtL_all r]; rfl
theorem builtB_eq (e : Ex) : builtB e = (headB e.op e.n e.name e.args.length && e.args.all builtB) := by
  cases e; rw [builtB, builtL_all]; rfl

theorem eg_built1 : ∀ args w, (callFunc 127 args).run Try.prog w = .ok (.enter 127 args) w := fun args w => run_enter Try.func127 (by kernel_rfl) rfl args w
theorem headB_false {op n : Int} {nm : List Nat} {k : Nat} (h : ¬ (arityZ op = (k : Int) ∧ (n = 0 ∨ op = 1 ∨ op = 2) ∧ (nm = [] ∨ op = 3) ∧ 0 ≤ n ∧ (op = 2 → n ≤ 2932896) ∧ (op = 3 → freeB nm = true))) : headB op n nm k = false := by
  cases hh : headB op n nm k with
  | false => rfl
  | true =>
    exfalso
    apply h
    unfold headB at hh
    simp at hh
    obtain ⟨⟨⟨⟨⟨h1, h2⟩, h3⟩, h4⟩, h5⟩, h6⟩ := hh
    exact ⟨h1, by omega, h3, h4, by omega, fun h => by
      rcases h6 with a | a
      · exact absurd h a
      · exact a⟩
theorem headB_true {op n : Int} {nm : List Nat} {k : Nat} (h1 : arityZ op = (k : Int)) (h2 : n = 0 ∨ op = 1 ∨ op = 2) (h3 : nm = [] ∨ op = 3) (h4 : 0 ≤ n) (h5 : op = 2 → n ≤ 2932896) (h6 : op = 3 → freeB nm = true) : headB op n nm k = true := by
  unfold headB
  simp
  refine ⟨⟨⟨⟨⟨h1, by omega⟩, h3⟩, h4⟩, by omega⟩, ?_⟩
  by_cases a : op = 3
  · exact .inr (h6 a)
  · exact .inl a
theorem builtExpr_any (N : Nat) : ∀ (e : Ex) (B : Nat) (v : Value) (w : World), e.nodes ≤ N → Rep w B e v → B ≤ w.heap.size → Calls Try.prog 76 #[v] w fun en w' => en = .returned (.bool (builtB e)) ∧ Grow w w' := by
  induction N with
  | zero => intro e B v w hN; have := e.nodes_pos; omega
  | succ N ih =>
  intro e B v w hN hrep hB
  obtain ⟨A, c, rfl, hv⟩ := hrep.open
  have bel := Below.refl w.heap.size w
  have HB1 := hv.name
  have HB2 : ∀ d ∈ ([] : List Nat), d < 256 := by simp
  have hnl := hv.nlen
  have h60 := hv.h60
  have hn1 := hv.n.1
  have hn2 := hv.n.2
  have hbt := builtB_eq e
  have hcl := fun W (hb : Below w.heap.size w W) => containsE_any 127 [] (fun x => !builtB x) B A c e W (hv.below (hb.mono hB)) (Nat.le_trans hB hb.size) eg_built1 (fun x hx v W2 hb2 hr => by
    have hxn := Ex.arg_nodes hx
    have hrec := ih x B v
    have hs2 := Nat.le_trans hB (Nat.le_trans hb.size hb2.size)
    obtain ⟨Ax, cx, rfl, -⟩ := hr.open
    have bel := Below.refl W2.heap.size W2
    have hrec := fun W3 (hb3 : Below W2.heap.size W2 W3) => hrec W3 (by omega) (hr.below (hb3.mono hs2)) (Nat.le_trans hs2 hb3.size)
    generalize builtB x = q at *
    refine Calls.start 6 Try.func127 rfl rfl rfl ?_
    refine Cd.seq ?_
    refine Cd.region ?_
    refine Seq.box rfl rfl rfl rfl rfl ?_
    intro g1 w1 n1
    have e1 := Nat.le_trans bel.size n1.ge
    replace bel := bel.step n1.below
    have k1 := n1.blk
    refine Seq.val (Runs.assign rfl rfl) rfl rfl rfl ?_
    refine Seq.nil ?_
    refine Post.weak (F' := [(0, _), (1, _), (2, _)]) ⟨rfl, rfl, rfl, trivial⟩ ?_
    refine Post.then_ ?_
    refine Cd.seq ?_
    refine Cd.region ?_
    refine Seq.val (Runs.loadW rfl rfl Try.underlying35 rfl k1 (m := 4) (by kernel_rfl) rfl) rfl rfl rfl ?_
    refine Seq.call (Enters.func rfl rfl rfl (run_enter Try.func76 (by kernel_rfl) rfl)) rfl rfl rfl (hrec _ bel) ?_
    rintro en w5 ⟨rfl, hb5⟩
    refine ⟨_, rfl, ?_⟩
    replace bel := bel.step hb5
    replace k1 := k1.step hb5
    refine Seq.val (Runs.not rfl rfl) rfl rfl rfl ?_
    refine Seq.val (Runs.assign rfl rfl) rfl rfl rfl ?_
    refine Seq.nil ?_
    refine Post.weak (F' := [(0, _), (1, _), (2, _)]) ⟨rfl, rfl, rfl, trivial⟩ ?_
    refine Post.then_ ?_
    refine Cd.ret ?_
    refine Post.end1 rfl rfl (.inl rfl) ?_
    exact ⟨rfl, bel⟩)
  obtain ⟨op, hop⟩ : ∃ op, op = e.op := ⟨_, rfl⟩
  obtain ⟨n, hn⟩ : ∃ n, n = e.n := ⟨_, rfl⟩
  obtain ⟨nm, hnm⟩ : ∃ nm, nm = e.name := ⟨_, rfl⟩
  obtain ⟨k, hk⟩ : ∃ k, k = e.args.length := ⟨_, rfl⟩
  rw [← hop, ← hn, ← hnm, ← hk] at hbt
  rw [← hnm] at HB1 hnl
  rw [← hn] at hn1 hn2
  rw [← hk] at h60 hcl
  rw [← hop, ← hn, ← hnm, ← hk]
  have hbf : ∀ _ : ¬ (arityZ op = (k : Int) ∧ (n = 0 ∨ op = 1 ∨ op = 2) ∧ (nm = [] ∨ op = 3) ∧ 0 ≤ n ∧ (op = 2 → n ≤ 2932896) ∧ (op = 3 → freeB nm = true)), builtB e = false := fun h => by rw [hbt, headB_false h]; rfl
  generalize builtB e = b at *
  refine Calls.start 60 Try.func76 rfl rfl rfl ?_
  refine Cd.seq ?_
  refine Cd.region ?_
  refine Seq.box rfl rfl rfl rfl rfl ?_
  intro g1 w1 n1
  have e1 := Nat.le_trans bel.size n1.ge
  replace bel := bel.step n1.below
  have k1 := n1.blk
  refine Seq.val (Runs.assign rfl rfl) rfl rfl rfl ?_
  refine Seq.nil ?_
  refine Post.weak (F' := [(0, _), (1, _), (2, _)]) ⟨rfl, rfl, rfl, trivial⟩ ?_
  refine Post.then_ ?_
  refine Cd.seqJ (σ := Unit) (fun _ => [(1, .pointer (some ⟨g1, 0, none⟩))]) (fun _ wr => (arityZ op = (k : Int) ∧ (n = 0 ∨ op = 1 ∨ op = 2) ∧ (nm = [] ∨ op = 3)) ∧ Below w.heap.size w wr ∧ Blk wr g1 35 #[.int .i64 op, .int .i64 n, .string (strOf nm), .slice A k c]) ?_ ?_
  · skip
    by_cases h1 : arityZ op = (k : Int)
    · by_cases h2 : n = 0
      · skip
        by_cases h5 : nm = []
        · skip
          refine Cd.seq ?_
          refine Cd.draw 32 (by kernel_rfl) [] (.inl rfl) rfl Grow Grow.refl (fun _ _ _ => Grow.trans) ?_
          intro w2 hw2 zw2
          replace bel := bel.step hw2
          replace k1 := k1.step hw2
          have zbel := bel.size
          have zlt := k1.lt
          refine Dr.val Grow.refl rfl (fun w hG => Runs.fieldB 0 rfl rfl Try.underlying35 rfl (by kernel_rfl)) rfl ?_
          refine Dr.val Grow.refl rfl (fun w hG => Runs.loadB rfl rfl Try.underlying3 rfl (k1.step hG) rfl) rfl ?_
          refine Dr.callV rfl (fun w => Enters.func rfl rfl rfl (run_enter Try.func126 (by kernel_rfl) rfl)) rfl (fun w hG => arity_any op w) ?_
          refine Dr.val Grow.refl rfl (fun w hG => Runs.fieldB 3 rfl rfl Try.underlying35 rfl (by kernel_rfl)) rfl ?_
          refine Dr.val Grow.refl rfl (fun w hG => Runs.loadB rfl rfl Try.underlying25 rfl (k1.step hG) rfl) rfl ?_
          refine Dr.val Grow.refl rfl (fun w hG => Runs.len rfl rfl Try.underlying25) rfl ?_
          refine Dr.val Grow.refl rfl (fun w hG => (Runs.neqI rfl rfl rfl).isF (by omega)) rfl ?_
          refine Dr.val Grow.refl rfl (fun w hG => Runs.move rfl rfl) rfl ?_
          refine Dr.valG Grow.refl rfl (fun w hG => Runs.fieldB 1 rfl rfl Try.underlying35 rfl (by kernel_rfl)) rfl rfl rfl ?_
          refine Dr.valG Grow.refl rfl (fun w hG => Runs.loadB rfl rfl Try.underlying2 rfl (k1.step hG) rfl) rfl rfl rfl ?_
          refine Dr.valG Grow.refl rfl (fun w hG => (Runs.neqI rfl rfl rfl).isF (by omega)) rfl rfl rfl ?_
          refine Dr.valG Grow.refl rfl (fun w hG => Runs.move rfl rfl) rfl rfl rfl ?_
          refine Dr.skip rfl rfl rfl rfl rfl ?_
          refine Dr.skip rfl rfl rfl rfl rfl ?_
          refine Dr.skip rfl rfl rfl rfl rfl ?_
          refine Dr.valG Grow.refl rfl (fun w hG => Runs.pickF rfl rfl rfl) rfl rfl rfl ?_
          refine Dr.valG Grow.refl rfl (fun w hG => Runs.move rfl rfl) rfl rfl rfl ?_
          refine Dr.skip rfl rfl rfl rfl rfl ?_
          refine Dr.skip rfl rfl rfl rfl rfl ?_
          refine Dr.skip rfl rfl rfl rfl rfl ?_
          refine Dr.valG Grow.refl rfl (fun w hG => Runs.pickF rfl rfl rfl) rfl rfl rfl ?_
          refine Dr.val Grow.refl rfl (fun w hG => Runs.pickF rfl rfl rfl) rfl ?_
          refine Dr.val Grow.refl rfl (fun w hG => Runs.move rfl rfl) rfl ?_
          refine Dr.valG Grow.refl rfl (fun w hG => Runs.fieldB 2 rfl rfl Try.underlying35 rfl (by kernel_rfl)) rfl rfl rfl ?_
          refine Dr.valG Grow.refl rfl (fun w hG => Runs.loadB rfl rfl Try.underlying9 rfl (k1.step hG) rfl) rfl rfl rfl ?_
          refine Dr.valG Grow.refl rfl (fun w hG => (Runs.neqL (b := []) rfl rfl rfl HB1 HB2).isF (by simp [h5])) rfl rfl rfl ?_
          refine Dr.valG Grow.refl rfl (fun w hG => Runs.move rfl rfl) rfl rfl rfl ?_
          refine Dr.skip rfl rfl rfl rfl rfl ?_
          refine Dr.skip rfl rfl rfl rfl rfl ?_
          refine Dr.skip rfl rfl rfl rfl rfl ?_
          refine Dr.valG Grow.refl rfl (fun w hG => Runs.pickF rfl rfl rfl) rfl rfl rfl ?_
          refine Dr.val Grow.refl rfl (fun w hG => Runs.pickF rfl rfl rfl) rfl ?_
          refine Dr.nil ?_
          refine FinX.done (F' := [(0, _), (1, _), (2, _), (34, _)]) rfl ⟨rfl, rfl, rfl, rfl, trivial⟩ ?_
          intro w3 hw3 fw3
          replace bel := bel.step hw3
          replace k1 := k1.step hw3
          refine Seq.nil ?_
          refine Post.weak (F' := [(0, _), (1, _), (2, _), (34, _)]) ⟨rfl, rfl, rfl, rfl, trivial⟩ ?_
          refine Post.then_ ?_
          refine Cd.condF rfl rfl ?_
          refine Cd.skip ?_
          exact Post.join () ⟨rfl, trivial⟩ ⟨⟨h1, .inl h2, .inl h5⟩, bel, k1⟩
        · by_cases h6 : op = 3
          · skip
            refine Cd.seq ?_
            refine Cd.draw 32 (by kernel_rfl) [] (.inl rfl) rfl Grow Grow.refl (fun _ _ _ => Grow.trans) ?_
            intro w2 hw2 zw2
            replace bel := bel.step hw2
            replace k1 := k1.step hw2
            have zbel := bel.size
            have zlt := k1.lt
            refine Dr.val Grow.refl rfl (fun w hG => Runs.fieldB 0 rfl rfl Try.underlying35 rfl (by kernel_rfl)) rfl ?_
            refine Dr.val Grow.refl rfl (fun w hG => Runs.loadB rfl rfl Try.underlying3 rfl (k1.step hG) rfl) rfl ?_
            refine Dr.callV rfl (fun w => Enters.func rfl rfl rfl (run_enter Try.func126 (by kernel_rfl) rfl)) rfl (fun w hG => arity_any op w) ?_
            refine Dr.val Grow.refl rfl (fun w hG => Runs.fieldB 3 rfl rfl Try.underlying35 rfl (by kernel_rfl)) rfl ?_
            refine Dr.val Grow.refl rfl (fun w hG => Runs.loadB rfl rfl Try.underlying25 rfl (k1.step hG) rfl) rfl ?_
            refine Dr.val Grow.refl rfl (fun w hG => Runs.len rfl rfl Try.underlying25) rfl ?_
            refine Dr.val Grow.refl rfl (fun w hG => (Runs.neqI rfl rfl rfl).isF (by omega)) rfl ?_
            refine Dr.val Grow.refl rfl (fun w hG => Runs.move rfl rfl) rfl ?_
            refine Dr.valG Grow.refl rfl (fun w hG => Runs.fieldB 1 rfl rfl Try.underlying35 rfl (by kernel_rfl)) rfl rfl rfl ?_
            refine Dr.valG Grow.refl rfl (fun w hG => Runs.loadB rfl rfl Try.underlying2 rfl (k1.step hG) rfl) rfl rfl rfl ?_
            refine Dr.valG Grow.refl rfl (fun w hG => (Runs.neqI rfl rfl rfl).isF (by omega)) rfl rfl rfl ?_
            refine Dr.valG Grow.refl rfl (fun w hG => Runs.move rfl rfl) rfl rfl rfl ?_
            refine Dr.skip rfl rfl rfl rfl rfl ?_
            refine Dr.skip rfl rfl rfl rfl rfl ?_
            refine Dr.skip rfl rfl rfl rfl rfl ?_
            refine Dr.valG Grow.refl rfl (fun w hG => Runs.pickF rfl rfl rfl) rfl rfl rfl ?_
            refine Dr.valG Grow.refl rfl (fun w hG => Runs.move rfl rfl) rfl rfl rfl ?_
            refine Dr.skip rfl rfl rfl rfl rfl ?_
            refine Dr.skip rfl rfl rfl rfl rfl ?_
            refine Dr.skip rfl rfl rfl rfl rfl ?_
            refine Dr.valG Grow.refl rfl (fun w hG => Runs.pickF rfl rfl rfl) rfl rfl rfl ?_
            refine Dr.val Grow.refl rfl (fun w hG => Runs.pickF rfl rfl rfl) rfl ?_
            refine Dr.val Grow.refl rfl (fun w hG => Runs.move rfl rfl) rfl ?_
            refine Dr.valG Grow.refl rfl (fun w hG => Runs.fieldB 2 rfl rfl Try.underlying35 rfl (by kernel_rfl)) rfl rfl rfl ?_
            refine Dr.valG Grow.refl rfl (fun w hG => Runs.loadB rfl rfl Try.underlying9 rfl (k1.step hG) rfl) rfl rfl rfl ?_
            refine Dr.valG Grow.refl rfl (fun w hG => (Runs.neqL (b := []) rfl rfl rfl HB1 HB2).isT (h5)) rfl rfl rfl ?_
            refine Dr.valG Grow.refl rfl (fun w hG => Runs.move rfl rfl) rfl rfl rfl ?_
            refine Dr.valG Grow.refl rfl (fun w hG => Runs.fieldB 0 rfl rfl Try.underlying35 rfl (by kernel_rfl)) rfl rfl rfl ?_
            refine Dr.valG Grow.refl rfl (fun w hG => Runs.loadB rfl rfl Try.underlying3 rfl (k1.step hG) rfl) rfl rfl rfl ?_
            refine Dr.valG Grow.refl rfl (fun w hG => (Runs.neqI rfl rfl rfl).isF (by omega)) rfl rfl rfl ?_
            refine Dr.valG Grow.refl rfl (fun w hG => Runs.pickT rfl rfl rfl) rfl rfl rfl ?_
            refine Dr.val Grow.refl rfl (fun w hG => Runs.pickF rfl rfl rfl) rfl ?_
            refine Dr.nil ?_
            refine FinX.done (F' := [(0, _), (1, _), (2, _), (34, _)]) rfl ⟨rfl, rfl, rfl, rfl, trivial⟩ ?_
            intro w3 hw3 fw3
            replace bel := bel.step hw3
            replace k1 := k1.step hw3
            refine Seq.nil ?_
            refine Post.weak (F' := [(0, _), (1, _), (2, _), (34, _)]) ⟨rfl, rfl, rfl, rfl, trivial⟩ ?_
            refine Post.then_ ?_
            refine Cd.condF rfl rfl ?_
            refine Cd.skip ?_
            exact Post.join () ⟨rfl, trivial⟩ ⟨⟨h1, .inl h2, .inr h6⟩, bel, k1⟩
          · skip
            refine Cd.seq ?_
            refine Cd.draw 32 (by kernel_rfl) [] (.inl rfl) rfl Grow Grow.refl (fun _ _ _ => Grow.trans) ?_
            intro w2 hw2 zw2
            replace bel := bel.step hw2
            replace k1 := k1.step hw2
            have zbel := bel.size
            have zlt := k1.lt
            refine Dr.val Grow.refl rfl (fun w hG => Runs.fieldB 0 rfl rfl Try.underlying35 rfl (by kernel_rfl)) rfl ?_
            refine Dr.val Grow.refl rfl (fun w hG => Runs.loadB rfl rfl Try.underlying3 rfl (k1.step hG) rfl) rfl ?_
            refine Dr.callV rfl (fun w => Enters.func rfl rfl rfl (run_enter Try.func126 (by kernel_rfl) rfl)) rfl (fun w hG => arity_any op w) ?_
            refine Dr.val Grow.refl rfl (fun w hG => Runs.fieldB 3 rfl rfl Try.underlying35 rfl (by kernel_rfl)) rfl ?_
            refine Dr.val Grow.refl rfl (fun w hG => Runs.loadB rfl rfl Try.underlying25 rfl (k1.step hG) rfl) rfl ?_
            refine Dr.val Grow.refl rfl (fun w hG => Runs.len rfl rfl Try.underlying25) rfl ?_
            refine Dr.val Grow.refl rfl (fun w hG => (Runs.neqI rfl rfl rfl).isF (by omega)) rfl ?_
            refine Dr.val Grow.refl rfl (fun w hG => Runs.move rfl rfl) rfl ?_
            refine Dr.valG Grow.refl rfl (fun w hG => Runs.fieldB 1 rfl rfl Try.underlying35 rfl (by kernel_rfl)) rfl rfl rfl ?_
            refine Dr.valG Grow.refl rfl (fun w hG => Runs.loadB rfl rfl Try.underlying2 rfl (k1.step hG) rfl) rfl rfl rfl ?_
            refine Dr.valG Grow.refl rfl (fun w hG => (Runs.neqI rfl rfl rfl).isF (by omega)) rfl rfl rfl ?_
            refine Dr.valG Grow.refl rfl (fun w hG => Runs.move rfl rfl) rfl rfl rfl ?_
            refine Dr.skip rfl rfl rfl rfl rfl ?_
            refine Dr.skip rfl rfl rfl rfl rfl ?_
            refine Dr.skip rfl rfl rfl rfl rfl ?_
            refine Dr.valG Grow.refl rfl (fun w hG => Runs.pickF rfl rfl rfl) rfl rfl rfl ?_
            refine Dr.valG Grow.refl rfl (fun w hG => Runs.move rfl rfl) rfl rfl rfl ?_
            refine Dr.skip rfl rfl rfl rfl rfl ?_
            refine Dr.skip rfl rfl rfl rfl rfl ?_
            refine Dr.skip rfl rfl rfl rfl rfl ?_
            refine Dr.valG Grow.refl rfl (fun w hG => Runs.pickF rfl rfl rfl) rfl rfl rfl ?_
            refine Dr.val Grow.refl rfl (fun w hG => Runs.pickF rfl rfl rfl) rfl ?_
            refine Dr.val Grow.refl rfl (fun w hG => Runs.move rfl rfl) rfl ?_
            refine Dr.valG Grow.refl rfl (fun w hG => Runs.fieldB 2 rfl rfl Try.underlying35 rfl (by kernel_rfl)) rfl rfl rfl ?_
            refine Dr.valG Grow.refl rfl (fun w hG => Runs.loadB rfl rfl Try.underlying9 rfl (k1.step hG) rfl) rfl rfl rfl ?_
            refine Dr.valG Grow.refl rfl (fun w hG => (Runs.neqL (b := []) rfl rfl rfl HB1 HB2).isT (h5)) rfl rfl rfl ?_
            refine Dr.valG Grow.refl rfl (fun w hG => Runs.move rfl rfl) rfl rfl rfl ?_
            refine Dr.valG Grow.refl rfl (fun w hG => Runs.fieldB 0 rfl rfl Try.underlying35 rfl (by kernel_rfl)) rfl rfl rfl ?_
            refine Dr.valG Grow.refl rfl (fun w hG => Runs.loadB rfl rfl Try.underlying3 rfl (k1.step hG) rfl) rfl rfl rfl ?_
            refine Dr.valG Grow.refl rfl (fun w hG => (Runs.neqI rfl rfl rfl).isT (h6)) rfl rfl rfl ?_
            refine Dr.valG Grow.refl rfl (fun w hG => Runs.pickT rfl rfl rfl) rfl rfl rfl ?_
            refine Dr.val Grow.refl rfl (fun w hG => Runs.pickF rfl rfl rfl) rfl ?_
            refine Dr.nil ?_
            refine FinX.done (F' := [(0, _), (1, _), (2, _), (34, _)]) rfl ⟨rfl, rfl, rfl, rfl, trivial⟩ ?_
            intro w3 hw3 fw3
            replace bel := bel.step hw3
            replace k1 := k1.step hw3
            refine Seq.nil ?_
            refine Post.weak (F' := [(0, _), (1, _), (2, _), (34, _)]) ⟨rfl, rfl, rfl, rfl, trivial⟩ ?_
            refine Post.then_ ?_
            refine Cd.condT rfl rfl ?_
            refine Cd.seq ?_
            refine Cd.region ?_
            refine Seq.val (Runs.assign rfl rfl) rfl rfl rfl ?_
            refine Seq.nil ?_
            refine Post.weak (F' := [(0, _), (1, _), (2, _), (34, _)]) ⟨rfl, rfl, rfl, rfl, trivial⟩ ?_
            refine Post.then_ ?_
            refine Cd.ret ?_
            refine Post.then_ret ?_
            refine Post.end1 rfl rfl (.inl rfl) ?_
            rw [hbf (by rintro ⟨-, -, h, -⟩; rcases h with h | h; exact h5 h; exact h6 h)]
            exact ⟨rfl, bel⟩
      · by_cases h3 : op = 1
        · skip
          by_cases h5 : nm = []
          · skip
            refine Cd.seq ?_
            refine Cd.draw 32 (by kernel_rfl) [] (.inl rfl) rfl Grow Grow.refl (fun _ _ _ => Grow.trans) ?_
            intro w2 hw2 zw2
            replace bel := bel.step hw2
            replace k1 := k1.step hw2
            have zbel := bel.size
            have zlt := k1.lt
            refine Dr.val Grow.refl rfl (fun w hG => Runs.fieldB 0 rfl rfl Try.underlying35 rfl (by kernel_rfl)) rfl ?_
            refine Dr.val Grow.refl rfl (fun w hG => Runs.loadB rfl rfl Try.underlying3 rfl (k1.step hG) rfl) rfl ?_
            refine Dr.callV rfl (fun w => Enters.func rfl rfl rfl (run_enter Try.func126 (by kernel_rfl) rfl)) rfl (fun w hG => arity_any op w) ?_
            refine Dr.val Grow.refl rfl (fun w hG => Runs.fieldB 3 rfl rfl Try.underlying35 rfl (by kernel_rfl)) rfl ?_
            refine Dr.val Grow.refl rfl (fun w hG => Runs.loadB rfl rfl Try.underlying25 rfl (k1.step hG) rfl) rfl ?_
            refine Dr.val Grow.refl rfl (fun w hG => Runs.len rfl rfl Try.underlying25) rfl ?_
            refine Dr.val Grow.refl rfl (fun w hG => (Runs.neqI rfl rfl rfl).isF (by omega)) rfl ?_
            refine Dr.val Grow.refl rfl (fun w hG => Runs.move rfl rfl) rfl ?_
            refine Dr.valG Grow.refl rfl (fun w hG => Runs.fieldB 1 rfl rfl Try.underlying35 rfl (by kernel_rfl)) rfl rfl rfl ?_
            refine Dr.valG Grow.refl rfl (fun w hG => Runs.loadB rfl rfl Try.underlying2 rfl (k1.step hG) rfl) rfl rfl rfl ?_
            refine Dr.valG Grow.refl rfl (fun w hG => (Runs.neqI rfl rfl rfl).isT (h2)) rfl rfl rfl ?_
            refine Dr.valG Grow.refl rfl (fun w hG => Runs.move rfl rfl) rfl rfl rfl ?_
            refine Dr.valG Grow.refl rfl (fun w hG => Runs.fieldB 0 rfl rfl Try.underlying35 rfl (by kernel_rfl)) rfl rfl rfl ?_
            refine Dr.valG Grow.refl rfl (fun w hG => Runs.loadB rfl rfl Try.underlying3 rfl (k1.step hG) rfl) rfl rfl rfl ?_
            refine Dr.valG Grow.refl rfl (fun w hG => (Runs.neqI rfl rfl rfl).isF (by omega)) rfl rfl rfl ?_
            refine Dr.valG Grow.refl rfl (fun w hG => Runs.pickT rfl rfl rfl) rfl rfl rfl ?_
            refine Dr.valG Grow.refl rfl (fun w hG => Runs.move rfl rfl) rfl rfl rfl ?_
            refine Dr.skip rfl rfl rfl rfl rfl ?_
            refine Dr.skip rfl rfl rfl rfl rfl ?_
            refine Dr.skip rfl rfl rfl rfl rfl ?_
            refine Dr.valG Grow.refl rfl (fun w hG => Runs.pickF rfl rfl rfl) rfl rfl rfl ?_
            refine Dr.val Grow.refl rfl (fun w hG => Runs.pickF rfl rfl rfl) rfl ?_
            refine Dr.val Grow.refl rfl (fun w hG => Runs.move rfl rfl) rfl ?_
            refine Dr.valG Grow.refl rfl (fun w hG => Runs.fieldB 2 rfl rfl Try.underlying35 rfl (by kernel_rfl)) rfl rfl rfl ?_
            refine Dr.valG Grow.refl rfl (fun w hG => Runs.loadB rfl rfl Try.underlying9 rfl (k1.step hG) rfl) rfl rfl rfl ?_
            refine Dr.valG Grow.refl rfl (fun w hG => (Runs.neqL (b := []) rfl rfl rfl HB1 HB2).isF (by simp [h5])) rfl rfl rfl ?_
            refine Dr.valG Grow.refl rfl (fun w hG => Runs.move rfl rfl) rfl rfl rfl ?_
            refine Dr.skip rfl rfl rfl rfl rfl ?_
            refine Dr.skip rfl rfl rfl rfl rfl ?_
            refine Dr.skip rfl rfl rfl rfl rfl ?_
            refine Dr.valG Grow.refl rfl (fun w hG => Runs.pickF rfl rfl rfl) rfl rfl rfl ?_
            refine Dr.val Grow.refl rfl (fun w hG => Runs.pickF rfl rfl rfl) rfl ?_
            refine Dr.nil ?_
            refine FinX.done (F' := [(0, _), (1, _), (2, _), (34, _)]) rfl ⟨rfl, rfl, rfl, rfl, trivial⟩ ?_
            intro w3 hw3 fw3
            replace bel := bel.step hw3
            replace k1 := k1.step hw3
            refine Seq.nil ?_
            refine Post.weak (F' := [(0, _), (1, _), (2, _), (34, _)]) ⟨rfl, rfl, rfl, rfl, trivial⟩ ?_
            refine Post.then_ ?_
            refine Cd.condF rfl rfl ?_
            refine Cd.skip ?_
            exact Post.join () ⟨rfl, trivial⟩ ⟨⟨h1, .inr (.inl h3), .inl h5⟩, bel, k1⟩
          · by_cases h6 : op = 3
            · skip
              refine Cd.seq ?_
              refine Cd.draw 32 (by kernel_rfl) [] (.inl rfl) rfl Grow Grow.refl (fun _ _ _ => Grow.trans) ?_
              intro w2 hw2 zw2
              replace bel := bel.step hw2
              replace k1 := k1.step hw2
              have zbel := bel.size
              have zlt := k1.lt
              refine Dr.val Grow.refl rfl (fun w hG => Runs.fieldB 0 rfl rfl Try.underlying35 rfl (by kernel_rfl)) rfl ?_
              refine Dr.val Grow.refl rfl (fun w hG => Runs.loadB rfl rfl Try.underlying3 rfl (k1.step hG) rfl) rfl ?_
              refine Dr.callV rfl (fun w => Enters.func rfl rfl rfl (run_enter Try.func126 (by kernel_rfl) rfl)) rfl (fun w hG => arity_any op w) ?_
              refine Dr.val Grow.refl rfl (fun w hG => Runs.fieldB 3 rfl rfl Try.underlying35 rfl (by kernel_rfl)) rfl ?_
              refine Dr.val Grow.refl rfl (fun w hG => Runs.loadB rfl rfl Try.underlying25 rfl (k1.step hG) rfl) rfl ?_
              refine Dr.val Grow.refl rfl (fun w hG => Runs.len rfl rfl Try.underlying25) rfl ?_
              refine Dr.val Grow.refl rfl (fun w hG => (Runs.neqI rfl rfl rfl).isF (by omega)) rfl ?_
              refine Dr.val Grow.refl rfl (fun w hG => Runs.move rfl rfl) rfl ?_
              refine Dr.valG Grow.refl rfl (fun w hG => Runs.fieldB 1 rfl rfl Try.underlying35 rfl (by kernel_rfl)) rfl rfl rfl ?_
              refine Dr.valG Grow.refl rfl (fun w hG => Runs.loadB rfl rfl Try.underlying2 rfl (k1.step hG) rfl) rfl rfl rfl ?_
              refine Dr.valG Grow.refl rfl (fun w hG => (Runs.neqI rfl rfl rfl).isT (h2)) rfl rfl rfl ?_
              refine Dr.valG Grow.refl rfl (fun w hG => Runs.move rfl rfl) rfl rfl rfl ?_
              refine Dr.valG Grow.refl rfl (fun w hG => Runs.fieldB 0 rfl rfl Try.underlying35 rfl (by kernel_rfl)) rfl rfl rfl ?_
              refine Dr.valG Grow.refl rfl (fun w hG => Runs.loadB rfl rfl Try.underlying3 rfl (k1.step hG) rfl) rfl rfl rfl ?_
              refine Dr.valG Grow.refl rfl (fun w hG => (Runs.neqI rfl rfl rfl).isF (by omega)) rfl rfl rfl ?_
              refine Dr.valG Grow.refl rfl (fun w hG => Runs.pickT rfl rfl rfl) rfl rfl rfl ?_
              refine Dr.valG Grow.refl rfl (fun w hG => Runs.move rfl rfl) rfl rfl rfl ?_
              refine Dr.skip rfl rfl rfl rfl rfl ?_
              refine Dr.skip rfl rfl rfl rfl rfl ?_
              refine Dr.skip rfl rfl rfl rfl rfl ?_
              refine Dr.valG Grow.refl rfl (fun w hG => Runs.pickF rfl rfl rfl) rfl rfl rfl ?_
              refine Dr.val Grow.refl rfl (fun w hG => Runs.pickF rfl rfl rfl) rfl ?_
              refine Dr.val Grow.refl rfl (fun w hG => Runs.move rfl rfl) rfl ?_
              refine Dr.valG Grow.refl rfl (fun w hG => Runs.fieldB 2 rfl rfl Try.underlying35 rfl (by kernel_rfl)) rfl rfl rfl ?_
              refine Dr.valG Grow.refl rfl (fun w hG => Runs.loadB rfl rfl Try.underlying9 rfl (k1.step hG) rfl) rfl rfl rfl ?_
              refine Dr.valG Grow.refl rfl (fun w hG => (Runs.neqL (b := []) rfl rfl rfl HB1 HB2).isT (h5)) rfl rfl rfl ?_
              refine Dr.valG Grow.refl rfl (fun w hG => Runs.move rfl rfl) rfl rfl rfl ?_
              refine Dr.valG Grow.refl rfl (fun w hG => Runs.fieldB 0 rfl rfl Try.underlying35 rfl (by kernel_rfl)) rfl rfl rfl ?_
              refine Dr.valG Grow.refl rfl (fun w hG => Runs.loadB rfl rfl Try.underlying3 rfl (k1.step hG) rfl) rfl rfl rfl ?_
              refine Dr.valG Grow.refl rfl (fun w hG => (Runs.neqI rfl rfl rfl).isF (by omega)) rfl rfl rfl ?_
              refine Dr.valG Grow.refl rfl (fun w hG => Runs.pickT rfl rfl rfl) rfl rfl rfl ?_
              refine Dr.val Grow.refl rfl (fun w hG => Runs.pickF rfl rfl rfl) rfl ?_
              refine Dr.nil ?_
              refine FinX.done (F' := [(0, _), (1, _), (2, _), (34, _)]) rfl ⟨rfl, rfl, rfl, rfl, trivial⟩ ?_
              intro w3 hw3 fw3
              replace bel := bel.step hw3
              replace k1 := k1.step hw3
              refine Seq.nil ?_
              refine Post.weak (F' := [(0, _), (1, _), (2, _), (34, _)]) ⟨rfl, rfl, rfl, rfl, trivial⟩ ?_
              refine Post.then_ ?_
              refine Cd.condF rfl rfl ?_
              refine Cd.skip ?_
              exact Post.join () ⟨rfl, trivial⟩ ⟨⟨h1, .inr (.inl h3), .inr h6⟩, bel, k1⟩
            · skip
              refine Cd.seq ?_
              refine Cd.draw 32 (by kernel_rfl) [] (.inl rfl) rfl Grow Grow.refl (fun _ _ _ => Grow.trans) ?_
              intro w2 hw2 zw2
              replace bel := bel.step hw2
              replace k1 := k1.step hw2
              have zbel := bel.size
              have zlt := k1.lt
              refine Dr.val Grow.refl rfl (fun w hG => Runs.fieldB 0 rfl rfl Try.underlying35 rfl (by kernel_rfl)) rfl ?_
              refine Dr.val Grow.refl rfl (fun w hG => Runs.loadB rfl rfl Try.underlying3 rfl (k1.step hG) rfl) rfl ?_
              refine Dr.callV rfl (fun w => Enters.func rfl rfl rfl (run_enter Try.func126 (by kernel_rfl) rfl)) rfl (fun w hG => arity_any op w) ?_
              refine Dr.val Grow.refl rfl (fun w hG => Runs.fieldB 3 rfl rfl Try.underlying35 rfl (by kernel_rfl)) rfl ?_
              refine Dr.val Grow.refl rfl (fun w hG => Runs.loadB rfl rfl Try.underlying25 rfl (k1.step hG) rfl) rfl ?_
              refine Dr.val Grow.refl rfl (fun w hG => Runs.len rfl rfl Try.underlying25) rfl ?_
              refine Dr.val Grow.refl rfl (fun w hG => (Runs.neqI rfl rfl rfl).isF (by omega)) rfl ?_
              refine Dr.val Grow.refl rfl (fun w hG => Runs.move rfl rfl) rfl ?_
              refine Dr.valG Grow.refl rfl (fun w hG => Runs.fieldB 1 rfl rfl Try.underlying35 rfl (by kernel_rfl)) rfl rfl rfl ?_
              refine Dr.valG Grow.refl rfl (fun w hG => Runs.loadB rfl rfl Try.underlying2 rfl (k1.step hG) rfl) rfl rfl rfl ?_
              refine Dr.valG Grow.refl rfl (fun w hG => (Runs.neqI rfl rfl rfl).isT (h2)) rfl rfl rfl ?_
              refine Dr.valG Grow.refl rfl (fun w hG => Runs.move rfl rfl) rfl rfl rfl ?_
              refine Dr.valG Grow.refl rfl (fun w hG => Runs.fieldB 0 rfl rfl Try.underlying35 rfl (by kernel_rfl)) rfl rfl rfl ?_
              refine Dr.valG Grow.refl rfl (fun w hG => Runs.loadB rfl rfl Try.underlying3 rfl (k1.step hG) rfl) rfl rfl rfl ?_
              refine Dr.valG Grow.refl rfl (fun w hG => (Runs.neqI rfl rfl rfl).isF (by omega)) rfl rfl rfl ?_
              refine Dr.valG Grow.refl rfl (fun w hG => Runs.pickT rfl rfl rfl) rfl rfl rfl ?_
              refine Dr.valG Grow.refl rfl (fun w hG => Runs.move rfl rfl) rfl rfl rfl ?_
              refine Dr.skip rfl rfl rfl rfl rfl ?_
              refine Dr.skip rfl rfl rfl rfl rfl ?_
              refine Dr.skip rfl rfl rfl rfl rfl ?_
              refine Dr.valG Grow.refl rfl (fun w hG => Runs.pickF rfl rfl rfl) rfl rfl rfl ?_
              refine Dr.val Grow.refl rfl (fun w hG => Runs.pickF rfl rfl rfl) rfl ?_
              refine Dr.val Grow.refl rfl (fun w hG => Runs.move rfl rfl) rfl ?_
              refine Dr.valG Grow.refl rfl (fun w hG => Runs.fieldB 2 rfl rfl Try.underlying35 rfl (by kernel_rfl)) rfl rfl rfl ?_
              refine Dr.valG Grow.refl rfl (fun w hG => Runs.loadB rfl rfl Try.underlying9 rfl (k1.step hG) rfl) rfl rfl rfl ?_
              refine Dr.valG Grow.refl rfl (fun w hG => (Runs.neqL (b := []) rfl rfl rfl HB1 HB2).isT (h5)) rfl rfl rfl ?_
              refine Dr.valG Grow.refl rfl (fun w hG => Runs.move rfl rfl) rfl rfl rfl ?_
              refine Dr.valG Grow.refl rfl (fun w hG => Runs.fieldB 0 rfl rfl Try.underlying35 rfl (by kernel_rfl)) rfl rfl rfl ?_
              refine Dr.valG Grow.refl rfl (fun w hG => Runs.loadB rfl rfl Try.underlying3 rfl (k1.step hG) rfl) rfl rfl rfl ?_
              refine Dr.valG Grow.refl rfl (fun w hG => (Runs.neqI rfl rfl rfl).isT (h6)) rfl rfl rfl ?_
              refine Dr.valG Grow.refl rfl (fun w hG => Runs.pickT rfl rfl rfl) rfl rfl rfl ?_
              refine Dr.val Grow.refl rfl (fun w hG => Runs.pickF rfl rfl rfl) rfl ?_
              refine Dr.nil ?_
              refine FinX.done (F' := [(0, _), (1, _), (2, _), (34, _)]) rfl ⟨rfl, rfl, rfl, rfl, trivial⟩ ?_
              intro w3 hw3 fw3
              replace bel := bel.step hw3
              replace k1 := k1.step hw3
              refine Seq.nil ?_
              refine Post.weak (F' := [(0, _), (1, _), (2, _), (34, _)]) ⟨rfl, rfl, rfl, rfl, trivial⟩ ?_
              refine Post.then_ ?_
              refine Cd.condT rfl rfl ?_
              refine Cd.seq ?_
              refine Cd.region ?_
              refine Seq.val (Runs.assign rfl rfl) rfl rfl rfl ?_
              refine Seq.nil ?_
              refine Post.weak (F' := [(0, _), (1, _), (2, _), (34, _)]) ⟨rfl, rfl, rfl, rfl, trivial⟩ ?_
              refine Post.then_ ?_
              refine Cd.ret ?_
              refine Post.then_ret ?_
              refine Post.end1 rfl rfl (.inl rfl) ?_
              rw [hbf (by rintro ⟨-, -, h, -⟩; rcases h with h | h; exact h5 h; exact h6 h)]
              exact ⟨rfl, bel⟩
        · by_cases h4 : op = 2
          · skip
            by_cases h5 : nm = []
            · skip
              refine Cd.seq ?_
              refine Cd.draw 32 (by kernel_rfl) [] (.inl rfl) rfl Grow Grow.refl (fun _ _ _ => Grow.trans) ?_
              intro w2 hw2 zw2
              replace bel := bel.step hw2
              replace k1 := k1.step hw2
              have zbel := bel.size
              have zlt := k1.lt
              refine Dr.val Grow.refl rfl (fun w hG => Runs.fieldB 0 rfl rfl Try.underlying35 rfl (by kernel_rfl)) rfl ?_
              refine Dr.val Grow.refl rfl (fun w hG => Runs.loadB rfl rfl Try.underlying3 rfl (k1.step hG) rfl) rfl ?_
              refine Dr.callV rfl (fun w => Enters.func rfl rfl rfl (run_enter Try.func126 (by kernel_rfl) rfl)) rfl (fun w hG => arity_any op w) ?_
              refine Dr.val Grow.refl rfl (fun w hG => Runs.fieldB 3 rfl rfl Try.underlying35 rfl (by kernel_rfl)) rfl ?_
              refine Dr.val Grow.refl rfl (fun w hG => Runs.loadB rfl rfl Try.underlying25 rfl (k1.step hG) rfl) rfl ?_
              refine Dr.val Grow.refl rfl (fun w hG => Runs.len rfl rfl Try.underlying25) rfl ?_
              refine Dr.val Grow.refl rfl (fun w hG => (Runs.neqI rfl rfl rfl).isF (by omega)) rfl ?_
              refine Dr.val Grow.refl rfl (fun w hG => Runs.move rfl rfl) rfl ?_
              refine Dr.valG Grow.refl rfl (fun w hG => Runs.fieldB 1 rfl rfl Try.underlying35 rfl (by kernel_rfl)) rfl rfl rfl ?_
              refine Dr.valG Grow.refl rfl (fun w hG => Runs.loadB rfl rfl Try.underlying2 rfl (k1.step hG) rfl) rfl rfl rfl ?_
              refine Dr.valG Grow.refl rfl (fun w hG => (Runs.neqI rfl rfl rfl).isT (h2)) rfl rfl rfl ?_
              refine Dr.valG Grow.refl rfl (fun w hG => Runs.move rfl rfl) rfl rfl rfl ?_
              refine Dr.valG Grow.refl rfl (fun w hG => Runs.fieldB 0 rfl rfl Try.underlying35 rfl (by kernel_rfl)) rfl rfl rfl ?_
              refine Dr.valG Grow.refl rfl (fun w hG => Runs.loadB rfl rfl Try.underlying3 rfl (k1.step hG) rfl) rfl rfl rfl ?_
              refine Dr.valG Grow.refl rfl (fun w hG => (Runs.neqI rfl rfl rfl).isT (h3)) rfl rfl rfl ?_
              refine Dr.valG Grow.refl rfl (fun w hG => Runs.pickT rfl rfl rfl) rfl rfl rfl ?_
              refine Dr.valG Grow.refl rfl (fun w hG => Runs.move rfl rfl) rfl rfl rfl ?_
              refine Dr.valG Grow.refl rfl (fun w hG => Runs.fieldB 0 rfl rfl Try.underlying35 rfl (by kernel_rfl)) rfl rfl rfl ?_
              refine Dr.valG Grow.refl rfl (fun w hG => Runs.loadB rfl rfl Try.underlying3 rfl (k1.step hG) rfl) rfl rfl rfl ?_
              refine Dr.valG Grow.refl rfl (fun w hG => (Runs.neqI rfl rfl rfl).isF (by omega)) rfl rfl rfl ?_
              refine Dr.valG Grow.refl rfl (fun w hG => Runs.pickT rfl rfl rfl) rfl rfl rfl ?_
              refine Dr.val Grow.refl rfl (fun w hG => Runs.pickF rfl rfl rfl) rfl ?_
              refine Dr.val Grow.refl rfl (fun w hG => Runs.move rfl rfl) rfl ?_
              refine Dr.valG Grow.refl rfl (fun w hG => Runs.fieldB 2 rfl rfl Try.underlying35 rfl (by kernel_rfl)) rfl rfl rfl ?_
              refine Dr.valG Grow.refl rfl (fun w hG => Runs.loadB rfl rfl Try.underlying9 rfl (k1.step hG) rfl) rfl rfl rfl ?_
              refine Dr.valG Grow.refl rfl (fun w hG => (Runs.neqL (b := []) rfl rfl rfl HB1 HB2).isF (by simp [h5])) rfl rfl rfl ?_
              refine Dr.valG Grow.refl rfl (fun w hG => Runs.move rfl rfl) rfl rfl rfl ?_
              refine Dr.skip rfl rfl rfl rfl rfl ?_
              refine Dr.skip rfl rfl rfl rfl rfl ?_
              refine Dr.skip rfl rfl rfl rfl rfl ?_
              refine Dr.valG Grow.refl rfl (fun w hG => Runs.pickF rfl rfl rfl) rfl rfl rfl ?_
              refine Dr.val Grow.refl rfl (fun w hG => Runs.pickF rfl rfl rfl) rfl ?_
              refine Dr.nil ?_
              refine FinX.done (F' := [(0, _), (1, _), (2, _), (34, _)]) rfl ⟨rfl, rfl, rfl, rfl, trivial⟩ ?_
              intro w3 hw3 fw3
              replace bel := bel.step hw3
              replace k1 := k1.step hw3
              refine Seq.nil ?_
              refine Post.weak (F' := [(0, _), (1, _), (2, _), (34, _)]) ⟨rfl, rfl, rfl, rfl, trivial⟩ ?_
              refine Post.then_ ?_
              refine Cd.condF rfl rfl ?_
              refine Cd.skip ?_
              exact Post.join () ⟨rfl, trivial⟩ ⟨⟨h1, .inr (.inr h4), .inl h5⟩, bel, k1⟩
            · by_cases h6 : op = 3
              · skip
                refine Cd.seq ?_
                refine Cd.draw 32 (by kernel_rfl) [] (.inl rfl) rfl Grow Grow.refl (fun _ _ _ => Grow.trans) ?_
                intro w2 hw2 zw2
                replace bel := bel.step hw2
                replace k1 := k1.step hw2
                have zbel := bel.size
                have zlt := k1.lt
                refine Dr.val Grow.refl rfl (fun w hG => Runs.fieldB 0 rfl rfl Try.underlying35 rfl (by kernel_rfl)) rfl ?_
                refine Dr.val Grow.refl rfl (fun w hG => Runs.loadB rfl rfl Try.underlying3 rfl (k1.step hG) rfl) rfl ?_
                refine Dr.callV rfl (fun w => Enters.func rfl rfl rfl (run_enter Try.func126 (by kernel_rfl) rfl)) rfl (fun w hG => arity_any op w) ?_
                refine Dr.val Grow.refl rfl (fun w hG => Runs.fieldB 3 rfl rfl Try.underlying35 rfl (by kernel_rfl)) rfl ?_
                refine Dr.val Grow.refl rfl (fun w hG => Runs.loadB rfl rfl Try.underlying25 rfl (k1.step hG) rfl) rfl ?_
                refine Dr.val Grow.refl rfl (fun w hG => Runs.len rfl rfl Try.underlying25) rfl ?_
                refine Dr.val Grow.refl rfl (fun w hG => (Runs.neqI rfl rfl rfl).isF (by omega)) rfl ?_
                refine Dr.val Grow.refl rfl (fun w hG => Runs.move rfl rfl) rfl ?_
                refine Dr.valG Grow.refl rfl (fun w hG => Runs.fieldB 1 rfl rfl Try.underlying35 rfl (by kernel_rfl)) rfl rfl rfl ?_
                refine Dr.valG Grow.refl rfl (fun w hG => Runs.loadB rfl rfl Try.underlying2 rfl (k1.step hG) rfl) rfl rfl rfl ?_
                refine Dr.valG Grow.refl rfl (fun w hG => (Runs.neqI rfl rfl rfl).isT (h2)) rfl rfl rfl ?_
                refine Dr.valG Grow.refl rfl (fun w hG => Runs.move rfl rfl) rfl rfl rfl ?_
                refine Dr.valG Grow.refl rfl (fun w hG => Runs.fieldB 0 rfl rfl Try.underlying35 rfl (by kernel_rfl)) rfl rfl rfl ?_
                refine Dr.valG Grow.refl rfl (fun w hG => Runs.loadB rfl rfl Try.underlying3 rfl (k1.step hG) rfl) rfl rfl rfl ?_
                refine Dr.valG Grow.refl rfl (fun w hG => (Runs.neqI rfl rfl rfl).isT (h3)) rfl rfl rfl ?_
                refine Dr.valG Grow.refl rfl (fun w hG => Runs.pickT rfl rfl rfl) rfl rfl rfl ?_
                refine Dr.valG Grow.refl rfl (fun w hG => Runs.move rfl rfl) rfl rfl rfl ?_
                refine Dr.valG Grow.refl rfl (fun w hG => Runs.fieldB 0 rfl rfl Try.underlying35 rfl (by kernel_rfl)) rfl rfl rfl ?_
                refine Dr.valG Grow.refl rfl (fun w hG => Runs.loadB rfl rfl Try.underlying3 rfl (k1.step hG) rfl) rfl rfl rfl ?_
                refine Dr.valG Grow.refl rfl (fun w hG => (Runs.neqI rfl rfl rfl).isF (by omega)) rfl rfl rfl ?_
                refine Dr.valG Grow.refl rfl (fun w hG => Runs.pickT rfl rfl rfl) rfl rfl rfl ?_
                refine Dr.val Grow.refl rfl (fun w hG => Runs.pickF rfl rfl rfl) rfl ?_
                refine Dr.val Grow.refl rfl (fun w hG => Runs.move rfl rfl) rfl ?_
                refine Dr.valG Grow.refl rfl (fun w hG => Runs.fieldB 2 rfl rfl Try.underlying35 rfl (by kernel_rfl)) rfl rfl rfl ?_
                refine Dr.valG Grow.refl rfl (fun w hG => Runs.loadB rfl rfl Try.underlying9 rfl (k1.step hG) rfl) rfl rfl rfl ?_
                refine Dr.valG Grow.refl rfl (fun w hG => (Runs.neqL (b := []) rfl rfl rfl HB1 HB2).isT (h5)) rfl rfl rfl ?_
                refine Dr.valG Grow.refl rfl (fun w hG => Runs.move rfl rfl) rfl rfl rfl ?_
                refine Dr.valG Grow.refl rfl (fun w hG => Runs.fieldB 0 rfl rfl Try.underlying35 rfl (by kernel_rfl)) rfl rfl rfl ?_
                refine Dr.valG Grow.refl rfl (fun w hG => Runs.loadB rfl rfl Try.underlying3 rfl (k1.step hG) rfl) rfl rfl rfl ?_
                refine Dr.valG Grow.refl rfl (fun w hG => (Runs.neqI rfl rfl rfl).isF (by omega)) rfl rfl rfl ?_
                refine Dr.valG Grow.refl rfl (fun w hG => Runs.pickT rfl rfl rfl) rfl rfl rfl ?_
                refine Dr.val Grow.refl rfl (fun w hG => Runs.pickF rfl rfl rfl) rfl ?_
                refine Dr.nil ?_
                refine FinX.done (F' := [(0, _), (1, _), (2, _), (34, _)]) rfl ⟨rfl, rfl, rfl, rfl, trivial⟩ ?_
                intro w3 hw3 fw3
                replace bel := bel.step hw3
                replace k1 := k1.step hw3
                refine Seq.nil ?_
                refine Post.weak (F' := [(0, _), (1, _), (2, _), (34, _)]) ⟨rfl, rfl, rfl, rfl, trivial⟩ ?_
                refine Post.then_ ?_
                refine Cd.condF rfl rfl ?_
                refine Cd.skip ?_
                exact Post.join () ⟨rfl, trivial⟩ ⟨⟨h1, .inr (.inr h4), .inr h6⟩, bel, k1⟩
              · skip
                refine Cd.seq ?_
                refine Cd.draw 32 (by kernel_rfl) [] (.inl rfl) rfl Grow Grow.refl (fun _ _ _ => Grow.trans) ?_
                intro w2 hw2 zw2
                replace bel := bel.step hw2
                replace k1 := k1.step hw2
                have zbel := bel.size
                have zlt := k1.lt
                refine Dr.val Grow.refl rfl (fun w hG => Runs.fieldB 0 rfl rfl Try.underlying35 rfl (by kernel_rfl)) rfl ?_
                refine Dr.val Grow.refl rfl (fun w hG => Runs.loadB rfl rfl Try.underlying3 rfl (k1.step hG) rfl) rfl ?_
                refine Dr.callV rfl (fun w => Enters.func rfl rfl rfl (run_enter Try.func126 (by kernel_rfl) rfl)) rfl (fun w hG => arity_any op w) ?_
                refine Dr.val Grow.refl rfl (fun w hG => Runs.fieldB 3 rfl rfl Try.underlying35 rfl (by kernel_rfl)) rfl ?_
                refine Dr.val Grow.refl rfl (fun w hG => Runs.loadB rfl rfl Try.underlying25 rfl (k1.step hG) rfl) rfl ?_
                refine Dr.val Grow.refl rfl (fun w hG => Runs.len rfl rfl Try.underlying25) rfl ?_
                refine Dr.val Grow.refl rfl (fun w hG => (Runs.neqI rfl rfl rfl).isF (by omega)) rfl ?_
                refine Dr.val Grow.refl rfl (fun w hG => Runs.move rfl rfl) rfl ?_
                refine Dr.valG Grow.refl rfl (fun w hG => Runs.fieldB 1 rfl rfl Try.underlying35 rfl (by kernel_rfl)) rfl rfl rfl ?_
                refine Dr.valG Grow.refl rfl (fun w hG => Runs.loadB rfl rfl Try.underlying2 rfl (k1.step hG) rfl) rfl rfl rfl ?_
                refine Dr.valG Grow.refl rfl (fun w hG => (Runs.neqI rfl rfl rfl).isT (h2)) rfl rfl rfl ?_
                refine Dr.valG Grow.refl rfl (fun w hG => Runs.move rfl rfl) rfl rfl rfl ?_
                refine Dr.valG Grow.refl rfl (fun w hG => Runs.fieldB 0 rfl rfl Try.underlying35 rfl (by kernel_rfl)) rfl rfl rfl ?_
                refine Dr.valG Grow.refl rfl (fun w hG => Runs.loadB rfl rfl Try.underlying3 rfl (k1.step hG) rfl) rfl rfl rfl ?_
                refine Dr.valG Grow.refl rfl (fun w hG => (Runs.neqI rfl rfl rfl).isT (h3)) rfl rfl rfl ?_
                refine Dr.valG Grow.refl rfl (fun w hG => Runs.pickT rfl rfl rfl) rfl rfl rfl ?_
                refine Dr.valG Grow.refl rfl (fun w hG => Runs.move rfl rfl) rfl rfl rfl ?_
                refine Dr.valG Grow.refl rfl (fun w hG => Runs.fieldB 0 rfl rfl Try.underlying35 rfl (by kernel_rfl)) rfl rfl rfl ?_
                refine Dr.valG Grow.refl rfl (fun w hG => Runs.loadB rfl rfl Try.underlying3 rfl (k1.step hG) rfl) rfl rfl rfl ?_
                refine Dr.valG Grow.refl rfl (fun w hG => (Runs.neqI rfl rfl rfl).isF (by omega)) rfl rfl rfl ?_
                refine Dr.valG Grow.refl rfl (fun w hG => Runs.pickT rfl rfl rfl) rfl rfl rfl ?_
                refine Dr.val Grow.refl rfl (fun w hG => Runs.pickF rfl rfl rfl) rfl ?_
                refine Dr.val Grow.refl rfl (fun w hG => Runs.move rfl rfl) rfl ?_
                refine Dr.valG Grow.refl rfl (fun w hG => Runs.fieldB 2 rfl rfl Try.underlying35 rfl (by kernel_rfl)) rfl rfl rfl ?_
                refine Dr.valG Grow.refl rfl (fun w hG => Runs.loadB rfl rfl Try.underlying9 rfl (k1.step hG) rfl) rfl rfl rfl ?_
                refine Dr.valG Grow.refl rfl (fun w hG => (Runs.neqL (b := []) rfl rfl rfl HB1 HB2).isT (h5)) rfl rfl rfl ?_
                refine Dr.valG Grow.refl rfl (fun w hG => Runs.move rfl rfl) rfl rfl rfl ?_
                refine Dr.valG Grow.refl rfl (fun w hG => Runs.fieldB 0 rfl rfl Try.underlying35 rfl (by kernel_rfl)) rfl rfl rfl ?_
                refine Dr.valG Grow.refl rfl (fun w hG => Runs.loadB rfl rfl Try.underlying3 rfl (k1.step hG) rfl) rfl rfl rfl ?_
                refine Dr.valG Grow.refl rfl (fun w hG => (Runs.neqI rfl rfl rfl).isT (h6)) rfl rfl rfl ?_
                refine Dr.valG Grow.refl rfl (fun w hG => Runs.pickT rfl rfl rfl) rfl rfl rfl ?_
                refine Dr.val Grow.refl rfl (fun w hG => Runs.pickF rfl rfl rfl) rfl ?_
                refine Dr.nil ?_
                refine FinX.done (F' := [(0, _), (1, _), (2, _), (34, _)]) rfl ⟨rfl, rfl, rfl, rfl, trivial⟩ ?_
                intro w3 hw3 fw3
                replace bel := bel.step hw3
                replace k1 := k1.step hw3
                refine Seq.nil ?_
                refine Post.weak (F' := [(0, _), (1, _), (2, _), (34, _)]) ⟨rfl, rfl, rfl, rfl, trivial⟩ ?_
                refine Post.then_ ?_
                refine Cd.condT rfl rfl ?_
                refine Cd.seq ?_
                refine Cd.region ?_
                refine Seq.val (Runs.assign rfl rfl) rfl rfl rfl ?_
                refine Seq.nil ?_
                refine Post.weak (F' := [(0, _), (1, _), (2, _), (34, _)]) ⟨rfl, rfl, rfl, rfl, trivial⟩ ?_
                refine Post.then_ ?_
                refine Cd.ret ?_
                refine Post.then_ret ?_
                refine Post.end1 rfl rfl (.inl rfl) ?_
                rw [hbf (by rintro ⟨-, -, h, -⟩; rcases h with h | h; exact h5 h; exact h6 h)]
                exact ⟨rfl, bel⟩
          · skip
            refine Cd.seq ?_
            refine Cd.draw 32 (by kernel_rfl) [] (.inl rfl) rfl Grow Grow.refl (fun _ _ _ => Grow.trans) ?_
            intro w2 hw2 zw2
            replace bel := bel.step hw2
            replace k1 := k1.step hw2
            have zbel := bel.size
            have zlt := k1.lt
            refine Dr.val Grow.refl rfl (fun w hG => Runs.fieldB 0 rfl rfl Try.underlying35 rfl (by kernel_rfl)) rfl ?_
            refine Dr.val Grow.refl rfl (fun w hG => Runs.loadB rfl rfl Try.underlying3 rfl (k1.step hG) rfl) rfl ?_
            refine Dr.callV rfl (fun w => Enters.func rfl rfl rfl (run_enter Try.func126 (by kernel_rfl) rfl)) rfl (fun w hG => arity_any op w) ?_
            refine Dr.val Grow.refl rfl (fun w hG => Runs.fieldB 3 rfl rfl Try.underlying35 rfl (by kernel_rfl)) rfl ?_
            refine Dr.val Grow.refl rfl (fun w hG => Runs.loadB rfl rfl Try.underlying25 rfl (k1.step hG) rfl) rfl ?_
            refine Dr.val Grow.refl rfl (fun w hG => Runs.len rfl rfl Try.underlying25) rfl ?_
            refine Dr.val Grow.refl rfl (fun w hG => (Runs.neqI rfl rfl rfl).isF (by omega)) rfl ?_
            refine Dr.val Grow.refl rfl (fun w hG => Runs.move rfl rfl) rfl ?_
            refine Dr.valG Grow.refl rfl (fun w hG => Runs.fieldB 1 rfl rfl Try.underlying35 rfl (by kernel_rfl)) rfl rfl rfl ?_
            refine Dr.valG Grow.refl rfl (fun w hG => Runs.loadB rfl rfl Try.underlying2 rfl (k1.step hG) rfl) rfl rfl rfl ?_
            refine Dr.valG Grow.refl rfl (fun w hG => (Runs.neqI rfl rfl rfl).isT (h2)) rfl rfl rfl ?_
            refine Dr.valG Grow.refl rfl (fun w hG => Runs.move rfl rfl) rfl rfl rfl ?_
            refine Dr.valG Grow.refl rfl (fun w hG => Runs.fieldB 0 rfl rfl Try.underlying35 rfl (by kernel_rfl)) rfl rfl rfl ?_
            refine Dr.valG Grow.refl rfl (fun w hG => Runs.loadB rfl rfl Try.underlying3 rfl (k1.step hG) rfl) rfl rfl rfl ?_
            refine Dr.valG Grow.refl rfl (fun w hG => (Runs.neqI rfl rfl rfl).isT (h3)) rfl rfl rfl ?_
            refine Dr.valG Grow.refl rfl (fun w hG => Runs.pickT rfl rfl rfl) rfl rfl rfl ?_
            refine Dr.valG Grow.refl rfl (fun w hG => Runs.move rfl rfl) rfl rfl rfl ?_
            refine Dr.valG Grow.refl rfl (fun w hG => Runs.fieldB 0 rfl rfl Try.underlying35 rfl (by kernel_rfl)) rfl rfl rfl ?_
            refine Dr.valG Grow.refl rfl (fun w hG => Runs.loadB rfl rfl Try.underlying3 rfl (k1.step hG) rfl) rfl rfl rfl ?_
            refine Dr.valG Grow.refl rfl (fun w hG => (Runs.neqI rfl rfl rfl).isT (h4)) rfl rfl rfl ?_
            refine Dr.valG Grow.refl rfl (fun w hG => Runs.pickT rfl rfl rfl) rfl rfl rfl ?_
            refine Dr.val Grow.refl rfl (fun w hG => Runs.pickF rfl rfl rfl) rfl ?_
            refine Dr.val Grow.refl rfl (fun w hG => Runs.move rfl rfl) rfl ?_
            refine Dr.skip rfl rfl rfl rfl rfl ?_
            refine Dr.skip rfl rfl rfl rfl rfl ?_
            refine Dr.skip rfl rfl rfl rfl rfl ?_
            refine Dr.skip rfl rfl rfl rfl rfl ?_
            refine Dr.skipU rfl rfl rfl rfl ?_
            refine Dr.skipU rfl rfl rfl rfl ?_
            refine Dr.skipU rfl rfl rfl rfl ?_
            refine Dr.skip rfl rfl rfl rfl rfl ?_
            refine Dr.val Grow.refl rfl (fun w hG => Runs.pickT rfl rfl rfl) rfl ?_
            refine Dr.nil ?_
            refine FinX.done (F' := [(0, _), (1, _), (2, _), (34, _)]) rfl ⟨rfl, rfl, rfl, rfl, trivial⟩ ?_
            intro w3 hw3 fw3
            replace bel := bel.step hw3
            replace k1 := k1.step hw3
            refine Seq.nil ?_
            refine Post.weak (F' := [(0, _), (1, _), (2, _), (34, _)]) ⟨rfl, rfl, rfl, rfl, trivial⟩ ?_
            refine Post.then_ ?_
            refine Cd.condT rfl rfl ?_
            refine Cd.seq ?_
            refine Cd.region ?_
            refine Seq.val (Runs.assign rfl rfl) rfl rfl rfl ?_
            refine Seq.nil ?_
            refine Post.weak (F' := [(0, _), (1, _), (2, _), (34, _)]) ⟨rfl, rfl, rfl, rfl, trivial⟩ ?_
            refine Post.then_ ?_
            refine Cd.ret ?_
            refine Post.then_ret ?_
            refine Post.end1 rfl rfl (.inl rfl) ?_
            rw [hbf (by rintro ⟨-, h, -⟩; omega)]
            exact ⟨rfl, bel⟩
    · skip
      refine Cd.seq ?_
      refine Cd.draw 32 (by kernel_rfl) [] (.inl rfl) rfl Grow Grow.refl (fun _ _ _ => Grow.trans) ?_
      intro w2 hw2 zw2
      replace bel := bel.step hw2
      replace k1 := k1.step hw2
      have zbel := bel.size
      have zlt := k1.lt
      refine Dr.val Grow.refl rfl (fun w hG => Runs.fieldB 0 rfl rfl Try.underlying35 rfl (by kernel_rfl)) rfl ?_
      refine Dr.val Grow.refl rfl (fun w hG => Runs.loadB rfl rfl Try.underlying3 rfl (k1.step hG) rfl) rfl ?_
      refine Dr.callV rfl (fun w => Enters.func rfl rfl rfl (run_enter Try.func126 (by kernel_rfl) rfl)) rfl (fun w hG => arity_any op w) ?_
      refine Dr.val Grow.refl rfl (fun w hG => Runs.fieldB 3 rfl rfl Try.underlying35 rfl (by kernel_rfl)) rfl ?_
      refine Dr.val Grow.refl rfl (fun w hG => Runs.loadB rfl rfl Try.underlying25 rfl (k1.step hG) rfl) rfl ?_
      refine Dr.val Grow.refl rfl (fun w hG => Runs.len rfl rfl Try.underlying25) rfl ?_
      refine Dr.val Grow.refl rfl (fun w hG => (Runs.neqI rfl rfl rfl).isT (h1)) rfl ?_
      refine Dr.val Grow.refl rfl (fun w hG => Runs.move rfl rfl) rfl ?_
      refine Dr.skip rfl rfl rfl rfl rfl ?_
      refine Dr.skip rfl rfl rfl rfl rfl ?_
      refine Dr.skip rfl rfl rfl rfl rfl ?_
      refine Dr.skip rfl rfl rfl rfl rfl ?_
      refine Dr.skipU rfl rfl rfl rfl ?_
      refine Dr.skipU rfl rfl rfl rfl ?_
      refine Dr.skipU rfl rfl rfl rfl ?_
      refine Dr.skip rfl rfl rfl rfl rfl ?_
      refine Dr.skip rfl rfl rfl rfl rfl ?_
      refine Dr.skipU rfl rfl rfl rfl ?_
      refine Dr.skipU rfl rfl rfl rfl ?_
      refine Dr.skipU rfl rfl rfl rfl ?_
      refine Dr.skip rfl rfl rfl rfl rfl ?_
      refine Dr.val Grow.refl rfl (fun w hG => Runs.pickT rfl rfl rfl) rfl ?_
      refine Dr.val Grow.refl rfl (fun w hG => Runs.move rfl rfl) rfl ?_
      refine Dr.skip rfl rfl rfl rfl rfl ?_
      refine Dr.skip rfl rfl rfl rfl rfl ?_
      refine Dr.skip rfl rfl rfl rfl rfl ?_
      refine Dr.skip rfl rfl rfl rfl rfl ?_
      refine Dr.skipU rfl rfl rfl rfl ?_
      refine Dr.skipU rfl rfl rfl rfl ?_
      refine Dr.skipU rfl rfl rfl rfl ?_
      refine Dr.skip rfl rfl rfl rfl rfl ?_
      refine Dr.val Grow.refl rfl (fun w hG => Runs.pickT rfl rfl rfl) rfl ?_
      refine Dr.nil ?_
      refine FinX.done (F' := [(0, _), (1, _), (2, _), (34, _)]) rfl ⟨rfl, rfl, rfl, rfl, trivial⟩ ?_
      intro w3 hw3 fw3
      replace bel := bel.step hw3
      replace k1 := k1.step hw3
      refine Seq.nil ?_
      refine Post.weak (F' := [(0, _), (1, _), (2, _), (34, _)]) ⟨rfl, rfl, rfl, rfl, trivial⟩ ?_
      refine Post.then_ ?_
      refine Cd.condT rfl rfl ?_
      refine Cd.seq ?_
      refine Cd.region ?_
      refine Seq.val (Runs.assign rfl rfl) rfl rfl rfl ?_
      refine Seq.nil ?_
      refine Post.weak (F' := [(0, _), (1, _), (2, _), (34, _)]) ⟨rfl, rfl, rfl, rfl, trivial⟩ ?_
      refine Post.then_ ?_
      refine Cd.ret ?_
      refine Post.then_ret ?_
      refine Post.end1 rfl rfl (.inl rfl) ?_
      rw [hbf (by rintro ⟨h, -⟩; exact h1 h)]
      exact ⟨rfl, bel⟩
  clear bel k1
  rintro ⟨⟩ wr ⟨⟨a1, a2, a3⟩, bel, k1⟩
  refine Cd.seq ?_
  refine Cd.block ?_
  refine Cd.seq ?_
  refine Cd.seq ?_
  refine Cd.region ?_
  refine Seq.val (Runs.fieldB 1 rfl rfl Try.underlying35 rfl (by kernel_rfl)) rfl rfl rfl ?_
  refine Seq.val (Runs.loadB rfl rfl Try.underlying2 rfl k1 rfl) rfl rfl rfl ?_
  refine Seq.val (Runs.lss rfl rfl rfl) rfl rfl rfl ?_
  refine Seq.val (Runs.assign rfl rfl) rfl rfl rfl ?_
  refine Seq.nil ?_
  refine Post.weak (F' := [(1, _), (35, _)]) ⟨rfl, rfl, trivial⟩ ?_
  refine Post.then_ ?_
  refine Cd.condD rfl (fun hc => ?_) (fun hc => ?_)
  · skip
    refine Cd.skip ?_
    refine Post.then_ ?_
    refine Cd.condT rfl (decide_eq_true (by assumption)) ?_
    refine Cd.seq ?_
    refine Cd.region ?_
    refine Seq.val (Runs.assign rfl rfl) rfl rfl rfl ?_
    refine Seq.nil ?_
    refine Post.weak (F' := [(1, _), (2, _), (35, _)]) ⟨rfl, rfl, rfl, trivial⟩ ?_
    refine Post.then_ ?_
    refine Cd.ret ?_
    refine Post.block_ret ?_
    refine Post.then_ret ?_
    refine Post.end1 rfl rfl (.inl rfl) ?_
    rw [hbf (by omega)]
    exact ⟨rfl, bel⟩
  · skip
    refine Cd.seq ?_
    refine Cd.region ?_
    refine Seq.val (Runs.fieldB 0 rfl rfl Try.underlying35 rfl (by kernel_rfl)) rfl rfl rfl ?_
    refine Seq.val (Runs.loadB rfl rfl Try.underlying3 rfl k1 rfl) rfl rfl rfl ?_
    refine Seq.val (Runs.eqlI rfl rfl rfl) rfl rfl rfl ?_
    refine Seq.val (Runs.move rfl rfl) rfl rfl rfl ?_
    refine SeqC.start ?_
    refine SeqC.open rfl rfl rfl rfl rfl rfl rfl (fun hcx => Runs.fieldB 1 rfl rfl Try.underlying35 rfl (by kernel_rfl)) ?_
    refine SeqC.next rfl rfl rfl rfl rfl rfl rfl (fun hcx => Runs.loadB rfl rfl Try.underlying2 rfl k1 rfl) ?_
    refine SeqC.next rfl rfl rfl rfl rfl rfl rfl (fun hcx => Runs.gtr rfl rfl rfl) ?_
    refine SeqC.and rfl rfl rfl rfl rfl rfl rfl ?_
    refine Seq.val (Runs.assign rfl rfl) rfl rfl rfl ?_
    refine Seq.nil ?_
    refine Post.weak (F' := [(1, _), (35, _)]) ⟨rfl, rfl, trivial⟩ ?_
    refine Post.then_ ?_
    refine Cd.cond rfl (fun h => ?_) (fun h => ?_)
    · skip
      refine Cd.skip ?_
      refine Post.then_ ?_
      refine Cd.condT rfl h ?_
      refine Cd.seq ?_
      refine Cd.region ?_
      refine Seq.val (Runs.assign rfl rfl) rfl rfl rfl ?_
      refine Seq.nil ?_
      refine Post.weak (F' := [(1, _), (2, _), (35, _)]) ⟨rfl, rfl, rfl, trivial⟩ ?_
      refine Post.then_ ?_
      refine Cd.ret ?_
      refine Post.block_ret ?_
      refine Post.then_ret ?_
      refine Post.end1 rfl rfl (.inl rfl) ?_
      simp at h
      rw [hbf (by omega)]
      exact ⟨rfl, bel⟩
    · simp at h
      refine Cd.region ?_
      refine Seq.val (Runs.fieldB 0 rfl rfl Try.underlying35 rfl (by kernel_rfl)) rfl rfl rfl ?_
      refine Seq.val (Runs.loadB rfl rfl Try.underlying3 rfl k1 rfl) rfl rfl rfl ?_
      refine Seq.val (Runs.eqlI rfl rfl rfl) rfl rfl rfl ?_
      refine Seq.val (Runs.move rfl rfl) rfl rfl rfl ?_
      refine SeqC.start ?_
      refine SeqC.open rfl rfl rfl rfl rfl rfl rfl (fun hcx => Runs.fieldB 2 rfl rfl Try.underlying35 rfl (by kernel_rfl)) ?_
      refine SeqC.next rfl rfl rfl rfl rfl rfl rfl (fun hcx => Runs.loadB rfl rfl Try.underlying9 rfl k1 rfl) ?_
      refine SeqC.nextC rfl rfl rfl rfl rfl rfl rfl (fun hcx => Enters.func rfl rfl rfl (run_enter Try.func118 (by kernel_rfl) rfl)) (fun hcx => free_any nm _ HB1 hnl) ?_
      intro w2 hw2
      replace bel := bel.step hw2
      replace k1 := k1.step hw2
      refine SeqC.next rfl rfl rfl rfl rfl rfl rfl (fun hcx => Runs.not rfl rfl) ?_
      refine SeqC.and rfl rfl rfl rfl rfl rfl rfl ?_
      refine Seq.val (Runs.assign rfl rfl) rfl rfl rfl ?_
      refine Seq.nil ?_
      refine Post.weak (F' := [(1, _), (35, _)]) ⟨rfl, rfl, trivial⟩ ?_
      refine Post.then_ ?_
      refine Cd.cond rfl (fun h2 => ?_) (fun h2 => ?_)
      · skip
        refine Cd.seq ?_
        refine Cd.region ?_
        refine Seq.val (Runs.assign rfl rfl) rfl rfl rfl ?_
        refine Seq.nil ?_
        refine Post.weak (F' := [(1, _), (2, _), (35, _)]) ⟨rfl, rfl, rfl, trivial⟩ ?_
        refine Post.then_ ?_
        refine Cd.ret ?_
        refine Post.block_ret ?_
        refine Post.then_ret ?_
        refine Post.end1 rfl rfl (.inl rfl) ?_
        simp at h2
        rw [hbf (by rintro ⟨-, -, -, -, -, h7⟩; rw [h7 h2.1] at h2; cases h2.2)]
        exact ⟨rfl, bel⟩
      · have hh := headB_true a1 a2 a3 (by omega) (by omega) (fun h3 => by simp at h2; exact h2 h3)
        refine Cd.skip ?_
        refine Post.block_normal ?_
        refine Post.then_ ?_
        refine Cd.seq ?_
        refine Cd.region ?_
        refine Seq.val (Runs.fieldB 3 rfl rfl Try.underlying35 rfl (by kernel_rfl)) rfl rfl rfl ?_
        refine Seq.val (Runs.loadB rfl rfl Try.underlying25 rfl k1 rfl) rfl rfl rfl ?_
        refine Seq.call (Enters.func rfl rfl rfl (run_enter Try.func119 (by kernel_rfl) rfl)) rfl rfl rfl (hcl _ bel) ?_
        rintro en w9 ⟨rfl, hb9⟩
        refine ⟨_, rfl, ?_⟩
        replace bel := bel.step hb9
        replace k1 := k1.step hb9
        refine Seq.val (Runs.not rfl rfl) rfl rfl rfl ?_
        refine Seq.val (Runs.assign rfl rfl) rfl rfl rfl ?_
        refine Seq.nil ?_
        refine Post.weak (F' := [(1, _), (2, _), (35, _)]) ⟨rfl, rfl, rfl, trivial⟩ ?_
        refine Post.then_ ?_
        refine Cd.ret ?_
        refine Post.end1 rfl rfl (.inl rfl) ?_
        refine ⟨ret1 (bool_eq ?_), bel⟩
        rw [hbt, hh, Bool.true_and]
        induction e.args with
        | nil => rfl
        | cons x r ih => simp only [List.any_cons, List.all_cons, Bool.not_or, Bool.not_not, ih]
theorem rightExpr_any (e : Ex) (B : Nat) (v : Value) (w : World) (hd : e.depth ≤ 900) (hrep : Rep w B e v) (hB : B ≤ w.heap.size) : Calls Try.prog 41 #[v] w fun en w' => en = .returned (.bool (decide (e.nodes ≤ 200) && decide (e.depth ≤ 16) && builtB e)) ∧ Grow w w' := by
  have hs := fun W (hb : Below w.heap.size w W) => sizeExpr_any e.nodes e 0 B v W (Nat.le_refl _) (by omega) (hrep.below (hb.mono hB)) (Nat.le_trans hB hb.size)
  have hbt := fun W (hb : Below w.heap.size w W) => builtExpr_any e.nodes e B v W (Nat.le_refl _) (hrep.below (hb.mono hB)) (Nat.le_trans hB hb.size)
  have hc := szE_cnt e
  have hdn := e.depth_nodes
  have hsz := szE_Sz e
  have hres : (decide (e.nodes ≤ 200) && decide (e.depth ≤ 16)) = (decide ((szE e).1 ≤ 200) && decide ((szE e).2 ≤ 16)) := by
    obtain ⟨c1, c2⟩ := hc
    rw [Bool.eq_iff_iff]
    simp only [Bool.and_eq_true, decide_eq_true_eq]
    constructor
    · rintro ⟨h1, h2⟩
      rw [c2 (by omega)]
      omega
    · rintro ⟨h1, h2⟩
      have h3 : e.nodes ≤ 200 := by omega
      rw [c2 (by omega)] at h2
      omega
  rw [hres]
  obtain ⟨A, c, rfl, -⟩ := hrep.open
  have bel := Below.refl w.heap.size w
  generalize (szE e) = s at *
  refine Calls.start 10 Try.func41 rfl rfl rfl ?_
  refine Cd.seq ?_
  refine Cd.region ?_
  refine Seq.box rfl rfl rfl rfl rfl ?_
  intro g1 w1 n1
  have e1 := Nat.le_trans bel.size n1.ge
  replace bel := bel.step n1.below
  have k1 := n1.blk
  refine Seq.val (Runs.assign rfl rfl) rfl rfl rfl ?_
  refine Seq.nil ?_
  refine Post.weak (F' := [(0, _), (1, _), (2, _)]) ⟨rfl, rfl, rfl, trivial⟩ ?_
  refine Post.then_ ?_
  refine Cd.seq ?_
  refine Cd.region ?_
  refine Seq.val (Runs.loadW rfl rfl Try.underlying35 rfl k1 (m := 4) (by kernel_rfl) rfl) rfl rfl rfl ?_
  refine Seq.call (Enters.func rfl rfl rfl (run_enter Try.func75 (by kernel_rfl) rfl)) rfl rfl rfl (hs _ bel) ?_
  rintro en w5 ⟨rfl, hb5⟩
  refine ⟨_, rfl, ?_⟩
  replace bel := bel.step hb5
  replace k1 := k1.step hb5
  refine Seq.call (Enters.func rfl rfl rfl (run_enter Try.func68 (by kernel_rfl) rfl)) rfl rfl rfl (szSmall_any s.1 s.2 _) ?_
  rintro en w6 ⟨rfl, hb6⟩
  refine ⟨_, rfl, ?_⟩
  replace bel := bel.step hb6
  replace k1 := k1.step hb6
  refine Seq.val (Runs.move rfl rfl) rfl rfl rfl ?_
  refine SeqC.start ?_
  refine SeqC.open rfl rfl rfl rfl rfl rfl rfl (fun hcx => Runs.loadW rfl rfl Try.underlying35 rfl k1 (m := 4) (by kernel_rfl) rfl) ?_
  refine SeqC.nextC rfl rfl rfl rfl rfl rfl rfl (fun hcx => Enters.func rfl rfl rfl (run_enter Try.func76 (by kernel_rfl) rfl)) (fun hcx => hbt _ bel) ?_
  intro w2 hw2
  replace bel := bel.step hw2
  replace k1 := k1.step hw2
  refine SeqC.and rfl rfl rfl rfl rfl rfl rfl ?_
  refine Seq.val (Runs.assign rfl rfl) rfl rfl rfl ?_
  refine Seq.nil ?_
  refine Post.weak (F' := [(0, _), (1, _), (2, _)]) ⟨rfl, rfl, rfl, trivial⟩ ?_
  refine Post.then_ ?_
  refine Cd.ret ?_
  refine Post.end1 rfl rfl (.inl rfl) ?_
  exact ⟨ret1 (bool_eq (by cases (decide (s.1 ≤ 200) && decide (s.2 ≤ 16)) <;> rfl)), bel⟩
end Go.Proofs.Ytijaldpmpjapiaa

namespace Go.Proofs.Ytijaldpmpjapiaa
open Go.RowKit

def leapB (y : Int) : Bool := decide (y % 4 = 0) && (decide (y % 100 ≠ 0) || decide (y % 400 = 0))
def daysZ (y m : Int) : Int := if m = 2 then (if leapB y then 29 else 28) else if m = 4 ∨ m = 6 ∨ m = 9 ∨ m = 11 then 30 else if m = 1 ∨ m = 3 ∨ m = 5 ∨ m = 7 ∨ m = 8 ∨ m = 10 ∨ m = 12 then 31 else 0
def ofOk (y m d : Int) : Bool := decide (1970 ≤ y) && decide (y ≤ 9999) && decide (1 ≤ d) && decide (d ≤ daysZ y m)
def ofY (y m : Int) : Int := if m < 3 then y - 1 else y
def ofM (m : Int) : Int := if m < 3 then m + 9 else m - 3
def ofZ (y m d : Int) : Int := ofY y m / 400 * 146097 + (ofY y m % 400 * 365 + ofY y m % 400 / 4 - ofY y m % 400 / 100 + ((153 * ofM m + 2) / 5 + d - 1)) - 719468
theorem daysZ_m {y m : Int} (h : 0 < daysZ y m) : 1 ≤ m ∧ m ≤ 12 ∧ daysZ y m ≤ 31 := by
  unfold daysZ at *
  split
  · split <;> omega
  · split
    · omega
    · split
      · omega
      · rename_i h1 h2 h3
        rw [if_neg h1, if_neg h2, if_neg h3] at h
        omega
end Go.Proofs.Ytijaldpmpjapiaa

namespace Go.Proofs.Ytijaldpmpjapiaa
open Go.RowKit

/-- The number of digits; -1: they are none. -/
def numZ (l : List Nat) : Int := if l.all digB then (valD l : Int) else -1
/-- The day of a text. -/
def dateOk (l : List Nat) : Bool := decide (l.length = 10) && decide (l[4]? = some 45) && decide (l[7]? = some 45) && ofOk (numZ ((l.take 4).drop 0)) (numZ ((l.take 7).drop 5)) (numZ ((l.take 10).drop 8))
def dateZ (l : List Nat) : Int := if dateOk l then ofZ (numZ ((l.take 4).drop 0)) (numZ ((l.take 7).drop 5)) (numZ ((l.take 10).drop 8)) else 0
end Go.Proofs.Ytijaldpmpjapiaa

namespace Go.Proofs.Ytijaldpmpjapiaa
open Go.RowKit

theorem zero_string : zeroIs Try.prog 9 = some (some (.string { data := #[] })) := by kernel_rfl
theorem hasPrefixL_lite (l p : List Nat) (w : World) (hl : ∀ x ∈ l, x < 256) (hp : ∀ x ∈ p, x < 256) :
    Calls Try.prog 138 #[.string (strOf l), .string (strOf p)] w fun e w' => e = .returned (.bool (decide (l.take p.length = p))) ∧ w = w' := by
  have h2 : ∀ x ∈ l.take p.length, x < 256 := fun x hx => hl x (List.mem_of_mem_take hx)
  refine Calls.start 18 Try.func138 rfl rfl rfl ?_
  refine Cd.seq ?_
  refine Cd.region ?_
  refine Seq.val (Runs.assign rfl rfl) rfl rfl rfl ?_
  refine Seq.nil ?_
  refine Post.weak (F' := [(0, _), (1, _), (4, _)]) ⟨rfl, rfl, rfl, trivial⟩ ?_
  refine Post.then_ ?_
  refine Cd.seq ?_
  refine Cd.region ?_
  refine Seq.val (Runs.move rfl rfl) rfl rfl rfl ?_
  refine Seq.val (Runs.lenL rfl rfl Try.underlying9) rfl rfl rfl ?_
  refine Seq.val (Runs.move rfl rfl) rfl rfl rfl ?_
  refine Seq.val (Runs.lenL rfl rfl Try.underlying9) rfl rfl rfl ?_
  refine Seq.val (Runs.geq rfl rfl rfl) rfl rfl rfl ?_
  refine Seq.val (Runs.move rfl rfl) rfl rfl rfl ?_
  refine SeqC.start ?_
  refine SeqC.open rfl rfl rfl rfl rfl rfl rfl (fun hcx => Runs.move rfl rfl) ?_
  refine SeqC.next rfl rfl rfl rfl rfl rfl rfl (fun hcx => Runs.move rfl rfl) ?_
  refine SeqC.next rfl rfl rfl rfl rfl rfl rfl (fun hcx => Runs.lenL rfl rfl Try.underlying9) ?_
  refine SeqC.next rfl rfl rfl rfl rfl rfl rfl (fun hcx => Runs.sliceTo (j := p.length) rfl rfl rfl Try.underlying9 rfl (by simp [topX] at hcx; omega)) ?_
  refine SeqC.next rfl rfl rfl rfl rfl rfl rfl (fun hcx => Runs.move rfl rfl) ?_
  refine SeqC.next rfl rfl rfl rfl rfl rfl rfl (fun hcx => Runs.eqlL (a := l.take p.length) (b := p) rfl rfl rfl h2 hp) ?_
  refine SeqC.and rfl rfl rfl rfl rfl rfl rfl ?_
  refine Seq.val (Runs.assign rfl rfl) rfl rfl rfl ?_
  refine Seq.nil ?_
  refine Post.weak (F' := [(0, _), (1, _), (4, _)]) ⟨rfl, rfl, rfl, trivial⟩ ?_
  refine Post.then_ ?_
  refine Cd.ret ?_
  refine Post.end1 rfl rfl (.inl rfl) ?_
  refine ⟨ret1 (bool_eq ?_), rfl⟩
  rw [Bool.eq_iff_iff]
  simp
  intro h
  have := congrArg List.length h
  rw [List.length_take] at this
  omega
theorem hasPrefixL_any (l p : List Nat) (w : World) (hl : ∀ x ∈ l, x < 256) (hp : ∀ x ∈ p, x < 256) :
    Calls Try.prog 93 #[.string (strOf l), .string (strOf p)] w fun e w' => e = .returned (.bool (decide (l.take p.length = p))) ∧ w = w' := by
  refine Calls.start 8 Try.func93 rfl rfl rfl ?_
  refine Cd.seq ?_
  refine Cd.region ?_
  refine Seq.val (Runs.assign rfl rfl) rfl rfl rfl ?_
  refine Seq.nil ?_
  refine Post.weak (F' := [(0, _), (1, _), (4, _)]) ⟨rfl, rfl, rfl, trivial⟩ ?_
  refine Post.then_ ?_
  refine Cd.seq ?_
  refine Cd.region ?_
  refine Seq.val (Runs.move rfl rfl) rfl rfl rfl ?_
  refine Seq.val (Runs.move rfl rfl) rfl rfl rfl ?_
  refine Seq.call (Enters.func rfl rfl rfl (run_enter Try.func138 (by kernel_rfl) rfl)) rfl rfl rfl (hasPrefixL_lite l p _ hl hp) ?_
  rintro e w2 ⟨rfl, rfl⟩
  refine ⟨_, rfl, ?_⟩
  refine Seq.val (Runs.assign rfl rfl) rfl rfl rfl ?_
  refine Seq.nil ?_
  refine Post.weak (F' := [(0, _), (1, _), (4, _)]) ⟨rfl, rfl, rfl, trivial⟩ ?_
  refine Post.then_ ?_
  refine Cd.ret ?_
  refine Post.end1 rfl rfl (.inl rfl) ?_
  exact ⟨rfl, rfl⟩
def signsL : List (List Nat) := [[60, 61], [33, 61], [62, 61], [40], [41], [44], [43], [45], [42], [47], [60], [61], [62], [38], [124], [33]]
def strV (L : List (List Nat)) : List Value := L.map fun s => .string (strOf s)
def signW (l : List Nat) : Option (List Nat) := signsL.find? fun s => decide (l.take s.length = s)
/-- The number of a text that begins with a digit. -/
def amt0 (t : List Nat) : Option Int := if t.all digB = true ∧ (1 < t.length → t[0]? ≠ some 48) ∧ valD t ≤ 9223372036854775807 then some (valD t : Int) else none
def dayOk (l : List Nat) : Bool := decide (10 ≤ l.length) && !(decide (10 < l.length) && partB (l.getD 10 0)) && dateOk (l.take 10)
end Go.Proofs.Ytijaldpmpjapiaa

namespace Go.Proofs.Ytijaldpmpjapiaa
open Go.RowKit

/-- The word with which a text begins: its kind, text and number. -/
def nextW (l : List Nat) : Option (Int × List Nat × Int) := match l with
  | [] => none
  | c :: r => if digB c then (if dayOk (c :: r) then some (2, (c :: r).take 10, dateZ ((c :: r).take 10)) else (amt0 ((c :: r).take (runN partB (c :: r)))).map fun v => (1, (c :: r).take (runN partB (c :: r)), v))
    else if letB c then (if runN partB (c :: r) ≤ 16 then some (3, (c :: r).take (runN partB (c :: r)), 0) else none)
    else (signW (c :: r)).map fun s => (0, s, 0)
end Go.Proofs.Ytijaldpmpjapiaa

namespace Go.Proofs.Ytijaldpmpjapiaa
open Go.RowKit

/-- A word: its kind, text, number and place. -/
structure Wd where
  kind : Int
  text : List Nat
  n : Int
  pos : Nat
/-- The words from a place on; or where none can stand. -/
def lexW : Nat → List Nat → Nat → List Wd × Option Nat
  | 0, _, _ => ([], none)
  | f + 1, l, p => if l.length ≤ p then ([], none) else match nextW (l.drop p) with
    | none => ([], some p)
    | some (k, t, n) => (⟨k, t, n, p⟩ :: (lexW f l (p + t.length + blankN (l.drop (p + t.length)))).1, (lexW f l (p + t.length + blankN (l.drop (p + t.length)))).2)
def lexAll (l : List Nat) : List Wd × Option Nat := lexW (l.length + 1) l (blankN l)
def wdCells (ws : List Wd) : List Value := ws.flatMap fun x => [.int .i64 x.kind, .string (strOf x.text), .int .i64 x.n, .int .i64 (x.pos : Int)]
/-- A slice of the call's own, whatever is stored elsewhere. -/
structure OwnA (w : World) (B : Nat) (e : TypeId) (size : Nat) (v : Value) (n : Nat) (xs : List Value) : Prop where
  own : Own w B e size v n xs
section
variable {w w' : World} {B size n : Nat} {e : TypeId} {v : Value} {xs : List Value}
theorem OwnA.step (h : OwnA w B e size v n xs) (hb : Below w.heap.size w w') : OwnA w' B e size v n xs := ⟨h.own.step hb⟩
theorem OwnA.put {g B' : Nat} {T : TypeId} {cur cs : Array Value} (h : OwnA w B e size v n xs) (_k : Blk w g T cur) (p : Put w w' g T cs) (_e : B' ≤ g) (hne : v.ownBlock ≠ some g := by assumption) : OwnA w' B e size v n xs := ⟨⟨h.own.row.kept p.grown (.inr hne)⟩⟩
theorem OwnA.ne (h : OwnA w B e size v n xs) {g : Nat} (hg : w.heap.size ≤ g) : v.ownBlock ≠ some g := by
  intro hv
  obtain ⟨hl, ⟨h0, h1⟩ | ⟨g', cap, cur, h0, h1, h2, h3, h4, h5, h6⟩⟩ := h.own.row
  · rw [h0] at hv; cases hv
  · rw [h0] at hv
    injection hv with hv
    have hv : g' = g := hv
    have hlt : g' < w.heap.size := Blk.lt (cs := cur) (t := e) h2
    omega
end
end Go.Proofs.Ytijaldpmpjapiaa

namespace Go.Proofs.Ytijaldpmpjapiaa
open Go.RowKit

theorem refLetter_any (c : Nat) (w : World) : Calls Try.prog 27 #[.int .u8 (c : Int)] w fun e w' => e = .returned (.bool (letB c)) ∧ Grow w w' := by
  have bel := Below.refl w.heap.size w
  refine Calls.start 17 Try.func27 rfl rfl rfl ?_
  refine Cd.seq ?_
  refine Cd.region ?_
  refine Seq.val (Runs.assign rfl rfl) rfl rfl rfl ?_
  refine Seq.nil ?_
  refine Post.weak (F' := [(0, _), (2, _)]) ⟨rfl, rfl, trivial⟩ ?_
  refine Post.then_ ?_
  refine Cd.seq ?_
  refine Cd.region ?_
  refine Seq.val (Runs.move rfl rfl) rfl rfl rfl ?_
  refine Seq.val (Runs.geq rfl rfl rfl) rfl rfl rfl ?_
  refine Seq.val (Runs.move rfl rfl) rfl rfl rfl ?_
  refine SeqC.start ?_
  refine SeqC.open rfl rfl rfl rfl rfl rfl rfl (fun hcx => Runs.move rfl rfl) ?_
  refine SeqC.next rfl rfl rfl rfl rfl rfl rfl (fun hcx => Runs.leq rfl rfl rfl) ?_
  refine SeqC.and rfl rfl rfl rfl rfl rfl rfl ?_
  refine Seq.val (Runs.move rfl rfl) rfl rfl rfl ?_
  refine SeqC.start ?_
  refine SeqC.open rfl rfl rfl rfl rfl rfl rfl (fun hcx => Runs.move rfl rfl) ?_
  refine SeqC.next rfl rfl rfl rfl rfl rfl rfl (fun hcx => Runs.geq rfl rfl rfl) ?_
  refine SeqC.next rfl rfl rfl rfl rfl rfl rfl (fun hcx => Runs.move rfl rfl) ?_
  refine SeqC.open rfl rfl rfl rfl rfl rfl rfl (fun hcx => Runs.move rfl rfl) ?_
  refine SeqC.next rfl rfl rfl rfl rfl rfl rfl (fun hcx => Runs.leq rfl rfl rfl) ?_
  refine SeqC.andG rfl rfl rfl rfl rfl rfl rfl rfl rfl rfl rfl ?_
  refine SeqC.or rfl rfl rfl rfl rfl rfl rfl ?_
  refine Seq.val (Runs.assign rfl rfl) rfl rfl rfl ?_
  refine Seq.nil ?_
  refine Post.weak (F' := [(0, _), (2, _)]) ⟨rfl, rfl, trivial⟩ ?_
  refine Post.then_ ?_
  refine Cd.ret ?_
  refine Post.end1 rfl rfl (.inl rfl) ?_
  refine ⟨ret1 (bool_eq ?_), bel⟩
  unfold letB
  rw [Bool.eq_iff_iff]
  simp
  omega
theorem refPart_any (c : Nat) (w : World) : Calls Try.prog 53 #[.int .u8 (c : Int)] w fun e w' => e = .returned (.bool (partB c)) ∧ Grow w w' := by
  have bel := Below.refl w.heap.size w
  refine Calls.start 17 Try.func53 rfl rfl rfl ?_
  refine Cd.seq ?_
  refine Cd.region ?_
  refine Seq.val (Runs.assign rfl rfl) rfl rfl rfl ?_
  refine Seq.nil ?_
  refine Post.weak (F' := [(0, _), (2, _)]) ⟨rfl, rfl, trivial⟩ ?_
  refine Post.then_ ?_
  refine Cd.seq ?_
  refine Cd.region ?_
  refine Seq.val (Runs.move rfl rfl) rfl rfl rfl ?_
  refine Seq.call (Enters.func rfl rfl rfl (run_enter Try.func27 (by kernel_rfl) rfl)) rfl rfl rfl (refLetter_any c _) ?_
  rintro e w2 ⟨rfl, hb2⟩
  refine ⟨_, rfl, ?_⟩
  replace bel := bel.step hb2
  refine Seq.val (Runs.move rfl rfl) rfl rfl rfl ?_
  refine SeqC.start ?_
  refine SeqC.open rfl rfl rfl rfl rfl rfl rfl (fun hcx => Runs.move rfl rfl) ?_
  refine SeqC.next rfl rfl rfl rfl rfl rfl rfl (fun hcx => Runs.geq rfl rfl rfl) ?_
  refine SeqC.next rfl rfl rfl rfl rfl rfl rfl (fun hcx => Runs.move rfl rfl) ?_
  refine SeqC.open rfl rfl rfl rfl rfl rfl rfl (fun hcx => Runs.move rfl rfl) ?_
  refine SeqC.next rfl rfl rfl rfl rfl rfl rfl (fun hcx => Runs.leq rfl rfl rfl) ?_
  refine SeqC.andG rfl rfl rfl rfl rfl rfl rfl rfl rfl rfl rfl ?_
  refine SeqC.or rfl rfl rfl rfl rfl rfl rfl ?_
  refine Seq.val (Runs.move rfl rfl) rfl rfl rfl ?_
  refine SeqC.start ?_
  refine SeqC.open rfl rfl rfl rfl rfl rfl rfl (fun hcx => Runs.move rfl rfl) ?_
  refine SeqC.next rfl rfl rfl rfl rfl rfl rfl (fun hcx => Runs.eqlI rfl rfl rfl) ?_
  refine SeqC.or rfl rfl rfl rfl rfl rfl rfl ?_
  refine Seq.val (Runs.assign rfl rfl) rfl rfl rfl ?_
  refine Seq.nil ?_
  refine Post.weak (F' := [(0, _), (2, _)]) ⟨rfl, rfl, trivial⟩ ?_
  refine Post.then_ ?_
  refine Cd.ret ?_
  refine Post.end1 rfl rfl (.inl rfl) ?_
  refine ⟨ret1 (bool_eq ?_), bel⟩
  unfold partB digB
  cases letB c <;> rw [Bool.eq_iff_iff] <;> simp <;> omega
theorem refNamed_any (l : List Nat) (w : World) (hl : ∀ x ∈ l, x < 256) (hlen : l.length ≤ 9223372036854775807) :
    Calls Try.prog 25 #[.string (strOf l)] w fun e w' => e = .returned (.bool (namedB l)) ∧ Grow w w' := by
  have bel := Below.refl w.heap.size w
  have h0 : l ≠ [] → l[0]? = some (l.getD 0 0) := by
    intro h
    cases l with
    | nil => exact absurd rfl h
    | cons c l => rfl
  have h1 : l.getD 0 0 < 256 := by
    cases l with
    | nil => simp
    | cons c l => exact hl c (by simp)
  have hnil : l ≠ [] ↔ 0 < l.length := by cases l <;> simp
  unfold namedB
  generalize l.getD 0 0 = c0 at *
  refine Calls.start 29 Try.func25 rfl rfl rfl ?_
  refine Cd.seq ?_
  refine Cd.region ?_
  refine Seq.val (Runs.assign rfl rfl) rfl rfl rfl ?_
  refine Seq.nil ?_
  refine Post.weak (F' := [(0, _), (2, _)]) ⟨rfl, rfl, trivial⟩ ?_
  refine Post.then_ ?_
  refine Cd.seq ?_
  refine Cd.seq ?_
  refine Cd.region ?_
  refine Seq.val (Runs.move rfl rfl) rfl rfl rfl ?_
  refine Seq.val (Runs.lenL rfl rfl Try.underlying9) rfl rfl rfl ?_
  refine Seq.val (Runs.lss rfl rfl rfl) rfl rfl rfl ?_
  refine Seq.val (Runs.move rfl rfl) rfl rfl rfl ?_
  refine SeqC.start ?_
  refine SeqC.open rfl rfl rfl rfl rfl rfl rfl (fun hcx => Runs.move rfl rfl) ?_
  refine SeqC.next rfl rfl rfl rfl rfl rfl rfl (fun hcx => Runs.lenL rfl rfl Try.underlying9) ?_
  refine SeqC.next rfl rfl rfl rfl rfl rfl rfl (fun hcx => Runs.gtr rfl rfl rfl) ?_
  refine SeqC.or rfl rfl rfl rfl rfl rfl rfl ?_
  refine Seq.val (Runs.move rfl rfl) rfl rfl rfl ?_
  refine SeqC.start ?_
  refine SeqC.open rfl rfl rfl rfl rfl rfl rfl (fun hcx => Runs.move rfl rfl) ?_
  refine SeqC.next rfl rfl rfl rfl rfl rfl rfl (fun hcx => Runs.indexL (l := l) (j := 0) (c := c0) rfl rfl rfl Try.underlying9 rfl (h0 (hnil.2 (by simp [topX] at hcx; omega))) h1) ?_
  refine SeqC.nextC rfl rfl rfl rfl rfl rfl rfl (fun hcx => Enters.func rfl rfl rfl (run_enter Try.func27 (by kernel_rfl) rfl)) (fun hcx => refLetter_any _ _) ?_
  intro w1 hw1
  replace bel := bel.step hw1
  refine SeqC.next rfl rfl rfl rfl rfl rfl rfl (fun hcx => Runs.not rfl rfl) ?_
  refine SeqC.or rfl rfl rfl rfl rfl rfl rfl ?_
  refine Seq.nil ?_
  refine Post.weak (F' := [(0, _), (2, _), (17, _)]) ⟨rfl, rfl, rfl, trivial⟩ ?_
  refine Post.then_ ?_
  refine Cd.cond rfl (fun h => ?_) (fun h => ?_)
  · have hf : (decide (l ≠ []) && decide (l.length ≤ 16) && letB c0 && decide (runN partB l = l.length)) = false := by
      rw [Bool.eq_false_iff]
      intro h2
      simp only [Bool.and_eq_true, decide_eq_true_eq] at h2
      have h3 := hnil.1 h2.1.1.1
      rw [h2.1.2] at h
      simp at h
      omega
    rw [hf]
    refine Cd.seq ?_
    refine Cd.region ?_
    refine Seq.val (Runs.assign rfl rfl) rfl rfl rfl ?_
    refine Seq.nil ?_
    refine Post.weak (F' := [(0, _), (2, _), (17, _)]) ⟨rfl, rfl, rfl, trivial⟩ ?_
    refine Post.then_ ?_
    refine Cd.ret ?_
    refine Post.then_ret ?_
    refine Post.end1 rfl rfl (.inl rfl) ?_
    exact ⟨rfl, bel⟩
  have hok : l ≠ [] ∧ l.length ≤ 16 ∧ letB c0 = true := by
    cases hle : letB c0 with
    | false => rw [hle] at h; simp at h
    | true => rw [hle] at h; simp at h; exact ⟨hnil.2 (by omega), by omega, rfl⟩
  have hrl := runN_le partB l
  rw [decide_eq_true hok.1, decide_eq_true hok.2.1, hok.2.2]
  refine Cd.skip ?_
  refine Post.then_ ?_
  refine Cd.seq ?_
  refine Cd.seq ?_
  refine Cd.region ?_
  refine Seq.val (Runs.assign rfl rfl) rfl rfl rfl ?_
  refine Seq.nil ?_
  refine Post.weak (F' := [(0, _), (2, _), (3, _), (17, _)]) ⟨rfl, rfl, rfl, rfl, trivial⟩ ?_
  refine Post.then_ ?_
  refine Cd.block ?_
  refine Cd.loop (σ := Nat) (fun k => [(0, .string (strOf l)), (3, .int .i64 (k : Int))]) (fun k wr => k ≤ runN partB l ∧ Below w.heap.size w wr) (fun k => l.length - k) 0 ⟨Nat.zero_le _, bel⟩ ⟨rfl, rfl, trivial⟩ ?_
  clear bel
  rintro k wr ⟨hk, bel⟩
  refine Cd.seq ?_
  refine Cd.seq ?_
  refine Cd.region ?_
  refine Seq.val (Runs.move rfl rfl) rfl rfl rfl ?_
  refine Seq.val (Runs.move rfl rfl) rfl rfl rfl ?_
  refine Seq.val (Runs.lenL rfl rfl Try.underlying9) rfl rfl rfl ?_
  refine Seq.val (Runs.lss rfl rfl rfl) rfl rfl rfl ?_
  refine Seq.nil ?_
  refine Post.weak (F' := [(0, _), (3, _), (21, _)]) ⟨rfl, rfl, rfl, trivial⟩ ?_
  refine Post.then_ ?_
  refine Cd.condD rfl (fun hc => ?_) (fun hc => ?_)
  · obtain ⟨c, hcc⟩ : ∃ c, l[k]? = some c := ⟨_, List.getElem?_eq_getElem (show k < l.length by omega)⟩
    have hc256 := hl c (List.mem_of_getElem? hcc)
    have hup := runN_upto partB l k hk c hcc
    refine Cd.skip ?_
    refine Post.then_ ?_
    refine Cd.seq ?_
    refine Cd.block ?_
    refine Cd.seq ?_
    refine Cd.region ?_
    refine Seq.val (Runs.move rfl rfl) rfl rfl rfl ?_
    refine Seq.val (Runs.move rfl rfl) rfl rfl rfl ?_
    refine Seq.val (Runs.indexL (l := l) (j := k) rfl rfl rfl Try.underlying9 rfl hcc hc256) rfl rfl rfl ?_
    refine Seq.call (Enters.func rfl rfl rfl (run_enter Try.func53 (by kernel_rfl) rfl)) rfl rfl rfl (refPart_any c _) ?_
    rintro e w5 ⟨rfl, hb5⟩
    refine ⟨_, rfl, ?_⟩
    replace bel := bel.step hb5
    refine Seq.val (Runs.not rfl rfl) rfl rfl rfl ?_
    refine Seq.nil ?_
    refine Post.weak (F' := [(0, _), (3, _), (21, _), (28, _)]) ⟨rfl, rfl, rfl, rfl, trivial⟩ ?_
    refine Post.then_ ?_
    refine Cd.cond rfl (fun h2 => ?_) (fun h2 => ?_)
    · have hne : ¬ runN partB l = l.length := by
        intro he
        have := hup.2 (by omega)
        rw [this] at h2
        cases h2
      rw [decide_eq_false hne]
      refine Cd.seq ?_
      refine Cd.region ?_
      refine Seq.val (Runs.assign rfl rfl) rfl rfl rfl ?_
      refine Seq.nil ?_
      refine Post.weak (F' := [(0, _), (2, _), (3, _), (21, _), (28, _)]) ⟨rfl, rfl, rfl, rfl, rfl, trivial⟩ ?_
      refine Post.then_ ?_
      refine Cd.ret ?_
      refine Post.block_ret ?_
      refine Post.then_ret ?_
      refine Post.round_ret ?_
      refine Post.block_ret ?_
      refine Post.then_ret ?_
      refine Post.end1 rfl rfl (.inl rfl) ?_
      exact ⟨rfl, bel⟩
    · have hlt := hup.1 (by simpa using h2)
      refine Cd.skip ?_
      refine Post.block_normal ?_
      refine Post.then_ ?_
      refine Cd.region ?_
      refine Seq.val (Runs.move rfl rfl) rfl rfl rfl ?_
      refine Seq.val (Runs.addI rfl rfl rfl (by omega) (by omega)) rfl rfl rfl ?_
      refine Seq.val (Runs.assign rfl rfl) rfl rfl rfl ?_
      refine Seq.nil ?_
      refine Post.weak (F' := [(0, _), (3, _), (21, _), (28, _)]) ⟨rfl, rfl, rfl, rfl, trivial⟩ ?_
      exact Post.round (k + 1) ⟨rfl, rfl, trivial⟩ ⟨by omega, bel⟩ (by omega)
  · rw [decide_eq_true (show runN partB l = l.length by omega)]
    refine Cd.exit ?_
    refine Post.then_exit ?_
    refine Post.round_exit ?_
    refine Post.block_exit ?_
    refine Post.then_ ?_
    refine Cd.seq ?_
    refine Cd.region ?_
    refine Seq.val (Runs.assign rfl rfl) rfl rfl rfl ?_
    refine Seq.nil ?_
    refine Post.weak (F' := [(0, _), (2, _), (3, _), (21, _)]) ⟨rfl, rfl, rfl, rfl, trivial⟩ ?_
    refine Post.then_ ?_
    refine Cd.ret ?_
    refine Post.end1 rfl rfl (.inl rfl) ?_
    exact ⟨rfl, bel⟩
theorem Own.form {w : World} {B size n : Nat} {e : TypeId} {v : Value} {xs : List Value} (h : Own w B e size v n xs) (h0 : 0 < n) : ∃ g cap cur, v = .slice (some ⟨g, 0, none⟩) n cap ∧ B ≤ g ∧ Blk w g e cur ∧ ∀ (j : Nat) (x : Value), xs[j]? = some x → cur[j]? = some x := by
  obtain ⟨hl, ⟨_, h1⟩ | ⟨g, cap, cur, rfl, h1, h2, h3, h4, h5, h6⟩⟩ := h.row
  · omega
  · refine ⟨g, cap, cur, rfl, h1, h2, fun j x hx => ?_⟩
    rw [← h6] at hx
    have := List.getElem?_take_of_lt (l := cur.toList) (i := j) (j := n * size) (by
      rcases Nat.lt_or_ge j (n * size) with h | h
      · exact h
      · rw [List.getElem?_eq_none (by rw [List.length_take]; omega)] at hx; cases hx)
    rw [this] at hx
    simpa using hx
def sampleL : List Nat := [100, 97, 121, 62, 61, 50, 48, 50, 52, 45, 48, 49, 45, 51, 49]
section
variable {P : Program} {E : Operand → Option Value} {o : Oper} {w : World} {x y : Operand} {T : TypeId}
end
end Go.Proofs.Ytijaldpmpjapiaa

namespace Go.Proofs.Ytijaldpmpjapiaa
open Go.RowKit

theorem kids_any (op : Int) (w : World) : Calls Try.prog 84 #[.int .i64 op] w fun e w' => e = .returned (.int .i64 (arityZ op)) ∧ Grow w w' := by
  have bel := Below.refl w.heap.size w
  refine Calls.start 23 Try.func84 rfl rfl rfl ?_
  refine Cd.seq ?_
  refine Cd.region ?_
  refine Seq.val (Runs.assign rfl rfl) rfl rfl rfl ?_
  refine Seq.nil ?_
  refine Post.weak (F' := [(0, _), (2, _)]) ⟨rfl, rfl, trivial⟩ ?_
  refine Post.then_ ?_
  refine Cd.seq ?_
  refine Cd.seq ?_
  refine Cd.region ?_
  refine Seq.val (Runs.move rfl rfl) rfl rfl rfl ?_
  refine Seq.val (Runs.geq rfl rfl rfl) rfl rfl rfl ?_
  refine Seq.val (Runs.move rfl rfl) rfl rfl rfl ?_
  refine SeqC.start ?_
  refine SeqC.open rfl rfl rfl rfl rfl rfl rfl (fun hcx => Runs.move rfl rfl) ?_
  refine SeqC.next rfl rfl rfl rfl rfl rfl rfl (fun hcx => Runs.leq rfl rfl rfl) ?_
  refine SeqC.and rfl rfl rfl rfl rfl rfl rfl ?_
  refine Seq.nil ?_
  refine Post.weak (F' := [(0, _), (2, _), (8, _)]) ⟨rfl, rfl, rfl, trivial⟩ ?_
  refine Post.then_ ?_
  refine Cd.cond rfl (fun h => ?_) (fun h => ?_)
  · simp at h
    refine Cd.seq ?_
    refine Cd.region ?_
    refine Seq.val (Runs.assign rfl rfl) rfl rfl rfl ?_
    refine Seq.nil ?_
    refine Post.weak (F' := [(0, _), (2, _), (8, _)]) ⟨rfl, rfl, rfl, trivial⟩ ?_
    refine Post.then_ ?_
    refine Cd.ret ?_
    refine Post.then_ret ?_
    refine Post.end1 rfl rfl (.inl rfl) ?_
    exact ⟨ret1 (int_eq (by unfold arityZ; rw [if_pos h])), bel⟩
  · simp at h
    refine Cd.skip ?_
    refine Post.then_ ?_
    refine Cd.seq ?_
    refine Cd.seq ?_
    refine Cd.region ?_
    refine Seq.val (Runs.move rfl rfl) rfl rfl rfl ?_
    refine Seq.val (Runs.geq rfl rfl rfl) rfl rfl rfl ?_
    refine Seq.val (Runs.move rfl rfl) rfl rfl rfl ?_
    refine SeqC.start ?_
    refine SeqC.open rfl rfl rfl rfl rfl rfl rfl (fun hcx => Runs.move rfl rfl) ?_
    refine SeqC.next rfl rfl rfl rfl rfl rfl rfl (fun hcx => Runs.leq rfl rfl rfl) ?_
    refine SeqC.and rfl rfl rfl rfl rfl rfl rfl ?_
    refine Seq.nil ?_
    refine Post.weak (F' := [(0, _), (2, _), (8, _), (14, _)]) ⟨rfl, rfl, rfl, rfl, trivial⟩ ?_
    refine Post.then_ ?_
    refine Cd.cond rfl (fun h2 => ?_) (fun h2 => ?_)
    · simp at h2
      refine Cd.seq ?_
      refine Cd.region ?_
      refine Seq.val (Runs.assign rfl rfl) rfl rfl rfl ?_
      refine Seq.nil ?_
      refine Post.weak (F' := [(0, _), (2, _), (8, _), (14, _)]) ⟨rfl, rfl, rfl, rfl, trivial⟩ ?_
      refine Post.then_ ?_
      refine Cd.ret ?_
      refine Post.then_ret ?_
      refine Post.end1 rfl rfl (.inl rfl) ?_
      exact ⟨ret1 (int_eq (by unfold arityZ; rw [if_neg (by omega), if_pos h2])), bel⟩
    · simp at h2
      refine Cd.skip ?_
      refine Post.then_ ?_
      refine Cd.seq ?_
      refine Cd.seq ?_
      refine Cd.region ?_
      refine Seq.val (Runs.move rfl rfl) rfl rfl rfl ?_
      refine Seq.val (Runs.eqlI rfl rfl rfl) rfl rfl rfl ?_
      refine Seq.val (Runs.move rfl rfl) rfl rfl rfl ?_
      refine SeqC.start ?_
      refine SeqC.open rfl rfl rfl rfl rfl rfl rfl (fun hcx => Runs.move rfl rfl) ?_
      refine SeqC.next rfl rfl rfl rfl rfl rfl rfl (fun hcx => Runs.eqlI rfl rfl rfl) ?_
      refine SeqC.or rfl rfl rfl rfl rfl rfl rfl ?_
      refine Seq.nil ?_
      refine Post.weak (F' := [(0, _), (2, _), (8, _), (14, _), (20, _)]) ⟨rfl, rfl, rfl, rfl, rfl, trivial⟩ ?_
      refine Post.then_ ?_
      refine Cd.cond rfl (fun h3 => ?_) (fun h3 => ?_)
      · simp at h3
        refine Cd.seq ?_
        refine Cd.region ?_
        refine Seq.val (Runs.assign rfl rfl) rfl rfl rfl ?_
        refine Seq.nil ?_
        refine Post.weak (F' := [(0, _), (2, _), (8, _), (14, _), (20, _)]) ⟨rfl, rfl, rfl, rfl, rfl, trivial⟩ ?_
        refine Post.then_ ?_
        refine Cd.ret ?_
        refine Post.then_ret ?_
        refine Post.end1 rfl rfl (.inl rfl) ?_
        exact ⟨ret1 (int_eq (by unfold arityZ; rw [if_neg (by omega), if_neg (by omega), if_pos h3])), bel⟩
      · simp at h3
        refine Cd.skip ?_
        refine Post.then_ ?_
        refine Cd.seq ?_
        refine Cd.seq ?_
        refine Cd.region ?_
        refine Seq.val (Runs.move rfl rfl) rfl rfl rfl ?_
        refine Seq.val (Runs.eqlI rfl rfl rfl) rfl rfl rfl ?_
        refine Seq.nil ?_
        refine Post.weak (F' := [(0, _), (2, _), (8, _), (14, _), (20, _), (22, _)]) ⟨rfl, rfl, rfl, rfl, rfl, rfl, trivial⟩ ?_
        refine Post.then_ ?_
        refine Cd.condD rfl (fun hc => ?_) (fun hc => ?_)
        · skip
          refine Cd.seq ?_
          refine Cd.region ?_
          refine Seq.val (Runs.assign rfl rfl) rfl rfl rfl ?_
          refine Seq.nil ?_
          refine Post.weak (F' := [(0, _), (2, _), (8, _), (14, _), (20, _), (22, _)]) ⟨rfl, rfl, rfl, rfl, rfl, rfl, trivial⟩ ?_
          refine Post.then_ ?_
          refine Cd.ret ?_
          refine Post.then_ret ?_
          refine Post.end1 rfl rfl (.inl rfl) ?_
          exact ⟨ret1 (int_eq (by unfold arityZ; rw [if_neg (by omega), if_neg (by omega), if_neg (by omega), if_pos (by assumption)])), bel⟩
        · skip
          refine Cd.skip ?_
          refine Post.then_ ?_
          refine Cd.seq ?_
          refine Cd.region ?_
          refine Seq.val (Runs.assign rfl rfl) rfl rfl rfl ?_
          refine Seq.nil ?_
          refine Post.weak (F' := [(0, _), (2, _), (8, _), (14, _), (20, _), (22, _)]) ⟨rfl, rfl, rfl, rfl, rfl, rfl, trivial⟩ ?_
          refine Post.then_ ?_
          refine Cd.ret ?_
          refine Post.end1 rfl rfl (.inl rfl) ?_
          exact ⟨ret1 (int_eq (by unfold arityZ; rw [if_neg (by omega), if_neg (by omega), if_neg (by omega), if_neg (by assumption)])), bel⟩
theorem reserved_byt : ∀ x ∈ reserved, ∀ d ∈ x, d < 256 := by decide
theorem refReserved_any (l : List Nat) (w : World) (hl : ∀ d ∈ l, d < 256) : Calls Try.prog 133 #[.string (strOf l)] w fun e w' => e = .returned (.bool (reservedB l)) ∧ Grow w w' := by
  have bel := Below.refl w.heap.size w
  have hat : ∀ j x, reserved[j]? = some x → (flatC (reserved.map fun x => Value.string (strOf x))).toArray[j]? = some (Value.string (strOf x)) := fun j x h => by
    have hj := (List.getElem?_eq_some_iff.1 h).1
    replace hj : j < 13 := hj
    rcases (show j = 0 ∨ j = 1 ∨ j = 2 ∨ j = 3 ∨ j = 4 ∨ j = 5 ∨ j = 6 ∨ j = 7 ∨ j = 8 ∨ j = 9 ∨ j = 10 ∨ j = 11 ∨ j = 12 by omega) with rfl | rfl | rfl | rfl | rfl | rfl | rfl | rfl | rfl | rfl | rfl | rfl | rfl <;> (injection h with h; subst h; rfl)
  refine Calls.start 18 Try.func133 rfl rfl rfl ?_
  refine Cd.seq ?_
  refine Cd.region ?_
  refine Seq.val (Runs.assign rfl rfl) rfl rfl rfl ?_
  refine Seq.nil ?_
  refine Post.weak (F' := [(0, _), (2, _)]) ⟨rfl, rfl, trivial⟩ ?_
  refine Post.then_ ?_
  refine Cd.seq ?_
  refine Cd.region ?_
  refine Seq.slice (vs := [_, _, _, _, _, _, _, _, _, _, _, _, _]) (s := 1) rfl rfl rfl Try.underlying85 (by kernel_rfl) (zero_string) (by omega) (by omega) ⟨rfl, rfl, rfl, rfl, rfl, rfl, rfl, rfl, rfl, rfl, rfl, rfl, rfl, trivial⟩ rfl rfl rfl ?_
  intro g5 w1 n5
  have e5 := Nat.le_trans bel.size n5.ge
  replace bel := bel.step n5.below
  have k5 := n5.blk
  refine Seq.val (Runs.assign rfl rfl) rfl rfl rfl ?_
  refine Seq.nil ?_
  refine Post.weak (F' := [(0, _), (2, _), (3, _)]) ⟨rfl, rfl, rfl, trivial⟩ ?_
  refine Post.then_ ?_
  refine Cd.seq ?_
  refine Cd.seq ?_
  refine Cd.region ?_
  refine Seq.val (Runs.assign rfl rfl) rfl rfl rfl ?_
  refine Seq.nil ?_
  refine Post.weak (F' := [(0, _), (2, _), (3, _), (4, _)]) ⟨rfl, rfl, rfl, rfl, trivial⟩ ?_
  refine Post.then_ ?_
  refine Cd.block ?_
  refine Cd.loop (σ := Nat) (fun k => [(0, .string (strOf l)), (3, .slice (some ⟨g5, 0, none⟩) 13 13), (4, .int .i64 (k : Int))])
    (fun k wr => k ≤ 13 ∧ (∀ x ∈ reserved.take k, l ≠ x) ∧ Below w.heap.size w wr ∧ Blk wr g5 9 (flatC (reserved.map fun x => Value.string (strOf x))).toArray) (fun k => 13 - k) 0 ⟨by omega, by simp, bel, k5⟩ ⟨rfl, rfl, rfl, trivial⟩ ?_
  clear bel k5
  rintro k wr ⟨hk, hno, bel, k5⟩
  refine Cd.seq ?_
  refine Cd.seq ?_
  refine Cd.region ?_
  refine Seq.val (Runs.move rfl rfl) rfl rfl rfl ?_
  refine Seq.val (Runs.move rfl rfl) rfl rfl rfl ?_
  refine Seq.val (Runs.len rfl rfl Try.underlying85) rfl rfl rfl ?_
  refine Seq.val (Runs.lss rfl rfl rfl) rfl rfl rfl ?_
  refine Seq.nil ?_
  refine Post.weak (F' := [(0, _), (3, _), (4, _), (9, _)]) ⟨rfl, rfl, rfl, rfl, trivial⟩ ?_
  refine Post.then_ ?_
  refine Cd.condD rfl (fun hc => ?_) (fun hc => ?_)
  · obtain ⟨x, hx⟩ : ∃ x, reserved[k]? = some x := ⟨_, List.getElem?_eq_getElem (show k < reserved.length by show k < 13; omega)⟩
    have htk : reserved.take (k + 1) = reserved.take k ++ [x] := by rw [List.take_add_one, hx]; rfl
    have hxb : ∀ d ∈ x, d < 256 := reserved_byt x (List.mem_of_getElem? hx)
    refine Cd.skip ?_
    refine Post.then_ ?_
    refine Cd.seq ?_
    refine Cd.block ?_
    refine Cd.seq ?_
    refine Cd.region ?_
    refine Seq.val (Runs.move rfl rfl) rfl rfl rfl ?_
    refine Seq.val (Runs.move rfl rfl) rfl rfl rfl ?_
    refine Seq.val (Runs.indexB rfl rfl rfl Try.underlying85 (by kernel_rfl) (j := k) rfl (by omega)) rfl rfl rfl ?_
    refine Seq.val (Runs.loadB rfl rfl Try.underlying9 rfl k5 (hat k x hx)) rfl rfl rfl ?_
    refine Seq.val (Runs.move rfl rfl) rfl rfl rfl ?_
    refine Seq.val (Runs.eqlL (a := x) (b := l) rfl rfl rfl hxb hl) rfl rfl rfl ?_
    refine Seq.nil ?_
    refine Post.weak (F' := [(0, _), (3, _), (4, _), (9, _), (17, _)]) ⟨rfl, rfl, rfl, rfl, rfl, trivial⟩ ?_
    refine Post.then_ ?_
    refine Cd.condD rfl (fun hq => ?_) (fun hne => ?_)
    · skip
      refine Cd.seq ?_
      refine Cd.region ?_
      refine Seq.val (Runs.assign rfl rfl) rfl rfl rfl ?_
      refine Seq.nil ?_
      refine Post.weak (F' := [(0, _), (2, _), (3, _), (4, _), (9, _), (17, _)]) ⟨rfl, rfl, rfl, rfl, rfl, rfl, trivial⟩ ?_
      refine Post.then_ ?_
      refine Cd.ret ?_
      refine Post.block_ret ?_
      refine Post.then_ret ?_
      refine Post.round_ret ?_
      refine Post.block_ret ?_
      refine Post.then_ret ?_
      refine Post.end1 rfl rfl (.inl rfl) ?_
      refine ⟨ret1 (bool_eq ?_), bel⟩
      unfold reservedB
      exact (List.any_eq_true.2 ⟨x, List.mem_of_getElem? hx, decide_eq_true hq.symm⟩).symm
    · skip
      refine Cd.skip ?_
      refine Post.block_normal ?_
      refine Post.then_ ?_
      refine Cd.region ?_
      refine Seq.val (Runs.move rfl rfl) rfl rfl rfl ?_
      refine Seq.val (Runs.addI rfl rfl rfl (by omega) (by omega)) rfl rfl rfl ?_
      refine Seq.val (Runs.assign rfl rfl) rfl rfl rfl ?_
      refine Seq.nil ?_
      refine Post.weak (F' := [(0, _), (3, _), (4, _), (9, _), (17, _)]) ⟨rfl, rfl, rfl, rfl, rfl, trivial⟩ ?_
      refine Post.round (k + 1) ⟨rfl, rfl, rfl, trivial⟩ ⟨by omega, fun y hy => ?_, bel, k5⟩ (by omega)
      rw [htk] at hy
      rcases List.mem_append.1 hy with hy | hy
      · exact hno y hy
      · simp at hy
        subst hy
        exact fun h => hne h.symm
  · obtain rfl : k = 13 := by omega
    rw [List.take_of_length_le (show reserved.length ≤ 13 from Nat.le_refl _)] at hno
    refine Cd.exit ?_
    refine Post.then_exit ?_
    refine Post.round_exit ?_
    refine Post.block_exit ?_
    refine Post.then_ ?_
    refine Cd.seq ?_
    refine Cd.region ?_
    refine Seq.val (Runs.assign rfl rfl) rfl rfl rfl ?_
    refine Seq.nil ?_
    refine Post.weak (F' := [(0, _), (2, _), (3, _), (4, _), (9, _)]) ⟨rfl, rfl, rfl, rfl, rfl, trivial⟩ ?_
    refine Post.then_ ?_
    refine Cd.ret ?_
    refine Post.end1 rfl rfl (.inl rfl) ?_
    refine ⟨ret1 (bool_eq ?_), bel⟩
    unfold reservedB
    symm
    rw [List.any_eq_false]
    exact fun x hx => by simpa using hno x hx
theorem refFree_any (l : List Nat) (w : World) (hl : ∀ d ∈ l, d < 256) (hlen : l.length ≤ 9223372036854775807) : Calls Try.prog 85 #[.string (strOf l)] w fun e w' => e = .returned (.bool (freeB l)) ∧ Grow w w' := by
  have bel := Below.refl w.heap.size w
  refine Calls.start 10 Try.func85 rfl rfl rfl ?_
  refine Cd.seq ?_
  refine Cd.region ?_
  refine Seq.val (Runs.assign rfl rfl) rfl rfl rfl ?_
  refine Seq.nil ?_
  refine Post.weak (F' := [(0, _), (2, _)]) ⟨rfl, rfl, trivial⟩ ?_
  refine Post.then_ ?_
  refine Cd.seq ?_
  refine Cd.region ?_
  refine Seq.val (Runs.move rfl rfl) rfl rfl rfl ?_
  refine Seq.call (Enters.func rfl rfl rfl (run_enter Try.func25 (by kernel_rfl) rfl)) rfl rfl rfl (refNamed_any l _ hl hlen) ?_
  rintro e w5 ⟨rfl, hb5⟩
  refine ⟨_, rfl, ?_⟩
  replace bel := bel.step hb5
  refine Seq.val (Runs.move rfl rfl) rfl rfl rfl ?_
  refine SeqC.start ?_
  refine SeqC.open rfl rfl rfl rfl rfl rfl rfl (fun hcx => Runs.move rfl rfl) ?_
  refine SeqC.nextC rfl rfl rfl rfl rfl rfl rfl (fun hcx => Enters.func rfl rfl rfl (run_enter Try.func133 (by kernel_rfl) rfl)) (fun hcx => refReserved_any l _ hl) ?_
  intro w1 hw1
  replace bel := bel.step hw1
  refine SeqC.next rfl rfl rfl rfl rfl rfl rfl (fun hcx => Runs.not rfl rfl) ?_
  refine SeqC.and rfl rfl rfl rfl rfl rfl rfl ?_
  refine Seq.val (Runs.assign rfl rfl) rfl rfl rfl ?_
  refine Seq.nil ?_
  refine Post.weak (F' := [(0, _), (2, _)]) ⟨rfl, rfl, trivial⟩ ?_
  refine Post.then_ ?_
  refine Cd.ret ?_
  refine Post.end1 rfl rfl (.inl rfl) ?_
  exact ⟨ret1 (bool_eq (by unfold freeB; cases namedB l <;> rfl)), bel⟩
theorem refBuilt_any (N : Nat) : ∀ (e : Ex) (B : Nat) (v : Value) (w : World), e.nodes ≤ N → Rep w B e v → B ≤ w.heap.size → Calls Try.prog 44 #[v] w fun en w' => en = .returned (.bool (builtB e)) ∧ Grow w w' := by
  induction N with
  | zero => intro e B v w hN; have := e.nodes_pos; omega
  | succ N ih =>
  intro e B v w hN hrep hB
  obtain ⟨A, c, rfl, hv⟩ := hrep.open
  have bel := Below.refl w.heap.size w
  have HB1 := hv.name
  have HB2 : ∀ d ∈ ([] : List Nat), d < 256 := by simp
  have hnl := hv.nlen
  have h60 := hv.h60
  have hn1 := hv.n.1
  have hn2 := hv.n.2
  have hbt := builtB_eq e
  obtain ⟨op, hop⟩ : ∃ op, op = e.op := ⟨_, rfl⟩
  obtain ⟨n, hn⟩ : ∃ n, n = e.n := ⟨_, rfl⟩
  obtain ⟨nm, hnm⟩ : ∃ nm, nm = e.name := ⟨_, rfl⟩
  obtain ⟨k, hk⟩ : ∃ k, k = e.args.length := ⟨_, rfl⟩
  rw [← hop, ← hn, ← hnm, ← hk] at hbt
  rw [← hnm] at HB1 hnl
  rw [← hn] at hn1 hn2
  rw [← hk] at h60
  rw [← hop, ← hn, ← hnm, ← hk]
  have hbf : ∀ _ : ¬ (arityZ op = (k : Int) ∧ (n = 0 ∨ op = 1 ∨ op = 2) ∧ (nm = [] ∨ op = 3) ∧ 0 ≤ n ∧ (op = 2 → n ≤ 2932896) ∧ (op = 3 → freeB nm = true)), builtB e = false := fun h => by rw [hbt, headB_false h]; rfl
  refine Calls.start 71 Try.func44 rfl rfl rfl ?_
  refine Cd.seq ?_
  refine Cd.region ?_
  refine Seq.box rfl rfl rfl rfl rfl ?_
  intro g1 w1 n1
  have e1 := Nat.le_trans bel.size n1.ge
  replace bel := bel.step n1.below
  have k1 := n1.blk
  refine Seq.val (Runs.assign rfl rfl) rfl rfl rfl ?_
  refine Seq.nil ?_
  refine Post.weak (F' := [(0, _), (1, _), (2, _)]) ⟨rfl, rfl, rfl, trivial⟩ ?_
  refine Post.then_ ?_
  refine Cd.seq ?_
  refine Cd.seq ?_
  refine Cd.draw 7 (by kernel_rfl) [] (.inl rfl) rfl Grow Grow.refl (fun _ _ _ => Grow.trans) ?_
  intro w2 hw2 zw2
  replace bel := bel.step hw2
  replace k1 := k1.step hw2
  have zbel := bel.size
  have zlt := k1.lt
  refine Dr.val Grow.refl rfl (fun w hG => Runs.fieldB 3 rfl rfl Try.underlying35 rfl (by kernel_rfl)) rfl ?_
  refine Dr.val Grow.refl rfl (fun w hG => Runs.loadB rfl rfl Try.underlying25 rfl (k1.step hG) rfl) rfl ?_
  refine Dr.val Grow.refl rfl (fun w hG => Runs.len rfl rfl Try.underlying25) rfl ?_
  refine Dr.val Grow.refl rfl (fun w hG => Runs.fieldB 0 rfl rfl Try.underlying35 rfl (by kernel_rfl)) rfl ?_
  refine Dr.val Grow.refl rfl (fun w hG => Runs.loadB rfl rfl Try.underlying3 rfl (k1.step hG) rfl) rfl ?_
  refine Dr.callV rfl (fun w => Enters.func rfl rfl rfl (run_enter Try.func84 (by kernel_rfl) rfl)) rfl (fun w hG => kids_any op w) ?_
  refine Dr.val Grow.refl rfl (fun w hG => Runs.neqI rfl rfl rfl) rfl ?_
  refine Dr.nil ?_
  refine FinX.done (F' := [(0, _), (1, _), (2, _), (10, _)]) rfl ⟨rfl, rfl, rfl, rfl, trivial⟩ ?_
  intro w3 hw3 fw3
  replace bel := bel.step hw3
  replace k1 := k1.step hw3
  refine Seq.nil ?_
  refine Post.weak (F' := [(0, _), (1, _), (2, _), (10, _)]) ⟨rfl, rfl, rfl, rfl, trivial⟩ ?_
  refine Post.then_ ?_
  refine Cd.condD rfl (fun hc => ?_) (fun hc => ?_)
  · skip
    refine Cd.seq ?_
    refine Cd.region ?_
    refine Seq.val (Runs.assign rfl rfl) rfl rfl rfl ?_
    refine Seq.nil ?_
    refine Post.weak (F' := [(0, _), (1, _), (2, _), (10, _)]) ⟨rfl, rfl, rfl, rfl, trivial⟩ ?_
    refine Post.then_ ?_
    refine Cd.ret ?_
    refine Post.then_ret ?_
    refine Post.end1 rfl rfl (.inl rfl) ?_
    rw [hbf (by omega)]
    exact ⟨rfl, bel⟩
  · skip
    refine Cd.skip ?_
    refine Post.then_ ?_
    refine Cd.seqJ (σ := Unit) (fun _ => [(1, .pointer (some ⟨g1, 0, none⟩))]) (fun _ wr => headB op n nm k = true ∧ Below w.heap.size w wr ∧ Blk wr g1 35 #[.int .i64 op, .int .i64 n, .string (strOf nm), .slice A k c]) ?_ ?_
    · skip
      refine Cd.seq ?_
      refine Cd.region ?_
      refine Seq.val (Runs.fieldB 0 rfl rfl Try.underlying35 rfl (by kernel_rfl)) rfl rfl rfl ?_
      refine Seq.val (Runs.loadB rfl rfl Try.underlying3 rfl k1 rfl) rfl rfl rfl ?_
      refine Seq.nil ?_
      refine Post.weak (F' := [(0, _), (1, _), (2, _), (10, _), (12, _)]) ⟨rfl, rfl, rfl, rfl, rfl, trivial⟩ ?_
      refine Post.then_ ?_
      refine Cd.block ?_
      refine Cd.seq ?_
      refine Cd.region ?_
      refine Seq.val (Runs.eqlI rfl rfl rfl) rfl rfl rfl ?_
      refine Seq.val (Runs.assign rfl rfl) rfl rfl rfl ?_
      refine Seq.nil ?_
      refine Post.weak (F' := [(0, _), (1, _), (2, _), (10, _), (12, _), (21, _)]) ⟨rfl, rfl, rfl, rfl, rfl, rfl, trivial⟩ ?_
      refine Post.then_ ?_
      refine Cd.condD rfl (fun ho => ?_) (fun ho => ?_)
      · skip
        refine Cd.seq ?_
        refine Cd.region ?_
        refine Seq.val (Runs.fieldB 1 rfl rfl Try.underlying35 rfl (by kernel_rfl)) rfl rfl rfl ?_
        refine Seq.val (Runs.loadB rfl rfl Try.underlying2 rfl k1 rfl) rfl rfl rfl ?_
        refine Seq.val (Runs.lss rfl rfl rfl) rfl rfl rfl ?_
        refine Seq.val (Runs.move rfl rfl) rfl rfl rfl ?_
        refine SeqC.start ?_
        refine SeqC.open rfl rfl rfl rfl rfl rfl rfl (fun hcx => Runs.fieldB 2 rfl rfl Try.underlying35 rfl (by kernel_rfl)) ?_
        refine SeqC.next rfl rfl rfl rfl rfl rfl rfl (fun hcx => Runs.loadB rfl rfl Try.underlying9 rfl k1 rfl) ?_
        refine SeqC.next rfl rfl rfl rfl rfl rfl rfl (fun hcx => Runs.neqL (b := []) rfl rfl rfl HB1 HB2) ?_
        refine SeqC.or rfl rfl rfl rfl rfl rfl rfl ?_
        refine Seq.nil ?_
        refine Post.weak (F' := [(0, _), (1, _), (2, _), (10, _), (12, _), (21, _), (30, _)]) ⟨rfl, rfl, rfl, rfl, rfl, rfl, rfl, trivial⟩ ?_
        refine Post.then_ ?_
        refine Cd.cond rfl (fun h => ?_) (fun h => ?_)
        · skip
          refine Cd.seq ?_
          refine Cd.region ?_
          refine Seq.val (Runs.assign rfl rfl) rfl rfl rfl ?_
          refine Seq.nil ?_
          refine Post.weak (F' := [(0, _), (1, _), (2, _), (10, _), (12, _), (21, _), (30, _)]) ⟨rfl, rfl, rfl, rfl, rfl, rfl, rfl, trivial⟩ ?_
          refine Post.then_ ?_
          refine Cd.ret ?_
          refine Post.block_ret ?_
          refine Post.then_ret ?_
          refine Post.end1 rfl rfl (.inl rfl) ?_
          simp at h
          rw [hbf (by rintro ⟨-, -, h3, h4, -⟩; rcases h with h | h; omega; rcases h3 with h3 | h3; exact h h3; omega)]
          exact ⟨rfl, bel⟩
        · simp at h
          refine Cd.skip ?_
          refine Post.block_normal ?_
          exact Post.join () ⟨rfl, trivial⟩ ⟨headB_true (by omega) (by omega) (.inl h.2) (by omega) (by omega) (by omega), bel, k1⟩
      · skip
        refine Cd.seq ?_
        refine Cd.region ?_
        refine Seq.val (Runs.eqlI rfl rfl rfl) rfl rfl rfl ?_
        refine Seq.val (Runs.assign rfl rfl) rfl rfl rfl ?_
        refine Seq.nil ?_
        refine Post.weak (F' := [(0, _), (1, _), (2, _), (10, _), (12, _), (21, _), (31, _)]) ⟨rfl, rfl, rfl, rfl, rfl, rfl, rfl, trivial⟩ ?_
        refine Post.then_ ?_
        refine Cd.condD rfl (fun ho2 => ?_) (fun ho2 => ?_)
        · skip
          refine Cd.seq ?_
          refine Cd.region ?_
          refine Seq.val (Runs.fieldB 1 rfl rfl Try.underlying35 rfl (by kernel_rfl)) rfl rfl rfl ?_
          refine Seq.val (Runs.loadB rfl rfl Try.underlying2 rfl k1 rfl) rfl rfl rfl ?_
          refine Seq.val (Runs.lss rfl rfl rfl) rfl rfl rfl ?_
          refine Seq.val (Runs.move rfl rfl) rfl rfl rfl ?_
          refine SeqC.start ?_
          refine SeqC.open rfl rfl rfl rfl rfl rfl rfl (fun hcx => Runs.fieldB 1 rfl rfl Try.underlying35 rfl (by kernel_rfl)) ?_
          refine SeqC.next rfl rfl rfl rfl rfl rfl rfl (fun hcx => Runs.loadB rfl rfl Try.underlying2 rfl k1 rfl) ?_
          refine SeqC.next rfl rfl rfl rfl rfl rfl rfl (fun hcx => Runs.gtr rfl rfl rfl) ?_
          refine SeqC.or rfl rfl rfl rfl rfl rfl rfl ?_
          refine Seq.val (Runs.move rfl rfl) rfl rfl rfl ?_
          refine SeqC.start ?_
          refine SeqC.open rfl rfl rfl rfl rfl rfl rfl (fun hcx => Runs.fieldB 2 rfl rfl Try.underlying35 rfl (by kernel_rfl)) ?_
          refine SeqC.next rfl rfl rfl rfl rfl rfl rfl (fun hcx => Runs.loadB rfl rfl Try.underlying9 rfl k1 rfl) ?_
          refine SeqC.next rfl rfl rfl rfl rfl rfl rfl (fun hcx => Runs.neqL (b := []) rfl rfl rfl HB1 HB2) ?_
          refine SeqC.or rfl rfl rfl rfl rfl rfl rfl ?_
          refine Seq.nil ?_
          refine Post.weak (F' := [(0, _), (1, _), (2, _), (10, _), (12, _), (21, _), (31, _), (45, _)]) ⟨rfl, rfl, rfl, rfl, rfl, rfl, rfl, rfl, trivial⟩ ?_
          refine Post.then_ ?_
          refine Cd.cond rfl (fun h => ?_) (fun h => ?_)
          · skip
            refine Cd.seq ?_
            refine Cd.region ?_
            refine Seq.val (Runs.assign rfl rfl) rfl rfl rfl ?_
            refine Seq.nil ?_
            refine Post.weak (F' := [(0, _), (1, _), (2, _), (10, _), (12, _), (21, _), (31, _), (45, _)]) ⟨rfl, rfl, rfl, rfl, rfl, rfl, rfl, rfl, trivial⟩ ?_
            refine Post.then_ ?_
            refine Cd.ret ?_
            refine Post.block_ret ?_
            refine Post.then_ret ?_
            refine Post.end1 rfl rfl (.inl rfl) ?_
            simp at h
            rw [hbf (by rintro ⟨-, -, h3, h4, h5, -⟩; rcases h with (h | h) | h; omega; (have := h5 ho2; omega); (rcases h3 with h3 | h3; exact h h3; omega))]
            exact ⟨rfl, bel⟩
          · simp at h
            refine Cd.skip ?_
            refine Post.block_normal ?_
            exact Post.join () ⟨rfl, trivial⟩ ⟨headB_true (by omega) (by omega) (.inl h.2) (by omega) (by omega) (by omega), bel, k1⟩
        · skip
          refine Cd.seq ?_
          refine Cd.region ?_
          refine Seq.val (Runs.eqlI rfl rfl rfl) rfl rfl rfl ?_
          refine Seq.val (Runs.assign rfl rfl) rfl rfl rfl ?_
          refine Seq.nil ?_
          refine Post.weak (F' := [(0, _), (1, _), (2, _), (10, _), (12, _), (21, _), (31, _), (46, _)]) ⟨rfl, rfl, rfl, rfl, rfl, rfl, rfl, rfl, trivial⟩ ?_
          refine Post.then_ ?_
          refine Cd.condD rfl (fun ho3 => ?_) (fun ho3 => ?_)
          · skip
            refine Cd.seq ?_
            refine Cd.region ?_
            refine Seq.val (Runs.fieldB 1 rfl rfl Try.underlying35 rfl (by kernel_rfl)) rfl rfl rfl ?_
            refine Seq.val (Runs.loadB rfl rfl Try.underlying2 rfl k1 rfl) rfl rfl rfl ?_
            refine Seq.val (Runs.neqI rfl rfl rfl) rfl rfl rfl ?_
            refine Seq.val (Runs.move rfl rfl) rfl rfl rfl ?_
            refine SeqC.start ?_
            refine SeqC.open rfl rfl rfl rfl rfl rfl rfl (fun hcx => Runs.fieldB 2 rfl rfl Try.underlying35 rfl (by kernel_rfl)) ?_
            refine SeqC.next rfl rfl rfl rfl rfl rfl rfl (fun hcx => Runs.loadB rfl rfl Try.underlying9 rfl k1 rfl) ?_
            refine SeqC.nextC rfl rfl rfl rfl rfl rfl rfl (fun hcx => Enters.func rfl rfl rfl (run_enter Try.func85 (by kernel_rfl) rfl)) (fun hcx => refFree_any nm _ HB1 hnl) ?_
            intro w4 hw4
            replace bel := bel.step hw4
            replace k1 := k1.step hw4
            refine SeqC.next rfl rfl rfl rfl rfl rfl rfl (fun hcx => Runs.not rfl rfl) ?_
            refine SeqC.or rfl rfl rfl rfl rfl rfl rfl ?_
            refine Seq.nil ?_
            refine Post.weak (F' := [(0, _), (1, _), (2, _), (10, _), (12, _), (21, _), (31, _), (46, _), (56, _)]) ⟨rfl, rfl, rfl, rfl, rfl, rfl, rfl, rfl, rfl, trivial⟩ ?_
            refine Post.then_ ?_
            refine Cd.cond rfl (fun h => ?_) (fun h => ?_)
            · skip
              refine Cd.seq ?_
              refine Cd.region ?_
              refine Seq.val (Runs.assign rfl rfl) rfl rfl rfl ?_
              refine Seq.nil ?_
              refine Post.weak (F' := [(0, _), (1, _), (2, _), (10, _), (12, _), (21, _), (31, _), (46, _), (56, _)]) ⟨rfl, rfl, rfl, rfl, rfl, rfl, rfl, rfl, rfl, trivial⟩ ?_
              refine Post.then_ ?_
              refine Cd.ret ?_
              refine Post.block_ret ?_
              refine Post.then_ret ?_
              refine Post.end1 rfl rfl (.inl rfl) ?_
              simp at h
              rw [hbf (by rintro ⟨-, h2, -, -, -, h6⟩; rcases h with h | h; omega; (rw [h6 ho3] at h; cases h))]
              exact ⟨rfl, bel⟩
            · simp at h
              refine Cd.skip ?_
              refine Post.block_normal ?_
              exact Post.join () ⟨rfl, trivial⟩ ⟨headB_true (by omega) (.inl (by omega)) (.inr ho3) (by omega) (by omega) (fun _ => h.2), bel, k1⟩
          · skip
            refine Cd.seq ?_
            refine Cd.region ?_
            refine Seq.val (Runs.fieldB 1 rfl rfl Try.underlying35 rfl (by kernel_rfl)) rfl rfl rfl ?_
            refine Seq.val (Runs.loadB rfl rfl Try.underlying2 rfl k1 rfl) rfl rfl rfl ?_
            refine Seq.val (Runs.neqI rfl rfl rfl) rfl rfl rfl ?_
            refine Seq.val (Runs.move rfl rfl) rfl rfl rfl ?_
            refine SeqC.start ?_
            refine SeqC.open rfl rfl rfl rfl rfl rfl rfl (fun hcx => Runs.fieldB 2 rfl rfl Try.underlying35 rfl (by kernel_rfl)) ?_
            refine SeqC.next rfl rfl rfl rfl rfl rfl rfl (fun hcx => Runs.loadB rfl rfl Try.underlying9 rfl k1 rfl) ?_
            refine SeqC.next rfl rfl rfl rfl rfl rfl rfl (fun hcx => Runs.neqL (b := []) rfl rfl rfl HB1 HB2) ?_
            refine SeqC.or rfl rfl rfl rfl rfl rfl rfl ?_
            refine Seq.nil ?_
            refine Post.weak (F' := [(0, _), (1, _), (2, _), (10, _), (12, _), (20, _), (21, _), (31, _), (46, _)]) ⟨rfl, rfl, rfl, rfl, rfl, rfl, rfl, rfl, rfl, trivial⟩ ?_
            refine Post.then_ ?_
            refine Cd.cond rfl (fun h => ?_) (fun h => ?_)
            · skip
              refine Cd.seq ?_
              refine Cd.region ?_
              refine Seq.val (Runs.assign rfl rfl) rfl rfl rfl ?_
              refine Seq.nil ?_
              refine Post.weak (F' := [(0, _), (1, _), (2, _), (10, _), (12, _), (20, _), (21, _), (31, _), (46, _)]) ⟨rfl, rfl, rfl, rfl, rfl, rfl, rfl, rfl, rfl, trivial⟩ ?_
              refine Post.then_ ?_
              refine Cd.ret ?_
              refine Post.block_ret ?_
              refine Post.then_ret ?_
              refine Post.end1 rfl rfl (.inl rfl) ?_
              simp at h
              rw [hbf (by rintro ⟨-, h2, h3, -⟩; rcases h with h | h; omega; (rcases h3 with h3 | h3; exact h h3; omega))]
              exact ⟨rfl, bel⟩
            · simp at h
              refine Cd.skip ?_
              refine Post.block_normal ?_
              exact Post.join () ⟨rfl, trivial⟩ ⟨headB_true (by omega) (.inl (by omega)) (.inl h.2) (by omega) (by omega) (by omega), bel, k1⟩
    clear bel k1
    rintro ⟨⟩ wr ⟨hh, bel, k1⟩
    rw [hh, Bool.true_and] at hbt
    rw [hbt]
    clear hbf
    refine Cd.seq ?_
    refine Cd.seq ?_
    refine Cd.region ?_
    refine Seq.val (Runs.assign rfl rfl) rfl rfl rfl ?_
    refine Seq.nil ?_
    refine Post.weak (F' := [(1, _), (3, _)]) ⟨rfl, rfl, trivial⟩ ?_
    refine Post.then_ ?_
    refine Cd.block ?_
    refine Cd.loop (σ := Nat) (fun j => [(1, .pointer (some ⟨g1, 0, none⟩)), (3, .int .i64 (j : Int))])
      (fun j wr => j ≤ k ∧ (∀ x ∈ e.args.take j, builtB x = true) ∧ Below w.heap.size w wr ∧ Blk wr g1 35 #[.int .i64 op, .int .i64 n, .string (strOf nm), .slice A k c]) (fun j => k - j) 0 ⟨Nat.zero_le _, by simp, bel, k1⟩ ⟨rfl, rfl, trivial⟩ ?_
    clear bel k1
    rintro j wr ⟨hj, hall, bel, k1⟩
    refine Cd.seq ?_
    refine Cd.seq ?_
    refine Cd.region ?_
    refine Seq.val (Runs.move rfl rfl) rfl rfl rfl ?_
    refine Seq.val (Runs.fieldB 3 rfl rfl Try.underlying35 rfl (by kernel_rfl)) rfl rfl rfl ?_
    refine Seq.val (Runs.loadB rfl rfl Try.underlying25 rfl k1 rfl) rfl rfl rfl ?_
    refine Seq.val (Runs.len rfl rfl Try.underlying25) rfl rfl rfl ?_
    refine Seq.val (Runs.lss rfl rfl rfl) rfl rfl rfl ?_
    refine Seq.nil ?_
    refine Post.weak (F' := [(1, _), (3, _), (61, _)]) ⟨rfl, rfl, rfl, trivial⟩ ?_
    refine Post.then_ ?_
    refine Cd.condD rfl (fun hc => ?_) (fun hc => ?_)
    · obtain ⟨x, hx⟩ : ∃ x, e.args[j]? = some x := ⟨_, List.getElem?_eq_getElem (show j < e.args.length by omega)⟩
      obtain ⟨ad, A', c', rfl, hbl, hrx, hc⟩ := hv.arg j x hx
      have hxm := List.mem_of_getElem? hx
      have hxn := Ex.arg_nodes hxm
      have hc := fun i u hj => ((bel.mono hB).cell (p := (ad.add (j * 4)).add i) (by rw [block_of_add, block_of_add]; exact hbl)).trans (hc i u hj)
      have htk : e.args.take (j + 1) = e.args.take j ++ [x] := by rw [List.take_add_one, hx]; rfl
      have hrec := ih x B _ wr (by omega) (hrx.below (bel.mono hB)) (Nat.le_trans hB bel.size)
      refine Cd.skip ?_
      refine Post.then_ ?_
      refine Cd.seq ?_
      refine Cd.block ?_
      refine Cd.seq ?_
      refine Cd.region ?_
      refine Seq.val (Runs.fieldB 3 rfl rfl Try.underlying35 rfl (by kernel_rfl)) rfl rfl rfl ?_
      refine Seq.val (Runs.loadB rfl rfl Try.underlying25 rfl k1 rfl) rfl rfl rfl ?_
      refine Seq.val (Runs.move rfl rfl) rfl rfl rfl ?_
      refine Seq.val (Runs.indexN rfl rfl rfl Try.underlying25 (s := 4) (by kernel_rfl) (j := j) rfl (by omega)) rfl rfl rfl ?_
      refine Seq.val (Runs.loadF (ps := [.int .i64 x.op, .int .i64 x.n, .string (strOf x.name), .slice A' x.args.length c']) rfl rfl Try.underlying35 rfl (m := 4) (by kernel_rfl) rfl hc) rfl rfl rfl ?_
      refine Seq.call (Enters.func rfl rfl rfl (run_enter Try.func44 (by kernel_rfl) rfl)) rfl rfl rfl (hrec) ?_
      rintro en w5 ⟨rfl, hb5⟩
      refine ⟨_, rfl, ?_⟩
      replace bel := bel.step hb5
      replace k1 := k1.step hb5
      refine Seq.val (Runs.not rfl rfl) rfl rfl rfl ?_
      refine Seq.nil ?_
      refine Post.weak (F' := [(1, _), (3, _), (61, _), (70, _)]) ⟨rfl, rfl, rfl, rfl, trivial⟩ ?_
      refine Post.then_ ?_
      refine Cd.cond rfl (fun h => ?_) (fun h => ?_)
      · skip
        refine Cd.seq ?_
        refine Cd.region ?_
        refine Seq.val (Runs.assign rfl rfl) rfl rfl rfl ?_
        refine Seq.nil ?_
        refine Post.weak (F' := [(1, _), (2, _), (3, _), (61, _), (70, _)]) ⟨rfl, rfl, rfl, rfl, rfl, trivial⟩ ?_
        refine Post.then_ ?_
        refine Cd.ret ?_
        refine Post.block_ret ?_
        refine Post.then_ret ?_
        refine Post.round_ret ?_
        refine Post.block_ret ?_
        refine Post.then_ret ?_
        refine Post.end1 rfl rfl (.inl rfl) ?_
        refine ⟨ret1 (bool_eq ?_), bel⟩
        symm
        rw [List.all_eq_false]
        exact ⟨x, hxm, by simpa using h⟩
      · skip
        refine Cd.skip ?_
        refine Post.block_normal ?_
        refine Post.then_ ?_
        refine Cd.region ?_
        refine Seq.val (Runs.move rfl rfl) rfl rfl rfl ?_
        refine Seq.val (Runs.addI rfl rfl rfl (by omega) (by omega)) rfl rfl rfl ?_
        refine Seq.val (Runs.assign rfl rfl) rfl rfl rfl ?_
        refine Seq.nil ?_
        refine Post.weak (F' := [(1, _), (3, _), (61, _), (70, _)]) ⟨rfl, rfl, rfl, rfl, trivial⟩ ?_
        refine Post.round (j + 1) ⟨rfl, rfl, trivial⟩ ⟨by omega, fun y hy => ?_, bel, k1⟩ (by omega)
        rw [htk] at hy
        rcases List.mem_append.1 hy with hy | hy
        · exact hall y hy
        · simp at hy
          subst hy
          simpa using h
    · obtain rfl : j = k := by omega
      rw [List.take_of_length_le (by omega)] at hall
      refine Cd.exit ?_
      refine Post.then_exit ?_
      refine Post.round_exit ?_
      refine Post.block_exit ?_
      refine Post.then_ ?_
      refine Cd.seq ?_
      refine Cd.region ?_
      refine Seq.val (Runs.assign rfl rfl) rfl rfl rfl ?_
      refine Seq.nil ?_
      refine Post.weak (F' := [(1, _), (2, _), (3, _), (61, _)]) ⟨rfl, rfl, rfl, rfl, trivial⟩ ?_
      refine Post.then_ ?_
      refine Cd.ret ?_
      refine Post.end1 rfl rfl (.inl rfl) ?_
      refine ⟨ret1 (bool_eq ?_), bel⟩
      symm
      rw [List.all_eq_true]
      exact hall
end Go.Proofs.Ytijaldpmpjapiaa

namespace Go.Proofs.Ytijaldpmpjapiaa
open Go.RowKit

theorem Runs.convU {P : Program} {E : Operand → Option Value} {o : Oper} {w : World} {x : Operand} {T T' : TypeId} {p : Int} {r : Nat} (ho : o.op = .convert T T' x) (hx : E x = some (.int .i64 p)) (hS : P.underlying T = some (.int .i64)) (hT : P.underlying T' = some (.int .u64)) (hr : p % 18446744073709551616 = (r : Int)) : Runs P E o w (.int .u64 (r : Int)) w :=
  .convI ho hx hS hT (by rw [IntKind.wrap_u64, hr])
/-- An earlier place. -/
def earl (k : Int) (at_ : Nat) : Nat := at_ - 1 - (k % 18446744073709551616).toNat % at_
theorem earlier_zero (k : Int) (w : World) : Calls Try.prog 38 #[.int .i64 k, .int .i64 0] w fun e w' => e = .returned (.int .i64 (-1)) ∧ Grow w w' := by
  have bel := Below.refl w.heap.size w
  refine Calls.start 16 Try.func38 rfl rfl rfl ?_
  refine Cd.seq ?_
  refine Cd.region ?_
  refine Seq.val (Runs.assign rfl rfl) rfl rfl rfl ?_
  refine Seq.nil ?_
  refine Post.weak (F' := [(0, _), (1, _), (4, _)]) ⟨rfl, rfl, rfl, trivial⟩ ?_
  refine Post.then_ ?_
  refine Cd.seq ?_
  refine Cd.seq ?_
  refine Cd.region ?_
  refine Seq.val (Runs.move rfl rfl) rfl rfl rfl ?_
  refine Seq.val (Runs.eqlI rfl rfl rfl) rfl rfl rfl ?_
  refine Seq.nil ?_
  refine Post.weak (F' := [(0, _), (1, _), (4, _), (6, _)]) ⟨rfl, rfl, rfl, rfl, trivial⟩ ?_
  refine Post.then_ ?_
  refine Cd.condT rfl rfl ?_
  refine Cd.seq ?_
  refine Cd.region ?_
  refine Seq.val (Runs.assign rfl rfl) rfl rfl rfl ?_
  refine Seq.nil ?_
  refine Post.weak (F' := [(0, _), (1, _), (4, _), (6, _)]) ⟨rfl, rfl, rfl, rfl, trivial⟩ ?_
  refine Post.then_ ?_
  refine Cd.ret ?_
  refine Post.then_ret ?_
  refine Post.end1 rfl rfl (.inl rfl) ?_
  exact ⟨rfl, bel⟩
theorem earlier_any (k : Int) (at_ : Nat) (w : World) (h0 : 0 < at_) (h1 : at_ ≤ 1000) : Calls Try.prog 38 #[.int .i64 k, .int .i64 (at_ : Int)] w fun e w' => e = .returned (.int .i64 (earl k at_ : Int)) ∧ Grow w w' := by
  have bel := Below.refl w.heap.size w
  obtain ⟨u, hu⟩ : ∃ u : Nat, k % 18446744073709551616 = (u : Int) := ⟨(k % 18446744073709551616).toNat, by omega⟩
  obtain ⟨m, hm⟩ : ∃ m, m = u % at_ := ⟨_, rfl⟩
  have hml : m < at_ := by rw [hm]; exact Nat.mod_lt _ h0
  have he : earl k at_ = at_ - 1 - m := by unfold earl; rw [hu, hm, Int.toNat_natCast]
  rw [he]
  refine Calls.start 16 Try.func38 rfl rfl rfl ?_
  refine Cd.seq ?_
  refine Cd.region ?_
  refine Seq.val (Runs.assign rfl rfl) rfl rfl rfl ?_
  refine Seq.nil ?_
  refine Post.weak (F' := [(0, _), (1, _), (4, _)]) ⟨rfl, rfl, rfl, trivial⟩ ?_
  refine Post.then_ ?_
  refine Cd.seq ?_
  refine Cd.seq ?_
  refine Cd.region ?_
  refine Seq.val (Runs.move rfl rfl) rfl rfl rfl ?_
  refine Seq.val (Runs.eqlI rfl rfl rfl) rfl rfl rfl ?_
  refine Seq.nil ?_
  refine Post.weak (F' := [(0, _), (1, _), (4, _), (6, _)]) ⟨rfl, rfl, rfl, rfl, trivial⟩ ?_
  refine Post.then_ ?_
  refine Cd.condF rfl (decide_eq_false (by omega)) ?_
  refine Cd.skip ?_
  refine Post.then_ ?_
  refine Cd.seq ?_
  refine Cd.region ?_
  refine Seq.val (Runs.move rfl rfl) rfl rfl rfl ?_
  refine Seq.val (Runs.subI rfl rfl rfl (by omega) (by omega)) rfl rfl rfl ?_
  refine Seq.val (Runs.move rfl rfl) rfl rfl rfl ?_
  refine Seq.val (Runs.convU (r := u) rfl rfl Try.underlying3 Try.underlying63 hu) rfl rfl rfl ?_
  refine Seq.val (Runs.move rfl rfl) rfl rfl rfl ?_
  refine Seq.val (Runs.convU (r := at_) rfl rfl Try.underlying3 Try.underlying63 (by omega)) rfl rfl rfl ?_
  refine Seq.val ((Runs.remN rfl rfl rfl (by omega) (by omega)).cast (v' := .int .u64 (m : Int)) (int_eq (by rw [hm]; exact (Int.natCast_emod _ _).symm))) rfl rfl rfl ?_
  refine Seq.val (Runs.convI rfl rfl Try.underlying63 Try.underlying3 (wrapI (by omega) (by omega))) rfl rfl rfl ?_
  refine Seq.val (Runs.subI rfl rfl rfl (by omega) (by omega)) rfl rfl rfl ?_
  refine Seq.val (Runs.assign rfl rfl) rfl rfl rfl ?_
  refine Seq.nil ?_
  refine Post.weak (F' := [(0, _), (1, _), (4, _), (6, _)]) ⟨rfl, rfl, rfl, rfl, trivial⟩ ?_
  refine Post.then_ ?_
  refine Cd.ret ?_
  refine Post.end1 rfl rfl (.inl rfl) ?_
  exact ⟨ret1 (int_eq (by omega)), bel⟩
def toldZ (n d : Int) : Int × Int := if 1000 ≤ n ∨ 1000 ≤ d then (1000, 1000) else (n, d)
theorem told_any (n d : Int) (w : World) : Calls Try.prog 39 #[.int .i64 n, .int .i64 d] w fun e w' => e = .returned (.tuple #[.int .i64 (toldZ n d).1, .int .i64 (toldZ n d).2]) ∧ Grow w w' := by
  have bel := Below.refl w.heap.size w
  refine Calls.start 14 Try.func39 rfl rfl rfl ?_
  refine Cd.seq ?_
  refine Cd.region ?_
  refine Seq.val (Runs.assign rfl rfl) rfl rfl rfl ?_
  refine Seq.val (Runs.assign rfl rfl) rfl rfl rfl ?_
  refine Seq.nil ?_
  refine Post.weak (F' := [(0, _), (1, _), (4, _), (5, _)]) ⟨rfl, rfl, rfl, rfl, trivial⟩ ?_
  refine Post.then_ ?_
  refine Cd.seq ?_
  refine Cd.seq ?_
  refine Cd.region ?_
  refine Seq.val (Runs.move rfl rfl) rfl rfl rfl ?_
  refine Seq.val (Runs.geq rfl rfl rfl) rfl rfl rfl ?_
  refine Seq.val (Runs.move rfl rfl) rfl rfl rfl ?_
  refine SeqC.start ?_
  refine SeqC.open rfl rfl rfl rfl rfl rfl rfl (fun hcx => Runs.move rfl rfl) ?_
  refine SeqC.next rfl rfl rfl rfl rfl rfl rfl (fun hcx => Runs.geq rfl rfl rfl) ?_
  refine SeqC.or rfl rfl rfl rfl rfl rfl rfl ?_
  refine Seq.nil ?_
  refine Post.weak (F' := [(0, _), (1, _), (4, _), (5, _), (11, _)]) ⟨rfl, rfl, rfl, rfl, rfl, trivial⟩ ?_
  refine Post.then_ ?_
  refine Cd.cond rfl (fun h => ?_) (fun h => ?_)
  · simp at h
    refine Cd.seq ?_
    refine Cd.region ?_
    refine Seq.val (Runs.assign rfl rfl) rfl rfl rfl ?_
    refine Seq.val (Runs.assign rfl rfl) rfl rfl rfl ?_
    refine Seq.nil ?_
    refine Post.weak (F' := [(0, _), (1, _), (4, _), (5, _), (11, _)]) ⟨rfl, rfl, rfl, rfl, rfl, trivial⟩ ?_
    refine Post.then_ ?_
    refine Cd.ret ?_
    refine Post.then_ret ?_
    refine Post.end2 rfl rfl rfl (.inl rfl) ?_
    unfold toldZ
    rw [if_pos h]
    exact ⟨rfl, bel⟩
  · simp at h
    refine Cd.skip ?_
    refine Post.then_ ?_
    refine Cd.seq ?_
    refine Cd.region ?_
    refine Seq.val (Runs.move rfl rfl) rfl rfl rfl ?_
    refine Seq.val (Runs.move rfl rfl) rfl rfl rfl ?_
    refine Seq.val (Runs.assign rfl rfl) rfl rfl rfl ?_
    refine Seq.val (Runs.assign rfl rfl) rfl rfl rfl ?_
    refine Seq.nil ?_
    refine Post.weak (F' := [(0, _), (1, _), (4, _), (5, _), (11, _)]) ⟨rfl, rfl, rfl, rfl, rfl, trivial⟩ ?_
    refine Post.then_ ?_
    refine Cd.ret ?_
    refine Post.end2 rfl rfl rfl (.inl rfl) ?_
    unfold toldZ
    rw [if_neg (by omega)]
    exact ⟨rfl, bel⟩
/-- Trees that are made, in blocks of a list. -/
structure Forest (w : World) (T : List Nat) (es : List Ex) (vs : List Value) : Prop where
  len : vs.length = es.length
  lt : ∀ b ∈ T, b < w.heap.size
  rep : ∀ (i : Nat) (e : Ex) (v : Value), es[i]? = some e → vs[i]? = some v → RepE w (· ∈ T) e v
section
variable {w w' : World} {T : List Nat} {es : List Ex} {vs : List Value}
theorem Forest.keep (h : Forest w T es vs) (hs : w.heap.size ≤ w'.heap.size) (hb : ∀ b ∈ T, w'.heap[b]? = w.heap[b]?) : Forest w' T es vs :=
  ⟨h.len, fun b hm => Nat.lt_of_lt_of_le (h.lt b hm) hs, fun i e v he hv => (h.rep i e v he hv).mono (fun _ h => h) (fun p hp => World.cell?_of_block (hb p.block hp))⟩
theorem Forest.step (h : Forest w T es vs) (hb : Below w.heap.size w w') : Forest w' T es vs := h.keep hb.size (fun b hm => hb.block b (h.lt b hm))
theorem Forest.grown {row : Option Nat} (h : Forest w T es vs) (hg : w.grownBy w' row) (hne : ∀ b, row = some b → b ∉ T) : Forest w' T es vs := h.keep hg.size (fun b hm => hg.block b (h.lt b hm) (fun e => hne b e.symm hm))
theorem Forest.nil (w : World) : Forest w [] [] [] := ⟨rfl, fun b h => (by cases h), fun i e v h => by cases h⟩
theorem Forest.cells (h : Forest w T es vs) : sizes 4 vs := by
  have : ∀ v ∈ vs, v.cells.size = 4 := fun v hv => by
    obtain ⟨k, hk, rfl⟩ := List.getElem_of_mem hv
    obtain ⟨z, hz⟩ : ∃ z, es[k]? = some z := ⟨_, List.getElem?_eq_getElem (by have := h.len; omega)⟩
    exact (h.rep k z _ hz (List.getElem?_eq_getElem hk)).cells4
  clear h
  induction vs with
  | nil => trivial
  | cons v r ih => exact ⟨this v List.mem_cons_self, ih (fun u hu => this u (List.mem_cons_of_mem _ hu))⟩
end
theorem Own.kept' {w w' : World} {B size n : Nat} {e : TypeId} {v : Value} {xs : List Value} {row : Option Nat} (h : Own w B e size v n xs) (hg : w.grownBy w' row) (hne : ∀ b, v.ownBlock = some b → row ≠ some b) : Own w' B e size v n xs := by
  refine ⟨h.row.kept hg ?_⟩
  cases hv : v.ownBlock with
  | none => exact .inl rfl
  | some b => exact .inr fun e' => hne b hv e'.symm
theorem Own.blockLt {w : World} {B size n : Nat} {e : TypeId} {v : Value} {xs : List Value} (h : Own w B e size v n xs) : ∀ b, v.ownBlock = some b → B ≤ b ∧ b < w.heap.size := fun b hb => by
  obtain ⟨h1, h2⟩ := h.row
  rcases h2 with ⟨rfl, -⟩ | ⟨g', cap, cur, rfl, e2, e3, e4⟩
  · cases hb
  · injection hb with hb
    subst hb
    exact ⟨e2, (show Blk w g' e cur from e3).lt⟩
section
variable {P : Program} {ops : Array Oper} {Q : Exit → Act → World → Prop} {rest : List Oper} {o : Oper} {n d : Nat} {F : List (Nat × Value)} {w : World} {v : Value} {x y : Operand}
/-- append, and where its row lies. -/
theorem Seq.append2 {t e B B2 size b k m c : Nat} {A : Option Addr} {z : Value} {xs news : List Value} (ho : o.op = .call { callee := .builtin .append, args := #[x, y], argTypes := #[t, t] }) (hx : evF F x = some v) (hy : evF F y = some (.slice A m c)) (ht : P.underlying t = some (.slice e)) (hs : sizeIs P e size = true) (hz : zeroIs P e = some (some z)) (hzs : z.cells.size = size) (hsz : 0 < size) (hby : (P.info? e).map (·.bytes) = some b)
    (hown : Own w B e size v k xs) (hr : Reads w B2 size A m news) (h1 : ∀ u ∈ news, u.oneCell' = true) (hB : B ≤ w.heap.size) (h63 : k + m ≤ maxLen) (hbytes : (k + m) * b ≤ 140737488355328) (hg : o.guard = none) (hd : o.dst = some d) (hn : Nat.blt d n = true)
    (h : ∀ v' w', Own w' B e size v' (k + m) (xs ++ news) → App w w' B v → (v'.ownBlock = v.ownBlock ∨ v'.ownBlock = some w.heap.size) → Seq P ops Q rest n ((d, v') :: F) w') : Seq P ops Q (o :: rest) n F w := by
  obtain ⟨i, hi, hisz⟩ := sizeIs_spec hs
  have hz' : i.zero = some z := by unfold zeroIs at hz; rw [hi] at hz; injection hz
  have hb' : i.bytes = b := by rw [hi] at hby; injection hby
  obtain ⟨v', w', hrun, h2, h3, h4⟩ := run_append_any (P := P) w B t o.type e i z size b ht hi hz' hisz hb' hzs hsz v k xs hown.row B2 A m c news hr h1 h63 hbytes hB
  refine Seq.val (v := v') (w' := w') (fun ρ hρ => ?_) hg hd hn (h v' w' ⟨h2⟩ ⟨?_, h3⟩ h4)
  · unfold execOp
    simp only [ho, resolve, invoke, builtin, Sem.run_bind, Sem.run_pure, Result.andThen_ok, List.map_toArray, List.map_cons, List.map_nil, hρ _ _ hx, hρ _ _ hy, hrun]
  · refine ⟨h3.os, h3.tape, h3.output, h3.size, fun j hj => h3.block j (by omega) fun e' => ?_⟩
    rcases hown.row.2 with ⟨rfl, _⟩ | ⟨g, cap, cur, rfl, hBg, _⟩
    · cases e'
    · injection e' with e'
      have : j = g := e'
      omega
end
end Go.Proofs.Ytijaldpmpjapiaa

namespace Go.Proofs.Ytijaldpmpjapiaa
open Go.RowKit

/-- A leaf. -/
structure Lf where
  op : Int
  n : Int
  name : List Nat
  kids : List Int
structure Lf.rng (x : Lf) : Prop where
  op : I64 x.op
  n : I64 x.n
  name : ∀ d ∈ x.name, d < 256
  nlen : x.name.length ≤ 9223372036854775807
def zNodes (e : Ex) : Int := (toldZ (e.nodes : Int) (e.depth : Int)).1
def zDepth (e : Ex) : Int := (toldZ (e.nodes : Int) (e.depth : Int)).2
def sumN : List Ex → Int
  | [] => 0
  | e :: r => zNodes e + sumN r
def maxD : List Ex → Int
  | [] => 0
  | e :: r => max (zDepth e) (maxD r)
theorem sumN_snoc (l : List Ex) (e : Ex) : sumN (l ++ [e]) = sumN l + zNodes e := by
  induction l with
  | nil => show zNodes e + 0 = 0 + zNodes e; omega
  | cons x r ih => show zNodes x + sumN (r ++ [e]) = zNodes x + sumN r + zNodes e; omega
theorem z_bounds (e : Ex) : 0 ≤ zNodes e ∧ zNodes e ≤ 1000 ∧ 0 ≤ zDepth e ∧ zDepth e ≤ 1000 := by
  unfold zNodes zDepth toldZ
  split <;> omega
theorem maxD_nonneg (l : List Ex) : 0 ≤ maxD l ∧ maxD l ≤ 1000 := by
  induction l with
  | nil => exact ⟨Int.le_refl _, by decide⟩
  | cons x r ih => have := z_bounds x; show 0 ≤ max (zDepth x) (maxD r) ∧ max (zDepth x) (maxD r) ≤ 1000; omega
theorem maxD_snoc (l : List Ex) (e : Ex) : maxD (l ++ [e]) = max (maxD l) (zDepth e) := by
  induction l with
  | nil => have := z_bounds e; show max (zDepth e) 0 = max 0 (zDepth e); omega
  | cons x r ih => show max (zDepth x) (maxD (r ++ [e])) = max (max (zDepth x) (maxD r)) (zDepth e); omega
theorem sumN_bounds (l : List Ex) : 0 ≤ sumN l ∧ sumN l ≤ 1000 * (l.length : Int) := by
  induction l with
  | nil => exact ⟨Int.le_refl _, by decide⟩
  | cons x r ih =>
    have := z_bounds x
    have h : sumN (x :: r) = zNodes x + sumN r := rfl
    rw [h, List.length_cons]
    omega
theorem sum_or (l : List Ex) : (sumN l = (nodesL l : Int) ∧ maxD l = (depthL l : Int)) ∨ (1000 ≤ sumN l ∧ 1000 ≤ nodesL l) := by
  induction l with
  | nil => exact .inl ⟨rfl, rfl⟩
  | cons x r ih =>
    have hb := sumN_bounds r
    have hz := z_bounds x
    have h1 : sumN (x :: r) = zNodes x + sumN r := rfl
    have h2 : maxD (x :: r) = max (zDepth x) (maxD r) := rfl
    have h3 : nodesL (x :: r) = x.nodes + nodesL r := by rw [nodesL]
    have h4 : depthL (x :: r) = max x.depth (depthL r) := by rw [depthL]
    have hd := x.depth_nodes
    rw [h1, h2, h3, h4]
    rcases ih with ⟨e1, e2⟩ | ⟨e1, e2⟩
    · by_cases hbig : 1000 ≤ (x.nodes : Int) ∨ 1000 ≤ (x.depth : Int)
      · have : zNodes x = 1000 := by unfold zNodes toldZ; rw [if_pos hbig]
        right
        omega
      · have g1 : zNodes x = x.nodes := by unfold zNodes toldZ; rw [if_neg hbig]
        have g2 : zDepth x = x.depth := by unfold zDepth toldZ; rw [if_neg hbig]
        left
        omega
    · right; omega
theorem told_mk (op n : Int) (nm : List Nat) (l : List Ex) : toldZ (1 + sumN l) (1 + maxD l) = (zNodes (.mk op n nm l), zDepth (.mk op n nm l)) := by
  have hn := Ex.nodes_mk op n nm l
  have hd := Ex.depth_mk op n nm l
  have hdn := depthL_nodesL l
  have hm := maxD_nonneg l
  unfold zNodes zDepth
  rw [hn, hd]
  rcases sum_or l with ⟨e1, e2⟩ | ⟨e1, e2⟩
  · rw [e1, e2, Int.natCast_add, Int.natCast_add]; rfl
  · unfold toldZ
    rw [if_pos (by omega), if_pos (by omega)]
/-- What a leaf has within. -/
def pickK (es : List Ex) (ks : List Int) : List Ex := ks.filterMap fun k => if es.length = 0 then none else es[earl k es.length]?
theorem earl_lt (k : Int) {n : Nat} (h : 0 < n) : earl k n < n := by unfold earl; omega
theorem pickK_none (es : List Ex) (ks : List Int) (k : Int) (h : es.length = 0) : pickK es (ks ++ [k]) = pickK es ks := by
  unfold pickK; rw [List.filterMap_append]; simp [h]
theorem pickK_some (es : List Ex) (ks : List Int) (k : Int) (e : Ex) (h : es[earl k es.length]? = some e) : pickK es (ks ++ [k]) = pickK es ks ++ [e] := by
  unfold pickK
  have h0 : ¬ es.length = 0 := fun h0 => by rw [List.eq_nil_of_length_eq_zero h0] at h; cases h
  rw [List.filterMap_append]
  simp only [h0, if_false]
  rw [List.filterMap_cons, h]
  rfl
theorem pickK_length (es : List Ex) (ks : List Int) : (pickK es ks).length ≤ ks.length := List.length_filterMap_le _ _
theorem pickK_mem {es : List Ex} {ks : List Int} {e : Ex} (h : e ∈ pickK es ks) : e ∈ es := by
  unfold pickK at h
  obtain ⟨k, -, hk⟩ := List.mem_filterMap.1 h
  split at hk
  · cases hk
  · exact List.mem_of_getElem? hk
def leafE (es : List Ex) (x : Lf) : Ex := .mk x.op x.n x.name (pickK es (x.kids.take 5))
def addE (es : List Ex) (x : Lf) : List Ex := es ++ [leafE es x]
/-- The expressions of leaves. -/
def treesOf (ls : List Lf) : List Ex := ls.foldl addE []
theorem treesOf_snoc (ls : List Lf) (x : Lf) : treesOf (ls ++ [x]) = treesOf ls ++ [leafE (treesOf ls) x] := by
  unfold treesOf; rw [List.foldl_append]; rfl
theorem treesOf_length (ls : List Lf) : (treesOf ls).length = ls.length := by
  have : ∀ (r : List Lf) (es : List Ex), (r.foldl addE es).length = es.length + r.length := by
    intro r
    induction r with
    | nil => intro es; rfl
    | cons x r ih => intro es; rw [List.foldl_cons, ih]; simp [addE]; omega
  have h := this ls []
  simpa [treesOf] using h
theorem depthL_le {l : List Ex} {m : Nat} (h : ∀ e ∈ l, e.depth ≤ m) : depthL l ≤ m := by
  induction l with
  | nil => exact Nat.zero_le _
  | cons x r ih =>
    rw [depthL]
    have := h x List.mem_cons_self
    have := ih fun e he => h e (List.mem_cons_of_mem _ he)
    omega
theorem treesOf_depth (ls : List Lf) : ∀ e ∈ treesOf ls, e.depth ≤ ls.length := by
  have key : ∀ (r : List Lf) (es : List Ex) (m : Nat), (∀ e ∈ es, e.depth ≤ m) → ∀ e ∈ r.foldl addE es, e.depth ≤ m + r.length := by
    intro r
    induction r with
    | nil => intro es m h e he; exact h e he
    | cons x r ih =>
      intro es m h e he
      rw [List.foldl_cons] at he
      have := ih (addE es x) (m + 1) (fun e he => by
        rcases List.mem_append.1 he with he | he
        · have := h e he; omega
        · obtain rfl := List.mem_singleton.1 he
          have := depthL_le (fun e he => h e (pickK_mem he) : ∀ e ∈ pickK es (x.kids.take 5), e.depth ≤ m)
          unfold leafE
          rw [Ex.depth_mk]; omega) e he
      rw [List.length_cons]; omega
  intro e he
  have := key ls [] 0 (by simp) e he
  omega
/-- Ints, as cells. -/
def DI (l : List Int) : List Value := l.map fun z => .int .i64 z
theorem length_DI (l : List Int) : (DI l).length = l.length := by simp [DI]
theorem get_DI (l : List Int) (k : Nat) : (DI l)[k]? = l[k]?.map (Value.int .i64) := by simp [DI]
theorem DI_append (a b : List Int) : DI (a ++ b) = DI a ++ DI b := by simp [DI]
theorem flatC_append (a b : List Value) : flatC (a ++ b) = flatC a ++ flatC b := by
  induction a with
  | nil => rfl
  | cons v r ih => show v.cells.toList ++ flatC (r ++ b) = (v.cells.toList ++ flatC r) ++ flatC b; rw [ih, List.append_assoc]
/-- Leaves that lie in memory. -/
def LfAt (w : World) (B : Nat) (A : Option Addr) (xs : List Lf) : Prop := ∀ i x, xs[i]? = some x → ∃ ad A' c, A = some ad ∧ ad.block < B ∧ Reads w B 1 A' x.kids.length (DI x.kids) ∧ ∀ (j : Nat) (u : Value), ([.int .i64 x.op, .int .i64 x.n, .string (strOf x.name), .slice A' x.kids.length c] : List Value)[j]? = some u → w.cell? ((ad.add (i * 4)).add j) = some u
theorem LfAt.below {w w' : World} {B : Nat} {A : Option Addr} {xs : List Lf} (h : LfAt w B A xs) (hb : Below B w w') : LfAt w' B A xs := fun i x hx => by
  obtain ⟨ad, A', c, e1, e2, e3, e4⟩ := h i x hx
  exact ⟨ad, A', c, e1, e2, e3.below hb, fun j u hu => (hb.cell (by rw [block_of_add, block_of_add]; exact e2)).trans (e4 j u hu)⟩
/-- A slice that may lie nowhere: its blocks. -/
def blocksOf (v : Value) : List Nat := v.ownBlock.toList
theorem mem_blocksOf {v : Value} {b : Nat} : b ∈ blocksOf v ↔ v.ownBlock = some b := by
  unfold blocksOf; cases v.ownBlock <;> simp [eq_comm]
/-- A forest that has one tree more. -/
theorem Forest.more {w : World} {T : List Nat} {es args : List Ex} {vs avs : List Value} {B : Nat} {o n : Int} {nm : List Nat} {vA : Value} (h : Forest w T es vs) (hl : avs.length = args.length) (h60 : args.length ≤ 1000) (hop : I64 o) (hn : I64 n) (hnm : ∀ d ∈ nm, d < 256) (hnl : nm.length ≤ 9223372036854775807)
    (hr : ∀ (i : Nat) (e : Ex) (v : Value), args[i]? = some e → avs[i]? = some v → RepE w (· ∈ T) e v) (hA : Own w B 35 4 vA args.length (flatC avs)) :
    Forest w (blocksOf vA ++ T) (es ++ [.mk o n nm args]) (vs ++ [.agg #[.int .i64 o, .int .i64 n, .string (strOf nm), vA]]) := by
  obtain ⟨A, c, hv, hrd⟩ := hA.reads
  have hbl := hA.blockLt
  refine ⟨by rw [List.length_append, List.length_append, h.len]; rfl, fun b hm => ?_, fun i e v he hvi => ?_⟩
  · rcases List.mem_append.1 hm with hm | hm
    · exact (hbl b (mem_blocksOf.1 hm)).2
    · exact h.lt b hm
  · rcases Nat.lt_or_ge i es.length with hi | hi
    · rw [List.getElem?_append_left hi] at he
      rw [List.getElem?_append_left (by rw [h.len]; exact hi)] at hvi
      exact (h.rep i e v he hvi).mono (fun b hb => List.mem_append_right _ hb) (fun _ _ => rfl)
    · rw [List.getElem?_append_right hi] at he
      rw [List.getElem?_append_right (by rw [h.len]; exact hi), h.len] at hvi
      have h0 : i - es.length = 0 := by
        have := (List.getElem?_eq_some_iff.1 he).1
        simp at this
        exact this
      rw [h0] at he hvi
      injection he with he
      injection hvi with hvi
      subst he hvi
      subst hv
      refine .mk hl h60 hop hn hnm hnl (fun i e v he hv => (hr i e v he hv).mono (fun b hb => List.mem_append_right _ hb) (fun _ _ => rfl)) fun hne => ?_
      have hpos : 0 < args.length := by
        rcases Nat.eq_zero_or_pos args.length with h0 | h0
        · have : avs = [] := List.eq_nil_of_length_eq_zero (by omega)
          rw [this] at hne
          exact absurd rfl hne
        · exact h0
      obtain ⟨ad, rfl, -, hc⟩ := hrd.2 hpos
      exact ⟨ad, rfl, List.mem_append_left _ (mem_blocksOf.2 rfl), hc⟩
end Go.Proofs.Ytijaldpmpjapiaa

namespace Go.Proofs.Ytijaldpmpjapiaa
open Go.RowKit

theorem earlierC (k : Int) (i : Nat) (w : World) (h : i ≤ 1000) : Calls Try.prog 38 #[.int .i64 k, .int .i64 (i : Int)] w fun e w' => (∃ z, e = .returned (.int .i64 z) ∧ ((i = 0 ∧ z = -1) ∨ (0 < i ∧ z = (earl k i : Int)))) ∧ Grow w w' := by
  rcases Nat.eq_zero_or_pos i with rfl | h0
  · exact (earlier_zero k w).mono fun e w' h => ⟨⟨_, h.1, .inl ⟨rfl, rfl⟩⟩, h.2⟩
  · exact (earlier_any k i w h0 h).mono fun e w' h => ⟨⟨_, h.1, .inr ⟨h0, rfl⟩⟩, h.2⟩
theorem toldC (n d : Int) (l : List Ex) (op m : Int) (nm : List Nat) (w : World) (hn : n = 1 + sumN l) (hd : d = 1 + maxD l) : Calls Try.prog 39 #[.int .i64 n, .int .i64 d] w fun e w' => e = .returned (.tuple #[.int .i64 (zNodes (.mk op m nm l)), .int .i64 (zDepth (.mk op m nm l))]) ∧ Grow w w' := by
  have h := told_any n d w
  subst hn hd
  rw [told_mk op m nm l] at h
  exact h
theorem run_build_Tree (w : World) : (Instr.build 29 #[]).run Try.prog w = .ok (.agg #[.slice none 0 0, .slice none 0 0, .slice none 0 0, .slice none 0 0, .slice none 0 0, .slice none 0 0]) w := by kernel_rfl
theorem run_build_Ex (a b : Int) (s : List Nat) (w : World) : (Instr.build 35 #[(0, .int .i64 a), (1, .int .i64 b), (2, .string (strOf s))]).run Try.prog w = .ok (.agg #[.int .i64 a, .int .i64 b, .string (strOf s), .slice none 0 0]) w := by
  have hu := Try.underlying35
  go_simp
theorem zero_debentureref18_Tree : zeroIs Try.prog 29 = some (some (.agg #[.slice none 0 0, .slice none 0 0, .slice none 0 0, .slice none 0 0, .slice none 0 0, .slice none 0 0])) := by kernel_rfl
theorem zero_debentureref18_Leaf : zeroIs Try.prog 69 = some (some (.agg #[.int .i64 0, .int .i64 0, .string { data := #[] }, .slice none 0 0])) := by kernel_rfl
theorem Own.app {B B2 B' n n2 size size2 : Nat} {w w' : World} {e e2 : TypeId} {v v2 : Value} {xs xs2 : List Value} (h : Own w B e size v n xs) (o : Own w B2 e2 size2 v2 n2 xs2) (ha : App w w' B' v2) (hne : e2 ≠ e := by decide) : Own w' B e size v n xs := by
  refine ⟨h.row.kept ha.grown ?_⟩
  obtain ⟨h1, h2⟩ := h.row
  rcases h2 with ⟨rfl, -⟩ | ⟨g', cap, cur, rfl, e2, e3, e4⟩
  · exact .inl rfl
  · exact .inr fun e' => own_blk_ne o.row (show Blk w g' e cur from e3) hne e'.symm
theorem Blk.app {k n B B' size : Nat} {w w' : World} {t e : TypeId} {cs : Array Value} {v : Value} {xs : List Value} (h : Blk w k t cs) (o : Own w B e size v n xs) (ha : App w w' B' v) (hne : e ≠ t := by decide) : Blk w' k t cs := h.grown ha.grown (fun e' => own_blk_ne o.row h hne e'.symm)
theorem Forest.put {w w' : World} {T : List Nat} {es : List Ex} {vs : List Value} {g B : Nat} {t : TypeId} {cur cs : Array Value} (h : Forest w T es vs) (_k : Blk w g t cur) (p : Put w w' g t cs) (_e : B ≤ g) (hne : g ∉ T := by assumption) : Forest w' T es vs :=
  h.grown p.grown fun b e => by injection e with e; exact e ▸ hne
/-- A slice of the call's own, not among blocks. -/
def Apart (v : Value) (T : List Nat) : Prop := ∀ b, v.ownBlock = some b → b ∉ T
theorem Apart.more {v vA : Value} {T : List Nat} {N : Nat} (h : Apart v T) (hlt : ∀ b, v.ownBlock = some b → b < N) (hA : ∀ b, vA.ownBlock = some b → N ≤ b) : Apart v (blocksOf vA ++ T) := fun b hb hm => by
  rcases List.mem_append.1 hm with hm | hm
  · have := hlt b hb; have := hA b (mem_blocksOf.1 hm); omega
  · exact h b hb hm
theorem Apart.app {v v' : Value} {T : List Nat} {N : Nat} (h : Apart v T) (hlt : ∀ b ∈ T, b < N) (hv : v'.ownBlock = v.ownBlock ∨ v'.ownBlock = some N) : Apart v' T := fun b hb hm => by
  rcases hv with hv | hv
  · exact h b (hv ▸ hb) hm
  · rw [hv] at hb; injection hb with hb; subst hb; exact Nat.lt_irrefl _ (hlt _ hm)
theorem Forest.app {w w' : World} {T : List Nat} {es : List Ex} {vs : List Value} {B : Nat} {v : Value} (h : Forest w T es vs) (hv : Apart v T) (ha : App w w' B v) : Forest w' T es vs := h.grown ha.grown fun b e => hv b e
/-- Two slices, not in one block. -/
def Two (v u : Value) : Prop := ∀ b, v.ownBlock = some b → u.ownBlock ≠ some b
theorem Two.symm {v u : Value} (h : Two v u) : Two u v := fun b hb hv => h b hv hb
theorem Two.app {v u u' : Value} {N : Nat} (h : Two v u) (hlt : ∀ b, v.ownBlock = some b → b < N) (hu : u'.ownBlock = u.ownBlock ∨ u'.ownBlock = some N) : Two v u' := fun b hb hm => by
  rcases hu with hu | hu
  · exact h b hb (hu ▸ hm)
  · rw [hu] at hm; injection hm with hm; subst hm; exact Nat.lt_irrefl _ (hlt _ hb)
/-- What Build answers. -/
def BuiltR (B : Nat) (es : List Ex) (v : Value) (w : World) : Prop := ∃ T vs vE vN vD, v = .agg #[vE, vN, vD, .slice none 0 0, .slice none 0 0, .slice none 0 0] ∧ Forest w T es vs ∧ Own w B 35 4 vE es.length (flatC vs) ∧ Own w B 3 1 vN es.length (DI (es.map zNodes)) ∧ Own w B 3 1 vD es.length (DI (es.map zDepth))
end Go.Proofs.Ytijaldpmpjapiaa

namespace Go.Proofs.Ytijaldpmpjapiaa
open Go.RowKit

/-- A tree's values. -/
def treeV (n : Nat) (AE AN AD : Option Addr) (cE cN cD : Nat) : Value := .agg #[.slice AE n cE, .slice AN n cN, .slice AD n cD, .slice none 0 0, .slice none 0 0, .slice none 0 0]
structure TreeR (w : World) (B : Nat) (es : List Ex) (AE AN AD : Option Addr) : Prop where
  expr : ∀ i e, es[i]? = some e → ∃ ad A' c', AE = some ad ∧ ad.block < B ∧ Rep w B e (.agg #[.int .i64 e.op, .int .i64 e.n, .string (strOf e.name), .slice A' e.args.length c']) ∧ ∀ (j : Nat) (u : Value), ([.int .i64 e.op, .int .i64 e.n, .string (strOf e.name), .slice A' e.args.length c'] : List Value)[j]? = some u → w.cell? ((ad.add (i * 4)).add j) = some u
  nodes : Reads w B 1 AN es.length (DI (es.map zNodes))
  deps : Reads w B 1 AD es.length (DI (es.map zDepth))
theorem TreeR.below {w w' : World} {B : Nat} {es : List Ex} {AE AN AD : Option Addr} (h : TreeR w B es AE AN AD) (hb : Below B w w') : TreeR w' B es AE AN AD :=
  ⟨fun i e he => by
    obtain ⟨ad, A', c', e1, e2, e3, e4⟩ := h.expr i e he
    exact ⟨ad, A', c', e1, e2, e3.below hb, fun j u hu => (hb.cell (by rw [block_of_add, block_of_add]; exact e2)).trans (e4 j u hu)⟩, h.nodes.below hb, h.deps.below hb⟩
theorem BuiltR.tree {B : Nat} {es : List Ex} {v : Value} {w : World} (h : BuiltR B es v w) : ∃ AE AN AD cE cN cD, v = treeV es.length AE AN AD cE cN cD ∧ TreeR w w.heap.size es AE AN AD := by
  obtain ⟨T, vs, vE, vN, vD, rfl, fo, oE, oN, oD⟩ := h
  have h4 : ∀ y ∈ vs, y.cells.size = 4 := sizes_spec fo.cells
  obtain ⟨AE, cE, rfl, hE⟩ := oE.reads
  obtain ⟨AN, cN, rfl, hN⟩ := oN.reads
  obtain ⟨AD, cD, rfl, hD⟩ := oD.reads
  refine ⟨AE, AN, AD, cE, cN, cD, rfl, fun i e he => ?_, hN, hD⟩
  have hi := (List.getElem?_eq_some_iff.1 he).1
  obtain ⟨ev, hev⟩ : ∃ ev, vs[i]? = some ev := ⟨_, List.getElem?_eq_getElem (by rw [fo.len]; omega)⟩
  have hre := fo.rep i e ev he hev
  obtain ⟨A', c', rfl⟩ := hre.form
  obtain ⟨ad, rfl, hb, hc⟩ := hE.2 (by omega)
  exact ⟨ad, A', c', rfl, hb, hre.mono (fun b hm => fo.lt b hm) (fun _ _ => rfl), fun j u hu => by rw [add_of_add]; exact hc _ _ (flatC_at h4 hev j u (by simpa [Value.cells] using hu))⟩
/-- Whether an expression is right. -/
def rightB (e : Ex) : Bool := decide (e.nodes ≤ 200) && decide (e.depth ≤ 16) && builtB e
end Go.Proofs.Ytijaldpmpjapiaa

namespace Go.Proofs.Ytijaldpmpjapiaa
open Go.RowKit

def yearZ (y : Int) : Int := if leapB y then 366 else 365
theorem of_start : ofZ 1970 1 1 = 0 := by decide
theorem of_last : ofZ 10000 1 1 = 2932897 := by decide
theorem leapB_iff (y : Int) : leapB y = true ↔ y % 4 = 0 ∧ (y % 100 ≠ 0 ∨ y % 400 = 0) := by unfold leapB; simp
theorem of_one (y : Int) : ofZ y 1 1 = (y - 1) / 400 * 146097 + ((y - 1) % 400 * 365 + (y - 1) % 400 / 4 - (y - 1) % 400 / 100 + 306) - 719468 := by
  unfold ofZ ofY ofM
  rw [if_pos (by omega), if_pos (by omega)]
  omega
theorem of_year (y : Int) : ofZ (y + 1) 1 1 = ofZ y 1 1 + yearZ y := by
  rw [of_one, of_one]
  have hl := leapB_iff y
  unfold yearZ
  rw [Int.add_sub_cancel]
  generalize hr : (y - 1) % 400 = r
  generalize hq : (y - 1) / 400 = q
  obtain rfl : y = 400 * q + r + 1 := by omega
  have hr1 : 0 ≤ r ∧ r < 400 := by omega
  split
  · rename_i h
    have := hl.1 h
    by_cases h4 : r = 399
    · subst h4; omega
    · rw [show (400 * q + r + 1) / 400 = q by omega, show (400 * q + r + 1) % 400 = r + 1 by omega]; omega
  · rename_i h
    have : ¬ ((400 * q + r + 1) % 4 = 0 ∧ ((400 * q + r + 1) % 100 ≠ 0 ∨ (400 * q + r + 1) % 400 = 0)) := fun h2 => h (hl.2 h2)
    by_cases h4 : r = 399
    · subst h4; omega
    · rw [show (400 * q + r + 1) / 400 = q by omega, show (400 * q + r + 1) % 400 = r + 1 by omega]; omega
theorem of_day (y m d : Int) : ofZ y m d = ofZ y m 1 + d - 1 := by unfold ofZ; omega
theorem of_month (y m : Int) (h1 : 1 ≤ m) (h2 : m ≤ 11) : ofZ y (m + 1) 1 = ofZ y m 1 + daysZ y m := by
  rcases (show m = 1 ∨ m = 2 ∨ m = 3 ∨ m = 4 ∨ m = 5 ∨ m = 6 ∨ m = 7 ∨ m = 8 ∨ m = 9 ∨ m = 10 ∨ m = 11 by omega) with rfl | rfl | rfl | rfl | rfl | rfl | rfl | rfl | rfl | rfl | rfl
  case inr.inl =>
    have := of_year y
    rw [of_one, of_one] at this
    unfold yearZ at this
    unfold ofZ ofY ofM daysZ
    split at this <;> rename_i h <;> simp [h] at this ⊢ <;> omega
  all_goals
    unfold ofZ ofY ofM daysZ
    simp
    try omega
theorem of_dec (y : Int) : ofZ (y + 1) 1 1 = ofZ y 12 1 + 31 := by
  rw [of_one]
  unfold ofZ ofY ofM
  simp
  omega
theorem daysZ_pos (y m : Int) : 0 ≤ daysZ y m := by
  unfold daysZ
  split
  · split <;> omega
  · split
    · omega
    · split <;> omega
theorem of_mono_m (y : Int) : ∀ (k : Nat) (m : Int), 1 ≤ m → m + k ≤ 12 → ofZ y m 1 ≤ ofZ y (m + k) 1 := by
  intro k
  induction k with
  | zero => intro m _ _; simp
  | succ k ih =>
    intro m h1 h2
    have h3 := ih m h1 (by omega)
    have h4 := of_month y (m + k) (by omega) (by omega)
    have h5 := daysZ_pos y (m + k)
    rw [show m + ((k + 1 : Nat) : Int) = m + k + 1 by omega]
    omega
theorem of_le_m {y m m' : Int} (h1 : 1 ≤ m) (h2 : m ≤ m') (h3 : m' ≤ 12) : ofZ y m 1 ≤ ofZ y m' 1 := by
  have := of_mono_m y (m' - m).toNat m h1 (by omega)
  rwa [show m + ((m' - m).toNat : Int) = m' by omega] at this
theorem yearZ_pos (y : Int) : 365 ≤ yearZ y := by unfold yearZ; split <;> omega
theorem of_mono_y : ∀ (k : Nat) (y : Int), ofZ y 1 1 ≤ ofZ (y + k) 1 1 := by
  intro k
  induction k with
  | zero => intro y; simp
  | succ k ih =>
    intro y
    have h1 := ih y
    have h2 := of_year (y + k)
    have h3 := yearZ_pos (y + k)
    rw [show y + ((k + 1 : Nat) : Int) = y + k + 1 by omega]
    omega
theorem of_le_y {y y' : Int} (h : y ≤ y') : ofZ y 1 1 ≤ ofZ y' 1 1 := by
  have := of_mono_y (y' - y).toNat y
  rwa [show y + ((y' - y).toNat : Int) = y' by omega] at this
/-- A day is of its month, and of its year. -/
theorem of_span {y m d : Int} (h : ofOk y m d = true) : 1970 ≤ y ∧ y ≤ 9999 ∧ 1 ≤ m ∧ m ≤ 12 ∧ 1 ≤ d ∧ d ≤ daysZ y m ∧ ofZ y 1 1 ≤ ofZ y m d ∧ ofZ y m d < ofZ (y + 1) 1 1 ∧ 0 ≤ ofZ y m d ∧ ofZ y m d ≤ 2932896 := by
  unfold ofOk at h
  simp at h
  obtain ⟨⟨⟨h1, h2⟩, h3⟩, h4⟩ := h
  obtain ⟨h5, h6, -⟩ := daysZ_m (y := y) (m := m) (by omega)
  have a1 := of_le_m (y := y) (m := 1) (m' := m) (by omega) h5 h6
  have a2 := of_day y m d
  have a3 : ofZ y m 1 + daysZ y m ≤ ofZ (y + 1) 1 1 := by
    by_cases hm : m = 12
    · subst hm
      rw [of_dec]
      have : daysZ y 12 = 31 := by unfold daysZ; simp
      omega
    · have b1 := of_month y m h5 (by omega)
      have b2 := of_le_m (y := y) (m := m + 1) (m' := 12) (by omega) (by omega) (by omega)
      have b3 := of_dec y
      omega
  have a4 := of_le_y (y := 1970) (y' := y) h1
  have a5 := of_le_y (y := y + 1) (y' := 10000) (by omega)
  rw [of_start] at a4
  rw [of_last] at a5
  exact ⟨h1, h2, h5, h6, h3, h4, by omega, by omega, by omega, by omega⟩
/-- A number in so many digits. -/
def digR (v : Nat) : Nat → List Nat
  | 0 => []
  | n + 1 => (48 + v / 10 ^ n % 10) :: digR v n
theorem digR_len (v n : Nat) : (digR v n).length = n := by induction n with
  | zero => rfl
  | succ n ih => unfold digR; simp [ih]
theorem digR_lt (v n : Nat) : ∀ x ∈ digR v n, x < 256 := by induction n with
  | zero => intro x h; cases h
  | succ n ih =>
    intro x h
    unfold digR at h
    rcases List.mem_cons.1 h with rfl | h
    · omega
    · exact ih x h
def printD (y m d : Nat) : List Nat := digR y 4 ++ [45] ++ digR m 2 ++ [45] ++ digR d 2
end Go.Proofs.Ytijaldpmpjapiaa

namespace Go.Proofs.Ytijaldpmpjapiaa
open Go.RowKit

def rawV (l : List Nat) : Int := l.foldl (fun (v : Int) (c : Nat) => 10 * v + (c : Int) - 48) 0
theorem ofOk_bd {y m d : Int} (h : ofOk y m d = true) : 1970 ≤ y ∧ y ≤ 9999 ∧ 1 ≤ m ∧ m ≤ 12 ∧ 1 ≤ d ∧ d ≤ 31 := by
  obtain ⟨h1, h2, h3, h4, h5, h6, -⟩ := of_span h
  obtain ⟨-, -, h7⟩ := daysZ_m (y := y) (m := m) (by omega)
  exact ⟨h1, h2, h3, h4, h5, by omega⟩
end Go.Proofs.Ytijaldpmpjapiaa


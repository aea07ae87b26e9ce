/-
  Texts that were joined: LexH, TreE, TreF, TreG, TreH, TreI, DateA, DateB, CivA. Conditions: what each theorem names.
-/
import Derived.Test.YtijaldpmpjapiaaM3
set_option linter.unusedSectionVars false
namespace Go.Proofs.Ytijaldpmpjapiaa
open Go.RowKit

theorem refLetter_any (c : Nat) (w : World) : Calls Try.prog 27 #[.int .u8 (c : Int)] w fun e w' => e = .returned (.bool (letB c)) ∧ Grow w w' := by
  have bel := Below.refl w.heap.size w
  refine Calls.start 17 Try.func27 rfl rfl rfl ?_
  refine Cd.seq ?_
  refine Cd.region ?_
  refine Seq.val (Runs.assign rfl rfl) rfl rfl rfl ?_
  refine Seq.nil ?_
  refine Post.weak (F' := [(0, _), (2, _)]) ⟨rfl, rfl, trivial⟩ ?_
  refine Post.then_ ?_
  refine Cd.seq ?_
  refine Cd.region ?_
  refine Seq.val (Runs.move rfl rfl) rfl rfl rfl ?_
  refine Seq.val (Runs.geq rfl rfl rfl) rfl rfl rfl ?_
  refine Seq.val (Runs.move rfl rfl) rfl rfl rfl ?_
  refine SeqC.start ?_
  refine SeqC.open rfl rfl rfl rfl rfl rfl rfl (fun hcx => Runs.move rfl rfl) ?_
  refine SeqC.next rfl rfl rfl rfl rfl rfl rfl (fun hcx => Runs.leq rfl rfl rfl) ?_
  refine SeqC.and rfl rfl rfl rfl rfl rfl rfl ?_
  refine Seq.val (Runs.move rfl rfl) rfl rfl rfl ?_
  refine SeqC.start ?_
  refine SeqC.open rfl rfl rfl rfl rfl rfl rfl (fun hcx => Runs.move rfl rfl) ?_
  refine SeqC.next rfl rfl rfl rfl rfl rfl rfl (fun hcx => Runs.geq rfl rfl rfl) ?_
  refine SeqC.next rfl rfl rfl rfl rfl rfl rfl (fun hcx => Runs.move rfl rfl) ?_
  refine SeqC.open rfl rfl rfl rfl rfl rfl rfl (fun hcx => Runs.move rfl rfl) ?_
  refine SeqC.next rfl rfl rfl rfl rfl rfl rfl (fun hcx => Runs.leq rfl rfl rfl) ?_
  refine SeqC.andG rfl rfl rfl rfl rfl rfl rfl rfl rfl rfl rfl ?_
  refine SeqC.or rfl rfl rfl rfl rfl rfl rfl ?_
  refine Seq.val (Runs.assign rfl rfl) rfl rfl rfl ?_
  refine Seq.nil ?_
  refine Post.weak (F' := [(0, _), (2, _)]) ⟨rfl, rfl, trivial⟩ ?_
  refine Post.then_ ?_
  refine Cd.ret ?_
  refine Post.end1 rfl rfl (.inl rfl) ?_
  refine ⟨ret1 (bool_eq ?_), bel⟩
  unfold letB
  rw [Bool.eq_iff_iff]
  simp
  omega
theorem refPart_any (c : Nat) (w : World) : Calls Try.prog 53 #[.int .u8 (c : Int)] w fun e w' => e = .returned (.bool (partB c)) ∧ Grow w w' := by
  have bel := Below.refl w.heap.size w
  refine Calls.start 17 Try.func53 rfl rfl rfl ?_
  refine Cd.seq ?_
  refine Cd.region ?_
  refine Seq.val (Runs.assign rfl rfl) rfl rfl rfl ?_
  refine Seq.nil ?_
  refine Post.weak (F' := [(0, _), (2, _)]) ⟨rfl, rfl, trivial⟩ ?_
  refine Post.then_ ?_
  refine Cd.seq ?_
  refine Cd.region ?_
  refine Seq.val (Runs.move rfl rfl) rfl rfl rfl ?_
  refine Seq.call (Enters.func rfl rfl rfl (run_enter Try.func27 (by kernel_rfl) rfl)) rfl rfl rfl (refLetter_any c _) ?_
  rintro e w2 ⟨rfl, hb2⟩
  refine ⟨_, rfl, ?_⟩
  replace bel := bel.step hb2
  refine Seq.val (Runs.move rfl rfl) rfl rfl rfl ?_
  refine SeqC.start ?_
  refine SeqC.open rfl rfl rfl rfl rfl rfl rfl (fun hcx => Runs.move rfl rfl) ?_
  refine SeqC.next rfl rfl rfl rfl rfl rfl rfl (fun hcx => Runs.geq rfl rfl rfl) ?_
  refine SeqC.next rfl rfl rfl rfl rfl rfl rfl (fun hcx => Runs.move rfl rfl) ?_
  refine SeqC.open rfl rfl rfl rfl rfl rfl rfl (fun hcx => Runs.move rfl rfl) ?_
  refine SeqC.next rfl rfl rfl rfl rfl rfl rfl (fun hcx => Runs.leq rfl rfl rfl) ?_
  refine SeqC.andG rfl rfl rfl rfl rfl rfl rfl rfl rfl rfl rfl ?_
  refine SeqC.or rfl rfl rfl rfl rfl rfl rfl ?_
  refine Seq.val (Runs.move rfl rfl) rfl rfl rfl ?_
  refine SeqC.start ?_
  refine SeqC.open rfl rfl rfl rfl rfl rfl rfl (fun hcx => Runs.move rfl rfl) ?_
  refine SeqC.next rfl rfl rfl rfl rfl rfl rfl (fun hcx => Runs.eqlI rfl rfl rfl) ?_
  refine SeqC.or rfl rfl rfl rfl rfl rfl rfl ?_
  refine Seq.val (Runs.assign rfl rfl) rfl rfl rfl ?_
  refine Seq.nil ?_
  refine Post.weak (F' := [(0, _), (2, _)]) ⟨rfl, rfl, trivial⟩ ?_
  refine Post.then_ ?_
  refine Cd.ret ?_
  refine Post.end1 rfl rfl (.inl rfl) ?_
  refine ⟨ret1 (bool_eq ?_), bel⟩
  unfold partB digB
  cases letB c <;> rw [Bool.eq_iff_iff] <;> simp <;> omega
theorem refNamed_any (l : List Nat) (w : World) (hl : ∀ x ∈ l, x < 256) (hlen : l.length ≤ 9223372036854775807) :
    Calls Try.prog 25 #[.string (strOf l)] w fun e w' => e = .returned (.bool (namedB l)) ∧ Grow w w' := by
  have bel := Below.refl w.heap.size w
  have h0 : l ≠ [] → l[0]? = some (l.getD 0 0) := by
    intro h
    cases l with
    | nil => exact absurd rfl h
    | cons c l => rfl
  have h1 : l.getD 0 0 < 256 := by
    cases l with
    | nil => simp
    | cons c l => exact hl c (by simp)
  have hnil : l ≠ [] ↔ 0 < l.length := by cases l <;> simp
  unfold namedB
  generalize l.getD 0 0 = c0 at *
  refine Calls.start 29 Try.func25 rfl rfl rfl ?_
  refine Cd.seq ?_
  refine Cd.region ?_
  refine Seq.val (Runs.assign rfl rfl) rfl rfl rfl ?_
  refine Seq.nil ?_
  refine Post.weak (F' := [(0, _), (2, _)]) ⟨rfl, rfl, trivial⟩ ?_
  refine Post.then_ ?_
  refine Cd.seq ?_
  refine Cd.seq ?_
  refine Cd.region ?_
  refine Seq.val (Runs.move rfl rfl) rfl rfl rfl ?_
  refine Seq.val (Runs.lenL rfl rfl Try.underlying9) rfl rfl rfl ?_
  refine Seq.val (Runs.lss rfl rfl rfl) rfl rfl rfl ?_
  refine Seq.val (Runs.move rfl rfl) rfl rfl rfl ?_
  refine SeqC.start ?_
  refine SeqC.open rfl rfl rfl rfl rfl rfl rfl (fun hcx => Runs.move rfl rfl) ?_
  refine SeqC.next rfl rfl rfl rfl rfl rfl rfl (fun hcx => Runs.lenL rfl rfl Try.underlying9) ?_
  refine SeqC.next rfl rfl rfl rfl rfl rfl rfl (fun hcx => Runs.gtr rfl rfl rfl) ?_
  refine SeqC.or rfl rfl rfl rfl rfl rfl rfl ?_
  refine Seq.val (Runs.move rfl rfl) rfl rfl rfl ?_
  refine SeqC.start ?_
  refine SeqC.open rfl rfl rfl rfl rfl rfl rfl (fun hcx => Runs.move rfl rfl) ?_
  refine SeqC.next rfl rfl rfl rfl rfl rfl rfl (fun hcx => Runs.indexL (l := l) (j := 0) (c := c0) rfl rfl rfl Try.underlying9 rfl (h0 (hnil.2 (by simp [topX] at hcx; omega))) h1) ?_
  refine SeqC.nextC rfl rfl rfl rfl rfl rfl rfl (fun hcx => Enters.func rfl rfl rfl (run_enter Try.func27 (by kernel_rfl) rfl)) (fun hcx => refLetter_any _ _) ?_
  intro w1 hw1
  replace bel := bel.step hw1
  refine SeqC.next rfl rfl rfl rfl rfl rfl rfl (fun hcx => Runs.not rfl rfl) ?_
  refine SeqC.or rfl rfl rfl rfl rfl rfl rfl ?_
  refine Seq.nil ?_
  refine Post.weak (F' := [(0, _), (2, _), (17, _)]) ⟨rfl, rfl, rfl, trivial⟩ ?_
  refine Post.then_ ?_
  refine Cd.cond rfl (fun h => ?_) (fun h => ?_)
  · have hf : (decide (l ≠ []) && decide (l.length ≤ 16) && letB c0 && decide (runN partB l = l.length)) = false := by
      rw [Bool.eq_false_iff]
      intro h2
      simp only [Bool.and_eq_true, decide_eq_true_eq] at h2
      have h3 := hnil.1 h2.1.1.1
      rw [h2.1.2] at h
      simp at h
      omega
    rw [hf]
    refine Cd.seq ?_
    refine Cd.region ?_
    refine Seq.val (Runs.assign rfl rfl) rfl rfl rfl ?_
    refine Seq.nil ?_
    refine Post.weak (F' := [(0, _), (2, _), (17, _)]) ⟨rfl, rfl, rfl, trivial⟩ ?_
    refine Post.then_ ?_
    refine Cd.ret ?_
    refine Post.then_ret ?_
    refine Post.end1 rfl rfl (.inl rfl) ?_
    exact ⟨rfl, bel⟩
  have hok : l ≠ [] ∧ l.length ≤ 16 ∧ letB c0 = true := by
    cases hle : letB c0 with
    | false => rw [hle] at h; simp at h
    | true => rw [hle] at h; simp at h; exact ⟨hnil.2 (by omega), by omega, rfl⟩
  have hrl := runN_le partB l
  rw [decide_eq_true hok.1, decide_eq_true hok.2.1, hok.2.2]
  refine Cd.skip ?_
  refine Post.then_ ?_
  refine Cd.seq ?_
  refine Cd.seq ?_
  refine Cd.region ?_
  refine Seq.val (Runs.assign rfl rfl) rfl rfl rfl ?_
  refine Seq.nil ?_
  refine Post.weak (F' := [(0, _), (2, _), (3, _), (17, _)]) ⟨rfl, rfl, rfl, rfl, trivial⟩ ?_
  refine Post.then_ ?_
  refine Cd.block ?_
  refine Cd.loop (σ := Nat) (fun k => [(0, .string (strOf l)), (3, .int .i64 (k : Int))]) (fun k wr => k ≤ runN partB l ∧ Below w.heap.size w wr) (fun k => l.length - k) 0 ⟨Nat.zero_le _, bel⟩ ⟨rfl, rfl, trivial⟩ ?_
  clear bel
  rintro k wr ⟨hk, bel⟩
  refine Cd.seq ?_
  refine Cd.seq ?_
  refine Cd.region ?_
  refine Seq.val (Runs.move rfl rfl) rfl rfl rfl ?_
  refine Seq.val (Runs.move rfl rfl) rfl rfl rfl ?_
  refine Seq.val (Runs.lenL rfl rfl Try.underlying9) rfl rfl rfl ?_
  refine Seq.val (Runs.lss rfl rfl rfl) rfl rfl rfl ?_
  refine Seq.nil ?_
  refine Post.weak (F' := [(0, _), (3, _), (21, _)]) ⟨rfl, rfl, rfl, trivial⟩ ?_
  refine Post.then_ ?_
  refine Cd.condD rfl (fun hc => ?_) (fun hc => ?_)
  · obtain ⟨c, hcc⟩ : ∃ c, l[k]? = some c := ⟨_, List.getElem?_eq_getElem (show k < l.length by omega)⟩
    have hc256 := hl c (List.mem_of_getElem? hcc)
    have hup := runN_upto partB l k hk c hcc
    refine Cd.skip ?_
    refine Post.then_ ?_
    refine Cd.seq ?_
    refine Cd.block ?_
    refine Cd.seq ?_
    refine Cd.region ?_
    refine Seq.val (Runs.move rfl rfl) rfl rfl rfl ?_
    refine Seq.val (Runs.move rfl rfl) rfl rfl rfl ?_
    refine Seq.val (Runs.indexL (l := l) (j := k) rfl rfl rfl Try.underlying9 rfl hcc hc256) rfl rfl rfl ?_
    refine Seq.call (Enters.func rfl rfl rfl (run_enter Try.func53 (by kernel_rfl) rfl)) rfl rfl rfl (refPart_any c _) ?_
    rintro e w5 ⟨rfl, hb5⟩
    refine ⟨_, rfl, ?_⟩
    replace bel := bel.step hb5
    refine Seq.val (Runs.not rfl rfl) rfl rfl rfl ?_
    refine Seq.nil ?_
    refine Post.weak (F' := [(0, _), (3, _), (21, _), (28, _)]) ⟨rfl, rfl, rfl, rfl, trivial⟩ ?_
    refine Post.then_ ?_
    refine Cd.cond rfl (fun h2 => ?_) (fun h2 => ?_)
    · have hne : ¬ runN partB l = l.length := by
        intro he
        have := hup.2 (by omega)
        rw [this] at h2
        cases h2
      rw [decide_eq_false hne]
      refine Cd.seq ?_
      refine Cd.region ?_
      refine Seq.val (Runs.assign rfl rfl) rfl rfl rfl ?_
      refine Seq.nil ?_
      refine Post.weak (F' := [(0, _), (2, _), (3, _), (21, _), (28, _)]) ⟨rfl, rfl, rfl, rfl, rfl, trivial⟩ ?_
      refine Post.then_ ?_
      refine Cd.ret ?_
      refine Post.block_ret ?_
      refine Post.then_ret ?_
      refine Post.round_ret ?_
      refine Post.block_ret ?_
      refine Post.then_ret ?_
      refine Post.end1 rfl rfl (.inl rfl) ?_
      exact ⟨rfl, bel⟩
    · have hlt := hup.1 (by simpa using h2)
      refine Cd.skip ?_
      refine Post.block_normal ?_
      refine Post.then_ ?_
      refine Cd.region ?_
      refine Seq.val (Runs.move rfl rfl) rfl rfl rfl ?_
      refine Seq.val (Runs.addI rfl rfl rfl (by omega) (by omega)) rfl rfl rfl ?_
      refine Seq.val (Runs.assign rfl rfl) rfl rfl rfl ?_
      refine Seq.nil ?_
      refine Post.weak (F' := [(0, _), (3, _), (21, _), (28, _)]) ⟨rfl, rfl, rfl, rfl, trivial⟩ ?_
      exact Post.round (k + 1) ⟨rfl, rfl, trivial⟩ ⟨by omega, bel⟩ (by omega)
  · rw [decide_eq_true (show runN partB l = l.length by omega)]
    refine Cd.exit ?_
    refine Post.then_exit ?_
    refine Post.round_exit ?_
    refine Post.block_exit ?_
    refine Post.then_ ?_
    refine Cd.seq ?_
    refine Cd.region ?_
    refine Seq.val (Runs.assign rfl rfl) rfl rfl rfl ?_
    refine Seq.nil ?_
    refine Post.weak (F' := [(0, _), (2, _), (3, _), (21, _)]) ⟨rfl, rfl, rfl, rfl, trivial⟩ ?_
    refine Post.then_ ?_
    refine Cd.ret ?_
    refine Post.end1 rfl rfl (.inl rfl) ?_
    exact ⟨rfl, bel⟩
theorem Own.form {w : World} {B size n : Nat} {e : TypeId} {v : Value} {xs : List Value} (h : Own w B e size v n xs) (h0 : 0 < n) : ∃ g cap cur, v = .slice (some ⟨g, 0, none⟩) n cap ∧ B ≤ g ∧ Blk w g e cur ∧ ∀ (j : Nat) (x : Value), xs[j]? = some x → cur[j]? = some x := by
  obtain ⟨hl, ⟨_, h1⟩ | ⟨g, cap, cur, rfl, h1, h2, h3, h4, h5, h6⟩⟩ := h.row
  · omega
  · refine ⟨g, cap, cur, rfl, h1, h2, fun j x hx => ?_⟩
    rw [← h6] at hx
    have := List.getElem?_take_of_lt (l := cur.toList) (i := j) (j := n * size) (by
      rcases Nat.lt_or_ge j (n * size) with h | h
      · exact h
      · rw [List.getElem?_eq_none (by rw [List.length_take]; omega)] at hx; cases hx)
    rw [this] at hx
    simpa using hx
def sampleL : List Nat := [100, 97, 121, 62, 61, 50, 48, 50, 52, 45, 48, 49, 45, 51, 49]
theorem sample_words : lexAll sampleL = ([⟨3, [100, 97, 121], 0, 0⟩, ⟨0, [62, 61], 0, 3⟩, ⟨2, [50, 48, 50, 52, 45, 48, 49, 45, 51, 49], 19753, 5⟩], none) := by kernel_rfl
theorem run_build_WordA (w : World) : (Instr.build 50 #[(1, .string { data := #[62, 61] }), (3, .int .i64 3)]).run Try.prog w = .ok (.agg #[.int .i64 0, .string { data := #[62, 61] }, .int .i64 0, .int .i64 3]) w := by kernel_rfl
theorem run_build_WordB (w : World) : (Instr.build 50 #[(0, .int .i64 2), (1, .string { data := #[50, 48, 50, 52, 45, 48, 49, 45, 51, 49] }), (2, .int .i64 19753), (3, .int .i64 5)]).run Try.prog w = .ok (.agg #[.int .i64 2, .string { data := #[50, 48, 50, 52, 45, 48, 49, 45, 51, 49] }, .int .i64 19753, .int .i64 5]) w := by kernel_rfl
theorem run_eql_WordA (w : World) : (binOp .eql 50 (.agg #[.int .i64 0, .string { data := #[62, 61] }, .int .i64 0, .int .i64 3]) (.agg #[.int .i64 0, .string { data := #[62, 61] }, .int .i64 0, .int .i64 3])).run Try.prog w = .ok (.bool true) w := by kernel_rfl
theorem run_eql_WordB (w : World) : (binOp .eql 50 (.agg #[.int .i64 2, .string { data := #[50, 48, 50, 52, 45, 48, 49, 45, 51, 49] }, .int .i64 19753, .int .i64 5]) (.agg #[.int .i64 2, .string { data := #[50, 48, 50, 52, 45, 48, 49, 45, 51, 49] }, .int .i64 19753, .int .i64 5])).run Try.prog w = .ok (.bool true) w := by kernel_rfl
theorem eqg_WordA (p q : Operand) (w : World) : (eqGuard .eql 50 p q (.agg #[.int .i64 0, .string { data := #[62, 61] }, .int .i64 0, .int .i64 3]) (.agg #[.int .i64 0, .string { data := #[62, 61] }, .int .i64 0, .int .i64 3])).run Try.prog w = .ok () w := by kernel_rfl
theorem eqg_WordB (p q : Operand) (w : World) : (eqGuard .eql 50 p q (.agg #[.int .i64 2, .string { data := #[50, 48, 50, 52, 45, 48, 49, 45, 51, 49] }, .int .i64 19753, .int .i64 5]) (.agg #[.int .i64 2, .string { data := #[50, 48, 50, 52, 45, 48, 49, 45, 51, 49] }, .int .i64 19753, .int .i64 5])).run Try.prog w = .ok () w := by kernel_rfl
section
variable {P : Program} {E : Operand → Option Value} {o : Oper} {w : World} {x y : Operand} {T : TypeId}
/-- A struct within a block. -/
theorem Runs.loadP {g off m : Nat} {cs : Array Value} {ps : List Value} {t : TypeId} {d : TypeDesc} (ho : o.op = .load T x) (hx : E x = some (.pointer (some ⟨g, off, none⟩))) (hT : P.underlying T = some d) (hd : (match d with | .struct _ | .array _ _ => true | _ => false) = true) (hb : Blk w g t cs) (hs : sizeIs P T m = true) (hm : ps.length = m) (hp : ∀ j v, ps[j]? = some v → cs[off + j]? = some v) : Runs P E o w (.agg ps.toArray) w := by
  obtain ⟨i, hi, hsz⟩ := sizeIs_spec hs
  exact .loadN (cs := ps) ho hx hT hd hi (by omega) (fun j v hj => by
    have hadd : (⟨g, off, none⟩ : Addr).add j = ⟨g, off + j, none⟩ := by unfold Addr.add; split <;> simp_all
    rw [hadd, hb.cell (off + j)]
    exact hp j v hj)
theorem Runs.indexBN {k : IntKind} {g j m c e s : Nat} {p : Int} (ho : o.op = .indexAddr T x y) (hx : E x = some (.slice (some ⟨g, 0, none⟩) m c)) (hy : E y = some (.int k p)) (hT : P.underlying T = some (.slice e)) (hs : sizeIs P e s = true) (hp : p = (j : Int)) (hlt : j < m) : Runs P E o w (.pointer (some ⟨g, s * j, none⟩)) w := by
  have h := Runs.indexN (w := w) ho hx hy hT hs hp hlt
  have e : (⟨g, 0, none⟩ : Addr).add (j * s) = ⟨g, s * j, none⟩ := by unfold Addr.add; split <;> simp_all [Nat.mul_comm]
  rwa [e] at h
end
theorem awake17_any (w : World) : Calls Try.prog 20 #[] w fun e w' => e = .returned (.bool true) ∧ Grow w w' := by
  have bel := Below.refl w.heap.size w
  refine Calls.start 34 Try.func20 rfl rfl rfl ?_
  refine Cd.seq ?_
  refine Cd.region ?_
  refine Seq.val (Runs.assign rfl rfl) rfl rfl rfl ?_
  refine Seq.nil ?_
  refine Post.weak (F' := [(0, _)]) ⟨rfl, trivial⟩ ?_
  refine Post.then_ ?_
  refine Cd.seq ?_
  refine Cd.region ?_
  refine Seq.call (Enters.func rfl rfl rfl (run_enter Try.func19 (by kernel_rfl) rfl)) rfl rfl rfl (words_any sampleL _ (by decide) (by decide)) ?_
  rintro e w2 ⟨hb2, ⟨h1, -⟩ | ⟨-, p, h1, -⟩ | ⟨-, -, v, rfl, own⟩⟩
  · exact absurd h1 (by decide)
  · rw [sample_words] at h1; cases h1
  rw [sample_words] at own
  obtain ⟨g, cap, cur, rfl, -, kg, hcur⟩ := own.form (by decide)
  refine ⟨_, rfl, ?_⟩
  replace bel := bel.step hb2
  refine Seq.val (Runs.move rfl rfl) rfl rfl rfl ?_
  refine Seq.val (Runs.extract rfl rfl rfl) rfl rfl rfl ?_
  refine Seq.val (Runs.extract rfl rfl rfl) rfl rfl rfl ?_
  refine Seq.val (Runs.extract rfl rfl rfl) rfl rfl rfl ?_
  refine Seq.val (Runs.assign rfl rfl) rfl rfl rfl ?_
  refine Seq.val (Runs.assign rfl rfl) rfl rfl rfl ?_
  refine Seq.val (Runs.assign rfl rfl) rfl rfl rfl ?_
  refine Seq.nil ?_
  refine Post.weak (F' := [(0, _), (1, _), (2, _), (3, _)]) ⟨rfl, rfl, rfl, rfl, trivial⟩ ?_
  refine Post.then_ ?_
  refine Cd.seq ?_
  refine Cd.region ?_
  refine Seq.val (Runs.move rfl rfl) rfl rfl rfl ?_
  refine Seq.val (Runs.eqlI rfl rfl rfl) rfl rfl rfl ?_
  refine Seq.val (Runs.move rfl rfl) rfl rfl rfl ?_
  refine SeqC.start ?_
  refine SeqC.open rfl rfl rfl rfl rfl rfl rfl (fun hcx => Runs.move rfl rfl) ?_
  refine SeqC.next rfl rfl rfl rfl rfl rfl rfl (fun hcx => Runs.eqlI rfl rfl rfl) ?_
  refine SeqC.and rfl rfl rfl rfl rfl rfl rfl ?_
  refine Seq.val (Runs.move rfl rfl) rfl rfl rfl ?_
  refine SeqC.start ?_
  refine SeqC.open rfl rfl rfl rfl rfl rfl rfl (fun hcx => Runs.move rfl rfl) ?_
  refine SeqC.next rfl rfl rfl rfl rfl rfl rfl (fun hcx => Runs.len rfl rfl Try.underlying40) ?_
  refine SeqC.next rfl rfl rfl rfl rfl rfl rfl (fun hcx => Runs.eqlI rfl rfl rfl) ?_
  refine SeqC.and rfl rfl rfl rfl rfl rfl rfl ?_
  refine Seq.val (Runs.move rfl rfl) rfl rfl rfl ?_
  refine SeqC.start ?_
  refine SeqC.open rfl rfl rfl rfl rfl rfl rfl (fun hcx => Runs.move rfl rfl) ?_
  refine SeqC.next rfl rfl rfl rfl rfl rfl rfl (fun hcx => Runs.indexBN rfl rfl rfl Try.underlying40 (s := 4) (by kernel_rfl) (j := 1) rfl (by decide)) ?_
  refine SeqC.next rfl rfl rfl rfl rfl rfl rfl (fun hcx => Runs.loadP rfl rfl Try.underlying50 rfl kg (m := 4) (by kernel_rfl) (ps := [.int .i64 0, .string { data := #[62, 61] }, .int .i64 0, .int .i64 3]) rfl (fun j v hj => by rcases j with _ | _ | _ | _ | j <;> first | exact hcur _ v (by rw [← hj]; rfl) | cases hj)) ?_
  refine SeqC.next rfl rfl rfl rfl rfl rfl rfl (fun hcx => Runs.build rfl rfl (run_build_WordA _)) ?_
  refine SeqC.next rfl rfl rfl rfl rfl rfl rfl (fun hcx => Runs.bin rfl rfl rfl (eqg_WordA _ _ _) (run_eql_WordA _)) ?_
  refine SeqC.and rfl rfl rfl rfl rfl rfl rfl ?_
  refine Seq.val (Runs.move rfl rfl) rfl rfl rfl ?_
  refine SeqC.start ?_
  refine SeqC.open rfl rfl rfl rfl rfl rfl rfl (fun hcx => Runs.move rfl rfl) ?_
  refine SeqC.next rfl rfl rfl rfl rfl rfl rfl (fun hcx => Runs.indexBN rfl rfl rfl Try.underlying40 (s := 4) (by kernel_rfl) (j := 2) rfl (by decide)) ?_
  refine SeqC.next rfl rfl rfl rfl rfl rfl rfl (fun hcx => Runs.loadP rfl rfl Try.underlying50 rfl kg (m := 4) (by kernel_rfl) (ps := [.int .i64 2, .string { data := #[50, 48, 50, 52, 45, 48, 49, 45, 51, 49] }, .int .i64 19753, .int .i64 5]) rfl (fun j v hj => by rcases j with _ | _ | _ | _ | j <;> first | exact hcur _ v (by rw [← hj]; rfl) | cases hj)) ?_
  refine SeqC.next rfl rfl rfl rfl rfl rfl rfl (fun hcx => Runs.build rfl rfl (run_build_WordB _)) ?_
  refine SeqC.next rfl rfl rfl rfl rfl rfl rfl (fun hcx => Runs.bin rfl rfl rfl (eqg_WordB _ _ _) (run_eql_WordB _)) ?_
  refine SeqC.and rfl rfl rfl rfl rfl rfl rfl ?_
  refine Seq.val (Runs.assign rfl rfl) rfl rfl rfl ?_
  refine Seq.nil ?_
  refine Post.weak (F' := [(0, _), (1, _), (2, _), (3, _)]) ⟨rfl, rfl, rfl, rfl, trivial⟩ ?_
  refine Post.then_ ?_
  refine Cd.ret ?_
  refine Post.end1 rfl rfl (.inl rfl) ?_
  exact ⟨ret1 (bool_eq (by simp)), bel⟩
end Go.Proofs.Ytijaldpmpjapiaa
namespace Go.Proofs.Ytijaldpmpjapiaa
open Go.RowKit

theorem kids_any (op : Int) (w : World) : Calls Try.prog 84 #[.int .i64 op] w fun e w' => e = .returned (.int .i64 (arityZ op)) ∧ Grow w w' := by
  have bel := Below.refl w.heap.size w
  refine Calls.start 23 Try.func84 rfl rfl rfl ?_
  refine Cd.seq ?_
  refine Cd.region ?_
  refine Seq.val (Runs.assign rfl rfl) rfl rfl rfl ?_
  refine Seq.nil ?_
  refine Post.weak (F' := [(0, _), (2, _)]) ⟨rfl, rfl, trivial⟩ ?_
  refine Post.then_ ?_
  refine Cd.seq ?_
  refine Cd.seq ?_
  refine Cd.region ?_
  refine Seq.val (Runs.move rfl rfl) rfl rfl rfl ?_
  refine Seq.val (Runs.geq rfl rfl rfl) rfl rfl rfl ?_
  refine Seq.val (Runs.move rfl rfl) rfl rfl rfl ?_
  refine SeqC.start ?_
  refine SeqC.open rfl rfl rfl rfl rfl rfl rfl (fun hcx => Runs.move rfl rfl) ?_
  refine SeqC.next rfl rfl rfl rfl rfl rfl rfl (fun hcx => Runs.leq rfl rfl rfl) ?_
  refine SeqC.and rfl rfl rfl rfl rfl rfl rfl ?_
  refine Seq.nil ?_
  refine Post.weak (F' := [(0, _), (2, _), (8, _)]) ⟨rfl, rfl, rfl, trivial⟩ ?_
  refine Post.then_ ?_
  refine Cd.cond rfl (fun h => ?_) (fun h => ?_)
  · simp at h
    refine Cd.seq ?_
    refine Cd.region ?_
    refine Seq.val (Runs.assign rfl rfl) rfl rfl rfl ?_
    refine Seq.nil ?_
    refine Post.weak (F' := [(0, _), (2, _), (8, _)]) ⟨rfl, rfl, rfl, trivial⟩ ?_
    refine Post.then_ ?_
    refine Cd.ret ?_
    refine Post.then_ret ?_
    refine Post.end1 rfl rfl (.inl rfl) ?_
    exact ⟨ret1 (int_eq (by unfold arityZ; rw [if_pos h])), bel⟩
  · simp at h
    refine Cd.skip ?_
    refine Post.then_ ?_
    refine Cd.seq ?_
    refine Cd.seq ?_
    refine Cd.region ?_
    refine Seq.val (Runs.move rfl rfl) rfl rfl rfl ?_
    refine Seq.val (Runs.geq rfl rfl rfl) rfl rfl rfl ?_
    refine Seq.val (Runs.move rfl rfl) rfl rfl rfl ?_
    refine SeqC.start ?_
    refine SeqC.open rfl rfl rfl rfl rfl rfl rfl (fun hcx => Runs.move rfl rfl) ?_
    refine SeqC.next rfl rfl rfl rfl rfl rfl rfl (fun hcx => Runs.leq rfl rfl rfl) ?_
    refine SeqC.and rfl rfl rfl rfl rfl rfl rfl ?_
    refine Seq.nil ?_
    refine Post.weak (F' := [(0, _), (2, _), (8, _), (14, _)]) ⟨rfl, rfl, rfl, rfl, trivial⟩ ?_
    refine Post.then_ ?_
    refine Cd.cond rfl (fun h2 => ?_) (fun h2 => ?_)
    · simp at h2
      refine Cd.seq ?_
      refine Cd.region ?_
      refine Seq.val (Runs.assign rfl rfl) rfl rfl rfl ?_
      refine Seq.nil ?_
      refine Post.weak (F' := [(0, _), (2, _), (8, _), (14, _)]) ⟨rfl, rfl, rfl, rfl, trivial⟩ ?_
      refine Post.then_ ?_
      refine Cd.ret ?_
      refine Post.then_ret ?_
      refine Post.end1 rfl rfl (.inl rfl) ?_
      exact ⟨ret1 (int_eq (by unfold arityZ; rw [if_neg (by omega), if_pos h2])), bel⟩
    · simp at h2
      refine Cd.skip ?_
      refine Post.then_ ?_
      refine Cd.seq ?_
      refine Cd.seq ?_
      refine Cd.region ?_
      refine Seq.val (Runs.move rfl rfl) rfl rfl rfl ?_
      refine Seq.val (Runs.eqlI rfl rfl rfl) rfl rfl rfl ?_
      refine Seq.val (Runs.move rfl rfl) rfl rfl rfl ?_
      refine SeqC.start ?_
      refine SeqC.open rfl rfl rfl rfl rfl rfl rfl (fun hcx => Runs.move rfl rfl) ?_
      refine SeqC.next rfl rfl rfl rfl rfl rfl rfl (fun hcx => Runs.eqlI rfl rfl rfl) ?_
      refine SeqC.or rfl rfl rfl rfl rfl rfl rfl ?_
      refine Seq.nil ?_
      refine Post.weak (F' := [(0, _), (2, _), (8, _), (14, _), (20, _)]) ⟨rfl, rfl, rfl, rfl, rfl, trivial⟩ ?_
      refine Post.then_ ?_
      refine Cd.cond rfl (fun h3 => ?_) (fun h3 => ?_)
      · simp at h3
        refine Cd.seq ?_
        refine Cd.region ?_
        refine Seq.val (Runs.assign rfl rfl) rfl rfl rfl ?_
        refine Seq.nil ?_
        refine Post.weak (F' := [(0, _), (2, _), (8, _), (14, _), (20, _)]) ⟨rfl, rfl, rfl, rfl, rfl, trivial⟩ ?_
        refine Post.then_ ?_
        refine Cd.ret ?_
        refine Post.then_ret ?_
        refine Post.end1 rfl rfl (.inl rfl) ?_
        exact ⟨ret1 (int_eq (by unfold arityZ; rw [if_neg (by omega), if_neg (by omega), if_pos h3])), bel⟩
      · simp at h3
        refine Cd.skip ?_
        refine Post.then_ ?_
        refine Cd.seq ?_
        refine Cd.seq ?_
        refine Cd.region ?_
        refine Seq.val (Runs.move rfl rfl) rfl rfl rfl ?_
        refine Seq.val (Runs.eqlI rfl rfl rfl) rfl rfl rfl ?_
        refine Seq.nil ?_
        refine Post.weak (F' := [(0, _), (2, _), (8, _), (14, _), (20, _), (22, _)]) ⟨rfl, rfl, rfl, rfl, rfl, rfl, trivial⟩ ?_
        refine Post.then_ ?_
        refine Cd.condD rfl (fun hc => ?_) (fun hc => ?_)
        · skip
          refine Cd.seq ?_
          refine Cd.region ?_
          refine Seq.val (Runs.assign rfl rfl) rfl rfl rfl ?_
          refine Seq.nil ?_
          refine Post.weak (F' := [(0, _), (2, _), (8, _), (14, _), (20, _), (22, _)]) ⟨rfl, rfl, rfl, rfl, rfl, rfl, trivial⟩ ?_
          refine Post.then_ ?_
          refine Cd.ret ?_
          refine Post.then_ret ?_
          refine Post.end1 rfl rfl (.inl rfl) ?_
          exact ⟨ret1 (int_eq (by unfold arityZ; rw [if_neg (by omega), if_neg (by omega), if_neg (by omega), if_pos (by assumption)])), bel⟩
        · skip
          refine Cd.skip ?_
          refine Post.then_ ?_
          refine Cd.seq ?_
          refine Cd.region ?_
          refine Seq.val (Runs.assign rfl rfl) rfl rfl rfl ?_
          refine Seq.nil ?_
          refine Post.weak (F' := [(0, _), (2, _), (8, _), (14, _), (20, _), (22, _)]) ⟨rfl, rfl, rfl, rfl, rfl, rfl, trivial⟩ ?_
          refine Post.then_ ?_
          refine Cd.ret ?_
          refine Post.end1 rfl rfl (.inl rfl) ?_
          exact ⟨ret1 (int_eq (by unfold arityZ; rw [if_neg (by omega), if_neg (by omega), if_neg (by omega), if_neg (by assumption)])), bel⟩
theorem reserved_byt : ∀ x ∈ reserved, ∀ d ∈ x, d < 256 := by decide
theorem refReserved_any (l : List Nat) (w : World) (hl : ∀ d ∈ l, d < 256) : Calls Try.prog 133 #[.string (strOf l)] w fun e w' => e = .returned (.bool (reservedB l)) ∧ Grow w w' := by
  have bel := Below.refl w.heap.size w
  have hat : ∀ j x, reserved[j]? = some x → (flatC (reserved.map fun x => Value.string (strOf x))).toArray[j]? = some (Value.string (strOf x)) := fun j x h => by
    have hj := (List.getElem?_eq_some_iff.1 h).1
    replace hj : j < 13 := hj
    rcases (show j = 0 ∨ j = 1 ∨ j = 2 ∨ j = 3 ∨ j = 4 ∨ j = 5 ∨ j = 6 ∨ j = 7 ∨ j = 8 ∨ j = 9 ∨ j = 10 ∨ j = 11 ∨ j = 12 by omega) with rfl | rfl | rfl | rfl | rfl | rfl | rfl | rfl | rfl | rfl | rfl | rfl | rfl <;> (injection h with h; subst h; rfl)
  refine Calls.start 18 Try.func133 rfl rfl rfl ?_
  refine Cd.seq ?_
  refine Cd.region ?_
  refine Seq.val (Runs.assign rfl rfl) rfl rfl rfl ?_
  refine Seq.nil ?_
  refine Post.weak (F' := [(0, _), (2, _)]) ⟨rfl, rfl, trivial⟩ ?_
  refine Post.then_ ?_
  refine Cd.seq ?_
  refine Cd.region ?_
  refine Seq.slice (vs := [_, _, _, _, _, _, _, _, _, _, _, _, _]) (s := 1) rfl rfl rfl Try.underlying85 (by kernel_rfl) (zero_string) (by omega) (by omega) ⟨rfl, rfl, rfl, rfl, rfl, rfl, rfl, rfl, rfl, rfl, rfl, rfl, rfl, trivial⟩ rfl rfl rfl ?_
  intro g5 w1 n5
  have e5 := Nat.le_trans bel.size n5.ge
  replace bel := bel.step n5.below
  have k5 := n5.blk
  refine Seq.val (Runs.assign rfl rfl) rfl rfl rfl ?_
  refine Seq.nil ?_
  refine Post.weak (F' := [(0, _), (2, _), (3, _)]) ⟨rfl, rfl, rfl, trivial⟩ ?_
  refine Post.then_ ?_
  refine Cd.seq ?_
  refine Cd.seq ?_
  refine Cd.region ?_
  refine Seq.val (Runs.assign rfl rfl) rfl rfl rfl ?_
  refine Seq.nil ?_
  refine Post.weak (F' := [(0, _), (2, _), (3, _), (4, _)]) ⟨rfl, rfl, rfl, rfl, trivial⟩ ?_
  refine Post.then_ ?_
  refine Cd.block ?_
  refine Cd.loop (σ := Nat) (fun k => [(0, .string (strOf l)), (3, .slice (some ⟨g5, 0, none⟩) 13 13), (4, .int .i64 (k : Int))])
    (fun k wr => k ≤ 13 ∧ (∀ x ∈ reserved.take k, l ≠ x) ∧ Below w.heap.size w wr ∧ Blk wr g5 9 (flatC (reserved.map fun x => Value.string (strOf x))).toArray) (fun k => 13 - k) 0 ⟨by omega, by simp, bel, k5⟩ ⟨rfl, rfl, rfl, trivial⟩ ?_
  clear bel k5
  rintro k wr ⟨hk, hno, bel, k5⟩
  refine Cd.seq ?_
  refine Cd.seq ?_
  refine Cd.region ?_
  refine Seq.val (Runs.move rfl rfl) rfl rfl rfl ?_
  refine Seq.val (Runs.move rfl rfl) rfl rfl rfl ?_
  refine Seq.val (Runs.len rfl rfl Try.underlying85) rfl rfl rfl ?_
  refine Seq.val (Runs.lss rfl rfl rfl) rfl rfl rfl ?_
  refine Seq.nil ?_
  refine Post.weak (F' := [(0, _), (3, _), (4, _), (9, _)]) ⟨rfl, rfl, rfl, rfl, trivial⟩ ?_
  refine Post.then_ ?_
  refine Cd.condD rfl (fun hc => ?_) (fun hc => ?_)
  · obtain ⟨x, hx⟩ : ∃ x, reserved[k]? = some x := ⟨_, List.getElem?_eq_getElem (show k < reserved.length by show k < 13; omega)⟩
    have htk : reserved.take (k + 1) = reserved.take k ++ [x] := by rw [List.take_add_one, hx]; rfl
    have hxb : ∀ d ∈ x, d < 256 := reserved_byt x (List.mem_of_getElem? hx)
    refine Cd.skip ?_
    refine Post.then_ ?_
    refine Cd.seq ?_
    refine Cd.block ?_
    refine Cd.seq ?_
    refine Cd.region ?_
    refine Seq.val (Runs.move rfl rfl) rfl rfl rfl ?_
    refine Seq.val (Runs.move rfl rfl) rfl rfl rfl ?_
    refine Seq.val (Runs.indexB rfl rfl rfl Try.underlying85 (by kernel_rfl) (j := k) rfl (by omega)) rfl rfl rfl ?_
    refine Seq.val (Runs.loadB rfl rfl Try.underlying9 rfl k5 (hat k x hx)) rfl rfl rfl ?_
    refine Seq.val (Runs.move rfl rfl) rfl rfl rfl ?_
    refine Seq.val (Runs.eqlL (a := x) (b := l) rfl rfl rfl hxb hl) rfl rfl rfl ?_
    refine Seq.nil ?_
    refine Post.weak (F' := [(0, _), (3, _), (4, _), (9, _), (17, _)]) ⟨rfl, rfl, rfl, rfl, rfl, trivial⟩ ?_
    refine Post.then_ ?_
    refine Cd.condD rfl (fun hq => ?_) (fun hne => ?_)
    · skip
      refine Cd.seq ?_
      refine Cd.region ?_
      refine Seq.val (Runs.assign rfl rfl) rfl rfl rfl ?_
      refine Seq.nil ?_
      refine Post.weak (F' := [(0, _), (2, _), (3, _), (4, _), (9, _), (17, _)]) ⟨rfl, rfl, rfl, rfl, rfl, rfl, trivial⟩ ?_
      refine Post.then_ ?_
      refine Cd.ret ?_
      refine Post.block_ret ?_
      refine Post.then_ret ?_
      refine Post.round_ret ?_
      refine Post.block_ret ?_
      refine Post.then_ret ?_
      refine Post.end1 rfl rfl (.inl rfl) ?_
      refine ⟨ret1 (bool_eq ?_), bel⟩
      unfold reservedB
      exact (List.any_eq_true.2 ⟨x, List.mem_of_getElem? hx, decide_eq_true hq.symm⟩).symm
    · skip
      refine Cd.skip ?_
      refine Post.block_normal ?_
      refine Post.then_ ?_
      refine Cd.region ?_
      refine Seq.val (Runs.move rfl rfl) rfl rfl rfl ?_
      refine Seq.val (Runs.addI rfl rfl rfl (by omega) (by omega)) rfl rfl rfl ?_
      refine Seq.val (Runs.assign rfl rfl) rfl rfl rfl ?_
      refine Seq.nil ?_
      refine Post.weak (F' := [(0, _), (3, _), (4, _), (9, _), (17, _)]) ⟨rfl, rfl, rfl, rfl, rfl, trivial⟩ ?_
      refine Post.round (k + 1) ⟨rfl, rfl, rfl, trivial⟩ ⟨by omega, fun y hy => ?_, bel, k5⟩ (by omega)
      rw [htk] at hy
      rcases List.mem_append.1 hy with hy | hy
      · exact hno y hy
      · simp at hy
        subst hy
        exact fun h => hne h.symm
  · obtain rfl : k = 13 := by omega
    rw [List.take_of_length_le (show reserved.length ≤ 13 from Nat.le_refl _)] at hno
    refine Cd.exit ?_
    refine Post.then_exit ?_
    refine Post.round_exit ?_
    refine Post.block_exit ?_
    refine Post.then_ ?_
    refine Cd.seq ?_
    refine Cd.region ?_
    refine Seq.val (Runs.assign rfl rfl) rfl rfl rfl ?_
    refine Seq.nil ?_
    refine Post.weak (F' := [(0, _), (2, _), (3, _), (4, _), (9, _)]) ⟨rfl, rfl, rfl, rfl, rfl, trivial⟩ ?_
    refine Post.then_ ?_
    refine Cd.ret ?_
    refine Post.end1 rfl rfl (.inl rfl) ?_
    refine ⟨ret1 (bool_eq ?_), bel⟩
    unfold reservedB
    symm
    rw [List.any_eq_false]
    exact fun x hx => by simpa using hno x hx
theorem refFree_any (l : List Nat) (w : World) (hl : ∀ d ∈ l, d < 256) (hlen : l.length ≤ 9223372036854775807) : Calls Try.prog 85 #[.string (strOf l)] w fun e w' => e = .returned (.bool (freeB l)) ∧ Grow w w' := by
  have bel := Below.refl w.heap.size w
  refine Calls.start 10 Try.func85 rfl rfl rfl ?_
  refine Cd.seq ?_
  refine Cd.region ?_
  refine Seq.val (Runs.assign rfl rfl) rfl rfl rfl ?_
  refine Seq.nil ?_
  refine Post.weak (F' := [(0, _), (2, _)]) ⟨rfl, rfl, trivial⟩ ?_
  refine Post.then_ ?_
  refine Cd.seq ?_
  refine Cd.region ?_
  refine Seq.val (Runs.move rfl rfl) rfl rfl rfl ?_
  refine Seq.call (Enters.func rfl rfl rfl (run_enter Try.func25 (by kernel_rfl) rfl)) rfl rfl rfl (refNamed_any l _ hl hlen) ?_
  rintro e w5 ⟨rfl, hb5⟩
  refine ⟨_, rfl, ?_⟩
  replace bel := bel.step hb5
  refine Seq.val (Runs.move rfl rfl) rfl rfl rfl ?_
  refine SeqC.start ?_
  refine SeqC.open rfl rfl rfl rfl rfl rfl rfl (fun hcx => Runs.move rfl rfl) ?_
  refine SeqC.nextC rfl rfl rfl rfl rfl rfl rfl (fun hcx => Enters.func rfl rfl rfl (run_enter Try.func133 (by kernel_rfl) rfl)) (fun hcx => refReserved_any l _ hl) ?_
  intro w1 hw1
  replace bel := bel.step hw1
  refine SeqC.next rfl rfl rfl rfl rfl rfl rfl (fun hcx => Runs.not rfl rfl) ?_
  refine SeqC.and rfl rfl rfl rfl rfl rfl rfl ?_
  refine Seq.val (Runs.assign rfl rfl) rfl rfl rfl ?_
  refine Seq.nil ?_
  refine Post.weak (F' := [(0, _), (2, _)]) ⟨rfl, rfl, trivial⟩ ?_
  refine Post.then_ ?_
  refine Cd.ret ?_
  refine Post.end1 rfl rfl (.inl rfl) ?_
  exact ⟨ret1 (bool_eq (by unfold freeB; cases namedB l <;> rfl)), bel⟩
theorem refBuilt_any (N : Nat) : ∀ (e : Ex) (B : Nat) (v : Value) (w : World), e.nodes ≤ N → Rep w B e v → B ≤ w.heap.size → Calls Try.prog 44 #[v] w fun en w' => en = .returned (.bool (builtB e)) ∧ Grow w w' := by
  induction N with
  | zero => intro e B v w hN; have := e.nodes_pos; omega
  | succ N ih =>
  intro e B v w hN hrep hB
  obtain ⟨A, c, rfl, hv⟩ := hrep.open
  have bel := Below.refl w.heap.size w
  have HB1 := hv.name
  have HB2 : ∀ d ∈ ([] : List Nat), d < 256 := by simp
  have hnl := hv.nlen
  have h60 := hv.h60
  have hn1 := hv.n.1
  have hn2 := hv.n.2
  have hbt := builtB_eq e
  obtain ⟨op, hop⟩ : ∃ op, op = e.op := ⟨_, rfl⟩
  obtain ⟨n, hn⟩ : ∃ n, n = e.n := ⟨_, rfl⟩
  obtain ⟨nm, hnm⟩ : ∃ nm, nm = e.name := ⟨_, rfl⟩
  obtain ⟨k, hk⟩ : ∃ k, k = e.args.length := ⟨_, rfl⟩
  rw [← hop, ← hn, ← hnm, ← hk] at hbt
  rw [← hnm] at HB1 hnl
  rw [← hn] at hn1 hn2
  rw [← hk] at h60
  rw [← hop, ← hn, ← hnm, ← hk]
  have hbf : ∀ _ : ¬ (arityZ op = (k : Int) ∧ (n = 0 ∨ op = 1 ∨ op = 2) ∧ (nm = [] ∨ op = 3) ∧ 0 ≤ n ∧ (op = 2 → n ≤ 2932896) ∧ (op = 3 → freeB nm = true)), builtB e = false := fun h => by rw [hbt, headB_false h]; rfl
  refine Calls.start 71 Try.func44 rfl rfl rfl ?_
  refine Cd.seq ?_
  refine Cd.region ?_
  refine Seq.box rfl rfl rfl rfl rfl ?_
  intro g1 w1 n1
  have e1 := Nat.le_trans bel.size n1.ge
  replace bel := bel.step n1.below
  have k1 := n1.blk
  refine Seq.val (Runs.assign rfl rfl) rfl rfl rfl ?_
  refine Seq.nil ?_
  refine Post.weak (F' := [(0, _), (1, _), (2, _)]) ⟨rfl, rfl, rfl, trivial⟩ ?_
  refine Post.then_ ?_
  refine Cd.seq ?_
  refine Cd.seq ?_
  refine Cd.draw 7 (by kernel_rfl) [] (.inl rfl) rfl Grow Grow.refl (fun _ _ _ => Grow.trans) ?_
  intro w2 hw2 zw2
  replace bel := bel.step hw2
  replace k1 := k1.step hw2
  have zbel := bel.size
  have zlt := k1.lt
  refine Dr.val Grow.refl rfl (fun w hG => Runs.fieldB 3 rfl rfl Try.underlying35 rfl (by kernel_rfl)) rfl ?_
  refine Dr.val Grow.refl rfl (fun w hG => Runs.loadB rfl rfl Try.underlying25 rfl (k1.step hG) rfl) rfl ?_
  refine Dr.val Grow.refl rfl (fun w hG => Runs.len rfl rfl Try.underlying25) rfl ?_
  refine Dr.val Grow.refl rfl (fun w hG => Runs.fieldB 0 rfl rfl Try.underlying35 rfl (by kernel_rfl)) rfl ?_
  refine Dr.val Grow.refl rfl (fun w hG => Runs.loadB rfl rfl Try.underlying3 rfl (k1.step hG) rfl) rfl ?_
  refine Dr.callV rfl (fun w => Enters.func rfl rfl rfl (run_enter Try.func84 (by kernel_rfl) rfl)) rfl (fun w hG => kids_any op w) ?_
  refine Dr.val Grow.refl rfl (fun w hG => Runs.neqI rfl rfl rfl) rfl ?_
  refine Dr.nil ?_
  refine FinX.done (F' := [(0, _), (1, _), (2, _), (10, _)]) rfl ⟨rfl, rfl, rfl, rfl, trivial⟩ ?_
  intro w3 hw3 fw3
  replace bel := bel.step hw3
  replace k1 := k1.step hw3
  refine Seq.nil ?_
  refine Post.weak (F' := [(0, _), (1, _), (2, _), (10, _)]) ⟨rfl, rfl, rfl, rfl, trivial⟩ ?_
  refine Post.then_ ?_
  refine Cd.condD rfl (fun hc => ?_) (fun hc => ?_)
  · skip
    refine Cd.seq ?_
    refine Cd.region ?_
    refine Seq.val (Runs.assign rfl rfl) rfl rfl rfl ?_
    refine Seq.nil ?_
    refine Post.weak (F' := [(0, _), (1, _), (2, _), (10, _)]) ⟨rfl, rfl, rfl, rfl, trivial⟩ ?_
    refine Post.then_ ?_
    refine Cd.ret ?_
    refine Post.then_ret ?_
    refine Post.end1 rfl rfl (.inl rfl) ?_
    rw [hbf (by omega)]
    exact ⟨rfl, bel⟩
  · skip
    refine Cd.skip ?_
    refine Post.then_ ?_
    refine Cd.seqJ (σ := Unit) (fun _ => [(1, .pointer (some ⟨g1, 0, none⟩))]) (fun _ wr => headB op n nm k = true ∧ Below w.heap.size w wr ∧ Blk wr g1 35 #[.int .i64 op, .int .i64 n, .string (strOf nm), .slice A k c]) ?_ ?_
    · skip
      refine Cd.seq ?_
      refine Cd.region ?_
      refine Seq.val (Runs.fieldB 0 rfl rfl Try.underlying35 rfl (by kernel_rfl)) rfl rfl rfl ?_
      refine Seq.val (Runs.loadB rfl rfl Try.underlying3 rfl k1 rfl) rfl rfl rfl ?_
      refine Seq.nil ?_
      refine Post.weak (F' := [(0, _), (1, _), (2, _), (10, _), (12, _)]) ⟨rfl, rfl, rfl, rfl, rfl, trivial⟩ ?_
      refine Post.then_ ?_
      refine Cd.block ?_
      refine Cd.seq ?_
      refine Cd.region ?_
      refine Seq.val (Runs.eqlI rfl rfl rfl) rfl rfl rfl ?_
      refine Seq.val (Runs.assign rfl rfl) rfl rfl rfl ?_
      refine Seq.nil ?_
      refine Post.weak (F' := [(0, _), (1, _), (2, _), (10, _), (12, _), (21, _)]) ⟨rfl, rfl, rfl, rfl, rfl, rfl, trivial⟩ ?_
      refine Post.then_ ?_
      refine Cd.condD rfl (fun ho => ?_) (fun ho => ?_)
      · skip
        refine Cd.seq ?_
        refine Cd.region ?_
        refine Seq.val (Runs.fieldB 1 rfl rfl Try.underlying35 rfl (by kernel_rfl)) rfl rfl rfl ?_
        refine Seq.val (Runs.loadB rfl rfl Try.underlying2 rfl k1 rfl) rfl rfl rfl ?_
        refine Seq.val (Runs.lss rfl rfl rfl) rfl rfl rfl ?_
        refine Seq.val (Runs.move rfl rfl) rfl rfl rfl ?_
        refine SeqC.start ?_
        refine SeqC.open rfl rfl rfl rfl rfl rfl rfl (fun hcx => Runs.fieldB 2 rfl rfl Try.underlying35 rfl (by kernel_rfl)) ?_
        refine SeqC.next rfl rfl rfl rfl rfl rfl rfl (fun hcx => Runs.loadB rfl rfl Try.underlying9 rfl k1 rfl) ?_
        refine SeqC.next rfl rfl rfl rfl rfl rfl rfl (fun hcx => Runs.neqL (b := []) rfl rfl rfl HB1 HB2) ?_
        refine SeqC.or rfl rfl rfl rfl rfl rfl rfl ?_
        refine Seq.nil ?_
        refine Post.weak (F' := [(0, _), (1, _), (2, _), (10, _), (12, _), (21, _), (30, _)]) ⟨rfl, rfl, rfl, rfl, rfl, rfl, rfl, trivial⟩ ?_
        refine Post.then_ ?_
        refine Cd.cond rfl (fun h => ?_) (fun h => ?_)
        · skip
          refine Cd.seq ?_
          refine Cd.region ?_
          refine Seq.val (Runs.assign rfl rfl) rfl rfl rfl ?_
          refine Seq.nil ?_
          refine Post.weak (F' := [(0, _), (1, _), (2, _), (10, _), (12, _), (21, _), (30, _)]) ⟨rfl, rfl, rfl, rfl, rfl, rfl, rfl, trivial⟩ ?_
          refine Post.then_ ?_
          refine Cd.ret ?_
          refine Post.block_ret ?_
          refine Post.then_ret ?_
          refine Post.end1 rfl rfl (.inl rfl) ?_
          simp at h
          rw [hbf (by rintro ⟨-, -, h3, h4, -⟩; rcases h with h | h; omega; rcases h3 with h3 | h3; exact h h3; omega)]
          exact ⟨rfl, bel⟩
        · simp at h
          refine Cd.skip ?_
          refine Post.block_normal ?_
          exact Post.join () ⟨rfl, trivial⟩ ⟨headB_true (by omega) (by omega) (.inl h.2) (by omega) (by omega) (by omega), bel, k1⟩
      · skip
        refine Cd.seq ?_
        refine Cd.region ?_
        refine Seq.val (Runs.eqlI rfl rfl rfl) rfl rfl rfl ?_
        refine Seq.val (Runs.assign rfl rfl) rfl rfl rfl ?_
        refine Seq.nil ?_
        refine Post.weak (F' := [(0, _), (1, _), (2, _), (10, _), (12, _), (21, _), (31, _)]) ⟨rfl, rfl, rfl, rfl, rfl, rfl, rfl, trivial⟩ ?_
        refine Post.then_ ?_
        refine Cd.condD rfl (fun ho2 => ?_) (fun ho2 => ?_)
        · skip
          refine Cd.seq ?_
          refine Cd.region ?_
          refine Seq.val (Runs.fieldB 1 rfl rfl Try.underlying35 rfl (by kernel_rfl)) rfl rfl rfl ?_
          refine Seq.val (Runs.loadB rfl rfl Try.underlying2 rfl k1 rfl) rfl rfl rfl ?_
          refine Seq.val (Runs.lss rfl rfl rfl) rfl rfl rfl ?_
          refine Seq.val (Runs.move rfl rfl) rfl rfl rfl ?_
          refine SeqC.start ?_
          refine SeqC.open rfl rfl rfl rfl rfl rfl rfl (fun hcx => Runs.fieldB 1 rfl rfl Try.underlying35 rfl (by kernel_rfl)) ?_
          refine SeqC.next rfl rfl rfl rfl rfl rfl rfl (fun hcx => Runs.loadB rfl rfl Try.underlying2 rfl k1 rfl) ?_
          refine SeqC.next rfl rfl rfl rfl rfl rfl rfl (fun hcx => Runs.gtr rfl rfl rfl) ?_
          refine SeqC.or rfl rfl rfl rfl rfl rfl rfl ?_
          refine Seq.val (Runs.move rfl rfl) rfl rfl rfl ?_
          refine SeqC.start ?_
          refine SeqC.open rfl rfl rfl rfl rfl rfl rfl (fun hcx => Runs.fieldB 2 rfl rfl Try.underlying35 rfl (by kernel_rfl)) ?_
          refine SeqC.next rfl rfl rfl rfl rfl rfl rfl (fun hcx => Runs.loadB rfl rfl Try.underlying9 rfl k1 rfl) ?_
          refine SeqC.next rfl rfl rfl rfl rfl rfl rfl (fun hcx => Runs.neqL (b := []) rfl rfl rfl HB1 HB2) ?_
          refine SeqC.or rfl rfl rfl rfl rfl rfl rfl ?_
          refine Seq.nil ?_
          refine Post.weak (F' := [(0, _), (1, _), (2, _), (10, _), (12, _), (21, _), (31, _), (45, _)]) ⟨rfl, rfl, rfl, rfl, rfl, rfl, rfl, rfl, trivial⟩ ?_
          refine Post.then_ ?_
          refine Cd.cond rfl (fun h => ?_) (fun h => ?_)
          · skip
            refine Cd.seq ?_
            refine Cd.region ?_
            refine Seq.val (Runs.assign rfl rfl) rfl rfl rfl ?_
            refine Seq.nil ?_
            refine Post.weak (F' := [(0, _), (1, _), (2, _), (10, _), (12, _), (21, _), (31, _), (45, _)]) ⟨rfl, rfl, rfl, rfl, rfl, rfl, rfl, rfl, trivial⟩ ?_
            refine Post.then_ ?_
            refine Cd.ret ?_
            refine Post.block_ret ?_
            refine Post.then_ret ?_
            refine Post.end1 rfl rfl (.inl rfl) ?_
            simp at h
            rw [hbf (by rintro ⟨-, -, h3, h4, h5, -⟩; rcases h with (h | h) | h; omega; (have := h5 ho2; omega); (rcases h3 with h3 | h3; exact h h3; omega))]
            exact ⟨rfl, bel⟩
          · simp at h
            refine Cd.skip ?_
            refine Post.block_normal ?_
            exact Post.join () ⟨rfl, trivial⟩ ⟨headB_true (by omega) (by omega) (.inl h.2) (by omega) (by omega) (by omega), bel, k1⟩
        · skip
          refine Cd.seq ?_
          refine Cd.region ?_
          refine Seq.val (Runs.eqlI rfl rfl rfl) rfl rfl rfl ?_
          refine Seq.val (Runs.assign rfl rfl) rfl rfl rfl ?_
          refine Seq.nil ?_
          refine Post.weak (F' := [(0, _), (1, _), (2, _), (10, _), (12, _), (21, _), (31, _), (46, _)]) ⟨rfl, rfl, rfl, rfl, rfl, rfl, rfl, rfl, trivial⟩ ?_
          refine Post.then_ ?_
          refine Cd.condD rfl (fun ho3 => ?_) (fun ho3 => ?_)
          · skip
            refine Cd.seq ?_
            refine Cd.region ?_
            refine Seq.val (Runs.fieldB 1 rfl rfl Try.underlying35 rfl (by kernel_rfl)) rfl rfl rfl ?_
            refine Seq.val (Runs.loadB rfl rfl Try.underlying2 rfl k1 rfl) rfl rfl rfl ?_
            refine Seq.val (Runs.neqI rfl rfl rfl) rfl rfl rfl ?_
            refine Seq.val (Runs.move rfl rfl) rfl rfl rfl ?_
            refine SeqC.start ?_
            refine SeqC.open rfl rfl rfl rfl rfl rfl rfl (fun hcx => Runs.fieldB 2 rfl rfl Try.underlying35 rfl (by kernel_rfl)) ?_
            refine SeqC.next rfl rfl rfl rfl rfl rfl rfl (fun hcx => Runs.loadB rfl rfl Try.underlying9 rfl k1 rfl) ?_
            refine SeqC.nextC rfl rfl rfl rfl rfl rfl rfl (fun hcx => Enters.func rfl rfl rfl (run_enter Try.func85 (by kernel_rfl) rfl)) (fun hcx => refFree_any nm _ HB1 hnl) ?_
            intro w4 hw4
            replace bel := bel.step hw4
            replace k1 := k1.step hw4
            refine SeqC.next rfl rfl rfl rfl rfl rfl rfl (fun hcx => Runs.not rfl rfl) ?_
            refine SeqC.or rfl rfl rfl rfl rfl rfl rfl ?_
            refine Seq.nil ?_
            refine Post.weak (F' := [(0, _), (1, _), (2, _), (10, _), (12, _), (21, _), (31, _), (46, _), (56, _)]) ⟨rfl, rfl, rfl, rfl, rfl, rfl, rfl, rfl, rfl, trivial⟩ ?_
            refine Post.then_ ?_
            refine Cd.cond rfl (fun h => ?_) (fun h => ?_)
            · skip
              refine Cd.seq ?_
              refine Cd.region ?_
              refine Seq.val (Runs.assign rfl rfl) rfl rfl rfl ?_
              refine Seq.nil ?_
              refine Post.weak (F' := [(0, _), (1, _), (2, _), (10, _), (12, _), (21, _), (31, _), (46, _), (56, _)]) ⟨rfl, rfl, rfl, rfl, rfl, rfl, rfl, rfl, rfl, trivial⟩ ?_
              refine Post.then_ ?_
              refine Cd.ret ?_
              refine Post.block_ret ?_
              refine Post.then_ret ?_
              refine Post.end1 rfl rfl (.inl rfl) ?_
              simp at h
              rw [hbf (by rintro ⟨-, h2, -, -, -, h6⟩; rcases h with h | h; omega; (rw [h6 ho3] at h; cases h))]
              exact ⟨rfl, bel⟩
            · simp at h
              refine Cd.skip ?_
              refine Post.block_normal ?_
              exact Post.join () ⟨rfl, trivial⟩ ⟨headB_true (by omega) (.inl (by omega)) (.inr ho3) (by omega) (by omega) (fun _ => h.2), bel, k1⟩
          · skip
            refine Cd.seq ?_
            refine Cd.region ?_
            refine Seq.val (Runs.fieldB 1 rfl rfl Try.underlying35 rfl (by kernel_rfl)) rfl rfl rfl ?_
            refine Seq.val (Runs.loadB rfl rfl Try.underlying2 rfl k1 rfl) rfl rfl rfl ?_
            refine Seq.val (Runs.neqI rfl rfl rfl) rfl rfl rfl ?_
            refine Seq.val (Runs.move rfl rfl) rfl rfl rfl ?_
            refine SeqC.start ?_
            refine SeqC.open rfl rfl rfl rfl rfl rfl rfl (fun hcx => Runs.fieldB 2 rfl rfl Try.underlying35 rfl (by kernel_rfl)) ?_
            refine SeqC.next rfl rfl rfl rfl rfl rfl rfl (fun hcx => Runs.loadB rfl rfl Try.underlying9 rfl k1 rfl) ?_
            refine SeqC.next rfl rfl rfl rfl rfl rfl rfl (fun hcx => Runs.neqL (b := []) rfl rfl rfl HB1 HB2) ?_
            refine SeqC.or rfl rfl rfl rfl rfl rfl rfl ?_
            refine Seq.nil ?_
            refine Post.weak (F' := [(0, _), (1, _), (2, _), (10, _), (12, _), (20, _), (21, _), (31, _), (46, _)]) ⟨rfl, rfl, rfl, rfl, rfl, rfl, rfl, rfl, rfl, trivial⟩ ?_
            refine Post.then_ ?_
            refine Cd.cond rfl (fun h => ?_) (fun h => ?_)
            · skip
              refine Cd.seq ?_
              refine Cd.region ?_
              refine Seq.val (Runs.assign rfl rfl) rfl rfl rfl ?_
              refine Seq.nil ?_
              refine Post.weak (F' := [(0, _), (1, _), (2, _), (10, _), (12, _), (20, _), (21, _), (31, _), (46, _)]) ⟨rfl, rfl, rfl, rfl, rfl, rfl, rfl, rfl, rfl, trivial⟩ ?_
              refine Post.then_ ?_
              refine Cd.ret ?_
              refine Post.block_ret ?_
              refine Post.then_ret ?_
              refine Post.end1 rfl rfl (.inl rfl) ?_
              simp at h
              rw [hbf (by rintro ⟨-, h2, h3, -⟩; rcases h with h | h; omega; (rcases h3 with h3 | h3; exact h h3; omega))]
              exact ⟨rfl, bel⟩
            · simp at h
              refine Cd.skip ?_
              refine Post.block_normal ?_
              exact Post.join () ⟨rfl, trivial⟩ ⟨headB_true (by omega) (.inl (by omega)) (.inl h.2) (by omega) (by omega) (by omega), bel, k1⟩
    clear bel k1
    rintro ⟨⟩ wr ⟨hh, bel, k1⟩
    rw [hh, Bool.true_and] at hbt
    rw [hbt]
    clear hbf
    refine Cd.seq ?_
    refine Cd.seq ?_
    refine Cd.region ?_
    refine Seq.val (Runs.assign rfl rfl) rfl rfl rfl ?_
    refine Seq.nil ?_
    refine Post.weak (F' := [(1, _), (3, _)]) ⟨rfl, rfl, trivial⟩ ?_
    refine Post.then_ ?_
    refine Cd.block ?_
    refine Cd.loop (σ := Nat) (fun j => [(1, .pointer (some ⟨g1, 0, none⟩)), (3, .int .i64 (j : Int))])
      (fun j wr => j ≤ k ∧ (∀ x ∈ e.args.take j, builtB x = true) ∧ Below w.heap.size w wr ∧ Blk wr g1 35 #[.int .i64 op, .int .i64 n, .string (strOf nm), .slice A k c]) (fun j => k - j) 0 ⟨Nat.zero_le _, by simp, bel, k1⟩ ⟨rfl, rfl, trivial⟩ ?_
    clear bel k1
    rintro j wr ⟨hj, hall, bel, k1⟩
    refine Cd.seq ?_
    refine Cd.seq ?_
    refine Cd.region ?_
    refine Seq.val (Runs.move rfl rfl) rfl rfl rfl ?_
    refine Seq.val (Runs.fieldB 3 rfl rfl Try.underlying35 rfl (by kernel_rfl)) rfl rfl rfl ?_
    refine Seq.val (Runs.loadB rfl rfl Try.underlying25 rfl k1 rfl) rfl rfl rfl ?_
    refine Seq.val (Runs.len rfl rfl Try.underlying25) rfl rfl rfl ?_
    refine Seq.val (Runs.lss rfl rfl rfl) rfl rfl rfl ?_
    refine Seq.nil ?_
    refine Post.weak (F' := [(1, _), (3, _), (61, _)]) ⟨rfl, rfl, rfl, trivial⟩ ?_
    refine Post.then_ ?_
    refine Cd.condD rfl (fun hc => ?_) (fun hc => ?_)
    · obtain ⟨x, hx⟩ : ∃ x, e.args[j]? = some x := ⟨_, List.getElem?_eq_getElem (show j < e.args.length by omega)⟩
      obtain ⟨ad, A', c', rfl, hbl, hrx, hc⟩ := hv.arg j x hx
      have hxm := List.mem_of_getElem? hx
      have hxn := Ex.arg_nodes hxm
      have hc := fun i u hj => ((bel.mono hB).cell (p := (ad.add (j * 4)).add i) (by rw [block_of_add, block_of_add]; exact hbl)).trans (hc i u hj)
      have htk : e.args.take (j + 1) = e.args.take j ++ [x] := by rw [List.take_add_one, hx]; rfl
      have hrec := ih x B _ wr (by omega) (hrx.below (bel.mono hB)) (Nat.le_trans hB bel.size)
      refine Cd.skip ?_
      refine Post.then_ ?_
      refine Cd.seq ?_
      refine Cd.block ?_
      refine Cd.seq ?_
      refine Cd.region ?_
      refine Seq.val (Runs.fieldB 3 rfl rfl Try.underlying35 rfl (by kernel_rfl)) rfl rfl rfl ?_
      refine Seq.val (Runs.loadB rfl rfl Try.underlying25 rfl k1 rfl) rfl rfl rfl ?_
      refine Seq.val (Runs.move rfl rfl) rfl rfl rfl ?_
      refine Seq.val (Runs.indexN rfl rfl rfl Try.underlying25 (s := 4) (by kernel_rfl) (j := j) rfl (by omega)) rfl rfl rfl ?_
      refine Seq.val (Runs.loadF (ps := [.int .i64 x.op, .int .i64 x.n, .string (strOf x.name), .slice A' x.args.length c']) rfl rfl Try.underlying35 rfl (m := 4) (by kernel_rfl) rfl hc) rfl rfl rfl ?_
      refine Seq.call (Enters.func rfl rfl rfl (run_enter Try.func44 (by kernel_rfl) rfl)) rfl rfl rfl (hrec) ?_
      rintro en w5 ⟨rfl, hb5⟩
      refine ⟨_, rfl, ?_⟩
      replace bel := bel.step hb5
      replace k1 := k1.step hb5
      refine Seq.val (Runs.not rfl rfl) rfl rfl rfl ?_
      refine Seq.nil ?_
      refine Post.weak (F' := [(1, _), (3, _), (61, _), (70, _)]) ⟨rfl, rfl, rfl, rfl, trivial⟩ ?_
      refine Post.then_ ?_
      refine Cd.cond rfl (fun h => ?_) (fun h => ?_)
      · skip
        refine Cd.seq ?_
        refine Cd.region ?_
        refine Seq.val (Runs.assign rfl rfl) rfl rfl rfl ?_
        refine Seq.nil ?_
        refine Post.weak (F' := [(1, _), (2, _), (3, _), (61, _), (70, _)]) ⟨rfl, rfl, rfl, rfl, rfl, trivial⟩ ?_
        refine Post.then_ ?_
        refine Cd.ret ?_
        refine Post.block_ret ?_
        refine Post.then_ret ?_
        refine Post.round_ret ?_
        refine Post.block_ret ?_
        refine Post.then_ret ?_
        refine Post.end1 rfl rfl (.inl rfl) ?_
        refine ⟨ret1 (bool_eq ?_), bel⟩
        symm
        rw [List.all_eq_false]
        exact ⟨x, hxm, by simpa using h⟩
      · skip
        refine Cd.skip ?_
        refine Post.block_normal ?_
        refine Post.then_ ?_
        refine Cd.region ?_
        refine Seq.val (Runs.move rfl rfl) rfl rfl rfl ?_
        refine Seq.val (Runs.addI rfl rfl rfl (by omega) (by omega)) rfl rfl rfl ?_
        refine Seq.val (Runs.assign rfl rfl) rfl rfl rfl ?_
        refine Seq.nil ?_
        refine Post.weak (F' := [(1, _), (3, _), (61, _), (70, _)]) ⟨rfl, rfl, rfl, rfl, trivial⟩ ?_
        refine Post.round (j + 1) ⟨rfl, rfl, trivial⟩ ⟨by omega, fun y hy => ?_, bel, k1⟩ (by omega)
        rw [htk] at hy
        rcases List.mem_append.1 hy with hy | hy
        · exact hall y hy
        · simp at hy
          subst hy
          simpa using h
    · obtain rfl : j = k := by omega
      rw [List.take_of_length_le (by omega)] at hall
      refine Cd.exit ?_
      refine Post.then_exit ?_
      refine Post.round_exit ?_
      refine Post.block_exit ?_
      refine Post.then_ ?_
      refine Cd.seq ?_
      refine Cd.region ?_
      refine Seq.val (Runs.assign rfl rfl) rfl rfl rfl ?_
      refine Seq.nil ?_
      refine Post.weak (F' := [(1, _), (2, _), (3, _), (61, _)]) ⟨rfl, rfl, rfl, rfl, trivial⟩ ?_
      refine Post.then_ ?_
      refine Cd.ret ?_
      refine Post.end1 rfl rfl (.inl rfl) ?_
      refine ⟨ret1 (bool_eq ?_), bel⟩
      symm
      rw [List.all_eq_true]
      exact hall
end Go.Proofs.Ytijaldpmpjapiaa
namespace Go.Proofs.Ytijaldpmpjapiaa
open Go.RowKit

theorem Runs.convU {P : Program} {E : Operand → Option Value} {o : Oper} {w : World} {x : Operand} {T T' : TypeId} {p : Int} {r : Nat} (ho : o.op = .convert T T' x) (hx : E x = some (.int .i64 p)) (hS : P.underlying T = some (.int .i64)) (hT : P.underlying T' = some (.int .u64)) (hr : p % 18446744073709551616 = (r : Int)) : Runs P E o w (.int .u64 (r : Int)) w :=
  .convI ho hx hS hT (by rw [IntKind.wrap_u64, hr])
/-- An earlier place. -/
def earl (k : Int) (at_ : Nat) : Nat := at_ - 1 - (k % 18446744073709551616).toNat % at_
theorem earlier_zero (k : Int) (w : World) : Calls Try.prog 38 #[.int .i64 k, .int .i64 0] w fun e w' => e = .returned (.int .i64 (-1)) ∧ Grow w w' := by
  have bel := Below.refl w.heap.size w
  refine Calls.start 16 Try.func38 rfl rfl rfl ?_
  refine Cd.seq ?_
  refine Cd.region ?_
  refine Seq.val (Runs.assign rfl rfl) rfl rfl rfl ?_
  refine Seq.nil ?_
  refine Post.weak (F' := [(0, _), (1, _), (4, _)]) ⟨rfl, rfl, rfl, trivial⟩ ?_
  refine Post.then_ ?_
  refine Cd.seq ?_
  refine Cd.seq ?_
  refine Cd.region ?_
  refine Seq.val (Runs.move rfl rfl) rfl rfl rfl ?_
  refine Seq.val (Runs.eqlI rfl rfl rfl) rfl rfl rfl ?_
  refine Seq.nil ?_
  refine Post.weak (F' := [(0, _), (1, _), (4, _), (6, _)]) ⟨rfl, rfl, rfl, rfl, trivial⟩ ?_
  refine Post.then_ ?_
  refine Cd.condT rfl rfl ?_
  refine Cd.seq ?_
  refine Cd.region ?_
  refine Seq.val (Runs.assign rfl rfl) rfl rfl rfl ?_
  refine Seq.nil ?_
  refine Post.weak (F' := [(0, _), (1, _), (4, _), (6, _)]) ⟨rfl, rfl, rfl, rfl, trivial⟩ ?_
  refine Post.then_ ?_
  refine Cd.ret ?_
  refine Post.then_ret ?_
  refine Post.end1 rfl rfl (.inl rfl) ?_
  exact ⟨rfl, bel⟩
theorem earlier_any (k : Int) (at_ : Nat) (w : World) (h0 : 0 < at_) (h1 : at_ ≤ 1000) : Calls Try.prog 38 #[.int .i64 k, .int .i64 (at_ : Int)] w fun e w' => e = .returned (.int .i64 (earl k at_ : Int)) ∧ Grow w w' := by
  have bel := Below.refl w.heap.size w
  obtain ⟨u, hu⟩ : ∃ u : Nat, k % 18446744073709551616 = (u : Int) := ⟨(k % 18446744073709551616).toNat, by omega⟩
  obtain ⟨m, hm⟩ : ∃ m, m = u % at_ := ⟨_, rfl⟩
  have hml : m < at_ := by rw [hm]; exact Nat.mod_lt _ h0
  have he : earl k at_ = at_ - 1 - m := by unfold earl; rw [hu, hm, Int.toNat_natCast]
  rw [he]
  refine Calls.start 16 Try.func38 rfl rfl rfl ?_
  refine Cd.seq ?_
  refine Cd.region ?_
  refine Seq.val (Runs.assign rfl rfl) rfl rfl rfl ?_
  refine Seq.nil ?_
  refine Post.weak (F' := [(0, _), (1, _), (4, _)]) ⟨rfl, rfl, rfl, trivial⟩ ?_
  refine Post.then_ ?_
  refine Cd.seq ?_
  refine Cd.seq ?_
  refine Cd.region ?_
  refine Seq.val (Runs.move rfl rfl) rfl rfl rfl ?_
  refine Seq.val (Runs.eqlI rfl rfl rfl) rfl rfl rfl ?_
  refine Seq.nil ?_
  refine Post.weak (F' := [(0, _), (1, _), (4, _), (6, _)]) ⟨rfl, rfl, rfl, rfl, trivial⟩ ?_
  refine Post.then_ ?_
  refine Cd.condF rfl (decide_eq_false (by omega)) ?_
  refine Cd.skip ?_
  refine Post.then_ ?_
  refine Cd.seq ?_
  refine Cd.region ?_
  refine Seq.val (Runs.move rfl rfl) rfl rfl rfl ?_
  refine Seq.val (Runs.subI rfl rfl rfl (by omega) (by omega)) rfl rfl rfl ?_
  refine Seq.val (Runs.move rfl rfl) rfl rfl rfl ?_
  refine Seq.val (Runs.convU (r := u) rfl rfl Try.underlying3 Try.underlying63 hu) rfl rfl rfl ?_
  refine Seq.val (Runs.move rfl rfl) rfl rfl rfl ?_
  refine Seq.val (Runs.convU (r := at_) rfl rfl Try.underlying3 Try.underlying63 (by omega)) rfl rfl rfl ?_
  refine Seq.val ((Runs.remN rfl rfl rfl (by omega) (by omega)).cast (v' := .int .u64 (m : Int)) (int_eq (by rw [hm]; exact (Int.natCast_emod _ _).symm))) rfl rfl rfl ?_
  refine Seq.val (Runs.convI rfl rfl Try.underlying63 Try.underlying3 (wrapI (by omega) (by omega))) rfl rfl rfl ?_
  refine Seq.val (Runs.subI rfl rfl rfl (by omega) (by omega)) rfl rfl rfl ?_
  refine Seq.val (Runs.assign rfl rfl) rfl rfl rfl ?_
  refine Seq.nil ?_
  refine Post.weak (F' := [(0, _), (1, _), (4, _), (6, _)]) ⟨rfl, rfl, rfl, rfl, trivial⟩ ?_
  refine Post.then_ ?_
  refine Cd.ret ?_
  refine Post.end1 rfl rfl (.inl rfl) ?_
  exact ⟨ret1 (int_eq (by omega)), bel⟩
def toldZ (n d : Int) : Int × Int := if 1000 ≤ n ∨ 1000 ≤ d then (1000, 1000) else (n, d)
theorem told_any (n d : Int) (w : World) : Calls Try.prog 39 #[.int .i64 n, .int .i64 d] w fun e w' => e = .returned (.tuple #[.int .i64 (toldZ n d).1, .int .i64 (toldZ n d).2]) ∧ Grow w w' := by
  have bel := Below.refl w.heap.size w
  refine Calls.start 14 Try.func39 rfl rfl rfl ?_
  refine Cd.seq ?_
  refine Cd.region ?_
  refine Seq.val (Runs.assign rfl rfl) rfl rfl rfl ?_
  refine Seq.val (Runs.assign rfl rfl) rfl rfl rfl ?_
  refine Seq.nil ?_
  refine Post.weak (F' := [(0, _), (1, _), (4, _), (5, _)]) ⟨rfl, rfl, rfl, rfl, trivial⟩ ?_
  refine Post.then_ ?_
  refine Cd.seq ?_
  refine Cd.seq ?_
  refine Cd.region ?_
  refine Seq.val (Runs.move rfl rfl) rfl rfl rfl ?_
  refine Seq.val (Runs.geq rfl rfl rfl) rfl rfl rfl ?_
  refine Seq.val (Runs.move rfl rfl) rfl rfl rfl ?_
  refine SeqC.start ?_
  refine SeqC.open rfl rfl rfl rfl rfl rfl rfl (fun hcx => Runs.move rfl rfl) ?_
  refine SeqC.next rfl rfl rfl rfl rfl rfl rfl (fun hcx => Runs.geq rfl rfl rfl) ?_
  refine SeqC.or rfl rfl rfl rfl rfl rfl rfl ?_
  refine Seq.nil ?_
  refine Post.weak (F' := [(0, _), (1, _), (4, _), (5, _), (11, _)]) ⟨rfl, rfl, rfl, rfl, rfl, trivial⟩ ?_
  refine Post.then_ ?_
  refine Cd.cond rfl (fun h => ?_) (fun h => ?_)
  · simp at h
    refine Cd.seq ?_
    refine Cd.region ?_
    refine Seq.val (Runs.assign rfl rfl) rfl rfl rfl ?_
    refine Seq.val (Runs.assign rfl rfl) rfl rfl rfl ?_
    refine Seq.nil ?_
    refine Post.weak (F' := [(0, _), (1, _), (4, _), (5, _), (11, _)]) ⟨rfl, rfl, rfl, rfl, rfl, trivial⟩ ?_
    refine Post.then_ ?_
    refine Cd.ret ?_
    refine Post.then_ret ?_
    refine Post.end2 rfl rfl rfl (.inl rfl) ?_
    unfold toldZ
    rw [if_pos h]
    exact ⟨rfl, bel⟩
  · simp at h
    refine Cd.skip ?_
    refine Post.then_ ?_
    refine Cd.seq ?_
    refine Cd.region ?_
    refine Seq.val (Runs.move rfl rfl) rfl rfl rfl ?_
    refine Seq.val (Runs.move rfl rfl) rfl rfl rfl ?_
    refine Seq.val (Runs.assign rfl rfl) rfl rfl rfl ?_
    refine Seq.val (Runs.assign rfl rfl) rfl rfl rfl ?_
    refine Seq.nil ?_
    refine Post.weak (F' := [(0, _), (1, _), (4, _), (5, _), (11, _)]) ⟨rfl, rfl, rfl, rfl, rfl, trivial⟩ ?_
    refine Post.then_ ?_
    refine Cd.ret ?_
    refine Post.end2 rfl rfl rfl (.inl rfl) ?_
    unfold toldZ
    rw [if_neg (by omega)]
    exact ⟨rfl, bel⟩
/-- Trees that are made, in blocks of a list. -/
structure Forest (w : World) (T : List Nat) (es : List Ex) (vs : List Value) : Prop where
  len : vs.length = es.length
  lt : ∀ b ∈ T, b < w.heap.size
  rep : ∀ (i : Nat) (e : Ex) (v : Value), es[i]? = some e → vs[i]? = some v → RepE w (· ∈ T) e v
section
variable {w w' : World} {T : List Nat} {es : List Ex} {vs : List Value}
theorem Forest.keep (h : Forest w T es vs) (hs : w.heap.size ≤ w'.heap.size) (hb : ∀ b ∈ T, w'.heap[b]? = w.heap[b]?) : Forest w' T es vs :=
  ⟨h.len, fun b hm => Nat.lt_of_lt_of_le (h.lt b hm) hs, fun i e v he hv => (h.rep i e v he hv).mono (fun _ h => h) (fun p hp => World.cell?_of_block (hb p.block hp))⟩
theorem Forest.step (h : Forest w T es vs) (hb : Below w.heap.size w w') : Forest w' T es vs := h.keep hb.size (fun b hm => hb.block b (h.lt b hm))
theorem Forest.grown {row : Option Nat} (h : Forest w T es vs) (hg : w.grownBy w' row) (hne : ∀ b, row = some b → b ∉ T) : Forest w' T es vs := h.keep hg.size (fun b hm => hg.block b (h.lt b hm) (fun e => hne b e.symm hm))
theorem Forest.nil (w : World) : Forest w [] [] [] := ⟨rfl, fun b h => (by cases h), fun i e v h => by cases h⟩
theorem Forest.cells (h : Forest w T es vs) : sizes 4 vs := by
  have : ∀ v ∈ vs, v.cells.size = 4 := fun v hv => by
    obtain ⟨k, hk, rfl⟩ := List.getElem_of_mem hv
    obtain ⟨z, hz⟩ : ∃ z, es[k]? = some z := ⟨_, List.getElem?_eq_getElem (by have := h.len; omega)⟩
    exact (h.rep k z _ hz (List.getElem?_eq_getElem hk)).cells4
  clear h
  induction vs with
  | nil => trivial
  | cons v r ih => exact ⟨this v List.mem_cons_self, ih (fun u hu => this u (List.mem_cons_of_mem _ hu))⟩
end
theorem Own.kept' {w w' : World} {B size n : Nat} {e : TypeId} {v : Value} {xs : List Value} {row : Option Nat} (h : Own w B e size v n xs) (hg : w.grownBy w' row) (hne : ∀ b, v.ownBlock = some b → row ≠ some b) : Own w' B e size v n xs := by
  refine ⟨h.row.kept hg ?_⟩
  cases hv : v.ownBlock with
  | none => exact .inl rfl
  | some b => exact .inr fun e' => hne b hv e'.symm
theorem Own.blockLt {w : World} {B size n : Nat} {e : TypeId} {v : Value} {xs : List Value} (h : Own w B e size v n xs) : ∀ b, v.ownBlock = some b → B ≤ b ∧ b < w.heap.size := fun b hb => by
  obtain ⟨h1, h2⟩ := h.row
  rcases h2 with ⟨rfl, -⟩ | ⟨g', cap, cur, rfl, e2, e3, e4⟩
  · cases hb
  · injection hb with hb
    subst hb
    exact ⟨e2, (show Blk w g' e cur from e3).lt⟩
section
variable {P : Program} {ops : Array Oper} {Q : Exit → Act → World → Prop} {rest : List Oper} {o : Oper} {n d : Nat} {F : List (Nat × Value)} {w : World} {v : Value} {x y : Operand}
/-- append, and where its row lies. -/
theorem Seq.append2 {t e B B2 size b k m c : Nat} {A : Option Addr} {z : Value} {xs news : List Value} (ho : o.op = .call { callee := .builtin .append, args := #[x, y], argTypes := #[t, t] }) (hx : evF F x = some v) (hy : evF F y = some (.slice A m c)) (ht : P.underlying t = some (.slice e)) (hs : sizeIs P e size = true) (hz : zeroIs P e = some (some z)) (hzs : z.cells.size = size) (hsz : 0 < size) (hby : (P.info? e).map (·.bytes) = some b)
    (hown : Own w B e size v k xs) (hr : Reads w B2 size A m news) (h1 : ∀ u ∈ news, u.oneCell' = true) (hB : B ≤ w.heap.size) (h63 : k + m ≤ maxLen) (hbytes : (k + m) * b ≤ 140737488355328) (hg : o.guard = none) (hd : o.dst = some d) (hn : Nat.blt d n = true)
    (h : ∀ v' w', Own w' B e size v' (k + m) (xs ++ news) → App w w' B v → (v'.ownBlock = v.ownBlock ∨ v'.ownBlock = some w.heap.size) → Seq P ops Q rest n ((d, v') :: F) w') : Seq P ops Q (o :: rest) n F w := by
  obtain ⟨i, hi, hisz⟩ := sizeIs_spec hs
  have hz' : i.zero = some z := by unfold zeroIs at hz; rw [hi] at hz; injection hz
  have hb' : i.bytes = b := by rw [hi] at hby; injection hby
  obtain ⟨v', w', hrun, h2, h3, h4⟩ := run_append_any (P := P) w B t o.type e i z size b ht hi hz' hisz hb' hzs hsz v k xs hown.row B2 A m c news hr h1 h63 hbytes hB
  refine Seq.val (v := v') (w' := w') (fun ρ hρ => ?_) hg hd hn (h v' w' ⟨h2⟩ ⟨?_, h3⟩ h4)
  · unfold execOp
    simp only [ho, resolve, invoke, builtin, Sem.run_bind, Sem.run_pure, Result.andThen_ok, List.map_toArray, List.map_cons, List.map_nil, hρ _ _ hx, hρ _ _ hy, hrun]
  · refine ⟨h3.os, h3.tape, h3.output, h3.size, fun j hj => h3.block j (by omega) fun e' => ?_⟩
    rcases hown.row.2 with ⟨rfl, _⟩ | ⟨g, cap, cur, rfl, hBg, _⟩
    · cases e'
    · injection e' with e'
      have : j = g := e'
      omega
end
end Go.Proofs.Ytijaldpmpjapiaa
namespace Go.Proofs.Ytijaldpmpjapiaa
open Go.RowKit

/-- A leaf. -/
structure Lf where
  op : Int
  n : Int
  name : List Nat
  kids : List Int
structure Lf.rng (x : Lf) : Prop where
  op : I64 x.op
  n : I64 x.n
  name : ∀ d ∈ x.name, d < 256
  nlen : x.name.length ≤ 9223372036854775807
def zNodes (e : Ex) : Int := (toldZ (e.nodes : Int) (e.depth : Int)).1
def zDepth (e : Ex) : Int := (toldZ (e.nodes : Int) (e.depth : Int)).2
def sumN : List Ex → Int
  | [] => 0
  | e :: r => zNodes e + sumN r
def maxD : List Ex → Int
  | [] => 0
  | e :: r => max (zDepth e) (maxD r)
theorem sumN_snoc (l : List Ex) (e : Ex) : sumN (l ++ [e]) = sumN l + zNodes e := by
  induction l with
  | nil => show zNodes e + 0 = 0 + zNodes e; omega
  | cons x r ih => show zNodes x + sumN (r ++ [e]) = zNodes x + sumN r + zNodes e; omega
theorem z_bounds (e : Ex) : 0 ≤ zNodes e ∧ zNodes e ≤ 1000 ∧ 0 ≤ zDepth e ∧ zDepth e ≤ 1000 := by
  unfold zNodes zDepth toldZ
  split <;> omega
theorem maxD_nonneg (l : List Ex) : 0 ≤ maxD l ∧ maxD l ≤ 1000 := by
  induction l with
  | nil => exact ⟨Int.le_refl _, by decide⟩
  | cons x r ih => have := z_bounds x; show 0 ≤ max (zDepth x) (maxD r) ∧ max (zDepth x) (maxD r) ≤ 1000; omega
theorem maxD_snoc (l : List Ex) (e : Ex) : maxD (l ++ [e]) = max (maxD l) (zDepth e) := by
  induction l with
  | nil => have := z_bounds e; show max (zDepth e) 0 = max 0 (zDepth e); omega
  | cons x r ih => show max (zDepth x) (maxD (r ++ [e])) = max (max (zDepth x) (maxD r)) (zDepth e); omega
theorem sumN_bounds (l : List Ex) : 0 ≤ sumN l ∧ sumN l ≤ 1000 * (l.length : Int) := by
  induction l with
  | nil => exact ⟨Int.le_refl _, by decide⟩
  | cons x r ih =>
    have := z_bounds x
    have h : sumN (x :: r) = zNodes x + sumN r := rfl
    rw [h, List.length_cons]
    omega
theorem sum_or (l : List Ex) : (sumN l = (nodesL l : Int) ∧ maxD l = (depthL l : Int)) ∨ (1000 ≤ sumN l ∧ 1000 ≤ nodesL l) := by
  induction l with
  | nil => exact .inl ⟨rfl, rfl⟩
  | cons x r ih =>
    have hb := sumN_bounds r
    have hz := z_bounds x
    have h1 : sumN (x :: r) = zNodes x + sumN r := rfl
    have h2 : maxD (x :: r) = max (zDepth x) (maxD r) := rfl
    have h3 : nodesL (x :: r) = x.nodes + nodesL r := by rw [nodesL]
    have h4 : depthL (x :: r) = max x.depth (depthL r) := by rw [depthL]
    have hd := x.depth_nodes
    rw [h1, h2, h3, h4]
    rcases ih with ⟨e1, e2⟩ | ⟨e1, e2⟩
    · by_cases hbig : 1000 ≤ (x.nodes : Int) ∨ 1000 ≤ (x.depth : Int)
      · have : zNodes x = 1000 := by unfold zNodes toldZ; rw [if_pos hbig]
        right
        omega
      · have g1 : zNodes x = x.nodes := by unfold zNodes toldZ; rw [if_neg hbig]
        have g2 : zDepth x = x.depth := by unfold zDepth toldZ; rw [if_neg hbig]
        left
        omega
    · right; omega
theorem told_mk (op n : Int) (nm : List Nat) (l : List Ex) : toldZ (1 + sumN l) (1 + maxD l) = (zNodes (.mk op n nm l), zDepth (.mk op n nm l)) := by
  have hn := Ex.nodes_mk op n nm l
  have hd := Ex.depth_mk op n nm l
  have hdn := depthL_nodesL l
  have hm := maxD_nonneg l
  unfold zNodes zDepth
  rw [hn, hd]
  rcases sum_or l with ⟨e1, e2⟩ | ⟨e1, e2⟩
  · rw [e1, e2, Int.natCast_add, Int.natCast_add]; rfl
  · unfold toldZ
    rw [if_pos (by omega), if_pos (by omega)]
/-- What a leaf has within. -/
def pickK (es : List Ex) (ks : List Int) : List Ex := ks.filterMap fun k => if es.length = 0 then none else es[earl k es.length]?
theorem earl_lt (k : Int) {n : Nat} (h : 0 < n) : earl k n < n := by unfold earl; omega
theorem pickK_none (es : List Ex) (ks : List Int) (k : Int) (h : es.length = 0) : pickK es (ks ++ [k]) = pickK es ks := by
  unfold pickK; rw [List.filterMap_append]; simp [h]
theorem pickK_some (es : List Ex) (ks : List Int) (k : Int) (e : Ex) (h : es[earl k es.length]? = some e) : pickK es (ks ++ [k]) = pickK es ks ++ [e] := by
  unfold pickK
  have h0 : ¬ es.length = 0 := fun h0 => by rw [List.eq_nil_of_length_eq_zero h0] at h; cases h
  rw [List.filterMap_append]
  simp only [h0, if_false]
  rw [List.filterMap_cons, h]
  rfl
theorem pickK_length (es : List Ex) (ks : List Int) : (pickK es ks).length ≤ ks.length := List.length_filterMap_le _ _
theorem pickK_mem {es : List Ex} {ks : List Int} {e : Ex} (h : e ∈ pickK es ks) : e ∈ es := by
  unfold pickK at h
  obtain ⟨k, -, hk⟩ := List.mem_filterMap.1 h
  split at hk
  · cases hk
  · exact List.mem_of_getElem? hk
def leafE (es : List Ex) (x : Lf) : Ex := .mk x.op x.n x.name (pickK es (x.kids.take 5))
def addE (es : List Ex) (x : Lf) : List Ex := es ++ [leafE es x]
/-- The expressions of leaves. -/
def treesOf (ls : List Lf) : List Ex := ls.foldl addE []
theorem treesOf_snoc (ls : List Lf) (x : Lf) : treesOf (ls ++ [x]) = treesOf ls ++ [leafE (treesOf ls) x] := by
  unfold treesOf; rw [List.foldl_append]; rfl
theorem treesOf_length (ls : List Lf) : (treesOf ls).length = ls.length := by
  have : ∀ (r : List Lf) (es : List Ex), (r.foldl addE es).length = es.length + r.length := by
    intro r
    induction r with
    | nil => intro es; rfl
    | cons x r ih => intro es; rw [List.foldl_cons, ih]; simp [addE]; omega
  have h := this ls []
  simpa [treesOf] using h
theorem depthL_le {l : List Ex} {m : Nat} (h : ∀ e ∈ l, e.depth ≤ m) : depthL l ≤ m := by
  induction l with
  | nil => exact Nat.zero_le _
  | cons x r ih =>
    rw [depthL]
    have := h x List.mem_cons_self
    have := ih fun e he => h e (List.mem_cons_of_mem _ he)
    omega
theorem treesOf_depth (ls : List Lf) : ∀ e ∈ treesOf ls, e.depth ≤ ls.length := by
  have key : ∀ (r : List Lf) (es : List Ex) (m : Nat), (∀ e ∈ es, e.depth ≤ m) → ∀ e ∈ r.foldl addE es, e.depth ≤ m + r.length := by
    intro r
    induction r with
    | nil => intro es m h e he; exact h e he
    | cons x r ih =>
      intro es m h e he
      rw [List.foldl_cons] at he
      have := ih (addE es x) (m + 1) (fun e he => by
        rcases List.mem_append.1 he with he | he
        · have := h e he; omega
        · obtain rfl := List.mem_singleton.1 he
          have := depthL_le (fun e he => h e (pickK_mem he) : ∀ e ∈ pickK es (x.kids.take 5), e.depth ≤ m)
          unfold leafE
          rw [Ex.depth_mk]; omega) e he
      rw [List.length_cons]; omega
  intro e he
  have := key ls [] 0 (by simp) e he
  omega
/-- Ints, as cells. -/
def DI (l : List Int) : List Value := l.map fun z => .int .i64 z
theorem length_DI (l : List Int) : (DI l).length = l.length := by simp [DI]
theorem get_DI (l : List Int) (k : Nat) : (DI l)[k]? = l[k]?.map (Value.int .i64) := by simp [DI]
theorem DI_append (a b : List Int) : DI (a ++ b) = DI a ++ DI b := by simp [DI]
theorem flatC_append (a b : List Value) : flatC (a ++ b) = flatC a ++ flatC b := by
  induction a with
  | nil => rfl
  | cons v r ih => show v.cells.toList ++ flatC (r ++ b) = (v.cells.toList ++ flatC r) ++ flatC b; rw [ih, List.append_assoc]
/-- Leaves that lie in memory. -/
def LfAt (w : World) (B : Nat) (A : Option Addr) (xs : List Lf) : Prop := ∀ i x, xs[i]? = some x → ∃ ad A' c, A = some ad ∧ ad.block < B ∧ Reads w B 1 A' x.kids.length (DI x.kids) ∧ ∀ (j : Nat) (u : Value), ([.int .i64 x.op, .int .i64 x.n, .string (strOf x.name), .slice A' x.kids.length c] : List Value)[j]? = some u → w.cell? ((ad.add (i * 4)).add j) = some u
theorem LfAt.below {w w' : World} {B : Nat} {A : Option Addr} {xs : List Lf} (h : LfAt w B A xs) (hb : Below B w w') : LfAt w' B A xs := fun i x hx => by
  obtain ⟨ad, A', c, e1, e2, e3, e4⟩ := h i x hx
  exact ⟨ad, A', c, e1, e2, e3.below hb, fun j u hu => (hb.cell (by rw [block_of_add, block_of_add]; exact e2)).trans (e4 j u hu)⟩
/-- A slice that may lie nowhere: its blocks. -/
def blocksOf (v : Value) : List Nat := v.ownBlock.toList
theorem mem_blocksOf {v : Value} {b : Nat} : b ∈ blocksOf v ↔ v.ownBlock = some b := by
  unfold blocksOf; cases v.ownBlock <;> simp [eq_comm]
/-- A forest that has one tree more. -/
theorem Forest.more {w : World} {T : List Nat} {es args : List Ex} {vs avs : List Value} {B : Nat} {o n : Int} {nm : List Nat} {vA : Value} (h : Forest w T es vs) (hl : avs.length = args.length) (h60 : args.length ≤ 1000) (hop : I64 o) (hn : I64 n) (hnm : ∀ d ∈ nm, d < 256) (hnl : nm.length ≤ 9223372036854775807)
    (hr : ∀ (i : Nat) (e : Ex) (v : Value), args[i]? = some e → avs[i]? = some v → RepE w (· ∈ T) e v) (hA : Own w B 35 4 vA args.length (flatC avs)) :
    Forest w (blocksOf vA ++ T) (es ++ [.mk o n nm args]) (vs ++ [.agg #[.int .i64 o, .int .i64 n, .string (strOf nm), vA]]) := by
  obtain ⟨A, c, hv, hrd⟩ := hA.reads
  have hbl := hA.blockLt
  refine ⟨by rw [List.length_append, List.length_append, h.len]; rfl, fun b hm => ?_, fun i e v he hvi => ?_⟩
  · rcases List.mem_append.1 hm with hm | hm
    · exact (hbl b (mem_blocksOf.1 hm)).2
    · exact h.lt b hm
  · rcases Nat.lt_or_ge i es.length with hi | hi
    · rw [List.getElem?_append_left hi] at he
      rw [List.getElem?_append_left (by rw [h.len]; exact hi)] at hvi
      exact (h.rep i e v he hvi).mono (fun b hb => List.mem_append_right _ hb) (fun _ _ => rfl)
    · rw [List.getElem?_append_right hi] at he
      rw [List.getElem?_append_right (by rw [h.len]; exact hi), h.len] at hvi
      have h0 : i - es.length = 0 := by
        have := (List.getElem?_eq_some_iff.1 he).1
        simp at this
        exact this
      rw [h0] at he hvi
      injection he with he
      injection hvi with hvi
      subst he hvi
      subst hv
      refine .mk hl h60 hop hn hnm hnl (fun i e v he hv => (hr i e v he hv).mono (fun b hb => List.mem_append_right _ hb) (fun _ _ => rfl)) fun hne => ?_
      have hpos : 0 < args.length := by
        rcases Nat.eq_zero_or_pos args.length with h0 | h0
        · have : avs = [] := List.eq_nil_of_length_eq_zero (by omega)
          rw [this] at hne
          exact absurd rfl hne
        · exact h0
      obtain ⟨ad, rfl, -, hc⟩ := hrd.2 hpos
      exact ⟨ad, rfl, List.mem_append_left _ (mem_blocksOf.2 rfl), hc⟩
end Go.Proofs.Ytijaldpmpjapiaa
namespace Go.Proofs.Ytijaldpmpjapiaa
open Go.RowKit

theorem earlierC (k : Int) (i : Nat) (w : World) (h : i ≤ 1000) : Calls Try.prog 38 #[.int .i64 k, .int .i64 (i : Int)] w fun e w' => (∃ z, e = .returned (.int .i64 z) ∧ ((i = 0 ∧ z = -1) ∨ (0 < i ∧ z = (earl k i : Int)))) ∧ Grow w w' := by
  rcases Nat.eq_zero_or_pos i with rfl | h0
  · exact (earlier_zero k w).mono fun e w' h => ⟨⟨_, h.1, .inl ⟨rfl, rfl⟩⟩, h.2⟩
  · exact (earlier_any k i w h0 h).mono fun e w' h => ⟨⟨_, h.1, .inr ⟨h0, rfl⟩⟩, h.2⟩
theorem toldC (n d : Int) (l : List Ex) (op m : Int) (nm : List Nat) (w : World) (hn : n = 1 + sumN l) (hd : d = 1 + maxD l) : Calls Try.prog 39 #[.int .i64 n, .int .i64 d] w fun e w' => e = .returned (.tuple #[.int .i64 (zNodes (.mk op m nm l)), .int .i64 (zDepth (.mk op m nm l))]) ∧ Grow w w' := by
  have h := told_any n d w
  subst hn hd
  rw [told_mk op m nm l] at h
  exact h
theorem run_build_Tree (w : World) : (Instr.build 29 #[]).run Try.prog w = .ok (.agg #[.slice none 0 0, .slice none 0 0, .slice none 0 0, .slice none 0 0, .slice none 0 0, .slice none 0 0]) w := by kernel_rfl
theorem run_build_Ex (a b : Int) (s : List Nat) (w : World) : (Instr.build 35 #[(0, .int .i64 a), (1, .int .i64 b), (2, .string (strOf s))]).run Try.prog w = .ok (.agg #[.int .i64 a, .int .i64 b, .string (strOf s), .slice none 0 0]) w := by
  have hu := Try.underlying35
  go_simp
theorem zero_debentureref18_Tree : zeroIs Try.prog 29 = some (some (.agg #[.slice none 0 0, .slice none 0 0, .slice none 0 0, .slice none 0 0, .slice none 0 0, .slice none 0 0])) := by kernel_rfl
theorem zero_debentureref18_Leaf : zeroIs Try.prog 69 = some (some (.agg #[.int .i64 0, .int .i64 0, .string { data := #[] }, .slice none 0 0])) := by kernel_rfl
theorem Own.app {B B2 B' n n2 size size2 : Nat} {w w' : World} {e e2 : TypeId} {v v2 : Value} {xs xs2 : List Value} (h : Own w B e size v n xs) (o : Own w B2 e2 size2 v2 n2 xs2) (ha : App w w' B' v2) (hne : e2 ≠ e := by decide) : Own w' B e size v n xs := by
  refine ⟨h.row.kept ha.grown ?_⟩
  obtain ⟨h1, h2⟩ := h.row
  rcases h2 with ⟨rfl, -⟩ | ⟨g', cap, cur, rfl, e2, e3, e4⟩
  · exact .inl rfl
  · exact .inr fun e' => own_blk_ne o.row (show Blk w g' e cur from e3) hne e'.symm
theorem Blk.app {k n B B' size : Nat} {w w' : World} {t e : TypeId} {cs : Array Value} {v : Value} {xs : List Value} (h : Blk w k t cs) (o : Own w B e size v n xs) (ha : App w w' B' v) (hne : e ≠ t := by decide) : Blk w' k t cs := h.grown ha.grown (fun e' => own_blk_ne o.row h hne e'.symm)
theorem Forest.put {w w' : World} {T : List Nat} {es : List Ex} {vs : List Value} {g B : Nat} {t : TypeId} {cur cs : Array Value} (h : Forest w T es vs) (_k : Blk w g t cur) (p : Put w w' g t cs) (_e : B ≤ g) (hne : g ∉ T := by assumption) : Forest w' T es vs :=
  h.grown p.grown fun b e => by injection e with e; exact e ▸ hne
/-- A slice of the call's own, not among blocks. -/
def Apart (v : Value) (T : List Nat) : Prop := ∀ b, v.ownBlock = some b → b ∉ T
theorem Apart.more {v vA : Value} {T : List Nat} {N : Nat} (h : Apart v T) (hlt : ∀ b, v.ownBlock = some b → b < N) (hA : ∀ b, vA.ownBlock = some b → N ≤ b) : Apart v (blocksOf vA ++ T) := fun b hb hm => by
  rcases List.mem_append.1 hm with hm | hm
  · have := hlt b hb; have := hA b (mem_blocksOf.1 hm); omega
  · exact h b hb hm
theorem Apart.app {v v' : Value} {T : List Nat} {N : Nat} (h : Apart v T) (hlt : ∀ b ∈ T, b < N) (hv : v'.ownBlock = v.ownBlock ∨ v'.ownBlock = some N) : Apart v' T := fun b hb hm => by
  rcases hv with hv | hv
  · exact h b (hv ▸ hb) hm
  · rw [hv] at hb; injection hb with hb; subst hb; exact Nat.lt_irrefl _ (hlt _ hm)
theorem Forest.app {w w' : World} {T : List Nat} {es : List Ex} {vs : List Value} {B : Nat} {v : Value} (h : Forest w T es vs) (hv : Apart v T) (ha : App w w' B v) : Forest w' T es vs := h.grown ha.grown fun b e => hv b e
/-- Two slices, not in one block. -/
def Two (v u : Value) : Prop := ∀ b, v.ownBlock = some b → u.ownBlock ≠ some b
theorem Two.symm {v u : Value} (h : Two v u) : Two u v := fun b hb hv => h b hv hb
theorem Two.app {v u u' : Value} {N : Nat} (h : Two v u) (hlt : ∀ b, v.ownBlock = some b → b < N) (hu : u'.ownBlock = u.ownBlock ∨ u'.ownBlock = some N) : Two v u' := fun b hb hm => by
  rcases hu with hu | hu
  · exact h b hb (hu ▸ hm)
  · rw [hu] at hm; injection hm with hm; subst hm; exact Nat.lt_irrefl _ (hlt _ hb)
/-- What Build answers. -/
def BuiltR (B : Nat) (es : List Ex) (v : Value) (w : World) : Prop := ∃ T vs vE vN vD, v = .agg #[vE, vN, vD, .slice none 0 0, .slice none 0 0, .slice none 0 0] ∧ Forest w T es vs ∧ Own w B 35 4 vE es.length (flatC vs) ∧ Own w B 3 1 vN es.length (DI (es.map zNodes)) ∧ Own w B 3 1 vD es.length (DI (es.map zDepth))
theorem build_any (n c : Nat) (A : Option Addr) (xs : List Lf) (w : World) (hl : xs.length = n) (h60 : n ≤ 60) (hx : ∀ x ∈ xs, x.rng) (hA : LfAt w w.heap.size A xs) :
    Calls Try.prog 14 #[.slice A n c, .slice none 0 0] w fun e w' => (∃ v, e = .returned v ∧ BuiltR w.heap.size (treesOf xs) v w') ∧ Grow w w' := by
  have bel := Below.refl w.heap.size w
  refine Calls.start 249 Try.func14 rfl rfl rfl ?_
  refine Cd.seq ?_
  refine Cd.region ?_
  refine Seq.alloc rfl (run_zero zero_debentureref18_Tree) rfl rfl rfl ?_
  intro g4 w1 n4
  have e4 := Nat.le_trans bel.size n4.ge
  replace bel := bel.step n4.below
  have k4 := n4.blk
  refine Seq.nil ?_
  refine Post.weak (F' := [(0, _), (1, _), (4, _)]) ⟨rfl, rfl, rfl, trivial⟩ ?_
  refine Post.then_ ?_
  refine Cd.seq ?_
  refine Cd.region ?_
  refine Seq.val (Runs.build rfl rfl (run_build_Tree _)) rfl rfl rfl ?_
  refine Seq.alloc rfl (run_zero zero_debentureref18_Tree) rfl rfl rfl ?_
  intro g5 w2 n5
  have e5 := Nat.le_trans bel.size n5.ge
  have l5 := Nat.lt_of_lt_of_le k4.lt n5.ge
  replace bel := bel.step n5.below
  replace k4 := k4.step n5.below
  have k5 := n5.blk
  refine Seq.storeN rfl rfl rfl rfl (m := 6) (by kernel_rfl) rfl (by repeat' first | exact trivial | apply And.intro | rfl | assumption) k5 (by simp [Value.cells]) rfl rfl ?_
  intro w3 pw3
  replace bel := bel.put k5 pw3 e5
  replace k4 := k4.put pw3 (by omega)
  replace k5 := pw3.blk
  refine Seq.nil ?_
  refine Post.weak (F' := [(0, _), (1, _), (4, _), (5, _)]) ⟨rfl, rfl, rfl, rfl, trivial⟩ ?_
  refine Post.then_ ?_
  refine Cd.seq ?_
  refine Cd.seq ?_
  refine Cd.region ?_
  refine Seq.val (Runs.assign rfl rfl) rfl rfl rfl ?_
  refine Seq.nil ?_
  refine Post.weak (F' := [(0, _), (1, _), (4, _), (5, _), (6, _)]) ⟨rfl, rfl, rfl, rfl, rfl, trivial⟩ ?_
  refine Post.then_ ?_
  refine Cd.block ?_
  refine Cd.loop (σ := Nat × List Nat × List Value × Value × Value × Value) (fun s => [(0, .slice A n c), (1, .slice none 0 0), (4, .pointer (some ⟨g4, 0, none⟩)), (5, .pointer (some ⟨g5, 0, none⟩)), (6, .int .i64 (s.1 : Int))])
    (fun s wr => s.1 ≤ n ∧ Below w.heap.size w wr ∧ Blk wr g4 29 #[.slice none 0 0, .slice none 0 0, .slice none 0 0, .slice none 0 0, .slice none 0 0, .slice none 0 0] ∧ Blk wr g5 29 #[s.2.2.2.1, s.2.2.2.2.1, s.2.2.2.2.2, .slice none 0 0, .slice none 0 0, .slice none 0 0] ∧
      Forest wr s.2.1 (treesOf (xs.take s.1)) s.2.2.1 ∧ (∀ b ∈ s.2.1, g5 < b) ∧ Own wr w.heap.size 35 4 s.2.2.2.1 (treesOf (xs.take s.1)).length (flatC s.2.2.1) ∧ Own wr w.heap.size 3 1 s.2.2.2.2.1 (treesOf (xs.take s.1)).length (DI ((treesOf (xs.take s.1)).map zNodes)) ∧ Own wr w.heap.size 3 1 s.2.2.2.2.2 (treesOf (xs.take s.1)).length (DI ((treesOf (xs.take s.1)).map zDepth)) ∧
      Apart s.2.2.2.1 s.2.1 ∧ Apart s.2.2.2.2.1 s.2.1 ∧ Apart s.2.2.2.2.2 s.2.1 ∧ Two s.2.2.2.2.1 s.2.2.2.2.2)
    (fun s => n - s.1) (0, [], [], .slice none 0 0, .slice none 0 0, .slice none 0 0)
    ⟨Nat.zero_le _, bel, k4, k5, Forest.nil _, fun b h => (by cases h), Own.nil _ _ _ _, Own.nil _ _ _ _, Own.nil _ _ _ _, fun b h => (by cases h), fun b h => (by cases h), fun b h => (by cases h), fun b h => (by cases h)⟩ ⟨rfl, rfl, rfl, rfl, rfl, trivial⟩ ?_
  clear bel k4 k5
  rintro ⟨i, T, vs, vE, vN, vD⟩ wr ⟨hi, bel, k4, k5, fo, hfar, oE, oN, oD, aE, aN, aD, aND⟩
  dsimp only at hi k5 fo hfar oE oN oD aE aN aD aND ⊢
  have hTl : (treesOf (xs.take i)).length = i := by rw [treesOf_length, List.length_take]; omega
  refine Cd.seq ?_
  refine Cd.seq ?_
  refine Cd.region ?_
  refine Seq.val (Runs.move rfl rfl) rfl rfl rfl ?_
  refine Seq.val (Runs.move rfl rfl) rfl rfl rfl ?_
  refine Seq.val (Runs.len rfl rfl Try.underlying22) rfl rfl rfl ?_
  refine Seq.val (Runs.lss rfl rfl rfl) rfl rfl rfl ?_
  refine Seq.val (Runs.move rfl rfl) rfl rfl rfl ?_
  refine SeqC.start ?_
  refine SeqC.open rfl rfl rfl rfl rfl rfl rfl (fun hcx => Runs.move rfl rfl) ?_
  refine SeqC.next rfl rfl rfl rfl rfl rfl rfl (fun hcx => Runs.lss rfl rfl rfl) ?_
  refine SeqC.and rfl rfl rfl rfl rfl rfl rfl ?_
  refine Seq.nil ?_
  refine Post.weak (F' := [(0, _), (1, _), (4, _), (5, _), (6, _), (30, _)]) ⟨rfl, rfl, rfl, rfl, rfl, rfl, trivial⟩ ?_
  refine Post.then_ ?_
  refine Cd.cond rfl (fun hc => ?_) (fun hc => ?_)
  · simp only [Bool.and_eq_true, decide_eq_true_eq] at hc
    obtain ⟨x, hxi⟩ : ∃ x, xs[i]? = some x := ⟨_, List.getElem?_eq_getElem (show i < xs.length by omega)⟩
    have hrng := hx x (List.mem_of_getElem? hxi)
    have htake : treesOf (xs.take (i + 1)) = treesOf (xs.take i) ++ [leafE (treesOf (xs.take i)) x] := by rw [List.take_add_one, hxi]; exact treesOf_snoc _ _
    obtain ⟨ad, A', c', rfl, hadb, hrd, hcell⟩ := (hA.below bel) i x hxi
    generalize treesOf (xs.take i) = es at *
    have bel0 := bel
    replace bel := Below.refl wr.heap.size wr
    have hg5 := k5.lt
    have oE0 := oE
    have oN0 := oN
    have oD0 := oD
    refine Cd.skip ?_
    refine Post.then_ ?_
    refine Cd.seq ?_
    refine Cd.block ?_
    refine Cd.seq ?_
    refine Cd.region ?_
    refine Seq.val (Runs.move rfl rfl) rfl rfl rfl ?_
    refine Seq.val (Runs.move rfl rfl) rfl rfl rfl ?_
    refine Seq.val (Runs.indexN rfl rfl rfl Try.underlying22 (s := 4) (by kernel_rfl) (j := i) rfl (by omega)) rfl rfl rfl ?_
    refine Seq.val (Runs.loadF (ps := [.int .i64 x.op, .int .i64 x.n, .string (strOf x.name), .slice A' x.kids.length c']) rfl rfl Try.underlying69 rfl (m := 4) (by kernel_rfl) rfl hcell) rfl rfl rfl ?_
    refine Seq.alloc rfl (run_zero zero_debentureref18_Leaf) rfl rfl rfl ?_
    intro g7 w4 n7
    have e7 := Nat.le_trans bel.size n7.ge
    have l7 := Nat.lt_of_lt_of_le k5.lt n7.ge
    replace bel := bel.step n7.below
    replace k5 := k5.step n7.below
    have k7 := n7.blk
    refine Seq.storeN rfl rfl rfl rfl (m := 4) (by kernel_rfl) rfl (by repeat' first | exact trivial | apply And.intro | rfl | assumption) k7 (by simp [Value.cells]) rfl rfl ?_
    intro w5 pw5
    replace bel := bel.put k7 pw5 e7
    replace k5 := k5.put pw5 (by omega)
    replace k7 := pw5.blk
    refine Seq.nil ?_
    refine Post.weak (F' := [(0, _), (1, _), (4, _), (5, _), (6, _), (7, _), (30, _)]) ⟨rfl, rfl, rfl, rfl, rfl, rfl, rfl, trivial⟩ ?_
    refine Post.then_ ?_
    refine Cd.seq ?_
    refine Cd.region ?_
    refine Seq.val (Runs.fieldB 0 rfl rfl Try.underlying69 rfl (by kernel_rfl)) rfl rfl rfl ?_
    refine Seq.val (Runs.loadB rfl rfl Try.underlying3 rfl k7 rfl) rfl rfl rfl ?_
    refine Seq.val (Runs.fieldB 1 rfl rfl Try.underlying69 rfl (by kernel_rfl)) rfl rfl rfl ?_
    refine Seq.val (Runs.loadB rfl rfl Try.underlying2 rfl k7 rfl) rfl rfl rfl ?_
    refine Seq.val (Runs.fieldB 2 rfl rfl Try.underlying69 rfl (by kernel_rfl)) rfl rfl rfl ?_
    refine Seq.val (Runs.loadB rfl rfl Try.underlying9 rfl k7 rfl) rfl rfl rfl ?_
    refine Seq.val (Runs.build rfl rfl (run_build_Ex _ _ _ _)) rfl rfl rfl ?_
    refine Seq.alloc rfl (run_zero zero_api_Expr) rfl rfl rfl ?_
    intro g8 w6 n8
    have e8 := Nat.le_trans bel.size n8.ge
    have l8 := Nat.lt_of_lt_of_le k7.lt n8.ge
    have l8_k5 := Nat.lt_of_lt_of_le k5.lt n8.ge
    replace bel := bel.step n8.below
    replace k5 := k5.step n8.below
    replace k7 := k7.step n8.below
    have k8 := n8.blk
    refine Seq.storeN rfl rfl rfl rfl (m := 4) (by kernel_rfl) rfl (by repeat' first | exact trivial | apply And.intro | rfl | assumption) k8 (by simp [Value.cells]) rfl rfl ?_
    intro w7 pw7
    replace bel := bel.put k8 pw7 e8
    replace k5 := k5.put pw7 (by omega)
    replace k7 := k7.put pw7 (by omega)
    replace k8 := pw7.blk
    refine Seq.nil ?_
    refine Post.weak (F' := [(0, _), (1, _), (4, _), (5, _), (6, _), (7, _), (8, _), (30, _)]) ⟨rfl, rfl, rfl, rfl, rfl, rfl, rfl, rfl, trivial⟩ ?_
    refine Post.then_ ?_
    refine Cd.seq ?_
    refine Cd.region ?_
    refine Seq.val (Runs.assign rfl rfl) rfl rfl rfl ?_
    refine Seq.val (Runs.assign rfl rfl) rfl rfl rfl ?_
    refine Seq.nil ?_
    refine Post.weak (F' := [(0, _), (1, _), (4, _), (5, _), (6, _), (7, _), (8, _), (9, _), (10, _), (30, _)]) ⟨rfl, rfl, rfl, rfl, rfl, rfl, rfl, rfl, rfl, rfl, trivial⟩ ?_
    refine Post.then_ ?_
    refine Cd.seq ?_
    refine Cd.seq ?_
    refine Cd.region ?_
    refine Seq.val (Runs.assign rfl rfl) rfl rfl rfl ?_
    refine Seq.nil ?_
    refine Post.weak (F' := [(0, _), (1, _), (4, _), (5, _), (6, _), (7, _), (8, _), (9, _), (10, _), (11, _), (30, _)]) ⟨rfl, rfl, rfl, rfl, rfl, rfl, rfl, rfl, rfl, rfl, rfl, trivial⟩ ?_
    refine Post.then_ ?_
    refine Cd.block ?_
    refine Cd.loop (σ := Nat × List Value × Value × Int × Int) (fun s => [(0, .slice (some ad) n c), (1, .slice none 0 0), (4, .pointer (some ⟨g4, 0, none⟩)), (5, .pointer (some ⟨g5, 0, none⟩)), (6, .int .i64 (i : Int)), (7, .pointer (some ⟨g7, 0, none⟩)), (8, .pointer (some ⟨g8, 0, none⟩)), (9, .int .i64 s.2.2.2.1), (10, .int .i64 s.2.2.2.2), (11, .int .i64 (s.1 : Int))])
      (fun s w2 => s.1 ≤ x.kids.length ∧ s.1 ≤ 5 ∧ Below wr.heap.size wr w2 ∧ Blk w2 g5 29 #[vE, vN, vD, .slice none 0 0, .slice none 0 0, .slice none 0 0] ∧ Blk w2 g7 69 #[.int .i64 x.op, .int .i64 x.n, .string (strOf x.name), .slice A' x.kids.length c'] ∧ Blk w2 g8 35 #[.int .i64 x.op, .int .i64 x.n, .string (strOf x.name), s.2.2.1] ∧
        OwnA w2 (g8 + 1) 35 4 s.2.2.1 (pickK es (x.kids.take s.1)).length (flatC s.2.1) ∧ s.2.1.length = (pickK es (x.kids.take s.1)).length ∧ (∀ j e v, (pickK es (x.kids.take s.1))[j]? = some e → s.2.1[j]? = some v → RepE wr (· ∈ T) e v) ∧ s.2.2.2.1 = 1 + sumN (pickK es (x.kids.take s.1)) ∧ s.2.2.2.2 = 1 + maxD (pickK es (x.kids.take s.1)))
      (fun s => 5 - s.1) (0, [], .slice none 0 0, 1, 1)
      ⟨Nat.zero_le _, Nat.zero_le _, bel, k5, k7, k8, ⟨Own.nil _ _ _ _⟩, rfl, (fun j e v h => absurd ((List.getElem?_nil (α := Ex) (i := j)).symm.trans h) (fun h => by cases h)), rfl, rfl⟩ ⟨rfl, rfl, rfl, rfl, rfl, rfl, rfl, rfl, rfl, rfl, trivial⟩ ?_
    clear bel k5 k7 k8
    rintro ⟨k, avs, vA, nn, dd⟩ w2 ⟨hk, hk5, bel, k5, k7, k8, own, havl, hrep, hnn, hdd⟩
    dsimp only at hk hk5 k8 own havl hrep hnn hdd ⊢
    have hlA := own.own.blockLt
    have hpl := pickK_length es (x.kids.take k)
    have hpl2 : (x.kids.take k).length ≤ k := by rw [List.length_take]; omega
    have hsb := sumN_bounds (pickK es (x.kids.take k))
    have hmb := maxD_nonneg (pickK es (x.kids.take k))
    refine Cd.seq ?_
    refine Cd.seq ?_
    refine Cd.region ?_
    refine Seq.val (Runs.move rfl rfl) rfl rfl rfl ?_
    refine Seq.val (Runs.fieldB 3 rfl rfl Try.underlying69 rfl (by kernel_rfl)) rfl rfl rfl ?_
    refine Seq.val (Runs.loadB rfl rfl Try.underlying26 rfl k7 rfl) rfl rfl rfl ?_
    refine Seq.val (Runs.len rfl rfl Try.underlying26) rfl rfl rfl ?_
    refine Seq.val (Runs.lss rfl rfl rfl) rfl rfl rfl ?_
    refine Seq.val (Runs.move rfl rfl) rfl rfl rfl ?_
    refine SeqC.start ?_
    refine SeqC.open rfl rfl rfl rfl rfl rfl rfl (fun hcx => Runs.move rfl rfl) ?_
    refine SeqC.next rfl rfl rfl rfl rfl rfl rfl (fun hcx => Runs.lss rfl rfl rfl) ?_
    refine SeqC.and rfl rfl rfl rfl rfl rfl rfl ?_
    refine Seq.nil ?_
    refine Post.weak (F' := [(0, _), (1, _), (4, _), (5, _), (6, _), (7, _), (8, _), (9, _), (10, _), (11, _), (52, _)]) ⟨rfl, rfl, rfl, rfl, rfl, rfl, rfl, rfl, rfl, rfl, rfl, trivial⟩ ?_
    refine Post.then_ ?_
    refine Cd.cond rfl (fun hc => ?_) (fun hc => ?_)
    · simp only [Bool.and_eq_true, decide_eq_true_eq] at hc
      obtain ⟨z, hz⟩ : ∃ z, x.kids[k]? = some z := ⟨_, List.getElem?_eq_getElem (by omega)⟩
      obtain ⟨ad', rfl, hbl', hc'⟩ := hrd.2 (by omega)
      have hc' := fun W (hb : Below wr.heap.size wr W) => (hb.cell (p := ad'.add k) (by rw [block_of_add]; have := bel0.size; omega)).trans (hc' k (.int .i64 z) (by rw [get_DI, hz]; rfl))
      have hks : x.kids.take (k + 1) = x.kids.take k ++ [z] := by rw [List.take_add_one, hz]; rfl
      refine Cd.skip ?_
      refine Post.then_ ?_
      refine Cd.seq ?_
      refine Cd.block ?_
      refine Cd.seq ?_
      refine Cd.region ?_
      refine Seq.val (Runs.fieldB 3 rfl rfl Try.underlying69 rfl (by kernel_rfl)) rfl rfl rfl ?_
      refine Seq.val (Runs.loadB rfl rfl Try.underlying26 rfl k7 rfl) rfl rfl rfl ?_
      refine Seq.val (Runs.move rfl rfl) rfl rfl rfl ?_
      refine Seq.val (Runs.index1 rfl rfl rfl Try.underlying26 (by kernel_rfl) (j := k) rfl (by omega)) rfl rfl rfl ?_
      refine Seq.val (Runs.load1 rfl rfl Try.underlying3 rfl (hc' _ bel)) rfl rfl rfl ?_
      refine Seq.val (Runs.move rfl rfl) rfl rfl rfl ?_
      refine Seq.call (Enters.func rfl rfl rfl (run_enter Try.func38 (by kernel_rfl) rfl)) rfl rfl rfl (earlierC z i _ (by omega)) ?_
      rintro e w5 ⟨⟨z', rfl, hz'⟩, hb5⟩
      refine ⟨_, rfl, ?_⟩
      replace bel := bel.step hb5
      replace k5 := k5.step hb5
      replace k7 := k7.step hb5
      replace k8 := k8.step hb5
      replace own := own.step hb5
      refine Seq.val (Runs.assign rfl rfl) rfl rfl rfl ?_
      refine Seq.nil ?_
      refine Post.weak (F' := [(0, _), (1, _), (4, _), (5, _), (6, _), (7, _), (8, _), (9, _), (10, _), (11, _), (12, _), (52, _)]) ⟨rfl, rfl, rfl, rfl, rfl, rfl, rfl, rfl, rfl, rfl, rfl, rfl, trivial⟩ ?_
      refine Post.then_ ?_
      refine Cd.seq ?_
      refine Cd.region ?_
      refine Seq.val (Runs.move rfl rfl) rfl rfl rfl ?_
      refine Seq.val (Runs.geq rfl rfl rfl) rfl rfl rfl ?_
      refine Seq.nil ?_
      refine Post.weak (F' := [(0, _), (1, _), (4, _), (5, _), (6, _), (7, _), (8, _), (9, _), (10, _), (11, _), (12, _), (52, _), (63, _)]) ⟨rfl, rfl, rfl, rfl, rfl, rfl, rfl, rfl, rfl, rfl, rfl, rfl, rfl, trivial⟩ ?_
      refine Post.then_ ?_
      refine Cd.condD rfl (fun h => ?_) (fun h => ?_)
      · obtain ⟨h0i, rfl⟩ : 0 < i ∧ z' = (earl z i : Int) := by rcases hz' with ⟨h1, h2⟩ | h2; exact absurd h (by omega); exact h2
        clear hz'
        have hj := earl_lt z h0i
        generalize hjj : earl z i = j at *
        obtain ⟨e, he⟩ : ∃ e, es[j]? = some e := ⟨_, List.getElem?_eq_getElem (by omega)⟩
        obtain ⟨ev, hev⟩ : ∃ ev, vs[j]? = some ev := ⟨_, List.getElem?_eq_getElem (by rw [fo.len]; omega)⟩
        have hre := fo.rep j e ev he hev
        obtain ⟨AA, cc, rfl⟩ := hre.form
        have h4 : ∀ y ∈ vs, y.cells.size = 4 := sizes_spec fo.cells
        obtain ⟨aE0, cE, rfl, hrE⟩ := oE.reads
        obtain ⟨adE, rfl, hbE, hcE⟩ := hrE.2 (by omega)
        have hcE : ∀ W, Below wr.heap.size wr W → ∀ (q : Nat) (u : Value), ([.int .i64 e.op, .int .i64 e.n, .string (strOf e.name), .slice AA e.args.length cc] : List Value)[q]? = some u → W.cell? ((adE.add (j * 4)).add q) = some u := fun W hb q u hq => (hb.cell (p := (adE.add (j * 4)).add q) (by rw [block_of_add, block_of_add]; exact hbE)).trans (by rw [add_of_add]; exact hcE _ _ (flatC_at h4 hev q u (by simpa [Value.cells] using hq)))
        obtain ⟨aN0, cN, rfl, hrN⟩ := oN.reads
        obtain ⟨adN, rfl, hbN, hcN⟩ := hrN.2 (by omega)
        have hcN := fun W (hb : Below wr.heap.size wr W) => (hb.cell (p := adN.add j) (by rw [block_of_add]; exact hbN)).trans (hcN j (.int .i64 (zNodes e)) (by rw [get_DI, List.getElem?_map, he]; rfl))
        obtain ⟨aD0, cD, rfl, hrD⟩ := oD.reads
        obtain ⟨adD, rfl, hbD, hcD⟩ := hrD.2 (by omega)
        have hcD := fun W (hb : Below wr.heap.size wr W) => (hb.cell (p := adD.add j) (by rw [block_of_add]; exact hbD)).trans (hcD j (.int .i64 (zDepth e)) (by rw [get_DI, List.getElem?_map, he]; rfl))
        have hpk : pickK es (x.kids.take (k + 1)) = pickK es (x.kids.take k) ++ [e] := by rw [hks]; exact pickK_some _ _ _ _ (by rw [hTl, hjj]; exact he)
        have hzb := z_bounds e
        refine Cd.seq ?_
        refine Cd.draw 8 (by kernel_rfl) [] (.inl rfl) rfl Grow Grow.refl (fun _ _ _ => Grow.trans) ?_
        intro w8 hw8 zw8
        replace bel := bel.step hw8
        replace k5 := k5.step hw8
        replace k7 := k7.step hw8
        replace k8 := k8.step hw8
        replace own := own.step hw8
        have zbel := bel.size
        have zlt := k8.lt
        refine Dr.val Grow.refl rfl (fun w hG => Runs.fieldB 3 rfl rfl Try.underlying35 rfl (by kernel_rfl)) rfl ?_
        refine Dr.val Grow.refl rfl (fun w hG => Runs.loadB rfl rfl Try.underlying25 rfl (k8.step hG) rfl) rfl ?_
        refine Dr.val Grow.refl rfl (fun w hG => Runs.fieldB 0 rfl rfl Try.underlying29 rfl (by kernel_rfl)) rfl ?_
        refine Dr.val Grow.refl rfl (fun w hG => Runs.loadB rfl rfl Try.underlying25 rfl (k5.step hG) rfl) rfl ?_
        refine Dr.val Grow.refl rfl (fun w hG => Runs.move rfl rfl) rfl ?_
        refine Dr.val Grow.refl rfl (fun w hG => Runs.indexN rfl rfl rfl Try.underlying25 (s := 4) (by kernel_rfl) (j := j) rfl (by omega)) rfl ?_
        refine Dr.val Grow.refl rfl (fun w hG => Runs.loadF (ps := [.int .i64 e.op, .int .i64 e.n, .string (strOf e.name), .slice AA e.args.length cc]) rfl rfl Try.underlying35 rfl (m := 4) (by kernel_rfl) rfl (hcE w (Below.step bel hG))) rfl ?_
        refine Dr.slice (vs := [_]) (s := 4) rfl rfl rfl rfl Try.underlying25 (by kernel_rfl) zero_api_Expr (by omega) (by omega) ⟨rfl, trivial⟩ rfl ?_
        refine Dr.nil ?_
        refine FinX.open (j := 7) rfl ?_
        intro u7
        refine FinX.done (F' := [(0, _), (1, _), (4, _), (5, _), (6, _), (7, _), (8, _), (9, _), (10, _), (11, _), (12, _), (52, _), (63, _), (65, _), (71, _)]) rfl ⟨rfl, rfl, rfl, rfl, rfl, rfl, rfl, rfl, rfl, rfl, rfl, rfl, rfl, rfl, rfl, trivial⟩ ?_
        intro w9 hw9 fw9
        replace bel := bel.step hw9
        replace k5 := k5.step hw9
        replace k7 := k7.step hw9
        replace k8 := k8.step hw9
        replace own := own.step hw9
        obtain ⟨gS, rfl, kS, -⟩ := fw9.2
        have hne8 : vA.ownBlock ≠ some g8 := fun e' => by have := (own.own.blockLt _ e').1; omega
        refine Seq.append rfl rfl rfl Try.underlying25 (by kernel_rfl) zero_api_Expr rfl (by decide) (b := 56) (by kernel_rfl) own.own (Reads.blk (size := 4) kS 1 rfl) (by intro x hx; simp [flatC, Value.cells] at hx; rcases hx with rfl | rfl | rfl | rfl <;> rfl) (Nat.succ_le_of_lt k8.lt) (by simp only [maxLen]; omega) (by omega) rfl rfl rfl ?_
        intro vA' wa oA ha
        replace k7 := k7.app own.own ha
        replace k5 := k5.app own.own ha
        replace k8 := k8.grown ha.grown (fun e' => hne8 e'.symm)
        replace bel := bel.trans (ha.below.mono (by omega))
        clear own
        obtain ⟨A2, c2, rfl, -⟩ := oA.reads
        have own := OwnA.mk oA
        have hne9 : (Value.slice A2 ((pickK es (x.kids.take k)).length + 1) c2).ownBlock ≠ some g8 := fun e' => by have := (own.own.blockLt _ e').1; omega
        refine Seq.val (Runs.fieldB 3 rfl rfl Try.underlying35 rfl (by kernel_rfl)) rfl rfl rfl ?_
        refine Seq.store1 rfl rfl rfl (by kernel_rfl) rfl rfl k8 rfl rfl rfl ?_
        intro w10 pw10
        replace bel := bel.put k8 pw10 e8
        replace k5 := k5.put pw10 (by omega)
        replace k7 := k7.put pw10 (by omega)
        replace own := own.put k8 pw10 e8
        replace k8 := pw10.blk
        refine Seq.nil ?_
        refine Post.weak (F' := [(0, _), (1, _), (4, _), (5, _), (6, _), (7, _), (8, _), (9, _), (10, _), (11, _), (12, _), (52, _), (63, _)]) ⟨rfl, rfl, rfl, rfl, rfl, rfl, rfl, rfl, rfl, rfl, rfl, rfl, rfl, trivial⟩ ?_
        refine Post.then_ ?_
        refine Cd.seq ?_
        refine Cd.region ?_
        refine Seq.val (Runs.move rfl rfl) rfl rfl rfl ?_
        refine Seq.val (Runs.fieldB 1 rfl rfl Try.underlying29 rfl (by kernel_rfl)) rfl rfl rfl ?_
        refine Seq.val (Runs.loadB rfl rfl Try.underlying26 rfl k5 rfl) rfl rfl rfl ?_
        refine Seq.val (Runs.move rfl rfl) rfl rfl rfl ?_
        refine Seq.val (Runs.index1 rfl rfl rfl Try.underlying26 (by kernel_rfl) (j := j) rfl (by omega)) rfl rfl rfl ?_
        refine Seq.val (Runs.load1 rfl rfl Try.underlying3 rfl (hcN _ bel)) rfl rfl rfl ?_
        refine Seq.val (Runs.addI rfl rfl rfl (by omega) (by omega)) rfl rfl rfl ?_
        refine Seq.val (Runs.assign rfl rfl) rfl rfl rfl ?_
        refine Seq.nil ?_
        refine Post.weak (F' := [(0, _), (1, _), (4, _), (5, _), (6, _), (7, _), (8, _), (9, _), (10, _), (11, _), (12, _), (52, _), (63, _)]) ⟨rfl, rfl, rfl, rfl, rfl, rfl, rfl, rfl, rfl, rfl, rfl, rfl, rfl, trivial⟩ ?_
        refine Post.then_ ?_
        refine Cd.region ?_
        refine Seq.val (Runs.move rfl rfl) rfl rfl rfl ?_
        refine Seq.val (Runs.fieldB 2 rfl rfl Try.underlying29 rfl (by kernel_rfl)) rfl rfl rfl ?_
        refine Seq.val (Runs.loadB rfl rfl Try.underlying26 rfl k5 rfl) rfl rfl rfl ?_
        refine Seq.val (Runs.move rfl rfl) rfl rfl rfl ?_
        refine Seq.val (Runs.index1 rfl rfl rfl Try.underlying26 (by kernel_rfl) (j := j) rfl (by omega)) rfl rfl rfl ?_
        refine Seq.val (Runs.load1 rfl rfl Try.underlying3 rfl (hcD _ bel)) rfl rfl rfl ?_
        refine Seq.val (Runs.addI rfl rfl rfl (by omega) (by omega)) rfl rfl rfl ?_
        refine Seq.val (Runs.max2 rfl rfl rfl) rfl rfl rfl ?_
        refine Seq.val (Runs.assign rfl rfl) rfl rfl rfl ?_
        refine Seq.nil ?_
        refine Post.weak (F' := [(0, _), (1, _), (4, _), (5, _), (6, _), (7, _), (8, _), (9, _), (10, _), (11, _), (12, _), (52, _), (63, _)]) ⟨rfl, rfl, rfl, rfl, rfl, rfl, rfl, rfl, rfl, rfl, rfl, rfl, rfl, trivial⟩ ?_
        refine Post.block_normal ?_
        refine Post.then_ ?_
        refine Cd.region ?_
        refine Seq.val (Runs.move rfl rfl) rfl rfl rfl ?_
        refine Seq.val (Runs.addI rfl rfl rfl (by omega) (by omega)) rfl rfl rfl ?_
        refine Seq.val (Runs.assign rfl rfl) rfl rfl rfl ?_
        refine Seq.nil ?_
        refine Post.weak (F' := [(0, _), (1, _), (4, _), (5, _), (6, _), (7, _), (8, _), (9, _), (10, _), (11, _), (12, _), (52, _), (63, _)]) ⟨rfl, rfl, rfl, rfl, rfl, rfl, rfl, rfl, rfl, rfl, rfl, rfl, rfl, trivial⟩ ?_
        have hlen2 : (pickK es (x.kids.take (k + 1))).length = (pickK es (x.kids.take k)).length + 1 := by rw [hpk]; simp
        refine Post.round (k + 1, avs ++ [.agg #[.int .i64 e.op, .int .i64 e.n, .string (strOf e.name), .slice AA e.args.length cc]], .slice A2 ((pickK es (x.kids.take k)).length + 1) c2, nn + zNodes e, max dd (zDepth e + 1)) ⟨rfl, rfl, rfl, rfl, rfl, rfl, rfl, rfl, rfl, rfl, trivial⟩ ⟨by dsimp only; omega, by dsimp only; omega, bel, k5, k7, k8, ?_, ?_, ?_, ?_, ?_⟩ (by dsimp only; omega)
        · dsimp only
          rw [hlen2, flatC_append]
          exact own
        · dsimp only
          rw [hlen2, List.length_append, havl]; rfl
        · dsimp only
          rw [hpk]
          intro q y v hq hv
          rcases Nat.lt_or_ge q avs.length with hqi | hqi
          · rw [List.getElem?_append_left hqi] at hv
            rw [List.getElem?_append_left (by omega)] at hq
            exact hrep q y v hq hv
          · rw [List.getElem?_append_right hqi] at hv
            rw [List.getElem?_append_right (by omega), ← havl] at hq
            have h0 : q - avs.length = 0 := by
              have := (List.getElem?_eq_some_iff.1 hv).1
              simp at this
              exact this
            rw [h0] at hq hv
            injection hq with hq
            injection hv with hv
            subst hq hv
            exact hre
        · dsimp only
          rw [hpk, sumN_snoc, hnn]; omega
        · dsimp only
          rw [hpk, maxD_snoc, hdd]; omega
      · obtain ⟨h0i, rfl⟩ : i = 0 ∧ z' = -1 := by rcases hz' with ⟨h1, h2⟩ | ⟨h1, h2⟩; exact ⟨h1, h2⟩; exact absurd (by omega) h
        have hpk : pickK es (x.kids.take (k + 1)) = pickK es (x.kids.take k) := by rw [hks]; exact pickK_none _ _ _ (by omega)
        refine Cd.skip ?_
        refine Post.block_normal ?_
        refine Post.then_ ?_
        refine Cd.region ?_
        refine Seq.val (Runs.move rfl rfl) rfl rfl rfl ?_
        refine Seq.val (Runs.addI rfl rfl rfl (by omega) (by omega)) rfl rfl rfl ?_
        refine Seq.val (Runs.assign rfl rfl) rfl rfl rfl ?_
        refine Seq.nil ?_
        refine Post.weak (F' := [(0, _), (1, _), (4, _), (5, _), (6, _), (7, _), (8, _), (9, _), (10, _), (11, _), (12, _), (52, _), (63, _)]) ⟨rfl, rfl, rfl, rfl, rfl, rfl, rfl, rfl, rfl, rfl, rfl, rfl, rfl, trivial⟩ ?_
        exact Post.round (k + 1, avs, vA, nn, dd) ⟨rfl, rfl, rfl, rfl, rfl, rfl, rfl, rfl, rfl, rfl, trivial⟩ ⟨by dsimp only; omega, by dsimp only; omega, bel, k5, k7, k8, by dsimp only; rw [hpk]; exact own, by dsimp only; rw [hpk]; exact havl, by dsimp only; rw [hpk]; exact hrep, by dsimp only; rw [hpk]; exact hnn, by dsimp only; rw [hpk]; exact hdd⟩ (by dsimp only; omega)
    · have hfull : x.kids.take k = x.kids.take 5 := by
        have hc' : ¬ ((k : Int) < x.kids.length ∧ (k : Int) < 5) := fun h => by rw [decide_eq_true h.1, decide_eq_true h.2] at hc; cases hc
        rcases Nat.lt_or_ge k 5 with h5 | h5
        · rw [List.take_of_length_le (by omega), List.take_of_length_le (by omega)]
        · rw [show k = 5 by omega]
      have hpl5 := pickK_length es (x.kids.take 5)
      have hpl6 : (x.kids.take 5).length ≤ 5 := by rw [List.length_take]; omega
      rw [hfull] at own havl hrep hnn hdd
      refine Cd.exit ?_
      refine Post.then_exit ?_
      refine Post.round_exit ?_
      refine Post.block_exit ?_
      refine Post.then_ ?_
      refine Cd.seq ?_
      refine Cd.region ?_
      refine Seq.val (Runs.move rfl rfl) rfl rfl rfl ?_
      refine Seq.val (Runs.move rfl rfl) rfl rfl rfl ?_
      refine Seq.call (Enters.func rfl rfl rfl (run_enter Try.func39 (by kernel_rfl) rfl)) rfl rfl rfl (toldC nn dd (pickK es (x.kids.take 5)) x.op x.n x.name _ hnn hdd) ?_
      rintro e w6 ⟨rfl, hb6⟩
      refine ⟨_, rfl, ?_⟩
      replace bel := bel.step hb6
      replace k5 := k5.step hb6
      replace k7 := k7.step hb6
      replace k8 := k8.step hb6
      replace own := own.step hb6
      have hlA := own.own.blockLt
      have oE := oE.step bel
      have oN := oN.step bel
      have oD := oD.step bel
      have ltE : ∀ b, vE.ownBlock = some b → b < g8 + 1 := fun b hb => by have := (oE0.blockLt b hb).2; omega
      have ltN : ∀ b, vN.ownBlock = some b → b < g8 + 1 := fun b hb => by have := (oN0.blockLt b hb).2; omega
      have ltD : ∀ b, vD.ownBlock = some b → b < g8 + 1 := fun b hb => by have := (oD0.blockLt b hb).2; omega
      have aE := aE.more ltE (fun b hb => (hlA b hb).1)
      have aN := aN.more ltN (fun b hb => (hlA b hb).1)
      have aD := aD.more ltD (fun b hb => (hlA b hb).1)
      have fo2 := (fo.step bel).more (nm := x.name) havl (by omega) hrng.op hrng.n hrng.name hrng.nlen (fun j e v he hv => (hrep j e v he hv).mono (fun _ h => h) (fun p hp => bel.cell (fo.lt _ hp))) own.own
      have hg5T : g5 ∉ blocksOf vA ++ T := fun hm => by
        rcases List.mem_append.1 hm with hm | hm
        · have := (hlA _ (mem_blocksOf.1 hm)).1; omega
        · have := hfar _ hm; omega
      have hfar2 : ∀ b ∈ blocksOf vA ++ T, g5 < b := fun b hm => by
        rcases List.mem_append.1 hm with hm | hm
        · have := (hlA _ (mem_blocksOf.1 hm)).1; omega
        · exact hfar _ hm
      have k4 := k4.step bel
      have l54 : g4 ≠ g5 := by omega
      replace bel := bel0.trans (bel.mono bel0.size)
      refine Seq.val (Runs.move rfl rfl) rfl rfl rfl ?_
      refine Seq.val (Runs.extract rfl rfl rfl) rfl rfl rfl ?_
      refine Seq.val (Runs.extract rfl rfl rfl) rfl rfl rfl ?_
      refine Seq.val (Runs.assign rfl rfl) rfl rfl rfl ?_
      refine Seq.val (Runs.assign rfl rfl) rfl rfl rfl ?_
      refine Seq.nil ?_
      refine Post.weak (F' := [(0, _), (1, _), (4, _), (5, _), (6, _), (7, _), (8, _), (9, _), (10, _), (11, _), (52, _)]) ⟨rfl, rfl, rfl, rfl, rfl, rfl, rfl, rfl, rfl, rfl, rfl, trivial⟩ ?_
      refine Post.then_ ?_
      refine Cd.seq ?_
      refine Cd.region ?_
      refine Seq.val (Runs.fieldB 0 rfl rfl Try.underlying29 rfl (by kernel_rfl)) rfl rfl rfl ?_
      refine Seq.val (Runs.loadB rfl rfl Try.underlying25 rfl k5 rfl) rfl rfl rfl ?_
      refine Seq.val (Runs.loadW rfl rfl Try.underlying35 rfl k8 (m := 4) (by kernel_rfl) rfl) rfl rfl rfl ?_
      refine Seq.slice (vs := [_]) (s := 4) rfl rfl rfl Try.underlying25 (by kernel_rfl) (zero_api_Expr) (by omega) (by omega) ⟨rfl, trivial⟩ rfl rfl rfl ?_
      intro g98 w8 n98
      have e98 := Nat.le_trans bel.size n98.ge
      have l98 := Nat.lt_of_lt_of_le k4.lt n98.ge
      have l98_k5 := Nat.lt_of_lt_of_le k5.lt n98.ge
      have l98_k8 := Nat.lt_of_lt_of_le k8.lt n98.ge
      replace bel := bel.step n98.below
      replace k5 := k5.step n98.below
      replace k8 := k8.step n98.below
      replace fo2 := fo2.step n98.below
      replace oE := oE.step n98.below
      replace oN := oN.step n98.below
      replace oD := oD.step n98.below
      replace k4 := k4.step n98.below
      have k98 := n98.blk
      refine Seq.append2 rfl rfl rfl Try.underlying25 (by kernel_rfl) zero_api_Expr rfl (by decide) (b := 56) (by kernel_rfl) oE (Reads.blk (size := 4) k98 1 rfl) (by intro x hx; simp [flatC, Value.cells] at hx; rcases hx with rfl | rfl | rfl | rfl <;> first | rfl | exact own.own.reads.elim fun A h => h.elim fun c h => h.1 ▸ rfl) bel.size (by simp only [maxLen]; omega) (by omega) rfl rfl rfl ?_
      intro vE' wa oE' ha hvE
      have aE' := aE.app fo2.lt hvE
      replace k5 := k5.app oE ha
      replace k4 := k4.app oE ha
      replace fo2 := fo2.app aE ha
      replace oN := oN.app oE ha
      replace oD := oD.app oE ha
      replace bel := bel.trans ha.below
      clear oE aE
      obtain ⟨A2, c2, rfl, -⟩ := oE'.reads
      have oE := oE'
      clear oE'
      refine Seq.val (Runs.fieldB 0 rfl rfl Try.underlying29 rfl (by kernel_rfl)) rfl rfl rfl ?_
      refine Seq.store1 rfl rfl rfl (by kernel_rfl) rfl rfl k5 rfl rfl rfl ?_
      intro w9 pw9
      replace bel := bel.put k5 pw9 e5
      replace fo2 := fo2.put k5 pw9 e5
      replace oE := oE.put k5 pw9 e5
      replace oN := oN.put k5 pw9 e5
      replace oD := oD.put k5 pw9 e5
      replace k4 := k4.put pw9 (by omega)
      replace k5 := pw9.blk
      refine Seq.nil ?_
      refine Post.weak (F' := [(0, _), (1, _), (4, _), (5, _), (6, _), (7, _), (8, _), (9, _), (10, _), (11, _), (52, _)]) ⟨rfl, rfl, rfl, rfl, rfl, rfl, rfl, rfl, rfl, rfl, rfl, trivial⟩ ?_
      refine Post.then_ ?_
      refine Cd.seq ?_
      refine Cd.region ?_
      refine Seq.val (Runs.fieldB 1 rfl rfl Try.underlying29 rfl (by kernel_rfl)) rfl rfl rfl ?_
      refine Seq.val (Runs.loadB rfl rfl Try.underlying26 rfl k5 rfl) rfl rfl rfl ?_
      refine Seq.val (Runs.move rfl rfl) rfl rfl rfl ?_
      refine Seq.slice (vs := [_]) (s := 1) rfl rfl rfl Try.underlying26 (by kernel_rfl) (zero_int) (by omega) (by omega) ⟨rfl, trivial⟩ rfl rfl rfl ?_
      intro g104 w10 n104
      have e104 := Nat.le_trans bel.size n104.ge
      have l104 := Nat.lt_of_lt_of_le k4.lt n104.ge
      have l104_k5 := Nat.lt_of_lt_of_le k5.lt n104.ge
      replace bel := bel.step n104.below
      replace k5 := k5.step n104.below
      replace fo2 := fo2.step n104.below
      replace oE := oE.step n104.below
      replace oN := oN.step n104.below
      replace oD := oD.step n104.below
      replace k4 := k4.step n104.below
      have k104 := n104.blk
      refine Seq.append2 rfl rfl rfl Try.underlying26 (by kernel_rfl) zero_int rfl (by decide) (b := 8) (by kernel_rfl) oN (Reads.blk (size := 1) k104 1 rfl) (by intro x hx; simp [flatC, Value.cells] at hx; rw [hx]; rfl) bel.size (by simp only [maxLen]; omega) (by omega) rfl rfl rfl ?_
      intro vN' wb oN' ha hvN
      have aN' := aN.app fo2.lt hvN
      have aND' := (aND.symm.app (fun b hb => (oD.blockLt b hb).2) hvN).symm
      replace k5 := k5.app oN ha
      replace k4 := k4.app oN ha
      replace fo2 := fo2.app aN ha
      replace oE := oE.app oN ha
      replace oD := oD.kept' ha.grown (fun b hb e => aND b e hb)
      replace bel := bel.trans ha.below
      clear oN aN aND
      obtain ⟨A3, c3, rfl, -⟩ := oN'.reads
      have oN := oN'
      clear oN'
      refine Seq.val (Runs.fieldB 1 rfl rfl Try.underlying29 rfl (by kernel_rfl)) rfl rfl rfl ?_
      refine Seq.store1 rfl rfl rfl (by kernel_rfl) rfl rfl k5 rfl rfl rfl ?_
      intro w11 pw11
      replace bel := bel.put k5 pw11 e5
      replace fo2 := fo2.put k5 pw11 e5
      replace oE := oE.put k5 pw11 e5
      replace oN := oN.put k5 pw11 e5
      replace oD := oD.put k5 pw11 e5
      replace k4 := k4.put pw11 (by omega)
      replace k5 := pw11.blk
      refine Seq.nil ?_
      refine Post.weak (F' := [(0, _), (1, _), (4, _), (5, _), (6, _), (7, _), (8, _), (9, _), (10, _), (11, _), (52, _)]) ⟨rfl, rfl, rfl, rfl, rfl, rfl, rfl, rfl, rfl, rfl, rfl, trivial⟩ ?_
      refine Post.then_ ?_
      refine Cd.region ?_
      refine Seq.val (Runs.fieldB 2 rfl rfl Try.underlying29 rfl (by kernel_rfl)) rfl rfl rfl ?_
      refine Seq.val (Runs.loadB rfl rfl Try.underlying26 rfl k5 rfl) rfl rfl rfl ?_
      refine Seq.val (Runs.move rfl rfl) rfl rfl rfl ?_
      refine Seq.slice (vs := [_]) (s := 1) rfl rfl rfl Try.underlying26 (by kernel_rfl) (zero_int) (by omega) (by omega) ⟨rfl, trivial⟩ rfl rfl rfl ?_
      intro g110 w12 n110
      have e110 := Nat.le_trans bel.size n110.ge
      have l110 := Nat.lt_of_lt_of_le k4.lt n110.ge
      have l110_k5 := Nat.lt_of_lt_of_le k5.lt n110.ge
      replace bel := bel.step n110.below
      replace k5 := k5.step n110.below
      replace fo2 := fo2.step n110.below
      replace oE := oE.step n110.below
      replace oN := oN.step n110.below
      replace oD := oD.step n110.below
      replace k4 := k4.step n110.below
      have k110 := n110.blk
      refine Seq.append2 rfl rfl rfl Try.underlying26 (by kernel_rfl) zero_int rfl (by decide) (b := 8) (by kernel_rfl) oD (Reads.blk (size := 1) k110 1 rfl) (by intro x hx; simp [flatC, Value.cells] at hx; rw [hx]; rfl) bel.size (by simp only [maxLen]; omega) (by omega) rfl rfl rfl ?_
      intro vD' wc oD' ha hvD
      have aD' := aD.app fo2.lt hvD
      have aND2 := aND'.app (fun b hb => (oN.blockLt b hb).2) hvD
      replace k5 := k5.app oD ha
      replace k4 := k4.app oD ha
      replace fo2 := fo2.app aD ha
      replace oE := oE.app oD ha
      replace oN := oN.kept' ha.grown (fun b hb e => aND' b hb e)
      replace bel := bel.trans ha.below
      clear oD aD
      obtain ⟨A4, c4, rfl, -⟩ := oD'.reads
      have oD := oD'
      clear oD'
      refine Seq.val (Runs.fieldB 2 rfl rfl Try.underlying29 rfl (by kernel_rfl)) rfl rfl rfl ?_
      refine Seq.store1 rfl rfl rfl (by kernel_rfl) rfl rfl k5 rfl rfl rfl ?_
      intro w13 pw13
      replace bel := bel.put k5 pw13 e5
      replace fo2 := fo2.put k5 pw13 e5
      replace oE := oE.put k5 pw13 e5
      replace oN := oN.put k5 pw13 e5
      replace oD := oD.put k5 pw13 e5
      replace k4 := k4.put pw13 (by omega)
      replace k5 := pw13.blk
      refine Seq.nil ?_
      refine Post.weak (F' := [(0, _), (1, _), (4, _), (5, _), (6, _), (7, _), (8, _), (9, _), (10, _), (11, _), (52, _)]) ⟨rfl, rfl, rfl, rfl, rfl, rfl, rfl, rfl, rfl, rfl, rfl, trivial⟩ ?_
      refine Post.block_normal ?_
      refine Post.then_ ?_
      refine Cd.region ?_
      refine Seq.val (Runs.move rfl rfl) rfl rfl rfl ?_
      refine Seq.val (Runs.addI rfl rfl rfl (by omega) (by omega)) rfl rfl rfl ?_
      refine Seq.val (Runs.assign rfl rfl) rfl rfl rfl ?_
      refine Seq.nil ?_
      refine Post.weak (F' := [(0, _), (1, _), (4, _), (5, _), (6, _), (7, _), (8, _), (9, _), (10, _), (11, _), (52, _)]) ⟨rfl, rfl, rfl, rfl, rfl, rfl, rfl, rfl, rfl, rfl, rfl, trivial⟩ ?_
      have hlE : (es ++ [leafE es x]).length = es.length + 1 := by simp
      refine Post.round (i + 1, blocksOf vA ++ T, vs ++ [.agg #[.int .i64 x.op, .int .i64 x.n, .string (strOf x.name), vA]], .slice A2 (es.length + 1) c2, .slice A3 (es.length + 1) c3, .slice A4 (es.length + 1) c4) ⟨rfl, rfl, rfl, rfl, rfl, trivial⟩ ?_ (by dsimp only; omega)
      dsimp only
      rw [htake, hlE, flatC_append, List.map_append, List.map_append, DI_append, DI_append]
      exact ⟨by omega, bel, k4, k5, fo2, hfar2, oE, oN, oD, aE', aN', aD', aND2⟩
  · have hin : i = n := by
      have hc' : ¬ ((i : Int) < n ∧ (i : Int) < 60) := fun h => by rw [decide_eq_true h.1, decide_eq_true h.2] at hc; cases hc
      omega
    subst hin
    rw [show xs.take i = xs from List.take_of_length_le (by omega)] at fo oE oN oD
    refine Cd.exit ?_
    refine Post.then_exit ?_
    refine Post.round_exit ?_
    refine Post.block_exit ?_
    refine Post.then_ ?_
    refine Cd.seq ?_
    refine Cd.seq ?_
    refine Cd.region ?_
    refine Seq.val (Runs.assign rfl rfl) rfl rfl rfl ?_
    refine Seq.nil ?_
    refine Post.weak (F' := [(0, _), (1, _), (4, _), (5, _), (6, _), (13, _), (30, _)]) ⟨rfl, rfl, rfl, rfl, rfl, rfl, rfl, trivial⟩ ?_
    refine Post.then_ ?_
    refine Cd.block ?_
    refine Cd.loop (σ := Unit) (fun _ => [(0, .slice A i c), (1, .slice none 0 0), (4, .pointer (some ⟨g4, 0, none⟩)), (5, .pointer (some ⟨g5, 0, none⟩)), (13, .int .i64 0)])
      (fun _ w2 => Below w.heap.size w w2 ∧ Blk w2 g4 29 #[.slice none 0 0, .slice none 0 0, .slice none 0 0, .slice none 0 0, .slice none 0 0, .slice none 0 0] ∧ Blk w2 g5 29 #[vE, vN, vD, .slice none 0 0, .slice none 0 0, .slice none 0 0] ∧
        Forest w2 T (treesOf xs) vs ∧ (∀ b ∈ T, g5 < b) ∧ Own w2 w.heap.size 35 4 vE (treesOf xs).length (flatC vs) ∧ Own w2 w.heap.size 3 1 vN (treesOf xs).length (DI ((treesOf xs).map zNodes)) ∧ Own w2 w.heap.size 3 1 vD (treesOf xs).length (DI ((treesOf xs).map zDepth)))
      (fun _ => 0) () ⟨bel, k4, k5, fo, hfar, oE, oN, oD⟩ ⟨rfl, rfl, rfl, rfl, rfl, trivial⟩ ?_
    clear bel k4 k5
    clear fo oE oN oD
    rintro - w2 ⟨bel, k4, k5, fo, hfar, oE, oN, oD⟩
    refine Cd.seq ?_
    refine Cd.seq ?_
    refine Cd.region ?_
    refine Seq.val (Runs.move rfl rfl) rfl rfl rfl ?_
    refine Seq.val (Runs.move rfl rfl) rfl rfl rfl ?_
    refine Seq.val (Runs.len rfl rfl Try.underlying54) rfl rfl rfl ?_
    refine Seq.val (Runs.lss rfl rfl rfl) rfl rfl rfl ?_
    refine Seq.val (Runs.move rfl rfl) rfl rfl rfl ?_
    refine SeqC.start ?_
    refine SeqC.open rfl rfl rfl rfl rfl rfl rfl (fun hcx => Runs.move rfl rfl) ?_
    refine SeqC.next rfl rfl rfl rfl rfl rfl rfl (fun hcx => Runs.lss rfl rfl rfl) ?_
    refine SeqC.and rfl rfl rfl rfl rfl rfl rfl ?_
    refine Seq.nil ?_
    refine Post.weak (F' := [(0, _), (1, _), (4, _), (5, _), (13, _), (120, _)]) ⟨rfl, rfl, rfl, rfl, rfl, rfl, trivial⟩ ?_
    refine Post.then_ ?_
    refine Cd.cond rfl (fun hc => ?_) (fun hc => ?_)
    · exact absurd hc (by decide)
    · have hgT : g4 ∉ T := fun hm => by have := hfar _ hm; omega
      obtain ⟨A2, c2, rfl, -⟩ := oE.reads
      obtain ⟨A3, c3, rfl, -⟩ := oN.reads
      obtain ⟨A4, c4, rfl, -⟩ := oD.reads
      refine Cd.exit ?_
      refine Post.then_exit ?_
      refine Post.round_exit ?_
      refine Post.block_exit ?_
      refine Post.then_ ?_
      refine Cd.seq ?_
      refine Cd.region ?_
      refine Seq.val (Runs.loadW rfl rfl Try.underlying29 rfl k5 (m := 6) (by kernel_rfl) rfl) rfl rfl rfl ?_
      refine Seq.storeN rfl rfl rfl rfl (m := 6) (by kernel_rfl) rfl (by repeat' first | exact trivial | apply And.intro | rfl | assumption) k4 (by simp [Value.cells]) rfl rfl ?_
      intro w4 pw4
      replace bel := bel.put k4 pw4 e4
      replace k5 := k5.put pw4 (by omega)
      replace fo := fo.put k4 pw4 e4
      replace oE := oE.put k4 pw4 e4
      replace oN := oN.put k4 pw4 e4
      replace oD := oD.put k4 pw4 e4
      replace k4 := pw4.blk
      refine Seq.nil ?_
      refine Post.weak (F' := [(0, _), (1, _), (4, _), (5, _), (13, _), (120, _)]) ⟨rfl, rfl, rfl, rfl, rfl, rfl, trivial⟩ ?_
      refine Post.then_ ?_
      refine Cd.ret ?_
      refine Post.endC rfl rfl k4 Try.underlying29 rfl (m := 6) (by kernel_rfl) rfl (.inl rfl) ?_
      exact ⟨⟨_, rfl, T, vs, _, _, _, rfl, fo, oE, oN, oD⟩, bel⟩
end Go.Proofs.Ytijaldpmpjapiaa
namespace Go.Proofs.Ytijaldpmpjapiaa
open Go.RowKit

/-- A tree's values. -/
def treeV (n : Nat) (AE AN AD : Option Addr) (cE cN cD : Nat) : Value := .agg #[.slice AE n cE, .slice AN n cN, .slice AD n cD, .slice none 0 0, .slice none 0 0, .slice none 0 0]
structure TreeR (w : World) (B : Nat) (es : List Ex) (AE AN AD : Option Addr) : Prop where
  expr : ∀ i e, es[i]? = some e → ∃ ad A' c', AE = some ad ∧ ad.block < B ∧ Rep w B e (.agg #[.int .i64 e.op, .int .i64 e.n, .string (strOf e.name), .slice A' e.args.length c']) ∧ ∀ (j : Nat) (u : Value), ([.int .i64 e.op, .int .i64 e.n, .string (strOf e.name), .slice A' e.args.length c'] : List Value)[j]? = some u → w.cell? ((ad.add (i * 4)).add j) = some u
  nodes : Reads w B 1 AN es.length (DI (es.map zNodes))
  deps : Reads w B 1 AD es.length (DI (es.map zDepth))
theorem TreeR.below {w w' : World} {B : Nat} {es : List Ex} {AE AN AD : Option Addr} (h : TreeR w B es AE AN AD) (hb : Below B w w') : TreeR w' B es AE AN AD :=
  ⟨fun i e he => by
    obtain ⟨ad, A', c', e1, e2, e3, e4⟩ := h.expr i e he
    exact ⟨ad, A', c', e1, e2, e3.below hb, fun j u hu => (hb.cell (by rw [block_of_add, block_of_add]; exact e2)).trans (e4 j u hu)⟩, h.nodes.below hb, h.deps.below hb⟩
theorem BuiltR.tree {B : Nat} {es : List Ex} {v : Value} {w : World} (h : BuiltR B es v w) : ∃ AE AN AD cE cN cD, v = treeV es.length AE AN AD cE cN cD ∧ TreeR w w.heap.size es AE AN AD := by
  obtain ⟨T, vs, vE, vN, vD, rfl, fo, oE, oN, oD⟩ := h
  have h4 : ∀ y ∈ vs, y.cells.size = 4 := sizes_spec fo.cells
  obtain ⟨AE, cE, rfl, hE⟩ := oE.reads
  obtain ⟨AN, cN, rfl, hN⟩ := oN.reads
  obtain ⟨AD, cD, rfl, hD⟩ := oD.reads
  refine ⟨AE, AN, AD, cE, cN, cD, rfl, fun i e he => ?_, hN, hD⟩
  have hi := (List.getElem?_eq_some_iff.1 he).1
  obtain ⟨ev, hev⟩ : ∃ ev, vs[i]? = some ev := ⟨_, List.getElem?_eq_getElem (by rw [fo.len]; omega)⟩
  have hre := fo.rep i e ev he hev
  obtain ⟨A', c', rfl⟩ := hre.form
  obtain ⟨ad, rfl, hb, hc⟩ := hE.2 (by omega)
  exact ⟨ad, A', c', rfl, hb, hre.mono (fun b hm => fo.lt b hm) (fun _ _ => rfl), fun j u hu => by rw [add_of_add]; exact hc _ _ (flatC_at h4 hev j u (by simpa [Value.cells] using hu))⟩
/-- Whether an expression is right. -/
def rightB (e : Ex) : Bool := decide (e.nodes ≤ 200) && decide (e.depth ≤ 16) && builtB e
theorem z_right (e : Ex) : ((decide (zNodes e ≤ 200) && decide (zDepth e ≤ 16)) && builtB e) = rightB e := by
  have hdn := e.depth_nodes
  unfold rightB
  congr 1
  rw [Bool.eq_iff_iff]
  simp only [Bool.and_eq_true, decide_eq_true_eq]
  unfold zNodes zDepth toldZ
  split <;> constructor <;> intro h <;> dsimp only at * <;> omega
theorem treeRight_any (i cE cN cD : Nat) (AE AN AD : Option Addr) (es : List Ex) (e : Ex) (w : World) (hr : TreeR w w.heap.size es AE AN AD) (he : es[i]? = some e) :
    Calls Try.prog 16 #[treeV es.length AE AN AD cE cN cD, .int .i64 (i : Int)] w fun en w' => en = .returned (.bool (rightB e)) ∧ Grow w w' := by
  have bel := Below.refl w.heap.size w
  have hi := (List.getElem?_eq_some_iff.1 he).1
  obtain ⟨ad, A', c', rfl, hb, hrep, hcell⟩ := hr.expr i e he
  have hcE : ∀ W, Below w.heap.size w W → ∀ (q : Nat) (u : Value), ([.int .i64 e.op, .int .i64 e.n, .string (strOf e.name), .slice A' e.args.length c'] : List Value)[q]? = some u → W.cell? ((ad.add (i * 4)).add q) = some u := fun W hW q u hq => (hW.cell (by rw [block_of_add, block_of_add]; exact hb)).trans (hcell q u hq)
  obtain ⟨adN, rfl, hbN, hcN⟩ := hr.nodes.2 (by omega)
  have hcN := fun W (hb : Below w.heap.size w W) => (hb.cell (p := adN.add i) (by rw [block_of_add]; exact hbN)).trans (hcN i (.int .i64 (zNodes e)) (by rw [get_DI, List.getElem?_map, he]; rfl))
  obtain ⟨adD, rfl, hbD, hcD⟩ := hr.deps.2 (by omega)
  have hcD := fun W (hb : Below w.heap.size w W) => (hb.cell (p := adD.add i) (by rw [block_of_add]; exact hbD)).trans (hcD i (.int .i64 (zDepth e)) (by rw [get_DI, List.getElem?_map, he]; rfl))
  have hbt := fun W (hb : Below w.heap.size w W) => refBuilt_any e.nodes e w.heap.size _ W (Nat.le_refl _) (hrep.below hb) hb.size
  have hz := z_right e
  unfold treeV
  refine Calls.start 27 Try.func16 rfl rfl rfl ?_
  refine Cd.seq ?_
  refine Cd.region ?_
  refine Seq.box rfl rfl rfl rfl rfl ?_
  intro g2 w1 n2
  have e2 := Nat.le_trans bel.size n2.ge
  replace bel := bel.step n2.below
  have k2 := n2.blk
  refine Seq.val (Runs.assign rfl rfl) rfl rfl rfl ?_
  refine Seq.nil ?_
  refine Post.weak (F' := [(0, _), (1, _), (2, _), (4, _)]) ⟨rfl, rfl, rfl, rfl, trivial⟩ ?_
  refine Post.then_ ?_
  refine Cd.seq ?_
  refine Cd.region ?_
  refine Seq.val (Runs.fieldB 1 rfl rfl Try.underlying29 rfl (by kernel_rfl)) rfl rfl rfl ?_
  refine Seq.val (Runs.loadB rfl rfl Try.underlying26 rfl k2 rfl) rfl rfl rfl ?_
  refine Seq.val (Runs.move rfl rfl) rfl rfl rfl ?_
  refine Seq.val (Runs.index1 rfl rfl rfl Try.underlying26 (by kernel_rfl) (j := i) rfl (by omega)) rfl rfl rfl ?_
  refine Seq.val (Runs.load1 rfl rfl Try.underlying3 rfl (hcN _ bel)) rfl rfl rfl ?_
  refine Seq.val (Runs.leq rfl rfl rfl) rfl rfl rfl ?_
  refine Seq.val (Runs.move rfl rfl) rfl rfl rfl ?_
  refine SeqC.start ?_
  refine SeqC.open rfl rfl rfl rfl rfl rfl rfl (fun hcx => Runs.fieldB 2 rfl rfl Try.underlying29 rfl (by kernel_rfl)) ?_
  refine SeqC.next rfl rfl rfl rfl rfl rfl rfl (fun hcx => Runs.loadB rfl rfl Try.underlying26 rfl k2 rfl) ?_
  refine SeqC.next rfl rfl rfl rfl rfl rfl rfl (fun hcx => Runs.move rfl rfl) ?_
  refine SeqC.next rfl rfl rfl rfl rfl rfl rfl (fun hcx => Runs.index1 rfl rfl rfl Try.underlying26 (by kernel_rfl) (j := i) rfl (by omega)) ?_
  refine SeqC.next rfl rfl rfl rfl rfl rfl rfl (fun hcx => Runs.load1 rfl rfl Try.underlying3 rfl (hcD _ bel)) ?_
  refine SeqC.next rfl rfl rfl rfl rfl rfl rfl (fun hcx => Runs.leq rfl rfl rfl) ?_
  refine SeqC.and rfl rfl rfl rfl rfl rfl rfl ?_
  refine Seq.val (Runs.move rfl rfl) rfl rfl rfl ?_
  refine SeqC.start ?_
  refine SeqC.open rfl rfl rfl rfl rfl rfl rfl (fun hcx => Runs.fieldB 0 rfl rfl Try.underlying29 rfl (by kernel_rfl)) ?_
  refine SeqC.next rfl rfl rfl rfl rfl rfl rfl (fun hcx => Runs.loadB rfl rfl Try.underlying25 rfl k2 rfl) ?_
  refine SeqC.next rfl rfl rfl rfl rfl rfl rfl (fun hcx => Runs.move rfl rfl) ?_
  refine SeqC.next rfl rfl rfl rfl rfl rfl rfl (fun hcx => Runs.indexN rfl rfl rfl Try.underlying25 (s := 4) (by kernel_rfl) (j := i) rfl (by omega)) ?_
  refine SeqC.next rfl rfl rfl rfl rfl rfl rfl (fun hcx => Runs.loadF (ps := [.int .i64 e.op, .int .i64 e.n, .string (strOf e.name), .slice A' e.args.length c']) rfl rfl Try.underlying35 rfl (m := 4) (by kernel_rfl) rfl (hcE _ bel)) ?_
  refine SeqC.nextC rfl rfl rfl rfl rfl rfl rfl (fun hcx => Enters.func rfl rfl rfl (run_enter Try.func44 (by kernel_rfl) rfl)) (fun hcx => hbt _ bel) ?_
  intro w2 hw2
  replace bel := bel.step hw2
  replace k2 := k2.step hw2
  refine SeqC.and rfl rfl rfl rfl rfl rfl rfl ?_
  refine Seq.val (Runs.assign rfl rfl) rfl rfl rfl ?_
  refine Seq.nil ?_
  refine Post.weak (F' := [(0, _), (1, _), (2, _), (4, _)]) ⟨rfl, rfl, rfl, rfl, trivial⟩ ?_
  refine Post.then_ ?_
  refine Cd.ret ?_
  refine Post.end1 rfl rfl (.inl rfl) ?_
  exact ⟨ret1 (bool_eq hz), bel⟩
end Go.Proofs.Ytijaldpmpjapiaa
namespace Go.Proofs.Ytijaldpmpjapiaa
open Go.RowKit

def yearZ (y : Int) : Int := if leapB y then 366 else 365
theorem of_start : ofZ 1970 1 1 = 0 := by decide
theorem of_last : ofZ 10000 1 1 = 2932897 := by decide
theorem leapB_iff (y : Int) : leapB y = true ↔ y % 4 = 0 ∧ (y % 100 ≠ 0 ∨ y % 400 = 0) := by unfold leapB; simp
theorem of_one (y : Int) : ofZ y 1 1 = (y - 1) / 400 * 146097 + ((y - 1) % 400 * 365 + (y - 1) % 400 / 4 - (y - 1) % 400 / 100 + 306) - 719468 := by
  unfold ofZ ofY ofM
  rw [if_pos (by omega), if_pos (by omega)]
  omega
theorem of_year (y : Int) : ofZ (y + 1) 1 1 = ofZ y 1 1 + yearZ y := by
  rw [of_one, of_one]
  have hl := leapB_iff y
  unfold yearZ
  rw [Int.add_sub_cancel]
  generalize hr : (y - 1) % 400 = r
  generalize hq : (y - 1) / 400 = q
  obtain rfl : y = 400 * q + r + 1 := by omega
  have hr1 : 0 ≤ r ∧ r < 400 := by omega
  split
  · rename_i h
    have := hl.1 h
    by_cases h4 : r = 399
    · subst h4; omega
    · rw [show (400 * q + r + 1) / 400 = q by omega, show (400 * q + r + 1) % 400 = r + 1 by omega]; omega
  · rename_i h
    have : ¬ ((400 * q + r + 1) % 4 = 0 ∧ ((400 * q + r + 1) % 100 ≠ 0 ∨ (400 * q + r + 1) % 400 = 0)) := fun h2 => h (hl.2 h2)
    by_cases h4 : r = 399
    · subst h4; omega
    · rw [show (400 * q + r + 1) / 400 = q by omega, show (400 * q + r + 1) % 400 = r + 1 by omega]; omega
theorem of_day (y m d : Int) : ofZ y m d = ofZ y m 1 + d - 1 := by unfold ofZ; omega
theorem of_month (y m : Int) (h1 : 1 ≤ m) (h2 : m ≤ 11) : ofZ y (m + 1) 1 = ofZ y m 1 + daysZ y m := by
  rcases (show m = 1 ∨ m = 2 ∨ m = 3 ∨ m = 4 ∨ m = 5 ∨ m = 6 ∨ m = 7 ∨ m = 8 ∨ m = 9 ∨ m = 10 ∨ m = 11 by omega) with rfl | rfl | rfl | rfl | rfl | rfl | rfl | rfl | rfl | rfl | rfl
  case inr.inl =>
    have := of_year y
    rw [of_one, of_one] at this
    unfold yearZ at this
    unfold ofZ ofY ofM daysZ
    split at this <;> rename_i h <;> simp [h] at this ⊢ <;> omega
  all_goals
    unfold ofZ ofY ofM daysZ
    simp
    try omega
theorem of_dec (y : Int) : ofZ (y + 1) 1 1 = ofZ y 12 1 + 31 := by
  rw [of_one]
  unfold ofZ ofY ofM
  simp
  omega
theorem daysZ_pos (y m : Int) : 0 ≤ daysZ y m := by
  unfold daysZ
  split
  · split <;> omega
  · split
    · omega
    · split <;> omega
theorem of_mono_m (y : Int) : ∀ (k : Nat) (m : Int), 1 ≤ m → m + k ≤ 12 → ofZ y m 1 ≤ ofZ y (m + k) 1 := by
  intro k
  induction k with
  | zero => intro m _ _; simp
  | succ k ih =>
    intro m h1 h2
    have h3 := ih m h1 (by omega)
    have h4 := of_month y (m + k) (by omega) (by omega)
    have h5 := daysZ_pos y (m + k)
    rw [show m + ((k + 1 : Nat) : Int) = m + k + 1 by omega]
    omega
theorem of_le_m {y m m' : Int} (h1 : 1 ≤ m) (h2 : m ≤ m') (h3 : m' ≤ 12) : ofZ y m 1 ≤ ofZ y m' 1 := by
  have := of_mono_m y (m' - m).toNat m h1 (by omega)
  rwa [show m + ((m' - m).toNat : Int) = m' by omega] at this
theorem yearZ_pos (y : Int) : 365 ≤ yearZ y := by unfold yearZ; split <;> omega
theorem of_mono_y : ∀ (k : Nat) (y : Int), ofZ y 1 1 ≤ ofZ (y + k) 1 1 := by
  intro k
  induction k with
  | zero => intro y; simp
  | succ k ih =>
    intro y
    have h1 := ih y
    have h2 := of_year (y + k)
    have h3 := yearZ_pos (y + k)
    rw [show y + ((k + 1 : Nat) : Int) = y + k + 1 by omega]
    omega
theorem of_le_y {y y' : Int} (h : y ≤ y') : ofZ y 1 1 ≤ ofZ y' 1 1 := by
  have := of_mono_y (y' - y).toNat y
  rwa [show y + ((y' - y).toNat : Int) = y' by omega] at this
/-- A day is of its month, and of its year. -/
theorem of_span {y m d : Int} (h : ofOk y m d = true) : 1970 ≤ y ∧ y ≤ 9999 ∧ 1 ≤ m ∧ m ≤ 12 ∧ 1 ≤ d ∧ d ≤ daysZ y m ∧ ofZ y 1 1 ≤ ofZ y m d ∧ ofZ y m d < ofZ (y + 1) 1 1 ∧ 0 ≤ ofZ y m d ∧ ofZ y m d ≤ 2932896 := by
  unfold ofOk at h
  simp at h
  obtain ⟨⟨⟨h1, h2⟩, h3⟩, h4⟩ := h
  obtain ⟨h5, h6, -⟩ := daysZ_m (y := y) (m := m) (by omega)
  have a1 := of_le_m (y := y) (m := 1) (m' := m) (by omega) h5 h6
  have a2 := of_day y m d
  have a3 : ofZ y m 1 + daysZ y m ≤ ofZ (y + 1) 1 1 := by
    by_cases hm : m = 12
    · subst hm
      rw [of_dec]
      have : daysZ y 12 = 31 := by unfold daysZ; simp
      omega
    · have b1 := of_month y m h5 (by omega)
      have b2 := of_le_m (y := y) (m := m + 1) (m' := 12) (by omega) (by omega) (by omega)
      have b3 := of_dec y
      omega
  have a4 := of_le_y (y := 1970) (y' := y) h1
  have a5 := of_le_y (y := y + 1) (y' := 10000) (by omega)
  rw [of_start] at a4
  rw [of_last] at a5
  exact ⟨h1, h2, h5, h6, h3, h4, by omega, by omega, by omega, by omega⟩
/-- A number in so many digits. -/
def digR (v : Nat) : Nat → List Nat
  | 0 => []
  | n + 1 => (48 + v / 10 ^ n % 10) :: digR v n
theorem digR_len (v n : Nat) : (digR v n).length = n := by induction n with
  | zero => rfl
  | succ n ih => unfold digR; simp [ih]
theorem digR_lt (v n : Nat) : ∀ x ∈ digR v n, x < 256 := by induction n with
  | zero => intro x h; cases h
  | succ n ih =>
    intro x h
    unfold digR at h
    rcases List.mem_cons.1 h with rfl | h
    · omega
    · exact ih x h
def printD (y m d : Nat) : List Nat := digR y 4 ++ [45] ++ digR m 2 ++ [45] ++ digR d 2
end Go.Proofs.Ytijaldpmpjapiaa
namespace Go.Proofs.Ytijaldpmpjapiaa
open Go.RowKit

def rawV (l : List Nat) : Int := l.foldl (fun (v : Int) (c : Nat) => 10 * v + (c : Int) - 48) 0
theorem num2_of (a b : Nat) : numZ [a, b] = if (48 ≤ a ∧ a ≤ 57) ∧ (48 ≤ b ∧ b ≤ 57) then 10 * ((a : Int) - 48) + ((b : Int) - 48) else -1 := by
  unfold numZ
  have e : ([a, b].all digB = true) ↔ ((48 ≤ a ∧ a ≤ 57) ∧ (48 ≤ b ∧ b ≤ 57)) := by simp [digB]
  by_cases h : (48 ≤ a ∧ a ≤ 57) ∧ (48 ≤ b ∧ b ≤ 57)
  · rw [if_pos (e.2 h), if_pos h]
    simp [valD]
    omega
  · rw [if_neg (fun x => h (e.1 x)), if_neg h]
theorem num4_of (a b c d : Nat) : numZ [a, b, c, d] = if (48 ≤ a ∧ a ≤ 57) ∧ (48 ≤ b ∧ b ≤ 57) ∧ (48 ≤ c ∧ c ≤ 57) ∧ (48 ≤ d ∧ d ≤ 57) then 1000 * ((a : Int) - 48) + 100 * ((b : Int) - 48) + 10 * ((c : Int) - 48) + ((d : Int) - 48) else -1 := by
  unfold numZ
  have e : ([a, b, c, d].all digB = true) ↔ ((48 ≤ a ∧ a ≤ 57) ∧ (48 ≤ b ∧ b ≤ 57) ∧ (48 ≤ c ∧ c ≤ 57) ∧ (48 ≤ d ∧ d ≤ 57)) := by simp [digB]
  by_cases h : (48 ≤ a ∧ a ≤ 57) ∧ (48 ≤ b ∧ b ≤ 57) ∧ (48 ≤ c ∧ c ≤ 57) ∧ (48 ≤ d ∧ d ≤ 57)
  · rw [if_pos (e.2 h), if_pos h]
    simp [valD]
    omega
  · rw [if_neg (fun x => h (e.1 x)), if_neg h]
theorem ten_of {l : List Nat} (h : l.length = 10) : ∃ c0 c1 c2 c3 c4 c5 c6 c7 c8 c9, l = [c0, c1, c2, c3, c4, c5, c6, c7, c8, c9] := by
  rcases l with _ | ⟨c0, _ | ⟨c1, _ | ⟨c2, _ | ⟨c3, _ | ⟨c4, _ | ⟨c5, _ | ⟨c6, _ | ⟨c7, _ | ⟨c8, _ | ⟨c9, _ | ⟨x, l⟩⟩⟩⟩⟩⟩⟩⟩⟩⟩⟩ <;> simp at h
  exact ⟨_, _, _, _, _, _, _, _, _, _, rfl⟩
theorem ofOk_bd {y m d : Int} (h : ofOk y m d = true) : 1970 ≤ y ∧ y ≤ 9999 ∧ 1 ≤ m ∧ m ≤ 12 ∧ 1 ≤ d ∧ d ≤ 31 := by
  obtain ⟨h1, h2, h3, h4, h5, h6, -⟩ := of_span h
  obtain ⟨-, -, h7⟩ := daysZ_m (y := y) (m := m) (by omega)
  exact ⟨h1, h2, h3, h4, h5, by omega⟩
/-- A text is a day's just if the day of its numbers has this text. -/
theorem day_law (l : List Nat) (h : l.length = 10) : (dateOk l = true ↔ (ofOk (rawV (l.take 4)) (rawV ((l.take 7).drop 5)) (rawV ((l.take 10).drop 8)) = true ∧ printD (rawV (l.take 4)).toNat (rawV ((l.take 7).drop 5)).toNat (rawV ((l.take 10).drop 8)).toNat = l)) ∧
    (dateOk l = true → dateZ l = ofZ (rawV (l.take 4)) (rawV ((l.take 7).drop 5)) (rawV ((l.take 10).drop 8))) := by
  obtain ⟨c0, c1, c2, c3, c4, c5, c6, c7, c8, c9, rfl⟩ := ten_of h
  have r1 : rawV [c0, c1, c2, c3] = 1000 * ((c0 : Int) - 48) + 100 * ((c1 : Int) - 48) + 10 * ((c2 : Int) - 48) + ((c3 : Int) - 48) := by simp [rawV]; omega
  have r2 : rawV [c5, c6] = 10 * ((c5 : Int) - 48) + ((c6 : Int) - 48) := by simp [rawV]; omega
  have r3 : rawV [c8, c9] = 10 * ((c8 : Int) - 48) + ((c9 : Int) - 48) := by simp [rawV]; omega
  have hk : dateOk [c0, c1, c2, c3, c4, c5, c6, c7, c8, c9] = (decide (c4 = 45) && decide (c7 = 45) && ofOk (numZ [c0, c1, c2, c3]) (numZ [c5, c6]) (numZ [c8, c9])) := by
    unfold dateOk
    simp
  have hz : dateZ [c0, c1, c2, c3, c4, c5, c6, c7, c8, c9] = if dateOk [c0, c1, c2, c3, c4, c5, c6, c7, c8, c9] = true then ofZ (numZ [c0, c1, c2, c3]) (numZ [c5, c6]) (numZ [c8, c9]) else 0 := rfl
  show (_ ↔ (ofOk (rawV [c0, c1, c2, c3]) (rawV [c5, c6]) (rawV [c8, c9]) = true ∧ printD (rawV [c0, c1, c2, c3]).toNat (rawV [c5, c6]).toNat (rawV [c8, c9]).toNat = _)) ∧ (_ → _ = ofZ (rawV [c0, c1, c2, c3]) (rawV [c5, c6]) (rawV [c8, c9]))
  rw [hz, hk]
  have key : (decide (c4 = 45) && decide (c7 = 45) && ofOk (numZ [c0, c1, c2, c3]) (numZ [c5, c6]) (numZ [c8, c9])) = true → numZ [c0, c1, c2, c3] = rawV [c0, c1, c2, c3] ∧ numZ [c5, c6] = rawV [c5, c6] ∧ numZ [c8, c9] = rawV [c8, c9] ∧ printD (rawV [c0, c1, c2, c3]).toNat (rawV [c5, c6]).toNat (rawV [c8, c9]).toNat = [c0, c1, c2, c3, c4, c5, c6, c7, c8, c9] := by
    intro hd
    simp at hd
    obtain ⟨⟨h4, h7⟩, ho⟩ := hd
    have hb := ofOk_bd ho
    rw [num4_of, num2_of, num2_of] at hb ⊢
    rw [r1, r2, r3]
    split at hb
    · rename_i d1
      split at hb
      · rename_i d2
        split at hb
        · rename_i d3
          rw [if_pos d1, if_pos d2, if_pos d3]
          refine ⟨rfl, rfl, rfl, ?_⟩
          unfold printD digR digR digR digR digR
          simp
          refine ⟨?_, ?_, ?_, ?_, ?_, ?_, ?_, ?_, ?_, ?_⟩ <;> omega
        · omega
      · omega
    · omega
  refine ⟨⟨fun hd => ?_, fun hd => ?_⟩, fun hd => ?_⟩
  · obtain ⟨k1, k2, k3, k4⟩ := key hd
    simp at hd
    rw [k1, k2, k3] at hd
    exact ⟨hd.2, k4⟩
  · obtain ⟨ho, hp⟩ := hd
    have hb := ofOk_bd ho
    generalize rawV [c0, c1, c2, c3] = Y at *
    generalize rawV [c5, c6] = M at *
    generalize rawV [c8, c9] = D at *
    unfold printD digR digR digR digR digR at hp
    simp at hp
    obtain ⟨p0, p1, p2, p3, p4, p5, p6, p7, p8, p9⟩ := hp
    have e1 : numZ [c0, c1, c2, c3] = Y := by rw [num4_of, if_pos (by omega)]; omega
    have e2 : numZ [c5, c6] = M := by rw [num2_of, if_pos (by omega)]; omega
    have e3 : numZ [c8, c9] = D := by rw [num2_of, if_pos (by omega)]; omega
    rw [e1, e2, e3, ho]
    simp
    omega
  · obtain ⟨k1, k2, k3, -⟩ := key hd
    rw [if_pos hd, k1, k2, k3]
end Go.Proofs.Ytijaldpmpjapiaa
namespace Go.Proofs.Ytijaldpmpjapiaa
open Go.RowKit

/-- The first day of a year of an era. -/
def eraS (y : Nat) : Nat := 365 * y + y / 4 - y / 100 + y / 400
/-- The year of a day of an era. -/
def eraY (e : Nat) : Nat := (e - e / 1460 + e / 36524 - e / 146096) / 365
theorem eraG_step (e : Nat) (h : e + 1 ≤ 146096) : e - e / 1460 + e / 36524 - e / 146096 ≤ (e + 1) - (e + 1) / 1460 + (e + 1) / 36524 - (e + 1) / 146096 := by omega
theorem eraG_mono (k : Nat) : ∀ e, e + k ≤ 146096 → e - e / 1460 + e / 36524 - e / 146096 ≤ (e + k) - (e + k) / 1460 + (e + k) / 36524 - (e + k) / 146096 := by
  induction k with
  | zero => intro e _; exact Nat.le_refl _
  | succ k ih => intro e h; exact Nat.le_trans (ih e (by omega)) (eraG_step (e + k) (by omega))
theorem eraY_mono {e e' : Nat} (h : e ≤ e') (h1 : e' ≤ 146096) : eraY e ≤ eraY e' := by
  obtain ⟨k, rfl⟩ : ∃ k, e' = e + k := ⟨e' - e, by omega⟩
  exact Nat.div_le_div_right (eraG_mono k e h1)
def tabY (y : Nat) : Bool := Nat.beq (eraY (eraS y)) y && Nat.beq (eraY (eraS (y + 1) - 1)) y && Nat.blt (eraS y) (eraS (y + 1)) && Nat.ble (eraS (y + 1)) 146097
theorem tabY_all : ((List.range 20).all fun a => (List.range 20).all fun b => tabY (20 * a + b)) = true := by decide +kernel
theorem eraY_table (y : Nat) (h : y < 400) : eraY (eraS y) = y ∧ eraY (eraS (y + 1) - 1) = y ∧ eraS y < eraS (y + 1) ∧ eraS (y + 1) ≤ 146097 := by
  have h1 := List.all_eq_true.1 (List.all_eq_true.1 tabY_all (y / 20) (List.mem_range.2 (by omega))) (y % 20) (List.mem_range.2 (by omega))
  rw [show 20 * (y / 20) + y % 20 = y by omega] at h1
  unfold tabY at h1
  simp only [Bool.and_eq_true] at h1
  obtain ⟨⟨⟨a, b⟩, c⟩, d⟩ := h1
  exact ⟨Nat.eq_of_beq_eq_true a, Nat.eq_of_beq_eq_true b, Nat.le_of_ble_eq_true c, Nat.le_of_ble_eq_true d⟩
theorem eraS_last : eraS 400 = 146097 := by decide +kernel
theorem era_year (e : Nat) (h : e < 146097) : ∃ y, y < 400 ∧ eraS y ≤ e ∧ e < eraS (y + 1) := by
  have key : ∀ k, k ≤ 400 → e < eraS k → ∃ y, y < 400 ∧ eraS y ≤ e ∧ e < eraS (y + 1) := by
    intro k
    induction k with
    | zero => intro _ h; exact absurd h (Nat.not_lt_zero _)
    | succ k ih =>
      intro hk he
      rcases Nat.lt_or_ge e (eraS k) with h1 | h1
      · exact ih (by omega) h1
      · exact ⟨k, by omega, h1, he⟩
  exact key 400 (Nat.le_refl _) (by rw [eraS_last]; exact h)
theorem era_of (e : Nat) (h : e < 146097) : eraY e < 400 ∧ eraS (eraY e) ≤ e ∧ e < eraS (eraY e + 1) := by
  obtain ⟨y, h1, h2, h3⟩ := era_year e h
  obtain ⟨t1, t2, t3, t4⟩ := eraY_table y h1
  have a := eraY_mono h2 (by omega)
  have b := eraY_mono (e := e) (e' := eraS (y + 1) - 1) (by omega) (by omega)
  have : eraY e = y := by omega
  rw [this]
  exact ⟨h1, h2, h3⟩
/-- A month, and a day of it, of a day of a year that begins with March. -/
def lenM (m : Nat) : Nat := [31, 30, 31, 30, 31, 31, 30, 31, 30, 31, 31, 29].getD m 0
def tabM (t : Nat) : Bool := Nat.ble ((5 * t + 2) / 153) 11 && Nat.ble ((153 * ((5 * t + 2) / 153) + 2) / 5) t && Nat.blt (t - (153 * ((5 * t + 2) / 153) + 2) / 5) (lenM ((5 * t + 2) / 153)) && (!(Nat.beq (t - (153 * ((5 * t + 2) / 153) + 2) / 5) 28 && Nat.beq ((5 * t + 2) / 153) 11) || Nat.beq t 365)
theorem tabM_all : ((List.range 19).all fun a => (List.range 20).all fun b => Nat.ble 366 (20 * a + b) || tabM (20 * a + b)) = true := by decide +kernel
theorem month_table (t : Nat) (h : t < 366) : (5 * t + 2) / 153 ≤ 11 ∧ (153 * ((5 * t + 2) / 153) + 2) / 5 ≤ t ∧ t - (153 * ((5 * t + 2) / 153) + 2) / 5 < lenM ((5 * t + 2) / 153) ∧ (t - (153 * ((5 * t + 2) / 153) + 2) / 5 = 28 → (5 * t + 2) / 153 = 11 → t = 365) := by
  have h1 := List.all_eq_true.1 (List.all_eq_true.1 tabM_all (t / 20) (List.mem_range.2 (by omega))) (t % 20) (List.mem_range.2 (by omega))
  rw [show 20 * (t / 20) + t % 20 = t by omega] at h1
  have h0 : Nat.ble 366 t = false := by
    cases hb : Nat.ble 366 t with
    | false => rfl
    | true => have := Nat.le_of_ble_eq_true hb; omega
  rw [h0, Bool.false_or] at h1
  unfold tabM at h1
  simp only [Bool.and_eq_true] at h1
  obtain ⟨⟨⟨a, b⟩, c⟩, d⟩ := h1
  refine ⟨Nat.le_of_ble_eq_true a, Nat.le_of_ble_eq_true b, Nat.le_of_ble_eq_true c, fun e1 e2 => ?_⟩
  rw [e1, e2] at d
  exact Nat.eq_of_beq_eq_true (by simpa using d)
theorem leap_shift (q y : Nat) (h : leapB ((y : Int) + 1) = true) : leapB (((q * 400 + y : Nat) : Int) + 1) = true := by
  rw [leapB_iff] at *
  omega
theorem of_shift (q y : Nat) (h : y < 400) (mm d : Int) : (((q * 400 + y : Nat) : Int)) / 400 * 146097 + (((q * 400 + y : Nat) : Int) % 400 * 365 + ((q * 400 + y : Nat) : Int) % 400 / 4 - ((q * 400 + y : Nat) : Int) % 400 / 100 + ((153 * mm + 2) / 5 + d - 1)) - 719468 = q * 146097 + ((y : Int) * 365 + y / 4 - y / 100) + ((153 * mm + 2) / 5 + d - 1) - 719468 := by
  have a1 : (((q * 400 + y : Nat) : Int)) / 400 = q := by omega
  have a2 : ((q * 400 + y : Nat) : Int) % 400 = y := by omega
  rw [a1, a2]
  omega
theorem eraS_leap (y : Nat) : eraS (y + 1) - eraS y ≤ 366 ∧ (eraS (y + 1) - eraS y = 366 → leapB ((y : Int) + 1) = true) := by
  unfold eraS
  refine ⟨by omega, fun h => ?_⟩
  rw [leapB_iff]
  omega
theorem eraS_int (y : Nat) (h : y < 400) : (eraS y : Int) = (y : Int) * 365 + y / 4 - y / 100 := by unfold eraS; omega
theorem civ_core (n q e y t m d : Nat) (hn : n + 719468 = q * 146097 + e) (h1 : y < 400) (h2 : eraS y ≤ e) (h3 : e < eraS (y + 1)) (ht : t = e - eraS y) (hm : m = (5 * t + 2) / 153) (hd : d = t - (153 * m + 2) / 5 + 1) :
    ofZ (if 10 ≤ m then q * 400 + y + 1 else q * 400 + y : Nat) (if 10 ≤ m then m - 9 else m + 3 : Nat) d = n ∧ 1 ≤ (if 10 ≤ m then m - 9 else m + 3) ∧ (if 10 ≤ m then m - 9 else m + 3) ≤ 12 ∧ 1 ≤ d ∧ (d : Int) ≤ daysZ (if 10 ≤ m then q * 400 + y + 1 else q * 400 + y : Nat) (if 10 ≤ m then m - 9 else m + 3 : Nat) := by
  obtain ⟨l1, l2⟩ := eraS_leap y
  have hlp : t = 365 → leapB (((q * 400 + y : Nat) : Int) + 1) = true := fun h => leap_shift q y (l2 (by omega))
  have hi := eraS_int y h1
  have hsh := of_shift q y h1
  obtain ⟨m1, m2, m3, m4⟩ := month_table t (by omega)
  rw [← hm] at m1 m2 m3 m4
  have hzz : ∀ mm : Int, mm = m → (q : Int) * 146097 + ((y : Int) * 365 + y / 4 - y / 100) + ((153 * mm + 2) / 5 + (d : Int) - 1) - 719468 = n := by
    rintro mm rfl
    rw [← hi]
    omega
  clear hi l1 l2 h2 h3 hn
  obtain ⟨yy, hyy⟩ : ∃ yy, yy = q * 400 + y := ⟨_, rfl⟩
  rw [← hyy] at hlp hsh ⊢
  clear hyy
  by_cases hm10 : 10 ≤ m
  · simp only [hm10, if_true]
    refine ⟨?_, by omega, by omega, by omega, ?_⟩
    · unfold ofZ ofY ofM
      rw [if_pos (by omega), if_pos (by omega), show (((yy + 1 : Nat) : Int) - 1) = (yy : Int) by omega, hsh]
      exact hzz _ (by omega)
    · have : m = 10 ∨ m = 11 := by omega
      rcases this with rfl | rfl
      · replace m3 : t - (153 * 10 + 2) / 5 < 31 := m3
        unfold daysZ
        simp
        omega
      · replace m3 : t - (153 * 11 + 2) / 5 < 29 := m3
        unfold daysZ
        simp
        split
        · omega
        · rename_i hl
          have : t ≠ 365 := fun h => hl (hlp h)
          omega
  · simp only [hm10, if_false]
    refine ⟨?_, by omega, by omega, by omega, ?_⟩
    · unfold ofZ ofY ofM
      rw [if_neg (by omega), if_neg (by omega), hsh]
      exact hzz _ (by omega)
    · have : m = 0 ∨ m = 1 ∨ m = 2 ∨ m = 3 ∨ m = 4 ∨ m = 5 ∨ m = 6 ∨ m = 7 ∨ m = 8 ∨ m = 9 := by omega
      clear hzz hsh hlp hm10 m1 m4
      rcases this with rfl | rfl | rfl | rfl | rfl | rfl | rfl | rfl | rfl | rfl <;> (simp [lenM] at m3; unfold daysZ; simp; omega)
def yT (e : Nat) : Nat := e - eraS (eraY e)
def mT (e : Nat) : Nat := (5 * yT e + 2) / 153
def dT (e : Nat) : Nat := yT e - (153 * mT e + 2) / 5 + 1
def cY (q e : Nat) : Nat := if 10 ≤ mT e then q * 400 + eraY e + 1 else q * 400 + eraY e
def cM (e : Nat) : Nat := if 10 ≤ mT e then mT e - 9 else mT e + 3
theorem civ_qe (n q e : Nat) (hn : n + 719468 = q * 146097 + e) (he : e < 146097) : ofZ (cY q e) (cM e) (dT e) = n ∧ 1 ≤ cM e ∧ cM e ≤ 12 ∧ 1 ≤ dT e ∧ (dT e : Int) ≤ daysZ (cY q e) (cM e) := by
  obtain ⟨h1, h2, h3⟩ := era_of _ he
  have := civ_core n q e (eraY e) (yT e) (mT e) (dT e) hn h1 h2 h3 rfl rfl rfl
  unfold cY cM
  exact this
theorem ofOk_of (n : Nat) (y m d : Nat) (h : n ≤ 2932896) (hz : ofZ y m d = n) (h2 : 1 ≤ m) (h3 : m ≤ 12) (h4 : 1 ≤ d) (h5 : (d : Int) ≤ daysZ y m) : ofOk y m d = true := by
  have hday := of_day (y : Int) (m : Int) (d : Int)
  have hlo : (1970 : Int) ≤ y := by
    rcases Int.lt_or_le (y : Int) 1970 with hlt | hge
    · exfalso
      have h6 := of_le_y (y := (y : Int) + 1) (y' := 1970) (by omega)
      have hs := of_start
      have hdec := of_dec (y : Int)
      rcases Nat.lt_or_ge m 12 with hm12 | hm12
      · have hmn := of_month (y : Int) (m : Int) (by omega) (by omega)
        have hm2 := of_le_m (y := (y : Int)) (m := (m : Int) + 1) (m' := 12) (by omega) (by omega) (by omega)
        omega
      · have h12 : (m : Int) = 12 := by omega
        rw [h12] at hday h5 hz
        have : daysZ (y : Int) 12 = 31 := by unfold daysZ; simp
        omega
    · exact hge
  have hhi : (y : Int) ≤ 9999 := by
    rcases Int.lt_or_le 9999 (y : Int) with hlt | hge
    · exfalso
      have h6 := of_le_y (y := 10000) (y' := (y : Int)) (by omega)
      have hs := of_last
      have hm := of_le_m (y := (y : Int)) (m := 1) (m' := (m : Int)) (by omega) (by omega) (by omega)
      omega
    · exact hge
  unfold ofOk
  simp only [Bool.and_eq_true, decide_eq_true_eq]
  exact ⟨⟨⟨hlo, hhi⟩, by omega⟩, h5⟩
/-- A day's text. -/
def dayT (n : Nat) : List Nat := printD (cY ((n + 719468) / 146097) ((n + 719468) % 146097)) (cM ((n + 719468) % 146097)) (dT ((n + 719468) % 146097))
theorem dayT_of (n q e : Nat) (hq : (n + 719468) / 146097 = q) (he : (n + 719468) % 146097 = e) : dayT n = printD (cY q e) (cM e) (dT e) := by subst hq he; rfl
end Go.Proofs.Ytijaldpmpjapiaa

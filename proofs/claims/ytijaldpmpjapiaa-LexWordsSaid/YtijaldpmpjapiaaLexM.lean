/-
  debenturelaw17's told, debentureref17's Same: what each answers. Condition: the words are not too many.
-/
import Derived.Test.YtijaldpmpjapiaaLexL
import Derived.Test.YtijaldpmpjapiaaLexI
namespace Go.Proofs.Ytijaldpmpjapiaa
open Go.RowKit

theorem run_neq_RWord (a c d : Int) (s : ByteArray) (w : World) : (binOp .neq 90 (.agg #[.int .i64 a, .string s, .int .i64 c, .int .i64 d]) (.agg #[.int .i64 a, .string s, .int .i64 c, .int .i64 d])).run Try.prog w = .ok (.bool false) w := by
  have hu := Try.underlying90
  go_simp
theorem eqg_neq_RWord (p q : Operand) (a c d : Int) (s : ByteArray) (w : World) : (eqGuard .neq 90 p q (.agg #[.int .i64 a, .string s, .int .i64 c, .int .i64 d]) (.agg #[.int .i64 a, .string s, .int .i64 c, .int .i64 d])).run Try.prog w = .ok () w := by
  have hu := Try.underlying90
  go_simp
/-- A word's four cells. -/
theorem wd_cells {cur : Array Value} {ws : List Wd} {i : Nat} {x : Wd} (hx : ws[i]? = some x) (hcur : ∀ (j : Nat) (y : Value), (wdCells ws)[j]? = some y → cur[j]? = some y) :
    ∀ j v, [Value.int .i64 x.kind, .string (strOf x.text), .int .i64 x.n, .int .i64 (x.pos : Int)][j]? = some v → cur[4 * i + j]? = some v := by
  obtain ⟨h0, h1, h2, h3⟩ := wdCells_at hx
  intro j v hj
  rcases j with _ | _ | _ | _ | j
  · injection hj with hj; subst hj; exact hcur _ _ h0
  · injection hj with hj; subst hj; exact hcur _ _ h1
  · injection hj with hj; subst hj; exact hcur _ _ h2
  · injection hj with hj; subst hj; exact hcur _ _ h3
  · cases hj
theorem own_at {w : World} {B n cap : Nat} {A : Option Addr} {e : TypeId} {xs : List Value} (h : Own w B e 4 (.slice A n cap) n xs) : 0 < n → ∃ g cur, A = some ⟨g, 0, none⟩ ∧ Blk w g e cur ∧ ∀ (j : Nat) (y : Value), xs[j]? = some y → cur[j]? = some y := fun h0 => by
  obtain ⟨g, cap', cur, hv, -, kg, hcur⟩ := h.form h0
  injection hv with hv1 _ _
  exact ⟨g, cur, hv1, kg, hcur⟩
theorem told_any (B : Nat) (v : Value) (ws : List Wd) (w : World) (ho : Own w B 50 4 v ws.length (wdCells ws)) (hn : ws.length ≤ 4000) :
    Calls Try.prog 23 #[v] w fun e w' => Grow w w' ∧ ∃ u, e = .returned u ∧ Own w' w.heap.size 90 4 u ws.length (wdCells ws) := by
  have bel := Below.refl w.heap.size w
  obtain ⟨A, cap, rfl, -⟩ := ho.reads
  have hat := own_at ho
  refine Calls.start 19 Try.func23 rfl rfl rfl ?_
  refine Cd.seq ?_
  refine Cd.region ?_
  refine Seq.val (Runs.assign rfl rfl) rfl rfl rfl ?_
  refine Seq.nil ?_
  refine Post.weak (F' := [(0, _), (2, _)]) ⟨rfl, rfl, trivial⟩ ?_
  refine Post.then_ ?_
  refine Cd.seq ?_
  refine Cd.region ?_
  refine Seq.val (Runs.assign rfl rfl) rfl rfl rfl ?_
  refine Seq.nil ?_
  refine Post.weak (F' := [(0, _), (2, _), (3, _)]) ⟨rfl, rfl, rfl, trivial⟩ ?_
  refine Post.then_ ?_
  refine Cd.seq ?_
  refine Cd.seq ?_
  refine Cd.region ?_
  refine Seq.val (Runs.assign rfl rfl) rfl rfl rfl ?_
  refine Seq.nil ?_
  refine Post.weak (F' := [(0, _), (2, _), (3, _), (4, _)]) ⟨rfl, rfl, rfl, rfl, trivial⟩ ?_
  refine Post.then_ ?_
  refine Cd.block ?_
  have own : Own w w.heap.size 90 4 (.slice none 0 0) 0 [] := Own.nil _ _ _ _
  refine Cd.loop (σ := Nat × Value) (fun s => [(0, .slice A ws.length cap), (3, s.2), (4, .int .i64 (s.1 : Int))])
    (fun s wr => s.1 ≤ ws.length ∧ Below w.heap.size w wr ∧ Own wr w.heap.size 90 4 s.2 s.1 (wdCells (ws.take s.1))) (fun s => ws.length - s.1) (0, .slice none 0 0)
    ⟨Nat.zero_le _, bel, own⟩ ⟨rfl, rfl, rfl, trivial⟩ ?_
  clear own
  clear bel
  rintro ⟨i, u⟩ wr ⟨hi, bel, own⟩
  dsimp only at hi own ⊢
  refine Cd.seq ?_
  refine Cd.seq ?_
  refine Cd.region ?_
  refine Seq.val (Runs.move rfl rfl) rfl rfl rfl ?_
  refine Seq.val (Runs.move rfl rfl) rfl rfl rfl ?_
  refine Seq.val (Runs.len rfl rfl Try.underlying40) rfl rfl rfl ?_
  refine Seq.val (Runs.lss rfl rfl rfl) rfl rfl rfl ?_
  refine Seq.nil ?_
  refine Post.weak (F' := [(0, _), (3, _), (4, _), (8, _)]) ⟨rfl, rfl, rfl, rfl, trivial⟩ ?_
  refine Post.then_ ?_
  refine Cd.condD rfl (fun hc => ?_) (fun hc => ?_)
  · obtain ⟨x, hx⟩ : ∃ x, ws[i]? = some x := ⟨_, List.getElem?_eq_getElem (show i < ws.length by omega)⟩
    obtain ⟨g, cur, rfl, kg0, hcur⟩ := hat (by omega)
    have kg := kg0.step bel
    have htk : ws.take (i + 1) = ws.take i ++ [x] := by rw [List.take_add_one, hx]; rfl
    refine Cd.skip ?_
    refine Post.then_ ?_
    refine Cd.seq ?_
    refine Cd.block ?_
    refine Cd.region ?_
    refine Seq.val (Runs.move rfl rfl) rfl rfl rfl ?_
    refine Seq.val (Runs.move rfl rfl) rfl rfl rfl ?_
    refine Seq.val (Runs.move rfl rfl) rfl rfl rfl ?_
    refine Seq.val (Runs.indexBN rfl rfl rfl Try.underlying40 (s := 4) (by kernel_rfl) (j := i) rfl (by omega)) rfl rfl rfl ?_
    refine Seq.val (Runs.loadP rfl rfl Try.underlying50 rfl kg (m := 4) (by kernel_rfl) (ps := [.int .i64 x.kind, .string (strOf x.text), .int .i64 x.n, .int .i64 (x.pos : Int)]) rfl (wd_cells hx hcur)) rfl rfl rfl ?_
    refine Seq.slice (vs := [_]) (s := 4) rfl rfl rfl Try.underlying43 (by kernel_rfl) (zero_debentureref17_Word) (by omega) (by omega) ⟨rfl, trivial⟩ rfl rfl rfl ?_
    intro g16 w1 n16
    have e16 := Nat.le_trans bel.size n16.ge
    replace bel := bel.step n16.below
    replace own := own.step n16.below
    have k16 := n16.blk
    refine Seq.append rfl rfl rfl Try.underlying43 (by kernel_rfl) zero_debentureref17_Word rfl (by decide) (b := 40) (by kernel_rfl) own (Reads.blk (size := 4) k16 1 rfl) (by intro x hx; simp [flatC, Value.cells] at hx; rcases hx with rfl | rfl | rfl | rfl <;> rfl) bel.size (by simp only [maxLen]; omega) (by omega) rfl rfl rfl ?_
    clear own
    intro vw2 w2 own haw2
    replace bel := bel.trans haw2.below
    replace own : Own w2 w.heap.size 90 4 vw2 (i + 1) (wdCells (ws.take (i + 1))) := by rw [htk, wdCells_snoc]; exact own
    refine Seq.val (Runs.assign rfl rfl) rfl rfl rfl ?_
    refine Seq.nil ?_
    refine Post.weak (F' := [(0, _), (3, _), (4, _), (8, _)]) ⟨rfl, rfl, rfl, rfl, trivial⟩ ?_
    refine Post.block_normal ?_
    refine Post.then_ ?_
    refine Cd.region ?_
    refine Seq.val (Runs.move rfl rfl) rfl rfl rfl ?_
    refine Seq.val (Runs.addI rfl rfl rfl (by omega) (by omega)) rfl rfl rfl ?_
    refine Seq.val (Runs.assign rfl rfl) rfl rfl rfl ?_
    refine Seq.nil ?_
    refine Post.weak (F' := [(0, _), (3, _), (4, _), (8, _)]) ⟨rfl, rfl, rfl, rfl, trivial⟩ ?_
    exact Post.round (i + 1, vw2) ⟨rfl, rfl, rfl, trivial⟩ ⟨by dsimp only; omega, bel, own⟩ (by dsimp only; omega)
  · obtain rfl : i = ws.length := by omega
    rw [List.take_of_length_le (Nat.le_refl _)] at own
    refine Cd.exit ?_
    refine Post.then_exit ?_
    refine Post.round_exit ?_
    refine Post.block_exit ?_
    refine Post.then_ ?_
    refine Cd.seq ?_
    refine Cd.region ?_
    refine Seq.val (Runs.move rfl rfl) rfl rfl rfl ?_
    refine Seq.val (Runs.assign rfl rfl) rfl rfl rfl ?_
    refine Seq.nil ?_
    refine Post.weak (F' := [(0, _), (2, _), (3, _), (4, _), (8, _)]) ⟨rfl, rfl, rfl, rfl, rfl, trivial⟩ ?_
    refine Post.then_ ?_
    refine Cd.ret ?_
    refine Post.end1 rfl rfl (.inl rfl) ?_
    exact ⟨bel, _, rfl, own⟩
theorem same_any (B B' : Nat) (v u : Value) (ws : List Wd) (w : World) (ho : Own w B 90 4 v ws.length (wdCells ws)) (ho' : Own w B' 90 4 u ws.length (wdCells ws)) (hn : ws.length ≤ 4000) :
    Calls Try.prog 22 #[v, u] w fun e w' => e = .returned (.bool true) ∧ Grow w w' := by
  have bel := Below.refl w.heap.size w
  obtain ⟨A, cap, rfl, -⟩ := ho.reads
  obtain ⟨A', cap', rfl, -⟩ := ho'.reads
  have hat := own_at ho
  have hat' := own_at ho'
  refine Calls.start 26 Try.func22 rfl rfl rfl ?_
  refine Cd.seq ?_
  refine Cd.region ?_
  refine Seq.val (Runs.assign rfl rfl) rfl rfl rfl ?_
  refine Seq.nil ?_
  refine Post.weak (F' := [(0, _), (1, _), (4, _)]) ⟨rfl, rfl, rfl, trivial⟩ ?_
  refine Post.then_ ?_
  refine Cd.seq ?_
  refine Cd.seq ?_
  refine Cd.region ?_
  refine Seq.val (Runs.move rfl rfl) rfl rfl rfl ?_
  refine Seq.val (Runs.len rfl rfl Try.underlying43) rfl rfl rfl ?_
  refine Seq.val (Runs.move rfl rfl) rfl rfl rfl ?_
  refine Seq.val (Runs.len rfl rfl Try.underlying43) rfl rfl rfl ?_
  refine Seq.val (Runs.neqI rfl rfl rfl) rfl rfl rfl ?_
  refine Seq.nil ?_
  refine Post.weak (F' := [(0, _), (1, _), (4, _), (10, _)]) ⟨rfl, rfl, rfl, rfl, trivial⟩ ?_
  refine Post.then_ ?_
  refine Cd.condF rfl (by simp) ?_
  refine Cd.skip ?_
  refine Post.then_ ?_
  refine Cd.seq ?_
  refine Cd.seq ?_
  refine Cd.region ?_
  refine Seq.val (Runs.assign rfl rfl) rfl rfl rfl ?_
  refine Seq.nil ?_
  refine Post.weak (F' := [(0, _), (1, _), (4, _), (5, _), (10, _)]) ⟨rfl, rfl, rfl, rfl, rfl, trivial⟩ ?_
  refine Post.then_ ?_
  refine Cd.block ?_
  refine Cd.loop (σ := Nat) (fun i => [(0, .slice A ws.length cap), (1, .slice A' ws.length cap'), (5, .int .i64 (i : Int))])
    (fun i wr => i ≤ ws.length ∧ Below w.heap.size w wr) (fun i => ws.length - i) 0 ⟨Nat.zero_le _, bel⟩ ⟨rfl, rfl, rfl, trivial⟩ ?_
  clear bel
  rintro i wr ⟨hi, bel⟩
  refine Cd.seq ?_
  refine Cd.seq ?_
  refine Cd.region ?_
  refine Seq.val (Runs.move rfl rfl) rfl rfl rfl ?_
  refine Seq.val (Runs.move rfl rfl) rfl rfl rfl ?_
  refine Seq.val (Runs.len rfl rfl Try.underlying43) rfl rfl rfl ?_
  refine Seq.val (Runs.lss rfl rfl rfl) rfl rfl rfl ?_
  refine Seq.nil ?_
  refine Post.weak (F' := [(0, _), (1, _), (5, _), (14, _)]) ⟨rfl, rfl, rfl, rfl, trivial⟩ ?_
  refine Post.then_ ?_
  refine Cd.condD rfl (fun hc => ?_) (fun hc => ?_)
  · obtain ⟨x, hx⟩ : ∃ x, ws[i]? = some x := ⟨_, List.getElem?_eq_getElem (show i < ws.length by omega)⟩
    obtain ⟨g, cur, rfl, kg0, hcur⟩ := hat (by omega)
    obtain ⟨g', cur', rfl, kg0', hcur'⟩ := hat' (by omega)
    have kg := kg0.step bel
    have kg' := kg0'.step bel
    refine Cd.skip ?_
    refine Post.then_ ?_
    refine Cd.seq ?_
    refine Cd.block ?_
    refine Cd.seq ?_
    refine Cd.draw 9 (by kernel_rfl) [] (.inl rfl) rfl Grow Grow.refl (fun _ _ _ => Grow.trans) ?_
    intro w1 hw1 zw1
    replace bel := bel.step hw1
    replace kg := kg.step hw1
    replace kg' := kg'.step hw1
    have zbel := bel.size
    refine Dr.val Grow.refl rfl (fun w hG => Runs.move rfl rfl) rfl ?_
    refine Dr.val Grow.refl rfl (fun w hG => Runs.move rfl rfl) rfl ?_
    refine Dr.val Grow.refl rfl (fun w hG => Runs.indexBN rfl rfl rfl Try.underlying43 (s := 4) (by kernel_rfl) (j := i) rfl (by omega)) rfl ?_
    refine Dr.val Grow.refl rfl (fun w hG => Runs.loadP rfl rfl Try.underlying90 rfl (kg.step hG) (m := 4) (by kernel_rfl) (ps := [.int .i64 x.kind, .string (strOf x.text), .int .i64 x.n, .int .i64 (x.pos : Int)]) rfl (wd_cells hx hcur)) rfl ?_
    refine Dr.val Grow.refl rfl (fun w hG => Runs.move rfl rfl) rfl ?_
    refine Dr.val Grow.refl rfl (fun w hG => Runs.move rfl rfl) rfl ?_
    refine Dr.val Grow.refl rfl (fun w hG => Runs.indexBN rfl rfl rfl Try.underlying43 (s := 4) (by kernel_rfl) (j := i) rfl (by omega)) rfl ?_
    refine Dr.val Grow.refl rfl (fun w hG => Runs.loadP rfl rfl Try.underlying90 rfl (kg'.step hG) (m := 4) (by kernel_rfl) (ps := [.int .i64 x.kind, .string (strOf x.text), .int .i64 x.n, .int .i64 (x.pos : Int)]) rfl (wd_cells hx hcur')) rfl ?_
    refine Dr.val Grow.refl rfl (fun w hG => Runs.bin rfl rfl rfl (eqg_neq_RWord _ _ _ _ _ _ _) (run_neq_RWord _ _ _ _ _)) rfl ?_
    refine Dr.nil ?_
    refine FinX.done (F' := [(0, _), (1, _), (5, _), (14, _), (25, _)]) rfl ⟨rfl, rfl, rfl, rfl, rfl, trivial⟩ ?_
    intro w2 hw2 fw2
    replace bel := bel.step hw2
    replace kg := kg.step hw2
    replace kg' := kg'.step hw2
    refine Seq.nil ?_
    refine Post.weak (F' := [(0, _), (1, _), (5, _), (14, _), (25, _)]) ⟨rfl, rfl, rfl, rfl, rfl, trivial⟩ ?_
    refine Post.then_ ?_
    refine Cd.condF rfl rfl ?_
    refine Cd.skip ?_
    refine Post.block_normal ?_
    refine Post.then_ ?_
    refine Cd.region ?_
    refine Seq.val (Runs.move rfl rfl) rfl rfl rfl ?_
    refine Seq.val (Runs.addI rfl rfl rfl (by omega) (by omega)) rfl rfl rfl ?_
    refine Seq.val (Runs.assign rfl rfl) rfl rfl rfl ?_
    refine Seq.nil ?_
    refine Post.weak (F' := [(0, _), (1, _), (5, _), (14, _), (25, _)]) ⟨rfl, rfl, rfl, rfl, rfl, trivial⟩ ?_
    exact Post.round (i + 1) ⟨rfl, rfl, rfl, trivial⟩ ⟨by omega, bel⟩ (by omega)
  · skip
    refine Cd.exit ?_
    refine Post.then_exit ?_
    refine Post.round_exit ?_
    refine Post.block_exit ?_
    refine Post.then_ ?_
    refine Cd.seq ?_
    refine Cd.region ?_
    refine Seq.val (Runs.assign rfl rfl) rfl rfl rfl ?_
    refine Seq.nil ?_
    refine Post.weak (F' := [(0, _), (1, _), (4, _), (5, _), (14, _)]) ⟨rfl, rfl, rfl, rfl, rfl, trivial⟩ ?_
    refine Post.then_ ?_
    refine Cd.ret ?_
    refine Post.end1 rfl rfl (.inl rfl) ?_
    exact ⟨rfl, bel⟩
end Go.Proofs.Ytijaldpmpjapiaa

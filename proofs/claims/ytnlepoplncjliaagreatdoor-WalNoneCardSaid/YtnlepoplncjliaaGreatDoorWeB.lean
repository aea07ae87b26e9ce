/-
  The law WalNone. Condition: the tables stand as they are laid.
-/
import Derived.Test.YtnlepoplncjliaaGreatDoorWdD
namespace Go.Proofs.YtnlepoplncjliaaGreatDoor
open Go.RowKit

theorem open_nil_any (nm : List Nat) (w : World) : Calls Tryz.prog 13 #[.pointer none, .string (strOf nm)] w fun e w' => e = .returned (.tuple #[.pointer none, .slice none 0 0, .int .i64 1]) ∧ Grow w w' := by
  have bel := Below.refl w.heap.size w
  refine Calls.start 68 Tryz.func13 rfl rfl rfl ?_
  refine Cd.seq ?_
  refine Cd.region ?_
  refine Seq.val (Runs.assign rfl rfl) rfl rfl rfl ?_
  refine Seq.val (Runs.assign rfl rfl) rfl rfl rfl ?_
  refine Seq.val (Runs.assign rfl rfl) rfl rfl rfl ?_
  refine Seq.nil ?_
  refine Post.weak (F' := [(0, _), (1, _), (4, _), (5, _), (6, _)]) ⟨rfl, rfl, rfl, rfl, rfl, trivial⟩ ?_
  refine Post.then_ ?_
  refine Cd.seq ?_
  refine Cd.block ?_
  refine Cd.seq ?_
  refine Cd.region ?_
  refine Seq.val (Runs.move rfl rfl) rfl rfl rfl ?_
  refine Seq.val (Runs.eqlP rfl rfl rfl Tryz.underlying26) rfl rfl rfl ?_
  refine Seq.val (Runs.move rfl rfl) rfl rfl rfl ?_
  refine Seq.skipG rfl rfl rfl rfl rfl rfl ?_
  refine Seq.skipG rfl rfl rfl rfl rfl rfl ?_
  refine Seq.skipG rfl rfl rfl rfl rfl rfl ?_
  refine Seq.val (Runs.pickT rfl rfl rfl) rfl rfl rfl ?_
  refine Seq.val (Runs.assign rfl rfl) rfl rfl rfl ?_
  refine Seq.nil ?_
  refine Post.weak (F' := [(0, _), (1, _), (4, _), (5, _), (6, _), (15, _)]) ⟨rfl, rfl, rfl, rfl, rfl, rfl, trivial⟩ ?_
  refine Post.then_ ?_
  refine Cd.condT rfl rfl ?_
  refine Cd.seq ?_
  refine Cd.region ?_
  refine Seq.val (Runs.assign rfl rfl) rfl rfl rfl ?_
  refine Seq.val (Runs.assign rfl rfl) rfl rfl rfl ?_
  refine Seq.val (Runs.assign rfl rfl) rfl rfl rfl ?_
  refine Seq.nil ?_
  refine Post.weak (F' := [(0, _), (1, _), (4, _), (5, _), (6, _), (15, _)]) ⟨rfl, rfl, rfl, rfl, rfl, rfl, trivial⟩ ?_
  refine Post.then_ ?_
  refine Cd.ret ?_
  refine Post.block_ret ?_
  refine Post.then_ret ?_
  refine Post.end3 rfl rfl rfl rfl (.inl rfl) ?_
  exact ⟨rfl, bel⟩
theorem open_bad_any (gd : Nat) (nm : List Nat) (w : World) (hr : rightN nm = false) (hnm : Byt nm) (hl : nm.length ≤ 100000000) : Calls Tryz.prog 13 #[.pointer (some ⟨gd, 0, none⟩), .string (strOf nm)] w fun e w' => e = .returned (.tuple #[.pointer none, .slice none 0 0, .int .i64 1]) ∧ Grow w w' := by
  have bel := Below.refl w.heap.size w
  refine Calls.start 68 Tryz.func13 rfl rfl rfl ?_
  refine Cd.seq ?_
  refine Cd.region ?_
  refine Seq.val (Runs.assign rfl rfl) rfl rfl rfl ?_
  refine Seq.val (Runs.assign rfl rfl) rfl rfl rfl ?_
  refine Seq.val (Runs.assign rfl rfl) rfl rfl rfl ?_
  refine Seq.nil ?_
  refine Post.weak (F' := [(0, _), (1, _), (4, _), (5, _), (6, _)]) ⟨rfl, rfl, rfl, rfl, rfl, trivial⟩ ?_
  refine Post.then_ ?_
  refine Cd.seq ?_
  refine Cd.block ?_
  refine Cd.seq ?_
  refine Cd.region ?_
  refine Seq.val (Runs.move rfl rfl) rfl rfl rfl ?_
  refine Seq.val (Runs.eqlP rfl rfl rfl Tryz.underlying26) rfl rfl rfl ?_
  refine Seq.val (Runs.move rfl rfl) rfl rfl rfl ?_
  refine SeqC.start ?_
  refine SeqC.open rfl rfl rfl rfl rfl rfl rfl (fun hcx => Runs.move rfl rfl) ?_
  refine SeqC.nextC rfl rfl rfl rfl rfl rfl rfl (fun hcx => Enters.func rfl rfl rfl (run_enter Tryz.func35 (by kernel_rfl) rfl)) (fun hcx => right_w_any nm _ hnm hl) ?_
  intro w1 hw1
  replace bel := bel.step hw1
  rw [hr]
  refine SeqC.next rfl rfl rfl rfl rfl rfl rfl (fun hcx => Runs.not rfl rfl) ?_
  refine SeqC.or rfl rfl rfl rfl rfl rfl rfl ?_
  refine Seq.val (Runs.assign rfl rfl) rfl rfl rfl ?_
  refine Seq.nil ?_
  refine Post.weak (F' := [(0, _), (1, _), (4, _), (5, _), (6, _), (15, _)]) ⟨rfl, rfl, rfl, rfl, rfl, rfl, trivial⟩ ?_
  refine Post.then_ ?_
  refine Cd.condT rfl rfl ?_
  refine Cd.seq ?_
  refine Cd.region ?_
  refine Seq.val (Runs.assign rfl rfl) rfl rfl rfl ?_
  refine Seq.val (Runs.assign rfl rfl) rfl rfl rfl ?_
  refine Seq.val (Runs.assign rfl rfl) rfl rfl rfl ?_
  refine Seq.nil ?_
  refine Post.weak (F' := [(0, _), (1, _), (4, _), (5, _), (6, _), (15, _)]) ⟨rfl, rfl, rfl, rfl, rfl, rfl, trivial⟩ ?_
  refine Post.then_ ?_
  refine Cd.ret ?_
  refine Post.block_ret ?_
  refine Post.then_ret ?_
  refine Post.end3 rfl rfl rfl rfl (.inl rfl) ?_
  exact ⟨rfl, bel⟩
theorem open_off_any (B gd : Nat) (D : Dk) (nm : List Nat) (w : World) (dk : DkAt w B gd D) (hoff : D.off = true) (hr : rightN nm = true) (hnm : Byt nm) (hl : nm.length ≤ 100000000) : Calls Tryz.prog 13 #[.pointer (some ⟨gd, 0, none⟩), .string (strOf nm)] w fun e w' => e = .returned (.tuple #[.pointer none, .slice none 0 0, .int .i64 6]) ∧ Grow w w' := by
  have bel := Below.refl w.heap.size w
  refine Calls.start 68 Tryz.func13 rfl rfl rfl ?_
  refine Cd.seq ?_
  refine Cd.region ?_
  refine Seq.val (Runs.assign rfl rfl) rfl rfl rfl ?_
  refine Seq.val (Runs.assign rfl rfl) rfl rfl rfl ?_
  refine Seq.val (Runs.assign rfl rfl) rfl rfl rfl ?_
  refine Seq.nil ?_
  refine Post.weak (F' := [(0, _), (1, _), (4, _), (5, _), (6, _)]) ⟨rfl, rfl, rfl, rfl, rfl, trivial⟩ ?_
  refine Post.then_ ?_
  refine Cd.seq ?_
  refine Cd.block ?_
  refine Cd.seq ?_
  refine Cd.region ?_
  refine Seq.val (Runs.move rfl rfl) rfl rfl rfl ?_
  refine Seq.val (Runs.eqlP rfl rfl rfl Tryz.underlying26) rfl rfl rfl ?_
  refine Seq.val (Runs.move rfl rfl) rfl rfl rfl ?_
  refine SeqC.start ?_
  refine SeqC.open rfl rfl rfl rfl rfl rfl rfl (fun hcx => Runs.move rfl rfl) ?_
  refine SeqC.nextC rfl rfl rfl rfl rfl rfl rfl (fun hcx => Enters.func rfl rfl rfl (run_enter Tryz.func35 (by kernel_rfl) rfl)) (fun hcx => right_w_any nm _ hnm hl) ?_
  intro w1 hw1
  replace bel := bel.step hw1
  replace dk := dk.step hw1
  rw [hr]
  refine SeqC.next rfl rfl rfl rfl rfl rfl rfl (fun hcx => Runs.not rfl rfl) ?_
  refine SeqC.or rfl rfl rfl rfl rfl rfl rfl ?_
  refine Seq.val (Runs.assign rfl rfl) rfl rfl rfl ?_
  refine Seq.nil ?_
  refine Post.weak (F' := [(0, _), (1, _), (4, _), (5, _), (6, _), (15, _)]) ⟨rfl, rfl, rfl, rfl, rfl, rfl, trivial⟩ ?_
  refine Post.then_ ?_
  refine Cd.condF rfl rfl ?_
  refine Cd.seq ?_
  refine Cd.region ?_
  refine Seq.val (Runs.move rfl rfl) rfl rfl rfl ?_
  refine Seq.call (Enters.func rfl rfl rfl (run_enter Tryz.func36 (by kernel_rfl) rfl)) rfl rfl rfl (on_any B gd D _ dk) ?_
  rw [hoff]
  rintro e w5 ⟨rfl, hb5⟩
  refine ⟨_, rfl, ?_⟩
  replace bel := bel.step hb5
  replace dk := dk.step hb5
  refine Seq.val (Runs.not rfl rfl) rfl rfl rfl ?_
  refine Seq.val (Runs.assign rfl rfl) rfl rfl rfl ?_
  refine Seq.nil ?_
  refine Post.weak (F' := [(0, _), (1, _), (4, _), (5, _), (6, _), (15, _), (23, _)]) ⟨rfl, rfl, rfl, rfl, rfl, rfl, rfl, trivial⟩ ?_
  refine Post.then_ ?_
  refine Cd.condT rfl rfl ?_
  refine Cd.seq ?_
  refine Cd.region ?_
  refine Seq.val (Runs.assign rfl rfl) rfl rfl rfl ?_
  refine Seq.val (Runs.assign rfl rfl) rfl rfl rfl ?_
  refine Seq.val (Runs.assign rfl rfl) rfl rfl rfl ?_
  refine Seq.nil ?_
  refine Post.weak (F' := [(0, _), (1, _), (4, _), (5, _), (6, _), (15, _), (23, _)]) ⟨rfl, rfl, rfl, rfl, rfl, rfl, rfl, trivial⟩ ?_
  refine Post.then_ ?_
  refine Cd.ret ?_
  refine Post.block_ret ?_
  refine Post.then_ret ?_
  refine Post.end3 rfl rfl rfl rfl (.inl rfl) ?_
  exact ⟨rfl, bel⟩
theorem append_nil_any (s : List Nat) (w : World) : Calls Tryz.prog 15 #[.pointer none, .string (strOf s)] w fun e w' => e = .returned (.int .i64 1) ∧ Grow w w' := by
  have bel := Below.refl w.heap.size w
  refine Calls.start 62 Tryz.func15 rfl rfl rfl ?_
  refine Cd.seq ?_
  refine Cd.region ?_
  refine Seq.val (Runs.assign rfl rfl) rfl rfl rfl ?_
  refine Seq.nil ?_
  refine Post.weak (F' := [(0, _), (1, _), (4, _)]) ⟨rfl, rfl, rfl, trivial⟩ ?_
  refine Post.then_ ?_
  refine Cd.seq ?_
  refine Cd.seq ?_
  refine Cd.region ?_
  refine Seq.val (Runs.move rfl rfl) rfl rfl rfl ?_
  refine Seq.val (Runs.eqlP rfl rfl rfl Tryz.underlying28) rfl rfl rfl ?_
  refine Seq.nil ?_
  refine Post.weak (F' := [(0, _), (1, _), (4, _), (9, _)]) ⟨rfl, rfl, rfl, rfl, trivial⟩ ?_
  refine Post.then_ ?_
  refine Cd.condT rfl rfl ?_
  refine Cd.seq ?_
  refine Cd.region ?_
  refine Seq.val (Runs.assign rfl rfl) rfl rfl rfl ?_
  refine Seq.nil ?_
  refine Post.weak (F' := [(0, _), (1, _), (4, _), (9, _)]) ⟨rfl, rfl, rfl, rfl, trivial⟩ ?_
  refine Post.then_ ?_
  refine Cd.ret ?_
  refine Post.then_ret ?_
  refine Post.end1 rfl rfl (.inl rfl) ?_
  exact ⟨rfl, bel⟩
theorem retire_nil_any (n : Int) (w : World) : Calls Tryz.prog 28 #[.pointer none, .int .i64 n] w fun e w' => e = .returned (.int .i64 1) ∧ Grow w w' := by
  have bel := Below.refl w.heap.size w
  refine Calls.start 53 Tryz.func28 rfl rfl rfl ?_
  refine Cd.seq ?_
  refine Cd.region ?_
  refine Seq.val (Runs.assign rfl rfl) rfl rfl rfl ?_
  refine Seq.nil ?_
  refine Post.weak (F' := [(0, _), (1, _), (4, _)]) ⟨rfl, rfl, rfl, trivial⟩ ?_
  refine Post.then_ ?_
  refine Cd.seq ?_
  refine Cd.block ?_
  refine Cd.seq ?_
  refine Cd.region ?_
  refine Seq.val (Runs.move rfl rfl) rfl rfl rfl ?_
  refine Seq.val (Runs.eqlP rfl rfl rfl Tryz.underlying28) rfl rfl rfl ?_
  refine Seq.val (Runs.assign rfl rfl) rfl rfl rfl ?_
  refine Seq.nil ?_
  refine Post.weak (F' := [(0, _), (1, _), (4, _), (10, _)]) ⟨rfl, rfl, rfl, rfl, trivial⟩ ?_
  refine Post.then_ ?_
  refine Cd.condT rfl rfl ?_
  refine Cd.seq ?_
  refine Cd.region ?_
  refine Seq.val (Runs.assign rfl rfl) rfl rfl rfl ?_
  refine Seq.nil ?_
  refine Post.weak (F' := [(0, _), (1, _), (4, _), (10, _)]) ⟨rfl, rfl, rfl, rfl, trivial⟩ ?_
  refine Post.then_ ?_
  refine Cd.ret ?_
  refine Post.block_ret ?_
  refine Post.then_ret ?_
  refine Post.end1 rfl rfl (.inl rfl) ?_
  exact ⟨rfl, bel⟩
theorem rotate_nil_any (w : World) : Calls Tryz.prog 29 #[.pointer none] w fun e w' => e = .returned (.int .i64 (-1)) ∧ Grow w w' := by
  have bel := Below.refl w.heap.size w
  refine Calls.start 28 Tryz.func29 rfl rfl rfl ?_
  refine Cd.seq ?_
  refine Cd.region ?_
  refine Seq.val (Runs.assign rfl rfl) rfl rfl rfl ?_
  refine Seq.nil ?_
  refine Post.weak (F' := [(0, _), (2, _)]) ⟨rfl, rfl, trivial⟩ ?_
  refine Post.then_ ?_
  refine Cd.seq ?_
  refine Cd.seq ?_
  refine Cd.region ?_
  refine Seq.val (Runs.move rfl rfl) rfl rfl rfl ?_
  refine Seq.val (Runs.eqlP rfl rfl rfl Tryz.underlying28) rfl rfl rfl ?_
  refine Seq.nil ?_
  refine Post.weak (F' := [(0, _), (2, _), (4, _)]) ⟨rfl, rfl, rfl, trivial⟩ ?_
  refine Post.then_ ?_
  refine Cd.condT rfl rfl ?_
  refine Cd.seq ?_
  refine Cd.region ?_
  refine Seq.val (Runs.assign rfl rfl) rfl rfl rfl ?_
  refine Seq.nil ?_
  refine Post.weak (F' := [(0, _), (2, _), (4, _)]) ⟨rfl, rfl, rfl, trivial⟩ ?_
  refine Post.then_ ?_
  refine Cd.ret ?_
  refine Post.then_ret ?_
  refine Post.end1 rfl rfl (.inl rfl) ?_
  exact ⟨rfl, bel⟩
theorem number_nil_any (w : World) : Calls Tryz.prog 20 #[.pointer none] w fun e w' => e = .returned (.int .i64 (-1)) ∧ Grow w w' := by
  have bel := Below.refl w.heap.size w
  refine Calls.start 9 Tryz.func20 rfl rfl rfl ?_
  refine Cd.seq ?_
  refine Cd.region ?_
  refine Seq.val (Runs.assign rfl rfl) rfl rfl rfl ?_
  refine Seq.nil ?_
  refine Post.weak (F' := [(0, _), (2, _)]) ⟨rfl, rfl, trivial⟩ ?_
  refine Post.then_ ?_
  refine Cd.seq ?_
  refine Cd.seq ?_
  refine Cd.region ?_
  refine Seq.val (Runs.move rfl rfl) rfl rfl rfl ?_
  refine Seq.val (Runs.eqlP rfl rfl rfl Tryz.underlying28) rfl rfl rfl ?_
  refine Seq.nil ?_
  refine Post.weak (F' := [(0, _), (2, _), (4, _)]) ⟨rfl, rfl, rfl, trivial⟩ ?_
  refine Post.then_ ?_
  refine Cd.condT rfl rfl ?_
  refine Cd.seq ?_
  refine Cd.region ?_
  refine Seq.val (Runs.assign rfl rfl) rfl rfl rfl ?_
  refine Seq.nil ?_
  refine Post.weak (F' := [(0, _), (2, _), (4, _)]) ⟨rfl, rfl, rfl, trivial⟩ ?_
  refine Post.then_ ?_
  refine Cd.ret ?_
  refine Post.then_ret ?_
  refine Post.end1 rfl rfl (.inl rfl) ?_
  exact ⟨rfl, bel⟩
theorem least_nil_any (n : Int) (w : World) : Calls Tryz.prog 30 #[.pointer none, .int .i64 n] w fun e w' => e = .returned (.int .i64 (-1)) ∧ Grow w w' := by
  have bel := Below.refl w.heap.size w
  refine Calls.start 27 Tryz.func30 rfl rfl rfl ?_
  refine Cd.seq ?_
  refine Cd.region ?_
  refine Seq.val (Runs.assign rfl rfl) rfl rfl rfl ?_
  refine Seq.nil ?_
  refine Post.weak (F' := [(0, _), (1, _), (4, _)]) ⟨rfl, rfl, rfl, trivial⟩ ?_
  refine Post.then_ ?_
  refine Cd.seq ?_
  refine Cd.seq ?_
  refine Cd.region ?_
  refine Seq.val (Runs.move rfl rfl) rfl rfl rfl ?_
  refine Seq.val (Runs.neqP rfl rfl rfl Tryz.underlying28) rfl rfl rfl ?_
  refine Seq.val (Runs.move rfl rfl) rfl rfl rfl ?_
  refine Seq.skipG rfl rfl rfl rfl rfl rfl ?_
  refine Seq.skipG rfl rfl rfl rfl rfl rfl ?_
  refine Seq.skipG rfl rfl rfl rfl rfl rfl ?_
  refine Seq.skipG rfl rfl rfl rfl rfl rfl ?_
  refine Seq.skipG rfl rfl rfl rfl rfl rfl ?_
  refine Seq.skipG rfl rfl rfl rfl rfl rfl ?_
  refine Seq.val (Runs.pickF rfl rfl rfl) rfl rfl rfl ?_
  refine Seq.nil ?_
  refine Post.weak (F' := [(0, _), (1, _), (4, _), (14, _)]) ⟨rfl, rfl, rfl, rfl, trivial⟩ ?_
  refine Post.then_ ?_
  refine Cd.condF rfl rfl ?_
  refine Cd.skip ?_
  refine Post.then_ ?_
  refine Cd.seq ?_
  refine Cd.region ?_
  refine Seq.val (Runs.move rfl rfl) rfl rfl rfl ?_
  refine Seq.call (Enters.func rfl rfl rfl (run_enter Tryz.func20 (by kernel_rfl) rfl)) rfl rfl rfl (number_nil_any _) ?_
  rintro e w5 ⟨rfl, hb5⟩
  refine ⟨_, rfl, ?_⟩
  replace bel := bel.step hb5
  refine Seq.val (Runs.assign rfl rfl) rfl rfl rfl ?_
  refine Seq.nil ?_
  refine Post.weak (F' := [(0, _), (1, _), (4, _), (14, _)]) ⟨rfl, rfl, rfl, rfl, trivial⟩ ?_
  refine Post.then_ ?_
  refine Cd.ret ?_
  refine Post.end1 rfl rfl (.inl rfl) ?_
  exact ⟨rfl, bel⟩

section
variable {P : Program} {ops : Array Oper} {Q : Exit → Act → World → Prop} {rest : List Oper} {F : List (Nat × Value)} {o : Oper} {w : World} {x y : Operand} {T : TypeId} {n d : Nat}
theorem Seq.makeNG {k k' : IntKind} {c : Int} {m e b : Nat} {z : Value} {j t : Nat} {bb : Bool} (ho : o.op = .makeSlice T x y) (hx : evF F x = some (.int k c)) (hy : evF F y = some (.int k' c)) (hT : P.underlying T = some (.slice e)) (hz : zeroIs P e = some (some z)) (hsz : sizeIs P e z.cells.size = true) (hby : (P.info? e).map (·.bytes) = some b) (hc : c = (m : Int)) (hm : b * m ≤ 281474976710656) (h63 : m ≤ 9223372036854775807)
    (hg : o.guard = some (j, bb)) (ht : (ops[j]?).bind (·.dst) = some t) (hb : look F t = some (.bool bb)) (hd : o.dst = some d) (hn : Nat.blt d n = true)
    (h : ∀ g w', New w w' g e (madeCells z.cells (m * z.cells.size)) → Seq P ops Q rest n ((d, .slice (some ⟨g, 0, none⟩) m m) :: F) w') : Seq P ops Q (o :: rest) n F w :=
  Seq.valG (Runs.makeN ho hx hy hT hz hsz hby hc hm h63) hg ht hb hd hn (h _ _ (new_of w _ e))
end
theorem made_u8 (m : Nat) : madeCells (Value.int .u8 0).cells (m * (Value.int .u8 0).cells.size) = (Bt (List.replicate m 0)).toArray := by
  show madeCells #[Value.int .u8 0] (m * 1) = _
  rw [Nat.mul_one, madeCells_one]
  unfold Bt
  rw [List.map_replicate]
  rfl
theorem open_both (B gd : Nat) (D : Dk) (nm : List Nat) (w : World) (gv : Gv w) (hgB : 4 < B) (dk : DkAt w B gd D) (hL : LogIs D nm []) (hnm : Byt nm) (hl : nm.length ≤ 1000) :
    Calls Tryz.prog 13 #[.pointer (some ⟨gd, 0, none⟩), .string (strOf nm)] w fun e w' => ∃ bo eo v, e = .returned (.tuple #[.pointer bo, v, .int .i64 eo]) ∧ (rightN nm = true → eo = 0 ∧ ∃ g, bo = some ⟨g, 0, none⟩ ∧ w.heap.size ≤ g ∧ Blk w' g 80 (Wl.cs ⟨0, 0, 0, false⟩ gd nm)) ∧ (rightN nm = false → eo = 1 ∧ bo = none) ∧ DkAt w' B gd D ∧ Df B w w' := by
  cases hR : rightN nm with
  | true =>
    have hO := hL.opens
    refine (open_any B gd D nm w gv hgB dk hL.calm.off hR hnm hL.own_nm).mono ?_
    rw [hO]
    rintro e w' ⟨v1, v2, rfl, hOR, dk', df⟩
    rcases hOR with ⟨h, -, -⟩ | ⟨-, g, rfl, hg, k, -⟩
    · exact absurd rfl h
    · exact ⟨some ⟨g, 0, none⟩, 0, v2, rfl, fun _ => ⟨rfl, g, rfl, hg, k⟩, (fun h => by cases h), dk', df⟩
  | false =>
    refine (open_bad_any gd nm w hR hnm (by omega)).mono ?_
    rintro e w' ⟨rfl, hg⟩
    exact ⟨none, 1, .slice none 0 0, rfl, (fun h => by cases h), fun _ => ⟨rfl, rfl⟩, dk.step hg, Df.grow hg⟩
def lowB (c : Nat) : Bool := decide (97 ≤ c) && decide (c ≤ 122)
def rightJ (s : List Nat) (j : Nat) : Bool := (decide ((1 : Int) ≤ (s.length : Int)) && decide ((s.length : Int) ≤ 8)) && (s.take j).all lowB
theorem rightJ_all (s : List Nat) : rightJ s s.length = rightN s := by
  unfold rightJ rightN
  rw [List.take_length, Bool.and_comm]
  have e1 : decide ((1 : Int) ≤ (s.length : Int)) = decide (s ≠ []) := by
    cases s with
    | nil => rfl
    | cons c r =>
      rw [decide_eq_true (by simp only [List.length_cons]; omega), decide_eq_true (by simp)]
  have e2 : decide ((s.length : Int) ≤ 8) = decide (s.length ≤ 8) := decide_eq_decide.2 (by omega)
  rw [e1, e2]
  rfl
theorem armed_off (D : Dk) (nm : List Nat) (hoff : D.off = false) : (({ D with armed := true, left := 0 } : Dk).sync nm).off = true := by
  rw [sync_off]
  unfold Dk.tick
  rw [if_neg (by simp [hoff]), if_pos rfl, if_pos rfl]
set_option maxHeartbeats 4000000 in
theorem walk_none (s : List Nat) (long : Bool) (w : World) (gv : Gv w) (hs : Byt s) (hl : s.length ≤ 9223372036854775807) :
    Calls Tryz.prog 6 #[.string (strOf s), .bool long] w fun e w' => e = .returned (.bool true) ∧ Grow w w' := by
  have lf := Lf.refl w.heap.size w
  have hgw := tab_lt gv.pow
  refine Calls.start 146 Tryz.func6 rfl rfl rfl ?_
  refine Cd.seq ?_
  refine Cd.region ?_
  refine Seq.val (Runs.assign rfl rfl) rfl rfl rfl ?_
  refine Seq.nil ?_
  refine Post.weak (F' := [(0, _), (1, _), (4, _)]) ⟨rfl, rfl, rfl, trivial⟩ ?_
  refine Post.then_ ?_
  refine Cd.seq ?_
  refine Cd.seq ?_
  refine Cd.region ?_
  refine Seq.val (Runs.move rfl rfl) rfl rfl rfl ?_
  refine Seq.val (Runs.lenL rfl rfl Tryz.underlying9) rfl rfl rfl ?_
  refine Seq.val (Runs.gtr rfl rfl rfl) rfl rfl rfl ?_
  refine Seq.val (Runs.move rfl rfl) rfl rfl rfl ?_
  refine SeqC.start ?_
  refine SeqC.openC rfl rfl rfl rfl rfl rfl rfl (fun hcx => Enters.func rfl rfl rfl (run_enter Tryz.func11 (by kernel_rfl) rfl)) (fun hcx => awake_any _ gv) ?_
  intro w1 hw1
  replace lf := lf.step hw1
  replace gv := gv.step hw1
  refine SeqC.next rfl rfl rfl rfl rfl rfl rfl (fun hcx => Runs.not rfl rfl) ?_
  refine SeqC.or rfl rfl rfl rfl rfl rfl rfl ?_
  refine Seq.nil ?_
  refine Post.weak (F' := [(0, _), (1, _), (4, _), (24, _)]) ⟨rfl, rfl, rfl, rfl, trivial⟩ ?_
  refine Post.then_ ?_
  refine Cd.cond rfl (fun h => ?_) (fun h => ?_)
  · skip
    refine Cd.seq ?_
    refine Cd.region ?_
    refine Seq.call (Enters.func rfl rfl rfl (run_enter Tryz.func11 (by kernel_rfl) rfl)) rfl rfl rfl (awake_any _ gv) ?_
    rintro e w5 ⟨rfl, hb5⟩
    refine ⟨_, rfl, ?_⟩
    replace lf := lf.step hb5
    replace gv := gv.step hb5
    refine Seq.val (Runs.assign rfl rfl) rfl rfl rfl ?_
    refine Seq.nil ?_
    refine Post.weak (F' := [(0, _), (1, _), (4, _), (24, _)]) ⟨rfl, rfl, rfl, rfl, trivial⟩ ?_
    refine Post.then_ ?_
    refine Cd.ret ?_
    refine Post.then_ret ?_
    refine Post.end1 rfl rfl (.inl rfl) ?_
    exact ⟨rfl, lf.to (Nat.le_refl _)⟩
  have hl3 : s.length ≤ 300 := by
    have h' : (decide ((300 : Int) < (s.length : Int)) || !true) = false := h
    rw [Bool.or_eq_false_iff, decide_eq_false_iff_not] at h'
    omega
  have hL0 : LogIs (Dk.new 1000) s [] := LogIs.nil
  refine Cd.skip ?_
  refine Post.then_ ?_
  refine Cd.seq ?_
  refine Cd.region ?_
  have hsz0 := lf.size
  refine Seq.call (Enters.func rfl rfl rfl (run_enter Tryz.func12 (by kernel_rfl) rfl)) rfl rfl rfl (new_any 1000 _ (by omega) (by omega)) ?_
  rintro e w5 ⟨gd, rfl, dk, hb5⟩
  refine ⟨_, rfl, ?_⟩
  replace dk := dk.mono hsz0
  have hsz5 := Nat.le_trans hsz0 hb5.size
  replace lf := lf.step hb5
  replace gv := gv.step hb5
  refine Seq.val (Runs.assign rfl rfl) rfl rfl rfl ?_
  refine Seq.nil ?_
  refine Post.weak (F' := [(0, _), (1, _), (4, _), (5, _), (24, _)]) ⟨rfl, rfl, rfl, rfl, rfl, trivial⟩ ?_
  refine Post.then_ ?_
  refine Cd.seq ?_
  refine Cd.region ?_
  refine Seq.val (Runs.move rfl rfl) rfl rfl rfl ?_
  refine Seq.val (Runs.lenL rfl rfl Tryz.underlying9) rfl rfl rfl ?_
  refine Seq.val (Runs.geq rfl rfl rfl) rfl rfl rfl ?_
  refine Seq.val (Runs.move rfl rfl) rfl rfl rfl ?_
  refine SeqC.start ?_
  refine SeqC.open rfl rfl rfl rfl rfl rfl rfl (fun hcx => Runs.move rfl rfl) ?_
  refine SeqC.next rfl rfl rfl rfl rfl rfl rfl (fun hcx => Runs.lenL rfl rfl Tryz.underlying9) ?_
  refine SeqC.next rfl rfl rfl rfl rfl rfl rfl (fun hcx => Runs.leq rfl rfl rfl) ?_
  refine SeqC.and rfl rfl rfl rfl rfl rfl rfl ?_
  refine Seq.val (Runs.assign rfl rfl) rfl rfl rfl ?_
  refine Seq.nil ?_
  refine Post.weak (F' := [(0, _), (1, _), (4, _), (5, _), (6, _), (24, _)]) ⟨rfl, rfl, rfl, rfl, rfl, rfl, trivial⟩ ?_
  refine Post.then_ ?_
  refine Cd.seq ?_
  refine Cd.seq ?_
  refine Cd.region ?_
  refine Seq.val (Runs.assign rfl rfl) rfl rfl rfl ?_
  refine Seq.nil ?_
  refine Post.weak (F' := [(0, _), (1, _), (4, _), (5, _), (6, _), (7, _), (24, _)]) ⟨rfl, rfl, rfl, rfl, rfl, rfl, rfl, trivial⟩ ?_
  refine Post.then_ ?_
  refine Cd.block ?_
  have hJ0 : rightJ s 0 = (decide ((1 : Int) ≤ (s.length : Int)) && decide ((s.length : Int) ≤ 8)) := by unfold rightJ; rw [List.take_zero, List.all_nil, Bool.and_true]
  refine Cd.loop (σ := Nat) (fun j => [(0, .string (strOf s)), (1, .bool long), (5, .pointer (some ⟨gd, 0, none⟩)), (6, .bool (rightJ s j)), (7, .int .i64 (j : Int))]) (fun j wr => j ≤ s.length ∧ Lf w.heap.size w wr ∧ Gv wr ∧ DkAt wr w.heap.size gd (Dk.new 1000)) (fun j => s.length - j) 0 ⟨Nat.zero_le _, lf, gv, dk⟩ ⟨rfl, rfl, rfl, congrArg (fun z => some (Value.bool z)) hJ0.symm, rfl, trivial⟩ ?_
  clear lf gv dk
  rintro j wr ⟨hj, lf, gv, dk⟩
  refine Cd.seq ?_
  refine Cd.seq ?_
  refine Cd.region ?_
  refine Seq.val (Runs.move rfl rfl) rfl rfl rfl ?_
  refine Seq.val (Runs.move rfl rfl) rfl rfl rfl ?_
  refine Seq.val (Runs.lenL rfl rfl Tryz.underlying9) rfl rfl rfl ?_
  refine Seq.val (Runs.lss rfl rfl rfl) rfl rfl rfl ?_
  refine Seq.nil ?_
  refine Post.weak (F' := [(0, _), (1, _), (5, _), (6, _), (7, _), (38, _)]) ⟨rfl, rfl, rfl, rfl, rfl, rfl, trivial⟩ ?_
  refine Post.then_ ?_
  refine Cd.condD rfl (fun hc => ?_) (fun hc => ?_)
  · obtain ⟨b, hb⟩ : ∃ b, s[j]? = some b := ⟨_, List.getElem?_eq_getElem (by omega)⟩
    have hb256 := hs b (List.mem_of_getElem? hb)
    have hJ : rightJ s (j + 1) = (rightJ s j && decide ((97 : Int) ≤ (b : Int)) && decide ((b : Int) ≤ 122)) := by
      have e1 : decide ((97 : Int) ≤ (b : Int)) = decide (97 ≤ b) := decide_eq_decide.2 (by omega)
      have e2 : decide ((b : Int) ≤ 122) = decide (b ≤ 122) := decide_eq_decide.2 (by omega)
      unfold rightJ
      rw [take_last hb, List.all_append, e1, e2]
      simp [lowB, Bool.and_assoc]
    refine Cd.skip ?_
    refine Post.then_ ?_
    refine Cd.seq ?_
    refine Cd.block ?_
    refine Cd.region ?_
    refine Seq.val (Runs.move rfl rfl) rfl rfl rfl ?_
    refine Seq.val (Runs.move rfl rfl) rfl rfl rfl ?_
    refine SeqC.start ?_
    refine SeqC.open rfl rfl rfl rfl rfl rfl rfl (fun hcx => Runs.move rfl rfl) ?_
    refine SeqC.next rfl rfl rfl rfl rfl rfl rfl (fun hcx => Runs.move rfl rfl) ?_
    refine SeqC.next rfl rfl rfl rfl rfl rfl rfl (fun hcx => Runs.indexL rfl rfl rfl Tryz.underlying9 rfl hb hb256) ?_
    refine SeqC.next rfl rfl rfl rfl rfl rfl rfl (fun hcx => Runs.geq rfl rfl rfl) ?_
    refine SeqC.and rfl rfl rfl rfl rfl rfl rfl ?_
    refine Seq.val (Runs.move rfl rfl) rfl rfl rfl ?_
    refine SeqC.start ?_
    refine SeqC.open rfl rfl rfl rfl rfl rfl rfl (fun hcx => Runs.move rfl rfl) ?_
    refine SeqC.next rfl rfl rfl rfl rfl rfl rfl (fun hcx => Runs.move rfl rfl) ?_
    refine SeqC.next rfl rfl rfl rfl rfl rfl rfl (fun hcx => Runs.indexL rfl rfl rfl Tryz.underlying9 rfl hb hb256) ?_
    refine SeqC.next rfl rfl rfl rfl rfl rfl rfl (fun hcx => Runs.leq rfl rfl rfl) ?_
    refine SeqC.and rfl rfl rfl rfl rfl rfl rfl ?_
    refine Seq.val (Runs.assign rfl rfl) rfl rfl rfl ?_
    refine Seq.nil ?_
    refine Post.weak (F' := [(0, _), (1, _), (5, _), (6, _), (7, _), (38, _)]) ⟨rfl, rfl, rfl, rfl, rfl, rfl, trivial⟩ ?_
    refine Post.block_normal ?_
    refine Post.then_ ?_
    refine Cd.region ?_
    refine Seq.val (Runs.move rfl rfl) rfl rfl rfl ?_
    refine Seq.val (Runs.addI rfl rfl rfl (by omega) (by omega)) rfl rfl rfl ?_
    refine Seq.val (Runs.assign rfl rfl) rfl rfl rfl ?_
    refine Seq.nil ?_
    refine Post.weak (F' := [(0, _), (1, _), (5, _), (6, _), (7, _), (38, _)]) ⟨rfl, rfl, rfl, rfl, rfl, rfl, trivial⟩ ?_
    exact Post.round (j + 1) ⟨rfl, rfl, rfl, congrArg (fun z => some (Value.bool z)) hJ.symm, int_at (by omega), trivial⟩ ⟨by omega, lf, gv, dk⟩ (by omega)
  · obtain rfl : j = s.length := by omega
    rw [rightJ_all]
    refine Cd.exit ?_
    refine Post.then_exit ?_
    refine Post.round_exit ?_
    refine Post.block_exit ?_
    refine Post.then_ ?_
    refine Cd.seq ?_
    refine Cd.region ?_
    refine Seq.val (Runs.move rfl rfl) rfl rfl rfl ?_
    refine Seq.call (Enters.func rfl rfl rfl (run_enter Tryz.func13 (by kernel_rfl) rfl)) rfl rfl rfl (open_nil_any s _) ?_
    rintro e w5 ⟨rfl, hb5⟩
    refine ⟨_, rfl, ?_⟩
    replace lf := lf.step hb5
    replace gv := gv.step hb5
    replace dk := dk.step hb5
    refine Seq.val (Runs.move rfl rfl) rfl rfl rfl ?_
    refine Seq.val (Runs.extract rfl rfl rfl) rfl rfl rfl ?_
    refine Seq.val (Runs.extract rfl rfl rfl) rfl rfl rfl ?_
    refine Seq.val (Runs.extract rfl rfl rfl) rfl rfl rfl ?_
    refine Seq.val (Runs.assign rfl rfl) rfl rfl rfl ?_
    refine Seq.val (Runs.assign rfl rfl) rfl rfl rfl ?_
    refine Seq.val (Runs.assign rfl rfl) rfl rfl rfl ?_
    refine Seq.nil ?_
    refine Post.weak (F' := [(0, _), (1, _), (5, _), (6, _), (7, _), (8, _), (10, _), (38, _)]) ⟨rfl, rfl, rfl, rfl, rfl, rfl, rfl, rfl, trivial⟩ ?_
    refine Post.then_ ?_
    refine Cd.seq ?_
    refine Cd.region ?_
    refine Seq.val (Runs.move rfl rfl) rfl rfl rfl ?_
    refine Seq.val (Runs.move rfl rfl) rfl rfl rfl ?_
    have hsz6 := lf.size
    refine Seq.call (Enters.func rfl rfl rfl (run_enter Tryz.func13 (by kernel_rfl) rfl)) rfl rfl rfl (open_both w.heap.size gd (Dk.new 1000) s _ gv hgw dk hL0 hs (by omega)) ?_
    clear dk
    rintro e w2 ⟨bo, eo, v2, rfl, hrT, hrF, dk, fw2⟩
    refine ⟨_, rfl, ?_⟩
    replace lf := lf.df fw2
    replace gv := gv.df fw2
    refine Seq.val (Runs.move rfl rfl) rfl rfl rfl ?_
    refine Seq.val (Runs.extract rfl rfl rfl) rfl rfl rfl ?_
    refine Seq.val (Runs.extract rfl rfl rfl) rfl rfl rfl ?_
    refine Seq.val (Runs.extract rfl rfl rfl) rfl rfl rfl ?_
    refine Seq.val (Runs.assign rfl rfl) rfl rfl rfl ?_
    refine Seq.val (Runs.assign rfl rfl) rfl rfl rfl ?_
    refine Seq.val (Runs.assign rfl rfl) rfl rfl rfl ?_
    refine Seq.nil ?_
    refine Post.weak (F' := [(0, _), (1, _), (5, _), (6, _), (7, _), (8, _), (10, _), (11, _), (13, _), (38, _)]) ⟨rfl, rfl, rfl, rfl, rfl, rfl, rfl, rfl, rfl, rfl, trivial⟩ ?_
    refine Post.then_ ?_
    refine Cd.seq ?_
    refine Cd.seq ?_
    refine Cd.region ?_
    refine Seq.val (Runs.move rfl rfl) rfl rfl rfl ?_
    refine Seq.val (Runs.neqP rfl rfl rfl Tryz.underlying28) rfl rfl rfl ?_
    refine Seq.val (Runs.move rfl rfl) rfl rfl rfl ?_
    refine SeqC.start ?_
    refine SeqC.open rfl rfl rfl rfl rfl rfl rfl (fun hcx => Runs.move rfl rfl) ?_
    refine SeqC.next rfl rfl rfl rfl rfl rfl rfl (fun hcx => Runs.neqI rfl rfl rfl) ?_
    refine SeqC.or rfl rfl rfl rfl rfl rfl rfl ?_
    refine Seq.val (Runs.move rfl rfl) rfl rfl rfl ?_
    refine SeqC.start ?_
    refine SeqC.open rfl rfl rfl rfl rfl rfl rfl (fun hcx => Runs.move rfl rfl) ?_
    refine SeqC.next rfl rfl rfl rfl rfl rfl rfl (fun hcx => Runs.neqP rfl rfl rfl Tryz.underlying28) ?_
    refine SeqC.next rfl rfl rfl rfl rfl rfl rfl (fun hcx => Runs.move rfl rfl) ?_
    refine SeqC.next rfl rfl rfl rfl rfl rfl rfl (fun hcx => Runs.neqB rfl rfl rfl Tryz.underlying4) ?_
    refine SeqC.or rfl rfl rfl rfl rfl rfl rfl ?_
    refine Seq.val (Runs.move rfl rfl) rfl rfl rfl ?_
    refine SeqC.start ?_
    refine SeqC.open rfl rfl rfl rfl rfl rfl rfl (fun hcx => Runs.move rfl rfl) ?_
    refine SeqC.next rfl rfl rfl rfl rfl rfl rfl (fun hcx => Runs.move rfl rfl) ?_
    refine SeqC.next rfl rfl rfl rfl rfl rfl rfl (fun hcx => Runs.eqlI rfl rfl rfl) ?_
    refine SeqC.next rfl rfl rfl rfl rfl rfl rfl (fun hcx => Runs.neqB rfl rfl rfl Tryz.underlying4) ?_
    refine SeqC.or rfl rfl rfl rfl rfl rfl rfl ?_
    refine Seq.val (Runs.move rfl rfl) rfl rfl rfl ?_
    refine SeqC.start ?_
    refine SeqC.open rfl rfl rfl rfl rfl rfl rfl (fun hcx => Runs.move rfl rfl) ?_
    refine SeqC.next rfl rfl rfl rfl rfl rfl rfl (fun hcx => Runs.not rfl rfl) ?_
    refine SeqC.next rfl rfl rfl rfl rfl rfl rfl (fun hcx => Runs.move rfl rfl) ?_
    refine SeqC.open rfl rfl rfl rfl rfl rfl rfl (fun hcx => Runs.move rfl rfl) ?_
    refine SeqC.next rfl rfl rfl rfl rfl rfl rfl (fun hcx => Runs.neqI rfl rfl rfl) ?_
    refine SeqC.andG rfl rfl rfl rfl rfl rfl rfl rfl rfl rfl rfl ?_
    refine SeqC.or rfl rfl rfl rfl rfl rfl rfl ?_
    refine Seq.nil ?_
    refine Post.weak (F' := [(0, _), (1, _), (5, _), (6, _), (7, _), (8, _), (10, _), (11, _), (13, _), (38, _), (92, _)]) ⟨rfl, rfl, rfl, rfl, rfl, rfl, rfl, rfl, rfl, rfl, rfl, trivial⟩ ?_
    refine Post.then_ ?_
    refine Cd.cond rfl (fun h => ?_) (fun h => ?_)
    · exfalso
      have h' : (decide (bo.isSome ≠ rightN s) || decide (rightN s ≠ decide (eo = 0)) || (!rightN s && decide (eo ≠ 1))) = true := h
      cases hR : rightN s with
      | true =>
        obtain ⟨h1, g, h2, -⟩ := hrT hR
        rw [hR, h1, h2] at h'
        simp at h'
      | false =>
        obtain ⟨h1, h2⟩ := hrF hR
        rw [hR, h1, h2] at h'
        simp at h'
    refine Cd.skip ?_
    refine Post.then_ ?_
    refine Cd.seqJ (σ := Unit) (fun _ => [(0, .string (strOf s)), (5, .pointer (some ⟨gd, 0, none⟩))]) (fun _ wr => Lf w.heap.size w wr ∧ Gv wr ∧ DkAt wr w.heap.size gd (Dk.new 1000)) ?_ ?_
    · skip
      cases hlo : long with
      | false =>
        refine Cd.seq ?_
        refine Cd.region ?_
        refine Seq.val (Runs.move rfl rfl) rfl rfl rfl ?_
        refine Seq.val (Runs.move rfl rfl) rfl rfl rfl ?_
        refine Seq.skipG rfl rfl rfl rfl rfl rfl ?_
        refine Seq.val (Runs.pickF rfl rfl rfl) rfl rfl rfl ?_
        refine Seq.val (Runs.move rfl rfl) rfl rfl rfl ?_
        refine Seq.skipG rfl rfl rfl rfl rfl rfl ?_
        refine Seq.skipG rfl rfl rfl rfl rfl rfl ?_
        refine Seq.skipG rfl rfl rfl rfl rfl rfl ?_
        refine Seq.skipG rfl rfl rfl rfl rfl rfl ?_
        refine Seq.skipG rfl rfl rfl rfl rfl rfl ?_
        refine Seq.val (Runs.pickF rfl rfl rfl) rfl rfl rfl ?_
        refine Seq.nil ?_
        refine Post.weak (F' := [(0, _), (1, _), (5, _), (6, _), (7, _), (8, _), (10, _), (11, _), (13, _), (38, _), (92, _), (103, _)]) ⟨rfl, rfl, rfl, rfl, rfl, rfl, rfl, rfl, rfl, rfl, rfl, rfl, trivial⟩ ?_
        refine Post.then_ ?_
        refine Cd.condF rfl rfl ?_
        refine Cd.skip ?_
        exact Post.join () ⟨rfl, rfl, trivial⟩ ⟨lf, gv, dk⟩
      | true =>
        cases hR : rightN s with
        | false =>
          refine Cd.seq ?_
          refine Cd.region ?_
          refine Seq.val (Runs.move rfl rfl) rfl rfl rfl ?_
          refine Seq.val (Runs.move rfl rfl) rfl rfl rfl ?_
          refine Seq.valG (Runs.move rfl rfl) rfl rfl rfl rfl rfl ?_
          refine Seq.val (Runs.pickT rfl rfl rfl) rfl rfl rfl ?_
          refine Seq.val (Runs.move rfl rfl) rfl rfl rfl ?_
          refine Seq.skipG rfl rfl rfl rfl rfl rfl ?_
          refine Seq.skipG rfl rfl rfl rfl rfl rfl ?_
          refine Seq.skipG rfl rfl rfl rfl rfl rfl ?_
          refine Seq.skipG rfl rfl rfl rfl rfl rfl ?_
          refine Seq.skipG rfl rfl rfl rfl rfl rfl ?_
          refine Seq.val (Runs.pickF rfl rfl rfl) rfl rfl rfl ?_
          refine Seq.nil ?_
          refine Post.weak (F' := [(0, _), (1, _), (5, _), (6, _), (7, _), (8, _), (10, _), (11, _), (13, _), (38, _), (92, _), (103, _)]) ⟨rfl, rfl, rfl, rfl, rfl, rfl, rfl, rfl, rfl, rfl, rfl, rfl, trivial⟩ ?_
          refine Post.then_ ?_
          refine Cd.condF rfl rfl ?_
          refine Cd.skip ?_
          exact Post.join () ⟨rfl, rfl, trivial⟩ ⟨lf, gv, dk⟩
        | true =>
          obtain ⟨-, g6, rfl, hg6, k6⟩ := hrT hR
          obtain ⟨m, hm⟩ : ∃ m, m = 131073 := ⟨_, rfl⟩
          have e6 : w.heap.size ≤ g6 := Nat.le_trans hsz6 hg6
          have hzb : Byt (List.replicate m 0) := fun d hd => by have := List.eq_of_mem_replicate hd; omega
          have hzl : (List.replicate m 0).length = m := List.length_replicate
          have hA : appW ⟨0, 0, 0, false⟩ (Dk.new 1000) s (List.replicate m 0) = (⟨0, 0, 0, false⟩, Dk.new 1000, 4) := by unfold appW; rw [if_pos (by omega)]
          have hnl8 : s.length ≤ 8 := by
            unfold rightN at hR
            rw [Bool.and_eq_true, Bool.and_eq_true, decide_eq_true_eq, decide_eq_true_eq] at hR
            exact hR.2.2
          refine Cd.seq ?_
          refine Cd.region ?_
          refine Seq.val (Runs.move rfl rfl) rfl rfl rfl ?_
          refine Seq.val (Runs.move rfl rfl) rfl rfl rfl ?_
          refine Seq.valG (Runs.move rfl rfl) rfl rfl rfl rfl rfl ?_
          refine Seq.val (Runs.pickT rfl rfl rfl) rfl rfl rfl ?_
          refine Seq.val (Runs.move rfl rfl) rfl rfl rfl ?_
          refine Seq.valG (Runs.move rfl rfl) rfl rfl rfl rfl rfl ?_
          refine Seq.makeNG rfl rfl rfl Tryz.underlying60 zero_uint8 (by kernel_rfl) (b := 1) (by kernel_rfl) (m := m) (by omega) (by omega) (by omega) rfl rfl rfl rfl rfl ?_
          intro g99 w99 n99
          have k99 := n99.blk
          rw [made_u8] at k99
          replace lf := lf.step n99.below
          replace gv := gv.step n99.below
          replace dk := dk.step n99.below
          replace k6 := k6.step n99.below
          have hrd := Reads.blk (size := 1) k99 m (by simp [Bt])
          rw [List.toList_toArray] at hrd
          refine Seq.valG (Runs.convBS rfl rfl Tryz.underlying60 Tryz.underlying5 Tryz.underlying9 hrd hzb) rfl rfl rfl rfl rfl ?_
          clear k99 hrd n99
          refine Seq.callG (Enters.func rfl rfl rfl (run_enter Tryz.func15 (by kernel_rfl) rfl)) rfl rfl rfl rfl rfl (append_w_any w.heap.size g6 gd (Dk.new 1000) s (List.replicate m 0) ⟨0, 0, 0, false⟩ _ gv hgw e6 k6 dk hs hnl8 (by decide) (by decide) (by decide) hzb (by omega)) ?_
          clear k6 dk
          rw [hA]
          rintro e w7 ⟨rfl, k6, dk, f7⟩
          refine ⟨_, rfl, ?_⟩
          replace lf := lf.lf f7
          replace gv := gv.lf f7
          clear f7
          refine Seq.valG (Runs.neqI rfl rfl rfl) rfl rfl rfl rfl rfl ?_
          refine Seq.val (Runs.pickT rfl rfl rfl) rfl rfl rfl ?_
          refine Seq.nil ?_
          refine Post.weak (F' := [(0, _), (1, _), (5, _), (6, _), (7, _), (8, _), (10, _), (11, _), (13, _), (38, _), (92, _), (103, _)]) ⟨rfl, rfl, rfl, rfl, rfl, rfl, rfl, rfl, rfl, rfl, rfl, rfl, trivial⟩ ?_
          refine Post.then_ ?_
          refine Cd.condF rfl rfl ?_
          refine Cd.skip ?_
          exact Post.join () ⟨rfl, rfl, trivial⟩ ⟨lf, gv, dk⟩
    clear lf gv dk hrT hrF
    rintro ⟨⟩ wj ⟨lf, gv, dk⟩
    refine Cd.seq ?_
    refine Cd.region ?_
    refine Seq.val (Runs.move rfl rfl) rfl rfl rfl ?_
    refine Seq.call (Enters.func rfl rfl rfl (run_enter Tryz.func26 (by kernel_rfl) rfl)) rfl rfl rfl (arm_any w.heap.size gd (Dk.new 1000) 0 _ dk (by omega) (by omega)) ?_
    clear dk
    rintro e w3 ⟨rfl, dk, fw3⟩
    refine ⟨_, rfl, ?_⟩
    replace lf := lf.df fw3
    replace gv := gv.df fw3
    refine Seq.nil ?_
    refine Post.weak (F' := [(0, _), (5, _)]) ⟨rfl, rfl, trivial⟩ ?_
    refine Post.then_ ?_
    refine Cd.seq ?_
    refine Cd.region ?_
    refine Seq.val (Runs.move rfl rfl) rfl rfl rfl ?_
    refine Seq.call (Enters.func rfl rfl rfl (run_enter Tryz.func27 (by kernel_rfl) rfl)) rfl rfl rfl (sync_any w.heap.size gd { Dk.new 1000 with armed := true, left := 0 } [120] _ dk (byt_one (by omega)) (by decide)) ?_
    clear dk
    rintro e w4 ⟨rfl, dk, fw4⟩
    refine ⟨_, rfl, ?_⟩
    replace lf := lf.df fw4
    replace gv := gv.df fw4
    refine Seq.nil ?_
    refine Post.weak (F' := [(0, _), (5, _)]) ⟨rfl, rfl, trivial⟩ ?_
    refine Post.then_ ?_
    refine Cd.seq ?_
    refine Cd.region ?_
    refine Seq.val (Runs.move rfl rfl) rfl rfl rfl ?_
    refine Seq.call (Enters.func rfl rfl rfl (run_enter Tryz.func13 (by kernel_rfl) rfl)) rfl rfl rfl (open_off_any w.heap.size gd _ [119] _ dk (armed_off (Dk.new 1000) [120] rfl) right_w (byt_one (by omega)) (by decide)) ?_
    rintro e w8 ⟨rfl, hb8⟩
    refine ⟨_, rfl, ?_⟩
    replace lf := lf.step hb8
    replace gv := gv.step hb8
    replace dk := dk.step hb8
    refine Seq.val (Runs.move rfl rfl) rfl rfl rfl ?_
    refine Seq.val (Runs.extract rfl rfl rfl) rfl rfl rfl ?_
    refine Seq.val (Runs.extract rfl rfl rfl) rfl rfl rfl ?_
    refine Seq.val (Runs.extract rfl rfl rfl) rfl rfl rfl ?_
    refine Seq.val (Runs.assign rfl rfl) rfl rfl rfl ?_
    refine Seq.val (Runs.assign rfl rfl) rfl rfl rfl ?_
    refine Seq.val (Runs.assign rfl rfl) rfl rfl rfl ?_
    refine Seq.nil ?_
    refine Post.weak (F' := [(0, _), (5, _), (14, _), (16, _)]) ⟨rfl, rfl, rfl, rfl, trivial⟩ ?_
    refine Post.then_ ?_
    refine Cd.seq ?_
    refine Cd.region ?_
    refine Seq.val (Runs.assign rfl rfl) rfl rfl rfl ?_
    refine Seq.nil ?_
    refine Post.weak (F' := [(0, _), (5, _), (14, _), (16, _), (17, _)]) ⟨rfl, rfl, rfl, rfl, rfl, trivial⟩ ?_
    refine Post.then_ ?_
    refine Cd.seq ?_
    refine Cd.region ?_
    refine Seq.val (Runs.move rfl rfl) rfl rfl rfl ?_
    refine Seq.val (Runs.eqlP rfl rfl rfl Tryz.underlying28) rfl rfl rfl ?_
    refine Seq.val (Runs.move rfl rfl) rfl rfl rfl ?_
    refine SeqC.start ?_
    refine SeqC.open rfl rfl rfl rfl rfl rfl rfl (fun hcx => Runs.move rfl rfl) ?_
    refine SeqC.next rfl rfl rfl rfl rfl rfl rfl (fun hcx => Runs.eqlI rfl rfl rfl) ?_
    refine SeqC.and rfl rfl rfl rfl rfl rfl rfl ?_
    refine Seq.val (Runs.move rfl rfl) rfl rfl rfl ?_
    refine SeqC.start ?_
    refine SeqC.open rfl rfl rfl rfl rfl rfl rfl (fun hcx => Runs.move rfl rfl) ?_
    refine SeqC.next rfl rfl rfl rfl rfl rfl rfl (fun hcx => Runs.move rfl rfl) ?_
    refine SeqC.nextC rfl rfl rfl rfl rfl rfl rfl (fun hcx => Enters.func rfl rfl rfl (run_enter Tryz.func15 (by kernel_rfl) rfl)) (fun hcx => append_nil_any s _) ?_
    intro w5 hw5
    replace lf := lf.step hw5
    replace gv := gv.step hw5
    replace dk := dk.step hw5
    refine SeqC.next rfl rfl rfl rfl rfl rfl rfl (fun hcx => Runs.eqlI rfl rfl rfl) ?_
    refine SeqC.and rfl rfl rfl rfl rfl rfl rfl ?_
    refine Seq.val (Runs.move rfl rfl) rfl rfl rfl ?_
    refine SeqC.start ?_
    refine SeqC.open rfl rfl rfl rfl rfl rfl rfl (fun hcx => Runs.move rfl rfl) ?_
    refine SeqC.nextC rfl rfl rfl rfl rfl rfl rfl (fun hcx => Enters.func rfl rfl rfl (run_enter Tryz.func28 (by kernel_rfl) rfl)) (fun hcx => retire_nil_any 3 _) ?_
    intro w6 hw6
    replace lf := lf.step hw6
    replace gv := gv.step hw6
    replace dk := dk.step hw6
    refine SeqC.next rfl rfl rfl rfl rfl rfl rfl (fun hcx => Runs.eqlI rfl rfl rfl) ?_
    refine SeqC.and rfl rfl rfl rfl rfl rfl rfl ?_
    refine Seq.val (Runs.move rfl rfl) rfl rfl rfl ?_
    refine SeqC.start ?_
    refine SeqC.open rfl rfl rfl rfl rfl rfl rfl (fun hcx => Runs.move rfl rfl) ?_
    refine SeqC.nextC rfl rfl rfl rfl rfl rfl rfl (fun hcx => Enters.func rfl rfl rfl (run_enter Tryz.func29 (by kernel_rfl) rfl)) (fun hcx => rotate_nil_any _) ?_
    intro w7 hw7
    replace lf := lf.step hw7
    replace gv := gv.step hw7
    replace dk := dk.step hw7
    refine SeqC.next rfl rfl rfl rfl rfl rfl rfl (fun hcx => Runs.eqlI rfl rfl rfl) ?_
    refine SeqC.and rfl rfl rfl rfl rfl rfl rfl ?_
    refine Seq.val (Runs.move rfl rfl) rfl rfl rfl ?_
    refine SeqC.start ?_
    refine SeqC.open rfl rfl rfl rfl rfl rfl rfl (fun hcx => Runs.move rfl rfl) ?_
    refine SeqC.nextC rfl rfl rfl rfl rfl rfl rfl (fun hcx => Enters.func rfl rfl rfl (run_enter Tryz.func20 (by kernel_rfl) rfl)) (fun hcx => number_nil_any _) ?_
    intro w8 hw8
    replace lf := lf.step hw8
    replace gv := gv.step hw8
    replace dk := dk.step hw8
    refine SeqC.next rfl rfl rfl rfl rfl rfl rfl (fun hcx => Runs.eqlI rfl rfl rfl) ?_
    refine SeqC.and rfl rfl rfl rfl rfl rfl rfl ?_
    refine Seq.val (Runs.move rfl rfl) rfl rfl rfl ?_
    refine SeqC.start ?_
    refine SeqC.open rfl rfl rfl rfl rfl rfl rfl (fun hcx => Runs.move rfl rfl) ?_
    refine SeqC.nextC rfl rfl rfl rfl rfl rfl rfl (fun hcx => Enters.func rfl rfl rfl (run_enter Tryz.func30 (by kernel_rfl) rfl)) (fun hcx => least_nil_any 3 _) ?_
    intro w9 hw9
    replace lf := lf.step hw9
    replace gv := gv.step hw9
    replace dk := dk.step hw9
    refine SeqC.next rfl rfl rfl rfl rfl rfl rfl (fun hcx => Runs.eqlI rfl rfl rfl) ?_
    refine SeqC.and rfl rfl rfl rfl rfl rfl rfl ?_
    refine Seq.val (Runs.assign rfl rfl) rfl rfl rfl ?_
    refine Seq.nil ?_
    refine Post.weak (F' := [(0, _), (4, _), (5, _), (14, _), (16, _), (17, _)]) ⟨rfl, rfl, rfl, rfl, rfl, rfl, trivial⟩ ?_
    refine Post.then_ ?_
    refine Cd.ret ?_
    refine Post.end1 rfl rfl (.inl rfl) ?_
    exact ⟨rfl, lf.to (Nat.le_refl _)⟩
end Go.Proofs.YtnlepoplncjliaaGreatDoor

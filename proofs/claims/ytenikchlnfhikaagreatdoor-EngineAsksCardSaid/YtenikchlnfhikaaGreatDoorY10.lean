/-
  Texts that were joined: EqH, EsB, EsC, EqI, TOpen. Conditions: what each theorem names.
-/
import Derived.Test.YtenikchlnfhikaaGreatDoorY8
import Derived.Test.YtenikchlnfhikaaGreatDoorY0
import Derived.Test.YtenikchlnfhikaaGreatDoorY5
import Derived.Test.YtenikchlnfhikaaGreatDoorY9
import Derived.Test.YtenikchlnfhikaaGreatDoorRows
import Derived.ProofKit
import Derived.OpenShut
import Derived.Lib.SmallJoins
import Derived.Deep.Slices
import Derived.Deep.Fields
import Derived.ChangeSame
set_option linter.unusedSectionVars false
set_option linter.unusedVariables false
set_option linter.unusedSimpArgs false
set_option linter.unusedVariables false
namespace Go.Proofs.YtenikchlnfhikaaGreatDoor
open Go Go.RowKit
noncomputable def vPrt : RI.V := .tup [.agg [.int .i64 1, .str [], .sl none 0 0, .sl none 0 0], .bool true]
set_option maxRecDepth 1000000 in
theorem run_prt : isV vPrt (runO 85 [.str zeroS] ⟨.lf, 0⟩) = true := by kernel_rfl
set_option maxRecDepth 1000000 in
theorem run_prtR : isV vPrt (runO 90 [.str zeroS] ⟨.lf, 0⟩) = true := by kernel_rfl
theorem rv_prt {ρ : RI.Env} {L : RI.Loc} {x : Value} (h : RI.RV ρ L vPrt x) : x = .tuple #[.agg #[.int .i64 1, .string (strOf []), .slice none 0 0, .slice none 0 0], .bool true] := by
  obtain ⟨u, v, rfl, hu, hv⟩ := rv_tup2 h
  obtain rfl := rv_bool hv
  clear h
  cases hu with
  | agg hh =>
    rcases hh with _ | ⟨h0, hh⟩
    rcases hh with _ | ⟨h1, hh⟩
    rcases hh with _ | ⟨h2, hh⟩
    rcases hh with _ | ⟨h3, hh⟩
    cases hh
    rw [rv_int h0, rv_str h1]
    cases h2
    cases h3
    rfl
theorem printed_zero (W : World) (nb : Nb W) : Calls Tryz.prog 85 #[.string (strOf zeroS)] W fun en w' => Below W.heap.size W w' ∧ ∃ x1 x2 A1 n1 c1 A2 n2 c2, en = .returned (.tuple #[.agg #[.int .i64 x1, .string x2, .slice A1 n1 c1, .slice A2 n2 c2], .bool true]) :=
  (runs_one W nb (f := 85) (l := [.str zeroS]) (xs := [.string (strOf zeroS)]) (fun y => .cons (rv_of (by decide)) .nil) run_prt (RI.run_enter Tryz.func85 (by kernel_rfl) rfl _ _)).mono fun e w' ⟨x, L', y, h1, h2, h3⟩ => by
    rw [rv_prt h2] at h1
    exact ⟨h3, _, _, _, _, _, _, _, _, h1⟩
theorem printed_zeroR (W : World) (nb : Nb W) : Calls Tryz.prog 90 #[.string (strOf zeroS)] W fun en w' => Below W.heap.size W w' ∧ ∃ x1 x2 A1 n1 c1 A2 n2 c2, en = .returned (.tuple #[.agg #[.int .i64 x1, .string x2, .slice A1 n1 c1, .slice A2 n2 c2], .bool true]) :=
  (runs_one W nb (f := 90) (l := [.str zeroS]) (xs := [.string (strOf zeroS)]) (fun y => .cons (rv_of (by decide)) .nil) run_prtR (RI.run_enter Tryz.func90 (by kernel_rfl) rfl _ _)).mono fun e w' ⟨x, L', y, h1, h2, h3⟩ => by
    rw [rv_prt h2] at h1
    exact ⟨h3, _, _, _, _, _, _, _, _, h1⟩
theorem engRight_any (a : As) (hr : a.rng) (w : World) (nb : Nb w) : Calls Tryz.prog 8 #[a.v] w fun en w' => en = .returned (.bool (rightAskB a)) ∧ Grow w w' :=
  engRight a hr w fun W hW => printed_zero W (nb.below hW nb.lt nb.lt2)
theorem refAskRight_any (a : As) (hr : a.rng) (w : World) (nb : Nb w) : Calls Tryz.prog 9 #[a.v] w fun en w' => en = .returned (.bool (rightAskB a)) ∧ Grow w w' :=
  refAskRight a hr w fun W hW => printed_zeroR W (nb.below hW nb.lt nb.lt2)
end Go.Proofs.YtenikchlnfhikaaGreatDoor

namespace Go.Proofs.YtenikchlnfhikaaGreatDoor
open Go.RowKit

abbrev As.say (a : As) : List Value := a.cs ++ [.slice none 0 0, .slice none 0 0]
abbrev As.act (a : As) : List Value := [.int .i64 0, .int .i64 0] ++ a.say
theorem one_As (a : As) : ∀ x ∈ a.cs, x.oneCell' = true := by
  intro x hx
  simp [As.cs] at hx
  rcases hx with rfl | rfl | rfl | rfl | rfl | rfl | rfl | rfl | rfl | rfl <;> rfl
theorem act_get (a : As) (j : Nat) (v : Value) (h : a.cs[j]? = some v) : a.act.toArray[14 * 0 + 2 + 0 + j]? = some v := by
  have hlt := (List.getElem?_eq_some_iff.1 h).1
  rw [show 14 * 0 + 2 + 0 + j = j + 2 by omega]
  simp only [List.getElem?_toArray]
  show (a.cs ++ [Value.slice none 0 0, Value.slice none 0 0])[j]? = _
  rw [List.getElem?_append_left hlt]
  exact h
theorem act_say (a : As) (j : Nat) (v : Value) (h : a.say[j]? = some v) : a.act.toArray[14 * 0 + 2 + j]? = some v := by
  rw [show 14 * 0 + 2 + j = j + 2 by omega]
  simp only [List.getElem?_toArray]
  exact h
theorem asked_one (a : As) (w : World) (hg : Nb w) : Calls Tryz.prog 78 #[.agg a.say.toArray] w fun e w' => e = .returned a.v ∧ Below w.heap.size w w' := by
  have bel := Below.refl w.heap.size w
  have nb := hg
  refine Calls.start 10 Tryz.func78 rfl rfl rfl ?_
  refine Cd.seq ?_
  refine Cd.region ?_
  refine Seq.box rfl rfl rfl rfl rfl ?_
  intro g1 w1 n1
  have e1 := Nat.le_trans bel.size n1.ge
  replace bel := bel.step n1.below
  replace nb := nb.step n1.below
  have k1 := n1.blk
  refine Seq.alloc rfl (run_zero zero_debentureref26_Ask) rfl rfl rfl ?_
  intro g2 w2 n2
  have e2 := Nat.le_trans bel.size n2.ge
  have l2 := Nat.lt_of_lt_of_le k1.lt n2.ge
  replace bel := bel.step n2.below
  replace nb := nb.step n2.below
  replace k1 := k1.step n2.below
  have k2 := n2.blk
  refine Seq.nil ?_
  refine Post.weak (F' := [(0, _), (1, _), (2, _)]) ⟨rfl, rfl, rfl, trivial⟩ ?_
  refine Post.then_ ?_
  refine Cd.seq ?_
  refine Cd.region ?_
  refine Seq.val (Runs.fieldB 0 rfl rfl Tryz.underlying28 rfl (by kernel_rfl)) rfl rfl rfl ?_
  replace k1 : Blk _ g1 28 a.say.toArray := k1
  have hget : ∀ (j : Nat) (v : Value), a.cs[j]? = some v → a.say.toArray[0 + j]? = some v := fun j v h => by
    have hlt := (List.getElem?_eq_some_iff.1 h).1
    rw [Nat.zero_add]
    simp only [List.getElem?_toArray]
    rw [List.getElem?_append_left hlt]
    exact h
  refine Seq.val (Runs.loadP (ps := a.cs) rfl rfl Tryz.underlying23 rfl k1 (m := 10) (by kernel_rfl) rfl hget) rfl rfl rfl ?_
  refine Seq.val (Runs.fieldB 10 rfl rfl Tryz.underlying28 rfl (by kernel_rfl)) rfl rfl rfl ?_
  refine Seq.val (Runs.loadB rfl rfl Tryz.underlying25 rfl k1 rfl) rfl rfl rfl ?_
  refine Seq.val (Runs.fieldB 11 rfl rfl Tryz.underlying28 rfl (by kernel_rfl)) rfl rfl rfl ?_
  refine Seq.val (Runs.loadB rfl rfl Tryz.underlying26 rfl k1 rfl) rfl rfl rfl ?_
  refine Seq.call (Enters.func rfl rfl rfl (run_enter Tryz.func169 (by kernel_rfl) rfl)) rfl rfl rfl (said_none a _ nb) ?_
  rintro e w3 ⟨rfl, hb3⟩
  refine ⟨_, rfl, ?_⟩
  replace bel := bel.step hb3
  replace nb := nb.step hb3
  replace k1 := k1.step hb3
  replace k2 := k2.step hb3
  refine Seq.storeN rfl rfl rfl rfl (m := 10) (by kernel_rfl) rfl (by repeat' first | exact trivial | apply And.intro | rfl | assumption) k2 (by simp [Value.cells]) rfl rfl ?_
  intro w3 pw3
  replace bel := bel.put k2 pw3 e2
  replace k2 := pw3.blk
  refine Seq.nil ?_
  refine Post.weak (F' := [(0, _), (1, _), (2, _)]) ⟨rfl, rfl, rfl, trivial⟩ ?_
  refine Post.then_ ?_
  refine Cd.ret ?_
  refine Post.endC rfl rfl k2 Tryz.underlying23 rfl (m := 10) (by kernel_rfl) rfl (.inl rfl) ?_
  exact ⟨rfl, bel⟩
set_option maxHeartbeats 2000000 in
theorem heavy_one (g900 gl c cl : Nat) (a : As) (w : World) (hg : Nb w) (k900 : Blk w g900 30 a.act.toArray) (kl : Blk w gl 31 #[.slice (some ⟨g900, 0, none⟩) 1 c]) (ht : a.t.length ≤ 5000) (hb : ∀ x ∈ a.t, x < 256) :
    Calls Tryz.prog 34 #[.slice (some ⟨gl, 0, none⟩) 1 cl] w fun e w' => (∃ b, e = .returned (.bool b)) ∧ Below w.heap.size w w' := by
  have bel := Below.refl w.heap.size w
  have own : Own w w.heap.size 23 10 (.slice none 0 0) 0 [] := Own.nil _ _ _ _
  refine Calls.start 35 Tryz.func34 rfl rfl rfl ?_
  refine Cd.seq ?_
  refine Cd.region ?_
  refine Seq.val (Runs.assign rfl rfl) rfl rfl rfl ?_
  refine Seq.nil ?_
  refine Post.weak (F' := [(0, _), (2, _)]) ⟨rfl, rfl, trivial⟩ ?_
  refine Post.then_ ?_
  refine Cd.seq ?_
  refine Cd.region ?_
  refine Seq.val (Runs.assign rfl rfl) rfl rfl rfl ?_
  refine Seq.nil ?_
  refine Post.weak (F' := [(0, _), (2, _), (3, _)]) ⟨rfl, rfl, rfl, trivial⟩ ?_
  refine Post.then_ ?_
  refine Cd.seq ?_
  refine Cd.seq ?_
  refine Cd.region ?_
  refine Seq.val (Runs.assign rfl rfl) rfl rfl rfl ?_
  refine Seq.nil ?_
  refine Post.weak (F' := [(0, _), (2, _), (3, _), (4, _)]) ⟨rfl, rfl, rfl, rfl, trivial⟩ ?_
  refine Post.then_ ?_
  refine Cd.block ?_
  refine Cd.loop (σ := Nat × Value) (fun q => [(0, .slice (some ⟨gl, 0, none⟩) 1 cl), (3, q.2), (4, .int .i64 (q.1 : Int))]) (fun q wr => q.1 ≤ 1 ∧ Own wr w.heap.size 23 10 q.2 q.1 (if q.1 = 0 then [] else a.cs) ∧ (q.1 = 0 → q.2 = .slice none 0 0) ∧ Below w.heap.size w wr ∧ Blk wr g900 30 a.act.toArray ∧ Blk wr gl 31 #[.slice (some ⟨g900, 0, none⟩) 1 c]) (fun q => 1 - q.1) (0, .slice none 0 0) ⟨by simp, own, fun _ => rfl, bel, k900, kl⟩ ⟨rfl, rfl, rfl, trivial⟩ ?_
  clear bel k900 kl
  clear own
  rintro ⟨i, v⟩ wr ⟨hi, own, hv, bel, k900, kl⟩
  simp only at hi own hv
  show Cd _ _ _ _ [(0, .slice (some ⟨gl, 0, none⟩) 1 cl), (3, v), (4, .int .i64 (i : Int))] _
  refine Cd.seq ?_
  refine Cd.seq ?_
  refine Cd.region ?_
  refine Seq.val (Runs.move rfl rfl) rfl rfl rfl ?_
  refine Seq.val (Runs.move rfl rfl) rfl rfl rfl ?_
  refine Seq.val (Runs.len rfl rfl Tryz.underlying165) rfl rfl rfl ?_
  refine Seq.val (Runs.lss rfl rfl rfl) rfl rfl rfl ?_
  refine Seq.nil ?_
  refine Post.weak (F' := [(0, _), (3, _), (4, _), (9, _)]) ⟨rfl, rfl, rfl, rfl, trivial⟩ ?_
  refine Post.then_ ?_
  refine Cd.condD rfl (fun hc => ?_) (fun hc => ?_)
  · obtain rfl : i = 0 := by omega
    refine Cd.skip ?_
    refine Post.then_ ?_
    refine Cd.seq ?_
    refine Cd.block ?_
    refine Cd.seq ?_
    refine Cd.region ?_
    refine Seq.val (Runs.assign rfl rfl) rfl rfl rfl ?_
    refine Seq.nil ?_
    refine Post.weak (F' := [(0, _), (3, _), (4, _), (5, _), (9, _)]) ⟨rfl, rfl, rfl, rfl, rfl, trivial⟩ ?_
    refine Post.then_ ?_
    refine Cd.block ?_
    refine Cd.loop (σ := Nat × Value) (fun q => [(0, .slice (some ⟨gl, 0, none⟩) 1 cl), (3, q.2), (4, .int .i64 ((0 : Nat) : Int)), (5, .int .i64 (q.1 : Int))]) (fun q wr => q.1 ≤ 1 ∧ Own wr w.heap.size 23 10 q.2 q.1 (if q.1 = 0 then [] else a.cs) ∧ (q.1 = 0 → q.2 = .slice none 0 0) ∧ Below w.heap.size w wr ∧ Blk wr g900 30 a.act.toArray ∧ Blk wr gl 31 #[.slice (some ⟨g900, 0, none⟩) 1 c]) (fun q => 1 - q.1) (0, v) ⟨by simp, own, hv, bel, k900, kl⟩ ⟨rfl, rfl, rfl, rfl, trivial⟩ ?_
    clear own bel k900 kl hv
    rintro ⟨k, v⟩ wr2 ⟨hk, own, hv, bel, k900, kl⟩
    simp only at hk own hv
    show Cd _ _ _ _ [(0, .slice (some ⟨gl, 0, none⟩) 1 cl), (3, v), (4, .int .i64 ((0 : Nat) : Int)), (5, .int .i64 (k : Int))] _
    refine Cd.seq ?_
    refine Cd.seq ?_
    refine Cd.region ?_
    refine Seq.val (Runs.move rfl rfl) rfl rfl rfl ?_
    refine Seq.val (Runs.move rfl rfl) rfl rfl rfl ?_
    refine Seq.val (Runs.move rfl rfl) rfl rfl rfl ?_
    refine Seq.val (Runs.indexBN rfl rfl rfl Tryz.underlying165 (s := 1) (by kernel_rfl) (j := 0) rfl (by omega)) rfl rfl rfl ?_
    refine Seq.val (Runs.loadB rfl rfl Tryz.underlying31 rfl kl rfl) rfl rfl rfl ?_
    refine Seq.val (Runs.len rfl rfl Tryz.underlying31) rfl rfl rfl ?_
    refine Seq.val (Runs.lss rfl rfl rfl) rfl rfl rfl ?_
    refine Seq.nil ?_
    refine Post.weak (F' := [(0, _), (3, _), (4, _), (5, _), (18, _)]) ⟨rfl, rfl, rfl, rfl, rfl, trivial⟩ ?_
    refine Post.then_ ?_
    refine Cd.condD rfl (fun hc => ?_) (fun hc => ?_)
    · obtain rfl : k = 0 := by omega
      obtain rfl := hv rfl
      have nb := hg.below bel hg.lt hg.lt2
      refine Cd.skip ?_
      refine Post.then_ ?_
      refine Cd.seq ?_
      refine Cd.block ?_
      refine Cd.region ?_
      refine Seq.val (Runs.move rfl rfl) rfl rfl rfl ?_
      refine Seq.val (Runs.move rfl rfl) rfl rfl rfl ?_
      refine Seq.val (Runs.move rfl rfl) rfl rfl rfl ?_
      refine Seq.val (Runs.indexBN rfl rfl rfl Tryz.underlying165 (s := 1) (by kernel_rfl) (j := 0) rfl (by omega)) rfl rfl rfl ?_
      refine Seq.val (Runs.loadB rfl rfl Tryz.underlying31 rfl kl rfl) rfl rfl rfl ?_
      refine Seq.val (Runs.move rfl rfl) rfl rfl rfl ?_
      refine Seq.val (Runs.indexBN rfl rfl rfl Tryz.underlying31 (s := 14) (by kernel_rfl) (j := 0) rfl (by omega)) rfl rfl rfl ?_
      refine Seq.val (Runs.fieldP 2 rfl rfl Tryz.underlying30 rfl (by kernel_rfl)) rfl rfl rfl ?_
      refine Seq.val (Runs.loadP (ps := a.say) rfl rfl Tryz.underlying28 rfl k900 (m := 12) (by kernel_rfl) rfl (act_say a)) rfl rfl rfl ?_
      refine Seq.call (Enters.func rfl rfl rfl (run_enter Tryz.func78 (by kernel_rfl) rfl)) rfl rfl rfl (asked_one a _ nb) ?_
      rintro e w3 ⟨rfl, hb3⟩
      refine ⟨_, rfl, ?_⟩
      replace bel := bel.step hb3
      replace k900 := k900.step hb3
      replace kl := kl.step hb3
      replace own := own.step hb3
      refine Seq.slice (vs := [_]) (s := 10) rfl rfl rfl Tryz.underlying166 (by kernel_rfl) (zero_debentureref26_Ask) (by omega) (by omega) ⟨rfl, trivial⟩ rfl rfl rfl ?_
      intro g31 w1 n31
      have e31 := Nat.le_trans bel.size n31.ge
      have l31 := Nat.lt_of_lt_of_le k900.lt n31.ge
      replace bel := bel.step n31.below
      replace k900 := k900.step n31.below
      replace kl := kl.step n31.below
      replace own := own.step n31.below
      have k31 := n31.blk
      have hrd : Reads _ _ 10 (some ⟨g31, 0, none⟩) 1 a.cs := Reads.blk (size := 10) k31 1 rfl
      refine Seq.append rfl rfl rfl Tryz.underlying166 (by kernel_rfl) zero_debentureref26_Ask rfl (by decide) (b := 120) (by kernel_rfl) own (hrd) (one_As a) bel.size (by simp only [maxLen]; omega) (by omega) rfl rfl rfl ?_
      clear own
      intro vw2 w2 own haw2
      replace bel := bel.trans haw2.below
      replace k900 := k900.grown haw2.grown (by intro e; cases e)
      replace kl := kl.grown haw2.grown (by intro e; cases e)
      refine Seq.val (Runs.assign rfl rfl) rfl rfl rfl ?_
      refine Seq.nil ?_
      refine Post.weak (F' := [(0, _), (3, _), (4, _), (5, _), (18, _)]) ⟨rfl, rfl, rfl, rfl, rfl, trivial⟩ ?_
      refine Post.block_normal ?_
      refine Post.then_ ?_
      refine Cd.region ?_
      refine Seq.val (Runs.move rfl rfl) rfl rfl rfl ?_
      refine Seq.val (Runs.addI rfl rfl rfl (by omega) (by omega)) rfl rfl rfl ?_
      refine Seq.val (Runs.assign rfl rfl) rfl rfl rfl ?_
      refine Seq.nil ?_
      refine Post.weak (F' := [(0, _), (3, _), (4, _), (5, _), (18, _)]) ⟨rfl, rfl, rfl, rfl, rfl, trivial⟩ ?_
      exact Post.round (1, vw2) ⟨rfl, rfl, rfl, rfl, trivial⟩ ⟨by simp, own, by simp, bel, k900, kl⟩ (by simp)
    · obtain rfl : k = 1 := by omega
      refine Cd.exit ?_
      refine Post.then_exit ?_
      refine Post.round_exit ?_
      refine Post.block_exit ?_
      refine Post.block_normal ?_
      refine Post.then_ ?_
      refine Cd.region ?_
      refine Seq.val (Runs.move rfl rfl) rfl rfl rfl ?_
      refine Seq.val (Runs.addI rfl rfl rfl (by omega) (by omega)) rfl rfl rfl ?_
      refine Seq.val (Runs.assign rfl rfl) rfl rfl rfl ?_
      refine Seq.nil ?_
      refine Post.weak (F' := [(0, _), (3, _), (4, _), (5, _), (18, _)]) ⟨rfl, rfl, rfl, rfl, rfl, trivial⟩ ?_
      exact Post.round (1, v) ⟨rfl, rfl, rfl, trivial⟩ ⟨by simp, own, by simp, bel, k900, kl⟩ (by simp)
  · obtain rfl : i = 1 := by omega
    obtain ⟨A7, c7, rfl, hrd⟩ := own.reads
    refine Cd.exit ?_
    refine Post.then_exit ?_
    refine Post.round_exit ?_
    refine Post.block_exit ?_
    refine Post.then_ ?_
    refine Cd.seq ?_
    refine Cd.region ?_
    refine Seq.val (Runs.move rfl rfl) rfl rfl rfl ?_
    refine Seq.call (Enters.func rfl rfl rfl (run_enter Tryz.func79 (by kernel_rfl) rfl)) rfl rfl rfl (heavy_any _ c7 A7 a _ hrd (by omega) hb) ?_
    rintro e w7 ⟨⟨b, rfl⟩, rfl⟩
    refine ⟨_, rfl, ?_⟩
    refine Seq.val (Runs.assign rfl rfl) rfl rfl rfl ?_
    refine Seq.nil ?_
    refine Post.weak (F' := [(0, _), (2, _), (3, _), (4, _), (9, _)]) ⟨rfl, rfl, rfl, rfl, rfl, trivial⟩ ?_
    refine Post.then_ ?_
    refine Cd.ret ?_
    refine Post.end1 rfl rfl (.inl rfl) ?_
    exact ⟨⟨_, rfl⟩, bel⟩
end Go.Proofs.YtenikchlnfhikaaGreatDoor

namespace Go.Proofs.YtenikchlnfhikaaGreatDoor
open Go.RowKit

theorem zero___debenturelaw26_Act : zeroIs Tryz.prog 31 = some (some (.slice none 0 0)) := by kernel_rfl
/-- Short texts. -/
def As.small (a : As) : Prop := a.r.length ≤ 100 ∧ a.i.length ≤ 100 ∧ a.x.length ≤ 100 ∧ a.y.length ≤ 100 ∧ a.t.length ≤ 4100
set_option maxHeartbeats 4000000 in
theorem great_one (g900 c : Nat) (a : As) (w : World) (hg : Nb w) (k900 : Blk w g900 30 a.act.toArray) (hb : ∀ x ∈ a.t, x < 256) :
    Calls Tryz.prog 6 #[.slice (some ⟨g900, 0, none⟩) 1 c] w fun e w' => (∃ b, e = .returned (.bool b) ∧ (b = false → a.small)) ∧ Below w.heap.size w w' := by
  have bel := Below.refl w.heap.size w
  refine Calls.start 71 Tryz.func6 rfl rfl rfl ?_
  refine Cd.seq ?_
  refine Cd.region ?_
  refine Seq.val (Runs.assign rfl rfl) rfl rfl rfl ?_
  refine Seq.nil ?_
  refine Post.weak (F' := [(0, _), (2, _)]) ⟨rfl, rfl, trivial⟩ ?_
  refine Post.then_ ?_
  refine Cd.seq ?_
  refine Cd.seq ?_
  refine Cd.region ?_
  refine Seq.val (Runs.move rfl rfl) rfl rfl rfl ?_
  refine Seq.val (Runs.len rfl rfl Tryz.underlying31) rfl rfl rfl ?_
  refine Seq.val (Runs.gtr rfl rfl rfl) rfl rfl rfl ?_
  refine Seq.nil ?_
  refine Post.weak (F' := [(0, _), (2, _), (7, _)]) ⟨rfl, rfl, rfl, trivial⟩ ?_
  refine Post.then_ ?_
  refine Cd.condF rfl (by simp) ?_
  refine Cd.skip ?_
  refine Post.then_ ?_
  refine Cd.seq ?_
  refine Cd.seq ?_
  refine Cd.region ?_
  refine Seq.val (Runs.assign rfl rfl) rfl rfl rfl ?_
  refine Seq.nil ?_
  refine Post.weak (F' := [(0, _), (2, _), (3, _), (7, _)]) ⟨rfl, rfl, rfl, rfl, trivial⟩ ?_
  refine Post.then_ ?_
  refine Cd.block ?_
  refine Cd.loop (σ := Nat) (fun q => [(0, .slice (some ⟨g900, 0, none⟩) 1 c), (3, .int .i64 (q : Int))]) (fun q wr => q ≤ 1 ∧ (q = 1 → a.small) ∧ Below w.heap.size w wr ∧ Blk wr g900 30 a.act.toArray) (fun q => 1 - q) 0 ⟨by simp, by simp, bel, k900⟩ ⟨rfl, rfl, trivial⟩ ?_
  clear bel k900
  rintro i wr ⟨hi, hsm, bel, k900⟩
  show Cd _ _ _ _ [(0, .slice (some ⟨g900, 0, none⟩) 1 c), (3, .int .i64 (i : Int))] _
  refine Cd.seq ?_
  refine Cd.seq ?_
  refine Cd.region ?_
  refine Seq.val (Runs.move rfl rfl) rfl rfl rfl ?_
  refine Seq.val (Runs.move rfl rfl) rfl rfl rfl ?_
  refine Seq.val (Runs.len rfl rfl Tryz.underlying31) rfl rfl rfl ?_
  refine Seq.val (Runs.lss rfl rfl rfl) rfl rfl rfl ?_
  refine Seq.nil ?_
  refine Post.weak (F' := [(0, _), (3, _), (11, _)]) ⟨rfl, rfl, rfl, trivial⟩ ?_
  refine Post.then_ ?_
  refine Cd.condD rfl (fun hc => ?_) (fun hc => ?_)
  · obtain rfl : i = 0 := by omega
    refine Cd.skip ?_
    refine Post.then_ ?_
    refine Cd.seq ?_
    refine Cd.block ?_
    refine Cd.seq ?_
    refine Cd.region ?_
    refine Seq.val (Runs.move rfl rfl) rfl rfl rfl ?_
    refine Seq.val (Runs.move rfl rfl) rfl rfl rfl ?_
    refine Seq.val (Runs.indexBN rfl rfl rfl Tryz.underlying31 (s := 14) (by kernel_rfl) (j := 0) rfl (by omega)) rfl rfl rfl ?_
    refine Seq.val (Runs.fieldP 2 rfl rfl Tryz.underlying30 rfl (by kernel_rfl)) rfl rfl rfl ?_
    refine Seq.val (Runs.fieldP 0 rfl rfl Tryz.underlying28 rfl (by kernel_rfl)) rfl rfl rfl ?_
    refine Seq.val (Runs.loadP (ps := a.cs) rfl rfl Tryz.underlying23 rfl k900 (m := 10) (by kernel_rfl) rfl (act_get a)) rfl rfl rfl ?_
    refine Seq.alloc rfl (run_zero zero_debentureref26_Ask) rfl rfl rfl ?_
    intro g4 w1 n4
    have e4 := Nat.le_trans bel.size n4.ge
    have l4 := Nat.lt_of_lt_of_le k900.lt n4.ge
    replace bel := bel.step n4.below
    replace k900 := k900.step n4.below
    have k4 := n4.blk
    refine Seq.storeN rfl rfl rfl rfl (m := 10) (by kernel_rfl) rfl (by repeat' first | exact trivial | apply And.intro | rfl | assumption) k4 (by simp [Value.cells]) rfl rfl ?_
    intro w2 pw2
    replace bel := bel.put k4 pw2 e4
    replace k900 := k900.put pw2 (by omega)
    replace k4 := pw2.blk
    refine Seq.nil ?_
    refine Post.weak (F' := [(0, _), (3, _), (4, _), (11, _)]) ⟨rfl, rfl, rfl, rfl, trivial⟩ ?_
    refine Post.then_ ?_
    refine Cd.seq ?_
    refine Cd.region ?_
    refine Seq.val (Runs.fieldB 1 rfl rfl Tryz.underlying23 rfl (by kernel_rfl)) rfl rfl rfl ?_
    refine Seq.val (Runs.loadB rfl rfl Tryz.underlying9 rfl k4 rfl) rfl rfl rfl ?_
    refine Seq.val (Runs.lenL rfl rfl Tryz.underlying9) rfl rfl rfl ?_
    refine Seq.val (Runs.gtr rfl rfl rfl) rfl rfl rfl ?_
    refine Seq.val (Runs.move rfl rfl) rfl rfl rfl ?_
    refine SeqC.start ?_
    refine SeqC.open rfl rfl rfl rfl rfl rfl rfl (fun hcx => Runs.fieldB 2 rfl rfl Tryz.underlying23 rfl (by kernel_rfl)) ?_
    refine SeqC.next rfl rfl rfl rfl rfl rfl rfl (fun hcx => Runs.loadB rfl rfl Tryz.underlying9 rfl k4 rfl) ?_
    refine SeqC.next rfl rfl rfl rfl rfl rfl rfl (fun hcx => Runs.lenL rfl rfl Tryz.underlying9) ?_
    refine SeqC.next rfl rfl rfl rfl rfl rfl rfl (fun hcx => Runs.gtr rfl rfl rfl) ?_
    refine SeqC.or rfl rfl rfl rfl rfl rfl rfl ?_
    refine Seq.val (Runs.move rfl rfl) rfl rfl rfl ?_
    refine SeqC.start ?_
    refine SeqC.open rfl rfl rfl rfl rfl rfl rfl (fun hcx => Runs.fieldB 3 rfl rfl Tryz.underlying23 rfl (by kernel_rfl)) ?_
    refine SeqC.next rfl rfl rfl rfl rfl rfl rfl (fun hcx => Runs.loadB rfl rfl Tryz.underlying9 rfl k4 rfl) ?_
    refine SeqC.next rfl rfl rfl rfl rfl rfl rfl (fun hcx => Runs.lenL rfl rfl Tryz.underlying9) ?_
    refine SeqC.next rfl rfl rfl rfl rfl rfl rfl (fun hcx => Runs.gtr rfl rfl rfl) ?_
    refine SeqC.or rfl rfl rfl rfl rfl rfl rfl ?_
    refine Seq.val (Runs.move rfl rfl) rfl rfl rfl ?_
    refine SeqC.start ?_
    refine SeqC.open rfl rfl rfl rfl rfl rfl rfl (fun hcx => Runs.fieldB 4 rfl rfl Tryz.underlying23 rfl (by kernel_rfl)) ?_
    refine SeqC.next rfl rfl rfl rfl rfl rfl rfl (fun hcx => Runs.loadB rfl rfl Tryz.underlying9 rfl k4 rfl) ?_
    refine SeqC.next rfl rfl rfl rfl rfl rfl rfl (fun hcx => Runs.lenL rfl rfl Tryz.underlying9) ?_
    refine SeqC.next rfl rfl rfl rfl rfl rfl rfl (fun hcx => Runs.gtr rfl rfl rfl) ?_
    refine SeqC.or rfl rfl rfl rfl rfl rfl rfl ?_
    refine Seq.val (Runs.move rfl rfl) rfl rfl rfl ?_
    refine SeqC.start ?_
    refine SeqC.open rfl rfl rfl rfl rfl rfl rfl (fun hcx => Runs.fieldB 5 rfl rfl Tryz.underlying23 rfl (by kernel_rfl)) ?_
    refine SeqC.next rfl rfl rfl rfl rfl rfl rfl (fun hcx => Runs.loadB rfl rfl Tryz.underlying9 rfl k4 rfl) ?_
    refine SeqC.next rfl rfl rfl rfl rfl rfl rfl (fun hcx => Runs.lenL rfl rfl Tryz.underlying9) ?_
    refine SeqC.next rfl rfl rfl rfl rfl rfl rfl (fun hcx => Runs.gtr rfl rfl rfl) ?_
    refine SeqC.or rfl rfl rfl rfl rfl rfl rfl ?_
    refine Seq.val (Runs.move rfl rfl) rfl rfl rfl ?_
    refine SeqC.start ?_
    refine SeqC.open rfl rfl rfl rfl rfl rfl rfl (fun hcx => Runs.move rfl rfl) ?_
    refine SeqC.next rfl rfl rfl rfl rfl rfl rfl (fun hcx => Runs.move rfl rfl) ?_
    replace k4 : Blk _ g4 23 a.cs.toArray := k4
    refine SeqC.next rfl rfl rfl rfl rfl rfl rfl (fun hcx => Runs.indexBN rfl rfl rfl Tryz.underlying31 (s := 14) (by kernel_rfl) (j := 0) rfl (by omega)) ?_
    refine SeqC.next rfl rfl rfl rfl rfl rfl rfl (fun hcx => Runs.fieldP 2 rfl rfl Tryz.underlying30 rfl (by kernel_rfl)) ?_
    refine SeqC.next rfl rfl rfl rfl rfl rfl rfl (fun hcx => Runs.fieldP 10 rfl rfl Tryz.underlying28 rfl (by kernel_rfl)) ?_
    refine SeqC.next rfl rfl rfl rfl rfl rfl rfl (fun hcx => Runs.loadB rfl rfl Tryz.underlying25 rfl k900 rfl) ?_
    refine SeqC.next rfl rfl rfl rfl rfl rfl rfl (fun hcx => Runs.len rfl rfl Tryz.underlying25) ?_
    refine SeqC.next rfl rfl rfl rfl rfl rfl rfl (fun hcx => Runs.gtr rfl rfl rfl) ?_
    refine SeqC.or rfl rfl rfl rfl rfl rfl rfl ?_
    refine Seq.val (Runs.move rfl rfl) rfl rfl rfl ?_
    refine SeqC.start ?_
    refine SeqC.open rfl rfl rfl rfl rfl rfl rfl (fun hcx => Runs.move rfl rfl) ?_
    refine SeqC.next rfl rfl rfl rfl rfl rfl rfl (fun hcx => Runs.move rfl rfl) ?_
    refine SeqC.next rfl rfl rfl rfl rfl rfl rfl (fun hcx => Runs.indexBN rfl rfl rfl Tryz.underlying31 (s := 14) (by kernel_rfl) (j := 0) rfl (by omega)) ?_
    refine SeqC.next rfl rfl rfl rfl rfl rfl rfl (fun hcx => Runs.fieldP 2 rfl rfl Tryz.underlying30 rfl (by kernel_rfl)) ?_
    refine SeqC.next rfl rfl rfl rfl rfl rfl rfl (fun hcx => Runs.fieldP 11 rfl rfl Tryz.underlying28 rfl (by kernel_rfl)) ?_
    refine SeqC.next rfl rfl rfl rfl rfl rfl rfl (fun hcx => Runs.loadB rfl rfl Tryz.underlying26 rfl k900 rfl) ?_
    refine SeqC.next rfl rfl rfl rfl rfl rfl rfl (fun hcx => Runs.len rfl rfl Tryz.underlying26) ?_
    refine SeqC.next rfl rfl rfl rfl rfl rfl rfl (fun hcx => Runs.gtr rfl rfl rfl) ?_
    refine SeqC.or rfl rfl rfl rfl rfl rfl rfl ?_
    refine Seq.nil ?_
    refine Post.weak (F' := [(0, _), (3, _), (4, _), (11, _), (67, _)]) ⟨rfl, rfl, rfl, rfl, rfl, trivial⟩ ?_
    refine Post.then_ ?_
    refine Cd.cond rfl (fun h => ?_) (fun h => ?_)
    · skip
      refine Cd.seq ?_
      refine Cd.region ?_
      refine Seq.val (Runs.assign rfl rfl) rfl rfl rfl ?_
      refine Seq.nil ?_
      refine Post.weak (F' := [(0, _), (2, _), (3, _), (4, _), (11, _), (67, _)]) ⟨rfl, rfl, rfl, rfl, rfl, rfl, trivial⟩ ?_
      refine Post.then_ ?_
      refine Cd.ret ?_
      refine Post.block_ret ?_
      refine Post.then_ret ?_
      refine Post.round_ret ?_
      refine Post.block_ret ?_
      refine Post.then_ret ?_
      refine Post.end1 rfl rfl (.inl rfl) ?_
      exact ⟨⟨_, rfl, fun h => by cases h⟩, bel⟩
    · have hs : a.small := by
        simp at h
        refine ⟨?_, ?_, ?_, ?_, ?_⟩ <;> omega
      refine Cd.skip ?_
      refine Post.block_normal ?_
      refine Post.then_ ?_
      refine Cd.region ?_
      refine Seq.val (Runs.move rfl rfl) rfl rfl rfl ?_
      refine Seq.val (Runs.addI rfl rfl rfl (by omega) (by omega)) rfl rfl rfl ?_
      refine Seq.val (Runs.assign rfl rfl) rfl rfl rfl ?_
      refine Seq.nil ?_
      refine Post.weak (F' := [(0, _), (3, _), (4, _), (11, _), (67, _)]) ⟨rfl, rfl, rfl, rfl, rfl, trivial⟩ ?_
      exact Post.round 1 ⟨rfl, rfl, trivial⟩ ⟨by simp, fun _ => hs, bel, k900⟩ (by simp)
  · obtain rfl : i = 1 := by omega
    have hs := hsm rfl
    have nb := hg.below bel hg.lt hg.lt2
    refine Cd.exit ?_
    refine Post.then_exit ?_
    refine Post.round_exit ?_
    refine Post.block_exit ?_
    refine Post.then_ ?_
    refine Cd.seq ?_
    refine Cd.region ?_
    refine Seq.val (Runs.move rfl rfl) rfl rfl rfl ?_
    refine Seq.slice (vs := [_]) (s := 1) rfl rfl rfl Tryz.underlying165 (by kernel_rfl) (zero___debenturelaw26_Act) (by omega) (by omega) ⟨rfl, trivial⟩ rfl rfl rfl ?_
    intro g69 w1 n69
    have e69 := Nat.le_trans bel.size n69.ge
    have l69 := Nat.lt_of_lt_of_le k900.lt n69.ge
    replace bel := bel.step n69.below
    replace k900 := k900.step n69.below
    replace nb := nb.step n69.below
    have k69 := n69.blk
    refine Seq.call (Enters.func rfl rfl rfl (run_enter Tryz.func34 (by kernel_rfl) rfl)) rfl rfl rfl (heavy_one g900 g69 c 1 a _ nb k900 k69 (by have := hs.2.2.2.2; omega) hb) ?_
    rintro e w7 ⟨⟨b, rfl⟩, hb7⟩
    refine ⟨_, rfl, ?_⟩
    replace bel := bel.step hb7
    refine Seq.val (Runs.assign rfl rfl) rfl rfl rfl ?_
    refine Seq.nil ?_
    refine Post.weak (F' := [(0, _), (2, _), (3, _), (11, _)]) ⟨rfl, rfl, rfl, rfl, trivial⟩ ?_
    refine Post.then_ ?_
    refine Cd.ret ?_
    refine Post.end1 rfl rfl (.inl rfl) ?_
    exact ⟨⟨_, rfl, fun _ => hs⟩, bel⟩
end Go.Proofs.YtenikchlnfhikaaGreatDoor

namespace Go.Proofs.YtenikchlnfhikaaGreatDoor
open Go.RowKit

theorem zero_debenturelaw26_Act : zeroIs Tryz.prog 30 = some (some (.agg #[.int .i64 0, .int .i64 0, .int .i64 0, .string { data := #[] }, .string { data := #[] }, .string { data := #[] }, .string { data := #[] }, .string { data := #[] }, .int .i64 0, .int .i64 0, .int .i64 0, .int .i64 0, .slice none 0 0, .slice none 0 0])) := by kernel_rfl
theorem run_build_say (a : As) (w : World) : (Instr.build 28 #[(0, a.v)]).run Tryz.prog w = .ok (.agg a.say.toArray) w := by
  have hu := Tryz.underlying28
  go_simp
theorem run_build_act (a : As) (w : World) : (Instr.build 30 #[(2, .agg a.say.toArray)]).run Tryz.prog w = .ok (.agg a.act.toArray) w := by
  have hu := Tryz.underlying30
  go_simp
/-- What is known of an ask's numbers and texts, as it comes in. -/
structure As.byt (a : As) : Prop where
  r : ∀ x ∈ a.r, x < 256
  i : ∀ x ∈ a.i, x < 256
  x : ∀ z ∈ a.x, z < 256
  y : ∀ z ∈ a.y, z < 256
  t : ∀ x ∈ a.t, x < 256
  k : I64 a.k
  d : I64 a.d
  p : I64 a.p
  wh : I64 a.wh
  n : I64 a.n
theorem As.byt.rng {a : As} (h : a.byt) (hs : a.small) : a.rng := by
  obtain ⟨s1, s2, s3, s4, s5⟩ := hs
  refine ⟨h.r, by omega, h.t, ⟨h.k, h.i, h.x, h.y, h.t, ?_, h.p, h.wh, h.n, ?_, ?_, ?_, ?_⟩, h.d⟩
  · show I64 (if a.k = 1 ∨ a.k = 3 then 0 else a.d)
    split
    · exact ⟨by omega, by omega⟩
    · exact h.d
  · show a.i.length ≤ _; omega
  · show a.x.length ≤ _; omega
  · show a.y.length ≤ _; omega
  · show a.t.length ≤ _; omega
set_option maxHeartbeats 2000000 in
theorem walk_asks (a : As) (w : World) (nb : Nb w) (hb : a.byt) : Calls Tryz.prog 3 #[a.v] w fun e w' => e = .returned (.bool true) ∧ Below w.heap.size w w' := by
  have bel := Below.refl w.heap.size w
  refine Calls.start 17 Tryz.func3 rfl rfl rfl ?_
  refine Cd.seq ?_
  refine Cd.region ?_
  refine Seq.box rfl rfl rfl rfl rfl ?_
  intro g1 w1 n1
  have e1 := Nat.le_trans bel.size n1.ge
  replace bel := bel.step n1.below
  replace nb := nb.step n1.below
  have k1 := n1.blk
  refine Seq.val (Runs.assign rfl rfl) rfl rfl rfl ?_
  refine Seq.nil ?_
  refine Post.weak (F' := [(0, _), (1, _), (2, _)]) ⟨rfl, rfl, rfl, trivial⟩ ?_
  refine Post.then_ ?_
  refine Cd.seq ?_
  refine Cd.seq ?_
  refine Cd.region ?_
  refine Seq.val (Runs.loadW rfl rfl Tryz.underlying23 rfl k1 (m := 10) (by kernel_rfl) rfl) rfl rfl rfl ?_
  refine Seq.val (Runs.build rfl rfl (run_build_say a _)) rfl rfl rfl ?_
  refine Seq.val (Runs.build rfl rfl (run_build_act a _)) rfl rfl rfl ?_
  refine Seq.slice (vs := [_]) (s := 14) rfl rfl rfl Tryz.underlying31 (by kernel_rfl) (zero_debenturelaw26_Act) (by omega) (by omega) ⟨rfl, trivial⟩ rfl rfl rfl ?_
  intro g6 w2 n6
  have e6 := Nat.le_trans bel.size n6.ge
  have l6 := Nat.lt_of_lt_of_le k1.lt n6.ge
  replace bel := bel.step n6.below
  replace nb := nb.step n6.below
  replace k1 := k1.step n6.below
  have k6 := n6.blk
  refine Seq.call (Enters.func rfl rfl rfl (run_enter Tryz.func6 (by kernel_rfl) rfl)) rfl rfl rfl (great_one _ 1 a _ nb k6 hb.t) ?_
  rintro e w9 ⟨⟨b, rfl, hsm⟩, hb9⟩
  refine ⟨_, rfl, ?_⟩
  replace bel := bel.step hb9
  replace nb := nb.step hb9
  replace k1 := k1.step hb9
  refine Seq.nil ?_
  refine Post.weak (F' := [(0, _), (1, _), (2, _), (7, _)]) ⟨rfl, rfl, rfl, rfl, trivial⟩ ?_
  refine Post.then_ ?_
  refine Cd.cond rfl (fun h => ?_) (fun h => ?_)
  · skip
    refine Cd.seq ?_
    refine Cd.region ?_
    refine Seq.call (Enters.func rfl rfl rfl (run_enter Tryz.func7 (by kernel_rfl) rfl)) rfl rfl rfl (awake26_any _ nb) ?_
    rintro e w10 ⟨rfl, hb10⟩
    refine ⟨_, rfl, ?_⟩
    replace bel := bel.step hb10
    replace nb := nb.step hb10
    replace k1 := k1.step hb10
    refine Seq.val (Runs.assign rfl rfl) rfl rfl rfl ?_
    refine Seq.nil ?_
    refine Post.weak (F' := [(0, _), (1, _), (2, _), (7, _)]) ⟨rfl, rfl, rfl, rfl, trivial⟩ ?_
    refine Post.then_ ?_
    refine Cd.ret ?_
    refine Post.then_ret ?_
    refine Post.end1 rfl rfl (.inl rfl) ?_
    exact ⟨rfl, bel⟩
  · have hr := hb.rng (hsm h)
    refine Cd.skip ?_
    refine Post.then_ ?_
    refine Cd.seq ?_
    refine Cd.weak (F' := [(0, _), (1, _), (7, _)]) ⟨rfl, rfl, rfl, trivial⟩ ?_
    refine Cd.draw 9 (by kernel_rfl) [] (.inl rfl) rfl Grow Grow.refl (fun _ _ _ => Grow.trans) ?_
    intro w3 hw3 zw3
    replace bel := bel.step hw3
    replace nb := nb.step hw3
    replace k1 := k1.step hw3
    have zbel := bel.size
    have zlt := k1.lt
    refine Dr.val Grow.refl rfl (fun w hG => Runs.loadW rfl rfl Tryz.underlying23 rfl (k1.step hG) (m := 10) (by kernel_rfl) rfl) rfl ?_
    refine Dr.callV rfl (fun w => Enters.func rfl rfl rfl (run_enter Tryz.func8 (by kernel_rfl) rfl)) rfl (fun w hG => engRight_any a hr _ (nb.step hG)) ?_
    refine Dr.val Grow.refl rfl (fun w hG => Runs.loadW rfl rfl Tryz.underlying23 rfl (k1.step hG) (m := 10) (by kernel_rfl) rfl) rfl ?_
    refine Dr.callV rfl (fun w => Enters.func rfl rfl rfl (run_enter Tryz.func9 (by kernel_rfl) rfl)) rfl (fun w hG => refAskRight_any a hr _ (nb.step hG)) ?_
    refine Dr.val Grow.refl rfl (fun w hG => (Runs.eqlB rfl rfl rfl Tryz.underlying4).isT (rfl)) rfl ?_
    refine Dr.val Grow.refl rfl (fun w hG => Runs.move rfl rfl) rfl ?_
    refine Dr.callVG rfl (fun w => Enters.func rfl rfl rfl (run_enter Tryz.func7 (by kernel_rfl) rfl)) rfl rfl rfl (fun w hG => awake26_any _ (nb.step hG)) ?_
    refine Dr.val Grow.refl rfl (fun w hG => Runs.pickT rfl rfl rfl) rfl ?_
    refine Dr.val Grow.refl rfl (fun w hG => Runs.assign rfl rfl) rfl ?_
    refine Dr.nil ?_
    refine FinX.done (F' := [(0, _), (1, _), (2, _), (7, _)]) rfl ⟨rfl, rfl, rfl, rfl, trivial⟩ ?_
    intro w4 hw4 fw4
    replace bel := bel.step hw4
    replace nb := nb.step hw4
    replace k1 := k1.step hw4
    refine Seq.nil ?_
    refine Post.weak (F' := [(0, _), (1, _), (2, _), (7, _)]) ⟨rfl, rfl, rfl, rfl, trivial⟩ ?_
    refine Post.then_ ?_
    refine Cd.ret ?_
    refine Post.end1 rfl rfl (.inl rfl) ?_
    exact ⟨rfl, bel⟩
end Go.Proofs.YtenikchlnfhikaaGreatDoor

namespace Go.Proofs.YtenikchlnfhikaaGreatDoor
open Go.ChangeShapes Go.WideShapes Go.Deep Go.RowKit

set_option maxRecDepth 100000 in
theorem open_int {W : World} {base t : Nat} {v : Value} {k : IntKind} (hu : Tryz.prog.underlying t = some (.int k)) (hv : Value.okWide Tryz.prog W .any base t v) : ∃ n, v = .int k n ∧ k.has n := by
  obtain ⟨n, rfl⟩ := okWide_int hu hv
  simp only [Value.okWide, hu, Cell.okWide] at hv
  exact ⟨n, rfl, by simpa [Cell.ok, hu] using hv⟩
set_option maxRecDepth 100000 in
theorem open_i64 {W : World} {base t : Nat} {v : Value} (hu : Tryz.prog.underlying t = some (.int .i64)) (hv : Value.okWide Tryz.prog W .any base t v) : ∃ n, v = .int .i64 n ∧ I64 n := by
  obtain ⟨n, rfl, h⟩ := open_int hu hv
  exact ⟨n, rfl, h.1, h.2⟩
set_option maxRecDepth 100000 in
theorem open_str {W : World} {base t : Nat} {v : Value} (hu : Tryz.prog.underlying t = some .string) (hv : Value.okWide Tryz.prog W .any base t v) : ∃ l : List Nat, v = .string (strOf l) ∧ (∀ x ∈ l, x < 256) ∧ l.length ≤ 9223372036854775807 := by
  obtain ⟨s, rfl⟩ := okWide_string hu hv
  simp only [Value.okWide, hu, Cell.okWide] at hv
  have hs : (s.size : Int) ≤ 9223372036854775807 := by simpa [Cell.ok, hu] using hv
  refine ⟨bytesOf s, by rw [strOf_bytesOf], bytesOf_lt s, ?_⟩
  have : (bytesOf s).length = s.size := by rw [← strOf_size, strOf_bytesOf]
  omega
end Go.Proofs.YtenikchlnfhikaaGreatDoor


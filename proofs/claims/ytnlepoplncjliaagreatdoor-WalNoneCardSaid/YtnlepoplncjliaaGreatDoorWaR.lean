/-
  crc: Sum, Laid, Frame. Condition: the table stands as it is laid; the lengths are within reach.
-/
import Derived.Test.YtnlepoplncjliaaGreatDoorWaQ
namespace Go.Proofs.YtnlepoplncjliaaGreatDoor
open Go.RowKit

/-- A sum, as it stands behind bytes. -/
def laidC (s : List Nat) : List Nat := [moreN 0 s % 256, moreN 0 s / 256 % 256, moreN 0 s / 65536 % 256, moreN 0 s / 16777216 % 256]
theorem laidC_len (s : List Nat) : (laidC s).length = 4 := rfl
theorem laidC_lt (s : List Nat) : Byt (laidC s) := by
  intro d hd
  simp only [laidC, List.mem_cons, List.not_mem_nil, or_false] at hd
  rcases hd with rfl | rfl | rfl | rfl <;> exact Nat.mod_lt _ (by omega)
theorem moreN_lt {s : List Nat} (hs : Byt s) : moreN 0 s < 4294967296 := by unfold moreN; omega
theorem run_build_Wr0 (w : World) : (Instr.build 120 #[]).run Tryz.prog w = .ok (.agg #[.slice none 0 0]) w := by kernel_rfl
theorem Nib.lt {w : World} (h : Nib w) : 3 < w.heap.size := World.block_lt_of_cell? w _ (h.cell 0 (by omega))
theorem Nib.below {w w' : World} {B : Nat} (h : Nib w) (hb : Below B w w') (hB : 3 < B) : Nib w' := ⟨fun i hi => (hb.cell hB).trans (h.cell i hi)⟩
theorem Nib.wf {w w' : World} {B : Nat} (h : Nib w) (f : Wf B w w') (hB : 3 < B := by omega) : Nib w' := h.below f.below (by have := h.lt; omega)
theorem Nib.put {w w' : World} {B g : Nat} {T : TypeId} {cur cs : Array Value} (h : Nib w) (_k : Blk w g T cur) (p : Put w w' g T cs) (e : B ≤ g) (hB : 3 < B := by omega) : Nib w' := h.below (p.below e _k.lt) hB
theorem sum_any (s : List Nat) (w : World) (hN : Nib w) (hs : Byt s) (hl : s.length ≤ 1000000000) : Calls Tryz.prog 91 #[.string (strOf s)] w fun e w' => e = .returned (.int .u32 ((moreN 0 s : Nat) : Int)) ∧ Grow w w' := by
  have bel := Below.refl w.heap.size w
  refine Calls.start 5 Tryz.func91 rfl rfl rfl ?_
  refine Cd.seq ?_
  refine Cd.region ?_
  refine Seq.val (Runs.assign rfl rfl) rfl rfl rfl ?_
  refine Seq.nil ?_
  refine Post.weak (F' := [(0, _), (2, _)]) ⟨rfl, rfl, trivial⟩ ?_
  refine Post.then_ ?_
  refine Cd.seq ?_
  refine Cd.region ?_
  refine Seq.val (Runs.move rfl rfl) rfl rfl rfl ?_
  refine Seq.call (Enters.func rfl rfl rfl (run_enter Tryz.func126 (by kernel_rfl) rfl)) rfl rfl rfl (more_any 0 s _ hN (by omega) hs hl) ?_
  rintro e w5 ⟨rfl, hb5⟩
  refine ⟨_, rfl, ?_⟩
  replace bel := bel.step hb5
  refine Seq.val (Runs.assign rfl rfl) rfl rfl rfl ?_
  refine Seq.nil ?_
  refine Post.weak (F' := [(0, _), (2, _)]) ⟨rfl, rfl, trivial⟩ ?_
  refine Post.then_ ?_
  refine Cd.ret ?_
  refine Post.end1 rfl rfl (.inl rfl) ?_
  exact ⟨rfl, bel⟩
theorem laid_c_any (s : List Nat) (w : World) (hN : Nib w) (hs : Byt s) (hl : s.length ≤ 1000000000) : Calls Tryz.prog 65 #[.string (strOf s)] w fun e w' => e = .returned (.string (strOf (laidC s))) ∧ Grow w w' := by
  have bel := Below.refl w.heap.size w
  have nb := hN
  have hm := moreN_lt hs
  refine Calls.start 12 Tryz.func65 rfl rfl rfl ?_
  refine Cd.seq ?_
  refine Cd.region ?_
  refine Seq.val (Runs.assign rfl rfl) rfl rfl rfl ?_
  refine Seq.nil ?_
  refine Post.weak (F' := [(0, _), (2, _)]) ⟨rfl, rfl, trivial⟩ ?_
  refine Post.then_ ?_
  refine Cd.seq ?_
  refine Cd.region ?_
  refine Seq.val (Runs.build rfl rfl (run_build_Wr0 _)) rfl rfl rfl ?_
  refine Seq.box rfl rfl rfl rfl rfl ?_
  intro g5 w1 n5
  have e5 := Nat.le_trans bel.size n5.ge
  replace bel := bel.step n5.below
  replace nb := nb.step n5.below
  have k5 := n5.blk
  refine Seq.val (Runs.assign rfl rfl) rfl rfl rfl ?_
  refine Seq.nil ?_
  refine Post.weak (F' := [(0, _), (2, _), (3, _)]) ⟨rfl, rfl, rfl, trivial⟩ ?_
  refine Post.then_ ?_
  refine Cd.seq ?_
  refine Cd.region ?_
  refine Seq.val (Runs.move rfl rfl) rfl rfl rfl ?_
  refine Seq.val (Runs.move rfl rfl) rfl rfl rfl ?_
  have wr : Wr w1 g5 g5 [] := ⟨Nat.le_refl _, fun d hd => (by cases hd), _, k5, Own.nil _ _ _ _⟩
  have wf := Wf.refl g5 w1
  have hg5 : g5 ≤ w1.heap.size := Nat.le_of_lt n5.lt
  refine Seq.call (Enters.func rfl rfl rfl (run_enter Tryz.func91 (by kernel_rfl) rfl)) rfl rfl rfl (sum_any s _ nb hs hl) ?_
  rintro e w5 ⟨rfl, hb5⟩
  refine ⟨_, rfl, ?_⟩
  replace nb := nb.step hb5
  replace wf := wf.step hb5
  replace wr := wr.step hb5
  refine Seq.call (Enters.func rfl rfl rfl (run_enter Tryz.func90 (by kernel_rfl) rfl)) rfl rfl rfl (rev_any _ _ hm) ?_
  rintro e w6 ⟨rfl, hb6⟩
  refine ⟨_, rfl, ?_⟩
  replace nb := nb.step hb6
  replace wf := wf.step hb6
  replace wr := wr.step hb6
  have h3 : 3 < g5 := by have := hN.lt; omega
  refine Seq.call (Enters.func rfl rfl rfl (run_enter Tryz.func63 (by kernel_rfl) rfl)) rfl rfl rfl (fixed4_any g5 g5 (revN (moreN 0 s)) [] _ wr (revN_lt _) (by simp)) ?_
  clear wr
  rintro e w2 ⟨rfl, fw2, wr⟩
  refine ⟨_, rfl, ?_⟩
  replace nb := nb.wf fw2
  replace wf := wf.wf fw2
  rw [beB_rev, List.nil_append] at wr
  refine Seq.call (Enters.func rfl rfl rfl (run_enter Tryz.func66 (by kernel_rfl) rfl)) rfl rfl rfl (wbytes_any g5 g5 _ _ wr) ?_
  rintro e w7 ⟨rfl, hb7⟩
  refine ⟨_, rfl, ?_⟩
  replace nb := nb.step hb7
  replace wf := wf.step hb7
  replace wr := wr.step hb7
  refine Seq.val (Runs.assign rfl rfl) rfl rfl rfl ?_
  refine Seq.nil ?_
  refine Post.weak (F' := [(0, _), (2, _), (3, _)]) ⟨rfl, rfl, rfl, trivial⟩ ?_
  refine Post.then_ ?_
  refine Cd.ret ?_
  refine Post.end1 rfl rfl (.inl rfl) ?_
  exact ⟨rfl, bel.trans ((wf.to hg5).mono e5)⟩
/-- Bytes in a frame. -/
def frameN (s : List Nat) : List Nat := beB 4 s.length ++ laidC (beB 4 s.length) ++ s ++ laidC s
theorem frameN_len (s : List Nat) : (frameN s).length = s.length + 12 := by
  unfold frameN
  simp only [List.length_append, beB_len, laidC_len]
  omega
theorem frameN_lt {s : List Nat} (hs : Byt s) : Byt (frameN s) := Byt.app (Byt.app (Byt.app (beB_lt 4 _) (laidC_lt _)) hs) (laidC_lt _)
theorem frame_any (s : List Nat) (w : World) (hN : Nib w) (hs : Byt s) (hl : s.length ≤ 100000000) : Calls Tryz.prog 39 #[.string (strOf s)] w fun e w' => e = .returned (.tuple #[.string (strOf (if s.length ≤ 131072 then frameN s else [])), .bool (decide (s.length ≤ 131072))]) ∧ Grow w w' := by
  have bel := Below.refl w.heap.size w
  have nb := hN
  refine Calls.start 26 Tryz.func39 rfl rfl rfl ?_
  refine Cd.seq ?_
  refine Cd.region ?_
  refine Seq.val (Runs.assign rfl rfl) rfl rfl rfl ?_
  refine Seq.val (Runs.assign rfl rfl) rfl rfl rfl ?_
  refine Seq.nil ?_
  refine Post.weak (F' := [(0, _), (2, _), (3, _)]) ⟨rfl, rfl, rfl, trivial⟩ ?_
  refine Post.then_ ?_
  refine Cd.seq ?_
  refine Cd.seq ?_
  refine Cd.region ?_
  refine Seq.val (Runs.move rfl rfl) rfl rfl rfl ?_
  refine Seq.val (Runs.lenL rfl rfl Tryz.underlying9) rfl rfl rfl ?_
  refine Seq.val (Runs.gtr rfl rfl rfl) rfl rfl rfl ?_
  refine Seq.nil ?_
  refine Post.weak (F' := [(0, _), (2, _), (3, _), (7, _)]) ⟨rfl, rfl, rfl, rfl, trivial⟩ ?_
  refine Post.then_ ?_
  refine Cd.cond rfl (fun h => ?_) (fun h => ?_)
  · have h : ¬ s.length ≤ 131072 := by
      have : (131072 : Int) < (s.length : Int) := by simpa using h
      omega
    rw [if_neg h, decide_eq_false h]
    refine Cd.seq ?_
    refine Cd.region ?_
    refine Seq.val (Runs.assign rfl rfl) rfl rfl rfl ?_
    refine Seq.val (Runs.assign rfl rfl) rfl rfl rfl ?_
    refine Seq.nil ?_
    refine Post.weak (F' := [(0, _), (2, _), (3, _), (7, _)]) ⟨rfl, rfl, rfl, rfl, trivial⟩ ?_
    refine Post.then_ ?_
    refine Cd.ret ?_
    refine Post.then_ret ?_
    refine Post.end2 rfl rfl rfl (.inl rfl) ?_
    exact ⟨rfl, bel⟩
  have h : s.length ≤ 131072 := by
    have : ¬ (131072 : Int) < (s.length : Int) := by simpa using h
    omega
  rw [if_pos h, decide_eq_true h]
  refine Cd.skip ?_
  refine Post.then_ ?_
  refine Cd.seq ?_
  refine Cd.region ?_
  refine Seq.val (Runs.build rfl rfl (run_build_Wr0 _)) rfl rfl rfl ?_
  refine Seq.box rfl rfl rfl rfl rfl ?_
  intro g9 w1 n9
  have e9 := Nat.le_trans bel.size n9.ge
  replace bel := bel.step n9.below
  replace nb := nb.step n9.below
  have k9 := n9.blk
  refine Seq.val (Runs.assign rfl rfl) rfl rfl rfl ?_
  refine Seq.nil ?_
  refine Post.weak (F' := [(0, _), (2, _), (3, _), (4, _), (7, _)]) ⟨rfl, rfl, rfl, rfl, rfl, trivial⟩ ?_
  refine Post.then_ ?_
  refine Cd.seq ?_
  refine Cd.region ?_
  refine Seq.val (Runs.move rfl rfl) rfl rfl rfl ?_
  refine Seq.val (Runs.move rfl rfl) rfl rfl rfl ?_
  refine Seq.val (Runs.lenL rfl rfl Tryz.underlying9) rfl rfl rfl ?_
  have wr : Wr w1 g9 g9 [] := ⟨Nat.le_refl _, fun d hd => (by cases hd), _, k9, Own.nil _ _ _ _⟩
  have wf := Wf.refl g9 w1
  have hg9 : g9 ≤ w1.heap.size := Nat.le_of_lt n9.lt
  have h3 : 3 < g9 := by have := hN.lt; omega
  have hb4 : Byt (beB 4 s.length) := beB_lt 4 _
  refine Seq.val (Runs.convI rfl rfl Tryz.underlying3 Tryz.underlying65 (u32_id (by omega))) rfl rfl rfl ?_
  refine Seq.call (Enters.func rfl rfl rfl (run_enter Tryz.func63 (by kernel_rfl) rfl)) rfl rfl rfl (fixed4_any g9 g9 s.length [] _ wr (by omega) (by simp)) ?_
  clear wr
  rintro e w2 ⟨rfl, fw2, wr⟩
  refine ⟨_, rfl, ?_⟩
  replace nb := nb.wf fw2
  replace wf := wf.wf fw2
  refine Seq.nil ?_
  refine Post.weak (F' := [(0, _), (2, _), (3, _), (4, _), (7, _)]) ⟨rfl, rfl, rfl, rfl, rfl, trivial⟩ ?_
  refine Post.then_ ?_
  refine Cd.seq ?_
  refine Cd.region ?_
  refine Seq.val (Runs.move rfl rfl) rfl rfl rfl ?_
  refine Seq.val (Runs.move rfl rfl) rfl rfl rfl ?_
  rw [List.nil_append] at wr
  refine Seq.call (Enters.func rfl rfl rfl (run_enter Tryz.func66 (by kernel_rfl) rfl)) rfl rfl rfl (wbytes_any g9 g9 _ _ wr) ?_
  rintro e w7 ⟨rfl, hb7⟩
  refine ⟨_, rfl, ?_⟩
  replace nb := nb.step hb7
  replace wf := wf.step hb7
  replace wr := wr.step hb7
  refine Seq.call (Enters.func rfl rfl rfl (run_enter Tryz.func65 (by kernel_rfl) rfl)) rfl rfl rfl (laid_c_any _ _ nb hb4 (by rw [beB_len]; omega)) ?_
  rintro e w8 ⟨rfl, hb8⟩
  refine ⟨_, rfl, ?_⟩
  replace nb := nb.step hb8
  replace wf := wf.step hb8
  replace wr := wr.step hb8
  refine Seq.call (Enters.func rfl rfl rfl (run_enter Tryz.func64 (by kernel_rfl) rfl)) rfl rfl rfl (raw_any g9 g9 (laidC (beB 4 s.length)) _ _ wr (laidC_lt _) (by rw [beB_len, laidC_len]; omega)) ?_
  clear wr
  rintro e w3 ⟨rfl, fw3, wr⟩
  refine ⟨_, rfl, ?_⟩
  replace nb := nb.wf fw3
  replace wf := wf.wf fw3
  refine Seq.val (Runs.move rfl rfl) rfl rfl rfl ?_
  refine Seq.call (Enters.func rfl rfl rfl (run_enter Tryz.func64 (by kernel_rfl) rfl)) rfl rfl rfl (raw_any g9 g9 s _ _ wr hs (by simp only [List.length_append, beB_len, laidC_len]; omega)) ?_
  clear wr
  rintro e w4 ⟨rfl, fw4, wr⟩
  refine ⟨_, rfl, ?_⟩
  replace nb := nb.wf fw4
  replace wf := wf.wf fw4
  refine Seq.val (Runs.move rfl rfl) rfl rfl rfl ?_
  refine Seq.call (Enters.func rfl rfl rfl (run_enter Tryz.func65 (by kernel_rfl) rfl)) rfl rfl rfl (laid_c_any s _ nb hs (by omega)) ?_
  rintro e w9 ⟨rfl, hb9⟩
  refine ⟨_, rfl, ?_⟩
  replace nb := nb.step hb9
  replace wf := wf.step hb9
  replace wr := wr.step hb9
  refine Seq.call (Enters.func rfl rfl rfl (run_enter Tryz.func64 (by kernel_rfl) rfl)) rfl rfl rfl (raw_any g9 g9 (laidC s) _ _ wr (laidC_lt _) (by simp only [List.length_append, beB_len, laidC_len]; omega)) ?_
  clear wr
  rintro e w5 ⟨rfl, fw5, wr⟩
  refine ⟨_, rfl, ?_⟩
  replace nb := nb.wf fw5
  replace wf := wf.wf fw5
  refine Seq.call (Enters.func rfl rfl rfl (run_enter Tryz.func66 (by kernel_rfl) rfl)) rfl rfl rfl (wbytes_any g9 g9 _ _ wr) ?_
  rintro e w10 ⟨rfl, hb10⟩
  refine ⟨_, rfl, ?_⟩
  replace nb := nb.step hb10
  replace wf := wf.step hb10
  replace wr := wr.step hb10
  refine Seq.val (Runs.assign rfl rfl) rfl rfl rfl ?_
  refine Seq.val (Runs.assign rfl rfl) rfl rfl rfl ?_
  refine Seq.nil ?_
  refine Post.weak (F' := [(0, _), (2, _), (3, _), (4, _), (7, _)]) ⟨rfl, rfl, rfl, rfl, rfl, trivial⟩ ?_
  refine Post.then_ ?_
  refine Cd.ret ?_
  refine Post.end2 rfl rfl rfl (.inl rfl) ?_
  exact ⟨rfl, bel.trans ((wf.to hg9).mono e9)⟩
end Go.Proofs.YtnlepoplncjliaaGreatDoor

/-
  wal: a name that may be. Condition: the name is within reach.
-/
import Derived.Test.YtnlepoplncjliaaGreatDoorWbB
namespace Go.Proofs.YtnlepoplncjliaaGreatDoor
open Go.RowKit Go.Maps Go.Sort

/-- Whether a log's name may be. -/
def rightN (nm : List Nat) : Bool := nm.all (fun c => decide (97 ≤ c) && decide (c ≤ 122)) && (decide (nm ≠ []) && decide (nm.length ≤ 8))
theorem right_w_any (nm : List Nat) (w : World) (hs : Byt nm) (hl : nm.length ≤ 100000000) : Calls Tryz.prog 35 #[.string (strOf nm)] w fun e w' => e = .returned (.bool (rightN nm)) ∧ Grow w w' := by
  have bel := Below.refl w.heap.size w
  refine Calls.start 26 Tryz.func35 rfl rfl rfl ?_
  refine Cd.seq ?_
  refine Cd.region ?_
  refine Seq.val (Runs.assign rfl rfl) rfl rfl rfl ?_
  refine Seq.nil ?_
  refine Post.weak (F' := [(0, _), (2, _)]) ⟨rfl, rfl, trivial⟩ ?_
  refine Post.then_ ?_
  refine Cd.seq ?_
  refine Cd.seq ?_
  refine Cd.region ?_
  refine Seq.val (Runs.move rfl rfl) rfl rfl rfl ?_
  refine Seq.convSB rfl rfl Tryz.underlying9 Tryz.underlying60 Tryz.underlying5 hs rfl rfl rfl ?_
  intro g6 c w2 hc hn
  replace bel := bel.step hn.below
  have hrd := hn.reads
  have hb2 := Below.refl w2.heap.size w2
  clear hn
  obtain ⟨A, hA⟩ : ∃ A, A = some (⟨g6, 0, none⟩ : Addr) := ⟨_, rfl⟩
  rw [← hA] at hrd ⊢
  clear hA
  have bel0 := bel
  clear bel
  have bel := hb2
  refine Seq.val (Runs.len rfl rfl Tryz.underlying60) rfl rfl rfl ?_
  refine Seq.val (Runs.move rfl rfl) rfl rfl rfl ?_
  refine Seq.nil ?_
  refine Post.weak (F' := [(0, _), (2, _), (6, _), (7, _), (8, _)]) ⟨rfl, rfl, rfl, rfl, rfl, trivial⟩ ?_
  refine Post.then_ ?_
  refine Cd.block ?_
  refine Cd.loop (σ := Nat) (fun j => [(0, .string (strOf nm)), (6, .slice A nm.length c), (7, .int .i64 (nm.length : Int)), (8, .int .i64 (j : Int))]) (fun j wr => j ≤ nm.length ∧ (∀ x ∈ nm.take j, 97 ≤ x ∧ x ≤ 122) ∧ Below w2.heap.size w2 wr) (fun j => nm.length - j) 0 ⟨Nat.zero_le _, by simp, bel⟩ ⟨rfl, rfl, rfl, rfl, trivial⟩ ?_
  clear bel
  rintro j wr ⟨hj, hall, bel⟩
  refine Cd.seq ?_
  refine Cd.region ?_
  refine Seq.val (Runs.lss rfl rfl rfl) rfl rfl rfl ?_
  refine Seq.nil ?_
  refine Post.weak (F' := [(0, _), (6, _), (7, _), (8, _), (9, _)]) ⟨rfl, rfl, rfl, rfl, rfl, trivial⟩ ?_
  refine Post.then_ ?_
  refine Cd.seq ?_
  refine Cd.condD rfl (fun hc => ?_) (fun hc => ?_)
  · obtain ⟨b, hb⟩ : ∃ b, nm[j]? = some b := ⟨_, List.getElem?_eq_getElem (by omega)⟩
    have hb256 := hs b (List.mem_of_getElem? hb)
    obtain ⟨ad, rfl, hbd, hcl⟩ := hrd.2 (by omega)
    have hcd := (bel.cell (p := ad.add j) (by rw [block_of_add]; exact hbd)).trans (hcl j (.int .u8 (b : Int)) (by rw [get_Bt, hb]; rfl))
    refine Cd.skip ?_
    refine Post.then_ ?_
    refine Cd.seq ?_
    refine Cd.block ?_
    refine Cd.seq ?_
    refine Cd.region ?_
    refine Seq.val (Runs.index1 rfl rfl rfl Tryz.underlying60 (by kernel_rfl) (j := j) rfl (by omega)) rfl rfl rfl ?_
    refine Seq.val (Runs.load1 rfl rfl Tryz.underlying5 rfl hcd) rfl rfl rfl ?_
    refine Seq.val (Runs.assign rfl rfl) rfl rfl rfl ?_
    refine Seq.nil ?_
    refine Post.weak (F' := [(0, _), (4, _), (6, _), (7, _), (8, _), (9, _)]) ⟨rfl, rfl, rfl, rfl, rfl, rfl, trivial⟩ ?_
    refine Post.then_ ?_
    refine Cd.seq ?_
    refine Cd.region ?_
    refine Seq.val (Runs.move rfl rfl) rfl rfl rfl ?_
    refine Seq.val (Runs.lss rfl rfl rfl) rfl rfl rfl ?_
    refine Seq.val (Runs.move rfl rfl) rfl rfl rfl ?_
    refine SeqC.start ?_
    refine SeqC.open rfl rfl rfl rfl rfl rfl rfl (fun hcx => Runs.move rfl rfl) ?_
    refine SeqC.next rfl rfl rfl rfl rfl rfl rfl (fun hcx => Runs.gtr rfl rfl rfl) ?_
    refine SeqC.or rfl rfl rfl rfl rfl rfl rfl ?_
    refine Seq.nil ?_
    refine Post.weak (F' := [(0, _), (4, _), (6, _), (7, _), (8, _), (9, _), (17, _)]) ⟨rfl, rfl, rfl, rfl, rfl, rfl, rfl, trivial⟩ ?_
    refine Post.then_ ?_
    refine Cd.cond rfl (fun h => ?_) (fun h => ?_)
    · have h1 : b < 97 ∨ 122 < b := by
        have h' : (decide ((b : Int) < 97) || decide ((122 : Int) < (b : Int))) = true := h
        rw [Bool.or_eq_true, decide_eq_true_eq, decide_eq_true_eq] at h'
        omega
      have hR : rightN nm = false := by
        unfold rightN
        rw [Bool.and_eq_false_iff]
        left
        rw [List.all_eq_false]
        refine ⟨b, List.mem_of_getElem? hb, ?_⟩
        simp only [Bool.and_eq_true, decide_eq_true_eq]
        omega
      rw [hR]
      refine Cd.seq ?_
      refine Cd.region ?_
      refine Seq.val (Runs.assign rfl rfl) rfl rfl rfl ?_
      refine Seq.nil ?_
      refine Post.weak (F' := [(0, _), (2, _), (4, _), (6, _), (7, _), (8, _), (9, _), (17, _)]) ⟨rfl, rfl, rfl, rfl, rfl, rfl, rfl, rfl, trivial⟩ ?_
      refine Post.then_ ?_
      refine Cd.ret ?_
      refine Post.block_ret ?_
      refine Post.then_ret ?_
      refine Post.round_ret ?_
      refine Post.block_ret ?_
      refine Post.then_ret ?_
      refine Post.end1 rfl rfl (.inl rfl) ?_
      exact ⟨rfl, bel0.step bel⟩
    · have h1 : 97 ≤ b ∧ b ≤ 122 := by
        have h' : (decide ((b : Int) < 97) || decide ((122 : Int) < (b : Int))) = false := h
        rw [Bool.or_eq_false_iff, decide_eq_false_iff_not, decide_eq_false_iff_not] at h'
        omega
      refine Cd.skip ?_
      refine Post.block_normal ?_
      refine Post.then_ ?_
      refine Cd.region ?_
      refine Seq.val (Runs.addI rfl rfl rfl (by omega) (by omega)) rfl rfl rfl ?_
      refine Seq.val (Runs.move rfl rfl) rfl rfl rfl ?_
      refine Seq.nil ?_
      refine Post.weak (F' := [(0, _), (4, _), (6, _), (7, _), (8, _), (9, _), (17, _)]) ⟨rfl, rfl, rfl, rfl, rfl, rfl, rfl, trivial⟩ ?_
      refine Post.round (j + 1) ⟨rfl, rfl, rfl, int_at (by omega), trivial⟩ ⟨by omega, fun x hx => ?_, bel⟩ (by omega)
      rw [take_last hb] at hx
      rcases List.mem_append.1 hx with hx | hx
      · exact hall x hx
      · simp at hx; subst hx; exact h1
  · have hR : rightN nm = (decide (nm ≠ []) && decide ((nm.length : Int) ≤ 8)) := by
      unfold rightN
      rw [List.take_of_length_le (by omega)] at hall
      have : nm.all (fun c => decide (97 ≤ c) && decide (c ≤ 122)) = true := by
        rw [List.all_eq_true]
        intro x hx
        have := hall x hx
        simp [this]
      rw [this, Bool.true_and]
      congr 1
      by_cases h8 : nm.length ≤ 8
      · rw [decide_eq_true h8, decide_eq_true (by omega)]
      · rw [decide_eq_false h8, decide_eq_false (by omega)]
    rw [hR]
    refine Cd.exit ?_
    refine Post.then_exit ?_
    refine Post.round_exit ?_
    refine Post.block_exit ?_
    refine Post.then_ ?_
    refine Cd.seq ?_
    refine Cd.region ?_
    refine Seq.val (Runs.move rfl rfl) rfl rfl rfl ?_
    refine Seq.val (Runs.neqL (b := []) rfl rfl rfl hs (by simp)) rfl rfl rfl ?_
    refine Seq.val (Runs.move rfl rfl) rfl rfl rfl ?_
    refine SeqC.start ?_
    refine SeqC.open rfl rfl rfl rfl rfl rfl rfl (fun hcx => Runs.move rfl rfl) ?_
    refine SeqC.next rfl rfl rfl rfl rfl rfl rfl (fun hcx => Runs.lenL rfl rfl Tryz.underlying9) ?_
    refine SeqC.next rfl rfl rfl rfl rfl rfl rfl (fun hcx => Runs.leq rfl rfl rfl) ?_
    refine SeqC.and rfl rfl rfl rfl rfl rfl rfl ?_
    refine Seq.val (Runs.assign rfl rfl) rfl rfl rfl ?_
    refine Seq.nil ?_
    refine Post.weak (F' := [(0, _), (2, _), (6, _), (7, _), (8, _), (9, _)]) ⟨rfl, rfl, rfl, rfl, rfl, rfl, trivial⟩ ?_
    refine Post.then_ ?_
    refine Cd.ret ?_
    refine Post.end1 rfl rfl (.inl rfl) ?_
    exact ⟨rfl, bel0.step bel⟩
end Go.Proofs.YtnlepoplncjliaaGreatDoor

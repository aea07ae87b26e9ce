/-
  debentureref17's sign: what it answers. Condition: the text is within reach.
-/
import Derived.Test.YtijaldpmpjapiaaLexH
namespace Go.Proofs.Ytijaldpmpjapiaa
open Go.RowKit

def sgB : List Nat := [40, 41, 44, 43, 45, 42, 47, 60, 61, 62, 38, 124, 33]
theorem sgB_lt : ∀ x ∈ sgB, x < 256 := by decide
theorem sign_nil : signW [] = none := by decide
theorem sign_two (c : Nat) (r : List Nat) (h : c = 60 ∨ c = 62 ∨ c = 33) : signW (c :: 61 :: r) = some [c, 61] := by
  rcases h with rfl | rfl | rfl <;> simp [signW, signsL]
theorem sign_one (c : Nat) (r : List Nat) (hc : c ∈ sgB) (h : ¬ (r.head? = some 61 ∧ (c = 60 ∨ c = 62 ∨ c = 33))) : signW (c :: r) = some [c] := by
  cases r with
  | nil =>
    simp [sgB] at hc
    rcases hc with rfl | rfl | rfl | rfl | rfl | rfl | rfl | rfl | rfl | rfl | rfl | rfl | rfl <;> simp [signW, signsL]
  | cons d r =>
    simp at h
    simp [sgB] at hc
    rcases hc with rfl | rfl | rfl | rfl | rfl | rfl | rfl | rfl | rfl | rfl | rfl | rfl | rfl <;> simp [signW, signsL] <;> simp at h <;> simp [h]
theorem sign_no (c : Nat) (r : List Nat) (hc : c ∉ sgB) : signW (c :: r) = none := by
  refine find_no _ _ ?_
  intro j s' hs
  have hm := List.mem_of_getElem? hs
  rw [decide_eq_false_iff_not]
  intro he
  apply hc
  simp [signsL] at hm
  rcases hm with rfl | rfl | rfl | rfl | rfl | rfl | rfl | rfl | rfl | rfl | rfl | rfl | rfl | rfl | rfl | rfl <;> (simp at he; simp [sgB, he])
theorem sgB_len : sgB.length = 13 := rfl
theorem refSign_any (l : List Nat) (w : World) (hl : ∀ x ∈ l, x < 256) (hlen : l.length ≤ 9223372036854775807) :
    Calls Try.prog 55 #[.string (strOf l)] w fun e w' => e = .returned (.string (strOf ((signW l).getD []))) ∧ Grow w w' := by
  have bel := Below.refl w.heap.size w
  have h0 : 0 < l.length → l[0]? = some (l.getD 0 0) := fun h => by rw [List.getD_eq_getElem?_getD, List.getElem?_eq_getElem h]; rfl
  have h1 : 1 < l.length → l[1]? = some (l.getD 1 0) := fun h => by rw [List.getD_eq_getElem?_getD, List.getElem?_eq_getElem h]; rfl
  have hb : ∀ j, l.getD j 0 < 256 := fun j => by
    rcases Nat.lt_or_ge j l.length with h | h
    · rw [List.getD_eq_getElem?_getD, List.getElem?_eq_getElem h]; exact hl _ (List.getElem_mem h)
    · rw [List.getD_eq_getElem?_getD, List.getElem?_eq_none h]; simp
  have b0 := hb 0
  have b1 := hb 1
  clear hb
  have hnil : l.length = 0 → signW l = none := fun h => by rw [List.eq_nil_of_length_eq_zero h]; exact sign_nil
  have htwo : 2 ≤ l.length → l.getD 1 0 = 61 → (l.getD 0 0 = 60 ∨ l.getD 0 0 = 62 ∨ l.getD 0 0 = 33) → (signW l).getD [] = l.take 2 := fun h h1 h2 => by
    rcases l with _ | ⟨c, _ | ⟨d, r⟩⟩
    · simp at h
    · simp at h
    · have h1 : d = 61 := h1
      subst h1
      rw [sign_two c r h2]; rfl
  have hone : 0 < l.length → l.getD 0 0 ∈ sgB → ¬ (2 ≤ l.length ∧ l.getD 1 0 = 61 ∧ (l.getD 0 0 = 60 ∨ l.getD 0 0 = 62 ∨ l.getD 0 0 = 33)) → (signW l).getD [] = l.take 1 := fun h h1 h2 => by
    rcases l with _ | ⟨c, r⟩
    · simp at h
    · rw [sign_one c r h1]
      · rfl
      · rintro ⟨h3, h4⟩
        cases r with
        | nil => cases h3
        | cons d r => injection h3 with h3; subst h3; exact h2 ⟨by simp, rfl, h4⟩
  have hno : 0 < l.length → l.getD 0 0 ∉ sgB → (signW l).getD [] = [] := fun h h1 => by
    rcases l with _ | ⟨c, r⟩
    · simp at h
    · rw [sign_no c r h1]; rfl
  generalize l.getD 0 0 = c0 at *
  generalize l.getD 1 0 = c1 at *
  refine Calls.start 49 Try.func55 rfl rfl rfl ?_
  refine Cd.seq ?_
  refine Cd.region ?_
  refine Seq.val (Runs.assign rfl rfl) rfl rfl rfl ?_
  refine Seq.nil ?_
  refine Post.weak (F' := [(0, _), (2, _)]) ⟨rfl, rfl, trivial⟩ ?_
  refine Post.then_ ?_
  refine Cd.seq ?_
  refine Cd.seq ?_
  refine Cd.region ?_
  refine Seq.val (Runs.move rfl rfl) rfl rfl rfl ?_
  refine Seq.val (Runs.lenL rfl rfl Try.underlying9) rfl rfl rfl ?_
  refine Seq.val (Runs.geq rfl rfl rfl) rfl rfl rfl ?_
  refine Seq.val (Runs.move rfl rfl) rfl rfl rfl ?_
  refine SeqC.start ?_
  refine SeqC.open rfl rfl rfl rfl rfl rfl rfl (fun hcx => Runs.move rfl rfl) ?_
  refine SeqC.next rfl rfl rfl rfl rfl rfl rfl (fun hcx => Runs.indexL (l := l) (j := 1) (c := c1) rfl rfl rfl Try.underlying9 rfl (h1 (by simp at hcx; omega)) b1) ?_
  refine SeqC.next rfl rfl rfl rfl rfl rfl rfl (fun hcx => Runs.eqlI rfl rfl rfl) ?_
  refine SeqC.and rfl rfl rfl rfl rfl rfl rfl ?_
  refine Seq.val (Runs.move rfl rfl) rfl rfl rfl ?_
  refine SeqC.start ?_
  refine SeqC.open rfl rfl rfl rfl rfl rfl rfl (fun hcx => Runs.move rfl rfl) ?_
  refine SeqC.next rfl rfl rfl rfl rfl rfl rfl (fun hcx => Runs.indexL (l := l) (j := 0) (c := c0) rfl rfl rfl Try.underlying9 rfl (h0 (by simp [topX] at hcx; omega)) b0) ?_
  refine SeqC.next rfl rfl rfl rfl rfl rfl rfl (fun hcx => Runs.eqlI rfl rfl rfl) ?_
  refine SeqC.next rfl rfl rfl rfl rfl rfl rfl (fun hcx => Runs.move rfl rfl) ?_
  refine SeqC.open rfl rfl rfl rfl rfl rfl rfl (fun hcx => Runs.move rfl rfl) ?_
  refine SeqC.next rfl rfl rfl rfl rfl rfl rfl (fun hcx => Runs.indexL (l := l) (j := 0) (c := c0) rfl rfl rfl Try.underlying9 rfl (h0 (by simp [topX] at hcx; omega)) b0) ?_
  refine SeqC.next rfl rfl rfl rfl rfl rfl rfl (fun hcx => Runs.eqlI rfl rfl rfl) ?_
  refine SeqC.orG rfl rfl rfl rfl rfl rfl rfl rfl rfl rfl rfl ?_
  refine SeqC.next rfl rfl rfl rfl rfl rfl rfl (fun hcx => Runs.move rfl rfl) ?_
  refine SeqC.open rfl rfl rfl rfl rfl rfl rfl (fun hcx => Runs.move rfl rfl) ?_
  refine SeqC.next rfl rfl rfl rfl rfl rfl rfl (fun hcx => Runs.indexL (l := l) (j := 0) (c := c0) rfl rfl rfl Try.underlying9 rfl (h0 (by simp [topX] at hcx; omega)) b0) ?_
  refine SeqC.next rfl rfl rfl rfl rfl rfl rfl (fun hcx => Runs.eqlI rfl rfl rfl) ?_
  refine SeqC.orG rfl rfl rfl rfl rfl rfl rfl rfl rfl rfl rfl ?_
  refine SeqC.and rfl rfl rfl rfl rfl rfl rfl ?_
  refine Seq.nil ?_
  refine Post.weak (F' := [(0, _), (2, _), (27, _)]) ⟨rfl, rfl, rfl, trivial⟩ ?_
  refine Post.then_ ?_
  refine Cd.cond rfl (fun h => ?_) (fun h => ?_)
  · simp at h
    have e := htwo (by omega) (by omega) (by omega)
    refine Cd.seq ?_
    refine Cd.region ?_
    refine Seq.val (Runs.move rfl rfl) rfl rfl rfl ?_
    refine Seq.val (Runs.sliceTo (j := 2) rfl rfl rfl Try.underlying9 rfl (by omega)) rfl rfl rfl ?_
    refine Seq.val (Runs.assign rfl rfl) rfl rfl rfl ?_
    refine Seq.nil ?_
    refine Post.weak (F' := [(0, _), (2, _), (27, _)]) ⟨rfl, rfl, rfl, trivial⟩ ?_
    refine Post.then_ ?_
    refine Cd.ret ?_
    refine Post.then_ret ?_
    refine Post.end1 rfl rfl (.inl rfl) ?_
    exact ⟨by rw [e], bel⟩
  · have hn2 : ¬ (2 ≤ l.length ∧ c1 = 61 ∧ (c0 = 60 ∨ c0 = 62 ∨ c0 = 33)) := by
      simp at h
      omega
    have hone := fun a b => hone a b hn2
    clear h htwo hn2 h1
    refine Cd.skip ?_
    refine Post.then_ ?_
    refine Cd.seq ?_
    refine Cd.region ?_
    refine Seq.val (Runs.assign rfl rfl) rfl rfl rfl ?_
    refine Seq.nil ?_
    refine Post.weak (F' := [(0, _), (2, _), (3, _), (27, _)]) ⟨rfl, rfl, rfl, rfl, trivial⟩ ?_
    refine Post.then_ ?_
    refine Cd.seq ?_
    refine Cd.seq ?_
    refine Cd.region ?_
    refine Seq.val (Runs.assign rfl rfl) rfl rfl rfl ?_
    refine Seq.nil ?_
    refine Post.weak (F' := [(0, _), (2, _), (3, _), (4, _), (27, _)]) ⟨rfl, rfl, rfl, rfl, rfl, trivial⟩ ?_
    refine Post.then_ ?_
    refine Cd.block ?_
    refine Cd.loop (σ := Nat) (fun k => [(0, .string (strOf l)), (3, .string (strOf sgB)), (4, .int .i64 (k : Int))]) (fun k wr => k ≤ 13 ∧ (∀ j c, j < k → sgB[j]? = some c → 0 < l.length → c ≠ c0) ∧ Below w.heap.size w wr) (fun k => 13 - k) 0 ⟨by omega, fun j c hj => absurd hj (by omega), bel⟩ ⟨rfl, rfl, rfl, trivial⟩ ?_
    clear bel
    rintro k wr ⟨hk, hns, bel⟩
    have hsl := sgB_len
    refine Cd.seq ?_
    refine Cd.seq ?_
    refine Cd.region ?_
    refine Seq.val (Runs.move rfl rfl) rfl rfl rfl ?_
    refine Seq.val (Runs.move rfl rfl) rfl rfl rfl ?_
    refine Seq.val (Runs.lenL rfl rfl Try.underlying9) rfl rfl rfl ?_
    refine Seq.val (Runs.lss rfl rfl rfl) rfl rfl rfl ?_
    refine Seq.nil ?_
    refine Post.weak (F' := [(0, _), (3, _), (4, _), (33, _)]) ⟨rfl, rfl, rfl, rfl, trivial⟩ ?_
    refine Post.then_ ?_
    refine Cd.condD rfl (fun hc => ?_) (fun hc => ?_)
    · obtain ⟨c, hcc⟩ : ∃ c, sgB[k]? = some c := ⟨_, List.getElem?_eq_getElem (show k < sgB.length by omega)⟩
      have hc256 := sgB_lt c (List.mem_of_getElem? hcc)
      have hns2 : ∀ j d, j < k + 1 → sgB[j]? = some d → (0 < l.length → c ≠ c0) → 0 < l.length → d ≠ c0 := fun j d hj hd hcn h => by
        rcases Nat.lt_or_ge j k with h2 | h2
        · exact hns j d h2 hd h
        · obtain rfl : j = k := by omega
          rw [hcc] at hd
          injection hd with hd
          subst hd
          exact hcn h
      by_cases hl0 : 0 < l.length
      · have h0 := h0 hl0
        have hone := hone hl0
        refine Cd.skip ?_
        refine Post.then_ ?_
        refine Cd.seq ?_
        refine Cd.block ?_
        refine Cd.seq ?_
        refine Cd.draw 11 (by kernel_rfl) [] (.inl rfl) rfl Grow Grow.refl (fun _ _ _ => Grow.trans) ?_
        intro w1 hw1 zw1
        replace bel := bel.step hw1
        have zbel := bel.size
        refine Dr.val Grow.refl rfl (fun w hG => Runs.move rfl rfl) rfl ?_
        refine Dr.val Grow.refl rfl (fun w hG => Runs.lenL rfl rfl Try.underlying9) rfl ?_
        refine Dr.val Grow.refl rfl (fun w hG => (Runs.gtr rfl rfl rfl).isT ((by omega))) rfl ?_
        refine Dr.val Grow.refl rfl (fun w hG => Runs.move rfl rfl) rfl ?_
        refine Dr.valG Grow.refl rfl (fun w hG => Runs.move rfl rfl) rfl rfl rfl ?_
        refine Dr.valG Grow.refl rfl (fun w hG => Runs.indexL (l := l) (j := 0) (c := c0) rfl rfl rfl Try.underlying9 rfl h0 b0) rfl rfl rfl ?_
        refine Dr.valG Grow.refl rfl (fun w hG => Runs.move rfl rfl) rfl rfl rfl ?_
        refine Dr.valG Grow.refl rfl (fun w hG => Runs.move rfl rfl) rfl rfl rfl ?_
        refine Dr.valG Grow.refl rfl (fun w hG => Runs.indexL (l := sgB) (j := k) rfl rfl rfl Try.underlying9 rfl hcc hc256) rfl rfl rfl ?_
        refine Dr.valG Grow.refl rfl (fun w hG => Runs.eqlI rfl rfl rfl) rfl rfl rfl ?_
        refine Dr.val Grow.refl rfl (fun w hG => Runs.pickT rfl rfl rfl) rfl ?_
        refine Dr.nil ?_
        refine FinX.done (F' := [(0, _), (3, _), (4, _), (33, _), (46, _)]) rfl ⟨rfl, rfl, rfl, rfl, rfl, trivial⟩ ?_
        intro w2 hw2 fw2
        replace bel := bel.step hw2
        refine Seq.nil ?_
        refine Post.weak (F' := [(0, _), (3, _), (4, _), (33, _), (46, _)]) ⟨rfl, rfl, rfl, rfl, rfl, trivial⟩ ?_
        refine Post.then_ ?_
        refine Cd.condD rfl (fun hc => ?_) (fun hc => ?_)
        · obtain rfl : c = c0 := by omega
          refine Cd.seq ?_
          refine Cd.region ?_
          refine Seq.val (Runs.move rfl rfl) rfl rfl rfl ?_
          refine Seq.val (Runs.sliceTo (j := 1) rfl rfl rfl Try.underlying9 rfl (by omega)) rfl rfl rfl ?_
          refine Seq.val (Runs.assign rfl rfl) rfl rfl rfl ?_
          refine Seq.nil ?_
          refine Post.weak (F' := [(0, _), (2, _), (3, _), (4, _), (33, _), (46, _)]) ⟨rfl, rfl, rfl, rfl, rfl, rfl, trivial⟩ ?_
          refine Post.then_ ?_
          refine Cd.ret ?_
          refine Post.block_ret ?_
          refine Post.then_ret ?_
          refine Post.round_ret ?_
          refine Post.block_ret ?_
          refine Post.then_ret ?_
          refine Post.end1 rfl rfl (.inl rfl) ?_
          exact ⟨by rw [hone (List.mem_of_getElem? hcc)], bel⟩
        · have hne : c ≠ c0 := by omega
          refine Cd.skip ?_
          refine Post.block_normal ?_
          refine Post.then_ ?_
          refine Cd.region ?_
          refine Seq.val (Runs.move rfl rfl) rfl rfl rfl ?_
          refine Seq.val (Runs.addI rfl rfl rfl (by omega) (by omega)) rfl rfl rfl ?_
          refine Seq.val (Runs.assign rfl rfl) rfl rfl rfl ?_
          refine Seq.nil ?_
          refine Post.weak (F' := [(0, _), (3, _), (4, _), (33, _), (46, _)]) ⟨rfl, rfl, rfl, rfl, rfl, trivial⟩ ?_
          exact Post.round (k + 1) ⟨rfl, rfl, rfl, trivial⟩ ⟨by omega, fun j d hj hd => hns2 j d hj hd (fun _ => hne), bel⟩ (by omega)
      · skip
        refine Cd.skip ?_
        refine Post.then_ ?_
        refine Cd.seq ?_
        refine Cd.block ?_
        refine Cd.seq ?_
        refine Cd.draw 11 (by kernel_rfl) [] (.inl rfl) rfl Grow Grow.refl (fun _ _ _ => Grow.trans) ?_
        intro w1 hw1 zw1
        replace bel := bel.step hw1
        have zbel := bel.size
        refine Dr.val Grow.refl rfl (fun w hG => Runs.move rfl rfl) rfl ?_
        refine Dr.val Grow.refl rfl (fun w hG => Runs.lenL rfl rfl Try.underlying9) rfl ?_
        refine Dr.val Grow.refl rfl (fun w hG => (Runs.gtr rfl rfl rfl).isF ((by omega))) rfl ?_
        refine Dr.val Grow.refl rfl (fun w hG => Runs.move rfl rfl) rfl ?_
        refine Dr.skip rfl rfl rfl rfl rfl ?_
        refine Dr.skip rfl rfl rfl rfl rfl ?_
        refine Dr.skip rfl rfl rfl rfl rfl ?_
        refine Dr.skip rfl rfl rfl rfl rfl ?_
        refine Dr.skip rfl rfl rfl rfl rfl ?_
        refine Dr.skip rfl rfl rfl rfl rfl ?_
        refine Dr.val Grow.refl rfl (fun w hG => Runs.pickF rfl rfl rfl) rfl ?_
        refine Dr.nil ?_
        refine FinX.done (F' := [(0, _), (3, _), (4, _), (33, _), (46, _)]) rfl ⟨rfl, rfl, rfl, rfl, rfl, trivial⟩ ?_
        intro w2 hw2 fw2
        replace bel := bel.step hw2
        refine Seq.nil ?_
        refine Post.weak (F' := [(0, _), (3, _), (4, _), (33, _), (46, _)]) ⟨rfl, rfl, rfl, rfl, rfl, trivial⟩ ?_
        refine Post.then_ ?_
        refine Cd.condF rfl rfl ?_
        refine Cd.skip ?_
        refine Post.block_normal ?_
        refine Post.then_ ?_
        refine Cd.region ?_
        refine Seq.val (Runs.move rfl rfl) rfl rfl rfl ?_
        refine Seq.val (Runs.addI rfl rfl rfl (by omega) (by omega)) rfl rfl rfl ?_
        refine Seq.val (Runs.assign rfl rfl) rfl rfl rfl ?_
        refine Seq.nil ?_
        refine Post.weak (F' := [(0, _), (3, _), (4, _), (33, _), (46, _)]) ⟨rfl, rfl, rfl, rfl, rfl, trivial⟩ ?_
        exact Post.round (k + 1) ⟨rfl, rfl, rfl, trivial⟩ ⟨by omega, fun j d hj hd => hns2 j d hj hd (fun h => absurd h hl0), bel⟩ (by omega)
    · have hnn : (signW l).getD [] = [] := by
        rcases Nat.eq_zero_or_pos l.length with h | h
        · rw [hnil h]; rfl
        · refine hno h fun hm => ?_
          obtain ⟨j, hj, he⟩ := List.getElem_of_mem hm
          exact hns j c0 (by omega) (by rw [List.getElem?_eq_getElem hj, he]) h rfl
      refine Cd.exit ?_
      refine Post.then_exit ?_
      refine Post.round_exit ?_
      refine Post.block_exit ?_
      refine Post.then_ ?_
      refine Cd.seq ?_
      refine Cd.region ?_
      refine Seq.val (Runs.assign rfl rfl) rfl rfl rfl ?_
      refine Seq.nil ?_
      refine Post.weak (F' := [(0, _), (2, _), (3, _), (4, _), (33, _)]) ⟨rfl, rfl, rfl, rfl, rfl, trivial⟩ ?_
      refine Post.then_ ?_
      refine Cd.ret ?_
      refine Post.end1 rfl rfl (.inl rfl) ?_
      exact ⟨by rw [hnn]; rfl, bel⟩
end Go.Proofs.Ytijaldpmpjapiaa

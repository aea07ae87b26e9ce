/-
  lex.next: what it answers. Condition: the text is within reach.
-/
import Derived.Test.YtijaldpmpjapiaaLexE
namespace Go.Proofs.Ytijaldpmpjapiaa
open Go.RowKit

/-- The word with which a text begins: its kind, text and number. -/
def nextW (l : List Nat) : Option (Int × List Nat × Int) := match l with
  | [] => none
  | c :: r => if digB c then (if dayOk (c :: r) then some (2, (c :: r).take 10, dateZ ((c :: r).take 10)) else (amt0 ((c :: r).take (runN partB (c :: r)))).map fun v => (1, (c :: r).take (runN partB (c :: r)), v))
    else if letB c then (if runN partB (c :: r) ≤ 16 then some (3, (c :: r).take (runN partB (c :: r)), 0) else none)
    else (signW (c :: r)).map fun s => (0, s, 0)
theorem find_at {α : Type} (p : α → Bool) : ∀ (L : List α) (k : Nat) (s : α), (∀ j s', j < k → L[j]? = some s' → p s' = false) → L[k]? = some s → p s = true → L.find? p = some s
  | [], k, s, _, h, _ => by simp at h
  | x :: L, 0, s, _, h, hp => by simp at h; subst h; simp [hp]
  | x :: L, k + 1, s, hn, h, hp => by
    have h0 := hn 0 x (by omega) (by simp)
    rw [List.find?_cons, h0]
    exact find_at p L k s (fun j s' hj hs => hn (j + 1) s' (by omega) (by simpa using hs)) (by simpa using h) hp
theorem find_no {α : Type} (p : α → Bool) (L : List α) (h : ∀ (j : Nat) (s' : α), L[j]? = some s' → p s' = false) : L.find? p = none := by
  rw [List.find?_eq_none]
  intro x hx
  obtain ⟨j, hj, rfl⟩ := List.getElem_of_mem hx
  rw [h j _ (List.getElem?_eq_getElem hj)]
  simp
theorem signs_lt : ∀ s ∈ signsL, ∀ x ∈ s, x < 256 := by decide
theorem next_any (l : List Nat) (w : World) (hl : ∀ x ∈ l, x < 256) (hlen : l.length ≤ 9223372036854775807) (hne : l ≠ []) :
    Calls Try.prog 51 #[.string (strOf l)] w fun e w' => ∃ a b c ok, e = .returned (.tuple #[.agg #[.int .i64 a, .string (strOf b), .int .i64 c, .int .i64 0], .bool ok]) ∧ nextW l = (if ok then some (a, b, c) else none) ∧ Grow w w' := by
  have bel := Below.refl w.heap.size w
  obtain ⟨c0, r, hcr⟩ : ∃ c r, l = c :: r := by
    cases l with
    | nil => exact absurd rfl hne
    | cons c r => exact ⟨c, r, rfl⟩
  have h0 : l[0]? = some c0 := by rw [hcr]; rfl
  have hc256 := hl c0 (List.mem_of_getElem? h0)
  have hnw : nextW l = if digB c0 then (if dayOk l then some (2, l.take 10, dateZ (l.take 10)) else (amt0 (l.take (runN partB l))).map fun v => (1, l.take (runN partB l), v))
    else if letB c0 then (if runN partB l ≤ 16 then some (3, l.take (runN partB l), 0) else none)
    else (signW l).map fun s => (0, s, 0) := by rw [hcr]; rfl
  have hrl := runN_le partB l
  refine Calls.start 49 Try.func51 rfl rfl rfl ?_
  refine Cd.seq ?_
  refine Cd.region ?_
  refine Seq.alloc rfl (run_zero zero_lex_Word) rfl rfl rfl ?_
  intro g2 w1 n2
  have e2 := Nat.le_trans bel.size n2.ge
  replace bel := bel.step n2.below
  have k2 := n2.blk
  refine Seq.val (Runs.assign rfl rfl) rfl rfl rfl ?_
  refine Seq.nil ?_
  refine Post.weak (F' := [(0, _), (2, _), (3, _)]) ⟨rfl, rfl, rfl, trivial⟩ ?_
  refine Post.then_ ?_
  refine Cd.seq ?_
  refine Cd.block ?_
  refine Cd.seq ?_
  refine Cd.region ?_
  refine Seq.val (Runs.move rfl rfl) rfl rfl rfl ?_
  refine Seq.val (Runs.indexL (l := l) (j := 0) rfl rfl rfl Try.underlying9 rfl h0 hc256) rfl rfl rfl ?_
  refine Seq.call (Enters.func rfl rfl rfl (run_enter Try.func89 (by kernel_rfl) rfl)) rfl rfl rfl (digitL_any c0 _) ?_
  rintro e w2 ⟨rfl, hb2⟩
  refine ⟨_, rfl, ?_⟩
  replace bel := bel.step hb2
  replace k2 := k2.step hb2
  refine Seq.val (Runs.assign rfl rfl) rfl rfl rfl ?_
  refine Seq.nil ?_
  refine Post.weak (F' := [(0, _), (2, _), (3, _), (9, _)]) ⟨rfl, rfl, rfl, rfl, trivial⟩ ?_
  refine Post.then_ ?_
  refine Cd.cond rfl (fun h => ?_) (fun h => ?_)
  · rw [h, if_pos rfl] at hnw
    refine Cd.seq ?_
    refine Cd.seq ?_
    refine Cd.region ?_
    refine Seq.val (Runs.move rfl rfl) rfl rfl rfl ?_
    refine Seq.call (Enters.func rfl rfl rfl (run_enter Try.func90 (by kernel_rfl) rfl)) rfl rfl rfl (day_any l _ hl hlen) ?_
    rintro e w3 ⟨a, b, c, rfl, hday, hb3⟩
    refine ⟨_, rfl, ?_⟩
    replace bel := bel.step hb3
    replace k2 := k2.step hb3
    refine Seq.val (Runs.move rfl rfl) rfl rfl rfl ?_
    refine Seq.val (Runs.extract rfl rfl rfl) rfl rfl rfl ?_
    refine Seq.val (Runs.extract rfl rfl rfl) rfl rfl rfl ?_
    refine Seq.alloc rfl (run_zero zero_lex_Word) rfl rfl rfl ?_
    intro g4 w2 n4
    have e4 := Nat.le_trans bel.size n4.ge
    have l4 := Nat.lt_of_lt_of_le k2.lt n4.ge
    replace bel := bel.step n4.below
    replace k2 := k2.step n4.below
    have k4 := n4.blk
    refine Seq.storeN rfl rfl rfl rfl (m := 4) (by kernel_rfl) rfl (by repeat' first | exact trivial | apply And.intro | rfl | assumption) k4 (by simp [Value.cells]) rfl rfl ?_
    intro w3 pw3
    replace bel := bel.put k4 pw3 e4
    replace k2 := k2.put pw3 (by omega)
    replace k4 := pw3.blk
    refine Seq.val (Runs.assign rfl rfl) rfl rfl rfl ?_
    refine Seq.nil ?_
    refine Post.weak (F' := [(0, _), (2, _), (3, _), (4, _), (5, _), (9, _)]) ⟨rfl, rfl, rfl, rfl, rfl, rfl, trivial⟩ ?_
    refine Post.then_ ?_
    refine Cd.seq ?_
    refine Cd.region ?_
    refine Seq.val (Runs.move rfl rfl) rfl rfl rfl ?_
    refine Seq.nil ?_
    refine Post.weak (F' := [(0, _), (2, _), (3, _), (4, _), (5, _), (9, _), (18, _)]) ⟨rfl, rfl, rfl, rfl, rfl, rfl, rfl, trivial⟩ ?_
    refine Post.then_ ?_
    refine Cd.cond rfl (fun hd => ?_) (fun hd => ?_)
    · rw [hd, if_pos rfl] at hnw
      obtain ⟨rfl, rfl, rfl⟩ := hday hd
      refine Cd.seq ?_
      refine Cd.region ?_
      refine Seq.val (Runs.loadW rfl rfl Try.underlying50 rfl k4 (m := 4) (by kernel_rfl) rfl) rfl rfl rfl ?_
      refine Seq.storeN rfl rfl rfl rfl (m := 4) (by kernel_rfl) rfl (by repeat' first | exact trivial | apply And.intro | rfl | assumption) k2 (by simp [Value.cells]) rfl rfl ?_
      intro w4 pw4
      replace bel := bel.put k2 pw4 e2
      replace k4 := k4.put pw4 (by omega)
      replace k2 := pw4.blk
      refine Seq.val (Runs.assign rfl rfl) rfl rfl rfl ?_
      refine Seq.nil ?_
      refine Post.weak (F' := [(0, _), (2, _), (3, _), (4, _), (5, _), (9, _), (18, _)]) ⟨rfl, rfl, rfl, rfl, rfl, rfl, rfl, trivial⟩ ?_
      refine Post.then_ ?_
      refine Cd.ret ?_
      refine Post.then_ret ?_
      refine Post.block_ret ?_
      refine Post.then_ret ?_
      refine Post.endC2 rfl rfl rfl k2 Try.underlying50 rfl (m := 4) (by kernel_rfl) rfl (.inl rfl) ?_
      exact ⟨_, _, _, true, rfl, hnw, bel⟩
    · rw [hd, if_neg (by simp)] at hnw
      refine Cd.skip ?_
      refine Post.then_ ?_
      refine Cd.seq ?_
      refine Cd.region ?_
      refine Seq.val (Runs.move rfl rfl) rfl rfl rfl ?_
      refine Seq.call (Enters.func rfl rfl rfl (run_enter Try.func91 (by kernel_rfl) rfl)) rfl rfl rfl (number_any l _ hl hlen) ?_
      rintro e w4 ⟨v, ok, rfl, ha, hb4⟩
      refine ⟨_, rfl, ?_⟩
      have hlt : l.take (runN partB l) = c0 :: (l.take (runN partB l)).drop 1 := by
        have hp : partB c0 = true := by unfold partB; rw [h]; simp
        rw [hcr, runN_cons, if_pos hp, List.take_succ_cons]
        rfl
      have hamt := amt0_of ha c0 _ hlt h
      replace bel := bel.step hb4
      replace k2 := k2.step hb4
      replace k4 := k4.step hb4
      refine Seq.val (Runs.extract rfl rfl rfl) rfl rfl rfl ?_
      refine Seq.val (Runs.extract rfl rfl rfl) rfl rfl rfl ?_
      refine Seq.storeN rfl rfl rfl rfl (m := 4) (by kernel_rfl) rfl (by repeat' first | exact trivial | apply And.intro | rfl | assumption) k2 (by simp [Value.cells]) rfl rfl ?_
      intro w4 pw4
      replace bel := bel.put k2 pw4 e2
      replace k4 := k4.put pw4 (by omega)
      replace k2 := pw4.blk
      refine Seq.val (Runs.assign rfl rfl) rfl rfl rfl ?_
      refine Seq.nil ?_
      refine Post.weak (F' := [(0, _), (2, _), (3, _), (4, _), (5, _), (9, _), (18, _)]) ⟨rfl, rfl, rfl, rfl, rfl, rfl, rfl, trivial⟩ ?_
      refine Post.then_ ?_
      refine Cd.ret ?_
      refine Post.block_ret ?_
      refine Post.then_ret ?_
      refine Post.endC2 rfl rfl rfl k2 Try.underlying50 rfl (m := 4) (by kernel_rfl) rfl (.inl rfl) ?_
      refine ⟨_, _, _, ok, rfl, ?_, bel⟩
      rw [hnw, hamt]
      cases ok <;> rfl
  · rw [h, if_neg (by simp)] at hnw
    refine Cd.seq ?_
    refine Cd.region ?_
    refine Seq.val (Runs.move rfl rfl) rfl rfl rfl ?_
    refine Seq.val (Runs.indexL (l := l) (j := 0) rfl rfl rfl Try.underlying9 rfl h0 hc256) rfl rfl rfl ?_
    refine Seq.call (Enters.func rfl rfl rfl (run_enter Try.func26 (by kernel_rfl) rfl)) rfl rfl rfl (letter_any c0 _) ?_
    rintro e w3 ⟨rfl, hb3⟩
    refine ⟨_, rfl, ?_⟩
    replace bel := bel.step hb3
    replace k2 := k2.step hb3
    refine Seq.val (Runs.assign rfl rfl) rfl rfl rfl ?_
    refine Seq.nil ?_
    refine Post.weak (F' := [(0, _), (2, _), (3, _), (9, _), (24, _)]) ⟨rfl, rfl, rfl, rfl, rfl, trivial⟩ ?_
    refine Post.then_ ?_
    refine Cd.cond rfl (fun h2 => ?_) (fun h2 => ?_)
    · rw [h2, if_pos rfl] at hnw
      refine Cd.seq ?_
      refine Cd.region ?_
      refine Seq.val (Runs.move rfl rfl) rfl rfl rfl ?_
      refine Seq.call (Enters.func rfl rfl rfl (run_enter Try.func56 (by kernel_rfl) rfl)) rfl rfl rfl (run_part l _ hl hlen) ?_
      rintro e w4 ⟨rfl, hb4⟩
      refine ⟨_, rfl, ?_⟩
      replace bel := bel.step hb4
      replace k2 := k2.step hb4
      generalize runN partB l = n at *
      refine Seq.val (Runs.assign rfl rfl) rfl rfl rfl ?_
      refine Seq.nil ?_
      refine Post.weak (F' := [(0, _), (2, _), (3, _), (6, _), (9, _), (24, _)]) ⟨rfl, rfl, rfl, rfl, rfl, rfl, trivial⟩ ?_
      refine Post.then_ ?_
      refine Cd.seq ?_
      refine Cd.region ?_
      refine Seq.val (Runs.move rfl rfl) rfl rfl rfl ?_
      refine Seq.val (Runs.move rfl rfl) rfl rfl rfl ?_
      refine Seq.val (Runs.sliceTo (j := n) rfl rfl rfl Try.underlying9 rfl hrl) rfl rfl rfl ?_
      refine Seq.val (Runs.build rfl rfl (run_build_Word2 _ _ _)) rfl rfl rfl ?_
      refine Seq.val (Runs.move rfl rfl) rfl rfl rfl ?_
      refine Seq.val (Runs.leq rfl rfl rfl) rfl rfl rfl ?_
      refine Seq.storeN rfl rfl rfl rfl (m := 4) (by kernel_rfl) rfl (by repeat' first | exact trivial | apply And.intro | rfl | assumption) k2 (by simp [Value.cells]) rfl rfl ?_
      intro w2 pw2
      replace bel := bel.put k2 pw2 e2
      replace k2 := pw2.blk
      refine Seq.val (Runs.assign rfl rfl) rfl rfl rfl ?_
      refine Seq.nil ?_
      refine Post.weak (F' := [(0, _), (2, _), (3, _), (6, _), (9, _), (24, _)]) ⟨rfl, rfl, rfl, rfl, rfl, rfl, trivial⟩ ?_
      refine Post.then_ ?_
      refine Cd.ret ?_
      refine Post.block_ret ?_
      refine Post.then_ret ?_
      refine Post.endC2 rfl rfl rfl k2 Try.underlying50 rfl (m := 4) (by kernel_rfl) rfl (.inl rfl) ?_
      refine ⟨3, l.take n, 0, decide ((n : Int) ≤ 16), rfl, ?_, bel⟩
      rw [hnw]
      by_cases hn : n ≤ 16
      · rw [if_pos hn, decide_eq_true (show (n : Int) ≤ 16 by omega)]; rfl
      · rw [if_neg hn, decide_eq_false (show ¬ (n : Int) ≤ 16 by omega)]; rfl
    · rw [h2, if_neg (by simp)] at hnw
      refine Cd.skip ?_
      refine Post.block_normal ?_
      refine Post.then_ ?_
      refine Cd.seq ?_
      refine Cd.seq ?_
      refine Cd.region ?_
      refine Seq.call (Enters.func rfl rfl rfl (run_enter Try.func92 (by kernel_rfl) rfl)) rfl rfl rfl (signs_any _) ?_
      rintro e w4 ⟨gs, rfl, ks, hb4⟩
      refine ⟨_, rfl, ?_⟩
      replace bel := bel.step hb4
      replace k2 := k2.step hb4
      refine Seq.val (Runs.len rfl rfl Try.underlying85) rfl rfl rfl ?_
      refine Seq.val (Runs.move rfl rfl) rfl rfl rfl ?_
      refine Seq.nil ?_
      refine Post.weak (F' := [(0, _), (2, _), (3, _), (9, _), (24, _), (36, _), (37, _), (38, _)]) ⟨rfl, rfl, rfl, rfl, rfl, rfl, rfl, rfl, trivial⟩ ?_
      refine Post.then_ ?_
      refine Cd.block ?_
      refine Cd.loop (σ := Nat) (fun k => [(0, .string (strOf l)), (2, .pointer (some ⟨g2, 0, none⟩)), (36, .slice (some ⟨gs, 0, none⟩) 16 16), (37, .int .i64 16), (38, .int .i64 (k : Int))])
        (fun k wr => k ≤ 16 ∧ (∀ j s', j < k → signsL[j]? = some s' → decide (l.take s'.length = s') = false) ∧ Below w.heap.size w wr ∧ Blk wr g2 50 #[.int .i64 0, .string { data := #[] }, .int .i64 0, .int .i64 0] ∧ Blk wr gs 9 (strV signsL).toArray) (fun k => 16 - k) 0 ⟨by omega, fun j s' hj => absurd hj (by omega), bel, k2, ks⟩ ⟨rfl, rfl, rfl, rfl, rfl, trivial⟩ ?_
      clear bel k2 ks
      rintro k wr ⟨hk, hno, bel, k2, ks⟩
      refine Cd.seq ?_
      refine Cd.region ?_
      refine Seq.val (Runs.lss rfl rfl rfl) rfl rfl rfl ?_
      refine Seq.nil ?_
      refine Post.weak (F' := [(0, _), (2, _), (36, _), (37, _), (38, _), (39, _)]) ⟨rfl, rfl, rfl, rfl, rfl, rfl, trivial⟩ ?_
      refine Post.then_ ?_
      refine Cd.seq ?_
      refine Cd.condD rfl (fun hc => ?_) (fun hc => ?_)
      · obtain ⟨s, hs⟩ : ∃ s, signsL[k]? = some s := ⟨_, List.getElem?_eq_getElem (show k < signsL.length by have : signsL.length = 16 := rfl; omega)⟩
        have hsl := signs_lt s (List.mem_of_getElem? hs)
        have hcell : (strV signsL).toArray[k]? = some (.string (strOf s)) := by
          unfold strV
          simp [hs]
        refine Cd.skip ?_
        refine Post.then_ ?_
        refine Cd.seq ?_
        refine Cd.block ?_
        refine Cd.seq ?_
        refine Cd.region ?_
        refine Seq.val (Runs.indexB rfl rfl rfl Try.underlying85 (by kernel_rfl) (j := k) rfl (by omega)) rfl rfl rfl ?_
        refine Seq.val (Runs.loadB rfl rfl Try.underlying9 rfl ks hcell) rfl rfl rfl ?_
        refine Seq.val (Runs.assign rfl rfl) rfl rfl rfl ?_
        refine Seq.nil ?_
        refine Post.weak (F' := [(0, _), (2, _), (8, _), (36, _), (37, _), (38, _), (39, _)]) ⟨rfl, rfl, rfl, rfl, rfl, rfl, rfl, trivial⟩ ?_
        refine Post.then_ ?_
        refine Cd.seq ?_
        refine Cd.region ?_
        refine Seq.val (Runs.move rfl rfl) rfl rfl rfl ?_
        refine Seq.val (Runs.move rfl rfl) rfl rfl rfl ?_
        refine Seq.call (Enters.func rfl rfl rfl (run_enter Try.func93 (by kernel_rfl) rfl)) rfl rfl rfl (hasPrefixL_any l s _ hl hsl) ?_
        rintro e w6 ⟨rfl, rfl⟩
        refine ⟨_, rfl, ?_⟩
        refine Seq.nil ?_
        refine Post.weak (F' := [(0, _), (2, _), (8, _), (36, _), (37, _), (38, _), (39, _), (44, _)]) ⟨rfl, rfl, rfl, rfl, rfl, rfl, rfl, rfl, trivial⟩ ?_
        refine Post.then_ ?_
        refine Cd.cond rfl (fun h3 => ?_) (fun h3 => ?_)
        · have hsw : signW l = some s := find_at _ signsL k s hno hs h3
          rw [hsw] at hnw
          refine Cd.seq ?_
          refine Cd.region ?_
          refine Seq.val (Runs.move rfl rfl) rfl rfl rfl ?_
          refine Seq.val (Runs.build rfl rfl (run_build_Word2 _ _ _)) rfl rfl rfl ?_
          refine Seq.storeN rfl rfl rfl rfl (m := 4) (by kernel_rfl) rfl (by repeat' first | exact trivial | apply And.intro | rfl | assumption) k2 (by simp [Value.cells]) rfl rfl ?_
          intro w2 pw2
          replace bel := bel.put k2 pw2 e2
          replace k2 := pw2.blk
          refine Seq.val (Runs.assign rfl rfl) rfl rfl rfl ?_
          refine Seq.nil ?_
          refine Post.weak (F' := [(0, _), (2, _), (3, _), (8, _), (36, _), (37, _), (38, _), (39, _), (44, _)]) ⟨rfl, rfl, rfl, rfl, rfl, rfl, rfl, rfl, rfl, trivial⟩ ?_
          refine Post.then_ ?_
          refine Cd.ret ?_
          refine Post.block_ret ?_
          refine Post.then_ret ?_
          refine Post.round_ret ?_
          refine Post.block_ret ?_
          refine Post.then_ret ?_
          refine Post.endC2 rfl rfl rfl k2 Try.underlying50 rfl (m := 4) (by kernel_rfl) rfl (.inl rfl) ?_
          exact ⟨0, s, 0, true, rfl, hnw, bel⟩
        · skip
          refine Cd.skip ?_
          refine Post.block_normal ?_
          refine Post.then_ ?_
          refine Cd.region ?_
          refine Seq.val (Runs.addI rfl rfl rfl (by omega) (by omega)) rfl rfl rfl ?_
          refine Seq.val (Runs.move rfl rfl) rfl rfl rfl ?_
          refine Seq.nil ?_
          refine Post.weak (F' := [(0, _), (2, _), (8, _), (36, _), (37, _), (38, _), (39, _), (44, _)]) ⟨rfl, rfl, rfl, rfl, rfl, rfl, rfl, rfl, trivial⟩ ?_
          refine Post.round (k + 1) ⟨rfl, rfl, rfl, rfl, rfl, trivial⟩ ⟨by omega, fun j s' hj hs' => ?_, bel, k2, ks⟩ (by omega)
          rcases Nat.lt_or_ge j k with h4 | h4
          · exact hno j s' h4 hs'
          · obtain rfl : j = k := by omega
            rw [hs] at hs'
            injection hs' with hs'
            subst hs'
            exact h3
      · have hsw : signW l = none := find_no _ signsL fun j s' hs' => hno j s' (by
          have := (List.getElem?_eq_some_iff.1 hs').1
          have h16 : signsL.length = 16 := rfl
          omega) hs'
        rw [hsw] at hnw
        refine Cd.exit ?_
        refine Post.then_exit ?_
        refine Post.round_exit ?_
        refine Post.block_exit ?_
        refine Post.then_ ?_
        refine Cd.seq ?_
        refine Cd.region ?_
        refine Seq.val (Runs.build rfl rfl (run_build_Word0 _)) rfl rfl rfl ?_
        refine Seq.storeN rfl rfl rfl rfl (m := 4) (by kernel_rfl) rfl (by repeat' first | exact trivial | apply And.intro | rfl | assumption) k2 (by simp [Value.cells]) rfl rfl ?_
        intro w2 pw2
        replace bel := bel.put k2 pw2 e2
        replace k2 := pw2.blk
        refine Seq.val (Runs.assign rfl rfl) rfl rfl rfl ?_
        refine Seq.nil ?_
        refine Post.weak (F' := [(0, _), (2, _), (3, _), (36, _), (37, _), (38, _), (39, _)]) ⟨rfl, rfl, rfl, rfl, rfl, rfl, rfl, trivial⟩ ?_
        refine Post.then_ ?_
        refine Cd.ret ?_
        refine Post.endC2 rfl rfl rfl k2 Try.underlying50 rfl (m := 4) (by kernel_rfl) rfl (.inl rfl) ?_
        exact ⟨0, [], 0, false, rfl, hnw, bel⟩
end Go.Proofs.Ytijaldpmpjapiaa

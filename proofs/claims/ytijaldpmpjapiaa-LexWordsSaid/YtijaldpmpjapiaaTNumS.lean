/-
  debentureref01's Amount: what it answers. Condition: the text is within reach.
-/
import Derived.Test.YtijaldpmpjapiaaTNumR
namespace Go.Proofs.Ytijaldpmpjapiaa
open Go.RowKit

theorem rounds_uniq {u d N M : Nat} (h : Rounds u d N) (k : Rounds u d M) : N = M := by
  rcases Nat.lt_trichotomy N M with h1 | h1 | h1
  · exact absurd (k.1 N h1) h.2
  · exact h1
  · exact absurd (h.1 M h1) k.2
theorem rounds_least (u d : Nat) : ∀ n, ¬ (0 < u / 10 ^ n ∨ n ≤ d) → ∃ N, N ≤ n ∧ Rounds u d N := by
  intro n
  induction n using Nat.strongRecOn with
  | _ n ih =>
    intro hn
    by_cases h : ∀ j, j < n → 0 < u / 10 ^ j ∨ j ≤ d
    · exact ⟨n, Nat.le_refl _, h, hn⟩
    · have : ∃ j, j < n ∧ ¬ (0 < u / 10 ^ j ∨ j ≤ d) := by
        apply Classical.byContradiction
        intro h2
        exact h fun j hj => Classical.byContradiction fun h3 => h2 ⟨j, hj, h3⟩
      obtain ⟨j, hj, hp⟩ := this
      obtain ⟨N, h1, h2⟩ := ih j hj hp
      exact ⟨N, by omega, h2⟩
theorem rounds_ex (u d : Nat) (hu : u ≤ 9223372036854775808) (hd : d ≤ 9) : ∃ N, N ≤ 19 ∧ Rounds u d N :=
  rounds_least u d 19 (by rintro (h | h)
                          · have : u / 10 ^ 19 = 0 := Nat.div_eq_of_lt (by omega)
                            omega
                          · omega)
theorem refPrint_N (n : Int) (d N : Nat) (w : World) (hn : I64 n) (hd : d ≤ 9) (hN : Rounds n.natAbs d N) :
    Calls Try.prog 46 #[.int .i64 n, .int .i64 (d : Int)] w fun e w' => e = .returned (.string (strOf (printed n d N))) ∧ Grow w w' :=
  (refPrint_any n d w hn hd).mono fun e w' ⟨⟨M, hM, _, he⟩, hb⟩ => ⟨by rw [he, rounds_uniq hM hN], hb⟩
theorem printed_lt (n : Int) (d N : Nat) : ∀ x ∈ printed n d N, x < 256 := by
  intro x hx
  unfold printed at hx
  rw [List.mem_reverse] at hx
  rcases List.mem_append.1 hx with hx | hx
  · exact prB_lt _ _ _ x hx
  · split at hx
    · simp at hx; omega
    · simp at hx
theorem form_len {l : List Nat} {d : Nat} {y : Int} {F B : List Nat} (h : Form l d y F B) (hy : I64 y) (hd : d ≤ 9) : l.length ≤ 30 := by
  obtain ⟨N, hN, -, hN2⟩ := printed_of_form h
  unfold I64 at hy
  obtain ⟨M, hM, hM2⟩ := rounds_ex y.natAbs d (by omega) hd
  have := rounds_uniq hN hM2
  have hb := h.len
  rw [h.eq]
  unfold FormL
  rw [List.length_append, List.length_append]
  have h1 : (if y < 0 then [45] else [] : List Nat).length ≤ 1 := by split <;> simp
  have h2 : (if 0 < d then 46 :: B else [] : List Nat).length ≤ 1 + d := by split <;> simp; omega
  omega
theorem valS_big (l : List Nat) (k : Nat) (hl : l.length ≤ 30) (hk : k ≤ l.length) : valS (l.take k) < 1000000000000000000000000000000 := by
  have h1 := valS_lt l k
  have h2 : 10 ^ k ≤ 10 ^ 30 := Nat.pow_le_pow_right (by omega) (by omega)
  omega
theorem head_at (l : List Nat) : (l.head? = some 45) ↔ (0 < l.length ∧ l.getD 0 0 = 45) := by
  cases l with
  | nil => simp
  | cons c l => simp

set_option maxHeartbeats 1000000 in
theorem refAmount_any (l : List Nat) (d : Int) (w : World) (hl : ∀ x ∈ l, x < 256) (hd : I64 d) :
    Calls Try.prog 54 #[.string (strOf l), .int .i64 d] w fun e w' => ∃ x b, e = .returned (.tuple #[.int .i64 x, .bool b]) ∧ AmtA l d x b ∧ Grow w w' := by
  have bel := Below.refl w.heap.size w
  refine Calls.start 73 Try.func54 rfl rfl rfl ?_
  refine Cd.seq ?_
  refine Cd.region ?_
  refine Seq.val (Runs.assign rfl rfl) rfl rfl rfl ?_
  refine Seq.val (Runs.assign rfl rfl) rfl rfl rfl ?_
  refine Seq.nil ?_
  refine Post.weak (F' := [(0, _), (1, _), (4, _), (5, _)]) ⟨rfl, rfl, rfl, rfl, trivial⟩ ?_
  refine Post.then_ ?_
  refine Cd.seq ?_
  refine Cd.seq ?_
  refine Cd.region ?_
  refine Seq.val (Runs.move rfl rfl) rfl rfl rfl ?_
  refine Seq.val (Runs.lss rfl rfl rfl) rfl rfl rfl ?_
  refine Seq.val (Runs.move rfl rfl) rfl rfl rfl ?_
  refine SeqC.start ?_
  refine SeqC.open rfl rfl rfl rfl rfl rfl rfl (fun hcx => Runs.move rfl rfl) ?_
  refine SeqC.next rfl rfl rfl rfl rfl rfl rfl (fun hcx => Runs.gtr rfl rfl rfl) ?_
  refine SeqC.or rfl rfl rfl rfl rfl rfl rfl ?_
  refine Seq.val (Runs.move rfl rfl) rfl rfl rfl ?_
  refine SeqC.start ?_
  refine SeqC.open rfl rfl rfl rfl rfl rfl rfl (fun hcx => Runs.move rfl rfl) ?_
  refine SeqC.next rfl rfl rfl rfl rfl rfl rfl (fun hcx => Runs.lenL rfl rfl Try.underlying9) ?_
  refine SeqC.next rfl rfl rfl rfl rfl rfl rfl (fun hcx => Runs.gtr rfl rfl rfl) ?_
  refine SeqC.or rfl rfl rfl rfl rfl rfl rfl ?_
  refine Seq.nil ?_
  refine Post.weak (F' := [(0, _), (1, _), (4, _), (5, _), (20, _)]) ⟨rfl, rfl, rfl, rfl, rfl, trivial⟩ ?_
  refine Post.then_ ?_
  refine Cd.cond rfl (fun h => ?_) (fun h => ?_)
  · skip
    refine Cd.seq ?_
    refine Cd.region ?_
    refine Seq.val (Runs.assign rfl rfl) rfl rfl rfl ?_
    refine Seq.val (Runs.assign rfl rfl) rfl rfl rfl ?_
    refine Seq.nil ?_
    refine Post.weak (F' := [(0, _), (1, _), (4, _), (5, _), (20, _)]) ⟨rfl, rfl, rfl, rfl, rfl, trivial⟩ ?_
    refine Post.then_ ?_
    refine Cd.ret ?_
    refine Post.then_ret ?_
    refine Post.end2 rfl rfl rfl (.inl rfl) ?_
    refine ⟨0, false, rfl, ⟨fun h => (by cases h), fun _ => ⟨rfl, fun h1 h2 y hy F B hf => ?_⟩⟩, bel⟩
    have := form_len hf hy (by omega)
    simp at h
    omega
  obtain ⟨D, rfl⟩ : ∃ D : Nat, d = (D : Int) := ⟨d.toNat, by simp at h; omega⟩
  have hD : D ≤ 9 := by simp at h; omega
  have hlen : l.length ≤ 30 := by simp at h; omega
  clear h
  have hno : (∀ y, I64 y → ∀ F B, ¬ Form l D y F B) → AmtA l (D : Int) 0 false := fun h => ⟨fun h => (by cases h), fun _ => ⟨rfl, fun _ _ => by rw [Int.toNat_natCast]; exact h⟩⟩
  refine Cd.skip ?_
  refine Post.then_ ?_
  refine Cd.seq ?_
  refine Cd.region ?_
  refine Seq.val (Runs.build rfl rfl (run_build_Big0 _)) rfl rfl rfl ?_
  refine Seq.alloc rfl (run_zero zero_debentureref01_Big) rfl rfl rfl ?_
  intro g6 w1 n6
  have e6 := Nat.le_trans bel.size n6.ge
  replace bel := bel.step n6.below
  have k6 := n6.blk
  refine Seq.storeN rfl rfl rfl rfl (m := 2) (by kernel_rfl) rfl (by repeat' first | exact trivial | apply And.intro | rfl | assumption) k6 (by simp [Value.cells]) rfl rfl ?_
  intro w2 pw2
  replace bel := bel.put k6 pw2 e6
  replace k6 := pw2.blk
  refine Seq.nil ?_
  refine Post.weak (F' := [(0, _), (1, _), (4, _), (5, _), (6, _), (20, _)]) ⟨rfl, rfl, rfl, rfl, rfl, rfl, trivial⟩ ?_
  refine Post.then_ ?_
  refine Cd.seq ?_
  refine Cd.seq ?_
  refine Cd.region ?_
  refine Seq.val (Runs.assign rfl rfl) rfl rfl rfl ?_
  refine Seq.nil ?_
  refine Post.weak (F' := [(0, _), (1, _), (4, _), (5, _), (6, _), (7, _), (20, _)]) ⟨rfl, rfl, rfl, rfl, rfl, rfl, rfl, trivial⟩ ?_
  refine Post.then_ ?_
  refine Cd.block ?_
  have hm0 : MagU w2 (.slice none 0 0) 0 := ⟨MagR.zero _⟩
  refine Cd.loop (σ := Nat × Value) (fun s => [(0, .string (strOf l)), (1, .int .i64 (D : Int)), (6, .pointer (some ⟨g6, 0, none⟩)), (7, .int .i64 (s.1 : Int))])
    (fun s wr => s.1 ≤ l.length ∧ Below w.heap.size w wr ∧ MagU wr s.2 (valS (l.take s.1)) ∧ Blk wr g6 133 #[.bool false, s.2]) (fun s => l.length - s.1) (0, .slice none 0 0) ⟨Nat.zero_le _, bel, by simpa [valS] using hm0, k6⟩ ⟨rfl, rfl, rfl, rfl, trivial⟩ ?_
  clear bel k6
  rintro ⟨k, m⟩ wr ⟨hk, bel, hm, k6⟩
  dsimp only at hk hm k6 ⊢
  have hbig := valS_big l k hlen hk
  refine Cd.seq ?_
  refine Cd.seq ?_
  refine Cd.region ?_
  refine Seq.val (Runs.move rfl rfl) rfl rfl rfl ?_
  refine Seq.val (Runs.move rfl rfl) rfl rfl rfl ?_
  refine Seq.val (Runs.lenL rfl rfl Try.underlying9) rfl rfl rfl ?_
  refine Seq.val (Runs.lss rfl rfl rfl) rfl rfl rfl ?_
  refine Seq.nil ?_
  refine Post.weak (F' := [(0, _), (1, _), (6, _), (7, _), (25, _)]) ⟨rfl, rfl, rfl, rfl, rfl, trivial⟩ ?_
  refine Post.then_ ?_
  refine Cd.condD rfl (fun hc => ?_) (fun hc => ?_)
  · obtain ⟨c, hc⟩ : ∃ c, l[k]? = some c := ⟨_, List.getElem?_eq_getElem (show k < l.length by omega)⟩
    have hc256 := hl c (List.mem_of_getElem? hc)
    have htk : l.take (k + 1) = l.take k ++ [c] := by rw [List.take_add_one, hc]; rfl
    have hvs : valS (l.take (k + 1)) = if 48 ≤ c ∧ c ≤ 57 then 10 * valS (l.take k) + (c - 48) else valS (l.take k) := by rw [htk, valS_snoc]
    generalize hV : valS (l.take k) = V at *
    refine Cd.skip ?_
    refine Post.then_ ?_
    refine Cd.seq ?_
    refine Cd.block ?_
    refine Cd.seq ?_
    refine Cd.region ?_
    refine Seq.val (Runs.move rfl rfl) rfl rfl rfl ?_
    refine Seq.val (Runs.move rfl rfl) rfl rfl rfl ?_
    refine Seq.val (Runs.indexL (l := l) (j := k) rfl rfl rfl Try.underlying9 rfl hc hc256) rfl rfl rfl ?_
    refine Seq.val (Runs.geq rfl rfl rfl) rfl rfl rfl ?_
    refine Seq.val (Runs.move rfl rfl) rfl rfl rfl ?_
    refine SeqC.start ?_
    refine SeqC.open rfl rfl rfl rfl rfl rfl rfl (fun hcx => Runs.move rfl rfl) ?_
    refine SeqC.next rfl rfl rfl rfl rfl rfl rfl (fun hcx => Runs.move rfl rfl) ?_
    refine SeqC.next rfl rfl rfl rfl rfl rfl rfl (fun hcx => Runs.indexL (l := l) (j := k) rfl rfl rfl Try.underlying9 rfl hc hc256) ?_
    refine SeqC.next rfl rfl rfl rfl rfl rfl rfl (fun hcx => Runs.leq rfl rfl rfl) ?_
    refine SeqC.and rfl rfl rfl rfl rfl rfl rfl ?_
    refine Seq.nil ?_
    refine Post.weak (F' := [(0, _), (1, _), (6, _), (7, _), (25, _), (37, _)]) ⟨rfl, rfl, rfl, rfl, rfl, rfl, trivial⟩ ?_
    refine Post.then_ ?_
    refine Cd.cond rfl (fun h => ?_) (fun h => ?_)
    · have hcd : 48 ≤ c ∧ c ≤ 57 := by simp at h; omega
      rw [if_pos hcd] at hvs
      clear h
      refine Cd.draw 10 (by kernel_rfl) [] (.inl rfl) rfl Grow Grow.refl (fun _ _ _ => Grow.trans) ?_
      intro w3 hw3 zw3
      replace bel := bel.step hw3
      replace k6 := k6.step hw3
      replace hm := hm.step hw3
      have zbel := bel.size
      have zlt := k6.lt
      refine Dr.val Grow.refl rfl (fun w hG => Runs.loadW rfl rfl Try.underlying133 rfl (k6.step hG) (m := 2) (by kernel_rfl) rfl) rfl ?_
      refine Dr.call (Φ := fun u w => BigR w u 10) rfl (fun w => Enters.func rfl rfl rfl (run_enter Try.func97 (by kernel_rfl) rfl)) rfl (BigR.stable _) (fun w hG => of_big 10 _ (by omega) (by omega)) ?_
      refine Dr.call1 (j := 1) (Φ := fun u w => BigR w u ((V : Int) * 10)) rfl rfl rfl (fun u w => Enters.func rfl rfl rfl (run_enter Try.func96 (by kernel_rfl) rfl)) rfl (BigR.stable _) (fun u w hG hu => times_grow _ u (V : Int) 10 _ (hm.step hG).big hu (big_of (by omega)) (big_of (by omega))) ?_
      refine Dr.val Grow.refl rfl (fun w hG => Runs.move rfl rfl) rfl ?_
      refine Dr.val Grow.refl rfl (fun w hG => Runs.move rfl rfl) rfl ?_
      refine Dr.val Grow.refl rfl (fun w hG => Runs.indexL (l := l) (j := k) rfl rfl rfl Try.underlying9 rfl hc hc256) rfl ?_
      refine Dr.val Grow.refl rfl (fun w hG => Runs.subW rfl rfl rfl (wrapB (by omega) (by omega))) rfl ?_
      refine Dr.val Grow.refl rfl (fun w hG => Runs.convI rfl rfl Try.underlying5 Try.underlying2 (wrapI (by omega) (by omega))) rfl ?_
      refine Dr.call (Φ := fun u w => BigR w u ((c : Int) - 48)) rfl (fun w => Enters.func rfl rfl rfl (run_enter Try.func97 (by kernel_rfl) rfl)) rfl (BigR.stable _) (fun w hG => of_big ((c : Int) - 48) _ (by omega) (by omega)) ?_
      refine Dr.call2 (j := 2) (j' := 8) (Φ := fun u w => BigR w u ((V : Int) * 10 + ((c : Int) - 48))) rfl rfl rfl rfl rfl (fun u u' w => Enters.func rfl rfl rfl (run_enter Try.func95 (by kernel_rfl) rfl)) rfl (BigR.stable _) (fun u u' w hG hu hu' => plus_big _ _ ((V : Int) * 10) ((c : Int) - 48) _ hu hu' (big_of (by omega)) (big_of (by omega))) ?_
      refine Dr.nil ?_
      refine FinX.open (j := 9) rfl ?_
      intro u9
      refine FinX.done (F' := [(0, _), (1, _), (6, _), (7, _), (25, _), (37, _), (47, _)]) rfl ⟨rfl, rfl, rfl, rfl, rfl, rfl, rfl, trivial⟩ ?_
      intro w4 hw4 fw4
      replace bel := bel.step hw4
      replace k6 := k6.step hw4
      replace hm := hm.step hw4
      obtain ⟨-, h9⟩ := (by assumption : True ∧ BigR _ _ ((V : Int) * 10 + ((c : Int) - 48)))
      rw [show ((V : Int) * 10 + ((c : Int) - 48)) = ((valS (l.take (k + 1)) : Nat) : Int) by omega] at h9
      obtain ⟨mr, e9, omr, hmr⟩ := h9.agg
      rw [decide_eq_false (show ¬ ((valS (l.take (k + 1)) : Nat) : Int) < 0 by omega)] at e9
      subst e9
      rw [Int.natAbs_natCast] at hmr
      have hmr : MagU _ mr (valS (l.take (k + 1))) := ⟨hmr⟩
      have hni := hm.mag.ni
      refine Seq.storeN rfl rfl rfl rfl (m := 2) (by kernel_rfl) rfl (by repeat' first | exact trivial | apply And.intro | rfl | assumption) k6 (by simp [Value.cells]) rfl rfl ?_
      intro w5 pw5
      replace bel := bel.put k6 pw5 e6
      replace hmr := hmr.put k6 pw5 e6
      replace k6 := pw5.blk
      refine Seq.nil ?_
      refine Post.weak (F' := [(0, _), (1, _), (6, _), (7, _), (25, _), (37, _)]) ⟨rfl, rfl, rfl, rfl, rfl, rfl, trivial⟩ ?_
      refine Post.block_normal ?_
      refine Post.then_ ?_
      refine Cd.region ?_
      refine Seq.val (Runs.move rfl rfl) rfl rfl rfl ?_
      refine Seq.val (Runs.addI rfl rfl rfl (by omega) (by omega)) rfl rfl rfl ?_
      refine Seq.val (Runs.assign rfl rfl) rfl rfl rfl ?_
      refine Seq.nil ?_
      refine Post.weak (F' := [(0, _), (1, _), (6, _), (7, _), (25, _), (37, _)]) ⟨rfl, rfl, rfl, rfl, rfl, rfl, trivial⟩ ?_
      exact Post.round (k + 1, mr) ⟨rfl, rfl, rfl, rfl, trivial⟩ ⟨by dsimp only; omega, bel, hmr, k6⟩ (by dsimp only; omega)
    · rw [if_neg (by simp at h; omega)] at hvs
      refine Cd.skip ?_
      refine Post.block_normal ?_
      refine Post.then_ ?_
      refine Cd.region ?_
      refine Seq.val (Runs.move rfl rfl) rfl rfl rfl ?_
      refine Seq.val (Runs.addI rfl rfl rfl (by omega) (by omega)) rfl rfl rfl ?_
      refine Seq.val (Runs.assign rfl rfl) rfl rfl rfl ?_
      refine Seq.nil ?_
      refine Post.weak (F' := [(0, _), (1, _), (6, _), (7, _), (25, _), (37, _)]) ⟨rfl, rfl, rfl, rfl, rfl, rfl, trivial⟩ ?_
      exact Post.round (k + 1, m) ⟨rfl, rfl, rfl, rfl, trivial⟩ ⟨by dsimp only; omega, bel, by dsimp only; rw [hvs]; exact hm, k6⟩ (by dsimp only; omega)
  · obtain rfl : k = l.length := by omega
    rw [List.take_of_length_le (Nat.le_refl _)] at hm hbig
    have hni := hm.mag.ni
    have hsz : (signZ l).natAbs = valS l := by unfold signZ; split <;> omega
    have hh := head_at l
    have hl0 : 0 < l.length → l[0]? = some (l.getD 0 0) := by
      intro h
      cases l with
      | nil => simp at h
      | cons c l => rfl
    have hl1 : l.getD 0 0 < 256 := by
      cases l with
      | nil => simp
      | cons c l => exact hl c (by simp)
    generalize l.getD 0 0 = c0 at *
    refine Cd.exit ?_
    refine Post.then_exit ?_
    refine Post.round_exit ?_
    refine Post.block_exit ?_
    refine Post.then_ ?_
    refine Cd.seqJ (σ := Value) (fun _ => [(0, .string (strOf l)), (1, .int .i64 (D : Int)), (6, .pointer (some ⟨g6, 0, none⟩))]) (fun m' wr => Below w.heap.size w wr ∧ MagU wr m' (signZ l).natAbs ∧ Blk wr g6 133 #[.bool (decide (signZ l < 0)), m']) ?_ ?_
    · skip
      refine Cd.seq ?_
      refine Cd.region ?_
      refine Seq.val (Runs.move rfl rfl) rfl rfl rfl ?_
      refine Seq.val (Runs.lenL rfl rfl Try.underlying9) rfl rfl rfl ?_
      refine Seq.val (Runs.gtr rfl rfl rfl) rfl rfl rfl ?_
      refine Seq.val (Runs.move rfl rfl) rfl rfl rfl ?_
      refine SeqC.start ?_
      refine SeqC.open rfl rfl rfl rfl rfl rfl rfl (fun hcx => Runs.move rfl rfl) ?_
      refine SeqC.next rfl rfl rfl rfl rfl rfl rfl (fun hcx => Runs.indexL (l := l) (j := 0) (c := c0) rfl rfl rfl Try.underlying9 rfl (hl0 (by simp at hcx; omega)) hl1) ?_
      refine SeqC.next rfl rfl rfl rfl rfl rfl rfl (fun hcx => Runs.eqlI rfl rfl rfl) ?_
      refine SeqC.and rfl rfl rfl rfl rfl rfl rfl ?_
      refine Seq.nil ?_
      refine Post.weak (F' := [(0, _), (1, _), (6, _), (7, _), (25, _), (55, _)]) ⟨rfl, rfl, rfl, rfl, rfl, rfl, trivial⟩ ?_
      refine Post.then_ ?_
      refine Cd.cond rfl (fun h => ?_) (fun h => ?_)
      · have hs : signZ l = -(valS l : Int) := by unfold signZ; rw [if_pos (hh.2 (by simp at h; exact ⟨by omega, by omega⟩))]
        refine Cd.region ?_
        refine Seq.val (Runs.loadW rfl rfl Try.underlying133 rfl k6 (m := 2) (by kernel_rfl) rfl) rfl rfl rfl ?_
        refine Seq.call (Enters.func rfl rfl rfl (run_enter Try.func98 (by kernel_rfl) rfl)) rfl rfl rfl (minus_big _ (valS l : Int) _ hm.big (big_of (by omega))) ?_
        rintro e w7 ⟨v7, rfl, hb7, hv7⟩
        refine ⟨_, rfl, ?_⟩
        rw [← hs] at hv7
        obtain ⟨mr, rfl, omr, hmr⟩ := hv7.agg
        have hmr : MagU _ mr (signZ l).natAbs := ⟨hmr⟩
        replace bel := bel.step hb7
        replace k6 := k6.step hb7
        replace hm := hm.step hb7
        refine Seq.storeN rfl rfl rfl rfl (m := 2) (by kernel_rfl) rfl (by repeat' first | exact trivial | apply And.intro | rfl | assumption) k6 (by simp [Value.cells]) rfl rfl ?_
        intro w3 pw3
        replace bel := bel.put k6 pw3 e6
        replace hmr := hmr.put k6 pw3 e6
        replace k6 := pw3.blk
        refine Seq.nil ?_
        refine Post.weak (F' := [(0, _), (1, _), (6, _), (7, _), (25, _), (55, _)]) ⟨rfl, rfl, rfl, rfl, rfl, rfl, trivial⟩ ?_
        exact Post.join mr ⟨rfl, rfl, rfl, trivial⟩ ⟨bel, hmr, k6⟩
      · have hs : signZ l = (valS l : Int) := by
          unfold signZ
          rw [if_neg]
          intro h2
          have := hh.1 h2
          simp at h
          omega
        have hdf : decide (signZ l < 0) = false := decide_eq_false (by omega)
        refine Cd.skip ?_
        exact Post.join m ⟨rfl, rfl, rfl, trivial⟩ ⟨bel, by rw [hsz]; exact hm, by rw [hdf]; exact k6⟩
    clear bel k6 hm
    rintro m' wr' ⟨bel, hm, k6⟩
    have hzb : (signZ l).natAbs < big := by rw [hsz]; exact big_of (by omega)
    have hsbd := smallOf_bd (signZ l)
    refine Cd.seq ?_
    refine Cd.region ?_
    refine Seq.val (Runs.loadW rfl rfl Try.underlying133 rfl k6 (m := 2) (by kernel_rfl) rfl) rfl rfl rfl ?_
    refine Seq.call (Enters.func rfl rfl rfl (run_enter Try.func99 (by kernel_rfl) rfl)) rfl rfl rfl (small_big' _ (signZ l) _ ⟨_, rfl, hm.mag⟩ hzb) ?_
    rintro e w8 ⟨rfl, hb8⟩
    refine ⟨_, rfl, ?_⟩
    replace bel := bel.step hb8
    replace k6 := k6.step hb8
    replace hm := hm.step hb8
    obtain ⟨N, hN19, hN⟩ := rounds_ex (smallOf (signZ l)).natAbs D (by omega) hD
    refine Seq.val (Runs.move rfl rfl) rfl rfl rfl ?_
    refine Seq.val (Runs.extract rfl rfl rfl) rfl rfl rfl ?_
    refine Seq.val (Runs.extract rfl rfl rfl) rfl rfl rfl ?_
    refine Seq.val (Runs.assign rfl rfl) rfl rfl rfl ?_
    refine Seq.val (Runs.assign rfl rfl) rfl rfl rfl ?_
    refine Seq.nil ?_
    refine Post.weak (F' := [(0, _), (1, _), (6, _), (8, _), (9, _)]) ⟨rfl, rfl, rfl, rfl, rfl, trivial⟩ ?_
    refine Post.then_ ?_
    refine Cd.seq ?_
    refine Cd.seq ?_
    refine Cd.region ?_
    refine Seq.val (Runs.move rfl rfl) rfl rfl rfl ?_
    refine Seq.val (Runs.not rfl rfl) rfl rfl rfl ?_
    refine Seq.val (Runs.move rfl rfl) rfl rfl rfl ?_
    refine SeqC.start ?_
    refine SeqC.open rfl rfl rfl rfl rfl rfl rfl (fun hcx => Runs.move rfl rfl) ?_
    refine SeqC.next rfl rfl rfl rfl rfl rfl rfl (fun hcx => Runs.move rfl rfl) ?_
    refine SeqC.nextC rfl rfl rfl rfl rfl rfl rfl (fun hcx => Enters.func rfl rfl rfl (run_enter Try.func46 (by kernel_rfl) rfl)) (fun hcx => refPrint_N (smallOf (signZ l)) D N _ ⟨hsbd.1, hsbd.2⟩ hD hN) ?_
    intro w3 hw3
    replace bel := bel.step hw3
    replace k6 := k6.step hw3
    replace hm := hm.step hw3
    refine SeqC.next rfl rfl rfl rfl rfl rfl rfl (fun hcx => Runs.move rfl rfl) ?_
    refine SeqC.next rfl rfl rfl rfl rfl rfl rfl (fun hcx => Runs.neqL (a := printed (smallOf (signZ l)) D N) (b := l) rfl rfl rfl (printed_lt _ _ _) hl) ?_
    refine SeqC.or rfl rfl rfl rfl rfl rfl rfl ?_
    refine Seq.nil ?_
    refine Post.weak (F' := [(0, _), (1, _), (6, _), (8, _), (9, _), (71, _)]) ⟨rfl, rfl, rfl, rfl, rfl, rfl, trivial⟩ ?_
    refine Post.then_ ?_
    refine Cd.cond rfl (fun h => ?_) (fun h => ?_)
    · have hnf : ∀ y, I64 y → ∀ F B, ¬ Form l D y F B := by
        intro y hy F B hf
        have h1 := signZ_form hf
        have h2 : fits (signZ l) = true := by rw [h1]; exact fits_of hy.1 hy.2
        have h3 : smallOf (signZ l) = y := by unfold smallOf; rw [h2, if_pos rfl, h1]
        obtain ⟨M, hM, hM2, -⟩ := printed_of_form hf
        rw [h3] at hN h
        rw [h2, ← rounds_uniq hM hN, ← hM2] at h
        simp at h
      refine Cd.seq ?_
      refine Cd.region ?_
      refine Seq.val (Runs.assign rfl rfl) rfl rfl rfl ?_
      refine Seq.val (Runs.assign rfl rfl) rfl rfl rfl ?_
      refine Seq.nil ?_
      refine Post.weak (F' := [(0, _), (1, _), (4, _), (5, _), (6, _), (8, _), (9, _), (71, _)]) ⟨rfl, rfl, rfl, rfl, rfl, rfl, rfl, rfl, trivial⟩ ?_
      refine Post.then_ ?_
      refine Cd.ret ?_
      refine Post.then_ret ?_
      refine Post.end2 rfl rfl rfl (.inl rfl) ?_
      exact ⟨0, false, rfl, hno hnf, bel⟩
    · have hy2 : fits (signZ l) = true ∧ printed (smallOf (signZ l)) D N = l := by
        cases hf : fits (signZ l) with
        | false => rw [hf] at h; simp at h
        | true => rw [hf] at h; simp at h; exact ⟨rfl, h⟩
      obtain ⟨F, B, hfm⟩ := form_of_printed (smallOf (signZ l)) D N hN
      rw [hy2.2] at hfm
      refine Cd.skip ?_
      refine Post.then_ ?_
      refine Cd.seq ?_
      refine Cd.region ?_
      refine Seq.val (Runs.move rfl rfl) rfl rfl rfl ?_
      refine Seq.val (Runs.assign rfl rfl) rfl rfl rfl ?_
      refine Seq.val (Runs.assign rfl rfl) rfl rfl rfl ?_
      refine Seq.nil ?_
      refine Post.weak (F' := [(0, _), (1, _), (4, _), (5, _), (6, _), (8, _), (9, _), (71, _)]) ⟨rfl, rfl, rfl, rfl, rfl, rfl, rfl, rfl, trivial⟩ ?_
      refine Post.then_ ?_
      refine Cd.ret ?_
      refine Post.end2 rfl rfl rfl (.inl rfl) ?_
      exact ⟨_, true, rfl, ⟨fun _ => ⟨by omega, by omega, ⟨hsbd.1, hsbd.2⟩, F, B, by rw [Int.toNat_natCast]; exact hfm⟩, fun h => (by cases h)⟩, bel⟩
end Go.Proofs.Ytijaldpmpjapiaa

/-
  debentureref03's Take, Number; debentureref12's part: what they answer. No condition but that bytes are bytes.
-/
import Derived.Test.YthnnephcohljeaaCodK
namespace Go.Proofs.Ythnnephcohljeaa
open Go.RowKit

def valW : List Nat → Nat
  | [] => 0
  | d :: l => (128 * valW l + d % 128) % 18446744073709551616
theorem valW_lt (l : List Nat) : valW l < 18446744073709551616 := by
  cases l with
  | nil => decide
  | cons d l => exact Nat.mod_lt _ (by decide)
theorem valW_grpK : ∀ k n, n < 18446744073709551616 → valW (grpK k n) = n ∨ 2 * 128 ^ k ≤ n
  | 0, n, h => by
    by_cases h2 : n < 2
    · left
      show (128 * 0 + n % 128) % 18446744073709551616 = n
      omega
    · right; simp; omega
  | k + 1, n, h => by
    by_cases hn : n < 128
    · left
      rw [grpK_small hn]
      show (128 * 0 + n % 128) % 18446744073709551616 = n
      omega
    · rcases valW_grpK k (n / 128) (by omega) with h2 | h2
      · left
        rw [grpK_more hn]
        show (128 * valW (grpK k (n / 128)) + (n % 128 + 128) % 128) % 18446744073709551616 = n
        rw [h2]; omega
      · right
        rw [Nat.pow_succ]
        omega
theorem valW_grp {n : Nat} (h : n < 18446744073709551616) : valW (grp n) = n := by
  rcases valW_grpK 9 n h with h2 | h2
  · exact h2
  · omega
/-- All but the last byte are great ones, the last one is not. -/
theorem grpK_shape : ∀ k n, n < 2 * 128 ^ k → ∃ a c, grpK k n = a ++ [c] ∧ (∀ d ∈ a, 128 ≤ d) ∧ c < 128
  | 0, n, h => ⟨[], n, rfl, by simp, by simp at h; omega⟩
  | k + 1, n, h => by
    by_cases hn : n < 128
    · exact ⟨[], n, by rw [grpK_small hn]; rfl, by simp, hn⟩
    · obtain ⟨a, c, e, h1, h2⟩ := grpK_shape k (n / 128) (by rw [Nat.pow_succ] at h; rw [Nat.div_lt_iff_lt_mul (by omega)]; omega)
      refine ⟨(n % 128 + 128) :: a, c, by rw [grpK_more hn, e]; rfl, fun d hd => ?_, h2⟩
      rcases List.mem_cons.1 hd with rfl | hd
      · omega
      · exact h1 d hd
/-- Where a number ends. -/
theorem take_at {m k : Nat} {s r : List Nat} (hm : m < 18446744073709551616) (hs : s = grp m ++ r) (hk1 : 1 ≤ k) (hk : k ≤ s.length) (hk10 : k ≤ 10) (hb : ∀ j, j + 1 < k → ∀ d, s[j]? = some d → 128 ≤ d) (he : (∀ d, s[k - 1]? = some d → d < 128) ∨ k = 10) : s.take k = grp m := by
  obtain ⟨a, c, e, h1, h2⟩ := grpK_shape 9 m (by omega)
  have hl := grp_len m
  have e' : grp m = a ++ [c] := e
  have hla : (grp m).length = a.length + 1 := by rw [e']; simp
  have hc : s[a.length]? = some c := by
    rw [hs, e', List.append_assoc, List.getElem?_append_right (Nat.le_refl _), Nat.sub_self]; rfl
  have ha : ∀ j, j < a.length → ∃ d, s[j]? = some d ∧ 128 ≤ d := fun j hj => by
    refine ⟨a[j], ?_, h1 _ (List.getElem_mem hj)⟩
    rw [hs, e', List.append_assoc, List.getElem?_append_left hj, List.getElem?_eq_getElem hj]
  have hka : k = a.length + 1 := by
    rcases Nat.lt_trichotomy k (a.length + 1) with h | h | h
    · obtain ⟨d, hd, hd2⟩ := ha (k - 1) (by omega)
      rcases he with he | he
      · have := he d hd; omega
      · omega
    · exact h
    · have := hb a.length (by omega) c hc
      omega
  rw [hka, ← hla, hs]
  simp
def takeF (s : List Nat) : Nat × Nat := match gP s with
  | some (n, r) => (n, s.length - r.length)
  | none => (0, 0)
theorem valW_take {s : List Nat} {i d : Nat} (h : s[i]? = some d) (k : Nat) (hk : i < k) : valW ((s.take k).drop i) = (128 * valW ((s.take k).drop (i + 1)) + d % 128) % 18446744073709551616 := by
  have hi := (List.getElem?_eq_some_iff.1 h).1
  have hlt : i < (s.take k).length := by rw [List.length_take]; omega
  rw [List.drop_eq_getElem_cons hlt]
  have : (s.take k)[i] = d := by
    rw [List.getElem_take]
    obtain ⟨_, e⟩ := List.getElem?_eq_some_iff.1 h
    exact e
  rw [this]; rfl
theorem take_any3 (s : List Nat) (w : World) (hs : Byt s) : Calls Try.prog 82 #[.string (strOf s)] w fun e w' => e = .returned (.tuple #[.int .u64 ((takeF s).1 : Int), .int .i64 ((takeF s).2 : Int)]) ∧ Grow w w' := by
  have bel := Below.refl w.heap.size w
  have hnone : gP s = none → takeF s = (0, 0) := fun h => by unfold takeF; rw [h]
  have hsome : ∀ n k, n < 18446744073709551616 → k ≤ s.length → grp n = s.take k → takeF s = (n, k) := fun n k hn hk h => by
    have e : s = grp n ++ s.drop k := by rw [h, List.take_append_drop]
    have hg : gP s = some (n, s.drop k) := by conv => lhs; rw [e]
                                              exact gP_cod.full n _ hn
    unfold takeF
    rw [hg]
    show (n, s.length - (s.drop k).length) = (n, k)
    rw [List.length_drop]
    congr 1
    omega
  generalize takeF s = R at *
  refine Calls.start 48 Try.func82 rfl rfl rfl ?_
  refine Cd.seq ?_
  refine Cd.region ?_
  refine Seq.val (Runs.assign rfl rfl) rfl rfl rfl ?_
  refine Seq.val (Runs.assign rfl rfl) rfl rfl rfl ?_
  refine Seq.nil ?_
  refine Post.weak (F' := [(0, _), (2, _), (3, _)]) ⟨rfl, rfl, rfl, trivial⟩ ?_
  refine Post.then_ ?_
  refine Cd.seq ?_
  refine Cd.seq ?_
  refine Cd.region ?_
  refine Seq.val (Runs.assign rfl rfl) rfl rfl rfl ?_
  refine Seq.nil ?_
  refine Post.weak (F' := [(0, _), (2, _), (3, _), (4, _)]) ⟨rfl, rfl, rfl, rfl, trivial⟩ ?_
  refine Post.then_ ?_
  refine Cd.block ?_
  refine Cd.loop (σ := Nat) (fun k => [(0, .string (strOf s)), (4, .int .i64 (k : Int))])
    (fun k wr => 1 ≤ k ∧ k ≤ 10 ∧ k ≤ s.length + 1 ∧ (∀ j, j + 1 < k → ∀ d, s[j]? = some d → 128 ≤ d) ∧ Below w.heap.size w wr) (fun k => 11 - k) 1 ⟨by omega, by omega, by omega, fun j hj => absurd hj (by omega), bel⟩ ⟨rfl, rfl, trivial⟩ ?_
  clear bel
  rintro k wr ⟨hk1, hk10, hkl, hb, bel⟩
  refine Cd.seq ?_
  refine Cd.seq ?_
  refine Cd.region ?_
  refine Seq.val (Runs.move rfl rfl) rfl rfl rfl ?_
  refine Seq.val (Runs.leq rfl rfl rfl) rfl rfl rfl ?_
  refine Seq.val (Runs.move rfl rfl) rfl rfl rfl ?_
  refine SeqC.start ?_
  refine SeqC.open rfl rfl rfl rfl rfl rfl rfl (fun hcx => Runs.move rfl rfl) ?_
  refine SeqC.next rfl rfl rfl rfl rfl rfl rfl (fun hcx => Runs.move rfl rfl) ?_
  refine SeqC.next rfl rfl rfl rfl rfl rfl rfl (fun hcx => Runs.lenL rfl rfl Try.underlying9) ?_
  refine SeqC.next rfl rfl rfl rfl rfl rfl rfl (fun hcx => Runs.leq rfl rfl rfl) ?_
  refine SeqC.and rfl rfl rfl rfl rfl rfl rfl ?_
  refine Seq.nil ?_
  refine Post.weak (F' := [(0, _), (4, _), (14, _)]) ⟨rfl, rfl, rfl, trivial⟩ ?_
  refine Post.then_ ?_
  refine Cd.cond rfl (fun h => ?_) (fun h => ?_)
  · simp at h
    obtain ⟨d, hd⟩ : ∃ d, s[k - 1]? = some d := ⟨_, List.getElem?_eq_getElem (show k - 1 < s.length by omega)⟩
    have hd256 := hs d (List.mem_of_getElem? hd)
    refine Cd.skip ?_
    refine Post.then_ ?_
    refine Cd.seq ?_
    refine Cd.block ?_
    refine Cd.seq ?_
    refine Cd.seq ?_
    refine Cd.region ?_
    refine Seq.val (Runs.move rfl rfl) rfl rfl rfl ?_
    refine Seq.val (Runs.move rfl rfl) rfl rfl rfl ?_
    refine Seq.val (Runs.subI rfl rfl rfl (by omega) (by omega)) rfl rfl rfl ?_
    refine Seq.val (Runs.indexL (j := k - 1) (c := d) rfl rfl rfl Try.underlying9 (by omega) hd hd256) rfl rfl rfl ?_
    refine Seq.val (Runs.geq rfl rfl rfl) rfl rfl rfl ?_
    refine Seq.val (Runs.move rfl rfl) rfl rfl rfl ?_
    refine SeqC.start ?_
    refine SeqC.open rfl rfl rfl rfl rfl rfl rfl (fun hcx => Runs.move rfl rfl) ?_
    refine SeqC.next rfl rfl rfl rfl rfl rfl rfl (fun hcx => Runs.lss rfl rfl rfl) ?_
    refine SeqC.and rfl rfl rfl rfl rfl rfl rfl ?_
    refine Seq.nil ?_
    refine Post.weak (F' := [(0, _), (4, _), (14, _), (25, _)]) ⟨rfl, rfl, rfl, rfl, trivial⟩ ?_
    refine Post.then_ ?_
    refine Cd.cond rfl (fun h2 => ?_) (fun h2 => ?_)
    · simp at h2
      refine Cd.exit ?_
      refine Post.then_exit ?_
      refine Post.block_exit ?_
      refine Post.then_ ?_
      refine Cd.region ?_
      refine Seq.val (Runs.move rfl rfl) rfl rfl rfl ?_
      refine Seq.val (Runs.addI rfl rfl rfl (by omega) (by omega)) rfl rfl rfl ?_
      refine Seq.val (Runs.assign rfl rfl) rfl rfl rfl ?_
      refine Seq.nil ?_
      refine Post.weak (F' := [(0, _), (4, _), (14, _), (25, _)]) ⟨rfl, rfl, rfl, rfl, trivial⟩ ?_
      refine Post.round (k + 1) ⟨rfl, rfl, trivial⟩ ⟨by omega, by omega, by omega, fun j hj x hx => ?_, bel⟩ (by omega)
      by_cases hjk : j = k - 1
      · subst hjk; rw [hd] at hx; injection hx with hx; omega
      · exact hb j (by omega) x hx
    · have hend : (∀ x, s[k - 1]? = some x → x < 128) ∨ k = 10 := by
        simp at h2
        by_cases h10 : k = 10
        · exact .inr h10
        · refine .inl fun x hx => ?_
          rw [hd] at hx; injection hx with hx; omega
      refine Cd.skip ?_
      refine Post.then_ ?_
      refine Cd.seq ?_
      refine Cd.region ?_
      refine Seq.val (Runs.assign rfl rfl) rfl rfl rfl ?_
      refine Seq.nil ?_
      refine Post.weak (F' := [(0, _), (4, _), (5, _), (14, _), (25, _)]) ⟨rfl, rfl, rfl, rfl, rfl, trivial⟩ ?_
      refine Post.then_ ?_
      refine Cd.seq ?_
      refine Cd.seq ?_
      refine Cd.region ?_
      refine Seq.val (Runs.move rfl rfl) rfl rfl rfl ?_
      refine Seq.val (Runs.subI rfl rfl rfl (by omega) (by omega)) rfl rfl rfl ?_
      refine Seq.val (Runs.assign rfl rfl) rfl rfl rfl ?_
      refine Seq.nil ?_
      refine Post.weak (F' := [(0, _), (4, _), (5, _), (6, _), (14, _), (25, _)]) ⟨rfl, rfl, rfl, rfl, rfl, rfl, trivial⟩ ?_
      refine Post.then_ ?_
      refine Cd.block ?_
      refine Cd.loop (σ := Nat) (fun i => [(0, .string (strOf s)), (4, .int .i64 (k : Int)), (5, .int .u64 ((valW ((s.take k).drop i) : Nat) : Int)), (6, .int .i64 ((i : Int) - 1))])
        (fun i wr => i ≤ k ∧ Below w.heap.size w wr) (fun i => i) k ⟨Nat.le_refl _, bel⟩ ⟨rfl, rfl, ?_, rfl, trivial⟩ ?_
      · rw [List.drop_of_length_le (by rw [List.length_take]; omega)]; rfl
      clear bel
      rintro i wr ⟨hi, bel⟩
      refine Cd.seq ?_
      refine Cd.seq ?_
      refine Cd.region ?_
      refine Seq.val (Runs.move rfl rfl) rfl rfl rfl ?_
      refine Seq.val (Runs.geq rfl rfl rfl) rfl rfl rfl ?_
      refine Seq.nil ?_
      refine Post.weak (F' := [(0, _), (4, _), (5, _), (6, _), (29, _)]) ⟨rfl, rfl, rfl, rfl, rfl, trivial⟩ ?_
      refine Post.then_ ?_
      refine Cd.condD rfl (fun hc => ?_) (fun hc => ?_)
      · obtain ⟨i, rfl⟩ : ∃ j, i = j + 1 := ⟨i - 1, by omega⟩
        obtain ⟨x, hx⟩ : ∃ x, s[i]? = some x := ⟨_, List.getElem?_eq_getElem (show i < s.length by omega)⟩
        have hx256 := hs x (List.mem_of_getElem? hx)
        have hv := valW_take hx k (by omega)
        have hvl := valW_lt ((s.take k).drop (i + 1))
        obtain ⟨V, hV⟩ : ∃ V, V = valW ((s.take k).drop (i + 1)) := ⟨_, rfl⟩
        rw [← hV] at hv hvl ⊢
        refine Cd.skip ?_
        refine Post.then_ ?_
        refine Cd.seq ?_
        refine Cd.block ?_
        refine Cd.region ?_
        refine Seq.val (Runs.move rfl rfl) rfl rfl rfl ?_
        refine Seq.val (Runs.mulW (r := ((128 * V % 18446744073709551616 : Nat) : Int)) rfl rfl rfl (by rw [IntKind.wrap_u64]; omega)) rfl rfl rfl ?_
        refine Seq.val (Runs.move rfl rfl) rfl rfl rfl ?_
        refine Seq.val (Runs.move rfl rfl) rfl rfl rfl ?_
        refine Seq.val (Runs.indexL (j := i) (c := x) rfl rfl rfl Try.underlying9 (by omega) hx hx256) rfl rfl rfl ?_
        refine Seq.val (Runs.remN rfl rfl rfl (by omega) (by omega)) rfl rfl rfl ?_
        refine Seq.val (Runs.convI rfl rfl Try.underlying5 Try.underlying98 (wrapU (by omega) (by omega))) rfl rfl rfl ?_
        refine Seq.val (Runs.addU rfl rfl rfl (by omega) (by omega)) rfl rfl rfl ?_
        refine Seq.val (Runs.assign rfl rfl) rfl rfl rfl ?_
        refine Seq.nil ?_
        refine Post.weak (F' := [(0, _), (4, _), (5, _), (6, _), (29, _)]) ⟨rfl, rfl, rfl, rfl, rfl, trivial⟩ ?_
        refine Post.block_normal ?_
        refine Post.then_ ?_
        refine Cd.region ?_
        refine Seq.val (Runs.move rfl rfl) rfl rfl rfl ?_
        refine Seq.val (Runs.subI rfl rfl rfl (by omega) (by omega)) rfl rfl rfl ?_
        refine Seq.val (Runs.assign rfl rfl) rfl rfl rfl ?_
        refine Seq.nil ?_
        refine Post.weak (F' := [(0, _), (4, _), (5, _), (6, _), (29, _)]) ⟨rfl, rfl, rfl, rfl, rfl, trivial⟩ ?_
        refine Post.round i ⟨rfl, rfl, ?_, int_at (by omega), trivial⟩ ⟨by omega, bel⟩ (by omega)
        refine congrArg (fun z => some (Value.int .u64 z)) ?_
        rw [hv]; omega
      · obtain rfl : i = 0 := by omega
        rw [List.drop_zero]
        have hnl := valW_lt (s.take k)
        have hcase : gP s = none ∨ grp (valW (s.take k)) = s.take k := by
          cases hx : gP s with
          | none => exact .inl rfl
          | some x =>
            obtain ⟨m, r⟩ := x
            obtain ⟨hm, he⟩ := gP_cod.sound s m r hs hx
            have := take_at hm he hk1 (by omega) hk10 hb hend
            rw [this, valW_grp hm]
            exact .inr rfl
        obtain ⟨n, hn⟩ : ∃ n, n = valW (s.take k) := ⟨_, rfl⟩
        rw [← hn] at hnl hcase ⊢
        refine Cd.exit ?_
        refine Post.then_exit ?_
        refine Post.round_exit ?_
        refine Post.block_exit ?_
        refine Post.then_ ?_
        refine Cd.seq ?_
        refine Cd.seq ?_
        refine Cd.draw 6 (by kernel_rfl) [] (.inl rfl) rfl Grow Grow.refl (fun _ _ _ => Grow.trans) ?_
        intro w1 hw1 zw1
        replace bel := bel.step hw1
        have zbel := bel.size
        refine Dr.val Grow.refl rfl (fun w hG => Runs.move rfl rfl) rfl ?_
        refine Dr.callV rfl (fun w => Enters.func rfl rfl rfl (run_enter Try.func76 (by kernel_rfl) rfl)) rfl (fun w hG => refGroups_any n _ hnl) ?_
        refine Dr.val Grow.refl rfl (fun w hG => Runs.move rfl rfl) rfl ?_
        refine Dr.val Grow.refl rfl (fun w hG => Runs.move rfl rfl) rfl ?_
        refine Dr.val Grow.refl rfl (fun w hG => Runs.sliceTo rfl rfl rfl Try.underlying9 (j := k) rfl (by omega)) rfl ?_
        refine Dr.val Grow.refl rfl (fun w hG => Runs.neqL (a := grp n) (b := s.take k) rfl rfl rfl (grp_lt hnl) (hs.take k)) rfl ?_
        refine Dr.nil ?_
        refine FinX.done (F' := [(0, _), (4, _), (5, _), (6, _), (29, _), (45, _)]) rfl ⟨rfl, rfl, rfl, rfl, rfl, rfl, trivial⟩ ?_
        intro w2 hw2 fw2
        replace bel := bel.step hw2
        refine Seq.nil ?_
        refine Post.weak (F' := [(0, _), (4, _), (5, _), (6, _), (29, _), (45, _)]) ⟨rfl, rfl, rfl, rfl, rfl, rfl, trivial⟩ ?_
        refine Post.then_ ?_
        refine Cd.condD rfl (fun hc => ?_) (fun hc => ?_)
        · have hR := hnone (hcase.resolve_right (by assumption))
          subst hR
          refine Cd.seq ?_
          refine Cd.region ?_
          refine Seq.val (Runs.assign rfl rfl) rfl rfl rfl ?_
          refine Seq.val (Runs.assign rfl rfl) rfl rfl rfl ?_
          refine Seq.nil ?_
          refine Post.weak (F' := [(0, _), (2, _), (3, _), (4, _), (5, _), (6, _), (29, _), (45, _)]) ⟨rfl, rfl, rfl, rfl, rfl, rfl, rfl, rfl, trivial⟩ ?_
          refine Post.then_ ?_
          refine Cd.ret ?_
          refine Post.then_ret ?_
          refine Post.block_ret ?_
          refine Post.then_ret ?_
          refine Post.round_ret ?_
          refine Post.block_ret ?_
          refine Post.then_ret ?_
          refine Post.end2 rfl rfl rfl (.inl rfl) ?_
          exact ⟨rfl, bel⟩
        · have hR := hsome n k hnl (by omega) (Classical.byContradiction (by assumption))
          subst hR
          refine Cd.skip ?_
          refine Post.then_ ?_
          refine Cd.seq ?_
          refine Cd.region ?_
          refine Seq.val (Runs.move rfl rfl) rfl rfl rfl ?_
          refine Seq.val (Runs.move rfl rfl) rfl rfl rfl ?_
          refine Seq.val (Runs.assign rfl rfl) rfl rfl rfl ?_
          refine Seq.val (Runs.assign rfl rfl) rfl rfl rfl ?_
          refine Seq.nil ?_
          refine Post.weak (F' := [(0, _), (2, _), (3, _), (4, _), (5, _), (6, _), (29, _), (45, _)]) ⟨rfl, rfl, rfl, rfl, rfl, rfl, rfl, rfl, trivial⟩ ?_
          refine Post.then_ ?_
          refine Cd.ret ?_
          refine Post.block_ret ?_
          refine Post.then_ret ?_
          refine Post.round_ret ?_
          refine Post.block_ret ?_
          refine Post.then_ret ?_
          refine Post.end2 rfl rfl rfl (.inl rfl) ?_
          exact ⟨rfl, bel⟩
  · have hR : R = (0, 0) := hnone (by
      cases hx : gP s with
      | none => rfl
      | some x =>
        exfalso
        obtain ⟨m, r⟩ := x
        obtain ⟨hm, he⟩ := gP_cod.sound s m r hs hx
        obtain ⟨a, c, e, h1, h2⟩ := grpK_shape 9 m (by omega)
        have e' : grp m = a ++ [c] := e
        have hc : s[a.length]? = some c := by
          rw [he, e', List.append_assoc, List.getElem?_append_right (Nat.le_refl _), Nat.sub_self]; rfl
        have hla := (List.getElem?_eq_some_iff.1 hc).1
        have hl := grp_len m
        rw [e', List.length_append] at hl
        simp at h hl
        have := hb a.length (by omega) c hc
        omega)
    subst hR
    refine Cd.exit ?_
    refine Post.then_exit ?_
    refine Post.round_exit ?_
    refine Post.block_exit ?_
    refine Post.then_ ?_
    refine Cd.seq ?_
    refine Cd.region ?_
    refine Seq.val (Runs.assign rfl rfl) rfl rfl rfl ?_
    refine Seq.val (Runs.assign rfl rfl) rfl rfl rfl ?_
    refine Seq.nil ?_
    refine Post.weak (F' := [(0, _), (2, _), (3, _), (4, _), (14, _)]) ⟨rfl, rfl, rfl, rfl, rfl, trivial⟩ ?_
    refine Post.then_ ?_
    refine Cd.ret ?_
    refine Post.end2 rfl rfl rfl (.inl rfl) ?_
    exact ⟨rfl, bel⟩
end Go.Proofs.Ythnnephcohljeaa

/-
  num's Share: what it answers. Condition: the numbers are of 64 bits, not too many.
-/
import Derived.Test.YtpdeihienkbeeaaNumF
import Derived.Test.YtpdeihienkbeeaaKG
import Derived.Test.YtpdeihienkbeeaaBigH
import Derived.Test.YtpdeihienkbeeaaShareA
namespace Go.Proofs.Ytpdeihienkbeeaa
open Go.RowKit

theorem zero_int64 : zeroIs Try.prog 2 = some (some (.int .i64 0)) := by kernel_rfl
/-- A list that is filled from the front. -/
def part {α : Type} (l : List α) (k n : Nat) (z : α) : List α := l.take k ++ List.replicate (n - k) z
theorem part_set {α : Type} (l : List α) (k n : Nat) (z x : α) (h : l[k]? = some x) (hk : k < n) (hn : l.length = n) : (part l k n z).set k x = part l (k + 1) n z := by
  unfold part
  have hl : (l.take k).length = k := by rw [List.length_take]; omega
  rw [List.set_append_right _ _ (by omega), hl, Nat.sub_self, List.take_add_one, h]
  obtain ⟨m, hm⟩ : ∃ m, n - k = m + 1 := ⟨n - k - 1, by omega⟩
  rw [hm, List.replicate_succ, List.set_cons_zero, show n - (k + 1) = m by omega]
  simp
theorem part_at {α : Type} (l : List α) (k n : Nat) (z : α) (hk : k < n) (hn : l.length = n) : (part l k n z)[k]? = some z := by
  unfold part
  have hl : (l.take k).length = k := by rw [List.length_take]; omega
  rw [List.getElem?_append_right (by omega), hl, Nat.sub_self]
  obtain ⟨m, hm⟩ : ∃ m, n - k = m + 1 := ⟨n - k - 1, by omega⟩
  rw [hm]; rfl
theorem part_zero {α : Type} (l : List α) (n : Nat) (z : α) : part l 0 n z = List.replicate n z := by unfold part; simp
theorem part_all {α : Type} (l : List α) (n : Nat) (z : α) (hn : l.length = n) : part l n n z = l := by unfold part; rw [Nat.sub_self, List.take_of_length_le (by omega)]; simp
theorem I_set (l : List Int) (j : Nat) (d : Int) : (I l).toArray.setIfInBounds j (.int .i64 d) = (I (l.set j d)).toArray := by
  apply Array.ext'
  simp [I, List.map_set]
theorem I_at {l : List Int} {j : Nat} {d : Int} (h : l[j]? = some d) : (I l).toArray[j]? = some (.int .i64 d) := by simp [I, h]
theorem I_getD {l : List Int} {j : Nat} (h : j < l.length) : (I l).toArray[j]? = some (.int .i64 (l.getD j 0)) := I_at (by rw [List.getD_eq_getElem?_getD, List.getElem?_eq_getElem h]; rfl)
theorem U_getD {l : List Nat} {j : Nat} (h : j < l.length) : (U l).toArray[j]? = some (.int .u64 ((l.getD j 0 : Nat) : Int)) := U_at (by rw [List.getD_eq_getElem?_getD, List.getElem?_eq_getElem h]; rfl)

theorem giveTo_succ (p : List Int) (z : List Nat) (m : Nat) : giveTo p z (m + 1) = ((giveTo p z m).1.set (bestTo (giveTo p z m).2 z.length) ((giveTo p z m).1.getD (bestTo (giveTo p z m).2 z.length) 0 + 1), (giveTo p z m).2.set (bestTo (giveTo p z m).2 z.length) 0) := rfl
theorem bestTo_succ (z : List Nat) (k : Nat) : bestTo z (k + 1) = if z.getD (bestTo z k) 0 < z.getD k 0 then k else bestTo z k := rfl
theorem sumQ_bd (t : Int) (l : List Int) (h : shareOk t l) (k : Nat) : 0 ≤ sumTo (qsOf t l) k ∧ sumTo (qsOf t l) k ≤ t := by
  have h1 := share_left h
  have h2 := qs_nonneg t l
  have h3 := le_sum ((qsOf t l).take k) fun x hx => h2 x (List.mem_of_mem_take hx)
  have h4 := le_sum ((qsOf t l).drop k) fun x hx => h2 x (List.mem_of_mem_drop hx)
  have h5 : (qsOf t l).sum = ((qsOf t l).take k).sum + ((qsOf t l).drop k).sum := by rw [← List.sum_append, List.take_append_drop]
  unfold sumTo
  omega
theorem give_bd (t : Int) (l : List Int) (h : shareOk t l) (hl : 0 < l.length) (m : Nat) (hm : m < leftOf t l) (b : Nat) (hb : b < l.length) :
    0 ≤ (giveTo (qsOf t l) (rsOf t l) m).1.getD b 0 ∧ (giveTo (qsOf t l) (rsOf t l) m).1.getD b 0 < t := by
  have h1 := share_left h
  have hz : (rsOf t l).length = l.length := by unfold rsOf; simp
  have hq : (qsOf t l).length = l.length := by unfold qsOf; simp
  have h2 := giveTo_nonneg (qsOf t l) (rsOf t l) (by omega) (by omega) (qs_nonneg t l) m
  have h3 := giveTo_sum (qsOf t l) (rsOf t l) (by omega) (by omega) m
  have h4 := le_sum _ h2
  have h5 := getD_mem (l := (giveTo (qsOf t l) (rsOf t l) m).1) (b := b) (by rw [giveTo_len1]; omega)
  have h6 := h4.2 _ h5
  have h7 := h2 _ h5
  unfold leftOf at hm
  omega

set_option maxHeartbeats 1000000 in
theorem share_any (B : Nat) (A : Option Addr) (n cap : Nat) (t : Int) (l : List Int) (w : World) (hr : Reads w B 1 A n (I l)) (hB : B ≤ w.heap.size) (ht : I64 t) (hl : ∀ x ∈ l, I64 x) (hn : n ≤ 1000000000) :
    Calls Try.prog 19 #[.int .i64 t, .slice A n cap] w fun e w' => Grow w w' ∧ ((¬ shareOk t l ∧ e = .returned (.tuple #[.slice none 0 0, .bool false])) ∨
      (shareOk t l ∧ ∃ g, e = .returned (.tuple #[.slice (some ⟨g, 0, none⟩) n n, .bool true]) ∧ Blk w' g 2 (I (shareOf t l)).toArray ∧ w.heap.size ≤ g)) := by
  have hlen := hr.len_I
  have bel := Below.refl w.heap.size w
  refine Calls.start 114 Try.func19 rfl rfl rfl ?_
  refine Cd.seq ?_
  refine Cd.region ?_
  refine Seq.val (Runs.assign rfl rfl) rfl rfl rfl ?_
  refine Seq.val (Runs.assign rfl rfl) rfl rfl rfl ?_
  refine Seq.nil ?_
  refine Post.weak (F' := [(0, _), (1, _), (4, _), (5, _)]) ⟨rfl, rfl, rfl, rfl, trivial⟩ ?_
  refine Post.then_ ?_
  refine Cd.seq ?_
  refine Cd.region ?_
  refine Seq.val (Runs.move rfl rfl) rfl rfl rfl ?_
  refine Seq.call (Enters.func rfl rfl rfl (run_enter Try.func16 (by kernel_rfl) rfl)) rfl rfl rfl (sum_any B A n cap l _ hr hB hl hn) ?_
  rintro e w3 ⟨rfl, rfl⟩
  refine ⟨_, rfl, ?_⟩
  refine Seq.val (Runs.move rfl rfl) rfl rfl rfl ?_
  refine Seq.val (Runs.extract rfl rfl rfl) rfl rfl rfl ?_
  refine Seq.val (Runs.extract rfl rfl rfl) rfl rfl rfl ?_
  refine Seq.val (Runs.assign rfl rfl) rfl rfl rfl ?_
  refine Seq.val (Runs.assign rfl rfl) rfl rfl rfl ?_
  refine Seq.nil ?_
  refine Post.weak (F' := [(0, _), (1, _), (4, _), (5, _), (6, _), (7, _)]) ⟨rfl, rfl, rfl, rfl, rfl, rfl, trivial⟩ ?_
  refine Post.then_ ?_
  refine Cd.seq ?_
  refine Cd.seq ?_
  refine Cd.region ?_
  refine Seq.val (Runs.move rfl rfl) rfl rfl rfl ?_
  refine Seq.val (Runs.not rfl rfl) rfl rfl rfl ?_
  refine Seq.val (Runs.move rfl rfl) rfl rfl rfl ?_
  refine SeqC.start ?_
  refine SeqC.open rfl rfl rfl rfl rfl rfl rfl (fun hcx => Runs.move rfl rfl) ?_
  refine SeqC.next rfl rfl rfl rfl rfl rfl rfl (fun hcx => Runs.lss rfl rfl rfl) ?_
  refine SeqC.or rfl rfl rfl rfl rfl rfl rfl ?_
  refine Seq.val (Runs.move rfl rfl) rfl rfl rfl ?_
  refine SeqC.start ?_
  refine SeqC.open rfl rfl rfl rfl rfl rfl rfl (fun hcx => Runs.move rfl rfl) ?_
  refine SeqC.next rfl rfl rfl rfl rfl rfl rfl (fun hcx => Runs.leq rfl rfl rfl) ?_
  refine SeqC.or rfl rfl rfl rfl rfl rfl rfl ?_
  refine Seq.val (Runs.move rfl rfl) rfl rfl rfl ?_
  refine SeqC.start ?_
  refine SeqC.open rfl rfl rfl rfl rfl rfl rfl (fun hcx => Runs.move rfl rfl) ?_
  refine SeqC.next rfl rfl rfl rfl rfl rfl rfl (fun hcx => Runs.len rfl rfl Try.underlying26) ?_
  refine SeqC.next rfl rfl rfl rfl rfl rfl rfl (fun hcx => Runs.gtr rfl rfl rfl) ?_
  refine SeqC.or rfl rfl rfl rfl rfl rfl rfl ?_
  refine Seq.val (Runs.move rfl rfl) rfl rfl rfl ?_
  refine SeqC.start ?_
  refine SeqC.open rfl rfl rfl rfl rfl rfl rfl (fun hcx => Runs.move rfl rfl) ?_
  have hne : ¬ smallOf l.sum ≤ 0 → 0 < n := by
    intro h
    rcases Nat.eq_zero_or_pos n with h0 | h0
    · exfalso
      obtain rfl : l = [] := List.eq_nil_of_length_eq_zero (by omega)
      exact h (by decide)
    · exact h0
  refine SeqC.nextC rfl rfl rfl rfl rfl rfl rfl (fun hcx => Enters.func rfl rfl rfl (run_enter Try.func48 (by kernel_rfl) rfl)) (fun hcx => min_any B A n cap l _ (hr.below (Below.refl _ _)) hB hn (hne (by simp at hcx; omega))) ?_
  intro w1 hw1
  replace bel := bel.step hw1
  refine SeqC.next rfl rfl rfl rfl rfl rfl rfl (fun hcx => Runs.lss rfl rfl rfl) ?_
  refine SeqC.or rfl rfl rfl rfl rfl rfl rfl ?_
  refine Seq.nil ?_
  refine Post.weak (F' := [(0, _), (1, _), (4, _), (5, _), (6, _), (7, _), (42, _)]) ⟨rfl, rfl, rfl, rfl, rfl, rfl, rfl, trivial⟩ ?_
  refine Post.then_ ?_
  have hok : shareOk t l ↔ ¬ (fits l.sum = false ∨ t < 0 ∨ smallOf l.sum ≤ 0 ∨ (64 : Int) < (n : Int) ∨ leastTo l n < 0) := by
    unfold shareOk
    constructor
    · rintro ⟨h1, h2, h3, h4, h5⟩ h
      have h6 : smallOf l.sum = l.sum := by unfold smallOf; rw [h1]; rfl
      rw [h6, h1] at h
      rcases h with h | h | h | h | h
      · cases h
      · omega
      · omega
      · omega
      · rw [← hlen, least_neg l (by rw [hlen]; exact hne (by omega))] at h
        obtain ⟨x, hx, hx0⟩ := h
        have := h5 x hx
        omega
    · intro h
      have h1 : fits l.sum = true := by
        cases hf : fits l.sum with
        | true => rfl
        | false => exact absurd (.inl hf) h
      have h6 : smallOf l.sum = l.sum := by unfold smallOf; rw [h1]; rfl
      refine ⟨h1, ?_, ?_, ?_, fun x hx => ?_⟩
      · rcases Int.lt_or_le t 0 with h2 | h2
        · exact absurd (.inr (.inl h2)) h
        · exact h2
      · rcases Int.lt_or_le 0 l.sum with h2 | h2
        · exact h2
        · exact absurd (.inr (.inr (.inl (by omega)))) h
      · rcases Nat.lt_or_ge 64 n with h2 | h2
        · exact absurd (.inr (.inr (.inr (.inl (by omega))))) h
        · omega
      · rcases Int.lt_or_le x 0 with h2 | h2
        · exact absurd (.inr (.inr (.inr (.inr (by rw [← hlen, least_neg l (List.length_pos_of_mem hx)]; exact ⟨x, hx, h2⟩))))) h
        · exact h2
  refine Cd.cond rfl (fun h => ?_) (fun h => ?_)
  · have hno : ¬ shareOk t l := by
      rw [hok]
      intro h2
      exact h2 (by simpa [or_assoc] using h)
    refine Cd.seq ?_
    refine Cd.region ?_
    refine Seq.val (Runs.assign rfl rfl) rfl rfl rfl ?_
    refine Seq.val (Runs.assign rfl rfl) rfl rfl rfl ?_
    refine Seq.nil ?_
    refine Post.weak (F' := [(0, _), (1, _), (4, _), (5, _), (6, _), (7, _), (42, _)]) ⟨rfl, rfl, rfl, rfl, rfl, rfl, rfl, trivial⟩ ?_
    refine Post.then_ ?_
    refine Cd.ret ?_
    refine Post.then_ret ?_
    refine Post.end2 rfl rfl rfl (.inl rfl) ?_
    exact ⟨bel, .inl ⟨hno, rfl⟩⟩
  have hyes : shareOk t l := by
    rw [hok]
    simp at h
    rintro (h2 | h2 | h2 | h2 | h2)
    · rw [h2] at h; simp at h
    all_goals omega
  have hsm : smallOf l.sum = l.sum := by unfold smallOf; rw [hyes.1]; rfl
  rw [hsm]
  obtain ⟨hf, ht0, ha0, hn64, hl0⟩ := id hyes
  have hn0 := hne (by omega)
  have ha1 : l.sum ≤ 9223372036854775807 := by unfold fits at hf; simp at hf; omega
  have hsb := sumQ_bd t l hyes
  clear h hok hne
  have hz : (rsOf t l).length = n := by unfold rsOf; simp; omega
  have hq : (qsOf t l).length = n := by unfold qsOf; simp; omega
  refine Cd.skip ?_
  refine Post.then_ ?_
  refine Cd.seq ?_
  refine Cd.draw 8 (by kernel_rfl) [] (.inl rfl) rfl Grow Grow.refl (fun _ _ _ => Grow.trans) ?_
  intro w2 hw2 zw2
  replace bel := bel.step hw2
  have zbel := bel.size
  refine Dr.val Grow.refl rfl (fun w hG => Runs.move rfl rfl) rfl ?_
  refine Dr.val Grow.refl rfl (fun w hG => Runs.len rfl rfl Try.underlying26) rfl ?_
  refine Dr.makeS rfl rfl rfl rfl Try.underlying26 zero_int64 (by kernel_rfl) (b := 8) (by kernel_rfl) (m := n) (by omega) (by omega) (by omega) rfl ?_
  refine Dr.val Grow.refl rfl (fun w hG => Runs.move rfl rfl) rfl ?_
  refine Dr.val Grow.refl rfl (fun w hG => Runs.len rfl rfl Try.underlying26) rfl ?_
  refine Dr.makeS rfl rfl rfl rfl Try.underlying29 zero_uint64 (by kernel_rfl) (b := 8) (by kernel_rfl) (m := n) (by omega) (by omega) (by omega) rfl ?_
  refine Dr.val1 (j := 2) (Φ := NewSl _ n _ _) Grow.refl rfl rfl rfl NewSl.stable rfl (fun u w hG hu => ⟨u, Runs.assign rfl rfl, hu⟩) ?_
  refine Dr.val1 (j := 5) (Φ := NewSl _ n _ _) Grow.refl rfl rfl rfl NewSl.stable rfl (fun u w hG hu => ⟨u, Runs.assign rfl rfl, hu⟩) ?_
  refine Dr.nil ?_
  refine FinX.open (j := 6) rfl ?_
  intro u6
  refine FinX.open (j := 7) rfl ?_
  intro u7
  refine FinX.done (F' := [(0, _), (1, _), (4, _), (5, _), (6, _), (7, _), (8, _), (9, _), (42, _)]) rfl ⟨rfl, rfl, rfl, rfl, rfl, rfl, rfl, rfl, rfl, trivial⟩ ?_
  intro w3 hw3 fw3
  replace bel := bel.step hw3
  obtain ⟨⟨-, g8, rfl, k8, e8⟩, g9, rfl, k9, e9⟩ := fw3
  replace e8 := Nat.le_trans zbel e8
  replace e9 := Nat.le_trans zbel e9
  have hne89 := k8.ne k9 (by decide)
  rw [made_i64] at k8
  rw [made_u64] at k9
  refine Seq.nil ?_
  refine Post.weak (F' := [(0, _), (1, _), (4, _), (5, _), (6, _), (7, _), (8, _), (9, _), (42, _)]) ⟨rfl, rfl, rfl, rfl, rfl, rfl, rfl, rfl, rfl, trivial⟩ ?_
  refine Post.then_ ?_
  refine Cd.seq ?_
  refine Cd.region ?_
  refine Seq.val (Runs.move rfl rfl) rfl rfl rfl ?_
  refine Seq.val (Runs.assign rfl rfl) rfl rfl rfl ?_
  refine Seq.nil ?_
  refine Post.weak (F' := [(0, _), (1, _), (4, _), (5, _), (6, _), (7, _), (8, _), (9, _), (10, _), (42, _)]) ⟨rfl, rfl, rfl, rfl, rfl, rfl, rfl, rfl, rfl, rfl, trivial⟩ ?_
  refine Post.then_ ?_
  refine Cd.seq ?_
  refine Cd.seq ?_
  refine Cd.region ?_
  refine Seq.val (Runs.move rfl rfl) rfl rfl rfl ?_
  refine Seq.val (Runs.len rfl rfl Try.underlying26) rfl rfl rfl ?_
  refine Seq.val (Runs.move rfl rfl) rfl rfl rfl ?_
  refine Seq.nil ?_
  refine Post.weak (F' := [(0, _), (1, _), (4, _), (5, _), (6, _), (7, _), (8, _), (9, _), (10, _), (42, _), (50, _), (51, _), (52, _)]) ⟨rfl, rfl, rfl, rfl, rfl, rfl, rfl, rfl, rfl, rfl, rfl, rfl, rfl, trivial⟩ ?_
  refine Post.then_ ?_
  refine Cd.block ?_
  have e0 : t - sumTo (qsOf t l) 0 = t := by simp [sumTo]
  have hp0 : (List.replicate n (0 : Int)).map (Value.int .i64) = I (part (qsOf t l) 0 n 0) := by rw [part_zero]; rfl
  have hp1 : (List.replicate n (0 : Nat)).map (fun (d : Nat) => Value.int .u64 (d : Int)) = U (part (rsOf t l) 0 n 0) := by rw [part_zero]; rfl
  rw [hp0] at k8
  rw [hp1] at k9
  refine Cd.loop (σ := Nat) (fun s => [(0, .int .i64 t), (6, .int .i64 l.sum), (8, .slice (some ⟨g8, 0, none⟩) n n), (9, .slice (some ⟨g9, 0, none⟩) n n), (10, .int .i64 (t - sumTo (qsOf t l) s)), (50, .slice A n cap), (51, .int .i64 (n : Int)), (52, .int .i64 (s : Int))])
    (fun s wr => s ≤ n ∧ Below w.heap.size w wr ∧ Blk wr g8 2 (I (part (qsOf t l) s n 0)).toArray ∧ Blk wr g9 62 (U (part (rsOf t l) s n 0)).toArray) (fun s => n - s) 0 ⟨by omega, bel, k8, k9⟩ ⟨rfl, rfl, rfl, rfl, congrArg (fun x => some (Value.int .i64 x)) e0.symm, rfl, rfl, rfl, trivial⟩ ?_
  clear bel k8 k9
  rintro i wr ⟨hin, bel, k8, k9⟩
  refine Cd.seq ?_
  refine Cd.region ?_
  refine Seq.val (Runs.lss rfl rfl rfl) rfl rfl rfl ?_
  refine Seq.nil ?_
  refine Post.weak (F' := [(0, _), (6, _), (8, _), (9, _), (10, _), (50, _), (51, _), (52, _), (53, _)]) ⟨rfl, rfl, rfl, rfl, rfl, rfl, rfl, rfl, rfl, trivial⟩ ?_
  refine Post.then_ ?_
  refine Cd.seq ?_
  refine Cd.condD rfl (fun hc => ?_) (fun hc => ?_)
  · obtain ⟨ad, v, rfl, hv, ci⟩ := hr.num bel hB (show i < n by omega)
    have hv64 := hl v (List.mem_of_getElem? hv)
    have hv0 := hl0 v (List.mem_of_getElem? hv)
    have hvs := (le_sum l hl0).2 v (List.mem_of_getElem? hv)
    have hqi : (qsOf t l)[i]? = some (qOf t l.sum v) := by unfold qsOf; rw [List.getElem?_map, hv]; rfl
    have hri : (rsOf t l)[i]? = some (rOf t l.sum v) := by unfold rsOf; rw [List.getElem?_map, hv]; rfl
    have hs1 := hsb i
    have hs2 := hsb (i + 1)
    rw [sumTo_succ _ _ _ hqi] at hs2
    have hq0 := qs_nonneg t l _ (List.mem_of_getElem? hqi)
    have ht1 := ht.2
    have hwq : IntKind.i64.wrap (qOf t l.sum v) = qOf t l.sum v := wrapI (by omega) (by omega)
    have hdiv : t.natAbs * v.natAbs / 18446744073709551616 < l.sum.natAbs := by
      have h1 : t.natAbs * v.natAbs ≤ t.natAbs * l.sum.natAbs := Nat.mul_le_mul_left _ (by omega)
      have h2 : t.natAbs * l.sum.natAbs < 18446744073709551616 * l.sum.natAbs := Nat.mul_lt_mul_of_pos_right (by omega) (by omega)
      rw [Nat.div_lt_iff_lt_mul (by decide)]
      omega
    have hmm : t.natAbs * v.natAbs / 18446744073709551616 * 18446744073709551616 + t.natAbs * v.natAbs % 18446744073709551616 = t.natAbs * v.natAbs := Nat.div_add_mod' _ _
    have hsg : decide (decide (t < 0) ≠ decide (v < 0)) = false := by rw [decide_eq_false (show ¬ t < 0 by omega), decide_eq_false (show ¬ v < 0 by omega)]; rfl
    refine Cd.skip ?_
    refine Post.then_ ?_
    refine Cd.seq ?_
    refine Cd.block ?_
    refine Cd.seq ?_
    refine Cd.region ?_
    refine Seq.val (Runs.move rfl rfl) rfl rfl rfl ?_
    refine Seq.val (Runs.index1 rfl rfl rfl Try.underlying26 (by kernel_rfl) (j := i) rfl (by omega)) rfl rfl rfl ?_
    refine Seq.val (Runs.load1 rfl rfl Try.underlying2 rfl ci.val) rfl rfl rfl ?_
    refine Seq.val (Runs.assign rfl rfl) rfl rfl rfl ?_
    refine Seq.val (Runs.assign rfl rfl) rfl rfl rfl ?_
    refine Seq.nil ?_
    refine Post.weak (F' := [(0, _), (6, _), (8, _), (9, _), (10, _), (11, _), (12, _), (50, _), (51, _), (52, _), (53, _)]) ⟨rfl, rfl, rfl, rfl, rfl, rfl, rfl, rfl, rfl, rfl, rfl, trivial⟩ ?_
    refine Post.then_ ?_
    refine Cd.seq ?_
    refine Cd.region ?_
    refine Seq.val (Runs.move rfl rfl) rfl rfl rfl ?_
    refine Seq.val (Runs.move rfl rfl) rfl rfl rfl ?_
    refine Seq.call (Enters.func rfl rfl rfl (run_enter Try.func43 (by kernel_rfl) rfl)) rfl rfl rfl (product_any t v _ ht hv64) ?_
    rintro e w5 ⟨rfl, hb5⟩
    refine ⟨_, rfl, ?_⟩
    replace bel := bel.step hb5
    replace k8 := k8.step hb5
    replace k9 := k9.step hb5
    replace ci := ci.step hb5
    unfold wideV
    refine Seq.alloc rfl (run_zero zero_num_wide) rfl rfl rfl ?_
    intro g13 w4 n13
    have e13 := Nat.le_trans bel.size n13.ge
    have l13 := Nat.lt_of_lt_of_le k9.lt n13.ge
    have l13_k8 := Nat.lt_of_lt_of_le k8.lt n13.ge
    replace bel := bel.step n13.below
    replace k8 := k8.step n13.below
    replace k9 := k9.step n13.below
    replace ci := ci.step n13.below
    have k13 := n13.blk
    refine Seq.storeN rfl rfl rfl rfl (m := 3) (by kernel_rfl) rfl (by repeat' first | exact trivial | apply And.intro | rfl | assumption) k13 (by simp [Value.cells]) rfl rfl ?_
    intro w5 pw5
    replace bel := bel.put k13 pw5 e13
    replace k8 := k8.put pw5 (by omega)
    replace k9 := k9.put pw5 (by omega)
    replace ci := ci.put k13 pw5 e13
    replace k13 := pw5.blk
    refine Seq.nil ?_
    refine Post.weak (F' := [(0, _), (6, _), (8, _), (9, _), (10, _), (11, _), (12, _), (13, _), (50, _), (51, _), (52, _), (53, _)]) ⟨rfl, rfl, rfl, rfl, rfl, rfl, rfl, rfl, rfl, rfl, rfl, rfl, trivial⟩ ?_
    refine Post.then_ ?_
    refine Cd.seq ?_
    refine Cd.region ?_
    refine Seq.val (Runs.fieldB 0 rfl rfl Try.underlying64 rfl (by kernel_rfl)) rfl rfl rfl ?_
    refine Seq.val (Runs.loadB rfl rfl Try.underlying62 rfl k13 rfl) rfl rfl rfl ?_
    refine Seq.val (Runs.fieldB 1 rfl rfl Try.underlying64 rfl (by kernel_rfl)) rfl rfl rfl ?_
    refine Seq.val (Runs.loadB rfl rfl Try.underlying62 rfl k13 rfl) rfl rfl rfl ?_
    refine Seq.val (Runs.move rfl rfl) rfl rfl rfl ?_
    refine Seq.val (Runs.convI (r := (l.sum.natAbs : Int)) rfl rfl Try.underlying2 Try.underlying62 (by rw [wrap_u64]; omega)) rfl rfl rfl ?_
    refine Seq.call (Enters.func rfl rfl rfl (run_enter Try.func49 (by kernel_rfl) rfl)) rfl rfl rfl (div64_any _ _ _ _ (Nat.mod_lt _ (by decide)) (by omega) hdiv) ?_
    rintro e w6 ⟨rfl, hb6⟩
    refine ⟨_, rfl, ?_⟩
    replace bel := bel.step hb6
    replace k8 := k8.step hb6
    replace k9 := k9.step hb6
    replace ci := ci.step hb6
    replace k13 := k13.step hb6
    rw [hmm]
    refine Seq.val (Runs.move rfl rfl) rfl rfl rfl ?_
    refine Seq.val (Runs.extract rfl rfl rfl) rfl rfl rfl ?_
    refine Seq.val (Runs.extract rfl rfl rfl) rfl rfl rfl ?_
    refine Seq.val (Runs.assign rfl rfl) rfl rfl rfl ?_
    refine Seq.val (Runs.assign rfl rfl) rfl rfl rfl ?_
    refine Seq.nil ?_
    refine Post.weak (F' := [(0, _), (6, _), (8, _), (9, _), (10, _), (11, _), (12, _), (13, _), (14, _), (15, _), (50, _), (51, _), (52, _), (53, _)]) ⟨rfl, rfl, rfl, rfl, rfl, rfl, rfl, rfl, rfl, rfl, rfl, rfl, rfl, rfl, trivial⟩ ?_
    refine Post.then_ ?_
    refine Cd.seq ?_
    refine Cd.region ?_
    refine Seq.val (Runs.move rfl rfl) rfl rfl rfl ?_
    refine Seq.val (Runs.move rfl rfl) rfl rfl rfl ?_
    refine Seq.val (Runs.move rfl rfl) rfl rfl rfl ?_
    refine Seq.val (Runs.move rfl rfl) rfl rfl rfl ?_
    refine Seq.val (Runs.move rfl rfl) rfl rfl rfl ?_
    refine Seq.val (Runs.convI (r := qOf t l.sum v) rfl rfl Try.underlying62 Try.underlying2 hwq) rfl rfl rfl ?_
    refine Seq.val (Runs.move rfl rfl) rfl rfl rfl ?_
    refine Seq.val (Runs.indexB rfl rfl rfl Try.underlying26 (by kernel_rfl) (j := i) rfl (by omega)) rfl rfl rfl ?_
    refine Seq.store1 rfl rfl rfl (by kernel_rfl) rfl rfl k8 (I_at (part_at _ _ _ _ (by omega) hq)) rfl rfl ?_
    intro w6 pw6
    replace bel := bel.put k8 pw6 e8
    replace k9 := k9.put pw6 (by omega)
    replace ci := ci.put k8 pw6 e8
    replace k13 := k13.put pw6 (by omega)
    replace k8 := pw6.blk
    rw [I_set, part_set _ _ _ _ _ hqi (by omega) hq] at k8
    refine Seq.val (Runs.indexB rfl rfl rfl Try.underlying29 (by kernel_rfl) (j := i) rfl (by omega)) rfl rfl rfl ?_
    refine Seq.store1 rfl rfl rfl (by kernel_rfl) rfl rfl k9 (U_at (part_at _ _ _ _ (by omega) hz)) rfl rfl ?_
    intro w7 pw7
    replace bel := bel.put k9 pw7 e9
    replace k8 := k8.put pw7 (by omega)
    replace ci := ci.put k9 pw7 e9
    replace k13 := k13.put pw7 (by omega)
    replace k9 := pw7.blk
    replace k9 : Blk _ g9 62 ((U (part (rsOf t l) i n 0)).toArray.setIfInBounds i (.int .u64 ((rOf t l.sum v : Nat) : Int))) := k9
    rw [U_set, part_set _ _ _ _ _ hri (by omega) hz] at k9
    refine Seq.nil ?_
    refine Post.weak (F' := [(0, _), (6, _), (8, _), (9, _), (10, _), (11, _), (12, _), (13, _), (14, _), (15, _), (50, _), (51, _), (52, _), (53, _)]) ⟨rfl, rfl, rfl, rfl, rfl, rfl, rfl, rfl, rfl, rfl, rfl, rfl, rfl, rfl, trivial⟩ ?_
    refine Post.then_ ?_
    refine Cd.region ?_
    refine Seq.val (Runs.move rfl rfl) rfl rfl rfl ?_
    refine Seq.val (Runs.move rfl rfl) rfl rfl rfl ?_
    refine Seq.val (Runs.convI (r := qOf t l.sum v) rfl rfl Try.underlying62 Try.underlying2 hwq) rfl rfl rfl ?_
    refine Seq.val (Runs.subI rfl rfl rfl (by omega) (by omega)) rfl rfl rfl ?_
    refine Seq.val (Runs.assign rfl rfl) rfl rfl rfl ?_
    refine Seq.nil ?_
    refine Post.weak (F' := [(0, _), (6, _), (8, _), (9, _), (10, _), (11, _), (12, _), (13, _), (14, _), (15, _), (50, _), (51, _), (52, _), (53, _)]) ⟨rfl, rfl, rfl, rfl, rfl, rfl, rfl, rfl, rfl, rfl, rfl, rfl, rfl, rfl, trivial⟩ ?_
    refine Post.block_normal ?_
    refine Post.then_ ?_
    refine Cd.region ?_
    refine Seq.val (Runs.addI rfl rfl rfl (by omega) (by omega)) rfl rfl rfl ?_
    refine Seq.val (Runs.move rfl rfl) rfl rfl rfl ?_
    refine Seq.nil ?_
    refine Post.weak (F' := [(0, _), (6, _), (8, _), (9, _), (10, _), (11, _), (12, _), (13, _), (14, _), (15, _), (50, _), (51, _), (52, _), (53, _)]) ⟨rfl, rfl, rfl, rfl, rfl, rfl, rfl, rfl, rfl, rfl, rfl, rfl, rfl, rfl, trivial⟩ ?_
    rw [show t - sumTo (qsOf t l) i - qOf t l.sum v = t - sumTo (qsOf t l) (i + 1) by rw [sumTo_succ _ _ _ hqi]; omega]
    exact Post.round (i + 1) ⟨rfl, rfl, rfl, rfl, rfl, rfl, rfl, rfl, trivial⟩ ⟨by omega, bel, k8, k9⟩ (by omega)
  obtain rfl : i = n := by omega
  have hsh := share_left hyes
  have hL : t - sumTo (qsOf t l) i = ((leftOf t l : Nat) : Int) := by
    unfold sumTo leftOf
    rw [List.take_of_length_le (by omega)]
    omega
  have hLt : (leftOf t l : Int) ≤ t := by have := hsb i; omega
  rw [hL]
  rw [part_all _ _ _ hq] at k8
  rw [part_all _ _ _ hz] at k9
  have hgb := give_bd t l hyes (by omega)
  have ht1 := ht.2
  clear hsb hsh e0 hp0 hp1 hL
  refine Cd.exit ?_
  refine Post.then_exit ?_
  refine Post.round_exit ?_
  refine Post.block_exit ?_
  refine Post.then_ ?_
  refine Cd.seq ?_
  refine Cd.block ?_
  refine Cd.loop (σ := Nat) (fun m => [(8, .slice (some ⟨g8, 0, none⟩) i i), (9, .slice (some ⟨g9, 0, none⟩) i i), (10, .int .i64 ((leftOf t l : Int) - m))])
    (fun m wr => m ≤ leftOf t l ∧ Below w.heap.size w wr ∧ Blk wr g8 2 (I (giveTo (qsOf t l) (rsOf t l) m).1).toArray ∧ Blk wr g9 62 (U (giveTo (qsOf t l) (rsOf t l) m).2).toArray) (fun m => leftOf t l - m) 0 ⟨by omega, bel, k8, k9⟩ ⟨rfl, rfl, congrArg (fun x => some (Value.int .i64 x)) (show (leftOf t l : Int) = (leftOf t l : Int) - ((0 : Nat) : Int) by omega), trivial⟩ ?_
  clear bel k8 k9
  rintro m wr ⟨hm, bel, k8, k9⟩
  have hz2 : (giveTo (qsOf t l) (rsOf t l) m).2.length = i := by rw [giveTo_len2]; omega
  have hq2 : (giveTo (qsOf t l) (rsOf t l) m).1.length = i := by rw [giveTo_len1]; omega
  have hgs := giveTo_succ (qsOf t l) (rsOf t l) m
  rw [hz] at hgs
  refine Cd.seq ?_
  refine Cd.seq ?_
  refine Cd.region ?_
  refine Seq.val (Runs.move rfl rfl) rfl rfl rfl ?_
  refine Seq.val (Runs.gtr rfl rfl rfl) rfl rfl rfl ?_
  refine Seq.nil ?_
  refine Post.weak (F' := [(8, _), (9, _), (10, _), (85, _)]) ⟨rfl, rfl, rfl, rfl, trivial⟩ ?_
  refine Post.then_ ?_
  refine Cd.condD rfl (fun hc => ?_) (fun hc => ?_)
  · have hgb := hgb m (by omega)
    generalize giveTo (qsOf t l) (rsOf t l) m = s at *
    refine Cd.skip ?_
    refine Post.then_ ?_
    refine Cd.seq ?_
    refine Cd.block ?_
    refine Cd.seq ?_
    refine Cd.region ?_
    refine Seq.val (Runs.assign rfl rfl) rfl rfl rfl ?_
    refine Seq.nil ?_
    refine Post.weak (F' := [(8, _), (9, _), (10, _), (16, _), (85, _)]) ⟨rfl, rfl, rfl, rfl, rfl, trivial⟩ ?_
    refine Post.then_ ?_
    refine Cd.seq ?_
    refine Cd.seq ?_
    refine Cd.region ?_
    refine Seq.val (Runs.move rfl rfl) rfl rfl rfl ?_
    refine Seq.val (Runs.len rfl rfl Try.underlying29) rfl rfl rfl ?_
    refine Seq.val (Runs.move rfl rfl) rfl rfl rfl ?_
    refine Seq.nil ?_
    refine Post.weak (F' := [(8, _), (9, _), (10, _), (16, _), (85, _), (89, _), (90, _)]) ⟨rfl, rfl, rfl, rfl, rfl, rfl, rfl, trivial⟩ ?_
    refine Post.then_ ?_
    refine Cd.block ?_
    refine Cd.loop (σ := Nat) (fun k => [(8, .slice (some ⟨g8, 0, none⟩) i i), (9, .slice (some ⟨g9, 0, none⟩) i i), (10, .int .i64 ((leftOf t l : Int) - m)), (16, .int .i64 (bestTo s.2 k : Int)), (89, .int .i64 (i : Int)), (90, .int .i64 (k : Int))])
      (fun k wr' => k ≤ i ∧ Below w.heap.size w wr' ∧ Blk wr' g8 2 (I s.1).toArray ∧ Blk wr' g9 62 (U s.2).toArray) (fun k => i - k) 0 ⟨by omega, bel, k8, k9⟩ ⟨rfl, rfl, rfl, rfl, rfl, rfl, trivial⟩ ?_
    clear bel k8 k9
    rintro k wr' ⟨hk, bel, k8, k9⟩
    refine Cd.seq ?_
    refine Cd.region ?_
    refine Seq.val (Runs.lss rfl rfl rfl) rfl rfl rfl ?_
    refine Seq.nil ?_
    refine Post.weak (F' := [(8, _), (9, _), (10, _), (16, _), (89, _), (90, _), (91, _)]) ⟨rfl, rfl, rfl, rfl, rfl, rfl, rfl, trivial⟩ ?_
    refine Post.then_ ?_
    refine Cd.seq ?_
    refine Cd.condD rfl (fun hc => ?_) (fun hc => ?_)
    · have hbk : bestTo s.2 k < i := by
        rcases Nat.eq_zero_or_pos k with rfl | h0
        · unfold bestTo; omega
        · have := bestTo_lt s.2 k h0; omega
      refine Cd.skip ?_
      refine Post.then_ ?_
      refine Cd.seq ?_
      refine Cd.block ?_
      refine Cd.seq ?_
      refine Cd.region ?_
      refine Seq.val (Runs.move rfl rfl) rfl rfl rfl ?_
      refine Seq.val (Runs.assign rfl rfl) rfl rfl rfl ?_
      refine Seq.nil ?_
      refine Post.weak (F' := [(8, _), (9, _), (10, _), (16, _), (17, _), (89, _), (90, _), (91, _)]) ⟨rfl, rfl, rfl, rfl, rfl, rfl, rfl, rfl, trivial⟩ ?_
      refine Post.then_ ?_
      refine Cd.seq ?_
      refine Cd.draw 9 (by kernel_rfl) [] (.inl rfl) rfl Grow Grow.refl (fun _ _ _ => Grow.trans) ?_
      intro w4 hw4 zw4
      replace bel := bel.step hw4
      replace k8 := k8.step hw4
      replace k9 := k9.step hw4
      have zbel := bel.size
      have zlt := k9.lt
      refine Dr.val Grow.refl rfl (fun w hG => Runs.move rfl rfl) rfl ?_
      refine Dr.val Grow.refl rfl (fun w hG => Runs.move rfl rfl) rfl ?_
      refine Dr.val Grow.refl rfl (fun w hG => Runs.indexB rfl rfl rfl Try.underlying29 (by kernel_rfl) (j := k) rfl (by omega)) rfl ?_
      refine Dr.val Grow.refl rfl (fun w hG => Runs.loadB rfl rfl Try.underlying62 rfl (k9.step hG) (U_getD (by omega))) rfl ?_
      refine Dr.val Grow.refl rfl (fun w hG => Runs.move rfl rfl) rfl ?_
      refine Dr.val Grow.refl rfl (fun w hG => Runs.move rfl rfl) rfl ?_
      refine Dr.val Grow.refl rfl (fun w hG => Runs.indexB rfl rfl rfl Try.underlying29 (by kernel_rfl) (j := bestTo s.2 k) rfl (by omega)) rfl ?_
      refine Dr.val Grow.refl rfl (fun w hG => Runs.loadB rfl rfl Try.underlying62 rfl (k9.step hG) (U_getD (by omega))) rfl ?_
      refine Dr.val Grow.refl rfl (fun w hG => Runs.gtr rfl rfl rfl) rfl ?_
      refine Dr.nil ?_
      refine FinX.done (F' := [(8, _), (9, _), (10, _), (16, _), (17, _), (89, _), (90, _), (91, _), (101, _)]) rfl ⟨rfl, rfl, rfl, rfl, rfl, rfl, rfl, rfl, rfl, trivial⟩ ?_
      intro w5 hw5 fw5
      replace bel := bel.step hw5
      replace k8 := k8.step hw5
      replace k9 := k9.step hw5
      refine Seq.nil ?_
      refine Post.weak (F' := [(8, _), (9, _), (10, _), (16, _), (17, _), (89, _), (90, _), (91, _), (101, _)]) ⟨rfl, rfl, rfl, rfl, rfl, rfl, rfl, rfl, rfl, trivial⟩ ?_
      refine Post.then_ ?_
      refine Cd.condD rfl (fun hlt => ?_) (fun hlt => ?_)
      · have hbe : k = bestTo s.2 (k + 1) := by rw [bestTo_succ, if_pos (by omega)]
        refine Cd.region ?_
        refine Seq.val (Runs.move rfl rfl) rfl rfl rfl ?_
        refine Seq.val (Runs.assign rfl rfl) rfl rfl rfl ?_
        refine Seq.nil ?_
        refine Post.weak (F' := [(8, _), (9, _), (10, _), (16, _), (17, _), (89, _), (90, _), (91, _), (101, _)]) ⟨rfl, rfl, rfl, rfl, rfl, rfl, rfl, rfl, rfl, trivial⟩ ?_
        refine Post.block_normal ?_
        refine Post.then_ ?_
        refine Cd.region ?_
        refine Seq.val (Runs.addI rfl rfl rfl (by omega) (by omega)) rfl rfl rfl ?_
        refine Seq.val (Runs.move rfl rfl) rfl rfl rfl ?_
        refine Seq.nil ?_
        refine Post.weak (F' := [(8, _), (9, _), (10, _), (16, _), (17, _), (89, _), (90, _), (91, _), (101, _)]) ⟨rfl, rfl, rfl, rfl, rfl, rfl, rfl, rfl, rfl, trivial⟩ ?_
        refine Post.round (k + 1) ⟨rfl, rfl, rfl, congrArg (fun x : Nat => some (Value.int .i64 (x : Int))) hbe, rfl, rfl, trivial⟩ ⟨by omega, bel, k8, k9⟩ (by omega)
      · have hbe : bestTo s.2 k = bestTo s.2 (k + 1) := by rw [bestTo_succ, if_neg (by omega)]
        refine Cd.skip ?_
        refine Post.block_normal ?_
        refine Post.then_ ?_
        refine Cd.region ?_
        refine Seq.val (Runs.addI rfl rfl rfl (by omega) (by omega)) rfl rfl rfl ?_
        refine Seq.val (Runs.move rfl rfl) rfl rfl rfl ?_
        refine Seq.nil ?_
        refine Post.weak (F' := [(8, _), (9, _), (10, _), (16, _), (17, _), (89, _), (90, _), (91, _), (101, _)]) ⟨rfl, rfl, rfl, rfl, rfl, rfl, rfl, rfl, rfl, trivial⟩ ?_
        refine Post.round (k + 1) ⟨rfl, rfl, rfl, congrArg (fun x : Nat => some (Value.int .i64 (x : Int))) hbe, rfl, rfl, trivial⟩ ⟨by omega, bel, k8, k9⟩ (by omega)
    · obtain rfl : k = i := by omega
      have hbk := bestTo_lt s.2 k (by omega)
      have hgb := hgb _ (by rw [hlen]; exact hbk)
      generalize bestTo s.2 k = b at *
      refine Cd.exit ?_
      refine Post.then_exit ?_
      refine Post.round_exit ?_
      refine Post.block_exit ?_
      refine Post.then_ ?_
      refine Cd.seq ?_
      refine Cd.region ?_
      refine Seq.val (Runs.move rfl rfl) rfl rfl rfl ?_
      refine Seq.val (Runs.move rfl rfl) rfl rfl rfl ?_
      refine Seq.val (Runs.indexB rfl rfl rfl Try.underlying26 (by kernel_rfl) (j := b) rfl (by omega)) rfl rfl rfl ?_
      refine Seq.val (Runs.loadB rfl rfl Try.underlying2 rfl k8 (I_getD (by omega))) rfl rfl rfl ?_
      refine Seq.val (Runs.addI rfl rfl rfl (by omega) (by omega)) rfl rfl rfl ?_
      refine Seq.val (Runs.indexB rfl rfl rfl Try.underlying26 (by kernel_rfl) (j := b) rfl (by omega)) rfl rfl rfl ?_
      refine Seq.store1 rfl rfl rfl (by kernel_rfl) rfl rfl k8 (I_getD (by omega)) rfl rfl ?_
      intro w4 pw4
      replace bel := bel.put k8 pw4 e8
      replace k9 := k9.put pw4 (by omega)
      replace k8 := pw4.blk
      rw [I_set] at k8
      refine Seq.nil ?_
      refine Post.weak (F' := [(8, _), (9, _), (10, _), (16, _), (89, _), (90, _), (91, _)]) ⟨rfl, rfl, rfl, rfl, rfl, rfl, rfl, trivial⟩ ?_
      refine Post.then_ ?_
      refine Cd.region ?_
      refine Seq.val (Runs.move rfl rfl) rfl rfl rfl ?_
      refine Seq.val (Runs.move rfl rfl) rfl rfl rfl ?_
      refine Seq.val (Runs.indexB rfl rfl rfl Try.underlying29 (by kernel_rfl) (j := b) rfl (by omega)) rfl rfl rfl ?_
      refine Seq.store1 rfl rfl rfl (by kernel_rfl) rfl rfl k9 (U_getD (by omega)) rfl rfl ?_
      intro w5 pw5
      replace bel := bel.put k9 pw5 e9
      replace k8 := k8.put pw5 (by omega)
      replace k9 := pw5.blk
      replace k9 : Blk _ g9 62 ((U s.2).toArray.setIfInBounds b (.int .u64 ((0 : Nat) : Int))) := k9
      rw [U_set] at k9
      refine Seq.nil ?_
      refine Post.weak (F' := [(8, _), (9, _), (10, _), (16, _), (89, _), (90, _), (91, _)]) ⟨rfl, rfl, rfl, rfl, rfl, rfl, rfl, trivial⟩ ?_
      refine Post.block_normal ?_
      refine Post.then_ ?_
      refine Cd.region ?_
      refine Seq.val (Runs.move rfl rfl) rfl rfl rfl ?_
      refine Seq.val (Runs.subI rfl rfl rfl (by omega) (by omega)) rfl rfl rfl ?_
      refine Seq.val (Runs.assign rfl rfl) rfl rfl rfl ?_
      refine Seq.nil ?_
      refine Post.weak (F' := [(8, _), (9, _), (10, _), (16, _), (89, _), (90, _), (91, _)]) ⟨rfl, rfl, rfl, rfl, rfl, rfl, rfl, trivial⟩ ?_
      rw [show (leftOf t l : Int) - (m : Int) - 1 = (leftOf t l : Int) - ((m + 1 : Nat) : Int) by omega]
      exact Post.round (m + 1) ⟨rfl, rfl, rfl, trivial⟩ ⟨by omega, bel, by rw [hgs]; exact k8, by rw [hgs]; exact k9⟩ (by omega)
  · obtain rfl : m = leftOf t l := by omega
    refine Cd.exit ?_
    refine Post.then_exit ?_
    refine Post.round_exit ?_
    refine Post.block_exit ?_
    refine Post.then_ ?_
    refine Cd.seq ?_
    refine Cd.region ?_
    refine Seq.val (Runs.move rfl rfl) rfl rfl rfl ?_
    refine Seq.val (Runs.assign rfl rfl) rfl rfl rfl ?_
    refine Seq.val (Runs.assign rfl rfl) rfl rfl rfl ?_
    refine Seq.nil ?_
    refine Post.weak (F' := [(4, _), (5, _), (8, _), (9, _), (10, _), (85, _)]) ⟨rfl, rfl, rfl, rfl, rfl, rfl, trivial⟩ ?_
    refine Post.then_ ?_
    refine Cd.ret ?_
    refine Post.end2 rfl rfl rfl (.inl rfl) ?_
    exact ⟨bel, .inr ⟨hyes, g8, rfl, k8, by omega⟩⟩
end Go.Proofs.Ytpdeihienkbeeaa

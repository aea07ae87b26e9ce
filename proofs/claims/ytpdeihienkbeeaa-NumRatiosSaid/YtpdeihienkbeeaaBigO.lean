/-
  debentureref01's Share: what it answers. Condition: the numbers are of 64 bits, not too many.
-/
import Derived.Test.YtpdeihienkbeeaaBigN
namespace Go.Proofs.Ytpdeihienkbeeaa
open Go.RowKit

set_option maxHeartbeats 2000000 in
theorem refShare_any (B : Nat) (A : Option Addr) (n cap : Nat) (t : Int) (l : List Int) (w : World) (hr : Reads w B 1 A n (I l)) (hB : B ≤ w.heap.size) (ht : I64 t) (hl : ∀ x ∈ l, I64 x) (hn : n ≤ 1000000000) :
    Calls Try.prog 20 #[.int .i64 t, .slice A n cap] w fun e w' => Grow w w' ∧ ((¬ shareOk t l ∧ e = .returned (.tuple #[.slice none 0 0, .bool false])) ∨
      (shareOk t l ∧ ∃ g, e = .returned (.tuple #[.slice (some ⟨g, 0, none⟩) n n, .bool true]) ∧ Blk w' g 2 (I (shareOf t l)).toArray ∧ w.heap.size ≤ g)) := by
  have hlen := hr.len_I
  have bel := Below.refl w.heap.size w
  have hsb : l.sum.natAbs < big := by
    have := sum_natAbs l n hl (by omega)
    have hse : sumTo l n = l.sum := by unfold sumTo; rw [List.take_of_length_le (by omega)]
    rwa [hse] at this
  refine Calls.start 148 Try.func20 rfl rfl rfl ?_
  refine Cd.seq ?_
  refine Cd.region ?_
  refine Seq.val (Runs.assign rfl rfl) rfl rfl rfl ?_
  refine Seq.val (Runs.assign rfl rfl) rfl rfl rfl ?_
  refine Seq.nil ?_
  refine Post.weak (F' := [(0, _), (1, _), (4, _), (5, _)]) ⟨rfl, rfl, rfl, rfl, trivial⟩ ?_
  refine Post.then_ ?_
  refine Cd.seq ?_
  refine Cd.region ?_
  refine Seq.val (Runs.move rfl rfl) rfl rfl rfl ?_
  refine Seq.call (Enters.func rfl rfl rfl (run_enter Try.func18 (by kernel_rfl) rfl)) rfl rfl rfl (refSum_any B A n cap l _ hr hB hl hn) ?_
  rintro e w2 ⟨v, rfl, hb2, hv⟩
  obtain ⟨ma, rfl, oma, hma⟩ := hv.agg
  have hma : MagU w2 ma l.sum.natAbs := ⟨hma⟩
  refine ⟨_, rfl, ?_⟩
  replace bel := bel.step hb2
  refine Seq.alloc rfl (run_zero zero_debentureref01_Big) rfl rfl rfl ?_
  intro g6 w1 n6
  have e6 := Nat.le_trans bel.size n6.ge
  replace bel := bel.step n6.below
  replace hma := hma.step n6.below
  have k6 := n6.blk
  refine Seq.storeN rfl rfl rfl rfl (m := 2) (by kernel_rfl) rfl (by repeat' first | exact trivial | apply And.intro | rfl | assumption) k6 (by simp [Value.cells]) rfl rfl ?_
  intro w2 pw2
  replace bel := bel.put k6 pw2 e6
  replace hma := hma.put k6 pw2 e6
  replace k6 := pw2.blk
  refine Seq.nil ?_
  refine Post.weak (F' := [(0, _), (1, _), (4, _), (5, _), (6, _)]) ⟨rfl, rfl, rfl, rfl, rfl, trivial⟩ ?_
  refine Post.then_ ?_
  refine Cd.seq ?_
  refine Cd.seq ?_
  refine Cd.region ?_
  refine Seq.val (Runs.move rfl rfl) rfl rfl rfl ?_
  refine Seq.val (Runs.len rfl rfl Try.underlying26) rfl rfl rfl ?_
  refine Seq.val (Runs.lss rfl rfl rfl) rfl rfl rfl ?_
  refine Seq.val (Runs.move rfl rfl) rfl rfl rfl ?_
  refine SeqC.start ?_
  refine SeqC.open rfl rfl rfl rfl rfl rfl rfl (fun hcx => Runs.move rfl rfl) ?_
  refine SeqC.next rfl rfl rfl rfl rfl rfl rfl (fun hcx => Runs.len rfl rfl Try.underlying26) ?_
  refine SeqC.next rfl rfl rfl rfl rfl rfl rfl (fun hcx => Runs.gtr rfl rfl rfl) ?_
  refine SeqC.or rfl rfl rfl rfl rfl rfl rfl ?_
  refine Seq.val (Runs.move rfl rfl) rfl rfl rfl ?_
  refine SeqC.start ?_
  refine SeqC.open rfl rfl rfl rfl rfl rfl rfl (fun hcx => Runs.move rfl rfl) ?_
  refine SeqC.next rfl rfl rfl rfl rfl rfl rfl (fun hcx => Runs.lss rfl rfl rfl) ?_
  refine SeqC.or rfl rfl rfl rfl rfl rfl rfl ?_
  refine Seq.val (Runs.move rfl rfl) rfl rfl rfl ?_
  refine SeqC.start ?_
  refine SeqC.open rfl rfl rfl rfl rfl rfl rfl (fun hcx => Runs.fieldB 1 rfl rfl Try.underlying31 rfl (by kernel_rfl)) ?_
  obtain ⟨Aa, ca, rfl⟩ := fieldV_agg hma.mag
  refine SeqC.next rfl rfl rfl rfl rfl rfl rfl (fun hcx => Runs.loadB rfl rfl Try.underlying29 rfl k6 rfl) ?_
  refine SeqC.next rfl rfl rfl rfl rfl rfl rfl (fun hcx => Runs.len rfl rfl Try.underlying29) ?_
  refine SeqC.next rfl rfl rfl rfl rfl rfl rfl (fun hcx => Runs.eqlI rfl rfl rfl) ?_
  refine SeqC.or rfl rfl rfl rfl rfl rfl rfl ?_
  refine Seq.nil ?_
  refine Post.weak (F' := [(0, _), (1, _), (4, _), (5, _), (6, _), (37, _)]) ⟨rfl, rfl, rfl, rfl, rfl, rfl, trivial⟩ ?_
  refine Post.then_ ?_
  have hzero := digs_len_zero l.sum.natAbs
  generalize hla : (digs l.sum.natAbs).length = la at *
  refine Cd.cond rfl (fun h => ?_) (fun h => ?_)
  · have hno : ¬ shareOk t l := by
      rintro ⟨h1, h2, h3, h4, h5⟩
      simp [or_assoc] at h
      rcases h with h | h | h | h
      · obtain rfl : l = [] := List.eq_nil_of_length_eq_zero (by omega)
        exact absurd h3 (by decide)
      · omega
      · omega
      · have := hzero.1 h; omega
    refine Cd.seq ?_
    refine Cd.region ?_
    refine Seq.val (Runs.assign rfl rfl) rfl rfl rfl ?_
    refine Seq.val (Runs.assign rfl rfl) rfl rfl rfl ?_
    refine Seq.nil ?_
    refine Post.weak (F' := [(0, _), (1, _), (4, _), (5, _), (6, _), (37, _)]) ⟨rfl, rfl, rfl, rfl, rfl, rfl, trivial⟩ ?_
    refine Post.then_ ?_
    refine Cd.ret ?_
    refine Post.then_ret ?_
    refine Post.end2 rfl rfl rfl (.inl rfl) ?_
    exact ⟨bel, .inl ⟨hno, rfl⟩⟩
  have h4 : 1 ≤ n ∧ n ≤ 64 ∧ 0 ≤ t ∧ l.sum ≠ 0 := by
    simp [or_assoc] at h
    refine ⟨by omega, by omega, by omega, fun h0 => ?_⟩
    have := hzero.2 (by omega)
    omega
  clear h
  refine Cd.skip ?_
  refine Post.then_ ?_
  refine Cd.seq ?_
  refine Cd.seq ?_
  refine Cd.region ?_
  refine Seq.val (Runs.loadW rfl rfl Try.underlying31 rfl k6 (m := 2) (by kernel_rfl) rfl) rfl rfl rfl ?_
  refine Seq.call (Enters.func rfl rfl rfl (run_enter Try.func45 (by kernel_rfl) rfl)) rfl rfl rfl (small_big' _ l.sum _ ⟨_, rfl, hma.mag⟩ hsb) ?_
  rintro e w5 ⟨rfl, hb5⟩
  refine ⟨_, rfl, ?_⟩
  replace bel := bel.step hb5
  replace hma := hma.step hb5
  replace k6 := k6.step hb5
  refine Seq.val (Runs.move rfl rfl) rfl rfl rfl ?_
  refine Seq.val (Runs.extract rfl rfl rfl) rfl rfl rfl ?_
  refine Seq.val (Runs.extract rfl rfl rfl) rfl rfl rfl ?_
  refine Seq.val (Runs.assign rfl rfl) rfl rfl rfl ?_
  refine Seq.val (Runs.assign rfl rfl) rfl rfl rfl ?_
  refine Seq.nil ?_
  refine Post.weak (F' := [(0, _), (1, _), (4, _), (5, _), (6, _), (8, _), (37, _)]) ⟨rfl, rfl, rfl, rfl, rfl, rfl, rfl, trivial⟩ ?_
  refine Post.then_ ?_
  refine Cd.seq ?_
  refine Cd.region ?_
  refine Seq.val (Runs.move rfl rfl) rfl rfl rfl ?_
  refine Seq.val (Runs.not rfl rfl) rfl rfl rfl ?_
  refine Seq.val (Runs.move rfl rfl) rfl rfl rfl ?_
  refine SeqC.start ?_
  refine SeqC.open rfl rfl rfl rfl rfl rfl rfl (fun hcx => Runs.fieldB 0 rfl rfl Try.underlying31 rfl (by kernel_rfl)) ?_
  refine SeqC.next rfl rfl rfl rfl rfl rfl rfl (fun hcx => Runs.loadB rfl rfl Try.underlying4 rfl k6 rfl) ?_
  refine SeqC.or rfl rfl rfl rfl rfl rfl rfl ?_
  refine Seq.nil ?_
  refine Post.weak (F' := [(0, _), (1, _), (4, _), (5, _), (6, _), (8, _), (37, _), (48, _)]) ⟨rfl, rfl, rfl, rfl, rfl, rfl, rfl, rfl, trivial⟩ ?_
  refine Post.then_ ?_
  refine Cd.cond rfl (fun h => ?_) (fun h => ?_)
  · have hno : ¬ shareOk t l := by
      rintro ⟨h1, h2, h3, h4, h5⟩
      simp [h1] at h
      omega
    refine Cd.seq ?_
    refine Cd.region ?_
    refine Seq.val (Runs.assign rfl rfl) rfl rfl rfl ?_
    refine Seq.val (Runs.assign rfl rfl) rfl rfl rfl ?_
    refine Seq.nil ?_
    refine Post.weak (F' := [(0, _), (1, _), (4, _), (5, _), (6, _), (8, _), (37, _), (48, _)]) ⟨rfl, rfl, rfl, rfl, rfl, rfl, rfl, rfl, trivial⟩ ?_
    refine Post.then_ ?_
    refine Cd.ret ?_
    refine Post.then_ret ?_
    refine Post.end2 rfl rfl rfl (.inl rfl) ?_
    exact ⟨bel, .inl ⟨hno, rfl⟩⟩
  have h5 : fits l.sum = true ∧ 0 < l.sum := by
    cases hf : fits l.sum with
    | false => rw [hf] at h; simp at h
    | true => rw [hf] at h; simp at h; exact ⟨rfl, by omega⟩
  clear h
  obtain ⟨hn1, hn64, ht0, hs0⟩ := h4
  obtain ⟨hf, hpos⟩ := h5
  have ha1 : l.sum ≤ 9223372036854775807 := by unfold fits at hf; simp at hf; omega
  refine Cd.skip ?_
  refine Post.then_ ?_
  refine Cd.seq ?_
  refine Cd.region ?_
  refine Seq.val (Runs.move rfl rfl) rfl rfl rfl ?_
  refine Seq.val (Runs.len rfl rfl Try.underlying26) rfl rfl rfl ?_
  refine Seq.make rfl rfl rfl Try.underlying26 (by kernel_rfl) zero_int64 rfl (b := 8) (by kernel_rfl) (m := n) (by omega) (by omega) (by omega) rfl rfl rfl ?_
  intro g51 w3 n51
  have e51 := Nat.le_trans bel.size n51.ge
  have l51 := Nat.lt_of_lt_of_le k6.lt n51.ge
  replace bel := bel.step n51.below
  replace hma := hma.step n51.below
  replace k6 := k6.step n51.below
  have k51 := n51.blk
  refine Seq.val (Runs.assign rfl rfl) rfl rfl rfl ?_
  refine Seq.nil ?_
  refine Post.weak (F' := [(0, _), (1, _), (4, _), (5, _), (6, _), (8, _), (9, _), (37, _), (48, _)]) ⟨rfl, rfl, rfl, rfl, rfl, rfl, rfl, rfl, rfl, trivial⟩ ?_
  refine Post.then_ ?_
  refine Cd.seq ?_
  refine Cd.region ?_
  refine Seq.val (Runs.move rfl rfl) rfl rfl rfl ?_
  refine Seq.val (Runs.len rfl rfl Try.underlying26) rfl rfl rfl ?_
  refine Seq.makeN rfl rfl rfl Try.underlying73 zero_debentureref01_Big (by kernel_rfl) (b := 32) (by kernel_rfl) (m := n) (by omega) (by omega) (by omega) rfl rfl rfl ?_
  intro g54 w4 n54
  have e54 := Nat.le_trans bel.size n54.ge
  have l54 := Nat.lt_of_lt_of_le k51.lt n54.ge
  have l54_k6 := Nat.lt_of_lt_of_le k6.lt n54.ge
  replace bel := bel.step n54.below
  replace hma := hma.step n54.below
  replace k6 := k6.step n54.below
  replace k51 := k51.step n54.below
  have k54 := n54.blk
  refine Seq.val (Runs.assign rfl rfl) rfl rfl rfl ?_
  refine Seq.nil ?_
  refine Post.weak (F' := [(0, _), (1, _), (4, _), (5, _), (6, _), (8, _), (9, _), (10, _), (37, _), (48, _)]) ⟨rfl, rfl, rfl, rfl, rfl, rfl, rfl, rfl, rfl, rfl, trivial⟩ ?_
  refine Post.then_ ?_
  refine Cd.seq ?_
  refine Cd.region ?_
  refine Seq.val (Runs.move rfl rfl) rfl rfl rfl ?_
  refine Seq.val (Runs.assign rfl rfl) rfl rfl rfl ?_
  refine Seq.nil ?_
  refine Post.weak (F' := [(0, _), (1, _), (4, _), (5, _), (6, _), (8, _), (9, _), (10, _), (11, _), (37, _), (48, _)]) ⟨rfl, rfl, rfl, rfl, rfl, rfl, rfl, rfl, rfl, rfl, rfl, trivial⟩ ?_
  refine Post.then_ ?_
  refine Cd.seq ?_
  refine Cd.seq ?_
  refine Cd.region ?_
  refine Seq.val (Runs.assign rfl rfl) rfl rfl rfl ?_
  refine Seq.nil ?_
  refine Post.weak (F' := [(0, _), (1, _), (4, _), (5, _), (6, _), (8, _), (9, _), (10, _), (11, _), (12, _), (37, _), (48, _)]) ⟨rfl, rfl, rfl, rfl, rfl, rfl, rfl, rfl, rfl, rfl, rfl, rfl, trivial⟩ ?_
  refine Post.then_ ?_
  refine Cd.block ?_
  have hz : (rsOf t l).length = n := by unfold rsOf; simp; omega
  have hq : (l.map (pOf t l.sum)).length = n := by simp; omega
  have hp0 : (List.replicate n (Value.int .i64 0)) = I (part (l.map (pOf t l.sum)) 0 n 0) := by rw [part_zero]; unfold I; rw [List.map_replicate]
  rw [hp0] at k51
  rw [made_pairs] at k54
  have e0 : t - sumTo (qsOf t l) 0 = t := by simp [sumTo]
  refine Cd.loop (σ := Nat × Int × List Value) (fun s => [(0, .int .i64 t), (1, .slice A n cap), (6, .pointer (some ⟨g6, 0, none⟩)), (9, .slice (some ⟨g51, 0, none⟩) n n), (10, .slice (some ⟨g54, 0, none⟩) n n), (11, .int .i64 s.2.1), (12, .int .i64 (s.1 : Int))])
    (fun s wr => s.1 ≤ n ∧ I64 s.2.1 ∧ ((∀ x ∈ l, 0 ≤ x) → s.2.1 = t - sumTo (qsOf t l) s.1) ∧ (∀ j, j < s.1 → 0 ≤ l.getD j 0) ∧ s.2.2.length = n ∧ (∀ m ∈ s.2.2, sliceV m) ∧ Below w.heap.size w wr ∧ MagU wr (.slice Aa la ca) l.sum.natAbs ∧ Blk wr g6 31 #[.bool (decide (l.sum < 0)), .slice Aa la ca] ∧
      Blk wr g51 2 (I (part (l.map (pOf t l.sum)) s.1 n 0)).toArray ∧ Blk wr g54 31 (pairs s.2.2).toArray ∧ Rests wr s.2.2 (rsOf t l) s.1) (fun s => n - s.1) (0, t, List.replicate n (.slice none 0 0))
    ⟨by dsimp only; omega, ht, fun _ => e0.symm, fun j hj => absurd hj (by simp), by simp, fun m hm => by rw [(List.mem_replicate.1 hm).2]; trivial, bel, hma, k6, k51, k54, ⟨fun j hj => absurd hj (by simp)⟩⟩ ⟨rfl, rfl, rfl, rfl, rfl, rfl, rfl, trivial⟩ ?_
  clear bel hma k6 k51 k54
  rintro ⟨i, L, ms⟩ wr ⟨hin, hL, hLs, hnn, hml, hms, bel, hma, k6, k51, k54, hrs⟩
  dsimp only at hin hL hLs hnn hml hms k51 k54 hrs ⊢
  refine Cd.seq ?_
  refine Cd.seq ?_
  refine Cd.region ?_
  refine Seq.val (Runs.move rfl rfl) rfl rfl rfl ?_
  refine Seq.val (Runs.move rfl rfl) rfl rfl rfl ?_
  refine Seq.val (Runs.len rfl rfl Try.underlying26) rfl rfl rfl ?_
  refine Seq.val (Runs.lss rfl rfl rfl) rfl rfl rfl ?_
  refine Seq.nil ?_
  refine Post.weak (F' := [(0, _), (1, _), (6, _), (9, _), (10, _), (11, _), (12, _), (59, _)]) ⟨rfl, rfl, rfl, rfl, rfl, rfl, rfl, rfl, trivial⟩ ?_
  refine Post.then_ ?_
  refine Cd.condD rfl (fun hc => ?_) (fun hc => ?_)
  · obtain ⟨ad, v, rfl, hv, ci⟩ := hr.num bel hB (show i < n by omega)
    have hv64 := hl v (List.mem_of_getElem? hv)
    refine Cd.skip ?_
    refine Post.then_ ?_
    refine Cd.seq ?_
    refine Cd.block ?_
    refine Cd.seq ?_
    refine Cd.seq ?_
    refine Cd.region ?_
    refine Seq.val (Runs.move rfl rfl) rfl rfl rfl ?_
    refine Seq.val (Runs.move rfl rfl) rfl rfl rfl ?_
    refine Seq.val (Runs.index1 rfl rfl rfl Try.underlying26 (by kernel_rfl) (j := i) rfl (by omega)) rfl rfl rfl ?_
    refine Seq.val (Runs.load1 rfl rfl Try.underlying2 rfl ci.val) rfl rfl rfl ?_
    refine Seq.val (Runs.lss rfl rfl rfl) rfl rfl rfl ?_
    refine Seq.nil ?_
    refine Post.weak (F' := [(0, _), (1, _), (6, _), (9, _), (10, _), (11, _), (12, _), (59, _), (66, _)]) ⟨rfl, rfl, rfl, rfl, rfl, rfl, rfl, rfl, rfl, trivial⟩ ?_
    refine Post.then_ ?_
    refine Cd.condD rfl (fun hneg => ?_) (fun hneg => ?_)
    · have hno : ¬ shareOk t l := by
        rintro ⟨_, _, _, _, h5⟩
        have := h5 v (List.mem_of_getElem? hv)
        omega
      refine Cd.seq ?_
      refine Cd.region ?_
      refine Seq.val (Runs.assign rfl rfl) rfl rfl rfl ?_
      refine Seq.val (Runs.assign rfl rfl) rfl rfl rfl ?_
      refine Seq.nil ?_
      refine Post.weak (F' := [(0, _), (1, _), (4, _), (5, _), (6, _), (9, _), (10, _), (11, _), (12, _), (59, _), (66, _)]) ⟨rfl, rfl, rfl, rfl, rfl, rfl, rfl, rfl, rfl, rfl, rfl, trivial⟩ ?_
      refine Post.then_ ?_
      refine Cd.ret ?_
      refine Post.then_ret ?_
      refine Post.block_ret ?_
      refine Post.then_ret ?_
      refine Post.round_ret ?_
      refine Post.block_ret ?_
      refine Post.then_ret ?_
      refine Post.end2 rfl rfl rfl (.inl rfl) ?_
      exact ⟨bel, .inl ⟨hno, rfl⟩⟩
    have hv0 : 0 ≤ v := by omega
    have hrd := rnd_down t v l.sum ht0 hv0 hpos
    have hre := rest_eq t v l.sum ht0 hv0 hpos
    have hri : (rsOf t l)[i]? = some (rOf t l.sum v) := by unfold rsOf; rw [List.getElem?_map, hv]; rfl
    have hpi : (l.map (pOf t l.sum))[i]? = some (pOf t l.sum v) := by rw [List.getElem?_map, hv]; rfl
    have hbp : (t * v).natAbs < big := natAbs_mul_big ht hv64
    have hqb : (qOf t l.sum v).natAbs < big := by
      unfold qOf
      rw [Int.natAbs_natCast]
      rw [Int.natAbs_mul] at hbp
      exact Nat.lt_of_le_of_lt (Nat.div_le_self _ _) hbp
    have hqa : (qOf t l.sum v * l.sum).natAbs < big := by
      rw [Int.natAbs_mul]
      unfold qOf
      rw [Int.natAbs_natCast]
      rw [Int.natAbs_mul] at hbp
      exact Nat.lt_of_le_of_lt (Nat.div_mul_le_self _ _) hbp
    refine Cd.skip ?_
    refine Post.then_ ?_
    refine Cd.seq ?_
    refine Cd.draw 9 (by kernel_rfl) [] (.inl rfl) rfl Grow Grow.refl (fun _ _ _ => Grow.trans) ?_
    intro w5 hw5 zw5
    replace bel := bel.step hw5
    replace hma := hma.step hw5
    replace k6 := k6.step hw5
    replace k51 := k51.step hw5
    replace k54 := k54.step hw5
    replace hrs := hrs.step hw5
    replace ci := ci.step hw5
    have zbel := bel.size
    have zlt := k54.lt
    refine Dr.val Grow.refl rfl (fun w hG => Runs.move rfl rfl) rfl ?_
    refine Dr.call (Φ := fun u w => BigR w u t) rfl (fun w => Enters.func rfl rfl rfl (run_enter Try.func25 (by kernel_rfl) rfl)) rfl (BigR.stable _) (fun w hG => of_big t _ ht.1 ht.2) ?_
    refine Dr.val Grow.refl rfl (fun w hG => Runs.move rfl rfl) rfl ?_
    refine Dr.val Grow.refl rfl (fun w hG => Runs.move rfl rfl) rfl ?_
    refine Dr.val Grow.refl rfl (fun w hG => Runs.index1 rfl rfl rfl Try.underlying26 (by kernel_rfl) (j := i) rfl (by omega)) rfl ?_
    refine Dr.val Grow.refl rfl (fun w hG => Runs.load1 rfl rfl Try.underlying2 rfl (ci.step hG).val) rfl ?_
    refine Dr.call (Φ := fun u w => BigR w u v) rfl (fun w => Enters.func rfl rfl rfl (run_enter Try.func25 (by kernel_rfl) rfl)) rfl (BigR.stable _) (fun w hG => of_big v _ hv64.1 hv64.2) ?_
    refine Dr.call2 (j := 1) (j' := 6) (Φ := fun u w => BigR w u (t * v)) rfl rfl rfl rfl rfl (fun u u' w => Enters.func rfl rfl rfl (run_enter Try.func28 (by kernel_rfl) rfl)) rfl (BigR.stable _) (fun u u' w hG hu hu' => times_grow _ _ t v _ hu hu' ht.big hv64.big) ?_
    refine Dr.alloc rfl rfl (run_zero zero_debentureref01_Big) rfl ?_
    refine Dr.nil ?_
    refine FinX.open (j := 7) rfl ?_
    intro u7
    refine FinX.open (j := 8) rfl ?_
    intro u8
    refine FinX.done (F' := [(0, _), (1, _), (6, _), (9, _), (10, _), (11, _), (12, _), (13, _), (59, _), (66, _), (74, _)]) rfl ⟨rfl, rfl, rfl, rfl, rfl, rfl, rfl, rfl, rfl, rfl, rfl, trivial⟩ ?_
    intro w6 hw6 fw6
    replace bel := bel.step hw6
    replace hma := hma.step hw6
    replace k6 := k6.step hw6
    replace k51 := k51.step hw6
    replace k54 := k54.step hw6
    replace hrs := hrs.step hw6
    replace ci := ci.step hw6
    obtain ⟨⟨-, h13⟩, g13, rfl, k13, e13⟩ := (by assumption : (_ ∧ BigR _ _ _) ∧ _)
    obtain ⟨mp, rfl, omp, hmp⟩ := h13.agg
    have i13 := hmp.ni
    have hmp : MagU _ mp (t * v).natAbs := ⟨hmp⟩
    have l13 := Nat.lt_of_lt_of_le zlt e13
    replace e13 := Nat.le_trans zbel e13
    refine Seq.storeN rfl rfl rfl rfl (m := 2) (by kernel_rfl) rfl (by repeat' first | exact trivial | apply And.intro | rfl | assumption) k13 (by simp [Value.cells]) rfl rfl ?_
    intro w7 pw7
    replace bel := bel.put k13 pw7 e13
    replace hma := hma.put k13 pw7 e13
    replace k6 := k6.put pw7 (by omega)
    replace k51 := k51.put pw7 (by omega)
    replace k54 := k54.put pw7 (by omega)
    replace hrs := hrs.put k13 pw7 e13
    replace ci := ci.put k13 pw7 e13
    replace hmp := hmp.put k13 pw7 e13
    replace k13 := pw7.blk
    refine Seq.nil ?_
    refine Post.weak (F' := [(0, _), (1, _), (6, _), (9, _), (10, _), (11, _), (12, _), (13, _), (59, _), (66, _)]) ⟨rfl, rfl, rfl, rfl, rfl, rfl, rfl, rfl, rfl, rfl, trivial⟩ ?_
    refine Post.then_ ?_
    refine Cd.seq ?_
    refine Cd.region ?_
    refine Seq.val (Runs.loadW rfl rfl Try.underlying31 rfl k13 (m := 2) (by kernel_rfl) rfl) rfl rfl rfl ?_
    refine Seq.val (Runs.loadW rfl rfl Try.underlying31 rfl k6 (m := 2) (by kernel_rfl) rfl) rfl rfl rfl ?_
    refine Seq.call (Enters.func rfl rfl rfl (run_enter Try.func46 (by kernel_rfl) rfl)) rfl rfl rfl (over_ref _ _ (t * v) l.sum 0 _ ⟨_, rfl, hmp.mag⟩ ⟨_, rfl, hma.mag⟩ hbp hsb hs0) ?_
    rintro e w8 ⟨vq, rfl, hb8, hvq⟩
    rw [hrd] at hvq
    obtain ⟨mq, rfl, omq, hmq⟩ := hvq.agg
    have i14 := hmq.ni
    have hmq : MagU w8 mq (qOf t l.sum v).natAbs := ⟨hmq⟩
    refine ⟨_, rfl, ?_⟩
    replace bel := bel.step hb8
    replace hma := hma.step hb8
    replace k6 := k6.step hb8
    replace k51 := k51.step hb8
    replace k54 := k54.step hb8
    replace hrs := hrs.step hb8
    replace ci := ci.step hb8
    replace hmp := hmp.step hb8
    replace k13 := k13.step hb8
    refine Seq.alloc rfl (run_zero zero_debentureref01_Big) rfl rfl rfl ?_
    intro g14 w8 n14
    have e14 := Nat.le_trans bel.size n14.ge
    have l14 := Nat.lt_of_lt_of_le k13.lt n14.ge
    have l14_k6 := Nat.lt_of_lt_of_le k6.lt n14.ge
    have l14_k51 := Nat.lt_of_lt_of_le k51.lt n14.ge
    have l14_k54 := Nat.lt_of_lt_of_le k54.lt n14.ge
    replace bel := bel.step n14.below
    replace hma := hma.step n14.below
    replace k6 := k6.step n14.below
    replace k51 := k51.step n14.below
    replace k54 := k54.step n14.below
    replace hrs := hrs.step n14.below
    replace ci := ci.step n14.below
    replace hmp := hmp.step n14.below
    replace k13 := k13.step n14.below
    replace hmq := hmq.step n14.below
    have k14 := n14.blk
    refine Seq.storeN rfl rfl rfl rfl (m := 2) (by kernel_rfl) rfl (by repeat' first | exact trivial | apply And.intro | rfl | assumption) k14 (by simp [Value.cells]) rfl rfl ?_
    intro w9 pw9
    replace bel := bel.put k14 pw9 e14
    replace hma := hma.put k14 pw9 e14
    replace k6 := k6.put pw9 (by omega)
    replace k51 := k51.put pw9 (by omega)
    replace k54 := k54.put pw9 (by omega)
    replace hrs := hrs.put k14 pw9 e14
    replace ci := ci.put k14 pw9 e14
    replace hmp := hmp.put k14 pw9 e14
    replace k13 := k13.put pw9 (by omega)
    replace hmq := hmq.put k14 pw9 e14
    replace k14 := pw9.blk
    refine Seq.nil ?_
    refine Post.weak (F' := [(0, _), (1, _), (6, _), (9, _), (10, _), (11, _), (12, _), (13, _), (14, _), (59, _), (66, _)]) ⟨rfl, rfl, rfl, rfl, rfl, rfl, rfl, rfl, rfl, rfl, rfl, trivial⟩ ?_
    refine Post.then_ ?_
    refine Cd.seq ?_
    refine Cd.region ?_
    refine Seq.val (Runs.move rfl rfl) rfl rfl rfl ?_
    refine Seq.val (Runs.move rfl rfl) rfl rfl rfl ?_
    refine Seq.val (Runs.loadW rfl rfl Try.underlying31 rfl k14 (m := 2) (by kernel_rfl) rfl) rfl rfl rfl ?_
    refine Seq.call (Enters.func rfl rfl rfl (run_enter Try.func45 (by kernel_rfl) rfl)) rfl rfl rfl (small_big' _ (qOf t l.sum v) _ ⟨_, rfl, hmq.mag⟩ hqb) ?_
    rintro e w9 ⟨rfl, hb9⟩
    refine ⟨_, rfl, ?_⟩
    replace bel := bel.step hb9
    replace hma := hma.step hb9
    replace k6 := k6.step hb9
    replace k51 := k51.step hb9
    replace k54 := k54.step hb9
    replace hrs := hrs.step hb9
    replace ci := ci.step hb9
    replace hmp := hmp.step hb9
    replace k13 := k13.step hb9
    replace hmq := hmq.step hb9
    replace k14 := k14.step hb9
    refine Seq.val (Runs.move rfl rfl) rfl rfl rfl ?_
    refine Seq.val (Runs.extract rfl rfl rfl) rfl rfl rfl ?_
    refine Seq.val (Runs.extract rfl rfl rfl) rfl rfl rfl ?_
    refine Seq.val (Runs.indexB rfl rfl rfl Try.underlying26 (by kernel_rfl) (j := i) rfl (by omega)) rfl rfl rfl ?_
    refine Seq.store1 rfl rfl rfl (by kernel_rfl) rfl rfl k51 (I_at (part_at _ _ _ _ (by omega) hq)) rfl rfl ?_
    intro w10 pw10
    replace bel := bel.put k51 pw10 e51
    replace hma := hma.put k51 pw10 e51
    replace k6 := k6.put pw10 (by omega)
    replace k54 := k54.put pw10 (by omega)
    replace hrs := hrs.put k51 pw10 e51
    replace ci := ci.put k51 pw10 e51
    replace hmp := hmp.put k51 pw10 e51
    replace k13 := k13.put pw10 (by omega)
    replace hmq := hmq.put k51 pw10 e51
    replace k14 := k14.put pw10 (by omega)
    replace k51 := pw10.blk
    replace k51 : Blk _ g51 2 ((I (part (l.map (pOf t l.sum)) i n 0)).toArray.setIfInBounds i (.int .i64 (pOf t l.sum v))) := k51
    rw [I_set, part_set _ _ _ _ _ hpi (by omega) hq] at k51
    refine Seq.nil ?_
    refine Post.weak (F' := [(0, _), (1, _), (6, _), (9, _), (10, _), (11, _), (12, _), (13, _), (14, _), (59, _), (66, _)]) ⟨rfl, rfl, rfl, rfl, rfl, rfl, rfl, rfl, rfl, rfl, rfl, trivial⟩ ?_
    refine Post.then_ ?_
    refine Cd.seq ?_
    refine Cd.draw 9 (by kernel_rfl) [] (.inl rfl) rfl Grow Grow.refl (fun _ _ _ => Grow.trans) ?_
    intro w11 hw11 zw11
    replace bel := bel.step hw11
    replace hma := hma.step hw11
    replace k6 := k6.step hw11
    replace k51 := k51.step hw11
    replace k54 := k54.step hw11
    replace hrs := hrs.step hw11
    replace ci := ci.step hw11
    replace hmp := hmp.step hw11
    replace k13 := k13.step hw11
    replace hmq := hmq.step hw11
    replace k14 := k14.step hw11
    have zbel := bel.size
    have zlt := k14.lt
    refine Dr.val Grow.refl rfl (fun w hG => Runs.move rfl rfl) rfl ?_
    refine Dr.val Grow.refl rfl (fun w hG => Runs.move rfl rfl) rfl ?_
    refine Dr.val Grow.refl rfl (fun w hG => Runs.loadW rfl rfl Try.underlying31 rfl (k13.step hG) (m := 2) (by kernel_rfl) rfl) rfl ?_
    refine Dr.val Grow.refl rfl (fun w hG => Runs.loadW rfl rfl Try.underlying31 rfl (k14.step hG) (m := 2) (by kernel_rfl) rfl) rfl ?_
    refine Dr.val Grow.refl rfl (fun w hG => Runs.loadW rfl rfl Try.underlying31 rfl (k6.step hG) (m := 2) (by kernel_rfl) rfl) rfl ?_
    refine Dr.call (Φ := fun u w => BigR w u (qOf t l.sum v * l.sum)) rfl (fun w => Enters.func rfl rfl rfl (run_enter Try.func28 (by kernel_rfl) rfl)) rfl (BigR.stable _) (fun w hG => times_grow _ _ (qOf t l.sum v) l.sum _ ⟨_, rfl, hmq.mag.step hG⟩ ⟨_, rfl, hma.mag.step hG⟩ hqb hsb) ?_
    refine Dr.call1 (j := 5) (Φ := fun u w => BigR w u (-(qOf t l.sum v * l.sum))) rfl rfl rfl (fun u w => Enters.func rfl rfl rfl (run_enter Try.func27 (by kernel_rfl) rfl)) rfl (BigR.stable _) (fun u w hG hu => minus_big u _ _ hu hqa) ?_
    refine Dr.call1 (j := 6) (Φ := fun u w => BigR w u (t * v + -(qOf t l.sum v * l.sum))) rfl rfl rfl (fun u w => Enters.func rfl rfl rfl (run_enter Try.func26 (by kernel_rfl) rfl)) rfl (BigR.stable _) (fun u w hG hu => plus_big _ u (t * v) _ _ ⟨_, rfl, hmp.mag.step hG⟩ hu hbp (by omega)) ?_
    refine Dr.val Grow.refl rfl (fun w hG => Runs.indexBN rfl rfl rfl Try.underlying73 (s := 2) (by kernel_rfl) (j := i) rfl (by omega)) rfl ?_
    refine Dr.nil ?_
    refine FinX.open (j := 7) rfl ?_
    intro u7
    refine FinX.done (F' := [(0, _), (1, _), (6, _), (9, _), (10, _), (11, _), (12, _), (13, _), (14, _), (59, _), (66, _), (93, _), (94, _)]) rfl ⟨rfl, rfl, rfl, rfl, rfl, rfl, rfl, rfl, rfl, rfl, rfl, rfl, rfl, trivial⟩ ?_
    intro w12 hw12 fw12
    replace bel := bel.step hw12
    replace hma := hma.step hw12
    replace k6 := k6.step hw12
    replace k51 := k51.step hw12
    replace k54 := k54.step hw12
    replace hrs := hrs.step hw12
    replace ci := ci.step hw12
    replace hmp := hmp.step hw12
    replace k13 := k13.step hw12
    replace hmq := hmq.step hw12
    replace k14 := k14.step hw12
    obtain ⟨-, h93⟩ := (by assumption : True ∧ BigR _ _ (t * v + -(qOf t l.sum v * l.sum)))
    rw [hre] at h93
    obtain ⟨mr, e93, omr, hmr⟩ := h93.agg
    rw [decide_eq_false (show ¬ ((rOf t l.sum v : Nat) : Int) < 0 by omega)] at e93
    subst e93
    rw [Int.natAbs_natCast] at hmr
    have hmr : MagU _ mr (rOf t l.sum v) := ⟨hmr⟩
    refine Seq.storeN rfl rfl rfl rfl (m := 2) (by kernel_rfl) rfl (by repeat' first | exact trivial | apply And.intro | rfl | assumption) k54 (show 2 * i + 2 ≤ (pairs ms).toArray.size by simp [pairs_len, hml]; omega) rfl rfl ?_
    intro w12 p12
    have lx := k14.lt
    replace hmr := hmr.put k54 p12 e54
    replace hma := hma.put k54 p12 e54
    replace hrs := (hrs.put k54 p12 e54).set (by omega) hri hmr
    replace bel := bel.put k54 p12 e54
    replace ci := ci.put k54 p12 e54
    replace k6 := k6.put p12 (by omega)
    replace k51 := k51.put p12 (by omega)
    replace k54 : Blk w12 g54 31 (pairs (ms.set i mr)).toArray := by
      rw [← pairs_set ms mr i (by omega)]
      exact p12.blk
    replace hms := sl_set hms hmr.mag.sl i
    refine Seq.nil ?_
    refine Post.weak (F' := [(0, _), (1, _), (6, _), (9, _), (10, _), (11, _), (12, _), (13, _), (14, _), (59, _), (66, _)]) ⟨rfl, rfl, rfl, rfl, rfl, rfl, rfl, rfl, rfl, rfl, rfl, trivial⟩ ?_
    refine Post.then_ ?_
    refine Cd.region ?_
    refine Seq.val (Runs.move rfl rfl) rfl rfl rfl ?_
    refine Seq.val (Runs.move rfl rfl) rfl rfl rfl ?_
    refine Seq.val (Runs.move rfl rfl) rfl rfl rfl ?_
    have hpa : (I (part (l.map (pOf t l.sum)) (i + 1) n 0)).toArray[i]? = some (.int .i64 (pOf t l.sum v)) := by
      refine I_at ?_
      unfold part
      rw [List.getElem?_append_left (by rw [List.length_take]; omega), List.getElem?_take_of_lt (by omega)]
      exact hpi
    refine Seq.val (Runs.indexB rfl rfl rfl Try.underlying26 (by kernel_rfl) (j := i) rfl (by omega)) rfl rfl rfl ?_
    refine Seq.val (Runs.loadB rfl rfl Try.underlying2 rfl k51 hpa) rfl rfl rfl ?_
    refine Seq.val (Runs.subW rfl rfl rfl (r := IntKind.i64.wrap (L - pOf t l.sum v)) rfl) rfl rfl rfl ?_
    refine Seq.val (Runs.assign rfl rfl) rfl rfl rfl ?_
    refine Seq.nil ?_
    refine Post.weak (F' := [(0, _), (1, _), (6, _), (9, _), (10, _), (11, _), (12, _), (13, _), (14, _), (59, _), (66, _)]) ⟨rfl, rfl, rfl, rfl, rfl, rfl, rfl, rfl, rfl, rfl, rfl, trivial⟩ ?_
    refine Post.block_normal ?_
    refine Post.then_ ?_
    refine Cd.region ?_
    refine Seq.val (Runs.move rfl rfl) rfl rfl rfl ?_
    refine Seq.val (Runs.addI rfl rfl rfl (by omega) (by omega)) rfl rfl rfl ?_
    refine Seq.val (Runs.assign rfl rfl) rfl rfl rfl ?_
    refine Seq.nil ?_
    refine Post.weak (F' := [(0, _), (1, _), (6, _), (9, _), (10, _), (11, _), (12, _), (13, _), (14, _), (59, _), (66, _)]) ⟨rfl, rfl, rfl, rfl, rfl, rfl, rfl, rfl, rfl, rfl, rfl, trivial⟩ ?_
    refine Post.round (i + 1, IntKind.i64.wrap (L - pOf t l.sum v), ms.set i mr) ⟨rfl, rfl, rfl, rfl, rfl, rfl, rfl, trivial⟩ ⟨by dsimp only; omega, wrap_I64 _, fun ha => ?_, fun j hj => ?_, by simp [hml], hms, bel, hma, k6, k51, k54, hrs⟩ (by dsimp only; omega)
    · have hyes : shareOk t l := ⟨hf, ht0, hpos, by omega, ha⟩
      have hs1 := sumQ_bd t l hyes i
      have hs2 := sumQ_bd t l hyes (i + 1)
      have hqi : (qsOf t l)[i]? = some (qOf t l.sum v) := by unfold qsOf; rw [List.getElem?_map, hv]; rfl
      have hq0 := qs_nonneg t l _ (List.mem_of_getElem? hqi)
      have hss := sumTo_succ _ _ _ hqi
      rw [hss] at hs2
      have ht1 := ht.2
      have hpq : pOf t l.sum v = qOf t l.sum v := by unfold pOf smallOf; rw [fits_of (by omega) (by omega)]; rfl
      dsimp only
      rw [hpq, hLs ha, hss, wrapI (by omega) (by omega)]
      omega
    · dsimp only at hj
      rcases Nat.lt_or_ge j i with h | h
      · exact hnn j h
      · obtain rfl : j = i := by omega
        rw [getD_of_get hv]; exact hv0
  obtain rfl : i = n := by omega
  have hall : ∀ x ∈ l, 0 ≤ x := by
    intro x hx
    obtain ⟨j, hj, rfl⟩ := List.getElem_of_mem hx
    have := hnn j (by omega)
    simpa [List.getD, List.getElem?_eq_getElem hj] using this
  have hyes : shareOk t l := ⟨hf, ht0, hpos, by omega, hall⟩
  have hpq : l.map (pOf t l.sum) = qsOf t l := by
    unfold qsOf
    apply List.map_congr_left
    intro x hx
    have hqx : qOf t l.sum x ∈ qsOf t l := List.mem_map_of_mem hx
    have h1 := qs_nonneg t l _ hqx
    have h2 := (le_sum (qsOf t l) (qs_nonneg t l)).2 _ hqx
    have h3 := (share_left hyes).1
    have ht1 := ht.2
    unfold pOf smallOf
    rw [fits_of (by omega) (by omega)]; rfl
  have hql : (qsOf t l).length = i := by unfold qsOf; simp; omega
  rw [hpq, part_all _ _ _ hql] at k51
  have hsh := share_left hyes
  obtain rfl : L = ((leftOf t l : Nat) : Int) := by
    rw [hLs hall]
    unfold sumTo leftOf
    rw [List.take_of_length_le (by omega)]
    omega
  have hLt : (leftOf t l : Int) ≤ t := by
    have := (le_sum (qsOf t l) (qs_nonneg t l)).1
    unfold leftOf; omega
  have hgb := give_bd t l hyes (by omega)
  have ht1 := ht.2
  clear hLs hnn e0 hp0 hpq
  have hl0 : 0 < l.length := by omega
  refine Cd.exit ?_
  refine Post.then_exit ?_
  refine Post.round_exit ?_
  refine Post.block_exit ?_
  refine Post.then_ ?_
  refine Cd.seq ?_
  refine Cd.region ?_
  refine Seq.val (Runs.move rfl rfl) rfl rfl rfl ?_
  refine Seq.val (Runs.len rfl rfl Try.underlying26) rfl rfl rfl ?_
  refine Seq.make rfl rfl rfl Try.underlying74 (by kernel_rfl) zero_bool rfl (b := 1) (by kernel_rfl) (m := i) (by omega) (by omega) (by omega) rfl rfl rfl ?_
  intro g103 w5 n103
  have e103 := Nat.le_trans bel.size n103.ge
  have l103 := Nat.lt_of_lt_of_le k54.lt n103.ge
  have l103_k51 := Nat.lt_of_lt_of_le k51.lt n103.ge
  replace bel := bel.step n103.below
  replace k51 := k51.step n103.below
  replace k54 := k54.step n103.below
  replace hrs := hrs.step n103.below
  have k103 := n103.blk
  refine Seq.val (Runs.assign rfl rfl) rfl rfl rfl ?_
  refine Seq.nil ?_
  refine Post.weak (F' := [(0, _), (1, _), (6, _), (9, _), (10, _), (11, _), (12, _), (15, _), (59, _)]) ⟨rfl, rfl, rfl, rfl, rfl, rfl, rfl, rfl, rfl, trivial⟩ ?_
  refine Post.then_ ?_
  refine Cd.seq ?_
  refine Cd.block ?_
  have hg0 : (List.replicate i (Value.bool false)).toArray = ((gotOf (qsOf t l) (rsOf t l) 0).map Value.bool).toArray := by rw [gotOf_zero, hz, List.map_replicate]
  rw [hg0] at k103
  refine Cd.loop (σ := Nat) (fun m => [(1, .slice A i cap), (9, .slice (some ⟨g51, 0, none⟩) i i), (10, .slice (some ⟨g54, 0, none⟩) i i), (11, .int .i64 ((leftOf t l : Int) - m)), (15, .slice (some ⟨g103, 0, none⟩) i i)])
    (fun m wr => m ≤ leftOf t l ∧ Below w.heap.size w wr ∧ Blk wr g51 2 (I (giveTo (qsOf t l) (rsOf t l) m).1).toArray ∧ Blk wr g54 31 (pairs ms).toArray ∧ Rests wr ms (rsOf t l) i ∧ Blk wr g103 4 ((gotOf (qsOf t l) (rsOf t l) m).map Value.bool).toArray) (fun m => leftOf t l - m) 0 ⟨by omega, bel, k51, k54, hrs, k103⟩ ⟨rfl, rfl, rfl, congrArg (fun x => some (Value.int .i64 x)) (show (leftOf t l : Int) = (leftOf t l : Int) - ((0 : Nat) : Int) by omega), rfl, trivial⟩ ?_
  clear bel k51 k54 hrs k103
  rintro m wr ⟨hm, bel, k51, k54, hrs, k103⟩
  refine Cd.seq ?_
  refine Cd.seq ?_
  refine Cd.region ?_
  refine Seq.val (Runs.move rfl rfl) rfl rfl rfl ?_
  refine Seq.val (Runs.gtr rfl rfl rfl) rfl rfl rfl ?_
  refine Seq.nil ?_
  refine Post.weak (F' := [(1, _), (9, _), (10, _), (11, _), (15, _), (105, _)]) ⟨rfl, rfl, rfl, rfl, rfl, rfl, trivial⟩ ?_
  refine Post.then_ ?_
  refine Cd.condD rfl (fun hc => ?_) (fun hc => ?_)
  · have hnz := giveTo_nz (qsOf t l) (rsOf t l) m (by omega)
    have hz2 : (giveTo (qsOf t l) (rsOf t l) m).2.length = i := by rw [giveTo_len2]; omega
    have hq2 : (giveTo (qsOf t l) (rsOf t l) m).1.length = i := by rw [giveTo_len1]; omega
    have hbp := nz_best (giveTo (qsOf t l) (rsOf t l) m).2 (by omega)
    rw [hz2] at hbp
    have hbl := bestTo_lt (giveTo (qsOf t l) (rsOf t l) m).2 i (by omega)
    have hgs := giveTo_succ (qsOf t l) (rsOf t l) m
    rw [hz] at hgs
    have hgo := gotOf_succ (qsOf t l) (rsOf t l) m _ rfl (by rw [hz]; exact hbl) (by rw [hz]; exact hbp)
    rw [hz] at hgo
    have hpb := pick_best (gotOf (qsOf t l) (rsOf t l) m) (rsOf t l) (giveTo (qsOf t l) (rsOf t l) m).2 i (fun j hj => gotOf_hz _ _ m j (by omega)) (by omega) hbp
    have hgb := hgb m (by omega) (bestTo (giveTo (qsOf t l) (rsOf t l) m).2 i) (by omega)
    have hgl := gotOf_len (qsOf t l) (rsOf t l) m
    rw [hz] at hgl
    have hrl : ∀ j, (rsOf t l).getD j 0 < big := fun j => Nat.lt_trans (rs_lt t l j hpos) hsb
    generalize hb : bestTo (giveTo (qsOf t l) (rsOf t l) m).2 i = b at *
    generalize gotOf (qsOf t l) (rsOf t l) m = got at *
    generalize rsOf t l = r at *
    refine Cd.skip ?_
    refine Post.then_ ?_
    refine Cd.seq ?_
    refine Cd.block ?_
    refine Cd.seq ?_
    refine Cd.region ?_
    refine Seq.val (Runs.assign rfl rfl) rfl rfl rfl ?_
    refine Seq.nil ?_
    refine Post.weak (F' := [(1, _), (9, _), (10, _), (11, _), (15, _), (16, _), (105, _)]) ⟨rfl, rfl, rfl, rfl, rfl, rfl, rfl, trivial⟩ ?_
    refine Post.then_ ?_
    refine Cd.seq ?_
    refine Cd.seq ?_
    refine Cd.region ?_
    refine Seq.val (Runs.assign rfl rfl) rfl rfl rfl ?_
    refine Seq.nil ?_
    refine Post.weak (F' := [(1, _), (9, _), (10, _), (11, _), (15, _), (16, _), (17, _), (105, _)]) ⟨rfl, rfl, rfl, rfl, rfl, rfl, rfl, rfl, trivial⟩ ?_
    refine Post.then_ ?_
    refine Cd.block ?_
    refine Cd.loop (σ := Nat) (fun k => [(1, .slice A i cap), (9, .slice (some ⟨g51, 0, none⟩) i i), (10, .slice (some ⟨g54, 0, none⟩) i i), (11, .int .i64 ((leftOf t l : Int) - m)), (15, .slice (some ⟨g103, 0, none⟩) i i), (16, .int .i64 (pickTo got r k)), (17, .int .i64 (k : Int))])
      (fun k wr' => k ≤ i ∧ Below w.heap.size w wr' ∧ Blk wr' g51 2 (I (giveTo (qsOf t l) r m).1).toArray ∧ Blk wr' g54 31 (pairs ms).toArray ∧ Rests wr' ms r i ∧ Blk wr' g103 4 (got.map Value.bool).toArray) (fun k => i - k) 0 ⟨by omega, bel, k51, k54, hrs, k103⟩ ⟨rfl, rfl, rfl, rfl, rfl, rfl, rfl, trivial⟩ ?_
    clear bel k51 k54 hrs k103
    rintro k wr' ⟨hk, bel, k51, k54, hrs, k103⟩
    refine Cd.seq ?_
    refine Cd.seq ?_
    refine Cd.region ?_
    refine Seq.val (Runs.move rfl rfl) rfl rfl rfl ?_
    refine Seq.val (Runs.move rfl rfl) rfl rfl rfl ?_
    refine Seq.val (Runs.len rfl rfl Try.underlying26) rfl rfl rfl ?_
    refine Seq.val (Runs.lss rfl rfl rfl) rfl rfl rfl ?_
    refine Seq.nil ?_
    refine Post.weak (F' := [(1, _), (9, _), (10, _), (11, _), (15, _), (16, _), (17, _), (111, _)]) ⟨rfl, rfl, rfl, rfl, rfl, rfl, rfl, rfl, trivial⟩ ?_
    refine Post.then_ ?_
    refine Cd.condD rfl (fun hc => ?_) (fun hc => ?_)
    · have hps : pickTo got r (k + 1) = if got.getD k false = false ∧ (pickTo got r k < 0 ∨ r.getD (pickTo got r k).toNat 0 < r.getD k 0) then (k : Int) else pickTo got r k := rfl
      have hbat := bool_at (l := got) (j := k) (by omega)
      refine Cd.skip ?_
      refine Post.then_ ?_
      refine Cd.seq ?_
      refine Cd.block ?_
      refine Cd.seq ?_
      refine Cd.draw 21 (by kernel_rfl) [] (.inl rfl) rfl Grow Grow.refl (fun _ _ _ => Grow.trans) ?_
      intro w6 hw6 zw6
      replace bel := bel.step hw6
      replace k51 := k51.step hw6
      replace k54 := k54.step hw6
      replace hrs := hrs.step hw6
      replace k103 := k103.step hw6
      have zbel := bel.size
      have zlt := k103.lt
      refine Dr.val Grow.refl rfl (fun w hG => Runs.move rfl rfl) rfl ?_
      refine Dr.val Grow.refl rfl (fun w hG => Runs.move rfl rfl) rfl ?_
      refine Dr.val Grow.refl rfl (fun w hG => Runs.indexB rfl rfl rfl Try.underlying74 (by kernel_rfl) (j := k) rfl (by omega)) rfl ?_
      by_cases hgk : got.getD k false = true
      · refine Dr.val Grow.refl rfl (fun w hG => Runs.loadB rfl rfl Try.underlying4 rfl (k103.step hG) (by rw [hbat, hgk])) rfl ?_
        refine Dr.val Grow.refl rfl (fun w hG => Runs.not rfl rfl) rfl ?_
        refine Dr.val Grow.refl rfl (fun w hG => Runs.move rfl rfl) rfl ?_
        refine Dr.skip rfl rfl rfl rfl rfl ?_
        refine Dr.skip rfl rfl rfl rfl rfl ?_
        refine Dr.skip rfl rfl rfl rfl rfl ?_
        refine Dr.skipU rfl rfl rfl rfl ?_
        refine Dr.skipU rfl rfl rfl rfl ?_
        refine Dr.skipU rfl rfl rfl rfl ?_
        refine Dr.skipU rfl rfl rfl rfl ?_
        refine Dr.skipU rfl rfl rfl rfl ?_
        refine Dr.skipU rfl rfl rfl rfl ?_
        refine Dr.skipU rfl rfl rfl rfl ?_
        refine Dr.skipU rfl rfl rfl rfl ?_
        refine Dr.skipU rfl rfl rfl rfl ?_
        refine Dr.skipU rfl rfl rfl rfl ?_
        refine Dr.skip rfl rfl rfl rfl rfl ?_
        refine Dr.val Grow.refl rfl (fun w hG => Runs.pickF rfl rfl rfl) rfl ?_
        refine Dr.nil ?_
        refine FinX.done (F' := [(1, _), (9, _), (10, _), (11, _), (15, _), (16, _), (17, _), (111, _), (134, _)]) rfl ⟨rfl, rfl, rfl, rfl, rfl, rfl, rfl, rfl, rfl, trivial⟩ ?_
        intro w7 hw7 fw7
        replace bel := bel.step hw7
        replace k51 := k51.step hw7
        replace k54 := k54.step hw7
        replace hrs := hrs.step hw7
        replace k103 := k103.step hw7
        refine Seq.nil ?_
        refine Post.weak (F' := [(1, _), (9, _), (10, _), (11, _), (15, _), (16, _), (17, _), (111, _), (134, _)]) ⟨rfl, rfl, rfl, rfl, rfl, rfl, rfl, rfl, rfl, trivial⟩ ?_
        refine Post.then_ ?_
        refine Cd.condF rfl rfl ?_
        refine Cd.skip ?_
        refine Post.block_normal ?_
        refine Post.then_ ?_
        refine Cd.region ?_
        refine Seq.val (Runs.move rfl rfl) rfl rfl rfl ?_
        refine Seq.val (Runs.addI rfl rfl rfl (by omega) (by omega)) rfl rfl rfl ?_
        refine Seq.val (Runs.assign rfl rfl) rfl rfl rfl ?_
        refine Seq.nil ?_
        refine Post.weak (F' := [(1, _), (9, _), (10, _), (11, _), (15, _), (16, _), (17, _), (111, _), (134, _)]) ⟨rfl, rfl, rfl, rfl, rfl, rfl, rfl, rfl, rfl, trivial⟩ ?_
        rw [if_neg (by rw [hgk]; simp)] at hps
        exact Post.round (k + 1) ⟨rfl, rfl, rfl, rfl, rfl, congrArg (fun x => some (Value.int .i64 x)) hps.symm, rfl, trivial⟩ ⟨by omega, bel, k51, k54, hrs, k103⟩ (by omega)
      · have hgf : got.getD k false = false := by simpa using hgk
        refine Dr.val Grow.refl rfl (fun w hG => Runs.loadB rfl rfl Try.underlying4 rfl (k103.step hG) (by rw [hbat, hgf])) rfl ?_
        refine Dr.val Grow.refl rfl (fun w hG => Runs.not rfl rfl) rfl ?_
        refine Dr.val Grow.refl rfl (fun w hG => Runs.move rfl rfl) rfl ?_
        refine Dr.valG Grow.refl rfl (fun w hG => Runs.move rfl rfl) rfl rfl rfl ?_
        by_cases hneg : pickTo got r k < 0
        · refine Dr.valG Grow.refl rfl (fun w hG => (Runs.lss rfl rfl rfl).isT (hneg)) rfl rfl rfl ?_
          refine Dr.valG Grow.refl rfl (fun w hG => Runs.move rfl rfl) rfl rfl rfl ?_
          refine Dr.skip rfl rfl rfl rfl rfl ?_
          refine Dr.skip rfl rfl rfl rfl rfl ?_
          refine Dr.skip rfl rfl rfl rfl rfl ?_
          refine Dr.skip rfl rfl rfl rfl rfl ?_
          refine Dr.skip rfl rfl rfl rfl rfl ?_
          refine Dr.skip rfl rfl rfl rfl rfl ?_
          refine Dr.skip rfl rfl rfl rfl rfl ?_
          refine Dr.skip rfl rfl rfl rfl rfl ?_
          refine Dr.skip rfl rfl rfl rfl rfl ?_
          refine Dr.skip rfl rfl rfl rfl rfl ?_
          refine Dr.valG Grow.refl rfl (fun w hG => Runs.pickT rfl rfl rfl) rfl rfl rfl ?_
          refine Dr.val Grow.refl rfl (fun w hG => Runs.pickT rfl rfl rfl) rfl ?_
          refine Dr.nil ?_
          refine FinX.done (F' := [(1, _), (9, _), (10, _), (11, _), (15, _), (16, _), (17, _), (111, _), (134, _)]) rfl ⟨rfl, rfl, rfl, rfl, rfl, rfl, rfl, rfl, rfl, trivial⟩ ?_
          intro w7 hw7 fw7
          replace bel := bel.step hw7
          replace k51 := k51.step hw7
          replace k54 := k54.step hw7
          replace hrs := hrs.step hw7
          replace k103 := k103.step hw7
          refine Seq.nil ?_
          refine Post.weak (F' := [(1, _), (9, _), (10, _), (11, _), (15, _), (16, _), (17, _), (111, _), (134, _)]) ⟨rfl, rfl, rfl, rfl, rfl, rfl, rfl, rfl, rfl, trivial⟩ ?_
          refine Post.then_ ?_
          refine Cd.condT rfl rfl ?_
          refine Cd.region ?_
          refine Seq.val (Runs.move rfl rfl) rfl rfl rfl ?_
          refine Seq.val (Runs.assign rfl rfl) rfl rfl rfl ?_
          refine Seq.nil ?_
          refine Post.weak (F' := [(1, _), (9, _), (10, _), (11, _), (15, _), (16, _), (17, _), (111, _), (134, _)]) ⟨rfl, rfl, rfl, rfl, rfl, rfl, rfl, rfl, rfl, trivial⟩ ?_
          refine Post.block_normal ?_
          refine Post.then_ ?_
          refine Cd.region ?_
          refine Seq.val (Runs.move rfl rfl) rfl rfl rfl ?_
          refine Seq.val (Runs.addI rfl rfl rfl (by omega) (by omega)) rfl rfl rfl ?_
          refine Seq.val (Runs.assign rfl rfl) rfl rfl rfl ?_
          refine Seq.nil ?_
          refine Post.weak (F' := [(1, _), (9, _), (10, _), (11, _), (15, _), (16, _), (17, _), (111, _), (134, _)]) ⟨rfl, rfl, rfl, rfl, rfl, rfl, rfl, rfl, rfl, trivial⟩ ?_
          rw [if_pos ⟨hgf, .inl hneg⟩] at hps
          exact Post.round (k + 1) ⟨rfl, rfl, rfl, rfl, rfl, congrArg (fun x => some (Value.int .i64 x)) hps.symm, rfl, trivial⟩ ⟨by omega, bel, k51, k54, hrs, k103⟩ (by omega)
        · obtain ⟨c, hcl, hpc⟩ : ∃ c : Nat, c < i ∧ pickTo got r k = (c : Int) := by
            rcases pickTo_spec got r k with ⟨h1, _⟩ | ⟨c, h1, h2, _⟩
            · omega
            · exact ⟨c, by omega, h2⟩
          obtain ⟨mk, hmk, huk⟩ := hrs.mag k (by omega)
          obtain ⟨mc, hmc, huc⟩ := hrs.mag c hcl
          rw [hpc, Int.toNat_natCast] at hps
          refine Dr.valG Grow.refl rfl (fun w hG => (Runs.lss rfl rfl rfl).isF (hneg)) rfl rfl rfl ?_
          refine Dr.valG Grow.refl rfl (fun w hG => Runs.move rfl rfl) rfl rfl rfl ?_
          refine Dr.valG Grow.refl rfl (fun w hG => Runs.move rfl rfl) rfl rfl rfl ?_
          refine Dr.valG Grow.refl rfl (fun w hG => Runs.move rfl rfl) rfl rfl rfl ?_
          refine Dr.valG Grow.refl rfl (fun w hG => Runs.indexBN rfl rfl rfl Try.underlying73 (s := 2) (by kernel_rfl) (j := k) rfl (by omega)) rfl rfl rfl ?_
          refine Dr.valG Grow.refl rfl (fun w hG => Runs.loadP rfl rfl Try.underlying31 rfl (k54.step hG) (m := 2) (by kernel_rfl) rfl (pairs_hp hmk)) rfl rfl rfl ?_
          refine Dr.valG Grow.refl rfl (fun w hG => Runs.move rfl rfl) rfl rfl rfl ?_
          refine Dr.valG Grow.refl rfl (fun w hG => Runs.move rfl rfl) rfl rfl rfl ?_
          refine Dr.valG Grow.refl rfl (fun w hG => Runs.indexBN rfl rfl rfl Try.underlying73 (s := 2) (by kernel_rfl) (j := c) hpc (by omega)) rfl rfl rfl ?_
          refine Dr.valG Grow.refl rfl (fun w hG => Runs.loadP rfl rfl Try.underlying31 rfl (k54.step hG) (m := 2) (by kernel_rfl) rfl (pairs_hp hmc)) rfl rfl rfl ?_
          refine Dr.callVG rfl (fun w => Enters.func rfl rfl rfl (run_enter Try.func30 (by kernel_rfl) rfl)) rfl rfl rfl (fun w hG => cmpB_grow _ _ (r.getD k 0 : Int) (r.getD c 0 : Int) _ (huk.step hG).big (huc.step hG).big (by rw [Int.natAbs_natCast]; exact hrl k) (by rw [Int.natAbs_natCast]; exact hrl c)) ?_
          refine Dr.valG Grow.refl rfl (fun w hG => Runs.gtr rfl rfl rfl) rfl rfl rfl ?_
          refine Dr.valG Grow.refl rfl (fun w hG => Runs.pickF rfl rfl rfl) rfl rfl rfl ?_
          refine Dr.val Grow.refl rfl (fun w hG => Runs.pickT rfl rfl rfl) rfl ?_
          refine Dr.nil ?_
          refine FinX.done (F' := [(1, _), (9, _), (10, _), (11, _), (15, _), (16, _), (17, _), (111, _), (134, _)]) rfl ⟨rfl, rfl, rfl, rfl, rfl, rfl, rfl, rfl, rfl, trivial⟩ ?_
          intro w7 hw7 fw7
          replace bel := bel.step hw7
          replace k51 := k51.step hw7
          replace k54 := k54.step hw7
          replace hrs := hrs.step hw7
          replace k103 := k103.step hw7
          refine Seq.nil ?_
          refine Post.weak (F' := [(1, _), (9, _), (10, _), (11, _), (15, _), (16, _), (17, _), (111, _), (134, _)]) ⟨rfl, rfl, rfl, rfl, rfl, rfl, rfl, rfl, rfl, trivial⟩ ?_
          refine Post.then_ ?_
          refine Cd.condD rfl (fun hlt => ?_) (fun hlt => ?_)
          · rw [cmpZ_gt] at hlt
            rw [if_pos ⟨hgf, .inr (by omega)⟩] at hps
            refine Cd.region ?_
            refine Seq.val (Runs.move rfl rfl) rfl rfl rfl ?_
            refine Seq.val (Runs.assign rfl rfl) rfl rfl rfl ?_
            refine Seq.nil ?_
            refine Post.weak (F' := [(1, _), (9, _), (10, _), (11, _), (15, _), (16, _), (17, _), (111, _), (134, _)]) ⟨rfl, rfl, rfl, rfl, rfl, rfl, rfl, rfl, rfl, trivial⟩ ?_
            refine Post.block_normal ?_
            refine Post.then_ ?_
            refine Cd.region ?_
            refine Seq.val (Runs.move rfl rfl) rfl rfl rfl ?_
            refine Seq.val (Runs.addI rfl rfl rfl (by omega) (by omega)) rfl rfl rfl ?_
            refine Seq.val (Runs.assign rfl rfl) rfl rfl rfl ?_
            refine Seq.nil ?_
            refine Post.weak (F' := [(1, _), (9, _), (10, _), (11, _), (15, _), (16, _), (17, _), (111, _), (134, _)]) ⟨rfl, rfl, rfl, rfl, rfl, rfl, rfl, rfl, rfl, trivial⟩ ?_
            exact Post.round (k + 1) ⟨rfl, rfl, rfl, rfl, rfl, congrArg (fun x => some (Value.int .i64 x)) hps.symm, rfl, trivial⟩ ⟨by omega, bel, k51, k54, hrs, k103⟩ (by omega)
          · rw [cmpZ_gt] at hlt
            rw [if_neg (by rintro ⟨_, h | h⟩ <;> omega), ← hpc] at hps
            refine Cd.skip ?_
            refine Post.block_normal ?_
            refine Post.then_ ?_
            refine Cd.region ?_
            refine Seq.val (Runs.move rfl rfl) rfl rfl rfl ?_
            refine Seq.val (Runs.addI rfl rfl rfl (by omega) (by omega)) rfl rfl rfl ?_
            refine Seq.val (Runs.assign rfl rfl) rfl rfl rfl ?_
            refine Seq.nil ?_
            refine Post.weak (F' := [(1, _), (9, _), (10, _), (11, _), (15, _), (16, _), (17, _), (111, _), (134, _)]) ⟨rfl, rfl, rfl, rfl, rfl, rfl, rfl, rfl, rfl, trivial⟩ ?_
            exact Post.round (k + 1) ⟨rfl, rfl, rfl, rfl, rfl, congrArg (fun x => some (Value.int .i64 x)) hps.symm, rfl, trivial⟩ ⟨by omega, bel, k51, k54, hrs, k103⟩ (by omega)
    · obtain rfl : k = i := by omega
      rw [hpb]
      refine Cd.exit ?_
      refine Post.then_exit ?_
      refine Post.round_exit ?_
      refine Post.block_exit ?_
      refine Post.then_ ?_
      refine Cd.seq ?_
      refine Cd.seq ?_
      refine Cd.region ?_
      refine Seq.val (Runs.move rfl rfl) rfl rfl rfl ?_
      refine Seq.val (Runs.lss rfl rfl rfl) rfl rfl rfl ?_
      refine Seq.nil ?_
      refine Post.weak (F' := [(1, _), (9, _), (10, _), (11, _), (15, _), (16, _), (17, _), (111, _), (137, _)]) ⟨rfl, rfl, rfl, rfl, rfl, rfl, rfl, rfl, rfl, trivial⟩ ?_
      refine Post.then_ ?_
      refine Cd.condF rfl (decide_eq_false (by omega)) ?_
      refine Cd.skip ?_
      refine Post.then_ ?_
      refine Cd.seq ?_
      refine Cd.region ?_
      refine Seq.val (Runs.move rfl rfl) rfl rfl rfl ?_
      refine Seq.val (Runs.move rfl rfl) rfl rfl rfl ?_
      refine Seq.val (Runs.indexB rfl rfl rfl Try.underlying74 (by kernel_rfl) (j := b) rfl (by omega)) rfl rfl rfl ?_
      refine Seq.store1 rfl rfl rfl (by kernel_rfl) rfl rfl k103 (bool_at (by omega)) rfl rfl ?_
      intro w6 pw6
      replace bel := bel.put k103 pw6 e103
      replace k51 := k51.put pw6 (by omega)
      replace k54 := k54.put pw6 (by omega)
      replace hrs := hrs.put k103 pw6 e103
      replace k103 := pw6.blk
      rw [bool_set, ← hgo] at k103
      refine Seq.nil ?_
      refine Post.weak (F' := [(1, _), (9, _), (10, _), (11, _), (15, _), (16, _), (17, _), (111, _), (137, _)]) ⟨rfl, rfl, rfl, rfl, rfl, rfl, rfl, rfl, rfl, trivial⟩ ?_
      refine Post.then_ ?_
      refine Cd.region ?_
      refine Seq.val (Runs.move rfl rfl) rfl rfl rfl ?_
      refine Seq.val (Runs.move rfl rfl) rfl rfl rfl ?_
      refine Seq.val (Runs.indexB rfl rfl rfl Try.underlying26 (by kernel_rfl) (j := b) rfl (by omega)) rfl rfl rfl ?_
      refine Seq.val (Runs.loadB rfl rfl Try.underlying2 rfl k51 (I_getD (by omega))) rfl rfl rfl ?_
      refine Seq.val (Runs.addI rfl rfl rfl (by omega) (by omega)) rfl rfl rfl ?_
      refine Seq.val (Runs.indexB rfl rfl rfl Try.underlying26 (by kernel_rfl) (j := b) rfl (by omega)) rfl rfl rfl ?_
      refine Seq.store1 rfl rfl rfl (by kernel_rfl) rfl rfl k51 (I_getD (by omega)) rfl rfl ?_
      intro w7 pw7
      replace bel := bel.put k51 pw7 e51
      replace k54 := k54.put pw7 (by omega)
      replace hrs := hrs.put k51 pw7 e51
      replace k103 := k103.put pw7 (by omega)
      replace k51 := pw7.blk
      rw [I_set] at k51
      refine Seq.nil ?_
      refine Post.weak (F' := [(1, _), (9, _), (10, _), (11, _), (15, _), (16, _), (17, _), (111, _), (137, _)]) ⟨rfl, rfl, rfl, rfl, rfl, rfl, rfl, rfl, rfl, trivial⟩ ?_
      refine Post.block_normal ?_
      refine Post.then_ ?_
      refine Cd.region ?_
      refine Seq.val (Runs.move rfl rfl) rfl rfl rfl ?_
      refine Seq.val (Runs.subI rfl rfl rfl (by omega) (by omega)) rfl rfl rfl ?_
      refine Seq.val (Runs.assign rfl rfl) rfl rfl rfl ?_
      refine Seq.nil ?_
      refine Post.weak (F' := [(1, _), (9, _), (10, _), (11, _), (15, _), (16, _), (17, _), (111, _), (137, _)]) ⟨rfl, rfl, rfl, rfl, rfl, rfl, rfl, rfl, rfl, trivial⟩ ?_
      rw [show (leftOf t l : Int) - (m : Int) - 1 = (leftOf t l : Int) - ((m + 1 : Nat) : Int) by omega]
      exact Post.round (m + 1) ⟨rfl, rfl, rfl, rfl, rfl, trivial⟩ ⟨by omega, bel, by rw [hgs]; exact k51, k54, hrs, k103⟩ (by omega)
  · obtain rfl : m = leftOf t l := by omega
    refine Cd.exit ?_
    refine Post.then_exit ?_
    refine Post.round_exit ?_
    refine Post.block_exit ?_
    refine Post.then_ ?_
    refine Cd.seq ?_
    refine Cd.region ?_
    refine Seq.val (Runs.move rfl rfl) rfl rfl rfl ?_
    refine Seq.val (Runs.assign rfl rfl) rfl rfl rfl ?_
    refine Seq.val (Runs.assign rfl rfl) rfl rfl rfl ?_
    refine Seq.nil ?_
    refine Post.weak (F' := [(1, _), (4, _), (5, _), (9, _), (10, _), (11, _), (15, _), (105, _)]) ⟨rfl, rfl, rfl, rfl, rfl, rfl, rfl, rfl, trivial⟩ ?_
    refine Post.then_ ?_
    refine Cd.ret ?_
    refine Post.end2 rfl rfl rfl (.inl rfl) ?_
    exact ⟨bel, .inr ⟨hyes, g51, rfl, k51, by omega⟩⟩
end Go.Proofs.Ytpdeihienkbeeaa

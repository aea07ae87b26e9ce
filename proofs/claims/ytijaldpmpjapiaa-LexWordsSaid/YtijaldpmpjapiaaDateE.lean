/-
  debentureref02's Parse: what it answers. Condition: the text is within reach.
-/
import Derived.Test.YtijaldpmpjapiaaDateD
namespace Go.Proofs.Ytijaldpmpjapiaa
open Go.RowKit

def DI (l : List Int) : List Value := l.map fun z => .int .i64 z
theorem DI_at {l : List Int} {j : Nat} (h : j < l.length) : (DI l).toArray[j]? = some (.int .i64 (l.getD j 0)) := by simp [DI, List.getD_eq_getElem?_getD, List.getElem?_eq_getElem h]
theorem DI_set (l : List Int) (j : Nat) (d : Int) : (DI l).toArray.setIfInBounds j (.int .i64 d) = (DI (l.set j d)).toArray := by
  apply Array.ext'
  simp [DI, List.map_set]
theorem rawV_bd (l : List Nat) (hl : ∀ x ∈ l, x < 256) (h : l.length ≤ 4) : -100000000 ≤ rawV l ∧ rawV l ≤ 100000000 := by
  rcases l with _ | ⟨c0, _ | ⟨c1, _ | ⟨c2, _ | ⟨c3, _ | ⟨x, l⟩⟩⟩⟩⟩ <;> simp at h hl <;> simp [rawV] <;> omega
theorem refDayParse_any (l : List Nat) (w : World) (hl : ∀ x ∈ l, x < 256) (hlen : l.length ≤ 9223372036854775807) : Calls Try.prog 52 #[.string (strOf l)] w fun e w' => e = .returned (.int .i64 (if dateOk l then dateZ l else -1)) ∧ Grow w w' := by
  have bel := Below.refl w.heap.size w
  refine Calls.start 58 Try.func52 rfl rfl rfl ?_
  refine Cd.seq ?_
  refine Cd.region ?_
  refine Seq.val (Runs.assign rfl rfl) rfl rfl rfl ?_
  refine Seq.nil ?_
  refine Post.weak (F' := [(0, _), (2, _)]) ⟨rfl, rfl, trivial⟩ ?_
  refine Post.then_ ?_
  refine Cd.seq ?_
  refine Cd.seq ?_
  refine Cd.region ?_
  refine Seq.val (Runs.move rfl rfl) rfl rfl rfl ?_
  refine Seq.val (Runs.lenL rfl rfl Try.underlying9) rfl rfl rfl ?_
  refine Seq.val (Runs.neqI rfl rfl rfl) rfl rfl rfl ?_
  refine Seq.nil ?_
  refine Post.weak (F' := [(0, _), (2, _), (9, _)]) ⟨rfl, rfl, rfl, trivial⟩ ?_
  refine Post.then_ ?_
  refine Cd.cond rfl (fun h => ?_) (fun h => ?_)
  · have hno : dateOk l = false := by
      unfold dateOk
      rw [decide_eq_false (by simp at h; omega)]
      rfl
    refine Cd.seq ?_
    refine Cd.region ?_
    refine Seq.val (Runs.assign rfl rfl) rfl rfl rfl ?_
    refine Seq.nil ?_
    refine Post.weak (F' := [(0, _), (2, _), (9, _)]) ⟨rfl, rfl, rfl, trivial⟩ ?_
    refine Post.then_ ?_
    refine Cd.ret ?_
    refine Post.then_ret ?_
    refine Post.end1 rfl rfl (.inl rfl) ?_
    exact ⟨ret1 (int_eq (by rw [hno]; rfl)), bel⟩
  have h10 : l.length = 10 := by simp at h; omega
  clear h
  have hlaw := day_law l h10
  have hten := rawS_ten l h10
  refine Cd.skip ?_
  refine Post.then_ ?_
  refine Cd.seq ?_
  refine Cd.region ?_
  refine Seq.slice (vs := [_, _, _]) (s := 1) rfl rfl rfl Try.underlying26 (by kernel_rfl) (zero_int) (by omega) (by omega) ⟨rfl, rfl, rfl, trivial⟩ rfl rfl rfl ?_
  intro g10 w1 n10
  have e10 := Nat.le_trans bel.size n10.ge
  replace bel := bel.step n10.below
  have k10 := n10.blk
  refine Seq.val (Runs.assign rfl rfl) rfl rfl rfl ?_
  refine Seq.nil ?_
  refine Post.weak (F' := [(0, _), (2, _), (3, _), (9, _)]) ⟨rfl, rfl, rfl, rfl, trivial⟩ ?_
  refine Post.then_ ?_
  refine Cd.seq ?_
  refine Cd.seq ?_
  refine Cd.region ?_
  refine Seq.val (Runs.assign rfl rfl) rfl rfl rfl ?_
  refine Seq.nil ?_
  refine Post.weak (F' := [(0, _), (2, _), (3, _), (4, _), (9, _)]) ⟨rfl, rfl, rfl, rfl, rfl, trivial⟩ ?_
  refine Post.then_ ?_
  refine Cd.block ?_
  have hk0 : Blk w1 g10 3 (DI (rawS l 0)).toArray := k10
  refine Cd.loop (σ := Nat) (fun k => [(0, .string (strOf l)), (3, .slice (some ⟨g10, 0, none⟩) 3 3), (4, .int .i64 (k : Int))])
    (fun k wr => k ≤ 10 ∧ Below w.heap.size w wr ∧ Blk wr g10 3 (DI (rawS l k)).toArray) (fun k => 10 - k) 0 ⟨by omega, bel, hk0⟩ ⟨rfl, rfl, rfl, trivial⟩ ?_
  clear hk0
  clear bel k10
  rintro k wr ⟨hk, bel, k10⟩
  have hrl := rawS_len l k
  have hrb := rawS_bd l hl k
  have hP : (10 : Int) ^ k ≤ 10 ^ 10 := by
    have : (10 : Nat) ^ k ≤ 10 ^ 10 := Nat.pow_le_pow_right (by omega) hk
    have e : ((10 ^ k : Nat) : Int) = (10 : Int) ^ k := by simp
    omega
  have hi3 : idxD k < 3 := by unfold idxD; split; omega; split <;> omega
  refine Cd.seq ?_
  refine Cd.seq ?_
  refine Cd.region ?_
  refine Seq.val (Runs.move rfl rfl) rfl rfl rfl ?_
  refine Seq.val (Runs.lss rfl rfl rfl) rfl rfl rfl ?_
  refine Seq.nil ?_
  refine Post.weak (F' := [(0, _), (3, _), (4, _), (12, _)]) ⟨rfl, rfl, rfl, rfl, trivial⟩ ?_
  refine Post.then_ ?_
  refine Cd.condD rfl (fun hc => ?_) (fun hc => ?_)
  · obtain ⟨c, hc⟩ : ∃ c, l[k]? = some c := ⟨_, List.getElem?_eq_getElem (show k < l.length by omega)⟩
    have hc256 := hl c (List.mem_of_getElem? hc)
    have hst : rawS l (k + 1) = if k = 4 ∨ k = 7 then rawS l k else (rawS l k).set (idxD k) (10 * (rawS l k).getD (idxD k) 0 + (c : Int) - 48) := by
      rw [rawS, List.getD_eq_getElem?_getD (l := l), hc]; rfl
    have hx : (DI (rawS l k)).toArray[idxD k]? = some (.int .i64 ((rawS l k).getD (idxD k) 0)) := DI_at (by omega)
    have hxm : (rawS l k).getD (idxD k) 0 ∈ rawS l k := by
      rw [List.getD_eq_getElem?_getD, List.getElem?_eq_getElem (by omega)]
      exact List.getElem_mem (by omega)
    have hxb := hrb _ hxm
    generalize (rawS l k).getD (idxD k) 0 = x at *
    refine Cd.skip ?_
    refine Post.then_ ?_
    refine Cd.seq ?_
    refine Cd.block ?_
    refine Cd.seq ?_
    refine Cd.region ?_
    refine Seq.val (Runs.assign rfl rfl) rfl rfl rfl ?_
    refine Seq.nil ?_
    refine Post.weak (F' := [(0, _), (3, _), (4, _), (5, _), (12, _)]) ⟨rfl, rfl, rfl, rfl, rfl, trivial⟩ ?_
    refine Post.then_ ?_
    refine Cd.seqJ (σ := Unit) (fun _ => [(0, .string (strOf l)), (3, .slice (some ⟨g10, 0, none⟩) 3 3), (4, .int .i64 (k : Int)), (5, .int .i64 (if 4 < k then 1 else 0))]) (fun _ wr' => Below w.heap.size w wr' ∧ Blk wr' g10 3 (DI (rawS l k)).toArray) ?_ ?_
    · skip
      refine Cd.seq ?_
      refine Cd.region ?_
      refine Seq.val (Runs.move rfl rfl) rfl rfl rfl ?_
      refine Seq.val (Runs.gtr rfl rfl rfl) rfl rfl rfl ?_
      refine Seq.nil ?_
      refine Post.weak (F' := [(0, _), (3, _), (4, _), (5, _), (12, _), (16, _)]) ⟨rfl, rfl, rfl, rfl, rfl, rfl, trivial⟩ ?_
      refine Post.then_ ?_
      refine Cd.condD rfl (fun hc => ?_) (fun hc => ?_)
      · skip
        refine Cd.region ?_
        refine Seq.val (Runs.assign rfl rfl) rfl rfl rfl ?_
        refine Seq.nil ?_
        refine Post.weak (F' := [(0, _), (3, _), (4, _), (5, _), (12, _), (16, _)]) ⟨rfl, rfl, rfl, rfl, rfl, rfl, trivial⟩ ?_
        exact Post.join () ⟨rfl, rfl, rfl, congrArg (fun x : Int => some (Value.int .i64 x)) (by rw [if_pos (by omega)]), trivial⟩ ⟨bel, k10⟩
      · skip
        refine Cd.skip ?_
        exact Post.join () ⟨rfl, rfl, rfl, congrArg (fun x : Int => some (Value.int .i64 x)) (by rw [if_neg (by omega)]), trivial⟩ ⟨bel, k10⟩
    clear bel k10
    rintro ⟨⟩ wr ⟨bel, k10⟩
    refine Cd.seqJ (σ := Unit) (fun _ => [(0, .string (strOf l)), (3, .slice (some ⟨g10, 0, none⟩) 3 3), (4, .int .i64 (k : Int)), (5, .int .i64 (idxD k : Int))]) (fun _ wr' => Below w.heap.size w wr' ∧ Blk wr' g10 3 (DI (rawS l k)).toArray) ?_ ?_
    · skip
      refine Cd.seq ?_
      refine Cd.region ?_
      refine Seq.val (Runs.move rfl rfl) rfl rfl rfl ?_
      refine Seq.val (Runs.gtr rfl rfl rfl) rfl rfl rfl ?_
      refine Seq.nil ?_
      refine Post.weak (F' := [(0, _), (3, _), (4, _), (5, _), (18, _)]) ⟨rfl, rfl, rfl, rfl, rfl, trivial⟩ ?_
      refine Post.then_ ?_
      refine Cd.condD rfl (fun hc => ?_) (fun hc => ?_)
      · skip
        refine Cd.region ?_
        refine Seq.val (Runs.assign rfl rfl) rfl rfl rfl ?_
        refine Seq.nil ?_
        refine Post.weak (F' := [(0, _), (3, _), (4, _), (5, _), (18, _)]) ⟨rfl, rfl, rfl, rfl, rfl, trivial⟩ ?_
        exact Post.join () ⟨rfl, rfl, rfl, congrArg (fun x : Int => some (Value.int .i64 x)) (by unfold idxD; (repeat' split) <;> omega), trivial⟩ ⟨bel, k10⟩
      · skip
        refine Cd.skip ?_
        exact Post.join () ⟨rfl, rfl, rfl, congrArg (fun x : Int => some (Value.int .i64 x)) (by unfold idxD; (repeat' split) <;> omega), trivial⟩ ⟨bel, k10⟩
    clear bel k10
    rintro ⟨⟩ wr ⟨bel, k10⟩
    generalize idxD k = J at *
    refine Cd.seq ?_
    refine Cd.region ?_
    refine Seq.val (Runs.move rfl rfl) rfl rfl rfl ?_
    refine Seq.val (Runs.neqI rfl rfl rfl) rfl rfl rfl ?_
    refine Seq.val (Runs.move rfl rfl) rfl rfl rfl ?_
    refine SeqC.start ?_
    refine SeqC.open rfl rfl rfl rfl rfl rfl rfl (fun hcx => Runs.move rfl rfl) ?_
    refine SeqC.next rfl rfl rfl rfl rfl rfl rfl (fun hcx => Runs.neqI rfl rfl rfl) ?_
    refine SeqC.and rfl rfl rfl rfl rfl rfl rfl ?_
    refine Seq.nil ?_
    refine Post.weak (F' := [(0, _), (3, _), (4, _), (5, _), (24, _)]) ⟨rfl, rfl, rfl, rfl, rfl, trivial⟩ ?_
    refine Post.then_ ?_
    refine Cd.cond rfl (fun h => ?_) (fun h => ?_)
    · rw [if_neg (by simp at h; omega)] at hst
      clear h
      refine Cd.draw 14 (by kernel_rfl) [] (.inl rfl) rfl Grow Grow.refl (fun _ _ _ => Grow.trans) ?_
      intro w2 hw2 zw2
      replace bel := bel.step hw2
      replace k10 := k10.step hw2
      have zbel := bel.size
      have zlt := k10.lt
      refine Dr.val Grow.refl rfl (fun w hG => Runs.move rfl rfl) rfl ?_
      refine Dr.val Grow.refl rfl (fun w hG => Runs.move rfl rfl) rfl ?_
      refine Dr.val Grow.refl rfl (fun w hG => Runs.move rfl rfl) rfl ?_
      refine Dr.val Grow.refl rfl (fun w hG => Runs.move rfl rfl) rfl ?_
      refine Dr.val Grow.refl rfl (fun w hG => Runs.indexB rfl rfl rfl Try.underlying26 (by kernel_rfl) (j := J) (by omega) (by omega)) rfl ?_
      refine Dr.val Grow.refl rfl (fun w hG => Runs.loadB rfl rfl Try.underlying3 rfl (k10.step hG) hx) rfl ?_
      refine Dr.val Grow.refl rfl (fun w hG => Runs.mulI rfl rfl rfl (by omega) (by omega)) rfl ?_
      refine Dr.val Grow.refl rfl (fun w hG => Runs.move rfl rfl) rfl ?_
      refine Dr.val Grow.refl rfl (fun w hG => Runs.move rfl rfl) rfl ?_
      refine Dr.val Grow.refl rfl (fun w hG => Runs.indexL (l := l) (j := k) rfl rfl rfl Try.underlying9 rfl hc hc256) rfl ?_
      refine Dr.val Grow.refl rfl (fun w hG => Runs.convI rfl rfl Try.underlying5 Try.underlying3 (wrapI (by omega) (by omega))) rfl ?_
      refine Dr.val Grow.refl rfl (fun w hG => Runs.addI rfl rfl rfl (by omega) (by omega)) rfl ?_
      refine Dr.val Grow.refl rfl (fun w hG => Runs.subI rfl rfl rfl (by omega) (by omega)) rfl ?_
      refine Dr.val Grow.refl rfl (fun w hG => Runs.indexB rfl rfl rfl Try.underlying26 (by kernel_rfl) (j := J) (by omega) (by omega)) rfl ?_
      refine Dr.nil ?_
      refine FinX.done (F' := [(0, _), (3, _), (4, _), (5, _), (24, _), (37, _), (38, _)]) rfl ⟨rfl, rfl, rfl, rfl, rfl, rfl, rfl, trivial⟩ ?_
      intro w3 hw3 fw3
      replace bel := bel.step hw3
      replace k10 := k10.step hw3
      refine Seq.store1 rfl rfl rfl (by kernel_rfl) rfl rfl k10 (hx) rfl rfl ?_
      intro w4 pw4
      replace bel := bel.put k10 pw4 e10
      replace k10 := pw4.blk
      rw [DI_set] at k10
      refine Seq.nil ?_
      refine Post.weak (F' := [(0, _), (3, _), (4, _), (5, _), (24, _)]) ⟨rfl, rfl, rfl, rfl, rfl, trivial⟩ ?_
      refine Post.block_normal ?_
      refine Post.then_ ?_
      refine Cd.region ?_
      refine Seq.val (Runs.move rfl rfl) rfl rfl rfl ?_
      refine Seq.val (Runs.addI rfl rfl rfl (by omega) (by omega)) rfl rfl rfl ?_
      refine Seq.val (Runs.assign rfl rfl) rfl rfl rfl ?_
      refine Seq.nil ?_
      refine Post.weak (F' := [(0, _), (3, _), (4, _), (5, _), (24, _)]) ⟨rfl, rfl, rfl, rfl, rfl, trivial⟩ ?_
      exact Post.round (k + 1) ⟨rfl, rfl, rfl, trivial⟩ ⟨by omega, bel, by rw [hst]; exact k10⟩ (by omega)
    · rw [if_pos (by simp at h; omega)] at hst
      refine Cd.skip ?_
      refine Post.block_normal ?_
      refine Post.then_ ?_
      refine Cd.region ?_
      refine Seq.val (Runs.move rfl rfl) rfl rfl rfl ?_
      refine Seq.val (Runs.addI rfl rfl rfl (by omega) (by omega)) rfl rfl rfl ?_
      refine Seq.val (Runs.assign rfl rfl) rfl rfl rfl ?_
      refine Seq.nil ?_
      refine Post.weak (F' := [(0, _), (3, _), (4, _), (5, _), (24, _)]) ⟨rfl, rfl, rfl, rfl, rfl, trivial⟩ ?_
      exact Post.round (k + 1) ⟨rfl, rfl, rfl, trivial⟩ ⟨by omega, bel, by rw [hst]; exact k10⟩ (by omega)
  · obtain rfl : k = 10 := by omega
    clear hP hrb
    rw [hten] at k10
    clear hten hrl
    have hY := rawV_bd (l.take 4) (take_lt hl 4) (by rw [List.length_take]; omega)
    have hM := rawV_bd ((l.take 7).drop 5) (drop_lt (take_lt hl 7) 5) (by rw [List.length_drop, List.length_take]; omega)
    have hD := rawV_bd ((l.take 10).drop 8) (drop_lt (take_lt hl 10) 8) (by rw [List.length_drop, List.length_take]; omega)
    generalize rawV (l.take 4) = Y at *
    generalize rawV ((l.take 7).drop 5) = M at *
    generalize rawV ((l.take 10).drop 8) = D at *
    refine Cd.exit ?_
    refine Post.then_exit ?_
    refine Post.round_exit ?_
    refine Post.block_exit ?_
    refine Post.then_ ?_
    refine Cd.seq ?_
    refine Cd.weak (F' := [(0, _), (3, _), (4, _), (12, _)]) ⟨rfl, rfl, rfl, rfl, trivial⟩ ?_
    refine Cd.draw 11 (by kernel_rfl) [] (.inl rfl) rfl Grow Grow.refl (fun _ _ _ => Grow.trans) ?_
    intro w2 hw2 zw2
    replace bel := bel.step hw2
    replace k10 := k10.step hw2
    have zbel := bel.size
    have zlt := k10.lt
    refine Dr.val Grow.refl rfl (fun w hG => Runs.move rfl rfl) rfl ?_
    refine Dr.val Grow.refl rfl (fun w hG => Runs.indexB rfl rfl rfl Try.underlying26 (by kernel_rfl) (j := 0) rfl (by omega)) rfl ?_
    refine Dr.val Grow.refl rfl (fun w hG => Runs.loadB rfl rfl Try.underlying3 rfl (k10.step hG) rfl) rfl ?_
    refine Dr.val Grow.refl rfl (fun w hG => Runs.move rfl rfl) rfl ?_
    refine Dr.val Grow.refl rfl (fun w hG => Runs.indexB rfl rfl rfl Try.underlying26 (by kernel_rfl) (j := 1) rfl (by omega)) rfl ?_
    refine Dr.val Grow.refl rfl (fun w hG => Runs.loadB rfl rfl Try.underlying3 rfl (k10.step hG) rfl) rfl ?_
    refine Dr.val Grow.refl rfl (fun w hG => Runs.move rfl rfl) rfl ?_
    refine Dr.val Grow.refl rfl (fun w hG => Runs.indexB rfl rfl rfl Try.underlying26 (by kernel_rfl) (j := 2) rfl (by omega)) rfl ?_
    refine Dr.val Grow.refl rfl (fun w hG => Runs.loadB rfl rfl Try.underlying3 rfl (k10.step hG) rfl) rfl ?_
    refine Dr.callV rfl (fun w => Enters.func rfl rfl rfl (run_enter Try.func94 (by kernel_rfl) rfl)) rfl (fun w hG => refDayOf_any Y M D _ ⟨by omega, by omega⟩ ⟨by omega, by omega⟩ ⟨by omega, by omega⟩) ?_
    refine Dr.val Grow.refl rfl (fun w hG => Runs.assign rfl rfl) rfl ?_
    refine Dr.nil ?_
    refine FinX.done (F' := [(0, _), (3, _), (4, _), (6, _), (12, _)]) rfl ⟨rfl, rfl, rfl, rfl, rfl, trivial⟩ ?_
    intro w3 hw3 fw3
    replace bel := bel.step hw3
    replace k10 := k10.step hw3
    have hzn : ∃ n : Int, (if ofOk Y M D = true then ofZ Y M D else -1) = n ∧ -1 ≤ n ∧ n ≤ 2932896 ∧ (ofOk Y M D = true ∧ n = ofZ Y M D ∧ 0 ≤ n ∨ ofOk Y M D = false ∧ n < 0) := by
      cases ho : ofOk Y M D with
      | true =>
        obtain ⟨-, -, -, -, -, -, -, -, a, b⟩ := of_span ho
        exact ⟨_, rfl, by rw [if_pos rfl]; omega, by rw [if_pos rfl]; omega, .inl ⟨rfl, by rw [if_pos rfl], by rw [if_pos rfl]; omega⟩⟩
      | false => exact ⟨-1, rfl, by omega, by omega, .inr ⟨rfl, by omega⟩⟩
    obtain ⟨n, hn, hn1, hn2, hn3⟩ := hzn
    rw [hn]
    have hpr : ∀ W, 0 ≤ n → Calls Try.prog 47 #[.int .i64 n] W fun e w' => e = .returned (.string (strOf (printD Y.toNat M.toNat D.toNat))) ∧ Grow W w' := by
      intro W h
      rcases hn3 with ⟨h1, h2, -⟩ | ⟨-, h2⟩
      · rw [h2]; exact refDayPrint_any Y M D W h1
      · omega
    have hpl := printD_lt Y.toNat M.toNat D.toNat
    generalize printD Y.toNat M.toNat D.toNat = T at *
    refine Seq.nil ?_
    refine Post.weak (F' := [(0, _), (3, _), (4, _), (6, _), (12, _)]) ⟨rfl, rfl, rfl, rfl, rfl, trivial⟩ ?_
    refine Post.then_ ?_
    refine Cd.seq ?_
    refine Cd.seq ?_
    refine Cd.region ?_
    refine Seq.val (Runs.move rfl rfl) rfl rfl rfl ?_
    refine Seq.val (Runs.lss rfl rfl rfl) rfl rfl rfl ?_
    refine Seq.val (Runs.move rfl rfl) rfl rfl rfl ?_
    refine SeqC.start ?_
    refine SeqC.open rfl rfl rfl rfl rfl rfl rfl (fun hcx => Runs.move rfl rfl) ?_
    refine SeqC.nextC rfl rfl rfl rfl rfl rfl rfl (fun hcx => Enters.func rfl rfl rfl (run_enter Try.func47 (by kernel_rfl) rfl)) (fun hcx => hpr _ (by simp at hcx; omega)) ?_
    intro w4 hw4
    replace bel := bel.step hw4
    replace k10 := k10.step hw4
    refine SeqC.next rfl rfl rfl rfl rfl rfl rfl (fun hcx => Runs.move rfl rfl) ?_
    refine SeqC.next rfl rfl rfl rfl rfl rfl rfl (fun hcx => Runs.neqL (a := T) (b := l) rfl rfl rfl hpl hl) ?_
    refine SeqC.or rfl rfl rfl rfl rfl rfl rfl ?_
    refine Seq.nil ?_
    refine Post.weak (F' := [(0, _), (3, _), (4, _), (6, _), (12, _), (56, _)]) ⟨rfl, rfl, rfl, rfl, rfl, rfl, trivial⟩ ?_
    refine Post.then_ ?_
    refine Cd.cond rfl (fun h => ?_) (fun h => ?_)
    · have hno : dateOk l = false := by
        rw [Bool.eq_false_iff]
        intro h2
        obtain ⟨h3, h4⟩ := hlaw.1.1 h2
        simp at h
        rcases hn3 with ⟨-, -, h5⟩ | ⟨h5, -⟩
        · rcases h with h | h
          · omega
          · exact h h4
        · rw [h5] at h3; cases h3
      refine Cd.seq ?_
      refine Cd.region ?_
      refine Seq.val (Runs.assign rfl rfl) rfl rfl rfl ?_
      refine Seq.nil ?_
      refine Post.weak (F' := [(0, _), (2, _), (3, _), (4, _), (6, _), (12, _), (56, _)]) ⟨rfl, rfl, rfl, rfl, rfl, rfl, rfl, trivial⟩ ?_
      refine Post.then_ ?_
      refine Cd.ret ?_
      refine Post.then_ret ?_
      refine Post.end1 rfl rfl (.inl rfl) ?_
      exact ⟨ret1 (int_eq (by rw [hno]; rfl)), bel⟩
    · have hyes : dateOk l = true ∧ n = ofZ Y M D := by
        simp at h
        rcases hn3 with ⟨h5, h6, -⟩ | ⟨h5, h6⟩
        · exact ⟨hlaw.1.2 ⟨h5, h.2⟩, h6⟩
        · omega
      refine Cd.skip ?_
      refine Post.then_ ?_
      refine Cd.seq ?_
      refine Cd.region ?_
      refine Seq.val (Runs.move rfl rfl) rfl rfl rfl ?_
      refine Seq.val (Runs.assign rfl rfl) rfl rfl rfl ?_
      refine Seq.nil ?_
      refine Post.weak (F' := [(0, _), (2, _), (3, _), (4, _), (6, _), (12, _), (56, _)]) ⟨rfl, rfl, rfl, rfl, rfl, rfl, rfl, trivial⟩ ?_
      refine Post.then_ ?_
      refine Cd.ret ?_
      refine Post.end1 rfl rfl (.inl rfl) ?_
      exact ⟨ret1 (int_eq (by rw [if_pos hyes.1, hlaw.2 hyes.1]; exact hyes.2)), bel⟩
end Go.Proofs.Ytijaldpmpjapiaa

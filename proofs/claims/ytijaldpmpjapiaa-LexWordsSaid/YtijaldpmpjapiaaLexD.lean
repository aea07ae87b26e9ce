/-
  date.Parse: what it answers. Condition: the text is within reach.
-/
import Derived.Test.YtijaldpmpjapiaaLexC
namespace Go.Proofs.Ytijaldpmpjapiaa
open Go.RowKit

/-- The number of digits; -1: they are none. -/
def numZ (l : List Nat) : Int := if l.all digB then (valD l : Int) else -1
theorem numZ_bd (l : List Nat) (h : l.length ≤ 4) : -1 ≤ numZ l ∧ numZ l ≤ 9999 := by
  unfold numZ
  split
  · rename_i ha
    have := valD_lt l (fun c hc => by
      have := List.all_eq_true.1 ha c hc
      unfold digB at this
      simp at this
      exact this)
    have h2 : 10 ^ l.length ≤ 10 ^ 4 := Nat.pow_le_pow_right (by omega) h
    omega
  · omega
theorem numZ_bd2 (l : List Nat) (h : l.length ≤ 2) : -1 ≤ numZ l ∧ numZ l ≤ 99 := by
  unfold numZ
  split
  · rename_i ha
    have := valD_lt l (fun c hc => by
      have := List.all_eq_true.1 ha c hc
      unfold digB at this
      simp at this
      exact this)
    have h2 : 10 ^ l.length ≤ 10 ^ 2 := Nat.pow_le_pow_right (by omega) h
    omega
  · omega
theorem datePart_any (g : Nat) (l : List Nat) (i j : Nat) (w : World) (hl : ∀ x ∈ l, x < 256) (hg : Blk w g 9 #[.string (strOf l)]) (hi : i ≤ j) (hj : j ≤ l.length) (h4 : j ≤ i + 4) :
    Calls Try.prog 159 #[.int .i64 (i : Int), .int .i64 (j : Int), .pointer (some ⟨g, 0, none⟩)] w fun e w' => e = .returned (.int .i64 (numZ ((l.take j).drop i))) ∧ Grow w w' := by
  have bel := Below.refl w.heap.size w
  have hll : l.length ≤ 9223372036854775807 ∨ 9223372036854775807 < l.length := by omega
  have hM : ∀ x ∈ (l.take j).drop i, x < 256 := drop_lt (take_lt hl j) i
  have hMl : ((l.take j).drop i).length ≤ 4 := by rw [List.length_drop, List.length_take]; omega
  have kg := hg
  refine Calls.start 33 Try.func159 rfl rfl rfl ?_
  refine Cd.seq ?_
  refine Cd.region ?_
  refine Seq.val (Runs.assign rfl rfl) rfl rfl rfl ?_
  refine Seq.nil ?_
  refine Post.weak (F' := [(0, _), (1, _), (2, _), (5, _)]) ⟨rfl, rfl, rfl, rfl, trivial⟩ ?_
  refine Post.then_ ?_
  refine Cd.seq ?_
  refine Cd.region ?_
  refine Seq.val (Runs.assign rfl rfl) rfl rfl rfl ?_
  refine Seq.nil ?_
  refine Post.weak (F' := [(0, _), (1, _), (2, _), (5, _), (6, _)]) ⟨rfl, rfl, rfl, rfl, rfl, trivial⟩ ?_
  refine Post.then_ ?_
  refine Cd.seq ?_
  refine Cd.seq ?_
  refine Cd.region ?_
  refine Seq.val (Runs.loadB rfl rfl Try.underlying9 rfl kg rfl) rfl rfl rfl ?_
  refine Seq.val (Runs.move rfl rfl) rfl rfl rfl ?_
  refine Seq.val (Runs.move rfl rfl) rfl rfl rfl ?_
  refine Seq.val (Runs.sliceAtL (i := i) (j := j) rfl rfl rfl rfl Try.underlying9 rfl rfl hi hj) rfl rfl rfl ?_
  generalize (l.take j).drop i = M at *
  refine Seq.convSB rfl rfl Try.underlying9 Try.underlying108 Try.underlying5 hM rfl rfl rfl ?_
  intro g13 c13 w13 hc13 n13
  replace bel := bel.step n13.below
  have hrd13 := n13.reads
  have hB13 := n13.lt
  refine Seq.val (Runs.len rfl rfl Try.underlying108) rfl rfl rfl ?_
  refine Seq.val (Runs.move rfl rfl) rfl rfl rfl ?_
  refine Seq.nil ?_
  refine Post.weak (F' := [(0, _), (1, _), (2, _), (5, _), (6, _), (13, _), (14, _), (15, _)]) ⟨rfl, rfl, rfl, rfl, rfl, rfl, rfl, rfl, trivial⟩ ?_
  refine Post.then_ ?_
  refine Cd.block ?_
  refine Cd.loop (σ := Nat) (fun k => [(6, .int .i64 ((valD (M.take k) : Nat) : Int)), (13, .slice (some ⟨g13, 0, none⟩) M.length c13), (14, .int .i64 (M.length : Int)), (15, .int .i64 (k : Int))])
    (fun k wr => k ≤ M.length ∧ (∀ c ∈ M.take k, isDg c) ∧ Below w.heap.size w wr ∧ Below w13.heap.size w13 wr) (fun k => M.length - k) 0 ⟨by omega, by simp, bel, Below.refl _ _⟩ ⟨rfl, rfl, rfl, rfl, trivial⟩ ?_
  clear bel
  rintro k wr ⟨hk, hdg, bel, bl13⟩
  have hvl := valD_lt (M.take k) hdg
  rw [List.length_take, Nat.min_eq_left hk] at hvl
  have h10 : 10 ^ k ≤ 10 ^ 4 := Nat.pow_le_pow_right (by omega) (by omega)
  refine Cd.seq ?_
  refine Cd.region ?_
  refine Seq.val (Runs.lss rfl rfl rfl) rfl rfl rfl ?_
  refine Seq.nil ?_
  refine Post.weak (F' := [(6, _), (13, _), (14, _), (15, _), (16, _)]) ⟨rfl, rfl, rfl, rfl, rfl, trivial⟩ ?_
  refine Post.then_ ?_
  refine Cd.seq ?_
  refine Cd.condD rfl (fun hc => ?_) (fun hc => ?_)
  · obtain ⟨c, hcc⟩ : ∃ c, M[k]? = some c := ⟨_, List.getElem?_eq_getElem (show k < M.length by omega)⟩
    have hc256 := hM c (List.mem_of_getElem? hcc)
    have hcell : wr.cell? (Addr.add ⟨g13, 0, none⟩ k) = some (.int .u8 (c : Int)) := by
      obtain ⟨ad, e, hb, hcs⟩ := hrd13.2 (by omega)
      injection e with e
      subst e
      rw [bl13.cell (by rw [block_of_add]; exact hB13)]
      exact hcs k _ (by rw [get_Bt, hcc]; rfl)
    have htk : M.take (k + 1) = M.take k ++ [c] := by rw [List.take_add_one, hcc]; rfl
    have hvs : valD (M.take (k + 1)) = 10 * valD (M.take k) + (c - 48) := by rw [htk, valD_snoc]
    generalize hV : valD (M.take k) = V at *
    refine Cd.skip ?_
    refine Post.then_ ?_
    refine Cd.seq ?_
    refine Cd.block ?_
    refine Cd.seq ?_
    refine Cd.region ?_
    refine Seq.val (Runs.index1 rfl rfl rfl Try.underlying108 (by kernel_rfl) (j := k) rfl (by omega)) rfl rfl rfl ?_
    refine Seq.val (Runs.load1 rfl rfl Try.underlying5 rfl hcell) rfl rfl rfl ?_
    refine Seq.val (Runs.assign rfl rfl) rfl rfl rfl ?_
    refine Seq.nil ?_
    refine Post.weak (F' := [(6, _), (8, _), (13, _), (14, _), (15, _), (16, _)]) ⟨rfl, rfl, rfl, rfl, rfl, rfl, trivial⟩ ?_
    refine Post.then_ ?_
    refine Cd.seq ?_
    refine Cd.seq ?_
    refine Cd.region ?_
    refine Seq.val (Runs.move rfl rfl) rfl rfl rfl ?_
    refine Seq.val (Runs.lss rfl rfl rfl) rfl rfl rfl ?_
    refine Seq.val (Runs.move rfl rfl) rfl rfl rfl ?_
    refine SeqC.start ?_
    refine SeqC.open rfl rfl rfl rfl rfl rfl rfl (fun hcx => Runs.move rfl rfl) ?_
    refine SeqC.next rfl rfl rfl rfl rfl rfl rfl (fun hcx => Runs.gtr rfl rfl rfl) ?_
    refine SeqC.or rfl rfl rfl rfl rfl rfl rfl ?_
    refine Seq.nil ?_
    refine Post.weak (F' := [(6, _), (8, _), (13, _), (14, _), (15, _), (16, _), (24, _)]) ⟨rfl, rfl, rfl, rfl, rfl, rfl, rfl, trivial⟩ ?_
    refine Post.then_ ?_
    refine Cd.cond rfl (fun h => ?_) (fun h => ?_)
    · have hno : ¬ M.all digB = true := by
        intro ha
        have := List.all_eq_true.1 ha c (List.mem_of_getElem? hcc)
        unfold digB at this
        simp at this h
        omega
      refine Cd.seq ?_
      refine Cd.region ?_
      refine Seq.val (Runs.assign rfl rfl) rfl rfl rfl ?_
      refine Seq.nil ?_
      refine Post.weak (F' := [(5, _), (6, _), (8, _), (13, _), (14, _), (15, _), (16, _), (24, _)]) ⟨rfl, rfl, rfl, rfl, rfl, rfl, rfl, rfl, trivial⟩ ?_
      refine Post.then_ ?_
      refine Cd.ret ?_
      refine Post.then_ret ?_
      refine Post.block_ret ?_
      refine Post.then_ret ?_
      refine Post.round_ret ?_
      refine Post.block_ret ?_
      refine Post.then_ret ?_
      refine Post.end1 rfl rfl (.inl rfl) ?_
      exact ⟨ret1 (int_eq (by unfold numZ; rw [if_neg hno])), bel⟩
    · have hcd : isDg c := by unfold isDg; simp at h; omega
      have hcd2 := hcd
      unfold isDg at hcd2
      clear h
      refine Cd.skip ?_
      refine Post.then_ ?_
      refine Cd.region ?_
      refine Seq.val (Runs.move rfl rfl) rfl rfl rfl ?_
      refine Seq.val (Runs.mulI rfl rfl rfl (by omega) (by omega)) rfl rfl rfl ?_
      refine Seq.val (Runs.move rfl rfl) rfl rfl rfl ?_
      refine Seq.val (Runs.subW rfl rfl rfl (wrapB (by omega) (by omega))) rfl rfl rfl ?_
      refine Seq.val (Runs.convI rfl rfl Try.underlying5 Try.underlying3 (wrapI (by omega) (by omega))) rfl rfl rfl ?_
      refine Seq.val (Runs.addI rfl rfl rfl (by omega) (by omega)) rfl rfl rfl ?_
      refine Seq.val (Runs.assign rfl rfl) rfl rfl rfl ?_
      refine Seq.nil ?_
      refine Post.weak (F' := [(6, _), (8, _), (13, _), (14, _), (15, _), (16, _), (24, _)]) ⟨rfl, rfl, rfl, rfl, rfl, rfl, rfl, trivial⟩ ?_
      refine Post.block_normal ?_
      refine Post.then_ ?_
      refine Cd.region ?_
      refine Seq.val (Runs.addI rfl rfl rfl (by omega) (by omega)) rfl rfl rfl ?_
      refine Seq.val (Runs.move rfl rfl) rfl rfl rfl ?_
      refine Seq.nil ?_
      refine Post.weak (F' := [(6, _), (8, _), (13, _), (14, _), (15, _), (16, _), (24, _)]) ⟨rfl, rfl, rfl, rfl, rfl, rfl, rfl, trivial⟩ ?_
      refine Post.round (k + 1) ⟨congrArg (fun x => some (Value.int .i64 x)) (show (10 * (V : Int) + ((c : Int) - 48)) = ((valD (M.take (k + 1)) : Nat) : Int) by omega), rfl, rfl, rfl, trivial⟩ ⟨by omega, ?_, bel, bl13⟩ (by omega)
      intro x hx
      rw [htk] at hx
      rcases List.mem_append.1 hx with h | h
      · exact hdg x h
      · simp at h; subst h; exact hcd
  · obtain rfl : k = M.length := by omega
    rw [List.take_of_length_le (Nat.le_refl _)] at hdg ⊢
    have hall : M.all digB = true := by
      rw [List.all_eq_true]
      intro c hc
      have := hdg c hc
      unfold isDg at this
      unfold digB
      simp
      omega
    refine Cd.exit ?_
    refine Post.then_exit ?_
    refine Post.round_exit ?_
    refine Post.block_exit ?_
    refine Post.then_ ?_
    refine Cd.seq ?_
    refine Cd.region ?_
    refine Seq.val (Runs.move rfl rfl) rfl rfl rfl ?_
    refine Seq.val (Runs.assign rfl rfl) rfl rfl rfl ?_
    refine Seq.nil ?_
    refine Post.weak (F' := [(5, _), (6, _), (13, _), (14, _), (15, _), (16, _)]) ⟨rfl, rfl, rfl, rfl, rfl, rfl, trivial⟩ ?_
    refine Post.then_ ?_
    refine Cd.ret ?_
    refine Post.end1 rfl rfl (.inl rfl) ?_
    exact ⟨ret1 (int_eq (by unfold numZ; rw [if_pos hall])), bel⟩
theorem eg_datePart : ∀ args w, (callFunc 159 args).run Try.prog w = .ok (.enter 159 args) w := fun args w => run_enter Try.func159 (by kernel_rfl) rfl args w
/-- The day of a text. -/
def dateOk (l : List Nat) : Bool := decide (l.length = 10) && decide (l[4]? = some 45) && decide (l[7]? = some 45) && ofOk (numZ ((l.take 4).drop 0)) (numZ ((l.take 7).drop 5)) (numZ ((l.take 10).drop 8))
def dateZ (l : List Nat) : Int := if dateOk l then ofZ (numZ ((l.take 4).drop 0)) (numZ ((l.take 7).drop 5)) (numZ ((l.take 10).drop 8)) else 0
theorem dateParse_any (l : List Nat) (w : World) (hl : ∀ x ∈ l, x < 256) (hlen : l.length ≤ 9223372036854775807) :
    Calls Try.prog 136 #[.string (strOf l)] w fun e w' => e = .returned (.tuple #[.int .i64 (dateZ l), .bool (dateOk l)]) ∧ Grow w w' := by
  have bel := Below.refl w.heap.size w
  by_cases h10 : l.length = 10
  · obtain ⟨c4, h4⟩ : ∃ c, l[4]? = some c := ⟨_, List.getElem?_eq_getElem (by omega)⟩
    obtain ⟨c7, h7⟩ : ∃ c, l[7]? = some c := ⟨_, List.getElem?_eq_getElem (by omega)⟩
    have hc4 := hl c4 (List.mem_of_getElem? h4)
    have hc7 := hl c7 (List.mem_of_getElem? h7)
    refine Calls.start 28 Try.func136 rfl rfl rfl ?_
    refine Cd.seq ?_
    refine Cd.region ?_
    refine Seq.box rfl rfl rfl rfl rfl ?_
    intro g1 w1 n1
    have e1 := Nat.le_trans bel.size n1.ge
    replace bel := bel.step n1.below
    have k1 := n1.blk
    refine Seq.val (Runs.assign rfl rfl) rfl rfl rfl ?_
    refine Seq.val (Runs.assign rfl rfl) rfl rfl rfl ?_
    refine Seq.nil ?_
    refine Post.weak (F' := [(0, _), (1, _), (2, _), (3, _)]) ⟨rfl, rfl, rfl, rfl, trivial⟩ ?_
    refine Post.then_ ?_
    refine Cd.seq ?_
    refine Cd.seq ?_
    refine Cd.region ?_
    refine Seq.val (Runs.loadB rfl rfl Try.underlying9 rfl k1 rfl) rfl rfl rfl ?_
    refine Seq.val (Runs.lenL rfl rfl Try.underlying9) rfl rfl rfl ?_
    refine Seq.val (Runs.neqI rfl rfl rfl) rfl rfl rfl ?_
    refine Seq.val (Runs.move rfl rfl) rfl rfl rfl ?_
    refine SeqC.start ?_
    refine SeqC.open rfl rfl rfl rfl rfl rfl rfl (fun hcx => Runs.loadB rfl rfl Try.underlying9 rfl k1 rfl) ?_
    refine SeqC.next rfl rfl rfl rfl rfl rfl rfl (fun hcx => Runs.indexL (l := l) (j := 4) rfl rfl rfl Try.underlying9 rfl h4 hc4) ?_
    refine SeqC.next rfl rfl rfl rfl rfl rfl rfl (fun hcx => Runs.neqI rfl rfl rfl) ?_
    refine SeqC.or rfl rfl rfl rfl rfl rfl rfl ?_
    refine Seq.val (Runs.move rfl rfl) rfl rfl rfl ?_
    refine SeqC.start ?_
    refine SeqC.open rfl rfl rfl rfl rfl rfl rfl (fun hcx => Runs.loadB rfl rfl Try.underlying9 rfl k1 rfl) ?_
    refine SeqC.next rfl rfl rfl rfl rfl rfl rfl (fun hcx => Runs.indexL (l := l) (j := 7) rfl rfl rfl Try.underlying9 rfl h7 hc7) ?_
    refine SeqC.next rfl rfl rfl rfl rfl rfl rfl (fun hcx => Runs.neqI rfl rfl rfl) ?_
    refine SeqC.or rfl rfl rfl rfl rfl rfl rfl ?_
    refine Seq.nil ?_
    refine Post.weak (F' := [(0, _), (1, _), (2, _), (3, _), (17, _)]) ⟨rfl, rfl, rfl, rfl, rfl, trivial⟩ ?_
    refine Post.then_ ?_
    refine Cd.cond rfl (fun h => ?_) (fun h => ?_)
    · have hf : dateOk l = false := by
        rw [Bool.eq_false_iff]
        intro h2
        unfold dateOk at h2
        rw [h4, h7] at h2
        simp at h2 h
        omega
      have hz : dateZ l = 0 := by unfold dateZ; rw [hf]; rfl
      rw [hf, hz]
      refine Cd.seq ?_
      refine Cd.region ?_
      refine Seq.val (Runs.assign rfl rfl) rfl rfl rfl ?_
      refine Seq.val (Runs.assign rfl rfl) rfl rfl rfl ?_
      refine Seq.nil ?_
      refine Post.weak (F' := [(0, _), (1, _), (2, _), (3, _), (17, _)]) ⟨rfl, rfl, rfl, rfl, rfl, trivial⟩ ?_
      refine Post.then_ ?_
      refine Cd.ret ?_
      refine Post.then_ret ?_
      refine Post.end2 rfl rfl rfl (.inl rfl) ?_
      exact ⟨rfl, bel⟩
    · have h45 : c4 = 45 ∧ c7 = 45 := by simp at h; omega
      have hok : dateOk l = ofOk (numZ ((l.take 4).drop 0)) (numZ ((l.take 7).drop 5)) (numZ ((l.take 10).drop 8)) := by
        unfold dateOk
        rw [h4, h7, h45.1, h45.2, h10]
        simp
      unfold dateZ
      rw [hok]
      have d1 := numZ_bd ((l.take 4).drop 0) (by rw [List.length_drop, List.length_take]; omega)
      have d2 := numZ_bd2 ((l.take 7).drop 5) (by rw [List.length_drop, List.length_take]; omega)
      have d3 := numZ_bd2 ((l.take 10).drop 8) (by rw [List.length_drop, List.length_take]; omega)
      have p1 := fun w (k1 : Blk w g1 9 #[.string (strOf l)]) => datePart_any g1 l 0 4 w hl k1 (by omega) (by omega) (by omega)
      have p2 := fun w (k1 : Blk w g1 9 #[.string (strOf l)]) => datePart_any g1 l 5 7 w hl k1 (by omega) (by omega) (by omega)
      have p3 := fun w (k1 : Blk w g1 9 #[.string (strOf l)]) => datePart_any g1 l 8 10 w hl k1 (by omega) (by omega) (by omega)
      generalize numZ ((l.take 4).drop 0) = y at *
      generalize numZ ((l.take 7).drop 5) = m at *
      generalize numZ ((l.take 10).drop 8) = d at *
      refine Cd.skip ?_
      refine Post.then_ ?_
      refine Cd.seq ?_
      refine Cd.region ?_
      refine Seq.val (Runs.makeFunc rfl (show evL _ _ = some [] from rfl) (show evL _ _ = some [.pointer (some ⟨g1, 0, none⟩)] from rfl) rfl) rfl rfl rfl ?_
      refine Seq.val (Runs.assign rfl rfl) rfl rfl rfl ?_
      refine Seq.nil ?_
      refine Post.weak (F' := [(0, _), (1, _), (2, _), (3, _), (4, _), (17, _)]) ⟨rfl, rfl, rfl, rfl, rfl, rfl, trivial⟩ ?_
      refine Post.then_ ?_
      refine Cd.seq ?_
      refine Cd.region ?_
      refine Seq.val (Runs.move rfl rfl) rfl rfl rfl ?_
      refine Seq.call (Enters.value (first := []) (cap := [.pointer (some ⟨g1, 0, none⟩)]) rfl rfl rfl eg_datePart) rfl rfl rfl (p1 _ k1) ?_
      rintro e w5 ⟨rfl, hb5⟩
      refine ⟨_, rfl, ?_⟩
      replace bel := bel.step hb5
      replace k1 := k1.step hb5
      refine Seq.val (Runs.move rfl rfl) rfl rfl rfl ?_
      refine Seq.call (Enters.value (first := []) (cap := [.pointer (some ⟨g1, 0, none⟩)]) rfl rfl rfl eg_datePart) rfl rfl rfl (p2 _ k1) ?_
      rintro e w6 ⟨rfl, hb6⟩
      refine ⟨_, rfl, ?_⟩
      replace bel := bel.step hb6
      replace k1 := k1.step hb6
      refine Seq.val (Runs.move rfl rfl) rfl rfl rfl ?_
      refine Seq.call (Enters.value (first := []) (cap := [.pointer (some ⟨g1, 0, none⟩)]) rfl rfl rfl eg_datePart) rfl rfl rfl (p3 _ k1) ?_
      rintro e w7 ⟨rfl, hb7⟩
      refine ⟨_, rfl, ?_⟩
      replace bel := bel.step hb7
      replace k1 := k1.step hb7
      refine Seq.call (Enters.func rfl rfl rfl (run_enter Try.func160 (by kernel_rfl) rfl)) rfl rfl rfl (dateOf_any y m d _ (by unfold I64; omega) (by omega) (by unfold I64; omega)) ?_
      rintro e w8 ⟨rfl, hb8⟩
      refine ⟨_, rfl, ?_⟩
      replace bel := bel.step hb8
      replace k1 := k1.step hb8
      refine Seq.val (Runs.extract rfl rfl rfl) rfl rfl rfl ?_
      refine Seq.val (Runs.extract rfl rfl rfl) rfl rfl rfl ?_
      refine Seq.val (Runs.assign rfl rfl) rfl rfl rfl ?_
      refine Seq.val (Runs.assign rfl rfl) rfl rfl rfl ?_
      refine Seq.nil ?_
      refine Post.weak (F' := [(0, _), (1, _), (2, _), (3, _), (4, _), (17, _)]) ⟨rfl, rfl, rfl, rfl, rfl, rfl, trivial⟩ ?_
      refine Post.then_ ?_
      refine Cd.ret ?_
      refine Post.end2 rfl rfl rfl (.inl rfl) ?_
      exact ⟨rfl, bel⟩
  · have hf : dateOk l = false := by
      rw [Bool.eq_false_iff]
      intro h2
      unfold dateOk at h2
      simp [h10] at h2
    have hz : dateZ l = 0 := by unfold dateZ; rw [hf]; rfl
    rw [hf, hz]
    refine Calls.start 28 Try.func136 rfl rfl rfl ?_
    refine Cd.seq ?_
    refine Cd.region ?_
    refine Seq.box rfl rfl rfl rfl rfl ?_
    intro g1 w1 n1
    have e1 := Nat.le_trans bel.size n1.ge
    replace bel := bel.step n1.below
    have k1 := n1.blk
    refine Seq.val (Runs.assign rfl rfl) rfl rfl rfl ?_
    refine Seq.val (Runs.assign rfl rfl) rfl rfl rfl ?_
    refine Seq.nil ?_
    refine Post.weak (F' := [(0, _), (1, _), (2, _), (3, _)]) ⟨rfl, rfl, rfl, rfl, trivial⟩ ?_
    refine Post.then_ ?_
    refine Cd.seq ?_
    refine Cd.seq ?_
    refine Cd.region ?_
    refine Seq.val (Runs.loadB rfl rfl Try.underlying9 rfl k1 rfl) rfl rfl rfl ?_
    refine Seq.val (Runs.lenL rfl rfl Try.underlying9) rfl rfl rfl ?_
    refine Seq.val (Runs.neqI rfl rfl rfl) rfl rfl rfl ?_
    refine Seq.val (Runs.move rfl rfl) rfl rfl rfl ?_
    refine SeqC.start ?_
    refine SeqC.open rfl rfl rfl rfl rfl rfl rfl (fun hcx => Runs.loadB rfl rfl Try.underlying9 rfl k1 rfl) ?_
    refine SeqC.next rfl rfl rfl rfl rfl rfl rfl (fun hcx => (by exfalso; first | (simp [topX] at hcx; omega) | simp [topX] at hcx : Runs _ _ _ _ (.int .u8 0) _)) ?_
    refine SeqC.next rfl rfl rfl rfl rfl rfl rfl (fun hcx => Runs.neqI rfl rfl rfl) ?_
    refine SeqC.or rfl rfl rfl rfl rfl rfl rfl ?_
    refine Seq.val (Runs.move rfl rfl) rfl rfl rfl ?_
    refine SeqC.start ?_
    refine SeqC.open rfl rfl rfl rfl rfl rfl rfl (fun hcx => Runs.loadB rfl rfl Try.underlying9 rfl k1 rfl) ?_
    refine SeqC.next rfl rfl rfl rfl rfl rfl rfl (fun hcx => (by exfalso; first | (simp [topX] at hcx; omega) | simp [topX] at hcx : Runs _ _ _ _ (.int .u8 0) _)) ?_
    refine SeqC.next rfl rfl rfl rfl rfl rfl rfl (fun hcx => Runs.neqI rfl rfl rfl) ?_
    refine SeqC.or rfl rfl rfl rfl rfl rfl rfl ?_
    refine Seq.nil ?_
    refine Post.weak (F' := [(0, _), (1, _), (2, _), (3, _), (17, _)]) ⟨rfl, rfl, rfl, rfl, rfl, trivial⟩ ?_
    refine Post.then_ ?_
    refine Cd.condT rfl (by first | (simp; omega) | simp) ?_
    refine Cd.seq ?_
    refine Cd.region ?_
    refine Seq.val (Runs.assign rfl rfl) rfl rfl rfl ?_
    refine Seq.val (Runs.assign rfl rfl) rfl rfl rfl ?_
    refine Seq.nil ?_
    refine Post.weak (F' := [(0, _), (1, _), (2, _), (3, _), (17, _)]) ⟨rfl, rfl, rfl, rfl, rfl, trivial⟩ ?_
    refine Post.then_ ?_
    refine Cd.ret ?_
    refine Post.then_ret ?_
    refine Post.end2 rfl rfl rfl (.inl rfl) ?_
    exact ⟨rfl, bel⟩
end Go.Proofs.Ytijaldpmpjapiaa

/-
  debentureref12's Laid and Encode, edit.Encode: what each answers. Condition: the lists are within reach.
-/
import Derived.Test.YthnnephcohljeaaCodD
namespace Go.Proofs.Ythnnephcohljeaa
open Go.RowKit

theorem zero_debentureref12_File : zeroIs Try.prog 23 = some (some (.agg #[.int .i64 0, .int .i64 0, .string { data := #[] }, .string { data := #[] }, .int .i64 0, .int .i64 0])) := by kernel_rfl
theorem badF_iff (f : Fl) : badF f = decide (f.num < 0 ∨ f.level < 0 ∨ f.count < 0 ∨ f.size < 0 ∨ 80 < f.first.length ∨ 80 < f.last.length) := by
  unfold badF
  rw [← Bool.decide_or]
  exact decide_eq_decide.2 (by omega)
theorem laidB_iff (lg nx sq : Int) (drop : List Int) (add : List Fl) : laidB lg nx sq drop add = true ↔ (-1 ≤ lg ∧ -1 ≤ nx ∧ -1 ≤ sq ∧ drop.length ≤ 100 ∧ add.length ≤ 100 ∧ (∀ z ∈ drop, 0 ≤ z) ∧ ∀ f ∈ add, badF f = false) := by
  unfold laidB
  simp only [Bool.and_eq_true, decide_eq_true_eq, Bool.not_eq_true', List.any_eq_false]
  constructor
  · rintro ⟨⟨⟨h1, h2⟩, h3⟩, h4⟩
    exact ⟨by omega, by omega, by omega, by omega, by omega, fun z hz => by have := h4 z hz; simpa using this, fun f hf => by simpa using h3 f hf⟩
  · rintro ⟨h1, h2, h3, h4, h5, h6, h7⟩
    exact ⟨⟨⟨by omega, by omega⟩, fun f hf => by simp [h7 f hf]⟩, fun z hz => by simpa using h6 z hz⟩
theorem laidB_false {lg nx sq : Int} {drop : List Int} {add : List Fl} (h : ¬ (-1 ≤ lg ∧ -1 ≤ nx ∧ -1 ≤ sq ∧ drop.length ≤ 100 ∧ add.length ≤ 100 ∧ (∀ z ∈ drop, 0 ≤ z) ∧ ∀ f ∈ add, badF f = false)) : laidB lg nx sq drop add = false := by
  cases hl : laidB lg nx sq drop add with
  | false => rfl
  | true => exact absurd ((laidB_iff ..).1 hl) h
/-- An edit as a value. -/
def ev (lg nx sq : Int) (A : Option Addr) (n c : Nat) (A' : Option Addr) (n' c' : Nat) : Value := .agg #[.int .i64 lg, .int .i64 nx, .int .i64 sq, .slice A n c, .slice A' n' c']
theorem refLaid_any (lg nx sq : Int) (B : Nat) (A A' : Option Addr) (cap cap' : Nat) (drop : List Int) (add : List Fl) (w : World) (hr : Reads w B 1 A drop.length (DI drop)) (hr' : Reads w B 6 A' add.length (fcs add)) (hB : B ≤ w.heap.size) :
    Calls Try.prog 14 #[.agg #[.int .i64 lg, .int .i64 nx, .int .i64 sq, .slice A drop.length cap, .slice A' add.length cap']] w fun e w' => e = .returned (.bool (laidB lg nx sq drop add)) ∧ Grow w w' := by
  have bel := Below.refl w.heap.size w
  have hlf := fun h => laidB_false (lg := lg) (nx := nx) (sq := sq) (drop := drop) (add := add) h
  have hlt := fun h => (laidB_iff lg nx sq drop add).2 h
  generalize laidB lg nx sq drop add = q at *
  generalize hn : drop.length = n at *
  generalize hm : add.length = m at *
  refine Calls.start 86 Try.func14 rfl rfl rfl ?_
  refine Cd.seq ?_
  refine Cd.region ?_
  refine Seq.box rfl rfl rfl rfl rfl ?_
  intro g1 w1 n1
  have e1 := Nat.le_trans bel.size n1.ge
  replace bel := bel.step n1.below
  have k1 := n1.blk
  refine Seq.val (Runs.assign rfl rfl) rfl rfl rfl ?_
  refine Seq.nil ?_
  refine Post.weak (F' := [(0, _), (1, _), (2, _)]) ⟨rfl, rfl, rfl, trivial⟩ ?_
  refine Post.then_ ?_
  refine Cd.seq ?_
  refine Cd.seq ?_
  refine Cd.region ?_
  refine Seq.val (Runs.fieldB 0 rfl rfl Try.underlying32 rfl (by kernel_rfl)) rfl rfl rfl ?_
  refine Seq.val (Runs.loadB rfl rfl Try.underlying3 rfl k1 rfl) rfl rfl rfl ?_
  refine Seq.val (Runs.lss rfl rfl rfl) rfl rfl rfl ?_
  refine Seq.val (Runs.move rfl rfl) rfl rfl rfl ?_
  refine SeqC.start ?_
  refine SeqC.open rfl rfl rfl rfl rfl rfl rfl (fun hcx => Runs.fieldB 1 rfl rfl Try.underlying32 rfl (by kernel_rfl)) ?_
  refine SeqC.next rfl rfl rfl rfl rfl rfl rfl (fun hcx => Runs.loadB rfl rfl Try.underlying3 rfl k1 rfl) ?_
  refine SeqC.next rfl rfl rfl rfl rfl rfl rfl (fun hcx => Runs.lss rfl rfl rfl) ?_
  refine SeqC.or rfl rfl rfl rfl rfl rfl rfl ?_
  refine Seq.val (Runs.move rfl rfl) rfl rfl rfl ?_
  refine SeqC.start ?_
  refine SeqC.open rfl rfl rfl rfl rfl rfl rfl (fun hcx => Runs.fieldB 2 rfl rfl Try.underlying32 rfl (by kernel_rfl)) ?_
  refine SeqC.next rfl rfl rfl rfl rfl rfl rfl (fun hcx => Runs.loadB rfl rfl Try.underlying3 rfl k1 rfl) ?_
  refine SeqC.next rfl rfl rfl rfl rfl rfl rfl (fun hcx => Runs.lss rfl rfl rfl) ?_
  refine SeqC.or rfl rfl rfl rfl rfl rfl rfl ?_
  refine Seq.val (Runs.move rfl rfl) rfl rfl rfl ?_
  refine SeqC.start ?_
  refine SeqC.open rfl rfl rfl rfl rfl rfl rfl (fun hcx => Runs.fieldB 3 rfl rfl Try.underlying32 rfl (by kernel_rfl)) ?_
  refine SeqC.next rfl rfl rfl rfl rfl rfl rfl (fun hcx => Runs.loadB rfl rfl Try.underlying30 rfl k1 rfl) ?_
  refine SeqC.next rfl rfl rfl rfl rfl rfl rfl (fun hcx => Runs.len rfl rfl Try.underlying30) ?_
  refine SeqC.next rfl rfl rfl rfl rfl rfl rfl (fun hcx => Runs.gtr rfl rfl rfl) ?_
  refine SeqC.or rfl rfl rfl rfl rfl rfl rfl ?_
  refine Seq.val (Runs.move rfl rfl) rfl rfl rfl ?_
  refine SeqC.start ?_
  refine SeqC.open rfl rfl rfl rfl rfl rfl rfl (fun hcx => Runs.fieldB 4 rfl rfl Try.underlying32 rfl (by kernel_rfl)) ?_
  refine SeqC.next rfl rfl rfl rfl rfl rfl rfl (fun hcx => Runs.loadB rfl rfl Try.underlying25 rfl k1 rfl) ?_
  refine SeqC.next rfl rfl rfl rfl rfl rfl rfl (fun hcx => Runs.len rfl rfl Try.underlying25) ?_
  refine SeqC.next rfl rfl rfl rfl rfl rfl rfl (fun hcx => Runs.gtr rfl rfl rfl) ?_
  refine SeqC.or rfl rfl rfl rfl rfl rfl rfl ?_
  refine Seq.nil ?_
  refine Post.weak (F' := [(0, _), (1, _), (2, _), (30, _)]) ⟨rfl, rfl, rfl, rfl, trivial⟩ ?_
  refine Post.then_ ?_
  refine Cd.cond rfl (fun h => ?_) (fun h => ?_)
  · skip
    refine Cd.seq ?_
    refine Cd.region ?_
    refine Seq.val (Runs.assign rfl rfl) rfl rfl rfl ?_
    refine Seq.nil ?_
    refine Post.weak (F' := [(0, _), (1, _), (2, _), (30, _)]) ⟨rfl, rfl, rfl, rfl, trivial⟩ ?_
    refine Post.then_ ?_
    refine Cd.ret ?_
    refine Post.then_ret ?_
    refine Post.end1 rfl rfl (.inl rfl) ?_
    simp only [Bool.or_eq_true, decide_eq_true_eq] at h
    rw [hlf (by omega)]
    exact ⟨rfl, bel⟩
  · simp only [Bool.or_eq_false_iff, decide_eq_false_iff_not] at h
    obtain ⟨⟨⟨⟨h1, h2⟩, h3⟩, h4⟩, h5⟩ := h
    refine Cd.skip ?_
    refine Post.then_ ?_
    refine Cd.seq ?_
    refine Cd.seq ?_
    refine Cd.region ?_
    refine Seq.val (Runs.assign rfl rfl) rfl rfl rfl ?_
    refine Seq.nil ?_
    refine Post.weak (F' := [(0, _), (1, _), (2, _), (3, _), (30, _)]) ⟨rfl, rfl, rfl, rfl, rfl, trivial⟩ ?_
    refine Post.then_ ?_
    refine Cd.block ?_
    refine Cd.loop (σ := Nat) (fun k => [(1, .pointer (some ⟨g1, 0, none⟩)), (3, .int .i64 (k : Int))])
      (fun k wr => k ≤ n ∧ (∀ z ∈ drop.take k, 0 ≤ z) ∧ Below w.heap.size w wr ∧ Blk wr g1 32 #[.int .i64 lg, .int .i64 nx, .int .i64 sq, .slice A n cap, .slice A' m cap']) (fun k => n - k) 0 ⟨Nat.zero_le _, by simp, bel, k1⟩ ⟨rfl, rfl, trivial⟩ ?_
    clear bel k1
    rintro k wr ⟨hk, hno, bel, k1⟩
    refine Cd.seq ?_
    refine Cd.seq ?_
    refine Cd.region ?_
    refine Seq.val (Runs.move rfl rfl) rfl rfl rfl ?_
    refine Seq.val (Runs.fieldB 3 rfl rfl Try.underlying32 rfl (by kernel_rfl)) rfl rfl rfl ?_
    refine Seq.val (Runs.loadB rfl rfl Try.underlying30 rfl k1 rfl) rfl rfl rfl ?_
    refine Seq.val (Runs.len rfl rfl Try.underlying30) rfl rfl rfl ?_
    refine Seq.val (Runs.lss rfl rfl rfl) rfl rfl rfl ?_
    refine Seq.nil ?_
    refine Post.weak (F' := [(1, _), (3, _), (35, _)]) ⟨rfl, rfl, rfl, trivial⟩ ?_
    refine Post.then_ ?_
    refine Cd.condD rfl (fun hc => ?_) (fun hc => ?_)
    · obtain ⟨x, hx⟩ : ∃ x, drop[k]? = some x := ⟨_, List.getElem?_eq_getElem (show k < drop.length by omega)⟩
      obtain ⟨ad, rfl, hbl, hc⟩ := hr.2 (by omega)
      have hc := (bel.cell (p := ad.add k) (by rw [block_of_add]; omega)).trans (hc k (.int .i64 x) (by simp [DI, hx]))
      have htk : drop.take (k + 1) = drop.take k ++ [x] := by rw [List.take_add_one, hx]; rfl
      refine Cd.skip ?_
      refine Post.then_ ?_
      refine Cd.seq ?_
      refine Cd.block ?_
      refine Cd.seq ?_
      refine Cd.region ?_
      refine Seq.val (Runs.fieldB 3 rfl rfl Try.underlying32 rfl (by kernel_rfl)) rfl rfl rfl ?_
      refine Seq.val (Runs.loadB rfl rfl Try.underlying30 rfl k1 rfl) rfl rfl rfl ?_
      refine Seq.val (Runs.move rfl rfl) rfl rfl rfl ?_
      refine Seq.val (Runs.index1 rfl rfl rfl Try.underlying30 (by kernel_rfl) (j := k) rfl (by omega)) rfl rfl rfl ?_
      refine Seq.val (Runs.load1 rfl rfl Try.underlying3 rfl hc) rfl rfl rfl ?_
      refine Seq.val (Runs.lss rfl rfl rfl) rfl rfl rfl ?_
      refine Seq.nil ?_
      refine Post.weak (F' := [(1, _), (3, _), (35, _), (43, _)]) ⟨rfl, rfl, rfl, rfl, trivial⟩ ?_
      refine Post.then_ ?_
      refine Cd.condD rfl (fun hc => ?_) (fun hc => ?_)
      · skip
        refine Cd.seq ?_
        refine Cd.region ?_
        refine Seq.val (Runs.assign rfl rfl) rfl rfl rfl ?_
        refine Seq.nil ?_
        refine Post.weak (F' := [(1, _), (2, _), (3, _), (35, _), (43, _)]) ⟨rfl, rfl, rfl, rfl, rfl, trivial⟩ ?_
        refine Post.then_ ?_
        refine Cd.ret ?_
        refine Post.block_ret ?_
        refine Post.then_ret ?_
        refine Post.round_ret ?_
        refine Post.block_ret ?_
        refine Post.then_ret ?_
        refine Post.end1 rfl rfl (.inl rfl) ?_
        rw [hlf (fun hh => by have := hh.2.2.2.2.2.1 x (List.mem_of_getElem? hx); omega)]
        exact ⟨rfl, bel⟩
      · skip
        refine Cd.skip ?_
        refine Post.block_normal ?_
        refine Post.then_ ?_
        refine Cd.region ?_
        refine Seq.val (Runs.move rfl rfl) rfl rfl rfl ?_
        refine Seq.val (Runs.addI rfl rfl rfl (by omega) (by omega)) rfl rfl rfl ?_
        refine Seq.val (Runs.assign rfl rfl) rfl rfl rfl ?_
        refine Seq.nil ?_
        refine Post.weak (F' := [(1, _), (3, _), (35, _), (43, _)]) ⟨rfl, rfl, rfl, rfl, trivial⟩ ?_
        refine Post.round (k + 1) ⟨rfl, rfl, trivial⟩ ⟨by omega, fun z hz => ?_, bel, k1⟩ (by omega)
        rw [htk] at hz
        rcases List.mem_append.1 hz with hz | hz
        · exact hno z hz
        · simp at hz; omega
    · obtain rfl : k = n := by omega
      rw [List.take_of_length_le (by omega)] at hno
      refine Cd.exit ?_
      refine Post.then_exit ?_
      refine Post.round_exit ?_
      refine Post.block_exit ?_
      refine Post.then_ ?_
      refine Cd.seq ?_
      refine Cd.seq ?_
      refine Cd.region ?_
      refine Seq.val (Runs.assign rfl rfl) rfl rfl rfl ?_
      refine Seq.nil ?_
      refine Post.weak (F' := [(1, _), (3, _), (4, _), (35, _)]) ⟨rfl, rfl, rfl, rfl, trivial⟩ ?_
      refine Post.then_ ?_
      refine Cd.block ?_
      refine Cd.loop (σ := Nat) (fun j => [(1, .pointer (some ⟨g1, 0, none⟩)), (4, .int .i64 (j : Int))])
        (fun j wr => j ≤ m ∧ (∀ f ∈ add.take j, badF f = false) ∧ Below w.heap.size w wr ∧ Blk wr g1 32 #[.int .i64 lg, .int .i64 nx, .int .i64 sq, .slice A k cap, .slice A' m cap']) (fun j => m - j) 0 ⟨Nat.zero_le _, by simp, bel, k1⟩ ⟨rfl, rfl, trivial⟩ ?_
      clear bel k1
      rintro j wr ⟨hj, hno2, bel, k1⟩
      refine Cd.seq ?_
      refine Cd.seq ?_
      refine Cd.region ?_
      refine Seq.val (Runs.move rfl rfl) rfl rfl rfl ?_
      refine Seq.val (Runs.fieldB 4 rfl rfl Try.underlying32 rfl (by kernel_rfl)) rfl rfl rfl ?_
      refine Seq.val (Runs.loadB rfl rfl Try.underlying25 rfl k1 rfl) rfl rfl rfl ?_
      refine Seq.val (Runs.len rfl rfl Try.underlying25) rfl rfl rfl ?_
      refine Seq.val (Runs.lss rfl rfl rfl) rfl rfl rfl ?_
      refine Seq.nil ?_
      refine Post.weak (F' := [(1, _), (4, _), (48, _)]) ⟨rfl, rfl, rfl, trivial⟩ ?_
      refine Post.then_ ?_
      refine Cd.condD rfl (fun hc => ?_) (fun hc => ?_)
      · obtain ⟨f, hf⟩ : ∃ f, add[j]? = some f := ⟨_, List.getElem?_eq_getElem (show j < add.length by omega)⟩
        obtain ⟨ad, rfl, hbl, hin, hc⟩ := hr'.fl (bel.mono hB) hf
        have htk : add.take (j + 1) = add.take j ++ [f] := by rw [List.take_add_one, hf]; rfl
        have hbf := badF_iff f
        refine Cd.skip ?_
        refine Post.then_ ?_
        refine Cd.seq ?_
        refine Cd.block ?_
        refine Cd.seq ?_
        refine Cd.region ?_
        refine Seq.val (Runs.fieldB 4 rfl rfl Try.underlying32 rfl (by kernel_rfl)) rfl rfl rfl ?_
        refine Seq.val (Runs.loadB rfl rfl Try.underlying25 rfl k1 rfl) rfl rfl rfl ?_
        refine Seq.val (Runs.move rfl rfl) rfl rfl rfl ?_
        refine Seq.val (Runs.indexN rfl rfl rfl Try.underlying25 (s := 6) (by kernel_rfl) (j := j) rfl (by omega)) rfl rfl rfl ?_
        refine Seq.val (Runs.loadF (ps := [.int .i64 f.num, .int .i64 f.level, .string (strOf f.first), .string (strOf f.last), .int .i64 f.count, .int .i64 f.size]) rfl rfl Try.underlying23 rfl (m := 6) (by kernel_rfl) rfl hc) rfl rfl rfl ?_
        refine Seq.alloc rfl (run_zero zero_debentureref12_File) rfl rfl rfl ?_
        intro g5 w2 n5
        have e5 := Nat.le_trans bel.size n5.ge
        have l5 := Nat.lt_of_lt_of_le k1.lt n5.ge
        replace bel := bel.step n5.below
        replace k1 := k1.step n5.below
        have k5 := n5.blk
        refine Seq.storeN rfl rfl rfl rfl (m := 6) (by kernel_rfl) rfl (by repeat' first | exact trivial | apply And.intro | rfl | assumption) k5 (by simp [Value.cells]) rfl rfl ?_
        intro w3 pw3
        replace bel := bel.put k5 pw3 e5
        replace k1 := k1.put pw3 (by omega)
        replace k5 := pw3.blk
        refine Seq.nil ?_
        refine Post.weak (F' := [(1, _), (4, _), (5, _), (48, _)]) ⟨rfl, rfl, rfl, rfl, trivial⟩ ?_
        refine Post.then_ ?_
        refine Cd.seq ?_
        refine Cd.region ?_
        refine Seq.val (Runs.fieldB 0 rfl rfl Try.underlying23 rfl (by kernel_rfl)) rfl rfl rfl ?_
        refine Seq.val (Runs.loadB rfl rfl Try.underlying3 rfl k5 rfl) rfl rfl rfl ?_
        refine Seq.val (Runs.lss rfl rfl rfl) rfl rfl rfl ?_
        refine Seq.val (Runs.move rfl rfl) rfl rfl rfl ?_
        refine SeqC.start ?_
        refine SeqC.open rfl rfl rfl rfl rfl rfl rfl (fun hcx => Runs.fieldB 1 rfl rfl Try.underlying23 rfl (by kernel_rfl)) ?_
        refine SeqC.next rfl rfl rfl rfl rfl rfl rfl (fun hcx => Runs.loadB rfl rfl Try.underlying3 rfl k5 rfl) ?_
        refine SeqC.next rfl rfl rfl rfl rfl rfl rfl (fun hcx => Runs.lss rfl rfl rfl) ?_
        refine SeqC.or rfl rfl rfl rfl rfl rfl rfl ?_
        refine Seq.val (Runs.move rfl rfl) rfl rfl rfl ?_
        refine SeqC.start ?_
        refine SeqC.open rfl rfl rfl rfl rfl rfl rfl (fun hcx => Runs.fieldB 4 rfl rfl Try.underlying23 rfl (by kernel_rfl)) ?_
        refine SeqC.next rfl rfl rfl rfl rfl rfl rfl (fun hcx => Runs.loadB rfl rfl Try.underlying3 rfl k5 rfl) ?_
        refine SeqC.next rfl rfl rfl rfl rfl rfl rfl (fun hcx => Runs.lss rfl rfl rfl) ?_
        refine SeqC.or rfl rfl rfl rfl rfl rfl rfl ?_
        refine Seq.val (Runs.move rfl rfl) rfl rfl rfl ?_
        refine SeqC.start ?_
        refine SeqC.open rfl rfl rfl rfl rfl rfl rfl (fun hcx => Runs.fieldB 5 rfl rfl Try.underlying23 rfl (by kernel_rfl)) ?_
        refine SeqC.next rfl rfl rfl rfl rfl rfl rfl (fun hcx => Runs.loadB rfl rfl Try.underlying3 rfl k5 rfl) ?_
        refine SeqC.next rfl rfl rfl rfl rfl rfl rfl (fun hcx => Runs.lss rfl rfl rfl) ?_
        refine SeqC.or rfl rfl rfl rfl rfl rfl rfl ?_
        refine Seq.val (Runs.move rfl rfl) rfl rfl rfl ?_
        refine SeqC.start ?_
        refine SeqC.open rfl rfl rfl rfl rfl rfl rfl (fun hcx => Runs.fieldB 2 rfl rfl Try.underlying23 rfl (by kernel_rfl)) ?_
        refine SeqC.next rfl rfl rfl rfl rfl rfl rfl (fun hcx => Runs.loadB rfl rfl Try.underlying9 rfl k5 rfl) ?_
        refine SeqC.next rfl rfl rfl rfl rfl rfl rfl (fun hcx => Runs.lenL rfl rfl Try.underlying9) ?_
        refine SeqC.next rfl rfl rfl rfl rfl rfl rfl (fun hcx => Runs.gtr rfl rfl rfl) ?_
        refine SeqC.or rfl rfl rfl rfl rfl rfl rfl ?_
        refine Seq.val (Runs.move rfl rfl) rfl rfl rfl ?_
        refine SeqC.start ?_
        refine SeqC.open rfl rfl rfl rfl rfl rfl rfl (fun hcx => Runs.fieldB 3 rfl rfl Try.underlying23 rfl (by kernel_rfl)) ?_
        refine SeqC.next rfl rfl rfl rfl rfl rfl rfl (fun hcx => Runs.loadB rfl rfl Try.underlying9 rfl k5 rfl) ?_
        refine SeqC.next rfl rfl rfl rfl rfl rfl rfl (fun hcx => Runs.lenL rfl rfl Try.underlying9) ?_
        refine SeqC.next rfl rfl rfl rfl rfl rfl rfl (fun hcx => Runs.gtr rfl rfl rfl) ?_
        refine SeqC.or rfl rfl rfl rfl rfl rfl rfl ?_
        refine Seq.nil ?_
        refine Post.weak (F' := [(1, _), (4, _), (5, _), (48, _), (85, _)]) ⟨rfl, rfl, rfl, rfl, rfl, trivial⟩ ?_
        refine Post.then_ ?_
        refine Cd.cond rfl (fun h => ?_) (fun h => ?_)
        · skip
          refine Cd.seq ?_
          refine Cd.region ?_
          refine Seq.val (Runs.assign rfl rfl) rfl rfl rfl ?_
          refine Seq.nil ?_
          refine Post.weak (F' := [(1, _), (2, _), (4, _), (5, _), (48, _), (85, _)]) ⟨rfl, rfl, rfl, rfl, rfl, rfl, trivial⟩ ?_
          refine Post.then_ ?_
          refine Cd.ret ?_
          refine Post.block_ret ?_
          refine Post.then_ret ?_
          refine Post.round_ret ?_
          refine Post.block_ret ?_
          refine Post.then_ret ?_
          refine Post.end1 rfl rfl (.inl rfl) ?_
          simp only [Bool.or_eq_true, decide_eq_true_eq] at h
          rw [hlf (fun hh => by
            have h8 := hh.2.2.2.2.2.2 f (List.mem_of_getElem? hf)
            rw [hbf] at h8
            have := of_decide_eq_false h8
            omega)]
          exact ⟨rfl, bel⟩
        · skip
          refine Cd.skip ?_
          refine Post.block_normal ?_
          refine Post.then_ ?_
          refine Cd.region ?_
          refine Seq.val (Runs.move rfl rfl) rfl rfl rfl ?_
          refine Seq.val (Runs.addI rfl rfl rfl (by omega) (by omega)) rfl rfl rfl ?_
          refine Seq.val (Runs.assign rfl rfl) rfl rfl rfl ?_
          refine Seq.nil ?_
          refine Post.weak (F' := [(1, _), (4, _), (5, _), (48, _), (85, _)]) ⟨rfl, rfl, rfl, rfl, rfl, trivial⟩ ?_
          refine Post.round (j + 1) ⟨rfl, rfl, trivial⟩ ⟨by omega, fun z hz => ?_, bel, k1⟩ (by omega)
          rw [htk] at hz
          rcases List.mem_append.1 hz with hz | hz
          · exact hno2 z hz
          · simp at hz
            subst hz
            simp only [Bool.or_eq_false_iff, decide_eq_false_iff_not] at h
            rw [hbf]
            exact decide_eq_false (by omega)
      · obtain rfl : j = m := by omega
        rw [List.take_of_length_le (by omega)] at hno2
        refine Cd.exit ?_
        refine Post.then_exit ?_
        refine Post.round_exit ?_
        refine Post.block_exit ?_
        refine Post.then_ ?_
        refine Cd.seq ?_
        refine Cd.region ?_
        refine Seq.val (Runs.assign rfl rfl) rfl rfl rfl ?_
        refine Seq.nil ?_
        refine Post.weak (F' := [(1, _), (2, _), (4, _), (48, _)]) ⟨rfl, rfl, rfl, rfl, trivial⟩ ?_
        refine Post.then_ ?_
        refine Cd.ret ?_
        refine Post.end1 rfl rfl (.inl rfl) ?_
        rw [hlt ⟨by omega, by omega, by omega, by omega, by omega, hno, hno2⟩]
        exact ⟨rfl, bel⟩
/-- An edit's bytes. -/
def encB (lg nx sq : Int) (drop : List Nat) (add : List Fn) : List Nat := grp (sgn lg) ++ (grp (sgn nx) ++ (grp (sgn sq) ++ (grp drop.length ++ (drop.flatMap grp ++ (grp add.length ++ add.flatMap Fn.bytes)))))
theorem refEncode_any (lg nx sq : Int) (B : Nat) (A A' : Option Addr) (cap cap' : Nat) (drop : List Nat) (add : List Fn) (w : World) (hr : Reads w B 1 A drop.length (DI (DN drop))) (hr' : Reads w B 6 A' add.length (fcs (add.map Fn.fl))) (hB : B ≤ w.heap.size)
    (hlg : I64 lg) (hnx : I64 nx) (hsq : I64 sq) (hd : ∀ n ∈ drop, n < 9223372036854775808) (hf : ∀ f ∈ add, f.ok) (hdl : drop.length ≤ 1000) (hal : add.length ≤ 1000) :
    Calls Try.prog 15 #[.agg #[.int .i64 lg, .int .i64 nx, .int .i64 sq, .slice A drop.length cap, .slice A' add.length cap']] w fun e w' => e = .returned (.string (strOf (encB lg nx sq drop add))) ∧ Grow w w' := by
  have bel := Below.refl w.heap.size w
  have h1 := grp_len (sgn lg)
  have h2 := grp_len (sgn nx)
  have h3 := grp_len (sgn sq)
  have h4 := grp_len drop.length
  have h5 := grp_len add.length
  have hlen : ∀ k, ((drop.take k).flatMap grp).length ≤ 10000 := fun k => by
    have := flat_len grp 10 (l := drop.take k) (fun x _ => grp_len x)
    rw [List.length_take] at this
    omega
  have hlenF : ∀ k, ((add.take k).flatMap Fn.bytes).length ≤ 220000 := fun k => by
    have := flat_len Fn.bytes 220 (l := add.take k) (fun x hx => Fn.len (hf x (List.mem_of_mem_take hx)))
    rw [List.length_take] at this
    omega
  have hfin : encB lg nx sq drop add = grp (sgn lg) ++ grp (sgn nx) ++ grp (sgn sq) ++ grp drop.length ++ drop.flatMap grp ++ grp add.length ++ add.flatMap Fn.bytes := by simp only [encB, List.append_assoc]
  generalize encB lg nx sq drop add = q at *
  generalize hn : drop.length = n at *
  generalize hm : add.length = m at *
  refine Calls.start 82 Try.func15 rfl rfl rfl ?_
  refine Cd.seq ?_
  refine Cd.region ?_
  refine Seq.box rfl rfl rfl rfl rfl ?_
  intro g1 w1 n1
  have e1 := Nat.le_trans bel.size n1.ge
  replace bel := bel.step n1.below
  have k1 := n1.blk
  refine Seq.val (Runs.assign rfl rfl) rfl rfl rfl ?_
  refine Seq.nil ?_
  refine Post.weak (F' := [(0, _), (1, _), (2, _)]) ⟨rfl, rfl, rfl, trivial⟩ ?_
  refine Post.then_ ?_
  refine Cd.seq ?_
  refine Cd.weak (F' := [(0, _), (1, _), (2, _)]) ⟨rfl, rfl, rfl, trivial⟩ ?_
  refine Cd.draw 17 (by kernel_rfl) [] (.inl rfl) rfl Grow Grow.refl (fun _ _ _ => Grow.trans) ?_
  intro w2 hw2 zw2
  replace bel := bel.step hw2
  replace k1 := k1.step hw2
  have zbel := bel.size
  have zlt := k1.lt
  refine Dr.val Grow.refl rfl (fun w hG => Runs.fieldB 0 rfl rfl Try.underlying32 rfl (by kernel_rfl)) rfl ?_
  refine Dr.val Grow.refl rfl (fun w hG => Runs.loadB rfl rfl Try.underlying3 rfl (k1.step hG) rfl) rfl ?_
  refine Dr.callV rfl (fun w => Enters.func rfl rfl rfl (run_enter Try.func38 (by kernel_rfl) rfl)) rfl (fun w hG => refSigned_any lg _ hlg) ?_
  refine Dr.val Grow.refl rfl (fun w hG => Runs.fieldB 1 rfl rfl Try.underlying32 rfl (by kernel_rfl)) rfl ?_
  refine Dr.val Grow.refl rfl (fun w hG => Runs.loadB rfl rfl Try.underlying3 rfl (k1.step hG) rfl) rfl ?_
  refine Dr.callV rfl (fun w => Enters.func rfl rfl rfl (run_enter Try.func38 (by kernel_rfl) rfl)) rfl (fun w hG => refSigned_any nx _ hnx) ?_
  refine Dr.val Grow.refl rfl (fun w hG => Runs.addL (a := grp (sgn lg)) (b := grp (sgn nx)) rfl rfl rfl (by omega)) rfl ?_
  refine Dr.val Grow.refl rfl (fun w hG => Runs.fieldB 2 rfl rfl Try.underlying32 rfl (by kernel_rfl)) rfl ?_
  refine Dr.val Grow.refl rfl (fun w hG => Runs.loadB rfl rfl Try.underlying3 rfl (k1.step hG) rfl) rfl ?_
  refine Dr.callV rfl (fun w => Enters.func rfl rfl rfl (run_enter Try.func38 (by kernel_rfl) rfl)) rfl (fun w hG => refSigned_any sq _ hsq) ?_
  refine Dr.val Grow.refl rfl (fun w hG => Runs.addL (a := grp (sgn lg) ++ grp (sgn nx)) (b := grp (sgn sq)) rfl rfl rfl (by simp only [List.length_append]; omega)) rfl ?_
  refine Dr.val Grow.refl rfl (fun w hG => Runs.fieldB 3 rfl rfl Try.underlying32 rfl (by kernel_rfl)) rfl ?_
  refine Dr.val Grow.refl rfl (fun w hG => Runs.loadB rfl rfl Try.underlying30 rfl (k1.step hG) rfl) rfl ?_
  refine Dr.val Grow.refl rfl (fun w hG => Runs.len rfl rfl Try.underlying30) rfl ?_
  refine Dr.callV rfl (fun w => Enters.func rfl rfl rfl (run_enter Try.func39 (by kernel_rfl) rfl)) rfl (fun w hG => refSize_any n _ (by omega)) ?_
  refine Dr.val Grow.refl rfl (fun w hG => Runs.addL (a := grp (sgn lg) ++ grp (sgn nx) ++ grp (sgn sq)) (b := grp n) rfl rfl rfl (by simp only [List.length_append]; omega)) rfl ?_
  refine Dr.val Grow.refl rfl (fun w hG => Runs.assign rfl rfl) rfl ?_
  refine Dr.nil ?_
  refine FinX.done (F' := [(0, _), (1, _), (2, _), (3, _)]) rfl ⟨rfl, rfl, rfl, rfl, trivial⟩ ?_
  intro w3 hw3 fw3
  replace bel := bel.step hw3
  replace k1 := k1.step hw3
  refine Seq.nil ?_
  refine Post.weak (F' := [(0, _), (1, _), (2, _), (3, _)]) ⟨rfl, rfl, rfl, rfl, trivial⟩ ?_
  refine Post.then_ ?_
  refine Cd.seq ?_
  refine Cd.seq ?_
  refine Cd.region ?_
  refine Seq.val (Runs.assign rfl rfl) rfl rfl rfl ?_
  refine Seq.nil ?_
  refine Post.weak (F' := [(0, _), (1, _), (2, _), (3, _), (4, _)]) ⟨rfl, rfl, rfl, rfl, rfl, trivial⟩ ?_
  refine Post.then_ ?_
  refine Cd.block ?_
  refine Cd.loop (σ := Nat) (fun k => [(1, .pointer (some ⟨g1, 0, none⟩)), (3, .string (strOf (grp (sgn lg) ++ grp (sgn nx) ++ grp (sgn sq) ++ grp n ++ (drop.take k).flatMap grp))), (4, .int .i64 (k : Int))])
    (fun k wr => k ≤ n ∧ Below w.heap.size w wr ∧ Blk wr g1 32 #[.int .i64 lg, .int .i64 nx, .int .i64 sq, .slice A n cap, .slice A' m cap']) (fun k => n - k) 0 ⟨Nat.zero_le _, bel, k1⟩ ⟨rfl, by rw [List.take_zero, List.flatMap_nil, List.append_nil]; rfl, rfl, trivial⟩ ?_
  clear bel k1
  rintro k wr ⟨hk, bel, k1⟩
  have hlk := hlen k
  refine Cd.seq ?_
  refine Cd.seq ?_
  refine Cd.region ?_
  refine Seq.val (Runs.move rfl rfl) rfl rfl rfl ?_
  refine Seq.val (Runs.fieldB 3 rfl rfl Try.underlying32 rfl (by kernel_rfl)) rfl rfl rfl ?_
  refine Seq.val (Runs.loadB rfl rfl Try.underlying30 rfl k1 rfl) rfl rfl rfl ?_
  refine Seq.val (Runs.len rfl rfl Try.underlying30) rfl rfl rfl ?_
  refine Seq.val (Runs.lss rfl rfl rfl) rfl rfl rfl ?_
  refine Seq.nil ?_
  refine Post.weak (F' := [(1, _), (3, _), (4, _), (27, _)]) ⟨rfl, rfl, rfl, rfl, trivial⟩ ?_
  refine Post.then_ ?_
  refine Cd.condD rfl (fun hc => ?_) (fun hc => ?_)
  · obtain ⟨x, hx⟩ : ∃ x, drop[k]? = some x := ⟨_, List.getElem?_eq_getElem (show k < drop.length by omega)⟩
    obtain ⟨ad, rfl, hbl, hc⟩ := hr.2 (by omega)
    have hc := (bel.cell (p := ad.add k) (by rw [block_of_add]; omega)).trans (hc k (.int .i64 (x : Int)) (by simp [DI, DN, hx]))
    have hgx := grp_len x
    have htk := flat_take grp hx
    refine Cd.skip ?_
    refine Post.then_ ?_
    refine Cd.seq ?_
    refine Cd.block ?_
    refine Cd.region ?_
    refine Seq.val (Runs.move rfl rfl) rfl rfl rfl ?_
    refine Seq.val (Runs.fieldB 3 rfl rfl Try.underlying32 rfl (by kernel_rfl)) rfl rfl rfl ?_
    refine Seq.val (Runs.loadB rfl rfl Try.underlying30 rfl k1 rfl) rfl rfl rfl ?_
    refine Seq.val (Runs.move rfl rfl) rfl rfl rfl ?_
    refine Seq.val (Runs.index1 rfl rfl rfl Try.underlying30 (by kernel_rfl) (j := k) rfl (by omega)) rfl rfl rfl ?_
    refine Seq.val (Runs.load1 rfl rfl Try.underlying3 rfl hc) rfl rfl rfl ?_
    refine Seq.call (Enters.func rfl rfl rfl (run_enter Try.func39 (by kernel_rfl) rfl)) rfl rfl rfl (refSize_any x _ (hd x (List.mem_of_getElem? hx))) ?_
    rintro e w5 ⟨rfl, hb5⟩
    refine ⟨_, rfl, ?_⟩
    replace bel := bel.step hb5
    replace k1 := k1.step hb5
    refine Seq.val (Runs.addL (a := grp (sgn lg) ++ grp (sgn nx) ++ grp (sgn sq) ++ grp n ++ (drop.take k).flatMap grp) (b := grp x) rfl rfl rfl (by simp only [List.length_append]; omega)) rfl rfl rfl ?_
    refine Seq.val (Runs.assign rfl rfl) rfl rfl rfl ?_
    refine Seq.nil ?_
    refine Post.weak (F' := [(1, _), (3, _), (4, _), (27, _)]) ⟨rfl, rfl, rfl, rfl, trivial⟩ ?_
    refine Post.block_normal ?_
    refine Post.then_ ?_
    refine Cd.region ?_
    refine Seq.val (Runs.move rfl rfl) rfl rfl rfl ?_
    refine Seq.val (Runs.addI rfl rfl rfl (by omega) (by omega)) rfl rfl rfl ?_
    refine Seq.val (Runs.assign rfl rfl) rfl rfl rfl ?_
    refine Seq.nil ?_
    refine Post.weak (F' := [(1, _), (3, _), (4, _), (27, _)]) ⟨rfl, rfl, rfl, rfl, trivial⟩ ?_
    refine Post.round (k + 1) ⟨rfl, by rw [htk, ← List.append_assoc]; rfl, rfl, trivial⟩ ⟨by omega, bel, k1⟩ (by omega)
  · obtain rfl : k = n := by omega
    rw [List.take_of_length_le (by omega)] at hlk ⊢
    refine Cd.exit ?_
    refine Post.then_exit ?_
    refine Post.round_exit ?_
    refine Post.block_exit ?_
    refine Post.then_ ?_
    refine Cd.seq ?_
    refine Cd.region ?_
    refine Seq.val (Runs.move rfl rfl) rfl rfl rfl ?_
    refine Seq.val (Runs.fieldB 4 rfl rfl Try.underlying32 rfl (by kernel_rfl)) rfl rfl rfl ?_
    refine Seq.val (Runs.loadB rfl rfl Try.underlying25 rfl k1 rfl) rfl rfl rfl ?_
    refine Seq.val (Runs.len rfl rfl Try.underlying25) rfl rfl rfl ?_
    refine Seq.call (Enters.func rfl rfl rfl (run_enter Try.func39 (by kernel_rfl) rfl)) rfl rfl rfl (refSize_any m _ (by omega)) ?_
    rintro e w5 ⟨rfl, hb5⟩
    refine ⟨_, rfl, ?_⟩
    replace bel := bel.step hb5
    replace k1 := k1.step hb5
    refine Seq.val (Runs.addL (a := grp (sgn lg) ++ grp (sgn nx) ++ grp (sgn sq) ++ grp k ++ drop.flatMap grp) (b := grp m) rfl rfl rfl (by simp only [List.length_append]; omega)) rfl rfl rfl ?_
    refine Seq.val (Runs.assign rfl rfl) rfl rfl rfl ?_
    refine Seq.nil ?_
    refine Post.weak (F' := [(1, _), (3, _), (4, _), (27, _)]) ⟨rfl, rfl, rfl, rfl, trivial⟩ ?_
    refine Post.then_ ?_
    refine Cd.seq ?_
    refine Cd.seq ?_
    refine Cd.region ?_
    refine Seq.val (Runs.assign rfl rfl) rfl rfl rfl ?_
    refine Seq.nil ?_
    refine Post.weak (F' := [(1, _), (3, _), (4, _), (5, _), (27, _)]) ⟨rfl, rfl, rfl, rfl, rfl, trivial⟩ ?_
    refine Post.then_ ?_
    refine Cd.block ?_
    refine Cd.loop (σ := Nat) (fun j => [(1, .pointer (some ⟨g1, 0, none⟩)), (3, .string (strOf (grp (sgn lg) ++ grp (sgn nx) ++ grp (sgn sq) ++ grp k ++ drop.flatMap grp ++ grp m ++ (add.take j).flatMap Fn.bytes))), (5, .int .i64 (j : Int))])
      (fun j wr => j ≤ m ∧ Below w.heap.size w wr ∧ Blk wr g1 32 #[.int .i64 lg, .int .i64 nx, .int .i64 sq, .slice A k cap, .slice A' m cap']) (fun j => m - j) 0 ⟨Nat.zero_le _, bel, k1⟩ ⟨rfl, by rw [List.take_zero, List.flatMap_nil, List.append_nil]; rfl, rfl, trivial⟩ ?_
    clear bel k1
    rintro j wr ⟨hj, bel, k1⟩
    have hlj := hlenF j
    refine Cd.seq ?_
    refine Cd.seq ?_
    refine Cd.region ?_
    refine Seq.val (Runs.move rfl rfl) rfl rfl rfl ?_
    refine Seq.val (Runs.fieldB 4 rfl rfl Try.underlying32 rfl (by kernel_rfl)) rfl rfl rfl ?_
    refine Seq.val (Runs.loadB rfl rfl Try.underlying25 rfl k1 rfl) rfl rfl rfl ?_
    refine Seq.val (Runs.len rfl rfl Try.underlying25) rfl rfl rfl ?_
    refine Seq.val (Runs.lss rfl rfl rfl) rfl rfl rfl ?_
    refine Seq.nil ?_
    refine Post.weak (F' := [(1, _), (3, _), (5, _), (48, _)]) ⟨rfl, rfl, rfl, rfl, trivial⟩ ?_
    refine Post.then_ ?_
    refine Cd.condD rfl (fun hc => ?_) (fun hc => ?_)
    · obtain ⟨f, hfj⟩ : ∃ f, add[j]? = some f := ⟨_, List.getElem?_eq_getElem (show j < add.length by omega)⟩
      have hfm : (add.map Fn.fl)[j]? = some f.fl := by rw [List.getElem?_map, hfj]; rfl
      obtain ⟨ad, rfl, hbl, hin, hc⟩ := hr'.fl (bel.mono hB) hfm
      have htk := flat_take Fn.bytes hfj
      have hok := hf f (List.mem_of_getElem? hfj)
      have i1 := grp_len f.num
      have i2 := grp_len f.level
      have i3 := grp_len f.first.length
      have i4 := grp_len f.last.length
      have i5 := grp_len f.count
      have i6 := grp_len f.size
      have i7 := hok.first80
      have i8 := hok.last80
      have htl : (txt f.first).length ≤ 90 := by simp only [txt, List.length_append]; omega
      have htl2 : (txt f.last).length ≤ 90 := by simp only [txt, List.length_append]; omega
      obtain ⟨p, hp⟩ : ∃ p, p = grp (sgn lg) ++ grp (sgn nx) ++ grp (sgn sq) ++ grp k ++ drop.flatMap grp ++ grp m ++ (add.take j).flatMap Fn.bytes := ⟨_, rfl⟩
      have hpl : p.length ≤ 1000000 := by rw [hp]; simp only [List.length_append]; omega
      rw [← hp]
      refine Cd.skip ?_
      refine Post.then_ ?_
      refine Cd.seq ?_
      refine Cd.block ?_
      refine Cd.seq ?_
      refine Cd.region ?_
      refine Seq.val (Runs.fieldB 4 rfl rfl Try.underlying32 rfl (by kernel_rfl)) rfl rfl rfl ?_
      refine Seq.val (Runs.loadB rfl rfl Try.underlying25 rfl k1 rfl) rfl rfl rfl ?_
      refine Seq.val (Runs.move rfl rfl) rfl rfl rfl ?_
      refine Seq.val (Runs.indexN rfl rfl rfl Try.underlying25 (s := 6) (by kernel_rfl) (j := j) rfl (by omega)) rfl rfl rfl ?_
      refine Seq.val (Runs.loadF (ps := [.int .i64 f.num, .int .i64 f.level, .string (strOf f.first), .string (strOf f.last), .int .i64 f.count, .int .i64 f.size]) rfl rfl Try.underlying23 rfl (m := 6) (by kernel_rfl) rfl hc) rfl rfl rfl ?_
      refine Seq.alloc rfl (run_zero zero_debentureref12_File) rfl rfl rfl ?_
      intro g6 w4 n6
      have e6 := Nat.le_trans bel.size n6.ge
      have l6 := Nat.lt_of_lt_of_le k1.lt n6.ge
      replace bel := bel.step n6.below
      replace k1 := k1.step n6.below
      have k6 := n6.blk
      refine Seq.storeN rfl rfl rfl rfl (m := 6) (by kernel_rfl) rfl (by repeat' first | exact trivial | apply And.intro | rfl | assumption) k6 (by simp [Value.cells]) rfl rfl ?_
      intro w5 pw5
      replace bel := bel.put k6 pw5 e6
      replace k1 := k1.put pw5 (by omega)
      replace k6 := pw5.blk
      refine Seq.nil ?_
      refine Post.weak (F' := [(1, _), (3, _), (5, _), (6, _), (48, _)]) ⟨rfl, rfl, rfl, rfl, rfl, trivial⟩ ?_
      refine Post.then_ ?_
      refine Cd.draw 25 (by kernel_rfl) [] (.inl rfl) rfl Grow Grow.refl (fun _ _ _ => Grow.trans) ?_
      intro w6 hw6 zw6
      replace bel := bel.step hw6
      replace k1 := k1.step hw6
      replace k6 := k6.step hw6
      have zbel := bel.size
      have zlt := k6.lt
      refine Dr.val Grow.refl rfl (fun w hG => Runs.move rfl rfl) rfl ?_
      refine Dr.val Grow.refl rfl (fun w hG => Runs.fieldB 0 rfl rfl Try.underlying23 rfl (by kernel_rfl)) rfl ?_
      refine Dr.val Grow.refl rfl (fun w hG => Runs.loadB rfl rfl Try.underlying3 rfl (k6.step hG) rfl) rfl ?_
      refine Dr.callV rfl (fun w => Enters.func rfl rfl rfl (run_enter Try.func39 (by kernel_rfl) rfl)) rfl (fun w hG => refSize_any f.num _ hok.num) ?_
      refine Dr.val Grow.refl rfl (fun w hG => Runs.addL (a := p) (b := grp f.num) rfl rfl rfl (by omega)) rfl ?_
      refine Dr.val Grow.refl rfl (fun w hG => Runs.fieldB 1 rfl rfl Try.underlying23 rfl (by kernel_rfl)) rfl ?_
      refine Dr.val Grow.refl rfl (fun w hG => Runs.loadB rfl rfl Try.underlying3 rfl (k6.step hG) rfl) rfl ?_
      refine Dr.callV rfl (fun w => Enters.func rfl rfl rfl (run_enter Try.func39 (by kernel_rfl) rfl)) rfl (fun w hG => refSize_any f.level _ hok.level) ?_
      refine Dr.val Grow.refl rfl (fun w hG => Runs.addL (a := p ++ grp f.num) (b := grp f.level) rfl rfl rfl (by simp only [List.length_append]; omega)) rfl ?_
      refine Dr.val Grow.refl rfl (fun w hG => Runs.fieldB 2 rfl rfl Try.underlying23 rfl (by kernel_rfl)) rfl ?_
      refine Dr.val Grow.refl rfl (fun w hG => Runs.loadB rfl rfl Try.underlying9 rfl (k6.step hG) rfl) rfl ?_
      refine Dr.callV rfl (fun w => Enters.func rfl rfl rfl (run_enter Try.func40 (by kernel_rfl) rfl)) rfl (fun w hG => refText_any f.first _ (by omega)) ?_
      refine Dr.val Grow.refl rfl (fun w hG => Runs.addL (a := p ++ grp f.num ++ grp f.level) (b := txt f.first) rfl rfl rfl (by simp only [List.length_append]; omega)) rfl ?_
      refine Dr.val Grow.refl rfl (fun w hG => Runs.fieldB 3 rfl rfl Try.underlying23 rfl (by kernel_rfl)) rfl ?_
      refine Dr.val Grow.refl rfl (fun w hG => Runs.loadB rfl rfl Try.underlying9 rfl (k6.step hG) rfl) rfl ?_
      refine Dr.callV rfl (fun w => Enters.func rfl rfl rfl (run_enter Try.func40 (by kernel_rfl) rfl)) rfl (fun w hG => refText_any f.last _ (by omega)) ?_
      refine Dr.val Grow.refl rfl (fun w hG => Runs.addL (a := p ++ grp f.num ++ grp f.level ++ txt f.first) (b := txt f.last) rfl rfl rfl (by simp only [List.length_append]; omega)) rfl ?_
      refine Dr.val Grow.refl rfl (fun w hG => Runs.fieldB 4 rfl rfl Try.underlying23 rfl (by kernel_rfl)) rfl ?_
      refine Dr.val Grow.refl rfl (fun w hG => Runs.loadB rfl rfl Try.underlying3 rfl (k6.step hG) rfl) rfl ?_
      refine Dr.callV rfl (fun w => Enters.func rfl rfl rfl (run_enter Try.func39 (by kernel_rfl) rfl)) rfl (fun w hG => refSize_any f.count _ hok.count) ?_
      refine Dr.val Grow.refl rfl (fun w hG => Runs.addL (a := p ++ grp f.num ++ grp f.level ++ txt f.first ++ txt f.last) (b := grp f.count) rfl rfl rfl (by simp only [List.length_append]; omega)) rfl ?_
      refine Dr.val Grow.refl rfl (fun w hG => Runs.fieldB 5 rfl rfl Try.underlying23 rfl (by kernel_rfl)) rfl ?_
      refine Dr.val Grow.refl rfl (fun w hG => Runs.loadB rfl rfl Try.underlying3 rfl (k6.step hG) rfl) rfl ?_
      refine Dr.callV rfl (fun w => Enters.func rfl rfl rfl (run_enter Try.func39 (by kernel_rfl) rfl)) rfl (fun w hG => refSize_any f.size _ hok.size) ?_
      refine Dr.val Grow.refl rfl (fun w hG => Runs.addL (a := p ++ grp f.num ++ grp f.level ++ txt f.first ++ txt f.last ++ grp f.count) (b := grp f.size) rfl rfl rfl (by simp only [List.length_append]; omega)) rfl ?_
      refine Dr.nil ?_
      refine FinX.done (F' := [(1, _), (3, _), (5, _), (6, _), (48, _), (80, _)]) rfl ⟨rfl, rfl, rfl, rfl, rfl, rfl, trivial⟩ ?_
      intro w7 hw7 fw7
      replace bel := bel.step hw7
      replace k1 := k1.step hw7
      replace k6 := k6.step hw7
      refine Seq.val (Runs.assign rfl rfl) rfl rfl rfl ?_
      refine Seq.nil ?_
      refine Post.weak (F' := [(1, _), (3, _), (5, _), (6, _), (48, _)]) ⟨rfl, rfl, rfl, rfl, rfl, trivial⟩ ?_
      refine Post.block_normal ?_
      refine Post.then_ ?_
      refine Cd.region ?_
      refine Seq.val (Runs.move rfl rfl) rfl rfl rfl ?_
      refine Seq.val (Runs.addI rfl rfl rfl (by omega) (by omega)) rfl rfl rfl ?_
      refine Seq.val (Runs.assign rfl rfl) rfl rfl rfl ?_
      refine Seq.nil ?_
      refine Post.weak (F' := [(1, _), (3, _), (5, _), (6, _), (48, _)]) ⟨rfl, rfl, rfl, rfl, rfl, trivial⟩ ?_
      refine Post.round (j + 1) ⟨rfl, ?_, rfl, trivial⟩ ⟨by omega, bel, k1⟩ (by omega)
      refine congrArg (fun s => some (Value.string (strOf s))) ?_
      rw [htk, ← List.append_assoc _ _ f.bytes, ← hp]
      simp only [Fn.bytes, List.append_assoc]
    · obtain rfl : j = m := by omega
      rw [List.take_of_length_le (by omega)]
      refine Cd.exit ?_
      refine Post.then_exit ?_
      refine Post.round_exit ?_
      refine Post.block_exit ?_
      refine Post.then_ ?_
      refine Cd.seq ?_
      refine Cd.region ?_
      refine Seq.val (Runs.move rfl rfl) rfl rfl rfl ?_
      refine Seq.val (Runs.assign rfl rfl) rfl rfl rfl ?_
      refine Seq.nil ?_
      refine Post.weak (F' := [(1, _), (2, _), (3, _), (5, _), (48, _)]) ⟨rfl, rfl, rfl, rfl, rfl, trivial⟩ ?_
      refine Post.then_ ?_
      refine Cd.ret ?_
      refine Post.end1 rfl rfl (.inl rfl) ?_
      rw [hfin]
      exact ⟨rfl, bel⟩
theorem run_build_Wr0 (w : World) : (Instr.build 73 #[]).run Try.prog w = .ok (.agg #[.slice none 0 0]) w := by kernel_rfl
/-- edit.Encode. -/
theorem encode_any (lg nx sq : Int) (B : Nat) (A A' : Option Addr) (cap cap' : Nat) (drop : List Nat) (add : List Fn) (w : World) (hr : Reads w B 1 A drop.length (DI (DN drop))) (hr' : Reads w B 6 A' add.length (fcs (add.map Fn.fl))) (hB : B ≤ w.heap.size)
    (hlg : I64 lg) (hnx : I64 nx) (hsq : I64 sq) (hd : ∀ n ∈ drop, n < 9223372036854775808) (hf : ∀ f ∈ add, f.ok) (hdl : drop.length ≤ 1000) (hal : add.length ≤ 1000) (hlaid : laidB lg nx sq (DN drop) (add.map Fn.fl) = true) :
    Calls Try.prog 12 #[.agg #[.int .i64 lg, .int .i64 nx, .int .i64 sq, .slice A drop.length cap, .slice A' add.length cap']] w fun e w' => e = .returned (.tuple #[.string (strOf (encB lg nx sq drop add)), .int .i64 0]) ∧ Grow w w' := by
  have bel := Below.refl w.heap.size w
  have h1 := grp_len (sgn lg)
  have h2 := grp_len (sgn nx)
  have h3 := grp_len (sgn sq)
  have h4 := grp_len drop.length
  have h5 := grp_len add.length
  have hlen : (drop.flatMap grp).length ≤ 10000 := by
    have := flat_len grp 10 (l := drop) (fun x _ => grp_len x)
    omega
  have hl0 := fun W (hb : Below w.heap.size w W) => laid_any lg nx sq B A A' cap cap' (DN drop) (add.map Fn.fl) W (by rw [DN, List.length_map]; exact hr.below (hb.mono hB)) (by rw [List.length_map]; exact hr'.below (hb.mono hB)) (Nat.le_trans hB hb.size)
  rw [hlaid] at hl0
  simp only [DN, List.length_map] at hl0
  refine Calls.start 30 Try.func12 rfl rfl rfl ?_
  refine Cd.seq ?_
  refine Cd.region ?_
  refine Seq.box rfl rfl rfl rfl rfl ?_
  intro g1 w1 n1
  have e1 := Nat.le_trans bel.size n1.ge
  replace bel := bel.step n1.below
  have k1 := n1.blk
  refine Seq.val (Runs.assign rfl rfl) rfl rfl rfl ?_
  refine Seq.val (Runs.assign rfl rfl) rfl rfl rfl ?_
  refine Seq.nil ?_
  refine Post.weak (F' := [(0, _), (1, _), (2, _), (3, _)]) ⟨rfl, rfl, rfl, rfl, trivial⟩ ?_
  refine Post.then_ ?_
  refine Cd.seq ?_
  refine Cd.seq ?_
  refine Cd.region ?_
  refine Seq.val (Runs.loadW rfl rfl Try.underlying38 rfl k1 (m := 5) (by kernel_rfl) rfl) rfl rfl rfl ?_
  refine Seq.call (Enters.func rfl rfl rfl (run_enter Try.func28 (by kernel_rfl) rfl)) rfl rfl rfl (hl0 _ bel) ?_
  rintro e w5 ⟨rfl, hb5⟩
  refine ⟨_, rfl, ?_⟩
  replace bel := bel.step hb5
  replace k1 := k1.step hb5
  refine Seq.val (Runs.not rfl rfl) rfl rfl rfl ?_
  refine Seq.nil ?_
  refine Post.weak (F' := [(0, _), (1, _), (2, _), (3, _), (7, _)]) ⟨rfl, rfl, rfl, rfl, rfl, trivial⟩ ?_
  refine Post.then_ ?_
  refine Cd.condF rfl rfl ?_
  refine Cd.skip ?_
  refine Post.then_ ?_
  refine Cd.seq ?_
  refine Cd.region ?_
  refine Seq.val (Runs.build rfl rfl (run_build_Wr0 _)) rfl rfl rfl ?_
  refine Seq.box rfl rfl rfl rfl rfl ?_
  intro g9 w2 n9
  have e9 := Nat.le_trans bel.size n9.ge
  have l9 := Nat.lt_of_lt_of_le k1.lt n9.ge
  replace bel := bel.step n9.below
  replace k1 := k1.step n9.below
  have k9 := n9.blk
  refine Seq.val (Runs.assign rfl rfl) rfl rfl rfl ?_
  refine Seq.nil ?_
  refine Post.weak (F' := [(0, _), (1, _), (2, _), (3, _), (4, _), (7, _)]) ⟨rfl, rfl, rfl, rfl, rfl, rfl, trivial⟩ ?_
  refine Post.then_ ?_
  refine Cd.seq ?_
  have wr : Wr w2 g9 g9 [] := ⟨Nat.le_refl _, fun d hd => (by cases hd), _, k9, Own.nil _ _ _ _⟩
  have wf := Wf.refl g9 w2
  have hg9 : g9 ≤ w2.heap.size := Nat.le_of_lt n9.lt
  refine Cd.drawJ 10 (by kernel_rfl) [] [3, 6, 9] (fun i h => by cases h) rfl rfl (.inl rfl) rfl (Wf g9) (Wf.refl g9) (fun _ _ _ => Wf.trans) (fun c w => Wr w g9 g9 (nthL [] [[], grp (sgn lg), grp (sgn lg) ++ grp (sgn nx), grp (sgn lg) ++ grp (sgn nx) ++ grp (sgn sq)] c)) ?_
  intro w3 hw3 zw3
  replace k1 := k1.step hw3
  replace wf := wf.step hw3
  replace wr := wr.step hw3
  refine ⟨wr, ?_⟩
  have zlt := k1.lt
  refine DJ.val rfl (Wf.refl g9) rfl (fun w hG => Runs.move rfl rfl) rfl ?_
  refine DJ.val rfl (Wf.refl g9) rfl (fun w hG => Runs.fieldB 0 rfl rfl Try.underlying38 rfl (by kernel_rfl)) rfl ?_
  refine DJ.val rfl (Wf.refl g9) rfl (fun w hG => Runs.loadB rfl rfl Try.underlying3 rfl (k1.wf hG) rfl) rfl ?_
  refine DJ.chain 0 rfl rfl (fun w => Enters.func rfl rfl rfl (run_enter Try.func29 (by kernel_rfl) rfl)) rfl (fun w hG wr => signed_any g9 g9 lg [] _ wr hlg (by simp)) ?_
  refine DJ.val rfl (Wf.refl g9) rfl (fun w hG => Runs.fieldB 1 rfl rfl Try.underlying38 rfl (by kernel_rfl)) rfl ?_
  refine DJ.val rfl (Wf.refl g9) rfl (fun w hG => Runs.loadB rfl rfl Try.underlying3 rfl (k1.wf hG) rfl) rfl ?_
  refine DJ.chain 1 rfl rfl (fun w => Enters.func rfl rfl rfl (run_enter Try.func29 (by kernel_rfl) rfl)) rfl (fun w hG wr => signed_any g9 g9 nx _ _ wr hnx (by omega)) ?_
  refine DJ.val rfl (Wf.refl g9) rfl (fun w hG => Runs.fieldB 2 rfl rfl Try.underlying38 rfl (by kernel_rfl)) rfl ?_
  refine DJ.val rfl (Wf.refl g9) rfl (fun w hG => Runs.loadB rfl rfl Try.underlying3 rfl (k1.wf hG) rfl) rfl ?_
  refine DJ.chain 2 rfl rfl (fun w => Enters.func rfl rfl rfl (run_enter Try.func29 (by kernel_rfl) rfl)) rfl (fun w hG wr => signed_any g9 g9 sq _ _ wr hsq (by simp only [nthL, List.length_append]; omega)) ?_
  refine DJ.nil ?_
  refine FinX.done (F' := [(0, _), (1, _), (2, _), (3, _), (4, _), (7, _)]) rfl ⟨rfl, rfl, rfl, rfl, rfl, rfl, trivial⟩ ?_
  intro w4 hw4 fw4
  replace k1 := k1.wf hw4
  replace wf := wf.wf hw4
  clear wr
  have wr := fw4
  refine Seq.nil ?_
  refine Post.weak (F' := [(0, _), (1, _), (2, _), (3, _), (4, _), (7, _)]) ⟨rfl, rfl, rfl, rfl, rfl, rfl, trivial⟩ ?_
  refine Post.then_ ?_
  refine Cd.seq ?_
  refine Cd.region ?_
  refine Seq.val (Runs.move rfl rfl) rfl rfl rfl ?_
  refine Seq.val (Runs.fieldB 3 rfl rfl Try.underlying38 rfl (by kernel_rfl)) rfl rfl rfl ?_
  refine Seq.val (Runs.loadB rfl rfl Try.underlying30 rfl k1 rfl) rfl rfl rfl ?_
  replace wr : Wr _ g9 g9 (grp (sgn lg) ++ grp (sgn nx) ++ grp (sgn sq)) := wr
  have bel2 := bel.trans ((wf.to hg9).mono e9)
  refine Seq.call (Enters.func rfl rfl rfl (run_enter Try.func30 (by kernel_rfl) rfl)) rfl rfl rfl (putN_any g9 g9 B cap A drop _ _ wr (hr.below (bel2.mono hB)) (Nat.le_trans hB e9) hd hdl (by simp only [List.length_append]; omega)) ?_
  clear wr
  rintro e w5 ⟨rfl, fw5, wr⟩
  refine ⟨_, rfl, ?_⟩
  replace k1 := k1.wf fw5
  replace wf := wf.wf fw5
  refine Seq.nil ?_
  refine Post.weak (F' := [(0, _), (1, _), (2, _), (3, _), (4, _), (7, _)]) ⟨rfl, rfl, rfl, rfl, rfl, rfl, trivial⟩ ?_
  refine Post.then_ ?_
  refine Cd.seq ?_
  refine Cd.region ?_
  refine Seq.val (Runs.move rfl rfl) rfl rfl rfl ?_
  refine Seq.val (Runs.fieldB 4 rfl rfl Try.underlying38 rfl (by kernel_rfl)) rfl rfl rfl ?_
  refine Seq.val (Runs.loadB rfl rfl Try.underlying36 rfl k1 rfl) rfl rfl rfl ?_
  have bel3 := bel.trans ((wf.to hg9).mono e9)
  refine Seq.call (Enters.func rfl rfl rfl (run_enter Try.func33 (by kernel_rfl) rfl)) rfl rfl rfl (putF_any g9 g9 B cap' A' add _ _ wr (hr'.below (bel3.mono hB)) (Nat.le_trans hB e9) hf hal (by simp only [List.length_append]; omega)) ?_
  clear wr
  rintro e w6 ⟨rfl, fw6, wr⟩
  refine ⟨_, rfl, ?_⟩
  replace k1 := k1.wf fw6
  replace wf := wf.wf fw6
  have bel4 := bel.trans ((wf.to hg9).mono e9)
  clear bel
  have bel := bel4
  refine Seq.nil ?_
  refine Post.weak (F' := [(0, _), (1, _), (2, _), (3, _), (4, _), (7, _)]) ⟨rfl, rfl, rfl, rfl, rfl, rfl, trivial⟩ ?_
  refine Post.then_ ?_
  refine Cd.seq ?_
  refine Cd.region ?_
  refine Seq.val (Runs.move rfl rfl) rfl rfl rfl ?_
  refine Seq.call (Enters.func rfl rfl rfl (run_enter Try.func36 (by kernel_rfl) rfl)) rfl rfl rfl (wbytes_any g9 g9 _ _ wr) ?_
  rintro e w15 ⟨rfl, hb15⟩
  refine ⟨_, rfl, ?_⟩
  replace k1 := k1.step hb15
  replace wr := wr.step hb15
  replace bel := bel.step hb15
  refine Seq.val (Runs.assign rfl rfl) rfl rfl rfl ?_
  refine Seq.val (Runs.assign rfl rfl) rfl rfl rfl ?_
  refine Seq.nil ?_
  refine Post.weak (F' := [(0, _), (1, _), (2, _), (3, _), (4, _), (7, _)]) ⟨rfl, rfl, rfl, rfl, rfl, rfl, trivial⟩ ?_
  refine Post.then_ ?_
  refine Cd.ret ?_
  refine Post.end2 rfl rfl rfl (.inl rfl) ?_
  refine ⟨?_, bel⟩
  simp only [encB, List.append_assoc]
theorem encode_not (lg nx sq : Int) (B : Nat) (A A' : Option Addr) (cap cap' : Nat) (drop : List Int) (add : List Fl) (w : World) (hr : Reads w B 1 A drop.length (DI drop)) (hr' : Reads w B 6 A' add.length (fcs add)) (hB : B ≤ w.heap.size) (hlaid : laidB lg nx sq drop add = false) :
    Calls Try.prog 12 #[.agg #[.int .i64 lg, .int .i64 nx, .int .i64 sq, .slice A drop.length cap, .slice A' add.length cap']] w fun e w' => e = .returned (.tuple #[.string { data := #[] }, .int .i64 1]) ∧ Grow w w' := by
  have bel := Below.refl w.heap.size w
  have hl0 := fun W (hb : Below w.heap.size w W) => laid_any lg nx sq B A A' cap cap' drop add W (hr.below (hb.mono hB)) (hr'.below (hb.mono hB)) (Nat.le_trans hB hb.size)
  rw [hlaid] at hl0
  refine Calls.start 30 Try.func12 rfl rfl rfl ?_
  refine Cd.seq ?_
  refine Cd.region ?_
  refine Seq.box rfl rfl rfl rfl rfl ?_
  intro g1 w1 n1
  have e1 := Nat.le_trans bel.size n1.ge
  replace bel := bel.step n1.below
  have k1 := n1.blk
  refine Seq.val (Runs.assign rfl rfl) rfl rfl rfl ?_
  refine Seq.val (Runs.assign rfl rfl) rfl rfl rfl ?_
  refine Seq.nil ?_
  refine Post.weak (F' := [(0, _), (1, _), (2, _), (3, _)]) ⟨rfl, rfl, rfl, rfl, trivial⟩ ?_
  refine Post.then_ ?_
  refine Cd.seq ?_
  refine Cd.seq ?_
  refine Cd.region ?_
  refine Seq.val (Runs.loadW rfl rfl Try.underlying38 rfl k1 (m := 5) (by kernel_rfl) rfl) rfl rfl rfl ?_
  refine Seq.call (Enters.func rfl rfl rfl (run_enter Try.func28 (by kernel_rfl) rfl)) rfl rfl rfl (hl0 _ bel) ?_
  rintro e w5 ⟨rfl, hb5⟩
  refine ⟨_, rfl, ?_⟩
  replace bel := bel.step hb5
  replace k1 := k1.step hb5
  refine Seq.val (Runs.not rfl rfl) rfl rfl rfl ?_
  refine Seq.nil ?_
  refine Post.weak (F' := [(0, _), (1, _), (2, _), (3, _), (7, _)]) ⟨rfl, rfl, rfl, rfl, rfl, trivial⟩ ?_
  refine Post.then_ ?_
  refine Cd.condT rfl rfl ?_
  refine Cd.seq ?_
  refine Cd.region ?_
  refine Seq.val (Runs.assign rfl rfl) rfl rfl rfl ?_
  refine Seq.val (Runs.assign rfl rfl) rfl rfl rfl ?_
  refine Seq.nil ?_
  refine Post.weak (F' := [(0, _), (1, _), (2, _), (3, _), (7, _)]) ⟨rfl, rfl, rfl, rfl, rfl, trivial⟩ ?_
  refine Post.then_ ?_
  refine Cd.ret ?_
  refine Post.then_ret ?_
  refine Post.end2 rfl rfl rfl (.inl rfl) ?_
  exact ⟨rfl, bel⟩
end Go.Proofs.Ythnnephcohljeaa

/-
  lex: signs, days, numbers, the next word: what each function answers. Condition: the text is within reach.
-/
import Derived.Test.YtijaldpmpjapiaaLexD
namespace Go.Proofs.Ytijaldpmpjapiaa
open Go.RowKit

theorem zero_string : zeroIs Try.prog 9 = some (some (.string { data := #[] })) := by kernel_rfl
theorem zero_lex_Word : zeroIs Try.prog 50 = some (some (.agg #[.int .i64 0, .string { data := #[] }, .int .i64 0, .int .i64 0])) := by kernel_rfl
theorem run_build_Word3 (a c : Int) (s : ByteArray) (w : World) : (Instr.build 50 #[(0, .int .i64 a), (1, .string s), (2, .int .i64 c)]).run Try.prog w = .ok (.agg #[.int .i64 a, .string s, .int .i64 c, .int .i64 0]) w := by
  have hu := Try.underlying50
  go_simp
theorem run_build_Word2 (a : Int) (s : ByteArray) (w : World) : (Instr.build 50 #[(0, .int .i64 a), (1, .string s)]).run Try.prog w = .ok (.agg #[.int .i64 a, .string s, .int .i64 0, .int .i64 0]) w := by
  have hu := Try.underlying50
  go_simp
theorem run_build_Word0 (w : World) : (Instr.build 50 #[]).run Try.prog w = .ok (.agg #[.int .i64 0, .string { data := #[] }, .int .i64 0, .int .i64 0]) w := by
  have hu := Try.underlying50
  go_simp
theorem hasPrefixL_lite (l p : List Nat) (w : World) (hl : ∀ x ∈ l, x < 256) (hp : ∀ x ∈ p, x < 256) :
    Calls Try.prog 138 #[.string (strOf l), .string (strOf p)] w fun e w' => e = .returned (.bool (decide (l.take p.length = p))) ∧ w = w' := by
  have h2 : ∀ x ∈ l.take p.length, x < 256 := fun x hx => hl x (List.mem_of_mem_take hx)
  refine Calls.start 18 Try.func138 rfl rfl rfl ?_
  refine Cd.seq ?_
  refine Cd.region ?_
  refine Seq.val (Runs.assign rfl rfl) rfl rfl rfl ?_
  refine Seq.nil ?_
  refine Post.weak (F' := [(0, _), (1, _), (4, _)]) ⟨rfl, rfl, rfl, trivial⟩ ?_
  refine Post.then_ ?_
  refine Cd.seq ?_
  refine Cd.region ?_
  refine Seq.val (Runs.move rfl rfl) rfl rfl rfl ?_
  refine Seq.val (Runs.lenL rfl rfl Try.underlying9) rfl rfl rfl ?_
  refine Seq.val (Runs.move rfl rfl) rfl rfl rfl ?_
  refine Seq.val (Runs.lenL rfl rfl Try.underlying9) rfl rfl rfl ?_
  refine Seq.val (Runs.geq rfl rfl rfl) rfl rfl rfl ?_
  refine Seq.val (Runs.move rfl rfl) rfl rfl rfl ?_
  refine SeqC.start ?_
  refine SeqC.open rfl rfl rfl rfl rfl rfl rfl (fun hcx => Runs.move rfl rfl) ?_
  refine SeqC.next rfl rfl rfl rfl rfl rfl rfl (fun hcx => Runs.move rfl rfl) ?_
  refine SeqC.next rfl rfl rfl rfl rfl rfl rfl (fun hcx => Runs.lenL rfl rfl Try.underlying9) ?_
  refine SeqC.next rfl rfl rfl rfl rfl rfl rfl (fun hcx => Runs.sliceTo (j := p.length) rfl rfl rfl Try.underlying9 rfl (by simp [topX] at hcx; omega)) ?_
  refine SeqC.next rfl rfl rfl rfl rfl rfl rfl (fun hcx => Runs.move rfl rfl) ?_
  refine SeqC.next rfl rfl rfl rfl rfl rfl rfl (fun hcx => Runs.eqlL (a := l.take p.length) (b := p) rfl rfl rfl h2 hp) ?_
  refine SeqC.and rfl rfl rfl rfl rfl rfl rfl ?_
  refine Seq.val (Runs.assign rfl rfl) rfl rfl rfl ?_
  refine Seq.nil ?_
  refine Post.weak (F' := [(0, _), (1, _), (4, _)]) ⟨rfl, rfl, rfl, trivial⟩ ?_
  refine Post.then_ ?_
  refine Cd.ret ?_
  refine Post.end1 rfl rfl (.inl rfl) ?_
  refine ⟨ret1 (bool_eq ?_), rfl⟩
  rw [Bool.eq_iff_iff]
  simp
  intro h
  have := congrArg List.length h
  rw [List.length_take] at this
  omega
theorem hasPrefixL_any (l p : List Nat) (w : World) (hl : ∀ x ∈ l, x < 256) (hp : ∀ x ∈ p, x < 256) :
    Calls Try.prog 93 #[.string (strOf l), .string (strOf p)] w fun e w' => e = .returned (.bool (decide (l.take p.length = p))) ∧ w = w' := by
  refine Calls.start 8 Try.func93 rfl rfl rfl ?_
  refine Cd.seq ?_
  refine Cd.region ?_
  refine Seq.val (Runs.assign rfl rfl) rfl rfl rfl ?_
  refine Seq.nil ?_
  refine Post.weak (F' := [(0, _), (1, _), (4, _)]) ⟨rfl, rfl, rfl, trivial⟩ ?_
  refine Post.then_ ?_
  refine Cd.seq ?_
  refine Cd.region ?_
  refine Seq.val (Runs.move rfl rfl) rfl rfl rfl ?_
  refine Seq.val (Runs.move rfl rfl) rfl rfl rfl ?_
  refine Seq.call (Enters.func rfl rfl rfl (run_enter Try.func138 (by kernel_rfl) rfl)) rfl rfl rfl (hasPrefixL_lite l p _ hl hp) ?_
  rintro e w2 ⟨rfl, rfl⟩
  refine ⟨_, rfl, ?_⟩
  refine Seq.val (Runs.assign rfl rfl) rfl rfl rfl ?_
  refine Seq.nil ?_
  refine Post.weak (F' := [(0, _), (1, _), (4, _)]) ⟨rfl, rfl, rfl, trivial⟩ ?_
  refine Post.then_ ?_
  refine Cd.ret ?_
  refine Post.end1 rfl rfl (.inl rfl) ?_
  exact ⟨rfl, rfl⟩
def signsL : List (List Nat) := [[60, 61], [33, 61], [62, 61], [40], [41], [44], [43], [45], [42], [47], [60], [61], [62], [38], [124], [33]]
def strV (L : List (List Nat)) : List Value := L.map fun s => .string (strOf s)
theorem signs_any (w : World) : Calls Try.prog 92 #[] w fun e w' => ∃ g, e = .returned (.slice (some ⟨g, 0, none⟩) 16 16) ∧ Blk w' g 9 (strV signsL).toArray ∧ Grow w w' := by
  have bel := Below.refl w.heap.size w
  refine Calls.start 2 Try.func92 rfl rfl rfl ?_
  refine Cd.seq ?_
  refine Cd.region ?_
  refine Seq.val (Runs.assign rfl rfl) rfl rfl rfl ?_
  refine Seq.nil ?_
  refine Post.weak (F' := [(0, _)]) ⟨rfl, trivial⟩ ?_
  refine Post.then_ ?_
  refine Cd.seq ?_
  refine Cd.region ?_
  refine Seq.slice (vs := [_, _, _, _, _, _, _, _, _, _, _, _, _, _, _, _]) (s := 1) rfl rfl rfl Try.underlying85 (by kernel_rfl) (zero_string) (by omega) (by omega) ⟨rfl, rfl, rfl, rfl, rfl, rfl, rfl, rfl, rfl, rfl, rfl, rfl, rfl, rfl, rfl, rfl, trivial⟩ rfl rfl rfl ?_
  intro g1 w1 n1
  have e1 := Nat.le_trans bel.size n1.ge
  replace bel := bel.step n1.below
  have k1 := n1.blk
  refine Seq.val (Runs.assign rfl rfl) rfl rfl rfl ?_
  refine Seq.nil ?_
  refine Post.weak (F' := [(0, _)]) ⟨rfl, trivial⟩ ?_
  refine Post.then_ ?_
  refine Cd.ret ?_
  refine Post.end1 rfl rfl (.inl rfl) ?_
  exact ⟨_, rfl, k1, bel⟩
def signW (l : List Nat) : Option (List Nat) := signsL.find? fun s => decide (l.take s.length = s)
/-- The number of a text that begins with a digit. -/
def amt0 (t : List Nat) : Option Int := if t.all digB = true ∧ (1 < t.length → t[0]? ≠ some 48) ∧ valD t ≤ 9223372036854775807 then some (valD t : Int) else none
theorem all_dg {t : List Nat} : t.all digB = true ↔ ∀ c ∈ t, isDg c := by
  rw [List.all_eq_true]
  constructor
  · intro h c hc
    have := h c hc
    unfold digB at this
    simp at this
    exact this
  · intro h c hc
    have := h c hc
    unfold isDg at this
    unfold digB
    simp
    omega
theorem amt0_of {t : List Nat} {v : Int} {ok : Bool} (h : AmtA t 0 v ok) (c : Nat) (r : List Nat) (ht : t = c :: r) (hc : digB c = true) : amt0 t = if ok then some v else none := by
  have hc2 : 48 ≤ c ∧ c ≤ 57 := by unfold digB at hc; simp at hc; exact hc
  cases ok with
  | true =>
    obtain ⟨-, -, hv, F, B, hf⟩ := h.1 rfl
    have h0 := hf.len
    have hB : B = [] := List.eq_nil_of_length_eq_zero (by simpa using h0)
    subst hB
    have he := hf.eq
    unfold FormL at he
    rw [if_neg (show ¬ 0 < (0 : Int).toNat by decide), List.append_nil] at he
    have hneg : ¬ v < 0 := by
      intro hn
      rw [if_pos hn, ht] at he
      injection he with he
      omega
    rw [if_neg hneg] at he
    have he2 : t = F := he
    subst he2
    have hval := hf.val
    rw [List.append_nil] at hval
    have hcond : t.all digB = true ∧ (1 < t.length → t[0]? ≠ some 48) ∧ valD t ≤ 9223372036854775807 := ⟨all_dg.2 hf.f, hf.lead, by unfold I64 at hv; omega⟩
    unfold amt0
    rw [if_pos hcond, if_pos rfl, hval]
    congr 1
    omega
  | false =>
    obtain ⟨-, hno⟩ := h.2 rfl
    unfold amt0
    rw [if_neg]
    · rfl
    · rintro ⟨h1, h2, h3⟩
      refine hno (by omega) (by omega) (valD t : Int) (by unfold I64; omega) t [] ⟨all_dg.1 h1, by simp, by simp, by rw [ht]; simp, h2, by rw [List.append_nil]; omega, ?_⟩
      unfold FormL
      rw [if_neg (show ¬ (valD t : Int) < 0 by omega), if_neg (show ¬ 0 < (0 : Int).toNat by decide), List.append_nil]
      rfl
def dayOk (l : List Nat) : Bool := decide (10 ≤ l.length) && !(decide (10 < l.length) && partB (l.getD 10 0)) && dateOk (l.take 10)
theorem day_any (l : List Nat) (w : World) (hl : ∀ x ∈ l, x < 256) (hlen : l.length ≤ 9223372036854775807) :
    Calls Try.prog 90 #[.string (strOf l)] w fun e w' => ∃ a b c, e = .returned (.tuple #[.agg #[.int .i64 a, .string (strOf b), .int .i64 c, .int .i64 0], .bool (dayOk l)]) ∧ (dayOk l = true → a = 2 ∧ b = l.take 10 ∧ c = dateZ (l.take 10)) ∧ Grow w w' := by
  have bel := Below.refl w.heap.size w
  have h0 : 10 < l.length → l[10]? = some (l.getD 10 0) := by
    intro h
    rw [List.getD_eq_getElem?_getD, List.getElem?_eq_getElem h]; rfl
  have h1 : l.getD 10 0 < 256 := by
    rw [List.getD_eq_getElem?_getD]
    cases hh : l[10]? with
    | none => simp
    | some c => exact hl c (List.mem_of_getElem? hh)
  unfold dayOk
  generalize l.getD 10 0 = c0 at *
  refine Calls.start 31 Try.func90 rfl rfl rfl ?_
  refine Cd.seq ?_
  refine Cd.region ?_
  refine Seq.alloc rfl (run_zero zero_lex_Word) rfl rfl rfl ?_
  intro g2 w1 n2
  have e2 := Nat.le_trans bel.size n2.ge
  replace bel := bel.step n2.below
  have k2 := n2.blk
  refine Seq.val (Runs.assign rfl rfl) rfl rfl rfl ?_
  refine Seq.nil ?_
  refine Post.weak (F' := [(0, _), (2, _), (3, _)]) ⟨rfl, rfl, rfl, trivial⟩ ?_
  refine Post.then_ ?_
  refine Cd.seq ?_
  refine Cd.seq ?_
  refine Cd.region ?_
  refine Seq.val (Runs.move rfl rfl) rfl rfl rfl ?_
  refine Seq.val (Runs.lenL rfl rfl Try.underlying9) rfl rfl rfl ?_
  refine Seq.val (Runs.lss rfl rfl rfl) rfl rfl rfl ?_
  refine Seq.val (Runs.move rfl rfl) rfl rfl rfl ?_
  refine SeqC.start ?_
  refine SeqC.open rfl rfl rfl rfl rfl rfl rfl (fun hcx => Runs.move rfl rfl) ?_
  refine SeqC.next rfl rfl rfl rfl rfl rfl rfl (fun hcx => Runs.lenL rfl rfl Try.underlying9) ?_
  refine SeqC.next rfl rfl rfl rfl rfl rfl rfl (fun hcx => Runs.gtr rfl rfl rfl) ?_
  refine SeqC.next rfl rfl rfl rfl rfl rfl rfl (fun hcx => Runs.move rfl rfl) ?_
  refine SeqC.open rfl rfl rfl rfl rfl rfl rfl (fun hcx => Runs.move rfl rfl) ?_
  refine SeqC.next rfl rfl rfl rfl rfl rfl rfl (fun hcx => Runs.indexL (l := l) (j := 10) (c := c0) rfl rfl rfl Try.underlying9 rfl (h0 (by simp [topX] at hcx; omega)) h1) ?_
  refine SeqC.nextC rfl rfl rfl rfl rfl rfl rfl (fun hcx => Enters.func rfl rfl rfl (run_enter Try.func57 (by kernel_rfl) rfl)) (fun hcx => part_any _ _) ?_
  intro w2 hw2
  replace bel := bel.step hw2
  replace k2 := k2.step hw2
  refine SeqC.andG rfl rfl rfl rfl rfl rfl rfl rfl rfl rfl rfl ?_
  refine SeqC.or rfl rfl rfl rfl rfl rfl rfl ?_
  refine Seq.nil ?_
  refine Post.weak (F' := [(0, _), (2, _), (3, _), (18, _)]) ⟨rfl, rfl, rfl, rfl, trivial⟩ ?_
  refine Post.then_ ?_
  refine Cd.cond rfl (fun h => ?_) (fun h => ?_)
  · have hf : (decide (10 ≤ l.length) && !(decide (10 < l.length) && partB c0)) = false := by
      cases hp : partB c0 with
      | false => rw [hp] at h; simp at h ⊢; omega
      | true => rw [hp] at h; simp at h ⊢; omega
    rw [hf]
    refine Cd.seq ?_
    refine Cd.region ?_
    refine Seq.val (Runs.build rfl rfl (run_build_Word0 _)) rfl rfl rfl ?_
    refine Seq.storeN rfl rfl rfl rfl (m := 4) (by kernel_rfl) rfl (by repeat' first | exact trivial | apply And.intro | rfl | assumption) k2 (by simp [Value.cells]) rfl rfl ?_
    intro w3 pw3
    replace bel := bel.put k2 pw3 e2
    replace k2 := pw3.blk
    refine Seq.val (Runs.assign rfl rfl) rfl rfl rfl ?_
    refine Seq.nil ?_
    refine Post.weak (F' := [(0, _), (2, _), (3, _), (18, _)]) ⟨rfl, rfl, rfl, rfl, trivial⟩ ?_
    refine Post.then_ ?_
    refine Cd.ret ?_
    refine Post.then_ret ?_
    refine Post.endC2 rfl rfl rfl k2 Try.underlying50 rfl (m := 4) (by kernel_rfl) rfl (.inl rfl) ?_
    exact ⟨0, [], 0, rfl, (fun h => by cases h), bel⟩
  · have hf : (decide (10 ≤ l.length) && !(decide (10 < l.length) && partB c0)) = true := by
      cases hp : partB c0 with
      | false => rw [hp] at h; simp at h ⊢; omega
      | true => rw [hp] at h; simp at h ⊢; omega
    have h10 : 10 ≤ l.length := by simp at hf; exact hf.1
    rw [hf, Bool.true_and]
    refine Cd.skip ?_
    refine Post.then_ ?_
    refine Cd.seq ?_
    refine Cd.region ?_
    refine Seq.val (Runs.move rfl rfl) rfl rfl rfl ?_
    refine Seq.val (Runs.sliceTo (j := 10) rfl rfl rfl Try.underlying9 rfl h10) rfl rfl rfl ?_
    refine Seq.call (Enters.func rfl rfl rfl (run_enter Try.func136 (by kernel_rfl) rfl)) rfl rfl rfl (dateParse_any (l.take 10) _ (take_lt hl 10) (by rw [List.length_take]; omega)) ?_
    rintro e w5 ⟨rfl, hb5⟩
    refine ⟨_, rfl, ?_⟩
    replace bel := bel.step hb5
    replace k2 := k2.step hb5
    refine Seq.val (Runs.move rfl rfl) rfl rfl rfl ?_
    refine Seq.val (Runs.extract rfl rfl rfl) rfl rfl rfl ?_
    refine Seq.val (Runs.extract rfl rfl rfl) rfl rfl rfl ?_
    refine Seq.val (Runs.assign rfl rfl) rfl rfl rfl ?_
    refine Seq.val (Runs.assign rfl rfl) rfl rfl rfl ?_
    refine Seq.nil ?_
    refine Post.weak (F' := [(0, _), (2, _), (3, _), (4, _), (5, _), (18, _)]) ⟨rfl, rfl, rfl, rfl, rfl, rfl, trivial⟩ ?_
    refine Post.then_ ?_
    refine Cd.seq ?_
    refine Cd.region ?_
    refine Seq.val (Runs.move rfl rfl) rfl rfl rfl ?_
    refine Seq.val (Runs.sliceTo (j := 10) rfl rfl rfl Try.underlying9 rfl h10) rfl rfl rfl ?_
    refine Seq.val (Runs.move rfl rfl) rfl rfl rfl ?_
    refine Seq.val (Runs.build rfl rfl (run_build_Word3 _ _ _ _)) rfl rfl rfl ?_
    refine Seq.val (Runs.move rfl rfl) rfl rfl rfl ?_
    refine Seq.storeN rfl rfl rfl rfl (m := 4) (by kernel_rfl) rfl (by repeat' first | exact trivial | apply And.intro | rfl | assumption) k2 (by simp [Value.cells]) rfl rfl ?_
    intro w3 pw3
    replace bel := bel.put k2 pw3 e2
    replace k2 := pw3.blk
    refine Seq.val (Runs.assign rfl rfl) rfl rfl rfl ?_
    refine Seq.nil ?_
    refine Post.weak (F' := [(0, _), (2, _), (3, _), (4, _), (5, _), (18, _)]) ⟨rfl, rfl, rfl, rfl, rfl, rfl, trivial⟩ ?_
    refine Post.then_ ?_
    refine Cd.ret ?_
    refine Post.endC2 rfl rfl rfl k2 Try.underlying50 rfl (m := 4) (by kernel_rfl) rfl (.inl rfl) ?_
    exact ⟨2, l.take 10, dateZ (l.take 10), rfl, fun _ => ⟨rfl, rfl, rfl⟩, bel⟩
theorem number_any (l : List Nat) (w : World) (hl : ∀ x ∈ l, x < 256) (hlen : l.length ≤ 9223372036854775807) :
    Calls Try.prog 91 #[.string (strOf l)] w fun e w' => ∃ v ok, e = .returned (.tuple #[.agg #[.int .i64 1, .string (strOf (l.take (runN partB l))), .int .i64 v, .int .i64 0], .bool ok]) ∧ AmtA (l.take (runN partB l)) 0 v ok ∧ Grow w w' := by
  have bel := Below.refl w.heap.size w
  have hr := runN_le partB l
  refine Calls.start 22 Try.func91 rfl rfl rfl ?_
  refine Cd.seq ?_
  refine Cd.region ?_
  refine Seq.alloc rfl (run_zero zero_lex_Word) rfl rfl rfl ?_
  intro g2 w1 n2
  have e2 := Nat.le_trans bel.size n2.ge
  replace bel := bel.step n2.below
  have k2 := n2.blk
  refine Seq.val (Runs.assign rfl rfl) rfl rfl rfl ?_
  refine Seq.nil ?_
  refine Post.weak (F' := [(0, _), (2, _), (3, _)]) ⟨rfl, rfl, rfl, trivial⟩ ?_
  refine Post.then_ ?_
  refine Cd.seq ?_
  refine Cd.region ?_
  refine Seq.val (Runs.move rfl rfl) rfl rfl rfl ?_
  refine Seq.call (Enters.func rfl rfl rfl (run_enter Try.func56 (by kernel_rfl) rfl)) rfl rfl rfl (run_part l _ hl hlen) ?_
  rintro e w2 ⟨rfl, hb2⟩
  refine ⟨_, rfl, ?_⟩
  replace bel := bel.step hb2
  replace k2 := k2.step hb2
  generalize runN partB l = n at *
  refine Seq.val (Runs.assign rfl rfl) rfl rfl rfl ?_
  refine Seq.nil ?_
  refine Post.weak (F' := [(0, _), (2, _), (3, _), (4, _)]) ⟨rfl, rfl, rfl, rfl, trivial⟩ ?_
  refine Post.then_ ?_
  refine Cd.seq ?_
  refine Cd.region ?_
  refine Seq.val (Runs.move rfl rfl) rfl rfl rfl ?_
  refine Seq.val (Runs.move rfl rfl) rfl rfl rfl ?_
  refine Seq.val (Runs.sliceTo (j := n) rfl rfl rfl Try.underlying9 rfl hr) rfl rfl rfl ?_
  refine Seq.call (Enters.func rfl rfl rfl (run_enter Try.func137 (by kernel_rfl) rfl)) rfl rfl rfl (amount_any (l.take n) 0 _ (take_lt hl n) (by rw [List.length_take]; omega) (by unfold I64; omega)) ?_
  rintro e w3 ⟨v, ok, rfl, ha, hb3⟩
  refine ⟨_, rfl, ?_⟩
  replace bel := bel.step hb3
  replace k2 := k2.step hb3
  refine Seq.val (Runs.move rfl rfl) rfl rfl rfl ?_
  refine Seq.val (Runs.extract rfl rfl rfl) rfl rfl rfl ?_
  refine Seq.val (Runs.extract rfl rfl rfl) rfl rfl rfl ?_
  refine Seq.val (Runs.assign rfl rfl) rfl rfl rfl ?_
  refine Seq.val (Runs.assign rfl rfl) rfl rfl rfl ?_
  refine Seq.nil ?_
  refine Post.weak (F' := [(0, _), (2, _), (3, _), (4, _), (5, _), (6, _)]) ⟨rfl, rfl, rfl, rfl, rfl, rfl, trivial⟩ ?_
  refine Post.then_ ?_
  refine Cd.seq ?_
  refine Cd.region ?_
  refine Seq.val (Runs.move rfl rfl) rfl rfl rfl ?_
  refine Seq.val (Runs.move rfl rfl) rfl rfl rfl ?_
  refine Seq.val (Runs.sliceTo (j := n) rfl rfl rfl Try.underlying9 rfl hr) rfl rfl rfl ?_
  refine Seq.val (Runs.move rfl rfl) rfl rfl rfl ?_
  refine Seq.val (Runs.build rfl rfl (run_build_Word3 _ _ _ _)) rfl rfl rfl ?_
  refine Seq.val (Runs.move rfl rfl) rfl rfl rfl ?_
  refine Seq.storeN rfl rfl rfl rfl (m := 4) (by kernel_rfl) rfl (by repeat' first | exact trivial | apply And.intro | rfl | assumption) k2 (by simp [Value.cells]) rfl rfl ?_
  intro w2 pw2
  replace bel := bel.put k2 pw2 e2
  replace k2 := pw2.blk
  refine Seq.val (Runs.assign rfl rfl) rfl rfl rfl ?_
  refine Seq.nil ?_
  refine Post.weak (F' := [(0, _), (2, _), (3, _), (4, _), (5, _), (6, _)]) ⟨rfl, rfl, rfl, rfl, rfl, rfl, trivial⟩ ?_
  refine Post.then_ ?_
  refine Cd.ret ?_
  refine Post.endC2 rfl rfl rfl k2 Try.underlying50 rfl (m := 4) (by kernel_rfl) rfl (.inl rfl) ?_
  exact ⟨v, ok, rfl, ha, bel⟩
end Go.Proofs.Ytijaldpmpjapiaa

/-
  num's Amount: what it answers. Condition: the text is within reach.
-/
import Derived.Test.YtijaldpmpjapiaaTNumP
import Derived.Test.YtijaldpmpjapiaaTNumT
namespace Go.Proofs.Ytijaldpmpjapiaa
open Go.RowKit

/-- A text without its sign. -/
def restOf (l : List Nat) : List Nat := if l.head? = some 45 then l.drop 1 else l
theorem idx_append (F R : List Nat) (c : Nat) (h : c ∉ F) : idx (F ++ c :: R) c = F.length := by
  induction F with
  | nil => simp [idx, List.findIdx_cons]
  | cons x F ih =>
    have hx : (x == c) = false := beq_eq_false_iff_ne.2 (fun e => h (by simp [e]))
    have := ih (fun hm => h (List.mem_cons_of_mem _ hm))
    unfold idx at this ⊢
    rw [List.cons_append, List.findIdx_cons, hx, List.length_cons, ← this]
    rfl
theorem form_amt {l : List Nat} {d : Nat} {y : Int} {F B : List Nat} (h : Form l d y F B) : (l.head? = some 45 ↔ y < 0) ∧ (46 ∈ restOf l ↔ 0 < d) ∧ cutA (restOf l) 46 = F ∧ cutB (restOf l) 46 = B := by
  obtain ⟨hf, hb, hlen, hpos, hlead, hval, heq⟩ := h
  have hF46 : 46 ∉ F := fun hm => by have := hf 46 hm; unfold isDg at this; omega
  have hh : (l.head? = some 45) ↔ y < 0 := by
    rw [heq]
    unfold FormL
    by_cases hx : y < 0
    · simp [hx]
    · cases F with
      | nil => simp at hpos
      | cons c F =>
        have := hf c (List.mem_cons_self ..)
        unfold isDg at this
        simp [hx]
        omega
  have hr : restOf l = F ++ (if 0 < d then 46 :: B else []) := by
    unfold restOf
    by_cases hx : y < 0
    · rw [if_pos (hh.2 hx), heq]
      unfold FormL
      rw [if_pos hx]
      rfl
    · rw [if_neg (fun h => hx (hh.1 h)), heq]
      unfold FormL
      rw [if_neg hx]
      rfl
  refine ⟨hh, ?_, ?_, ?_⟩
  · rw [hr]
    by_cases hd : 0 < d
    · simp [hd]
    · simp [hd, hF46]
  · rw [hr]
    unfold cutA
    by_cases hd : 0 < d
    · rw [if_pos hd, if_pos (by simp), idx_append _ _ _ hF46, List.take_left]
    · rw [if_neg hd, List.append_nil, if_neg hF46]
  · rw [hr]
    unfold cutB
    by_cases hd : 0 < d
    · rw [if_pos hd, if_pos (by simp), idx_append _ _ _ hF46, ← List.drop_drop, List.drop_left]
      rfl
    · rw [if_neg hd, List.append_nil, if_neg hF46]
      exact (List.eq_nil_of_length_eq_zero (by omega)).symm
theorem amt_form {l : List Nat} {d : Nat} {x : Int} (hp : 46 ∈ restOf l ↔ 0 < d) (hb : (cutB (restOf l) 46).length = d) (hf : 0 < (cutA (restOf l) 46).length) (hlead : 1 < (cutA (restOf l) 46).length → (cutA (restOf l) 46)[0]? ≠ some 48)
    (hdg : ∀ c ∈ cutA (restOf l) 46 ++ cutB (restOf l) 46, isDg c) (hx : valD (cutA (restOf l) 46 ++ cutB (restOf l) 46) = x.natAbs) (hs : x < 0 ↔ l.head? = some 45) : Form l d x (cutA (restOf l) 46) (cutB (restOf l) 46) := by
  refine ⟨fun c hc => hdg c (List.mem_append_left _ hc), fun c hc => hdg c (List.mem_append_right _ hc), hb, hf, hlead, hx, ?_⟩
  have hr : restOf l = cutA (restOf l) 46 ++ (if 0 < d then 46 :: cutB (restOf l) 46 else []) := by
    by_cases hd : 0 < d
    · have hm := hp.2 hd
      unfold cutA cutB
      rw [if_pos hm, if_pos hm, if_pos hd]
      exact (idx_split _ _ hm).2.2
    · have hm : ¬ 46 ∈ restOf l := fun h => hd (hp.1 h)
      unfold cutA
      rw [if_neg hm, if_neg hd, List.append_nil]
  unfold FormL
  rw [← hr]
  unfold restOf
  by_cases h : l.head? = some 45
  · rw [if_pos (hs.2 h), if_pos h]
    cases l with
    | nil => simp at h
    | cons c l => simp at h; subst h; rfl
  · rw [if_neg (fun h0 => h (hs.1 h0)), if_neg h]
    rfl
/-- The answer of a text: its number, and whether it is one. -/
def AmtA (l : List Nat) (d x : Int) (b : Bool) : Prop :=
  (b = true → 0 ≤ d ∧ d ≤ 9 ∧ I64 x ∧ ∃ F B, Form l d.toNat x F B) ∧ (b = false → x = 0 ∧ (0 ≤ d → d ≤ 9 → ∀ y, I64 y → ∀ F B, ¬ Form l d.toNat y F B))
theorem AmtA.uniq {l : List Nat} {d x y : Int} {b c : Bool} (h : AmtA l d x b) (k : AmtA l d y c) : x = y ∧ b = c := by
  cases b with
  | true =>
    obtain ⟨h1, h2, h3, F, B, h4⟩ := h.1 rfl
    cases c with
    | true =>
      obtain ⟨-, -, -, F', B', k4⟩ := k.1 rfl
      exact ⟨(signZ_form h4).symm.trans (signZ_form k4), rfl⟩
    | false => exact absurd h4 ((k.2 rfl).2 h1 h2 x h3 F B)
  | false =>
    obtain ⟨h1, h2⟩ := h.2 rfl
    cases c with
    | true =>
      obtain ⟨k1, k2, k3, F, B, k4⟩ := k.1 rfl
      exact absurd k4 (h2 k1 k2 y k3 F B)
    | false => exact ⟨by rw [h1, (k.2 rfl).1], rfl⟩
theorem restOf_lt {l : List Nat} (hl : ∀ x ∈ l, x < 256) : ∀ x ∈ restOf l, x < 256 := by
  unfold restOf
  split
  · exact fun x hx => hl x (List.mem_of_mem_drop hx)
  · exact hl
theorem restOf_len (l : List Nat) : (restOf l).length ≤ l.length := by
  unfold restOf
  split
  · rw [List.length_drop]; omega
  · omega
theorem cutA_sub {l : List Nat} {c : Nat} : (∀ x ∈ cutA l c, x ∈ l) ∧ (cutA l c).length + (cutB l c).length ≤ l.length := by
  unfold cutA cutB
  constructor
  · split
    · exact fun x hx => List.mem_of_mem_take hx
    · exact fun x hx => hx
  · split
    · rename_i h
      have := (idx_split l c h).1
      rw [List.length_take, List.length_drop]; omega
    · simp
theorem cutB_sub {l : List Nat} {c : Nat} : ∀ x ∈ cutB l c, x ∈ l := by
  unfold cutB
  split
  · exact fun x hx => List.mem_of_mem_drop hx
  · exact fun x hx => by simp at hx

set_option maxHeartbeats 1000000 in
theorem amount_any (l : List Nat) (d : Int) (w : World) (hl : ∀ x ∈ l, x < 256) (hn : l.length ≤ 9223372036854775807) (hd : I64 d) :
    Calls Try.prog 137 #[.string (strOf l), .int .i64 d] w fun e w' => ∃ x b, e = .returned (.tuple #[.int .i64 x, .bool b]) ∧ AmtA l d x b ∧ Grow w w' := by
  have bel := Below.refl w.heap.size w
  refine Calls.start 95 Try.func137 rfl rfl rfl ?_
  refine Cd.seq ?_
  refine Cd.region ?_
  refine Seq.val (Runs.assign rfl rfl) rfl rfl rfl ?_
  refine Seq.val (Runs.assign rfl rfl) rfl rfl rfl ?_
  refine Seq.nil ?_
  refine Post.weak (F' := [(0, _), (1, _), (4, _), (5, _)]) ⟨rfl, rfl, rfl, rfl, trivial⟩ ?_
  refine Post.then_ ?_
  refine Cd.seq ?_
  refine Cd.seq ?_
  refine Cd.region ?_
  refine Seq.val (Runs.move rfl rfl) rfl rfl rfl ?_
  refine Seq.val (Runs.lss rfl rfl rfl) rfl rfl rfl ?_
  refine Seq.val (Runs.move rfl rfl) rfl rfl rfl ?_
  refine SeqC.start ?_
  refine SeqC.open rfl rfl rfl rfl rfl rfl rfl (fun hcx => Runs.move rfl rfl) ?_
  refine SeqC.next rfl rfl rfl rfl rfl rfl rfl (fun hcx => Runs.gtr rfl rfl rfl) ?_
  refine SeqC.or rfl rfl rfl rfl rfl rfl rfl ?_
  refine Seq.nil ?_
  refine Post.weak (F' := [(0, _), (1, _), (4, _), (5, _), (21, _)]) ⟨rfl, rfl, rfl, rfl, rfl, trivial⟩ ?_
  refine Post.then_ ?_
  refine Cd.cond rfl (fun h => ?_) (fun h => ?_)
  · skip
    refine Cd.seq ?_
    refine Cd.region ?_
    refine Seq.val (Runs.assign rfl rfl) rfl rfl rfl ?_
    refine Seq.val (Runs.assign rfl rfl) rfl rfl rfl ?_
    refine Seq.nil ?_
    refine Post.weak (F' := [(0, _), (1, _), (4, _), (5, _), (21, _)]) ⟨rfl, rfl, rfl, rfl, rfl, trivial⟩ ?_
    refine Post.then_ ?_
    refine Cd.ret ?_
    refine Post.then_ret ?_
    refine Post.end2 rfl rfl rfl (.inl rfl) ?_
    exact ⟨0, false, rfl, ⟨fun h => (by cases h), fun _ => ⟨rfl, fun h1 h2 => (by simp at h; omega)⟩⟩, bel⟩
  obtain ⟨D, rfl⟩ : ∃ D : Nat, d = (D : Int) := ⟨d.toNat, by simp at h; omega⟩
  have hD : D ≤ 9 := by simp at h; omega
  clear h
  have hno : (∀ y, I64 y → ∀ F B, ¬ Form l D y F B) → AmtA l (D : Int) 0 false := fun h => ⟨fun h => (by cases h), fun _ => ⟨rfl, fun _ _ => by rw [Int.toNat_natCast]; exact h⟩⟩
  have hrl := restOf_lt hl
  have hrn := restOf_len l
  have hrd : (if l.head? = some 45 then l.drop 1 else l) = restOf l := rfl
  refine Cd.skip ?_
  refine Post.then_ ?_
  refine Cd.seq ?_
  refine Cd.region ?_
  refine Seq.val (Runs.move rfl rfl) rfl rfl rfl ?_
  refine Seq.call (Enters.func rfl rfl rfl (run_enter Try.func161 (by kernel_rfl) rfl)) rfl rfl rfl (cutPrefix_any l 45 _ hl (by omega)) ?_
  rintro e w2 ⟨rfl, rfl⟩
  refine ⟨_, rfl, ?_⟩
  rw [hrd]
  refine Seq.val (Runs.move rfl rfl) rfl rfl rfl ?_
  refine Seq.val (Runs.extract rfl rfl rfl) rfl rfl rfl ?_
  refine Seq.val (Runs.extract rfl rfl rfl) rfl rfl rfl ?_
  refine Seq.val (Runs.assign rfl rfl) rfl rfl rfl ?_
  refine Seq.val (Runs.assign rfl rfl) rfl rfl rfl ?_
  refine Seq.nil ?_
  refine Post.weak (F' := [(0, _), (1, _), (4, _), (5, _), (6, _), (7, _), (21, _)]) ⟨rfl, rfl, rfl, rfl, rfl, rfl, rfl, trivial⟩ ?_
  refine Post.then_ ?_
  refine Cd.seq ?_
  refine Cd.region ?_
  refine Seq.val (Runs.move rfl rfl) rfl rfl rfl ?_
  refine Seq.call (Enters.func rfl rfl rfl (run_enter Try.func162 (by kernel_rfl) rfl)) rfl rfl rfl (cut_any (restOf l) 46 _ hrl (by omega) (by omega)) ?_
  rintro e w3 ⟨rfl, hb3⟩
  refine ⟨_, rfl, ?_⟩
  replace bel := bel.step hb3
  have hA := cutA_sub (l := restOf l) (c := 46)
  have hB := cutB_sub (l := restOf l) (c := 46)
  have hFl : ∀ x ∈ cutA (restOf l) 46, x < 256 := fun x hx => hrl x (hA.1 x hx)
  have hBl : ∀ x ∈ cutB (restOf l) 46, x < 256 := fun x hx => hrl x (hB x hx)
  have hlen := hA.2
  have hform := fun y F B (h : Form l D y F B) => form_amt h
  have hmk := fun x => amt_form (l := l) (d := D) (x := x)
  generalize hF : cutA (restOf l) 46 = F at *
  generalize hBd : cutB (restOf l) 46 = B at *
  refine Seq.val (Runs.move rfl rfl) rfl rfl rfl ?_
  refine Seq.val (Runs.extract rfl rfl rfl) rfl rfl rfl ?_
  refine Seq.val (Runs.extract rfl rfl rfl) rfl rfl rfl ?_
  refine Seq.val (Runs.extract rfl rfl rfl) rfl rfl rfl ?_
  refine Seq.val (Runs.assign rfl rfl) rfl rfl rfl ?_
  refine Seq.val (Runs.assign rfl rfl) rfl rfl rfl ?_
  refine Seq.val (Runs.assign rfl rfl) rfl rfl rfl ?_
  refine Seq.nil ?_
  refine Post.weak (F' := [(0, _), (1, _), (4, _), (5, _), (6, _), (7, _), (8, _), (9, _), (10, _), (21, _)]) ⟨rfl, rfl, rfl, rfl, rfl, rfl, rfl, rfl, rfl, rfl, trivial⟩ ?_
  refine Post.then_ ?_
  refine Cd.seq ?_
  refine Cd.seq ?_
  refine Cd.region ?_
  refine Seq.val (Runs.move rfl rfl) rfl rfl rfl ?_
  refine Seq.val (Runs.move rfl rfl) rfl rfl rfl ?_
  refine Seq.val (Runs.gtr rfl rfl rfl) rfl rfl rfl ?_
  refine Seq.val (Runs.neqB rfl rfl rfl Try.underlying4) rfl rfl rfl ?_
  refine Seq.val (Runs.move rfl rfl) rfl rfl rfl ?_
  refine SeqC.start ?_
  refine SeqC.open rfl rfl rfl rfl rfl rfl rfl (fun hcx => Runs.move rfl rfl) ?_
  refine SeqC.next rfl rfl rfl rfl rfl rfl rfl (fun hcx => Runs.lenL rfl rfl Try.underlying9) ?_
  refine SeqC.next rfl rfl rfl rfl rfl rfl rfl (fun hcx => Runs.move rfl rfl) ?_
  refine SeqC.next rfl rfl rfl rfl rfl rfl rfl (fun hcx => Runs.neqI rfl rfl rfl) ?_
  refine SeqC.or rfl rfl rfl rfl rfl rfl rfl ?_
  refine Seq.val (Runs.move rfl rfl) rfl rfl rfl ?_
  refine SeqC.start ?_
  refine SeqC.open rfl rfl rfl rfl rfl rfl rfl (fun hcx => Runs.move rfl rfl) ?_
  refine SeqC.next rfl rfl rfl rfl rfl rfl rfl (fun hcx => Runs.eqlL (a := F) (b := []) rfl rfl rfl hFl (fun x hx => by simp at hx)) ?_
  refine SeqC.or rfl rfl rfl rfl rfl rfl rfl ?_
  refine Seq.val (Runs.move rfl rfl) rfl rfl rfl ?_
  refine SeqC.start ?_
  refine SeqC.open rfl rfl rfl rfl rfl rfl rfl (fun hcx => Runs.move rfl rfl) ?_
  refine SeqC.next rfl rfl rfl rfl rfl rfl rfl (fun hcx => Runs.lenL rfl rfl Try.underlying9) ?_
  refine SeqC.next rfl rfl rfl rfl rfl rfl rfl (fun hcx => Runs.gtr rfl rfl rfl) ?_
  refine SeqC.next rfl rfl rfl rfl rfl rfl rfl (fun hcx => Runs.move rfl rfl) ?_
  refine SeqC.open rfl rfl rfl rfl rfl rfl rfl (fun hcx => Runs.move rfl rfl) ?_
  have hF0 : 1 < F.length → F[0]? = some (F.getD 0 0) := by
    intro h
    cases F with
    | nil => simp at h
    | cons c F => rfl
  have hF1 : F.getD 0 0 < 256 := by
    cases F with
    | nil => simp
    | cons c F => exact hFl c (by simp)
  refine SeqC.next rfl rfl rfl rfl rfl rfl rfl (fun hcx => Runs.indexL (l := F) (j := 0) (c := F.getD 0 0) rfl rfl rfl Try.underlying9 rfl (hF0 (by simp at hcx; omega)) hF1) ?_
  refine SeqC.next rfl rfl rfl rfl rfl rfl rfl (fun hcx => Runs.eqlI rfl rfl rfl) ?_
  refine SeqC.andG rfl rfl rfl rfl rfl rfl rfl rfl rfl rfl rfl ?_
  refine SeqC.or rfl rfl rfl rfl rfl rfl rfl ?_
  refine Seq.nil ?_
  refine Post.weak (F' := [(0, _), (1, _), (4, _), (5, _), (6, _), (7, _), (8, _), (9, _), (10, _), (21, _), (56, _)]) ⟨rfl, rfl, rfl, rfl, rfl, rfl, rfl, rfl, rfl, rfl, rfl, trivial⟩ ?_
  refine Post.then_ ?_
  generalize hf0 : F.getD 0 0 = f0 at *
  have hiff : (decide (46 ∈ restOf l) = decide ((0 : Int) < (D : Int))) ↔ (46 ∈ restOf l ↔ 0 < D) := by
    rw [decide_eq_decide]
    constructor <;> intro h <;> rw [h] <;> omega
  have hnil : F = [] ↔ F.length = 0 := by cases F <;> simp
  refine Cd.cond rfl (fun h => ?_) (fun h => ?_)
  · have hbad : ∀ y, I64 y → ∀ F B, ¬ Form l D y F B := by
      intro y _ F' B' hfm
      obtain ⟨-, e2, rfl, rfl⟩ := hform y F' B' hfm
      have e3 := hfm.len
      have e4 := hfm.pos
      have e5 : 1 < F.length → f0 ≠ 48 := fun h1 h2 => hfm.lead h1 (by rw [hF0 h1, h2])
      have e6 := hiff.2 e2
      have e7 : F ≠ [] := fun h => by rw [h] at e4; simp at e4
      simp only [e6, e3] at h
      simp [e7] at h
      omega
    refine Cd.seq ?_
    refine Cd.region ?_
    refine Seq.val (Runs.assign rfl rfl) rfl rfl rfl ?_
    refine Seq.val (Runs.assign rfl rfl) rfl rfl rfl ?_
    refine Seq.nil ?_
    refine Post.weak (F' := [(0, _), (1, _), (4, _), (5, _), (6, _), (7, _), (8, _), (9, _), (10, _), (21, _), (56, _)]) ⟨rfl, rfl, rfl, rfl, rfl, rfl, rfl, rfl, rfl, rfl, rfl, trivial⟩ ?_
    refine Post.then_ ?_
    refine Cd.ret ?_
    refine Post.then_ret ?_
    refine Post.end2 rfl rfl rfl (.inl rfl) ?_
    exact ⟨0, false, rfl, hno hbad, bel⟩
  have hok : (46 ∈ restOf l ↔ 0 < D) ∧ B.length = D ∧ 0 < F.length ∧ (1 < F.length → F[0]? ≠ some 48) := by
    simp only [Bool.or_eq_false_iff, Bool.and_eq_false_iff, decide_eq_false_iff_not, ne_eq, Decidable.not_not] at h
    obtain ⟨⟨⟨k1, k2⟩, k3⟩, k4⟩ := h
    refine ⟨hiff.1 k1, by omega, by have := mt hnil.2 k3; omega, fun h1 h2 => ?_⟩
    rw [hF0 h1] at h2
    injection h2 with h2
    omega
  obtain ⟨k1, k2, k3, k4⟩ := hok
  replace hmk := fun x => hmk x k1 k2 k3 k4
  have hM : ∀ x ∈ F ++ B, x < 256 := fun x hx => by
    rcases List.mem_append.1 hx with h | h
    · exact hFl x h
    · exact hBl x h
  have hMl : (F ++ B).length ≤ 9223372036854775807 := by rw [List.length_append]; omega
  have hfm : ∀ y, ∀ F' B', Form l D y F' B' → (∀ c ∈ F ++ B, isDg c) ∧ valD (F ++ B) = y.natAbs ∧ (l.head? = some 45 ↔ y < 0) := by
    intro y F' B' hf
    obtain ⟨e1, -, rfl, rfl⟩ := hform y F' B' hf
    exact ⟨fun c hc => by
      rcases List.mem_append.1 hc with h | h
      · exact hf.f c h
      · exact hf.b c h, hf.val, e1⟩
  have hFB : F.length + B.length ≤ 9223372036854775807 := by omega
  clear h hform hF0 hF1 hf0 hiff hnil
  refine Cd.skip ?_
  refine Post.then_ ?_
  refine Cd.seq ?_
  refine Cd.region ?_
  refine Seq.val (Runs.assign rfl rfl) rfl rfl rfl ?_
  refine Seq.nil ?_
  refine Post.weak (F' := [(0, _), (1, _), (4, _), (5, _), (6, _), (7, _), (8, _), (9, _), (10, _), (11, _), (21, _), (56, _)]) ⟨rfl, rfl, rfl, rfl, rfl, rfl, rfl, rfl, rfl, rfl, rfl, rfl, trivial⟩ ?_
  refine Post.then_ ?_
  refine Cd.seq ?_
  refine Cd.seq ?_
  refine Cd.region ?_
  refine Seq.val (Runs.move rfl rfl) rfl rfl rfl ?_
  refine Seq.val (Runs.move rfl rfl) rfl rfl rfl ?_
  refine Seq.val (Runs.addL rfl rfl rfl hFB) rfl rfl rfl ?_
  generalize F ++ B = M at *
  refine Seq.convSB rfl rfl Try.underlying9 Try.underlying108 Try.underlying5 hM rfl rfl rfl ?_
  intro g60 c60 w60 hc60 n60
  replace bel := bel.step n60.below
  have hrd60 := n60.reads
  have hB60 := n60.lt
  refine Seq.val (Runs.len rfl rfl Try.underlying108) rfl rfl rfl ?_
  refine Seq.val (Runs.move rfl rfl) rfl rfl rfl ?_
  refine Seq.nil ?_
  refine Post.weak (F' := [(0, _), (1, _), (4, _), (5, _), (6, _), (7, _), (8, _), (9, _), (10, _), (11, _), (21, _), (56, _), (60, _), (61, _), (62, _)]) ⟨rfl, rfl, rfl, rfl, rfl, rfl, rfl, rfl, rfl, rfl, rfl, rfl, rfl, rfl, rfl, trivial⟩ ?_
  refine Post.then_ ?_
  refine Cd.block ?_
  refine Cd.loop (σ := Nat) (fun k => [(7, .bool (decide (l.head? = some 45))), (11, .int .i64 (-((valD (M.take k) : Nat) : Int))), (60, .slice (some ⟨g60, 0, none⟩) M.length c60), (61, .int .i64 (M.length : Int)), (62, .int .i64 (k : Int))])
    (fun k wr => k ≤ M.length ∧ (∀ c ∈ M.take k, isDg c) ∧ valD (M.take k) ≤ 9223372036854775808 ∧ Below w.heap.size w wr ∧ Below w60.heap.size w60 wr) (fun k => M.length - k) 0 ⟨by omega, by simp, by simp [valD], bel, Below.refl _ _⟩ ⟨rfl, rfl, rfl, rfl, rfl, trivial⟩ ?_
  clear bel
  rintro k wr ⟨hk, hdg, hv, bel, bl60⟩
  refine Cd.seq ?_
  refine Cd.region ?_
  refine Seq.val (Runs.lss rfl rfl rfl) rfl rfl rfl ?_
  refine Seq.nil ?_
  refine Post.weak (F' := [(7, _), (11, _), (60, _), (61, _), (62, _), (63, _)]) ⟨rfl, rfl, rfl, rfl, rfl, rfl, trivial⟩ ?_
  refine Post.then_ ?_
  refine Cd.seq ?_
  refine Cd.condD rfl (fun hc => ?_) (fun hc => ?_)
  · obtain ⟨c, hc⟩ : ∃ c, M[k]? = some c := ⟨_, List.getElem?_eq_getElem (show k < M.length by omega)⟩
    have hc256 := hM c (List.mem_of_getElem? hc)
    have hcell : wr.cell? (Addr.add ⟨g60, 0, none⟩ k) = some (.int .u8 (c : Int)) := by
      obtain ⟨ad, e, hb, hcs⟩ := hrd60.2 (by omega)
      injection e with e
      subst e
      rw [bl60.cell (by rw [block_of_add]; exact hB60)]
      exact hcs k _ (by rw [get_Bt, hc]; rfl)
    have htk : M.take (k + 1) = M.take k ++ [c] := by rw [List.take_add_one, hc]; rfl
    have hvs : valD (M.take (k + 1)) = 10 * valD (M.take k) + (c - 48) := by rw [htk, valD_snoc]
    have hvl := valD_take M (k + 1)
    have hbig : 9223372036854775808 < valD M → ∀ y, I64 y → ∀ F B, ¬ Form l D y F B := fun h y hy F' B' hf => by
      obtain ⟨-, e2, -⟩ := hfm y F' B' hf
      unfold I64 at hy
      omega
    generalize hV : valD (M.take k) = V at *
    refine Cd.skip ?_
    refine Post.then_ ?_
    refine Cd.seq ?_
    refine Cd.block ?_
    refine Cd.seq ?_
    refine Cd.region ?_
    refine Seq.val (Runs.index1 rfl rfl rfl Try.underlying108 (by kernel_rfl) (j := k) rfl (by omega)) rfl rfl rfl ?_
    refine Seq.val (Runs.load1 rfl rfl Try.underlying5 rfl hcell) rfl rfl rfl ?_
    refine Seq.val (Runs.assign rfl rfl) rfl rfl rfl ?_
    refine Seq.nil ?_
    refine Post.weak (F' := [(7, _), (11, _), (13, _), (60, _), (61, _), (62, _), (63, _)]) ⟨rfl, rfl, rfl, rfl, rfl, rfl, rfl, trivial⟩ ?_
    refine Post.then_ ?_
    refine Cd.seq ?_
    refine Cd.seq ?_
    refine Cd.region ?_
    refine Seq.val (Runs.move rfl rfl) rfl rfl rfl ?_
    refine Seq.call (Enters.func rfl rfl rfl (run_enter Try.func163 (by kernel_rfl) rfl)) rfl rfl rfl (digit_any c _) ?_
    rintro e w5 ⟨rfl, rfl⟩
    refine ⟨_, rfl, ?_⟩
    refine Seq.val (Runs.not rfl rfl) rfl rfl rfl ?_
    refine Seq.nil ?_
    refine Post.weak (F' := [(7, _), (11, _), (13, _), (60, _), (61, _), (62, _), (63, _), (68, _)]) ⟨rfl, rfl, rfl, rfl, rfl, rfl, rfl, rfl, trivial⟩ ?_
    refine Post.then_ ?_
    refine Cd.cond rfl (fun h => ?_) (fun h => ?_)
    · have hnd : ∀ y, I64 y → ∀ F B, ¬ Form l D y F B := fun y _ F' B' hf => by
        have := (hfm y F' B' hf).1 c (List.mem_of_getElem? hc)
        unfold isDg at this
        simp at h
        omega
      refine Cd.seq ?_
      refine Cd.region ?_
      refine Seq.val (Runs.assign rfl rfl) rfl rfl rfl ?_
      refine Seq.val (Runs.assign rfl rfl) rfl rfl rfl ?_
      refine Seq.nil ?_
      refine Post.weak (F' := [(4, _), (5, _), (7, _), (11, _), (13, _), (60, _), (61, _), (62, _), (63, _), (68, _)]) ⟨rfl, rfl, rfl, rfl, rfl, rfl, rfl, rfl, rfl, rfl, trivial⟩ ?_
      refine Post.then_ ?_
      refine Cd.ret ?_
      refine Post.then_ret ?_
      refine Post.block_ret ?_
      refine Post.then_ret ?_
      refine Post.round_ret ?_
      refine Post.block_ret ?_
      refine Post.then_ret ?_
      refine Post.end2 rfl rfl rfl (.inl rfl) ?_
      exact ⟨0, false, rfl, hno hnd, bel⟩
    have hcd : isDg c := by unfold isDg; simp at h; omega
    have hcd2 := hcd
    unfold isDg at hcd2
    clear h
    refine Cd.skip ?_
    refine Post.then_ ?_
    refine Cd.seq ?_
    refine Cd.region ?_
    refine Seq.val (Runs.move rfl rfl) rfl rfl rfl ?_
    refine Seq.call (Enters.func rfl rfl rfl (run_enter Try.func164 (by kernel_rfl) rfl)) rfl rfl rfl (mul_num (-(V : Int)) 10 _ (by unfold I64; omega) (by unfold I64; omega)) ?_
    rintro e w6 ⟨rfl, hb6⟩
    refine ⟨_, rfl, ?_⟩
    replace bel := bel.step hb6
    refine Seq.val (Runs.move rfl rfl) rfl rfl rfl ?_
    refine Seq.val (Runs.extract rfl rfl rfl) rfl rfl rfl ?_
    refine Seq.val (Runs.extract rfl rfl rfl) rfl rfl rfl ?_
    refine Seq.val (Runs.assign rfl rfl) rfl rfl rfl ?_
    refine Seq.val (Runs.assign rfl rfl) rfl rfl rfl ?_
    refine Seq.nil ?_
    refine Post.weak (F' := [(7, _), (11, _), (13, _), (14, _), (15, _), (60, _), (61, _), (62, _), (63, _), (68, _)]) ⟨rfl, rfl, rfl, rfl, rfl, rfl, rfl, rfl, rfl, rfl, trivial⟩ ?_
    refine Post.then_ ?_
    refine Cd.seq ?_
    refine Cd.seq ?_
    refine Cd.region ?_
    refine Seq.val (Runs.move rfl rfl) rfl rfl rfl ?_
    refine Seq.val (Runs.not rfl rfl) rfl rfl rfl ?_
    refine Seq.nil ?_
    refine Post.weak (F' := [(7, _), (11, _), (13, _), (14, _), (15, _), (60, _), (61, _), (62, _), (63, _), (68, _), (75, _)]) ⟨rfl, rfl, rfl, rfl, rfl, rfl, rfl, rfl, rfl, rfl, rfl, trivial⟩ ?_
    refine Post.then_ ?_
    refine Cd.cond rfl (fun h => ?_) (fun h => ?_)
    · have hbg : 9223372036854775808 < 10 * V := by
        unfold fits at h
        simp at h
        omega
      refine Cd.seq ?_
      refine Cd.region ?_
      refine Seq.val (Runs.assign rfl rfl) rfl rfl rfl ?_
      refine Seq.val (Runs.assign rfl rfl) rfl rfl rfl ?_
      refine Seq.nil ?_
      refine Post.weak (F' := [(4, _), (5, _), (7, _), (11, _), (13, _), (14, _), (15, _), (60, _), (61, _), (62, _), (63, _), (68, _), (75, _)]) ⟨rfl, rfl, rfl, rfl, rfl, rfl, rfl, rfl, rfl, rfl, rfl, rfl, rfl, trivial⟩ ?_
      refine Post.then_ ?_
      refine Cd.ret ?_
      refine Post.then_ret ?_
      refine Post.block_ret ?_
      refine Post.then_ret ?_
      refine Post.round_ret ?_
      refine Post.block_ret ?_
      refine Post.then_ret ?_
      refine Post.end2 rfl rfl rfl (.inl rfl) ?_
      exact ⟨0, false, rfl, hno (hbig (by omega)), bel⟩
    have hft : fits (-(V : Int) * 10) = true := by simpa using h
    have hsm : smallOf (-(V : Int) * 10) = -(V : Int) * 10 := by unfold smallOf; rw [hft]; rfl
    have hft2 : 10 * V ≤ 9223372036854775808 := by unfold fits at hft; simp at hft; omega
    rw [hsm]
    clear h
    refine Cd.skip ?_
    refine Post.then_ ?_
    refine Cd.seq ?_
    refine Cd.region ?_
    refine Seq.val (Runs.move rfl rfl) rfl rfl rfl ?_
    refine Seq.val (Runs.move rfl rfl) rfl rfl rfl ?_
    refine Seq.val (Runs.subW rfl rfl rfl (wrapB (by omega) (by omega))) rfl rfl rfl ?_
    refine Seq.val (Runs.convI rfl rfl Try.underlying5 Try.underlying2 (wrapI (by omega) (by omega))) rfl rfl rfl ?_
    refine Seq.call (Enters.func rfl rfl rfl (run_enter Try.func165 (by kernel_rfl) rfl)) rfl rfl rfl (sub_num (-(V : Int) * 10) ((c : Int) - 48) _ (by unfold I64; omega) (by unfold I64; omega)) ?_
    rintro e w7 ⟨rfl, hb7⟩
    refine ⟨_, rfl, ?_⟩
    replace bel := bel.step hb7
    refine Seq.val (Runs.move rfl rfl) rfl rfl rfl ?_
    refine Seq.val (Runs.extract rfl rfl rfl) rfl rfl rfl ?_
    refine Seq.val (Runs.extract rfl rfl rfl) rfl rfl rfl ?_
    refine Seq.val (Runs.assign rfl rfl) rfl rfl rfl ?_
    refine Seq.val (Runs.assign rfl rfl) rfl rfl rfl ?_
    refine Seq.nil ?_
    refine Post.weak (F' := [(7, _), (11, _), (13, _), (14, _), (15, _), (60, _), (61, _), (62, _), (63, _), (68, _), (75, _)]) ⟨rfl, rfl, rfl, rfl, rfl, rfl, rfl, rfl, rfl, rfl, rfl, trivial⟩ ?_
    refine Post.then_ ?_
    refine Cd.seq ?_
    refine Cd.region ?_
    refine Seq.val (Runs.move rfl rfl) rfl rfl rfl ?_
    refine Seq.val (Runs.not rfl rfl) rfl rfl rfl ?_
    refine Seq.nil ?_
    refine Post.weak (F' := [(7, _), (11, _), (13, _), (14, _), (15, _), (60, _), (61, _), (62, _), (63, _), (68, _), (75, _), (85, _)]) ⟨rfl, rfl, rfl, rfl, rfl, rfl, rfl, rfl, rfl, rfl, rfl, rfl, trivial⟩ ?_
    refine Post.then_ ?_
    refine Cd.cond rfl (fun h => ?_) (fun h => ?_)
    · have hbg : 9223372036854775808 < 10 * V + (c - 48) := by
        unfold fits at h
        simp at h
        omega
      refine Cd.seq ?_
      refine Cd.region ?_
      refine Seq.val (Runs.assign rfl rfl) rfl rfl rfl ?_
      refine Seq.val (Runs.assign rfl rfl) rfl rfl rfl ?_
      refine Seq.nil ?_
      refine Post.weak (F' := [(4, _), (5, _), (7, _), (11, _), (13, _), (14, _), (15, _), (60, _), (61, _), (62, _), (63, _), (68, _), (75, _), (85, _)]) ⟨rfl, rfl, rfl, rfl, rfl, rfl, rfl, rfl, rfl, rfl, rfl, rfl, rfl, rfl, trivial⟩ ?_
      refine Post.then_ ?_
      refine Cd.ret ?_
      refine Post.block_ret ?_
      refine Post.then_ret ?_
      refine Post.round_ret ?_
      refine Post.block_ret ?_
      refine Post.then_ret ?_
      refine Post.end2 rfl rfl rfl (.inl rfl) ?_
      exact ⟨0, false, rfl, hno (hbig (by omega)), bel⟩
    have hft3 : fits (-(V : Int) * 10 + -((c : Int) - 48)) = true := by simpa using h
    have hsm2 : smallOf (-(V : Int) * 10 + -((c : Int) - 48)) = -(V : Int) * 10 + -((c : Int) - 48) := by unfold smallOf; rw [hft3]; rfl
    have hft4 : 10 * V + (c - 48) ≤ 9223372036854775808 := by unfold fits at hft3; simp at hft3; omega
    rw [hsm2]
    clear h
    refine Cd.skip ?_
    refine Post.block_normal ?_
    refine Post.then_ ?_
    refine Cd.region ?_
    refine Seq.val (Runs.addI rfl rfl rfl (by omega) (by omega)) rfl rfl rfl ?_
    refine Seq.val (Runs.move rfl rfl) rfl rfl rfl ?_
    refine Seq.nil ?_
    refine Post.weak (F' := [(7, _), (11, _), (13, _), (14, _), (15, _), (60, _), (61, _), (62, _), (63, _), (68, _), (75, _), (85, _)]) ⟨rfl, rfl, rfl, rfl, rfl, rfl, rfl, rfl, rfl, rfl, rfl, rfl, trivial⟩ ?_
    refine Post.round (k + 1) ⟨rfl, congrArg (fun x => some (Value.int .i64 x)) (show (-(V : Int) * 10 + -((c : Int) - 48)) = -((valD (M.take (k + 1)) : Nat) : Int) by omega), rfl, rfl, rfl, trivial⟩ ⟨by omega, ?_, by omega, bel, (bl60.step hb6).step hb7⟩ (by omega)
    intro x hx
    rw [htk] at hx
    rcases List.mem_append.1 hx with h | h
    · exact hdg x h
    · simp at h; subst h; exact hcd
  · obtain rfl : k = M.length := by omega
    rw [List.take_of_length_le (Nat.le_refl _)] at hdg hv ⊢
    replace hmk := fun x => hmk x hdg
    generalize valD M = V at *
    refine Cd.exit ?_
    refine Post.then_exit ?_
    refine Post.round_exit ?_
    refine Post.block_exit ?_
    refine Post.then_ ?_
    refine Cd.seq ?_
    refine Cd.seq ?_
    refine Cd.region ?_
    refine Seq.val (Runs.move rfl rfl) rfl rfl rfl ?_
    refine Seq.nil ?_
    refine Post.weak (F' := [(7, _), (11, _), (60, _), (61, _), (62, _), (63, _), (87, _)]) ⟨rfl, rfl, rfl, rfl, rfl, rfl, rfl, trivial⟩ ?_
    refine Post.then_ ?_
    refine Cd.condD rfl (fun h => ?_) (fun h => ?_)
    · skip
      refine Cd.seq ?_
      refine Cd.region ?_
      refine Seq.val (Runs.move rfl rfl) rfl rfl rfl ?_
      refine Seq.val (Runs.move rfl rfl) rfl rfl rfl ?_
      refine Seq.val (Runs.lss rfl rfl rfl) rfl rfl rfl ?_
      refine Seq.val (Runs.assign rfl rfl) rfl rfl rfl ?_
      refine Seq.val (Runs.assign rfl rfl) rfl rfl rfl ?_
      refine Seq.nil ?_
      refine Post.weak (F' := [(4, _), (5, _), (7, _), (11, _), (60, _), (61, _), (62, _), (63, _), (87, _)]) ⟨rfl, rfl, rfl, rfl, rfl, rfl, rfl, rfl, rfl, trivial⟩ ?_
      refine Post.then_ ?_
      refine Cd.ret ?_
      refine Post.then_ret ?_
      refine Post.end2 rfl rfl rfl (.inl rfl) ?_
      refine ⟨_, _, rfl, ⟨fun hb => ?_, fun hb => ?_⟩, bel⟩
      · have hb' : 0 < V := by simpa using hb
        refine ⟨by omega, by omega, by unfold I64; omega, _, _, hmk (-(V : Int)) (by omega) ⟨fun _ => h, fun _ => by omega⟩⟩
      · have hb' : V = 0 := by simp at hb; omega
        subst hb'
        refine ⟨rfl, fun _ _ y hy F' B' hf => ?_⟩
        obtain ⟨-, e2, e3⟩ := hfm y F' B' (by rwa [Int.toNat_natCast] at hf)
        have := e3.1 h
        omega
    · skip
      refine Cd.skip ?_
      refine Post.then_ ?_
      refine Cd.seq ?_
      refine Cd.region ?_
      refine Seq.val (Runs.move rfl rfl) rfl rfl rfl ?_
      refine Seq.call (Enters.func rfl rfl rfl (run_enter Try.func166 (by kernel_rfl) rfl)) rfl rfl rfl (neg_num (-(V : Int)) _ (by unfold I64; omega)) ?_
      rintro e w9 ⟨rfl, hb9⟩
      refine ⟨_, rfl, ?_⟩
      replace bel := bel.step hb9
      refine Seq.val (Runs.extract rfl rfl rfl) rfl rfl rfl ?_
      refine Seq.val (Runs.extract rfl rfl rfl) rfl rfl rfl ?_
      refine Seq.val (Runs.assign rfl rfl) rfl rfl rfl ?_
      refine Seq.val (Runs.assign rfl rfl) rfl rfl rfl ?_
      refine Seq.nil ?_
      refine Post.weak (F' := [(4, _), (5, _), (7, _), (11, _), (60, _), (61, _), (62, _), (63, _), (87, _)]) ⟨rfl, rfl, rfl, rfl, rfl, rfl, rfl, rfl, rfl, trivial⟩ ?_
      refine Post.then_ ?_
      refine Cd.ret ?_
      refine Post.end2 rfl rfl rfl (.inl rfl) ?_
      refine ⟨_, _, rfl, ⟨fun hb => ?_, fun hb => ?_⟩, bel⟩
      · have hsm : smallOf (-(-(V : Int))) = (V : Int) := by unfold smallOf; rw [hb, if_pos rfl, Int.neg_neg]
        rw [hsm]
        unfold fits at hb
        simp at hb
        refine ⟨by omega, by omega, by unfold I64; omega, _, _, hmk (V : Int) (by omega) ⟨fun h0 => by omega, fun h0 => absurd h0 h⟩⟩
      · have hsm : smallOf (-(-(V : Int))) = 0 := by unfold smallOf; rw [hb]; rfl
        refine ⟨hsm, fun _ _ y hy F' B' hf => ?_⟩
        obtain ⟨-, e2, e3⟩ := hfm y F' B' (by rwa [Int.toNat_natCast] at hf)
        have : ¬ y < 0 := fun h0 => h (e3.2 h0)
        unfold fits at hb
        simp at hb
        unfold I64 at hy
        omega
end Go.Proofs.Ytijaldpmpjapiaa

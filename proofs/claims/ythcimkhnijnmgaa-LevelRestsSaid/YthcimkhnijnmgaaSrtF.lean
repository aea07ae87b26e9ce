/-
  Files sorted in place: symMerge of slices, in general. Condition: the files are few.
-/
import Derived.Test.YthcimkhnijnmgaaSrtE
namespace Go.Proofs.Ythcimkhnijnmgaa
open Go.RowKit

theorem last_at {P A Q : List Fl} {i : Nat} {x : Fl} (h : (P ++ (A ++ Q))[i]? = some x) (hi : i + 1 = P.length + A.length) (hA : 0 < A.length) : ∃ A', A = A' ++ [x] := by
  rcases nil_or_last A with rfl | ⟨A', z, rfl⟩
  · cases hA
  · refine ⟨A', ?_⟩
    have hz : (A' ++ [z])[A'.length]? = some z := get_mid A' z []
    have := get_in (P := P) (Q := Q) rfl hz
    rw [show P.length + A'.length = i by simp only [List.length_append, List.length_cons, List.length_nil] at hi; omega, h] at this
    injection this with this
    rw [this]
theorem head_at {P A Q : List Fl} {i : Nat} {x : Fl} (h : (P ++ (A ++ Q))[i]? = some x) (hi : i = P.length) (hA : 0 < A.length) : ∃ A', A = x :: A' := by
  cases A with
  | nil => cases hA
  | cons z r =>
    have hz : (z :: r)[0]? = some z := rfl
    have := get_in (P := P) (Q := Q) rfl hz
    rw [show P.length + 0 = i by omega, h] at this
    injection this with this
    exact ⟨r, by rw [this]⟩
set_option maxHeartbeats 4000000 in
theorem symM_any (N : Nat) : ∀ (g cap a m b n : Nat) (P L R S : List Fl) (pad : List Value) (w : World), L.length + R.length ≤ N → 0 < L.length → 0 < R.length → n = (P ++ (L ++ (R ++ S))).length → n ≤ 1000000 → a = P.length → m = a + L.length → b = m + R.length → L.Pairwise leF → R.Pairwise leF → Blk w g 37 (fcs (P ++ (L ++ (R ++ S))) ++ pad).toArray →
    Calls Try.prog 51 #[.slice (some ⟨g, 0, none⟩) n cap, .int .i64 (a : Int), .int .i64 (m : Int), .int .i64 (b : Int), .func (.func 26) #[] #[]] w fun e w' => ∃ M, e = .returned (.tuple #[]) ∧ M.Perm (L ++ R) ∧ M.Pairwise leF ∧ Blk w' g 37 (fcs (P ++ (M ++ S)) ++ pad).toArray ∧ Onl w w' g := by
  induction N with
  | zero => intros; omega
  | succ N ih =>
  intro g cap a m b n P L R S pad w hsz hL0 hR0 hN h1 ha hm hb hL hR k0
  by_cases hL1 : L.length = 1
  · exact symOne_any g cap a m b n P L R S pad w hL1 hR0 hN h1 ha hm hb hR k0
  by_cases hR1 : R.length = 1
  · exact symLast_any g cap a m b n P L R S pad w (by omega) hR1 hN h1 ha hm hb hL k0
  have only := Onl.refl w g
  have hN0 := hN
  simp only [List.length_append] at hN
  obtain ⟨d, hd⟩ : ∃ d, d = P ++ (L ++ (R ++ S)) := ⟨_, rfl⟩
  have hdl : d.length = n := by rw [hd]; exact hN0.symm
  rw [← hd] at k0
  obtain ⟨mid, hmid1, hmid2⟩ : ∃ h : Nat, 2 * h ≤ a + b ∧ a + b ≤ 2 * h + 1 := ⟨(a + b) / 2, by omega, by omega⟩
  obtain ⟨nn, hnn⟩ : ∃ nn, nn = mid + m := ⟨_, rfl⟩
  obtain ⟨s0, r0, hsr1, hsr2⟩ : ∃ s0 r0 : Nat, (mid < m → s0 + b = nn ∧ r0 = mid) ∧ (m ≤ mid → s0 = a ∧ r0 = m) := by
    by_cases h : mid < m
    · exact ⟨nn - b, mid, fun _ => ⟨by omega, rfl⟩, fun h2 => by omega⟩
    · exact ⟨a, m, fun h2 => by omega, fun _ => ⟨rfl, rfl⟩⟩
  have hs0 : a ≤ s0 ∧ s0 ≤ r0 ∧ r0 ≤ m ∧ r0 ≤ mid ∧ nn ≤ s0 + b ∧ m + r0 ≤ nn := by omega
  refine Calls.start 220 Try.func51 rfl rfl rfl ?_
  refine Cd.seq ?_
  refine Cd.seq ?_
  refine Cd.region ?_
  refine Seq.val (Runs.move rfl rfl) rfl rfl rfl ?_
  refine Seq.val (Runs.move rfl rfl) rfl rfl rfl ?_
  refine Seq.val (Runs.subI rfl rfl rfl (by omega) (by omega)) rfl rfl rfl ?_
  refine Seq.val (Runs.eqlI rfl rfl rfl) rfl rfl rfl ?_
  refine Seq.nil ?_
  refine Post.weak (F' := [(0, _), (1, _), (2, _), (3, _), (4, _), (28, _)]) ⟨rfl, rfl, rfl, rfl, rfl, rfl, trivial⟩ ?_
  refine Post.then_ ?_
  refine Cd.condF rfl (decide_eq_false (by omega)) ?_
  refine Cd.skip ?_
  refine Post.then_ ?_
  refine Cd.seq ?_
  refine Cd.seq ?_
  refine Cd.region ?_
  refine Seq.val (Runs.move rfl rfl) rfl rfl rfl ?_
  refine Seq.val (Runs.move rfl rfl) rfl rfl rfl ?_
  refine Seq.val (Runs.subI rfl rfl rfl (by omega) (by omega)) rfl rfl rfl ?_
  refine Seq.val (Runs.eqlI rfl rfl rfl) rfl rfl rfl ?_
  refine Seq.nil ?_
  refine Post.weak (F' := [(0, _), (1, _), (2, _), (3, _), (4, _), (28, _), (80, _)]) ⟨rfl, rfl, rfl, rfl, rfl, rfl, rfl, trivial⟩ ?_
  refine Post.then_ ?_
  refine Cd.condF rfl (decide_eq_false (by omega)) ?_
  refine Cd.skip ?_
  refine Post.then_ ?_
  refine Cd.seq ?_
  refine Cd.region ?_
  refine Seq.val (Runs.move rfl rfl) rfl rfl rfl ?_
  refine Seq.val (Runs.move rfl rfl) rfl rfl rfl ?_
  refine Seq.val (Runs.addI rfl rfl rfl (by omega) (by omega)) rfl rfl rfl ?_
  refine Seq.val (Runs.convU (r := a + b) rfl rfl Try.underlying3 Try.underlying96 (by omega)) rfl rfl rfl ?_
  refine Seq.val ((Runs.shrL rfl rfl rfl (s := 1) rfl (by omega)).cast (v' := .int .u64 ((mid : Nat) : Int)) (by rw [show (a + b) / 2 ^ 1 = mid by omega])) rfl rfl rfl ?_
  refine Seq.val (Runs.convI rfl rfl Try.underlying96 Try.underlying3 (wrapI (by omega) (by omega))) rfl rfl rfl ?_
  refine Seq.val (Runs.assign rfl rfl) rfl rfl rfl ?_
  refine Seq.nil ?_
  refine Post.weak (F' := [(0, _), (1, _), (2, _), (3, _), (4, _), (18, _), (28, _), (80, _)]) ⟨rfl, rfl, rfl, rfl, rfl, rfl, rfl, rfl, trivial⟩ ?_
  refine Post.then_ ?_
  refine Cd.seq ?_
  refine Cd.region ?_
  refine Seq.val (Runs.move rfl rfl) rfl rfl rfl ?_
  refine Seq.val (Runs.move rfl rfl) rfl rfl rfl ?_
  refine Seq.val (Runs.addI rfl rfl rfl (by omega) (by omega)) rfl rfl rfl ?_
  refine Seq.val (Runs.assign rfl rfl) rfl rfl rfl ?_
  refine Seq.nil ?_
  refine Post.weak (F' := [(0, _), (1, _), (2, _), (3, _), (4, _), (18, _), (19, _), (28, _), (80, _)]) ⟨rfl, rfl, rfl, rfl, rfl, rfl, rfl, rfl, rfl, trivial⟩ ?_
  refine Post.then_ ?_
  refine Cd.seq ?_
  refine Cd.region ?_
  refine Seq.val (Runs.assign rfl rfl) rfl rfl rfl ?_
  refine Seq.val (Runs.assign rfl rfl) rfl rfl rfl ?_
  refine Seq.nil ?_
  refine Post.weak (F' := [(0, _), (1, _), (2, _), (3, _), (4, _), (18, _), (19, _), (20, _), (21, _), (28, _), (80, _)]) ⟨rfl, rfl, rfl, rfl, rfl, rfl, rfl, rfl, rfl, rfl, rfl, trivial⟩ ?_
  refine Post.then_ ?_
  refine Cd.seqJ (σ := Unit) (fun _ => [(0, .slice (some ⟨g, 0, none⟩) n cap), (1, .int .i64 (a : Int)), (2, .int .i64 (m : Int)), (3, .int .i64 (b : Int)), (4, .func (.func 26) #[] #[]), (18, .int .i64 (mid : Int)), (19, .int .i64 (nn : Int)), (20, .int .i64 (s0 : Int)), (21, .int .i64 (r0 : Int))]) (fun _ wr => Blk wr g 37 (fcs (d) ++ pad).toArray ∧ Onl w wr g) ?_ ?_
  · skip
    refine Cd.seq ?_
    refine Cd.region ?_
    refine Seq.val (Runs.move rfl rfl) rfl rfl rfl ?_
    refine Seq.val (Runs.move rfl rfl) rfl rfl rfl ?_
    refine Seq.val (Runs.gtr rfl rfl rfl) rfl rfl rfl ?_
    refine Seq.nil ?_
    refine Post.weak (F' := [(0, _), (1, _), (2, _), (3, _), (4, _), (18, _), (19, _), (20, _), (21, _), (28, _), (80, _), (140, _)]) ⟨rfl, rfl, rfl, rfl, rfl, rfl, rfl, rfl, rfl, rfl, rfl, rfl, trivial⟩ ?_
    refine Post.then_ ?_
    refine Cd.condD rfl (fun hc => ?_) (fun hc => ?_)
    · skip
      refine Cd.seq ?_
      refine Cd.region ?_
      refine Seq.val (Runs.move rfl rfl) rfl rfl rfl ?_
      refine Seq.val (Runs.move rfl rfl) rfl rfl rfl ?_
      refine Seq.val (Runs.subI rfl rfl rfl (by omega) (by omega)) rfl rfl rfl ?_
      refine Seq.val (Runs.assign rfl rfl) rfl rfl rfl ?_
      refine Seq.nil ?_
      refine Post.weak (F' := [(0, _), (1, _), (2, _), (3, _), (4, _), (18, _), (19, _), (20, _), (21, _), (28, _), (80, _), (140, _)]) ⟨rfl, rfl, rfl, rfl, rfl, rfl, rfl, rfl, rfl, rfl, rfl, rfl, trivial⟩ ?_
      refine Post.then_ ?_
      refine Cd.region ?_
      refine Seq.val (Runs.move rfl rfl) rfl rfl rfl ?_
      refine Seq.val (Runs.assign rfl rfl) rfl rfl rfl ?_
      refine Seq.nil ?_
      refine Post.weak (F' := [(0, _), (1, _), (2, _), (3, _), (4, _), (18, _), (19, _), (20, _), (21, _), (28, _), (80, _), (140, _)]) ⟨rfl, rfl, rfl, rfl, rfl, rfl, rfl, rfl, rfl, rfl, rfl, rfl, trivial⟩ ?_
      exact Post.join () ⟨rfl, rfl, rfl, rfl, rfl, rfl, int_at (by omega), int_at (by omega), int_at (by omega), trivial⟩ ⟨k0, only⟩
    · skip
      refine Cd.seq ?_
      refine Cd.region ?_
      refine Seq.val (Runs.move rfl rfl) rfl rfl rfl ?_
      refine Seq.val (Runs.assign rfl rfl) rfl rfl rfl ?_
      refine Seq.nil ?_
      refine Post.weak (F' := [(0, _), (1, _), (2, _), (3, _), (4, _), (18, _), (19, _), (20, _), (21, _), (28, _), (80, _), (140, _)]) ⟨rfl, rfl, rfl, rfl, rfl, rfl, rfl, rfl, rfl, rfl, rfl, rfl, trivial⟩ ?_
      refine Post.then_ ?_
      refine Cd.region ?_
      refine Seq.val (Runs.move rfl rfl) rfl rfl rfl ?_
      refine Seq.val (Runs.assign rfl rfl) rfl rfl rfl ?_
      refine Seq.nil ?_
      refine Post.weak (F' := [(0, _), (1, _), (2, _), (3, _), (4, _), (18, _), (19, _), (20, _), (21, _), (28, _), (80, _), (140, _)]) ⟨rfl, rfl, rfl, rfl, rfl, rfl, rfl, rfl, rfl, rfl, rfl, rfl, trivial⟩ ?_
      exact Post.join () ⟨rfl, rfl, rfl, rfl, rfl, rfl, int_at (by omega), int_at (by omega), int_at (by omega), trivial⟩ ⟨k0, only⟩
  clear k0 only
  rintro ⟨⟩ wr ⟨k0, only⟩
  refine Cd.seq ?_
  refine Cd.region ?_
  refine Seq.val (Runs.move rfl rfl) rfl rfl rfl ?_
  refine Seq.val (Runs.subI rfl rfl rfl (by omega) (by omega)) rfl rfl rfl ?_
  refine Seq.val (Runs.assign rfl rfl) rfl rfl rfl ?_
  refine Seq.nil ?_
  refine Post.weak (F' := [(0, _), (1, _), (2, _), (3, _), (4, _), (18, _), (19, _), (20, _), (21, _), (22, _)]) ⟨rfl, rfl, rfl, rfl, rfl, rfl, rfl, rfl, rfl, rfl, trivial⟩ ?_
  refine Post.then_ ?_
  refine Cd.seq ?_
  refine Cd.block ?_
  obtain ⟨pp, hpp⟩ : ∃ pp, pp + 1 = nn := ⟨nn - 1, by omega⟩
  refine Cd.loop (σ := Nat × Nat) (fun s => [(0, .slice (some ⟨g, 0, none⟩) n cap), (1, .int .i64 (a : Int)), (2, .int .i64 (m : Int)), (3, .int .i64 (b : Int)), (4, .func (.func 26) #[] #[]), (18, .int .i64 (mid : Int)), (19, .int .i64 (nn : Int)), (20, .int .i64 (s.1 : Int)), (21, .int .i64 (s.2 : Int)), (22, .int .i64 (pp : Int))])
    (fun s wr => s0 ≤ s.1 ∧ s.1 ≤ s.2 ∧ s.2 ≤ r0 ∧ (s.1 = s0 ∨ ∃ x y, d[s.1 - 1]? = some x ∧ d[pp - (s.1 - 1)]? = some y ∧ ¬ ltF y x) ∧ (s.2 = r0 ∨ ∃ x y, d[s.2]? = some x ∧ d[pp - s.2]? = some y ∧ ltF y x) ∧ Blk wr g 37 (fcs (d) ++ pad).toArray ∧ Onl w wr g) (fun s => s.2 - s.1) (s0, r0) ⟨Nat.le_refl _, hs0.2.1, Nat.le_refl _, .inl rfl, .inl rfl, k0, only⟩ ⟨rfl, rfl, rfl, rfl, rfl, rfl, rfl, rfl, rfl, int_at (by omega), trivial⟩ ?_
  clear k0 only
  rintro ⟨s, r⟩ wr ⟨hs1, hsr, hr1, hsx, hrx, k0, only⟩
  simp only at hs1 hsr hr1 hsx hrx
  show Cd _ _ _ _ [(0, .slice (some ⟨g, 0, none⟩) n cap), (1, .int .i64 (a : Int)), (2, .int .i64 (m : Int)), (3, .int .i64 (b : Int)), (4, .func (.func 26) #[] #[]), (18, .int .i64 (mid : Int)), (19, .int .i64 (nn : Int)), (20, .int .i64 (s : Int)), (21, .int .i64 (r : Int)), (22, .int .i64 (pp : Int))] _
  refine Cd.seq ?_
  refine Cd.seq ?_
  refine Cd.region ?_
  refine Seq.val (Runs.move rfl rfl) rfl rfl rfl ?_
  refine Seq.val (Runs.move rfl rfl) rfl rfl rfl ?_
  refine Seq.val (Runs.lss rfl rfl rfl) rfl rfl rfl ?_
  refine Seq.nil ?_
  refine Post.weak (F' := [(0, _), (1, _), (2, _), (3, _), (4, _), (18, _), (19, _), (20, _), (21, _), (22, _), (151, _)]) ⟨rfl, rfl, rfl, rfl, rfl, rfl, rfl, rfl, rfl, rfl, rfl, trivial⟩ ?_
  refine Post.then_ ?_
  refine Cd.condD rfl (fun hc => ?_) (fun hc => ?_)
  · obtain ⟨c, hc1, hc2⟩ : ∃ h : Nat, 2 * h ≤ s + r ∧ s + r ≤ 2 * h + 1 := ⟨(s + r) / 2, by omega, by omega⟩
    obtain ⟨x, hx⟩ : ∃ y, d[c]? = some y := ⟨_, List.getElem?_eq_getElem (show c < d.length by omega)⟩
    obtain ⟨y, hy⟩ : ∃ y, d[pp - c]? = some y := ⟨_, List.getElem?_eq_getElem (show pp - c < d.length by omega)⟩
    refine Cd.skip ?_
    refine Post.then_ ?_
    refine Cd.block ?_
    refine Cd.seq ?_
    refine Cd.region ?_
    refine Seq.val (Runs.move rfl rfl) rfl rfl rfl ?_
    refine Seq.val (Runs.move rfl rfl) rfl rfl rfl ?_
    refine Seq.val (Runs.addI rfl rfl rfl (by omega) (by omega)) rfl rfl rfl ?_
    refine Seq.val (Runs.convU (r := s + r) rfl rfl Try.underlying3 Try.underlying96 (by omega)) rfl rfl rfl ?_
    refine Seq.val ((Runs.shrL rfl rfl rfl (s := 1) rfl (by omega)).cast (v' := .int .u64 ((c : Nat) : Int)) (by rw [show (s + r) / 2 ^ 1 = c by omega])) rfl rfl rfl ?_
    refine Seq.val (Runs.convI rfl rfl Try.underlying96 Try.underlying3 (wrapI (by omega) (by omega))) rfl rfl rfl ?_
    refine Seq.val (Runs.assign rfl rfl) rfl rfl rfl ?_
    refine Seq.nil ?_
    refine Post.weak (F' := [(0, _), (1, _), (2, _), (3, _), (4, _), (18, _), (19, _), (20, _), (21, _), (22, _), (23, _), (151, _)]) ⟨rfl, rfl, rfl, rfl, rfl, rfl, rfl, rfl, rfl, rfl, rfl, rfl, trivial⟩ ?_
    refine Post.then_ ?_
    refine Cd.seq ?_
    by_cases hlt : ltF y x
    · have hlt' : ordB y x < 0 := hlt
      refine Cd.draw 14 (by kernel_rfl) [] (.inl rfl) rfl Grow Grow.refl (fun _ _ _ => Grow.trans) ?_
      intro w1 hw1 zw1
      replace k0 := k0.step hw1
      replace only := only.step hw1
      have zlt := k0.lt
      refine Dr.val Grow.refl rfl (fun w hG => Runs.move rfl rfl) rfl ?_
      refine Dr.val Grow.refl rfl (fun w hG => Runs.move rfl rfl) rfl ?_
      refine Dr.val Grow.refl rfl (fun w hG => Runs.move rfl rfl) rfl ?_
      refine Dr.val Grow.refl rfl (fun w hG => Runs.move rfl rfl) rfl ?_
      refine Dr.val Grow.refl rfl (fun w hG => Runs.subI rfl rfl rfl (by omega) (by omega)) rfl ?_
      refine Dr.val Grow.refl rfl (fun w hG => Runs.indexBN rfl rfl rfl Try.underlying27 (s := 6) (by kernel_rfl) (j := pp - c) (by omega) (by omega)) rfl ?_
      refine Dr.val Grow.refl rfl (fun w hG => Runs.loadP (off := 6 * (pp - c)) (ps := [.int .i64 y.num, .int .i64 y.level, .string (strOf y.first), .string (strOf y.last), .int .i64 y.count, .int .i64 y.size]) rfl rfl Try.underlying37 rfl (k0.step hG) (m := 6) (by kernel_rfl) rfl (fcs_ld hy)) rfl ?_
      refine Dr.val Grow.refl rfl (fun w hG => Runs.move rfl rfl) rfl ?_
      refine Dr.val Grow.refl rfl (fun w hG => Runs.move rfl rfl) rfl ?_
      refine Dr.val Grow.refl rfl (fun w hG => Runs.indexBN rfl rfl rfl Try.underlying27 (s := 6) (by kernel_rfl) (j := c) (by omega) (by omega)) rfl ?_
      refine Dr.val Grow.refl rfl (fun w hG => Runs.loadP (off := 6 * (c)) (ps := [.int .i64 x.num, .int .i64 x.level, .string (strOf x.first), .string (strOf x.last), .int .i64 x.count, .int .i64 x.size]) rfl rfl Try.underlying37 rfl (k0.step hG) (m := 6) (by kernel_rfl) rfl (fcs_ld hx)) rfl ?_
      refine Dr.callV rfl (fun w => Enters.value (first := []) (cap := []) rfl rfl rfl eg_order) rfl (fun w hG => order_any y x w) ?_
      refine Dr.val Grow.refl rfl (fun w hG => (Runs.lss rfl rfl rfl).isT (hlt')) rfl ?_
      refine Dr.val Grow.refl rfl (fun w hG => Runs.not rfl rfl) rfl ?_
      refine Dr.nil ?_
      refine FinX.done (F' := [(0, _), (1, _), (2, _), (3, _), (4, _), (18, _), (19, _), (20, _), (21, _), (22, _), (23, _), (151, _), (171, _)]) rfl ⟨rfl, rfl, rfl, rfl, rfl, rfl, rfl, rfl, rfl, rfl, rfl, rfl, rfl, trivial⟩ ?_
      intro w2 hw2 fw2
      replace k0 := k0.step hw2
      replace only := only.step hw2
      refine Seq.nil ?_
      refine Post.weak (F' := [(0, _), (1, _), (2, _), (3, _), (4, _), (18, _), (19, _), (20, _), (21, _), (22, _), (23, _), (151, _), (171, _)]) ⟨rfl, rfl, rfl, rfl, rfl, rfl, rfl, rfl, rfl, rfl, rfl, rfl, rfl, trivial⟩ ?_
      refine Post.then_ ?_
      refine Cd.condF rfl rfl ?_
      refine Cd.region ?_
      refine Seq.val (Runs.move rfl rfl) rfl rfl rfl ?_
      refine Seq.val (Runs.assign rfl rfl) rfl rfl rfl ?_
      refine Seq.nil ?_
      refine Post.weak (F' := [(0, _), (1, _), (2, _), (3, _), (4, _), (18, _), (19, _), (20, _), (21, _), (22, _), (23, _), (151, _), (171, _)]) ⟨rfl, rfl, rfl, rfl, rfl, rfl, rfl, rfl, rfl, rfl, rfl, rfl, rfl, trivial⟩ ?_
      refine Post.block_normal ?_
      exact Post.round (s, c) ⟨rfl, rfl, rfl, rfl, rfl, rfl, rfl, rfl, rfl, rfl, trivial⟩ ⟨hs1, by simp only; omega, by simp only; omega, hsx, .inr ⟨x, y, hx, hy, hlt⟩, k0, only⟩ (by simp only; omega)
    · have hlt' : ¬ ordB y x < 0 := hlt
      refine Cd.draw 14 (by kernel_rfl) [] (.inl rfl) rfl Grow Grow.refl (fun _ _ _ => Grow.trans) ?_
      intro w1 hw1 zw1
      replace k0 := k0.step hw1
      replace only := only.step hw1
      have zlt := k0.lt
      refine Dr.val Grow.refl rfl (fun w hG => Runs.move rfl rfl) rfl ?_
      refine Dr.val Grow.refl rfl (fun w hG => Runs.move rfl rfl) rfl ?_
      refine Dr.val Grow.refl rfl (fun w hG => Runs.move rfl rfl) rfl ?_
      refine Dr.val Grow.refl rfl (fun w hG => Runs.move rfl rfl) rfl ?_
      refine Dr.val Grow.refl rfl (fun w hG => Runs.subI rfl rfl rfl (by omega) (by omega)) rfl ?_
      refine Dr.val Grow.refl rfl (fun w hG => Runs.indexBN rfl rfl rfl Try.underlying27 (s := 6) (by kernel_rfl) (j := pp - c) (by omega) (by omega)) rfl ?_
      refine Dr.val Grow.refl rfl (fun w hG => Runs.loadP (off := 6 * (pp - c)) (ps := [.int .i64 y.num, .int .i64 y.level, .string (strOf y.first), .string (strOf y.last), .int .i64 y.count, .int .i64 y.size]) rfl rfl Try.underlying37 rfl (k0.step hG) (m := 6) (by kernel_rfl) rfl (fcs_ld hy)) rfl ?_
      refine Dr.val Grow.refl rfl (fun w hG => Runs.move rfl rfl) rfl ?_
      refine Dr.val Grow.refl rfl (fun w hG => Runs.move rfl rfl) rfl ?_
      refine Dr.val Grow.refl rfl (fun w hG => Runs.indexBN rfl rfl rfl Try.underlying27 (s := 6) (by kernel_rfl) (j := c) (by omega) (by omega)) rfl ?_
      refine Dr.val Grow.refl rfl (fun w hG => Runs.loadP (off := 6 * (c)) (ps := [.int .i64 x.num, .int .i64 x.level, .string (strOf x.first), .string (strOf x.last), .int .i64 x.count, .int .i64 x.size]) rfl rfl Try.underlying37 rfl (k0.step hG) (m := 6) (by kernel_rfl) rfl (fcs_ld hx)) rfl ?_
      refine Dr.callV rfl (fun w => Enters.value (first := []) (cap := []) rfl rfl rfl eg_order) rfl (fun w hG => order_any y x w) ?_
      refine Dr.val Grow.refl rfl (fun w hG => (Runs.lss rfl rfl rfl).isF (hlt')) rfl ?_
      refine Dr.val Grow.refl rfl (fun w hG => Runs.not rfl rfl) rfl ?_
      refine Dr.nil ?_
      refine FinX.done (F' := [(0, _), (1, _), (2, _), (3, _), (4, _), (18, _), (19, _), (20, _), (21, _), (22, _), (23, _), (151, _), (171, _)]) rfl ⟨rfl, rfl, rfl, rfl, rfl, rfl, rfl, rfl, rfl, rfl, rfl, rfl, rfl, trivial⟩ ?_
      intro w2 hw2 fw2
      replace k0 := k0.step hw2
      replace only := only.step hw2
      refine Seq.nil ?_
      refine Post.weak (F' := [(0, _), (1, _), (2, _), (3, _), (4, _), (18, _), (19, _), (20, _), (21, _), (22, _), (23, _), (151, _), (171, _)]) ⟨rfl, rfl, rfl, rfl, rfl, rfl, rfl, rfl, rfl, rfl, rfl, rfl, rfl, trivial⟩ ?_
      refine Post.then_ ?_
      refine Cd.condT rfl rfl ?_
      refine Cd.region ?_
      refine Seq.val (Runs.move rfl rfl) rfl rfl rfl ?_
      refine Seq.val (Runs.addI rfl rfl rfl (by omega) (by omega)) rfl rfl rfl ?_
      refine Seq.val (Runs.assign rfl rfl) rfl rfl rfl ?_
      refine Seq.nil ?_
      refine Post.weak (F' := [(0, _), (1, _), (2, _), (3, _), (4, _), (18, _), (19, _), (20, _), (21, _), (22, _), (23, _), (151, _), (171, _)]) ⟨rfl, rfl, rfl, rfl, rfl, rfl, rfl, rfl, rfl, rfl, rfl, rfl, rfl, trivial⟩ ?_
      refine Post.block_normal ?_
      exact Post.round (c + 1, r) ⟨rfl, rfl, rfl, rfl, rfl, rfl, rfl, int_at (by simp only; omega), rfl, rfl, trivial⟩ ⟨by simp only; omega, by simp only; omega, hr1, .inr ⟨x, y, by simpa using hx, by simpa using hy, hlt⟩, hrx, k0, only⟩ (by simp only; omega)
  · obtain rfl : s = r := by omega
    obtain ⟨en, hen⟩ : ∃ en, en + s = nn := ⟨nn - s, by omega⟩
    obtain ⟨A1, A2, hLA, hA1⟩ : ∃ A1 A2, L = A1 ++ A2 ∧ A1.length = s - a := ⟨L.take (s - a), L.drop (s - a), (List.take_append_drop _ _).symm, by rw [List.length_take]; omega⟩
    obtain ⟨B1, B2, hRB, hB1⟩ : ∃ B1 B2, R = B1 ++ B2 ∧ B1.length = en - m := ⟨R.take (en - m), R.drop (en - m), (List.take_append_drop _ _).symm, by rw [List.length_take]; omega⟩
    have hA2 : A2.length = m - s := by have := congrArg List.length hLA; rw [List.length_append] at this; omega
    have hB2 : B2.length = b - en := by have := congrArg List.length hRB; rw [List.length_append] at this; omega
    have hdA : d = (P ++ A1) ++ (A2 ++ (B1 ++ (B2 ++ S))) := by rw [hd, hLA, hRB]; simp
    have hx1 : A1 = [] ∨ B2 = [] ∨ ∃ A' x y B', A1 = A' ++ [x] ∧ B2 = y :: B' ∧ leF x y := by
      by_cases e1 : A1.length = 0
      · exact .inl (List.length_eq_zero_iff.1 e1)
      by_cases e2 : B2.length = 0
      · exact .inr (.inl (List.length_eq_zero_iff.1 e2))
      rcases hsx with h | ⟨x, y, hx, hy, hlt⟩
      · exfalso; omega
      · obtain ⟨A', hA'⟩ := last_at (P := P) (A := A1) (Q := A2 ++ (B1 ++ (B2 ++ S))) (i := s - 1) (x := x) (by rw [← hx, hdA]; simp) (by omega) (by omega)
        obtain ⟨B', hB'⟩ := head_at (P := (P ++ L) ++ B1) (A := B2) (Q := S) (i := pp - (s - 1)) (x := y) (by rw [← hy, hd, hRB]; simp) (by simp only [List.length_append]; omega) (by omega)
        exact .inr (.inr ⟨A', x, y, B', hA', hB', hlt⟩)
    have hx2 : B1 = [] ∨ A2 = [] ∨ ∃ A' x y B', B1 = A' ++ [x] ∧ A2 = y :: B' ∧ leF x y := by
      by_cases e1 : B1.length = 0
      · exact .inl (List.length_eq_zero_iff.1 e1)
      by_cases e2 : A2.length = 0
      · exact .inr (.inl (List.length_eq_zero_iff.1 e2))
      rcases hrx with h | ⟨x, y, hx, hy, hlt⟩
      · exfalso; omega
      · obtain ⟨A', hA'⟩ := last_at (P := P ++ L) (A := B1) (Q := B2 ++ S) (i := pp - s) (x := y) (by rw [← hy, hd, hRB]; simp) (by simp only [List.length_append]; omega) (by omega)
        obtain ⟨B', hB'⟩ := head_at (P := P ++ A1) (A := A2) (Q := B1 ++ (B2 ++ S)) (i := s) (x := x) (by rw [← hx, hdA]) (by simp only [List.length_append]; omega) (by omega)
        exact .inr (.inr ⟨A', y, x, B', hA', hB', ltF_le hlt⟩)
    rw [hdA] at k0
    refine Cd.exit ?_
    refine Post.then_exit ?_
    refine Post.round_exit ?_
    refine Post.block_exit ?_
    refine Post.then_ ?_
    refine Cd.seq ?_
    refine Cd.region ?_
    refine Seq.val (Runs.move rfl rfl) rfl rfl rfl ?_
    refine Seq.val (Runs.move rfl rfl) rfl rfl rfl ?_
    refine Seq.val (Runs.subI rfl rfl rfl (by omega) (by omega)) rfl rfl rfl ?_
    refine Seq.val (Runs.assign rfl rfl) rfl rfl rfl ?_
    refine Seq.nil ?_
    refine Post.weak (F' := [(0, _), (1, _), (2, _), (3, _), (4, _), (18, _), (19, _), (20, _), (21, _), (22, _), (24, _), (151, _)]) ⟨rfl, rfl, rfl, rfl, rfl, rfl, rfl, rfl, rfl, rfl, rfl, rfl, trivial⟩ ?_
    refine Post.then_ ?_
    refine Cd.seqJ (σ := Unit) (fun _ => [(0, .slice (some ⟨g, 0, none⟩) n cap), (1, .int .i64 (a : Int)), (3, .int .i64 (b : Int)), (4, .func (.func 26) #[] #[]), (18, .int .i64 (mid : Int)), (20, .int .i64 (s : Int)), (24, .int .i64 (en : Int))]) (fun _ wr => Blk wr g 37 (fcs (P ++ (A1 ++ (B1 ++ (A2 ++ (B2 ++ S))))) ++ pad).toArray ∧ Onl w wr g) ?_ ?_
    · skip
      refine Cd.seq ?_
      refine Cd.region ?_
      refine Seq.val (Runs.move rfl rfl) rfl rfl rfl ?_
      refine Seq.val (Runs.move rfl rfl) rfl rfl rfl ?_
      refine Seq.val (Runs.lss rfl rfl rfl) rfl rfl rfl ?_
      refine Seq.val (Runs.move rfl rfl) rfl rfl rfl ?_
      refine SeqC.start ?_
      refine SeqC.open rfl rfl rfl rfl rfl rfl rfl (fun hcx => Runs.move rfl rfl) ?_
      refine SeqC.next rfl rfl rfl rfl rfl rfl rfl (fun hcx => Runs.move rfl rfl) ?_
      refine SeqC.next rfl rfl rfl rfl rfl rfl rfl (fun hcx => Runs.lss rfl rfl rfl) ?_
      refine SeqC.and rfl rfl rfl rfl rfl rfl rfl ?_
      refine Seq.nil ?_
      refine Post.weak (F' := [(0, _), (1, _), (2, _), (3, _), (4, _), (18, _), (19, _), (20, _), (21, _), (22, _), (24, _), (151, _), (185, _)]) ⟨rfl, rfl, rfl, rfl, rfl, rfl, rfl, rfl, rfl, rfl, rfl, rfl, rfl, trivial⟩ ?_
      refine Post.then_ ?_
      refine Cd.cond rfl (fun h => ?_) (fun h => ?_)
      · simp only [Bool.and_eq_true, decide_eq_true_eq] at h
        refine Cd.region ?_
        refine Seq.val (Runs.move rfl rfl) rfl rfl rfl ?_
        refine Seq.val (Runs.move rfl rfl) rfl rfl rfl ?_
        refine Seq.val (Runs.move rfl rfl) rfl rfl rfl ?_
        refine Seq.val (Runs.move rfl rfl) rfl rfl rfl ?_
        refine Seq.val (Runs.move rfl rfl) rfl rfl rfl ?_
        rw [show (nn : Int) - (s : Int) = (en : Int) by omega]
        refine Seq.call (Enters.func rfl rfl rfl (run_enter Try.func56 (by kernel_rfl) rfl)) rfl rfl rfl (rotate_any g cap s m en n (P ++ A1) A2 B1 (B2 ++ S) pad _ _ (by omega) (by omega) (by simp only [List.length_append]; omega) h1 (by simp only [List.length_append]; omega) (by omega) (by omega) k0) ?_
        rintro en w5 ⟨rfl, kz, oz⟩
        refine ⟨_, rfl, ?_⟩
        have only2 := only.trans oz
        clear k0 only
        have only := only2
        clear only2 oz
        have k0 := kz
        rw [List.append_assoc] at k0
        clear kz
        refine Seq.nil ?_
        refine Post.weak (F' := [(0, _), (1, _), (2, _), (3, _), (4, _), (18, _), (19, _), (20, _), (21, _), (22, _), (24, _), (151, _), (185, _)]) ⟨rfl, rfl, rfl, rfl, rfl, rfl, rfl, rfl, rfl, rfl, rfl, rfl, rfl, trivial⟩ ?_
        exact Post.join () ⟨rfl, rfl, rfl, rfl, rfl, rfl, rfl, trivial⟩ ⟨k0, only⟩
      · skip
        refine Cd.skip ?_
        have hk : (P ++ A1) ++ (A2 ++ (B1 ++ (B2 ++ S))) = P ++ (A1 ++ (B1 ++ (A2 ++ (B2 ++ S)))) := by
          by_cases e : A2.length = 0
          · rw [List.length_eq_zero_iff.1 e]; simp
          · have : B1.length = 0 := by
              simp only [Bool.and_eq_false_iff, decide_eq_false_iff_not] at h
              omega
            rw [List.length_eq_zero_iff.1 this]; simp
        rw [hk] at k0
        exact Post.join () ⟨rfl, rfl, rfl, rfl, rfl, rfl, int_at (by omega), trivial⟩ ⟨k0, only⟩
    clear k0 only
    rintro ⟨⟩ wr ⟨k0, only⟩
    refine Cd.seqJ (σ := List Fl) (fun _ => [(0, .slice (some ⟨g, 0, none⟩) n cap), (3, .int .i64 (b : Int)), (4, .func (.func 26) #[] #[]), (18, .int .i64 (mid : Int)), (24, .int .i64 (en : Int))]) (fun M1 wr => M1.Perm (A1 ++ B1) ∧ M1.Pairwise leF ∧ Blk wr g 37 (fcs (P ++ (M1 ++ (A2 ++ (B2 ++ S)))) ++ pad).toArray ∧ Onl w wr g) ?_ ?_
    · skip
      refine Cd.seq ?_
      refine Cd.region ?_
      refine Seq.val (Runs.move rfl rfl) rfl rfl rfl ?_
      refine Seq.val (Runs.move rfl rfl) rfl rfl rfl ?_
      refine Seq.val (Runs.lss rfl rfl rfl) rfl rfl rfl ?_
      refine Seq.val (Runs.move rfl rfl) rfl rfl rfl ?_
      refine SeqC.start ?_
      refine SeqC.open rfl rfl rfl rfl rfl rfl rfl (fun hcx => Runs.move rfl rfl) ?_
      refine SeqC.next rfl rfl rfl rfl rfl rfl rfl (fun hcx => Runs.move rfl rfl) ?_
      refine SeqC.next rfl rfl rfl rfl rfl rfl rfl (fun hcx => Runs.lss rfl rfl rfl) ?_
      refine SeqC.and rfl rfl rfl rfl rfl rfl rfl ?_
      refine Seq.nil ?_
      refine Post.weak (F' := [(0, _), (1, _), (3, _), (4, _), (18, _), (20, _), (24, _), (199, _)]) ⟨rfl, rfl, rfl, rfl, rfl, rfl, rfl, rfl, trivial⟩ ?_
      refine Post.then_ ?_
      refine Cd.cond rfl (fun h => ?_) (fun h => ?_)
      · simp only [Bool.and_eq_true, decide_eq_true_eq] at h
        refine Cd.region ?_
        refine Seq.val (Runs.move rfl rfl) rfl rfl rfl ?_
        refine Seq.val (Runs.move rfl rfl) rfl rfl rfl ?_
        refine Seq.val (Runs.move rfl rfl) rfl rfl rfl ?_
        refine Seq.val (Runs.move rfl rfl) rfl rfl rfl ?_
        refine Seq.val (Runs.move rfl rfl) rfl rfl rfl ?_
        refine Seq.call (Enters.func rfl rfl rfl (run_enter Try.func51 (by kernel_rfl) rfl)) rfl rfl rfl (ih g cap a s mid n P A1 B1 (A2 ++ (B2 ++ S)) pad _ (by omega) (by omega) (by omega) (by simp only [List.length_append]; omega) h1 ha (by omega) (by omega) (by rw [hLA] at hL; exact pw_left hL) (by rw [hRB] at hR; exact pw_left hR) k0) ?_
        rintro en_ w5 ⟨M1, rfl, hp1, hw1, kz, oz⟩
        refine ⟨_, rfl, ?_⟩
        have only2 := only.trans oz
        clear k0 only
        have only := only2
        have k0 := kz
        clear only2 oz kz
        refine Seq.nil ?_
        refine Post.weak (F' := [(0, _), (1, _), (3, _), (4, _), (18, _), (20, _), (24, _), (199, _)]) ⟨rfl, rfl, rfl, rfl, rfl, rfl, rfl, rfl, trivial⟩ ?_
        exact Post.join M1 ⟨rfl, rfl, rfl, rfl, rfl, trivial⟩ ⟨hp1, hw1, k0, only⟩
      · skip
        refine Cd.skip ?_
        refine Post.join (A1 ++ B1) ⟨rfl, rfl, rfl, rfl, rfl, trivial⟩ ⟨List.Perm.refl _, ?_, by simpa using k0, only⟩
        by_cases e : A1.length = 0
        · rw [List.length_eq_zero_iff.1 e]
          rw [hRB] at hR
          exact pw_left hR
        · have : B1.length = 0 := by
            simp only [Bool.and_eq_false_iff, decide_eq_false_iff_not] at h
            omega
          rw [List.length_eq_zero_iff.1 this, List.append_nil]
          rw [hLA] at hL
          exact pw_left hL
    clear k0 only
    rintro M1 wr ⟨hp1, hw1, k0, only⟩
    have hM1 : M1.length = mid - a := by rw [hp1.length_eq, List.length_append]; omega
    have hfin : ∀ M2 : List Fl, M2.Perm (A2 ++ B2) → M2.Pairwise leF → (M1 ++ M2).Perm (L ++ R) ∧ (M1 ++ M2).Pairwise leF := fun M2 p2 s2 => by
      rw [hLA, hRB]
      exact two_halves leF_tr leF_rf (by rw [← hLA]; exact hL) (by rw [← hRB]; exact hR) hx1 hx2 hp1 hw1 p2 s2
    refine Cd.seq ?_
    refine Cd.region ?_
    refine Seq.val (Runs.move rfl rfl) rfl rfl rfl ?_
    refine Seq.val (Runs.move rfl rfl) rfl rfl rfl ?_
    refine Seq.val (Runs.lss rfl rfl rfl) rfl rfl rfl ?_
    refine Seq.val (Runs.move rfl rfl) rfl rfl rfl ?_
    refine SeqC.start ?_
    refine SeqC.open rfl rfl rfl rfl rfl rfl rfl (fun hcx => Runs.move rfl rfl) ?_
    refine SeqC.next rfl rfl rfl rfl rfl rfl rfl (fun hcx => Runs.move rfl rfl) ?_
    refine SeqC.next rfl rfl rfl rfl rfl rfl rfl (fun hcx => Runs.lss rfl rfl rfl) ?_
    refine SeqC.and rfl rfl rfl rfl rfl rfl rfl ?_
    refine Seq.nil ?_
    refine Post.weak (F' := [(0, _), (3, _), (4, _), (18, _), (24, _), (213, _)]) ⟨rfl, rfl, rfl, rfl, rfl, rfl, trivial⟩ ?_
    refine Post.then_ ?_
    refine Cd.cond rfl (fun h => ?_) (fun h => ?_)
    · simp only [Bool.and_eq_true, decide_eq_true_eq] at h
      have k0' : Blk wr g 37 (fcs ((P ++ M1) ++ (A2 ++ (B2 ++ S))) ++ pad).toArray := by simpa using k0
      clear k0
      have k0 := k0'
      clear k0'
      refine Cd.region ?_
      refine Seq.val (Runs.move rfl rfl) rfl rfl rfl ?_
      refine Seq.val (Runs.move rfl rfl) rfl rfl rfl ?_
      refine Seq.val (Runs.move rfl rfl) rfl rfl rfl ?_
      refine Seq.val (Runs.move rfl rfl) rfl rfl rfl ?_
      refine Seq.val (Runs.move rfl rfl) rfl rfl rfl ?_
      refine Seq.call (Enters.func rfl rfl rfl (run_enter Try.func51 (by kernel_rfl) rfl)) rfl rfl rfl (ih g cap mid en b n (P ++ M1) A2 B2 S pad _ (by omega) (by omega) (by omega) (by simp only [List.length_append]; omega) h1 (by simp only [List.length_append]; omega) (by omega) (by omega) (by rw [hLA] at hL; exact pw_right hL) (by rw [hRB] at hR; exact pw_right hR) k0) ?_
      rintro en_ w5 ⟨M2, rfl, hp2, hw2, kz, oz⟩
      refine ⟨_, rfl, ?_⟩
      have only2 := only.trans oz
      clear k0 only
      have only := only2
      have k0 := kz
      clear only2 oz kz
      refine Seq.nil ?_
      refine Post.weak (F' := [(0, _), (3, _), (4, _), (18, _), (24, _), (213, _)]) ⟨rfl, rfl, rfl, rfl, rfl, rfl, trivial⟩ ?_
      refine Post.end0 rfl (.inr rfl) ?_
      obtain ⟨f1, f2⟩ := hfin M2 hp2 hw2
      exact ⟨M1 ++ M2, rfl, f1, f2, by simpa using k0, only⟩
    · skip
      refine Cd.skip ?_
      refine Post.end0 rfl (.inr rfl) ?_
      obtain ⟨f1, f2⟩ := hfin (A2 ++ B2) (List.Perm.refl _) (by
        by_cases e : A2.length = 0
        · rw [List.length_eq_zero_iff.1 e]
          rw [hRB] at hR
          exact pw_right hR
        · have : B2.length = 0 := by
            simp only [Bool.and_eq_false_iff, decide_eq_false_iff_not] at h
            omega
          rw [List.length_eq_zero_iff.1 this, List.append_nil]
          rw [hLA] at hL
          exact pw_right hL)
      exact ⟨M1 ++ (A2 ++ B2), rfl, f1, f2, by simpa using k0, only⟩
end Go.Proofs.Ythcimkhnijnmgaa

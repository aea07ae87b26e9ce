/-
  Files sorted in place: insertionSort of slices. Condition: the files are few.
-/
import Derived.Test.YthcimkhnijnmgaaSrtC
namespace Go.Proofs.Ythcimkhnijnmgaa
open Go.RowKit

theorem eg_order : ∀ args w, (callFunc 26 args).run Try.prog w = .ok (.enter 26 args) w := fun args w => run_enter Try.func26 (by kernel_rfl) rfl args w
theorem nil_or_last {α : Type} (X : List α) : X = [] ∨ ∃ L b, X = L ++ [b] := by
  rcases List.eq_nil_or_concat X with h | ⟨L, b, h⟩
  · exact .inl h
  · exact .inr ⟨L, b, by rw [h]; simp⟩
theorem pw_one (L : List Fl) : (L.take 1).Pairwise leF := by
  cases L with
  | nil => exact List.Pairwise.nil
  | cons x r => simp
theorem insert_any (g cap a b n : Nat) (P L S : List Fl) (pad : List Value) (w : World) (hN : n = (P ++ (L ++ S)).length) (h1 : n ≤ 1000000) (ha : a = P.length) (hb : b = a + L.length) (k0 : Blk w g 37 (fcs (P ++ (L ++ S)) ++ pad).toArray) :
    Calls Try.prog 50 #[.slice (some ⟨g, 0, none⟩) n cap, .int .i64 (a : Int), .int .i64 (b : Int), .func (.func 26) #[] #[]] w fun e w' => ∃ M, e = .returned (.tuple #[]) ∧ M.Perm L ∧ M.Pairwise leF ∧ Blk w' g 37 (fcs (P ++ (M ++ S)) ++ pad).toArray ∧ Onl w w' g := by
  have only := Onl.refl w g
  simp only [List.length_append] at hN
  refine Calls.start 53 Try.func50 rfl rfl rfl ?_
  refine Cd.seq ?_
  refine Cd.region ?_
  refine Seq.val (Runs.move rfl rfl) rfl rfl rfl ?_
  refine Seq.val (Runs.addI rfl rfl rfl (by omega) (by omega)) rfl rfl rfl ?_
  refine Seq.val (Runs.assign rfl rfl) rfl rfl rfl ?_
  refine Seq.nil ?_
  refine Post.weak (F' := [(0, _), (1, _), (2, _), (3, _), (8, _)]) ⟨rfl, rfl, rfl, rfl, rfl, trivial⟩ ?_
  refine Post.then_ ?_
  refine Cd.block ?_
  refine Cd.loop (σ := Nat × List Fl) (fun s => [(0, .slice (some ⟨g, 0, none⟩) n cap), (1, .int .i64 (a : Int)), (2, .int .i64 (b : Int)), (3, .func (.func 26) #[] #[]), (8, .int .i64 ((a + s.1 : Nat) : Int))])
    (fun s wr => 1 ≤ s.1 ∧ (s.1 ≤ L.length ∨ s.1 = 1) ∧ s.2.Perm (L.take s.1) ∧ s.2.Pairwise leF ∧ Blk wr g 37 (fcs (P ++ (s.2 ++ (L.drop s.1 ++ S))) ++ pad).toArray ∧ Onl w wr g) (fun s => L.length - s.1) (1, L.take 1) ⟨Nat.le_refl _, .inr rfl, List.Perm.refl _, pw_one L, by rw [← List.append_assoc (L.take 1), List.take_append_drop]; exact k0, only⟩ ⟨rfl, rfl, rfl, rfl, int_at (by simp only; omega), trivial⟩ ?_
  clear k0 only
  rintro ⟨k, M⟩ wr ⟨hk1, hk2, hpm, hpw, k0, only⟩
  simp only at hk1 hk2 hpm hpw k0
  show Cd _ _ _ _ [(0, .slice (some ⟨g, 0, none⟩) n cap), (1, .int .i64 (a : Int)), (2, .int .i64 (b : Int)), (3, .func (.func 26) #[] #[]), (8, .int .i64 ((a + k : Nat) : Int))] _
  refine Cd.seq ?_
  refine Cd.seq ?_
  refine Cd.region ?_
  refine Seq.val (Runs.move rfl rfl) rfl rfl rfl ?_
  refine Seq.val (Runs.move rfl rfl) rfl rfl rfl ?_
  refine Seq.val (Runs.lss rfl rfl rfl) rfl rfl rfl ?_
  refine Seq.nil ?_
  refine Post.weak (F' := [(0, _), (1, _), (2, _), (3, _), (8, _), (14, _)]) ⟨rfl, rfl, rfl, rfl, rfl, rfl, trivial⟩ ?_
  refine Post.then_ ?_
  refine Cd.condD rfl (fun hc => ?_) (fun hc => ?_)
  · obtain ⟨y, hy⟩ : ∃ y, L[k]? = some y := ⟨_, List.getElem?_eq_getElem (show k < L.length by omega)⟩
    have hdk := drop_head hy
    have htk := take_last hy
    have hMl : M.length = k := by rw [hpm.length_eq, List.length_take]; omega
    obtain ⟨R, hR⟩ : ∃ R, R = L.drop (k + 1) ++ S := ⟨_, rfl⟩
    rw [hdk, List.cons_append, ← hR] at k0
    have hRl : R.length = L.length - (k + 1) + S.length := by rw [hR]; simp
    refine Cd.skip ?_
    refine Post.then_ ?_
    refine Cd.seq ?_
    refine Cd.block ?_
    refine Cd.seq ?_
    refine Cd.region ?_
    refine Seq.val (Runs.move rfl rfl) rfl rfl rfl ?_
    refine Seq.val (Runs.assign rfl rfl) rfl rfl rfl ?_
    refine Seq.nil ?_
    refine Post.weak (F' := [(0, _), (1, _), (2, _), (3, _), (8, _), (9, _), (14, _)]) ⟨rfl, rfl, rfl, rfl, rfl, rfl, rfl, trivial⟩ ?_
    refine Post.then_ ?_
    refine Cd.block ?_
    refine Cd.loop (σ := List Fl × List Fl) (fun s => [(0, .slice (some ⟨g, 0, none⟩) n cap), (1, .int .i64 (a : Int)), (2, .int .i64 (b : Int)), (3, .func (.func 26) #[] #[]), (8, .int .i64 ((a + k : Nat) : Int)), (9, .int .i64 ((a + s.1.length : Nat) : Int))])
      (fun s wr => s.1 ++ s.2 = M ∧ (s.2 = [] ∨ ∃ z Y', s.2 = z :: Y' ∧ ltF y z) ∧ Blk wr g 37 (fcs (P ++ (s.1 ++ y :: (s.2 ++ R))) ++ pad).toArray ∧ Onl w wr g) (fun s => s.1.length) (M, []) ⟨by simp, .inl rfl, k0, only⟩ ⟨rfl, rfl, rfl, rfl, rfl, int_at (by simp only; omega), trivial⟩ ?_
    clear k0 only
    rintro ⟨X, Y⟩ wr ⟨hXY, hYh, k0, only⟩
    simp only at hXY hYh k0
    have hXYl := congrArg List.length hXY
    rw [List.length_append] at hXYl
    show Cd _ _ _ _ [(0, .slice (some ⟨g, 0, none⟩) n cap), (1, .int .i64 (a : Int)), (2, .int .i64 (b : Int)), (3, .func (.func 26) #[] #[]), (8, .int .i64 ((a + k : Nat) : Int)), (9, .int .i64 ((a + X.length : Nat) : Int))] _
    rcases nil_or_last X with rfl | ⟨X', z, rfl⟩
    · skip
      refine Cd.seq ?_
      refine Cd.seq ?_
      refine Cd.draw 17 (by kernel_rfl) [] (.inl rfl) rfl Grow Grow.refl (fun _ _ _ => Grow.trans) ?_
      intro w1 hw1 zw1
      replace k0 := k0.step hw1
      replace only := only.step hw1
      have zlt := k0.lt
      refine Dr.val Grow.refl rfl (fun w hG => Runs.move rfl rfl) rfl ?_
      refine Dr.val Grow.refl rfl (fun w hG => Runs.move rfl rfl) rfl ?_
      refine Dr.val Grow.refl rfl (fun w hG => (Runs.gtr rfl rfl rfl).isF (by simp)) rfl ?_
      refine Dr.val Grow.refl rfl (fun w hG => Runs.move rfl rfl) rfl ?_
      refine Dr.skip rfl rfl rfl rfl rfl ?_
      refine Dr.skip rfl rfl rfl rfl rfl ?_
      refine Dr.skip rfl rfl rfl rfl rfl ?_
      refine Dr.skip rfl rfl rfl rfl rfl ?_
      refine Dr.skip rfl rfl rfl rfl rfl ?_
      refine Dr.skip rfl rfl rfl rfl rfl ?_
      refine Dr.skip rfl rfl rfl rfl rfl ?_
      refine Dr.skip rfl rfl rfl rfl rfl ?_
      refine Dr.skip rfl rfl rfl rfl rfl ?_
      refine Dr.skip rfl rfl rfl rfl rfl ?_
      refine Dr.skip rfl rfl rfl rfl rfl ?_
      refine Dr.skip rfl rfl rfl rfl rfl ?_
      refine Dr.val Grow.refl rfl (fun w hG => Runs.pickF rfl rfl rfl) rfl ?_
      refine Dr.nil ?_
      refine FinX.done (F' := [(0, _), (1, _), (2, _), (3, _), (8, _), (9, _), (34, _)]) rfl ⟨rfl, rfl, rfl, rfl, rfl, rfl, rfl, trivial⟩ ?_
      intro w2 hw2 fw2
      replace k0 := k0.step hw2
      replace only := only.step hw2
      refine Seq.nil ?_
      refine Post.weak (F' := [(0, _), (1, _), (2, _), (3, _), (8, _), (9, _), (34, _)]) ⟨rfl, rfl, rfl, rfl, rfl, rfl, rfl, trivial⟩ ?_
      refine Post.then_ ?_
      refine Cd.condF rfl rfl ?_
      refine Cd.exit ?_
      refine Post.then_exit ?_
      refine Post.round_exit ?_
      refine Post.block_exit ?_
      refine Post.block_normal ?_
      refine Post.then_ ?_
      refine Cd.region ?_
      refine Seq.val (Runs.move rfl rfl) rfl rfl rfl ?_
      refine Seq.val (Runs.addI rfl rfl rfl (by omega) (by omega)) rfl rfl rfl ?_
      refine Seq.val (Runs.assign rfl rfl) rfl rfl rfl ?_
      refine Seq.nil ?_
      refine Post.weak (F' := [(0, _), (1, _), (2, _), (3, _), (8, _), (9, _), (34, _)]) ⟨rfl, rfl, rfl, rfl, rfl, rfl, rfl, trivial⟩ ?_
      refine Post.round (k + 1, [] ++ y :: Y) ⟨rfl, rfl, rfl, rfl, int_at (by simp only; omega), trivial⟩ ⟨by simp only; omega, by simp only; omega, ?_, ?_, by rw [← hR]; simpa using k0, only⟩ (by simp only; omega)
      · show (y :: Y).Perm _
        rw [htk]
        rw [List.nil_append] at hXY
        rw [hXY]
        exact (hpm.cons y).trans (List.perm_append_singleton y _).symm
      · rw [← hXY] at hpw
        exact put_sorted leF_tr leF_rf hpw (.inl rfl) (hYh.imp id fun ⟨z, Y', e, h⟩ => ⟨z, Y', e, ltF_le h⟩)
    have hXl : (X' ++ [z]).length = X'.length + 1 := by simp
    have hQl : (Y ++ R).length = Y.length + R.length := List.length_append
    have k0' : Blk wr g 37 (fcs ((P ++ X') ++ z :: y :: (Y ++ R)) ++ pad).toArray := by simpa using k0
    clear k0
    have k0 := k0'
    clear k0'
    obtain ⟨d, hd⟩ : ∃ d, d = (P ++ X') ++ z :: y :: (Y ++ R) := ⟨_, rfl⟩
    have hdl : d.length = P.length + X'.length + 2 + (Y ++ R).length := by rw [hd]; simp only [List.length_append, List.length_cons]; omega
    have hz : d[a + X'.length]? = some z := by rw [hd]; exact get_mid' (by simp only [List.length_append]; omega)
    have hyy : d[a + X'.length + 1]? = some y := by rw [hd, show (P ++ X') ++ z :: y :: (Y ++ R) = ((P ++ X') ++ [z]) ++ y :: (Y ++ R) by simp]; exact get_mid' (by simp only [List.length_append, List.length_cons, List.length_nil]; omega)
    have hsw : (d.set (a + X'.length + 1) z).set (a + X'.length) y = (P ++ X') ++ y :: z :: (Y ++ R) := by rw [hd]; exact swap_mid' (by simp only [List.length_append]; omega) rfl
    rw [← hd] at k0
    by_cases hlt : ltF y z
    · have hlt' : ordB y z < 0 := hlt
      refine Cd.seq ?_
      refine Cd.seq ?_
      refine Cd.draw 17 (by kernel_rfl) [] (.inl rfl) rfl Grow Grow.refl (fun _ _ _ => Grow.trans) ?_
      intro w1 hw1 zw1
      replace k0 := k0.step hw1
      replace only := only.step hw1
      have zlt := k0.lt
      refine Dr.val Grow.refl rfl (fun w hG => Runs.move rfl rfl) rfl ?_
      refine Dr.val Grow.refl rfl (fun w hG => Runs.move rfl rfl) rfl ?_
      refine Dr.val Grow.refl rfl (fun w hG => (Runs.gtr rfl rfl rfl).isT (by omega)) rfl ?_
      refine Dr.val Grow.refl rfl (fun w hG => Runs.move rfl rfl) rfl ?_
      refine Dr.valG Grow.refl rfl (fun w hG => Runs.move rfl rfl) rfl rfl rfl ?_
      refine Dr.valG Grow.refl rfl (fun w hG => Runs.move rfl rfl) rfl rfl rfl ?_
      refine Dr.valG Grow.refl rfl (fun w hG => Runs.move rfl rfl) rfl rfl rfl ?_
      refine Dr.valG Grow.refl rfl (fun w hG => Runs.indexBN rfl rfl rfl Try.underlying27 (s := 6) (by kernel_rfl) (j := a + X'.length + 1) (by omega) (by omega)) rfl rfl rfl ?_
      refine Dr.valG Grow.refl rfl (fun w hG => Runs.loadP (off := 6 * (a + X'.length + 1)) (ps := [.int .i64 y.num, .int .i64 y.level, .string (strOf y.first), .string (strOf y.last), .int .i64 y.count, .int .i64 y.size]) rfl rfl Try.underlying37 rfl (k0.step hG) (m := 6) (by kernel_rfl) rfl (fcs_ld hyy)) rfl rfl rfl ?_
      refine Dr.valG Grow.refl rfl (fun w hG => Runs.move rfl rfl) rfl rfl rfl ?_
      refine Dr.valG Grow.refl rfl (fun w hG => Runs.move rfl rfl) rfl rfl rfl ?_
      refine Dr.valG Grow.refl rfl (fun w hG => Runs.subI rfl rfl rfl (by omega) (by omega)) rfl rfl rfl ?_
      refine Dr.valG Grow.refl rfl (fun w hG => Runs.indexBN rfl rfl rfl Try.underlying27 (s := 6) (by kernel_rfl) (j := a + X'.length) (by omega) (by omega)) rfl rfl rfl ?_
      refine Dr.valG Grow.refl rfl (fun w hG => Runs.loadP (off := 6 * (a + X'.length)) (ps := [.int .i64 z.num, .int .i64 z.level, .string (strOf z.first), .string (strOf z.last), .int .i64 z.count, .int .i64 z.size]) rfl rfl Try.underlying37 rfl (k0.step hG) (m := 6) (by kernel_rfl) rfl (fcs_ld hz)) rfl rfl rfl ?_
      refine Dr.callVG rfl (fun w => Enters.value (first := []) (cap := []) rfl rfl rfl eg_order) rfl rfl rfl (fun w hG => order_any y z w) ?_
      refine Dr.valG Grow.refl rfl (fun w hG => (Runs.lss rfl rfl rfl).isT (hlt')) rfl rfl rfl ?_
      refine Dr.val Grow.refl rfl (fun w hG => Runs.pickT rfl rfl rfl) rfl ?_
      refine Dr.nil ?_
      refine FinX.done (F' := [(0, _), (1, _), (2, _), (3, _), (8, _), (9, _), (34, _)]) rfl ⟨rfl, rfl, rfl, rfl, rfl, rfl, rfl, trivial⟩ ?_
      intro w2 hw2 fw2
      replace k0 := k0.step hw2
      replace only := only.step hw2
      refine Seq.nil ?_
      refine Post.weak (F' := [(0, _), (1, _), (2, _), (3, _), (8, _), (9, _), (34, _)]) ⟨rfl, rfl, rfl, rfl, rfl, rfl, rfl, trivial⟩ ?_
      refine Post.then_ ?_
      refine Cd.condT rfl rfl ?_
      refine Cd.skip ?_
      refine Post.then_ ?_
      refine Cd.seq ?_
      refine Cd.block ?_
      refine Cd.draw 14 (by kernel_rfl) [2, 3, 4] (.inr (fun _ _ d _ _ h => by cases d <;> exact h)) rfl Grow Grow.refl (fun _ _ _ => Grow.trans) ?_
      intro w3 hw3 zw3
      replace k0 := k0.step hw3
      replace only := only.step hw3
      have zlt := k0.lt
      refine Dr.val Grow.refl rfl (fun w hG => Runs.move rfl rfl) rfl ?_
      refine Dr.val Grow.refl rfl (fun w hG => Runs.move rfl rfl) rfl ?_
      refine Dr.late rfl rfl (fun w => Runs.move rfl rfl) Grow.refl rfl ?_
      refine Dr.late rfl rfl (fun w => Runs.move rfl rfl) Grow.refl rfl ?_
      refine Dr.late rfl rfl (fun w => Runs.subI rfl rfl rfl (by omega) (by omega)) Grow.refl rfl ?_
      refine Dr.val Grow.refl rfl (fun w hG => Runs.move rfl rfl) rfl ?_
      refine Dr.val Grow.refl rfl (fun w hG => Runs.move rfl rfl) rfl ?_
      refine Dr.val Grow.refl rfl (fun w hG => Runs.subI rfl rfl rfl (by omega) (by omega)) rfl ?_
      refine Dr.val Grow.refl rfl (fun w hG => Runs.indexBN rfl rfl rfl Try.underlying27 (s := 6) (by kernel_rfl) (j := a + X'.length) (by omega) (by omega)) rfl ?_
      refine Dr.val Grow.refl rfl (fun w hG => Runs.loadP (off := 6 * (a + X'.length)) (ps := [.int .i64 z.num, .int .i64 z.level, .string (strOf z.first), .string (strOf z.last), .int .i64 z.count, .int .i64 z.size]) rfl rfl Try.underlying37 rfl (k0.step hG) (m := 6) (by kernel_rfl) rfl (fcs_ld hz)) rfl ?_
      refine Dr.val Grow.refl rfl (fun w hG => Runs.move rfl rfl) rfl ?_
      refine Dr.val Grow.refl rfl (fun w hG => Runs.move rfl rfl) rfl ?_
      refine Dr.val Grow.refl rfl (fun w hG => Runs.indexBN rfl rfl rfl Try.underlying27 (s := 6) (by kernel_rfl) (j := a + X'.length + 1) (by omega) (by omega)) rfl ?_
      refine Dr.val Grow.refl rfl (fun w hG => Runs.loadP (off := 6 * (a + X'.length + 1)) (ps := [.int .i64 y.num, .int .i64 y.level, .string (strOf y.first), .string (strOf y.last), .int .i64 y.count, .int .i64 y.size]) rfl rfl Try.underlying37 rfl (k0.step hG) (m := 6) (by kernel_rfl) rfl (fcs_ld hyy)) rfl ?_
      refine Dr.nil ?_
      refine FinX.done (F' := [(0, _), (1, _), (2, _), (3, _), (8, _), (9, _), (34, _), (37, _), (38, _), (39, _), (41, _), (46, _), (50, _)]) rfl ⟨rfl, rfl, rfl, rfl, rfl, rfl, rfl, rfl, rfl, rfl, rfl, rfl, rfl, trivial⟩ ?_
      intro w4 hw4 fw4
      replace k0 := k0.step hw4
      replace only := only.step hw4
      refine Seq.val (Runs.indexBN rfl rfl rfl Try.underlying27 (s := 6) (by kernel_rfl) (j := a + X'.length + 1) (by omega) (by omega)) rfl rfl rfl ?_
      refine Seq.storeR (f := z) rfl rfl rfl (by kernel_rfl) k0 (by (try simp only [List.length_set]); omega) only rfl rfl ?_
      intro wz kz oz
      clear k0 only
      have k0 := kz
      have only := oz
      clear kz oz
      refine Seq.val (Runs.indexBN rfl rfl rfl Try.underlying27 (s := 6) (by kernel_rfl) (j := a + X'.length) (by omega) (by omega)) rfl rfl rfl ?_
      refine Seq.storeR (f := y) rfl rfl rfl (by kernel_rfl) k0 (by (try simp only [List.length_set]); omega) only rfl rfl ?_
      intro wz kz oz
      clear k0 only
      have k0 := kz
      have only := oz
      clear kz oz
      rw [hsw] at k0
      refine Seq.nil ?_
      refine Post.weak (F' := [(0, _), (1, _), (2, _), (3, _), (8, _), (9, _), (34, _)]) ⟨rfl, rfl, rfl, rfl, rfl, rfl, rfl, trivial⟩ ?_
      refine Post.block_normal ?_
      refine Post.then_ ?_
      refine Cd.region ?_
      refine Seq.val (Runs.move rfl rfl) rfl rfl rfl ?_
      refine Seq.val (Runs.subI rfl rfl rfl (by omega) (by omega)) rfl rfl rfl ?_
      refine Seq.val (Runs.assign rfl rfl) rfl rfl rfl ?_
      refine Seq.nil ?_
      refine Post.weak (F' := [(0, _), (1, _), (2, _), (3, _), (8, _), (9, _), (34, _)]) ⟨rfl, rfl, rfl, rfl, rfl, rfl, rfl, trivial⟩ ?_
      refine Post.round (X', z :: Y) ⟨rfl, rfl, rfl, rfl, rfl, int_at (by simp only; omega), trivial⟩ ⟨by rw [← hXY]; simp, .inr ⟨z, Y, rfl, hlt⟩, by simpa using k0, only⟩ (by simp only; omega)
    · have hlt' : ¬ ordB y z < 0 := hlt
      refine Cd.seq ?_
      refine Cd.seq ?_
      refine Cd.draw 17 (by kernel_rfl) [] (.inl rfl) rfl Grow Grow.refl (fun _ _ _ => Grow.trans) ?_
      intro w1 hw1 zw1
      replace k0 := k0.step hw1
      replace only := only.step hw1
      have zlt := k0.lt
      refine Dr.val Grow.refl rfl (fun w hG => Runs.move rfl rfl) rfl ?_
      refine Dr.val Grow.refl rfl (fun w hG => Runs.move rfl rfl) rfl ?_
      refine Dr.val Grow.refl rfl (fun w hG => (Runs.gtr rfl rfl rfl).isT (by omega)) rfl ?_
      refine Dr.val Grow.refl rfl (fun w hG => Runs.move rfl rfl) rfl ?_
      refine Dr.valG Grow.refl rfl (fun w hG => Runs.move rfl rfl) rfl rfl rfl ?_
      refine Dr.valG Grow.refl rfl (fun w hG => Runs.move rfl rfl) rfl rfl rfl ?_
      refine Dr.valG Grow.refl rfl (fun w hG => Runs.move rfl rfl) rfl rfl rfl ?_
      refine Dr.valG Grow.refl rfl (fun w hG => Runs.indexBN rfl rfl rfl Try.underlying27 (s := 6) (by kernel_rfl) (j := a + X'.length + 1) (by omega) (by omega)) rfl rfl rfl ?_
      refine Dr.valG Grow.refl rfl (fun w hG => Runs.loadP (off := 6 * (a + X'.length + 1)) (ps := [.int .i64 y.num, .int .i64 y.level, .string (strOf y.first), .string (strOf y.last), .int .i64 y.count, .int .i64 y.size]) rfl rfl Try.underlying37 rfl (k0.step hG) (m := 6) (by kernel_rfl) rfl (fcs_ld hyy)) rfl rfl rfl ?_
      refine Dr.valG Grow.refl rfl (fun w hG => Runs.move rfl rfl) rfl rfl rfl ?_
      refine Dr.valG Grow.refl rfl (fun w hG => Runs.move rfl rfl) rfl rfl rfl ?_
      refine Dr.valG Grow.refl rfl (fun w hG => Runs.subI rfl rfl rfl (by omega) (by omega)) rfl rfl rfl ?_
      refine Dr.valG Grow.refl rfl (fun w hG => Runs.indexBN rfl rfl rfl Try.underlying27 (s := 6) (by kernel_rfl) (j := a + X'.length) (by omega) (by omega)) rfl rfl rfl ?_
      refine Dr.valG Grow.refl rfl (fun w hG => Runs.loadP (off := 6 * (a + X'.length)) (ps := [.int .i64 z.num, .int .i64 z.level, .string (strOf z.first), .string (strOf z.last), .int .i64 z.count, .int .i64 z.size]) rfl rfl Try.underlying37 rfl (k0.step hG) (m := 6) (by kernel_rfl) rfl (fcs_ld hz)) rfl rfl rfl ?_
      refine Dr.callVG rfl (fun w => Enters.value (first := []) (cap := []) rfl rfl rfl eg_order) rfl rfl rfl (fun w hG => order_any y z w) ?_
      refine Dr.valG Grow.refl rfl (fun w hG => (Runs.lss rfl rfl rfl).isF (hlt')) rfl rfl rfl ?_
      refine Dr.val Grow.refl rfl (fun w hG => Runs.pickT rfl rfl rfl) rfl ?_
      refine Dr.nil ?_
      refine FinX.done (F' := [(0, _), (1, _), (2, _), (3, _), (8, _), (9, _), (34, _)]) rfl ⟨rfl, rfl, rfl, rfl, rfl, rfl, rfl, trivial⟩ ?_
      intro w2 hw2 fw2
      replace k0 := k0.step hw2
      replace only := only.step hw2
      refine Seq.nil ?_
      refine Post.weak (F' := [(0, _), (1, _), (2, _), (3, _), (8, _), (9, _), (34, _)]) ⟨rfl, rfl, rfl, rfl, rfl, rfl, rfl, trivial⟩ ?_
      refine Post.then_ ?_
      refine Cd.condF rfl rfl ?_
      refine Cd.exit ?_
      refine Post.then_exit ?_
      refine Post.round_exit ?_
      refine Post.block_exit ?_
      refine Post.block_normal ?_
      refine Post.then_ ?_
      refine Cd.region ?_
      refine Seq.val (Runs.move rfl rfl) rfl rfl rfl ?_
      refine Seq.val (Runs.addI rfl rfl rfl (by omega) (by omega)) rfl rfl rfl ?_
      refine Seq.val (Runs.assign rfl rfl) rfl rfl rfl ?_
      refine Seq.nil ?_
      refine Post.weak (F' := [(0, _), (1, _), (2, _), (3, _), (8, _), (9, _), (34, _)]) ⟨rfl, rfl, rfl, rfl, rfl, rfl, rfl, trivial⟩ ?_
      refine Post.round (k + 1, (X' ++ [z]) ++ y :: Y) ⟨rfl, rfl, rfl, rfl, int_at (by simp only; omega), trivial⟩ ⟨by simp only; omega, by simp only; omega, ?_, ?_, by rw [← hR]; rw [hd] at k0; simpa using k0, only⟩ (by simp only; omega)
      · show ((X' ++ [z]) ++ y :: Y).Perm _
        rw [htk]
        refine List.perm_middle.trans ?_
        rw [hXY]
        exact (hpm.cons y).trans (List.perm_append_singleton y _).symm
      · rw [← hXY] at hpw
        exact put_sorted leF_tr leF_rf hpw (.inr ⟨X', z, rfl, hlt⟩) (hYh.imp id fun ⟨z, Y', e, h⟩ => ⟨z, Y', e, ltF_le h⟩)
  · have hkL : L.length ≤ k := by omega
    rw [List.take_of_length_le hkL] at hpm
    rw [List.drop_of_length_le hkL, List.nil_append] at k0
    refine Cd.exit ?_
    refine Post.then_exit ?_
    refine Post.round_exit ?_
    refine Post.block_exit ?_
    refine Post.end0 rfl (.inr rfl) ?_
    exact ⟨M, rfl, hpm, hpw, k0, only⟩
end Go.Proofs.Ythcimkhnijnmgaa

/-
  Files sorted in place: symMerge of slices. Condition: the files are few.
-/
import Derived.Test.YthcimkhnijnmgaaSrtD
namespace Go.Proofs.Ythcimkhnijnmgaa
open Go.RowKit

theorem Runs.convU {P : Program} {E : Operand → Option Value} {o : Oper} {w : World} {x : Operand} {T T' : TypeId} {p : Int} {r : Nat} (ho : o.op = .convert T T' x) (hx : E x = some (.int .i64 p)) (hS : P.underlying T = some (.int .i64)) (hT : P.underlying T' = some (.int .u64)) (hr : p % 18446744073709551616 = (r : Int)) : Runs P E o w (.int .u64 (r : Int)) w :=
  .convI ho hx hS hT (by rw [IntKind.wrap_u64, hr])
theorem get_in {P L Q : List Fl} {a c : Nat} {y : Fl} (ha : a = P.length) (h : L[c]? = some y) : (P ++ (L ++ Q))[a + c]? = some y := by
  have hc := (List.getElem?_eq_some_iff.1 h).1
  rw [List.getElem?_append_right (by omega), List.getElem?_append_left (by omega), show a + c - P.length = c by omega]
  exact h
theorem get_in2 {P L R Q : List Fl} {m c : Nat} {y : Fl} (hm : m = P.length + L.length) (h : R[c]? = some y) : (P ++ (L ++ (R ++ Q)))[m + c]? = some y := by
  rw [← List.append_assoc P L]
  exact get_in (by rw [List.length_append]; exact hm) h
set_option maxHeartbeats 2000000 in
theorem symOne_any (g cap a m b n : Nat) (P L R S : List Fl) (pad : List Value) (w : World) (hL0 : L.length = 1) (hR0 : 0 < R.length) (hN : n = (P ++ (L ++ (R ++ S))).length) (h1 : n ≤ 1000000) (ha : a = P.length) (hm : m = a + L.length) (hb : b = m + R.length) (hR : R.Pairwise leF) (k0 : Blk w g 37 (fcs (P ++ (L ++ (R ++ S))) ++ pad).toArray) :
    Calls Try.prog 51 #[.slice (some ⟨g, 0, none⟩) n cap, .int .i64 (a : Int), .int .i64 (m : Int), .int .i64 (b : Int), .func (.func 26) #[] #[]] w fun e w' => ∃ M, e = .returned (.tuple #[]) ∧ M.Perm (L ++ R) ∧ M.Pairwise leF ∧ Blk w' g 37 (fcs (P ++ (M ++ S)) ++ pad).toArray ∧ Onl w w' g := by
  have only := Onl.refl w g
  simp only [List.length_append] at hN
  obtain ⟨x, rfl⟩ : ∃ x, L = [x] := List.length_eq_one_iff.1 hL0
  simp only [List.length_cons, List.length_nil] at hm hN
  obtain ⟨d, hd⟩ : ∃ d, d = P ++ ([x] ++ (R ++ S)) := ⟨_, rfl⟩
  have hdl : d.length = n := by rw [hd]; simp only [List.length_append, List.length_cons, List.length_nil]; omega
  have hxd : d[a]? = some x := by rw [hd]; exact get_in (L := [x]) (c := 0) ha rfl
  have hRd : ∀ (c : Nat) (y : Fl), R[c]? = some y → d[m + c]? = some y := fun c y h => by rw [hd]; exact get_in2 (L := [x]) (by simp only [List.length_cons, List.length_nil]; omega) h
  rw [← hd] at k0
  refine Calls.start 220 Try.func51 rfl rfl rfl ?_
  refine Cd.seq ?_
  refine Cd.seq ?_
  refine Cd.region ?_
  refine Seq.val (Runs.move rfl rfl) rfl rfl rfl ?_
  refine Seq.val (Runs.move rfl rfl) rfl rfl rfl ?_
  refine Seq.val (Runs.subI rfl rfl rfl (by omega) (by omega)) rfl rfl rfl ?_
  refine Seq.val (Runs.eqlI rfl rfl rfl) rfl rfl rfl ?_
  refine Seq.nil ?_
  refine Post.weak (F' := [(0, _), (1, _), (2, _), (3, _), (4, _), (28, _)]) ⟨rfl, rfl, rfl, rfl, rfl, rfl, trivial⟩ ?_
  refine Post.then_ ?_
  refine Cd.condT rfl (decide_eq_true (by omega)) ?_
  refine Cd.seq ?_
  refine Cd.region ?_
  refine Seq.val (Runs.move rfl rfl) rfl rfl rfl ?_
  refine Seq.val (Runs.assign rfl rfl) rfl rfl rfl ?_
  refine Seq.nil ?_
  refine Post.weak (F' := [(0, _), (1, _), (2, _), (3, _), (4, _), (10, _), (28, _)]) ⟨rfl, rfl, rfl, rfl, rfl, rfl, rfl, trivial⟩ ?_
  refine Post.then_ ?_
  refine Cd.seq ?_
  refine Cd.region ?_
  refine Seq.val (Runs.move rfl rfl) rfl rfl rfl ?_
  refine Seq.val (Runs.assign rfl rfl) rfl rfl rfl ?_
  refine Seq.nil ?_
  refine Post.weak (F' := [(0, _), (1, _), (2, _), (3, _), (4, _), (10, _), (11, _), (28, _)]) ⟨rfl, rfl, rfl, rfl, rfl, rfl, rfl, rfl, trivial⟩ ?_
  refine Post.then_ ?_
  refine Cd.seq ?_
  refine Cd.block ?_
  refine Cd.loop (σ := Nat × Nat) (fun s => [(0, .slice (some ⟨g, 0, none⟩) n cap), (1, .int .i64 (a : Int)), (2, .int .i64 (m : Int)), (3, .int .i64 (b : Int)), (4, .func (.func 26) #[] #[]), (10, .int .i64 ((m + s.1 : Nat) : Int)), (11, .int .i64 ((m + s.2 : Nat) : Int))])
    (fun s wr => s.1 ≤ s.2 ∧ s.2 ≤ R.length ∧ (s.1 = 0 ∨ ∃ y, R[s.1 - 1]? = some y ∧ ltF y x) ∧ (s.2 = R.length ∨ ∃ y, R[s.2]? = some y ∧ ¬ ltF y x) ∧ Blk wr g 37 (fcs (d) ++ pad).toArray ∧ Onl w wr g) (fun s => s.2 - s.1) (0, R.length) ⟨Nat.zero_le _, Nat.le_refl _, .inl rfl, .inl rfl, k0, only⟩ ⟨rfl, rfl, rfl, rfl, rfl, int_at (by simp only; omega), int_at (by simp only; omega), trivial⟩ ?_
  clear k0 only
  rintro ⟨p, q⟩ wr ⟨hpq, hq, hp1, hq1, k0, only⟩
  simp only at hpq hq hp1 hq1
  show Cd _ _ _ _ [(0, .slice (some ⟨g, 0, none⟩) n cap), (1, .int .i64 (a : Int)), (2, .int .i64 (m : Int)), (3, .int .i64 (b : Int)), (4, .func (.func 26) #[] #[]), (10, .int .i64 ((m + p : Nat) : Int)), (11, .int .i64 ((m + q : Nat) : Int))] _
  refine Cd.seq ?_
  refine Cd.seq ?_
  refine Cd.region ?_
  refine Seq.val (Runs.move rfl rfl) rfl rfl rfl ?_
  refine Seq.val (Runs.move rfl rfl) rfl rfl rfl ?_
  refine Seq.val (Runs.lss rfl rfl rfl) rfl rfl rfl ?_
  refine Seq.nil ?_
  refine Post.weak (F' := [(0, _), (1, _), (2, _), (3, _), (4, _), (10, _), (11, _), (33, _)]) ⟨rfl, rfl, rfl, rfl, rfl, rfl, rfl, rfl, trivial⟩ ?_
  refine Post.then_ ?_
  refine Cd.condD rfl (fun hc => ?_) (fun hc => ?_)
  · obtain ⟨hh, hh1, hh2⟩ : ∃ h : Nat, 2 * h ≤ p + q ∧ p + q ≤ 2 * h + 1 := ⟨(p + q) / 2, by omega, by omega⟩
    obtain ⟨y, hy⟩ : ∃ y, R[hh]? = some y := ⟨_, List.getElem?_eq_getElem (show hh < R.length by omega)⟩
    have hyd := hRd hh y hy
    refine Cd.skip ?_
    refine Post.then_ ?_
    refine Cd.block ?_
    refine Cd.seq ?_
    refine Cd.region ?_
    refine Seq.val (Runs.move rfl rfl) rfl rfl rfl ?_
    refine Seq.val (Runs.move rfl rfl) rfl rfl rfl ?_
    refine Seq.val (Runs.addI rfl rfl rfl (by omega) (by omega)) rfl rfl rfl ?_
    refine Seq.val (Runs.convU (r := m + p + (m + q)) rfl rfl Try.underlying3 Try.underlying96 (by omega)) rfl rfl rfl ?_
    refine Seq.val ((Runs.shrL rfl rfl rfl (s := 1) rfl (by omega)).cast (v' := .int .u64 ((m + hh : Nat) : Int)) (by rw [show (m + p + (m + q)) / 2 ^ 1 = m + hh by omega])) rfl rfl rfl ?_
    refine Seq.val (Runs.convI rfl rfl Try.underlying96 Try.underlying3 (wrapI (by omega) (by omega))) rfl rfl rfl ?_
    refine Seq.val (Runs.assign rfl rfl) rfl rfl rfl ?_
    refine Seq.nil ?_
    refine Post.weak (F' := [(0, _), (1, _), (2, _), (3, _), (4, _), (10, _), (11, _), (12, _), (33, _)]) ⟨rfl, rfl, rfl, rfl, rfl, rfl, rfl, rfl, rfl, trivial⟩ ?_
    refine Post.then_ ?_
    refine Cd.seq ?_
    by_cases hlt : ltF y x
    · have hlt' : ordB y x < 0 := hlt
      refine Cd.draw 11 (by kernel_rfl) [] (.inl rfl) rfl Grow Grow.refl (fun _ _ _ => Grow.trans) ?_
      intro w1 hw1 zw1
      replace k0 := k0.step hw1
      replace only := only.step hw1
      have zlt := k0.lt
      refine Dr.val Grow.refl rfl (fun w hG => Runs.move rfl rfl) rfl ?_
      refine Dr.val Grow.refl rfl (fun w hG => Runs.move rfl rfl) rfl ?_
      refine Dr.val Grow.refl rfl (fun w hG => Runs.move rfl rfl) rfl ?_
      refine Dr.val Grow.refl rfl (fun w hG => Runs.indexBN rfl rfl rfl Try.underlying27 (s := 6) (by kernel_rfl) (j := m + hh) (by omega) (by omega)) rfl ?_
      refine Dr.val Grow.refl rfl (fun w hG => Runs.loadP (off := 6 * (m + hh)) (ps := [.int .i64 y.num, .int .i64 y.level, .string (strOf y.first), .string (strOf y.last), .int .i64 y.count, .int .i64 y.size]) rfl rfl Try.underlying37 rfl (k0.step hG) (m := 6) (by kernel_rfl) rfl (fcs_ld hyd)) rfl ?_
      refine Dr.val Grow.refl rfl (fun w hG => Runs.move rfl rfl) rfl ?_
      refine Dr.val Grow.refl rfl (fun w hG => Runs.move rfl rfl) rfl ?_
      refine Dr.val Grow.refl rfl (fun w hG => Runs.indexBN rfl rfl rfl Try.underlying27 (s := 6) (by kernel_rfl) (j := a) (by omega) (by omega)) rfl ?_
      refine Dr.val Grow.refl rfl (fun w hG => Runs.loadP (off := 6 * (a)) (ps := [.int .i64 x.num, .int .i64 x.level, .string (strOf x.first), .string (strOf x.last), .int .i64 x.count, .int .i64 x.size]) rfl rfl Try.underlying37 rfl (k0.step hG) (m := 6) (by kernel_rfl) rfl (fcs_ld hxd)) rfl ?_
      refine Dr.callV rfl (fun w => Enters.value (first := []) (cap := []) rfl rfl rfl eg_order) rfl (fun w hG => order_any y x w) ?_
      refine Dr.val Grow.refl rfl (fun w hG => (Runs.lss rfl rfl rfl).isT (hlt')) rfl ?_
      refine Dr.nil ?_
      refine FinX.done (F' := [(0, _), (1, _), (2, _), (3, _), (4, _), (10, _), (11, _), (12, _), (33, _), (50, _)]) rfl ⟨rfl, rfl, rfl, rfl, rfl, rfl, rfl, rfl, rfl, rfl, trivial⟩ ?_
      intro w2 hw2 fw2
      replace k0 := k0.step hw2
      replace only := only.step hw2
      refine Seq.nil ?_
      refine Post.weak (F' := [(0, _), (1, _), (2, _), (3, _), (4, _), (10, _), (11, _), (12, _), (33, _), (50, _)]) ⟨rfl, rfl, rfl, rfl, rfl, rfl, rfl, rfl, rfl, rfl, trivial⟩ ?_
      refine Post.then_ ?_
      refine Cd.condT rfl rfl ?_
      refine Cd.region ?_
      refine Seq.val (Runs.move rfl rfl) rfl rfl rfl ?_
      refine Seq.val (Runs.addI rfl rfl rfl (by omega) (by omega)) rfl rfl rfl ?_
      refine Seq.val (Runs.assign rfl rfl) rfl rfl rfl ?_
      refine Seq.nil ?_
      refine Post.weak (F' := [(0, _), (1, _), (2, _), (3, _), (4, _), (10, _), (11, _), (12, _), (33, _), (50, _)]) ⟨rfl, rfl, rfl, rfl, rfl, rfl, rfl, rfl, rfl, rfl, trivial⟩ ?_
      refine Post.block_normal ?_
      exact Post.round (hh + 1, q) ⟨rfl, rfl, rfl, rfl, rfl, int_at (by simp only; omega), rfl, trivial⟩ ⟨by simp only; omega, hq, .inr ⟨y, by simpa using hy, hlt⟩, hq1, k0, only⟩ (by simp only; omega)
    · have hlt' : ¬ ordB y x < 0 := hlt
      refine Cd.draw 11 (by kernel_rfl) [] (.inl rfl) rfl Grow Grow.refl (fun _ _ _ => Grow.trans) ?_
      intro w1 hw1 zw1
      replace k0 := k0.step hw1
      replace only := only.step hw1
      have zlt := k0.lt
      refine Dr.val Grow.refl rfl (fun w hG => Runs.move rfl rfl) rfl ?_
      refine Dr.val Grow.refl rfl (fun w hG => Runs.move rfl rfl) rfl ?_
      refine Dr.val Grow.refl rfl (fun w hG => Runs.move rfl rfl) rfl ?_
      refine Dr.val Grow.refl rfl (fun w hG => Runs.indexBN rfl rfl rfl Try.underlying27 (s := 6) (by kernel_rfl) (j := m + hh) (by omega) (by omega)) rfl ?_
      refine Dr.val Grow.refl rfl (fun w hG => Runs.loadP (off := 6 * (m + hh)) (ps := [.int .i64 y.num, .int .i64 y.level, .string (strOf y.first), .string (strOf y.last), .int .i64 y.count, .int .i64 y.size]) rfl rfl Try.underlying37 rfl (k0.step hG) (m := 6) (by kernel_rfl) rfl (fcs_ld hyd)) rfl ?_
      refine Dr.val Grow.refl rfl (fun w hG => Runs.move rfl rfl) rfl ?_
      refine Dr.val Grow.refl rfl (fun w hG => Runs.move rfl rfl) rfl ?_
      refine Dr.val Grow.refl rfl (fun w hG => Runs.indexBN rfl rfl rfl Try.underlying27 (s := 6) (by kernel_rfl) (j := a) (by omega) (by omega)) rfl ?_
      refine Dr.val Grow.refl rfl (fun w hG => Runs.loadP (off := 6 * (a)) (ps := [.int .i64 x.num, .int .i64 x.level, .string (strOf x.first), .string (strOf x.last), .int .i64 x.count, .int .i64 x.size]) rfl rfl Try.underlying37 rfl (k0.step hG) (m := 6) (by kernel_rfl) rfl (fcs_ld hxd)) rfl ?_
      refine Dr.callV rfl (fun w => Enters.value (first := []) (cap := []) rfl rfl rfl eg_order) rfl (fun w hG => order_any y x w) ?_
      refine Dr.val Grow.refl rfl (fun w hG => (Runs.lss rfl rfl rfl).isF (hlt')) rfl ?_
      refine Dr.nil ?_
      refine FinX.done (F' := [(0, _), (1, _), (2, _), (3, _), (4, _), (10, _), (11, _), (12, _), (33, _), (50, _)]) rfl ⟨rfl, rfl, rfl, rfl, rfl, rfl, rfl, rfl, rfl, rfl, trivial⟩ ?_
      intro w2 hw2 fw2
      replace k0 := k0.step hw2
      replace only := only.step hw2
      refine Seq.nil ?_
      refine Post.weak (F' := [(0, _), (1, _), (2, _), (3, _), (4, _), (10, _), (11, _), (12, _), (33, _), (50, _)]) ⟨rfl, rfl, rfl, rfl, rfl, rfl, rfl, rfl, rfl, rfl, trivial⟩ ?_
      refine Post.then_ ?_
      refine Cd.condF rfl rfl ?_
      refine Cd.region ?_
      refine Seq.val (Runs.move rfl rfl) rfl rfl rfl ?_
      refine Seq.val (Runs.assign rfl rfl) rfl rfl rfl ?_
      refine Seq.nil ?_
      refine Post.weak (F' := [(0, _), (1, _), (2, _), (3, _), (4, _), (10, _), (11, _), (12, _), (33, _), (50, _)]) ⟨rfl, rfl, rfl, rfl, rfl, rfl, rfl, rfl, rfl, rfl, trivial⟩ ?_
      refine Post.block_normal ?_
      exact Post.round (p, hh) ⟨rfl, rfl, rfl, rfl, rfl, rfl, rfl, trivial⟩ ⟨by simp only; omega, by simp only; omega, hp1, .inr ⟨y, hy, hlt⟩, k0, only⟩ (by simp only; omega)
  · obtain rfl : p = q := by omega
    refine Cd.exit ?_
    refine Post.then_exit ?_
    refine Post.round_exit ?_
    refine Post.block_exit ?_
    refine Post.then_ ?_
    refine Cd.seq ?_
    refine Cd.seq ?_
    refine Cd.region ?_
    refine Seq.val (Runs.move rfl rfl) rfl rfl rfl ?_
    refine Seq.val (Runs.assign rfl rfl) rfl rfl rfl ?_
    refine Seq.nil ?_
    refine Post.weak (F' := [(0, _), (1, _), (2, _), (3, _), (4, _), (10, _), (11, _), (13, _), (33, _)]) ⟨rfl, rfl, rfl, rfl, rfl, rfl, rfl, rfl, rfl, trivial⟩ ?_
    refine Post.then_ ?_
    refine Cd.block ?_
    rw [hd] at k0
    refine Cd.loop (σ := Nat) (fun c => [(0, .slice (some ⟨g, 0, none⟩) n cap), (10, .int .i64 ((m + p : Nat) : Int)), (13, .int .i64 ((a + c : Nat) : Int))])
      (fun c wr => c ≤ p ∧ Blk wr g 37 (fcs (P ++ (R.take c ++ x :: (R.drop c ++ S))) ++ pad).toArray ∧ Onl w wr g) (fun c => p - c) 0 ⟨Nat.zero_le _, by simpa using k0, only⟩ ⟨rfl, rfl, int_at (by omega), trivial⟩ ?_
    clear k0 only
    rintro c wr ⟨hcp, k0, only⟩
    refine Cd.seq ?_
    refine Cd.seq ?_
    refine Cd.region ?_
    refine Seq.val (Runs.move rfl rfl) rfl rfl rfl ?_
    refine Seq.val (Runs.move rfl rfl) rfl rfl rfl ?_
    refine Seq.val (Runs.subI rfl rfl rfl (by omega) (by omega)) rfl rfl rfl ?_
    refine Seq.val (Runs.lss rfl rfl rfl) rfl rfl rfl ?_
    refine Seq.nil ?_
    refine Post.weak (F' := [(0, _), (10, _), (13, _), (58, _)]) ⟨rfl, rfl, rfl, rfl, trivial⟩ ?_
    refine Post.then_ ?_
    refine Cd.condD rfl (fun hc => ?_) (fun hc => ?_)
    · obtain ⟨y, hy⟩ : ∃ y, R[c]? = some y := ⟨_, List.getElem?_eq_getElem (show c < R.length by omega)⟩
      have hdr := drop_head hy
      have htk := take_last hy
      have hcl : (R.take c).length = c := by rw [List.length_take]; omega
      have hdl2 : (R.drop (c + 1) ++ S).length = R.length - (c + 1) + S.length := by simp
      have k0' : Blk wr g 37 (fcs ((P ++ R.take c) ++ x :: y :: (R.drop (c + 1) ++ S)) ++ pad).toArray := by rw [hdr] at k0; simpa using k0
      clear k0
      have k0 := k0'
      clear k0'
      obtain ⟨e, he⟩ : ∃ e, e = (P ++ R.take c) ++ x :: y :: (R.drop (c + 1) ++ S) := ⟨_, rfl⟩
      have hel : e.length = n := by rw [he]; simp only [List.length_append, List.length_cons, hcl] at hdl2 ⊢; try omega
      have hex : e[a + c]? = some x := by rw [he]; exact get_mid' (by simp only [List.length_append]; omega)
      have hey : e[a + c + 1]? = some y := by rw [he, show (P ++ R.take c) ++ x :: y :: (R.drop (c + 1) ++ S) = ((P ++ R.take c) ++ [x]) ++ y :: (R.drop (c + 1) ++ S) by simp]; exact get_mid' (by simp only [List.length_append, List.length_cons, List.length_nil]; omega)
      have hsw : (e.set (a + c) y).set (a + c + 1) x = (P ++ R.take c) ++ y :: x :: (R.drop (c + 1) ++ S) := by rw [he]; exact swap_mid (by simp only [List.length_append]; omega) rfl
      rw [← he] at k0
      refine Cd.skip ?_
      refine Post.then_ ?_
      refine Cd.seq ?_
      refine Cd.block ?_
      refine Cd.draw 14 (by kernel_rfl) [2, 3, 4] (.inr (fun _ _ d _ _ h => by cases d <;> exact h)) rfl Grow Grow.refl (fun _ _ _ => Grow.trans) ?_
      intro w1 hw1 zw1
      replace k0 := k0.step hw1
      replace only := only.step hw1
      have zlt := k0.lt
      refine Dr.val Grow.refl rfl (fun w hG => Runs.move rfl rfl) rfl ?_
      refine Dr.val Grow.refl rfl (fun w hG => Runs.move rfl rfl) rfl ?_
      refine Dr.late rfl rfl (fun w => Runs.move rfl rfl) Grow.refl rfl ?_
      refine Dr.late rfl rfl (fun w => Runs.move rfl rfl) Grow.refl rfl ?_
      refine Dr.late rfl rfl (fun w => Runs.addI rfl rfl rfl (by omega) (by omega)) Grow.refl rfl ?_
      refine Dr.val Grow.refl rfl (fun w hG => Runs.move rfl rfl) rfl ?_
      refine Dr.val Grow.refl rfl (fun w hG => Runs.move rfl rfl) rfl ?_
      refine Dr.val Grow.refl rfl (fun w hG => Runs.addI rfl rfl rfl (by omega) (by omega)) rfl ?_
      refine Dr.val Grow.refl rfl (fun w hG => Runs.indexBN rfl rfl rfl Try.underlying27 (s := 6) (by kernel_rfl) (j := a + c + 1) (by omega) (by omega)) rfl ?_
      refine Dr.val Grow.refl rfl (fun w hG => Runs.loadP (off := 6 * (a + c + 1)) (ps := [.int .i64 y.num, .int .i64 y.level, .string (strOf y.first), .string (strOf y.last), .int .i64 y.count, .int .i64 y.size]) rfl rfl Try.underlying37 rfl (k0.step hG) (m := 6) (by kernel_rfl) rfl (fcs_ld hey)) rfl ?_
      refine Dr.val Grow.refl rfl (fun w hG => Runs.move rfl rfl) rfl ?_
      refine Dr.val Grow.refl rfl (fun w hG => Runs.move rfl rfl) rfl ?_
      refine Dr.val Grow.refl rfl (fun w hG => Runs.indexBN rfl rfl rfl Try.underlying27 (s := 6) (by kernel_rfl) (j := a + c) (by omega) (by omega)) rfl ?_
      refine Dr.val Grow.refl rfl (fun w hG => Runs.loadP (off := 6 * (a + c)) (ps := [.int .i64 x.num, .int .i64 x.level, .string (strOf x.first), .string (strOf x.last), .int .i64 x.count, .int .i64 x.size]) rfl rfl Try.underlying37 rfl (k0.step hG) (m := 6) (by kernel_rfl) rfl (fcs_ld hex)) rfl ?_
      refine Dr.nil ?_
      refine FinX.done (F' := [(0, _), (10, _), (13, _), (58, _), (61, _), (62, _), (63, _), (65, _), (70, _), (74, _)]) rfl ⟨rfl, rfl, rfl, rfl, rfl, rfl, rfl, rfl, rfl, rfl, trivial⟩ ?_
      intro w2 hw2 fw2
      replace k0 := k0.step hw2
      replace only := only.step hw2
      refine Seq.val (Runs.indexBN rfl rfl rfl Try.underlying27 (s := 6) (by kernel_rfl) (j := a + c) (by omega) (by omega)) rfl rfl rfl ?_
      refine Seq.storeR (f := y) rfl rfl rfl (by kernel_rfl) k0 (by (try simp only [List.length_set]); omega) only rfl rfl ?_
      intro wz kz oz
      clear k0 only
      have k0 := kz
      have only := oz
      clear kz oz
      refine Seq.val (Runs.indexBN rfl rfl rfl Try.underlying27 (s := 6) (by kernel_rfl) (j := a + c + 1) (by omega) (by omega)) rfl rfl rfl ?_
      refine Seq.storeR (f := x) rfl rfl rfl (by kernel_rfl) k0 (by (try simp only [List.length_set]); omega) only rfl rfl ?_
      intro wz kz oz
      clear k0 only
      have k0 := kz
      have only := oz
      clear kz oz
      rw [hsw] at k0
      refine Seq.nil ?_
      refine Post.weak (F' := [(0, _), (10, _), (13, _), (58, _)]) ⟨rfl, rfl, rfl, rfl, trivial⟩ ?_
      refine Post.block_normal ?_
      refine Post.then_ ?_
      refine Cd.region ?_
      refine Seq.val (Runs.move rfl rfl) rfl rfl rfl ?_
      refine Seq.val (Runs.addI rfl rfl rfl (by omega) (by omega)) rfl rfl rfl ?_
      refine Seq.val (Runs.assign rfl rfl) rfl rfl rfl ?_
      refine Seq.nil ?_
      refine Post.weak (F' := [(0, _), (10, _), (13, _), (58, _)]) ⟨rfl, rfl, rfl, rfl, trivial⟩ ?_
      exact Post.round (c + 1) ⟨rfl, rfl, int_at (by omega), trivial⟩ ⟨by omega, by rw [htk]; simpa using k0, only⟩ (by omega)
    · obtain rfl : c = p := by omega
      refine Cd.exit ?_
      refine Post.then_exit ?_
      refine Post.round_exit ?_
      refine Post.block_exit ?_
      refine Post.then_ ?_
      refine Cd.ret ?_
      refine Post.then_ret ?_
      refine Post.end0 rfl (.inl rfl) ?_
      refine ⟨R.take c ++ x :: R.drop c, rfl, ?_, ?_, by simpa using k0, only⟩
      · refine List.perm_middle.trans ?_
        rw [List.take_append_drop]
        exact List.Perm.refl _
      · refine put_sorted leF_tr leF_rf (by rw [List.take_append_drop]; exact hR) ?_ ?_
        · rcases hp1 with h | ⟨y, hy, hlt⟩
          · left; rw [h]; rfl
          · rcases Nat.eq_zero_or_pos c with h0 | h0
            · left; rw [h0]; rfl
            · right
              have := take_last hy
              rw [show c - 1 + 1 = c by omega] at this
              exact ⟨_, y, this, ltF_le hlt⟩
        · rcases hq1 with h | ⟨y, hy, hlt⟩
          · left; rw [h]; exact List.drop_of_length_le (Nat.le_refl _)
          · right; exact ⟨y, _, drop_head hy, hlt⟩
set_option maxHeartbeats 2000000 in
theorem symLast_any (g cap a m b n : Nat) (P L R S : List Fl) (pad : List Value) (w : World) (hL0 : 1 < L.length) (hR0 : R.length = 1) (hN : n = (P ++ (L ++ (R ++ S))).length) (h1 : n ≤ 1000000) (ha : a = P.length) (hm : m = a + L.length) (hb : b = m + R.length) (hL : L.Pairwise leF) (k0 : Blk w g 37 (fcs (P ++ (L ++ (R ++ S))) ++ pad).toArray) :
    Calls Try.prog 51 #[.slice (some ⟨g, 0, none⟩) n cap, .int .i64 (a : Int), .int .i64 (m : Int), .int .i64 (b : Int), .func (.func 26) #[] #[]] w fun e w' => ∃ M, e = .returned (.tuple #[]) ∧ M.Perm (L ++ R) ∧ M.Pairwise leF ∧ Blk w' g 37 (fcs (P ++ (M ++ S)) ++ pad).toArray ∧ Onl w w' g := by
  have only := Onl.refl w g
  simp only [List.length_append] at hN
  obtain ⟨x, rfl⟩ : ∃ x, R = [x] := List.length_eq_one_iff.1 hR0
  simp only [List.length_cons, List.length_nil] at hb hN
  obtain ⟨d, hd⟩ : ∃ d, d = P ++ (L ++ ([x] ++ S)) := ⟨_, rfl⟩
  have hdl : d.length = n := by rw [hd]; simp only [List.length_append, List.length_cons, List.length_nil]; omega
  have hxd : d[m]? = some x := by rw [hd]; exact get_in2 (R := [x]) (c := 0) (by omega) rfl
  have hLd : ∀ (c : Nat) (y : Fl), L[c]? = some y → d[a + c]? = some y := fun c y h => by rw [hd]; exact get_in ha h
  rw [← hd] at k0
  refine Calls.start 220 Try.func51 rfl rfl rfl ?_
  refine Cd.seq ?_
  refine Cd.seq ?_
  refine Cd.region ?_
  refine Seq.val (Runs.move rfl rfl) rfl rfl rfl ?_
  refine Seq.val (Runs.move rfl rfl) rfl rfl rfl ?_
  refine Seq.val (Runs.subI rfl rfl rfl (by omega) (by omega)) rfl rfl rfl ?_
  refine Seq.val (Runs.eqlI rfl rfl rfl) rfl rfl rfl ?_
  refine Seq.nil ?_
  refine Post.weak (F' := [(0, _), (1, _), (2, _), (3, _), (4, _), (28, _)]) ⟨rfl, rfl, rfl, rfl, rfl, rfl, trivial⟩ ?_
  refine Post.then_ ?_
  refine Cd.condF rfl (decide_eq_false (by omega)) ?_
  refine Cd.skip ?_
  refine Post.then_ ?_
  refine Cd.seq ?_
  refine Cd.seq ?_
  refine Cd.region ?_
  refine Seq.val (Runs.move rfl rfl) rfl rfl rfl ?_
  refine Seq.val (Runs.move rfl rfl) rfl rfl rfl ?_
  refine Seq.val (Runs.subI rfl rfl rfl (by omega) (by omega)) rfl rfl rfl ?_
  refine Seq.val (Runs.eqlI rfl rfl rfl) rfl rfl rfl ?_
  refine Seq.nil ?_
  refine Post.weak (F' := [(0, _), (1, _), (2, _), (3, _), (4, _), (28, _), (80, _)]) ⟨rfl, rfl, rfl, rfl, rfl, rfl, rfl, trivial⟩ ?_
  refine Post.then_ ?_
  refine Cd.condT rfl (decide_eq_true (by omega)) ?_
  refine Cd.seq ?_
  refine Cd.region ?_
  refine Seq.val (Runs.move rfl rfl) rfl rfl rfl ?_
  refine Seq.val (Runs.assign rfl rfl) rfl rfl rfl ?_
  refine Seq.nil ?_
  refine Post.weak (F' := [(0, _), (1, _), (2, _), (3, _), (4, _), (14, _), (28, _), (80, _)]) ⟨rfl, rfl, rfl, rfl, rfl, rfl, rfl, rfl, trivial⟩ ?_
  refine Post.then_ ?_
  refine Cd.seq ?_
  refine Cd.region ?_
  refine Seq.val (Runs.move rfl rfl) rfl rfl rfl ?_
  refine Seq.val (Runs.assign rfl rfl) rfl rfl rfl ?_
  refine Seq.nil ?_
  refine Post.weak (F' := [(0, _), (1, _), (2, _), (3, _), (4, _), (14, _), (15, _), (28, _), (80, _)]) ⟨rfl, rfl, rfl, rfl, rfl, rfl, rfl, rfl, rfl, trivial⟩ ?_
  refine Post.then_ ?_
  refine Cd.seq ?_
  refine Cd.block ?_
  refine Cd.loop (σ := Nat × Nat) (fun s => [(0, .slice (some ⟨g, 0, none⟩) n cap), (1, .int .i64 (a : Int)), (2, .int .i64 (m : Int)), (3, .int .i64 (b : Int)), (4, .func (.func 26) #[] #[]), (14, .int .i64 ((a + s.1 : Nat) : Int)), (15, .int .i64 ((a + s.2 : Nat) : Int))])
    (fun s wr => s.1 ≤ s.2 ∧ s.2 ≤ L.length ∧ (s.1 = 0 ∨ ∃ y, L[s.1 - 1]? = some y ∧ ¬ ltF x y) ∧ (s.2 = L.length ∨ ∃ y, L[s.2]? = some y ∧ ltF x y) ∧ Blk wr g 37 (fcs (d) ++ pad).toArray ∧ Onl w wr g) (fun s => s.2 - s.1) (0, L.length) ⟨Nat.zero_le _, Nat.le_refl _, .inl rfl, .inl rfl, k0, only⟩ ⟨rfl, rfl, rfl, rfl, rfl, int_at (by simp only; omega), int_at (by simp only; omega), trivial⟩ ?_
  clear k0 only
  rintro ⟨p, q⟩ wr ⟨hpq, hq, hp1, hq1, k0, only⟩
  simp only at hpq hq hp1 hq1
  show Cd _ _ _ _ [(0, .slice (some ⟨g, 0, none⟩) n cap), (1, .int .i64 (a : Int)), (2, .int .i64 (m : Int)), (3, .int .i64 (b : Int)), (4, .func (.func 26) #[] #[]), (14, .int .i64 ((a + p : Nat) : Int)), (15, .int .i64 ((a + q : Nat) : Int))] _
  refine Cd.seq ?_
  refine Cd.seq ?_
  refine Cd.region ?_
  refine Seq.val (Runs.move rfl rfl) rfl rfl rfl ?_
  refine Seq.val (Runs.move rfl rfl) rfl rfl rfl ?_
  refine Seq.val (Runs.lss rfl rfl rfl) rfl rfl rfl ?_
  refine Seq.nil ?_
  refine Post.weak (F' := [(0, _), (1, _), (2, _), (3, _), (4, _), (14, _), (15, _), (85, _)]) ⟨rfl, rfl, rfl, rfl, rfl, rfl, rfl, rfl, trivial⟩ ?_
  refine Post.then_ ?_
  refine Cd.condD rfl (fun hc => ?_) (fun hc => ?_)
  · obtain ⟨hh, hh1, hh2⟩ : ∃ h : Nat, 2 * h ≤ p + q ∧ p + q ≤ 2 * h + 1 := ⟨(p + q) / 2, by omega, by omega⟩
    obtain ⟨y, hy⟩ : ∃ y, L[hh]? = some y := ⟨_, List.getElem?_eq_getElem (show hh < L.length by omega)⟩
    have hyd := hLd hh y hy
    refine Cd.skip ?_
    refine Post.then_ ?_
    refine Cd.block ?_
    refine Cd.seq ?_
    refine Cd.region ?_
    refine Seq.val (Runs.move rfl rfl) rfl rfl rfl ?_
    refine Seq.val (Runs.move rfl rfl) rfl rfl rfl ?_
    refine Seq.val (Runs.addI rfl rfl rfl (by omega) (by omega)) rfl rfl rfl ?_
    refine Seq.val (Runs.convU (r := a + p + (a + q)) rfl rfl Try.underlying3 Try.underlying96 (by omega)) rfl rfl rfl ?_
    refine Seq.val ((Runs.shrL rfl rfl rfl (s := 1) rfl (by omega)).cast (v' := .int .u64 ((a + hh : Nat) : Int)) (by rw [show (a + p + (a + q)) / 2 ^ 1 = a + hh by omega])) rfl rfl rfl ?_
    refine Seq.val (Runs.convI rfl rfl Try.underlying96 Try.underlying3 (wrapI (by omega) (by omega))) rfl rfl rfl ?_
    refine Seq.val (Runs.assign rfl rfl) rfl rfl rfl ?_
    refine Seq.nil ?_
    refine Post.weak (F' := [(0, _), (1, _), (2, _), (3, _), (4, _), (14, _), (15, _), (16, _), (85, _)]) ⟨rfl, rfl, rfl, rfl, rfl, rfl, rfl, rfl, rfl, trivial⟩ ?_
    refine Post.then_ ?_
    refine Cd.seq ?_
    by_cases hlt : ltF x y
    · have hlt' : ordB x y < 0 := hlt
      refine Cd.draw 12 (by kernel_rfl) [] (.inl rfl) rfl Grow Grow.refl (fun _ _ _ => Grow.trans) ?_
      intro w1 hw1 zw1
      replace k0 := k0.step hw1
      replace only := only.step hw1
      have zlt := k0.lt
      refine Dr.val Grow.refl rfl (fun w hG => Runs.move rfl rfl) rfl ?_
      refine Dr.val Grow.refl rfl (fun w hG => Runs.move rfl rfl) rfl ?_
      refine Dr.val Grow.refl rfl (fun w hG => Runs.move rfl rfl) rfl ?_
      refine Dr.val Grow.refl rfl (fun w hG => Runs.indexBN rfl rfl rfl Try.underlying27 (s := 6) (by kernel_rfl) (j := m) (by omega) (by omega)) rfl ?_
      refine Dr.val Grow.refl rfl (fun w hG => Runs.loadP (off := 6 * (m)) (ps := [.int .i64 x.num, .int .i64 x.level, .string (strOf x.first), .string (strOf x.last), .int .i64 x.count, .int .i64 x.size]) rfl rfl Try.underlying37 rfl (k0.step hG) (m := 6) (by kernel_rfl) rfl (fcs_ld hxd)) rfl ?_
      refine Dr.val Grow.refl rfl (fun w hG => Runs.move rfl rfl) rfl ?_
      refine Dr.val Grow.refl rfl (fun w hG => Runs.move rfl rfl) rfl ?_
      refine Dr.val Grow.refl rfl (fun w hG => Runs.indexBN rfl rfl rfl Try.underlying27 (s := 6) (by kernel_rfl) (j := a + hh) (by omega) (by omega)) rfl ?_
      refine Dr.val Grow.refl rfl (fun w hG => Runs.loadP (off := 6 * (a + hh)) (ps := [.int .i64 y.num, .int .i64 y.level, .string (strOf y.first), .string (strOf y.last), .int .i64 y.count, .int .i64 y.size]) rfl rfl Try.underlying37 rfl (k0.step hG) (m := 6) (by kernel_rfl) rfl (fcs_ld hyd)) rfl ?_
      refine Dr.callV rfl (fun w => Enters.value (first := []) (cap := []) rfl rfl rfl eg_order) rfl (fun w hG => order_any x y w) ?_
      refine Dr.val Grow.refl rfl (fun w hG => (Runs.lss rfl rfl rfl).isT (hlt')) rfl ?_
      refine Dr.val Grow.refl rfl (fun w hG => Runs.not rfl rfl) rfl ?_
      refine Dr.nil ?_
      refine FinX.done (F' := [(0, _), (1, _), (2, _), (3, _), (4, _), (14, _), (15, _), (16, _), (85, _), (103, _)]) rfl ⟨rfl, rfl, rfl, rfl, rfl, rfl, rfl, rfl, rfl, rfl, trivial⟩ ?_
      intro w2 hw2 fw2
      replace k0 := k0.step hw2
      replace only := only.step hw2
      refine Seq.nil ?_
      refine Post.weak (F' := [(0, _), (1, _), (2, _), (3, _), (4, _), (14, _), (15, _), (16, _), (85, _), (103, _)]) ⟨rfl, rfl, rfl, rfl, rfl, rfl, rfl, rfl, rfl, rfl, trivial⟩ ?_
      refine Post.then_ ?_
      refine Cd.condF rfl rfl ?_
      refine Cd.region ?_
      refine Seq.val (Runs.move rfl rfl) rfl rfl rfl ?_
      refine Seq.val (Runs.assign rfl rfl) rfl rfl rfl ?_
      refine Seq.nil ?_
      refine Post.weak (F' := [(0, _), (1, _), (2, _), (3, _), (4, _), (14, _), (15, _), (16, _), (85, _), (103, _)]) ⟨rfl, rfl, rfl, rfl, rfl, rfl, rfl, rfl, rfl, rfl, trivial⟩ ?_
      refine Post.block_normal ?_
      exact Post.round (p, hh) ⟨rfl, rfl, rfl, rfl, rfl, rfl, rfl, trivial⟩ ⟨by simp only; omega, by simp only; omega, hp1, .inr ⟨y, hy, hlt⟩, k0, only⟩ (by simp only; omega)
    · have hlt' : ¬ ordB x y < 0 := hlt
      refine Cd.draw 12 (by kernel_rfl) [] (.inl rfl) rfl Grow Grow.refl (fun _ _ _ => Grow.trans) ?_
      intro w1 hw1 zw1
      replace k0 := k0.step hw1
      replace only := only.step hw1
      have zlt := k0.lt
      refine Dr.val Grow.refl rfl (fun w hG => Runs.move rfl rfl) rfl ?_
      refine Dr.val Grow.refl rfl (fun w hG => Runs.move rfl rfl) rfl ?_
      refine Dr.val Grow.refl rfl (fun w hG => Runs.move rfl rfl) rfl ?_
      refine Dr.val Grow.refl rfl (fun w hG => Runs.indexBN rfl rfl rfl Try.underlying27 (s := 6) (by kernel_rfl) (j := m) (by omega) (by omega)) rfl ?_
      refine Dr.val Grow.refl rfl (fun w hG => Runs.loadP (off := 6 * (m)) (ps := [.int .i64 x.num, .int .i64 x.level, .string (strOf x.first), .string (strOf x.last), .int .i64 x.count, .int .i64 x.size]) rfl rfl Try.underlying37 rfl (k0.step hG) (m := 6) (by kernel_rfl) rfl (fcs_ld hxd)) rfl ?_
      refine Dr.val Grow.refl rfl (fun w hG => Runs.move rfl rfl) rfl ?_
      refine Dr.val Grow.refl rfl (fun w hG => Runs.move rfl rfl) rfl ?_
      refine Dr.val Grow.refl rfl (fun w hG => Runs.indexBN rfl rfl rfl Try.underlying27 (s := 6) (by kernel_rfl) (j := a + hh) (by omega) (by omega)) rfl ?_
      refine Dr.val Grow.refl rfl (fun w hG => Runs.loadP (off := 6 * (a + hh)) (ps := [.int .i64 y.num, .int .i64 y.level, .string (strOf y.first), .string (strOf y.last), .int .i64 y.count, .int .i64 y.size]) rfl rfl Try.underlying37 rfl (k0.step hG) (m := 6) (by kernel_rfl) rfl (fcs_ld hyd)) rfl ?_
      refine Dr.callV rfl (fun w => Enters.value (first := []) (cap := []) rfl rfl rfl eg_order) rfl (fun w hG => order_any x y w) ?_
      refine Dr.val Grow.refl rfl (fun w hG => (Runs.lss rfl rfl rfl).isF (hlt')) rfl ?_
      refine Dr.val Grow.refl rfl (fun w hG => Runs.not rfl rfl) rfl ?_
      refine Dr.nil ?_
      refine FinX.done (F' := [(0, _), (1, _), (2, _), (3, _), (4, _), (14, _), (15, _), (16, _), (85, _), (103, _)]) rfl ⟨rfl, rfl, rfl, rfl, rfl, rfl, rfl, rfl, rfl, rfl, trivial⟩ ?_
      intro w2 hw2 fw2
      replace k0 := k0.step hw2
      replace only := only.step hw2
      refine Seq.nil ?_
      refine Post.weak (F' := [(0, _), (1, _), (2, _), (3, _), (4, _), (14, _), (15, _), (16, _), (85, _), (103, _)]) ⟨rfl, rfl, rfl, rfl, rfl, rfl, rfl, rfl, rfl, rfl, trivial⟩ ?_
      refine Post.then_ ?_
      refine Cd.condT rfl rfl ?_
      refine Cd.region ?_
      refine Seq.val (Runs.move rfl rfl) rfl rfl rfl ?_
      refine Seq.val (Runs.addI rfl rfl rfl (by omega) (by omega)) rfl rfl rfl ?_
      refine Seq.val (Runs.assign rfl rfl) rfl rfl rfl ?_
      refine Seq.nil ?_
      refine Post.weak (F' := [(0, _), (1, _), (2, _), (3, _), (4, _), (14, _), (15, _), (16, _), (85, _), (103, _)]) ⟨rfl, rfl, rfl, rfl, rfl, rfl, rfl, rfl, rfl, rfl, trivial⟩ ?_
      refine Post.block_normal ?_
      exact Post.round (hh + 1, q) ⟨rfl, rfl, rfl, rfl, rfl, int_at (by simp only; omega), rfl, trivial⟩ ⟨by simp only; omega, hq, .inr ⟨y, by simpa using hy, hlt⟩, hq1, k0, only⟩ (by simp only; omega)
  · obtain rfl : p = q := by omega
    refine Cd.exit ?_
    refine Post.then_exit ?_
    refine Post.round_exit ?_
    refine Post.block_exit ?_
    refine Post.then_ ?_
    refine Cd.seq ?_
    refine Cd.seq ?_
    refine Cd.region ?_
    refine Seq.val (Runs.move rfl rfl) rfl rfl rfl ?_
    refine Seq.val (Runs.assign rfl rfl) rfl rfl rfl ?_
    refine Seq.nil ?_
    refine Post.weak (F' := [(0, _), (1, _), (2, _), (3, _), (4, _), (14, _), (15, _), (17, _), (85, _)]) ⟨rfl, rfl, rfl, rfl, rfl, rfl, rfl, rfl, rfl, trivial⟩ ?_
    refine Post.then_ ?_
    refine Cd.block ?_
    rw [hd] at k0
    refine Cd.loop (σ := Nat) (fun c => [(0, .slice (some ⟨g, 0, none⟩) n cap), (14, .int .i64 ((a + p : Nat) : Int)), (17, .int .i64 ((a + c : Nat) : Int))])
      (fun c wr => p ≤ c ∧ c ≤ L.length ∧ Blk wr g 37 (fcs (P ++ (L.take c ++ x :: (L.drop c ++ S))) ++ pad).toArray ∧ Onl w wr g) (fun c => c) L.length ⟨hq, Nat.le_refl _, by simpa using k0, only⟩ ⟨rfl, rfl, int_at (by omega), trivial⟩ ?_
    clear k0 only
    rintro c wr ⟨hcp, hcL, k0, only⟩
    refine Cd.seq ?_
    refine Cd.seq ?_
    refine Cd.region ?_
    refine Seq.val (Runs.move rfl rfl) rfl rfl rfl ?_
    refine Seq.val (Runs.move rfl rfl) rfl rfl rfl ?_
    refine Seq.val (Runs.gtr rfl rfl rfl) rfl rfl rfl ?_
    refine Seq.nil ?_
    refine Post.weak (F' := [(0, _), (14, _), (17, _), (110, _)]) ⟨rfl, rfl, rfl, rfl, trivial⟩ ?_
    refine Post.then_ ?_
    refine Cd.condD rfl (fun hc => ?_) (fun hc => ?_)
    · obtain ⟨c, rfl⟩ : ∃ j, c = j + 1 := ⟨c - 1, by omega⟩
      obtain ⟨y, hy⟩ : ∃ y, L[c]? = some y := ⟨_, List.getElem?_eq_getElem (show c < L.length by omega)⟩
      have hdr := drop_head hy
      have htk := take_last hy
      have hcl : (L.take c).length = c := by rw [List.length_take]; omega
      have hdl2 : (L.drop (c + 1) ++ S).length = L.length - (c + 1) + S.length := by simp
      have k0' : Blk wr g 37 (fcs ((P ++ L.take c) ++ y :: x :: (L.drop (c + 1) ++ S)) ++ pad).toArray := by rw [htk] at k0; simpa using k0
      clear k0
      have k0 := k0'
      clear k0'
      obtain ⟨e, he⟩ : ∃ e, e = (P ++ L.take c) ++ y :: x :: (L.drop (c + 1) ++ S) := ⟨_, rfl⟩
      have hel : e.length = n := by rw [he]; simp only [List.length_append, List.length_cons, hcl] at hdl2 ⊢; try omega
      have hey : e[a + c]? = some y := by rw [he]; exact get_mid' (by simp only [List.length_append]; omega)
      have hex : e[a + c + 1]? = some x := by rw [he, show (P ++ L.take c) ++ y :: x :: (L.drop (c + 1) ++ S) = ((P ++ L.take c) ++ [y]) ++ x :: (L.drop (c + 1) ++ S) by simp]; exact get_mid' (by simp only [List.length_append, List.length_cons, List.length_nil]; omega)
      have hsw : (e.set (a + c + 1) y).set (a + c) x = (P ++ L.take c) ++ x :: y :: (L.drop (c + 1) ++ S) := by rw [he]; exact swap_mid' (by simp only [List.length_append]; omega) rfl
      rw [← he] at k0
      refine Cd.skip ?_
      refine Post.then_ ?_
      refine Cd.seq ?_
      refine Cd.block ?_
      refine Cd.draw 14 (by kernel_rfl) [2, 3, 4] (.inr (fun _ _ d _ _ h => by cases d <;> exact h)) rfl Grow Grow.refl (fun _ _ _ => Grow.trans) ?_
      intro w1 hw1 zw1
      replace k0 := k0.step hw1
      replace only := only.step hw1
      have zlt := k0.lt
      refine Dr.val Grow.refl rfl (fun w hG => Runs.move rfl rfl) rfl ?_
      refine Dr.val Grow.refl rfl (fun w hG => Runs.move rfl rfl) rfl ?_
      refine Dr.late rfl rfl (fun w => Runs.move rfl rfl) Grow.refl rfl ?_
      refine Dr.late rfl rfl (fun w => Runs.move rfl rfl) Grow.refl rfl ?_
      refine Dr.late rfl rfl (fun w => Runs.subI rfl rfl rfl (by omega) (by omega)) Grow.refl rfl ?_
      refine Dr.val Grow.refl rfl (fun w hG => Runs.move rfl rfl) rfl ?_
      refine Dr.val Grow.refl rfl (fun w hG => Runs.move rfl rfl) rfl ?_
      refine Dr.val Grow.refl rfl (fun w hG => Runs.subI rfl rfl rfl (by omega) (by omega)) rfl ?_
      refine Dr.val Grow.refl rfl (fun w hG => Runs.indexBN rfl rfl rfl Try.underlying27 (s := 6) (by kernel_rfl) (j := a + c) (by omega) (by omega)) rfl ?_
      refine Dr.val Grow.refl rfl (fun w hG => Runs.loadP (off := 6 * (a + c)) (ps := [.int .i64 y.num, .int .i64 y.level, .string (strOf y.first), .string (strOf y.last), .int .i64 y.count, .int .i64 y.size]) rfl rfl Try.underlying37 rfl (k0.step hG) (m := 6) (by kernel_rfl) rfl (fcs_ld hey)) rfl ?_
      refine Dr.val Grow.refl rfl (fun w hG => Runs.move rfl rfl) rfl ?_
      refine Dr.val Grow.refl rfl (fun w hG => Runs.move rfl rfl) rfl ?_
      refine Dr.val Grow.refl rfl (fun w hG => Runs.indexBN rfl rfl rfl Try.underlying27 (s := 6) (by kernel_rfl) (j := a + c + 1) (by omega) (by omega)) rfl ?_
      refine Dr.val Grow.refl rfl (fun w hG => Runs.loadP (off := 6 * (a + c + 1)) (ps := [.int .i64 x.num, .int .i64 x.level, .string (strOf x.first), .string (strOf x.last), .int .i64 x.count, .int .i64 x.size]) rfl rfl Try.underlying37 rfl (k0.step hG) (m := 6) (by kernel_rfl) rfl (fcs_ld hex)) rfl ?_
      refine Dr.nil ?_
      refine FinX.done (F' := [(0, _), (14, _), (17, _), (110, _), (113, _), (114, _), (115, _), (117, _), (122, _), (126, _)]) rfl ⟨rfl, rfl, rfl, rfl, rfl, rfl, rfl, rfl, rfl, rfl, trivial⟩ ?_
      intro w2 hw2 fw2
      replace k0 := k0.step hw2
      replace only := only.step hw2
      refine Seq.val (Runs.indexBN rfl rfl rfl Try.underlying27 (s := 6) (by kernel_rfl) (j := a + c + 1) (by omega) (by omega)) rfl rfl rfl ?_
      refine Seq.storeR (f := y) rfl rfl rfl (by kernel_rfl) k0 (by (try simp only [List.length_set]); omega) only rfl rfl ?_
      intro wz kz oz
      clear k0 only
      have k0 := kz
      have only := oz
      clear kz oz
      refine Seq.val (Runs.indexBN rfl rfl rfl Try.underlying27 (s := 6) (by kernel_rfl) (j := a + c) (by omega) (by omega)) rfl rfl rfl ?_
      refine Seq.storeR (f := x) rfl rfl rfl (by kernel_rfl) k0 (by (try simp only [List.length_set]); omega) only rfl rfl ?_
      intro wz kz oz
      clear k0 only
      have k0 := kz
      have only := oz
      clear kz oz
      rw [hsw] at k0
      refine Seq.nil ?_
      refine Post.weak (F' := [(0, _), (14, _), (17, _), (110, _)]) ⟨rfl, rfl, rfl, rfl, trivial⟩ ?_
      refine Post.block_normal ?_
      refine Post.then_ ?_
      refine Cd.region ?_
      refine Seq.val (Runs.move rfl rfl) rfl rfl rfl ?_
      refine Seq.val (Runs.subI rfl rfl rfl (by omega) (by omega)) rfl rfl rfl ?_
      refine Seq.val (Runs.assign rfl rfl) rfl rfl rfl ?_
      refine Seq.nil ?_
      refine Post.weak (F' := [(0, _), (14, _), (17, _), (110, _)]) ⟨rfl, rfl, rfl, rfl, trivial⟩ ?_
      exact Post.round c ⟨rfl, rfl, int_at (by omega), trivial⟩ ⟨by omega, by omega, by rw [hdr]; simpa using k0, only⟩ (by omega)
    · obtain rfl : c = p := by omega
      refine Cd.exit ?_
      refine Post.then_exit ?_
      refine Post.round_exit ?_
      refine Post.block_exit ?_
      refine Post.then_ ?_
      refine Cd.ret ?_
      refine Post.then_ret ?_
      refine Post.end0 rfl (.inl rfl) ?_
      refine ⟨L.take c ++ x :: L.drop c, rfl, ?_, ?_, by simpa using k0, only⟩
      · refine List.perm_middle.trans ?_
        rw [List.take_append_drop]
        exact (List.perm_append_singleton x L).symm
      · refine put_sorted leF_tr leF_rf (by rw [List.take_append_drop]; exact hL) ?_ ?_
        · rcases hp1 with h | ⟨y, hy, hlt⟩
          · left; rw [h]; rfl
          · rcases Nat.eq_zero_or_pos c with h0 | h0
            · left; rw [h0]; rfl
            · right
              have := take_last hy
              rw [show c - 1 + 1 = c by omega] at this
              exact ⟨_, y, this, hlt⟩
        · rcases hq1 with h | ⟨y, hy, hlt⟩
          · left; rw [h]; exact List.drop_of_length_le (Nat.le_refl _)
          · right; exact ⟨y, _, drop_head hy, ltF_le hlt⟩
end Go.Proofs.Ythcimkhnijnmgaa

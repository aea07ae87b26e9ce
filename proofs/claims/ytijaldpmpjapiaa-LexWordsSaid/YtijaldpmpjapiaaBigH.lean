/-
  debentureref01's Times: what it answers. Condition: the numbers keep a bound.
-/
import Derived.Test.YtijaldpmpjapiaaBigG
namespace Go.Proofs.Ytijaldpmpjapiaa
open Go.RowKit

theorem U_at {l : List Nat} {j d : Nat} (h : l[j]? = some d) : (U l).toArray[j]? = some (.int .u64 (d : Int)) := by simp [U, h]
theorem U_set (l : List Nat) (j d : Nat) : (U l).toArray.setIfInBounds j (.int .u64 (d : Int)) = (U (l.set j d)).toArray := by
  apply Array.ext'
  simp [U, List.map_set]
theorem U_zero (n : Nat) : (List.replicate n (Value.int .u64 0)).toArray = (U (List.replicate n 0)).toArray := by simp [U]
theorem val_set (l : List Nat) : ∀ (j d x : Nat), l[j]? = some x → val (l.set j d) + 65536 ^ j * x = val l + 65536 ^ j * d := by
  induction l with
  | nil => intro j d x h; simp at h
  | cons a l ih =>
    intro j d x h
    cases j with
    | zero =>
      obtain rfl : a = x := by simpa using h
      simp [val]; omega
    | succ j =>
      have := ih j d x (by simpa using h)
      rw [List.set_cons_succ, val, val, Nat.pow_succ, Nat.mul_right_comm, Nat.mul_right_comm _ _ d]
      omega
theorem set_lt {l : List Nat} (h : ∀ d ∈ l, d < 65536) (j v : Nat) (hv : v < 65536) : ∀ d ∈ l.set j v, d < 65536 := by
  intro d hd
  rcases List.mem_or_eq_of_mem_set hd with h1 | rfl
  · exact h d h1
  · exact hv
theorem val_zero (n : Nat) : val (List.replicate n 0) = 0 := by
  induction n with
  | zero => rfl
  | succ n ih => rw [List.replicate_succ, val, ih]
/-- A digit above the number is nought. -/
theorem digit_above (l : List Nat) (j x : Nat) (h : val l < 65536 ^ j) (hx : l[j]? = some x) : x = 0 := by
  have e := val_split l j x hx
  rcases Nat.eq_zero_or_pos x with h0 | h0
  · exact h0
  · exfalso
    have h1 : 65536 ^ j * 1 ≤ 65536 ^ j * (x + 65536 * val (l.drop (j + 1))) := Nat.mul_le_mul_left _ (by omega)
    omega
theorem get_lt {l : List Nat} (h : ∀ d ∈ l, d < 65536) {j d : Nat} (hj : l[j]? = some d) : d < 65536 := h d (List.mem_of_getElem? hj)
/-- One step of the inner loop. -/
theorem times_step (P vl vl' x c v ai bk S : Nat) (h : vl' + P * c = S) (hv : v = x + ai * bk + c) (h2 : vl + P * x = vl' + P * (v % 65536)) : vl + P * 65536 * (v / 65536) = S + P * (ai * bk) := by
  have e0 : v % 65536 + 65536 * (v / 65536) = v := Nat.mod_add_div v 65536
  have e1 : P * v = P * (v % 65536) + P * 65536 * (v / 65536) := by rw [Nat.mul_assoc, ← Nat.mul_add, e0]
  have e2 : P * v = P * x + P * (ai * bk) + P * c := by rw [hv, Nat.mul_add, Nat.mul_add]
  omega

theorem trim_known (k : Nat) (A : Option Addr) (n cap : Nat) (l : List Nat) (w : World) (hr : Reads w w.heap.size 1 A n (U l)) (hd : ∀ d ∈ l, d < 65536) (hn : n ≤ 1073741824) (hc : n ≤ cap) (hk : (digs (val l)).length = k) :
    Calls Try.prog 143 #[.slice A n cap] w fun e w' => e = .returned (.slice A k cap) ∧ Grow w w' :=
  (trim_any _ A n cap l w hr (Nat.le_refl _) hd hn hc).mono fun e w' ⟨h1, h2⟩ => ⟨by rw [h1, hk], by rw [← h2]; exact Grow.refl _⟩
theorem sign_mul (a b : Int) : (decide (decide (a < 0) ≠ decide (b < 0)) && decide (0 < (a * b).natAbs)) = decide (a * b < 0) := by
  rcases Int.lt_trichotomy a 0 with h1 | h1 | h1 <;> rcases Int.lt_trichotomy b 0 with h2 | h2 | h2
  · have := Int.mul_pos_of_neg_of_neg h1 h2
    simp [h1, h2]; omega
  · subst h2; simp
  · have := Int.mul_neg_of_neg_of_pos h1 h2
    have h3 : ¬ b < 0 := by omega
    simp [h1, h3, this]; omega
  · subst h1; simp
  · subst h1; simp
  · subst h1; simp
  · have := Int.mul_neg_of_pos_of_neg h1 h2
    have h3 : ¬ a < 0 := by omega
    simp [h2, h3, this]; omega
  · subst h2; simp
  · have := Int.mul_pos h1 h2
    have h3 : ¬ a < 0 := by omega
    have h4 : ¬ b < 0 := by omega
    simp [h3, h4]; omega

theorem times_any (x y : Value) (a b : Int) (w : World) (hx : BigR w x a) (hy : BigR w y b) (ha : a.natAbs < big) (hb : b.natAbs < big) :
    Calls Try.prog 96 #[x, y] w fun e w' => ∃ v, e = .returned v ∧ Below w.heap.size w w' ∧ BigR w' v (a * b) := by
  obtain ⟨m, rfl, om, hm⟩ := hx.agg
  obtain ⟨q, rfl, oq, hq⟩ := hy.agg
  have hla := len_big (n := a.natAbs) (by omega)
  have hlb := len_big (n := b.natAbs) (by omega)
  obtain ⟨A, ca, rfl, hca, hca2, hra⟩ := hm
  obtain ⟨B, cb, rfl, hcb, hcb2, hrb⟩ := hq
  generalize hma : (digs a.natAbs).length = la at *
  generalize hmb : (digs b.natAbs).length = lb at *
  have bel := Below.refl w.heap.size w
  refine Calls.start 87 Try.func96 rfl rfl rfl ?_
  refine Cd.seq ?_
  refine Cd.region ?_
  refine Seq.box rfl rfl rfl rfl rfl ?_
  intro g2 w1 n2
  have e2 := Nat.le_trans bel.size n2.ge
  replace bel := bel.step n2.below
  have k2 := n2.blk
  refine Seq.box rfl rfl rfl rfl rfl ?_
  intro g3 w2 n3
  have e3 := Nat.le_trans bel.size n3.ge
  have l3 := Nat.lt_of_lt_of_le k2.lt n3.ge
  replace bel := bel.step n3.below
  replace k2 := k2.step n3.below
  have k3 := n3.blk
  refine Seq.alloc rfl (run_zero zero_debentureref01_Big) rfl rfl rfl ?_
  intro g4 w3 n4
  have e4 := Nat.le_trans bel.size n4.ge
  have l4 := Nat.lt_of_lt_of_le k3.lt n4.ge
  replace bel := bel.step n4.below
  replace k2 := k2.step n4.below
  replace k3 := k3.step n4.below
  have k4 := n4.blk
  refine Seq.nil ?_
  refine Post.weak (F' := [(0, _), (1, _), (2, _), (3, _), (4, _)]) ⟨rfl, rfl, rfl, rfl, rfl, trivial⟩ ?_
  refine Post.then_ ?_
  refine Cd.seq ?_
  refine Cd.region ?_
  refine Seq.val (Runs.fieldB 1 rfl rfl Try.underlying133 rfl (by kernel_rfl)) rfl rfl rfl ?_
  refine Seq.val (Runs.loadB rfl rfl Try.underlying131 rfl k2 rfl) rfl rfl rfl ?_
  refine Seq.val (Runs.len rfl rfl Try.underlying131) rfl rfl rfl ?_
  refine Seq.val (Runs.fieldB 1 rfl rfl Try.underlying133 rfl (by kernel_rfl)) rfl rfl rfl ?_
  refine Seq.val (Runs.loadB rfl rfl Try.underlying131 rfl k3 rfl) rfl rfl rfl ?_
  refine Seq.val (Runs.len rfl rfl Try.underlying131) rfl rfl rfl ?_
  refine Seq.val (Runs.addI rfl rfl rfl (by omega) (by omega)) rfl rfl rfl ?_
  refine Seq.val (Runs.addI rfl rfl rfl (by omega) (by omega)) rfl rfl rfl ?_
  refine Seq.make rfl rfl rfl Try.underlying131 (by kernel_rfl) zero_uint64 rfl (b := 8) (by kernel_rfl) (m := la + lb + 1) (by omega) (by omega) (by omega) rfl rfl rfl ?_
  intro g18 w4 n18
  have e18 := Nat.le_trans bel.size n18.ge
  have l18 := Nat.lt_of_lt_of_le k4.lt n18.ge
  replace bel := bel.step n18.below
  replace k2 := k2.step n18.below
  replace k3 := k3.step n18.below
  replace k4 := k4.step n18.below
  have k18 := n18.blk
  refine Seq.val (Runs.assign rfl rfl) rfl rfl rfl ?_
  refine Seq.nil ?_
  refine Post.weak (F' := [(0, _), (1, _), (2, _), (3, _), (4, _), (5, _)]) ⟨rfl, rfl, rfl, rfl, rfl, rfl, trivial⟩ ?_
  refine Post.then_ ?_
  refine Cd.seq ?_
  refine Cd.seq ?_
  refine Cd.region ?_
  refine Seq.val (Runs.assign rfl rfl) rfl rfl rfl ?_
  refine Seq.nil ?_
  refine Post.weak (F' := [(0, _), (1, _), (2, _), (3, _), (4, _), (5, _), (6, _)]) ⟨rfl, rfl, rfl, rfl, rfl, rfl, rfl, trivial⟩ ?_
  refine Post.then_ ?_
  refine Cd.block ?_
  rw [U_zero] at k18
  refine Cd.loop (σ := Nat × List Nat) (fun s => [(2, .pointer (some ⟨g2, 0, none⟩)), (3, .pointer (some ⟨g3, 0, none⟩)), (4, .pointer (some ⟨g4, 0, none⟩)), (5, .slice (some ⟨g18, 0, none⟩) (la + lb + 1) (la + lb + 1)), (6, .int .i64 (s.1 : Int))])
    (fun s wr => s.1 ≤ la ∧ s.2.length = la + lb + 1 ∧ (∀ d ∈ s.2, d < 65536) ∧ val s.2 = val ((digs a.natAbs).take s.1) * b.natAbs ∧ Below w.heap.size w wr ∧ Blk wr g2 133 #[.bool (decide (a < 0)), .slice A la ca] ∧ Blk wr g3 133 #[.bool (decide (b < 0)), .slice B lb cb] ∧ Blk wr g4 133 #[.bool false, .slice none 0 0] ∧ Blk wr g18 124 (U s.2).toArray)
    (fun s => la - s.1) (0, List.replicate (la + lb + 1) 0) ⟨by omega, by simp, by simp, by simp [val_zero, val], bel, k2, k3, k4, k18⟩ ⟨rfl, rfl, rfl, rfl, rfl, trivial⟩ ?_
  clear bel k2 k3 k4 k18
  rintro ⟨i, l⟩ wr ⟨hi, hl, hd, hv, bel, k2, k3, k4, k18⟩
  dsimp only at hi hl hd hv bel k2 k3 k4 k18 ⊢
  refine Cd.seq ?_
  refine Cd.seq ?_
  refine Cd.region ?_
  refine Seq.val (Runs.move rfl rfl) rfl rfl rfl ?_
  refine Seq.val (Runs.fieldB 1 rfl rfl Try.underlying133 rfl (by kernel_rfl)) rfl rfl rfl ?_
  refine Seq.val (Runs.loadB rfl rfl Try.underlying131 rfl k2 rfl) rfl rfl rfl ?_
  refine Seq.val (Runs.len rfl rfl Try.underlying131) rfl rfl rfl ?_
  refine Seq.val (Runs.lss rfl rfl rfl) rfl rfl rfl ?_
  refine Seq.nil ?_
  refine Post.weak (F' := [(2, _), (3, _), (4, _), (5, _), (6, _), (23, _)]) ⟨rfl, rfl, rfl, rfl, rfl, rfl, trivial⟩ ?_
  refine Post.then_ ?_
  refine Cd.condD rfl (fun hc => ?_) (fun hc => ?_)
  · obtain ⟨ad, p, rfl, hbp, hp, hcp⟩ := hra.dig bel (Nat.le_refl _) (show i < la by omega)
    have ci : Cell wr w.heap.size (ad.add i) (.int .u64 p) := ⟨by rw [block_of_add]; exact hbp, hcp⟩
    have hp2 := get_lt (digs_lt _) hp
    refine Cd.skip ?_
    refine Post.then_ ?_
    refine Cd.seq ?_
    refine Cd.block ?_
    refine Cd.seq ?_
    refine Cd.region ?_
    refine Seq.val (Runs.assign rfl rfl) rfl rfl rfl ?_
    refine Seq.nil ?_
    refine Post.weak (F' := [(2, _), (3, _), (4, _), (5, _), (6, _), (7, _), (23, _)]) ⟨rfl, rfl, rfl, rfl, rfl, rfl, rfl, trivial⟩ ?_
    refine Post.then_ ?_
    refine Cd.seq ?_
    refine Cd.seq ?_
    refine Cd.region ?_
    refine Seq.val (Runs.assign rfl rfl) rfl rfl rfl ?_
    refine Seq.nil ?_
    refine Post.weak (F' := [(2, _), (3, _), (4, _), (5, _), (6, _), (7, _), (8, _), (23, _)]) ⟨rfl, rfl, rfl, rfl, rfl, rfl, rfl, rfl, trivial⟩ ?_
    refine Post.then_ ?_
    refine Cd.block ?_
    refine Cd.loop (σ := Nat × Nat × List Nat) (fun s => [(2, .pointer (some ⟨g2, 0, none⟩)), (3, .pointer (some ⟨g3, 0, none⟩)), (4, .pointer (some ⟨g4, 0, none⟩)), (5, .slice (some ⟨g18, 0, none⟩) (la + lb + 1) (la + lb + 1)), (6, .int .i64 (i : Int)), (7, .int .u64 (s.2.1 : Int)), (8, .int .i64 (s.1 : Int))])
      (fun s wr => s.1 ≤ lb ∧ s.2.1 < 65536 ∧ s.2.2.length = la + lb + 1 ∧ (∀ d ∈ s.2.2, d < 65536) ∧ val s.2.2 + 65536 ^ (i + s.1) * s.2.1 = val l + 65536 ^ i * (p * val ((digs b.natAbs).take s.1)) ∧ (∀ j, i + s.1 ≤ j → s.2.2[j]? = l[j]?) ∧
        Below w.heap.size w wr ∧ Blk wr g2 133 #[.bool (decide (a < 0)), .slice (some ad) la ca] ∧ Blk wr g3 133 #[.bool (decide (b < 0)), .slice B lb cb] ∧ Blk wr g4 133 #[.bool false, .slice none 0 0] ∧ Blk wr g18 124 (U s.2.2).toArray ∧ Cell wr w.heap.size (ad.add i) (.int .u64 p))
      (fun s => lb - s.1) (0, 0, l) ⟨by omega, by simp, hl, hd, by simp [val], fun j _ => rfl, bel, k2, k3, k4, k18, ci⟩ ⟨rfl, rfl, rfl, rfl, rfl, rfl, rfl, trivial⟩ ?_
    clear bel k2 k3 k4 k18 ci
    rintro ⟨k, c, l'⟩ wr' ⟨hk, hc2, hl', hd', hv', hsame, bel, k2, k3, k4, k18, ci⟩
    dsimp only at hk hc2 hl' hd' hv' hsame bel k2 k3 k4 k18 ci ⊢
    refine Cd.seq ?_
    refine Cd.seq ?_
    refine Cd.region ?_
    refine Seq.val (Runs.move rfl rfl) rfl rfl rfl ?_
    refine Seq.val (Runs.fieldB 1 rfl rfl Try.underlying133 rfl (by kernel_rfl)) rfl rfl rfl ?_
    refine Seq.val (Runs.loadB rfl rfl Try.underlying131 rfl k3 rfl) rfl rfl rfl ?_
    refine Seq.val (Runs.len rfl rfl Try.underlying131) rfl rfl rfl ?_
    refine Seq.val (Runs.lss rfl rfl rfl) rfl rfl rfl ?_
    refine Seq.nil ?_
    refine Post.weak (F' := [(2, _), (3, _), (4, _), (5, _), (6, _), (7, _), (8, _), (30, _)]) ⟨rfl, rfl, rfl, rfl, rfl, rfl, rfl, rfl, trivial⟩ ?_
    refine Post.then_ ?_
    refine Cd.condD rfl (fun hc => ?_) (fun hc => ?_)
    · obtain ⟨bd, bk, rfl, hbb, hbk, hcb⟩ := hrb.dig bel (Nat.le_refl _) (show k < lb by omega)
      have cj : Cell wr' w.heap.size (bd.add k) (.int .u64 bk) := ⟨by rw [block_of_add]; exact hbb, hcb⟩
      have hbk2 := get_lt (digs_lt _) hbk
      obtain ⟨x, hx⟩ : ∃ x, l'[i + k]? = some x := ⟨_, List.getElem?_eq_getElem (show i + k < l'.length by omega)⟩
      have hx2 := get_lt hd' hx
      have hpb : p * bk ≤ 65535 * 65535 := Nat.mul_le_mul (by omega) (by omega)
      refine Cd.skip ?_
      refine Post.then_ ?_
      refine Cd.seq ?_
      refine Cd.block ?_
      refine Cd.seq ?_
      refine Cd.draw 20 (by kernel_rfl) [] (.inl rfl) rfl Grow Grow.refl (fun _ _ _ => Grow.trans) ?_
      intro w5 hw5 zw5
      replace bel := bel.step hw5
      replace k2 := k2.step hw5
      replace k3 := k3.step hw5
      replace k4 := k4.step hw5
      replace k18 := k18.step hw5
      replace ci := ci.step hw5
      replace cj := cj.step hw5
      have zbel := bel.size
      have zlt := k18.lt
      refine Dr.val Grow.refl rfl (fun w hG => Runs.move rfl rfl) rfl ?_
      refine Dr.val Grow.refl rfl (fun w hG => Runs.move rfl rfl) rfl ?_
      refine Dr.val Grow.refl rfl (fun w hG => Runs.move rfl rfl) rfl ?_
      refine Dr.val Grow.refl rfl (fun w hG => Runs.addI rfl rfl rfl (by omega) (by omega)) rfl ?_
      refine Dr.val Grow.refl rfl (fun w hG => Runs.indexB rfl rfl rfl Try.underlying131 (by kernel_rfl) (j := i + k) (by omega) (by omega)) rfl ?_
      refine Dr.val Grow.refl rfl (fun w hG => Runs.loadB rfl rfl Try.underlying124 rfl (k18.step hG) (U_at hx)) rfl ?_
      refine Dr.val Grow.refl rfl (fun w hG => Runs.fieldB 1 rfl rfl Try.underlying133 rfl (by kernel_rfl)) rfl ?_
      refine Dr.val Grow.refl rfl (fun w hG => Runs.loadB rfl rfl Try.underlying131 rfl (k2.step hG) rfl) rfl ?_
      refine Dr.val Grow.refl rfl (fun w hG => Runs.move rfl rfl) rfl ?_
      refine Dr.val Grow.refl rfl (fun w hG => Runs.index1 rfl rfl rfl Try.underlying131 (by kernel_rfl) (j := i) rfl (by omega)) rfl ?_
      refine Dr.val Grow.refl rfl (fun w hG => Runs.load1 rfl rfl Try.underlying124 rfl (ci.step hG).val) rfl ?_
      refine Dr.val Grow.refl rfl (fun w hG => Runs.fieldB 1 rfl rfl Try.underlying133 rfl (by kernel_rfl)) rfl ?_
      refine Dr.val Grow.refl rfl (fun w hG => Runs.loadB rfl rfl Try.underlying131 rfl (k3.step hG) rfl) rfl ?_
      refine Dr.val Grow.refl rfl (fun w hG => Runs.move rfl rfl) rfl ?_
      refine Dr.val Grow.refl rfl (fun w hG => Runs.index1 rfl rfl rfl Try.underlying131 (by kernel_rfl) (j := k) rfl (by omega)) rfl ?_
      refine Dr.val Grow.refl rfl (fun w hG => Runs.load1 rfl rfl Try.underlying124 rfl (cj.step hG).val) rfl ?_
      refine Dr.val Grow.refl rfl (fun w hG => Runs.mulW rfl rfl rfl (r := ((p * bk : Nat) : Int)) (by rw [← Int.natCast_mul]; exact wrapU (by omega) (by omega))) rfl ?_
      refine Dr.val Grow.refl rfl (fun w hG => Runs.addW rfl rfl rfl (r := ((x + p * bk : Nat) : Int)) (by rw [← Int.natCast_add]; exact wrapU (by omega) (by omega))) rfl ?_
      refine Dr.val Grow.refl rfl (fun w hG => Runs.move rfl rfl) rfl ?_
      refine Dr.val Grow.refl rfl (fun w hG => Runs.addW rfl rfl rfl (r := ((x + p * bk + c : Nat) : Int)) (by rw [← Int.natCast_add]; exact wrapU (by omega) (by omega))) rfl ?_
      refine Dr.nil ?_
      refine FinX.done (F' := [(2, _), (3, _), (4, _), (5, _), (6, _), (7, _), (8, _), (30, _), (52, _)]) rfl ⟨rfl, rfl, rfl, rfl, rfl, rfl, rfl, rfl, rfl, trivial⟩ ?_
      intro w6 hw6 fw6
      replace bel := bel.step hw6
      replace k2 := k2.step hw6
      replace k3 := k3.step hw6
      replace k4 := k4.step hw6
      replace k18 := k18.step hw6
      replace ci := ci.step hw6
      replace cj := cj.step hw6
      refine Seq.val (Runs.assign rfl rfl) rfl rfl rfl ?_
      refine Seq.nil ?_
      refine Post.weak (F' := [(2, _), (3, _), (4, _), (5, _), (6, _), (7, _), (8, _), (9, _), (30, _)]) ⟨rfl, rfl, rfl, rfl, rfl, rfl, rfl, rfl, rfl, trivial⟩ ?_
      refine Post.then_ ?_
      refine Cd.seq ?_
      refine Cd.region ?_
      refine Seq.val (Runs.move rfl rfl) rfl rfl rfl ?_
      refine Seq.val (Runs.move rfl rfl) rfl rfl rfl ?_
      refine Seq.val (Runs.move rfl rfl) rfl rfl rfl ?_
      refine Seq.val (Runs.addI rfl rfl rfl (by omega) (by omega)) rfl rfl rfl ?_
      refine Seq.val (Runs.move rfl rfl) rfl rfl rfl ?_
      refine Seq.val (Runs.remL 65536 rfl rfl rfl rfl (by omega)) rfl rfl rfl ?_
      refine Seq.val (Runs.indexB rfl rfl rfl Try.underlying131 (by kernel_rfl) (j := i + k) (by omega) (by omega)) rfl rfl rfl ?_
      refine Seq.store1 rfl rfl rfl (by kernel_rfl) rfl rfl k18 (U_at hx) rfl rfl ?_
      intro w7 pw7
      replace bel := bel.put k18 pw7 e18
      replace k2 := k2.put pw7 (by omega)
      replace k3 := k3.put pw7 (by omega)
      replace k4 := k4.put pw7 (by omega)
      replace ci := ci.put k18 pw7 e18
      replace cj := cj.put k18 pw7 e18
      replace k18 := pw7.blk
      rw [U_set] at k18
      refine Seq.nil ?_
      refine Post.weak (F' := [(2, _), (3, _), (4, _), (5, _), (6, _), (7, _), (8, _), (9, _), (30, _)]) ⟨rfl, rfl, rfl, rfl, rfl, rfl, rfl, rfl, rfl, trivial⟩ ?_
      refine Post.then_ ?_
      refine Cd.region ?_
      refine Seq.val (Runs.move rfl rfl) rfl rfl rfl ?_
      refine Seq.val (Runs.quoLU 65536 rfl rfl rfl rfl (by omega) (by omega)) rfl rfl rfl ?_
      refine Seq.val (Runs.assign rfl rfl) rfl rfl rfl ?_
      refine Seq.nil ?_
      refine Post.weak (F' := [(2, _), (3, _), (4, _), (5, _), (6, _), (7, _), (8, _), (9, _), (30, _)]) ⟨rfl, rfl, rfl, rfl, rfl, rfl, rfl, rfl, rfl, trivial⟩ ?_
      refine Post.block_normal ?_
      refine Post.then_ ?_
      refine Cd.region ?_
      refine Seq.val (Runs.move rfl rfl) rfl rfl rfl ?_
      refine Seq.val (Runs.addI rfl rfl rfl (by omega) (by omega)) rfl rfl rfl ?_
      refine Seq.val (Runs.assign rfl rfl) rfl rfl rfl ?_
      refine Seq.nil ?_
      refine Post.weak (F' := [(2, _), (3, _), (4, _), (5, _), (6, _), (7, _), (8, _), (9, _), (30, _)]) ⟨rfl, rfl, rfl, rfl, rfl, rfl, rfl, rfl, rfl, trivial⟩ ?_
      refine Post.round (k + 1, (x + p * bk + c) / 65536, l'.set (i + k) ((x + p * bk + c) % 65536)) ⟨rfl, rfl, rfl, rfl, rfl, rfl, rfl, trivial⟩ ?_ (by dsimp only; omega)
      have hval := val_set l' (i + k) ((x + p * bk + c) % 65536) x hx
      refine ⟨by dsimp only; omega, by dsimp only; omega, by simp [hl'], set_lt hd' _ _ (by omega), ?_, ?_, bel, k2, k3, k4, k18, ci⟩
      · dsimp only
        rw [val_take_succ, getD_of _ _ _ hbk, ← Nat.add_assoc, Nat.pow_succ]
        have := times_step (65536 ^ (i + k)) _ _ x c _ p bk _ hv' rfl hval
        rw [this, Nat.pow_add]
        rw [Nat.mul_add p, Nat.mul_add (65536 ^ i)]
        have e3 : 65536 ^ i * 65536 ^ k * (p * bk) = 65536 ^ i * (p * (65536 ^ k * bk)) := by rw [Nat.mul_assoc, Nat.mul_left_comm p (65536 ^ k) bk]
        omega
      · intro j hj
        dsimp only at hj ⊢
        rw [List.getElem?_set_ne (by omega)]
        exact hsame j (by omega)
    · obtain rfl : k = lb := by omega
      have hlt : val l < 65536 ^ (i + k) := by
        rw [hv, Nat.pow_add]
        have h1 := val_lt ((digs a.natAbs).take i) (fun d hd => digs_lt _ d (List.mem_of_mem_take hd))
        rw [List.length_take, hma, Nat.min_eq_left (by omega)] at h1
        have h2 := lt_of_digs_len b.natAbs
        rw [hmb] at h2
        exact Nat.mul_lt_mul_of_lt_of_lt h1 h2
      obtain ⟨x, hx0⟩ : ∃ x, l[i + k]? = some x := ⟨_, List.getElem?_eq_getElem (show i + k < l.length by omega)⟩
      obtain rfl := digit_above l (i + k) x hlt hx0
      have hx : l'[i + k]? = some 0 := by rw [hsame _ (by omega), hx0]
      have hval : val (l'.set (i + k) (0 + c)) = val l' + 65536 ^ (i + k) * c := by have := val_set l' (i + k) (0 + c) 0 hx; simpa using this
      refine Cd.exit ?_
      refine Post.then_exit ?_
      refine Post.round_exit ?_
      refine Post.block_exit ?_
      refine Post.then_ ?_
      refine Cd.draw 17 (by kernel_rfl) [] (.inl rfl) rfl Grow Grow.refl (fun _ _ _ => Grow.trans) ?_
      intro w5 hw5 zw5
      replace bel := bel.step hw5
      replace k2 := k2.step hw5
      replace k3 := k3.step hw5
      replace k4 := k4.step hw5
      replace k18 := k18.step hw5
      replace ci := ci.step hw5
      have zbel := bel.size
      have zlt := k18.lt
      refine Dr.val Grow.refl rfl (fun w hG => Runs.move rfl rfl) rfl ?_
      refine Dr.val Grow.refl rfl (fun w hG => Runs.move rfl rfl) rfl ?_
      refine Dr.val Grow.refl rfl (fun w hG => Runs.fieldB 1 rfl rfl Try.underlying133 rfl (by kernel_rfl)) rfl ?_
      refine Dr.val Grow.refl rfl (fun w hG => Runs.loadB rfl rfl Try.underlying131 rfl (k3.step hG) rfl) rfl ?_
      refine Dr.val Grow.refl rfl (fun w hG => Runs.len rfl rfl Try.underlying131) rfl ?_
      refine Dr.val Grow.refl rfl (fun w hG => Runs.addI rfl rfl rfl (by omega) (by omega)) rfl ?_
      refine Dr.val Grow.refl rfl (fun w hG => Runs.move rfl rfl) rfl ?_
      refine Dr.val Grow.refl rfl (fun w hG => Runs.move rfl rfl) rfl ?_
      refine Dr.val Grow.refl rfl (fun w hG => Runs.fieldB 1 rfl rfl Try.underlying133 rfl (by kernel_rfl)) rfl ?_
      refine Dr.val Grow.refl rfl (fun w hG => Runs.loadB rfl rfl Try.underlying131 rfl (k3.step hG) rfl) rfl ?_
      refine Dr.val Grow.refl rfl (fun w hG => Runs.len rfl rfl Try.underlying131) rfl ?_
      refine Dr.val Grow.refl rfl (fun w hG => Runs.addI rfl rfl rfl (by omega) (by omega)) rfl ?_
      refine Dr.val Grow.refl rfl (fun w hG => Runs.indexB rfl rfl rfl Try.underlying131 (by kernel_rfl) (j := i + k) (by omega) (by omega)) rfl ?_
      refine Dr.val Grow.refl rfl (fun w hG => Runs.loadB rfl rfl Try.underlying124 rfl (k18.step hG) (U_at hx)) rfl ?_
      refine Dr.val Grow.refl rfl (fun w hG => Runs.move rfl rfl) rfl ?_
      refine Dr.val Grow.refl rfl (fun w hG => Runs.addLU rfl rfl rfl (by omega)) rfl ?_
      refine Dr.val Grow.refl rfl (fun w hG => Runs.indexB rfl rfl rfl Try.underlying131 (by kernel_rfl) (j := i + k) (by omega) (by omega)) rfl ?_
      refine Dr.nil ?_
      refine FinX.done (F' := [(2, _), (3, _), (4, _), (5, _), (6, _), (7, _), (8, _), (30, _), (77, _), (78, _)]) rfl ⟨rfl, rfl, rfl, rfl, rfl, rfl, rfl, rfl, rfl, rfl, trivial⟩ ?_
      intro w6 hw6 fw6
      replace bel := bel.step hw6
      replace k2 := k2.step hw6
      replace k3 := k3.step hw6
      replace k4 := k4.step hw6
      replace k18 := k18.step hw6
      replace ci := ci.step hw6
      refine Seq.store1 rfl rfl rfl (by kernel_rfl) rfl rfl k18 (U_at hx) rfl rfl ?_
      intro w7 pw7
      replace bel := bel.put k18 pw7 e18
      replace k2 := k2.put pw7 (by omega)
      replace k3 := k3.put pw7 (by omega)
      replace k4 := k4.put pw7 (by omega)
      replace ci := ci.put k18 pw7 e18
      replace k18 := pw7.blk
      rw [U_set] at k18
      refine Seq.nil ?_
      refine Post.weak (F' := [(2, _), (3, _), (4, _), (5, _), (6, _), (7, _), (8, _), (30, _)]) ⟨rfl, rfl, rfl, rfl, rfl, rfl, rfl, rfl, trivial⟩ ?_
      refine Post.block_normal ?_
      refine Post.then_ ?_
      refine Cd.region ?_
      refine Seq.val (Runs.move rfl rfl) rfl rfl rfl ?_
      refine Seq.val (Runs.addI rfl rfl rfl (by omega) (by omega)) rfl rfl rfl ?_
      refine Seq.val (Runs.assign rfl rfl) rfl rfl rfl ?_
      refine Seq.nil ?_
      refine Post.weak (F' := [(2, _), (3, _), (4, _), (5, _), (6, _), (7, _), (8, _), (30, _)]) ⟨rfl, rfl, rfl, rfl, rfl, rfl, rfl, rfl, trivial⟩ ?_
      refine Post.round (i + 1, l'.set (i + k) (0 + c)) ⟨rfl, rfl, rfl, rfl, rfl, trivial⟩ ?_ (by dsimp only; omega)
      refine ⟨by dsimp only; omega, by simp [hl'], set_lt hd' _ _ (by omega), ?_, bel, k2, k3, k4, k18⟩
      dsimp only
      rw [val_take_succ, getD_of _ _ _ hp, Nat.add_mul, ← hv]
      rw [List.take_of_length_le (by omega), val_digs] at hv'
      rw [Nat.mul_assoc]
      omega
  · obtain rfl : i = la := by omega
    rw [List.take_of_length_le (by omega), val_digs] at hv
    refine Cd.exit ?_
    refine Post.then_exit ?_
    refine Post.round_exit ?_
    refine Post.block_exit ?_
    refine Post.then_ ?_
    refine Cd.seq ?_
    refine Cd.draw 8 (by kernel_rfl) [] (.inl rfl) rfl Grow Grow.refl (fun _ _ _ => Grow.trans) ?_
    intro w5 hw5 zw5
    replace bel := bel.step hw5
    replace k2 := k2.step hw5
    replace k3 := k3.step hw5
    replace k4 := k4.step hw5
    replace k18 := k18.step hw5
    have zbel := bel.size
    have zlt := k18.lt
    refine Dr.val Grow.refl rfl (fun w hG => Runs.fieldB 0 rfl rfl Try.underlying133 rfl (by kernel_rfl)) rfl ?_
    refine Dr.val Grow.refl rfl (fun w hG => Runs.loadB rfl rfl Try.underlying4 rfl (k2.step hG) rfl) rfl ?_
    refine Dr.val Grow.refl rfl (fun w hG => Runs.fieldB 0 rfl rfl Try.underlying133 rfl (by kernel_rfl)) rfl ?_
    refine Dr.val Grow.refl rfl (fun w hG => Runs.loadB rfl rfl Try.underlying4 rfl (k3.step hG) rfl) rfl ?_
    refine Dr.val Grow.refl rfl (fun w hG => Runs.neqB rfl rfl rfl Try.underlying4) rfl ?_
    refine Dr.val Grow.refl rfl (fun w hG => Runs.move rfl rfl) rfl ?_
    have hlen18 : (digs (a * b).natAbs).length ≤ i + lb + 1 := by
      rw [Int.natAbs_mul, ← hv, ← hl]
      exact digs_len_le _ _ (val_lt l hd)
    have hr18 : Reads w5 w5.heap.size 1 (some ⟨g18, 0, none⟩) (i + lb + 1) (U l) := by
      refine ⟨by rw [length_U]; omega, fun _ => ⟨_, rfl, k18.lt, fun j u hu => ?_⟩⟩
      have hadd : (⟨g18, 0, none⟩ : Addr).add j = ⟨g18, j, none⟩ := by unfold Addr.add; split <;> simp_all
      rw [hadd, k18.cell j]
      simpa using hu
    have hm18 : MagR w5 (.slice (some ⟨g18, 0, none⟩) (digs (a * b).natAbs).length (i + lb + 1)) (a * b).natAbs := by
      have := mag_of_trim hr18 hd (Nat.le_refl _) (by omega) (show val l = (a * b).natAbs by rw [hv, Int.natAbs_mul])
      rwa [show val l = (a * b).natAbs by rw [hv, Int.natAbs_mul]] at this
    refine Dr.callV rfl (fun w => Enters.func rfl rfl rfl (run_enter Try.func143 (by kernel_rfl) rfl)) rfl (fun w hG => trim_known _ _ _ _ l w ((hr18.below (show Below w5.heap.size w5 w from hG)).more hG.size) hd (by omega) (by omega) (show (digs (val l)).length = (digs (a * b).natAbs).length by rw [hv, Int.natAbs_mul])) ?_
    refine Dr.call (Φ := fun v w => BigR w v (a * b)) rfl (fun w => Enters.func rfl rfl rfl (run_enter Try.func139 (by kernel_rfl) rfl)) rfl (BigR.stable _) (fun w hG => sign_big _ _ _ (a * b) _ (hm18.step hG) (by omega) rfl (sign_mul a b)) ?_
    refine Dr.nil ?_
    refine FinX.open (j := 7) rfl ?_
    intro u7
    refine FinX.done (F' := [(2, _), (3, _), (4, _), (5, _), (6, _), (23, _), (86, _)]) rfl ⟨rfl, rfl, rfl, rfl, rfl, rfl, rfl, trivial⟩ ?_
    intro w6 hw6 fw6
    replace bel := bel.step hw6
    replace k2 := k2.step hw6
    replace k3 := k3.step hw6
    replace k4 := k4.step hw6
    replace k18 := k18.step hw6
    obtain ⟨m9, rfl, o9, h9⟩ := (by assumption : True ∧ BigR _ _ _).2.agg
    refine Seq.storeN rfl rfl rfl rfl (m := 2) (by kernel_rfl) rfl (by repeat' first | exact trivial | apply And.intro | rfl | assumption) k4 (by simp [Value.cells]) rfl rfl ?_
    intro w7 pw7
    replace bel := bel.put k4 pw7 e4
    replace k2 := k2.put pw7 (by omega)
    replace k3 := k3.put pw7 (by omega)
    replace k18 := k18.put pw7 (by omega)
    replace h9 := h9.put k4 pw7 e4
    replace k4 := pw7.blk
    refine Seq.nil ?_
    refine Post.weak (F' := [(2, _), (3, _), (4, _), (5, _), (6, _), (23, _)]) ⟨rfl, rfl, rfl, rfl, rfl, rfl, trivial⟩ ?_
    refine Post.then_ ?_
    refine Cd.ret ?_
    refine Post.endC rfl rfl k4 Try.underlying133 rfl (m := 2) (by kernel_rfl) rfl (.inl rfl) ?_
    exact ⟨_, rfl, bel, _, rfl, h9⟩
theorem times_grow (x y : Value) (a b : Int) (w : World) (hx : BigR w x a) (hy : BigR w y b) (ha : a.natAbs < big) (hb : b.natAbs < big) :
    Calls Try.prog 96 #[x, y] w fun e w' => ∃ v, e = .returned v ∧ Grow w w' ∧ BigR w' v (a * b) := times_any x y a b w hx hy ha hb
end Go.Proofs.Ytijaldpmpjapiaa

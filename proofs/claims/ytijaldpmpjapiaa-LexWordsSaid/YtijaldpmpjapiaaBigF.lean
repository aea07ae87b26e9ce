/-
  debentureref01's Of, Minus: what each answers. Condition: the digits are a number's, not too many.
-/
import Derived.Test.YtijaldpmpjapiaaBigE
import Derived.Test.YtijaldpmpjapiaaKE
namespace Go.Proofs.Ytijaldpmpjapiaa
open Go.RowKit

theorem zero_debentureref01_Big : zeroIs Try.prog 133 = some (some (.agg #[.bool false, .slice none 0 0])) := by kernel_rfl
theorem zero_uint64 : zeroIs Try.prog 124 = some (some (.int .u64 0)) := by kernel_rfl
theorem cmpN_ge {a b : Nat} (h : 0 ≤ cmpN a b) : b ≤ a := by unfold cmpN at h; split at h <;> omega
theorem cmpN_lt {a b : Nat} (h : ¬ 0 ≤ cmpN a b) : a < b := by
  unfold cmpN at h
  split at h
  · omega
  · split at h <;> omega
theorem MagR.put {w w' : World} {v : Value} {n g : Nat} {T : TypeId} {cur cs : Array Value} {B : Nat} (h : MagR w v n) (k : Blk w g T cur) (p : Put w w' g T cs) (_e : B ≤ g) (hcs : ∀ (k : IntKind) (z : Int), Value.int k z ∉ cur.toList := by simp [Value.cells, *]) : MagR w' v n := h.other k hcs p.grown
theorem MagR.ni {w : World} {v : Value} {n : Nat} (h : MagR w v n) : ∀ (k : IntKind) (z : Int), Value.int k z ≠ v := by obtain ⟨A, c, rfl, _⟩ := h; intro k z e; cases e
theorem MagR.one {w : World} {v : Value} {n : Nat} (h : MagR w v n) : v.oneCell' = true := by obtain ⟨A, c, rfl, _⟩ := h; rfl

theorem minus_any (x : Value) (a : Int) (w : World) (hx : BigR w x a) (ha : (digs a.natAbs).length ≤ 1073741824) :
    Calls Try.prog 98 #[x] w fun e w' => ∃ v, e = .returned v ∧ BigR w' v (-a) ∧ Below w.heap.size w w' := by
  obtain ⟨m, rfl, hm⟩ := hx
  have bel := Below.refl w.heap.size w
  have h1 := hm.one
  refine Calls.start 9 Try.func98 rfl rfl rfl ?_
  refine Cd.seq ?_
  refine Cd.region ?_
  refine Seq.box rfl rfl rfl rfl rfl ?_
  intro g1 w1 n1
  have e1 := Nat.le_trans bel.size n1.ge
  replace bel := bel.step n1.below
  replace hm := hm.step n1.below
  have k1 := n1.blk
  refine Seq.alloc rfl (run_zero zero_debentureref01_Big) rfl rfl rfl ?_
  intro g2 w2 n2
  have e2 := Nat.le_trans bel.size n2.ge
  have l2 := Nat.lt_of_lt_of_le k1.lt n2.ge
  replace bel := bel.step n2.below
  replace hm := hm.step n2.below
  replace k1 := k1.step n2.below
  have k2 := n2.blk
  refine Seq.nil ?_
  refine Post.weak (F' := [(0, _), (1, _), (2, _)]) ⟨rfl, rfl, rfl, trivial⟩ ?_
  refine Post.then_ ?_
  refine Cd.seq ?_
  refine Cd.region ?_
  refine Seq.val (Runs.fieldB 0 rfl rfl Try.underlying133 rfl (by kernel_rfl)) rfl rfl rfl ?_
  refine Seq.val (Runs.loadB rfl rfl Try.underlying4 rfl k1 rfl) rfl rfl rfl ?_
  refine Seq.val (Runs.not rfl rfl) rfl rfl rfl ?_
  refine Seq.val (Runs.fieldB 1 rfl rfl Try.underlying133 rfl (by kernel_rfl)) rfl rfl rfl ?_
  refine Seq.val (Runs.loadB rfl rfl Try.underlying131 rfl k1 rfl) rfl rfl rfl ?_
  refine Seq.call (Enters.func rfl rfl rfl (run_enter Try.func139 (by kernel_rfl) rfl)) rfl rfl rfl (sign_any _ _ _ _ hm (by omega)) ?_
  rintro e w3 ⟨rfl, hb⟩
  refine ⟨_, rfl, ?_⟩
  replace bel := bel.step hb
  replace hm := hm.step hb
  replace k1 := k1.step hb
  replace k2 := k2.step hb
  refine Seq.storeN rfl rfl rfl rfl (m := 2) (by kernel_rfl) rfl (by repeat' first | exact trivial | apply And.intro | rfl | assumption) k2 (by simp [Value.cells]) rfl rfl ?_
  intro w3 pw3
  replace bel := bel.put k2 pw3 e2
  replace hm := hm.put k2 pw3 e2
  replace k1 := k1.put pw3 (by omega)
  replace k2 := pw3.blk
  refine Seq.nil ?_
  refine Post.weak (F' := [(0, _), (1, _), (2, _)]) ⟨rfl, rfl, rfl, trivial⟩ ?_
  refine Post.then_ ?_
  refine Cd.ret ?_
  refine Post.endC rfl rfl k2 Try.underlying133 rfl (m := 2) (by kernel_rfl) rfl (.inl rfl) ?_
  refine ⟨_, rfl, ⟨m, ?_, by rw [Int.natAbs_neg]; exact hm⟩, bel⟩
  show Value.agg #[_, m] = _
  have e : (!decide (a < 0) && decide (0 < a.natAbs)) = decide (-a < 0) := by
    rw [Bool.eq_iff_iff]; simp; omega
  rw [e]

theorem sign_big (neg : Bool) (m : Value) (n : Nat) (z : Int) (w : World) (hm : MagR w m n) (hn : (digs n).length ≤ 1073741824) (hz : z.natAbs = n) (hs : (neg && decide (0 < n)) = decide (z < 0)) :
    Calls Try.prog 139 #[.bool neg, m] w fun e w' => ∃ v, e = .returned v ∧ Below w.heap.size w w' ∧ BigR w' v z :=
  (sign_any neg m n w hm hn).mono fun e w' ⟨he, hb⟩ => ⟨_, he, hb, m, by rw [hs], by rw [hz]; exact hm.step hb⟩
theorem add_mag (x y : Value) (a b c : Nat) (w : World) (hx : MagR w x a) (hy : MagR w y b) (hc : c = a + b) (ha : (digs a).length ≤ 1000000) (hb : (digs b).length ≤ 1000000) :
    Calls Try.prog 140 #[x, y] w fun e w' => ∃ v, e = .returned v ∧ Below w.heap.size w w' ∧ MagR w' v c :=
  (add_any x y a b w hx hy ha hb).mono fun e w' ⟨v, he, hm, hb, _⟩ => ⟨v, he, hb, by rw [hc]; exact hm⟩
theorem sub_mag (x y : Value) (a b c : Nat) (w : World) (hx : MagR w x a) (hy : MagR w y b) (hle : b ≤ a) (hc : c = a - b) (ha : (digs a).length ≤ 1000000) :
    Calls Try.prog 142 #[x, y] w fun e w' => ∃ v, e = .returned v ∧ Below w.heap.size w w' ∧ MagR w' v c :=
  (sub_any x y a b w hx hy ha hle).mono fun e w' ⟨v, he, hm, hb, _⟩ => ⟨v, he, hb, by rw [hc]; exact hm⟩
theorem BigR.stable (z : Int) : ∀ v w w', Grow w w' → BigR w v z → BigR w' v z := fun _ _ _ hG h => h.step hG
theorem MagR.stable (z : Nat) : ∀ v w w', Grow w w' → MagR w v z → MagR w' v z := fun _ _ _ hG h => h.step hG

/-- A bound that all numbers here keep. -/
def big : Nat := 65536 ^ 60
theorem len_big {n : Nat} (h : n < 65536 * big) : (digs n).length ≤ 61 := digs_len_le n 61 (by unfold big at h; rw [Nat.pow_succ]; omega)
theorem big_pos : 1606938044258990275541962092341162602522202993782792835301376 ≤ big := by unfold big; decide

theorem plus_any (x y : Value) (a b : Int) (w : World) (hx : BigR w x a) (hy : BigR w y b) (ha : a.natAbs < big) (hb : b.natAbs < big) :
    Calls Try.prog 95 #[x, y] w fun e w' => ∃ v, e = .returned v ∧ BigR w' v (a + b) ∧ Below w.heap.size w w' := by
  obtain ⟨m, rfl, hm⟩ := hx
  obtain ⟨q, rfl, hq⟩ := hy
  have hla := len_big (n := a.natAbs) (by omega)
  have hlb := len_big (n := b.natAbs) (by omega)
  have bel := Below.refl w.heap.size w
  refine Calls.start 40 Try.func95 rfl rfl rfl ?_
  refine Cd.seq ?_
  refine Cd.region ?_
  refine Seq.box rfl rfl rfl rfl rfl ?_
  intro g2 w1 n2
  have e2 := Nat.le_trans bel.size n2.ge
  replace bel := bel.step n2.below
  replace hm := hm.step n2.below
  replace hq := hq.step n2.below
  have k2 := n2.blk
  refine Seq.box rfl rfl rfl rfl rfl ?_
  intro g3 w2 n3
  have e3 := Nat.le_trans bel.size n3.ge
  have l3 := Nat.lt_of_lt_of_le k2.lt n3.ge
  replace bel := bel.step n3.below
  replace hm := hm.step n3.below
  replace hq := hq.step n3.below
  replace k2 := k2.step n3.below
  have k3 := n3.blk
  refine Seq.alloc rfl (run_zero zero_debentureref01_Big) rfl rfl rfl ?_
  intro g4 w3 n4
  have e4 := Nat.le_trans bel.size n4.ge
  have l4 := Nat.lt_of_lt_of_le k3.lt n4.ge
  replace bel := bel.step n4.below
  replace hm := hm.step n4.below
  replace hq := hq.step n4.below
  replace k2 := k2.step n4.below
  replace k3 := k3.step n4.below
  have k4 := n4.blk
  refine Seq.nil ?_
  refine Post.weak (F' := [(0, _), (1, _), (2, _), (3, _), (4, _)]) ⟨rfl, rfl, rfl, rfl, rfl, trivial⟩ ?_
  refine Post.then_ ?_
  refine Cd.seq ?_
  refine Cd.seq ?_
  refine Cd.region ?_
  refine Seq.val (Runs.fieldB 0 rfl rfl Try.underlying133 rfl (by kernel_rfl)) rfl rfl rfl ?_
  refine Seq.val (Runs.loadB rfl rfl Try.underlying4 rfl k2 rfl) rfl rfl rfl ?_
  refine Seq.val (Runs.fieldB 0 rfl rfl Try.underlying133 rfl (by kernel_rfl)) rfl rfl rfl ?_
  refine Seq.val (Runs.loadB rfl rfl Try.underlying4 rfl k3 rfl) rfl rfl rfl ?_
  refine Seq.val (Runs.eqlB rfl rfl rfl Try.underlying4) rfl rfl rfl ?_
  refine Seq.nil ?_
  refine Post.weak (F' := [(0, _), (1, _), (2, _), (3, _), (4, _), (9, _)]) ⟨rfl, rfl, rfl, rfl, rfl, rfl, trivial⟩ ?_
  refine Post.then_ ?_
  refine Cd.condD rfl (fun hc => ?_) (fun hc => ?_)
  · have hab : (a + b).natAbs = a.natAbs + b.natAbs := by simp at hc; omega
    have hl := len_big (n := (a + b).natAbs) (by omega)
    refine Cd.seq ?_
    refine Cd.draw 8 (by kernel_rfl) [] (.inl rfl) rfl Grow Grow.refl (fun _ _ _ => Grow.trans) ?_
    intro w4 hw4 zw4
    replace bel := bel.step hw4
    replace hm := hm.step hw4
    replace hq := hq.step hw4
    replace k2 := k2.step hw4
    replace k3 := k3.step hw4
    replace k4 := k4.step hw4
    have zbel := bel.size
    have zlt := k4.lt
    refine Dr.val Grow.refl rfl (fun w hG => Runs.fieldB 0 rfl rfl Try.underlying133 rfl (by kernel_rfl)) rfl ?_
    refine Dr.val Grow.refl rfl (fun w hG => Runs.loadB rfl rfl Try.underlying4 rfl (k2.step hG) rfl) rfl ?_
    refine Dr.val Grow.refl rfl (fun w hG => Runs.fieldB 1 rfl rfl Try.underlying133 rfl (by kernel_rfl)) rfl ?_
    refine Dr.val Grow.refl rfl (fun w hG => Runs.loadB rfl rfl Try.underlying131 rfl (k2.step hG) rfl) rfl ?_
    refine Dr.val Grow.refl rfl (fun w hG => Runs.fieldB 1 rfl rfl Try.underlying133 rfl (by kernel_rfl)) rfl ?_
    refine Dr.val Grow.refl rfl (fun w hG => Runs.loadB rfl rfl Try.underlying131 rfl (k3.step hG) rfl) rfl ?_
    refine Dr.call (Φ := fun v w => MagR w v (a + b).natAbs) rfl (fun w => Enters.func rfl rfl rfl (run_enter Try.func140 (by kernel_rfl) rfl)) rfl (MagR.stable _) (fun w hG => add_mag _ _ _ _ _ _ (hm.step hG) (hq.step hG) hab (by omega) (by omega)) ?_
    refine Dr.call1 (j := 6) (Φ := fun v w => BigR w v (a + b)) rfl rfl rfl (fun u w => Enters.func rfl rfl rfl (run_enter Try.func139 (by kernel_rfl) rfl)) rfl (BigR.stable _) (fun u w hG hu => sign_big _ u _ (a + b) _ hu (by omega) rfl (by simp at hc; rw [Bool.eq_iff_iff]; simp; omega)) ?_
    refine Dr.nil ?_
    refine FinX.open (j := 7) rfl ?_
    intro u7
    refine FinX.done (F' := [(0, _), (1, _), (2, _), (3, _), (4, _), (9, _), (17, _)]) rfl ⟨rfl, rfl, rfl, rfl, rfl, rfl, rfl, trivial⟩ ?_
    intro w5 hw5 fw5
    replace bel := bel.step hw5
    replace hm := hm.step hw5
    replace hq := hq.step hw5
    replace k2 := k2.step hw5
    replace k3 := k3.step hw5
    replace k4 := k4.step hw5
    obtain ⟨m2, rfl, hm2⟩ := fw5.2
    have hm2o := hm2.one
    refine Seq.storeN rfl rfl rfl rfl (m := 2) (by kernel_rfl) rfl (by repeat' first | exact trivial | apply And.intro | rfl | assumption) k4 (by simp [Value.cells]) rfl rfl ?_
    intro w6 pw6
    replace bel := bel.put k4 pw6 e4
    replace hm := hm.put k4 pw6 e4
    replace hq := hq.put k4 pw6 e4
    replace k2 := k2.put pw6 (by omega)
    replace k3 := k3.put pw6 (by omega)
    replace hm2 := hm2.put k4 pw6 e4
    replace k4 := pw6.blk
    refine Seq.nil ?_
    refine Post.weak (F' := [(0, _), (1, _), (2, _), (3, _), (4, _), (9, _)]) ⟨rfl, rfl, rfl, rfl, rfl, rfl, trivial⟩ ?_
    refine Post.then_ ?_
    refine Cd.ret ?_
    refine Post.then_ret ?_
    refine Post.endC rfl rfl k4 Try.underlying133 rfl (m := 2) (by kernel_rfl) rfl (.inl rfl) ?_
    exact ⟨_, rfl, ⟨m2, rfl, hm2⟩, bel⟩
  · skip
    refine Cd.skip ?_
    refine Post.then_ ?_
    refine Cd.seq ?_
    refine Cd.seq ?_
    refine Cd.region ?_
    refine Seq.val (Runs.fieldB 1 rfl rfl Try.underlying133 rfl (by kernel_rfl)) rfl rfl rfl ?_
    refine Seq.val (Runs.loadB rfl rfl Try.underlying131 rfl k2 rfl) rfl rfl rfl ?_
    refine Seq.val (Runs.fieldB 1 rfl rfl Try.underlying133 rfl (by kernel_rfl)) rfl rfl rfl ?_
    refine Seq.val (Runs.loadB rfl rfl Try.underlying131 rfl k3 rfl) rfl rfl rfl ?_
    refine Seq.call (Enters.func rfl rfl rfl (run_enter Try.func141 (by kernel_rfl) rfl)) rfl rfl rfl (cmp_any _ _ _ _ _ hm hq (by omega) (by omega)) ?_
    rintro e w7 ⟨rfl, hdr⟩
    have hb7 := hdr.below w3.heap.size
    replace bel := bel.step hb7
    replace hm := hm.step hb7
    replace hq := hq.step hb7
    replace k2 := k2.step hb7
    replace k3 := k3.step hb7
    replace k4 := k4.step hb7
    refine ⟨_, rfl, ?_⟩
    refine Seq.val (Runs.geq rfl rfl rfl) rfl rfl rfl ?_
    refine Seq.nil ?_
    refine Post.weak (F' := [(0, _), (1, _), (2, _), (3, _), (4, _), (9, _), (23, _)]) ⟨rfl, rfl, rfl, rfl, rfl, rfl, rfl, trivial⟩ ?_
    refine Post.then_ ?_
    refine Cd.condD rfl (fun hc2 => ?_) (fun hc2 => ?_)
    · have hle : b.natAbs ≤ a.natAbs := cmpN_ge hc2
      have hab : (a + b).natAbs = a.natAbs - b.natAbs := by simp at hc; omega
      have hl := len_big (n := (a + b).natAbs) (by omega)
      refine Cd.seq ?_
      refine Cd.draw 8 (by kernel_rfl) [] (.inl rfl) rfl Grow Grow.refl (fun _ _ _ => Grow.trans) ?_
      intro w4 hw4 zw4
      replace bel := bel.step hw4
      replace hm := hm.step hw4
      replace hq := hq.step hw4
      replace k2 := k2.step hw4
      replace k3 := k3.step hw4
      replace k4 := k4.step hw4
      have zbel := bel.size
      have zlt := k4.lt
      refine Dr.val Grow.refl rfl (fun w hG => Runs.fieldB 0 rfl rfl Try.underlying133 rfl (by kernel_rfl)) rfl ?_
      refine Dr.val Grow.refl rfl (fun w hG => Runs.loadB rfl rfl Try.underlying4 rfl (k2.step hG) rfl) rfl ?_
      refine Dr.val Grow.refl rfl (fun w hG => Runs.fieldB 1 rfl rfl Try.underlying133 rfl (by kernel_rfl)) rfl ?_
      refine Dr.val Grow.refl rfl (fun w hG => Runs.loadB rfl rfl Try.underlying131 rfl (k2.step hG) rfl) rfl ?_
      refine Dr.val Grow.refl rfl (fun w hG => Runs.fieldB 1 rfl rfl Try.underlying133 rfl (by kernel_rfl)) rfl ?_
      refine Dr.val Grow.refl rfl (fun w hG => Runs.loadB rfl rfl Try.underlying131 rfl (k3.step hG) rfl) rfl ?_
      refine Dr.call (Φ := fun v w => MagR w v (a + b).natAbs) rfl (fun w => Enters.func rfl rfl rfl (run_enter Try.func142 (by kernel_rfl) rfl)) rfl (MagR.stable _) (fun w hG => sub_mag _ _ _ _ _ _ (hm.step hG) (hq.step hG) hle hab (by omega)) ?_
      refine Dr.call1 (j := 6) (Φ := fun v w => BigR w v (a + b)) rfl rfl rfl (fun u w => Enters.func rfl rfl rfl (run_enter Try.func139 (by kernel_rfl) rfl)) rfl (BigR.stable _) (fun u w hG hu => sign_big _ u _ (a + b) _ hu (by omega) rfl (by simp at hc; rw [Bool.eq_iff_iff]; simp; omega)) ?_
      refine Dr.nil ?_
      refine FinX.open (j := 7) rfl ?_
      intro u7
      refine FinX.done (F' := [(0, _), (1, _), (2, _), (3, _), (4, _), (9, _), (23, _), (31, _)]) rfl ⟨rfl, rfl, rfl, rfl, rfl, rfl, rfl, rfl, trivial⟩ ?_
      intro w5 hw5 fw5
      replace bel := bel.step hw5
      replace hm := hm.step hw5
      replace hq := hq.step hw5
      replace k2 := k2.step hw5
      replace k3 := k3.step hw5
      replace k4 := k4.step hw5
      obtain ⟨m2, rfl, hm2⟩ := (by assumption : True ∧ BigR _ _ _).2
      have hm2o := hm2.one
      refine Seq.storeN rfl rfl rfl rfl (m := 2) (by kernel_rfl) rfl (by repeat' first | exact trivial | apply And.intro | rfl | assumption) k4 (by simp [Value.cells]) rfl rfl ?_
      intro w6 pw6
      replace bel := bel.put k4 pw6 e4
      replace hm := hm.put k4 pw6 e4
      replace hq := hq.put k4 pw6 e4
      replace k2 := k2.put pw6 (by omega)
      replace k3 := k3.put pw6 (by omega)
      replace hm2 := hm2.put k4 pw6 e4
      replace k4 := pw6.blk
      refine Seq.nil ?_
      refine Post.weak (F' := [(0, _), (1, _), (2, _), (3, _), (4, _), (9, _), (23, _)]) ⟨rfl, rfl, rfl, rfl, rfl, rfl, rfl, trivial⟩ ?_
      refine Post.then_ ?_
      refine Cd.ret ?_
      refine Post.then_ret ?_
      refine Post.endC rfl rfl k4 Try.underlying133 rfl (m := 2) (by kernel_rfl) rfl (.inl rfl) ?_
      exact ⟨_, rfl, ⟨m2, rfl, hm2⟩, bel⟩
    · have hle : a.natAbs ≤ b.natAbs := Nat.le_of_lt (cmpN_lt hc2)
      have hab : (a + b).natAbs = b.natAbs - a.natAbs := by simp at hc; omega
      have hl := len_big (n := (a + b).natAbs) (by omega)
      refine Cd.skip ?_
      refine Post.then_ ?_
      refine Cd.seq ?_
      refine Cd.draw 8 (by kernel_rfl) [] (.inl rfl) rfl Grow Grow.refl (fun _ _ _ => Grow.trans) ?_
      intro w4 hw4 zw4
      replace bel := bel.step hw4
      replace hm := hm.step hw4
      replace hq := hq.step hw4
      replace k2 := k2.step hw4
      replace k3 := k3.step hw4
      replace k4 := k4.step hw4
      have zbel := bel.size
      have zlt := k4.lt
      refine Dr.val Grow.refl rfl (fun w hG => Runs.fieldB 0 rfl rfl Try.underlying133 rfl (by kernel_rfl)) rfl ?_
      refine Dr.val Grow.refl rfl (fun w hG => Runs.loadB rfl rfl Try.underlying4 rfl (k3.step hG) rfl) rfl ?_
      refine Dr.val Grow.refl rfl (fun w hG => Runs.fieldB 1 rfl rfl Try.underlying133 rfl (by kernel_rfl)) rfl ?_
      refine Dr.val Grow.refl rfl (fun w hG => Runs.loadB rfl rfl Try.underlying131 rfl (k3.step hG) rfl) rfl ?_
      refine Dr.val Grow.refl rfl (fun w hG => Runs.fieldB 1 rfl rfl Try.underlying133 rfl (by kernel_rfl)) rfl ?_
      refine Dr.val Grow.refl rfl (fun w hG => Runs.loadB rfl rfl Try.underlying131 rfl (k2.step hG) rfl) rfl ?_
      refine Dr.call (Φ := fun v w => MagR w v (a + b).natAbs) rfl (fun w => Enters.func rfl rfl rfl (run_enter Try.func142 (by kernel_rfl) rfl)) rfl (MagR.stable _) (fun w hG => sub_mag _ _ _ _ _ _ (hq.step hG) (hm.step hG) hle hab (by omega)) ?_
      refine Dr.call1 (j := 6) (Φ := fun v w => BigR w v (a + b)) rfl rfl rfl (fun u w => Enters.func rfl rfl rfl (run_enter Try.func139 (by kernel_rfl) rfl)) rfl (BigR.stable _) (fun u w hG hu => sign_big _ u _ (a + b) _ hu (by omega) rfl (by simp at hc; rw [Bool.eq_iff_iff]; simp; omega)) ?_
      refine Dr.nil ?_
      refine FinX.open (j := 7) rfl ?_
      intro u7
      refine FinX.done (F' := [(0, _), (1, _), (2, _), (3, _), (4, _), (9, _), (23, _), (39, _)]) rfl ⟨rfl, rfl, rfl, rfl, rfl, rfl, rfl, rfl, trivial⟩ ?_
      intro w5 hw5 fw5
      replace bel := bel.step hw5
      replace hm := hm.step hw5
      replace hq := hq.step hw5
      replace k2 := k2.step hw5
      replace k3 := k3.step hw5
      replace k4 := k4.step hw5
      obtain ⟨m2, rfl, hm2⟩ := (by assumption : True ∧ BigR _ _ _).2
      have hm2o := hm2.one
      refine Seq.storeN rfl rfl rfl rfl (m := 2) (by kernel_rfl) rfl (by repeat' first | exact trivial | apply And.intro | rfl | assumption) k4 (by simp [Value.cells]) rfl rfl ?_
      intro w6 pw6
      replace bel := bel.put k4 pw6 e4
      replace hm := hm.put k4 pw6 e4
      replace hq := hq.put k4 pw6 e4
      replace k2 := k2.put pw6 (by omega)
      replace k3 := k3.put pw6 (by omega)
      replace hm2 := hm2.put k4 pw6 e4
      replace k4 := pw6.blk
      refine Seq.nil ?_
      refine Post.weak (F' := [(0, _), (1, _), (2, _), (3, _), (4, _), (9, _), (23, _)]) ⟨rfl, rfl, rfl, rfl, rfl, rfl, rfl, trivial⟩ ?_
      refine Post.then_ ?_
      refine Cd.ret ?_
      refine Post.endC rfl rfl k4 Try.underlying133 rfl (m := 2) (by kernel_rfl) rfl (.inl rfl) ?_
      exact ⟨_, rfl, ⟨m2, rfl, hm2⟩, bel⟩

theorem val_of (n : Nat) (h : n < 18446744073709551616) : val [n % 65536, n / 65536 % 65536, n / 4294967296 % 65536, n / 281474976710656] = n := by
  rw [val4]
  omega
theorem of_digits (w : World) (g n : Nat) (x0 x1 x2 x3 : Int) (t : TypeId) (cs : Array Value) (hcs : cs = #[.int .u64 x0, .int .u64 x1, .int .u64 x2, .int .u64 x3]) (hg : Blk w g t cs)
    (e0 : x0 = ((n % 65536 : Nat) : Int)) (e1 : x1 = ((n / 65536 % 65536 : Nat) : Int)) (e2 : x2 = ((n / 4294967296 % 65536 : Nat) : Int)) (e3 : x3 = ((n / 281474976710656 : Nat) : Int)) :
    Reads w w.heap.size 1 (some ⟨g, 0, none⟩) 4 (U [n % 65536, n / 65536 % 65536, n / 4294967296 % 65536, n / 281474976710656]) := by
  subst hcs e0 e1 e2 e3
  refine ⟨rfl, fun _ => ⟨_, rfl, hg.lt, fun j u hu => ?_⟩⟩
  have hadd : (⟨g, 0, none⟩ : Addr).add j = ⟨g, j, none⟩ := by unfold Addr.add; split <;> simp_all
  rw [hadd, hg.cell j]
  simpa [U] using hu

theorem run_build_Big (b : Bool) (m : Value) (h : m.oneCell' = true) (w : World) : (Instr.build 133 #[(0, .bool b), (1, m)]).run Try.prog w = .ok (.agg #[.bool b, m]) w := by
  have hu := Try.underlying133
  cases m <;> first | (cases h; done) | go_simp
theorem of_any (a : Int) (w : World) (h0 : -9223372036854775808 ≤ a) (h1 : a ≤ 9223372036854775807) :
    Calls Try.prog 97 #[.int .i64 a] w fun e w' => ∃ v, e = .returned v ∧ BigR w' v a ∧ Below w.heap.size w w' := by
  have hv := val_of a.natAbs (by omega)
  have hd : ∀ d ∈ [a.natAbs % 65536, a.natAbs / 65536 % 65536, a.natAbs / 4294967296 % 65536, a.natAbs / 281474976710656], d < 65536 := by
    intro d hd
    simp only [List.mem_cons, List.not_mem_nil, or_false] at hd
    omega
  have bel := Below.refl w.heap.size w
  refine Calls.start 25 Try.func97 rfl rfl rfl ?_
  refine Cd.seq ?_
  refine Cd.region ?_
  refine Seq.alloc rfl (run_zero zero_debentureref01_Big) rfl rfl rfl ?_
  intro g2 w1 n2
  have e2 := Nat.le_trans bel.size n2.ge
  replace bel := bel.step n2.below
  have k2 := n2.blk
  refine Seq.nil ?_
  refine Post.weak (F' := [(0, _), (2, _)]) ⟨rfl, rfl, trivial⟩ ?_
  refine Post.then_ ?_
  refine Cd.seq ?_
  refine Cd.region ?_
  refine Seq.val (Runs.move rfl rfl) rfl rfl rfl ?_
  refine Seq.val (Runs.convI rfl rfl Try.underlying2 Try.underlying124 (wrap_u64 a)) rfl rfl rfl ?_
  refine Seq.val (Runs.assign rfl rfl) rfl rfl rfl ?_
  refine Seq.nil ?_
  refine Post.weak (F' := [(0, _), (2, _), (3, _)]) ⟨rfl, rfl, rfl, trivial⟩ ?_
  refine Post.then_ ?_
  refine Cd.seq ?_
  refine Cd.seq ?_
  refine Cd.region ?_
  refine Seq.val (Runs.move rfl rfl) rfl rfl rfl ?_
  refine Seq.val (Runs.lss rfl rfl rfl) rfl rfl rfl ?_
  refine Seq.nil ?_
  refine Post.weak (F' := [(0, _), (2, _), (3, _), (7, _)]) ⟨rfl, rfl, rfl, rfl, trivial⟩ ?_
  refine Post.then_ ?_
  refine Cd.condD rfl (fun hc => ?_) (fun hc => ?_)
  · skip
    refine Cd.region ?_
    refine Seq.val (Runs.move rfl rfl) rfl rfl rfl ?_
    refine Seq.val (Runs.neg rfl rfl (r := (a.natAbs : Int)) (by rw [wrap_u64]; omega)) rfl rfl rfl ?_
    refine Seq.val (Runs.assign rfl rfl) rfl rfl rfl ?_
    refine Seq.nil ?_
    refine Post.weak (F' := [(0, _), (2, _), (3, _), (7, _)]) ⟨rfl, rfl, rfl, rfl, trivial⟩ ?_
    refine Post.then_ ?_
    refine Cd.seq ?_
    refine Cd.region ?_
    refine Seq.val (Runs.move rfl rfl) rfl rfl rfl ?_
    refine Seq.val (Runs.lss rfl rfl rfl) rfl rfl rfl ?_
    refine Seq.val (Runs.move rfl rfl) rfl rfl rfl ?_
    refine Seq.val (Runs.remN rfl rfl rfl (by omega) (by omega)) rfl rfl rfl ?_
    refine Seq.val (Runs.move rfl rfl) rfl rfl rfl ?_
    refine Seq.val (Runs.quoU rfl rfl rfl (by omega) (by omega) (by omega)) rfl rfl rfl ?_
    refine Seq.val (Runs.remN rfl rfl rfl (by omega) (by omega)) rfl rfl rfl ?_
    refine Seq.val (Runs.move rfl rfl) rfl rfl rfl ?_
    refine Seq.val (Runs.quoU rfl rfl rfl (by omega) (by omega) (by omega)) rfl rfl rfl ?_
    refine Seq.val (Runs.remN rfl rfl rfl (by omega) (by omega)) rfl rfl rfl ?_
    refine Seq.val (Runs.move rfl rfl) rfl rfl rfl ?_
    refine Seq.val (Runs.quoU rfl rfl rfl (by omega) (by omega) (by omega)) rfl rfl rfl ?_
    refine Seq.slice (vs := [_, _, _, _]) (s := 1) rfl rfl rfl Try.underlying131 (by kernel_rfl) (zero_uint64) (by omega) (by omega) ⟨rfl, rfl, rfl, rfl, trivial⟩ rfl rfl rfl ?_
    intro g22 w2 n22
    have e22 := Nat.le_trans bel.size n22.ge
    have l22 := Nat.lt_of_lt_of_le k2.lt n22.ge
    replace bel := bel.step n22.below
    replace k2 := k2.step n22.below
    have k22 := n22.blk
    have hr := of_digits _ g22 a.natAbs _ _ _ _ _ _ rfl k22 (by omega) (by omega) (by omega) (by omega)
    refine Seq.call (Enters.func rfl rfl rfl (run_enter Try.func143 (by kernel_rfl) rfl)) rfl rfl rfl (trim_any _ _ 4 4 _ _ hr (Nat.le_refl _) hd (by omega) (by omega)) ?_
    rintro e w7 ⟨rfl, rfl⟩
    have hm := mag_of_trim hr hd (Nat.le_refl 4) (by omega) hv
    have hm1 := hm.one
    refine ⟨_, rfl, ?_⟩
    rw [hv] at hm hm1 ⊢
    refine Seq.val (Runs.build rfl rfl (run_build_Big _ _ hm1 _)) rfl rfl rfl ?_
    refine Seq.storeN rfl rfl rfl rfl (m := 2) (by kernel_rfl) rfl (by repeat' first | exact trivial | apply And.intro | rfl | assumption) k2 (by simp [Value.cells]) rfl rfl ?_
    intro w3 pw3
    replace bel := bel.put k2 pw3 e2
    replace k22 := k22.put pw3 (by omega)
    replace hm := hm.put k2 pw3 e2
    replace k2 := pw3.blk
    refine Seq.nil ?_
    refine Post.weak (F' := [(0, _), (2, _), (3, _), (7, _)]) ⟨rfl, rfl, rfl, rfl, trivial⟩ ?_
    refine Post.then_ ?_
    refine Cd.ret ?_
    refine Post.endC rfl rfl k2 Try.underlying133 rfl (m := 2) (by kernel_rfl) rfl (.inl rfl) ?_
    exact ⟨_, rfl, ⟨_, rfl, hm⟩, bel⟩
  · skip
    refine Cd.skip ?_
    refine Post.then_ ?_
    refine Cd.seq ?_
    refine Cd.region ?_
    refine Seq.val (Runs.move rfl rfl) rfl rfl rfl ?_
    refine Seq.val (Runs.lss rfl rfl rfl) rfl rfl rfl ?_
    refine Seq.val (Runs.move rfl rfl) rfl rfl rfl ?_
    refine Seq.val (Runs.remN rfl rfl rfl (by omega) (by omega)) rfl rfl rfl ?_
    refine Seq.val (Runs.move rfl rfl) rfl rfl rfl ?_
    refine Seq.val (Runs.quoU rfl rfl rfl (by omega) (by omega) (by omega)) rfl rfl rfl ?_
    refine Seq.val (Runs.remN rfl rfl rfl (by omega) (by omega)) rfl rfl rfl ?_
    refine Seq.val (Runs.move rfl rfl) rfl rfl rfl ?_
    refine Seq.val (Runs.quoU rfl rfl rfl (by omega) (by omega) (by omega)) rfl rfl rfl ?_
    refine Seq.val (Runs.remN rfl rfl rfl (by omega) (by omega)) rfl rfl rfl ?_
    refine Seq.val (Runs.move rfl rfl) rfl rfl rfl ?_
    refine Seq.val (Runs.quoU rfl rfl rfl (by omega) (by omega) (by omega)) rfl rfl rfl ?_
    refine Seq.slice (vs := [_, _, _, _]) (s := 1) rfl rfl rfl Try.underlying131 (by kernel_rfl) (zero_uint64) (by omega) (by omega) ⟨rfl, rfl, rfl, rfl, trivial⟩ rfl rfl rfl ?_
    intro g22 w2 n22
    have e22 := Nat.le_trans bel.size n22.ge
    have l22 := Nat.lt_of_lt_of_le k2.lt n22.ge
    replace bel := bel.step n22.below
    replace k2 := k2.step n22.below
    have k22 := n22.blk
    have hr := of_digits _ g22 a.natAbs _ _ _ _ _ _ rfl k22 (by omega) (by omega) (by omega) (by omega)
    refine Seq.call (Enters.func rfl rfl rfl (run_enter Try.func143 (by kernel_rfl) rfl)) rfl rfl rfl (trim_any _ _ 4 4 _ _ hr (Nat.le_refl _) hd (by omega) (by omega)) ?_
    rintro e w7 ⟨rfl, rfl⟩
    have hm := mag_of_trim hr hd (Nat.le_refl 4) (by omega) hv
    have hm1 := hm.one
    refine ⟨_, rfl, ?_⟩
    rw [hv] at hm hm1 ⊢
    refine Seq.val (Runs.build rfl rfl (run_build_Big _ _ hm1 _)) rfl rfl rfl ?_
    refine Seq.storeN rfl rfl rfl rfl (m := 2) (by kernel_rfl) rfl (by repeat' first | exact trivial | apply And.intro | rfl | assumption) k2 (by simp [Value.cells]) rfl rfl ?_
    intro w3 pw3
    replace bel := bel.put k2 pw3 e2
    replace k22 := k22.put pw3 (by omega)
    replace hm := hm.put k2 pw3 e2
    replace k2 := pw3.blk
    refine Seq.nil ?_
    refine Post.weak (F' := [(0, _), (2, _), (3, _), (7, _)]) ⟨rfl, rfl, rfl, rfl, trivial⟩ ?_
    refine Post.then_ ?_
    refine Cd.ret ?_
    refine Post.endC rfl rfl k2 Try.underlying133 rfl (m := 2) (by kernel_rfl) rfl (.inl rfl) ?_
    exact ⟨_, rfl, ⟨_, rfl, hm⟩, bel⟩
end Go.Proofs.Ytijaldpmpjapiaa

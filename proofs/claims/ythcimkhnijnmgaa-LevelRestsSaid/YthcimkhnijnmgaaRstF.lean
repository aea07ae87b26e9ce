/-
  LevelRests walked. Condition: the version lies within reach.
-/
import Derived.Test.YthcimkhnijnmgaaRstC
import Derived.Test.YthcimkhnijnmgaaLvOpen
import Derived.Test.YthcimkhnijnmgaaKL
namespace Go.Proofs.Ythcimkhnijnmgaa
open Go.RowKit

theorem nums_di (l : List Lv.File) : Lv.numsOf l = DI (l.map (·.num)) := by unfold Lv.numsOf DI; rw [List.map_map]; rfl
theorem ones_di (l : List Int) : ∀ u ∈ DI l, u.oneCell' = true := fun u hu => by
  unfold DI at hu
  obtain ⟨z, -, rfl⟩ := List.mem_map.1 hu
  rfl
theorem zero_level_Task : zeroIs Try.prog 33 = some (some (.agg #[.int .i64 0, .slice none 0 0, .slice none 0 0, .bool false])) := by kernel_rfl
theorem run_build_xf (a b : Int) (f l : ByteArray) (w : World) : (Instr.build 37 #[(0, .int .i64 a), (1, .int .i64 b), (2, .string f), (3, .string l), (4, .int .i64 1), (5, .int .i64 1)]).run Try.prog w = .ok (.agg #[.int .i64 a, .int .i64 b, .string f, .string l, .int .i64 1, .int .i64 1]) w := by kernel_rfl
theorem run_build_xe (b : Int) (A A2 : Option Addr) (n c m d : Nat) (w : World) : (Instr.build 46 #[(0, .int .i64 (-1)), (1, .int .i64 b), (2, .int .i64 (-1)), (3, .slice A n c), (4, .slice A2 m d)]).run Try.prog w = .ok (.agg #[.int .i64 (-1), .int .i64 b, .int .i64 (-1), .slice A n c, .slice A2 m d]) w := by kernel_rfl
theorem Blk.appNe {k n B B' size : Nat} {w w' : World} {t e : TypeId} {cs : Array Value} {v : Value} {xs : List Value} (h : Blk w k t cs) (o : Own w B e size v n xs) (ha : App w w' B' v) (hne : e ≠ t := by decide) : Blk w' k t cs := h.grown ha.grown (fun e' => own_blk_ne o.row h hne e'.symm)
theorem ones_fl (l : List Fl) : ∀ u ∈ fcs l, u.oneCell' = true := fun u hu => by
  unfold fcs at hu
  obtain ⟨f, -, hf⟩ := List.mem_flatMap.1 hu
  simp [Fl.cs] at hf
  rcases hf with rfl | rfl | rfl | rfl | rfl | rfl <;> rfl
theorem Own.lt {w : World} {B size n : Nat} {e : TypeId} {v : Value} {xs : List Value} (h : Own w B e size v n xs) : ∀ b, v.ownBlock = some b → b < w.heap.size := fun b hb => by
  rcases h.row.2 with ⟨rfl, _⟩ | ⟨g, cap, cur, rfl, hBg, hblk, _⟩
  · cases hb
  · injection hb with hb
    have hb : g = b := hb
    subst hb
    exact Nat.lt_of_not_le fun hle => by
      rw [Array.getElem?_eq_none (by omega)] at hblk
      cases hblk
/-- Files in a slice of the call's own, below a height. -/
structure OwH (w : World) (B H : Nat) (v : Value) (n : Nat) (xs : List Value) : Prop where
  own : Own w B 37 6 v n xs
  bd : ∀ b, v.ownBlock = some b → b < H
  hi : H ≤ w.heap.size
theorem OwH.step {w w' : World} {B H n : Nat} {v : Value} {xs : List Value} (h : OwH w B H v n xs) (hb : Below w.heap.size w w') : OwH w' B H v n xs := ⟨h.own.step hb, h.bd, Nat.le_trans h.hi hb.size⟩
theorem OwH.put {w w' : World} {B H n g : Nat} {v : Value} {xs : List Value} {T : TypeId} {cur cs : Array Value} (h : OwH w B H v n xs) (_k : Blk w g T cur) (p : Put w w' g T cs) {E : Prop} (_e : E) (hg : H ≤ g := by omega) : OwH w' B H v n xs :=
  ⟨⟨h.own.row.kept p.grown (.inr fun e => by have := h.bd g e; omega)⟩, h.bd, Nat.le_trans h.hi (Nat.le_of_eq p.size.symm)⟩
set_option maxHeartbeats 4000000 in
theorem walk_rests (lg nx sq n : Int) (A : Option Addr) (len cap : Nat) (fs : List Lv.File) (w : World) (hr : Reads w w.heap.size 6 A len (Lv.cellsOf fs)) (hn : I64 n) : Calls Try.prog 3 #[.agg #[.int .i64 lg, .int .i64 nx, .int .i64 sq, .slice A len cap], .int .i64 n] w fun e w' => e = .returned (.bool true) ∧ Below w.heap.size w w' := by
  have bel := Below.refl w.heap.size w
  have hfl : fs.length = len := by
    have := hr.1
    rw [cells_fl, fcs_len, List.length_map] at this
    omega
  refine Calls.start 105 Try.func3 rfl rfl rfl ?_
  refine Cd.seq ?_
  refine Cd.region ?_
  refine Seq.box rfl rfl rfl rfl rfl ?_
  intro g2 w1 n2
  have e2 := Nat.le_trans bel.size n2.ge
  replace bel := bel.step n2.below
  have k2 := n2.blk
  refine Seq.val (Runs.assign rfl rfl) rfl rfl rfl ?_
  refine Seq.nil ?_
  refine Post.weak (F' := [(0, _), (1, _), (2, _), (4, _)]) ⟨rfl, rfl, rfl, rfl, trivial⟩ ?_
  refine Post.then_ ?_
  refine Cd.seq ?_
  refine Cd.seq ?_
  refine Cd.region ?_
  refine Seq.val (Runs.loadW rfl rfl Try.underlying24 rfl k2 (m := 4) (by kernel_rfl) rfl) rfl rfl rfl ?_
  refine Seq.call (Enters.func rfl rfl rfl (run_enter Try.func4 (by kernel_rfl) rfl)) rfl rfl rfl (Lv.great_any w.heap.size A len cap fs lg nx sq _ (hr.below bel) bel.size) ?_
  rintro e_ x5 ⟨b, rfl, hb, hb5⟩
  refine ⟨_, rfl, ?_⟩
  replace bel := bel.step hb5
  replace k2 := k2.step hb5
  refine Seq.val (Runs.move rfl rfl) rfl rfl rfl ?_
  refine SeqC.start ?_
  refine SeqC.open rfl rfl rfl rfl rfl rfl rfl (fun hcx => Runs.fieldB 1 rfl rfl Try.underlying24 rfl (by kernel_rfl)) ?_
  refine SeqC.next rfl rfl rfl rfl rfl rfl rfl (fun hcx => Runs.loadB rfl rfl Try.underlying3 rfl k2 rfl) ?_
  refine SeqC.next rfl rfl rfl rfl rfl rfl rfl (fun hcx => Runs.gtr rfl rfl rfl) ?_
  refine SeqC.or rfl rfl rfl rfl rfl rfl rfl ?_
  refine Seq.val (Runs.move rfl rfl) rfl rfl rfl ?_
  refine SeqC.start ?_
  refine SeqC.openC rfl rfl rfl rfl rfl rfl rfl (fun hcx => Enters.func rfl rfl rfl (run_enter Try.func5 (by kernel_rfl) rfl)) (fun hcx => Lv.awake_any _) ?_
  intro w2 hw2
  replace bel := bel.step hw2
  replace k2 := k2.step hw2
  refine SeqC.next rfl rfl rfl rfl rfl rfl rfl (fun hcx => Runs.not rfl rfl) ?_
  refine SeqC.or rfl rfl rfl rfl rfl rfl rfl ?_
  refine Seq.nil ?_
  refine Post.weak (F' := [(0, _), (1, _), (2, _), (4, _), (27, _)]) ⟨rfl, rfl, rfl, rfl, rfl, trivial⟩ ?_
  refine Post.then_ ?_
  refine Cd.cond rfl (fun h => ?_) (fun h => ?_)
  · skip
    refine Cd.seq ?_
    refine Cd.region ?_
    refine Seq.call (Enters.func rfl rfl rfl (run_enter Try.func5 (by kernel_rfl) rfl)) rfl rfl rfl (Lv.awake_any _) ?_
    rintro e_ x6 ⟨rfl, hb6⟩
    refine ⟨_, rfl, ?_⟩
    replace bel := bel.step hb6
    replace k2 := k2.step hb6
    refine Seq.val (Runs.assign rfl rfl) rfl rfl rfl ?_
    refine Seq.nil ?_
    refine Post.weak (F' := [(0, _), (1, _), (2, _), (4, _), (27, _)]) ⟨rfl, rfl, rfl, rfl, rfl, trivial⟩ ?_
    refine Post.then_ ?_
    refine Cd.ret ?_
    refine Post.then_ret ?_
    refine Post.end1 rfl rfl (.inl rfl) ?_
    exact ⟨rfl, bel⟩
  simp only [Bool.or_eq_false_iff, decide_eq_false_iff_not] at h
  obtain ⟨⟨rfl, hnx⟩, -⟩ := h
  obtain ⟨h30, hR⟩ := hb rfl
  have hnx : nx ≤ 999990 := by omega
  clear hb
  have hnum : ∀ f ∈ fs, 0 ≤ f.num ∧ f.num ≤ 4611686018427387904 := fun f hf => by
    have := hR.2.2.2.2.2.2.2.1 f hf
    have h1 := this.1
    have h2 := this.2.1
    omega
  have hnx0 : 0 ≤ nx := hR.2.2.1
  refine Cd.skip ?_
  refine Post.then_ ?_
  refine Cd.seq ?_
  refine Cd.region ?_
  refine Seq.val (Runs.loadW rfl rfl Try.underlying24 rfl k2 (m := 4) (by kernel_rfl) rfl) rfl rfl rfl ?_
  refine Seq.call (Enters.func rfl rfl rfl (run_enter Try.func6 (by kernel_rfl) rfl)) rfl rfl rfl (Lv.version_any w.heap.size A len cap fs lg nx sq _ (by omega) (hr.below bel) bel.size) ?_
  rintro e_ x6 ⟨A1, c1, rfl, hown, hb6⟩
  refine ⟨_, rfl, ?_⟩
  have own : Own x6 _ 37 6 (.slice A1 len c1) len (Lv.cellsOf fs) := ⟨hown⟩
  clear hown
  replace bel := bel.step hb6
  replace k2 := k2.step hb6
  refine Seq.alloc rfl (run_zero zero_edit_Version) rfl rfl rfl ?_
  intro g5 w3 n5
  have e5 := Nat.le_trans bel.size n5.ge
  have l5 := Nat.lt_of_lt_of_le k2.lt n5.ge
  replace bel := bel.step n5.below
  replace k2 := k2.step n5.below
  replace own := own.step n5.below
  have k5 := n5.blk
  refine Seq.storeN rfl rfl rfl rfl (m := 4) (by kernel_rfl) rfl (by repeat' first | exact trivial | apply And.intro | rfl | assumption) k5 (by simp [Value.cells]) rfl rfl ?_
  intro w4 pw4
  replace bel := bel.put k5 pw4 e5
  replace k2 := k2.put pw4 (by omega)
  replace own := own.put k5 pw4 e5
  replace k5 := pw4.blk
  refine Seq.nil ?_
  refine Post.weak (F' := [(0, _), (1, _), (2, _), (4, _), (5, _), (27, _)]) ⟨rfl, rfl, rfl, rfl, rfl, rfl, trivial⟩ ?_
  refine Post.then_ ?_
  refine Cd.seq ?_
  refine Cd.region ?_
  refine Seq.val (Runs.loadW rfl rfl Try.underlying29 rfl k5 (m := 4) (by kernel_rfl) rfl) rfl rfl rfl ?_
  refine Seq.val (Runs.move rfl rfl) rfl rfl rfl ?_
  replace k5 : Blk _ g5 29 #[.int .i64 lg, .int .i64 nx, .int .i64 sq, .slice A1 len c1] := k5
  obtain ⟨A1', c1', hv1, hrv⟩ := own.reads
  injection hv1 with e1 _ e2
  subst e1 e2
  have hlc : len ≤ c1 := by
    rcases own.row.2 with ⟨h1, h2⟩ | ⟨g, cp, cur, h1, h2, h3, h4, -⟩
    · omega
    · injection h1 with h1 h5 h6
      omega
  clear own
  refine Seq.call (Enters.func rfl rfl rfl (run_enter Try.func7 (by kernel_rfl) rfl)) rfl rfl rfl (Lv.take_any _ A1 len c1 fs lg nx sq n _ (by omega) hrv (Nat.le_refl _) hnum) ?_
  rintro e_ x8 ⟨htk, hb8⟩
  have hrv8 := (hrv.below hb8).more hb8.size
  rcases htk with ⟨hT, rfl⟩ | ⟨hT, va, vb, rfl, owa, owb⟩
  · skip
    refine ⟨_, rfl, ?_⟩
    replace bel := bel.step hb8
    replace k2 := k2.step hb8
    replace k5 := k5.step hb8
    refine Seq.val (Runs.move rfl rfl) rfl rfl rfl ?_
    refine Seq.val (Runs.extract rfl rfl rfl) rfl rfl rfl ?_
    refine Seq.val (Runs.extract rfl rfl rfl) rfl rfl rfl ?_
    refine Seq.alloc rfl (run_zero zero_level_Task) rfl rfl rfl ?_
    intro g6 w5 n6
    have e6 := Nat.le_trans bel.size n6.ge
    have l6 := Nat.lt_of_lt_of_le k5.lt n6.ge
    have l6_k2 := Nat.lt_of_lt_of_le k2.lt n6.ge
    replace bel := bel.step n6.below
    replace k2 := k2.step n6.below
    replace k5 := k5.step n6.below
    have k6 := n6.blk
    refine Seq.storeN rfl rfl rfl rfl (m := 4) (by kernel_rfl) rfl (by repeat' first | exact trivial | apply And.intro | rfl | assumption) k6 (by simp [Value.cells]) rfl rfl ?_
    intro w6 pw6
    replace bel := bel.put k6 pw6 e6
    replace k2 := k2.put pw6 (by omega)
    replace k5 := k5.put pw6 (by omega)
    replace k6 := pw6.blk
    refine Seq.val (Runs.assign rfl rfl) rfl rfl rfl ?_
    refine Seq.nil ?_
    refine Post.weak (F' := [(0, _), (1, _), (2, _), (4, _), (5, _), (6, _), (7, _), (27, _)]) ⟨rfl, rfl, rfl, rfl, rfl, rfl, rfl, rfl, trivial⟩ ?_
    refine Post.then_ ?_
    refine Cd.seq ?_
    refine Cd.seq ?_
    refine Cd.region ?_
    refine Seq.val (Runs.move rfl rfl) rfl rfl rfl ?_
    refine Seq.val (Runs.not rfl rfl) rfl rfl rfl ?_
    refine Seq.nil ?_
    refine Post.weak (F' := [(0, _), (1, _), (2, _), (4, _), (5, _), (6, _), (7, _), (27, _), (38, _)]) ⟨rfl, rfl, rfl, rfl, rfl, rfl, rfl, rfl, rfl, trivial⟩ ?_
    refine Post.then_ ?_
    refine Cd.condT rfl rfl ?_
    refine Cd.seq ?_
    refine Cd.region ?_
    refine Seq.val (Runs.assign rfl rfl) rfl rfl rfl ?_
    refine Seq.nil ?_
    refine Post.weak (F' := [(0, _), (1, _), (2, _), (4, _), (5, _), (6, _), (7, _), (27, _), (38, _)]) ⟨rfl, rfl, rfl, rfl, rfl, rfl, rfl, rfl, rfl, trivial⟩ ?_
    refine Post.then_ ?_
    refine Cd.ret ?_
    refine Post.then_ret ?_
    refine Post.end1 rfl rfl (.inl rfl) ?_
    exact ⟨rfl, bel⟩
  refine ⟨_, rfl, ?_⟩
  obtain ⟨Aa, ca, rfl, hra⟩ := Own.reads ⟨owa⟩
  obtain ⟨Ab, cb, rfl, hrb⟩ := Own.reads ⟨owb⟩
  clear owa owb hrv
  obtain ⟨f0, r, rem, x, hfr, hn0, hn4, hx, hfind, hdr, hlr, hlaid, hxok, hright, hfin⟩ := rests_plain hR (by omega) hnx hT
  obtain ⟨T, hTe⟩ : ∃ T, T = Lv.takeFrom fs n := ⟨_, rfl⟩
  obtain ⟨I, hIe⟩ : ∃ I, I = Lv.takeInto fs n := ⟨_, rfl⟩
  rw [← hTe] at hra hfr hx hfind hdr hlr hlaid ⊢
  rw [← hIe] at hrb hx hfind hdr hlr hlaid ⊢
  rw [nums_di] at hra hrb
  have hT0 : 0 < T.length := by rw [hfr]; simp
  have hTI : (T ++ I).length = T.length + I.length := List.length_append
  replace bel := bel.step hb8
  replace k2 := k2.step hb8
  replace k5 := k5.step hb8
  have bel0 := bel
  clear bel
  have bel := Below.refl x8.heap.size x8
  have hsz0 := bel0.size
  have l5 := k5.lt
  refine Seq.val (Runs.move rfl rfl) rfl rfl rfl ?_
  refine Seq.val (Runs.extract rfl rfl rfl) rfl rfl rfl ?_
  refine Seq.val (Runs.extract rfl rfl rfl) rfl rfl rfl ?_
  refine Seq.alloc rfl (run_zero zero_level_Task) rfl rfl rfl ?_
  intro g6 w5 n6
  have e6 := Nat.le_trans bel.size n6.ge
  have l6 := Nat.lt_of_lt_of_le k5.lt n6.ge
  have l6_k2 := Nat.lt_of_lt_of_le k2.lt n6.ge
  replace bel := bel.step n6.below
  replace k2 := k2.step n6.below
  replace k5 := k5.step n6.below
  have k6 := n6.blk
  refine Seq.storeN rfl rfl rfl rfl (m := 4) (by kernel_rfl) rfl (by repeat' first | exact trivial | apply And.intro | rfl | assumption) k6 (by simp [Value.cells]) rfl rfl ?_
  intro w6 pw6
  replace bel := bel.put k6 pw6 e6
  replace k2 := k2.put pw6 (by omega)
  replace k5 := k5.put pw6 (by omega)
  replace k6 := pw6.blk
  refine Seq.val (Runs.assign rfl rfl) rfl rfl rfl ?_
  refine Seq.nil ?_
  refine Post.weak (F' := [(0, _), (1, _), (2, _), (4, _), (5, _), (6, _), (7, _), (27, _)]) ⟨rfl, rfl, rfl, rfl, rfl, rfl, rfl, rfl, trivial⟩ ?_
  refine Post.then_ ?_
  refine Cd.seq ?_
  refine Cd.seq ?_
  refine Cd.region ?_
  refine Seq.val (Runs.move rfl rfl) rfl rfl rfl ?_
  refine Seq.val (Runs.not rfl rfl) rfl rfl rfl ?_
  refine Seq.nil ?_
  refine Post.weak (F' := [(0, _), (1, _), (2, _), (4, _), (5, _), (6, _), (7, _), (27, _), (38, _)]) ⟨rfl, rfl, rfl, rfl, rfl, rfl, rfl, rfl, rfl, trivial⟩ ?_
  refine Post.then_ ?_
  replace k6 : Blk _ g6 33 #[.int .i64 n, .slice Aa T.length ca, .slice Ab I.length cb, .bool (decide (0 < n) && I.isEmpty)] := k6
  refine Cd.condF rfl rfl ?_
  refine Cd.skip ?_
  refine Post.then_ ?_
  refine Cd.seq ?_
  refine Cd.region ?_
  refine Seq.val (Runs.assign rfl rfl) rfl rfl rfl ?_
  refine Seq.nil ?_
  refine Post.weak (F' := [(0, _), (1, _), (2, _), (4, _), (5, _), (6, _), (7, _), (8, _), (27, _), (38, _)]) ⟨rfl, rfl, rfl, rfl, rfl, rfl, rfl, rfl, rfl, rfl, trivial⟩ ?_
  refine Post.then_ ?_
  refine Cd.seq ?_
  obtain ⟨adA, rfl, hbA, hcA⟩ := hra.2 hT0
  refine Cd.draw 6 (by kernel_rfl) [] (.inl rfl) rfl Grow Grow.refl (fun _ _ _ => Grow.trans) ?_
  intro w7 hw7 zw7
  replace bel := bel.step hw7
  replace k2 := k2.step hw7
  replace k5 := k5.step hw7
  replace k6 := k6.step hw7
  have zbel := bel.size
  have zlt := k6.lt
  refine Dr.slice (vs := []) (s := 1) rfl rfl rfl rfl Try.underlying31 (by kernel_rfl) zero_int (by omega) (by omega) trivial rfl ?_
  refine Dr.val Grow.refl rfl (fun w hG => Runs.fieldB 1 rfl rfl Try.underlying33 rfl (by kernel_rfl)) rfl ?_
  refine Dr.val Grow.refl rfl (fun w hG => Runs.loadB rfl rfl Try.underlying31 rfl (k6.step hG) rfl) rfl ?_
  refine Dr.make1 (j := 0) (Φ := fun v w => Own w x8.heap.size 3 1 v T.length (DI (T.map (fun f : Lv.File => f.num)))) rfl rfl rfl (fun _ _ _ hg h => h.step hg) rfl (fun u w hG hu => by obtain ⟨gz, rfl, hbz, -⟩ := hu; exact Runs.appendNew rfl rfl rfl Try.underlying31 (by kernel_rfl) zero_int rfl (b := 8) (by kernel_rfl) hra.1 (fun j u hj => ((Below.step bel hG).cell (p := adA.add j) (by rw [block_of_add]; exact hbA)).trans (hcA j u hj)) hT0 (by omega) (by omega) (Below.step bel hG).size) ?_
  refine Dr.val Grow.refl rfl (fun w hG => Runs.fieldB 2 rfl rfl Try.underlying33 rfl (by kernel_rfl)) rfl ?_
  refine Dr.val Grow.refl rfl (fun w hG => Runs.loadB rfl rfl Try.underlying31 rfl (k6.step hG) rfl) rfl ?_
  refine Dr.nil ?_
  refine FinX.open (j := 3) rfl ?_
  intro u3
  refine FinX.done (F' := [(0, _), (1, _), (2, _), (4, _), (5, _), (6, _), (7, _), (8, _), (27, _), (38, _), (42, _), (44, _)]) rfl ⟨rfl, rfl, rfl, rfl, rfl, rfl, rfl, rfl, rfl, rfl, rfl, rfl, trivial⟩ ?_
  intro w8 hw8 fw8
  replace bel := bel.step hw8
  replace k2 := k2.step hw8
  replace k5 := k5.step hw8
  replace k6 := k6.step hw8
  have owd := fw8.2
  refine Seq.append rfl rfl rfl Try.underlying31 (by kernel_rfl) zero_int rfl (by decide) (b := 8) (by kernel_rfl) owd (hrb.below bel) (ones_di _) bel.size (by simp only [maxLen]; omega) (by omega) rfl rfl rfl ?_
  intro v9 wa own9 ha
  have k2' := k2.appNe owd ha
  have k5' := k5.appNe owd ha
  have bel2 := bel.trans ha.below
  clear bel k2 k5 k6 owd ha
  have k2 := k2'
  have k5 := k5'
  clear k2' k5'
  have hdi : DI (T.map (fun f : Lv.File => f.num)) ++ DI (I.map (·.num)) = DI ((T ++ I).map (·.num)) := by simp [DI]
  rw [hdi] at own9
  obtain ⟨A9, c9, rfl, hrd⟩ := own9.reads
  clear own9
  have hrvw := (hrv8.below bel2).more bel2.size
  have bel1 := bel0.trans (bel2.mono hsz0)
  have hsz1 := bel1.size
  clear bel2
  have bel := Below.refl wa.heap.size wa
  obtain ⟨L, hL⟩ : ∃ L, L = T ++ I := ⟨_, rfl⟩
  rw [← hL] at hrd hx hfind hdr hlr hlaid hTI
  obtain ⟨dl, hdl⟩ : ∃ dl, dl = L.length := ⟨_, rfl⟩
  rw [← hTI] at hrd ⊢
  rw [← hdl] at hTI hrd hlr ⊢
  rw [cells_fl] at hrvw
  have hflm : (fs.map flOf).length = len := by rw [List.length_map, hfl]
  refine Seq.val (Runs.assign rfl rfl) rfl rfl rfl ?_
  refine Seq.nil ?_
  refine Post.weak (F' := [(0, _), (1, _), (2, _), (4, _), (5, _), (6, _), (7, _), (8, _), (9, _), (27, _), (38, _)]) ⟨rfl, rfl, rfl, rfl, rfl, rfl, rfl, rfl, rfl, rfl, rfl, trivial⟩ ?_
  refine Post.then_ ?_
  refine Cd.seq ?_
  refine Cd.seq ?_
  refine Cd.region ?_
  refine Seq.val (Runs.assign rfl rfl) rfl rfl rfl ?_
  refine Seq.nil ?_
  refine Post.weak (F' := [(0, _), (1, _), (2, _), (4, _), (5, _), (6, _), (7, _), (8, _), (9, _), (10, _), (27, _), (38, _)]) ⟨rfl, rfl, rfl, rfl, rfl, rfl, rfl, rfl, rfl, rfl, rfl, rfl, trivial⟩ ?_
  refine Post.then_ ?_
  refine Cd.block ?_
  have owl : OwH wa wa.heap.size wa.heap.size (.slice none 0 0) 0 [] := ⟨Own.nil _ _ _ _, (fun b e => by cases e), Nat.le_refl _⟩
  refine Cd.loop (σ := Nat × Value × Nat) (fun s => [(1, .int .i64 n), (2, .pointer (some ⟨g2, 0, none⟩)), (5, .pointer (some ⟨g5, 0, none⟩)), (9, .slice A9 dl c9), (8, s.2.1), (10, .int .i64 (s.1 : Int))])
    (fun s wr => s.1 ≤ dl ∧ OwH wr wa.heap.size s.2.2 s.2.1 s.1 (fcs ((L.map flOf).take s.1)) ∧ Below wa.heap.size wa wr ∧ Blk wr g2 24 #[.int .i64 lg, .int .i64 nx, .int .i64 sq, .slice A len cap] ∧ Blk wr g5 29 #[.int .i64 lg, .int .i64 nx, .int .i64 sq, .slice A1 len c1]) (fun s => dl - s.1) (0, .slice none 0 0, wa.heap.size) ⟨Nat.zero_le _, owl, bel, k2, k5⟩ ⟨rfl, rfl, rfl, rfl, rfl, rfl, trivial⟩ ?_
  clear bel k2 k5
  clear owl
  rintro ⟨i, v, H⟩ wr ⟨hi, owl, bel, k2, k5⟩
  simp only at hi owl
  obtain ⟨A8, c8, rfl, -⟩ := owl.own.reads
  show Cd _ _ _ _ [(1, .int .i64 n), (2, .pointer (some ⟨g2, 0, none⟩)), (5, .pointer (some ⟨g5, 0, none⟩)), (9, .slice A9 dl c9), (8, .slice A8 i c8), (10, .int .i64 (i : Int))] _
  refine Cd.seq ?_
  refine Cd.seq ?_
  refine Cd.region ?_
  refine Seq.val (Runs.move rfl rfl) rfl rfl rfl ?_
  refine Seq.val (Runs.move rfl rfl) rfl rfl rfl ?_
  refine Seq.val (Runs.len rfl rfl Try.underlying31) rfl rfl rfl ?_
  refine Seq.val (Runs.lss rfl rfl rfl) rfl rfl rfl ?_
  refine Seq.nil ?_
  refine Post.weak (F' := [(1, _), (2, _), (5, _), (8, _), (9, _), (10, _), (49, _)]) ⟨rfl, rfl, rfl, rfl, rfl, rfl, rfl, trivial⟩ ?_
  refine Post.then_ ?_
  refine Cd.condD rfl (fun hc => ?_) (fun hc => ?_)
  · obtain ⟨f, hf⟩ : ∃ f, L[i]? = some f := ⟨_, List.getElem?_eq_getElem (show i < L.length by omega)⟩
    have hfi := hfind i f hf
    have hLf : (L.map flOf)[i]? = some (flOf f) := by rw [List.getElem?_map, hf]; rfl
    have htk := take_last hLf
    obtain ⟨adD, rfl, hbD, hcD⟩ := hrd.2 (by omega)
    have hcd := fun W (hb : Below wa.heap.size wa W) => (hb.cell (p := adD.add i) (by rw [block_of_add]; exact hbD)).trans (hcD i (.int .i64 f.num) (by rw [get_DI, List.getElem?_map, hf]; rfl))
    refine Cd.skip ?_
    refine Post.then_ ?_
    refine Cd.seq ?_
    refine Cd.block ?_
    refine Cd.seq ?_
    refine Cd.draw 10 (by kernel_rfl) [8] (.inr (fun _ _ d _ _ h => by cases d <;> exact h)) rfl Grow Grow.refl (fun _ _ _ => Grow.trans) ?_
    intro w9 hw9 zw9
    replace bel := bel.step hw9
    replace k2 := k2.step hw9
    replace k5 := k5.step hw9
    replace owl := owl.step hw9
    have zbel := bel.size
    have zlt := k5.lt
    have hHs := owl.hi
    refine Dr.val Grow.refl rfl (fun w hG => Runs.loadW rfl rfl Try.underlying29 rfl (k5.step hG) (m := 4) (by kernel_rfl) rfl) rfl ?_
    refine Dr.val Grow.refl rfl (fun w hG => Runs.move rfl rfl) rfl ?_
    refine Dr.val Grow.refl rfl (fun w hG => Runs.move rfl rfl) rfl ?_
    refine Dr.val Grow.refl rfl (fun w hG => Runs.index1 rfl rfl rfl Try.underlying31 (by kernel_rfl) (j := i) rfl (by omega)) rfl ?_
    refine Dr.val Grow.refl rfl (fun w hG => Runs.load1 rfl rfl Try.underlying3 rfl (hcd _ (Below.step bel hG))) rfl ?_
    refine Dr.callV rfl (fun w => Enters.func rfl rfl rfl (run_enter Try.func8 (by kernel_rfl) rfl)) rfl (fun w hG => find_any lg nx sq f.num wa.heap.size c1 len A1 (fs.map flOf) (flOf f) _ (hrvw.below (Below.step bel hG)) (Below.step bel hG).size (by omega) hfi) ?_
    refine Dr.val Grow.refl rfl (fun w hG => Runs.move rfl rfl) rfl ?_
    refine Dr.val Grow.refl rfl (fun w hG => Runs.extract rfl rfl rfl) rfl ?_
    refine Dr.late rfl rfl (fun w => Runs.extract rfl rfl rfl) Grow.refl rfl ?_
    refine Dr.alloc rfl rfl (run_zero zero_edit_File) rfl ?_
    refine Dr.nil ?_
    refine FinX.open (j := 9) rfl ?_
    intro u9
    refine FinX.done (F' := [(1, _), (2, _), (5, _), (8, _), (9, _), (10, _), (11, _), (49, _), (59, _), (60, _)]) rfl ⟨rfl, rfl, rfl, rfl, rfl, rfl, rfl, rfl, rfl, rfl, trivial⟩ ?_
    intro w10 hw10 fw10
    replace bel := bel.step hw10
    replace k2 := k2.step hw10
    replace k5 := k5.step hw10
    replace owl := owl.step hw10
    obtain ⟨g11, rfl, k11, hge⟩ := fw10.2
    have e11 : wa.heap.size ≤ g11 := by omega
    have hH11 : H ≤ g11 := by omega
    clear fw10
    refine Seq.storeN rfl rfl rfl rfl (m := 6) (by kernel_rfl) rfl (by repeat' first | exact trivial | apply And.intro | rfl | assumption) k11 (by simp [Value.cells]) rfl rfl ?_
    intro w11 pw11
    replace bel := bel.put k11 pw11 e11
    replace k2 := k2.put pw11 (by omega)
    replace k5 := k5.put pw11 (by omega)
    replace owl := owl.put k11 pw11 e11
    replace k11 := pw11.blk
    refine Seq.val (Runs.assign rfl rfl) rfl rfl rfl ?_
    refine Seq.nil ?_
    refine Post.weak (F' := [(1, _), (2, _), (5, _), (8, _), (9, _), (10, _), (11, _), (12, _), (49, _)]) ⟨rfl, rfl, rfl, rfl, rfl, rfl, rfl, rfl, rfl, trivial⟩ ?_
    refine Post.then_ ?_
    refine Cd.seq ?_
    refine Cd.seq ?_
    refine Cd.region ?_
    refine Seq.val (Runs.move rfl rfl) rfl rfl rfl ?_
    refine Seq.val (Runs.not rfl rfl) rfl rfl rfl ?_
    refine Seq.nil ?_
    refine Post.weak (F' := [(1, _), (2, _), (5, _), (8, _), (9, _), (10, _), (11, _), (12, _), (49, _), (62, _)]) ⟨rfl, rfl, rfl, rfl, rfl, rfl, rfl, rfl, rfl, rfl, trivial⟩ ?_
    refine Post.then_ ?_
    replace k11 : Blk _ g11 37 #[.int .i64 f.num, .int .i64 f.level, .string (strOf (bytesOf f.first)), .string (strOf (bytesOf f.last)), .int .i64 f.count, .int .i64 f.size] := k11
    refine Cd.condF rfl rfl ?_
    refine Cd.skip ?_
    refine Post.then_ ?_
    refine Cd.region ?_
    refine Seq.val (Runs.move rfl rfl) rfl rfl rfl ?_
    refine Seq.val (Runs.loadW rfl rfl Try.underlying37 rfl k11 (m := 6) (by kernel_rfl) rfl) rfl rfl rfl ?_
    refine Seq.slice (vs := [_]) (s := 6) rfl rfl rfl Try.underlying27 (by kernel_rfl) (zero_edit_File) (by omega) (by omega) ⟨rfl, trivial⟩ rfl rfl rfl ?_
    intro g65 w12 n65
    have e65 := Nat.le_trans bel.size n65.ge
    have l65 := Nat.lt_of_lt_of_le k11.lt n65.ge
    have l65_k2 := Nat.lt_of_lt_of_le k2.lt n65.ge
    have l65_k5 := Nat.lt_of_lt_of_le k5.lt n65.ge
    replace bel := bel.step n65.below
    replace k2 := k2.step n65.below
    replace k5 := k5.step n65.below
    replace owl := owl.step n65.below
    replace k11 := k11.step n65.below
    have k65 := n65.blk
    refine Seq.append rfl rfl rfl Try.underlying27 (by kernel_rfl) zero_edit_File rfl (by decide) (b := 64) (by kernel_rfl) owl.own (Reads.blk (size := 6) k65 1 rfl) (ones_fl [flOf f]) bel.size (by simp only [maxLen]; omega) (by omega) rfl rfl rfl ?_
    intro v' wb own' ha
    have k2' := k2.appNe owl.own ha
    have k5' := k5.appNe owl.own ha
    have bel2 := bel.trans ha.below
    replace own' : Own wb wa.heap.size 37 6 v' (i + 1) (fcs ((L.map flOf).take i) ++ fcs [flOf f]) := own'
    rw [← fcs_append, ← htk] at own'
    have owl' : OwH wb wa.heap.size wb.heap.size v' (i + 1) (fcs ((L.map flOf).take (i + 1))) := ⟨own', own'.lt, Nat.le_refl _⟩
    clear bel k2 k5 k11 k65 owl ha own'
    have k2 := k2'
    have k5 := k5'
    have bel := bel2
    have owl := owl'
    clear k2' k5' bel2 owl'
    refine Seq.val (Runs.assign rfl rfl) rfl rfl rfl ?_
    refine Seq.nil ?_
    refine Post.weak (F' := [(1, _), (2, _), (5, _), (8, _), (9, _), (10, _), (11, _), (12, _), (49, _), (62, _)]) ⟨rfl, rfl, rfl, rfl, rfl, rfl, rfl, rfl, rfl, rfl, trivial⟩ ?_
    refine Post.block_normal ?_
    refine Post.then_ ?_
    refine Cd.region ?_
    refine Seq.val (Runs.move rfl rfl) rfl rfl rfl ?_
    refine Seq.val (Runs.addI rfl rfl rfl (by omega) (by omega)) rfl rfl rfl ?_
    refine Seq.val (Runs.assign rfl rfl) rfl rfl rfl ?_
    refine Seq.nil ?_
    refine Post.weak (F' := [(1, _), (2, _), (5, _), (8, _), (9, _), (10, _), (11, _), (12, _), (49, _), (62, _)]) ⟨rfl, rfl, rfl, rfl, rfl, rfl, rfl, rfl, rfl, rfl, trivial⟩ ?_
    exact Post.round (i + 1, v', wb.heap.size) ⟨rfl, rfl, rfl, rfl, rfl, int_at (by omega), trivial⟩ ⟨by omega, owl, bel, k2, k5⟩ (by omega)
  · obtain rfl : i = dl := by omega
    have hTk : (L.map flOf).take i = L.map flOf := List.take_of_length_le (by rw [List.length_map]; omega)
    rw [hTk] at owl
    obtain ⟨A8', c8', hv8, hr8⟩ := owl.own.reads
    injection hv8 with e1 _ e2
    subst e1 e2
    have hLr : L = f0 :: (r ++ I) := by rw [hL, hfr]; rfl
    have hcl : fcs (L.map flOf) = Lv.cellsOf (f0 :: (r ++ I)) := by rw [← hLr, cells_fl]
    rw [hcl] at hr8
    clear owl
    refine Cd.exit ?_
    refine Post.then_exit ?_
    refine Post.round_exit ?_
    refine Post.block_exit ?_
    refine Post.then_ ?_
    refine Cd.seq ?_
    refine Cd.region ?_
    refine Seq.val (Runs.move rfl rfl) rfl rfl rfl ?_
    refine Seq.call (Enters.func rfl rfl rfl (run_enter Try.func9 (by kernel_rfl) rfl)) rfl rfl rfl (Lv.span_any _ A8 i c8 f0 (r ++ I) _ (by omega) hr8 (Nat.le_refl _)) ?_
    rw [← hLr]
    rintro en x9 ⟨rfl, hb9⟩
    refine ⟨_, rfl, ?_⟩
    have hrdx := hrd.below (bel.trans (hb9.mono bel.size))
    replace bel := bel.step hb9
    replace k2 := k2.step hb9
    replace k5 := k5.step hb9
    refine Seq.val (Runs.move rfl rfl) rfl rfl rfl ?_
    refine Seq.val (Runs.extract rfl rfl rfl) rfl rfl rfl ?_
    refine Seq.val (Runs.extract rfl rfl rfl) rfl rfl rfl ?_
    refine Seq.val (Runs.assign rfl rfl) rfl rfl rfl ?_
    refine Seq.val (Runs.assign rfl rfl) rfl rfl rfl ?_
    refine Seq.nil ?_
    refine Post.weak (F' := [(1, _), (2, _), (5, _), (8, _), (9, _), (10, _), (13, _), (14, _), (49, _)]) ⟨rfl, rfl, rfl, rfl, rfl, rfl, rfl, rfl, rfl, trivial⟩ ?_
    refine Post.then_ ?_
    refine Cd.seq ?_
    refine Cd.region ?_
    refine Seq.val (Runs.loadW rfl rfl Try.underlying29 rfl k5 (m := 4) (by kernel_rfl) rfl) rfl rfl rfl ?_
    refine Seq.val (Runs.fieldB 1 rfl rfl Try.underlying24 rfl (by kernel_rfl)) rfl rfl rfl ?_
    refine Seq.val (Runs.loadB rfl rfl Try.underlying3 rfl k2 rfl) rfl rfl rfl ?_
    refine Seq.val (Runs.addI rfl rfl rfl (by omega) (by omega)) rfl rfl rfl ?_
    refine Seq.val (Runs.move rfl rfl) rfl rfl rfl ?_
    refine Seq.val (Runs.fieldB 1 rfl rfl Try.underlying24 rfl (by kernel_rfl)) rfl rfl rfl ?_
    refine Seq.val (Runs.loadB rfl rfl Try.underlying3 rfl k2 rfl) rfl rfl rfl ?_
    refine Seq.val (Runs.move rfl rfl) rfl rfl rfl ?_
    refine Seq.val (Runs.addI rfl rfl rfl (by omega) (by omega)) rfl rfl rfl ?_
    refine Seq.val (Runs.move rfl rfl) rfl rfl rfl ?_
    refine Seq.val (Runs.move rfl rfl) rfl rfl rfl ?_
    have hsx : ∀ z : Int, 0 ≤ z → z ≤ 999990 → IntKind.wrap .i64 (z + 1) = z + 1 := fun z h1 h2 => wrapI (by omega) (by omega)
    refine Seq.val (Runs.build rfl rfl (run_build_xf _ _ (Lv.loOf f0 L) (Lv.hiOf f0 L) _)) rfl rfl rfl ?_
    refine Seq.slice (vs := [_]) (s := 6) rfl rfl rfl Try.underlying27 (by kernel_rfl) (zero_edit_File) (by omega) (by omega) ⟨rfl, trivial⟩ rfl rfl rfl ?_
    intro g85 w9 n85
    have e85 := Nat.le_trans bel.size n85.ge
    have l85 := Nat.lt_of_lt_of_le k5.lt n85.ge
    have l85_k2 := Nat.lt_of_lt_of_le k2.lt n85.ge
    replace bel := bel.step n85.below
    replace k2 := k2.step n85.below
    replace k5 := k5.step n85.below
    have k85 := n85.blk
    refine Seq.val (Runs.build rfl rfl (run_build_xe _ _ _ _ _ _ _ _)) rfl rfl rfl ?_
    have hrx : Reads w9 w9.heap.size 6 (some ⟨g85, 0, none⟩) 1 (fcs [x]) := by
      rw [hx]
      simpa [fcs, Fl.cs, strOf_bytesOf, flatC, Value.cells] using Reads.blk (size := 6) k85 1 rfl
    have hap := apply_any lg nx sq (nx + 1) (fs.map flOf) rem w9.heap.size c1 c9 1 A1 A9 (some ⟨g85, 0, none⟩) (L.map (·.num)) x w9
    rw [hflm, List.length_map, ← hdl] at hap
    have hap := hap ((hrvw.below bel).more bel.size) ((hrd.below bel).more bel.size) hrx (Nat.le_refl _) (fun f hf => by obtain ⟨f', -, rfl⟩ := List.mem_map.1 hf; exact flOf_ok f') hxok hlc (by omega) (by omega) hright hlaid (by omega) (by omega) hdr (by omega) (by omega) hfin
    refine Seq.call (Enters.func rfl rfl rfl (run_enter Try.func10 (by kernel_rfl) rfl)) rfl rfl rfl (hap) ?_
    rintro en x10 ⟨hb10, A10, c10, rfl⟩
    refine ⟨_, rfl, ?_⟩
    replace bel := bel.step hb10
    replace k2 := k2.step hb10
    replace k5 := k5.step hb10
    replace k85 := k85.step hb10
    refine Seq.val (Runs.move rfl rfl) rfl rfl rfl ?_
    refine Seq.val (Runs.extract rfl rfl rfl) rfl rfl rfl ?_
    refine Seq.val (Runs.extract rfl rfl rfl) rfl rfl rfl ?_
    refine Seq.alloc rfl (run_zero zero_edit_Version) rfl rfl rfl ?_
    intro g15 w10 n15
    have e15 := Nat.le_trans bel.size n15.ge
    have l15 := Nat.lt_of_lt_of_le k85.lt n15.ge
    have l15_k2 := Nat.lt_of_lt_of_le k2.lt n15.ge
    have l15_k5 := Nat.lt_of_lt_of_le k5.lt n15.ge
    replace bel := bel.step n15.below
    replace k2 := k2.step n15.below
    replace k5 := k5.step n15.below
    replace k85 := k85.step n15.below
    have k15 := n15.blk
    refine Seq.storeN rfl rfl rfl rfl (m := 4) (by kernel_rfl) rfl (by repeat' first | exact trivial | apply And.intro | rfl | assumption) k15 (by simp [Value.cells]) rfl rfl ?_
    intro w11 pw11
    replace bel := bel.put k15 pw11 e15
    replace k2 := k2.put pw11 (by omega)
    replace k5 := k5.put pw11 (by omega)
    replace k85 := k85.put pw11 (by omega)
    replace k15 := pw11.blk
    refine Seq.val (Runs.assign rfl rfl) rfl rfl rfl ?_
    refine Seq.nil ?_
    refine Post.weak (F' := [(1, _), (2, _), (5, _), (8, _), (9, _), (10, _), (13, _), (14, _), (15, _), (16, _), (49, _)]) ⟨rfl, rfl, rfl, rfl, rfl, rfl, rfl, rfl, rfl, rfl, rfl, trivial⟩ ?_
    refine Post.then_ ?_
    refine Cd.seq ?_
    refine Cd.region ?_
    refine Seq.val (Runs.move rfl rfl) rfl rfl rfl ?_
    refine Seq.val (Runs.eqlI rfl rfl rfl) rfl rfl rfl ?_
    refine Seq.val (Runs.move rfl rfl) rfl rfl rfl ?_
    refine SeqC.start ?_
    refine SeqC.open rfl rfl rfl rfl rfl rfl rfl (fun hcx => Runs.fieldB 3 rfl rfl Try.underlying29 rfl (by kernel_rfl)) ?_
    refine SeqC.next rfl rfl rfl rfl rfl rfl rfl (fun hcx => Runs.loadB rfl rfl Try.underlying27 rfl k15 rfl) ?_
    refine SeqC.next rfl rfl rfl rfl rfl rfl rfl (fun hcx => Runs.len rfl rfl Try.underlying27) ?_
    refine SeqC.next rfl rfl rfl rfl rfl rfl rfl (fun hcx => Runs.fieldB 3 rfl rfl Try.underlying29 rfl (by kernel_rfl)) ?_
    refine SeqC.next rfl rfl rfl rfl rfl rfl rfl (fun hcx => Runs.loadB rfl rfl Try.underlying27 rfl k5 rfl) ?_
    refine SeqC.next rfl rfl rfl rfl rfl rfl rfl (fun hcx => Runs.len rfl rfl Try.underlying27) ?_
    refine SeqC.next rfl rfl rfl rfl rfl rfl rfl (fun hcx => Runs.move rfl rfl) ?_
    refine SeqC.next rfl rfl rfl rfl rfl rfl rfl (fun hcx => Runs.len rfl rfl Try.underlying31) ?_
    refine SeqC.next rfl rfl rfl rfl rfl rfl rfl (fun hcx => Runs.subI rfl rfl rfl (by omega) (by omega)) ?_
    refine SeqC.next rfl rfl rfl rfl rfl rfl rfl (fun hcx => Runs.addI rfl rfl rfl (by omega) (by omega)) ?_
    refine SeqC.next rfl rfl rfl rfl rfl rfl rfl (fun hcx => Runs.eqlI rfl rfl rfl) ?_
    refine SeqC.and rfl rfl rfl rfl rfl rfl rfl ?_
    refine Seq.val (Runs.assign rfl rfl) rfl rfl rfl ?_
    refine Seq.nil ?_
    refine Post.weak (F' := [(1, _), (2, _), (4, _), (5, _), (8, _), (9, _), (10, _), (13, _), (14, _), (15, _), (16, _), (49, _)]) ⟨rfl, rfl, rfl, rfl, rfl, rfl, rfl, rfl, rfl, rfl, rfl, rfl, trivial⟩ ?_
    refine Post.then_ ?_
    refine Cd.ret ?_
    refine Post.end1 rfl rfl (.inl rfl) ?_
    have e1 : (decide ((0 : Int) = 0) && decide (((rem.length + 1 : Nat) : Int) = (len : Int) - (i : Int) + 1)) = true := by
      rw [Bool.and_eq_true, decide_eq_true_eq, decide_eq_true_eq]
      exact ⟨rfl, by omega⟩
    exact ⟨congrArg (fun b => Ending.returned (.bool b)) e1, bel1.trans (bel.mono hsz1)⟩
end Go.Proofs.Ythcimkhnijnmgaa

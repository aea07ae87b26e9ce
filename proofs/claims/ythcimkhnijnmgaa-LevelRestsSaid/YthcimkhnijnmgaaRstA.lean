/-
  edit.Apply when what is dropped is there, one file is added, and it is right then. Condition: at most 38 files.
-/
import Derived.Test.YthcimkhnijnmgaaSrtH
import Derived.Test.YthcimkhnijnmgaaEditG
namespace Go.Proofs.Ythcimkhnijnmgaa
open Go.RowKit

theorem get_DI (l : List Int) (k : Nat) : (DI l)[k]? = l[k]?.map fun (z : Int) => Value.int .i64 z := by simp [DI]
theorem zero_int : zeroIs Try.prog 3 = some (some (.int .i64 0)) := by kernel_rfl
/-- What is left when the files of some numbers are taken away, one after the other. -/
def Dr : List Fl → List Int → List Fl → Prop
  | q, [], rem => q = rem
  | q, n :: r, rem => (∃ f ∈ q, decide (f.num = n) = true) ∧ Dr (q.eraseP (fun f => decide (f.num = n))) r rem
theorem apply1_any (f : Fl) (n : Int) (g99 : Nat) (w : World) (k99 : Blk w g99 3 #[.int .i64 n]) : Calls Try.prog 23 #[f.v, .pointer (some ⟨g99, 0, none⟩)] w fun e w' => e = .returned (.bool (decide (f.num = n))) ∧ Grow w w' := by
  have bel := Below.refl w.heap.size w
  refine Calls.start 8 Try.func23 rfl rfl rfl ?_
  refine Cd.seq ?_
  refine Cd.region ?_
  refine Seq.box rfl rfl rfl rfl rfl ?_
  intro g2 w1 n2
  have e2 := Nat.le_trans bel.size n2.ge
  have l2 := Nat.lt_of_lt_of_le k99.lt n2.ge
  replace bel := bel.step n2.below
  replace k99 := k99.step n2.below
  have k2 := n2.blk
  refine Seq.val (Runs.assign rfl rfl) rfl rfl rfl ?_
  refine Seq.nil ?_
  refine Post.weak (F' := [(0, _), (1, _), (2, _), (3, _)]) ⟨rfl, rfl, rfl, rfl, trivial⟩ ?_
  refine Post.then_ ?_
  refine Cd.seq ?_
  refine Cd.region ?_
  refine Seq.val (Runs.fieldB 0 rfl rfl Try.underlying37 rfl (by kernel_rfl)) rfl rfl rfl ?_
  refine Seq.val (Runs.loadB rfl rfl Try.underlying3 rfl k2 rfl) rfl rfl rfl ?_
  refine Seq.val (Runs.loadB rfl rfl Try.underlying3 rfl k99 rfl) rfl rfl rfl ?_
  refine Seq.val (Runs.eqlI rfl rfl rfl) rfl rfl rfl ?_
  refine Seq.val (Runs.assign rfl rfl) rfl rfl rfl ?_
  refine Seq.nil ?_
  refine Post.weak (F' := [(0, _), (1, _), (2, _), (3, _)]) ⟨rfl, rfl, rfl, rfl, trivial⟩ ?_
  refine Post.then_ ?_
  refine Cd.ret ?_
  refine Post.end1 rfl rfl (.inl rfl) ?_
  exact ⟨rfl, bel⟩
theorem eg_apply1 : ∀ args w, (callFunc 23 args).run Try.prog w = .ok (.enter 23 args) w := fun args w => run_enter Try.func23 (by kernel_rfl) rfl args w
theorem run_build_ver4 (a b c : Int) (A : Option Addr) (n k : Nat) (w : World) : (Instr.build 29 #[(0, .int .i64 a), (1, .int .i64 b), (2, .int .i64 c), (3, .slice A n k)]).run Try.prog w = .ok (.agg #[.int .i64 a, .int .i64 b, .int .i64 c, .slice A n k]) w := by kernel_rfl
set_option maxHeartbeats 4000000 in
theorem apply_any (lg nx sq nx' : Int) (fs rem : List Fl) (B c cd ca : Nat) (A A2 A3 : Option Addr) (drop : List Int) (x : Fl) (w : World) (hr : Reads w B 6 A fs.length (fcs fs)) (hrd : Reads w B 1 A2 drop.length (DI drop)) (hrx : Reads w B 6 A3 1 (fcs [x])) (hB : B ≤ w.heap.size) (hok : ∀ f ∈ fs, f.ok) (hxok : x.ok) (hcap : fs.length ≤ c)
    (h0 : 0 < fs.length) (h30 : fs.length ≤ 38) (hR : rightB lg nx sq fs = true) (hl : laidB (-1) nx' (-1) drop [x] = true) (hnx : nx ≤ nx') (hn0 : 0 ≤ nx') (hdr : Dr fs drop rem) (hd0 : 0 < drop.length) (hd1 : drop.length ≤ 1000) (hfin : ∀ M : List Fl, M.Perm (rem ++ [x]) → M.Pairwise leF → rightB lg nx' sq M = true) :
    Calls Try.prog 10 #[.agg #[.int .i64 lg, .int .i64 nx, .int .i64 sq, .slice A fs.length c], .agg #[.int .i64 (-1), .int .i64 nx', .int .i64 (-1), .slice A2 drop.length cd, .slice A3 1 ca]] w fun e w' => Grow w w' ∧ ∃ (A' : Option Addr) (c' : Nat), e = .returned (.tuple #[.agg #[.int .i64 lg, .int .i64 nx', .int .i64 sq, .slice A' (rem.length + 1) c'], .int .i64 0]) := by
  have bel := Below.refl w.heap.size w
  have hra : ∀ W, Calls Try.prog 18 #[.int .i64 lg, .int .i64 (-1)] W fun e w' => e = .returned (.tuple #[.int .i64 lg, .bool true]) ∧ Grow W w' := fun W => by
    have := raise_any lg (-1) W
    rw [if_pos (by omega), decide_eq_true (by omega)] at this
    exact this
  have hrb : ∀ W, Calls Try.prog 18 #[.int .i64 nx, .int .i64 nx'] W fun e w' => e = .returned (.tuple #[.int .i64 nx', .bool true]) ∧ Grow W w' := fun W => by
    have := raise_any nx nx' W
    rw [if_neg (by omega), decide_eq_true (by omega)] at this
    exact this
  have hrc : ∀ W, Calls Try.prog 18 #[.int .i64 sq, .int .i64 (-1)] W fun e w' => e = .returned (.tuple #[.int .i64 sq, .bool true]) ∧ Grow W w' := fun W => by
    have := raise_any sq (-1) W
    rw [if_pos (by omega), decide_eq_true (by omega)] at this
    exact this
  have hri := fun W (hb : Below w.heap.size w W) => right_any lg nx sq B A c fs W (hr.below (hb.mono hB)) (Nat.le_trans hB hb.size) hok hcap
  have hla := fun W (hb : Below w.heap.size w W) => laid_any (-1) nx' (-1) B A2 A3 cd ca drop [x] W (hrd.below (hb.mono hB)) (hrx.below (hb.mono hB)) (Nat.le_trans hB hb.size)
  rw [hR] at hri
  rw [hl] at hla
  obtain ⟨dl, hdl⟩ : ∃ n, n = drop.length := ⟨_, rfl⟩
  obtain ⟨fl, hfl⟩ : ∃ n, n = fs.length := ⟨_, rfl⟩
  rw [← hdl] at hrd hla hd0 hd1 ⊢
  rw [← hfl] at hr hri hcap h0 h30 ⊢
  refine Calls.start 104 Try.func10 rfl rfl rfl ?_
  refine Cd.seq ?_
  refine Cd.region ?_
  refine Seq.box rfl rfl rfl rfl rfl ?_
  intro g2 w1 n2
  have e2 := Nat.le_trans bel.size n2.ge
  replace bel := bel.step n2.below
  have k2 := n2.blk
  refine Seq.box rfl rfl rfl rfl rfl ?_
  intro g3 w2 n3
  have e3 := Nat.le_trans bel.size n3.ge
  have l3 := Nat.lt_of_lt_of_le k2.lt n3.ge
  replace bel := bel.step n3.below
  replace k2 := k2.step n3.below
  have k3 := n3.blk
  refine Seq.alloc rfl (run_zero zero_edit_Version) rfl rfl rfl ?_
  intro g4 w3 n4
  have e4 := Nat.le_trans bel.size n4.ge
  have l4 := Nat.lt_of_lt_of_le k3.lt n4.ge
  have l4_k2 := Nat.lt_of_lt_of_le k2.lt n4.ge
  replace bel := bel.step n4.below
  replace k2 := k2.step n4.below
  replace k3 := k3.step n4.below
  have k4 := n4.blk
  refine Seq.val (Runs.assign rfl rfl) rfl rfl rfl ?_
  refine Seq.nil ?_
  refine Post.weak (F' := [(0, _), (1, _), (2, _), (3, _), (4, _), (5, _)]) ⟨rfl, rfl, rfl, rfl, rfl, rfl, trivial⟩ ?_
  refine Post.then_ ?_
  refine Cd.seq ?_
  refine Cd.region ?_
  refine Seq.val (Runs.fieldB 0 rfl rfl Try.underlying29 rfl (by kernel_rfl)) rfl rfl rfl ?_
  refine Seq.val (Runs.loadB rfl rfl Try.underlying3 rfl k2 rfl) rfl rfl rfl ?_
  refine Seq.val (Runs.fieldB 0 rfl rfl Try.underlying46 rfl (by kernel_rfl)) rfl rfl rfl ?_
  refine Seq.val (Runs.loadB rfl rfl Try.underlying3 rfl k3 rfl) rfl rfl rfl ?_
  refine Seq.call (Enters.func rfl rfl rfl (run_enter Try.func18 (by kernel_rfl) rfl)) rfl rfl rfl (hra _) ?_
  rintro en w5 ⟨rfl, hb5⟩
  refine ⟨_, rfl, ?_⟩
  replace bel := bel.step hb5
  replace k2 := k2.step hb5
  replace k3 := k3.step hb5
  replace k4 := k4.step hb5
  refine Seq.val (Runs.move rfl rfl) rfl rfl rfl ?_
  refine Seq.val (Runs.extract rfl rfl rfl) rfl rfl rfl ?_
  refine Seq.val (Runs.extract rfl rfl rfl) rfl rfl rfl ?_
  refine Seq.val (Runs.assign rfl rfl) rfl rfl rfl ?_
  refine Seq.val (Runs.assign rfl rfl) rfl rfl rfl ?_
  refine Seq.nil ?_
  refine Post.weak (F' := [(0, _), (1, _), (2, _), (3, _), (4, _), (5, _), (6, _), (7, _)]) ⟨rfl, rfl, rfl, rfl, rfl, rfl, rfl, rfl, trivial⟩ ?_
  refine Post.then_ ?_
  refine Cd.seq ?_
  refine Cd.region ?_
  refine Seq.val (Runs.fieldB 1 rfl rfl Try.underlying29 rfl (by kernel_rfl)) rfl rfl rfl ?_
  refine Seq.val (Runs.loadB rfl rfl Try.underlying3 rfl k2 rfl) rfl rfl rfl ?_
  refine Seq.val (Runs.fieldB 1 rfl rfl Try.underlying46 rfl (by kernel_rfl)) rfl rfl rfl ?_
  refine Seq.val (Runs.loadB rfl rfl Try.underlying3 rfl k3 rfl) rfl rfl rfl ?_
  refine Seq.call (Enters.func rfl rfl rfl (run_enter Try.func18 (by kernel_rfl) rfl)) rfl rfl rfl (hrb _) ?_
  rintro en w6 ⟨rfl, hb6⟩
  refine ⟨_, rfl, ?_⟩
  replace bel := bel.step hb6
  replace k2 := k2.step hb6
  replace k3 := k3.step hb6
  replace k4 := k4.step hb6
  refine Seq.val (Runs.move rfl rfl) rfl rfl rfl ?_
  refine Seq.val (Runs.extract rfl rfl rfl) rfl rfl rfl ?_
  refine Seq.val (Runs.extract rfl rfl rfl) rfl rfl rfl ?_
  refine Seq.val (Runs.assign rfl rfl) rfl rfl rfl ?_
  refine Seq.val (Runs.assign rfl rfl) rfl rfl rfl ?_
  refine Seq.nil ?_
  refine Post.weak (F' := [(0, _), (1, _), (2, _), (3, _), (4, _), (5, _), (6, _), (7, _), (8, _), (9, _)]) ⟨rfl, rfl, rfl, rfl, rfl, rfl, rfl, rfl, rfl, rfl, trivial⟩ ?_
  refine Post.then_ ?_
  refine Cd.seq ?_
  refine Cd.region ?_
  refine Seq.val (Runs.fieldB 2 rfl rfl Try.underlying29 rfl (by kernel_rfl)) rfl rfl rfl ?_
  refine Seq.val (Runs.loadB rfl rfl Try.underlying3 rfl k2 rfl) rfl rfl rfl ?_
  refine Seq.val (Runs.fieldB 2 rfl rfl Try.underlying46 rfl (by kernel_rfl)) rfl rfl rfl ?_
  refine Seq.val (Runs.loadB rfl rfl Try.underlying3 rfl k3 rfl) rfl rfl rfl ?_
  refine Seq.call (Enters.func rfl rfl rfl (run_enter Try.func18 (by kernel_rfl) rfl)) rfl rfl rfl (hrc _) ?_
  rintro en w7 ⟨rfl, hb7⟩
  refine ⟨_, rfl, ?_⟩
  replace bel := bel.step hb7
  replace k2 := k2.step hb7
  replace k3 := k3.step hb7
  replace k4 := k4.step hb7
  refine Seq.val (Runs.move rfl rfl) rfl rfl rfl ?_
  refine Seq.val (Runs.extract rfl rfl rfl) rfl rfl rfl ?_
  refine Seq.val (Runs.extract rfl rfl rfl) rfl rfl rfl ?_
  refine Seq.val (Runs.assign rfl rfl) rfl rfl rfl ?_
  refine Seq.val (Runs.assign rfl rfl) rfl rfl rfl ?_
  refine Seq.nil ?_
  refine Post.weak (F' := [(0, _), (1, _), (2, _), (3, _), (4, _), (5, _), (6, _), (7, _), (8, _), (9, _), (10, _), (11, _)]) ⟨rfl, rfl, rfl, rfl, rfl, rfl, rfl, rfl, rfl, rfl, rfl, rfl, trivial⟩ ?_
  refine Post.then_ ?_
  refine Cd.seq ?_
  refine Cd.seq ?_
  refine Cd.region ?_
  refine Seq.val (Runs.loadW rfl rfl Try.underlying29 rfl k2 (m := 4) (by kernel_rfl) rfl) rfl rfl rfl ?_
  refine Seq.call (Enters.func rfl rfl rfl (run_enter Try.func19 (by kernel_rfl) rfl)) rfl rfl rfl (hri _ bel) ?_
  rintro en w8 ⟨rfl, hb8⟩
  refine ⟨_, rfl, ?_⟩
  replace bel := bel.step hb8
  replace k2 := k2.step hb8
  replace k3 := k3.step hb8
  replace k4 := k4.step hb8
  refine Seq.val (Runs.not rfl rfl) rfl rfl rfl ?_
  refine Seq.val (Runs.move rfl rfl) rfl rfl rfl ?_
  refine SeqC.start ?_
  refine SeqC.open rfl rfl rfl rfl rfl rfl rfl (fun hcx => Runs.loadW rfl rfl Try.underlying46 rfl k3 (m := 5) (by kernel_rfl) rfl) ?_
  refine SeqC.nextC rfl rfl rfl rfl rfl rfl rfl (fun hcx => Enters.func rfl rfl rfl (run_enter Try.func20 (by kernel_rfl) rfl)) (fun hcx => hla _ bel) ?_
  intro w4 hw4
  replace bel := bel.step hw4
  replace k2 := k2.step hw4
  replace k3 := k3.step hw4
  replace k4 := k4.step hw4
  refine SeqC.next rfl rfl rfl rfl rfl rfl rfl (fun hcx => Runs.not rfl rfl) ?_
  refine SeqC.or rfl rfl rfl rfl rfl rfl rfl ?_
  refine Seq.val (Runs.move rfl rfl) rfl rfl rfl ?_
  refine SeqC.start ?_
  refine SeqC.open rfl rfl rfl rfl rfl rfl rfl (fun hcx => Runs.move rfl rfl) ?_
  refine SeqC.next rfl rfl rfl rfl rfl rfl rfl (fun hcx => Runs.not rfl rfl) ?_
  refine SeqC.or rfl rfl rfl rfl rfl rfl rfl ?_
  refine Seq.val (Runs.move rfl rfl) rfl rfl rfl ?_
  refine SeqC.start ?_
  refine SeqC.open rfl rfl rfl rfl rfl rfl rfl (fun hcx => Runs.move rfl rfl) ?_
  refine SeqC.next rfl rfl rfl rfl rfl rfl rfl (fun hcx => Runs.not rfl rfl) ?_
  refine SeqC.or rfl rfl rfl rfl rfl rfl rfl ?_
  refine Seq.val (Runs.move rfl rfl) rfl rfl rfl ?_
  refine SeqC.start ?_
  refine SeqC.open rfl rfl rfl rfl rfl rfl rfl (fun hcx => Runs.move rfl rfl) ?_
  refine SeqC.next rfl rfl rfl rfl rfl rfl rfl (fun hcx => Runs.not rfl rfl) ?_
  refine SeqC.or rfl rfl rfl rfl rfl rfl rfl ?_
  refine Seq.nil ?_
  refine Post.weak (F' := [(0, _), (1, _), (2, _), (3, _), (4, _), (5, _), (6, _), (7, _), (8, _), (9, _), (10, _), (11, _), (59, _)]) ⟨rfl, rfl, rfl, rfl, rfl, rfl, rfl, rfl, rfl, rfl, rfl, rfl, rfl, trivial⟩ ?_
  refine Post.then_ ?_
  refine Cd.condF rfl rfl ?_
  refine Cd.skip ?_
  refine Post.then_ ?_
  refine Cd.seq ?_
  refine Cd.region ?_
  refine Seq.val (Runs.move rfl rfl) rfl rfl rfl ?_
  refine Seq.val (Runs.move rfl rfl) rfl rfl rfl ?_
  refine Seq.val (Runs.move rfl rfl) rfl rfl rfl ?_
  refine Seq.val (Runs.fieldB 3 rfl rfl Try.underlying29 rfl (by kernel_rfl)) rfl rfl rfl ?_
  refine Seq.val (Runs.loadB rfl rfl Try.underlying27 rfl k2 rfl) rfl rfl rfl ?_
  have l2 := k2.lt
  have l3 := k3.lt
  have l4 := k4.lt
  refine Seq.call (Enters.func rfl rfl rfl (run_enter Try.func21 (by kernel_rfl) rfl)) rfl rfl rfl (clone_any c fl A fs _ ((hr.below (bel.mono hB)).more (Nat.le_trans hB bel.size)) h0 (by omega)) ?_
  rintro en w9 ⟨hb9, v, rfl, own⟩
  refine ⟨_, rfl, ?_⟩
  obtain ⟨g99, cap, pad, rfl, hBg, hncap, k99, hpad⟩ := own_blk own h0
  clear own
  have hbs := bel.size
  replace bel := bel.step hb9
  replace k2 := k2.step hb9
  replace k3 := k3.step hb9
  replace k4 := k4.step hb9
  refine Seq.val (Runs.build rfl rfl (run_build_ver4 _ _ _ _ _ _ _)) rfl rfl rfl ?_
  refine Seq.alloc rfl (run_zero zero_edit_Version) rfl rfl rfl ?_
  intro g12 w5 n12
  have e12 := Nat.le_trans bel.size n12.ge
  have l12 := Nat.lt_of_lt_of_le k99.lt n12.ge
  have l12_k2 := Nat.lt_of_lt_of_le k2.lt n12.ge
  have l12_k3 := Nat.lt_of_lt_of_le k3.lt n12.ge
  have l12_k4 := Nat.lt_of_lt_of_le k4.lt n12.ge
  replace bel := bel.step n12.below
  replace k2 := k2.step n12.below
  replace k3 := k3.step n12.below
  replace k4 := k4.step n12.below
  replace k99 := k99.step n12.below
  have k12 := n12.blk
  refine Seq.storeN rfl rfl rfl rfl (m := 4) (by kernel_rfl) rfl (by repeat' first | exact trivial | apply And.intro | rfl | assumption) k12 (by simp [Value.cells]) rfl rfl ?_
  intro w6 pw6
  replace bel := bel.put k12 pw6 e12
  replace k2 := k2.put pw6 (by omega)
  replace k3 := k3.put pw6 (by omega)
  replace k4 := k4.put pw6 (by omega)
  replace k99 := k99.put pw6 (by omega)
  replace k12 := pw6.blk
  refine Seq.nil ?_
  refine Post.weak (F' := [(0, _), (1, _), (2, _), (3, _), (4, _), (5, _), (6, _), (7, _), (8, _), (9, _), (10, _), (11, _), (12, _), (59, _)]) ⟨rfl, rfl, rfl, rfl, rfl, rfl, rfl, rfl, rfl, rfl, rfl, rfl, rfl, rfl, trivial⟩ ?_
  refine Post.then_ ?_
  refine Cd.seq ?_
  refine Cd.seq ?_
  refine Cd.region ?_
  refine Seq.val (Runs.fieldB 3 rfl rfl Try.underlying46 rfl (by kernel_rfl)) rfl rfl rfl ?_
  refine Seq.val (Runs.loadB rfl rfl Try.underlying31 rfl k3 rfl) rfl rfl rfl ?_
  refine Seq.val (Runs.len rfl rfl Try.underlying31) rfl rfl rfl ?_
  refine Seq.val (Runs.move rfl rfl) rfl rfl rfl ?_
  refine Seq.nil ?_
  refine Post.weak (F' := [(0, _), (1, _), (2, _), (3, _), (4, _), (5, _), (6, _), (7, _), (8, _), (9, _), (10, _), (11, _), (12, _), (59, _), (69, _), (70, _), (71, _)]) ⟨rfl, rfl, rfl, rfl, rfl, rfl, rfl, rfl, rfl, rfl, rfl, rfl, rfl, rfl, rfl, rfl, rfl, trivial⟩ ?_
  refine Post.then_ ?_
  refine Cd.block ?_
  replace k12 : Blk _ g12 29 #[.int .i64 lg, .int .i64 nx', .int .i64 sq, .slice (some ⟨g99, 0, none⟩) fl cap] := k12
  have l99 := k99.lt
  have l12b := k12.lt
  refine Cd.loop (σ := Nat × List Fl × List Value) (fun s => [(3, .pointer (some ⟨g3, 0, none⟩)), (4, .pointer (some ⟨g4, 0, none⟩)), (12, .pointer (some ⟨g12, 0, none⟩)), (69, .slice A2 dl cd), (70, .int .i64 (dl : Int)), (71, .int .i64 (s.1 : Int))])
    (fun s wr => s.1 ≤ dl ∧ Dr s.2.1 (drop.drop s.1) rem ∧ (∀ f ∈ s.2.1, f ∈ fs) ∧ s.2.1.length + s.1 = fl ∧ s.2.1.length * 6 + s.2.2.length = cap * 6 ∧ Below w.heap.size w wr ∧ Blk wr g3 46 #[.int .i64 (-1), .int .i64 nx', .int .i64 (-1), .slice A2 dl cd, .slice A3 1 ca] ∧ Blk wr g4 29 #[.int .i64 0, .int .i64 0, .int .i64 0, .slice none 0 0] ∧ Blk wr g12 29 #[.int .i64 lg, .int .i64 nx', .int .i64 sq, .slice (some ⟨g99, 0, none⟩) s.2.1.length cap] ∧ Blk wr g99 37 (fcs s.2.1 ++ s.2.2).toArray) (fun s => dl - s.1) (0, fs, pad) ⟨Nat.zero_le _, hdr, fun f h => h, by rw [hfl]; rfl, by rw [← hfl] at hpad ⊢; exact hpad, bel, k3, k4, by rw [← hfl]; exact k12, k99⟩ ⟨rfl, rfl, rfl, rfl, rfl, rfl, trivial⟩ ?_
  have hg99 : w.heap.size ≤ g99 := by omega
  have hn1 : g3 ≠ g99 := by omega
  have hn2 : g4 ≠ g99 := by omega
  have hn3 : g12 ≠ g99 := by omega
  clear bel k2 k3 k4 k99 k12
  clear pad hpad
  rintro ⟨k, q, pad⟩ wr ⟨hk, hdq, hqs, hql, hpad, bel, k3, k4, k12, k99⟩
  simp only at hk hdq hqs hql hpad k12 k99
  have l99' := k99.lt
  have hnsz := bel.size
  show Cd _ _ _ _ [(3, .pointer (some ⟨g3, 0, none⟩)), (4, .pointer (some ⟨g4, 0, none⟩)), (12, .pointer (some ⟨g12, 0, none⟩)), (69, .slice A2 dl cd), (70, .int .i64 (dl : Int)), (71, .int .i64 (k : Int))] _
  refine Cd.seq ?_
  refine Cd.region ?_
  refine Seq.val (Runs.lss rfl rfl rfl) rfl rfl rfl ?_
  refine Seq.nil ?_
  refine Post.weak (F' := [(3, _), (4, _), (12, _), (69, _), (70, _), (71, _), (72, _)]) ⟨rfl, rfl, rfl, rfl, rfl, rfl, rfl, trivial⟩ ?_
  refine Post.then_ ?_
  refine Cd.seq ?_
  refine Cd.condD rfl (fun hc => ?_) (fun hc => ?_)
  · obtain ⟨n, hn⟩ : ∃ n, drop[k]? = some n := ⟨_, List.getElem?_eq_getElem (show k < drop.length by omega)⟩
    rw [drop_head hn] at hdq
    obtain ⟨⟨f0, hf0, hf1⟩, hdq⟩ := hdq
    obtain ⟨f, X, Y, hX, hf, hq, her⟩ := List.exists_of_eraseP (p := fun f : Fl => decide (f.num = n)) hf0 hf1
    rw [her] at hdq
    have hXq : X.length < q.length := by rw [hq]; simp only [List.length_append, List.length_cons]; omega
    have hidx : idxP (fun f : Fl => decide (f.num = n)) q = (X.length : Int) := by
      refine idxP_some (x := f) (by rw [hq]; exact get_mid X f Y) hf fun y hy => ?_
      rw [hq, List.take_left] at hy
      simpa using hX y hy
    obtain ⟨adD, rfl, hbD, hcD⟩ := hrd.2 (by omega)
    have hcd := ((bel.mono hB).cell (p := adD.add k) (by rw [block_of_add]; exact hbD)).trans (hcD k (.int .i64 n) (by rw [get_DI, hn]; rfl))
    refine Cd.skip ?_
    refine Post.then_ ?_
    refine Cd.seq ?_
    refine Cd.block ?_
    refine Cd.seq ?_
    refine Cd.region ?_
    refine Seq.val (Runs.index1 rfl rfl rfl Try.underlying31 (by kernel_rfl) (j := k) rfl (by omega)) rfl rfl rfl ?_
    refine Seq.val (Runs.load1 rfl rfl Try.underlying3 rfl hcd) rfl rfl rfl ?_
    refine Seq.alloc rfl (run_zero zero_int) rfl rfl rfl ?_
    intro g14 w7 n14
    have e14 := Nat.le_trans bel.size n14.ge
    have l14 := Nat.lt_of_lt_of_le k12.lt n14.ge
    have l14_k3 := Nat.lt_of_lt_of_le k3.lt n14.ge
    have l14_k4 := Nat.lt_of_lt_of_le k4.lt n14.ge
    have l14_k99 := Nat.lt_of_lt_of_le k99.lt n14.ge
    replace bel := bel.step n14.below
    replace k3 := k3.step n14.below
    replace k4 := k4.step n14.below
    replace k99 := k99.step n14.below
    replace k12 := k12.step n14.below
    have k14 := n14.blk
    refine Seq.store1 rfl rfl rfl (by kernel_rfl) rfl rfl k14 rfl rfl rfl ?_
    intro w8 pw8
    replace bel := bel.put k14 pw8 e14
    replace k3 := k3.put pw8 (by omega)
    replace k4 := k4.put pw8 (by omega)
    replace k99 := k99.put pw8 (by omega)
    replace k12 := k12.put pw8 (by omega)
    replace k14 := pw8.blk
    refine Seq.nil ?_
    refine Post.weak (F' := [(3, _), (4, _), (12, _), (14, _), (69, _), (70, _), (71, _), (72, _)]) ⟨rfl, rfl, rfl, rfl, rfl, rfl, rfl, rfl, trivial⟩ ?_
    refine Post.then_ ?_
    refine Cd.seq ?_
    refine Cd.region ?_
    refine Seq.val (Runs.fieldB 3 rfl rfl Try.underlying29 rfl (by kernel_rfl)) rfl rfl rfl ?_
    refine Seq.val (Runs.loadB rfl rfl Try.underlying27 rfl k12 rfl) rfl rfl rfl ?_
    replace k14 : Blk _ g14 3 #[.int .i64 n] := k14
    refine Seq.val (Runs.makeFunc (v := .func (.func 23) #[] #[.pointer (some ⟨g14, 0, none⟩)]) rfl (show evL _ _ = some [] from rfl) (show evL _ _ = some [.pointer (some ⟨g14, 0, none⟩)] from rfl) rfl) rfl rfl rfl ?_
    refine Seq.call (Enters.func rfl rfl rfl (run_enter Try.func22 (by kernel_rfl) rfl)) rfl rfl rfl (indexF_any 23 [.pointer (some ⟨g14, 0, none⟩)] (fun f => decide (f.num = n)) _ (some ⟨g99, 0, none⟩) q.length cap q _ (reads_rw k99) (Nat.le_refl _) (by omega) eg_apply1 (fun f hf W hb => apply1_any f n g14 W (k14.step hb))) ?_
    rintro en w10 ⟨rfl, hb10⟩
    refine ⟨_, rfl, ?_⟩
    replace bel := bel.step hb10
    replace k3 := k3.step hb10
    replace k4 := k4.step hb10
    replace k99 := k99.step hb10
    replace k12 := k12.step hb10
    replace k14 := k14.step hb10
    rw [hidx]
    refine Seq.val (Runs.assign rfl rfl) rfl rfl rfl ?_
    refine Seq.nil ?_
    refine Post.weak (F' := [(3, _), (4, _), (12, _), (14, _), (15, _), (69, _), (70, _), (71, _), (72, _)]) ⟨rfl, rfl, rfl, rfl, rfl, rfl, rfl, rfl, rfl, trivial⟩ ?_
    refine Post.then_ ?_
    refine Cd.seq ?_
    refine Cd.seq ?_
    refine Cd.region ?_
    refine Seq.val (Runs.move rfl rfl) rfl rfl rfl ?_
    refine Seq.val (Runs.lss rfl rfl rfl) rfl rfl rfl ?_
    refine Seq.nil ?_
    refine Post.weak (F' := [(3, _), (4, _), (12, _), (14, _), (15, _), (69, _), (70, _), (71, _), (72, _), (80, _)]) ⟨rfl, rfl, rfl, rfl, rfl, rfl, rfl, rfl, rfl, rfl, trivial⟩ ?_
    refine Post.then_ ?_
    refine Cd.condF rfl (decide_eq_false (by omega)) ?_
    refine Cd.skip ?_
    refine Post.then_ ?_
    refine Cd.region ?_
    refine Seq.val (Runs.fieldB 3 rfl rfl Try.underlying29 rfl (by kernel_rfl)) rfl rfl rfl ?_
    refine Seq.val (Runs.loadB rfl rfl Try.underlying27 rfl k12 rfl) rfl rfl rfl ?_
    refine Seq.val (Runs.move rfl rfl) rfl rfl rfl ?_
    refine Seq.val (Runs.move rfl rfl) rfl rfl rfl ?_
    refine Seq.val (Runs.addI rfl rfl rfl (by omega) (by omega)) rfl rfl rfl ?_
    rw [hq] at k99 hpad hql
    have hXY : (X ++ Y).length + 1 = (X ++ f :: Y).length := by simp only [List.length_append, List.length_cons]; omega
    have hqc : (X ++ f :: Y).length ≤ cap := by omega
    rw [hq, show (X.length : Int) + 1 = ((X.length + 1 : Nat) : Int) by omega]
    refine Seq.call (Enters.func rfl rfl rfl (run_enter Try.func24 (by kernel_rfl) rfl)) rfl rfl rfl (delete_any g99 cap (X ++ f :: Y).length X.length X Y f pad _ rfl rfl hqc k99 hpad) ?_
    rintro en w11 ⟨pad', rfl, kz, hpad', oz⟩
    refine ⟨_, rfl, ?_⟩
    have bel2 := bel.trans (only_to_below oz.row hg99 k99.lt)
    have k3' := k3.grown oz.row (fun e => by injection e with e; exact hn1 e)
    have k4' := k4.grown oz.row (fun e => by injection e with e; exact hn2 e)
    have k12' := k12.grown oz.row (fun e => by injection e with e; exact hn3 e)
    clear bel k3 k4 k12 k99 k14
    have bel := bel2
    have k3 := k3'
    have k4 := k4'
    have k12 := k12'
    have k99 := kz
    clear bel2 k3' k4' k12' kz
    refine Seq.val (Runs.fieldB 3 rfl rfl Try.underlying29 rfl (by kernel_rfl)) rfl rfl rfl ?_
    refine Seq.store1 rfl rfl rfl (by kernel_rfl) rfl rfl k12 rfl rfl rfl ?_
    intro w9 pw9
    replace bel := bel.put k12 pw9 e12
    replace k3 := k3.put pw9 (by omega)
    replace k4 := k4.put pw9 (by omega)
    replace k99 := k99.put pw9 (by omega)
    replace k12 := pw9.blk
    refine Seq.nil ?_
    refine Post.weak (F' := [(3, _), (4, _), (12, _), (14, _), (15, _), (69, _), (70, _), (71, _), (72, _), (80, _)]) ⟨rfl, rfl, rfl, rfl, rfl, rfl, rfl, rfl, rfl, rfl, trivial⟩ ?_
    refine Post.block_normal ?_
    refine Post.then_ ?_
    refine Cd.region ?_
    refine Seq.val (Runs.addI rfl rfl rfl (by omega) (by omega)) rfl rfl rfl ?_
    refine Seq.val (Runs.move rfl rfl) rfl rfl rfl ?_
    refine Seq.nil ?_
    refine Post.weak (F' := [(3, _), (4, _), (12, _), (14, _), (15, _), (69, _), (70, _), (71, _), (72, _), (80, _)]) ⟨rfl, rfl, rfl, rfl, rfl, rfl, rfl, rfl, rfl, rfl, trivial⟩ ?_
    replace k12 : Blk _ g12 29 #[.int .i64 lg, .int .i64 nx', .int .i64 sq, .slice (some ⟨g99, 0, none⟩) (X ++ Y).length cap] := k12
    exact Post.round (k + 1, X ++ Y, pad') ⟨rfl, rfl, rfl, rfl, rfl, int_at (by simp only; omega), trivial⟩ ⟨by simp only; omega, hdq, fun y hy => hqs y (by rw [hq]; rcases List.mem_append.1 hy with h | h; exact List.mem_append_left _ h; exact List.mem_append_right _ (List.mem_cons_of_mem _ h)), by simp only; omega, hpad', bel, k3, k4, k12, k99⟩ (by simp only; omega)
  · obtain rfl : k = dl := by omega
    rw [List.drop_of_length_le (by omega)] at hdq
    obtain rfl : q = rem := hdq
    obtain ⟨ad3, rfl, hb3, hc3⟩ := hrx.2 (by omega)
    have hc3 := fun j u hu => ((bel.mono hB).cell (p := ad3.add j) (by rw [block_of_add]; exact hb3)).trans (hc3 j u hu)
    refine Cd.exit ?_
    refine Post.then_exit ?_
    refine Post.round_exit ?_
    refine Post.block_exit ?_
    refine Post.then_ ?_
    refine Cd.seq ?_
    refine Cd.region ?_
    refine Seq.val (Runs.fieldB 3 rfl rfl Try.underlying29 rfl (by kernel_rfl)) rfl rfl rfl ?_
    refine Seq.val (Runs.loadB rfl rfl Try.underlying27 rfl k12 rfl) rfl rfl rfl ?_
    refine Seq.val (Runs.fieldB 4 rfl rfl Try.underlying46 rfl (by kernel_rfl)) rfl rfl rfl ?_
    refine Seq.val (Runs.loadB rfl rfl Try.underlying27 rfl k3 rfl) rfl rfl rfl ?_
    have hx6 : (fcs [x]).length = 1 * 6 := fcs_len [x]
    have hq6 : (fcs q).length = q.length * 6 := fcs_len q
    refine Seq.appendRoom (size := 6) (news := fcs [x]) (m := 1) rfl rfl rfl Try.underlying27 (by kernel_rfl) k99 hx6 (fun h => by cases h) (fun a ha j u hu => ?_) (ones_fcs [x]) (by omega) ?_ rfl rfl rfl ?_
    · injection ha with ha
      subst ha
      exact hc3 j u hu
    · show q.length * 6 + (fcs [x]).length ≤ (fcs q ++ pad).length
      rw [List.length_append]
      omega
    intro wz kz oz
    obtain ⟨pad2, hp2⟩ : ∃ p, p = (fcs q ++ pad).drop (q.length * 6 + (fcs [x]).length) := ⟨_, rfl⟩
    have kz' : Blk wz g99 37 (fcs (q ++ [x]) ++ pad2).toArray := by
      have e1 : ((fcs q ++ pad).toArray.toList.take (q.length * 6) ++ fcs [x] ++ (fcs q ++ pad).toArray.toList.drop (q.length * 6 + (fcs [x]).length)).toArray = (fcs (q ++ [x]) ++ pad2).toArray := by
        congr 1
        show (fcs q ++ pad).take (q.length * 6) ++ fcs [x] ++ (fcs q ++ pad).drop (q.length * 6 + (fcs [x]).length) = _
        rw [List.take_left' hq6, ← hp2, fcs_append]
      rw [e1] at kz
      exact kz
    have bel2 := bel.trans (only_to_below oz hg99 k99.lt)
    have k3' := k3.grown oz (fun e => by injection e with e; exact hn1 e)
    have k4' := k4.grown oz (fun e => by injection e with e; exact hn2 e)
    have k12' := k12.grown oz (fun e => by injection e with e; exact hn3 e)
    clear bel k3 k4 k12 k99 kz
    have bel := bel2
    have k3 := k3'
    have k4 := k4'
    have k12 := k12'
    have k99 := kz'
    clear bel2 k3' k4' k12' kz' oz
    refine Seq.val (Runs.fieldB 3 rfl rfl Try.underlying29 rfl (by kernel_rfl)) rfl rfl rfl ?_
    refine Seq.store1 rfl rfl rfl (by kernel_rfl) rfl rfl k12 rfl rfl rfl ?_
    intro w7 pw7
    replace bel := bel.put k12 pw7 e12
    replace k3 := k3.put pw7 (by omega)
    replace k4 := k4.put pw7 (by omega)
    replace k99 := k99.put pw7 (by omega)
    replace k12 := pw7.blk
    refine Seq.nil ?_
    refine Post.weak (F' := [(3, _), (4, _), (12, _), (69, _), (70, _), (71, _), (72, _)]) ⟨rfl, rfl, rfl, rfl, rfl, rfl, rfl, trivial⟩ ?_
    refine Post.then_ ?_
    refine Cd.seq ?_
    refine Cd.region ?_
    refine Seq.val (Runs.fieldB 3 rfl rfl Try.underlying29 rfl (by kernel_rfl)) rfl rfl rfl ?_
    refine Seq.val (Runs.loadB rfl rfl Try.underlying27 rfl k12 rfl) rfl rfl rfl ?_
    replace k12 : Blk _ g12 29 #[.int .i64 lg, .int .i64 nx', .int .i64 sq, .slice (some ⟨g99, 0, none⟩) (q.length + 1) cap] := k12
    have hqx : (q ++ [x]).length = q.length + 1 := by simp
    refine Seq.call (Enters.func rfl rfl rfl (run_enter Try.func25 (by kernel_rfl) rfl)) rfl rfl rfl (sortF_any g99 cap (q.length + 1) (q ++ [x]) pad2 _ hqx.symm (by omega) k99) ?_
    rintro en w12 ⟨M, rfl, hMp, hMs, kz, oz⟩
    refine ⟨_, rfl, ?_⟩
    have bel2 := bel.trans (only_to_below oz.row hg99 k99.lt)
    have k3' := k3.grown oz.row (fun e => by injection e with e; exact hn1 e)
    have k4' := k4.grown oz.row (fun e => by injection e with e; exact hn2 e)
    have k12' := k12.grown oz.row (fun e => by injection e with e; exact hn3 e)
    clear bel k3 k4 k12 k99
    have bel := bel2
    have k3 := k3'
    have k4 := k4'
    have k12 := k12'
    have k99 := kz
    clear bel2 k3' k4' k12' kz oz
    have hMl : M.length = q.length + 1 := by rw [hMp.length_eq]; exact hqx
    have hMr := hfin M hMp hMs
    have hMok : ∀ f ∈ M, f.ok := fun f hf => by
      rcases List.mem_append.1 (hMp.subset hf) with h | h
      · exact hok f (hqs f h)
      · simp at h; subst h; exact hxok
    have hrR := fun W (k : Blk W g99 37 (fcs M ++ pad2).toArray) => right_any lg nx' sq W.heap.size (some ⟨g99, 0, none⟩) cap M W (reads_rw k) (Nat.le_refl _) hMok (by omega)
    rw [hMr, hMl] at hrR
    refine Seq.nil ?_
    refine Post.weak (F' := [(3, _), (4, _), (12, _), (69, _), (70, _), (71, _), (72, _)]) ⟨rfl, rfl, rfl, rfl, rfl, rfl, rfl, trivial⟩ ?_
    refine Post.then_ ?_
    refine Cd.seq ?_
    refine Cd.seq ?_
    refine Cd.region ?_
    refine Seq.val (Runs.loadW rfl rfl Try.underlying29 rfl k12 (m := 4) (by kernel_rfl) rfl) rfl rfl rfl ?_
    refine Seq.call (Enters.func rfl rfl rfl (run_enter Try.func19 (by kernel_rfl) rfl)) rfl rfl rfl (hrR _ k99) ?_
    rintro en w13 ⟨rfl, hb13⟩
    refine ⟨_, rfl, ?_⟩
    replace bel := bel.step hb13
    replace k3 := k3.step hb13
    replace k4 := k4.step hb13
    replace k99 := k99.step hb13
    replace k12 := k12.step hb13
    refine Seq.val (Runs.not rfl rfl) rfl rfl rfl ?_
    refine Seq.nil ?_
    refine Post.weak (F' := [(3, _), (4, _), (12, _), (69, _), (70, _), (71, _), (72, _), (101, _)]) ⟨rfl, rfl, rfl, rfl, rfl, rfl, rfl, rfl, trivial⟩ ?_
    refine Post.then_ ?_
    refine Cd.condF rfl rfl ?_
    refine Cd.skip ?_
    refine Post.then_ ?_
    refine Cd.seq ?_
    refine Cd.region ?_
    refine Seq.val (Runs.loadW rfl rfl Try.underlying29 rfl k12 (m := 4) (by kernel_rfl) rfl) rfl rfl rfl ?_
    refine Seq.storeN rfl rfl rfl rfl (m := 4) (by kernel_rfl) rfl (by repeat' first | exact trivial | apply And.intro | rfl | assumption) k4 (by simp [Value.cells]) rfl rfl ?_
    intro w8 pw8
    replace bel := bel.put k4 pw8 e4
    replace k3 := k3.put pw8 (by omega)
    replace k99 := k99.put pw8 (by omega)
    replace k12 := k12.put pw8 (by omega)
    replace k4 := pw8.blk
    refine Seq.val (Runs.assign rfl rfl) rfl rfl rfl ?_
    refine Seq.nil ?_
    refine Post.weak (F' := [(3, _), (4, _), (5, _), (12, _), (69, _), (70, _), (71, _), (72, _), (101, _)]) ⟨rfl, rfl, rfl, rfl, rfl, rfl, rfl, rfl, rfl, trivial⟩ ?_
    refine Post.then_ ?_
    refine Cd.ret ?_
    refine Post.endC2 rfl rfl rfl k4 Try.underlying29 rfl (m := 4) (by kernel_rfl) rfl (.inl rfl) ?_
    exact ⟨bel, _, _, rfl⟩
end Go.Proofs.Ythcimkhnijnmgaa

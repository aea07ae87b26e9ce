/-
  edit.Right: what it answers. Condition: the files are within reach.
-/
import Derived.Test.YthcimkhnijnmgaaEditD
namespace Go.Proofs.Ythcimkhnijnmgaa
open Go.RowKit

section
variable {P : Program} {E : Operand → Option Value} {o : Oper} {w : World} {x y : Operand} {T : TypeId}
theorem addr_zero (ad : Addr) : ad.add 0 = ad := by unfold Addr.add; simp
theorem Runs.sliceN {k : IntKind} {A : Option Addr} {n c e s j : Nat} {p : Int} (ho : o.op = .slice T x none (some y) none) (hx : E x = some (.slice A n c)) (hy : E y = some (.int k p)) (hT : P.underlying T = some (.slice e)) (hs : sizeIs P e s = true) (hp : p = (j : Int)) (hj : j ≤ c) : Runs P E o w (.slice A j c) w := fun ρ h => by
  subst hp
  have he : P.elem T = e := by simp [Program.elem, hT]
  have hT' : P.underlying T = some (.slice (P.elem T)) := by rw [he]; exact hT
  obtain ⟨i, hi, hsz⟩ := sizeIs_spec hs
  have h1 := run_slice_h (P := P) (w := w) T A n c hT' k (j : Int) (by omega) (by omega)
  rw [he, run_sizeOf (h := hi)] at h1
  unfold execOp; simp only [ho, Option.map_some, Option.map_none]; rw [h _ _ hx, h _ _ hy]
  simp only [Sem.run_bind, run_sliceAt_slice (h := hT'), h1, Result.andThen_ok]
  have h2 : sliced A 0 j c (P.cellsOf e) = .slice A j c := by
    unfold sliced
    congr 1
    split
    · rfl
    · cases A <;> simp [addr_zero]
  rw [Int.toNat_natCast, h2]
  rfl
end
theorem eg_within : ∀ args w, (callFunc 34 args).run Try.prog w = .ok (.enter 34 args) w := fun args w => run_enter Try.func34 (by kernel_rfl) rfl args w
theorem zero_edit_File : zeroIs Try.prog 37 = some (some (.agg #[.int .i64 0, .int .i64 0, .string { data := #[] }, .string { data := #[] }, .int .i64 0, .int .i64 0])) := by kernel_rfl
def goodB (f : Fl) (nx : Int) (prev : Option Fl) : Bool := mayB f && decide (f.num < nx) && (match prev with | none => true | some g => decide (ordB g f < 0))
def clashB (f g : Fl) : Bool := decide (f.num = g.num) || (decide (f.level = g.level) && decide (0 < f.level) && ovB f g)
def rightFiles (nx : Int) : Nat → List Fl → Bool
  | 0, _ => true
  | k + 1, fs => rightFiles nx k fs && (match fs[k]? with | none => true | some f => goodB f nx (if k = 0 then none else fs[k - 1]?) && !((fs.take k).any (clashB f)))
def rightB (lg nx sq : Int) (fs : List Fl) : Bool := (decide (0 ≤ lg) && decide (lg ≤ 999999)) && (decide (0 ≤ nx) && decide (nx ≤ 999999)) && (decide (0 ≤ sq) && decide (sq ≤ 4611686018427387904)) && decide (fs.length ≤ 100) && rightFiles nx fs.length fs
theorem rightFiles_succ {nx : Int} {k : Nat} {fs : List Fl} {f : Fl} (hf : fs[k]? = some f) : rightFiles nx (k + 1) fs = (rightFiles nx k fs && (goodB f nx (if k = 0 then none else fs[k - 1]?) && !((fs.take k).any (clashB f)))) := by
  rw [rightFiles, hf]
theorem rightFiles_mono {nx : Int} {fs : List Fl} {k : Nat} : ∀ j, rightFiles nx (k + j) fs = true → rightFiles nx k fs = true := by
  intro j
  induction j with
  | zero => exact id
  | succ j ih =>
    intro h
    rw [← Nat.add_assoc, rightFiles] at h
    simp only [Bool.and_eq_true] at h
    exact ih h.1
theorem rightFiles_no {nx : Int} {fs : List Fl} {k : Nat} (hk : k < fs.length) (h : rightFiles nx (k + 1) fs = false) : rightFiles nx fs.length fs = false := by
  rw [Bool.eq_false_iff]
  intro h2
  have := rightFiles_mono (k := k + 1) (fs.length - (k + 1)) (by rw [show k + 1 + (fs.length - (k + 1)) = fs.length by omega]; exact h2)
  rw [h] at this
  cases this
set_option maxHeartbeats 1000000 in
theorem right_any (lg nx sq : Int) (B : Nat) (A : Option Addr) (cap : Nat) (fs : List Fl) (w : World) (hr : Reads w B 6 A fs.length (fcs fs)) (hB : B ≤ w.heap.size) (hok : ∀ f ∈ fs, f.ok) (hcap : fs.length ≤ cap) :
    Calls Try.prog 19 #[.agg #[.int .i64 lg, .int .i64 nx, .int .i64 sq, .slice A fs.length cap]] w fun e w' => e = .returned (.bool (rightB lg nx sq fs)) ∧ Grow w w' := by
  have bel := Below.refl w.heap.size w
  refine Calls.start 99 Try.func19 rfl rfl rfl ?_
  refine Cd.seq ?_
  refine Cd.region ?_
  refine Seq.box rfl rfl rfl rfl rfl ?_
  intro g1 w1 n1
  have e1 := Nat.le_trans bel.size n1.ge
  replace bel := bel.step n1.below
  have k1 := n1.blk
  refine Seq.val (Runs.assign rfl rfl) rfl rfl rfl ?_
  refine Seq.nil ?_
  refine Post.weak (F' := [(0, _), (1, _), (2, _)]) ⟨rfl, rfl, rfl, trivial⟩ ?_
  refine Post.then_ ?_
  refine Cd.seq ?_
  refine Cd.region ?_
  refine Seq.val (Runs.assign rfl rfl) rfl rfl rfl ?_
  refine Seq.nil ?_
  refine Post.weak (F' := [(0, _), (1, _), (2, _), (3, _)]) ⟨rfl, rfl, rfl, rfl, trivial⟩ ?_
  refine Post.then_ ?_
  refine Cd.seq ?_
  refine Cd.seq ?_
  refine Cd.region ?_
  refine Seq.val (Runs.move rfl rfl) rfl rfl rfl ?_
  refine Seq.val (Runs.fieldB 0 rfl rfl Try.underlying29 rfl (by kernel_rfl)) rfl rfl rfl ?_
  refine Seq.val (Runs.loadB rfl rfl Try.underlying3 rfl k1 rfl) rfl rfl rfl ?_
  refine Seq.call (Enters.value (first := []) (cap := []) rfl rfl rfl eg_within) rfl rfl rfl (within_any lg 999999 _) ?_
  rintro e w2 ⟨rfl, hb2⟩
  refine ⟨_, rfl, ?_⟩
  replace bel := bel.step hb2
  replace k1 := k1.step hb2
  refine Seq.val (Runs.not rfl rfl) rfl rfl rfl ?_
  refine Seq.val (Runs.move rfl rfl) rfl rfl rfl ?_
  refine SeqC.start ?_
  refine SeqC.open rfl rfl rfl rfl rfl rfl rfl (fun hcx => Runs.move rfl rfl) ?_
  refine SeqC.next rfl rfl rfl rfl rfl rfl rfl (fun hcx => Runs.fieldB 1 rfl rfl Try.underlying29 rfl (by kernel_rfl)) ?_
  refine SeqC.next rfl rfl rfl rfl rfl rfl rfl (fun hcx => Runs.loadB rfl rfl Try.underlying3 rfl k1 rfl) ?_
  refine SeqC.nextC rfl rfl rfl rfl rfl rfl rfl (fun hcx => Enters.value (first := []) (cap := []) rfl rfl rfl eg_within) (fun hcx => within_any nx 999999 _) ?_
  intro w2 hw2
  replace bel := bel.step hw2
  replace k1 := k1.step hw2
  refine SeqC.next rfl rfl rfl rfl rfl rfl rfl (fun hcx => Runs.not rfl rfl) ?_
  refine SeqC.or rfl rfl rfl rfl rfl rfl rfl ?_
  refine Seq.val (Runs.move rfl rfl) rfl rfl rfl ?_
  refine SeqC.start ?_
  refine SeqC.open rfl rfl rfl rfl rfl rfl rfl (fun hcx => Runs.move rfl rfl) ?_
  refine SeqC.next rfl rfl rfl rfl rfl rfl rfl (fun hcx => Runs.fieldB 2 rfl rfl Try.underlying29 rfl (by kernel_rfl)) ?_
  refine SeqC.next rfl rfl rfl rfl rfl rfl rfl (fun hcx => Runs.loadB rfl rfl Try.underlying3 rfl k1 rfl) ?_
  refine SeqC.nextC rfl rfl rfl rfl rfl rfl rfl (fun hcx => Enters.value (first := []) (cap := []) rfl rfl rfl eg_within) (fun hcx => within_any sq 4611686018427387904 _) ?_
  intro w3 hw3
  replace bel := bel.step hw3
  replace k1 := k1.step hw3
  refine SeqC.next rfl rfl rfl rfl rfl rfl rfl (fun hcx => Runs.not rfl rfl) ?_
  refine SeqC.or rfl rfl rfl rfl rfl rfl rfl ?_
  refine Seq.val (Runs.move rfl rfl) rfl rfl rfl ?_
  refine SeqC.start ?_
  refine SeqC.open rfl rfl rfl rfl rfl rfl rfl (fun hcx => Runs.fieldB 3 rfl rfl Try.underlying29 rfl (by kernel_rfl)) ?_
  refine SeqC.next rfl rfl rfl rfl rfl rfl rfl (fun hcx => Runs.loadB rfl rfl Try.underlying27 rfl k1 rfl) ?_
  refine SeqC.next rfl rfl rfl rfl rfl rfl rfl (fun hcx => Runs.len rfl rfl Try.underlying27) ?_
  refine SeqC.next rfl rfl rfl rfl rfl rfl rfl (fun hcx => Runs.gtr rfl rfl rfl) ?_
  refine SeqC.or rfl rfl rfl rfl rfl rfl rfl ?_
  refine Seq.nil ?_
  refine Post.weak (F' := [(0, _), (1, _), (2, _), (3, _), (32, _)]) ⟨rfl, rfl, rfl, rfl, rfl, trivial⟩ ?_
  refine Post.then_ ?_
  refine Cd.cond rfl (fun h => ?_) (fun h => ?_)
  · skip
    refine Cd.seq ?_
    refine Cd.region ?_
    refine Seq.val (Runs.assign rfl rfl) rfl rfl rfl ?_
    refine Seq.nil ?_
    refine Post.weak (F' := [(0, _), (1, _), (2, _), (3, _), (32, _)]) ⟨rfl, rfl, rfl, rfl, rfl, trivial⟩ ?_
    refine Post.then_ ?_
    refine Cd.ret ?_
    refine Post.then_ret ?_
    refine Post.end1 rfl rfl (.inl rfl) ?_
    refine ⟨ret1 (bool_eq ?_), bel⟩
    symm
    rw [Bool.eq_false_iff]
    intro h2
    unfold rightB at h2
    simp at h h2
    omega
  have hsc : (decide (0 ≤ lg) && decide (lg ≤ 999999)) = true ∧ (decide (0 ≤ nx) && decide (nx ≤ 999999)) = true ∧ (decide (0 ≤ sq) && decide (sq ≤ 4611686018427387904)) = true ∧ fs.length ≤ 100 := by simp at h ⊢; omega
  have hrb : rightB lg nx sq fs = rightFiles nx fs.length fs := by unfold rightB; rw [hsc.1, hsc.2.1, hsc.2.2.1, decide_eq_true hsc.2.2.2]; simp
  have hn := hsc.2.2.2
  rw [hrb]
  clear h hsc hrb
  refine Cd.skip ?_
  refine Post.then_ ?_
  refine Cd.seq ?_
  refine Cd.seq ?_
  refine Cd.region ?_
  refine Seq.val (Runs.fieldB 3 rfl rfl Try.underlying29 rfl (by kernel_rfl)) rfl rfl rfl ?_
  refine Seq.val (Runs.loadB rfl rfl Try.underlying27 rfl k1 rfl) rfl rfl rfl ?_
  refine Seq.val (Runs.len rfl rfl Try.underlying27) rfl rfl rfl ?_
  refine Seq.val (Runs.move rfl rfl) rfl rfl rfl ?_
  refine Seq.nil ?_
  refine Post.weak (F' := [(0, _), (1, _), (2, _), (3, _), (32, _), (34, _), (35, _), (36, _)]) ⟨rfl, rfl, rfl, rfl, rfl, rfl, rfl, rfl, trivial⟩ ?_
  refine Post.then_ ?_
  refine Cd.block ?_
  refine Cd.loop (σ := Nat) (fun k => [(1, .pointer (some ⟨g1, 0, none⟩)), (34, .slice A fs.length cap), (35, .int .i64 (fs.length : Int)), (36, .int .i64 (k : Int))])
    (fun k wr => k ≤ fs.length ∧ rightFiles nx k fs = true ∧ Below w.heap.size w wr ∧ Blk wr g1 29 #[.int .i64 lg, .int .i64 nx, .int .i64 sq, .slice A fs.length cap]) (fun k => fs.length - k) 0 ⟨Nat.zero_le _, rfl, bel, k1⟩ ⟨rfl, rfl, rfl, rfl, trivial⟩ ?_
  clear bel k1
  rintro k wr ⟨hk, hrt, bel, k1⟩
  refine Cd.seq ?_
  refine Cd.region ?_
  refine Seq.val (Runs.lss rfl rfl rfl) rfl rfl rfl ?_
  refine Seq.nil ?_
  refine Post.weak (F' := [(1, _), (34, _), (35, _), (36, _), (37, _)]) ⟨rfl, rfl, rfl, rfl, rfl, trivial⟩ ?_
  refine Post.then_ ?_
  refine Cd.seq ?_
  refine Cd.condD rfl (fun hc => ?_) (fun hc => ?_)
  · obtain ⟨f, hf⟩ : ∃ f, fs[k]? = some f := ⟨_, List.getElem?_eq_getElem (show k < fs.length by omega)⟩
    obtain ⟨ad, rfl, hbl, hin, hcf⟩ := hr.fl (bel.mono hB) hf
    have hfo := hok f (List.mem_of_getElem? hf)
    have hsu := rightFiles_succ (nx := nx) hf
    rw [hrt, Bool.true_and] at hsu
    have hno := rightFiles_no (nx := nx) (fs := fs) hin
    refine Cd.skip ?_
    refine Post.then_ ?_
    refine Cd.seq ?_
    refine Cd.block ?_
    refine Cd.seq ?_
    refine Cd.region ?_
    refine Seq.val (Runs.move rfl rfl) rfl rfl rfl ?_
    refine Seq.val (Runs.indexN rfl rfl rfl Try.underlying27 (s := 6) (by kernel_rfl) (j := k) rfl (by omega)) rfl rfl rfl ?_
    refine Seq.val (Runs.loadF (ps := [.int .i64 f.num, .int .i64 f.level, .string (strOf f.first), .string (strOf f.last), .int .i64 f.count, .int .i64 f.size]) rfl rfl Try.underlying37 rfl (m := 6) (by kernel_rfl) rfl hcf) rfl rfl rfl ?_
    refine Seq.alloc rfl (run_zero zero_edit_File) rfl rfl rfl ?_
    intro g5 w4 n5
    have e5 := Nat.le_trans bel.size n5.ge
    have l5 := Nat.lt_of_lt_of_le k1.lt n5.ge
    replace bel := bel.step n5.below
    replace k1 := k1.step n5.below
    have k5 := n5.blk
    refine Seq.val (Runs.assign rfl rfl) rfl rfl rfl ?_
    refine Seq.storeN rfl rfl rfl rfl (m := 6) (by kernel_rfl) rfl (by repeat' first | exact trivial | apply And.intro | rfl | assumption) k5 (by simp [Value.cells]) rfl rfl ?_
    intro w5 pw5
    replace bel := bel.put k5 pw5 e5
    replace k1 := k1.put pw5 (by omega)
    replace k5 := pw5.blk
    refine Seq.nil ?_
    refine Post.weak (F' := [(1, _), (4, _), (5, _), (34, _), (35, _), (36, _), (37, _)]) ⟨rfl, rfl, rfl, rfl, rfl, rfl, rfl, trivial⟩ ?_
    refine Post.then_ ?_
    refine Cd.seqJ (σ := Unit) (fun _ => [(1, .pointer (some ⟨g1, 0, none⟩)), (4, .int .i64 (k : Int)), (5, .pointer (some ⟨g5, 0, none⟩)), (34, .slice (some ad) fs.length cap), (35, .int .i64 (fs.length : Int)), (36, .int .i64 (k : Int))]) (fun _ wr' => goodB f nx (if k = 0 then none else fs[k - 1]?) = true ∧ Below w.heap.size w wr' ∧ Blk wr' g1 29 #[.int .i64 lg, .int .i64 nx, .int .i64 sq, .slice (some ad) fs.length cap] ∧ Blk wr' g5 37 f.cs) ?_ ?_
    · skip
      refine Cd.seq ?_
      have hmay := fun W => may_any f W hfo
      have hbad : goodB f nx (if k = 0 then none else fs[k - 1]?) = false → rightFiles nx fs.length fs = false := fun h => hno (by rw [hsu, h]; rfl)
      have hgd : goodB f nx (if k = 0 then none else fs[k - 1]?) = (mayB f && decide (f.num < nx) && (match (if k = 0 then none else fs[k - 1]?) with | none => true | some g => decide (ordB g f < 0))) := rfl
      cases hm : mayB f with
      | false =>
        rw [hbad (by rw [hgd, hm]; rfl)]
        simp only [hm] at hmay
        refine Cd.draw 25 (by kernel_rfl) [] (.inl rfl) rfl Grow Grow.refl (fun _ _ _ => Grow.trans) ?_
        intro w6 hw6 zw6
        replace bel := bel.step hw6
        replace k1 := k1.step hw6
        replace k5 := k5.step hw6
        have zbel := bel.size
        have zlt := k5.lt
        refine Dr.val Grow.refl rfl (fun w hG => Runs.loadW rfl rfl Try.underlying37 rfl (k5.step hG) (m := 6) (by kernel_rfl) rfl) rfl ?_
        refine Dr.callV rfl (fun w => Enters.func rfl rfl rfl (run_enter Try.func35 (by kernel_rfl) rfl)) rfl (fun w hG => hmay _) ?_
        refine Dr.val Grow.refl rfl (fun w hG => Runs.not rfl rfl) rfl ?_
        refine Dr.val Grow.refl rfl (fun w hG => Runs.move rfl rfl) rfl ?_
        refine Dr.skip rfl rfl rfl rfl rfl ?_
        refine Dr.skip rfl rfl rfl rfl rfl ?_
        refine Dr.skip rfl rfl rfl rfl rfl ?_
        refine Dr.skip rfl rfl rfl rfl rfl ?_
        refine Dr.skip rfl rfl rfl rfl rfl ?_
        refine Dr.val Grow.refl rfl (fun w hG => Runs.pickT rfl rfl rfl) rfl ?_
        refine Dr.val Grow.refl rfl (fun w hG => Runs.move rfl rfl) rfl ?_
        refine Dr.skip rfl rfl rfl rfl rfl ?_
        refine Dr.skip rfl rfl rfl rfl rfl ?_
        refine Dr.skip rfl rfl rfl rfl rfl ?_
        refine Dr.skipU rfl rfl rfl rfl ?_
        refine Dr.skipU rfl rfl rfl rfl ?_
        refine Dr.skipU rfl rfl rfl rfl ?_
        refine Dr.skipU rfl rfl rfl rfl ?_
        refine Dr.skipU rfl rfl rfl rfl ?_
        refine Dr.skipU rfl rfl rfl rfl ?_
        refine Dr.skipU rfl rfl rfl rfl ?_
        refine Dr.skipU rfl rfl rfl rfl ?_
        refine Dr.skipU rfl rfl rfl rfl ?_
        refine Dr.skip rfl rfl rfl rfl rfl ?_
        refine Dr.val Grow.refl rfl (fun w hG => Runs.pickT rfl rfl rfl) rfl ?_
        refine Dr.nil ?_
        refine FinX.done (F' := [(1, _), (4, _), (5, _), (34, _), (35, _), (36, _), (37, _), (65, _)]) rfl ⟨rfl, rfl, rfl, rfl, rfl, rfl, rfl, rfl, trivial⟩ ?_
        intro w7 hw7 fw7
        replace bel := bel.step hw7
        replace k1 := k1.step hw7
        replace k5 := k5.step hw7
        refine Seq.nil ?_
        refine Post.weak (F' := [(1, _), (4, _), (5, _), (34, _), (35, _), (36, _), (37, _), (65, _)]) ⟨rfl, rfl, rfl, rfl, rfl, rfl, rfl, rfl, trivial⟩ ?_
        refine Post.then_ ?_
        refine Cd.condT rfl rfl ?_
        refine Cd.seq ?_
        refine Cd.region ?_
        refine Seq.val (Runs.assign rfl rfl) rfl rfl rfl ?_
        refine Seq.nil ?_
        refine Post.weak (F' := [(1, _), (2, _), (4, _), (5, _), (34, _), (35, _), (36, _), (37, _), (65, _)]) ⟨rfl, rfl, rfl, rfl, rfl, rfl, rfl, rfl, rfl, trivial⟩ ?_
        refine Post.then_ ?_
        refine Cd.ret ?_
        refine Post.then_ret ?_
        refine Post.block_ret ?_
        refine Post.then_ret ?_
        refine Post.round_ret ?_
        refine Post.block_ret ?_
        refine Post.then_ret ?_
        refine Post.end1 rfl rfl (.inl rfl) ?_
        exact ⟨rfl, bel⟩
      | true =>
        simp only [hm] at hmay
        by_cases hlt : f.num < nx
        · by_cases hk0 : k = 0
          · skip
            refine Cd.draw 25 (by kernel_rfl) [] (.inl rfl) rfl Grow Grow.refl (fun _ _ _ => Grow.trans) ?_
            intro w6 hw6 zw6
            replace bel := bel.step hw6
            replace k1 := k1.step hw6
            replace k5 := k5.step hw6
            have zbel := bel.size
            have zlt := k5.lt
            refine Dr.val Grow.refl rfl (fun w hG => Runs.loadW rfl rfl Try.underlying37 rfl (k5.step hG) (m := 6) (by kernel_rfl) rfl) rfl ?_
            refine Dr.callV rfl (fun w => Enters.func rfl rfl rfl (run_enter Try.func35 (by kernel_rfl) rfl)) rfl (fun w hG => hmay _) ?_
            refine Dr.val Grow.refl rfl (fun w hG => Runs.not rfl rfl) rfl ?_
            refine Dr.val Grow.refl rfl (fun w hG => Runs.move rfl rfl) rfl ?_
            refine Dr.valG Grow.refl rfl (fun w hG => Runs.fieldB 0 rfl rfl Try.underlying37 rfl (by kernel_rfl)) rfl rfl rfl ?_
            refine Dr.valG Grow.refl rfl (fun w hG => Runs.loadB rfl rfl Try.underlying3 rfl (k5.step hG) rfl) rfl rfl rfl ?_
            refine Dr.valG Grow.refl rfl (fun w hG => Runs.fieldB 1 rfl rfl Try.underlying29 rfl (by kernel_rfl)) rfl rfl rfl ?_
            refine Dr.valG Grow.refl rfl (fun w hG => Runs.loadB rfl rfl Try.underlying3 rfl (k1.step hG) rfl) rfl rfl rfl ?_
            refine Dr.valG Grow.refl rfl (fun w hG => (Runs.geq rfl rfl rfl).isF ((by omega))) rfl rfl rfl ?_
            refine Dr.val Grow.refl rfl (fun w hG => Runs.pickF rfl rfl rfl) rfl ?_
            refine Dr.val Grow.refl rfl (fun w hG => Runs.move rfl rfl) rfl ?_
            refine Dr.valG Grow.refl rfl (fun w hG => Runs.move rfl rfl) rfl rfl rfl ?_
            refine Dr.valG Grow.refl rfl (fun w hG => (Runs.gtr rfl rfl rfl).isF ((by omega))) rfl rfl rfl ?_
            refine Dr.valG Grow.refl rfl (fun w hG => Runs.move rfl rfl) rfl rfl rfl ?_
            refine Dr.skip rfl rfl rfl rfl rfl ?_
            refine Dr.skip rfl rfl rfl rfl rfl ?_
            refine Dr.skip rfl rfl rfl rfl rfl ?_
            refine Dr.skip rfl rfl rfl rfl rfl ?_
            refine Dr.skip rfl rfl rfl rfl rfl ?_
            refine Dr.skip rfl rfl rfl rfl rfl ?_
            refine Dr.skip rfl rfl rfl rfl rfl ?_
            refine Dr.skip rfl rfl rfl rfl rfl ?_
            refine Dr.skip rfl rfl rfl rfl rfl ?_
            refine Dr.valG Grow.refl rfl (fun w hG => Runs.pickF rfl rfl rfl) rfl rfl rfl ?_
            refine Dr.val Grow.refl rfl (fun w hG => Runs.pickF rfl rfl rfl) rfl ?_
            refine Dr.nil ?_
            refine FinX.done (F' := [(1, _), (4, _), (5, _), (34, _), (35, _), (36, _), (37, _), (65, _)]) rfl ⟨rfl, rfl, rfl, rfl, rfl, rfl, rfl, rfl, trivial⟩ ?_
            intro w7 hw7 fw7
            replace bel := bel.step hw7
            replace k1 := k1.step hw7
            replace k5 := k5.step hw7
            refine Seq.nil ?_
            refine Post.weak (F' := [(1, _), (4, _), (5, _), (34, _), (35, _), (36, _), (37, _), (65, _)]) ⟨rfl, rfl, rfl, rfl, rfl, rfl, rfl, rfl, trivial⟩ ?_
            refine Post.then_ ?_
            refine Cd.condF rfl rfl ?_
            refine Cd.skip ?_
            exact Post.join () ⟨rfl, rfl, rfl, rfl, rfl, rfl, trivial⟩ ⟨by rw [hgd, hm, decide_eq_true hlt, if_pos hk0]; rfl, bel, k1, k5⟩
          · obtain ⟨g, hg⟩ : ∃ g, fs[k - 1]? = some g := ⟨_, List.getElem?_eq_getElem (show k - 1 < fs.length by omega)⟩
            refine Cd.draw 25 (by kernel_rfl) [] (.inl rfl) rfl Grow Grow.refl (fun _ _ _ => Grow.trans) ?_
            intro w6 hw6 zw6
            replace bel := bel.step hw6
            replace k1 := k1.step hw6
            replace k5 := k5.step hw6
            have zbel := bel.size
            have zlt := k5.lt
            obtain ⟨ad', had, -, -, hcg⟩ := hr.fl (bel.mono hB) hg
            injection had with had
            subst had
            refine Dr.val Grow.refl rfl (fun w hG => Runs.loadW rfl rfl Try.underlying37 rfl (k5.step hG) (m := 6) (by kernel_rfl) rfl) rfl ?_
            refine Dr.callV rfl (fun w => Enters.func rfl rfl rfl (run_enter Try.func35 (by kernel_rfl) rfl)) rfl (fun w hG => hmay _) ?_
            refine Dr.val Grow.refl rfl (fun w hG => Runs.not rfl rfl) rfl ?_
            refine Dr.val Grow.refl rfl (fun w hG => Runs.move rfl rfl) rfl ?_
            refine Dr.valG Grow.refl rfl (fun w hG => Runs.fieldB 0 rfl rfl Try.underlying37 rfl (by kernel_rfl)) rfl rfl rfl ?_
            refine Dr.valG Grow.refl rfl (fun w hG => Runs.loadB rfl rfl Try.underlying3 rfl (k5.step hG) rfl) rfl rfl rfl ?_
            refine Dr.valG Grow.refl rfl (fun w hG => Runs.fieldB 1 rfl rfl Try.underlying29 rfl (by kernel_rfl)) rfl rfl rfl ?_
            refine Dr.valG Grow.refl rfl (fun w hG => Runs.loadB rfl rfl Try.underlying3 rfl (k1.step hG) rfl) rfl rfl rfl ?_
            refine Dr.valG Grow.refl rfl (fun w hG => (Runs.geq rfl rfl rfl).isF ((by omega))) rfl rfl rfl ?_
            refine Dr.val Grow.refl rfl (fun w hG => Runs.pickF rfl rfl rfl) rfl ?_
            refine Dr.val Grow.refl rfl (fun w hG => Runs.move rfl rfl) rfl ?_
            refine Dr.valG Grow.refl rfl (fun w hG => Runs.move rfl rfl) rfl rfl rfl ?_
            refine Dr.valG Grow.refl rfl (fun w hG => (Runs.gtr rfl rfl rfl).isT ((by omega))) rfl rfl rfl ?_
            refine Dr.valG Grow.refl rfl (fun w hG => Runs.move rfl rfl) rfl rfl rfl ?_
            refine Dr.valG Grow.refl rfl (fun w hG => Runs.fieldB 3 rfl rfl Try.underlying29 rfl (by kernel_rfl)) rfl rfl rfl ?_
            refine Dr.valG Grow.refl rfl (fun w hG => Runs.loadB rfl rfl Try.underlying27 rfl (k1.step hG) rfl) rfl rfl rfl ?_
            refine Dr.valG Grow.refl rfl (fun w hG => Runs.move rfl rfl) rfl rfl rfl ?_
            refine Dr.valG Grow.refl rfl (fun w hG => Runs.subI rfl rfl rfl (by omega) (by omega)) rfl rfl rfl ?_
            refine Dr.valG Grow.refl rfl (fun w hG => Runs.indexN rfl rfl rfl Try.underlying27 (s := 6) (by kernel_rfl) (j := k - 1) (by omega) (by omega)) rfl rfl rfl ?_
            refine Dr.valG Grow.refl rfl (fun w hG => Runs.loadF (ps := [.int .i64 g.num, .int .i64 g.level, .string (strOf g.first), .string (strOf g.last), .int .i64 g.count, .int .i64 g.size]) rfl rfl Try.underlying37 rfl (m := 6) (by kernel_rfl) rfl (fun j v hj => cell_grow (hcg j v hj) hG)) rfl rfl rfl ?_
            refine Dr.valG Grow.refl rfl (fun w hG => Runs.loadW rfl rfl Try.underlying37 rfl (k5.step hG) (m := 6) (by kernel_rfl) rfl) rfl rfl rfl ?_
            refine Dr.callVG rfl (fun w => Enters.func rfl rfl rfl (run_enter Try.func26 (by kernel_rfl) rfl)) rfl rfl rfl (fun w hG => order_any g f _) ?_
            refine Dr.valG Grow.refl rfl (fun w hG => Runs.geq rfl rfl rfl) rfl rfl rfl ?_
            refine Dr.valG Grow.refl rfl (fun w hG => Runs.pickT rfl rfl rfl) rfl rfl rfl ?_
            refine Dr.val Grow.refl rfl (fun w hG => Runs.pickF rfl rfl rfl) rfl ?_
            refine Dr.nil ?_
            refine FinX.done (F' := [(1, _), (4, _), (5, _), (34, _), (35, _), (36, _), (37, _), (65, _)]) rfl ⟨rfl, rfl, rfl, rfl, rfl, rfl, rfl, rfl, trivial⟩ ?_
            intro w7 hw7 fw7
            replace bel := bel.step hw7
            replace k1 := k1.step hw7
            replace k5 := k5.step hw7
            refine Seq.nil ?_
            refine Post.weak (F' := [(1, _), (4, _), (5, _), (34, _), (35, _), (36, _), (37, _), (65, _)]) ⟨rfl, rfl, rfl, rfl, rfl, rfl, rfl, rfl, trivial⟩ ?_
            refine Post.then_ ?_
            refine Cd.cond rfl (fun h => ?_) (fun h => ?_)
            · rw [hbad (by rw [hgd, hm, decide_eq_true hlt, if_neg hk0, hg]; simp at h ⊢; omega)]
              refine Cd.seq ?_
              refine Cd.region ?_
              refine Seq.val (Runs.assign rfl rfl) rfl rfl rfl ?_
              refine Seq.nil ?_
              refine Post.weak (F' := [(1, _), (2, _), (4, _), (5, _), (34, _), (35, _), (36, _), (37, _), (65, _)]) ⟨rfl, rfl, rfl, rfl, rfl, rfl, rfl, rfl, rfl, trivial⟩ ?_
              refine Post.then_ ?_
              refine Cd.ret ?_
              refine Post.then_ret ?_
              refine Post.block_ret ?_
              refine Post.then_ret ?_
              refine Post.round_ret ?_
              refine Post.block_ret ?_
              refine Post.then_ret ?_
              refine Post.end1 rfl rfl (.inl rfl) ?_
              exact ⟨rfl, bel⟩
            · skip
              refine Cd.skip ?_
              exact Post.join () ⟨rfl, rfl, rfl, rfl, rfl, rfl, trivial⟩ ⟨by rw [hgd, hm, decide_eq_true hlt, if_neg hk0, hg]; simp at h ⊢; omega, bel, k1, k5⟩
        · rw [hbad (by rw [hgd, hm, decide_eq_false hlt]; rfl)]
          refine Cd.draw 25 (by kernel_rfl) [] (.inl rfl) rfl Grow Grow.refl (fun _ _ _ => Grow.trans) ?_
          intro w6 hw6 zw6
          replace bel := bel.step hw6
          replace k1 := k1.step hw6
          replace k5 := k5.step hw6
          have zbel := bel.size
          have zlt := k5.lt
          refine Dr.val Grow.refl rfl (fun w hG => Runs.loadW rfl rfl Try.underlying37 rfl (k5.step hG) (m := 6) (by kernel_rfl) rfl) rfl ?_
          refine Dr.callV rfl (fun w => Enters.func rfl rfl rfl (run_enter Try.func35 (by kernel_rfl) rfl)) rfl (fun w hG => hmay _) ?_
          refine Dr.val Grow.refl rfl (fun w hG => Runs.not rfl rfl) rfl ?_
          refine Dr.val Grow.refl rfl (fun w hG => Runs.move rfl rfl) rfl ?_
          refine Dr.valG Grow.refl rfl (fun w hG => Runs.fieldB 0 rfl rfl Try.underlying37 rfl (by kernel_rfl)) rfl rfl rfl ?_
          refine Dr.valG Grow.refl rfl (fun w hG => Runs.loadB rfl rfl Try.underlying3 rfl (k5.step hG) rfl) rfl rfl rfl ?_
          refine Dr.valG Grow.refl rfl (fun w hG => Runs.fieldB 1 rfl rfl Try.underlying29 rfl (by kernel_rfl)) rfl rfl rfl ?_
          refine Dr.valG Grow.refl rfl (fun w hG => Runs.loadB rfl rfl Try.underlying3 rfl (k1.step hG) rfl) rfl rfl rfl ?_
          refine Dr.valG Grow.refl rfl (fun w hG => (Runs.geq rfl rfl rfl).isT ((by omega))) rfl rfl rfl ?_
          refine Dr.val Grow.refl rfl (fun w hG => Runs.pickF rfl rfl rfl) rfl ?_
          refine Dr.val Grow.refl rfl (fun w hG => Runs.move rfl rfl) rfl ?_
          refine Dr.skip rfl rfl rfl rfl rfl ?_
          refine Dr.skip rfl rfl rfl rfl rfl ?_
          refine Dr.skip rfl rfl rfl rfl rfl ?_
          refine Dr.skipU rfl rfl rfl rfl ?_
          refine Dr.skipU rfl rfl rfl rfl ?_
          refine Dr.skipU rfl rfl rfl rfl ?_
          refine Dr.skipU rfl rfl rfl rfl ?_
          refine Dr.skipU rfl rfl rfl rfl ?_
          refine Dr.skipU rfl rfl rfl rfl ?_
          refine Dr.skipU rfl rfl rfl rfl ?_
          refine Dr.skipU rfl rfl rfl rfl ?_
          refine Dr.skipU rfl rfl rfl rfl ?_
          refine Dr.skip rfl rfl rfl rfl rfl ?_
          refine Dr.val Grow.refl rfl (fun w hG => Runs.pickT rfl rfl rfl) rfl ?_
          refine Dr.nil ?_
          refine FinX.done (F' := [(1, _), (4, _), (5, _), (34, _), (35, _), (36, _), (37, _), (65, _)]) rfl ⟨rfl, rfl, rfl, rfl, rfl, rfl, rfl, rfl, trivial⟩ ?_
          intro w7 hw7 fw7
          replace bel := bel.step hw7
          replace k1 := k1.step hw7
          replace k5 := k5.step hw7
          refine Seq.nil ?_
          refine Post.weak (F' := [(1, _), (4, _), (5, _), (34, _), (35, _), (36, _), (37, _), (65, _)]) ⟨rfl, rfl, rfl, rfl, rfl, rfl, rfl, rfl, trivial⟩ ?_
          refine Post.then_ ?_
          refine Cd.condT rfl rfl ?_
          refine Cd.seq ?_
          refine Cd.region ?_
          refine Seq.val (Runs.assign rfl rfl) rfl rfl rfl ?_
          refine Seq.nil ?_
          refine Post.weak (F' := [(1, _), (2, _), (4, _), (5, _), (34, _), (35, _), (36, _), (37, _), (65, _)]) ⟨rfl, rfl, rfl, rfl, rfl, rfl, rfl, rfl, rfl, trivial⟩ ?_
          refine Post.then_ ?_
          refine Cd.ret ?_
          refine Post.then_ret ?_
          refine Post.block_ret ?_
          refine Post.then_ret ?_
          refine Post.round_ret ?_
          refine Post.block_ret ?_
          refine Post.then_ret ?_
          refine Post.end1 rfl rfl (.inl rfl) ?_
          exact ⟨rfl, bel⟩
    clear bel k1 k5
    rintro ⟨⟩ wr ⟨hgood, bel, k1, k5⟩
    refine Cd.seq ?_
    refine Cd.region ?_
    refine Seq.val (Runs.fieldB 3 rfl rfl Try.underlying29 rfl (by kernel_rfl)) rfl rfl rfl ?_
    refine Seq.val (Runs.loadB rfl rfl Try.underlying27 rfl k1 rfl) rfl rfl rfl ?_
    refine Seq.val (Runs.move rfl rfl) rfl rfl rfl ?_
    refine Seq.val (Runs.sliceN (j := k) rfl rfl rfl Try.underlying27 (s := 6) (by kernel_rfl) rfl (by omega)) rfl rfl rfl ?_
    refine Seq.val (Runs.len rfl rfl Try.underlying27) rfl rfl rfl ?_
    refine Seq.val (Runs.move rfl rfl) rfl rfl rfl ?_
    refine Seq.nil ?_
    refine Post.weak (F' := [(1, _), (4, _), (5, _), (34, _), (35, _), (36, _), (69, _), (70, _), (71, _)]) ⟨rfl, rfl, rfl, rfl, rfl, rfl, rfl, rfl, rfl, trivial⟩ ?_
    refine Post.then_ ?_
    refine Cd.block ?_
    refine Cd.loop (σ := Nat) (fun j => [(1, .pointer (some ⟨g1, 0, none⟩)), (5, .pointer (some ⟨g5, 0, none⟩)), (34, .slice (some ad) fs.length cap), (35, .int .i64 (fs.length : Int)), (36, .int .i64 (k : Int)), (69, .slice (some ad) k cap), (70, .int .i64 (k : Int)), (71, .int .i64 (j : Int))])
      (fun j wr => j ≤ k ∧ (∀ y ∈ fs.take j, clashB f y = false) ∧ Below w.heap.size w wr ∧ Blk wr g1 29 #[.int .i64 lg, .int .i64 nx, .int .i64 sq, .slice (some ad) fs.length cap] ∧ Blk wr g5 37 f.cs) (fun j => k - j) 0 ⟨Nat.zero_le _, by simp, bel, k1, k5⟩ ⟨rfl, rfl, rfl, rfl, rfl, rfl, rfl, rfl, trivial⟩ ?_
    clear bel k1 k5
    rintro j wr2 ⟨hj, hcl, bel, k1, k5⟩
    refine Cd.seq ?_
    refine Cd.region ?_
    refine Seq.val (Runs.lss rfl rfl rfl) rfl rfl rfl ?_
    refine Seq.nil ?_
    refine Post.weak (F' := [(1, _), (5, _), (34, _), (35, _), (36, _), (69, _), (70, _), (71, _), (72, _)]) ⟨rfl, rfl, rfl, rfl, rfl, rfl, rfl, rfl, rfl, trivial⟩ ?_
    refine Post.then_ ?_
    refine Cd.seq ?_
    refine Cd.condD rfl (fun hc => ?_) (fun hc => ?_)
    · obtain ⟨g, hg⟩ : ∃ g, fs[j]? = some g := ⟨_, List.getElem?_eq_getElem (show j < fs.length by omega)⟩
      obtain ⟨ad', had, -, -, hcg⟩ := hr.fl (bel.mono hB) hg
      injection had with had
      subst had
      have htk : fs.take (j + 1) = fs.take j ++ [g] := by rw [List.take_add_one, hg]; rfl
      refine Cd.skip ?_
      refine Post.then_ ?_
      refine Cd.seq ?_
      refine Cd.block ?_
      refine Cd.seq ?_
      refine Cd.region ?_
      refine Seq.val (Runs.indexN rfl rfl rfl Try.underlying27 (s := 6) (by kernel_rfl) (j := j) rfl (by omega)) rfl rfl rfl ?_
      refine Seq.val (Runs.loadF (ps := [.int .i64 g.num, .int .i64 g.level, .string (strOf g.first), .string (strOf g.last), .int .i64 g.count, .int .i64 g.size]) rfl rfl Try.underlying37 rfl (m := 6) (by kernel_rfl) rfl hcg) rfl rfl rfl ?_
      refine Seq.alloc rfl (run_zero zero_edit_File) rfl rfl rfl ?_
      intro g7 w6 n7
      have e7 := Nat.le_trans bel.size n7.ge
      have l7 := Nat.lt_of_lt_of_le k5.lt n7.ge
      have l7_k1 := Nat.lt_of_lt_of_le k1.lt n7.ge
      replace bel := bel.step n7.below
      replace k1 := k1.step n7.below
      replace k5 := k5.step n7.below
      have k7 := n7.blk
      refine Seq.storeN rfl rfl rfl rfl (m := 6) (by kernel_rfl) rfl (by repeat' first | exact trivial | apply And.intro | rfl | assumption) k7 (by simp [Value.cells]) rfl rfl ?_
      intro w7 pw7
      replace bel := bel.put k7 pw7 e7
      replace k1 := k1.put pw7 (by omega)
      replace k5 := k5.put pw7 (by omega)
      replace k7 := pw7.blk
      refine Seq.nil ?_
      refine Post.weak (F' := [(1, _), (5, _), (7, _), (34, _), (35, _), (36, _), (69, _), (70, _), (71, _), (72, _)]) ⟨rfl, rfl, rfl, rfl, rfl, rfl, rfl, rfl, rfl, rfl, trivial⟩ ?_
      refine Post.then_ ?_
      refine Cd.seq ?_
      refine Cd.region ?_
      refine Seq.val (Runs.fieldB 0 rfl rfl Try.underlying37 rfl (by kernel_rfl)) rfl rfl rfl ?_
      refine Seq.val (Runs.loadB rfl rfl Try.underlying3 rfl k5 rfl) rfl rfl rfl ?_
      refine Seq.val (Runs.fieldB 0 rfl rfl Try.underlying37 rfl (by kernel_rfl)) rfl rfl rfl ?_
      refine Seq.val (Runs.loadB rfl rfl Try.underlying3 rfl k7 rfl) rfl rfl rfl ?_
      refine Seq.val (Runs.eqlI rfl rfl rfl) rfl rfl rfl ?_
      refine Seq.val (Runs.move rfl rfl) rfl rfl rfl ?_
      refine SeqC.start ?_
      refine SeqC.open rfl rfl rfl rfl rfl rfl rfl (fun hcx => Runs.fieldB 1 rfl rfl Try.underlying37 rfl (by kernel_rfl)) ?_
      refine SeqC.next rfl rfl rfl rfl rfl rfl rfl (fun hcx => Runs.loadB rfl rfl Try.underlying3 rfl k5 rfl) ?_
      refine SeqC.next rfl rfl rfl rfl rfl rfl rfl (fun hcx => Runs.fieldB 1 rfl rfl Try.underlying37 rfl (by kernel_rfl)) ?_
      refine SeqC.next rfl rfl rfl rfl rfl rfl rfl (fun hcx => Runs.loadB rfl rfl Try.underlying3 rfl k7 rfl) ?_
      refine SeqC.next rfl rfl rfl rfl rfl rfl rfl (fun hcx => Runs.eqlI rfl rfl rfl) ?_
      refine SeqC.next rfl rfl rfl rfl rfl rfl rfl (fun hcx => Runs.move rfl rfl) ?_
      refine SeqC.open rfl rfl rfl rfl rfl rfl rfl (fun hcx => Runs.fieldB 1 rfl rfl Try.underlying37 rfl (by kernel_rfl)) ?_
      refine SeqC.next rfl rfl rfl rfl rfl rfl rfl (fun hcx => Runs.loadB rfl rfl Try.underlying3 rfl k5 rfl) ?_
      refine SeqC.next rfl rfl rfl rfl rfl rfl rfl (fun hcx => Runs.gtr rfl rfl rfl) ?_
      refine SeqC.andG rfl rfl rfl rfl rfl rfl rfl rfl rfl rfl rfl ?_
      refine SeqC.next rfl rfl rfl rfl rfl rfl rfl (fun hcx => Runs.move rfl rfl) ?_
      refine SeqC.open rfl rfl rfl rfl rfl rfl rfl (fun hcx => Runs.loadW rfl rfl Try.underlying37 rfl k5 (m := 6) (by kernel_rfl) rfl) ?_
      refine SeqC.next rfl rfl rfl rfl rfl rfl rfl (fun hcx => Runs.loadW rfl rfl Try.underlying37 rfl k7 (m := 6) (by kernel_rfl) rfl) ?_
      refine SeqC.nextC rfl rfl rfl rfl rfl rfl rfl (fun hcx => Enters.func rfl rfl rfl (run_enter Try.func36 (by kernel_rfl) rfl)) (fun hcx => overlap_any f g _) ?_
      intro w8 hw8
      replace bel := bel.step hw8
      replace k1 := k1.step hw8
      replace k5 := k5.step hw8
      replace k7 := k7.step hw8
      refine SeqC.andG rfl rfl rfl rfl rfl rfl rfl rfl rfl rfl rfl ?_
      refine SeqC.or rfl rfl rfl rfl rfl rfl rfl ?_
      refine Seq.nil ?_
      refine Post.weak (F' := [(1, _), (5, _), (7, _), (34, _), (35, _), (36, _), (69, _), (70, _), (71, _), (72, _), (96, _)]) ⟨rfl, rfl, rfl, rfl, rfl, rfl, rfl, rfl, rfl, rfl, rfl, trivial⟩ ?_
      refine Post.then_ ?_
      refine Cd.cond rfl (fun h => ?_) (fun h => ?_)
      · have hany : (fs.take k).any (clashB f) = true := by
          rw [List.any_eq_true]
          refine ⟨g, ?_, by unfold clashB; exact h⟩
          rw [List.mem_take_iff_getElem]
          obtain ⟨h1, h2⟩ := List.getElem?_eq_some_iff.1 hg
          exact ⟨j, by omega, h2⟩
        rw [hno (by rw [hsu, hany]; simp)]
        refine Cd.seq ?_
        refine Cd.region ?_
        refine Seq.val (Runs.assign rfl rfl) rfl rfl rfl ?_
        refine Seq.nil ?_
        refine Post.weak (F' := [(1, _), (2, _), (5, _), (7, _), (34, _), (35, _), (36, _), (69, _), (70, _), (71, _), (72, _), (96, _)]) ⟨rfl, rfl, rfl, rfl, rfl, rfl, rfl, rfl, rfl, rfl, rfl, rfl, trivial⟩ ?_
        refine Post.then_ ?_
        refine Cd.ret ?_
        refine Post.block_ret ?_
        refine Post.then_ret ?_
        refine Post.round_ret ?_
        refine Post.block_ret ?_
        refine Post.block_ret ?_
        refine Post.then_ret ?_
        refine Post.round_ret ?_
        refine Post.block_ret ?_
        refine Post.then_ret ?_
        refine Post.end1 rfl rfl (.inl rfl) ?_
        exact ⟨rfl, bel⟩
      · have hne : clashB f g = false := by unfold clashB; exact h
        refine Cd.skip ?_
        refine Post.block_normal ?_
        refine Post.then_ ?_
        refine Cd.region ?_
        refine Seq.val (Runs.addI rfl rfl rfl (by omega) (by omega)) rfl rfl rfl ?_
        refine Seq.val (Runs.move rfl rfl) rfl rfl rfl ?_
        refine Seq.nil ?_
        refine Post.weak (F' := [(1, _), (5, _), (7, _), (34, _), (35, _), (36, _), (69, _), (70, _), (71, _), (72, _), (96, _)]) ⟨rfl, rfl, rfl, rfl, rfl, rfl, rfl, rfl, rfl, rfl, rfl, trivial⟩ ?_
        refine Post.round (j + 1) ⟨rfl, rfl, rfl, rfl, rfl, rfl, rfl, rfl, trivial⟩ ⟨by omega, fun y hy => ?_, bel, k1, k5⟩ (by omega)
        rw [htk] at hy
        rcases List.mem_append.1 hy with hy | hy
        · exact hcl y hy
        · simp at hy; subst hy; exact hne
    · obtain rfl : j = k := by omega
      have hany : (fs.take j).any (clashB f) = false := by
        rw [List.any_eq_false]
        exact fun y hy => by rw [hcl y hy]; simp
      rw [hgood, hany] at hsu
      refine Cd.exit ?_
      refine Post.then_exit ?_
      refine Post.round_exit ?_
      refine Post.block_exit ?_
      refine Post.block_normal ?_
      refine Post.then_ ?_
      refine Cd.region ?_
      refine Seq.val (Runs.addI rfl rfl rfl (by omega) (by omega)) rfl rfl rfl ?_
      refine Seq.val (Runs.move rfl rfl) rfl rfl rfl ?_
      refine Seq.nil ?_
      refine Post.weak (F' := [(1, _), (5, _), (34, _), (35, _), (36, _), (69, _), (70, _), (71, _), (72, _)]) ⟨rfl, rfl, rfl, rfl, rfl, rfl, rfl, rfl, rfl, trivial⟩ ?_
      exact Post.round (j + 1) ⟨rfl, rfl, rfl, rfl, trivial⟩ ⟨by omega, by rw [hsu]; rfl, bel, k1⟩ (by omega)
  · obtain rfl : k = fs.length := by omega
    rw [hrt]
    refine Cd.exit ?_
    refine Post.then_exit ?_
    refine Post.round_exit ?_
    refine Post.block_exit ?_
    refine Post.then_ ?_
    refine Cd.seq ?_
    refine Cd.region ?_
    refine Seq.val (Runs.assign rfl rfl) rfl rfl rfl ?_
    refine Seq.nil ?_
    refine Post.weak (F' := [(1, _), (2, _), (34, _), (35, _), (36, _), (37, _)]) ⟨rfl, rfl, rfl, rfl, rfl, rfl, trivial⟩ ?_
    refine Post.then_ ?_
    refine Cd.ret ?_
    refine Post.end1 rfl rfl (.inl rfl) ?_
    exact ⟨rfl, bel⟩
end Go.Proofs.Ythcimkhnijnmgaa

/-
  Texts that were joined: WhD, WhE, WhF, WfA, WfB, WfC, WhG, TOpen, WdD, WfD, WhH. Conditions: what each theorem names.
-/
import Derived.Test.YtnlepoplncjliaaGreatDoorZ3
import Derived.ProofKit
import Derived.OpenShut
import Derived.Lib.SmallJoins
import Derived.Deep.Slices
import Derived.Deep.Fields
import Derived.ChangeSame
import Derived.LaidMore
import Derived.Lib.LaidTab
import Derived.Shelf.Vars
set_option linter.unusedSectionVars false
namespace Go.Proofs.YtnlepoplncjliaaGreatDoor
open Go.RowKit

theorem name_eq {i : Nat} (h : i < 10) (k : List Nat) : [119, 46, 48, 48, 48, 48, 48] ++ [48 + i] ++ [46] ++ k = fileN [119] i (46 :: k) := by
  have e : dig6 i = [48, 48, 48, 48, 48, 48 + i] := by
    unfold dig6
    have : decN i = [48 + i] := by rw [decN, dif_pos h]
    rw [this]
    rfl
  unfold fileN
  rw [e]
  simp
theorem name_any (i : Nat) (k : List Nat) (w : World) (hi : i < 10) (hk : k.length ≤ 100) : Calls Tryz.prog 18 #[.int .i64 (i : Int), .string (strOf k)] w fun e w' => e = .returned (.string (strOf (fileN [119] i (46 :: k)))) ∧ Grow w w' := by
  have bel := Below.refl w.heap.size w
  have hne := name_eq hi k
  refine Calls.start 14 Tryz.func18 rfl rfl rfl ?_
  refine Cd.seq ?_
  refine Cd.region ?_
  refine Seq.val (Runs.assign rfl rfl) rfl rfl rfl ?_
  refine Seq.nil ?_
  refine Post.weak (F' := [(0, _), (1, _), (4, _)]) ⟨rfl, rfl, rfl, trivial⟩ ?_
  refine Post.then_ ?_
  refine Cd.seq ?_
  refine Cd.region ?_
  refine Seq.val (Runs.move rfl rfl) rfl rfl rfl ?_
  refine Seq.val ((Runs.addI rfl rfl rfl (by omega) (by omega)).cast (v' := .int .i64 ((48 + i : Nat) : Int)) (int_eq (by omega))) rfl rfl rfl ?_
  refine Seq.val (Runs.convI rfl rfl Tryz.underlying3 Tryz.underlying5 (u8_id (by omega))) rfl rfl rfl ?_
  refine Seq.slice (vs := [_]) (s := 1) rfl rfl rfl Tryz.underlying60 (by kernel_rfl) (zero_uint8) (by omega) (by omega) ⟨rfl, trivial⟩ rfl rfl rfl ?_
  intro g8 w1 n8
  have e8 := Nat.le_trans bel.size n8.ge
  replace bel := bel.step n8.below
  have k8 := n8.blk
  have hrd := Reads.blk (size := 1) k8 1 rfl
  refine Seq.val (Runs.convBS (l := [48 + i]) rfl rfl Tryz.underlying60 Tryz.underlying5 Tryz.underlying9 hrd (fun d hd => by simp at hd; omega)) rfl rfl rfl ?_
  refine Seq.val (Runs.addL (a := [119, 46, 48, 48, 48, 48, 48]) (b := [48 + i]) rfl rfl rfl (by simp)) rfl rfl rfl ?_
  refine Seq.val (Runs.addL (a := [119, 46, 48, 48, 48, 48, 48] ++ [48 + i]) (b := [46]) rfl rfl rfl (by simp)) rfl rfl rfl ?_
  refine Seq.val (Runs.move rfl rfl) rfl rfl rfl ?_
  refine Seq.val (Runs.addL (a := [119, 46, 48, 48, 48, 48, 48] ++ [48 + i] ++ [46]) (b := k) rfl rfl rfl (by simp; omega)) rfl rfl rfl ?_
  rw [hne]
  refine Seq.val (Runs.assign rfl rfl) rfl rfl rfl ?_
  refine Seq.nil ?_
  refine Post.weak (F' := [(0, _), (1, _), (4, _)]) ⟨rfl, rfl, rfl, trivial⟩ ?_
  refine Post.then_ ?_
  refine Cd.ret ?_
  refine Post.end1 rfl rfl (.inl rfl) ?_
  exact ⟨rfl, bel⟩
theorem refMark_any (n : Nat) (w : World) (hn : n < 9223372036854775808) : Calls Tryz.prog 22 #[.int .i64 (n : Int)] w fun e w' => e = .returned (.string (strOf (markN n))) ∧ Grow w w' := by
  have bel := Below.refl w.heap.size w
  have hb8 : Byt (beB 8 n) := beB_lt 8 _
  have hl8 := beB_len 8 n
  have hlc := laidC_len (beB 8 n)
  refine Calls.start 11 Tryz.func22 rfl rfl rfl ?_
  refine Cd.seq ?_
  refine Cd.region ?_
  refine Seq.val (Runs.assign rfl rfl) rfl rfl rfl ?_
  refine Seq.nil ?_
  refine Post.weak (F' := [(0, _), (2, _)]) ⟨rfl, rfl, trivial⟩ ?_
  refine Post.then_ ?_
  refine Cd.seq ?_
  refine Cd.region ?_
  refine Seq.val (Runs.move rfl rfl) rfl rfl rfl ?_
  refine Seq.val (Runs.convI rfl rfl Tryz.underlying3 Tryz.underlying97 (r := (n : Int)) (by rw [wrap_u64]; omega)) rfl rfl rfl ?_
  refine Seq.call (Enters.func rfl rfl rfl (run_enter Tryz.func45 (by kernel_rfl) rfl)) rfl rfl rfl (refFixed_any n 8 _ (by omega) (by omega)) ?_
  rintro e w5 ⟨rfl, hb5⟩
  refine ⟨_, rfl, ?_⟩
  replace bel := bel.step hb5
  refine Seq.val (Runs.assign rfl rfl) rfl rfl rfl ?_
  refine Seq.nil ?_
  refine Post.weak (F' := [(0, _), (2, _), (3, _)]) ⟨rfl, rfl, rfl, trivial⟩ ?_
  refine Post.then_ ?_
  refine Cd.seq ?_
  refine Cd.region ?_
  refine Seq.val (Runs.move rfl rfl) rfl rfl rfl ?_
  refine Seq.val (Runs.move rfl rfl) rfl rfl rfl ?_
  refine Seq.call (Enters.func rfl rfl rfl (run_enter Tryz.func46 (by kernel_rfl) rfl)) rfl rfl rfl (refLaid_any (beB 8 n) _ hb8 (by omega)) ?_
  rintro e w6 ⟨rfl, hb6⟩
  refine ⟨_, rfl, ?_⟩
  replace bel := bel.step hb6
  refine Seq.val (Runs.addL (a := beB 8 n) (b := laidC (beB 8 n)) rfl rfl rfl (by omega)) rfl rfl rfl ?_
  refine Seq.val (Runs.assign rfl rfl) rfl rfl rfl ?_
  refine Seq.nil ?_
  refine Post.weak (F' := [(0, _), (2, _), (3, _)]) ⟨rfl, rfl, rfl, trivial⟩ ?_
  refine Post.then_ ?_
  refine Cd.ret ?_
  refine Post.end1 rfl rfl (.inl rfl) ?_
  exact ⟨rfl, bel⟩
theorem bool_at {a b : Bool} (h : a = b) : some (Value.bool a) = some (Value.bool b) := by rw [h]
/-- One mark more, as the document has it. -/
def cntRef (a : Nat × Bool) (x : List Nat) : Nat × Bool :=
  if 4294967296 ≤ valB (x.take 8) then (if valB (x.take 8) - 4294967296 ≤ 131072 ∧ laidC (x.take 8) = x.drop 8 then (max a.1 (valB (x.take 8) - 4294967296), true) else a)
  else (if valB (x.take 8) ≤ 131072 ∧ laidC (x.take 8) = x.drop 8 then (max a.1 (valB (x.take 8)), a.2) else a)
theorem cntRef_eq {a : Nat × Bool} {x : List Nat} (hx : Byt x) (hl : x.length = 12) : cntRef a x = cntStep a x := by
  have hm : x = markN (valB (x.take 8)) ↔ laidC (x.take 8) = x.drop 8 := by
    have hb := beB_val (hx.take 8)
    rw [List.length_take, Nat.min_eq_left (by omega)] at hb
    unfold markN
    rw [hb]
    constructor
    · intro h
      have h2 : x.take 8 ++ x.drop 8 = x.take 8 ++ laidC (x.take 8) := by rw [List.take_append_drop]; exact h
      exact (List.append_cancel_left h2).symm
    · intro h
      rw [h, List.take_append_drop]
  unfold cntRef cntStep
  generalize valB (x.take 8) = v at *
  by_cases h1 : x = markN v
  · have h2 := hm.1 h1
    by_cases h3 : 4294967296 ≤ v
    · by_cases h4 : v - 4294967296 ≤ 131072
      · have h5 : ¬ (4295098368 < v ∨ x ≠ markN v) := fun h => h.elim (fun h => by omega) (fun h => h h1)
        simp only [if_pos h3, if_neg h5, if_pos h4, h2, and_self, if_true, h4]
      · have h5 : 4295098368 < v ∨ x ≠ markN v := .inl (by omega)
        have h6 : ¬ (v - 4294967296 ≤ 131072 ∧ laidC (x.take 8) = x.drop 8) := fun h => h4 h.1
        rw [if_pos h3, if_pos h5, if_neg h6]
    · have h5 : ¬ (4295098368 < v ∨ x ≠ markN v) := fun h => h.elim (fun h => by omega) (fun h => h h1)
      by_cases h4 : v ≤ 131072
      · have h6 : v ≤ 131072 ∧ laidC (x.take 8) = x.drop 8 := ⟨h4, h2⟩
        rw [if_neg h3, if_pos h6, if_neg h5, if_neg h3, if_pos h4]
      · have h6 : ¬ (v ≤ 131072 ∧ laidC (x.take 8) = x.drop 8) := fun h => h4 h.1
        rw [if_neg h3, if_neg h6, if_neg h5, if_neg h3, if_neg h4]
  · have h2 : ¬ laidC (x.take 8) = x.drop 8 := fun h => h1 (hm.2 h)
    have h5 : 4295098368 < v ∨ x ≠ markN v := .inr h1
    have h6 : ¬ (v ≤ 131072 ∧ laidC (x.take 8) = x.drop 8) := fun h => h2 h.2
    have h7 : ¬ (v - 4294967296 ≤ 131072 ∧ laidC (x.take 8) = x.drop 8) := fun h => h2 h.2
    rw [if_neg h6, if_neg h7, if_pos h5, ite_self]
set_option maxHeartbeats 4000000 in
theorem refCount_any (s : List Nat) (w : World) (hs : Byt s) (hl : s.length ≤ 10000000) : Calls Tryz.prog 44 #[.string (strOf s)] w fun e w' => e = .returned (.tuple #[.int .i64 ((countN s).1 : Int), .bool (countN s).2]) ∧ Grow w w' := by
  have bel := Below.refl w.heap.size w
  refine Calls.start 54 Tryz.func44 rfl rfl rfl ?_
  refine Cd.seq ?_
  refine Cd.region ?_
  refine Seq.val (Runs.assign rfl rfl) rfl rfl rfl ?_
  refine Seq.val (Runs.assign rfl rfl) rfl rfl rfl ?_
  refine Seq.nil ?_
  refine Post.weak (F' := [(0, _), (2, _), (3, _)]) ⟨rfl, rfl, rfl, trivial⟩ ?_
  refine Post.then_ ?_
  refine Cd.seq ?_
  refine Cd.region ?_
  refine Seq.val (Runs.assign rfl rfl) rfl rfl rfl ?_
  refine Seq.val (Runs.assign rfl rfl) rfl rfl rfl ?_
  refine Seq.nil ?_
  refine Post.weak (F' := [(0, _), (2, _), (3, _), (4, _), (5, _)]) ⟨rfl, rfl, rfl, rfl, rfl, trivial⟩ ?_
  refine Post.then_ ?_
  refine Cd.seq ?_
  refine Cd.seq ?_
  refine Cd.region ?_
  refine Seq.val (Runs.assign rfl rfl) rfl rfl rfl ?_
  refine Seq.nil ?_
  refine Post.weak (F' := [(0, _), (2, _), (3, _), (4, _), (5, _), (6, _)]) ⟨rfl, rfl, rfl, rfl, rfl, rfl, trivial⟩ ?_
  refine Post.then_ ?_
  refine Cd.block ?_
  refine Cd.loop (σ := (Nat × Bool) × Nat × Nat) (fun q => [(0, .string (strOf s)), (4, .int .i64 (q.1.1 : Int)), (5, .bool q.1.2), (6, .int .i64 (q.2.1 : Int))]) (fun q wr => q.2.1 ≤ s.length ∧ s.length - q.2.1 ≤ q.2.2 ∧ q.1.1 ≤ 131072 ∧ countN s = cntGo q.2.2 q.1 (s.drop q.2.1) ∧ Below w.heap.size w wr) (fun q => q.2.2) ((0, false), 0, s.length) ⟨Nat.zero_le _, by simp, by simp, rfl, bel⟩ ⟨rfl, rfl, rfl, rfl, trivial⟩ ?_
  clear bel
  rintro ⟨⟨m, b⟩, at_, f⟩ wr ⟨hat, hf, hm, hall, bel⟩
  simp only at hat hf hm hall
  show Cd _ _ _ _ [(0, .string (strOf s)), (4, .int .i64 (m : Int)), (5, .bool b), (6, .int .i64 (at_ : Int))] _
  refine Cd.seq ?_
  refine Cd.seq ?_
  refine Cd.region ?_
  refine Seq.val (Runs.move rfl rfl) rfl rfl rfl ?_
  refine Seq.val (Runs.addI rfl rfl rfl (by omega) (by omega)) rfl rfl rfl ?_
  refine Seq.val (Runs.move rfl rfl) rfl rfl rfl ?_
  refine Seq.val (Runs.lenL rfl rfl Tryz.underlying9) rfl rfl rfl ?_
  refine Seq.val (Runs.leq rfl rfl rfl) rfl rfl rfl ?_
  refine Seq.nil ?_
  refine Post.weak (F' := [(0, _), (4, _), (5, _), (6, _), (13, _)]) ⟨rfl, rfl, rfl, rfl, rfl, trivial⟩ ?_
  refine Post.then_ ?_
  refine Cd.condD rfl (fun hc => ?_) (fun hc => ?_)
  · obtain ⟨f, rfl⟩ : ∃ k, f = k + 1 := ⟨f - 1, by omega⟩
    obtain ⟨S, hS⟩ : ∃ S, S = s.drop at_ := ⟨_, rfl⟩
    have hSl : S.length = s.length - at_ := by rw [hS, List.length_drop]
    have hSb : Byt S := by rw [hS]; exact hs.drop _
    rw [← hS] at hall
    have hgo : cntGo (f + 1) (m, b) S = cntGo f (cntStep (m, b) (S.take 12)) (s.drop (at_ + 12)) := by rw [cntGo, if_pos (by omega), hS, List.drop_drop]
    have hl12 : (S.take 12).length = 12 := by rw [List.length_take]; omega
    rw [hgo, ← cntRef_eq (hSb.take 12) hl12] at hall
    have hle : (cntRef (m, b) (S.take 12)).1 ≤ 131072 := by
      rw [cntRef_eq (hSb.take 12) hl12]
      exact cntStep_le hm
    have hX8 : (S.take 12).take 8 = S.take 8 := by rw [List.take_take]; rfl
    have hsl8 : (s.take (at_ + 8)).drop at_ = S.take 8 := by rw [hS, List.drop_take]; congr 1; omega
    have hsl4 : (s.take (at_ + 12)).drop (at_ + 8) = (S.take 12).drop 8 := by rw [hS, List.drop_take, List.drop_take, List.drop_drop]; congr 1; omega
    obtain ⟨X, hX⟩ : ∃ X, X = S.take 8 := ⟨_, rfl⟩
    obtain ⟨Y, hY⟩ : ∃ Y, Y = (S.take 12).drop 8 := ⟨_, rfl⟩
    obtain ⟨acc, hacc⟩ : ∃ acc, acc = cntRef (m, b) (S.take 12) := ⟨_, rfl⟩
    have hst : acc = if 4294967296 ≤ valB X then (if valB X - 4294967296 ≤ 131072 ∧ laidC X = Y then (max m (valB X - 4294967296), true) else (m, b)) else (if valB X ≤ 131072 ∧ laidC X = Y then (max m (valB X), b) else (m, b)) := by rw [hacc, hX, hY]; unfold cntRef; rw [hX8]
    rw [← hacc] at hall hle
    have hXb : Byt X := by rw [hX]; exact hSb.take 8
    have hYb : Byt Y := by rw [hY]; exact (hSb.take 12).drop 8
    have hXl : X.length = 8 := by rw [hX, List.length_take]; omega
    rw [← hX] at hsl8
    rw [← hY] at hsl4
    have hn64 : valB X < 18446744073709551616 := by
      have h1 := valB_lt hXb
      rwa [hXl, show (256 : Nat) ^ 8 = 18446744073709551616 by decide] at h1
    refine Cd.skip ?_
    refine Post.then_ ?_
    refine Cd.seq ?_
    refine Cd.block ?_
    refine Cd.seq ?_
    refine Cd.region ?_
    refine Seq.val (Runs.move rfl rfl) rfl rfl rfl ?_
    refine Seq.val (Runs.move rfl rfl) rfl rfl rfl ?_
    refine Seq.val (Runs.move rfl rfl) rfl rfl rfl ?_
    refine Seq.val (Runs.addI rfl rfl rfl (by omega) (by omega)) rfl rfl rfl ?_
    refine Seq.val ((Runs.sliceAtL (i := at_) (j := at_ + 8) rfl rfl rfl rfl Tryz.underlying9 rfl (by omega) (by omega) (by omega)).cast (congrArg (fun z => Value.string (strOf z)) hsl8)) rfl rfl rfl ?_
    refine Seq.call (Enters.func rfl rfl rfl (run_enter Tryz.func69 (by kernel_rfl) rfl)) rfl rfl rfl (refValue_any X _ hXb (by omega)) ?_
    rintro e w5 ⟨rfl, hb5⟩
    refine ⟨_, rfl, ?_⟩
    replace bel := bel.step hb5
    generalize valB X = n at *
    have hout : ∀ acc' : Nat × Bool, acc = acc' → ∀ wr', Below w.heap.size w wr' → (at_ + 12 ≤ s.length ∧ s.length - (at_ + 12) ≤ f ∧ acc'.1 ≤ 131072 ∧ countN s = cntGo f acc' (s.drop (at_ + 12)) ∧ Below w.heap.size w wr') := by
      rintro acc' rfl wr' h
      exact ⟨by omega, by omega, hle, hall, h⟩
    refine Seq.val (Runs.assign rfl rfl) rfl rfl rfl ?_
    refine Seq.nil ?_
    refine Post.weak (F' := [(0, _), (4, _), (5, _), (6, _), (7, _), (13, _)]) ⟨rfl, rfl, rfl, rfl, rfl, rfl, trivial⟩ ?_
    refine Post.then_ ?_
    refine Cd.seq ?_
    refine Cd.region ?_
    refine Seq.val (Runs.move rfl rfl) rfl rfl rfl ?_
    refine Seq.val (Runs.geq rfl rfl rfl) rfl rfl rfl ?_
    refine Seq.val (Runs.assign rfl rfl) rfl rfl rfl ?_
    refine Seq.nil ?_
    refine Post.weak (F' := [(0, _), (4, _), (5, _), (6, _), (7, _), (8, _), (13, _)]) ⟨rfl, rfl, rfl, rfl, rfl, rfl, rfl, trivial⟩ ?_
    refine Post.then_ ?_
    refine Cd.seq ?_
    refine Cd.seq ?_
    refine Cd.region ?_
    refine Seq.val (Runs.move rfl rfl) rfl rfl rfl ?_
    refine Seq.nil ?_
    refine Post.weak (F' := [(0, _), (4, _), (5, _), (6, _), (7, _), (8, _), (13, _), (24, _)]) ⟨rfl, rfl, rfl, rfl, rfl, rfl, rfl, rfl, trivial⟩ ?_
    refine Post.then_ ?_
    refine Cd.cond rfl (fun h => ?_) (fun h => ?_)
    · have hge : 4294967296 ≤ n := by
        have : (4294967296 : Int) ≤ (n : Int) := by simpa using h
        omega
      rw [if_pos hge] at hst
      have hsub : (n : Int) - 4294967296 = ((n - 4294967296 : Nat) : Int) := by omega
      refine Cd.region ?_
      refine Seq.val (Runs.move rfl rfl) rfl rfl rfl ?_
      refine Seq.val ((Runs.subU rfl rfl rfl (by omega) (by omega)).cast (v' := .int .u64 ((n - 4294967296 : Nat) : Int)) (int_eq hsub)) rfl rfl rfl ?_
      refine Seq.val (Runs.assign rfl rfl) rfl rfl rfl ?_
      refine Seq.nil ?_
      refine Post.weak (F' := [(0, _), (4, _), (5, _), (6, _), (7, _), (8, _), (13, _), (24, _)]) ⟨rfl, rfl, rfl, rfl, rfl, rfl, rfl, rfl, trivial⟩ ?_
      refine Post.then_ ?_
      refine Cd.seq ?_
      by_cases hc1 : n - 4294967296 ≤ 131072
      · by_cases hc2 : laidC X = Y
        · rw [if_pos ⟨hc1, hc2⟩] at hst
          refine Cd.draw 17 (by kernel_rfl) [] (.inl rfl) rfl Grow Grow.refl (fun _ _ _ => Grow.trans) ?_
          intro w1 hw1 zw1
          replace bel := bel.step hw1
          have zbel := bel.size
          refine Dr.val Grow.refl rfl (fun w hG => Runs.move rfl rfl) rfl ?_
          refine Dr.val Grow.refl rfl (fun w hG => (Runs.leq rfl rfl rfl).isT (by omega)) rfl ?_
          refine Dr.val Grow.refl rfl (fun w hG => Runs.move rfl rfl) rfl ?_
          refine Dr.valG Grow.refl rfl (fun w hG => Runs.move rfl rfl) rfl rfl rfl ?_
          refine Dr.valG Grow.refl rfl (fun w hG => Runs.move rfl rfl) rfl rfl rfl ?_
          refine Dr.valG Grow.refl rfl (fun w hG => Runs.move rfl rfl) rfl rfl rfl ?_
          refine Dr.valG Grow.refl rfl (fun w hG => Runs.addI rfl rfl rfl (by omega) (by omega)) rfl rfl rfl ?_
          refine Dr.valG Grow.refl rfl (fun w hG => (Runs.sliceAtL (i := at_) (j := at_ + 8) rfl rfl rfl rfl Tryz.underlying9 rfl (by omega) (by omega) (by omega)).cast (congrArg (fun z => Value.string (strOf z)) hsl8)) rfl rfl rfl ?_
          refine Dr.callVG rfl (fun w => Enters.func rfl rfl rfl (run_enter Tryz.func46 (by kernel_rfl) rfl)) rfl rfl rfl (fun w hG => refLaid_any X w hXb (by omega)) ?_
          refine Dr.valG Grow.refl rfl (fun w hG => Runs.move rfl rfl) rfl rfl rfl ?_
          refine Dr.valG Grow.refl rfl (fun w hG => Runs.move rfl rfl) rfl rfl rfl ?_
          refine Dr.valG Grow.refl rfl (fun w hG => Runs.addI rfl rfl rfl (by omega) (by omega)) rfl rfl rfl ?_
          refine Dr.valG Grow.refl rfl (fun w hG => Runs.move rfl rfl) rfl rfl rfl ?_
          refine Dr.valG Grow.refl rfl (fun w hG => Runs.addI rfl rfl rfl (by omega) (by omega)) rfl rfl rfl ?_
          refine Dr.valG Grow.refl rfl (fun w hG => (Runs.sliceAtL (i := at_ + 8) (j := at_ + 12) rfl rfl rfl rfl Tryz.underlying9 (by omega) (by omega) (by omega) (by omega)).cast (congrArg (fun z => Value.string (strOf z)) hsl4)) rfl rfl rfl ?_
          refine Dr.valG Grow.refl rfl (fun w hG => (Runs.eqlL (a := laidC X) (b := Y) rfl rfl rfl (laidC_lt _) hYb).isT hc2) rfl rfl rfl ?_
          refine Dr.val Grow.refl rfl (fun w hG => Runs.pickT rfl rfl rfl) rfl ?_
          refine Dr.nil ?_
          refine FinX.done (F' := [(0, _), (4, _), (5, _), (6, _), (7, _), (8, _), (13, _), (24, _), (43, _)]) rfl ⟨rfl, rfl, rfl, rfl, rfl, rfl, rfl, rfl, rfl, trivial⟩ ?_
          intro w2 hw2 fw2
          replace bel := bel.step hw2
          refine Seq.nil ?_
          refine Post.weak (F' := [(0, _), (4, _), (5, _), (6, _), (7, _), (8, _), (13, _), (24, _), (43, _)]) ⟨rfl, rfl, rfl, rfl, rfl, rfl, rfl, rfl, rfl, trivial⟩ ?_
          refine Post.then_ ?_
          refine Cd.condT rfl rfl ?_
          refine Cd.seq ?_
          refine Cd.region ?_
          refine Seq.val (Runs.move rfl rfl) rfl rfl rfl ?_
          refine Seq.val (Runs.move rfl rfl) rfl rfl rfl ?_
          refine Seq.val (Runs.convI rfl rfl Tryz.underlying97 Tryz.underlying3 (wrapI (by omega) (by omega))) rfl rfl rfl ?_
          refine Seq.val (Runs.max2 rfl rfl rfl) rfl rfl rfl ?_
          refine Seq.val (Runs.assign rfl rfl) rfl rfl rfl ?_
          refine Seq.nil ?_
          refine Post.weak (F' := [(0, _), (4, _), (5, _), (6, _), (7, _), (8, _), (13, _), (24, _), (43, _)]) ⟨rfl, rfl, rfl, rfl, rfl, rfl, rfl, rfl, rfl, trivial⟩ ?_
          refine Post.then_ ?_
          refine Cd.region ?_
          refine Seq.val (Runs.move rfl rfl) rfl rfl rfl ?_
          refine Seq.val (Runs.move rfl rfl) rfl rfl rfl ?_
          refine SeqC.start ?_
          refine SeqC.open rfl rfl rfl rfl rfl rfl rfl (fun hcx => Runs.move rfl rfl) ?_
          refine SeqC.or rfl rfl rfl rfl rfl rfl rfl ?_
          refine Seq.val (Runs.assign rfl rfl) rfl rfl rfl ?_
          refine Seq.nil ?_
          refine Post.weak (F' := [(0, _), (4, _), (5, _), (6, _), (7, _), (8, _), (13, _), (24, _), (43, _)]) ⟨rfl, rfl, rfl, rfl, rfl, rfl, rfl, rfl, rfl, trivial⟩ ?_
          refine Post.block_normal ?_
          refine Post.then_ ?_
          refine Cd.region ?_
          refine Seq.val (Runs.move rfl rfl) rfl rfl rfl ?_
          refine Seq.val (Runs.addI rfl rfl rfl (by omega) (by omega)) rfl rfl rfl ?_
          refine Seq.val (Runs.assign rfl rfl) rfl rfl rfl ?_
          refine Seq.nil ?_
          refine Post.weak (F' := [(0, _), (4, _), (5, _), (6, _), (7, _), (8, _), (13, _), (24, _), (43, _)]) ⟨rfl, rfl, rfl, rfl, rfl, rfl, rfl, rfl, rfl, trivial⟩ ?_
          exact Post.round ((max m (n - 4294967296), true), at_ + 12, f) ⟨rfl, int_at (by simp only; omega), bool_at (by simp; omega), int_at (by simp only; omega), trivial⟩ (hout _ hst _ bel) (by simp)
        · rw [if_neg (fun h => hc2 h.2)] at hst
          refine Cd.draw 17 (by kernel_rfl) [] (.inl rfl) rfl Grow Grow.refl (fun _ _ _ => Grow.trans) ?_
          intro w1 hw1 zw1
          replace bel := bel.step hw1
          have zbel := bel.size
          refine Dr.val Grow.refl rfl (fun w hG => Runs.move rfl rfl) rfl ?_
          refine Dr.val Grow.refl rfl (fun w hG => (Runs.leq rfl rfl rfl).isT (by omega)) rfl ?_
          refine Dr.val Grow.refl rfl (fun w hG => Runs.move rfl rfl) rfl ?_
          refine Dr.valG Grow.refl rfl (fun w hG => Runs.move rfl rfl) rfl rfl rfl ?_
          refine Dr.valG Grow.refl rfl (fun w hG => Runs.move rfl rfl) rfl rfl rfl ?_
          refine Dr.valG Grow.refl rfl (fun w hG => Runs.move rfl rfl) rfl rfl rfl ?_
          refine Dr.valG Grow.refl rfl (fun w hG => Runs.addI rfl rfl rfl (by omega) (by omega)) rfl rfl rfl ?_
          refine Dr.valG Grow.refl rfl (fun w hG => (Runs.sliceAtL (i := at_) (j := at_ + 8) rfl rfl rfl rfl Tryz.underlying9 rfl (by omega) (by omega) (by omega)).cast (congrArg (fun z => Value.string (strOf z)) hsl8)) rfl rfl rfl ?_
          refine Dr.callVG rfl (fun w => Enters.func rfl rfl rfl (run_enter Tryz.func46 (by kernel_rfl) rfl)) rfl rfl rfl (fun w hG => refLaid_any X w hXb (by omega)) ?_
          refine Dr.valG Grow.refl rfl (fun w hG => Runs.move rfl rfl) rfl rfl rfl ?_
          refine Dr.valG Grow.refl rfl (fun w hG => Runs.move rfl rfl) rfl rfl rfl ?_
          refine Dr.valG Grow.refl rfl (fun w hG => Runs.addI rfl rfl rfl (by omega) (by omega)) rfl rfl rfl ?_
          refine Dr.valG Grow.refl rfl (fun w hG => Runs.move rfl rfl) rfl rfl rfl ?_
          refine Dr.valG Grow.refl rfl (fun w hG => Runs.addI rfl rfl rfl (by omega) (by omega)) rfl rfl rfl ?_
          refine Dr.valG Grow.refl rfl (fun w hG => (Runs.sliceAtL (i := at_ + 8) (j := at_ + 12) rfl rfl rfl rfl Tryz.underlying9 (by omega) (by omega) (by omega) (by omega)).cast (congrArg (fun z => Value.string (strOf z)) hsl4)) rfl rfl rfl ?_
          refine Dr.valG Grow.refl rfl (fun w hG => (Runs.eqlL (a := laidC X) (b := Y) rfl rfl rfl (laidC_lt _) hYb).isF hc2) rfl rfl rfl ?_
          refine Dr.val Grow.refl rfl (fun w hG => Runs.pickT rfl rfl rfl) rfl ?_
          refine Dr.nil ?_
          refine FinX.done (F' := [(0, _), (4, _), (5, _), (6, _), (7, _), (8, _), (13, _), (24, _), (43, _)]) rfl ⟨rfl, rfl, rfl, rfl, rfl, rfl, rfl, rfl, rfl, trivial⟩ ?_
          intro w2 hw2 fw2
          replace bel := bel.step hw2
          refine Seq.nil ?_
          refine Post.weak (F' := [(0, _), (4, _), (5, _), (6, _), (7, _), (8, _), (13, _), (24, _), (43, _)]) ⟨rfl, rfl, rfl, rfl, rfl, rfl, rfl, rfl, rfl, trivial⟩ ?_
          refine Post.then_ ?_
          refine Cd.condF rfl rfl ?_
          refine Cd.skip ?_
          refine Post.block_normal ?_
          refine Post.then_ ?_
          refine Cd.region ?_
          refine Seq.val (Runs.move rfl rfl) rfl rfl rfl ?_
          refine Seq.val (Runs.addI rfl rfl rfl (by omega) (by omega)) rfl rfl rfl ?_
          refine Seq.val (Runs.assign rfl rfl) rfl rfl rfl ?_
          refine Seq.nil ?_
          refine Post.weak (F' := [(0, _), (4, _), (5, _), (6, _), (7, _), (8, _), (13, _), (24, _), (43, _)]) ⟨rfl, rfl, rfl, rfl, rfl, rfl, rfl, rfl, rfl, trivial⟩ ?_
          exact Post.round ((m, b), at_ + 12, f) ⟨rfl, rfl, rfl, int_at (by simp only; omega), trivial⟩ (hout _ hst _ bel) (by simp)
      · rw [if_neg (fun h => hc1 h.1)] at hst
        refine Cd.draw 17 (by kernel_rfl) [] (.inl rfl) rfl Grow Grow.refl (fun _ _ _ => Grow.trans) ?_
        intro w1 hw1 zw1
        replace bel := bel.step hw1
        have zbel := bel.size
        refine Dr.val Grow.refl rfl (fun w hG => Runs.move rfl rfl) rfl ?_
        refine Dr.val Grow.refl rfl (fun w hG => (Runs.leq rfl rfl rfl).isF (by omega)) rfl ?_
        refine Dr.val Grow.refl rfl (fun w hG => Runs.move rfl rfl) rfl ?_
        refine Dr.skip rfl rfl rfl rfl rfl ?_
        refine Dr.skip rfl rfl rfl rfl rfl ?_
        refine Dr.skip rfl rfl rfl rfl rfl ?_
        refine Dr.skip rfl rfl rfl rfl rfl ?_
        refine Dr.skip rfl rfl rfl rfl rfl ?_
        refine Dr.skip rfl rfl rfl rfl rfl ?_
        refine Dr.skip rfl rfl rfl rfl rfl ?_
        refine Dr.skip rfl rfl rfl rfl rfl ?_
        refine Dr.skip rfl rfl rfl rfl rfl ?_
        refine Dr.skip rfl rfl rfl rfl rfl ?_
        refine Dr.skip rfl rfl rfl rfl rfl ?_
        refine Dr.skip rfl rfl rfl rfl rfl ?_
        refine Dr.skip rfl rfl rfl rfl rfl ?_
        refine Dr.val Grow.refl rfl (fun w hG => Runs.pickF rfl rfl rfl) rfl ?_
        refine Dr.nil ?_
        refine FinX.done (F' := [(0, _), (4, _), (5, _), (6, _), (7, _), (8, _), (13, _), (24, _), (43, _)]) rfl ⟨rfl, rfl, rfl, rfl, rfl, rfl, rfl, rfl, rfl, trivial⟩ ?_
        intro w2 hw2 fw2
        replace bel := bel.step hw2
        refine Seq.nil ?_
        refine Post.weak (F' := [(0, _), (4, _), (5, _), (6, _), (7, _), (8, _), (13, _), (24, _), (43, _)]) ⟨rfl, rfl, rfl, rfl, rfl, rfl, rfl, rfl, rfl, trivial⟩ ?_
        refine Post.then_ ?_
        refine Cd.condF rfl rfl ?_
        refine Cd.skip ?_
        refine Post.block_normal ?_
        refine Post.then_ ?_
        refine Cd.region ?_
        refine Seq.val (Runs.move rfl rfl) rfl rfl rfl ?_
        refine Seq.val (Runs.addI rfl rfl rfl (by omega) (by omega)) rfl rfl rfl ?_
        refine Seq.val (Runs.assign rfl rfl) rfl rfl rfl ?_
        refine Seq.nil ?_
        refine Post.weak (F' := [(0, _), (4, _), (5, _), (6, _), (7, _), (8, _), (13, _), (24, _), (43, _)]) ⟨rfl, rfl, rfl, rfl, rfl, rfl, rfl, rfl, rfl, trivial⟩ ?_
        exact Post.round ((m, b), at_ + 12, f) ⟨rfl, rfl, rfl, int_at (by simp only; omega), trivial⟩ (hout _ hst _ bel) (by simp)
    · have hge : ¬ 4294967296 ≤ n := by
        have : ¬ (4294967296 : Int) ≤ (n : Int) := by simpa using h
        omega
      rw [if_neg hge] at hst
      refine Cd.skip ?_
      refine Post.then_ ?_
      refine Cd.seq ?_
      by_cases hc1 : n ≤ 131072
      · by_cases hc2 : laidC X = Y
        · rw [if_pos ⟨hc1, hc2⟩] at hst
          refine Cd.draw 17 (by kernel_rfl) [] (.inl rfl) rfl Grow Grow.refl (fun _ _ _ => Grow.trans) ?_
          intro w1 hw1 zw1
          replace bel := bel.step hw1
          have zbel := bel.size
          refine Dr.val Grow.refl rfl (fun w hG => Runs.move rfl rfl) rfl ?_
          refine Dr.val Grow.refl rfl (fun w hG => (Runs.leq rfl rfl rfl).isT (by omega)) rfl ?_
          refine Dr.val Grow.refl rfl (fun w hG => Runs.move rfl rfl) rfl ?_
          refine Dr.valG Grow.refl rfl (fun w hG => Runs.move rfl rfl) rfl rfl rfl ?_
          refine Dr.valG Grow.refl rfl (fun w hG => Runs.move rfl rfl) rfl rfl rfl ?_
          refine Dr.valG Grow.refl rfl (fun w hG => Runs.move rfl rfl) rfl rfl rfl ?_
          refine Dr.valG Grow.refl rfl (fun w hG => Runs.addI rfl rfl rfl (by omega) (by omega)) rfl rfl rfl ?_
          refine Dr.valG Grow.refl rfl (fun w hG => (Runs.sliceAtL (i := at_) (j := at_ + 8) rfl rfl rfl rfl Tryz.underlying9 rfl (by omega) (by omega) (by omega)).cast (congrArg (fun z => Value.string (strOf z)) hsl8)) rfl rfl rfl ?_
          refine Dr.callVG rfl (fun w => Enters.func rfl rfl rfl (run_enter Tryz.func46 (by kernel_rfl) rfl)) rfl rfl rfl (fun w hG => refLaid_any X w hXb (by omega)) ?_
          refine Dr.valG Grow.refl rfl (fun w hG => Runs.move rfl rfl) rfl rfl rfl ?_
          refine Dr.valG Grow.refl rfl (fun w hG => Runs.move rfl rfl) rfl rfl rfl ?_
          refine Dr.valG Grow.refl rfl (fun w hG => Runs.addI rfl rfl rfl (by omega) (by omega)) rfl rfl rfl ?_
          refine Dr.valG Grow.refl rfl (fun w hG => Runs.move rfl rfl) rfl rfl rfl ?_
          refine Dr.valG Grow.refl rfl (fun w hG => Runs.addI rfl rfl rfl (by omega) (by omega)) rfl rfl rfl ?_
          refine Dr.valG Grow.refl rfl (fun w hG => (Runs.sliceAtL (i := at_ + 8) (j := at_ + 12) rfl rfl rfl rfl Tryz.underlying9 (by omega) (by omega) (by omega) (by omega)).cast (congrArg (fun z => Value.string (strOf z)) hsl4)) rfl rfl rfl ?_
          refine Dr.valG Grow.refl rfl (fun w hG => (Runs.eqlL (a := laidC X) (b := Y) rfl rfl rfl (laidC_lt _) hYb).isT hc2) rfl rfl rfl ?_
          refine Dr.val Grow.refl rfl (fun w hG => Runs.pickT rfl rfl rfl) rfl ?_
          refine Dr.nil ?_
          refine FinX.done (F' := [(0, _), (4, _), (5, _), (6, _), (7, _), (8, _), (13, _), (24, _), (43, _)]) rfl ⟨rfl, rfl, rfl, rfl, rfl, rfl, rfl, rfl, rfl, trivial⟩ ?_
          intro w2 hw2 fw2
          replace bel := bel.step hw2
          refine Seq.nil ?_
          refine Post.weak (F' := [(0, _), (4, _), (5, _), (6, _), (7, _), (8, _), (13, _), (24, _), (43, _)]) ⟨rfl, rfl, rfl, rfl, rfl, rfl, rfl, rfl, rfl, trivial⟩ ?_
          refine Post.then_ ?_
          refine Cd.condT rfl rfl ?_
          refine Cd.seq ?_
          refine Cd.region ?_
          refine Seq.val (Runs.move rfl rfl) rfl rfl rfl ?_
          refine Seq.val (Runs.move rfl rfl) rfl rfl rfl ?_
          refine Seq.val (Runs.convI rfl rfl Tryz.underlying97 Tryz.underlying3 (wrapI (by omega) (by omega))) rfl rfl rfl ?_
          refine Seq.val (Runs.max2 rfl rfl rfl) rfl rfl rfl ?_
          refine Seq.val (Runs.assign rfl rfl) rfl rfl rfl ?_
          refine Seq.nil ?_
          refine Post.weak (F' := [(0, _), (4, _), (5, _), (6, _), (7, _), (8, _), (13, _), (24, _), (43, _)]) ⟨rfl, rfl, rfl, rfl, rfl, rfl, rfl, rfl, rfl, trivial⟩ ?_
          refine Post.then_ ?_
          refine Cd.region ?_
          refine Seq.val (Runs.move rfl rfl) rfl rfl rfl ?_
          refine Seq.val (Runs.move rfl rfl) rfl rfl rfl ?_
          refine SeqC.start ?_
          refine SeqC.open rfl rfl rfl rfl rfl rfl rfl (fun hcx => Runs.move rfl rfl) ?_
          refine SeqC.or rfl rfl rfl rfl rfl rfl rfl ?_
          refine Seq.val (Runs.assign rfl rfl) rfl rfl rfl ?_
          refine Seq.nil ?_
          refine Post.weak (F' := [(0, _), (4, _), (5, _), (6, _), (7, _), (8, _), (13, _), (24, _), (43, _)]) ⟨rfl, rfl, rfl, rfl, rfl, rfl, rfl, rfl, rfl, trivial⟩ ?_
          refine Post.block_normal ?_
          refine Post.then_ ?_
          refine Cd.region ?_
          refine Seq.val (Runs.move rfl rfl) rfl rfl rfl ?_
          refine Seq.val (Runs.addI rfl rfl rfl (by omega) (by omega)) rfl rfl rfl ?_
          refine Seq.val (Runs.assign rfl rfl) rfl rfl rfl ?_
          refine Seq.nil ?_
          refine Post.weak (F' := [(0, _), (4, _), (5, _), (6, _), (7, _), (8, _), (13, _), (24, _), (43, _)]) ⟨rfl, rfl, rfl, rfl, rfl, rfl, rfl, rfl, rfl, trivial⟩ ?_
          exact Post.round ((max m (n), b), at_ + 12, f) ⟨rfl, int_at (by simp only; omega), bool_at (by simp; omega), int_at (by simp only; omega), trivial⟩ (hout _ hst _ bel) (by simp)
        · rw [if_neg (fun h => hc2 h.2)] at hst
          refine Cd.draw 17 (by kernel_rfl) [] (.inl rfl) rfl Grow Grow.refl (fun _ _ _ => Grow.trans) ?_
          intro w1 hw1 zw1
          replace bel := bel.step hw1
          have zbel := bel.size
          refine Dr.val Grow.refl rfl (fun w hG => Runs.move rfl rfl) rfl ?_
          refine Dr.val Grow.refl rfl (fun w hG => (Runs.leq rfl rfl rfl).isT (by omega)) rfl ?_
          refine Dr.val Grow.refl rfl (fun w hG => Runs.move rfl rfl) rfl ?_
          refine Dr.valG Grow.refl rfl (fun w hG => Runs.move rfl rfl) rfl rfl rfl ?_
          refine Dr.valG Grow.refl rfl (fun w hG => Runs.move rfl rfl) rfl rfl rfl ?_
          refine Dr.valG Grow.refl rfl (fun w hG => Runs.move rfl rfl) rfl rfl rfl ?_
          refine Dr.valG Grow.refl rfl (fun w hG => Runs.addI rfl rfl rfl (by omega) (by omega)) rfl rfl rfl ?_
          refine Dr.valG Grow.refl rfl (fun w hG => (Runs.sliceAtL (i := at_) (j := at_ + 8) rfl rfl rfl rfl Tryz.underlying9 rfl (by omega) (by omega) (by omega)).cast (congrArg (fun z => Value.string (strOf z)) hsl8)) rfl rfl rfl ?_
          refine Dr.callVG rfl (fun w => Enters.func rfl rfl rfl (run_enter Tryz.func46 (by kernel_rfl) rfl)) rfl rfl rfl (fun w hG => refLaid_any X w hXb (by omega)) ?_
          refine Dr.valG Grow.refl rfl (fun w hG => Runs.move rfl rfl) rfl rfl rfl ?_
          refine Dr.valG Grow.refl rfl (fun w hG => Runs.move rfl rfl) rfl rfl rfl ?_
          refine Dr.valG Grow.refl rfl (fun w hG => Runs.addI rfl rfl rfl (by omega) (by omega)) rfl rfl rfl ?_
          refine Dr.valG Grow.refl rfl (fun w hG => Runs.move rfl rfl) rfl rfl rfl ?_
          refine Dr.valG Grow.refl rfl (fun w hG => Runs.addI rfl rfl rfl (by omega) (by omega)) rfl rfl rfl ?_
          refine Dr.valG Grow.refl rfl (fun w hG => (Runs.sliceAtL (i := at_ + 8) (j := at_ + 12) rfl rfl rfl rfl Tryz.underlying9 (by omega) (by omega) (by omega) (by omega)).cast (congrArg (fun z => Value.string (strOf z)) hsl4)) rfl rfl rfl ?_
          refine Dr.valG Grow.refl rfl (fun w hG => (Runs.eqlL (a := laidC X) (b := Y) rfl rfl rfl (laidC_lt _) hYb).isF hc2) rfl rfl rfl ?_
          refine Dr.val Grow.refl rfl (fun w hG => Runs.pickT rfl rfl rfl) rfl ?_
          refine Dr.nil ?_
          refine FinX.done (F' := [(0, _), (4, _), (5, _), (6, _), (7, _), (8, _), (13, _), (24, _), (43, _)]) rfl ⟨rfl, rfl, rfl, rfl, rfl, rfl, rfl, rfl, rfl, trivial⟩ ?_
          intro w2 hw2 fw2
          replace bel := bel.step hw2
          refine Seq.nil ?_
          refine Post.weak (F' := [(0, _), (4, _), (5, _), (6, _), (7, _), (8, _), (13, _), (24, _), (43, _)]) ⟨rfl, rfl, rfl, rfl, rfl, rfl, rfl, rfl, rfl, trivial⟩ ?_
          refine Post.then_ ?_
          refine Cd.condF rfl rfl ?_
          refine Cd.skip ?_
          refine Post.block_normal ?_
          refine Post.then_ ?_
          refine Cd.region ?_
          refine Seq.val (Runs.move rfl rfl) rfl rfl rfl ?_
          refine Seq.val (Runs.addI rfl rfl rfl (by omega) (by omega)) rfl rfl rfl ?_
          refine Seq.val (Runs.assign rfl rfl) rfl rfl rfl ?_
          refine Seq.nil ?_
          refine Post.weak (F' := [(0, _), (4, _), (5, _), (6, _), (7, _), (8, _), (13, _), (24, _), (43, _)]) ⟨rfl, rfl, rfl, rfl, rfl, rfl, rfl, rfl, rfl, trivial⟩ ?_
          exact Post.round ((m, b), at_ + 12, f) ⟨rfl, rfl, rfl, int_at (by simp only; omega), trivial⟩ (hout _ hst _ bel) (by simp)
      · rw [if_neg (fun h => hc1 h.1)] at hst
        refine Cd.draw 17 (by kernel_rfl) [] (.inl rfl) rfl Grow Grow.refl (fun _ _ _ => Grow.trans) ?_
        intro w1 hw1 zw1
        replace bel := bel.step hw1
        have zbel := bel.size
        refine Dr.val Grow.refl rfl (fun w hG => Runs.move rfl rfl) rfl ?_
        refine Dr.val Grow.refl rfl (fun w hG => (Runs.leq rfl rfl rfl).isF (by omega)) rfl ?_
        refine Dr.val Grow.refl rfl (fun w hG => Runs.move rfl rfl) rfl ?_
        refine Dr.skip rfl rfl rfl rfl rfl ?_
        refine Dr.skip rfl rfl rfl rfl rfl ?_
        refine Dr.skip rfl rfl rfl rfl rfl ?_
        refine Dr.skip rfl rfl rfl rfl rfl ?_
        refine Dr.skip rfl rfl rfl rfl rfl ?_
        refine Dr.skip rfl rfl rfl rfl rfl ?_
        refine Dr.skip rfl rfl rfl rfl rfl ?_
        refine Dr.skip rfl rfl rfl rfl rfl ?_
        refine Dr.skip rfl rfl rfl rfl rfl ?_
        refine Dr.skip rfl rfl rfl rfl rfl ?_
        refine Dr.skip rfl rfl rfl rfl rfl ?_
        refine Dr.skip rfl rfl rfl rfl rfl ?_
        refine Dr.skip rfl rfl rfl rfl rfl ?_
        refine Dr.val Grow.refl rfl (fun w hG => Runs.pickF rfl rfl rfl) rfl ?_
        refine Dr.nil ?_
        refine FinX.done (F' := [(0, _), (4, _), (5, _), (6, _), (7, _), (8, _), (13, _), (24, _), (43, _)]) rfl ⟨rfl, rfl, rfl, rfl, rfl, rfl, rfl, rfl, rfl, trivial⟩ ?_
        intro w2 hw2 fw2
        replace bel := bel.step hw2
        refine Seq.nil ?_
        refine Post.weak (F' := [(0, _), (4, _), (5, _), (6, _), (7, _), (8, _), (13, _), (24, _), (43, _)]) ⟨rfl, rfl, rfl, rfl, rfl, rfl, rfl, rfl, rfl, trivial⟩ ?_
        refine Post.then_ ?_
        refine Cd.condF rfl rfl ?_
        refine Cd.skip ?_
        refine Post.block_normal ?_
        refine Post.then_ ?_
        refine Cd.region ?_
        refine Seq.val (Runs.move rfl rfl) rfl rfl rfl ?_
        refine Seq.val (Runs.addI rfl rfl rfl (by omega) (by omega)) rfl rfl rfl ?_
        refine Seq.val (Runs.assign rfl rfl) rfl rfl rfl ?_
        refine Seq.nil ?_
        refine Post.weak (F' := [(0, _), (4, _), (5, _), (6, _), (7, _), (8, _), (13, _), (24, _), (43, _)]) ⟨rfl, rfl, rfl, rfl, rfl, rfl, rfl, rfl, rfl, trivial⟩ ?_
        exact Post.round ((m, b), at_ + 12, f) ⟨rfl, rfl, rfl, int_at (by simp only; omega), trivial⟩ (hout _ hst _ bel) (by simp)
  · skip
    refine Cd.exit ?_
    refine Post.then_exit ?_
    refine Post.round_exit ?_
    refine Post.block_exit ?_
    refine Post.then_ ?_
    refine Cd.seq ?_
    refine Cd.region ?_
    refine Seq.val (Runs.move rfl rfl) rfl rfl rfl ?_
    refine Seq.val (Runs.move rfl rfl) rfl rfl rfl ?_
    refine Seq.val (Runs.assign rfl rfl) rfl rfl rfl ?_
    refine Seq.val (Runs.assign rfl rfl) rfl rfl rfl ?_
    refine Seq.nil ?_
    refine Post.weak (F' := [(0, _), (2, _), (3, _), (4, _), (5, _), (6, _), (13, _)]) ⟨rfl, rfl, rfl, rfl, rfl, rfl, rfl, trivial⟩ ?_
    refine Post.then_ ?_
    refine Cd.ret ?_
    refine Post.end2 rfl rfl rfl (.inl rfl) ?_
    have hgo : cntGo f (m, b) (s.drop at_) = (m, b) := by
      cases f with
      | zero => rfl
      | succ f => rw [cntGo, if_neg (by rw [List.length_drop]; omega)]
    rw [hall, hgo]
    exact ⟨rfl, bel⟩
end Go.Proofs.YtnlepoplncjliaaGreatDoor

namespace Go.Proofs.YtnlepoplncjliaaGreatDoor
open Go.RowKit

/-- A segment's records, as the document has them; whether it is to be sealed; whether it is sound. -/
def knownN (t : List Nat × List Nat) : List (List Nat) × Bool × Bool :=
  if (allN t.1).1.length < (countN t.2).1 then ([], false, false)
  else if (countN t.2).2 = true then ((allN t.1).1.take (countN t.2).1, false, true)
  else ((allN t.1).1, decide ((countN t.2).1 < (allN t.1).1.length ∨ (allN t.1).2.1 < t.1.length), true)
theorem knownN_len (t : List Nat × List Nat) : 12 * (knownN t).1.length ≤ t.1.length := by
  have h := allGo_len t.1.length t.1
  rw [show allGo t.1.length t.1 = allN t.1 from rfl] at h
  unfold knownN
  split
  · simp
  split
  · simp only [List.length_take]; omega
  · simp only; omega
set_option maxHeartbeats 1000000 in
theorem known_any (a b : List Nat) (w : World) (ha : Byt a) (hb : Byt b) (hla : a.length ≤ 2000) (hlb : b.length ≤ 2000) :
    Calls Tryz.prog 19 #[.agg #[.string (strOf a), .string (strOf b)]] w fun e w' => ∃ v, e = .returned (.tuple #[v, .bool (knownN (a, b)).2.1, .bool (knownN (a, b)).2.2]) ∧ Own w' w.heap.size 9 1 v (knownN (a, b)).1.length (Ts (knownN (a, b)).1) ∧ Grow w w' := by
  have bel := Below.refl w.heap.size w
  have hkn : (knownN (a, b)) = if (allN a).1.length < (countN b).1 then ([], false, false) else if (countN b).2 = true then ((allN a).1.take (countN b).1, false, true) else ((allN a).1, decide ((countN b).1 < (allN a).1.length ∨ (allN a).2.1 < a.length), true) := rfl
  refine Calls.start 43 Tryz.func19 rfl rfl rfl ?_
  refine Cd.seq ?_
  refine Cd.region ?_
  refine Seq.box rfl rfl rfl rfl rfl ?_
  intro g1 w1 n1
  have e1 := Nat.le_trans bel.size n1.ge
  replace bel := bel.step n1.below
  have k1 := n1.blk
  refine Seq.val (Runs.assign rfl rfl) rfl rfl rfl ?_
  refine Seq.val (Runs.assign rfl rfl) rfl rfl rfl ?_
  refine Seq.val (Runs.assign rfl rfl) rfl rfl rfl ?_
  refine Seq.nil ?_
  refine Post.weak (F' := [(0, _), (1, _), (2, _), (3, _), (4, _)]) ⟨rfl, rfl, rfl, rfl, rfl, trivial⟩ ?_
  refine Post.then_ ?_
  refine Cd.seq ?_
  refine Cd.region ?_
  refine Seq.val (Runs.fieldB 0 rfl rfl Tryz.underlying41 rfl (by kernel_rfl)) rfl rfl rfl ?_
  refine Seq.val (Runs.loadB rfl rfl Tryz.underlying9 rfl k1 rfl) rfl rfl rfl ?_
  refine Seq.call (Enters.func rfl rfl rfl (run_enter Tryz.func43 (by kernel_rfl) rfl)) rfl rfl rfl (refAll_any a _ ha (by omega)) ?_
  rintro e w9 ⟨v9, rfl, own, hb9⟩
  refine ⟨_, rfl, ?_⟩
  replace own := own.mono bel.size
  replace bel := bel.step hb9
  replace k1 := k1.step hb9
  have hend := allGo_len a.length a
  rw [show allGo a.length a = allN a from rfl] at hend
  obtain ⟨L, hL⟩ : ∃ x, x = (allN a).1 := ⟨_, rfl⟩
  obtain ⟨en, hen⟩ : ∃ x, x = (allN a).2.1 := ⟨_, rfl⟩
  rw [← hL, ← hen] at hkn
  rw [← hL, ← hen] at hend
  rw [← hL] at own
  rw [← hen]
  obtain ⟨A, c, rfl, -⟩ := own.reads
  have hcap := own.cap
  refine Seq.val (Runs.move rfl rfl) rfl rfl rfl ?_
  refine Seq.val (Runs.extract rfl rfl rfl) rfl rfl rfl ?_
  refine Seq.val (Runs.extract rfl rfl rfl) rfl rfl rfl ?_
  refine Seq.val (Runs.extract rfl rfl rfl) rfl rfl rfl ?_
  refine Seq.val (Runs.assign rfl rfl) rfl rfl rfl ?_
  refine Seq.val (Runs.assign rfl rfl) rfl rfl rfl ?_
  refine Seq.val (Runs.assign rfl rfl) rfl rfl rfl ?_
  refine Seq.nil ?_
  refine Post.weak (F' := [(0, _), (1, _), (2, _), (3, _), (4, _), (5, _), (6, _)]) ⟨rfl, rfl, rfl, rfl, rfl, rfl, rfl, trivial⟩ ?_
  refine Post.then_ ?_
  refine Cd.seq ?_
  refine Cd.region ?_
  refine Seq.val (Runs.fieldB 1 rfl rfl Tryz.underlying41 rfl (by kernel_rfl)) rfl rfl rfl ?_
  refine Seq.val (Runs.loadB rfl rfl Tryz.underlying9 rfl k1 rfl) rfl rfl rfl ?_
  refine Seq.call (Enters.func rfl rfl rfl (run_enter Tryz.func44 (by kernel_rfl) rfl)) rfl rfl rfl (refCount_any b _ hb (by omega)) ?_
  rintro e w10 ⟨rfl, hb10⟩
  refine ⟨_, rfl, ?_⟩
  replace bel := bel.step hb10
  replace k1 := k1.step hb10
  replace own := own.step hb10
  obtain ⟨k, hk⟩ : ∃ x, x = (countN b).1 := ⟨_, rfl⟩
  obtain ⟨sl, hsl2⟩ : ∃ x, x = (countN b).2 := ⟨_, rfl⟩
  rw [← hk, ← hsl2] at hkn
  rw [← hk, ← hsl2]
  refine Seq.val (Runs.move rfl rfl) rfl rfl rfl ?_
  refine Seq.val (Runs.extract rfl rfl rfl) rfl rfl rfl ?_
  refine Seq.val (Runs.extract rfl rfl rfl) rfl rfl rfl ?_
  refine Seq.val (Runs.assign rfl rfl) rfl rfl rfl ?_
  refine Seq.val (Runs.assign rfl rfl) rfl rfl rfl ?_
  refine Seq.nil ?_
  refine Post.weak (F' := [(0, _), (1, _), (2, _), (3, _), (4, _), (5, _), (6, _), (8, _), (9, _)]) ⟨rfl, rfl, rfl, rfl, rfl, rfl, rfl, rfl, rfl, trivial⟩ ?_
  refine Post.then_ ?_
  refine Cd.seq ?_
  refine Cd.seq ?_
  refine Cd.region ?_
  refine Seq.val (Runs.move rfl rfl) rfl rfl rfl ?_
  refine Seq.val (Runs.len rfl rfl Tryz.underlying22) rfl rfl rfl ?_
  refine Seq.val (Runs.move rfl rfl) rfl rfl rfl ?_
  refine Seq.val (Runs.lss rfl rfl rfl) rfl rfl rfl ?_
  refine Seq.nil ?_
  refine Post.weak (F' := [(0, _), (1, _), (2, _), (3, _), (4, _), (5, _), (6, _), (8, _), (9, _), (26, _)]) ⟨rfl, rfl, rfl, rfl, rfl, rfl, rfl, rfl, rfl, rfl, trivial⟩ ?_
  refine Post.then_ ?_
  refine Cd.cond rfl (fun h => ?_) (fun h => ?_)
  · have h : L.length < k := by
      have h' : ((L.length : Int) < (k : Int)) := by simpa using h
      omega
    rw [if_pos h] at hkn
    rw [hkn]
    refine Cd.seq ?_
    refine Cd.region ?_
    refine Seq.val (Runs.assign rfl rfl) rfl rfl rfl ?_
    refine Seq.val (Runs.assign rfl rfl) rfl rfl rfl ?_
    refine Seq.val (Runs.assign rfl rfl) rfl rfl rfl ?_
    refine Seq.nil ?_
    refine Post.weak (F' := [(0, _), (1, _), (2, _), (3, _), (4, _), (5, _), (6, _), (8, _), (9, _), (26, _)]) ⟨rfl, rfl, rfl, rfl, rfl, rfl, rfl, rfl, rfl, rfl, trivial⟩ ?_
    refine Post.then_ ?_
    refine Cd.ret ?_
    refine Post.then_ret ?_
    refine Post.end3 rfl rfl rfl rfl (.inl rfl) ?_
    exact ⟨_, rfl, Own.nil _ _ _ _, bel⟩
  have h : ¬ (L.length < k) := by
    have h' : ¬ ((L.length : Int) < (k : Int)) := by simpa using h
    omega
  rw [if_neg h] at hkn
  refine Cd.skip ?_
  refine Post.then_ ?_
  refine Cd.seq ?_
  refine Cd.seq ?_
  refine Cd.region ?_
  refine Seq.val (Runs.move rfl rfl) rfl rfl rfl ?_
  refine Seq.nil ?_
  refine Post.weak (F' := [(0, _), (1, _), (2, _), (3, _), (4, _), (5, _), (6, _), (8, _), (9, _), (26, _), (27, _)]) ⟨rfl, rfl, rfl, rfl, rfl, rfl, rfl, rfl, rfl, rfl, rfl, trivial⟩ ?_
  refine Post.then_ ?_
  refine Cd.cond rfl (fun h => ?_) (fun h => ?_)
  · have h : sl = true := h
    rw [if_pos h] at hkn
    rw [hkn]
    refine Cd.seq ?_
    refine Cd.region ?_
    refine Seq.val (Runs.move rfl rfl) rfl rfl rfl ?_
    refine Seq.val (Runs.move rfl rfl) rfl rfl rfl ?_
    refine Seq.val (Runs.sliceN (s := 1) rfl rfl rfl Tryz.underlying22 (by kernel_rfl) rfl (by omega)) rfl rfl rfl ?_
    refine Seq.val (Runs.assign rfl rfl) rfl rfl rfl ?_
    refine Seq.val (Runs.assign rfl rfl) rfl rfl rfl ?_
    refine Seq.val (Runs.assign rfl rfl) rfl rfl rfl ?_
    refine Seq.nil ?_
    refine Post.weak (F' := [(0, _), (1, _), (2, _), (3, _), (4, _), (5, _), (6, _), (8, _), (9, _), (26, _), (27, _)]) ⟨rfl, rfl, rfl, rfl, rfl, rfl, rfl, rfl, rfl, rfl, rfl, trivial⟩ ?_
    refine Post.then_ ?_
    refine Cd.ret ?_
    refine Post.then_ret ?_
    refine Post.end3 rfl rfl rfl rfl (.inl rfl) ?_
    have hown := own.takeN k (by omega)
    rw [Nat.mul_one] at hown
    refine ⟨_, rfl, ?_, bel⟩
    have e1 : (L.take k).length = k := by rw [List.length_take]; omega
    have e2 : Ts (L.take k) = (Ts L).take k := by unfold Ts; rw [List.map_take]
    simp only [e1, e2]
    exact hown
  have h : ¬ (sl = true) := by
    have h' : sl = false := h
    simp [h']
  rw [if_neg h] at hkn
  rw [hkn]
  refine Cd.skip ?_
  refine Post.then_ ?_
  refine Cd.seq ?_
  by_cases hc : k < L.length
  · skip
    refine Cd.weak (F' := [(0, _), (1, _), (5, _), (6, _), (8, _), (9, _), (26, _), (27, _)]) ⟨rfl, rfl, rfl, rfl, rfl, rfl, rfl, rfl, trivial⟩ ?_
    refine Cd.draw 15 (by kernel_rfl) [] (.inl rfl) rfl Grow Grow.refl (fun _ _ _ => Grow.trans) ?_
    intro w2 hw2 zw2
    replace bel := bel.step hw2
    replace k1 := k1.step hw2
    replace own := own.step hw2
    have zbel := bel.size
    have zlt := k1.lt
    refine Dr.val Grow.refl rfl (fun w hG => Runs.move rfl rfl) rfl ?_
    refine Dr.val Grow.refl rfl (fun w hG => Runs.move rfl rfl) rfl ?_
    refine Dr.val Grow.refl rfl (fun w hG => Runs.len rfl rfl Tryz.underlying22) rfl ?_
    refine Dr.val Grow.refl rfl (fun w hG => Runs.move rfl rfl) rfl ?_
    refine Dr.val Grow.refl rfl (fun w hG => (Runs.gtr rfl rfl rfl).isT (by omega)) rfl ?_
    refine Dr.val Grow.refl rfl (fun w hG => Runs.move rfl rfl) rfl ?_
    refine Dr.skip rfl rfl rfl rfl rfl ?_
    refine Dr.skip rfl rfl rfl rfl rfl ?_
    refine Dr.skip rfl rfl rfl rfl rfl ?_
    refine Dr.skip rfl rfl rfl rfl rfl ?_
    refine Dr.skip rfl rfl rfl rfl rfl ?_
    refine Dr.val Grow.refl rfl (fun w hG => Runs.pickT rfl rfl rfl) rfl ?_
    refine Dr.val Grow.refl rfl (fun w hG => Runs.assign rfl rfl) rfl ?_
    refine Dr.val Grow.refl rfl (fun w hG => Runs.assign rfl rfl) rfl ?_
    refine Dr.val Grow.refl rfl (fun w hG => Runs.assign rfl rfl) rfl ?_
    refine Dr.nil ?_
    refine FinX.done (F' := [(0, _), (1, _), (2, _), (3, _), (4, _), (5, _), (6, _), (8, _), (9, _), (26, _), (27, _)]) rfl ⟨rfl, rfl, rfl, rfl, rfl, rfl, rfl, rfl, rfl, rfl, rfl, trivial⟩ ?_
    intro w3 hw3 fw3
    replace bel := bel.step hw3
    replace k1 := k1.step hw3
    replace own := own.step hw3
    refine Seq.nil ?_
    refine Post.weak (F' := [(0, _), (1, _), (2, _), (3, _), (4, _), (5, _), (6, _), (8, _), (9, _), (26, _), (27, _)]) ⟨rfl, rfl, rfl, rfl, rfl, rfl, rfl, rfl, rfl, rfl, rfl, trivial⟩ ?_
    refine Post.then_ ?_
    refine Cd.ret ?_
    refine Post.end3 rfl rfl rfl rfl (.inl rfl) ?_
    exact ⟨_, by rw [decide_eq_true (.inl hc)]; rfl, own, bel⟩
  by_cases hd : en < a.length
  · skip
    refine Cd.weak (F' := [(0, _), (1, _), (5, _), (6, _), (8, _), (9, _), (26, _), (27, _)]) ⟨rfl, rfl, rfl, rfl, rfl, rfl, rfl, rfl, trivial⟩ ?_
    refine Cd.draw 15 (by kernel_rfl) [] (.inl rfl) rfl Grow Grow.refl (fun _ _ _ => Grow.trans) ?_
    intro w2 hw2 zw2
    replace bel := bel.step hw2
    replace k1 := k1.step hw2
    replace own := own.step hw2
    have zbel := bel.size
    have zlt := k1.lt
    refine Dr.val Grow.refl rfl (fun w hG => Runs.move rfl rfl) rfl ?_
    refine Dr.val Grow.refl rfl (fun w hG => Runs.move rfl rfl) rfl ?_
    refine Dr.val Grow.refl rfl (fun w hG => Runs.len rfl rfl Tryz.underlying22) rfl ?_
    refine Dr.val Grow.refl rfl (fun w hG => Runs.move rfl rfl) rfl ?_
    refine Dr.val Grow.refl rfl (fun w hG => (Runs.gtr rfl rfl rfl).isF (by omega)) rfl ?_
    refine Dr.val Grow.refl rfl (fun w hG => Runs.move rfl rfl) rfl ?_
    refine Dr.valG Grow.refl rfl (fun w hG => Runs.move rfl rfl) rfl rfl rfl ?_
    refine Dr.valG Grow.refl rfl (fun w hG => Runs.fieldB 0 rfl rfl Tryz.underlying41 rfl (by kernel_rfl)) rfl rfl rfl ?_
    refine Dr.valG Grow.refl rfl (fun w hG => Runs.loadB rfl rfl Tryz.underlying9 rfl (k1.step hG) rfl) rfl rfl rfl ?_
    refine Dr.valG Grow.refl rfl (fun w hG => Runs.lenL rfl rfl Tryz.underlying9) rfl rfl rfl ?_
    refine Dr.valG Grow.refl rfl (fun w hG => (Runs.lss rfl rfl rfl).isT (by omega)) rfl rfl rfl ?_
    refine Dr.val Grow.refl rfl (fun w hG => Runs.pickF rfl rfl rfl) rfl ?_
    refine Dr.val Grow.refl rfl (fun w hG => Runs.assign rfl rfl) rfl ?_
    refine Dr.val Grow.refl rfl (fun w hG => Runs.assign rfl rfl) rfl ?_
    refine Dr.val Grow.refl rfl (fun w hG => Runs.assign rfl rfl) rfl ?_
    refine Dr.nil ?_
    refine FinX.done (F' := [(0, _), (1, _), (2, _), (3, _), (4, _), (5, _), (6, _), (8, _), (9, _), (26, _), (27, _)]) rfl ⟨rfl, rfl, rfl, rfl, rfl, rfl, rfl, rfl, rfl, rfl, rfl, trivial⟩ ?_
    intro w3 hw3 fw3
    replace bel := bel.step hw3
    replace k1 := k1.step hw3
    replace own := own.step hw3
    refine Seq.nil ?_
    refine Post.weak (F' := [(0, _), (1, _), (2, _), (3, _), (4, _), (5, _), (6, _), (8, _), (9, _), (26, _), (27, _)]) ⟨rfl, rfl, rfl, rfl, rfl, rfl, rfl, rfl, rfl, rfl, rfl, trivial⟩ ?_
    refine Post.then_ ?_
    refine Cd.ret ?_
    refine Post.end3 rfl rfl rfl rfl (.inl rfl) ?_
    exact ⟨_, by rw [decide_eq_true (.inr hd)]; rfl, own, bel⟩
  refine Cd.weak (F' := [(0, _), (1, _), (5, _), (6, _), (8, _), (9, _), (26, _), (27, _)]) ⟨rfl, rfl, rfl, rfl, rfl, rfl, rfl, rfl, trivial⟩ ?_
  refine Cd.draw 15 (by kernel_rfl) [] (.inl rfl) rfl Grow Grow.refl (fun _ _ _ => Grow.trans) ?_
  intro w2 hw2 zw2
  replace bel := bel.step hw2
  replace k1 := k1.step hw2
  replace own := own.step hw2
  have zbel := bel.size
  have zlt := k1.lt
  refine Dr.val Grow.refl rfl (fun w hG => Runs.move rfl rfl) rfl ?_
  refine Dr.val Grow.refl rfl (fun w hG => Runs.move rfl rfl) rfl ?_
  refine Dr.val Grow.refl rfl (fun w hG => Runs.len rfl rfl Tryz.underlying22) rfl ?_
  refine Dr.val Grow.refl rfl (fun w hG => Runs.move rfl rfl) rfl ?_
  refine Dr.val Grow.refl rfl (fun w hG => (Runs.gtr rfl rfl rfl).isF (by omega)) rfl ?_
  refine Dr.val Grow.refl rfl (fun w hG => Runs.move rfl rfl) rfl ?_
  refine Dr.valG Grow.refl rfl (fun w hG => Runs.move rfl rfl) rfl rfl rfl ?_
  refine Dr.valG Grow.refl rfl (fun w hG => Runs.fieldB 0 rfl rfl Tryz.underlying41 rfl (by kernel_rfl)) rfl rfl rfl ?_
  refine Dr.valG Grow.refl rfl (fun w hG => Runs.loadB rfl rfl Tryz.underlying9 rfl (k1.step hG) rfl) rfl rfl rfl ?_
  refine Dr.valG Grow.refl rfl (fun w hG => Runs.lenL rfl rfl Tryz.underlying9) rfl rfl rfl ?_
  refine Dr.valG Grow.refl rfl (fun w hG => (Runs.lss rfl rfl rfl).isF (by omega)) rfl rfl rfl ?_
  refine Dr.val Grow.refl rfl (fun w hG => Runs.pickF rfl rfl rfl) rfl ?_
  refine Dr.val Grow.refl rfl (fun w hG => Runs.assign rfl rfl) rfl ?_
  refine Dr.val Grow.refl rfl (fun w hG => Runs.assign rfl rfl) rfl ?_
  refine Dr.val Grow.refl rfl (fun w hG => Runs.assign rfl rfl) rfl ?_
  refine Dr.nil ?_
  refine FinX.done (F' := [(0, _), (1, _), (2, _), (3, _), (4, _), (5, _), (6, _), (8, _), (9, _), (26, _), (27, _)]) rfl ⟨rfl, rfl, rfl, rfl, rfl, rfl, rfl, rfl, rfl, rfl, rfl, trivial⟩ ?_
  intro w3 hw3 fw3
  replace bel := bel.step hw3
  replace k1 := k1.step hw3
  replace own := own.step hw3
  refine Seq.nil ?_
  refine Post.weak (F' := [(0, _), (1, _), (2, _), (3, _), (4, _), (5, _), (6, _), (8, _), (9, _), (26, _), (27, _)]) ⟨rfl, rfl, rfl, rfl, rfl, rfl, rfl, rfl, rfl, rfl, rfl, trivial⟩ ?_
  refine Post.then_ ?_
  refine Cd.ret ?_
  refine Post.end3 rfl rfl rfl rfl (.inl rfl) ?_
  exact ⟨_, by rw [decide_eq_false (fun h => h.elim hc hd)]; rfl, own, bel⟩
end Go.Proofs.YtnlepoplncjliaaGreatDoor

namespace Go.Proofs.YtnlepoplncjliaaGreatDoor
open Go.RowKit

theorem again_full {D : Dk} {nm : List Nat} {n c : Nat} (hc : D.calm) (hn : (D.files.map (·.1)).Nodup) (hnl : nm.length ≤ 8) (hn6 : n ≤ 999999) (hfl : D.files.length + 1 < 200) (hroom : 12 ≤ D.room - D.used) :
    (D.again nm n c).2 = 0 ∧ (D.again nm n c).1.calm ∧ ((D.again nm n c).1.files.map (·.1)).Nodup ∧ (D.again nm n c).1.room = D.room ∧ (D.again nm n c).1.used ≤ D.used + 12 ∧ (D.again nm n c).1.files.length ≤ D.files.length + 1 ∧ ∀ x, (D.again nm n c).1.get x = if x = fileN nm n ackK then some (full (markN (4294967296 + c))) else if x = fileN nm n newK then none else D.get x := by
  have hfr := name_ok (k := newK) hnl hn6 rfl
  have hak := name_ok (k := ackK) hnl hn6 rfl
  have hne : fileN nm n newK ≠ fileN nm n ackK := fun e => by
    have := (fileN_inj hn6 hn6 e).2
    revert this
    decide
  obtain ⟨a1, a2, a3, a4, a5, a6, a7⟩ := del_calm hc hn hfr
  unfold Dk.again
  rw [if_neg (by omega), if_neg (by omega)]
  obtain ⟨fr, hfr0⟩ : ∃ x, x = fileN nm n newK := ⟨_, rfl⟩
  obtain ⟨ak, hak0⟩ : ∃ x, x = fileN nm n ackK := ⟨_, rfl⟩
  rw [← hfr0] at hfr hne a1 a2 a3 a4 a5 a6 a7
  rw [← hak0] at hak hne
  rw [← hfr0, ← hak0]
  obtain ⟨E, hE⟩ : ∃ E, E = D.delete fr := ⟨_, rfl⟩
  rw [← hE] at a2 a3 a4 a5 a6 a7
  rw [← hE]
  have hgE : E.get fr = none := by rw [a7, if_pos rfl]
  have hfE : E.fileOf fr = ⟨[], 0⟩ := by rw [fileOf_eq, hgE]; rfl
  obtain ⟨M, hM⟩ : ∃ M, M = markN (4294967296 + c) := ⟨_, rfl⟩
  have hMl : M.length = 12 := by rw [hM, markN_len]
  obtain ⟨b1, b2, b3, b4, b5, b6, b7, b8⟩ := app_sync (D := E) (a := fr) (s := M) a2 a3 hfr (.inr (by omega)) (by rw [hfE]; show 0 + M.length ≤ _; omega) (by omega)
  unfold Dk.fresh
  rw [← hM, if_neg (by omega), if_neg (by omega)]
  obtain ⟨G, hG⟩ : ∃ G, G = (E.append fr M).sync fr := ⟨_, rfl⟩
  rw [← hG] at b3 b4 b5 b6 b7 b8
  rw [← hG]
  have hgG : G.get fr = some (full M) := by rw [b8, if_pos rfl, hfE]; rfl
  obtain ⟨c1, c2, c3, c4, c5, c6, c7⟩ := rename_calm b3 b4 hfr hak hgG hne
  refine ⟨c1, c2, c3, by rw [c4, b5, a4], ?_, ?_, fun x => ?_⟩
  · show (G.rename fr ak).used ≤ _
    omega
  · show (G.rename fr ak).files.length ≤ _
    omega
  · show (G.rename fr ak).get x = _
    rw [c7]
    by_cases h1 : x = ak
    · rw [if_pos h1, if_pos h1]
    · rw [if_neg h1, if_neg h1]
      by_cases h2 : x = fr
      · rw [if_pos h2, if_pos h2]
      · rw [if_neg h2, if_neg h2, b8, if_neg h2, a7, if_neg h2]
/-- Segments, with what the document has of them. -/
def segsT : Nat → List (List Nat × List Nat) → List (Nat × List (List Nat))
  | _, [] => []
  | i, t :: r => (i, (knownN t).1) :: segsT (i + 1) r
structure TwoIs (D : Dk) (nm : List Nat) (i : Nat) (ts : List (List Nat × List Nat)) : Prop where
  calm : D.calm
  nd : (D.files.map (·.1)).Nodup
  le : i + ts.length ≤ 999999
  log : ∀ j t, ts[j]? = some t → D.datN (fileN nm (i + j) logK) = t.1
  ack : ∀ j t, ts[j]? = some t → ∃ f, D.get (fileN nm (i + j) ackK) = some f ∧ f.data = t.2
  few : D.files.length + ts.length < 199
  room : 12 * (ts.length : Int) ≤ D.room - D.used
theorem TwoIs.step {D D2 : Dk} {nm : List Nat} {i : Nat} {t : List Nat × List Nat} {r : List (List Nat × List Nat)} (h : TwoIs D nm i (t :: r)) (hc : D2.calm) (hn : (D2.files.map (·.1)).Nodup) (hr : D2.room = D.room) (hu : D2.used ≤ D.used + 12) (hf : D2.files.length ≤ D.files.length + 1) (hg : ∀ n k, n ≤ 999999 → n ≠ i → D2.get (fileN nm n k) = D.get (fileN nm n k)) : TwoIs D2 nm (i + 1) r := by
  have hfew := h.few
  have hroom := h.room
  have hle := h.le
  simp only [List.length_cons] at hfew hroom hle
  have hg' : ∀ j t, r[j]? = some t → ∀ k, D2.get (fileN nm (i + 1 + j) k) = D.get (fileN nm (i + (j + 1)) k) := fun j t hj k => by
    have h1 := (List.getElem?_eq_some_iff.1 hj).1
    rw [show i + 1 + j = i + (j + 1) by omega]
    exact hg _ _ (by omega) (by omega)
  refine ⟨hc, hn, by omega, fun j t hj => ?_, fun j t hj => ?_, by omega, by omega⟩
  · have := h.log (j + 1) t (by rw [List.getElem?_cons_succ]; exact hj)
    unfold Dk.datN at this ⊢
    rw [hg' j t hj]
    exact this
  · rw [hg' j t hj]
    exact h.ack (j + 1) t (by rw [List.getElem?_cons_succ]; exact hj)
theorem seg_two {D : Dk} {nm : List Nat} {i : Nat} {t : List Nat × List Nat} {r : List (List Nat × List Nat)} (hnl : nm.length ≤ 8) (h : TwoIs D nm i (t :: r)) :
    if (knownN t).2.2 = true then ∃ D2, segN D nm i = (D2, 0, (knownN t).1) ∧ TwoIs D2 nm (i + 1) r ∧ (∀ n k, n ≤ 999999 → n ≠ i → D2.get (fileN nm n k) = D.get (fileN nm n k)) ∧ ∃ f, D2.get (fileN nm i ackK) = some f ∧ f.data = if (knownN t).2.1 then markN (4294967296 + (knownN t).1.length) else t.2
    else segN D nm i = (D, 9, []) := by
  have hlog := h.log 0 t rfl
  obtain ⟨f, hf, hfd⟩ := h.ack 0 t rfl
  rw [Nat.add_zero] at hlog hf
  have hack : D.datN (fileN nm i ackK) = t.2 := by unfold Dk.datN; rw [hf, ← hfd]; rfl
  have hfew := h.few
  have hroom := h.room
  have hle := h.le
  simp only [List.length_cons] at hfew hroom hle
  have same : TwoIs D nm (i + 1) r := h.step h.calm h.nd rfl (by omega) (by omega) (fun _ _ _ _ => rfl)
  unfold segN knownN
  rw [hlog, hack]
  by_cases h1 : (allN t.1).1.length < (countN t.2).1
  · rw [if_pos h1, if_pos h1, if_neg (by simp)]
  rw [if_neg h1, if_neg h1]
  by_cases h2 : (countN t.2).2 = true
  · rw [if_pos h2, if_pos h2, if_pos rfl]
    exact ⟨D, rfl, same, fun _ _ _ _ => rfl, f, hf, hfd⟩
  rw [if_neg h2, if_neg h2, if_pos rfl]
  by_cases h3 : (countN t.2).1 < (allN t.1).1.length ∨ (allN t.1).2.1 < t.1.length
  · rw [if_pos h3]
    obtain ⟨a1, a2, a3, a4, a5, a6, a7⟩ := again_full (c := (allN t.1).1.length) h.calm h.nd hnl (show i ≤ 999999 by omega) (by omega) (by omega)
    have hg : ∀ n k, n ≤ 999999 → n ≠ i → (D.again nm i (allN t.1).1.length).1.get (fileN nm n k) = D.get (fileN nm n k) := fun n k hn hni => by
      rw [a7, if_neg (fun e => hni (fileN_inj hn (by omega) e).1), if_neg (fun e => hni (fileN_inj hn (by omega) e).1)]
    refine ⟨(D.again nm i (allN t.1).1.length).1, by rw [a1], h.step a2 a3 a4 a5 a6 hg, hg, ?_⟩
    rw [a7, if_pos rfl]
    refine ⟨_, rfl, ?_⟩
    rw [if_pos (by simpa using h3)]
    rfl
  · rw [if_neg h3]
    refine ⟨D, rfl, same, fun _ _ _ _ => rfl, f, hf, ?_⟩
    rw [if_neg (by simpa using h3)]
    exact hfd
theorem openGo_two {nm : List Nat} (hnl : nm.length ≤ 8) : ∀ (ts : List (List Nat × List Nat)) (i : Nat) (D : Dk) (acc : List (Nat × List Nat)) (num : Nat), TwoIs D nm i ts → (∀ t ∈ ts, (knownN t).2.2 = true) →
    ∃ D', openGo nm (List.range' i ts.length) D acc num = (D', 0, acc ++ recsOf (segsT i ts), if ts = [] then num else i + ts.length) ∧ D'.off = false ∧ (∀ n k, n < i → D'.get (fileN nm n k) = D.get (fileN nm n k)) ∧ ∀ j t, ts[j]? = some t → ∃ f, D'.get (fileN nm (i + j) ackK) = some f ∧ f.data = if (knownN t).2.1 then markN (4294967296 + (knownN t).1.length) else t.2
  | [], i, D, acc, num, h, _ => ⟨D, by simp [openGo, recsOf, segsT], h.calm.off, fun _ _ _ => rfl, fun j t hj => by simp at hj⟩
  | t :: r, i, D, acc, num, h, hk => by
    have hs := seg_two hnl h
    rw [if_pos (hk t List.mem_cons_self)] at hs
    obtain ⟨D2, s1, s2, s3, s4⟩ := hs
    have hle := h.le
    simp only [List.length_cons] at hle
    obtain ⟨D', o1, o2, o3, o4⟩ := openGo_two hnl r (i + 1) D2 (acc ++ (knownN t).1.map fun x => (i, x)) (i + 1) s2 (fun x hx => hk x (List.mem_cons_of_mem _ hx))
    refine ⟨D', ?_, o2, fun n k hn => ?_, fun j x hj => ?_⟩
    · rw [List.length_cons, List.range'_succ, openGo, s1, if_neg (by simp)]
      show openGo nm (List.range' (i + 1) r.length) D2 _ _ = _
      rw [o1]
      have e : recsOf (segsT i (t :: r)) = ((knownN t).1.map fun x => (i, x)) ++ recsOf (segsT (i + 1) r) := by simp [recsOf, segsT]
      have e2 : (if t :: r = [] then num else i + (t :: r).length) = i + (r.length + 1) := if_neg (by simp)
      have e3 : (if r = [] then i + 1 else i + 1 + r.length) = i + (r.length + 1) := by
        by_cases hr : r = []
        · rw [if_pos hr, hr]; rfl
        · rw [if_neg hr]; omega
      rw [e, List.append_assoc, e3]
      rw [List.length_cons] at e2
      rw [e2]
    · rw [o3 n k (by omega), s3 n k (by omega) (by omega)]
    · cases j with
      | zero =>
        simp at hj
        subst hj
        rw [Nat.add_zero, o3 i ackK (by omega)]
        exact s4
      | succ j =>
        rw [show i + (j + 1) = i + 1 + j by omega]
        exact o4 j x (by rw [List.getElem?_cons_succ] at hj; exact hj)
theorem openGo_two_bad {nm : List Nat} (hnl : nm.length ≤ 8) : ∀ (ts : List (List Nat × List Nat)) (i : Nat) (D : Dk) (acc : List (Nat × List Nat)) (num : Nat), TwoIs D nm i ts → (∃ t ∈ ts, (knownN t).2.2 = false) →
    ∃ D', openGo nm (List.range' i ts.length) D acc num = (D', 9, [], 0)
  | [], _, _, _, _, _, ⟨t, ht, _⟩ => by cases ht
  | t :: r, i, D, acc, num, h, hk => by
    have hs := seg_two hnl h
    by_cases h1 : (knownN t).2.2 = true
    · rw [if_pos h1] at hs
      obtain ⟨D2, s1, s2, s3, s4⟩ := hs
      obtain ⟨x, hx, hx2⟩ := hk
      have hxr : x ∈ r := by
        rcases List.mem_cons.1 hx with e | e
        · rw [e, h1] at hx2; cases hx2
        · exact e
      obtain ⟨D', o1⟩ := openGo_two_bad hnl r (i + 1) D2 (acc ++ (knownN t).1.map fun x => (i, x)) (i + 1) s2 ⟨x, hxr, hx2⟩
      refine ⟨D', ?_⟩
      rw [List.length_cons, List.range'_succ, openGo, s1, if_neg (by simp)]
      exact o1
    · rw [if_neg h1] at hs
      refine ⟨D, ?_⟩
      rw [List.length_cons, List.range'_succ, openGo, hs, if_pos (by simp)]
/-- Files appended to a new disk. -/
structure AppIs (D : Dk) (ts : List (List Nat × List Nat)) : Prop where
  calm : D.calm
  nd : (D.files.map (·.1)).Nodup
  room : D.room = 1048576
  used : D.used ≤ 4000 * (ts.length : Int)
  few : D.files.length ≤ 2 * ts.length
  log : ∀ j t, ts[j]? = some t → D.get (fileN [119] j logK) = some ⟨t.1, 0⟩
  ack : ∀ j t, ts[j]? = some t → D.get (fileN [119] j ackK) = some ⟨t.2, 0⟩
  own : ∀ x, (D.get x).isSome = true → ∃ j, j < ts.length ∧ (x = fileN [119] j logK ∨ x = fileN [119] j ackK)
theorem AppIs.nil : AppIs (Dk.new 1048576) [] := ⟨⟨rfl, rfl⟩, by simp [Dk.new], rfl, by simp [Dk.new, Dk.used, usedL], by simp [Dk.new], fun j t h => by simp at h, fun j t h => by simp at h, fun x hx => by cases hx⟩
theorem AppIs.app {D : Dk} {ts : List (List Nat × List Nat)} {t : List Nat × List Nat} (h : AppIs D ts) (hl : ts.length < 6) (h1 : t.1.length ≤ 2000) (h2 : t.2.length ≤ 2000) :
    D.appendE (fileN [119] ts.length logK) t.1 = 0 ∧ (D.append (fileN [119] ts.length logK) t.1).appendE (fileN [119] ts.length ackK) t.2 = 0 ∧ AppIs ((D.append (fileN [119] ts.length logK) t.1).append (fileN [119] ts.length ackK) t.2) (ts ++ [t]) := by
  have hlg := name_ok (nm := [119]) (n := ts.length) (k := logK) (by simp) (by omega) rfl
  have hak := name_ok (nm := [119]) (n := ts.length) (k := ackK) (by simp) (by omega) rfl
  have hfew := h.few
  have hused := h.used
  have hroom := h.room
  have hno : ∀ k, (k = logK ∨ k = ackK) → D.get (fileN [119] ts.length k) = none := fun k hk => by
    cases e : D.get (fileN [119] ts.length k) with
    | none => rfl
    | some f =>
      exfalso
      obtain ⟨j, hj, e2⟩ := h.own _ (by rw [e]; rfl)
      have : ts.length = j := by rcases e2 with e2 | e2 <;> exact (fileN_inj (by omega) (by omega) e2).1
      omega
  have hne : fileN [119] ts.length ackK ≠ fileN [119] ts.length logK := fun e => by
    have := (fileN_inj (by omega) (by omega) e).2
    revert this
    decide
  obtain ⟨lg, hlg0⟩ : ∃ x, x = fileN [119] ts.length logK := ⟨_, rfl⟩
  obtain ⟨ak, hak0⟩ : ∃ x, x = fileN [119] ts.length ackK := ⟨_, rfl⟩
  have hnl := hno logK (.inl rfl)
  have hna := hno ackK (.inr rfl)
  rw [← hlg0] at hlg hne hnl
  rw [← hak0] at hak hne hna
  rw [← hlg0, ← hak0]
  have hf1 : D.fileOf lg = ⟨[], 0⟩ := by rw [fileOf_eq, hnl]; rfl
  have E1 := appendE_calm (s := t.1) h.calm hlg (.inr (by omega)) (by rw [hf1]; show 0 + _ ≤ _; omega) (by omega)
  have g1 := get_append E1
  have c1 := append_calm (a := lg) (s := t.1) h.calm
  have n1 := append_nodup (a := lg) (s := t.1) h.nd
  have u1 := append_used h.nd E1
  have r1 := append_room D lg t.1
  have l1 := append_len D lg t.1
  rw [hf1] at g1
  obtain ⟨E, hE⟩ : ∃ E, E = D.append lg t.1 := ⟨_, rfl⟩
  rw [← hE] at g1 c1 n1 u1 r1 l1
  rw [← hE]
  have hga : E.get ak = none := by rw [g1, if_neg hne, hna]
  have hf2 : E.fileOf ak = ⟨[], 0⟩ := by rw [fileOf_eq, hga]; rfl
  have E2 := appendE_calm (s := t.2) c1 hak (.inr (by omega)) (by rw [hf2]; show 0 + _ ≤ _; omega) (by omega)
  have g2 := get_append E2
  have u2 := append_used n1 E2
  have r2 := append_room E ak t.2
  have l2 := append_len E ak t.2
  rw [hf2] at g2
  have old : ∀ j, j < ts.length → ∀ k, (k = logK ∨ k = ackK) → (E.append ak t.2).get (fileN [119] j k) = D.get (fileN [119] j k) := fun j hj k hk => by
    rw [g2, if_neg (fun e => by rw [hak0] at e; have := (fileN_inj (by omega) (by omega) e).1; omega), g1, if_neg (fun e => by rw [hlg0] at e; have := (fileN_inj (by omega) (by omega) e).1; omega)]
  refine ⟨E1, E2, ⟨append_calm c1, append_nodup n1, by rw [r2, r1, hroom], ?_, ?_, fun j x hj => ?_, fun j x hj => ?_, fun x hx => ?_⟩⟩
  · rw [u2, u1, List.length_append, List.length_singleton]
    omega
  · rw [List.length_append, List.length_singleton]
    omega
  · by_cases e : j < ts.length
    · rw [old j e _ (.inl rfl)]
      exact h.log j x (by rwa [List.getElem?_append_left e] at hj)
    · have hlt := (List.getElem?_eq_some_iff.1 hj).1
      rw [List.length_append, List.length_singleton] at hlt
      obtain rfl : j = ts.length := by omega
      rw [List.getElem?_append_right (Nat.le_refl _), Nat.sub_self] at hj
      simp at hj
      subst hj
      rw [← hlg0, g2, if_neg (fun e => hne e.symm), g1, if_pos rfl, List.nil_append]
  · by_cases e : j < ts.length
    · rw [old j e _ (.inr rfl)]
      exact h.ack j x (by rwa [List.getElem?_append_left e] at hj)
    · have hlt := (List.getElem?_eq_some_iff.1 hj).1
      rw [List.length_append, List.length_singleton] at hlt
      obtain rfl : j = ts.length := by omega
      rw [List.getElem?_append_right (Nat.le_refl _), Nat.sub_self] at hj
      simp at hj
      subst hj
      rw [← hak0, g2, if_pos rfl, List.nil_append]
  · rw [List.length_append, List.length_singleton]
    by_cases e1 : x = ak
    · exact ⟨ts.length, by omega, .inr (by rw [e1, hak0])⟩
    · rw [g2, if_neg e1, g1] at hx
      by_cases e2 : x = lg
      · exact ⟨ts.length, by omega, .inl (by rw [e2, hlg0])⟩
      · rw [if_neg e2] at hx
        obtain ⟨j, hj, e⟩ := h.own x hx
        exact ⟨j, by omega, e⟩
theorem AppIs.own_nm {D : Dk} {ts : List (List Nat × List Nat)} (h : AppIs D ts) (hl : ts.length ≤ 6) : ∀ p ∈ D.files, OwnNm [119] p.1 := by
  intro p hp
  obtain ⟨j, hj, e⟩ := h.own p.1 (mem_names.1 (List.mem_map.2 ⟨p, hp, rfl⟩))
  rcases e with e | e
  · exact ⟨j, logB, by omega, .inl rfl, e⟩
  · exact ⟨j, ackB, by omega, .inr (.inl rfl), e⟩
theorem AppIs.nums {D : Dk} {ts : List (List Nat × List Nat)} (h : AppIs D ts) (hl : ts.length ≤ 6) : numsL [119] (D.files.map (·.1)) = List.range' 0 ts.length := by
  refine inc_eq numsL_inc (by rw [← List.range_eq_range']; exact List.pairwise_lt_range) fun n => ?_
  rw [numsL_mem, ← List.range_eq_range', List.mem_range]
  constructor
  · rintro ⟨h1, h2⟩
    have key : ∀ k : List Nat, fileN [119] n (46 :: k) ∈ D.files.map (·.1) → n < ts.length := fun k hk => by
      obtain ⟨j, hj, e⟩ := h.own _ (mem_names.1 hk)
      have : n = j := by rcases e with e | e <;> exact (fileN_inj h1 (by omega) e).1
      omega
    exact h2.elim (key _) (key _)
  · intro hn
    obtain ⟨t, ht⟩ : ∃ t, ts[n]? = some t := ⟨_, List.getElem?_eq_getElem hn⟩
    refine ⟨by omega, .inl (mem_names.2 ?_)⟩
    show (D.get (fileN [119] n logK)).isSome = true
    rw [h.log n t ht]
    rfl
theorem AppIs.two {D : Dk} {ts : List (List Nat × List Nat)} (h : AppIs D ts) (hl : ts.length ≤ 6) : TwoIs D [119] 0 ts := by
  have h1 := h.few
  have h2 := h.used
  have h3 := h.room
  refine ⟨h.calm, h.nd, by omega, fun j t hj => ?_, fun j t hj => ⟨_, by rw [Nat.zero_add]; exact h.ack j t hj, rfl⟩, by omega, by omega⟩
  unfold Dk.datN
  rw [Nat.zero_add, h.log j t hj]
  rfl
theorem AppIs.opens {D : Dk} {ts : List (List Nat × List Nat)} (h : AppIs D ts) (hl : ts.length ≤ 6) (hk : ∀ t ∈ ts, (knownN t).2.2 = true) :
    ∃ D', openW D [119] = (D', 0, recsOf (segsT 0 ts), ts.length) ∧ D'.off = false ∧ ∀ j t, ts[j]? = some t → ∃ f, D'.get (fileN [119] j ackK) = some f ∧ f.data = if (knownN t).2.1 then markN (4294967296 + (knownN t).1.length) else t.2 := by
  obtain ⟨D', o1, o2, -, o4⟩ := openGo_two (by simp) ts 0 D [] 0 (h.two hl) hk
  refine ⟨D', ?_, o2, fun j t hj => by have := o4 j t hj; rwa [Nat.zero_add] at this⟩
  unfold openW
  rw [h.nums hl, o1]
  by_cases e : ts = []
  · rw [if_pos e, e]; rfl
  · rw [if_neg e, Nat.zero_add]; rfl
theorem AppIs.opens_bad {D : Dk} {ts : List (List Nat × List Nat)} (h : AppIs D ts) (hl : ts.length ≤ 6) (hk : ∃ t ∈ ts, (knownN t).2.2 = false) : ∃ D', openW D [119] = (D', 9, [], 0) := by
  obtain ⟨D', o1⟩ := openGo_two_bad (by simp) ts 0 D [] 0 (h.two hl) hk
  refine ⟨D', ?_⟩
  unfold openW
  rw [h.nums hl, o1]
end Go.Proofs.YtnlepoplncjliaaGreatDoor

namespace Go.Proofs.YtnlepoplncjliaaGreatDoor
open Go.RowKit

/-- What lies below a bound stays. -/
structure Bf (B : Nat) (w w' : World) : Prop where
  below : Below (min B w.heap.size) w w'
section
variable {B : Nat} {w w' w'' : World}
theorem Bf.refl (B : Nat) (w : World) : Bf B w w := ⟨Below.refl _ _⟩
theorem Bf.size (h : Bf B w w') : w.heap.size ≤ w'.heap.size := h.below.size
theorem Bf.trans (h : Bf B w w') (k : Bf B w' w'') : Bf B w w'' := ⟨h.below.trans (k.below.mono (by have := h.size; omega))⟩
theorem Bf.bf (h : Bf B w w') (k : Bf B w' w'') : Bf B w w'' := h.trans k
theorem Bf.lf (h : Bf B w w') (k : Lf B w' w'') : Bf B w w'' := h.trans ⟨k.below⟩
theorem Bf.df (h : Bf B w w') (k : Df B w' w'') : Bf B w w'' := h.trans ⟨k.below⟩
theorem Bf.step (h : Bf B w w') (k : Below w'.heap.size w' w'') : Bf B w w'' := h.trans ⟨k.mono (Nat.min_le_right _ _)⟩
theorem Bf.put {B' g : Nat} {T : TypeId} {cur cs : Array Value} (h : Bf B w w') (k : Blk w' g T cur) (p : Put w' w'' g T cs) (e : B' ≤ g) (ht : B ≤ B' ∨ w.heap.size ≤ B' := by omega) : Bf B w w'' := ⟨h.below.trans (p.below (by omega) k.lt)⟩
theorem Bf.app {B2 B3 n size : Nat} {e : TypeId} {v : Value} {xs : List Value} (h : Bf B w w') (_o : Own w' B2 e size v n xs) (ha : App w' w'' B3 v) (ht : B ≤ B3 ∨ w.heap.size ≤ B3 := by omega) : Bf B w w'' := ⟨h.below.trans (ha.below.mono (by omega))⟩
theorem Bf.to (h : Bf B w w') (hB : B ≤ w.heap.size) : Below B w w' := by have := h.below; rwa [Nat.min_eq_left hB] at this
theorem Gv.bf (h : Gv w) (f : Bf B w w') (hB : 4 < B := by omega) : Gv w' := h.below f.below (by have := tab_lt h.pow; omega)
theorem Gv.app {B2 B3 n size : Nat} {e : TypeId} {v : Value} {xs : List Value} (h : Gv w) (_o : Own w B2 e size v n xs) (ha : App w w' B3 v) (hB : 4 < B3 := by omega) : Gv w' := h.below ha.below hB
end
/-- A log under way, and what must be there. -/
def runCs (gd g6 : Nat) (v : Value) (num : Int) (has : Bool) : Array Value := #[.pointer (some ⟨gd, 0, none⟩), .pointer (some ⟨g6, 0, none⟩), v, .int .i64 num, .bool has]
/-- A log under way, in its blocks. -/
structure RunAt (w : World) (B gr : Nat) (D : Dk) (W : Wl) (segs : List (Nat × List (List Nat))) : Prop where
  ex : ∃ gd g6 v, Blk w gr 59 (runCs gd g6 v (W.num : Int) (decide (0 < W.count))) ∧ DkAt w B gd D ∧ Blk w g6 80 (W.cs gd [119]) ∧ Own w B 36 2 v (recsOf segs).length (recsV (recsOf segs)) ∧ B ≤ g6
  hr : B ≤ gr
theorem RunAt.step {w w' : World} {B gr : Nat} {D : Dk} {W : Wl} {segs : List (Nat × List (List Nat))} (h : RunAt w B gr D W segs) (hb : Below w.heap.size w w') : RunAt w' B gr D W segs := by
  obtain ⟨⟨gd, g6, v, h1, h2, h3, h4, h5⟩, h6⟩ := h
  exact ⟨⟨gd, g6, v, h1.step hb, h2.step hb, h3.step hb, h4.step hb, h5⟩, h6⟩
theorem same_self (A A' : Option Addr) (n c n' c' B : Nat) (l : List (Nat × List Nat)) (w : World) (hr : Reads w B 2 A n (recsV l)) (hr' : Reads w B 2 A' n' (recsV l)) (hB : B ≤ w.heap.size) (hb : ∀ r ∈ l, Byt r.2) (hn : n ≤ 1000000000) (hn' : n' ≤ 1000000000) :
    Calls Tryz.prog 16 #[.slice A n c, .slice A' n' c'] w fun e w' => e = .returned (.bool true) ∧ Grow w w' := by
  have h := same_any A A' n c n' c' B l l w hr hr' hB hb hb hn hn'
  rw [decide_eq_true rfl] at h
  exact h
end Go.Proofs.YtnlepoplncjliaaGreatDoor

namespace Go.Proofs.YtnlepoplncjliaaGreatDoor
open Go.RowKit

/-- An act. -/
structure ActV where
  kind : Int
  n : Int
  data : List Nat
def ActV.cs (a : ActV) : List Value := [.int .i64 a.kind, .int .i64 a.n, .string (strOf a.data)]
def ActV.v (a : ActV) : Value := .agg #[.int .i64 a.kind, .int .i64 a.n, .string (strOf a.data)]
/-- A log's block and its disk. -/
structure WkAt (w : World) (B gd g6 : Nat) (D : Dk) (W : Wl) : Prop where
  k : Blk w g6 80 (W.cs gd [119])
  dk : DkAt w B gd D
theorem WkAt.step {w w' : World} {B gd g6 : Nat} {D : Dk} {W : Wl} (h : WkAt w B gd g6 D W) (hb : Below w.heap.size w w') : WkAt w' B gd g6 D W := ⟨h.k.step hb, h.dk.step hb⟩
def nthW (W0 W1 : Wl) (c : Nat) : Wl := if c = 0 then W0 else W1
end Go.Proofs.YtnlepoplncjliaaGreatDoor

namespace Go.Proofs.YtnlepoplncjliaaGreatDoor
open Go.RowKit

/-- Acts, laid flat. -/
def acsV (l : List ActV) : List Value := l.flatMap ActV.cs
theorem acsV_at {l : List ActV} {i : Nat} {r : ActV} (h : l[i]? = some r) : ∀ (j : Nat) (v : Value), r.cs[j]? = some v → (acsV l)[i * 3 + j]? = some v := by
  intro j v hj
  have hj2 : j < 3 := (List.getElem?_eq_some_iff.1 hj).1
  induction l generalizing i with
  | nil => cases h
  | cons x l ih =>
    have e : acsV (x :: l) = x.cs ++ acsV l := by simp [acsV]
    have hx : x.cs.length = 3 := rfl
    cases i with
    | zero =>
      injection h with h
      subst h
      rw [e, Nat.zero_mul, Nat.zero_add, List.getElem?_append_left (by omega)]
      exact hj
    | succ i =>
      rw [e, List.getElem?_append_right (by omega)]
      have := ih (i := i) (by simpa using h)
      rw [show (i + 1) * 3 + j - x.cs.length = i * 3 + j by omega]
      exact this
theorem acsV_len (a : List ActV) : (acsV a).length = a.length * 3 := by
  induction a with
  | nil => rfl
  | cons x a ih => simp only [acsV, List.flatMap_cons, List.length_append, List.length_cons] at ih ⊢; rw [ih]; simp [ActV.cs]; omega
theorem Reads.act {w wr : World} {B n i : Nat} {A : Option Addr} {l : List ActV} {r : ActV} (h : Reads w B 3 A n (acsV l)) (hb : Below B w wr) (hf : l[i]? = some r) : ∃ ad, A = some ad ∧ ad.block < B ∧ i < n ∧ ∀ (j : Nat) (v : Value), r.cs[j]? = some v → wr.cell? ((ad.add (i * 3)).add j) = some v := by
  have hl := h.1
  rw [acsV_len] at hl
  have hi := (List.getElem?_eq_some_iff.1 hf).1
  have hin : i < n := by omega
  obtain ⟨ad, rfl, hbl, hc⟩ := h.2 (by omega)
  exact ⟨ad, rfl, hbl, hin, fun j v hj => by
    rw [addr_add2]
    exact (hb.cell (by rw [block_of_add]; exact hbl)).trans (hc _ _ (acsV_at hf j v hj))⟩
/-- Whether there is more than is asked of. -/
def greatL (l : List ActV) : Bool := decide (20 < l.length) || l.any fun a => decide (300 < a.data.length)
theorem RunAt.mono {w : World} {B B' gr : Nat} {D : Dk} {W : Wl} {segs : List (Nat × List (List Nat))} (h : RunAt w B gr D W segs) (hB : B' ≤ B) : RunAt w B' gr D W segs := by
  obtain ⟨⟨gd, g6, v, h1, h2, h3, h4, h5⟩, h6⟩ := h
  exact ⟨⟨gd, g6, v, h1, h2.mono hB, h3, h4.mono hB, Nat.le_trans hB h5⟩, Nat.le_trans hB h6⟩
end Go.Proofs.YtnlepoplncjliaaGreatDoor

namespace Go.Proofs.YtnlepoplncjliaaGreatDoor
open Go.RowKit

section
variable {P : Program} {ops : Array Oper} {Q : Exit → Act → World → Prop} {n : Nat} {F0 : List (Nat × Value)} {G : World → World → Prop} {w0 : World} {CH : List Nat} {J : Nat → World → Prop} {L : List Nat} {B : Env → Prop} {k : Nat} {Γ : Env} {o : Oper} {r : List Oper} {v : Value}
theorem wanted_of {a : Act} {w : World} {jg tg : Nat} {b : Bool} (hu : uniq Γ = true) (hg : o.guard = some (jg, b)) (ht : (ops[jg]?).bind (·.dst) = some tg) (hb : evX [] F0 Γ o (.tmp tg) = some (.bool b)) (h5 : Facts Γ (· ∈ direct o) a w) (h6 : ∀ t v, look F0 t = some v → a.tmps[t]? = some v) : Region.wanted o (yielded ops a.tmps) = true := by
  have hv : a.tmps[tg]? = some (.bool b) := by
    have := evX_spec hu h5 h6 (fun t v ht => by cases ht) _ _ hb
    cases hh : a.tmps[tg]? with
    | none => simp [Act.eval, hh, undef] at this
    | some u => simp [Act.eval, hh] at this; rw [this]
  unfold Region.wanted yielded
  simp only [hg, ht, Option.bind_some, hv]
  simp
theorem DJ.valG {jg tg : Nat} {b : Bool} (hp : posC CH k = none) (Gr : ∀ w, G w w) (hu : uniq Γ = true) (hrun : ∀ w, G w0 w → Runs P (evX [] F0 Γ o) o w v w) (hg : o.guard = some (jg, b)) (ht : (ops[jg]?).bind (·.dst) = some tg) (hb : evX [] F0 Γ o (.tmp tg) = some (.bool b)) (hr : DrJ P ops Q n F0 G w0 CH J L B (k + 1) r ((k, o.dst, .eq v) :: Γ)) (hl : memB L k = false := by rfl) : DrJ P ops Q n F0 G w0 CH J L B k (o :: r) Γ :=
  ⟨.eq v, trivial, (by
    intro a w c h1 h2 h3 h4 h5 h6
    rw [if_pos (wanted_of hu hg ht hb h5 h6)]
    unfold Oper.wp
    rw [hrun w h2 a.eval (evX_spec hu h5 h6 (fun t v ht => by cases ht)), Oper.upon_value]
    refine ⟨v, rfl, Gr w, rfl, ?_⟩
    unfold nextC
    rw [hp]
    exact h3), (fun h => by rw [hl] at h; cases h), hr⟩
theorem DJ.chainG {fn : FuncId} {args : Array Value} {jg tg : Nat} {b : Bool} (c : Nat) (hp : posC CH k = some c) (hu : uniq Γ = true) (he : ∀ w, Enters P (evX [] F0 Γ o) o w fn args) (hg : o.guard = some (jg, b)) (ht : (ops[jg]?).bind (·.dst) = some tg) (hb : evX [] F0 Γ o (.tmp tg) = some (.bool b)) (hc : ∀ w, G w0 w → J c w → Calls P fn args w fun e w' => e = .returned v ∧ G w w' ∧ J (c + 1) w')
    (hr : DrJ P ops Q n F0 G w0 CH J L B (k + 1) r ((k, o.dst, .eq v) :: Γ)) (hl : memB L k = false := by rfl) : DrJ P ops Q n F0 G w0 CH J L B k (o :: r) Γ :=
  ⟨.eq v, trivial, (by
    intro a w c2 h1 h2 h3 h4 h5 h6
    rw [if_pos (wanted_of hu hg ht hb h5 h6)]
    obtain rfl := h4 c hp
    unfold Oper.wp
    rw [he w a.eval (evX_spec hu h5 h6 (fun t v ht => by cases ht)), Oper.upon_enter]
    exact (hc w h2 h3).mono fun e w' ⟨e1, e2, e3⟩ => by
      subst e1
      refine ⟨v, rfl, e2, rfl, ?_⟩
      unfold nextC
      rw [hp]
      exact e3), (fun h => by rw [hl] at h; cases h), hr⟩
theorem DJ.chainV (c : Nat) (hp : posC CH k = some c) (hu : uniq Γ = true) (hrun : ∀ w, G w0 w → Runs P (evX [] F0 Γ o) o w v w) (Gr : ∀ w, G w w) (hg : o.guard = none) (hJ : ∀ w, J c w → J (c + 1) w) (hr : DrJ P ops Q n F0 G w0 CH J L B (k + 1) r ((k, o.dst, .eq v) :: Γ)) (hl : memB L k = false := by rfl) : DrJ P ops Q n F0 G w0 CH J L B k (o :: r) Γ :=
  ⟨.eq v, trivial, (by
    intro a w c2 h1 h2 h3 h4 h5 h6
    rw [if_pos (by simp [Region.wanted, hg])]
    obtain rfl := h4 c hp
    unfold Oper.wp
    rw [hrun w h2 a.eval (evX_spec hu h5 h6 (fun t v ht => by cases ht)), Oper.upon_value]
    refine ⟨v, rfl, Gr w, rfl, ?_⟩
    unfold nextC
    rw [hp]
    exact hJ w h3), (fun h => by rw [hl] at h; cases h), hr⟩
end
/-- Segments' files, laid flat. -/
def twoCs (t : List Nat × List Nat) : List Value := [.string (strOf t.1), .string (strOf t.2)]
def twosV (l : List (List Nat × List Nat)) : List Value := l.flatMap twoCs
theorem twosV_at {l : List (List Nat × List Nat)} {i : Nat} {r : List Nat × List Nat} (h : l[i]? = some r) : ∀ (j : Nat) (v : Value), (twoCs r)[j]? = some v → (twosV l)[i * 2 + j]? = some v := by
  intro j v hj
  have hj2 : j < 2 := (List.getElem?_eq_some_iff.1 hj).1
  induction l generalizing i with
  | nil => cases h
  | cons x l ih =>
    have e : twosV (x :: l) = twoCs x ++ twosV l := by simp [twosV]
    have hx : (twoCs x).length = 2 := rfl
    cases i with
    | zero =>
      injection h with h
      subst h
      rw [e, Nat.zero_mul, Nat.zero_add, List.getElem?_append_left (by omega)]
      exact hj
    | succ i =>
      rw [e, List.getElem?_append_right (by omega)]
      have := ih (i := i) (by simpa using h)
      rw [show (i + 1) * 2 + j - (twoCs x).length = i * 2 + j by omega]
      exact this
theorem twosV_len (a : List (List Nat × List Nat)) : (twosV a).length = a.length * 2 := by
  induction a with
  | nil => rfl
  | cons x a ih => simp only [twosV, List.flatMap_cons, List.length_append, List.length_cons] at ih ⊢; rw [ih]; simp [twoCs]; omega
theorem Reads.two {w : World} {B n i : Nat} {A : Option Addr} {l : List (List Nat × List Nat)} {r : List Nat × List Nat} (h : Reads w B 2 A n (twosV l)) (hf : l[i]? = some r) : ∃ ad, A = some ad ∧ ad.block < B ∧ i < n ∧ ∀ wr, Below B w wr → ∀ (j : Nat) (v : Value), (twoCs r)[j]? = some v → wr.cell? ((ad.add (i * 2)).add j) = some v := by
  have hl := h.1
  rw [twosV_len] at hl
  have hi := (List.getElem?_eq_some_iff.1 hf).1
  have hin : i < n := by omega
  obtain ⟨ad, rfl, hbl, hc⟩ := h.2 (by omega)
  exact ⟨ad, rfl, hbl, hin, fun wr hb j v hj => by
    rw [addr_add2]
    exact (hb.cell (by rw [block_of_add]; exact hbl)).trans (hc _ _ (twosV_at hf j v hj))⟩
theorem allGo_byt : ∀ (f : Nat) (s : List Nat), Byt s → ∀ r ∈ (allGo f s).1, Byt r
  | 0, s, _ => by simp [allGo]
  | f + 1, s, h => by
    intro r hr
    unfold allGo at hr
    split at hr
    · cases hr
    split at hr
    · cases hr
    rcases List.mem_cons.1 hr with e | e
    · rw [e]; exact openN_lt h
    · exact allGo_byt f _ (h.drop _) r e
theorem knownN_byt {t : List Nat × List Nat} (h : Byt t.1) : ∀ r ∈ (knownN t).1, Byt r := by
  intro r hr
  have key := allGo_byt t.1.length t.1 h
  unfold knownN at hr
  split at hr
  · cases hr
  split at hr
  · exact key r (List.mem_of_mem_take hr)
  · exact key r hr
theorem segsT_snoc (t : List Nat × List Nat) : ∀ (a : List (List Nat × List Nat)) (i : Nat), segsT i (a ++ [t]) = segsT i a ++ [(i + a.length, (knownN t).1)]
  | [], i => by simp [segsT]
  | x :: a, i => by
    rw [List.cons_append, segsT, segsT_snoc t a (i + 1), segsT, List.length_cons, List.cons_append]
    rw [show i + 1 + a.length = i + (a.length + 1) by omega]
theorem segsT_byt : ∀ (a : List (List Nat × List Nat)) (i : Nat), (∀ t ∈ a, Byt t.1) → ∀ r ∈ recsOf (segsT i a), Byt r.2
  | [], i, _ => by simp [segsT, recsOf]
  | t :: a, i, h => by
    intro r hr
    have e : recsOf (segsT i (t :: a)) = ((knownN t).1.map fun x => (i, x)) ++ recsOf (segsT (i + 1) a) := by simp [recsOf, segsT]
    rw [e] at hr
    rcases List.mem_append.1 hr with h1 | h1
    · obtain ⟨x, hx, rfl⟩ := List.mem_map.1 h1
      exact knownN_byt (h t List.mem_cons_self) x hx
    · exact segsT_byt a (i + 1) (fun x hx => h x (List.mem_cons_of_mem _ hx)) r h1
theorem segsT_len : ∀ (a : List (List Nat × List Nat)) (i : Nat), (∀ t ∈ a, t.1.length ≤ 2000) → (recsOf (segsT i a)).length ≤ 2000 * a.length
  | [], i, _ => by simp [segsT, recsOf]
  | t :: a, i, h => by
    have e : recsOf (segsT i (t :: a)) = ((knownN t).1.map fun x => (i, x)) ++ recsOf (segsT (i + 1) a) := by simp [recsOf, segsT]
    rw [e, List.length_append, List.length_map, List.length_cons]
    have h1 := segsT_len a (i + 1) (fun x hx => h x (List.mem_cons_of_mem _ hx))
    have h2 := knownN_len t
    have h3 := h t List.mem_cons_self
    omega
def nthD (D D1 D2 : Dk) (c : Nat) : Dk := if c = 0 then D else if c ≤ 3 then D1 else D2
/-- Whether a segment is corrupt. -/
def anyBad (l : List (List Nat × List Nat)) : Bool := l.any fun t => !(knownN t).2.2
set_option maxHeartbeats 8000000 in
theorem walk_opens (B : Nat) (A : Option Addr) (n c : Nat) (l : List (List Nat × List Nat)) (w : World) (hB : B = w.heap.size) (gv : Gv w) (hr : Reads w B 2 A n (twosV l)) (hl : ∀ t ∈ l, Byt t.1 ∧ Byt t.2) :
    Calls Tryz.prog 4 #[.slice A n c] w fun e w' => e = .returned (.bool true) ∧ Grow w w' := by
  have bf := Bf.refl B w
  have hgw := tab_lt gv.pow
  have hBle : B ≤ w.heap.size := Nat.le_of_eq hB
  rw [← hB] at hgw
  have done : ∀ w', Bf B w w' → Grow w w' := fun w' h => by
    have := h.to hBle
    rwa [hB] at this
  have hln : l.length = n := by have := hr.1; rw [twosV_len] at this; omega
  refine Calls.start 175 Tryz.func4 rfl rfl rfl ?_
  refine Cd.seq ?_
  refine Cd.region ?_
  refine Seq.val (Runs.assign rfl rfl) rfl rfl rfl ?_
  refine Seq.nil ?_
  refine Post.weak (F' := [(0, _), (2, _)]) ⟨rfl, rfl, trivial⟩ ?_
  refine Post.then_ ?_
  refine Cd.seq ?_
  refine Cd.seq ?_
  refine Cd.region ?_
  refine Seq.val (Runs.move rfl rfl) rfl rfl rfl ?_
  refine Seq.val (Runs.len rfl rfl Tryz.underlying39) rfl rfl rfl ?_
  refine Seq.val (Runs.gtr rfl rfl rfl) rfl rfl rfl ?_
  refine Seq.val (Runs.move rfl rfl) rfl rfl rfl ?_
  refine SeqC.start ?_
  refine SeqC.openC rfl rfl rfl rfl rfl rfl rfl (fun hcx => Enters.func rfl rfl rfl (run_enter Tryz.func11 (by kernel_rfl) rfl)) (fun hcx => awake_any _ gv) ?_
  intro w1 hw1
  replace bf := bf.step hw1
  replace gv := gv.step hw1
  refine SeqC.next rfl rfl rfl rfl rfl rfl rfl (fun hcx => Runs.not rfl rfl) ?_
  refine SeqC.or rfl rfl rfl rfl rfl rfl rfl ?_
  refine Seq.nil ?_
  refine Post.weak (F' := [(0, _), (2, _), (27, _)]) ⟨rfl, rfl, rfl, trivial⟩ ?_
  refine Post.then_ ?_
  refine Cd.cond rfl (fun h => ?_) (fun h => ?_)
  · skip
    refine Cd.seq ?_
    refine Cd.region ?_
    refine Seq.call (Enters.func rfl rfl rfl (run_enter Tryz.func11 (by kernel_rfl) rfl)) rfl rfl rfl (awake_any _ gv) ?_
    rintro e w5 ⟨rfl, hb5⟩
    refine ⟨_, rfl, ?_⟩
    replace bf := bf.step hb5
    replace gv := gv.step hb5
    refine Seq.val (Runs.assign rfl rfl) rfl rfl rfl ?_
    refine Seq.nil ?_
    refine Post.weak (F' := [(0, _), (2, _), (27, _)]) ⟨rfl, rfl, rfl, trivial⟩ ?_
    refine Post.then_ ?_
    refine Cd.ret ?_
    refine Post.then_ret ?_
    refine Post.end1 rfl rfl (.inl rfl) ?_
    exact ⟨rfl, done _ bf⟩
  have h : ¬ (6 : Int) < (n : Int) := by simpa using h
  refine Cd.skip ?_
  refine Post.then_ ?_
  refine Cd.seq ?_
  refine Cd.region ?_
  have hsz0 := Nat.le_trans hBle bf.size
  refine Seq.call (Enters.func rfl rfl rfl (run_enter Tryz.func12 (by kernel_rfl) rfl)) rfl rfl rfl (new_any 1048576 _ (by omega) (by omega)) ?_
  rintro e w5 ⟨gd, rfl, dk, hb5⟩
  refine ⟨_, rfl, ?_⟩
  replace dk := dk.mono hsz0
  replace bf := bf.step hb5
  replace gv := gv.step hb5
  refine Seq.val (Runs.assign rfl rfl) rfl rfl rfl ?_
  refine Seq.nil ?_
  refine Post.weak (F' := [(0, _), (2, _), (3, _), (27, _)]) ⟨rfl, rfl, rfl, rfl, trivial⟩ ?_
  refine Post.then_ ?_
  refine Cd.seq ?_
  refine Cd.region ?_
  refine Seq.val (Runs.assign rfl rfl) rfl rfl rfl ?_
  refine Seq.nil ?_
  refine Post.weak (F' := [(0, _), (2, _), (3, _), (4, _), (27, _)]) ⟨rfl, rfl, rfl, rfl, rfl, trivial⟩ ?_
  refine Post.then_ ?_
  refine Cd.seq ?_
  refine Cd.region ?_
  refine Seq.val (Runs.assign rfl rfl) rfl rfl rfl ?_
  refine Seq.nil ?_
  refine Post.weak (F' := [(0, _), (2, _), (3, _), (4, _), (5, _), (27, _)]) ⟨rfl, rfl, rfl, rfl, rfl, rfl, trivial⟩ ?_
  refine Post.then_ ?_
  refine Cd.seq ?_
  refine Cd.seq ?_
  refine Cd.region ?_
  refine Seq.val (Runs.assign rfl rfl) rfl rfl rfl ?_
  refine Seq.nil ?_
  refine Post.weak (F' := [(0, _), (2, _), (3, _), (4, _), (5, _), (6, _), (27, _)]) ⟨rfl, rfl, rfl, rfl, rfl, rfl, rfl, trivial⟩ ?_
  refine Post.then_ ?_
  refine Cd.block ?_
  refine Cd.loop (σ := Nat × Dk × Value) (fun q => [(0, .slice A n c), (3, .pointer (some ⟨gd, 0, none⟩)), (4, q.2.2), (5, .bool (anyBad (l.take q.1))), (6, .int .i64 (q.1 : Int))]) (fun q wr => q.1 ≤ n ∧ AppIs q.2.1 (l.take q.1) ∧ (∀ t ∈ l.take q.1, t.1.length ≤ 2000 ∧ t.2.length ≤ 2000) ∧ DkAt wr B gd q.2.1 ∧ Bf B w wr ∧ Gv wr ∧ Own wr B 36 2 q.2.2 (recsOf (segsT 0 (l.take q.1))).length (recsV (recsOf (segsT 0 (l.take q.1))))) (fun q => n - q.1) (0, Dk.new 1048576, .slice none 0 0) ⟨Nat.zero_le _, AppIs.nil, (fun t ht => by cases ht), dk, bf, gv, Own.nil _ _ _ _⟩ ⟨rfl, rfl, rfl, rfl, rfl, trivial⟩ ?_
  clear dk bf gv
  rintro ⟨i, D, v⟩ wr ⟨hi, hA, hlen, dk, bf, gv, own⟩
  simp only at hi hA hlen dk own
  obtain ⟨A4, c4, rfl, -⟩ := own.reads
  show Cd _ _ _ _ [(0, .slice A n c), (3, .pointer (some ⟨gd, 0, none⟩)), (4, .slice A4 (recsOf (segsT 0 (l.take i))).length c4), (5, .bool (anyBad (l.take i))), (6, .int .i64 (i : Int))] _
  refine Cd.seq ?_
  refine Cd.seq ?_
  refine Cd.region ?_
  refine Seq.val (Runs.move rfl rfl) rfl rfl rfl ?_
  refine Seq.val (Runs.move rfl rfl) rfl rfl rfl ?_
  refine Seq.val (Runs.len rfl rfl Tryz.underlying39) rfl rfl rfl ?_
  refine Seq.val (Runs.lss rfl rfl rfl) rfl rfl rfl ?_
  refine Seq.nil ?_
  refine Post.weak (F' := [(0, _), (3, _), (4, _), (5, _), (6, _), (33, _)]) ⟨rfl, rfl, rfl, rfl, rfl, rfl, trivial⟩ ?_
  refine Post.then_ ?_
  refine Cd.condD rfl (fun hc => ?_) (fun hc => ?_)
  · obtain ⟨t, ht⟩ : ∃ t, l[i]? = some t := ⟨_, List.getElem?_eq_getElem (by omega)⟩
    have htm := List.mem_of_getElem? ht
    obtain ⟨hb1, hb2⟩ := hl t htm
    obtain ⟨ad, rfl, -, -, hcl⟩ := hr.two ht
    have hcl0 := fun wr (hb : Bf B w wr) => hcl wr (hb.to hBle) 0 _ rfl
    have hcl1 := fun wr (hb : Bf B w wr) => hcl wr (hb.to hBle) 1 _ rfl
    refine Cd.skip ?_
    refine Post.then_ ?_
    refine Cd.seq ?_
    refine Cd.block ?_
    refine Cd.seq ?_
    refine Cd.seq ?_
    refine Cd.region ?_
    refine Seq.val (Runs.move rfl rfl) rfl rfl rfl ?_
    refine Seq.val (Runs.move rfl rfl) rfl rfl rfl ?_
    refine Seq.val (Runs.indexN rfl rfl rfl Tryz.underlying39 (s := 2) (by kernel_rfl) (j := i) rfl (by omega)) rfl rfl rfl ?_
    refine Seq.val (Runs.fieldA 0 rfl rfl Tryz.underlying41 rfl (by kernel_rfl)) rfl rfl rfl ?_
    refine Seq.val (Runs.load1 rfl rfl Tryz.underlying9 rfl (hcl0 _ bf)) rfl rfl rfl ?_
    refine Seq.val (Runs.lenL rfl rfl Tryz.underlying9) rfl rfl rfl ?_
    refine Seq.val (Runs.gtr rfl rfl rfl) rfl rfl rfl ?_
    refine Seq.val (Runs.move rfl rfl) rfl rfl rfl ?_
    refine SeqC.start ?_
    refine SeqC.open rfl rfl rfl rfl rfl rfl rfl (fun hcx => Runs.move rfl rfl) ?_
    refine SeqC.next rfl rfl rfl rfl rfl rfl rfl (fun hcx => Runs.move rfl rfl) ?_
    refine SeqC.next rfl rfl rfl rfl rfl rfl rfl (fun hcx => Runs.indexN rfl rfl rfl Tryz.underlying39 (s := 2) (by kernel_rfl) (j := i) rfl (by omega)) ?_
    refine SeqC.next rfl rfl rfl rfl rfl rfl rfl (fun hcx => Runs.fieldA 1 rfl rfl Tryz.underlying41 rfl (by kernel_rfl)) ?_
    refine SeqC.next rfl rfl rfl rfl rfl rfl rfl (fun hcx => Runs.load1 rfl rfl Tryz.underlying9 rfl (hcl1 _ bf)) ?_
    refine SeqC.next rfl rfl rfl rfl rfl rfl rfl (fun hcx => Runs.lenL rfl rfl Tryz.underlying9) ?_
    refine SeqC.next rfl rfl rfl rfl rfl rfl rfl (fun hcx => Runs.gtr rfl rfl rfl) ?_
    refine SeqC.or rfl rfl rfl rfl rfl rfl rfl ?_
    refine Seq.nil ?_
    refine Post.weak (F' := [(0, _), (3, _), (4, _), (5, _), (6, _), (33, _), (51, _)]) ⟨rfl, rfl, rfl, rfl, rfl, rfl, rfl, trivial⟩ ?_
    refine Post.then_ ?_
    refine Cd.cond rfl (fun h => ?_) (fun h => ?_)
    · skip
      refine Cd.seq ?_
      refine Cd.region ?_
      refine Seq.val (Runs.assign rfl rfl) rfl rfl rfl ?_
      refine Seq.nil ?_
      refine Post.weak (F' := [(0, _), (2, _), (3, _), (4, _), (5, _), (6, _), (33, _), (51, _)]) ⟨rfl, rfl, rfl, rfl, rfl, rfl, rfl, rfl, trivial⟩ ?_
      refine Post.then_ ?_
      refine Cd.ret ?_
      refine Post.then_ret ?_
      refine Post.block_ret ?_
      refine Post.then_ret ?_
      refine Post.round_ret ?_
      refine Post.block_ret ?_
      refine Post.then_ret ?_
      refine Post.end1 rfl rfl (.inl rfl) ?_
      exact ⟨rfl, done _ bf⟩
    have h : t.1.length ≤ 2000 ∧ t.2.length ≤ 2000 := by simp at h; omega
    obtain ⟨h1, h2⟩ := h
    obtain ⟨E1, E2, hA2⟩ := hA.app (t := t) (by rw [List.length_take]; omega) h1 h2
    have hti : (l.take i).length = i := by rw [List.length_take]; omega
    rw [hti] at E1 E2 hA2
    rw [← take_last ht] at hA2
    obtain ⟨D1, hD1⟩ : ∃ D1, D1 = D.append (fileN [119] i logK) t.1 := ⟨_, rfl⟩
    rw [← hD1] at E2 hA2
    obtain ⟨D2, hD2⟩ : ∃ D2, D2 = D1.append (fileN [119] i ackK) t.2 := ⟨_, rfl⟩
    rw [← hD2] at hA2
    have hfb : ∀ k, Byt k → Byt (fileN [119] i k) := fun k hk => fileN_byt i (byt_one (by omega)) hk
    have hfl : ∀ k : List Nat, k.length = 4 → (fileN [119] i k).length ≤ 100 := fun k hk => by
      rw [fileN_len (by omega)]
      simp
      omega
    refine Cd.skip ?_
    refine Post.then_ ?_
    refine Cd.seq ?_
    refine Cd.seq ?_
    have dk0 : DkAt _ B gd (nthD D D1 D2 0) := dk
    clear dk
    have hc1 : ∀ w, DkAt w B gd D → Calls Tryz.prog 17 #[.pointer (some ⟨gd, 0, none⟩), .string (strOf (fileN [119] i logK)), .string (strOf t.1)] w fun e w' => e = .returned (.int .i64 0) ∧ Df B w w' ∧ DkAt w' B gd D1 := fun w dk => (append_d_any B gd D (fileN [119] i logK) t.1 w dk (hfb _ (show ∀ d ∈ logK, d < 256 by decide)) hb1 (by have := hfl logK rfl; omega) (by omega)).mono fun e w' ⟨x1, x2, x3⟩ => ⟨by rw [x1, E1], x3, by rw [hD1]; exact x2⟩
    have hc2 : ∀ w, DkAt w B gd D1 → Calls Tryz.prog 18 #[.int .i64 (i : Int), .string (strOf ackB)] w fun e w' => e = .returned (.string (strOf (fileN [119] i ackK))) ∧ Df B w w' ∧ DkAt w' B gd D1 := fun w dk => (name_any i ackB w (by omega) (by decide)).mono fun e w' ⟨x1, x2⟩ => ⟨x1, Df.grow x2, dk.step x2⟩
    have hc3 : ∀ w, DkAt w B gd D1 → Calls Tryz.prog 17 #[.pointer (some ⟨gd, 0, none⟩), .string (strOf (fileN [119] i ackK)), .string (strOf t.2)] w fun e w' => e = .returned (.int .i64 0) ∧ Df B w w' ∧ DkAt w' B gd D2 := fun w dk => (append_d_any B gd D1 (fileN [119] i ackK) t.2 w dk (hfb _ (show ∀ d ∈ ackK, d < 256 by decide)) hb2 (by have := hfl ackK rfl; omega) (by omega)).mono fun e w' ⟨x1, x2, x3⟩ => ⟨by rw [x1, E2], x3, by rw [hD2]; exact x2⟩
    refine Cd.drawJ 22 (by kernel_rfl) [] [8, 10, 13, 19] (fun i h => by cases h) rfl rfl (.inl rfl) rfl (Df B) (Df.refl _) (fun _ _ _ => Df.trans) (fun c w' => DkAt w' B gd (nthD D D1 D2 c)) ?_
    intro w2 hw2 zw2
    replace bf := bf.step hw2
    replace gv := gv.step hw2
    replace own := own.step hw2
    replace dk0 := dk0.step hw2
    refine ⟨dk0, ?_⟩
    refine DJ.val rfl (Df.refl _) rfl (fun w hG => Runs.move rfl rfl) rfl ?_
    refine DJ.val rfl (Df.refl _) rfl (fun w hG => Runs.move rfl rfl) rfl ?_
    refine DJ.of (f := .eq _) rfl (fun _ _ h => Df.grow h) (fun _ _ _ h hj => hj.step h) trivial (fun w hG => Dr.callV rfl (fun w => Enters.func rfl rfl rfl (run_enter Tryz.func18 (by kernel_rfl) rfl)) rfl (fun w hG => name_any i logB w (by omega) (by decide)) rfl) ?_
    refine DJ.val rfl (Df.refl _) rfl (fun w hG => Runs.move rfl rfl) rfl ?_
    refine DJ.val rfl (Df.refl _) rfl (fun w hG => Runs.move rfl rfl) rfl ?_
    refine DJ.val rfl (Df.refl _) rfl (fun w hG => Runs.indexN rfl rfl rfl Tryz.underlying39 (s := 2) (by kernel_rfl) (j := i) rfl (by omega)) rfl ?_
    refine DJ.val rfl (Df.refl _) rfl (fun w hG => Runs.fieldA 0 rfl rfl Tryz.underlying41 rfl (by kernel_rfl)) rfl ?_
    refine DJ.val rfl (Df.refl _) rfl (fun w hG => Runs.load1 rfl rfl Tryz.underlying9 rfl (hcl0 _ (bf.df hG))) rfl ?_
    refine DJ.chain 0 rfl rfl (fun w => Enters.func rfl rfl rfl (run_enter Tryz.func17 (by kernel_rfl) rfl)) rfl (fun w hG dk0 => hc1 w dk0) ?_
    refine DJ.val rfl (Df.refl _) rfl (fun w hG => Runs.neqI rfl rfl rfl) rfl ?_
    refine DJ.chainV 1 rfl rfl (fun w hG => Runs.move rfl rfl) (Df.refl _) rfl (fun w h => h) ?_
    refine DJ.valG rfl (Df.refl _) rfl (fun w hG => Runs.move rfl rfl) rfl rfl rfl ?_
    refine DJ.valG rfl (Df.refl _) rfl (fun w hG => Runs.move rfl rfl) rfl rfl rfl ?_
    refine DJ.chainG 2 rfl rfl (fun w => Enters.func rfl rfl rfl (run_enter Tryz.func18 (by kernel_rfl) rfl)) rfl rfl rfl (fun w hG dk0 => hc2 w dk0) ?_
    refine DJ.valG rfl (Df.refl _) rfl (fun w hG => Runs.move rfl rfl) rfl rfl rfl ?_
    refine DJ.valG rfl (Df.refl _) rfl (fun w hG => Runs.move rfl rfl) rfl rfl rfl ?_
    refine DJ.valG rfl (Df.refl _) rfl (fun w hG => Runs.indexN rfl rfl rfl Tryz.underlying39 (s := 2) (by kernel_rfl) (j := i) rfl (by omega)) rfl rfl rfl ?_
    refine DJ.valG rfl (Df.refl _) rfl (fun w hG => Runs.fieldA 1 rfl rfl Tryz.underlying41 rfl (by kernel_rfl)) rfl rfl rfl ?_
    refine DJ.valG rfl (Df.refl _) rfl (fun w hG => Runs.load1 rfl rfl Tryz.underlying9 rfl (hcl1 _ (bf.df hG))) rfl rfl rfl ?_
    refine DJ.chainG 3 rfl rfl (fun w => Enters.func rfl rfl rfl (run_enter Tryz.func17 (by kernel_rfl) rfl)) rfl rfl rfl (fun w hG dk0 => hc3 w dk0) ?_
    refine DJ.valG rfl (Df.refl _) rfl (fun w hG => Runs.neqI rfl rfl rfl) rfl rfl rfl ?_
    refine DJ.val rfl (Df.refl _) rfl (fun w hG => Runs.pickF rfl rfl rfl) rfl ?_
    refine FinX.done (F' := [(0, _), (3, _), (4, _), (5, _), (6, _), (33, _), (51, _), (73, _)]) rfl ⟨rfl, rfl, rfl, rfl, rfl, rfl, rfl, rfl, trivial⟩ ?_
    intro w3 hw3 fw3
    replace bf := bf.df hw3
    replace gv := gv.df hw3
    replace own := own.df hw3
    clear dk0
    have dk0 := fw3
    have dk : DkAt _ B gd D2 := dk0
    clear dk0
    refine Seq.nil ?_
    refine Post.weak (F' := [(0, _), (3, _), (4, _), (5, _), (6, _), (33, _), (51, _), (73, _)]) ⟨rfl, rfl, rfl, rfl, rfl, rfl, rfl, rfl, trivial⟩ ?_
    refine Post.then_ ?_
    refine Cd.condF rfl rfl ?_
    refine Cd.skip ?_
    refine Post.then_ ?_
    refine Cd.seq ?_
    refine Cd.region ?_
    refine Seq.val (Runs.move rfl rfl) rfl rfl rfl ?_
    refine Seq.val (Runs.move rfl rfl) rfl rfl rfl ?_
    refine Seq.val (Runs.indexN rfl rfl rfl Tryz.underlying39 (s := 2) (by kernel_rfl) (j := i) rfl (by omega)) rfl rfl rfl ?_
    refine Seq.val (Runs.loadCs rfl rfl Tryz.underlying41 rfl (m := 2) (ps := twoCs t) (by kernel_rfl) rfl (hcl _ (bf.to hBle))) rfl rfl rfl ?_
    have hBw := Nat.le_trans hBle bf.size
    refine Seq.call (Enters.func rfl rfl rfl (run_enter Tryz.func19 (by kernel_rfl) rfl)) rfl rfl rfl (known_any t.1 t.2 _ hb1 hb2 h1 h2) ?_
    rintro e w7 ⟨v7, rfl, own7, hb7⟩
    refine ⟨_, rfl, ?_⟩
    replace own7 := own7.mono hBw
    replace bf := bf.step hb7
    replace gv := gv.step hb7
    replace own := own.step hb7
    replace dk := dk.step hb7
    obtain ⟨K, hK⟩ : ∃ K, K = (knownN t).1 := ⟨_, rfl⟩
    have hK' : (knownN (t.1, t.2)).1 = K := hK.symm
    rw [hK'] at own7
    obtain ⟨A7, c7, rfl, -⟩ := own7.reads
    have hKl : 12 * K.length ≤ 2000 := by rw [hK]; have := knownN_len t; omega
    have hrl := segsT_len (l.take i) 0 (fun t ht => (hlen t ht).1)
    rw [hti] at hrl
    obtain ⟨R, hR⟩ : ∃ R, R = recsOf (segsT 0 (l.take i)) := ⟨_, rfl⟩
    rw [← hR] at hrl own
    have hR2 : recsOf (segsT 0 (l.take (i + 1))) = R ++ K.map fun x => (i, x) := by
      rw [take_last ht, segsT_snoc, recsOf_app, ← hR, hti, Nat.zero_add, ← hK]
      simp [recsOf]
    have hbad : anyBad (l.take (i + 1)) = (anyBad (l.take i) || !(knownN (t.1, t.2)).2.2) := by
      unfold anyBad
      rw [take_last ht, List.any_append]
      simp
    rw [← hR]
    refine Seq.val (Runs.move rfl rfl) rfl rfl rfl ?_
    refine Seq.val (Runs.extract rfl rfl rfl) rfl rfl rfl ?_
    refine Seq.val (Runs.extract rfl rfl rfl) rfl rfl rfl ?_
    refine Seq.val (Runs.extract rfl rfl rfl) rfl rfl rfl ?_
    refine Seq.val (Runs.assign rfl rfl) rfl rfl rfl ?_
    refine Seq.val (Runs.assign rfl rfl) rfl rfl rfl ?_
    refine Seq.val (Runs.assign rfl rfl) rfl rfl rfl ?_
    refine Seq.nil ?_
    refine Post.weak (F' := [(0, _), (3, _), (4, _), (5, _), (6, _), (7, _), (9, _), (33, _), (51, _), (73, _)]) ⟨rfl, rfl, rfl, rfl, rfl, rfl, rfl, rfl, rfl, rfl, trivial⟩ ?_
    refine Post.then_ ?_
    refine Cd.seq ?_
    refine Cd.region ?_
    refine Seq.val (Runs.move rfl rfl) rfl rfl rfl ?_
    refine Seq.val (Runs.move rfl rfl) rfl rfl rfl ?_
    refine SeqC.start ?_
    refine SeqC.open rfl rfl rfl rfl rfl rfl rfl (fun hcx => Runs.move rfl rfl) ?_
    refine SeqC.next rfl rfl rfl rfl rfl rfl rfl (fun hcx => Runs.not rfl rfl) ?_
    refine SeqC.or rfl rfl rfl rfl rfl rfl rfl ?_
    refine Seq.val (Runs.assign rfl rfl) rfl rfl rfl ?_
    refine Seq.nil ?_
    refine Post.weak (F' := [(0, _), (3, _), (4, _), (5, _), (6, _), (7, _), (9, _), (33, _), (51, _), (73, _)]) ⟨rfl, rfl, rfl, rfl, rfl, rfl, rfl, rfl, rfl, rfl, trivial⟩ ?_
    refine Post.then_ ?_
    refine Cd.seq ?_
    refine Cd.region ?_
    refine Seq.val (Runs.assign rfl rfl) rfl rfl rfl ?_
    refine Seq.nil ?_
    refine Post.weak (F' := [(0, _), (3, _), (4, _), (5, _), (6, _), (7, _), (9, _), (10, _), (33, _), (51, _), (73, _)]) ⟨rfl, rfl, rfl, rfl, rfl, rfl, rfl, rfl, rfl, rfl, rfl, trivial⟩ ?_
    refine Post.then_ ?_
    refine Cd.block ?_
    obtain ⟨cb, hcb⟩ : ∃ cb, cb = anyBad (l.take (i + 1)) := ⟨_, rfl⟩
    rw [← hbad, ← hcb]
    refine Cd.loop (σ := Nat × Value) (fun q => [(0, .slice (some ad) n c), (3, .pointer (some ⟨gd, 0, none⟩)), (4, q.2), (5, .bool cb), (6, .int .i64 (i : Int)), (7, .slice A7 K.length c7), (10, .int .i64 (q.1 : Int))]) (fun q wr => q.1 ≤ K.length ∧ DkAt wr B gd D2 ∧ Bf B w wr ∧ Gv wr ∧ Own wr B 9 1 (.slice A7 K.length c7) K.length (Ts K) ∧ Own wr B 36 2 q.2 (R ++ (K.take q.1).map fun x => (i, x)).length (recsV (R ++ (K.take q.1).map fun x => (i, x)))) (fun q => K.length - q.1) (0, .slice A4 R.length c4) ⟨Nat.zero_le _, dk, bf, gv, own7, by simp only [List.take_zero, List.map_nil, List.append_nil]; exact own⟩ ⟨rfl, rfl, rfl, rfl, rfl, rfl, rfl, trivial⟩ ?_
    clear dk bf gv own own7
    rintro ⟨k, v⟩ wr ⟨hk, dk, bf, gv, own7, own⟩
    simp only at hk own
    have hkl : (R ++ (K.take k).map fun x => (i, x)).length = R.length + k := by rw [List.length_append, List.length_map, List.length_take]; omega
    rw [hkl] at own
    obtain ⟨A4', c4', rfl, -⟩ := own.reads
    show Cd _ _ _ _ [(0, .slice (some ad) n c), (3, .pointer (some ⟨gd, 0, none⟩)), (4, .slice A4' (R.length + k) c4'), (5, .bool cb), (6, .int .i64 (i : Int)), (7, .slice A7 K.length c7), (10, .int .i64 (k : Int))] _
    refine Cd.seq ?_
    refine Cd.seq ?_
    refine Cd.region ?_
    refine Seq.val (Runs.move rfl rfl) rfl rfl rfl ?_
    refine Seq.val (Runs.move rfl rfl) rfl rfl rfl ?_
    refine Seq.val (Runs.len rfl rfl Tryz.underlying22) rfl rfl rfl ?_
    refine Seq.val (Runs.lss rfl rfl rfl) rfl rfl rfl ?_
    refine Seq.nil ?_
    refine Post.weak (F' := [(0, _), (3, _), (4, _), (5, _), (6, _), (7, _), (10, _), (91, _)]) ⟨rfl, rfl, rfl, rfl, rfl, rfl, rfl, rfl, trivial⟩ ?_
    refine Post.then_ ?_
    refine Cd.condD rfl (fun hc => ?_) (fun hc => ?_)
    · obtain ⟨x, hx⟩ : ∃ x, K[k]? = some x := ⟨_, List.getElem?_eq_getElem (by omega)⟩
      obtain ⟨A7', c7', hv7, hr7⟩ := own7.reads
      injection hv7 with e1 _ e2
      subst e1 e2
      obtain ⟨ad7, rfl, -, hcl7⟩ := hr7.2 (by omega)
      have hcx := hcl7 k (.string (strOf x)) (by rw [get_Ts, hx]; rfl)
      have hkk : (K.take (k + 1)).map (fun x => (i, x)) = (K.take k).map (fun x => (i, x)) ++ [(i, x)] := by rw [take_last hx, List.map_append]; rfl
      refine Cd.skip ?_
      refine Post.then_ ?_
      refine Cd.seq ?_
      refine Cd.block ?_
      refine Cd.region ?_
      refine Seq.val (Runs.move rfl rfl) rfl rfl rfl ?_
      refine Seq.val (Runs.move rfl rfl) rfl rfl rfl ?_
      refine Seq.val (Runs.move rfl rfl) rfl rfl rfl ?_
      refine Seq.val (Runs.move rfl rfl) rfl rfl rfl ?_
      refine Seq.val (Runs.index1 rfl rfl rfl Tryz.underlying22 (by kernel_rfl) (j := k) rfl (by omega)) rfl rfl rfl ?_
      refine Seq.val (Runs.load1 rfl rfl Tryz.underlying9 rfl hcx) rfl rfl rfl ?_
      refine Seq.val (Runs.build rfl rfl (run_build_rec (i : Int) x _)) rfl rfl rfl ?_
      refine Seq.slice (vs := [_]) (s := 2) rfl rfl rfl Tryz.underlying29 (by kernel_rfl) (zero_wal_Rec) (by omega) (by omega) ⟨rfl, trivial⟩ rfl rfl rfl ?_
      intro g101 w4 n101
      replace bf := bf.step n101.below
      replace gv := gv.step n101.below
      replace own := own.step n101.below
      replace dk := dk.step n101.below
      replace own7 := own7.step n101.below
      have k101 := n101.blk
      have hrx := Reads.blk (size := 2) k101 1 rfl
      refine Seq.append rfl rfl rfl Tryz.underlying29 (by kernel_rfl) zero_wal_Rec rfl (by decide) (b := 24) (by kernel_rfl) own hrx (ones_recV (i, x)) dk.size (by simp only [maxLen]; omega) (by omega) rfl rfl rfl ?_
      intro v2 wb own2 ha
      replace dk := dk.app own ha
      replace bf := bf.app own ha
      replace own7 := own7.appNe own ha
      replace gv := gv.app own ha
      replace own2 : Own wb B 36 2 v2 (R.length + k + 1) (recsV (R ++ (K.take k).map fun x => (i, x)) ++ recsV [(i, x)]) := own2
      have hkl2 : (R ++ (K.take (k + 1)).map fun x => (i, x)).length = R.length + k + 1 := by rw [List.length_append, List.length_map, List.length_take]; omega
      rw [← recsV_app, List.append_assoc, ← hkk, ← hkl2] at own2
      clear own k101 hrx ha
      refine Seq.val (Runs.assign rfl rfl) rfl rfl rfl ?_
      refine Seq.nil ?_
      refine Post.weak (F' := [(0, _), (3, _), (4, _), (5, _), (6, _), (7, _), (10, _), (91, _)]) ⟨rfl, rfl, rfl, rfl, rfl, rfl, rfl, rfl, trivial⟩ ?_
      refine Post.block_normal ?_
      refine Post.then_ ?_
      refine Cd.region ?_
      refine Seq.val (Runs.move rfl rfl) rfl rfl rfl ?_
      refine Seq.val (Runs.addI rfl rfl rfl (by omega) (by omega)) rfl rfl rfl ?_
      refine Seq.val (Runs.assign rfl rfl) rfl rfl rfl ?_
      refine Seq.nil ?_
      refine Post.weak (F' := [(0, _), (3, _), (4, _), (5, _), (6, _), (7, _), (10, _), (91, _)]) ⟨rfl, rfl, rfl, rfl, rfl, rfl, rfl, rfl, trivial⟩ ?_
      exact Post.round (k + 1, v2) ⟨rfl, rfl, rfl, rfl, rfl, rfl, int_at (by omega), trivial⟩ ⟨by simp only; omega, dk, bf, gv, own7, own2⟩ (by simp only; omega)
    obtain rfl : k = K.length := by omega
    have own' := own
    have hlen2 : (recsOf (segsT 0 (l.take (i + 1)))).length = R.length + K.length := by rw [hR2, List.length_append, List.length_map]
    rw [List.take_of_length_le (Nat.le_refl _), ← hR2, ← hlen2] at own'
    refine Cd.exit ?_
    refine Post.then_exit ?_
    refine Post.round_exit ?_
    refine Post.block_exit ?_
    refine Post.block_normal ?_
    refine Post.then_ ?_
    refine Cd.region ?_
    refine Seq.val (Runs.move rfl rfl) rfl rfl rfl ?_
    refine Seq.val (Runs.addI rfl rfl rfl (by omega) (by omega)) rfl rfl rfl ?_
    refine Seq.val (Runs.assign rfl rfl) rfl rfl rfl ?_
    refine Seq.nil ?_
    refine Post.weak (F' := [(0, _), (3, _), (4, _), (5, _), (6, _), (7, _), (10, _), (91, _)]) ⟨rfl, rfl, rfl, rfl, rfl, rfl, rfl, rfl, trivial⟩ ?_
    refine Post.round (i + 1, D2, .slice A4' (recsOf (segsT 0 (l.take (i + 1)))).length c4') ⟨rfl, rfl, by rw [hlen2]; rfl, by rw [hcb]; rfl, int_at (by omega), trivial⟩ ⟨by simp only; omega, hA2, ?_, dk, bf, gv, own'⟩ (by simp only; omega)
    intro x hx
    simp only at hx
    rw [take_last ht] at hx
    rcases List.mem_append.1 hx with hx | hx
    · exact hlen x hx
    · simp at hx; subst hx; exact ⟨h1, h2⟩
  obtain rfl : i = n := by omega
  have htl : l.take i = l := List.take_of_length_le (by omega)
  rw [htl] at hA hlen own
  have hrl := segsT_len l 0 (fun t ht => (hlen t ht).1)
  have hbyt := segsT_byt l 0 (fun t ht => (hl t ht).1)
  have hl6 : l.length ≤ 6 := by omega
  rw [htl]
  obtain ⟨R, hR⟩ : ∃ R, R = recsOf (segsT 0 l) := ⟨_, rfl⟩
  rw [← hR] at own hrl hbyt ⊢
  refine Cd.exit ?_
  refine Post.then_exit ?_
  refine Post.round_exit ?_
  refine Post.block_exit ?_
  refine Post.then_ ?_
  refine Cd.seq ?_
  refine Cd.region ?_
  refine Seq.val (Runs.move rfl rfl) rfl rfl rfl ?_
  refine Seq.call (Enters.func rfl rfl rfl (run_enter Tryz.func13 (by kernel_rfl) rfl)) rfl rfl rfl (open_any B gd D [119] _ gv hgw dk hA.calm.off right_w (byt_one (by omega)) (hA.own_nm hl6)) ?_
  clear dk
  rintro e w2 ⟨v1, v2, rfl, hO, dk, fw2⟩
  refine ⟨_, rfl, ?_⟩
  replace bf := bf.df fw2
  replace gv := gv.df fw2
  replace own := own.df fw2
  cases hbad : anyBad l with
  | true =>
    have hex : ∃ t ∈ l, (knownN t).2.2 = false := by unfold anyBad at hbad; simpa using hbad
    obtain ⟨D', hop⟩ := hA.opens_bad hl6 hex
    rw [hop] at hO dk
    rw [hop]
    rcases hO with ⟨-, rfl, rfl⟩ | ⟨h, -⟩
    · skip
      refine Seq.val (Runs.move rfl rfl) rfl rfl rfl ?_
      refine Seq.val (Runs.extract rfl rfl rfl) rfl rfl rfl ?_
      refine Seq.val (Runs.extract rfl rfl rfl) rfl rfl rfl ?_
      refine Seq.val (Runs.extract rfl rfl rfl) rfl rfl rfl ?_
      refine Seq.val (Runs.assign rfl rfl) rfl rfl rfl ?_
      refine Seq.val (Runs.assign rfl rfl) rfl rfl rfl ?_
      refine Seq.val (Runs.assign rfl rfl) rfl rfl rfl ?_
      refine Seq.nil ?_
      refine Post.weak (F' := [(0, _), (3, _), (4, _), (5, _), (6, _), (11, _), (12, _), (13, _), (33, _)]) ⟨rfl, rfl, rfl, rfl, rfl, rfl, rfl, rfl, rfl, trivial⟩ ?_
      refine Post.then_ ?_
      refine Cd.seq ?_
      refine Cd.seq ?_
      refine Cd.region ?_
      refine Seq.val (Runs.move rfl rfl) rfl rfl rfl ?_
      refine Seq.nil ?_
      refine Post.weak (F' := [(0, _), (3, _), (4, _), (5, _), (6, _), (11, _), (12, _), (13, _), (33, _), (109, _)]) ⟨rfl, rfl, rfl, rfl, rfl, rfl, rfl, rfl, rfl, rfl, trivial⟩ ?_
      refine Post.then_ ?_
      refine Cd.condT rfl rfl ?_
      refine Cd.seq ?_
      refine Cd.region ?_
      refine Seq.val (Runs.move rfl rfl) rfl rfl rfl ?_
      refine Seq.val (Runs.eqlP rfl rfl rfl Tryz.underlying28) rfl rfl rfl ?_
      refine Seq.val (Runs.move rfl rfl) rfl rfl rfl ?_
      refine SeqC.start ?_
      refine SeqC.open rfl rfl rfl rfl rfl rfl rfl (fun hcx => Runs.move rfl rfl) ?_
      refine SeqC.next rfl rfl rfl rfl rfl rfl rfl (fun hcx => Runs.len rfl rfl Tryz.underlying29) ?_
      refine SeqC.next rfl rfl rfl rfl rfl rfl rfl (fun hcx => Runs.eqlI rfl rfl rfl) ?_
      refine SeqC.and rfl rfl rfl rfl rfl rfl rfl ?_
      refine Seq.val (Runs.move rfl rfl) rfl rfl rfl ?_
      refine SeqC.start ?_
      refine SeqC.open rfl rfl rfl rfl rfl rfl rfl (fun hcx => Runs.move rfl rfl) ?_
      refine SeqC.next rfl rfl rfl rfl rfl rfl rfl (fun hcx => Runs.eqlI rfl rfl rfl) ?_
      refine SeqC.and rfl rfl rfl rfl rfl rfl rfl ?_
      refine Seq.val (Runs.assign rfl rfl) rfl rfl rfl ?_
      refine Seq.nil ?_
      refine Post.weak (F' := [(0, _), (2, _), (3, _), (4, _), (5, _), (6, _), (11, _), (12, _), (13, _), (33, _), (109, _)]) ⟨rfl, rfl, rfl, rfl, rfl, rfl, rfl, rfl, rfl, rfl, rfl, trivial⟩ ?_
      refine Post.then_ ?_
      refine Cd.ret ?_
      refine Post.then_ret ?_
      refine Post.end1 rfl rfl (.inl rfl) ?_
      exact ⟨rfl, done _ bf⟩
    · exact absurd (show (9 : Int) = 0 from h) (by decide)
  | false =>
    have hall : ∀ t ∈ l, (knownN t).2.2 = true := by unfold anyBad at hbad; simpa using hbad
    obtain ⟨D', hop, hoff', hacks⟩ := hA.opens hl6 hall
    rw [← hR] at hop
    rw [hop] at hO dk
    rw [hop]
    rcases hO with ⟨h, -, -⟩ | ⟨-, g14, rfl, -, k14, own14⟩
    · exact absurd rfl h
    replace dk : DkAt _ B gd D' := dk
    replace own14 : Own _ _ 36 2 v2 R.length (recsV R) := own14
    replace k14 : Blk _ g14 80 (Wl.cs ⟨l.length, 0, 0, false⟩ gd [119]) := k14
    obtain ⟨A14, c14, rfl, hr14⟩ := own14.reads
    obtain ⟨A4', c4', hv4, hr4⟩ := own.reads
    injection hv4 with e1 _ e2
    subst e1 e2
    refine Seq.val (Runs.move rfl rfl) rfl rfl rfl ?_
    refine Seq.val (Runs.extract rfl rfl rfl) rfl rfl rfl ?_
    refine Seq.val (Runs.extract rfl rfl rfl) rfl rfl rfl ?_
    refine Seq.val (Runs.extract rfl rfl rfl) rfl rfl rfl ?_
    refine Seq.val (Runs.assign rfl rfl) rfl rfl rfl ?_
    refine Seq.val (Runs.assign rfl rfl) rfl rfl rfl ?_
    refine Seq.val (Runs.assign rfl rfl) rfl rfl rfl ?_
    refine Seq.nil ?_
    refine Post.weak (F' := [(0, _), (3, _), (4, _), (5, _), (6, _), (11, _), (12, _), (13, _), (33, _)]) ⟨rfl, rfl, rfl, rfl, rfl, rfl, rfl, rfl, rfl, trivial⟩ ?_
    refine Post.then_ ?_
    refine Cd.seq ?_
    refine Cd.seq ?_
    refine Cd.region ?_
    refine Seq.val (Runs.move rfl rfl) rfl rfl rfl ?_
    refine Seq.nil ?_
    refine Post.weak (F' := [(0, _), (3, _), (4, _), (5, _), (6, _), (11, _), (12, _), (13, _), (33, _), (109, _)]) ⟨rfl, rfl, rfl, rfl, rfl, rfl, rfl, rfl, rfl, rfl, trivial⟩ ?_
    refine Post.then_ ?_
    refine Cd.condF rfl rfl ?_
    refine Cd.skip ?_
    refine Post.then_ ?_
    refine Cd.seq ?_
    refine Cd.seq ?_
    refine Cd.region ?_
    refine Seq.val (Runs.move rfl rfl) rfl rfl rfl ?_
    refine Seq.val (Runs.eqlP rfl rfl rfl Tryz.underlying28) rfl rfl rfl ?_
    refine Seq.val (Runs.move rfl rfl) rfl rfl rfl ?_
    refine SeqC.start ?_
    refine SeqC.open rfl rfl rfl rfl rfl rfl rfl (fun hcx => Runs.move rfl rfl) ?_
    refine SeqC.next rfl rfl rfl rfl rfl rfl rfl (fun hcx => Runs.neqI rfl rfl rfl) ?_
    refine SeqC.or rfl rfl rfl rfl rfl rfl rfl ?_
    refine Seq.val (Runs.move rfl rfl) rfl rfl rfl ?_
    refine SeqC.start ?_
    refine SeqC.open rfl rfl rfl rfl rfl rfl rfl (fun hcx => Runs.move rfl rfl) ?_
    refine SeqC.next rfl rfl rfl rfl rfl rfl rfl (fun hcx => Runs.move rfl rfl) ?_
    refine SeqC.nextC rfl rfl rfl rfl rfl rfl rfl (fun hcx => Enters.func rfl rfl rfl (run_enter Tryz.func16 (by kernel_rfl) rfl)) (fun hcx => same_self A14 A4 _ c14 _ c4 _ R _ hr14 hr4 (Nat.le_refl _) hbyt (by omega) (by omega)) ?_
    intro w3 hw3
    replace bf := bf.step hw3
    replace gv := gv.step hw3
    replace dk := dk.step hw3
    replace own := own.step hw3
    replace k14 := k14.step hw3
    refine SeqC.next rfl rfl rfl rfl rfl rfl rfl (fun hcx => Runs.not rfl rfl) ?_
    refine SeqC.or rfl rfl rfl rfl rfl rfl rfl ?_
    refine Seq.val (Runs.move rfl rfl) rfl rfl rfl ?_
    refine SeqC.start ?_
    refine SeqC.open rfl rfl rfl rfl rfl rfl rfl (fun hcx => Runs.move rfl rfl) ?_
    refine SeqC.nextC rfl rfl rfl rfl rfl rfl rfl (fun hcx => Enters.func rfl rfl rfl (run_enter Tryz.func20 (by kernel_rfl) rfl)) (fun hcx => number_any g14 gd [119] _ _ k14) ?_
    intro w4 hw4
    replace bf := bf.step hw4
    replace gv := gv.step hw4
    replace dk := dk.step hw4
    replace own := own.step hw4
    replace k14 := k14.step hw4
    refine SeqC.next rfl rfl rfl rfl rfl rfl rfl (fun hcx => Runs.move rfl rfl) ?_
    refine SeqC.next rfl rfl rfl rfl rfl rfl rfl (fun hcx => Runs.len rfl rfl Tryz.underlying39) ?_
    refine SeqC.next rfl rfl rfl rfl rfl rfl rfl (fun hcx => Runs.neqI rfl rfl rfl) ?_
    refine SeqC.or rfl rfl rfl rfl rfl rfl rfl ?_
    refine Seq.nil ?_
    refine Post.weak (F' := [(0, _), (3, _), (4, _), (5, _), (6, _), (11, _), (12, _), (13, _), (33, _), (109, _), (139, _)]) ⟨rfl, rfl, rfl, rfl, rfl, rfl, rfl, rfl, rfl, rfl, rfl, trivial⟩ ?_
    refine Post.then_ ?_
    refine Cd.condF rfl (by simp [hln]) ?_
    refine Cd.skip ?_
    refine Post.then_ ?_
    refine Cd.seq ?_
    refine Cd.seq ?_
    refine Cd.region ?_
    refine Seq.val (Runs.assign rfl rfl) rfl rfl rfl ?_
    refine Seq.nil ?_
    refine Post.weak (F' := [(0, _), (3, _), (4, _), (5, _), (6, _), (11, _), (12, _), (13, _), (14, _), (33, _), (109, _), (139, _)]) ⟨rfl, rfl, rfl, rfl, rfl, rfl, rfl, rfl, rfl, rfl, rfl, rfl, trivial⟩ ?_
    refine Post.then_ ?_
    refine Cd.block ?_
    refine Cd.loop (σ := Nat) (fun j => [(0, .slice A i c), (3, .pointer (some ⟨gd, 0, none⟩)), (14, .int .i64 (j : Int))]) (fun j wr => j ≤ i ∧ DkAt wr B gd D' ∧ Bf B w wr ∧ Gv wr) (fun j => i - j) 0 ⟨Nat.zero_le _, dk, bf, gv⟩ ⟨rfl, rfl, rfl, trivial⟩ ?_
    clear dk bf gv own k14 own14 hr14 hr4
    rintro j wr ⟨hj, dk, bf, gv⟩
    refine Cd.seq ?_
    refine Cd.seq ?_
    refine Cd.region ?_
    refine Seq.val (Runs.move rfl rfl) rfl rfl rfl ?_
    refine Seq.val (Runs.move rfl rfl) rfl rfl rfl ?_
    refine Seq.val (Runs.len rfl rfl Tryz.underlying39) rfl rfl rfl ?_
    refine Seq.val (Runs.lss rfl rfl rfl) rfl rfl rfl ?_
    refine Seq.nil ?_
    refine Post.weak (F' := [(0, _), (3, _), (14, _), (143, _)]) ⟨rfl, rfl, rfl, rfl, trivial⟩ ?_
    refine Post.then_ ?_
    refine Cd.condD rfl (fun hc => ?_) (fun hc => ?_)
    · obtain ⟨t, ht⟩ : ∃ t, l[j]? = some t := ⟨_, List.getElem?_eq_getElem (by omega)⟩
      have htm := List.mem_of_getElem? ht
      obtain ⟨hb1, hb2⟩ := hl t htm
      obtain ⟨h1, h2⟩ := hlen t htm
      obtain ⟨ad, rfl, -, -, hcl⟩ := hr.two ht
      have hcl1 := fun wr (hb : Bf B w wr) => hcl wr (hb.to hBle) 1 _ rfl
      obtain ⟨f, hf, hfd⟩ := hacks j t ht
      have hread : D'.readS (fileN [119] j ackK) = if (knownN t).2.1 then markN (4294967296 + (knownN t).1.length) else t.2 := by
        unfold Dk.readS
        rw [hoff', if_neg (by simp), hf, ← hfd]
        rfl
      have hKl := knownN_len t
      have hMb := markN_lt (4294967296 + (knownN t).1.length)
      have hfb := fileN_byt (nm := [119]) (k := ackK) j (byt_one (by omega)) (show ∀ d ∈ ackK, d < 256 by decide)
      refine Cd.skip ?_
      refine Post.then_ ?_
      refine Cd.seq ?_
      refine Cd.block ?_
      refine Cd.seq ?_
      refine Cd.region ?_
      refine Seq.val (Runs.move rfl rfl) rfl rfl rfl ?_
      refine Seq.val (Runs.move rfl rfl) rfl rfl rfl ?_
      refine Seq.val (Runs.indexN rfl rfl rfl Tryz.underlying39 (s := 2) (by kernel_rfl) (j := j) rfl (by omega)) rfl rfl rfl ?_
      refine Seq.val (Runs.loadCs rfl rfl Tryz.underlying41 rfl (m := 2) (ps := twoCs t) (by kernel_rfl) rfl (hcl _ (bf.to hBle))) rfl rfl rfl ?_
      refine Seq.call (Enters.func rfl rfl rfl (run_enter Tryz.func19 (by kernel_rfl) rfl)) rfl rfl rfl (known_any t.1 t.2 _ hb1 hb2 h1 h2) ?_
      rintro e w7 ⟨v7, rfl, own7, hb7⟩
      refine ⟨_, rfl, ?_⟩
      replace bf := bf.step hb7
      replace gv := gv.step hb7
      replace dk := dk.step hb7
      have hkt : knownN (t.1, t.2) = knownN t := rfl
      rw [hkt] at own7
      rw [hkt]
      obtain ⟨A7, c7, rfl, -⟩ := own7.reads
      clear own7
      obtain ⟨kl, hkl⟩ : ∃ kl, kl = (knownN t).1.length := ⟨_, rfl⟩
      obtain ⟨sl, hsl⟩ : ∃ sl, sl = (knownN t).2.1 := ⟨_, rfl⟩
      rw [← hkl] at hread hKl hMb ⊢
      rw [← hsl] at hread ⊢
      refine Seq.val (Runs.move rfl rfl) rfl rfl rfl ?_
      refine Seq.val (Runs.extract rfl rfl rfl) rfl rfl rfl ?_
      refine Seq.val (Runs.extract rfl rfl rfl) rfl rfl rfl ?_
      refine Seq.val (Runs.extract rfl rfl rfl) rfl rfl rfl ?_
      refine Seq.val (Runs.assign rfl rfl) rfl rfl rfl ?_
      refine Seq.val (Runs.assign rfl rfl) rfl rfl rfl ?_
      refine Seq.val (Runs.assign rfl rfl) rfl rfl rfl ?_
      refine Seq.nil ?_
      refine Post.weak (F' := [(0, _), (3, _), (14, _), (15, _), (16, _), (143, _)]) ⟨rfl, rfl, rfl, rfl, rfl, rfl, trivial⟩ ?_
      refine Post.then_ ?_
      refine Cd.seq ?_
      refine Cd.region ?_
      refine Seq.val (Runs.move rfl rfl) rfl rfl rfl ?_
      refine Seq.val (Runs.move rfl rfl) rfl rfl rfl ?_
      refine Seq.call (Enters.func rfl rfl rfl (run_enter Tryz.func18 (by kernel_rfl) rfl)) rfl rfl rfl (name_any j ackB _ (by omega) (by decide)) ?_
      rintro e w8 ⟨rfl, hb8⟩
      refine ⟨_, rfl, ?_⟩
      replace bf := bf.step hb8
      replace gv := gv.step hb8
      replace dk := dk.step hb8
      refine Seq.call (Enters.func rfl rfl rfl (run_enter Tryz.func21 (by kernel_rfl) rfl)) rfl rfl rfl (read_d_any B gd D' (fileN [119] j ackK) _ dk hfb) ?_
      rintro e w9 ⟨rfl, hb9⟩
      refine ⟨_, rfl, ?_⟩
      replace bf := bf.step hb9
      replace gv := gv.step hb9
      replace dk := dk.step hb9
      rw [hread]
      refine Seq.val (Runs.move rfl rfl) rfl rfl rfl ?_
      refine Seq.val (Runs.extract rfl rfl rfl) rfl rfl rfl ?_
      refine Seq.val (Runs.extract rfl rfl rfl) rfl rfl rfl ?_
      refine Seq.val (Runs.assign rfl rfl) rfl rfl rfl ?_
      refine Seq.val (Runs.assign rfl rfl) rfl rfl rfl ?_
      refine Seq.nil ?_
      refine Post.weak (F' := [(0, _), (3, _), (14, _), (15, _), (16, _), (18, _), (143, _)]) ⟨rfl, rfl, rfl, rfl, rfl, rfl, rfl, trivial⟩ ?_
      refine Post.then_ ?_
      refine Cd.seq ?_
      refine Cd.region ?_
      refine Seq.val (Runs.move rfl rfl) rfl rfl rfl ?_
      refine Seq.val (Runs.move rfl rfl) rfl rfl rfl ?_
      refine Seq.val (Runs.indexN rfl rfl rfl Tryz.underlying39 (s := 2) (by kernel_rfl) (j := j) rfl (by omega)) rfl rfl rfl ?_
      refine Seq.val (Runs.fieldA 1 rfl rfl Tryz.underlying41 rfl (by kernel_rfl)) rfl rfl rfl ?_
      refine Seq.val (Runs.load1 rfl rfl Tryz.underlying9 rfl (hcl1 _ bf)) rfl rfl rfl ?_
      refine Seq.val (Runs.assign rfl rfl) rfl rfl rfl ?_
      refine Seq.nil ?_
      refine Post.weak (F' := [(0, _), (3, _), (14, _), (15, _), (16, _), (18, _), (20, _), (143, _)]) ⟨rfl, rfl, rfl, rfl, rfl, rfl, rfl, rfl, trivial⟩ ?_
      refine Post.then_ ?_
      refine Cd.seq ?_
      refine Cd.seq ?_
      refine Cd.region ?_
      refine Seq.val (Runs.move rfl rfl) rfl rfl rfl ?_
      refine Seq.nil ?_
      refine Post.weak (F' := [(0, _), (3, _), (14, _), (15, _), (16, _), (18, _), (20, _), (143, _), (167, _)]) ⟨rfl, rfl, rfl, rfl, rfl, rfl, rfl, rfl, rfl, trivial⟩ ?_
      refine Post.then_ ?_
      refine Cd.cond rfl (fun h => ?_) (fun h => ?_)
      · have h : sl = true := h
        rw [if_pos h]
        refine Cd.region ?_
        refine Seq.val (Runs.move rfl rfl) rfl rfl rfl ?_
        refine Seq.val (Runs.len rfl rfl Tryz.underlying22) rfl rfl rfl ?_
        refine Seq.val ((Runs.addI rfl rfl rfl (by omega) (by omega)).cast (v' := .int .i64 ((4294967296 + kl : Nat) : Int)) (int_eq (by omega))) rfl rfl rfl ?_
        refine Seq.call (Enters.func rfl rfl rfl (run_enter Tryz.func22 (by kernel_rfl) rfl)) rfl rfl rfl (refMark_any (4294967296 + kl) _ (by omega)) ?_
        rintro e w10 ⟨rfl, hb10⟩
        refine ⟨_, rfl, ?_⟩
        replace bf := bf.step hb10
        replace gv := gv.step hb10
        replace dk := dk.step hb10
        refine Seq.val (Runs.assign rfl rfl) rfl rfl rfl ?_
        refine Seq.nil ?_
        refine Post.weak (F' := [(0, _), (3, _), (14, _), (15, _), (16, _), (18, _), (20, _), (143, _), (167, _)]) ⟨rfl, rfl, rfl, rfl, rfl, rfl, rfl, rfl, rfl, trivial⟩ ?_
        refine Post.then_ ?_
        refine Cd.seq ?_
        refine Cd.region ?_
        refine Seq.val (Runs.move rfl rfl) rfl rfl rfl ?_
        refine Seq.val (Runs.move rfl rfl) rfl rfl rfl ?_
        refine Seq.val (Runs.neqL (a := markN (4294967296 + kl)) (b := markN (4294967296 + kl)) rfl rfl rfl hMb hMb) rfl rfl rfl ?_
        refine Seq.nil ?_
        refine Post.weak (F' := [(0, _), (3, _), (14, _), (15, _), (16, _), (18, _), (20, _), (143, _), (167, _), (174, _)]) ⟨rfl, rfl, rfl, rfl, rfl, rfl, rfl, rfl, rfl, rfl, trivial⟩ ?_
        refine Post.then_ ?_
        refine Cd.condF rfl (by simp) ?_
        refine Cd.skip ?_
        refine Post.block_normal ?_
        refine Post.then_ ?_
        refine Cd.region ?_
        refine Seq.val (Runs.move rfl rfl) rfl rfl rfl ?_
        refine Seq.val (Runs.addI rfl rfl rfl (by omega) (by omega)) rfl rfl rfl ?_
        refine Seq.val (Runs.assign rfl rfl) rfl rfl rfl ?_
        refine Seq.nil ?_
        refine Post.weak (F' := [(0, _), (3, _), (14, _), (15, _), (16, _), (18, _), (20, _), (143, _), (167, _), (174, _)]) ⟨rfl, rfl, rfl, rfl, rfl, rfl, rfl, rfl, rfl, rfl, trivial⟩ ?_
        exact Post.round (j + 1) ⟨rfl, rfl, int_at (by omega), trivial⟩ ⟨by omega, dk, bf, gv⟩ (by omega)
      · have h : ¬ sl = true := by
          have h' : sl = false := h
          simp [h']
        rw [if_neg h]
        refine Cd.skip ?_
        refine Post.then_ ?_
        refine Cd.seq ?_
        refine Cd.region ?_
        refine Seq.val (Runs.move rfl rfl) rfl rfl rfl ?_
        refine Seq.val (Runs.move rfl rfl) rfl rfl rfl ?_
        refine Seq.val (Runs.neqL (a := t.2) (b := t.2) rfl rfl rfl hb2 hb2) rfl rfl rfl ?_
        refine Seq.nil ?_
        refine Post.weak (F' := [(0, _), (3, _), (14, _), (15, _), (16, _), (18, _), (20, _), (143, _), (167, _), (174, _)]) ⟨rfl, rfl, rfl, rfl, rfl, rfl, rfl, rfl, rfl, rfl, trivial⟩ ?_
        refine Post.then_ ?_
        refine Cd.condF rfl (by simp) ?_
        refine Cd.skip ?_
        refine Post.block_normal ?_
        refine Post.then_ ?_
        refine Cd.region ?_
        refine Seq.val (Runs.move rfl rfl) rfl rfl rfl ?_
        refine Seq.val (Runs.addI rfl rfl rfl (by omega) (by omega)) rfl rfl rfl ?_
        refine Seq.val (Runs.assign rfl rfl) rfl rfl rfl ?_
        refine Seq.nil ?_
        refine Post.weak (F' := [(0, _), (3, _), (14, _), (15, _), (16, _), (18, _), (20, _), (143, _), (167, _), (174, _)]) ⟨rfl, rfl, rfl, rfl, rfl, rfl, rfl, rfl, rfl, rfl, trivial⟩ ?_
        exact Post.round (j + 1) ⟨rfl, rfl, int_at (by omega), trivial⟩ ⟨by omega, dk, bf, gv⟩ (by omega)
    · skip
      refine Cd.exit ?_
      refine Post.then_exit ?_
      refine Post.round_exit ?_
      refine Post.block_exit ?_
      refine Post.then_ ?_
      refine Cd.seq ?_
      refine Cd.region ?_
      refine Seq.val (Runs.assign rfl rfl) rfl rfl rfl ?_
      refine Seq.nil ?_
      refine Post.weak (F' := [(0, _), (2, _), (3, _), (14, _), (143, _)]) ⟨rfl, rfl, rfl, rfl, rfl, trivial⟩ ?_
      refine Post.then_ ?_
      refine Cd.ret ?_
      refine Post.end1 rfl rfl (.inl rfl) ?_
      exact ⟨rfl, done _ bf⟩
end Go.Proofs.YtnlepoplncjliaaGreatDoor

namespace Go.Proofs.YtnlepoplncjliaaGreatDoor
open Go.ChangeShapes Go.WideShapes Go.Deep Go.RowKit

end Go.Proofs.YtnlepoplncjliaaGreatDoor

namespace Go.Proofs.YtnlepoplncjliaaGreatDoor
open Go.ChangeShapes Go.WideShapes Go.ChangeAt Go.Deep Go.RowKit

theorem laid_tail {P : Program} {W : World} {x : String × DataW Unit} {rest : List (String × DataW Unit)} (h : laidMet P (x :: rest) W) : laidMet P rest W := by
  obtain ⟨ps, ⟨g, t, cs, fuel, p, q, h1, h2, h3, h4, h5, rfl⟩, hn, hi⟩ := h
  exact ⟨q, h5, (List.nodup_append.1 hn).2.1, fun b off hm => hi b off (List.mem_append_right _ hm)⟩
def laidL : List (String × DataW Unit) := Rows.walFullRow.laid
theorem gv_of_laid {W : World} (h : laidMetH Tryz.prog laidL W) (hs : W.ShapedOpen Tryz.prog) : Gv W := by
  rw [MakeChecks.laidMetH_plain _ _ _ (by kernel_rfl)] at h
  have h3 := laid_tail (laid_tail (show laidMet Tryz.prog (_ :: _ :: _) W from h))
  have tn : Lib.TabIs Tryz.prog W "debenture/crc.nibbles" .u32 (nibs.map Int.ofNat) := Lib.tabIs_of_head (rest := _) (g := 3) (by kernel_rfl) (by kernel_rfl) Tryz.underlying195 Tryz.underlying65 (by kernel_rfl) (by kernel_rfl) h3
  have tp : Lib.TabIs Tryz.prog W "internal/strconv.uint64pow10" .u64 Lib.pow10Tab := Lib.tabIs_of_head (rest := _) (g := 4) (by kernel_rfl) (by kernel_rfl) Tryz.underlying214 Tryz.underlying97 (by kernel_rfl) (by kernel_rfl) (laid_tail h3)
  refine ⟨⟨fun i hi => ?_⟩, tp, cell_of_shapedOpen_int (t := 3) (zero := #[.int .i64 0]) hs (of_decide_eq_true (by kernel_rfl)) (by kernel_rfl) rfl (by kernel_rfl) (by kernel_rfl) Tryz.underlying3⟩
  rw [tn.cell (g := 3) (by kernel_rfl) i (by rw [List.length_map]; exact hi)]
  congr 2
  have : ∀ i, i < 16 → (nibs.map Int.ofNat).getD i 0 = ((nibs.getD i 0 : Nat) : Int) := by decide
  exact this i hi
theorem choose_at {α : Type} (n : Nat) (p : Nat → α → Prop) (h : ∀ i, i < n → ∃ f, p i f) : ∃ l : List α, l.length = n ∧ ∀ i f, l[i]? = some f → p i f := by
  induction n with
  | zero => exact ⟨[], rfl, fun i f hf => by simp at hf⟩
  | succ n ih =>
    obtain ⟨l, hl, hp⟩ := ih fun i hi => h i (by omega)
    obtain ⟨x, hx⟩ := h n (by omega)
    refine ⟨l ++ [x], by simp [hl], fun i f hf => ?_⟩
    rcases Nat.lt_or_ge i l.length with h1 | h1
    · rw [List.getElem?_append_left h1] at hf
      exact hp i f hf
    · rw [List.getElem?_append_right h1] at hf
      have h2 : i - l.length = 0 := by
        rcases Nat.eq_zero_or_pos (i - l.length) with h2 | h2
        · exact h2
        · rw [List.getElem?_eq_none (by simp; omega)] at hf; cases hf
      rw [h2] at hf
      injection hf with hf
      subst hf
      have : i = n := by omega
      subst this
      exact hx
theorem strOf_of (s : ByteArray) : ∃ l : List Nat, s = strOf l ∧ Byt l ∧ l.length = s.size := by
  refine ⟨s.data.toList.map UInt8.toNat, ?_, fun c hc => ?_, by rw [List.length_map]; rfl⟩
  · have : (s.data.toList.map UInt8.toNat).map UInt8.ofNat = s.data.toList := by
      rw [List.map_map]
      conv => rhs; rw [← List.map_id s.data.toList]
      exact List.map_congr_left fun b _ => by simp
    unfold strOf
    rw [this]
  · obtain ⟨b, -, rfl⟩ := List.mem_map.1 hc
    exact b.toNat_lt
/-- The wrap for rows that list variables, with what the world's shape says handed on. -/
theorem lift_laid {H : Type} {enc : TypeId × Value → H} {a : Assume} {C : Checked} {os : Os} {f : FuncId} {fn : Func} {s : ChangeSpec} {X : World → Array Value → Prop} {apart fresh handsOn again : Bool}
    (hX : ∀ (w w' : World) (args : Array Value), w.heap = w'.heap → X w args → X w' args) (own : ownKnob C.prog.godebug = none) (started : os.Started) (hi : C.prog.inits.idxOf? f = none) (hfn : C.prog.funcs[f]? = some fn)
    (wit : ∃ (w : World) (tape : Tape) (i : Input), w.os = os ∧ (w.forCall tape i).Shaped C.prog ∧ i.vars = [] ∧ Input.okWide C.prog (w.forCall tape i) .any w.heap.size f i ∧
      ((s.pre enc C.prog fn [] apart (w.forCall tape i).memory i.args ∧ X (w.forCall tape i).memory i.args) ∧ sizedMet enc C.prog fn (OpenSpec.ofChange s) apart (w.forCall tape i).memory i.args) ∧ a.holds C.prog (lone (Frame.enter C.prog f i.args .normal) [] (w.forCall tape i)))
    (walk : ∀ (W : World) (base : Nat) (args : Array Value) (ds gs : List (DataW H)) (before : List MemPlace), (∀ (j : Nat) t v, fn.params[j]? = some t → args[j]? = some v → Value.okWide C.prog W .any base t v) →
      DataW.Whole enc C.prog fn.params.toList s.vars apart W args.toList ds gs before → X W args → W.ShapedOpen C.prog →
      Calls C.prog f args W fun e W' => ∃ v, e = .returned v ∧ s.post enc C.prog fn apart fresh handsOn again W args v W') :
    ReturnsInHanded a C os f .any (fun w args => (s.pre enc C.prog fn [] apart w args ∧ X w args) ∧ sizedMet enc C.prog fn (OpenSpec.ofChange s) apart w args) (s.post enc C.prog fn apart fresh handsOn again) := by
  refine returnsInHanded_of_calls own started hi wit fun w tape i _ hsh _ hok hp _ => ?_
  obtain ⟨⟨⟨ds, gs, before, hw, -⟩, hx⟩, -⟩ := hp
  obtain ⟨_, _, _, fn', hfn', _, _, _, _, hval⟩ := hok
  obtain rfl : fn' = fn := Option.some.inj (hfn'.symm.trans hfn)
  refine (walk _ _ _ ds gs before hval (DataW.Whole.of_heap (by rfl) hw) (hX _ _ _ (by rfl) hx) hsh).mono fun e W' he => ?_
  obtain ⟨v, rfl, hp⟩ := he
  exact ChangeSpec.post_blind hp
theorem own : ownKnob Tryz.prog.godebug = none := by kernel_rfl
theorem laidOut : laidOutB Tryz.prog = true := by kernel_rfl
theorem door_met (os : Os) (args : Array Value) : laidMetH Tryz.prog laidL ((World.doorLaid Tryz.prog 67 os).forCall (fun _ _ => 0) ⟨#[], args, []⟩).memory :=
  laidMetH_of_parts3 (fuel := 8) (laidMet_of_run' 8 (by kernel_rfl) (by kernel_rfl)) (by kernel_rfl) (by kernel_rfl)
end Go.Proofs.YtnlepoplncjliaaGreatDoor

namespace Go.Proofs.YtnlepoplncjliaaGreatDoor
open Go.ChangeShapes Go.WideShapes Go.Deep Go.RowKit

section
variable {H : Type} {enc : TypeId × Value → H} {P : Program} {w : World} {base : Nat} {spare : Nat → Bool} {held : Bool}
theorem open_slice_fields {t e : TypeId} {fs : Array Field} {fuel : Nat} {cs : List Value} {x : DataW H × List MemPlace} (ht : P.underlying t = some (.slice e)) (he : P.underlying e = some (.struct fs))
    (hone : oneCellFields P fs = true) (hC : P.cellsOf e = fs.size) (h : DataW.trod enc P w base spare held fuel t cs = some x) :
    (cs = [.slice none 0 0] ∧ x = (.nil, [])) ∨
    ∃ (a : Addr) (len cap m : Nat) (D : Nat → DataW H) (Pl : Nat → List MemPlace), cs = [.slice (some a) len cap] ∧ base ≤ a.block ∧ len ≤ cap ∧ cap ≤ maxLen ∧ m = (if spare a.block then cap else len) ∧
      x = (.slice ((List.range len).map D) ((List.range (m - len)).map fun j => D (len + j)), MemPlace.row a (m * fs.size) ++ (List.range m).flatMap Pl) ∧
      ∀ i, i < m → ∃ (ys : List (DataW H × List MemPlace)) (n : Nat), D i = .agg (ys.map (·.1)) ∧ Pl i = ys.flatMap (·.2) ∧ ys.length = fs.size ∧
        ∀ (j : Nat) (f : Field), fs[j]? = some f → ∃ (v : Value) (y : DataW H × List MemPlace), w.cell? (a.add (i * fs.size + j)) = some v ∧ ys[j]? = some y ∧ DataW.trod enc P w base spare held n f.type [v] = some y := by
  rcases open_slice ht h with h0 | ⟨a, len, cap, m, n, D, Pl, hcs, hb, hl, hm, hmm, hx, hi⟩
  · exact .inl h0
  · refine .inr ⟨a, len, cap, m, D, Pl, hcs, hb, hl, hm, hmm, by rw [hC] at hx; exact hx, fun i him => ?_⟩
    obtain ⟨cs', hc, ht'⟩ := hi i him
    rw [hC] at hc
    obtain ⟨ys, n', hn', hy, hlen, hyl, hf⟩ := DataW.trod_struct he ht'
    obtain ⟨_, hcl, hat⟩ := World.cells?_some hc
    simp only [Prod.mk.injEq] at hy
    refine ⟨ys, n', hy.1, hy.2, hyl, fun j f hj => ?_⟩
    obtain ⟨ho, hk⟩ := hone_of hone j f hj
    have hjl : j < fs.size := (Array.getElem?_eq_some_iff.1 hj).1
    have hcell := hat j hjl
    have hv : cs'[j]? = some (cs'[j]'(by omega)) := List.getElem?_eq_getElem (by omega)
    have h1 := hf j f hj
    rw [ho, hk] at h1
    have hone' : (cs'.drop j).take 1 = [cs'[j]'(by omega)] := by
      rw [List.drop_eq_getElem_cons (by omega)]
      rfl
    rw [hone'] at h1
    have hys : ys[j]? = some (ys[j]'(by omega)) := List.getElem?_eq_getElem (by omega)
    refine ⟨_, _, ?_, hys, h1.trans hys⟩
    rw [← Go.Deep.add_add, hcell, hv]
end

end Go.Proofs.YtnlepoplncjliaaGreatDoor

namespace Go.Proofs.YtnlepoplncjliaaGreatDoor
open Go.ChangeShapes Go.WideShapes Go.Deep Go.RowKit

set_option maxRecDepth 100000 in
theorem open_twos {H : Type} {enc : TypeId × Value → H} {W : World} {base : Nat} {v : Value} {d : DataW H} {p : List MemPlace} (hv : Value.okWide Tryz.prog W .any base 39 v)
    (h : DataW.Trod enc Tryz.prog W 0 (fun _ => true) true 39 v d p) : ∃ A len cap l, v = .slice A len cap ∧ Reads W W.heap.size 2 A len (twosV l) ∧ ∀ t ∈ l, Byt t.1 ∧ Byt t.2 := by
  obtain ⟨A, len, cap, rfl⟩ := okWide_slice Tryz.underlying39 hv
  obtain ⟨m, hm⟩ := h
  rcases open_slice_fields Tryz.underlying39 Tryz.underlying41 (by kernel_rfl) (by kernel_rfl) hm with ⟨hcs, -⟩ | ⟨a, len', cap', k, D, Pl, hcs, -, hlc, -, hk, -, hf⟩
  · simp [Value.cells] at hcs
    obtain ⟨rfl, rfl, rfl⟩ := hcs
    exact ⟨none, 0, 0, [], rfl, Reads.none_, by simp⟩
  · simp only [if_true] at hk
    simp [Value.cells] at hcs
    obtain ⟨rfl, rfl, rfl⟩ := hcs
    obtain ⟨l, hl, hp⟩ := choose_at (α := List Nat × List Nat) len (fun i f => (Byt f.1 ∧ Byt f.2) ∧ ∀ j u, (twoCs f)[j]? = some u → W.cell? (a.add (i * 2 + j)) = some u) fun i hi => by
      obtain ⟨ys, n, -, -, hyl, hfj⟩ := hf i (by omega)
      obtain ⟨v0, z0, k0, -, t0⟩ := hfj 0 _ rfl
      obtain ⟨v1, z1, k1, -, t1⟩ := hfj 1 _ rfl
      obtain ⟨x0, e0, -⟩ := DataW.trod_string Tryz.underlying9 t0
      obtain ⟨x1, e1, -⟩ := DataW.trod_string Tryz.underlying9 t1
      simp at e0 e1
      subst e0 e1
      obtain ⟨s0, rfl, hs0, -⟩ := strOf_of x0
      obtain ⟨s1, rfl, hs1, -⟩ := strOf_of x1
      refine ⟨(s0, s1), ⟨hs0, hs1⟩, fun j u hu => ?_⟩
      match j, hu with
      | 0, hu => simp [twoCs] at hu; subst hu; exact k0
      | 1, hu => simp [twoCs] at hu; subst hu; exact k1
      | j + 2, hu => simp [twoCs] at hu
    refine ⟨some a, len, cap, l, rfl, ⟨by rw [twosV_len, hl], fun hpos => ⟨a, rfl, ?_, fun j u hu => ?_⟩⟩, fun x hx => ?_⟩
    · obtain ⟨f, hf0⟩ : ∃ f, l[0]? = some f := ⟨_, List.getElem?_eq_getElem (by omega)⟩
      have := World.block_lt_of_cell? W _ ((hp 0 f hf0).2 0 _ rfl)
      rwa [block_of_add] at this
    · have hj : j < len * 2 := by have := (List.getElem?_eq_some_iff.1 hu).1; rw [twosV_len, hl] at this; exact this
      have hi : j / 2 < l.length := by omega
      obtain ⟨f, hf0⟩ : ∃ f, l[j / 2]? = some f := ⟨_, List.getElem?_eq_getElem hi⟩
      have hj3 : j % 2 < (twoCs f).length := by show j % 2 < 2; omega
      have hg := twosV_at hf0 (j % 2) _ (List.getElem?_eq_getElem hj3)
      rw [show j / 2 * 2 + j % 2 = j by omega, hu] at hg
      have := (hp (j / 2) f hf0).2 (j % 2) u (by rw [List.getElem?_eq_getElem hj3, ← hg])
      rwa [show j / 2 * 2 + j % 2 = j by omega] at this
    · obtain ⟨j, hj, rfl⟩ := List.getElem_of_mem hx
      exact (hp j _ (List.getElem?_eq_getElem hj)).1
end Go.Proofs.YtnlepoplncjliaaGreatDoor


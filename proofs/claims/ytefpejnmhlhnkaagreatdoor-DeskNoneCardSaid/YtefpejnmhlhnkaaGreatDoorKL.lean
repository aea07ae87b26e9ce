/-
  Slice literals in regions that draw. No condition.
-/
import Derived.Test.YtefpejnmhlhnkaaGreatDoorKJ
set_option linter.unusedSectionVars false
namespace Go.Proofs.YtefpejnmhlhnkaaGreatDoor
open Go.RowKit
variable [Inhabited (List Deferred)]

section
variable {P : Program} {E : Operand → Option Value} {o : Oper} {w : World} {T : TypeId}
theorem Runs.sliceLit {ps : Array (Nat × Operand)} {m e s : Nat} {vs : List Value} {z : Value} (ho : o.op = .buildSlice T m ps) (hx : evP E ps.toList = some (enumF 0 vs)) (hm : vs.length = m) (hT : P.underlying T = some (.slice e)) (hs : sizeIs P e s = true) (hz : zeroIs P e = some (some z)) (hs0 : 0 < s) (hsm : m * s ≤ 16777216) (hvs : sizes s vs) :
    Runs P E o w (.slice (some ⟨w.heap.size, 0, none⟩) m m) (w.alloc (.cells (flatC vs).toArray e)) := by
  obtain ⟨i, hi, hsz⟩ := sizeIs_spec hs
  have hz' : i.zero = some z := by unfold zeroIs at hz; rw [hi] at hz; injection hz
  subst hm
  rcases Nat.eq_zero_or_pos vs.length with h0 | h0
  · have : vs = [] := List.eq_nil_of_length_eq_zero h0
    subst this
    refine Runs.buildSlice ho hx ?_
    simp [Instr.buildSlice, run_underlying hT, sizeOf, typeInfo, hi, enumF, Instr.fill, newRow, flatC]
    have : Array.map (fun (_ : Nat) => (default : Value)) (Array.range 0) = #[] := Array.eq_empty_of_size_eq_zero (by simp)
    rw [this]
  · refine Runs.buildSlice ho hx (run_buildSlice w T e vs.length _ _ i z hT hi hz' (by rw [hsz]; omega) (by rw [hsz]; exact Nat.ne_of_gt (Nat.mul_pos h0 hs0)) ?_)
    rw [hsz, enumF_zip, ← flatC_eq]
    exact Great.fill_whole hs0 vs _ (sizes_spec hvs) (by simp)
end
theorem Dr.slice {P : Program} {ops : Array Oper} {Q : Exit → Act → World → Prop} {n : Nat} {F0 : List (Nat × Value)} {w0 : World} {Γ : Env} {o : Oper} {r : List Oper} {B : Env → Prop} {L : List Nat} {k T : Nat} {ps : Array (Nat × Operand)} {m e s : Nat} {vs : List Value} {z : Value} (hu : uniq Γ = true) (ho : o.op = .buildSlice T m ps) (hx : evP (evX [] F0 Γ o) ps.toList = some (enumF 0 vs)) (hm : vs.length = m) (hT : P.underlying T = some (.slice e)) (hs : sizeIs P e s = true) (hz : zeroIs P e = some (some z)) (hs0 : 0 < s) (hsm : m * s ≤ 16777216) (hvs : sizes s vs) (hg : o.guard = none)
    (hr : DrW P ops Q n F0 Grow w0 L B (k + 1) r ((k, o.dst, .sat (NewSl w0.heap.size m e (flatC vs).toArray)) :: Γ)) (hl : memB L k = false := by rfl) : DrW P ops Q n F0 Grow w0 L B k (o :: r) Γ :=
  Dr.make hu NewSl.stable hg (fun w hG => ⟨_, _, Runs.sliceLit ho hx hm hT hs hz hs0 hsm hvs, (new_of w _ _).below, _, rfl, (new_of w _ _).blk, hG.size⟩) hr hl
theorem DJ.slice {P : Program} {ops : Array Oper} {Q : Exit → Act → World → Prop} {n : Nat} {F0 : List (Nat × Value)} {G : World → World → Prop} {w0 : World} {CH : List Nat} {J : Nat → World → Prop} {Γ : Env} {o : Oper} {r : List Oper} {B : Env → Prop} {L : List Nat} {k T : Nat} {ps : Array (Nat × Operand)} {m e s : Nat} {vs : List Value} {z : Value} (B0 : Nat) (hp : posC CH k = none) (hGG : ∀ w w', Grow w w' → G w w') (hGs : ∀ w, G w0 w → B0 ≤ w.heap.size) (hJ : ∀ c w w', Grow w w' → J c w → J c w') (hst : ∀ v w w', G w w' → NewSl B0 m e (flatC vs).toArray v w → NewSl B0 m e (flatC vs).toArray v w')
    (hu : uniq Γ = true) (ho : o.op = .buildSlice T m ps) (hx : evP (evX [] F0 Γ o) ps.toList = some (enumF 0 vs)) (hm : vs.length = m) (hT : P.underlying T = some (.slice e)) (hs : sizeIs P e s = true) (hz : zeroIs P e = some (some z)) (hs0 : 0 < s) (hsm : m * s ≤ 16777216) (hvs : sizes s vs) (hg : o.guard = none)
    (hr : DrJ P ops Q n F0 G w0 CH J L B (k + 1) r ((k, o.dst, .sat (NewSl B0 m e (flatC vs).toArray)) :: Γ)) (hl : memB L k = false := by rfl) : DrJ P ops Q n F0 G w0 CH J L B k (o :: r) Γ :=
  DJ.of (f := .sat (NewSl B0 m e (flatC vs).toArray)) hp hGG hJ hst (fun w hG => Dr.make hu NewSl.stable hg (fun w2 hG2 => ⟨_, _, Runs.sliceLit ho hx hm hT hs hz hs0 hsm hvs, (new_of w2 _ _).below, _, rfl, (new_of w2 _ _).blk, Nat.le_trans (hGs w hG) hG2.size⟩) rfl hl) hr hl
end Go.Proofs.YtefpejnmhlhnkaaGreatDoor

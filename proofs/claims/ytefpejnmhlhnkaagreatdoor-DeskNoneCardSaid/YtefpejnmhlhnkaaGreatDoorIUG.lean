/-
  Calls that are closed: run by the kernel, from a given state on. Condition: crc's table is as it was laid.
-/
import Derived.Test.YtefpejnmhlhnkaaGreatDoorIUF
set_option linter.unusedVariables false
namespace Go.Proofs.YtefpejnmhlhnkaaGreatDoor
open Go.RowKit
noncomputable def runO (f : FuncId) (l : List RI.V) (s : RI.St) : RI.Oc RI.Rr := (RI.both tb nat (fun _ _ _ => none) 1000000).c f l s
noncomputable def getR (o : RI.Oc RI.Rr) : RI.Rr := match o with
  | .one r => r
  | _ => ⟨.nilI, ⟨.lf, 0⟩⟩
/-- It is one end. -/
noncomputable def isOne (o : RI.Oc RI.Rr) : Bool := match o with
  | .one _ => true
  | _ => false
/-- It is one end, with this value. -/
noncomputable def isV (v : RI.V) (o : RI.Oc RI.Rr) : Bool := match o with
  | .one r => RI.V.beq r.v v
  | _ => false
theorem isOne_spec {o : RI.Oc RI.Rr} (h : isOne o = true) : o = .one (getR o) := by
  unfold isOne at h
  split at h
  · rfl
  · cases h
theorem isV_spec {v : RI.V} {o : RI.Oc RI.Rr} (h : isV v o = true) : isOne o = true ∧ (getR o).v = v := by
  unfold isV at h
  split at h
  · exact ⟨rfl, RI.V.beq_true h⟩
  · cases h
/-- A world that a run has come to. -/
structure At (w0 : World) (y : Value) (s : RI.St) (w : World) (L : RI.Loc) : Prop where
  es : w0.cell? ⟨1, 0, none⟩ = some y
  one : y.oneCell' = true
  rel : RI.Rel (ρx y) w0 L s w
theorem At.start {w : World} (hg : Nb w) : ∃ y, At w y ⟨.lf, 0⟩ w (fun _ _ => none) := by
  obtain ⟨x, hx, h1⟩ := hg.es
  exact ⟨x, hx, h1, Below.refl _ _, fun _ _ _ => rfl, fun b o g h => (by cases h), fun b h => h.elim, fun b o h => (by cases h), fun b b' o o' x x' _ h => (by cases h)⟩
set_option maxRecDepth 1000000 in
theorem runs_from {w0 w : World} {y : Value} (hg : Nb w0) {s : RI.St} {L : RI.Loc} (h : At w0 y s w L) {f : FuncId} {l : List RI.V} {xs : List Value} (hl : RI.RVs (ρx y) L l xs) (hv : isOne (runO f l s) = true) (hen : (callFunc f xs.toArray).run Tryz.prog w = .ok (.enter f xs.toArray) w) :
    Calls Tryz.prog f xs.toArray w fun e w' => ∃ x L', e = .returned x ∧ L.le L' ∧ At w0 y (getR (runO f l s)).s w' L' ∧ RI.RV (ρx y) L' (getR (runO f l s)).v x := by
  obtain ⟨hx0, h10, hrel⟩ := h
  have hn : ∀ ρ' : RI.Env, (ρx y).un = ρ'.un → RI.SpecN Tryz.prog ρ' w0 nat := fun ρ' hu => by
    refine RI.natv_spec ((ctx_of hg hx0 h10).env hu) (fun k hk => ?_) idxCon Tryz.func289 (by kernel_rfl) rfl
    unfold ks at hk
    cases h1 : Nat.beq k 428 with
    | true => rw [RI.beq_iff.1 h1]; exact sortCon_file
    | false =>
      rw [h1] at hk
      have hk : Nat.beq k 419 = true := hk
      rw [RI.beq_iff.1 hk]
      exact sortCon_bool
  have hdn : ∀ ρ' : RI.Env, (ρx y).un = ρ'.un → RI.SpecDn Tryz.prog ρ' w0 (fun _ _ _ => none) := fun ρ' hu f l s s' L xs w K _ _ h => by cases h
  have hone := isOne_spec hv
  have hrun := (RI.both_run (ctx_of hg hx0 h10) fnsOk hn hdn 1000000).2 f l s L xs w (fun x w' => ∃ L', L.le L' ∧ At w0 y (getR (runO f l s)).s w' L' ∧ RI.RV (ρx y) L' (getR (runO f l s)).v x) hrel hl (by
    show (runO f l s).all _
    generalize getR (runO f l s) = S at hone ⊢
    rw [hone]
    intro L' x w' hle hr hx
    exact ⟨L', hle, ⟨hx0, h10, hr⟩, hx⟩)
  rcases hrun with ⟨g, w1, h1, h2⟩ | ⟨x, w1, h1, -⟩
  · rw [hen] at h1
    injection h1 with h1 h3
    injection h1 with h1
    subst h1 h3
    exact h2.mono fun e w' ⟨x, he, L', k1, k2, k3⟩ => ⟨x, L', he, k1, k2, k3⟩
  · rw [hen] at h1
    injection h1 with h1
    cases h1
/-- A closed call, by itself. -/
theorem runs_one (w : World) (hg : Nb w) {f : FuncId} {l : List RI.V} {xs : List Value} (hl : ∀ y, RI.RVs (ρx y) (fun _ _ => none) l xs) {v : RI.V} (hv : isV v (runO f l ⟨.lf, 0⟩) = true) (hen : (callFunc f xs.toArray).run Tryz.prog w = .ok (.enter f xs.toArray) w) :
    Calls Tryz.prog f xs.toArray w fun e w' => ∃ x L' y, e = .returned x ∧ RI.RV (ρx y) L' v x ∧ Below w.heap.size w w' := by
  obtain ⟨y, hy⟩ := At.start hg
  obtain ⟨h1, h2⟩ := isV_spec hv
  exact (runs_from hg hy (hl y) h1 hen).mono fun e w' ⟨x, L', k1, k2, k3, k4⟩ => ⟨x, L', y, k1, by rw [← h2]; exact k4, k3.rel.below⟩
end Go.Proofs.YtefpejnmhlhnkaaGreatDoor

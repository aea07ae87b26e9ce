/-
  Texts that were joined: IVH. Conditions: what each theorem names.
-/
import Derived.Test.YtenikchlnfhikaaGreatDoorY1
import Derived.Test.YtenikchlnfhikaaGreatDoorY5
set_option linter.unusedSectionVars false
set_option linter.unusedVariables false
set_option linter.unusedSimpArgs false
set_option linter.unusedVariables false
namespace Go.Proofs.YtenikchlnfhikaaGreatDoor
open Go Go.RowKit
theorem At.grow {w0 w w' : World} {y : Value} {s : RI.St} {L : RI.Loc} (h : At w0 y s w L) (hb : Below w.heap.size w w') : At w0 y s w' L := ⟨h.es, h.one, h.rel.grow hb⟩
theorem At.lit {w0 w : World} {y : Value} {L : RI.Loc} {r : RI.Rr} {v : RI.V} {n : Nat} {l : List (Nat × RI.Ob)} (ha : At w0 y r.s w L) (h : RI.an (RI.V.beq r.v v) (RI.an (Nat.beq r.s.nx n) (RI.hasAll r.s l)) = true) : r.v = v ∧ At w0 y (RI.stOf l n) w L := by
  obtain ⟨h1, h⟩ := RI.an_true h
  obtain ⟨h2, h3⟩ := RI.an_true h
  exact ⟨RI.V.beq_true h1, ha.es, ha.one, ha.rel.lit h3 (RI.beq_iff.1 h2).symm⟩
/-- A call that ends in one way. -/
theorem runs_lit {w0 w : World} {y : Value} (hg : Nb w0) {s : RI.St} {L : RI.Loc} (h : At w0 y s w L) {f : FuncId} {l : List RI.V} {xs : List Value} (hl : RI.RVs (ρx y) L l xs) (S : RI.Sh) {v : RI.V} {n : Nat} {sl : List (Nat × RI.Ob)}
    (hv : ∀ p ∈ S.paths, RI.leafB (fun r => RI.an (RI.V.beq r.v v) (RI.an (Nat.beq r.s.nx n) (RI.hasAll r.s sl))) p (runO f l s) = true) (hen : (callFunc f xs.toArray).run Tryz.prog w = .ok (.enter f xs.toArray) w) :
    Calls Tryz.prog f xs.toArray w fun e w' => ∃ x L', e = .returned x ∧ L.le L' ∧ At w0 y (RI.stOf sl n) w' L' ∧ RI.RV (ρx y) L' v x :=
  (runs_leaves hg h hl S (fun _ r => RI.an (RI.V.beq r.v v) (RI.an (Nat.beq r.s.nx n) (RI.hasAll r.s sl))) hv hen).mono fun e w' ⟨x, L', r, k1, k2, ⟨_, _, k3⟩, k4, k5⟩ => by
    obtain ⟨q1, q2⟩ := k4.lit k3
    exact ⟨x, L', k1, k2, q2, by rw [← q1]; exact k5⟩
section
variable {ρ : RI.Env} {L : RI.Loc} {x : Value}
theorem rv_str {l : List Nat} (h : RI.RV ρ L (.str l) x) : x = .string (strOf l) := by
  generalize hv : RI.V.str l = v at h
  cases h <;> first | (cases hv; done) | skip
  rename_i sb
  injection hv with hv
  subst hv
  congr 1
  obtain ⟨⟨d⟩⟩ := sb
  unfold strOf
  congr 2
  rw [List.map_map]
  exact ((List.map_congr_left fun a _ => by simp).trans (List.map_id _)).symm
theorem rv_int {k : IntKind} {n : Int} (h : RI.RV ρ L (.int k n) x) : x = .int k n := by cases h; rfl
theorem rv_bool {b : Bool} (h : RI.RV ρ L (.bool b) x) : x = .bool b := by cases h; rfl
theorem rv_ptr {p : RI.Pl} (h : RI.RV ρ L (.ptr (some p)) x) : ∃ a, x = .pointer (some a) ∧ RI.RA L p a := by
  cases h with
  | ptr h => exact ⟨_, rfl, h⟩
theorem rv_sg {b g n w : Nat} (h : RI.RV ρ L (.sg (.own b g 0) n w) x) : ∃ B base sz c, x = .slice (some ⟨B, base + 0, none⟩) n c ∧ L b g = some (B, base, sz) := by
  cases h with
  | sg h h1 h2 => exact ⟨_, _, _, _, rfl, h⟩
theorem rv_tup2 {a b : RI.V} (h : RI.RV ρ L (.tup [a, b]) x) : ∃ u v, x = .tuple #[u, v] ∧ RI.RV ρ L a u ∧ RI.RV ρ L b v := by
  cases h with
  | tup h =>
    rcases h with _ | ⟨h1, h⟩
    rcases h with _ | ⟨h2, h⟩
    cases h
    exact ⟨_, _, rfl, h1, h2⟩
/-- A text as the interpreter has it. -/
theorem rv_of {l : List Nat} (hl : ∀ c ∈ l, c < 256) : RI.RV ρ L (.str l) (.string (strOf l)) := by
  have := RI.RV.str (ρ := ρ) (L := L) (strOf l)
  have e : (strOf l).data.toList.map UInt8.toNat = l := by
    unfold strOf
    rw [List.map_map]
    exact (List.map_congr_left fun a ha => by simpa using hl a ha).trans (List.map_id _)
  rw [e] at this
  exact this
end
/-- What a row of a state that is written out has. -/
theorem At.row {w0 w : World} {y : Value} {s : RI.St} {L : RI.Loc} (h : At w0 y s w L) {b g n z t B base sz : Nat} {c : RI.Tr RI.V} (hb : s.h.get b = some (.row t n g z c)) (hL : L b g = some (B, base, sz)) :
    base = 0 ∧ ∀ i v, i < n → c.get i = some v → ∃ x, w.cell? ⟨B, i, none⟩ = some x ∧ RI.RV (ρx y) L v x := by
  obtain ⟨-, rfl, C, fz, k1, -, -, -, -, k2⟩ := h.rel.row hb hL
  refine ⟨rfl, fun i v hi hv => ?_⟩
  obtain ⟨x, h1, h2⟩ := k2 i v hi hv
  rw [Nat.zero_add] at h1
  exact ⟨x, by simp [World.cell?, k1, h1], h2⟩
end Go.Proofs.YtenikchlnfhikaaGreatDoor


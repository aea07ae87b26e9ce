/-
  Structs within blocks. No condition.
-/
import Derived.Test.YtefpejnmhlhnkaaGreatDoorKI
namespace Go.Proofs.YtefpejnmhlhnkaaGreatDoor
open Go.RowKit

theorem Own.form {w : World} {B size n : Nat} {e : TypeId} {v : Value} {xs : List Value} (h : Own w B e size v n xs) (h0 : 0 < n) : ∃ g cap cur, v = .slice (some ⟨g, 0, none⟩) n cap ∧ B ≤ g ∧ Blk w g e cur ∧ ∀ (j : Nat) (x : Value), xs[j]? = some x → cur[j]? = some x := by
  obtain ⟨hl, ⟨_, h1⟩ | ⟨g, cap, cur, rfl, h1, h2, h3, h4, h5, h6⟩⟩ := h.row
  · omega
  · refine ⟨g, cap, cur, rfl, h1, h2, fun j x hx => ?_⟩
    rw [← h6] at hx
    have := List.getElem?_take_of_lt (l := cur.toList) (i := j) (j := n * size) (by
      rcases Nat.lt_or_ge j (n * size) with h | h
      · exact h
      · rw [List.getElem?_eq_none (by rw [List.length_take]; omega)] at hx; cases hx)
    rw [this] at hx
    simpa using hx
section
variable {P : Program} {E : Operand → Option Value} {o : Oper} {w : World} {x y : Operand} {T : TypeId}
/-- A struct within a block. -/
theorem Runs.loadP {g off m : Nat} {cs : Array Value} {ps : List Value} {t : TypeId} {d : TypeDesc} (ho : o.op = .load T x) (hx : E x = some (.pointer (some ⟨g, off, none⟩))) (hT : P.underlying T = some d) (hd : (match d with | .struct _ | .array _ _ => true | _ => false) = true) (hb : Blk w g t cs) (hs : sizeIs P T m = true) (hm : ps.length = m) (hp : ∀ j v, ps[j]? = some v → cs[off + j]? = some v) : Runs P E o w (.agg ps.toArray) w := by
  obtain ⟨i, hi, hsz⟩ := sizeIs_spec hs
  exact .loadN (cs := ps) ho hx hT hd hi (by omega) (fun j v hj => by
    have hadd : (⟨g, off, none⟩ : Addr).add j = ⟨g, off + j, none⟩ := by unfold Addr.add; split <;> simp_all
    rw [hadd, hb.cell (off + j)]
    exact hp j v hj)
theorem Runs.indexBN {k : IntKind} {g j m c e s : Nat} {p : Int} (ho : o.op = .indexAddr T x y) (hx : E x = some (.slice (some ⟨g, 0, none⟩) m c)) (hy : E y = some (.int k p)) (hT : P.underlying T = some (.slice e)) (hs : sizeIs P e s = true) (hp : p = (j : Int)) (hlt : j < m) : Runs P E o w (.pointer (some ⟨g, s * j, none⟩)) w := by
  have h := Runs.indexN (w := w) ho hx hy hT hs hp hlt
  have e : (⟨g, 0, none⟩ : Addr).add (j * s) = ⟨g, s * j, none⟩ := by unfold Addr.add; split <;> simp_all [Nat.mul_comm]
  rwa [e] at h
end
section
variable {P : Program} {E : Operand → Option Value} {o : Oper} {w : World} {x : Operand} {T : TypeId}
theorem Runs.fieldP {g off i t : Nat} (k : Nat) {fields : Array Field} (ho : o.op = .fieldAddr T x i) (hx : E x = some (.pointer (some ⟨g, off, none⟩))) (hT : P.underlying T = some (.struct fields)) (hf : offAt fields i = some (t, k)) (hs : sizePos P t = true) :
    Runs P E o w (.pointer (some ⟨g, off + k, none⟩)) w := by
  have h := Runs.fieldA (w := w) k ho hx hT hf hs
  have e : (⟨g, off, none⟩ : Addr).add k = ⟨g, off + k, none⟩ := by unfold Addr.add; split <;> simp_all
  rwa [e] at h
end
theorem own_at {w : World} {B n cap : Nat} {A : Option Addr} {e : TypeId} {xs : List Value} (h : Own w B e 4 (.slice A n cap) n xs) : 0 < n → ∃ g cur, A = some ⟨g, 0, none⟩ ∧ Blk w g e cur ∧ ∀ (j : Nat) (y : Value), xs[j]? = some y → cur[j]? = some y := fun h0 => by
  obtain ⟨g, cap', cur, hv, -, kg, hcur⟩ := h.form h0
  injection hv with hv1 _ _
  exact ⟨g, cur, hv1, kg, hcur⟩
end Go.Proofs.YtefpejnmhlhnkaaGreatDoor

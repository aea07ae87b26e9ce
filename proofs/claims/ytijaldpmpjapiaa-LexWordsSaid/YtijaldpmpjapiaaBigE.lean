/-
  debentureref01's Of, sign, Minus: what each answers. Condition: the digits are a number's, not too many.
-/
import Derived.Test.YtijaldpmpjapiaaBigD
namespace Go.Proofs.Ytijaldpmpjapiaa
open Go.RowKit

/-- A Big that is a number. -/
def BigR (w : World) (v : Value) (z : Int) : Prop := ∃ m, v = .agg #[.bool (decide (z < 0)), m] ∧ MagR w m z.natAbs
theorem BigR.step {w w' : World} {v : Value} {z : Int} (h : BigR w v z) (hb : Below w.heap.size w w') : BigR w' v z := by
  obtain ⟨m, e, h⟩ := h
  exact ⟨m, e, h.step hb⟩
theorem val4 (a b c d : Nat) : val [a, b, c, d] = a + 65536 * (b + 65536 * (c + 65536 * d)) := by simp [val]
theorem infoBig : (Try.prog.info? 133).map (fun i => (i.zero, i.size, i.bytes)) = some (some (.agg #[.bool false, .slice none 0 0]), 2, 32) := by kernel_rfl
/-- A store into a block that holds no numbers changes no digits. -/
theorem Reads.other {w w' : World} {B n g : Nat} {A : Option Addr} {l : List Nat} {cs : Array Value} {t : TypeId} {fr : Nat × Nat} (h : Reads w B 1 A n (U l)) (hg : w.heap[g]? = some (.cells cs t fr)) (hcs : ∀ (k : IntKind) (z : Int), Value.int k z ∉ cs.toList)
    (hgr : w.grownBy w' (some g)) : Reads w' B 1 A n (U l) := by
  refine ⟨h.1, fun hn => ?_⟩
  obtain ⟨ad, hA, hb, hc⟩ := h.2 hn
  refine ⟨ad, hA, hb, fun j u hu => ?_⟩
  have h1 := hc j u hu
  have hne : (ad.add j).block ≠ g := by
    intro he
    rw [get_U] at hu
    cases hl : l[j]? with
    | none => rw [hl] at hu; cases hu
    | some d =>
      rw [hl] at hu
      injection hu with hu
      subst hu
      unfold World.cell? at h1
      rw [he, hg] at h1
      simp only at h1
      split at h1
      · cases h1
      · exact hcs _ _ (Array.mem_toList_iff.2 (Array.mem_of_getElem? h1))
  have hlt : (ad.add j).block < w.heap.size := by
    unfold World.cell? at h1
    rcases Nat.lt_or_ge (ad.add j).block w.heap.size with h2 | h2
    · exact h2
    · rw [Array.getElem?_eq_none h2] at h1; cases h1
  rw [← h1]
  unfold World.cell?
  rw [hgr.block _ hlt (by intro e; injection e with e; exact hne e)]
theorem MagR.other {w w' : World} {n g : Nat} {v : Value} {cs : Array Value} {t : TypeId} {fr : Nat × Nat} (h : MagR w v n) (hg : w.heap[g]? = some (.cells cs t fr)) (hcs : ∀ (k : IntKind) (z : Int), Value.int k z ∉ cs.toList)
    (hgr : w.grownBy w' (some g)) : MagR w' v n := by
  obtain ⟨A, c, e, h1, h2, h3⟩ := h
  exact ⟨A, c, e, h1, h2, (h3.other hg hcs hgr).more hgr.size⟩

set_option maxHeartbeats 400000 in
set_option maxRecDepth 100000 in
theorem sign_any (neg : Bool) (m : Value) (n : Nat) (w : World) (hm : MagR w m n) (hn : (digs n).length ≤ 1073741824) :
    Calls Try.prog 139 #[.bool neg, m] w fun e w' => e = .returned (.agg #[.bool (neg && decide (0 < n)), m]) ∧ Below w.heap.size w w' := by
  obtain ⟨A, c, rfl, hc, hc2, hr⟩ := hm
  obtain ⟨i0, hi0, hz0, hz1, hz2⟩ := info_parts infoBig
  have e : decide (0 < n) = decide (0 < (digs n).length) := by
    have := digs_len_zero n
    by_cases h : n = 0
    · simp [h, digs_zero]
    · have h2 : 0 < (digs n).length := by rcases Nat.eq_zero_or_pos (digs n).length with h3 | h3
                                          · exact absurd (this.1 h3) h
                                          · exact h3
      rw [decide_eq_true h2, decide_eq_true (by omega)]
  rw [e]
  generalize (digs n).length = l at *
  have hrow : (w.alloc (.cells #[.bool false, .slice none 0 0] 133)).heap[w.heap.size]? = some (.cells #[.bool false, .slice none 0 0] 133 (0, 0)) := heap_alloc_new w _
  cases neg
  all_goals
    by_cases h : 0 < l
    all_goals
      go_enter Try.func139, Try.ntmps139
      go_wp2_with (refine wpList_store_row rfl _ (.tmp 4) (.tmp 12) rfl rfl w.heap.size 0 rfl #[_, _] rfl i0 hi0 hz1 (by simp [Value.oneCell']) _ _ hrow (by simp) ?_; intro w3 hg3 hgr3 hz3)
      refine bodyPost_ret (results_cell_row rfl _ _ w.heap.size 133 #[_, _] (0, 0) _ rfl hg3 Try.underlying133 rfl (by rw [hi0]; simp [hz1])) rfl ?_
      refine ⟨?_, ((Below.refl w.heap.size w).alloc (Nat.le_refl _) _).grown hgr3 (by simp) (fun k hk => by injection hk with hk; omega)⟩
      simp [h]
end Go.Proofs.Ytijaldpmpjapiaa

/-
  debentureref01's Small, numbers without a sign. Condition: the numbers keep a bound.
-/
import Derived.Test.YtijaldpmpjapiaaBigI
namespace Go.Proofs.Ytijaldpmpjapiaa
open Go.RowKit

theorem small_big' (x : Value) (a : Int) (w : World) (hx : BigR w x a) (ha : a.natAbs < big) :
    Calls Try.prog 99 #[x] w fun e w' => e = .returned (.tuple #[.int .i64 (smallOf a), .bool (fits a)]) ∧ Grow w w' := small_any x a w hx ha
theorem run_build_Big0 (w : World) : (Instr.build 133 #[]).run Try.prog w = .ok (.agg #[.bool false, .slice none 0 0]) w := by
  have hu := Try.underlying133
  go_simp
theorem digs_0 : digs 0 = [] := by unfold digs; rfl
theorem MagR.zero (w : World) : MagR w (.slice none 0 0) 0 := ⟨none, 0, by rw [digs_0]; rfl, by rw [digs_0]; simp, by omega, by rw [digs_0]; exact Reads.none_⟩
theorem Reads.otherU {w w' : World} {B n g : Nat} {A : Option Addr} {l : List Nat} {cs : Array Value} {t : TypeId} {fr : Nat × Nat} (h : Reads w B 1 A n (U l)) (hg : w.heap[g]? = some (.cells cs t fr)) (hcs : ∀ (z : Int), Value.int .u64 z ∉ cs.toList)
    (hgr : w.grownBy w' (some g)) : Reads w' B 1 A n (U l) := by
  refine ⟨h.1, fun hn => ?_⟩
  obtain ⟨ad, hA, hb, hc⟩ := h.2 hn
  refine ⟨ad, hA, hb, fun j u hu => ?_⟩
  have h1 := hc j u hu
  have hne : (ad.add j).block ≠ g := by
    intro he
    rw [get_U] at hu
    cases hl : l[j]? with
    | none => rw [hl] at hu; cases hu
    | some d =>
      rw [hl] at hu
      injection hu with hu
      subst hu
      unfold World.cell? at h1
      rw [he, hg] at h1
      simp only at h1
      split at h1
      · cases h1
      · exact hcs _ (Array.mem_toList_iff.2 (Array.mem_of_getElem? h1))
  have hlt : (ad.add j).block < w.heap.size := by
    unfold World.cell? at h1
    rcases Nat.lt_or_ge (ad.add j).block w.heap.size with h2 | h2
    · exact h2
    · rw [Array.getElem?_eq_none h2] at h1; cases h1
  rw [← h1]
  unfold World.cell?
  rw [hgr.block _ hlt (by intro e; injection e with e; exact hne e)]
theorem zero_uint8 : zeroIs Try.prog 5 = some (some (.int .u8 0)) := by kernel_rfl
structure MagU (w : World) (m : Value) (n : Nat) : Prop where
  mag : MagR w m n
theorem MagU.step {w w' : World} {m : Value} {n : Nat} (h : MagU w m n) (hb : Below w.heap.size w w') : MagU w' m n := ⟨h.mag.step hb⟩
theorem MagU.put {w w' : World} {m : Value} {n g B : Nat} {T : TypeId} {cur cs : Array Value} (h : MagU w m n) (k : Blk w g T cur) (p : Put w w' g T cs) (_e : B ≤ g) (hcs : ∀ (z : Int), Value.int .u64 z ∉ cur.toList := by simp [Value.cells, *]) : MagU w' m n := by
  obtain ⟨A, c, e, h1, h2, h3⟩ := h.mag
  exact ⟨A, c, e, h1, h2, (h3.otherU k hcs p.grown).more p.grown.size⟩
theorem MagU.big {w : World} {m : Value} {r : Nat} (h : MagU w m r) : BigR w (.agg [Value.bool false, m].toArray) (r : Int) := ⟨m, by rw [decide_eq_false (show ¬ (r : Int) < 0 by omega)], by rw [Int.natAbs_natCast]; exact h.mag⟩
end Go.Proofs.Ytijaldpmpjapiaa

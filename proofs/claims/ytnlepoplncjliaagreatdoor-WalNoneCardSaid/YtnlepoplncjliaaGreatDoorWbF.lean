/-
  What a log's methods leave as it was; slices of one's own beside others that grow. No condition.
-/
import Derived.Test.YtnlepoplncjliaaGreatDoorWbE
import Derived.Test.YtnlepoplncjliaaGreatDoorWbD
namespace Go.Proofs.YtnlepoplncjliaaGreatDoor
open Go.RowKit

/-- What a log's methods leave as it was. -/
structure Lf (B : Nat) (w w' : World) : Prop where
  below : Below (min B w.heap.size) w w'
  keep : ∀ k t cs, Blk w k t cs → t ≠ 77 → t ≠ 91 → t ≠ 80 → Blk w' k t cs
section
variable {B : Nat} {w w' w'' : World}
theorem Lf.refl (B : Nat) (w : World) : Lf B w w := ⟨Below.refl _ _, fun _ _ _ h _ _ _ => h⟩
theorem Lf.trans (h : Lf B w w') (k : Lf B w' w'') : Lf B w w'' := ⟨h.below.trans (k.below.mono (by have := h.below.size; omega)), fun i t cs hb h1 h2 h3 => k.keep i t cs (h.keep i t cs hb h1 h2 h3) h1 h2 h3⟩
theorem Lf.lf (h : Lf B w w') (k : Lf B w' w'') : Lf B w w'' := h.trans k
theorem Lf.of (h : Df B w w') : Lf B w w' := ⟨h.below, fun i t cs hb h1 h2 _ => h.keep i t cs hb h1 h2⟩
theorem Lf.df (h : Lf B w w') (k : Df B w' w'') : Lf B w w'' := h.trans (Lf.of k)
theorem Lf.step (h : Lf B w w') (k : Below w'.heap.size w' w'') : Lf B w w'' := h.df (Df.grow k)
theorem Lf.size (h : Lf B w w') : w.heap.size ≤ w'.heap.size := h.below.size
theorem Lf.to (h : Lf B w w') (hB : B ≤ w.heap.size) : Below B w w' := by have := h.below; rwa [Nat.min_eq_left hB] at this
theorem Lf.putX {g : Nat} {T : TypeId} {cur cs : Array Value} (h : Lf B w w') (k : Blk w' g T cur) (p : Put w' w'' g T cs) (ht : (B ≤ g ∧ T = 80) ∨ w.heap.size ≤ g) : Lf B w w'' := by
  refine ⟨h.below.trans (p.below (by omega) k.lt), fun i t cs' hb h3 h4 h5 => (h.keep i t cs' hb h3 h4 h5).grown p.grown (fun e => ?_)⟩
  injection e with e
  have hb1 := h.keep i t cs' hb h3 h4 h5
  have hb2 := hb.lt
  rcases ht with ⟨-, h2⟩ | h1
  · have h6 : w'.heap[i]? = some (.cells cs' t) := hb1
    have h7 : w'.heap[g]? = some (.cells cur T) := k
    rw [← e, h6] at h7
    injection h7 with h7
    injection h7 with _ h7
    exact h5 (h7.trans h2)
  · omega
theorem Lf.put {B' g : Nat} {T : TypeId} {cur cs : Array Value} (h : Lf B w w') (k : Blk w' g T cur) (p : Put w' w'' g T cs) (e : B' ≤ g) (ht : (B ≤ B' ∧ T = 80) ∨ w.heap.size ≤ B' := by first | exact .inl ⟨by omega, rfl⟩ | exact .inr (by omega)) : Lf B w w'' :=
  h.putX k p (by rcases ht with ⟨h1, h2⟩ | h1; exact .inl ⟨by omega, h2⟩; exact .inr (by omega))
theorem Blk.lf {k : Nat} {t : TypeId} {cs : Array Value} (h : Blk w k t cs) (f : Lf B w w') (h1 : t ≠ 77 := by decide) (h2 : t ≠ 91 := by decide) (h3 : t ≠ 80 := by decide) : Blk w' k t cs := f.keep k t cs h h1 h2 h3
theorem Reads.lf {B2 size n : Nat} {A : Option Addr} {xs : List Value} (h : Reads w B2 size A n xs) (f : Lf B w w') (hB : B2 ≤ B) (hs : B2 ≤ w.heap.size) : Reads w' B2 size A n xs := h.below (f.below.mono (by omega))
theorem Own.lf {B' size n : Nat} {e : TypeId} {v : Value} {xs : List Value} (h : Own w B' e size v n xs) (f : Lf B w w') (h1 : e ≠ 77 := by decide) (h2 : e ≠ 91 := by decide) (h3 : e ≠ 80 := by decide) : Own w' B' e size v n xs := by
  obtain ⟨⟨hl, h0 | ⟨g, cap, cur, rfl, hB, hg, r⟩⟩⟩ := h
  · exact ⟨⟨hl, .inl h0⟩⟩
  · exact ⟨⟨hl, .inr ⟨g, cap, cur, rfl, hB, f.keep g e cur hg h1 h2 h3, r⟩⟩⟩
theorem Gv.lf (h : Gv w) (f : Lf B w w') (hB : 4 < B := by omega) : Gv w' := h.below f.below (by have := tab_lt h.pow; omega)
/-- A slice of one's own, beside another one (of another type) that grows. -/
theorem Own.appNe {B1 B2 B3 n1 n2 s1 s2 : Nat} {e1 e2 : TypeId} {v1 v2 : Value} {xs1 xs2 : List Value} (h : Own w B1 e1 s1 v1 n1 xs1) (o : Own w B2 e2 s2 v2 n2 xs2) (ha : App w w' B3 v2) (hne : e2 ≠ e1 := by decide) : Own w' B1 e1 s1 v1 n1 xs1 := by
  obtain ⟨⟨hl, h0 | ⟨g, cap, cur, rfl, hB, hg, r⟩⟩⟩ := h
  · exact ⟨⟨hl, .inl h0⟩⟩
  · have hg' : Blk w g e1 cur := hg
    exact ⟨⟨hl, .inr ⟨g, cap, cur, rfl, hB, hg'.appNe o ha hne, r⟩⟩⟩
/-- The first ones of a slice of one's own. -/
theorem Own.takeN {B1 size n c : Nat} {e : TypeId} {A : Option Addr} {xs : List Value} (h : Own w B1 e size (.slice A n c) n xs) (k : Nat) (hk : k ≤ n) : Own w B1 e size (.slice A k c) k (xs.take (k * size)) := by
  obtain ⟨⟨hl, ⟨hv, h0⟩ | ⟨g, cap, cur, hv, hB, hg, h1, h2, h3, h4⟩⟩⟩ := h
  · injection hv with e1 e2 e3
    subst e1 e2 e3
    obtain rfl : k = 0 := by omega
    refine ⟨⟨by simp, .inl ⟨rfl, rfl⟩⟩⟩
  · injection hv with e1 e2 e3
    subst e1 e3
    have hks : k * size ≤ n * size := Nat.mul_le_mul_right _ hk
    refine ⟨⟨by rw [List.length_take, hl]; omega, .inr ⟨g, c, cur, rfl, hB, hg, by omega, h2, h3, ?_⟩⟩⟩
    have := congrArg (List.take (k * size)) h4
    rw [List.take_take, Nat.min_eq_left hks] at this
    exact this
end
section
variable {P : Program} {E : Operand → Option Value} {o : Oper} {w : World} {x y : Operand} {T : TypeId}
theorem addr_zero (ad : Addr) : ad.add 0 = ad := by unfold Addr.add; simp
theorem Runs.sliceN {k : IntKind} {A : Option Addr} {n c e s j : Nat} {p : Int} (ho : o.op = .slice T x none (some y) none) (hx : E x = some (.slice A n c)) (hy : E y = some (.int k p)) (hT : P.underlying T = some (.slice e)) (hs : sizeIs P e s = true) (hp : p = (j : Int)) (hj : j ≤ c) : Runs P E o w (.slice A j c) w := fun ρ h => by
  subst hp
  have he : P.elem T = e := by simp [Program.elem, hT]
  have hT' : P.underlying T = some (.slice (P.elem T)) := by rw [he]; exact hT
  obtain ⟨i, hi, hsz⟩ := sizeIs_spec hs
  have h1 := run_slice_h (P := P) (w := w) T A n c hT' k (j : Int) (by omega) (by omega)
  rw [he, run_sizeOf (h := hi)] at h1
  unfold execOp; simp only [ho, Option.map_some, Option.map_none]; rw [h _ _ hx, h _ _ hy]
  simp only [Sem.run_bind, run_sliceAt_slice (h := hT'), h1, Result.andThen_ok]
  have h2 : sliced A 0 j c (P.cellsOf e) = .slice A j c := by
    unfold sliced
    congr 1
    split
    · rfl
    · cases A <;> simp [addr_zero]
  rw [Int.toNat_natCast, h2]
  rfl
end
theorem Own.cap {w : World} {B1 size n c : Nat} {e : TypeId} {A : Option Addr} {xs : List Value} (h : Own w B1 e size (.slice A n c) n xs) : n ≤ c := by
  obtain ⟨⟨hl, ⟨hv, h0⟩ | ⟨g, cap, cur, hv, hB, hg, h1, h2, h3, h4⟩⟩⟩ := h
  · injection hv with e1 e2 e3
    omega
  · injection hv with e1 e2 e3
    omega
theorem DkR.size {w : World} {B g m : Nat} {D : Dk} {l : List (List Nat × Nat)} {F : Nat → Fil} {c1 c2 : Int} (h : DkR w B g D m l F c1 c2) : B ≤ w.heap.size := Nat.le_trans h.hB (Nat.le_of_lt h.k.lt)
theorem DkAt.size {w : World} {B g : Nat} {D : Dk} (h : DkAt w B g D) : B ≤ w.heap.size := by
  obtain ⟨m, l, F, c1, c2, h⟩ := h
  exact h.size
theorem DkAt.ok {w : World} {B g : Nat} {D : Dk} (h : DkAt w B g D) : D.ok := by
  obtain ⟨m, l, F, c1, c2, h⟩ := h
  exact h.ok
theorem DkAt.nd {w : World} {B g : Nat} {D : Dk} (h : DkAt w B g D) : (D.files.map (·.1)).Nodup := by
  obtain ⟨m, l, F, c1, c2, h⟩ := h
  rw [h.fl, fs_names]
  exact h.mp.nodup
theorem Lf.app {w w' w'' : World} {B B2 B3 n size : Nat} {e : TypeId} {v : Value} {xs : List Value} (h : Lf B w w') (_o : Own w' B2 e size v n xs) (ha : App w' w'' B3 v) (h0 : w.heap.size ≤ B3) : Lf B w w'' := by
  refine ⟨h.below.trans (ha.below.mono (by omega)), fun i t cs hb h3 h4 h5 => ?_⟩
  have h6 := h.keep i t cs hb h3 h4 h5
  have h7 : w''.heap[i]? = w'.heap[i]? := ha.below.block i (by have := hb.lt; omega)
  exact h7.trans h6
theorem DkAt.mono {w : World} {B B' g : Nat} {D : Dk} (h : DkAt w B g D) (hB : B' ≤ B) : DkAt w B' g D := by
  obtain ⟨m, l, F, c1, c2, h⟩ := h
  exact ⟨m, l, F, c1, c2, h.k, h.mp, Nat.le_trans hB h.hm, ⟨fun p hp => ⟨Nat.le_trans hB (h.fs.blk p hp).1, (h.fs.blk p hp).2⟩, h.fs.nd⟩, h.fl, Nat.le_trans hB h.hB, h.ok⟩
end Go.Proofs.YtnlepoplncjliaaGreatDoor

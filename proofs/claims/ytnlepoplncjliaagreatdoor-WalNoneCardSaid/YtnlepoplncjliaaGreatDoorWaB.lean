/-
  A disk of files, as a list; what a disk's methods leave as it was. No condition.
-/
import Derived.Test.YtnlepoplncjliaaGreatDoorWaA
import Derived.Test.YtnlepoplncjliaaGreatDoorWodA
namespace Go.Proofs.YtnlepoplncjliaaGreatDoor
open Go.RowKit

theorem int_at {a b : Int} (h : a = b) : (some (Value.int .i64 a) : Option Value) = some (Value.int .i64 b) := by rw [h]
theorem str_at {a b : List Nat} (h : a = b) : (some (Value.string (strOf a)) : Option Value) = some (Value.string (strOf b)) := by rw [h]
section
variable {α : Type}
theorem take_last {l : List α} {i : Nat} {x : α} (h : l[i]? = some x) : l.take (i + 1) = l.take i ++ [x] := by rw [List.take_add_one, h]; rfl
theorem cut_at {l : List α} {i : Nat} {x : α} (h : l[i]? = some x) : l = l.take i ++ x :: l.drop (i + 1) := by
  have hi := (List.getElem?_eq_some_iff.1 h).1
  have hx := (List.getElem?_eq_some_iff.1 h).2
  rw [← hx, List.getElem_cons_drop, List.take_append_drop]
theorem drop_head {l : List α} {i : Nat} {x : α} (h : l[i]? = some x) : l.drop i = x :: l.drop (i + 1) := by
  have hi := (List.getElem?_eq_some_iff.1 h).1
  have hx := (List.getElem?_eq_some_iff.1 h).2
  rw [← hx, List.getElem_cons_drop]
end
/-- A file: its bytes, and how many are safe. -/
structure Fil where
  data : List Nat
  safe : Nat
def Fil.cs (f : Fil) : Array Value := #[.string (strOf f.data), .int .i64 (f.safe : Int)]
def Fil.ok (f : Fil) : Prop := (∀ c ∈ f.data, c < 256) ∧ f.safe ≤ f.data.length ∧ f.data.length ≤ 1048576
/-- A disk. -/
structure Dk where
  room : Int
  files : List (List Nat × Fil)
  off : Bool
  armed : Bool
  left : Int
def usedL : List (List Nat × Fil) → Nat
  | [] => 0
  | p :: r => p.2.data.length + usedL r
def Dk.used (D : Dk) : Int := (usedL D.files : Int)
def Dk.cs (D : Dk) (m : Nat) (c1 c2 : Int) : Array Value := #[.int .i64 D.room, .map (some m), .int .i64 D.used, .int .i64 c1, .int .i64 c2, .bool D.off, .bool D.armed, .int .i64 D.left]
structure Dk.ok (D : Dk) : Prop where
  room0 : 0 ≤ D.room
  room1 : D.room ≤ 16777216
  fits : D.used ≤ D.room
  left0 : 0 ≤ D.left
  left1 : D.left ≤ 4611686018427387904
  fil : ∀ p ∈ D.files, p.2.ok ∧ (∀ c ∈ p.1, c < 256) ∧ p.1 ≠ [] ∧ p.1.length ≤ 24
  most : D.files.length ≤ 200
/-- The files' blocks. -/
structure Fs (w : World) (B : Nat) (l : List (List Nat × Nat)) (F : Nat → Fil) : Prop where
  blk : ∀ p ∈ l, B ≤ p.2 ∧ Blk w p.2 91 (F p.2).cs
  nd : (l.map (·.2)).Nodup
/-- The files' blocks but one. -/
structure Fb (w : World) (B : Nat) (l : List (List Nat × Nat)) (F : Nat → Fil) (b : Nat) : Prop where
  blk : ∀ p ∈ l, B ≤ p.2 ∧ (p.2 ≠ b → Blk w p.2 91 (F p.2).cs)
  nd : (l.map (·.2)).Nodup
def fsOf (l : List (List Nat × Nat)) (F : Nat → Fil) : List (List Nat × Fil) := l.map fun p => (p.1, F p.2)
structure DkR (w : World) (B g : Nat) (D : Dk) (m : Nat) (l : List (List Nat × Nat)) (F : Nat → Fil) (c1 c2 : Int) : Prop where
  k : Blk w g 77 (D.cs m c1 c2)
  mp : Mp w m l
  hm : B ≤ m
  fs : Fs w B l F
  fl : D.files = fsOf l F
  hB : B ≤ g
  ok : D.ok
def DkAt (w : World) (B g : Nat) (D : Dk) : Prop := ∃ m l F c1 c2, DkR w B g D m l F c1 c2
theorem Blk.neT {w : World} {g g' : Nat} {T T' : TypeId} {cs cs' : Array Value} (h : Blk w g T cs) (h' : Blk w g' T' cs') (hne : T ≠ T' := by decide) : g ≠ g' := fun e => by
  have h1 : w.heap[g]? = some (.cells cs T) := h
  have h2 : w.heap[g']? = some (.cells cs' T') := h'
  rw [← e, h1] at h2
  injection h2 with h2
  injection h2 with _ h2
  exact hne h2
/-- What a disk's methods leave as it was. -/
structure Df (B : Nat) (w w' : World) : Prop where
  below : Below (min B w.heap.size) w w'
  keep : ∀ k t cs, Blk w k t cs → t ≠ 77 → t ≠ 91 → Blk w' k t cs
section
variable {B : Nat} {w w' w'' : World}
theorem Df.refl (B : Nat) (w : World) : Df B w w := ⟨Below.refl _ _, fun _ _ _ h _ _ => h⟩
theorem Df.trans (h : Df B w w') (k : Df B w' w'') : Df B w w'' := ⟨h.below.trans (k.below.mono (by have := h.below.size; omega)), fun i t cs hb h1 h2 => k.keep i t cs (h.keep i t cs hb h1 h2) h1 h2⟩
theorem Df.grow (h : Below w.heap.size w w') : Df B w w' := ⟨h.mono (Nat.min_le_right _ _), fun _ _ _ hb _ _ => hb.step h⟩
theorem Df.step (h : Df B w w') (k : Below w'.heap.size w' w'') : Df B w w'' := h.trans (Df.grow k)
theorem Df.size (h : Df B w w') : w.heap.size ≤ w'.heap.size := h.below.size
theorem Df.to (h : Df B w w') (hB : B ≤ w.heap.size) : Below B w w' := by have := h.below; rwa [Nat.min_eq_left hB] at this
theorem Df.mono {B' : Nat} (h : Df B w w') (hB : B' ≤ B) : Df B' w w' := ⟨h.below.mono (by omega), h.keep⟩
theorem Df.putX {g : Nat} {T : TypeId} {cur cs : Array Value} (h : Df B w w') (k : Blk w' g T cur) (p : Put w' w'' g T cs) (ht : (B ≤ g ∧ (T = 77 ∨ T = 91)) ∨ w.heap.size ≤ g) : Df B w w'' := by
  rcases ht with ⟨h1, h2⟩ | h1
  · exact h.trans ⟨p.below (by omega) k.lt, fun i t cs' hb h3 h4 => hb.grown p.grown (fun e => by
      have e : i = g := by injection e
      rw [e] at hb
      have hb' : w'.heap[g]? = some (.cells cs' t) := hb
      have hk' : w'.heap[g]? = some (.cells cur T) := k
      rw [hb'] at hk'
      injection hk' with hk'
      injection hk' with _ hk'
      subst hk'
      rcases h2 with h2 | h2
      · exact h3 h2
      · exact h4 h2)⟩
  · refine ⟨h.below.trans (p.below (by omega) k.lt), fun i t cs' hb h3 h4 => (h.keep i t cs' hb h3 h4).grown p.grown (fun e => ?_)⟩
    injection e with e
    have := hb.lt
    omega
theorem Df.put {B' g : Nat} {T : TypeId} {cur cs : Array Value} (h : Df B w w') (k : Blk w' g T cur) (p : Put w' w'' g T cs) (e : B' ≤ g) (ht : (B ≤ B' ∧ (T = 77 ∨ T = 91)) ∨ w.heap.size ≤ B' := by first | exact .inl ⟨by omega, .inl rfl⟩ | exact .inl ⟨by omega, .inr rfl⟩ | exact .inr (by omega)) : Df B w w'' :=
  h.putX k p (by rcases ht with ⟨h1, h2⟩ | h1; exact .inl ⟨by omega, h2⟩; exact .inr (by omega))
theorem Df.putM {m : Nat} {l : List (List Nat × Nat)} (h : Df B w w') (hm : B ≤ m) (p : PutM w' w'' m l) : Df B w w'' :=
  h.trans ⟨only_to_below (p.grown) (Nat.le_trans (Nat.min_le_left _ _) hm) (by have := p.mp.lt; have := p.size; omega), fun i t cs' hb _ _ => hb.grown p.grown (fun e => by
    have e : i = m := by injection e
    rw [e] at hb
    obtain ⟨es, clk, hm'⟩ := p.was
    have hb' : w'.heap[m]? = some (.cells cs' t) := hb
    rw [hm'] at hb'
    cases hb')⟩
theorem Blk.df {k : Nat} {t : TypeId} {cs : Array Value} (h : Blk w k t cs) (f : Df B w w') (h1 : t ≠ 77 := by decide) (h2 : t ≠ 91 := by decide) : Blk w' k t cs := f.keep k t cs h h1 h2
theorem Reads.df {B2 size n : Nat} {A : Option Addr} {xs : List Value} (h : Reads w B2 size A n xs) (f : Df B w w') (hB : B2 ≤ B) (hs : B2 ≤ w.heap.size) : Reads w' B2 size A n xs := h.below (f.below.mono (by omega))
end
section
variable {w w' : World} {B : Nat} {l : List (List Nat × Nat)} {F : Nat → Fil}
theorem Fs.step (h : Fs w B l F) (hb : Below w.heap.size w w') : Fs w' B l F := ⟨fun p hp => ⟨(h.blk p hp).1, (h.blk p hp).2.step hb⟩, h.nd⟩
theorem Fs.put {B' g : Nat} {T : TypeId} {cur cs : Array Value} (h : Fs w B l F) (k : Blk w g T cur) (p : Put w w' g T cs) (_e : B' ≤ g) (hne : T ≠ 91 := by decide) : Fs w' B l F :=
  ⟨fun q hq => ⟨(h.blk q hq).1, (h.blk q hq).2.put p (fun e => by
    have h1 : w.heap[q.2]? = some (.cells (F q.2).cs 91) := (h.blk q hq).2
    have h2 : w.heap[g]? = some (.cells cur T) := k
    rw [e, h2] at h1
    injection h1 with h1
    injection h1 with _ h1
    exact hne h1)⟩, h.nd⟩
theorem Fs.grown {row : Option Nat} (h : Fs w B l F) (hg : w.grownBy w' row) (hne : ∀ p ∈ l, row ≠ some p.2) : Fs w' B l F := ⟨fun q hq => ⟨(h.blk q hq).1, (h.blk q hq).2.grown hg (fun e => hne q hq e.symm)⟩, h.nd⟩
theorem Fb.step {b : Nat} (h : Fb w B l F b) (hb : Below w.heap.size w w') : Fb w' B l F b := ⟨fun p hp => ⟨(h.blk p hp).1, fun hne => ((h.blk p hp).2 hne).step hb⟩, h.nd⟩
theorem Fb.put {B' b g : Nat} {T : TypeId} {cur cs : Array Value} (h : Fb w B l F b) (k : Blk w g T cur) (p : Put w w' g T cs) (_e : B' ≤ g) (hne : T ≠ 91 ∨ g = b := by first | exact .inl (by decide) | exact .inr rfl) : Fb w' B l F b :=
  ⟨fun q hq => ⟨(h.blk q hq).1, fun hqb => ((h.blk q hq).2 hqb).put p (fun e => by
    rcases hne with hne | hne
    · have h1 : w.heap[q.2]? = some (.cells (F q.2).cs 91) := (h.blk q hq).2 hqb
      have h2 : w.heap[g]? = some (.cells cur T) := k
      rw [e, h2] at h1
      injection h1 with h1
      injection h1 with _ h1
      exact hne h1
    · exact hqb (e.trans hne))⟩, h.nd⟩
theorem Fs.off (h : Fs w B l F) (b : Nat) : Fb w B l F b := ⟨fun p hp => ⟨(h.blk p hp).1, fun _ => (h.blk p hp).2⟩, h.nd⟩
/-- A file's bytes turned. -/
def setF (F : Nat → Fil) (b : Nat) (f : Fil) : Nat → Fil := fun k => if k = b then f else F k
theorem Fb.on {b : Nat} {f : Fil} (h : Fb w B l F b) (k : Blk w b 91 f.cs) : Fs w B l (setF F b f) := ⟨fun p hp => ⟨(h.blk p hp).1, by
  unfold setF
  split
  · rename_i e; rw [e]; exact k
  · rename_i e; exact (h.blk p hp).2 e⟩, h.nd⟩
end
theorem DkR.step {w w' : World} {B g m : Nat} {D : Dk} {l : List (List Nat × Nat)} {F : Nat → Fil} {c1 c2 : Int} (h : DkR w B g D m l F c1 c2) (hb : Below w.heap.size w w') : DkR w' B g D m l F c1 c2 := ⟨h.k.step hb, h.mp.step hb, h.hm, h.fs.step hb, h.fl, h.hB, h.ok⟩
theorem DkR.put {w w' : World} {B B' g m g' : Nat} {D : Dk} {l : List (List Nat × Nat)} {F : Nat → Fil} {c1 c2 : Int} {T : TypeId} {cur cs : Array Value} (h : DkR w B g D m l F c1 c2) (k : Blk w g' T cur) (p : Put w w' g' T cs) (e : B' ≤ g') (h1 : T ≠ 91 := by decide) (h2 : T ≠ 77 := by decide) : DkR w' B g D m l F c1 c2 :=
  ⟨h.k.put p (fun e => by
    have h3 : w.heap[g]? = some (.cells (D.cs m c1 c2) 77) := h.k
    have h4 : w.heap[g']? = some (.cells cur T) := k
    rw [e, h4] at h3
    injection h3 with h3
    injection h3 with _ h3
    exact h2 h3), h.mp.put k p e, h.hm, h.fs.put k p e h1, h.fl, h.hB, h.ok⟩
theorem DkAt.step {w w' : World} {B g : Nat} {D : Dk} (h : DkAt w B g D) (hb : Below w.heap.size w w') : DkAt w' B g D := by
  obtain ⟨m, l, F, c1, c2, h⟩ := h
  exact ⟨m, l, F, c1, c2, h.step hb⟩
theorem DkAt.put {w w' : World} {B B' g g' : Nat} {D : Dk} {T : TypeId} {cur cs : Array Value} (h : DkAt w B g D) (k : Blk w g' T cur) (p : Put w w' g' T cs) (e : B' ≤ g') (h1 : T ≠ 91 := by decide) (h2 : T ≠ 77 := by decide) : DkAt w' B g D := by
  obtain ⟨m, l, F, c1, c2, h⟩ := h
  exact ⟨m, l, F, c1, c2, h.put k p e h1 h2⟩
theorem Df.df {B : Nat} {w w' w'' : World} (h : Df B w w') (k : Df B w' w'') : Df B w w'' := h.trans k
theorem Own.df {B B' size n : Nat} {w w' : World} {e : TypeId} {v : Value} {xs : List Value} (h : Own w B' e size v n xs) (f : Df B w w') (h1 : e ≠ 77 := by decide) (h2 : e ≠ 91 := by decide) : Own w' B' e size v n xs := by
  obtain ⟨⟨hl, h0 | ⟨g, cap, cur, rfl, hB, hg, r⟩⟩⟩ := h
  · exact ⟨⟨hl, .inl h0⟩⟩
  · exact ⟨⟨hl, .inr ⟨g, cap, cur, rfl, hB, f.keep g e cur hg h1 h2, r⟩⟩⟩
theorem Mp.app {w w' : World} {m B B' size n : Nat} {e : TypeId} {l : List (List Nat × Nat)} {v : Value} {xs : List Value} (h : Mp w m l) (o : Own w B e size v n xs) (ha : App w w' B' v) : Mp w' m l := h.grown ha.grown (fun e' => by
  rcases o.row.2 with ⟨rfl, _⟩ | ⟨g, cap, cur, rfl, hB, hg, _⟩
  · cases e'
  · injection e' with e'
    have e' : g = m := e'
    exact h.ne hg e'.symm)
theorem Blk.appNe {k n B B' size : Nat} {w w' : World} {t e : TypeId} {cs : Array Value} {v : Value} {xs : List Value} (h : Blk w k t cs) (o : Own w B e size v n xs) (ha : App w w' B' v) (hne : e ≠ t := by decide) : Blk w' k t cs := h.grown ha.grown (fun e' => own_blk_ne o.row h hne e'.symm)
theorem DkR.app {w w' : World} {B g m B2 B3 n size : Nat} {D : Dk} {l : List (List Nat × Nat)} {F : Nat → Fil} {c1 c2 : Int} {e : TypeId} {v : Value} {xs : List Value} (h : DkR w B g D m l F c1 c2) (o : Own w B2 e size v n xs) (ha : App w w' B3 v) (h1 : e ≠ 77 := by decide) (h2 : e ≠ 91 := by decide) : DkR w' B g D m l F c1 c2 :=
  ⟨h.k.appNe o ha h1, h.mp.app o ha, h.hm, ⟨fun p hp => ⟨(h.fs.blk p hp).1, (h.fs.blk p hp).2.appNe o ha h2⟩, h.fs.nd⟩, h.fl, h.hB, h.ok⟩
theorem Df.app {w w' w'' : World} {B B2 B3 n size : Nat} {e : TypeId} {v : Value} {xs : List Value} (h : Df B w w') (o : Own w' B2 e size v n xs) (ha : App w' w'' B3 v) (h0 : w.heap.size ≤ B3) : Df B w w'' := by
  refine ⟨h.below.trans (ha.below.mono (by omega)), fun i t cs hb h3 h4 => ?_⟩
  have h5 := h.keep i t cs hb h3 h4
  have h6 : w''.heap[i]? = w'.heap[i]? := ha.below.block i (by have := hb.lt; omega)
  exact h6.trans h5
theorem DkAt.app {w w' : World} {B g B2 B3 n size : Nat} {D : Dk} {e : TypeId} {v : Value} {xs : List Value} (h : DkAt w B g D) (o : Own w B2 e size v n xs) (ha : App w w' B3 v) (h1 : e ≠ 77 := by decide) (h2 : e ≠ 91 := by decide) : DkAt w' B g D := by
  obtain ⟨m, l, F, c1, c2, h⟩ := h
  exact ⟨m, l, F, c1, c2, h.app o ha h1 h2⟩
/-- A file by its name. -/
def Dk.get (D : Dk) (nm : List Nat) : Option Fil := (D.files.find? (fun p => decide (p.1 = nm))).map (·.2)
theorem get_lk (l : List (List Nat × Nat)) (F : Nat → Fil) (nm : List Nat) : ((fsOf l F).find? (fun p => decide (p.1 = nm))).map (·.2) = (lk l nm).map F := by
  unfold fsOf lk
  rw [List.find?_map]
  rw [Option.map_map, Option.map_map]
  rfl
theorem lk_mem {l : List (List Nat × Nat)} {nm : List Nat} {b : Nat} (h : lk l nm = some b) : (nm, b) ∈ l := by
  unfold lk at h
  cases hf : l.find? (fun p => decide (p.1 = nm)) with
  | none => rw [hf] at h; cases h
  | some p =>
    rw [hf] at h
    injection h with h
    have h1 := List.find?_some hf
    have h2 := List.mem_of_find?_eq_some hf
    simp only [decide_eq_true_eq] at h1
    rw [← h1, ← h]
    exact h2
/-- A file turned. -/
def Dk.set (D : Dk) (nm : List Nat) (f : Fil) : Dk := { D with files := D.files.map fun p => if p.1 = nm then (p.1, f) else p }
theorem mem_one {α β : Type} [DecidableEq α] [DecidableEq β] {l : List (α × β)} {a : α} {b : β} (hn : (l.map (·.1)).Nodup) (hd : (l.map (·.2)).Nodup) (h : (a, b) ∈ l) {p : α × β} (hp : p ∈ l) : p.1 = a ↔ p.2 = b := by
  obtain ⟨i, hi, hip⟩ := List.getElem_of_mem hp
  obtain ⟨j, hj, hjp⟩ := List.getElem_of_mem h
  have key : i = j → p = (a, b) := fun e => by subst e; rw [← hip, hjp]
  constructor
  · intro e
    have : (l.map (·.1))[i]? = (l.map (·.1))[j]? := by
      rw [List.getElem?_map, List.getElem?_map, List.getElem?_eq_getElem hi, List.getElem?_eq_getElem hj, hip, hjp]
      simp [e]
    rw [key ((List.getElem?_inj (by rw [List.length_map]; exact hi) hn).1 this)]
  · intro e
    have : (l.map (·.2))[i]? = (l.map (·.2))[j]? := by
      rw [List.getElem?_map, List.getElem?_map, List.getElem?_eq_getElem hi, List.getElem?_eq_getElem hj, hip, hjp]
      simp [e]
    rw [key ((List.getElem?_inj (by rw [List.length_map]; exact hi) hd).1 this)]
theorem fsOf_set {l : List (List Nat × Nat)} {F : Nat → Fil} {nm : List Nat} {b : Nat} (hn : (l.map (·.1)).Nodup) (hd : (l.map (·.2)).Nodup) (h : lk l nm = some b) (f : Fil) : (fsOf l F).map (fun p => if p.1 = nm then (p.1, f) else p) = fsOf l (setF F b f) := by
  unfold fsOf setF
  rw [List.map_map]
  refine List.map_congr_left fun p hp => ?_
  have := mem_one hn hd (lk_mem h) hp
  by_cases e : p.1 = nm
  · simp [e, this.1 e]
  · have e2 : p.2 ≠ b := fun e2 => e (this.2 e2)
    simp [e, e2]
theorem usedL_set {fs : List (List Nat × Fil)} {nm : List Nat} {f : Fil} (h : ∀ p ∈ fs, p.1 = nm → p.2.data.length = f.data.length) : usedL (fs.map fun p => if p.1 = nm then (p.1, f) else p) = usedL fs := by
  induction fs with
  | nil => rfl
  | cons p r ih =>
    rw [List.map_cons, usedL, usedL, ih (fun q hq => h q (List.mem_cons_of_mem _ hq))]
    by_cases e : p.1 = nm
    · rw [if_pos e, h p List.mem_cons_self e]
    · rw [if_neg e]
theorem get_mem {D : Dk} {nm : List Nat} {f : Fil} (h : D.get nm = some f) : (nm, f) ∈ D.files := by
  unfold Dk.get at h
  cases hf : D.files.find? (fun p => decide (p.1 = nm)) with
  | none => rw [hf] at h; cases h
  | some p =>
    rw [hf] at h
    injection h with h
    have h1 := List.find?_some hf
    have h2 := List.mem_of_find?_eq_some hf
    simp only [decide_eq_true_eq] at h1
    rw [← h1, ← h]
    exact h2
end Go.Proofs.YtnlepoplncjliaaGreatDoor

/-
  A disk that nobody armed: what its operations leave, file by file. No condition.
-/
import Derived.Test.YtnlepoplncjliaaGreatDoorWcA
namespace Go.Proofs.YtnlepoplncjliaaGreatDoor
open Go.RowKit

/-- A disk that is on, and isn't armed. -/
structure Dk.calm (D : Dk) : Prop where
  off : D.off = false
  armed : D.armed = false
theorem tick_calm {D : Dk} (h : D.calm) : D.tick = D := by unfold Dk.tick; rw [if_neg (by simp [h.off]), if_neg (by simp [h.armed])]
theorem beginE_calm {D : Dk} (h : D.calm) {ns : List (List Nat)} (hn : ∀ s ∈ ns, nameOk s = true) : D.beginE ns = 0 := by
  unfold Dk.beginE
  rw [tick_calm h, h.off, if_neg (by simp), if_pos (List.all_eq_true.2 hn)]
theorem thereE_calm {D : Dk} (h : D.calm) {ns : List (List Nat)} (hn : ∀ s ∈ ns, nameOk s = true) (x : List Nat) : D.thereE ns x = if (D.get x).isSome then 0 else 7 := by
  unfold Dk.thereE
  rw [beginE_calm h hn, if_neg (by simp)]
theorem mem_names {D : Dk} {x : List Nat} : x ∈ D.files.map (·.1) ↔ (D.get x).isSome = true := by
  unfold Dk.get
  rw [Option.isSome_map, List.find?_isSome]
  constructor
  · intro h
    obtain ⟨p, hp, rfl⟩ := List.mem_map.1 h
    exact ⟨p, hp, by simp⟩
  · rintro ⟨p, hp, e⟩
    exact List.mem_map.2 ⟨p, hp, by simpa using e⟩
theorem map_get (fs : List (List Nat × Fil)) (a : List Nat) (f : Fil) (x : List Nat) : ((fs.map fun p => if p.1 = a then (p.1, f) else p).find? (fun p => decide (p.1 = x))).map (·.2) = if x = a then ((fs.find? fun p => decide (p.1 = x)).map fun _ => f) else (fs.find? fun p => decide (p.1 = x)).map (·.2) := by
  have hq : ((fun p : List Nat × Fil => decide (p.1 = x)) ∘ fun p : List Nat × Fil => if p.1 = a then (p.1, f) else p) = fun p => decide (p.1 = x) := by
    funext p
    simp only [Function.comp]
    split <;> rfl
  rw [List.find?_map, hq]
  cases e : fs.find? (fun p => decide (p.1 = x)) with
  | none => simp
  | some p =>
    have h1 := List.find?_some e
    simp only [decide_eq_true_eq] at h1
    subst h1
    by_cases h2 : p.1 = a <;> simp [h2]
theorem putL_get (fs : List (List Nat × Fil)) (a : List Nat) (f : Fil) (x : List Nat) : ((putL fs a f).find? (fun p => decide (p.1 = x))).map (·.2) = if x = a then some f else (fs.find? fun p => decide (p.1 = x)).map (·.2) := by
  unfold putL
  split
  · rename_i h
    rw [map_get]
    split
    · rename_i e
      subst e
      cases e2 : fs.find? (fun p => decide (p.1 = x)) with
      | none => rw [e2] at h; cases h
      | some p => rfl
    · rfl
  · rename_i h
    rw [List.find?_append]
    split
    · rename_i e
      subst e
      have : fs.find? (fun p => decide (p.1 = x)) = none := by
        cases e2 : fs.find? (fun p => decide (p.1 = x)) with
        | none => rfl
        | some p => rw [e2] at h; exact absurd rfl h
      rw [this]
      simp
    · rename_i e
      have h1 : [(a, f)].find? (fun p => decide (p.1 = x)) = none := by
        rw [List.find?_cons_of_neg (by simpa using fun e2 => e e2.symm)]
        rfl
      rw [h1, Option.or_none]
theorem get_append {D : Dk} {a s : List Nat} (h : D.appendE a s = 0) (x : List Nat) : (D.append a s).get x = if x = a then some ⟨(D.fileOf a).data ++ s, (D.fileOf a).safe⟩ else D.get x := by
  have : D.append a s = { D.tick with files := putL D.files a ⟨(D.fileOf a).data ++ s, (D.fileOf a).safe⟩ } := by unfold Dk.append; rw [if_pos h]
  rw [this]
  exact putL_get _ _ _ _
theorem append_room (D : Dk) (a s : List Nat) : (D.append a s).room = D.room := by unfold Dk.append; split <;> exact tick_room D
theorem append_calm {D : Dk} {a s : List Nat} (h : D.calm) : (D.append a s).calm := by
  unfold Dk.append
  split
  · exact ⟨by show D.tick.off = _; rw [tick_calm h]; exact h.off, by show D.tick.armed = _; rw [tick_calm h]; exact h.armed⟩
  · rw [tick_calm h]; exact h
theorem append_len (D : Dk) (a s : List Nat) : (D.append a s).files.length ≤ D.files.length + 1 := by
  unfold Dk.append
  split
  · show (putL _ _ _).length ≤ _
    rw [putL_len]
    split <;> omega
  · rw [tick_files]; omega
theorem get_sync {D : Dk} (hc : D.calm) {a : List Nat} {f : Fil} (ha : nameOk a = true) (hf : D.get a = some f) (x : List Nat) : (D.sync a).get x = if x = a then some { f with safe := f.data.length } else D.get x := by
  have h0 : D.thereE [a] a = 0 := by rw [thereE_calm hc (by simpa using ha), hf]; rfl
  have : D.sync a = D.set a { f with safe := f.data.length } := by unfold Dk.sync; rw [if_pos h0, hf, tick_calm hc]
  rw [this]
  show ((D.files.map _).find? _).map _ = _
  rw [map_get]
  split
  · rename_i e
    subst e
    unfold Dk.get at hf
    cases e2 : D.files.find? (fun p => decide (p.1 = x)) with
    | none => rw [e2] at hf; cases hf
    | some p => rfl
  · rfl
theorem sync_len (D : Dk) (a : List Nat) : (D.sync a).files.length = D.files.length := by
  unfold Dk.sync
  split
  · split
    · unfold Dk.set; simp [tick_files]
    · rw [tick_files]
  · rw [tick_files]
theorem sync_room (D : Dk) (a : List Nat) : (D.sync a).room = D.room := by
  unfold Dk.sync
  split
  · split
    · exact tick_room D
    · exact tick_room D
  · exact tick_room D
theorem sync_calm {D : Dk} {a : List Nat} (h : D.calm) : (D.sync a).calm := by
  unfold Dk.sync
  split
  · split
    · exact ⟨by show D.tick.off = _; rw [tick_calm h]; exact h.off, by show D.tick.armed = _; rw [tick_calm h]; exact h.armed⟩
    · rw [tick_calm h]; exact h
  · rw [tick_calm h]; exact h
theorem sync_used {D : Dk} {a : List Nat} (hn : (D.files.map (·.1)).Nodup) : (D.sync a).used = D.used := by
  unfold Dk.sync
  split
  · split
    · rename_i f hf
      unfold Dk.set Dk.used
      show ((usedL (D.tick.files.map _) : Nat) : Int) = _
      rw [tick_files, usedL_set]
      intro p hp e
      have h1 := get_mem hf
      have h2 : (D.files.map (·.1)).Nodup := hn
      obtain ⟨i, hi, hip⟩ := List.getElem_of_mem hp
      obtain ⟨j, hj, hjp⟩ := List.getElem_of_mem h1
      have h3 : (D.files.map (·.1))[i]? = (D.files.map (·.1))[j]? := by
        rw [List.getElem?_map, List.getElem?_map, List.getElem?_eq_getElem hi, List.getElem?_eq_getElem hj, hip, hjp]
        simp [e]
      have h4 := (List.getElem?_inj (by rw [List.length_map]; exact hi) h2).1 h3
      subst h4
      rw [hip] at hjp
      rw [hjp]
    · exact tick_used D
  · exact tick_used D
theorem sync_names (D : Dk) (a : List Nat) : (D.sync a).files.map (·.1) = D.files.map (·.1) := by
  unfold Dk.sync
  split
  · split
    · unfold Dk.set
      show (D.tick.files.map _).map _ = _
      rw [tick_files, List.map_map]
      refine List.map_congr_left fun p _ => ?_
      simp only [Function.comp]
      split <;> rfl
    · rw [tick_files]
  · rw [tick_files]
theorem putL_nodup {fs : List (List Nat × Fil)} {a : List Nat} {f : Fil} (h : (fs.map (·.1)).Nodup) : ((putL fs a f).map (·.1)).Nodup := by
  unfold putL
  split
  · rw [List.map_map]
    have : ((fun p : List Nat × Fil => p.1) ∘ fun p : List Nat × Fil => if p.1 = a then (p.1, f) else p) = fun p => p.1 := by
      funext p
      simp only [Function.comp]
      split <;> rfl
    rw [this]
    exact h
  · rename_i h1
    rw [List.map_append, List.nodup_append]
    refine ⟨h, by simp, ?_⟩
    intro x hx b hb
    simp at hb
    subst hb
    intro e
    subst e
    obtain ⟨p, hp, e2⟩ := List.mem_map.1 hx
    apply h1
    rw [List.find?_isSome]
    exact ⟨p, hp, by simpa using e2⟩
theorem append_nodup {D : Dk} {a s : List Nat} (h : (D.files.map (·.1)).Nodup) : ((D.append a s).files.map (·.1)).Nodup := by
  unfold Dk.append
  split
  · exact putL_nodup h
  · rw [tick_files]; exact h
theorem append_used {D : Dk} {a s : List Nat} (hn : (D.files.map (·.1)).Nodup) (hE : D.appendE a s = 0) : (D.append a s).used = D.used + (s.length : Int) := by
  have hA : D.append a s = { D.tick with files := putL D.files a ⟨(D.fileOf a).data ++ s, (D.fileOf a).safe⟩ } := by unfold Dk.append; rw [if_pos hE]
  have hu := usedL_put (nm := a) ⟨(D.fileOf a).data ++ s, (D.fileOf a).safe⟩ hn
  have e : getL D.files a = D.fileOf a := rfl
  rw [e] at hu
  simp only [List.length_append] at hu
  rw [hA]
  show ((usedL (putL D.files a _) : Nat) : Int) = ((usedL D.files : Nat) : Int) + _
  omega
theorem appendE_calm {D : Dk} {a s : List Nat} (hc : D.calm) (ha : nameOk a = true) (h1 : (D.get a).isSome = true ∨ D.files.length < 200) (h2 : (D.fileOf a).data.length + s.length ≤ 1048576) (h3 : (s.length : Int) ≤ D.room - D.used) : D.appendE a s = 0 := by
  unfold Dk.appendE
  rw [beginE_calm hc (by simpa using ha), if_neg (by simp), if_neg, if_neg (by omega), if_neg (by omega)]
  rintro ⟨h4, h5⟩
  rcases h1 with h1 | h1
  · rw [h1] at h4; cases h4
  · omega
end Go.Proofs.YtnlepoplncjliaaGreatDoor

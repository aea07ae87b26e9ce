/-
  A disk's files as a list: one laid anew, or turned. No condition.
-/
import Derived.Test.YtnlepoplncjliaaGreatDoorWaE
namespace Go.Proofs.YtnlepoplncjliaaGreatDoor
open Go.RowKit

def putL (fs : List (List Nat × Fil)) (nm : List Nat) (f : Fil) : List (List Nat × Fil) := if (fs.find? (fun p => decide (p.1 = nm))).isSome then fs.map (fun p => if p.1 = nm then (p.1, f) else p) else fs ++ [(nm, f)]
def getL (fs : List (List Nat × Fil)) (nm : List Nat) : Fil := ((fs.find? (fun p => decide (p.1 = nm))).map fun (p : List Nat × Fil) => p.2).getD ⟨[], 0⟩
def Dk.fileOf (D : Dk) (nm : List Nat) : Fil := getL D.files nm
theorem fileOf_eq (D : Dk) (nm : List Nat) : D.fileOf nm = (D.get nm).getD ⟨[], 0⟩ := rfl
theorem find_isSome (l : List (List Nat × Nat)) (F : Nat → Fil) (nm : List Nat) : ((fsOf l F).find? (fun p => decide (p.1 = nm))).isSome = (lk l nm).isSome := by
  have := congrArg Option.isSome (get_lk l F nm)
  simpa using this
theorem lk_none_of {l : List (List Nat × Nat)} {nm : List Nat} (h : lk l nm = none) : ∀ p ∈ l, p.1 ≠ nm := by
  intro p hp e
  unfold lk at h
  rw [Option.map_eq_none_iff, List.find?_eq_none] at h
  exact h p hp (by simpa using e)
theorem upd_same {l : List (List Nat × Nat)} {nm : List Nat} {b : Nat} (hn : (l.map (·.1)).Nodup) (hd : (l.map (·.2)).Nodup) (h : lk l nm = some b) : upd l nm b = l := by
  unfold upd
  rw [h]
  simp only [Option.isSome_some, if_true]
  conv => rhs; rw [← List.map_id l]
  refine List.map_congr_left fun p hp => ?_
  split
  · rename_i e
    have := (mem_one hn hd (lk_mem h) hp).1 e
    rw [← e, ← this]
    rfl
  · rfl
theorem put_fs {l : List (List Nat × Nat)} {F : Nat → Fil} {nm : List Nat} {b : Nat} (f : Fil) (hn : (l.map (·.1)).Nodup) (hd : (l.map (·.2)).Nodup) (h : lk l nm = some b ∨ lk l nm = none ∧ ∀ p ∈ l, p.2 ≠ b) : fsOf (upd l nm b) (setF F b f) = putL (fsOf l F) nm f := by
  rcases h with h | ⟨h, hb⟩
  · rw [upd_same hn hd h, ← fsOf_set hn hd h]
    unfold putL
    rw [find_isSome, h]
    rfl
  · have h1 : upd l nm b = l ++ [(nm, b)] := by unfold upd; rw [h]; rfl
    have h2 : putL (fsOf l F) nm f = fsOf l F ++ [(nm, f)] := by unfold putL; rw [find_isSome, h]; rfl
    rw [h1, h2]
    unfold fsOf
    rw [List.map_append]
    congr 1
    · refine List.map_congr_left fun p hp => ?_
      unfold setF
      rw [if_neg (hb p hp)]
    · simp [setF]
theorem put_blk {w : World} {B : Nat} {l : List (List Nat × Nat)} {F : Nat → Fil} {nm : List Nat} {b : Nat} {f : Fil} (hn : (l.map (·.1)).Nodup) (hx : Fb w B l F b) (hB : B ≤ b) (k : Blk w b 91 f.cs) (h : lk l nm = some b ∨ lk l nm = none ∧ ∀ p ∈ l, p.2 ≠ b) : Fs w B (upd l nm b) (setF F b f) := by
  have hon := hx.on k
  rcases h with h | ⟨h, hb⟩
  · rw [upd_same hn hx.nd h]
    exact hon
  · have h1 : upd l nm b = l ++ [(nm, b)] := by unfold upd; rw [h]; rfl
    rw [h1]
    refine ⟨fun p hp => ?_, ?_⟩
    · rcases List.mem_append.1 hp with hp | hp
      · exact hon.blk p hp
      · simp at hp
        subst hp
        exact ⟨hB, by simpa [setF] using k⟩
    · rw [List.map_append, List.nodup_append]
      refine ⟨hx.nd, by simp, ?_⟩
      intro a ha c hc
      simp at hc
      subst hc
      obtain ⟨p, hp, rfl⟩ := List.mem_map.1 ha
      exact hb p hp
theorem usedL_app (a b : List (List Nat × Fil)) : usedL (a ++ b) = usedL a + usedL b := by
  induction a with
  | nil => simp [usedL]
  | cons p r ih => rw [List.cons_append, usedL, usedL, ih]; omega
theorem usedL_one {fs : List (List Nat × Fil)} {nm : List Nat} {f0 : Fil} (f : Fil) (hn : (fs.map (·.1)).Nodup) (h : (nm, f0) ∈ fs) : usedL (fs.map fun p => if p.1 = nm then (p.1, f) else p) + f0.data.length = usedL fs + f.data.length := by
  induction fs with
  | nil => cases h
  | cons p r ih =>
    rw [List.map_cons, List.nodup_cons] at hn
    rw [List.map_cons, usedL, usedL]
    rcases List.mem_cons.1 h with h | h
    · subst h
      have e : (r.map fun p => if p.1 = nm then (p.1, f) else p) = r := by
        conv => rhs; rw [← List.map_id r]
        refine List.map_congr_left fun q hq => ?_
        rw [if_neg (fun e => hn.1 (List.mem_map.2 ⟨q, hq, e⟩))]
        rfl
      rw [e, if_pos rfl]
      show f.data.length + usedL r + f0.data.length = f0.data.length + usedL r + f.data.length
      omega
    · have := ih hn.2 h
      have e : p.1 ≠ nm := fun e => hn.1 (List.mem_map.2 ⟨(nm, f0), h, e.symm⟩)
      rw [if_neg e]
      omega
theorem usedL_put {fs : List (List Nat × Fil)} {nm : List Nat} (f : Fil) (hn : (fs.map (·.1)).Nodup) : usedL (putL fs nm f) + (getL fs nm).data.length = usedL fs + f.data.length := by
  unfold putL getL
  cases hf : fs.find? (fun p => decide (p.1 = nm)) with
  | none =>
    simp only [Option.isSome_none, Bool.false_eq_true, if_false, Option.map_none, Option.getD_none, List.length_nil]
    rw [usedL_app]
    simp [usedL]
  | some p =>
    have h1 := List.find?_some hf
    have h2 := List.mem_of_find?_eq_some hf
    simp only [decide_eq_true_eq] at h1
    simp only [Option.isSome_some, if_true, Option.map_some, Option.getD_some]
    have h3 : (nm, p.2) ∈ fs := by rw [← h1]; exact h2
    exact usedL_one f hn h3
theorem fs_names {l : List (List Nat × Nat)} {F : Nat → Fil} : (fsOf l F).map (·.1) = l.map (·.1) := by unfold fsOf; rw [List.map_map]; rfl
theorem putL_mem {fs : List (List Nat × Fil)} {nm : List Nat} {f : Fil} {q : List Nat × Fil} (h : q ∈ putL fs nm f) : q = (nm, f) ∨ q ∈ fs := by
  unfold putL at h
  split at h
  · obtain ⟨p, hp, rfl⟩ := List.mem_map.1 h
    split
    · rename_i e; left; rw [e]
    · exact .inr hp
  · rcases List.mem_append.1 h with h | h
    · exact .inr h
    · simp at h; exact .inl h
theorem putL_len {fs : List (List Nat × Fil)} {nm : List Nat} {f : Fil} : (putL fs nm f).length = if (fs.find? (fun p => decide (p.1 = nm))).isSome then fs.length else fs.length + 1 := by
  unfold putL
  split <;> simp
/-- Bytes behind a file's. -/
def Dk.appendE (D : Dk) (nm data : List Nat) : Int := if D.beginE [nm] ≠ 0 then D.beginE [nm] else if (D.get nm).isSome = false ∧ 200 ≤ D.files.length then 4 else if 1048576 - ((D.fileOf nm).data.length : Int) < (data.length : Int) then 4 else if D.room - D.used < (data.length : Int) then 5 else 0
def Dk.append (D : Dk) (nm data : List Nat) : Dk := if D.appendE nm data = 0 then { D.tick with files := putL D.files nm ⟨(D.fileOf nm).data ++ data, (D.fileOf nm).safe⟩ } else D.tick
theorem tick_used (D : Dk) : D.tick.used = D.used := by unfold Dk.used; rw [tick_files]
theorem fileOf_ok {D : Dk} (h : D.ok) (nm : List Nat) : (D.fileOf nm).ok := by
  rw [fileOf_eq]
  cases e : D.get nm with
  | none => exact ⟨by simp, by simp, by simp⟩
  | some f => exact (h.fil _ (get_mem e)).1
theorem append_ok {D : Dk} {nm data : List Nat} (h : D.ok) (ht : D.tick.ok) (hn : (D.files.map (·.1)).Nodup) (hnm : ∀ c ∈ nm, c < 256) (hda : ∀ c ∈ data, c < 256) (hb : D.appendE nm data = 0) (hok : nameOk nm = true) : (D.append nm data).ok ∧ (D.append nm data).used = D.used + (data.length : Int) := by
  have hA : D.append nm data = { D.tick with files := putL D.files nm ⟨(D.fileOf nm).data ++ data, (D.fileOf nm).safe⟩ } := by unfold Dk.append; rw [if_pos hb]
  have hf := fileOf_ok h nm
  unfold Dk.appendE at hb
  split at hb
  · rename_i e; exact absurd hb e
  split at hb
  · cases hb
  rename_i h1
  split at hb
  · cases hb
  rename_i h2
  split at hb
  · cases hb
  rename_i h3
  have hu := usedL_put (nm := nm) ⟨(D.fileOf nm).data ++ data, (D.fileOf nm).safe⟩ hn
  have hu2 : usedL (putL D.files nm ⟨(D.fileOf nm).data ++ data, (D.fileOf nm).safe⟩) = usedL D.files + data.length := by
    have e : getL D.files nm = D.fileOf nm := rfl
    rw [e] at hu
    simp only [List.length_append] at hu
    omega
  have hus : (D.append nm data).used = D.used + (data.length : Int) := by
    rw [hA]
    unfold Dk.used
    rw [hu2]
    omega
  refine ⟨?_, hus⟩
  have hfits : (D.append nm data).used ≤ (D.append nm data).room := by
    rw [hus, hA]
    show _ ≤ D.tick.room
    rw [tick_room]
    omega
  rw [hA] at hfits ⊢
  refine ⟨ht.room0, ht.room1, hfits, ht.left0, ht.left1, ?_, ?_⟩
  · intro p hp
    rcases putL_mem hp with rfl | hp
    · unfold nameOk at hok
      rw [Bool.and_eq_true, decide_eq_true_eq, decide_eq_true_eq] at hok
      refine ⟨⟨?_, ?_, ?_⟩, hnm, hok.1, hok.2⟩
      · intro c hc
        rcases List.mem_append.1 hc with hc | hc
        · exact hf.1 c hc
        · exact hda c hc
      · have := hf.2.1
        simp only [List.length_append]
        omega
      · simp only [List.length_append]
        omega
    · exact h.fil p hp
  · show (putL D.files nm _).length ≤ 200
    rw [putL_len]
    have hm := h.most
    have e : (D.files.find? (fun p => decide (p.1 = nm))).isSome = (D.get nm).isSome := by unfold Dk.get; rw [Option.isSome_map]
    rw [e]
    cases e2 : (D.get nm).isSome with
    | true => simpa using hm
    | false =>
      have : ¬ (200 ≤ D.files.length) := fun h4 => h1 ⟨e2, h4⟩
      simp only [Bool.false_eq_true, if_false]
      omega
theorem beginE_zero {D : Dk} {names : List (List Nat)} (h : D.beginE names = 0) : D.tick.off = false ∧ ∀ s ∈ names, nameOk s = true := by
  unfold Dk.beginE at h
  split at h
  · cases h
  rename_i h1
  split at h
  · rename_i h2
    exact ⟨by simpa using h1, fun s hs => List.all_eq_true.1 h2 s hs⟩
  · cases h
end Go.Proofs.YtnlepoplncjliaaGreatDoor

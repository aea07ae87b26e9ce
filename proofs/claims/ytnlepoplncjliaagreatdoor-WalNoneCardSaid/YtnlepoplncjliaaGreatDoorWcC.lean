/-
  A log on a calm disk: what its files hold, what Open tells, what Append lays. No condition.
-/
import Derived.Test.YtnlepoplncjliaaGreatDoorWcB
import Derived.Test.YtnlepoplncjliaaGreatDoorWbM
namespace Go.Proofs.YtnlepoplncjliaaGreatDoor
open Go.RowKit

/-- A file of which all is safe. -/
def full (s : List Nat) : Fil := ⟨s, s.length⟩
theorem app_sync {D : Dk} {a s : List Nat} (hc : D.calm) (hn : (D.files.map (·.1)).Nodup) (ha : nameOk a = true) (h1 : (D.get a).isSome = true ∨ D.files.length < 200) (h2 : (D.fileOf a).data.length + s.length ≤ 1048576) (h3 : (s.length : Int) ≤ D.room - D.used) :
    D.appendE a s = 0 ∧ (D.append a s).thereE [a] a = 0 ∧ ((D.append a s).sync a).calm ∧ (((D.append a s).sync a).files.map (·.1)).Nodup ∧ ((D.append a s).sync a).room = D.room ∧ ((D.append a s).sync a).used = D.used + (s.length : Int) ∧ ((D.append a s).sync a).files.length ≤ D.files.length + 1 ∧ ∀ x, ((D.append a s).sync a).get x = if x = a then some (full ((D.fileOf a).data ++ s)) else D.get x := by
  have hE := appendE_calm hc ha h1 h2 h3
  have hg := get_append hE
  have hc1 := append_calm (a := a) (s := s) hc
  have hn1 := append_nodup (a := a) (s := s) hn
  have hga := hg a
  rw [if_pos rfl] at hga
  refine ⟨hE, ?_, sync_calm hc1, ?_, ?_, ?_, ?_, fun x => ?_⟩
  · rw [thereE_calm hc1 (by simpa using ha), hga]; rfl
  · rw [sync_names]; exact hn1
  · rw [sync_room, append_room]
  · rw [sync_used hn1, append_used hn hE]
  · rw [sync_len]; exact append_len D a s
  · rw [get_sync hc1 ha hga, hg x]
    by_cases e : x = a
    · rw [if_pos e, if_pos e]; rfl
    · rw [if_neg e, if_neg e, if_neg e]
theorem lay_calm {D : Dk} {nm : List Nat} {num count : Nat} {s : List Nat} (hc : D.calm) (hn : (D.files.map (·.1)).Nodup) (hnl : nm.length ≤ 8) (hnum : num ≤ 999999) (h1 : (D.get (fileN nm num logK)).isSome = true ∨ D.files.length + 2 ≤ 200) (h1' : (D.get (fileN nm num ackK)).isSome = true ∨ D.files.length + 2 ≤ 200)
    (h2 : (D.fileOf (fileN nm num logK)).data.length + s.length ≤ 1048576) (h2' : (D.fileOf (fileN nm num ackK)).data.length + 12 ≤ 1048576) (h3 : (s.length : Int) + 12 ≤ D.room - D.used) :
    (D.lay nm num count s).2 = 0 ∧ (D.lay nm num count s).1.calm ∧ ((D.lay nm num count s).1.files.map (·.1)).Nodup ∧ (D.lay nm num count s).1.room = D.room ∧ (D.lay nm num count s).1.used = D.used + (s.length : Int) + 12 ∧ (D.lay nm num count s).1.files.length ≤ D.files.length + 2 ∧
    ∀ x, (D.lay nm num count s).1.get x = if x = fileN nm num ackK then some (full ((D.fileOf (fileN nm num ackK)).data ++ markN (count + 1))) else if x = fileN nm num logK then some (full ((D.fileOf (fileN nm num logK)).data ++ s)) else D.get x := by
  have hne : fileN nm num ackK ≠ fileN nm num logK := fun e => by
    have := (fileN_inj hnum hnum e).2
    revert this
    decide
  have hok : ∀ k : List Nat, k.length = 4 → nameOk (fileN nm num k) = true := fun k hk => by
    have hl := fileN_len (nm := nm) (k := k) hnum
    unfold nameOk
    rw [Bool.and_eq_true, decide_eq_true_eq, decide_eq_true_eq]
    refine ⟨fun e => ?_, by omega⟩
    rw [e] at hl
    simp at hl
    omega
  have hlg := hok logK rfl
  have hak := hok ackK rfl
  obtain ⟨lg, hlg0⟩ : ∃ x, x = fileN nm num logK := ⟨_, rfl⟩
  obtain ⟨ak, hak0⟩ : ∃ x, x = fileN nm num ackK := ⟨_, rfl⟩
  unfold Dk.lay Dk.note
  rw [← hlg0] at h1 h2 hne hlg
  rw [← hak0] at h1' h2' hne hak
  rw [← hlg0, ← hak0]
  obtain ⟨a1, a2, a3, a4, a5, a6, a7, a8⟩ := app_sync (D := D) (a := lg) (s := s) hc hn hlg (h1.imp_right fun h => by omega) h2 (by omega)
  rw [if_neg (by omega), if_neg (by omega)]
  obtain ⟨E, hE⟩ : ∃ E, E = (D.append lg s).sync lg := ⟨_, rfl⟩
  rw [← hE] at a3 a4 a5 a6 a7 a8
  rw [← hE]
  have hga : E.get ak = D.get ak := by rw [a8, if_neg hne]
  have hfa : E.fileOf ak = D.fileOf ak := by rw [fileOf_eq, fileOf_eq, hga]
  obtain ⟨b1, b2, b3, b4, b5, b6, b7, b8⟩ := app_sync (D := E) (a := ak) (s := markN (count + 1)) a3 a4 hak (h1'.imp (fun h => by rw [hga]; exact h) fun h => by omega) (by rw [hfa, markN_len]; exact h2') (by rw [markN_len, a5, a6]; omega)
  rw [if_neg (by omega)]
  refine ⟨b2, b3, b4, by rw [b5, a5], by rw [b6, a6, markN_len]; omega, Nat.le_trans b7 (by omega), fun x => ?_⟩
  rw [b8, hfa]
  by_cases e : x = ak
  · rw [if_pos e, if_pos e]
  · rw [if_neg e, if_neg e, a8]
/-- A log: what its files hold. -/
structure LogIs (D : Dk) (nm : List Nat) (segs : List (Nat × List (List Nat))) : Prop where
  calm : D.calm
  nd : (D.files.map (·.1)).Nodup
  inc : (segs.map (·.1)).Pairwise (· < ·)
  le : ∀ s ∈ segs, s.1 ≤ 999999
  recs : ∀ s ∈ segs, s.2 ≠ [] ∧ (∀ r ∈ s.2, Byt r ∧ r.length ≤ 131072) ∧ s.2.length ≤ 131072
  log : ∀ s ∈ segs, D.get (fileN nm s.1 logK) = some (full (framesN s.2))
  ack : ∀ s ∈ segs, D.get (fileN nm s.1 ackK) = some (full (marksN s.2.length))
  own : ∀ x, (D.get x).isSome = true → ∃ s ∈ segs, x = fileN nm s.1 logK ∨ x = fileN nm s.1 ackK
/-- All records, and the number behind. -/
def recsOf (segs : List (Nat × List (List Nat))) : List (Nat × List Nat) := segs.flatMap fun s => s.2.map fun r => (s.1, r)
def nextN : Nat → List (Nat × List (List Nat)) → Nat
  | num, [] => num
  | _, s :: r => nextN (s.1 + 1) r
theorem recsOf_app (a b : List (Nat × List (List Nat))) : recsOf (a ++ b) = recsOf a ++ recsOf b := by simp [recsOf]
theorem nextN_app (a : List (Nat × List (List Nat))) (s : Nat × List (List Nat)) : ∀ num, nextN num (a ++ [s]) = s.1 + 1 := by
  induction a with
  | nil => intro num; rfl
  | cons x a ih => intro num; exact ih _
theorem LogIs.own_nm {D : Dk} {nm : List Nat} {segs : List (Nat × List (List Nat))} (h : LogIs D nm segs) : ∀ p ∈ D.files, OwnNm nm p.1 := by
  intro p hp
  obtain ⟨s, hs, e⟩ := h.own p.1 (mem_names.1 (List.mem_map.2 ⟨p, hp, rfl⟩))
  rcases e with e | e
  · exact ⟨s.1, logB, h.le s hs, .inl rfl, e⟩
  · exact ⟨s.1, ackB, h.le s hs, .inr (.inl rfl), e⟩
theorem LogIs.nums {D : Dk} {nm : List Nat} {segs : List (Nat × List (List Nat))} (h : LogIs D nm segs) : numsL nm (D.files.map (·.1)) = segs.map (·.1) := by
  refine inc_eq numsL_inc h.inc fun n => ?_
  rw [numsL_mem]
  constructor
  · rintro ⟨h1, h2⟩
    have key : ∀ k : List Nat, fileN nm n (46 :: k) ∈ D.files.map (·.1) → n ∈ segs.map (·.1) := fun k hk => by
      obtain ⟨s, hs, e⟩ := h.own _ (mem_names.1 hk)
      have : n = s.1 := by
        rcases e with e | e
        · exact (fileN_inj h1 (h.le s hs) e).1
        · exact (fileN_inj h1 (h.le s hs) e).1
      rw [this]
      exact List.mem_map.2 ⟨s, hs, rfl⟩
    rcases h2 with h2 | h2
    · exact key _ h2
    · exact key _ h2
  · intro hn
    obtain ⟨s, hs, rfl⟩ := List.mem_map.1 hn
    refine ⟨h.le s hs, .inl (mem_names.2 ?_)⟩
    show (D.get (fileN nm s.1 logK)).isSome = true
    rw [h.log s hs]
    rfl
theorem LogIs.seg {D : Dk} {nm : List Nat} {segs : List (Nat × List (List Nat))} (h : LogIs D nm segs) {s : Nat × List (List Nat)} (hs : s ∈ segs) : segN D nm s.1 = (D, 0, s.2) := by
  obtain ⟨h1, h2, h3⟩ := h.recs s hs
  have e1 : D.datN (fileN nm s.1 logK) = framesN s.2 := by unfold Dk.datN; rw [h.log s hs]; rfl
  have e2 : D.datN (fileN nm s.1 ackK) = marksN s.2.length := by unfold Dk.datN; rw [h.ack s hs]; rfl
  unfold segN
  rw [e1, e2, allN_frames (fun r hr => (h2 r hr).2), countN_marks h3, if_neg (by simp), if_neg (by simp), if_neg (by simp)]
theorem openGo_log {D : Dk} {nm : List Nat} : ∀ (segs : List (Nat × List (List Nat))) (acc : List (Nat × List Nat)) (num : Nat), (∀ s ∈ segs, segN D nm s.1 = (D, 0, s.2)) → openGo nm (segs.map (·.1)) D acc num = (D, 0, acc ++ recsOf segs, nextN num segs)
  | [], acc, num, _ => by simp [openGo, recsOf, nextN]
  | s :: r, acc, num, h => by
    rw [List.map_cons, openGo, h s List.mem_cons_self, if_neg (by simp), openGo_log r _ _ (fun x hx => h x (List.mem_cons_of_mem _ hx))]
    have : recsOf (s :: r) = (s.2.map fun x => (s.1, x)) ++ recsOf r := by simp [recsOf]
    rw [this, ← List.append_assoc]
    rfl
theorem LogIs.opens {D : Dk} {nm : List Nat} {segs : List (Nat × List (List Nat))} (h : LogIs D nm segs) : openW D nm = (D, 0, recsOf segs, nextN 0 segs) := by
  unfold openW
  rw [h.nums, openGo_log segs [] 0 (fun s hs => h.seg hs)]
  rfl
theorem LogIs.nil {room : Int} {nm : List Nat} : LogIs (Dk.new room) nm [] := ⟨⟨rfl, rfl⟩, by simp [Dk.new], by simp, by simp, by simp, by simp, by simp, fun x hx => by cases hx⟩
/-- A log under way. -/
structure WlIs (D : Dk) (nm : List Nat) (W : Wl) (segs : List (Nat × List (List Nat))) : Prop where
  log : LogIs D nm segs
  broken : W.broken = false
  at_ : (W.count = 0 ∧ W.size = 0 ∧ ∀ s ∈ segs, s.1 < W.num) ∨ ∃ ini l, segs = ini ++ [(W.num, l)] ∧ W.count = l.length ∧ W.size = (framesN l).length
/-- A record more. -/
def addS (segs : List (Nat × List (List Nat))) (W : Wl) (data : List Nat) : List (Nat × List (List Nat)) := if W.count = 0 then segs ++ [(W.num, [data])] else segs.map fun s => if s.1 = W.num then (s.1, s.2 ++ [data]) else s
theorem WlIs.opened {D : Dk} {nm : List Nat} {segs : List (Nat × List (List Nat))} (h : LogIs D nm segs) : WlIs D nm ⟨nextN 0 segs, 0, 0, false⟩ segs := by
  refine ⟨h, rfl, .inl ⟨rfl, rfl, fun s hs => ?_⟩⟩
  show s.1 < nextN 0 segs
  rcases List.eq_nil_or_concat segs with e | ⟨ini, t, e⟩
  · rw [e] at hs; cases hs
  · rw [List.concat_eq_append] at e
    subst e
    rw [nextN_app]
    rcases List.mem_append.1 hs with h1 | h1
    · have := h.inc
      rw [List.map_append, List.pairwise_append] at this
      have := this.2.2 s.1 (List.mem_map.2 ⟨s, h1, rfl⟩) t.1 (by simp)
      omega
    · simp at h1; subst h1; omega
theorem WlIs.last {D : Dk} {nm : List Nat} {W : Wl} {segs : List (Nat × List (List Nat))} (h : WlIs D nm W segs) : ∃ ini l, (if W.count = 0 then segs = ini ∧ l = [] else segs = ini ++ [(W.num, l)]) ∧ (∀ s ∈ ini, s.1 < W.num) ∧ W.count = l.length ∧ W.size = (framesN l).length := by
  rcases h.at_ with ⟨h1, h2, h3⟩ | ⟨ini, l, h1, h2, h3⟩
  · exact ⟨segs, [], by rw [if_pos h1]; exact ⟨rfl, rfl⟩, h3, h1, h2⟩
  · have hm : (W.num, l) ∈ segs := by rw [h1]; simp
    have hne := (h.log.recs _ hm).1
    have hc : ¬ (W.count = 0) := by
      rw [h2]
      intro e
      exact hne (List.eq_nil_of_length_eq_zero e)
    refine ⟨ini, l, by rw [if_neg hc]; exact h1, fun s hs => ?_, h2, h3⟩
    have := h.log.inc
    rw [h1, List.map_append, List.pairwise_append] at this
    exact this.2.2 s.1 (List.mem_map.2 ⟨s, hs, rfl⟩) W.num (by simp)
/-- A record laid: the answer, and what the log is then. -/
theorem WlIs.append {D : Dk} {nm data : List Nat} {W : Wl} {segs : List (Nat × List (List Nat))} (h : WlIs D nm W segs) (hnl : nm.length ≤ 8) (hd : Byt data) (hdl : data.length ≤ 131072) (hnum : W.num ≤ 999999) (hcnt : W.count + 1 ≤ 80000) (hsz : W.size + (data.length + 12) ≤ 1048576) (hfl : D.files.length + 2 ≤ 200) (hroom : (data.length : Int) + 36 ≤ D.room - D.used) :
    ∃ D' segs', appW W D nm data = (⟨W.num, W.count + 1, W.size + (data.length + 12), false⟩, D', 0) ∧ WlIs D' nm ⟨W.num, W.count + 1, W.size + (data.length + 12), false⟩ segs' ∧ recsOf segs' = recsOf segs ++ [(W.num, data)] ∧ D'.room = D.room ∧ D'.used = D.used + (data.length : Int) + 24 ∧ D'.files.length ≤ D.files.length + 2 := by
  obtain ⟨ini, l, hsegs, hini, hcl, hszl⟩ := h.last
  have hL := h.log
  have hturn : W.turned data = W := by unfold Wl.turned; rw [if_neg (by omega)]
  have hfrl := frameN_len data
  have hrw : roomW D W.num W.count (data.length + 12) = true := by
    unfold roomW
    rw [Bool.and_eq_true, Bool.and_eq_true, Bool.or_eq_true, decide_eq_true_eq, decide_eq_true_eq, decide_eq_true_eq]
    exact ⟨⟨by omega, .inr hfl⟩, hnum⟩
  have hlog : D.fileOf (fileN nm W.num logK) = full (framesN l) := by
    rw [fileOf_eq]
    by_cases hc : W.count = 0
    · rw [if_pos hc] at hsegs
      obtain ⟨rfl, rfl⟩ := hsegs
      cases e : D.get (fileN nm W.num logK) with
      | none => rfl
      | some f =>
        exfalso
        obtain ⟨s, hs, e2⟩ := hL.own _ (by rw [e]; rfl)
        have h3 := hini s hs
        have : W.num = s.1 := by rcases e2 with e2 | e2 <;> exact (fileN_inj hnum (hL.le s hs) e2).1
        omega
    · rw [if_neg hc] at hsegs
      rw [hL.log (W.num, l) (by rw [hsegs]; simp)]
      rfl
  have hack : D.fileOf (fileN nm W.num ackK) = full (marksN l.length) := by
    rw [fileOf_eq]
    by_cases hc : W.count = 0
    · rw [if_pos hc] at hsegs
      obtain ⟨rfl, rfl⟩ := hsegs
      cases e : D.get (fileN nm W.num ackK) with
      | none => rfl
      | some f =>
        exfalso
        obtain ⟨s, hs, e2⟩ := hL.own _ (by rw [e]; rfl)
        have h3 := hini s hs
        have : W.num = s.1 := by rcases e2 with e2 | e2 <;> exact (fileN_inj hnum (hL.le s hs) e2).1
        omega
    · rw [if_neg hc] at hsegs
      rw [hL.ack (W.num, l) (by rw [hsegs]; simp)]
      rfl
  have hml := marksN_len l.length
  obtain ⟨a1, a2, a3, a4, a5, a6, a7⟩ := lay_calm (D := D) (nm := nm) (num := W.num) (count := W.count) (s := frameN data) hL.calm hL.nd hnl hnum (.inr hfl) (.inr hfl) (by rw [hlog]; show (framesN l).length + _ ≤ _; omega) (by rw [hack]; show (marksN l.length).length + 12 ≤ _; omega) (by omega)
  obtain ⟨E, hE⟩ : ∃ E, E = (D.lay nm W.num W.count (frameN data)).1 := ⟨_, rfl⟩
  rw [← hE] at a2 a3 a4 a5 a6 a7
  have hfr : framesN l ++ frameN data = framesN (l ++ [data]) := by rw [framesN_app, framesN_one]
  have hmr : marksN l.length ++ markN (W.count + 1) = marksN (l ++ [data]).length := by rw [hcl, List.length_append, List.length_singleton, marksN_succ]
  rw [hlog, hack] at a7
  have e1 : (full (marksN l.length)).data = marksN l.length := rfl
  have e2 : (full (framesN l)).data = framesN l := rfl
  rw [e1, e2, hfr, hmr] at a7
  refine ⟨E, ini ++ [(W.num, l ++ [data])], ?_, ⟨⟨a2, a3, ?_, ?_, ?_, ?_, ?_, ?_⟩, rfl, .inr ⟨ini, l ++ [data], rfl, ?_, ?_⟩⟩, ?_, a4, by rw [a5]; omega, a6⟩
  · unfold appW
    rw [hturn, if_neg (by omega), if_neg (by simp [h.broken]), if_neg (by simp [hrw]), if_neg (by simp [a1]), h.broken, hE]
  · rw [List.map_append, List.pairwise_append]
    refine ⟨?_, by simp, fun a ha b hb => ?_⟩
    · have := hL.inc
      by_cases hc : W.count = 0
      · rw [if_pos hc] at hsegs; rw [hsegs.1] at this; exact this
      · rw [if_neg hc] at hsegs; rw [hsegs, List.map_append, List.pairwise_append] at this; exact this.1
    · obtain ⟨s, hs, rfl⟩ := List.mem_map.1 ha
      simp at hb
      subst hb
      exact hini s hs
  all_goals
    have hsub : ∀ s ∈ ini, s ∈ segs := fun s hs => by
      by_cases hc : W.count = 0
      · rw [if_pos hc] at hsegs; rw [hsegs.1]; exact hs
      · rw [if_neg hc] at hsegs; rw [hsegs]; exact List.mem_append_left _ hs
  · intro s hs
    rcases List.mem_append.1 hs with hs | hs
    · exact hL.le s (hsub s hs)
    · simp at hs; subst hs; exact hnum
  · intro s hs
    rcases List.mem_append.1 hs with hs | hs
    · exact hL.recs s (hsub s hs)
    · simp at hs
      subst hs
      refine ⟨by simp, fun r hr => ?_, by simp only [List.length_append, List.length_singleton]; omega⟩
      rcases List.mem_append.1 hr with hr | hr
      · by_cases hc : W.count = 0
        · rw [if_pos hc] at hsegs; rw [hsegs.2] at hr; cases hr
        · rw [if_neg hc] at hsegs
          exact (hL.recs (W.num, l) (by rw [hsegs]; simp)).2.1 r hr
      · simp at hr; subst hr; exact ⟨hd, hdl⟩
  · intro s hs
    rw [a7]
    rcases List.mem_append.1 hs with hs | hs
    · have h3 := hini s hs
      have n1 : fileN nm s.1 logK ≠ fileN nm W.num ackK := fun e => by have := (fileN_inj (hL.le s (hsub s hs)) hnum e).1; omega
      have n2 : fileN nm s.1 logK ≠ fileN nm W.num logK := fun e => by have := (fileN_inj (hL.le s (hsub s hs)) hnum e).1; omega
      rw [if_neg n1, if_neg n2]
      exact hL.log s (hsub s hs)
    · simp at hs
      subst hs
      have n1 : fileN nm W.num logK ≠ fileN nm W.num ackK := fun e => by
        have := (fileN_inj hnum hnum e).2
        revert this
        decide
      rw [if_neg n1, if_pos rfl]
  · intro s hs
    rw [a7]
    rcases List.mem_append.1 hs with hs | hs
    · have h3 := hini s hs
      have n1 : fileN nm s.1 ackK ≠ fileN nm W.num ackK := fun e => by have := (fileN_inj (hL.le s (hsub s hs)) hnum e).1; omega
      have n2 : fileN nm s.1 ackK ≠ fileN nm W.num logK := fun e => by have := (fileN_inj (hL.le s (hsub s hs)) hnum e).1; omega
      rw [if_neg n1, if_neg n2]
      exact hL.ack s (hsub s hs)
    · simp at hs
      subst hs
      rw [if_pos rfl]
  · intro x hx
    rw [a7] at hx
    by_cases n1 : x = fileN nm W.num ackK
    · exact ⟨(W.num, l ++ [data]), by simp, .inr n1⟩
    · rw [if_neg n1] at hx
      by_cases n2 : x = fileN nm W.num logK
      · exact ⟨(W.num, l ++ [data]), by simp, .inl n2⟩
      · rw [if_neg n2] at hx
        obtain ⟨s, hs, e⟩ := hL.own x hx
        by_cases hc : W.count = 0
        · rw [if_pos hc] at hsegs
          rw [hsegs.1] at hs
          exact ⟨s, List.mem_append_left _ hs, e⟩
        · rw [if_neg hc] at hsegs
          rw [hsegs] at hs
          rcases List.mem_append.1 hs with hs | hs
          · exact ⟨s, List.mem_append_left _ hs, e⟩
          · simp at hs
            subst hs
            rcases e with e | e
            · exact absurd e n2
            · exact absurd e n1
  · show W.count + 1 = _
    rw [List.length_append, List.length_singleton]; omega
  · show W.size + (data.length + 12) = _
    rw [← hfr, List.length_append]; omega
  · rw [recsOf_app]
    have e3 : recsOf [(W.num, l ++ [data])] = recsOf [(W.num, l)] ++ [(W.num, data)] := by simp [recsOf]
    rw [e3, ← List.append_assoc, ← recsOf_app]
    congr 1
    by_cases hc : W.count = 0
    · rw [if_pos hc] at hsegs
      obtain ⟨rfl, rfl⟩ := hsegs
      simp [recsOf]
    · rw [if_neg hc] at hsegs
      rw [hsegs]
/-- No room: nothing is laid. -/
theorem appW_full {D : Dk} {nm data : List Nat} {W : Wl} (hbr : W.broken = false) (hdl : data.length ≤ 131072) (hsz : W.size + (data.length + 12) ≤ 1048576) (hroom : ¬ ((data.length : Int) + 36 ≤ D.room - D.used)) : appW W D nm data = (W, D, 5) := by
  have hturn : W.turned data = W := by unfold Wl.turned; rw [if_neg (by omega)]
  have hrw : roomW D W.num W.count (data.length + 12) = false := by
    unfold roomW
    rw [decide_eq_false (by omega)]
    rfl
  unfold appW
  rw [hturn, if_neg (by omega), if_neg (by simp [hbr]), if_pos hrw]
end Go.Proofs.YtnlepoplncjliaaGreatDoor

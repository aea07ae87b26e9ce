/-
  Texts that were joined: WcC, NfA, EditE, EditF, NfB, NfC, WeC, WdA, WdB, WeD, WgA, WgB, WgC, NfD, NfE, TOpen, NcB, NfF, NdD. Conditions: what each theorem names.
-/
import Derived.Test.YtdpipgidpkmolaaGreatDoorY2
import Derived.ProofKit
import Derived.OpenShut
import Derived.Lib.SmallJoins
import Derived.Deep.Slices
import Derived.Deep.Fields
import Derived.ChangeSame
import Derived.LaidMore
import Derived.Lib.LaidTab
import Derived.Shelf.Vars
set_option linter.unusedSectionVars false
namespace Go.Proofs.YtdpipgidpkmolaaGreatDoor
open Go.RowKit

/-- A file of which all is safe. -/
def full (s : List Nat) : Fil := ⟨s, s.length⟩
theorem app_sync {D : Dk} {a s : List Nat} (hc : D.calm) (hn : (D.files.map (·.1)).Nodup) (ha : nameOk a = true) (h1 : (D.get a).isSome = true ∨ D.files.length < 200) (h2 : (D.fileOf a).data.length + s.length ≤ 1048576) (h3 : (s.length : Int) ≤ D.room - D.used) :
    D.appendE a s = 0 ∧ (D.append a s).thereE [a] a = 0 ∧ ((D.append a s).sync a).calm ∧ (((D.append a s).sync a).files.map (·.1)).Nodup ∧ ((D.append a s).sync a).room = D.room ∧ ((D.append a s).sync a).used = D.used + (s.length : Int) ∧ ((D.append a s).sync a).files.length ≤ D.files.length + 1 ∧ ∀ x, ((D.append a s).sync a).get x = if x = a then some (full ((D.fileOf a).data ++ s)) else D.get x := by
  have hE := appendE_calm hc ha h1 h2 h3
  have hg := get_append hE
  have hc1 := append_calm (a := a) (s := s) hc
  have hn1 := append_nodup (a := a) (s := s) hn
  have hga := hg a
  rw [if_pos rfl] at hga
  refine ⟨hE, ?_, sync_calm hc1, ?_, ?_, ?_, ?_, fun x => ?_⟩
  · rw [thereE_calm hc1 (by simpa using ha), hga]; rfl
  · rw [sync_names]; exact hn1
  · rw [sync_room, append_room]
  · rw [sync_used hn1, append_used hn hE]
  · rw [sync_len]; exact append_len D a s
  · rw [get_sync hc1 ha hga, hg x]
    by_cases e : x = a
    · rw [if_pos e, if_pos e]; rfl
    · rw [if_neg e, if_neg e, if_neg e]
theorem lay_calm {D : Dk} {nm : List Nat} {num count : Nat} {s : List Nat} (hc : D.calm) (hn : (D.files.map (·.1)).Nodup) (hnl : nm.length ≤ 8) (hnum : num ≤ 999999) (h1 : (D.get (fileN nm num logK)).isSome = true ∨ D.files.length + 2 ≤ 200) (h1' : (D.get (fileN nm num ackK)).isSome = true ∨ D.files.length + 2 ≤ 200)
    (h2 : (D.fileOf (fileN nm num logK)).data.length + s.length ≤ 1048576) (h2' : (D.fileOf (fileN nm num ackK)).data.length + 12 ≤ 1048576) (h3 : (s.length : Int) + 12 ≤ D.room - D.used) :
    (D.lay nm num count s).2 = 0 ∧ (D.lay nm num count s).1.calm ∧ ((D.lay nm num count s).1.files.map (·.1)).Nodup ∧ (D.lay nm num count s).1.room = D.room ∧ (D.lay nm num count s).1.used = D.used + (s.length : Int) + 12 ∧ (D.lay nm num count s).1.files.length ≤ D.files.length + 2 ∧
    ∀ x, (D.lay nm num count s).1.get x = if x = fileN nm num ackK then some (full ((D.fileOf (fileN nm num ackK)).data ++ markN (count + 1))) else if x = fileN nm num logK then some (full ((D.fileOf (fileN nm num logK)).data ++ s)) else D.get x := by
  have hne : fileN nm num ackK ≠ fileN nm num logK := fun e => by
    have := (fileN_inj hnum hnum e).2
    revert this
    decide
  have hok : ∀ k : List Nat, k.length = 4 → nameOk (fileN nm num k) = true := fun k hk => by
    have hl := fileN_len (nm := nm) (k := k) hnum
    unfold nameOk
    rw [Bool.and_eq_true, decide_eq_true_eq, decide_eq_true_eq]
    refine ⟨fun e => ?_, by omega⟩
    rw [e] at hl
    simp at hl
    omega
  have hlg := hok logK rfl
  have hak := hok ackK rfl
  obtain ⟨lg, hlg0⟩ : ∃ x, x = fileN nm num logK := ⟨_, rfl⟩
  obtain ⟨ak, hak0⟩ : ∃ x, x = fileN nm num ackK := ⟨_, rfl⟩
  unfold Dk.lay Dk.note
  rw [← hlg0] at h1 h2 hne hlg
  rw [← hak0] at h1' h2' hne hak
  rw [← hlg0, ← hak0]
  obtain ⟨a1, a2, a3, a4, a5, a6, a7, a8⟩ := app_sync (D := D) (a := lg) (s := s) hc hn hlg (h1.imp_right fun h => by omega) h2 (by omega)
  rw [if_neg (by omega), if_neg (by omega)]
  obtain ⟨E, hE⟩ : ∃ E, E = (D.append lg s).sync lg := ⟨_, rfl⟩
  rw [← hE] at a3 a4 a5 a6 a7 a8
  rw [← hE]
  have hga : E.get ak = D.get ak := by rw [a8, if_neg hne]
  have hfa : E.fileOf ak = D.fileOf ak := by rw [fileOf_eq, fileOf_eq, hga]
  obtain ⟨b1, b2, b3, b4, b5, b6, b7, b8⟩ := app_sync (D := E) (a := ak) (s := markN (count + 1)) a3 a4 hak (h1'.imp (fun h => by rw [hga]; exact h) fun h => by omega) (by rw [hfa, markN_len]; exact h2') (by rw [markN_len, a5, a6]; omega)
  rw [if_neg (by omega)]
  refine ⟨b2, b3, b4, by rw [b5, a5], by rw [b6, a6, markN_len]; omega, Nat.le_trans b7 (by omega), fun x => ?_⟩
  rw [b8, hfa]
  by_cases e : x = ak
  · rw [if_pos e, if_pos e]
  · rw [if_neg e, if_neg e, a8]
/-- A log: what its files hold. -/
structure LogIs (D : Dk) (nm : List Nat) (segs : List (Nat × List (List Nat))) : Prop where
  calm : D.calm
  nd : (D.files.map (·.1)).Nodup
  inc : (segs.map (·.1)).Pairwise (· < ·)
  le : ∀ s ∈ segs, s.1 ≤ 999999
  recs : ∀ s ∈ segs, s.2 ≠ [] ∧ (∀ r ∈ s.2, Byt r ∧ r.length ≤ 131072) ∧ s.2.length ≤ 131072
  log : ∀ s ∈ segs, D.get (fileN nm s.1 logK) = some (full (framesN s.2))
  ack : ∀ s ∈ segs, D.get (fileN nm s.1 ackK) = some (full (marksN s.2.length))
  own : ∀ x, (D.get x).isSome = true → ∃ s ∈ segs, x = fileN nm s.1 logK ∨ x = fileN nm s.1 ackK
/-- All records, and the number behind. -/
def recsOf (segs : List (Nat × List (List Nat))) : List (Nat × List Nat) := segs.flatMap fun s => s.2.map fun r => (s.1, r)
def nextN : Nat → List (Nat × List (List Nat)) → Nat
  | num, [] => num
  | _, s :: r => nextN (s.1 + 1) r
theorem recsOf_app (a b : List (Nat × List (List Nat))) : recsOf (a ++ b) = recsOf a ++ recsOf b := by simp [recsOf]
theorem nextN_app (a : List (Nat × List (List Nat))) (s : Nat × List (List Nat)) : ∀ num, nextN num (a ++ [s]) = s.1 + 1 := by
  induction a with
  | nil => intro num; rfl
  | cons x a ih => intro num; exact ih _
theorem LogIs.nil {room : Int} {nm : List Nat} : LogIs (Dk.new room) nm [] := ⟨⟨rfl, rfl⟩, by simp [Dk.new], by simp, by simp, by simp, by simp, by simp, fun x hx => by cases hx⟩
/-- A log under way. -/
structure WlIs (D : Dk) (nm : List Nat) (W : Wl) (segs : List (Nat × List (List Nat))) : Prop where
  log : LogIs D nm segs
  broken : W.broken = false
  at_ : (W.count = 0 ∧ W.size = 0 ∧ ∀ s ∈ segs, s.1 < W.num) ∨ ∃ ini l, segs = ini ++ [(W.num, l)] ∧ W.count = l.length ∧ W.size = (framesN l).length
/-- A record more. -/
def addS (segs : List (Nat × List (List Nat))) (W : Wl) (data : List Nat) : List (Nat × List (List Nat)) := if W.count = 0 then segs ++ [(W.num, [data])] else segs.map fun s => if s.1 = W.num then (s.1, s.2 ++ [data]) else s
theorem WlIs.opened {D : Dk} {nm : List Nat} {segs : List (Nat × List (List Nat))} (h : LogIs D nm segs) : WlIs D nm ⟨nextN 0 segs, 0, 0, false⟩ segs := by
  refine ⟨h, rfl, .inl ⟨rfl, rfl, fun s hs => ?_⟩⟩
  show s.1 < nextN 0 segs
  rcases List.eq_nil_or_concat segs with e | ⟨ini, t, e⟩
  · rw [e] at hs; cases hs
  · rw [List.concat_eq_append] at e
    subst e
    rw [nextN_app]
    rcases List.mem_append.1 hs with h1 | h1
    · have := h.inc
      rw [List.map_append, List.pairwise_append] at this
      have := this.2.2 s.1 (List.mem_map.2 ⟨s, h1, rfl⟩) t.1 (by simp)
      omega
    · simp at h1; subst h1; omega
theorem WlIs.last {D : Dk} {nm : List Nat} {W : Wl} {segs : List (Nat × List (List Nat))} (h : WlIs D nm W segs) : ∃ ini l, (if W.count = 0 then segs = ini ∧ l = [] else segs = ini ++ [(W.num, l)]) ∧ (∀ s ∈ ini, s.1 < W.num) ∧ W.count = l.length ∧ W.size = (framesN l).length := by
  rcases h.at_ with ⟨h1, h2, h3⟩ | ⟨ini, l, h1, h2, h3⟩
  · exact ⟨segs, [], by rw [if_pos h1]; exact ⟨rfl, rfl⟩, h3, h1, h2⟩
  · have hm : (W.num, l) ∈ segs := by rw [h1]; simp
    have hne := (h.log.recs _ hm).1
    have hc : ¬ (W.count = 0) := by
      rw [h2]
      intro e
      exact hne (List.eq_nil_of_length_eq_zero e)
    refine ⟨ini, l, by rw [if_neg hc]; exact h1, fun s hs => ?_, h2, h3⟩
    have := h.log.inc
    rw [h1, List.map_append, List.pairwise_append] at this
    exact this.2.2 s.1 (List.mem_map.2 ⟨s, hs, rfl⟩) W.num (by simp)
/-- A record laid: the answer, and what the log is then. -/
theorem WlIs.append {D : Dk} {nm data : List Nat} {W : Wl} {segs : List (Nat × List (List Nat))} (h : WlIs D nm W segs) (hnl : nm.length ≤ 8) (hd : Byt data) (hdl : data.length ≤ 131072) (hnum : W.num ≤ 999999) (hcnt : W.count + 1 ≤ 80000) (hsz : W.size + (data.length + 12) ≤ 1048576) (hfl : D.files.length + 2 ≤ 200) (hroom : (data.length : Int) + 36 ≤ D.room - D.used) :
    ∃ D' segs', appW W D nm data = (⟨W.num, W.count + 1, W.size + (data.length + 12), false⟩, D', 0) ∧ WlIs D' nm ⟨W.num, W.count + 1, W.size + (data.length + 12), false⟩ segs' ∧ recsOf segs' = recsOf segs ++ [(W.num, data)] ∧ D'.room = D.room ∧ D'.used = D.used + (data.length : Int) + 24 ∧ D'.files.length ≤ D.files.length + 2 := by
  obtain ⟨ini, l, hsegs, hini, hcl, hszl⟩ := h.last
  have hL := h.log
  have hturn : W.turned data = W := by unfold Wl.turned; rw [if_neg (by omega)]
  have hfrl := frameN_len data
  have hrw : roomW D W.num W.count (data.length + 12) = true := by
    unfold roomW
    rw [Bool.and_eq_true, Bool.and_eq_true, Bool.or_eq_true, decide_eq_true_eq, decide_eq_true_eq, decide_eq_true_eq]
    exact ⟨⟨by omega, .inr hfl⟩, hnum⟩
  have hlog : D.fileOf (fileN nm W.num logK) = full (framesN l) := by
    rw [fileOf_eq]
    by_cases hc : W.count = 0
    · rw [if_pos hc] at hsegs
      obtain ⟨rfl, rfl⟩ := hsegs
      cases e : D.get (fileN nm W.num logK) with
      | none => rfl
      | some f =>
        exfalso
        obtain ⟨s, hs, e2⟩ := hL.own _ (by rw [e]; rfl)
        have h3 := hini s hs
        have : W.num = s.1 := by rcases e2 with e2 | e2 <;> exact (fileN_inj hnum (hL.le s hs) e2).1
        omega
    · rw [if_neg hc] at hsegs
      rw [hL.log (W.num, l) (by rw [hsegs]; simp)]
      rfl
  have hack : D.fileOf (fileN nm W.num ackK) = full (marksN l.length) := by
    rw [fileOf_eq]
    by_cases hc : W.count = 0
    · rw [if_pos hc] at hsegs
      obtain ⟨rfl, rfl⟩ := hsegs
      cases e : D.get (fileN nm W.num ackK) with
      | none => rfl
      | some f =>
        exfalso
        obtain ⟨s, hs, e2⟩ := hL.own _ (by rw [e]; rfl)
        have h3 := hini s hs
        have : W.num = s.1 := by rcases e2 with e2 | e2 <;> exact (fileN_inj hnum (hL.le s hs) e2).1
        omega
    · rw [if_neg hc] at hsegs
      rw [hL.ack (W.num, l) (by rw [hsegs]; simp)]
      rfl
  have hml := marksN_len l.length
  obtain ⟨a1, a2, a3, a4, a5, a6, a7⟩ := lay_calm (D := D) (nm := nm) (num := W.num) (count := W.count) (s := frameN data) hL.calm hL.nd hnl hnum (.inr hfl) (.inr hfl) (by rw [hlog]; show (framesN l).length + _ ≤ _; omega) (by rw [hack]; show (marksN l.length).length + 12 ≤ _; omega) (by omega)
  obtain ⟨E, hE⟩ : ∃ E, E = (D.lay nm W.num W.count (frameN data)).1 := ⟨_, rfl⟩
  rw [← hE] at a2 a3 a4 a5 a6 a7
  have hfr : framesN l ++ frameN data = framesN (l ++ [data]) := by rw [framesN_app, framesN_one]
  have hmr : marksN l.length ++ markN (W.count + 1) = marksN (l ++ [data]).length := by rw [hcl, List.length_append, List.length_singleton, marksN_succ]
  rw [hlog, hack] at a7
  have e1 : (full (marksN l.length)).data = marksN l.length := rfl
  have e2 : (full (framesN l)).data = framesN l := rfl
  rw [e1, e2, hfr, hmr] at a7
  refine ⟨E, ini ++ [(W.num, l ++ [data])], ?_, ⟨⟨a2, a3, ?_, ?_, ?_, ?_, ?_, ?_⟩, rfl, .inr ⟨ini, l ++ [data], rfl, ?_, ?_⟩⟩, ?_, a4, by rw [a5]; omega, a6⟩
  · unfold appW
    rw [hturn, if_neg (by omega), if_neg (by simp [h.broken]), if_neg (by simp [hrw]), if_neg (by simp [a1]), h.broken, hE]
  · rw [List.map_append, List.pairwise_append]
    refine ⟨?_, by simp, fun a ha b hb => ?_⟩
    · have := hL.inc
      by_cases hc : W.count = 0
      · rw [if_pos hc] at hsegs; rw [hsegs.1] at this; exact this
      · rw [if_neg hc] at hsegs; rw [hsegs, List.map_append, List.pairwise_append] at this; exact this.1
    · obtain ⟨s, hs, rfl⟩ := List.mem_map.1 ha
      simp at hb
      subst hb
      exact hini s hs
  all_goals
    have hsub : ∀ s ∈ ini, s ∈ segs := fun s hs => by
      by_cases hc : W.count = 0
      · rw [if_pos hc] at hsegs; rw [hsegs.1]; exact hs
      · rw [if_neg hc] at hsegs; rw [hsegs]; exact List.mem_append_left _ hs
  · intro s hs
    rcases List.mem_append.1 hs with hs | hs
    · exact hL.le s (hsub s hs)
    · simp at hs; subst hs; exact hnum
  · intro s hs
    rcases List.mem_append.1 hs with hs | hs
    · exact hL.recs s (hsub s hs)
    · simp at hs
      subst hs
      refine ⟨by simp, fun r hr => ?_, by simp only [List.length_append, List.length_singleton]; omega⟩
      rcases List.mem_append.1 hr with hr | hr
      · by_cases hc : W.count = 0
        · rw [if_pos hc] at hsegs; rw [hsegs.2] at hr; cases hr
        · rw [if_neg hc] at hsegs
          exact (hL.recs (W.num, l) (by rw [hsegs]; simp)).2.1 r hr
      · simp at hr; subst hr; exact ⟨hd, hdl⟩
  · intro s hs
    rw [a7]
    rcases List.mem_append.1 hs with hs | hs
    · have h3 := hini s hs
      have n1 : fileN nm s.1 logK ≠ fileN nm W.num ackK := fun e => by have := (fileN_inj (hL.le s (hsub s hs)) hnum e).1; omega
      have n2 : fileN nm s.1 logK ≠ fileN nm W.num logK := fun e => by have := (fileN_inj (hL.le s (hsub s hs)) hnum e).1; omega
      rw [if_neg n1, if_neg n2]
      exact hL.log s (hsub s hs)
    · simp at hs
      subst hs
      have n1 : fileN nm W.num logK ≠ fileN nm W.num ackK := fun e => by
        have := (fileN_inj hnum hnum e).2
        revert this
        decide
      rw [if_neg n1, if_pos rfl]
  · intro s hs
    rw [a7]
    rcases List.mem_append.1 hs with hs | hs
    · have h3 := hini s hs
      have n1 : fileN nm s.1 ackK ≠ fileN nm W.num ackK := fun e => by have := (fileN_inj (hL.le s (hsub s hs)) hnum e).1; omega
      have n2 : fileN nm s.1 ackK ≠ fileN nm W.num logK := fun e => by have := (fileN_inj (hL.le s (hsub s hs)) hnum e).1; omega
      rw [if_neg n1, if_neg n2]
      exact hL.ack s (hsub s hs)
    · simp at hs
      subst hs
      rw [if_pos rfl]
  · intro x hx
    rw [a7] at hx
    by_cases n1 : x = fileN nm W.num ackK
    · exact ⟨(W.num, l ++ [data]), by simp, .inr n1⟩
    · rw [if_neg n1] at hx
      by_cases n2 : x = fileN nm W.num logK
      · exact ⟨(W.num, l ++ [data]), by simp, .inl n2⟩
      · rw [if_neg n2] at hx
        obtain ⟨s, hs, e⟩ := hL.own x hx
        by_cases hc : W.count = 0
        · rw [if_pos hc] at hsegs
          rw [hsegs.1] at hs
          exact ⟨s, List.mem_append_left _ hs, e⟩
        · rw [if_neg hc] at hsegs
          rw [hsegs] at hs
          rcases List.mem_append.1 hs with hs | hs
          · exact ⟨s, List.mem_append_left _ hs, e⟩
          · simp at hs
            subst hs
            rcases e with e | e
            · exact absurd e n2
            · exact absurd e n1
  · show W.count + 1 = _
    rw [List.length_append, List.length_singleton]; omega
  · show W.size + (data.length + 12) = _
    rw [← hfr, List.length_append]; omega
  · rw [recsOf_app]
    have e3 : recsOf [(W.num, l ++ [data])] = recsOf [(W.num, l)] ++ [(W.num, data)] := by simp [recsOf]
    rw [e3, ← List.append_assoc, ← recsOf_app]
    congr 1
    by_cases hc : W.count = 0
    · rw [if_pos hc] at hsegs
      obtain ⟨rfl, rfl⟩ := hsegs
      simp [recsOf]
    · rw [if_neg hc] at hsegs
      rw [hsegs]
end Go.Proofs.YtdpipgidpkmolaaGreatDoor

namespace Go.Proofs.YtdpipgidpkmolaaGreatDoor
open Go.RowKit

def curN : List Nat := [67, 85, 82, 82, 69, 78, 84]
def freshN : List Nat := [67, 85, 82, 82, 69, 78, 84, 46, 110, 101, 119]
/-- A generation is made the current one. -/
def pointW (D : Dk) (gen : Nat) : Dk × Int :=
  if D.thereE [freshN] freshN ≠ 0 ∧ D.thereE [freshN] freshN ≠ 7 then (D.delete freshN, D.thereE [freshN] freshN)
  else if (D.delete freshN).appendE freshN (frameN (grp gen)) ≠ 0 then ((D.delete freshN).append freshN (frameN (grp gen)), (D.delete freshN).appendE freshN (frameN (grp gen)))
  else if ((D.delete freshN).append freshN (frameN (grp gen))).thereE [freshN] freshN ≠ 0 then (((D.delete freshN).append freshN (frameN (grp gen))).sync freshN, ((D.delete freshN).append freshN (frameN (grp gen))).thereE [freshN] freshN)
  else ((((D.delete freshN).append freshN (frameN (grp gen))).sync freshN).rename freshN curN, (((D.delete freshN).append freshN (frameN (grp gen))).sync freshN).thereE [freshN, curN] freshN)
theorem sweep_none (B gd : Nat) (D : Dk) (fv : Value) (w : World) (dk : DkAt w B gd D) (h0 : D.files.length = 0) :
    Calls Tryz.prog 22 #[.pointer (some ⟨gd, 0, none⟩), fv] w fun e w' => e = .returned (.tuple #[.slice none 0 0, .int .i64 0]) ∧ Grow w w' := by
  have bel := Below.refl w.heap.size w
  refine Calls.start 34 Tryz.func22 rfl rfl rfl ?_
  refine Cd.seq ?_
  refine Cd.region ?_
  refine Seq.val (Runs.assign rfl rfl) rfl rfl rfl ?_
  refine Seq.val (Runs.assign rfl rfl) rfl rfl rfl ?_
  refine Seq.nil ?_
  refine Post.weak (F' := [(0, _), (1, _), (4, _), (5, _)]) ⟨rfl, rfl, rfl, rfl, trivial⟩ ?_
  refine Post.then_ ?_
  refine Cd.seq ?_
  refine Cd.region ?_
  refine Seq.val (Runs.assign rfl rfl) rfl rfl rfl ?_
  refine Seq.nil ?_
  refine Post.weak (F' := [(0, _), (1, _), (4, _), (5, _), (6, _)]) ⟨rfl, rfl, rfl, rfl, rfl, trivial⟩ ?_
  refine Post.then_ ?_
  refine Cd.seq ?_
  refine Cd.seq ?_
  refine Cd.region ?_
  refine Seq.val (Runs.move rfl rfl) rfl rfl rfl ?_
  refine Seq.call (Enters.func rfl rfl rfl (run_enter Tryz.func19 (by kernel_rfl) rfl)) rfl rfl rfl (names_any B gd D _ dk) ?_
  rintro e w6 ⟨v6, rfl, ownN, hb6⟩
  refine ⟨_, rfl, ?_⟩
  rw [h0] at ownN
  replace bel := bel.step hb6
  replace dk := dk.step hb6
  obtain ⟨A6, c6, rfl, -⟩ := ownN.reads
  refine Seq.val (Runs.len rfl rfl Tryz.underlying54) rfl rfl rfl ?_
  refine Seq.val (Runs.move rfl rfl) rfl rfl rfl ?_
  refine Seq.nil ?_
  refine Post.weak (F' := [(0, _), (1, _), (4, _), (5, _), (6, _), (11, _), (12, _), (13, _)]) ⟨rfl, rfl, rfl, rfl, rfl, rfl, rfl, rfl, trivial⟩ ?_
  refine Post.then_ ?_
  refine Cd.block ?_
  refine Cd.loop (σ := Unit) (fun _ => [(6, .slice none 0 0), (11, .slice A6 0 c6), (12, .int .i64 0), (13, .int .i64 0)]) (fun _ wr => Below w.heap.size w wr) (fun _ => 0) () bel ⟨rfl, rfl, rfl, rfl, trivial⟩ ?_
  clear bel
  rintro _ wr bel
  show Cd _ _ _ _ [(6, .slice none 0 0), (11, .slice A6 0 c6), (12, .int .i64 0), (13, .int .i64 0)] _
  refine Cd.seq ?_
  refine Cd.region ?_
  refine Seq.val (Runs.lss rfl rfl rfl) rfl rfl rfl ?_
  refine Seq.nil ?_
  refine Post.weak (F' := [(6, _), (11, _), (12, _), (13, _), (14, _)]) ⟨rfl, rfl, rfl, rfl, rfl, trivial⟩ ?_
  refine Post.then_ ?_
  refine Cd.seq ?_
  refine Cd.cond rfl (fun h => ?_) (fun h => ?_)
  · cases h
  · skip
    refine Cd.exit ?_
    refine Post.then_exit ?_
    refine Post.round_exit ?_
    refine Post.block_exit ?_
    refine Post.then_ ?_
    refine Cd.seq ?_
    refine Cd.region ?_
    refine Seq.val (Runs.move rfl rfl) rfl rfl rfl ?_
    refine Seq.val (Runs.assign rfl rfl) rfl rfl rfl ?_
    refine Seq.val (Runs.assign rfl rfl) rfl rfl rfl ?_
    refine Seq.nil ?_
    refine Post.weak (F' := [(4, _), (5, _), (6, _), (11, _), (12, _), (13, _), (14, _)]) ⟨rfl, rfl, rfl, rfl, rfl, rfl, rfl, trivial⟩ ?_
    refine Post.then_ ?_
    refine Cd.ret ?_
    refine Post.end2 rfl rfl rfl (.inl rfl) ?_
    exact ⟨rfl, bel⟩
theorem name_any (gen : Nat) (w : World) (hg : gen ≤ 675) : Calls Tryz.prog 28 #[.int .i64 (gen : Int)] w fun e w' => e = .returned (.string (strOf [109, 97 + gen / 26, 97 + gen % 26])) ∧ Grow w w' := by
  have bel := Below.refl w.heap.size w
  refine Calls.start 13 Tryz.func28 rfl rfl rfl ?_
  refine Cd.seq ?_
  refine Cd.region ?_
  refine Seq.val (Runs.assign rfl rfl) rfl rfl rfl ?_
  refine Seq.nil ?_
  refine Post.weak (F' := [(0, _), (2, _)]) ⟨rfl, rfl, trivial⟩ ?_
  refine Post.then_ ?_
  refine Cd.seq ?_
  refine Cd.region ?_
  refine Seq.val (Runs.move rfl rfl) rfl rfl rfl ?_
  refine Seq.val (Runs.quoI rfl rfl rfl (by omega) (by omega) (by omega)) rfl rfl rfl ?_
  refine Seq.val (Runs.addI rfl rfl rfl (by omega) (by omega)) rfl rfl rfl ?_
  refine Seq.val (Runs.convI rfl rfl Tryz.underlying3 Tryz.underlying5 (wrapB (by omega) (by omega))) rfl rfl rfl ?_
  refine Seq.val (Runs.move rfl rfl) rfl rfl rfl ?_
  refine Seq.val (Runs.remN rfl rfl rfl (by omega) (by omega)) rfl rfl rfl ?_
  refine Seq.val (Runs.addI rfl rfl rfl (by omega) (by omega)) rfl rfl rfl ?_
  refine Seq.val (Runs.convI rfl rfl Tryz.underlying3 Tryz.underlying5 (wrapB (by omega) (by omega))) rfl rfl rfl ?_
  refine Seq.slice (vs := [_, _, _]) (s := 1) rfl rfl rfl Tryz.underlying103 (by kernel_rfl) (zero_uint8) (by omega) (by omega) ⟨rfl, rfl, rfl, trivial⟩ rfl rfl rfl ?_
  intro g11 w1 n11
  have e11 := Nat.le_trans bel.size n11.ge
  replace bel := bel.step n11.below
  have k11 := n11.blk
  have hrd : Reads w1 w1.heap.size 1 (some ⟨g11, 0, none⟩) 3 (Bt [109, 97 + gen / 26, 97 + gen % 26]) := by
    have h := Reads.blk (size := 1) k11 3 rfl
    have e : Bt [109, 97 + gen / 26, 97 + gen % 26] = [.int .u8 109, .int .u8 (97 + (gen : Int) / 26), .int .u8 (97 + (gen : Int) % 26)] := by
      unfold Bt
      simp
    rw [e]
    exact h
  refine Seq.val (Runs.convBS rfl rfl Tryz.underlying103 Tryz.underlying5 Tryz.underlying9 hrd (fun x hx => by simp at hx; omega)) rfl rfl rfl ?_
  refine Seq.val (Runs.assign rfl rfl) rfl rfl rfl ?_
  refine Seq.nil ?_
  refine Post.weak (F' := [(0, _), (2, _)]) ⟨rfl, rfl, trivial⟩ ?_
  refine Post.then_ ?_
  refine Cd.ret ?_
  refine Post.end1 rfl rfl (.inl rfl) ?_
  exact ⟨rfl, bel⟩
theorem Name_any (n : Nat) (w : World) (gv : Gv w) (h1 : 1 ≤ n) (hn : n ≤ 999999) : Calls Tryz.prog 20 #[.int .i64 (n : Int)] w fun e w' => e = .returned (.string (strOf (dig6 n ++ [46, 116, 97, 98]))) ∧ Grow w w' := by
  have bel := Below.refl w.heap.size w
  have hdl := decN_len 5 n (by omega)
  refine Calls.start 19 Tryz.func20 rfl rfl rfl ?_
  refine Cd.seq ?_
  refine Cd.region ?_
  refine Seq.val (Runs.assign rfl rfl) rfl rfl rfl ?_
  refine Seq.nil ?_
  refine Post.weak (F' := [(0, _), (2, _)]) ⟨rfl, rfl, trivial⟩ ?_
  refine Post.then_ ?_
  refine Cd.seq ?_
  refine Cd.seq ?_
  refine Cd.region ?_
  refine Seq.val (Runs.move rfl rfl) rfl rfl rfl ?_
  refine Seq.val (Runs.lss rfl rfl rfl) rfl rfl rfl ?_
  refine Seq.val (Runs.move rfl rfl) rfl rfl rfl ?_
  refine SeqC.start ?_
  refine SeqC.open rfl rfl rfl rfl rfl rfl rfl (fun hcx => Runs.move rfl rfl) ?_
  refine SeqC.next rfl rfl rfl rfl rfl rfl rfl (fun hcx => Runs.gtr rfl rfl rfl) ?_
  refine SeqC.or rfl rfl rfl rfl rfl rfl rfl ?_
  refine Seq.nil ?_
  refine Post.weak (F' := [(0, _), (2, _), (9, _)]) ⟨rfl, rfl, rfl, trivial⟩ ?_
  refine Post.then_ ?_
  refine Cd.condF rfl (by simp; omega) ?_
  refine Cd.skip ?_
  refine Post.then_ ?_
  refine Cd.seq ?_
  refine Cd.region ?_
  refine Seq.val (Runs.move rfl rfl) rfl rfl rfl ?_
  refine Seq.call (Enters.func rfl rfl rfl (run_enter Tryz.func44 (by kernel_rfl) rfl)) rfl rfl rfl (itoa_any n _ gv (by omega)) ?_
  rintro e w5 ⟨rfl, hb5⟩
  refine ⟨_, rfl, ?_⟩
  replace bel := bel.step hb5
  replace gv := gv.step hb5
  refine Seq.val (Runs.assign rfl rfl) rfl rfl rfl ?_
  refine Seq.nil ?_
  refine Post.weak (F' := [(0, _), (2, _), (3, _), (9, _)]) ⟨rfl, rfl, rfl, rfl, trivial⟩ ?_
  refine Post.then_ ?_
  refine Cd.seq ?_
  refine Cd.region ?_
  refine Seq.val (Runs.move rfl rfl) rfl rfl rfl ?_
  refine Seq.val (Runs.lenL rfl rfl Tryz.underlying9) rfl rfl rfl ?_
  refine Seq.val (Runs.subI rfl rfl rfl (by omega) (by omega)) rfl rfl rfl ?_
  refine Seq.call (Enters.func rfl rfl rfl (run_enter Tryz.func45 (by kernel_rfl) rfl)) rfl rfl rfl (repeatZ_any _ (6 - (decN n).length) _ (by omega) (by omega)) ?_
  rintro e w6 ⟨rfl, hb6⟩
  refine ⟨_, rfl, ?_⟩
  replace bel := bel.step hb6
  replace gv := gv.step hb6
  refine Seq.val (Runs.move rfl rfl) rfl rfl rfl ?_
  refine Seq.val (Runs.addL rfl rfl rfl (by simp only [List.length_replicate]; omega)) rfl rfl rfl ?_
  refine Seq.val (Runs.addL (b := [46, 116, 97, 98]) rfl rfl rfl (by simp only [List.length_append, List.length_replicate, List.length_cons, List.length_nil]; omega)) rfl rfl rfl ?_
  refine Seq.val (Runs.assign rfl rfl) rfl rfl rfl ?_
  refine Seq.nil ?_
  refine Post.weak (F' := [(0, _), (2, _), (3, _), (9, _)]) ⟨rfl, rfl, rfl, rfl, trivial⟩ ?_
  refine Post.then_ ?_
  refine Cd.ret ?_
  refine Post.end1 rfl rfl (.inl rfl) ?_
  refine ⟨?_, bel⟩
  have e : List.replicate (6 - (decN n).length) 48 ++ decN n ++ [46, 116, 97, 98] = dig6 n ++ [46, 116, 97, 98] := by unfold dig6; rfl
  rw [e]
set_option maxHeartbeats 4000000 in
theorem point_any (B g0 gd : Nat) (D : Dk) (gen : Nat) (c1 c2 c3 c4 c5 c6 c7 c8 : Value) (w : World) (gv : Gv w) (hgB : max 2 1 < B) (k0 : Blk w g0 70 #[.pointer (some ⟨gd, 0, none⟩), c1, c2, c3, c4, c5, c6, c7, c8]) (dk : DkAt w B gd D) (hg : gen < 1000000) :
    Calls Tryz.prog 49 #[.pointer (some ⟨g0, 0, none⟩), .int .i64 (gen : Int)] w fun e w' => e = .returned (.int .i64 (pointW D gen).2) ∧ DkAt w' B gd (pointW D gen).1 ∧ Df B w w' := by
  have df := Df.refl B w
  have hBw := dk.size
  refine Calls.start 55 Tryz.func49 rfl rfl rfl ?_
  refine Cd.seq ?_
  refine Cd.region ?_
  refine Seq.val (Runs.assign rfl rfl) rfl rfl rfl ?_
  refine Seq.nil ?_
  refine Post.weak (F' := [(0, _), (1, _), (4, _)]) ⟨rfl, rfl, rfl, trivial⟩ ?_
  refine Post.then_ ?_
  refine Cd.seq ?_
  refine Cd.seq ?_
  refine Cd.region ?_
  refine Seq.val (Runs.move rfl rfl) rfl rfl rfl ?_
  refine Seq.val (Runs.nilCheck rfl rfl) rfl rfl rfl ?_
  refine Seq.val (Runs.fieldB 0 rfl rfl Tryz.underlying70 rfl (by kernel_rfl)) rfl rfl rfl ?_
  refine Seq.val (Runs.loadB rfl rfl Tryz.underlying26 rfl k0 rfl) rfl rfl rfl ?_
  refine Seq.call (Enters.func rfl rfl rfl (run_enter Tryz.func46 (by kernel_rfl) rfl)) rfl rfl rfl (delete_d_any B gd D freshN _ dk (by decide) (by decide)) ?_
  clear dk
  rintro e w1 ⟨rfl, dk, fw1⟩
  refine ⟨_, rfl, ?_⟩
  replace df := df.df fw1
  replace gv := gv.df fw1
  replace k0 := k0.df fw1
  refine Seq.val (Runs.assign rfl rfl) rfl rfl rfl ?_
  refine Seq.nil ?_
  refine Post.weak (F' := [(0, _), (1, _), (4, _), (5, _)]) ⟨rfl, rfl, rfl, rfl, trivial⟩ ?_
  refine Post.then_ ?_
  refine Cd.seq ?_
  refine Cd.region ?_
  refine Seq.val (Runs.move rfl rfl) rfl rfl rfl ?_
  refine Seq.val (Runs.neqI rfl rfl rfl) rfl rfl rfl ?_
  refine Seq.val (Runs.move rfl rfl) rfl rfl rfl ?_
  refine SeqC.start ?_
  refine SeqC.open rfl rfl rfl rfl rfl rfl rfl (fun hcx => Runs.move rfl rfl) ?_
  refine SeqC.next rfl rfl rfl rfl rfl rfl rfl (fun hcx => Runs.neqI rfl rfl rfl) ?_
  refine SeqC.and rfl rfl rfl rfl rfl rfl rfl ?_
  refine Seq.nil ?_
  refine Post.weak (F' := [(0, _), (1, _), (4, _), (5, _), (21, _)]) ⟨rfl, rfl, rfl, rfl, rfl, trivial⟩ ?_
  refine Post.then_ ?_
  refine Cd.cond rfl (fun h => ?_) (fun h => ?_)
  · have h' : D.thereE [freshN] freshN ≠ 0 ∧ D.thereE [freshN] freshN ≠ 7 := by
      have h2 : (decide (D.thereE [freshN] freshN ≠ 0) && decide (D.thereE [freshN] freshN ≠ 7)) = true := h
      rw [Bool.and_eq_true, decide_eq_true_eq, decide_eq_true_eq] at h2
      exact h2
    have hp : pointW D gen = (D.delete freshN, D.thereE [freshN] freshN) := by unfold pointW; rw [if_pos h']
    rw [hp]
    refine Cd.seq ?_
    refine Cd.region ?_
    refine Seq.val (Runs.move rfl rfl) rfl rfl rfl ?_
    refine Seq.val (Runs.assign rfl rfl) rfl rfl rfl ?_
    refine Seq.nil ?_
    refine Post.weak (F' := [(0, _), (1, _), (4, _), (5, _), (21, _)]) ⟨rfl, rfl, rfl, rfl, rfl, trivial⟩ ?_
    refine Post.then_ ?_
    refine Cd.ret ?_
    refine Post.then_ret ?_
    refine Post.end1 rfl rfl (.inl rfl) ?_
    exact ⟨rfl, dk, df⟩
  have h' : ¬ (D.thereE [freshN] freshN ≠ 0 ∧ D.thereE [freshN] freshN ≠ 7) := by
    have h2 : (decide (D.thereE [freshN] freshN ≠ 0) && decide (D.thereE [freshN] freshN ≠ 7)) = false := h
    rw [Bool.and_eq_false_iff, decide_eq_false_iff_not, decide_eq_false_iff_not] at h2
    omega
  obtain ⟨D1, hD1⟩ : ∃ D1, D1 = D.delete freshN := ⟨_, rfl⟩
  rw [← hD1] at dk
  obtain ⟨F, hF⟩ : ∃ F, F = frameN (grp gen) := ⟨_, rfl⟩
  have hgl := grp_len gen
  have hgb := grp_lt (n := gen) (by omega)
  have hFl : F.length ≤ 22 := by rw [hF, frameN_len]; omega
  have hFb : Byt F := by rw [hF]; exact frameN_lt hgb
  have hp : pointW D gen = if D1.appendE freshN F ≠ 0 then (D1.append freshN F, D1.appendE freshN F) else if (D1.append freshN F).thereE [freshN] freshN ≠ 0 then ((D1.append freshN F).sync freshN, (D1.append freshN F).thereE [freshN] freshN) else (((D1.append freshN F).sync freshN).rename freshN curN, ((D1.append freshN F).sync freshN).thereE [freshN, curN] freshN) := by
    rw [hD1, hF]
    unfold pointW
    rw [if_neg h']
  rw [hp]
  clear hp
  refine Cd.skip ?_
  refine Post.then_ ?_
  refine Cd.seq ?_
  refine Cd.region ?_
  have dk1 := dk
  have df1 := df
  have gv1 := gv
  have k01 := k0
  have bel := Below.refl w1.heap.size w1
  clear dk df gv k0
  refine Seq.val (Runs.build rfl rfl (run_build_Wr0 _)) rfl rfl rfl ?_
  refine Seq.box rfl rfl rfl rfl rfl ?_
  intro g24 w2 n24
  have e24 := Nat.le_trans bel.size n24.ge
  replace bel := bel.step n24.below
  have k24 := n24.blk
  refine Seq.val (Runs.assign rfl rfl) rfl rfl rfl ?_
  refine Seq.nil ?_
  refine Post.weak (F' := [(0, _), (1, _), (4, _), (5, _), (6, _), (21, _)]) ⟨rfl, rfl, rfl, rfl, rfl, rfl, trivial⟩ ?_
  refine Post.then_ ?_
  refine Cd.seq ?_
  refine Cd.region ?_
  refine Seq.val (Runs.move rfl rfl) rfl rfl rfl ?_
  refine Seq.val (Runs.move rfl rfl) rfl rfl rfl ?_
  have wr : Wr w2 g24 g24 [] := ⟨Nat.le_refl _, fun d hd => (by cases hd), _, k24, Own.nil _ _ _ _⟩
  have wf := Wf.refl g24 w2
  have hg24 : g24 ≤ w2.heap.size := Nat.le_of_lt n24.lt
  refine Seq.call (Enters.func rfl rfl rfl (run_enter Tryz.func70 (by kernel_rfl) rfl)) rfl rfl rfl (size_any g24 g24 gen [] _ wr (by omega) (by simp)) ?_
  clear wr
  rintro e w3 ⟨rfl, fw3, wr⟩
  refine ⟨_, rfl, ?_⟩
  replace wf := wf.wf fw3
  rw [List.nil_append] at wr
  refine Seq.call (Enters.func rfl rfl rfl (run_enter Tryz.func74 (by kernel_rfl) rfl)) rfl rfl rfl (wbytes_any g24 g24 _ _ wr) ?_
  rintro e w7 ⟨rfl, hb7⟩
  refine ⟨_, rfl, ?_⟩
  replace wf := wf.step hb7
  replace wr := wr.step hb7
  have nb := (gv1.step (bel.trans ((wf.to hg24).mono e24))).nib
  refine Seq.call (Enters.func rfl rfl rfl (run_enter Tryz.func75 (by kernel_rfl) rfl)) rfl rfl rfl (frame_any (grp gen) _ nb hgb (by omega)) ?_
  rw [if_pos (show (grp gen).length ≤ 131072 by omega)]
  rintro e w8 ⟨rfl, hb8⟩
  refine ⟨_, rfl, ?_⟩
  replace wf := wf.step hb8
  replace wr := wr.step hb8
  have bb := bel.trans ((wf.to hg24).mono e24)
  have dk := dk1.step bb
  have df := df1.step bb
  have gv := gv1.step bb
  have k0 := k01.step bb
  clear dk1 df1 gv1 k01 wf wr nb bel bb
  rw [← hF]
  refine Seq.val (Runs.move rfl rfl) rfl rfl rfl ?_
  refine Seq.val (Runs.extract rfl rfl rfl) rfl rfl rfl ?_
  refine Seq.val (Runs.extract rfl rfl rfl) rfl rfl rfl ?_
  refine Seq.val (Runs.assign rfl rfl) rfl rfl rfl ?_
  refine Seq.val (Runs.assign rfl rfl) rfl rfl rfl ?_
  refine Seq.nil ?_
  refine Post.weak (F' := [(0, _), (1, _), (4, _), (5, _), (6, _), (7, _), (21, _)]) ⟨rfl, rfl, rfl, rfl, rfl, rfl, rfl, trivial⟩ ?_
  refine Post.then_ ?_
  refine Cd.seq ?_
  refine Cd.seq ?_
  refine Cd.region ?_
  refine Seq.val (Runs.move rfl rfl) rfl rfl rfl ?_
  refine Seq.val (Runs.nilCheck rfl rfl) rfl rfl rfl ?_
  refine Seq.val (Runs.fieldB 0 rfl rfl Tryz.underlying70 rfl (by kernel_rfl)) rfl rfl rfl ?_
  refine Seq.val (Runs.loadB rfl rfl Tryz.underlying26 rfl k0 rfl) rfl rfl rfl ?_
  refine Seq.val (Runs.move rfl rfl) rfl rfl rfl ?_
  refine Seq.call (Enters.func rfl rfl rfl (run_enter Tryz.func95 (by kernel_rfl) rfl)) rfl rfl rfl (append_d_any B gd D1 freshN F _ dk (by decide) hFb (by decide) (by omega)) ?_
  clear dk
  rintro e w4 ⟨rfl, dk, fw4⟩
  refine ⟨_, rfl, ?_⟩
  replace df := df.df fw4
  replace gv := gv.df fw4
  replace k0 := k0.df fw4
  refine Seq.val (Runs.assign rfl rfl) rfl rfl rfl ?_
  refine Seq.nil ?_
  refine Post.weak (F' := [(0, _), (1, _), (4, _), (5, _), (6, _), (7, _), (9, _), (21, _)]) ⟨rfl, rfl, rfl, rfl, rfl, rfl, rfl, rfl, trivial⟩ ?_
  refine Post.then_ ?_
  refine Cd.seq ?_
  refine Cd.region ?_
  refine Seq.val (Runs.move rfl rfl) rfl rfl rfl ?_
  refine Seq.val (Runs.neqI rfl rfl rfl) rfl rfl rfl ?_
  refine Seq.nil ?_
  refine Post.weak (F' := [(0, _), (1, _), (4, _), (5, _), (6, _), (7, _), (9, _), (21, _), (40, _)]) ⟨rfl, rfl, rfl, rfl, rfl, rfl, rfl, rfl, rfl, trivial⟩ ?_
  refine Post.then_ ?_
  refine Cd.cond rfl (fun h => ?_) (fun h => ?_)
  · have h' : D1.appendE freshN F ≠ 0 := by simpa using h
    rw [if_pos h']
    refine Cd.seq ?_
    refine Cd.region ?_
    refine Seq.val (Runs.move rfl rfl) rfl rfl rfl ?_
    refine Seq.val (Runs.assign rfl rfl) rfl rfl rfl ?_
    refine Seq.nil ?_
    refine Post.weak (F' := [(0, _), (1, _), (4, _), (5, _), (6, _), (7, _), (9, _), (21, _), (40, _)]) ⟨rfl, rfl, rfl, rfl, rfl, rfl, rfl, rfl, rfl, trivial⟩ ?_
    refine Post.then_ ?_
    refine Cd.ret ?_
    refine Post.then_ret ?_
    refine Post.end1 rfl rfl (.inl rfl) ?_
    exact ⟨rfl, dk, df⟩
  have h' : ¬ D1.appendE freshN F ≠ 0 := by simpa using h
  rw [if_neg h']
  obtain ⟨D2, hD2⟩ : ∃ D2, D2 = D1.append freshN F := ⟨_, rfl⟩
  rw [← hD2] at dk
  rw [← hD2]
  refine Cd.skip ?_
  refine Post.then_ ?_
  refine Cd.seq ?_
  refine Cd.seq ?_
  refine Cd.region ?_
  refine Seq.val (Runs.move rfl rfl) rfl rfl rfl ?_
  refine Seq.val (Runs.nilCheck rfl rfl) rfl rfl rfl ?_
  refine Seq.val (Runs.fieldB 0 rfl rfl Tryz.underlying70 rfl (by kernel_rfl)) rfl rfl rfl ?_
  refine Seq.val (Runs.loadB rfl rfl Tryz.underlying26 rfl k0 rfl) rfl rfl rfl ?_
  refine Seq.call (Enters.func rfl rfl rfl (run_enter Tryz.func96 (by kernel_rfl) rfl)) rfl rfl rfl (sync_any B gd D2 freshN _ dk (by decide) (by decide)) ?_
  clear dk
  rintro e w5 ⟨rfl, dk, fw5⟩
  refine ⟨_, rfl, ?_⟩
  replace df := df.df fw5
  replace gv := gv.df fw5
  replace k0 := k0.df fw5
  refine Seq.val (Runs.assign rfl rfl) rfl rfl rfl ?_
  refine Seq.nil ?_
  refine Post.weak (F' := [(0, _), (1, _), (4, _), (5, _), (6, _), (7, _), (9, _), (10, _), (21, _), (40, _)]) ⟨rfl, rfl, rfl, rfl, rfl, rfl, rfl, rfl, rfl, rfl, trivial⟩ ?_
  refine Post.then_ ?_
  refine Cd.seq ?_
  refine Cd.region ?_
  refine Seq.val (Runs.move rfl rfl) rfl rfl rfl ?_
  refine Seq.val (Runs.neqI rfl rfl rfl) rfl rfl rfl ?_
  refine Seq.nil ?_
  refine Post.weak (F' := [(0, _), (1, _), (4, _), (5, _), (6, _), (7, _), (9, _), (10, _), (21, _), (40, _), (48, _)]) ⟨rfl, rfl, rfl, rfl, rfl, rfl, rfl, rfl, rfl, rfl, rfl, trivial⟩ ?_
  refine Post.then_ ?_
  refine Cd.cond rfl (fun h => ?_) (fun h => ?_)
  · have h' : D2.thereE [freshN] freshN ≠ 0 := by simpa using h
    rw [if_pos h']
    refine Cd.seq ?_
    refine Cd.region ?_
    refine Seq.val (Runs.move rfl rfl) rfl rfl rfl ?_
    refine Seq.val (Runs.assign rfl rfl) rfl rfl rfl ?_
    refine Seq.nil ?_
    refine Post.weak (F' := [(0, _), (1, _), (4, _), (5, _), (6, _), (7, _), (9, _), (10, _), (21, _), (40, _), (48, _)]) ⟨rfl, rfl, rfl, rfl, rfl, rfl, rfl, rfl, rfl, rfl, rfl, trivial⟩ ?_
    refine Post.then_ ?_
    refine Cd.ret ?_
    refine Post.then_ret ?_
    refine Post.end1 rfl rfl (.inl rfl) ?_
    exact ⟨rfl, dk, df⟩
  have h' : ¬ D2.thereE [freshN] freshN ≠ 0 := by simpa using h
  rw [if_neg h']
  obtain ⟨D3, hD3⟩ : ∃ D3, D3 = D2.sync freshN := ⟨_, rfl⟩
  rw [← hD3] at dk
  rw [← hD3]
  refine Cd.skip ?_
  refine Post.then_ ?_
  refine Cd.seq ?_
  refine Cd.region ?_
  refine Seq.val (Runs.move rfl rfl) rfl rfl rfl ?_
  refine Seq.val (Runs.nilCheck rfl rfl) rfl rfl rfl ?_
  refine Seq.val (Runs.fieldB 0 rfl rfl Tryz.underlying70 rfl (by kernel_rfl)) rfl rfl rfl ?_
  refine Seq.val (Runs.loadB rfl rfl Tryz.underlying26 rfl k0 rfl) rfl rfl rfl ?_
  refine Seq.call (Enters.func rfl rfl rfl (run_enter Tryz.func97 (by kernel_rfl) rfl)) rfl rfl rfl (rename_d_any B gd D3 freshN curN _ dk (by decide) (by decide) (by decide) (by decide)) ?_
  clear dk
  rintro e w6 ⟨rfl, dk, fw6⟩
  refine ⟨_, rfl, ?_⟩
  replace df := df.df fw6
  replace gv := gv.df fw6
  replace k0 := k0.df fw6
  refine Seq.val (Runs.assign rfl rfl) rfl rfl rfl ?_
  refine Seq.nil ?_
  refine Post.weak (F' := [(0, _), (1, _), (4, _), (5, _), (6, _), (7, _), (9, _), (10, _), (21, _), (40, _), (48, _)]) ⟨rfl, rfl, rfl, rfl, rfl, rfl, rfl, rfl, rfl, rfl, rfl, trivial⟩ ?_
  refine Post.then_ ?_
  refine Cd.ret ?_
  refine Post.end1 rfl rfl (.inl rfl) ?_
  exact ⟨rfl, dk, df⟩
end Go.Proofs.YtdpipgidpkmolaaGreatDoor

namespace Go.Proofs.YtdpipgidpkmolaaGreatDoor
open Go.RowKit

section
variable {P : Program} {E : Operand → Option Value} {o : Oper} {w : World} {x y : Operand} {T : TypeId}
end
def goodB (f : Fl) (nx : Int) (prev : Option Fl) : Bool := mayB f && decide (f.num < nx) && (match prev with | none => true | some g => decide (ordB g f < 0))
def clashB (f g : Fl) : Bool := decide (f.num = g.num) || (decide (f.level = g.level) && decide (0 < f.level) && ovB f g)
def rightFiles (nx : Int) : Nat → List Fl → Bool
  | 0, _ => true
  | k + 1, fs => rightFiles nx k fs && (match fs[k]? with | none => true | some f => goodB f nx (if k = 0 then none else fs[k - 1]?) && !((fs.take k).any (clashB f)))
def rightB (lg nx sq : Int) (fs : List Fl) : Bool := (decide (0 ≤ lg) && decide (lg ≤ 999999)) && (decide (0 ≤ nx) && decide (nx ≤ 999999)) && (decide (0 ≤ sq) && decide (sq ≤ 4611686018427387904)) && decide (fs.length ≤ 100) && rightFiles nx fs.length fs
end Go.Proofs.YtdpipgidpkmolaaGreatDoor

namespace Go.Proofs.YtdpipgidpkmolaaGreatDoor
open Go.RowKit

theorem clone_nil (w : World) : Calls Tryz.prog 30 #[.slice none 0 0] w fun e w' => e = .returned (.slice none 0 0) ∧ Grow w w' := by
  have bel := Below.refl w.heap.size w
  refine Calls.start 8 Tryz.func30 rfl rfl rfl ?_
  refine Cd.seq ?_
  refine Cd.region ?_
  refine Seq.val (Runs.assign rfl rfl) rfl rfl rfl ?_
  refine Seq.nil ?_
  refine Post.weak (F' := [(0, _), (2, _)]) ⟨rfl, rfl, trivial⟩ ?_
  refine Post.then_ ?_
  refine Cd.seq ?_
  refine Cd.seq ?_
  refine Cd.region ?_
  refine Seq.val (Runs.move rfl rfl) rfl rfl rfl ?_
  refine Seq.val (Runs.eqlN rfl rfl rfl Tryz.underlying36) rfl rfl rfl ?_
  refine Seq.nil ?_
  refine Post.weak (F' := [(0, _), (2, _), (4, _)]) ⟨rfl, rfl, rfl, trivial⟩ ?_
  refine Post.then_ ?_
  refine Cd.condT rfl rfl ?_
  refine Cd.seq ?_
  refine Cd.region ?_
  refine Seq.val (Runs.assign rfl rfl) rfl rfl rfl ?_
  refine Seq.nil ?_
  refine Post.weak (F' := [(0, _), (2, _), (4, _)]) ⟨rfl, rfl, rfl, trivial⟩ ?_
  refine Post.then_ ?_
  refine Cd.ret ?_
  refine Post.then_ret ?_
  refine Post.end1 rfl rfl (.inl rfl) ?_
  exact ⟨rfl, bel⟩
end Go.Proofs.YtdpipgidpkmolaaGreatDoor

namespace Go.Proofs.YtdpipgidpkmolaaGreatDoor
open Go.RowKit

section
variable {P : Program} {ops : Array Oper} {Q : Exit → Act → World → Prop} {n : Nat} {F0 : List (Nat × Value)} {G : World → World → Prop} {w0 : World} {CH : List Nat} {J : Nat → World → Prop} {L : List Nat} {B : Env → Prop} {k : Nat} {o : Oper} {r : List Oper} {Γ : Env} {Φ : Value → World → Prop}
end
/-- What a manifest's methods leave as it was. -/
structure Mf (B : Nat) (w w' : World) : Prop where
  below : Below (min B w.heap.size) w w'
  keep : ∀ k t cs, Blk w k t cs → t ≠ 65 → t ≠ 100 → t ≠ 111 → t ≠ 70 → Blk w' k t cs
section
variable {B : Nat} {w w' w'' : World}
theorem Mf.refl (B : Nat) (w : World) : Mf B w w := ⟨Below.refl _ _, fun _ _ _ h _ _ _ _ => h⟩
theorem Mf.trans (h : Mf B w w') (k : Mf B w' w'') : Mf B w w'' := ⟨h.below.trans (k.below.mono (by have := h.below.size; omega)), fun i t cs hb h1 h2 h3 h4 => k.keep i t cs (h.keep i t cs hb h1 h2 h3 h4) h1 h2 h3 h4⟩
theorem Mf.mf (h : Mf B w w') (k : Mf B w' w'') : Mf B w w'' := h.trans k
theorem Mf.lf (h : Mf B w w') (k : Lf B w' w'') : Mf B w w'' := h.trans ⟨k.below, fun i t cs hb h1 h2 h3 _ => k.keep i t cs hb h1 h2 h3⟩
theorem Mf.df (h : Mf B w w') (k : Df B w' w'') : Mf B w w'' := h.lf (Lf.of k)
theorem Mf.step (h : Mf B w w') (k : Below w'.heap.size w' w'') : Mf B w w'' := h.df (Df.grow k)
theorem Mf.size (h : Mf B w w') : w.heap.size ≤ w'.heap.size := h.below.size
theorem Mf.to (h : Mf B w w') (hB : B ≤ w.heap.size) : Below B w w' := by have := h.below; rwa [Nat.min_eq_left hB] at this
theorem Mf.putX {g : Nat} {T : TypeId} {cur cs : Array Value} (h : Mf B w w') (k : Blk w' g T cur) (p : Put w' w'' g T cs) (ht : (B ≤ g ∧ T = 70) ∨ w.heap.size ≤ g) : Mf B w w'' := by
  refine ⟨h.below.trans (p.below (by omega) k.lt), fun i t cs' hb h3 h4 h5 h6 => (h.keep i t cs' hb h3 h4 h5 h6).grown p.grown (fun e => ?_)⟩
  injection e with e
  have hb1 := h.keep i t cs' hb h3 h4 h5 h6
  have hb2 := hb.lt
  rcases ht with ⟨-, h2⟩ | h1
  · have h7 : w'.heap[i]? = some (.cells cs' t) := hb1
    have h8 : w'.heap[g]? = some (.cells cur T) := k
    rw [← e, h7] at h8
    injection h8 with h8
    injection h8 with _ h8
    exact h6 (h8.trans h2)
  · omega
theorem Mf.put {B' g : Nat} {T : TypeId} {cur cs : Array Value} (h : Mf B w w') (k : Blk w' g T cur) (p : Put w' w'' g T cs) (e : B' ≤ g) (ht : (B ≤ B' ∧ T = 70) ∨ w.heap.size ≤ B' := by first | exact .inl ⟨by omega, rfl⟩ | exact .inr (by omega)) : Mf B w w'' :=
  h.putX k p (by rcases ht with ⟨h1, h2⟩ | h1; exact .inl ⟨by omega, h2⟩; exact .inr (by omega))
theorem Gv.mf (h : Gv w) (f : Mf B w w') (hB : max 2 1 < B := by omega) : Gv w' := h.below f.below (by have := h.top; omega)
end
/-- A log opened that has nothing. -/
def OpN (B gd : Nat) (nm : List Nat) (v : Value) (w : World) : Prop := ∃ g, v = .tuple #[.pointer (some ⟨g, 0, none⟩), .slice none 0 0, .int .i64 0] ∧ B ≤ g ∧ Blk w g 111 ((⟨0, 0, 0, false⟩ : Wl).cs gd nm)
theorem OpN.stable {B gd : Nat} {nm : List Nat} : ∀ v w w', Grow w w' → OpN B gd nm v w → OpN B gd nm v w' := fun _ _ _ h ⟨g, e, h1, h2⟩ => ⟨g, e, h1, h2.step h⟩
def OpG (B gd : Nat) (nm : List Nat) (v : Value) (w : World) : Prop := ∃ g, v = .pointer (some ⟨g, 0, none⟩) ∧ B ≤ g ∧ Blk w g 111 ((⟨0, 0, 0, false⟩ : Wl).cs gd nm)
theorem OpG.stable {B gd : Nat} {nm : List Nat} : ∀ v w w', Grow w w' → OpG B gd nm v w → OpG B gd nm v w' := fun _ _ _ h ⟨g, e, h1, h2⟩ => ⟨g, e, h1, h2.step h⟩
/-- A log that has no segments tells no numbers. -/
def NoNum (B gd : Nat) (D : Dk) (nm : List Nat) : Prop := ∀ g0 w, Gv w → Blk w g0 111 (wlCs gd nm 0 0 0 false) → DkAt w B gd D → Calls Tryz.prog 56 #[.pointer (some ⟨g0, 0, none⟩)] w fun e w' => ∃ v, e = .returned v ∧ Own w' w.heap.size 3 1 v 0 [] ∧ Grow w w'
theorem noNum_empty {B gd : Nat} {D : Dk} {nm : List Nat} (hnm : Byt nm) (hnl : nm.length ≤ 8) (h0 : D.files = []) : NoNum B gd D nm := fun g0 w gv k0 dk => by
  refine (numbers_any B g0 gd D nm 0 0 0 false w gv k0 dk hnm hnl (fun p hp => by rw [h0] at hp; cases hp)).mono fun e w' ⟨v, ns, e1, _, hm, own, hg⟩ => ?_
  have hns : ns = [] := by
    refine List.eq_nil_iff_forall_not_mem.2 fun n hn => ?_
    have h2 := ((hm n).1 hn).2
    rw [h0] at h2
    simp at h2
  subst hns
  exact ⟨v, e1, own, hg⟩
theorem openN_any (B gd : Nat) (D : Dk) (nm : List Nat) (w : World) (gv : Gv w) (dk : DkAt w B gd D) (hoff : D.off = false) (hr : rightN nm = true) (hnm : Byt nm) (hno : NoNum B gd D nm) :
    Calls Tryz.prog 27 #[.pointer (some ⟨gd, 0, none⟩), .string (strOf nm)] w fun e w' => ∃ v, e = .returned v ∧ Grow w w' ∧ OpN B gd nm v w' := by
  have bel := Below.refl w.heap.size w
  have hBw := dk.size
  have hnl : nm.length ≤ 8 := by
    unfold rightN at hr
    rw [Bool.and_eq_true, Bool.and_eq_true, decide_eq_true_eq, decide_eq_true_eq] at hr
    exact hr.2.2
  refine Calls.start 68 Tryz.func27 rfl rfl rfl ?_
  refine Cd.seq ?_
  refine Cd.region ?_
  refine Seq.val (Runs.assign rfl rfl) rfl rfl rfl ?_
  refine Seq.val (Runs.assign rfl rfl) rfl rfl rfl ?_
  refine Seq.val (Runs.assign rfl rfl) rfl rfl rfl ?_
  refine Seq.nil ?_
  refine Post.weak (F' := [(0, _), (1, _), (4, _), (5, _), (6, _)]) ⟨rfl, rfl, rfl, rfl, rfl, trivial⟩ ?_
  refine Post.then_ ?_
  refine Cd.seq ?_
  refine Cd.block ?_
  refine Cd.seq ?_
  refine Cd.region ?_
  refine Seq.val (Runs.move rfl rfl) rfl rfl rfl ?_
  refine Seq.val (Runs.eqlP rfl rfl rfl Tryz.underlying26) rfl rfl rfl ?_
  refine Seq.val (Runs.move rfl rfl) rfl rfl rfl ?_
  refine SeqC.start ?_
  refine SeqC.open rfl rfl rfl rfl rfl rfl rfl (fun hcx => Runs.move rfl rfl) ?_
  refine SeqC.nextC rfl rfl rfl rfl rfl rfl rfl (fun hcx => Enters.func rfl rfl rfl (run_enter Tryz.func54 (by kernel_rfl) rfl)) (fun hcx => right_w_any nm _ hnm (by omega)) ?_
  intro w1 hw1
  replace bel := bel.step hw1
  replace dk := dk.step hw1
  replace gv := gv.step hw1
  rw [hr]
  refine SeqC.next rfl rfl rfl rfl rfl rfl rfl (fun hcx => Runs.not rfl rfl) ?_
  refine SeqC.or rfl rfl rfl rfl rfl rfl rfl ?_
  refine Seq.val (Runs.assign rfl rfl) rfl rfl rfl ?_
  refine Seq.nil ?_
  refine Post.weak (F' := [(0, _), (1, _), (4, _), (5, _), (6, _), (15, _)]) ⟨rfl, rfl, rfl, rfl, rfl, rfl, trivial⟩ ?_
  refine Post.then_ ?_
  refine Cd.condF rfl rfl ?_
  refine Cd.seq ?_
  refine Cd.region ?_
  refine Seq.val (Runs.move rfl rfl) rfl rfl rfl ?_
  refine Seq.call (Enters.func rfl rfl rfl (run_enter Tryz.func55 (by kernel_rfl) rfl)) rfl rfl rfl (on_any B gd D _ dk) ?_
  rw [hoff]
  rintro e w5 ⟨rfl, hb5⟩
  refine ⟨_, rfl, ?_⟩
  replace bel := bel.step hb5
  replace dk := dk.step hb5
  replace gv := gv.step hb5
  refine Seq.val (Runs.not rfl rfl) rfl rfl rfl ?_
  refine Seq.val (Runs.assign rfl rfl) rfl rfl rfl ?_
  refine Seq.nil ?_
  refine Post.weak (F' := [(0, _), (1, _), (4, _), (5, _), (6, _), (15, _), (23, _)]) ⟨rfl, rfl, rfl, rfl, rfl, rfl, rfl, trivial⟩ ?_
  refine Post.then_ ?_
  refine Cd.condF rfl rfl ?_
  refine Cd.skip ?_
  refine Post.block_normal ?_
  refine Post.then_ ?_
  refine Cd.seq ?_
  refine Cd.region ?_
  refine Seq.val (Runs.move rfl rfl) rfl rfl rfl ?_
  refine Seq.val (Runs.move rfl rfl) rfl rfl rfl ?_
  have hsz5 := bel.size
  refine Seq.val (Runs.build rfl rfl (run_build_wal gd nm _)) rfl rfl rfl ?_
  refine Seq.box rfl rfl rfl rfl rfl ?_
  intro g30 w2 n30
  have e30 := Nat.le_trans bel.size n30.ge
  replace bel := bel.step n30.below
  replace dk := dk.step n30.below
  replace gv := gv.step n30.below
  have k30 := n30.blk
  refine Seq.val (Runs.assign rfl rfl) rfl rfl rfl ?_
  refine Seq.nil ?_
  refine Post.weak (F' := [(0, _), (1, _), (4, _), (5, _), (6, _), (7, _), (15, _), (23, _)]) ⟨rfl, rfl, rfl, rfl, rfl, rfl, rfl, rfl, trivial⟩ ?_
  refine Post.then_ ?_
  refine Cd.seq ?_
  refine Cd.region ?_
  refine Seq.val (Runs.assign rfl rfl) rfl rfl rfl ?_
  refine Seq.nil ?_
  refine Post.weak (F' := [(0, _), (1, _), (4, _), (5, _), (6, _), (7, _), (8, _), (15, _), (23, _)]) ⟨rfl, rfl, rfl, rfl, rfl, rfl, rfl, rfl, rfl, trivial⟩ ?_
  refine Post.then_ ?_
  refine Cd.seq ?_
  refine Cd.seq ?_
  refine Cd.region ?_
  refine Seq.val (Runs.move rfl rfl) rfl rfl rfl ?_
  have k30 : Blk _ g30 111 (wlCs gd nm 0 0 0 false) := k30
  refine Seq.call (Enters.func rfl rfl rfl (run_enter Tryz.func56 (by kernel_rfl) rfl)) rfl rfl rfl (hno g30 _ gv k30 dk) ?_
  rintro e w7 ⟨v32, rfl, ownN, hb7⟩
  refine ⟨_, rfl, ?_⟩
  replace bel := bel.step hb7
  replace dk := dk.step hb7
  replace gv := gv.step hb7
  replace k30 := k30.step hb7
  obtain ⟨A, c, rfl, -⟩ := ownN.reads
  refine Seq.val (Runs.len rfl rfl Tryz.underlying40) rfl rfl rfl ?_
  refine Seq.val (Runs.move rfl rfl) rfl rfl rfl ?_
  refine Seq.nil ?_
  refine Post.weak (F' := [(0, _), (1, _), (4, _), (5, _), (6, _), (7, _), (8, _), (15, _), (23, _), (32, _), (33, _), (34, _)]) ⟨rfl, rfl, rfl, rfl, rfl, rfl, rfl, rfl, rfl, rfl, rfl, rfl, trivial⟩ ?_
  refine Post.then_ ?_
  refine Cd.block ?_
  refine Cd.loop (σ := Unit) (fun _ => [(7, .pointer (some ⟨g30, 0, none⟩)), (8, .slice none 0 0), (32, .slice A 0 c), (33, .int .i64 0), (34, .int .i64 0)]) (fun _ wr => Below w.heap.size w wr ∧ Blk wr g30 111 (wlCs gd nm 0 0 0 false)) (fun _ => 0) () ⟨bel, k30⟩ ⟨rfl, rfl, rfl, rfl, rfl, trivial⟩ ?_
  clear dk bel gv k30
  rintro _ wr ⟨bel, k30⟩
  show Cd _ _ _ _ [(7, .pointer (some ⟨g30, 0, none⟩)), (8, .slice none 0 0), (32, .slice A 0 c), (33, .int .i64 0), (34, .int .i64 0)] _
  refine Cd.seq ?_
  refine Cd.region ?_
  refine Seq.val (Runs.lss rfl rfl rfl) rfl rfl rfl ?_
  refine Seq.nil ?_
  refine Post.weak (F' := [(7, _), (8, _), (32, _), (33, _), (34, _), (35, _)]) ⟨rfl, rfl, rfl, rfl, rfl, rfl, trivial⟩ ?_
  refine Post.then_ ?_
  refine Cd.seq ?_
  refine Cd.cond rfl (fun h => ?_) (fun h => ?_)
  · cases h
  · skip
    refine Cd.exit ?_
    refine Post.then_exit ?_
    refine Post.round_exit ?_
    refine Post.block_exit ?_
    refine Post.then_ ?_
    refine Cd.seq ?_
    refine Cd.region ?_
    refine Seq.val (Runs.move rfl rfl) rfl rfl rfl ?_
    refine Seq.val (Runs.move rfl rfl) rfl rfl rfl ?_
    refine Seq.val (Runs.assign rfl rfl) rfl rfl rfl ?_
    refine Seq.val (Runs.assign rfl rfl) rfl rfl rfl ?_
    refine Seq.val (Runs.assign rfl rfl) rfl rfl rfl ?_
    refine Seq.nil ?_
    refine Post.weak (F' := [(4, _), (5, _), (6, _), (7, _), (8, _), (32, _), (33, _), (34, _), (35, _)]) ⟨rfl, rfl, rfl, rfl, rfl, rfl, rfl, rfl, rfl, trivial⟩ ?_
    refine Post.then_ ?_
    refine Cd.ret ?_
    refine Post.end3 rfl rfl rfl rfl (.inl rfl) ?_
    exact ⟨_, rfl, bel, g30, rfl, by omega, k30⟩
theorem encB_few (lg nx sq : Int) (h1 : I64 lg) (h2 : I64 nx) (h3 : I64 sq) : Byt (encB lg nx sq [] []) ∧ (encB lg nx sq [] []).length ≤ 100 := by
  unfold encB
  have a1 := grp_lt (sgn_lt h1)
  have a2 := grp_lt (sgn_lt h2)
  have a3 := grp_lt (sgn_lt h3)
  have a4 := grp_lt (n := 0) (by omega)
  have l1 := grp_len (sgn lg)
  have l2 := grp_len (sgn nx)
  have l3 := grp_len (sgn sq)
  have l4 := grp_len 0
  refine ⟨?_, ?_⟩
  · intro d hd
    simp only [List.length_nil, List.flatMap_nil, List.append_nil, List.nil_append, List.mem_append] at hd
    rcases hd with h | h | h | h | h
    · exact a1 d h
    · exact a2 d h
    · exact a3 d h
    · exact a4 d h
    · exact a4 d h
  · simp only [List.length_nil, List.flatMap_nil, List.append_nil, List.nil_append, List.length_append]
    omega
set_option maxHeartbeats 4000000 in
theorem begin_new (B g0 gd gen : Nat) (D D1 D2 : Dk) (W1 : Wl) (nm : List Nat) (lg nx sq : Int) (c1 c2 c3 c4 c5 c6 c7 c8 : Value) (w : World) (gv : Gv w) (hgB : max 2 1 < B) (e0 : B ≤ g0) (k0 : Blk w g0 70 #[.pointer (some ⟨gd, 0, none⟩), c1, c2, c3, c4, c5, c6, c7, c8]) (dk : DkAt w B gd D) (h0 : D.files.length = 0) (hno : NoNum B gd D nm) (hoff : D.off = false) (hg : gen ≤ 675) (hnm : nm = [109, 97 + gen / 26, 97 + gen % 26])
    (hlg : I64 lg) (hnx : I64 nx) (hsq : I64 sq) (hlaid : laidB lg nx sq [] [] = true) (hA : appW ⟨0, 0, 0, false⟩ D nm (encB lg nx sq [] []) = (W1, D1, 0)) (hp : pointW D1 gen = (D2, 0)) :
    Calls Tryz.prog 25 #[.pointer (some ⟨g0, 0, none⟩), .int .i64 (gen : Int), .agg #[.int .i64 lg, .int .i64 nx, .int .i64 sq, .slice none 0 0, .slice none 0 0]] w fun e w' => e = .returned (.int .i64 0) ∧ ∃ gl, Blk w' g0 70 #[.pointer (some ⟨gd, 0, none⟩), .int .i64 (gen : Int), .pointer (some ⟨gl, 0, none⟩), c3, c4, c5, c6, c7, c8] ∧ Blk w' gl 111 (W1.cs gd nm) ∧ B ≤ gl ∧ DkAt w' B gd D2 ∧ Mf B w w' := by
  have mf := Mf.refl B w
  have hBw := dk.size
  refine Calls.start 65 Tryz.func25 rfl rfl rfl ?_
  refine Cd.seq ?_
  refine Cd.region ?_
  refine Seq.box rfl rfl rfl rfl rfl ?_
  intro g4 w1 n4
  have l4 := Nat.lt_of_lt_of_le k0.lt n4.ge
  replace mf := mf.step n4.below
  replace gv := gv.step n4.below
  replace k0 := k0.step n4.below
  replace dk := dk.step n4.below
  have k4 := n4.blk
  refine Seq.box rfl rfl rfl rfl rfl ?_
  intro g5 w2 n5
  have l5 := Nat.lt_of_lt_of_le k4.lt n5.ge
  have l5_k0 := Nat.lt_of_lt_of_le k0.lt n5.ge
  replace mf := mf.step n5.below
  replace gv := gv.step n5.below
  replace k0 := k0.step n5.below
  replace dk := dk.step n5.below
  replace k4 := k4.step n5.below
  have k5 := n5.blk
  refine Seq.val (Runs.assign rfl rfl) rfl rfl rfl ?_
  refine Seq.nil ?_
  refine Post.weak (F' := [(0, _), (1, _), (2, _), (4, _), (5, _), (6, _)]) ⟨rfl, rfl, rfl, rfl, rfl, rfl, trivial⟩ ?_
  refine Post.then_ ?_
  refine Cd.seq ?_
  refine Cd.seq ?_
  refine Cd.region ?_
  refine Seq.val (Runs.move rfl rfl) rfl rfl rfl ?_
  refine Seq.val (Runs.nilCheck rfl rfl) rfl rfl rfl ?_
  refine Seq.val (Runs.fieldB 0 rfl rfl Tryz.underlying70 rfl (by kernel_rfl)) rfl rfl rfl ?_
  refine Seq.val (Runs.loadB rfl rfl Tryz.underlying26 rfl k0 rfl) rfl rfl rfl ?_
  refine Seq.val (Runs.makeFunc (v := .func (.func 48) #[] #[.pointer (some ⟨g4, 0, none⟩)]) rfl (show evL _ _ = some [] from rfl) (show evL _ _ = some [.pointer (some ⟨g4, 0, none⟩)] from rfl) rfl) rfl rfl rfl ?_
  refine Seq.call (Enters.func rfl rfl rfl (run_enter Tryz.func22 (by kernel_rfl) rfl)) rfl rfl rfl (sweep_none B gd D _ _ dk h0) ?_
  rintro e w6 ⟨rfl, hb6⟩
  refine ⟨_, rfl, ?_⟩
  replace mf := mf.step hb6
  replace gv := gv.step hb6
  replace k0 := k0.step hb6
  replace dk := dk.step hb6
  replace k4 := k4.step hb6
  replace k5 := k5.step hb6
  refine Seq.val (Runs.move rfl rfl) rfl rfl rfl ?_
  refine Seq.val (Runs.extract rfl rfl rfl) rfl rfl rfl ?_
  refine Seq.val (Runs.extract rfl rfl rfl) rfl rfl rfl ?_
  refine Seq.val (Runs.assign rfl rfl) rfl rfl rfl ?_
  refine Seq.val (Runs.assign rfl rfl) rfl rfl rfl ?_
  refine Seq.nil ?_
  refine Post.weak (F' := [(0, _), (1, _), (2, _), (4, _), (5, _), (6, _), (8, _)]) ⟨rfl, rfl, rfl, rfl, rfl, rfl, rfl, trivial⟩ ?_
  refine Post.then_ ?_
  refine Cd.seq ?_
  refine Cd.region ?_
  refine Seq.val (Runs.move rfl rfl) rfl rfl rfl ?_
  refine Seq.val (Runs.neqI rfl rfl rfl) rfl rfl rfl ?_
  refine Seq.nil ?_
  refine Post.weak (F' := [(0, _), (1, _), (2, _), (4, _), (5, _), (6, _), (8, _), (23, _)]) ⟨rfl, rfl, rfl, rfl, rfl, rfl, rfl, rfl, trivial⟩ ?_
  refine Post.then_ ?_
  refine Cd.condF rfl rfl ?_
  have hr : rightN nm = true := by
    rw [hnm]
    unfold rightN
    simp
    omega
  have hnb : Byt nm := by
    rw [hnm]
    intro d hd
    simp at hd
    omega
  have hnl : nm.length = 3 := by rw [hnm]; rfl
  have hnc : ∀ w, Calls Tryz.prog 28 #[.int .i64 (gen : Int)] w fun e w' => e = .returned (.string (strOf nm)) ∧ Grow w w' := fun w => by
    rw [hnm]
    exact name_any gen w hg
  refine Cd.skip ?_
  refine Post.then_ ?_
  refine Cd.seq ?_
  have hop := openN_any B gd D nm
  refine Cd.draw 11 (by kernel_rfl) [9, 10] (.inr (fun _ _ d _ _ h => by cases d <;> exact h)) rfl Grow Grow.refl (fun _ _ _ => Grow.trans) ?_
  intro w3 hw3 zw3
  replace mf := mf.step hw3
  replace gv := gv.step hw3
  replace k0 := k0.step hw3
  replace dk := dk.step hw3
  replace k4 := k4.step hw3
  replace k5 := k5.step hw3
  have zlt := k5.lt
  refine Dr.val Grow.refl rfl (fun w hG => Runs.move rfl rfl) rfl ?_
  refine Dr.val Grow.refl rfl (fun w hG => Runs.nilCheck rfl rfl) rfl ?_
  refine Dr.val Grow.refl rfl (fun w hG => Runs.fieldB 0 rfl rfl Tryz.underlying70 rfl (by kernel_rfl)) rfl ?_
  refine Dr.val Grow.refl rfl (fun w hG => Runs.loadB rfl rfl Tryz.underlying26 rfl (k0.step hG) rfl) rfl ?_
  refine Dr.val Grow.refl rfl (fun w hG => Runs.loadB rfl rfl Tryz.underlying3 rfl (k4.step hG) rfl) rfl ?_
  refine Dr.callV rfl (fun w => Enters.func rfl rfl rfl (run_enter Tryz.func28 (by kernel_rfl) rfl)) rfl (fun w hG => hnc w) ?_
  refine Dr.call (Φ := OpN B gd nm) rfl (fun w => Enters.func rfl rfl rfl (run_enter Tryz.func27 (by kernel_rfl) rfl)) rfl (OpN.stable) (fun w hG => hop w (gv.step hG) (dk.step hG) hoff hr hnb hno) ?_
  refine Dr.val1 (j := 6) (Φ := OpN B gd nm) Grow.refl rfl rfl rfl OpN.stable rfl (fun u w hG hu => ⟨_, Runs.move rfl rfl, hu⟩) ?_
  refine Dr.val1 (j := 7) (Φ := OpG B gd nm) Grow.refl rfl rfl rfl OpG.stable rfl (fun u w hG hu => by obtain ⟨g, rfl, h⟩ := hu; exact ⟨_, Runs.extract rfl rfl rfl, g, rfl, h⟩) ?_
  refine Dr.late1 (j := 7) rfl rfl rfl rfl (fun u w w' hG hu => by obtain ⟨g, rfl, h⟩ := hu; exact Runs.extract rfl rfl rfl) Grow.refl rfl ?_
  refine Dr.late1 (j := 7) rfl rfl rfl rfl (fun u w w' hG hu => by obtain ⟨g, rfl, h⟩ := hu; exact Runs.extract rfl rfl rfl) Grow.refl rfl ?_
  refine Dr.nil ?_
  refine FinX.open (j := 8) rfl ?_
  intro u8
  refine FinX.done (F' := [(0, _), (1, _), (2, _), (4, _), (5, _), (6, _), (8, _), (23, _), (33, _), (34, _), (35, _)]) rfl ⟨rfl, rfl, rfl, rfl, rfl, rfl, rfl, rfl, rfl, rfl, rfl, trivial⟩ ?_
  intro w4 hw4 fw4
  replace mf := mf.step hw4
  replace gv := gv.step hw4
  replace k0 := k0.step hw4
  replace dk := dk.step hw4
  replace k4 := k4.step hw4
  replace k5 := k5.step hw4
  obtain ⟨g9, rfl, e9, k9⟩ := fw4.2
  have hne9 := k0.neT k9
  have hne4 := k0.neT k4
  have hne5 := k0.neT k5
  refine Seq.val (Runs.assign rfl rfl) rfl rfl rfl ?_
  refine Seq.val (Runs.assign rfl rfl) rfl rfl rfl ?_
  refine Seq.val (Runs.assign rfl rfl) rfl rfl rfl ?_
  refine Seq.nil ?_
  refine Post.weak (F' := [(0, _), (1, _), (2, _), (4, _), (5, _), (6, _), (8, _), (9, _), (11, _), (23, _)]) ⟨rfl, rfl, rfl, rfl, rfl, rfl, rfl, rfl, rfl, rfl, trivial⟩ ?_
  refine Post.then_ ?_
  refine Cd.seq ?_
  refine Cd.seq ?_
  refine Cd.region ?_
  refine Seq.val (Runs.move rfl rfl) rfl rfl rfl ?_
  refine Seq.val (Runs.neqI rfl rfl rfl) rfl rfl rfl ?_
  refine Seq.nil ?_
  refine Post.weak (F' := [(0, _), (1, _), (2, _), (4, _), (5, _), (6, _), (8, _), (9, _), (11, _), (23, _), (37, _)]) ⟨rfl, rfl, rfl, rfl, rfl, rfl, rfl, rfl, rfl, rfl, rfl, trivial⟩ ?_
  refine Post.then_ ?_
  refine Cd.condF rfl rfl ?_
  refine Cd.skip ?_
  refine Post.then_ ?_
  refine Cd.seq ?_
  refine Cd.region ?_
  refine Seq.val (Runs.loadW rfl rfl Tryz.underlying47 rfl k5 (m := 5) (by kernel_rfl) rfl) rfl rfl rfl ?_
  obtain ⟨b, hb⟩ : ∃ b, b = encB lg nx sq [] [] := ⟨_, rfl⟩
  rw [← hb] at hA
  have hbb : Byt b ∧ b.length ≤ 100 := by
    rw [hb]
    exact encB_few lg nx sq hlg hnx hsq
  refine Seq.call (Enters.func rfl rfl rfl (run_enter Tryz.func32 (by kernel_rfl) rfl)) rfl rfl rfl (encode_any lg nx sq B none none 0 0 [] [] _ Reads.none_ Reads.none_ (Nat.le_trans hBw mf.size) hlg hnx hsq (by simp) (by simp) (by simp) (by simp) hlaid) ?_
  rw [← hb]
  rintro e w8 ⟨rfl, hb8⟩
  refine ⟨_, rfl, ?_⟩
  replace mf := mf.step hb8
  replace gv := gv.step hb8
  replace k0 := k0.step hb8
  replace dk := dk.step hb8
  replace k4 := k4.step hb8
  replace k9 := k9.step hb8
  replace k5 := k5.step hb8
  refine Seq.val (Runs.move rfl rfl) rfl rfl rfl ?_
  refine Seq.val (Runs.extract rfl rfl rfl) rfl rfl rfl ?_
  refine Seq.val (Runs.extract rfl rfl rfl) rfl rfl rfl ?_
  refine Seq.val (Runs.assign rfl rfl) rfl rfl rfl ?_
  refine Seq.val (Runs.assign rfl rfl) rfl rfl rfl ?_
  refine Seq.nil ?_
  refine Post.weak (F' := [(0, _), (1, _), (2, _), (4, _), (5, _), (6, _), (8, _), (9, _), (11, _), (12, _), (23, _), (37, _)]) ⟨rfl, rfl, rfl, rfl, rfl, rfl, rfl, rfl, rfl, rfl, rfl, rfl, trivial⟩ ?_
  refine Post.then_ ?_
  refine Cd.seq ?_
  refine Cd.seq ?_
  refine Cd.region ?_
  refine Seq.val (Runs.move rfl rfl) rfl rfl rfl ?_
  refine Seq.val (Runs.eqlI rfl rfl rfl) rfl rfl rfl ?_
  refine Seq.nil ?_
  refine Post.weak (F' := [(0, _), (1, _), (2, _), (4, _), (5, _), (6, _), (8, _), (9, _), (11, _), (12, _), (23, _), (37, _), (45, _)]) ⟨rfl, rfl, rfl, rfl, rfl, rfl, rfl, rfl, rfl, rfl, rfl, rfl, rfl, trivial⟩ ?_
  refine Post.then_ ?_
  refine Cd.condT rfl rfl ?_
  refine Cd.region ?_
  refine Seq.val (Runs.move rfl rfl) rfl rfl rfl ?_
  refine Seq.val (Runs.move rfl rfl) rfl rfl rfl ?_
  refine Seq.call (Enters.func rfl rfl rfl (run_enter Tryz.func33 (by kernel_rfl) rfl)) rfl rfl rfl (append_w_any B g9 gd D nm b ⟨0, 0, 0, false⟩ _ gv hgB e9 k9 dk hnb (by omega) (by simp) (by simp) (by simp) hbb.1 (by omega)) ?_
  clear k9 dk
  rintro e w5 ⟨rfl, k9, dk, fw5⟩
  refine ⟨_, rfl, ?_⟩
  replace mf := mf.lf fw5
  replace gv := gv.lf fw5
  replace k0 := k0.lf fw5
  replace k4 := k4.lf fw5
  replace k5 := k5.lf fw5
  rw [hA] at k9 dk
  rw [hA]
  refine Seq.val (Runs.assign rfl rfl) rfl rfl rfl ?_
  refine Seq.nil ?_
  refine Post.weak (F' := [(0, _), (1, _), (2, _), (4, _), (5, _), (6, _), (8, _), (9, _), (11, _), (12, _), (23, _), (37, _), (45, _)]) ⟨rfl, rfl, rfl, rfl, rfl, rfl, rfl, rfl, rfl, rfl, rfl, rfl, rfl, trivial⟩ ?_
  refine Post.then_ ?_
  refine Cd.seq ?_
  refine Cd.seq ?_
  refine Cd.region ?_
  refine Seq.val (Runs.move rfl rfl) rfl rfl rfl ?_
  refine Seq.val (Runs.eqlI rfl rfl rfl) rfl rfl rfl ?_
  refine Seq.nil ?_
  refine Post.weak (F' := [(0, _), (1, _), (2, _), (4, _), (5, _), (6, _), (8, _), (9, _), (11, _), (12, _), (23, _), (37, _), (45, _), (50, _)]) ⟨rfl, rfl, rfl, rfl, rfl, rfl, rfl, rfl, rfl, rfl, rfl, rfl, rfl, rfl, trivial⟩ ?_
  refine Post.then_ ?_
  refine Cd.condT rfl rfl ?_
  refine Cd.region ?_
  refine Seq.val (Runs.move rfl rfl) rfl rfl rfl ?_
  refine Seq.val (Runs.loadB rfl rfl Tryz.underlying3 rfl k4 rfl) rfl rfl rfl ?_
  refine Seq.call (Enters.func rfl rfl rfl (run_enter Tryz.func49 (by kernel_rfl) rfl)) rfl rfl rfl (point_any B g0 gd D1 gen c1 c2 c3 c4 c5 c6 c7 c8 _ gv hgB k0 dk (by omega)) ?_
  clear dk
  rintro e w6 ⟨rfl, dk, fw6⟩
  refine ⟨_, rfl, ?_⟩
  replace mf := mf.df fw6
  replace gv := gv.df fw6
  replace k0 := k0.df fw6
  replace k4 := k4.df fw6
  replace k9 := k9.df fw6
  replace k5 := k5.df fw6
  rw [hp] at dk
  rw [hp]
  refine Seq.val (Runs.assign rfl rfl) rfl rfl rfl ?_
  refine Seq.nil ?_
  refine Post.weak (F' := [(0, _), (1, _), (2, _), (4, _), (5, _), (6, _), (8, _), (9, _), (11, _), (12, _), (23, _), (37, _), (45, _), (50, _)]) ⟨rfl, rfl, rfl, rfl, rfl, rfl, rfl, rfl, rfl, rfl, rfl, rfl, rfl, rfl, trivial⟩ ?_
  refine Post.then_ ?_
  refine Cd.seq ?_
  refine Cd.seq ?_
  refine Cd.region ?_
  refine Seq.val (Runs.move rfl rfl) rfl rfl rfl ?_
  refine Seq.val (Runs.eqlI rfl rfl rfl) rfl rfl rfl ?_
  refine Seq.nil ?_
  refine Post.weak (F' := [(0, _), (1, _), (2, _), (4, _), (5, _), (6, _), (8, _), (9, _), (11, _), (12, _), (23, _), (37, _), (45, _), (50, _), (55, _)]) ⟨rfl, rfl, rfl, rfl, rfl, rfl, rfl, rfl, rfl, rfl, rfl, rfl, rfl, rfl, rfl, trivial⟩ ?_
  refine Post.then_ ?_
  refine Cd.condT rfl rfl ?_
  refine Cd.region ?_
  refine Seq.val (Runs.move rfl rfl) rfl rfl rfl ?_
  refine Seq.val (Runs.move rfl rfl) rfl rfl rfl ?_
  refine Seq.val (Runs.loadB rfl rfl Tryz.underlying3 rfl k4 rfl) rfl rfl rfl ?_
  refine Seq.val (Runs.move rfl rfl) rfl rfl rfl ?_
  refine Seq.val (Runs.nilCheck rfl rfl) rfl rfl rfl ?_
  refine Seq.val (Runs.fieldB 1 rfl rfl Tryz.underlying70 rfl (by kernel_rfl)) rfl rfl rfl ?_
  refine Seq.store1 rfl rfl rfl (by kernel_rfl) rfl rfl k0 rfl rfl rfl ?_
  intro w7 pw7
  replace mf := mf.put k0 pw7 e0
  replace gv := gv.put k0 pw7 e0
  replace dk := dk.put k0 pw7 e0
  replace k4 := k4.put pw7 (by omega)
  replace k9 := k9.put pw7 (by omega)
  replace k5 := k5.put pw7 (by omega)
  replace k0 := pw7.blk
  refine Seq.val (Runs.nilCheck rfl rfl) rfl rfl rfl ?_
  refine Seq.val (Runs.fieldB 2 rfl rfl Tryz.underlying70 rfl (by kernel_rfl)) rfl rfl rfl ?_
  refine Seq.store1 rfl rfl rfl (by kernel_rfl) rfl rfl k0 rfl rfl rfl ?_
  intro w8 pw8
  replace mf := mf.put k0 pw8 e0
  replace gv := gv.put k0 pw8 e0
  replace dk := dk.put k0 pw8 e0
  replace k4 := k4.put pw8 (by omega)
  replace k9 := k9.put pw8 (by omega)
  replace k5 := k5.put pw8 (by omega)
  replace k0 := pw8.blk
  refine Seq.nil ?_
  refine Post.weak (F' := [(0, _), (1, _), (2, _), (4, _), (5, _), (6, _), (8, _), (9, _), (11, _), (12, _), (23, _), (37, _), (45, _), (50, _), (55, _)]) ⟨rfl, rfl, rfl, rfl, rfl, rfl, rfl, rfl, rfl, rfl, rfl, rfl, rfl, rfl, rfl, trivial⟩ ?_
  refine Post.then_ ?_
  refine Cd.seq ?_
  refine Cd.region ?_
  refine Seq.val (Runs.move rfl rfl) rfl rfl rfl ?_
  refine Seq.val (Runs.assign rfl rfl) rfl rfl rfl ?_
  refine Seq.nil ?_
  refine Post.weak (F' := [(0, _), (1, _), (2, _), (4, _), (5, _), (6, _), (8, _), (9, _), (11, _), (12, _), (23, _), (37, _), (45, _), (50, _), (55, _)]) ⟨rfl, rfl, rfl, rfl, rfl, rfl, rfl, rfl, rfl, rfl, rfl, rfl, rfl, rfl, rfl, trivial⟩ ?_
  refine Post.then_ ?_
  refine Cd.ret ?_
  refine Post.end1 rfl rfl (.inl rfl) ?_
  exact ⟨rfl, g9, k0, k9, e9, dk, mf⟩
end Go.Proofs.YtdpipgidpkmolaaGreatDoor

namespace Go.Proofs.YtdpipgidpkmolaaGreatDoor
open Go.RowKit

theorem run_build_man (gd : Nat) (w : World) : (Instr.build 70 #[(0, .pointer (some ⟨gd, 0, none⟩))]).run Tryz.prog w = .ok (.agg #[.pointer (some ⟨gd, 0, none⟩), .int .i64 0, .pointer none, .int .i64 0, .int .i64 0, .int .i64 0, .slice none 0 0, .int .i64 0, .bool false]) w := by
  have hu := Tryz.underlying70
  go_simp
theorem run_build_ed3 (a b c : Int) (w : World) : (Instr.build 47 #[(0, .int .i64 a), (1, .int .i64 b), (2, .int .i64 c)]).run Tryz.prog w = .ok (.agg #[.int .i64 a, .int .i64 b, .int .i64 c, .slice none 0 0, .slice none 0 0]) w := by
  have hu := Tryz.underlying47
  go_simp
set_option maxHeartbeats 4000000 in
theorem open_new (B gd : Nat) (D D1 D2 : Dk) (W1 : Wl) (w : World) (gv : Gv w) (hgB : max 2 1 < B) (dk : DkAt w B gd D) (h0 : D.files.length = 0) (hno : NoNum B gd D [109, 97, 97]) (hoff : D.off = false) (hrd : D.readE curN = 7) (hA : appW ⟨0, 0, 0, false⟩ D [109, 97, 97] (encB (-1) 1 (-1) [] []) = (W1, D1, 0)) (hp : pointW D1 0 = (D2, 0)) :
    Calls Tryz.prog 8 #[.pointer (some ⟨gd, 0, none⟩)] w fun e w' => ∃ gm gl, e = .returned (.tuple #[.pointer (some ⟨gm, 0, none⟩), .int .i64 0]) ∧ Blk w' gm 70 #[.pointer (some ⟨gd, 0, none⟩), .int .i64 0, .pointer (some ⟨gl, 0, none⟩), .int .i64 0, .int .i64 1, .int .i64 0, .slice none 0 0, .int .i64 1, .bool false] ∧ Blk w' gl 111 (W1.cs gd [109, 97, 97]) ∧ B ≤ gm ∧ B ≤ gl ∧ DkAt w' B gd D2 ∧ Mf B w w' := by
  have mf := Mf.refl B w
  have hBw := dk.size
  refine Calls.start 82 Tryz.func8 rfl rfl rfl ?_
  refine Cd.seq ?_
  refine Cd.region ?_
  refine Seq.val (Runs.assign rfl rfl) rfl rfl rfl ?_
  refine Seq.val (Runs.assign rfl rfl) rfl rfl rfl ?_
  refine Seq.nil ?_
  refine Post.weak (F' := [(0, _), (2, _), (3, _)]) ⟨rfl, rfl, rfl, trivial⟩ ?_
  refine Post.then_ ?_
  refine Cd.seq ?_
  refine Cd.seq ?_
  refine Cd.region ?_
  refine Seq.val (Runs.move rfl rfl) rfl rfl rfl ?_
  refine Seq.val (Runs.eqlP rfl rfl rfl Tryz.underlying26) rfl rfl rfl ?_
  refine Seq.nil ?_
  refine Post.weak (F' := [(0, _), (2, _), (3, _), (15, _)]) ⟨rfl, rfl, rfl, rfl, trivial⟩ ?_
  refine Post.then_ ?_
  refine Cd.condF rfl rfl ?_
  refine Cd.skip ?_
  refine Post.then_ ?_
  refine Cd.seq ?_
  refine Cd.region ?_
  refine Seq.val (Runs.move rfl rfl) rfl rfl rfl ?_
  refine Seq.call (Enters.func rfl rfl rfl (run_enter Tryz.func21 (by kernel_rfl) rfl)) rfl rfl rfl (read_d_any B gd D curN _ dk (by decide)) ?_
  rw [hrd]
  rintro e w6 ⟨rfl, hb6⟩
  refine ⟨_, rfl, ?_⟩
  replace mf := mf.step hb6
  replace gv := gv.step hb6
  replace dk := dk.step hb6
  refine Seq.val (Runs.move rfl rfl) rfl rfl rfl ?_
  refine Seq.val (Runs.extract rfl rfl rfl) rfl rfl rfl ?_
  refine Seq.val (Runs.extract rfl rfl rfl) rfl rfl rfl ?_
  refine Seq.val (Runs.assign rfl rfl) rfl rfl rfl ?_
  refine Seq.val (Runs.assign rfl rfl) rfl rfl rfl ?_
  refine Seq.nil ?_
  refine Post.weak (F' := [(0, _), (2, _), (3, _), (4, _), (5, _), (15, _)]) ⟨rfl, rfl, rfl, rfl, rfl, rfl, trivial⟩ ?_
  refine Post.then_ ?_
  refine Cd.seq ?_
  refine Cd.region ?_
  refine Seq.val (Runs.move rfl rfl) rfl rfl rfl ?_
  refine Seq.val (Runs.build rfl rfl (run_build_man gd _)) rfl rfl rfl ?_
  refine Seq.box rfl rfl rfl rfl rfl ?_
  intro g23 w1 n23
  replace mf := mf.step n23.below
  replace gv := gv.step n23.below
  replace dk := dk.step n23.below
  have k23 := n23.blk
  refine Seq.val (Runs.assign rfl rfl) rfl rfl rfl ?_
  refine Seq.nil ?_
  refine Post.weak (F' := [(0, _), (2, _), (3, _), (4, _), (5, _), (6, _), (15, _)]) ⟨rfl, rfl, rfl, rfl, rfl, rfl, rfl, trivial⟩ ?_
  refine Post.then_ ?_
  refine Cd.seq ?_
  refine Cd.seq ?_
  refine Cd.region ?_
  refine Seq.val (Runs.move rfl rfl) rfl rfl rfl ?_
  refine Seq.val (Runs.eqlI rfl rfl rfl) rfl rfl rfl ?_
  refine Seq.nil ?_
  refine Post.weak (F' := [(0, _), (2, _), (3, _), (4, _), (5, _), (6, _), (15, _), (25, _)]) ⟨rfl, rfl, rfl, rfl, rfl, rfl, rfl, rfl, trivial⟩ ?_
  refine Post.then_ ?_
  refine Cd.condT rfl rfl ?_
  refine Cd.seq ?_
  refine Cd.seq ?_
  refine Cd.region ?_
  refine Seq.val (Runs.move rfl rfl) rfl rfl rfl ?_
  refine Seq.call (Enters.func rfl rfl rfl (run_enter Tryz.func22 (by kernel_rfl) rfl)) rfl rfl rfl (sweep_none B gd D _ _ dk h0) ?_
  rintro e w7 ⟨rfl, hb7⟩
  refine ⟨_, rfl, ?_⟩
  replace mf := mf.step hb7
  replace gv := gv.step hb7
  replace dk := dk.step hb7
  replace k23 := k23.step hb7
  refine Seq.val (Runs.move rfl rfl) rfl rfl rfl ?_
  refine Seq.val (Runs.extract rfl rfl rfl) rfl rfl rfl ?_
  refine Seq.val (Runs.extract rfl rfl rfl) rfl rfl rfl ?_
  refine Seq.val (Runs.assign rfl rfl) rfl rfl rfl ?_
  refine Seq.val (Runs.assign rfl rfl) rfl rfl rfl ?_
  refine Seq.nil ?_
  refine Post.weak (F' := [(0, _), (2, _), (3, _), (4, _), (5, _), (6, _), (8, _), (15, _), (25, _)]) ⟨rfl, rfl, rfl, rfl, rfl, rfl, rfl, rfl, rfl, trivial⟩ ?_
  refine Post.then_ ?_
  refine Cd.seq ?_
  refine Cd.region ?_
  refine Seq.val (Runs.move rfl rfl) rfl rfl rfl ?_
  refine Seq.val (Runs.neqI rfl rfl rfl) rfl rfl rfl ?_
  refine Seq.nil ?_
  refine Post.weak (F' := [(0, _), (2, _), (3, _), (4, _), (5, _), (6, _), (8, _), (15, _), (25, _), (32, _)]) ⟨rfl, rfl, rfl, rfl, rfl, rfl, rfl, rfl, rfl, rfl, trivial⟩ ?_
  refine Post.then_ ?_
  refine Cd.condF rfl rfl ?_
  refine Cd.skip ?_
  refine Post.then_ ?_
  refine Cd.seq ?_
  refine Cd.seq ?_
  refine Cd.region ?_
  refine Seq.val (Runs.move rfl rfl) rfl rfl rfl ?_
  refine Seq.val (Runs.build rfl rfl (run_build_ed3 (-1) 1 (-1) _)) rfl rfl rfl ?_
  have e23 : B ≤ g23 := Nat.le_trans (Nat.le_trans hBw hb6.size) n23.ge
  refine Seq.call (Enters.func rfl rfl rfl (run_enter Tryz.func25 (by kernel_rfl) rfl)) rfl rfl rfl (begin_new B g23 gd 0 D D1 D2 W1 [109, 97, 97] (-1) 1 (-1) _ _ _ _ _ _ _ _ _ gv hgB e23 k23 dk h0 hno hoff (by omega) rfl ⟨by omega, by omega⟩ ⟨by omega, by omega⟩ ⟨by omega, by omega⟩ (by decide) hA hp) ?_
  clear k23 dk
  rintro e w2 ⟨rfl, g9, k23, k9, e9, dk, fw2⟩
  refine ⟨_, rfl, ?_⟩
  replace mf := mf.mf fw2
  replace gv := gv.mf fw2
  have hne9 := k23.neT k9
  refine Seq.val (Runs.assign rfl rfl) rfl rfl rfl ?_
  refine Seq.nil ?_
  refine Post.weak (F' := [(0, _), (2, _), (3, _), (4, _), (5, _), (6, _), (8, _), (9, _), (15, _), (25, _), (32, _)]) ⟨rfl, rfl, rfl, rfl, rfl, rfl, rfl, rfl, rfl, rfl, rfl, trivial⟩ ?_
  refine Post.then_ ?_
  refine Cd.seq ?_
  refine Cd.region ?_
  refine Seq.val (Runs.move rfl rfl) rfl rfl rfl ?_
  refine Seq.val (Runs.neqI rfl rfl rfl) rfl rfl rfl ?_
  refine Seq.nil ?_
  refine Post.weak (F' := [(0, _), (2, _), (3, _), (4, _), (5, _), (6, _), (8, _), (9, _), (15, _), (25, _), (32, _), (38, _)]) ⟨rfl, rfl, rfl, rfl, rfl, rfl, rfl, rfl, rfl, rfl, rfl, rfl, trivial⟩ ?_
  refine Post.then_ ?_
  refine Cd.condF rfl rfl ?_
  refine Cd.skip ?_
  refine Post.then_ ?_
  refine Cd.seq ?_
  refine Cd.region ?_
  refine Seq.val (Runs.move rfl rfl) rfl rfl rfl ?_
  refine Seq.val (Runs.move rfl rfl) rfl rfl rfl ?_
  refine Seq.val (Runs.nilCheck rfl rfl) rfl rfl rfl ?_
  refine Seq.val (Runs.fieldB 3 rfl rfl Tryz.underlying70 rfl (by kernel_rfl)) rfl rfl rfl ?_
  refine Seq.val (Runs.fieldA 1 rfl rfl Tryz.underlying38 rfl (by kernel_rfl)) rfl rfl rfl ?_
  refine Seq.store1 rfl rfl rfl (by kernel_rfl) rfl rfl k23 rfl rfl rfl ?_
  intro wx px
  replace px : Put _ wx g23 70 _ := px
  replace mf := mf.put k23 px e23
  replace gv := gv.put k23 px e23
  replace dk := dk.put k23 px e23
  replace k9 := k9.put px (by omega)
  replace k23 := px.blk
  refine Seq.val (Runs.nilCheck rfl rfl) rfl rfl rfl ?_
  refine Seq.val (Runs.fieldB 7 rfl rfl Tryz.underlying70 rfl (by kernel_rfl)) rfl rfl rfl ?_
  refine Seq.store1 rfl rfl rfl (by kernel_rfl) rfl rfl k23 rfl rfl rfl ?_
  intro w3 pw3
  replace mf := mf.put k23 pw3 e23
  replace gv := gv.put k23 pw3 e23
  replace dk := dk.put k23 pw3 e23
  replace k9 := k9.put pw3 (by omega)
  replace k23 := pw3.blk
  refine Seq.nil ?_
  refine Post.weak (F' := [(0, _), (2, _), (3, _), (4, _), (5, _), (6, _), (8, _), (9, _), (15, _), (25, _), (32, _), (38, _)]) ⟨rfl, rfl, rfl, rfl, rfl, rfl, rfl, rfl, rfl, rfl, rfl, rfl, trivial⟩ ?_
  refine Post.then_ ?_
  refine Cd.seq ?_
  refine Cd.region ?_
  refine Seq.val (Runs.move rfl rfl) rfl rfl rfl ?_
  refine Seq.val (Runs.assign rfl rfl) rfl rfl rfl ?_
  refine Seq.val (Runs.assign rfl rfl) rfl rfl rfl ?_
  refine Seq.nil ?_
  refine Post.weak (F' := [(0, _), (2, _), (3, _), (4, _), (5, _), (6, _), (8, _), (9, _), (15, _), (25, _), (32, _), (38, _)]) ⟨rfl, rfl, rfl, rfl, rfl, rfl, rfl, rfl, rfl, rfl, rfl, rfl, trivial⟩ ?_
  refine Post.then_ ?_
  refine Cd.ret ?_
  refine Post.then_ret ?_
  refine Post.end2 rfl rfl rfl (.inl rfl) ?_
  exact ⟨g23, g9, rfl, k23, k9, e23, e9, dk, mf⟩
theorem zero_edit_Version : zeroIs Tryz.prog 38 = some (some (.agg #[.int .i64 0, .int .i64 0, .int .i64 0, .slice none 0 0])) := by kernel_rfl
theorem run_build_ver0 (w : World) : (Instr.build 38 #[]).run Tryz.prog w = .ok (.agg #[.int .i64 0, .int .i64 0, .int .i64 0, .slice none 0 0]) w := by kernel_rfl
theorem Blk.sub {w : World} {g off : Nat} {T : TypeId} {cs : Array Value} {ps : List Value} (k : Blk w g T cs) (h : ∀ j v, ps[j]? = some v → cs[off + j]? = some v) : ∀ (j : Nat) (v : Value), ps[j]? = some v → w.cell? ((⟨g, off, none⟩ : Addr).add j) = some v := fun j v hj => by
  have e : (⟨g, off, none⟩ : Addr).add j = ⟨g, off + j, none⟩ := by unfold Addr.add; split <;> simp_all
  rw [e, cell_of_row _ _ _ _ _ _ k]
  exact h j v hj
theorem sub_four {a0 a1 a2 b0 b1 b2 b3 c0 c1 : Value} : ∀ (j : Nat) (v : Value), [b0, b1, b2, b3][j]? = some v → #[a0, a1, a2, b0, b1, b2, b3, c0, c1][3 + j]? = some v
  | 0, _, h => h
  | 1, _, h => h
  | 2, _, h => h
  | 3, _, h => h
  | j + 4, _, h => by simp at h
theorem version_none (w : World) : Calls Tryz.prog 10 #[.pointer none] w fun e w' => e = .returned (.agg #[.int .i64 0, .int .i64 0, .int .i64 0, .slice none 0 0]) ∧ Grow w w' := by
  have bel := Below.refl w.heap.size w
  refine Calls.start 21 Tryz.func10 rfl rfl rfl ?_
  refine Cd.seq ?_
  refine Cd.region ?_
  refine Seq.alloc rfl (run_zero zero_edit_Version) rfl rfl rfl ?_
  intro g2 w1 n2
  have e2 := Nat.le_trans bel.size n2.ge
  replace bel := bel.step n2.below
  have k2 := n2.blk
  refine Seq.nil ?_
  refine Post.weak (F' := [(0, _), (2, _)]) ⟨rfl, rfl, trivial⟩ ?_
  refine Post.then_ ?_
  refine Cd.seq ?_
  refine Cd.seq ?_
  refine Cd.region ?_
  refine Seq.val (Runs.move rfl rfl) rfl rfl rfl ?_
  refine Seq.val (Runs.eqlP rfl rfl rfl Tryz.underlying28) rfl rfl rfl ?_
  refine Seq.nil ?_
  refine Post.weak (F' := [(0, _), (2, _), (5, _)]) ⟨rfl, rfl, rfl, trivial⟩ ?_
  refine Post.then_ ?_
  refine Cd.condT rfl rfl ?_
  refine Cd.seq ?_
  refine Cd.region ?_
  refine Seq.val (Runs.build rfl rfl (run_build_ver0 _)) rfl rfl rfl ?_
  refine Seq.storeN rfl rfl rfl rfl (m := 4) (by kernel_rfl) rfl (by repeat' first | exact trivial | apply And.intro | rfl | assumption) k2 (by simp [Value.cells]) rfl rfl ?_
  intro w2 pw2
  replace bel := bel.put k2 pw2 e2
  replace k2 := pw2.blk
  refine Seq.nil ?_
  refine Post.weak (F' := [(0, _), (2, _), (5, _)]) ⟨rfl, rfl, rfl, trivial⟩ ?_
  refine Post.then_ ?_
  refine Cd.ret ?_
  refine Post.then_ret ?_
  refine Post.endC rfl rfl k2 Tryz.underlying38 rfl (m := 4) (by kernel_rfl) rfl (.inl rfl) ?_
  exact ⟨rfl, bel⟩
theorem version_new (gm : Nat) (p c1 c2 c8 : Value) (lg nx sq next : Int) (w : World) (k0 : Blk w gm 70 #[p, c1, c2, .int .i64 lg, .int .i64 nx, .int .i64 sq, .slice none 0 0, .int .i64 next, c8]) : Calls Tryz.prog 10 #[.pointer (some ⟨gm, 0, none⟩)] w fun e w' => e = .returned (.agg #[.int .i64 lg, .int .i64 next, .int .i64 sq, .slice none 0 0]) ∧ Grow w w' := by
  have bel := Below.refl w.heap.size w
  refine Calls.start 21 Tryz.func10 rfl rfl rfl ?_
  refine Cd.seq ?_
  refine Cd.region ?_
  refine Seq.alloc rfl (run_zero zero_edit_Version) rfl rfl rfl ?_
  intro g2 w1 n2
  have e2 := Nat.le_trans bel.size n2.ge
  have l2 := Nat.lt_of_lt_of_le k0.lt n2.ge
  replace bel := bel.step n2.below
  replace k0 := k0.step n2.below
  have k2 := n2.blk
  refine Seq.nil ?_
  refine Post.weak (F' := [(0, _), (2, _)]) ⟨rfl, rfl, trivial⟩ ?_
  refine Post.then_ ?_
  refine Cd.seq ?_
  refine Cd.seq ?_
  refine Cd.region ?_
  refine Seq.val (Runs.move rfl rfl) rfl rfl rfl ?_
  refine Seq.val (Runs.eqlP rfl rfl rfl Tryz.underlying28) rfl rfl rfl ?_
  refine Seq.nil ?_
  refine Post.weak (F' := [(0, _), (2, _), (5, _)]) ⟨rfl, rfl, rfl, trivial⟩ ?_
  refine Post.then_ ?_
  refine Cd.condF rfl rfl ?_
  refine Cd.skip ?_
  refine Post.then_ ?_
  refine Cd.seq ?_
  refine Cd.region ?_
  refine Seq.val (Runs.move rfl rfl) rfl rfl rfl ?_
  refine Seq.val (Runs.nilCheck rfl rfl) rfl rfl rfl ?_
  refine Seq.val (Runs.fieldB 3 rfl rfl Tryz.underlying70 rfl (by kernel_rfl)) rfl rfl rfl ?_
  refine Seq.val (Runs.loadF (ps := [.int .i64 lg, .int .i64 nx, .int .i64 sq, .slice none 0 0]) rfl rfl Tryz.underlying38 rfl (m := 4) (by kernel_rfl) rfl (k0.sub sub_four)) rfl rfl rfl ?_
  refine Seq.alloc rfl (run_zero zero_edit_Version) rfl rfl rfl ?_
  intro g3 w2 n3
  have e3 := Nat.le_trans bel.size n3.ge
  have l3 := Nat.lt_of_lt_of_le k2.lt n3.ge
  replace bel := bel.step n3.below
  replace k0 := k0.step n3.below
  replace k2 := k2.step n3.below
  have k3 := n3.blk
  refine Seq.storeN rfl rfl rfl rfl (m := 4) (by kernel_rfl) rfl (by repeat' first | exact trivial | apply And.intro | rfl | assumption) k3 (by simp [Value.cells]) rfl rfl ?_
  intro w3 pw3
  replace bel := bel.put k3 pw3 e3
  replace k0 := k0.put pw3 (by omega)
  replace k2 := k2.put pw3 (by omega)
  replace k3 := pw3.blk
  refine Seq.nil ?_
  refine Post.weak (F' := [(0, _), (2, _), (3, _), (5, _)]) ⟨rfl, rfl, rfl, rfl, trivial⟩ ?_
  refine Post.then_ ?_
  refine Cd.seq ?_
  refine Cd.region ?_
  refine Seq.val (Runs.move rfl rfl) rfl rfl rfl ?_
  refine Seq.val (Runs.nilCheck rfl rfl) rfl rfl rfl ?_
  refine Seq.val (Runs.fieldB 7 rfl rfl Tryz.underlying70 rfl (by kernel_rfl)) rfl rfl rfl ?_
  refine Seq.val (Runs.loadB rfl rfl Tryz.underlying3 rfl k0 rfl) rfl rfl rfl ?_
  refine Seq.val (Runs.fieldB 1 rfl rfl Tryz.underlying38 rfl (by kernel_rfl)) rfl rfl rfl ?_
  refine Seq.store1 rfl rfl rfl (by kernel_rfl) rfl rfl k3 rfl rfl rfl ?_
  intro w4 pw4
  replace bel := bel.put k3 pw4 e3
  replace k0 := k0.put pw4 (by omega)
  replace k2 := k2.put pw4 (by omega)
  replace k3 := pw4.blk
  refine Seq.nil ?_
  refine Post.weak (F' := [(0, _), (2, _), (3, _), (5, _)]) ⟨rfl, rfl, rfl, rfl, trivial⟩ ?_
  refine Post.then_ ?_
  refine Cd.seq ?_
  refine Cd.region ?_
  refine Seq.val (Runs.fieldB 3 rfl rfl Tryz.underlying38 rfl (by kernel_rfl)) rfl rfl rfl ?_
  refine Seq.val (Runs.loadB rfl rfl Tryz.underlying36 rfl k3 rfl) rfl rfl rfl ?_
  refine Seq.call (Enters.func rfl rfl rfl (run_enter Tryz.func30 (by kernel_rfl) rfl)) rfl rfl rfl (clone_nil _) ?_
  rintro e w7 ⟨rfl, hb7⟩
  refine ⟨_, rfl, ?_⟩
  replace bel := bel.step hb7
  replace k0 := k0.step hb7
  replace k2 := k2.step hb7
  replace k3 := k3.step hb7
  refine Seq.val (Runs.fieldB 3 rfl rfl Tryz.underlying38 rfl (by kernel_rfl)) rfl rfl rfl ?_
  refine Seq.store1 rfl rfl rfl (by kernel_rfl) rfl rfl k3 rfl rfl rfl ?_
  intro w5 pw5
  replace bel := bel.put k3 pw5 e3
  replace k0 := k0.put pw5 (by omega)
  replace k2 := k2.put pw5 (by omega)
  replace k3 := pw5.blk
  refine Seq.nil ?_
  refine Post.weak (F' := [(0, _), (2, _), (3, _), (5, _)]) ⟨rfl, rfl, rfl, rfl, trivial⟩ ?_
  refine Post.then_ ?_
  refine Cd.seq ?_
  refine Cd.region ?_
  refine Seq.val (Runs.loadW rfl rfl Tryz.underlying38 rfl k3 (m := 4) (by kernel_rfl) rfl) rfl rfl rfl ?_
  refine Seq.storeN rfl rfl rfl rfl (m := 4) (by kernel_rfl) rfl (by repeat' first | exact trivial | apply And.intro | rfl | assumption) k2 (by simp [Value.cells]) rfl rfl ?_
  intro w6 pw6
  replace bel := bel.put k2 pw6 e2
  replace k0 := k0.put pw6 (by omega)
  replace k3 := k3.put pw6 (by omega)
  replace k2 := pw6.blk
  refine Seq.nil ?_
  refine Post.weak (F' := [(0, _), (2, _), (3, _), (5, _)]) ⟨rfl, rfl, rfl, rfl, trivial⟩ ?_
  refine Post.then_ ?_
  refine Cd.ret ?_
  refine Post.endC rfl rfl k2 Tryz.underlying38 rfl (m := 4) (by kernel_rfl) rfl (.inl rfl) ?_
  exact ⟨rfl, bel⟩
end Go.Proofs.YtdpipgidpkmolaaGreatDoor

namespace Go.Proofs.YtdpipgidpkmolaaGreatDoor
open Go.RowKit

/-- Segments with lower numbers go. -/
def retGo (nm : List Nat) (lim : Int) : List Nat → Dk → Dk × Int
  | [], D => (D, 0)
  | n :: r, D =>
    if lim ≤ (n : Int) then (D, 0)
    else if D.dropE (fileN nm n ackK) ≠ 0 then (D.delete (fileN nm n ackK), D.dropE (fileN nm n ackK))
    else if (D.delete (fileN nm n ackK)).dropE (fileN nm n logK) ≠ 0 then ((D.delete (fileN nm n ackK)).delete (fileN nm n logK), (D.delete (fileN nm n ackK)).dropE (fileN nm n logK))
    else retGo nm lim r ((D.delete (fileN nm n ackK)).delete (fileN nm n logK))
noncomputable def retW (W : Wl) (D : Dk) (nm : List Nat) (below : Int) : Wl × Dk × Int :=
  if W.broken = true then (W, D, 6)
  else if (retGo nm (min below (W.num : Int)) (numsL nm (D.files.map (·.1))) D).2 ≠ 0 then ({ W with broken := true }, (retGo nm (min below (W.num : Int)) (numsL nm (D.files.map (·.1))) D).1, (retGo nm (min below (W.num : Int)) (numsL nm (D.files.map (·.1))) D).2)
  else (W, (retGo nm (min below (W.num : Int)) (numsL nm (D.files.map (·.1))) D).1, 0)
def kindR (j : Nat) : List Nat := if j = 0 then ackK else logK
/-- What is left to do of a segment, and behind. -/
def remR (nm : List Nat) (n : Nat) (lim : Int) (r : List Nat) : Nat → Dk → Dk × Int
  | 0, D => retGo nm lim r D
  | k + 1, D => if D.dropE (fileN nm n (kindR (1 - k))) ≠ 0 then (D.delete (fileN nm n (kindR (1 - k))), D.dropE (fileN nm n (kindR (1 - k)))) else remR nm n lim r k (D.delete (fileN nm n (kindR (1 - k))))
end Go.Proofs.YtdpipgidpkmolaaGreatDoor

namespace Go.Proofs.YtdpipgidpkmolaaGreatDoor
open Go.RowKit

/-- A record's value. -/
def recA (r : Nat × List Nat) : Value := .agg (recV r).toArray
section
variable {P : Program} {E : Operand → Option Value} {o : Oper} {w : World} {x : Operand} {T : TypeId}
end
end Go.Proofs.YtdpipgidpkmolaaGreatDoor

namespace Go.Proofs.YtdpipgidpkmolaaGreatDoor
open Go.RowKit

theorem WlIs.rotated {D : Dk} {nm : List Nat} {W : Wl} {segs : List (Nat × List (List Nat))} (h : WlIs D nm W segs) : WlIs D nm W.rotate segs := by
  unfold Wl.rotate
  split
  · rename_i hc
    refine ⟨h.log, h.broken, .inl ⟨rfl, rfl, fun s hs => ?_⟩⟩
    show s.1 < W.num + 1
    rcases h.at_ with ⟨h1, -, -⟩ | ⟨ini, l, h1, h2, h3⟩
    · omega
    · rw [h1] at hs
      rcases List.mem_append.1 hs with hs | hs
      · have := h.log.inc
        rw [h1, List.map_append, List.pairwise_append] at this
        have := this.2.2 s.1 (List.mem_map.2 ⟨s, hs, rfl⟩) W.num (by simp)
        omega
      · simp at hs; subst hs; omega
  · exact h
end Go.Proofs.YtdpipgidpkmolaaGreatDoor

namespace Go.Proofs.YtdpipgidpkmolaaGreatDoor
open Go.RowKit

theorem wipe_get (D : Dk) (x y : List Nat) : (D.wipe x).get y = if y = x then none else D.get y := by
  unfold Dk.get Dk.wipe
  show ((D.files.filter fun p => decide (p.1 ≠ x)).find? (fun p => decide (p.1 = y))).map (fun (p : List Nat × Fil) => p.2) = _
  rw [List.find?_filter]
  by_cases e : y = x
  · rw [if_pos e]
    have : D.files.find? (fun a => decide (decide (a.1 ≠ x) = true ∧ decide (a.1 = y) = true)) = none := by
      rw [List.find?_eq_none]
      intro p _
      simp
      intro h1 h2
      exact h1 (h2.trans e)
    rw [this]
    rfl
  · rw [if_neg e]
    congr 2
    funext p
    by_cases h : p.1 = y
    · simp [h, e]
    · simp [h]
theorem del_calm {D : Dk} {x : List Nat} (hc : D.calm) (hn : (D.files.map (·.1)).Nodup) (hx : nameOk x = true) :
    D.dropE x = 0 ∧ (D.delete x).calm ∧ ((D.delete x).files.map (·.1)).Nodup ∧ (D.delete x).room = D.room ∧ (D.delete x).used ≤ D.used ∧ (D.delete x).files.length ≤ D.files.length ∧ ∀ y, (D.delete x).get y = if y = x then none else D.get y := by
  have hE := thereE_calm hc (ns := [x]) (by simpa using hx) x
  have ht := tick_calm hc
  unfold Dk.dropE Dk.delete
  by_cases h : (D.get x).isSome = true
  · rw [if_pos h] at hE
    rw [hE, if_neg (by decide), if_pos rfl, ht]
    have hu := wipe_used (nm := x) hn
    exact ⟨rfl, ⟨hc.off, hc.armed⟩, hn.sublist (List.Sublist.map _ List.filter_sublist), rfl, by omega, List.length_filter_le _ _, wipe_get D x⟩
  · rw [if_neg h] at hE
    rw [hE, if_pos rfl, if_neg (by decide), ht]
    refine ⟨rfl, hc, hn, rfl, Int.le_refl _, Nat.le_refl _, fun y => ?_⟩
    by_cases e : y = x
    · subst e
      rw [if_pos rfl]
      simpa using h
    · rw [if_neg e]
/-- A log within bounds, some acts behind its beginning. -/
structure PlIs (D : Dk) (W : Wl) (segs : List (Nat × List (List Nat))) (k : Nat) : Prop where
  wl : WlIs D [119] W segs
  room : D.room = 1048576
  files : D.files.length ≤ 2 * k
  used : D.used ≤ 336 * (k : Int)
  num : W.num ≤ 900 + k
  cnt : W.count ≤ k
  size : W.size ≤ 312 * k
  recs : (recsOf segs).length ≤ k
section
variable {D : Dk} {W : Wl} {segs : List (Nat × List (List Nat))} {k : Nat}
theorem PlIs.le_num (h : PlIs D W segs k) : ∀ s ∈ segs, s.1 ≤ W.num := by
  obtain ⟨ini, l, h1, h2, -, -⟩ := h.wl.last
  intro s hs
  split at h1
  · rw [h1.1] at hs
    exact Nat.le_of_lt (h2 s hs)
  · rw [h1] at hs
    rcases List.mem_append.1 hs with hs | hs
    · exact Nat.le_of_lt (h2 s hs)
    · simp at hs; subst hs; exact Nat.le_refl _
theorem PlIs.append (h : PlIs D W segs k) (hk : k ≤ 30) {data : List Nat} (hd : Byt data) (hdl : data.length ≤ 300) :
    ∃ D' segs', appW W D [119] data = (⟨W.num, W.count + 1, W.size + (data.length + 12), false⟩, D', 0) ∧ PlIs D' ⟨W.num, W.count + 1, W.size + (data.length + 12), false⟩ segs' (k + 1) ∧ recsOf segs' = recsOf segs ++ [(W.num, data)] := by
  have h1 := h.room
  have h2 := h.files
  have h3 := h.used
  have h4 := h.num
  have h5 := h.cnt
  have h6 := h.size
  have h7 := h.recs
  obtain ⟨D', segs', a1, a2, a3, a4, a5, a6⟩ := h.wl.append (by decide) hd (by omega) (by omega) (by omega) (by omega) (by omega) (by omega)
  refine ⟨D', segs', a1, ⟨a2, by rw [a4, h1], by omega, by rw [a5]; omega, by show W.num ≤ _; omega, by show W.count + 1 ≤ _; omega, by show W.size + (data.length + 12) ≤ _; omega, ?_⟩, a3⟩
  rw [a3, List.length_append, List.length_singleton]
  omega
theorem PlIs.rotate (h : PlIs D W segs k) : PlIs D W.rotate segs (k + 1) := by
  have h2 := h.files
  have h3 := h.used
  have h4 := h.num
  have h5 := h.cnt
  have h6 := h.size
  have h7 := h.recs
  refine ⟨h.wl.rotated, h.room, by omega, by omega, ?_, ?_, ?_, by omega⟩
  all_goals
    unfold Wl.rotate
    split
    · simp only; omega
    · omega
theorem PlIs.least (h : PlIs D W segs k) {n : Int} (hn : n < 900) : PlIs D (W.least n) segs (k + 1) := by
  have h2 := h.files
  have h3 := h.used
  have h4 := h.num
  have h5 := h.cnt
  have h6 := h.size
  have h7 := h.recs
  have h8 := h.le_num
  refine ⟨?_, h.room, by omega, by omega, ?_, ?_, ?_, by omega⟩
  · unfold Wl.least
    split
    · refine ⟨h.wl.log, h.wl.broken, .inl ⟨rfl, rfl, fun s hs => ?_⟩⟩
      have := h8 s hs
      show s.1 < n.toNat
      omega
    · exact h.wl
  all_goals
    unfold Wl.least
    split
    · simp only; omega
    · omega
end
end Go.Proofs.YtdpipgidpkmolaaGreatDoor

namespace Go.Proofs.YtdpipgidpkmolaaGreatDoor
open Go.RowKit

theorem xor_lc (a b c : Nat) : a ^^^ (b ^^^ c) = b ^^^ (a ^^^ c) := by rw [← Nat.xor_assoc, Nat.xor_comm a b, Nat.xor_assoc]
/-- One bit more falls out. -/
def fS (r : Nat) : Nat := r / 2 ^^^ (if r % 2 = 1 then 2197175160 else 0)
def itS : Nat → Nat → Nat
  | 0, r => r
  | n + 1, r => itS n (fS r)
theorem fS_xor (a b : Nat) : fS (a ^^^ b) = fS a ^^^ fS b := by
  have h1 : (a ^^^ b) / 2 = a / 2 ^^^ b / 2 := Nat.xor_div_two
  have h2 : (a ^^^ b) % 2 = 1 ↔ ¬ (a % 2 = 1 ↔ b % 2 = 1) := Nat.xor_mod_two_eq_one
  unfold fS
  rw [h1]
  by_cases ha : a % 2 = 1
  · by_cases hb : b % 2 = 1
    · rw [if_neg (by rw [h2]; simp [ha, hb]), if_pos ha, if_pos hb]
      simp [Nat.xor_assoc, Nat.xor_comm, xor_lc]
    · rw [if_pos (by rw [h2]; simp [ha, hb]), if_pos ha, if_neg hb]
      simp [Nat.xor_assoc, Nat.xor_comm, xor_lc]
  · by_cases hb : b % 2 = 1
    · rw [if_pos (by rw [h2]; simp [ha, hb]), if_neg ha, if_pos hb]
      simp [Nat.xor_assoc]
    · rw [if_neg (by rw [h2]; simp [ha, hb]), if_neg ha, if_neg hb]
      simp
theorem fS_two (y : Nat) : fS (2 * y) = y := by
  unfold fS
  rw [if_neg (by omega), Nat.xor_zero]
  omega
theorem fS_lt {r : Nat} (h : r < 4294967296) : fS r < 4294967296 := by
  unfold fS
  refine Nat.xor_lt_two_pow (n := 32) (by omega) ?_
  split <;> decide
theorem fS_zero {r : Nat} (h : r < 4294967296) (h0 : fS r = 0) : r = 0 := by
  unfold fS at h0
  by_cases h1 : r % 2 = 1
  · rw [if_pos h1] at h0
    have : r / 2 = 2197175160 := by
      have := congrArg (fun z => z ^^^ 2197175160) h0
      simpa [Nat.xor_assoc] using this
    omega
  · rw [if_neg h1, Nat.xor_zero] at h0
    omega
theorem itS_xor : ∀ (n a b : Nat), itS n (a ^^^ b) = itS n a ^^^ itS n b
  | 0, _, _ => rfl
  | n + 1, a, b => by rw [itS, fS_xor, itS_xor]; rfl
theorem itS_add : ∀ (m n r : Nat), itS (m + n) r = itS n (itS m r)
  | 0, n, r => by rw [Nat.zero_add]; rfl
  | m + 1, n, r => by rw [Nat.succ_add, itS, itS_add m n]; rfl
theorem itS_pow : ∀ (n y : Nat), itS n (2 ^ n * y) = y
  | 0, y => by simp [itS]
  | n + 1, y => by rw [itS, Nat.pow_succ, Nat.mul_comm (2 ^ n) 2, Nat.mul_assoc, fS_two, itS_pow]
theorem itS_zero {n : Nat} : ∀ {r : Nat}, r < 4294967296 → itS n r = 0 → r = 0 := by
  induction n with
  | zero => intro r _ h; exact h
  | succ n ih => intro r h h0; exact fS_zero h (ih (fS_lt h) h0)
theorem xor_split {i a b : Nat} (h : b < 2 ^ i) : 2 ^ i * a + b = (2 ^ i * a) ^^^ b := by
  apply Nat.eq_of_testBit_eq
  intro j
  rw [Nat.testBit_two_pow_mul_add a h j, Nat.testBit_xor, Nat.testBit_two_pow_mul]
  by_cases hj : j < i
  · rw [if_pos hj, decide_eq_false (show ¬ j ≥ i by omega)]
    simp
  · rw [if_neg hj, decide_eq_true (show j ≥ i by omega)]
    have : b.testBit j = false := Nat.testBit_lt_two_pow (Nat.lt_of_lt_of_le h (Nat.pow_le_pow_right (by decide) (by omega)))
    rw [this]
    simp
theorem stepN_it (r : Nat) : stepN r = itS 4 r := by
  have h : r = (2 ^ 4 * (r / 16)) ^^^ (r % 16) := by
    rw [← xor_split (show r % 16 < 2 ^ 4 by have := Nat.mod_lt r (show 16 > 0 by decide); simpa using this)]
    have := Nat.div_add_mod r 16
    simpa using this.symm
  have hT : ∀ n, n < 16 → itS 4 n = nibs.getD n 0 := by decide
  unfold stepN
  conv => rhs; rw [h, itS_xor, itS_pow, hT _ (Nat.mod_lt _ (by decide))]
theorem crcB_it (r b : Nat) : crcB r b = itS 8 (r ^^^ b) := by
  unfold crcB
  rw [stepN_it, stepN_it, ← itS_add]
/-- Bytes as a number, the lowest first. -/
def valL : List Nat → Nat
  | [] => 0
  | c :: s => c + 256 * valL s
theorem valL_cons {c : Nat} (s : List Nat) (h : c < 256) : valL (c :: s) = (2 ^ 8 * valL s) ^^^ c := by
  rw [← xor_split (show c < 2 ^ 8 by simpa using h), valL]
  omega
theorem valL_inj : ∀ {s t : List Nat}, Byt s → Byt t → s.length = t.length → valL s = valL t → s = t
  | [], [], _, _, _, _ => rfl
  | [], _ :: _, _, _, h, _ => by simp at h
  | _ :: _, [], _, _, h, _ => by simp at h
  | c :: s, d :: t, hs, ht, hl, hv => by
    have hc := hs c List.mem_cons_self
    have hd := ht d List.mem_cons_self
    simp only [valL] at hv
    have e : c = d := by omega
    subst e
    rw [valL_inj hs.tail ht.tail (by simpa using hl) (by omega)]
theorem valL_take : ∀ (k : Nat) {s : List Nat}, Byt s → valL (s.take k) = valL s % 2 ^ (8 * k)
  | 0, s, _ => by simp [valL, Nat.mod_one]
  | k + 1, [], _ => by simp [valL]
  | k + 1, c :: s, h => by
    have ih := valL_take k h.tail
    have hc := h c List.mem_cons_self
    rw [List.take_succ_cons, valL, ih, valL, Nat.mul_add, Nat.pow_add, Nat.mul_comm (2 ^ (8 * k))]
    have e : (2 : Nat) ^ (8 * 1) = 256 := by decide
    rw [e, Nat.mod_mul]
    have h1 : (c + 256 * valL s) % 256 = c := by omega
    have h2 : (c + 256 * valL s) / 256 = valL s := by omega
    rw [h1, h2]
theorem valL_drop : ∀ (k : Nat) {s : List Nat}, Byt s → valL (s.drop k) = valL s / 2 ^ (8 * k)
  | 0, s, _ => by simp
  | k + 1, [], _ => by simp [valL]
  | k + 1, c :: s, h => by
    have ih := valL_drop k h.tail
    have hc := h c List.mem_cons_self
    rw [List.drop_succ_cons, ih, valL, Nat.mul_add, Nat.pow_add, Nat.mul_comm (2 ^ (8 * k)), ← Nat.div_div_eq_div_mul]
    have e : (2 : Nat) ^ (8 * 1) = 256 := by decide
    rw [e]
    congr 1
    omega
theorem regN_it : ∀ (s : List Nat) (r : Nat), Byt s → regN r s = itS (8 * s.length) (r ^^^ valL s)
  | [], r, _ => by simp [regN, itS, valL]
  | c :: s, r, h => by
    have hc := h c List.mem_cons_self
    have e : regN r (c :: s) = regN (crcB r c) s := rfl
    rw [e, regN_it s _ h.tail, crcB_it, valL_cons s hc, List.length_cons, Nat.mul_add, Nat.add_comm (8 * s.length), itS_add]
    congr 1
    have h2 : r ^^^ (2 ^ 8 * valL s ^^^ c) = (r ^^^ c) ^^^ (2 ^ 8 * valL s) := by rw [Nat.xor_comm (2 ^ 8 * valL s), Nat.xor_assoc]
    rw [h2]
    show itS 8 (r ^^^ c) ^^^ valL s = itS 8 ((r ^^^ c) ^^^ (2 ^ 8 * valL s))
    rw [itS_xor 8 (r ^^^ c), itS_pow]
theorem neg_xor {r : Nat} (h : r < 4294967296) : 4294967295 - r = 4294967295 ^^^ r := by
  have h1 : (4294967295 ^^^ r) = 2 ^ 32 - (r + 1) := by
    apply Nat.eq_of_testBit_eq
    intro j
    rw [Nat.testBit_xor, Nat.testBit_two_pow_sub_succ (by simpa using h)]
    have : (4294967295 : Nat).testBit j = decide (j < 32) := by
      have := Nat.testBit_two_pow_sub_one 32 j
      simpa using this
    rw [this]
    by_cases hj : j < 32
    · simp [hj]
    · have : r.testBit j = false := Nat.testBit_lt_two_pow (Nat.lt_of_lt_of_le h (by rw [show (4294967296 : Nat) = 2 ^ 32 by decide]; exact Nat.pow_le_pow_right (by decide) (by omega)))
      simp [hj, this]
  rw [h1]
  omega
theorem valL_laid {x : List Nat} (hx : Byt x) : valL (laidC x) = 4294967295 ^^^ itS (8 * x.length) (4294967295 ^^^ valL x) := by
  have h1 := moreN_lt hx
  have h2 : valL (laidC x) = moreN 0 x := by
    unfold laidC
    simp only [valL]
    omega
  rw [h2]
  unfold moreN
  have h3 : regN 4294967295 x < 4294967296 := regN_lt (by decide) hx
  rw [Nat.sub_zero, neg_xor h3, regN_it x _ hx]
/-- Bits that lie within 32 places. -/
def BurstN (E : Nat) : Prop := ∃ p b, b < 4294967296 ∧ E = 2 ^ p * b
theorem BurstN.div {E : Nat} (h : BurstN E) (m : Nat) : BurstN (E / 2 ^ m) := by
  obtain ⟨p, b, hb, rfl⟩ := h
  by_cases hm : m ≤ p
  · refine ⟨p - m, b, hb, ?_⟩
    rw [show (2 : Nat) ^ p = 2 ^ m * 2 ^ (p - m) by rw [← Nat.pow_add]; congr 1; omega, Nat.mul_assoc, Nat.mul_div_cancel_left _ (Nat.two_pow_pos m)]
  · refine ⟨0, b / 2 ^ (m - p), Nat.lt_of_le_of_lt (Nat.div_le_self _ _) hb, ?_⟩
    rw [show (2 : Nat) ^ m = 2 ^ p * 2 ^ (m - p) by rw [← Nat.pow_add]; congr 1; omega, Nat.mul_div_mul_left _ _ (Nat.two_pow_pos p)]
    simp
theorem BurstN.mod {E : Nat} (h : BurstN E) (m : Nat) : BurstN (E % 2 ^ m) := by
  obtain ⟨p, b, hb, rfl⟩ := h
  by_cases hm : m ≤ p
  · refine ⟨0, 0, by decide, ?_⟩
    rw [show (2 : Nat) ^ p = 2 ^ m * 2 ^ (p - m) by rw [← Nat.pow_add]; congr 1; omega, Nat.mul_assoc, Nat.mul_mod_right]
  · refine ⟨p, b % 2 ^ (m - p), Nat.lt_of_le_of_lt (Nat.mod_le _ _) hb, ?_⟩
    rw [show (2 : Nat) ^ m = 2 ^ p * 2 ^ (m - p) by rw [← Nat.pow_add]; congr 1; omega, Nat.mul_mod_mul_left]
/-- Two lists of bytes that differ by a burst. -/
structure Burst (s t : List Nat) : Prop where
  len : s.length = t.length
  bs : Byt s
  bt : Byt t
  ex : BurstN (valL s ^^^ valL t)
theorem Burst.take {s t : List Nat} (h : Burst s t) (k : Nat) : Burst (s.take k) (t.take k) := by
  refine ⟨by rw [List.length_take, List.length_take, h.len], h.bs.take k, h.bt.take k, ?_⟩
  rw [valL_take k h.bs, valL_take k h.bt, ← Nat.xor_mod_two_pow]
  exact h.ex.mod _
theorem Burst.drop {s t : List Nat} (h : Burst s t) (k : Nat) : Burst (s.drop k) (t.drop k) := by
  refine ⟨by rw [List.length_drop, List.length_drop, h.len], h.bs.drop k, h.bt.drop k, ?_⟩
  rw [valL_drop k h.bs, valL_drop k h.bt, ← Nat.xor_div_two_pow]
  exact h.ex.div _
/-- Bytes with their own sum behind stay what they are, or their sum does not fit. -/
theorem Burst.valid {x y c d : List Nat} (h : Burst (x ++ c) (y ++ d)) (hl : x.length = y.length) (hc : laidC x = c) (hd : laidC y = d) : x ++ c = y ++ d := by
  have hcl : c.length = 4 := by rw [← hc]; exact laidC_len x
  have hdl : d.length = 4 := by rw [← hd]; exact laidC_len y
  have hx := h.bs.left
  have hy := h.bt.left
  have e1 : (x ++ c).take x.length = x := List.take_left
  have e2 : (x ++ c).drop x.length = c := List.drop_left
  have e3 : (y ++ d).take x.length = y := by rw [hl]; exact List.take_left
  have e4 : (y ++ d).drop x.length = d := by rw [hl]; exact List.drop_left
  obtain ⟨E, hE⟩ : ∃ E, E = valL (x ++ c) ^^^ valL (y ++ d) := ⟨_, rfl⟩
  have hX : valL x ^^^ valL y = E % 2 ^ (8 * x.length) := by
    have a := valL_take x.length h.bs
    have b := valL_take x.length h.bt
    rw [e1] at a
    rw [e3] at b
    rw [a, b, ← Nat.xor_mod_two_pow, hE]
  have hC : valL c ^^^ valL d = E / 2 ^ (8 * x.length) := by
    have a := valL_drop x.length h.bs
    have b := valL_drop x.length h.bt
    rw [e2] at a
    rw [e4] at b
    rw [a, b, ← Nat.xor_div_two_pow, hE]
  have hrel : valL c ^^^ valL d = itS (8 * x.length) (valL x ^^^ valL y) := by
    rw [← hc, ← hd, valL_laid hx, valL_laid hy, ← hl, itS_xor, itS_xor, itS_xor]
    generalize itS (8 * x.length) 4294967295 = M
    generalize itS (8 * x.length) (valL x) = a
    generalize itS (8 * x.length) (valL y) = b
    rw [show 4294967295 ^^^ (M ^^^ a) ^^^ (4294967295 ^^^ (M ^^^ b)) = (4294967295 ^^^ 4294967295) ^^^ ((M ^^^ M) ^^^ (a ^^^ b)) by ac_rfl, Nat.xor_self, Nat.xor_self, Nat.zero_xor, Nat.zero_xor]
  have h0 : itS (8 * x.length) E = 0 := by
    have hs : E = 2 ^ (8 * x.length) * (E / 2 ^ (8 * x.length)) ^^^ E % 2 ^ (8 * x.length) := by
      rw [← xor_split (Nat.mod_lt _ (Nat.two_pow_pos _))]
      exact (Nat.div_add_mod E _).symm
    rw [hs, itS_xor, itS_pow, ← hX, ← hC, hrel, Nat.xor_self]
  have hz : E = 0 := by
    obtain ⟨p, b, hb, he⟩ := h.ex
    rw [← hE] at he
    rw [he] at h0
    have hb0 : b = 0 := by
      by_cases hp : 8 * x.length ≤ p
      · rw [show (2 : Nat) ^ p = 2 ^ (8 * x.length) * 2 ^ (p - 8 * x.length) by rw [← Nat.pow_add]; congr 1; omega, Nat.mul_assoc, itS_pow] at h0
        rcases Nat.mul_eq_zero.1 h0 with h1 | h1
        · have := Nat.two_pow_pos (p - 8 * x.length); omega
        · exact h1
      · rw [show 8 * x.length = p + (8 * x.length - p) by omega, itS_add, itS_pow] at h0
        exact itS_zero hb h0
    rw [he, hb0, Nat.mul_zero]
  refine valL_inj h.bs h.bt h.len ?_
  have := congrArg (fun z => z ^^^ valL (y ++ d)) (hE.symm.trans hz)
  simpa [Nat.xor_assoc] using this
end Go.Proofs.YtdpipgidpkmolaaGreatDoor

namespace Go.Proofs.YtdpipgidpkmolaaGreatDoor
open Go.RowKit

/-- What is whole behind a burst is what it was. -/
theorem Burst.frame {d r t : List Nat} (h : Burst (frameN d ++ r) t) (hd : Byt d) (hdl : d.length ≤ 131072) (hw : (openN t).2.2 = 0) : t.take (d.length + 12) = frameN d := by
  have hfl := frameN_len d
  have htl : t.length = d.length + 12 + r.length := by rw [← h.len, List.length_append, hfl]
  obtain ⟨X, hX⟩ : ∃ X, X = beB 4 d.length := ⟨_, rfl⟩
  have hXl : X.length = 4 := by rw [hX, beB_len]
  have hf : frameN d ++ r = (X ++ laidC X) ++ ((d ++ laidC d) ++ r) := by unfold frameN; rw [← hX]; simp
  have hv : valB X = d.length := by rw [hX]; exact valB_be (by rw [show (256 : Nat) ^ 4 = 4294967296 by decide]; omega)
  unfold openN at hw
  split at hw
  · cases hw
  rename_i h1
  split at hw
  · cases hw
  rename_i h2
  split at hw
  · cases hw
  rename_i h3
  split at hw
  · cases hw
  rename_i h4
  have hla : laidC (t.take 4) = (t.drop 4).take 4 := by
    by_cases e : laidC (t.take 4) = (t.drop 4).take 4
    · exact e
    · exact absurd (.inl e) h2
  have e8 : (frameN d ++ r).take 8 = X ++ laidC X := by rw [hf]; exact List.take_left' (by rw [List.length_append, hXl, laidC_len])
  have t8 : t.take 8 = t.take 4 ++ (t.drop 4).take 4 := by
    rw [show (8 : Nat) = 4 + 4 from rfl, List.take_add]
  have b8 := h.take 8
  rw [e8, t8] at b8
  have q8 := b8.valid (by rw [hXl, List.length_take]; omega) rfl hla
  have qX : t.take 4 = X := by
    have := congrArg (List.take 4) q8
    rw [List.take_left' hXl, List.take_left' (by rw [List.length_take]; omega)] at this
    exact this.symm
  rw [qX, hv] at h4 h3
  have hlb : laidC ((t.drop 8).take d.length) = (t.drop (8 + d.length)).take 4 := by
    by_cases e : laidC ((t.drop 8).take d.length) = (t.drop (8 + d.length)).take 4
    · exact e
    · exact absurd e h4
  have eb : ((frameN d ++ r).drop 8).take (d.length + 4) = d ++ laidC d := by
    rw [hf, List.drop_left' (by rw [List.length_append, hXl, laidC_len])]
    exact List.take_left' (by rw [List.length_append, laidC_len])
  have tb : (t.drop 8).take (d.length + 4) = (t.drop 8).take d.length ++ (t.drop (8 + d.length)).take 4 := by
    rw [List.take_add, List.drop_drop]
  have bb := (h.drop 8).take (d.length + 4)
  rw [eb, tb] at bb
  have qb := bb.valid (by rw [List.length_take, List.length_drop]; omega) rfl hlb
  have : t.take (d.length + 12) = t.take 8 ++ (t.drop 8).take (d.length + 4) := by
    rw [show d.length + 12 = 8 + (d.length + 4) by omega, List.take_add]
  rw [this, tb, ← qb, t8, ← q8]
  unfold frameN
  rw [← hX]
  simp
end Go.Proofs.YtdpipgidpkmolaaGreatDoor

namespace Go.Proofs.YtdpipgidpkmolaaGreatDoor
open Go.RowKit

theorem rename_calm {D : Dk} {a b : List Nat} {f : Fil} (hc : D.calm) (hn : (D.files.map (·.1)).Nodup) (ha : nameOk a = true) (hb : nameOk b = true) (hf : D.get a = some f) (hne : a ≠ b) :
    D.thereE [a, b] a = 0 ∧ (D.rename a b).calm ∧ ((D.rename a b).files.map (·.1)).Nodup ∧ (D.rename a b).room = D.room ∧ (D.rename a b).used ≤ D.used ∧ (D.rename a b).files.length ≤ D.files.length ∧ ∀ x, (D.rename a b).get x = if x = b then some f else if x = a then none else D.get x := by
  have h0 : D.thereE [a, b] a = 0 := by rw [thereE_calm hc (by simp [ha, hb]), hf]; rfl
  have ht := tick_calm hc
  have hR : D.rename a b = { (D.wipe b).wipe a with files := ((D.wipe b).wipe a).files ++ [(b, f)] } := by
    unfold Dk.rename
    rw [if_neg (by rintro (h | h); exact h h0; exact hne h), hf, ht]
  have hn1 : ((D.wipe b).files.map (·.1)).Nodup := hn.sublist (List.Sublist.map _ List.filter_sublist)
  have hn2 : (((D.wipe b).wipe a).files.map (·.1)).Nodup := hn1.sublist (List.Sublist.map _ List.filter_sublist)
  have hg1 : (D.wipe b).get a = some f := by rw [wipe_get, if_neg hne, hf]
  have hfo : (D.wipe b).fileOf a = f := by rw [fileOf_eq, hg1]; rfl
  have hu1 := wipe_used (nm := a) hn1
  rw [hfo] at hu1
  have hu2 := wipe_used (nm := b) hn
  have hnb : ((D.wipe b).wipe a).get b = none := by rw [wipe_get, if_neg (fun e => hne e.symm), wipe_get, if_pos rfl]
  refine ⟨h0, ?_, ?_, by rw [hR]; rfl, ?_, ?_, fun x => ?_⟩
  · rw [hR]; exact ⟨hc.off, hc.armed⟩
  · rw [hR]
    show ((((D.wipe b).wipe a).files ++ [(b, f)]).map (·.1)).Nodup
    rw [List.map_append, List.nodup_append]
    refine ⟨hn2, by simp, ?_⟩
    intro y hy z hz
    simp at hz
    subst hz
    intro e
    subst e
    rw [mem_names, hnb] at hy
    cases hy
  · rw [hR]
    show ((usedL (((D.wipe b).wipe a).files ++ [(b, f)]) : Nat) : Int) ≤ _
    rw [usedL_app]
    have e2 : usedL [(b, f)] = f.data.length := by simp [usedL]
    have e3 : ((usedL ((D.wipe b).wipe a).files : Nat) : Int) = ((D.wipe b).wipe a).used := rfl
    rw [e2]
    omega
  · rw [hR]
    show (((D.wipe b).wipe a).files ++ [(b, f)]).length ≤ _
    have h3 : (a, f) ∈ (D.wipe b).files := by
      unfold Dk.wipe
      rw [List.mem_filter]
      exact ⟨get_mem hf, by simpa using hne⟩
    have h4 : ((D.wipe b).wipe a).files.length < (D.wipe b).files.length := by
      show ((D.wipe b).files.filter _).length < _
      rw [List.length_filter_lt_length_iff_exists]
      exact ⟨(a, f), h3, by simp⟩
    have h5 : (D.wipe b).files.length ≤ D.files.length := List.length_filter_le _ _
    rw [List.length_append, List.length_singleton]
    omega
  · rw [hR]
    have hap : Dk.get { (D.wipe b).wipe a with files := ((D.wipe b).wipe a).files ++ [(b, f)] } x = (((D.wipe b).wipe a).get x).or (if x = b then some f else none) := by
      unfold Dk.get
      show ((((D.wipe b).wipe a).files ++ [(b, f)]).find? _).map _ = _
      rw [List.find?_append]
      cases e1 : ((D.wipe b).wipe a).files.find? (fun p => decide (p.1 = x)) with
      | some p => rfl
      | none =>
        by_cases e : x = b
        · subst e
          rw [if_pos rfl]
          simp
        · rw [if_neg e]
          rw [List.find?_cons_of_neg (by simpa using fun e2 => e e2.symm)]
          rfl
    rw [hap]
    by_cases e : x = b
    · subst e
      rw [if_pos rfl, if_pos rfl, hnb]
      rfl
    · rw [if_neg e, if_neg e, Option.or_none, wipe_get, wipe_get, if_neg e]
/-- A log whose marks tell no more than there is. -/
structure SoftIs (D : Dk) (nm : List Nat) (segs : List (Nat × List (List Nat))) : Prop where
  calm : D.calm
  nd : (D.files.map (·.1)).Nodup
  inc : (segs.map (·.1)).Pairwise (· < ·)
  le : ∀ s ∈ segs, s.1 ≤ 999999
  recs : ∀ s ∈ segs, (∀ r ∈ s.2, r.length ≤ 131072)
  log : ∀ s ∈ segs, D.datN (fileN nm s.1 logK) = framesN s.2
  ack : ∀ s ∈ segs, (countN (D.datN (fileN nm s.1 ackK))).1 ≤ s.2.length ∧ (countN (D.datN (fileN nm s.1 ackK))).2 = false
  no : ∀ s ∈ segs, D.get (fileN nm s.1 newK) = none
  few : D.files.length + segs.length < 199
  room : 12 * (segs.length : Int) ≤ D.room - D.used
end Go.Proofs.YtdpipgidpkmolaaGreatDoor

namespace Go.Proofs.YtdpipgidpkmolaaGreatDoor
open Go.RowKit

theorem point_calm {D : Dk} {gen : Nat} (hc : D.calm) (hn : (D.files.map (·.1)).Nodup) (hfew : D.files.length < 200) (hroom : 22 ≤ D.room - D.used) (hno : D.get freshN = none) :
    ∃ D2, pointW D gen = (D2, 0) ∧ D2.calm ∧ (D2.files.map (·.1)).Nodup ∧ D2.room = D.room ∧ D2.used ≤ D.used + 22 ∧ D2.files.length ≤ D.files.length + 1 ∧ ∀ x, D2.get x = if x = curN then some (full (frameN (grp gen))) else if x = freshN then none else D.get x := by
  have hfr : nameOk freshN = true := by decide
  have hcu : nameOk curN = true := by decide
  have hgl := grp_len gen
  have hFl := frameN_len (grp gen)
  have h0 : D.thereE [freshN] freshN = 7 := by rw [thereE_calm hc (by simpa using hfr), hno]; rfl
  obtain ⟨-, a2, a3, a4, a5, a6, a7⟩ := del_calm hc hn hfr
  obtain ⟨D1, hD1⟩ : ∃ D1, D1 = D.delete freshN := ⟨_, rfl⟩
  rw [← hD1] at a2 a3 a4 a5 a6 a7
  obtain ⟨F, hF⟩ : ∃ F, F = frameN (grp gen) := ⟨_, rfl⟩
  rw [← hF] at hFl
  have hg1 : D1.get freshN = none := by rw [a7, if_pos rfl]
  have hfo : D1.fileOf freshN = full [] := by rw [fileOf_eq, hg1]; rfl
  obtain ⟨b1, b2, b3, b4, b5, b6, b7, b8⟩ := app_sync (D := D1) (a := freshN) (s := F) a2 a3 hfr (.inr (by omega)) (by rw [hfo]; show 0 + _ ≤ _; omega) (by omega)
  obtain ⟨D2, hD2⟩ : ∃ D2, D2 = D1.append freshN F := ⟨_, rfl⟩
  rw [← hD2] at b2 b3 b4 b5 b6 b7 b8
  obtain ⟨D3, hD3⟩ : ∃ D3, D3 = D2.sync freshN := ⟨_, rfl⟩
  rw [← hD3] at b3 b4 b5 b6 b7 b8
  have hg3 : D3.get freshN = some (full F) := by
    rw [b8, if_pos rfl, hfo]
    rfl
  obtain ⟨c1, c2, c3, c4, c5, c6, c7⟩ := rename_calm (D := D3) (a := freshN) (b := curN) b3 b4 hfr hcu hg3 (by decide)
  refine ⟨D3.rename freshN curN, ?_, c2, c3, by rw [c4, b5, a4], by omega, by omega, fun x => ?_⟩
  · unfold pointW
    rw [← hD1, ← hF, ← hD2, ← hD3, if_neg (by rw [h0]; simp), if_neg (by rw [b1]; simp), if_neg (by rw [b2]; simp), c1]
  · rw [c7, ← hF]
    by_cases e1 : x = curN
    · rw [if_pos e1, if_pos e1]
    · rw [if_neg e1, if_neg e1]
      by_cases e2 : x = freshN
      · rw [if_pos e2, if_pos e2]
      · rw [if_neg e2, if_neg e2, b8, if_neg e2, a7, if_neg e2]
theorem leN_trans (a b c : List Nat) (h : leN a b = true) (k : leN b c = true) : leN a c = true := by
  unfold leN at h k ⊢
  rw [decide_eq_true_eq] at h k ⊢
  exact List.le_trans h k
theorem leN_total (a b : List Nat) : (leN a b || leN b a) = true := by
  unfold leN
  rw [Bool.or_eq_true, decide_eq_true_eq, decide_eq_true_eq]
  exact List.le_total _ _
theorem sortN_of {l r : List (List Nat)} (hn : l.Nodup) (hr : r.Nodup) (hm : ∀ x, x ∈ l ↔ x ∈ r) (hs : r.Pairwise fun a b => leN a b = true) (ha : ∀ a ∈ r, ∀ b ∈ r, leN a b = true → leN b a = true → a = b) : sortN l = r := by
  have hp : (sortN l).Perm l := List.mergeSort_perm _ _
  have hp2 : l.Perm r := (List.perm_ext_iff_of_nodup hn hr).2 hm
  have h1 : (sortN l).Pairwise fun a b => leN a b = true := List.pairwise_mergeSort leN_trans leN_total l
  exact List.Perm.eq_of_pairwise (fun a b h2 h3 => ha a ((hp.trans hp2).mem_iff.1 h2) b h3) h1 hs (hp.trans hp2)
def logA : List Nat := [109, 97, 97, 46, 48, 48, 48, 48, 48, 48, 46, 108, 111, 103]
def ackA : List Nat := [109, 97, 97, 46, 48, 48, 48, 48, 48, 48, 46, 97, 99, 107]
theorem man_new : ∃ W1 D1 D2, appW ⟨0, 0, 0, false⟩ (Dk.new 1000) [109, 97, 97] (encB (-1) 1 (-1) [] []) = (W1, D1, 0) ∧ pointW D1 0 = (D2, 0) ∧ sortN (D2.files.map (·.1)) = [curN, ackA, logA] ∧ D2.files.length = 3 := by
  obtain ⟨hb, hbl⟩ := encB_few (-1) 1 (-1) ⟨by omega, by omega⟩ ⟨by omega, by omega⟩ ⟨by omega, by omega⟩
  obtain ⟨b, hbe⟩ : ∃ b, b = encB (-1) 1 (-1) [] [] := ⟨_, rfl⟩
  rw [← hbe] at hb hbl ⊢
  have hW : WlIs (Dk.new 1000) [109, 97, 97] ⟨0, 0, 0, false⟩ [] := WlIs.opened LogIs.nil
  have hused : (Dk.new 1000).used = 0 := rfl
  have hroom : (Dk.new 1000).room = 1000 := rfl
  have hfil : (Dk.new 1000).files.length = 0 := rfl
  obtain ⟨D1, segs, q1, q2, q3, q4, q5, q6⟩ := hW.append (data := b) (by decide) hb (by omega) (by simp) (by simp) (by simp only; omega) (by omega) (by omega)
  have hL := q2.log
  have hsegs : segs = [(0, [b])] := by
    cases segs with
    | nil => cases q3
    | cons s r =>
      have hs := (hL.recs s List.mem_cons_self).1
      have e1 : recsOf (s :: r) = (s.2.map fun x => (s.1, x)) ++ recsOf r := by simp [recsOf]
      have e2 : recsOf ([] : List (Nat × List (List Nat))) = [] := rfl
      rw [e1, e2, List.nil_append] at q3
      obtain ⟨n, l⟩ := s
      simp only at q3 hs
      cases l with
      | nil => exact absurd rfl hs
      | cons y l =>
        rw [List.map_cons, List.cons_append] at q3
        injection q3 with p1 p2
        injection p1 with p1 p3
        rw [List.append_eq_nil_iff] at p2
        obtain ⟨p4, p5⟩ := p2
        have hl : l = [] := by simpa using p4
        have hr : r = [] := by
          cases r with
          | nil => rfl
          | cons t r2 =>
            exfalso
            have ht := (hL.recs t (by simp)).1
            have e3 : recsOf (t :: r2) = (t.2.map fun x => (t.1, x)) ++ recsOf r2 := by simp [recsOf]
            rw [e3, List.append_eq_nil_iff] at p5
            have := p5.1
            simp at this
            exact ht this
        rw [hl, hr, p1, p3]
  have eL : fileN [109, 97, 97] 0 logK = logA := by unfold fileN dig6; rw [decN]; rfl
  have eA : fileN [109, 97, 97] 0 ackK = ackA := by unfold fileN dig6; rw [decN]; rfl
  have hown : ∀ x, (D1.get x).isSome = true ↔ x = logA ∨ x = ackA := fun x => by
    constructor
    · intro hx
      obtain ⟨s, hs, e⟩ := hL.own x hx
      rw [hsegs] at hs
      simp at hs
      subst hs
      simp only at e
      rw [eL, eA] at e
      exact e
    · intro hx
      have h1 := hL.log (0, [b]) (by rw [hsegs]; simp)
      have h2 := hL.ack (0, [b]) (by rw [hsegs]; simp)
      simp only at h1 h2
      rw [eL] at h1
      rw [eA] at h2
      rcases hx with e | e
      · rw [e, h1]; rfl
      · rw [e, h2]; rfl
  have hno : D1.get freshN = none := by
    cases e : D1.get freshN with
    | none => rfl
    | some f =>
      have h9 : ¬ (freshN = logA ∨ freshN = ackA) := by decide
      exact absurd ((hown freshN).1 (by rw [e]; rfl)) h9
  obtain ⟨D2, r1, r2, r3, r4, r5, r6, r7⟩ := point_calm (D := D1) (gen := 0) hL.calm hL.nd (by omega) (by omega) hno
  have hmem : ∀ x, x ∈ D2.files.map (·.1) ↔ x ∈ [curN, ackA, logA] := fun x => by
    rw [mem_names, r7]
    by_cases e1 : x = curN
    · rw [if_pos e1, e1]
      simp
    · rw [if_neg e1]
      by_cases e2 : x = freshN
      · rw [if_pos e2, e2]
        decide
      · rw [if_neg e2, hown]
        simp [e1, or_comm]
  have hs : sortN (D2.files.map (·.1)) = [curN, ackA, logA] := sortN_of r3 (by decide) hmem (by decide) (by decide)
  refine ⟨_, D1, D2, q1, r1, hs, ?_⟩
  have hp : (sortN (D2.files.map (·.1))).Perm (D2.files.map (·.1)) := List.mergeSort_perm _ _
  have := hp.length_eq
  rw [hs, List.length_map] at this
  exact this.symm
end Go.Proofs.YtdpipgidpkmolaaGreatDoor

namespace Go.Proofs.YtdpipgidpkmolaaGreatDoor
open Go.RowKit

theorem refSame3_any (A A' : Option Addr) (n c c' B : Nat) (l : List (List Nat)) (w : World) (hr : Reads w B 1 A n (Ts l)) (hr' : Reads w B 1 A' n (Ts l)) (hB : B ≤ w.heap.size) (hb : ∀ r ∈ l, Byt r) (hn : n ≤ 1000000000) :
    Calls Tryz.prog 18 #[.slice A n c, .slice A' n c'] w fun e w' => e = .returned (.bool true) ∧ Grow w w' := by
  have bel := Below.refl w.heap.size w
  have hl : l.length = n := by have := hr.1; simpa [Ts] using this
  refine Calls.start 26 Tryz.func18 rfl rfl rfl ?_
  refine Cd.seq ?_
  refine Cd.region ?_
  refine Seq.val (Runs.assign rfl rfl) rfl rfl rfl ?_
  refine Seq.nil ?_
  refine Post.weak (F' := [(0, _), (1, _), (4, _)]) ⟨rfl, rfl, rfl, trivial⟩ ?_
  refine Post.then_ ?_
  refine Cd.seq ?_
  refine Cd.seq ?_
  refine Cd.region ?_
  refine Seq.val (Runs.move rfl rfl) rfl rfl rfl ?_
  refine Seq.val (Runs.len rfl rfl Tryz.underlying54) rfl rfl rfl ?_
  refine Seq.val (Runs.move rfl rfl) rfl rfl rfl ?_
  refine Seq.val (Runs.len rfl rfl Tryz.underlying54) rfl rfl rfl ?_
  refine Seq.val (Runs.neqI rfl rfl rfl) rfl rfl rfl ?_
  refine Seq.nil ?_
  refine Post.weak (F' := [(0, _), (1, _), (4, _), (10, _)]) ⟨rfl, rfl, rfl, rfl, trivial⟩ ?_
  refine Post.then_ ?_
  refine Cd.condF rfl (by simp) ?_
  refine Cd.skip ?_
  refine Post.then_ ?_
  refine Cd.seq ?_
  refine Cd.seq ?_
  refine Cd.region ?_
  refine Seq.val (Runs.assign rfl rfl) rfl rfl rfl ?_
  refine Seq.nil ?_
  refine Post.weak (F' := [(0, _), (1, _), (4, _), (5, _), (10, _)]) ⟨rfl, rfl, rfl, rfl, rfl, trivial⟩ ?_
  refine Post.then_ ?_
  refine Cd.block ?_
  refine Cd.loop (σ := Nat) (fun j => [(0, .slice A n c), (1, .slice A' n c'), (5, .int .i64 (j : Int))]) (fun j wr => j ≤ n ∧ Below w.heap.size w wr) (fun j => n - j) 0 ⟨Nat.zero_le _, bel⟩ ⟨rfl, rfl, rfl, trivial⟩ ?_
  clear bel
  rintro j wr ⟨hj, bel⟩
  refine Cd.seq ?_
  refine Cd.seq ?_
  refine Cd.region ?_
  refine Seq.val (Runs.move rfl rfl) rfl rfl rfl ?_
  refine Seq.val (Runs.move rfl rfl) rfl rfl rfl ?_
  refine Seq.val (Runs.len rfl rfl Tryz.underlying54) rfl rfl rfl ?_
  refine Seq.val (Runs.lss rfl rfl rfl) rfl rfl rfl ?_
  refine Seq.nil ?_
  refine Post.weak (F' := [(0, _), (1, _), (5, _), (14, _)]) ⟨rfl, rfl, rfl, rfl, trivial⟩ ?_
  refine Post.then_ ?_
  refine Cd.condD rfl (fun hc => ?_) (fun hc => ?_)
  · obtain ⟨r, hrj⟩ : ∃ r, l[j]? = some r := ⟨_, List.getElem?_eq_getElem (by omega)⟩
    obtain ⟨ad, rfl, hbd, hcl⟩ := hr.2 (by omega)
    obtain ⟨ad', rfl, hbd', hcl'⟩ := hr'.2 (by omega)
    have hsz := bel.size
    have hc1 : ∀ wx, Below w.heap.size w wx → wx.cell? (ad.add j) = some (.string (strOf r)) := fun wx hx => (hx.cell (by rw [block_of_add]; omega)).trans (hcl j _ (by rw [get_Ts, hrj]; rfl))
    have hc2 : ∀ wx, Below w.heap.size w wx → wx.cell? (ad'.add j) = some (.string (strOf r)) := fun wx hx => (hx.cell (by rw [block_of_add]; omega)).trans (hcl' j _ (by rw [get_Ts, hrj]; rfl))
    have hrb := hb r (List.mem_of_getElem? hrj)
    refine Cd.skip ?_
    refine Post.then_ ?_
    refine Cd.seq ?_
    refine Cd.block ?_
    refine Cd.seq ?_
    refine Cd.draw 9 (by kernel_rfl) [] (.inl rfl) rfl Grow Grow.refl (fun _ _ _ => Grow.trans) ?_
    intro w1 hw1 zw1
    replace bel := bel.step hw1
    have zbel := bel.size
    refine Dr.val Grow.refl rfl (fun w hG => Runs.move rfl rfl) rfl ?_
    refine Dr.val Grow.refl rfl (fun w hG => Runs.move rfl rfl) rfl ?_
    refine Dr.val Grow.refl rfl (fun w hG => (Runs.index1 rfl rfl rfl Tryz.underlying54 (by kernel_rfl) (j := j) rfl (by omega))) rfl ?_
    refine Dr.val Grow.refl rfl (fun w hG => (Runs.load1 rfl rfl Tryz.underlying9 rfl (hc1 w (bel.step hG)))) rfl ?_
    refine Dr.val Grow.refl rfl (fun w hG => Runs.move rfl rfl) rfl ?_
    refine Dr.val Grow.refl rfl (fun w hG => Runs.move rfl rfl) rfl ?_
    refine Dr.val Grow.refl rfl (fun w hG => (Runs.index1 rfl rfl rfl Tryz.underlying54 (by kernel_rfl) (j := j) rfl (by omega))) rfl ?_
    refine Dr.val Grow.refl rfl (fun w hG => (Runs.load1 rfl rfl Tryz.underlying9 rfl (hc2 w (bel.step hG)))) rfl ?_
    refine Dr.val Grow.refl rfl (fun w hG => ((Runs.neqL (a := r) (b := r) rfl rfl rfl hrb hrb).isF (by simp))) rfl ?_
    refine Dr.nil ?_
    refine FinX.done (F' := [(0, _), (1, _), (5, _), (14, _), (25, _)]) rfl ⟨rfl, rfl, rfl, rfl, rfl, trivial⟩ ?_
    intro w2 hw2 fw2
    replace bel := bel.step hw2
    refine Seq.nil ?_
    refine Post.weak (F' := [(0, _), (1, _), (5, _), (14, _), (25, _)]) ⟨rfl, rfl, rfl, rfl, rfl, trivial⟩ ?_
    refine Post.then_ ?_
    refine Cd.condF rfl rfl ?_
    refine Cd.skip ?_
    refine Post.block_normal ?_
    refine Post.then_ ?_
    refine Cd.region ?_
    refine Seq.val (Runs.move rfl rfl) rfl rfl rfl ?_
    refine Seq.val (Runs.addI rfl rfl rfl (by omega) (by omega)) rfl rfl rfl ?_
    refine Seq.val (Runs.assign rfl rfl) rfl rfl rfl ?_
    refine Seq.nil ?_
    refine Post.weak (F' := [(0, _), (1, _), (5, _), (14, _), (25, _)]) ⟨rfl, rfl, rfl, rfl, rfl, trivial⟩ ?_
    exact Post.round (j + 1) ⟨rfl, rfl, int_at (by omega), trivial⟩ ⟨by omega, bel⟩ (by omega)
  · skip
    refine Cd.exit ?_
    refine Post.then_exit ?_
    refine Post.round_exit ?_
    refine Post.block_exit ?_
    refine Post.then_ ?_
    refine Cd.seq ?_
    refine Cd.region ?_
    refine Seq.val (Runs.assign rfl rfl) rfl rfl rfl ?_
    refine Seq.nil ?_
    refine Post.weak (F' := [(0, _), (1, _), (4, _), (5, _), (14, _)]) ⟨rfl, rfl, rfl, rfl, rfl, trivial⟩ ?_
    refine Post.then_ ?_
    refine Cd.ret ?_
    refine Post.end1 rfl rfl (.inl rfl) ?_
    exact ⟨rfl, bel⟩
/-- Names, in a slice. -/
def NmS (B m : Nat) (l : List (List Nat)) (v : Value) (w : World) : Prop := Own w B 9 1 v m (Ts l)
theorem NmS.stable {B m : Nat} {l : List (List Nat)} : ∀ v w w', Grow w w' → NmS B m l v w → NmS B m l v w' := fun _ _ _ hG h => h.step hG
theorem run_field_next (a b c : Int) (A : Option Addr) (k m : Nat) (w : World) : (Instr.field 38 (.agg #[.int .i64 a, .int .i64 b, .int .i64 c, .slice A k m]) 1).run Tryz.prog w = .ok (.int .i64 b) w := by kernel_rfl
theorem dig6_7 : dig6 7 ++ [46, 116, 97, 98] = [48, 48, 48, 48, 48, 55, 46, 116, 97, 98] := by unfold dig6; rw [decN]; rfl
theorem awake13_any (w : World) (gv : Gv w) : Calls Tryz.prog 6 #[] w fun e w' => e = .returned (.bool true) ∧ Grow w w' := by
  have mf := Mf.refl w.heap.size w
  have hgw := gv.top
  obtain ⟨W1, D1, D2, hA, hp, hs, hl⟩ := man_new
  refine Calls.start 28 Tryz.func6 rfl rfl rfl ?_
  refine Cd.seq ?_
  refine Cd.region ?_
  refine Seq.val (Runs.assign rfl rfl) rfl rfl rfl ?_
  refine Seq.nil ?_
  refine Post.weak (F' := [(0, _)]) ⟨rfl, trivial⟩ ?_
  refine Post.then_ ?_
  refine Cd.seq ?_
  refine Cd.region ?_
  refine Seq.call (Enters.func rfl rfl rfl (run_enter Tryz.func7 (by kernel_rfl) rfl)) rfl rfl rfl (new_any 1000 _ (by omega) (by omega)) ?_
  rintro e w5 ⟨gd, rfl, dk, hb5⟩
  refine ⟨_, rfl, ?_⟩
  replace mf := mf.step hb5
  replace gv := gv.step hb5
  refine Seq.val (Runs.assign rfl rfl) rfl rfl rfl ?_
  refine Seq.nil ?_
  refine Post.weak (F' := [(0, _), (1, _)]) ⟨rfl, rfl, trivial⟩ ?_
  refine Post.then_ ?_
  refine Cd.seq ?_
  refine Cd.region ?_
  refine Seq.val (Runs.move rfl rfl) rfl rfl rfl ?_
  refine Seq.call (Enters.func rfl rfl rfl (run_enter Tryz.func8 (by kernel_rfl) rfl)) rfl rfl rfl (open_new w.heap.size gd (Dk.new 1000) D1 D2 W1 _ gv hgw dk rfl (noNum_empty (show ∀ d ∈ [109, 97, 97], d < 256 by decide) (by decide) rfl) rfl rfl hA hp) ?_
  clear dk
  rintro e w1 ⟨gm, gl, rfl, k2, kl, e2, el, dk, fw1⟩
  refine ⟨_, rfl, ?_⟩
  replace mf := mf.mf fw1
  replace gv := gv.mf fw1
  refine Seq.val (Runs.move rfl rfl) rfl rfl rfl ?_
  refine Seq.val (Runs.extract rfl rfl rfl) rfl rfl rfl ?_
  refine Seq.val (Runs.extract rfl rfl rfl) rfl rfl rfl ?_
  refine Seq.val (Runs.assign rfl rfl) rfl rfl rfl ?_
  refine Seq.val (Runs.assign rfl rfl) rfl rfl rfl ?_
  refine Seq.nil ?_
  refine Post.weak (F' := [(0, _), (1, _), (2, _), (3, _)]) ⟨rfl, rfl, rfl, rfl, trivial⟩ ?_
  refine Post.then_ ?_
  refine Cd.seq ?_
  refine Cd.region ?_
  refine Seq.val (Runs.move rfl rfl) rfl rfl rfl ?_
  refine Seq.val (Runs.eqlI rfl rfl rfl) rfl rfl rfl ?_
  refine Seq.val (Runs.move rfl rfl) rfl rfl rfl ?_
  refine Seq.valG (Runs.move rfl rfl) rfl rfl rfl rfl rfl ?_
  refine Seq.callG (Enters.func rfl rfl rfl (run_enter Tryz.func10 (by kernel_rfl) rfl)) rfl rfl rfl rfl rfl (version_new gm _ _ _ _ 0 1 0 1 _ k2) ?_
  rintro e w7 ⟨rfl, hb7⟩
  refine ⟨_, rfl, ?_⟩
  replace mf := mf.step hb7
  replace gv := gv.step hb7
  replace dk := dk.step hb7
  replace k2 := k2.step hb7
  refine Seq.valG (Runs.field rfl rfl (run_field_next 0 1 0 _ _ _ _)) rfl rfl rfl rfl rfl ?_
  refine Seq.valG (Runs.eqlI rfl rfl rfl) rfl rfl rfl rfl rfl ?_
  refine Seq.val (Runs.pickT rfl rfl rfl) rfl rfl rfl ?_
  refine Seq.val (Runs.move rfl rfl) rfl rfl rfl ?_
  refine Seq.valG (Runs.move rfl rfl) rfl rfl rfl rfl rfl ?_
  refine Seq.callG (Enters.func rfl rfl rfl (run_enter Tryz.func19 (by kernel_rfl) rfl)) rfl rfl rfl rfl rfl (names_any w.heap.size gd D2 _ dk) ?_
  rw [hs, hl]
  rintro e w8 ⟨v8, rfl, ownN, hb8⟩
  refine ⟨_, rfl, ?_⟩
  replace mf := mf.step hb8
  replace gv := gv.step hb8
  replace dk := dk.step hb8
  replace k2 := k2.step hb8
  obtain ⟨A8, c8, rfl, -⟩ := ownN.reads
  refine Seq.valG (Runs.sliceLit (vs := [_, _, _]) (s := 1) rfl rfl rfl Tryz.underlying54 (by kernel_rfl) zero_string (by omega) (by omega) ⟨rfl, rfl, rfl, trivial⟩) rfl rfl rfl rfl rfl ?_
  have hnw := new_of w8 (flatC [.string (strOf curN), .string (strOf ackA), .string (strOf logA)]).toArray 9
  replace mf := mf.step hnw.below
  replace gv := gv.step hnw.below
  replace dk := dk.step hnw.below
  replace k2 := k2.step hnw.below
  replace ownN := ownN.step hnw.below
  obtain ⟨A8', c8', hv8, hr8⟩ := ownN.reads
  injection hv8 with q1 _ q2
  subst q1 q2
  have hk := Reads.blk (size := 1) hnw.blk 3 rfl
  refine Seq.callG (Enters.func rfl rfl rfl (run_enter Tryz.func18 (by kernel_rfl) rfl)) rfl rfl rfl rfl rfl (refSame3_any A8 (some ⟨w8.heap.size, 0, none⟩) 3 c8 3 _ [curN, ackA, logA] _ hr8 hk (Nat.le_refl _) (show ∀ r ∈ [curN, ackA, logA], ∀ c ∈ r, c < 256 by decide) (by omega)) ?_
  rintro e w9 ⟨rfl, hb9⟩
  refine ⟨_, rfl, ?_⟩
  replace mf := mf.step hb9
  replace gv := gv.step hb9
  replace dk := dk.step hb9
  replace k2 := k2.step hb9
  replace ownN := ownN.step hb9
  refine Seq.val (Runs.pickT rfl rfl rfl) rfl rfl rfl ?_
  refine Seq.val (Runs.move rfl rfl) rfl rfl rfl ?_
  refine Seq.callG (Enters.func rfl rfl rfl (run_enter Tryz.func20 (by kernel_rfl) rfl)) rfl rfl rfl rfl rfl (Name_any 7 _ gv (by omega) (by omega)) ?_
  rw [dig6_7]
  rintro e w10 ⟨rfl, hb10⟩
  refine ⟨_, rfl, ?_⟩
  replace mf := mf.step hb10
  replace gv := gv.step hb10
  replace dk := dk.step hb10
  replace k2 := k2.step hb10
  replace ownN := ownN.step hb10
  refine Seq.valG ((Runs.eqlL (a := [48, 48, 48, 48, 48, 55, 46, 116, 97, 98]) (b := [48, 48, 48, 48, 48, 55, 46, 116, 97, 98]) rfl rfl rfl (by decide) (by decide)).isT rfl) rfl rfl rfl rfl rfl ?_
  refine Seq.val (Runs.pickT rfl rfl rfl) rfl rfl rfl ?_
  refine Seq.val (Runs.assign rfl rfl) rfl rfl rfl ?_
  refine Seq.nil ?_
  refine Post.weak (F' := [(0, _), (1, _), (2, _), (3, _)]) ⟨rfl, rfl, rfl, rfl, trivial⟩ ?_
  refine Post.then_ ?_
  refine Cd.ret ?_
  refine Post.end1 rfl rfl (.inl rfl) ?_
  exact ⟨rfl, mf.to (Nat.le_refl _)⟩
end Go.Proofs.YtdpipgidpkmolaaGreatDoor

namespace Go.Proofs.YtdpipgidpkmolaaGreatDoor
open Go.ChangeShapes Go.WideShapes Go.Deep Go.RowKit

end Go.Proofs.YtdpipgidpkmolaaGreatDoor

namespace Go.Proofs.YtdpipgidpkmolaaGreatDoor
open Go.ChangeShapes Go.WideShapes Go.ChangeAt Go.Deep Go.RowKit

theorem fcs_take {fs : List Fl} {k : Nat} {f : Fl} (h : fs[k]? = some f) : fcs (fs.take (k + 1)) = fcs (fs.take k) ++ f.cs.toList := by
  unfold fcs
  rw [List.take_add_one, h, List.flatMap_append]
  simp
theorem files_any (B n cap : Nat) (A : Option Addr) (fs : List Fl) (w : World) (hr : Reads w B 6 A n (fcs fs)) (hB : B ≤ w.heap.size) (hn : n ≤ 101) :
    Calls Tryz.prog 35 #[.slice A n cap] w fun e w' => ∃ v, e = .returned v ∧ Grow w w' ∧ ∃ A' c, v = .slice A' n c ∧ Own w' w.heap.size 81 6 v n (fcs fs) := by
  have bel := Below.refl w.heap.size w
  have hfl := hr.fl_len
  have own : Own w w.heap.size 81 6 (.slice none 0 0) 0 [] := Own.nil _ _ _ _
  refine Calls.start 19 Tryz.func35 rfl rfl rfl ?_
  refine Cd.seq ?_
  refine Cd.region ?_
  refine Seq.val (Runs.assign rfl rfl) rfl rfl rfl ?_
  refine Seq.nil ?_
  refine Post.weak (F' := [(0, _), (2, _)]) ⟨rfl, rfl, trivial⟩ ?_
  refine Post.then_ ?_
  refine Cd.seq ?_
  refine Cd.region ?_
  refine Seq.val (Runs.assign rfl rfl) rfl rfl rfl ?_
  refine Seq.nil ?_
  refine Post.weak (F' := [(0, _), (2, _), (3, _)]) ⟨rfl, rfl, rfl, trivial⟩ ?_
  refine Post.then_ ?_
  refine Cd.seq ?_
  refine Cd.seq ?_
  refine Cd.region ?_
  refine Seq.val (Runs.assign rfl rfl) rfl rfl rfl ?_
  refine Seq.nil ?_
  refine Post.weak (F' := [(0, _), (2, _), (3, _), (4, _)]) ⟨rfl, rfl, rfl, rfl, trivial⟩ ?_
  refine Post.then_ ?_
  refine Cd.block ?_
  refine Cd.loop (σ := Nat × Value) (fun s => [(0, .slice A n cap), (3, s.2), (4, .int .i64 (s.1 : Int))]) (fun s wr => s.1 ≤ n ∧ Below w.heap.size w wr ∧ Own wr w.heap.size 81 6 s.2 s.1 (fcs (fs.take s.1))) (fun s => n - s.1) (0, .slice none 0 0) ⟨Nat.zero_le _, bel, own⟩ ⟨rfl, rfl, rfl, trivial⟩ ?_
  clear bel
  clear own
  rintro ⟨k, v⟩ wr ⟨hk, bel, own⟩
  simp only at hk own
  show Cd _ _ _ _ [(0, .slice A n cap), (3, v), (4, .int .i64 (k : Int))] _
  refine Cd.seq ?_
  refine Cd.seq ?_
  refine Cd.region ?_
  refine Seq.val (Runs.move rfl rfl) rfl rfl rfl ?_
  refine Seq.val (Runs.move rfl rfl) rfl rfl rfl ?_
  refine Seq.val (Runs.len rfl rfl Tryz.underlying32) rfl rfl rfl ?_
  refine Seq.val (Runs.lss rfl rfl rfl) rfl rfl rfl ?_
  refine Seq.nil ?_
  refine Post.weak (F' := [(0, _), (3, _), (4, _), (8, _)]) ⟨rfl, rfl, rfl, rfl, trivial⟩ ?_
  refine Post.then_ ?_
  refine Cd.condD rfl (fun hc => ?_) (fun hc => ?_)
  · obtain ⟨f, hf⟩ : ∃ f, fs[k]? = some f := ⟨_, List.getElem?_eq_getElem (show k < fs.length by omega)⟩
    obtain ⟨ad, rfl, hbl, hin, hc⟩ := hr.fl (bel.mono hB) hf
    have htk := fcs_take hf
    refine Cd.skip ?_
    refine Post.then_ ?_
    refine Cd.seq ?_
    refine Cd.block ?_
    refine Cd.region ?_
    refine Seq.val (Runs.move rfl rfl) rfl rfl rfl ?_
    refine Seq.val (Runs.move rfl rfl) rfl rfl rfl ?_
    refine Seq.val (Runs.move rfl rfl) rfl rfl rfl ?_
    refine Seq.val (Runs.indexN rfl rfl rfl Tryz.underlying32 (s := 6) (by kernel_rfl) (j := k) rfl (by omega)) rfl rfl rfl ?_
    refine Seq.val (Runs.loadF (ps := [.int .i64 f.num, .int .i64 f.level, .string (strOf f.first), .string (strOf f.last), .int .i64 f.count, .int .i64 f.size]) rfl rfl Tryz.underlying60 rfl (m := 6) (by kernel_rfl) rfl hc) rfl rfl rfl ?_
    refine Seq.slice (vs := [_]) (s := 6) rfl rfl rfl Tryz.underlying36 (by kernel_rfl) (zero_edit_File) (by omega) (by omega) ⟨rfl, trivial⟩ rfl rfl rfl ?_
    intro g16 w1 n16
    have e16 := Nat.le_trans bel.size n16.ge
    replace bel := bel.step n16.below
    replace own := own.step n16.below
    have k16 := n16.blk
    have hrd := Reads.blk (size := 6) k16 1 rfl
    refine Seq.append rfl rfl rfl Tryz.underlying36 (by kernel_rfl) zero_edit_File rfl (by decide) (b := 64) (by kernel_rfl) own (hrd) (by intro x hx; simp [flatC, Value.cells] at hx; rcases hx with rfl | rfl | rfl | rfl | rfl | rfl <;> rfl) bel.size (by simp only [maxLen]; omega) (by omega) rfl rfl rfl ?_
    clear own
    intro vw2 w2 own haw2
    replace bel := bel.trans haw2.below
    refine Seq.val (Runs.assign rfl rfl) rfl rfl rfl ?_
    refine Seq.nil ?_
    refine Post.weak (F' := [(0, _), (3, _), (4, _), (8, _)]) ⟨rfl, rfl, rfl, rfl, trivial⟩ ?_
    refine Post.block_normal ?_
    refine Post.then_ ?_
    refine Cd.region ?_
    refine Seq.val (Runs.move rfl rfl) rfl rfl rfl ?_
    refine Seq.val (Runs.addI rfl rfl rfl (by omega) (by omega)) rfl rfl rfl ?_
    refine Seq.val (Runs.assign rfl rfl) rfl rfl rfl ?_
    refine Seq.nil ?_
    refine Post.weak (F' := [(0, _), (3, _), (4, _), (8, _)]) ⟨rfl, rfl, rfl, rfl, trivial⟩ ?_
    exact Post.round (k + 1, vw2) ⟨rfl, rfl, rfl, trivial⟩ ⟨by simp only; omega, bel, by rw [htk]; exact own⟩ (by simp only; omega)
  · obtain rfl : k = n := by omega
    rw [List.take_of_length_le (by omega)] at own
    obtain ⟨A', c, rfl, -⟩ := own.reads
    refine Cd.exit ?_
    refine Post.then_exit ?_
    refine Post.round_exit ?_
    refine Post.block_exit ?_
    refine Post.then_ ?_
    refine Cd.seq ?_
    refine Cd.region ?_
    refine Seq.val (Runs.move rfl rfl) rfl rfl rfl ?_
    refine Seq.val (Runs.assign rfl rfl) rfl rfl rfl ?_
    refine Seq.nil ?_
    refine Post.weak (F' := [(0, _), (2, _), (3, _), (4, _), (8, _)]) ⟨rfl, rfl, rfl, rfl, rfl, trivial⟩ ?_
    refine Post.then_ ?_
    refine Cd.ret ?_
    refine Post.end1 rfl rfl (.inl rfl) ?_
    exact ⟨_, rfl, bel, A', c, rfl, own⟩
/-- A list of files of the call's own. -/
def OwnF (B n : Nat) (xs : List Value) (v : Value) (w : World) : Prop := ∃ A c, v = .slice A n c ∧ Own w B 81 6 v n xs
theorem OwnF.stable {B n : Nat} {xs : List Value} : ∀ v w w', Grow w w' → OwnF B n xs v w → OwnF B n xs v w' := fun _ _ _ hG ⟨A, c, e, h⟩ => ⟨A, c, e, h.step hG⟩
theorem zero_edit_Edit : zeroIs Tryz.prog 47 = some (some (.agg #[.int .i64 0, .int .i64 0, .int .i64 0, .slice none 0 0, .slice none 0 0])) := by kernel_rfl
theorem run_build_Edit (a b c : Int) (A A' : Option Addr) (m k m' k' : Nat) (w : World) : (Instr.build 47 #[(0, .int .i64 a), (1, .int .i64 b), (2, .int .i64 c), (3, .slice A m k), (4, .slice A' m' k')]).run Tryz.prog w = .ok (.agg #[.int .i64 a, .int .i64 b, .int .i64 c, .slice A m k, .slice A' m' k']) w := by
  have hu := Tryz.underlying47
  go_simp
theorem of_any (lg nx sq : Int) (B n m c c' : Nat) (A A' : Option Addr) (fs : List Fl) (w : World) (hr : Reads w B 6 A' m (fcs fs)) (hB : B ≤ w.heap.size) (hn : m ≤ 101) :
    Calls Tryz.prog 12 #[.agg #[.int .i64 lg, .int .i64 nx, .int .i64 sq, .slice A n c, .slice A' m c']] w fun e w' => Grow w w' ∧ ∃ A2 c2, e = .returned (.agg #[.int .i64 lg, .int .i64 nx, .int .i64 sq, .slice A n c, .slice A2 m c2]) ∧ Own w' w.heap.size 81 6 (.slice A2 m c2) m (fcs fs) := by
  have bel := Below.refl w.heap.size w
  refine Calls.start 15 Tryz.func12 rfl rfl rfl ?_
  refine Cd.seq ?_
  refine Cd.region ?_
  refine Seq.box rfl rfl rfl rfl rfl ?_
  intro g1 w1 n1
  have e1 := Nat.le_trans bel.size n1.ge
  replace bel := bel.step n1.below
  have k1 := n1.blk
  refine Seq.alloc rfl (run_zero zero_edit_Edit) rfl rfl rfl ?_
  intro g2 w2 n2
  have e2 := Nat.le_trans bel.size n2.ge
  have l2 := Nat.lt_of_lt_of_le k1.lt n2.ge
  replace bel := bel.step n2.below
  replace k1 := k1.step n2.below
  have k2 := n2.blk
  refine Seq.nil ?_
  refine Post.weak (F' := [(0, _), (1, _), (2, _)]) ⟨rfl, rfl, rfl, trivial⟩ ?_
  refine Post.then_ ?_
  refine Cd.seq ?_
  have hfl := fun W (hb : Below w.heap.size w W) => files_any B m c' A' fs W (hr.below (hb.mono hB)) (Nat.le_trans hB hb.size) hn
  refine Cd.draw 11 (by kernel_rfl) [] (.inl rfl) rfl Grow Grow.refl (fun _ _ _ => Grow.trans) ?_
  intro w3 hw3 zw3
  replace bel := bel.step hw3
  replace k1 := k1.step hw3
  replace k2 := k2.step hw3
  have zbel := bel.size
  have zlt := k2.lt
  refine Dr.val Grow.refl rfl (fun w hG => Runs.fieldB 0 rfl rfl Tryz.underlying42 rfl (by kernel_rfl)) rfl ?_
  refine Dr.val Grow.refl rfl (fun w hG => Runs.loadB rfl rfl Tryz.underlying3 rfl (k1.step hG) rfl) rfl ?_
  refine Dr.val Grow.refl rfl (fun w hG => Runs.fieldB 1 rfl rfl Tryz.underlying42 rfl (by kernel_rfl)) rfl ?_
  refine Dr.val Grow.refl rfl (fun w hG => Runs.loadB rfl rfl Tryz.underlying3 rfl (k1.step hG) rfl) rfl ?_
  refine Dr.val Grow.refl rfl (fun w hG => Runs.fieldB 2 rfl rfl Tryz.underlying42 rfl (by kernel_rfl)) rfl ?_
  refine Dr.val Grow.refl rfl (fun w hG => Runs.loadB rfl rfl Tryz.underlying3 rfl (k1.step hG) rfl) rfl ?_
  refine Dr.val Grow.refl rfl (fun w hG => Runs.fieldB 3 rfl rfl Tryz.underlying42 rfl (by kernel_rfl)) rfl ?_
  refine Dr.val Grow.refl rfl (fun w hG => Runs.loadB rfl rfl Tryz.underlying40 rfl (k1.step hG) rfl) rfl ?_
  refine Dr.val Grow.refl rfl (fun w hG => Runs.fieldB 4 rfl rfl Tryz.underlying42 rfl (by kernel_rfl)) rfl ?_
  refine Dr.val Grow.refl rfl (fun w hG => Runs.loadB rfl rfl Tryz.underlying32 rfl (k1.step hG) rfl) rfl ?_
  refine Dr.call (Φ := OwnF w.heap.size m (fcs fs)) rfl (fun w => Enters.func rfl rfl rfl (run_enter Tryz.func35 (by kernel_rfl) rfl)) rfl (OwnF.stable) (fun w hG => (hfl _ (bel.step hG)).mono fun e w' ⟨v, e1, hg, A2, c2, e2, ho⟩ => ⟨v, e1, hg, A2, c2, e2, ⟨own_base ho.row (bel.step hG).size⟩⟩) ?_
  refine Dr.nil ?_
  refine FinX.open (j := 10) rfl ?_
  intro u10
  refine FinX.done (F' := [(0, _), (1, _), (2, _), (4, _), (6, _), (8, _), (10, _), (13, _)]) rfl ⟨rfl, rfl, rfl, rfl, rfl, rfl, rfl, rfl, trivial⟩ ?_
  intro w4 hw4 fw4
  replace bel := bel.step hw4
  replace k1 := k1.step hw4
  replace k2 := k2.step hw4
  obtain ⟨A2, c2, rfl, own⟩ := fw4.2
  refine Seq.val (Runs.build rfl rfl (run_build_Edit _ _ _ _ _ _ _ _ _ _)) rfl rfl rfl ?_
  refine Seq.storeN rfl rfl rfl rfl (m := 5) (by kernel_rfl) rfl (by repeat' first | exact trivial | apply And.intro | rfl | assumption) k2 (by simp [Value.cells]) rfl rfl ?_
  intro w5 pw5
  replace bel := bel.put k2 pw5 e2
  replace k1 := k1.put pw5 (by omega)
  replace own := own.put k2 pw5 e2
  replace k2 := pw5.blk
  refine Seq.nil ?_
  refine Post.weak (F' := [(0, _), (1, _), (2, _)]) ⟨rfl, rfl, rfl, trivial⟩ ?_
  refine Post.then_ ?_
  refine Cd.ret ?_
  refine Post.endC rfl rfl k2 Tryz.underlying47 rfl (m := 5) (by kernel_rfl) rfl (.inl rfl) ?_
  exact ⟨bel, A2, c2, rfl, own⟩
structure Fl.rng (f : Fl) : Prop where
  num : I64 f.num
  level : I64 f.level
  count : I64 f.count
  size : I64 f.size
  first : ∀ d ∈ f.first, d < 256
  last : ∀ d ∈ f.last, d < 256
theorem choose_of {α : Type} (n : Nat) (p : Nat → α → Prop) (h : ∀ i, i < n → ∃ f, p i f) : ∃ l : List α, l.length = n ∧ ∀ i f, l[i]? = some f → p i f := by
  induction n with
  | zero => exact ⟨[], rfl, fun i f hf => by simp at hf⟩
  | succ n ih =>
    obtain ⟨l, hl, hp⟩ := ih fun i hi => h i (by omega)
    obtain ⟨x, hx⟩ := h n (by omega)
    refine ⟨l ++ [x], by simp [hl], fun i f hf => ?_⟩
    rcases Nat.lt_or_ge i n with hi | hi
    · rw [List.getElem?_append_left (by omega)] at hf
      exact hp i f hf
    · rw [List.getElem?_append_right (by omega)] at hf
      have h0 : i - l.length = 0 := by
        have := (List.getElem?_eq_some_iff.1 hf).1
        simp at this
        omega
      rw [h0] at hf
      simp at hf
      subst hf
      have : i = n := by omega
      subst this
      exact hx
theorem has64 {x : Int} (h : Lit.wf (.int .i64 x) = true) : I64 x := by
  simp only [Lit.wf, Bool.and_eq_true, decide_eq_true_eq] at h
  exact ⟨h.1, h.2⟩
section
variable {H : Type} {enc : TypeId × Value → H} {P : Program} {w : World} {base : Nat} {spare : Nat → Bool} {held : Bool}
theorem open_slice_fields {t e : TypeId} {fs : Array Field} {fuel : Nat} {cs : List Value} {x : DataW H × List MemPlace} (ht : P.underlying t = some (.slice e)) (he : P.underlying e = some (.struct fs))
    (hone : oneCellFields P fs = true) (hC : P.cellsOf e = fs.size) (h : DataW.trod enc P w base spare held fuel t cs = some x) :
    (cs = [.slice none 0 0] ∧ x = (.nil, [])) ∨
    ∃ (a : Addr) (len cap m : Nat) (D : Nat → DataW H) (Pl : Nat → List MemPlace), cs = [.slice (some a) len cap] ∧ base ≤ a.block ∧ len ≤ cap ∧ cap ≤ maxLen ∧ m = (if spare a.block then cap else len) ∧
      x = (.slice ((List.range len).map D) ((List.range (m - len)).map fun j => D (len + j)), MemPlace.row a (m * fs.size) ++ (List.range m).flatMap Pl) ∧
      ∀ i, i < m → ∃ (ys : List (DataW H × List MemPlace)) (n : Nat), D i = .agg (ys.map (·.1)) ∧ Pl i = ys.flatMap (·.2) ∧ ys.length = fs.size ∧
        ∀ (j : Nat) (f : Field), fs[j]? = some f → ∃ (v : Value) (y : DataW H × List MemPlace), w.cell? (a.add (i * fs.size + j)) = some v ∧ ys[j]? = some y ∧ DataW.trod enc P w base spare held n f.type [v] = some y := by
  rcases open_slice ht h with h0 | ⟨a, len, cap, m, n, D, Pl, hcs, hb, hl, hm, hmm, hx, hi⟩
  · exact .inl h0
  · refine .inr ⟨a, len, cap, m, D, Pl, hcs, hb, hl, hm, hmm, by rw [hC] at hx; exact hx, fun i him => ?_⟩
    obtain ⟨cs', hc, ht'⟩ := hi i him
    rw [hC] at hc
    obtain ⟨ys, n', hn', hy, hlen, hyl, hf⟩ := DataW.trod_struct he ht'
    obtain ⟨_, hcl, hat⟩ := World.cells?_some hc
    simp only [Prod.mk.injEq] at hy
    refine ⟨ys, n', hy.1, hy.2, hyl, fun j f hj => ?_⟩
    obtain ⟨ho, hk⟩ := hone_of hone j f hj
    have hjl : j < fs.size := (Array.getElem?_eq_some_iff.1 hj).1
    have hcell := hat j hjl
    have hv : cs'[j]? = some (cs'[j]'(by omega)) := List.getElem?_eq_getElem (by omega)
    have h1 := hf j f hj
    rw [ho, hk] at h1
    have hone' : (cs'.drop j).take 1 = [cs'[j]'(by omega)] := by
      rw [List.drop_eq_getElem_cons (by omega)]
      rfl
    rw [hone'] at h1
    have hys : ys[j]? = some (ys[j]'(by omega)) := List.getElem?_eq_getElem (by omega)
    refine ⟨_, _, ?_, hys, h1.trans hys⟩
    rw [← Go.Deep.add_add, hcell, hv]
end
set_option maxRecDepth 100000 in
theorem open_fls {H : Type} {enc : TypeId × Value → H} {W : World} {v : Value} {y : DataW H × List MemPlace} {m : Nat}
    (h : DataW.trod enc Tryz.prog W 0 (fun _ => true) true m 32 [v] = some y) : ∃ A len cap fs, v = .slice A len cap ∧ Reads W W.heap.size 6 A len (fcs fs) ∧ ∀ f ∈ fs, Fl.rng f := by
  rcases open_slice_fields Tryz.underlying32 Tryz.underlying60 (by kernel_rfl) (by kernel_rfl) h with ⟨hcs, -⟩ | ⟨a, len, cap, k, D, Pl, hcs, -, hlc, -, hk, -, hf⟩
  · simp at hcs
    exact ⟨none, 0, 0, [], hcs, Reads.none_, by simp⟩
  · simp only [if_true] at hk
    simp at hcs
    obtain ⟨fs, hl, hp⟩ := choose_of len (fun i (f : Fl) => f.rng ∧ ∀ (j : Nat) (u : Value), f.cs.toList[j]? = some u → W.cell? (a.add (i * 6 + j)) = some u) fun i hi => by
      obtain ⟨ys, n, -, -, hyl, hfj⟩ := hf i (by omega)
      obtain ⟨v0, z0, k0, -, t0⟩ := hfj 0 _ rfl
      obtain ⟨v1, z1, k1, -, t1⟩ := hfj 1 _ rfl
      obtain ⟨v2, z2, k2, -, t2⟩ := hfj 2 _ rfl
      obtain ⟨v3, z3, k3, -, t3⟩ := hfj 3 _ rfl
      obtain ⟨v4, z4, k4, -, t4⟩ := hfj 4 _ rfl
      obtain ⟨v5, z5, k5, -, t5⟩ := hfj 5 _ rfl
      obtain ⟨x0, e0, -, w0⟩ := DataW.trod_int Tryz.underlying3 t0
      obtain ⟨x1, e1, -, w1⟩ := DataW.trod_int Tryz.underlying3 t1
      obtain ⟨x2, e2, -⟩ := DataW.trod_string Tryz.underlying9 t2
      obtain ⟨x3, e3, -⟩ := DataW.trod_string Tryz.underlying9 t3
      obtain ⟨x4, e4, -, w4⟩ := DataW.trod_int Tryz.underlying3 t4
      obtain ⟨x5, e5, -, w5⟩ := DataW.trod_int Tryz.underlying3 t5
      simp at e0 e1 e2 e3 e4 e5
      subst e0 e1 e2 e3 e4 e5
      refine ⟨⟨x0, x1, bytesOf x2, bytesOf x3, x4, x5⟩, ⟨has64 w0, has64 w1, has64 w4, has64 w5, bytesOf_lt _, bytesOf_lt _⟩, fun j u hu => ?_⟩
      simp only [Fl.cs, strOf_bytesOf] at hu
      match j, hu with
      | 0, hu => simp at hu; subst hu; exact k0
      | 1, hu => simp at hu; subst hu; exact k1
      | 2, hu => simp at hu; subst hu; exact k2
      | 3, hu => simp at hu; subst hu; exact k3
      | 4, hu => simp at hu; subst hu; exact k4
      | 5, hu => simp at hu; subst hu; exact k5
      | j + 6, hu => simp at hu
    refine ⟨some a, len, cap, fs, hcs, ⟨by rw [fcs_len, hl], fun hpos => ⟨a, rfl, ?_, fun j u hu => ?_⟩⟩, fun f hf => ?_⟩
    · obtain ⟨f, hf0⟩ : ∃ f, fs[0]? = some f := ⟨_, List.getElem?_eq_getElem (by omega)⟩
      have := World.block_lt_of_cell? W _ ((hp 0 f hf0).2 0 _ rfl)
      rwa [block_of_add] at this
    · have hj : j < len * 6 := by have := (List.getElem?_eq_some_iff.1 hu).1; rw [fcs_len, hl] at this; exact this
      have hi : j / 6 < fs.length := by omega
      obtain ⟨f, hfi⟩ : ∃ f, fs[j / 6]? = some f := ⟨_, List.getElem?_eq_getElem hi⟩
      obtain ⟨x, hx⟩ : ∃ x, f.cs.toList[j % 6]? = some x := ⟨_, List.getElem?_eq_getElem (show j % 6 < f.cs.toList.length from Nat.mod_lt _ (by decide))⟩
      have hg := fcs_at hfi (j % 6) x hx
      rw [show j / 6 * 6 + j % 6 = j by omega, hu] at hg
      injection hg with hg
      subst hg
      have := (hp (j / 6) _ hfi).2 (j % 6) u hx
      rwa [show j / 6 * 6 + j % 6 = j by omega] at this
    · obtain ⟨j, hj, rfl⟩ := List.getElem_of_mem hf
      exact (hp j _ (List.getElem?_eq_getElem hj)).1
set_option maxRecDepth 100000 in
theorem open_dis {H : Type} {enc : TypeId × Value → H} {W : World} {v : Value} {y : DataW H × List MemPlace} {m : Nat}
    (h : DataW.trod enc Tryz.prog W 0 (fun _ => true) true m 40 [v] = some y) : ∃ A len cap l, v = .slice A len cap ∧ Reads W W.heap.size 1 A len (DI l) ∧ ∀ x ∈ l, I64 x := by
  rcases open_slice Tryz.underlying40 h with ⟨hcs, -⟩ | ⟨a, len', cap', k, n, D, Pl, hcs, -, hlc, -, hk, -, hf⟩
  · simp at hcs
    exact ⟨none, 0, 0, [], hcs, Reads.none_, by simp⟩
  · simp only [if_true] at hk
    simp at hcs
    have hC : Tryz.prog.cellsOf 3 = 1 := by kernel_rfl
    rw [hC] at hf
    obtain ⟨l, hl, hp⟩ := choose_of len' (fun i (x : Int) => I64 x ∧ W.cell? (a.add i) = some (.int .i64 x)) fun i hi => by
      obtain ⟨cs', hc, ht⟩ := hf i (by omega)
      obtain ⟨x, rfl, -, hwf⟩ := DataW.trod_int Tryz.underlying3 ht
      obtain ⟨_, _, hat⟩ := World.cells?_some hc
      have h0 := hat (i := 0) (by omega)
      refine ⟨x, has64 hwf, ?_⟩
      rw [add_of_add, Nat.mul_one, Nat.add_zero] at h0
      rw [h0]; rfl
    refine ⟨some a, len', cap', l, hcs, ⟨by simp [DI, hl], fun hpos => ⟨a, rfl, ?_, fun j u hu => ?_⟩⟩, fun x hx => ?_⟩
    · obtain ⟨x, hx⟩ : ∃ x, l[0]? = some x := ⟨_, List.getElem?_eq_getElem (by omega)⟩
      have := World.block_lt_of_cell? W _ (hp 0 x hx).2
      rwa [block_of_add] at this
    · simp only [DI, List.getElem?_map] at hu
      cases hx : l[j]? with
      | none => rw [hx] at hu; cases hu
      | some x =>
        rw [hx] at hu
        injection hu with hu
        rw [← hu]
        exact (hp j x hx).2
    · obtain ⟨j, hj, rfl⟩ := List.getElem_of_mem hx
      exact (hp j _ (List.getElem?_eq_getElem hj)).1
set_option maxRecDepth 100000 in
theorem open_edit {H : Type} {enc : TypeId × Value → H} {W : World} {base : Nat} {v : Value} {d : DataW H} {p : List MemPlace} (hv : Value.okWide Tryz.prog W .any base 42 v)
    (h : DataW.Trod enc Tryz.prog W 0 (fun _ => true) true 42 v d p) : ∃ lg nx sq A n c A' n' c' drop add, v = .agg #[.int .i64 lg, .int .i64 nx, .int .i64 sq, .slice A n c, .slice A' n' c'] ∧
      Reads W W.heap.size 1 A n (DI drop) ∧ Reads W W.heap.size 6 A' n' (fcs add) ∧ I64 lg ∧ I64 nx ∧ I64 sq ∧ (∀ x ∈ drop, I64 x) ∧ ∀ f ∈ add, Fl.rng f := by
  obtain ⟨cs, rfl, hsz⟩ := okWide_struct Tryz.underlying42 hv
  have hC : Tryz.prog.cellsOf 42 = 5 := by kernel_rfl
  have ci : Tryz.prog.cellsOf 3 = 1 := by kernel_rfl
  have cd : Tryz.prog.cellsOf 40 = 1 := by kernel_rfl
  have cf : Tryz.prog.cellsOf 32 = 1 := by kernel_rfl
  obtain ⟨l⟩ := cs
  have hsz := hsz.trans hC
  match l, hsz with
  | [c0, c1, c2, c3, c4], _ =>
    obtain ⟨fuel, hf⟩ := h
    obtain ⟨xs, n, -, -, -, hlen, hfj⟩ := DataW.trod_struct Tryz.underlying42 hf
    match xs, hlen with
    | [y0, y1, y2, y3, y4], _ =>
      have t0 := hfj 0 _ rfl
      have t1 := hfj 1 _ rfl
      have t2 := hfj 2 _ rfl
      have t3 := hfj 3 _ rfl
      have t4 := hfj 4 _ rfl
      simp [Value.cells, ci, cd, cf] at t0 t1 t2 t3 t4
      obtain ⟨x0, e0, -, w0⟩ := DataW.trod_int Tryz.underlying3 t0
      obtain ⟨x1, e1, -, w1⟩ := DataW.trod_int Tryz.underlying3 t1
      obtain ⟨x2, e2, -, w2⟩ := DataW.trod_int Tryz.underlying3 t2
      obtain ⟨A, len, cap, drop, e3, r3, b3⟩ := open_dis t3
      obtain ⟨A', len', cap', add, e4, r4, b4⟩ := open_fls t4
      simp at e0 e1 e2
      subst e0 e1 e2 e3 e4
      exact ⟨x0, x1, x2, A, len, cap, A', len', cap', drop, add, rfl, r3, r4, has64 w0, has64 w1, has64 w2, b3, b4⟩
end Go.Proofs.YtdpipgidpkmolaaGreatDoor

namespace Go.Proofs.YtdpipgidpkmolaaGreatDoor
open Go.RowKit

theorem open_nil13 (w : World) : Calls Tryz.prog 8 #[.pointer none] w fun e w' => e = .returned (.tuple #[.pointer none, .int .i64 1]) ∧ Grow w w' := by
  have bel := Below.refl w.heap.size w
  refine Calls.start 82 Tryz.func8 rfl rfl rfl ?_
  refine Cd.seq ?_
  refine Cd.region ?_
  refine Seq.val (Runs.assign rfl rfl) rfl rfl rfl ?_
  refine Seq.val (Runs.assign rfl rfl) rfl rfl rfl ?_
  refine Seq.nil ?_
  refine Post.weak (F' := [(0, _), (2, _), (3, _)]) ⟨rfl, rfl, rfl, trivial⟩ ?_
  refine Post.then_ ?_
  refine Cd.seq ?_
  refine Cd.seq ?_
  refine Cd.region ?_
  refine Seq.val (Runs.move rfl rfl) rfl rfl rfl ?_
  refine Seq.val (Runs.eqlP rfl rfl rfl Tryz.underlying26) rfl rfl rfl ?_
  refine Seq.nil ?_
  refine Post.weak (F' := [(0, _), (2, _), (3, _), (15, _)]) ⟨rfl, rfl, rfl, rfl, trivial⟩ ?_
  refine Post.then_ ?_
  refine Cd.condT rfl rfl ?_
  refine Cd.seq ?_
  refine Cd.region ?_
  refine Seq.val (Runs.assign rfl rfl) rfl rfl rfl ?_
  refine Seq.val (Runs.assign rfl rfl) rfl rfl rfl ?_
  refine Seq.nil ?_
  refine Post.weak (F' := [(0, _), (2, _), (3, _), (15, _)]) ⟨rfl, rfl, rfl, rfl, trivial⟩ ?_
  refine Post.then_ ?_
  refine Cd.ret ?_
  refine Post.then_ret ?_
  refine Post.end2 rfl rfl rfl (.inl rfl) ?_
  exact ⟨rfl, bel⟩
theorem number_nil (w : World) : Calls Tryz.prog 15 #[.pointer none] w fun e w' => e = .returned (.tuple #[.int .i64 0, .int .i64 1]) ∧ Grow w w' := by
  have bel := Below.refl w.heap.size w
  refine Calls.start 25 Tryz.func15 rfl rfl rfl ?_
  refine Cd.seq ?_
  refine Cd.region ?_
  refine Seq.val (Runs.assign rfl rfl) rfl rfl rfl ?_
  refine Seq.val (Runs.assign rfl rfl) rfl rfl rfl ?_
  refine Seq.nil ?_
  refine Post.weak (F' := [(0, _), (2, _), (3, _)]) ⟨rfl, rfl, rfl, trivial⟩ ?_
  refine Post.then_ ?_
  refine Cd.seq ?_
  refine Cd.block ?_
  refine Cd.seq ?_
  refine Cd.region ?_
  refine Seq.val (Runs.move rfl rfl) rfl rfl rfl ?_
  refine Seq.val (Runs.eqlP rfl rfl rfl Tryz.underlying28) rfl rfl rfl ?_
  refine Seq.val (Runs.assign rfl rfl) rfl rfl rfl ?_
  refine Seq.nil ?_
  refine Post.weak (F' := [(0, _), (2, _), (3, _), (4, _)]) ⟨rfl, rfl, rfl, rfl, trivial⟩ ?_
  refine Post.then_ ?_
  refine Cd.condT rfl rfl ?_
  refine Cd.seq ?_
  refine Cd.region ?_
  refine Seq.val (Runs.assign rfl rfl) rfl rfl rfl ?_
  refine Seq.val (Runs.assign rfl rfl) rfl rfl rfl ?_
  refine Seq.nil ?_
  refine Post.weak (F' := [(0, _), (2, _), (3, _), (4, _)]) ⟨rfl, rfl, rfl, rfl, trivial⟩ ?_
  refine Post.then_ ?_
  refine Cd.ret ?_
  refine Post.block_ret ?_
  refine Post.then_ret ?_
  refine Post.end2 rfl rfl rfl (.inl rfl) ?_
  exact ⟨rfl, bel⟩
theorem collect_nil (w : World) : Calls Tryz.prog 16 #[.pointer none] w fun e w' => e = .returned (.tuple #[.slice none 0 0, .int .i64 1]) ∧ Grow w w' := by
  have bel := Below.refl w.heap.size w
  refine Calls.start 31 Tryz.func16 rfl rfl rfl ?_
  refine Cd.seq ?_
  refine Cd.region ?_
  refine Seq.val (Runs.assign rfl rfl) rfl rfl rfl ?_
  refine Seq.val (Runs.assign rfl rfl) rfl rfl rfl ?_
  refine Seq.nil ?_
  refine Post.weak (F' := [(0, _), (2, _), (3, _)]) ⟨rfl, rfl, rfl, trivial⟩ ?_
  refine Post.then_ ?_
  refine Cd.seq ?_
  refine Cd.block ?_
  refine Cd.seq ?_
  refine Cd.region ?_
  refine Seq.val (Runs.move rfl rfl) rfl rfl rfl ?_
  refine Seq.val (Runs.eqlP rfl rfl rfl Tryz.underlying28) rfl rfl rfl ?_
  refine Seq.val (Runs.assign rfl rfl) rfl rfl rfl ?_
  refine Seq.nil ?_
  refine Post.weak (F' := [(0, _), (2, _), (3, _), (6, _)]) ⟨rfl, rfl, rfl, rfl, trivial⟩ ?_
  refine Post.then_ ?_
  refine Cd.condT rfl rfl ?_
  refine Cd.seq ?_
  refine Cd.region ?_
  refine Seq.val (Runs.assign rfl rfl) rfl rfl rfl ?_
  refine Seq.val (Runs.assign rfl rfl) rfl rfl rfl ?_
  refine Seq.nil ?_
  refine Post.weak (F' := [(0, _), (2, _), (3, _), (6, _)]) ⟨rfl, rfl, rfl, rfl, trivial⟩ ?_
  refine Post.then_ ?_
  refine Cd.ret ?_
  refine Post.block_ret ?_
  refine Post.then_ret ?_
  refine Post.end2 rfl rfl rfl (.inl rfl) ?_
  exact ⟨rfl, bel⟩
theorem roll_nil (w : World) : Calls Tryz.prog 13 #[.pointer none] w fun e w' => e = .returned (.int .i64 1) ∧ Grow w w' := by
  have bel := Below.refl w.heap.size w
  refine Calls.start 50 Tryz.func13 rfl rfl rfl ?_
  refine Cd.seq ?_
  refine Cd.region ?_
  refine Seq.val (Runs.assign rfl rfl) rfl rfl rfl ?_
  refine Seq.nil ?_
  refine Post.weak (F' := [(0, _), (2, _)]) ⟨rfl, rfl, trivial⟩ ?_
  refine Post.then_ ?_
  refine Cd.seq ?_
  refine Cd.block ?_
  refine Cd.seq ?_
  refine Cd.region ?_
  refine Seq.val (Runs.move rfl rfl) rfl rfl rfl ?_
  refine Seq.val (Runs.eqlP rfl rfl rfl Tryz.underlying28) rfl rfl rfl ?_
  refine Seq.val (Runs.assign rfl rfl) rfl rfl rfl ?_
  refine Seq.nil ?_
  refine Post.weak (F' := [(0, _), (2, _), (5, _)]) ⟨rfl, rfl, rfl, trivial⟩ ?_
  refine Post.then_ ?_
  refine Cd.condT rfl rfl ?_
  refine Cd.seq ?_
  refine Cd.region ?_
  refine Seq.val (Runs.assign rfl rfl) rfl rfl rfl ?_
  refine Seq.nil ?_
  refine Post.weak (F' := [(0, _), (2, _), (5, _)]) ⟨rfl, rfl, rfl, trivial⟩ ?_
  refine Post.then_ ?_
  refine Cd.ret ?_
  refine Post.block_ret ?_
  refine Post.then_ret ?_
  refine Post.end1 rfl rfl (.inl rfl) ?_
  exact ⟨rfl, bel⟩
theorem orphans_nil (w : World) : Calls Tryz.prog 17 #[.pointer none] w fun e w' => e = .returned (.slice none 0 0) ∧ Grow w w' := by
  have bel := Below.refl w.heap.size w
  refine Calls.start 12 Tryz.func17 rfl rfl rfl ?_
  refine Cd.seq ?_
  refine Cd.region ?_
  refine Seq.box rfl rfl rfl rfl rfl ?_
  intro g1 w1 n1
  have e1 := Nat.le_trans bel.size n1.ge
  replace bel := bel.step n1.below
  have k1 := n1.blk
  refine Seq.val (Runs.assign rfl rfl) rfl rfl rfl ?_
  refine Seq.nil ?_
  refine Post.weak (F' := [(0, _), (1, _), (2, _)]) ⟨rfl, rfl, rfl, trivial⟩ ?_
  refine Post.then_ ?_
  refine Cd.seq ?_
  refine Cd.seq ?_
  refine Cd.region ?_
  refine Seq.val (Runs.loadB rfl rfl Tryz.underlying28 rfl k1 rfl) rfl rfl rfl ?_
  refine Seq.val (Runs.eqlP rfl rfl rfl Tryz.underlying28) rfl rfl rfl ?_
  refine Seq.nil ?_
  refine Post.weak (F' := [(0, _), (1, _), (2, _), (4, _)]) ⟨rfl, rfl, rfl, rfl, trivial⟩ ?_
  refine Post.then_ ?_
  refine Cd.condT rfl rfl ?_
  refine Cd.seq ?_
  refine Cd.region ?_
  refine Seq.val (Runs.assign rfl rfl) rfl rfl rfl ?_
  refine Seq.nil ?_
  refine Post.weak (F' := [(0, _), (1, _), (2, _), (4, _)]) ⟨rfl, rfl, rfl, rfl, trivial⟩ ?_
  refine Post.then_ ?_
  refine Cd.ret ?_
  refine Post.then_ret ?_
  refine Post.end1 rfl rfl (.inl rfl) ?_
  exact ⟨rfl, bel⟩
theorem log_nil (lg nx sq : Int) (A A' : Option Addr) (n c n' c' : Nat) (w : World) : Calls Tryz.prog 11 #[.pointer none, .agg #[.int .i64 lg, .int .i64 nx, .int .i64 sq, .slice A n c, .slice A' n' c']] w fun e w' => e = .returned (.int .i64 1) ∧ Grow w w' := by
  have bel := Below.refl w.heap.size w
  refine Calls.start 83 Tryz.func11 rfl rfl rfl ?_
  refine Cd.seq ?_
  refine Cd.region ?_
  refine Seq.box rfl rfl rfl rfl rfl ?_
  intro g3 w1 n3
  have e3 := Nat.le_trans bel.size n3.ge
  replace bel := bel.step n3.below
  have k3 := n3.blk
  refine Seq.val (Runs.assign rfl rfl) rfl rfl rfl ?_
  refine Seq.nil ?_
  refine Post.weak (F' := [(0, _), (1, _), (3, _), (4, _)]) ⟨rfl, rfl, rfl, rfl, trivial⟩ ?_
  refine Post.then_ ?_
  refine Cd.seq ?_
  refine Cd.block ?_
  refine Cd.seq ?_
  refine Cd.region ?_
  refine Seq.val (Runs.move rfl rfl) rfl rfl rfl ?_
  refine Seq.val (Runs.eqlP rfl rfl rfl Tryz.underlying28) rfl rfl rfl ?_
  refine Seq.val (Runs.assign rfl rfl) rfl rfl rfl ?_
  refine Seq.nil ?_
  refine Post.weak (F' := [(0, _), (1, _), (3, _), (4, _), (9, _)]) ⟨rfl, rfl, rfl, rfl, rfl, trivial⟩ ?_
  refine Post.then_ ?_
  refine Cd.condT rfl rfl ?_
  refine Cd.seq ?_
  refine Cd.region ?_
  refine Seq.val (Runs.assign rfl rfl) rfl rfl rfl ?_
  refine Seq.nil ?_
  refine Post.weak (F' := [(0, _), (1, _), (3, _), (4, _), (9, _)]) ⟨rfl, rfl, rfl, rfl, rfl, trivial⟩ ?_
  refine Post.then_ ?_
  refine Cd.ret ?_
  refine Post.block_ret ?_
  refine Post.then_ret ?_
  refine Post.end1 rfl rfl (.inl rfl) ?_
  exact ⟨rfl, bel⟩
theorem refSameFiles_none (w : World) : Calls Tryz.prog 38 #[.slice none 0 0, .slice none 0 0] w fun e w' => e = .returned (.bool true) ∧ Grow w w' := by
  have bel := Below.refl w.heap.size w
  refine Calls.start 26 Tryz.func38 rfl rfl rfl ?_
  refine Cd.seq ?_
  refine Cd.region ?_
  refine Seq.val (Runs.assign rfl rfl) rfl rfl rfl ?_
  refine Seq.nil ?_
  refine Post.weak (F' := [(0, _), (1, _), (4, _)]) ⟨rfl, rfl, rfl, trivial⟩ ?_
  refine Post.then_ ?_
  refine Cd.seq ?_
  refine Cd.seq ?_
  refine Cd.region ?_
  refine Seq.val (Runs.move rfl rfl) rfl rfl rfl ?_
  refine Seq.val (Runs.len rfl rfl Tryz.underlying32) rfl rfl rfl ?_
  refine Seq.val (Runs.move rfl rfl) rfl rfl rfl ?_
  refine Seq.val (Runs.len rfl rfl Tryz.underlying32) rfl rfl rfl ?_
  refine Seq.val (Runs.neqI rfl rfl rfl) rfl rfl rfl ?_
  refine Seq.nil ?_
  refine Post.weak (F' := [(0, _), (1, _), (4, _), (10, _)]) ⟨rfl, rfl, rfl, rfl, trivial⟩ ?_
  refine Post.then_ ?_
  refine Cd.condF rfl rfl ?_
  refine Cd.skip ?_
  refine Post.then_ ?_
  refine Cd.seq ?_
  refine Cd.seq ?_
  refine Cd.region ?_
  refine Seq.val (Runs.assign rfl rfl) rfl rfl rfl ?_
  refine Seq.nil ?_
  refine Post.weak (F' := [(0, _), (1, _), (4, _), (5, _), (10, _)]) ⟨rfl, rfl, rfl, rfl, rfl, trivial⟩ ?_
  refine Post.then_ ?_
  refine Cd.block ?_
  refine Cd.loop (σ := Unit) (fun _ => [(0, .slice none 0 0), (1, .slice none 0 0), (5, .int .i64 0)]) (fun _ wr => Below w.heap.size w wr) (fun _ => 0) () bel ⟨rfl, rfl, rfl, trivial⟩ ?_
  clear bel
  rintro _ wr bel
  show Cd _ _ _ _ [(0, .slice none 0 0), (1, .slice none 0 0), (5, .int .i64 0)] _
  refine Cd.seq ?_
  refine Cd.seq ?_
  refine Cd.region ?_
  refine Seq.val (Runs.move rfl rfl) rfl rfl rfl ?_
  refine Seq.val (Runs.move rfl rfl) rfl rfl rfl ?_
  refine Seq.val (Runs.len rfl rfl Tryz.underlying32) rfl rfl rfl ?_
  refine Seq.val (Runs.lss rfl rfl rfl) rfl rfl rfl ?_
  refine Seq.nil ?_
  refine Post.weak (F' := [(0, _), (1, _), (5, _), (14, _)]) ⟨rfl, rfl, rfl, rfl, trivial⟩ ?_
  refine Post.then_ ?_
  refine Cd.cond rfl (fun h => ?_) (fun h => ?_)
  · cases h
  · skip
    refine Cd.exit ?_
    refine Post.then_exit ?_
    refine Post.round_exit ?_
    refine Post.block_exit ?_
    refine Post.then_ ?_
    refine Cd.seq ?_
    refine Cd.region ?_
    refine Seq.val (Runs.assign rfl rfl) rfl rfl rfl ?_
    refine Seq.nil ?_
    refine Post.weak (F' := [(0, _), (1, _), (4, _), (5, _), (14, _)]) ⟨rfl, rfl, rfl, rfl, rfl, trivial⟩ ?_
    refine Post.then_ ?_
    refine Cd.ret ?_
    refine Post.end1 rfl rfl (.inl rfl) ?_
    exact ⟨rfl, bel⟩
theorem refSame_none (w : World) : Calls Tryz.prog 14 #[.agg #[.int .i64 0, .int .i64 0, .int .i64 0, .slice none 0 0], .agg #[.int .i64 0, .int .i64 0, .int .i64 0, .slice none 0 0]] w fun e w' => e = .returned (.bool true) ∧ Grow w w' := by
  have bel := Below.refl w.heap.size w
  refine Calls.start 31 Tryz.func14 rfl rfl rfl ?_
  refine Cd.seq ?_
  refine Cd.region ?_
  refine Seq.box rfl rfl rfl rfl rfl ?_
  intro g2 w1 n2
  have e2 := Nat.le_trans bel.size n2.ge
  replace bel := bel.step n2.below
  have k2 := n2.blk
  refine Seq.box rfl rfl rfl rfl rfl ?_
  intro g3 w2 n3
  have e3 := Nat.le_trans bel.size n3.ge
  have l3 := Nat.lt_of_lt_of_le k2.lt n3.ge
  replace bel := bel.step n3.below
  replace k2 := k2.step n3.below
  have k3 := n3.blk
  refine Seq.val (Runs.assign rfl rfl) rfl rfl rfl ?_
  refine Seq.nil ?_
  refine Post.weak (F' := [(0, _), (1, _), (2, _), (3, _), (4, _)]) ⟨rfl, rfl, rfl, rfl, rfl, trivial⟩ ?_
  refine Post.then_ ?_
  refine Cd.seq ?_
  refine Cd.region ?_
  refine Seq.val (Runs.fieldB 0 rfl rfl Tryz.underlying34 rfl (by kernel_rfl)) rfl rfl rfl ?_
  refine Seq.val (Runs.loadB rfl rfl Tryz.underlying3 rfl k2 rfl) rfl rfl rfl ?_
  refine Seq.val (Runs.fieldB 0 rfl rfl Tryz.underlying34 rfl (by kernel_rfl)) rfl rfl rfl ?_
  refine Seq.val (Runs.loadB rfl rfl Tryz.underlying3 rfl k3 rfl) rfl rfl rfl ?_
  refine Seq.val (Runs.eqlI rfl rfl rfl) rfl rfl rfl ?_
  refine Seq.val (Runs.move rfl rfl) rfl rfl rfl ?_
  refine Seq.valG (Runs.fieldB 1 rfl rfl Tryz.underlying34 rfl (by kernel_rfl)) rfl rfl rfl rfl rfl ?_
  refine Seq.valG (Runs.loadB rfl rfl Tryz.underlying3 rfl k2 rfl) rfl rfl rfl rfl rfl ?_
  refine Seq.valG (Runs.fieldB 1 rfl rfl Tryz.underlying34 rfl (by kernel_rfl)) rfl rfl rfl rfl rfl ?_
  refine Seq.valG (Runs.loadB rfl rfl Tryz.underlying3 rfl k3 rfl) rfl rfl rfl rfl rfl ?_
  refine Seq.valG (Runs.eqlI rfl rfl rfl) rfl rfl rfl rfl rfl ?_
  refine Seq.val (Runs.pickT rfl rfl rfl) rfl rfl rfl ?_
  refine Seq.val (Runs.move rfl rfl) rfl rfl rfl ?_
  refine Seq.valG (Runs.fieldB 2 rfl rfl Tryz.underlying34 rfl (by kernel_rfl)) rfl rfl rfl rfl rfl ?_
  refine Seq.valG (Runs.loadB rfl rfl Tryz.underlying3 rfl k2 rfl) rfl rfl rfl rfl rfl ?_
  refine Seq.valG (Runs.fieldB 2 rfl rfl Tryz.underlying34 rfl (by kernel_rfl)) rfl rfl rfl rfl rfl ?_
  refine Seq.valG (Runs.loadB rfl rfl Tryz.underlying3 rfl k3 rfl) rfl rfl rfl rfl rfl ?_
  refine Seq.valG (Runs.eqlI rfl rfl rfl) rfl rfl rfl rfl rfl ?_
  refine Seq.val (Runs.pickT rfl rfl rfl) rfl rfl rfl ?_
  refine Seq.val (Runs.move rfl rfl) rfl rfl rfl ?_
  refine Seq.valG (Runs.fieldB 3 rfl rfl Tryz.underlying34 rfl (by kernel_rfl)) rfl rfl rfl rfl rfl ?_
  refine Seq.valG (Runs.loadB rfl rfl Tryz.underlying32 rfl k2 rfl) rfl rfl rfl rfl rfl ?_
  refine Seq.valG (Runs.fieldB 3 rfl rfl Tryz.underlying34 rfl (by kernel_rfl)) rfl rfl rfl rfl rfl ?_
  refine Seq.valG (Runs.loadB rfl rfl Tryz.underlying32 rfl k3 rfl) rfl rfl rfl rfl rfl ?_
  refine Seq.callG (Enters.func rfl rfl rfl (run_enter Tryz.func38 (by kernel_rfl) rfl)) rfl rfl rfl rfl rfl (refSameFiles_none _) ?_
  rintro e w7 ⟨rfl, hb7⟩
  refine ⟨_, rfl, ?_⟩
  replace bel := bel.step hb7
  replace k2 := k2.step hb7
  replace k3 := k3.step hb7
  refine Seq.val (Runs.pickT rfl rfl rfl) rfl rfl rfl ?_
  refine Seq.val (Runs.assign rfl rfl) rfl rfl rfl ?_
  refine Seq.nil ?_
  refine Post.weak (F' := [(0, _), (1, _), (2, _), (3, _), (4, _)]) ⟨rfl, rfl, rfl, rfl, rfl, trivial⟩ ?_
  refine Post.then_ ?_
  refine Cd.ret ?_
  refine Post.end1 rfl rfl (.inl rfl) ?_
  exact ⟨rfl, bel⟩
theorem zero_debentureref12_Version : zeroIs Tryz.prog 34 = some (some (.agg #[.int .i64 0, .int .i64 0, .int .i64 0, .slice none 0 0])) := by kernel_rfl
theorem run_build_rver (a b c : Int) (w : World) : (Instr.build 34 #[(0, .int .i64 a), (1, .int .i64 b), (2, .int .i64 c)]).run Tryz.prog w = .ok (.agg #[.int .i64 a, .int .i64 b, .int .i64 c, .slice none 0 0]) w := by
  have hu := Tryz.underlying34
  go_simp
theorem run_build_rver0 (w : World) : (Instr.build 34 #[]).run Tryz.prog w = .ok (.agg #[.int .i64 0, .int .i64 0, .int .i64 0, .slice none 0 0]) w := by kernel_rfl
theorem back_none (w : World) : Calls Tryz.prog 9 #[.agg #[.int .i64 0, .int .i64 0, .int .i64 0, .slice none 0 0]] w fun e w' => e = .returned (.agg #[.int .i64 0, .int .i64 0, .int .i64 0, .slice none 0 0]) ∧ Grow w w' := by
  have bel := Below.refl w.heap.size w
  refine Calls.start 30 Tryz.func9 rfl rfl rfl ?_
  refine Cd.seq ?_
  refine Cd.region ?_
  refine Seq.box rfl rfl rfl rfl rfl ?_
  intro g1 w1 n1
  have e1 := Nat.le_trans bel.size n1.ge
  replace bel := bel.step n1.below
  have k1 := n1.blk
  refine Seq.alloc rfl (run_zero zero_debentureref12_Version) rfl rfl rfl ?_
  intro g2 w2 n2
  have e2 := Nat.le_trans bel.size n2.ge
  have l2 := Nat.lt_of_lt_of_le k1.lt n2.ge
  replace bel := bel.step n2.below
  replace k1 := k1.step n2.below
  have k2 := n2.blk
  refine Seq.nil ?_
  refine Post.weak (F' := [(0, _), (1, _), (2, _)]) ⟨rfl, rfl, rfl, trivial⟩ ?_
  refine Post.then_ ?_
  refine Cd.seq ?_
  refine Cd.region ?_
  refine Seq.val (Runs.fieldB 0 rfl rfl Tryz.underlying38 rfl (by kernel_rfl)) rfl rfl rfl ?_
  refine Seq.val (Runs.loadB rfl rfl Tryz.underlying3 rfl k1 rfl) rfl rfl rfl ?_
  refine Seq.val (Runs.fieldB 1 rfl rfl Tryz.underlying38 rfl (by kernel_rfl)) rfl rfl rfl ?_
  refine Seq.val (Runs.loadB rfl rfl Tryz.underlying3 rfl k1 rfl) rfl rfl rfl ?_
  refine Seq.val (Runs.fieldB 2 rfl rfl Tryz.underlying38 rfl (by kernel_rfl)) rfl rfl rfl ?_
  refine Seq.val (Runs.loadB rfl rfl Tryz.underlying3 rfl k1 rfl) rfl rfl rfl ?_
  refine Seq.val (Runs.build rfl rfl (run_build_rver 0 0 0 _)) rfl rfl rfl ?_
  refine Seq.alloc rfl (run_zero zero_debentureref12_Version) rfl rfl rfl ?_
  intro g3 w3 n3
  have e3 := Nat.le_trans bel.size n3.ge
  have l3 := Nat.lt_of_lt_of_le k2.lt n3.ge
  have l3_k1 := Nat.lt_of_lt_of_le k1.lt n3.ge
  replace bel := bel.step n3.below
  replace k1 := k1.step n3.below
  replace k2 := k2.step n3.below
  have k3 := n3.blk
  refine Seq.storeN rfl rfl rfl rfl (m := 4) (by kernel_rfl) rfl (by repeat' first | exact trivial | apply And.intro | rfl | assumption) k3 (by simp [Value.cells]) rfl rfl ?_
  intro w4 pw4
  replace bel := bel.put k3 pw4 e3
  replace k1 := k1.put pw4 (by omega)
  replace k2 := k2.put pw4 (by omega)
  replace k3 := pw4.blk
  refine Seq.nil ?_
  refine Post.weak (F' := [(0, _), (1, _), (2, _), (3, _)]) ⟨rfl, rfl, rfl, rfl, trivial⟩ ?_
  refine Post.then_ ?_
  refine Cd.seq ?_
  refine Cd.seq ?_
  refine Cd.region ?_
  refine Seq.val (Runs.assign rfl rfl) rfl rfl rfl ?_
  refine Seq.nil ?_
  refine Post.weak (F' := [(0, _), (1, _), (2, _), (3, _), (4, _)]) ⟨rfl, rfl, rfl, rfl, rfl, trivial⟩ ?_
  refine Post.then_ ?_
  refine Cd.block ?_
  have hst : ∀ wr, Below w.heap.size w wr → True := fun _ _ => trivial
  refine Cd.loop (σ := Unit) (fun _ => [(1, .pointer (some ⟨g1, 0, none⟩)), (2, .pointer (some ⟨g2, 0, none⟩)), (3, .pointer (some ⟨g3, 0, none⟩)), (4, .int .i64 0)]) (fun _ wr => Below w.heap.size w wr ∧ Blk wr g1 38 #[.int .i64 0, .int .i64 0, .int .i64 0, .slice none 0 0] ∧ Blk wr g2 34 #[.int .i64 0, .int .i64 0, .int .i64 0, .slice none 0 0] ∧ Blk wr g3 34 #[.int .i64 0, .int .i64 0, .int .i64 0, .slice none 0 0]) (fun _ => 0) () ⟨bel, k1, k2, k3⟩ ⟨rfl, rfl, rfl, rfl, trivial⟩ ?_
  clear bel k1 k2 k3
  rintro _ wr ⟨bel, k1, k2, k3⟩
  show Cd _ _ _ _ [(1, .pointer (some ⟨g1, 0, none⟩)), (2, .pointer (some ⟨g2, 0, none⟩)), (3, .pointer (some ⟨g3, 0, none⟩)), (4, .int .i64 0)] _
  refine Cd.seq ?_
  refine Cd.seq ?_
  refine Cd.region ?_
  refine Seq.val (Runs.move rfl rfl) rfl rfl rfl ?_
  refine Seq.val (Runs.fieldB 3 rfl rfl Tryz.underlying38 rfl (by kernel_rfl)) rfl rfl rfl ?_
  refine Seq.val (Runs.loadB rfl rfl Tryz.underlying36 rfl k1 rfl) rfl rfl rfl ?_
  refine Seq.val (Runs.len rfl rfl Tryz.underlying36) rfl rfl rfl ?_
  refine Seq.val (Runs.lss rfl rfl rfl) rfl rfl rfl ?_
  refine Seq.nil ?_
  refine Post.weak (F' := [(1, _), (2, _), (3, _), (4, _), (16, _)]) ⟨rfl, rfl, rfl, rfl, rfl, trivial⟩ ?_
  refine Post.then_ ?_
  refine Cd.cond rfl (fun h => ?_) (fun h => ?_)
  · cases h
  · skip
    refine Cd.exit ?_
    refine Post.then_exit ?_
    refine Post.round_exit ?_
    refine Post.block_exit ?_
    refine Post.then_ ?_
    refine Cd.seq ?_
    refine Cd.region ?_
    refine Seq.val (Runs.loadW rfl rfl Tryz.underlying34 rfl k3 (m := 4) (by kernel_rfl) rfl) rfl rfl rfl ?_
    refine Seq.storeN rfl rfl rfl rfl (m := 4) (by kernel_rfl) rfl (by repeat' first | exact trivial | apply And.intro | rfl | assumption) k2 (by simp [Value.cells]) rfl rfl ?_
    intro w5 pw5
    replace bel := bel.put k2 pw5 e2
    replace k1 := k1.put pw5 (by omega)
    replace k3 := k3.put pw5 (by omega)
    replace k2 := pw5.blk
    refine Seq.nil ?_
    refine Post.weak (F' := [(1, _), (2, _), (3, _), (4, _), (16, _)]) ⟨rfl, rfl, rfl, rfl, rfl, trivial⟩ ?_
    refine Post.then_ ?_
    refine Cd.ret ?_
    refine Post.endC rfl rfl k2 Tryz.underlying34 rfl (m := 4) (by kernel_rfl) rfl (.inl rfl) ?_
    exact ⟨rfl, bel⟩
theorem great_one (lg nx sq : Int) (B n m c c' gb : Nat) (A A' : Option Addr) (add : List Fl) (w : World) (k : Blk w gb 44 #[.int .i64 0, .int .i64 0, .int .i64 lg, .int .i64 nx, .int .i64 sq, .slice A n c, .slice A' m c']) (hr : Reads w B 6 A' m (fcs add)) (hB : B ≤ w.heap.size) :
    Calls Tryz.prog 5 #[.slice (some ⟨gb, 0, none⟩) 1 1] w fun e w' => (∃ b, e = .returned (.bool b) ∧ (b = false → n ≤ 10 ∧ m ≤ 6)) ∧ Grow w w' := by
  have bel := Below.refl w.heap.size w
  have hfl := hr.fl_len
  have hgb := k.lt
  have hcA : ∀ wx, Below w.heap.size w wx → ∀ (j : Nat) (v : Value), #[Value.int .i64 0, .int .i64 0, .int .i64 lg, .int .i64 nx, .int .i64 sq, .slice A n c, .slice A' m c'][j]? = some v → wx.cell? ⟨gb, j, none⟩ = some v := fun wx hx j v hv => by
    rw [cell_of_row _ _ _ _ _ _ (k.step hx)]
    exact hv
  refine Calls.start 69 Tryz.func5 rfl rfl rfl ?_
  refine Cd.seq ?_
  refine Cd.region ?_
  refine Seq.val (Runs.assign rfl rfl) rfl rfl rfl ?_
  refine Seq.nil ?_
  refine Post.weak (F' := [(0, _), (2, _)]) ⟨rfl, rfl, trivial⟩ ?_
  refine Post.then_ ?_
  refine Cd.seq ?_
  refine Cd.seq ?_
  refine Cd.region ?_
  refine Seq.val (Runs.move rfl rfl) rfl rfl rfl ?_
  refine Seq.val (Runs.len rfl rfl Tryz.underlying22) rfl rfl rfl ?_
  refine Seq.val (Runs.gtr rfl rfl rfl) rfl rfl rfl ?_
  refine Seq.nil ?_
  refine Post.weak (F' := [(0, _), (2, _), (7, _)]) ⟨rfl, rfl, rfl, trivial⟩ ?_
  refine Post.then_ ?_
  refine Cd.condF rfl rfl ?_
  refine Cd.skip ?_
  refine Post.then_ ?_
  refine Cd.seq ?_
  refine Cd.seq ?_
  refine Cd.region ?_
  refine Seq.val (Runs.assign rfl rfl) rfl rfl rfl ?_
  refine Seq.nil ?_
  refine Post.weak (F' := [(0, _), (2, _), (3, _), (7, _)]) ⟨rfl, rfl, rfl, rfl, trivial⟩ ?_
  refine Post.then_ ?_
  refine Cd.block ?_
  refine Cd.loop (σ := Nat) (fun i => [(0, .slice (some ⟨gb, 0, none⟩) 1 1), (3, .int .i64 (i : Int))]) (fun i wr => i ≤ 1 ∧ (i = 1 → n ≤ 10 ∧ m ≤ 6) ∧ Below w.heap.size w wr) (fun i => 1 - i) 0 ⟨by omega, by omega, bel⟩ ⟨rfl, rfl, trivial⟩ ?_
  clear bel
  rintro i wr ⟨hi, hnm, bel⟩
  refine Cd.seq ?_
  refine Cd.seq ?_
  refine Cd.region ?_
  refine Seq.val (Runs.move rfl rfl) rfl rfl rfl ?_
  refine Seq.val (Runs.move rfl rfl) rfl rfl rfl ?_
  refine Seq.val (Runs.len rfl rfl Tryz.underlying22) rfl rfl rfl ?_
  refine Seq.val (Runs.lss rfl rfl rfl) rfl rfl rfl ?_
  refine Seq.nil ?_
  refine Post.weak (F' := [(0, _), (3, _), (11, _)]) ⟨rfl, rfl, rfl, trivial⟩ ?_
  refine Post.then_ ?_
  refine Cd.condD rfl (fun hc => ?_) (fun hc => ?_)
  · obtain rfl : i = 0 := by omega
    refine Cd.skip ?_
    refine Post.then_ ?_
    refine Cd.seq ?_
    refine Cd.block ?_
    refine Cd.seq ?_
    refine Cd.seq ?_
    refine Cd.region ?_
    refine Seq.val (Runs.move rfl rfl) rfl rfl rfl ?_
    refine Seq.val (Runs.move rfl rfl) rfl rfl rfl ?_
    refine Seq.val (Runs.indexN rfl rfl rfl Tryz.underlying22 (s := 7) (by kernel_rfl) (j := 0) rfl (by omega)) rfl rfl rfl ?_
    refine Seq.val (Runs.fieldA 2 rfl rfl Tryz.underlying44 rfl (by kernel_rfl)) rfl rfl rfl ?_
    refine Seq.val (Runs.fieldA 3 rfl rfl Tryz.underlying42 rfl (by kernel_rfl)) rfl rfl rfl ?_
    refine Seq.val (Runs.load1 rfl rfl Tryz.underlying40 rfl (hcA _ bel 5 _ rfl)) rfl rfl rfl ?_
    refine Seq.val (Runs.len rfl rfl Tryz.underlying40) rfl rfl rfl ?_
    refine Seq.val (Runs.gtr rfl rfl rfl) rfl rfl rfl ?_
    refine Seq.val (Runs.move rfl rfl) rfl rfl rfl ?_
    refine SeqC.start ?_
    refine SeqC.open rfl rfl rfl rfl rfl rfl rfl (fun hcx => Runs.move rfl rfl) ?_
    refine SeqC.next rfl rfl rfl rfl rfl rfl rfl (fun hcx => Runs.move rfl rfl) ?_
    refine SeqC.next rfl rfl rfl rfl rfl rfl rfl (fun hcx => Runs.indexN rfl rfl rfl Tryz.underlying22 (s := 7) (by kernel_rfl) (j := 0) rfl (by omega)) ?_
    refine SeqC.next rfl rfl rfl rfl rfl rfl rfl (fun hcx => Runs.fieldA 2 rfl rfl Tryz.underlying44 rfl (by kernel_rfl)) ?_
    refine SeqC.next rfl rfl rfl rfl rfl rfl rfl (fun hcx => Runs.fieldA 4 rfl rfl Tryz.underlying42 rfl (by kernel_rfl)) ?_
    refine SeqC.next rfl rfl rfl rfl rfl rfl rfl (fun hcx => Runs.load1 rfl rfl Tryz.underlying32 rfl (hcA _ bel 6 _ rfl)) ?_
    refine SeqC.next rfl rfl rfl rfl rfl rfl rfl (fun hcx => Runs.len rfl rfl Tryz.underlying32) ?_
    refine SeqC.next rfl rfl rfl rfl rfl rfl rfl (fun hcx => Runs.gtr rfl rfl rfl) ?_
    refine SeqC.or rfl rfl rfl rfl rfl rfl rfl ?_
    refine Seq.nil ?_
    refine Post.weak (F' := [(0, _), (3, _), (11, _), (31, _)]) ⟨rfl, rfl, rfl, rfl, trivial⟩ ?_
    refine Post.then_ ?_
    refine Cd.cond rfl (fun h => ?_) (fun h => ?_)
    · skip
      refine Cd.seq ?_
      refine Cd.region ?_
      refine Seq.val (Runs.assign rfl rfl) rfl rfl rfl ?_
      refine Seq.nil ?_
      refine Post.weak (F' := [(0, _), (2, _), (3, _), (11, _), (31, _)]) ⟨rfl, rfl, rfl, rfl, rfl, trivial⟩ ?_
      refine Post.then_ ?_
      refine Cd.ret ?_
      refine Post.then_ret ?_
      refine Post.block_ret ?_
      refine Post.then_ret ?_
      refine Post.round_ret ?_
      refine Post.block_ret ?_
      refine Post.then_ret ?_
      refine Post.end1 rfl rfl (.inl rfl) ?_
      exact ⟨⟨true, rfl, fun h => by cases h⟩, bel⟩
    have hnm2 : n ≤ 10 ∧ m ≤ 6 := by
      have h' : (decide ((10 : Int) < (n : Int)) || decide ((6 : Int) < (m : Int))) = false := h
      rw [Bool.or_eq_false_iff, decide_eq_false_iff_not, decide_eq_false_iff_not] at h'
      omega
    refine Cd.skip ?_
    refine Post.then_ ?_
    refine Cd.seq ?_
    refine Cd.region ?_
    refine Seq.val (Runs.assign rfl rfl) rfl rfl rfl ?_
    refine Seq.nil ?_
    refine Post.weak (F' := [(0, _), (3, _), (4, _), (11, _), (31, _)]) ⟨rfl, rfl, rfl, rfl, rfl, trivial⟩ ?_
    refine Post.then_ ?_
    refine Cd.block ?_
    refine Cd.loop (σ := Nat) (fun j => [(0, .slice (some ⟨gb, 0, none⟩) 1 1), (3, .int .i64 0), (4, .int .i64 (j : Int))]) (fun j wr => j ≤ m ∧ Below w.heap.size w wr) (fun j => m - j) 0 ⟨by omega, bel⟩ ⟨rfl, rfl, rfl, trivial⟩ ?_
    clear bel
    rintro j wr ⟨hj, bel⟩
    refine Cd.seq ?_
    refine Cd.seq ?_
    refine Cd.region ?_
    refine Seq.val (Runs.move rfl rfl) rfl rfl rfl ?_
    refine Seq.val (Runs.move rfl rfl) rfl rfl rfl ?_
    refine Seq.val (Runs.move rfl rfl) rfl rfl rfl ?_
    refine Seq.val (Runs.indexN rfl rfl rfl Tryz.underlying22 (s := 7) (by kernel_rfl) (j := 0) rfl (by omega)) rfl rfl rfl ?_
    refine Seq.val (Runs.fieldA 2 rfl rfl Tryz.underlying44 rfl (by kernel_rfl)) rfl rfl rfl ?_
    refine Seq.val (Runs.fieldA 4 rfl rfl Tryz.underlying42 rfl (by kernel_rfl)) rfl rfl rfl ?_
    refine Seq.val (Runs.load1 rfl rfl Tryz.underlying32 rfl (hcA _ bel 6 _ rfl)) rfl rfl rfl ?_
    refine Seq.val (Runs.len rfl rfl Tryz.underlying32) rfl rfl rfl ?_
    refine Seq.val (Runs.lss rfl rfl rfl) rfl rfl rfl ?_
    refine Seq.nil ?_
    refine Post.weak (F' := [(0, _), (3, _), (4, _), (40, _)]) ⟨rfl, rfl, rfl, rfl, trivial⟩ ?_
    refine Post.then_ ?_
    refine Cd.condD rfl (fun hc => ?_) (fun hc => ?_)
    · obtain ⟨f, hf⟩ : ∃ f, add[j]? = some f := ⟨_, List.getElem?_eq_getElem (show j < add.length by omega)⟩
      obtain ⟨ad, rfl, hbl, hin, hcf⟩ := hr.fl (bel.mono hB) hf
      have hc2 := hcf 2 _ rfl
      have hc3 := hcf 3 _ rfl
      refine Cd.skip ?_
      refine Post.then_ ?_
      refine Cd.seq ?_
      refine Cd.block ?_
      refine Cd.seq ?_
      refine Cd.region ?_
      refine Seq.val (Runs.move rfl rfl) rfl rfl rfl ?_
      refine Seq.val (Runs.move rfl rfl) rfl rfl rfl ?_
      refine Seq.val (Runs.indexN rfl rfl rfl Tryz.underlying22 (s := 7) (by kernel_rfl) (j := 0) rfl (by omega)) rfl rfl rfl ?_
      refine Seq.val (Runs.fieldA 2 rfl rfl Tryz.underlying44 rfl (by kernel_rfl)) rfl rfl rfl ?_
      refine Seq.val (Runs.fieldA 4 rfl rfl Tryz.underlying42 rfl (by kernel_rfl)) rfl rfl rfl ?_
      refine Seq.val (Runs.load1 rfl rfl Tryz.underlying32 rfl (hcA _ bel 6 _ rfl)) rfl rfl rfl ?_
      refine Seq.val (Runs.move rfl rfl) rfl rfl rfl ?_
      refine Seq.val (Runs.indexN rfl rfl rfl Tryz.underlying32 (s := 6) (by kernel_rfl) (j := j) rfl (by omega)) rfl rfl rfl ?_
      refine Seq.val (Runs.fieldA 2 rfl rfl Tryz.underlying60 rfl (by kernel_rfl)) rfl rfl rfl ?_
      refine Seq.val (Runs.load1 rfl rfl Tryz.underlying9 rfl hc2) rfl rfl rfl ?_
      refine Seq.val (Runs.lenL rfl rfl Tryz.underlying9) rfl rfl rfl ?_
      refine Seq.val (Runs.gtr rfl rfl rfl) rfl rfl rfl ?_
      refine Seq.val (Runs.move rfl rfl) rfl rfl rfl ?_
      refine SeqC.start ?_
      refine SeqC.open rfl rfl rfl rfl rfl rfl rfl (fun hcx => Runs.move rfl rfl) ?_
      refine SeqC.next rfl rfl rfl rfl rfl rfl rfl (fun hcx => Runs.move rfl rfl) ?_
      refine SeqC.next rfl rfl rfl rfl rfl rfl rfl (fun hcx => Runs.indexN rfl rfl rfl Tryz.underlying22 (s := 7) (by kernel_rfl) (j := 0) rfl (by omega)) ?_
      refine SeqC.next rfl rfl rfl rfl rfl rfl rfl (fun hcx => Runs.fieldA 2 rfl rfl Tryz.underlying44 rfl (by kernel_rfl)) ?_
      refine SeqC.next rfl rfl rfl rfl rfl rfl rfl (fun hcx => Runs.fieldA 4 rfl rfl Tryz.underlying42 rfl (by kernel_rfl)) ?_
      refine SeqC.next rfl rfl rfl rfl rfl rfl rfl (fun hcx => Runs.load1 rfl rfl Tryz.underlying32 rfl (hcA _ bel 6 _ rfl)) ?_
      refine SeqC.next rfl rfl rfl rfl rfl rfl rfl (fun hcx => Runs.move rfl rfl) ?_
      refine SeqC.next rfl rfl rfl rfl rfl rfl rfl (fun hcx => Runs.indexN rfl rfl rfl Tryz.underlying32 (s := 6) (by kernel_rfl) (j := j) rfl (by omega)) ?_
      refine SeqC.next rfl rfl rfl rfl rfl rfl rfl (fun hcx => Runs.fieldA 3 rfl rfl Tryz.underlying60 rfl (by kernel_rfl)) ?_
      refine SeqC.next rfl rfl rfl rfl rfl rfl rfl (fun hcx => Runs.load1 rfl rfl Tryz.underlying9 rfl hc3) ?_
      refine SeqC.next rfl rfl rfl rfl rfl rfl rfl (fun hcx => Runs.lenL rfl rfl Tryz.underlying9) ?_
      refine SeqC.next rfl rfl rfl rfl rfl rfl rfl (fun hcx => Runs.gtr rfl rfl rfl) ?_
      refine SeqC.or rfl rfl rfl rfl rfl rfl rfl ?_
      refine Seq.nil ?_
      refine Post.weak (F' := [(0, _), (3, _), (4, _), (40, _), (68, _)]) ⟨rfl, rfl, rfl, rfl, rfl, trivial⟩ ?_
      refine Post.then_ ?_
      refine Cd.cond rfl (fun h => ?_) (fun h => ?_)
      · skip
        refine Cd.seq ?_
        refine Cd.region ?_
        refine Seq.val (Runs.assign rfl rfl) rfl rfl rfl ?_
        refine Seq.nil ?_
        refine Post.weak (F' := [(0, _), (2, _), (3, _), (4, _), (40, _), (68, _)]) ⟨rfl, rfl, rfl, rfl, rfl, rfl, trivial⟩ ?_
        refine Post.then_ ?_
        refine Cd.ret ?_
        refine Post.block_ret ?_
        refine Post.then_ret ?_
        refine Post.round_ret ?_
        refine Post.block_ret ?_
        refine Post.block_ret ?_
        refine Post.then_ret ?_
        refine Post.round_ret ?_
        refine Post.block_ret ?_
        refine Post.then_ret ?_
        refine Post.end1 rfl rfl (.inl rfl) ?_
        exact ⟨⟨true, rfl, fun h => by cases h⟩, bel⟩
      · skip
        refine Cd.skip ?_
        refine Post.block_normal ?_
        refine Post.then_ ?_
        refine Cd.region ?_
        refine Seq.val (Runs.move rfl rfl) rfl rfl rfl ?_
        refine Seq.val (Runs.addI rfl rfl rfl (by omega) (by omega)) rfl rfl rfl ?_
        refine Seq.val (Runs.assign rfl rfl) rfl rfl rfl ?_
        refine Seq.nil ?_
        refine Post.weak (F' := [(0, _), (3, _), (4, _), (40, _), (68, _)]) ⟨rfl, rfl, rfl, rfl, rfl, trivial⟩ ?_
        exact Post.round (j + 1) ⟨rfl, rfl, int_at (by omega), trivial⟩ ⟨by omega, bel⟩ (by omega)
    · skip
      refine Cd.exit ?_
      refine Post.then_exit ?_
      refine Post.round_exit ?_
      refine Post.block_exit ?_
      refine Post.block_normal ?_
      refine Post.then_ ?_
      refine Cd.region ?_
      refine Seq.val (Runs.move rfl rfl) rfl rfl rfl ?_
      refine Seq.val (Runs.addI rfl rfl rfl (by omega) (by omega)) rfl rfl rfl ?_
      refine Seq.val (Runs.assign rfl rfl) rfl rfl rfl ?_
      refine Seq.nil ?_
      refine Post.weak (F' := [(0, _), (3, _), (4, _), (40, _)]) ⟨rfl, rfl, rfl, rfl, trivial⟩ ?_
      exact Post.round 1 ⟨rfl, rfl, trivial⟩ ⟨by omega, fun _ => hnm2, bel⟩ (by omega)
  · skip
    refine Cd.exit ?_
    refine Post.then_exit ?_
    refine Post.round_exit ?_
    refine Post.block_exit ?_
    refine Post.then_ ?_
    refine Cd.seq ?_
    refine Cd.region ?_
    refine Seq.val (Runs.assign rfl rfl) rfl rfl rfl ?_
    refine Seq.nil ?_
    refine Post.weak (F' := [(0, _), (2, _), (3, _), (11, _)]) ⟨rfl, rfl, rfl, rfl, trivial⟩ ?_
    refine Post.then_ ?_
    refine Cd.ret ?_
    refine Post.end1 rfl rfl (.inl rfl) ?_
    exact ⟨⟨false, rfl, fun _ => hnm (by omega)⟩, bel⟩
theorem zero_debenturelaw13_Act : zeroIs Tryz.prog 44 = some (some (.agg #[.int .i64 0, .int .i64 0, .int .i64 0, .int .i64 0, .int .i64 0, .slice none 0 0, .slice none 0 0])) := by kernel_rfl
theorem run_build_act13 (a b c : Int) (A A' : Option Addr) (m k m' k' : Nat) (w : World) : (Instr.build 44 #[(2, .agg #[.int .i64 a, .int .i64 b, .int .i64 c, .slice A m k, .slice A' m' k'])]).run Tryz.prog w = .ok (.agg #[.int .i64 0, .int .i64 0, .int .i64 a, .int .i64 b, .int .i64 c, .slice A m k, .slice A' m' k']) w := by
  have hu := Tryz.underlying44
  have hv := Tryz.underlying42
  go_simp
set_option maxHeartbeats 4000000 in
theorem walk_none13 (B : Nat) (lg nx sq : Int) (A A' : Option Addr) (n c n' c' : Nat) (add : List Fl) (w : World) (hB : B = w.heap.size) (gv : Gv w) (hr' : Reads w B 6 A' n' (fcs add)) :
    Calls Tryz.prog 4 #[.agg #[.int .i64 lg, .int .i64 nx, .int .i64 sq, .slice A n c, .slice A' n' c']] w fun e w' => e = .returned (.bool true) ∧ Grow w w' := by
  have bel := Below.refl w.heap.size w
  have hBle : B ≤ w.heap.size := Nat.le_of_eq hB
  refine Calls.start 79 Tryz.func4 rfl rfl rfl ?_
  refine Cd.seq ?_
  refine Cd.region ?_
  refine Seq.box rfl rfl rfl rfl rfl ?_
  intro g1 w1 n1
  have e1 := Nat.le_trans bel.size n1.ge
  replace bel := bel.step n1.below
  replace gv := gv.step n1.below
  have k1 := n1.blk
  refine Seq.val (Runs.assign rfl rfl) rfl rfl rfl ?_
  refine Seq.nil ?_
  refine Post.weak (F' := [(0, _), (1, _), (2, _)]) ⟨rfl, rfl, rfl, trivial⟩ ?_
  refine Post.then_ ?_
  refine Cd.seq ?_
  refine Cd.seq ?_
  refine Cd.region ?_
  refine Seq.val (Runs.loadW rfl rfl Tryz.underlying42 rfl k1 (m := 5) (by kernel_rfl) rfl) rfl rfl rfl ?_
  refine Seq.val (Runs.build rfl rfl (run_build_act13 _ _ _ _ _ _ _ _ _ _)) rfl rfl rfl ?_
  refine Seq.slice (vs := [_]) (s := 7) rfl rfl rfl Tryz.underlying22 (by kernel_rfl) (zero_debenturelaw13_Act) (by omega) (by omega) ⟨rfl, trivial⟩ rfl rfl rfl ?_
  intro g11 w2 n11
  have e11 := Nat.le_trans bel.size n11.ge
  have l11 := Nat.lt_of_lt_of_le k1.lt n11.ge
  replace bel := bel.step n11.below
  replace gv := gv.step n11.below
  replace k1 := k1.step n11.below
  have k11 := n11.blk
  replace k11 : Blk _ g11 44 #[.int .i64 0, .int .i64 0, .int .i64 lg, .int .i64 nx, .int .i64 sq, .slice A n c, .slice A' n' c'] := k11
  have hr2 := hr'.below (bel.mono hBle)
  refine Seq.call (Enters.func rfl rfl rfl (run_enter Tryz.func5 (by kernel_rfl) rfl)) rfl rfl rfl (great_one lg nx sq B n n' c c' g11 A A' add _ k11 hr2 (Nat.le_trans hBle bel.size)) ?_
  rintro e w4 ⟨⟨b, rfl, hb⟩, hb4⟩
  refine ⟨_, rfl, ?_⟩
  replace bel := bel.step hb4
  replace gv := gv.step hb4
  replace k1 := k1.step hb4
  replace k11 := k11.step hb4
  refine Seq.nil ?_
  refine Post.weak (F' := [(0, _), (1, _), (2, _), (12, _)]) ⟨rfl, rfl, rfl, rfl, trivial⟩ ?_
  refine Post.then_ ?_
  refine Cd.cond rfl (fun h => ?_) (fun h => ?_)
  · skip
    refine Cd.seq ?_
    refine Cd.region ?_
    refine Seq.call (Enters.func rfl rfl rfl (run_enter Tryz.func6 (by kernel_rfl) rfl)) rfl rfl rfl (awake13_any _ gv) ?_
    rintro e w5 ⟨rfl, hb5⟩
    refine ⟨_, rfl, ?_⟩
    replace bel := bel.step hb5
    replace gv := gv.step hb5
    replace k1 := k1.step hb5
    replace k11 := k11.step hb5
    refine Seq.val (Runs.assign rfl rfl) rfl rfl rfl ?_
    refine Seq.nil ?_
    refine Post.weak (F' := [(0, _), (1, _), (2, _), (12, _)]) ⟨rfl, rfl, rfl, rfl, trivial⟩ ?_
    refine Post.then_ ?_
    refine Cd.ret ?_
    refine Post.then_ret ?_
    refine Post.end1 rfl rfl (.inl rfl) ?_
    exact ⟨rfl, bel⟩
  have hm := hb h
  clear k11
  refine Cd.skip ?_
  refine Post.then_ ?_
  refine Cd.seq ?_
  refine Cd.region ?_
  refine Seq.call (Enters.func rfl rfl rfl (run_enter Tryz.func8 (by kernel_rfl) rfl)) rfl rfl rfl (open_nil13 _) ?_
  rintro e w5 ⟨rfl, hb5⟩
  refine ⟨_, rfl, ?_⟩
  replace bel := bel.step hb5
  replace gv := gv.step hb5
  replace k1 := k1.step hb5
  refine Seq.val (Runs.move rfl rfl) rfl rfl rfl ?_
  refine Seq.val (Runs.extract rfl rfl rfl) rfl rfl rfl ?_
  refine Seq.val (Runs.extract rfl rfl rfl) rfl rfl rfl ?_
  refine Seq.val (Runs.assign rfl rfl) rfl rfl rfl ?_
  refine Seq.val (Runs.assign rfl rfl) rfl rfl rfl ?_
  refine Seq.nil ?_
  refine Post.weak (F' := [(0, _), (1, _), (2, _), (3, _), (4, _), (12, _)]) ⟨rfl, rfl, rfl, rfl, rfl, rfl, trivial⟩ ?_
  refine Post.then_ ?_
  refine Cd.seq ?_
  refine Cd.region ?_
  refine Seq.val (Runs.move rfl rfl) rfl rfl rfl ?_
  refine Seq.call (Enters.func rfl rfl rfl (run_enter Tryz.func15 (by kernel_rfl) rfl)) rfl rfl rfl (number_nil _) ?_
  rintro e w6 ⟨rfl, hb6⟩
  refine ⟨_, rfl, ?_⟩
  replace bel := bel.step hb6
  replace gv := gv.step hb6
  replace k1 := k1.step hb6
  refine Seq.val (Runs.move rfl rfl) rfl rfl rfl ?_
  refine Seq.val (Runs.extract rfl rfl rfl) rfl rfl rfl ?_
  refine Seq.val (Runs.extract rfl rfl rfl) rfl rfl rfl ?_
  refine Seq.val (Runs.assign rfl rfl) rfl rfl rfl ?_
  refine Seq.val (Runs.assign rfl rfl) rfl rfl rfl ?_
  refine Seq.nil ?_
  refine Post.weak (F' := [(0, _), (1, _), (2, _), (3, _), (4, _), (5, _), (6, _), (12, _)]) ⟨rfl, rfl, rfl, rfl, rfl, rfl, rfl, rfl, trivial⟩ ?_
  refine Post.then_ ?_
  refine Cd.seq ?_
  refine Cd.region ?_
  refine Seq.val (Runs.move rfl rfl) rfl rfl rfl ?_
  refine Seq.call (Enters.func rfl rfl rfl (run_enter Tryz.func16 (by kernel_rfl) rfl)) rfl rfl rfl (collect_nil _) ?_
  rintro e w7 ⟨rfl, hb7⟩
  refine ⟨_, rfl, ?_⟩
  replace bel := bel.step hb7
  replace gv := gv.step hb7
  replace k1 := k1.step hb7
  refine Seq.val (Runs.move rfl rfl) rfl rfl rfl ?_
  refine Seq.val (Runs.extract rfl rfl rfl) rfl rfl rfl ?_
  refine Seq.val (Runs.extract rfl rfl rfl) rfl rfl rfl ?_
  refine Seq.val (Runs.assign rfl rfl) rfl rfl rfl ?_
  refine Seq.val (Runs.assign rfl rfl) rfl rfl rfl ?_
  refine Seq.nil ?_
  refine Post.weak (F' := [(0, _), (1, _), (2, _), (3, _), (4, _), (5, _), (6, _), (7, _), (8, _), (12, _)]) ⟨rfl, rfl, rfl, rfl, rfl, rfl, rfl, rfl, rfl, rfl, trivial⟩ ?_
  refine Post.then_ ?_
  refine Cd.seq ?_
  refine Cd.region ?_
  refine Seq.val (Runs.move rfl rfl) rfl rfl rfl ?_
  refine Seq.val (Runs.eqlP rfl rfl rfl Tryz.underlying28) rfl rfl rfl ?_
  refine Seq.val (Runs.move rfl rfl) rfl rfl rfl ?_
  refine Seq.valG (Runs.move rfl rfl) rfl rfl rfl rfl rfl ?_
  refine Seq.valG (Runs.eqlI rfl rfl rfl) rfl rfl rfl rfl rfl ?_
  refine Seq.val (Runs.pickT rfl rfl rfl) rfl rfl rfl ?_
  refine Seq.val (Runs.move rfl rfl) rfl rfl rfl ?_
  refine Seq.valG (Runs.move rfl rfl) rfl rfl rfl rfl rfl ?_
  refine Seq.valG (Runs.eqlI rfl rfl rfl) rfl rfl rfl rfl rfl ?_
  refine Seq.val (Runs.pickT rfl rfl rfl) rfl rfl rfl ?_
  refine Seq.val (Runs.move rfl rfl) rfl rfl rfl ?_
  refine Seq.valG (Runs.move rfl rfl) rfl rfl rfl rfl rfl ?_
  refine Seq.valG (Runs.eqlI rfl rfl rfl) rfl rfl rfl rfl rfl ?_
  refine Seq.val (Runs.pickT rfl rfl rfl) rfl rfl rfl ?_
  refine Seq.val (Runs.move rfl rfl) rfl rfl rfl ?_
  refine Seq.valG (Runs.move rfl rfl) rfl rfl rfl rfl rfl ?_
  refine Seq.valG (Runs.len rfl rfl Tryz.underlying54) rfl rfl rfl rfl rfl ?_
  refine Seq.valG (Runs.eqlI rfl rfl rfl) rfl rfl rfl rfl rfl ?_
  refine Seq.val (Runs.pickT rfl rfl rfl) rfl rfl rfl ?_
  refine Seq.val (Runs.move rfl rfl) rfl rfl rfl ?_
  refine Seq.valG (Runs.move rfl rfl) rfl rfl rfl rfl rfl ?_
  refine Seq.valG (Runs.eqlI rfl rfl rfl) rfl rfl rfl rfl rfl ?_
  refine Seq.val (Runs.pickT rfl rfl rfl) rfl rfl rfl ?_
  refine Seq.val (Runs.move rfl rfl) rfl rfl rfl ?_
  refine Seq.valG (Runs.move rfl rfl) rfl rfl rfl rfl rfl ?_
  refine Seq.valG (Runs.loadW rfl rfl Tryz.underlying42 rfl k1 (m := 5) (by kernel_rfl) rfl) rfl rfl rfl rfl rfl ?_
  have hr3 := hr'.below (bel.mono hBle)
  refine Seq.callG (Enters.func rfl rfl rfl (run_enter Tryz.func12 (by kernel_rfl) rfl)) rfl rfl rfl rfl rfl (of_any lg nx sq B n n' c c' A A' add _ hr3 (Nat.le_trans hBle bel.size) (by omega)) ?_
  rintro e w8 ⟨hb8, A2, c2, rfl, own⟩
  refine ⟨_, rfl, ?_⟩
  replace bel := bel.step hb8
  replace gv := gv.step hb8
  replace k1 := k1.step hb8
  refine Seq.callG (Enters.func rfl rfl rfl (run_enter Tryz.func11 (by kernel_rfl) rfl)) rfl rfl rfl rfl rfl (log_nil lg nx sq A A2 n c n' c2 _) ?_
  rintro e w9 ⟨rfl, hb9⟩
  refine ⟨_, rfl, ?_⟩
  replace bel := bel.step hb9
  replace gv := gv.step hb9
  replace k1 := k1.step hb9
  refine Seq.valG (Runs.eqlI rfl rfl rfl) rfl rfl rfl rfl rfl ?_
  refine Seq.val (Runs.pickT rfl rfl rfl) rfl rfl rfl ?_
  refine Seq.val (Runs.move rfl rfl) rfl rfl rfl ?_
  refine Seq.valG (Runs.move rfl rfl) rfl rfl rfl rfl rfl ?_
  refine Seq.callG (Enters.func rfl rfl rfl (run_enter Tryz.func13 (by kernel_rfl) rfl)) rfl rfl rfl rfl rfl (roll_nil _) ?_
  rintro e w10 ⟨rfl, hb10⟩
  refine ⟨_, rfl, ?_⟩
  replace bel := bel.step hb10
  replace gv := gv.step hb10
  replace k1 := k1.step hb10
  refine Seq.valG (Runs.eqlI rfl rfl rfl) rfl rfl rfl rfl rfl ?_
  refine Seq.val (Runs.pickT rfl rfl rfl) rfl rfl rfl ?_
  refine Seq.val (Runs.move rfl rfl) rfl rfl rfl ?_
  refine Seq.valG (Runs.move rfl rfl) rfl rfl rfl rfl rfl ?_
  refine Seq.callG (Enters.func rfl rfl rfl (run_enter Tryz.func17 (by kernel_rfl) rfl)) rfl rfl rfl rfl rfl (orphans_nil _) ?_
  rintro e w11 ⟨rfl, hb11⟩
  refine ⟨_, rfl, ?_⟩
  replace bel := bel.step hb11
  replace gv := gv.step hb11
  replace k1 := k1.step hb11
  refine Seq.valG (Runs.len rfl rfl Tryz.underlying54) rfl rfl rfl rfl rfl ?_
  refine Seq.valG (Runs.eqlI rfl rfl rfl) rfl rfl rfl rfl rfl ?_
  refine Seq.val (Runs.pickT rfl rfl rfl) rfl rfl rfl ?_
  refine Seq.val (Runs.move rfl rfl) rfl rfl rfl ?_
  refine Seq.valG (Runs.move rfl rfl) rfl rfl rfl rfl rfl ?_
  refine Seq.callG (Enters.func rfl rfl rfl (run_enter Tryz.func10 (by kernel_rfl) rfl)) rfl rfl rfl rfl rfl (version_none _) ?_
  rintro e w12 ⟨rfl, hb12⟩
  refine ⟨_, rfl, ?_⟩
  replace bel := bel.step hb12
  replace gv := gv.step hb12
  replace k1 := k1.step hb12
  refine Seq.callG (Enters.func rfl rfl rfl (run_enter Tryz.func9 (by kernel_rfl) rfl)) rfl rfl rfl rfl rfl (back_none _) ?_
  rintro e w13 ⟨rfl, hb13⟩
  refine ⟨_, rfl, ?_⟩
  replace bel := bel.step hb13
  replace gv := gv.step hb13
  replace k1 := k1.step hb13
  refine Seq.valG (Runs.build rfl rfl (run_build_rver0 _)) rfl rfl rfl rfl rfl ?_
  refine Seq.callG (Enters.func rfl rfl rfl (run_enter Tryz.func14 (by kernel_rfl) rfl)) rfl rfl rfl rfl rfl (refSame_none _) ?_
  rintro e w14 ⟨rfl, hb14⟩
  refine ⟨_, rfl, ?_⟩
  replace bel := bel.step hb14
  replace gv := gv.step hb14
  replace k1 := k1.step hb14
  refine Seq.val (Runs.pickT rfl rfl rfl) rfl rfl rfl ?_
  refine Seq.val (Runs.move rfl rfl) rfl rfl rfl ?_
  refine Seq.callG (Enters.func rfl rfl rfl (run_enter Tryz.func6 (by kernel_rfl) rfl)) rfl rfl rfl rfl rfl (awake13_any _ gv) ?_
  rintro e w15 ⟨rfl, hb15⟩
  refine ⟨_, rfl, ?_⟩
  replace bel := bel.step hb15
  replace gv := gv.step hb15
  replace k1 := k1.step hb15
  refine Seq.val (Runs.pickT rfl rfl rfl) rfl rfl rfl ?_
  refine Seq.val (Runs.assign rfl rfl) rfl rfl rfl ?_
  refine Seq.nil ?_
  refine Post.weak (F' := [(0, _), (1, _), (2, _), (3, _), (4, _), (5, _), (6, _), (7, _), (8, _), (12, _)]) ⟨rfl, rfl, rfl, rfl, rfl, rfl, rfl, rfl, rfl, rfl, trivial⟩ ?_
  refine Post.then_ ?_
  refine Cd.ret ?_
  refine Post.end1 rfl rfl (.inl rfl) ?_
  exact ⟨rfl, bel⟩
end Go.Proofs.YtdpipgidpkmolaaGreatDoor

namespace Go.Proofs.YtdpipgidpkmolaaGreatDoor
open Go.ChangeShapes Go.WideShapes Go.ChangeAt Go.Deep Go.RowKit

theorem laid_tail {P : Program} {W : World} {x : String × DataW Unit} {rest : List (String × DataW Unit)} (h : laidMet P (x :: rest) W) : laidMet P rest W := by
  obtain ⟨ps, ⟨g, t, cs, fuel, p, q, h1, h2, h3, h4, h5, rfl⟩, hn, hi⟩ := h
  exact ⟨q, h5, (List.nodup_append.1 hn).2.1, fun b off hm => hi b off (List.mem_append_right _ hm)⟩
def laidL : List (String × DataW Unit) := Rows.manifestNoneRow.laid
theorem gv_of_laid {W : World} (h : laidMetH Tryz.prog laidL W) (hs : W.ShapedOpen Tryz.prog) : Gv W := by
  rw [MakeChecks.laidMetH_plain _ _ _ (by kernel_rfl)] at h
  have h3 := laid_tail (laid_tail (show laidMet Tryz.prog (_ :: _ :: _) W from h))
  have tn : Lib.TabIs Tryz.prog W "debenture/crc.nibbles" .u32 (nibs.map Int.ofNat) := Lib.tabIs_of_head (rest := _) (g := 2) (by kernel_rfl) (by kernel_rfl) Tryz.underlying247 Tryz.underlying159 (by kernel_rfl) (by kernel_rfl) h3
  have tp : Lib.TabIs Tryz.prog W "internal/strconv.uint64pow10" .u64 Lib.pow10Tab := Lib.tabIs_of_head (rest := _) (g := 1) (by kernel_rfl) (by kernel_rfl) Tryz.underlying244 Tryz.underlying164 (by kernel_rfl) (by kernel_rfl) (laid_tail h3)
  refine ⟨⟨fun i hi => ?_⟩, tp, cell_of_shapedOpen_int (t := 3) (zero := #[.int .i64 0]) hs (of_decide_eq_true (by kernel_rfl)) (by kernel_rfl) rfl (by kernel_rfl) (by kernel_rfl) Tryz.underlying3⟩
  rw [tn.cell (g := 2) (by kernel_rfl) i (by rw [List.length_map]; exact hi)]
  congr 2
  have : ∀ i, i < 16 → (nibs.map Int.ofNat).getD i 0 = ((nibs.getD i 0 : Nat) : Int) := by decide
  exact this i hi
/-- The wrap for rows that list variables, with what the world's shape says handed on. -/
theorem lift_laid {H : Type} {enc : TypeId × Value → H} {a : Assume} {C : Checked} {os : Os} {f : FuncId} {fn : Func} {s : ChangeSpec} {X : World → Array Value → Prop} {apart fresh handsOn again : Bool}
    (hX : ∀ (w w' : World) (args : Array Value), w.heap = w'.heap → X w args → X w' args) (own : ownKnob C.prog.godebug = none) (started : os.Started) (hi : C.prog.inits.idxOf? f = none) (hfn : C.prog.funcs[f]? = some fn)
    (wit : ∃ (w : World) (tape : Tape) (i : Input), w.os = os ∧ (w.forCall tape i).Shaped C.prog ∧ i.vars = [] ∧ Input.okWide C.prog (w.forCall tape i) .any w.heap.size f i ∧
      ((s.pre enc C.prog fn [] apart (w.forCall tape i).memory i.args ∧ X (w.forCall tape i).memory i.args) ∧ sizedMet enc C.prog fn (OpenSpec.ofChange s) apart (w.forCall tape i).memory i.args) ∧ a.holds C.prog (lone (Frame.enter C.prog f i.args .normal) [] (w.forCall tape i)))
    (walk : ∀ (W : World) (base : Nat) (args : Array Value) (ds gs : List (DataW H)) (before : List MemPlace), (∀ (j : Nat) t v, fn.params[j]? = some t → args[j]? = some v → Value.okWide C.prog W .any base t v) →
      DataW.Whole enc C.prog fn.params.toList s.vars apart W args.toList ds gs before → X W args → W.ShapedOpen C.prog →
      Calls C.prog f args W fun e W' => ∃ v, e = .returned v ∧ s.post enc C.prog fn apart fresh handsOn again W args v W') :
    ReturnsInHanded a C os f .any (fun w args => (s.pre enc C.prog fn [] apart w args ∧ X w args) ∧ sizedMet enc C.prog fn (OpenSpec.ofChange s) apart w args) (s.post enc C.prog fn apart fresh handsOn again) := by
  refine returnsInHanded_of_calls own started hi wit fun w tape i _ hsh _ hok hp _ => ?_
  obtain ⟨⟨⟨ds, gs, before, hw, -⟩, hx⟩, -⟩ := hp
  obtain ⟨_, _, _, fn', hfn', _, _, _, _, hval⟩ := hok
  obtain rfl : fn' = fn := Option.some.inj (hfn'.symm.trans hfn)
  refine (walk _ _ _ ds gs before hval (DataW.Whole.of_heap (by rfl) hw) (hX _ _ _ (by rfl) hx) hsh).mono fun e W' he => ?_
  obtain ⟨v, rfl, hp⟩ := he
  exact ChangeSpec.post_blind hp
theorem own : ownKnob Tryz.prog.godebug = none := by kernel_rfl
theorem laidOut : laidOutB Tryz.prog = true := by kernel_rfl
theorem door_met (os : Os) (args : Array Value) : laidMetH Tryz.prog laidL ((World.doorLaid Tryz.prog 67 os).forCall (fun _ _ => 0) ⟨#[], args, []⟩).memory :=
  laidMetH_of_parts3 (fuel := 8) (laidMet_of_run' 8 (by kernel_rfl) (by kernel_rfl)) (by kernel_rfl) (by kernel_rfl)
end Go.Proofs.YtdpipgidpkmolaaGreatDoor


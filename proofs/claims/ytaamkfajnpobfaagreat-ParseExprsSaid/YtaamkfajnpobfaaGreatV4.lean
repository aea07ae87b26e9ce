/-
  Texts that were joined: PanQ, ParB, PanR, PanS, PanT, PanU, PanV, CutA, CutB, CutC, ParC, ParD, ClmA, ClmB, ClmC, ParE, LexK, DateE, LexL, ClmD. Conditions: what each theorem names.
-/
import Derived.Test.YtaamkfajnpobfaaGreatV3
set_option linter.unusedSectionVars false
namespace Go.Proofs.YtaamkfajnpobfaaGreat
open Go.RowKit

theorem rightExpr_all (e : Ex) (B : Nat) (v : Value) (w : World) (hrep : Rep w B e v) (hB : B ≤ w.heap.size) : Calls Tryz.prog 32 #[v] w fun en w' => en = .returned (.bool (decide (e.nodes ≤ 200) && decide (e.depth ≤ 16) && builtB e)) ∧ Grow w w' := by
 have hs := fun W (hb : Below w.heap.size w W) => sizeExpr_all e.nodes e 0 B v W (Nat.le_refl _) (by omega) (hrep.below (hb.mono hB)) (Nat.le_trans hB hb.size)
 have hbt := fun W (hb : Below w.heap.size w W) => builtExpr_any e.nodes e B v W (Nat.le_refl _) (hrep.below (hb.mono hB)) (Nat.le_trans hB hb.size)
 have hc := szF_cnt e
 have hdn := e.depth_nodes
 have hsz := szF_Sz e 0
 have hres : (decide (e.nodes ≤ 200) && decide (e.depth ≤ 16)) = (decide ((szF e 0).1 ≤ 200) && decide ((szF e 0).2 ≤ 16)) := by
  obtain ⟨c1, c2⟩ := hc
  rw [Bool.eq_iff_iff]
  simp only [Bool.and_eq_true, decide_eq_true_eq]
  constructor
  ·rintro ⟨h1, h2⟩
   rw [c2 (by omega)]
   omega
  ·rintro ⟨h1, h2⟩
   have h3 : e.nodes ≤ 200 := by omega
   rw [c2 (by omega)] at h2
   omega
 rw [hres]
 obtain ⟨A, c, rfl, -⟩ := hrep.open
 have bel := Below.refl w.heap.size w
 generalize (szF e 0) = s at *
 refine Zs 10 Tryz.func32 ?_
 refine Zsr ?_
 refine Seq.box rfl rfl rfl rfl rfl ?_
 intro g1 w1 n1
 have e1 := Nat.le_trans bel.size n1.ge
 replace bel := bel.step n1.below
 have k1 := n1.blk
 refine Za ?_
 refine Zk3 0 1 2 (Ztq ?_)
 refine Zv (Runs.loadW rfl rfl Tryz.underlying35 rfl k1 (m := 4) (by kernel_rfl) rfl) ?_
 refine Zc (Ze Tryz.func73) (hs _ bel) ?_
 rintro en w5 ⟨rfl, hb5⟩
 refine ⟨_, rfl, ?_⟩
 replace bel := bel.step hb5
 replace k1 := k1.step hb5
 refine Zc (Ze Tryz.func58) (szSmall_any s.1 s.2 _) ?_
 rintro en w6 ⟨rfl, hb6⟩
 refine ⟨_, rfl, ?_⟩
 replace bel := bel.step hb6
 replace k1 := k1.step hb6
 refine Zm ?_
 refine SeqC.start ?_
 refine Zco (fun hcx => Runs.loadW rfl rfl Tryz.underlying35 rfl k1 (m := 4) (by kernel_rfl) rfl) ?_
 refine SeqC.nextC rfl rfl rfl rfl rfl rfl rfl (fun hcx => Ze Tryz.func74) (fun hcx => hbt _ bel) ?_
 intro w2 hw2
 replace bel := bel.step hw2
 replace k1 := k1.step hw2
 refine SeqC.and rfl rfl rfl rfl rfl rfl rfl ?_
 refine Za ?_
 refine Zk3 0 1 2 (Zt (Cd.ret ?_))
 refine Post.end1 rfl rfl (.inl rfl) ?_
 exact ⟨ret1 (bool_eq (by cases (decide (s.1 ≤ 200) && decide (s.2 ≤ 16)) <;> rfl)), bel⟩
theorem right_all (t : Tm) (B : Nat) (v : Value) (w : World) (hrep : RepB w B t v) (hB : B ≤ w.heap.size) : Calls Tryz.prog 25 #[v] w fun en w' => en = .returned (.bool (rightT t)) ∧ Grow w w' := by
 have hs := fun W (hb : Below w.heap.size w W) => sizeTerm_all t.nodes t 0 B v W (Nat.le_refl _) (by omega) (hrep.below (hb.mono hB)) (Nat.le_trans hB hb.size)
 have hbt := fun W (hb : Below w.heap.size w W) => built_any t.nodes t B v W (Nat.le_refl _) (hrep.below (hb.mono hB)) (Nat.le_trans hB hb.size)
 have hc := szU_cnt t
 have hdn := t.depth_nodes
 have hres : (decide (t.nodes ≤ 200) && decide (t.depth ≤ 16)) = (decide ((szU t 0).1 ≤ 200) && decide ((szU t 0).2 ≤ 16)) := by
  obtain ⟨c1, c2⟩ := hc
  rw [Bool.eq_iff_iff]
  simp only [Bool.and_eq_true, decide_eq_true_eq]
  constructor
  ·rintro ⟨h1, h2⟩
   rw [c2 (by omega)]
   omega
  ·rintro ⟨h1, h2⟩
   have h3 : t.nodes ≤ 200 := by omega
   rw [c2 (by omega)] at h2
   omega
 unfold rightT
 rw [hres]
 obtain ⟨A, c, A', c', rfl, -⟩ := hrep.open
 have bel := Below.refl w.heap.size w
 generalize (szU t 0) = s at *
 refine Zs 10 Tryz.func25 ?_
 refine Zsr ?_
 refine Seq.box rfl rfl rfl rfl rfl ?_
 intro g1 w1 n1
 have e1 := Nat.le_trans bel.size n1.ge
 replace bel := bel.step n1.below
 have k1 := n1.blk
 refine Za ?_
 refine Zk3 0 1 2 (Ztq ?_)
 refine Zv (Runs.loadW rfl rfl Tryz.underlying25 rfl k1 (m := 4) (by kernel_rfl) rfl) ?_
 refine Zc (Ze Tryz.func57) (hs _ bel) ?_
 rintro en w5 ⟨rfl, hb5⟩
 refine ⟨_, rfl, ?_⟩
 replace bel := bel.step hb5
 replace k1 := k1.step hb5
 refine Zc (Ze Tryz.func58) (szSmall_any s.1 s.2 _) ?_
 rintro en w6 ⟨rfl, hb6⟩
 refine ⟨_, rfl, ?_⟩
 replace bel := bel.step hb6
 replace k1 := k1.step hb6
 refine Zm ?_
 refine SeqC.start ?_
 refine Zco (fun hcx => Runs.loadW rfl rfl Tryz.underlying25 rfl k1 (m := 4) (by kernel_rfl) rfl) ?_
 refine SeqC.nextC rfl rfl rfl rfl rfl rfl rfl (fun hcx => Ze Tryz.func59) (fun hcx => hbt _ bel) ?_
 intro w2 hw2
 replace bel := bel.step hw2
 replace k1 := k1.step hw2
 refine SeqC.and rfl rfl rfl rfl rfl rfl rfl ?_
 refine Za ?_
 refine Zk3 0 1 2 (Zt (Cd.ret ?_))
 refine Post.end1 rfl rfl (.inl rfl) ?_
 exact ⟨ret1 (bool_eq (by cases (decide (s.1 ≤ 200) && decide (s.2 ≤ 16)) <;> rfl)), bel⟩
end Go.Proofs.YtaamkfajnpobfaaGreat

namespace Go.Proofs.YtaamkfajnpobfaaGreat

section
variable {α β : Type}
def Mono (f : Nat → Nat → Rs α) : Prop := ∀ p d a q, f p d = .ok a q → p < q
def Def (f : Nat → Nat → Rs α) (m : Nat) : Prop := ∀ p d, m ≤ p → f p d ≠ .out
theorem Def.up {f : Nat → Nat → Rs α} {m m' : Nat} (h : Def f m) (hm : m ≤ m') : Def f m' := fun p d hp => h p d (by omega)
theorem Rs.bind_eq_ok {r : Rs α} {f : α → Nat → Rs β} {b : β} {q : Nat} (h : r.bind f = .ok b q) : ∃ a p, r = .ok a p ∧ f a p = .ok b q := by
 cases r with
 | out => cases h
 | bad p o => cases h
 | ok a p => exact ⟨a, p, rfl, h⟩
theorem Rs.bind_ne_out {r : Rs α} {f : α → Nat → Rs β} (h : r ≠ .out) (hf : ∀ a p, r = .ok a p → f a p ≠ .out) : r.bind f ≠ .out := by
 cases r with
 | out => exact absurd rfl h
 | bad p o => exact fun h => by cases h
 | ok a p => exact hf a p rfl
theorem signQ_ok {ws : List Wd} {s : List Nat} {p q : Nat} {u : Unit} (h : signQ ws s p = .ok u q) : q = p + 1 ∧ isS ws p s = true := by
 unfold signQ at h
 split at h
 ·rename_i hs
  injection h with _ h
  exact ⟨h.symm, hs⟩
 ·cases h
theorem signQ_def (ws : List Wd) (s : List Nat) (p : Nat) : signQ ws s p ≠ .out := by
 unfold signQ
 split <;> exact fun h => by cases h
theorem enterP_ok {p d q : Nat} {u : Unit} (h : enterP p d = .ok u q) : q = p ∧ d < 64 := by
 unfold enterP at h
 split at h
 ·cases h
 ·injection h with _ h
  exact ⟨h.symm, by omega⟩
theorem enterP_def (p d : Nat) : enterP p d ≠ .out := by
 unfold enterP
 split <;> exact fun h => by cases h
theorem partsP_mono (ws : List Wd) : ∀ (ones : List (Nat → Nat → Rs α)), (∀ f ∈ ones, Mono f) → ∀ first p d xs q, partsP ws ones first p d = .ok xs q → p ≤ q
 | [], _, first, p, d, xs, q, h => by injection h with _ h; omega
 | f :: r, hm, first, p, d, xs, q, h => by
  rw [partsP] at h
  obtain ⟨u, p1, h1, h⟩ := Rs.bind_eq_ok h
  obtain ⟨x, p2, h2, h⟩ := Rs.bind_eq_ok h
  obtain ⟨ys, p3, h3, h⟩ := Rs.bind_eq_ok h
  injection h with _ h
  have e1 : p ≤ p1 := by
   split at h1
   ·injection h1 with _ h1; omega
   ·have := (signQ_ok h1).1; omega
  have e2 := hm f (by simp) _ _ _ _ h2
  have e3 := partsP_mono ws r (fun g hg => hm g (by simp [hg])) _ _ _ _ _ h3
  omega
theorem partsP_def (ws : List Wd) (m : Nat) : ∀ (ones : List (Nat → Nat → Rs α)), (∀ f ∈ ones, Mono f ∧ Def f m) → ∀ first p d, m ≤ p → partsP ws ones first p d ≠ .out
 | [], _, first, p, d, _ => fun h => by cases h
 | f :: r, hm, first, p, d, hp => by
  rw [partsP]
  refine Rs.bind_ne_out ?_ fun u p1 h1 => ?_
  ·split
   ·exact fun h => by cases h
   ·exact signQ_def _ _ _
  have e1 : p ≤ p1 := by
   split at h1
   ·injection h1 with _ h1; omega
   ·have := (signQ_ok h1).1; omega
  refine Rs.bind_ne_out ((hm f (by simp)).2 _ _ (by omega)) fun x p2 h2 => ?_
  have e2 := (hm f (by simp)).1 _ _ _ _ h2
  refine Rs.bind_ne_out (partsP_def ws m r (fun g hg => hm g (by simp [hg])) _ _ _ (by omega)) fun ys p3 h3 => ?_
  exact fun h => by cases h
theorem withinP_mono (ws : List Wd) (ones : List (Nat → Nat → Rs α)) (hm : ∀ f ∈ ones, Mono f) {p d : Nat} {xs : List α} {q : Nat} (h : withinP ws ones p d = .ok xs q) : p + 2 ≤ q := by
 unfold withinP at h
 obtain ⟨u, p1, h1, h⟩ := Rs.bind_eq_ok h
 obtain ⟨u2, p2, h2, h⟩ := Rs.bind_eq_ok h
 obtain ⟨ys, p3, h3, h⟩ := Rs.bind_eq_ok h
 obtain ⟨u3, p4, h4, h⟩ := Rs.bind_eq_ok h
 injection h with _ h
 have := (signQ_ok h1).1
 have := (enterP_ok h2).1
 have := partsP_mono ws ones hm _ _ _ _ _ h3
 have := (signQ_ok h4).1
 omega
theorem withinP_def (ws : List Wd) (ones : List (Nat → Nat → Rs α)) {p : Nat} (d : Nat) (hm : ∀ f ∈ ones, Mono f ∧ Def f (p + 1)) : withinP ws ones p d ≠ .out := by
 unfold withinP
 refine Rs.bind_ne_out (signQ_def _ _ _) fun u p1 h1 => ?_
 refine Rs.bind_ne_out (enterP_def _ _) fun u2 p2 h2 => ?_
 have := (signQ_ok h1).1
 have := (enterP_ok h2).1
 refine Rs.bind_ne_out (partsP_def ws (p + 1) ones hm _ _ _ (by omega)) fun xs p3 h3 => ?_
 refine Rs.bind_ne_out (signQ_def _ _ _) fun u3 p4 h4 => ?_
 exact fun h => by cases h
theorem nameP_eq {ws : List Wd} {p q : Nat} {x : List Nat} (h : nameP ws p = .ok x q) : q = p + 1 ∧ x = (wAt ws p).text ∧ (wAt ws p).kind = 3 ∧ reservedB (wAt ws p).text = false := by
 unfold nameP at h
 split at h
 ·rename_i hs
  injection h with h1 h
  exact ⟨h.symm, h1.symm, hs.1, hs.2⟩
 ·cases h
theorem nameP_def (ws : List Wd) (p : Nat) : nameP ws p ≠ .out := by
 unfold nameP
 split <;> exact fun h => by cases h
theorem calledP_mono {ws : List Wd} {E0 : Nat → Nat → Rs Ex} (hE : Mono E0) {op : Int} {k p d : Nat} {x : Ex} {q : Nat} (h : calledP ws E0 op k p d = .ok x q) : p < q := by
 unfold calledP at h
 obtain ⟨xs, p1, h1, h⟩ := Rs.bind_eq_ok h
 injection h with _ h
 have := withinP_mono ws _ (fun f hf => (List.mem_replicate.1 hf).2 ▸ hE) h1
 omega
theorem calledP_def {ws : List Wd} {E0 : Nat → Nat → Rs Ex} (hE : Mono E0) {op : Int} {k p d : Nat} (hd : Def E0 (p + 1)) : calledP ws E0 op k p d ≠ .out := by
 unfold calledP
 refine Rs.bind_ne_out (withinP_def ws _ d fun f hf => (List.mem_replicate.1 hf).2 ▸ ⟨hE, hd.up (by omega)⟩) fun xs p1 h1 => ?_
 exact fun h => by cases h
theorem atomP_mono {ws : List Wd} {E0 : Nat → Nat → Rs Ex} (hE : Mono E0) : Mono (atomP ws E0) := by
 intro p d x q h
 unfold atomP at h
 repeat' split at h
 all_goals first
  | exact calledP_mono hE h
  | (injection h with _ h; omega)
  | (obtain ⟨nm, p1, h1, h⟩ := Rs.bind_eq_ok h; injection h with _ h; have := (nameP_eq h1).1; omega)
  | (obtain ⟨xs, p1, h1, h⟩ := Rs.bind_eq_ok h; injection h with _ h; have := withinP_mono ws _ (fun f hf => (List.mem_singleton.1 hf) ▸ hE) h1; omega)
  | cases h
theorem atomP_def {ws : List Wd} {E0 : Nat → Nat → Rs Ex} (hE : Mono E0) {p d : Nat} (hd : Def E0 (p + 1)) : atomP ws E0 p d ≠ .out := by
 unfold atomP
 repeat' split
 all_goals first
  | exact calledP_def hE hd
  | exact fun h => by cases h
  | exact Rs.bind_ne_out (nameP_def _ _) fun nm p1 h1 => fun h => by cases h
  | exact Rs.bind_ne_out (withinP_def ws _ d fun f hf => (List.mem_singleton.1 hf) ▸ ⟨hE, hd⟩) fun xs p1 h1 => fun h => by cases h
theorem aheadP_mono {S : Nat → Nat → Rs Ex} (hS : Mono S) (op : Int) : Mono (aheadP S op) := by
 intro p d x q h
 unfold aheadP at h
 obtain ⟨u, p1, h1, h⟩ := Rs.bind_eq_ok h
 obtain ⟨y, p2, h2, h⟩ := Rs.bind_eq_ok h
 injection h with _ h
 have := (enterP_ok h1).1
 have := hS _ _ _ _ h2
 omega
theorem aheadP_def {S : Nat → Nat → Rs Ex} (op : Int) {p d : Nat} (hS : Def S (p + 1)) : aheadP S op p d ≠ .out := by
 unfold aheadP
 refine Rs.bind_ne_out (enterP_def _ _) fun u p1 h1 => ?_
 have := (enterP_ok h1).1
 exact Rs.bind_ne_out (hS _ _ (by omega)) fun y p2 h2 => fun h => by cases h
theorem unaryP_mono {ws : List Wd} {S E0 : Nat → Nat → Rs Ex} (hS : Mono S) (hE : Mono E0) : Mono (unaryP ws S E0) := by
 intro p d x q h
 unfold unaryP at h
 split at h
 ·exact aheadP_mono hS _ _ _ _ _ h
 ·split at h
  ·exact aheadP_mono hS _ _ _ _ _ h
  ·exact atomP_mono hE _ _ _ _ h
theorem unaryP_def {ws : List Wd} {S E0 : Nat → Nat → Rs Ex} (hE : Mono E0) {p d : Nat} (hS : Def S (p + 1)) (hd : Def E0 (p + 1)) : unaryP ws S E0 p d ≠ .out := by
 unfold unaryP
 split
 ·exact aheadP_def _ hS
 ·split
  ·exact aheadP_def _ hS
  ·exact atomP_def hE hd
end
structure PMono (f : PF) : Prop where
 E : ∀ lvl, Mono (f.E lvl)
 L : ∀ lvl x p d a q, f.L lvl x p d = .ok a q → p ≤ q
 S : Mono f.S
theorem loopP_mono {ws : List Wd} {f : PF} (h : PMono f) {lvl : Nat} {x : Ex} {p d : Nat} {a : Ex} {q : Nat} (hl : loopP ws f lvl x p d = .ok a q) : p ≤ q := by
 unfold loopP at hl
 cases ho : opAt ws lvl p with
 | none => rw [ho] at hl; injection hl with _ hl; omega
 | some op =>
  rw [ho] at hl
  obtain ⟨r, p1, h1, hl⟩ := Rs.bind_eq_ok hl
  have := h.E _ _ _ _ _ h1
  split at hl
  ·injection hl with _ hl; omega
  ·have := h.L _ _ _ _ _ _ hl; omega
theorem levN_mono {L : Nat → Ex → Nat → Nat → Rs Ex} {S : Nat → Nat → Rs Ex} (hL : ∀ lvl x p d a q, L lvl x p d = .ok a q → p ≤ q) (hS : Mono S) : ∀ j, Mono (levN L S j)
 | 0 => hS
 | j + 1 => fun p d a q h => by
  rw [levN] at h
  obtain ⟨x, p1, h1, h⟩ := Rs.bind_eq_ok h
  have := levN_mono hL hS j _ _ _ _ h1
  have := hL _ _ _ _ _ _ h
  omega
theorem fuelP_mono (ws : List Wd) : ∀ n, PMono (fuelP ws n)
 | 0 => ⟨fun _ _ _ _ _ h => (by cases h), fun _ _ _ _ _ _ h => (by cases h), fun _ _ _ _ h => (by cases h)⟩
 | n + 1 => by
  have ih := fuelP_mono ws n
  have hL : ∀ lvl x p d a q, loopP ws (fuelP ws n) lvl x p d = .ok a q → p ≤ q := fun lvl x p d a q h => loopP_mono ih h
  have hS := unaryP_mono (ws := ws) ih.S (ih.E 0)
  exact ⟨fun lvl => levN_mono hL hS _, hL, hS⟩
theorem opAt_lt {ws : List Wd} {lvl p : Nat} {op : Int} (h : opAt ws lvl p = some op) : p < ws.length := by
 rcases Nat.lt_or_ge p ws.length with h1 | h1
 ·exact h1
 ·unfold opAt wAt at h
  rw [List.getD_eq_getElem?_getD, List.getElem?_eq_none h1] at h
  simp at h
structure PDef (f : PF) (m : Nat) : Prop where
 E : ∀ lvl, Def (f.E lvl) m
 L : ∀ lvl x p d, m ≤ p → f.L lvl x p d ≠ .out
 S : Def f.S m
theorem loopP_def {ws : List Wd} {f : PF} (hm : PMono f) {m : Nat} (h : PDef f (m + 1)) {lvl : Nat} {x : Ex} {p d : Nat} (hp : m ≤ p) : loopP ws f lvl x p d ≠ .out := by
 unfold loopP
 cases ho : opAt ws lvl p with
 | none => exact fun h => by cases h
 | some op =>
  refine Rs.bind_ne_out (h.E _ _ _ (by omega)) fun r p1 h1 => ?_
  have := hm.E _ _ _ _ _ h1
  split
  ·exact fun h => by cases h
  ·exact h.L _ _ _ _ (by omega)
theorem levN_def {L : Nat → Ex → Nat → Nat → Rs Ex} {S : Nat → Nat → Rs Ex} {m : Nat} (hLm : ∀ lvl x p d a q, L lvl x p d = .ok a q → p ≤ q) (hSm : Mono S) (hL : ∀ lvl x p d, m ≤ p → L lvl x p d ≠ .out) (hS : Def S m) : ∀ j, Def (levN L S j) m
 | 0 => hS
 | j + 1 => fun p d hp => by
  rw [levN]
  refine Rs.bind_ne_out (levN_def hLm hSm hL hS j _ _ hp) fun x p1 h1 => ?_
  have := levN_mono hLm hSm j _ _ _ _ h1
  exact hL _ _ _ _ (by omega)
theorem wAt_end {ws : List Wd} {p : Nat} (h : ws.length ≤ p) : wAt ws p = ⟨-1, [], 0, 0⟩ := by
 unfold wAt
 rw [List.getD_eq_getElem?_getD, List.getElem?_eq_none h]
 rfl
theorem unaryP_end {ws : List Wd} {p : Nat} (h : ws.length ≤ p) (S E0 : Nat → Nat → Rs Ex) (d : Nat) : unaryP ws S E0 p d = .bad p false := by
 unfold unaryP isS atomP
 rw [wAt_end h]
 rfl
theorem loopP_end {ws : List Wd} {p : Nat} (h : ws.length ≤ p) (f : PF) (lvl : Nat) (x : Ex) (d : Nat) : loopP ws f lvl x p d = .ok x p := by
 unfold loopP
 cases ho : opAt ws lvl p with
 | none => rfl
 | some op => have := opAt_lt ho; omega
theorem fuelP_def (ws : List Wd) : ∀ n m, ws.length < n + 1 + m → PDef (fuelP ws (n + 1)) m
 | 0, m, h => by
  have im := fuelP_mono ws 0
  have hLm : ∀ lvl x p d a q, loopP ws (fuelP ws 0) lvl x p d = .ok a q → p ≤ q := fun lvl x p d a q h => loopP_mono im h
  have hSm := unaryP_mono (ws := ws) im.S (im.E 0)
  have hL : ∀ lvl x p d, m ≤ p → loopP ws (fuelP ws 0) lvl x p d ≠ .out := fun lvl x p d hp => by rw [loopP_end (by omega)]; exact fun h => by cases h
  have hS : Def (unaryP ws (fuelP ws 0).S ((fuelP ws 0).E 0)) m := fun p d hp => by rw [unaryP_end (by omega)]; exact fun h => by cases h
  exact ⟨fun lvl => levN_def hLm hSm hL hS _, hL, hS⟩
 | n + 1, m, h => by
  have ih := fuelP_def ws n (m + 1) (by omega)
  have im := fuelP_mono ws (n + 1)
  have hLm : ∀ lvl x p d a q, loopP ws (fuelP ws (n + 1)) lvl x p d = .ok a q → p ≤ q := fun lvl x p d a q h => loopP_mono im h
  have hSm := unaryP_mono (ws := ws) im.S (im.E 0)
  have hL : ∀ lvl x p d, m ≤ p → loopP ws (fuelP ws (n + 1)) lvl x p d ≠ .out := fun lvl x p d hp => loopP_def im ih hp
  have hS : Def (unaryP ws (fuelP ws (n + 1)).S ((fuelP ws (n + 1)).E 0)) m := fun p d hp => unaryP_def (im.E 0) (ih.S.up (by omega)) ((ih.E 0).up (by omega))
  exact ⟨fun lvl => levN_def hLm hSm hL hS _, hL, hS⟩
theorem Rs.map_ok {α β : Type} {r : Rs α} {f : α → β} {b : β} {q : Nat} (h : r.map f = .ok b q) : ∃ a, r = .ok a q ∧ b = f a := by
 unfold Rs.map at h
 obtain ⟨a, p, h1, h⟩ := Rs.bind_eq_ok h
 injection h with h2 h3
 exact ⟨a, by rw [h1, h3], h2.symm⟩
theorem onesP_mem {E0 : Nat → Nat → Rs Ex} {T : Nat → Nat → Rs Tm} {n m : Nat} {f : Nat → Nat → Rs Part} (h : f ∈ onesP E0 T n m) : f = (fun p d => (E0 p d).map .inl) ∨ f = (fun p d => (T p d).map .inr) := by
 unfold onesP at h
 rcases List.mem_append.1 h with h | h
 ·exact .inl (List.mem_replicate.1 h).2
 ·exact .inr (List.mem_replicate.1 h).2
theorem onesP_mono {E0 : Nat → Nat → Rs Ex} {T : Nat → Nat → Rs Tm} (hE : Mono E0) (hT : Mono T) {n m : Nat} : ∀ f ∈ onesP E0 T n m, Mono f := fun f hf p d a q h => by
 rcases onesP_mem hf with rfl | rfl
 ·obtain ⟨x, h1, -⟩ := Rs.map_ok h
  exact hE _ _ _ _ h1
 ·obtain ⟨x, h1, -⟩ := Rs.map_ok h
  exact hT _ _ _ _ h1
theorem onesP_def {E0 : Nat → Nat → Rs Ex} {T : Nat → Nat → Rs Tm} {k : Nat} (hE : Def E0 k) (hT : Def T k) {n m : Nat} : ∀ f ∈ onesP E0 T n m, Def f k := fun f hf p d hp => by
 rcases onesP_mem hf with rfl | rfl
 ·exact Rs.bind_ne_out (hE _ _ hp) fun a q h => fun h => by cases h
 ·exact Rs.bind_ne_out (hT _ _ hp) fun a q h => fun h => by cases h
theorem termP_mono {ws : List Wd} {E0 : Nat → Nat → Rs Ex} {T : Nat → Nat → Rs Tm} (hE : Mono E0) (hT : Mono T) : Mono (termP ws E0 T) := by
 intro p d x q h
 unfold termP at h
 repeat' split at h
 ·cases h
 ·injection h with _ h; omega
 ·obtain ⟨xs, p1, h1, h⟩ := Rs.bind_eq_ok h
  injection h with _ h
  have := withinP_mono ws _ (fun f hf => (List.mem_singleton.1 hf) ▸ fun p d a q h => by have := (nameP_eq h).1; omega) h1
  omega
 ·cases h
 ·obtain ⟨xs, p1, h1, h⟩ := Rs.bind_eq_ok h
  injection h with _ h
  have := withinP_mono ws _ (onesP_mono hE hT) h1
  omega
theorem termP_def {ws : List Wd} {E0 : Nat → Nat → Rs Ex} {T : Nat → Nat → Rs Tm} (hE : Mono E0) (hT : Mono T) {p d : Nat} (dE : Def E0 (p + 1)) (dT : Def T (p + 1)) : termP ws E0 T p d ≠ .out := by
 unfold termP
 repeat' split
 ·exact fun h => by cases h
 ·exact fun h => by cases h
 ·refine Rs.bind_ne_out (withinP_def ws _ d fun f hf => (List.mem_singleton.1 hf) ▸ ⟨fun p d a q h => by have := (nameP_eq h).1; omega, fun p d _ => nameP_def ws p⟩) fun xs p1 h1 => fun h => by cases h
 ·exact fun h => by cases h
 ·refine Rs.bind_ne_out (withinP_def ws _ d fun f hf => ⟨onesP_mono hE hT f hf, onesP_def (dE.up (by omega)) (dT.up (by omega)) f hf⟩) fun xs p1 h1 => fun h => by cases h
theorem fuelT_mono (ws : List Wd) : ∀ n, Mono (fuelT ws n)
 | 0 => fun _ _ _ _ h => (by cases h)
 | n + 1 => fun p d x q h => termP_mono ((fuelP_mono ws (n + 1)).E 0) (fuelT_mono ws n) p d x q h
theorem termP_end {ws : List Wd} {p : Nat} (h : ws.length ≤ p) (E0 : Nat → Nat → Rs Ex) (T : Nat → Nat → Rs Tm) (d : Nat) : termP ws E0 T p d = .bad p false := by
 unfold termP
 rw [wAt_end h]
 rfl
theorem fuelT_def (ws : List Wd) : ∀ n m, ws.length < n + 1 + m → Def (fuelT ws (n + 1)) m
 | 0, m, h => fun p d hp => by
  show termP ws _ _ p d ≠ .out
  rw [termP_end (by omega)]
  exact fun h => by cases h
 | n + 1, m, h => fun p d hp => by
  have hE := (fuelP_def ws (n + 1) (m + 1) (by omega)).E 0
  have hT := fuelT_def ws n (m + 1) (by omega)
  exact termP_def ((fuelP_mono ws (n + 2)).E 0) (fuelT_mono ws (n + 1)) (hE.up (by omega)) (hT.up (by omega))
def exprQ (ws : List Wd) : Rs Ex := (fuelP ws (ws.length + 1)).E 0 0 0
def termQ (ws : List Wd) : Rs Tm := fuelT ws (ws.length + 1) 0 0
theorem exprQ_ne (ws : List Wd) : exprQ ws ≠ .out := (fuelP_def ws ws.length 0 (by omega)).E 0 0 0 (Nat.le_refl _)
theorem termQ_ne (ws : List Wd) : termQ ws ≠ .out := fuelT_def ws ws.length 0 (by omega) 0 0 (Nat.le_refl _)
end Go.Proofs.YtaamkfajnpobfaaGreat

namespace Go.Proofs.YtaamkfajnpobfaaGreat
open Go.RowKit

section
variable {P : Program} {n : Nat} {F : List (Nat × Value)} {w : World} {v v' : Value}
theorem Post.endC3 {fn : Func} {R : Ending → World → Prop} {e : Exit} {p q s g : Nat} {ty t : TypeId} {cs : Array Value} {dsc : TypeDesc} (hr : fn.results = #[.cell p ty, .tmp q, .tmp s]) (hl : look F p = some (.pointer (some ⟨g, 0, none⟩))) (hq : look F q = some v) (hq' : look F s = some v') (hb : Blk w g t cs) (hu : P.underlying ty = some dsc)
  (hd : (match dsc with | .struct _ | .array _ _ => true | _ => false) = true) {m : Nat} (hs : sizeIs P ty m = true) (hm : cs.size = m) (he : e = .ret ∨ e = .normal) (h : R (.returned (.tuple #[.agg cs, v, v'])) w) : Post (bodyPost P fn R) e n F w := by
 refine Post.end_ (fun a ha => ?_) he h
 ·have hp' : a.tmps[p]?.getD undef = .pointer (some ⟨g, 0, none⟩) := by simp [ha.slot p _ hl]
  have e := run_loadVar_row (P := P) w g t ty cs (0, 0) dsc hb hu (by cases dsc <;> first | rfl | (simp at hd)) (by obtain ⟨inf, hi, hsz⟩ := sizeIs_spec hs; rw [hi, hm, ← hsz]; rfl)
  simp [results, hr, hp', asAddr, e, ha.slot q _ hq, ha.slot s _ hq']
end
def zeroTm : Tm := .mk 0 [] [] []
def zeroEx : Ex := .mk 0 0 [] []
theorem RepT.zero (W : World) (S : Nat → Prop) : RepT W S zeroTm (.agg #[.int .i64 0, .string (strOf []), .slice none 0 0, .slice none 0 0]) :=
 .mk (vs := []) (us := []) rfl rfl (by simp) (by simp) (by unfold I64; decide) (by simp) (by simp) (fun i e v h => by simp at h) (fun i e v h => by simp at h) (fun h => absurd rfl h) (fun h => absurd rfl h)
theorem RepE.zero (W : World) (S : Nat → Prop) : RepE W S zeroEx (.agg #[.int .i64 0, .int .i64 0, .string (strOf []), .slice none 0 0]) :=
 .mk (vs := []) rfl (by simp) (by unfold I64; decide) (by unfold I64; decide) (by simp) (by simp) (fun i e v h => by simp at h) (fun h => absurd rfl h)
def parseT (l : List Nat) : Tm × Nat × Int := if (parAt l (termQ (lexAll l).1)).2 ≠ 0 then (zeroTm, (parAt l (termQ (lexAll l).1)).1, (parAt l (termQ (lexAll l).1)).2) else match termQ (lexAll l).1 with
 | .ok x _ => if rightT x = true then (x, 0, 0) else (zeroTm, 0, 13)
 | _ => (zeroTm, 0, 0)
theorem parAt_zero {α : Type} {l : List Nat} {r : Rs α} (h : (parAt l r).2 = 0) : (parAt l r).1 = 0 := by
 unfold parAt at h ⊢
 by_cases h4 : 4000 < l.length
 ·rw [if_pos h4]
 ·rw [if_neg h4] at h ⊢
  cases h2 : (lexAll l).2 with
  | some p => rw [h2] at h; cases h
  | none =>
   rw [h2] at h
   cases r with
   | out => rfl
   | bad p ov => cases ov <;> cases h
   | ok a p =>
    dsimp only at h ⊢
    split at h
    ·rename_i h3; rw [if_pos h3]
    ·cases h
theorem InT.kept {gt : Nat} {w W0 W W' : World} {a : Tm} {g : Nat} (h : InT gt W0 a W) (hgt : gt < w.heap.size) (h2 : w.heap.size ≤ g) (h3 : g < W0.heap.size) (h4 : W0.heap.size ≤ W.heap.size) (h5 : W.heap.size ≤ W'.heap.size) (h6 : ∀ k, k < W.heap.size → k ≠ g → W'.heap[k]? = W.heap[k]?) : InT gt w a W' := by
 obtain ⟨S, v, h7, h8, h9⟩ := h
 refine ⟨S, v, ?_, h8.mono (fun _ h => h) (fun p hp => World.cell?_of_block (h6 _ (h9 _ hp).2 (by have := (h9 _ hp).1; omega))), fun b hb => ⟨by have := (h9 b hb).1; omega, by have := (h9 b hb).2; omega⟩⟩
 unfold Blk at h7 ⊢
 rw [h6 gt (by omega) (by omega)]
 exact h7
theorem run_build_T0 (w : World) : (Instr.build 25 #[]).run Tryz.prog w = .ok (.agg #[.int .i64 0, .string (strOf []), .slice none 0 0, .slice none 0 0]) w := by kernel_rfl
theorem run_build_E0 (w : World) : (Instr.build 35 #[]).run Tryz.prog w = .ok (.agg #[.int .i64 0, .int .i64 0, .string (strOf []), .slice none 0 0]) w := by kernel_rfl
theorem parse_any (l : List Nat) (w : World) (hl : ∀ x ∈ l, x < 256) (hlen : l.length ≤ 9223372036854775807) :
  Calls Tryz.prog 7 #[.string (strOf l)] w fun e w' => Below w.heap.size w w' ∧ ∃ (v : Value) (S : Nat → Prop), e = .returned (.tuple #[v, .int .i64 ((parseT l).2.1 : Int), .int .i64 (parseT l).2.2]) ∧ RepT w' S (parseT l).1 v ∧ ∀ b, S b → w.heap.size ≤ b ∧ b < w'.heap.size := by
 have bel := Below.refl w.heap.size w
 refine Zs 27 Tryz.func7 ?_
 refine Zsr ?_
 refine Zl zero_api_Term ?_
 intro g2 w1 n2
 have e2 := Nat.le_trans bel.size n2.ge
 replace bel := bel.step n2.below
 have k2 := n2.blk
 refine Za ?_
 refine Za ?_
 refine Zk4 0 2 3 4 (Ztq ?_)
 refine Zl zero_api_Term ?_
 intro g5 w2 n5
 have e5 := Nat.le_trans bel.size n5.ge
 have l5 := Nat.lt_of_lt_of_le k2.lt n5.ge
 replace bel := bel.step n5.below
 replace k2 := k2.step n5.below
 have k5 := n5.blk
 refine Zk5 0 2 3 4 5 (Ztq ?_)
 refine Zm ?_
 refine Zv (Runs.makeFunc (v := .func (.func 23) #[] #[.pointer (some ⟨g5, 0, none⟩)]) rfl (show evL _ _ = some [] from rfl) (show evL _ _ = some [.pointer (some ⟨g5, 0, none⟩)] from rfl) rfl) ?_
 have hg5 := k5.lt
 have hps := parsed_any l hl hlen 23 [.pointer (some ⟨g5, 0, none⟩)] g5 (termQ (lexAll l).1) (InT g5) (InT g5 w2) w2 (Nat.le_of_lt hg5) (fun args w => run_enter Tryz.func23 (by kernel_rfl) rfl args w) (termQ_ne _)
  (fun a W0 W W' g h1 h2 h3 h4 h5 h6 => h1.kept hg5 h2 h3 h4 h5 h6)
  (fun K hK hw h2 hg hA W hb hp => by
   have := parseC_any K hK ((lexAll l).1.length + 1) g5 g5 W hp (k5.step hb) (by omega) (Nat.le_refl _) (fun ad ha => by have := hA ad ha; omega) (by rw [hw]; exact termQ_ne _)
   rw [hw] at this
   exact this)
 refine Zc (Ze Tryz.func22) (hps) ?_
 rintro e w6 ⟨hb6, kp6, rfl, hok⟩
 refine ⟨_, rfl, ?_⟩
 have bel6 : Below w.heap.size w w6 := bel.trans (hb6.mono e5)
 have k2' : Blk w6 g2 25 _ := (show w6.heap[g2]? = w2.heap[g2]? from hb6.block g2 l5).trans k2
 have hlt6 := bel6.size
 clear bel k5 k2
 have bel := bel6
 have k2 := k2'
 have hA := parAt_zero (l := l) (r := termQ (lexAll l).1)
 obtain ⟨z, hz⟩ : ∃ z, (parAt l (termQ (lexAll l).1)).2 = z := ⟨_, rfl⟩
 obtain ⟨y, hy⟩ : ∃ y, (parAt l (termQ (lexAll l).1)).1 = y := ⟨_, rfl⟩
 rw [hz] at hok hA ⊢
 rw [hy] at hA ⊢
 by_cases hz0 : z = 0
 ·obtain ⟨x, q, hx, S, v, k5, hrep, hS⟩ := hok hz0
  have hps2 : parseT l = if rightT x = true then (x, 0, 0) else (zeroTm, 0, 13) := by unfold parseT; rw [if_neg (by rw [hz]; exact fun h => h hz0), hx]
  obtain rfl := hA hz0
  subst hz0
  have hrb : RepB w6 w6.heap.size x v := hrep.mono (fun b hb => (hS b hb).2) (fun _ _ => rfl)
  obtain ⟨A, c, A', c', rfl⟩ := hrep.form
  have hri := right_all x w6.heap.size _ w6 hrb (Nat.le_refl _)
  have k5 : Blk w6 g5 25 #[.int .i64 x.op, .string (strOf x.name), .slice A x.exprs.length c, .slice A' x.terms.length c'] := k5
  generalize rightT x = b at *
  refine Zm ?_
  refine Zv (Runs.extract rfl rfl rfl) ?_
  refine Zv (Runs.extract rfl rfl rfl) ?_
  refine Za ?_
  refine Za ?_
  refine Zk7 0 2 3 4 5 6 7 (Zts (Zsr ?_))
  refine Zm ?_
  refine Zv ((Runs.eqlI rfl rfl rfl).isT (rfl)) ?_
  refine Zm ?_
  refine Seq.valG (Runs.loadW rfl rfl Tryz.underlying25 rfl k5 (m := 4) (by kernel_rfl) rfl) rfl rfl rfl rfl rfl ?_
  refine Seq.callG (Ze Tryz.func25) rfl rfl rfl rfl rfl (hri) ?_
  rintro e w7 ⟨rfl, hb7⟩
  refine ⟨_, rfl, ?_⟩
  replace bel := bel.step hb7
  replace k2 := k2.step hb7
  replace k5 := k5.step hb7
  refine Seq.valG (Runs.not rfl rfl) rfl rfl rfl rfl rfl ?_
  refine Zv (Runs.pickT rfl rfl rfl) ?_
  have hw67 := hb7.size
  cases b with
  | true =>
   refine Zk8 0 2 3 4 5 6 7 20 (Zt ?_)
   refine Cd.condF rfl rfl ?_
   refine Cd.skip (Zts (Zsr ?_))
   refine Zm ?_
   refine Zv (Runs.neqI rfl rfl rfl) ?_
   refine Zk9 0 2 3 4 5 6 7 20 22 (Zt ?_)
   refine Cd.condF rfl (by simp) ?_
   refine Cd.skip (Ztq ?_)
   refine Zv (Runs.loadW rfl rfl Tryz.underlying25 rfl k5 (m := 4) (by kernel_rfl) rfl) ?_
   refine Zo 4 k2 ?_
   intro w3 pw3
   replace bel := bel.put k2 pw3 e2
   replace k5 := k5.put pw3 (by omega)
   replace k2 := pw3.blk
   refine Za ?_
   refine Za ?_
   refine Zk9 0 2 3 4 5 6 7 20 22 (Zt (Cd.ret ?_))
   refine Post.endC3 rfl rfl rfl rfl k2 Tryz.underlying25 rfl (m := 4) (by kernel_rfl) rfl (.inl rfl) ?_
   rw [hps2, if_pos rfl]
   have hsz := pw3.size
   refine ⟨bel, .agg #[.int .i64 x.op, .string (strOf x.name), .slice A x.exprs.length c, .slice A' x.terms.length c'], S, rfl, hrep.mono (fun _ h => h) fun p hp => World.cell?_of_block ?_, fun b hb => ?_⟩
   ·have := hS _ hp
    exact (pw3.grown.block _ (by omega) (fun e => by injection e with e; omega)).trans (hb7.block _ this.2)
   ·have := hS b hb
    have := hb6.size
    omega
  | false =>
   refine Zk8 0 2 3 4 5 6 7 20 (Zt ?_)
   refine Cd.condT rfl rfl ?_
   refine Zr ?_
   refine Za ?_
   refine Zk8 0 2 3 4 5 6 7 20 (Zts (Zsr ?_))
   refine Zm ?_
   refine Zv (Runs.neqI rfl rfl rfl) ?_
   refine Zk9 0 2 3 4 5 6 7 20 22 (Zt ?_)
   refine Cd.condT rfl (by simp) ?_
   refine Zsr ?_
   refine Zv (Runs.build rfl rfl (run_build_T0 _)) ?_
   refine Zm ?_
   refine Zm ?_
   refine Zo 4 k2 ?_
   intro w3 pw3
   replace bel := bel.put k2 pw3 e2
   replace k5 := k5.put pw3 (by omega)
   replace k2 := pw3.blk
   refine Za ?_
   refine Za ?_
   refine Zk9 0 2 3 4 5 6 7 20 22 (Zt (Cd.ret (Post.then_ret ?_)))
   refine Post.endC3 rfl rfl rfl rfl k2 Tryz.underlying25 rfl (m := 4) (by kernel_rfl) rfl (.inl rfl) ?_
   rw [hps2, if_neg (by simp)]
   exact ⟨bel, .agg #[.int .i64 0, .string (strOf []), .slice none 0 0, .slice none 0 0], fun _ => False, rfl, RepT.zero _ _, fun b h => h.elim⟩
 ·have hps2 : parseT l = (zeroTm, y, z) := by unfold parseT; rw [if_pos (by rw [hz]; exact hz0), hy, hz]
  refine Zm ?_
  refine Zv (Runs.extract rfl rfl rfl) ?_
  refine Zv (Runs.extract rfl rfl rfl) ?_
  refine Za ?_
  refine Za ?_
  refine Zk7 0 2 3 4 5 6 7 (Zts (Zsr ?_))
  refine Zm ?_
  refine Zv ((Runs.eqlI rfl rfl rfl).isF (hz0)) ?_
  refine Zm ?_
  refine Seq.skipG rfl rfl rfl rfl rfl rfl ?_
  refine Seq.skipG rfl rfl rfl rfl rfl rfl ?_
  refine Seq.skipG rfl rfl rfl rfl rfl rfl ?_
  refine Zv (Runs.pickF rfl rfl rfl) ?_
  refine Zk8 0 2 3 4 5 6 7 20 (Zt ?_)
  refine Cd.condF rfl rfl ?_
  refine Cd.skip (Zts (Zsr ?_))
  refine Zm ?_
  refine Zv (Runs.neqI rfl rfl rfl) ?_
  refine Zk9 0 2 3 4 5 6 7 20 22 (Zt ?_)
  refine Cd.condT rfl (by simpa using hz0) ?_
  refine Zsr ?_
  refine Zv (Runs.build rfl rfl (run_build_T0 _)) ?_
  refine Zm ?_
  refine Zm ?_
  refine Zo 4 k2 ?_
  intro w3 pw3
  replace bel := bel.put k2 pw3 e2
  replace k2 := pw3.blk
  refine Za ?_
  refine Za ?_
  refine Zk9 0 2 3 4 5 6 7 20 22 (Zt (Cd.ret (Post.then_ret ?_)))
  refine Post.endC3 rfl rfl rfl rfl k2 Tryz.underlying25 rfl (m := 4) (by kernel_rfl) rfl (.inl rfl) ?_
  rw [hps2]
  exact ⟨bel, .agg #[.int .i64 0, .string (strOf []), .slice none 0 0, .slice none 0 0], fun _ => False, rfl, RepT.zero _ _, fun b h => h.elim⟩
end Go.Proofs.YtaamkfajnpobfaaGreat

namespace Go.Proofs.YtaamkfajnpobfaaGreat
open Go.RowKit

def InE (gt : Nat) (W0 : World) (x : Ex) (W : World) : Prop := ∃ (S : Nat → Prop) (v : Value), Blk W gt 35 v.cells ∧ RepE W S x v ∧ ∀ b, S b → W0.heap.size ≤ b ∧ b < W.heap.size
theorem parseXC_any (K : Ctx) (hK : K.Ok) (n gt h : Nat) (W : World) (pw : PW K W 0 0 false) (kt : Blk W gt 35 #[.int .i64 0, .int .i64 0, .string { data := #[] }, .slice none 0 0]) (hg : gt < K.g) (hh : h ≤ gt) (hKA : ∀ ad, K.A = some ad → ad.block ≠ gt) (hne : (fuelP K.ws n).E 0 0 0 ≠ .out) :
  Calls Tryz.prog 30 #[.pointer (some ⟨K.g, 0, none⟩), .pointer (some ⟨gt, 0, none⟩)] W (PRk K h W ((fuelP K.ws n).E 0 0 0) (InE gt W)) := by
 have hcl := (has_all K hK n n (Nat.le_refl _)).2 0 (by omega) 0 0 W pw hne
 have hlt := pw.blk.lt
 have hle := hK.le
 have bel := Below.refl W.heap.size W
 refine Zs 5 Tryz.func30 ?_
 refine Zr ?_
 refine Zm ?_
 rcases Rs.ok_or hne with ⟨q, ov, hr⟩ | ⟨x, q, hr⟩
 ·rw [hr] at hcl ⊢
  refine Seq.callB (Ze Tryz.func31) rfl hcl ?_
  rintro e w6 ⟨hf, rfl, d6, hp6⟩
  refine ⟨_, rfl, fun a ha => ⟨ha.defers, ?_⟩⟩
  exact ⟨hf, rfl, d6, hp6⟩
 rw [hr] at hcl ⊢
 refine Zc (Ze Tryz.func31) (hcl) ?_
 rintro e wq ⟨hf, v, rfl, pwq, S, hrep, hS⟩
 refine ⟨_, rfl, ?_⟩
 have kp0 := (Kp.refl W).fz pw.blk hf
 have k98 := kt.fz hf (by omega)
 have hs98 := k98.lt
 have k98' := k98
 obtain ⟨A, c, rfl⟩ := hrep.form
 have hq := pwq.blk.lt
 clear bel
 have bel := Below.refl wq.heap.size wq
 refine Zo 4 k98 ?_
 intro w1 pw1
 replace k98 := pw1.blk
 refine Zk2 0 1 ?_
 refine Post.end0 rfl (.inr rfl) ?_
 have hsz := pw1.size
 have hbl : ∀ k, k ≠ gt → k < wq.heap.size → w1.heap[k]? = wq.heap[k]? := fun k hk hl => pw1.grown.block k hl (fun e => hk (by injection e))
 have hrd : Reads w1 K.B 4 K.A K.ws.length (wdCells K.ws) := ⟨pwq.rd.1, fun h0 => by
  obtain ⟨ad, e1, e2, e3⟩ := pwq.rd.2 h0
  exact ⟨ad, e1, e2, fun j u hu => (World.cell?_of_block (by rw [block_of_add]; exact hbl _ (hKA ad e1) (by omega))).trans (e3 j u hu)⟩⟩
 have k98z : Blk w1 gt 35 (Value.agg #[Value.int .i64 x.op, Value.int .i64 x.n, Value.string (strOf x.name), Value.slice A x.args.length c]).cells := k98
 have kgz : Blk w1 K.g 92 _ := pwq.blk.put pw1 (by omega)
 exact ⟨⟨pw1.grown.os.trans hf.os, pw1.grown.tape.trans hf.tape, pw1.grown.output.trans hf.output, by have := hf.size; omega, fun k hk hne => (hbl k (by omega) (by omega)).trans (hf.block k (by omega) hne)⟩, kp0.put k98' pw1 trivial, ⟨_, rfl⟩, ⟨kgz, hrd, pwq.p_le, pwq.d_le⟩, S, _, k98z, hrep.mono (fun _ h => h) (fun a ha => World.cell?_of_block (hbl _ (by have := (hS _ ha).1; have := kt.lt; omega) (hS _ ha).2)), fun b hb => ⟨(hS b hb).1, by have := (hS b hb).2; omega⟩⟩
def parseX (l : List Nat) : Ex × Nat × Int := if (parAt l (exprQ (lexAll l).1)).2 ≠ 0 then (zeroEx, (parAt l (exprQ (lexAll l).1)).1, (parAt l (exprQ (lexAll l).1)).2) else match exprQ (lexAll l).1 with
 | .ok x _ => if rightB x = true then (x, 0, 0) else (zeroEx, 0, 13)
 | _ => (zeroEx, 0, 0)
theorem InE.kept {gt : Nat} {w W0 W W' : World} {a : Ex} {g : Nat} (h : InE gt W0 a W) (hgt : gt < w.heap.size) (h2 : w.heap.size ≤ g) (h3 : g < W0.heap.size) (h4 : W0.heap.size ≤ W.heap.size) (h5 : W.heap.size ≤ W'.heap.size) (h6 : ∀ k, k < W.heap.size → k ≠ g → W'.heap[k]? = W.heap[k]?) : InE gt w a W' := by
 obtain ⟨S, v, h7, h8, h9⟩ := h
 refine ⟨S, v, ?_, h8.mono (fun _ h => h) (fun p hp => World.cell?_of_block (h6 _ (h9 _ hp).2 (by have := (h9 _ hp).1; omega))), fun b hb => ⟨by have := (h9 b hb).1; omega, by have := (h9 b hb).2; omega⟩⟩
 unfold Blk at h7 ⊢
 rw [h6 gt (by omega) (by omega)]
 exact h7
theorem parseExpr_any (l : List Nat) (w : World) (hl : ∀ x ∈ l, x < 256) (hlen : l.length ≤ 9223372036854775807) :
  Calls Tryz.prog 11 #[.string (strOf l)] w fun e w' => Below w.heap.size w w' ∧ ∃ (v : Value) (S : Nat → Prop), e = .returned (.tuple #[v, .int .i64 ((parseX l).2.1 : Int), .int .i64 (parseX l).2.2]) ∧ RepE w' S (parseX l).1 v ∧ ∀ b, S b → w.heap.size ≤ b ∧ b < w'.heap.size := by
 have bel := Below.refl w.heap.size w
 refine Zs 27 Tryz.func11 ?_
 refine Zsr ?_
 refine Zl zero_api_Expr ?_
 intro g2 w1 n2
 have e2 := Nat.le_trans bel.size n2.ge
 replace bel := bel.step n2.below
 have k2 := n2.blk
 refine Za ?_
 refine Za ?_
 refine Zk4 0 2 3 4 (Ztq ?_)
 refine Zl zero_api_Expr ?_
 intro g5 w2 n5
 have e5 := Nat.le_trans bel.size n5.ge
 have l5 := Nat.lt_of_lt_of_le k2.lt n5.ge
 replace bel := bel.step n5.below
 replace k2 := k2.step n5.below
 have k5 := n5.blk
 refine Zk5 0 2 3 4 5 (Ztq ?_)
 refine Zm ?_
 refine Zv (Runs.makeFunc (v := .func (.func 30) #[] #[.pointer (some ⟨g5, 0, none⟩)]) rfl (show evL _ _ = some [] from rfl) (show evL _ _ = some [.pointer (some ⟨g5, 0, none⟩)] from rfl) rfl) ?_
 have hg5 := k5.lt
 have hps := parsed_any l hl hlen 30 [.pointer (some ⟨g5, 0, none⟩)] g5 (exprQ (lexAll l).1) (InE g5) (InE g5 w2) w2 (Nat.le_of_lt hg5) (fun args w => run_enter Tryz.func30 (by kernel_rfl) rfl args w) (exprQ_ne _)
  (fun a W0 W W' g h1 h2 h3 h4 h5 h6 => h1.kept hg5 h2 h3 h4 h5 h6)
  (fun K hK hw h2 hg hA W hb hp => by
   have := parseXC_any K hK ((lexAll l).1.length + 1) g5 g5 W hp (k5.step hb) (by omega) (Nat.le_refl _) (fun ad ha => by have := hA ad ha; omega) (by rw [hw]; exact exprQ_ne _)
   rw [hw] at this
   exact this)
 refine Zc (Ze Tryz.func22) (hps) ?_
 rintro e w6 ⟨hb6, kp6, rfl, hok⟩
 refine ⟨_, rfl, ?_⟩
 have bel6 : Below w.heap.size w w6 := bel.trans (hb6.mono e5)
 have k2' : Blk w6 g2 35 _ := (show w6.heap[g2]? = w2.heap[g2]? from hb6.block g2 l5).trans k2
 have hlt6 := bel6.size
 clear bel k5 k2
 have bel := bel6
 have k2 := k2'
 have hA := parAt_zero (l := l) (r := exprQ (lexAll l).1)
 obtain ⟨z, hz⟩ : ∃ z, (parAt l (exprQ (lexAll l).1)).2 = z := ⟨_, rfl⟩
 obtain ⟨y, hy⟩ : ∃ y, (parAt l (exprQ (lexAll l).1)).1 = y := ⟨_, rfl⟩
 rw [hz] at hok hA ⊢
 rw [hy] at hA ⊢
 by_cases hz0 : z = 0
 ·obtain ⟨x, q, hx, S, v, k5, hrep, hS⟩ := hok hz0
  have hps2 : parseX l = if rightB x = true then (x, 0, 0) else (zeroEx, 0, 13) := by unfold parseX; rw [if_neg (by rw [hz]; exact fun h => h hz0), hx]
  obtain rfl := hA hz0
  subst hz0
  have hrb : Rep w6 w6.heap.size x v := hrep.mono (fun b hb => (hS b hb).2) (fun _ _ => rfl)
  obtain ⟨A, c, rfl⟩ := hrep.form
  have hri := rightExpr_all x w6.heap.size _ w6 hrb (Nat.le_refl _)
  have k5 : Blk w6 g5 35 #[.int .i64 x.op, .int .i64 x.n, .string (strOf x.name), .slice A x.args.length c] := k5
  have hri : Calls Tryz.prog 32 #[_] w6 fun en w' => en = .returned (.bool (rightB x)) ∧ Grow w6 w' := hri
  generalize rightB x = b at *
  refine Zm ?_
  refine Zv (Runs.extract rfl rfl rfl) ?_
  refine Zv (Runs.extract rfl rfl rfl) ?_
  refine Za ?_
  refine Za ?_
  refine Zk7 0 2 3 4 5 6 7 (Zts (Zsr ?_))
  refine Zm ?_
  refine Zv ((Runs.eqlI rfl rfl rfl).isT (rfl)) ?_
  refine Zm ?_
  refine Seq.valG (Runs.loadW rfl rfl Tryz.underlying35 rfl k5 (m := 4) (by kernel_rfl) rfl) rfl rfl rfl rfl rfl ?_
  refine Seq.callG (Ze Tryz.func32) rfl rfl rfl rfl rfl (hri) ?_
  rintro e w7 ⟨rfl, hb7⟩
  refine ⟨_, rfl, ?_⟩
  replace bel := bel.step hb7
  replace k2 := k2.step hb7
  replace k5 := k5.step hb7
  refine Seq.valG (Runs.not rfl rfl) rfl rfl rfl rfl rfl ?_
  refine Zv (Runs.pickT rfl rfl rfl) ?_
  have hw67 := hb7.size
  cases b with
  | true =>
   refine Zk8 0 2 3 4 5 6 7 20 (Zt ?_)
   refine Cd.condF rfl rfl ?_
   refine Cd.skip (Zts (Zsr ?_))
   refine Zm ?_
   refine Zv (Runs.neqI rfl rfl rfl) ?_
   refine Zk9 0 2 3 4 5 6 7 20 22 (Zt ?_)
   refine Cd.condF rfl (by simp) ?_
   refine Cd.skip (Ztq ?_)
   refine Zv (Runs.loadW rfl rfl Tryz.underlying35 rfl k5 (m := 4) (by kernel_rfl) rfl) ?_
   refine Zo 4 k2 ?_
   intro w3 pw3
   replace bel := bel.put k2 pw3 e2
   replace k5 := k5.put pw3 (by omega)
   replace k2 := pw3.blk
   refine Za ?_
   refine Za ?_
   refine Zk9 0 2 3 4 5 6 7 20 22 (Zt (Cd.ret ?_))
   refine Post.endC3 rfl rfl rfl rfl k2 Tryz.underlying35 rfl (m := 4) (by kernel_rfl) rfl (.inl rfl) ?_
   rw [hps2, if_pos rfl]
   have hsz := pw3.size
   refine ⟨bel, .agg #[.int .i64 x.op, .int .i64 x.n, .string (strOf x.name), .slice A x.args.length c], S, rfl, hrep.mono (fun _ h => h) fun p hp => World.cell?_of_block ?_, fun b hb => ?_⟩
   ·have := hS _ hp
    exact (pw3.grown.block _ (by omega) (fun e => by injection e with e; omega)).trans (hb7.block _ this.2)
   ·have := hS b hb
    have := hb6.size
    omega
  | false =>
   refine Zk8 0 2 3 4 5 6 7 20 (Zt ?_)
   refine Cd.condT rfl rfl ?_
   refine Zr ?_
   refine Za ?_
   refine Zk8 0 2 3 4 5 6 7 20 (Zts (Zsr ?_))
   refine Zm ?_
   refine Zv (Runs.neqI rfl rfl rfl) ?_
   refine Zk9 0 2 3 4 5 6 7 20 22 (Zt ?_)
   refine Cd.condT rfl (by simp) ?_
   refine Zsr ?_
   refine Zv (Runs.build rfl rfl (run_build_E0 _)) ?_
   refine Zm ?_
   refine Zm ?_
   refine Zo 4 k2 ?_
   intro w3 pw3
   replace bel := bel.put k2 pw3 e2
   replace k5 := k5.put pw3 (by omega)
   replace k2 := pw3.blk
   refine Za ?_
   refine Za ?_
   refine Zk9 0 2 3 4 5 6 7 20 22 (Zt (Cd.ret (Post.then_ret ?_)))
   refine Post.endC3 rfl rfl rfl rfl k2 Tryz.underlying35 rfl (m := 4) (by kernel_rfl) rfl (.inl rfl) ?_
   rw [hps2, if_neg (by simp)]
   exact ⟨bel, .agg #[.int .i64 0, .int .i64 0, .string (strOf []), .slice none 0 0], fun _ => False, rfl, RepE.zero _ _, fun b h => h.elim⟩
 ·have hps2 : parseX l = (zeroEx, y, z) := by unfold parseX; rw [if_pos (by rw [hz]; exact hz0), hy, hz]
  refine Zm ?_
  refine Zv (Runs.extract rfl rfl rfl) ?_
  refine Zv (Runs.extract rfl rfl rfl) ?_
  refine Za ?_
  refine Za ?_
  refine Zk7 0 2 3 4 5 6 7 (Zts (Zsr ?_))
  refine Zm ?_
  refine Zv ((Runs.eqlI rfl rfl rfl).isF (hz0)) ?_
  refine Zm ?_
  refine Seq.skipG rfl rfl rfl rfl rfl rfl ?_
  refine Seq.skipG rfl rfl rfl rfl rfl rfl ?_
  refine Seq.skipG rfl rfl rfl rfl rfl rfl ?_
  refine Zv (Runs.pickF rfl rfl rfl) ?_
  refine Zk8 0 2 3 4 5 6 7 20 (Zt ?_)
  refine Cd.condF rfl rfl ?_
  refine Cd.skip (Zts (Zsr ?_))
  refine Zm ?_
  refine Zv (Runs.neqI rfl rfl rfl) ?_
  refine Zk9 0 2 3 4 5 6 7 20 22 (Zt ?_)
  refine Cd.condT rfl (by simpa using hz0) ?_
  refine Zsr ?_
  refine Zv (Runs.build rfl rfl (run_build_E0 _)) ?_
  refine Zm ?_
  refine Zm ?_
  refine Zo 4 k2 ?_
  intro w3 pw3
  replace bel := bel.put k2 pw3 e2
  replace k2 := pw3.blk
  refine Za ?_
  refine Za ?_
  refine Zk9 0 2 3 4 5 6 7 20 22 (Zt (Cd.ret (Post.then_ret ?_)))
  refine Post.endC3 rfl rfl rfl rfl k2 Tryz.underlying35 rfl (m := 4) (by kernel_rfl) rfl (.inl rfl) ?_
  rw [hps2]
  exact ⟨bel, .agg #[.int .i64 0, .int .i64 0, .string (strOf []), .slice none 0 0], fun _ => False, rfl, RepE.zero _ _, fun b h => h.elim⟩
end Go.Proofs.YtaamkfajnpobfaaGreat

namespace Go.Proofs.YtaamkfajnpobfaaGreat
open Go.RowKit

theorem sameExpr_any (N : Nat) : ∀ (e : Ex) (B : Nat) (v u : Value) (w : World), e.nodes ≤ N → Rep w B e v → Rep w B e u → B ≤ w.heap.size → Calls Tryz.prog 12 #[v, u] w fun en w' => en = .returned (.bool true) ∧ Grow w w' := by
 induction N with
 | zero => intro e B v u w hN; have := e.nodes_pos; omega
 | succ N ih =>
 intro e B v u w hN hrep hrep' hB
 obtain ⟨A, c, rfl, hv⟩ := hrep.open
 obtain ⟨A', c', rfl, hv'⟩ := hrep'.open
 have bel := Below.refl w.heap.size w
 have h60 := hv.h60
 have hnm := hv.name
 refine Zs 53 Tryz.func12 ?_
 refine Zsr ?_
 refine Seq.box rfl rfl rfl rfl rfl ?_
 intro g2 w1 n2
 have e2 := Nat.le_trans bel.size n2.ge
 replace bel := bel.step n2.below
 have k2 := n2.blk
 refine Seq.box rfl rfl rfl rfl rfl ?_
 intro g3 w2 n3
 have e3 := Nat.le_trans bel.size n3.ge
 have l3 := Nat.lt_of_lt_of_le k2.lt n3.ge
 replace bel := bel.step n3.below
 replace k2 := k2.step n3.below
 have k3 := n3.blk
 refine Za ?_
 refine Zk5 0 1 2 3 4 (Zts (Zsr ?_))
 refine Zf 0 Tryz.underlying35 ?_
 refine Zv (Runs.loadB rfl rfl Tryz.underlying3 rfl k2 rfl) ?_
 refine Zf 0 Tryz.underlying35 ?_
 refine Zv (Runs.loadB rfl rfl Tryz.underlying3 rfl k3 rfl) ?_
 refine Zv (Runs.neqI rfl rfl rfl) ?_
 refine Zm ?_
 refine SeqC.start ?_
 refine Zco (fun hcx => Runs.fieldB 1 rfl rfl Tryz.underlying35 rfl (by kernel_rfl)) ?_
 refine SeqC.next rfl rfl rfl rfl rfl rfl rfl (fun hcx => Runs.loadB rfl rfl Tryz.underlying2 rfl k2 rfl) ?_
 refine SeqC.next rfl rfl rfl rfl rfl rfl rfl (fun hcx => Runs.fieldB 1 rfl rfl Tryz.underlying35 rfl (by kernel_rfl)) ?_
 refine SeqC.next rfl rfl rfl rfl rfl rfl rfl (fun hcx => Runs.loadB rfl rfl Tryz.underlying2 rfl k3 rfl) ?_
 refine SeqC.next rfl rfl rfl rfl rfl rfl rfl (fun hcx => Runs.neqI rfl rfl rfl) ?_
 refine SeqC.or rfl rfl rfl rfl rfl rfl rfl ?_
 refine Zm ?_
 refine SeqC.start ?_
 refine Zco (fun hcx => Runs.fieldB 2 rfl rfl Tryz.underlying35 rfl (by kernel_rfl)) ?_
 refine SeqC.next rfl rfl rfl rfl rfl rfl rfl (fun hcx => Runs.loadB rfl rfl Tryz.underlying9 rfl k2 rfl) ?_
 refine SeqC.next rfl rfl rfl rfl rfl rfl rfl (fun hcx => Runs.fieldB 2 rfl rfl Tryz.underlying35 rfl (by kernel_rfl)) ?_
 refine SeqC.next rfl rfl rfl rfl rfl rfl rfl (fun hcx => Runs.loadB rfl rfl Tryz.underlying9 rfl k3 rfl) ?_
 refine SeqC.next rfl rfl rfl rfl rfl rfl rfl (fun hcx => Runs.neqL (a := e.name) (b := e.name) rfl rfl rfl hnm hnm) ?_
 refine SeqC.or rfl rfl rfl rfl rfl rfl rfl ?_
 refine Zm ?_
 refine SeqC.start ?_
 refine Zco (fun hcx => Runs.fieldB 3 rfl rfl Tryz.underlying35 rfl (by kernel_rfl)) ?_
 refine SeqC.next rfl rfl rfl rfl rfl rfl rfl (fun hcx => Runs.loadB rfl rfl Tryz.underlying22 rfl k2 rfl) ?_
 refine SeqC.next rfl rfl rfl rfl rfl rfl rfl (fun hcx => Runs.len rfl rfl Tryz.underlying22) ?_
 refine SeqC.next rfl rfl rfl rfl rfl rfl rfl (fun hcx => Runs.fieldB 3 rfl rfl Tryz.underlying35 rfl (by kernel_rfl)) ?_
 refine SeqC.next rfl rfl rfl rfl rfl rfl rfl (fun hcx => Runs.loadB rfl rfl Tryz.underlying22 rfl k3 rfl) ?_
 refine SeqC.next rfl rfl rfl rfl rfl rfl rfl (fun hcx => Runs.len rfl rfl Tryz.underlying22) ?_
 refine SeqC.next rfl rfl rfl rfl rfl rfl rfl (fun hcx => Runs.neqI rfl rfl rfl) ?_
 refine SeqC.or rfl rfl rfl rfl rfl rfl rfl ?_
 refine Zk6 0 1 2 3 4 33 (Zt ?_)
 refine Cd.condF rfl (by simp) ?_
 refine Cd.skip (Zts (Zsr ?_))
 refine Za ?_
 refine Zk7 0 1 2 3 4 5 33 (Zt (Cd.block ?_))
 refine Cd.loop (σ := Nat) (fun i => [(2, .pointer (some ⟨g2, 0, none⟩)), (3, .pointer (some ⟨g3, 0, none⟩)), (5, .int .i64 (i : Int))])
  (fun i wr => i ≤ e.args.length ∧ Below w.heap.size w wr ∧ Blk wr g2 35 #[.int .i64 e.op, .int .i64 e.n, .string (strOf e.name), .slice A e.args.length c] ∧ Blk wr g3 35 #[.int .i64 e.op, .int .i64 e.n, .string (strOf e.name), .slice A' e.args.length c']) (fun i => e.args.length - i) 0 ⟨Nat.zero_le _, bel, k2, k3⟩ ⟨rfl, rfl, rfl, trivial⟩ ?_
 clear bel k2 k3
 rintro i wr ⟨hi, bel, k2, k3⟩
 refine Cd.seq (Zsr ?_)
 refine Zm ?_
 refine Zf 3 Tryz.underlying35 ?_
 refine Zv (Runs.loadB rfl rfl Tryz.underlying22 rfl k2 rfl) ?_
 refine Zv (Runs.len rfl rfl Tryz.underlying22) ?_
 refine Zv (Runs.lss rfl rfl rfl) ?_
 refine Zk4 2 3 5 38 (Zt ?_)
 refine Cd.condD rfl (fun hc => ?_) (fun hc => ?_)
 ·obtain ⟨x, hx⟩ : ∃ x, e.args[i]? = some x := ⟨_, List.getElem?_eq_getElem (show i < e.args.length by omega)⟩
  obtain ⟨ad, Ax, cx, rfl, hbl, hrx, hc⟩ := hv.arg i x hx
  obtain ⟨ad', Ax', cx', rfl, hbl', hrx', hc'⟩ := hv'.arg i x hx
  have hxm := List.mem_of_getElem? hx
  have hxn := Ex.arg_nodes hxm
  have hc := fun W (hb : Below w.heap.size w W) j u hj => ((hb.mono hB).cell (p := (ad.add (i * 4)).add j) (by rw [block_of_add, block_of_add]; exact hbl)).trans (hc j u hj)
  have hc' := fun W (hb : Below w.heap.size w W) j u hj => ((hb.mono hB).cell (p := (ad'.add (i * 4)).add j) (by rw [block_of_add, block_of_add]; exact hbl')).trans (hc' j u hj)
  have hrec := fun W (hb : Below w.heap.size w W) => ih x B _ _ W (by omega) (hrx.below (hb.mono hB)) (hrx'.below (hb.mono hB)) (Nat.le_trans hB hb.size)
  refine Cd.skip (Zts (Cd.block (Cd.seq ?_)))
  refine Cd.draw 12 (by kernel_rfl) [] (.inl rfl) rfl Grow Grow.refl (fun _ _ _ => Grow.trans) ?_
  intro w3 hw3 zw3
  replace bel := bel.step hw3
  replace k2 := k2.step hw3
  replace k3 := k3.step hw3
  have zbel := bel.size
  have zlt := k3.lt
  refine Zd (fun w hG => Runs.fieldB 3 rfl rfl Tryz.underlying35 rfl (by kernel_rfl)) ?_
  refine Zd (fun w hG => Runs.loadB rfl rfl Tryz.underlying22 rfl (k2.step hG) rfl) ?_
  refine Zdm ?_
  refine Zd (fun w hG => Runs.indexN rfl rfl rfl Tryz.underlying22 (s := 4) (by kernel_rfl) (j := i) rfl (by omega)) ?_
  refine Zd (fun w hG => Runs.loadF (ps := [.int .i64 x.op, .int .i64 x.n, .string (strOf x.name), .slice Ax x.args.length cx]) rfl rfl Tryz.underlying35 rfl (m := 4) (by kernel_rfl) rfl (hc _ (bel.step hG))) ?_
  refine Zd (fun w hG => Runs.fieldB 3 rfl rfl Tryz.underlying35 rfl (by kernel_rfl)) ?_
  refine Zd (fun w hG => Runs.loadB rfl rfl Tryz.underlying22 rfl (k3.step hG) rfl) ?_
  refine Zdm ?_
  refine Zd (fun w hG => Runs.indexN rfl rfl rfl Tryz.underlying22 (s := 4) (by kernel_rfl) (j := i) rfl (by omega)) ?_
  refine Zd (fun w hG => Runs.loadF (ps := [.int .i64 x.op, .int .i64 x.n, .string (strOf x.name), .slice Ax' x.args.length cx']) rfl rfl Tryz.underlying35 rfl (m := 4) (by kernel_rfl) rfl (hc' _ (bel.step hG))) ?_
  refine Dr.callV rfl (fun w => Ze Tryz.func12) rfl (fun w hG => hrec w (bel.step hG)) ?_
  refine Zd (fun w hG => Runs.not rfl rfl) ?_
  refine Dr.nil ?_
  refine FinX.done (F' := [(2, _), (3, _), (5, _), (38, _), (52, _)]) rfl ⟨rfl, rfl, rfl, rfl, rfl, trivial⟩ ?_
  intro w4 hw4 fw4
  replace bel := bel.step hw4
  replace k2 := k2.step hw4
  replace k3 := k3.step hw4
  refine Zk5 2 3 5 38 52 (Zt ?_)
  refine Cd.condF rfl rfl ?_
  refine Cd.skip (Post.block_normal (Ztr ?_))
  refine Zm ?_
  refine Za_ ?_
  refine Za ?_
  refine Zk5 2 3 5 38 52 ?_
  exact Post.round (i + 1) ⟨rfl, rfl, rfl, trivial⟩ ⟨by omega, bel, k2, k3⟩ (by omega)
 ·skip
  refine Cd.exit (Post.then_exit (Post.round_exit (Post.block_exit (Ztq ?_))))
  refine Za ?_
  refine Zk5 2 3 4 5 38 (Zt (Cd.ret ?_))
  refine Post.end1 rfl rfl (.inl rfl) ?_
  exact ⟨rfl, bel⟩
theorem sameTerm_any (N : Nat) : ∀ (t : Tm) (B : Nat) (v u : Value) (w : World), t.nodes ≤ N → RepB w B t v → RepB w B t u → B ≤ w.heap.size → Calls Tryz.prog 8 #[v, u] w fun en w' => en = .returned (.bool true) ∧ Grow w w' := by
 induction N with
 | zero => intro t B v u w hN; have := t.nodes_pos; omega
 | succ N ih =>
 intro t B v u w hN hrep hrep' hB
 obtain ⟨A, c, D, d, rfl, hv⟩ := hrep.open
 obtain ⟨A', c', D', d', rfl, hv'⟩ := hrep'.open
 have bel := Below.refl w.heap.size w
 have h60 := hv.h60
 have h60' := hv.h60'
 have hnm := hv.name
 refine Zs 75 Tryz.func8 ?_
 refine Zsr ?_
 refine Seq.box rfl rfl rfl rfl rfl ?_
 intro g2 w1 n2
 have e2 := Nat.le_trans bel.size n2.ge
 replace bel := bel.step n2.below
 have k2 := n2.blk
 refine Seq.box rfl rfl rfl rfl rfl ?_
 intro g3 w2 n3
 have e3 := Nat.le_trans bel.size n3.ge
 have l3 := Nat.lt_of_lt_of_le k2.lt n3.ge
 replace bel := bel.step n3.below
 replace k2 := k2.step n3.below
 have k3 := n3.blk
 refine Za ?_
 refine Zk5 0 1 2 3 4 (Zts (Zsr ?_))
 refine Zf 0 Tryz.underlying25 ?_
 refine Zv (Runs.loadB rfl rfl Tryz.underlying3 rfl k2 rfl) ?_
 refine Zf 0 Tryz.underlying25 ?_
 refine Zv (Runs.loadB rfl rfl Tryz.underlying3 rfl k3 rfl) ?_
 refine Zv (Runs.neqI rfl rfl rfl) ?_
 refine Zm ?_
 refine SeqC.start ?_
 refine Zco (fun hcx => Runs.fieldB 1 rfl rfl Tryz.underlying25 rfl (by kernel_rfl)) ?_
 refine SeqC.next rfl rfl rfl rfl rfl rfl rfl (fun hcx => Runs.loadB rfl rfl Tryz.underlying9 rfl k2 rfl) ?_
 refine SeqC.next rfl rfl rfl rfl rfl rfl rfl (fun hcx => Runs.fieldB 1 rfl rfl Tryz.underlying25 rfl (by kernel_rfl)) ?_
 refine SeqC.next rfl rfl rfl rfl rfl rfl rfl (fun hcx => Runs.loadB rfl rfl Tryz.underlying9 rfl k3 rfl) ?_
 refine SeqC.next rfl rfl rfl rfl rfl rfl rfl (fun hcx => Runs.neqL (a := t.name) (b := t.name) rfl rfl rfl hnm hnm) ?_
 refine SeqC.or rfl rfl rfl rfl rfl rfl rfl ?_
 refine Zm ?_
 refine SeqC.start ?_
 refine Zco (fun hcx => Runs.fieldB 2 rfl rfl Tryz.underlying25 rfl (by kernel_rfl)) ?_
 refine SeqC.next rfl rfl rfl rfl rfl rfl rfl (fun hcx => Runs.loadB rfl rfl Tryz.underlying22 rfl k2 rfl) ?_
 refine SeqC.next rfl rfl rfl rfl rfl rfl rfl (fun hcx => Runs.len rfl rfl Tryz.underlying22) ?_
 refine SeqC.next rfl rfl rfl rfl rfl rfl rfl (fun hcx => Runs.fieldB 2 rfl rfl Tryz.underlying25 rfl (by kernel_rfl)) ?_
 refine SeqC.next rfl rfl rfl rfl rfl rfl rfl (fun hcx => Runs.loadB rfl rfl Tryz.underlying22 rfl k3 rfl) ?_
 refine SeqC.next rfl rfl rfl rfl rfl rfl rfl (fun hcx => Runs.len rfl rfl Tryz.underlying22) ?_
 refine SeqC.next rfl rfl rfl rfl rfl rfl rfl (fun hcx => Runs.neqI rfl rfl rfl) ?_
 refine SeqC.or rfl rfl rfl rfl rfl rfl rfl ?_
 refine Zm ?_
 refine SeqC.start ?_
 refine Zco (fun hcx => Runs.fieldB 3 rfl rfl Tryz.underlying25 rfl (by kernel_rfl)) ?_
 refine SeqC.next rfl rfl rfl rfl rfl rfl rfl (fun hcx => Runs.loadB rfl rfl Tryz.underlying23 rfl k2 rfl) ?_
 refine SeqC.next rfl rfl rfl rfl rfl rfl rfl (fun hcx => Runs.len rfl rfl Tryz.underlying23) ?_
 refine SeqC.next rfl rfl rfl rfl rfl rfl rfl (fun hcx => Runs.fieldB 3 rfl rfl Tryz.underlying25 rfl (by kernel_rfl)) ?_
 refine SeqC.next rfl rfl rfl rfl rfl rfl rfl (fun hcx => Runs.loadB rfl rfl Tryz.underlying23 rfl k3 rfl) ?_
 refine SeqC.next rfl rfl rfl rfl rfl rfl rfl (fun hcx => Runs.len rfl rfl Tryz.underlying23) ?_
 refine SeqC.next rfl rfl rfl rfl rfl rfl rfl (fun hcx => Runs.neqI rfl rfl rfl) ?_
 refine SeqC.or rfl rfl rfl rfl rfl rfl rfl ?_
 refine Zk6 0 1 2 3 4 36 (Zt ?_)
 refine Cd.condF rfl (by simp) ?_
 refine Cd.skip (Zts (Zsr ?_))
 refine Za ?_
 refine Zk7 0 1 2 3 4 5 36 (Zt (Cd.block ?_))
 refine Cd.loop (σ := Nat) (fun i => [(2, .pointer (some ⟨g2, 0, none⟩)), (3, .pointer (some ⟨g3, 0, none⟩)), (5, .int .i64 (i : Int))])
  (fun i wr => i ≤ t.exprs.length ∧ Below w.heap.size w wr ∧ Blk wr g2 25 #[.int .i64 t.op, .string (strOf t.name), .slice A t.exprs.length c, .slice D t.terms.length d] ∧ Blk wr g3 25 #[.int .i64 t.op, .string (strOf t.name), .slice A' t.exprs.length c', .slice D' t.terms.length d']) (fun i => t.exprs.length - i) 0 ⟨Nat.zero_le _, bel, k2, k3⟩ ⟨rfl, rfl, rfl, trivial⟩ ?_
 clear bel k2 k3
 rintro i wr ⟨hi, bel, k2, k3⟩
 refine Cd.seq (Zsr ?_)
 refine Zm ?_
 refine Zf 2 Tryz.underlying25 ?_
 refine Zv (Runs.loadB rfl rfl Tryz.underlying22 rfl k2 rfl) ?_
 refine Zv (Runs.len rfl rfl Tryz.underlying22) ?_
 refine Zv (Runs.lss rfl rfl rfl) ?_
 refine Zk4 2 3 5 41 (Zt ?_)
 refine Cd.condD rfl (fun hc => ?_) (fun hc => ?_)
 ·obtain ⟨x, hx⟩ : ∃ x, t.exprs[i]? = some x := ⟨_, List.getElem?_eq_getElem (show i < t.exprs.length by omega)⟩
  obtain ⟨ad, Ax, cx, rfl, hbl, hrx, hc⟩ := hv.expr i x hx
  obtain ⟨ad', Ax', cx', rfl, hbl', hrx', hc'⟩ := hv'.expr i x hx
  have hc := fun W (hb : Below w.heap.size w W) j u hj => ((hb.mono hB).cell (p := (ad.add (i * 4)).add j) (by rw [block_of_add, block_of_add]; exact hbl)).trans (hc j u hj)
  have hc' := fun W (hb : Below w.heap.size w W) j u hj => ((hb.mono hB).cell (p := (ad'.add (i * 4)).add j) (by rw [block_of_add, block_of_add]; exact hbl')).trans (hc' j u hj)
  have hrec := fun W (hb : Below w.heap.size w W) => sameExpr_any x.nodes x B _ _ W (Nat.le_refl _) (hrx.below (hb.mono hB)) (hrx'.below (hb.mono hB)) (Nat.le_trans hB hb.size)
  refine Cd.skip (Zts (Cd.block (Cd.seq ?_)))
  refine Cd.draw 12 (by kernel_rfl) [] (.inl rfl) rfl Grow Grow.refl (fun _ _ _ => Grow.trans) ?_
  intro w3 hw3 zw3
  replace bel := bel.step hw3
  replace k2 := k2.step hw3
  replace k3 := k3.step hw3
  have zbel := bel.size
  have zlt := k3.lt
  refine Zd (fun w hG => Runs.fieldB 2 rfl rfl Tryz.underlying25 rfl (by kernel_rfl)) ?_
  refine Zd (fun w hG => Runs.loadB rfl rfl Tryz.underlying22 rfl (k2.step hG) rfl) ?_
  refine Zdm ?_
  refine Zd (fun w hG => Runs.indexN rfl rfl rfl Tryz.underlying22 (s := 4) (by kernel_rfl) (j := i) rfl (by omega)) ?_
  refine Zd (fun w hG => Runs.loadF (ps := [.int .i64 x.op, .int .i64 x.n, .string (strOf x.name), .slice Ax x.args.length cx]) rfl rfl Tryz.underlying35 rfl (m := 4) (by kernel_rfl) rfl (hc _ (bel.step hG))) ?_
  refine Zd (fun w hG => Runs.fieldB 2 rfl rfl Tryz.underlying25 rfl (by kernel_rfl)) ?_
  refine Zd (fun w hG => Runs.loadB rfl rfl Tryz.underlying22 rfl (k3.step hG) rfl) ?_
  refine Zdm ?_
  refine Zd (fun w hG => Runs.indexN rfl rfl rfl Tryz.underlying22 (s := 4) (by kernel_rfl) (j := i) rfl (by omega)) ?_
  refine Zd (fun w hG => Runs.loadF (ps := [.int .i64 x.op, .int .i64 x.n, .string (strOf x.name), .slice Ax' x.args.length cx']) rfl rfl Tryz.underlying35 rfl (m := 4) (by kernel_rfl) rfl (hc' _ (bel.step hG))) ?_
  refine Dr.callV rfl (fun w => Ze Tryz.func12) rfl (fun w hG => hrec w (bel.step hG)) ?_
  refine Zd (fun w hG => Runs.not rfl rfl) ?_
  refine Dr.nil ?_
  refine FinX.done (F' := [(2, _), (3, _), (5, _), (41, _), (55, _)]) rfl ⟨rfl, rfl, rfl, rfl, rfl, trivial⟩ ?_
  intro w4 hw4 fw4
  replace bel := bel.step hw4
  replace k2 := k2.step hw4
  replace k3 := k3.step hw4
  refine Zk5 2 3 5 41 55 (Zt ?_)
  refine Cd.condF rfl rfl ?_
  refine Cd.skip (Post.block_normal (Ztr ?_))
  refine Zm ?_
  refine Za_ ?_
  refine Za ?_
  refine Zk5 2 3 5 41 55 ?_
  exact Post.round (i + 1) ⟨rfl, rfl, rfl, trivial⟩ ⟨by omega, bel, k2, k3⟩ (by omega)
 ·skip
  refine Cd.exit (Post.then_exit (Post.round_exit (Post.block_exit (Zts (Zsr ?_)))))
  refine Za ?_
  refine Zk5 2 3 5 6 41 (Zt (Cd.block ?_))
  refine Cd.loop (σ := Nat) (fun i => [(2, .pointer (some ⟨g2, 0, none⟩)), (3, .pointer (some ⟨g3, 0, none⟩)), (6, .int .i64 (i : Int))])
   (fun i wr => i ≤ t.terms.length ∧ Below w.heap.size w wr ∧ Blk wr g2 25 #[.int .i64 t.op, .string (strOf t.name), .slice A t.exprs.length c, .slice D t.terms.length d] ∧ Blk wr g3 25 #[.int .i64 t.op, .string (strOf t.name), .slice A' t.exprs.length c', .slice D' t.terms.length d']) (fun i => t.terms.length - i) 0 ⟨Nat.zero_le _, bel, k2, k3⟩ ⟨rfl, rfl, rfl, trivial⟩ ?_
  clear bel k2 k3
  rintro i wr ⟨hi, bel, k2, k3⟩
  refine Cd.seq (Zsr ?_)
  refine Zm ?_
  refine Zf 3 Tryz.underlying25 ?_
  refine Zv (Runs.loadB rfl rfl Tryz.underlying23 rfl k2 rfl) ?_
  refine Zv (Runs.len rfl rfl Tryz.underlying23) ?_
  refine Zv (Runs.lss rfl rfl rfl) ?_
  refine Zk4 2 3 6 60 (Zt ?_)
  refine Cd.condD rfl (fun hc => ?_) (fun hc => ?_)
  ·obtain ⟨x, hx⟩ : ∃ x, t.terms[i]? = some x := ⟨_, List.getElem?_eq_getElem (show i < t.terms.length by omega)⟩
   obtain ⟨ad, A1, A2, c1, c2, rfl, hbl, hrx, hc⟩ := hv.term i x hx
   obtain ⟨ad', A1', A2', c1', c2', rfl, hbl', hrx', hc'⟩ := hv'.term i x hx
   have hxm := List.mem_of_getElem? hx
   have hxn := Tm.term_nodes hxm
   have hc := fun W (hb : Below w.heap.size w W) j u hj => ((hb.mono hB).cell (p := (ad.add (i * 4)).add j) (by rw [block_of_add, block_of_add]; exact hbl)).trans (hc j u hj)
   have hc' := fun W (hb : Below w.heap.size w W) j u hj => ((hb.mono hB).cell (p := (ad'.add (i * 4)).add j) (by rw [block_of_add, block_of_add]; exact hbl')).trans (hc' j u hj)
   have hrec := fun W (hb : Below w.heap.size w W) => ih x B _ _ W (by omega) (hrx.below (hb.mono hB)) (hrx'.below (hb.mono hB)) (Nat.le_trans hB hb.size)
   refine Cd.skip (Zts (Cd.block (Cd.seq ?_)))
   refine Cd.draw 12 (by kernel_rfl) [] (.inl rfl) rfl Grow Grow.refl (fun _ _ _ => Grow.trans) ?_
   intro w3 hw3 zw3
   replace bel := bel.step hw3
   replace k2 := k2.step hw3
   replace k3 := k3.step hw3
   have zbel := bel.size
   have zlt := k3.lt
   refine Zd (fun w hG => Runs.fieldB 3 rfl rfl Tryz.underlying25 rfl (by kernel_rfl)) ?_
   refine Zd (fun w hG => Runs.loadB rfl rfl Tryz.underlying23 rfl (k2.step hG) rfl) ?_
   refine Zdm ?_
   refine Zd (fun w hG => Runs.indexN rfl rfl rfl Tryz.underlying23 (s := 4) (by kernel_rfl) (j := i) rfl (by omega)) ?_
   refine Zd (fun w hG => Runs.loadF (ps := [.int .i64 x.op, .string (strOf x.name), .slice A1 x.exprs.length c1, .slice A2 x.terms.length c2]) rfl rfl Tryz.underlying25 rfl (m := 4) (by kernel_rfl) rfl (hc _ (bel.step hG))) ?_
   refine Zd (fun w hG => Runs.fieldB 3 rfl rfl Tryz.underlying25 rfl (by kernel_rfl)) ?_
   refine Zd (fun w hG => Runs.loadB rfl rfl Tryz.underlying23 rfl (k3.step hG) rfl) ?_
   refine Zdm ?_
   refine Zd (fun w hG => Runs.indexN rfl rfl rfl Tryz.underlying23 (s := 4) (by kernel_rfl) (j := i) rfl (by omega)) ?_
   refine Zd (fun w hG => Runs.loadF (ps := [.int .i64 x.op, .string (strOf x.name), .slice A1' x.exprs.length c1', .slice A2' x.terms.length c2']) rfl rfl Tryz.underlying25 rfl (m := 4) (by kernel_rfl) rfl (hc' _ (bel.step hG))) ?_
   refine Dr.callV rfl (fun w => Ze Tryz.func8) rfl (fun w hG => hrec w (bel.step hG)) ?_
   refine Zd (fun w hG => Runs.not rfl rfl) ?_
   refine Dr.nil ?_
   refine FinX.done (F' := [(2, _), (3, _), (6, _), (60, _), (74, _)]) rfl ⟨rfl, rfl, rfl, rfl, rfl, trivial⟩ ?_
   intro w4 hw4 fw4
   replace bel := bel.step hw4
   replace k2 := k2.step hw4
   replace k3 := k3.step hw4
   refine Zk5 2 3 6 60 74 (Zt ?_)
   refine Cd.condF rfl rfl ?_
   refine Cd.skip (Post.block_normal (Ztr ?_))
   refine Zm ?_
   refine Za_ ?_
   refine Za ?_
   refine Zk5 2 3 6 60 74 ?_
   exact Post.round (i + 1) ⟨rfl, rfl, rfl, trivial⟩ ⟨by omega, bel, k2, k3⟩ (by omega)
  ·skip
   refine Cd.exit (Post.then_exit (Post.round_exit (Post.block_exit (Ztq ?_))))
   refine Za ?_
   refine Zk5 2 3 4 6 60 (Zt (Cd.ret ?_))
   refine Post.end1 rfl rfl (.inl rfl) ?_
   exact ⟨rfl, bel⟩
end Go.Proofs.YtaamkfajnpobfaaGreat

namespace Go.Proofs.YtaamkfajnpobfaaGreat
open Go.RowKit

def sampT : List Nat := [119, 104, 101, 110, 40, 100, 97, 121, 32, 62, 61, 32, 50, 48, 50, 52, 45, 48, 49, 45, 51, 49, 44, 32, 111, 110, 101, 40, 85, 83, 68, 41, 41]
def wantE : Ex := .mk 15 0 [] [.mk 4 0 [] [], .mk 2 19753 [] []]
def wantU : Tm := .mk 2 [85, 83, 68] [] []
def wantT : Tm := .mk 7 [] [wantE] [wantU]
theorem parse_samp : parseT sampT = (wantT, 0, 0) := by kernel_rfl
theorem RepT.when {w : World} {g g' : Nat} {o : Int} {a : Ex} {b : Tm} {va vb : Value} {cs cs' : Array Value} (k : Blk w g 35 cs) (hcs : cs.toList = flatC [va]) (k' : Blk w g' 25 cs') (hcs' : cs'.toList = flatC [vb]) (ho : I64 o) (ha : Rep w w.heap.size a va) (hb : RepB w w.heap.size b vb) :
  RepB w w.heap.size (.mk o [] [a] [b]) (.agg #[.int .i64 o, .string (strOf []), .slice (some ⟨g, 0, none⟩) 1 1, .slice (some ⟨g', 0, none⟩) 1 1]) := by
 refine RepT.mk (es := [a]) (ts := [b]) (vs := [va]) (us := [vb]) rfl rfl (by simp) (by simp) ho (by simp) (by simp) (fun i e v he hv => ?_) (fun i e v he hv => ?_) (fun _ => ?_) fun _ => ?_
 ·match i, he, hv with
  | 0, he, hv => injection he with he; injection hv with hv; subst he hv; exact ha
  | i + 1, he, hv => cases he
 ·match i, he, hv with
  | 0, he, hv => injection he with he; injection hv with hv; subst he hv; exact hb
  | i + 1, he, hv => cases he
 ·refine ⟨⟨g, 0, none⟩, rfl, k.lt, fun j u hu => ?_⟩
  rw [← hcs] at hu
  have hadd : (⟨g, 0, none⟩ : Addr).add j = ⟨g, j, none⟩ := by unfold Addr.add; split <;> simp_all
  rw [hadd, k.cell j]
  simpa using hu
 ·refine ⟨⟨g', 0, none⟩, rfl, k'.lt, fun j u hu => ?_⟩
  rw [← hcs'] at hu
  have hadd : (⟨g', 0, none⟩ : Addr).add j = ⟨g', j, none⟩ := by unfold Addr.add; split <;> simp_all
  rw [hadd, k'.cell j]
  simpa using hu
theorem RepT.name (w : World) (S : Nat → Prop) (o : Int) (nm : List Nat) (ho : I64 o) (hn : ∀ d ∈ nm, d < 256) (hl : nm.length ≤ 9223372036854775807) : RepT w S (.mk o nm [] []) (.agg #[.int .i64 o, .string (strOf nm), .slice none 0 0, .slice none 0 0]) :=
 RepT.mk (es := []) (ts := []) (vs := []) (us := []) rfl rfl (by decide) (by decide) ho hn hl (fun i e v he => by cases he) (fun i e v he => by cases he) (fun h => absurd rfl h) fun h => absurd rfl h
theorem run_build_E1 (a : Int) (w : World) : (Instr.build 35 #[(0, .int .i64 a)]).run Tryz.prog w = .ok (.agg #[.int .i64 a, .int .i64 0, .string (strOf []), .slice none 0 0]) w := run_build_Eop a w
theorem run_build_Tn (a : Int) (s : ByteArray) (w : World) : (Instr.build 25 #[(0, .int .i64 a), (1, .string s)]).run Tryz.prog w = .ok (.agg #[.int .i64 a, .string s, .slice none 0 0, .slice none 0 0]) w := by
 have hu := Tryz.underlying25
 go_simp
theorem run_build_T2 (a : Int) (A A' : Option Addr) (n c n' c' : Nat) (w : World) : (Instr.build 25 #[(0, .int .i64 a), (2, .slice A n c), (3, .slice A' n' c')]).run Tryz.prog w = .ok (.agg #[.int .i64 a, .string (strOf []), .slice A n c, .slice A' n' c']) w := by
 have hu := Tryz.underlying25
 go_simp
 rfl
theorem awake19_any (w : World) : Calls Tryz.prog 9 #[] w fun e w' => e = .returned (.bool true) ∧ Grow w w' := by
 have bel := Below.refl w.heap.size w
 refine Zs 29 Tryz.func9 ?_
 have hps := fun W => parse_any sampT W (by decide) (by decide)
 rw [parse_samp] at hps
 refine Zsr ?_
 refine Za ?_
 refine Zk1 0 (Ztq ?_)
 refine Zc (Ze Tryz.func7) (hps _) ?_
 rintro en w5 ⟨hb5, v, S, rfl, hrep, hS⟩
 refine ⟨_, rfl, ?_⟩
 have bel5 := bel.step hb5
 have hrb : RepB w5 w5.heap.size wantT v := hrep.mono (fun b hb => (hS b hb).2) (fun _ _ => rfl)
 obtain ⟨A, c, A', c', rfl⟩ := hrep.form
 clear bel
 have bel := Below.refl w5.heap.size w5
 refine Zm ?_
 refine Zv (Runs.extract rfl rfl rfl) ?_
 refine Zv (Runs.extract rfl rfl rfl) ?_
 refine Zv (Runs.extract rfl rfl rfl) ?_
 refine Zl zero_api_Term ?_
 intro g1 w1 n1
 have e1 := Nat.le_trans bel.size n1.ge
 replace bel := bel.step n1.below
 have k1 := n1.blk
 refine Zo 4 k1 ?_
 intro w2 pw2
 replace bel := bel.put k1 pw2 e1
 replace k1 := pw2.blk
 refine Za ?_
 refine Za ?_
 refine Zk4 0 1 2 3 (Ztq ?_)
 refine Zv (Runs.build rfl rfl (run_build_E1 4 _)) ?_
 refine Zv (Runs.build rfl rfl (run_build_c 2 19753 _)) ?_
 refine Seq.slice (vs := [_, _]) (s := 4) rfl rfl rfl Tryz.underlying22 (by kernel_rfl) (zero_api_Expr) (by omega) (by omega) ⟨rfl, rfl, trivial⟩ rfl rfl rfl ?_
 intro g12 w3 n12
 have e12 := Nat.le_trans bel.size n12.ge
 have l12 := Nat.lt_of_lt_of_le k1.lt n12.ge
 replace bel := bel.step n12.below
 replace k1 := k1.step n12.below
 have k12 := n12.blk
 have r1 : ∀ W o z, I64 o → I64 z → Rep W W.heap.size (.mk o z [] []) (.agg #[.int .i64 o, .int .i64 z, .string (strOf []), .slice none 0 0]) := fun W o z ho hz => Rep.const W o z _ ho hz
 have i2 : I64 2 := by unfold I64; omega
 have i4 : I64 4 := by unfold I64; omega
 have i7 : I64 7 := by unfold I64; omega
 have i15 : I64 15 := by unfold I64; omega
 have i0 : I64 0 := by unfold I64; omega
 have i9 : I64 19753 := by unfold I64; omega
 have hab : Rep _ _ wantE _ := Rep.two k12 rfl i15 (r1 _ 4 0 i4 i0) (r1 _ 2 19753 i2 i9)
 refine Zv (Runs.build rfl rfl (run_build_s 15 g12 _)) ?_
 refine Seq.slice (vs := [_]) (s := 4) rfl rfl rfl Tryz.underlying22 (by kernel_rfl) (zero_api_Expr) (by omega) (by omega) ⟨rfl, trivial⟩ rfl rfl rfl ?_
 intro g14 w4 n14
 have e14 := Nat.le_trans bel.size n14.ge
 have l14 := Nat.lt_of_lt_of_le k1.lt n14.ge
 replace bel := bel.step n14.below
 replace k1 := k1.step n14.below
 replace hab := hab.step n14.below
 have k14 := n14.blk
 refine Zv (Runs.build rfl rfl (run_build_Tn 2 { data := #[85, 83, 68] } _)) ?_
 refine Seq.slice (vs := [_]) (s := 4) rfl rfl rfl Tryz.underlying23 (by kernel_rfl) (zero_api_Term) (by omega) (by omega) ⟨rfl, trivial⟩ rfl rfl rfl ?_
 intro g16 w5 n16
 have e16 := Nat.le_trans bel.size n16.ge
 have l16 := Nat.lt_of_lt_of_le k14.lt n16.ge
 have l16_k1 := Nat.lt_of_lt_of_le k1.lt n16.ge
 replace bel := bel.step n16.below
 replace k1 := k1.step n16.below
 replace hab := hab.step n16.below
 replace k14 := k14.step n16.below
 have k16 := n16.blk
 refine Zv (Runs.build rfl rfl (run_build_T2 7 _ _ _ _ _ _ _)) ?_
 have hwt : RepB _ _ wantT _ := RepT.when k14 rfl k16 rfl i7 hab (RepT.name _ _ 2 [85, 83, 68] i2 (by decide) (by decide))
 have belA := bel
 refine Zl zero_api_Term ?_
 intro g4 w6 n4
 have e4 := Nat.le_trans bel.size n4.ge
 have l4 := Nat.lt_of_lt_of_le k1.lt n4.ge
 replace bel := bel.step n4.below
 replace k1 := k1.step n4.below
 have k4 := n4.blk
 refine Zo 4 k4 ?_
 intro w7 pw7
 replace bel := bel.put k4 pw7 e4
 replace k1 := k1.put pw7 (by omega)
 replace k4 := pw7.blk
 refine Zk5 0 1 2 3 4 (Ztq ?_)
 refine Zm ?_
 refine Zv (Runs.eqlI rfl rfl rfl) ?_
 refine Zm ?_
 refine SeqC.start ?_
 refine Zco (fun hcx => Runs.move rfl rfl) ?_
 refine SeqC.next rfl rfl rfl rfl rfl rfl rfl (fun hcx => Runs.eqlI rfl rfl rfl) ?_
 refine SeqC.and rfl rfl rfl rfl rfl rfl rfl ?_
 refine Zm ?_
 refine SeqC.start ?_
 refine Zco (fun hcx => Runs.loadW rfl rfl Tryz.underlying25 rfl k1 (m := 4) (by kernel_rfl) rfl) ?_
 refine SeqC.next rfl rfl rfl rfl rfl rfl rfl (fun hcx => Runs.loadW rfl rfl Tryz.underlying25 rfl k4 (m := 4) (by kernel_rfl) rfl) ?_
 have hb4 := pw7.below_of n4.below n4.ge (by have := k4.lt; have := pw7.size; omega)
 have r2 := (hwt.below hb4).more hb4.size
 have r3 := (hrb.below bel).more bel.size
 refine SeqC.nextC rfl rfl rfl rfl rfl rfl rfl (fun hcx => Ze Tryz.func8) (fun hcx => (sameTerm_any wantT.nodes wantT _ _ _ _ (Nat.le_refl _) r3 r2 (Nat.le_refl _))) ?_
 intro w8 hw8
 replace bel := bel.step hw8
 replace k1 := k1.step hw8
 replace k4 := k4.step hw8
 refine SeqC.and rfl rfl rfl rfl rfl rfl rfl ?_
 refine Za ?_
 refine Zk5 0 1 2 3 4 (Zt (Cd.ret ?_))
 refine Post.end1 rfl rfl (.inl rfl) ?_
 exact ⟨ret1 (bool_eq (by rfl)), bel5.trans (bel.mono bel5.size)⟩
end Go.Proofs.YtaamkfajnpobfaaGreat

namespace Go.Proofs.YtaamkfajnpobfaaGreat
open Go.RowKit

def Begin (c : Nat) : Prop := c ≠ 32 ∧ c ≠ 9 ∧ c ≠ 10 ∧ c ≠ 35
end Go.Proofs.YtaamkfajnpobfaaGreat

namespace Go.Proofs.YtaamkfajnpobfaaGreat
open Go.RowKit

def Bnd (l : List Nat) (p : Nat) : Prop := ∀ c d, 0 < p → l[p - 1]? = some c → l[p]? = some d → partB c = true → partB d = true → False
end Go.Proofs.YtaamkfajnpobfaaGreat

namespace Go.Proofs.YtaamkfajnpobfaaGreat
open Go.RowKit

theorem Bnd.drop {l : List Nat} {p m : Nat} (h : Bnd l (p + m)) (hm : 0 < m) : Bnd (l.drop p) m := by
 intro c d h0 hc hd
 rw [List.getElem?_drop] at hc hd
 exact h c d (by omega) (by rw [← hc]; congr 1; omega) hd
end Go.Proofs.YtaamkfajnpobfaaGreat

namespace Go.Proofs.YtaamkfajnpobfaaGreat

section
variable {α β : Type} {ws : List Wd} {j : Nat}
def Goes (j : Nat) (r r' : Rs α) : Prop := ∀ a q, r = .ok a q → (q ≤ j ∧ r' = .ok a q) ∨ (j < q ∧ (r' = .bad j false ∨ ∃ a', r' = .ok a' j))
def Stops (j : Nat) (r r' : Rs α) : Prop := ∀ a q, r = .ok a q → (q ≤ j ∧ r' = .ok a q) ∨ (j < q ∧ r' = .bad j false)
theorem Stops.goes {r r' : Rs α} (h : Stops j r r') : Goes j r r' := fun a q e => (h a q e).imp id fun h => ⟨h.1, .inl h.2⟩
def Cut (j : Nat) (f f' : Nat → Nat → Rs α) (m : Nat) : Prop := ∀ p d, m ≤ p → p ≤ j → Goes j (f p d) (f' p d)
def CutS (j : Nat) (f f' : Nat → Nat → Rs α) (m : Nat) : Prop := ∀ p d, m ≤ p → p ≤ j → Stops j (f p d) (f' p d)
theorem Cut.up {f f' : Nat → Nat → Rs α} {m m' : Nat} (h : Cut j f f' m) (hm : m ≤ m') : Cut j f f' m' := fun p d h1 h2 => h p d (by omega) h2
theorem Stops.bind {r r' : Rs α} {f f' : α → Nat → Rs β} (h : Stops j r r') (hq : ∀ a p b q, f a p = .ok b q → p ≤ q) (hf : ∀ a p, r = .ok a p → p ≤ j → Stops j (f a p) (f' a p)) : Stops j (r.bind f) (r'.bind f') := fun b q e => by
 obtain ⟨a, p, h1, e⟩ := Rs.bind_eq_ok e
 have := hq _ _ _ _ e
 rcases h a p h1 with ⟨h2, h3⟩ | ⟨h2, h3⟩
 ·rw [h3]; exact hf a p h1 h2 b q e
 ·rw [h3]; exact .inr ⟨by omega, rfl⟩
theorem Stops.same {a : α} {p : Nat} (h : p ≤ j) : Stops j (.ok a p) (.ok a p) := fun b q e => by
 injection e with e1 e2
 subst e1 e2
 exact .inl ⟨h, rfl⟩
theorem Stops.bad {p : Nat} {o : Bool} {r' : Rs α} : Stops j (.bad p o) r' := fun b q e => by cases e
theorem map_fst (k : Nat) (f f' : Nat → Nat → Rs α) : (List.replicate k (f, f')).map Prod.fst = List.replicate k f := by rw [List.map_replicate]
theorem map_snd (k : Nat) (f f' : Nat → Nat → Rs α) : (List.replicate k (f, f')).map Prod.snd = List.replicate k f' := by rw [List.map_replicate]
theorem Goes.bind {r r' : Rs α} {f f' : α → Nat → Rs β} (h : Goes j r r') (hq : ∀ a p b q, f a p = .ok b q → p ≤ q) (hf : ∀ a p, r = .ok a p → p ≤ j → Goes j (f a p) (f' a p)) (he : ∀ a, ∃ b, f' a j = .ok b j) : Goes j (r.bind f) (r'.bind f') := fun b q e => by
 obtain ⟨a, p, h1, e⟩ := Rs.bind_eq_ok e
 have := hq _ _ _ _ e
 rcases h a p h1 with ⟨h2, h3⟩ | ⟨h2, h3 | ⟨a', h3⟩⟩
 ·rw [h3]; exact hf a p h1 h2 b q e
 ·rw [h3]; exact .inr ⟨by omega, .inl rfl⟩
 ·rw [h3]
  obtain ⟨b', hb⟩ := he a'
  exact .inr ⟨by omega, .inr ⟨b', hb⟩⟩
theorem Goes.same {a : α} {p : Nat} (h : p ≤ j) : Goes j (.ok a p) (.ok a p) := (Stops.same h).goes
end
structure CutF (j : Nat) (f f' : PF) (m : Nat) : Prop where
 E : ∀ lvl, Cut j (f.E lvl) (f'.E lvl) m
 L : ∀ lvl x p d, m ≤ p → p ≤ j → Goes j (f.L lvl x p d) (f'.L lvl x p d)
 S : Cut j f.S f'.S m
 fin : m ≤ j → ∀ lvl x d, f'.L lvl x j d = .ok x j
theorem Goes.map {α β : Type} {j : Nat} {r r' : Rs α} (h : Goes j r r') (f : α → β) : Goes j (r.map f) (r'.map f) := h.bind (fun a p b q e => by injection e with _ e; omega) (fun a p _ hp => Goes.same hp) (fun a => ⟨_, rfl⟩)
end Go.Proofs.YtaamkfajnpobfaaGreat

namespace Go.Proofs.YtaamkfajnpobfaaGreat

section
variable {α β : Type} {ws : List Wd}
def Le (r r' : Rs α) : Prop := r ≠ .out → r' = r
theorem Le.refl (r : Rs α) : Le r r := fun _ => rfl
theorem Le.bind {r r' : Rs α} {f f' : α → Nat → Rs β} (h : Le r r') (hf : ∀ a p, Le (f a p) (f' a p)) : Le (r.bind f) (r'.bind f') := fun hne => by
 have h1 := h (Rs.bind_ne hne)
 rw [h1]
 cases r with
 | out => rfl
 | bad p o => rfl
 | ok a p => exact hf a p hne
def LeF (f f' : Nat → Nat → Rs α) : Prop := ∀ p d, Le (f p d) (f' p d)
theorem parts_le : ∀ (M : List ((Nat → Nat → Rs α) × (Nat → Nat → Rs α))), (∀ x ∈ M, LeF x.1 x.2) → ∀ first p d, Le (partsP ws (M.map Prod.fst) first p d) (partsP ws (M.map Prod.snd) first p d)
 | [], _, first, p, d => Le.refl _
 | x :: M, hM, first, p, d => by
  rw [List.map_cons, List.map_cons, partsP, partsP]
  refine (Le.refl _).bind fun u p1 => ?_
  refine (hM x (by simp) p1 d).bind fun y p2 => ?_
  exact (parts_le M (fun z hz => hM z (by simp [hz])) false p2 d).bind fun ys p3 => Le.refl _
theorem within_le (M : List ((Nat → Nat → Rs α) × (Nat → Nat → Rs α))) (hM : ∀ x ∈ M, LeF x.1 x.2) : LeF (withinP ws (M.map Prod.fst)) (withinP ws (M.map Prod.snd)) := fun p d => by
 unfold withinP
 refine (Le.refl _).bind fun u p1 => ?_
 refine (Le.refl _).bind fun u2 p2 => ?_
 refine (parts_le M hM true p2 (d + 1)).bind fun xs p3 => ?_
 exact Le.refl _
theorem called_le {E0 E0' : Nat → Nat → Rs Ex} (hE : LeF E0 E0') (op : Int) (k p d : Nat) : Le (calledP ws E0 op k p d) (calledP ws E0' op k p d) := by
 unfold calledP
 have := within_le (ws := ws) (List.replicate k (E0, E0')) (fun x hx => by rw [(List.mem_replicate.1 hx).2]; exact hE) (p + 1) d
 rw [map_fst, map_snd] at this
 exact this.bind fun xs q => Le.refl _
theorem atom_le {E0 E0' : Nat → Nat → Rs Ex} (hE : LeF E0 E0') : LeF (atomP ws E0) (atomP ws E0') := fun p d => by
 unfold atomP
 split
 ·exact Le.refl _
 split
 ·exact Le.refl _
 split
 ·split
  ·exact Le.refl _
  split
  ·exact called_le hE 9 2 p d
  split
  ·exact called_le hE 10 2 p d
  split
  ·exact called_le hE 21 3 p d
  exact Le.refl _
 split
 ·exact (within_le (ws := ws) [(E0, E0')] (fun x hx => by rw [List.mem_singleton.1 hx]; exact hE) p d).bind fun xs q => Le.refl _
 exact Le.refl _
theorem ahead_le {S S' : Nat → Nat → Rs Ex} (hS : LeF S S') (op : Int) : LeF (aheadP S op) (aheadP S' op) := fun p d => by
 unfold aheadP
 refine (Le.refl _).bind fun u p1 => ?_
 exact (hS _ _).bind fun x q => Le.refl _
theorem unary_le {S S' E0 E0' : Nat → Nat → Rs Ex} (hS : LeF S S') (hE : LeF E0 E0') : LeF (unaryP ws S E0) (unaryP ws S' E0') := fun p d => by
 unfold unaryP
 split
 ·exact ahead_le hS 19 p d
 split
 ·exact ahead_le hS 20 p d
 exact atom_le hE p d
structure LeP (f f' : PF) : Prop where
 E : ∀ lvl, LeF (f.E lvl) (f'.E lvl)
 L : ∀ lvl x p d, Le (f.L lvl x p d) (f'.L lvl x p d)
 S : LeF f.S f'.S
theorem loop_le {f f' : PF} (h : LeP f f') (lvl : Nat) (x : Ex) (p d : Nat) : Le (loopP ws f lvl x p d) (loopP ws f' lvl x p d) := by
 unfold loopP
 cases opAt ws lvl p with
 | none => exact Le.refl _
 | some op =>
  refine (h.E (lvl + 1) (p + 1) d).bind fun r q => ?_
  split
  ·exact Le.refl _
  ·exact h.L _ _ _ _
theorem lev_le {L L' : Nat → Ex → Nat → Nat → Rs Ex} {S S' : Nat → Nat → Rs Ex} (hL : ∀ lvl x p d, Le (L lvl x p d) (L' lvl x p d)) (hS : LeF S S') : ∀ i, LeF (levN L S i) (levN L' S' i)
 | 0 => hS
 | i + 1 => fun p d => by
  rw [levN, levN]
  exact (lev_le hL hS i p d).bind fun x q => hL _ _ _ _
theorem fuel_le (ws : List Wd) : ∀ n, LeP (fuelP ws n) (fuelP ws (n + 1))
 | 0 => ⟨fun lvl p d h => absurd rfl h, fun lvl x p d h => absurd rfl h, fun p d h => absurd rfl h⟩
 | n + 1 => by
  have ih := fuel_le ws n
  have hL := loop_le (ws := ws) ih
  have hS := unary_le (ws := ws) ih.S (ih.E 0)
  exact ⟨fun lvl => lev_le hL hS _, hL, hS⟩
end
def fullP (ws : List Wd) : PF := fuelP ws (ws.length + 1)
def fullT (ws : List Wd) : Nat → Nat → Rs Tm := fuelT ws (ws.length + 1)
theorem full_def (ws : List Wd) : PDef (fullP ws) 0 := fuelP_def ws ws.length 0 (by omega)
theorem full_mono (ws : List Wd) : PMono (fullP ws) := fuelP_mono ws _
theorem full_L (ws : List Wd) (lvl : Nat) (x : Ex) (p d : Nat) : (fullP ws).L lvl x p d = loopP ws (fullP ws) lvl x p d := ((fuel_le ws (ws.length + 1)).L lvl x p d ((full_def ws).L lvl x p d (Nat.zero_le _))).symm
theorem full_S (ws : List Wd) (p d : Nat) : (fullP ws).S p d = unaryP ws (fullP ws).S ((fullP ws).E 0) p d := ((fuel_le ws (ws.length + 1)).S p d ((full_def ws).S p d (Nat.zero_le _))).symm
theorem full_E (ws : List Wd) (lvl p d : Nat) (h : lvl < 5) : (fullP ws).E lvl p d = ((fullP ws).E (lvl + 1) p d).bind fun x p => (fullP ws).L lvl x p d := fuelP_E ws ws.length lvl p d h
theorem full_E5 (ws : List Wd) (p d : Nat) : (fullP ws).E 5 p d = (fullP ws).S p d := rfl
end Go.Proofs.YtaamkfajnpobfaaGreat

namespace Go.Proofs.YtaamkfajnpobfaaGreat

theorem Rs.bind_ret {α : Type} (r : Rs α) : r.bind (fun x q => .ok x q) = r := by cases r <;> rfl
def goP (f : PF) (lvl : Nat) : Nat → Ex → Nat → Nat → Rs Ex
 | 0, x, p, _ => .ok x p
 | k + 1, x, p, d => (f.L (lvl + k) x p d).bind fun y q => goP f lvl k y q d
theorem goP_snoc (f : PF) (lvl : Nat) : ∀ k x p d, goP f lvl (k + 1) x p d = (goP f (lvl + 1) k x p d).bind fun y q => f.L lvl y q d
 | 0, x, p, d => by
  show (f.L (lvl + 0) x p d).bind (fun y q => Rs.ok y q) = _
  rw [Rs.bind_ret]
  rfl
 | k + 1, x, p, d => by
  rw [goP]
  have : (fun y q => goP f lvl (k + 1) y q d) = fun y q => (goP f (lvl + 1) k y q d).bind fun y q => f.L lvl y q d := by
   funext y q
   exact goP_snoc f lvl k y q d
  rw [this, ← Rs.bind_assoc, show lvl + (k + 1) = lvl + 1 + k by omega]
  rfl
theorem full_go (ws : List Wd) (p d : Nat) : ∀ k lvl, lvl + k = 5 → (fullP ws).E lvl p d = ((fullP ws).S p d).bind fun x q => goP (fullP ws) lvl k x q d
 | 0, lvl, h => by
  obtain rfl : lvl = 5 := by omega
  rw [full_E5]
  exact (Rs.bind_ret _).symm
 | k + 1, lvl, h => by
  rw [full_E ws lvl p d (by omega), full_go ws p d k (lvl + 1) (by omega), Rs.bind_assoc]
  congr 1
  funext x q
  exact (goP_snoc _ _ _ _ _ _).symm
def powL (t : List Nat) : Option (Nat × Int) :=
 if t = [124] then some (0, 18) else if t = [38] then some (1, 17) else if t = [60] then some (2, 11) else if t = [60, 61] then some (2, 12) else if t = [61] then some (2, 13) else if t = [33, 61] then some (2, 14)
 else if t = [62, 61] then some (2, 15) else if t = [62] then some (2, 16) else if t = [43] then some (3, 5) else if t = [45] then some (3, 6) else if t = [42] then some (4, 7) else if t = [47] then some (4, 8) else none
def powAt (ws : List Wd) (p : Nat) : Option (Nat × Int) := if (wAt ws p).kind = 0 then powL (wAt ws p).text else none
def allS : List (List Nat) := [[124], [38], [60], [60, 61], [61], [33, 61], [62, 61], [62], [43], [45], [42], [47]]
def atL (lvl : Nat) (t : List Nat) : Option Int := match powL t with
 | some (i, op) => if i = lvl then some op else none
 | none => none
theorem atL_in : ∀ lvl, lvl < 5 → ∀ t ∈ allS, (if t ∈ signsAt lvl then (opsAt lvl)[(signsAt lvl).idxOf t]? else none) = atL lvl t := by decide +kernel
theorem signs_all : ∀ lvl, lvl < 5 → ∀ t ∈ signsAt lvl, t ∈ allS := by decide +kernel
theorem powL_none {t : List Nat} (h : t ∉ allS) : powL t = none := by
 unfold allS at h
 simp only [List.mem_cons, List.not_mem_nil, or_false, not_or] at h
 unfold powL
 simp [h]
theorem opAt_pow (ws : List Wd) (lvl p : Nat) (h : lvl < 5) : opAt ws lvl p = match powAt ws p with
 | some (i, op) => if i = lvl then some op else none
 | none => none := by
 unfold opAt powAt
 by_cases hk : (wAt ws p).kind = 0
 ·rw [if_neg (by simp [hk]), if_pos hk]
  generalize (wAt ws p).text = t
  by_cases ht : t ∈ allS
  ·exact atL_in lvl h t ht
  ·rw [powL_none ht, if_neg (fun h2 => ht (signs_all lvl h t h2))]
 ·rw [if_pos (by simpa using hk), if_neg hk]
theorem goP_none (ws : List Wd) (lvl : Nat) {p : Nat} : ∀ k x d, lvl + k ≤ 5 → (∀ i op, powAt ws p = some (i, op) → i < lvl ∨ lvl + k ≤ i) → goP (fullP ws) lvl k x p d = .ok x p
 | 0, x, d, _, _ => rfl
 | k + 1, x, d, hk, h => by
  rw [goP, full_L]
  have ho : opAt ws (lvl + k) p = none := by
   rw [opAt_pow ws (lvl + k) p (by omega)]
   cases hp : powAt ws p with
   | none => rfl
   | some z =>
    obtain ⟨i, op⟩ := z
    have := h i op hp
    dsimp only
    rw [if_neg (by omega)]
  unfold loopP
  rw [ho]
  exact goP_none ws lvl k x d (by omega) fun i op hp => by have := h i op hp; have h2 := opAt_pow ws (lvl + k) p (by omega); rw [ho, hp] at h2; dsimp only at h2; split at h2; cases h2; omega
theorem goP_step (ws : List Wd) (lvl : Nat) {p i : Nat} {op : Int} (hp : powAt ws p = some (i, op)) : ∀ k x d, lvl + k ≤ 5 → lvl ≤ i → i < lvl + k → goP (fullP ws) lvl k x p d = ((fullP ws).E (i + 1) (p + 1) d).bind fun r q => goP (fullP ws) lvl (if i = 2 then 2 - lvl else i - lvl + 1) (mk2 op x r) q d
 | 0, x, d, _, h1, h2 => by omega
 | k + 1, x, d, hk, h1, h2 => by
  rw [goP, full_L]
  unfold loopP
  have ho := opAt_pow ws (lvl + k) p (by omega)
  rw [hp] at ho
  dsimp only at ho
  by_cases hi : i = lvl + k
  ·rw [if_pos hi] at ho
   rw [ho]
   dsimp only
   rw [Rs.bind_assoc, ← hi]
   congr 1
   funext r q
   by_cases h3 : i = 2
   ·rw [if_pos h3, if_pos h3, show k = 2 - lvl by omega]
    rfl
   ·rw [if_neg h3, if_neg h3, show i - lvl + 1 = k + 1 by omega, goP, hi]
  ·rw [if_neg hi] at ho
   rw [ho]
   exact goP_step ws lvl hp k x d (by omega) h1 (by omega)
end Go.Proofs.YtaamkfajnpobfaaGreat

namespace Go.Proofs.YtaamkfajnpobfaaGreat
open Go.RowKit

structure SW (K : Ctx) (w : World) (p : Nat) (o : Int) (dp bd : Bool) : Prop where
 blk : Blk w K.g 69 #[.slice K.A K.ws.length K.c, .int .i64 (p : Int), .int .i64 o, .bool dp, .bool bd]
 rd : Reads w K.B 4 K.A K.ws.length (wdCells K.ws)
 p_le : p ≤ K.ws.length
 o_le : 0 ≤ o ∧ o ≤ 1000
 le : K.B ≤ K.g
theorem SW.step {K : Ctx} {w w' : World} {p : Nat} {o : Int} {dp bd : Bool} (h : SW K w p o dp bd) (hb : Below w.heap.size w w') : SW K w' p o dp bd := ⟨h.blk.step hb, h.rd.below (hb.mono (by have := h.blk.lt; have := h.le; omega)), h.p_le, h.o_le, h.le⟩
theorem SW.put {K : Ctx} {w w' : World} {p g : Nat} {o : Int} {dp bd : Bool} {T : TypeId} {cur cs : Array Value} {E : Prop} (h : SW K w p o dp bd) (k : Blk w g T cur) (pw : Put w w' g T cs) (_e : E) (hne : K.g < g := by omega) : SW K w' p o dp bd := ⟨h.blk.put pw (by omega), h.rd.below (pw.below (by have := h.le; omega) k.lt), h.p_le, h.o_le, h.le⟩
theorem SW.to {K : Ctx} {w W : World} {h0 p : Nat} {o : Int} {dp bd : Bool} (h : SW K w p o dp bd) (hK : K.B ≤ K.g) (bel : Fz h0 K.g w W) {p' : Nat} {o' : Int} {dp' bd' : Bool} (hb : Blk W K.g 69 #[.slice K.A K.ws.length K.c, .int .i64 (p' : Int), .int .i64 o', .bool dp', .bool bd']) (hp : p' ≤ K.ws.length) (ho : 0 ≤ o' ∧ o' ≤ 1000) (hh : K.B ≤ h0 := by omega) : SW K W p' o' dp' bd' :=
 ⟨hb, h.rd.below (bel.below hh hK), hp, ho, hK⟩
def txtQ (ws : List Wd) (p : Nat) (bd : Bool) (k : Int) : List Nat := if bd = true then [] else if (wAt ws p).kind = k then (wAt ws p).text else []
theorem wAt_some {ws : List Wd} {p : Nat} {x : Wd} (h : ws[p]? = some x) : wAt ws p = x := by unfold wAt; rw [List.getD_eq_getElem?_getD, h]; rfl
theorem wAt_none {ws : List Wd} {p : Nat} (h : ws.length ≤ p) : wAt ws p = ⟨-1, [], 0, 0⟩ := by unfold wAt; rw [List.getD_eq_getElem?_getD, List.getElem?_eq_none h]; rfl
theorem Ctx.Ok.wAt {K : Ctx} (hK : K.Ok) (p : Nat) : I64 (wAt K.ws p).kind ∧ I64 (wAt K.ws p).n ∧ (∀ c ∈ (wAt K.ws p).text, c < 256) ∧ (wAt K.ws p).text.length ≤ 4000 := by
 obtain ⟨a1, a2, a3, a4, a5⟩ := hK.at_ p
 obtain ⟨b1, b2, b3⟩ := K.at_kind p
 rw [← b1, ← b2, ← b3]
 exact ⟨a1, a2, a3, a4⟩
theorem txtQ_lt {K : Ctx} (hK : K.Ok) (p : Nat) (bd : Bool) (k : Int) : ∀ c ∈ txtQ K.ws p bd k, c < 256 := by
 unfold txtQ
 split
 ·simp
 split
 ·exact (hK.wAt p).2.2.1
 ·simp
theorem text_any (K : Ctx) (hK : K.Ok) (p : Nat) (o : Int) (dp bd : Bool) (k : Int) (w : World) (h : SW K w p o dp bd) (hk : 0 ≤ k) : Calls Tryz.prog 66 #[.pointer (some ⟨K.g, 0, none⟩), .int .i64 k] w fun e w' => e = .returned (.string (strOf (txtQ K.ws p bd k))) ∧ Grow w w' := by
 have bel := Below.refl w.heap.size w
 have k99 := h.blk
 have hrd := h.rd
 have hlt := h.blk.lt
 have hBg := hK.le
 have hpl := h.p_le
 refine Zs 47 Tryz.func66 ?_
 refine Zsr ?_
 refine Za ?_
 refine Zk3 0 1 4 (Zts (Cd.seq ?_))
 cases bd with
 | true =>
  refine Cd.draw 31 (by kernel_rfl) [] (.inl rfl) rfl Grow Grow.refl (fun _ _ _ => Grow.trans) ?_
  intro w1 hw1 zw1
  replace bel := bel.step hw1
  replace k99 := k99.step hw1
  have zbel := bel.size
  have zlt := k99.lt
  refine Zdm ?_
  refine Zd (fun w hG => Runs.nilCheck rfl rfl) ?_
  refine Zd (fun w hG => Runs.fieldB 4 rfl rfl Tryz.underlying69 rfl (by kernel_rfl)) ?_
  refine Zd (fun w hG => Runs.loadB rfl rfl Tryz.underlying4 rfl (k99.step hG) rfl) ?_
  refine Zdm ?_
  refine Zds ?_
  refine Zds ?_
  refine Zds ?_
  refine Zds ?_
  refine Zds ?_
  refine Zds ?_
  refine Zds ?_
  refine Zds ?_
  refine Zds ?_
  refine Zds ?_
  refine Zd (fun w hG => Runs.pickT rfl rfl rfl) ?_
  refine Zdm ?_
  refine Zds ?_
  refine Zds ?_
  refine Zds ?_
  refine Zds ?_
  refine Zds ?_
  refine Zds ?_
  refine Zds ?_
  refine Zds ?_
  refine Zds ?_
  refine Zds ?_
  refine Zds ?_
  refine Zds ?_
  refine Zds ?_
  refine Zd (fun w hG => Runs.pickT rfl rfl rfl) ?_
  refine Dr.nil ?_
  refine FinX.done (F' := [(0, _), (1, _), (4, _), (35, _)]) rfl ⟨rfl, rfl, rfl, rfl, trivial⟩ ?_
  intro w2 hw2 fw2
  replace bel := bel.step hw2
  replace k99 := k99.step hw2
  refine Zk4 0 1 4 35 (Zt ?_)
  refine Cd.condT rfl rfl ?_
  refine Zsr ?_
  refine Za ?_
  refine Zk4 0 1 4 35 (Zt (Cd.ret (Post.then_ret ?_)))
  refine Post.end1 rfl rfl (.inl rfl) ?_
  exact ⟨rfl, bel⟩
 | false =>
  have hq : txtQ K.ws p false k = if (wAt K.ws p).kind = k then (wAt K.ws p).text else [] := rfl
  rcases Nat.lt_or_ge p K.ws.length with hp | hp
  ·obtain ⟨ad, hA, hadb, hcell⟩ := hrd.2 (by omega)
   obtain ⟨x, hx⟩ : ∃ x, K.ws[p]? = some x := ⟨_, List.getElem?_eq_getElem (by omega)⟩
   have hat := wAt_some hx
   have hce : ∀ W, Below w.heap.size w W → ∀ (q : Nat) (u : Value), ([.int .i64 x.kind, .string (strOf x.text), .int .i64 x.n, .int .i64 (x.pos : Int)] : List Value)[q]? = some u → W.cell? ((ad.add (p * 4)).add q) = some u := fun W hb q u hu => by
    rw [(hb.mono (show K.B ≤ w.heap.size by omega)).cell (by rw [block_of_add, block_of_add]; exact hadb), add_of_add]
    exact hcell _ _ (wdCells_row K.ws p x hx q u hu)
   rw [hA] at k99
   rw [hq, hat]
   by_cases hc : x.kind = k
   ·rw [if_pos hc]
    refine Cd.draw 31 (by kernel_rfl) [] (.inl rfl) rfl Grow Grow.refl (fun _ _ _ => Grow.trans) ?_
    intro w1 hw1 zw1
    replace bel := bel.step hw1
    replace k99 := k99.step hw1
    have zbel := bel.size
    have zlt := k99.lt
    refine Zdm ?_
    refine Zd (fun w hG => Runs.nilCheck rfl rfl) ?_
    refine Zd (fun w hG => Runs.fieldB 4 rfl rfl Tryz.underlying69 rfl (by kernel_rfl)) ?_
    refine Zd (fun w hG => Runs.loadB rfl rfl Tryz.underlying4 rfl (k99.step hG) rfl) ?_
    refine Zdm ?_
    refine Zdg (fun w hG => Runs.move rfl rfl) ?_
    refine Zdg (fun w hG => Runs.nilCheck rfl rfl) ?_
    refine Zdg (fun w hG => Runs.fieldB 1 rfl rfl Tryz.underlying69 rfl (by kernel_rfl)) ?_
    refine Zdg (fun w hG => Runs.loadB rfl rfl Tryz.underlying3 rfl (k99.step hG) rfl) ?_
    refine Zdg (fun w hG => Runs.move rfl rfl) ?_
    refine Zdg (fun w hG => Runs.nilCheck rfl rfl) ?_
    refine Zdg (fun w hG => Runs.fieldB 0 rfl rfl Tryz.underlying69 rfl (by kernel_rfl)) ?_
    refine Zdg (fun w hG => Runs.loadB rfl rfl Tryz.underlying64 rfl (k99.step hG) rfl) ?_
    refine Zdg (fun w hG => Runs.len rfl rfl Tryz.underlying64) ?_
    refine Zdg (fun w hG => (Runs.geq rfl rfl rfl).isF (by omega)) ?_
    refine Zd (fun w hG => Runs.pickF rfl rfl rfl) ?_
    refine Zdm ?_
    refine Zdg (fun w hG => Runs.move rfl rfl) ?_
    refine Zdg (fun w hG => Runs.nilCheck rfl rfl) ?_
    refine Zdg (fun w hG => Runs.fieldB 0 rfl rfl Tryz.underlying69 rfl (by kernel_rfl)) ?_
    refine Zdg (fun w hG => Runs.loadB rfl rfl Tryz.underlying64 rfl (k99.step hG) rfl) ?_
    refine Zdg (fun w hG => Runs.move rfl rfl) ?_
    refine Zdg (fun w hG => Runs.nilCheck rfl rfl) ?_
    refine Zdg (fun w hG => Runs.fieldB 1 rfl rfl Tryz.underlying69 rfl (by kernel_rfl)) ?_
    refine Zdg (fun w hG => Runs.loadB rfl rfl Tryz.underlying3 rfl (k99.step hG) rfl) ?_
    refine Zdg (fun w hG => Runs.indexN rfl rfl rfl Tryz.underlying64 (s := 4) (by kernel_rfl) (j := p) rfl (by omega)) ?_
    refine Zdg (fun w hG => Runs.fieldA 0 rfl rfl Tryz.underlying109 rfl (by kernel_rfl)) ?_
    refine Zdg (fun w hG => Runs.load1 rfl rfl Tryz.underlying3 rfl (hce _ (bel.step hG) 0 _ rfl)) ?_
    refine Zdg (fun w hG => Runs.move rfl rfl) ?_
    refine Zdg (fun w hG => (Runs.neqI rfl rfl rfl).isF (fun h => h hc)) ?_
    refine Zd (fun w hG => Runs.pickF rfl rfl rfl) ?_
    refine Dr.nil ?_
    refine FinX.done (F' := [(0, _), (1, _), (4, _), (35, _)]) rfl ⟨rfl, rfl, rfl, rfl, trivial⟩ ?_
    intro w2 hw2 fw2
    replace bel := bel.step hw2
    replace k99 := k99.step hw2
    refine Zk4 0 1 4 35 (Zt ?_)
    refine Cd.condF rfl rfl ?_
    refine Cd.skip (Zts ?_)
    refine Cd.weak (F' := [(0, _), (1, _), (35, _)]) ⟨rfl, rfl, rfl, trivial⟩ ?_
    refine Cd.draw 12 (by kernel_rfl) [] (.inl rfl) rfl Grow Grow.refl (fun _ _ _ => Grow.trans) ?_
    intro w3 hw3 zw3
    replace bel := bel.step hw3
    replace k99 := k99.step hw3
    have zbel := bel.size
    have zlt := k99.lt
    refine Zdm ?_
    refine Zd (fun w hG => Runs.nilCheck rfl rfl) ?_
    refine Zd (fun w hG => Runs.fieldB 0 rfl rfl Tryz.underlying69 rfl (by kernel_rfl)) ?_
    refine Zd (fun w hG => Runs.loadB rfl rfl Tryz.underlying64 rfl (k99.step hG) rfl) ?_
    refine Zdm ?_
    refine Zd (fun w hG => Runs.nilCheck rfl rfl) ?_
    refine Zd (fun w hG => Runs.fieldB 1 rfl rfl Tryz.underlying69 rfl (by kernel_rfl)) ?_
    refine Zd (fun w hG => Runs.loadB rfl rfl Tryz.underlying3 rfl (k99.step hG) rfl) ?_
    refine Zd (fun w hG => Runs.indexN rfl rfl rfl Tryz.underlying64 (s := 4) (by kernel_rfl) (j := p) rfl (by omega)) ?_
    refine Zd (fun w hG => Runs.fieldA 1 rfl rfl Tryz.underlying109 rfl (by kernel_rfl)) ?_
    refine Zd (fun w hG => Runs.load1 rfl rfl Tryz.underlying9 rfl (hce _ (bel.step hG) 1 _ rfl)) ?_
    refine Zd (fun w hG => Runs.assign rfl rfl) ?_
    refine Dr.nil ?_
    refine FinX.done (F' := [(0, _), (1, _), (4, _), (35, _)]) rfl ⟨rfl, rfl, rfl, rfl, trivial⟩ ?_
    intro w4 hw4 fw4
    replace bel := bel.step hw4
    replace k99 := k99.step hw4
    refine Zk4 0 1 4 35 (Zt (Cd.ret ?_))
    refine Post.end1 rfl rfl (.inl rfl) ?_
    exact ⟨rfl, bel⟩
   ·rw [if_neg hc]
    refine Cd.draw 31 (by kernel_rfl) [] (.inl rfl) rfl Grow Grow.refl (fun _ _ _ => Grow.trans) ?_
    intro w1 hw1 zw1
    replace bel := bel.step hw1
    replace k99 := k99.step hw1
    have zbel := bel.size
    have zlt := k99.lt
    refine Zdm ?_
    refine Zd (fun w hG => Runs.nilCheck rfl rfl) ?_
    refine Zd (fun w hG => Runs.fieldB 4 rfl rfl Tryz.underlying69 rfl (by kernel_rfl)) ?_
    refine Zd (fun w hG => Runs.loadB rfl rfl Tryz.underlying4 rfl (k99.step hG) rfl) ?_
    refine Zdm ?_
    refine Zdg (fun w hG => Runs.move rfl rfl) ?_
    refine Zdg (fun w hG => Runs.nilCheck rfl rfl) ?_
    refine Zdg (fun w hG => Runs.fieldB 1 rfl rfl Tryz.underlying69 rfl (by kernel_rfl)) ?_
    refine Zdg (fun w hG => Runs.loadB rfl rfl Tryz.underlying3 rfl (k99.step hG) rfl) ?_
    refine Zdg (fun w hG => Runs.move rfl rfl) ?_
    refine Zdg (fun w hG => Runs.nilCheck rfl rfl) ?_
    refine Zdg (fun w hG => Runs.fieldB 0 rfl rfl Tryz.underlying69 rfl (by kernel_rfl)) ?_
    refine Zdg (fun w hG => Runs.loadB rfl rfl Tryz.underlying64 rfl (k99.step hG) rfl) ?_
    refine Zdg (fun w hG => Runs.len rfl rfl Tryz.underlying64) ?_
    refine Zdg (fun w hG => (Runs.geq rfl rfl rfl).isF (by omega)) ?_
    refine Zd (fun w hG => Runs.pickF rfl rfl rfl) ?_
    refine Zdm ?_
    refine Zdg (fun w hG => Runs.move rfl rfl) ?_
    refine Zdg (fun w hG => Runs.nilCheck rfl rfl) ?_
    refine Zdg (fun w hG => Runs.fieldB 0 rfl rfl Tryz.underlying69 rfl (by kernel_rfl)) ?_
    refine Zdg (fun w hG => Runs.loadB rfl rfl Tryz.underlying64 rfl (k99.step hG) rfl) ?_
    refine Zdg (fun w hG => Runs.move rfl rfl) ?_
    refine Zdg (fun w hG => Runs.nilCheck rfl rfl) ?_
    refine Zdg (fun w hG => Runs.fieldB 1 rfl rfl Tryz.underlying69 rfl (by kernel_rfl)) ?_
    refine Zdg (fun w hG => Runs.loadB rfl rfl Tryz.underlying3 rfl (k99.step hG) rfl) ?_
    refine Zdg (fun w hG => Runs.indexN rfl rfl rfl Tryz.underlying64 (s := 4) (by kernel_rfl) (j := p) rfl (by omega)) ?_
    refine Zdg (fun w hG => Runs.fieldA 0 rfl rfl Tryz.underlying109 rfl (by kernel_rfl)) ?_
    refine Zdg (fun w hG => Runs.load1 rfl rfl Tryz.underlying3 rfl (hce _ (bel.step hG) 0 _ rfl)) ?_
    refine Zdg (fun w hG => Runs.move rfl rfl) ?_
    refine Zdg (fun w hG => (Runs.neqI rfl rfl rfl).isT (hc)) ?_
    refine Zd (fun w hG => Runs.pickF rfl rfl rfl) ?_
    refine Dr.nil ?_
    refine FinX.done (F' := [(0, _), (1, _), (4, _), (35, _)]) rfl ⟨rfl, rfl, rfl, rfl, trivial⟩ ?_
    intro w2 hw2 fw2
    replace bel := bel.step hw2
    replace k99 := k99.step hw2
    refine Zk4 0 1 4 35 (Zt ?_)
    refine Cd.condT rfl rfl ?_
    refine Zsr ?_
    refine Za ?_
    refine Zk4 0 1 4 35 (Zt (Cd.ret (Post.then_ret ?_)))
    refine Post.end1 rfl rfl (.inl rfl) ?_
    exact ⟨rfl, bel⟩
  ·rw [hq, wAt_none hp, if_neg (show ¬ (-1 : Int) = k by omega)]
   refine Cd.draw 31 (by kernel_rfl) [] (.inl rfl) rfl Grow Grow.refl (fun _ _ _ => Grow.trans) ?_
   intro w1 hw1 zw1
   replace bel := bel.step hw1
   replace k99 := k99.step hw1
   have zbel := bel.size
   have zlt := k99.lt
   refine Zdm ?_
   refine Zd (fun w hG => Runs.nilCheck rfl rfl) ?_
   refine Zd (fun w hG => Runs.fieldB 4 rfl rfl Tryz.underlying69 rfl (by kernel_rfl)) ?_
   refine Zd (fun w hG => Runs.loadB rfl rfl Tryz.underlying4 rfl (k99.step hG) rfl) ?_
   refine Zdm ?_
   refine Zdg (fun w hG => Runs.move rfl rfl) ?_
   refine Zdg (fun w hG => Runs.nilCheck rfl rfl) ?_
   refine Zdg (fun w hG => Runs.fieldB 1 rfl rfl Tryz.underlying69 rfl (by kernel_rfl)) ?_
   refine Zdg (fun w hG => Runs.loadB rfl rfl Tryz.underlying3 rfl (k99.step hG) rfl) ?_
   refine Zdg (fun w hG => Runs.move rfl rfl) ?_
   refine Zdg (fun w hG => Runs.nilCheck rfl rfl) ?_
   refine Zdg (fun w hG => Runs.fieldB 0 rfl rfl Tryz.underlying69 rfl (by kernel_rfl)) ?_
   refine Zdg (fun w hG => Runs.loadB rfl rfl Tryz.underlying64 rfl (k99.step hG) rfl) ?_
   refine Zdg (fun w hG => Runs.len rfl rfl Tryz.underlying64) ?_
   refine Zdg (fun w hG => (Runs.geq rfl rfl rfl).isT (by omega)) ?_
   refine Zd (fun w hG => Runs.pickF rfl rfl rfl) ?_
   refine Zdm ?_
   refine Zds ?_
   refine Zds ?_
   refine Zds ?_
   refine Zds ?_
   refine Zds ?_
   refine Zds ?_
   refine Zds ?_
   refine Zds ?_
   refine Zds ?_
   refine Zds ?_
   refine Zds ?_
   refine Zds ?_
   refine Zds ?_
   refine Zd (fun w hG => Runs.pickT rfl rfl rfl) ?_
   refine Dr.nil ?_
   refine FinX.done (F' := [(0, _), (1, _), (4, _), (35, _)]) rfl ⟨rfl, rfl, rfl, rfl, trivial⟩ ?_
   intro w2 hw2 fw2
   replace bel := bel.step hw2
   replace k99 := k99.step hw2
   refine Zk4 0 1 4 35 (Zt ?_)
   refine Cd.condT rfl rfl ?_
   refine Zsr ?_
   refine Za ?_
   refine Zk4 0 1 4 35 (Zt (Cd.ret (Post.then_ret ?_)))
   refine Post.end1 rfl rfl (.inl rfl) ?_
   exact ⟨rfl, bel⟩
def takeQ (ws : List Wd) (s : List Nat) (p : Nat) (bd : Bool) : Nat × Bool := if bd = false ∧ isS ws p s = true then (p + 1, false) else (p, true)
theorem txtQ_isS {ws : List Wd} {p : Nat} {bd : Bool} {s : List Nat} (hs : s ≠ []) : txtQ ws p bd 0 = s ↔ bd = false ∧ isS ws p s = true := by
 unfold txtQ isS
 cases bd with
 | true =>
  rw [if_pos rfl]
  exact ⟨fun h => absurd h.symm hs, fun h => by cases h.1⟩
 | false =>
  rw [if_neg (by simp)]
  by_cases hk : (wAt ws p).kind = 0
  ·rw [if_pos hk]; simp [hk]
  ·rw [if_neg hk]
   exact ⟨fun h => absurd h.symm hs, fun h => by simp [hk] at h⟩
theorem isS_lt {ws : List Wd} {p : Nat} {s : List Nat} (h : isS ws p s = true) : p < ws.length := by
 rcases Nat.lt_or_ge p ws.length with hp | hp
 ·exact hp
 ·unfold isS at h
  rw [wAt_none hp] at h
  simp at h
theorem take_any (K : Ctx) (hK : K.Ok) (p : Nat) (o : Int) (dp bd : Bool) (s : List Nat) (w : World) (h : SW K w p o dp bd) (hs : ∀ x ∈ s, x < 256) (hne : s ≠ []) : Calls Tryz.prog 67 #[.pointer (some ⟨K.g, 0, none⟩), .string (strOf s)] w fun e w' => (∃ v, e = .returned v) ∧ Fz w.heap.size K.g w w' ∧ SW K w' (takeQ K.ws s p bd).1 o dp (takeQ K.ws s p bd).2 := by
 have bel := Fz.refl w.heap.size K.g w
 have k99 := h.blk
 have e99 : K.g = K.g := rfl
 have hlt := h.blk.lt
 have hle := hK.le
 have hpl := h.p_le
 have hlen := hK.len
 have htx := text_any K hK p o dp bd 0 w h (by omega)
 have htl := txtQ_lt hK p bd 0
 refine Zs 18 Tryz.func67 ?_
 refine Cd.seq (Zsr ?_)
 refine Zm ?_
 refine Zc (Ze Tryz.func66) (htx) ?_
 rintro e w5 ⟨rfl, hb5⟩
 refine ⟨_, rfl, ?_⟩
 replace bel := bel.step hb5
 replace k99 := k99.step hb5
 refine Zm ?_
 refine Zv (Runs.neqL rfl rfl rfl htl hs) ?_
 refine Zk3 0 1 7 (Zt ?_)
 refine Cd.condD rfl (fun hc => ?_) (fun hc => ?_)
 ·have hq : takeQ K.ws s p bd = (p, true) := by unfold takeQ; rw [if_neg (fun h => hc ((txtQ_isS hne).2 h))]
  refine Zsr ?_
  refine Zm ?_
  refine Zv (Runs.nilCheck rfl rfl) ?_
  refine Zf 4 Tryz.underlying69 ?_
  refine Zq k99 ?_
  intro w1 pw1
  replace bel := bel.put k99 pw1 e99
  replace k99 := pw1.blk
  refine Zk3 0 1 7 (Zt (Cd.ret (Post.then_ret ?_)))
  refine Post.end0 rfl (.inl rfl) ?_
  rw [hq]
  exact ⟨⟨_, rfl⟩, bel, h.to hle bel k99 hpl h.o_le⟩
 ·have hc := (txtQ_isS hne).1 (Decidable.not_not.1 hc)
  have hq : takeQ K.ws s p bd = (p + 1, false) := by unfold takeQ; rw [if_pos hc]
  have hp := isS_lt hc.2
  obtain rfl := hc.1
  refine Cd.skip (Ztr ?_)
  refine Zm ?_
  refine Zv (Runs.nilCheck rfl rfl) ?_
  refine Zf 1 Tryz.underlying69 ?_
  refine Zv (Runs.loadB rfl rfl Tryz.underlying3 rfl k99 rfl) ?_
  refine Za_ ?_
  refine Zv (Runs.nilCheck rfl rfl) ?_
  refine Zf 1 Tryz.underlying69 ?_
  refine Zq k99 ?_
  intro w1 pw1
  replace bel := bel.put k99 pw1 e99
  replace k99 := pw1.blk
  refine Zk3 0 1 7 ?_
  refine Post.end0 rfl (.inr rfl) ?_
  rw [hq]
  exact ⟨⟨_, rfl⟩, bel, h.to hle bel (by rw [Int.natCast_add]; exact k99) (by show p + 1 ≤ _; omega) h.o_le⟩
theorem enterS_any (K : Ctx) (hK : K.Ok) (p : Nat) (o : Int) (dp bd : Bool) (w : World) (h : SW K w p o dp bd) (ho : o ≤ 900) : Calls Tryz.prog 68 #[.pointer (some ⟨K.g, 0, none⟩)] w fun e w' => (∃ v, e = .returned v) ∧ Fz w.heap.size K.g w w' ∧ SW K w' p (o + 1) (if 64 < o + 1 ∧ bd = false then true else dp) (if 64 < o + 1 ∧ bd = false then true else bd) := by
 have bel := Fz.refl w.heap.size K.g w
 have k99 := h.blk
 have e99 : K.g = K.g := rfl
 have hlt := h.blk.lt
 have hle := hK.le
 have hpl := h.p_le
 have hlen := hK.len
 have hol := h.o_le
 refine Zs 27 Tryz.func68 ?_
 refine Zsr ?_
 refine Zm ?_
 refine Zv (Runs.nilCheck rfl rfl) ?_
 refine Zf 2 Tryz.underlying69 ?_
 refine Zv (Runs.loadB rfl rfl Tryz.underlying3 rfl k99 rfl) ?_
 refine Za_ ?_
 refine Zv (Runs.nilCheck rfl rfl) ?_
 refine Zf 2 Tryz.underlying69 ?_
 refine Zq k99 ?_
 intro w1 pw1
 replace bel := bel.put k99 pw1 e99
 replace k99 := pw1.blk
 refine Zk1 0 (Ztq ?_)
 refine Zm ?_
 refine Zv (Runs.nilCheck rfl rfl) ?_
 refine Zf 2 Tryz.underlying69 ?_
 refine Zv (Runs.loadB rfl rfl Tryz.underlying3 rfl k99 rfl) ?_
 refine Zv (Runs.gtr rfl rfl rfl) ?_
 refine Zm ?_
 refine SeqC.start ?_
 refine Zco (fun hcx => Runs.move rfl rfl) ?_
 refine SeqC.next rfl rfl rfl rfl rfl rfl rfl (fun hcx => Runs.nilCheck rfl rfl) ?_
 refine SeqC.next rfl rfl rfl rfl rfl rfl rfl (fun hcx => Runs.fieldB 4 rfl rfl Tryz.underlying69 rfl (by kernel_rfl)) ?_
 refine SeqC.next rfl rfl rfl rfl rfl rfl rfl (fun hcx => Runs.loadB rfl rfl Tryz.underlying4 rfl k99 rfl) ?_
 refine SeqC.next rfl rfl rfl rfl rfl rfl rfl (fun hcx => Runs.not rfl rfl) ?_
 refine SeqC.and rfl rfl rfl rfl rfl rfl rfl ?_
 refine Zk2 0 20 (Zt ?_)
 refine Cd.cond rfl (fun hc => ?_) (fun hc => ?_)
 ·have hc : 64 < o + 1 ∧ bd = false := by simpa using hc
  refine Zsr ?_
  refine Zm ?_
  refine Zv (Runs.nilCheck rfl rfl) ?_
  refine Zf 3 Tryz.underlying69 ?_
  refine Zq k99 ?_
  intro w2 pw2
  replace bel := bel.put k99 pw2 e99
  replace k99 := pw2.blk
  refine Zk2 0 20 (Ztr ?_)
  refine Zm ?_
  refine Zv (Runs.nilCheck rfl rfl) ?_
  refine Zf 4 Tryz.underlying69 ?_
  refine Zq k99 ?_
  intro w3 pw3
  replace bel := bel.put k99 pw3 e99
  replace k99 := pw3.blk
  refine Zk2 0 20 ?_
  refine Post.end0 rfl (.inr rfl) ?_
  rw [if_pos hc, if_pos hc]
  exact ⟨⟨_, rfl⟩, bel, h.to hle bel k99 hpl (by omega)⟩
 ·have hc : ¬ (64 < o + 1 ∧ bd = false) := by simpa using hc
  refine Cd.skip ?_
  refine Post.end0 rfl (.inr rfl) ?_
  rw [if_neg hc, if_neg hc]
  exact ⟨⟨_, rfl⟩, bel, h.to hle bel k99 hpl (by omega)⟩
end Go.Proofs.YtaamkfajnpobfaaGreat

namespace Go.Proofs.YtaamkfajnpobfaaGreat
open Go.RowKit

def powZ (t : List Nat) : Int × Int := match powL t with
 | some (i, op) => ((i : Int) + 1, op)
 | none => (0, 0)
theorem power_any (t : List Nat) (w : World) (ht : ∀ x ∈ t, x < 256) : Calls Tryz.prog 76 #[.string (strOf t)] w fun e w' => e = .returned (.tuple #[.int .i64 (powZ t).1, .int .i64 (powZ t).2]) ∧ Grow w w' := by
 have bel := Below.refl w.heap.size w
 refine Zs 29 Tryz.func76 ?_
 refine Zsr ?_
 refine Za ?_
 refine Za ?_
 refine Zk3 0 2 3 (Zts (Zsr ?_))
 refine Zm ?_
 refine Zk4 0 2 3 4 (Zt (Cd.block (Zsr ?_)))
 refine Zv (Runs.eqlL (b := [124]) rfl rfl rfl ht (by decide)) ?_
 refine Za ?_
 refine Zk5 0 2 3 4 5 (Zt ?_)
 refine Cd.condD rfl (fun c0 => ?_) (fun c0 => ?_)
 ·subst c0
  refine Zsr ?_
  refine Za ?_
  refine Za ?_
  refine Zk5 0 2 3 4 5 (Zt (Cd.ret (Post.block_ret (Post.then_ret ?_))))
  refine Post.end2 rfl rfl rfl (.inl rfl) ?_
  exact ⟨rfl, bel⟩
 refine Zsr ?_
 refine Zv (Runs.eqlL (b := [38]) rfl rfl rfl ht (by decide)) ?_
 refine Za ?_
 refine Zk6 0 2 3 4 5 7 (Zt ?_)
 refine Cd.condD rfl (fun c1 => ?_) (fun c1 => ?_)
 ·subst c1
  refine Zsr ?_
  refine Za ?_
  refine Za ?_
  refine Zk6 0 2 3 4 5 7 (Zt (Cd.ret (Post.block_ret (Post.then_ret ?_))))
  refine Post.end2 rfl rfl rfl (.inl rfl) ?_
  exact ⟨rfl, bel⟩
 refine Zsr ?_
 refine Zv (Runs.eqlL (b := [60]) rfl rfl rfl ht (by decide)) ?_
 refine Za ?_
 refine Zk7 0 2 3 4 5 7 9 (Zt ?_)
 refine Cd.condD rfl (fun c2 => ?_) (fun c2 => ?_)
 ·subst c2
  refine Zsr ?_
  refine Za ?_
  refine Za ?_
  refine Zk7 0 2 3 4 5 7 9 (Zt (Cd.ret (Post.block_ret (Post.then_ret ?_))))
  refine Post.end2 rfl rfl rfl (.inl rfl) ?_
  exact ⟨rfl, bel⟩
 refine Zsr ?_
 refine Zv (Runs.eqlL (b := [60, 61]) rfl rfl rfl ht (by decide)) ?_
 refine Za ?_
 refine Zk8 0 2 3 4 5 7 9 11 (Zt ?_)
 refine Cd.condD rfl (fun c3 => ?_) (fun c3 => ?_)
 ·subst c3
  refine Zsr ?_
  refine Za ?_
  refine Za ?_
  refine Zk8 0 2 3 4 5 7 9 11 (Zt (Cd.ret (Post.block_ret (Post.then_ret ?_))))
  refine Post.end2 rfl rfl rfl (.inl rfl) ?_
  exact ⟨rfl, bel⟩
 refine Zsr ?_
 refine Zv (Runs.eqlL (b := [61]) rfl rfl rfl ht (by decide)) ?_
 refine Za ?_
 refine Zk9 0 2 3 4 5 7 9 11 13 (Zt ?_)
 refine Cd.condD rfl (fun c4 => ?_) (fun c4 => ?_)
 ·subst c4
  refine Zsr ?_
  refine Za ?_
  refine Za ?_
  refine Zk9 0 2 3 4 5 7 9 11 13 (Zt (Cd.ret (Post.block_ret (Post.then_ret ?_))))
  refine Post.end2 rfl rfl rfl (.inl rfl) ?_
  exact ⟨rfl, bel⟩
 refine Zsr ?_
 refine Zv (Runs.eqlL (b := [33, 61]) rfl rfl rfl ht (by decide)) ?_
 refine Za ?_
 refine Zk10 0 2 3 4 5 7 9 11 13 15 (Zt ?_)
 refine Cd.condD rfl (fun c5 => ?_) (fun c5 => ?_)
 ·subst c5
  refine Zsr ?_
  refine Za ?_
  refine Za ?_
  refine Zk10 0 2 3 4 5 7 9 11 13 15 (Zt (Cd.ret (Post.block_ret (Post.then_ret ?_))))
  refine Post.end2 rfl rfl rfl (.inl rfl) ?_
  exact ⟨rfl, bel⟩
 refine Zsr ?_
 refine Zv (Runs.eqlL (b := [62, 61]) rfl rfl rfl ht (by decide)) ?_
 refine Za ?_
 refine Zk11 0 2 3 4 5 7 9 11 13 15 17 (Zt ?_)
 refine Cd.condD rfl (fun c6 => ?_) (fun c6 => ?_)
 ·subst c6
  refine Zsr ?_
  refine Za ?_
  refine Za ?_
  refine Zk11 0 2 3 4 5 7 9 11 13 15 17 (Zt (Cd.ret (Post.block_ret (Post.then_ret ?_))))
  refine Post.end2 rfl rfl rfl (.inl rfl) ?_
  exact ⟨rfl, bel⟩
 refine Zsr ?_
 refine Zv (Runs.eqlL (b := [62]) rfl rfl rfl ht (by decide)) ?_
 refine Za ?_
 refine Zk12 0 2 3 4 5 7 9 11 13 15 17 19 (Zt ?_)
 refine Cd.condD rfl (fun c7 => ?_) (fun c7 => ?_)
 ·subst c7
  refine Zsr ?_
  refine Za ?_
  refine Za ?_
  refine Zk12 0 2 3 4 5 7 9 11 13 15 17 19 (Zt (Cd.ret (Post.block_ret (Post.then_ret ?_))))
  refine Post.end2 rfl rfl rfl (.inl rfl) ?_
  exact ⟨rfl, bel⟩
 refine Zsr ?_
 refine Zv (Runs.eqlL (b := [43]) rfl rfl rfl ht (by decide)) ?_
 refine Za ?_
 refine Zk13 0 2 3 4 5 7 9 11 13 15 17 19 21 (Zt ?_)
 refine Cd.condD rfl (fun c8 => ?_) (fun c8 => ?_)
 ·subst c8
  refine Zsr ?_
  refine Za ?_
  refine Za ?_
  refine Zk13 0 2 3 4 5 7 9 11 13 15 17 19 21 (Zt (Cd.ret (Post.block_ret (Post.then_ret ?_))))
  refine Post.end2 rfl rfl rfl (.inl rfl) ?_
  exact ⟨rfl, bel⟩
 refine Zsr ?_
 refine Zv (Runs.eqlL (b := [45]) rfl rfl rfl ht (by decide)) ?_
 refine Za ?_
 refine Zk14 0 2 3 4 5 7 9 11 13 15 17 19 21 23 (Zt ?_)
 refine Cd.condD rfl (fun c9 => ?_) (fun c9 => ?_)
 ·subst c9
  refine Zsr ?_
  refine Za ?_
  refine Za ?_
  refine Zk14 0 2 3 4 5 7 9 11 13 15 17 19 21 23 (Zt (Cd.ret (Post.block_ret (Post.then_ret ?_))))
  refine Post.end2 rfl rfl rfl (.inl rfl) ?_
  exact ⟨rfl, bel⟩
 refine Zsr ?_
 refine Zv (Runs.eqlL (b := [42]) rfl rfl rfl ht (by decide)) ?_
 refine Za ?_
 refine Zk15 0 2 3 4 5 7 9 11 13 15 17 19 21 23 25 (Zt ?_)
 refine Cd.condD rfl (fun c10 => ?_) (fun c10 => ?_)
 ·subst c10
  refine Zsr ?_
  refine Za ?_
  refine Za ?_
  refine Zk15 0 2 3 4 5 7 9 11 13 15 17 19 21 23 25 (Zt (Cd.ret (Post.block_ret (Post.then_ret ?_))))
  refine Post.end2 rfl rfl rfl (.inl rfl) ?_
  exact ⟨rfl, bel⟩
 refine Zsr ?_
 refine Zv (Runs.eqlL (b := [47]) rfl rfl rfl ht (by decide)) ?_
 refine Za ?_
 refine Zk16 0 2 3 4 5 7 9 11 13 15 17 19 21 23 25 27 (Zt ?_)
 refine Cd.condD rfl (fun c11 => ?_) (fun c11 => ?_)
 ·subst c11
  refine Zsr ?_
  refine Za ?_
  refine Za ?_
  refine Zk16 0 2 3 4 5 7 9 11 13 15 17 19 21 23 25 27 (Zt (Cd.ret (Post.block_ret (Post.then_ret ?_))))
  refine Post.end2 rfl rfl rfl (.inl rfl) ?_
  exact ⟨rfl, bel⟩
 refine Cd.skip (Post.block_normal (Ztq ?_))
 refine Za ?_
 refine Za ?_
 refine Zk16 0 2 3 4 5 7 9 11 13 15 17 19 21 23 25 27 (Zt (Cd.ret ?_))
 refine Post.end2 rfl rfl rfl (.inl rfl) ?_
 have hz : powZ t = (0, 0) := by unfold powZ powL; simp only [if_neg c0, if_neg c1, if_neg c2, if_neg c3, if_neg c4, if_neg c5, if_neg c6, if_neg c7, if_neg c8, if_neg c9, if_neg c10, if_neg c11]
 rw [hz]
 exact ⟨rfl, bel⟩
theorem singleB_any (K : Ctx) (hK : K.Ok) (p : Nat) (o : Int) (dp : Bool) (w : World) (h : SW K w p o dp true) : Calls Tryz.prog 75 #[.pointer (some ⟨K.g, 0, none⟩)] w fun e w' => Grow w w' ∧ e = .returned (.agg #[.int .i64 0, .int .i64 0, .string (strOf []), .slice none 0 0]) := by
 have bel := Below.refl w.heap.size w
 have k99 := h.blk
 have hlt := h.blk.lt
 have hle := hK.le
 refine Zs 170 Tryz.func75 ?_
 refine Zsr ?_
 refine Zl zero_api_Expr ?_
 intro g2 w1 n2
 have e2 := Nat.le_trans bel.size n2.ge
 have l2 := Nat.lt_of_lt_of_le k99.lt n2.ge
 replace bel := bel.step n2.below
 replace k99 := k99.step n2.below
 have k2 := n2.blk
 refine Zk2 0 2 (Zts (Zsr ?_))
 refine Zm ?_
 refine Zv (Runs.nilCheck rfl rfl) ?_
 refine Zf 4 Tryz.underlying69 ?_
 refine Zv (Runs.loadB rfl rfl Tryz.underlying4 rfl k99 rfl) ?_
 refine Zk3 0 2 9 (Zt ?_)
 refine Cd.condT rfl rfl ?_
 refine Zsr ?_
 refine Zv (Runs.build rfl rfl (run_build_E0 _)) ?_
 refine Zo 4 k2 ?_
 intro w2 pw2
 replace bel := bel.put k2 pw2 e2
 replace k99 := k99.put pw2 (by omega)
 replace k2 := pw2.blk
 refine Zk3 0 2 9 (Zt (Cd.ret (Post.then_ret ?_)))
 refine Post.endC rfl rfl k2 Tryz.underlying35 rfl (m := 4) (by kernel_rfl) rfl (.inl rfl) ?_
 exact ⟨bel, rfl⟩
theorem exprB_any (K : Ctx) (hK : K.Ok) (p : Nat) (o : Int) (dp : Bool) (least : Int) (w : World) (h : SW K w p o dp true) : Calls Tryz.prog 33 #[.pointer (some ⟨K.g, 0, none⟩), .int .i64 least] w fun e w' => Grow w w' ∧ e = .returned (.agg #[.int .i64 0, .int .i64 0, .string (strOf []), .slice none 0 0]) := by
 have bel := Below.refl w.heap.size w
 have k99 := h.blk
 have hlt := h.blk.lt
 have hle := hK.le
 have hs := fun W (hb : Below w.heap.size w W) => singleB_any K hK p o dp W (h.to hle (Fz.of hb) (h.blk.step hb) h.p_le h.o_le)
 refine Zs 56 Tryz.func33 ?_
 refine Zsr ?_
 refine Zl zero_api_Expr ?_
 intro g4 w1 n4
 have e4 := Nat.le_trans bel.size n4.ge
 have l4 := Nat.lt_of_lt_of_le k99.lt n4.ge
 replace bel := bel.step n4.below
 replace k99 := k99.step n4.below
 have k4 := n4.blk
 refine Zk3 0 1 4 (Ztq ?_)
 refine Zm ?_
 refine Zc (Ze Tryz.func75) (hs _ bel) ?_
 rintro e w9 ⟨hb9, rfl⟩
 refine ⟨_, rfl, ?_⟩
 replace bel := bel.step hb9
 replace k99 := k99.step hb9
 replace k4 := k4.step hb9
 refine Zl zero_api_Expr ?_
 intro g5 w2 n5
 have e5 := Nat.le_trans bel.size n5.ge
 have l5 := Nat.lt_of_lt_of_le k4.lt n5.ge
 have l5_k99 := Nat.lt_of_lt_of_le k99.lt n5.ge
 replace bel := bel.step n5.below
 replace k99 := k99.step n5.below
 replace k4 := k4.step n5.below
 have k5 := n5.blk
 refine Zo 4 k5 ?_
 intro w3 pw3
 replace bel := bel.put k5 pw3 e5
 replace k99 := k99.put pw3 (by omega)
 replace k4 := k4.put pw3 (by omega)
 replace k5 := pw3.blk
 refine Zk4 0 1 4 5 (Ztq ?_)
 refine Za ?_
 refine Zk5 0 1 4 5 6 (Zts (Cd.block ?_))
 refine Cd.loop (σ := Unit) (fun _ => [(0, .pointer (some ⟨K.g, 0, none⟩)), (4, .pointer (some ⟨g4, 0, none⟩)), (5, .pointer (some ⟨g5, 0, none⟩))]) (fun _ wr => Below w.heap.size w wr ∧ Blk wr K.g 69 #[.slice K.A K.ws.length K.c, .int .i64 (p : Int), .int .i64 o, .bool dp, .bool true] ∧ Blk wr g4 35 #[.int .i64 0, .int .i64 0, .string { data := #[] }, .slice none 0 0] ∧ Blk wr g5 35 #[.int .i64 0, .int .i64 0, .string (strOf []), .slice none 0 0]) (fun _ => 0) () ⟨bel, k99, k4, k5⟩ ⟨rfl, rfl, rfl, trivial⟩ ?_
 clear bel k99 k4 k5
 rintro ⟨⟩ wr ⟨bel, k99, k4, k5⟩
 refine Cd.seq (Zsr ?_)
 refine Zm ?_
 refine Zv (Runs.nilCheck rfl rfl) ?_
 refine Zf 4 Tryz.underlying69 ?_
 refine Zv (Runs.loadB rfl rfl Tryz.underlying4 rfl k99 rfl) ?_
 refine Zv (Runs.not rfl rfl) ?_
 refine Zk4 0 4 5 16 (Zt ?_)
 refine Cd.condF rfl rfl ?_
 refine Cd.exit (Post.then_exit (Post.round_exit (Post.block_exit (Ztq ?_))))
 refine Zv (Runs.loadW rfl rfl Tryz.underlying35 rfl k5 (m := 4) (by kernel_rfl) rfl) ?_
 refine Zo 4 k4 ?_
 intro w4 pw4
 replace bel := bel.put k4 pw4 e4
 replace k99 := k99.put pw4 (by omega)
 replace k5 := k5.put pw4 (by omega)
 replace k4 := pw4.blk
 refine Zk4 0 4 5 16 (Zt (Cd.ret ?_))
 refine Post.endC rfl rfl k4 Tryz.underlying35 rfl (m := 4) (by kernel_rfl) rfl (.inl rfl) ?_
 exact ⟨bel, rfl⟩
end Go.Proofs.YtaamkfajnpobfaaGreat

namespace Go.Proofs.YtaamkfajnpobfaaGreat
open Go.RowKit

def CR {α : Type} (K : Ctx) (h : Nat) (w : World) (pf : α → Nat → Int → Bool → Bool → Prop) (okv : α → Value → World → Prop) (e : Ending) (w' : World) : Prop :=
 Fz h K.g w w' ∧ ∃ v x p o dp bd, e = .returned v ∧ okv x v w' ∧ SW K w' p o dp bd ∧ pf x p o dp bd
def resQ {α : Type} (r : Rs α) (d : Nat) (x : α) (p : Nat) (o : Int) (dp bd : Bool) : Prop := match r with
 | .out => False
 | .bad q ov => p = q ∧ dp = ov ∧ bd = true ∧ (d : Int) ≤ o ∧ o ≤ d + 1
 | .ok a q => x = a ∧ p = q ∧ o = d ∧ dp = false ∧ bd = false
def sameQ {α : Type} (p : Nat) (o : Int) (dp : Bool) (_x : α) (p' : Nat) (o' : Int) (dp' bd' : Bool) : Prop := p' = p ∧ o' = o ∧ dp' = dp ∧ bd' = true
structure XC {α : Type} (Rep : World → (Nat → Prop) → α → Value → Prop) (K : Ctx) (w1 : World) (p : Nat) (o : Int) (dp bd : Bool) (pf : α → Nat → Int → Bool → Bool → Prop) (done made : Bool) (x : α) (S' : Nat → Prop) (v : Value) (g7 : Nat) (zt : TypeId) (w : World) : Prop where
 fz : Fz w1.heap.size K.g w1 w
 pre : done = false → SW K w p o dp bd
 post : done = true → (∃ p' o' dp' bd', SW K w p' o' dp' bd' ∧ pf x p' o' dp' bd') ∧ Rep w S' x v ∧ ∀ b, S' b → w1.heap.size ≤ b ∧ b < w.heap.size
 new : made = true → w1.heap.size ≤ g7 ∧ Blk w g7 zt v.cells ∧ ¬ S' g7
theorem notT {S : Nat → Bool} {k i : Nat} (h : S i = false) (hm : updC S k i = true) (hne : i ≠ k := by decide) : False := by
 unfold updC at hm
 rw [if_neg hne, h] at hm
 cases hm
theorem notDone {l : List Oper} {S : Nat → Bool} (hdc : DownC l S) {i k : Nat} {o : Oper} (ho : l[i]? = some o) (hS : S k = false) (hm : k ∈ direct o) : S i = false := by
 cases h : S i with
 | false => rfl
 | true => have := hdc i o ho h k hm; rw [hS] at this; cases this
theorem keep3 {S : Nat → Bool} {a b c u u' y y' z z' : Value} (h3 : S 3 = false) (h4 : S 4 = false) (h5 : S 5 = false) : ∀ j, S j = true → ([a, b, c, u, y, z] : List Value)[j]? = ([a, b, c, u', y', z'] : List Value)[j]?
 | 0, _ => rfl
 | 1, _ => rfl
 | 2, _ => rfl
 | 3, h => by rw [h3] at h; cases h
 | 4, h => by rw [h4] at h; cases h
 | 5, h => by rw [h5] at h; cases h
 | j + 6, _ => rfl
theorem keep4 {S : Nat → Bool} {a b c u y y' z z' : Value} (h4 : S 4 = false) (h5 : S 5 = false) : ∀ j, S j = true → ([a, b, c, u, y, z] : List Value)[j]? = ([a, b, c, u, y', z'] : List Value)[j]?
 | 0, _ => rfl
 | 1, _ => rfl
 | 2, _ => rfl
 | 3, _ => rfl
 | 4, h => by rw [h4] at h; cases h
 | 5, h => by rw [h5] at h; cases h
 | j + 6, _ => rfl
theorem keep5 {S : Nat → Bool} {a b c u y z z' : Value} (h5 : S 5 = false) : ∀ j, S j = true → ([a, b, c, u, y, z] : List Value)[j]? = ([a, b, c, u, y, z'] : List Value)[j]?
 | 0, _ => rfl
 | 1, _ => rfl
 | 2, _ => rfl
 | 3, _ => rfl
 | 4, _ => rfl
 | 5, h => by rw [h5] at h; cases h
 | j + 6, _ => rfl
section
variable {α : Type} {Rep : World → (Nat → Prop) → α → Value → Prop} {K : Ctx} {w1 w w6 : World} {p : Nat} {o : Int} {dp bd : Bool} {pf : α → Nat → Int → Bool → Bool → Prop} {S : Nat → Bool} {x x6 : α} {S' S6 : Nat → Prop} {v v6 : Value} {g7 : Nat} {zt : TypeId}
theorem XC.called {k : Nat} {done : Bool} (X : XC Rep K w1 p o dp bd pf done (S 4) x S' v g7 zt w) (h4 : S 4 = false) (hf : Fz w.heap.size K.g w w6) {p6 : Nat} {o6 : Int} {dp6 bd6 : Bool} (hsw : SW K w6 p6 o6 dp6 bd6) (hpf : pf x6 p6 o6 dp6 bd6) (hr : Rep w6 S6 x6 v6) (hb : ∀ b, S6 b → w.heap.size ≤ b ∧ b < w6.heap.size) (hk : 3 = k := by rfl) :
  XC Rep K w1 p o dp bd pf (updC S k 3) (updC S k 4) x6 S6 v6 g7 zt w6 := by
 subst hk
 have hsz := X.fz.size
 exact ⟨X.fz.call hf, (fun h => by cases h), fun _ => ⟨⟨p6, o6, dp6, bd6, hsw, hpf⟩, hr, fun b h => ⟨by have := (hb b h).1; omega, (hb b h).2⟩⟩, fun hm => (notT h4 hm).elim⟩
end
section
variable {K : Ctx} {w1 w w6 : World} {p : Nat} {o : Int} {dp bd : Bool} {S : Nat → Bool} {S' : Nat → Prop} {v : Value} {g7 g8 : Nat} {zt : TypeId} {n : Nat}
theorem XC.slicedE {pf : Ex → Nat → Int → Bool → Bool → Prop} {x : Ex} {made : Bool} (X : XC RepE K w1 p o dp bd pf (S 3) made x S' v g7 zt w) (hd : S 3 = true) (n8 : New w w6 g8 zt (flatC [v]).toArray) :
  XC RepE K w1 p o dp bd pf (updC S 4 3) (updC S 4 4) x S' v g8 zt w6 := by
 have hsz := X.fz.size
 have hcells : (flatC [v]).toArray = v.cells := by simp [flatC]
 have n7b := n8.blk
 rw [hcells] at n7b
 obtain ⟨⟨p', o', dp', bd', h1, h2⟩, h3, h4⟩ := X.post hd
 refine ⟨X.fz.step n8.below, fun h => ?_, fun _ => ⟨⟨p', o', dp', bd', h1.step n8.below, h2⟩, h3.mono (fun _ h => h) (fun a ha => n8.below.cell (h4 _ ha).2), fun b hb => ⟨(h4 b hb).1, Nat.lt_of_lt_of_le (h4 b hb).2 n8.below.size⟩⟩, fun _ => ⟨Nat.le_trans hsz n8.ge, n7b, fun hb => Nat.lt_irrefl _ (Nat.lt_of_lt_of_le (h4 _ hb).2 n8.ge)⟩⟩
 have h : S 3 = false := h
 rw [hd] at h
 cases h
end
theorem Blk.fzl {k h g : Nat} {T : TypeId} {cs : Array Value} {w w' : World} (b : Blk w k T cs) (a : Fz h g w w') (hk : k < h) (hne : k ≠ g) : Blk w' k T cs := by
 have h1 := a.block k hk hne
 unfold Blk at b ⊢
 rw [h1]
 exact b
structure ArgI (K : Ctx) (R : Rs Ex) (E0 : Nat → Nat → Rs Ex) (d k p0 : Nat) (op : Int) (w : World) (g6 g7 : Nat) (i q : Nat) (o : Int) (dp bd : Bool) (es : List Ex) (evs : List Value) (A : Option Addr) (c : Nat) (S : Nat → Prop) (wr : World) : Prop where
 i_le : i ≤ k
 len : es.length = i
 sw : SW K wr q o dp bd
 bel : Fz w.heap.size K.g w wr
 k6 : Blk wr g6 35 #[.int .i64 0, .int .i64 0, .string { data := #[] }, .slice none 0 0]
 k7 : Blk wr g7 35 #[.int .i64 op, .int .i64 0, .string (strOf []), .slice A es.length c]
 aq : ArgQ wr g7 g7 es [] evs [] (.slice A es.length c) (.slice none 0 0) S
 good : bd = false → o = d + 1 ∧ dp = false ∧ p0 < q ∧ d + 1 ≤ 64 ∧ R = (partsP K.ws (List.replicate (k - i) E0) (decide (i = 0)) q (d + 1)).bind fun xs q => (signQ K.ws [41] q).bind fun _ q => .ok (.mk op 0 [] (es ++ xs)) q
 bad : bd = true → R = .bad q dp ∧ (d : Int) + 1 ≤ o ∧ o ≤ d + 2
theorem takeQ_sign {ws : List Wd} {s : List Nat} {q : Nat} : (takeQ ws s q false = (q + 1, false) ∧ signQ ws s q = .ok () (q + 1)) ∨ (takeQ ws s q false = (q, true) ∧ signQ ws s q = .bad q false) := by
 unfold takeQ signQ
 by_cases h : isS ws q s = true
 ·rw [if_pos ⟨rfl, h⟩, if_pos h]; exact .inl ⟨rfl, rfl⟩
 ·rw [if_neg (fun h2 => h h2.2), if_neg h]; exact .inr ⟨rfl, rfl⟩
theorem takeQ_bad {ws : List Wd} {s : List Nat} {q : Nat} : takeQ ws s q true = (q, true) := by
 unfold takeQ
 rw [if_neg (fun h => by cases h.1)]
theorem args_any (K : Ctx) (hK : K.Ok) (op : Int) (k p d : Nat) (E0 : Nat → Nat → Rs Ex) (hM : Mono E0) (w : World) (sw0 : SW K w p d false false) (hp1 : p + 1 ≤ K.ws.length) (hd : d ≤ 64) (hk3 : k ≤ 3) (hop : I64 op)
  (hE : ∀ (q d : Nat) W, p < q → d ≤ 64 → SW K W q d false false → Calls Tryz.prog 33 #[.pointer (some ⟨K.g, 0, none⟩), .int .i64 1] W (CR K W.heap.size W (resQ (E0 q d) d) (okE W))) :
  Calls Tryz.prog 122 #[.pointer (some ⟨K.g, 0, none⟩), .int .i64 op, .int .i64 (k : Int)] w (CR K w.heap.size w (resQ (calledP K.ws E0 op k p d) d) (okE w)) := by
 have bel := Fz.refl w.heap.size K.g w
 have k99 := sw0.blk
 have e99 : K.g = K.g := rfl
 have hlt := sw0.blk.lt
 have hle := hK.le
 have hlen := hK.len
 obtain ⟨R, hR⟩ : ∃ R, R = calledP K.ws E0 op k p d := ⟨_, rfl⟩
 rw [← hR]
 have hR1 : R = (signQ K.ws [40] (p + 1)).bind fun _ q => (enterP q d).bind fun _ q => (partsP K.ws (List.replicate k E0) true q (d + 1)).bind fun xs q => (signQ K.ws [41] q).bind fun _ q => .ok (.mk op 0 [] xs) q := by
  rw [hR]
  unfold calledP withinP
  simp only [Rs.bind_assoc]
  rfl
 clear hR
 refine Zs 55 Tryz.func122 ?_
 refine Zsr ?_
 refine Zl zero_api_Expr ?_
 intro g6 w1 n6
 have e6 := Nat.le_trans bel.size n6.ge
 have l6 := Nat.lt_of_lt_of_le k99.lt n6.ge
 replace bel := bel.step n6.below
 replace k99 := k99.step n6.below
 have k6 := n6.blk
 refine Zk4 0 1 2 6 (Ztq ?_)
 refine Zm ?_
 refine Zv (Runs.nilCheck rfl rfl) ?_
 refine Zf 1 Tryz.underlying69 ?_
 refine Zv (Runs.loadB rfl rfl Tryz.underlying3 rfl k99 rfl) ?_
 refine Za_ ?_
 refine Zv (Runs.nilCheck rfl rfl) ?_
 refine Zf 1 Tryz.underlying69 ?_
 refine Zq k99 ?_
 intro w2 pw2
 replace bel := bel.put k99 pw2 e99
 replace k6 := k6.put pw2 (by omega)
 replace k99 := pw2.blk
 refine Zk4 0 1 2 6 (Ztq ?_)
 refine Zm ?_
 have hta := take_any K hK (p + 1) d false false [40] _ (sw0.to hle bel (by rw [Int.natCast_add]; exact k99) hp1 (by omega)) (by decide) (by decide)
 have hk6 := k6.lt
 refine Zc (Ze Tryz.func67) hta ?_
 rintro e w5 ⟨⟨v5, rfl⟩, hf5, sw5⟩
 refine ⟨_, rfl, ?_⟩
 replace bel := bel.call hf5
 replace k6 := k6.fz hf5 (by omega)
 have hs5 := hf5.size
 clear k99
 refine Zk4 0 1 2 6 (Ztq ?_)
 refine Zm ?_
 have hen := enterS_any K hK _ _ _ _ _ sw5 (by omega)
 refine Zc (Ze Tryz.func68) hen ?_
 rintro e we ⟨⟨ve, rfl⟩, hfe, swe⟩
 refine ⟨_, rfl, ?_⟩
 replace bel := bel.call hfe
 replace k6 := k6.fz hfe (by omega)
 have hse := hfe.size
 have hst : ∃ (q : Nat) (dp bd : Bool), SW K we q (d + 1) dp bd ∧ (bd = false → dp = false ∧ p < q ∧ d + 1 ≤ 64 ∧ R = (partsP K.ws (List.replicate k E0) true q (d + 1)).bind fun xs q => (signQ K.ws [41] q).bind fun _ q => .ok (.mk op 0 [] xs) q) ∧ (bd = true → R = .bad q dp) := by
  rcases takeQ_sign (ws := K.ws) (s := [40]) (q := p + 1) with ⟨h1, h2⟩ | ⟨h1, h2⟩
  ·rw [h1] at swe
   dsimp only at swe
   rw [h2, Rs.bind_ok] at hR1
   by_cases h64 : 64 < (d : Int) + 1
   ·rw [if_pos ⟨h64, rfl⟩] at swe
    refine ⟨_, _, _, swe, fun h => (by cases h), fun _ => ?_⟩
    rw [hR1]
    unfold enterP
    rw [if_pos (by omega)]
    rfl
   ·rw [if_neg (fun h => h64 h.1)] at swe
    refine ⟨_, _, _, swe, fun _ => ⟨rfl, by omega, by omega, ?_⟩, fun h => by cases h⟩
    rw [hR1]
    unfold enterP
    rw [if_neg (by omega), Rs.bind_ok]
  ·rw [h1] at swe
   dsimp only at swe
   rw [h2, Rs.bind_bad] at hR1
   rw [if_neg (fun h => by cases h.2), if_neg (fun h => by cases h.2)] at swe
   exact ⟨_, _, _, swe, fun h => (by cases h), fun _ => hR1⟩
 clear swe hR1 sw5 sw0
 obtain ⟨q0, dp0, bd0, sw, hgood, hbad⟩ := hst
 have k6lt := k6.lt
 refine Zk4 0 1 2 6 (Ztq ?_)
 refine Zm ?_
 refine Zv (Runs.build rfl rfl (run_build_Eop op _)) ?_
 refine Zl zero_api_Expr ?_
 intro g7 w3 n7
 have e7 := Nat.le_trans bel.size n7.ge
 have l7 := Nat.lt_of_lt_of_le k6.lt n7.ge
 replace bel := bel.step n7.below
 replace k6 := k6.step n7.below
 replace sw := sw.step n7.below
 have k7 := n7.blk
 refine Zo 4 k7 ?_
 intro w4 pw4
 replace bel := bel.put k7 pw4 e7
 replace k6 := k6.put pw4 (by omega)
 replace sw := sw.put k7 pw4 e7
 replace k7 := pw4.blk
 refine Zk5 0 1 2 6 7 (Zts (Zsr ?_))
 refine Za ?_
 refine Zk6 0 1 2 6 7 8 (Zt (Cd.block ?_))
 refine Cd.loop (σ := Nat × Nat × Int × Bool × Bool × List Ex × List Value × (Option Addr × Nat) × (Nat → Prop)) (fun s => [(0, .pointer (some ⟨K.g, 0, none⟩)), (2, .int .i64 (k : Int)), (6, .pointer (some ⟨g6, 0, none⟩)), (7, .pointer (some ⟨g7, 0, none⟩)), (8, .int .i64 (s.1 : Int))])
  (fun s wr => ArgI K R E0 d k p op w g6 g7 s.1 s.2.1 s.2.2.1 s.2.2.2.1 s.2.2.2.2.1 s.2.2.2.2.2.1 s.2.2.2.2.2.2.1 s.2.2.2.2.2.2.2.1.1 s.2.2.2.2.2.2.2.1.2 s.2.2.2.2.2.2.2.2 wr) (fun s => k - s.1) (0, q0, d + 1, dp0, bd0, [], [], (none, 0), fun _ => False)
  ⟨Nat.zero_le _, rfl, sw, bel, k6, k7, ArgQ.nil _ _ _, fun h => ⟨rfl, (hgood h).1, (hgood h).2.1, (hgood h).2.2.1, (hgood h).2.2.2⟩, fun h => ⟨hbad h, Int.le_refl _, by dsimp only; omega⟩⟩ ⟨rfl, rfl, rfl, rfl, rfl, trivial⟩ ?_
 clear sw bel k6 k7 hgood hbad
 rintro ⟨i, q, o, dp, bd, es, evs, ⟨A, c⟩, S⟩ wr ⟨hi, hes, sw, bel, k6, k7, aq, hgood, hbad⟩
 dsimp only at hi hes sw k7 aq hgood hbad ⊢
 have k99 := sw.blk
 have h67 : g6 < g7 := by omega
 have hg7 : w.heap.size ≤ g7 := by omega
 have hgt : K.g < g7 := by omega
 have k7l := k7.lt
 refine Cd.seq (Zsr ?_)
 refine Zm ?_
 refine Zm ?_
 refine Zv (Runs.lss rfl rfl rfl) ?_
 refine Zm ?_
 refine SeqC.start ?_
 refine Zco (fun hcx => Runs.move rfl rfl) ?_
 refine SeqC.next rfl rfl rfl rfl rfl rfl rfl (fun hcx => Runs.nilCheck rfl rfl) ?_
 refine SeqC.next rfl rfl rfl rfl rfl rfl rfl (fun hcx => Runs.fieldB 4 rfl rfl Tryz.underlying69 rfl (by kernel_rfl)) ?_
 refine SeqC.next rfl rfl rfl rfl rfl rfl rfl (fun hcx => Runs.loadB rfl rfl Tryz.underlying4 rfl k99 rfl) ?_
 refine SeqC.next rfl rfl rfl rfl rfl rfl rfl (fun hcx => Runs.not rfl rfl) ?_
 refine SeqC.and rfl rfl rfl rfl rfl rfl rfl ?_
 refine Zk6 0 2 6 7 8 31 (Zt ?_)
 refine Cd.cond rfl (fun hc => ?_) (fun hc => ?_)
 ·obtain ⟨hik, rfl⟩ : i < k ∧ bd = false := by simpa using hc
  obtain ⟨rfl, rfl, hpq, hd1, hRg⟩ := hgood rfl
  obtain ⟨m, hm⟩ : ∃ m, k - i = m + 1 := ⟨k - i - 1, by omega⟩
  have hm2 : k - (i + 1) = m := by omega
  rw [hm, List.replicate_succ, partsP_cons] at hRg
  refine Cd.skip (Zts (Cd.block ?_))
  refine Cd.seqJ (σ := Nat × Bool) (fun _ => [(0, .pointer (some ⟨K.g, 0, none⟩)), (2, .int .i64 (k : Int)), (6, .pointer (some ⟨g6, 0, none⟩)), (7, .pointer (some ⟨g7, 0, none⟩)), (8, .int .i64 (i : Int))]) (fun s wj => SW K wj s.1 ((d : Int) + 1) false s.2 ∧ Fz w.heap.size K.g w wj ∧ Blk wj g6 35 #[.int .i64 0, .int .i64 0, .string { data := #[] }, .slice none 0 0] ∧ Blk wj g7 35 #[.int .i64 op, .int .i64 0, .string (strOf []), .slice A es.length c] ∧ ArgQ wj g7 g7 es [] evs [] (.slice A es.length c) (.slice none 0 0) S ∧ (s.2 = false → p < s.1 ∧ R = (E0 s.1 (d + 1)).bind fun x q => (partsP K.ws (List.replicate m E0) false q (d + 1)).bind fun xs q => (signQ K.ws [41] q).bind fun _ q => .ok (.mk op 0 [] (es ++ x :: xs)) q) ∧ (s.2 = true → R = .bad s.1 false)) ?_ ?_
  ·skip
   refine Zsr ?_
   refine Zm ?_
   refine Zv (Runs.gtr rfl rfl rfl) ?_
   refine Zk7 0 2 6 7 8 31 35 (Zt ?_)
   refine Cd.condD rfl (fun hc => ?_) (fun hc => ?_)
   ·have hta := take_any K hK q ((d : Int) + 1) false false [44] _ sw (by decide) (by decide)
    rw [decide_eq_false (show ¬ i = 0 by omega), if_neg (by decide)] at hRg
    refine Zr ?_
    refine Zm ?_
    refine Zc (Ze Tryz.func67) hta ?_
    rintro e w5 ⟨⟨v5, rfl⟩, hf5, sw5⟩
    refine ⟨_, rfl, ?_⟩
    clear hta
    refine Zk7 0 2 6 7 8 31 35 ?_
    refine Post.join (takeQ K.ws [44] q false) ⟨rfl, rfl, rfl, rfl, rfl, trivial⟩ ⟨sw5, bel.call hf5, k6.fz hf5 (by omega), k7.fz hf5 (by omega), aq.fz hf5 hgt, fun h => ?_, fun h => ?_⟩
    ·rcases takeQ_sign (ws := K.ws) (s := [44]) (q := q) with ⟨h1, h2⟩ | ⟨h1, h2⟩
     ·rw [h1]
      rw [h2] at hRg
      refine ⟨by show p < q + 1; omega, ?_⟩
      rw [hRg]
      simp only [Rs.bind_assoc, Rs.bind_ok]
     ·rw [h1] at h; cases h
    ·rcases takeQ_sign (ws := K.ws) (s := [44]) (q := q) with ⟨h1, h2⟩ | ⟨h1, h2⟩
     ·rw [h1] at h; cases h
     ·rw [h1]
      rw [h2] at hRg
      exact hRg
   ·obtain rfl : i = 0 := by omega
    rw [decide_eq_true rfl, if_pos rfl] at hRg
    refine Cd.skip ?_
    refine Post.join (q, false) ⟨rfl, rfl, rfl, rfl, rfl, trivial⟩ ⟨sw, bel, k6, k7, aq, fun _ => ⟨hpq, ?_⟩, fun h => by cases h⟩
    rw [hRg]
    simp only [Rs.bind_assoc, Rs.bind_ok]
  clear sw bel k6 k7 k99 aq hgood hbad hRg hc
  rintro ⟨q1, b1⟩ wj ⟨sw, bel, k6, k7, aq, hgood, hbad⟩
  dsimp only at sw hgood hbad
  have hcl : ∀ W, SW K W q1 ((d : Int) + 1) false b1 → Fz wj.heap.size K.g wj W → Calls Tryz.prog 33 #[.pointer (some ⟨K.g, 0, none⟩), .int .i64 1] W (CR K W.heap.size W (fun x p o dp bd => (b1 = false → resQ (E0 q1 (d + 1)) (d + 1) x p o dp bd) ∧ (b1 = true → sameQ q1 ((d : Int) + 1) false x p o dp bd)) (okE W)) := fun W h1 _ => by
   cases b1 with
   | false =>
    refine (hE q1 (d + 1) W (hgood rfl).1 hd1 (by rw [Int.natCast_add]; exact h1)).mono fun e W' h => ?_
    obtain ⟨hf, v, x, p', o', dp', bd', rfl, h2, h3, h4⟩ := h
    exact ⟨hf, v, x, p', o', dp', bd', rfl, h2, h3, fun _ => h4, fun h => by cases h⟩
   | true =>
    refine (exprB_any K hK q1 _ false 1 W h1).mono fun e W' h => ?_
    obtain ⟨hb, rfl⟩ := h
    exact ⟨Fz.of hb, _, zeroEx, q1, _, false, true, rfl, ⟨fun _ => False, RepE.zero _ _, fun b hb => hb.elim⟩, h1.step hb, fun h => (by cases h), fun _ => ⟨rfl, rfl, rfl, rfl⟩⟩
  have hlt7 := k7.lt
  have hsb := bel.size
  refine Cd.drawG (σT := Ex × Value × (Nat → Prop) × Nat × Value) 6 (by kernel_rfl) rfl rfl (fun σ => [.pointer (some ⟨g7, 3, none⟩), .slice A es.length c, .pointer (some ⟨K.g, 0, none⟩), σ.2.1, .slice (some ⟨σ.2.2.2.1, 0, none⟩) 1 1, σ.2.2.2.2]) (fun σ S W => (S 5 = false → XC RepE K wj q1 ((d : Int) + 1) false b1 (fun x p o dp bd => (b1 = false → resQ (E0 q1 (d + 1)) (d + 1) x p o dp bd) ∧ (b1 = true → sameQ q1 ((d : Int) + 1) false x p o dp bd)) (S 3) (S 4) σ.1 σ.2.2.1 σ.2.1 σ.2.2.2.1 35 W) ∧ (S 5 = true → (∃ p9 o9 dp9 bd9, SW K W p9 o9 dp9 bd9 ∧ (fun x p o dp bd => (b1 = false → resQ (E0 q1 (d + 1)) (d + 1) x p o dp bd) ∧ (b1 = true → sameQ q1 ((d : Int) + 1) false x p o dp bd)) σ.1 p9 o9 dp9 bd9) ∧ Fz g7 K.g wj W ∧ Blk W g7 35 #[.int .i64 op, .int .i64 0, .string (strOf []), .slice A es.length c] ∧ ∃ S', ArgQ W g7 g7 (es ++ [σ.1]) [] (evs ++ [σ.2.1]) [] (σ.2.2.2.2) (.slice none 0 0) S')) ((zeroEx, undef, fun _ => False, 0, undef)) ?_ ?_ ?_
  ·intro w0 hb0 hs0
   exact ⟨fun _ => ⟨Fz.of hb0, fun _ => sw.step hb0, fun h => (by cases h), fun h => (by cases h)⟩, fun h => (by cases h)⟩
  ·intro k o ho
   match k, ho with
   | 0, ho =>
    injection ho with ho
    subst ho
    intro σ S w hS hpre hdc hX
    refine Seq.val (Runs.fieldB 3 rfl rfl Tryz.underlying35 rfl (by kernel_rfl)) rfl rfl rfl (Seq.nil ?_)
    exact Post.afterG rfl rfl rfl hpre rfl (fun _ _ => rfl) hX
   | 1, ho =>
    injection ho with ho
    subst ho
    intro σ S w hS hpre hdc hX
    have h5 := notDone hdc (i := 5) rfl hS (memB_spec rfl)
    refine Seq.val (Runs.loadB (g := g7) (i := 3) rfl rfl Tryz.underlying22 rfl (k7.fz (hX.1 h5).fz (by omega)) rfl) rfl rfl rfl (Seq.nil ?_)
    exact Post.afterG rfl rfl rfl hpre rfl (fun _ _ => rfl) hX
   | 2, ho =>
    injection ho with ho
    subst ho
    intro σ S w hS hpre hdc hX
    refine Seq.val (Runs.move rfl rfl) rfl rfl rfl (Seq.nil ?_)
    exact Post.afterG rfl rfl rfl hpre rfl (fun _ _ => rfl) hX
   | 3, ho =>
    injection ho with ho
    subst ho
    intro σ S w hS hpre hdc hX
    have h5 := notDone hdc (i := 5) rfl hS (memB_spec rfl)
    have h4 := notDone hdc (i := 4) rfl hS (memB_spec rfl)
    have hXa := hX.1 h5
    refine Zc (Ze Tryz.func33) ((fun W h1 h2 => hcl W h1 h2) w (hXa.pre hS) hXa.fz) ?_
    rintro e w6 ⟨hf, v6, x6, p6, o6, dp6, bd6, rfl, ⟨S6, hr6, hb6⟩, hsw6, hpf6⟩
    refine ⟨_, rfl, Seq.nil ?_⟩
    exact Post.afterG (σ := σ) (σ' := (x6, v6, S6, σ.2.2.2.1, σ.2.2.2.2)) rfl rfl rfl hpre rfl (fun j hj => keep3 hS h4 h5 j hj) ⟨fun _ => hXa.called h4 hf hsw6 hpf6 hr6 hb6, fun hm => (notT h5 hm).elim⟩
   | 4, ho =>
    injection ho with ho
    subst ho
    intro σ S w hS hpre hdc hX
    have h5 := notDone hdc (i := 5) rfl hS (memB_spec rfl)
    have hXa := hX.1 h5
    have hd := hpre 3 (memB_spec rfl)
    have hones := (hXa.post hd).2.1.ones
    refine Seq.slice (vs := [σ.2.1]) (s := 4) rfl rfl rfl Tryz.underlying22 (by kernel_rfl) zero_api_Expr (by omega) (by omega) ⟨hones.1, trivial⟩ rfl rfl rfl ?_
    intro g7 w' n7
    refine Seq.nil ?_
    exact Post.afterG (σ := σ) (σ' := (σ.1, σ.2.1, σ.2.2.1, g7, σ.2.2.2.2)) rfl rfl rfl hpre rfl (fun j hj => keep4 hS h5 j hj) ⟨fun _ => hXa.slicedE hd n7, fun hm => (notT h5 hm).elim⟩
   | 5, ho =>
    injection ho with ho
    subst ho
    intro σ S w hS hpre hdc hX
    have hXa := hX.1 hS
    have hd := hpre 3 (memB_spec rfl)
    obtain ⟨⟨p3, o3, dp3, bd3, sw3, hpf3⟩, hrep, haway⟩ := hXa.post hd
    obtain ⟨ez, kz, hnz⟩ := hXa.new (hpre 4 (memB_spec rfl))
    have hones := hrep.ones
    have hsz := hXa.fz.size
    have aq3 := aq.fz hXa.fz hgt
    have hown := aq3.ownE
    have k90 := k7.fz hXa.fz (by omega)
    have hlt90 := k7.lt
    refine Seq.append2 rfl rfl rfl Tryz.underlying22 (by kernel_rfl) zero_api_Expr rfl (by decide) (b := 56) (by kernel_rfl) hown (Reads.blk (size := 4) kz 1 hones.1) hones.2 (by omega) (by first | (simp only [maxLen]; omega) | (simp only [maxLen, List.length_nil, List.length_cons]; omega) | simp [maxLen]) (by first | omega | (simp only [List.length_nil, List.length_cons]; omega) | simp) rfl rfl rfl ?_
    intro v' w4 hown' happ hv'
    refine Seq.nil ?_
    have hs4 := happ.below.size
    have aq6 := aq3.addE hrep (fun b hb => ⟨by have := (haway b hb).1; omega, (haway b hb).2, by have := (haway b hb).1; omega, fun e => by have := (aq.ownE.blockLt b e).2; have := (haway b hb).1; omega, fun e => by have := (aq.ownT.blockLt b e).2; have := (haway b hb).1; omega⟩) hown' hs4
     (fun b _ h2 h3 h4 => happ.grown.block b h2 (fun e => h4 e.symm)) (hv'.elim .inl fun e => .inr ⟨_, e, Nat.le_refl _⟩) (by omega)
    exact Post.afterG (σ := σ) (σ' := (σ.1, σ.2.1, σ.2.2.1, σ.2.2.2.1, v')) rfl rfl rfl hpre rfl (fun j hj => keep5 hS j hj) ⟨(fun h => by cases h), fun _ => ⟨⟨p3, o3, dp3, bd3, ⟨sw3.blk.grown happ.grown (fun e => by have := (hown.blockLt _ e.symm).1; omega), sw3.rd.below (happ.below.mono (by omega)), sw3.p_le, sw3.o_le, sw3.le⟩, hpf3⟩, (hXa.fz.less (by omega)).trans (Fz.of happ.below), k90.grown happ.grown (fun e => aq3.neE e.symm), _, aq6⟩⟩
   | k + 6, ho => simp at ho
  rintro ⟨x, v6, S6, g9, vX⟩ S3 w3 hS hX
  obtain ⟨⟨p3, o3, dp3, bd3, sw3, hpf1, hpf2⟩, fz3, k73, S7, aq3⟩ := hX.2 (hS 5 (by decide))
  clear hX
  dsimp only at hpf1 hpf2 aq3
  have hs3 := fz3.size
  have bel3 : Fz w.heap.size K.g w w3 := bel.trans (fz3.less (by omega))
  have k63 := k6.fzl fz3 h67 (by omega)
  obtain ⟨AX, cX, hvX, -⟩ := aq3.ownE.reads
  subst hvX
  clear bel k6 k7 aq sw
  have bel := bel3
  have k6 := k63
  have k7 := k73
  have aq := aq3
  have sw := sw3
  have e7 : w.heap.size ≤ g7 := hg7
  refine Zf 3 Tryz.underlying35 ?_
  refine Zq k7 ?_
  intro w5 pw5
  replace bel := bel.put k7 pw5 e7
  replace k6 := k6.put pw5 (by omega)
  replace aq := aq.put k7 pw5 e7
  replace sw := sw.put k7 pw5 e7
  replace k7 := pw5.blk
  refine Zk5 0 2 6 7 8 (Post.block_normal (Ztr ?_))
  refine Zm ?_
  refine Za_ ?_
  refine Za ?_
  refine Zk5 0 2 6 7 8 ?_
  refine Post.round (i + 1, p3, o3, dp3, bd3, es ++ [x], evs ++ [v6], (AX, cX), _) ⟨rfl, rfl, rfl, rfl, rfl, trivial⟩ ⟨by dsimp only; omega, by dsimp only; rw [List.length_append, hes]; rfl, sw, bel, k6, k7, aq, fun hb => ?_, fun hb => ?_⟩ (by dsimp only; omega)
  ·dsimp only at hb ⊢
   subst hb
   cases b1 with
   | true => cases (hpf2 rfl).2.2.2
   | false =>
    obtain ⟨hq1, hR⟩ := hgood rfl
    have hres := hpf1 rfl
    unfold resQ at hres
    cases hr : E0 q1 (d + 1) with
    | out => rw [hr] at hres; exact hres.elim
    | bad a b => rw [hr] at hres; cases hres.2.2.1
    | ok a b =>
     rw [hr] at hres hR
     obtain ⟨rfl, rfl, rfl, rfl, -⟩ := hres
     have hmono := hM _ _ _ _ hr
     refine ⟨by omega, rfl, by omega, hd1, ?_⟩
     rw [hR, Rs.bind_ok, hm2, decide_eq_false (show ¬ i + 1 = 0 by omega)]
     simp only [List.append_assoc, List.cons_append, List.nil_append]
  ·dsimp only at hb ⊢
   subst hb
   cases b1 with
   | true =>
    obtain ⟨rfl, rfl, rfl, -⟩ := hpf2 rfl
    exact ⟨hbad rfl, by omega, by omega⟩
   | false =>
    obtain ⟨hq1, hR⟩ := hgood rfl
    have hres := hpf1 rfl
    unfold resQ at hres
    cases hr : E0 q1 (d + 1) with
    | out => rw [hr] at hres; exact hres.elim
    | ok a b => rw [hr] at hres; cases hres.2.2.2.2
    | bad a b =>
     rw [hr] at hres hR
     obtain ⟨rfl, rfl, -, h1, h2⟩ := hres
     exact ⟨hR, by omega, by omega⟩
 ·have hta := take_any K hK q o dp bd [41] _ sw (by decide) (by decide)
  have hend : (bd = false ∧ i = k) ∨ bd = true := by
   cases bd with
   | true => exact .inr rfl
   | false => refine .inl ⟨rfl, ?_⟩; simp at hc; omega
  have hst : ∃ (q' : Nat) (bd' : Bool), takeQ K.ws [41] q bd = (q', bd') ∧ 1 ≤ o ∧ o ≤ 66 ∧ resQ R d (.mk op 0 [] es) q' (o - 1) dp bd' := by
   rcases hend with ⟨rfl, rfl⟩ | rfl
   ·obtain ⟨rfl, rfl, hpq, hd1, hRg⟩ := hgood rfl
    rw [Nat.sub_self, List.replicate_zero, partsP, Rs.bind_ok, List.append_nil] at hRg
    rcases takeQ_sign (ws := K.ws) (s := [41]) (q := q) with ⟨h1, h2⟩ | ⟨h1, h2⟩
    ·rw [h2, Rs.bind_ok] at hRg
     rw [hRg]
     exact ⟨_, _, h1, by omega, by omega, rfl, rfl, by omega, rfl, rfl⟩
    ·rw [h2, Rs.bind_bad] at hRg
     rw [hRg]
     exact ⟨_, _, h1, by omega, by omega, rfl, rfl, rfl, by omega, by omega⟩
   ·obtain ⟨hRb, h1, h2⟩ := hbad rfl
    rw [hRb]
    exact ⟨_, _, takeQ_bad, by omega, by omega, rfl, rfl, rfl, by omega, by omega⟩
  obtain ⟨q', bd', htq, ho1, ho2, hres⟩ := hst
  rw [htq] at hta
  refine Cd.exit (Post.then_exit (Post.round_exit (Post.block_exit (Ztq ?_))))
  refine Zm ?_
  refine Zc (Ze Tryz.func67) hta ?_
  rintro e w5 ⟨⟨v5, rfl⟩, hf5, sw5⟩
  refine ⟨_, rfl, ?_⟩
  have bel5 := bel.call hf5
  have k65 := k6.fz hf5 (by omega)
  have k75 := k7.fz hf5 (by omega)
  have aq5 := aq.fz hf5 hgt
  clear hta bel k6 k7 k99 aq sw
  have bel := bel5
  have k6 := k65
  have k7 := k75
  have k99 := sw5.blk
  have e6 : w.heap.size ≤ g6 := by omega
  have hs5 := hf5.size
  have loc := Fz.refl w5.heap.size K.g w5
  dsimp only at k99
  refine Zk6 0 2 6 7 8 31 (Ztq ?_)
  refine Zm ?_
  refine Zv (Runs.nilCheck rfl rfl) ?_
  refine Zf 2 Tryz.underlying69 ?_
  refine Zv (Runs.loadB rfl rfl Tryz.underlying3 rfl k99 rfl) ?_
  refine Zv (Runs.subI rfl rfl rfl (by omega) (by omega)) ?_
  refine Zv (Runs.nilCheck rfl rfl) ?_
  refine Zf 2 Tryz.underlying69 ?_
  refine Zq k99 ?_
  intro w5 pw5
  replace bel := bel.put k99 pw5 e99
  replace k7 := k7.put pw5 (by omega)
  replace k6 := k6.put pw5 (by omega)
  replace loc := loc.put k99 pw5 e99
  replace k99 := pw5.blk
  refine Zk6 0 2 6 7 8 31 (Ztq ?_)
  have sw6 := sw5.to hle loc k99 sw5.p_le (by omega)
  have aq6 := aq5.fz loc hgt
  clear sw5 aq5
  have k6b := k6
  refine Zv (Runs.loadW rfl rfl Tryz.underlying35 rfl k7 (m := 4) (by kernel_rfl) rfl) ?_
  refine Zo 4 k6 ?_
  intro w6 pw6
  replace bel := bel.put k6 pw6 e6
  replace k7 := k7.put pw6 (by omega)
  replace k99 := k99.put pw6 (by omega)
  replace k6 := pw6.blk
  refine Zk6 0 2 6 7 8 31 (Zt (Cd.ret ?_))
  refine Post.endC rfl rfl k6 Tryz.underlying35 rfl (m := 4) (by kernel_rfl) rfl (.inl rfl) ?_
  have hrep := aq6.ex op 0 [] hop (by unfold I64; omega) (by simp) (by simp) (by omega)
  have hbn := aq6.bounds
  have hsz := pw6.size
  exact ⟨bel, _, _, _, _, _, _, rfl, ⟨_, hrep.mono (fun _ h => h) (fun a ha => World.cell?_of_block (pw6.grown.block _ (hbn _ ha).2.1 (fun e => by injection e with e; have := (hbn _ ha).1; omega))), fun b hb => by have := hbn b hb; omega⟩, sw6.put k6b pw6 trivial, hres⟩
end Go.Proofs.YtaamkfajnpobfaaGreat

namespace Go.Proofs.YtaamkfajnpobfaaGreat

def WsB (ws : List Wd) : Prop := ∀ x ∈ ws, WdB x
theorem wAt_bd {ws : List Wd} (h : WsB ws) (p : Nat) : WdB (wAt ws p) ∨ (wAt ws p).kind = -1 := by
 unfold wAt
 rw [List.getD_eq_getElem?_getD]
 cases hp : ws[p]? with
 | none => exact .inr rfl
 | some x => exact .inl (h x (List.mem_of_getElem? hp))
theorem wAt_k1 {ws : List Wd} (h : WsB ws) {p : Nat} (hk : (wAt ws p).kind = 1) : 0 ≤ (wAt ws p).n := by
 rcases wAt_bd h p with (⟨h1, -⟩ | ⟨-, h2, -⟩ | ⟨h1, -⟩ | ⟨h1, -⟩) | h1
 all_goals first | exact h2 | (rw [hk] at h1; exact absurd h1 (by decide))
theorem wAt_k2 {ws : List Wd} (h : WsB ws) {p : Nat} (hk : (wAt ws p).kind = 2) : 0 ≤ (wAt ws p).n ∧ (wAt ws p).n ≤ 2932896 := by
 rcases wAt_bd h p with (⟨h1, -⟩ | ⟨h1, -⟩ | ⟨-, h2⟩ | ⟨h1, -⟩) | h1
 all_goals first | exact h2 | (rw [hk] at h1; exact absurd h1 (by decide))
theorem wAt_k3 {ws : List Wd} (h : WsB ws) {p : Nat} (hk : (wAt ws p).kind = 3) : namedB (wAt ws p).text = true := by
 rcases wAt_bd h p with (⟨h1, -⟩ | ⟨h1, -⟩ | ⟨h1, -⟩ | ⟨-, h2, -⟩) | h1
 all_goals first | exact h2 | (rw [hk] at h1; exact absurd h1 (by decide))
section
variable {α : Type} {ws : List Wd}
theorem parts_all {Q : α → Prop} (ws : List Wd) : ∀ (ones : List (Nat → Nat → Rs α)), (∀ f ∈ ones, ∀ p d x q, f p d = .ok x q → Q x) → ∀ first p d xs q, partsP ws ones first p d = .ok xs q → ∀ x ∈ xs, Q x
 | [], _, first, p, d, xs, q, h => by
  injection h with h _
  subst h
  exact fun x hx => absurd hx (by simp)
 | f :: r, hm, first, p, d, xs, q, h => by
  rw [partsP] at h
  obtain ⟨u, p1, h1, h⟩ := Rs.bind_eq_ok h
  obtain ⟨x, p2, h2, h⟩ := Rs.bind_eq_ok h
  obtain ⟨ys, p3, h3, h⟩ := Rs.bind_eq_ok h
  injection h with h _
  subst h
  intro y hy
  rcases List.mem_cons.1 hy with rfl | hy
  ·exact hm f (by simp) _ _ _ _ h2
  ·exact parts_all ws r (fun g hg => hm g (by simp [hg])) _ _ _ _ _ h3 y hy
theorem within_all {Q : α → Prop} {ones : List (Nat → Nat → Rs α)} (hm : ∀ f ∈ ones, ∀ p d x q, f p d = .ok x q → Q x) {p d q : Nat} {xs : List α} (h : withinP ws ones p d = .ok xs q) : ∀ x ∈ xs, Q x := by
 unfold withinP at h
 obtain ⟨u, p1, h1, h⟩ := Rs.bind_eq_ok h
 obtain ⟨u2, p2, h2, h⟩ := Rs.bind_eq_ok h
 obtain ⟨ys, p3, h3, h⟩ := Rs.bind_eq_ok h
 obtain ⟨u3, p4, h4, h⟩ := Rs.bind_eq_ok h
 injection h with h _
 subst h
 exact parts_all ws ones hm _ _ _ _ _ h3
end
theorem built_mk {op n : Int} {nm : List Nat} {l : List Ex} (h : headB op n nm l.length = true) (hl : ∀ x ∈ l, builtB x = true) : builtB (.mk op n nm l) = true := by
 rw [builtB_eq]
 show (headB op n nm l.length && l.all builtB) = true
 rw [h, List.all_eq_true.2 hl]
 rfl
def BuE (f : Nat → Nat → Rs Ex) : Prop := ∀ p d x q, f p d = .ok x q → builtB x = true
theorem called_bu {ws : List Wd} {E0 : Nat → Nat → Rs Ex} (hE : BuE E0) {op : Int} {k p d q : Nat} {x : Ex} (hh : headB op 0 [] k = true) (h : calledP ws E0 op k p d = .ok x q) : builtB x = true := by
 unfold calledP at h
 obtain ⟨xs, p1, h1, h⟩ := Rs.bind_eq_ok h
 injection h with h _
 subst h
 have hl := withinP_len h1
 rw [List.length_replicate] at hl
 exact built_mk (by rw [hl]; exact hh) (within_all (fun f hf => (List.mem_replicate.1 hf).2 ▸ hE) h1)
theorem head_name {nm : List Nat} (h : namedB nm = true) (h2 : reservedB nm = false) : headB 3 0 nm 0 = true := by
 unfold headB freeB
 rw [h, h2]
 simp [arityZ]
theorem atom_bu {ws : List Wd} (hw : WsB ws) {E0 : Nat → Nat → Rs Ex} (hE : BuE E0) : BuE (atomP ws E0) := by
 intro p d x q h
 unfold atomP at h
 split at h
 ·rename_i hk
  injection h with h _
  subst h
  have := wAt_k1 hw hk
  refine built_mk ?_ (by simp)
  unfold headB
  simp [arityZ]
  omega
 split at h
 ·rename_i hk
  injection h with h _
  subst h
  have := wAt_k2 hw hk
  refine built_mk ?_ (by simp)
  unfold headB
  simp [arityZ]
  omega
 split at h
 ·rename_i hk
  split at h
  ·injection h with h _
   subst h
   exact built_mk (by decide) (by simp)
  split at h
  ·exact called_bu hE (by decide) h
  split at h
  ·exact called_bu hE (by decide) h
  split at h
  ·exact called_bu hE (by decide) h
  ·obtain ⟨nm, p1, h1, h⟩ := Rs.bind_eq_ok h
   injection h with h _
   subst h
   obtain ⟨-, rfl, h3, h4⟩ := nameP_eq h1
   exact built_mk (head_name (wAt_k3 hw h3) h4) (by simp)
 split at h
 ·obtain ⟨xs, p1, h1, h⟩ := Rs.bind_eq_ok h
  injection h with h _
  have hl := withinP_len h1
  have ha := within_all (Q := fun x => builtB x = true) (fun f hf => (List.mem_singleton.1 hf) ▸ hE) h1
  match xs, hl with
  | [y], _ =>
   subst h
   exact ha y (by simp)
 ·cases h
theorem ahead_bu {S : Nat → Nat → Rs Ex} (hS : BuE S) {op : Int} (hh : headB op 0 [] 1 = true) : BuE (aheadP S op) := by
 intro p d x q h
 unfold aheadP at h
 obtain ⟨u, p1, h1, h⟩ := Rs.bind_eq_ok h
 obtain ⟨y, p2, h2, h⟩ := Rs.bind_eq_ok h
 injection h with h _
 subst h
 exact built_mk hh (by intro z hz; rw [List.mem_singleton.1 hz]; exact hS _ _ _ _ h2)
theorem unary_bu {ws : List Wd} (hw : WsB ws) {S E0 : Nat → Nat → Rs Ex} (hS : BuE S) (hE : BuE E0) : BuE (unaryP ws S E0) := by
 intro p d x q h
 unfold unaryP at h
 split at h
 ·exact ahead_bu hS (by decide) _ _ _ _ h
 split at h
 ·exact ahead_bu hS (by decide) _ _ _ _ h
 ·exact atom_bu hw hE _ _ _ _ h
theorem opsAt_head : ∀ lvl, ∀ op ∈ opsAt lvl, headB op 0 [] 2 = true := fun lvl => by
 unfold opsAt
 split <;> decide
theorem opAt_mem {ws : List Wd} {lvl p : Nat} {op : Int} (h : opAt ws lvl p = some op) : op ∈ opsAt lvl := by
 unfold opAt at h
 split at h
 ·cases h
 split at h
 ·exact List.mem_of_getElem? h
 ·cases h
structure BuF (f : PF) : Prop where
 E : ∀ lvl, BuE (f.E lvl)
 L : ∀ lvl x p d y q, builtB x = true → f.L lvl x p d = .ok y q → builtB y = true
 S : BuE f.S
theorem loop_bu {ws : List Wd} {f : PF} (hf : BuF f) {lvl p d q : Nat} {x y : Ex} (hx : builtB x = true) (h : loopP ws f lvl x p d = .ok y q) : builtB y = true := by
 unfold loopP at h
 cases ho : opAt ws lvl p with
 | none =>
  rw [ho] at h
  injection h with h _
  subst h
  exact hx
 | some op =>
  rw [ho] at h
  obtain ⟨r, p1, h1, h⟩ := Rs.bind_eq_ok h
  have hm : builtB (mk2 op x r) = true := built_mk (opsAt_head lvl op (opAt_mem ho)) (by
   intro z hz
   rcases List.mem_cons.1 hz with rfl | hz
   ·exact hx
   ·rw [List.mem_singleton.1 hz]; exact hf.E _ _ _ _ _ h1)
  split at h
  ·injection h with h _
   subst h
   exact hm
  ·exact hf.L _ _ _ _ _ _ hm h
theorem lev_bu {L : Nat → Ex → Nat → Nat → Rs Ex} {S : Nat → Nat → Rs Ex} (hL : ∀ lvl x p d y q, builtB x = true → L lvl x p d = .ok y q → builtB y = true) (hS : BuE S) : ∀ i, BuE (levN L S i)
 | 0 => hS
 | i + 1 => fun p d x q h => by
  rw [levN] at h
  obtain ⟨y, p1, h1, h⟩ := Rs.bind_eq_ok h
  exact hL _ _ _ _ _ _ (lev_bu hL hS i _ _ _ _ h1) h
theorem fuel_bu {ws : List Wd} (hw : WsB ws) : ∀ n, BuF (fuelP ws n)
 | 0 => ⟨fun _ _ _ _ _ h => by (cases h), fun _ _ _ _ _ _ _ h => by (cases h), fun _ _ _ _ h => by (cases h)⟩
 | n + 1 => by
  have ih := fuel_bu hw n
  have hL : ∀ lvl x p d y q, builtB x = true → loopP ws (fuelP ws n) lvl x p d = .ok y q → builtB y = true := fun lvl x p d y q hx h => loop_bu ih hx h
  have hS := unary_bu hw ih.S (ih.E 0)
  exact ⟨fun lvl => lev_bu hL hS _, hL, hS⟩
def BuT (f : Nat → Nat → Rs Tm) : Prop := ∀ p d x q, f p d = .ok x q → builtT x = true
theorem lexAll_WsB (l : List Nat) (hl : ∀ x ∈ l, x < 256) : WsB (lexAll l).1 := fun x hx => (lexW_bd l hl _ _ x hx).1
theorem exprQ_built {l : List Nat} (hl : ∀ x ∈ l, x < 256) {x : Ex} {q : Nat} (h : exprQ (lexAll l).1 = .ok x q) : builtB x = true := (fuel_bu (lexAll_WsB l hl) _).E 0 _ _ _ _ h
end Go.Proofs.YtaamkfajnpobfaaGreat

namespace Go.Proofs.YtaamkfajnpobfaaGreat
open Go.RowKit

def sgB : List Nat := [40, 41, 44, 43, 45, 42, 47, 60, 61, 62, 38, 124, 33]
theorem sgB_lt : ∀ x ∈ sgB, x < 256 := by decide
theorem sign_nil : signW [] = none := by decide
theorem sign_two (c : Nat) (r : List Nat) (h : c = 60 ∨ c = 62 ∨ c = 33) : signW (c :: 61 :: r) = some [c, 61] := by
 rcases h with rfl | rfl | rfl <;> simp [signW, signsL]
theorem sign_one (c : Nat) (r : List Nat) (hc : c ∈ sgB) (h : ¬ (r.head? = some 61 ∧ (c = 60 ∨ c = 62 ∨ c = 33))) : signW (c :: r) = some [c] := by
 cases r with
 | nil =>
  simp [sgB] at hc
  rcases hc with rfl | rfl | rfl | rfl | rfl | rfl | rfl | rfl | rfl | rfl | rfl | rfl | rfl <;> simp [signW, signsL]
 | cons d r =>
  simp at h
  simp [sgB] at hc
  rcases hc with rfl | rfl | rfl | rfl | rfl | rfl | rfl | rfl | rfl | rfl | rfl | rfl | rfl <;> simp [signW, signsL] <;> simp at h <;> simp [h]
theorem sign_no (c : Nat) (r : List Nat) (hc : c ∉ sgB) : signW (c :: r) = none := by
 refine find_no _ _ ?_
 intro j s' hs
 have hm := List.mem_of_getElem? hs
 rw [decide_eq_false_iff_not]
 intro he
 apply hc
 simp [signsL] at hm
 rcases hm with rfl | rfl | rfl | rfl | rfl | rfl | rfl | rfl | rfl | rfl | rfl | rfl | rfl | rfl | rfl | rfl <;> (simp at he; simp [sgB, he])
theorem sgB_len : sgB.length = 13 := rfl
theorem refSign_any (l : List Nat) (w : World) (hl : ∀ x ∈ l, x < 256) (hlen : l.length ≤ 9223372036854775807) :
  Calls Tryz.prog 65 #[.string (strOf l)] w fun e w' => e = .returned (.string (strOf ((signW l).getD []))) ∧ Grow w w' := by
 have bel := Below.refl w.heap.size w
 have h0 : 0 < l.length → l[0]? = some (l.getD 0 0) := fun h => by rw [List.getD_eq_getElem?_getD, List.getElem?_eq_getElem h]; rfl
 have h1 : 1 < l.length → l[1]? = some (l.getD 1 0) := fun h => by rw [List.getD_eq_getElem?_getD, List.getElem?_eq_getElem h]; rfl
 have hb : ∀ j, l.getD j 0 < 256 := fun j => by
  rcases Nat.lt_or_ge j l.length with h | h
  ·rw [List.getD_eq_getElem?_getD, List.getElem?_eq_getElem h]; exact hl _ (List.getElem_mem h)
  ·rw [List.getD_eq_getElem?_getD, List.getElem?_eq_none h]; simp
 have b0 := hb 0
 have b1 := hb 1
 clear hb
 have hnil : l.length = 0 → signW l = none := fun h => by rw [List.eq_nil_of_length_eq_zero h]; exact sign_nil
 have htwo : 2 ≤ l.length → l.getD 1 0 = 61 → (l.getD 0 0 = 60 ∨ l.getD 0 0 = 62 ∨ l.getD 0 0 = 33) → (signW l).getD [] = l.take 2 := fun h h1 h2 => by
  rcases l with _ | ⟨c, _ | ⟨d, r⟩⟩
  ·simp at h
  ·simp at h
  ·have h1 : d = 61 := h1
   subst h1
   rw [sign_two c r h2]; rfl
 have hone : 0 < l.length → l.getD 0 0 ∈ sgB → ¬ (2 ≤ l.length ∧ l.getD 1 0 = 61 ∧ (l.getD 0 0 = 60 ∨ l.getD 0 0 = 62 ∨ l.getD 0 0 = 33)) → (signW l).getD [] = l.take 1 := fun h h1 h2 => by
  rcases l with _ | ⟨c, r⟩
  ·simp at h
  ·rw [sign_one c r h1]
   ·rfl
   ·rintro ⟨h3, h4⟩
    cases r with
    | nil => cases h3
    | cons d r => injection h3 with h3; subst h3; exact h2 ⟨by simp, rfl, h4⟩
 have hno : 0 < l.length → l.getD 0 0 ∉ sgB → (signW l).getD [] = [] := fun h h1 => by
  rcases l with _ | ⟨c, r⟩
  ·simp at h
  ·rw [sign_no c r h1]; rfl
 generalize l.getD 0 0 = c0 at *
 generalize l.getD 1 0 = c1 at *
 refine Zs 49 Tryz.func65 ?_
 refine Zsr ?_
 refine Za ?_
 refine Zk2 0 2 (Zts (Zsr ?_))
 refine Zm ?_
 refine Zv (Runs.lenL rfl rfl Tryz.underlying9) ?_
 refine Zv (Runs.geq rfl rfl rfl) ?_
 refine Zm ?_
 refine SeqC.start ?_
 refine Zco (fun hcx => Runs.move rfl rfl) ?_
 refine SeqC.next rfl rfl rfl rfl rfl rfl rfl (fun hcx => Runs.indexL (l := l) (j := 1) (c := c1) rfl rfl rfl Tryz.underlying9 rfl (h1 (by simp at hcx; omega)) b1) ?_
 refine SeqC.next rfl rfl rfl rfl rfl rfl rfl (fun hcx => Runs.eqlI rfl rfl rfl) ?_
 refine SeqC.and rfl rfl rfl rfl rfl rfl rfl ?_
 refine Zm ?_
 refine SeqC.start ?_
 refine Zco (fun hcx => Runs.move rfl rfl) ?_
 refine SeqC.next rfl rfl rfl rfl rfl rfl rfl (fun hcx => Runs.indexL (l := l) (j := 0) (c := c0) rfl rfl rfl Tryz.underlying9 rfl (h0 (by simp [topX] at hcx; omega)) b0) ?_
 refine SeqC.next rfl rfl rfl rfl rfl rfl rfl (fun hcx => Runs.eqlI rfl rfl rfl) ?_
 refine SeqC.next rfl rfl rfl rfl rfl rfl rfl (fun hcx => Runs.move rfl rfl) ?_
 refine Zco (fun hcx => Runs.move rfl rfl) ?_
 refine SeqC.next rfl rfl rfl rfl rfl rfl rfl (fun hcx => Runs.indexL (l := l) (j := 0) (c := c0) rfl rfl rfl Tryz.underlying9 rfl (h0 (by simp [topX] at hcx; omega)) b0) ?_
 refine SeqC.next rfl rfl rfl rfl rfl rfl rfl (fun hcx => Runs.eqlI rfl rfl rfl) ?_
 refine SeqC.orG rfl rfl rfl rfl rfl rfl rfl rfl rfl rfl rfl ?_
 refine SeqC.next rfl rfl rfl rfl rfl rfl rfl (fun hcx => Runs.move rfl rfl) ?_
 refine Zco (fun hcx => Runs.move rfl rfl) ?_
 refine SeqC.next rfl rfl rfl rfl rfl rfl rfl (fun hcx => Runs.indexL (l := l) (j := 0) (c := c0) rfl rfl rfl Tryz.underlying9 rfl (h0 (by simp [topX] at hcx; omega)) b0) ?_
 refine SeqC.next rfl rfl rfl rfl rfl rfl rfl (fun hcx => Runs.eqlI rfl rfl rfl) ?_
 refine SeqC.orG rfl rfl rfl rfl rfl rfl rfl rfl rfl rfl rfl ?_
 refine SeqC.and rfl rfl rfl rfl rfl rfl rfl ?_
 refine Zk3 0 2 27 (Zt ?_)
 refine Cd.cond rfl (fun h => ?_) (fun h => ?_)
 ·simp at h
  have e := htwo (by omega) (by omega) (by omega)
  refine Zsr ?_
  refine Zm ?_
  refine Zv (Runs.sliceTo (j := 2) rfl rfl rfl Tryz.underlying9 rfl (by omega)) ?_
  refine Za ?_
  refine Zk3 0 2 27 (Zt (Cd.ret (Post.then_ret ?_)))
  refine Post.end1 rfl rfl (.inl rfl) ?_
  exact ⟨by rw [e], bel⟩
 ·have hn2 : ¬ (2 ≤ l.length ∧ c1 = 61 ∧ (c0 = 60 ∨ c0 = 62 ∨ c0 = 33)) := by
   simp at h
   omega
  have hone := fun a b => hone a b hn2
  clear h htwo hn2 h1
  refine Cd.skip (Ztq ?_)
  refine Za ?_
  refine Zk4 0 2 3 27 (Zts (Zsr ?_))
  refine Za ?_
  refine Zk5 0 2 3 4 27 (Zt (Cd.block ?_))
  refine Cd.loop (σ := Nat) (fun k => [(0, .string (strOf l)), (3, .string (strOf sgB)), (4, .int .i64 (k : Int))]) (fun k wr => k ≤ 13 ∧ (∀ j c, j < k → sgB[j]? = some c → 0 < l.length → c ≠ c0) ∧ Below w.heap.size w wr) (fun k => 13 - k) 0 ⟨by omega, fun j c hj => absurd hj (by omega), bel⟩ ⟨rfl, rfl, rfl, trivial⟩ ?_
  clear bel
  rintro k wr ⟨hk, hns, bel⟩
  have hsl := sgB_len
  refine Cd.seq (Zsr ?_)
  refine Zm ?_
  refine Zm ?_
  refine Zv (Runs.lenL rfl rfl Tryz.underlying9) ?_
  refine Zv (Runs.lss rfl rfl rfl) ?_
  refine Zk4 0 3 4 33 (Zt ?_)
  refine Cd.condD rfl (fun hc => ?_) (fun hc => ?_)
  ·obtain ⟨c, hcc⟩ : ∃ c, sgB[k]? = some c := ⟨_, List.getElem?_eq_getElem (show k < sgB.length by omega)⟩
   have hc256 := sgB_lt c (List.mem_of_getElem? hcc)
   have hns2 : ∀ j d, j < k + 1 → sgB[j]? = some d → (0 < l.length → c ≠ c0) → 0 < l.length → d ≠ c0 := fun j d hj hd hcn h => by
    rcases Nat.lt_or_ge j k with h2 | h2
    ·exact hns j d h2 hd h
    ·obtain rfl : j = k := by omega
     rw [hcc] at hd
     injection hd with hd
     subst hd
     exact hcn h
   by_cases hl0 : 0 < l.length
   ·have h0 := h0 hl0
    have hone := hone hl0
    refine Cd.skip (Zts (Cd.block (Cd.seq ?_)))
    refine Cd.draw 11 (by kernel_rfl) [] (.inl rfl) rfl Grow Grow.refl (fun _ _ _ => Grow.trans) ?_
    intro w1 hw1 zw1
    replace bel := bel.step hw1
    have zbel := bel.size
    refine Zdm ?_
    refine Zd (fun w hG => Runs.lenL rfl rfl Tryz.underlying9) ?_
    refine Zd (fun w hG => (Runs.gtr rfl rfl rfl).isT ((by omega))) ?_
    refine Zdm ?_
    refine Zdg (fun w hG => Runs.move rfl rfl) ?_
    refine Zdg (fun w hG => Runs.indexL (l := l) (j := 0) (c := c0) rfl rfl rfl Tryz.underlying9 rfl h0 b0) ?_
    refine Zdg (fun w hG => Runs.move rfl rfl) ?_
    refine Zdg (fun w hG => Runs.move rfl rfl) ?_
    refine Zdg (fun w hG => Runs.indexL (l := sgB) (j := k) rfl rfl rfl Tryz.underlying9 rfl hcc hc256) ?_
    refine Zdg (fun w hG => Runs.eqlI rfl rfl rfl) ?_
    refine Zd (fun w hG => Runs.pickT rfl rfl rfl) ?_
    refine Dr.nil ?_
    refine FinX.done (F' := [(0, _), (3, _), (4, _), (33, _), (46, _)]) rfl ⟨rfl, rfl, rfl, rfl, rfl, trivial⟩ ?_
    intro w2 hw2 fw2
    replace bel := bel.step hw2
    refine Zk5 0 3 4 33 46 (Zt ?_)
    refine Cd.condD rfl (fun hc => ?_) (fun hc => ?_)
    ·obtain rfl : c = c0 := by omega
     refine Zsr ?_
     refine Zm ?_
     refine Zv (Runs.sliceTo (j := 1) rfl rfl rfl Tryz.underlying9 rfl (by omega)) ?_
     refine Za ?_
     refine Zk6 0 2 3 4 33 46 (Zt (Cd.ret (Post.block_ret (Post.then_ret (Post.round_ret (Post.block_ret (Post.then_ret ?_)))))))
     refine Post.end1 rfl rfl (.inl rfl) ?_
     exact ⟨by rw [hone (List.mem_of_getElem? hcc)], bel⟩
    ·have hne : c ≠ c0 := by omega
     refine Cd.skip (Post.block_normal (Ztr ?_))
     refine Zm ?_
     refine Za_ ?_
     refine Za ?_
     refine Zk5 0 3 4 33 46 ?_
     exact Post.round (k + 1) ⟨rfl, rfl, rfl, trivial⟩ ⟨by omega, fun j d hj hd => hns2 j d hj hd (fun _ => hne), bel⟩ (by omega)
   ·skip
    refine Cd.skip (Zts (Cd.block (Cd.seq ?_)))
    refine Cd.draw 11 (by kernel_rfl) [] (.inl rfl) rfl Grow Grow.refl (fun _ _ _ => Grow.trans) ?_
    intro w1 hw1 zw1
    replace bel := bel.step hw1
    have zbel := bel.size
    refine Zdm ?_
    refine Zd (fun w hG => Runs.lenL rfl rfl Tryz.underlying9) ?_
    refine Zd (fun w hG => (Runs.gtr rfl rfl rfl).isF ((by omega))) ?_
    refine Zdm ?_
    refine Zds ?_
    refine Zds ?_
    refine Zds ?_
    refine Zds ?_
    refine Zds ?_
    refine Zds ?_
    refine Zd (fun w hG => Runs.pickF rfl rfl rfl) ?_
    refine Dr.nil ?_
    refine FinX.done (F' := [(0, _), (3, _), (4, _), (33, _), (46, _)]) rfl ⟨rfl, rfl, rfl, rfl, rfl, trivial⟩ ?_
    intro w2 hw2 fw2
    replace bel := bel.step hw2
    refine Zk5 0 3 4 33 46 (Zt ?_)
    refine Cd.condF rfl rfl ?_
    refine Cd.skip (Post.block_normal (Ztr ?_))
    refine Zm ?_
    refine Za_ ?_
    refine Za ?_
    refine Zk5 0 3 4 33 46 ?_
    exact Post.round (k + 1) ⟨rfl, rfl, rfl, trivial⟩ ⟨by omega, fun j d hj hd => hns2 j d hj hd (fun h => absurd h hl0), bel⟩ (by omega)
  ·have hnn : (signW l).getD [] = [] := by
    rcases Nat.eq_zero_or_pos l.length with h | h
    ·rw [hnil h]; rfl
    ·refine hno h fun hm => ?_
     obtain ⟨j, hj, he⟩ := List.getElem_of_mem hm
     exact hns j c0 (by omega) (by rw [List.getElem?_eq_getElem hj, he]) h rfl
   refine Cd.exit (Post.then_exit (Post.round_exit (Post.block_exit (Ztq ?_))))
   refine Za ?_
   refine Zk5 0 2 3 4 33 (Zt (Cd.ret ?_))
   refine Post.end1 rfl rfl (.inl rfl) ?_
   exact ⟨by rw [hnn]; rfl, bel⟩
end Go.Proofs.YtaamkfajnpobfaaGreat

namespace Go.Proofs.YtaamkfajnpobfaaGreat
open Go.RowKit

def DIy (l : List Int) : List Value := l.map fun z => .int .i64 z
theorem DI_at {l : List Int} {j : Nat} (h : j < l.length) : (DIy l).toArray[j]? = some (.int .i64 (l.getD j 0)) := by simp [DIy, List.getD_eq_getElem?_getD, List.getElem?_eq_getElem h]
theorem DI_set (l : List Int) (j : Nat) (d : Int) : (DIy l).toArray.setIfInBounds j (.int .i64 d) = (DIy (l.set j d)).toArray := by
 apply Array.ext'
 simp [DIy, List.map_set]
theorem rawV_bd (l : List Nat) (hl : ∀ x ∈ l, x < 256) (h : l.length ≤ 4) : -100000000 ≤ rawV l ∧ rawV l ≤ 100000000 := by
 rcases l with _ | ⟨c0, _ | ⟨c1, _ | ⟨c2, _ | ⟨c3, _ | ⟨x, l⟩⟩⟩⟩⟩ <;> simp at h hl <;> simp [rawV] <;> omega
theorem refDayParse_any (l : List Nat) (w : World) (hl : ∀ x ∈ l, x < 256) (hlen : l.length ≤ 9223372036854775807) : Calls Tryz.prog 60 #[.string (strOf l)] w fun e w' => e = .returned (.int .i64 (if dateOk l then dateZ l else -1)) ∧ Grow w w' := by
 have bel := Below.refl w.heap.size w
 refine Zs 58 Tryz.func60 ?_
 refine Zsr ?_
 refine Za ?_
 refine Zk2 0 2 (Zts (Zsr ?_))
 refine Zm ?_
 refine Zv (Runs.lenL rfl rfl Tryz.underlying9) ?_
 refine Zv (Runs.neqI rfl rfl rfl) ?_
 refine Zk3 0 2 9 (Zt ?_)
 refine Cd.cond rfl (fun h => ?_) (fun h => ?_)
 ·have hno : dateOk l = false := by
   unfold dateOk
   rw [decide_eq_false (by simp at h; omega)]
   rfl
  refine Zsr ?_
  refine Za ?_
  refine Zk3 0 2 9 (Zt (Cd.ret (Post.then_ret ?_)))
  refine Post.end1 rfl rfl (.inl rfl) ?_
  exact ⟨ret1 (int_eq (by rw [hno]; rfl)), bel⟩
 have h10 : l.length = 10 := by simp at h; omega
 clear h
 have hlaw := day_law l h10
 have hten := rawS_ten l h10
 refine Cd.skip (Ztq ?_)
 refine Seq.slice (vs := [_, _, _]) (s := 1) rfl rfl rfl Tryz.underlying43 (by kernel_rfl) (zero_int) (by omega) (by omega) ⟨rfl, rfl, rfl, trivial⟩ rfl rfl rfl ?_
 intro g10 w1 n10
 have e10 := Nat.le_trans bel.size n10.ge
 replace bel := bel.step n10.below
 have k10 := n10.blk
 refine Za ?_
 refine Zk4 0 2 3 9 (Zts (Zsr ?_))
 refine Za ?_
 refine Zk5 0 2 3 4 9 (Zt (Cd.block ?_))
 have hk0 : Blk w1 g10 3 (DIy (rawS l 0)).toArray := k10
 refine Cd.loop (σ := Nat) (fun k => [(0, .string (strOf l)), (3, .slice (some ⟨g10, 0, none⟩) 3 3), (4, .int .i64 (k : Int))])
  (fun k wr => k ≤ 10 ∧ Below w.heap.size w wr ∧ Blk wr g10 3 (DIy (rawS l k)).toArray) (fun k => 10 - k) 0 ⟨by omega, bel, hk0⟩ ⟨rfl, rfl, rfl, trivial⟩ ?_
 clear hk0
 clear bel k10
 rintro k wr ⟨hk, bel, k10⟩
 have hrl := rawS_len l k
 have hrb := rawS_bd l hl k
 have hP : (10 : Int) ^ k ≤ 10 ^ 10 := by
  have : (10 : Nat) ^ k ≤ 10 ^ 10 := Nat.pow_le_pow_right (by omega) hk
  have e : ((10 ^ k : Nat) : Int) = (10 : Int) ^ k := by simp
  omega
 have hi3 : idxD k < 3 := by unfold idxD; split; omega; split <;> omega
 refine Cd.seq (Zsr ?_)
 refine Zm ?_
 refine Zv (Runs.lss rfl rfl rfl) ?_
 refine Zk4 0 3 4 12 (Zt ?_)
 refine Cd.condD rfl (fun hc => ?_) (fun hc => ?_)
 ·obtain ⟨c, hc⟩ : ∃ c, l[k]? = some c := ⟨_, List.getElem?_eq_getElem (show k < l.length by omega)⟩
  have hc256 := hl c (List.mem_of_getElem? hc)
  have hst : rawS l (k + 1) = if k = 4 ∨ k = 7 then rawS l k else (rawS l k).set (idxD k) (10 * (rawS l k).getD (idxD k) 0 + (c : Int) - 48) := by
   rw [rawS, List.getD_eq_getElem?_getD (l := l), hc]; rfl
  have hx : (DIy (rawS l k)).toArray[idxD k]? = some (.int .i64 ((rawS l k).getD (idxD k) 0)) := DI_at (by omega)
  have hxm : (rawS l k).getD (idxD k) 0 ∈ rawS l k := by
   rw [List.getD_eq_getElem?_getD, List.getElem?_eq_getElem (by omega)]
   exact List.getElem_mem (by omega)
  have hxb := hrb _ hxm
  generalize (rawS l k).getD (idxD k) 0 = x at *
  refine Cd.skip (Zts (Cd.block (Zsr ?_)))
  refine Za ?_
  refine Zk5 0 3 4 5 12 (Zt ?_)
  refine Cd.seqJ (σ := Unit) (fun _ => [(0, .string (strOf l)), (3, .slice (some ⟨g10, 0, none⟩) 3 3), (4, .int .i64 (k : Int)), (5, .int .i64 (if 4 < k then 1 else 0))]) (fun _ wr' => Below w.heap.size w wr' ∧ Blk wr' g10 3 (DIy (rawS l k)).toArray) ?_ ?_
  ·skip
   refine Zsr ?_
   refine Zm ?_
   refine Zv (Runs.gtr rfl rfl rfl) ?_
   refine Zk6 0 3 4 5 12 16 (Zt ?_)
   refine Cd.condD rfl (fun hc => ?_) (fun hc => ?_)
   ·skip
    refine Zr ?_
    refine Za ?_
    refine Zk6 0 3 4 5 12 16 ?_
    exact Post.join () ⟨rfl, rfl, rfl, congrArg (fun x : Int => some (Value.int .i64 x)) (by rw [if_pos (by omega)]), trivial⟩ ⟨bel, k10⟩
   ·skip
    refine Cd.skip ?_
    exact Post.join () ⟨rfl, rfl, rfl, congrArg (fun x : Int => some (Value.int .i64 x)) (by rw [if_neg (by omega)]), trivial⟩ ⟨bel, k10⟩
  clear bel k10
  rintro ⟨⟩ wr ⟨bel, k10⟩
  refine Cd.seqJ (σ := Unit) (fun _ => [(0, .string (strOf l)), (3, .slice (some ⟨g10, 0, none⟩) 3 3), (4, .int .i64 (k : Int)), (5, .int .i64 (idxD k : Int))]) (fun _ wr' => Below w.heap.size w wr' ∧ Blk wr' g10 3 (DIy (rawS l k)).toArray) ?_ ?_
  ·skip
   refine Zsr ?_
   refine Zm ?_
   refine Zv (Runs.gtr rfl rfl rfl) ?_
   refine Zk5 0 3 4 5 18 (Zt ?_)
   refine Cd.condD rfl (fun hc => ?_) (fun hc => ?_)
   ·skip
    refine Zr ?_
    refine Za ?_
    refine Zk5 0 3 4 5 18 ?_
    exact Post.join () ⟨rfl, rfl, rfl, congrArg (fun x : Int => some (Value.int .i64 x)) (by unfold idxD; (repeat' split) <;> omega), trivial⟩ ⟨bel, k10⟩
   ·skip
    refine Cd.skip ?_
    exact Post.join () ⟨rfl, rfl, rfl, congrArg (fun x : Int => some (Value.int .i64 x)) (by unfold idxD; (repeat' split) <;> omega), trivial⟩ ⟨bel, k10⟩
  clear bel k10
  rintro ⟨⟩ wr ⟨bel, k10⟩
  generalize idxD k = J at *
  refine Zsr ?_
  refine Zm ?_
  refine Zv (Runs.neqI rfl rfl rfl) ?_
  refine Zm ?_
  refine SeqC.start ?_
  refine Zco (fun hcx => Runs.move rfl rfl) ?_
  refine SeqC.next rfl rfl rfl rfl rfl rfl rfl (fun hcx => Runs.neqI rfl rfl rfl) ?_
  refine SeqC.and rfl rfl rfl rfl rfl rfl rfl ?_
  refine Zk5 0 3 4 5 24 (Zt ?_)
  refine Cd.cond rfl (fun h => ?_) (fun h => ?_)
  ·rw [if_neg (by simp at h; omega)] at hst
   clear h
   refine Cd.draw 14 (by kernel_rfl) [] (.inl rfl) rfl Grow Grow.refl (fun _ _ _ => Grow.trans) ?_
   intro w2 hw2 zw2
   replace bel := bel.step hw2
   replace k10 := k10.step hw2
   have zbel := bel.size
   have zlt := k10.lt
   refine Zdm ?_
   refine Zdm ?_
   refine Zdm ?_
   refine Zdm ?_
   refine Zd (fun w hG => Runs.indexB rfl rfl rfl Tryz.underlying43 (by kernel_rfl) (j := J) (by omega) (by omega)) ?_
   refine Zd (fun w hG => Runs.loadB rfl rfl Tryz.underlying3 rfl (k10.step hG) hx) ?_
   refine Zd (fun w hG => Runs.mulI rfl rfl rfl (by omega) (by omega)) ?_
   refine Zdm ?_
   refine Zdm ?_
   refine Zd (fun w hG => Runs.indexL (l := l) (j := k) rfl rfl rfl Tryz.underlying9 rfl hc hc256) ?_
   refine Zd (fun w hG => Runs.convI rfl rfl Tryz.underlying5 Tryz.underlying3 (wrapI (by omega) (by omega))) ?_
   refine Zd (fun w hG => Runs.addI rfl rfl rfl (by omega) (by omega)) ?_
   refine Zd (fun w hG => Runs.subI rfl rfl rfl (by omega) (by omega)) ?_
   refine Zd (fun w hG => Runs.indexB rfl rfl rfl Tryz.underlying43 (by kernel_rfl) (j := J) (by omega) (by omega)) ?_
   refine Dr.nil ?_
   refine FinX.done (F' := [(0, _), (3, _), (4, _), (5, _), (24, _), (37, _), (38, _)]) rfl ⟨rfl, rfl, rfl, rfl, rfl, rfl, rfl, trivial⟩ ?_
   intro w3 hw3 fw3
   replace bel := bel.step hw3
   replace k10 := k10.step hw3
   refine Seq.store1 rfl rfl rfl (by kernel_rfl) rfl rfl k10 (hx) rfl rfl ?_
   intro w4 pw4
   replace bel := bel.put k10 pw4 e10
   replace k10 := pw4.blk
   rw [DI_set] at k10
   refine Zk5 0 3 4 5 24 (Post.block_normal (Ztr ?_))
   refine Zm ?_
   refine Za_ ?_
   refine Za ?_
   refine Zk5 0 3 4 5 24 ?_
   exact Post.round (k + 1) ⟨rfl, rfl, rfl, trivial⟩ ⟨by omega, bel, by rw [hst]; exact k10⟩ (by omega)
  ·rw [if_pos (by simp at h; omega)] at hst
   refine Cd.skip (Post.block_normal (Ztr ?_))
   refine Zm ?_
   refine Za_ ?_
   refine Za ?_
   refine Zk5 0 3 4 5 24 ?_
   exact Post.round (k + 1) ⟨rfl, rfl, rfl, trivial⟩ ⟨by omega, bel, by rw [hst]; exact k10⟩ (by omega)
 ·obtain rfl : k = 10 := by omega
  clear hP hrb
  rw [hten] at k10
  clear hten hrl
  have hY := rawV_bd (l.take 4) (take_lt hl 4) (by rw [List.length_take]; omega)
  have hM := rawV_bd ((l.take 7).drop 5) (drop_lt (take_lt hl 7) 5) (by rw [List.length_drop, List.length_take]; omega)
  have hD := rawV_bd ((l.take 10).drop 8) (drop_lt (take_lt hl 10) 8) (by rw [List.length_drop, List.length_take]; omega)
  generalize rawV (l.take 4) = Y at *
  generalize rawV ((l.take 7).drop 5) = M at *
  generalize rawV ((l.take 10).drop 8) = D at *
  refine Cd.exit (Post.then_exit (Post.round_exit (Post.block_exit (Zts ?_))))
  refine Cd.weak (F' := [(0, _), (3, _), (4, _), (12, _)]) ⟨rfl, rfl, rfl, rfl, trivial⟩ ?_
  refine Cd.draw 11 (by kernel_rfl) [] (.inl rfl) rfl Grow Grow.refl (fun _ _ _ => Grow.trans) ?_
  intro w2 hw2 zw2
  replace bel := bel.step hw2
  replace k10 := k10.step hw2
  have zbel := bel.size
  have zlt := k10.lt
  refine Zdm ?_
  refine Zd (fun w hG => Runs.indexB rfl rfl rfl Tryz.underlying43 (by kernel_rfl) (j := 0) rfl (by omega)) ?_
  refine Zd (fun w hG => Runs.loadB rfl rfl Tryz.underlying3 rfl (k10.step hG) rfl) ?_
  refine Zdm ?_
  refine Zd (fun w hG => Runs.indexB rfl rfl rfl Tryz.underlying43 (by kernel_rfl) (j := 1) rfl (by omega)) ?_
  refine Zd (fun w hG => Runs.loadB rfl rfl Tryz.underlying3 rfl (k10.step hG) rfl) ?_
  refine Zdm ?_
  refine Zd (fun w hG => Runs.indexB rfl rfl rfl Tryz.underlying43 (by kernel_rfl) (j := 2) rfl (by omega)) ?_
  refine Zd (fun w hG => Runs.loadB rfl rfl Tryz.underlying3 rfl (k10.step hG) rfl) ?_
  refine Dr.callV rfl (fun w => Ze Tryz.func110) rfl (fun w hG => refDayOf_any Y M D _ ⟨by omega, by omega⟩ ⟨by omega, by omega⟩ ⟨by omega, by omega⟩) ?_
  refine Zd (fun w hG => Runs.assign rfl rfl) ?_
  refine Dr.nil ?_
  refine FinX.done (F' := [(0, _), (3, _), (4, _), (6, _), (12, _)]) rfl ⟨rfl, rfl, rfl, rfl, rfl, trivial⟩ ?_
  intro w3 hw3 fw3
  replace bel := bel.step hw3
  replace k10 := k10.step hw3
  have hzn : ∃ n : Int, (if ofOk Y M D = true then ofZ Y M D else -1) = n ∧ -1 ≤ n ∧ n ≤ 2932896 ∧ (ofOk Y M D = true ∧ n = ofZ Y M D ∧ 0 ≤ n ∨ ofOk Y M D = false ∧ n < 0) := by
   cases ho : ofOk Y M D with
   | true =>
    obtain ⟨-, -, -, -, -, -, -, -, a, b⟩ := of_span ho
    exact ⟨_, rfl, by rw [if_pos rfl]; omega, by rw [if_pos rfl]; omega, .inl ⟨rfl, by rw [if_pos rfl], by rw [if_pos rfl]; omega⟩⟩
   | false => exact ⟨-1, rfl, by omega, by omega, .inr ⟨rfl, by omega⟩⟩
  obtain ⟨n, hn, hn1, hn2, hn3⟩ := hzn
  rw [hn]
  have hpr : ∀ W, 0 ≤ n → Calls Tryz.prog 111 #[.int .i64 n] W fun e w' => e = .returned (.string (strOf (printD Y.toNat M.toNat D.toNat))) ∧ Grow W w' := by
   intro W h
   rcases hn3 with ⟨h1, h2, -⟩ | ⟨-, h2⟩
   ·rw [h2]; exact refDayPrint_any Y M D W h1
   ·omega
  have hpl := printD_lt Y.toNat M.toNat D.toNat
  generalize printD Y.toNat M.toNat D.toNat = T at *
  refine Zk5 0 3 4 6 12 (Zts (Zsr ?_))
  refine Zm ?_
  refine Zv (Runs.lss rfl rfl rfl) ?_
  refine Zm ?_
  refine SeqC.start ?_
  refine Zco (fun hcx => Runs.move rfl rfl) ?_
  refine SeqC.nextC rfl rfl rfl rfl rfl rfl rfl (fun hcx => Ze Tryz.func111) (fun hcx => hpr _ (by simp at hcx; omega)) ?_
  intro w4 hw4
  replace bel := bel.step hw4
  replace k10 := k10.step hw4
  refine SeqC.next rfl rfl rfl rfl rfl rfl rfl (fun hcx => Runs.move rfl rfl) ?_
  refine SeqC.next rfl rfl rfl rfl rfl rfl rfl (fun hcx => Runs.neqL (a := T) (b := l) rfl rfl rfl hpl hl) ?_
  refine SeqC.or rfl rfl rfl rfl rfl rfl rfl ?_
  refine Zk6 0 3 4 6 12 56 (Zt ?_)
  refine Cd.cond rfl (fun h => ?_) (fun h => ?_)
  ·have hno : dateOk l = false := by
    rw [Bool.eq_false_iff]
    intro h2
    obtain ⟨h3, h4⟩ := hlaw.1.1 h2
    simp at h
    rcases hn3 with ⟨-, -, h5⟩ | ⟨h5, -⟩
    ·rcases h with h | h
     ·omega
     ·exact h h4
    ·rw [h5] at h3; cases h3
   refine Zsr ?_
   refine Za ?_
   refine Zk7 0 2 3 4 6 12 56 (Zt (Cd.ret (Post.then_ret ?_)))
   refine Post.end1 rfl rfl (.inl rfl) ?_
   exact ⟨ret1 (int_eq (by rw [hno]; rfl)), bel⟩
  ·have hyes : dateOk l = true ∧ n = ofZ Y M D := by
    simp at h
    rcases hn3 with ⟨h5, h6, -⟩ | ⟨h5, h6⟩
    ·exact ⟨hlaw.1.2 ⟨h5, h.2⟩, h6⟩
    ·omega
   refine Cd.skip (Ztq ?_)
   refine Zm ?_
   refine Za ?_
   refine Zk7 0 2 3 4 6 12 56 (Zt (Cd.ret ?_))
   refine Post.end1 rfl rfl (.inl rfl) ?_
   exact ⟨ret1 (int_eq (by rw [if_pos hyes.1, hlaw.2 hyes.1]; exact hyes.2)), bel⟩
end Go.Proofs.YtaamkfajnpobfaaGreat

namespace Go.Proofs.YtaamkfajnpobfaaGreat
open Go.RowKit

theorem zero_debentureref17_Word : zeroIs Tryz.prog 109 = some (some (.agg #[.int .i64 0, .string { data := #[] }, .int .i64 0, .int .i64 0])) := by kernel_rfl
theorem run_build_RWord (a c d : Int) (s : ByteArray) (w : World) : (Instr.build 109 #[(0, .int .i64 a), (1, .string s), (2, .int .i64 c), (3, .int .i64 d)]).run Tryz.prog w = .ok (.agg #[.int .i64 a, .string s, .int .i64 c, .int .i64 d]) w := by
 have hu := Tryz.underlying109
 go_simp
theorem runN_takeX (p : Nat → Bool) : ∀ l : List Nat, runN p (l.take (runN p l)) = runN p l
 | [] => rfl
 | c :: l => by
  rw [runN_cons]
  split
  ·rename_i h
   rw [List.take_succ_cons, runN_cons, if_pos h, runN_takeX p l]
  ·rfl
theorem named_run (c : Nat) (r : List Nat) (hc : letB c = true) : namedB ((c :: r).take (runN partB (c :: r))) = decide (runN partB (c :: r) ≤ 16) := by
 have hp : partB c = true := by unfold partB; rw [hc]; rfl
 have h1 := runN_takeX partB (c :: r)
 have h2 : ((c :: r).take (runN partB (c :: r))).length = runN partB (c :: r) := by have := runN_le partB (c :: r); rw [List.length_take]; omega
 have h3 : 0 < runN partB (c :: r) := run_pos rfl hp
 have h4 : ((c :: r).take (runN partB (c :: r))).getD 0 0 = c := by
  obtain ⟨n, hn⟩ : ∃ n, runN partB (c :: r) = n + 1 := ⟨runN partB (c :: r) - 1, by omega⟩
  rw [hn]; rfl
 have h5 : (c :: r).take (runN partB (c :: r)) ≠ [] := fun h => by rw [h] at h2; simp at h2; omega
 unfold namedB
 rw [h1, h2, h4, hc, decide_eq_true h5]
 simp
theorem day_dig (c : Nat) (r : List Nat) (h : dayOk (c :: r) = true) : digB c = true := by
 unfold dayOk at h
 simp at h
 have h := h.2
 unfold dateOk at h
 simp only [Bool.and_eq_true] at h
 have h := (ofOk_bd h.2).1
 unfold numZ at h
 split at h
 ·rename_i ha
  exact List.all_eq_true.1 ha c (by simp)
 ·omega
theorem blank_one {l : List Nat} {p c : Nat} (hc : l[p]? = some c) (hb : blankB c = true) : p + blankN (l.drop p) = p + 1 + blankN (l.drop (p + 1)) := by
 have hp : p < l.length := (List.getElem?_eq_some_iff.1 hc).1
 have e : l.drop p = c :: l.drop (p + 1) := by rw [List.drop_eq_getElem_cons hp]; congr; rw [List.getElem?_eq_getElem hp] at hc; injection hc
 rw [e, blankN_step, if_pos hb]
 omega
theorem blank_rem {l : List Nat} {p : Nat} (hc : l[p]? = some 35) : p + blankN (l.drop p) = p + runN noteB (l.drop p) + blankN (l.drop (p + runN noteB (l.drop p))) := by
 have hp : p < l.length := (List.getElem?_eq_some_iff.1 hc).1
 have e : l.drop p = 35 :: l.drop (p + 1) := by rw [List.drop_eq_getElem_cons hp]; congr; rw [List.getElem?_eq_getElem hp] at hc; injection hc
 have h := blankN_step 35 (l.drop (p + 1))
 rw [if_neg (by decide), if_pos rfl, ← e, List.drop_drop] at h
 omega
theorem blank_no {l : List Nat} {p c : Nat} (hc : l[p]? = some c) (hb : blankB c = false) (h35 : c ≠ 35) : blankN (l.drop p) = 0 := by
 have hp : p < l.length := (List.getElem?_eq_some_iff.1 hc).1
 have e : l.drop p = c :: l.drop (p + 1) := by rw [List.drop_eq_getElem_cons hp]; congr; rw [List.getElem?_eq_getElem hp] at hc; injection hc
 rw [e, blankN_step, if_neg (by rw [hb]; simp), if_neg h35]
theorem dropAt {l : List Nat} {p c : Nat} (hc : l[p]? = some c) : l.drop p = c :: l.drop (p + 1) := by
 have hp : p < l.length := (List.getElem?_eq_some_iff.1 hc).1
 rw [List.drop_eq_getElem_cons hp]; congr; rw [List.getElem?_eq_getElem hp] at hc; injection hc

theorem lexW_none {f p : Nat} {l : List Nat} (h : p < l.length) (hn : nextW (l.drop p) = none) : lexW (f + 1) l p = ([], some p) := by rw [lexW_step f l p h, hn]
theorem lexW_some {f p : Nat} {l t : List Nat} {k n : Int} (h : p < l.length) (hn : nextW (l.drop p) = some (k, t, n)) : lexW (f + 1) l p = (⟨k, t, n, p⟩ :: (lexW f l (p + t.length + blankN (l.drop (p + t.length)))).1, (lexW f l (p + t.length + blankN (l.drop (p + t.length)))).2) := by rw [lexW_step f l p h, hn]
theorem refWords_any (l : List Nat) (w : World) (hl : ∀ x ∈ l, x < 256) (hlen : l.length ≤ 4000) :
  Calls Tryz.prog 26 #[.string (strOf l)] w fun e w' => Grow w w' ∧ ((∃ p : Nat, (lexAll l).2 = some p ∧ e = .returned (.tuple #[.slice none 0 0, .int .i64 (p : Int)])) ∨
   ((lexAll l).2 = none ∧ ∃ v, e = .returned (.tuple #[v, .int .i64 (-1)]) ∧ Own w' w.heap.size 109 4 v (lexAll l).1.length (wdCells (lexAll l).1))) := by
 have bel := Below.refl w.heap.size w
 refine Zs 161 Tryz.func26 ?_
 refine Zsr ?_
 refine Za ?_
 refine Za ?_
 refine Zk3 0 2 3 (Ztq ?_)
 refine Za ?_
 refine Zk4 0 2 3 4 (Ztq ?_)
 refine Za ?_
 refine Zk5 0 2 3 4 5 (Zts (Cd.block ?_))
 have own : OwnA w w.heap.size 109 4 (.slice none 0 0) 0 [] := ⟨Own.nil _ _ _ _⟩
 refine Cd.loop (σ := Nat × Value × List Wd) (fun s => [(0, .string (strOf l)), (4, s.2.1), (5, .int .i64 (s.1 : Int))])
  (fun s wr => s.1 ≤ l.length ∧ s.2.2.length ≤ s.1 ∧ (∃ f, l.length + 1 ≤ f + s.1 ∧ lexAll l = (s.2.2 ++ (lexW f l (s.1 + blankN (l.drop s.1))).1, (lexW f l (s.1 + blankN (l.drop s.1))).2)) ∧ Below w.heap.size w wr ∧ OwnA wr w.heap.size 109 4 s.2.1 s.2.2.length (wdCells s.2.2)) (fun s => l.length - s.1) (0, .slice none 0 0, [])
  ⟨Nat.zero_le _, by simp, ⟨l.length + 1, by dsimp only; omega, by dsimp only; rw [Nat.zero_add]; rfl⟩, bel, own⟩ ⟨rfl, rfl, rfl, trivial⟩ ?_
 clear bel
 clear own
 rintro ⟨p, v, ws⟩ wr ⟨hp, hwp, ⟨f, hf, hall⟩, bel, own⟩
 dsimp only at hp hwp hf hall own ⊢
 refine Cd.seq (Zsr ?_)
 refine Zm ?_
 refine Zm ?_
 refine Zv (Runs.lenL rfl rfl Tryz.underlying9) ?_
 refine Zv (Runs.lss rfl rfl rfl) ?_
 refine Zk4 0 4 5 14 (Zt ?_)
 refine Cd.condD rfl (fun hc => ?_) (fun hc => ?_)
 ·obtain ⟨c, hcc⟩ : ∃ c, l[p]? = some c := ⟨_, List.getElem?_eq_getElem (show p < l.length by omega)⟩
  have hc256 := hl c (List.mem_of_getElem? hcc)
  refine Cd.skip (Zt (Cd.block (Zsr ?_)))
  refine Zm ?_
  refine Zm ?_
  refine Zv (Runs.indexL (l := l) (j := p) rfl rfl rfl Tryz.underlying9 rfl hcc hc256) ?_
  refine Za ?_
  refine Zk5 0 4 5 6 14 (Zts (Zsr ?_))
  refine Zm ?_
  refine Zv (Runs.eqlI rfl rfl rfl) ?_
  refine Zm ?_
  refine SeqC.start ?_
  refine Zco (fun hcx => Runs.move rfl rfl) ?_
  refine SeqC.next rfl rfl rfl rfl rfl rfl rfl (fun hcx => Runs.eqlI rfl rfl rfl) ?_
  refine SeqC.or rfl rfl rfl rfl rfl rfl rfl ?_
  refine Zm ?_
  refine SeqC.start ?_
  refine Zco (fun hcx => Runs.move rfl rfl) ?_
  refine SeqC.next rfl rfl rfl rfl rfl rfl rfl (fun hcx => Runs.eqlI rfl rfl rfl) ?_
  refine SeqC.or rfl rfl rfl rfl rfl rfl rfl ?_
  refine Zk6 0 4 5 6 14 27 (Zt ?_)
  refine Cd.cond rfl (fun h => ?_) (fun h => ?_)
  ·have hbb : blankB c = true := by unfold blankB; simp at h ⊢; omega
   rw [blank_one hcc hbb] at hall
   refine Zsr ?_
   refine Zm ?_
   refine Za_ ?_
   refine Za ?_
   refine Zk6 0 4 5 6 14 27 (Zt (Cd.exit (Post.then_exit (Post.block_exit ?_))))
   exact Post.round (p + 1, v, ws) ⟨rfl, rfl, rfl, trivial⟩ ⟨by dsimp only; omega, by dsimp only; omega, ⟨f, by dsimp only; omega, hall⟩, bel, own⟩ (by dsimp only; omega)
  have hbb : blankB c = false := by unfold blankB; simp at h ⊢; omega
  clear h
  refine Cd.skip (Zts (Zsr ?_))
  refine Zm ?_
  refine Zv (Runs.eqlI rfl rfl rfl) ?_
  refine Zk7 0 4 5 6 14 27 31 (Zt ?_)
  refine Cd.condD rfl (fun hc => ?_) (fun hc => ?_)
  ·obtain rfl : c = 35 := by omega
   have hrl := runN_le noteB (l.drop p)
   rw [List.length_drop] at hrl
   have hr0 : 0 < runN noteB (l.drop p) := by rw [dropAt hcc, runN_cons, if_pos (by decide)]; omega
   rw [blank_rem hcc] at hall
   refine Cd.seq (Cd.block ?_)
   refine Cd.loop (σ := Nat) (fun j => [(0, .string (strOf l)), (4, v), (5, .int .i64 ((p + j : Nat) : Int))])
    (fun j wr => j ≤ runN noteB (l.drop p) ∧ Below w.heap.size w wr ∧ OwnA wr w.heap.size 109 4 v ws.length (wdCells ws)) (fun j => l.length - j) 0 ⟨Nat.zero_le _, bel, own⟩ ⟨rfl, rfl, rfl, trivial⟩ ?_
   clear bel own
   rintro j wr2 ⟨hj, bel, own⟩
   have hcj : p + j < l.length → ∃ d, l[p + j]? = some d ∧ d < 256 ∧ (noteB d = true ↔ j < runN noteB (l.drop p)) := fun h => by
    have hd : l[p + j]? = some l[p + j] := List.getElem?_eq_getElem h
    exact ⟨_, hd, hl _ (List.getElem_mem h), runN_upto noteB (l.drop p) j hj _ (by rw [List.getElem?_drop]; exact hd)⟩
   generalize runN noteB (l.drop p) = R at *
   have hcd : ∃ d, (p + j < l.length → l[p + j]? = some d) ∧ d < 256 ∧ (p + j < l.length → (d ≠ 10 ↔ j < R)) := by
    rcases Nat.lt_or_ge (p + j) l.length with h | h
    ·obtain ⟨d, h1, h2, h3⟩ := hcj h
     exact ⟨d, fun _ => h1, h2, fun _ => by rw [← h3]; unfold noteB; simp⟩
    ·exact ⟨0, fun h2 => absurd h2 (by omega), by omega, fun h2 => absurd h2 (by omega)⟩
   obtain ⟨d, hd1, hd2, hd3⟩ := hcd
   clear hcj
   refine Cd.seq (Zsr ?_)
   refine Zm ?_
   refine Zm ?_
   refine Zv (Runs.lenL rfl rfl Tryz.underlying9) ?_
   refine Zv (Runs.lss rfl rfl rfl) ?_
   refine Zm ?_
   refine SeqC.start ?_
   refine Zco (fun hcx => Runs.move rfl rfl) ?_
   refine SeqC.next rfl rfl rfl rfl rfl rfl rfl (fun hcx => Runs.move rfl rfl) ?_
   refine SeqC.next rfl rfl rfl rfl rfl rfl rfl (fun hcx => Runs.indexL (l := l) (j := p + j) (c := d) rfl rfl rfl Tryz.underlying9 rfl (hd1 (by simp at hcx; omega)) hd2) ?_
   refine SeqC.next rfl rfl rfl rfl rfl rfl rfl (fun hcx => Runs.neqI rfl rfl rfl) ?_
   refine SeqC.and rfl rfl rfl rfl rfl rfl rfl ?_
   refine Zk4 0 4 5 41 (Zt ?_)
   refine Cd.cond rfl (fun h => ?_) (fun h => ?_)
   ·have hlt : p + j < l.length ∧ j < R := by
     simp at h
     have := hd3 (by omega)
     exact ⟨by omega, this.1 (by omega)⟩
    refine Cd.skip (Zt (Cd.block (Zr ?_)))
    refine Zm ?_
    refine Za_ ?_
    refine Za ?_
    refine Zk4 0 4 5 41 (Post.block_normal ?_)
    exact Post.round (j + 1) ⟨rfl, rfl, congrArg (fun x : Int => some (Value.int .i64 x)) (show ((p + j : Nat) : Int) + 1 = ((p + (j + 1) : Nat) : Int) by omega), trivial⟩ ⟨by omega, bel, own⟩ (by omega)
   ·obtain rfl : j = R := by
     simp at h
     rcases Nat.lt_or_ge (p + j) l.length with h2 | h2
     ·have := hd3 h2
      rcases Nat.lt_or_ge j R with h3 | h3
      ·have := this.2 h3
       omega
      ·omega
     ·omega
    refine Cd.exit (Post.then_exit (Post.round_exit (Post.block_exit (Zt (Cd.exit (Post.then_exit (Post.block_exit ?_)))))))
    exact Post.round (p + j, v, ws) ⟨rfl, rfl, rfl, trivial⟩ ⟨by dsimp only; omega, by dsimp only; omega, ⟨f, by dsimp only; omega, hall⟩, bel, own⟩ (by dsimp only; omega)
  have hbn := blank_no hcc hbb (by omega)
  rw [hbn, Nat.add_zero] at hall
  have hdrop := dropAt hcc
  have hdn : (l.drop p).length = l.length - p := List.length_drop
  have hdl := drop_lt hl p
  have hD : (l.take (p + 10)).drop p = (l.drop p).take 10 := by rw [List.drop_take, Nat.add_sub_cancel_left]
  have hDl := take_lt hdl 10
  have hDn : ((l.drop p).take 10).length ≤ 9223372036854775807 := by rw [List.length_take]; omega
  have hz0 : dateOk ((l.drop p).take 10) = true → 0 ≤ dateZ ((l.drop p).take 10) ∧ dateZ ((l.drop p).take 10) ≤ 2932896 := fun h => by
   have h2 := h
   unfold dateOk at h2
   simp only [Bool.and_eq_true] at h2
   have h3 := of_span h2.2
   unfold dateZ
   rw [if_pos h]
   exact ⟨h3.2.2.2.2.2.2.2.2.1, h3.2.2.2.2.2.2.2.2.2⟩
  have hday : dayOk (l.drop p) = (decide (10 ≤ l.length - p) && !(decide (10 < l.length - p) && partB ((l.drop p).getD 10 0)) && dateOk ((l.drop p).take 10)) := by unfold dayOk; rw [hdn]
  have h10 : p + 10 < l.length → l[p + 10]? = some ((l.drop p).getD 10 0) := fun h => by
   rw [List.getD_eq_getElem?_getD, List.getElem?_drop, List.getElem?_eq_getElem h]; rfl
  have h10b : (l.drop p).getD 10 0 < 256 := by
   rcases Nat.lt_or_ge 10 (l.drop p).length with h | h
   ·rw [List.getD_eq_getElem?_getD, List.getElem?_eq_getElem h]; exact hdl _ (List.getElem_mem h)
   ·rw [List.getD_eq_getElem?_getD, List.getElem?_eq_none h]; simp
  have hnx : nextW (l.drop p) = if digB c then (if dayOk (l.drop p) then some (2, (l.drop p).take 10, dateZ ((l.drop p).take 10)) else (amt0 ((l.drop p).take (runN partB (l.drop p)))).map fun v => (1, (l.drop p).take (runN partB (l.drop p)), v))
   else if letB c then (if runN partB (l.drop p) ≤ 16 then some (3, (l.drop p).take (runN partB (l.drop p)), 0) else none)
   else (signW (l.drop p)).map fun s => (0, s, 0) := by rw [hdrop]; rfl
  have hdd : dayOk (l.drop p) = true → digB c = true := fun h => by rw [hdrop] at h; exact day_dig _ _ h
  generalize (l.drop p).getD 10 0 = c10 at *
  obtain ⟨f', rfl⟩ : ∃ f', f = f' + 1 := ⟨f - 1, by omega⟩
  have hstep := lexW_step f' l p (by omega)
  have hDlen : 10 ≤ l.length - p → ((l.drop p).take 10).length = 10 := fun h => by rw [List.length_take]; omega
  refine Cd.skip (Zts (Zsr ?_))
  refine Zm ?_
  refine Zv (Runs.lenL rfl rfl Tryz.underlying9) ?_
  refine Zm ?_
  refine Zv (Runs.subI rfl rfl rfl (by omega) (by omega)) ?_
  refine Zv (Runs.geq rfl rfl rfl) ?_
  refine Zm ?_
  refine SeqC.start ?_
  refine Zco (fun hcx => Runs.move rfl rfl) ?_
  refine SeqC.next rfl rfl rfl rfl rfl rfl rfl (fun hcx => Runs.move rfl rfl) ?_
  refine SeqC.next rfl rfl rfl rfl rfl rfl rfl (fun hcx => Runs.move rfl rfl) ?_
  refine SeqC.next rfl rfl rfl rfl rfl rfl rfl (fun hcx => Runs.addI rfl rfl rfl (by omega) (by omega)) ?_
  refine SeqC.next rfl rfl rfl rfl rfl rfl rfl (fun hcx => Runs.sliceAtL (i := p) (j := p + 10) rfl rfl rfl rfl Tryz.underlying9 rfl (by omega) (by omega) (by simp at hcx; omega)) ?_
  rw [hD]
  refine SeqC.nextC rfl rfl rfl rfl rfl rfl rfl (fun hcx => Ze Tryz.func60) (fun hcx => refDayParse_any ((l.drop p).take 10) _ hDl hDn) ?_
  intro w1 hw1
  replace bel := bel.step hw1
  replace own := own.step hw1
  refine SeqC.next rfl rfl rfl rfl rfl rfl rfl (fun hcx => Runs.geq rfl rfl rfl) ?_
  refine SeqC.and rfl rfl rfl rfl rfl rfl rfl ?_
  refine Zm ?_
  refine SeqC.start ?_
  refine Zco (fun hcx => Runs.move rfl rfl) ?_
  refine SeqC.next rfl rfl rfl rfl rfl rfl rfl (fun hcx => Runs.lenL rfl rfl Tryz.underlying9) ?_
  refine SeqC.next rfl rfl rfl rfl rfl rfl rfl (fun hcx => Runs.move rfl rfl) ?_
  refine SeqC.next rfl rfl rfl rfl rfl rfl rfl (fun hcx => Runs.subI rfl rfl rfl (by omega) (by omega)) ?_
  refine SeqC.next rfl rfl rfl rfl rfl rfl rfl (fun hcx => Runs.eqlI rfl rfl rfl) ?_
  refine SeqC.next rfl rfl rfl rfl rfl rfl rfl (fun hcx => Runs.move rfl rfl) ?_
  refine Zco (fun hcx => Runs.move rfl rfl) ?_
  refine SeqC.next rfl rfl rfl rfl rfl rfl rfl (fun hcx => Runs.move rfl rfl) ?_
  refine SeqC.next rfl rfl rfl rfl rfl rfl rfl (fun hcx => Runs.addI rfl rfl rfl (by omega) (by omega)) ?_
  refine SeqC.next rfl rfl rfl rfl rfl rfl rfl (fun hcx => Runs.indexL (l := l) (j := p + 10) (c := c10) rfl rfl rfl Tryz.underlying9 rfl (h10 (by simp [topX] at hcx; omega)) h10b) ?_
  refine SeqC.nextC rfl rfl rfl rfl rfl rfl rfl (fun hcx => Ze Tryz.func61) (fun hcx => refPart_any c10 _) ?_
  intro w2 hw2
  replace bel := bel.step hw2
  replace own := own.step hw2
  refine SeqC.next rfl rfl rfl rfl rfl rfl rfl (fun hcx => Runs.not rfl rfl) ?_
  refine SeqC.orG rfl rfl rfl rfl rfl rfl rfl rfl rfl rfl rfl ?_
  refine SeqC.and rfl rfl rfl rfl rfl rfl rfl ?_
  refine Zk8 0 4 5 6 14 27 31 72 (Zt ?_)
  refine Cd.cond rfl (fun h => ?_) (fun h => ?_)
  ·have hyes : dayOk (l.drop p) = true := by
    cases hdo : dateOk ((l.drop p).take 10) <;> cases hpo : partB c10 <;> rw [hdo, hpo] at h <;> rw [hday, hdo, hpo] <;> simp at h ⊢ <;> omega
   have hdo : dateOk ((l.drop p).take 10) = true := by rw [hday] at hyes; simp at hyes; exact hyes.2
   have h10p : 10 ≤ l.length - p := by rw [hday] at hyes; simp at hyes; omega
   have hlT := hDlen h10p
   rw [hnx, hdd hyes, if_pos rfl, if_pos hyes] at hstep
   clear h hnx hdd
   generalize hT : (l.drop p).take 10 = T at *
   refine Cd.seq ?_
   refine Cd.draw 14 (by kernel_rfl) [0] (.inr (fun _ _ d _ _ h => by cases d <;> exact h)) rfl Grow Grow.refl (fun _ _ _ => Grow.trans) ?_
   intro w3 hw3 zw3
   replace bel := bel.step hw3
   replace own := own.step hw3
   have zbel := bel.size
   refine Dr.late rfl rfl (fun w => Runs.move rfl rfl) Grow.refl rfl ?_
   refine Zdm ?_
   refine Zdm ?_
   refine Zdm ?_
   refine Zd (fun w hG => Runs.addI rfl rfl rfl (by omega) (by omega)) ?_
   refine Zd (fun w hG => Runs.sliceAtL (i := p) (j := p + 10) rfl rfl rfl rfl Tryz.underlying9 rfl (by omega) (by omega) (by omega)) ?_
   refine Zdm ?_
   refine Zdm ?_
   refine Zdm ?_
   refine Zd (fun w hG => Runs.addI rfl rfl rfl (by omega) (by omega)) ?_
   refine Zd (fun w hG => Runs.sliceAtL (i := p) (j := p + 10) rfl rfl rfl rfl Tryz.underlying9 rfl (by omega) (by omega) (by omega)) ?_
   rw [hD]
   refine Dr.callV rfl (fun w => Ze Tryz.func60) rfl (fun w hG => refDayParse_any T _ hDl hDn) ?_
   refine Zdm ?_
   rw [hdo, if_pos rfl]
   refine Zd (fun w hG => Runs.build rfl rfl (run_build_RWord _ _ _ _ _)) ?_
   refine Dr.nil ?_
   refine FinX.done (F' := [(0, _), (4, _), (5, _), (6, _), (14, _), (27, _), (31, _), (72, _), (73, _), (86, _)]) rfl ⟨rfl, rfl, rfl, rfl, rfl, rfl, rfl, rfl, rfl, rfl, trivial⟩ ?_
   intro w4 hw4 fw4
   replace bel := bel.step hw4
   replace own := own.step hw4
   refine Seq.slice (vs := [_]) (s := 4) rfl rfl rfl Tryz.underlying64 (by kernel_rfl) (zero_debentureref17_Word) (by omega) (by omega) ⟨rfl, trivial⟩ rfl rfl rfl ?_
   intro g87 w5 n87
   have e87 := Nat.le_trans bel.size n87.ge
   replace bel := bel.step n87.below
   replace own := own.step n87.below
   have k87 := n87.blk
   replace own := own.own
   refine Seq.append rfl rfl rfl Tryz.underlying64 (by kernel_rfl) zero_debentureref17_Word rfl (by decide) (b := 40) (by kernel_rfl) own (Reads.blk (size := 4) k87 1 rfl) (by intro x hx; simp [flatC, Value.cells] at hx; rcases hx with rfl | rfl | rfl | rfl <;> rfl) bel.size (by simp only [maxLen]; omega) (by omega) rfl rfl rfl ?_
   clear own
   intro vw6 w6 own haw6
   replace bel := bel.trans haw6.below
   replace own : OwnA w6 w.heap.size 109 4 vw6 (ws ++ [(⟨2, T, dateZ T, p⟩ : Wd)]).length (wdCells (ws ++ [⟨2, T, dateZ T, p⟩])) := ⟨by rw [List.length_append, wdCells_snoc]; exact own⟩
   rw [hstep] at hall
   dsimp only at hall
   rw [hlT] at hall
   refine Za ?_
   refine Zk8 0 4 5 6 14 27 31 72 (Ztq ?_)
   refine Zm ?_
   refine Za_ ?_
   refine Za ?_
   refine Zk8 0 4 5 6 14 27 31 72 (Zt (Cd.exit (Post.then_exit (Post.block_exit ?_))))
   refine Post.round (p + 10, vw6, ws ++ [⟨2, T, dateZ T, p⟩]) ⟨rfl, rfl, rfl, trivial⟩ ⟨by dsimp only; omega, by dsimp only; rw [List.length_append]; simp; omega, ⟨f', by dsimp only; omega, ?_⟩, bel, own⟩ (by dsimp only; omega)
   dsimp only
   rw [hall, List.append_assoc]
   rfl
  have hno : dayOk (l.drop p) = false := by
   rw [hday]
   cases hdo : dateOk ((l.drop p).take 10) <;> cases hpo : partB c10 <;> rw [hdo, hpo] at h <;> simp at h ⊢ <;> first | (have := (hz0 hdo).1; omega) | omega
  rw [hno] at hnx
  clear h hdd hD hDl hDn hz0 hday h10 h10b hDlen hno
  have hrl := runN_le partB (l.drop p)
  rw [hdn] at hrl
  have hrn := runN_upto partB (l.drop p)
  have hpos : partB c = true → 0 < runN partB (l.drop p) := fun h => by rw [hdrop, runN_cons, if_pos h]; omega
  have hnm : letB c = true → namedB ((l.drop p).take (runN partB (l.drop p))) = decide (runN partB (l.drop p) ≤ 16) := fun h => by rw [hdrop]; exact named_run c _ h
  generalize hR : runN partB (l.drop p) = R at *
  refine Cd.skip (Ztq ?_)
  refine Zm ?_
  refine Za ?_
  refine Zk9 0 4 5 6 7 14 27 31 72 (Zts (Cd.block ?_))
  refine Cd.loop (σ := Nat) (fun j => [(0, .string (strOf l)), (4, v), (5, .int .i64 (p : Int)), (6, .int .u8 (c : Int)), (7, .int .i64 ((p + j : Nat) : Int))])
   (fun j wr => j ≤ R ∧ Below w.heap.size w wr ∧ OwnA wr w.heap.size 109 4 v ws.length (wdCells ws)) (fun j => l.length - j) 0 ⟨Nat.zero_le _, bel, own⟩ ⟨rfl, rfl, rfl, rfl, rfl, trivial⟩ ?_
  clear bel own
  rintro j wr2 ⟨hj, bel, own⟩
  have hcd : ∃ d, (p + j < l.length → l[p + j]? = some d) ∧ d < 256 ∧ (p + j < l.length → (partB d = true ↔ j < R)) := by
   rcases Nat.lt_or_ge (p + j) l.length with h | h
   ·have hd : l[p + j]? = some l[p + j] := List.getElem?_eq_getElem h
    exact ⟨_, fun _ => hd, hl _ (List.getElem_mem h), fun _ => hrn j hj _ (by rw [List.getElem?_drop]; exact hd)⟩
   ·exact ⟨0, fun h2 => absurd h2 (by omega), by omega, fun h2 => absurd h2 (by omega)⟩
  obtain ⟨d, hd1, hd2, hd3⟩ := hcd
  refine Cd.seq (Zsr ?_)
  refine Zm ?_
  refine Zm ?_
  refine Zv (Runs.lenL rfl rfl Tryz.underlying9) ?_
  refine Zv (Runs.lss rfl rfl rfl) ?_
  refine Zm ?_
  refine SeqC.start ?_
  refine Zco (fun hcx => Runs.move rfl rfl) ?_
  refine SeqC.next rfl rfl rfl rfl rfl rfl rfl (fun hcx => Runs.move rfl rfl) ?_
  refine SeqC.next rfl rfl rfl rfl rfl rfl rfl (fun hcx => Runs.indexL (l := l) (j := p + j) (c := d) rfl rfl rfl Tryz.underlying9 rfl (hd1 (by simp at hcx; omega)) hd2) ?_
  refine SeqC.nextC rfl rfl rfl rfl rfl rfl rfl (fun hcx => Ze Tryz.func61) (fun hcx => refPart_any d _) ?_
  intro w3 hw3
  replace bel := bel.step hw3
  replace own := own.step hw3
  refine SeqC.and rfl rfl rfl rfl rfl rfl rfl ?_
  refine Zk6 0 4 5 6 7 101 (Zt ?_)
  refine Cd.cond rfl (fun h => ?_) (fun h => ?_)
  ·have hlt : p + j < l.length ∧ j < R := by
    simp at h
    exact ⟨by omega, (hd3 (by omega)).1 h.2⟩
   refine Cd.skip (Zt (Cd.block (Zr ?_)))
   refine Zm ?_
   refine Za_ ?_
   refine Za ?_
   refine Zk6 0 4 5 6 7 101 (Post.block_normal ?_)
   exact Post.round (j + 1) ⟨rfl, rfl, rfl, rfl, congrArg (fun x : Int => some (Value.int .i64 x)) (show ((p + j : Nat) : Int) + 1 = ((p + (j + 1) : Nat) : Int) by omega), trivial⟩ ⟨by omega, bel, own⟩ (by omega)
  obtain rfl : j = R := by
   simp at h
   rcases Nat.lt_or_ge (p + j) l.length with h2 | h2
   ·have h4 := hd3 h2
    rcases Nat.lt_or_ge j R with h3 | h3
    ·have h5 := h4.2 h3
     rw [h (by omega)] at h5
     cases h5
    ·omega
   ·omega
  clear h hd1 hd2 hd3 hrn
  have hT : (l.take (p + j)).drop p = (l.drop p).take j := by rw [List.drop_take, Nat.add_sub_cancel_left]
  have hTl := take_lt hdl j
  have hTn : ((l.drop p).take j).length = j := by rw [List.length_take]; omega
  refine Cd.exit (Post.then_exit (Post.round_exit (Post.block_exit (Ztq ?_))))
  refine Zm ?_
  refine Zm ?_
  refine Zm ?_
  refine Zv (Runs.sliceAtL (i := p) (j := p + j) rfl rfl rfl rfl Tryz.underlying9 rfl (by omega) (by omega) (by omega)) ?_
  rw [hT]
  have hTc : 0 < j → ∃ r, (l.drop p).take j = c :: r := fun h => by
   obtain ⟨m, rfl⟩ : ∃ m, j = m + 1 := ⟨j - 1, by omega⟩
   exact ⟨_, by rw [hdrop]; rfl⟩
  generalize (l.drop p).take j = T at *
  refine Za ?_
  refine Zk7 0 4 5 6 7 8 101 (Zts (Cd.block (Zsr ?_)))
  refine Zm ?_
  refine Zv (Runs.geq rfl rfl rfl) ?_
  refine Zm ?_
  refine SeqC.start ?_
  refine Zco (fun hcx => Runs.move rfl rfl) ?_
  refine SeqC.next rfl rfl rfl rfl rfl rfl rfl (fun hcx => Runs.leq rfl rfl rfl) ?_
  refine SeqC.and rfl rfl rfl rfl rfl rfl rfl ?_
  refine Za ?_
  refine Zk8 0 4 5 6 7 8 101 121 (Zt ?_)
  refine Cd.cond rfl (fun h => ?_) (fun h => ?_)
  ·have hdg : digB c = true := by unfold digB; simp at h ⊢; omega
   have hj0 := hpos (by unfold partB; rw [hdg]; simp)
   obtain ⟨r, hr⟩ := hTc hj0
   rw [if_pos hdg, if_neg (by simp)] at hnx
   clear h
   refine Zsr ?_
   refine Zm ?_
   refine Zc (Ze Tryz.func62) (refAmount_any T 0 _ hTl ⟨by omega, by omega⟩) ?_
   rintro e w7 ⟨x, ok, rfl, hamt, hb7⟩
   refine ⟨_, rfl, ?_⟩
   rw [amt0_of hamt c r hr hdg] at hnx
   replace bel := bel.step hb7
   replace own := own.step hb7
   refine Zm ?_
   refine Zv (Runs.extract rfl rfl rfl) ?_
   refine Zv (Runs.extract rfl rfl rfl) ?_
   refine Za ?_
   refine Za ?_
   refine Zk10 0 4 5 6 7 8 9 10 101 121 (Zts (Zsr ?_))
   refine Zm ?_
   refine Zv (Runs.not rfl rfl) ?_
   refine Zk11 0 4 5 6 7 8 9 10 101 121 134 (Zt ?_)
   refine Cd.cond rfl (fun h => ?_) (fun h => ?_)
   ·obtain rfl : ok = false := by cases ok <;> simp at h ⊢
    rw [lexW_none (by omega) hnx] at hall
    refine Zsr ?_
    refine Zm ?_
    refine Za ?_
    refine Za ?_
    refine Zk13 0 2 3 4 5 6 7 8 9 10 101 121 134 (Zt (Cd.ret (Post.then_ret (Post.block_ret (Post.then_ret (Post.block_ret (Post.round_ret (Post.block_ret (Post.then_ret ?_)))))))))
    refine Post.end2 rfl rfl rfl (.inl rfl) ?_
    exact ⟨bel, .inl ⟨p, by rw [hall], rfl⟩⟩
   ·obtain rfl : ok = true := by cases ok <;> simp at h ⊢
    rw [lexW_some (by omega) (show nextW (l.drop p) = some (1, T, x) from hnx), hTn] at hall
    refine Cd.skip (Ztr ?_)
    refine Zm ?_
    refine Zm ?_
    refine Zm ?_
    refine Zm ?_
    refine Zv (Runs.build rfl rfl (run_build_RWord _ _ _ _ _)) ?_
    refine Seq.slice (vs := [_]) (s := 4) rfl rfl rfl Tryz.underlying64 (by kernel_rfl) (zero_debentureref17_Word) (by omega) (by omega) ⟨rfl, trivial⟩ rfl rfl rfl ?_
    intro g141 w4 n141
    have e141 := Nat.le_trans bel.size n141.ge
    replace bel := bel.step n141.below
    replace own := own.step n141.below
    have k141 := n141.blk
    replace own := own.own
    refine Seq.append rfl rfl rfl Tryz.underlying64 (by kernel_rfl) zero_debentureref17_Word rfl (by decide) (b := 40) (by kernel_rfl) own (Reads.blk (size := 4) k141 1 rfl) (by intro x hx; simp [flatC, Value.cells] at hx; rcases hx with rfl | rfl | rfl | rfl <;> rfl) bel.size (by simp only [maxLen]; omega) (by omega) rfl rfl rfl ?_
    clear own
    intro vw5 w5 own haw5
    replace bel := bel.trans haw5.below
    replace own : OwnA w5 w.heap.size 109 4 vw5 (ws ++ [(⟨1, T, x, p⟩ : Wd)]).length (wdCells (ws ++ [⟨1, T, x, p⟩])) := ⟨by rw [List.length_append, wdCells_snoc]; exact own⟩
    refine Za ?_
    refine Zk11 0 4 5 6 7 8 9 10 101 121 134 (Post.block_normal (Ztr ?_))
    refine Zm ?_
    refine Zm ?_
    refine Zv (Runs.lenL rfl rfl Tryz.underlying9) ?_
    refine Za_ ?_
    refine Za ?_
    refine Zk11 0 4 5 6 7 8 9 10 101 121 134 (Post.block_normal ?_)
    refine Post.round (p + j, vw5, ws ++ [⟨1, T, x, p⟩]) ⟨rfl, rfl, congrArg (fun x : Int => some (Value.int .i64 x)) (by omega), trivial⟩ ⟨by dsimp only; omega, by dsimp only; rw [List.length_append]; simp; omega, ⟨f', by dsimp only; omega, ?_⟩, bel, own⟩ (by dsimp only; omega)
    dsimp only
    rw [hall, List.append_assoc]
    rfl
  have hdg : digB c = false := by unfold digB; simp at h ⊢; omega
  rw [if_neg (by rw [hdg]; simp)] at hnx
  clear h
  refine Zsr ?_
  refine Zm ?_
  refine Zc (Ze Tryz.func63) (refLetter_any c _) ?_
  rintro e w7 ⟨rfl, hb7⟩
  refine ⟨_, rfl, ?_⟩
  replace bel := bel.step hb7
  replace own := own.step hb7
  refine Za ?_
  refine Zk9 0 4 5 6 7 8 101 121 143 (Zt ?_)
  refine Cd.cond rfl (fun hlt => ?_) (fun hlt => ?_)
  ·have hj0 := hpos (by unfold partB; rw [hlt]; simp)
   rw [if_pos hlt] at hnx
   have hnm := hnm hlt
   refine Cd.seq (Zsr ?_)
   refine Zm ?_
   refine Zc (Ze Tryz.func64) (refNamed_any T _ hTl (by omega)) ?_
   rintro e w8 ⟨rfl, hb8⟩
   refine ⟨_, rfl, ?_⟩
   rw [hnm]
   replace bel := bel.step hb8
   replace own := own.step hb8
   refine Zv (Runs.not rfl rfl) ?_
   refine Zk10 0 4 5 6 7 8 101 121 143 148 (Zt ?_)
   refine Cd.cond rfl (fun h => ?_) (fun h => ?_)
   ·rw [if_neg (by simp at h; omega)] at hnx
    rw [lexW_none (by omega) hnx] at hall
    refine Zsr ?_
    refine Zm ?_
    refine Za ?_
    refine Za ?_
    refine Zk12 0 2 3 4 5 6 7 8 101 121 143 148 (Zt (Cd.ret (Post.then_ret (Post.block_ret (Post.then_ret (Post.block_ret (Post.round_ret (Post.block_ret (Post.then_ret ?_)))))))))
    refine Post.end2 rfl rfl rfl (.inl rfl) ?_
    exact ⟨bel, .inl ⟨p, by rw [hall], rfl⟩⟩
   ·rw [if_pos (by simp at h; omega)] at hnx
    rw [lexW_some (by omega) hnx, hTn] at hall
    refine Cd.skip (Ztr ?_)
    refine Zm ?_
    refine Zm ?_
    refine Zm ?_
    refine Zv (Runs.build rfl rfl (run_build_RWord _ _ _ _ _)) ?_
    refine Seq.slice (vs := [_]) (s := 4) rfl rfl rfl Tryz.underlying64 (by kernel_rfl) (zero_debentureref17_Word) (by omega) (by omega) ⟨rfl, trivial⟩ rfl rfl rfl ?_
    intro g154 w4 n154
    have e154 := Nat.le_trans bel.size n154.ge
    replace bel := bel.step n154.below
    replace own := own.step n154.below
    have k154 := n154.blk
    replace own := own.own
    refine Seq.append rfl rfl rfl Tryz.underlying64 (by kernel_rfl) zero_debentureref17_Word rfl (by decide) (b := 40) (by kernel_rfl) own (Reads.blk (size := 4) k154 1 rfl) (by intro x hx; simp [flatC, Value.cells] at hx; rcases hx with rfl | rfl | rfl | rfl <;> rfl) bel.size (by simp only [maxLen]; omega) (by omega) rfl rfl rfl ?_
    clear own
    intro vw5 w5 own haw5
    replace bel := bel.trans haw5.below
    replace own : OwnA w5 w.heap.size 109 4 vw5 (ws ++ [(⟨3, T, 0, p⟩ : Wd)]).length (wdCells (ws ++ [⟨3, T, 0, p⟩])) := ⟨by rw [List.length_append, wdCells_snoc]; exact own⟩
    refine Za ?_
    refine Zk10 0 4 5 6 7 8 101 121 143 148 (Post.block_normal (Ztr ?_))
    refine Zm ?_
    refine Zm ?_
    refine Zv (Runs.lenL rfl rfl Tryz.underlying9) ?_
    refine Za_ ?_
    refine Za ?_
    refine Zk10 0 4 5 6 7 8 101 121 143 148 (Post.block_normal ?_)
    refine Post.round (p + j, vw5, ws ++ [⟨3, T, 0, p⟩]) ⟨rfl, rfl, congrArg (fun x : Int => some (Value.int .i64 x)) (by omega), trivial⟩ ⟨by dsimp only; omega, by dsimp only; rw [List.length_append]; simp; omega, ⟨f', by dsimp only; omega, ?_⟩, bel, own⟩ (by dsimp only; omega)
    dsimp only
    rw [hall, List.append_assoc]
    rfl
  rw [if_neg (by rw [hlt]; simp)] at hnx
  have hslt : ∀ x ∈ (signW (l.drop p)).getD [], x < 256 := by
   cases hs : signW (l.drop p) with
   | none => simp
   | some s => exact signs_lt s (List.mem_of_find?_eq_some hs)
  have hsp : ∀ s, signW (l.drop p) = some s → 0 < s.length ∧ p + s.length ≤ l.length := fun s hs => by
   rw [hs] at hnx
   have := nextW_spec (show nextW (l.drop p) = some (0, s, 0) from hnx)
   omega
  refine Zsr ?_
  refine Zm ?_
  refine Zm ?_
  refine Zv (Runs.sliceFrom (j := p) rfl rfl rfl Tryz.underlying9 rfl hp) ?_
  refine Zc (Ze Tryz.func65) (refSign_any (l.drop p) _ hdl (by omega)) ?_
  rintro e w8 ⟨rfl, hb8⟩
  refine ⟨_, rfl, ?_⟩
  replace bel := bel.step hb8
  replace own := own.step hb8
  refine Za ?_
  refine Zk9 0 4 5 6 7 8 101 121 143 (Zts (Zsr ?_))
  refine Zm ?_
  refine Zv (Runs.eqlL (a := (signW (l.drop p)).getD []) (b := []) rfl rfl rfl hslt (by simp)) ?_
  refine Zk10 0 4 5 6 7 8 101 113 121 143 (Zt ?_)
  refine Cd.cond rfl (fun h => ?_) (fun h => ?_)
  ·have hs : signW (l.drop p) = none := by
    cases hs : signW (l.drop p) with
    | none => rfl
    | some s =>
     rw [hs] at h
     simp at h
     have := (hsp s hs).1
     rw [h] at this
     simp at this
   rw [hs] at hnx
   rw [lexW_none (by omega) hnx] at hall
   refine Zsr ?_
   refine Zm ?_
   refine Za ?_
   refine Za ?_
   refine Zk12 0 2 3 4 5 6 7 8 101 113 121 143 (Zt (Cd.ret (Post.then_ret (Post.block_ret (Post.then_ret (Post.block_ret (Post.round_ret (Post.block_ret (Post.then_ret ?_)))))))))
   refine Post.end2 rfl rfl rfl (.inl rfl) ?_
   exact ⟨bel, .inl ⟨p, by rw [hall], rfl⟩⟩
  ·obtain ⟨s, hs⟩ : ∃ s, signW (l.drop p) = some s := by
    cases hs : signW (l.drop p) with
    | none => rw [hs] at h; simp at h
    | some s => exact ⟨s, rfl⟩
   obtain ⟨hs1, hs2⟩ := hsp s hs
   rw [hs] at hnx ⊢
   rw [lexW_some (by omega) (show nextW (l.drop p) = some (0, s, 0) from hnx)] at hall
   simp only [Option.getD_some]
   refine Cd.skip (Ztr ?_)
   refine Zm ?_
   refine Zm ?_
   refine Zm ?_
   refine Zv (Runs.build rfl rfl (run_build_RWord _ _ _ _ _)) ?_
   refine Seq.slice (vs := [_]) (s := 4) rfl rfl rfl Tryz.underlying64 (by kernel_rfl) (zero_debentureref17_Word) (by omega) (by omega) ⟨rfl, trivial⟩ rfl rfl rfl ?_
   intro g119 w4 n119
   have e119 := Nat.le_trans bel.size n119.ge
   replace bel := bel.step n119.below
   replace own := own.step n119.below
   have k119 := n119.blk
   replace own := own.own
   refine Seq.append rfl rfl rfl Tryz.underlying64 (by kernel_rfl) zero_debentureref17_Word rfl (by decide) (b := 40) (by kernel_rfl) own (Reads.blk (size := 4) k119 1 rfl) (by intro x hx; simp [flatC, Value.cells] at hx; rcases hx with rfl | rfl | rfl | rfl <;> rfl) bel.size (by simp only [maxLen]; omega) (by omega) rfl rfl rfl ?_
   clear own
   intro vw5 w5 own haw5
   replace bel := bel.trans haw5.below
   replace own : OwnA w5 w.heap.size 109 4 vw5 (ws ++ [(⟨0, s, 0, p⟩ : Wd)]).length (wdCells (ws ++ [⟨0, s, 0, p⟩])) := ⟨by rw [List.length_append, wdCells_snoc]; exact own⟩
   refine Za ?_
   refine Zk10 0 4 5 6 7 8 101 113 121 143 (Post.block_normal (Ztr ?_))
   refine Zm ?_
   refine Zm ?_
   refine Zv (Runs.lenL rfl rfl Tryz.underlying9) ?_
   refine Za_ ?_
   refine Za ?_
   refine Zk10 0 4 5 6 7 8 101 113 121 143 (Post.block_normal ?_)
   refine Post.round (p + s.length, vw5, ws ++ [⟨0, s, 0, p⟩]) ⟨rfl, rfl, congrArg (fun x : Int => some (Value.int .i64 x)) (by omega), trivial⟩ ⟨by dsimp only; omega, by dsimp only; rw [List.length_append]; simp; omega, ⟨f', by dsimp only; omega, ?_⟩, bel, own⟩ (by dsimp only; omega)
   dsimp only
   rw [hall, List.append_assoc]
   rfl
 ·obtain rfl : p = l.length := by omega
  have hb0 := blankN_le (l.drop l.length)
  rw [List.length_drop] at hb0
  rw [lexW_end f l _ (by omega)] at hall
  dsimp only at hall
  rw [List.append_nil] at hall
  refine Cd.exit (Post.then_exit (Post.round_exit (Post.block_exit (Ztq ?_))))
  refine Zm ?_
  refine Za ?_
  refine Za ?_
  refine Zk6 0 2 3 4 5 14 (Zt (Cd.ret ?_))
  refine Post.end2 rfl rfl rfl (.inl rfl) ?_
  exact ⟨bel, .inr ⟨by rw [hall], v, rfl, by rw [hall]; exact own.own⟩⟩
end Go.Proofs.YtaamkfajnpobfaaGreat

namespace Go.Proofs.YtaamkfajnpobfaaGreat
open Go.RowKit

section
variable {α β : Type} {r : Rs α} {d p : Nat} {x : α} {o : Int} {dp bd : Bool}
theorem resQ_o (h : resQ r d x p o dp bd) : (d : Int) ≤ o ∧ o ≤ d + 1 := by
 unfold resQ at h
 cases r with
 | out => exact h.elim
 | bad a b => exact h.2.2.2
 | ok a b => obtain ⟨-, -, h, -⟩ := h; omega
theorem resQ_up {f : α → β} (h : resQ r (d + 1) x p o dp bd) : resQ (r.bind fun a q => .ok (f a) q) d (f x) p (o - 1) dp bd := by
 unfold resQ at h
 cases r with
 | out => exact h.elim
 | bad a b => obtain ⟨h1, h2, h3, h4, h5⟩ := h; exact ⟨h1, h2, h3, by omega, by omega⟩
 | ok a b => obtain ⟨h1, h2, h3, h4, h5⟩ := h; exact ⟨by rw [h1], h2, by omega, h4, h5⟩
theorem resQ_close {ws : List Wd} {s : List Nat} {f : α → β} (h : resQ r (d + 1) x p o dp bd) : resQ (r.bind fun a q => (signQ ws s q).bind fun _ q => .ok (f a) q) d (f x) (takeQ ws s p bd).1 (o - 1) dp (takeQ ws s p bd).2 := by
 unfold resQ at h
 cases r with
 | out => exact h.elim
 | bad a b =>
  obtain ⟨rfl, rfl, rfl, h4, h5⟩ := h
  rw [takeQ_bad]
  exact ⟨rfl, rfl, rfl, by omega, by omega⟩
 | ok a b =>
  obtain ⟨rfl, rfl, h3, rfl, rfl⟩ := h
  rw [Rs.bind_ok]
  rcases takeQ_sign (ws := ws) (s := s) (q := p) with ⟨h1, h2⟩ | ⟨h1, h2⟩
  ·rw [h1, h2]; exact ⟨rfl, rfl, by omega, rfl, rfl⟩
  ·rw [h1, h2]; exact ⟨rfl, rfl, rfl, by omega, by omega⟩
end
theorem okE_put {w W W' : World} {S : Nat → Prop} {x : Ex} {v : Value} {g : Nat} {T : TypeId} {cs : Array Value} (hr : RepE W S x v) (p : Put W W' g T cs) (hb : ∀ b, S b → w.heap.size ≤ b ∧ b < W.heap.size ∧ b ≠ g) : okE w x v W' :=
 ⟨S, hr.mono (fun _ h => h) (fun a ha => World.cell?_of_block (p.grown.block _ (hb _ ha).2.1 (fun e => by injection e with e; exact (hb _ ha).2.2 e))), fun b h => ⟨(hb b h).1, by have := (hb b h).2.1; have := p.size; omega⟩⟩
theorem RepE.leaf {W : World} {S : Nat → Prop} {op n : Int} {nm : List Nat} (hop : I64 op) (hn : I64 n) (h1 : ∀ c ∈ nm, c < 256) (h2 : nm.length ≤ 9223372036854775807) : RepE W S (.mk op n nm []) (.agg #[.int .i64 op, .int .i64 n, .string (strOf nm), .slice none 0 0]) :=
 RepE.mk (args := []) (vs := []) rfl (by simp) hop hn h1 h2 (fun i e v h => by simp at h) (fun h => absurd rfl h)
theorem RepE.one {W : World} {S : Nat → Prop} {op : Int} {x : Ex} {v : Value} {g : Nat} (hop : I64 op) (hr : RepE W S x v) (hb : Blk W g 35 (flatC [v]).toArray) : RepE W (fun b => S b ∨ b = g) (.mk op 0 [] [x]) (.agg #[.int .i64 op, .int .i64 0, .string (strOf []), .slice (some ⟨g, 0, none⟩) 1 1]) := by
 have hadd : (⟨g, 0, none⟩ : Addr).add = fun j => ⟨g, j, none⟩ := by funext j; unfold Addr.add; split <;> simp_all
 refine RepE.mk (args := [x]) (vs := [v]) rfl (by simp) hop (by unfold I64; omega) (by simp) (by simp) (fun i e u h1 h2 => ?_) (fun _ => ⟨⟨g, 0, none⟩, rfl, .inr rfl, fun j u hu => ?_⟩)
 ·match i, h1, h2 with
  | 0, h1, h2 =>
   simp at h1 h2
   subst h1 h2
   exact hr.mono (fun _ h => .inl h) (fun _ _ => rfl)
  | i + 1, h1, _ => simp at h1
 ·rw [hadd, hb.cell j]
  have hu2 : (flatC [v]).toArray[j]? = some u := by simpa using hu
  exact hu2
theorem within_one (ws : List Wd) (E0 : Nat → Nat → Rs Ex) (p d : Nat) : ((withinP ws [E0] p d).bind fun xs p => Rs.ok (xs.getD 0 (.mk 0 0 [] [])) p) = (signQ ws [40] p).bind fun _ q => (enterP q d).bind fun _ q => (E0 q (d + 1)).bind fun x q => (signQ ws [41] q).bind fun _ q => .ok x q := by
 unfold withinP
 simp only [partsP, if_pos, Rs.bind_assoc, Rs.bind_ok]
 rfl
theorem isS_iff {ws : List Wd} {p : Nat} {s : List Nat} : isS ws p s = true ↔ (wAt ws p).kind = 0 ∧ (wAt ws p).text = s := by
 unfold isS
 simp
structure RdB (K : Ctx) (w : World) : Prop where
 rd : Reads w K.B 4 K.A K.ws.length (wdCells K.ws)
 le : K.B ≤ K.g
 lt : K.B ≤ w.heap.size
theorem RdB.step {K : Ctx} {w w' : World} (h : RdB K w) (hb : Below w.heap.size w w') : RdB K w' := ⟨h.rd.below (hb.mono h.lt), h.le, Nat.le_trans h.lt hb.size⟩
theorem RdB.put {K : Ctx} {w w' : World} {g : Nat} {T : TypeId} {cur cs : Array Value} {E : Prop} (h : RdB K w) (k : Blk w g T cur) (p : Put w w' g T cs) (_e : E) (hg : K.B ≤ g := by omega) : RdB K w' := ⟨h.rd.below (p.below hg k.lt), h.le, Nat.le_trans h.lt (Nat.le_of_eq p.size.symm)⟩
theorem SW.rdb {K : Ctx} {w : World} {p : Nat} {o : Int} {dp bd : Bool} (h : SW K w p o dp bd) : RdB K w := ⟨h.rd, h.le, by have := h.blk.lt; have := h.le; omega⟩
theorem RdB.sw {K : Ctx} {w : World} (h : RdB K w) {p : Nat} {o : Int} {dp bd : Bool} (hb : Blk w K.g 69 #[.slice K.A K.ws.length K.c, .int .i64 (p : Int), .int .i64 o, .bool dp, .bool bd]) (hp : p ≤ K.ws.length) (ho : 0 ≤ o ∧ o ≤ 1000) : SW K w p o dp bd := ⟨hb, h.rd, hp, ho, h.le⟩
theorem single_any (K : Ctx) (hK : K.Ok) (hW : WsB K.ws) (p d : Nat) (S0 E0 : Nat → Nat → Rs Ex) (hM : Mono E0) (w : World) (sw0 : SW K w p d false false) (hd : d ≤ 64)
  (hS : ∀ (q d : Nat) W, p < q → d ≤ 64 → SW K W q d false false → Calls Tryz.prog 75 #[.pointer (some ⟨K.g, 0, none⟩)] W (CR K W.heap.size W (resQ (S0 q d) d) (okE W)))
  (hE : ∀ (q d : Nat) W, p < q → d ≤ 64 → SW K W q d false false → Calls Tryz.prog 33 #[.pointer (some ⟨K.g, 0, none⟩), .int .i64 1] W (CR K W.heap.size W (resQ (E0 q d) d) (okE W))) :
  Calls Tryz.prog 75 #[.pointer (some ⟨K.g, 0, none⟩)] w (CR K w.heap.size w (resQ (unaryP K.ws S0 E0 p d) d) (okE w)) := by
 have bel := Fz.refl w.heap.size K.g w
 have k99 := sw0.blk
 have e99 : K.g = K.g := rfl
 have hrd := sw0.rd
 have hlt := sw0.blk.lt
 have hle := hK.le
 have hlen := hK.len
 have hpl := sw0.p_le
 refine Zs 170 Tryz.func75 ?_
 refine Zsr ?_
 refine Zl zero_api_Expr ?_
 intro g2 w1 n2
 have e2 := Nat.le_trans bel.size n2.ge
 have l2 := Nat.lt_of_lt_of_le k99.lt n2.ge
 replace bel := bel.step n2.below
 replace k99 := k99.step n2.below
 have k2 := n2.blk
 refine Zk2 0 2 (Zts (Zsr ?_))
 refine Zm ?_
 refine Zv (Runs.nilCheck rfl rfl) ?_
 refine Zf 4 Tryz.underlying69 ?_
 refine Zv (Runs.loadB rfl rfl Tryz.underlying4 rfl k99 rfl) ?_
 refine Zk3 0 2 9 (Zt ?_)
 refine Cd.condF rfl rfl ?_
 refine Cd.skip (Zts (Cd.seq ?_))
 refine Cd.draw 10 (by kernel_rfl) [] (.inl rfl) rfl Grow Grow.refl (fun _ _ _ => Grow.trans) ?_
 intro w2 hw2 zw2
 replace bel := bel.step hw2
 replace k99 := k99.step hw2
 replace k2 := k2.step hw2
 have zbel := bel.size
 have zlt := k2.lt
 refine Zdm ?_
 refine Zd (fun w hG => Runs.nilCheck rfl rfl) ?_
 refine Zd (fun w hG => Runs.fieldB 1 rfl rfl Tryz.underlying69 rfl (by kernel_rfl)) ?_
 refine Zd (fun w hG => Runs.loadB rfl rfl Tryz.underlying3 rfl (k99.step hG) rfl) ?_
 refine Zdm ?_
 refine Zd (fun w hG => Runs.nilCheck rfl rfl) ?_
 refine Zd (fun w hG => Runs.fieldB 0 rfl rfl Tryz.underlying69 rfl (by kernel_rfl)) ?_
 refine Zd (fun w hG => Runs.loadB rfl rfl Tryz.underlying64 rfl (k99.step hG) rfl) ?_
 refine Zd (fun w hG => Runs.len rfl rfl Tryz.underlying64) ?_
 refine Zd (fun w hG => Runs.geq rfl rfl rfl) ?_
 refine Dr.nil ?_
 refine FinX.done (F' := [(0, _), (2, _), (9, _), (20, _)]) rfl ⟨rfl, rfl, rfl, rfl, trivial⟩ ?_
 intro w3 hw3 fw3
 replace bel := bel.step hw3
 replace k99 := k99.step hw3
 replace k2 := k2.step hw3
 refine Zk4 0 2 9 20 (Zt ?_)
 refine Cd.condD rfl (fun hc => ?_) (fun hc => ?_)
 ·have hR : unaryP K.ws S0 E0 p d = .bad p false := unaryP_end (by omega) _ _ _
  refine Zsr ?_
  refine Zm ?_
  refine Zv (Runs.nilCheck rfl rfl) ?_
  refine Zf 4 Tryz.underlying69 ?_
  refine Zq k99 ?_
  intro w4 pw4
  replace bel := bel.put k99 pw4 e99
  replace k2 := k2.put pw4 (by omega)
  replace k99 := pw4.blk
  refine Zk4 0 2 9 20 (Ztq ?_)
  refine Zv (Runs.build rfl rfl (run_build_E0 _)) ?_
  have sw1 := sw0.to hle bel k99 hpl (by omega)
  have k2l := k2.lt
  refine Zo 4 k2 ?_
  intro w5 pw5
  replace bel := bel.put k2 pw5 e2
  replace k99 := k99.put pw5 (by omega)
  replace k2 := pw5.blk
  refine Zk4 0 2 9 20 (Zt (Cd.ret (Post.then_ret ?_)))
  refine Post.endC rfl rfl k2 Tryz.underlying35 rfl (m := 4) (by kernel_rfl) rfl (.inl rfl) ?_
  rw [hR]
  exact ⟨bel, _, zeroEx, _, _, _, _, rfl, ⟨fun _ => False, RepE.zero _ _, fun b hb => hb.elim⟩, sw0.to hle bel k99 hpl (by omega), rfl, rfl, rfl, by omega, by omega⟩
 have hp : p < K.ws.length := by omega
 obtain ⟨ad, hA, hadb, hcell⟩ := hrd.2 (by omega)
 obtain ⟨x, hx⟩ : ∃ x, K.ws[p]? = some x := ⟨_, List.getElem?_eq_getElem (by omega)⟩
 have hat := wAt_some hx
 obtain ⟨a1, a2, a3, a4⟩ := hK.wAt p
 have hk03 : 0 ≤ x.kind ∧ x.kind ≤ 3 := by
  rcases hW x (List.mem_of_getElem? hx) with ⟨h1, -⟩ | ⟨h1, -⟩ | ⟨h1, -⟩ | ⟨h1, -⟩ <;> rw [h1] <;> decide
 rw [hat] at a1 a2 a3 a4
 have hce : ∀ W, Below K.B w W → ∀ (q : Nat) (u : Value), ([.int .i64 x.kind, .string (strOf x.text), .int .i64 x.n, .int .i64 (x.pos : Int)] : List Value)[q]? = some u → W.cell? ((ad.add (p * 4)).add q) = some u := fun W hb q u hu => by
  rw [hb.cell (by rw [block_of_add, block_of_add]; exact hadb), add_of_add]
  exact hcell _ _ (wdCells_row K.ws p x hx q u hu)
 have hU : unaryP K.ws S0 E0 p d = if x.kind = 0 ∧ x.text = [33] then aheadP S0 19 p d else if x.kind = 0 ∧ x.text = [45] then aheadP S0 20 p d else atomP K.ws E0 p d := by
  unfold unaryP
  simp only [isS_iff, hat]
 have hAt : atomP K.ws E0 p d = if x.kind = 1 then .ok (.mk 1 x.n [] []) (p + 1) else if x.kind = 2 then .ok (.mk 2 x.n [] []) (p + 1) else if x.kind = 3 then
   if x.text = dayW then .ok (.mk 4 0 [] []) (p + 1) else if x.text = minW then calledP K.ws E0 9 2 p d else if x.text = maxW then calledP K.ws E0 10 2 p d else if x.text = ifW then calledP K.ws E0 21 3 p d else (nameP K.ws p).bind fun nm p => .ok (.mk 3 0 nm []) p
  else if x.kind = 0 then (withinP K.ws [E0] p d).bind fun xs p => .ok (xs.getD 0 (.mk 0 0 [] [])) p else .bad p false := by unfold atomP; rw [hat]
 have hNm : nameP K.ws p = if x.kind = 3 ∧ reservedB x.text = false then .ok x.text (p + 1) else .bad p false := by unfold nameP; rw [hat]
 have hsb := bel.size
 rw [hA] at k99
 refine Cd.skip (Zts ?_)
 refine Cd.draw 11 (by kernel_rfl) [] (.inl rfl) rfl Grow Grow.refl (fun _ _ _ => Grow.trans) ?_
 intro w4 hw4 zw4
 replace bel := bel.step hw4
 replace k99 := k99.step hw4
 replace k2 := k2.step hw4
 have zbel := bel.size
 have zlt := k2.lt
 refine Zdm ?_
 refine Zd (fun w hG => Runs.nilCheck rfl rfl) ?_
 refine Zd (fun w hG => Runs.fieldB 0 rfl rfl Tryz.underlying69 rfl (by kernel_rfl)) ?_
 refine Zd (fun w hG => Runs.loadB rfl rfl Tryz.underlying64 rfl (k99.step hG) rfl) ?_
 refine Zdm ?_
 refine Zd (fun w hG => Runs.nilCheck rfl rfl) ?_
 refine Zd (fun w hG => Runs.fieldB 1 rfl rfl Tryz.underlying69 rfl (by kernel_rfl)) ?_
 refine Zd (fun w hG => Runs.loadB rfl rfl Tryz.underlying3 rfl (k99.step hG) rfl) ?_
 refine Zd (fun w hG => Runs.indexN rfl rfl rfl Tryz.underlying64 (s := 4) (by kernel_rfl) (j := p) rfl (by omega)) ?_
 refine Zd (fun w hG => Runs.loadF (ps := [.int .i64 x.kind, .string (strOf x.text), .int .i64 x.n, .int .i64 (x.pos : Int)]) rfl rfl Tryz.underlying109 rfl (m := 4) (by kernel_rfl) rfl (hce _ ((bel.below (by omega) hle).trans (hG.mono (by omega))))) ?_
 refine Dr.alloc rfl rfl (run_zero zero_debentureref17_Word) rfl ?_
 refine Dr.nil ?_
 refine FinX.open (j := 10) rfl ?_
 intro u10
 refine FinX.done (F' := [(0, _), (2, _), (3, _), (9, _), (20, _), (34, _)]) rfl ⟨rfl, rfl, rfl, rfl, rfl, rfl, trivial⟩ ?_
 intro w5 hw5 fw5
 replace bel := bel.step hw5
 replace k99 := k99.step hw5
 replace k2 := k2.step hw5
 obtain ⟨-, g3, rfl, k3, e3⟩ := fw5
 have l3 := Nat.lt_of_lt_of_le zlt e3
 replace e3 := Nat.le_trans zbel e3
 refine Zo 4 k3 ?_
 intro w6 pw6
 replace bel := bel.put k3 pw6 e3
 replace k99 := k99.put pw6 (by omega)
 replace k2 := k2.put pw6 (by omega)
 replace k3 := pw6.blk
 refine Zk5 0 2 3 9 20 (Zts (Cd.block (Zsr ?_)))
 refine Zf 0 Tryz.underlying109 ?_
 refine Zv (Runs.loadB rfl rfl Tryz.underlying3 rfl k3 rfl) ?_
 refine Zv (Runs.eqlI rfl rfl rfl) ?_
 refine Zm ?_
 refine SeqC.start ?_
 refine Zco (fun hcx => Runs.fieldB 0 rfl rfl Tryz.underlying109 rfl (by kernel_rfl)) ?_
 refine SeqC.next rfl rfl rfl rfl rfl rfl rfl (fun hcx => Runs.loadB rfl rfl Tryz.underlying3 rfl k3 rfl) ?_
 refine SeqC.next rfl rfl rfl rfl rfl rfl rfl (fun hcx => Runs.eqlI rfl rfl rfl) ?_
 refine SeqC.or rfl rfl rfl rfl rfl rfl rfl ?_
 refine Za ?_
 refine Zk6 0 2 3 9 20 35 (Zt ?_)
 refine Cd.cond rfl (fun hc => ?_) (fun hc => ?_)
 ·have hc : x.kind = 1 ∨ x.kind = 2 := by simpa using hc
  have hR : unaryP K.ws S0 E0 p d = .ok (.mk x.kind x.n [] []) (p + 1) := by
   rw [hU, if_neg (by omega), if_neg (by omega), hAt]
   rcases hc with h | h
   ·rw [if_pos h, h]
   ·rw [if_neg (by omega), if_pos h, h]
  refine Zsr ?_
  refine Zm ?_
  refine Zv (Runs.nilCheck rfl rfl) ?_
  refine Zf 1 Tryz.underlying69 ?_
  refine Zv (Runs.loadB rfl rfl Tryz.underlying3 rfl k99 rfl) ?_
  refine Za_ ?_
  refine Zv (Runs.nilCheck rfl rfl) ?_
  refine Zf 1 Tryz.underlying69 ?_
  refine Zq k99 ?_
  intro w7 pw7
  replace bel := bel.put k99 pw7 e99
  replace k2 := k2.put pw7 (by omega)
  replace k3 := k3.put pw7 (by omega)
  replace k99 := pw7.blk
  refine Zk6 0 2 3 9 20 35 (Ztq ?_)
  refine Zf 0 Tryz.underlying109 ?_
  refine Zv (Runs.loadB rfl rfl Tryz.underlying3 rfl k3 rfl) ?_
  refine Zf 2 Tryz.underlying109 ?_
  refine Zv (Runs.loadB rfl rfl Tryz.underlying2 rfl k3 rfl) ?_
  refine Zv (Runs.build rfl rfl (run_build_c _ _ _)) ?_
  refine Zo 4 k2 ?_
  intro w8 pw8
  replace bel := bel.put k2 pw8 e2
  replace k99 := k99.put pw8 (by omega)
  replace k3 := k3.put pw8 (by omega)
  replace k2 := pw8.blk
  refine Zk6 0 2 3 9 20 35 (Zt (Cd.ret (Post.block_ret (Post.then_ret ?_))))
  refine Post.endC rfl rfl k2 Tryz.underlying35 rfl (m := 4) (by kernel_rfl) rfl (.inl rfl) ?_
  rw [hR]
  exact ⟨bel, _, _, _, _, _, _, rfl, ⟨fun _ => False, RepE.leaf a1 a2 (by simp) (by simp), fun b hb => hb.elim⟩, sw0.to hle bel (by rw [hA, Int.natCast_add]; exact k99) (by omega) (by omega), rfl, rfl, rfl, rfl, rfl⟩
 have hc12 : ¬ x.kind = 1 ∧ ¬ x.kind = 2 := by simpa using hc
 clear hc
 refine Zsr ?_
 refine Zf 0 Tryz.underlying109 ?_
 refine Zv (Runs.loadB rfl rfl Tryz.underlying3 rfl k3 rfl) ?_
 refine Zv (Runs.eqlI rfl rfl rfl) ?_
 refine Zm ?_
 refine SeqC.start ?_
 refine Zco (fun hcx => Runs.fieldB 1 rfl rfl Tryz.underlying109 rfl (by kernel_rfl)) ?_
 refine SeqC.next rfl rfl rfl rfl rfl rfl rfl (fun hcx => Runs.loadB rfl rfl Tryz.underlying9 rfl k3 rfl) ?_
 refine SeqC.next rfl rfl rfl rfl rfl rfl rfl (fun hcx => Runs.eqlL (b := [33]) rfl rfl rfl a3 (by decide)) ?_
 refine SeqC.next rfl rfl rfl rfl rfl rfl rfl (fun hcx => Runs.move rfl rfl) ?_
 refine Zco (fun hcx => Runs.fieldB 1 rfl rfl Tryz.underlying109 rfl (by kernel_rfl)) ?_
 refine SeqC.next rfl rfl rfl rfl rfl rfl rfl (fun hcx => Runs.loadB rfl rfl Tryz.underlying9 rfl k3 rfl) ?_
 refine SeqC.next rfl rfl rfl rfl rfl rfl rfl (fun hcx => Runs.eqlL (b := [45]) rfl rfl rfl a3 (by decide)) ?_
 refine SeqC.orG rfl rfl rfl rfl rfl rfl rfl rfl rfl rfl rfl ?_
 refine SeqC.and rfl rfl rfl rfl rfl rfl rfl ?_
 refine Za ?_
 refine Zk7 0 2 3 9 20 35 56 (Zt ?_)
 refine Cd.cond rfl (fun hc => ?_) (fun hc => ?_)
 ·have hc : x.kind = 0 ∧ (x.text = [33] ∨ x.text = [45]) := by simpa using hc
  obtain ⟨op, hop⟩ : ∃ op : Int, op = if x.text = [33] then 19 else 20 := ⟨_, rfl⟩
  have hop64 : I64 op := by rw [hop]; unfold I64; split <;> omega
  have hR : unaryP K.ws S0 E0 p d = aheadP S0 op p d := by
   rw [hU, hop]
   by_cases h1 : x.text = [33]
   ·rw [if_pos ⟨hc.1, h1⟩, if_pos h1]
   ·rw [if_neg (fun h => h1 h.2), if_neg h1]
    rcases hc.2 with h | h
    ·exact absurd h h1
    ·rw [if_pos ⟨hc.1, h⟩]
  have hen := enterS_any K hK p d false false _ (sw0.to hle bel (by rw [hA]; exact k99) hpl (by omega)) (by omega)
  have k2l := k2.lt
  have k3l := k3.lt
  refine Zsr ?_
  refine Zm ?_
  refine Zc (Ze Tryz.func68) hen ?_
  rintro e we ⟨⟨ve, rfl⟩, hfe, swe⟩
  refine ⟨_, rfl, ?_⟩
  have bele := bel.call hfe
  have k2e := k2.fz hfe (by omega)
  have k3e := k3.fz hfe (by omega)
  have hse := hfe.size
  clear bel k2 k3 k99 hen
  have bel := bele
  have k2 := k2e
  have k3 := k3e
  by_cases h64 : 64 < (d : Int) + 1
  ·rw [if_pos ⟨h64, rfl⟩] at swe
   have hR2 : unaryP K.ws S0 E0 p d = .bad p true := by
    rw [hR]
    unfold aheadP enterP
    rw [if_pos (by omega)]
    rfl
   have k99 := swe.blk
   refine Zk7 0 2 3 9 20 35 56 (Zts (Zsr ?_))
   refine Zm ?_
   refine Zv (Runs.nilCheck rfl rfl) ?_
   refine Zf 4 Tryz.underlying69 ?_
   refine Zv (Runs.loadB rfl rfl Tryz.underlying4 rfl k99 rfl) ?_
   refine Zk8 0 2 3 9 20 35 56 75 (Zt ?_)
   refine Cd.condT rfl rfl ?_
   refine Zsr ?_
   refine Zv (Runs.build rfl rfl (run_build_E0 _)) ?_
   refine Zo 4 k2 ?_
   intro w7 pw7
   replace bel := bel.put k2 pw7 e2
   replace k3 := k3.put pw7 (by omega)
   replace k99 := k99.put pw7 (by omega)
   replace k2 := pw7.blk
   refine Zk8 0 2 3 9 20 35 56 75 (Zt (Cd.ret (Post.then_ret (Post.block_ret (Post.then_ret ?_)))))
   refine Post.endC rfl rfl k2 Tryz.underlying35 rfl (m := 4) (by kernel_rfl) rfl (.inl rfl) ?_
   rw [hR2]
   exact ⟨bel, _, zeroEx, _, _, _, _, rfl, ⟨fun _ => False, RepE.zero _ _, fun b hb => hb.elim⟩, sw0.to hle bel k99 hpl (by omega), rfl, rfl, rfl, by omega, by omega⟩
  rw [if_neg (fun h => h64 h.1)] at swe
  have hR2 : unaryP K.ws S0 E0 p d = (S0 (p + 1) (d + 1)).bind fun x q => .ok (.mk op 0 [] [x]) q := by
   rw [hR]
   unfold aheadP enterP
   rw [if_neg (by omega), Rs.bind_ok]
  have k99 := swe.blk
  have loc := swe.rdb
  refine Zk7 0 2 3 9 20 35 56 (Zts (Zsr ?_))
  refine Zm ?_
  refine Zv (Runs.nilCheck rfl rfl) ?_
  refine Zf 4 Tryz.underlying69 ?_
  refine Zv (Runs.loadB rfl rfl Tryz.underlying4 rfl k99 rfl) ?_
  refine Zk8 0 2 3 9 20 35 56 75 (Zt ?_)
  refine Cd.condF rfl rfl ?_
  refine Cd.skip (Ztq ?_)
  refine Zm ?_
  refine Zv (Runs.nilCheck rfl rfl) ?_
  refine Zf 1 Tryz.underlying69 ?_
  refine Zv (Runs.loadB rfl rfl Tryz.underlying3 rfl k99 rfl) ?_
  refine Za_ ?_
  refine Zv (Runs.nilCheck rfl rfl) ?_
  refine Zf 1 Tryz.underlying69 ?_
  refine Zq k99 ?_
  intro w7 pw7
  replace bel := bel.put k99 pw7 e99
  replace k2 := k2.put pw7 (by omega)
  replace k3 := k3.put pw7 (by omega)
  replace loc := loc.put k99 pw7 e99
  replace k99 := pw7.blk
  refine Zk8 0 2 3 9 20 35 56 75 (Ztq ?_)
  refine Zm ?_
  have swn : SW K _ (p + 1) ((d + 1 : Nat) : Int) false false := loc.sw (by rw [Int.natCast_add, Int.natCast_add]; exact k99) (by omega) (by omega)
  have hcl := hS (p + 1) (d + 1) _ (by omega) (by omega) swn
  clear loc k99
  have hsb := bel.size
  have k2l := k2.lt
  have k3l := k3.lt
  refine Zc (Ze Tryz.func75) hcl ?_
  rintro e w6 ⟨hf6, v6, y, p6, o6, dp6, bd6, rfl, ⟨S6, hr6, hb6⟩, sw6, hres⟩
  refine ⟨_, rfl, ?_⟩
  have bel6 := bel.call hf6
  have k26 := k2.fz hf6 (by omega)
  have k36 := k3.fz hf6 (by omega)
  have hs6 := hf6.size
  clear bel k2 k3 hcl
  have bel := bel6
  have k2 := k26
  have k3 := k36
  have k99 := sw6.blk
  have loc := sw6.rdb
  have rs : ReS _ w6.heap.size S6 y v6 w6 := ⟨hr6, hb6, Nat.le_refl _⟩
  have hones := hr6.ones
  have ho6 := resQ_o hres
  obtain ⟨AX, cX, hvX⟩ := hr6.form
  subst hvX
  refine Zl zero_api_Expr ?_
  intro g4 w8 n4
  have q4 := n4.ge
  have e4 := Nat.le_trans bel.size n4.ge
  have l4 := Nat.lt_of_lt_of_le k99.lt n4.ge
  have l4_k2 := Nat.lt_of_lt_of_le k2.lt n4.ge
  have l4_k3 := Nat.lt_of_lt_of_le k3.lt n4.ge
  replace bel := bel.step n4.below
  replace k2 := k2.step n4.below
  replace k3 := k3.step n4.below
  replace k99 := k99.step n4.below
  replace loc := loc.step n4.below
  replace rs := rs.step n4.below
  have k4 := n4.blk
  refine Zo 4 k4 ?_
  intro w9 pw9
  replace bel := bel.put k4 pw9 e4
  replace k2 := k2.put pw9 (by omega)
  replace k3 := k3.put pw9 (by omega)
  replace k99 := k99.put pw9 (by omega)
  replace loc := loc.put k4 pw9 e4
  replace rs := rs.put k4 pw9 e4
  replace k4 := pw9.blk
  refine Zk9 0 2 3 4 9 20 35 56 75 (Ztq ?_)
  refine Zm ?_
  refine Zv (Runs.nilCheck rfl rfl) ?_
  refine Zf 2 Tryz.underlying69 ?_
  refine Zv (Runs.loadB rfl rfl Tryz.underlying3 rfl k99 rfl) ?_
  refine Zv (Runs.subI rfl rfl rfl (by omega) (by omega)) ?_
  refine Zv (Runs.nilCheck rfl rfl) ?_
  refine Zf 2 Tryz.underlying69 ?_
  refine Zq k99 ?_
  intro w10 pw10
  replace bel := bel.put k99 pw10 e99
  replace k2 := k2.put pw10 (by omega)
  replace k3 := k3.put pw10 (by omega)
  replace loc := loc.put k99 pw10 e99
  replace rs := rs.put k99 pw10 e99
  replace k4 := k4.put pw10 (by omega)
  replace k99 := pw10.blk
  refine Zk9 0 2 3 4 9 20 35 56 75 (Zts (Zsr ?_))
  refine Zf 1 Tryz.underlying109 ?_
  refine Zv (Runs.loadB rfl rfl Tryz.underlying9 rfl k3 rfl) ?_
  refine Zv (Runs.eqlL (b := [33]) rfl rfl rfl a3 (by decide)) ?_
  refine Zk10 0 2 3 4 9 20 35 56 75 95 (Zt ?_)
  refine Cd.condD rfl (fun hc2 => ?_) (fun hc2 => ?_)
  ·rw [if_pos hc2] at hop
   subst hop
   refine Zsr ?_
   refine Zv (Runs.loadW rfl rfl Tryz.underlying35 rfl k4 (m := 4) (by kernel_rfl) rfl) ?_
   refine Seq.slice (vs := [_]) (s := 4) rfl rfl rfl Tryz.underlying22 (by kernel_rfl) (zero_api_Expr) (by omega) (by omega) ⟨rfl, trivial⟩ rfl rfl rfl ?_
   intro g97 w11 n97
   have q97 := n97.ge
   have e97 := Nat.le_trans bel.size n97.ge
   have l97 := Nat.lt_of_lt_of_le k4.lt n97.ge
   have l97_k2 := Nat.lt_of_lt_of_le k2.lt n97.ge
   have l97_k3 := Nat.lt_of_lt_of_le k3.lt n97.ge
   have l97_k99 := Nat.lt_of_lt_of_le k99.lt n97.ge
   replace bel := bel.step n97.below
   replace k2 := k2.step n97.below
   replace k3 := k3.step n97.below
   replace k99 := k99.step n97.below
   replace loc := loc.step n97.below
   replace rs := rs.step n97.below
   replace k4 := k4.step n97.below
   have k97 := n97.blk
   refine Zv (Runs.build rfl rfl (run_build_s1 19 _ _)) ?_
   have k2b := k2
   have rsb := rs
   have k97b := k97
   refine Zo 4 k2 ?_
   intro w12 pw12
   replace bel := bel.put k2 pw12 e2
   replace k3 := k3.put pw12 (by omega)
   replace k99 := k99.put pw12 (by omega)
   replace loc := loc.put k2 pw12 e2
   replace rs := rs.put k2 pw12 e2
   replace k4 := k4.put pw12 (by omega)
   replace k97 := k97.put pw12 (by omega)
   replace k2 := pw12.blk
   refine Zk10 0 2 3 4 9 20 35 56 75 95 (Zt (Cd.ret (Post.then_ret (Post.block_ret (Post.then_ret ?_)))))
   refine Post.endC rfl rfl k2 Tryz.underlying35 rfl (m := 4) (by kernel_rfl) rfl (.inl rfl) ?_
   rw [hR2]
   exact ⟨bel, _, _, _, _, _, _, rfl, okE_put (RepE.one hop64 rsb.rep k97b) pw12 (fun b hb => by
    rcases hb with hb | rfl
    ·have := rsb.bd b hb; have := rsb.hi_le; omega
    ·have := k97b.lt; omega), loc.sw k99 sw6.p_le (by omega), resQ_up (f := fun y => Ex.mk 19 0 [] [y]) hres⟩
  ·rw [if_neg hc2] at hop
   subst hop
   refine Cd.skip (Ztq ?_)
   refine Zv (Runs.loadW rfl rfl Tryz.underlying35 rfl k4 (m := 4) (by kernel_rfl) rfl) ?_
   refine Seq.slice (vs := [_]) (s := 4) rfl rfl rfl Tryz.underlying22 (by kernel_rfl) (zero_api_Expr) (by omega) (by omega) ⟨rfl, trivial⟩ rfl rfl rfl ?_
   intro g100 w11 n100
   have q100 := n100.ge
   have e100 := Nat.le_trans bel.size n100.ge
   have l100 := Nat.lt_of_lt_of_le k4.lt n100.ge
   have l100_k2 := Nat.lt_of_lt_of_le k2.lt n100.ge
   have l100_k3 := Nat.lt_of_lt_of_le k3.lt n100.ge
   have l100_k99 := Nat.lt_of_lt_of_le k99.lt n100.ge
   replace bel := bel.step n100.below
   replace k2 := k2.step n100.below
   replace k3 := k3.step n100.below
   replace k99 := k99.step n100.below
   replace loc := loc.step n100.below
   replace rs := rs.step n100.below
   replace k4 := k4.step n100.below
   have k100 := n100.blk
   refine Zv (Runs.build rfl rfl (run_build_s1 20 _ _)) ?_
   have k2b := k2
   have rsb := rs
   have k100b := k100
   refine Zo 4 k2 ?_
   intro w12 pw12
   replace bel := bel.put k2 pw12 e2
   replace k3 := k3.put pw12 (by omega)
   replace k99 := k99.put pw12 (by omega)
   replace loc := loc.put k2 pw12 e2
   replace rs := rs.put k2 pw12 e2
   replace k4 := k4.put pw12 (by omega)
   replace k100 := k100.put pw12 (by omega)
   replace k2 := pw12.blk
   refine Zk10 0 2 3 4 9 20 35 56 75 95 (Zt (Cd.ret (Post.block_ret (Post.then_ret ?_))))
   refine Post.endC rfl rfl k2 Tryz.underlying35 rfl (m := 4) (by kernel_rfl) rfl (.inl rfl) ?_
   rw [hR2]
   exact ⟨bel, _, _, _, _, _, _, rfl, okE_put (RepE.one hop64 rsb.rep k100b) pw12 (fun b hb => by
    rcases hb with hb | rfl
    ·have := rsb.bd b hb; have := rsb.hi_le; omega
    ·have := k100b.lt; omega), loc.sw k99 sw6.p_le (by omega), resQ_up (f := fun y => Ex.mk 20 0 [] [y]) hres⟩
 have hcs : ¬ (x.kind = 0 ∧ (x.text = [33] ∨ x.text = [45])) := by simpa using hc
 have hR : unaryP K.ws S0 E0 p d = atomP K.ws E0 p d := by
  rw [hU, if_neg (fun h => hcs ⟨h.1, .inl h.2⟩), if_neg (fun h => hcs ⟨h.1, .inr h.2⟩)]
 rw [hAt, if_neg hc12.1, if_neg hc12.2] at hR
 clear hc hU hAt hcs
 refine Zsr ?_
 refine Zf 0 Tryz.underlying109 ?_
 refine Zv (Runs.loadB rfl rfl Tryz.underlying3 rfl k3 rfl) ?_
 refine Zv (Runs.eqlI rfl rfl rfl) ?_
 refine Za ?_
 refine Zk8 0 2 3 9 20 35 56 102 (Zt ?_)
 refine Cd.condD rfl (fun h0 => ?_) (fun h0 => ?_)
 ·rw [if_neg (by omega), if_pos h0, within_one] at hR
  have hta := take_any K hK p d false false [40] _ (sw0.to hle bel (by rw [hA]; exact k99) hpl (by omega)) (by decide) (by decide)
  have k2l := k2.lt
  refine Zsr ?_
  refine Zm ?_
  refine Zc (Ze Tryz.func67) hta ?_
  rintro e w5 ⟨⟨v5, rfl⟩, hf5, sw5⟩
  refine ⟨_, rfl, ?_⟩
  have bel5 := bel.call hf5
  have k25 := k2.fz hf5 (by omega)
  have hs5 := hf5.size
  clear bel k2 k3 k99 hta
  have bel := bel5
  have k2 := k25
  have hen := enterS_any K hK _ _ _ _ _ sw5 (by omega)
  refine Zk8 0 2 3 9 20 35 56 102 (Ztq ?_)
  refine Zm ?_
  refine Zc (Ze Tryz.func68) hen ?_
  rintro e we ⟨⟨ve, rfl⟩, hfe, swe⟩
  refine ⟨_, rfl, ?_⟩
  have bele := bel.call hfe
  have k2e := k2.fz hfe (by omega)
  have hse := hfe.size
  clear bel k2
  have bel := bele
  have k2 := k2e
  have hst : ∃ (q : Nat) (dp bd : Bool), SW K we q (d + 1) dp bd ∧ (bd = false → dp = false ∧ p < q ∧ d + 1 ≤ 64 ∧ unaryP K.ws S0 E0 p d = (E0 q (d + 1)).bind fun x q => (signQ K.ws [41] q).bind fun _ q => .ok x q) ∧ (bd = true → unaryP K.ws S0 E0 p d = .bad q dp) := by
   rcases takeQ_sign (ws := K.ws) (s := [40]) (q := p) with ⟨h1, h2⟩ | ⟨h1, h2⟩
   ·rw [h1] at swe
    dsimp only at swe
    rw [h2, Rs.bind_ok] at hR
    by_cases h64 : 64 < (d : Int) + 1
    ·rw [if_pos ⟨h64, rfl⟩] at swe
     refine ⟨_, _, _, swe, fun h => (by cases h), fun _ => ?_⟩
     rw [hR]
     unfold enterP
     rw [if_pos (by omega)]
     rfl
    ·rw [if_neg (fun h => h64 h.1)] at swe
     refine ⟨_, _, _, swe, fun _ => ⟨rfl, by omega, by omega, ?_⟩, fun h => by cases h⟩
     rw [hR]
     unfold enterP
     rw [if_neg (by omega), Rs.bind_ok]
   ·rw [h1] at swe
    dsimp only at swe
    rw [h2, Rs.bind_bad] at hR
    rw [if_neg (fun h => by cases h.2), if_neg (fun h => by cases h.2)] at swe
    exact ⟨_, _, _, swe, fun h => (by cases h), fun _ => hR⟩
  clear swe sw5 hen
  obtain ⟨q, dp, bd, sw, hgood, hbad⟩ := hst
  have hcl : Calls Tryz.prog 33 #[.pointer (some ⟨K.g, 0, none⟩), .int .i64 1] we (CR K we.heap.size we (fun x p o dp' bd' => (bd = false → resQ (E0 q (d + 1)) (d + 1) x p o dp' bd') ∧ (bd = true → sameQ q ((d : Int) + 1) dp x p o dp' bd')) (okE we)) := by
   cases bd with
   | false =>
    obtain ⟨hg1, hg2, hg3, -⟩ := hgood rfl
    subst hg1
    refine (hE q (d + 1) we hg2 hg3 (by rw [Int.natCast_add]; exact sw)).mono fun e W' h => ?_
    obtain ⟨hf, v, x, p', o', dp', bd', rfl, h2, h3, h4⟩ := h
    exact ⟨hf, v, x, p', o', dp', bd', rfl, h2, h3, fun _ => h4, fun h => by cases h⟩
   | true =>
    refine (exprB_any K hK q _ dp 1 we sw).mono fun e W' h => ?_
    obtain ⟨hb, rfl⟩ := h
    exact ⟨Fz.of hb, _, zeroEx, q, _, dp, true, rfl, ⟨fun _ => False, RepE.zero _ _, fun b hb => hb.elim⟩, sw.step hb, fun h => (by cases h), fun _ => ⟨rfl, rfl, rfl, rfl⟩⟩
  have k2l := k2.lt
  have hsb := bel.size
  refine Zk8 0 2 3 9 20 35 56 102 (Ztq ?_)
  refine Zm ?_
  refine Zc (Ze Tryz.func33) hcl ?_
  rintro e w6 ⟨hf6, v6, y, p6, o6, dp6, bd6, rfl, ⟨S6, hr6, hb6⟩, sw6, hpf1, hpf2⟩
  refine ⟨_, rfl, ?_⟩
  have bel6 := bel.call hf6
  have k26 := k2.fz hf6 (by omega)
  have hs6 := hf6.size
  have hres : 1 ≤ o6 ∧ o6 ≤ 66 ∧ resQ (unaryP K.ws S0 E0 p d) d y (takeQ K.ws [41] p6 bd6).1 (o6 - 1) dp6 (takeQ K.ws [41] p6 bd6).2 := by
   cases bd with
   | false =>
    obtain ⟨-, -, -, hR2⟩ := hgood rfl
    have hres := hpf1 rfl
    have := resQ_o hres
    rw [hR2]
    exact ⟨by omega, by omega, resQ_close (f := fun y => y) hres⟩
   | true =>
    obtain ⟨rfl, rfl, rfl, rfl⟩ := hpf2 rfl
    rw [hbad rfl, takeQ_bad]
    exact ⟨by omega, by omega, rfl, rfl, rfl, by omega, by omega⟩
  clear bel k2 hcl hgood hbad hpf1 hpf2 hR sw
  obtain ⟨ho1, ho2, hres⟩ := hres
  have bel := bel6
  have k2 := k26
  have rs : ReS _ w6.heap.size S6 y v6 w6 := ⟨hr6, hb6, Nat.le_refl _⟩
  have hones := hr6.ones
  obtain ⟨AX, cX, hvX⟩ := hr6.form
  subst hvX
  have sw7 := sw6
  clear sw6
  refine Zl zero_api_Expr ?_
  intro g5 w7 n5
  have q5 := n5.ge
  have e5 := Nat.le_trans bel.size n5.ge
  have l5 := Nat.lt_of_lt_of_le k2.lt n5.ge
  replace bel := bel.step n5.below
  replace k2 := k2.step n5.below
  replace rs := rs.step n5.below
  replace sw7 := sw7.step n5.below
  have k5 := n5.blk
  refine Zo 4 k5 ?_
  intro w8 pw8
  replace bel := bel.put k5 pw8 e5
  replace k2 := k2.put pw8 (by omega)
  replace rs := rs.put k5 pw8 e5
  replace sw7 := sw7.put k5 pw8 e5
  replace k5 := pw8.blk
  refine Zk9 0 2 3 5 9 20 35 56 102 (Ztq ?_)
  refine Zm ?_
  have hta := take_any K hK p6 o6 dp6 bd6 [41] _ sw7 (by decide) (by decide)
  have k5l := k5.lt
  refine Zc (Ze Tryz.func67) hta ?_
  rintro e w8 ⟨⟨v8, rfl⟩, hf8, sw8⟩
  refine ⟨_, rfl, ?_⟩
  have bel8 := bel.call hf8
  have k28 := k2.fz hf8 (by omega)
  have k58 := k5.fz hf8 (by omega)
  have hs8 := hf8.size
  have rs8 : ReS we.heap.size w6.heap.size S6 y _ w8 := ⟨rs.rep.mono (fun _ h => h) (fun a ha => World.cell?_of_block (hf8.block _ (Nat.lt_of_lt_of_le (rs.bd _ ha).2 rs.hi_le) (by have := (rs.bd _ ha).1; omega))), rs.bd, Nat.le_trans rs.hi_le hs8⟩
  clear bel k2 k5 rs sw7 hta
  have bel := bel8
  have k2 := k28
  have k5 := k58
  have rs := rs8
  have k99 := sw8.blk
  have loc := sw8.rdb
  refine Zk9 0 2 3 5 9 20 35 56 102 (Ztq ?_)
  refine Zm ?_
  refine Zv (Runs.nilCheck rfl rfl) ?_
  refine Zf 2 Tryz.underlying69 ?_
  refine Zv (Runs.loadB rfl rfl Tryz.underlying3 rfl k99 rfl) ?_
  refine Zv (Runs.subI rfl rfl rfl (by omega) (by omega)) ?_
  refine Zv (Runs.nilCheck rfl rfl) ?_
  refine Zf 2 Tryz.underlying69 ?_
  refine Zq k99 ?_
  intro w9 pw9
  replace bel := bel.put k99 pw9 e99
  replace k2 := k2.put pw9 (by omega)
  replace rs := rs.put k99 pw9 e99
  replace k5 := k5.put pw9 (by omega)
  replace loc := loc.put k99 pw9 e99
  replace k99 := pw9.blk
  refine Zk9 0 2 3 5 9 20 35 56 102 (Ztq ?_)
  refine Zv (Runs.loadW rfl rfl Tryz.underlying35 rfl k5 (m := 4) (by kernel_rfl) rfl) ?_
  have rsb := rs
  refine Zo 4 k2 ?_
  intro w10 pw10
  replace bel := bel.put k2 pw10 e2
  replace rs := rs.put k2 pw10 e2
  replace k5 := k5.put pw10 (by omega)
  replace k99 := k99.put pw10 (by omega)
  replace loc := loc.put k2 pw10 e2
  replace k2 := pw10.blk
  refine Zk9 0 2 3 5 9 20 35 56 102 (Zt (Cd.ret (Post.block_ret (Post.then_ret ?_))))
  refine Post.endC rfl rfl k2 Tryz.underlying35 rfl (m := 4) (by kernel_rfl) rfl (.inl rfl) ?_
  exact ⟨bel, _, _, _, _, _, _, rfl, okE_put rsb.rep pw10 (fun b hb => by have := rsb.bd b hb; have := rsb.hi_le; omega), loc.sw k99 sw8.p_le (by omega), hres⟩
 have h3 : x.kind = 3 := by omega
 rw [if_pos h3] at hR
 refine Zsr ?_
 refine Zf 1 Tryz.underlying109 ?_
 refine Zv (Runs.loadB rfl rfl Tryz.underlying9 rfl k3 rfl) ?_
 refine Zv (Runs.eqlL (b := dayW) rfl rfl rfl a3 (by decide)) ?_
 refine Za ?_
 refine Zk9 0 2 3 9 20 35 56 102 122 (Zt ?_)
 refine Cd.condD rfl (fun hc => ?_) (fun hc => ?_)
 ·rw [if_pos hc] at hR
  refine Zsr ?_
  refine Zm ?_
  refine Zv (Runs.nilCheck rfl rfl) ?_
  refine Zf 1 Tryz.underlying69 ?_
  refine Zv (Runs.loadB rfl rfl Tryz.underlying3 rfl k99 rfl) ?_
  refine Za_ ?_
  refine Zv (Runs.nilCheck rfl rfl) ?_
  refine Zf 1 Tryz.underlying69 ?_
  refine Zq k99 ?_
  intro w7 pw7
  replace bel := bel.put k99 pw7 e99
  replace k2 := k2.put pw7 (by omega)
  replace k3 := k3.put pw7 (by omega)
  replace k99 := pw7.blk
  refine Zk9 0 2 3 9 20 35 56 102 122 (Ztq ?_)
  refine Zv (Runs.build rfl rfl (run_build_Eop 4 _)) ?_
  refine Zo 4 k2 ?_
  intro w8 pw8
  replace bel := bel.put k2 pw8 e2
  replace k99 := k99.put pw8 (by omega)
  replace k3 := k3.put pw8 (by omega)
  replace k2 := pw8.blk
  refine Zk9 0 2 3 9 20 35 56 102 122 (Zt (Cd.ret (Post.block_ret (Post.then_ret ?_))))
  refine Post.endC rfl rfl k2 Tryz.underlying35 rfl (m := 4) (by kernel_rfl) rfl (.inl rfl) ?_
  rw [hR]
  exact ⟨bel, _, _, _, _, _, _, rfl, ⟨fun _ => False, RepE.leaf (by unfold I64; omega) (by unfold I64; omega) (by simp) (by simp), fun b hb => hb.elim⟩, sw0.to hle bel (by rw [hA, Int.natCast_add]; exact k99) (by omega) (by omega), rfl, rfl, rfl, rfl, rfl⟩
 rw [if_neg hc] at hR
 refine Zsr ?_
 refine Zf 1 Tryz.underlying109 ?_
 refine Zv (Runs.loadB rfl rfl Tryz.underlying9 rfl k3 rfl) ?_
 refine Zv (Runs.eqlL (b := minW) rfl rfl rfl a3 (by decide)) ?_
 refine Za ?_
 refine Zk10 0 2 3 9 20 35 56 102 122 134 (Zt ?_)
 refine Cd.condD rfl (fun hc => ?_) (fun hc => ?_)
 ·rw [if_pos hc] at hR
  refine Zsr ?_
  refine Zm ?_
  have har := args_any K hK 9 2 p d E0 hM _ (sw0.to hle bel (by rw [hA]; exact k99) hpl (by omega)) (by omega) hd (by omega) (by unfold I64; omega) hE
  have k2l := k2.lt
  have hsb := bel.size
  refine Zc (Ze Tryz.func122) har ?_
  rintro e w6 ⟨hf6, v6, y, p6, o6, dp6, bd6, rfl, ⟨S6, hr6, hb6⟩, sw6, hres⟩
  refine ⟨_, rfl, ?_⟩
  have bel6 := bel.call hf6
  have k26 := k2.fz hf6 (by omega)
  clear bel k2 k3 k99 har
  have bel := bel6
  have k2 := k26
  have hones := hr6.ones
  obtain ⟨AX, cX, hvX⟩ := hr6.form
  subst hvX
  refine Zo 4 k2 ?_
  intro w7 pw7
  replace bel := bel.put k2 pw7 e2
  replace k2 := pw7.blk
  refine Zk10 0 2 3 9 20 35 56 102 122 134 (Zt (Cd.ret (Post.block_ret (Post.then_ret ?_))))
  refine Post.endC rfl rfl k2 Tryz.underlying35 rfl (m := 4) (by kernel_rfl) rfl (.inl rfl) ?_
  rw [hR]
  exact ⟨bel, _, _, _, _, _, _, rfl, okE_put hr6 pw7 (fun b hb => by have := hb6 b hb; omega), sw6.put k26 pw7 trivial, hres⟩
 rw [if_neg hc] at hR
 refine Zsr ?_
 refine Zf 1 Tryz.underlying109 ?_
 refine Zv (Runs.loadB rfl rfl Tryz.underlying9 rfl k3 rfl) ?_
 refine Zv (Runs.eqlL (b := maxW) rfl rfl rfl a3 (by decide)) ?_
 refine Za ?_
 refine Zk11 0 2 3 9 20 35 56 102 122 134 140 (Zt ?_)
 refine Cd.condD rfl (fun hc => ?_) (fun hc => ?_)
 ·rw [if_pos hc] at hR
  refine Zsr ?_
  refine Zm ?_
  have har := args_any K hK 10 2 p d E0 hM _ (sw0.to hle bel (by rw [hA]; exact k99) hpl (by omega)) (by omega) hd (by omega) (by unfold I64; omega) hE
  have k2l := k2.lt
  have hsb := bel.size
  refine Zc (Ze Tryz.func122) har ?_
  rintro e w6 ⟨hf6, v6, y, p6, o6, dp6, bd6, rfl, ⟨S6, hr6, hb6⟩, sw6, hres⟩
  refine ⟨_, rfl, ?_⟩
  have bel6 := bel.call hf6
  have k26 := k2.fz hf6 (by omega)
  clear bel k2 k3 k99 har
  have bel := bel6
  have k2 := k26
  have hones := hr6.ones
  obtain ⟨AX, cX, hvX⟩ := hr6.form
  subst hvX
  refine Zo 4 k2 ?_
  intro w7 pw7
  replace bel := bel.put k2 pw7 e2
  replace k2 := pw7.blk
  refine Zk11 0 2 3 9 20 35 56 102 122 134 140 (Zt (Cd.ret (Post.block_ret (Post.then_ret ?_))))
  refine Post.endC rfl rfl k2 Tryz.underlying35 rfl (m := 4) (by kernel_rfl) rfl (.inl rfl) ?_
  rw [hR]
  exact ⟨bel, _, _, _, _, _, _, rfl, okE_put hr6 pw7 (fun b hb => by have := hb6 b hb; omega), sw6.put k26 pw7 trivial, hres⟩
 rw [if_neg hc] at hR
 refine Zsr ?_
 refine Zf 1 Tryz.underlying109 ?_
 refine Zv (Runs.loadB rfl rfl Tryz.underlying9 rfl k3 rfl) ?_
 refine Zv (Runs.eqlL (b := ifW) rfl rfl rfl a3 (by decide)) ?_
 refine Za ?_
 refine Zk12 0 2 3 9 20 35 56 102 122 134 140 146 (Zt ?_)
 refine Cd.condD rfl (fun hc => ?_) (fun hc => ?_)
 ·rw [if_pos hc] at hR
  refine Zsr ?_
  refine Zm ?_
  have har := args_any K hK 21 3 p d E0 hM _ (sw0.to hle bel (by rw [hA]; exact k99) hpl (by omega)) (by omega) hd (by omega) (by unfold I64; omega) hE
  have k2l := k2.lt
  have hsb := bel.size
  refine Zc (Ze Tryz.func122) har ?_
  rintro e w6 ⟨hf6, v6, y, p6, o6, dp6, bd6, rfl, ⟨S6, hr6, hb6⟩, sw6, hres⟩
  refine ⟨_, rfl, ?_⟩
  have bel6 := bel.call hf6
  have k26 := k2.fz hf6 (by omega)
  clear bel k2 k3 k99 har
  have bel := bel6
  have k2 := k26
  have hones := hr6.ones
  obtain ⟨AX, cX, hvX⟩ := hr6.form
  subst hvX
  refine Zo 4 k2 ?_
  intro w7 pw7
  replace bel := bel.put k2 pw7 e2
  replace k2 := pw7.blk
  refine Zk12 0 2 3 9 20 35 56 102 122 134 140 146 (Zt (Cd.ret (Post.block_ret (Post.then_ret ?_))))
  refine Post.endC rfl rfl k2 Tryz.underlying35 rfl (m := 4) (by kernel_rfl) rfl (.inl rfl) ?_
  rw [hR]
  exact ⟨bel, _, _, _, _, _, _, rfl, okE_put hr6 pw7 (fun b hb => by have := hb6 b hb; omega), sw6.put k26 pw7 trivial, hres⟩
 rw [if_neg hc] at hR
 refine Zsr ?_
 refine Zf 1 Tryz.underlying109 ?_
 refine Zv (Runs.loadB rfl rfl Tryz.underlying9 rfl k3 rfl) ?_
 refine Zc (Ze Tryz.func69) (refReserved_any x.text _ a3) ?_
 rintro e w6 ⟨rfl, hb6⟩
 refine ⟨_, rfl, ?_⟩
 replace bel := bel.step hb6
 replace k99 := k99.step hb6
 replace k2 := k2.step hb6
 replace k3 := k3.step hb6
 refine Za ?_
 refine Zk13 0 2 3 9 20 35 56 102 122 134 140 146 152 (Zt ?_)
 rw [hNm] at hR
 refine Cd.cond rfl (fun hc => ?_) (fun hc => ?_)
 ·rw [if_neg (by rw [hc]; simp)] at hR
  refine Zsr ?_
  refine Zm ?_
  refine Zv (Runs.nilCheck rfl rfl) ?_
  refine Zf 4 Tryz.underlying69 ?_
  refine Zq k99 ?_
  intro w7 pw7
  replace bel := bel.put k99 pw7 e99
  replace k2 := k2.put pw7 (by omega)
  replace k3 := k3.put pw7 (by omega)
  replace k99 := pw7.blk
  refine Zk13 0 2 3 9 20 35 56 102 122 134 140 146 152 (Ztq ?_)
  refine Zv (Runs.build rfl rfl (run_build_E0 _)) ?_
  refine Zo 4 k2 ?_
  intro w8 pw8
  replace bel := bel.put k2 pw8 e2
  replace k99 := k99.put pw8 (by omega)
  replace k3 := k3.put pw8 (by omega)
  replace k2 := pw8.blk
  refine Zk13 0 2 3 9 20 35 56 102 122 134 140 146 152 (Zt (Cd.ret (Post.block_ret (Post.then_ret ?_))))
  refine Post.endC rfl rfl k2 Tryz.underlying35 rfl (m := 4) (by kernel_rfl) rfl (.inl rfl) ?_
  rw [hR]
  exact ⟨bel, _, zeroEx, _, _, _, _, rfl, ⟨fun _ => False, RepE.zero _ _, fun b hb => hb.elim⟩, sw0.to hle bel (by rw [hA]; exact k99) hpl (by omega), rfl, rfl, rfl, by omega, by omega⟩
 ·rw [if_pos ⟨h3, hc⟩, Rs.bind_ok] at hR
  refine Cd.skip (Post.block_normal (Ztq ?_))
  refine Zm ?_
  refine Zv (Runs.nilCheck rfl rfl) ?_
  refine Zf 1 Tryz.underlying69 ?_
  refine Zv (Runs.loadB rfl rfl Tryz.underlying3 rfl k99 rfl) ?_
  refine Za_ ?_
  refine Zv (Runs.nilCheck rfl rfl) ?_
  refine Zf 1 Tryz.underlying69 ?_
  refine Zq k99 ?_
  intro w7 pw7
  replace bel := bel.put k99 pw7 e99
  replace k2 := k2.put pw7 (by omega)
  replace k3 := k3.put pw7 (by omega)
  replace k99 := pw7.blk
  refine Zk13 0 2 3 9 20 35 56 102 122 134 140 146 152 (Ztq ?_)
  refine Zf 1 Tryz.underlying109 ?_
  refine Zv (Runs.loadB rfl rfl Tryz.underlying9 rfl k3 rfl) ?_
  refine Zv (Runs.build rfl rfl (run_build_En 3 _ _)) ?_
  refine Zo 4 k2 ?_
  intro w8 pw8
  replace bel := bel.put k2 pw8 e2
  replace k99 := k99.put pw8 (by omega)
  replace k3 := k3.put pw8 (by omega)
  replace k2 := pw8.blk
  refine Zk13 0 2 3 9 20 35 56 102 122 134 140 146 152 (Zt (Cd.ret ?_))
  refine Post.endC rfl rfl k2 Tryz.underlying35 rfl (m := 4) (by kernel_rfl) rfl (.inl rfl) ?_
  rw [hR]
  exact ⟨bel, _, _, _, _, _, _, rfl, ⟨fun _ => False, RepE.leaf (by unfold I64; omega) (by unfold I64; omega) a3 (by omega), fun b hb => hb.elim⟩, sw0.to hle bel (by rw [hA, Int.natCast_add]; exact k99) (by omega) (by omega), rfl, rfl, rfl, rfl, rfl⟩

end Go.Proofs.YtaamkfajnpobfaaGreat


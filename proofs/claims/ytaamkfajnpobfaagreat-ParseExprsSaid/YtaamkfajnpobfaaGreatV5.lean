/-
  Texts that were joined: ClmE, ClmF, ParF, ClmG, ClmH, TOpen. Conditions: what each theorem names.
-/
import Derived.Test.YtaamkfajnpobfaaGreatV4
import Derived.ProofKit
import Derived.OpenShut
import Derived.Lib.SmallJoins
import Derived.Deep.Slices
import Derived.Deep.Fields
import Derived.ChangeSame
set_option linter.unusedSectionVars false
namespace Go.Proofs.YtaamkfajnpobfaaGreat
open Go.RowKit

theorem powL_lt {t : List Nat} {i : Nat} {op : Int} (h : powL t = some (i, op)) : i < 5 ∧ I64 op := by
 unfold powL at h
 have st : ∀ (c : Prop) [Decidable c] (z : Nat × Int) (e : Option (Nat × Int)), (if c then some z else e) = some (i, op) → z = (i, op) ∨ e = some (i, op) := fun c _ z e h => by
  split at h
  ·injection h with h; exact .inl h
  ·exact .inr h
 rcases st _ _ _ h with h | h
 ·injection h with h1 h2
  subst h1 h2
  exact ⟨by omega, by unfold I64; omega⟩
 rcases st _ _ _ h with h | h
 ·injection h with h1 h2
  subst h1 h2
  exact ⟨by omega, by unfold I64; omega⟩
 rcases st _ _ _ h with h | h
 ·injection h with h1 h2
  subst h1 h2
  exact ⟨by omega, by unfold I64; omega⟩
 rcases st _ _ _ h with h | h
 ·injection h with h1 h2
  subst h1 h2
  exact ⟨by omega, by unfold I64; omega⟩
 rcases st _ _ _ h with h | h
 ·injection h with h1 h2
  subst h1 h2
  exact ⟨by omega, by unfold I64; omega⟩
 rcases st _ _ _ h with h | h
 ·injection h with h1 h2
  subst h1 h2
  exact ⟨by omega, by unfold I64; omega⟩
 rcases st _ _ _ h with h | h
 ·injection h with h1 h2
  subst h1 h2
  exact ⟨by omega, by unfold I64; omega⟩
 rcases st _ _ _ h with h | h
 ·injection h with h1 h2
  subst h1 h2
  exact ⟨by omega, by unfold I64; omega⟩
 rcases st _ _ _ h with h | h
 ·injection h with h1 h2
  subst h1 h2
  exact ⟨by omega, by unfold I64; omega⟩
 rcases st _ _ _ h with h | h
 ·injection h with h1 h2
  subst h1 h2
  exact ⟨by omega, by unfold I64; omega⟩
 rcases st _ _ _ h with h | h
 ·injection h with h1 h2
  subst h1 h2
  exact ⟨by omega, by unfold I64; omega⟩
 rcases st _ _ _ h with h | h
 ·injection h with h1 h2
  subst h1 h2
  exact ⟨by omega, by unfold I64; omega⟩
 ·cases h
theorem powZ_at (ws : List Wd) (q : Nat) : ∃ pz oz : Int, powZ (txtQ ws q false 0) = (pz, oz) ∧ ((pz = 0 ∧ oz = 0 ∧ powAt ws q = none) ∨ ∃ i : Nat, pz = (i : Int) + 1 ∧ i < 5 ∧ powAt ws q = some (i, oz) ∧ I64 oz) := by
 have h1 : txtQ ws q false 0 = if (wAt ws q).kind = 0 then (wAt ws q).text else [] := rfl
 rw [h1]
 unfold powAt
 by_cases hk : (wAt ws q).kind = 0
 ·rw [if_pos hk, if_pos hk]
  unfold powZ
  cases hp : powL (wAt ws q).text with
  | none => exact ⟨0, 0, rfl, .inl ⟨rfl, rfl, rfl⟩⟩
  | some z =>
   obtain ⟨i, op⟩ := z
   obtain ⟨h2, h3⟩ := powL_lt hp
   exact ⟨_, _, rfl, .inr ⟨i, rfl, h2, rfl, h3⟩⟩
 ·rw [if_neg hk, if_neg hk]
  exact ⟨0, 0, by decide, .inl ⟨rfl, rfl, rfl⟩⟩
theorem powAt_lt {ws : List Wd} {q : Nat} {z : Nat × Int} (h : powAt ws q = some z) : q < ws.length := by
 rcases Nat.lt_or_ge q ws.length with hp | hp
 ·exact hp
 ·unfold powAt at h
  rw [wAt_none hp] at h
  cases h
structure ExI (K : Ctx) (R : Rs Ex) (d lvl p0 : Nat) (w : World) (g4 g5 : Nat) (q : Nat) (o : Int) (dp bd : Bool) (x : Ex) (A : Option Addr) (c : Nat) (m : Int) (wr : World) : Prop where
 sw : SW K wr q o dp bd
 bel : Fz w.heap.size K.g w wr
 k4 : Blk wr g4 35 #[.int .i64 0, .int .i64 0, .string { data := #[] }, .slice none 0 0]
 k5 : Blk wr g5 35 (exC x A c)
 rs : MadeE g4 wr.heap.size g5 x (.agg (exC x A c)) wr
 good : bd = false → o = d ∧ dp = false ∧ p0 < q ∧ ∃ k : Nat, lvl + k ≤ 5 ∧ (m = (lvl + k : Nat) ∨ (m = 9 ∧ lvl + k = 5)) ∧ R = goP (fullP K.ws) lvl k x q d
 bad : bd = true → R = .bad q dp ∧ (d : Int) ≤ o ∧ o ≤ d + 1
theorem exprC_any (K : Ctx) (hK : K.Ok) (lvl p d : Nat) (hlvl : lvl ≤ 5) (w : World) (sw0 : SW K w p d false false) (hd : d ≤ 64)
  (hS : ∀ W, SW K W p d false false → Calls Tryz.prog 75 #[.pointer (some ⟨K.g, 0, none⟩)] W (CR K W.heap.size W (resQ ((fullP K.ws).S p d) d) (okE W)))
  (hE : ∀ (l q d : Nat) W, p < q → l ≤ 5 → d ≤ 64 → SW K W q d false false → Calls Tryz.prog 33 #[.pointer (some ⟨K.g, 0, none⟩), .int .i64 ((l : Int) + 1)] W (CR K W.heap.size W (resQ ((fullP K.ws).E l q d) d) (okE W))) :
  Calls Tryz.prog 33 #[.pointer (some ⟨K.g, 0, none⟩), .int .i64 ((lvl : Int) + 1)] w (CR K w.heap.size w (resQ ((fullP K.ws).E lvl p d) d) (okE w)) := by
 have bel := Fz.refl w.heap.size K.g w
 have k99 := sw0.blk
 have e99 : K.g = K.g := rfl
 have hlt := sw0.blk.lt
 have hle := hK.le
 have hlen := hK.len
 obtain ⟨k0, hk0⟩ : ∃ k0, lvl + k0 = 5 := ⟨5 - lvl, by omega⟩
 have hR0 := full_go K.ws p d k0 lvl hk0
 obtain ⟨R, hR⟩ : ∃ R, R = (fullP K.ws).E lvl p d := ⟨_, rfl⟩
 rw [← hR] at hR0 ⊢
 clear hR
 refine Zs 56 Tryz.func33 ?_
 refine Zsr ?_
 refine Zl zero_api_Expr ?_
 intro g4 w1 n4
 have e4 := Nat.le_trans bel.size n4.ge
 have l4 := Nat.lt_of_lt_of_le k99.lt n4.ge
 replace bel := bel.step n4.below
 replace k99 := k99.step n4.below
 have k4 := n4.blk
 refine Zk3 0 1 4 (Ztq ?_)
 refine Zm ?_
 have hcl := hS _ (sw0.to hle bel k99 sw0.p_le (by omega))
 have k4l := k4.lt
 have hsb := bel.size
 clear k99
 refine Zc (Ze Tryz.func75) hcl ?_
 rintro e w6 ⟨hf6, v6, y, p6, o6, dp6, bd6, rfl, ⟨S6, hr6, hb6⟩, sw, hres⟩
 refine ⟨_, rfl, ?_⟩
 have bel6 := bel.call hf6
 have k46 := k4.fz hf6 (by omega)
 clear bel k4 hcl
 have bel := bel6
 have k4 := k46
 have hs6 := hf6.size
 obtain ⟨AX, cX, hvX⟩ := hr6.form
 subst hvX
 have rs : MadeE g4 w6.heap.size 0 y (.agg (exC y AX cX)) w6 := ⟨Nat.le_refl _, S6, hr6, fun b h => ⟨by have := (hb6 b h).1; omega, (hb6 b h).2, by have := (hb6 b h).1; omega⟩⟩
 refine Zl zero_api_Expr ?_
 intro g5 w2 n5
 have q5 := n5.ge
 have e5 := Nat.le_trans bel.size n5.ge
 have l5 := Nat.lt_of_lt_of_le k4.lt n5.ge
 replace bel := bel.step n5.below
 replace k4 := k4.step n5.below
 replace sw := sw.step n5.below
 replace rs := rs.step n5.below
 have k5 := n5.blk
 refine Zo 4 k5 ?_
 intro w3 pw3
 replace bel := bel.put k5 pw3 e5
 replace k4 := k4.put pw3 (by omega)
 replace sw := sw.put k5 pw3 e5
 replace rs := rs.put k5 pw3 e5
 replace k5 := pw3.blk
 refine Zk4 0 1 4 5 (Ztq ?_)
 refine Za ?_
 refine Zk5 0 1 4 5 6 (Zts (Cd.block ?_))
 have h45 : g4 < g5 := by omega
 have hg4 : w.heap.size ≤ g4 := by omega
 refine Cd.loop (σ := Nat × Int × Bool × Bool × Ex × (Option Addr × Nat) × Int) (fun s => [(0, .pointer (some ⟨K.g, 0, none⟩)), (1, .int .i64 ((lvl : Int) + 1)), (4, .pointer (some ⟨g4, 0, none⟩)), (5, .pointer (some ⟨g5, 0, none⟩)), (6, .int .i64 s.2.2.2.2.2.2)])
  (fun s wr => ExI K R d lvl p w g4 g5 s.1 s.2.1 s.2.2.1 s.2.2.2.1 s.2.2.2.2.1 s.2.2.2.2.2.1.1 s.2.2.2.2.2.1.2 s.2.2.2.2.2.2 wr) (fun s => if s.2.2.2.1 = true then 0 else K.ws.length - s.1 + 1) (p6, o6, dp6, bd6, y, (AX, cX), 9)
  ⟨sw, bel, k4, k5, (rs.but q5).up, fun hb => ?_, fun hb => ?_⟩ ⟨rfl, rfl, rfl, rfl, rfl, trivial⟩ ?_
 ·dsimp only at hb ⊢
  subst hb
  unfold resQ at hres
  cases hr : (fullP K.ws).S p d with
  | out => rw [hr] at hres; exact hres.elim
  | bad a b => rw [hr] at hres; cases hres.2.2.1
  | ok a b =>
   rw [hr] at hres hR0
   obtain ⟨rfl, rfl, rfl, rfl, -⟩ := hres
   exact ⟨rfl, rfl, (full_mono K.ws).S _ _ _ _ hr, k0, by omega, .inr ⟨rfl, hk0⟩, hR0⟩
 ·dsimp only at hb ⊢
  subst hb
  unfold resQ at hres
  cases hr : (fullP K.ws).S p d with
  | out => rw [hr] at hres; exact hres.elim
  | ok a b => rw [hr] at hres; cases hres.2.2.2.2
  | bad a b =>
   rw [hr] at hres hR0
   obtain ⟨rfl, rfl, -, h1, h2⟩ := hres
   exact ⟨hR0, h1, h2⟩
 clear sw bel k4 k5 rs hres hR0
 rintro ⟨q, o, dp, bd, x, ⟨A, c⟩, m⟩ wr ⟨sw, bel, k4, k5, rs, hgood, hbad⟩
 dsimp only at sw k5 rs hgood hbad ⊢
 have k99 := sw.blk
 have rdw := sw.rdb
 have hsb := bel.size
 have k5l := k5.lt
 refine Cd.seq (Zsr ?_)
 refine Zm ?_
 refine Zv (Runs.nilCheck rfl rfl) ?_
 refine Zf 4 Tryz.underlying69 ?_
 refine Zv (Runs.loadB rfl rfl Tryz.underlying4 rfl k99 rfl) ?_
 refine Zv (Runs.not rfl rfl) ?_
 refine Zk6 0 1 4 5 6 16 (Zt ?_)
 refine Cd.cond rfl (fun hc => ?_) (fun hc => ?_)
 ·obtain rfl : bd = false := by simpa using hc
  obtain ⟨rfl, rfl, hpq, k, hk5, hm, hRg⟩ := hgood rfl
  have hm9 : 0 ≤ m ∧ m ≤ 9 := by omega
  have htx := text_any K hK q d false false 0 wr sw (by omega)
  have htl := txtQ_lt hK q false 0
  obtain ⟨pz, oz, hpz, hpo⟩ := powZ_at K.ws q
  refine Cd.skip (Zt (Cd.block (Zsr ?_)))
  refine Zm ?_
  refine Zc (Ze Tryz.func66) (htx) ?_
  rintro e w7 ⟨rfl, hb7⟩
  refine ⟨_, rfl, ?_⟩
  replace bel := bel.step hb7
  replace k4 := k4.step hb7
  replace rs := rs.step hb7
  replace k5 := k5.step hb7
  replace k99 := k99.step hb7
  replace rdw := rdw.step hb7
  have hpw := power_any (txtQ K.ws q false 0) w7 htl
  rw [hpz] at hpw
  refine Zc (Ze Tryz.func76) (hpw) ?_
  rintro e w8 ⟨rfl, hb8⟩
  refine ⟨_, rfl, ?_⟩
  replace bel := bel.step hb8
  replace k4 := k4.step hb8
  replace rs := rs.step hb8
  replace k5 := k5.step hb8
  replace k99 := k99.step hb8
  replace rdw := rdw.step hb8
  have hpz5 : 0 ≤ pz ∧ pz ≤ 5 := by rcases hpo with h | ⟨i, h1, h2, -⟩ <;> omega
  refine Zm ?_
  refine Zv (Runs.extract rfl rfl rfl) ?_
  refine Zv (Runs.extract rfl rfl rfl) ?_
  refine Za ?_
  refine Za ?_
  refine Zk8 0 1 4 5 6 7 8 16 (Zts (Zsr ?_))
  refine Zm ?_
  refine Zm ?_
  refine Zv (Runs.lss rfl rfl rfl) ?_
  refine Zm ?_
  refine SeqC.start ?_
  refine Zco (fun hcx => Runs.move rfl rfl) ?_
  refine SeqC.next rfl rfl rfl rfl rfl rfl rfl (fun hcx => Runs.eqlI rfl rfl rfl) ?_
  refine SeqC.or rfl rfl rfl rfl rfl rfl rfl ?_
  refine Zm ?_
  refine SeqC.start ?_
  refine Zco (fun hcx => Runs.move rfl rfl) ?_
  refine SeqC.next rfl rfl rfl rfl rfl rfl rfl (fun hcx => Runs.move rfl rfl) ?_
  refine SeqC.next rfl rfl rfl rfl rfl rfl rfl (fun hcx => Runs.gtr rfl rfl rfl) ?_
  refine SeqC.or rfl rfl rfl rfl rfl rfl rfl ?_
  refine Zk9 0 1 4 5 6 7 8 16 34 (Zt ?_)
  refine Cd.cond rfl (fun hc2 => ?_) (fun hc2 => ?_)
  ·have hc2 : pz < (lvl : Int) + 1 ∨ pz = 0 ∨ m < pz := by simpa [or_assoc, and_assoc] using hc2
   have hRn : R = .ok x q := by
    rw [hRg]
    refine goP_none K.ws lvl k x d hk5 fun i op hi => ?_
    rcases hpo with ⟨-, -, h⟩ | ⟨j, h1, h2, h3, -⟩
    ·rw [h] at hi; cases hi
    ·rw [h3] at hi
     injection hi with hi
     injection hi with hi _
     omega
   have k4b := k4
   have k4l := k4.lt
   refine Zsr ?_
   refine Zv (Runs.loadW rfl rfl Tryz.underlying35 rfl k5 (m := 4) (by kernel_rfl) rfl) ?_
   refine Zo 4 k4 ?_
   intro w4 pw4
   replace bel := bel.put k4 pw4 e4
   replace rs := rs.put k4 pw4 e4
   replace k5 := k5.put pw4 (by omega)
   replace k99 := k99.put pw4 (by omega)
   replace rdw := rdw.put k4 pw4 e4
   replace k4 := pw4.blk
   refine Zk9 0 1 4 5 6 7 8 16 34 (Zt (Cd.ret (Post.then_ret (Post.block_ret (Post.round_ret (Post.block_ret (Post.then_ret ?_)))))))
   refine Post.endC rfl rfl k4 Tryz.underlying35 rfl (m := 4) (by kernel_rfl) rfl (.inl rfl) ?_
   obtain ⟨hhi, S', hrep', hb'⟩ := rs
   rw [hRn]
   exact ⟨bel, _, _, _, _, _, _, rfl, ⟨S', hrep', fun b h => ⟨by have := (hb' b h).1; omega, by have := (hb' b h).2.1; omega⟩⟩, rdw.sw k99 sw.p_le sw.o_le, rfl, rfl, rfl, rfl, rfl⟩
  have hc2 : ¬ (pz < (lvl : Int) + 1 ∨ pz = 0 ∨ m < pz) := by simpa [or_assoc, and_assoc] using hc2
  obtain ⟨i, rfl, hi5, hpow, hoz⟩ : ∃ i : Nat, pz = (i : Int) + 1 ∧ i < 5 ∧ powAt K.ws q = some (i, oz) ∧ I64 oz := by
   rcases hpo with ⟨h, -, -⟩ | h
   ·exact absurd (.inr (.inl h)) hc2
   ·exact h
  have hq1 := powAt_lt hpow
  have hR2 := goP_step K.ws lvl hpow k x d hk5 (by omega) (by omega)
  rw [← hRg] at hR2
  have k4l := k4.lt
  refine Cd.skip (Ztq ?_)
  refine Zm ?_
  refine Zv (Runs.nilCheck rfl rfl) ?_
  refine Zf 1 Tryz.underlying69 ?_
  refine Zv (Runs.loadB rfl rfl Tryz.underlying3 rfl k99 rfl) ?_
  refine Za_ ?_
  refine Zv (Runs.nilCheck rfl rfl) ?_
  refine Zf 1 Tryz.underlying69 ?_
  refine Zq k99 ?_
  intro w4 pw4
  replace bel := bel.put k99 pw4 e99
  replace k4 := k4.put pw4 (by omega)
  replace rs := rs.put k99 pw4 e99
  replace k5 := k5.put pw4 (by omega)
  replace rdw := rdw.put k99 pw4 e99
  replace k99 := pw4.blk
  refine Zk9 0 1 4 5 6 7 8 16 34 (Ztq ?_)
  refine Zm ?_
  refine Zm ?_
  refine Za_ ?_
  have swn : SW K _ (q + 1) (d : Int) false false := rdw.sw (by rw [Int.natCast_add]; exact k99) (by omega) (by omega)
  have hcl := hE (i + 1) (q + 1) d _ (by omega) (by omega) hd swn
  have hcast : ((i + 1 : Nat) : Int) + 1 = (i : Int) + 1 + 1 := by omega
  rw [hcast] at hcl
  have hsb3 := bel.size
  have k5l3 := k5.lt
  clear rdw k99
  refine Zc (Ze Tryz.func33) hcl ?_
  rintro e wq ⟨hf6, v6, y, p6, o6, dp6, bd6, rfl, ⟨S6, hr6, hb6⟩, swq, hres⟩
  refine ⟨_, rfl, ?_⟩
  have bel6 := bel.call hf6
  have k46 := k4.fz hf6 (by omega)
  have k56 := k5.fz hf6 (by omega)
  have rs6 := rs.fz hf6 (by omega)
  have hs6 := hf6.size
  have hhi6 := rs6.1
  clear bel k4 k5 rs hcl swn sw
  have bel := bel6
  have k4 := k46
  have k5 := k56
  have rs := rs6
  have sw := swq
  have ry : ReS _ wq.heap.size S6 y v6 wq := ⟨hr6, hb6, Nat.le_refl _⟩
  have hones := hr6.ones
  obtain ⟨AY, cY, hvY⟩ := hr6.form
  subst hvY
  have k5l := k5.lt
  refine Zl zero_api_Expr ?_
  intro g9 w5 n9
  have q9 := n9.ge
  have e9 := Nat.le_trans bel.size n9.ge
  have l9 := Nat.lt_of_lt_of_le k5.lt n9.ge
  have l9_k4 := Nat.lt_of_lt_of_le k4.lt n9.ge
  replace bel := bel.step n9.below
  replace k4 := k4.step n9.below
  replace rs := rs.step n9.below
  replace k5 := k5.step n9.below
  replace sw := sw.step n9.below
  replace ry := ry.step n9.below
  have k9 := n9.blk
  refine Zo 4 k9 ?_
  intro w6 pw6
  replace bel := bel.put k9 pw6 e9
  replace k4 := k4.put pw6 (by omega)
  replace rs := rs.put k9 pw6 e9
  replace k5 := k5.put pw6 (by omega)
  replace sw := sw.put k9 pw6 e9
  replace ry := ry.put k9 pw6 e9
  replace k9 := pw6.blk
  refine Zk10 0 1 4 5 6 7 8 9 16 34 (Ztq ?_)
  refine Zm ?_
  refine Zv (Runs.loadW rfl rfl Tryz.underlying35 rfl k5 (m := 4) (by kernel_rfl) rfl) ?_
  refine Zv (Runs.loadW rfl rfl Tryz.underlying35 rfl k9 (m := 4) (by kernel_rfl) rfl) ?_
  refine Seq.slice (vs := [_, _]) (s := 4) rfl rfl rfl Tryz.underlying22 (by kernel_rfl) (zero_api_Expr) (by omega) (by omega) ⟨rfl, rfl, trivial⟩ rfl rfl rfl ?_
  intro g50 w7 n50
  have q50 := n50.ge
  have e50 := Nat.le_trans bel.size n50.ge
  have l50 := Nat.lt_of_lt_of_le k9.lt n50.ge
  have l50_k4 := Nat.lt_of_lt_of_le k4.lt n50.ge
  have l50_k5 := Nat.lt_of_lt_of_le k5.lt n50.ge
  replace bel := bel.step n50.below
  replace k4 := k4.step n50.below
  replace rs := rs.step n50.below
  replace k5 := k5.step n50.below
  replace sw := sw.step n50.below
  replace ry := ry.step n50.below
  replace k9 := k9.step n50.below
  have k50 := n50.blk
  refine Zv (Runs.build rfl rfl (run_build_s2 oz _ _)) ?_
  refine Zo 4 k5 ?_
  intro w8 pw8
  replace bel := bel.put k5 pw8 e5
  replace k4 := k4.put pw8 (by omega)
  replace rs := rs.put k5 pw8 e5
  replace sw := sw.put k5 pw8 e5
  replace ry := ry.put k5 pw8 e5
  replace k9 := k9.put pw8 (by omega)
  replace k50 := k50.put pw8 (by omega)
  replace k5 := pw8.blk
  refine Zk10 0 1 4 5 6 7 8 9 16 34 (Ztq ?_)
  have hadd50 : (⟨g50, 0, none⟩ : Addr).add = fun j => ⟨g50, j, none⟩ := by funext j; unfold Addr.add; split <;> simp_all
  have k5x : Blk w8 g5 35 (exC (mk2 oz x y) (some ⟨g50, 0, none⟩) 2) := k5
  have rs2 : MadeE g4 w8.heap.size g5 (mk2 oz x y) (.agg (exC (mk2 oz x y) (some ⟨g50, 0, none⟩) 2)) w8 := by
   obtain ⟨hhi, Sl, hrepl, hbl⟩ := rs
   refine ⟨Nat.le_refl _, fun b => Sl b ∨ S6 b ∨ b = g50, RepE.mk (args := [x, y]) (vs := [.agg (exC x A c), .agg (exC y AY cY)]) rfl (by simp) hoz (by unfold I64; omega) (by simp) (by simp) (fun i e v h1 h2 => ?_) (fun _ => ⟨⟨g50, 0, none⟩, rfl, .inr (.inr rfl), fun j u hu => ?_⟩), fun b hb => ?_⟩
   ·match i, h1, h2 with
    | 0, h1, h2 =>
     simp at h1 h2
     subst h1 h2
     exact hrepl.mono (fun _ h => .inl h) (fun _ _ => rfl)
    | 1, h1, h2 =>
     simp at h1 h2
     subst h1 h2
     exact ry.rep.mono (fun _ h => .inr (.inl h)) (fun _ _ => rfl)
    | i + 2, h1, _ => simp at h1
   ·rw [hadd50, k50.cell j]
    have hu2 : (flatC [Value.agg (exC x A c), Value.agg (exC y AY cY)]).toArray[j]? = some u := by simpa using hu
    exact hu2
   ·have hhiy := ry.hi_le
    rcases hb with hb | hb | rfl
    ·obtain ⟨h1, h2, h3⟩ := hbl b hb
     exact ⟨h1, by omega, h3⟩
    ·obtain ⟨h1, h2⟩ := hb6 b hb
     exact ⟨by omega, by omega, by omega⟩
    ·exact ⟨by omega, k50.lt, by omega⟩
  clear rs ry k5
  have rs := rs2
  have k5 := k5x
  have hround : ∀ m' : Int, (m' = if i = 2 then 2 else (i : Int) + 1) → ExI K R d lvl p w g4 g5 p6 o6 dp6 bd6 (mk2 oz x y) (some ⟨g50, 0, none⟩) 2 m' w8 ∧ (if bd6 = true then 0 else K.ws.length - p6 + 1) < K.ws.length - q + 1 := by
   intro m' hm'
   refine ⟨⟨sw, bel, k4, k5, rs, fun hb => ?_, fun hb => ?_⟩, ?_⟩
   ·subst hb
    unfold resQ at hres
    cases hr : (fullP K.ws).E (i + 1) (q + 1) d with
    | out => rw [hr] at hres; exact hres.elim
    | bad a b => rw [hr] at hres; cases hres.2.2.1
    | ok a b =>
     rw [hr] at hres hR2
     obtain ⟨rfl, rfl, rfl, rfl, -⟩ := hres
     rw [Rs.bind_ok] at hR2
     have hmo := (full_mono K.ws).E _ _ _ _ _ hr
     refine ⟨rfl, rfl, by omega, _, ?_, ?_, hR2⟩
     ·split <;> omega
     ·rw [hm']
      by_cases h2 : i = 2
      ·rw [if_pos h2, if_pos h2]; left; omega
      ·rw [if_neg h2, if_neg h2]; left; omega
   ·subst hb
    unfold resQ at hres
    cases hr : (fullP K.ws).E (i + 1) (q + 1) d with
    | out => rw [hr] at hres; exact hres.elim
    | ok a b => rw [hr] at hres; cases hres.2.2.2.2
    | bad a b =>
     rw [hr] at hres hR2
     obtain ⟨rfl, rfl, -, h1, h2⟩ := hres
     exact ⟨hR2, h1, h2⟩
   ·unfold resQ at hres
    cases hr : (fullP K.ws).E (i + 1) (q + 1) d with
    | out => rw [hr] at hres; exact hres.elim
    | bad a b =>
     rw [hr] at hres
     rw [hres.2.2.1, if_pos rfl]
     omega
    | ok a b =>
     rw [hr] at hres
     have hmo := (full_mono K.ws).E _ _ _ _ _ hr
     obtain ⟨-, h1, -, -, h2⟩ := hres
     rw [h2, if_neg (by simp)]
     have := sw.p_le
     omega
  refine Zm ?_
  refine Za ?_
  refine Zk10 0 1 4 5 6 7 8 9 16 34 (Ztq ?_)
  refine Zm ?_
  refine Zv (Runs.eqlI rfl rfl rfl) ?_
  refine Zk11 0 1 4 5 6 7 8 9 16 34 54 (Zt ?_)
  refine Cd.condD rfl (fun h3 => ?_) (fun h3 => ?_)
  ·obtain ⟨hI, hlt2⟩ := hround 2 (by rw [if_pos (by omega)])
   refine Zr ?_
   refine Za ?_
   refine Zk11 0 1 4 5 6 7 8 9 16 34 54 (Post.block_normal ?_)
   exact Post.round (p6, o6, dp6, bd6, mk2 oz x y, (some ⟨g50, 0, none⟩, 2), 2) ⟨rfl, rfl, rfl, rfl, rfl, trivial⟩ hI hlt2
  ·obtain ⟨hI, hlt2⟩ := hround ((i : Int) + 1) (by rw [if_neg (by omega)])
   refine Cd.skip (Post.block_normal ?_)
   exact Post.round (p6, o6, dp6, bd6, mk2 oz x y, (some ⟨g50, 0, none⟩, 2), (i : Int) + 1) ⟨rfl, rfl, rfl, rfl, rfl, trivial⟩ hI hlt2
 ·obtain rfl : bd = true := by simpa using hc
  obtain ⟨hRb, h1, h2⟩ := hbad rfl
  have k4l := k4.lt
  refine Cd.exit (Post.then_exit (Post.round_exit (Post.block_exit (Ztq ?_))))
  refine Zv (Runs.loadW rfl rfl Tryz.underlying35 rfl k5 (m := 4) (by kernel_rfl) rfl) ?_
  refine Zo 4 k4 ?_
  intro w4 pw4
  replace bel := bel.put k4 pw4 e4
  replace rs := rs.put k4 pw4 e4
  replace k5 := k5.put pw4 (by omega)
  replace k99 := k99.put pw4 (by omega)
  replace rdw := rdw.put k4 pw4 e4
  replace k4 := pw4.blk
  refine Zk6 0 1 4 5 6 16 (Zt (Cd.ret ?_))
  refine Post.endC rfl rfl k4 Tryz.underlying35 rfl (m := 4) (by kernel_rfl) rfl (.inl rfl) ?_
  obtain ⟨hhi, S', hrep', hb'⟩ := rs
  rw [hRb]
  exact ⟨bel, _, _, _, _, _, _, rfl, ⟨S', hrep', fun b h => ⟨by have := (hb' b h).1; omega, by have := (hb' b h).2.1; omega⟩⟩, rdw.sw k99 sw.p_le sw.o_le, rfl, rfl, rfl, h1, h2⟩
theorem clm_all (K : Ctx) (hK : K.Ok) (hW : WsB K.ws) : ∀ n p, K.ws.length - p < n → (∀ (d : Nat) W, d ≤ 64 → SW K W p d false false → Calls Tryz.prog 75 #[.pointer (some ⟨K.g, 0, none⟩)] W (CR K W.heap.size W (resQ ((fullP K.ws).S p d) d) (okE W))) ∧
  (∀ (l d : Nat) W, l ≤ 5 → d ≤ 64 → SW K W p d false false → Calls Tryz.prog 33 #[.pointer (some ⟨K.g, 0, none⟩), .int .i64 ((l : Int) + 1)] W (CR K W.heap.size W (resQ ((fullP K.ws).E l p d) d) (okE W)))
 | 0, p, h => by omega
 | n + 1, p, h => by
  have ih := clm_all K hK hW n
  have hup : ∀ q, p < q → q ≤ K.ws.length → K.ws.length - q < n := fun q h1 h2 => by omega
  have hS : ∀ (d : Nat) W, d ≤ 64 → SW K W p d false false → Calls Tryz.prog 75 #[.pointer (some ⟨K.g, 0, none⟩)] W (CR K W.heap.size W (resQ ((fullP K.ws).S p d) d) (okE W)) := fun d W hd sw => by
   rw [full_S]
   exact single_any K hK hW p d _ _ ((full_mono K.ws).E 0) W sw hd (fun q d W h1 h2 h3 => (ih q (hup q h1 h3.p_le)).1 d W h2 h3) (fun q d W h1 h2 h3 => (ih q (hup q h1 h3.p_le)).2 0 d W (by omega) h2 h3)
  exact ⟨hS, fun l d W hl hd sw => exprC_any K hK l p d hl W sw hd (fun W h => hS d W hd h) (fun l q d W h1 h2 h3 h4 => (ih q (hup q h1 h4.p_le)).2 l d W h2 h3 h4)⟩
end Go.Proofs.YtaamkfajnpobfaaGreat

namespace Go.Proofs.YtaamkfajnpobfaaGreat
open Go.RowKit

def w8 : List (List Nat) := [[111, 110, 101], [103, 105, 118, 101], [97, 110, 100], [111, 114], [115, 99, 97, 108, 101], [119, 104, 101, 110], [117, 110, 116, 105, 108], [97, 110, 121, 116, 105, 109, 101]]
def opTo (t : List Nat) (i : Nat) : Int := if w8.idxOf t < i then (w8.idxOf t : Int) + 2 else 0
section
variable {β : Type}
def Stt (p0 : Nat) (R : Rs β) (d : Nat) (cont : Nat → Rs β) (q : Nat) (o : Int) (dp bd : Bool) : Prop :=
 (bd = false → o = (d : Int) + 1 ∧ dp = false ∧ p0 < q ∧ d + 1 ≤ 64 ∧ R = cont q) ∧ (bd = true → R = .bad q dp ∧ (d : Int) + 1 ≤ o ∧ o ≤ (d : Int) + 2)
variable {p0 q d : Nat} {R : Rs β} {o : Int} {dp bd : Bool}
theorem Stt.o_le {cont : Nat → Rs β} (h : Stt p0 R d cont q o dp bd) (hd : d ≤ 64) : 1 ≤ o ∧ o ≤ 66 := by
 cases bd with
 | false => have := (h.1 rfl).1; omega
 | true => have := (h.2 rfl).2; omega
def bothQ {α : Type} (r : Rs α) (d q : Nat) (o : Int) (dp bd : Bool) (x : α) (p' : Nat) (o' : Int) (dp' bd' : Bool) : Prop := (bd = false → resQ r d x p' o' dp' bd') ∧ (bd = true → sameQ q o dp x p' o' dp' bd')
theorem Stt.part {α : Type} {E : Nat → Nat → Rs α} {g : α → Nat → Rs β} {x : α} {q' : Nat} {o' : Int} {dp' bd' : Bool} (h : Stt p0 R d (fun q => (E q (d + 1)).bind g) q o dp bd) (hM : Mono E) (hb : bothQ (E q (d + 1)) (d + 1) q o dp bd x q' o' dp' bd') : Stt p0 R d (g x) q' o' dp' bd' := by
 cases bd with
 | true =>
  obtain ⟨rfl, rfl, rfl, rfl⟩ := hb.2 rfl
  exact ⟨fun h => (by cases h), fun _ => h.2 rfl⟩
 | false =>
  obtain ⟨rfl, rfl, h1, h2, hR⟩ := h.1 rfl
  have hres := hb.1 rfl
  unfold resQ at hres
  cases hr : E q (d + 1) with
  | out => rw [hr] at hres; exact hres.elim
  | bad a b =>
   rw [hr] at hres
   dsimp only at hR
   rw [hr] at hR
   obtain ⟨rfl, rfl, rfl, h3, h4⟩ := hres
   exact ⟨fun h => (by cases h), fun _ => ⟨hR, by omega, by omega⟩⟩
  | ok a b =>
   rw [hr] at hres
   dsimp only at hR
   rw [hr] at hR
   have hm := hM _ _ _ _ hr
   obtain ⟨rfl, rfl, h3, rfl, rfl⟩ := hres
   exact ⟨fun _ => ⟨by omega, rfl, by omega, h2, hR⟩, fun h => by cases h⟩
theorem Stt.sign {ws : List Wd} {s : List Nat} {g : Nat → Rs β} (h : Stt p0 R d (fun q => (signQ ws s q).bind fun _ q => g q) q o dp bd) : Stt p0 R d g (takeQ ws s q bd).1 o dp (takeQ ws s q bd).2 := by
 cases bd with
 | true => rw [takeQ_bad]; exact ⟨fun h => (by cases h), fun _ => h.2 rfl⟩
 | false =>
  obtain ⟨rfl, rfl, h1, h2, hR⟩ := h.1 rfl
  rcases takeQ_sign (ws := ws) (s := s) (q := q) with ⟨h3, h4⟩ | ⟨h3, h4⟩
  ·rw [h3]
   dsimp only at hR ⊢
   rw [h4, Rs.bind_ok] at hR
   exact ⟨fun _ => ⟨rfl, rfl, by omega, h2, hR⟩, fun h => by cases h⟩
  ·rw [h3]
   dsimp only at hR ⊢
   rw [h4, Rs.bind_bad] at hR
   exact ⟨fun h => (by cases h), fun _ => ⟨hR, by omega, by omega⟩⟩
theorem Stt.close {x : β} (h : Stt p0 R d (fun q => .ok x q) q o dp bd) : resQ R d x q (o - 1) dp bd := by
 cases bd with
 | true =>
  obtain ⟨h1, h2, h3⟩ := h.2 rfl
  rw [h1]
  exact ⟨rfl, rfl, rfl, by omega, by omega⟩
 | false =>
  obtain ⟨rfl, rfl, h1, h2, hR⟩ := h.1 rfl
  rw [hR]
  exact ⟨rfl, rfl, by omega, rfl, rfl⟩
end
theorem exprS_any (K : Ctx) (hK : K.Ok) (hW : WsB K.ws) (q d : Nat) (o : Int) (dp bd : Bool) (hg : bd = false → o = (d : Int) ∧ dp = false ∧ d ≤ 64) (W : World) (sw : SW K W q o dp bd) :
  Calls Tryz.prog 33 #[.pointer (some ⟨K.g, 0, none⟩), .int .i64 1] W (CR K W.heap.size W (bothQ ((fullP K.ws).E 0 q d) d q o dp bd) (okE W)) := by
 cases bd with
 | false =>
  obtain ⟨rfl, rfl, hd⟩ := hg rfl
  refine ((clm_all K hK hW (K.ws.length - q + 1) q (by omega)).2 0 d W (by omega) hd sw).mono fun e W' h => ?_
  obtain ⟨hf, v, x, p', o', dp', bd', rfl, h2, h3, h4⟩ := h
  exact ⟨hf, v, x, p', o', dp', bd', rfl, h2, h3, fun _ => h4, fun h => by cases h⟩
 | true =>
  refine (exprB_any K hK q _ dp 1 W sw).mono fun e W' h => ?_
  obtain ⟨hb, rfl⟩ := h
  exact ⟨Fz.of hb, _, zeroEx, q, _, dp, true, rfl, ⟨fun _ => False, RepE.zero _ _, fun b hb => hb.elim⟩, sw.step hb, fun h => (by cases h), fun _ => ⟨rfl, rfl, rfl, rfl⟩⟩
structure TmJ (K : Ctx) (R : Rs Tm) (d p0 : Nat) (op : Int) (w : World) (g2 g5 : Nat) (q : Nat) (o : Int) (dp bd : Bool) (nm : List Nat) (es : List Ex) (ts : List Tm) (evs tvs : List Value) (AE AT : Option Addr) (cE cT : Nat) (S : Nat → Prop) (wr : World) : Prop where
 sw : SW K wr q o dp bd
 bel : Fz w.heap.size K.g w wr
 k2 : Blk wr g2 25 #[.int .i64 0, .string { data := #[] }, .slice none 0 0, .slice none 0 0]
 k5 : Blk wr g5 25 #[.int .i64 op, .string (strOf nm), .slice AE es.length cE, .slice AT ts.length cT]
 aq : ArgQ wr g5 g5 es ts evs tvs (.slice AE es.length cE) (.slice AT ts.length cT) S
 nm_ok : (∀ c ∈ nm, c < 256) ∧ nm.length ≤ 4000
 le : es.length ≤ 10 ∧ ts.length ≤ 10
 stt : Stt p0 R d (fun q => (signQ K.ws [41] q).bind fun _ q => .ok (.mk op nm es ts) q) q o dp bd
end Go.Proofs.YtaamkfajnpobfaaGreat

namespace Go.Proofs.YtaamkfajnpobfaaGreat

theorem nodesL_append : ∀ (l r : List Ex), nodesL (l ++ r) = nodesL l + nodesL r
 | [], r => by rw [List.nil_append, nodesL]; omega
 | x :: l, r => by rw [List.cons_append, nodesL, nodesL, nodesL_append l r]; omega
def NdE (f : Nat → Nat → Rs Ex) : Prop := ∀ p d x q, f p d = .ok x q → x.nodes + p ≤ q
theorem parts_nd {α : Type} (ws : List Wd) (m : α → Nat) : ∀ (ones : List (Nat → Nat → Rs α)), (∀ f ∈ ones, ∀ p d x q, f p d = .ok x q → m x + p ≤ q) → ∀ first p d xs q, partsP ws ones first p d = .ok xs q → (xs.map m).sum + p ≤ q
 | [], _, first, p, d, xs, q, h => by
  injection h with h h2
  subst h
  simp
  omega
 | f :: r, hm, first, p, d, xs, q, h => by
  rw [partsP] at h
  obtain ⟨u, p1, h1, h⟩ := Rs.bind_eq_ok h
  obtain ⟨x, p2, h2, h⟩ := Rs.bind_eq_ok h
  obtain ⟨ys, p3, h3, h⟩ := Rs.bind_eq_ok h
  injection h with h h4
  subst h
  have e1 : p ≤ p1 := by
   split at h1
   ·injection h1 with _ h1; omega
   ·have := (signQ_ok h1).1; omega
  have e2 := hm f (by simp) _ _ _ _ h2
  have e3 := parts_nd ws m r (fun g hg => hm g (by simp [hg])) _ _ _ _ _ h3
  simp only [List.map_cons, List.sum_cons]
  omega
theorem within_nd {α : Type} {ws : List Wd} {m : α → Nat} {ones : List (Nat → Nat → Rs α)} (hm : ∀ f ∈ ones, ∀ p d x q, f p d = .ok x q → m x + p ≤ q) {p d q : Nat} {xs : List α} (h : withinP ws ones p d = .ok xs q) : (xs.map m).sum + p + 2 ≤ q := by
 unfold withinP at h
 obtain ⟨u, p1, h1, h⟩ := Rs.bind_eq_ok h
 obtain ⟨u2, p2, h2, h⟩ := Rs.bind_eq_ok h
 obtain ⟨ys, p3, h3, h⟩ := Rs.bind_eq_ok h
 obtain ⟨u3, p4, h4, h⟩ := Rs.bind_eq_ok h
 injection h with h h5
 subst h
 have := parts_nd ws m ones hm _ _ _ _ _ h3
 have := (signQ_ok h1).1
 have := (enterP_ok h2).1
 have := (signQ_ok h4).1
 omega
theorem nodesL_sum : ∀ l : List Ex, nodesL l = (l.map Ex.nodes).sum
 | [] => by rw [nodesL]; rfl
 | x :: l => by rw [nodesL, nodesL_sum l]; rfl
theorem called_nd {ws : List Wd} {E0 : Nat → Nat → Rs Ex} (hE : NdE E0) {op : Int} {k p d q : Nat} {x : Ex} (h : calledP ws E0 op k p d = .ok x q) : x.nodes + p ≤ q := by
 unfold calledP at h
 obtain ⟨xs, p1, h1, h⟩ := Rs.bind_eq_ok h
 injection h with h h2
 subst h
 have := within_nd (m := Ex.nodes) (fun f hf => (List.mem_replicate.1 hf).2 ▸ hE) h1
 rw [Ex.nodes_mk, nodesL_sum]
 omega
theorem atom_nd {ws : List Wd} {E0 : Nat → Nat → Rs Ex} (hE : NdE E0) : NdE (atomP ws E0) := by
 intro p d x q h
 unfold atomP at h
 have leaf : ∀ {op n : Int} {nm : List Nat}, (Ex.mk op n nm []).nodes = 1 := fun {op n nm} => by rw [Ex.nodes_mk, nodesL]
 split at h
 ·injection h with h h2
  subst h
  rw [leaf]; omega
 split at h
 ·injection h with h h2
  subst h
  rw [leaf]; omega
 split at h
 ·split at h
  ·injection h with h h2
   subst h
   rw [leaf]; omega
  split at h
  ·exact called_nd hE h
  split at h
  ·exact called_nd hE h
  split at h
  ·exact called_nd hE h
  ·obtain ⟨nm, p1, h1, h⟩ := Rs.bind_eq_ok h
   injection h with h h2
   subst h
   have := (nameP_eq h1).1
   rw [leaf]; omega
 split at h
 ·obtain ⟨xs, p1, h1, h⟩ := Rs.bind_eq_ok h
  injection h with h h2
  have hl := withinP_len h1
  have ha := within_nd (m := Ex.nodes) (fun f hf => (List.mem_singleton.1 hf) ▸ hE) h1
  match xs, hl with
  | [y], _ =>
   subst h
   simp at ha
   show y.nodes + p ≤ q
   omega
 ·cases h
theorem ahead_nd {S : Nat → Nat → Rs Ex} (hS : NdE S) {op : Int} : NdE (aheadP S op) := by
 intro p d x q h
 unfold aheadP at h
 obtain ⟨u, p1, h1, h⟩ := Rs.bind_eq_ok h
 obtain ⟨y, p2, h2, h⟩ := Rs.bind_eq_ok h
 injection h with h h3
 subst h
 have := (enterP_ok h1).1
 have := hS _ _ _ _ h2
 rw [Ex.nodes_mk, nodesL, nodesL]
 omega
theorem unary_nd {ws : List Wd} {S E0 : Nat → Nat → Rs Ex} (hS : NdE S) (hE : NdE E0) : NdE (unaryP ws S E0) := by
 intro p d x q h
 unfold unaryP at h
 split at h
 ·exact ahead_nd hS _ _ _ _ h
 split at h
 ·exact ahead_nd hS _ _ _ _ h
 ·exact atom_nd hE _ _ _ _ h
structure NdF (f : PF) : Prop where
 E : ∀ lvl, NdE (f.E lvl)
 L : ∀ lvl x p d y q, f.L lvl x p d = .ok y q → y.nodes + p ≤ q + x.nodes
 S : NdE f.S
theorem loop_nd {ws : List Wd} {f : PF} (hf : NdF f) {lvl p d q : Nat} {x y : Ex} (h : loopP ws f lvl x p d = .ok y q) : y.nodes + p ≤ q + x.nodes := by
 unfold loopP at h
 cases ho : opAt ws lvl p with
 | none =>
  rw [ho] at h
  injection h with h h2
  subst h
  omega
 | some op =>
  rw [ho] at h
  obtain ⟨r, p1, h1, h⟩ := Rs.bind_eq_ok h
  have h2 := hf.E _ _ _ _ _ h1
  have hm : (mk2 op x r).nodes = 1 + x.nodes + r.nodes := by unfold mk2; rw [Ex.nodes_mk, nodesL, nodesL, nodesL]; omega
  split at h
  ·injection h with h h3
   subst h
   omega
  ·have := hf.L _ _ _ _ _ _ h
   omega
theorem lev_nd {L : Nat → Ex → Nat → Nat → Rs Ex} {S : Nat → Nat → Rs Ex} (hL : ∀ lvl x p d y q, L lvl x p d = .ok y q → y.nodes + p ≤ q + x.nodes) (hS : NdE S) : ∀ i, NdE (levN L S i)
 | 0 => hS
 | i + 1 => fun p d x q h => by
  rw [levN] at h
  obtain ⟨y, p1, h1, h⟩ := Rs.bind_eq_ok h
  have := hL _ _ _ _ _ _ h
  have := lev_nd hL hS i _ _ _ _ h1
  omega
theorem fuel_nd (ws : List Wd) : ∀ n, NdF (fuelP ws n)
 | 0 => ⟨fun _ _ _ _ _ h => by (cases h), fun _ _ _ _ _ _ h => by (cases h), fun _ _ _ _ h => by (cases h)⟩
 | n + 1 => by
  have ih := fuel_nd ws n
  have hL : ∀ lvl x p d y q, loopP ws (fuelP ws n) lvl x p d = .ok y q → y.nodes + p ≤ q + x.nodes := fun lvl x p d y q h => loop_nd ih h
  have hS := unary_nd (ws := ws) ih.S (ih.E 0)
  exact ⟨fun lvl => lev_nd hL hS _, hL, hS⟩
def NdT (f : Nat → Nat → Rs Tm) : Prop := ∀ p d x q, f p d = .ok x q → x.nodes + p ≤ q
def Part.nodes : Part → Nat
 | .inl e => e.nodes
 | .inr t => t.nodes
end Go.Proofs.YtaamkfajnpobfaaGreat

namespace Go.Proofs.YtaamkfajnpobfaaGreat
open Go.RowKit

theorem ends_any (K : Ctx) (hK : K.Ok) (p : Nat) (o : Int) (dp bd : Bool) (w : World) (h : SW K w p o dp bd) : Calls Tryz.prog 28 #[.pointer (some ⟨K.g, 0, none⟩), .int .i64 (K.en : Int)] w fun e w' => e = .returned (.int .i64 (if dp = true then -2 else if p < K.ws.length then ((K.at_ p).pos : Int) else if bd = true then (K.en : Int) else -1)) ∧ Grow w w' := by
 have bel := Below.refl w.heap.size w
 have k99 := h.blk
 have hrd := h.rd
 have hlt := h.blk.lt
 have hBg := hK.le
 have hpl := h.p_le
 refine Zs 35 Tryz.func28 ?_
 refine Zsr ?_
 refine Za ?_
 refine Zk3 0 1 4 (Zts (Zsr ?_))
 refine Zm ?_
 refine Zv (Runs.nilCheck rfl rfl) ?_
 refine Zf 3 Tryz.underlying69 ?_
 refine Zv (Runs.loadB rfl rfl Tryz.underlying4 rfl k99 rfl) ?_
 refine Zk4 0 1 4 8 (Zt ?_)
 refine Cd.cond rfl (fun hc => ?_) (fun hc => ?_)
 ·rw [if_pos hc]
  refine Zsr ?_
  refine Za ?_
  refine Zk4 0 1 4 8 (Zt (Cd.ret (Post.then_ret ?_)))
  refine Post.end1 rfl rfl (.inl rfl) ?_
  exact ⟨rfl, bel⟩
 rw [if_neg (by rw [hc]; simp)]
 refine Cd.skip (Zts (Cd.seq ?_))
 refine Cd.draw 10 (by kernel_rfl) [] (.inl rfl) rfl Grow Grow.refl (fun _ _ _ => Grow.trans) ?_
 intro w1 hw1 zw1
 replace bel := bel.step hw1
 replace k99 := k99.step hw1
 have zbel := bel.size
 have zlt := k99.lt
 refine Zdm ?_
 refine Zd (fun w hG => Runs.nilCheck rfl rfl) ?_
 refine Zd (fun w hG => Runs.fieldB 1 rfl rfl Tryz.underlying69 rfl (by kernel_rfl)) ?_
 refine Zd (fun w hG => Runs.loadB rfl rfl Tryz.underlying3 rfl (k99.step hG) rfl) ?_
 refine Zdm ?_
 refine Zd (fun w hG => Runs.nilCheck rfl rfl) ?_
 refine Zd (fun w hG => Runs.fieldB 0 rfl rfl Tryz.underlying69 rfl (by kernel_rfl)) ?_
 refine Zd (fun w hG => Runs.loadB rfl rfl Tryz.underlying64 rfl (k99.step hG) rfl) ?_
 refine Zd (fun w hG => Runs.len rfl rfl Tryz.underlying64) ?_
 refine Zd (fun w hG => Runs.lss rfl rfl rfl) ?_
 refine Dr.nil ?_
 refine FinX.done (F' := [(0, _), (1, _), (4, _), (8, _), (18, _)]) rfl ⟨rfl, rfl, rfl, rfl, rfl, trivial⟩ ?_
 intro w2 hw2 fw2
 replace bel := bel.step hw2
 replace k99 := k99.step hw2
 refine Zk5 0 1 4 8 18 (Zt ?_)
 refine Cd.condD rfl (fun hc => ?_) (fun hc => ?_)
 ·have hp : p < K.ws.length := by omega
  obtain ⟨ad, hA, hadb, hcell⟩ := hrd.2 (by omega)
  obtain ⟨x, hx⟩ : ∃ x, K.ws[p]? = some x := ⟨_, List.getElem?_eq_getElem (by omega)⟩
  have hat : K.at_ p = x := by unfold Ctx.at_; rw [List.getD_eq_getElem?_getD, hx]; rfl
  have hce : ∀ W, Below w.heap.size w W → ∀ (q : Nat) (u : Value), ([.int .i64 x.kind, .string (strOf x.text), .int .i64 x.n, .int .i64 (x.pos : Int)] : List Value)[q]? = some u → W.cell? ((ad.add (p * 4)).add q) = some u := fun W hb q u hu => by
   rw [(hb.mono (show K.B ≤ w.heap.size by omega)).cell (by rw [block_of_add, block_of_add]; exact hadb), add_of_add]
   exact hcell _ _ (wdCells_row K.ws p x hx q u hu)
  rw [hA] at k99
  rw [if_pos hp, hat]
  refine Cd.seq ?_
  refine Cd.weak (F' := [(0, _), (1, _), (8, _), (18, _)]) ⟨rfl, rfl, rfl, rfl, trivial⟩ ?_
  refine Cd.draw 12 (by kernel_rfl) [] (.inl rfl) rfl Grow Grow.refl (fun _ _ _ => Grow.trans) ?_
  intro w3 hw3 zw3
  replace bel := bel.step hw3
  replace k99 := k99.step hw3
  have zbel := bel.size
  have zlt := k99.lt
  refine Zdm ?_
  refine Zd (fun w hG => Runs.nilCheck rfl rfl) ?_
  refine Zd (fun w hG => Runs.fieldB 0 rfl rfl Tryz.underlying69 rfl (by kernel_rfl)) ?_
  refine Zd (fun w hG => Runs.loadB rfl rfl Tryz.underlying64 rfl (k99.step hG) rfl) ?_
  refine Zdm ?_
  refine Zd (fun w hG => Runs.nilCheck rfl rfl) ?_
  refine Zd (fun w hG => Runs.fieldB 1 rfl rfl Tryz.underlying69 rfl (by kernel_rfl)) ?_
  refine Zd (fun w hG => Runs.loadB rfl rfl Tryz.underlying3 rfl (k99.step hG) rfl) ?_
  refine Zd (fun w hG => Runs.indexN rfl rfl rfl Tryz.underlying64 (s := 4) (by kernel_rfl) (j := p) rfl (by omega)) ?_
  refine Zd (fun w hG => Runs.fieldA 3 rfl rfl Tryz.underlying109 rfl (by kernel_rfl)) ?_
  refine Zd (fun w hG => Runs.load1 rfl rfl Tryz.underlying3 rfl (hce _ (bel.step hG) 3 _ rfl)) ?_
  refine Zd (fun w hG => Runs.assign rfl rfl) ?_
  refine Dr.nil ?_
  refine FinX.done (F' := [(0, _), (1, _), (4, _), (8, _), (18, _)]) rfl ⟨rfl, rfl, rfl, rfl, rfl, trivial⟩ ?_
  intro w4 hw4 fw4
  replace bel := bel.step hw4
  replace k99 := k99.step hw4
  refine Zk5 0 1 4 8 18 (Zt (Cd.ret (Post.then_ret ?_)))
  refine Post.end1 rfl rfl (.inl rfl) ?_
  exact ⟨rfl, bel⟩
 rw [if_neg (by omega)]
 refine Cd.skip (Zts (Zsr ?_))
 refine Zm ?_
 refine Zv (Runs.nilCheck rfl rfl) ?_
 refine Zf 4 Tryz.underlying69 ?_
 refine Zv (Runs.loadB rfl rfl Tryz.underlying4 rfl k99 rfl) ?_
 refine Zk6 0 1 4 8 18 33 (Zt ?_)
 refine Cd.cond rfl (fun hb => ?_) (fun hb => ?_)
 ·rw [if_pos hb]
  refine Zsr ?_
  refine Zm ?_
  refine Za ?_
  refine Zk6 0 1 4 8 18 33 (Zt (Cd.ret (Post.then_ret ?_)))
  refine Post.end1 rfl rfl (.inl rfl) ?_
  exact ⟨rfl, bel⟩
 ·rw [if_neg (by rw [hb]; simp)]
  refine Cd.skip (Ztq ?_)
  refine Za ?_
  refine Zk6 0 1 4 8 18 33 (Zt (Cd.ret ?_))
  refine Post.end1 rfl rfl (.inl rfl) ?_
  exact ⟨rfl, bel⟩
theorem depthL_append : ∀ (l r : List Ex), depthL (l ++ r) = max (depthL l) (depthL r)
 | [], r => by rw [List.nil_append, depthL]; omega
 | x :: l, r => by rw [List.cons_append, depthL, depthL, depthL_append l r]; omega
theorem sizeR_any (n : Nat) (e : Ex) (B : Nat) (v : Value) (w : World) (hn : e.nodes ≤ n) (h9 : e.nodes ≤ 100000) (hrep : Rep w B e v) (hB : B ≤ w.heap.size) : Calls Tryz.prog 34 #[v] w fun en w' => en = .returned (.tuple #[.int .i64 (e.nodes : Int), .int .i64 (e.depth : Int)]) ∧ Grow w w' := by
 induction n generalizing e B v w with
 | zero => exact absurd e.nodes_pos (by omega)
 | succ n ih =>
  obtain ⟨A, c, rfl, hv⟩ := hrep.open
  have bel := Below.refl w.heap.size w
  have hne : e.nodes = 1 + nodesL e.args := by rw [e.eta, Ex.nodes_mk]; rfl
  have hde : e.depth = 1 + depthL e.args := by rw [e.eta, Ex.depth_mk]; rfl
  refine Zs 34 Tryz.func34 ?_
  refine Zsr ?_
  refine Seq.box rfl rfl rfl rfl rfl ?_
  intro g1 w1 n1
  have e1 := Nat.le_trans bel.size n1.ge
  replace bel := bel.step n1.below
  have k1 := n1.blk
  refine Za ?_
  refine Za ?_
  refine Zk4 0 1 2 3 (Ztq ?_)
  refine Za ?_
  refine Za ?_
  refine Zk6 0 1 2 3 4 5 (Zts (Zsr ?_))
  refine Za ?_
  refine Zk7 0 1 2 3 4 5 6 (Zt (Cd.block ?_))
  refine Cd.loop (σ := Nat) (fun i => [(1, .pointer (some ⟨g1, 0, none⟩)), (4, .int .i64 ((1 + nodesL (e.args.take i) : Nat) : Int)), (5, .int .i64 ((1 + depthL (e.args.take i) : Nat) : Int)), (6, .int .i64 (i : Int))])
   (fun i wr => i ≤ e.args.length ∧ Below w.heap.size w wr ∧ Blk wr g1 35 #[.int .i64 e.op, .int .i64 e.n, .string (strOf e.name), .slice A e.args.length c]) (fun i => e.args.length - i) 0 ⟨Nat.zero_le _, bel, k1⟩ ⟨rfl, rfl, rfl, rfl, trivial⟩ ?_
  clear bel k1
  rintro i wr ⟨hi, bel, k1⟩
  have h60 := hv.h60
  refine Cd.seq (Zsr ?_)
  refine Zm ?_
  refine Zf 3 Tryz.underlying35 ?_
  refine Zv (Runs.loadB rfl rfl Tryz.underlying22 rfl k1 rfl) ?_
  refine Zv (Runs.len rfl rfl Tryz.underlying22) ?_
  refine Zv (Runs.lss rfl rfl rfl) ?_
  refine Zk5 1 4 5 6 13 (Zt ?_)
  refine Cd.condD rfl (fun hc => ?_) (fun hc => ?_)
  ·obtain ⟨x, hx⟩ : ∃ x, e.args[i]? = some x := ⟨_, List.getElem?_eq_getElem (show i < e.args.length by omega)⟩
   obtain ⟨ad, Ax, cx, rfl, hbl, hrx, hc⟩ := hv.arg i x hx
   have hxm := List.mem_of_getElem? hx
   have hxn := Ex.arg_nodes hxm
   have hc := fun W (hb : Below w.heap.size w W) j u hj => ((hb.mono hB).cell (p := (ad.add (i * 4)).add j) (by rw [block_of_add, block_of_add]; exact hbl)).trans (hc j u hj)
   have hrec := fun W (hb : Below w.heap.size w W) => ih x B _ W (by omega) (by omega) (hrx.below (hb.mono hB)) (Nat.le_trans hB hb.size)
   have htk : e.args.take (i + 1) = e.args.take i ++ [x] := by rw [List.take_add_one, hx]; rfl
   have hnt : nodesL (e.args.take (i + 1)) = nodesL (e.args.take i) + x.nodes := by rw [htk, nodesL_append]; show _ + (x.nodes + nodesL []) = _; rw [nodesL]; omega
   have hdt : depthL (e.args.take (i + 1)) = max (depthL (e.args.take i)) x.depth := by rw [htk, depthL_append]; show max _ (max x.depth (depthL [])) = _; rw [depthL]; omega
   have hle : nodesL (e.args.take (i + 1)) ≤ nodesL e.args := by
    have := nodesL_append (e.args.take (i + 1)) (e.args.drop (i + 1))
    rw [List.take_append_drop] at this
    omega
   have hdn := depthL_nodesL (e.args.take i)
   have hdx := x.depth_nodes
   generalize nodesL (e.args.take i) = N0 at *
   generalize depthL (e.args.take i) = D0 at *
   refine Cd.skip (Zts (Cd.block (Zsr ?_)))
   refine Zf 3 Tryz.underlying35 ?_
   refine Zv (Runs.loadB rfl rfl Tryz.underlying22 rfl k1 rfl) ?_
   refine Zm ?_
   refine Zv (Runs.indexN rfl rfl rfl Tryz.underlying22 (s := 4) (by kernel_rfl) (j := i) rfl (by omega)) ?_
   refine Zv (Runs.loadF (ps := [.int .i64 x.op, .int .i64 x.n, .string (strOf x.name), .slice Ax x.args.length cx]) rfl rfl Tryz.underlying35 rfl (m := 4) (by kernel_rfl) rfl (hc _ bel)) ?_
   refine Zc (Ze Tryz.func34) (hrec _ bel) ?_
   rintro en w6 ⟨rfl, hb6⟩
   refine ⟨_, rfl, ?_⟩
   replace bel := bel.step hb6
   replace k1 := k1.step hb6
   refine Zm ?_
   refine Zv (Runs.extract rfl rfl rfl) ?_
   refine Zv (Runs.extract rfl rfl rfl) ?_
   refine Za ?_
   refine Za ?_
   refine Zk7 1 4 5 6 7 8 13 (Ztq ?_)
   refine Zm ?_
   refine Zm ?_
   refine Za_ ?_
   refine Za ?_
   refine Zk7 1 4 5 6 7 8 13 (Ztr ?_)
   refine Zm ?_
   refine Zm ?_
   refine Za_ ?_
   refine Zv (Runs.max2 rfl rfl rfl) ?_
   refine Za ?_
   refine Zk7 1 4 5 6 7 8 13 (Post.block_normal (Ztr ?_))
   refine Zm ?_
   refine Za_ ?_
   refine Za ?_
   refine Zk7 1 4 5 6 7 8 13 ?_
   refine Post.round (i + 1) ⟨rfl, ?_, ?_, rfl, trivial⟩ ⟨by omega, bel, k1⟩ (by omega)
   ·exact congrArg (fun x : Int => some (Value.int .i64 x)) (by rw [hnt]; omega)
   ·exact congrArg (fun x : Int => some (Value.int .i64 x)) (by rw [hdt]; omega)
  ·obtain rfl : i = e.args.length := by omega
   refine Cd.exit (Post.then_exit (Post.round_exit (Post.block_exit (Ztq ?_))))
   refine Zm ?_
   refine Zm ?_
   refine Za ?_
   refine Za ?_
   refine Zk7 1 2 3 4 5 6 13 (Zt (Cd.ret ?_))
   refine Post.end2 rfl rfl rfl (.inl rfl) ?_
   rw [List.take_length, hne, hde]
   exact ⟨rfl, bel⟩
end Go.Proofs.YtaamkfajnpobfaaGreat

namespace Go.Proofs.YtaamkfajnpobfaaGreat
open Go.RowKit

theorem run_build_state (A : Option Addr) (n c : Nat) (w : World) : (Instr.build 69 #[(0, .slice A n c)]).run Tryz.prog w = .ok (.agg #[.slice A n c, .int .i64 0, .int .i64 0, .bool false, .bool false]) w := by
 have hu := Tryz.underlying69
 go_simp
structure RsT (lo hi : Nat) (S : Nat → Prop) (x : Tm) (v : Value) (W : World) : Prop where
 rep : RepT W S x v
 bd : ∀ b, S b → lo ≤ b ∧ b < hi
 hi_le : hi ≤ W.heap.size
theorem RsT.step {lo hi : Nat} {S : Nat → Prop} {x : Tm} {v : Value} {W W' : World} (r : RsT lo hi S x v W) (h : Below W.heap.size W W') : RsT lo hi S x v W' :=
 ⟨r.rep.mono (fun _ h => h) (fun a ha => h.cell (Nat.lt_of_lt_of_le (r.bd _ ha).2 r.hi_le)), r.bd, Nat.le_trans r.hi_le h.size⟩
theorem RsT.put {lo hi g : Nat} {T : TypeId} {cur cs : Array Value} {S : Nat → Prop} {x : Tm} {v : Value} {W W' : World} (r : RsT lo hi S x v W) (_k : Blk W g T cur) (p : Put W W' g T cs) {E : Prop} (_e : E) (hne : g < lo ∨ hi ≤ g := by omega) : RsT lo hi S x v W' :=
 ⟨r.rep.mono (fun _ h => h) (fun a ha => World.cell?_of_block (p.grown.block _ (Nat.lt_of_lt_of_le (r.bd _ ha).2 r.hi_le) (fun e => by injection e with e; have := r.bd _ ha; omega))), r.bd, Nat.le_trans r.hi_le (Nat.le_of_eq p.size.symm)⟩
theorem endPos_le (l : List Nat) (hl : ∀ x ∈ l, x < 256) (p : Nat) : endPos l p ≤ l.length := by
 unfold endPos
 rw [List.getD_eq_getElem?_getD]
 cases hp : (lexAll l).1[p]? with
 | none => exact Nat.le_refl _
 | some x => exact Nat.le_of_lt (lexW_bd l hl _ _ x (List.mem_of_getElem? hp)).2.2.2
theorem refParseX_any (l : List Nat) (w : World) (hl : ∀ x ∈ l, x < 256) (h4 : l.length ≤ 4000) :
  Calls Tryz.prog 13 #[.string (strOf l)] w fun e w' => Below w.heap.size w w' ∧ ∃ (v : Value) (S : Nat → Prop), e = .returned (.tuple #[v, .int .i64 ((parseX l).2.1 : Int), .int .i64 (parseX l).2.2]) ∧ RepE w' S (parseX l).1 v ∧ ∀ b, S b → w.heap.size ≤ b ∧ b < w'.heap.size := by
 have bel := Below.refl w.heap.size w
 have hpn : ∀ (q : Nat) (n : Int), parAt l (exprQ (lexAll l).1) = (q, n) → n ≠ 0 → parseX l = (zeroEx, q, n) := fun q n h hn => by
  unfold parseX
  rw [h, if_pos hn]
 have hpo : ∀ x q, parAt l (exprQ (lexAll l).1) = (0, 0) → exprQ (lexAll l).1 = .ok x q → parseX l = if rightB x = true then (x, 0, 0) else (zeroEx, 0, 13) := fun x q h hx => by
  unfold parseX
  rw [h, if_neg (fun h => h rfl), hx]
 have hrw := fun W => refWords_any l W hl h4
 refine Zs 50 Tryz.func13 ?_
 refine Zsr ?_
 refine Zl zero_api_Expr ?_
 intro g2 w1 n2
 have e2 := Nat.le_trans bel.size n2.ge
 replace bel := bel.step n2.below
 have k2 := n2.blk
 refine Za ?_
 refine Za ?_
 refine Zk4 0 2 3 4 (Ztq ?_)
 refine Zm ?_
 refine Zc (Ze Tryz.func26) (hrw _) ?_
 rintro e w5 ⟨hb5, ⟨p, h2, rfl⟩ | ⟨h2, v, rfl, own⟩⟩
 ·have hpa : parAt l (exprQ (lexAll l).1) = (p, 11) := by unfold parAt; rw [if_neg (by omega), h2]
  have hps := hpn _ _ hpa (by omega)
  refine ⟨_, rfl, ?_⟩
  replace bel := bel.step hb5
  replace k2 := k2.step hb5
  refine Zm ?_
  refine Zv (Runs.extract rfl rfl rfl) ?_
  refine Zv (Runs.extract rfl rfl rfl) ?_
  refine Za ?_
  refine Za ?_
  refine Zk6 0 2 3 4 5 6 (Zts (Zsr ?_))
  refine Zm ?_
  refine Zv (Runs.geq rfl rfl rfl) ?_
  refine Zk7 0 2 3 4 5 6 18 (Zt ?_)
  refine Cd.condT rfl (by simp) ?_
  refine Zsr ?_
  refine Zv (Runs.build rfl rfl (run_build_E0 _)) ?_
  refine Zm ?_
  refine Zo 4 k2 ?_
  intro w2 pw2
  replace bel := bel.put k2 pw2 e2
  replace k2 := pw2.blk
  refine Za ?_
  refine Za ?_
  refine Zk7 0 2 3 4 5 6 18 (Zt (Cd.ret (Post.then_ret ?_)))
  refine Post.endC3 rfl rfl rfl rfl k2 Tryz.underlying35 rfl (m := 4) (by kernel_rfl) rfl (.inl rfl) ?_
  rw [hps]
  exact ⟨bel, _, fun _ => False, rfl, RepE.zero _ _, fun b hb => hb.elim⟩
 obtain ⟨A, cap, rfl, hrd⟩ := own.reads
 refine ⟨_, rfl, ?_⟩
 replace bel := bel.step hb5
 replace k2 := k2.step hb5
 refine Zm ?_
 refine Zv (Runs.extract rfl rfl rfl) ?_
 refine Zv (Runs.extract rfl rfl rfl) ?_
 refine Za ?_
 refine Za ?_
 refine Zk6 0 2 3 4 5 6 (Zts (Zsr ?_))
 refine Zm ?_
 refine Zv (Runs.geq rfl rfl rfl) ?_
 refine Zk7 0 2 3 4 5 6 18 (Zt ?_)
 refine Cd.condF rfl (by simp) ?_
 refine Cd.skip (Ztq ?_)
 refine Zm ?_
 refine Zv (Runs.build rfl rfl (run_build_state A (lexAll l).1.length cap _)) ?_
 refine Seq.box rfl rfl rfl rfl rfl ?_
 intro g23 w2 n23
 have e23 := Nat.le_trans bel.size n23.ge
 have l23 := Nat.lt_of_lt_of_le k2.lt n23.ge
 replace bel := bel.step n23.below
 replace k2 := k2.step n23.below
 have k23 := n23.blk
 refine Za ?_
 refine Zk8 0 2 3 4 5 6 7 18 (Ztq ?_)
 refine Zm ?_
 have hKok := ctx_ok l hl h4 (B := w5.heap.size) (g := g23) (c := cap) (A := A) n23.ge
 have hWs := lexAll_WsB l hl
 have hg23 := k23.lt
 have hrd23 := hrd.below n23.below
 generalize hK : (Ctx.mk w5.heap.size g23 cap l.length A (lexAll l).1) = K at hKok
 have hKg : K.g = g23 := by rw [← hK]
 have hKw : K.ws = (lexAll l).1 := by rw [← hK]
 have hKe : K.en = l.length := by rw [← hK]
 have sw : SW K w2 0 (0 : Nat) false false := by rw [← hK]; exact ⟨k23, hrd23, Nat.zero_le _, by omega, n23.ge⟩
 rw [← hKw] at hWs
 have hpos : ∀ q, (K.at_ q).pos = endPos l q := fun q => by unfold Ctx.at_ endPos; rw [hKw, hKe]
 have hposl := endPos_le l hl
 subst hKg
 have htm := exprS_any K hKok hWs 0 0 0 false false (fun _ => ⟨rfl, rfl, by omega⟩) _ sw
 have hk2 := k2.lt
 have hg2 : g2 < K.g := by omega
 have hsz0 := bel.size
 clear k23
 refine Zc (Ze Tryz.func33) htm ?_
 rintro e w6 ⟨hf6, v6, x, p6, o6, dp6, bd6, rfl, ⟨S6, hr6, hb6⟩, sw6, hres, -⟩
 refine ⟨_, rfl, ?_⟩
 have hres := hres rfl
 have bel6 : Below w.heap.size w w6 := bel.trans (hf6.below (by omega) (by omega))
 have k26 := k2.fz hf6 (by omega)
 clear bel k2 sw htm
 have bel := bel6
 have k2 := k26
 have hs6 := hf6.size
 obtain ⟨A1, c1, hvX⟩ := hr6.form
 subst hvX
 have hfull : (fullP K.ws).E 0 0 0 = exprQ (lexAll l).1 := by rw [hKw]; rfl
 rw [hfull] at hres
 have hq6 := sw6.p_le
 have sw := sw6
 have rs : ReS _ w6.heap.size S6 x (.agg #[.int .i64 x.op, .int .i64 x.n, .string (strOf x.name), .slice A1 x.args.length c1]) w6 := ⟨hr6, hb6, Nat.le_refl _⟩
 refine Zl zero_api_Expr ?_
 intro g8 w3 n8
 have q8 := n8.ge
 have e8 := Nat.le_trans bel.size n8.ge
 have l8 := Nat.lt_of_lt_of_le k2.lt n8.ge
 replace bel := bel.step n8.below
 replace k2 := k2.step n8.below
 replace sw := sw.step n8.below
 replace rs := rs.step n8.below
 have k8 := n8.blk
 refine Zo 4 k8 ?_
 intro w4 pw4
 replace bel := bel.put k8 pw4 e8
 replace k2 := k2.put pw4 (by omega)
 replace sw := sw.put k8 pw4 e8
 replace rs := rs.put k8 pw4 e8
 replace k8 := pw4.blk
 refine Zk9 0 2 3 4 5 6 7 8 18 (Ztq ?_)
 refine Zm ?_
 refine Zm ?_
 refine Zv (Runs.lenL rfl rfl Tryz.underlying9) ?_
 have hen := fun W h => ends_any K hKok p6 o6 dp6 bd6 W h
 simp only [hpos, hKe, hKw] at hen
 refine Zc (Ze Tryz.func28) (hen _ sw) ?_
 rintro e w7 ⟨rfl, hb7⟩
 refine ⟨_, rfl, ?_⟩
 replace bel := bel.step hb7
 replace k2 := k2.step hb7
 replace sw := sw.step hb7
 replace rs := rs.step hb7
 replace k8 := k8.step hb7
 obtain ⟨R, hR⟩ : ∃ R, R = exprQ (lexAll l).1 := ⟨_, rfl⟩
 rw [← hR] at hres hpn hpo
 rw [hKw] at hq6
 have hlen : p6 < (lexAll l).1.length → parAt l R = (endPos l p6, 11) ∨ (dp6 = true) := fun hp => by
  unfold resQ at hres
  unfold parAt
  rw [if_neg (by omega), h2]
  cases R with
  | out => exact hres.elim
  | bad a ov =>
   obtain ⟨rfl, rfl, rfl, -⟩ := hres
   cases dp6 with
   | true => exact .inr rfl
   | false => exact .inl rfl
  | ok a b =>
   obtain ⟨rfl, rfl, -, rfl, -⟩ := hres
   exact .inl (if_neg (by omega))
 cases dp6 with
 | true =>
  have hpa : parAt l R = (0, 13) := by
   unfold resQ at hres
   unfold parAt
   rw [if_neg (by omega), h2]
   cases R with
   | out => exact hres.elim
   | ok a b => cases hres.2.2.2.1
   | bad a ov =>
    obtain ⟨rfl, rfl, rfl, -⟩ := hres
    rfl
  have hps := hpn _ _ hpa (by omega)
  refine Za ?_
  refine Zk10 0 2 3 4 5 6 7 8 9 18 (Zts (Zsr ?_))
  refine Zm ?_
  refine Zv (Runs.eqlI rfl rfl rfl) ?_
  refine Zk11 0 2 3 4 5 6 7 8 9 18 31 (Zt ?_)
  refine Cd.condT rfl (by rfl) ?_
  refine Zsr ?_
  refine Zv (Runs.build rfl rfl (run_build_E0 _)) ?_
  refine Zo 4 k2 ?_
  intro w5 pw5
  replace bel := bel.put k2 pw5 e2
  replace rs := rs.put k2 pw5 e2
  replace k8 := k8.put pw5 (by omega)
  replace k2 := pw5.blk
  refine Za ?_
  refine Za ?_
  refine Zk11 0 2 3 4 5 6 7 8 9 18 31 (Zt (Cd.ret (Post.then_ret ?_)))
  refine Post.endC3 rfl rfl rfl rfl k2 Tryz.underlying35 rfl (m := 4) (by kernel_rfl) rfl (.inl rfl) ?_
  rw [hps]
  exact ⟨bel, _, fun _ => False, rfl, RepE.zero _ _, fun b hb => hb.elim⟩
 | false =>
  have hlen : p6 < (lexAll l).1.length → parAt l R = (endPos l p6, 11) := fun hp => (hlen hp).elim id (fun h => by cases h)
  have hp6 := hposl p6
  rw [if_neg (by simp)]
  rcases Nat.lt_or_ge p6 (lexAll l).1.length with hp | hp
  ·have hps := hpn _ _ (hlen hp) (by omega)
   rw [if_pos hp]
   refine Za ?_
   refine Zk10 0 2 3 4 5 6 7 8 9 18 (Zts (Zsr ?_))
   refine Zm ?_
   refine Zv (Runs.eqlI rfl rfl rfl) ?_
   refine Zk11 0 2 3 4 5 6 7 8 9 18 31 (Zt ?_)
   refine Cd.condF rfl (decide_eq_false (by omega)) ?_
   refine Cd.skip (Zts (Zsr ?_))
   refine Zm ?_
   refine Zv (Runs.geq rfl rfl rfl) ?_
   refine Zk12 0 2 3 4 5 6 7 8 9 18 31 34 (Zt ?_)
   refine Cd.condT rfl (decide_eq_true (by omega)) ?_
   refine Zsr ?_
   refine Zv (Runs.build rfl rfl (run_build_E0 _)) ?_
   refine Zm ?_
   refine Zo 4 k2 ?_
   intro w5 pw5
   replace bel := bel.put k2 pw5 e2
   replace rs := rs.put k2 pw5 e2
   replace k8 := k8.put pw5 (by omega)
   replace k2 := pw5.blk
   refine Za ?_
   refine Za ?_
   refine Zk12 0 2 3 4 5 6 7 8 9 18 31 34 (Zt (Cd.ret (Post.then_ret ?_)))
   refine Post.endC3 rfl rfl rfl rfl k2 Tryz.underlying35 rfl (m := 4) (by kernel_rfl) rfl (.inl rfl) ?_
   rw [hps]
   exact ⟨bel, _, fun _ => False, rfl, RepE.zero _ _, fun b hb => hb.elim⟩
  rw [if_neg (by omega)]
  have hpe : p6 = (lexAll l).1.length := by omega
  cases bd6 with
  | true =>
   have hpa : parAt l R = (endPos l p6, 11) := by
    unfold resQ at hres
    unfold parAt
    rw [if_neg (by omega), h2]
    cases R with
    | out => exact hres.elim
    | ok a b => cases hres.2.2.2.2
    | bad a ov =>
     obtain ⟨rfl, rfl, -⟩ := hres
     rfl
   have hel : endPos l p6 = l.length := by
    unfold endPos
    rw [List.getD_eq_getElem?_getD, List.getElem?_eq_none hp]
    rfl
   have hps := hpn _ _ hpa (by omega)
   rw [hel] at hps
   rw [if_pos rfl]
   refine Za ?_
   refine Zk10 0 2 3 4 5 6 7 8 9 18 (Zts (Zsr ?_))
   refine Zm ?_
   refine Zv (Runs.eqlI rfl rfl rfl) ?_
   refine Zk11 0 2 3 4 5 6 7 8 9 18 31 (Zt ?_)
   refine Cd.condF rfl (decide_eq_false (by omega)) ?_
   refine Cd.skip (Zts (Zsr ?_))
   refine Zm ?_
   refine Zv (Runs.geq rfl rfl rfl) ?_
   refine Zk12 0 2 3 4 5 6 7 8 9 18 31 34 (Zt ?_)
   refine Cd.condT rfl (decide_eq_true (by omega)) ?_
   refine Zsr ?_
   refine Zv (Runs.build rfl rfl (run_build_E0 _)) ?_
   refine Zm ?_
   refine Zo 4 k2 ?_
   intro w5 pw5
   replace bel := bel.put k2 pw5 e2
   replace rs := rs.put k2 pw5 e2
   replace k8 := k8.put pw5 (by omega)
   replace k2 := pw5.blk
   refine Za ?_
   refine Za ?_
   refine Zk12 0 2 3 4 5 6 7 8 9 18 31 34 (Zt (Cd.ret (Post.then_ret ?_)))
   refine Post.endC3 rfl rfl rfl rfl k2 Tryz.underlying35 rfl (m := 4) (by kernel_rfl) rfl (.inl rfl) ?_
   rw [hps]
   exact ⟨bel, _, fun _ => False, rfl, RepE.zero _ _, fun b hb => hb.elim⟩
  | false =>
   have hok : R = .ok x p6 := by
    unfold resQ at hres
    cases R with
    | out => exact hres.elim
    | bad a ov => cases hres.2.2.1
    | ok a b =>
     obtain ⟨rfl, rfl, -⟩ := hres
     rfl
   have hpa : parAt l R = (0, 0) := by
    unfold parAt
    rw [if_neg (by omega), h2, hok]
    exact if_pos hpe
   have hps := hpo _ _ hpa hok
   have hnd := (fuel_nd _ _).E 0 _ _ _ _ (hR.symm.trans hok)
   have hbt := exprQ_built hl (hR.symm.trans hok)
   have hwl := ctx_ok l hl h4 (B := 0) (g := 0) (c := 0) (A := none) (Nat.le_refl 0)
   have hwl : (lexAll l).1.length ≤ 4000 := hwl.len
   have hdn := x.depth_nodes
   have hri : rightB x = (decide (x.nodes ≤ 200) && decide (x.depth ≤ 16)) := by unfold rightB; rw [hbt, Bool.and_true]
   rw [if_neg (by simp)]
   have k8 : Blk _ g8 35 #[.int .i64 x.op, .int .i64 x.n, .string (strOf x.name), .slice A1 x.args.length c1] := k8
   have hrb : Rep _ _ x (.agg #[.int .i64 x.op, .int .i64 x.n, .string (strOf x.name), .slice A1 x.args.length c1]) := rs.rep.mono (fun b hb => Nat.lt_of_lt_of_le (rs.bd b hb).2 rs.hi_le) (fun _ _ => rfl)
   have hszc := fun W (hb : Below w7.heap.size w7 W) => sizeR_any x.nodes x w7.heap.size _ W (Nat.le_refl _) (by omega) (hrb.below hb) hb.size
   have hloc := Below.refl w7.heap.size w7
   refine Za ?_
   refine Zk10 0 2 3 4 5 6 7 8 9 18 (Zts (Zsr ?_))
   refine Zm ?_
   refine Zv (Runs.eqlI rfl rfl rfl) ?_
   refine Zk11 0 2 3 4 5 6 7 8 9 18 31 (Zt ?_)
   refine Cd.condF rfl (decide_eq_false (by omega)) ?_
   refine Cd.skip (Zts (Zsr ?_))
   refine Zm ?_
   refine Zv (Runs.geq rfl rfl rfl) ?_
   refine Zk12 0 2 3 4 5 6 7 8 9 18 31 34 (Zt ?_)
   refine Cd.condF rfl (decide_eq_false (by omega)) ?_
   refine Cd.skip (Zts (Zsr ?_))
   refine Zv (Runs.loadW rfl rfl Tryz.underlying35 rfl k8 (m := 4) (by kernel_rfl) rfl) ?_
   refine Zc (Ze Tryz.func34) (hszc _ hloc) ?_
   rintro e w8 ⟨rfl, hb8⟩
   refine ⟨_, rfl, ?_⟩
   replace bel := bel.step hb8
   replace k2 := k2.step hb8
   replace rs := rs.step hb8
   replace k8 := k8.step hb8
   replace hloc := hloc.step hb8
   refine Zm ?_
   refine Zv (Runs.extract rfl rfl rfl) ?_
   refine Zv (Runs.extract rfl rfl rfl) ?_
   refine Za ?_
   refine Za ?_
   refine Zk14 0 2 3 4 5 6 7 8 9 10 11 18 31 34 (Ztq ?_)
   refine Zm ?_
   refine Zv (Runs.gtr rfl rfl rfl) ?_
   refine Zm ?_
   refine SeqC.start ?_
   refine Zco (fun hcx => Runs.move rfl rfl) ?_
   refine SeqC.next rfl rfl rfl rfl rfl rfl rfl (fun hcx => Runs.gtr rfl rfl rfl) ?_
   refine SeqC.or rfl rfl rfl rfl rfl rfl rfl ?_
   refine Zk15 0 2 3 4 5 6 7 8 9 10 11 18 31 34 47 (Zt ?_)
   refine Cd.cond rfl (fun hc => ?_) (fun hc => ?_)
   ·have hc : ¬ (x.nodes ≤ 200 ∧ x.depth ≤ 16) := by
     simp at hc
     omega
    have hr0 : rightB x = false := by
     rw [hri]
     rcases Nat.lt_or_ge 200 x.nodes with h | h
     ·rw [decide_eq_false (by omega)]; rfl
     ·rw [decide_eq_false (show ¬ x.depth ≤ 16 by omega), Bool.and_false]
    rw [hr0, if_neg (by simp)] at hps
    refine Zsr ?_
    refine Zv (Runs.build rfl rfl (run_build_E0 _)) ?_
    refine Zo 4 k2 ?_
    intro w5 pw5
    replace bel := bel.put k2 pw5 e2
    replace rs := rs.put k2 pw5 e2
    replace k8 := k8.put pw5 (by omega)
    replace k2 := pw5.blk
    refine Za ?_
    refine Za ?_
    refine Zk15 0 2 3 4 5 6 7 8 9 10 11 18 31 34 47 (Zt (Cd.ret (Post.then_ret ?_)))
    refine Post.endC3 rfl rfl rfl rfl k2 Tryz.underlying35 rfl (m := 4) (by kernel_rfl) rfl (.inl rfl) ?_
    rw [hps]
    exact ⟨bel, _, fun _ => False, rfl, RepE.zero _ _, fun b hb => hb.elim⟩
   ·have hc : x.nodes ≤ 200 ∧ x.depth ≤ 16 := by
     simp at hc
     omega
    have hr0 : rightB x = true := by
     rw [hri, decide_eq_true hc.1, decide_eq_true hc.2]
     rfl
    rw [hr0, if_pos rfl] at hps
    have hwB := rs.bd
    have hwl2 := rs.hi_le
    have k2l := k2.lt
    refine Cd.skip (Ztq ?_)
    refine Zv (Runs.loadW rfl rfl Tryz.underlying35 rfl k8 (m := 4) (by kernel_rfl) rfl) ?_
    refine Zo 4 k2 ?_
    intro w5 pw5
    replace bel := bel.put k2 pw5 e2
    replace rs := rs.put k2 pw5 e2
    replace k8 := k8.put pw5 (by omega)
    replace k2 := pw5.blk
    refine Za ?_
    refine Za ?_
    refine Zk15 0 2 3 4 5 6 7 8 9 10 11 18 31 34 47 (Zt (Cd.ret ?_))
    refine Post.endC3 rfl rfl rfl rfl k2 Tryz.underlying35 rfl (m := 4) (by kernel_rfl) rfl (.inl rfl) ?_
    rw [hps]
    exact ⟨bel, _, S6, rfl, rs.rep, fun b hb => by have := hwB b hb; have := rs.hi_le; omega⟩
end Go.Proofs.YtaamkfajnpobfaaGreat

namespace Go.Proofs.YtaamkfajnpobfaaGreat
open Go.ChangeShapes Go.WideShapes Go.Deep Go.RowKit

set_option maxRecDepth 100000 in
theorem open_str {W : World} {base t : Nat} {v : Value} (hu : Tryz.prog.underlying t = some .string) (hv : Value.okWide Tryz.prog W .any base t v) : ∃ l : List Nat, v = .string (strOf l) ∧ (∀ x ∈ l, x < 256) ∧ l.length ≤ 9223372036854775807 := by
 obtain ⟨s, rfl⟩ := okWide_string hu hv
 simp only [Value.okWide, hu, Cell.okWide] at hv
 have hs : (s.size : Int) ≤ 9223372036854775807 := by simpa [Cell.ok, hu] using hv
 refine ⟨bytesOf s, by rw [strOf_bytesOf], bytesOf_lt s, ?_⟩
 have : (bytesOf s).length = s.size := by rw [← strOf_size, strOf_bytesOf]
 omega
end Go.Proofs.YtaamkfajnpobfaaGreat


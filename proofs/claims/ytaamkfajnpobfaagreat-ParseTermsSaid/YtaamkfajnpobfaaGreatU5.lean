/-
  Texts that were joined: ClmF, ParF, ClmG, ClmH, TOpen. Conditions: what each theorem names.
-/
import Derived.Test.YtaamkfajnpobfaaGreatU4
import Derived.ProofKit
import Derived.OpenShut
import Derived.Lib.SmallJoins
import Derived.Deep.Slices
import Derived.Deep.Fields
import Derived.ChangeSame
set_option linter.unusedSectionVars false
namespace Go.Proofs.YtaamkfajnpobfaaGreat
open Go.RowKit

theorem term_le {ws : List Wd} {E0 E0' : Nat → Nat → Rs Ex} {T T' : Nat → Nat → Rs Tm} (hE : LeF E0 E0') (hT : LeF T T') : LeF (termP ws E0 T) (termP ws E0' T') := fun p d => by
 have hm : ∀ (n m : Nat), LeF (withinP ws (onesP E0 T n m)) (withinP ws (onesP E0' T' n m)) := fun n m => by
  have h := within_le (ws := ws) (List.replicate n ((fun p d => (E0 p d).map Sum.inl : Nat → Nat → Rs Part), (fun p d => (E0' p d).map Sum.inl : Nat → Nat → Rs Part)) ++ List.replicate m ((fun p d => (T p d).map Sum.inr : Nat → Nat → Rs Part), (fun p d => (T' p d).map Sum.inr : Nat → Nat → Rs Part))) (fun x hx => by
   rcases List.mem_append.1 hx with hx | hx
   ·rw [(List.mem_replicate.1 hx).2]
    exact fun p d => (hE p d).bind fun a q => Le.refl _
   ·rw [(List.mem_replicate.1 hx).2]
    exact fun p d => (hT p d).bind fun a q => Le.refl _)
  rw [List.map_append, List.map_append, List.map_replicate, List.map_replicate, List.map_replicate, List.map_replicate] at h
  exact h
 unfold termP
 split
 ·exact Le.refl _
 split
 ·exact Le.refl _
 split
 ·exact Le.refl _
 split
 ·exact Le.refl _
 ·exact (hm _ _ _ _).bind fun xs q => Le.refl _
theorem fuelT_le (ws : List Wd) : ∀ n, LeF (fuelT ws n) (fuelT ws (n + 1))
 | 0 => fun p d h => absurd rfl h
 | n + 1 => term_le ((fuel_le ws (n + 1)).E 0) (fuelT_le ws n)
theorem fullT_eq (ws : List Wd) (p d : Nat) : fullT ws p d = termP ws ((fullP ws).E 0) (fullT ws) p d := by
 have h1 : fullT ws p d ≠ .out := fuelT_def ws ws.length 0 (by omega) p d (Nat.zero_le _)
 have h2 := fuelT_le ws (ws.length + 1) p d h1
 have h3 : (fuelP ws (ws.length + 2)).E 0 = (fullP ws).E 0 := by
  funext p d
  exact (fuel_le ws (ws.length + 1)).E 0 p d ((full_def ws).E 0 p d (Nat.zero_le _))
 have h4 : fuelT ws (ws.length + 1 + 1) p d = termP ws ((fuelP ws (ws.length + 2)).E 0) (fuelT ws (ws.length + 1)) p d := rfl
 rw [h4, h3] at h2
 exact h2.symm
def w8 : List (List Nat) := [[111, 110, 101], [103, 105, 118, 101], [97, 110, 100], [111, 114], [115, 99, 97, 108, 101], [119, 104, 101, 110], [117, 110, 116, 105, 108], [97, 110, 121, 116, 105, 109, 101]]
def opTo (t : List Nat) (i : Nat) : Int := if w8.idxOf t < i then (w8.idxOf t : Int) + 2 else 0
theorem w8_idx : ∀ i, i < 8 → w8.idxOf (w8.getD i []) = i := by decide
theorem opTo_step {t s : List Nat} {i : Nat} (hi : i < 8) (hs : w8[i]? = some s) : opTo t (i + 1) = if s = t then (i : Int) + 2 else opTo t i := by
 have hg : w8.getD i [] = s := by rw [List.getD_eq_getElem?_getD, hs]; rfl
 unfold opTo
 by_cases h : s = t
 ·have := w8_idx i hi
  rw [hg, h] at this
  rw [if_pos h, this, if_pos (by omega)]
 ·have hne : w8.idxOf t ≠ i := fun e => by
   have hlt : w8.idxOf t < w8.length := by rw [e]; exact hi
   have h2 := List.getElem_idxOf hlt
   have h3 : w8[w8.idxOf t]? = some t := by rw [List.getElem?_eq_getElem hlt, h2]
   rw [e, hs] at h3
   injection h3 with h3
   exact h h3
  rw [if_neg h]
  by_cases h2 : w8.idxOf t < i
  ·rw [if_pos h2, if_pos (by omega)]
  ·rw [if_neg h2, if_neg (by omega)]
theorem opTo_spec (t : List Nat) : (t = oneW ∧ opTo t 8 = 2) ∨ (t ≠ oneW ∧ (termsW t).1 = opTo t 8 ∧ (opTo t 8 = 0 ∨ (opTo t 8 = 3 ∧ (termsW t).2 = (0, 1)) ∨ ((opTo t 8 = 4 ∨ opTo t 8 = 5) ∧ (termsW t).2 = (0, 2)) ∨ ((6 ≤ opTo t 8 ∧ opTo t 8 ≤ 9) ∧ (termsW t).2 = (1, 1)))) := by
 by_cases hm : t ∈ w8
 ·unfold w8 at hm
  simp only [List.mem_cons, List.not_mem_nil, or_false] at hm
  rcases hm with rfl | rfl | rfl | rfl | rfl | rfl | rfl | rfl <;> decide
 ·have h0 : opTo t 8 = 0 := by
   unfold opTo
   rw [List.idxOf_eq_length hm, if_neg (by decide)]
  unfold w8 at hm
  simp only [List.mem_cons, List.not_mem_nil, or_false, not_or] at hm
  obtain ⟨h1, h2, h3, h4, h5, h6, h7, h8⟩ := hm
  refine .inr ⟨h1, ?_, .inl h0⟩
  unfold termsW
  rw [if_neg h2, if_neg h3, if_neg h4, if_neg h5, if_neg h6, if_neg h7, if_neg h8, h0]
section
variable {β : Type}
def Stt (p0 : Nat) (R : Rs β) (d : Nat) (cont : Nat → Rs β) (q : Nat) (o : Int) (dp bd : Bool) : Prop :=
 (bd = false → o = (d : Int) + 1 ∧ dp = false ∧ p0 < q ∧ d + 1 ≤ 64 ∧ R = cont q) ∧ (bd = true → R = .bad q dp ∧ (d : Int) + 1 ≤ o ∧ o ≤ (d : Int) + 2)
variable {p0 q d : Nat} {R : Rs β} {o : Int} {dp bd : Bool}
theorem Stt.o_le {cont : Nat → Rs β} (h : Stt p0 R d cont q o dp bd) (hd : d ≤ 64) : 1 ≤ o ∧ o ≤ 66 := by
 cases bd with
 | false => have := (h.1 rfl).1; omega
 | true => have := (h.2 rfl).2; omega
theorem Stt.open_ {K : Ctx} {w : World} {cont : Nat → Rs β} {p : Nat} (hR : R = (signQ K.ws [40] (p + 1)).bind fun _ q => (enterP q d).bind fun _ q => cont q) (sw : SW K w (takeQ K.ws [40] (p + 1) false).1 ((d : Int) + 1) (if 64 < (d : Int) + 1 ∧ (takeQ K.ws [40] (p + 1) false).2 = false then true else false) (if 64 < (d : Int) + 1 ∧ (takeQ K.ws [40] (p + 1) false).2 = false then true else (takeQ K.ws [40] (p + 1) false).2)) :
  ∃ q dp bd, SW K w q ((d : Int) + 1) dp bd ∧ Stt p R d cont q ((d : Int) + 1) dp bd := by
 rcases takeQ_sign (ws := K.ws) (s := [40]) (q := p + 1) with ⟨h1, h2⟩ | ⟨h1, h2⟩
 ·rw [h1] at sw
  dsimp only at sw
  rw [h2, Rs.bind_ok] at hR
  by_cases h64 : 64 < (d : Int) + 1
  ·rw [if_pos ⟨h64, rfl⟩] at sw
   refine ⟨_, _, _, sw, fun h => (by cases h), fun _ => ⟨?_, by omega, by omega⟩⟩
   rw [hR]
   unfold enterP
   rw [if_pos (by omega)]
   rfl
  ·rw [if_neg (fun h => h64 h.1)] at sw
   refine ⟨_, _, _, sw, fun _ => ⟨rfl, rfl, by omega, by omega, ?_⟩, fun h => by cases h⟩
   rw [hR]
   unfold enterP
   rw [if_neg (by omega), Rs.bind_ok]
 ·rw [h1] at sw
  dsimp only at sw
  rw [h2, Rs.bind_bad] at hR
  rw [if_neg (fun h => by cases h.2), if_neg (fun h => by cases h.2)] at sw
  exact ⟨_, _, _, sw, fun h => (by cases h), fun _ => ⟨hR, by omega, by omega⟩⟩
def bothQ {α : Type} (r : Rs α) (d q : Nat) (o : Int) (dp bd : Bool) (x : α) (p' : Nat) (o' : Int) (dp' bd' : Bool) : Prop := (bd = false → resQ r d x p' o' dp' bd') ∧ (bd = true → sameQ q o dp x p' o' dp' bd')
theorem Stt.part {α : Type} {E : Nat → Nat → Rs α} {g : α → Nat → Rs β} {x : α} {q' : Nat} {o' : Int} {dp' bd' : Bool} (h : Stt p0 R d (fun q => (E q (d + 1)).bind g) q o dp bd) (hM : Mono E) (hb : bothQ (E q (d + 1)) (d + 1) q o dp bd x q' o' dp' bd') : Stt p0 R d (g x) q' o' dp' bd' := by
 cases bd with
 | true =>
  obtain ⟨rfl, rfl, rfl, rfl⟩ := hb.2 rfl
  exact ⟨fun h => (by cases h), fun _ => h.2 rfl⟩
 | false =>
  obtain ⟨rfl, rfl, h1, h2, hR⟩ := h.1 rfl
  have hres := hb.1 rfl
  unfold resQ at hres
  cases hr : E q (d + 1) with
  | out => rw [hr] at hres; exact hres.elim
  | bad a b =>
   rw [hr] at hres
   dsimp only at hR
   rw [hr] at hR
   obtain ⟨rfl, rfl, rfl, h3, h4⟩ := hres
   exact ⟨fun h => (by cases h), fun _ => ⟨hR, by omega, by omega⟩⟩
  | ok a b =>
   rw [hr] at hres
   dsimp only at hR
   rw [hr] at hR
   have hm := hM _ _ _ _ hr
   obtain ⟨rfl, rfl, h3, rfl, rfl⟩ := hres
   exact ⟨fun _ => ⟨by omega, rfl, by omega, h2, hR⟩, fun h => by cases h⟩
theorem Stt.sign {ws : List Wd} {s : List Nat} {g : Nat → Rs β} (h : Stt p0 R d (fun q => (signQ ws s q).bind fun _ q => g q) q o dp bd) : Stt p0 R d g (takeQ ws s q bd).1 o dp (takeQ ws s q bd).2 := by
 cases bd with
 | true => rw [takeQ_bad]; exact ⟨fun h => (by cases h), fun _ => h.2 rfl⟩
 | false =>
  obtain ⟨rfl, rfl, h1, h2, hR⟩ := h.1 rfl
  rcases takeQ_sign (ws := ws) (s := s) (q := q) with ⟨h3, h4⟩ | ⟨h3, h4⟩
  ·rw [h3]
   dsimp only at hR ⊢
   rw [h4, Rs.bind_ok] at hR
   exact ⟨fun _ => ⟨rfl, rfl, by omega, h2, hR⟩, fun h => by cases h⟩
  ·rw [h3]
   dsimp only at hR ⊢
   rw [h4, Rs.bind_bad] at hR
   exact ⟨fun h => (by cases h), fun _ => ⟨hR, by omega, by omega⟩⟩
theorem Stt.close {x : β} (h : Stt p0 R d (fun q => .ok x q) q o dp bd) : resQ R d x q (o - 1) dp bd := by
 cases bd with
 | true =>
  obtain ⟨h1, h2, h3⟩ := h.2 rfl
  rw [h1]
  exact ⟨rfl, rfl, rfl, by omega, by omega⟩
 | false =>
  obtain ⟨rfl, rfl, h1, h2, hR⟩ := h.1 rfl
  rw [hR]
  exact ⟨rfl, rfl, by omega, rfl, rfl⟩
end
theorem exprS_any (K : Ctx) (hK : K.Ok) (hW : WsB K.ws) (q d : Nat) (o : Int) (dp bd : Bool) (hg : bd = false → o = (d : Int) ∧ dp = false ∧ d ≤ 64) (W : World) (sw : SW K W q o dp bd) :
  Calls Tryz.prog 33 #[.pointer (some ⟨K.g, 0, none⟩), .int .i64 1] W (CR K W.heap.size W (bothQ ((fullP K.ws).E 0 q d) d q o dp bd) (okE W)) := by
 cases bd with
 | false =>
  obtain ⟨rfl, rfl, hd⟩ := hg rfl
  refine ((clm_all K hK hW (K.ws.length - q + 1) q (by omega)).2 0 d W (by omega) hd sw).mono fun e W' h => ?_
  obtain ⟨hf, v, x, p', o', dp', bd', rfl, h2, h3, h4⟩ := h
  exact ⟨hf, v, x, p', o', dp', bd', rfl, h2, h3, fun _ => h4, fun h => by cases h⟩
 | true =>
  refine (exprB_any K hK q _ dp 1 W sw).mono fun e W' h => ?_
  obtain ⟨hb, rfl⟩ := h
  exact ⟨Fz.of hb, _, zeroEx, q, _, dp, true, rfl, ⟨fun _ => False, RepE.zero _ _, fun b hb => hb.elim⟩, sw.step hb, fun h => (by cases h), fun _ => ⟨rfl, rfl, rfl, rfl⟩⟩
structure TmJ (K : Ctx) (R : Rs Tm) (d p0 : Nat) (op : Int) (w : World) (g2 g5 : Nat) (q : Nat) (o : Int) (dp bd : Bool) (nm : List Nat) (es : List Ex) (ts : List Tm) (evs tvs : List Value) (AE AT : Option Addr) (cE cT : Nat) (S : Nat → Prop) (wr : World) : Prop where
 sw : SW K wr q o dp bd
 bel : Fz w.heap.size K.g w wr
 k2 : Blk wr g2 25 #[.int .i64 0, .string { data := #[] }, .slice none 0 0, .slice none 0 0]
 k5 : Blk wr g5 25 #[.int .i64 op, .string (strOf nm), .slice AE es.length cE, .slice AT ts.length cT]
 aq : ArgQ wr g5 g5 es ts evs tvs (.slice AE es.length cE) (.slice AT ts.length cT) S
 nm_ok : (∀ c ∈ nm, c < 256) ∧ nm.length ≤ 4000
 le : es.length ≤ 10 ∧ ts.length ≤ 10
 stt : Stt p0 R d (fun q => (signQ K.ws [41] q).bind fun _ q => .ok (.mk op nm es ts) q) q o dp bd
theorem termC_any (K : Ctx) (hK : K.Ok) (hW : WsB K.ws) (p d : Nat) (o0 : Int) (dp0 bd0 : Bool) (T0 : Nat → Nat → Rs Tm) (hMT : Mono T0) (w : World) (sw0 : SW K w p o0 dp0 bd0) (hg0 : bd0 = false → o0 = (d : Int) ∧ dp0 = false ∧ d ≤ 64)
  (hT : bd0 = false → ∀ (q d : Nat) (o : Int) (dp bd : Bool) W, p < q ∨ bd = true → (bd = false → o = (d : Int) ∧ dp = false ∧ d ≤ 64) → SW K W q o dp bd → Calls Tryz.prog 27 #[.pointer (some ⟨K.g, 0, none⟩)] W (CR K W.heap.size W (bothQ (T0 q d) d q o dp bd) (okT W))) :
  Calls Tryz.prog 27 #[.pointer (some ⟨K.g, 0, none⟩)] w (CR K w.heap.size w (bothQ (termP K.ws ((fullP K.ws).E 0) T0 p d) d p o0 dp0 bd0) (okT w)) := by
 have bel := Fz.refl w.heap.size K.g w
 have k99 := sw0.blk
 have rdw := sw0.rdb
 have e99 : K.g = K.g := rfl
 have hlt := sw0.blk.lt
 have hle := hK.le
 have hlen := hK.len
 have hpl := sw0.p_le
 have hol := sw0.o_le
 have htl := txtQ_lt hK p bd0 3
 have hME := (full_mono K.ws).E 0
 obtain ⟨t, ht⟩ : ∃ t, t = txtQ K.ws p bd0 3 := ⟨_, rfl⟩
 have htx := fun W h => text_any K hK p o0 dp0 bd0 3 W h (by omega)
 rw [← ht] at htl
 simp only [← ht] at htx
 have htq : t ≠ [] → bd0 = false ∧ (wAt K.ws p).kind = 3 ∧ (wAt K.ws p).text = t ∧ p < K.ws.length := fun hne => by
  rw [ht] at hne ⊢
  unfold txtQ at hne ⊢
  cases bd0 with
  | true => exact absurd rfl hne
  | false =>
   rw [if_neg (by simp)] at hne ⊢
   by_cases hk : (wAt K.ws p).kind = 3
   ·rw [if_pos hk]
    refine ⟨rfl, hk, rfl, ?_⟩
    rcases Nat.lt_or_ge p K.ws.length with h | h
    ·exact h
    ·rw [wAt_none h] at hk; exact absurd hk (by decide)
   ·rw [if_neg hk] at hne
    exact absurd rfl hne
 obtain ⟨R, hR⟩ : ∃ R, R = termP K.ws ((fullP K.ws).E 0) T0 p d := ⟨_, rfl⟩
 rw [← hR]
 refine Zs 137 Tryz.func27 ?_
 refine Zsr ?_
 refine Zl zero_api_Term ?_
 intro g2 w1 n2
 have e2 := Nat.le_trans bel.size n2.ge
 have l2 := Nat.lt_of_lt_of_le k99.lt n2.ge
 replace bel := bel.step n2.below
 replace k99 := k99.step n2.below
 replace rdw := rdw.step n2.below
 have k2 := n2.blk
 refine Zk2 0 2 (Ztq ?_)
 refine Zm ?_
 refine Zc (Ze Tryz.func66) (htx _ (rdw.sw k99 hpl hol)) ?_
 rintro e w5 ⟨rfl, hb5⟩
 refine ⟨_, rfl, ?_⟩
 replace bel := bel.step hb5
 replace k99 := k99.step hb5
 replace rdw := rdw.step hb5
 replace k2 := k2.step hb5
 refine Za ?_
 refine Zk3 0 2 3 (Zts (Zsr ?_))
 refine Zm ?_
 refine Zv (Runs.eqlL (b := zeroW) rfl rfl rfl htl (by decide)) ?_
 refine Zk4 0 2 3 10 (Zt ?_)
 refine Cd.condD rfl (fun c0 => ?_) (fun c0 => ?_)
 ·obtain ⟨rfl, hk3, htt, hp⟩ := htq (by rw [c0]; decide)
  obtain ⟨rfl, rfl, hd⟩ := hg0 rfl
  have hR1 : R = .ok (.mk 1 [] [] []) (p + 1) := by
   rw [hR]
   unfold termP
   rw [if_neg (by simp [hk3]), htt, c0, if_pos rfl]
  refine Zsr ?_
  refine Zm ?_
  refine Zv (Runs.nilCheck rfl rfl) ?_
  refine Zf 1 Tryz.underlying69 ?_
  refine Zv (Runs.loadB rfl rfl Tryz.underlying3 rfl k99 rfl) ?_
  refine Za_ ?_
  refine Zv (Runs.nilCheck rfl rfl) ?_
  refine Zf 1 Tryz.underlying69 ?_
  refine Zq k99 ?_
  intro w2 pw2
  replace bel := bel.put k99 pw2 e99
  replace rdw := rdw.put k99 pw2 e99
  replace k2 := k2.put pw2 (by omega)
  replace k99 := pw2.blk
  refine Zk4 0 2 3 10 (Ztq ?_)
  refine Zv (Runs.build rfl rfl (run_build_T1 _)) ?_
  refine Zo 4 k2 ?_
  intro w3 pw3
  replace bel := bel.put k2 pw3 e2
  replace k99 := k99.put pw3 (by omega)
  replace rdw := rdw.put k2 pw3 e2
  replace k2 := pw3.blk
  refine Zk4 0 2 3 10 (Zt (Cd.ret (Post.then_ret ?_)))
  refine Post.endC rfl rfl k2 Tryz.underlying25 rfl (m := 4) (by kernel_rfl) rfl (.inl rfl) ?_
  rw [hR1]
  exact ⟨bel, _, _, _, _, _, _, rfl, ⟨fun _ => False, RepT.mk (es := []) (ts := []) (vs := []) (us := []) rfl rfl (by simp) (by simp) (by unfold I64; omega) (by simp) (by simp) (fun i e v h => by simp at h) (fun i e v h => by simp at h) (fun h => absurd rfl h) (fun h => absurd rfl h), fun b hb => hb.elim⟩, rdw.sw (by rw [Int.natCast_add]; exact k99) (by omega) (by omega), fun _ => ⟨rfl, rfl, rfl, rfl, rfl⟩, fun h => by cases h⟩
 refine Cd.skip (Ztq ?_)
 refine Seq.slice (vs := [_, _, _, _, _, _, _, _]) (s := 1) rfl rfl rfl Tryz.underlying114 (by kernel_rfl) (zero_string) (by omega) (by omega) ⟨rfl, rfl, rfl, rfl, rfl, rfl, rfl, rfl, trivial⟩ rfl rfl rfl ?_
 intro g19 w2 n19
 have e19 := Nat.le_trans bel.size n19.ge
 have l19 := Nat.lt_of_lt_of_le k2.lt n19.ge
 have l19_k99 := Nat.lt_of_lt_of_le k99.lt n19.ge
 replace bel := bel.step n19.below
 replace k99 := k99.step n19.below
 replace rdw := rdw.step n19.below
 replace k2 := k2.step n19.below
 have k19 := n19.blk
 refine Za ?_
 refine Zk5 0 2 3 4 10 (Ztq ?_)
 refine Zv (Runs.build rfl rfl (run_build_T0 _)) ?_
 refine Zl zero_api_Term ?_
 intro g5 w3 n5
 have e5 := Nat.le_trans bel.size n5.ge
 have l5 := Nat.lt_of_lt_of_le k19.lt n5.ge
 have l5_k99 := Nat.lt_of_lt_of_le k99.lt n5.ge
 have l5_k2 := Nat.lt_of_lt_of_le k2.lt n5.ge
 replace bel := bel.step n5.below
 replace k99 := k99.step n5.below
 replace rdw := rdw.step n5.below
 replace k2 := k2.step n5.below
 replace k19 := k19.step n5.below
 have k5 := n5.blk
 refine Zo 4 k5 ?_
 intro w4 pw4
 replace bel := bel.put k5 pw4 e5
 replace k99 := k99.put pw4 (by omega)
 replace rdw := rdw.put k5 pw4 e5
 replace k2 := k2.put pw4 (by omega)
 replace k19 := k19.put pw4 (by omega)
 replace k5 := pw4.blk
 refine Zk6 0 2 3 4 5 10 (Zts (Zsr ?_))
 refine Za ?_
 refine Zk7 0 2 3 4 5 6 10 (Zt (Cd.block ?_))
 have k19 : Blk _ g19 9 (w8.map fun s => Value.string (strOf s)).toArray := k19
 have h25 : g2 < g5 := by omega
 have hg5 : w.heap.size ≤ g5 := by omega
 have hg2 : w.heap.size ≤ g2 := by omega
 refine Cd.loop (σ := Nat) (fun i => [(0, .pointer (some ⟨K.g, 0, none⟩)), (2, .pointer (some ⟨g2, 0, none⟩)), (3, .string (strOf t)), (4, .slice (some ⟨g19, 0, none⟩) 8 8), (5, .pointer (some ⟨g5, 0, none⟩)), (6, .int .i64 (i : Int))])
  (fun i wr => i ≤ 8 ∧ Fz w.heap.size K.g w wr ∧ RdB K wr ∧ Blk wr K.g 69 #[.slice K.A K.ws.length K.c, .int .i64 (p : Int), .int .i64 o0, .bool dp0, .bool bd0] ∧ Blk wr g2 25 #[.int .i64 0, .string { data := #[] }, .slice none 0 0, .slice none 0 0] ∧ Blk wr g19 9 (w8.map fun s => Value.string (strOf s)).toArray ∧ Blk wr g5 25 #[.int .i64 (opTo t i), .string (strOf []), .slice none 0 0, .slice none 0 0]) (fun i => 8 - i) 0 ⟨Nat.zero_le _, bel, rdw, k99, k2, k19, k5⟩ ⟨rfl, rfl, rfl, rfl, rfl, rfl, trivial⟩ ?_
 clear bel rdw k99 k2 k19 k5
 rintro i wr ⟨hi, bel, rdw, k99, k2, k19, k5⟩
 have k2l := k2.lt
 have k5l := k5.lt
 have hsb := bel.size
 refine Cd.seq (Zsr ?_)
 refine Zm ?_
 refine Zm ?_
 refine Zv (Runs.len rfl rfl Tryz.underlying114) ?_
 refine Zv (Runs.lss rfl rfl rfl) ?_
 refine Zk7 0 2 3 4 5 6 24 (Zt ?_)
 refine Cd.condD rfl (fun hc => ?_) (fun hc => ?_)
 ·obtain ⟨s, hs⟩ : ∃ s, w8[i]? = some s := ⟨_, List.getElem?_eq_getElem (show i < 8 by omega)⟩
  have hs256 : ∀ c ∈ s, c < 256 := by
   have : ∀ s ∈ w8, ∀ c ∈ s, c < 256 := by decide
   exact this s (List.mem_of_getElem? hs)
  have hst := opTo_step (t := t) (show i < 8 by omega) hs
  refine Cd.skip (Zts (Cd.block (Zsr ?_)))
  refine Zm ?_
  refine Zm ?_
  refine Zv (Runs.indexB rfl rfl rfl Tryz.underlying114 (by kernel_rfl) (j := i) (by omega) (by omega)) ?_
  refine Zv (Runs.loadB rfl rfl Tryz.underlying9 rfl k19 (by rw [List.getElem?_toArray, List.getElem?_map, hs]; rfl)) ?_
  refine Zm ?_
  refine Zv (Runs.eqlL rfl rfl rfl hs256 htl) ?_
  refine Zk8 0 2 3 4 5 6 24 32 (Zt ?_)
  refine Cd.condD rfl (fun hc2 => ?_) (fun hc2 => ?_)
  ·rw [if_pos hc2] at hst
   have e5 : w.heap.size ≤ g5 := hg5
   refine Zr ?_
   refine Zm ?_
   refine Za_ ?_
   refine Zf 0 Tryz.underlying25 ?_
   refine Zq k5 ?_
   intro w5 pw5
   replace bel := bel.put k5 pw5 e5
   replace k99 := k99.put pw5 (by omega)
   replace rdw := rdw.put k5 pw5 e5
   replace k2 := k2.put pw5 (by omega)
   replace k19 := k19.put pw5 (by omega)
   replace k5 := pw5.blk
   refine Zk8 0 2 3 4 5 6 24 32 (Post.block_normal (Ztr ?_))
   refine Zm ?_
   refine Za_ ?_
   refine Za ?_
   refine Zk8 0 2 3 4 5 6 24 32 ?_
   exact Post.round (i + 1) ⟨rfl, rfl, rfl, rfl, rfl, rfl, trivial⟩ ⟨by omega, bel, rdw, k99, k2, k19, by rw [hst]; exact k5⟩ (by omega)
  ·rw [if_neg hc2] at hst
   refine Cd.skip (Post.block_normal (Ztr ?_))
   refine Zm ?_
   refine Za_ ?_
   refine Za ?_
   refine Zk8 0 2 3 4 5 6 24 32 ?_
   exact Post.round (i + 1) ⟨rfl, rfl, rfl, rfl, rfl, rfl, trivial⟩ ⟨by omega, bel, rdw, k99, k2, k19, by rw [hst]; exact k5⟩ (by omega)
 obtain rfl : i = 8 := by omega
 have hsp := opTo_spec t
 have hop64 : I64 (opTo t 8) := by unfold I64; rcases hsp with ⟨-, h⟩ | ⟨-, -, h | ⟨h, -⟩ | ⟨h, -⟩ | ⟨h, -⟩⟩ <;> omega
 have hnil : opTo [] 8 = 0 := by decide
 have hopn : opTo t 8 ≠ 0 → t ≠ [] := fun h e => h (by rw [e, hnil])
 obtain ⟨op, hop⟩ : ∃ op, op = opTo t 8 := ⟨_, rfl⟩
 rw [← hop] at hsp hop64 k5 hopn
 refine Cd.exit (Post.then_exit (Post.round_exit (Post.block_exit (Zts (Zsr ?_)))))
 refine Zf 0 Tryz.underlying25 ?_
 refine Zv (Runs.loadB rfl rfl Tryz.underlying3 rfl k5 rfl) ?_
 refine Zv (Runs.eqlI rfl rfl rfl) ?_
 refine Zk8 0 2 3 4 5 6 24 38 (Zt ?_)
 refine Cd.condD rfl (fun c1 => ?_) (fun c1 => ?_)
 ·have hb : bd0 = false → R = .bad p false := fun hb => by
   rw [hR]
   unfold termP
   by_cases hk : (wAt K.ws p).kind = 3
   ·have htt : (wAt K.ws p).text = t := by rw [ht]; unfold txtQ; rw [hb, if_neg (by simp), if_pos hk]
    rw [if_neg (by simp [hk]), htt, if_neg c0]
    rcases hsp with ⟨-, h⟩ | ⟨h1, h2, -⟩
    ·omega
    ·rw [if_neg h1, h2, if_pos c1]
   ·rw [if_pos hk]
  have k5l := k5.lt
  refine Zsr ?_
  refine Zm ?_
  refine Zv (Runs.nilCheck rfl rfl) ?_
  refine Zf 4 Tryz.underlying69 ?_
  refine Zq k99 ?_
  intro w5 pw5
  replace bel := bel.put k99 pw5 e99
  replace rdw := rdw.put k99 pw5 e99
  replace k2 := k2.put pw5 (by omega)
  replace k5 := k5.put pw5 (by omega)
  replace k99 := pw5.blk
  refine Zk8 0 2 3 4 5 6 24 38 (Ztq ?_)
  refine Zv (Runs.loadW rfl rfl Tryz.underlying25 rfl k5 (m := 4) (by kernel_rfl) rfl) ?_
  refine Zo 4 k2 ?_
  intro w6 pw6
  replace bel := bel.put k2 pw6 e2
  replace k99 := k99.put pw6 (by omega)
  replace rdw := rdw.put k2 pw6 e2
  replace k5 := k5.put pw6 (by omega)
  replace k2 := pw6.blk
  refine Zk8 0 2 3 4 5 6 24 38 (Zt (Cd.ret (Post.then_ret ?_)))
  refine Post.endC rfl rfl k2 Tryz.underlying25 rfl (m := 4) (by kernel_rfl) rfl (.inl rfl) ?_
  refine ⟨bel, _, .mk op [] [] [], _, _, _, _, rfl, ⟨fun _ => False, RepT.mk (es := []) (ts := []) (vs := []) (us := []) rfl rfl (by simp) (by simp) hop64 (by simp) (by simp) (fun i e v h => by simp at h) (fun i e v h => by simp at h) (fun h => absurd rfl h) (fun h => absurd rfl h), fun b hb => hb.elim⟩, rdw.sw k99 hpl hol, fun h => ?_, fun h => ⟨rfl, rfl, rfl, rfl⟩⟩
  obtain ⟨h1, h2, h3⟩ := hg0 h
  rw [hb h]
  exact ⟨rfl, h2, rfl, by omega, by omega⟩
 obtain ⟨rfl, hk3, htt, hp⟩ := htq (hopn c1)
 replace hT := hT rfl
 obtain ⟨rfl, rfl, hd⟩ := hg0 rfl
 have hRt : R = if t = oneW then (withinP K.ws [fun p _ => nameP K.ws p] (p + 1) d).bind fun xs p => .ok (.mk 2 (xs.getD 0 []) [] []) p
   else (withinP K.ws (onesP ((fullP K.ws).E 0) T0 (termsW t).2.1 (termsW t).2.2) (p + 1) d).bind fun xs q => .ok (.mk (termsW t).1 [] (exprsOf xs) (termsOf2 xs)) q := by
  rw [hR]
  unfold termP
  rw [if_neg (by simp [hk3]), htt, if_neg c0]
  by_cases h1 : t = oneW
  ·rw [if_pos h1, if_pos h1]
  ·rw [if_neg h1, if_neg h1]
   rcases hsp with ⟨h, -⟩ | ⟨-, h2, -⟩
   ·exact absurd h h1
   ·rw [if_neg (by rw [h2]; exact c1)]
 obtain ⟨cont, hRc, hcont⟩ : ∃ cont : Nat → Rs Tm, (R = (signQ K.ws [40] (p + 1)).bind fun _ q => (enterP q d).bind fun _ q => cont q) ∧
   ((op = 2 ∧ cont = fun q => (nameP K.ws q).bind fun nm q => (signQ K.ws [41] q).bind fun _ q => .ok (.mk 2 nm [] []) q) ∨
    (op = 3 ∧ cont = fun q => (T0 q (d + 1)).bind fun a q => (signQ K.ws [41] q).bind fun _ q => .ok (.mk op [] [] [a]) q) ∨
    ((op = 4 ∨ op = 5) ∧ cont = fun q => (T0 q (d + 1)).bind fun a q => (signQ K.ws [44] q).bind fun _ q => (T0 q (d + 1)).bind fun b q => (signQ K.ws [41] q).bind fun _ q => .ok (.mk op [] [] [a, b]) q) ∨
    ((6 ≤ op ∧ op ≤ 9) ∧ cont = fun q => ((fullP K.ws).E 0 q (d + 1)).bind fun a q => (signQ K.ws [44] q).bind fun _ q => (T0 q (d + 1)).bind fun b q => (signQ K.ws [41] q).bind fun _ q => .ok (.mk op [] [a] [b]) q)) := by
  rcases hsp with ⟨h1, h2⟩ | ⟨h1, h2, h | ⟨h3, h4⟩ | ⟨h3, h4⟩ | ⟨h3, h4⟩⟩
  ·rw [if_pos h1] at hRt
   refine ⟨_, ?_, .inl ⟨h2, rfl⟩⟩
   rw [hRt]
   unfold withinP
   simp only [partsP, if_pos, Rs.bind_assoc, Rs.bind_ok, List.getD_cons_zero]
  ·exact absurd h c1
  ·rw [if_neg h1, h2, h4] at hRt
   refine ⟨_, ?_, .inr (.inl ⟨h3, rfl⟩)⟩
   rw [hRt]
   unfold withinP onesP Rs.map
   simp only [List.replicate, List.nil_append, partsP, if_pos, Rs.bind_assoc, Rs.bind_ok]
   rfl
  ·rw [if_neg h1, h2, h4] at hRt
   refine ⟨_, ?_, .inr (.inr (.inl ⟨h3, rfl⟩))⟩
   rw [hRt]
   unfold withinP onesP Rs.map
   simp only [List.replicate, List.nil_append, partsP, if_pos, Rs.bind_assoc, Rs.bind_ok]
   rfl
  ·rw [if_neg h1, h2, h4] at hRt
   refine ⟨_, ?_, .inr (.inr (.inr ⟨h3, rfl⟩))⟩
   rw [hRt]
   unfold withinP onesP Rs.map
   simp only [List.replicate, List.nil_append, List.cons_append, partsP, if_pos, Rs.bind_assoc, Rs.bind_ok]
   rfl
 refine Cd.skip (Ztq ?_)
 refine Zm ?_
 refine Zv (Runs.nilCheck rfl rfl) ?_
 refine Zf 1 Tryz.underlying69 ?_
 refine Zv (Runs.loadB rfl rfl Tryz.underlying3 rfl k99 rfl) ?_
 refine Za_ ?_
 refine Zv (Runs.nilCheck rfl rfl) ?_
 refine Zf 1 Tryz.underlying69 ?_
 refine Zq k99 ?_
 intro w5 pw5
 replace bel := bel.put k99 pw5 e99
 replace rdw := rdw.put k99 pw5 e99
 replace k2 := k2.put pw5 (by omega)
 replace k5 := k5.put pw5 (by omega)
 replace k99 := pw5.blk
 refine Zk8 0 2 3 4 5 6 24 38 (Ztq ?_)
 refine Zm ?_
 have hta := take_any K hK (p + 1) d false false [40] _ (rdw.sw (by rw [Int.natCast_add]; exact k99) (by omega) (by omega)) (by decide) (by decide)
 have k2l3 := k2.lt
 have k5l3 := k5.lt
 have hsb3 := bel.size
 refine Zc (Ze Tryz.func67) hta ?_
 rintro e wt ⟨⟨vt, rfl⟩, hft, swt⟩
 refine ⟨_, rfl, ?_⟩
 have belt := bel.call hft
 have k2t := k2.fz hft (by omega)
 have k5t := k5.fz hft (by omega)
 have hst := hft.size
 clear bel k2 k5 k99 rdw hta
 have bel := belt
 have k2 := k2t
 have k5 := k5t
 have hen := enterS_any K hK _ _ _ _ _ swt (by omega)
 refine Zk8 0 2 3 4 5 6 24 38 (Ztq ?_)
 refine Zm ?_
 refine Zc (Ze Tryz.func68) hen ?_
 rintro e we ⟨⟨ve, rfl⟩, hfe, swe⟩
 refine ⟨_, rfl, ?_⟩
 have bele := bel.call hfe
 have k2e := k2.fz hfe (by omega)
 have k5e := k5.fz hfe (by omega)
 have hse := hfe.size
 clear bel k2 k5 hen
 have bel := bele
 have k2 := k2e
 have k5 := k5e
 obtain ⟨q, dp, bd, sw, stt⟩ := Stt.open_ hRc swe
 clear swe swt hRc hRt
 have aq := ArgQ.nil we g5 g5
 refine Zk8 0 2 3 4 5 6 24 38 (Zt ?_)
 refine Cd.seqJ (σ := Nat × Int × Bool × Bool × List Nat × List Ex × List Tm × List Value × List Value × (Option Addr × Nat) × (Option Addr × Nat) × (Nat → Prop)) (fun _ => [(0, .pointer (some ⟨K.g, 0, none⟩)), (2, .pointer (some ⟨g2, 0, none⟩)), (5, .pointer (some ⟨g5, 0, none⟩))])
  (fun s wr => TmJ K R d p op w g2 g5 s.1 s.2.1 s.2.2.1 s.2.2.2.1 s.2.2.2.2.1 s.2.2.2.2.2.1 s.2.2.2.2.2.2.1 s.2.2.2.2.2.2.2.1 s.2.2.2.2.2.2.2.2.1 s.2.2.2.2.2.2.2.2.2.1.1 s.2.2.2.2.2.2.2.2.2.2.1.1 s.2.2.2.2.2.2.2.2.2.1.2 s.2.2.2.2.2.2.2.2.2.2.1.2 s.2.2.2.2.2.2.2.2.2.2.2 wr) ?_ ?_
 ·skip
  refine Cd.block (Zsr ?_)
  refine Zf 0 Tryz.underlying25 ?_
  refine Zv (Runs.loadB rfl rfl Tryz.underlying3 rfl k5 rfl) ?_
  refine Zv (Runs.eqlI rfl rfl rfl) ?_
  refine Za ?_
  refine Zk9 0 2 3 4 5 6 24 38 70 (Zt ?_)
  refine Cd.condD rfl (fun h2 => ?_) (fun h2 => ?_)

  ·have hgt : K.g < g5 := by omega
   have k5l4 := k5.lt
   have k2l4 := k2.lt
   have hsb4 := bel.size
   rcases hcont with ⟨-, hcq⟩ | ⟨h, -⟩ | ⟨h, -⟩ | ⟨h, -⟩
   ·subst hcq
    have htx2 := text_any K hK q ((d : Int) + 1) dp bd 3 _ sw (by omega)
    have htl2 := txtQ_lt hK q bd 3
    have htn2 : (txtQ K.ws q bd 3).length ≤ 4000 := by
     unfold txtQ
     split
     ·simp
     split
     ·exact (hK.wAt q).2.2.2
     ·simp
    have hnm : (txtQ K.ws q bd 3 = [] ∨ reservedB (txtQ K.ws q bd 3) = true) → resQ R d (.mk op (txtQ K.ws q bd 3) [] []) q ((d : Int) + 1) dp true := fun h => by
     cases bd with
     | true =>
      rw [(stt.2 rfl).1]
      exact ⟨rfl, rfl, rfl, by omega, by omega⟩
     | false =>
      obtain ⟨-, rfl, -, -, hRn⟩ := stt.1 rfl
      have : nameP K.ws q = .bad q false := by
       unfold nameP
       rw [if_neg]
       rintro ⟨h1, h2⟩
       have e : txtQ K.ws q false 3 = (wAt K.ws q).text := by unfold txtQ; rw [if_neg (by simp), if_pos h1]
       rw [e] at h
       rcases h with h | h
       ·have := wAt_k3 hW h1
        rw [h] at this
        exact absurd this (by decide)
       ·rw [h2] at h; cases h
      rw [hRn]
      dsimp only
      rw [this]
      exact ⟨rfl, rfl, rfl, by omega, by omega⟩
    have hnm2 : ¬ (txtQ K.ws q bd 3 = [] ∨ reservedB (txtQ K.ws q bd 3) = true) → q + 1 ≤ K.ws.length ∧ Stt p R d (fun q' => (signQ K.ws [41] q').bind fun _ q' => .ok (.mk op (txtQ K.ws q bd 3) [] []) q') (q + 1) ((d : Int) + 1) dp bd := fun h => by
     cases bd with
     | true => exact absurd (.inl rfl) h
     | false =>
      obtain ⟨-, rfl, h1, h3, hRn⟩ := stt.1 rfl
      have hk : (wAt K.ws q).kind = 3 := by
       rcases Decidable.em ((wAt K.ws q).kind = 3) with hk | hk
       ·exact hk
       ·exact absurd (.inl (by unfold txtQ; rw [if_neg (by simp), if_neg hk])) h
      have e : txtQ K.ws q false 3 = (wAt K.ws q).text := by unfold txtQ; rw [if_neg (by simp), if_pos hk]
      rw [e] at h ⊢
      have hn : nameP K.ws q = .ok (wAt K.ws q).text (q + 1) := by
       unfold nameP
       rw [if_pos ⟨hk, by rw [← Bool.not_eq_true]; exact fun h2 => h (.inr h2)⟩]
      have hlt : q < K.ws.length := by
       rcases Nat.lt_or_ge q K.ws.length with h | h
       ·exact h
       ·rw [wAt_none h] at hk; exact absurd hk (by decide)
      refine ⟨hlt, fun _ => ⟨rfl, rfl, by omega, h3, ?_⟩, fun h => by cases h⟩
      rw [hRn]
      dsimp only
      rw [hn, Rs.bind_ok, h2]
    obtain ⟨tx, htxe⟩ : ∃ tx, tx = txtQ K.ws q bd 3 := ⟨_, rfl⟩
    rw [← htxe] at htx2 htl2 htn2 hnm hnm2
    have k99 := sw.blk
    have rdw := sw.rdb
    have e99 : K.g = K.g := rfl
    have e5 : w.heap.size ≤ g5 := hg5
    refine Zsr ?_
    refine Zm ?_
    refine Zc (Ze Tryz.func66) (htx2) ?_
    rintro e w5 ⟨rfl, hb5⟩
    refine ⟨_, rfl, ?_⟩
    clear htx2
    replace bel := bel.step hb5
    replace k2 := k2.step hb5
    replace k5 := k5.step hb5
    replace k99 := k99.step hb5
    replace rdw := rdw.step hb5
    refine Zf 1 Tryz.underlying25 ?_
    refine Zq k5 ?_
    intro w6 pw6
    replace bel := bel.put k5 pw6 e5
    replace k2 := k2.put pw6 (by omega)
    replace k99 := k99.put pw6 (by omega)
    replace rdw := rdw.put k5 pw6 e5
    replace k5 := pw6.blk
    refine Zk9 0 2 3 4 5 6 24 38 70 (Zts (Zsr ?_))
    refine Zf 1 Tryz.underlying25 ?_
    refine Zv (Runs.loadB rfl rfl Tryz.underlying9 rfl k5 rfl) ?_
    refine Zv (Runs.eqlL (b := []) rfl rfl rfl htl2 (by decide)) ?_
    refine Zm ?_
    refine SeqC.start ?_
    refine Zco (fun hcx => Runs.fieldB 1 rfl rfl Tryz.underlying25 rfl (by kernel_rfl)) ?_
    refine SeqC.next rfl rfl rfl rfl rfl rfl rfl (fun hcx => Runs.loadB rfl rfl Tryz.underlying9 rfl k5 rfl) ?_
    refine SeqC.nextC rfl rfl rfl rfl rfl rfl rfl (fun hcx => Ze Tryz.func69) (fun hcx => refReserved_any tx _ htl2) ?_
    intro w7 hw7
    replace bel := bel.step hw7
    replace k2 := k2.step hw7
    replace k5 := k5.step hw7
    replace k99 := k99.step hw7
    replace rdw := rdw.step hw7
    refine SeqC.or rfl rfl rfl rfl rfl rfl rfl ?_
    refine Zk10 0 2 3 4 5 6 24 38 70 84 (Zt ?_)
    refine Cd.cond rfl (fun hc => ?_) (fun hc => ?_)
    ·have hc : tx = [] ∨ reservedB tx = true := by simpa using hc
     have hres := hnm hc
     refine Zsr ?_
     refine Zm ?_
     refine Zv (Runs.nilCheck rfl rfl) ?_
     refine Zf 4 Tryz.underlying69 ?_
     refine Zq k99 ?_
     intro w8 pw8
     replace bel := bel.put k99 pw8 e99
     replace k2 := k2.put pw8 (by omega)
     replace k5 := k5.put pw8 (by omega)
     replace rdw := rdw.put k99 pw8 e99
     replace k99 := pw8.blk
     refine Zk10 0 2 3 4 5 6 24 38 70 84 (Ztq ?_)
     refine Zv (Runs.loadW rfl rfl Tryz.underlying25 rfl k5 (m := 4) (by kernel_rfl) rfl) ?_
     refine Zo 4 k2 ?_
     intro w9 pw9
     replace bel := bel.put k2 pw9 e2
     replace k5 := k5.put pw9 (by omega)
     replace k99 := k99.put pw9 (by omega)
     replace rdw := rdw.put k2 pw9 e2
     replace k2 := pw9.blk
     refine Zk10 0 2 3 4 5 6 24 38 70 84 (Zt (Cd.ret (Post.then_ret (Post.block_ret (Post.then_ret ?_)))))
     refine Post.endC rfl rfl k2 Tryz.underlying25 rfl (m := 4) (by kernel_rfl) rfl (.inl rfl) ?_
     refine ⟨bel, _, .mk op tx [] [], _, _, _, _, rfl, ⟨fun _ => False, RepT.mk (es := []) (ts := []) (vs := []) (us := []) rfl rfl (by simp) (by simp) hop64 htl2 (by omega) (fun i e v h => by simp at h) (fun i e v h => by simp at h) (fun h => absurd rfl h) (fun h => absurd rfl h), fun b hb => hb.elim⟩, rdw.sw k99 sw.p_le sw.o_le, fun _ => hres, fun h => by cases h⟩
    ·have hc : ¬ (tx = [] ∨ reservedB tx = true) := by simpa using hc
     obtain ⟨hq1, hstt⟩ := hnm2 hc
     refine Cd.skip (Ztr ?_)
     refine Zm ?_
     refine Zv (Runs.nilCheck rfl rfl) ?_
     refine Zf 1 Tryz.underlying69 ?_
     refine Zv (Runs.loadB rfl rfl Tryz.underlying3 rfl k99 rfl) ?_
     refine Za_ ?_
     refine Zv (Runs.nilCheck rfl rfl) ?_
     refine Zf 1 Tryz.underlying69 ?_
     refine Zq k99 ?_
     intro w8 pw8
     replace bel := bel.put k99 pw8 e99
     replace k2 := k2.put pw8 (by omega)
     replace k5 := k5.put pw8 (by omega)
     replace rdw := rdw.put k99 pw8 e99
     replace k99 := pw8.blk
     refine Zk10 0 2 3 4 5 6 24 38 70 84 (Post.block_normal ?_)
     exact Post.join (q + 1, (d : Int) + 1, dp, bd, tx, [], [], [], [], (none, 0), (none, 0), fun _ => False) ⟨rfl, rfl, rfl, trivial⟩ ⟨rdw.sw (by rw [Int.natCast_add]; exact k99) hq1 sw.o_le, bel, k2, k5, ArgQ.nil _ _ _, ⟨htl2, htn2⟩, ⟨by simp, by simp⟩, hstt⟩
   all_goals omega
  have hgt : K.g < g5 := by omega
  have k5l4 := k5.lt
  have k2l4 := k2.lt
  have hsb4 := bel.size
  have hcont : (op = 3 ∧ cont = fun q => (T0 q (d + 1)).bind fun a q => (signQ K.ws [41] q).bind fun _ q => .ok (.mk op [] [] [a]) q) ∨
   ((op = 4 ∨ op = 5) ∧ cont = fun q => (T0 q (d + 1)).bind fun a q => (signQ K.ws [44] q).bind fun _ q => (T0 q (d + 1)).bind fun b q => (signQ K.ws [41] q).bind fun _ q => .ok (.mk op [] [] [a, b]) q) ∨
   ((6 ≤ op ∧ op ≤ 9) ∧ cont = fun q => ((fullP K.ws).E 0 q (d + 1)).bind fun a q => (signQ K.ws [44] q).bind fun _ q => (T0 q (d + 1)).bind fun b q => (signQ K.ws [41] q).bind fun _ q => .ok (.mk op [] [a] [b]) q) := by
   rcases hcont with ⟨h, -⟩ | h
   ·exact absurd h h2
   ·exact h
  refine Zsr ?_
  refine Zf 0 Tryz.underlying25 ?_
  refine Zv (Runs.loadB rfl rfl Tryz.underlying3 rfl k5 rfl) ?_
  refine Zv (Runs.eqlI rfl rfl rfl) ?_
  refine Za ?_
  refine Zk10 0 2 3 4 5 6 24 38 70 96 (Zt ?_)
  refine Cd.condD rfl (fun h3 => ?_) (fun h3 => ?_)
  ·obtain ⟨-, rfl⟩ : op = 3 ∧ _ := by
    rcases hcont with h | ⟨h, -⟩ | ⟨h, -⟩
    ·exact h
    all_goals omega
   have hcl : ∀ W, SW K W q ((d : Int) + 1) dp bd → Fz we.heap.size K.g we W → Calls Tryz.prog 27 #[.pointer (some ⟨K.g, 0, none⟩)] W (CR K W.heap.size W (bothQ (T0 q (d + 1)) (d + 1) q ((d : Int) + 1) dp bd) (okT W)) := fun W h1 _ =>
    hT q (d + 1) _ _ _ W (by cases hb : bd with | false => exact .inl (stt.1 hb).2.2.1 | true => exact .inr rfl) (fun hb => ⟨by have := (stt.1 hb).1; omega, (stt.1 hb).2.1, (stt.1 hb).2.2.2.1⟩) h1
   refine Cd.drawG (σT := Tm × Value × (Nat → Prop) × Nat × Value) 6 (by kernel_rfl) rfl rfl (fun σ => [.pointer (some ⟨g5, 3, none⟩), .slice none 0 0, .pointer (some ⟨K.g, 0, none⟩), σ.2.1, .slice (some ⟨σ.2.2.2.1, 0, none⟩) 1 1, σ.2.2.2.2]) (fun σ S W => (S 5 = false → XC RepT K we q ((d : Int) + 1) dp bd (bothQ (T0 q (d + 1)) (d + 1) q ((d : Int) + 1) dp bd) (S 3) (S 4) σ.1 σ.2.2.1 σ.2.1 σ.2.2.2.1 25 W) ∧ (S 5 = true → (∃ p9 o9 dp9 bd9, SW K W p9 o9 dp9 bd9 ∧ (bothQ (T0 q (d + 1)) (d + 1) q ((d : Int) + 1) dp bd) σ.1 p9 o9 dp9 bd9) ∧ Fz g5 K.g we W ∧ Blk W g5 25 #[.int .i64 op, .string (strOf []), .slice none 0 0, .slice none 0 0] ∧ ∃ S', ArgQ W g5 g5 [] ([] ++ [σ.1]) [] ([] ++ [σ.2.1]) (.slice none 0 0) (σ.2.2.2.2) S')) ((zeroTm, undef, fun _ => False, 0, undef)) ?_ ?_ ?_
   ·intro w0 hb0 hs0
    exact ⟨fun _ => ⟨Fz.of hb0, fun _ => sw.step hb0, fun h => (by cases h), fun h => (by cases h)⟩, fun h => (by cases h)⟩
   ·intro k o ho
    match k, ho with
    | 0, ho =>
     injection ho with ho
     subst ho
     intro σ S w hS hpre hdc hX
     refine Seq.val (Runs.fieldB 3 rfl rfl Tryz.underlying25 rfl (by kernel_rfl)) rfl rfl rfl (Seq.nil ?_)
     exact Post.afterG rfl rfl rfl hpre rfl (fun _ _ => rfl) hX
    | 1, ho =>
     injection ho with ho
     subst ho
     intro σ S w hS hpre hdc hX
     have h5 := notDone hdc (i := 5) rfl hS (memB_spec rfl)
     refine Seq.val (Runs.loadB (g := g5) (i := 3) rfl rfl Tryz.underlying23 rfl (k5.fz (hX.1 h5).fz (by omega)) rfl) rfl rfl rfl (Seq.nil ?_)
     exact Post.afterG rfl rfl rfl hpre rfl (fun _ _ => rfl) hX
    | 2, ho =>
     injection ho with ho
     subst ho
     intro σ S w hS hpre hdc hX
     refine Seq.val (Runs.move rfl rfl) rfl rfl rfl (Seq.nil ?_)
     exact Post.afterG rfl rfl rfl hpre rfl (fun _ _ => rfl) hX
    | 3, ho =>
     injection ho with ho
     subst ho
     intro σ S w hS hpre hdc hX
     have h5 := notDone hdc (i := 5) rfl hS (memB_spec rfl)
     have h4 := notDone hdc (i := 4) rfl hS (memB_spec rfl)
     have hXa := hX.1 h5
     refine Zc (Ze Tryz.func27) ((fun W h1 h2 => hcl W h1 h2) w (hXa.pre hS) hXa.fz) ?_
     rintro e w6 ⟨hf, v6, x6, p6, o6, dp6, bd6, rfl, ⟨S6, hr6, hb6⟩, hsw6, hpf6⟩
     refine ⟨_, rfl, Seq.nil ?_⟩
     exact Post.afterG (σ := σ) (σ' := (x6, v6, S6, σ.2.2.2.1, σ.2.2.2.2)) rfl rfl rfl hpre rfl (fun j hj => keep3 hS h4 h5 j hj) ⟨fun _ => hXa.called h4 hf hsw6 hpf6 hr6 hb6, fun hm => (notT h5 hm).elim⟩
    | 4, ho =>
     injection ho with ho
     subst ho
     intro σ S w hS hpre hdc hX
     have h5 := notDone hdc (i := 5) rfl hS (memB_spec rfl)
     have hXa := hX.1 h5
     have hd := hpre 3 (memB_spec rfl)
     have hones := (hXa.post hd).2.1.ones
     refine Seq.slice (vs := [σ.2.1]) (s := 4) rfl rfl rfl Tryz.underlying23 (by kernel_rfl) zero_api_Term (by omega) (by omega) ⟨hones.1, trivial⟩ rfl rfl rfl ?_
     intro g7 w' n7
     refine Seq.nil ?_
     exact Post.afterG (σ := σ) (σ' := (σ.1, σ.2.1, σ.2.2.1, g7, σ.2.2.2.2)) rfl rfl rfl hpre rfl (fun j hj => keep4 hS h5 j hj) ⟨fun _ => hXa.slicedT hd n7, fun hm => (notT h5 hm).elim⟩
    | 5, ho =>
     injection ho with ho
     subst ho
     intro σ S w hS hpre hdc hX
     have hXa := hX.1 hS
     have hd := hpre 3 (memB_spec rfl)
     obtain ⟨⟨p3, o3, dp3, bd3, sw3, hpf3⟩, hrep, haway⟩ := hXa.post hd
     obtain ⟨ez, kz, hnz⟩ := hXa.new (hpre 4 (memB_spec rfl))
     have hones := hrep.ones
     have hsz := hXa.fz.size
     have aq3 := aq.fz hXa.fz hgt
     have hown := aq3.ownT
     have k90 := k5.fz hXa.fz (by omega)
     have hlt90 := k5.lt
     refine Seq.append2 rfl rfl rfl Tryz.underlying23 (by kernel_rfl) zero_api_Term rfl (by decide) (b := 72) (by kernel_rfl) hown (Reads.blk (size := 4) kz 1 hones.1) hones.2 (by omega) (by first | (simp only [maxLen]; omega) | (simp only [maxLen, List.length_nil, List.length_cons]; omega) | simp [maxLen]) (by first | omega | (simp only [List.length_nil, List.length_cons]; omega) | simp) rfl rfl rfl ?_
     intro v' w4 hown' happ hv'
     refine Seq.nil ?_
     have hs4 := happ.below.size
     have aq6 := aq3.addT hrep (fun b hb => ⟨by have := (haway b hb).1; omega, (haway b hb).2, by have := (haway b hb).1; omega, fun e => by have := (aq.ownE.blockLt b e).2; have := (haway b hb).1; omega, fun e => by have := (aq.ownT.blockLt b e).2; have := (haway b hb).1; omega⟩) hown' hs4
      (fun b _ h2 h3 h4 => happ.grown.block b h2 (fun e => h4 e.symm)) (hv'.elim .inl fun e => .inr ⟨_, e, Nat.le_refl _⟩) (by omega)
     exact Post.afterG (σ := σ) (σ' := (σ.1, σ.2.1, σ.2.2.1, σ.2.2.2.1, v')) rfl rfl rfl hpre rfl (fun j hj => keep5 hS j hj) ⟨(fun h => by cases h), fun _ => ⟨⟨p3, o3, dp3, bd3, ⟨sw3.blk.grown happ.grown (fun e => by have := (hown.blockLt _ e.symm).1; omega), sw3.rd.below (happ.below.mono (by omega)), sw3.p_le, sw3.o_le, sw3.le⟩, hpf3⟩, (hXa.fz.less (by omega)).trans (Fz.of happ.below), k90.grown happ.grown (fun e => aq3.neT e.symm), _, aq6⟩⟩
    | k + 6, ho => simp at ho
   rintro ⟨x1, v1, S1, g1x, vX⟩ S3 wr1 hS hX
   obtain ⟨⟨q1, o1, dp1, bd1, sw1, hpf⟩, fz3, k53, S7, aq3⟩ := hX.2 (hS 5 (by decide))
   clear hX
   dsimp only at hpf aq3
   have stt1 := stt.part hMT hpf
   have hs1 := fz3.size
   have bel3 : Fz w.heap.size K.g w wr1 := bel.trans (fz3.less (by omega))
   have k23 := k2.fzl fz3 h25 (by omega)
   obtain ⟨AX, cX, hvX, -⟩ := aq3.ownT.reads
   subst hvX
   clear bel k2 k5 aq sw stt
   have bel := bel3
   have k2 := k23
   have k5 := k53
   have aq := aq3
   have sw := sw1
   have e5 : w.heap.size ≤ g5 := hg5
   refine Zf 3 Tryz.underlying25 ?_
   refine Zq k5 ?_
   intro w6 pw6
   replace bel := bel.put k5 pw6 e5
   replace k2 := k2.put pw6 (by omega)
   replace aq := aq.put k5 pw6 e5
   replace sw := sw.put k5 pw6 e5
   replace k5 := pw6.blk
   refine Zk10 0 2 3 4 5 6 24 38 70 96 (Post.block_normal ?_)
   exact Post.join (q1, o1, dp1, bd1, [], [], [x1], [], [v1], (none, 0), (AX, cX), _) ⟨rfl, rfl, rfl, trivial⟩ ⟨sw, bel, k2, k5, aq, ⟨by simp, by simp⟩, ⟨by simp, by simp⟩, stt1⟩
  have hcont : ((op = 4 ∨ op = 5) ∧ cont = fun q => (T0 q (d + 1)).bind fun a q => (signQ K.ws [44] q).bind fun _ q => (T0 q (d + 1)).bind fun b q => (signQ K.ws [41] q).bind fun _ q => .ok (.mk op [] [] [a, b]) q) ∨
   ((6 ≤ op ∧ op ≤ 9) ∧ cont = fun q => ((fullP K.ws).E 0 q (d + 1)).bind fun a q => (signQ K.ws [44] q).bind fun _ q => (T0 q (d + 1)).bind fun b q => (signQ K.ws [41] q).bind fun _ q => .ok (.mk op [] [a] [b]) q) := by
   rcases hcont with ⟨h, -⟩ | h
   ·exact absurd h h3
   ·exact h
  refine Zsr ?_
  refine Zf 0 Tryz.underlying25 ?_
  refine Zv (Runs.loadB rfl rfl Tryz.underlying3 rfl k5 rfl) ?_
  refine Zv (Runs.leq rfl rfl rfl) ?_
  refine Za ?_
  refine Zk11 0 2 3 4 5 6 24 38 70 96 107 (Zt ?_)
  refine Cd.condD rfl (fun h4 => ?_) (fun h4 => ?_)
  ·obtain ⟨-, rfl⟩ : (op = 4 ∨ op = 5) ∧ _ := by
    rcases hcont with h | ⟨h, -⟩
    ·exact h
    ·omega
   have hcl : ∀ W, SW K W q ((d : Int) + 1) dp bd → Fz we.heap.size K.g we W → Calls Tryz.prog 27 #[.pointer (some ⟨K.g, 0, none⟩)] W (CR K W.heap.size W (bothQ (T0 q (d + 1)) (d + 1) q ((d : Int) + 1) dp bd) (okT W)) := fun W h1 _ =>
    hT q (d + 1) _ _ _ W (by cases hb : bd with | false => exact .inl (stt.1 hb).2.2.1 | true => exact .inr rfl) (fun hb => ⟨by have := (stt.1 hb).1; omega, (stt.1 hb).2.1, (stt.1 hb).2.2.2.1⟩) h1
   refine Cd.seq ?_
   refine Cd.drawG (σT := Tm × Value × (Nat → Prop) × Nat × Value) 6 (by kernel_rfl) rfl rfl (fun σ => [.pointer (some ⟨g5, 3, none⟩), .slice none 0 0, .pointer (some ⟨K.g, 0, none⟩), σ.2.1, .slice (some ⟨σ.2.2.2.1, 0, none⟩) 1 1, σ.2.2.2.2]) (fun σ S W => (S 5 = false → XC RepT K we q ((d : Int) + 1) dp bd (bothQ (T0 q (d + 1)) (d + 1) q ((d : Int) + 1) dp bd) (S 3) (S 4) σ.1 σ.2.2.1 σ.2.1 σ.2.2.2.1 25 W) ∧ (S 5 = true → (∃ p9 o9 dp9 bd9, SW K W p9 o9 dp9 bd9 ∧ (bothQ (T0 q (d + 1)) (d + 1) q ((d : Int) + 1) dp bd) σ.1 p9 o9 dp9 bd9) ∧ Fz g5 K.g we W ∧ Blk W g5 25 #[.int .i64 op, .string (strOf []), .slice none 0 0, .slice none 0 0] ∧ ∃ S', ArgQ W g5 g5 [] ([] ++ [σ.1]) [] ([] ++ [σ.2.1]) (.slice none 0 0) (σ.2.2.2.2) S')) ((zeroTm, undef, fun _ => False, 0, undef)) ?_ ?_ ?_
   ·intro w0 hb0 hs0
    exact ⟨fun _ => ⟨Fz.of hb0, fun _ => sw.step hb0, fun h => (by cases h), fun h => (by cases h)⟩, fun h => (by cases h)⟩
   ·intro k o ho
    match k, ho with
    | 0, ho =>
     injection ho with ho
     subst ho
     intro σ S w hS hpre hdc hX
     refine Seq.val (Runs.fieldB 3 rfl rfl Tryz.underlying25 rfl (by kernel_rfl)) rfl rfl rfl (Seq.nil ?_)
     exact Post.afterG rfl rfl rfl hpre rfl (fun _ _ => rfl) hX
    | 1, ho =>
     injection ho with ho
     subst ho
     intro σ S w hS hpre hdc hX
     have h5 := notDone hdc (i := 5) rfl hS (memB_spec rfl)
     refine Seq.val (Runs.loadB (g := g5) (i := 3) rfl rfl Tryz.underlying23 rfl (k5.fz (hX.1 h5).fz (by omega)) rfl) rfl rfl rfl (Seq.nil ?_)
     exact Post.afterG rfl rfl rfl hpre rfl (fun _ _ => rfl) hX
    | 2, ho =>
     injection ho with ho
     subst ho
     intro σ S w hS hpre hdc hX
     refine Seq.val (Runs.move rfl rfl) rfl rfl rfl (Seq.nil ?_)
     exact Post.afterG rfl rfl rfl hpre rfl (fun _ _ => rfl) hX
    | 3, ho =>
     injection ho with ho
     subst ho
     intro σ S w hS hpre hdc hX
     have h5 := notDone hdc (i := 5) rfl hS (memB_spec rfl)
     have h4 := notDone hdc (i := 4) rfl hS (memB_spec rfl)
     have hXa := hX.1 h5
     refine Zc (Ze Tryz.func27) ((fun W h1 h2 => hcl W h1 h2) w (hXa.pre hS) hXa.fz) ?_
     rintro e w6 ⟨hf, v6, x6, p6, o6, dp6, bd6, rfl, ⟨S6, hr6, hb6⟩, hsw6, hpf6⟩
     refine ⟨_, rfl, Seq.nil ?_⟩
     exact Post.afterG (σ := σ) (σ' := (x6, v6, S6, σ.2.2.2.1, σ.2.2.2.2)) rfl rfl rfl hpre rfl (fun j hj => keep3 hS h4 h5 j hj) ⟨fun _ => hXa.called h4 hf hsw6 hpf6 hr6 hb6, fun hm => (notT h5 hm).elim⟩
    | 4, ho =>
     injection ho with ho
     subst ho
     intro σ S w hS hpre hdc hX
     have h5 := notDone hdc (i := 5) rfl hS (memB_spec rfl)
     have hXa := hX.1 h5
     have hd := hpre 3 (memB_spec rfl)
     have hones := (hXa.post hd).2.1.ones
     refine Seq.slice (vs := [σ.2.1]) (s := 4) rfl rfl rfl Tryz.underlying23 (by kernel_rfl) zero_api_Term (by omega) (by omega) ⟨hones.1, trivial⟩ rfl rfl rfl ?_
     intro g7 w' n7
     refine Seq.nil ?_
     exact Post.afterG (σ := σ) (σ' := (σ.1, σ.2.1, σ.2.2.1, g7, σ.2.2.2.2)) rfl rfl rfl hpre rfl (fun j hj => keep4 hS h5 j hj) ⟨fun _ => hXa.slicedT hd n7, fun hm => (notT h5 hm).elim⟩
    | 5, ho =>
     injection ho with ho
     subst ho
     intro σ S w hS hpre hdc hX
     have hXa := hX.1 hS
     have hd := hpre 3 (memB_spec rfl)
     obtain ⟨⟨p3, o3, dp3, bd3, sw3, hpf3⟩, hrep, haway⟩ := hXa.post hd
     obtain ⟨ez, kz, hnz⟩ := hXa.new (hpre 4 (memB_spec rfl))
     have hones := hrep.ones
     have hsz := hXa.fz.size
     have aq3 := aq.fz hXa.fz hgt
     have hown := aq3.ownT
     have k90 := k5.fz hXa.fz (by omega)
     have hlt90 := k5.lt
     refine Seq.append2 rfl rfl rfl Tryz.underlying23 (by kernel_rfl) zero_api_Term rfl (by decide) (b := 72) (by kernel_rfl) hown (Reads.blk (size := 4) kz 1 hones.1) hones.2 (by omega) (by first | (simp only [maxLen]; omega) | (simp only [maxLen, List.length_nil, List.length_cons]; omega) | simp [maxLen]) (by first | omega | (simp only [List.length_nil, List.length_cons]; omega) | simp) rfl rfl rfl ?_
     intro v' w4 hown' happ hv'
     refine Seq.nil ?_
     have hs4 := happ.below.size
     have aq6 := aq3.addT hrep (fun b hb => ⟨by have := (haway b hb).1; omega, (haway b hb).2, by have := (haway b hb).1; omega, fun e => by have := (aq.ownE.blockLt b e).2; have := (haway b hb).1; omega, fun e => by have := (aq.ownT.blockLt b e).2; have := (haway b hb).1; omega⟩) hown' hs4
      (fun b _ h2 h3 h4 => happ.grown.block b h2 (fun e => h4 e.symm)) (hv'.elim .inl fun e => .inr ⟨_, e, Nat.le_refl _⟩) (by omega)
     exact Post.afterG (σ := σ) (σ' := (σ.1, σ.2.1, σ.2.2.1, σ.2.2.2.1, v')) rfl rfl rfl hpre rfl (fun j hj => keep5 hS j hj) ⟨(fun h => by cases h), fun _ => ⟨⟨p3, o3, dp3, bd3, ⟨sw3.blk.grown happ.grown (fun e => by have := (hown.blockLt _ e.symm).1; omega), sw3.rd.below (happ.below.mono (by omega)), sw3.p_le, sw3.o_le, sw3.le⟩, hpf3⟩, (hXa.fz.less (by omega)).trans (Fz.of happ.below), k90.grown happ.grown (fun e => aq3.neT e.symm), _, aq6⟩⟩
    | k + 6, ho => simp at ho
   rintro ⟨x1, v1, S1, g1x, vX⟩ S3 wr1 hS hX
   obtain ⟨⟨q1, o1, dp1, bd1, sw1, hpf⟩, fz3, k53, S7, aq3⟩ := hX.2 (hS 5 (by decide))
   clear hX
   dsimp only at hpf aq3
   have stt1 := stt.part hMT hpf
   have hs1 := fz3.size
   have bel3 : Fz w.heap.size K.g w wr1 := bel.trans (fz3.less (by omega))
   have k23 := k2.fzl fz3 h25 (by omega)
   obtain ⟨AX, cX, hvX, -⟩ := aq3.ownT.reads
   subst hvX
   clear bel k2 k5 aq sw stt
   have bel := bel3
   have k2 := k23
   have k5 := k53
   have aq := aq3
   have sw := sw1
   have e5 : w.heap.size ≤ g5 := hg5
   refine Zf 3 Tryz.underlying25 ?_
   refine Zq k5 ?_
   intro w6 pw6
   replace bel := bel.put k5 pw6 e5
   replace k2 := k2.put pw6 (by omega)
   replace aq := aq.put k5 pw6 e5
   replace sw := sw.put k5 pw6 e5
   replace k5 := pw6.blk
   refine Zk11 0 2 3 4 5 6 24 38 70 96 107 (Ztq ?_)
   refine Zm ?_
   have hta := take_any K hK q1 o1 dp1 bd1 [44] _ sw (by decide) (by decide)
   have k2l5 := k2.lt
   have k5l5 := k5.lt
   have hsb5 := bel.size
   refine Zc (Ze Tryz.func67) hta ?_
   rintro e w8 ⟨⟨vq, rfl⟩, hfq, swq⟩
   refine ⟨_, rfl, ?_⟩
   have belq := bel.call hfq
   have k2q := k2.fz hfq (by omega)
   have k5q := k5.fz hfq (by omega)
   have aqq := aq.fz hfq hgt
   have hsq := hfq.size
   have sttq := stt1.sign
   clear bel k2 k5 hta aq sw stt1
   have bel := belq
   have k2 := k2q
   have k5 := k5q
   have aq := aqq
   have sw := swq
   obtain ⟨q8, hq8⟩ : ∃ z, z = (takeQ K.ws [44] q1 bd1).1 := ⟨_, rfl⟩
   obtain ⟨bd8, hbd8⟩ : ∃ z, z = (takeQ K.ws [44] q1 bd1).2 := ⟨_, rfl⟩
   rw [← hq8, ← hbd8] at sw sttq
   have k5l6 := k5.lt
   have hsb6 := bel.size
   refine Zk11 0 2 3 4 5 6 24 38 70 96 107 (Zt ?_)
   have hcl : ∀ W, SW K W q8 o1 dp1 bd8 → Fz w8.heap.size K.g w8 W → Calls Tryz.prog 27 #[.pointer (some ⟨K.g, 0, none⟩)] W (CR K W.heap.size W (bothQ (T0 q8 (d + 1)) (d + 1) q8 o1 dp1 bd8) (okT W)) := fun W h1 _ =>
    hT q8 (d + 1) _ _ _ W (by cases hb : bd8 with | false => exact .inl (sttq.1 hb).2.2.1 | true => exact .inr rfl) (fun hb => ⟨by have := (sttq.1 hb).1; omega, (sttq.1 hb).2.1, (sttq.1 hb).2.2.2.1⟩) h1
   refine Cd.drawG (σT := Tm × Value × (Nat → Prop) × Nat × Value) 6 (by kernel_rfl) rfl rfl (fun σ => [.pointer (some ⟨g5, 3, none⟩), .slice AX [x1].length cX, .pointer (some ⟨K.g, 0, none⟩), σ.2.1, .slice (some ⟨σ.2.2.2.1, 0, none⟩) 1 1, σ.2.2.2.2]) (fun σ S W => (S 5 = false → XC RepT K w8 q8 o1 dp1 bd8 (bothQ (T0 q8 (d + 1)) (d + 1) q8 o1 dp1 bd8) (S 3) (S 4) σ.1 σ.2.2.1 σ.2.1 σ.2.2.2.1 25 W) ∧ (S 5 = true → (∃ p9 o9 dp9 bd9, SW K W p9 o9 dp9 bd9 ∧ (bothQ (T0 q8 (d + 1)) (d + 1) q8 o1 dp1 bd8) σ.1 p9 o9 dp9 bd9) ∧ Fz g5 K.g w8 W ∧ Blk W g5 25 #[.int .i64 op, .string (strOf []), .slice none 0 0, .slice AX [x1].length cX] ∧ ∃ S', ArgQ W g5 g5 [] ([x1] ++ [σ.1]) [] ([v1] ++ [σ.2.1]) (.slice none 0 0) (σ.2.2.2.2) S')) ((zeroTm, undef, fun _ => False, 0, undef)) ?_ ?_ ?_
   ·intro w0 hb0 hs0
    exact ⟨fun _ => ⟨Fz.of hb0, fun _ => sw.step hb0, fun h => (by cases h), fun h => (by cases h)⟩, fun h => (by cases h)⟩
   ·intro k o ho
    match k, ho with
    | 0, ho =>
     injection ho with ho
     subst ho
     intro σ S w hS hpre hdc hX
     refine Seq.val (Runs.fieldB 3 rfl rfl Tryz.underlying25 rfl (by kernel_rfl)) rfl rfl rfl (Seq.nil ?_)
     exact Post.afterG rfl rfl rfl hpre rfl (fun _ _ => rfl) hX
    | 1, ho =>
     injection ho with ho
     subst ho
     intro σ S w hS hpre hdc hX
     have h5 := notDone hdc (i := 5) rfl hS (memB_spec rfl)
     refine Seq.val (Runs.loadB (g := g5) (i := 3) rfl rfl Tryz.underlying23 rfl (k5.fz (hX.1 h5).fz (by omega)) rfl) rfl rfl rfl (Seq.nil ?_)
     exact Post.afterG rfl rfl rfl hpre rfl (fun _ _ => rfl) hX
    | 2, ho =>
     injection ho with ho
     subst ho
     intro σ S w hS hpre hdc hX
     refine Seq.val (Runs.move rfl rfl) rfl rfl rfl (Seq.nil ?_)
     exact Post.afterG rfl rfl rfl hpre rfl (fun _ _ => rfl) hX
    | 3, ho =>
     injection ho with ho
     subst ho
     intro σ S w hS hpre hdc hX
     have h5 := notDone hdc (i := 5) rfl hS (memB_spec rfl)
     have h4 := notDone hdc (i := 4) rfl hS (memB_spec rfl)
     have hXa := hX.1 h5
     refine Zc (Ze Tryz.func27) ((fun W h1 h2 => hcl W h1 h2) w (hXa.pre hS) hXa.fz) ?_
     rintro e w6 ⟨hf, v6, x6, p6, o6, dp6, bd6, rfl, ⟨S6, hr6, hb6⟩, hsw6, hpf6⟩
     refine ⟨_, rfl, Seq.nil ?_⟩
     exact Post.afterG (σ := σ) (σ' := (x6, v6, S6, σ.2.2.2.1, σ.2.2.2.2)) rfl rfl rfl hpre rfl (fun j hj => keep3 hS h4 h5 j hj) ⟨fun _ => hXa.called h4 hf hsw6 hpf6 hr6 hb6, fun hm => (notT h5 hm).elim⟩
    | 4, ho =>
     injection ho with ho
     subst ho
     intro σ S w hS hpre hdc hX
     have h5 := notDone hdc (i := 5) rfl hS (memB_spec rfl)
     have hXa := hX.1 h5
     have hd := hpre 3 (memB_spec rfl)
     have hones := (hXa.post hd).2.1.ones
     refine Seq.slice (vs := [σ.2.1]) (s := 4) rfl rfl rfl Tryz.underlying23 (by kernel_rfl) zero_api_Term (by omega) (by omega) ⟨hones.1, trivial⟩ rfl rfl rfl ?_
     intro g7 w' n7
     refine Seq.nil ?_
     exact Post.afterG (σ := σ) (σ' := (σ.1, σ.2.1, σ.2.2.1, g7, σ.2.2.2.2)) rfl rfl rfl hpre rfl (fun j hj => keep4 hS h5 j hj) ⟨fun _ => hXa.slicedT hd n7, fun hm => (notT h5 hm).elim⟩
    | 5, ho =>
     injection ho with ho
     subst ho
     intro σ S w hS hpre hdc hX
     have hXa := hX.1 hS
     have hd := hpre 3 (memB_spec rfl)
     obtain ⟨⟨p3, o3, dp3, bd3, sw3, hpf3⟩, hrep, haway⟩ := hXa.post hd
     obtain ⟨ez, kz, hnz⟩ := hXa.new (hpre 4 (memB_spec rfl))
     have hones := hrep.ones
     have hsz := hXa.fz.size
     have aq3 := aq.fz hXa.fz hgt
     have hown := aq3.ownT
     have k90 := k5.fz hXa.fz (by omega)
     have hlt90 := k5.lt
     refine Seq.append2 rfl rfl rfl Tryz.underlying23 (by kernel_rfl) zero_api_Term rfl (by decide) (b := 72) (by kernel_rfl) hown (Reads.blk (size := 4) kz 1 hones.1) hones.2 (by omega) (by first | (simp only [maxLen]; omega) | (simp only [maxLen, List.length_nil, List.length_cons]; omega) | simp [maxLen]) (by first | omega | (simp only [List.length_nil, List.length_cons]; omega) | simp) rfl rfl rfl ?_
     intro v' w4 hown' happ hv'
     refine Seq.nil ?_
     have hs4 := happ.below.size
     have aq6 := aq3.addT hrep (fun b hb => ⟨by have := (haway b hb).1; omega, (haway b hb).2, by have := (haway b hb).1; omega, fun e => by have := (aq.ownE.blockLt b e).2; have := (haway b hb).1; omega, fun e => by have := (aq.ownT.blockLt b e).2; have := (haway b hb).1; omega⟩) hown' hs4
      (fun b _ h2 h3 h4 => happ.grown.block b h2 (fun e => h4 e.symm)) (hv'.elim .inl fun e => .inr ⟨_, e, Nat.le_refl _⟩) (by omega)
     exact Post.afterG (σ := σ) (σ' := (σ.1, σ.2.1, σ.2.2.1, σ.2.2.2.1, v')) rfl rfl rfl hpre rfl (fun j hj => keep5 hS j hj) ⟨(fun h => by cases h), fun _ => ⟨⟨p3, o3, dp3, bd3, ⟨sw3.blk.grown happ.grown (fun e => by have := (hown.blockLt _ e.symm).1; omega), sw3.rd.below (happ.below.mono (by omega)), sw3.p_le, sw3.o_le, sw3.le⟩, hpf3⟩, (hXa.fz.less (by omega)).trans (Fz.of happ.below), k90.grown happ.grown (fun e => aq3.neT e.symm), _, aq6⟩⟩
    | k + 6, ho => simp at ho
   rintro ⟨x2, v2, S2, g2x, vX⟩ S3 wr2 hS hX
   obtain ⟨⟨q2, o2, dp2, bd2, sw2, hpf⟩, fz3, k53, S7, aq3⟩ := hX.2 (hS 5 (by decide))
   clear hX
   dsimp only at hpf aq3
   have stt2 := sttq.part hMT hpf
   have hs2 := fz3.size
   have bel3 : Fz w.heap.size K.g w wr2 := bel.trans (fz3.less (by omega))
   have k23 := k2.fzl fz3 h25 (by omega)
   obtain ⟨AX2, cX2, hvX, -⟩ := aq3.ownT.reads
   subst hvX
   clear bel k2 k5 aq sw sttq
   have bel := bel3
   have k2 := k23
   have k5 := k53
   have aq := aq3
   have sw := sw2
   have e5 : w.heap.size ≤ g5 := hg5
   refine Zf 3 Tryz.underlying25 ?_
   refine Zq k5 ?_
   intro w7 pw7
   replace bel := bel.put k5 pw7 e5
   replace k2 := k2.put pw7 (by omega)
   replace aq := aq.put k5 pw7 e5
   replace sw := sw.put k5 pw7 e5
   replace k5 := pw7.blk
   refine Zk11 0 2 3 4 5 6 24 38 70 96 107 (Post.block_normal ?_)
   exact Post.join (q2, o2, dp2, bd2, [], [], [x1, x2], [], [v1, v2], (none, 0), (AX2, cX2), _) ⟨rfl, rfl, rfl, trivial⟩ ⟨sw, bel, k2, k5, aq, ⟨by simp, by simp⟩, ⟨by simp, by simp⟩, stt2⟩
  ·obtain ⟨-, rfl⟩ : (6 ≤ op ∧ op ≤ 9) ∧ _ := by
    rcases hcont with ⟨h, -⟩ | h
    ·omega
    ·exact h
   have hcl : ∀ W, SW K W q ((d : Int) + 1) dp bd → Fz we.heap.size K.g we W → Calls Tryz.prog 33 #[.pointer (some ⟨K.g, 0, none⟩), .int .i64 1] W (CR K W.heap.size W (bothQ ((fullP K.ws).E 0 q (d + 1)) (d + 1) q ((d : Int) + 1) dp bd) (okE W)) := fun W h1 _ =>
    exprS_any K hK hW q (d + 1) _ _ _ (fun hb => ⟨by have := (stt.1 hb).1; omega, (stt.1 hb).2.1, (stt.1 hb).2.2.2.1⟩) W h1
   refine Cd.seq ?_
   refine Cd.drawG (σT := Ex × Value × (Nat → Prop) × Nat × Value) 6 (by kernel_rfl) rfl rfl (fun σ => [.pointer (some ⟨g5, 2, none⟩), .slice none 0 0, .pointer (some ⟨K.g, 0, none⟩), σ.2.1, .slice (some ⟨σ.2.2.2.1, 0, none⟩) 1 1, σ.2.2.2.2]) (fun σ S W => (S 5 = false → XC RepE K we q ((d : Int) + 1) dp bd (bothQ ((fullP K.ws).E 0 q (d + 1)) (d + 1) q ((d : Int) + 1) dp bd) (S 3) (S 4) σ.1 σ.2.2.1 σ.2.1 σ.2.2.2.1 35 W) ∧ (S 5 = true → (∃ p9 o9 dp9 bd9, SW K W p9 o9 dp9 bd9 ∧ (bothQ ((fullP K.ws).E 0 q (d + 1)) (d + 1) q ((d : Int) + 1) dp bd) σ.1 p9 o9 dp9 bd9) ∧ Fz g5 K.g we W ∧ Blk W g5 25 #[.int .i64 op, .string (strOf []), .slice none 0 0, .slice none 0 0] ∧ ∃ S', ArgQ W g5 g5 ([] ++ [σ.1]) [] ([] ++ [σ.2.1]) [] (σ.2.2.2.2) (.slice none 0 0) S')) ((zeroEx, undef, fun _ => False, 0, undef)) ?_ ?_ ?_
   ·intro w0 hb0 hs0
    exact ⟨fun _ => ⟨Fz.of hb0, fun _ => sw.step hb0, fun h => (by cases h), fun h => (by cases h)⟩, fun h => (by cases h)⟩
   ·intro k o ho
    match k, ho with
    | 0, ho =>
     injection ho with ho
     subst ho
     intro σ S w hS hpre hdc hX
     refine Seq.val (Runs.fieldB 2 rfl rfl Tryz.underlying25 rfl (by kernel_rfl)) rfl rfl rfl (Seq.nil ?_)
     exact Post.afterG rfl rfl rfl hpre rfl (fun _ _ => rfl) hX
    | 1, ho =>
     injection ho with ho
     subst ho
     intro σ S w hS hpre hdc hX
     have h5 := notDone hdc (i := 5) rfl hS (memB_spec rfl)
     refine Seq.val (Runs.loadB (g := g5) (i := 2) rfl rfl Tryz.underlying22 rfl (k5.fz (hX.1 h5).fz (by omega)) rfl) rfl rfl rfl (Seq.nil ?_)
     exact Post.afterG rfl rfl rfl hpre rfl (fun _ _ => rfl) hX
    | 2, ho =>
     injection ho with ho
     subst ho
     intro σ S w hS hpre hdc hX
     refine Seq.val (Runs.move rfl rfl) rfl rfl rfl (Seq.nil ?_)
     exact Post.afterG rfl rfl rfl hpre rfl (fun _ _ => rfl) hX
    | 3, ho =>
     injection ho with ho
     subst ho
     intro σ S w hS hpre hdc hX
     have h5 := notDone hdc (i := 5) rfl hS (memB_spec rfl)
     have h4 := notDone hdc (i := 4) rfl hS (memB_spec rfl)
     have hXa := hX.1 h5
     refine Zc (Ze Tryz.func33) ((fun W h1 h2 => hcl W h1 h2) w (hXa.pre hS) hXa.fz) ?_
     rintro e w6 ⟨hf, v6, x6, p6, o6, dp6, bd6, rfl, ⟨S6, hr6, hb6⟩, hsw6, hpf6⟩
     refine ⟨_, rfl, Seq.nil ?_⟩
     exact Post.afterG (σ := σ) (σ' := (x6, v6, S6, σ.2.2.2.1, σ.2.2.2.2)) rfl rfl rfl hpre rfl (fun j hj => keep3 hS h4 h5 j hj) ⟨fun _ => hXa.called h4 hf hsw6 hpf6 hr6 hb6, fun hm => (notT h5 hm).elim⟩
    | 4, ho =>
     injection ho with ho
     subst ho
     intro σ S w hS hpre hdc hX
     have h5 := notDone hdc (i := 5) rfl hS (memB_spec rfl)
     have hXa := hX.1 h5
     have hd := hpre 3 (memB_spec rfl)
     have hones := (hXa.post hd).2.1.ones
     refine Seq.slice (vs := [σ.2.1]) (s := 4) rfl rfl rfl Tryz.underlying22 (by kernel_rfl) zero_api_Expr (by omega) (by omega) ⟨hones.1, trivial⟩ rfl rfl rfl ?_
     intro g7 w' n7
     refine Seq.nil ?_
     exact Post.afterG (σ := σ) (σ' := (σ.1, σ.2.1, σ.2.2.1, g7, σ.2.2.2.2)) rfl rfl rfl hpre rfl (fun j hj => keep4 hS h5 j hj) ⟨fun _ => hXa.slicedE hd n7, fun hm => (notT h5 hm).elim⟩
    | 5, ho =>
     injection ho with ho
     subst ho
     intro σ S w hS hpre hdc hX
     have hXa := hX.1 hS
     have hd := hpre 3 (memB_spec rfl)
     obtain ⟨⟨p3, o3, dp3, bd3, sw3, hpf3⟩, hrep, haway⟩ := hXa.post hd
     obtain ⟨ez, kz, hnz⟩ := hXa.new (hpre 4 (memB_spec rfl))
     have hones := hrep.ones
     have hsz := hXa.fz.size
     have aq3 := aq.fz hXa.fz hgt
     have hown := aq3.ownE
     have k90 := k5.fz hXa.fz (by omega)
     have hlt90 := k5.lt
     refine Seq.append2 rfl rfl rfl Tryz.underlying22 (by kernel_rfl) zero_api_Expr rfl (by decide) (b := 56) (by kernel_rfl) hown (Reads.blk (size := 4) kz 1 hones.1) hones.2 (by omega) (by first | (simp only [maxLen]; omega) | (simp only [maxLen, List.length_nil, List.length_cons]; omega) | simp [maxLen]) (by first | omega | (simp only [List.length_nil, List.length_cons]; omega) | simp) rfl rfl rfl ?_
     intro v' w4 hown' happ hv'
     refine Seq.nil ?_
     have hs4 := happ.below.size
     have aq6 := aq3.addE hrep (fun b hb => ⟨by have := (haway b hb).1; omega, (haway b hb).2, by have := (haway b hb).1; omega, fun e => by have := (aq.ownE.blockLt b e).2; have := (haway b hb).1; omega, fun e => by have := (aq.ownT.blockLt b e).2; have := (haway b hb).1; omega⟩) hown' hs4
      (fun b _ h2 h3 h4 => happ.grown.block b h2 (fun e => h4 e.symm)) (hv'.elim .inl fun e => .inr ⟨_, e, Nat.le_refl _⟩) (by omega)
     exact Post.afterG (σ := σ) (σ' := (σ.1, σ.2.1, σ.2.2.1, σ.2.2.2.1, v')) rfl rfl rfl hpre rfl (fun j hj => keep5 hS j hj) ⟨(fun h => by cases h), fun _ => ⟨⟨p3, o3, dp3, bd3, ⟨sw3.blk.grown happ.grown (fun e => by have := (hown.blockLt _ e.symm).1; omega), sw3.rd.below (happ.below.mono (by omega)), sw3.p_le, sw3.o_le, sw3.le⟩, hpf3⟩, (hXa.fz.less (by omega)).trans (Fz.of happ.below), k90.grown happ.grown (fun e => aq3.neE e.symm), _, aq6⟩⟩
    | k + 6, ho => simp at ho
   rintro ⟨x1, v1, S1, g1x, vX⟩ S3 wr1 hS hX
   obtain ⟨⟨q1, o1, dp1, bd1, sw1, hpf⟩, fz3, k53, S7, aq3⟩ := hX.2 (hS 5 (by decide))
   clear hX
   dsimp only at hpf aq3
   have stt1 := stt.part hME hpf
   have hs1 := fz3.size
   have bel3 : Fz w.heap.size K.g w wr1 := bel.trans (fz3.less (by omega))
   have k23 := k2.fzl fz3 h25 (by omega)
   obtain ⟨AX, cX, hvX, -⟩ := aq3.ownE.reads
   subst hvX
   clear bel k2 k5 aq sw stt
   have bel := bel3
   have k2 := k23
   have k5 := k53
   have aq := aq3
   have sw := sw1
   have e5 : w.heap.size ≤ g5 := hg5
   refine Zf 2 Tryz.underlying25 ?_
   refine Zq k5 ?_
   intro w6 pw6
   replace bel := bel.put k5 pw6 e5
   replace k2 := k2.put pw6 (by omega)
   replace aq := aq.put k5 pw6 e5
   replace sw := sw.put k5 pw6 e5
   replace k5 := pw6.blk
   refine Zk11 0 2 3 4 5 6 24 38 70 96 107 (Ztq ?_)
   refine Zm ?_
   have hta := take_any K hK q1 o1 dp1 bd1 [44] _ sw (by decide) (by decide)
   have k2l5 := k2.lt
   have k5l5 := k5.lt
   have hsb5 := bel.size
   refine Zc (Ze Tryz.func67) hta ?_
   rintro e w8 ⟨⟨vq, rfl⟩, hfq, swq⟩
   refine ⟨_, rfl, ?_⟩
   have belq := bel.call hfq
   have k2q := k2.fz hfq (by omega)
   have k5q := k5.fz hfq (by omega)
   have aqq := aq.fz hfq hgt
   have hsq := hfq.size
   have sttq := stt1.sign
   clear bel k2 k5 hta aq sw stt1
   have bel := belq
   have k2 := k2q
   have k5 := k5q
   have aq := aqq
   have sw := swq
   obtain ⟨q8, hq8⟩ : ∃ z, z = (takeQ K.ws [44] q1 bd1).1 := ⟨_, rfl⟩
   obtain ⟨bd8, hbd8⟩ : ∃ z, z = (takeQ K.ws [44] q1 bd1).2 := ⟨_, rfl⟩
   rw [← hq8, ← hbd8] at sw sttq
   have k5l6 := k5.lt
   have hsb6 := bel.size
   refine Zk11 0 2 3 4 5 6 24 38 70 96 107 (Zt ?_)
   have hcl : ∀ W, SW K W q8 o1 dp1 bd8 → Fz w8.heap.size K.g w8 W → Calls Tryz.prog 27 #[.pointer (some ⟨K.g, 0, none⟩)] W (CR K W.heap.size W (bothQ (T0 q8 (d + 1)) (d + 1) q8 o1 dp1 bd8) (okT W)) := fun W h1 _ =>
    hT q8 (d + 1) _ _ _ W (by cases hb : bd8 with | false => exact .inl (sttq.1 hb).2.2.1 | true => exact .inr rfl) (fun hb => ⟨by have := (sttq.1 hb).1; omega, (sttq.1 hb).2.1, (sttq.1 hb).2.2.2.1⟩) h1
   refine Cd.drawG (σT := Tm × Value × (Nat → Prop) × Nat × Value) 6 (by kernel_rfl) rfl rfl (fun σ => [.pointer (some ⟨g5, 3, none⟩), .slice none 0 0, .pointer (some ⟨K.g, 0, none⟩), σ.2.1, .slice (some ⟨σ.2.2.2.1, 0, none⟩) 1 1, σ.2.2.2.2]) (fun σ S W => (S 5 = false → XC RepT K w8 q8 o1 dp1 bd8 (bothQ (T0 q8 (d + 1)) (d + 1) q8 o1 dp1 bd8) (S 3) (S 4) σ.1 σ.2.2.1 σ.2.1 σ.2.2.2.1 25 W) ∧ (S 5 = true → (∃ p9 o9 dp9 bd9, SW K W p9 o9 dp9 bd9 ∧ (bothQ (T0 q8 (d + 1)) (d + 1) q8 o1 dp1 bd8) σ.1 p9 o9 dp9 bd9) ∧ Fz g5 K.g w8 W ∧ Blk W g5 25 #[.int .i64 op, .string (strOf []), .slice AX [x1].length cX, .slice none 0 0] ∧ ∃ S', ArgQ W g5 g5 [x1] ([] ++ [σ.1]) [v1] ([] ++ [σ.2.1]) (.slice AX [x1].length cX) (σ.2.2.2.2) S')) ((zeroTm, undef, fun _ => False, 0, undef)) ?_ ?_ ?_
   ·intro w0 hb0 hs0
    exact ⟨fun _ => ⟨Fz.of hb0, fun _ => sw.step hb0, fun h => (by cases h), fun h => (by cases h)⟩, fun h => (by cases h)⟩
   ·intro k o ho
    match k, ho with
    | 0, ho =>
     injection ho with ho
     subst ho
     intro σ S w hS hpre hdc hX
     refine Seq.val (Runs.fieldB 3 rfl rfl Tryz.underlying25 rfl (by kernel_rfl)) rfl rfl rfl (Seq.nil ?_)
     exact Post.afterG rfl rfl rfl hpre rfl (fun _ _ => rfl) hX
    | 1, ho =>
     injection ho with ho
     subst ho
     intro σ S w hS hpre hdc hX
     have h5 := notDone hdc (i := 5) rfl hS (memB_spec rfl)
     refine Seq.val (Runs.loadB (g := g5) (i := 3) rfl rfl Tryz.underlying23 rfl (k5.fz (hX.1 h5).fz (by omega)) rfl) rfl rfl rfl (Seq.nil ?_)
     exact Post.afterG rfl rfl rfl hpre rfl (fun _ _ => rfl) hX
    | 2, ho =>
     injection ho with ho
     subst ho
     intro σ S w hS hpre hdc hX
     refine Seq.val (Runs.move rfl rfl) rfl rfl rfl (Seq.nil ?_)
     exact Post.afterG rfl rfl rfl hpre rfl (fun _ _ => rfl) hX
    | 3, ho =>
     injection ho with ho
     subst ho
     intro σ S w hS hpre hdc hX
     have h5 := notDone hdc (i := 5) rfl hS (memB_spec rfl)
     have h4 := notDone hdc (i := 4) rfl hS (memB_spec rfl)
     have hXa := hX.1 h5
     refine Zc (Ze Tryz.func27) ((fun W h1 h2 => hcl W h1 h2) w (hXa.pre hS) hXa.fz) ?_
     rintro e w6 ⟨hf, v6, x6, p6, o6, dp6, bd6, rfl, ⟨S6, hr6, hb6⟩, hsw6, hpf6⟩
     refine ⟨_, rfl, Seq.nil ?_⟩
     exact Post.afterG (σ := σ) (σ' := (x6, v6, S6, σ.2.2.2.1, σ.2.2.2.2)) rfl rfl rfl hpre rfl (fun j hj => keep3 hS h4 h5 j hj) ⟨fun _ => hXa.called h4 hf hsw6 hpf6 hr6 hb6, fun hm => (notT h5 hm).elim⟩
    | 4, ho =>
     injection ho with ho
     subst ho
     intro σ S w hS hpre hdc hX
     have h5 := notDone hdc (i := 5) rfl hS (memB_spec rfl)
     have hXa := hX.1 h5
     have hd := hpre 3 (memB_spec rfl)
     have hones := (hXa.post hd).2.1.ones
     refine Seq.slice (vs := [σ.2.1]) (s := 4) rfl rfl rfl Tryz.underlying23 (by kernel_rfl) zero_api_Term (by omega) (by omega) ⟨hones.1, trivial⟩ rfl rfl rfl ?_
     intro g7 w' n7
     refine Seq.nil ?_
     exact Post.afterG (σ := σ) (σ' := (σ.1, σ.2.1, σ.2.2.1, g7, σ.2.2.2.2)) rfl rfl rfl hpre rfl (fun j hj => keep4 hS h5 j hj) ⟨fun _ => hXa.slicedT hd n7, fun hm => (notT h5 hm).elim⟩
    | 5, ho =>
     injection ho with ho
     subst ho
     intro σ S w hS hpre hdc hX
     have hXa := hX.1 hS
     have hd := hpre 3 (memB_spec rfl)
     obtain ⟨⟨p3, o3, dp3, bd3, sw3, hpf3⟩, hrep, haway⟩ := hXa.post hd
     obtain ⟨ez, kz, hnz⟩ := hXa.new (hpre 4 (memB_spec rfl))
     have hones := hrep.ones
     have hsz := hXa.fz.size
     have aq3 := aq.fz hXa.fz hgt
     have hown := aq3.ownT
     have k90 := k5.fz hXa.fz (by omega)
     have hlt90 := k5.lt
     refine Seq.append2 rfl rfl rfl Tryz.underlying23 (by kernel_rfl) zero_api_Term rfl (by decide) (b := 72) (by kernel_rfl) hown (Reads.blk (size := 4) kz 1 hones.1) hones.2 (by omega) (by first | (simp only [maxLen]; omega) | (simp only [maxLen, List.length_nil, List.length_cons]; omega) | simp [maxLen]) (by first | omega | (simp only [List.length_nil, List.length_cons]; omega) | simp) rfl rfl rfl ?_
     intro v' w4 hown' happ hv'
     refine Seq.nil ?_
     have hs4 := happ.below.size
     have aq6 := aq3.addT hrep (fun b hb => ⟨by have := (haway b hb).1; omega, (haway b hb).2, by have := (haway b hb).1; omega, fun e => by have := (aq.ownE.blockLt b e).2; have := (haway b hb).1; omega, fun e => by have := (aq.ownT.blockLt b e).2; have := (haway b hb).1; omega⟩) hown' hs4
      (fun b _ h2 h3 h4 => happ.grown.block b h2 (fun e => h4 e.symm)) (hv'.elim .inl fun e => .inr ⟨_, e, Nat.le_refl _⟩) (by omega)
     exact Post.afterG (σ := σ) (σ' := (σ.1, σ.2.1, σ.2.2.1, σ.2.2.2.1, v')) rfl rfl rfl hpre rfl (fun j hj => keep5 hS j hj) ⟨(fun h => by cases h), fun _ => ⟨⟨p3, o3, dp3, bd3, ⟨sw3.blk.grown happ.grown (fun e => by have := (hown.blockLt _ e.symm).1; omega), sw3.rd.below (happ.below.mono (by omega)), sw3.p_le, sw3.o_le, sw3.le⟩, hpf3⟩, (hXa.fz.less (by omega)).trans (Fz.of happ.below), k90.grown happ.grown (fun e => aq3.neT e.symm), _, aq6⟩⟩
    | k + 6, ho => simp at ho
   rintro ⟨x2, v2, S2, g2x, vX⟩ S3 wr2 hS hX
   obtain ⟨⟨q2, o2, dp2, bd2, sw2, hpf⟩, fz3, k53, S7, aq3⟩ := hX.2 (hS 5 (by decide))
   clear hX
   dsimp only at hpf aq3
   have stt2 := sttq.part hMT hpf
   have hs2 := fz3.size
   have bel3 : Fz w.heap.size K.g w wr2 := bel.trans (fz3.less (by omega))
   have k23 := k2.fzl fz3 h25 (by omega)
   obtain ⟨AX2, cX2, hvX, -⟩ := aq3.ownT.reads
   subst hvX
   clear bel k2 k5 aq sw sttq
   have bel := bel3
   have k2 := k23
   have k5 := k53
   have aq := aq3
   have sw := sw2
   have e5 : w.heap.size ≤ g5 := hg5
   refine Zf 3 Tryz.underlying25 ?_
   refine Zq k5 ?_
   intro w7 pw7
   replace bel := bel.put k5 pw7 e5
   replace k2 := k2.put pw7 (by omega)
   replace aq := aq.put k5 pw7 e5
   replace sw := sw.put k5 pw7 e5
   replace k5 := pw7.blk
   refine Zk11 0 2 3 4 5 6 24 38 70 96 107 (Post.block_normal ?_)
   exact Post.join (q2, o2, dp2, bd2, [], [x1], [x2], [v1], [v2], (AX, cX), (AX2, cX2), _) ⟨rfl, rfl, rfl, trivial⟩ ⟨sw, bel, k2, k5, aq, ⟨by simp, by simp⟩, ⟨by simp, by simp⟩, stt2⟩
 clear sw stt aq bel k2 k5
 rintro ⟨q1, o1, dp1, bd1, nm, es, ts, evs, tvs, ⟨AE, cE⟩, ⟨AT, cT⟩, S⟩ wr ⟨sw, bel, k2, k5, aq, hnm, hle10, stt⟩
 dsimp only at sw k5 aq hnm hle10 stt
 have hob := stt.o_le hd
 have hta := take_any K hK q1 o1 dp1 bd1 [41] _ sw (by decide) (by decide)
 have k2l4 := k2.lt
 have hsb4 := bel.size
 have k5l4 := k5.lt
 have hgt : K.g < g5 := by omega
 refine Zsr ?_
 refine Zm ?_
 refine Zc (Ze Tryz.func67) hta ?_
 rintro e wq ⟨⟨vq, rfl⟩, hfq, swq⟩
 refine ⟨_, rfl, ?_⟩
 have belq := bel.call hfq
 have k2q := k2.fz hfq (by omega)
 have k5q := k5.fz hfq (by omega)
 have aqq := aq.fz hfq hgt
 have hsq := hfq.size
 clear bel k2 k5 hta aq sw
 have bel := belq
 have k2 := k2q
 have k5 := k5q
 have k99 := swq.blk
 have rdw := swq.rdb
 have loc := Fz.refl wq.heap.size K.g wq
 have e2 : w.heap.size ≤ g2 := hg2
 refine Zk3 0 2 5 (Ztq ?_)
 refine Zm ?_
 refine Zv (Runs.nilCheck rfl rfl) ?_
 refine Zf 2 Tryz.underlying69 ?_
 refine Zv (Runs.loadB rfl rfl Tryz.underlying3 rfl k99 rfl) ?_
 refine Zv (Runs.subI rfl rfl rfl (by omega) (by omega)) ?_
 refine Zv (Runs.nilCheck rfl rfl) ?_
 refine Zf 2 Tryz.underlying69 ?_
 refine Zq k99 ?_
 intro w6 pw6
 replace bel := bel.put k99 pw6 e99
 replace k2 := k2.put pw6 (by omega)
 replace k5 := k5.put pw6 (by omega)
 replace rdw := rdw.put k99 pw6 e99
 replace loc := loc.put k99 pw6 e99
 replace k99 := pw6.blk
 refine Zk3 0 2 5 (Ztq ?_)
 have aq6 := aqq.fz loc hgt
 have k2b := k2
 refine Zv (Runs.loadW rfl rfl Tryz.underlying25 rfl k5 (m := 4) (by kernel_rfl) rfl) ?_
 refine Zo 4 k2 ?_
 intro w7 pw7
 replace bel := bel.put k2 pw7 e2
 replace k5 := k5.put pw7 (by omega)
 replace k99 := k99.put pw7 (by omega)
 replace rdw := rdw.put k2 pw7 e2
 replace k2 := pw7.blk
 refine Zk3 0 2 5 (Zt (Cd.ret ?_))
 refine Post.endC rfl rfl k2 Tryz.underlying25 rfl (m := 4) (by kernel_rfl) rfl (.inl rfl) ?_
 have hrep := aq6.tm op nm hop64 hnm.1 (by have := hnm.2; omega) (by omega) (by omega)
 have hbn := aq6.bounds
 have hsz := pw7.size
 refine ⟨bel, _, _, _, _, _, _, rfl, ⟨_, hrep.mono (fun _ h => h) (fun a ha => World.cell?_of_block (pw7.grown.block _ (hbn _ ha).2.1 (fun e => by injection e with e; have := (hbn _ ha).1; omega))), fun b hb => by have := hbn b hb; omega⟩, rdw.sw k99 swq.p_le (by omega), fun _ => stt.sign.close, fun h => by cases h⟩
theorem fullT_mono (ws : List Wd) : Mono (fullT ws) := fuelT_mono ws _
theorem termB_any (K : Ctx) (hK : K.Ok) (hW : WsB K.ws) (q d : Nat) (o : Int) (dp : Bool) (W : World) (sw : SW K W q o dp true) :
  Calls Tryz.prog 27 #[.pointer (some ⟨K.g, 0, none⟩)] W (CR K W.heap.size W (bothQ (fullT K.ws q d) d q o dp true) (okT W)) := by
 rw [fullT_eq]
 exact termC_any K hK hW q d o dp true (fullT K.ws) (fullT_mono _) W sw (fun h => by cases h) (fun h => by cases h)
theorem clmT_all (K : Ctx) (hK : K.Ok) (hW : WsB K.ws) : ∀ n q (d : Nat) W, K.ws.length - q < n → d ≤ 64 → SW K W q d false false →
  Calls Tryz.prog 27 #[.pointer (some ⟨K.g, 0, none⟩)] W (CR K W.heap.size W (bothQ (fullT K.ws q d) d q d false false) (okT W))
 | 0, q, d, W, h, _, _ => by omega
 | n + 1, q, d, W, h, hd, sw => by
  rw [fullT_eq]
  refine termC_any K hK hW q d d false false (fullT K.ws) (fullT_mono _) W sw (fun _ => ⟨rfl, rfl, hd⟩) fun _ q' d' o' dp' bd' W' h1 h2 h3 => ?_
  cases bd' with
  | true => exact termB_any K hK hW q' d' o' dp' W' h3
  | false =>
   obtain ⟨rfl, rfl, h4⟩ := h2 rfl
   have hq : q < q' := by rcases h1 with h1 | h1 <;> first | exact h1 | cases h1
   have := h3.p_le
   exact clmT_all K hK hW n q' d' W' (by omega) h4 h3
end Go.Proofs.YtaamkfajnpobfaaGreat

namespace Go.Proofs.YtaamkfajnpobfaaGreat

theorem nodesL_append : ∀ (l r : List Ex), nodesL (l ++ r) = nodesL l + nodesL r
 | [], r => by rw [List.nil_append, nodesL]; omega
 | x :: l, r => by rw [List.cons_append, nodesL, nodesL, nodesL_append l r]; omega
def NdE (f : Nat → Nat → Rs Ex) : Prop := ∀ p d x q, f p d = .ok x q → x.nodes + p ≤ q
theorem parts_nd {α : Type} (ws : List Wd) (m : α → Nat) : ∀ (ones : List (Nat → Nat → Rs α)), (∀ f ∈ ones, ∀ p d x q, f p d = .ok x q → m x + p ≤ q) → ∀ first p d xs q, partsP ws ones first p d = .ok xs q → (xs.map m).sum + p ≤ q
 | [], _, first, p, d, xs, q, h => by
  injection h with h h2
  subst h
  simp
  omega
 | f :: r, hm, first, p, d, xs, q, h => by
  rw [partsP] at h
  obtain ⟨u, p1, h1, h⟩ := Rs.bind_eq_ok h
  obtain ⟨x, p2, h2, h⟩ := Rs.bind_eq_ok h
  obtain ⟨ys, p3, h3, h⟩ := Rs.bind_eq_ok h
  injection h with h h4
  subst h
  have e1 : p ≤ p1 := by
   split at h1
   ·injection h1 with _ h1; omega
   ·have := (signQ_ok h1).1; omega
  have e2 := hm f (by simp) _ _ _ _ h2
  have e3 := parts_nd ws m r (fun g hg => hm g (by simp [hg])) _ _ _ _ _ h3
  simp only [List.map_cons, List.sum_cons]
  omega
theorem within_nd {α : Type} {ws : List Wd} {m : α → Nat} {ones : List (Nat → Nat → Rs α)} (hm : ∀ f ∈ ones, ∀ p d x q, f p d = .ok x q → m x + p ≤ q) {p d q : Nat} {xs : List α} (h : withinP ws ones p d = .ok xs q) : (xs.map m).sum + p + 2 ≤ q := by
 unfold withinP at h
 obtain ⟨u, p1, h1, h⟩ := Rs.bind_eq_ok h
 obtain ⟨u2, p2, h2, h⟩ := Rs.bind_eq_ok h
 obtain ⟨ys, p3, h3, h⟩ := Rs.bind_eq_ok h
 obtain ⟨u3, p4, h4, h⟩ := Rs.bind_eq_ok h
 injection h with h h5
 subst h
 have := parts_nd ws m ones hm _ _ _ _ _ h3
 have := (signQ_ok h1).1
 have := (enterP_ok h2).1
 have := (signQ_ok h4).1
 omega
theorem nodesL_sum : ∀ l : List Ex, nodesL l = (l.map Ex.nodes).sum
 | [] => by rw [nodesL]; rfl
 | x :: l => by rw [nodesL, nodesL_sum l]; rfl
theorem called_nd {ws : List Wd} {E0 : Nat → Nat → Rs Ex} (hE : NdE E0) {op : Int} {k p d q : Nat} {x : Ex} (h : calledP ws E0 op k p d = .ok x q) : x.nodes + p ≤ q := by
 unfold calledP at h
 obtain ⟨xs, p1, h1, h⟩ := Rs.bind_eq_ok h
 injection h with h h2
 subst h
 have := within_nd (m := Ex.nodes) (fun f hf => (List.mem_replicate.1 hf).2 ▸ hE) h1
 rw [Ex.nodes_mk, nodesL_sum]
 omega
theorem atom_nd {ws : List Wd} {E0 : Nat → Nat → Rs Ex} (hE : NdE E0) : NdE (atomP ws E0) := by
 intro p d x q h
 unfold atomP at h
 have leaf : ∀ {op n : Int} {nm : List Nat}, (Ex.mk op n nm []).nodes = 1 := fun {op n nm} => by rw [Ex.nodes_mk, nodesL]
 split at h
 ·injection h with h h2
  subst h
  rw [leaf]; omega
 split at h
 ·injection h with h h2
  subst h
  rw [leaf]; omega
 split at h
 ·split at h
  ·injection h with h h2
   subst h
   rw [leaf]; omega
  split at h
  ·exact called_nd hE h
  split at h
  ·exact called_nd hE h
  split at h
  ·exact called_nd hE h
  ·obtain ⟨nm, p1, h1, h⟩ := Rs.bind_eq_ok h
   injection h with h h2
   subst h
   have := (nameP_eq h1).1
   rw [leaf]; omega
 split at h
 ·obtain ⟨xs, p1, h1, h⟩ := Rs.bind_eq_ok h
  injection h with h h2
  have hl := withinP_len h1
  have ha := within_nd (m := Ex.nodes) (fun f hf => (List.mem_singleton.1 hf) ▸ hE) h1
  match xs, hl with
  | [y], _ =>
   subst h
   simp at ha
   show y.nodes + p ≤ q
   omega
 ·cases h
theorem ahead_nd {S : Nat → Nat → Rs Ex} (hS : NdE S) {op : Int} : NdE (aheadP S op) := by
 intro p d x q h
 unfold aheadP at h
 obtain ⟨u, p1, h1, h⟩ := Rs.bind_eq_ok h
 obtain ⟨y, p2, h2, h⟩ := Rs.bind_eq_ok h
 injection h with h h3
 subst h
 have := (enterP_ok h1).1
 have := hS _ _ _ _ h2
 rw [Ex.nodes_mk, nodesL, nodesL]
 omega
theorem unary_nd {ws : List Wd} {S E0 : Nat → Nat → Rs Ex} (hS : NdE S) (hE : NdE E0) : NdE (unaryP ws S E0) := by
 intro p d x q h
 unfold unaryP at h
 split at h
 ·exact ahead_nd hS _ _ _ _ h
 split at h
 ·exact ahead_nd hS _ _ _ _ h
 ·exact atom_nd hE _ _ _ _ h
structure NdF (f : PF) : Prop where
 E : ∀ lvl, NdE (f.E lvl)
 L : ∀ lvl x p d y q, f.L lvl x p d = .ok y q → y.nodes + p ≤ q + x.nodes
 S : NdE f.S
theorem loop_nd {ws : List Wd} {f : PF} (hf : NdF f) {lvl p d q : Nat} {x y : Ex} (h : loopP ws f lvl x p d = .ok y q) : y.nodes + p ≤ q + x.nodes := by
 unfold loopP at h
 cases ho : opAt ws lvl p with
 | none =>
  rw [ho] at h
  injection h with h h2
  subst h
  omega
 | some op =>
  rw [ho] at h
  obtain ⟨r, p1, h1, h⟩ := Rs.bind_eq_ok h
  have h2 := hf.E _ _ _ _ _ h1
  have hm : (mk2 op x r).nodes = 1 + x.nodes + r.nodes := by unfold mk2; rw [Ex.nodes_mk, nodesL, nodesL, nodesL]; omega
  split at h
  ·injection h with h h3
   subst h
   omega
  ·have := hf.L _ _ _ _ _ _ h
   omega
theorem lev_nd {L : Nat → Ex → Nat → Nat → Rs Ex} {S : Nat → Nat → Rs Ex} (hL : ∀ lvl x p d y q, L lvl x p d = .ok y q → y.nodes + p ≤ q + x.nodes) (hS : NdE S) : ∀ i, NdE (levN L S i)
 | 0 => hS
 | i + 1 => fun p d x q h => by
  rw [levN] at h
  obtain ⟨y, p1, h1, h⟩ := Rs.bind_eq_ok h
  have := hL _ _ _ _ _ _ h
  have := lev_nd hL hS i _ _ _ _ h1
  omega
theorem fuel_nd (ws : List Wd) : ∀ n, NdF (fuelP ws n)
 | 0 => ⟨fun _ _ _ _ _ h => by (cases h), fun _ _ _ _ _ _ h => by (cases h), fun _ _ _ _ h => by (cases h)⟩
 | n + 1 => by
  have ih := fuel_nd ws n
  have hL : ∀ lvl x p d y q, loopP ws (fuelP ws n) lvl x p d = .ok y q → y.nodes + p ≤ q + x.nodes := fun lvl x p d y q h => loop_nd ih h
  have hS := unary_nd (ws := ws) ih.S (ih.E 0)
  exact ⟨fun lvl => lev_nd hL hS _, hL, hS⟩
theorem nodesM_sum : ∀ l : List Tm, nodesM l = (l.map Tm.nodes).sum
 | [] => by rw [nodesM]; rfl
 | x :: l => by rw [nodesM, nodesM_sum l]; rfl
theorem tm_nodes_mk (op : Int) (nm : List Nat) (es : List Ex) (l : List Tm) : (Tm.mk op nm es l).nodes = 1 + (es.map Ex.nodes).sum + (l.map Tm.nodes).sum := by rw [Tm.nodes_mk, nodesL_sum, nodesM_sum]
def NdT (f : Nat → Nat → Rs Tm) : Prop := ∀ p d x q, f p d = .ok x q → x.nodes + p ≤ q
def Part.nodes : Part → Nat
 | .inl e => e.nodes
 | .inr t => t.nodes
theorem parts_sum : ∀ xs : List Part, (xs.map Part.nodes).sum = ((exprsOf xs).map Ex.nodes).sum + ((termsOf2 xs).map Tm.nodes).sum
 | [] => rfl
 | .inl e :: xs => by
  have := parts_sum xs
  show e.nodes + (xs.map Part.nodes).sum = (e.nodes + ((exprsOf xs).map Ex.nodes).sum) + ((termsOf2 xs).map Tm.nodes).sum
  omega
 | .inr t :: xs => by
  have := parts_sum xs
  show t.nodes + (xs.map Part.nodes).sum = ((exprsOf xs).map Ex.nodes).sum + (t.nodes + ((termsOf2 xs).map Tm.nodes).sum)
  omega
theorem term_nd {ws : List Wd} {E0 : Nat → Nat → Rs Ex} {T : Nat → Nat → Rs Tm} (hE : NdE E0) (hT : NdT T) : NdT (termP ws E0 T) := by
 intro p d x q h
 unfold termP at h
 split at h
 ·cases h
 split at h
 ·injection h with h h2
  subst h
  rw [tm_nodes_mk]
  simp
  omega
 split at h
 ·obtain ⟨xs, p1, h1, h⟩ := Rs.bind_eq_ok h
  injection h with h h2
  subst h
  have := within_nd (m := fun _ => 0) (fun f hf => (List.mem_singleton.1 hf) ▸ fun p d x q hx => by have := (nameP_eq hx).1; omega) h1
  rw [tm_nodes_mk]
  simp
  omega
 split at h
 ·cases h
 ·obtain ⟨xs, p1, h1, h⟩ := Rs.bind_eq_ok h
  injection h with h h2
  subst h
  have hq := within_nd (m := Part.nodes) (fun f hf p d x q hx => by
   rcases onesP_mem hf with rfl | rfl
   ·obtain ⟨a, h2, rfl⟩ := Rs.map_ok hx
    exact hE _ _ _ _ h2
   ·obtain ⟨a, h2, rfl⟩ := Rs.map_ok hx
    exact hT _ _ _ _ h2) h1
  rw [parts_sum] at hq
  rw [tm_nodes_mk]
  omega
theorem fuelT_nd (ws : List Wd) : ∀ n, NdT (fuelT ws n)
 | 0 => fun _ _ _ _ h => by (cases h)
 | n + 1 => fun p d x q h => term_nd ((fuel_nd ws (n + 1)).E 0) (fuelT_nd ws n) p d x q h
end Go.Proofs.YtaamkfajnpobfaaGreat

namespace Go.Proofs.YtaamkfajnpobfaaGreat
open Go.RowKit

theorem ends_any (K : Ctx) (hK : K.Ok) (p : Nat) (o : Int) (dp bd : Bool) (w : World) (h : SW K w p o dp bd) : Calls Tryz.prog 28 #[.pointer (some ⟨K.g, 0, none⟩), .int .i64 (K.en : Int)] w fun e w' => e = .returned (.int .i64 (if dp = true then -2 else if p < K.ws.length then ((K.at_ p).pos : Int) else if bd = true then (K.en : Int) else -1)) ∧ Grow w w' := by
 have bel := Below.refl w.heap.size w
 have k99 := h.blk
 have hrd := h.rd
 have hlt := h.blk.lt
 have hBg := hK.le
 have hpl := h.p_le
 refine Zs 35 Tryz.func28 ?_
 refine Zsr ?_
 refine Za ?_
 refine Zk3 0 1 4 (Zts (Zsr ?_))
 refine Zm ?_
 refine Zv (Runs.nilCheck rfl rfl) ?_
 refine Zf 3 Tryz.underlying69 ?_
 refine Zv (Runs.loadB rfl rfl Tryz.underlying4 rfl k99 rfl) ?_
 refine Zk4 0 1 4 8 (Zt ?_)
 refine Cd.cond rfl (fun hc => ?_) (fun hc => ?_)
 ·rw [if_pos hc]
  refine Zsr ?_
  refine Za ?_
  refine Zk4 0 1 4 8 (Zt (Cd.ret (Post.then_ret ?_)))
  refine Post.end1 rfl rfl (.inl rfl) ?_
  exact ⟨rfl, bel⟩
 rw [if_neg (by rw [hc]; simp)]
 refine Cd.skip (Zts (Cd.seq ?_))
 refine Cd.draw 10 (by kernel_rfl) [] (.inl rfl) rfl Grow Grow.refl (fun _ _ _ => Grow.trans) ?_
 intro w1 hw1 zw1
 replace bel := bel.step hw1
 replace k99 := k99.step hw1
 have zbel := bel.size
 have zlt := k99.lt
 refine Zdm ?_
 refine Zd (fun w hG => Runs.nilCheck rfl rfl) ?_
 refine Zd (fun w hG => Runs.fieldB 1 rfl rfl Tryz.underlying69 rfl (by kernel_rfl)) ?_
 refine Zd (fun w hG => Runs.loadB rfl rfl Tryz.underlying3 rfl (k99.step hG) rfl) ?_
 refine Zdm ?_
 refine Zd (fun w hG => Runs.nilCheck rfl rfl) ?_
 refine Zd (fun w hG => Runs.fieldB 0 rfl rfl Tryz.underlying69 rfl (by kernel_rfl)) ?_
 refine Zd (fun w hG => Runs.loadB rfl rfl Tryz.underlying64 rfl (k99.step hG) rfl) ?_
 refine Zd (fun w hG => Runs.len rfl rfl Tryz.underlying64) ?_
 refine Zd (fun w hG => Runs.lss rfl rfl rfl) ?_
 refine Dr.nil ?_
 refine FinX.done (F' := [(0, _), (1, _), (4, _), (8, _), (18, _)]) rfl ⟨rfl, rfl, rfl, rfl, rfl, trivial⟩ ?_
 intro w2 hw2 fw2
 replace bel := bel.step hw2
 replace k99 := k99.step hw2
 refine Zk5 0 1 4 8 18 (Zt ?_)
 refine Cd.condD rfl (fun hc => ?_) (fun hc => ?_)
 ·have hp : p < K.ws.length := by omega
  obtain ⟨ad, hA, hadb, hcell⟩ := hrd.2 (by omega)
  obtain ⟨x, hx⟩ : ∃ x, K.ws[p]? = some x := ⟨_, List.getElem?_eq_getElem (by omega)⟩
  have hat : K.at_ p = x := by unfold Ctx.at_; rw [List.getD_eq_getElem?_getD, hx]; rfl
  have hce : ∀ W, Below w.heap.size w W → ∀ (q : Nat) (u : Value), ([.int .i64 x.kind, .string (strOf x.text), .int .i64 x.n, .int .i64 (x.pos : Int)] : List Value)[q]? = some u → W.cell? ((ad.add (p * 4)).add q) = some u := fun W hb q u hu => by
   rw [(hb.mono (show K.B ≤ w.heap.size by omega)).cell (by rw [block_of_add, block_of_add]; exact hadb), add_of_add]
   exact hcell _ _ (wdCells_row K.ws p x hx q u hu)
  rw [hA] at k99
  rw [if_pos hp, hat]
  refine Cd.seq ?_
  refine Cd.weak (F' := [(0, _), (1, _), (8, _), (18, _)]) ⟨rfl, rfl, rfl, rfl, trivial⟩ ?_
  refine Cd.draw 12 (by kernel_rfl) [] (.inl rfl) rfl Grow Grow.refl (fun _ _ _ => Grow.trans) ?_
  intro w3 hw3 zw3
  replace bel := bel.step hw3
  replace k99 := k99.step hw3
  have zbel := bel.size
  have zlt := k99.lt
  refine Zdm ?_
  refine Zd (fun w hG => Runs.nilCheck rfl rfl) ?_
  refine Zd (fun w hG => Runs.fieldB 0 rfl rfl Tryz.underlying69 rfl (by kernel_rfl)) ?_
  refine Zd (fun w hG => Runs.loadB rfl rfl Tryz.underlying64 rfl (k99.step hG) rfl) ?_
  refine Zdm ?_
  refine Zd (fun w hG => Runs.nilCheck rfl rfl) ?_
  refine Zd (fun w hG => Runs.fieldB 1 rfl rfl Tryz.underlying69 rfl (by kernel_rfl)) ?_
  refine Zd (fun w hG => Runs.loadB rfl rfl Tryz.underlying3 rfl (k99.step hG) rfl) ?_
  refine Zd (fun w hG => Runs.indexN rfl rfl rfl Tryz.underlying64 (s := 4) (by kernel_rfl) (j := p) rfl (by omega)) ?_
  refine Zd (fun w hG => Runs.fieldA 3 rfl rfl Tryz.underlying109 rfl (by kernel_rfl)) ?_
  refine Zd (fun w hG => Runs.load1 rfl rfl Tryz.underlying3 rfl (hce _ (bel.step hG) 3 _ rfl)) ?_
  refine Zd (fun w hG => Runs.assign rfl rfl) ?_
  refine Dr.nil ?_
  refine FinX.done (F' := [(0, _), (1, _), (4, _), (8, _), (18, _)]) rfl ⟨rfl, rfl, rfl, rfl, rfl, trivial⟩ ?_
  intro w4 hw4 fw4
  replace bel := bel.step hw4
  replace k99 := k99.step hw4
  refine Zk5 0 1 4 8 18 (Zt (Cd.ret (Post.then_ret ?_)))
  refine Post.end1 rfl rfl (.inl rfl) ?_
  exact ⟨rfl, bel⟩
 rw [if_neg (by omega)]
 refine Cd.skip (Zts (Zsr ?_))
 refine Zm ?_
 refine Zv (Runs.nilCheck rfl rfl) ?_
 refine Zf 4 Tryz.underlying69 ?_
 refine Zv (Runs.loadB rfl rfl Tryz.underlying4 rfl k99 rfl) ?_
 refine Zk6 0 1 4 8 18 33 (Zt ?_)
 refine Cd.cond rfl (fun hb => ?_) (fun hb => ?_)
 ·rw [if_pos hb]
  refine Zsr ?_
  refine Zm ?_
  refine Za ?_
  refine Zk6 0 1 4 8 18 33 (Zt (Cd.ret (Post.then_ret ?_)))
  refine Post.end1 rfl rfl (.inl rfl) ?_
  exact ⟨rfl, bel⟩
 ·rw [if_neg (by rw [hb]; simp)]
  refine Cd.skip (Ztq ?_)
  refine Za ?_
  refine Zk6 0 1 4 8 18 33 (Zt (Cd.ret ?_))
  refine Post.end1 rfl rfl (.inl rfl) ?_
  exact ⟨rfl, bel⟩
theorem depthL_append : ∀ (l r : List Ex), depthL (l ++ r) = max (depthL l) (depthL r)
 | [], r => by rw [List.nil_append, depthL]; omega
 | x :: l, r => by rw [List.cons_append, depthL, depthL, depthL_append l r]; omega
theorem nodesM_append : ∀ (l r : List Tm), nodesM (l ++ r) = nodesM l + nodesM r
 | [], r => by rw [List.nil_append, nodesM]; omega
 | x :: l, r => by rw [List.cons_append, nodesM, nodesM, nodesM_append l r]; omega
theorem depthM_append : ∀ (l r : List Tm), depthM (l ++ r) = max (depthM l) (depthM r)
 | [], r => by rw [List.nil_append, depthM]; omega
 | x :: l, r => by rw [List.cons_append, depthM, depthM, depthM_append l r]; omega
theorem sizeR_any (n : Nat) (e : Ex) (B : Nat) (v : Value) (w : World) (hn : e.nodes ≤ n) (h9 : e.nodes ≤ 100000) (hrep : Rep w B e v) (hB : B ≤ w.heap.size) : Calls Tryz.prog 34 #[v] w fun en w' => en = .returned (.tuple #[.int .i64 (e.nodes : Int), .int .i64 (e.depth : Int)]) ∧ Grow w w' := by
 induction n generalizing e B v w with
 | zero => exact absurd e.nodes_pos (by omega)
 | succ n ih =>
  obtain ⟨A, c, rfl, hv⟩ := hrep.open
  have bel := Below.refl w.heap.size w
  have hne : e.nodes = 1 + nodesL e.args := by rw [e.eta, Ex.nodes_mk]; rfl
  have hde : e.depth = 1 + depthL e.args := by rw [e.eta, Ex.depth_mk]; rfl
  refine Zs 34 Tryz.func34 ?_
  refine Zsr ?_
  refine Seq.box rfl rfl rfl rfl rfl ?_
  intro g1 w1 n1
  have e1 := Nat.le_trans bel.size n1.ge
  replace bel := bel.step n1.below
  have k1 := n1.blk
  refine Za ?_
  refine Za ?_
  refine Zk4 0 1 2 3 (Ztq ?_)
  refine Za ?_
  refine Za ?_
  refine Zk6 0 1 2 3 4 5 (Zts (Zsr ?_))
  refine Za ?_
  refine Zk7 0 1 2 3 4 5 6 (Zt (Cd.block ?_))
  refine Cd.loop (σ := Nat) (fun i => [(1, .pointer (some ⟨g1, 0, none⟩)), (4, .int .i64 ((1 + nodesL (e.args.take i) : Nat) : Int)), (5, .int .i64 ((1 + depthL (e.args.take i) : Nat) : Int)), (6, .int .i64 (i : Int))])
   (fun i wr => i ≤ e.args.length ∧ Below w.heap.size w wr ∧ Blk wr g1 35 #[.int .i64 e.op, .int .i64 e.n, .string (strOf e.name), .slice A e.args.length c]) (fun i => e.args.length - i) 0 ⟨Nat.zero_le _, bel, k1⟩ ⟨rfl, rfl, rfl, rfl, trivial⟩ ?_
  clear bel k1
  rintro i wr ⟨hi, bel, k1⟩
  have h60 := hv.h60
  refine Cd.seq (Zsr ?_)
  refine Zm ?_
  refine Zf 3 Tryz.underlying35 ?_
  refine Zv (Runs.loadB rfl rfl Tryz.underlying22 rfl k1 rfl) ?_
  refine Zv (Runs.len rfl rfl Tryz.underlying22) ?_
  refine Zv (Runs.lss rfl rfl rfl) ?_
  refine Zk5 1 4 5 6 13 (Zt ?_)
  refine Cd.condD rfl (fun hc => ?_) (fun hc => ?_)
  ·obtain ⟨x, hx⟩ : ∃ x, e.args[i]? = some x := ⟨_, List.getElem?_eq_getElem (show i < e.args.length by omega)⟩
   obtain ⟨ad, Ax, cx, rfl, hbl, hrx, hc⟩ := hv.arg i x hx
   have hxm := List.mem_of_getElem? hx
   have hxn := Ex.arg_nodes hxm
   have hc := fun W (hb : Below w.heap.size w W) j u hj => ((hb.mono hB).cell (p := (ad.add (i * 4)).add j) (by rw [block_of_add, block_of_add]; exact hbl)).trans (hc j u hj)
   have hrec := fun W (hb : Below w.heap.size w W) => ih x B _ W (by omega) (by omega) (hrx.below (hb.mono hB)) (Nat.le_trans hB hb.size)
   have htk : e.args.take (i + 1) = e.args.take i ++ [x] := by rw [List.take_add_one, hx]; rfl
   have hnt : nodesL (e.args.take (i + 1)) = nodesL (e.args.take i) + x.nodes := by rw [htk, nodesL_append]; show _ + (x.nodes + nodesL []) = _; rw [nodesL]; omega
   have hdt : depthL (e.args.take (i + 1)) = max (depthL (e.args.take i)) x.depth := by rw [htk, depthL_append]; show max _ (max x.depth (depthL [])) = _; rw [depthL]; omega
   have hle : nodesL (e.args.take (i + 1)) ≤ nodesL e.args := by
    have := nodesL_append (e.args.take (i + 1)) (e.args.drop (i + 1))
    rw [List.take_append_drop] at this
    omega
   have hdn := depthL_nodesL (e.args.take i)
   have hdx := x.depth_nodes
   generalize nodesL (e.args.take i) = N0 at *
   generalize depthL (e.args.take i) = D0 at *
   refine Cd.skip (Zts (Cd.block (Zsr ?_)))
   refine Zf 3 Tryz.underlying35 ?_
   refine Zv (Runs.loadB rfl rfl Tryz.underlying22 rfl k1 rfl) ?_
   refine Zm ?_
   refine Zv (Runs.indexN rfl rfl rfl Tryz.underlying22 (s := 4) (by kernel_rfl) (j := i) rfl (by omega)) ?_
   refine Zv (Runs.loadF (ps := [.int .i64 x.op, .int .i64 x.n, .string (strOf x.name), .slice Ax x.args.length cx]) rfl rfl Tryz.underlying35 rfl (m := 4) (by kernel_rfl) rfl (hc _ bel)) ?_
   refine Zc (Ze Tryz.func34) (hrec _ bel) ?_
   rintro en w6 ⟨rfl, hb6⟩
   refine ⟨_, rfl, ?_⟩
   replace bel := bel.step hb6
   replace k1 := k1.step hb6
   refine Zm ?_
   refine Zv (Runs.extract rfl rfl rfl) ?_
   refine Zv (Runs.extract rfl rfl rfl) ?_
   refine Za ?_
   refine Za ?_
   refine Zk7 1 4 5 6 7 8 13 (Ztq ?_)
   refine Zm ?_
   refine Zm ?_
   refine Za_ ?_
   refine Za ?_
   refine Zk7 1 4 5 6 7 8 13 (Ztr ?_)
   refine Zm ?_
   refine Zm ?_
   refine Za_ ?_
   refine Zv (Runs.max2 rfl rfl rfl) ?_
   refine Za ?_
   refine Zk7 1 4 5 6 7 8 13 (Post.block_normal (Ztr ?_))
   refine Zm ?_
   refine Za_ ?_
   refine Za ?_
   refine Zk7 1 4 5 6 7 8 13 ?_
   refine Post.round (i + 1) ⟨rfl, ?_, ?_, rfl, trivial⟩ ⟨by omega, bel, k1⟩ (by omega)
   ·exact congrArg (fun x : Int => some (Value.int .i64 x)) (by rw [hnt]; omega)
   ·exact congrArg (fun x : Int => some (Value.int .i64 x)) (by rw [hdt]; omega)
  ·obtain rfl : i = e.args.length := by omega
   refine Cd.exit (Post.then_exit (Post.round_exit (Post.block_exit (Ztq ?_))))
   refine Zm ?_
   refine Zm ?_
   refine Za ?_
   refine Za ?_
   refine Zk7 1 2 3 4 5 6 13 (Zt (Cd.ret ?_))
   refine Post.end2 rfl rfl rfl (.inl rfl) ?_
   rw [List.take_length, hne, hde]
   exact ⟨rfl, bel⟩
theorem sizeT_any (n : Nat) (t : Tm) (B : Nat) (v : Value) (w : World) (hn : t.nodes ≤ n) (h9 : t.nodes ≤ 100000) (hrep : RepB w B t v) (hB : B ≤ w.heap.size) : Calls Tryz.prog 29 #[v] w fun en w' => en = .returned (.tuple #[.int .i64 (t.nodes : Int), .int .i64 (t.depth : Int)]) ∧ Grow w w' := by
 induction n generalizing t B v w with
 | zero => exact absurd t.nodes_pos (by omega)
 | succ n ih =>
  obtain ⟨A, c, D, d, rfl, hv⟩ := hrep.open
  have bel := Below.refl w.heap.size w
  have hne := t.nodes_eq
  have hde := t.depth_eq
  refine Zs 60 Tryz.func29 ?_
  refine Zsr ?_
  refine Seq.box rfl rfl rfl rfl rfl ?_
  intro g1 w1 n1
  have e1 := Nat.le_trans bel.size n1.ge
  replace bel := bel.step n1.below
  have k1 := n1.blk
  refine Za ?_
  refine Za ?_
  refine Zk4 0 1 2 3 (Ztq ?_)
  refine Za ?_
  refine Za ?_
  refine Zk6 0 1 2 3 4 5 (Zts (Zsr ?_))
  refine Za ?_
  refine Zk7 0 1 2 3 4 5 6 (Zt (Cd.block ?_))
  refine Cd.loop (σ := Nat) (fun i => [(1, .pointer (some ⟨g1, 0, none⟩)), (4, .int .i64 ((1 + nodesL (t.exprs.take i) : Nat) : Int)), (5, .int .i64 ((1 + depthL (t.exprs.take i) : Nat) : Int)), (6, .int .i64 (i : Int))])
   (fun i wr => i ≤ t.exprs.length ∧ Below w.heap.size w wr ∧ Blk wr g1 25 #[.int .i64 t.op, .string (strOf t.name), .slice A t.exprs.length c, .slice D t.terms.length d]) (fun i => t.exprs.length - i) 0 ⟨Nat.zero_le _, bel, k1⟩ ⟨rfl, rfl, rfl, rfl, trivial⟩ ?_
  clear bel k1
  rintro i wr ⟨hi, bel, k1⟩
  have h60 := hv.h60
  have h61 := hv.h60'
  refine Cd.seq (Zsr ?_)
  refine Zm ?_
  refine Zf 2 Tryz.underlying25 ?_
  refine Zv (Runs.loadB rfl rfl Tryz.underlying22 rfl k1 rfl) ?_
  refine Zv (Runs.len rfl rfl Tryz.underlying22) ?_
  refine Zv (Runs.lss rfl rfl rfl) ?_
  refine Zk5 1 4 5 6 16 (Zt ?_)
  refine Cd.condD rfl (fun hc => ?_) (fun hc => ?_)
  ·obtain ⟨x, hx⟩ : ∃ x, t.exprs[i]? = some x := ⟨_, List.getElem?_eq_getElem (show i < t.exprs.length by omega)⟩
   obtain ⟨ad, Ax, cx, rfl, hbl, hrx, hc⟩ := hv.expr i x hx
   have hxm := List.mem_of_getElem? hx
   have hxn := nodesL_mem hxm
   have hc := fun W (hb : Below w.heap.size w W) j u hj => ((hb.mono hB).cell (p := (ad.add (i * 4)).add j) (by rw [block_of_add, block_of_add]; exact hbl)).trans (hc j u hj)
   have hrec := fun W (hb : Below w.heap.size w W) => sizeR_any x.nodes x B _ W (Nat.le_refl _) (by omega) (hrx.below (hb.mono hB)) (Nat.le_trans hB hb.size)
   have htk : t.exprs.take (i + 1) = t.exprs.take i ++ [x] := by rw [List.take_add_one, hx]; rfl
   have hnt : nodesL (t.exprs.take (i + 1)) = nodesL (t.exprs.take i) + x.nodes := by rw [htk, nodesL_append]; show _ + (x.nodes + nodesL []) = _; rw [nodesL]; omega
   have hdt : depthL (t.exprs.take (i + 1)) = max (depthL (t.exprs.take i)) x.depth := by rw [htk, depthL_append]; show max _ (max x.depth (depthL [])) = _; rw [depthL]; omega
   have hle : nodesL (t.exprs.take (i + 1)) ≤ nodesL t.exprs := by
    have := nodesL_append (t.exprs.take (i + 1)) (t.exprs.drop (i + 1))
    rw [List.take_append_drop] at this
    omega
   have hdn := depthL_nodesL (t.exprs.take i)
   have hdx := x.depth_nodes
   generalize nodesL (t.exprs.take i) = N0 at *
   generalize depthL (t.exprs.take i) = D0 at *
   refine Cd.skip (Zts (Cd.block (Zsr ?_)))
   refine Zf 2 Tryz.underlying25 ?_
   refine Zv (Runs.loadB rfl rfl Tryz.underlying22 rfl k1 rfl) ?_
   refine Zm ?_
   refine Zv (Runs.indexN rfl rfl rfl Tryz.underlying22 (s := 4) (by kernel_rfl) (j := i) rfl (by omega)) ?_
   refine Zv (Runs.loadF (ps := [.int .i64 x.op, .int .i64 x.n, .string (strOf x.name), .slice Ax x.args.length cx]) rfl rfl Tryz.underlying35 rfl (m := 4) (by kernel_rfl) rfl (hc _ bel)) ?_
   refine Zc (Ze Tryz.func34) (hrec _ bel) ?_
   rintro en w6 ⟨rfl, hb6⟩
   refine ⟨_, rfl, ?_⟩
   replace bel := bel.step hb6
   replace k1 := k1.step hb6
   refine Zm ?_
   refine Zv (Runs.extract rfl rfl rfl) ?_
   refine Zv (Runs.extract rfl rfl rfl) ?_
   refine Za ?_
   refine Za ?_
   refine Zk7 1 4 5 6 7 8 16 (Ztq ?_)
   refine Zm ?_
   refine Zm ?_
   refine Za_ ?_
   refine Za ?_
   refine Zk7 1 4 5 6 7 8 16 (Ztr ?_)
   refine Zm ?_
   refine Zm ?_
   refine Za_ ?_
   refine Zv (Runs.max2 rfl rfl rfl) ?_
   refine Za ?_
   refine Zk7 1 4 5 6 7 8 16 (Post.block_normal (Ztr ?_))
   refine Zm ?_
   refine Za_ ?_
   refine Za ?_
   refine Zk7 1 4 5 6 7 8 16 ?_
   refine Post.round (i + 1) ⟨rfl, ?_, ?_, rfl, trivial⟩ ⟨by omega, bel, k1⟩ (by omega)
   ·exact congrArg (fun x : Int => some (Value.int .i64 x)) (by rw [hnt]; omega)
   ·exact congrArg (fun x : Int => some (Value.int .i64 x)) (by rw [hdt]; omega)
  obtain rfl : i = t.exprs.length := by omega
  rw [List.take_length]
  have hdn0 := depthL_nodesL t.exprs
  refine Cd.exit (Post.then_exit (Post.round_exit (Post.block_exit (Zts (Zsr ?_)))))
  refine Za ?_
  refine Zk6 1 4 5 6 9 16 (Zt (Cd.block ?_))
  refine Cd.loop (σ := Nat) (fun i => [(1, .pointer (some ⟨g1, 0, none⟩)), (4, .int .i64 ((1 + nodesL t.exprs + nodesM (t.terms.take i) : Nat) : Int)), (5, .int .i64 ((1 + max (depthL t.exprs) (depthM (t.terms.take i)) : Nat) : Int)), (9, .int .i64 (i : Int))])
   (fun i wr => i ≤ t.terms.length ∧ Below w.heap.size w wr ∧ Blk wr g1 25 #[.int .i64 t.op, .string (strOf t.name), .slice A t.exprs.length c, .slice D t.terms.length d]) (fun i => t.terms.length - i) 0 ⟨Nat.zero_le _, bel, k1⟩ ⟨rfl, rfl, ?_, rfl, trivial⟩ ?_
  ·exact congrArg (fun x : Int => some (Value.int .i64 x)) (by rw [List.take_zero, depthM]; omega)
  clear bel k1
  rintro i wr ⟨hi, bel, k1⟩
  refine Cd.seq (Zsr ?_)
  refine Zm ?_
  refine Zf 3 Tryz.underlying25 ?_
  refine Zv (Runs.loadB rfl rfl Tryz.underlying23 rfl k1 rfl) ?_
  refine Zv (Runs.len rfl rfl Tryz.underlying23) ?_
  refine Zv (Runs.lss rfl rfl rfl) ?_
  refine Zk5 1 4 5 9 39 (Zt ?_)
  refine Cd.condD rfl (fun hc => ?_) (fun hc => ?_)
  ·obtain ⟨x, hx⟩ : ∃ x, t.terms[i]? = some x := ⟨_, List.getElem?_eq_getElem (show i < t.terms.length by omega)⟩
   obtain ⟨ad, A1, A2, c1, c2, rfl, hbl, hrx, hc⟩ := hv.term i x hx
   have hxm := List.mem_of_getElem? hx
   have hxn := Tm.term_nodes hxm
   have hc := fun W (hb : Below w.heap.size w W) j u hj => ((hb.mono hB).cell (p := (ad.add (i * 4)).add j) (by rw [block_of_add, block_of_add]; exact hbl)).trans (hc j u hj)
   have hrec := fun W (hb : Below w.heap.size w W) => ih x B _ W (by omega) (by omega) (hrx.below (hb.mono hB)) (Nat.le_trans hB hb.size)
   have htk : t.terms.take (i + 1) = t.terms.take i ++ [x] := by rw [List.take_add_one, hx]; rfl
   have hnt : nodesM (t.terms.take (i + 1)) = nodesM (t.terms.take i) + x.nodes := by rw [htk, nodesM_append]; show _ + (x.nodes + nodesM []) = _; rw [nodesM]; omega
   have hdt : depthM (t.terms.take (i + 1)) = max (depthM (t.terms.take i)) x.depth := by rw [htk, depthM_append]; show max _ (max x.depth (depthM [])) = _; rw [depthM]; omega
   have hle : nodesM (t.terms.take (i + 1)) ≤ nodesM t.terms := by
    have := nodesM_append (t.terms.take (i + 1)) (t.terms.drop (i + 1))
    rw [List.take_append_drop] at this
    omega
   have hdn := depthM_nodesM (t.terms.take i)
   have hdx := x.depth_nodes
   generalize nodesM (t.terms.take i) = N0 at *
   generalize depthM (t.terms.take i) = D0 at *
   refine Cd.skip (Zts (Cd.block (Zsr ?_)))
   refine Zf 3 Tryz.underlying25 ?_
   refine Zv (Runs.loadB rfl rfl Tryz.underlying23 rfl k1 rfl) ?_
   refine Zm ?_
   refine Zv (Runs.indexN rfl rfl rfl Tryz.underlying23 (s := 4) (by kernel_rfl) (j := i) rfl (by omega)) ?_
   refine Zv (Runs.loadF (ps := [.int .i64 x.op, .string (strOf x.name), .slice A1 x.exprs.length c1, .slice A2 x.terms.length c2]) rfl rfl Tryz.underlying25 rfl (m := 4) (by kernel_rfl) rfl (hc _ bel)) ?_
   refine Zc (Ze Tryz.func29) (hrec _ bel) ?_
   rintro en w6 ⟨rfl, hb6⟩
   refine ⟨_, rfl, ?_⟩
   replace bel := bel.step hb6
   replace k1 := k1.step hb6
   refine Zm ?_
   refine Zv (Runs.extract rfl rfl rfl) ?_
   refine Zv (Runs.extract rfl rfl rfl) ?_
   refine Za ?_
   refine Za ?_
   refine Zk7 1 4 5 9 10 11 39 (Ztq ?_)
   refine Zm ?_
   refine Zm ?_
   refine Za_ ?_
   refine Za ?_
   refine Zk7 1 4 5 9 10 11 39 (Ztr ?_)
   refine Zm ?_
   refine Zm ?_
   refine Za_ ?_
   refine Zv (Runs.max2 rfl rfl rfl) ?_
   refine Za ?_
   refine Zk7 1 4 5 9 10 11 39 (Post.block_normal (Ztr ?_))
   refine Zm ?_
   refine Za_ ?_
   refine Za ?_
   refine Zk7 1 4 5 9 10 11 39 ?_
   refine Post.round (i + 1) ⟨rfl, ?_, ?_, rfl, trivial⟩ ⟨by omega, bel, k1⟩ (by omega)
   ·exact congrArg (fun x : Int => some (Value.int .i64 x)) (by rw [hnt]; omega)
   ·exact congrArg (fun x : Int => some (Value.int .i64 x)) (by rw [hdt]; omega)
  ·obtain rfl : i = t.terms.length := by omega
   refine Cd.exit (Post.then_exit (Post.round_exit (Post.block_exit (Ztq ?_))))
   refine Zm ?_
   refine Zm ?_
   refine Za ?_
   refine Za ?_
   refine Zk7 1 2 3 4 5 9 39 (Zt (Cd.ret ?_))
   refine Post.end2 rfl rfl rfl (.inl rfl) ?_
   rw [List.take_length, hne, hde]
   exact ⟨rfl, bel⟩
end Go.Proofs.YtaamkfajnpobfaaGreat

namespace Go.Proofs.YtaamkfajnpobfaaGreat
open Go.RowKit

theorem run_build_state (A : Option Addr) (n c : Nat) (w : World) : (Instr.build 69 #[(0, .slice A n c)]).run Tryz.prog w = .ok (.agg #[.slice A n c, .int .i64 0, .int .i64 0, .bool false, .bool false]) w := by
 have hu := Tryz.underlying69
 go_simp
structure RsT (lo hi : Nat) (S : Nat → Prop) (x : Tm) (v : Value) (W : World) : Prop where
 rep : RepT W S x v
 bd : ∀ b, S b → lo ≤ b ∧ b < hi
 hi_le : hi ≤ W.heap.size
theorem RsT.step {lo hi : Nat} {S : Nat → Prop} {x : Tm} {v : Value} {W W' : World} (r : RsT lo hi S x v W) (h : Below W.heap.size W W') : RsT lo hi S x v W' :=
 ⟨r.rep.mono (fun _ h => h) (fun a ha => h.cell (Nat.lt_of_lt_of_le (r.bd _ ha).2 r.hi_le)), r.bd, Nat.le_trans r.hi_le h.size⟩
theorem RsT.put {lo hi g : Nat} {T : TypeId} {cur cs : Array Value} {S : Nat → Prop} {x : Tm} {v : Value} {W W' : World} (r : RsT lo hi S x v W) (_k : Blk W g T cur) (p : Put W W' g T cs) {E : Prop} (_e : E) (hne : g < lo ∨ hi ≤ g := by omega) : RsT lo hi S x v W' :=
 ⟨r.rep.mono (fun _ h => h) (fun a ha => World.cell?_of_block (p.grown.block _ (Nat.lt_of_lt_of_le (r.bd _ ha).2 r.hi_le) (fun e => by injection e with e; have := r.bd _ ha; omega))), r.bd, Nat.le_trans r.hi_le (Nat.le_of_eq p.size.symm)⟩
theorem endPos_le (l : List Nat) (hl : ∀ x ∈ l, x < 256) (p : Nat) : endPos l p ≤ l.length := by
 unfold endPos
 rw [List.getD_eq_getElem?_getD]
 cases hp : (lexAll l).1[p]? with
 | none => exact Nat.le_refl _
 | some x => exact Nat.le_of_lt (lexW_bd l hl _ _ x (List.mem_of_getElem? hp)).2.2.2
theorem refParse_any (l : List Nat) (w : World) (hl : ∀ x ∈ l, x < 256) (h4 : l.length ≤ 4000) :
  Calls Tryz.prog 10 #[.string (strOf l)] w fun e w' => Below w.heap.size w w' ∧ ∃ (v : Value) (S : Nat → Prop), e = .returned (.tuple #[v, .int .i64 ((parseT l).2.1 : Int), .int .i64 (parseT l).2.2]) ∧ RepT w' S (parseT l).1 v ∧ ∀ b, S b → w.heap.size ≤ b ∧ b < w'.heap.size := by
 have bel := Below.refl w.heap.size w
 have hpn : ∀ (q : Nat) (n : Int), parAt l (termQ (lexAll l).1) = (q, n) → n ≠ 0 → parseT l = (zeroTm, q, n) := fun q n h hn => by
  unfold parseT
  rw [h, if_pos hn]
 have hpo : ∀ x q, parAt l (termQ (lexAll l).1) = (0, 0) → termQ (lexAll l).1 = .ok x q → parseT l = if rightT x = true then (x, 0, 0) else (zeroTm, 0, 13) := fun x q h hx => by
  unfold parseT
  rw [h, if_neg (fun h => h rfl), hx]
 have hrw := fun W => refWords_any l W hl h4
 refine Zs 50 Tryz.func10 ?_
 refine Zsr ?_
 refine Zl zero_api_Term ?_
 intro g2 w1 n2
 have e2 := Nat.le_trans bel.size n2.ge
 replace bel := bel.step n2.below
 have k2 := n2.blk
 refine Za ?_
 refine Za ?_
 refine Zk4 0 2 3 4 (Ztq ?_)
 refine Zm ?_
 refine Zc (Ze Tryz.func26) (hrw _) ?_
 rintro e w5 ⟨hb5, ⟨p, h2, rfl⟩ | ⟨h2, v, rfl, own⟩⟩
 ·have hpa : parAt l (termQ (lexAll l).1) = (p, 11) := by unfold parAt; rw [if_neg (by omega), h2]
  have hps := hpn _ _ hpa (by omega)
  refine ⟨_, rfl, ?_⟩
  replace bel := bel.step hb5
  replace k2 := k2.step hb5
  refine Zm ?_
  refine Zv (Runs.extract rfl rfl rfl) ?_
  refine Zv (Runs.extract rfl rfl rfl) ?_
  refine Za ?_
  refine Za ?_
  refine Zk6 0 2 3 4 5 6 (Zts (Zsr ?_))
  refine Zm ?_
  refine Zv (Runs.geq rfl rfl rfl) ?_
  refine Zk7 0 2 3 4 5 6 18 (Zt ?_)
  refine Cd.condT rfl (by simp) ?_
  refine Zsr ?_
  refine Zv (Runs.build rfl rfl (run_build_T0 _)) ?_
  refine Zm ?_
  refine Zo 4 k2 ?_
  intro w2 pw2
  replace bel := bel.put k2 pw2 e2
  replace k2 := pw2.blk
  refine Za ?_
  refine Za ?_
  refine Zk7 0 2 3 4 5 6 18 (Zt (Cd.ret (Post.then_ret ?_)))
  refine Post.endC3 rfl rfl rfl rfl k2 Tryz.underlying25 rfl (m := 4) (by kernel_rfl) rfl (.inl rfl) ?_
  rw [hps]
  exact ⟨bel, _, fun _ => False, rfl, RepT.zero _ _, fun b hb => hb.elim⟩
 obtain ⟨A, cap, rfl, hrd⟩ := own.reads
 refine ⟨_, rfl, ?_⟩
 replace bel := bel.step hb5
 replace k2 := k2.step hb5
 refine Zm ?_
 refine Zv (Runs.extract rfl rfl rfl) ?_
 refine Zv (Runs.extract rfl rfl rfl) ?_
 refine Za ?_
 refine Za ?_
 refine Zk6 0 2 3 4 5 6 (Zts (Zsr ?_))
 refine Zm ?_
 refine Zv (Runs.geq rfl rfl rfl) ?_
 refine Zk7 0 2 3 4 5 6 18 (Zt ?_)
 refine Cd.condF rfl (by simp) ?_
 refine Cd.skip (Ztq ?_)
 refine Zm ?_
 refine Zv (Runs.build rfl rfl (run_build_state A (lexAll l).1.length cap _)) ?_
 refine Seq.box rfl rfl rfl rfl rfl ?_
 intro g23 w2 n23
 have e23 := Nat.le_trans bel.size n23.ge
 have l23 := Nat.lt_of_lt_of_le k2.lt n23.ge
 replace bel := bel.step n23.below
 replace k2 := k2.step n23.below
 have k23 := n23.blk
 refine Za ?_
 refine Zk8 0 2 3 4 5 6 7 18 (Ztq ?_)
 refine Zm ?_
 have hKok := ctx_ok l hl h4 (B := w5.heap.size) (g := g23) (c := cap) (A := A) n23.ge
 have hWs := lexAll_WsB l hl
 have hg23 := k23.lt
 have hrd23 := hrd.below n23.below
 generalize hK : (Ctx.mk w5.heap.size g23 cap l.length A (lexAll l).1) = K at hKok
 have hKg : K.g = g23 := by rw [← hK]
 have hKw : K.ws = (lexAll l).1 := by rw [← hK]
 have hKe : K.en = l.length := by rw [← hK]
 have sw : SW K w2 0 (0 : Nat) false false := by rw [← hK]; exact ⟨k23, hrd23, Nat.zero_le _, by omega, n23.ge⟩
 rw [← hKw] at hWs
 have hpos : ∀ q, (K.at_ q).pos = endPos l q := fun q => by unfold Ctx.at_ endPos; rw [hKw, hKe]
 have hposl := endPos_le l hl
 subst hKg
 have htm := clmT_all K hKok hWs (K.ws.length - 0 + 1) 0 0 _ (by omega) (by omega) sw
 have hk2 := k2.lt
 have hg2 : g2 < K.g := by omega
 have hsz0 := bel.size
 clear k23
 refine Zc (Ze Tryz.func27) htm ?_
 rintro e w6 ⟨hf6, v6, x, p6, o6, dp6, bd6, rfl, ⟨S6, hr6, hb6⟩, sw6, hres, -⟩
 refine ⟨_, rfl, ?_⟩
 have hres := hres rfl
 have bel6 : Below w.heap.size w w6 := bel.trans (hf6.below (by omega) (by omega))
 have k26 := k2.fz hf6 (by omega)
 clear bel k2 sw htm
 have bel := bel6
 have k2 := k26
 have hs6 := hf6.size
 obtain ⟨A1, c1, A2, c2, hvX⟩ := hr6.form
 subst hvX
 have hfull : fullT K.ws 0 0 = termQ (lexAll l).1 := by rw [hKw]; rfl
 rw [hfull] at hres
 have hq6 := sw6.p_le
 have sw := sw6
 have rs : RsT _ w6.heap.size S6 x (.agg #[.int .i64 x.op, .string (strOf x.name), .slice A1 x.exprs.length c1, .slice A2 x.terms.length c2]) w6 := ⟨hr6, hb6, Nat.le_refl _⟩
 refine Zl zero_api_Term ?_
 intro g8 w3 n8
 have q8 := n8.ge
 have e8 := Nat.le_trans bel.size n8.ge
 have l8 := Nat.lt_of_lt_of_le k2.lt n8.ge
 replace bel := bel.step n8.below
 replace k2 := k2.step n8.below
 replace sw := sw.step n8.below
 replace rs := rs.step n8.below
 have k8 := n8.blk
 refine Zo 4 k8 ?_
 intro w4 pw4
 replace bel := bel.put k8 pw4 e8
 replace k2 := k2.put pw4 (by omega)
 replace sw := sw.put k8 pw4 e8
 replace rs := rs.put k8 pw4 e8
 replace k8 := pw4.blk
 refine Zk9 0 2 3 4 5 6 7 8 18 (Ztq ?_)
 refine Zm ?_
 refine Zm ?_
 refine Zv (Runs.lenL rfl rfl Tryz.underlying9) ?_
 have hen := fun W h => ends_any K hKok p6 o6 dp6 bd6 W h
 simp only [hpos, hKe, hKw] at hen
 refine Zc (Ze Tryz.func28) (hen _ sw) ?_
 rintro e w7 ⟨rfl, hb7⟩
 refine ⟨_, rfl, ?_⟩
 replace bel := bel.step hb7
 replace k2 := k2.step hb7
 replace sw := sw.step hb7
 replace rs := rs.step hb7
 replace k8 := k8.step hb7
 obtain ⟨R, hR⟩ : ∃ R, R = termQ (lexAll l).1 := ⟨_, rfl⟩
 rw [← hR] at hres hpn hpo
 rw [hKw] at hq6
 have hlen : p6 < (lexAll l).1.length → parAt l R = (endPos l p6, 11) ∨ (dp6 = true) := fun hp => by
  unfold resQ at hres
  unfold parAt
  rw [if_neg (by omega), h2]
  cases R with
  | out => exact hres.elim
  | bad a ov =>
   obtain ⟨rfl, rfl, rfl, -⟩ := hres
   cases dp6 with
   | true => exact .inr rfl
   | false => exact .inl rfl
  | ok a b =>
   obtain ⟨rfl, rfl, -, rfl, -⟩ := hres
   exact .inl (if_neg (by omega))
 cases dp6 with
 | true =>
  have hpa : parAt l R = (0, 13) := by
   unfold resQ at hres
   unfold parAt
   rw [if_neg (by omega), h2]
   cases R with
   | out => exact hres.elim
   | ok a b => cases hres.2.2.2.1
   | bad a ov =>
    obtain ⟨rfl, rfl, rfl, -⟩ := hres
    rfl
  have hps := hpn _ _ hpa (by omega)
  refine Za ?_
  refine Zk10 0 2 3 4 5 6 7 8 9 18 (Zts (Zsr ?_))
  refine Zm ?_
  refine Zv (Runs.eqlI rfl rfl rfl) ?_
  refine Zk11 0 2 3 4 5 6 7 8 9 18 31 (Zt ?_)
  refine Cd.condT rfl (by rfl) ?_
  refine Zsr ?_
  refine Zv (Runs.build rfl rfl (run_build_T0 _)) ?_
  refine Zo 4 k2 ?_
  intro w5 pw5
  replace bel := bel.put k2 pw5 e2
  replace rs := rs.put k2 pw5 e2
  replace k8 := k8.put pw5 (by omega)
  replace k2 := pw5.blk
  refine Za ?_
  refine Za ?_
  refine Zk11 0 2 3 4 5 6 7 8 9 18 31 (Zt (Cd.ret (Post.then_ret ?_)))
  refine Post.endC3 rfl rfl rfl rfl k2 Tryz.underlying25 rfl (m := 4) (by kernel_rfl) rfl (.inl rfl) ?_
  rw [hps]
  exact ⟨bel, _, fun _ => False, rfl, RepT.zero _ _, fun b hb => hb.elim⟩
 | false =>
  have hlen : p6 < (lexAll l).1.length → parAt l R = (endPos l p6, 11) := fun hp => (hlen hp).elim id (fun h => by cases h)
  have hp6 := hposl p6
  rw [if_neg (by simp)]
  rcases Nat.lt_or_ge p6 (lexAll l).1.length with hp | hp
  ·have hps := hpn _ _ (hlen hp) (by omega)
   rw [if_pos hp]
   refine Za ?_
   refine Zk10 0 2 3 4 5 6 7 8 9 18 (Zts (Zsr ?_))
   refine Zm ?_
   refine Zv (Runs.eqlI rfl rfl rfl) ?_
   refine Zk11 0 2 3 4 5 6 7 8 9 18 31 (Zt ?_)
   refine Cd.condF rfl (decide_eq_false (by omega)) ?_
   refine Cd.skip (Zts (Zsr ?_))
   refine Zm ?_
   refine Zv (Runs.geq rfl rfl rfl) ?_
   refine Zk12 0 2 3 4 5 6 7 8 9 18 31 34 (Zt ?_)
   refine Cd.condT rfl (decide_eq_true (by omega)) ?_
   refine Zsr ?_
   refine Zv (Runs.build rfl rfl (run_build_T0 _)) ?_
   refine Zm ?_
   refine Zo 4 k2 ?_
   intro w5 pw5
   replace bel := bel.put k2 pw5 e2
   replace rs := rs.put k2 pw5 e2
   replace k8 := k8.put pw5 (by omega)
   replace k2 := pw5.blk
   refine Za ?_
   refine Za ?_
   refine Zk12 0 2 3 4 5 6 7 8 9 18 31 34 (Zt (Cd.ret (Post.then_ret ?_)))
   refine Post.endC3 rfl rfl rfl rfl k2 Tryz.underlying25 rfl (m := 4) (by kernel_rfl) rfl (.inl rfl) ?_
   rw [hps]
   exact ⟨bel, _, fun _ => False, rfl, RepT.zero _ _, fun b hb => hb.elim⟩
  rw [if_neg (by omega)]
  have hpe : p6 = (lexAll l).1.length := by omega
  cases bd6 with
  | true =>
   have hpa : parAt l R = (endPos l p6, 11) := by
    unfold resQ at hres
    unfold parAt
    rw [if_neg (by omega), h2]
    cases R with
    | out => exact hres.elim
    | ok a b => cases hres.2.2.2.2
    | bad a ov =>
     obtain ⟨rfl, rfl, -⟩ := hres
     rfl
   have hel : endPos l p6 = l.length := by
    unfold endPos
    rw [List.getD_eq_getElem?_getD, List.getElem?_eq_none hp]
    rfl
   have hps := hpn _ _ hpa (by omega)
   rw [hel] at hps
   rw [if_pos rfl]
   refine Za ?_
   refine Zk10 0 2 3 4 5 6 7 8 9 18 (Zts (Zsr ?_))
   refine Zm ?_
   refine Zv (Runs.eqlI rfl rfl rfl) ?_
   refine Zk11 0 2 3 4 5 6 7 8 9 18 31 (Zt ?_)
   refine Cd.condF rfl (decide_eq_false (by omega)) ?_
   refine Cd.skip (Zts (Zsr ?_))
   refine Zm ?_
   refine Zv (Runs.geq rfl rfl rfl) ?_
   refine Zk12 0 2 3 4 5 6 7 8 9 18 31 34 (Zt ?_)
   refine Cd.condT rfl (decide_eq_true (by omega)) ?_
   refine Zsr ?_
   refine Zv (Runs.build rfl rfl (run_build_T0 _)) ?_
   refine Zm ?_
   refine Zo 4 k2 ?_
   intro w5 pw5
   replace bel := bel.put k2 pw5 e2
   replace rs := rs.put k2 pw5 e2
   replace k8 := k8.put pw5 (by omega)
   replace k2 := pw5.blk
   refine Za ?_
   refine Za ?_
   refine Zk12 0 2 3 4 5 6 7 8 9 18 31 34 (Zt (Cd.ret (Post.then_ret ?_)))
   refine Post.endC3 rfl rfl rfl rfl k2 Tryz.underlying25 rfl (m := 4) (by kernel_rfl) rfl (.inl rfl) ?_
   rw [hps]
   exact ⟨bel, _, fun _ => False, rfl, RepT.zero _ _, fun b hb => hb.elim⟩
  | false =>
   have hok : R = .ok x p6 := by
    unfold resQ at hres
    cases R with
    | out => exact hres.elim
    | bad a ov => cases hres.2.2.1
    | ok a b =>
     obtain ⟨rfl, rfl, -⟩ := hres
     rfl
   have hpa : parAt l R = (0, 0) := by
    unfold parAt
    rw [if_neg (by omega), h2, hok]
    exact if_pos hpe
   have hps := hpo _ _ hpa hok
   have hnd := fuelT_nd _ _ _ _ _ _ (hR.symm.trans hok)
   have hbt := termQ_built hl (hR.symm.trans hok)
   have hwl := ctx_ok l hl h4 (B := 0) (g := 0) (c := 0) (A := none) (Nat.le_refl 0)
   have hwl : (lexAll l).1.length ≤ 4000 := hwl.len
   have hdn := x.depth_nodes
   have hri : rightT x = (decide (x.nodes ≤ 200) && decide (x.depth ≤ 16)) := by unfold rightT; rw [hbt, Bool.and_true]
   rw [if_neg (by simp)]
   have k8 : Blk _ g8 25 #[.int .i64 x.op, .string (strOf x.name), .slice A1 x.exprs.length c1, .slice A2 x.terms.length c2] := k8
   have hrb : RepB _ _ x (.agg #[.int .i64 x.op, .string (strOf x.name), .slice A1 x.exprs.length c1, .slice A2 x.terms.length c2]) := rs.rep.mono (fun b hb => Nat.lt_of_lt_of_le (rs.bd b hb).2 rs.hi_le) (fun _ _ => rfl)
   have hszc := fun W (hb : Below w7.heap.size w7 W) => sizeT_any x.nodes x w7.heap.size _ W (Nat.le_refl _) (by omega) (hrb.below hb) hb.size
   have hloc := Below.refl w7.heap.size w7
   refine Za ?_
   refine Zk10 0 2 3 4 5 6 7 8 9 18 (Zts (Zsr ?_))
   refine Zm ?_
   refine Zv (Runs.eqlI rfl rfl rfl) ?_
   refine Zk11 0 2 3 4 5 6 7 8 9 18 31 (Zt ?_)
   refine Cd.condF rfl (decide_eq_false (by omega)) ?_
   refine Cd.skip (Zts (Zsr ?_))
   refine Zm ?_
   refine Zv (Runs.geq rfl rfl rfl) ?_
   refine Zk12 0 2 3 4 5 6 7 8 9 18 31 34 (Zt ?_)
   refine Cd.condF rfl (decide_eq_false (by omega)) ?_
   refine Cd.skip (Zts (Zsr ?_))
   refine Zv (Runs.loadW rfl rfl Tryz.underlying25 rfl k8 (m := 4) (by kernel_rfl) rfl) ?_
   refine Zc (Ze Tryz.func29) (hszc _ hloc) ?_
   rintro e w8 ⟨rfl, hb8⟩
   refine ⟨_, rfl, ?_⟩
   replace bel := bel.step hb8
   replace k2 := k2.step hb8
   replace rs := rs.step hb8
   replace k8 := k8.step hb8
   replace hloc := hloc.step hb8
   refine Zm ?_
   refine Zv (Runs.extract rfl rfl rfl) ?_
   refine Zv (Runs.extract rfl rfl rfl) ?_
   refine Za ?_
   refine Za ?_
   refine Zk14 0 2 3 4 5 6 7 8 9 10 11 18 31 34 (Ztq ?_)
   refine Zm ?_
   refine Zv (Runs.gtr rfl rfl rfl) ?_
   refine Zm ?_
   refine SeqC.start ?_
   refine Zco (fun hcx => Runs.move rfl rfl) ?_
   refine SeqC.next rfl rfl rfl rfl rfl rfl rfl (fun hcx => Runs.gtr rfl rfl rfl) ?_
   refine SeqC.or rfl rfl rfl rfl rfl rfl rfl ?_
   refine Zk15 0 2 3 4 5 6 7 8 9 10 11 18 31 34 47 (Zt ?_)
   refine Cd.cond rfl (fun hc => ?_) (fun hc => ?_)
   ·have hc : ¬ (x.nodes ≤ 200 ∧ x.depth ≤ 16) := by
     simp at hc
     omega
    have hr0 : rightT x = false := by
     rw [hri]
     rcases Nat.lt_or_ge 200 x.nodes with h | h
     ·rw [decide_eq_false (by omega)]; rfl
     ·rw [decide_eq_false (show ¬ x.depth ≤ 16 by omega), Bool.and_false]
    rw [hr0, if_neg (by simp)] at hps
    refine Zsr ?_
    refine Zv (Runs.build rfl rfl (run_build_T0 _)) ?_
    refine Zo 4 k2 ?_
    intro w5 pw5
    replace bel := bel.put k2 pw5 e2
    replace rs := rs.put k2 pw5 e2
    replace k8 := k8.put pw5 (by omega)
    replace k2 := pw5.blk
    refine Za ?_
    refine Za ?_
    refine Zk15 0 2 3 4 5 6 7 8 9 10 11 18 31 34 47 (Zt (Cd.ret (Post.then_ret ?_)))
    refine Post.endC3 rfl rfl rfl rfl k2 Tryz.underlying25 rfl (m := 4) (by kernel_rfl) rfl (.inl rfl) ?_
    rw [hps]
    exact ⟨bel, _, fun _ => False, rfl, RepT.zero _ _, fun b hb => hb.elim⟩
   ·have hc : x.nodes ≤ 200 ∧ x.depth ≤ 16 := by
     simp at hc
     omega
    have hr0 : rightT x = true := by
     rw [hri, decide_eq_true hc.1, decide_eq_true hc.2]
     rfl
    rw [hr0, if_pos rfl] at hps
    have hwB := rs.bd
    have hwl2 := rs.hi_le
    have k2l := k2.lt
    refine Cd.skip (Ztq ?_)
    refine Zv (Runs.loadW rfl rfl Tryz.underlying25 rfl k8 (m := 4) (by kernel_rfl) rfl) ?_
    refine Zo 4 k2 ?_
    intro w5 pw5
    replace bel := bel.put k2 pw5 e2
    replace rs := rs.put k2 pw5 e2
    replace k8 := k8.put pw5 (by omega)
    replace k2 := pw5.blk
    refine Za ?_
    refine Za ?_
    refine Zk15 0 2 3 4 5 6 7 8 9 10 11 18 31 34 47 (Zt (Cd.ret ?_))
    refine Post.endC3 rfl rfl rfl rfl k2 Tryz.underlying25 rfl (m := 4) (by kernel_rfl) rfl (.inl rfl) ?_
    rw [hps]
    exact ⟨bel, _, S6, rfl, rs.rep, fun b hb => by have := hwB b hb; have := rs.hi_le; omega⟩
end Go.Proofs.YtaamkfajnpobfaaGreat

namespace Go.Proofs.YtaamkfajnpobfaaGreat
open Go.ChangeShapes Go.WideShapes Go.Deep Go.RowKit

set_option maxRecDepth 100000 in
theorem open_str {W : World} {base t : Nat} {v : Value} (hu : Tryz.prog.underlying t = some .string) (hv : Value.okWide Tryz.prog W .any base t v) : ∃ l : List Nat, v = .string (strOf l) ∧ (∀ x ∈ l, x < 256) ∧ l.length ≤ 9223372036854775807 := by
 obtain ⟨s, rfl⟩ := okWide_string hu hv
 simp only [Value.okWide, hu, Cell.okWide] at hv
 have hs : (s.size : Int) ≤ 9223372036854775807 := by simpa [Cell.ok, hu] using hv
 refine ⟨bytesOf s, by rw [strOf_bytesOf], bytesOf_lt s, ?_⟩
 have : (bytesOf s).length = s.size := by rw [← strOf_size, strOf_bytesOf]
 omega
end Go.Proofs.YtaamkfajnpobfaaGreat


/-
  codec.Reader: what its methods take. No condition but that bytes are bytes.
-/
import Derived.Test.YthnnephcohljeaaCodP
namespace Go.Proofs.Ythnnephcohljeaa
open Go.RowKit

/-- What a Reader's methods leave as it was: all but its block. -/
structure Kf (g : Nat) (w w' : World) : Prop where
  only : w.grownBy w' (some g)
section
variable {g : Nat} {w w' w'' : World}
theorem Kf.refl (g : Nat) (w : World) : Kf g w w := ⟨only_of_below (Below.refl _ _) _⟩
theorem Kf.trans (h : Kf g w w') (k : Kf g w' w'') : Kf g w w'' := ⟨only_trans h.only k.only⟩
theorem Kf.step (h : Kf g w w') (k : Below w'.heap.size w' w'') : Kf g w w'' := ⟨only_below h.only k⟩
theorem Kf.size (h : Kf g w w') : w.heap.size ≤ w'.heap.size := h.only.size
theorem Kf.put {g' : Nat} {T : TypeId} {cur cs : Array Value} (h : Kf g w w') (_k : Blk w' g' T cur) (p : Put w' w'' g' T cs) (e : w.heap.size ≤ g') : Kf g w w'' :=
  ⟨p.grown.os.trans h.only.os, p.grown.tape.trans h.only.tape, p.grown.output.trans h.only.output, by have := p.size; have := h.size; omega, fun k hk hne => (p.grown.block k (by have := h.size; omega) (fun e' => by injection e' with e'; omega)).trans (h.only.block k hk hne)⟩
theorem Kf.own {T : TypeId} {cs : Array Value} (h : Kf g w w') (p : Put w' w'' g T cs) : Kf g w w'' := h.trans ⟨p.grown⟩
theorem Kf.to {B : Nat} (h : Kf g w w') (hB : B ≤ g) (hg : g < w.heap.size) : Below B w w' := only_to_below h.only hB hg
end
/-- A Reader, and what is left of its bytes; none: it is a bad one. -/
def Rd (T : TypeId) (w : World) (g : Nat) (o : Option (List Nat)) : Prop := ∃ s b, Blk w g T #[.string (strOf s), .bool b] ∧ Byt s ∧ o = if b = true then none else some s
section
variable {T : TypeId} {w w' w'' : World} {g : Nat} {o : Option (List Nat)}
theorem Rd.step (h : Rd T w g o) (k : Below w.heap.size w w') : Rd T w' g o := by
  obtain ⟨s, b, h1, h2, h3⟩ := h
  exact ⟨s, b, h1.step k, h2, h3⟩
theorem Rd.put {g' B : Nat} {T' : TypeId} {cur cs : Array Value} (h : Rd T w g o) (k : Blk w g' T' cur) (p : Put w w' g' T' cs) (_e : B ≤ g') (hne : T ≠ T' := by decide) : Rd T w' g o := by
  obtain ⟨s, b, h1, h2, h3⟩ := h
  exact ⟨s, b, h1.put p (h1.ne k hne), h2, h3⟩
theorem Rd.lt (h : Rd T w g o) : g < w.heap.size := by
  obtain ⟨s, b, h1, -⟩ := h
  exact h1.lt
theorem Kf.kf (h : Kf g w w') (f : Kf g w' w'') (_rd : Rd T w' g o) : Kf g w w'' := h.trans f
theorem Blk.kf {k : Nat} {t : TypeId} {cs : Array Value} (h : Blk w k t cs) (f : Kf g w w') (rd : Rd T w g o) (hne : t ≠ T := by decide) : Blk w' k t cs := by
  obtain ⟨s, b, h1, -⟩ := rd
  exact h.grown f.only (fun e => h.ne h1 hne (by injection e))
theorem Own.kf {B size n : Nat} {e : TypeId} {v : Value} {xs : List Value} (h : Own w B e size v n xs) (f : Kf g w w') (rd : Rd T w g o) (hne : e ≠ T := by decide) : Own w' B e size v n xs := by
  obtain ⟨s, b, h1, -⟩ := rd
  exact ⟨h.row.kept f.only (own_ne_blk h.row h1 hne)⟩
theorem Rd.bad {s : List Nat} (k : Blk w g T #[.string (strOf s), .bool true]) (hs : Byt s) : Rd T w g none := ⟨s, true, k, hs, rfl⟩
theorem Rd.good {s : List Nat} (k : Blk w g T #[.string (strOf s), .bool false]) (hs : Byt s) : Rd T w g (some s) := ⟨s, false, k, hs, rfl⟩
end
/-- What is left behind. -/
def rest {α : Type} (p : List Nat → Option (α × List Nat)) (o : Option (List Nat)) : Option (List Nat) := (o.bind p).map Prod.snd
def val1 {α : Type} (p : List Nat → Option (α × List Nat)) (o : Option (List Nat)) (z : α) : Prop := ∀ a r, o.bind p = some (a, r) → z = a
theorem val1_none {α : Type} {p : List Nat → Option (α × List Nat)} {o : Option (List Nat)} {z : α} (h : o.bind p = none) : val1 p o z := fun a r e => by rw [h] at e; cases e
theorem val1_some {α : Type} {p : List Nat → Option (α × List Nat)} {o : Option (List Nat)} {z : α} {r : List Nat} (h : o.bind p = some (z, r)) : val1 p o z := fun a r' e => by rw [h] at e; injection e with e; injection e
def rawV (n : Int) (o : Option (List Nat)) : List Nat := ((o.bind (rawP n)).map Prod.fst).getD []
theorem good_any (g : Nat) (o : Option (List Nat)) (w : World) (h : Rd 124 w g o) : Calls Try.prog 79 #[.pointer (some ⟨g, 0, none⟩)] w fun e w' => e = .returned (.bool o.isSome) ∧ Grow w w' := by
  obtain ⟨s, b, k0, hs, rfl⟩ := h
  have bel := Below.refl w.heap.size w
  refine Calls.start 12 Try.func79 rfl rfl rfl ?_
  refine Cd.seq ?_
  refine Cd.region ?_
  refine Seq.val (Runs.assign rfl rfl) rfl rfl rfl ?_
  refine Seq.nil ?_
  refine Post.weak (F' := [(0, _), (2, _)]) ⟨rfl, rfl, trivial⟩ ?_
  refine Post.then_ ?_
  refine Cd.seq ?_
  refine Cd.region ?_
  refine Seq.val (Runs.move rfl rfl) rfl rfl rfl ?_
  refine Seq.val (Runs.neqP rfl rfl rfl Try.underlying86) rfl rfl rfl ?_
  refine Seq.val (Runs.move rfl rfl) rfl rfl rfl ?_
  refine SeqC.start ?_
  refine SeqC.open rfl rfl rfl rfl rfl rfl rfl (fun hcx => Runs.move rfl rfl) ?_
  refine SeqC.next rfl rfl rfl rfl rfl rfl rfl (fun hcx => Runs.nilCheck rfl rfl) ?_
  refine SeqC.next rfl rfl rfl rfl rfl rfl rfl (fun hcx => Runs.fieldB 1 rfl rfl Try.underlying124 rfl (by kernel_rfl)) ?_
  refine SeqC.next rfl rfl rfl rfl rfl rfl rfl (fun hcx => Runs.loadB rfl rfl Try.underlying4 rfl k0 rfl) ?_
  refine SeqC.next rfl rfl rfl rfl rfl rfl rfl (fun hcx => Runs.not rfl rfl) ?_
  refine SeqC.and rfl rfl rfl rfl rfl rfl rfl ?_
  refine Seq.val (Runs.assign rfl rfl) rfl rfl rfl ?_
  refine Seq.nil ?_
  refine Post.weak (F' := [(0, _), (2, _)]) ⟨rfl, rfl, trivial⟩ ?_
  refine Post.then_ ?_
  refine Cd.ret ?_
  refine Post.end1 rfl rfl (.inl rfl) ?_
  exact ⟨ret1 (bool_eq (by cases b <;> rfl)), bel⟩
theorem fail_any (g : Nat) (o : Option (List Nat)) (w : World) (h : Rd 124 w g o) : Calls Try.prog 80 #[.pointer (some ⟨g, 0, none⟩)] w fun e w' => e = .returned (.tuple #[]) ∧ Kf g w w' ∧ Rd 124 w' g none := by
  obtain ⟨s, b, k0, hs, rfl⟩ := h
  refine Calls.start 7 Try.func80 rfl rfl rfl ?_
  refine Cd.seq ?_
  refine Cd.region ?_
  refine Seq.val (Runs.move rfl rfl) rfl rfl rfl ?_
  refine Seq.val (Runs.neqP rfl rfl rfl Try.underlying86) rfl rfl rfl ?_
  refine Seq.nil ?_
  refine Post.weak (F' := [(0, _), (3, _)]) ⟨rfl, rfl, trivial⟩ ?_
  refine Post.then_ ?_
  refine Cd.condT rfl rfl ?_
  refine Cd.region ?_
  refine Seq.val (Runs.move rfl rfl) rfl rfl rfl ?_
  refine Seq.val (Runs.nilCheck rfl rfl) rfl rfl rfl ?_
  refine Seq.val (Runs.fieldB 1 rfl rfl Try.underlying124 rfl (by kernel_rfl)) rfl rfl rfl ?_
  refine Seq.store1 rfl rfl rfl (by kernel_rfl) rfl rfl k0 rfl rfl rfl ?_
  intro w1 pw1
  replace k0 := pw1.blk
  refine Seq.nil ?_
  refine Post.weak (F' := [(0, _), (3, _)]) ⟨rfl, rfl, trivial⟩ ?_
  refine Post.end0 rfl (.inr rfl) ?_
  exact ⟨rfl, ⟨pw1.grown⟩, Rd.bad k0 hs⟩
theorem rraw_any (g : Nat) (n : Int) (o : Option (List Nat)) (w : World) (h : Rd 124 w g o) : Calls Try.prog 78 #[.pointer (some ⟨g, 0, none⟩), .int .i64 n] w fun e w' => e = .returned (.string (strOf (rawV n o))) ∧ Kf g w w' ∧ Rd 124 w' g (rest (rawP n) o) := by
  have rd := h
  obtain ⟨s, b, k0, hs, ho⟩ := h
  have kf := Kf.refl g w
  refine Calls.start 40 Try.func78 rfl rfl rfl ?_
  refine Cd.seq ?_
  refine Cd.region ?_
  refine Seq.val (Runs.assign rfl rfl) rfl rfl rfl ?_
  refine Seq.nil ?_
  refine Post.weak (F' := [(0, _), (1, _), (4, _)]) ⟨rfl, rfl, rfl, trivial⟩ ?_
  refine Post.then_ ?_
  refine Cd.seq ?_
  refine Cd.seq ?_
  refine Cd.region ?_
  refine Seq.val (Runs.move rfl rfl) rfl rfl rfl ?_
  refine Seq.call (Enters.func rfl rfl rfl (run_enter Try.func79 (by kernel_rfl) rfl)) rfl rfl rfl (good_any g o _ rd) ?_
  rintro e w5 ⟨rfl, hb5⟩
  refine ⟨_, rfl, ?_⟩
  replace kf := kf.step hb5
  replace rd := rd.step hb5
  replace k0 := k0.step hb5
  refine Seq.val (Runs.not rfl rfl) rfl rfl rfl ?_
  refine Seq.val (Runs.move rfl rfl) rfl rfl rfl ?_
  refine SeqC.start ?_
  refine SeqC.open rfl rfl rfl rfl rfl rfl rfl (fun hcx => Runs.move rfl rfl) ?_
  refine SeqC.next rfl rfl rfl rfl rfl rfl rfl (fun hcx => Runs.lss rfl rfl rfl) ?_
  refine SeqC.or rfl rfl rfl rfl rfl rfl rfl ?_
  refine Seq.val (Runs.move rfl rfl) rfl rfl rfl ?_
  refine SeqC.start ?_
  refine SeqC.open rfl rfl rfl rfl rfl rfl rfl (fun hcx => Runs.move rfl rfl) ?_
  refine SeqC.next rfl rfl rfl rfl rfl rfl rfl (fun hcx => Runs.move rfl rfl) ?_
  refine SeqC.next rfl rfl rfl rfl rfl rfl rfl (fun hcx => Runs.nilCheck rfl rfl) ?_
  refine SeqC.next rfl rfl rfl rfl rfl rfl rfl (fun hcx => Runs.fieldB 0 rfl rfl Try.underlying124 rfl (by kernel_rfl)) ?_
  refine SeqC.next rfl rfl rfl rfl rfl rfl rfl (fun hcx => Runs.loadB rfl rfl Try.underlying9 rfl k0 rfl) ?_
  refine SeqC.next rfl rfl rfl rfl rfl rfl rfl (fun hcx => Runs.lenL rfl rfl Try.underlying9) ?_
  refine SeqC.next rfl rfl rfl rfl rfl rfl rfl (fun hcx => Runs.gtr rfl rfl rfl) ?_
  refine SeqC.or rfl rfl rfl rfl rfl rfl rfl ?_
  refine Seq.nil ?_
  refine Post.weak (F' := [(0, _), (1, _), (4, _), (21, _)]) ⟨rfl, rfl, rfl, rfl, trivial⟩ ?_
  refine Post.then_ ?_
  refine Cd.cond rfl (fun h => ?_) (fun h => ?_)
  · have hr : o.bind (rawP n) = none := by
      rw [ho]
      cases b with
      | true => rfl
      | false =>
        rw [ho] at h
        simp at h
        show rawP n s = none
        unfold rawP
        rw [if_neg (by omega)]
    refine Cd.seq ?_
    refine Cd.region ?_
    refine Seq.val (Runs.move rfl rfl) rfl rfl rfl ?_
    refine Seq.call (Enters.func rfl rfl rfl (run_enter Try.func80 (by kernel_rfl) rfl)) rfl rfl rfl (fail_any g o _ rd) ?_
    rintro e w1 ⟨rfl, fw1, rd'⟩
    refine ⟨_, rfl, ?_⟩
    replace kf := kf.kf fw1 rd
    replace rd := rd'
    clear rd'
    refine Seq.nil ?_
    refine Post.weak (F' := [(0, _), (1, _), (4, _), (21, _)]) ⟨rfl, rfl, rfl, rfl, trivial⟩ ?_
    refine Post.then_ ?_
    refine Cd.seq ?_
    refine Cd.region ?_
    refine Seq.val (Runs.assign rfl rfl) rfl rfl rfl ?_
    refine Seq.nil ?_
    refine Post.weak (F' := [(0, _), (1, _), (4, _), (21, _)]) ⟨rfl, rfl, rfl, rfl, trivial⟩ ?_
    refine Post.then_ ?_
    refine Cd.ret ?_
    refine Post.then_ret ?_
    refine Post.end1 rfl rfl (.inl rfl) ?_
    unfold rest rawV
    rw [hr]
    exact ⟨rfl, kf, rd⟩
  · have hb : b = false := by
      cases b with
      | false => rfl
      | true => rw [ho] at h; simp at h
    subst hb
    have ho' : o = some s := ho
    rw [ho'] at h
    simp at h
    have hr : o.bind (rawP n) = some (s.take n.toNat, s.drop n.toNat) := by
      rw [ho']
      show rawP n s = _
      unfold rawP
      rw [if_pos (by omega)]
    refine Cd.skip ?_
    refine Post.then_ ?_
    refine Cd.seq ?_
    refine Cd.region ?_
    refine Seq.val (Runs.move rfl rfl) rfl rfl rfl ?_
    refine Seq.val (Runs.nilCheck rfl rfl) rfl rfl rfl ?_
    refine Seq.val (Runs.fieldB 0 rfl rfl Try.underlying124 rfl (by kernel_rfl)) rfl rfl rfl ?_
    refine Seq.val (Runs.loadB rfl rfl Try.underlying9 rfl k0 rfl) rfl rfl rfl ?_
    refine Seq.val (Runs.move rfl rfl) rfl rfl rfl ?_
    refine Seq.val (Runs.sliceTo rfl rfl rfl Try.underlying9 (j := n.toNat) (by omega) (by omega)) rfl rfl rfl ?_
    refine Seq.val (Runs.assign rfl rfl) rfl rfl rfl ?_
    refine Seq.nil ?_
    refine Post.weak (F' := [(0, _), (1, _), (4, _), (5, _), (21, _)]) ⟨rfl, rfl, rfl, rfl, rfl, trivial⟩ ?_
    refine Post.then_ ?_
    refine Cd.seq ?_
    refine Cd.region ?_
    refine Seq.val (Runs.move rfl rfl) rfl rfl rfl ?_
    refine Seq.val (Runs.move rfl rfl) rfl rfl rfl ?_
    refine Seq.val (Runs.nilCheck rfl rfl) rfl rfl rfl ?_
    refine Seq.val (Runs.fieldB 0 rfl rfl Try.underlying124 rfl (by kernel_rfl)) rfl rfl rfl ?_
    refine Seq.val (Runs.loadB rfl rfl Try.underlying9 rfl k0 rfl) rfl rfl rfl ?_
    refine Seq.val (Runs.move rfl rfl) rfl rfl rfl ?_
    refine Seq.val (Runs.sliceFrom rfl rfl rfl Try.underlying9 (j := n.toNat) (by omega) (by omega)) rfl rfl rfl ?_
    refine Seq.val (Runs.nilCheck rfl rfl) rfl rfl rfl ?_
    refine Seq.val (Runs.fieldB 0 rfl rfl Try.underlying124 rfl (by kernel_rfl)) rfl rfl rfl ?_
    refine Seq.store1 rfl rfl rfl (by kernel_rfl) rfl rfl k0 rfl rfl rfl ?_
    intro w1 pw1
    replace k0 := pw1.blk
    refine Seq.nil ?_
    refine Post.weak (F' := [(0, _), (1, _), (4, _), (5, _), (21, _)]) ⟨rfl, rfl, rfl, rfl, rfl, trivial⟩ ?_
    refine Post.then_ ?_
    refine Cd.seq ?_
    refine Cd.region ?_
    refine Seq.val (Runs.move rfl rfl) rfl rfl rfl ?_
    have kf2 := kf.own pw1
    refine Seq.val (Runs.assign rfl rfl) rfl rfl rfl ?_
    refine Seq.nil ?_
    refine Post.weak (F' := [(0, _), (1, _), (4, _), (5, _), (21, _)]) ⟨rfl, rfl, rfl, rfl, rfl, trivial⟩ ?_
    refine Post.then_ ?_
    refine Cd.ret ?_
    refine Post.end1 rfl rfl (.inl rfl) ?_
    unfold rest rawV
    rw [hr]
    exact ⟨rfl, kf2, Rd.good k0 (hs.drop _)⟩
end Go.Proofs.Ythnnephcohljeaa

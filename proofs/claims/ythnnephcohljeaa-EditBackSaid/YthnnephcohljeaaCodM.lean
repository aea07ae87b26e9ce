/-
  debentureref03's Number; debentureref12's part: what they answer. No condition but that bytes are bytes.
-/
import Derived.Test.YthnnephcohljeaaCodL
namespace Go.Proofs.Ythnnephcohljeaa
open Go.RowKit

theorem number_any (n : Nat) (w : World) (hn : n < 18446744073709551616) : Calls Try.prog 48 #[.int .u64 (n : Int)] w fun e w' => e = .returned (.int .i64 (unsgn n)) ∧ Grow w w' := by
  have bel := Below.refl w.heap.size w
  have hu : unsgn n = if n % 2 = 0 then ((n / 2 : Nat) : Int) else -((n / 2 : Nat) : Int) - 1 := rfl
  generalize unsgn n = z at *
  refine Calls.start 14 Try.func48 rfl rfl rfl ?_
  refine Cd.seq ?_
  refine Cd.region ?_
  refine Seq.val (Runs.assign rfl rfl) rfl rfl rfl ?_
  refine Seq.nil ?_
  refine Post.weak (F' := [(0, _), (2, _)]) ⟨rfl, rfl, trivial⟩ ?_
  refine Post.then_ ?_
  refine Cd.seq ?_
  refine Cd.seq ?_
  refine Cd.region ?_
  refine Seq.val (Runs.move rfl rfl) rfl rfl rfl ?_
  refine Seq.val (Runs.remN rfl rfl rfl (by omega) (by omega)) rfl rfl rfl ?_
  refine Seq.val (Runs.eqlI rfl rfl rfl) rfl rfl rfl ?_
  refine Seq.nil ?_
  refine Post.weak (F' := [(0, _), (2, _), (5, _)]) ⟨rfl, rfl, rfl, trivial⟩ ?_
  refine Post.then_ ?_
  refine Cd.condD rfl (fun hc => ?_) (fun hc => ?_)
  · rw [if_pos (by omega)] at hu
    refine Cd.seq ?_
    refine Cd.region ?_
    refine Seq.val (Runs.move rfl rfl) rfl rfl rfl ?_
    refine Seq.val (Runs.quoU rfl rfl rfl (by omega) (by omega) (by omega)) rfl rfl rfl ?_
    refine Seq.val ((Runs.convI rfl rfl Try.underlying98 Try.underlying2 (wrapI (by omega) (by omega))).cast (v' := .int .i64 z) (int_eq (by omega))) rfl rfl rfl ?_
    refine Seq.val (Runs.assign rfl rfl) rfl rfl rfl ?_
    refine Seq.nil ?_
    refine Post.weak (F' := [(0, _), (2, _), (5, _)]) ⟨rfl, rfl, rfl, trivial⟩ ?_
    refine Post.then_ ?_
    refine Cd.ret ?_
    refine Post.then_ret ?_
    refine Post.end1 rfl rfl (.inl rfl) ?_
    exact ⟨rfl, bel⟩
  · rw [if_neg (by omega)] at hu
    refine Cd.skip ?_
    refine Post.then_ ?_
    refine Cd.seq ?_
    refine Cd.region ?_
    refine Seq.val (Runs.move rfl rfl) rfl rfl rfl ?_
    refine Seq.val (Runs.quoU rfl rfl rfl (by omega) (by omega) (by omega)) rfl rfl rfl ?_
    refine Seq.val ((Runs.convI rfl rfl Try.underlying98 Try.underlying2 (wrapI (by omega) (by omega)))) rfl rfl rfl ?_
    refine Seq.val (Runs.neg rfl rfl (r := -((n : Int) / 2)) (by rw [IntKind.wrap_i64]; omega)) rfl rfl rfl ?_
    refine Seq.val (Runs.subI rfl rfl rfl (by omega) (by omega)) rfl rfl rfl ?_
    refine Seq.val (Runs.assign rfl rfl) rfl rfl rfl ?_
    refine Seq.nil ?_
    refine Post.weak (F' := [(0, _), (2, _), (5, _)]) ⟨rfl, rfl, rfl, trivial⟩ ?_
    refine Post.then_ ?_
    refine Cd.ret ?_
    refine Post.end1 rfl rfl (.inl rfl) ?_
    exact ⟨ret1 (int_eq (by omega)), bel⟩
def valD {α : Type} (p : List Nat → Option (α × List Nat)) (d : α) (o : Option (List Nat)) : α := ((o.bind p).map Prod.fst).getD d
theorem valD_none {α : Type} {p : List Nat → Option (α × List Nat)} {d : α} {o : Option (List Nat)} (h : o.bind p = none) : valD p d o = d := by unfold valD; rw [h]; rfl
theorem valD_some {α : Type} {p : List Nat → Option (α × List Nat)} {d z : α} {r : List Nat} {o : Option (List Nat)} (h : o.bind p = some (z, r)) : valD p d o = z := by unfold valD; rw [h]; rfl
theorem valD_val1 {α : Type} (p : List Nat → Option (α × List Nat)) (d : α) (o : Option (List Nat)) : val1 p o (valD p d o) := fun a r e => valD_some e
theorem Rd.byt {T : TypeId} {w : World} {g : Nat} {s : List Nat} (h : Rd T w g (some s)) : Byt s := by
  obtain ⟨s', b', -, hs', ho'⟩ := h
  cases b' with
  | true => cases ho'
  | false => injection ho' with ho'; rw [ho']; exact hs'
theorem pgroup_any (g : Nat) (o : Option (List Nat)) (w : World) (h : Rd 96 w g o) : Calls Try.prog 49 #[.pointer (some ⟨g, 0, none⟩)] w fun e w' => e = .returned (.int .u64 ((valD gP 0 o : Nat) : Int)) ∧ Kf g w w' ∧ Rd 96 w' g (rest gP o) := by
  have rd := h
  obtain ⟨s, b, k0, hs, ho⟩ := h
  have kf := Kf.refl g w
  obtain ⟨t, ht⟩ : ∃ t, t = takeF s := ⟨_, rfl⟩
  have hc := fun W => take_any3 s W hs
  rw [← ht] at hc
  have hnone : (b = true ∨ t.2 = 0) → o.bind gP = none := fun h => by
    cases b with
    | true => rw [ho]; rfl
    | false =>
      rw [ho]
      show gP s = none
      cases hx : gP s with
      | none => rfl
      | some x =>
        exfalso
        obtain ⟨m, r⟩ := x
        obtain ⟨hm, he⟩ := gP_cod.sound s m r hs hx
        obtain ⟨a, c, e, h1, h2⟩ := grpK_shape 9 m (by omega)
        have e' : grp m = a ++ [c] := e
        have : t.2 = s.length - r.length := by rw [ht]; unfold takeF; rw [hx]
        rw [he, e'] at this
        simp at this h
        omega
  have hsome : b = false → t.2 ≠ 0 → o.bind gP = some (t.1, s.drop t.2) ∧ t.2 ≤ s.length := fun hb h => by
    subst hb
    rw [ho]
    cases hx : gP s with
    | none =>
      exfalso
      apply h
      rw [ht]; unfold takeF; rw [hx]
    | some x =>
      obtain ⟨m, r⟩ := x
      obtain ⟨hm, he⟩ := gP_cod.sound s m r hs hx
      have e1 : t = (m, s.length - r.length) := by rw [ht]; unfold takeF; rw [hx]
      subst e1
      have hlen : s.length = (grp m).length + r.length := by
        have := congrArg List.length he
        rw [List.length_append] at this
        exact this
      refine ⟨?_, by simp⟩
      show gP s = some (m, s.drop (s.length - r.length))
      rw [hx, hlen, Nat.add_sub_cancel]
      conv => rhs; rw [he]
      rw [List.drop_left]
  obtain ⟨t1, t2⟩ := t
  simp only at hc hnone hsome
  refine Calls.start 34 Try.func49 rfl rfl rfl ?_
  refine Cd.seq ?_
  refine Cd.region ?_
  refine Seq.val (Runs.assign rfl rfl) rfl rfl rfl ?_
  refine Seq.nil ?_
  refine Post.weak (F' := [(0, _), (2, _)]) ⟨rfl, rfl, trivial⟩ ?_
  refine Post.then_ ?_
  refine Cd.seq ?_
  refine Cd.region ?_
  refine Seq.val (Runs.move rfl rfl) rfl rfl rfl ?_
  refine Seq.val (Runs.nilCheck rfl rfl) rfl rfl rfl ?_
  refine Seq.val (Runs.fieldB 0 rfl rfl Try.underlying96 rfl (by kernel_rfl)) rfl rfl rfl ?_
  refine Seq.val (Runs.loadB rfl rfl Try.underlying9 rfl k0 rfl) rfl rfl rfl ?_
  refine Seq.call (Enters.func rfl rfl rfl (run_enter Try.func82 (by kernel_rfl) rfl)) rfl rfl rfl (hc _) ?_
  rintro e w5 ⟨rfl, hb5⟩
  refine ⟨_, rfl, ?_⟩
  replace kf := kf.step hb5
  replace rd := rd.step hb5
  replace k0 := k0.step hb5
  refine Seq.val (Runs.move rfl rfl) rfl rfl rfl ?_
  refine Seq.val (Runs.extract rfl rfl rfl) rfl rfl rfl ?_
  refine Seq.val (Runs.extract rfl rfl rfl) rfl rfl rfl ?_
  refine Seq.val (Runs.assign rfl rfl) rfl rfl rfl ?_
  refine Seq.val (Runs.assign rfl rfl) rfl rfl rfl ?_
  refine Seq.nil ?_
  refine Post.weak (F' := [(0, _), (2, _), (3, _), (4, _)]) ⟨rfl, rfl, rfl, rfl, trivial⟩ ?_
  refine Post.then_ ?_
  refine Cd.seq ?_
  refine Cd.seq ?_
  refine Cd.region ?_
  refine Seq.val (Runs.move rfl rfl) rfl rfl rfl ?_
  refine Seq.val (Runs.nilCheck rfl rfl) rfl rfl rfl ?_
  refine Seq.val (Runs.fieldB 1 rfl rfl Try.underlying96 rfl (by kernel_rfl)) rfl rfl rfl ?_
  refine Seq.val (Runs.loadB rfl rfl Try.underlying4 rfl k0 rfl) rfl rfl rfl ?_
  refine Seq.val (Runs.move rfl rfl) rfl rfl rfl ?_
  refine SeqC.start ?_
  refine SeqC.open rfl rfl rfl rfl rfl rfl rfl (fun hcx => Runs.move rfl rfl) ?_
  refine SeqC.next rfl rfl rfl rfl rfl rfl rfl (fun hcx => Runs.eqlI rfl rfl rfl) ?_
  refine SeqC.or rfl rfl rfl rfl rfl rfl rfl ?_
  refine Seq.nil ?_
  refine Post.weak (F' := [(0, _), (2, _), (3, _), (4, _), (20, _)]) ⟨rfl, rfl, rfl, rfl, rfl, trivial⟩ ?_
  refine Post.then_ ?_
  refine Cd.cond rfl (fun h => ?_) (fun h => ?_)
  · have hn := hnone (by simp at h; omega)
    refine Cd.seq ?_
    refine Cd.region ?_
    refine Seq.val (Runs.move rfl rfl) rfl rfl rfl ?_
    refine Seq.val (Runs.nilCheck rfl rfl) rfl rfl rfl ?_
    refine Seq.val (Runs.fieldB 1 rfl rfl Try.underlying96 rfl (by kernel_rfl)) rfl rfl rfl ?_
    refine Seq.store1 rfl rfl rfl (by kernel_rfl) rfl rfl k0 rfl rfl rfl ?_
    intro w1 pw1
    replace k0 := pw1.blk
    refine Seq.nil ?_
    refine Post.weak (F' := [(0, _), (2, _), (3, _), (4, _), (20, _)]) ⟨rfl, rfl, rfl, rfl, rfl, trivial⟩ ?_
    refine Post.then_ ?_
    refine Cd.seq ?_
    refine Cd.region ?_
    have kf2 := kf.own pw1
    refine Seq.val (Runs.assign rfl rfl) rfl rfl rfl ?_
    refine Seq.nil ?_
    refine Post.weak (F' := [(0, _), (2, _), (3, _), (4, _), (20, _)]) ⟨rfl, rfl, rfl, rfl, rfl, trivial⟩ ?_
    refine Post.then_ ?_
    refine Cd.ret ?_
    refine Post.then_ret ?_
    refine Post.end1 rfl rfl (.inl rfl) ?_
    rw [rest_none hn, valD_none hn]
    exact ⟨rfl, kf2, Rd.bad k0 hs⟩
  · simp at h
    obtain ⟨hn, hle⟩ := hsome h.1 (by omega)
    refine Cd.skip ?_
    refine Post.then_ ?_
    refine Cd.seq ?_
    refine Cd.region ?_
    refine Seq.val (Runs.move rfl rfl) rfl rfl rfl ?_
    refine Seq.val (Runs.move rfl rfl) rfl rfl rfl ?_
    refine Seq.val (Runs.nilCheck rfl rfl) rfl rfl rfl ?_
    refine Seq.val (Runs.fieldB 0 rfl rfl Try.underlying96 rfl (by kernel_rfl)) rfl rfl rfl ?_
    refine Seq.val (Runs.loadB rfl rfl Try.underlying9 rfl k0 rfl) rfl rfl rfl ?_
    refine Seq.val (Runs.move rfl rfl) rfl rfl rfl ?_
    refine Seq.val (Runs.sliceFrom rfl rfl rfl Try.underlying9 (j := t2) rfl hle) rfl rfl rfl ?_
    refine Seq.val (Runs.nilCheck rfl rfl) rfl rfl rfl ?_
    refine Seq.val (Runs.fieldB 0 rfl rfl Try.underlying96 rfl (by kernel_rfl)) rfl rfl rfl ?_
    refine Seq.store1 rfl rfl rfl (by kernel_rfl) rfl rfl k0 rfl rfl rfl ?_
    intro w1 pw1
    replace k0 := pw1.blk
    refine Seq.nil ?_
    refine Post.weak (F' := [(0, _), (2, _), (3, _), (4, _), (20, _)]) ⟨rfl, rfl, rfl, rfl, rfl, trivial⟩ ?_
    refine Post.then_ ?_
    refine Cd.seq ?_
    refine Cd.region ?_
    refine Seq.val (Runs.move rfl rfl) rfl rfl rfl ?_
    have kf2 := kf.own pw1
    refine Seq.val (Runs.assign rfl rfl) rfl rfl rfl ?_
    refine Seq.nil ?_
    refine Post.weak (F' := [(0, _), (2, _), (3, _), (4, _), (20, _)]) ⟨rfl, rfl, rfl, rfl, rfl, trivial⟩ ?_
    refine Post.then_ ?_
    refine Cd.ret ?_
    refine Post.end1 rfl rfl (.inl rfl) ?_
    rw [rest_some hn, valD_some hn]
    have hb := h.1
    subst hb
    exact ⟨rfl, kf2, Rd.good k0 (hs.drop _)⟩
theorem psize_any (g : Nat) (o : Option (List Nat)) (w : World) (h : Rd 96 w g o) : Calls Try.prog 50 #[.pointer (some ⟨g, 0, none⟩)] w fun e w' => e = .returned (.int .i64 ((valD sizeP 0 o : Nat) : Int)) ∧ Kf g w w' ∧ Rd 96 w' g (rest sizeP o) := by
  have rd := h
  have kf := Kf.refl g w
  have hsz : o.bind sizeP = (o.bind gP).bind fun x => if x.1 < 9223372036854775808 then some x else none := by cases o <;> rfl
  have hv := valD_val1 gP 0 o
  have hz64 : valD gP 0 o < 18446744073709551616 := by
    cases hx : o.bind gP with
    | none => rw [valD_none hx]; decide
    | some x =>
      obtain ⟨m, r⟩ := x
      rw [valD_some hx]
      cases o with
      | none => cases hx
      | some s => exact (gP_cod.sound s m r h.byt hx).1
  have hgc := fun W h => pgroup_any g o W h
  obtain ⟨z, hz⟩ : ∃ z, z = valD gP 0 o := ⟨_, rfl⟩
  rw [← hz] at hv hz64 hgc
  refine Calls.start 13 Try.func50 rfl rfl rfl ?_
  refine Cd.seq ?_
  refine Cd.region ?_
  refine Seq.val (Runs.assign rfl rfl) rfl rfl rfl ?_
  refine Seq.nil ?_
  refine Post.weak (F' := [(0, _), (2, _)]) ⟨rfl, rfl, trivial⟩ ?_
  refine Post.then_ ?_
  refine Cd.seq ?_
  refine Cd.region ?_
  refine Seq.val (Runs.move rfl rfl) rfl rfl rfl ?_
  refine Seq.call (Enters.func rfl rfl rfl (run_enter Try.func49 (by kernel_rfl) rfl)) rfl rfl rfl (hgc _ rd) ?_
  rintro e w1 ⟨rfl, fw1, rd'⟩
  refine ⟨_, rfl, ?_⟩
  replace kf := kf.kf fw1 rd
  replace rd := rd'
  clear rd'
  refine Seq.val (Runs.assign rfl rfl) rfl rfl rfl ?_
  refine Seq.nil ?_
  refine Post.weak (F' := [(0, _), (2, _), (3, _)]) ⟨rfl, rfl, rfl, trivial⟩ ?_
  refine Post.then_ ?_
  refine Cd.seq ?_
  refine Cd.seq ?_
  refine Cd.region ?_
  refine Seq.val (Runs.move rfl rfl) rfl rfl rfl ?_
  refine Seq.val (Runs.geq rfl rfl rfl) rfl rfl rfl ?_
  refine Seq.nil ?_
  refine Post.weak (F' := [(0, _), (2, _), (3, _), (7, _)]) ⟨rfl, rfl, rfl, rfl, trivial⟩ ?_
  refine Post.then_ ?_
  refine Cd.condD rfl (fun hc => ?_) (fun hc => ?_)
  · have hn : o.bind sizeP = none := by
      rw [hsz]
      cases hx : o.bind gP with
      | none => rfl
      | some x =>
        have := hv x.1 x.2 hx
        show (if x.1 < _ then _ else _) = _
        rw [if_neg (by omega)]
    obtain ⟨s, b, k0, hs, ho⟩ := rd
    refine Cd.seq ?_
    refine Cd.region ?_
    refine Seq.val (Runs.move rfl rfl) rfl rfl rfl ?_
    refine Seq.val (Runs.nilCheck rfl rfl) rfl rfl rfl ?_
    refine Seq.val (Runs.fieldB 1 rfl rfl Try.underlying96 rfl (by kernel_rfl)) rfl rfl rfl ?_
    refine Seq.store1 rfl rfl rfl (by kernel_rfl) rfl rfl k0 rfl rfl rfl ?_
    intro w2 pw2
    replace k0 := pw2.blk
    refine Seq.nil ?_
    refine Post.weak (F' := [(0, _), (2, _), (3, _), (7, _)]) ⟨rfl, rfl, rfl, rfl, trivial⟩ ?_
    refine Post.then_ ?_
    refine Cd.seq ?_
    refine Cd.region ?_
    have kf2 := kf.own pw2
    refine Seq.val (Runs.assign rfl rfl) rfl rfl rfl ?_
    refine Seq.nil ?_
    refine Post.weak (F' := [(0, _), (2, _), (3, _), (7, _)]) ⟨rfl, rfl, rfl, rfl, trivial⟩ ?_
    refine Post.then_ ?_
    refine Cd.ret ?_
    refine Post.then_ret ?_
    refine Post.end1 rfl rfl (.inl rfl) ?_
    rw [rest_none hn, valD_none hn]
    exact ⟨rfl, kf2, Rd.bad k0 hs⟩
  · have hr : rest sizeP o = rest gP o ∧ valD sizeP 0 o = z := by
      cases hx : o.bind gP with
      | none =>
        rw [hx] at hsz
        have hsz : o.bind sizeP = none := hsz
        exact ⟨by rw [rest_none hx, rest_none hsz], by rw [hz, valD_none hx, valD_none hsz]⟩
      | some x =>
        obtain ⟨m, r⟩ := x
        have e := hv m r hx
        have hs2 : o.bind sizeP = some (z, r) := by
          rw [hsz, hx, ← e]
          show (if z < _ then _ else _) = _
          rw [if_pos (by omega)]
        exact ⟨by rw [rest_some hx, rest_some hs2], valD_some hs2⟩
    refine Cd.skip ?_
    refine Post.then_ ?_
    refine Cd.seq ?_
    refine Cd.region ?_
    refine Seq.val (Runs.move rfl rfl) rfl rfl rfl ?_
    refine Seq.val ((Runs.convI rfl rfl Try.underlying98 Try.underlying3 (wrapI (by omega) (by omega)))) rfl rfl rfl ?_
    refine Seq.val (Runs.assign rfl rfl) rfl rfl rfl ?_
    refine Seq.nil ?_
    refine Post.weak (F' := [(0, _), (2, _), (3, _), (7, _)]) ⟨rfl, rfl, rfl, rfl, trivial⟩ ?_
    refine Post.then_ ?_
    refine Cd.ret ?_
    refine Post.end1 rfl rfl (.inl rfl) ?_
    rw [hr.1, hr.2]
    exact ⟨rfl, kf, rd⟩
theorem ptext_any (g : Nat) (o : Option (List Nat)) (w : World) (h : Rd 96 w g o) : Calls Try.prog 51 #[.pointer (some ⟨g, 0, none⟩)] w fun e w' => e = .returned (.string (strOf (valD (txtP 80) [] o))) ∧ Kf g w w' ∧ Rd 96 w' g (rest (txtP 80) o) := by
  have rd := h
  have kf := Kf.refl g w
  have hsz : o.bind (txtP 80) = (o.bind sizeP).bind fun x => if x.1 ≤ 80 then rawP x.1 x.2 else none := by cases o <;> rfl
  have hv := valD_val1 sizeP 0 o
  have hgc := fun W h => psize_any g o W h
  obtain ⟨z, hz⟩ : ∃ z, z = valD sizeP 0 o := ⟨_, rfl⟩
  rw [← hz] at hv hgc
  refine Calls.start 43 Try.func51 rfl rfl rfl ?_
  refine Cd.seq ?_
  refine Cd.region ?_
  refine Seq.val (Runs.assign rfl rfl) rfl rfl rfl ?_
  refine Seq.nil ?_
  refine Post.weak (F' := [(0, _), (2, _)]) ⟨rfl, rfl, trivial⟩ ?_
  refine Post.then_ ?_
  refine Cd.seq ?_
  refine Cd.region ?_
  refine Seq.val (Runs.move rfl rfl) rfl rfl rfl ?_
  refine Seq.call (Enters.func rfl rfl rfl (run_enter Try.func50 (by kernel_rfl) rfl)) rfl rfl rfl (hgc _ rd) ?_
  rintro e w1 ⟨rfl, fw1, rd'⟩
  refine ⟨_, rfl, ?_⟩
  replace kf := kf.kf fw1 rd
  replace rd := rd'
  clear rd'
  obtain ⟨s, b, k0, hs, ho⟩ := id rd
  refine Seq.val (Runs.assign rfl rfl) rfl rfl rfl ?_
  refine Seq.nil ?_
  refine Post.weak (F' := [(0, _), (2, _), (3, _)]) ⟨rfl, rfl, rfl, trivial⟩ ?_
  refine Post.then_ ?_
  refine Cd.seq ?_
  refine Cd.seq ?_
  refine Cd.region ?_
  refine Seq.val (Runs.move rfl rfl) rfl rfl rfl ?_
  refine Seq.val (Runs.nilCheck rfl rfl) rfl rfl rfl ?_
  refine Seq.val (Runs.fieldB 1 rfl rfl Try.underlying96 rfl (by kernel_rfl)) rfl rfl rfl ?_
  refine Seq.val (Runs.loadB rfl rfl Try.underlying4 rfl k0 rfl) rfl rfl rfl ?_
  refine Seq.val (Runs.move rfl rfl) rfl rfl rfl ?_
  refine SeqC.start ?_
  refine SeqC.open rfl rfl rfl rfl rfl rfl rfl (fun hcx => Runs.move rfl rfl) ?_
  refine SeqC.next rfl rfl rfl rfl rfl rfl rfl (fun hcx => Runs.gtr rfl rfl rfl) ?_
  refine SeqC.or rfl rfl rfl rfl rfl rfl rfl ?_
  refine Seq.val (Runs.move rfl rfl) rfl rfl rfl ?_
  refine SeqC.start ?_
  refine SeqC.open rfl rfl rfl rfl rfl rfl rfl (fun hcx => Runs.move rfl rfl) ?_
  refine SeqC.next rfl rfl rfl rfl rfl rfl rfl (fun hcx => Runs.move rfl rfl) ?_
  refine SeqC.next rfl rfl rfl rfl rfl rfl rfl (fun hcx => Runs.nilCheck rfl rfl) ?_
  refine SeqC.next rfl rfl rfl rfl rfl rfl rfl (fun hcx => Runs.fieldB 0 rfl rfl Try.underlying96 rfl (by kernel_rfl)) ?_
  refine SeqC.next rfl rfl rfl rfl rfl rfl rfl (fun hcx => Runs.loadB rfl rfl Try.underlying9 rfl k0 rfl) ?_
  refine SeqC.next rfl rfl rfl rfl rfl rfl rfl (fun hcx => Runs.lenL rfl rfl Try.underlying9) ?_
  refine SeqC.next rfl rfl rfl rfl rfl rfl rfl (fun hcx => Runs.gtr rfl rfl rfl) ?_
  refine SeqC.or rfl rfl rfl rfl rfl rfl rfl ?_
  refine Seq.nil ?_
  refine Post.weak (F' := [(0, _), (2, _), (3, _), (23, _)]) ⟨rfl, rfl, rfl, rfl, trivial⟩ ?_
  refine Post.then_ ?_
  refine Cd.cond rfl (fun h => ?_) (fun h => ?_)
  · have hn : o.bind (txtP 80) = none := by
      rw [hsz]
      cases hx : o.bind sizeP with
      | none => rfl
      | some x =>
        obtain ⟨m, r⟩ := x
        have e := hv m r hx
        subst e
        show (if z ≤ 80 then rawP z r else none) = none
        rw [rest_some hx] at ho
        cases b with
        | true => cases ho
        | false =>
          injection ho with ho
          subst ho
          simp at h
          by_cases h8 : z ≤ 80
          · rw [if_pos h8]; unfold rawP; rw [if_neg (by omega)]
          · rw [if_neg h8]
    refine Cd.seq ?_
    refine Cd.region ?_
    refine Seq.val (Runs.move rfl rfl) rfl rfl rfl ?_
    refine Seq.val (Runs.nilCheck rfl rfl) rfl rfl rfl ?_
    refine Seq.val (Runs.fieldB 1 rfl rfl Try.underlying96 rfl (by kernel_rfl)) rfl rfl rfl ?_
    refine Seq.store1 rfl rfl rfl (by kernel_rfl) rfl rfl k0 rfl rfl rfl ?_
    intro w2 pw2
    replace k0 := pw2.blk
    refine Seq.nil ?_
    refine Post.weak (F' := [(0, _), (2, _), (3, _), (23, _)]) ⟨rfl, rfl, rfl, rfl, trivial⟩ ?_
    refine Post.then_ ?_
    refine Cd.seq ?_
    refine Cd.region ?_
    have kf2 := kf.own pw2
    refine Seq.val (Runs.assign rfl rfl) rfl rfl rfl ?_
    refine Seq.nil ?_
    refine Post.weak (F' := [(0, _), (2, _), (3, _), (23, _)]) ⟨rfl, rfl, rfl, rfl, trivial⟩ ?_
    refine Post.then_ ?_
    refine Cd.ret ?_
    refine Post.then_ret ?_
    refine Post.end1 rfl rfl (.inl rfl) ?_
    rw [rest_none hn, valD_none hn]
    exact ⟨rfl, kf2, Rd.bad k0 hs⟩
  · simp at h
    obtain ⟨⟨h1, h2⟩, h3⟩ := h
    subst h1
    have ho : rest sizeP o = some s := ho
    have hn : o.bind (txtP 80) = some (s.take z, s.drop z) := by
      cases hx : o.bind sizeP with
      | none => rw [rest_none hx] at ho; cases ho
      | some x =>
        obtain ⟨m, r⟩ := x
        have e := hv m r hx
        subst e
        rw [rest_some hx] at ho
        injection ho with ho
        subst ho
        rw [hsz, hx]
        show (if z ≤ 80 then rawP z r else none) = _
        rw [if_pos (by omega)]
        unfold rawP
        rw [if_pos (by omega)]
        rfl
    refine Cd.skip ?_
    refine Post.then_ ?_
    refine Cd.seq ?_
    refine Cd.region ?_
    refine Seq.val (Runs.move rfl rfl) rfl rfl rfl ?_
    refine Seq.val (Runs.nilCheck rfl rfl) rfl rfl rfl ?_
    refine Seq.val (Runs.fieldB 0 rfl rfl Try.underlying96 rfl (by kernel_rfl)) rfl rfl rfl ?_
    refine Seq.val (Runs.loadB rfl rfl Try.underlying9 rfl k0 rfl) rfl rfl rfl ?_
    refine Seq.val (Runs.move rfl rfl) rfl rfl rfl ?_
    refine Seq.val (Runs.sliceTo rfl rfl rfl Try.underlying9 (j := z) rfl (by omega)) rfl rfl rfl ?_
    refine Seq.val (Runs.assign rfl rfl) rfl rfl rfl ?_
    refine Seq.nil ?_
    refine Post.weak (F' := [(0, _), (2, _), (3, _), (4, _), (23, _)]) ⟨rfl, rfl, rfl, rfl, rfl, trivial⟩ ?_
    refine Post.then_ ?_
    refine Cd.seq ?_
    refine Cd.region ?_
    refine Seq.val (Runs.move rfl rfl) rfl rfl rfl ?_
    refine Seq.val (Runs.move rfl rfl) rfl rfl rfl ?_
    refine Seq.val (Runs.nilCheck rfl rfl) rfl rfl rfl ?_
    refine Seq.val (Runs.fieldB 0 rfl rfl Try.underlying96 rfl (by kernel_rfl)) rfl rfl rfl ?_
    refine Seq.val (Runs.loadB rfl rfl Try.underlying9 rfl k0 rfl) rfl rfl rfl ?_
    refine Seq.val (Runs.move rfl rfl) rfl rfl rfl ?_
    refine Seq.val (Runs.sliceFrom rfl rfl rfl Try.underlying9 (j := z) rfl (by omega)) rfl rfl rfl ?_
    refine Seq.val (Runs.nilCheck rfl rfl) rfl rfl rfl ?_
    refine Seq.val (Runs.fieldB 0 rfl rfl Try.underlying96 rfl (by kernel_rfl)) rfl rfl rfl ?_
    refine Seq.store1 rfl rfl rfl (by kernel_rfl) rfl rfl k0 rfl rfl rfl ?_
    intro w2 pw2
    replace k0 := pw2.blk
    refine Seq.nil ?_
    refine Post.weak (F' := [(0, _), (2, _), (3, _), (4, _), (23, _)]) ⟨rfl, rfl, rfl, rfl, rfl, trivial⟩ ?_
    refine Post.then_ ?_
    refine Cd.seq ?_
    refine Cd.region ?_
    refine Seq.val (Runs.move rfl rfl) rfl rfl rfl ?_
    have kf2 := kf.own pw2
    refine Seq.val (Runs.assign rfl rfl) rfl rfl rfl ?_
    refine Seq.nil ?_
    refine Post.weak (F' := [(0, _), (2, _), (3, _), (4, _), (23, _)]) ⟨rfl, rfl, rfl, rfl, rfl, trivial⟩ ?_
    refine Post.then_ ?_
    refine Cd.ret ?_
    refine Post.end1 rfl rfl (.inl rfl) ?_
    rw [rest_some hn, valD_some hn]
    exact ⟨rfl, kf2, Rd.good k0 (hs.drop _)⟩
end Go.Proofs.Ythnnephcohljeaa

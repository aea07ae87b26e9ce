/-
  codec.Reader: Signed, Text, End, Read; list.GetAll; edit.take. No condition but that bytes are bytes.
-/
import Derived.Test.YthnnephcohljeaaCodG
import Derived.Test.YthnnephcohljeaaEditH
namespace Go.Proofs.Ythnnephcohljeaa
open Go.RowKit

theorem intBits_xor_i64 (p q : Int) (w : World) {P : Program} (hp : 0 ≤ p) (hp2 : p < 9223372036854775808) (hq : q = 0 ∨ q = -1) : (Op.intBits .xor .i64 p q).run P w = .ok (.int .i64 (if q = 0 then p else -p - 1)) w := by
  have e1 : (BitVec.ofInt IntKind.i64.bits p).toNat = p.toNat := by simp [IntKind.bits]; omega
  have hx : IntKind.i64.wrap (((BitVec.ofInt IntKind.i64.bits p) ^^^ (BitVec.ofInt IntKind.i64.bits q)).toNat : Int) = if q = 0 then p else -p - 1 := by
    rcases hq with rfl | rfl
    · have : BitVec.ofInt IntKind.i64.bits p ^^^ BitVec.ofInt IntKind.i64.bits 0 = BitVec.ofInt IntKind.i64.bits p := by simp
      rw [this, e1, if_pos rfl, IntKind.wrap_i64]; omega
    · have h1 : BitVec.ofInt 64 (-1) = BitVec.allOnes 64 := by decide
      have e2 : (BitVec.ofInt 64 p).toNat = p.toNat := e1
      show IntKind.i64.wrap (((BitVec.ofInt 64 p) ^^^ (BitVec.ofInt 64 (-1))).toNat : Int) = _
      rw [h1, BitVec.xor_allOnes, BitVec.toNat_not, e2, if_neg (by decide), IntKind.wrap_i64]
      have : (2 : Nat) ^ 64 = 18446744073709551616 := rfl
      rw [this]
      omega
  unfold Op.intBits
  simp only [hx]
  rfl
theorem rsigned_any (g : Nat) (o : Option (List Nat)) (w : World) (h : Rd 124 w g o) : Calls Try.prog 42 #[.pointer (some ⟨g, 0, none⟩)] w fun e w' => ∃ z : Int, (I64 z ∧ val1 sgnP o z ∧ e = .returned (.int .i64 z)) ∧ Kf g w w' ∧ Rd 124 w' g (rest sgnP o) := by
  have rd := h
  have kf := Kf.refl g w
  have hsz : o.bind sgnP = (o.bind gP).map fun x => (unsgn x.1, x.2) := by cases o <;> rfl
  refine Calls.start 14 Try.func42 rfl rfl rfl ?_
  refine Cd.seq ?_
  refine Cd.region ?_
  refine Seq.val (Runs.assign rfl rfl) rfl rfl rfl ?_
  refine Seq.nil ?_
  refine Post.weak (F' := [(0, _), (2, _)]) ⟨rfl, rfl, trivial⟩ ?_
  refine Post.then_ ?_
  refine Cd.seq ?_
  refine Cd.region ?_
  refine Seq.val (Runs.move rfl rfl) rfl rfl rfl ?_
  refine Seq.call (Enters.func rfl rfl rfl (run_enter Try.func77 (by kernel_rfl) rfl)) rfl rfl rfl (rgroups_any g o _ rd) ?_
  rintro e w1 ⟨z, ⟨hz, hv, rfl⟩, fw1, rd'⟩
  refine ⟨_, rfl, ?_⟩
  replace kf := kf.kf fw1 rd
  replace rd := rd'
  clear rd'
  have hr : rest sgnP o = rest gP o ∧ val1 sgnP o (unsgn z) := by
    cases hx : o.bind gP with
    | none =>
      rw [hx] at hsz
      have hsz : o.bind sgnP = none := hsz
      exact ⟨by rw [rest_none hx, rest_none hsz], val1_none hsz⟩
    | some x =>
      obtain ⟨m, r⟩ := x
      have e := hv m r hx
      subst e
      rw [hx] at hsz
      have hs2 : o.bind sgnP = some (unsgn z, r) := hsz
      exact ⟨by rw [rest_some hx, rest_some hs2], val1_some hs2⟩
  have hm : z % 2 ^ 1 = z % 2 := rfl
  have hun : unsgn z = if -((z % 2 : Nat) : Int) = 0 then ((z / 2 : Nat) : Int) else -((z / 2 : Nat) : Int) - 1 := by
    unfold unsgn
    by_cases h2 : z % 2 = 0
    · rw [if_pos h2, if_pos (by omega)]
    · rw [if_neg h2, if_neg (by omega)]
  refine Seq.val (Runs.assign rfl rfl) rfl rfl rfl ?_
  refine Seq.nil ?_
  refine Post.weak (F' := [(0, _), (2, _), (3, _)]) ⟨rfl, rfl, rfl, trivial⟩ ?_
  refine Post.then_ ?_
  refine Cd.seq ?_
  refine Cd.region ?_
  refine Seq.val (Runs.move rfl rfl) rfl rfl rfl ?_
  refine Seq.val (Runs.shrL rfl rfl rfl (s := 1) rfl (by omega)) rfl rfl rfl ?_
  refine Seq.val ((Runs.convI rfl rfl Try.underlying98 Try.underlying2 (wrapI (by omega) (by omega))).cast (v' := .int .i64 ((z / 2 : Nat) : Int)) rfl) rfl rfl rfl ?_
  refine Seq.val (Runs.move rfl rfl) rfl rfl rfl ?_
  refine Seq.val (Runs.maskU (m := 1) 1 rfl rfl rfl rfl (by omega) (by omega)) rfl rfl rfl ?_
  refine Seq.val ((Runs.convI rfl rfl Try.underlying98 Try.underlying2 (wrapI (by omega) (by omega))).cast (v' := .int .i64 ((z % 2 : Nat) : Int)) rfl) rfl rfl rfl ?_
  refine Seq.val (Runs.neg rfl rfl (r := -((z % 2 : Nat) : Int)) (by rw [IntKind.wrap_i64]; omega)) rfl rfl rfl ?_
  refine Seq.val (Runs.bin rfl rfl rfl rfl (intBits_xor_i64 _ _ _ (by omega) (by omega) (by omega))) rfl rfl rfl ?_
  rw [← hun]
  refine Seq.val (Runs.assign rfl rfl) rfl rfl rfl ?_
  refine Seq.nil ?_
  refine Post.weak (F' := [(0, _), (2, _), (3, _)]) ⟨rfl, rfl, rfl, trivial⟩ ?_
  refine Post.then_ ?_
  refine Cd.ret ?_
  refine Post.end1 rfl rfl (.inl rfl) ?_
  refine ⟨unsgn z, ⟨(sgn_unsgn hz).2, hr.2, rfl⟩, kf, ?_⟩
  rw [hr.1]; exact rd
theorem rtext_any (g most : Nat) (o : Option (List Nat)) (w : World) (h : Rd 124 w g o) : Calls Try.prog 81 #[.pointer (some ⟨g, 0, none⟩), .int .i64 (most : Int)] w fun e w' => ∃ z : List Nat, (Byt z ∧ val1 (txtP most) o z ∧ e = .returned (.string (strOf z))) ∧ Kf g w w' ∧ Rd 124 w' g (rest (txtP most) o) := by
  have rd := h
  have kf := Kf.refl g w
  have hsz : o.bind (txtP most) = (o.bind sizeP).bind fun x => if x.1 ≤ most then rawP x.1 x.2 else none := by cases o <;> rfl
  have hbyt : ∀ s, o = some s → Byt s := fun s e => by
    obtain ⟨s', b', -, hs', ho'⟩ := h
    rw [e] at ho'
    cases b' with
    | true => cases ho'
    | false => injection ho' with ho'; rw [ho']; exact hs'
  refine Calls.start 16 Try.func81 rfl rfl rfl ?_
  refine Cd.seq ?_
  refine Cd.region ?_
  refine Seq.val (Runs.assign rfl rfl) rfl rfl rfl ?_
  refine Seq.nil ?_
  refine Post.weak (F' := [(0, _), (1, _), (4, _)]) ⟨rfl, rfl, rfl, trivial⟩ ?_
  refine Post.then_ ?_
  refine Cd.seq ?_
  refine Cd.region ?_
  refine Seq.val (Runs.move rfl rfl) rfl rfl rfl ?_
  refine Seq.call (Enters.func rfl rfl rfl (run_enter Try.func44 (by kernel_rfl) rfl)) rfl rfl rfl (rsize_any g o _ rd) ?_
  rintro e w1 ⟨z, ⟨hz, hv, rfl⟩, fw1, rd'⟩
  refine ⟨_, rfl, ?_⟩
  replace kf := kf.kf fw1 rd
  replace rd := rd'
  clear rd'
  refine Seq.val (Runs.assign rfl rfl) rfl rfl rfl ?_
  refine Seq.nil ?_
  refine Post.weak (F' := [(0, _), (1, _), (4, _), (5, _)]) ⟨rfl, rfl, rfl, rfl, trivial⟩ ?_
  refine Post.then_ ?_
  refine Cd.seqJ (σ := Unit) (fun _ => [(0, .pointer (some ⟨g, 0, none⟩)), (5, .int .i64 (z : Int))]) (fun _ wr => Kf g w wr ∧ Rd 124 wr g (if z ≤ most then rest sizeP o else none)) ?_ ?_
  · skip
    refine Cd.seq ?_
    refine Cd.region ?_
    refine Seq.val (Runs.move rfl rfl) rfl rfl rfl ?_
    refine Seq.val (Runs.move rfl rfl) rfl rfl rfl ?_
    refine Seq.val (Runs.gtr rfl rfl rfl) rfl rfl rfl ?_
    refine Seq.nil ?_
    refine Post.weak (F' := [(0, _), (1, _), (4, _), (5, _), (10, _)]) ⟨rfl, rfl, rfl, rfl, rfl, trivial⟩ ?_
    refine Post.then_ ?_
    refine Cd.condD rfl (fun hc => ?_) (fun hc => ?_)
    · skip
      refine Cd.region ?_
      refine Seq.val (Runs.move rfl rfl) rfl rfl rfl ?_
      refine Seq.call (Enters.func rfl rfl rfl (run_enter Try.func80 (by kernel_rfl) rfl)) rfl rfl rfl (fail_any g _ _ rd) ?_
      rintro e w2 ⟨rfl, fw2, rd'⟩
      refine ⟨_, rfl, ?_⟩
      replace kf := kf.kf fw2 rd
      replace rd := rd'
      clear rd'
      refine Seq.nil ?_
      refine Post.weak (F' := [(0, _), (1, _), (4, _), (5, _), (10, _)]) ⟨rfl, rfl, rfl, rfl, rfl, trivial⟩ ?_
      exact Post.join () ⟨rfl, rfl, trivial⟩ ⟨kf, by rw [if_neg (by omega)]; exact rd⟩
    · skip
      refine Cd.skip ?_
      exact Post.join () ⟨rfl, rfl, trivial⟩ ⟨kf, by rw [if_pos (by omega)]; exact rd⟩
  clear kf rd
  rintro ⟨⟩ wr ⟨kf, rd⟩
  refine Cd.seq ?_
  refine Cd.region ?_
  refine Seq.val (Runs.move rfl rfl) rfl rfl rfl ?_
  refine Seq.val (Runs.move rfl rfl) rfl rfl rfl ?_
  refine Seq.call (Enters.func rfl rfl rfl (run_enter Try.func78 (by kernel_rfl) rfl)) rfl rfl rfl (rraw_any g z _ _ rd) ?_
  rintro e w2 ⟨rfl, fw2, rd'⟩
  refine ⟨_, rfl, ?_⟩
  replace kf := kf.kf fw2 rd
  replace rd := rd'
  clear rd'
  refine Seq.val (Runs.assign rfl rfl) rfl rfl rfl ?_
  refine Seq.nil ?_
  refine Post.weak (F' := [(0, _), (4, _), (5, _)]) ⟨rfl, rfl, rfl, trivial⟩ ?_
  refine Post.then_ ?_
  refine Cd.ret ?_
  refine Post.end1 rfl rfl (.inl rfl) ?_
  have hx : rest (rawP z) (if z ≤ most then rest sizeP o else none) = rest (txtP most) o ∧ ∃ t, t = rawV z (if z ≤ most then rest sizeP o else none) ∧ Byt t ∧ val1 (txtP most) o t := by
    cases hs : o.bind sizeP with
    | none =>
      have e : (if z ≤ most then rest sizeP o else none) = none := (by
        by_cases hz3 : z ≤ most
        · rw [if_pos hz3]; exact rest_none hs
        · rw [if_neg hz3])
      rw [hs] at hsz
      have hsz : o.bind (txtP most) = none := hsz
      rw [e]
      exact ⟨by rw [rest_none hsz]; rfl, [], rfl, (fun d hd => by cases hd), val1_none hsz⟩
    | some x =>
      obtain ⟨m, r⟩ := x
      have e := hv m r hs
      subst e
      rw [hs] at hsz
      replace hsz : o.bind (txtP most) = if z ≤ most then rawP z r else none := hsz
      have hbr : Byt r := by
        cases o with
        | none => cases hs
        | some s => exact Byt.right (a := grp z) ((sizeP_cod.sound s z r (hbyt s rfl) hs).2 ▸ hbyt s rfl)
      by_cases hz2 : z ≤ most
      · rw [if_pos hz2] at hsz
        rw [if_pos hz2, rest_some hs]
        cases hr : rawP z r with
        | none =>
          rw [hr] at hsz
          refine ⟨by rw [rest_none hsz]; exact rest_none hr, [], ?_, (fun d hd => by cases hd), val1_none hsz⟩
          show _ = ((rawP z r).map Prod.fst).getD []
          rw [hr]; rfl
        | some y =>
          obtain ⟨t, q⟩ := y
          rw [hr] at hsz
          refine ⟨by rw [rest_some hsz]; exact rest_some (o := some r) hr, t, ?_, ?_, val1_some hsz⟩
          · show _ = ((rawP z r).map Prod.fst).getD []
            rw [hr]; rfl
          · unfold rawP at hr
            split at hr
            · injection hr with hr
              injection hr with hr _
              rw [← hr]
              exact hbr.take _
            · cases hr
      · rw [if_neg hz2] at hsz
        rw [if_neg hz2]
        exact ⟨by rw [rest_none hsz]; rfl, [], rfl, (fun d hd => by cases hd), val1_none hsz⟩
  obtain ⟨hx1, t, ht, hb, hv2⟩ := hx
  refine ⟨t, ⟨hb, hv2, by rw [ht]⟩, kf, ?_⟩
  rw [← hx1]; exact rd
theorem rend_any (g : Nat) (o : Option (List Nat)) (w : World) (h : Rd 124 w g o) : Calls Try.prog 47 #[.pointer (some ⟨g, 0, none⟩)] w fun e w' => e = .returned (.bool (decide (o = some []))) ∧ Grow w w' := by
  have rd := h
  obtain ⟨s, b, k0, hs, ho⟩ := h
  have bel := Below.refl w.heap.size w
  refine Calls.start 13 Try.func47 rfl rfl rfl ?_
  refine Cd.seq ?_
  refine Cd.region ?_
  refine Seq.val (Runs.assign rfl rfl) rfl rfl rfl ?_
  refine Seq.nil ?_
  refine Post.weak (F' := [(0, _), (2, _)]) ⟨rfl, rfl, trivial⟩ ?_
  refine Post.then_ ?_
  refine Cd.seq ?_
  refine Cd.region ?_
  refine Seq.val (Runs.move rfl rfl) rfl rfl rfl ?_
  refine Seq.call (Enters.func rfl rfl rfl (run_enter Try.func79 (by kernel_rfl) rfl)) rfl rfl rfl (good_any g o _ rd) ?_
  rintro e w5 ⟨rfl, hb5⟩
  refine ⟨_, rfl, ?_⟩
  replace bel := bel.step hb5
  replace k0 := k0.step hb5
  refine Seq.val (Runs.move rfl rfl) rfl rfl rfl ?_
  refine SeqC.start ?_
  refine SeqC.open rfl rfl rfl rfl rfl rfl rfl (fun hcx => Runs.move rfl rfl) ?_
  refine SeqC.next rfl rfl rfl rfl rfl rfl rfl (fun hcx => Runs.nilCheck rfl rfl) ?_
  refine SeqC.next rfl rfl rfl rfl rfl rfl rfl (fun hcx => Runs.fieldB 0 rfl rfl Try.underlying124 rfl (by kernel_rfl)) ?_
  refine SeqC.next rfl rfl rfl rfl rfl rfl rfl (fun hcx => Runs.loadB rfl rfl Try.underlying9 rfl k0 rfl) ?_
  refine SeqC.next rfl rfl rfl rfl rfl rfl rfl (fun hcx => Runs.lenL rfl rfl Try.underlying9) ?_
  refine SeqC.next rfl rfl rfl rfl rfl rfl rfl (fun hcx => Runs.eqlI rfl rfl rfl) ?_
  refine SeqC.and rfl rfl rfl rfl rfl rfl rfl ?_
  refine Seq.val (Runs.assign rfl rfl) rfl rfl rfl ?_
  refine Seq.nil ?_
  refine Post.weak (F' := [(0, _), (2, _)]) ⟨rfl, rfl, trivial⟩ ?_
  refine Post.then_ ?_
  refine Cd.ret ?_
  refine Post.end1 rfl rfl (.inl rfl) ?_
  refine ⟨ret1 (bool_eq ?_), bel⟩
  subst ho
  cases b with
  | true => rfl
  | false =>
    cases s with
    | nil => rfl
    | cons c r => simp; omega
end Go.Proofs.Ythnnephcohljeaa

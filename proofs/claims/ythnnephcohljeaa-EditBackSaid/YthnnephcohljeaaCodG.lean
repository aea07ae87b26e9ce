/-
  codec.Reader: groups, Size, Signed, Text, End, Read. No condition but that bytes are bytes.
-/
import Derived.Test.YthnnephcohljeaaCodF
namespace Go.Proofs.Ythnnephcohljeaa
open Go.RowKit

theorem strOf_nil : strOf [] = { data := #[] } := rfl
theorem rest_none {α : Type} {p : List Nat → Option (α × List Nat)} {o : Option (List Nat)} (h : o.bind p = none) : rest p o = none := by unfold rest; rw [h]; rfl
theorem rest_some {α : Type} {p : List Nat → Option (α × List Nat)} {o : Option (List Nat)} {z : α} {r : List Nat} (h : o.bind p = some (z, r)) : rest p o = some r := by unfold rest; rw [h]; rfl
theorem low_lt {i : Nat} (hi : i ≤ 9) : 2 ^ (7 * i) ≤ 9223372036854775808 := by
  have : 2 ^ (7 * i) ≤ 2 ^ 63 := Nat.pow_le_pow_right (by omega) (by omega)
  exact this
theorem high_lt {i c : Nat} (hi : i ≤ 9) (hc : i = 9 → c ≤ 1) : c % 128 * 2 ^ (7 * i) ≤ 18446744073709551616 - 2 ^ (7 * i) := by
  have hm : c % 128 ≤ 127 := by omega
  rcases Nat.lt_or_ge i 9 with h | h
  · have h1 : 2 ^ (7 * i) ≤ 2 ^ 56 := Nat.pow_le_pow_right (by omega) (by omega)
    have h2 : c % 128 * 2 ^ (7 * i) ≤ 127 * 2 ^ 56 := Nat.mul_le_mul hm h1
    omega
  · obtain rfl : i = 9 := by omega
    have := hc rfl
    have h3 : (2 : Nat) ^ (7 * 9) = 9223372036854775808 := rfl
    rw [h3]
    omega
theorem step_ok {i n c : Nat} (hi : i ≤ 9) (hc : i = 9 → c ≤ 1) (hn : n < 2 ^ (7 * i)) : c % 128 * 2 ^ (7 * i) < 18446744073709551616 ∧ n + c % 128 * 2 ^ (7 * i) < 18446744073709551616 ∧ n < 18446744073709551616 := by
  have h1 := low_lt hi
  have h2 := high_lt hi hc
  have h3 : 0 < 2 ^ (7 * i) := Nat.two_pow_pos _
  generalize c % 128 * 2 ^ (7 * i) = T at *
  generalize 2 ^ (7 * i) = p at *
  omega
theorem shl_wrap {c i : Nat} (h : c % 128 * 2 ^ (7 * i) < 18446744073709551616) : IntKind.u64.wrap (((c % 2 ^ 7 : Nat) : Int) * 2 ^ (7 * i)) = ((c % 128 * 2 ^ (7 * i) : Nat) : Int) := by
  have e : ((c % 2 ^ 7 : Nat) : Int) * 2 ^ (7 * i) = ((c % 128 * 2 ^ (7 * i) : Nat) : Int) := by rw [Int.natCast_mul, Int.natCast_pow]; rfl
  rw [e]
  exact wrapU (Int.natCast_nonneg _) (Int.ofNat_lt.2 h)
theorem rgroups_any (g : Nat) (o : Option (List Nat)) (w : World) (h : Rd 124 w g o) : Calls Try.prog 77 #[.pointer (some ⟨g, 0, none⟩)] w fun e w' => ∃ z : Nat, (z < 18446744073709551616 ∧ val1 gP o z ∧ e = .returned (.int .u64 (z : Int))) ∧ Kf g w w' ∧ Rd 124 w' g (rest gP o) := by
  have rd := h
  have kf := Kf.refl g w
  refine Calls.start 42 Try.func77 rfl rfl rfl ?_
  refine Cd.seq ?_
  refine Cd.region ?_
  refine Seq.val (Runs.assign rfl rfl) rfl rfl rfl ?_
  refine Seq.nil ?_
  refine Post.weak (F' := [(0, _), (2, _)]) ⟨rfl, rfl, trivial⟩ ?_
  refine Post.then_ ?_
  refine Cd.seq ?_
  refine Cd.region ?_
  refine Seq.val (Runs.assign rfl rfl) rfl rfl rfl ?_
  refine Seq.nil ?_
  refine Post.weak (F' := [(0, _), (2, _), (3, _)]) ⟨rfl, rfl, rfl, trivial⟩ ?_
  refine Post.then_ ?_
  refine Cd.seq ?_
  refine Cd.region ?_
  refine Seq.val (Runs.assign rfl rfl) rfl rfl rfl ?_
  refine Seq.nil ?_
  refine Post.weak (F' := [(0, _), (2, _), (3, _), (4, _)]) ⟨rfl, rfl, rfl, rfl, trivial⟩ ?_
  refine Post.then_ ?_
  refine Cd.block ?_
  refine Cd.loop (σ := Nat × Nat × Option (List Nat)) (fun s => [(0, .pointer (some ⟨g, 0, none⟩)), (3, .int .u64 (s.2.1 : Int)), (4, .int .i64 (s.1 : Int))])
    (fun s wr => s.1 ≤ 9 ∧ s.2.1 < 2 ^ (7 * s.1) ∧ s.2.2.bind (gr s.1 s.2.1) = o.bind gP ∧ Kf g w wr ∧ Rd 124 wr g s.2.2) (fun s => 10 - s.1) (0, 0, o) ⟨Nat.zero_le _, (show 0 < 2 ^ (7 * 0) by decide), rfl, kf, rd⟩ ⟨rfl, rfl, rfl, trivial⟩ ?_
  clear kf rd
  rintro ⟨i, n, q⟩ wr ⟨hi, hn, hq, kf, rd⟩
  simp only at hi hn hq rd
  show Cd _ _ _ _ [(0, .pointer (some ⟨g, 0, none⟩)), (3, .int .u64 (n : Int)), (4, .int .i64 (i : Int))] _
  have hlow := low_lt hi
  refine Cd.seq ?_
  refine Cd.block ?_
  refine Cd.seq ?_
  refine Cd.region ?_
  refine Seq.val (Runs.move rfl rfl) rfl rfl rfl ?_
  have hbyt0 := rd
  refine Seq.call (Enters.func rfl rfl rfl (run_enter Try.func78 (by kernel_rfl) rfl)) rfl rfl rfl (rraw_any g 1 q _ rd) ?_
  rintro e w1 ⟨rfl, fw1, rd'⟩
  refine ⟨_, rfl, ?_⟩
  replace kf := kf.kf fw1 rd
  replace rd := rd'
  clear rd'
  cases hqq : q.bind (rawP 1) with
  | none =>
    have hnone : o.bind gP = none := by
      rw [← hq]
      cases q with
      | none => rfl
      | some s =>
        cases s with
        | nil => rfl
        | cons c r =>
          exfalso
          have : rawP 1 (c :: r) = none := hqq
          unfold rawP at this
          rw [if_pos (by simp; omega)] at this
          cases this
    rw [rest_none hqq] at rd
    rw [show rawV 1 q = [] by unfold rawV; rw [hqq]; rfl]
    refine Seq.val (Runs.assign rfl rfl) rfl rfl rfl ?_
    refine Seq.nil ?_
    refine Post.weak (F' := [(0, _), (3, _), (4, _), (5, _)]) ⟨rfl, rfl, rfl, rfl, trivial⟩ ?_
    refine Post.then_ ?_
    refine Cd.seq ?_
    refine Cd.seq ?_
    refine Cd.region ?_
    refine Seq.val (Runs.move rfl rfl) rfl rfl rfl ?_
    refine Seq.val (Runs.eqlL (a := []) (b := []) rfl rfl rfl (by simp) (by simp)) rfl rfl rfl ?_
    refine Seq.nil ?_
    refine Post.weak (F' := [(0, _), (3, _), (4, _), (5, _), (12, _)]) ⟨rfl, rfl, rfl, rfl, rfl, trivial⟩ ?_
    refine Post.then_ ?_
    refine Cd.condT rfl rfl ?_
    refine Cd.seq ?_
    refine Cd.region ?_
    refine Seq.val (Runs.assign rfl rfl) rfl rfl rfl ?_
    refine Seq.nil ?_
    refine Post.weak (F' := [(0, _), (2, _), (3, _), (4, _), (5, _), (12, _)]) ⟨rfl, rfl, rfl, rfl, rfl, rfl, trivial⟩ ?_
    refine Post.then_ ?_
    refine Cd.ret ?_
    refine Post.then_ret ?_
    refine Post.block_ret ?_
    refine Post.then_ret ?_
    refine Post.round_ret ?_
    refine Post.block_ret ?_
    refine Post.end1 rfl rfl (.inl rfl) ?_
    refine ⟨0, ⟨by decide, val1_none hnone, rfl⟩, kf, ?_⟩
    rw [rest_none hnone]; exact rd
  | some x =>
    obtain ⟨c, r, rfl⟩ : ∃ c r, q = some (c :: r) := by
      cases q with
      | none => cases hqq
      | some s =>
        cases s with
        | nil => exact absurd (show rawP 1 [] = some x from hqq) (by simp [rawP])
        | cons c r => exact ⟨c, r, rfl⟩
    have hx : x = ([c], r) := by
      have : rawP 1 (c :: r) = some x := hqq
      unfold rawP at this
      rw [if_pos (by simp; omega)] at this
      injection this with this
      rw [← this]; rfl
    subst hx
    have rdc := hbyt0
    rw [rest_some hqq] at rd
    rw [show rawV 1 (some (c :: r)) = [c] by unfold rawV; rw [hqq]; rfl]
    have hbr : Byt (c :: r) := by
      obtain ⟨s', b', -, hs', ho'⟩ := rdc
      cases b' with
      | true => cases ho'
      | false => injection ho' with ho'; rw [ho']; exact hs'
    have hc := hbr c List.mem_cons_self
    have hgr : gr i n (c :: r) = if (i = 9 ∧ 1 < c) ∨ (0 < i ∧ c = 0) then none else if c < 128 then some (n + c % 128 * 2 ^ (7 * i), r) else gr (i + 1) (n + c % 128 * 2 ^ (7 * i)) r := rfl
    replace hq : gr i n (c :: r) = o.bind gP := hq
    rw [hgr] at hq
    refine Seq.val (Runs.assign rfl rfl) rfl rfl rfl ?_
    refine Seq.nil ?_
    refine Post.weak (F' := [(0, _), (3, _), (4, _), (5, _)]) ⟨rfl, rfl, rfl, rfl, trivial⟩ ?_
    refine Post.then_ ?_
    refine Cd.seq ?_
    refine Cd.seq ?_
    refine Cd.region ?_
    refine Seq.val (Runs.move rfl rfl) rfl rfl rfl ?_
    refine Seq.val (Runs.eqlL (a := [c]) (b := []) rfl rfl rfl (by intro x hx; simp at hx; omega) (by simp)) rfl rfl rfl ?_
    refine Seq.nil ?_
    refine Post.weak (F' := [(0, _), (3, _), (4, _), (5, _), (12, _)]) ⟨rfl, rfl, rfl, rfl, rfl, trivial⟩ ?_
    refine Post.then_ ?_
    refine Cd.condF rfl (decide_eq_false (by simp)) ?_
    refine Cd.skip ?_
    refine Post.then_ ?_
    refine Cd.seq ?_
    refine Cd.region ?_
    refine Seq.val (Runs.move rfl rfl) rfl rfl rfl ?_
    refine Seq.val (Runs.indexL (j := 0) (c := c) rfl rfl rfl Try.underlying9 rfl rfl hc) rfl rfl rfl ?_
    refine Seq.val (Runs.convI rfl rfl Try.underlying5 Try.underlying98 (wrapU (by omega) (by omega))) rfl rfl rfl ?_
    refine Seq.val (Runs.assign rfl rfl) rfl rfl rfl ?_
    refine Seq.nil ?_
    refine Post.weak (F' := [(0, _), (3, _), (4, _), (5, _), (6, _), (12, _)]) ⟨rfl, rfl, rfl, rfl, rfl, rfl, trivial⟩ ?_
    refine Post.then_ ?_
    refine Cd.seq ?_
    refine Cd.seq ?_
    refine Cd.region ?_
    refine Seq.val (Runs.move rfl rfl) rfl rfl rfl ?_
    refine Seq.val (Runs.eqlI rfl rfl rfl) rfl rfl rfl ?_
    refine Seq.val (Runs.move rfl rfl) rfl rfl rfl ?_
    refine SeqC.start ?_
    refine SeqC.open rfl rfl rfl rfl rfl rfl rfl (fun hcx => Runs.move rfl rfl) ?_
    refine SeqC.next rfl rfl rfl rfl rfl rfl rfl (fun hcx => Runs.gtr rfl rfl rfl) ?_
    refine SeqC.and rfl rfl rfl rfl rfl rfl rfl ?_
    refine Seq.val (Runs.move rfl rfl) rfl rfl rfl ?_
    refine SeqC.start ?_
    refine SeqC.open rfl rfl rfl rfl rfl rfl rfl (fun hcx => Runs.move rfl rfl) ?_
    refine SeqC.next rfl rfl rfl rfl rfl rfl rfl (fun hcx => Runs.gtr rfl rfl rfl) ?_
    refine SeqC.next rfl rfl rfl rfl rfl rfl rfl (fun hcx => Runs.move rfl rfl) ?_
    refine SeqC.open rfl rfl rfl rfl rfl rfl rfl (fun hcx => Runs.move rfl rfl) ?_
    refine SeqC.next rfl rfl rfl rfl rfl rfl rfl (fun hcx => Runs.eqlI rfl rfl rfl) ?_
    refine SeqC.andG rfl rfl rfl rfl rfl rfl rfl rfl rfl rfl rfl ?_
    refine SeqC.or rfl rfl rfl rfl rfl rfl rfl ?_
    refine Seq.nil ?_
    refine Post.weak (F' := [(0, _), (3, _), (4, _), (5, _), (6, _), (12, _), (29, _)]) ⟨rfl, rfl, rfl, rfl, rfl, rfl, rfl, trivial⟩ ?_
    refine Post.then_ ?_
    refine Cd.cond rfl (fun h => ?_) (fun h => ?_)
    · rw [if_pos (by simp at h; omega)] at hq
      refine Cd.seq ?_
      refine Cd.region ?_
      refine Seq.val (Runs.move rfl rfl) rfl rfl rfl ?_
      refine Seq.call (Enters.func rfl rfl rfl (run_enter Try.func80 (by kernel_rfl) rfl)) rfl rfl rfl (fail_any g _ _ rd) ?_
      rintro e w2 ⟨rfl, fw2, rd'⟩
      refine ⟨_, rfl, ?_⟩
      replace kf := kf.kf fw2 rd
      replace rd := rd'
      clear rd'
      refine Seq.nil ?_
      refine Post.weak (F' := [(0, _), (3, _), (4, _), (5, _), (6, _), (12, _), (29, _)]) ⟨rfl, rfl, rfl, rfl, rfl, rfl, rfl, trivial⟩ ?_
      refine Post.then_ ?_
      refine Cd.seq ?_
      refine Cd.region ?_
      refine Seq.val (Runs.assign rfl rfl) rfl rfl rfl ?_
      refine Seq.nil ?_
      refine Post.weak (F' := [(0, _), (2, _), (3, _), (4, _), (5, _), (6, _), (12, _), (29, _)]) ⟨rfl, rfl, rfl, rfl, rfl, rfl, rfl, rfl, trivial⟩ ?_
      refine Post.then_ ?_
      refine Cd.ret ?_
      refine Post.then_ret ?_
      refine Post.block_ret ?_
      refine Post.then_ret ?_
      refine Post.round_ret ?_
      refine Post.block_ret ?_
      refine Post.end1 rfl rfl (.inl rfl) ?_
      refine ⟨0, ⟨by decide, val1_none hq.symm, rfl⟩, kf, ?_⟩
      rw [rest_none hq.symm]; exact rd
    · rw [if_neg (by simp at h; omega)] at hq
      have h9 : i = 9 → c ≤ 1 := by simp at h; omega
      obtain ⟨b1, b2, b3⟩ := step_ok hi h9 hn
      have hmin : min (7 * (i : Int)).toNat IntKind.u64.bits = 7 * i := by simp [IntKind.bits]; omega
      refine Cd.skip ?_
      refine Post.then_ ?_
      refine Cd.seq ?_
      refine Cd.region ?_
      refine Seq.val (Runs.move rfl rfl) rfl rfl rfl ?_
      refine Seq.val (Runs.move rfl rfl) rfl rfl rfl ?_
      refine Seq.val (Runs.maskU (m := 127) 7 rfl rfl rfl rfl (by omega) (by omega)) rfl rfl rfl ?_
      refine Seq.val (Runs.move rfl rfl) rfl rfl rfl ?_
      refine Seq.val (Runs.mulI rfl rfl rfl (by omega) (by omega)) rfl rfl rfl ?_
      refine Seq.val (Runs.shlW (r := ((c % 128 * 2 ^ (7 * i) : Nat) : Int)) rfl rfl rfl (by omega) (by rw [hmin]; exact shl_wrap b1)) rfl rfl rfl ?_
      refine Seq.val (Runs.bitsU (a := n) (b := c % 128 * 2 ^ (7 * i)) (r := n + c % 128 * 2 ^ (7 * i)) rfl rfl rfl b3 b1 (.inr (.inl ⟨rfl, by rw [Nat.or_comm, Nat.mul_comm (c % 128), ← Nat.two_pow_add_eq_or_of_lt hn, Nat.add_comm]⟩))) rfl rfl rfl ?_
      refine Seq.val (Runs.assign rfl rfl) rfl rfl rfl ?_
      refine Seq.nil ?_
      refine Post.weak (F' := [(0, _), (3, _), (4, _), (5, _), (6, _), (12, _), (29, _)]) ⟨rfl, rfl, rfl, rfl, rfl, rfl, rfl, trivial⟩ ?_
      refine Post.then_ ?_
      refine Cd.seq ?_
      refine Cd.region ?_
      refine Seq.val (Runs.move rfl rfl) rfl rfl rfl ?_
      refine Seq.val (Runs.lss rfl rfl rfl) rfl rfl rfl ?_
      refine Seq.nil ?_
      refine Post.weak (F' := [(0, _), (3, _), (4, _), (5, _), (6, _), (12, _), (29, _), (40, _)]) ⟨rfl, rfl, rfl, rfl, rfl, rfl, rfl, rfl, trivial⟩ ?_
      refine Post.then_ ?_
      refine Cd.condD rfl (fun hc => ?_) (fun hc => ?_)
      · rw [if_pos (by omega)] at hq
        refine Cd.seq ?_
        refine Cd.region ?_
        refine Seq.val (Runs.move rfl rfl) rfl rfl rfl ?_
        refine Seq.val (Runs.assign rfl rfl) rfl rfl rfl ?_
        refine Seq.nil ?_
        refine Post.weak (F' := [(0, _), (2, _), (3, _), (4, _), (5, _), (6, _), (12, _), (29, _), (40, _)]) ⟨rfl, rfl, rfl, rfl, rfl, rfl, rfl, rfl, rfl, trivial⟩ ?_
        refine Post.then_ ?_
        refine Cd.ret ?_
        refine Post.block_ret ?_
        refine Post.then_ret ?_
        refine Post.round_ret ?_
        refine Post.block_ret ?_
        refine Post.end1 rfl rfl (.inl rfl) ?_
        refine ⟨_, ⟨b2, val1_some hq.symm, rfl⟩, kf, ?_⟩
        rw [rest_some hq.symm]; exact rd
      · rw [if_neg (by omega)] at hq
        have hi8 : i < 9 := by omega
        refine Cd.skip ?_
        refine Post.block_normal ?_
        refine Post.then_ ?_
        refine Cd.region ?_
        refine Seq.val (Runs.move rfl rfl) rfl rfl rfl ?_
        refine Seq.val (Runs.addI rfl rfl rfl (by omega) (by omega)) rfl rfl rfl ?_
        refine Seq.val (Runs.assign rfl rfl) rfl rfl rfl ?_
        refine Seq.nil ?_
        refine Post.weak (F' := [(0, _), (3, _), (4, _), (5, _), (6, _), (12, _), (29, _), (40, _)]) ⟨rfl, rfl, rfl, rfl, rfl, rfl, rfl, rfl, trivial⟩ ?_
        refine Post.round (i + 1, n + c % 128 * 2 ^ (7 * i), some r) ⟨rfl, rfl, rfl, trivial⟩ ⟨by simp only; omega, ?_, hq, kf, rd⟩ (by simp only; omega)
        simp only
        rw [pow7]
        have hm : c % 128 ≤ 127 := by omega
        have := Nat.mul_le_mul_right (2 ^ (7 * i)) hm
        omega
theorem rsize_any (g : Nat) (o : Option (List Nat)) (w : World) (h : Rd 124 w g o) : Calls Try.prog 44 #[.pointer (some ⟨g, 0, none⟩)] w fun e w' => ∃ z : Nat, (z < 9223372036854775808 ∧ val1 sizeP o z ∧ e = .returned (.int .i64 (z : Int))) ∧ Kf g w w' ∧ Rd 124 w' g (rest sizeP o) := by
  have rd := h
  have kf := Kf.refl g w
  have hsz : o.bind sizeP = (o.bind gP).bind fun x => if x.1 < 9223372036854775808 then some x else none := by cases o <;> rfl
  refine Calls.start 12 Try.func44 rfl rfl rfl ?_
  refine Cd.seq ?_
  refine Cd.region ?_
  refine Seq.val (Runs.assign rfl rfl) rfl rfl rfl ?_
  refine Seq.nil ?_
  refine Post.weak (F' := [(0, _), (2, _)]) ⟨rfl, rfl, trivial⟩ ?_
  refine Post.then_ ?_
  refine Cd.seq ?_
  refine Cd.region ?_
  refine Seq.val (Runs.move rfl rfl) rfl rfl rfl ?_
  refine Seq.call (Enters.func rfl rfl rfl (run_enter Try.func77 (by kernel_rfl) rfl)) rfl rfl rfl (rgroups_any g o _ rd) ?_
  rintro e w1 ⟨z, ⟨hz, hv, rfl⟩, fw1, rd'⟩
  refine ⟨_, rfl, ?_⟩
  replace kf := kf.kf fw1 rd
  replace rd := rd'
  clear rd'
  refine Seq.val (Runs.assign rfl rfl) rfl rfl rfl ?_
  refine Seq.nil ?_
  refine Post.weak (F' := [(0, _), (2, _), (3, _)]) ⟨rfl, rfl, rfl, trivial⟩ ?_
  refine Post.then_ ?_
  refine Cd.seq ?_
  refine Cd.seq ?_
  refine Cd.region ?_
  refine Seq.val (Runs.move rfl rfl) rfl rfl rfl ?_
  refine Seq.val (Runs.geq rfl rfl rfl) rfl rfl rfl ?_
  refine Seq.nil ?_
  refine Post.weak (F' := [(0, _), (2, _), (3, _), (7, _)]) ⟨rfl, rfl, rfl, rfl, trivial⟩ ?_
  refine Post.then_ ?_
  refine Cd.condD rfl (fun hc => ?_) (fun hc => ?_)
  · have hn : o.bind sizeP = none := by
      rw [hsz]
      cases hx : o.bind gP with
      | none => rfl
      | some x =>
        have := hv x.1 x.2 hx
        show (if x.1 < _ then _ else _) = _
        rw [if_neg (by omega)]
    refine Cd.seq ?_
    refine Cd.region ?_
    refine Seq.val (Runs.move rfl rfl) rfl rfl rfl ?_
    refine Seq.call (Enters.func rfl rfl rfl (run_enter Try.func80 (by kernel_rfl) rfl)) rfl rfl rfl (fail_any g _ _ rd) ?_
    rintro e w2 ⟨rfl, fw2, rd'⟩
    refine ⟨_, rfl, ?_⟩
    replace kf := kf.kf fw2 rd
    replace rd := rd'
    clear rd'
    refine Seq.nil ?_
    refine Post.weak (F' := [(0, _), (2, _), (3, _), (7, _)]) ⟨rfl, rfl, rfl, rfl, trivial⟩ ?_
    refine Post.then_ ?_
    refine Cd.seq ?_
    refine Cd.region ?_
    refine Seq.val (Runs.assign rfl rfl) rfl rfl rfl ?_
    refine Seq.nil ?_
    refine Post.weak (F' := [(0, _), (2, _), (3, _), (7, _)]) ⟨rfl, rfl, rfl, rfl, trivial⟩ ?_
    refine Post.then_ ?_
    refine Cd.ret ?_
    refine Post.then_ret ?_
    refine Post.end1 rfl rfl (.inl rfl) ?_
    refine ⟨0, ⟨by decide, val1_none hn, rfl⟩, kf, ?_⟩
    rw [rest_none hn]; exact rd
  · have hr : rest sizeP o = rest gP o ∧ val1 sizeP o z := by
      cases hx : o.bind gP with
      | none => rw [hx] at hsz; exact ⟨by rw [rest_none hx, rest_none hsz], val1_none hsz⟩
      | some x =>
        obtain ⟨m, r⟩ := x
        have e := hv m r hx
        subst e
        rw [hx] at hsz
        have hs2 : o.bind sizeP = some (z, r) := by
          rw [hsz]
          show (if z < _ then _ else _) = _
          rw [if_pos (by omega)]
        exact ⟨by rw [rest_some hx, rest_some hs2], val1_some hs2⟩
    refine Cd.skip ?_
    refine Post.then_ ?_
    refine Cd.seq ?_
    refine Cd.region ?_
    refine Seq.val (Runs.move rfl rfl) rfl rfl rfl ?_
    refine Seq.val (Runs.convI rfl rfl Try.underlying98 Try.underlying3 (wrapI (by omega) (by omega))) rfl rfl rfl ?_
    refine Seq.val (Runs.assign rfl rfl) rfl rfl rfl ?_
    refine Seq.nil ?_
    refine Post.weak (F' := [(0, _), (2, _), (3, _), (7, _)]) ⟨rfl, rfl, rfl, rfl, trivial⟩ ?_
    refine Post.then_ ?_
    refine Cd.ret ?_
    refine Post.end1 rfl rfl (.inl rfl) ?_
    refine ⟨z, ⟨by omega, hr.2, rfl⟩, kf, ?_⟩
    rw [hr.1]; exact rd
end Go.Proofs.Ythnnephcohljeaa

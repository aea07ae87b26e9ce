/-
  codec.Writer: Size, Signed, Raw, Text, Bytes. Condition: the lengths are within reach.
-/
import Derived.Test.YthnnephcohljeaaCodA
namespace Go.Proofs.Ythnnephcohljeaa
open Go.RowKit

theorem Runs.convU {P : Program} {E : Operand → Option Value} {o : Oper} {w : World} {x : Operand} {T T' : TypeId} {p : Int} {r : Nat} (ho : o.op = .convert T T' x) (hx : E x = some (.int .i64 p)) (hS : P.underlying T = some (.int .i64)) (hT : P.underlying T' = some (.int .u64)) (hr : p % 18446744073709551616 = (r : Int)) : Runs P E o w (.int .u64 (r : Int)) w :=
  .convI ho hx hS hT (by rw [IntKind.wrap_u64, hr])
theorem size_any (B g n : Nat) (bs : List Nat) (w : World) (h : Wr w B g bs) (hn : n < 9223372036854775808) (hl : bs.length + 10 ≤ 1000000000) :
    Calls Try.prog 32 #[.pointer (some ⟨g, 0, none⟩), .int .i64 (n : Int)] w fun e w' => e = .returned (.pointer (some ⟨g, 0, none⟩)) ∧ Wf B w w' ∧ Wr w' B g (bs ++ grp n) := by
  have wf := Wf.refl B w
  have wr := h
  refine Calls.start 10 Try.func32 rfl rfl rfl ?_
  refine Cd.seq ?_
  refine Cd.region ?_
  refine Seq.val (Runs.assign rfl rfl) rfl rfl rfl ?_
  refine Seq.nil ?_
  refine Post.weak (F' := [(0, _), (1, _), (4, _)]) ⟨rfl, rfl, rfl, trivial⟩ ?_
  refine Post.then_ ?_
  refine Cd.seq ?_
  refine Cd.region ?_
  refine Seq.val (Runs.move rfl rfl) rfl rfl rfl ?_
  refine Seq.val (Runs.move rfl rfl) rfl rfl rfl ?_
  refine Seq.val ((Runs.max2 rfl rfl rfl).cast (v' := .int .i64 (n : Int)) (int_eq (by omega))) rfl rfl rfl ?_
  refine Seq.val (Runs.convU (r := n) rfl rfl Try.underlying3 Try.underlying98 (by omega)) rfl rfl rfl ?_
  refine Seq.call (Enters.func rfl rfl rfl (run_enter Try.func74 (by kernel_rfl) rfl)) rfl rfl rfl (groups_any B g n _ _ wr (by omega) hl) ?_
  clear wr
  rintro e w1 ⟨rfl, fw1, wr⟩
  refine ⟨_, rfl, ?_⟩
  replace wf := wf.wf fw1
  refine Seq.val (Runs.assign rfl rfl) rfl rfl rfl ?_
  refine Seq.nil ?_
  refine Post.weak (F' := [(0, _), (1, _), (4, _)]) ⟨rfl, rfl, rfl, trivial⟩ ?_
  refine Post.then_ ?_
  refine Cd.ret ?_
  refine Post.end1 rfl rfl (.inl rfl) ?_
  exact ⟨rfl, wf, wr⟩
/-- A signed number as one without a sign. -/
def sgn (n : Int) : Nat := if 0 ≤ n then (2 * n).toNat else (-2 * n - 1).toNat
theorem sgn_lt {n : Int} (h : I64 n) : sgn n < 18446744073709551616 := by
  unfold sgn I64 at *
  split <;> omega
theorem xor_ones {a : Nat} (h : a < 18446744073709551616) : a ^^^ 18446744073709551615 = 18446744073709551615 - a := by
  have := congrArg BitVec.toNat (BitVec.xor_allOnes (x := BitVec.ofNat 64 a))
  rw [BitVec.toNat_xor, BitVec.toNat_not, BitVec.toNat_allOnes, BitVec.toNat_ofNat, Nat.mod_eq_of_lt (by omega)] at this
  exact this
theorem signed_any (B g : Nat) (n : Int) (bs : List Nat) (w : World) (h : Wr w B g bs) (hn : I64 n) (hl : bs.length + 10 ≤ 1000000000) :
    Calls Try.prog 29 #[.pointer (some ⟨g, 0, none⟩), .int .i64 n] w fun e w' => e = .returned (.pointer (some ⟨g, 0, none⟩)) ∧ Wf B w w' ∧ Wr w' B g (bs ++ grp (sgn n)) := by
  have wf := Wf.refl B w
  have wr := h
  have hs := sgn_lt hn
  unfold I64 at hn
  obtain ⟨a, ha⟩ : ∃ a : Nat, n % 18446744073709551616 = (a : Int) := ⟨(n % 18446744073709551616).toNat, by omega⟩
  obtain ⟨a2, ha2⟩ : ∃ a2 : Nat, a2 = a * 2 % 18446744073709551616 := ⟨_, rfl⟩
  obtain ⟨z, hz⟩ : ∃ z : Int, z = if 0 ≤ n then 0 else -1 := ⟨_, rfl⟩
  obtain ⟨b, hb⟩ : ∃ b : Nat, b = if 0 ≤ n then 0 else 18446744073709551615 := ⟨_, rfl⟩
  have hx : sgn n = a2 ^^^ b := by
    unfold sgn
    by_cases h0 : 0 ≤ n
    · rw [hb, if_pos h0, if_pos h0, Nat.xor_zero]; omega
    · rw [hb, if_neg h0, if_neg h0, xor_ones (by omega)]; omega
  have hfd : n.fdiv 9223372036854775808 = z := by
    rw [Int.fdiv_eq_ediv_of_nonneg _ (by omega), hz]
    split <;> omega
  refine Calls.start 14 Try.func29 rfl rfl rfl ?_
  refine Cd.seq ?_
  refine Cd.region ?_
  refine Seq.val (Runs.assign rfl rfl) rfl rfl rfl ?_
  refine Seq.nil ?_
  refine Post.weak (F' := [(0, _), (1, _), (4, _)]) ⟨rfl, rfl, rfl, trivial⟩ ?_
  refine Post.then_ ?_
  refine Cd.seq ?_
  refine Cd.region ?_
  refine Seq.val (Runs.move rfl rfl) rfl rfl rfl ?_
  refine Seq.val (Runs.move rfl rfl) rfl rfl rfl ?_
  refine Seq.val (Runs.convU (r := a) rfl rfl Try.underlying2 Try.underlying98 ha) rfl rfl rfl ?_
  refine Seq.val (Runs.shlW (r := (a2 : Int)) rfl rfl rfl (by omega) (by rw [IntKind.wrap_u64]; show ((a : Int) * 2) % _ = _; omega)) rfl rfl rfl ?_
  refine Seq.val (Runs.move rfl rfl) rfl rfl rfl ?_
  refine Seq.val (Runs.shrW (r := z) rfl rfl rfl (by omega) hfd) rfl rfl rfl ?_
  refine Seq.val (Runs.convU (r := b) rfl rfl Try.underlying2 Try.underlying98 (by rw [hz, hb]; split <;> rfl)) rfl rfl rfl ?_
  refine Seq.val (Runs.bitsU (a := a2) (b := b) rfl rfl rfl (by omega) (by rw [hb]; split <;> omega) (.inr (.inr ⟨rfl, hx⟩))) rfl rfl rfl ?_
  refine Seq.call (Enters.func rfl rfl rfl (run_enter Try.func74 (by kernel_rfl) rfl)) rfl rfl rfl (groups_any B g (sgn n) _ _ wr hs hl) ?_
  clear wr
  rintro e w1 ⟨rfl, fw1, wr⟩
  refine ⟨_, rfl, ?_⟩
  replace wf := wf.wf fw1
  refine Seq.val (Runs.assign rfl rfl) rfl rfl rfl ?_
  refine Seq.nil ?_
  refine Post.weak (F' := [(0, _), (1, _), (4, _)]) ⟨rfl, rfl, rfl, trivial⟩ ?_
  refine Post.then_ ?_
  refine Cd.ret ?_
  refine Post.end1 rfl rfl (.inl rfl) ?_
  exact ⟨rfl, wf, wr⟩
theorem raw_any (B g : Nat) (s bs : List Nat) (w : World) (h : Wr w B g bs) (hs : ∀ d ∈ s, d < 256) (hl : bs.length + s.length ≤ 1000000000) :
    Calls Try.prog 75 #[.pointer (some ⟨g, 0, none⟩), .string (strOf s)] w fun e w' => e = .returned (.pointer (some ⟨g, 0, none⟩)) ∧ Wf B w w' ∧ Wr w' B g (bs ++ s) := by
  have wf := Wf.refl B w
  have wr := h
  refine Calls.start 9 Try.func75 rfl rfl rfl ?_
  refine Cd.seq ?_
  refine Cd.region ?_
  refine Seq.val (Runs.assign rfl rfl) rfl rfl rfl ?_
  refine Seq.nil ?_
  refine Post.weak (F' := [(0, _), (1, _), (4, _)]) ⟨rfl, rfl, rfl, trivial⟩ ?_
  refine Post.then_ ?_
  refine Cd.seq ?_
  refine Cd.region ?_
  refine Seq.val (Runs.move rfl rfl) rfl rfl rfl ?_
  refine Seq.val (Runs.move rfl rfl) rfl rfl rfl ?_
  refine Seq.convSB rfl rfl Try.underlying9 Try.underlying71 Try.underlying5 hs rfl rfl rfl ?_
  intro g7 c7 w1 hc7 n7
  replace wf := wf.step n7.below
  replace wr := wr.step n7.below
  have hrd := n7.reads
  refine Seq.call (Enters.func rfl rfl rfl (run_enter Try.func94 (by kernel_rfl) rfl)) rfl rfl rfl (put_any B g _ _ c7 _ _ s _ wr hrd hs hl) ?_
  clear wr
  rintro e w1 ⟨rfl, fw1, wr⟩
  refine ⟨_, rfl, ?_⟩
  replace wf := wf.wf fw1
  refine Seq.val (Runs.assign rfl rfl) rfl rfl rfl ?_
  refine Seq.nil ?_
  refine Post.weak (F' := [(0, _), (1, _), (4, _)]) ⟨rfl, rfl, rfl, trivial⟩ ?_
  refine Post.then_ ?_
  refine Cd.ret ?_
  refine Post.end1 rfl rfl (.inl rfl) ?_
  exact ⟨rfl, wf, wr⟩
theorem text_any (B g : Nat) (s bs : List Nat) (w : World) (h : Wr w B g bs) (hs : ∀ d ∈ s, d < 256) (hl : bs.length + 10 + s.length ≤ 1000000000) :
    Calls Try.prog 35 #[.pointer (some ⟨g, 0, none⟩), .string (strOf s)] w fun e w' => e = .returned (.pointer (some ⟨g, 0, none⟩)) ∧ Wf B w w' ∧ Wr w' B g (bs ++ (grp s.length ++ s)) := by
  have wf := Wf.refl B w
  have wr := h
  have hg := grp_len s.length
  refine Calls.start 11 Try.func35 rfl rfl rfl ?_
  refine Cd.seq ?_
  refine Cd.region ?_
  refine Seq.val (Runs.assign rfl rfl) rfl rfl rfl ?_
  refine Seq.nil ?_
  refine Post.weak (F' := [(0, _), (1, _), (4, _)]) ⟨rfl, rfl, rfl, trivial⟩ ?_
  refine Post.then_ ?_
  refine Cd.seq ?_
  refine Cd.region ?_
  refine Seq.val (Runs.move rfl rfl) rfl rfl rfl ?_
  refine Seq.val (Runs.move rfl rfl) rfl rfl rfl ?_
  refine Seq.val (Runs.lenL rfl rfl Try.underlying9) rfl rfl rfl ?_
  refine Seq.call (Enters.func rfl rfl rfl (run_enter Try.func32 (by kernel_rfl) rfl)) rfl rfl rfl (size_any B g s.length _ _ wr (by omega) (by omega)) ?_
  clear wr
  rintro e w1 ⟨rfl, fw1, wr⟩
  refine ⟨_, rfl, ?_⟩
  replace wf := wf.wf fw1
  refine Seq.val (Runs.move rfl rfl) rfl rfl rfl ?_
  refine Seq.call (Enters.func rfl rfl rfl (run_enter Try.func75 (by kernel_rfl) rfl)) rfl rfl rfl (raw_any B g s _ _ wr hs (by rw [List.length_append]; omega)) ?_
  clear wr
  rintro e w2 ⟨rfl, fw2, wr⟩
  refine ⟨_, rfl, ?_⟩
  replace wf := wf.wf fw2
  rw [List.append_assoc] at wr
  refine Seq.val (Runs.assign rfl rfl) rfl rfl rfl ?_
  refine Seq.nil ?_
  refine Post.weak (F' := [(0, _), (1, _), (4, _)]) ⟨rfl, rfl, rfl, trivial⟩ ?_
  refine Post.then_ ?_
  refine Cd.ret ?_
  refine Post.end1 rfl rfl (.inl rfl) ?_
  exact ⟨rfl, wf, wr⟩
theorem wbytes_any (B g : Nat) (bs : List Nat) (w : World) (h : Wr w B g bs) :
    Calls Try.prog 36 #[.pointer (some ⟨g, 0, none⟩)] w fun e w' => e = .returned (.string (strOf bs)) ∧ Grow w w' := by
  have bel := Below.refl w.heap.size w
  obtain ⟨v, k0, own⟩ := h.cell
  obtain ⟨A, c, rfl, hr⟩ := own.reads
  refine Calls.start 10 Try.func36 rfl rfl rfl ?_
  refine Cd.seq ?_
  refine Cd.region ?_
  refine Seq.val (Runs.assign rfl rfl) rfl rfl rfl ?_
  refine Seq.nil ?_
  refine Post.weak (F' := [(0, _), (2, _)]) ⟨rfl, rfl, trivial⟩ ?_
  refine Post.then_ ?_
  refine Cd.seq ?_
  refine Cd.seq ?_
  refine Cd.region ?_
  refine Seq.val (Runs.move rfl rfl) rfl rfl rfl ?_
  refine Seq.val (Runs.eqlP rfl rfl rfl Try.underlying70) rfl rfl rfl ?_
  refine Seq.nil ?_
  refine Post.weak (F' := [(0, _), (2, _), (4, _)]) ⟨rfl, rfl, rfl, trivial⟩ ?_
  refine Post.then_ ?_
  refine Cd.condF rfl rfl ?_
  refine Cd.skip ?_
  refine Post.then_ ?_
  refine Cd.seq ?_
  refine Cd.region ?_
  refine Seq.val (Runs.move rfl rfl) rfl rfl rfl ?_
  refine Seq.val (Runs.nilCheck rfl rfl) rfl rfl rfl ?_
  refine Seq.val (Runs.fieldB 0 rfl rfl Try.underlying73 rfl (by kernel_rfl)) rfl rfl rfl ?_
  refine Seq.val (Runs.loadB rfl rfl Try.underlying71 rfl k0 rfl) rfl rfl rfl ?_
  refine Seq.val (Runs.convBS rfl rfl Try.underlying71 Try.underlying5 Try.underlying9 hr h.bytes) rfl rfl rfl ?_
  refine Seq.val (Runs.assign rfl rfl) rfl rfl rfl ?_
  refine Seq.nil ?_
  refine Post.weak (F' := [(0, _), (2, _), (4, _)]) ⟨rfl, rfl, rfl, trivial⟩ ?_
  refine Post.then_ ?_
  refine Cd.ret ?_
  refine Post.end1 rfl rfl (.inl rfl) ?_
  exact ⟨rfl, bel⟩
end Go.Proofs.Ythnnephcohljeaa

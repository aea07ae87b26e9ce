/-
  math/bits' Len64, LeadingZeros64: what each answers. Condition: a number of 64 bits.
-/
import Derived.Test.YtpdeihienkbeeaaRows
import Derived.Handy
import Derived.Test.YtpdeihienkbeeaaKE
namespace Go.Proofs.Ytpdeihienkbeeaa
open Go.RowKit

/-- n is x's length in bits. -/
def isLen (x n : Nat) : Prop := x < 2 ^ n ∧ (0 < x → 0 < n ∧ 2 ^ (n - 1) ≤ x)
theorem isLen_shift {x k n : Nat} (h : isLen (x / 2 ^ k) n) (hx : 2 ^ k ≤ x) : isLen x (n + k) := by
  obtain ⟨h1, h2⟩ := h
  have hp : 0 < 2 ^ k := Nat.pos_of_ne_zero (by simp)
  have hd : 0 < x / 2 ^ k := Nat.div_pos hx hp
  obtain ⟨h3, h4⟩ := h2 hd
  refine ⟨?_, fun _ => ⟨by omega, ?_⟩⟩
  · rw [Nat.pow_add]
    exact (Nat.div_lt_iff_lt_mul hp).1 h1
  · rw [show n + k - 1 = n - 1 + k from by omega, Nat.pow_add]
    exact (Nat.le_div_iff_mul_le hp).1 h4
def tabOk (s : ByteArray) : Bool := (List.range 256).all fun j => match s[j]? with
  | some c => Nat.blt j (2 ^ c.toNat) && (Nat.beq j 0 || (Nat.blt 0 c.toNat && Nat.ble (2 ^ (c.toNat - 1)) j)) && Nat.ble c.toNat 8
  | none => false
theorem tabOk_spec {s : ByteArray} (h : tabOk s = true) {j : Nat} (hj : j < 256) : ∃ c, s[j]? = some c ∧ isLen j c.toNat ∧ c.toNat ≤ 8 := by
  unfold tabOk at h
  have := List.all_eq_true.1 h j (List.mem_range.2 hj)
  cases hs : s[j]? with
  | none => rw [hs] at this; cases this
  | some c =>
    rw [hs] at this
    simp only [Bool.and_eq_true, Bool.or_eq_true] at this
    obtain ⟨⟨h1, h2⟩, h3⟩ := this
    refine ⟨c, rfl, ⟨Nat.blt_eq.mp h1, fun h0 => ?_⟩, Nat.le_of_ble_eq_true h3⟩
    rcases h2 with h2 | h2
    · have := Nat.eq_of_beq_eq_true h2; omega
    · exact ⟨Nat.blt_eq.mp h2.1, Nat.le_of_ble_eq_true h2.2⟩

theorem len64_any (x : Nat) (w : World) (hx : x < 18446744073709551616) :
    Calls Try.prog 73 #[.int .u64 (x : Int)] w fun e w' => ∃ n : Nat, e = .returned (.int .i64 (n : Int)) ∧ isLen x n ∧ n ≤ 64 ∧ w = w' := by
  refine Calls.start 25 Try.func73 rfl rfl rfl ?_
  refine Cd.seq ?_
  refine Cd.region ?_
  refine Seq.val (Runs.assign rfl rfl) rfl rfl rfl ?_
  refine Seq.nil ?_
  refine Post.weak (F' := [(0, _), (2, _)]) ⟨rfl, rfl, trivial⟩ ?_
  refine Post.then_ ?_
  refine Cd.seqJ (σ := Nat × Nat) (fun s => [(0, .int .u64 (s.1 : Int)), (2, .int .i64 (s.2 : Int))]) (fun s wr => w = wr ∧ s.1 < 2 ^ 32 ∧ s.2 ≤ 32 ∧ ∀ n, isLen s.1 n → isLen x (n + s.2)) ?_ ?_
  · skip
    refine Cd.seq ?_
    refine Cd.region ?_
    refine Seq.val (Runs.move rfl rfl) rfl rfl rfl ?_
    refine Seq.val (Runs.geq rfl rfl rfl) rfl rfl rfl ?_
    refine Seq.nil ?_
    refine Post.weak (F' := [(0, _), (2, _), (4, _)]) ⟨rfl, rfl, rfl, trivial⟩ ?_
    refine Post.then_ ?_
    refine Cd.condD rfl (fun hc => ?_) (fun hc => ?_)
    · skip
      refine Cd.seq ?_
      refine Cd.region ?_
      refine Seq.val (Runs.move rfl rfl) rfl rfl rfl ?_
      refine Seq.val (Runs.shrL (s := 32) rfl rfl rfl rfl (by omega)) rfl rfl rfl ?_
      refine Seq.val (Runs.assign rfl rfl) rfl rfl rfl ?_
      refine Seq.nil ?_
      refine Post.weak (F' := [(0, _), (2, _), (4, _)]) ⟨rfl, rfl, rfl, trivial⟩ ?_
      refine Post.then_ ?_
      refine Cd.region ?_
      refine Seq.val (Runs.assign rfl rfl) rfl rfl rfl ?_
      refine Seq.nil ?_
      refine Post.weak (F' := [(0, _), (2, _), (4, _)]) ⟨rfl, rfl, rfl, trivial⟩ ?_
      exact Post.join (x / 2 ^ 32, 32) ⟨rfl, rfl, trivial⟩ ⟨rfl, by dsimp only; omega, by dsimp only; omega, fun n hn => isLen_shift (k := 32) hn (by omega)⟩
    · skip
      refine Cd.skip ?_
      exact Post.join (x, 0) ⟨rfl, rfl, trivial⟩ ⟨rfl, by dsimp only; omega, by dsimp only; omega, fun n hn => hn⟩
  rintro ⟨y, m⟩ wr ⟨rfl, hy, hm, hlen⟩
  dsimp only at hy hm hlen
  refine Cd.seqJ (σ := Nat × Nat) (fun s => [(0, .int .u64 (s.1 : Int)), (2, .int .i64 (s.2 : Int))]) (fun s wr => w = wr ∧ s.1 < 2 ^ 16 ∧ s.2 ≤ 48 ∧ ∀ n, isLen s.1 n → isLen x (n + s.2)) ?_ ?_
  · skip
    refine Cd.seq ?_
    refine Cd.region ?_
    refine Seq.val (Runs.move rfl rfl) rfl rfl rfl ?_
    refine Seq.val (Runs.geq rfl rfl rfl) rfl rfl rfl ?_
    refine Seq.nil ?_
    refine Post.weak (F' := [(0, _), (2, _), (8, _)]) ⟨rfl, rfl, rfl, trivial⟩ ?_
    refine Post.then_ ?_
    refine Cd.condD rfl (fun hc => ?_) (fun hc => ?_)
    · skip
      refine Cd.seq ?_
      refine Cd.region ?_
      refine Seq.val (Runs.move rfl rfl) rfl rfl rfl ?_
      refine Seq.val (Runs.shrL (s := 16) rfl rfl rfl rfl (by omega)) rfl rfl rfl ?_
      refine Seq.val (Runs.assign rfl rfl) rfl rfl rfl ?_
      refine Seq.nil ?_
      refine Post.weak (F' := [(0, _), (2, _), (8, _)]) ⟨rfl, rfl, rfl, trivial⟩ ?_
      refine Post.then_ ?_
      refine Cd.region ?_
      refine Seq.val (Runs.move rfl rfl) rfl rfl rfl ?_
      refine Seq.val (Runs.addI rfl rfl rfl (by omega) (by omega)) rfl rfl rfl ?_
      refine Seq.val (Runs.assign rfl rfl) rfl rfl rfl ?_
      refine Seq.nil ?_
      refine Post.weak (F' := [(0, _), (2, _), (8, _)]) ⟨rfl, rfl, rfl, trivial⟩ ?_
      exact Post.join (y / 2 ^ 16, m + 16) ⟨rfl, rfl, trivial⟩ ⟨rfl, by dsimp only; omega, by dsimp only; omega, fun n hn => by have := hlen _ (isLen_shift hn (by omega)); rwa [show n + 16 + m = n + (m + 16) from by omega] at this⟩
    · skip
      refine Cd.skip ?_
      exact Post.join (y, m) ⟨rfl, rfl, trivial⟩ ⟨rfl, by dsimp only; omega, by dsimp only; omega, hlen⟩
  rintro ⟨y, m⟩ wr ⟨rfl, hy, hm, hlen⟩
  dsimp only at hy hm hlen
  refine Cd.seqJ (σ := Nat × Nat) (fun s => [(0, .int .u64 (s.1 : Int)), (2, .int .i64 (s.2 : Int))]) (fun s wr => w = wr ∧ s.1 < 2 ^ 8 ∧ s.2 ≤ 56 ∧ ∀ n, isLen s.1 n → isLen x (n + s.2)) ?_ ?_
  · skip
    refine Cd.seq ?_
    refine Cd.region ?_
    refine Seq.val (Runs.move rfl rfl) rfl rfl rfl ?_
    refine Seq.val (Runs.geq rfl rfl rfl) rfl rfl rfl ?_
    refine Seq.nil ?_
    refine Post.weak (F' := [(0, _), (2, _), (14, _)]) ⟨rfl, rfl, rfl, trivial⟩ ?_
    refine Post.then_ ?_
    refine Cd.condD rfl (fun hc => ?_) (fun hc => ?_)
    · skip
      refine Cd.seq ?_
      refine Cd.region ?_
      refine Seq.val (Runs.move rfl rfl) rfl rfl rfl ?_
      refine Seq.val (Runs.shrL (s := 8) rfl rfl rfl rfl (by omega)) rfl rfl rfl ?_
      refine Seq.val (Runs.assign rfl rfl) rfl rfl rfl ?_
      refine Seq.nil ?_
      refine Post.weak (F' := [(0, _), (2, _), (14, _)]) ⟨rfl, rfl, rfl, trivial⟩ ?_
      refine Post.then_ ?_
      refine Cd.region ?_
      refine Seq.val (Runs.move rfl rfl) rfl rfl rfl ?_
      refine Seq.val (Runs.addI rfl rfl rfl (by omega) (by omega)) rfl rfl rfl ?_
      refine Seq.val (Runs.assign rfl rfl) rfl rfl rfl ?_
      refine Seq.nil ?_
      refine Post.weak (F' := [(0, _), (2, _), (14, _)]) ⟨rfl, rfl, rfl, trivial⟩ ?_
      exact Post.join (y / 2 ^ 8, m + 8) ⟨rfl, rfl, trivial⟩ ⟨rfl, by dsimp only; omega, by dsimp only; omega, fun n hn => by have := hlen _ (isLen_shift hn (by omega)); rwa [show n + 8 + m = n + (m + 8) from by omega] at this⟩
    · skip
      refine Cd.skip ?_
      exact Post.join (y, m) ⟨rfl, rfl, trivial⟩ ⟨rfl, by dsimp only; omega, by dsimp only; omega, hlen⟩
  rintro ⟨y, m⟩ wr ⟨rfl, hy, hm, hlen⟩
  dsimp only at hy hm hlen
  refine Cd.seq ?_
  refine Cd.region ?_
  refine Seq.val (Runs.move rfl rfl) rfl rfl rfl ?_
  refine Seq.val (Runs.move rfl rfl) rfl rfl rfl ?_
  refine Seq.val (Runs.convI rfl rfl Try.underlying62 Try.underlying5 (wrapB (by omega) (by omega))) rfl rfl rfl ?_
  obtain ⟨c, hc, hcl, hc8⟩ := tabOk_spec (s := _) (by kernel_rfl) (show y < 256 from hy)
  refine Seq.val (Runs.indexS rfl rfl rfl Try.underlying9 rfl hc) rfl rfl rfl ?_
  refine Seq.val (Runs.convI rfl rfl Try.underlying5 Try.underlying3 (wrapI (by omega) (by omega))) rfl rfl rfl ?_
  refine Seq.val (Runs.addI rfl rfl rfl (by omega) (by omega)) rfl rfl rfl ?_
  refine Seq.val (Runs.assign rfl rfl) rfl rfl rfl ?_
  refine Seq.nil ?_
  refine Post.weak (F' := [(0, _), (2, _)]) ⟨rfl, rfl, trivial⟩ ?_
  refine Post.then_ ?_
  refine Cd.ret ?_
  refine Post.end1 rfl rfl (.inl rfl) ?_
  exact ⟨c.toNat + m, ret1 (int_eq (by omega)), hlen _ hcl, by omega, rfl⟩
end Go.Proofs.Ytpdeihienkbeeaa

/-
  math/bits' Div64: what it answers. Condition: the high part is less than what it is divided by.
-/
import Derived.Test.YtpdeihienkbeeaaNumB
namespace Go.Proofs.Ytpdeihienkbeeaa
open Go.RowKit

/-! A digit of a quotient: un the part above, u1 the next digit, y1 and y0 the two of what it is divided by. -/
theorem mulY (B y1 y0 un qh rh : Nat) (h : qh * y1 + rh = un) : qh * (y1 * B + y0) + rh * B = un * B + qh * y0 := by
  have e1 : qh * (y1 * B + y0) = qh * y1 * B + qh * y0 := by rw [Nat.mul_add, Nat.mul_assoc]
  have e2 : un * B = qh * y1 * B + rh * B := by rw [← h, Nat.add_mul]
  omega
theorem knuth_more {B y1 y0 un u1 qh rh q y : Nat} (hB : 0 < B) (hy : y = y1 * B + y0) (hy0 : 0 < y) (hun : un < y) (hu1 : u1 < B) (hq : q = (un * B + u1) / y) (h : qh * y1 + rh = un) (hle : q ≤ qh) (hm : B ≤ qh ∨ B * rh + u1 < qh * y0) : q + 1 ≤ qh := by
  rcases hm with hm | hm
  · have h1 : un * B + u1 < y * B := by
      have : (un + 1) * B ≤ y * B := Nat.mul_le_mul_right _ hun
      rw [Nat.add_mul] at this
      omega
    have : q < B := by rw [hq]; exact Nat.div_lt_of_lt_mul h1
    omega
  · have e := mulY B y1 y0 un qh rh h
    rw [← hy] at e
    rw [Nat.mul_comm B rh] at hm
    have h2 : un * B + u1 < qh * y := by omega
    have : q < qh := by rw [hq]; exact Nat.div_lt_of_lt_mul (by rw [Nat.mul_comm y]; exact h2)
    omega
theorem knuth_stop {B y1 y0 un u1 qh rh q y : Nat} (hy : y = y1 * B + y0) (hy0 : 0 < y) (hq : q = (un * B + u1) / y) (h : qh * y1 + rh = un) (hle : q ≤ qh) (hm : qh * y0 ≤ B * rh + u1) : qh = q := by
  have e := mulY B y1 y0 un qh rh h
  rw [← hy] at e
  rw [Nat.mul_comm B rh] at hm
  have h2 : qh * y ≤ un * B + u1 := by omega
  have : qh ≤ q := by rw [hq]; exact (Nat.le_div_iff_mul_le hy0).2 h2
  omega
theorem knuth_brk {B y1 y0 un u1 qh rh q y : Nat} (hy : y = y1 * B + y0) (hy0 : 0 < y) (hb : y0 < B) (hq : q = (un * B + u1) / y) (h : qh * y1 + rh = un) (hle : q ≤ qh) (hr : B ≤ rh) (hqB : qh ≤ B) : qh = q := by
  refine knuth_stop hy hy0 hq h hle ?_
  have h1 : qh * y0 ≤ B * y0 := Nat.mul_le_mul_right _ hqB
  have h2 : B * y0 ≤ B * rh := Nat.mul_le_mul_left _ (by omega)
  omega
theorem knuth_start {B y1 y0 un u1 q y : Nat} (hB : 0 < B) (hy : y = y1 * B + y0) (hy1 : B ≤ 2 * y1) (hb : y0 < B) (hun : un < y) (hu1 : u1 < B) (hq : q = (un * B + u1) / y) : q ≤ un / y1 ∧ un / y1 ≤ B + 1 ∧ un / y1 * y1 + un % y1 = un := by
  have h0 : 0 < y1 := by omega
  refine ⟨?_, ?_, by rw [Nat.mul_comm]; exact Nat.div_add_mod un y1⟩
  · rw [Nat.le_div_iff_mul_le h0]
    have h1 : q * y ≤ un * B + u1 := by rw [hq]; exact Nat.div_mul_le_self _ _
    have h2 : q * y1 * B ≤ q * y := by rw [hy, Nat.mul_add, Nat.mul_assoc]; omega
    have h3 : q * y1 * B < (un + 1) * B := by rw [Nat.add_mul]; omega
    have := Nat.lt_of_mul_lt_mul_right h3
    omega
  · have h1 : un < (B + 2) * y1 := by
      rw [Nat.add_mul, Nat.mul_comm B y1]
      omega
    have := (Nat.div_lt_iff_lt_mul h0).2 h1
    omega
/-- Two digits. -/
theorem two_digits {B y un u1 u0 q1 r1 q0 r0 : Nat} (hy0 : 0 < y) (h1 : un * B + u1 = y * q1 + r1) (h2 : r1 * B + u0 = y * q0 + r0) (hr : r0 < y) : ((un * B + u1) * B + u0) / y = q1 * B + q0 ∧ ((un * B + u1) * B + u0) % y = r0 := by
  have e : (un * B + u1) * B + u0 = y * (q1 * B + q0) + r0 := by
    rw [h1, Nat.add_mul, Nat.mul_add, Nat.mul_assoc]
    omega
  rw [e]
  exact ⟨by rw [Nat.mul_add_div hy0, Nat.div_eq_of_lt hr]; omega, by rw [Nat.mul_add_mod, Nat.mod_eq_of_lt hr]⟩
/-- What is moved up. -/
theorem norm_eq (hi lo s : Nat) (hs : s ≤ 64) : (hi * 2 ^ s + lo / 2 ^ (64 - s)) * 18446744073709551616 + lo * 2 ^ s % 18446744073709551616 = (hi * 18446744073709551616 + lo) * 2 ^ s := by
  have e : (18446744073709551616 : Nat) = 2 ^ (64 - s) * 2 ^ s := by rw [← Nat.pow_add, show 64 - s + s = 64 from by omega]
  have e1 : lo * 2 ^ s / 18446744073709551616 = lo / 2 ^ (64 - s) := by rw [e, Nat.mul_div_mul_right _ _ (Nat.pos_of_ne_zero (by simp))]
  have e2 := Nat.div_add_mod (lo * 2 ^ s) 18446744073709551616
  rw [e1] at e2
  rw [Nat.add_mul, Nat.add_mul, Nat.mul_right_comm hi]
  omega

theorem leading_any (x : Nat) (w : World) (hx : x < 18446744073709551616) (h0 : 0 < x) :
    Calls Try.prog 69 #[.int .u64 (x : Int)] w fun e w' => ∃ s : Nat, e = .returned (.int .i64 (s : Int)) ∧ s ≤ 63 ∧ x * 2 ^ s < 18446744073709551616 ∧ 9223372036854775808 ≤ x * 2 ^ s ∧ w = w' := by
  refine Calls.start 6 Try.func69 rfl rfl rfl ?_
  refine Cd.seq ?_
  refine Cd.region ?_
  refine Seq.val (Runs.assign rfl rfl) rfl rfl rfl ?_
  refine Seq.nil ?_
  refine Post.weak (F' := [(0, _), (2, _)]) ⟨rfl, rfl, trivial⟩ ?_
  refine Post.then_ ?_
  refine Cd.seq ?_
  refine Cd.region ?_
  refine Seq.val (Runs.move rfl rfl) rfl rfl rfl ?_
  refine Seq.call (Enters.func rfl rfl rfl (run_enter Try.func73 (by kernel_rfl) rfl)) rfl rfl rfl (len64_any x _ hx) ?_
  rintro e w1 ⟨n, rfl, ⟨h1, h2⟩, hn, rfl⟩
  refine ⟨_, rfl, ?_⟩
  obtain ⟨h3, h4⟩ := h2 h0
  refine Seq.val (Runs.subI rfl rfl rfl (by omega) (by omega)) rfl rfl rfl ?_
  refine Seq.val (Runs.assign rfl rfl) rfl rfl rfl ?_
  refine Seq.nil ?_
  refine Post.weak (F' := [(0, _), (2, _)]) ⟨rfl, rfl, trivial⟩ ?_
  refine Post.then_ ?_
  refine Cd.ret ?_
  refine Post.end1 rfl rfl (.inl rfl) ?_
  refine ⟨64 - n, ret1 (int_eq (by omega)), by omega, ?_, ?_, rfl⟩
  · have : x * 2 ^ (64 - n) < 2 ^ n * 2 ^ (64 - n) := Nat.mul_lt_mul_of_pos_right h1 (Nat.pos_of_ne_zero (by simp))
    rw [← Nat.pow_add, show n + (64 - n) = 64 from by omega] at this
    exact this
  · have : 2 ^ (n - 1) * 2 ^ (64 - n) ≤ x * 2 ^ (64 - n) := Nat.mul_le_mul_right _ h4
    rw [← Nat.pow_add, show n - 1 + (64 - n) = 63 from by omega] at this
    exact this

theorem hall_eq (un u1 u0 L : Nat) (h : L = u1 * 4294967296 + u0) : (un * 4294967296 + u1) * 4294967296 + u0 = un * 18446744073709551616 + L := by omega
theorem div64_any (hi lo y : Nat) (w : World) (hlo : lo < 18446744073709551616) (hy : y < 18446744073709551616) (hlt : hi < y) :
    Calls Try.prog 49 #[.int .u64 (hi : Int), .int .u64 (lo : Int), .int .u64 (y : Int)] w fun e w' =>
      e = .returned (.tuple #[.int .u64 (((hi * 18446744073709551616 + lo) / y : Nat) : Int), .int .u64 (((hi * 18446744073709551616 + lo) % y : Nat) : Int)]) ∧ Grow w w' := by
  have hy0 : 0 < y := by omega
  have bel := Below.refl w.heap.size w
  refine Calls.start 135 Try.func49 rfl rfl rfl ?_
  refine Cd.seq ?_
  refine Cd.region ?_
  refine Seq.val (Runs.assign rfl rfl) rfl rfl rfl ?_
  refine Seq.val (Runs.assign rfl rfl) rfl rfl rfl ?_
  refine Seq.nil ?_
  refine Post.weak (F' := [(0, _), (1, _), (2, _), (6, _), (7, _)]) ⟨rfl, rfl, rfl, rfl, rfl, trivial⟩ ?_
  refine Post.then_ ?_
  refine Cd.seq ?_
  refine Cd.seq ?_
  refine Cd.region ?_
  refine Seq.val (Runs.move rfl rfl) rfl rfl rfl ?_
  refine Seq.val (Runs.eqlI rfl rfl rfl) rfl rfl rfl ?_
  refine Seq.nil ?_
  refine Post.weak (F' := [(0, _), (1, _), (2, _), (6, _), (7, _), (20, _)]) ⟨rfl, rfl, rfl, rfl, rfl, rfl, trivial⟩ ?_
  refine Post.then_ ?_
  refine Cd.condF rfl (decide_eq_false (by omega)) ?_
  refine Cd.skip ?_
  refine Post.then_ ?_
  refine Cd.seq ?_
  refine Cd.seq ?_
  refine Cd.region ?_
  refine Seq.val (Runs.move rfl rfl) rfl rfl rfl ?_
  refine Seq.val (Runs.move rfl rfl) rfl rfl rfl ?_
  refine Seq.val (Runs.leq rfl rfl rfl) rfl rfl rfl ?_
  refine Seq.nil ?_
  refine Post.weak (F' := [(0, _), (1, _), (2, _), (6, _), (7, _), (20, _), (24, _)]) ⟨rfl, rfl, rfl, rfl, rfl, rfl, rfl, trivial⟩ ?_
  refine Post.then_ ?_
  refine Cd.condF rfl (decide_eq_false (by omega)) ?_
  by_cases hh : hi = 0
  · subst hh
    refine Cd.skip ?_
    refine Post.then_ ?_
    refine Cd.seq ?_
    refine Cd.seq ?_
    refine Cd.region ?_
    refine Seq.val (Runs.move rfl rfl) rfl rfl rfl ?_
    refine Seq.val (Runs.eqlI rfl rfl rfl) rfl rfl rfl ?_
    refine Seq.nil ?_
    refine Post.weak (F' := [(0, _), (1, _), (2, _), (6, _), (7, _), (20, _), (24, _), (27, _)]) ⟨rfl, rfl, rfl, rfl, rfl, rfl, rfl, rfl, trivial⟩ ?_
    refine Post.then_ ?_
    refine Cd.condT rfl (decide_eq_true rfl) ?_
    refine Cd.seq ?_
    refine Cd.draw 6 (by kernel_rfl) [3, 4, 5] (.inr (fun _ _ d _ _ h => by cases d <;> exact h)) rfl Grow Grow.refl (fun _ _ _ => Grow.trans) ?_
    intro w1 hw1 zw1
    replace bel := bel.step hw1
    have zbel := bel.size
    refine Dr.val Grow.refl rfl (fun w hG => Runs.move rfl rfl) rfl ?_
    refine Dr.val Grow.refl rfl (fun w hG => Runs.move rfl rfl) rfl ?_
    refine Dr.val Grow.refl rfl (fun w hG => Runs.quoU rfl rfl rfl (by omega) (by omega) (by omega)) rfl ?_
    refine Dr.late rfl rfl (fun w => Runs.move rfl rfl) Grow.refl rfl ?_
    refine Dr.late rfl rfl (fun w => Runs.move rfl rfl) Grow.refl rfl ?_
    refine Dr.late rfl rfl (fun w => Runs.remN rfl rfl rfl (by omega) (by omega)) Grow.refl rfl ?_
    refine Dr.nil ?_
    refine FinX.done (F' := [(0, _), (1, _), (2, _), (6, _), (7, _), (20, _), (24, _), (27, _), (30, _), (33, _)]) rfl ⟨rfl, rfl, rfl, rfl, rfl, rfl, rfl, rfl, rfl, rfl, trivial⟩ ?_
    intro w2 hw2 fw2
    replace bel := bel.step hw2
    refine Seq.val (Runs.assign rfl rfl) rfl rfl rfl ?_
    refine Seq.val (Runs.assign rfl rfl) rfl rfl rfl ?_
    refine Seq.nil ?_
    refine Post.weak (F' := [(0, _), (1, _), (2, _), (6, _), (7, _), (20, _), (24, _), (27, _)]) ⟨rfl, rfl, rfl, rfl, rfl, rfl, rfl, rfl, trivial⟩ ?_
    refine Post.then_ ?_
    refine Cd.ret ?_
    refine Post.then_ret ?_
    refine Post.end2 rfl rfl rfl (.inl rfl) ?_
    rw [Nat.zero_mul, Nat.zero_add, Int.natCast_ediv, Int.natCast_emod]
    exact ⟨rfl, bel⟩
  refine Cd.skip ?_
  refine Post.then_ ?_
  refine Cd.seq ?_
  refine Cd.seq ?_
  refine Cd.region ?_
  refine Seq.val (Runs.move rfl rfl) rfl rfl rfl ?_
  refine Seq.val (Runs.eqlI rfl rfl rfl) rfl rfl rfl ?_
  refine Seq.nil ?_
  refine Post.weak (F' := [(0, _), (1, _), (2, _), (6, _), (7, _), (20, _), (24, _), (27, _)]) ⟨rfl, rfl, rfl, rfl, rfl, rfl, rfl, rfl, trivial⟩ ?_
  refine Post.then_ ?_
  refine Cd.condF rfl (decide_eq_false (by omega)) ?_
  refine Cd.skip ?_
  refine Post.then_ ?_
  refine Cd.seq ?_
  refine Cd.region ?_
  refine Seq.val (Runs.move rfl rfl) rfl rfl rfl ?_
  refine Seq.call (Enters.func rfl rfl rfl (run_enter Try.func69 (by kernel_rfl) rfl)) rfl rfl rfl (leading_any y _ hy hy0) ?_
  rintro e w7 ⟨s, rfl, hs, hys, hyl, rfl⟩
  refine ⟨_, rfl, ?_⟩
  refine Seq.val (Runs.convI rfl rfl Try.underlying3 Try.underlying71 (r := (s : Int)) (by rw [wrap_u64]; omega)) rfl rfl rfl ?_
  refine Seq.val (Runs.assign rfl rfl) rfl rfl rfl ?_
  refine Seq.nil ?_
  refine Post.weak (F' := [(0, _), (1, _), (2, _), (6, _), (7, _), (8, _), (20, _), (24, _), (27, _)]) ⟨rfl, rfl, rfl, rfl, rfl, rfl, rfl, rfl, rfl, trivial⟩ ?_
  refine Post.then_ ?_
  refine Cd.seq ?_
  refine Cd.region ?_
  refine Seq.val (Runs.move rfl rfl) rfl rfl rfl ?_
  refine Seq.val (Runs.move rfl rfl) rfl rfl rfl ?_
  refine Seq.val (Runs.shlL (s := s) rfl rfl rfl rfl (by omega) hys) rfl rfl rfl ?_
  have hp2 : 0 < 2 ^ s := Nat.pos_of_ne_zero (by simp)
  have hhi : hi * 2 ^ s + 2 ^ s ≤ y * 2 ^ s := by
    have := Nat.mul_le_mul_right (2 ^ s) (show hi + 1 ≤ y from hlt)
    rw [Nat.add_mul] at this
    omega
  have hls : lo / 2 ^ (64 - s) < 2 ^ s := by
    refine Nat.div_lt_of_lt_mul ?_
    rw [← Nat.pow_add, show 64 - s + s = 64 from by omega]
    exact hlo
  have hnorm := norm_eq hi lo s (by omega)
  have hfin1 : (hi * 18446744073709551616 + lo) * 2 ^ s / (y * 2 ^ s) = (hi * 18446744073709551616 + lo) / y := Nat.mul_div_mul_right _ _ hp2
  have hfin2 : (hi * 18446744073709551616 + lo) * 2 ^ s % (y * 2 ^ s) = (hi * 18446744073709551616 + lo) % y * 2 ^ s := Nat.mul_mod_mul_right _ _ _
  rw [← hnorm] at hfin1 hfin2
  refine Seq.val (Runs.assign rfl rfl) rfl rfl rfl ?_
  refine Seq.nil ?_
  refine Post.weak (F' := [(0, _), (1, _), (2, _), (6, _), (7, _), (8, _), (20, _), (24, _), (27, _)]) ⟨rfl, rfl, rfl, rfl, rfl, rfl, rfl, rfl, rfl, trivial⟩ ?_
  refine Post.then_ ?_
  refine Cd.seq ?_
  refine Cd.region ?_
  refine Seq.val (Runs.move rfl rfl) rfl rfl rfl ?_
  refine Seq.val (Runs.shrL (s := 32) rfl rfl rfl rfl (by omega)) rfl rfl rfl ?_
  refine Seq.val (Runs.assign rfl rfl) rfl rfl rfl ?_
  refine Seq.nil ?_
  refine Post.weak (F' := [(0, _), (1, _), (2, _), (6, _), (7, _), (8, _), (9, _), (20, _), (24, _), (27, _)]) ⟨rfl, rfl, rfl, rfl, rfl, rfl, rfl, rfl, rfl, rfl, trivial⟩ ?_
  refine Post.then_ ?_
  refine Cd.seq ?_
  refine Cd.region ?_
  refine Seq.val (Runs.move rfl rfl) rfl rfl rfl ?_
  refine Seq.val (Runs.maskU (m := 4294967295) 32 rfl rfl rfl (by decide) hys (by omega)) rfl rfl rfl ?_
  refine Seq.val (Runs.assign rfl rfl) rfl rfl rfl ?_
  refine Seq.nil ?_
  refine Post.weak (F' := [(0, _), (1, _), (2, _), (6, _), (7, _), (8, _), (9, _), (10, _), (20, _), (24, _), (27, _)]) ⟨rfl, rfl, rfl, rfl, rfl, rfl, rfl, rfl, rfl, rfl, rfl, trivial⟩ ?_
  refine Post.then_ ?_
  refine Cd.seq ?_
  refine Cd.region ?_
  refine Seq.val (Runs.move rfl rfl) rfl rfl rfl ?_
  refine Seq.val (Runs.move rfl rfl) rfl rfl rfl ?_
  refine Seq.val (Runs.shlL (s := s) rfl rfl rfl rfl (by omega) (by omega)) rfl rfl rfl ?_
  refine Seq.val (Runs.move rfl rfl) rfl rfl rfl ?_
  refine Seq.val (Runs.move rfl rfl) rfl rfl rfl ?_
  refine Seq.val (Runs.subU rfl rfl rfl (by omega) (by omega)) rfl rfl rfl ?_
  refine Seq.val (Runs.shrL (s := 64 - s) rfl rfl rfl (by omega) (by omega)) rfl rfl rfl ?_
  refine Seq.val (Runs.orU (h := hi) (s := s) rfl rfl rfl rfl hls (by omega) (by omega)) rfl rfl rfl ?_
  refine Seq.val (Runs.assign rfl rfl) rfl rfl rfl ?_
  refine Seq.nil ?_
  refine Post.weak (F' := [(0, _), (1, _), (2, _), (6, _), (7, _), (8, _), (9, _), (10, _), (11, _), (20, _), (24, _), (27, _)]) ⟨rfl, rfl, rfl, rfl, rfl, rfl, rfl, rfl, rfl, rfl, rfl, rfl, trivial⟩ ?_
  refine Post.then_ ?_
  refine Cd.seq ?_
  refine Cd.region ?_
  refine Seq.val (Runs.move rfl rfl) rfl rfl rfl ?_
  refine Seq.val (Runs.move rfl rfl) rfl rfl rfl ?_
  refine Seq.val (Runs.shlM (s := s) rfl rfl rfl rfl (by omega)) rfl rfl rfl ?_
  refine Seq.val (Runs.assign rfl rfl) rfl rfl rfl ?_
  refine Seq.nil ?_
  refine Post.weak (F' := [(0, _), (1, _), (2, _), (6, _), (7, _), (8, _), (9, _), (10, _), (11, _), (12, _), (20, _), (24, _), (27, _)]) ⟨rfl, rfl, rfl, rfl, rfl, rfl, rfl, rfl, rfl, rfl, rfl, rfl, rfl, trivial⟩ ?_
  refine Post.then_ ?_
  refine Cd.seq ?_
  refine Cd.region ?_
  refine Seq.val (Runs.move rfl rfl) rfl rfl rfl ?_
  refine Seq.val (Runs.shrL (s := 32) rfl rfl rfl rfl (by omega)) rfl rfl rfl ?_
  refine Seq.val (Runs.assign rfl rfl) rfl rfl rfl ?_
  refine Seq.nil ?_
  refine Post.weak (F' := [(0, _), (1, _), (2, _), (6, _), (7, _), (8, _), (9, _), (10, _), (11, _), (12, _), (13, _), (20, _), (24, _), (27, _)]) ⟨rfl, rfl, rfl, rfl, rfl, rfl, rfl, rfl, rfl, rfl, rfl, rfl, rfl, rfl, trivial⟩ ?_
  refine Post.then_ ?_
  refine Cd.seq ?_
  refine Cd.region ?_
  refine Seq.val (Runs.move rfl rfl) rfl rfl rfl ?_
  refine Seq.val (Runs.maskU (m := 4294967295) 32 rfl rfl rfl (by decide) (Nat.mod_lt _ (by omega)) (by omega)) rfl rfl rfl ?_
  refine Seq.val (Runs.assign rfl rfl) rfl rfl rfl ?_
  refine Seq.nil ?_
  refine Post.weak (F' := [(0, _), (1, _), (2, _), (6, _), (7, _), (8, _), (9, _), (10, _), (11, _), (12, _), (13, _), (14, _), (20, _), (24, _), (27, _)]) ⟨rfl, rfl, rfl, rfl, rfl, rfl, rfl, rfl, rfl, rfl, rfl, rfl, rfl, rfl, rfl, trivial⟩ ?_
  refine Post.then_ ?_
  refine Cd.seq ?_
  refine Cd.region ?_
  refine Seq.val (Runs.move rfl rfl) rfl rfl rfl ?_
  refine Seq.val (Runs.move rfl rfl) rfl rfl rfl ?_
  generalize hY : y * 2 ^ s = Y at *
  generalize hun : hi * 2 ^ s + lo / 2 ^ (64 - s) = un at *
  generalize hlo2 : lo * 2 ^ s % 18446744073709551616 = L at *
  have hL : L < 18446744073709551616 := by rw [← hlo2]; exact Nat.mod_lt _ (by omega)
  have hunY : un < Y := by omega
  have hYe : Y = Y / 2 ^ 32 * 4294967296 + Y % 2 ^ 32 := by omega
  have hLe : L = L / 2 ^ 32 * 4294967296 + L % 2 ^ 32 := by omega
  have b1 : 2147483648 ≤ Y / 2 ^ 32 := by omega
  have b1' : Y / 2 ^ 32 < 4294967296 := by omega
  have b0 : Y % 2 ^ 32 < 4294967296 := by omega
  have c1 : L / 2 ^ 32 < 4294967296 := by omega
  have c0 : L % 2 ^ 32 < 4294967296 := by omega
  generalize Y / 2 ^ 32 = y1 at *
  generalize Y % 2 ^ 32 = y0 at *
  generalize L / 2 ^ 32 = u1 at *
  generalize L % 2 ^ 32 = u0 at *
  obtain ⟨q1, hq1⟩ : ∃ q1, q1 = (un * 4294967296 + u1) / Y := ⟨_, rfl⟩
  have hks := knuth_start (by omega) hYe (by omega) b0 hunY c1 hq1
  have hdm := Nat.div_mul_le_self un y1
  have hrm := Nat.mod_lt un (show 0 < y1 by omega)
  refine Seq.val (Runs.quoNU rfl rfl rfl (by omega) (by omega)) rfl rfl rfl ?_
  refine Seq.val (Runs.assign rfl rfl) rfl rfl rfl ?_
  refine Seq.nil ?_
  refine Post.weak (F' := [(0, _), (1, _), (2, _), (6, _), (7, _), (8, _), (9, _), (10, _), (11, _), (12, _), (13, _), (14, _), (15, _), (20, _), (24, _), (27, _)]) ⟨rfl, rfl, rfl, rfl, rfl, rfl, rfl, rfl, rfl, rfl, rfl, rfl, rfl, rfl, rfl, rfl, trivial⟩ ?_
  refine Post.then_ ?_
  refine Cd.seq ?_
  refine Cd.region ?_
  refine Seq.val (Runs.move rfl rfl) rfl rfl rfl ?_
  refine Seq.val (Runs.move rfl rfl) rfl rfl rfl ?_
  refine Seq.val (Runs.move rfl rfl) rfl rfl rfl ?_
  refine Seq.val (Runs.mulLU rfl rfl rfl (by omega)) rfl rfl rfl ?_
  refine Seq.val (Runs.subLU rfl rfl rfl hdm (by omega)) rfl rfl rfl ?_
  refine Seq.val (Runs.assign rfl rfl) rfl rfl rfl ?_
  refine Seq.nil ?_
  refine Post.weak (F' := [(0, _), (1, _), (2, _), (6, _), (7, _), (8, _), (9, _), (10, _), (11, _), (12, _), (13, _), (14, _), (15, _), (16, _), (20, _), (24, _), (27, _)]) ⟨rfl, rfl, rfl, rfl, rfl, rfl, rfl, rfl, rfl, rfl, rfl, rfl, rfl, rfl, rfl, rfl, rfl, trivial⟩ ?_
  refine Post.then_ ?_
  refine Cd.seqJ (σ := Unit) (fun _ => [(2, .int .u64 (Y : Int)), (8, .int .u64 (s : Int)), (9, .int .u64 (y1 : Int)), (10, .int .u64 (y0 : Int)), (14, .int .u64 (u0 : Int)), (11, .int .u64 (un : Int)), (13, .int .u64 (u1 : Int)), (15, .int .u64 (q1 : Int))]) (fun _ wr => Below w.heap.size w wr) ?_ ?_
  · skip
    refine Cd.block ?_
    refine Cd.loop (σ := Nat × Nat) (fun t => [(2, .int .u64 (Y : Int)), (8, .int .u64 (s : Int)), (9, .int .u64 (y1 : Int)), (10, .int .u64 (y0 : Int)), (14, .int .u64 (u0 : Int)), (11, .int .u64 (un : Int)), (13, .int .u64 (u1 : Int)), (15, .int .u64 (t.1 : Int)), (16, .int .u64 (t.2 : Int))]) (fun t wr => t.1 * y1 + t.2 = un ∧ q1 ≤ t.1 ∧ t.1 ≤ 4294967297 ∧ t.2 < 4294967296 ∧ Below w.heap.size w wr)
      (fun t => t.1) (un / y1, un - un / y1 * y1) ⟨by dsimp only; omega, hks.1, hks.2.1, by dsimp only; omega, bel⟩ ⟨rfl, rfl, rfl, rfl, rfl, rfl, rfl, rfl, rfl, trivial⟩ ?_
    clear bel
    rintro ⟨qh, rh⟩ wr ⟨hqr, hqle, hqB, hrB, bel⟩
    dsimp only at hqr hqle hqB hrB bel ⊢
    refine Cd.seqJ (σ := Unit) (fun _ => [(2, .int .u64 (Y : Int)), (8, .int .u64 (s : Int)), (9, .int .u64 (y1 : Int)), (10, .int .u64 (y0 : Int)), (14, .int .u64 (u0 : Int)), (11, .int .u64 (un : Int)), (13, .int .u64 (u1 : Int)), (15, .int .u64 (qh : Int)), (16, .int .u64 (rh : Int))]) (fun _ wr => Below w.heap.size w wr ∧ q1 + 1 ≤ qh) ?_ ?_
    · skip
      refine Cd.seq ?_
      by_cases hge : 4294967296 ≤ qh
      · skip
        refine Cd.region ?_
        refine Seq.val (Runs.move rfl rfl) rfl rfl rfl ?_
        refine Seq.val ((Runs.geq rfl rfl rfl).isT (by omega)) rfl rfl rfl ?_
        refine Seq.val (Runs.move rfl rfl) rfl rfl rfl ?_
        refine Seq.skipG rfl rfl rfl rfl rfl rfl ?_
        refine Seq.skipG rfl rfl rfl rfl rfl rfl ?_
        refine Seq.skipG rfl rfl rfl rfl rfl rfl ?_
        refine Seq.skipG rfl rfl rfl rfl rfl rfl ?_
        refine Seq.skipG rfl rfl rfl rfl rfl rfl ?_
        refine Seq.skipG rfl rfl rfl rfl rfl rfl ?_
        refine Seq.skipG rfl rfl rfl rfl rfl rfl ?_
        refine Seq.skipG rfl rfl rfl rfl rfl rfl ?_
        refine Seq.val (Runs.pickT rfl rfl rfl) rfl rfl rfl ?_
        refine Seq.nil ?_
        refine Post.weak (F' := [(2, _), (8, _), (9, _), (10, _), (11, _), (13, _), (14, _), (15, _), (16, _), (78, _)]) ⟨rfl, rfl, rfl, rfl, rfl, rfl, rfl, rfl, rfl, rfl, trivial⟩ ?_
        refine Post.then_ ?_
        refine Cd.condT rfl rfl ?_
        refine Cd.skip ?_
        exact Post.join () ⟨rfl, rfl, rfl, rfl, rfl, rfl, rfl, rfl, rfl, trivial⟩ ⟨bel, knuth_more (by omega) hYe (by omega) hunY c1 hq1 hqr hqle (.inl hge)⟩
      · have hpr : qh * y0 ≤ 4294967295 * 4294967295 := Nat.mul_le_mul (by omega) (by omega)
        refine Cd.region ?_
        refine Seq.val (Runs.move rfl rfl) rfl rfl rfl ?_
        refine Seq.val ((Runs.geq rfl rfl rfl).isF (by omega)) rfl rfl rfl ?_
        refine Seq.val (Runs.move rfl rfl) rfl rfl rfl ?_
        refine Seq.valG (Runs.move rfl rfl) rfl rfl rfl rfl rfl ?_
        refine Seq.valG (Runs.move rfl rfl) rfl rfl rfl rfl rfl ?_
        refine Seq.valG (Runs.mulLU rfl rfl rfl (by omega)) rfl rfl rfl rfl rfl ?_
        refine Seq.valG (Runs.move rfl rfl) rfl rfl rfl rfl rfl ?_
        refine Seq.valG (Runs.mulLU (a := 4294967296) rfl rfl rfl (by omega)) rfl rfl rfl rfl rfl ?_
        refine Seq.valG (Runs.move rfl rfl) rfl rfl rfl rfl rfl ?_
        refine Seq.valG (Runs.addLU rfl rfl rfl (by omega)) rfl rfl rfl rfl rfl ?_
        refine Seq.valG (Runs.gtr rfl rfl rfl) rfl rfl rfl rfl rfl ?_
        refine Seq.val (Runs.pickF rfl rfl rfl) rfl rfl rfl ?_
        refine Seq.nil ?_
        refine Post.weak (F' := [(2, _), (8, _), (9, _), (10, _), (11, _), (13, _), (14, _), (15, _), (16, _), (78, _)]) ⟨rfl, rfl, rfl, rfl, rfl, rfl, rfl, rfl, rfl, rfl, trivial⟩ ?_
        refine Post.then_ ?_
        refine Cd.condD rfl (fun hc => ?_) (fun hc => ?_)
        · have hm := Int.ofNat_lt.1 hc
          refine Cd.skip ?_
          exact Post.join () ⟨rfl, rfl, rfl, rfl, rfl, rfl, rfl, rfl, rfl, trivial⟩ ⟨bel, knuth_more (by omega) hYe (by omega) hunY c1 hq1 hqr hqle (.inr hm)⟩
        · have hm := Nat.le_of_not_lt (mt Int.ofNat_lt.2 hc)
          have heq := knuth_stop hYe (by omega) hq1 hqr hqle hm
          subst heq
          refine Cd.exit ?_
          refine Post.then_exit ?_
          refine Post.round_exit ?_
          refine Post.block_exit ?_
          exact Post.join () ⟨rfl, rfl, rfl, rfl, rfl, rfl, rfl, rfl, trivial⟩ bel
    rintro ⟨⟩ wr2 ⟨bel, hmore⟩
    refine Cd.block ?_
    refine Cd.seq ?_
    refine Cd.region ?_
    refine Seq.val (Runs.move rfl rfl) rfl rfl rfl ?_
    refine Seq.val (Runs.subLU (b := 1) rfl rfl rfl (by omega) (by omega)) rfl rfl rfl ?_
    refine Seq.val (Runs.assign rfl rfl) rfl rfl rfl ?_
    refine Seq.nil ?_
    refine Post.weak (F' := [(2, _), (8, _), (9, _), (10, _), (11, _), (13, _), (14, _), (15, _), (16, _)]) ⟨rfl, rfl, rfl, rfl, rfl, rfl, rfl, rfl, rfl, trivial⟩ ?_
    refine Post.then_ ?_
    refine Cd.seq ?_
    refine Cd.region ?_
    refine Seq.val (Runs.move rfl rfl) rfl rfl rfl ?_
    refine Seq.val (Runs.move rfl rfl) rfl rfl rfl ?_
    refine Seq.val (Runs.addLU rfl rfl rfl (by omega)) rfl rfl rfl ?_
    refine Seq.val (Runs.assign rfl rfl) rfl rfl rfl ?_
    refine Seq.nil ?_
    refine Post.weak (F' := [(2, _), (8, _), (9, _), (10, _), (11, _), (13, _), (14, _), (15, _), (16, _)]) ⟨rfl, rfl, rfl, rfl, rfl, rfl, rfl, rfl, rfl, trivial⟩ ?_
    refine Post.then_ ?_
    refine Cd.seq ?_
    refine Cd.region ?_
    refine Seq.val (Runs.move rfl rfl) rfl rfl rfl ?_
    refine Seq.val (Runs.geq rfl rfl rfl) rfl rfl rfl ?_
    refine Seq.nil ?_
    refine Post.weak (F' := [(2, _), (8, _), (9, _), (10, _), (11, _), (13, _), (14, _), (15, _), (16, _), (85, _)]) ⟨rfl, rfl, rfl, rfl, rfl, rfl, rfl, rfl, rfl, rfl, trivial⟩ ?_
    refine Post.then_ ?_
    have hqr2 : (qh - 1) * y1 + (rh + y1) = un := by
      obtain ⟨z, rfl⟩ : ∃ z, qh = z + 1 := ⟨qh - 1, by omega⟩
      rw [Nat.add_mul] at hqr
      rw [Nat.add_sub_cancel]
      omega
    refine Cd.condD rfl (fun hc => ?_) (fun hc => ?_)
    · have heq := knuth_brk hYe (by omega) b0 hq1 hqr2 (by omega) (by omega) (by omega)
      refine Cd.exit ?_
      refine Post.block_other rfl ?_
      refine Post.round_exit ?_
      refine Post.block_exit ?_
      rw [heq]
      exact Post.join () ⟨rfl, rfl, rfl, rfl, rfl, rfl, rfl, rfl, trivial⟩ bel
    · skip
      refine Cd.skip ?_
      refine Post.block_normal ?_
      exact Post.round (qh - 1, rh + y1) ⟨rfl, rfl, rfl, rfl, rfl, rfl, rfl, rfl, rfl, trivial⟩ ⟨hqr2, by dsimp only; omega, by dsimp only; omega, by dsimp only; omega, bel⟩ (by dsimp only; omega)
  clear bel
  rintro ⟨⟩ wr bel
  have hmod := Nat.div_add_mod (un * 4294967296 + u1) Y
  rw [← hq1] at hmod
  obtain ⟨r1, hr1⟩ : ∃ r1, r1 = (un * 4294967296 + u1) % Y := ⟨_, rfl⟩
  rw [← hr1] at hmod
  have hr1Y : r1 < Y := by rw [hr1]; exact Nat.mod_lt _ (by omega)
  have hmod' : un * 4294967296 + u1 = q1 * Y + r1 := by rw [Nat.mul_comm q1]; exact hmod.symm
  obtain ⟨q0, hq0⟩ : ∃ q0, q0 = (r1 * 4294967296 + u0) / Y := ⟨_, rfl⟩
  have hks := knuth_start (by omega) hYe (by omega) b0 hr1Y c0 hq0
  have hdm := Nat.div_mul_le_self r1 y1
  have hrm := Nat.mod_lt r1 (show 0 < y1 by omega)
  refine Cd.seq ?_
  refine Cd.region ?_
  refine Seq.val (Runs.move rfl rfl) rfl rfl rfl ?_
  refine Seq.val (Runs.mulMU (b := 4294967296) rfl rfl rfl) rfl rfl rfl ?_
  refine Seq.val (Runs.move rfl rfl) rfl rfl rfl ?_
  refine Seq.val (Runs.addMU rfl rfl rfl) rfl rfl rfl ?_
  refine Seq.val (Runs.move rfl rfl) rfl rfl rfl ?_
  refine Seq.val (Runs.move rfl rfl) rfl rfl rfl ?_
  refine Seq.val (Runs.mulMU rfl rfl rfl) rfl rfl rfl ?_
  refine Seq.val ((Runs.subMU rfl rfl rfl (by omega)).cast (v' := .int .u64 (r1 : Int)) (int_eq (Int.ofNat_inj.2 (by omega)))) rfl rfl rfl ?_
  refine Seq.val (Runs.assign rfl rfl) rfl rfl rfl ?_
  refine Seq.nil ?_
  refine Post.weak (F' := [(2, _), (8, _), (9, _), (10, _), (11, _), (13, _), (14, _), (15, _), (17, _)]) ⟨rfl, rfl, rfl, rfl, rfl, rfl, rfl, rfl, rfl, trivial⟩ ?_
  refine Post.then_ ?_
  refine Cd.seq ?_
  refine Cd.region ?_
  refine Seq.val (Runs.move rfl rfl) rfl rfl rfl ?_
  refine Seq.val (Runs.move rfl rfl) rfl rfl rfl ?_
  refine Seq.val (Runs.quoNU rfl rfl rfl (by omega) (by omega)) rfl rfl rfl ?_
  refine Seq.val (Runs.assign rfl rfl) rfl rfl rfl ?_
  refine Seq.nil ?_
  refine Post.weak (F' := [(2, _), (8, _), (9, _), (10, _), (11, _), (13, _), (14, _), (15, _), (17, _), (18, _)]) ⟨rfl, rfl, rfl, rfl, rfl, rfl, rfl, rfl, rfl, rfl, trivial⟩ ?_
  refine Post.then_ ?_
  refine Cd.seq ?_
  refine Cd.region ?_
  refine Seq.val (Runs.move rfl rfl) rfl rfl rfl ?_
  refine Seq.val (Runs.move rfl rfl) rfl rfl rfl ?_
  refine Seq.val (Runs.move rfl rfl) rfl rfl rfl ?_
  refine Seq.val (Runs.mulLU rfl rfl rfl (by omega)) rfl rfl rfl ?_
  refine Seq.val (Runs.subLU rfl rfl rfl hdm (by omega)) rfl rfl rfl ?_
  refine Seq.val (Runs.assign rfl rfl) rfl rfl rfl ?_
  refine Seq.nil ?_
  refine Post.weak (F' := [(2, _), (8, _), (9, _), (10, _), (11, _), (13, _), (14, _), (15, _), (16, _), (17, _), (18, _)]) ⟨rfl, rfl, rfl, rfl, rfl, rfl, rfl, rfl, rfl, rfl, rfl, trivial⟩ ?_
  refine Post.then_ ?_
  refine Cd.seqJ (σ := Unit) (fun _ => [(2, .int .u64 (Y : Int)), (8, .int .u64 (s : Int)), (9, .int .u64 (y1 : Int)), (10, .int .u64 (y0 : Int)), (14, .int .u64 (u0 : Int)), (15, .int .u64 (q1 : Int)), (17, .int .u64 (r1 : Int)), (18, .int .u64 (q0 : Int))]) (fun _ wr => Below w.heap.size w wr) ?_ ?_
  · skip
    refine Cd.block ?_
    refine Cd.loop (σ := Nat × Nat) (fun t => [(2, .int .u64 (Y : Int)), (8, .int .u64 (s : Int)), (9, .int .u64 (y1 : Int)), (10, .int .u64 (y0 : Int)), (14, .int .u64 (u0 : Int)), (15, .int .u64 (q1 : Int)), (17, .int .u64 (r1 : Int)), (18, .int .u64 (t.1 : Int)), (16, .int .u64 (t.2 : Int))]) (fun t wr => t.1 * y1 + t.2 = r1 ∧ q0 ≤ t.1 ∧ t.1 ≤ 4294967297 ∧ t.2 < 4294967296 ∧ Below w.heap.size w wr)
      (fun t => t.1) (r1 / y1, r1 - r1 / y1 * y1) ⟨by dsimp only; omega, hks.1, hks.2.1, by dsimp only; omega, bel⟩ ⟨rfl, rfl, rfl, rfl, rfl, rfl, rfl, rfl, rfl, trivial⟩ ?_
    clear bel
    rintro ⟨qh, rh⟩ wr ⟨hqr, hqle, hqB, hrB, bel⟩
    dsimp only at hqr hqle hqB hrB bel ⊢
    refine Cd.seqJ (σ := Unit) (fun _ => [(2, .int .u64 (Y : Int)), (8, .int .u64 (s : Int)), (9, .int .u64 (y1 : Int)), (10, .int .u64 (y0 : Int)), (14, .int .u64 (u0 : Int)), (15, .int .u64 (q1 : Int)), (17, .int .u64 (r1 : Int)), (18, .int .u64 (qh : Int)), (16, .int .u64 (rh : Int))]) (fun _ wr => Below w.heap.size w wr ∧ q0 + 1 ≤ qh) ?_ ?_
    · skip
      refine Cd.seq ?_
      by_cases hge : 4294967296 ≤ qh
      · skip
        refine Cd.region ?_
        refine Seq.val (Runs.move rfl rfl) rfl rfl rfl ?_
        refine Seq.val ((Runs.geq rfl rfl rfl).isT (by omega)) rfl rfl rfl ?_
        refine Seq.val (Runs.move rfl rfl) rfl rfl rfl ?_
        refine Seq.skipG rfl rfl rfl rfl rfl rfl ?_
        refine Seq.skipG rfl rfl rfl rfl rfl rfl ?_
        refine Seq.skipG rfl rfl rfl rfl rfl rfl ?_
        refine Seq.skipG rfl rfl rfl rfl rfl rfl ?_
        refine Seq.skipG rfl rfl rfl rfl rfl rfl ?_
        refine Seq.skipG rfl rfl rfl rfl rfl rfl ?_
        refine Seq.skipG rfl rfl rfl rfl rfl rfl ?_
        refine Seq.skipG rfl rfl rfl rfl rfl rfl ?_
        refine Seq.val (Runs.pickT rfl rfl rfl) rfl rfl rfl ?_
        refine Seq.nil ?_
        refine Post.weak (F' := [(2, _), (8, _), (9, _), (10, _), (14, _), (15, _), (16, _), (17, _), (18, _), (113, _)]) ⟨rfl, rfl, rfl, rfl, rfl, rfl, rfl, rfl, rfl, rfl, trivial⟩ ?_
        refine Post.then_ ?_
        refine Cd.condT rfl rfl ?_
        refine Cd.skip ?_
        exact Post.join () ⟨rfl, rfl, rfl, rfl, rfl, rfl, rfl, rfl, rfl, trivial⟩ ⟨bel, knuth_more (by omega) hYe (by omega) hr1Y c0 hq0 hqr hqle (.inl hge)⟩
      · have hpr : qh * y0 ≤ 4294967295 * 4294967295 := Nat.mul_le_mul (by omega) (by omega)
        refine Cd.region ?_
        refine Seq.val (Runs.move rfl rfl) rfl rfl rfl ?_
        refine Seq.val ((Runs.geq rfl rfl rfl).isF (by omega)) rfl rfl rfl ?_
        refine Seq.val (Runs.move rfl rfl) rfl rfl rfl ?_
        refine Seq.valG (Runs.move rfl rfl) rfl rfl rfl rfl rfl ?_
        refine Seq.valG (Runs.move rfl rfl) rfl rfl rfl rfl rfl ?_
        refine Seq.valG (Runs.mulLU rfl rfl rfl (by omega)) rfl rfl rfl rfl rfl ?_
        refine Seq.valG (Runs.move rfl rfl) rfl rfl rfl rfl rfl ?_
        refine Seq.valG (Runs.mulLU (a := 4294967296) rfl rfl rfl (by omega)) rfl rfl rfl rfl rfl ?_
        refine Seq.valG (Runs.move rfl rfl) rfl rfl rfl rfl rfl ?_
        refine Seq.valG (Runs.addLU rfl rfl rfl (by omega)) rfl rfl rfl rfl rfl ?_
        refine Seq.valG (Runs.gtr rfl rfl rfl) rfl rfl rfl rfl rfl ?_
        refine Seq.val (Runs.pickF rfl rfl rfl) rfl rfl rfl ?_
        refine Seq.nil ?_
        refine Post.weak (F' := [(2, _), (8, _), (9, _), (10, _), (14, _), (15, _), (16, _), (17, _), (18, _), (113, _)]) ⟨rfl, rfl, rfl, rfl, rfl, rfl, rfl, rfl, rfl, rfl, trivial⟩ ?_
        refine Post.then_ ?_
        refine Cd.condD rfl (fun hc => ?_) (fun hc => ?_)
        · have hm := Int.ofNat_lt.1 hc
          refine Cd.skip ?_
          exact Post.join () ⟨rfl, rfl, rfl, rfl, rfl, rfl, rfl, rfl, rfl, trivial⟩ ⟨bel, knuth_more (by omega) hYe (by omega) hr1Y c0 hq0 hqr hqle (.inr hm)⟩
        · have hm := Nat.le_of_not_lt (mt Int.ofNat_lt.2 hc)
          have heq := knuth_stop hYe (by omega) hq0 hqr hqle hm
          subst heq
          refine Cd.exit ?_
          refine Post.then_exit ?_
          refine Post.round_exit ?_
          refine Post.block_exit ?_
          exact Post.join () ⟨rfl, rfl, rfl, rfl, rfl, rfl, rfl, rfl, trivial⟩ bel
    rintro ⟨⟩ wr2 ⟨bel, hmore⟩
    refine Cd.block ?_
    refine Cd.seq ?_
    refine Cd.region ?_
    refine Seq.val (Runs.move rfl rfl) rfl rfl rfl ?_
    refine Seq.val (Runs.subLU (b := 1) rfl rfl rfl (by omega) (by omega)) rfl rfl rfl ?_
    refine Seq.val (Runs.assign rfl rfl) rfl rfl rfl ?_
    refine Seq.nil ?_
    refine Post.weak (F' := [(2, _), (8, _), (9, _), (10, _), (14, _), (15, _), (16, _), (17, _), (18, _)]) ⟨rfl, rfl, rfl, rfl, rfl, rfl, rfl, rfl, rfl, trivial⟩ ?_
    refine Post.then_ ?_
    refine Cd.seq ?_
    refine Cd.region ?_
    refine Seq.val (Runs.move rfl rfl) rfl rfl rfl ?_
    refine Seq.val (Runs.move rfl rfl) rfl rfl rfl ?_
    refine Seq.val (Runs.addLU rfl rfl rfl (by omega)) rfl rfl rfl ?_
    refine Seq.val (Runs.assign rfl rfl) rfl rfl rfl ?_
    refine Seq.nil ?_
    refine Post.weak (F' := [(2, _), (8, _), (9, _), (10, _), (14, _), (15, _), (16, _), (17, _), (18, _)]) ⟨rfl, rfl, rfl, rfl, rfl, rfl, rfl, rfl, rfl, trivial⟩ ?_
    refine Post.then_ ?_
    refine Cd.seq ?_
    refine Cd.region ?_
    refine Seq.val (Runs.move rfl rfl) rfl rfl rfl ?_
    refine Seq.val (Runs.geq rfl rfl rfl) rfl rfl rfl ?_
    refine Seq.nil ?_
    refine Post.weak (F' := [(2, _), (8, _), (9, _), (10, _), (14, _), (15, _), (16, _), (17, _), (18, _), (120, _)]) ⟨rfl, rfl, rfl, rfl, rfl, rfl, rfl, rfl, rfl, rfl, trivial⟩ ?_
    refine Post.then_ ?_
    have hqr2 : (qh - 1) * y1 + (rh + y1) = r1 := by
      obtain ⟨z, rfl⟩ : ∃ z, qh = z + 1 := ⟨qh - 1, by omega⟩
      rw [Nat.add_mul] at hqr
      rw [Nat.add_sub_cancel]
      omega
    refine Cd.condD rfl (fun hc => ?_) (fun hc => ?_)
    · have heq := knuth_brk hYe (by omega) b0 hq0 hqr2 (by omega) (by omega) (by omega)
      refine Cd.exit ?_
      refine Post.block_other rfl ?_
      refine Post.round_exit ?_
      refine Post.block_exit ?_
      rw [heq]
      exact Post.join () ⟨rfl, rfl, rfl, rfl, rfl, rfl, rfl, rfl, trivial⟩ bel
    · skip
      refine Cd.skip ?_
      refine Post.block_normal ?_
      exact Post.round (qh - 1, rh + y1) ⟨rfl, rfl, rfl, rfl, rfl, rfl, rfl, rfl, rfl, trivial⟩ ⟨hqr2, by dsimp only; omega, by dsimp only; omega, by dsimp only; omega, bel⟩ (by dsimp only; omega)
  clear bel
  rintro ⟨⟩ wr3 bel
  have hmod0 := Nat.div_add_mod (r1 * 4294967296 + u0) Y
  rw [← hq0] at hmod0
  obtain ⟨r0, hr0⟩ : ∃ r0, r0 = (r1 * 4294967296 + u0) % Y := ⟨_, rfl⟩
  rw [← hr0] at hmod0
  have hr0Y : r0 < Y := by rw [hr0]; exact Nat.mod_lt _ (by omega)
  have hmod0' : r1 * 4294967296 + u0 = q0 * Y + r0 := by rw [Nat.mul_comm q0]; exact hmod0.symm
  have htwo := two_digits (B := 4294967296) (y := Y) (un := un) (u1 := u1) (u0 := u0) (q1 := q1) (r1 := r1) (q0 := q0) (r0 := r0) (by omega) hmod.symm hmod0.symm hr0Y
  have hall : (un * 4294967296 + u1) * 4294967296 + u0 = un * 18446744073709551616 + L := hall_eq un u1 u0 L hLe
  rw [hall] at htwo
  rw [hfin1] at htwo
  rw [hfin2] at htwo
  have hqlt : (hi * 18446744073709551616 + lo) / y < 18446744073709551616 := Nat.div_lt_of_lt_mul (by omega)
  have hq0lt : q0 < 4294967296 := by rw [hq0]; exact Nat.div_lt_of_lt_mul (by omega)
  refine Cd.seq ?_
  refine Cd.region ?_
  refine Seq.val (Runs.move rfl rfl) rfl rfl rfl ?_
  refine Seq.val (Runs.mulMU (b := 4294967296) rfl rfl rfl) rfl rfl rfl ?_
  refine Seq.val (Runs.move rfl rfl) rfl rfl rfl ?_
  refine Seq.val ((Runs.addMU rfl rfl rfl).cast (v' := .int .u64 (((hi * 18446744073709551616 + lo) / y : Nat) : Int)) (int_eq (Int.ofNat_inj.2 (by rw [htwo.1]; omega)))) rfl rfl rfl ?_
  refine Seq.val (Runs.move rfl rfl) rfl rfl rfl ?_
  refine Seq.val (Runs.mulMU (b := 4294967296) rfl rfl rfl) rfl rfl rfl ?_
  refine Seq.val (Runs.move rfl rfl) rfl rfl rfl ?_
  refine Seq.val (Runs.addMU rfl rfl rfl) rfl rfl rfl ?_
  refine Seq.val (Runs.move rfl rfl) rfl rfl rfl ?_
  refine Seq.val (Runs.move rfl rfl) rfl rfl rfl ?_
  refine Seq.val (Runs.mulMU rfl rfl rfl) rfl rfl rfl ?_
  refine Seq.val ((Runs.subMU rfl rfl rfl (by omega)).cast (v' := .int .u64 (r0 : Int)) (int_eq (Int.ofNat_inj.2 (by omega)))) rfl rfl rfl ?_
  refine Seq.val (Runs.move rfl rfl) rfl rfl rfl ?_
  refine Seq.val ((Runs.shrL (s := s) rfl rfl rfl rfl (by omega)).cast (v' := .int .u64 (((hi * 18446744073709551616 + lo) % y : Nat) : Int)) (int_eq (Int.ofNat_inj.2 (by rw [← htwo.2]; exact Nat.mul_div_cancel _ hp2)))) rfl rfl rfl ?_
  refine Seq.val (Runs.assign rfl rfl) rfl rfl rfl ?_
  refine Seq.val (Runs.assign rfl rfl) rfl rfl rfl ?_
  refine Seq.nil ?_
  refine Post.weak (F' := [(2, _), (6, _), (7, _), (8, _), (9, _), (10, _), (14, _), (15, _), (17, _), (18, _)]) ⟨rfl, rfl, rfl, rfl, rfl, rfl, rfl, rfl, rfl, rfl, trivial⟩ ?_
  refine Post.then_ ?_
  refine Cd.ret ?_
  refine Post.end2 rfl rfl rfl (.inl rfl) ?_
  exact ⟨rfl, bel⟩
end Go.Proofs.Ytpdeihienkbeeaa

/-
  num's sizes, greatest divisors and wide products: what each function answers. No condition but the integers' own ranges.
-/
import Derived.Test.YthcimkhnijnmgaaRows
import Derived.Test.YthcimkhnijnmgaaWords
import Derived.Handy
import Derived.Deep.QuietTactic
import Derived.BigQuiet
import Derived.Deep.Light
namespace Go.Proofs.Ythcimkhnijnmgaa.Lv
open Go.RowKit

theorem mul64_hi (x y : Int) (hx0 : 0 ≤ x) (hx : x < 18446744073709551616) (hy0 : 0 ≤ y) (hy : y < 18446744073709551616) :
    IntKind.u64.wrap (IntKind.u64.wrap (IntKind.u64.wrap (x / 4294967296 * (y / 4294967296)) + IntKind.u64.wrap (IntKind.u64.wrap (x / 4294967296 * bits BinOp.and IntKind.u64 y 4294967295) +
        IntKind.u64.wrap (bits BinOp.and IntKind.u64 x 4294967295 * bits BinOp.and IntKind.u64 y 4294967295) / 4294967296) / 4294967296) +
      IntKind.u64.wrap (bits BinOp.and IntKind.u64 (IntKind.u64.wrap (IntKind.u64.wrap (x / 4294967296 * bits BinOp.and IntKind.u64 y 4294967295) +
        IntKind.u64.wrap (bits BinOp.and IntKind.u64 x 4294967295 * bits BinOp.and IntKind.u64 y 4294967295) / 4294967296)) 4294967295 +
        IntKind.u64.wrap (bits BinOp.and IntKind.u64 x 4294967295 * (y / 4294967296))) / 4294967296) = x * y / 18446744073709551616 := by
  rw [and_low32 y hy0 hy, and_low32 x hx0 hx, and_low32 _ (by rw [wrap_u64]; omega) (by rw [wrap_u64]; omega)]
  simp only [wrap_u64]
  exact mul64_arith x y hx0 hx hy0 hy

set_option maxHeartbeats 400000 in
theorem size_any (a : Int) (w : World) (h0 : -9223372036854775808 ≤ a) (h1 : a ≤ 9223372036854775807) :
    Calls Try.prog 54 #[.int .i64 a] w fun e w' => e = .returned (.int .u64 (a.natAbs : Int)) ∧ w = w' := by
  by_cases h : a < 0
  · go_enter Try.func54, Try.ntmps54
    go_wp2
    go_ret
    exact ⟨ret1 <| int_eq (by simp only [wrap_u64]; omega), rfl⟩
  · go_enter Try.func54, Try.ntmps54
    go_wp2
    go_ret
    exact ⟨ret1 <| int_eq (by omega), rfl⟩

/-- The upper and the lower half of a product. -/
def hiW (x y : Int) : Int := x * y / 18446744073709551616
def loW (x y : Int) : Int := x * y % 18446744073709551616
theorem hiW_bd (x y : Int) (hx0 : 0 ≤ x) (hx : x < 18446744073709551616) (hy0 : 0 ≤ y) (hy : y < 18446744073709551616) : 0 ≤ hiW x y ∧ hiW x y < 18446744073709551616 := by
  have h1 : 0 ≤ x * y := Int.mul_nonneg hx0 hy0
  have h2 : x * y ≤ 18446744073709551615 * 18446744073709551615 := Int.mul_le_mul (by omega) (by omega) hy0 (by omega)
  unfold hiW
  omega
theorem loW_bd (x y : Int) : 0 ≤ loW x y ∧ loW x y < 18446744073709551616 := by unfold loW; omega

set_option maxHeartbeats 400000 in
theorem mul64_any (x y : Int) (w : World) (hx0 : 0 ≤ x) (hx : x < 18446744073709551616) (hy0 : 0 ≤ y) (hy : y < 18446744073709551616) :
    Calls Try.prog 47 #[.int .u64 x, .int .u64 y] w fun e w' => e = .returned (.tuple #[.int .u64 (hiW x y), .int .u64 (loW x y)]) ∧ w = w' := by
  go_enter Try.func47, Try.ntmps47
  go_wp2
  go_ret2
  exact ⟨ret2 (int_eq (mul64_hi x y hx0 hx hy0 hy)) (int_eq (wrap_u64 _)), rfl⟩

set_option maxHeartbeats 400000 in
theorem divisor_any (x y : Int) (w : World) (hx0 : 0 ≤ x) (hx : x < 18446744073709551616) (hy0 : 0 ≤ y) (hy : y < 18446744073709551616) :
    Calls Try.prog 55 #[.int .u64 x, .int .u64 y] w fun e w' => e = .returned (.int .u64 (Nat.gcd x.toNat y.toNat)) ∧ Drawn w w' := by
  go_enter Try.func55, Try.ntmps55
  go_wp2_with fail
  go_loopw [0, 1] (fun u v wr => ∃ a b : Nat, (a : Int) < 18446744073709551616 ∧ (b : Int) < 18446744073709551616 ∧ u = .int .u64 a ∧ v = .int .u64 b ∧ Nat.gcd a b = Nat.gcd x.toNat y.toNat ∧ Drawn w wr) (fun _ v _ => (intOf v).toNat)
  case atStart => exact ⟨x.toNat, y.toNat, by omega, by omega, by rw [Int.toNat_of_nonneg hx0], by rw [Int.toNat_of_nonneg hy0], rfl, Drawn.refl _⟩
  case round =>
    obtain ⟨a, b, ha, hb, rfl, rfl, hg, hbl⟩ := hrel
    have Hg := Lib.hid hg
    clear hg
    by_cases h : b = 0
    · subst h
      go_wp2
      go_ret
      rw [← Hg.out]
      exact ⟨by simp, hbl⟩
    · have hne : ((b : Int) != 0) = true := by simp; omega
      have hlt := Nat.mod_lt a (show 0 < b by omega)
      go_wp2_with fail
      go_quiet (fail)
      go_wp2_with fail
      go_roundw
      case rel =>
        refine ⟨b, a % b, hb, by omega, rfl, ?_, by rw [← Hg.out, Nat.gcd_comm b, ← Nat.gcd_rec, Nat.gcd_comm], hbl.drewN _⟩
        first | rfl | (simp; done) | go_num
      case measure => simp [intOf]; omega

theorem gcd_pos_right (a b : Nat) (h : 0 < b) : 0 < Nat.gcd a b := Nat.gcd_pos_of_pos_right _ h

set_option maxHeartbeats 400000 in
theorem signed_any (p q : Int) (w : World) (h0 : -9223372036854775808 ≤ p) (h1 : p ≤ 9223372036854775807) (h2 : -9223372036854775808 ≤ q) (h3 : q ≤ 9223372036854775807) (hq : q ≠ 0) :
    Calls Try.prog 46 #[.agg #[.int .i64 p, .int .i64 q]] w fun e w' =>
      e = .returned (.tuple #[.bool (decide (p < 0) != decide (q < 0)), .int .u64 ((p.natAbs / Nat.gcd p.natAbs q.natAbs : Nat) : Int), .int .u64 ((q.natAbs / Nat.gcd p.natAbs q.natAbs : Nat) : Int)]) ∧ Below w.heap.size w w' := by
  have hg := gcd_pos_right p.natAbs q.natAbs (by omega)
  go_enter Try.func46, Try.ntmps46
  go_wp2_with fail
  go_quiet ((go_at_call 54; exact quiet_left (size_any _ _ (by omega) (by omega))))
  go_wp2_with (go_at_call 55; refine (divisor_any _ _ _ (by omega) (by omega) (by omega) (by omega)).mono ?_; rintro e w' ⟨rfl, n, rfl⟩)
  have b1 := Nat.div_le_self p.natAbs (p.natAbs.gcd q.natAbs)
  have b2 := Nat.div_le_self q.natAbs (p.natAbs.gcd q.natAbs)
  have hgi : (0 : Int) < ((p.natAbs.gcd q.natAbs : Nat) : Int) := by omega
  go_quiet (fail)
  go_wp2_with fail
  refine bodyPost_ret (results_tmp3 rfl _ _ _) rfl ?_
  exact ⟨ret3 (bool_eq (by cases decide (p < 0) <;> cases decide (q < 0) <;> rfl)) (int_eq (div_wrap _ _ (by omega))) (int_eq (div_wrap _ _ (by omega))), by repeat (first | exact (Below.refl _ _).alloc (Nat.le_refl _) _ | refine Below.drewN ?_ _)⟩

/-- Which of two ratios is greater, by the signs and the sizes. -/
def wayOf (s : Bool) (n d : Int) (t : Bool) (m k : Int) : Int :=
  if (s && decide (0 < n)) && !(t && decide (0 < m)) then -1
  else if (t && decide (0 < m)) && !(s && decide (0 < n)) then 1
  else if n * k = m * d then 0
  else if m * d < n * k then (if s && decide (0 < n) then -1 else 1) else (if s && decide (0 < n) then 1 else -1)
theorem wide_cases (x y : Int) (z u : Int) :
    (x * y = z * u ∧ hiW x y = hiW z u ∧ loW x y = loW z u) ∨ (x * y ≠ z * u ∧ z * u < x * y ∧ hiW z u < hiW x y) ∨ (x * y ≠ z * u ∧ z * u < x * y ∧ hiW x y = hiW z u ∧ loW z u < loW x y) ∨
    (x * y ≠ z * u ∧ ¬ z * u < x * y ∧ hiW x y < hiW z u) ∨ (x * y ≠ z * u ∧ ¬ z * u < x * y ∧ hiW x y = hiW z u ∧ loW x y < loW z u) := by
  unfold hiW loW
  generalize x * y = a
  generalize z * u = b
  omega

set_option maxHeartbeats 1000000 in
theorem ratCmp_core (s t : Bool) (n d m k p q r q' : Int) (w : World) (hs : p = p)
    (n0 : 0 ≤ n) (n1 : n < 18446744073709551616) (d0 : 0 ≤ d) (d1 : d < 18446744073709551616) (m0 : 0 ≤ m) (m1 : m < 18446744073709551616) (k0 : 0 ≤ k) (k1 : k < 18446744073709551616)
    (hq : (q == 0) = false) (hq' : (q' == 0) = false)
    (C1 : ∀ w, Calls Try.prog 46 #[.agg #[.int .i64 p, .int .i64 q]] w fun e w' => e = .returned (.tuple #[.bool s, .int .u64 n, .int .u64 d]) ∧ Below w.heap.size w w')
    (C2 : ∀ w, Calls Try.prog 46 #[.agg #[.int .i64 r, .int .i64 q']] w fun e w' => e = .returned (.tuple #[.bool t, .int .u64 m, .int .u64 k]) ∧ Below w.heap.size w w') :
    Calls Try.prog 31 #[.agg #[.int .i64 p, .int .i64 q], .agg #[.int .i64 r, .int .i64 q']] w fun e w' =>
      e = .returned (.tuple #[.int .i64 (wayOf s n d t m k), .bool true]) ∧ Below w.heap.size w w' := by
  have H1 := Lib.hid C1
  have H2 := Lib.hid C2
  clear C1 C2 hs
  go_enter Try.func31, Try.ntmps31
  go_wp2_with fail
  refine (H1.out _).mono ?_
  rintro e w1 ⟨rfl, hb1⟩
  obtain ⟨c1, f1⟩ := bcell hb1
  have z1 := hb1.size
  simp only [World.size_alloc] at z1 c1 f1
  go_wp2_with fail
  refine (H2.out _).mono ?_
  rintro e w2 ⟨rfl, hb2⟩
  go_wp2_with fail
  refine (mul64_any _ _ _ n0 n1 k0 k1).mono ?_
  rintro e w3 ⟨rfl, rfl⟩
  go_wp2_with fail
  refine (mul64_any _ _ _ m0 m1 d0 d1).mono ?_
  rintro e w3 ⟨rfl, rfl⟩
  have hb := (((Below.refl w.heap.size w).alloc (Nat.le_refl _) (.cells #[.int .i64 p, .int .i64 q] 72)).alloc (by simp) (.cells #[.int .i64 r, .int .i64 q'] 72)).trans ((hb1.mono (by first | omega | (simp; omega))).trans (hb2.mono (by first | omega | (simp; omega))))
  have W := wide_cases n k m d
  clear hb1 hb2 c1 f1 z1 H1 H2 hq hq'
  go_wp2_with fail
  all_goals (go_ret2; refine ⟨ret2 (int_eq ?_) rfl, hb⟩; clear hb; go_light; rcases W with ⟨W1, W2, W3⟩ | ⟨W1, W2, W3⟩ | ⟨W1, W2, W3, W4⟩ | ⟨W1, W2, W3⟩ | ⟨W1, W2, W3, W4⟩ <;> simp_all [wayOf] <;> omega)
end Go.Proofs.Ythcimkhnijnmgaa.Lv

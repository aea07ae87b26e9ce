/-
  num's sizes, greatest divisors and wide products: what each function answers. No condition but the integers' own ranges.
-/
import Derived.Test.YtijaldpmpjapiaaRows
import Derived.Test.YtijaldpmpjapiaaWords
import Derived.Handy
import Derived.Deep.QuietTactic
import Derived.BigQuiet
import Derived.Deep.Light
namespace Go.Proofs.Ytijaldpmpjapiaa
open Go.RowKit

theorem mul64_hi (x y : Int) (hx0 : 0 ≤ x) (hx : x < 18446744073709551616) (hy0 : 0 ≤ y) (hy : y < 18446744073709551616) :
    IntKind.u64.wrap (IntKind.u64.wrap (IntKind.u64.wrap (x / 4294967296 * (y / 4294967296)) + IntKind.u64.wrap (IntKind.u64.wrap (x / 4294967296 * bits BinOp.and IntKind.u64 y 4294967295) +
        IntKind.u64.wrap (bits BinOp.and IntKind.u64 x 4294967295 * bits BinOp.and IntKind.u64 y 4294967295) / 4294967296) / 4294967296) +
      IntKind.u64.wrap (bits BinOp.and IntKind.u64 (IntKind.u64.wrap (IntKind.u64.wrap (x / 4294967296 * bits BinOp.and IntKind.u64 y 4294967295) +
        IntKind.u64.wrap (bits BinOp.and IntKind.u64 x 4294967295 * bits BinOp.and IntKind.u64 y 4294967295) / 4294967296)) 4294967295 +
        IntKind.u64.wrap (bits BinOp.and IntKind.u64 x 4294967295 * (y / 4294967296))) / 4294967296) = x * y / 18446744073709551616 := by
  rw [and_low32 y hy0 hy, and_low32 x hx0 hx, and_low32 _ (by rw [wrap_u64]; omega) (by rw [wrap_u64]; omega)]
  simp only [wrap_u64]
  exact mul64_arith x y hx0 hx hy0 hy

set_option maxHeartbeats 400000 in
theorem size_any (a : Int) (w : World) (h0 : -9223372036854775808 ≤ a) (h1 : a ≤ 9223372036854775807) :
    Calls Try.prog 129 #[.int .i64 a] w fun e w' => e = .returned (.int .u64 (a.natAbs : Int)) ∧ w = w' := by
  by_cases h : a < 0
  · go_enter Try.func129, Try.ntmps129
    go_wp2
    go_ret
    exact ⟨ret1 <| int_eq (by simp only [wrap_u64]; omega), rfl⟩
  · go_enter Try.func129, Try.ntmps129
    go_wp2
    go_ret
    exact ⟨ret1 <| int_eq (by omega), rfl⟩

/-- The upper and the lower half of a product. -/
def hiW (x y : Int) : Int := x * y / 18446744073709551616
def loW (x y : Int) : Int := x * y % 18446744073709551616
theorem hiW_bd (x y : Int) (hx0 : 0 ≤ x) (hx : x < 18446744073709551616) (hy0 : 0 ≤ y) (hy : y < 18446744073709551616) : 0 ≤ hiW x y ∧ hiW x y < 18446744073709551616 := by
  have h1 : 0 ≤ x * y := Int.mul_nonneg hx0 hy0
  have h2 : x * y ≤ 18446744073709551615 * 18446744073709551615 := Int.mul_le_mul (by omega) (by omega) hy0 (by omega)
  unfold hiW
  omega
theorem loW_bd (x y : Int) : 0 ≤ loW x y ∧ loW x y < 18446744073709551616 := by unfold loW; omega

set_option maxHeartbeats 400000 in
theorem mul64_any (x y : Int) (w : World) (hx0 : 0 ≤ x) (hx : x < 18446744073709551616) (hy0 : 0 ≤ y) (hy : y < 18446744073709551616) :
    Calls Try.prog 168 #[.int .u64 x, .int .u64 y] w fun e w' => e = .returned (.tuple #[.int .u64 (hiW x y), .int .u64 (loW x y)]) ∧ w = w' := by
  go_enter Try.func168, Try.ntmps168
  go_wp2
  go_ret2
  exact ⟨ret2 (int_eq (mul64_hi x y hx0 hx hy0 hy)) (int_eq (wrap_u64 _)), rfl⟩

end Go.Proofs.Ytijaldpmpjapiaa

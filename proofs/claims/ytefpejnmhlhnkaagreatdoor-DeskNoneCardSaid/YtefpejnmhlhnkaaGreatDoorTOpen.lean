/-
  What comes in: int64s, and slices of them. No condition.
-/
import Derived.Test.YtefpejnmhlhnkaaGreatDoorRows
import Derived.Test.YtefpejnmhlhnkaaGreatDoorKI
import Derived.Test.YtefpejnmhlhnkaaGreatDoorFits
import Derived.ProofKit
import Derived.OpenShut
import Derived.Lib.SmallJoins
import Derived.Deep.Slices
import Derived.Deep.Fields
import Derived.ChangeSame
namespace Go.Proofs.YtefpejnmhlhnkaaGreatDoor
open Go.ChangeShapes Go.WideShapes Go.Deep Go.RowKit

set_option maxRecDepth 100000 in
theorem open_int {W : World} {base t : Nat} {v : Value} {k : IntKind} (hu : Tryz.prog.underlying t = some (.int k)) (hv : Value.okWide Tryz.prog W .any base t v) : ∃ n, v = .int k n ∧ k.has n := by
  obtain ⟨n, rfl⟩ := okWide_int hu hv
  simp only [Value.okWide, hu, Cell.okWide] at hv
  exact ⟨n, rfl, by simpa [Cell.ok, hu] using hv⟩
set_option maxRecDepth 100000 in
theorem open_i64 {W : World} {base t : Nat} {v : Value} (hu : Tryz.prog.underlying t = some (.int .i64)) (hv : Value.okWide Tryz.prog W .any base t v) : ∃ n, v = .int .i64 n ∧ I64 n := by
  obtain ⟨n, rfl, h⟩ := open_int hu hv
  exact ⟨n, rfl, h.1, h.2⟩
set_option maxRecDepth 100000 in
theorem open_u8 {W : World} {base t : Nat} {v : Value} (hu : Tryz.prog.underlying t = some (.int .u8)) (hv : Value.okWide Tryz.prog W .any base t v) : ∃ n : Nat, v = .int .u8 (n : Int) ∧ n < 256 := by
  obtain ⟨n, rfl, h0, h1⟩ := open_int hu hv
  have h2 : (0 : Int) ≤ n := h0
  have h3 : n ≤ 255 := h1
  exact ⟨n.toNat, by rw [Int.toNat_of_nonneg h2], by omega⟩
set_option maxRecDepth 100000 in
theorem open_str {W : World} {base t : Nat} {v : Value} (hu : Tryz.prog.underlying t = some .string) (hv : Value.okWide Tryz.prog W .any base t v) : ∃ l : List Nat, v = .string (strOf l) ∧ (∀ x ∈ l, x < 256) ∧ l.length ≤ 9223372036854775807 := by
  obtain ⟨s, rfl⟩ := okWide_string hu hv
  simp only [Value.okWide, hu, Cell.okWide] at hv
  have hs : (s.size : Int) ≤ 9223372036854775807 := by simpa [Cell.ok, hu] using hv
  refine ⟨bytesOf s, by rw [strOf_bytesOf], bytesOf_lt s, ?_⟩
  have : (bytesOf s).length = s.size := by rw [← strOf_size, strOf_bytesOf]
  omega
end Go.Proofs.YtefpejnmhlhnkaaGreatDoor

/-
  The statements' great: a version of more than thirty files, or one that is not right. No condition.
-/
import Derived.Test.YthcimkhnijnmgaaLvRight
namespace Go.Proofs.Ythcimkhnijnmgaa.Lv
open Go.RowKit

def GreatSaid (lg nx sq : Int) (len : Nat) (fs : List File) (w : World) (e : Ending) (w' : World) : Prop := ∃ b, e = .returned (.bool b) ∧ (b = false → len ≤ 30 ∧ RightP lg nx sq fs) ∧ Below w.heap.size w w'
set_option maxHeartbeats 400000 in
theorem great_any (B : Nat) (A : Option Addr) (len cap : Nat) (fs : List File) (lg nx sq : Int) (w : World) (hr : Reads w B 6 A len (cellsOf fs)) (hB : B ≤ w.heap.size) :
    Calls Try.prog 4 #[.agg #[.int .i64 lg, .int .i64 nx, .int .i64 sq, .slice A len cap]] w (GreatSaid lg nx sq len fs w) := by
  have Hr := Lib.hid hr
  clear hr
  by_cases h30 : 30 < len
  · go_enter Try.func4, Try.ntmps4
    go_wp2_with fail
    go_ret
    exact ⟨true, rfl, (fun h => by cases h), (Below.refl _ _).alloc (Nat.le_refl _) _⟩
  · have h30' : len ≤ 30 := by omega
    clear h30
    have hd30 : decide ((30 : Int) < (len : Int)) = false := decide_eq_false (by omega)
    go_enter Try.func4, Try.ntmps4
    go_wp2_with fail
    refine (right_any B A len cap fs lg nx sq _ (by omega) (Hr.out.alloc hB _) (by simp; omega)).mono ?_
    rintro e w1 ⟨b, rfl, hb, hb1⟩
    have Hb := Lib.hid hb
    have hbw := below_of_alloc (Below.refl w.heap.size w) (Nat.le_refl _) hb1
    clear hb hb1
    go_wp2_with fail
    go_ret
    exact ⟨!b, rfl, fun h => ⟨h30', Hb.out.1 (by simpa using h)⟩, hbw⟩
end Go.Proofs.Ythcimkhnijnmgaa.Lv

/-
  Texts that were joined: GrD. Conditions: what each theorem names.
-/
import Derived.Test.YtenikchlnfhikaaGreatDoorY12
import Derived.Test.YtenikchlnfhikaaGreatDoorProg
set_option linter.unusedSectionVars false
set_option linter.unusedVariables false
set_option linter.unusedSimpArgs false
namespace Go.Proofs.YtenikchlnfhikaaGreatDoor
open Go

theorem tsz : Tryz.prog.types.size = 4 + 832 := by kernel_rfl
def plainT : List Nat := [2, 3, 4, 9, 23]
def plainB (t : Nat) : List Nat := bif Nat.beq t 2 then [2] else bif Nat.beq t 3 then [3] else bif Nat.beq t 4 then [4] else bif Nat.beq t 9 then [9] else bif Nat.beq t 23 then [23, 3, 9, 2] else []
set_option maxRecDepth 1000000 in
theorem book2 : Tryz.prog.book 2 = plainB 2 := (book_of (S := [2]) 4 832 tsz (by kernel_rfl) (by kernel_rfl)).trans (by decide)
set_option maxRecDepth 1000000 in
theorem book3 : Tryz.prog.book 3 = plainB 3 := (book_of (S := [3]) 4 832 tsz (by kernel_rfl) (by kernel_rfl)).trans (by decide)
set_option maxRecDepth 1000000 in
theorem book4 : Tryz.prog.book 4 = plainB 4 := (book_of (S := [4]) 4 832 tsz (by kernel_rfl) (by kernel_rfl)).trans (by decide)
set_option maxRecDepth 1000000 in
theorem book9 : Tryz.prog.book 9 = plainB 9 := (book_of (S := [9]) 4 832 tsz (by kernel_rfl) (by kernel_rfl)).trans (by decide)
set_option maxRecDepth 1000000 in
theorem book23 : Tryz.prog.book 23 = plainB 23 := (book_of (S := [23, 3, 9, 2]) 4 832 tsz (by kernel_rfl) (by kernel_rfl)).trans (by decide)
theorem plain_book : ∀ v ∈ plainT, Tryz.prog.book v = plainB v := fun v hv => by
  simp only [plainT, List.mem_cons, List.not_mem_nil, or_false] at hv
  rcases hv with rfl | rfl | rfl | rfl | rfl
  · exact book2
  · exact book3
  · exact book4
  · exact book9
  · exact book23
set_option maxRecDepth 1000000 in
theorem tame2 : Tame Tryz.prog 2 := tame_of plain_book (by decide) (by kernel_rfl) (by kernel_rfl) (by kernel_rfl) (by kernel_rfl) (by kernel_rfl) (by kernel_rfl) (by kernel_rfl)
set_option maxRecDepth 1000000 in
theorem tame3 : Tame Tryz.prog 3 := tame_of plain_book (by decide) (by kernel_rfl) (by kernel_rfl) (by kernel_rfl) (by kernel_rfl) (by kernel_rfl) (by kernel_rfl) (by kernel_rfl)
set_option maxRecDepth 1000000 in
theorem tame4 : Tame Tryz.prog 4 := tame_of plain_book (by decide) (by kernel_rfl) (by kernel_rfl) (by kernel_rfl) (by kernel_rfl) (by kernel_rfl) (by kernel_rfl) (by kernel_rfl)
set_option maxRecDepth 1000000 in
theorem tame9 : Tame Tryz.prog 9 := tame_of plain_book (by decide) (by kernel_rfl) (by kernel_rfl) (by kernel_rfl) (by kernel_rfl) (by kernel_rfl) (by kernel_rfl) (by kernel_rfl)
set_option maxRecDepth 1000000 in
theorem tame23 : Tame Tryz.prog 23 := tame_of plain_book (by decide) (by kernel_rfl) (by kernel_rfl) (by kernel_rfl) (by kernel_rfl) (by kernel_rfl) (by kernel_rfl) (by kernel_rfl)
set_option maxRecDepth 1000000 in
theorem veil269 : Tryz.prog.veiledRec 269 = false := veil_of (book_of (S := [269]) 4 832 tsz (by kernel_rfl) (by kernel_rfl)) (by kernel_rfl)
set_option maxRecDepth 1000000 in
theorem veil770 : Tryz.prog.veiledRec 770 = false := veil_of (book_of (S := [770, 215]) 4 832 tsz (by kernel_rfl) (by kernel_rfl)) (by kernel_rfl)
set_option maxRecDepth 1000000 in
theorem veil780 : Tryz.prog.veiledRec 780 = false := veil_of (book_of (S := [780, 5]) 4 832 tsz (by kernel_rfl) (by kernel_rfl)) (by kernel_rfl)
set_option maxRecDepth 1000000 in
theorem veil781 : Tryz.prog.veiledRec 781 = false := veil_of (book_of (S := [781, 5]) 4 832 tsz (by kernel_rfl) (by kernel_rfl)) (by kernel_rfl)
set_option maxRecDepth 1000000 in
theorem veil730 : Tryz.prog.veiledRec 730 = false := veil_of (book_of (S := [730, 395]) 4 832 tsz (by kernel_rfl) (by kernel_rfl)) (by kernel_rfl)
set_option maxRecDepth 1000000 in
theorem lay0 : ((List.range' 0 209).all (rowFine Tryz.prog)) = true := by kernel_rfl
set_option maxRecDepth 1000000 in
theorem lay1 : ((List.range' 209 209).all (rowFine Tryz.prog)) = true := by kernel_rfl
set_option maxRecDepth 1000000 in
theorem lay2 : ((List.range' 418 209).all (rowFine Tryz.prog)) = true := by kernel_rfl
set_option maxRecDepth 1000000 in
theorem lay3 : ((List.range' 627 209).all (rowFine Tryz.prog)) = true := by kernel_rfl
set_option maxRecDepth 1000000 in
theorem layG : Tryz.prog.globals.all (fun g => decide (g.type < Tryz.prog.types.size)) = true := by kernel_rfl
set_option maxRecDepth 1000000 in
theorem layF : Tryz.prog.funcs.all (fun f => f.params.all fun t => decide (t < Tryz.prog.types.size)) = true := by kernel_rfl
theorem laidOut : laidOutB Tryz.prog = true := laidOut_of (fun t ht => by
  rw [tsz] at ht
  rcases Nat.lt_or_ge t 209 with h0 | h0
  · exact upto_of 0 209 lay0 t (by omega) (by omega)
  rcases Nat.lt_or_ge t 418 with h1 | h1
  · exact upto_of 209 209 lay1 t (by omega) (by omega)
  rcases Nat.lt_or_ge t 627 with h2 | h2
  · exact upto_of 418 209 lay2 t (by omega) (by omega)
  exact upto_of 627 209 lay3 t (by omega) (by omega)) layG layF
set_option maxRecDepth 1000000 in
theorem still0 : (Tryz.prog.funcs.toList.take 197).all (fun fn => !fn.goes) = true := by kernel_rfl
set_option maxRecDepth 1000000 in
theorem still1 : ((Tryz.prog.funcs.toList.drop 197).take 197).all (fun fn => !fn.goes) = true := by kernel_rfl
set_option maxRecDepth 1000000 in
theorem still2 : ((Tryz.prog.funcs.toList.drop (2 * 197)).take 197).all (fun fn => !fn.goes) = true := by kernel_rfl
set_option maxRecDepth 1000000 in
theorem still3 : (Tryz.prog.funcs.toList.drop (3 * 197)).all (fun fn => !fn.goes) = true := by kernel_rfl
theorem noGoes : ∀ fn ∈ Tryz.prog.funcs.toList, fn.goes = false := all_parts 197 still0 still1 still2 still3
set_option maxRecDepth 1000000 in
theorem mapsRow : mapsRowed Tryz.prog = true := by kernel_rfl
set_option maxRecDepth 1000000 in
theorem heard : Tryz.prog.stopsHeard = true := by kernel_rfl
set_option maxRecDepth 1000000 in
theorem enterable : Tryz.prog.mayEnter = true := by kernel_rfl
end Go.Proofs.YtenikchlnfhikaaGreatDoor

/-
  The types of what comes in; the program's layout. No condition.
-/
import Derived.Test.YtefpejnmhlhnkaaGreatDoorProg
import Derived.Test.YtefpejnmhlhnkaaGreatDoorGrA
namespace Go.Proofs.YtefpejnmhlhnkaaGreatDoor
open Go

theorem tsz : Tryz.prog.types.size = 4 + 834 := by kernel_rfl
def plainT : List Nat := [2, 3, 4, 9, 22, 28, 36, 37]
def plainB (t : Nat) : List Nat := bif Nat.beq t 2 then [2] else bif Nat.beq t 3 then [3] else bif Nat.beq t 4 then [4] else bif Nat.beq t 9 then [9] else bif Nat.beq t 22 then [22, 28, 3] else bif Nat.beq t 28 then [28, 3] else bif Nat.beq t 36 then [36, 3, 9, 2] else bif Nat.beq t 37 then [37, 3] else []
set_option maxRecDepth 1000000 in
theorem book2 : Tryz.prog.book 2 = plainB 2 := (book_of (S := [2]) 4 834 tsz (by kernel_rfl) (by kernel_rfl)).trans (by decide)
set_option maxRecDepth 1000000 in
theorem book3 : Tryz.prog.book 3 = plainB 3 := (book_of (S := [3]) 4 834 tsz (by kernel_rfl) (by kernel_rfl)).trans (by decide)
set_option maxRecDepth 1000000 in
theorem book4 : Tryz.prog.book 4 = plainB 4 := (book_of (S := [4]) 4 834 tsz (by kernel_rfl) (by kernel_rfl)).trans (by decide)
set_option maxRecDepth 1000000 in
theorem book9 : Tryz.prog.book 9 = plainB 9 := (book_of (S := [9]) 4 834 tsz (by kernel_rfl) (by kernel_rfl)).trans (by decide)
set_option maxRecDepth 1000000 in
theorem book22 : Tryz.prog.book 22 = plainB 22 := (book_of (S := [22, 28, 3]) 4 834 tsz (by kernel_rfl) (by kernel_rfl)).trans (by decide)
set_option maxRecDepth 1000000 in
theorem book28 : Tryz.prog.book 28 = plainB 28 := (book_of (S := [28, 3]) 4 834 tsz (by kernel_rfl) (by kernel_rfl)).trans (by decide)
set_option maxRecDepth 1000000 in
theorem book36 : Tryz.prog.book 36 = plainB 36 := (book_of (S := [36, 3, 9, 2]) 4 834 tsz (by kernel_rfl) (by kernel_rfl)).trans (by decide)
set_option maxRecDepth 1000000 in
theorem book37 : Tryz.prog.book 37 = plainB 37 := (book_of (S := [37, 3]) 4 834 tsz (by kernel_rfl) (by kernel_rfl)).trans (by decide)
theorem plain_book : ∀ v ∈ plainT, Tryz.prog.book v = plainB v := fun v hv => by
  simp only [plainT, List.mem_cons, List.not_mem_nil, or_false] at hv
  rcases hv with rfl | rfl | rfl | rfl | rfl | rfl | rfl | rfl
  · exact book2
  · exact book3
  · exact book4
  · exact book9
  · exact book22
  · exact book28
  · exact book36
  · exact book37
set_option maxRecDepth 1000000 in
theorem tame2 : Tame Tryz.prog 2 := tame_of plain_book (by decide) (by kernel_rfl) (by kernel_rfl) (by kernel_rfl) (by kernel_rfl) (by kernel_rfl) (by kernel_rfl) (by kernel_rfl)
set_option maxRecDepth 1000000 in
theorem tame3 : Tame Tryz.prog 3 := tame_of plain_book (by decide) (by kernel_rfl) (by kernel_rfl) (by kernel_rfl) (by kernel_rfl) (by kernel_rfl) (by kernel_rfl) (by kernel_rfl)
set_option maxRecDepth 1000000 in
theorem tame4 : Tame Tryz.prog 4 := tame_of plain_book (by decide) (by kernel_rfl) (by kernel_rfl) (by kernel_rfl) (by kernel_rfl) (by kernel_rfl) (by kernel_rfl) (by kernel_rfl)
set_option maxRecDepth 1000000 in
theorem tame9 : Tame Tryz.prog 9 := tame_of plain_book (by decide) (by kernel_rfl) (by kernel_rfl) (by kernel_rfl) (by kernel_rfl) (by kernel_rfl) (by kernel_rfl) (by kernel_rfl)
set_option maxRecDepth 1000000 in
theorem tame22 : Tame Tryz.prog 22 := tame_of plain_book (by decide) (by kernel_rfl) (by kernel_rfl) (by kernel_rfl) (by kernel_rfl) (by kernel_rfl) (by kernel_rfl) (by kernel_rfl)
set_option maxRecDepth 1000000 in
theorem tame28 : Tame Tryz.prog 28 := tame_of plain_book (by decide) (by kernel_rfl) (by kernel_rfl) (by kernel_rfl) (by kernel_rfl) (by kernel_rfl) (by kernel_rfl) (by kernel_rfl)
set_option maxRecDepth 1000000 in
theorem tame36 : Tame Tryz.prog 36 := tame_of plain_book (by decide) (by kernel_rfl) (by kernel_rfl) (by kernel_rfl) (by kernel_rfl) (by kernel_rfl) (by kernel_rfl) (by kernel_rfl)
set_option maxRecDepth 1000000 in
theorem tame37 : Tame Tryz.prog 37 := tame_of plain_book (by decide) (by kernel_rfl) (by kernel_rfl) (by kernel_rfl) (by kernel_rfl) (by kernel_rfl) (by kernel_rfl) (by kernel_rfl)
set_option maxRecDepth 1000000 in
theorem veil331 : Tryz.prog.veiledRec 331 = false := veil_of (book_of (S := [331]) 4 834 tsz (by kernel_rfl) (by kernel_rfl)) (by kernel_rfl)
set_option maxRecDepth 1000000 in
theorem veil769 : Tryz.prog.veiledRec 769 = false := veil_of (book_of (S := [769, 160]) 4 834 tsz (by kernel_rfl) (by kernel_rfl)) (by kernel_rfl)
set_option maxRecDepth 1000000 in
theorem veil799 : Tryz.prog.veiledRec 799 = false := veil_of (book_of (S := [799, 5]) 4 834 tsz (by kernel_rfl) (by kernel_rfl)) (by kernel_rfl)
set_option maxRecDepth 1000000 in
theorem veil800 : Tryz.prog.veiledRec 800 = false := veil_of (book_of (S := [800, 5]) 4 834 tsz (by kernel_rfl) (by kernel_rfl)) (by kernel_rfl)
set_option maxRecDepth 1000000 in
theorem veil718 : Tryz.prog.veiledRec 718 = false := veil_of (book_of (S := [718, 461]) 4 834 tsz (by kernel_rfl) (by kernel_rfl)) (by kernel_rfl)
set_option maxRecDepth 1000000 in
theorem lay0 : ((List.range' 0 210).all (rowFine Tryz.prog)) = true := by kernel_rfl
set_option maxRecDepth 1000000 in
theorem lay1 : ((List.range' 210 210).all (rowFine Tryz.prog)) = true := by kernel_rfl
set_option maxRecDepth 1000000 in
theorem lay2 : ((List.range' 420 210).all (rowFine Tryz.prog)) = true := by kernel_rfl
set_option maxRecDepth 1000000 in
theorem lay3 : ((List.range' 630 208).all (rowFine Tryz.prog)) = true := by kernel_rfl
set_option maxRecDepth 1000000 in
theorem layG : Tryz.prog.globals.all (fun g => decide (g.type < Tryz.prog.types.size)) = true := by kernel_rfl
set_option maxRecDepth 1000000 in
theorem layF : Tryz.prog.funcs.all (fun f => f.params.all fun t => decide (t < Tryz.prog.types.size)) = true := by kernel_rfl
theorem laidOut : laidOutB Tryz.prog = true := laidOut_of (fun t ht => by
  rw [tsz] at ht
  rcases Nat.lt_or_ge t 210 with h0 | h0
  · exact upto_of 0 210 lay0 t (by omega) (by omega)
  rcases Nat.lt_or_ge t 420 with h1 | h1
  · exact upto_of 210 210 lay1 t (by omega) (by omega)
  rcases Nat.lt_or_ge t 630 with h2 | h2
  · exact upto_of 420 210 lay2 t (by omega) (by omega)
  exact upto_of 630 208 lay3 t (by omega) (by omega)) layG layF
set_option maxRecDepth 1000000 in
theorem still0 : (Tryz.prog.funcs.toList.take 200).all (fun fn => !fn.goes) = true := by kernel_rfl
set_option maxRecDepth 1000000 in
theorem still1 : ((Tryz.prog.funcs.toList.drop 200).take 200).all (fun fn => !fn.goes) = true := by kernel_rfl
set_option maxRecDepth 1000000 in
theorem still2 : ((Tryz.prog.funcs.toList.drop (2 * 200)).take 200).all (fun fn => !fn.goes) = true := by kernel_rfl
set_option maxRecDepth 1000000 in
theorem still3 : (Tryz.prog.funcs.toList.drop (3 * 200)).all (fun fn => !fn.goes) = true := by kernel_rfl
theorem noGoes : ∀ fn ∈ Tryz.prog.funcs.toList, fn.goes = false := all_parts 200 still0 still1 still2 still3
set_option maxRecDepth 1000000 in
theorem mapsRow : mapsRowed Tryz.prog = true := by kernel_rfl
set_option maxRecDepth 1000000 in
theorem heard : Tryz.prog.stopsHeard = true := by kernel_rfl
set_option maxRecDepth 1000000 in
theorem enterable : Tryz.prog.mayEnter = true := by kernel_rfl
end Go.Proofs.YtefpejnmhlhnkaaGreatDoor

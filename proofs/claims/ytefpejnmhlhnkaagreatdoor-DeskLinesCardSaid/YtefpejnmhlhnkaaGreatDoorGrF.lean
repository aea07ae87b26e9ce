/-
  What the two rows share: the start's shape, the head's words. No condition.
-/
import Derived.Test.YtefpejnmhlhnkaaGreatDoorGrC
import Derived.Test.YtefpejnmhlhnkaaGreatDoorDkD
namespace Go.Proofs.YtefpejnmhlhnkaaGreatDoor
open Go Go.ChangeShapes Go.WideShapes Go.ChangeAt

theorem doorV (os : Os) (args : Array Value) : ((doorL os).forCall (fun _ _ => 0) ⟨#[], args, []⟩).variablesRefB Tryz.prog = true := by kernel_rfl
theorem doorH (os : Os) (args : Array Value) : (((doorL os).forCall (fun _ _ => 0) ⟨#[], args, []⟩).heap.toList.drop Tryz.prog.globals.size).take ((begin Tryz.prog (fun _ _ => 0) default).world.heap.size - Tryz.prog.globals.size) = (begin Tryz.prog (fun _ _ => 0) default).world.heap.toList.drop Tryz.prog.globals.size := by kernel_rfl
theorem doorS (os : Os) (args : Array Value) : ((doorL os).forCall (fun _ _ => 0) ⟨#[], args, []⟩).Shaped Tryz.prog := World.shaped_of_RefB (doorV os args) (doorH os args)
theorem mainIs_ : Tryz.prog.mainIs = some (true, "14ef7a324ef58652c0e02d94aa5ea6cce208d77056b15f9ed2cd3ec0e7a8e6eb".toList) := by kernel_rfl
theorem looks_ : true = Tryz.prog.looks [] := by kernel_rfl
theorem stops_ : (Tryz.prog.stops == []) = true := by kernel_rfl
theorem knobs_ : (Tryz.prog.stopKnobs == []) = true := by kernel_rfl
end Go.Proofs.YtefpejnmhlhnkaaGreatDoor

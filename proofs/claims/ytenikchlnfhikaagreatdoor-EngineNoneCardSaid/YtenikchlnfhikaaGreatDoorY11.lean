/-
  Texts that were joined: GrE. Conditions: what each theorem names.
-/
import Derived.Test.YtenikchlnfhikaaGreatDoorRows
import Derived.LaidByTextLater
import Derived.SevenTiedAt
import Derived.LaidMore
import Derived.KernelRfl
set_option linter.unusedSectionVars false
set_option linter.unusedVariables false
set_option linter.unusedSimpArgs false
namespace Go.Proofs.YtenikchlnfhikaaGreatDoor
open Go
def laidL : List (String × DataW Unit) := Rows.engineAsksRow.laid
theorem varsAt : Tryz.prog.funcNamed "gosem.cut.vars" = some 784 := by kernel_rfl
theorem tieW : Tryz.prog.worded (varsWordLater true) = true := by kernel_rfl
theorem tieV : Tryz.prog.worded (varsWordLater !true) = false := by kernel_rfl
theorem tieR : Tryz.prog.worded rootWordLater = true := by kernel_rfl
theorem tieK : laidL.map (fun x => Tryz.prog.kindOfLater x.1) = [LaidKind.sentinel, .sentinel, .data, .data, .data, .data].map some := by kernel_rfl
theorem tieN : varsNamedLaterB Tryz.prog 784 laidL = true := by kernel_rfl
theorem tieD (os : Os) (tape : Tape) : varsDone Tryz.prog 75 784 os tape = true := by kernel_rfl
theorem tie1 (os : Os) (tape : Tape) : (DataW.laidRun Tryz.prog (varsWorld Tryz.prog 75 784 os tape).memory 8 (laidL.map (·.1))).map (·.1) = some laidL := by kernel_rfl
theorem tie2 (os : Os) (tape : Tape) : (DataW.laidRun Tryz.prog (varsWorld Tryz.prog 75 784 os tape).memory 8 (laidL.map (·.1))).map (fun x => decide x.2.Nodup && laidRowsB Tryz.prog (varsWorld Tryz.prog 75 784 os tape).memory x.2) = some true := by kernel_rfl
theorem tieAll : Tryz.prog.laidByTextLater laidL [.sentinel, .sentinel, .data, .data, .data, .data] true :=
  Program.laidByTextLater_of_run 784 75 8 tieW tieV tieR tieK varsAt tieN tieD tie1 tie2 (by kernel_rfl)
theorem noOwn : Tryz.prog.headLifts.contains "ownunsafe" = false := by kernel_rfl
theorem fitsL : Tryz.prog.funcsFit laidL = true := by kernel_rfl
/-- The world that the door's run leaves: a start for the witness. -/
noncomputable def doorL (os : Os) : World := { World.holding Tryz.prog os ⟨#[], #[], []⟩ with heap := (varsWorld Tryz.prog 75 784 os (fun _ _ => 0)).heap }
theorem door1 (os : Os) (args : Array Value) : (DataW.laidRun Tryz.prog ((doorL os).forCall (fun _ _ => 0) ⟨#[], args, []⟩).memory 8 (laidL.map (·.1))).map (·.1) = some laidL := by kernel_rfl
theorem door2 (os : Os) (args : Array Value) : (DataW.laidRun Tryz.prog ((doorL os).forCall (fun _ _ => 0) ⟨#[], args, []⟩).memory 8 (laidL.map (·.1))).map (fun x => decide x.2.Nodup && laidRowsB Tryz.prog ((doorL os).forCall (fun _ _ => 0) ⟨#[], args, []⟩).memory x.2) = some true := by kernel_rfl
theorem door_met (os : Os) (args : Array Value) : laidMetH Tryz.prog laidL ((doorL os).forCall (fun _ _ => 0) ⟨#[], args, []⟩).memory :=
  laidMetH_of_parts3 (fuel := 8) (laidMet_of_run' 8 (door1 os args) (door2 os args)) (by kernel_rfl) (by kernel_rfl)
end Go.Proofs.YtenikchlnfhikaaGreatDoor

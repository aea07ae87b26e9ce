/-
  DERIVED. GIVEN WITH THE SEED: THE CARDS: each row of YtefpejnmhlhnkaaGreatDoorRows.lean that lists a variable, with what it lists TIED to the program's text (the seventh form; the later family's looks); each row that meets fmt, with fmt's text TOLD by the authors' own Lean function (tested against real Go, not proved from fmt's source: count such statements apart). THE CARD IS WHAT COUNTS. Prove the row's statement (the work); the ties are given (YtefpejnmhlhnkaaGreatDoorTie.lean); close each card by the builder's one call (the guide's Derived/Test/ToyasCard.lean, 'card_holds'). Laid BY PROGRAM, IN A SANDBOX (cutbox-door.mjs). By AI agents, Wed Nov 11 2026. No macro, syntax, notation, axiom, sorry.
-/
import Derived.Test.YtefpejnmhlhnkaaGreatDoorRows
import GoSem.ClaimSeven
namespace Go.Proofs.YtefpejnmhlhnkaaGreatDoor
namespace Rows

/-- THE TIED CARD OF 'debenturelaw28.DeskLines'. -/
def deskLinesCard : Claim7 := { stood := { row := deskLinesRow, standIns := [], harness := (true, "14ef7a324ef58652c0e02d94aa5ea6cce208d77056b15f9ed2cd3ec0e7a8e6eb"), looks := true }, kinds := [], alts := [], laidByText := true, laidKinds := [.sentinel, .sentinel, .data, .data, .data, .data], laidTests := true, laidLooks := .later }
def DeskLinesCardSaid : Prop := Claim7.holds Tryz.pinned (.plain (OpenSpec.ofChange deskLinesSpec)) deskLinesCard

/-- THE TIED CARD OF 'debenturelaw28.DeskNone'. -/
def deskNoneCard : Claim7 := { stood := { row := deskNoneRow, standIns := [], harness := (true, "14ef7a324ef58652c0e02d94aa5ea6cce208d77056b15f9ed2cd3ec0e7a8e6eb"), looks := true }, kinds := [], alts := [], laidByText := true, laidKinds := [.sentinel, .sentinel, .data, .data, .data, .data], laidTests := true, laidLooks := .later }
def DeskNoneCardSaid : Prop := Claim7.holds Tryz.pinned (.plain (OpenSpec.ofChange deskNoneSpec)) deskNoneCard

/-- THE SECOND FORM's CARD OF 'debenturelaw28.DeskLines'. -/
def deskLinesUptoCard : Claim7 := { stood := { row := deskLinesUptoRow, standIns := [], harness := (true, "14ef7a324ef58652c0e02d94aa5ea6cce208d77056b15f9ed2cd3ec0e7a8e6eb"), looks := true }, kinds := [], alts := [], laidByText := true, laidKinds := [.sentinel, .sentinel, .data, .data, .data, .data], laidTests := true, laidLooks := .later }
def DeskLinesUptoCardSaid : Prop := Claim7.holds Tryz.pinned (.plain (OpenSpec.upto deskLinesSpec)) deskLinesUptoCard

/-- THE SECOND FORM's CARD OF 'debenturelaw28.DeskNone'. -/
def deskNoneUptoCard : Claim7 := { stood := { row := deskNoneUptoRow, standIns := [], harness := (true, "14ef7a324ef58652c0e02d94aa5ea6cce208d77056b15f9ed2cd3ec0e7a8e6eb"), looks := true }, kinds := [], alts := [], laidByText := true, laidKinds := [.sentinel, .sentinel, .data, .data, .data, .data], laidTests := true, laidLooks := .later }
def DeskNoneUptoCardSaid : Prop := Claim7.holds Tryz.pinned (.plain (OpenSpec.upto deskNoneSpec)) deskNoneUptoCard
end Rows
end Go.Proofs.YtefpejnmhlhnkaaGreatDoor

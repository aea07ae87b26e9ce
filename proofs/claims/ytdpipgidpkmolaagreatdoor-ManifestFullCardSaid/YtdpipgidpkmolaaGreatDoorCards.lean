/-
  DERIVED. GIVEN WITH THE SEED: THE CARDS: each row of YtdpipgidpkmolaaGreatDoorRows.lean that lists a variable, with what it lists TIED to the program's text (the seventh form; the later family's looks); each row that meets fmt, with fmt's text TOLD by the authors' own Lean function (tested against real Go, not proved from fmt's source: count such statements apart). THE CARD IS WHAT COUNTS. Prove the row's statement (the work); the ties are given (YtdpipgidpkmolaaGreatDoorTie.lean); close each card by the builder's one call (the guide's Derived/Test/ToyasCard.lean, 'card_holds'). Laid BY PROGRAM, IN A SANDBOX (cutbox-door.mjs). By AI agents, Wed Nov 11 2026. No macro, syntax, notation, axiom, sorry.
-/
import Derived.Test.YtdpipgidpkmolaaGreatDoorRows
import GoSem.ClaimSeven
namespace Go.Proofs.YtdpipgidpkmolaaGreatDoor
namespace Rows

/-- THE TIED CARD OF 'debenturelaw13.ManifestFull'. -/
def manifestFullCard : Claim7 := { stood := { row := manifestFullRow, standIns := [], harness := (true, "7c470ec08df3b45fc7e3af8af2a29a9c5a9121e3b86b5d2f779d516b7e9a1f00"), looks := true }, kinds := [], alts := [], laidByText := true, laidKinds := [.data, .data, .data, .data, .sentinel, .sentinel], laidTests := true, laidLooks := .later }
def ManifestFullCardSaid : Prop := Claim7.holds Tryz.pinned (.plain (OpenSpec.ofChange manifestFullSpec)) manifestFullCard

/-- THE TIED CARD OF 'debenturelaw13.ManifestNone'. -/
def manifestNoneCard : Claim7 := { stood := { row := manifestNoneRow, standIns := [], harness := (true, "7c470ec08df3b45fc7e3af8af2a29a9c5a9121e3b86b5d2f779d516b7e9a1f00"), looks := true }, kinds := [], alts := [], laidByText := true, laidKinds := [.data, .data, .data, .data, .sentinel, .sentinel], laidTests := true, laidLooks := .later }
def ManifestNoneCardSaid : Prop := Claim7.holds Tryz.pinned (.plain (OpenSpec.ofChange manifestNoneSpec)) manifestNoneCard

/-- THE SECOND FORM's CARD OF 'debenturelaw13.ManifestFull'. -/
def manifestFullUptoCard : Claim7 := { stood := { row := manifestFullUptoRow, standIns := [], harness := (true, "7c470ec08df3b45fc7e3af8af2a29a9c5a9121e3b86b5d2f779d516b7e9a1f00"), looks := true }, kinds := [], alts := [], laidByText := true, laidKinds := [.data, .data, .data, .data, .sentinel, .sentinel], laidTests := true, laidLooks := .later }
def ManifestFullUptoCardSaid : Prop := Claim7.holds Tryz.pinned (.plain (OpenSpec.upto manifestFullSpec)) manifestFullUptoCard

/-- THE SECOND FORM's CARD OF 'debenturelaw13.ManifestNone'. -/
def manifestNoneUptoCard : Claim7 := { stood := { row := manifestNoneUptoRow, standIns := [], harness := (true, "7c470ec08df3b45fc7e3af8af2a29a9c5a9121e3b86b5d2f779d516b7e9a1f00"), looks := true }, kinds := [], alts := [], laidByText := true, laidKinds := [.data, .data, .data, .data, .sentinel, .sentinel], laidTests := true, laidLooks := .later }
def ManifestNoneUptoCardSaid : Prop := Claim7.holds Tryz.pinned (.plain (OpenSpec.upto manifestNoneSpec)) manifestNoneUptoCard
end Rows
end Go.Proofs.YtdpipgidpkmolaaGreatDoor

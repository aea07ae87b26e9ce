/-
  DERIVED. GIVEN WITH THE SEED: THE CARDS: each row of YtenikchlnfhikaaGreatDoorRows.lean that lists a variable, with what it lists TIED to the program's text (the seventh form; the later family's looks); each row that meets fmt, with fmt's text TOLD by the authors' own Lean function (tested against real Go, not proved from fmt's source: count such statements apart). THE CARD IS WHAT COUNTS. Prove the row's statement (the work); the ties are given (YtenikchlnfhikaaGreatDoorTie.lean); close each card by the builder's one call (the guide's Derived/Test/ToyasCard.lean, 'card_holds'). Laid BY PROGRAM, IN A SANDBOX (cutbox-door.mjs). By AI agents, Wed Nov 11 2026. No macro, syntax, notation, axiom, sorry.
-/
import Derived.Test.YtenikchlnfhikaaGreatDoorRows
import GoSem.ClaimSeven
namespace Go.Proofs.YtenikchlnfhikaaGreatDoor
namespace Rows

/-- THE TIED CARD OF 'debenturelaw26.EngineAsks'. -/
def engineAsksCard : Claim7 := { stood := { row := engineAsksRow, standIns := [], harness := (true, "1ce0cc3bba0e40533cc3edafa8a4ca401495f6ef636b0550eb557ef9769d0302"), looks := true }, kinds := [], alts := [], laidByText := true, laidKinds := [.sentinel, .sentinel, .data, .data, .data, .data], laidTests := true, laidLooks := .later }
def EngineAsksCardSaid : Prop := Claim7.holds Tryz.pinned (.plain (OpenSpec.ofChange engineAsksSpec)) engineAsksCard

/-- THE TIED CARD OF 'debenturelaw26.EngineNone'. -/
def engineNoneCard : Claim7 := { stood := { row := engineNoneRow, standIns := [], harness := (true, "1ce0cc3bba0e40533cc3edafa8a4ca401495f6ef636b0550eb557ef9769d0302"), looks := true }, kinds := [], alts := [], laidByText := true, laidKinds := [.sentinel, .sentinel, .data, .data, .data, .data], laidTests := true, laidLooks := .later }
def EngineNoneCardSaid : Prop := Claim7.holds Tryz.pinned (.plain (OpenSpec.ofChange engineNoneSpec)) engineNoneCard

/-- THE TIED CARD OF 'debenturelaw27.ArchiveNone'. -/
def archiveNoneCard : Claim7 := { stood := { row := archiveNoneRow, standIns := [], harness := (true, "1ce0cc3bba0e40533cc3edafa8a4ca401495f6ef636b0550eb557ef9769d0302"), looks := true }, kinds := [], alts := [], laidByText := true, laidKinds := [.sentinel, .sentinel, .data, .data, .data, .data], laidTests := true, laidLooks := .later }
def ArchiveNoneCardSaid : Prop := Claim7.holds Tryz.pinned (.plain (OpenSpec.ofChange archiveNoneSpec)) archiveNoneCard

/-- THE SECOND FORM's CARD OF 'debenturelaw26.EngineAsks'. -/
def engineAsksUptoCard : Claim7 := { stood := { row := engineAsksUptoRow, standIns := [], harness := (true, "1ce0cc3bba0e40533cc3edafa8a4ca401495f6ef636b0550eb557ef9769d0302"), looks := true }, kinds := [], alts := [], laidByText := true, laidKinds := [.sentinel, .sentinel, .data, .data, .data, .data], laidTests := true, laidLooks := .later }
def EngineAsksUptoCardSaid : Prop := Claim7.holds Tryz.pinned (.plain (OpenSpec.upto engineAsksSpec)) engineAsksUptoCard

/-- THE SECOND FORM's CARD OF 'debenturelaw26.EngineNone'. -/
def engineNoneUptoCard : Claim7 := { stood := { row := engineNoneUptoRow, standIns := [], harness := (true, "1ce0cc3bba0e40533cc3edafa8a4ca401495f6ef636b0550eb557ef9769d0302"), looks := true }, kinds := [], alts := [], laidByText := true, laidKinds := [.sentinel, .sentinel, .data, .data, .data, .data], laidTests := true, laidLooks := .later }
def EngineNoneUptoCardSaid : Prop := Claim7.holds Tryz.pinned (.plain (OpenSpec.upto engineNoneSpec)) engineNoneUptoCard

/-- THE SECOND FORM's CARD OF 'debenturelaw27.ArchiveNone'. -/
def archiveNoneUptoCard : Claim7 := { stood := { row := archiveNoneUptoRow, standIns := [], harness := (true, "1ce0cc3bba0e40533cc3edafa8a4ca401495f6ef636b0550eb557ef9769d0302"), looks := true }, kinds := [], alts := [], laidByText := true, laidKinds := [.sentinel, .sentinel, .data, .data, .data, .data], laidTests := true, laidLooks := .later }
def ArchiveNoneUptoCardSaid : Prop := Claim7.holds Tryz.pinned (.plain (OpenSpec.upto archiveNoneSpec)) archiveNoneUptoCard
end Rows
end Go.Proofs.YtenikchlnfhikaaGreatDoor

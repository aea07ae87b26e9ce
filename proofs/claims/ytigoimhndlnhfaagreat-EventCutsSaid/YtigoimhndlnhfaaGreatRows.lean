/-
  No cell of these rows narrows 'for every input' (looked for: loops, veiled, ifaces, maps, wideKeys, modest, calm, conditions, laid).
  DERIVED. THE GIVEN ROWS OF THIS SEAT. 6 by the template 'for every input the law returns true; each argument reads behind the call as it read before'; 0 by the template 'total and deterministic' (their statements: YtigoimhndlnhfaaGreatTotals.lean).
  GIVEN WITH THE SEED: the statements are not yours to turn. If you find one false, say at which input.
  Laid BY PROGRAM, IN A SANDBOX (cutbox-rows.mjs): the forced cells as the released guide's own fill.sh prints them over the translation 954ad47d1e03d739… (all of the seat's roots in one cut). By AI agents, Wed Nov 11 2026. No macro, syntax, notation, axiom, sorry.
-/
import Derived.Test.YtigoimhndlnhfaaGreatChecked
import GoSem.Claim
import GoSem.ClaimJoined
import GoSem.ClaimMapViews
import Derived.JoinedTies
import Derived.KernelRfl
namespace Go.Proofs.YtigoimhndlnhfaaGreat
/- THE CELL 'sum', in the pinned program and in every row, IS THE sha256 OF THE DUMP (.gsa) THAT YtigoimhndlnhfaaGreatProg.lean LOADS. Nothing in Lean hashes anything: it is a label: what it is worth is what the hold of that sum in a sandbox is worth. -/
noncomputable def Tryz.pinned : Pinned := { name := "ytigoimhndlnhfaagreat", sum := "954ad47d1e03d7398c476dc1ba4199b6e352a7e531531bae49b61985bbd242b6", checked := Tryz.checked }
namespace Rows
def none {H : Type} : Left H := { results := [], args := [] }

/-- 'debenturelaw25.EventRights': WHATEVER THE INPUT: true; the input reads as it did. -/
def eventRightsSpec : ChangeSpec := { name := "eventRights", fn := fun _ => fun
  | [d] => { results := [.lit (.bool true)], args := [d] }
  | _ => none }
def eventRightsRow : OpenClaim := { program := "ytigoimhndlnhfaagreat", sum := "954ad47d1e03d7398c476dc1ba4199b6e352a7e531531bae49b61985bbd242b6", func := "debenture/debenturelaw25.EventRights", spec := "eventRights", inPlace := ["internal/bytealg.IndexByteString", "internal/bytealg.IndexString", "internal/abi.NoEscape"], unfollowed := true, recurses := true, named := ["internal/bytealg.MaxLen"], apart := false }
def EventRightsSaid : Prop := eventRightsRow.holds Tryz.pinned (OpenSpec.ofChange eventRightsSpec)

/-- ITS FALSE NEIGHBOUR: 'it returns false'. Refute it at one input. -/
def eventRightsWrong : ChangeSpec := { name := "eventRights", fn := fun _ => fun
  | [d] => { results := [.lit (.bool false)], args := [d] }
  | _ => none }
def EventRightsWrongFalsely : Prop := eventRightsRow.holds Tryz.pinned (OpenSpec.ofChange eventRightsWrong)

/-- 'debenturelaw25.EventDecodes': WHATEVER THE INPUT: true; the input reads as it did. -/
def eventDecodesSpec : ChangeSpec := { name := "eventDecodes", fn := fun _ => fun
  | [d] => { results := [.lit (.bool true)], args := [d] }
  | _ => none }
def eventDecodesRow : OpenClaim := { program := "ytigoimhndlnhfaagreat", sum := "954ad47d1e03d7398c476dc1ba4199b6e352a7e531531bae49b61985bbd242b6", func := "debenture/debenturelaw25.EventDecodes", spec := "eventDecodes", inPlace := ["internal/bytealg.IndexByteString", "internal/bytealg.IndexString", "internal/abi.NoEscape"], unfollowed := true, recurses := true, named := ["internal/bytealg.MaxLen"], apart := false }
def EventDecodesSaid : Prop := eventDecodesRow.holds Tryz.pinned (OpenSpec.ofChange eventDecodesSpec)

/-- ITS FALSE NEIGHBOUR: 'it returns false'. Refute it at one input. -/
def eventDecodesWrong : ChangeSpec := { name := "eventDecodes", fn := fun _ => fun
  | [d] => { results := [.lit (.bool false)], args := [d] }
  | _ => none }
def EventDecodesWrongFalsely : Prop := eventDecodesRow.holds Tryz.pinned (OpenSpec.ofChange eventDecodesWrong)

/-- 'debenturelaw25.EventBack': WHATEVER THE INPUT: true; the input reads as it did. -/
def eventBackSpec : ChangeSpec := { name := "eventBack", fn := fun _ => fun
  | [d1, d2] => { results := [.lit (.bool true)], args := [d1, d2] }
  | _ => none }
def eventBackRow : OpenClaim := { program := "ytigoimhndlnhfaagreat", sum := "954ad47d1e03d7398c476dc1ba4199b6e352a7e531531bae49b61985bbd242b6", func := "debenture/debenturelaw25.EventBack", spec := "eventBack", inPlace := ["internal/bytealg.IndexByteString", "internal/bytealg.IndexString", "internal/abi.NoEscape"], unfollowed := true, recurses := true, named := ["internal/bytealg.MaxLen"], apart := false }
def EventBackSaid : Prop := eventBackRow.holds Tryz.pinned (OpenSpec.ofChange eventBackSpec)

/-- ITS FALSE NEIGHBOUR: 'it returns false'. Refute it at one input. -/
def eventBackWrong : ChangeSpec := { name := "eventBack", fn := fun _ => fun
  | [d1, d2] => { results := [.lit (.bool false)], args := [d1, d2] }
  | _ => none }
def EventBackWrongFalsely : Prop := eventBackRow.holds Tryz.pinned (OpenSpec.ofChange eventBackWrong)

/-- 'debenturelaw25.EventPacks': WHATEVER THE INPUT: true; the input reads as it did. -/
def eventPacksSpec : ChangeSpec := { name := "eventPacks", fn := fun _ => fun
  | [d] => { results := [.lit (.bool true)], args := [d] }
  | _ => none }
def eventPacksRow : OpenClaim := { program := "ytigoimhndlnhfaagreat", sum := "954ad47d1e03d7398c476dc1ba4199b6e352a7e531531bae49b61985bbd242b6", func := "debenture/debenturelaw25.EventPacks", spec := "eventPacks", inPlace := ["internal/bytealg.IndexByteString", "internal/bytealg.IndexString", "internal/abi.NoEscape"], unfollowed := true, recurses := true, named := ["internal/bytealg.MaxLen"], apart := false }
def EventPacksSaid : Prop := eventPacksRow.holds Tryz.pinned (OpenSpec.ofChange eventPacksSpec)

/-- ITS FALSE NEIGHBOUR: 'it returns false'. Refute it at one input. -/
def eventPacksWrong : ChangeSpec := { name := "eventPacks", fn := fun _ => fun
  | [d] => { results := [.lit (.bool false)], args := [d] }
  | _ => none }
def EventPacksWrongFalsely : Prop := eventPacksRow.holds Tryz.pinned (OpenSpec.ofChange eventPacksWrong)

/-- 'debenturelaw25.EventUnpacks': WHATEVER THE INPUT: true; the input reads as it did. -/
def eventUnpacksSpec : ChangeSpec := { name := "eventUnpacks", fn := fun _ => fun
  | [d] => { results := [.lit (.bool true)], args := [d] }
  | _ => none }
def eventUnpacksRow : OpenClaim := { program := "ytigoimhndlnhfaagreat", sum := "954ad47d1e03d7398c476dc1ba4199b6e352a7e531531bae49b61985bbd242b6", func := "debenture/debenturelaw25.EventUnpacks", spec := "eventUnpacks", inPlace := ["internal/bytealg.IndexByteString", "internal/bytealg.IndexString", "internal/abi.NoEscape"], unfollowed := true, recurses := true, named := ["internal/bytealg.MaxLen"], apart := false }
def EventUnpacksSaid : Prop := eventUnpacksRow.holds Tryz.pinned (OpenSpec.ofChange eventUnpacksSpec)

/-- ITS FALSE NEIGHBOUR: 'it returns false'. Refute it at one input. -/
def eventUnpacksWrong : ChangeSpec := { name := "eventUnpacks", fn := fun _ => fun
  | [d] => { results := [.lit (.bool false)], args := [d] }
  | _ => none }
def EventUnpacksWrongFalsely : Prop := eventUnpacksRow.holds Tryz.pinned (OpenSpec.ofChange eventUnpacksWrong)

/-- 'debenturelaw25.EventCuts': WHATEVER THE INPUT: true; the input reads as it did. -/
def eventCutsSpec : ChangeSpec := { name := "eventCuts", fn := fun _ => fun
  | [d1, d2, d3] => { results := [.lit (.bool true)], args := [d1, d2, d3] }
  | _ => none }
def eventCutsRow : OpenClaim := { program := "ytigoimhndlnhfaagreat", sum := "954ad47d1e03d7398c476dc1ba4199b6e352a7e531531bae49b61985bbd242b6", func := "debenture/debenturelaw25.EventCuts", spec := "eventCuts", inPlace := ["internal/bytealg.IndexByteString", "internal/bytealg.IndexString", "internal/abi.NoEscape"], unfollowed := true, recurses := true, named := ["internal/bytealg.MaxLen"], apart := false }
def EventCutsSaid : Prop := eventCutsRow.holds Tryz.pinned (OpenSpec.ofChange eventCutsSpec)

/-- ITS FALSE NEIGHBOUR: 'it returns false'. Refute it at one input. -/
def eventCutsWrong : ChangeSpec := { name := "eventCuts", fn := fun _ => fun
  | [d1, d2, d3] => { results := [.lit (.bool false)], args := [d1, d2, d3] }
  | _ => none }
def EventCutsWrongFalsely : Prop := eventCutsRow.holds Tryz.pinned (OpenSpec.ofChange eventCutsWrong)

/- THE SECOND FORM. 'bulk': how many values and letters a reading holds, each counted each time it is reached (what is shared counts as often as it is met; a slice's spare places count too). A statement '..UptoSaid' is the law's where the arguments, and the package variables that the reading takes, are together of bulk at most 1048576: NARROWER than '..Said'. Prove '..Said' where nothing that the law and all that it calls make is longer than what came in: it says more and counts as full. Else prove '..UptoSaid'. A law counts once. -/
mutual
def uptoBulk {H : Type} : DataW H → Nat
  | .lit (.string bytes) => bytes.length + 1
  | .lit _ => 1
  | .nil => 1
  | .ptr d => uptoBulk d + 1
  | .slice elems spare => uptoBulkAll elems + uptoBulkAll spare + 1
  | .agg parts => uptoBulkAll parts + 1
  | .iface _ d => uptoBulk d + 1
  | .map entries => uptoBulkEntries entries + 1
  | .held _ => 1
def uptoBulkAll {H : Type} : List (DataW H) → Nat
  | [] => 0
  | d :: r => uptoBulk d + uptoBulkAll r
def uptoBulkEntries {H : Type} : List (Lit × DataW H) → Nat
  | [] => 0
  | x :: r => uptoBulkEntry x + uptoBulkEntries r
def uptoBulkEntry {H : Type} : Lit × DataW H → Nat
  | (.string bytes, d) => bytes.length + uptoBulk d + 1
  | (_, d) => uptoBulk d + 1
 end
def uptoSmall : (H : Type) → List (DataW H) → Bool := fun _ ds => decide (uptoBulkAll ds ≤ 1048576)
def OpenSpec.upto (s : _root_.Go.ChangeSpec) : _root_.Go.OpenSpec := { _root_.Go.OpenSpec.ofChange s with cond := some uptoSmall }

/-- 'debenturelaw25.EventRights', WHERE WHAT IT READS IS OF BULK AT MOST 1048576: true; the input reads as it did. -/
def eventRightsUptoRow : OpenClaim := { program := "ytigoimhndlnhfaagreat", sum := "954ad47d1e03d7398c476dc1ba4199b6e352a7e531531bae49b61985bbd242b6", func := "debenture/debenturelaw25.EventRights", spec := "eventRights", inPlace := ["internal/bytealg.IndexByteString", "internal/bytealg.IndexString", "internal/abi.NoEscape"], unfollowed := true, recurses := true, named := ["internal/bytealg.MaxLen"], apart := false, narrowed := true }
def EventRightsUptoSaid : Prop := eventRightsUptoRow.holds Tryz.pinned (OpenSpec.upto eventRightsSpec)

/-- 'debenturelaw25.EventDecodes', WHERE WHAT IT READS IS OF BULK AT MOST 1048576: true; the input reads as it did. -/
def eventDecodesUptoRow : OpenClaim := { program := "ytigoimhndlnhfaagreat", sum := "954ad47d1e03d7398c476dc1ba4199b6e352a7e531531bae49b61985bbd242b6", func := "debenture/debenturelaw25.EventDecodes", spec := "eventDecodes", inPlace := ["internal/bytealg.IndexByteString", "internal/bytealg.IndexString", "internal/abi.NoEscape"], unfollowed := true, recurses := true, named := ["internal/bytealg.MaxLen"], apart := false, narrowed := true }
def EventDecodesUptoSaid : Prop := eventDecodesUptoRow.holds Tryz.pinned (OpenSpec.upto eventDecodesSpec)

/-- 'debenturelaw25.EventBack', WHERE WHAT IT READS IS OF BULK AT MOST 1048576: true; the input reads as it did. -/
def eventBackUptoRow : OpenClaim := { program := "ytigoimhndlnhfaagreat", sum := "954ad47d1e03d7398c476dc1ba4199b6e352a7e531531bae49b61985bbd242b6", func := "debenture/debenturelaw25.EventBack", spec := "eventBack", inPlace := ["internal/bytealg.IndexByteString", "internal/bytealg.IndexString", "internal/abi.NoEscape"], unfollowed := true, recurses := true, named := ["internal/bytealg.MaxLen"], apart := false, narrowed := true }
def EventBackUptoSaid : Prop := eventBackUptoRow.holds Tryz.pinned (OpenSpec.upto eventBackSpec)

/-- 'debenturelaw25.EventPacks', WHERE WHAT IT READS IS OF BULK AT MOST 1048576: true; the input reads as it did. -/
def eventPacksUptoRow : OpenClaim := { program := "ytigoimhndlnhfaagreat", sum := "954ad47d1e03d7398c476dc1ba4199b6e352a7e531531bae49b61985bbd242b6", func := "debenture/debenturelaw25.EventPacks", spec := "eventPacks", inPlace := ["internal/bytealg.IndexByteString", "internal/bytealg.IndexString", "internal/abi.NoEscape"], unfollowed := true, recurses := true, named := ["internal/bytealg.MaxLen"], apart := false, narrowed := true }
def EventPacksUptoSaid : Prop := eventPacksUptoRow.holds Tryz.pinned (OpenSpec.upto eventPacksSpec)

/-- 'debenturelaw25.EventUnpacks', WHERE WHAT IT READS IS OF BULK AT MOST 1048576: true; the input reads as it did. -/
def eventUnpacksUptoRow : OpenClaim := { program := "ytigoimhndlnhfaagreat", sum := "954ad47d1e03d7398c476dc1ba4199b6e352a7e531531bae49b61985bbd242b6", func := "debenture/debenturelaw25.EventUnpacks", spec := "eventUnpacks", inPlace := ["internal/bytealg.IndexByteString", "internal/bytealg.IndexString", "internal/abi.NoEscape"], unfollowed := true, recurses := true, named := ["internal/bytealg.MaxLen"], apart := false, narrowed := true }
def EventUnpacksUptoSaid : Prop := eventUnpacksUptoRow.holds Tryz.pinned (OpenSpec.upto eventUnpacksSpec)

/-- 'debenturelaw25.EventCuts', WHERE WHAT IT READS IS OF BULK AT MOST 1048576: true; the input reads as it did. -/
def eventCutsUptoRow : OpenClaim := { program := "ytigoimhndlnhfaagreat", sum := "954ad47d1e03d7398c476dc1ba4199b6e352a7e531531bae49b61985bbd242b6", func := "debenture/debenturelaw25.EventCuts", spec := "eventCuts", inPlace := ["internal/bytealg.IndexByteString", "internal/bytealg.IndexString", "internal/abi.NoEscape"], unfollowed := true, recurses := true, named := ["internal/bytealg.MaxLen"], apart := false, narrowed := true }
def EventCutsUptoSaid : Prop := eventCutsUptoRow.holds Tryz.pinned (OpenSpec.upto eventCutsSpec)

end Rows
end Go.Proofs.YtigoimhndlnhfaaGreat

/-
  No cell of these rows narrows 'for every input' (looked for: loops, veiled, ifaces, maps, wideKeys, modest, calm, conditions, laid).
  DERIVED. THE GIVEN ROWS OF THIS SEAT. 10 by the template 'for every input the law returns true; each argument reads behind the call as it read before'; 0 by the template 'total and deterministic' (their statements: YtpdeihienkbeeaaTotals.lean).
  GIVEN WITH THE SEED: the statements are not yours to turn. If you find one false, say at which input.
  Laid BY PROGRAM, IN A SANDBOX (cutbox-rows.mjs): the forced cells as the released guide's own fill.sh prints them over the translation e336abf9acec0b42… (all of the seat's roots in one cut). By AI agents, Wed Nov 11 2026. No macro, syntax, notation, axiom, sorry.
-/
import Derived.Test.YtpdeihienkbeeaaChecked
import GoSem.Claim
import GoSem.ClaimJoined
import GoSem.ClaimMapViews
import Derived.JoinedTies
import Derived.KernelRfl
namespace Go.Proofs.Ytpdeihienkbeeaa
/- THE CELL 'sum', in the pinned program and in every row, IS THE sha256 OF THE DUMP (.gsa) THAT YtpdeihienkbeeaaProg.lean LOADS. Nothing in Lean hashes anything: it is a label: what it is worth is what the hold of that sum in a sandbox is worth. -/
noncomputable def Try.pinned : Pinned := { name := "ytpdeihienkbeeaa", sum := "e336abf9acec0b42c6030840dd70d16a506087f1f85f783cfff8fb1a15204a62", checked := Try.checked }
namespace Rows
def none {H : Type} : Left H := { results := [], args := [] }

/-- 'debenturelaw01.NumDivides': WHATEVER THE INPUT: true; the input reads as it did. -/
def numDividesSpec : ChangeSpec := { name := "numDivides", fn := fun _ => fun
  | [d1, d2, d3, d4] => { results := [.lit (.bool true)], args := [d1, d2, d3, d4] }
  | _ => none }
def numDividesRow : OpenClaim := { program := "ytpdeihienkbeeaa", sum := "e336abf9acec0b42c6030840dd70d16a506087f1f85f783cfff8fb1a15204a62", func := "debenture/debenturelaw01.NumDivides", spec := "numDivides", inPlace := ["math/bits.Add64"], named := ["math/bits.divideError", "math/bits.overflowError"], apart := false }
def NumDividesSaid : Prop := numDividesRow.holds Try.pinned (OpenSpec.ofChange numDividesSpec)

/-- ITS FALSE NEIGHBOUR: 'it returns false'. Refute it at one input. -/
def numDividesWrong : ChangeSpec := { name := "numDivides", fn := fun _ => fun
  | [d1, d2, d3, d4] => { results := [.lit (.bool false)], args := [d1, d2, d3, d4] }
  | _ => none }
def NumDividesWrongFalsely : Prop := numDividesRow.holds Try.pinned (OpenSpec.ofChange numDividesWrong)

/-- 'debenturelaw01.NumSums': WHATEVER THE INPUT: true; the input reads as it did. -/
def numSumsSpec : ChangeSpec := { name := "numSums", fn := fun _ => fun
  | [d] => { results := [.lit (.bool true)], args := [d] }
  | _ => none }
def numSumsRow : OpenClaim := { program := "ytpdeihienkbeeaa", sum := "e336abf9acec0b42c6030840dd70d16a506087f1f85f783cfff8fb1a15204a62", func := "debenture/debenturelaw01.NumSums", spec := "numSums", inPlace := ["math/bits.Add64"], named := ["math/bits.divideError", "math/bits.overflowError"], apart := false }
def NumSumsSaid : Prop := numSumsRow.holds Try.pinned (OpenSpec.ofChange numSumsSpec)

/-- ITS FALSE NEIGHBOUR: 'it returns false'. Refute it at one input. -/
def numSumsWrong : ChangeSpec := { name := "numSums", fn := fun _ => fun
  | [d] => { results := [.lit (.bool false)], args := [d] }
  | _ => none }
def NumSumsWrongFalsely : Prop := numSumsRow.holds Try.pinned (OpenSpec.ofChange numSumsWrong)

/-- 'debenturelaw01.NumShares': WHATEVER THE INPUT: true; the input reads as it did. -/
def numSharesSpec : ChangeSpec := { name := "numShares", fn := fun _ => fun
  | [d1, d2] => { results := [.lit (.bool true)], args := [d1, d2] }
  | _ => none }
def numSharesRow : OpenClaim := { program := "ytpdeihienkbeeaa", sum := "e336abf9acec0b42c6030840dd70d16a506087f1f85f783cfff8fb1a15204a62", func := "debenture/debenturelaw01.NumShares", spec := "numShares", inPlace := ["math/bits.Add64"], named := ["math/bits.divideError", "math/bits.overflowError"], apart := false }
def NumSharesSaid : Prop := numSharesRow.holds Try.pinned (OpenSpec.ofChange numSharesSpec)

/-- ITS FALSE NEIGHBOUR: 'it returns false'. Refute it at one input. -/
def numSharesWrong : ChangeSpec := { name := "numShares", fn := fun _ => fun
  | [d1, d2] => { results := [.lit (.bool false)], args := [d1, d2] }
  | _ => none }
def NumSharesWrongFalsely : Prop := numSharesRow.holds Try.pinned (OpenSpec.ofChange numSharesWrong)

/-- 'debenturelaw01.NumWhole': WHATEVER THE INPUT: true; the input reads as it did. -/
def numWholeSpec : ChangeSpec := { name := "numWhole", fn := fun _ => fun
  | [d1, d2] => { results := [.lit (.bool true)], args := [d1, d2] }
  | _ => none }
def numWholeRow : OpenClaim := { program := "ytpdeihienkbeeaa", sum := "e336abf9acec0b42c6030840dd70d16a506087f1f85f783cfff8fb1a15204a62", func := "debenture/debenturelaw01.NumWhole", spec := "numWhole", inPlace := ["math/bits.Add64"], named := ["math/bits.divideError", "math/bits.overflowError"], apart := false }
def NumWholeSaid : Prop := numWholeRow.holds Try.pinned (OpenSpec.ofChange numWholeSpec)

/-- ITS FALSE NEIGHBOUR: 'it returns false'. Refute it at one input. -/
def numWholeWrong : ChangeSpec := { name := "numWhole", fn := fun _ => fun
  | [d1, d2] => { results := [.lit (.bool false)], args := [d1, d2] }
  | _ => none }
def NumWholeWrongFalsely : Prop := numWholeRow.holds Try.pinned (OpenSpec.ofChange numWholeWrong)

/-- 'debenturelaw01.NumNear': WHATEVER THE INPUT: true; the input reads as it did. -/
def numNearSpec : ChangeSpec := { name := "numNear", fn := fun _ => fun
  | [d1, d2, d3] => { results := [.lit (.bool true)], args := [d1, d2, d3] }
  | _ => none }
def numNearRow : OpenClaim := { program := "ytpdeihienkbeeaa", sum := "e336abf9acec0b42c6030840dd70d16a506087f1f85f783cfff8fb1a15204a62", func := "debenture/debenturelaw01.NumNear", spec := "numNear", inPlace := ["math/bits.Add64"], named := ["math/bits.divideError", "math/bits.overflowError"], apart := false }
def NumNearSaid : Prop := numNearRow.holds Try.pinned (OpenSpec.ofChange numNearSpec)

/-- ITS FALSE NEIGHBOUR: 'it returns false'. Refute it at one input. -/
def numNearWrong : ChangeSpec := { name := "numNear", fn := fun _ => fun
  | [d1, d2, d3] => { results := [.lit (.bool false)], args := [d1, d2, d3] }
  | _ => none }
def NumNearWrongFalsely : Prop := numNearRow.holds Try.pinned (OpenSpec.ofChange numNearWrong)

/-- 'debenturelaw01.NumAdds': WHATEVER THE INPUT: true; the input reads as it did. -/
def numAddsSpec : ChangeSpec := { name := "numAdds", fn := fun _ => fun
  | [d1, d2] => { results := [.lit (.bool true)], args := [d1, d2] }
  | _ => none }
def numAddsRow : OpenClaim := { program := "ytpdeihienkbeeaa", sum := "e336abf9acec0b42c6030840dd70d16a506087f1f85f783cfff8fb1a15204a62", func := "debenture/debenturelaw01.NumAdds", spec := "numAdds", inPlace := ["math/bits.Add64"], named := ["math/bits.divideError", "math/bits.overflowError"], apart := false }
def NumAddsSaid : Prop := numAddsRow.holds Try.pinned (OpenSpec.ofChange numAddsSpec)

/-- ITS FALSE NEIGHBOUR: 'it returns false'. Refute it at one input. -/
def numAddsWrong : ChangeSpec := { name := "numAdds", fn := fun _ => fun
  | [d1, d2] => { results := [.lit (.bool false)], args := [d1, d2] }
  | _ => none }
def NumAddsWrongFalsely : Prop := numAddsRow.holds Try.pinned (OpenSpec.ofChange numAddsWrong)

/-- 'debenturelaw01.NumCompares': WHATEVER THE INPUT: true; the input reads as it did. -/
def numComparesSpec : ChangeSpec := { name := "numCompares", fn := fun _ => fun
  | [d1, d2, d3, d4] => { results := [.lit (.bool true)], args := [d1, d2, d3, d4] }
  | _ => none }
def numComparesRow : OpenClaim := { program := "ytpdeihienkbeeaa", sum := "e336abf9acec0b42c6030840dd70d16a506087f1f85f783cfff8fb1a15204a62", func := "debenture/debenturelaw01.NumCompares", spec := "numCompares", inPlace := ["math/bits.Add64"], named := ["math/bits.divideError", "math/bits.overflowError"], apart := false }
def NumComparesSaid : Prop := numComparesRow.holds Try.pinned (OpenSpec.ofChange numComparesSpec)

/-- ITS FALSE NEIGHBOUR: 'it returns false'. Refute it at one input. -/
def numComparesWrong : ChangeSpec := { name := "numCompares", fn := fun _ => fun
  | [d1, d2, d3, d4] => { results := [.lit (.bool false)], args := [d1, d2, d3, d4] }
  | _ => none }
def NumComparesWrongFalsely : Prop := numComparesRow.holds Try.pinned (OpenSpec.ofChange numComparesWrong)

/-- 'debenturelaw01.NumRatios': WHATEVER THE INPUT: true; the input reads as it did. -/
def numRatiosSpec : ChangeSpec := { name := "numRatios", fn := fun _ => fun
  | [d1, d2] => { results := [.lit (.bool true)], args := [d1, d2] }
  | _ => none }
def numRatiosRow : OpenClaim := { program := "ytpdeihienkbeeaa", sum := "e336abf9acec0b42c6030840dd70d16a506087f1f85f783cfff8fb1a15204a62", func := "debenture/debenturelaw01.NumRatios", spec := "numRatios", inPlace := ["math/bits.Add64", "math/bits.Sub64"], named := ["math/bits.divideError", "math/bits.overflowError"], apart := false }
def NumRatiosSaid : Prop := numRatiosRow.holds Try.pinned (OpenSpec.ofChange numRatiosSpec)

/-- ITS FALSE NEIGHBOUR: 'it returns false'. Refute it at one input. -/
def numRatiosWrong : ChangeSpec := { name := "numRatios", fn := fun _ => fun
  | [d1, d2] => { results := [.lit (.bool false)], args := [d1, d2] }
  | _ => none }
def NumRatiosWrongFalsely : Prop := numRatiosRow.holds Try.pinned (OpenSpec.ofChange numRatiosWrong)

/-- 'debenturelaw01.NumAmounts': WHATEVER THE INPUT: true; the input reads as it did. -/
def numAmountsSpec : ChangeSpec := { name := "numAmounts", fn := fun _ => fun
  | [d1, d2, d3] => { results := [.lit (.bool true)], args := [d1, d2, d3] }
  | _ => none }
def numAmountsRow : OpenClaim := { program := "ytpdeihienkbeeaa", sum := "e336abf9acec0b42c6030840dd70d16a506087f1f85f783cfff8fb1a15204a62", func := "debenture/debenturelaw01.NumAmounts", spec := "numAmounts", inPlace := ["internal/bytealg.IndexByteString", "internal/bytealg.IndexString", "math/bits.Add64"], named := ["internal/bytealg.MaxLen", "math/bits.divideError", "math/bits.overflowError"], apart := false }
def NumAmountsSaid : Prop := numAmountsRow.holds Try.pinned (OpenSpec.ofChange numAmountsSpec)

/-- ITS FALSE NEIGHBOUR: 'it returns false'. Refute it at one input. -/
def numAmountsWrong : ChangeSpec := { name := "numAmounts", fn := fun _ => fun
  | [d1, d2, d3] => { results := [.lit (.bool false)], args := [d1, d2, d3] }
  | _ => none }
def NumAmountsWrongFalsely : Prop := numAmountsRow.holds Try.pinned (OpenSpec.ofChange numAmountsWrong)

/-- 'debenturelaw01.NumBack': WHATEVER THE INPUT: true; the input reads as it did. -/
def numBackSpec : ChangeSpec := { name := "numBack", fn := fun _ => fun
  | [d1, d2] => { results := [.lit (.bool true)], args := [d1, d2] }
  | _ => none }
def numBackRow : OpenClaim := { program := "ytpdeihienkbeeaa", sum := "e336abf9acec0b42c6030840dd70d16a506087f1f85f783cfff8fb1a15204a62", func := "debenture/debenturelaw01.NumBack", spec := "numBack", inPlace := ["internal/bytealg.IndexByteString", "internal/bytealg.IndexString", "math/bits.Add64"], named := ["internal/bytealg.MaxLen", "math/bits.divideError", "math/bits.overflowError"], apart := false }
def NumBackSaid : Prop := numBackRow.holds Try.pinned (OpenSpec.ofChange numBackSpec)

/-- ITS FALSE NEIGHBOUR: 'it returns false'. Refute it at one input. -/
def numBackWrong : ChangeSpec := { name := "numBack", fn := fun _ => fun
  | [d1, d2] => { results := [.lit (.bool false)], args := [d1, d2] }
  | _ => none }
def NumBackWrongFalsely : Prop := numBackRow.holds Try.pinned (OpenSpec.ofChange numBackWrong)

/- THE SECOND FORM. 'bulk': how many values and letters a reading holds, each counted each time it is reached (what is shared counts as often as it is met; a slice's spare places count too). A statement '..UptoSaid' is the law's where the arguments, and the package variables that the reading takes, are together of bulk at most 1048576: NARROWER than '..Said'. Prove '..Said' where nothing that the law and all that it calls make is longer than what came in: it says more and counts as full. Else prove '..UptoSaid'. A law counts once. -/
mutual
def uptoBulk {H : Type} : DataW H → Nat
  | .lit (.string bytes) => bytes.length + 1
  | .lit _ => 1
  | .nil => 1
  | .ptr d => uptoBulk d + 1
  | .slice elems spare => uptoBulkAll elems + uptoBulkAll spare + 1
  | .agg parts => uptoBulkAll parts + 1
  | .iface _ d => uptoBulk d + 1
  | .map entries => uptoBulkEntries entries + 1
  | .held _ => 1
def uptoBulkAll {H : Type} : List (DataW H) → Nat
  | [] => 0
  | d :: r => uptoBulk d + uptoBulkAll r
def uptoBulkEntries {H : Type} : List (Lit × DataW H) → Nat
  | [] => 0
  | x :: r => uptoBulkEntry x + uptoBulkEntries r
def uptoBulkEntry {H : Type} : Lit × DataW H → Nat
  | (.string bytes, d) => bytes.length + uptoBulk d + 1
  | (_, d) => uptoBulk d + 1
 end
def uptoSmall : (H : Type) → List (DataW H) → Bool := fun _ ds => decide (uptoBulkAll ds ≤ 1048576)
def OpenSpec.upto (s : _root_.Go.ChangeSpec) : _root_.Go.OpenSpec := { _root_.Go.OpenSpec.ofChange s with cond := some uptoSmall }

/-- 'debenturelaw01.NumDivides', WHERE WHAT IT READS IS OF BULK AT MOST 1048576: true; the input reads as it did. -/
def numDividesUptoRow : OpenClaim := { program := "ytpdeihienkbeeaa", sum := "e336abf9acec0b42c6030840dd70d16a506087f1f85f783cfff8fb1a15204a62", func := "debenture/debenturelaw01.NumDivides", spec := "numDivides", inPlace := ["math/bits.Add64"], named := ["math/bits.divideError", "math/bits.overflowError"], apart := false, narrowed := true }
def NumDividesUptoSaid : Prop := numDividesUptoRow.holds Try.pinned (OpenSpec.upto numDividesSpec)

/-- 'debenturelaw01.NumSums', WHERE WHAT IT READS IS OF BULK AT MOST 1048576: true; the input reads as it did. -/
def numSumsUptoRow : OpenClaim := { program := "ytpdeihienkbeeaa", sum := "e336abf9acec0b42c6030840dd70d16a506087f1f85f783cfff8fb1a15204a62", func := "debenture/debenturelaw01.NumSums", spec := "numSums", inPlace := ["math/bits.Add64"], named := ["math/bits.divideError", "math/bits.overflowError"], apart := false, narrowed := true }
def NumSumsUptoSaid : Prop := numSumsUptoRow.holds Try.pinned (OpenSpec.upto numSumsSpec)

/-- 'debenturelaw01.NumShares', WHERE WHAT IT READS IS OF BULK AT MOST 1048576: true; the input reads as it did. -/
def numSharesUptoRow : OpenClaim := { program := "ytpdeihienkbeeaa", sum := "e336abf9acec0b42c6030840dd70d16a506087f1f85f783cfff8fb1a15204a62", func := "debenture/debenturelaw01.NumShares", spec := "numShares", inPlace := ["math/bits.Add64"], named := ["math/bits.divideError", "math/bits.overflowError"], apart := false, narrowed := true }
def NumSharesUptoSaid : Prop := numSharesUptoRow.holds Try.pinned (OpenSpec.upto numSharesSpec)

/-- 'debenturelaw01.NumWhole', WHERE WHAT IT READS IS OF BULK AT MOST 1048576: true; the input reads as it did. -/
def numWholeUptoRow : OpenClaim := { program := "ytpdeihienkbeeaa", sum := "e336abf9acec0b42c6030840dd70d16a506087f1f85f783cfff8fb1a15204a62", func := "debenture/debenturelaw01.NumWhole", spec := "numWhole", inPlace := ["math/bits.Add64"], named := ["math/bits.divideError", "math/bits.overflowError"], apart := false, narrowed := true }
def NumWholeUptoSaid : Prop := numWholeUptoRow.holds Try.pinned (OpenSpec.upto numWholeSpec)

/-- 'debenturelaw01.NumNear', WHERE WHAT IT READS IS OF BULK AT MOST 1048576: true; the input reads as it did. -/
def numNearUptoRow : OpenClaim := { program := "ytpdeihienkbeeaa", sum := "e336abf9acec0b42c6030840dd70d16a506087f1f85f783cfff8fb1a15204a62", func := "debenture/debenturelaw01.NumNear", spec := "numNear", inPlace := ["math/bits.Add64"], named := ["math/bits.divideError", "math/bits.overflowError"], apart := false, narrowed := true }
def NumNearUptoSaid : Prop := numNearUptoRow.holds Try.pinned (OpenSpec.upto numNearSpec)

/-- 'debenturelaw01.NumAdds', WHERE WHAT IT READS IS OF BULK AT MOST 1048576: true; the input reads as it did. -/
def numAddsUptoRow : OpenClaim := { program := "ytpdeihienkbeeaa", sum := "e336abf9acec0b42c6030840dd70d16a506087f1f85f783cfff8fb1a15204a62", func := "debenture/debenturelaw01.NumAdds", spec := "numAdds", inPlace := ["math/bits.Add64"], named := ["math/bits.divideError", "math/bits.overflowError"], apart := false, narrowed := true }
def NumAddsUptoSaid : Prop := numAddsUptoRow.holds Try.pinned (OpenSpec.upto numAddsSpec)

/-- 'debenturelaw01.NumCompares', WHERE WHAT IT READS IS OF BULK AT MOST 1048576: true; the input reads as it did. -/
def numComparesUptoRow : OpenClaim := { program := "ytpdeihienkbeeaa", sum := "e336abf9acec0b42c6030840dd70d16a506087f1f85f783cfff8fb1a15204a62", func := "debenture/debenturelaw01.NumCompares", spec := "numCompares", inPlace := ["math/bits.Add64"], named := ["math/bits.divideError", "math/bits.overflowError"], apart := false, narrowed := true }
def NumComparesUptoSaid : Prop := numComparesUptoRow.holds Try.pinned (OpenSpec.upto numComparesSpec)

/-- 'debenturelaw01.NumRatios', WHERE WHAT IT READS IS OF BULK AT MOST 1048576: true; the input reads as it did. -/
def numRatiosUptoRow : OpenClaim := { program := "ytpdeihienkbeeaa", sum := "e336abf9acec0b42c6030840dd70d16a506087f1f85f783cfff8fb1a15204a62", func := "debenture/debenturelaw01.NumRatios", spec := "numRatios", inPlace := ["math/bits.Add64", "math/bits.Sub64"], named := ["math/bits.divideError", "math/bits.overflowError"], apart := false, narrowed := true }
def NumRatiosUptoSaid : Prop := numRatiosUptoRow.holds Try.pinned (OpenSpec.upto numRatiosSpec)

/-- 'debenturelaw01.NumAmounts', WHERE WHAT IT READS IS OF BULK AT MOST 1048576: true; the input reads as it did. -/
def numAmountsUptoRow : OpenClaim := { program := "ytpdeihienkbeeaa", sum := "e336abf9acec0b42c6030840dd70d16a506087f1f85f783cfff8fb1a15204a62", func := "debenture/debenturelaw01.NumAmounts", spec := "numAmounts", inPlace := ["internal/bytealg.IndexByteString", "internal/bytealg.IndexString", "math/bits.Add64"], named := ["internal/bytealg.MaxLen", "math/bits.divideError", "math/bits.overflowError"], apart := false, narrowed := true }
def NumAmountsUptoSaid : Prop := numAmountsUptoRow.holds Try.pinned (OpenSpec.upto numAmountsSpec)

/-- 'debenturelaw01.NumBack', WHERE WHAT IT READS IS OF BULK AT MOST 1048576: true; the input reads as it did. -/
def numBackUptoRow : OpenClaim := { program := "ytpdeihienkbeeaa", sum := "e336abf9acec0b42c6030840dd70d16a506087f1f85f783cfff8fb1a15204a62", func := "debenture/debenturelaw01.NumBack", spec := "numBack", inPlace := ["internal/bytealg.IndexByteString", "internal/bytealg.IndexString", "math/bits.Add64"], named := ["internal/bytealg.MaxLen", "math/bits.divideError", "math/bits.overflowError"], apart := false, narrowed := true }
def NumBackUptoSaid : Prop := numBackUptoRow.holds Try.pinned (OpenSpec.upto numBackSpec)

end Rows
end Go.Proofs.Ytpdeihienkbeeaa

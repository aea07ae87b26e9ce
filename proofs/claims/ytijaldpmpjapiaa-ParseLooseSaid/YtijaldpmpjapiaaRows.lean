/-
  No cell of these rows narrows 'for every input' (looked for: loops, veiled, ifaces, maps, wideKeys, modest, calm, conditions, laid).
  DERIVED. THE GIVEN ROWS OF THIS SEAT. 9 by the template 'for every input the law returns true; each argument reads behind the call as it read before'; 0 by the template 'total and deterministic' (their statements: YtijaldpmpjapiaaTotals.lean).
  GIVEN WITH THE SEED: the statements are not yours to turn. If you find one false, say at which input.
  Laid BY PROGRAM, IN A SANDBOX (cutbox-rows.mjs): the forced cells as the released guide's own fill.sh prints them over the translation 55eb772a2c3fd227… (all of the seat's roots in one cut). By AI agents, Wed Nov 11 2026. No macro, syntax, notation, axiom, sorry.
-/
import Derived.Test.YtijaldpmpjapiaaChecked
import GoSem.Claim
import GoSem.ClaimJoined
import GoSem.ClaimMapViews
import Derived.JoinedTies
import Derived.KernelRfl
namespace Go.Proofs.Ytijaldpmpjapiaa
/- THE CELL 'sum', in the pinned program and in every row, IS THE sha256 OF THE DUMP (.gsa) THAT YtijaldpmpjapiaaProg.lean LOADS. Nothing in Lean hashes anything: it is a label: what it is worth is what the hold of that sum in a sandbox is worth. -/
noncomputable def Try.pinned : Pinned := { name := "ytijaldpmpjapiaa", sum := "55eb772a2c3fd227fa941925a0e8d5838befdc0f5478fbe96fa7536642991564", checked := Try.checked }
namespace Rows
def none {H : Type} : Left H := { results := [], args := [] }

/-- 'debenturelaw20.PrintExprs': WHATEVER THE INPUT: true; the input reads as it did. -/
def printExprsSpec : ChangeSpec := { name := "printExprs", fn := fun _ => fun
  | [d] => { results := [.lit (.bool true)], args := [d] }
  | _ => none }
def printExprsRow : OpenClaim := { program := "ytijaldpmpjapiaa", sum := "55eb772a2c3fd227fa941925a0e8d5838befdc0f5478fbe96fa7536642991564", func := "debenture/debenturelaw20.PrintExprs", spec := "printExprs", inPlace := ["internal/abi.NoEscape"], unfollowed := true, recurses := true, apart := false }
def PrintExprsSaid : Prop := printExprsRow.holds Try.pinned (OpenSpec.ofChange printExprsSpec)

/-- ITS FALSE NEIGHBOUR: 'it returns false'. Refute it at one input. -/
def printExprsWrong : ChangeSpec := { name := "printExprs", fn := fun _ => fun
  | [d] => { results := [.lit (.bool false)], args := [d] }
  | _ => none }
def PrintExprsWrongFalsely : Prop := printExprsRow.holds Try.pinned (OpenSpec.ofChange printExprsWrong)

/-- 'debenturelaw17.LexWords': WHATEVER THE INPUT: true; the input reads as it did. -/
def lexWordsSpec : ChangeSpec := { name := "lexWords", fn := fun _ => fun
  | [d] => { results := [.lit (.bool true)], args := [d] }
  | _ => none }
def lexWordsRow : OpenClaim := { program := "ytijaldpmpjapiaa", sum := "55eb772a2c3fd227fa941925a0e8d5838befdc0f5478fbe96fa7536642991564", func := "debenture/debenturelaw17.LexWords", spec := "lexWords", inPlace := ["internal/bytealg.IndexByteString", "internal/bytealg.IndexString"], unfollowed := true, recurses := true, named := ["internal/bytealg.MaxLen"], apart := false }
def LexWordsSaid : Prop := lexWordsRow.holds Try.pinned (OpenSpec.ofChange lexWordsSpec)

/-- ITS FALSE NEIGHBOUR: 'it returns false'. Refute it at one input. -/
def lexWordsWrong : ChangeSpec := { name := "lexWords", fn := fun _ => fun
  | [d] => { results := [.lit (.bool false)], args := [d] }
  | _ => none }
def LexWordsWrongFalsely : Prop := lexWordsRow.holds Try.pinned (OpenSpec.ofChange lexWordsWrong)

/-- 'debenturelaw17.LexStands': WHATEVER THE INPUT: true; the input reads as it did. -/
def lexStandsSpec : ChangeSpec := { name := "lexStands", fn := fun _ => fun
  | [d] => { results := [.lit (.bool true)], args := [d] }
  | _ => none }
def lexStandsRow : OpenClaim := { program := "ytijaldpmpjapiaa", sum := "55eb772a2c3fd227fa941925a0e8d5838befdc0f5478fbe96fa7536642991564", func := "debenture/debenturelaw17.LexStands", spec := "lexStands", inPlace := ["internal/bytealg.IndexByteString", "internal/bytealg.IndexString"], unfollowed := true, recurses := true, named := ["internal/bytealg.MaxLen"], apart := false }
def LexStandsSaid : Prop := lexStandsRow.holds Try.pinned (OpenSpec.ofChange lexStandsSpec)

/-- ITS FALSE NEIGHBOUR: 'it returns false'. Refute it at one input. -/
def lexStandsWrong : ChangeSpec := { name := "lexStands", fn := fun _ => fun
  | [d] => { results := [.lit (.bool false)], args := [d] }
  | _ => none }
def LexStandsWrongFalsely : Prop := lexStandsRow.holds Try.pinned (OpenSpec.ofChange lexStandsWrong)

/-- 'debenturelaw17.LexSpaces': WHATEVER THE INPUT: true; the input reads as it did. -/
def lexSpacesSpec : ChangeSpec := { name := "lexSpaces", fn := fun _ => fun
  | [d1, d2] => { results := [.lit (.bool true)], args := [d1, d2] }
  | _ => none }
def lexSpacesRow : OpenClaim := { program := "ytijaldpmpjapiaa", sum := "55eb772a2c3fd227fa941925a0e8d5838befdc0f5478fbe96fa7536642991564", func := "debenture/debenturelaw17.LexSpaces", spec := "lexSpaces", inPlace := ["internal/bytealg.IndexByteString", "internal/bytealg.IndexString"], unfollowed := true, recurses := true, named := ["internal/bytealg.MaxLen"], apart := false }
def LexSpacesSaid : Prop := lexSpacesRow.holds Try.pinned (OpenSpec.ofChange lexSpacesSpec)

/-- ITS FALSE NEIGHBOUR: 'it returns false'. Refute it at one input. -/
def lexSpacesWrong : ChangeSpec := { name := "lexSpaces", fn := fun _ => fun
  | [d1, d2] => { results := [.lit (.bool false)], args := [d1, d2] }
  | _ => none }
def LexSpacesWrongFalsely : Prop := lexSpacesRow.holds Try.pinned (OpenSpec.ofChange lexSpacesWrong)

/-- 'debenturelaw17.LexNames': WHATEVER THE INPUT: true; the input reads as it did. -/
def lexNamesSpec : ChangeSpec := { name := "lexNames", fn := fun _ => fun
  | [d1, d2] => { results := [.lit (.bool true)], args := [d1, d2] }
  | _ => none }
def lexNamesRow : OpenClaim := { program := "ytijaldpmpjapiaa", sum := "55eb772a2c3fd227fa941925a0e8d5838befdc0f5478fbe96fa7536642991564", func := "debenture/debenturelaw17.LexNames", spec := "lexNames", inPlace := ["internal/bytealg.IndexByteString", "internal/bytealg.IndexString"], unfollowed := true, recurses := true, named := ["internal/bytealg.MaxLen"], apart := false }
def LexNamesSaid : Prop := lexNamesRow.holds Try.pinned (OpenSpec.ofChange lexNamesSpec)

/-- ITS FALSE NEIGHBOUR: 'it returns false'. Refute it at one input. -/
def lexNamesWrong : ChangeSpec := { name := "lexNames", fn := fun _ => fun
  | [d1, d2] => { results := [.lit (.bool false)], args := [d1, d2] }
  | _ => none }
def LexNamesWrongFalsely : Prop := lexNamesRow.holds Try.pinned (OpenSpec.ofChange lexNamesWrong)

/-- 'debenturelaw20.PrintTerms': WHATEVER THE INPUT: true; the input reads as it did. -/
def printTermsSpec : ChangeSpec := { name := "printTerms", fn := fun _ => fun
  | [d1, d2] => { results := [.lit (.bool true)], args := [d1, d2] }
  | _ => none }
def printTermsRow : OpenClaim := { program := "ytijaldpmpjapiaa", sum := "55eb772a2c3fd227fa941925a0e8d5838befdc0f5478fbe96fa7536642991564", func := "debenture/debenturelaw20.PrintTerms", spec := "printTerms", inPlace := ["internal/abi.NoEscape", "internal/bytealg.MakeNoZero"], unfollowed := true, recurses := true, apart := false }
def PrintTermsSaid : Prop := printTermsRow.holds Try.pinned (OpenSpec.ofChange printTermsSpec)

/-- ITS FALSE NEIGHBOUR: 'it returns false'. Refute it at one input. -/
def printTermsWrong : ChangeSpec := { name := "printTerms", fn := fun _ => fun
  | [d1, d2] => { results := [.lit (.bool false)], args := [d1, d2] }
  | _ => none }
def PrintTermsWrongFalsely : Prop := printTermsRow.holds Try.pinned (OpenSpec.ofChange printTermsWrong)

/-- 'debenturelaw19.ParseRight': WHATEVER THE INPUT: true; the input reads as it did. -/
def parseRightSpec : ChangeSpec := { name := "parseRight", fn := fun _ => fun
  | [d] => { results := [.lit (.bool true)], args := [d] }
  | _ => none }
def parseRightRow : OpenClaim := { program := "ytijaldpmpjapiaa", sum := "55eb772a2c3fd227fa941925a0e8d5838befdc0f5478fbe96fa7536642991564", func := "debenture/debenturelaw19.ParseRight", spec := "parseRight", inPlace := ["internal/bytealg.IndexByteString", "internal/bytealg.IndexString"], unfollowed := true, recurses := true, named := ["internal/bytealg.MaxLen"], apart := false }
def ParseRightSaid : Prop := parseRightRow.holds Try.pinned (OpenSpec.ofChange parseRightSpec)

/-- ITS FALSE NEIGHBOUR: 'it returns false'. Refute it at one input. -/
def parseRightWrong : ChangeSpec := { name := "parseRight", fn := fun _ => fun
  | [d] => { results := [.lit (.bool false)], args := [d] }
  | _ => none }
def ParseRightWrongFalsely : Prop := parseRightRow.holds Try.pinned (OpenSpec.ofChange parseRightWrong)

/-- 'debenturelaw19.ParseCuts': WHATEVER THE INPUT: true; the input reads as it did. -/
def parseCutsSpec : ChangeSpec := { name := "parseCuts", fn := fun _ => fun
  | [d1, d2] => { results := [.lit (.bool true)], args := [d1, d2] }
  | _ => none }
def parseCutsRow : OpenClaim := { program := "ytijaldpmpjapiaa", sum := "55eb772a2c3fd227fa941925a0e8d5838befdc0f5478fbe96fa7536642991564", func := "debenture/debenturelaw19.ParseCuts", spec := "parseCuts", inPlace := ["internal/bytealg.IndexByteString", "internal/bytealg.IndexString"], unfollowed := true, recurses := true, named := ["internal/bytealg.MaxLen"], apart := false }
def ParseCutsSaid : Prop := parseCutsRow.holds Try.pinned (OpenSpec.ofChange parseCutsSpec)

/-- ITS FALSE NEIGHBOUR: 'it returns false'. Refute it at one input. -/
def parseCutsWrong : ChangeSpec := { name := "parseCuts", fn := fun _ => fun
  | [d1, d2] => { results := [.lit (.bool false)], args := [d1, d2] }
  | _ => none }
def ParseCutsWrongFalsely : Prop := parseCutsRow.holds Try.pinned (OpenSpec.ofChange parseCutsWrong)

/-- 'debenturelaw19.ParseLoose': WHATEVER THE INPUT: true; the input reads as it did. -/
def parseLooseSpec : ChangeSpec := { name := "parseLoose", fn := fun _ => fun
  | [d1, d2] => { results := [.lit (.bool true)], args := [d1, d2] }
  | _ => none }
def parseLooseRow : OpenClaim := { program := "ytijaldpmpjapiaa", sum := "55eb772a2c3fd227fa941925a0e8d5838befdc0f5478fbe96fa7536642991564", func := "debenture/debenturelaw19.ParseLoose", spec := "parseLoose", inPlace := ["internal/bytealg.IndexByteString", "internal/bytealg.IndexString"], unfollowed := true, recurses := true, named := ["internal/bytealg.MaxLen"], apart := false }
def ParseLooseSaid : Prop := parseLooseRow.holds Try.pinned (OpenSpec.ofChange parseLooseSpec)

/-- ITS FALSE NEIGHBOUR: 'it returns false'. Refute it at one input. -/
def parseLooseWrong : ChangeSpec := { name := "parseLoose", fn := fun _ => fun
  | [d1, d2] => { results := [.lit (.bool false)], args := [d1, d2] }
  | _ => none }
def ParseLooseWrongFalsely : Prop := parseLooseRow.holds Try.pinned (OpenSpec.ofChange parseLooseWrong)

/- THE SECOND FORM. 'bulk': how many values and letters a reading holds, each counted each time it is reached (what is shared counts as often as it is met; a slice's spare places count too). A statement '..UptoSaid' is the law's where the arguments, and the package variables that the reading takes, are together of bulk at most 1048576: NARROWER than '..Said'. Prove '..Said' where nothing that the law and all that it calls make is longer than what came in: it says more and counts as full. Else prove '..UptoSaid'. A law counts once. -/
mutual
def uptoBulk {H : Type} : DataW H → Nat
  | .lit (.string bytes) => bytes.length + 1
  | .lit _ => 1
  | .nil => 1
  | .ptr d => uptoBulk d + 1
  | .slice elems spare => uptoBulkAll elems + uptoBulkAll spare + 1
  | .agg parts => uptoBulkAll parts + 1
  | .iface _ d => uptoBulk d + 1
  | .map entries => uptoBulkEntries entries + 1
  | .held _ => 1
def uptoBulkAll {H : Type} : List (DataW H) → Nat
  | [] => 0
  | d :: r => uptoBulk d + uptoBulkAll r
def uptoBulkEntries {H : Type} : List (Lit × DataW H) → Nat
  | [] => 0
  | x :: r => uptoBulkEntry x + uptoBulkEntries r
def uptoBulkEntry {H : Type} : Lit × DataW H → Nat
  | (.string bytes, d) => bytes.length + uptoBulk d + 1
  | (_, d) => uptoBulk d + 1
 end
def uptoSmall : (H : Type) → List (DataW H) → Bool := fun _ ds => decide (uptoBulkAll ds ≤ 1048576)
def OpenSpec.upto (s : _root_.Go.ChangeSpec) : _root_.Go.OpenSpec := { _root_.Go.OpenSpec.ofChange s with cond := some uptoSmall }

/-- 'debenturelaw20.PrintExprs', WHERE WHAT IT READS IS OF BULK AT MOST 1048576: true; the input reads as it did. -/
def printExprsUptoRow : OpenClaim := { program := "ytijaldpmpjapiaa", sum := "55eb772a2c3fd227fa941925a0e8d5838befdc0f5478fbe96fa7536642991564", func := "debenture/debenturelaw20.PrintExprs", spec := "printExprs", inPlace := ["internal/abi.NoEscape"], unfollowed := true, recurses := true, apart := false, narrowed := true }
def PrintExprsUptoSaid : Prop := printExprsUptoRow.holds Try.pinned (OpenSpec.upto printExprsSpec)

/-- 'debenturelaw17.LexWords', WHERE WHAT IT READS IS OF BULK AT MOST 1048576: true; the input reads as it did. -/
def lexWordsUptoRow : OpenClaim := { program := "ytijaldpmpjapiaa", sum := "55eb772a2c3fd227fa941925a0e8d5838befdc0f5478fbe96fa7536642991564", func := "debenture/debenturelaw17.LexWords", spec := "lexWords", inPlace := ["internal/bytealg.IndexByteString", "internal/bytealg.IndexString"], unfollowed := true, recurses := true, named := ["internal/bytealg.MaxLen"], apart := false, narrowed := true }
def LexWordsUptoSaid : Prop := lexWordsUptoRow.holds Try.pinned (OpenSpec.upto lexWordsSpec)

/-- 'debenturelaw17.LexStands', WHERE WHAT IT READS IS OF BULK AT MOST 1048576: true; the input reads as it did. -/
def lexStandsUptoRow : OpenClaim := { program := "ytijaldpmpjapiaa", sum := "55eb772a2c3fd227fa941925a0e8d5838befdc0f5478fbe96fa7536642991564", func := "debenture/debenturelaw17.LexStands", spec := "lexStands", inPlace := ["internal/bytealg.IndexByteString", "internal/bytealg.IndexString"], unfollowed := true, recurses := true, named := ["internal/bytealg.MaxLen"], apart := false, narrowed := true }
def LexStandsUptoSaid : Prop := lexStandsUptoRow.holds Try.pinned (OpenSpec.upto lexStandsSpec)

/-- 'debenturelaw17.LexSpaces', WHERE WHAT IT READS IS OF BULK AT MOST 1048576: true; the input reads as it did. -/
def lexSpacesUptoRow : OpenClaim := { program := "ytijaldpmpjapiaa", sum := "55eb772a2c3fd227fa941925a0e8d5838befdc0f5478fbe96fa7536642991564", func := "debenture/debenturelaw17.LexSpaces", spec := "lexSpaces", inPlace := ["internal/bytealg.IndexByteString", "internal/bytealg.IndexString"], unfollowed := true, recurses := true, named := ["internal/bytealg.MaxLen"], apart := false, narrowed := true }
def LexSpacesUptoSaid : Prop := lexSpacesUptoRow.holds Try.pinned (OpenSpec.upto lexSpacesSpec)

/-- 'debenturelaw17.LexNames', WHERE WHAT IT READS IS OF BULK AT MOST 1048576: true; the input reads as it did. -/
def lexNamesUptoRow : OpenClaim := { program := "ytijaldpmpjapiaa", sum := "55eb772a2c3fd227fa941925a0e8d5838befdc0f5478fbe96fa7536642991564", func := "debenture/debenturelaw17.LexNames", spec := "lexNames", inPlace := ["internal/bytealg.IndexByteString", "internal/bytealg.IndexString"], unfollowed := true, recurses := true, named := ["internal/bytealg.MaxLen"], apart := false, narrowed := true }
def LexNamesUptoSaid : Prop := lexNamesUptoRow.holds Try.pinned (OpenSpec.upto lexNamesSpec)

/-- 'debenturelaw20.PrintTerms', WHERE WHAT IT READS IS OF BULK AT MOST 1048576: true; the input reads as it did. -/
def printTermsUptoRow : OpenClaim := { program := "ytijaldpmpjapiaa", sum := "55eb772a2c3fd227fa941925a0e8d5838befdc0f5478fbe96fa7536642991564", func := "debenture/debenturelaw20.PrintTerms", spec := "printTerms", inPlace := ["internal/abi.NoEscape", "internal/bytealg.MakeNoZero"], unfollowed := true, recurses := true, apart := false, narrowed := true }
def PrintTermsUptoSaid : Prop := printTermsUptoRow.holds Try.pinned (OpenSpec.upto printTermsSpec)

/-- 'debenturelaw19.ParseRight', WHERE WHAT IT READS IS OF BULK AT MOST 1048576: true; the input reads as it did. -/
def parseRightUptoRow : OpenClaim := { program := "ytijaldpmpjapiaa", sum := "55eb772a2c3fd227fa941925a0e8d5838befdc0f5478fbe96fa7536642991564", func := "debenture/debenturelaw19.ParseRight", spec := "parseRight", inPlace := ["internal/bytealg.IndexByteString", "internal/bytealg.IndexString"], unfollowed := true, recurses := true, named := ["internal/bytealg.MaxLen"], apart := false, narrowed := true }
def ParseRightUptoSaid : Prop := parseRightUptoRow.holds Try.pinned (OpenSpec.upto parseRightSpec)

/-- 'debenturelaw19.ParseCuts', WHERE WHAT IT READS IS OF BULK AT MOST 1048576: true; the input reads as it did. -/
def parseCutsUptoRow : OpenClaim := { program := "ytijaldpmpjapiaa", sum := "55eb772a2c3fd227fa941925a0e8d5838befdc0f5478fbe96fa7536642991564", func := "debenture/debenturelaw19.ParseCuts", spec := "parseCuts", inPlace := ["internal/bytealg.IndexByteString", "internal/bytealg.IndexString"], unfollowed := true, recurses := true, named := ["internal/bytealg.MaxLen"], apart := false, narrowed := true }
def ParseCutsUptoSaid : Prop := parseCutsUptoRow.holds Try.pinned (OpenSpec.upto parseCutsSpec)

/-- 'debenturelaw19.ParseLoose', WHERE WHAT IT READS IS OF BULK AT MOST 1048576: true; the input reads as it did. -/
def parseLooseUptoRow : OpenClaim := { program := "ytijaldpmpjapiaa", sum := "55eb772a2c3fd227fa941925a0e8d5838befdc0f5478fbe96fa7536642991564", func := "debenture/debenturelaw19.ParseLoose", spec := "parseLoose", inPlace := ["internal/bytealg.IndexByteString", "internal/bytealg.IndexString"], unfollowed := true, recurses := true, named := ["internal/bytealg.MaxLen"], apart := false, narrowed := true }
def ParseLooseUptoSaid : Prop := parseLooseUptoRow.holds Try.pinned (OpenSpec.upto parseLooseSpec)

end Rows
end Go.Proofs.Ytijaldpmpjapiaa

/-
  No cell of these rows narrows 'for every input' (looked for: loops, veiled, ifaces, maps, wideKeys, modest, calm, conditions, laid).
  DERIVED. THE GIVEN ROWS OF THIS SEAT. 4 by the template 'for every input the law returns true; each argument reads behind the call as it read before'; 0 by the template 'total and deterministic' (their statements: YtaamkfajnpobfaaGreatTotals.lean).
  GIVEN WITH THE SEED: the statements are not yours to turn. If you find one false, say at which input.
  Laid BY PROGRAM, IN A SANDBOX (cutbox-rows.mjs): the forced cells as the released guide's own fill.sh prints them over the translation d00bfa0bb603ef9e… (all of the seat's roots in one cut). By AI agents, Wed Nov 11 2026. No macro, syntax, notation, axiom, sorry.
-/
import Derived.Test.YtaamkfajnpobfaaGreatChecked
import GoSem.Claim
import GoSem.ClaimJoined
import GoSem.ClaimMapViews
import Derived.JoinedTies
import Derived.KernelRfl
namespace Go.Proofs.YtaamkfajnpobfaaGreat
/- THE CELL 'sum', in the pinned program and in every row, IS THE sha256 OF THE DUMP (.gsa) THAT YtaamkfajnpobfaaGreatProg.lean LOADS. Nothing in Lean hashes anything: it is a label: what it is worth is what the hold of that sum in a sandbox is worth. -/
noncomputable def Tryz.pinned : Pinned := { name := "ytaamkfajnpobfaagreat", sum := "d00bfa0bb603ef9ed16e42c0a40ae9440fd7ad8926d2f09ce708a27dad4ca96c", checked := Tryz.checked }
namespace Rows
def none {H : Type} : Left H := { results := [], args := [] }

/-- 'debenturelaw19.ParseTerms': WHATEVER THE INPUT: true; the input reads as it did. -/
def parseTermsSpec : ChangeSpec := { name := "parseTerms", fn := fun _ => fun
  | [d] => { results := [.lit (.bool true)], args := [d] }
  | _ => none }
def parseTermsRow : OpenClaim := { program := "ytaamkfajnpobfaagreat", sum := "d00bfa0bb603ef9ed16e42c0a40ae9440fd7ad8926d2f09ce708a27dad4ca96c", func := "debenture/debenturelaw19.ParseTerms", spec := "parseTerms", inPlace := ["internal/bytealg.IndexByteString", "internal/bytealg.IndexString"], unfollowed := true, recurses := true, named := ["internal/bytealg.MaxLen"], apart := false }
def ParseTermsSaid : Prop := parseTermsRow.holds Tryz.pinned (OpenSpec.ofChange parseTermsSpec)

/-- ITS FALSE NEIGHBOUR: 'it returns false'. Refute it at one input. -/
def parseTermsWrong : ChangeSpec := { name := "parseTerms", fn := fun _ => fun
  | [d] => { results := [.lit (.bool false)], args := [d] }
  | _ => none }
def ParseTermsWrongFalsely : Prop := parseTermsRow.holds Tryz.pinned (OpenSpec.ofChange parseTermsWrong)

/-- 'debenturelaw19.ParseExprs': WHATEVER THE INPUT: true; the input reads as it did. -/
def parseExprsSpec : ChangeSpec := { name := "parseExprs", fn := fun _ => fun
  | [d] => { results := [.lit (.bool true)], args := [d] }
  | _ => none }
def parseExprsRow : OpenClaim := { program := "ytaamkfajnpobfaagreat", sum := "d00bfa0bb603ef9ed16e42c0a40ae9440fd7ad8926d2f09ce708a27dad4ca96c", func := "debenture/debenturelaw19.ParseExprs", spec := "parseExprs", inPlace := ["internal/bytealg.IndexByteString", "internal/bytealg.IndexString"], unfollowed := true, recurses := true, named := ["internal/bytealg.MaxLen"], apart := false }
def ParseExprsSaid : Prop := parseExprsRow.holds Tryz.pinned (OpenSpec.ofChange parseExprsSpec)

/-- ITS FALSE NEIGHBOUR: 'it returns false'. Refute it at one input. -/
def parseExprsWrong : ChangeSpec := { name := "parseExprs", fn := fun _ => fun
  | [d] => { results := [.lit (.bool false)], args := [d] }
  | _ => none }
def ParseExprsWrongFalsely : Prop := parseExprsRow.holds Tryz.pinned (OpenSpec.ofChange parseExprsWrong)

/-- 'debenturelaw20.PrintFew': WHATEVER THE INPUT: true; the input reads as it did. -/
def printFewSpec : ChangeSpec := { name := "printFew", fn := fun _ => fun
  | [d1, d2] => { results := [.lit (.bool true)], args := [d1, d2] }
  | _ => none }
def printFewRow : OpenClaim := { program := "ytaamkfajnpobfaagreat", sum := "d00bfa0bb603ef9ed16e42c0a40ae9440fd7ad8926d2f09ce708a27dad4ca96c", func := "debenture/debenturelaw20.PrintFew", spec := "printFew", inPlace := ["internal/abi.NoEscape", "internal/bytealg.IndexByteString", "internal/bytealg.IndexString"], unfollowed := true, recurses := true, named := ["internal/bytealg.MaxLen"], apart := false }
def PrintFewSaid : Prop := printFewRow.holds Tryz.pinned (OpenSpec.ofChange printFewSpec)

/-- ITS FALSE NEIGHBOUR: 'it returns false'. Refute it at one input. -/
def printFewWrong : ChangeSpec := { name := "printFew", fn := fun _ => fun
  | [d1, d2] => { results := [.lit (.bool false)], args := [d1, d2] }
  | _ => none }
def PrintFewWrongFalsely : Prop := printFewRow.holds Tryz.pinned (OpenSpec.ofChange printFewWrong)

/-- 'debenturelaw20.PrintBack': WHATEVER THE INPUT: true; the input reads as it did. -/
def printBackSpec : ChangeSpec := { name := "printBack", fn := fun _ => fun
  | [d1, d2] => { results := [.lit (.bool true)], args := [d1, d2] }
  | _ => none }
def printBackRow : OpenClaim := { program := "ytaamkfajnpobfaagreat", sum := "d00bfa0bb603ef9ed16e42c0a40ae9440fd7ad8926d2f09ce708a27dad4ca96c", func := "debenture/debenturelaw20.PrintBack", spec := "printBack", inPlace := ["internal/abi.NoEscape", "internal/bytealg.MakeNoZero", "internal/bytealg.IndexByteString", "internal/bytealg.IndexString"], unfollowed := true, recurses := true, named := ["internal/bytealg.MaxLen"], apart := false }
def PrintBackSaid : Prop := printBackRow.holds Tryz.pinned (OpenSpec.ofChange printBackSpec)

/-- ITS FALSE NEIGHBOUR: 'it returns false'. Refute it at one input. -/
def printBackWrong : ChangeSpec := { name := "printBack", fn := fun _ => fun
  | [d1, d2] => { results := [.lit (.bool false)], args := [d1, d2] }
  | _ => none }
def PrintBackWrongFalsely : Prop := printBackRow.holds Tryz.pinned (OpenSpec.ofChange printBackWrong)

/- THE SECOND FORM. 'bulk': how many values and letters a reading holds, each counted each time it is reached (what is shared counts as often as it is met; a slice's spare places count too). A statement '..UptoSaid' is the law's where the arguments, and the package variables that the reading takes, are together of bulk at most 1048576: NARROWER than '..Said'. Prove '..Said' where nothing that the law and all that it calls make is longer than what came in: it says more and counts as full. Else prove '..UptoSaid'. A law counts once. -/
mutual
def uptoBulk {H : Type} : DataW H → Nat
  | .lit (.string bytes) => bytes.length + 1
  | .lit _ => 1
  | .nil => 1
  | .ptr d => uptoBulk d + 1
  | .slice elems spare => uptoBulkAll elems + uptoBulkAll spare + 1
  | .agg parts => uptoBulkAll parts + 1
  | .iface _ d => uptoBulk d + 1
  | .map entries => uptoBulkEntries entries + 1
  | .held _ => 1
def uptoBulkAll {H : Type} : List (DataW H) → Nat
  | [] => 0
  | d :: r => uptoBulk d + uptoBulkAll r
def uptoBulkEntries {H : Type} : List (Lit × DataW H) → Nat
  | [] => 0
  | x :: r => uptoBulkEntry x + uptoBulkEntries r
def uptoBulkEntry {H : Type} : Lit × DataW H → Nat
  | (.string bytes, d) => bytes.length + uptoBulk d + 1
  | (_, d) => uptoBulk d + 1
 end
def uptoSmall : (H : Type) → List (DataW H) → Bool := fun _ ds => decide (uptoBulkAll ds ≤ 1048576)
def OpenSpec.upto (s : _root_.Go.ChangeSpec) : _root_.Go.OpenSpec := { _root_.Go.OpenSpec.ofChange s with cond := some uptoSmall }

/-- 'debenturelaw19.ParseTerms', WHERE WHAT IT READS IS OF BULK AT MOST 1048576: true; the input reads as it did. -/
def parseTermsUptoRow : OpenClaim := { program := "ytaamkfajnpobfaagreat", sum := "d00bfa0bb603ef9ed16e42c0a40ae9440fd7ad8926d2f09ce708a27dad4ca96c", func := "debenture/debenturelaw19.ParseTerms", spec := "parseTerms", inPlace := ["internal/bytealg.IndexByteString", "internal/bytealg.IndexString"], unfollowed := true, recurses := true, named := ["internal/bytealg.MaxLen"], apart := false, narrowed := true }
def ParseTermsUptoSaid : Prop := parseTermsUptoRow.holds Tryz.pinned (OpenSpec.upto parseTermsSpec)

/-- 'debenturelaw19.ParseExprs', WHERE WHAT IT READS IS OF BULK AT MOST 1048576: true; the input reads as it did. -/
def parseExprsUptoRow : OpenClaim := { program := "ytaamkfajnpobfaagreat", sum := "d00bfa0bb603ef9ed16e42c0a40ae9440fd7ad8926d2f09ce708a27dad4ca96c", func := "debenture/debenturelaw19.ParseExprs", spec := "parseExprs", inPlace := ["internal/bytealg.IndexByteString", "internal/bytealg.IndexString"], unfollowed := true, recurses := true, named := ["internal/bytealg.MaxLen"], apart := false, narrowed := true }
def ParseExprsUptoSaid : Prop := parseExprsUptoRow.holds Tryz.pinned (OpenSpec.upto parseExprsSpec)

/-- 'debenturelaw20.PrintFew', WHERE WHAT IT READS IS OF BULK AT MOST 1048576: true; the input reads as it did. -/
def printFewUptoRow : OpenClaim := { program := "ytaamkfajnpobfaagreat", sum := "d00bfa0bb603ef9ed16e42c0a40ae9440fd7ad8926d2f09ce708a27dad4ca96c", func := "debenture/debenturelaw20.PrintFew", spec := "printFew", inPlace := ["internal/abi.NoEscape", "internal/bytealg.IndexByteString", "internal/bytealg.IndexString"], unfollowed := true, recurses := true, named := ["internal/bytealg.MaxLen"], apart := false, narrowed := true }
def PrintFewUptoSaid : Prop := printFewUptoRow.holds Tryz.pinned (OpenSpec.upto printFewSpec)

/-- 'debenturelaw20.PrintBack', WHERE WHAT IT READS IS OF BULK AT MOST 1048576: true; the input reads as it did. -/
def printBackUptoRow : OpenClaim := { program := "ytaamkfajnpobfaagreat", sum := "d00bfa0bb603ef9ed16e42c0a40ae9440fd7ad8926d2f09ce708a27dad4ca96c", func := "debenture/debenturelaw20.PrintBack", spec := "printBack", inPlace := ["internal/abi.NoEscape", "internal/bytealg.MakeNoZero", "internal/bytealg.IndexByteString", "internal/bytealg.IndexString"], unfollowed := true, recurses := true, named := ["internal/bytealg.MaxLen"], apart := false, narrowed := true }
def PrintBackUptoSaid : Prop := printBackUptoRow.holds Tryz.pinned (OpenSpec.upto printBackSpec)

end Rows
end Go.Proofs.YtaamkfajnpobfaaGreat

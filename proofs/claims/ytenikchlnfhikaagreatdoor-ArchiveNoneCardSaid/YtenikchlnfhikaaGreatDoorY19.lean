/-
  Texts that were joined: EoC. Conditions: what each theorem names.
-/
import Derived.Test.YtenikchlnfhikaaGreatDoorY18
import Derived.KernelRfl
set_option linter.unusedSectionVars false
set_option linter.unusedVariables false
set_option linter.unusedSimpArgs false
set_option linter.unusedVariables false
namespace Go.Proofs.YtenikchlnfhikaaGreatDoor
open Go Go.RowKit
noncomputable def stW : List (Nat × RI.Ob) := []
noncomputable def stWV : RI.V := .tup [.str [0, 0, 0, 62, 81, 189, 252, 212, 24, 1, 99, 3, 97, 110, 110, 3, 98, 111, 98, 8, 111, 110, 101, 40, 85, 83, 68, 41, 0, 0, 2, 0, 0, 2, 24, 1, 1, 99, 3, 97, 110, 110, 3, 98, 111, 98, 8, 111, 110, 101, 40, 85, 83, 68, 41, 0, 0, 0, 0, 10, 7, 1, 99, 0, 0, 0, 0, 0, 0, 0, 112, 115, 125, 37], .int .i64 0]
noncomputable def stWOk (r : RI.Rr) : Bool := RI.an (RI.V.beq r.v stWV) (RI.an (Nat.beq r.s.nx 2451) (RI.hasAll r.s stW))
noncomputable abbrev stWS : RI.St := RI.stOf stW 2451
set_option maxRecDepth 1000000 in
theorem run_expB : RI.leafB stWOk [] (runO 25 [.ptr (some (.own 156 0 0))] stYS) = true := by kernel_rfl
noncomputable def vArch : RI.V := .str [0, 0, 0, 62, 81, 189, 252, 212, 24, 1, 99, 3, 97, 110, 110, 3, 98, 111, 98, 8, 111, 110, 101, 40, 85, 83, 68, 41, 0, 0, 2, 0, 0, 2, 24, 1, 1, 99, 3, 97, 110, 110, 3, 98, 111, 98, 8, 111, 110, 101, 40, 85, 83, 68, 41, 0, 0, 0, 0, 10, 7, 1, 99, 0, 0, 0, 0, 0, 0, 0, 112, 115, 125, 37]
noncomputable def stR : List (Nat × RI.Ob) := [(2680, .row 97 18 1 0 (RI.wrT [.int .i64 1, .str [99], .str [97, 110, 110], .str [98, 111, 98], .str [111, 110, 101, 40, 85, 83, 68, 41], .int .i64 0, .int .i64 0, .int .i64 0, .int .i64 0, .int .i64 7, .str [99], .str [], .str [], .str [], .int .i64 0, .int .i64 0, .int .i64 0, .int .i64 0] 0 .lf)), (2693, .row 83 9 0 0 (RI.wrT [.str [99], .str [97, 110, 110], .str [98, 111, 98], .str [111, 110, 101, 40, 85, 83, 68, 41], .int .i64 0, .int .i64 0, .int .i64 2, .sl none 0 0, .sg (.own 2680 1 0) 2 9] 0 .lf))]
noncomputable def stRV : RI.V := .tup [.sg (.own 2693 0 0) 1 9, .int .i64 0]
noncomputable def stROk (r : RI.Rr) : Bool := RI.an (RI.V.beq r.v stRV) (RI.an (Nat.beq r.s.nx 2821) (RI.hasAll r.s stR))
noncomputable abbrev stRS : RI.St := RI.stOf stR 2821
set_option maxRecDepth 1000000 in
theorem run_read : RI.leafB stROk [] (runO 68 [vArch] stWS) = true := by kernel_rfl
theorem row_it : stRS.h.get 2693 = some (.row 83 9 0 0 (RI.wrT [.str [99], .str [97, 110, 110], .str [98, 111, 98], .str [111, 110, 101, 40, 85, 83, 68, 41], .int .i64 0, .int .i64 0, .int .i64 2, .sl none 0 0, .sg (.own 2680 1 0) 2 9] 0 .lf)) := by kernel_rfl
end Go.Proofs.YtenikchlnfhikaaGreatDoor

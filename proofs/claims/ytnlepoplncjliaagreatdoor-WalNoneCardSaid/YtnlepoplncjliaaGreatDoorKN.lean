/-
  Ways that meet again, with calls deferred on one of them. No condition.
-/
import Derived.Test.YtnlepoplncjliaaGreatDoorKM
namespace Go.Proofs.YtnlepoplncjliaaGreatDoor
open Go.RowKit

section
variable {P : Program} {Q : Exit → Act → World → Prop} {n : Nat} {F F' : List (Nat × Value)} {w : World}
def JoinD (n : Nat) (F : List (Nat × Value)) (J : Inhabited (List Deferred) → World → Prop) (a : Act) (w : World) : Prop := ∃ I, @Fr I n F a ∧ J I w
theorem Cd.seqD {x y : Code} (F' : List (Nat × Value)) (J : Inhabited (List Deferred) → World → Prop) (hx : Cd P x (Exit.then (JoinD n F' J) Q) n F w) (hy : ∀ I w, J I w → @Cd I P y Q n F' w) : Cd P (.seq x y) Q n F w :=
  fun a ha => wp_seq (Code.wp_mono (fun e a w q => by
    cases e with
    | normal => obtain ⟨I, hF, hJ⟩ := q; exact hy I w hJ a hF
    | exit id => exact q
    | goto l => exact q
    | ret => exact q
    | panic ch => exact q
    | outgrown => exact q) (hx a ha))
theorem Post.joinD {I : Inhabited (List Deferred)} {J : Inhabited (List Deferred) → World → Prop} (hs : Sub F' F) (hJ : J I w) : @Post I (Exit.then (JoinD n F' J) Q) .normal n F w := fun _ ha => ⟨I, ha.sub hs, hJ⟩
end
end Go.Proofs.YtnlepoplncjliaaGreatDoor

/- What the pure text of the law WholeGcds shows. -/
import Derived.Test.YtgicckcahhlbjaaGreatDoorWholeGcdsF8
namespace Go.Proofs.YtgicckcahhlbjaaGreatDoor.P
open Go.RowKit Go.Proofs.YtgicckcahhlbjaaGreatDoorW.PrintWords
def w_WholeGcds.Pure : Prop := ∀ (b0 : Bool) (l0 : List Int), l0.length ≤ maxLen → (∀ x ∈ l0, (Lit.int .u8 x).wf = true) → ∀ (b1 : Bool) (l1 : List Int), l1.length ≤ maxLen → (∀ x ∈ l1, (Lit.int .u8 x).wf = true) → ∀ (b2 : Bool) (l2 : List Int), l2.length ≤ maxLen → (∀ x ∈ l2, (Lit.int .u8 x).wf = true) → ∀  (_u : Unit), ∃ k, w_WholeGcds.f k b0 l0 b1 l1 b2 l2 = some true
end Go.Proofs.YtgicckcahhlbjaaGreatDoor.P

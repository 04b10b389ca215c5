/- What the pure text of the law WholeSums shows. -/
import Derived.Test.YtgicckcahhlbjaaGreatDoorWholeSumsF9
namespace Go.Proofs.YtgicckcahhlbjaaGreatDoor.P
open Go.RowKit Go.Proofs.YtgicckcahhlbjaaGreatDoorW.PrintWords
def schismalaw02_WholeSums.Pure : Prop := ∀ (b0 : Bool) (l0 : List Int), l0.length ≤ maxLen → (∀ x ∈ l0, (Lit.int .u8 x).wf = true) → ∀ (b1 : Bool) (l1 : List Int), l1.length ≤ maxLen → (∀ x ∈ l1, (Lit.int .u8 x).wf = true) → ∀ (l2 : List S24), (∀ x ∈ l2, x.f1.length ≤ maxLen ∧ ∀ y ∈ x.f1, (Lit.int .u8 y).wf = true) → ∀  (_u : Unit), ∃ k, schismalaw02_WholeSums.f k b0 l0 b1 l1 l2 = some true
end Go.Proofs.YtgicckcahhlbjaaGreatDoor.P

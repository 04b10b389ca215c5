/- What the pure text of the law WholePowers shows. -/
import Derived.Test.YtgicckcahhlbjaaGreatDoorWholePowersF9
namespace Go.Proofs.YtgicckcahhlbjaaGreatDoor.P
open Go.RowKit Go.Proofs.YtgicckcahhlbjaaGreatDoorW.PrintWords
def schismalaw02_WholePowers.Pure : Prop := ∀ (b0 : Bool) (l0 : List Int), l0.length ≤ maxLen → (∀ x ∈ l0, (Lit.int .u8 x).wf = true) → ∀ (a1 : Int), (Lit.int .i64 a1).wf = true → ∀  (_u : Unit), ∃ k, schismalaw02_WholePowers.f k b0 l0 a1 = some true
end Go.Proofs.YtgicckcahhlbjaaGreatDoor.P

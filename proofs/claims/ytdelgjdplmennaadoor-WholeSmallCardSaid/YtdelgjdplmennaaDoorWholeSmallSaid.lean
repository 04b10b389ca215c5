/- What the pure text of the law WholeSmall shows. -/
import Derived.Test.YtdelgjdplmennaaDoorWholeSmallF7
namespace Go.Proofs.YtdelgjdplmennaaDoor.P
open Go.RowKit Go.Proofs.YtdelgjdplmennaaDoorW.PrintWords
def schismalaw02_WholeSmall.Pure : Prop := ∀ (b0 : Bool) (l0 : List Int), l0.length ≤ maxLen → (∀ x ∈ l0, (Lit.int .u8 x).wf = true) → ∀  (_u : Unit), ∃ k, schismalaw02_WholeSmall.f k b0 l0 = some true
end Go.Proofs.YtdelgjdplmennaaDoor.P

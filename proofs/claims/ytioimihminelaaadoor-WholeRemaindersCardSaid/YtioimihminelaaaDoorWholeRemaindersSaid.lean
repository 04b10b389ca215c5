/- What the pure text of the law WholeRemainders shows. -/
import Derived.Test.YtioimihminelaaaDoorWholeRemaindersF7
namespace Go.Proofs.YtioimihminelaaaDoor.P
open Go.RowKit Go.Proofs.YtioimihminelaaaDoorW.PrintWords
def schismalaw02_WholeRemainders.Pure : Prop := ∀ (b0 : Bool) (l0 : List Int), l0.length ≤ maxLen → (∀ x ∈ l0, (Lit.int .u8 x).wf = true) → ∀ (b1 : Bool) (l1 : List Int), l1.length ≤ maxLen → (∀ x ∈ l1, (Lit.int .u8 x).wf = true) → ∀  (_u : Unit), ∃ k, schismalaw02_WholeRemainders.f k b0 l0 b1 l1 = some true
end Go.Proofs.YtioimihminelaaaDoor.P

/- Words of the walks, as the kit's print wrote them for this seat, and contracts of Go's library: those that this claim names. Conditions: those of each theorem. -/
import Derived.SizedLaws
import Derived.ChangeSlices

namespace Go.Proofs.YtgicckcahhlbjaaGreatDoorW.PrintWords
open Go.ChangeShapes Go.WideShapes
end Go.Proofs.YtgicckcahhlbjaaGreatDoorW.PrintWords

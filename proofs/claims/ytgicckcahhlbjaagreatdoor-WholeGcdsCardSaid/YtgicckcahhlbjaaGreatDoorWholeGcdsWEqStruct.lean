/- Words of the walks, as the kit's print wrote them for this seat, and contracts of Go's library: those that this claim names. Conditions: those of each theorem. -/
import Derived.Test.YtgicckcahhlbjaaGreatDoorWholeGcdsWWords
import Derived.Laws.StructEq

namespace Go.Proofs.YtgicckcahhlbjaaGreatDoorW.PrintWords
open Go.RowKit
section
variable {P : Program} {d : Nat} {xs ys : Array Value} {f : Field} {fs : List Field} {a b : Value} {r s : Bool} {w : World}
end
end Go.Proofs.YtgicckcahhlbjaaGreatDoorW.PrintWords

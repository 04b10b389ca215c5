/- Words of the walks, as the kit's print wrote them for this seat, and contracts of Go's library: those that this claim names. Conditions: those of each theorem. -/
import Derived.Test.YtgicckcahhlbjaaGreatDoorWholeGcdsWInv
import Derived.Test.YtgicckcahhlbjaaGreatDoorWholeGcdsWFootNe

namespace Go.Proofs.YtgicckcahhlbjaaGreatDoorW.PrintWords
open Go.RowKit
end Go.Proofs.YtgicckcahhlbjaaGreatDoorW.PrintWords
namespace Go.Proofs.YtgicckcahhlbjaaGreatDoorW.PrintLast
section
variable {ops : Array Oper} {a : Act} {o og : Oper} {g : Nat} {t : Tmp} {u : Bool}
end
end Go.Proofs.YtgicckcahhlbjaaGreatDoorW.PrintLast

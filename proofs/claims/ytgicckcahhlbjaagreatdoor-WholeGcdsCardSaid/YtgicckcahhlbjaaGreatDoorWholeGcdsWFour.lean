/- Words of the walks, as the kit's print wrote them for this seat, and contracts of Go's library: those that this claim names. Conditions: those of each theorem. -/
import Derived.Test.YtgicckcahhlbjaaGreatDoorWholeGcdsWTab

namespace Go.Proofs.YtgicckcahhlbjaaGreatDoorW.PrintLast
section
variable {P : Program} {ops : Array Oper} {Q : Exit → Act → World → Prop} {md : Region.Mode} {S : World → Prop} {ds : List Nat} {T : Bool × List (List Nat × List Nat)}
end
end Go.Proofs.YtgicckcahhlbjaaGreatDoorW.PrintLast

/- Words of the walks, as the kit's print wrote them for this seat, and contracts of Go's library: those that this claim names. Conditions: those of each theorem. -/
import Derived.Test.YtioimihminelaaaGreatDoorWholeProductsWInv
import Derived.Test.YtioimihminelaaaGreatDoorWholeProductsWFootNe

namespace Go.Proofs.YtioimihminelaaaGreatDoorW.PrintWords
open Go.RowKit
end Go.Proofs.YtioimihminelaaaGreatDoorW.PrintWords
namespace Go.Proofs.YtioimihminelaaaGreatDoorW.PrintLast
section
variable {ops : Array Oper} {a : Act} {o og : Oper} {g : Nat} {t : Tmp} {u : Bool}
end
end Go.Proofs.YtioimihminelaaaGreatDoorW.PrintLast

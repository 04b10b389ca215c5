/- Words of the walks, as the kit's print wrote them for this seat, and contracts of Go's library: those that this claim names. Conditions: those of each theorem. -/
import Derived.Test.YtdelgjdplmennaaDoorWholeOrdersWInv
import Derived.Test.YtdelgjdplmennaaDoorWholeOrdersWFootNe

namespace Go.Proofs.YtdelgjdplmennaaDoorW.PrintWords
open Go.RowKit
end Go.Proofs.YtdelgjdplmennaaDoorW.PrintWords
namespace Go.Proofs.YtdelgjdplmennaaDoorW.PrintLast
section
variable {ops : Array Oper} {a : Act} {o og : Oper} {g : Nat} {t : Tmp} {u : Bool}
end
end Go.Proofs.YtdelgjdplmennaaDoorW.PrintLast

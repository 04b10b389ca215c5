/- Words of the walks, as the kit's print wrote them for this seat, and contracts of Go's library: those that this claim names. Conditions: those of each theorem. -/
import Derived.Test.YtioimihminelaaaDoorWholeRemaindersWInv
import Derived.Test.YtioimihminelaaaDoorWholeRemaindersWFootNe

namespace Go.Proofs.YtioimihminelaaaDoorW.PrintWords
open Go.RowKit
end Go.Proofs.YtioimihminelaaaDoorW.PrintWords
namespace Go.Proofs.YtioimihminelaaaDoorW.PrintLast
section
variable {ops : Array Oper} {a : Act} {o og : Oper} {g : Nat} {t : Tmp} {u : Bool}
end
end Go.Proofs.YtioimihminelaaaDoorW.PrintLast

/- Words of the walks, as the kit's print wrote them for this seat, and contracts of Go's library: those that this claim names. Conditions: those of each theorem. -/
import Derived.Test.YtcfddphiflmnlaaDoorDecimalLimitsWInv
import Derived.Test.YtcfddphiflmnlaaDoorDecimalLimitsWFootNe

namespace Go.Proofs.YtcfddphiflmnlaaDoorW.PrintWords
open Go.RowKit
end Go.Proofs.YtcfddphiflmnlaaDoorW.PrintWords
namespace Go.Proofs.YtcfddphiflmnlaaDoorW.PrintLast
section
variable {ops : Array Oper} {a : Act} {o og : Oper} {g : Nat} {t : Tmp} {u : Bool}
end
end Go.Proofs.YtcfddphiflmnlaaDoorW.PrintLast

/- Words of the walks, as the kit's print wrote them for this seat, and contracts of Go's library: those that this claim names. Conditions: those of each theorem. -/
import Derived.Test.YtcfddphiflmnlaaDoorDecimalLimitsWApart
import Derived.Test.YtcfddphiflmnlaaDoorDecimalLimitsWArr

namespace Go.Proofs.YtcfddphiflmnlaaDoorW.PrintWords
open Go.RowKit
section
variable {P : Program}
end
namespace Kd
section
variable {P : Program} {ops : Array Oper} {rest : List Oper} {o : Oper} {a : Act} {Q : Exit → Act → World → Prop} {Kc : Act → World → Prop} {α : Type}
end
section
variable {α : Type} {d : Kd α} {e : Nat} {w : World} {base : Nat} {ok : Nat → Prop} {v : Value} {xs : List α}
end
section
variable {P : Program} {ops : Array Oper} {rest : List Oper} {o : Oper} {a : Act} {Q : Exit → Act → World → Prop} {Kc : Act → World → Prop} {α : Type}
end
end Kd
end Go.Proofs.YtcfddphiflmnlaaDoorW.PrintWords

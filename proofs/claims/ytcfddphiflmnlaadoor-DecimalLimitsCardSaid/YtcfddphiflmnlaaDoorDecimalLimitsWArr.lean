/- Words of the walks, as the kit's print wrote them for this seat, and contracts of Go's library: those that this claim names. Conditions: those of each theorem. -/
import Derived.Test.YtcfddphiflmnlaaDoorDecimalLimitsWWords

namespace Go.Proofs.YtcfddphiflmnlaaDoorW.PrintWords
open Go.RowKit
namespace Kd
section
variable {α : Type} {n : Nat} {d : Kd α} {hs : 0 < d.sz} {w : World} {base : Nat} {ok : Nat → Prop} {xs : List α} {cs : List Value}
end
section
variable {α : Type} {n : Nat} {enc : α → Value} {h1 : ∀ x, (enc x).oneCell' = true} {hs : 0 < (scalar enc h1).sz} {w : World} {base : Nat} {ok : Nat → Prop} {xs : List α} {cs : List Value}
end
end Kd
end Go.Proofs.YtcfddphiflmnlaaDoorW.PrintWords

/-
  DERIVED. GIVEN WITH THE SEED: THE CARDS: each row of YtdelgjdplmennaaDoorRows.lean that lists a variable, with what it lists TIED to the program's text (the seventh form; the later family's looks); each row that meets fmt, with fmt's text TOLD by the authors' own Lean function (tested against real Go, not proved from fmt's source: count such statements apart). THE CARD IS WHAT COUNTS. Prove the row's statement (the work); the ties are given (YtdelgjdplmennaaDoorTie.lean); close each card by the builder's one call (the guide's Derived/Test/ToyasCard.lean, 'card_holds'). Laid BY PROGRAM, IN A SANDBOX (cutbox-door.mjs). By AI agents, Wed Nov 11 2026. No macro, syntax, notation, axiom, sorry.
-/
import Derived.Test.YtdelgjdplmennaaDoorRows
import GoSem.ClaimSeven
namespace Go.Proofs.YtdelgjdplmennaaDoor
namespace Rows

/-- THE TIED CARD OF 'schismalaw02.WholeChecks'. -/
def wholeChecksCard : Claim7 := { stood := { row := wholeChecksRow, standIns := [], harness := (true, "ca5c1dc48153b7887a82f75f59399195103a789c0acd48be5bdca25b3bcf1dc2"), looks := true }, kinds := [], alts := [], laidByText := true, laidKinds := [.data, .data, .data, .data, .sentinel, .sentinel, .pinned], laidTests := true, laidLooks := .later }
def WholeChecksCardSaid : Prop := Claim7.holds Tryd.pinned (.plain (OpenSpec.ofChange wholeChecksSpec)) wholeChecksCard

/-- THE TIED CARD OF 'schismalaw02.WholeParses'. -/
def wholeParsesCard : Claim7 := { stood := { row := wholeParsesRow, standIns := [], harness := (true, "ca5c1dc48153b7887a82f75f59399195103a789c0acd48be5bdca25b3bcf1dc2"), looks := true }, kinds := [], alts := [], laidByText := true, laidKinds := [.data, .data, .data, .data, .sentinel, .sentinel, .pinned], laidTests := true, laidLooks := .later }
def WholeParsesCardSaid : Prop := Claim7.holds Tryd.pinned (.plain (OpenSpec.ofChange wholeParsesSpec)) wholeParsesCard

/-- THE TIED CARD OF 'schismalaw02.WholeSmall'. -/
def wholeSmallCard : Claim7 := { stood := { row := wholeSmallRow, standIns := [], harness := (true, "ca5c1dc48153b7887a82f75f59399195103a789c0acd48be5bdca25b3bcf1dc2"), looks := true }, kinds := [], alts := [], laidByText := true, laidKinds := [.data, .data, .data, .data, .sentinel, .sentinel, .pinned], laidTests := true, laidLooks := .later }
def WholeSmallCardSaid : Prop := Claim7.holds Tryd.pinned (.plain (OpenSpec.ofChange wholeSmallSpec)) wholeSmallCard

/-- THE TIED CARD OF 'schismalaw02.WholeOrders'. -/
def wholeOrdersCard : Claim7 := { stood := { row := wholeOrdersRow, standIns := [], harness := (true, "ca5c1dc48153b7887a82f75f59399195103a789c0acd48be5bdca25b3bcf1dc2"), looks := true }, kinds := [], alts := [], laidByText := true, laidKinds := [.data, .data, .data, .data, .sentinel, .sentinel, .pinned], laidTests := true, laidLooks := .later }
def WholeOrdersCardSaid : Prop := Claim7.holds Tryd.pinned (.plain (OpenSpec.ofChange wholeOrdersSpec)) wholeOrdersCard

/-- THE SECOND FORM's CARD OF 'schismalaw02.WholeChecks'. -/
def wholeChecksUptoCard : Claim7 := { stood := { row := wholeChecksUptoRow, standIns := [], harness := (true, "ca5c1dc48153b7887a82f75f59399195103a789c0acd48be5bdca25b3bcf1dc2"), looks := true }, kinds := [], alts := [], laidByText := true, laidKinds := [.data, .data, .data, .data, .sentinel, .sentinel, .pinned], laidTests := true, laidLooks := .later }
def WholeChecksUptoCardSaid : Prop := Claim7.holds Tryd.pinned (.plain (OpenSpec.upto wholeChecksSpec)) wholeChecksUptoCard

/-- THE SECOND FORM's CARD OF 'schismalaw02.WholeParses'. -/
def wholeParsesUptoCard : Claim7 := { stood := { row := wholeParsesUptoRow, standIns := [], harness := (true, "ca5c1dc48153b7887a82f75f59399195103a789c0acd48be5bdca25b3bcf1dc2"), looks := true }, kinds := [], alts := [], laidByText := true, laidKinds := [.data, .data, .data, .data, .sentinel, .sentinel, .pinned], laidTests := true, laidLooks := .later }
def WholeParsesUptoCardSaid : Prop := Claim7.holds Tryd.pinned (.plain (OpenSpec.upto wholeParsesSpec)) wholeParsesUptoCard

/-- THE SECOND FORM's CARD OF 'schismalaw02.WholeSmall'. -/
def wholeSmallUptoCard : Claim7 := { stood := { row := wholeSmallUptoRow, standIns := [], harness := (true, "ca5c1dc48153b7887a82f75f59399195103a789c0acd48be5bdca25b3bcf1dc2"), looks := true }, kinds := [], alts := [], laidByText := true, laidKinds := [.data, .data, .data, .data, .sentinel, .sentinel, .pinned], laidTests := true, laidLooks := .later }
def WholeSmallUptoCardSaid : Prop := Claim7.holds Tryd.pinned (.plain (OpenSpec.upto wholeSmallSpec)) wholeSmallUptoCard

/-- THE SECOND FORM's CARD OF 'schismalaw02.WholeOrders'. -/
def wholeOrdersUptoCard : Claim7 := { stood := { row := wholeOrdersUptoRow, standIns := [], harness := (true, "ca5c1dc48153b7887a82f75f59399195103a789c0acd48be5bdca25b3bcf1dc2"), looks := true }, kinds := [], alts := [], laidByText := true, laidKinds := [.data, .data, .data, .data, .sentinel, .sentinel, .pinned], laidTests := true, laidLooks := .later }
def WholeOrdersUptoCardSaid : Prop := Claim7.holds Tryd.pinned (.plain (OpenSpec.upto wholeOrdersSpec)) wholeOrdersUptoCard
end Rows
end Go.Proofs.YtdelgjdplmennaaDoor

/-
  DERIVED. GIVEN WITH THE SEED: THE CARDS: each row of YtioimihminelaaaDoorRows.lean that lists a variable, with what it lists TIED to the program's text (the seventh form; the later family's looks); each row that meets fmt, with fmt's text TOLD by the authors' own Lean function (tested against real Go, not proved from fmt's source: count such statements apart). THE CARD IS WHAT COUNTS. Prove the row's statement (the work); the ties are given (YtioimihminelaaaDoorTie.lean); close each card by the builder's one call (the guide's Derived/Test/ToyasCard.lean, 'card_holds'). Laid BY PROGRAM, IN A SANDBOX (cutbox-door.mjs). By AI agents, Wed Nov 11 2026. No macro, syntax, notation, axiom, sorry.
-/
import Derived.Test.YtioimihminelaaaDoorRows
import GoSem.ClaimSeven
namespace Go.Proofs.YtioimihminelaaaDoor
namespace Rows

/-- THE TIED CARD OF 'schismalaw02.WholeLaws'. -/
def wholeLawsCard : Claim7 := { stood := { row := wholeLawsRow, standIns := [], harness := (true, "e1a203fcc952a6794efe752151fbe4dfadc66fb2ddb835858876303098296f6c"), looks := true }, kinds := [], alts := [], laidByText := true, laidKinds := [.data, .data, .data, .data, .sentinel, .sentinel, .pinned], laidTests := true, laidLooks := .later }
def WholeLawsCardSaid : Prop := Claim7.holds Tryd.pinned (.plain (OpenSpec.ofChange wholeLawsSpec)) wholeLawsCard

/-- THE TIED CARD OF 'schismalaw02.WholeRemainders'. -/
def wholeRemaindersCard : Claim7 := { stood := { row := wholeRemaindersRow, standIns := [], harness := (true, "e1a203fcc952a6794efe752151fbe4dfadc66fb2ddb835858876303098296f6c"), looks := true }, kinds := [], alts := [], laidByText := true, laidKinds := [.data, .data, .data, .data, .sentinel, .sentinel, .pinned], laidTests := true, laidLooks := .later }
def WholeRemaindersCardSaid : Prop := Claim7.holds Tryd.pinned (.plain (OpenSpec.ofChange wholeRemaindersSpec)) wholeRemaindersCard

/-- THE SECOND FORM's CARD OF 'schismalaw02.WholeLaws'. -/
def wholeLawsUptoCard : Claim7 := { stood := { row := wholeLawsUptoRow, standIns := [], harness := (true, "e1a203fcc952a6794efe752151fbe4dfadc66fb2ddb835858876303098296f6c"), looks := true }, kinds := [], alts := [], laidByText := true, laidKinds := [.data, .data, .data, .data, .sentinel, .sentinel, .pinned], laidTests := true, laidLooks := .later }
def WholeLawsUptoCardSaid : Prop := Claim7.holds Tryd.pinned (.plain (OpenSpec.upto wholeLawsSpec)) wholeLawsUptoCard

/-- THE SECOND FORM's CARD OF 'schismalaw02.WholeRemainders'. -/
def wholeRemaindersUptoCard : Claim7 := { stood := { row := wholeRemaindersUptoRow, standIns := [], harness := (true, "e1a203fcc952a6794efe752151fbe4dfadc66fb2ddb835858876303098296f6c"), looks := true }, kinds := [], alts := [], laidByText := true, laidKinds := [.data, .data, .data, .data, .sentinel, .sentinel, .pinned], laidTests := true, laidLooks := .later }
def WholeRemaindersUptoCardSaid : Prop := Claim7.holds Tryd.pinned (.plain (OpenSpec.upto wholeRemaindersSpec)) wholeRemaindersUptoCard
end Rows
end Go.Proofs.YtioimihminelaaaDoor

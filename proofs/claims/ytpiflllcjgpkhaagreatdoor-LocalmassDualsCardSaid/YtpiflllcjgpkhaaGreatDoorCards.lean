/-
  DERIVED. GIVEN WITH THE SEED: THE CARDS: each row of YtpiflllcjgpkhaaGreatDoorRows.lean that lists a variable, with what it lists TIED to the program's text (the seventh form; the later family's looks); each row that meets fmt, with fmt's text TOLD by the authors' own Lean function (tested against real Go, not proved from fmt's source: count such statements apart). THE CARD IS WHAT COUNTS. Prove the row's statement (the work); the ties are given (YtpiflllcjgpkhaaGreatDoorTie.lean); close each card by the builder's one call (the guide's Derived/Test/ToyasCard.lean, 'card_holds'). Laid BY PROGRAM, IN A SANDBOX (cutbox-door.mjs). By AI agents, Wed Nov 11 2026. No macro, syntax, notation, axiom, sorry.
-/
import Derived.Test.YtpiflllcjgpkhaaGreatDoorRows
import GoSem.ClaimSeven
namespace Go.Proofs.YtpiflllcjgpkhaaGreatDoor
namespace Rows

/-- THE TIED CARD OF 'quadformlaw32.LocalmassStandard'. -/
def localmassStandardCard : Claim7 := { stood := { row := localmassStandardRow, standIns := [], harness := (true, "a0f25efb150bbead1a57d8209c4587990c7c0a9ba8547d6f21c148d6ed27e25c"), looks := false }, kinds := [], alts := [], laidByText := true, laidKinds := [.data, .data], laidTests := true, laidLooks := .later }
def LocalmassStandardCardSaid : Prop := Claim7.holds Tryz.pinned (.plain (OpenSpec.ofChange localmassStandardSpec)) localmassStandardCard

/-- THE TIED CARD OF 'quadformlaw32.LocalmassDiagonal'. -/
def localmassDiagonalCard : Claim7 := { stood := { row := localmassDiagonalRow, standIns := [], harness := (true, "a0f25efb150bbead1a57d8209c4587990c7c0a9ba8547d6f21c148d6ed27e25c"), looks := false }, kinds := [], alts := [], laidByText := true, laidKinds := [.data, .data], laidTests := true, laidLooks := .later }
def LocalmassDiagonalCardSaid : Prop := Claim7.holds Tryz.pinned (.plain (OpenSpec.ofChange localmassDiagonalSpec)) localmassDiagonalCard

/-- THE TIED CARD OF 'quadformlaw32.LocalmassDuals'. -/
def localmassDualsCard : Claim7 := { stood := { row := localmassDualsRow, standIns := [], harness := (true, "a0f25efb150bbead1a57d8209c4587990c7c0a9ba8547d6f21c148d6ed27e25c"), looks := false }, kinds := [], alts := [], laidByText := true, laidKinds := [.data, .data], laidTests := true, laidLooks := .later }
def LocalmassDualsCardSaid : Prop := Claim7.holds Tryz.pinned (.plain (OpenSpec.ofChange localmassDualsSpec)) localmassDualsCard

/-- THE SECOND FORM's CARD OF 'quadformlaw32.LocalmassStandard'. -/
def localmassStandardUptoCard : Claim7 := { stood := { row := localmassStandardUptoRow, standIns := [], harness := (true, "a0f25efb150bbead1a57d8209c4587990c7c0a9ba8547d6f21c148d6ed27e25c"), looks := false }, kinds := [], alts := [], laidByText := true, laidKinds := [.data, .data], laidTests := true, laidLooks := .later }
def LocalmassStandardUptoCardSaid : Prop := Claim7.holds Tryz.pinned (.plain (OpenSpec.upto localmassStandardSpec)) localmassStandardUptoCard

/-- THE SECOND FORM's CARD OF 'quadformlaw32.LocalmassDiagonal'. -/
def localmassDiagonalUptoCard : Claim7 := { stood := { row := localmassDiagonalUptoRow, standIns := [], harness := (true, "a0f25efb150bbead1a57d8209c4587990c7c0a9ba8547d6f21c148d6ed27e25c"), looks := false }, kinds := [], alts := [], laidByText := true, laidKinds := [.data, .data], laidTests := true, laidLooks := .later }
def LocalmassDiagonalUptoCardSaid : Prop := Claim7.holds Tryz.pinned (.plain (OpenSpec.upto localmassDiagonalSpec)) localmassDiagonalUptoCard

/-- THE SECOND FORM's CARD OF 'quadformlaw32.LocalmassDuals'. -/
def localmassDualsUptoCard : Claim7 := { stood := { row := localmassDualsUptoRow, standIns := [], harness := (true, "a0f25efb150bbead1a57d8209c4587990c7c0a9ba8547d6f21c148d6ed27e25c"), looks := false }, kinds := [], alts := [], laidByText := true, laidKinds := [.data, .data], laidTests := true, laidLooks := .later }
def LocalmassDualsUptoCardSaid : Prop := Claim7.holds Tryz.pinned (.plain (OpenSpec.upto localmassDualsSpec)) localmassDualsUptoCard
end Rows
end Go.Proofs.YtpiflllcjgpkhaaGreatDoor

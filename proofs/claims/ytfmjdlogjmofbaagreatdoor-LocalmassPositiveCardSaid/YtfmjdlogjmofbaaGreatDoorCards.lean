/-
  DERIVED. GIVEN WITH THE SEED: THE CARDS: each row of YtfmjdlogjmofbaaGreatDoorRows.lean that lists a variable, with what it lists TIED to the program's text (the seventh form; the later family's looks); each row that meets fmt, with fmt's text TOLD by the authors' own Lean function (tested against real Go, not proved from fmt's source: count such statements apart). THE CARD IS WHAT COUNTS. Prove the row's statement (the work); the ties are given (YtfmjdlogjmofbaaGreatDoorTie.lean); close each card by the builder's one call (the guide's Derived/Test/ToyasCard.lean, 'card_holds'). Laid BY PROGRAM, IN A SANDBOX (cutbox-door.mjs). By AI agents, Wed Nov 11 2026. No macro, syntax, notation, axiom, sorry.
-/
import Derived.Test.YtfmjdlogjmofbaaGreatDoorRows
import GoSem.ClaimSeven
namespace Go.Proofs.YtfmjdlogjmofbaaGreatDoor
namespace Rows

/-- THE TIED CARD OF 'quadformlaw32.LocalmassRegular'. -/
def localmassRegularCard : Claim7 := { stood := { row := localmassRegularRow, standIns := [], harness := (true, "b4d1d74d039e56ffe64f750d3613ba6915d43217f929b448dc960b145272c09f"), looks := false }, kinds := [], alts := [], laidByText := true, laidKinds := [.data, .data], laidTests := true, laidLooks := .later }
def LocalmassRegularCardSaid : Prop := Claim7.holds Tryz.pinned (.plain (OpenSpec.ofChange localmassRegularSpec)) localmassRegularCard

/-- THE TIED CARD OF 'quadformlaw32.LocalmassPositive'. -/
def localmassPositiveCard : Claim7 := { stood := { row := localmassPositiveRow, standIns := [], harness := (true, "b4d1d74d039e56ffe64f750d3613ba6915d43217f929b448dc960b145272c09f"), looks := false }, kinds := [], alts := [], laidByText := true, laidKinds := [.data, .data], laidTests := true, laidLooks := .later }
def LocalmassPositiveCardSaid : Prop := Claim7.holds Tryz.pinned (.plain (OpenSpec.ofChange localmassPositiveSpec)) localmassPositiveCard

/-- THE SECOND FORM's CARD OF 'quadformlaw32.LocalmassRegular'. -/
def localmassRegularUptoCard : Claim7 := { stood := { row := localmassRegularUptoRow, standIns := [], harness := (true, "b4d1d74d039e56ffe64f750d3613ba6915d43217f929b448dc960b145272c09f"), looks := false }, kinds := [], alts := [], laidByText := true, laidKinds := [.data, .data], laidTests := true, laidLooks := .later }
def LocalmassRegularUptoCardSaid : Prop := Claim7.holds Tryz.pinned (.plain (OpenSpec.upto localmassRegularSpec)) localmassRegularUptoCard

/-- THE SECOND FORM's CARD OF 'quadformlaw32.LocalmassPositive'. -/
def localmassPositiveUptoCard : Claim7 := { stood := { row := localmassPositiveUptoRow, standIns := [], harness := (true, "b4d1d74d039e56ffe64f750d3613ba6915d43217f929b448dc960b145272c09f"), looks := false }, kinds := [], alts := [], laidByText := true, laidKinds := [.data, .data], laidTests := true, laidLooks := .later }
def LocalmassPositiveUptoCardSaid : Prop := Claim7.holds Tryz.pinned (.plain (OpenSpec.upto localmassPositiveSpec)) localmassPositiveUptoCard
end Rows
end Go.Proofs.YtfmjdlogjmofbaaGreatDoor

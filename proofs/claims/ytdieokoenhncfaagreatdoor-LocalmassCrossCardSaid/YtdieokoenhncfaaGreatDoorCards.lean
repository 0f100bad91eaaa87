/-
  DERIVED. GIVEN WITH THE SEED: THE CARDS: each row of YtdieokoenhncfaaGreatDoorRows.lean that lists a variable, with what it lists TIED to the program's text (the seventh form; the later family's looks); each row that meets fmt, with fmt's text TOLD by the authors' own Lean function (tested against real Go, not proved from fmt's source: count such statements apart). THE CARD IS WHAT COUNTS. Prove the row's statement (the work); the ties are given (YtdieokoenhncfaaGreatDoorTie.lean); close each card by the builder's one call (the guide's Derived/Test/ToyasCard.lean, 'card_holds'). Laid BY PROGRAM, IN A SANDBOX (cutbox-door.mjs). By AI agents, Wed Nov 11 2026. No macro, syntax, notation, axiom, sorry.
-/
import Derived.Test.YtdieokoenhncfaaGreatDoorRows
import GoSem.ClaimSeven
namespace Go.Proofs.YtdieokoenhncfaaGreatDoor
namespace Rows

/-- THE TIED CARD OF 'quadformlaw32.LocalmassCross'. -/
def localmassCrossCard : Claim7 := { stood := { row := localmassCrossRow, standIns := [], harness := (true, "1c5e5bf504deb4cf2f1d94257f6bfe47575433666efa1b9f38be1c3735ccde00"), looks := false }, kinds := [], alts := [], laidByText := true, laidKinds := [.data, .data], laidTests := true, laidLooks := .later }
def LocalmassCrossCardSaid : Prop := Claim7.holds Tryz.pinned (.plain (OpenSpec.ofChange localmassCrossSpec)) localmassCrossCard

/-- THE TIED CARD OF 'quadformlaw32.LocalmassSpecies'. -/
def localmassSpeciesCard : Claim7 := { stood := { row := localmassSpeciesRow, standIns := [], harness := (true, "1c5e5bf504deb4cf2f1d94257f6bfe47575433666efa1b9f38be1c3735ccde00"), looks := false }, kinds := [], alts := [], laidByText := true, laidKinds := [.data, .data], laidTests := true, laidLooks := .later }
def LocalmassSpeciesCardSaid : Prop := Claim7.holds Tryz.pinned (.plain (OpenSpec.ofChange localmassSpeciesSpec)) localmassSpeciesCard

/-- THE TIED CARD OF 'quadformlaw32.LocalmassMass'. -/
def localmassMassCard : Claim7 := { stood := { row := localmassMassRow, standIns := [], harness := (true, "1c5e5bf504deb4cf2f1d94257f6bfe47575433666efa1b9f38be1c3735ccde00"), looks := false }, kinds := [], alts := [], laidByText := true, laidKinds := [.data, .data], laidTests := true, laidLooks := .later }
def LocalmassMassCardSaid : Prop := Claim7.holds Tryz.pinned (.plain (OpenSpec.ofChange localmassMassSpec)) localmassMassCard

/-- THE TIED CARD OF 'quadformlaw32.LocalmassScales'. -/
def localmassScalesCard : Claim7 := { stood := { row := localmassScalesRow, standIns := [], harness := (true, "1c5e5bf504deb4cf2f1d94257f6bfe47575433666efa1b9f38be1c3735ccde00"), looks := false }, kinds := [], alts := [], laidByText := true, laidKinds := [.data, .data], laidTests := true, laidLooks := .later }
def LocalmassScalesCardSaid : Prop := Claim7.holds Tryz.pinned (.plain (OpenSpec.ofChange localmassScalesSpec)) localmassScalesCard

/-- THE TIED CARD OF 'quadformlaw32.LocalmassWalks'. -/
def localmassWalksCard : Claim7 := { stood := { row := localmassWalksRow, standIns := [], harness := (true, "1c5e5bf504deb4cf2f1d94257f6bfe47575433666efa1b9f38be1c3735ccde00"), looks := false }, kinds := [], alts := [], laidByText := true, laidKinds := [.data, .data], laidTests := true, laidLooks := .later }
def LocalmassWalksCardSaid : Prop := Claim7.holds Tryz.pinned (.plain (OpenSpec.ofChange localmassWalksSpec)) localmassWalksCard

/-- THE SECOND FORM's CARD OF 'quadformlaw32.LocalmassCross'. -/
def localmassCrossUptoCard : Claim7 := { stood := { row := localmassCrossUptoRow, standIns := [], harness := (true, "1c5e5bf504deb4cf2f1d94257f6bfe47575433666efa1b9f38be1c3735ccde00"), looks := false }, kinds := [], alts := [], laidByText := true, laidKinds := [.data, .data], laidTests := true, laidLooks := .later }
def LocalmassCrossUptoCardSaid : Prop := Claim7.holds Tryz.pinned (.plain (OpenSpec.upto localmassCrossSpec)) localmassCrossUptoCard

/-- THE SECOND FORM's CARD OF 'quadformlaw32.LocalmassSpecies'. -/
def localmassSpeciesUptoCard : Claim7 := { stood := { row := localmassSpeciesUptoRow, standIns := [], harness := (true, "1c5e5bf504deb4cf2f1d94257f6bfe47575433666efa1b9f38be1c3735ccde00"), looks := false }, kinds := [], alts := [], laidByText := true, laidKinds := [.data, .data], laidTests := true, laidLooks := .later }
def LocalmassSpeciesUptoCardSaid : Prop := Claim7.holds Tryz.pinned (.plain (OpenSpec.upto localmassSpeciesSpec)) localmassSpeciesUptoCard

/-- THE SECOND FORM's CARD OF 'quadformlaw32.LocalmassMass'. -/
def localmassMassUptoCard : Claim7 := { stood := { row := localmassMassUptoRow, standIns := [], harness := (true, "1c5e5bf504deb4cf2f1d94257f6bfe47575433666efa1b9f38be1c3735ccde00"), looks := false }, kinds := [], alts := [], laidByText := true, laidKinds := [.data, .data], laidTests := true, laidLooks := .later }
def LocalmassMassUptoCardSaid : Prop := Claim7.holds Tryz.pinned (.plain (OpenSpec.upto localmassMassSpec)) localmassMassUptoCard

/-- THE SECOND FORM's CARD OF 'quadformlaw32.LocalmassScales'. -/
def localmassScalesUptoCard : Claim7 := { stood := { row := localmassScalesUptoRow, standIns := [], harness := (true, "1c5e5bf504deb4cf2f1d94257f6bfe47575433666efa1b9f38be1c3735ccde00"), looks := false }, kinds := [], alts := [], laidByText := true, laidKinds := [.data, .data], laidTests := true, laidLooks := .later }
def LocalmassScalesUptoCardSaid : Prop := Claim7.holds Tryz.pinned (.plain (OpenSpec.upto localmassScalesSpec)) localmassScalesUptoCard

/-- THE SECOND FORM's CARD OF 'quadformlaw32.LocalmassWalks'. -/
def localmassWalksUptoCard : Claim7 := { stood := { row := localmassWalksUptoRow, standIns := [], harness := (true, "1c5e5bf504deb4cf2f1d94257f6bfe47575433666efa1b9f38be1c3735ccde00"), looks := false }, kinds := [], alts := [], laidByText := true, laidKinds := [.data, .data], laidTests := true, laidLooks := .later }
def LocalmassWalksUptoCardSaid : Prop := Claim7.holds Tryz.pinned (.plain (OpenSpec.upto localmassWalksSpec)) localmassWalksUptoCard
end Rows
end Go.Proofs.YtdieokoenhncfaaGreatDoor

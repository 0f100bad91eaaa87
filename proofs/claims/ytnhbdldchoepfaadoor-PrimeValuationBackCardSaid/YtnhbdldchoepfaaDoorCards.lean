/-
  DERIVED. GIVEN WITH THE SEED: THE CARDS: each row of YtnhbdldchoepfaaDoorRows.lean that lists a variable, with what it lists TIED to the program's text (the seventh form; the later family's looks); each row that meets fmt, with fmt's text TOLD by the authors' own Lean function (tested against real Go, not proved from fmt's source: count such statements apart). THE CARD IS WHAT COUNTS. Prove the row's statement (the work); the ties are given (YtnhbdldchoepfaaDoorTie.lean); close each card by the builder's one call (the guide's Derived/Test/ToyasCard.lean, 'card_holds'). Laid BY PROGRAM, IN A SANDBOX (cutbox-door.mjs). By AI agents, Wed Nov 11 2026. No macro, syntax, notation, axiom, sorry.
-/
import Derived.Test.YtnhbdldchoepfaaDoorRows
import GoSem.ClaimSeven
namespace Go.Proofs.YtnhbdldchoepfaaDoor
namespace Rows

/-- THE TIED CARD OF 'quadformlaw22.PrimeUnit'. -/
def primeUnitCard : Claim7 := { stood := { row := primeUnitRow, standIns := [], harness := (true, "9ded8c6113105b1893b8f2dec1d527121e9dcf347e9fa6e69a90f81178376871"), looks := false }, kinds := [], alts := [], laidByText := true, laidKinds := [.data], laidTests := true, laidLooks := .later }
def PrimeUnitCardSaid : Prop := Claim7.holds Tryd.pinned (.plain (OpenSpec.ofChange primeUnitSpec)) primeUnitCard

/-- THE TIED CARD OF 'quadformlaw22.PrimeUnitSquares'. -/
def primeUnitSquaresCard : Claim7 := { stood := { row := primeUnitSquaresRow, standIns := [], harness := (true, "9ded8c6113105b1893b8f2dec1d527121e9dcf347e9fa6e69a90f81178376871"), looks := false }, kinds := [], alts := [], laidByText := true, laidKinds := [.data], laidTests := true, laidLooks := .later }
def PrimeUnitSquaresCardSaid : Prop := Claim7.holds Tryd.pinned (.plain (OpenSpec.ofChange primeUnitSquaresSpec)) primeUnitSquaresCard

/-- THE TIED CARD OF 'quadformlaw22.PrimeValuation'. -/
def primeValuationCard : Claim7 := { stood := { row := primeValuationRow, standIns := [], harness := (true, "9ded8c6113105b1893b8f2dec1d527121e9dcf347e9fa6e69a90f81178376871"), looks := false }, kinds := [], alts := [], laidByText := true, laidKinds := [.data], laidTests := true, laidLooks := .later }
def PrimeValuationCardSaid : Prop := Claim7.holds Tryd.pinned (.plain (OpenSpec.ofChange primeValuationSpec)) primeValuationCard

/-- THE TIED CARD OF 'quadformlaw22.PrimeValuationBack'. -/
def primeValuationBackCard : Claim7 := { stood := { row := primeValuationBackRow, standIns := [], harness := (true, "9ded8c6113105b1893b8f2dec1d527121e9dcf347e9fa6e69a90f81178376871"), looks := false }, kinds := [], alts := [], laidByText := true, laidKinds := [.data], laidTests := true, laidLooks := .later }
def PrimeValuationBackCardSaid : Prop := Claim7.holds Tryd.pinned (.plain (OpenSpec.ofChange primeValuationBackSpec)) primeValuationBackCard

/-- THE SECOND FORM's CARD OF 'quadformlaw22.PrimeUnit'. -/
def primeUnitUptoCard : Claim7 := { stood := { row := primeUnitUptoRow, standIns := [], harness := (true, "9ded8c6113105b1893b8f2dec1d527121e9dcf347e9fa6e69a90f81178376871"), looks := false }, kinds := [], alts := [], laidByText := true, laidKinds := [.data], laidTests := true, laidLooks := .later }
def PrimeUnitUptoCardSaid : Prop := Claim7.holds Tryd.pinned (.plain (OpenSpec.upto primeUnitSpec)) primeUnitUptoCard

/-- THE SECOND FORM's CARD OF 'quadformlaw22.PrimeUnitSquares'. -/
def primeUnitSquaresUptoCard : Claim7 := { stood := { row := primeUnitSquaresUptoRow, standIns := [], harness := (true, "9ded8c6113105b1893b8f2dec1d527121e9dcf347e9fa6e69a90f81178376871"), looks := false }, kinds := [], alts := [], laidByText := true, laidKinds := [.data], laidTests := true, laidLooks := .later }
def PrimeUnitSquaresUptoCardSaid : Prop := Claim7.holds Tryd.pinned (.plain (OpenSpec.upto primeUnitSquaresSpec)) primeUnitSquaresUptoCard

/-- THE SECOND FORM's CARD OF 'quadformlaw22.PrimeValuation'. -/
def primeValuationUptoCard : Claim7 := { stood := { row := primeValuationUptoRow, standIns := [], harness := (true, "9ded8c6113105b1893b8f2dec1d527121e9dcf347e9fa6e69a90f81178376871"), looks := false }, kinds := [], alts := [], laidByText := true, laidKinds := [.data], laidTests := true, laidLooks := .later }
def PrimeValuationUptoCardSaid : Prop := Claim7.holds Tryd.pinned (.plain (OpenSpec.upto primeValuationSpec)) primeValuationUptoCard

/-- THE SECOND FORM's CARD OF 'quadformlaw22.PrimeValuationBack'. -/
def primeValuationBackUptoCard : Claim7 := { stood := { row := primeValuationBackUptoRow, standIns := [], harness := (true, "9ded8c6113105b1893b8f2dec1d527121e9dcf347e9fa6e69a90f81178376871"), looks := false }, kinds := [], alts := [], laidByText := true, laidKinds := [.data], laidTests := true, laidLooks := .later }
def PrimeValuationBackUptoCardSaid : Prop := Claim7.holds Tryd.pinned (.plain (OpenSpec.upto primeValuationBackSpec)) primeValuationBackUptoCard
end Rows
end Go.Proofs.YtnhbdldchoepfaaDoor

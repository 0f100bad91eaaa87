/-
  DERIVED. GIVEN WITH THE SEED: THE CARDS: each row of YtifagnolobhhdaaDoorRows.lean that lists a variable, with what it lists TIED to the program's text (the seventh form; the later family's looks); each row that meets fmt, with fmt's text TOLD by the authors' own Lean function (tested against real Go, not proved from fmt's source: count such statements apart). THE CARD IS WHAT COUNTS. Prove the row's statement (the work); the ties are given (YtifagnolobhhdaaDoorTie.lean); close each card by the builder's one call (the guide's Derived/Test/ToyasCard.lean, 'card_holds'). Laid BY PROGRAM, IN A SANDBOX (cutbox-door.mjs). By AI agents, Wed Nov 11 2026. No macro, syntax, notation, axiom, sorry.
-/
import Derived.Test.YtifagnolobhhdaaDoorRows
import GoSem.ClaimSeven
namespace Go.Proofs.YtifagnolobhhdaaDoor
namespace Rows

/-- THE TIED CARD OF 'quadformlaw22.PrimeIs'. -/
def primeIsCard : Claim7 := { stood := { row := primeIsRow, standIns := [], harness := (true, "224a2867ecf1064a0c4ac73c73ed74be43ccab91e3bf6f37d8106f325411d5b9"), looks := false }, kinds := [], alts := [], laidByText := true, laidKinds := [.data], laidTests := true, laidLooks := .later }
def PrimeIsCardSaid : Prop := Claim7.holds Tryd.pinned (.plain (OpenSpec.ofChange primeIsSpec)) primeIsCard

/-- THE TIED CARD OF 'quadformlaw22.PrimeFactor'. -/
def primeFactorCard : Claim7 := { stood := { row := primeFactorRow, standIns := [], harness := (true, "224a2867ecf1064a0c4ac73c73ed74be43ccab91e3bf6f37d8106f325411d5b9"), looks := false }, kinds := [], alts := [], laidByText := true, laidKinds := [.data], laidTests := true, laidLooks := .later }
def PrimeFactorCardSaid : Prop := Claim7.holds Tryd.pinned (.plain (OpenSpec.ofChange primeFactorSpec)) primeFactorCard

/-- THE TIED CARD OF 'quadformlaw22.PrimeProduct'. -/
def primeProductCard : Claim7 := { stood := { row := primeProductRow, standIns := [], harness := (true, "224a2867ecf1064a0c4ac73c73ed74be43ccab91e3bf6f37d8106f325411d5b9"), looks := false }, kinds := [], alts := [], laidByText := true, laidKinds := [.data], laidTests := true, laidLooks := .later }
def PrimeProductCardSaid : Prop := Claim7.holds Tryd.pinned (.plain (OpenSpec.ofChange primeProductSpec)) primeProductCard

/-- THE TIED CARD OF 'quadformlaw22.PrimeKronecker'. -/
def primeKroneckerCard : Claim7 := { stood := { row := primeKroneckerRow, standIns := [], harness := (true, "224a2867ecf1064a0c4ac73c73ed74be43ccab91e3bf6f37d8106f325411d5b9"), looks := false }, kinds := [], alts := [], laidByText := true, laidKinds := [.data], laidTests := true, laidLooks := .later }
def PrimeKroneckerCardSaid : Prop := Claim7.holds Tryd.pinned (.plain (OpenSpec.ofChange primeKroneckerSpec)) primeKroneckerCard

/-- THE TIED CARD OF 'quadformlaw22.PrimeMultiplies'. -/
def primeMultipliesCard : Claim7 := { stood := { row := primeMultipliesRow, standIns := [], harness := (true, "224a2867ecf1064a0c4ac73c73ed74be43ccab91e3bf6f37d8106f325411d5b9"), looks := false }, kinds := [], alts := [], laidByText := true, laidKinds := [.data], laidTests := true, laidLooks := .later }
def PrimeMultipliesCardSaid : Prop := Claim7.holds Tryd.pinned (.plain (OpenSpec.ofChange primeMultipliesSpec)) primeMultipliesCard

/-- THE TIED CARD OF 'quadformlaw22.PrimeReciprocity'. -/
def primeReciprocityCard : Claim7 := { stood := { row := primeReciprocityRow, standIns := [], harness := (true, "224a2867ecf1064a0c4ac73c73ed74be43ccab91e3bf6f37d8106f325411d5b9"), looks := false }, kinds := [], alts := [], laidByText := true, laidKinds := [.data], laidTests := true, laidLooks := .later }
def PrimeReciprocityCardSaid : Prop := Claim7.holds Tryd.pinned (.plain (OpenSpec.ofChange primeReciprocitySpec)) primeReciprocityCard

/-- THE TIED CARD OF 'quadformlaw22.PrimeSquares'. -/
def primeSquaresCard : Claim7 := { stood := { row := primeSquaresRow, standIns := [], harness := (true, "224a2867ecf1064a0c4ac73c73ed74be43ccab91e3bf6f37d8106f325411d5b9"), looks := false }, kinds := [], alts := [], laidByText := true, laidKinds := [.data], laidTests := true, laidLooks := .later }
def PrimeSquaresCardSaid : Prop := Claim7.holds Tryd.pinned (.plain (OpenSpec.ofChange primeSquaresSpec)) primeSquaresCard

/-- THE TIED CARD OF 'quadformlaw22.PrimeSquarefree'. -/
def primeSquarefreeCard : Claim7 := { stood := { row := primeSquarefreeRow, standIns := [], harness := (true, "224a2867ecf1064a0c4ac73c73ed74be43ccab91e3bf6f37d8106f325411d5b9"), looks := false }, kinds := [], alts := [], laidByText := true, laidKinds := [.data], laidTests := true, laidLooks := .later }
def PrimeSquarefreeCardSaid : Prop := Claim7.holds Tryd.pinned (.plain (OpenSpec.ofChange primeSquarefreeSpec)) primeSquarefreeCard

/-- THE TIED CARD OF 'quadformlaw22.PrimeDiscriminant'. -/
def primeDiscriminantCard : Claim7 := { stood := { row := primeDiscriminantRow, standIns := [], harness := (true, "224a2867ecf1064a0c4ac73c73ed74be43ccab91e3bf6f37d8106f325411d5b9"), looks := false }, kinds := [], alts := [], laidByText := true, laidKinds := [.data], laidTests := true, laidLooks := .later }
def PrimeDiscriminantCardSaid : Prop := Claim7.holds Tryd.pinned (.plain (OpenSpec.ofChange primeDiscriminantSpec)) primeDiscriminantCard

/-- THE TIED CARD OF 'quadformlaw22.PrimeNext'. -/
def primeNextCard : Claim7 := { stood := { row := primeNextRow, standIns := [], harness := (true, "224a2867ecf1064a0c4ac73c73ed74be43ccab91e3bf6f37d8106f325411d5b9"), looks := false }, kinds := [], alts := [], laidByText := true, laidKinds := [.data], laidTests := true, laidLooks := .later }
def PrimeNextCardSaid : Prop := Claim7.holds Tryd.pinned (.plain (OpenSpec.ofChange primeNextSpec)) primeNextCard

/-- THE TIED CARD OF 'quadformlaw22.PrimeGaps'. -/
def primeGapsCard : Claim7 := { stood := { row := primeGapsRow, standIns := [], harness := (true, "224a2867ecf1064a0c4ac73c73ed74be43ccab91e3bf6f37d8106f325411d5b9"), looks := false }, kinds := [], alts := [], laidByText := true, laidKinds := [.data], laidTests := true, laidLooks := .later }
def PrimeGapsCardSaid : Prop := Claim7.holds Tryd.pinned (.plain (OpenSpec.ofChange primeGapsSpec)) primeGapsCard

/-- THE SECOND FORM's CARD OF 'quadformlaw22.PrimeIs'. -/
def primeIsUptoCard : Claim7 := { stood := { row := primeIsUptoRow, standIns := [], harness := (true, "224a2867ecf1064a0c4ac73c73ed74be43ccab91e3bf6f37d8106f325411d5b9"), looks := false }, kinds := [], alts := [], laidByText := true, laidKinds := [.data], laidTests := true, laidLooks := .later }
def PrimeIsUptoCardSaid : Prop := Claim7.holds Tryd.pinned (.plain (OpenSpec.upto primeIsSpec)) primeIsUptoCard

/-- THE SECOND FORM's CARD OF 'quadformlaw22.PrimeFactor'. -/
def primeFactorUptoCard : Claim7 := { stood := { row := primeFactorUptoRow, standIns := [], harness := (true, "224a2867ecf1064a0c4ac73c73ed74be43ccab91e3bf6f37d8106f325411d5b9"), looks := false }, kinds := [], alts := [], laidByText := true, laidKinds := [.data], laidTests := true, laidLooks := .later }
def PrimeFactorUptoCardSaid : Prop := Claim7.holds Tryd.pinned (.plain (OpenSpec.upto primeFactorSpec)) primeFactorUptoCard

/-- THE SECOND FORM's CARD OF 'quadformlaw22.PrimeProduct'. -/
def primeProductUptoCard : Claim7 := { stood := { row := primeProductUptoRow, standIns := [], harness := (true, "224a2867ecf1064a0c4ac73c73ed74be43ccab91e3bf6f37d8106f325411d5b9"), looks := false }, kinds := [], alts := [], laidByText := true, laidKinds := [.data], laidTests := true, laidLooks := .later }
def PrimeProductUptoCardSaid : Prop := Claim7.holds Tryd.pinned (.plain (OpenSpec.upto primeProductSpec)) primeProductUptoCard

/-- THE SECOND FORM's CARD OF 'quadformlaw22.PrimeKronecker'. -/
def primeKroneckerUptoCard : Claim7 := { stood := { row := primeKroneckerUptoRow, standIns := [], harness := (true, "224a2867ecf1064a0c4ac73c73ed74be43ccab91e3bf6f37d8106f325411d5b9"), looks := false }, kinds := [], alts := [], laidByText := true, laidKinds := [.data], laidTests := true, laidLooks := .later }
def PrimeKroneckerUptoCardSaid : Prop := Claim7.holds Tryd.pinned (.plain (OpenSpec.upto primeKroneckerSpec)) primeKroneckerUptoCard

/-- THE SECOND FORM's CARD OF 'quadformlaw22.PrimeMultiplies'. -/
def primeMultipliesUptoCard : Claim7 := { stood := { row := primeMultipliesUptoRow, standIns := [], harness := (true, "224a2867ecf1064a0c4ac73c73ed74be43ccab91e3bf6f37d8106f325411d5b9"), looks := false }, kinds := [], alts := [], laidByText := true, laidKinds := [.data], laidTests := true, laidLooks := .later }
def PrimeMultipliesUptoCardSaid : Prop := Claim7.holds Tryd.pinned (.plain (OpenSpec.upto primeMultipliesSpec)) primeMultipliesUptoCard

/-- THE SECOND FORM's CARD OF 'quadformlaw22.PrimeReciprocity'. -/
def primeReciprocityUptoCard : Claim7 := { stood := { row := primeReciprocityUptoRow, standIns := [], harness := (true, "224a2867ecf1064a0c4ac73c73ed74be43ccab91e3bf6f37d8106f325411d5b9"), looks := false }, kinds := [], alts := [], laidByText := true, laidKinds := [.data], laidTests := true, laidLooks := .later }
def PrimeReciprocityUptoCardSaid : Prop := Claim7.holds Tryd.pinned (.plain (OpenSpec.upto primeReciprocitySpec)) primeReciprocityUptoCard

/-- THE SECOND FORM's CARD OF 'quadformlaw22.PrimeSquares'. -/
def primeSquaresUptoCard : Claim7 := { stood := { row := primeSquaresUptoRow, standIns := [], harness := (true, "224a2867ecf1064a0c4ac73c73ed74be43ccab91e3bf6f37d8106f325411d5b9"), looks := false }, kinds := [], alts := [], laidByText := true, laidKinds := [.data], laidTests := true, laidLooks := .later }
def PrimeSquaresUptoCardSaid : Prop := Claim7.holds Tryd.pinned (.plain (OpenSpec.upto primeSquaresSpec)) primeSquaresUptoCard

/-- THE SECOND FORM's CARD OF 'quadformlaw22.PrimeSquarefree'. -/
def primeSquarefreeUptoCard : Claim7 := { stood := { row := primeSquarefreeUptoRow, standIns := [], harness := (true, "224a2867ecf1064a0c4ac73c73ed74be43ccab91e3bf6f37d8106f325411d5b9"), looks := false }, kinds := [], alts := [], laidByText := true, laidKinds := [.data], laidTests := true, laidLooks := .later }
def PrimeSquarefreeUptoCardSaid : Prop := Claim7.holds Tryd.pinned (.plain (OpenSpec.upto primeSquarefreeSpec)) primeSquarefreeUptoCard

/-- THE SECOND FORM's CARD OF 'quadformlaw22.PrimeDiscriminant'. -/
def primeDiscriminantUptoCard : Claim7 := { stood := { row := primeDiscriminantUptoRow, standIns := [], harness := (true, "224a2867ecf1064a0c4ac73c73ed74be43ccab91e3bf6f37d8106f325411d5b9"), looks := false }, kinds := [], alts := [], laidByText := true, laidKinds := [.data], laidTests := true, laidLooks := .later }
def PrimeDiscriminantUptoCardSaid : Prop := Claim7.holds Tryd.pinned (.plain (OpenSpec.upto primeDiscriminantSpec)) primeDiscriminantUptoCard

/-- THE SECOND FORM's CARD OF 'quadformlaw22.PrimeNext'. -/
def primeNextUptoCard : Claim7 := { stood := { row := primeNextUptoRow, standIns := [], harness := (true, "224a2867ecf1064a0c4ac73c73ed74be43ccab91e3bf6f37d8106f325411d5b9"), looks := false }, kinds := [], alts := [], laidByText := true, laidKinds := [.data], laidTests := true, laidLooks := .later }
def PrimeNextUptoCardSaid : Prop := Claim7.holds Tryd.pinned (.plain (OpenSpec.upto primeNextSpec)) primeNextUptoCard

/-- THE SECOND FORM's CARD OF 'quadformlaw22.PrimeGaps'. -/
def primeGapsUptoCard : Claim7 := { stood := { row := primeGapsUptoRow, standIns := [], harness := (true, "224a2867ecf1064a0c4ac73c73ed74be43ccab91e3bf6f37d8106f325411d5b9"), looks := false }, kinds := [], alts := [], laidByText := true, laidKinds := [.data], laidTests := true, laidLooks := .later }
def PrimeGapsUptoCardSaid : Prop := Claim7.holds Tryd.pinned (.plain (OpenSpec.upto primeGapsSpec)) primeGapsUptoCard
end Rows
end Go.Proofs.YtifagnolobhhdaaDoor

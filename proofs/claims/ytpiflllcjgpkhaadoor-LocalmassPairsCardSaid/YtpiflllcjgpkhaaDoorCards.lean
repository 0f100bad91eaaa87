/-
  DERIVED. GIVEN WITH THE SEED: THE CARDS: each row of YtpiflllcjgpkhaaDoorRows.lean that lists a variable, with what it lists TIED to the program's text (the seventh form; the later family's looks); each row that meets fmt, with fmt's text TOLD by the authors' own Lean function (tested against real Go, not proved from fmt's source: count such statements apart). THE CARD IS WHAT COUNTS. Prove the row's statement (the work); the ties are given (YtpiflllcjgpkhaaDoorTie.lean); close each card by the builder's one call (the guide's Derived/Test/ToyasCard.lean, 'card_holds'). Laid BY PROGRAM, IN A SANDBOX (cutbox-door.mjs). By AI agents, Wed Nov 11 2026. No macro, syntax, notation, axiom, sorry.
-/
import Derived.Test.YtpiflllcjgpkhaaDoorRows
import GoSem.ClaimSeven
namespace Go.Proofs.YtpiflllcjgpkhaaDoor
namespace Rows

/-- THE TIED CARD OF 'quadformlaw32.LocalmassPairs'. -/
def localmassPairsCard : Claim7 := { stood := { row := localmassPairsRow, standIns := [], harness := (true, "6bee79e780f0acd2aa1acbfcef1779384427ce3c35e04c3fd40bde2fffbe9461"), looks := false }, kinds := [], alts := [], laidByText := true, laidKinds := [.data, .data], laidTests := true, laidLooks := .later }
def LocalmassPairsCardSaid : Prop := Claim7.holds Tryd.pinned (.plain (OpenSpec.ofChange localmassPairsSpec)) localmassPairsCard

/-- THE SECOND FORM's CARD OF 'quadformlaw32.LocalmassPairs'. -/
def localmassPairsUptoCard : Claim7 := { stood := { row := localmassPairsUptoRow, standIns := [], harness := (true, "6bee79e780f0acd2aa1acbfcef1779384427ce3c35e04c3fd40bde2fffbe9461"), looks := false }, kinds := [], alts := [], laidByText := true, laidKinds := [.data, .data], laidTests := true, laidLooks := .later }
def LocalmassPairsUptoCardSaid : Prop := Claim7.holds Tryd.pinned (.plain (OpenSpec.upto localmassPairsSpec)) localmassPairsUptoCard
end Rows
end Go.Proofs.YtpiflllcjgpkhaaDoor

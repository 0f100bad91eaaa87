/-
  DERIVED. GIVEN WITH THE SEED: THE CARDS: each row of YtgbiccenhionaaaGreatDoorRows.lean that lists a variable, with what it lists TIED to the program's text (the seventh form; the later family's looks); each row that meets fmt, with fmt's text TOLD by the authors' own Lean function (tested against real Go, not proved from fmt's source: count such statements apart). THE CARD IS WHAT COUNTS. Prove the row's statement (the work); the ties are given (YtgbiccenhionaaaGreatDoorTie.lean); close each card by the builder's one call (the guide's Derived/Test/ToyasCard.lean, 'card_holds'). Laid BY PROGRAM, IN A SANDBOX (cutbox-door.mjs). By AI agents, Wed Nov 11 2026. No macro, syntax, notation, axiom, sorry.
-/
import Derived.Test.YtgbiccenhionaaaGreatDoorRows
import GoSem.ClaimSeven
namespace Go.Proofs.YtgbiccenhionaaaGreatDoor
namespace Rows

/-- THE TIED CARD OF 'quadformlaw31.BernoulliSteps'. -/
def bernoulliStepsCard : Claim7 := { stood := { row := bernoulliStepsRow, standIns := [], harness := (true, "85ee44e74e2b878633d75557b8b7d40dae0dc0be3fe78d012e5e9b43f70a3a38"), looks := false }, kinds := [], alts := [], laidByText := true, laidKinds := [.data], laidTests := true, laidLooks := .later }
def BernoulliStepsCardSaid : Prop := Claim7.holds Tryz.pinned (.plain (OpenSpec.ofChange bernoulliStepsSpec)) bernoulliStepsCard

/-- THE SECOND FORM's CARD OF 'quadformlaw31.BernoulliSteps'. -/
def bernoulliStepsUptoCard : Claim7 := { stood := { row := bernoulliStepsUptoRow, standIns := [], harness := (true, "85ee44e74e2b878633d75557b8b7d40dae0dc0be3fe78d012e5e9b43f70a3a38"), looks := false }, kinds := [], alts := [], laidByText := true, laidKinds := [.data], laidTests := true, laidLooks := .later }
def BernoulliStepsUptoCardSaid : Prop := Claim7.holds Tryz.pinned (.plain (OpenSpec.upto bernoulliStepsSpec)) bernoulliStepsUptoCard
end Rows
end Go.Proofs.YtgbiccenhionaaaGreatDoor

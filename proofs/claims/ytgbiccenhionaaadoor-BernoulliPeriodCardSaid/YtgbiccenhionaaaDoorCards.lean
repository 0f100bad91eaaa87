/-
  DERIVED. GIVEN WITH THE SEED: THE CARDS: each row of YtgbiccenhionaaaDoorRows.lean that lists a variable, with what it lists TIED to the program's text (the seventh form; the later family's looks); each row that meets fmt, with fmt's text TOLD by the authors' own Lean function (tested against real Go, not proved from fmt's source: count such statements apart). THE CARD IS WHAT COUNTS. Prove the row's statement (the work); the ties are given (YtgbiccenhionaaaDoorTie.lean); close each card by the builder's one call (the guide's Derived/Test/ToyasCard.lean, 'card_holds'). Laid BY PROGRAM, IN A SANDBOX (cutbox-door.mjs). By AI agents, Wed Nov 11 2026. No macro, syntax, notation, axiom, sorry.
-/
import Derived.Test.YtgbiccenhionaaaDoorRows
import GoSem.ClaimSeven
namespace Go.Proofs.YtgbiccenhionaaaDoor
namespace Rows

/-- THE TIED CARD OF 'quadformlaw31.BernoulliNumber'. -/
def bernoulliNumberCard : Claim7 := { stood := { row := bernoulliNumberRow, standIns := [], harness := (true, "b1d7a31a55a1882c5dd690f1017719261722fe413acfad1256b74915d352fa65"), looks := false }, kinds := [], alts := [], laidByText := true, laidKinds := [.data], laidTests := true, laidLooks := .later }
def BernoulliNumberCardSaid : Prop := Claim7.holds Tryd.pinned (.plain (OpenSpec.ofChange bernoulliNumberSpec)) bernoulliNumberCard

/-- THE TIED CARD OF 'quadformlaw31.BernoulliDenominator'. -/
def bernoulliDenominatorCard : Claim7 := { stood := { row := bernoulliDenominatorRow, standIns := [], harness := (true, "b1d7a31a55a1882c5dd690f1017719261722fe413acfad1256b74915d352fa65"), looks := false }, kinds := [], alts := [], laidByText := true, laidKinds := [.data], laidTests := true, laidLooks := .later }
def BernoulliDenominatorCardSaid : Prop := Claim7.holds Tryd.pinned (.plain (OpenSpec.ofChange bernoulliDenominatorSpec)) bernoulliDenominatorCard

/-- THE TIED CARD OF 'quadformlaw31.BernoulliFundamental'. -/
def bernoulliFundamentalCard : Claim7 := { stood := { row := bernoulliFundamentalRow, standIns := [], harness := (true, "b1d7a31a55a1882c5dd690f1017719261722fe413acfad1256b74915d352fa65"), looks := false }, kinds := [], alts := [], laidByText := true, laidKinds := [.data], laidTests := true, laidLooks := .later }
def BernoulliFundamentalCardSaid : Prop := Claim7.holds Tryd.pinned (.plain (OpenSpec.ofChange bernoulliFundamentalSpec)) bernoulliFundamentalCard

/-- THE TIED CARD OF 'quadformlaw31.BernoulliClasses'. -/
def bernoulliClassesCard : Claim7 := { stood := { row := bernoulliClassesRow, standIns := [], harness := (true, "b1d7a31a55a1882c5dd690f1017719261722fe413acfad1256b74915d352fa65"), looks := false }, kinds := [], alts := [], laidByText := true, laidKinds := [.data], laidTests := true, laidLooks := .later }
def BernoulliClassesCardSaid : Prop := Claim7.holds Tryd.pinned (.plain (OpenSpec.ofChange bernoulliClassesSpec)) bernoulliClassesCard

/-- THE TIED CARD OF 'quadformlaw31.BernoulliParity'. -/
def bernoulliParityCard : Claim7 := { stood := { row := bernoulliParityRow, standIns := [], harness := (true, "b1d7a31a55a1882c5dd690f1017719261722fe413acfad1256b74915d352fa65"), looks := false }, kinds := [], alts := [], laidByText := true, laidKinds := [.data], laidTests := true, laidLooks := .later }
def BernoulliParityCardSaid : Prop := Claim7.holds Tryd.pinned (.plain (OpenSpec.ofChange bernoulliParitySpec)) bernoulliParityCard

/-- THE TIED CARD OF 'quadformlaw31.BernoulliCharacter'. -/
def bernoulliCharacterCard : Claim7 := { stood := { row := bernoulliCharacterRow, standIns := [], harness := (true, "b1d7a31a55a1882c5dd690f1017719261722fe413acfad1256b74915d352fa65"), looks := false }, kinds := [], alts := [], laidByText := true, laidKinds := [.data], laidTests := true, laidLooks := .later }
def BernoulliCharacterCardSaid : Prop := Claim7.holds Tryd.pinned (.plain (OpenSpec.ofChange bernoulliCharacterSpec)) bernoulliCharacterCard

/-- THE TIED CARD OF 'quadformlaw31.BernoulliPeriod'. -/
def bernoulliPeriodCard : Claim7 := { stood := { row := bernoulliPeriodRow, standIns := [], harness := (true, "b1d7a31a55a1882c5dd690f1017719261722fe413acfad1256b74915d352fa65"), looks := false }, kinds := [], alts := [], laidByText := true, laidKinds := [.data], laidTests := true, laidLooks := .later }
def BernoulliPeriodCardSaid : Prop := Claim7.holds Tryd.pinned (.plain (OpenSpec.ofChange bernoulliPeriodSpec)) bernoulliPeriodCard

/-- THE TIED CARD OF 'quadformlaw31.BernoulliSums'. -/
def bernoulliSumsCard : Claim7 := { stood := { row := bernoulliSumsRow, standIns := [], harness := (true, "b1d7a31a55a1882c5dd690f1017719261722fe413acfad1256b74915d352fa65"), looks := false }, kinds := [], alts := [], laidByText := true, laidKinds := [.data], laidTests := true, laidLooks := .later }
def BernoulliSumsCardSaid : Prop := Claim7.holds Tryd.pinned (.plain (OpenSpec.ofChange bernoulliSumsSpec)) bernoulliSumsCard

/-- THE TIED CARD OF 'quadformlaw31.BernoulliSymmetry'. -/
def bernoulliSymmetryCard : Claim7 := { stood := { row := bernoulliSymmetryRow, standIns := [], harness := (true, "b1d7a31a55a1882c5dd690f1017719261722fe413acfad1256b74915d352fa65"), looks := false }, kinds := [], alts := [], laidByText := true, laidKinds := [.data], laidTests := true, laidLooks := .later }
def BernoulliSymmetryCardSaid : Prop := Claim7.holds Tryd.pinned (.plain (OpenSpec.ofChange bernoulliSymmetrySpec)) bernoulliSymmetryCard

/-- THE SECOND FORM's CARD OF 'quadformlaw31.BernoulliNumber'. -/
def bernoulliNumberUptoCard : Claim7 := { stood := { row := bernoulliNumberUptoRow, standIns := [], harness := (true, "b1d7a31a55a1882c5dd690f1017719261722fe413acfad1256b74915d352fa65"), looks := false }, kinds := [], alts := [], laidByText := true, laidKinds := [.data], laidTests := true, laidLooks := .later }
def BernoulliNumberUptoCardSaid : Prop := Claim7.holds Tryd.pinned (.plain (OpenSpec.upto bernoulliNumberSpec)) bernoulliNumberUptoCard

/-- THE SECOND FORM's CARD OF 'quadformlaw31.BernoulliDenominator'. -/
def bernoulliDenominatorUptoCard : Claim7 := { stood := { row := bernoulliDenominatorUptoRow, standIns := [], harness := (true, "b1d7a31a55a1882c5dd690f1017719261722fe413acfad1256b74915d352fa65"), looks := false }, kinds := [], alts := [], laidByText := true, laidKinds := [.data], laidTests := true, laidLooks := .later }
def BernoulliDenominatorUptoCardSaid : Prop := Claim7.holds Tryd.pinned (.plain (OpenSpec.upto bernoulliDenominatorSpec)) bernoulliDenominatorUptoCard

/-- THE SECOND FORM's CARD OF 'quadformlaw31.BernoulliFundamental'. -/
def bernoulliFundamentalUptoCard : Claim7 := { stood := { row := bernoulliFundamentalUptoRow, standIns := [], harness := (true, "b1d7a31a55a1882c5dd690f1017719261722fe413acfad1256b74915d352fa65"), looks := false }, kinds := [], alts := [], laidByText := true, laidKinds := [.data], laidTests := true, laidLooks := .later }
def BernoulliFundamentalUptoCardSaid : Prop := Claim7.holds Tryd.pinned (.plain (OpenSpec.upto bernoulliFundamentalSpec)) bernoulliFundamentalUptoCard

/-- THE SECOND FORM's CARD OF 'quadformlaw31.BernoulliClasses'. -/
def bernoulliClassesUptoCard : Claim7 := { stood := { row := bernoulliClassesUptoRow, standIns := [], harness := (true, "b1d7a31a55a1882c5dd690f1017719261722fe413acfad1256b74915d352fa65"), looks := false }, kinds := [], alts := [], laidByText := true, laidKinds := [.data], laidTests := true, laidLooks := .later }
def BernoulliClassesUptoCardSaid : Prop := Claim7.holds Tryd.pinned (.plain (OpenSpec.upto bernoulliClassesSpec)) bernoulliClassesUptoCard

/-- THE SECOND FORM's CARD OF 'quadformlaw31.BernoulliParity'. -/
def bernoulliParityUptoCard : Claim7 := { stood := { row := bernoulliParityUptoRow, standIns := [], harness := (true, "b1d7a31a55a1882c5dd690f1017719261722fe413acfad1256b74915d352fa65"), looks := false }, kinds := [], alts := [], laidByText := true, laidKinds := [.data], laidTests := true, laidLooks := .later }
def BernoulliParityUptoCardSaid : Prop := Claim7.holds Tryd.pinned (.plain (OpenSpec.upto bernoulliParitySpec)) bernoulliParityUptoCard

/-- THE SECOND FORM's CARD OF 'quadformlaw31.BernoulliCharacter'. -/
def bernoulliCharacterUptoCard : Claim7 := { stood := { row := bernoulliCharacterUptoRow, standIns := [], harness := (true, "b1d7a31a55a1882c5dd690f1017719261722fe413acfad1256b74915d352fa65"), looks := false }, kinds := [], alts := [], laidByText := true, laidKinds := [.data], laidTests := true, laidLooks := .later }
def BernoulliCharacterUptoCardSaid : Prop := Claim7.holds Tryd.pinned (.plain (OpenSpec.upto bernoulliCharacterSpec)) bernoulliCharacterUptoCard

/-- THE SECOND FORM's CARD OF 'quadformlaw31.BernoulliPeriod'. -/
def bernoulliPeriodUptoCard : Claim7 := { stood := { row := bernoulliPeriodUptoRow, standIns := [], harness := (true, "b1d7a31a55a1882c5dd690f1017719261722fe413acfad1256b74915d352fa65"), looks := false }, kinds := [], alts := [], laidByText := true, laidKinds := [.data], laidTests := true, laidLooks := .later }
def BernoulliPeriodUptoCardSaid : Prop := Claim7.holds Tryd.pinned (.plain (OpenSpec.upto bernoulliPeriodSpec)) bernoulliPeriodUptoCard

/-- THE SECOND FORM's CARD OF 'quadformlaw31.BernoulliSums'. -/
def bernoulliSumsUptoCard : Claim7 := { stood := { row := bernoulliSumsUptoRow, standIns := [], harness := (true, "b1d7a31a55a1882c5dd690f1017719261722fe413acfad1256b74915d352fa65"), looks := false }, kinds := [], alts := [], laidByText := true, laidKinds := [.data], laidTests := true, laidLooks := .later }
def BernoulliSumsUptoCardSaid : Prop := Claim7.holds Tryd.pinned (.plain (OpenSpec.upto bernoulliSumsSpec)) bernoulliSumsUptoCard

/-- THE SECOND FORM's CARD OF 'quadformlaw31.BernoulliSymmetry'. -/
def bernoulliSymmetryUptoCard : Claim7 := { stood := { row := bernoulliSymmetryUptoRow, standIns := [], harness := (true, "b1d7a31a55a1882c5dd690f1017719261722fe413acfad1256b74915d352fa65"), looks := false }, kinds := [], alts := [], laidByText := true, laidKinds := [.data], laidTests := true, laidLooks := .later }
def BernoulliSymmetryUptoCardSaid : Prop := Claim7.holds Tryd.pinned (.plain (OpenSpec.upto bernoulliSymmetrySpec)) bernoulliSymmetryUptoCard
end Rows
end Go.Proofs.YtgbiccenhionaaaDoor

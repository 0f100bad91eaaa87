/- What the statements of chapter 32 share. -/
import Derived.Test.YtpiflllcjgpkhaaGreatDoorMw
set_option maxRecDepth 3000
namespace Go.Proofs.YtpiflllcjgpkhaaGreatDoor
open Go.RowKit Limb Num
theorem od8_sm : ∀ j : Fin 8, smP (od8 j.1 : Int) = true := by decide +kernel
end Go.Proofs.YtpiflllcjgpkhaaGreatDoor

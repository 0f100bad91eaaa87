/- The reference's DivMod, Rem, Gcd, by the divide in full. -/
import Derived.Test.YtpiflllcjgpkhaaGreatDoorZc
set_option maxRecDepth 3000
namespace Go.Proofs.YtpiflllcjgpkhaaGreatDoor
open Go.RowKit Limb
instance cbody143 : CBody Tryz.prog 143 := ⟨⟨_, Tryz.func143, rfl, by rfl⟩⟩
section
variable (En : Ev)
end
end Go.Proofs.YtpiflllcjgpkhaaGreatDoor

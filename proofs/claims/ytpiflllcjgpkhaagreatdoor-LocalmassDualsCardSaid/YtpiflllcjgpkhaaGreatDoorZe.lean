/- Integers of the reference: Normalize, Neg, Mul, Quo, Gcd, Pow, Cmp. -/
import Derived.Test.YtpiflllcjgpkhaaGreatDoorZd
import Derived.Test.YtpiflllcjgpkhaaGreatDoorQ
import Derived.Test.YtpiflllcjgpkhaaGreatDoorIb
import Derived.Test.YtpiflllcjgpkhaaGreatDoorQv
set_option maxRecDepth 3000
namespace Go.Proofs.YtpiflllcjgpkhaaGreatDoor
open Go.RowKit Limb
instance cbody104 : CBody Tryz.prog 104 := ⟨⟨_, Tryz.func104, rfl, by rfl⟩⟩
instance cbody124 : CBody Tryz.prog 124 := ⟨⟨_, Tryz.func124, rfl, by rfl⟩⟩
instance cbody127 : CBody Tryz.prog 127 := ⟨⟨_, Tryz.func127, rfl, by rfl⟩⟩
section
variable (En : Ev)
end
end Go.Proofs.YtpiflllcjgpkhaaGreatDoor

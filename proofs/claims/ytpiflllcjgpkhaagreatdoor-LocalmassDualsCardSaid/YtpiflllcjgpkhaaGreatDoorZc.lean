/- The reference's divide, in full. -/
import Derived.Test.YtpiflllcjgpkhaaGreatDoorZa
import Derived.Test.YtpiflllcjgpkhaaGreatDoorO
import Derived.Test.YtpiflllcjgpkhaaGreatDoorIa
import Derived.Test.YtpiflllcjgpkhaaGreatDoorL
set_option maxRecDepth 3000
namespace Go.Proofs.YtpiflllcjgpkhaaGreatDoor
open Go.RowKit Limb
instance cbody142 : CBody Tryz.prog 142 := ⟨⟨_, Tryz.func142, rfl, by rfl⟩⟩
instance cbody128 : CBody Tryz.prog 128 := ⟨⟨_, Tryz.func128, rfl, by rfl⟩⟩
instance cbody110 : CBody Tryz.prog 110 := ⟨⟨_, Tryz.func110, rfl, by rfl⟩⟩
instance cbody83 : CBody Tryz.prog 83 := ⟨⟨_, Tryz.func83, rfl, by rfl⟩⟩
instance cbody123 : CBody Tryz.prog 123 := ⟨⟨_, Tryz.func123, rfl, by rfl⟩⟩
instance cbody122 : CBody Tryz.prog 122 := ⟨⟨_, Tryz.func122, rfl, by rfl⟩⟩
instance cbody48 : CBody Tryz.prog 48 := ⟨⟨_, Tryz.func48, rfl, by rfl⟩⟩
instance cbody146 : CBody Tryz.prog 146 := ⟨⟨_, Tryz.func146, rfl, by rfl⟩⟩
instance cbody147 : CBody Tryz.prog 147 := ⟨⟨_, Tryz.func147, rfl, by rfl⟩⟩
instance cbody157 : CBody Tryz.prog 157 := ⟨⟨_, Tryz.func157, rfl, by rfl⟩⟩
instance cbody156 : CBody Tryz.prog 156 := ⟨⟨_, Tryz.func156, rfl, by rfl⟩⟩
instance cbody126 : CBody Tryz.prog 126 := ⟨⟨_, Tryz.func126, rfl, by rfl⟩⟩
instance cbody154 : CBody Tryz.prog 154 := ⟨⟨_, Tryz.func154, rfl, by rfl⟩⟩
instance cbody23 : CBody Tryz.prog 23 := ⟨⟨_, Tryz.func23, rfl, by rfl⟩⟩
instance cbody153 : CBody Tryz.prog 153 := ⟨⟨_, Tryz.func153, rfl, by rfl⟩⟩
instance cbody145 : CBody Tryz.prog 145 := ⟨⟨_, Tryz.func145, rfl, by rfl⟩⟩
instance cbody144 : CBody Tryz.prog 144 := ⟨⟨_, Tryz.func144, rfl, by rfl⟩⟩
instance cbody125 : CBody Tryz.prog 125 := ⟨⟨_, Tryz.func125, rfl, by rfl⟩⟩
instance cbody109 : CBody Tryz.prog 109 := ⟨⟨_, Tryz.func109, rfl, by rfl⟩⟩
section
variable (En : Ev)
end
end Go.Proofs.YtpiflllcjgpkhaaGreatDoor

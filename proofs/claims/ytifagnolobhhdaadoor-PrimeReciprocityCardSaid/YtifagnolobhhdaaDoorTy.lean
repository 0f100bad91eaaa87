/- Facts on this program's types and functions. -/
import Derived.Test.YtifagnolobhhdaaDoorAe
import Derived.Test.YtifagnolobhhdaaDoorProg
namespace Go.Proofs.YtifagnolobhhdaaDoor
open Go.RowKit
instance : CMix Tryd.prog := ⟨by kernel_rfl⟩
instance : CBool Tryd.prog 4 := ⟨Tryd.underlying4⟩
instance : CSlice Tryd.prog 38 66 := ⟨Tryd.underlying38⟩
instance : CRow Tryd.prog 40 2 := ⟨⟨_, Tryd.underlying40, rfl, by kernel_rfl⟩⟩
instance : COne Tryd.prog 4 := ⟨⟨_, Tryd.underlying4, rfl, by kernel_rfl⟩⟩
instance : COne Tryd.prog 38 := ⟨⟨_, Tryd.underlying38, rfl, by kernel_rfl⟩⟩
instance : CField Tryd.prog 40 0 0 := ⟨⟨_, _, Tryd.underlying40, rfl, rfl, by kernel_rfl⟩⟩
instance : CField Tryd.prog 40 1 1 := ⟨⟨_, _, Tryd.underlying40, rfl, rfl, by kernel_rfl⟩⟩
instance : CFieldT Tryd.prog 40 0 0 4 := ⟨⟨_, _, Tryd.underlying40, rfl, rfl, rfl⟩⟩
instance : CFieldT Tryd.prog 40 1 1 38 := ⟨⟨_, _, Tryd.underlying40, rfl, rfl, rfl⟩⟩
theorem zero_int : ZeroOf Tryd.prog 40 [.bool false, .slice none 0 0] := ⟨by kernel_rfl, by simp [Value.oneCell']⟩
instance : CZero Tryd.prog 40 [.bool false, .slice none 0 0] := ⟨zero_int⟩
instance : CStruct Tryd.prog 40 [(0, 1), (1, 1)] [.bool false, .slice none 0 0] := ⟨⟨zero_int, _, Tryd.underlying40, fun _ => by kernel_rfl⟩⟩
instance : CBody Tryd.prog 45 := ⟨⟨_, Tryd.func45, rfl, by rfl⟩⟩
instance : CBody Tryd.prog 44 := ⟨⟨_, Tryd.func44, rfl, by rfl⟩⟩
instance : CBody Tryd.prog 40 := ⟨⟨_, Tryd.func40, rfl, by rfl⟩⟩
instance : CBody Tryd.prog 24 := ⟨⟨_, Tryd.func24, rfl, by rfl⟩⟩
instance : CBody Tryd.prog 37 := ⟨⟨_, Tryd.func37, rfl, by rfl⟩⟩
instance : CBody Tryd.prog 55 := ⟨⟨_, Tryd.func55, rfl, by rfl⟩⟩
instance : CBody Tryd.prog 38 := ⟨⟨_, Tryd.func38, rfl, by rfl⟩⟩
instance : CBody Tryd.prog 36 := ⟨⟨_, Tryd.func36, rfl, by rfl⟩⟩
instance : CBody Tryd.prog 54 := ⟨⟨_, Tryd.func54, rfl, by rfl⟩⟩
instance : CBody Tryd.prog 53 := ⟨⟨_, Tryd.func53, rfl, by rfl⟩⟩
instance : CBody Tryd.prog 52 := ⟨⟨_, Tryd.func52, rfl, by rfl⟩⟩
instance : CBody Tryd.prog 51 := ⟨⟨_, Tryd.func51, rfl, by rfl⟩⟩
instance : CBody Tryd.prog 49 := ⟨⟨_, Tryd.func49, rfl, by rfl⟩⟩
instance : CBody Tryd.prog 50 := ⟨⟨_, Tryd.func50, rfl, by rfl⟩⟩
instance : CBody Tryd.prog 22 := ⟨⟨_, Tryd.func22, rfl, by rfl⟩⟩
instance : CBody Tryd.prog 48 := ⟨⟨_, Tryd.func48, rfl, by rfl⟩⟩
instance : CBody Tryd.prog 46 := ⟨⟨_, Tryd.func46, rfl, by rfl⟩⟩
instance : CBody Tryd.prog 39 := ⟨⟨_, Tryd.func39, rfl, by rfl⟩⟩
instance : CBody Tryd.prog 23 := ⟨⟨_, Tryd.func23, rfl, by rfl⟩⟩
end Go.Proofs.YtifagnolobhhdaaDoor

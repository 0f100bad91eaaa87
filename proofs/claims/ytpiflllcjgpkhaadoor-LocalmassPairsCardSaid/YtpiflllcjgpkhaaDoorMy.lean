/- The types of symbols and species. -/
import Derived.Test.YtpiflllcjgpkhaaDoorRa
import Derived.Test.YtpiflllcjgpkhaaDoorQ
set_option maxRecDepth 3000
namespace Go.Proofs.YtpiflllcjgpkhaaDoor
open Go.RowKit Limb
instance cone_int : COne Tryd.prog 3 := ⟨⟨_, Tryd.underlying3, rfl, by kernel_rfl⟩⟩
instance cone_int64 : COne Tryd.prog 2 := ⟨⟨_, Tryd.underlying2, rfl, by kernel_rfl⟩⟩
instance crow_species : CRow Tryd.prog 32 2 := ⟨⟨_, Tryd.underlying32, rfl, by kernel_rfl⟩⟩
instance cfield_species0 : CField Tryd.prog 32 0 0 := ⟨⟨_, _, Tryd.underlying32, rfl, rfl, by kernel_rfl⟩⟩
instance cfieldt_species0 : CFieldT Tryd.prog 32 0 0 3 := ⟨⟨_, _, Tryd.underlying32, rfl, rfl, rfl⟩⟩
instance cfield_species1 : CField Tryd.prog 32 1 1 := ⟨⟨_, _, Tryd.underlying32, rfl, rfl, by kernel_rfl⟩⟩
instance cfieldt_species1 : CFieldT Tryd.prog 32 1 1 3 := ⟨⟨_, _, Tryd.underlying32, rfl, rfl, rfl⟩⟩
theorem zero_species : ZeroOf Tryd.prog 32 [.int .i64 0, .int .i64 0] := ⟨by kernel_rfl, by simp [Value.oneCell']⟩
instance czero_species : CZero Tryd.prog 32 [.int .i64 0, .int .i64 0] := ⟨zero_species⟩
instance cstruct_species : CStruct Tryd.prog 32 [(0, 1), (1, 1)] [.int .i64 0, .int .i64 0] := ⟨⟨zero_species, _, Tryd.underlying32, fun _ => by kernel_rfl⟩⟩
instance crow_cons : CRow Tryd.prog 75 5 := ⟨⟨_, Tryd.underlying75, rfl, by kernel_rfl⟩⟩
instance cfield_cons0 : CField Tryd.prog 75 0 0 := ⟨⟨_, _, Tryd.underlying75, rfl, rfl, by kernel_rfl⟩⟩
instance cfieldt_cons0 : CFieldT Tryd.prog 75 0 0 3 := ⟨⟨_, _, Tryd.underlying75, rfl, rfl, rfl⟩⟩
instance cfield_cons1 : CField Tryd.prog 75 1 1 := ⟨⟨_, _, Tryd.underlying75, rfl, rfl, by kernel_rfl⟩⟩
instance cfieldt_cons1 : CFieldT Tryd.prog 75 1 1 3 := ⟨⟨_, _, Tryd.underlying75, rfl, rfl, rfl⟩⟩
instance cfield_cons2 : CField Tryd.prog 75 2 2 := ⟨⟨_, _, Tryd.underlying75, rfl, rfl, by kernel_rfl⟩⟩
instance cfieldt_cons2 : CFieldT Tryd.prog 75 2 2 3 := ⟨⟨_, _, Tryd.underlying75, rfl, rfl, rfl⟩⟩
instance cfield_cons3 : CField Tryd.prog 75 3 3 := ⟨⟨_, _, Tryd.underlying75, rfl, rfl, by kernel_rfl⟩⟩
instance cfieldt_cons3 : CFieldT Tryd.prog 75 3 3 4 := ⟨⟨_, _, Tryd.underlying75, rfl, rfl, rfl⟩⟩
instance cfield_cons4 : CField Tryd.prog 75 4 4 := ⟨⟨_, _, Tryd.underlying75, rfl, rfl, by kernel_rfl⟩⟩
instance cfieldt_cons4 : CFieldT Tryd.prog 75 4 4 3 := ⟨⟨_, _, Tryd.underlying75, rfl, rfl, rfl⟩⟩
theorem zero_cons : ZeroOf Tryd.prog 75 [.int .i64 0, .int .i64 0, .int .i64 0, .bool false, .int .i64 0] := ⟨by kernel_rfl, by simp [Value.oneCell']⟩
instance czero_cons : CZero Tryd.prog 75 [.int .i64 0, .int .i64 0, .int .i64 0, .bool false, .int .i64 0] := ⟨zero_cons⟩
instance cstruct_cons : CStruct Tryd.prog 75 [(0, 1), (1, 1), (2, 1), (3, 1), (4, 1)] [.int .i64 0, .int .i64 0, .int .i64 0, .bool false, .int .i64 0] := ⟨⟨zero_cons, _, Tryd.underlying75, fun _ => by kernel_rfl⟩⟩
instance cslice_cons : CSlice Tryd.prog 52 75 := ⟨Tryd.underlying52⟩
instance celem_cons : CElem Tryd.prog 52 75 5 := ⟨Tryd.underlying52, by kernel_rfl⟩
instance cone_conss : COne Tryd.prog 52 := ⟨⟨_, Tryd.underlying52, rfl, by kernel_rfl⟩⟩
instance crowz_cons : CRowZ Tryd.prog 75 5 [.int .i64 0, .int .i64 0, .int .i64 0, .bool false, .int .i64 0] 40 := ⟨by kernel_rfl, rfl, rfl⟩
instance crow_local : CRow Tryd.prog 54 2 := ⟨⟨_, Tryd.underlying54, rfl, by kernel_rfl⟩⟩
instance cfield_local0 : CField Tryd.prog 54 0 0 := ⟨⟨_, _, Tryd.underlying54, rfl, rfl, by kernel_rfl⟩⟩
instance cfieldt_local0 : CFieldT Tryd.prog 54 0 0 2 := ⟨⟨_, _, Tryd.underlying54, rfl, rfl, rfl⟩⟩
instance cfield_local1 : CField Tryd.prog 54 1 1 := ⟨⟨_, _, Tryd.underlying54, rfl, rfl, by kernel_rfl⟩⟩
instance cfieldt_local1 : CFieldT Tryd.prog 54 1 1 52 := ⟨⟨_, _, Tryd.underlying54, rfl, rfl, rfl⟩⟩
theorem zero_local : ZeroOf Tryd.prog 54 [.int .i64 0, .slice none 0 0] := ⟨by kernel_rfl, by simp [Value.oneCell']⟩
instance czero_local : CZero Tryd.prog 54 [.int .i64 0, .slice none 0 0] := ⟨zero_local⟩
instance cstruct_local : CStruct Tryd.prog 54 [(0, 1), (1, 1)] [.int .i64 0, .slice none 0 0] := ⟨⟨zero_local, _, Tryd.underlying54, fun _ => by kernel_rfl⟩⟩
instance crow_half : CRow Tryd.prog 49 5 := ⟨⟨_, Tryd.underlying49, rfl, by kernel_rfl⟩⟩
instance cfield_half0 : CField Tryd.prog 49 0 0 := ⟨⟨_, _, Tryd.underlying49, rfl, rfl, by kernel_rfl⟩⟩
instance cfieldt_half0 : CFieldT Tryd.prog 49 0 0 27 := ⟨⟨_, _, Tryd.underlying49, rfl, rfl, rfl⟩⟩
instance cfield_half1 : CField Tryd.prog 49 1 4 := ⟨⟨_, _, Tryd.underlying49, rfl, rfl, by kernel_rfl⟩⟩
instance cfieldt_half1 : CFieldT Tryd.prog 49 1 4 4 := ⟨⟨_, _, Tryd.underlying49, rfl, rfl, rfl⟩⟩
theorem zero_half : ZeroOf Tryd.prog 49 [.bool false, .slice none 0 0, .bool false, .slice none 0 0, .bool false] := ⟨by kernel_rfl, by simp [Value.oneCell']⟩
instance czero_half : CZero Tryd.prog 49 [.bool false, .slice none 0 0, .bool false, .slice none 0 0, .bool false] := ⟨zero_half⟩
instance cstruct_half : CStruct Tryd.prog 49 [(0, 4), (4, 1)] [.bool false, .slice none 0 0, .bool false, .slice none 0 0, .bool false] := ⟨⟨zero_half, _, Tryd.underlying49, fun _ => by kernel_rfl⟩⟩
instance crow_mrow : CRow Tryd.prog 108 5 := ⟨⟨_, Tryd.underlying108, rfl, by kernel_rfl⟩⟩
instance cfield_mrow0 : CField Tryd.prog 108 0 0 := ⟨⟨_, _, Tryd.underlying108, rfl, rfl, by kernel_rfl⟩⟩
instance cfieldt_mrow0 : CFieldT Tryd.prog 108 0 0 4 := ⟨⟨_, _, Tryd.underlying108, rfl, rfl, rfl⟩⟩
instance cfield_mrow1 : CField Tryd.prog 108 1 1 := ⟨⟨_, _, Tryd.underlying108, rfl, rfl, by kernel_rfl⟩⟩
instance cfieldt_mrow1 : CFieldT Tryd.prog 108 1 1 4 := ⟨⟨_, _, Tryd.underlying108, rfl, rfl, rfl⟩⟩
instance cfield_mrow2 : CField Tryd.prog 108 2 2 := ⟨⟨_, _, Tryd.underlying108, rfl, rfl, by kernel_rfl⟩⟩
instance cfieldt_mrow2 : CFieldT Tryd.prog 108 2 2 3 := ⟨⟨_, _, Tryd.underlying108, rfl, rfl, rfl⟩⟩
instance cfield_mrow3 : CField Tryd.prog 108 3 3 := ⟨⟨_, _, Tryd.underlying108, rfl, rfl, by kernel_rfl⟩⟩
instance cfieldt_mrow3 : CFieldT Tryd.prog 108 3 3 3 := ⟨⟨_, _, Tryd.underlying108, rfl, rfl, rfl⟩⟩
instance cfield_mrow4 : CField Tryd.prog 108 4 4 := ⟨⟨_, _, Tryd.underlying108, rfl, rfl, by kernel_rfl⟩⟩
instance cfieldt_mrow4 : CFieldT Tryd.prog 108 4 4 3 := ⟨⟨_, _, Tryd.underlying108, rfl, rfl, rfl⟩⟩
theorem zero_mrow : ZeroOf Tryd.prog 108 [.bool false, .bool false, .int .i64 0, .int .i64 0, .int .i64 0] := ⟨by kernel_rfl, by simp [Value.oneCell']⟩
instance czero_mrow : CZero Tryd.prog 108 [.bool false, .bool false, .int .i64 0, .int .i64 0, .int .i64 0] := ⟨zero_mrow⟩
instance cstruct_mrow : CStruct Tryd.prog 108 [(0, 1), (1, 1), (2, 1), (3, 1), (4, 1)] [.bool false, .bool false, .int .i64 0, .int .i64 0, .int .i64 0] := ⟨⟨zero_mrow, _, Tryd.underlying108, fun _ => by kernel_rfl⟩⟩
instance carr_mrow : CArr Tryd.prog 109 12 108 5 := ⟨Tryd.underlying109, by kernel_rfl⟩
instance crow_mtab : CRow Tryd.prog 109 60 := ⟨⟨_, Tryd.underlying109, rfl, by kernel_rfl⟩⟩
end Go.Proofs.YtpiflllcjgpkhaaDoor

/- The types of symbols and species. -/
import Derived.Test.YtpiflllcjgpkhaaGreatDoorRa
import Derived.Test.YtpiflllcjgpkhaaGreatDoorQ
set_option maxRecDepth 3000
namespace Go.Proofs.YtpiflllcjgpkhaaGreatDoor
open Go.RowKit Limb
instance cone_int : COne Tryz.prog 3 := ⟨⟨_, Tryz.underlying3, rfl, by kernel_rfl⟩⟩
instance cone_int64 : COne Tryz.prog 2 := ⟨⟨_, Tryz.underlying2, rfl, by kernel_rfl⟩⟩
instance crow_species : CRow Tryz.prog 35 2 := ⟨⟨_, Tryz.underlying35, rfl, by kernel_rfl⟩⟩
instance cfield_species0 : CField Tryz.prog 35 0 0 := ⟨⟨_, _, Tryz.underlying35, rfl, rfl, by kernel_rfl⟩⟩
instance cfieldt_species0 : CFieldT Tryz.prog 35 0 0 3 := ⟨⟨_, _, Tryz.underlying35, rfl, rfl, rfl⟩⟩
instance cfield_species1 : CField Tryz.prog 35 1 1 := ⟨⟨_, _, Tryz.underlying35, rfl, rfl, by kernel_rfl⟩⟩
instance cfieldt_species1 : CFieldT Tryz.prog 35 1 1 3 := ⟨⟨_, _, Tryz.underlying35, rfl, rfl, rfl⟩⟩
theorem zero_species : ZeroOf Tryz.prog 35 [.int .i64 0, .int .i64 0] := ⟨by kernel_rfl, by simp [Value.oneCell']⟩
instance czero_species : CZero Tryz.prog 35 [.int .i64 0, .int .i64 0] := ⟨zero_species⟩
instance cstruct_species : CStruct Tryz.prog 35 [(0, 1), (1, 1)] [.int .i64 0, .int .i64 0] := ⟨⟨zero_species, _, Tryz.underlying35, fun _ => by kernel_rfl⟩⟩
instance crow_cons : CRow Tryz.prog 48 5 := ⟨⟨_, Tryz.underlying48, rfl, by kernel_rfl⟩⟩
instance cfield_cons0 : CField Tryz.prog 48 0 0 := ⟨⟨_, _, Tryz.underlying48, rfl, rfl, by kernel_rfl⟩⟩
instance cfieldt_cons0 : CFieldT Tryz.prog 48 0 0 3 := ⟨⟨_, _, Tryz.underlying48, rfl, rfl, rfl⟩⟩
instance cfield_cons1 : CField Tryz.prog 48 1 1 := ⟨⟨_, _, Tryz.underlying48, rfl, rfl, by kernel_rfl⟩⟩
instance cfieldt_cons1 : CFieldT Tryz.prog 48 1 1 3 := ⟨⟨_, _, Tryz.underlying48, rfl, rfl, rfl⟩⟩
instance cfield_cons2 : CField Tryz.prog 48 2 2 := ⟨⟨_, _, Tryz.underlying48, rfl, rfl, by kernel_rfl⟩⟩
instance cfieldt_cons2 : CFieldT Tryz.prog 48 2 2 3 := ⟨⟨_, _, Tryz.underlying48, rfl, rfl, rfl⟩⟩
instance cfield_cons3 : CField Tryz.prog 48 3 3 := ⟨⟨_, _, Tryz.underlying48, rfl, rfl, by kernel_rfl⟩⟩
instance cfieldt_cons3 : CFieldT Tryz.prog 48 3 3 4 := ⟨⟨_, _, Tryz.underlying48, rfl, rfl, rfl⟩⟩
instance cfield_cons4 : CField Tryz.prog 48 4 4 := ⟨⟨_, _, Tryz.underlying48, rfl, rfl, by kernel_rfl⟩⟩
instance cfieldt_cons4 : CFieldT Tryz.prog 48 4 4 3 := ⟨⟨_, _, Tryz.underlying48, rfl, rfl, rfl⟩⟩
theorem zero_cons : ZeroOf Tryz.prog 48 [.int .i64 0, .int .i64 0, .int .i64 0, .bool false, .int .i64 0] := ⟨by kernel_rfl, by simp [Value.oneCell']⟩
instance czero_cons : CZero Tryz.prog 48 [.int .i64 0, .int .i64 0, .int .i64 0, .bool false, .int .i64 0] := ⟨zero_cons⟩
instance cstruct_cons : CStruct Tryz.prog 48 [(0, 1), (1, 1), (2, 1), (3, 1), (4, 1)] [.int .i64 0, .int .i64 0, .int .i64 0, .bool false, .int .i64 0] := ⟨⟨zero_cons, _, Tryz.underlying48, fun _ => by kernel_rfl⟩⟩
instance cslice_cons : CSlice Tryz.prog 41 48 := ⟨Tryz.underlying41⟩
instance celem_cons : CElem Tryz.prog 41 48 5 := ⟨Tryz.underlying41, by kernel_rfl⟩
instance cone_conss : COne Tryz.prog 41 := ⟨⟨_, Tryz.underlying41, rfl, by kernel_rfl⟩⟩
instance crowz_cons : CRowZ Tryz.prog 48 5 [.int .i64 0, .int .i64 0, .int .i64 0, .bool false, .int .i64 0] 40 := ⟨by kernel_rfl, rfl, rfl⟩
instance crow_local : CRow Tryz.prog 43 2 := ⟨⟨_, Tryz.underlying43, rfl, by kernel_rfl⟩⟩
instance cfield_local0 : CField Tryz.prog 43 0 0 := ⟨⟨_, _, Tryz.underlying43, rfl, rfl, by kernel_rfl⟩⟩
instance cfieldt_local0 : CFieldT Tryz.prog 43 0 0 2 := ⟨⟨_, _, Tryz.underlying43, rfl, rfl, rfl⟩⟩
instance cfield_local1 : CField Tryz.prog 43 1 1 := ⟨⟨_, _, Tryz.underlying43, rfl, rfl, by kernel_rfl⟩⟩
instance cfieldt_local1 : CFieldT Tryz.prog 43 1 1 41 := ⟨⟨_, _, Tryz.underlying43, rfl, rfl, rfl⟩⟩
theorem zero_local : ZeroOf Tryz.prog 43 [.int .i64 0, .slice none 0 0] := ⟨by kernel_rfl, by simp [Value.oneCell']⟩
instance czero_local : CZero Tryz.prog 43 [.int .i64 0, .slice none 0 0] := ⟨zero_local⟩
instance cstruct_local : CStruct Tryz.prog 43 [(0, 1), (1, 1)] [.int .i64 0, .slice none 0 0] := ⟨⟨zero_local, _, Tryz.underlying43, fun _ => by kernel_rfl⟩⟩
instance crow_half : CRow Tryz.prog 50 5 := ⟨⟨_, Tryz.underlying50, rfl, by kernel_rfl⟩⟩
instance cfield_half0 : CField Tryz.prog 50 0 0 := ⟨⟨_, _, Tryz.underlying50, rfl, rfl, by kernel_rfl⟩⟩
instance cfieldt_half0 : CFieldT Tryz.prog 50 0 0 27 := ⟨⟨_, _, Tryz.underlying50, rfl, rfl, rfl⟩⟩
instance cfield_half1 : CField Tryz.prog 50 1 4 := ⟨⟨_, _, Tryz.underlying50, rfl, rfl, by kernel_rfl⟩⟩
instance cfieldt_half1 : CFieldT Tryz.prog 50 1 4 4 := ⟨⟨_, _, Tryz.underlying50, rfl, rfl, rfl⟩⟩
theorem zero_half : ZeroOf Tryz.prog 50 [.bool false, .slice none 0 0, .bool false, .slice none 0 0, .bool false] := ⟨by kernel_rfl, by simp [Value.oneCell']⟩
instance czero_half : CZero Tryz.prog 50 [.bool false, .slice none 0 0, .bool false, .slice none 0 0, .bool false] := ⟨zero_half⟩
instance cstruct_half : CStruct Tryz.prog 50 [(0, 4), (4, 1)] [.bool false, .slice none 0 0, .bool false, .slice none 0 0, .bool false] := ⟨⟨zero_half, _, Tryz.underlying50, fun _ => by kernel_rfl⟩⟩
instance crow_mrow : CRow Tryz.prog 126 5 := ⟨⟨_, Tryz.underlying126, rfl, by kernel_rfl⟩⟩
instance cfield_mrow0 : CField Tryz.prog 126 0 0 := ⟨⟨_, _, Tryz.underlying126, rfl, rfl, by kernel_rfl⟩⟩
instance cfieldt_mrow0 : CFieldT Tryz.prog 126 0 0 4 := ⟨⟨_, _, Tryz.underlying126, rfl, rfl, rfl⟩⟩
instance cfield_mrow1 : CField Tryz.prog 126 1 1 := ⟨⟨_, _, Tryz.underlying126, rfl, rfl, by kernel_rfl⟩⟩
instance cfieldt_mrow1 : CFieldT Tryz.prog 126 1 1 4 := ⟨⟨_, _, Tryz.underlying126, rfl, rfl, rfl⟩⟩
instance cfield_mrow2 : CField Tryz.prog 126 2 2 := ⟨⟨_, _, Tryz.underlying126, rfl, rfl, by kernel_rfl⟩⟩
instance cfieldt_mrow2 : CFieldT Tryz.prog 126 2 2 3 := ⟨⟨_, _, Tryz.underlying126, rfl, rfl, rfl⟩⟩
instance cfield_mrow3 : CField Tryz.prog 126 3 3 := ⟨⟨_, _, Tryz.underlying126, rfl, rfl, by kernel_rfl⟩⟩
instance cfieldt_mrow3 : CFieldT Tryz.prog 126 3 3 3 := ⟨⟨_, _, Tryz.underlying126, rfl, rfl, rfl⟩⟩
instance cfield_mrow4 : CField Tryz.prog 126 4 4 := ⟨⟨_, _, Tryz.underlying126, rfl, rfl, by kernel_rfl⟩⟩
instance cfieldt_mrow4 : CFieldT Tryz.prog 126 4 4 3 := ⟨⟨_, _, Tryz.underlying126, rfl, rfl, rfl⟩⟩
theorem zero_mrow : ZeroOf Tryz.prog 126 [.bool false, .bool false, .int .i64 0, .int .i64 0, .int .i64 0] := ⟨by kernel_rfl, by simp [Value.oneCell']⟩
instance czero_mrow : CZero Tryz.prog 126 [.bool false, .bool false, .int .i64 0, .int .i64 0, .int .i64 0] := ⟨zero_mrow⟩
instance cstruct_mrow : CStruct Tryz.prog 126 [(0, 1), (1, 1), (2, 1), (3, 1), (4, 1)] [.bool false, .bool false, .int .i64 0, .int .i64 0, .int .i64 0] := ⟨⟨zero_mrow, _, Tryz.underlying126, fun _ => by kernel_rfl⟩⟩
instance carr_mrow : CArr Tryz.prog 127 12 126 5 := ⟨Tryz.underlying127, by kernel_rfl⟩
instance crow_mtab : CRow Tryz.prog 127 60 := ⟨⟨_, Tryz.underlying127, rfl, by kernel_rfl⟩⟩
end Go.Proofs.YtpiflllcjgpkhaaGreatDoor

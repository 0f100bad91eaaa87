/- The statement Walks on a call with arguments. -/
import Derived.Test.YtdieokoenhncfaaGreatDoorWm
import Derived.Test.YtdieokoenhncfaaGreatDoorLv
set_option maxRecDepth 3000
namespace Go.Proofs.YtdieokoenhncfaaGreatDoor
open Go.RowKit Limb Num
theorem law_LocalmassWalks (k : Int) (w : World) (v : Value) (hv : ∃ pk x m, (Lit.int .u8 pk).wf = true ∧ (aggP [ex (.int .u8 pk), slc 5 (rows (bys x) m) m]).p (wGH w) v) (wk : (Lit.int .u8 k).wf = true) (ht : TabD.e w) :
  Calls Tryz.prog 7 #[v, .int .u8 k] w fun e w' => e = .returned (.bool true) ∧ Below w.heap.size w w' := by
 obtain ⟨pk, x, m, wpk, hv⟩ := hv
 obtain ⟨p1, p2⟩ := bounds_u8 wpk
 obtain ⟨k1, k2⟩ := bounds_u8 wk
 exact fn_trueW2 (lwalks pk x m k (by omega) (by omega)) w ht ⟨hv, rfl, trivial⟩
end Go.Proofs.YtdieokoenhncfaaGreatDoor

/- The statement Scales on a call with arguments. -/
import Derived.Test.YtdieokoenhncfaaGreatDoorWs
import Derived.Test.YtdieokoenhncfaaGreatDoorLv
set_option maxRecDepth 3000
namespace Go.Proofs.YtdieokoenhncfaaGreatDoor
open Go.RowKit Limb Num
theorem law_LocalmassScales (k : Int) (w : World) (v : Value) (hv : ∃ pk x m, (Lit.int .u8 pk).wf = true ∧ (aggP [ex (.int .u8 pk), slc 5 (rows (bys x) m) m]).p (wGH w) v) (wk : (Lit.int .u8 k).wf = true) (ht : TabD.e w) :
  Calls Tryz.prog 6 #[v, .int .u8 k] w fun e w' => e = .returned (.bool true) ∧ Below w.heap.size w w' := by
 obtain ⟨pk, x, m, wpk, hv⟩ := hv
 obtain ⟨p1, p2⟩ := bounds_u8 wpk
 obtain ⟨k1, k2⟩ := bounds_u8 wk
 exact fn_trueW2 (lscales pk x m k (by omega) (by omega) (by omega) (by omega)) w ht ⟨hv, rfl, trivial⟩
end Go.Proofs.YtdieokoenhncfaaGreatDoor

/- The statements Scales and Walks on calls with arguments. -/
import Derived.Test.YtdieokoenhncfaaGreatDoorLt
import Derived.Test.YtdieokoenhncfaaGreatDoorCl
set_option maxRecDepth 3000
namespace Go.Proofs.YtdieokoenhncfaaGreatDoor
open Go.RowKit Limb Num
theorem fn_trueW2 {P : Program} {En : Ev} {f : FuncId} {ps : List Pd} {vs : List Value} (h : Fn P En f ps (ex (.bool true))) (w : World) (he : En.e w) (ha : AllV (wGH w) ps vs) : Calls P f vs.toArray w fun e w' => e = .returned (.bool true) ∧ Below w.heap.size w w' := by
 refine (h (wGH w) w vs he (wGH_holds w) ha).mono ?_
 rintro e w' ⟨v, h', rfl, _, _, _, hb, hv⟩
 have hv : v = .bool true := hv
 exact ⟨by rw [hv], hb⟩
end Go.Proofs.YtdieokoenhncfaaGreatDoor

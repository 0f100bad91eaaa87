/- Statements of chapter 31: Fundamental, Character. -/
import Derived.Test.YtgbiccenhionaaaGreatDoorBa
import Derived.OpenShut
set_option maxRecDepth 3000
namespace Go.Proofs.YtgbiccenhionaaaGreatDoor
open Go.RowKit Limb Num
theorem fn_true {P : Program} {En : Ev} {f : FuncId} {ps : List Pd} {vs : List Value} (h : Fn P En f ps (ex (.bool true))) (w : World) (he : En.e w) (ha : AllV (fun _ _ => none) ps vs) : Calls P f vs.toArray w fun e w' => e = .returned (.bool true) ∧ Below w.heap.size w w' := by
  refine (h (fun _ _ => none) w vs he (fun _ _ _ e => by cases e) ha).mono ?_
  rintro e w' ⟨v, h', rfl, _, _, _, hb, hv⟩
  have hv : v = .bool true := hv
  exact ⟨by rw [hv], hb⟩
end Go.Proofs.YtgbiccenhionaaaGreatDoor

/- The classes of all units: the law. -/
import Derived.Test.YtnhbdldchoepfaaDoorLawV
import Derived.Test.YtnhbdldchoepfaaDoorCz
namespace Go.Proofs.YtnhbdldchoepfaaDoor
open Go.RowKit Limb Num
theorem fn_true' {P : Program} {En : Ev} {f : FuncId} {ps : List Pd} {vs : List Value} {h0 : GH} (h : Fn P En f ps (ex (.bool true))) (w : World) (he : En.e w) (hh : Holds h0 w) (ha : AllV h0 ps vs) : Calls P f vs.toArray w fun e w' => e = .returned (.bool true) ∧ Below w.heap.size w w' := by
  refine (h h0 w vs he hh ha).mono ?_
  rintro e w' ⟨v, h', rfl, _, _, _, hb, hv⟩
  have hv : v = .bool true := hv
  exact ⟨by rw [hv], hb⟩
theorem law_PrimeUnit {s : Bool} {l : List Nat} {v : Value} (k raw : Int) (wild : Bool) (w : World) (hv : (zR s l).p (wGH w) v) (hl : Lm l) (wk : (Lit.int .u8 k).wf = true) (ht : Tab w) :
    Calls Tryd.prog 3 #[v, .int .u8 k, .int .i64 raw, .bool wild] w fun e w' => e = .returned (.bool true) ∧ Below w.heap.size w w' := by
  obtain ⟨k1, k2⟩ := bounds_u8 wk
  exact fn_true' (fUnitLaw s l k raw wild hl k1 k2) w ht (wGH_holds w) ⟨hv, rfl, rfl, rfl, trivial⟩
end Go.Proofs.YtnhbdldchoepfaaDoor

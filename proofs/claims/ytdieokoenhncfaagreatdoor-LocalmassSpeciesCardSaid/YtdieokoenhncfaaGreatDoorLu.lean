/- The statements Species, Cross, Mass on calls with arguments. -/
import Derived.Test.YtdieokoenhncfaaGreatDoorLt
import Derived.Test.YtdieokoenhncfaaGreatDoorCl
set_option maxRecDepth 3000
namespace Go.Proofs.YtdieokoenhncfaaGreatDoor
open Go.RowKit Limb Num
theorem fn_trueW {P : Program} {En : Ev} {f : FuncId} {ps : List Pd} {vs : List Value} (h : Fn P En f ps (ex (.bool true))) (w : World) (he : En.e w) (ha : AllV (wGH w) ps vs) : Calls P f vs.toArray w fun e w' => e = .returned (.bool true) ∧ Below w.heap.size w w' := by
 refine (h (wGH w) w vs he (wGH_holds w) ha).mono ?_
 rintro e w' ⟨v, h', rfl, _, _, _, hb, hv⟩
 have hv : v = .bool true := hv
 exact ⟨by rw [hv], hb⟩
theorem law_LocalmassSpecies (at' fl n e : Int) (made small : Bool) (w : World) (l : Value) (hl : ∃ q f n, (locP q f n).p (wGH w) l) (v : Value) (hv : ∃ pk x m, (Lit.int .u8 pk).wf = true ∧ (aggP [ex (.int .u8 pk), slc 5 (rows (bys x) m) m]).p (wGH w) v) (wa : (Lit.int .u8 at').wf = true) (wf : (Lit.int .u8 fl).wf = true) (_ : (Lit.int .i8 n).wf = true) (ht : TabD.e w) :
  Calls Tryz.prog 4 #[l, v, .int .u8 at', .int .u8 fl, .int .i8 n, .int .i64 e, .bool made, .bool small] w fun e w' => e = .returned (.bool true) ∧ Below w.heap.size w w' := by
 obtain ⟨q, f, N, hl⟩ := hl
 obtain ⟨pk, x, m, wpk, hv⟩ := hv
 obtain ⟨p1, p2⟩ := bounds_u8 wpk
 obtain ⟨a1, a2⟩ := bounds_u8 wa
 obtain ⟨f1, f2⟩ := bounds_u8 wf
 exact fn_trueW (lspecies q f N pk x m at' fl n made (by omega) (by omega) (by omega) (by omega) (by omega) e small) w ht ⟨hl, hv, rfl, rfl, rfl, rfl, rfl, rfl, trivial⟩
end Go.Proofs.YtdieokoenhncfaaGreatDoor

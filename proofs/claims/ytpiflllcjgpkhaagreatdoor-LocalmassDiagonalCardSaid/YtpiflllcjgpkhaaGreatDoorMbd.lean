/- Diagonal: the program's and the reference's. (With LT.skipU.) -/
import Derived.Test.YtpiflllcjgpkhaaGreatDoorMb
set_option maxRecDepth 3000
namespace Go.Proofs.YtpiflllcjgpkhaaGreatDoor
open Go.RowKit Limb Num
/-- A species that is possible. -/
def psb (d c : Int) : Bool := decide (0 ≤ d ∧ d ≤ 9 ∧ ((d % 2 = 1 ∧ c = 0) ∨ (d = 0 ∧ c = 1) ∨ (d % 2 = 0 ∧ d ≠ 0 ∧ (c = 1 ∨ c = -1))))
section
variable (En : Ev)
theorem mpossible (d c : Int) : Fn Tryz.prog En 26 [aggP [ex (.int .i64 d), ex (.int .i64 c)]] (ex (.bool (psb d c))) := by
  unfold psb
  by_cases h1 : d < 0
  · rw [decide_eq_false (by omega)]
    refine fn_of_body Tryz.func26 rfl Tryz.ntmps26 rfl ?_
    intro w0 h0
    repeat (first | refine js ?_ | refine jb ?_)
    refine jr ?_
    refine jT (ru_boxR rfl rfl rfl) ?_
    refine ja rfl ?_
    refine RG.nil (by kernel_rfl) ?_
    repeat (first | refine js ?_ | refine jb ?_)
    refine jr ?_
    refine jS (ru_fieldAddr rfl rfl) ?_
    refine jS (ru_load1 rfl rfl rfl) ?_
    refine jS (rt_bin_to rfl rfl (fun w => run_lti w _ _ _ _ _ _) (vbool (decide_eq_true (by first | assumption | omega)))) ?_
    refine jm rfl ?_
    refine RG.S0 (LT.skip rfl rfl rfl) ?_
    refine RG.S0 (LT.skip rfl rfl rfl) ?_
    refine RG.S0 (LT.skip rfl rfl rfl) ?_
    refine jS (rt_pick_true rfl rfl) ?_
    refine ja rfl ?_
    refine RG.nil (by kernel_rfl) ?_
    repeat (first | refine js ?_ | refine jb ?_)
    refine WpD.condT rfl ?_
    repeat (first | refine js ?_ | refine jb ?_)
    refine jr ?_
    refine ja rfl ?_
    refine RG.nil (by kernel_rfl) ?_
    repeat (first | refine js ?_ | refine jb ?_)
    refine WpD.ret ?_
    exact ret1 rfl (.tmp rfl) (PLe.refl _)
  by_cases h2 : d > 9
  · rw [decide_eq_false (by omega)]
    refine fn_of_body Tryz.func26 rfl Tryz.ntmps26 rfl ?_
    intro w0 h0
    repeat (first | refine js ?_ | refine jb ?_)
    refine jr ?_
    refine jT (ru_boxR rfl rfl rfl) ?_
    refine ja rfl ?_
    refine RG.nil (by kernel_rfl) ?_
    repeat (first | refine js ?_ | refine jb ?_)
    refine jr ?_
    refine jS (ru_fieldAddr rfl rfl) ?_
    refine jS (ru_load1 rfl rfl rfl) ?_
    refine jS (rt_bin_to rfl rfl (fun w => run_lti w _ _ _ _ _ _) (vbool (decide_eq_false (by first | assumption | omega)))) ?_
    refine jm rfl ?_
    refine RG.S0 (LT.run rfl rfl rfl (ru_fieldAddr rfl rfl)) ?_
    refine RG.S0 (LT.run rfl rfl rfl (ru_load1 rfl rfl rfl)) ?_
    refine RG.S0 (LT.run rfl rfl rfl (rt_bin_to rfl rfl (fun w => run_gti w _ _ _ _ _ _) (vbool (decide_eq_true (by first | assumption | omega))))) ?_
    refine jS (rt_pick_false rfl rfl) ?_
    refine ja rfl ?_
    refine RG.nil (by kernel_rfl) ?_
    repeat (first | refine js ?_ | refine jb ?_)
    refine WpD.condT rfl ?_
    repeat (first | refine js ?_ | refine jb ?_)
    refine jr ?_
    refine ja rfl ?_
    refine RG.nil (by kernel_rfl) ?_
    repeat (first | refine js ?_ | refine jb ?_)
    refine WpD.ret ?_
    exact ret1 rfl (.tmp rfl) (PLe.refl _)
  have em : d.tmod 2 = d % 2 := Int.tmod_eq_emod_of_nonneg (by omega)
  by_cases h3 : d % 2 = 1
  · by_cases h4 : c = 0
    · rw [decide_eq_true (by omega)]
      refine fn_of_body Tryz.func26 rfl Tryz.ntmps26 rfl ?_
      intro w0 h0
      repeat (first | refine js ?_ | refine jb ?_)
      refine jr ?_
      refine jT (ru_boxR rfl rfl rfl) ?_
      refine ja rfl ?_
      refine RG.nil (by kernel_rfl) ?_
      repeat (first | refine js ?_ | refine jb ?_)
      refine jr ?_
      refine jS (ru_fieldAddr rfl rfl) ?_
      refine jS (ru_load1 rfl rfl rfl) ?_
      refine jS (rt_bin_to rfl rfl (fun w => run_lti w _ _ _ _ _ _) (vbool (decide_eq_false (by first | assumption | omega)))) ?_
      refine jm rfl ?_
      refine RG.S0 (LT.run rfl rfl rfl (ru_fieldAddr rfl rfl)) ?_
      refine RG.S0 (LT.run rfl rfl rfl (ru_load1 rfl rfl rfl)) ?_
      refine RG.S0 (LT.run rfl rfl rfl (rt_bin_to rfl rfl (fun w => run_gti w _ _ _ _ _ _) (vbool (decide_eq_false (by first | assumption | omega))))) ?_
      refine jS (rt_pick_false rfl rfl) ?_
      refine ja rfl ?_
      refine RG.nil (by kernel_rfl) ?_
      repeat (first | refine js ?_ | refine jb ?_)
      refine WpD.condF rfl ?_
      repeat (first | refine js ?_ | refine jb ?_)
      refine jr ?_
      refine jS (ru_fieldAddr rfl rfl) ?_
      refine jS (ru_load1 rfl rfl rfl) ?_
      refine jS (rt_bin_to rfl rfl (fun w => run_remi w _ _ _ _ _ _ (by first | decide | omega | assumption)) (vint em)) ?_
      refine jS (rt_bin_to rfl rfl (fun w => run_eqi w _ _ _ _ _ _) (vbool (beqT (by first | assumption | omega)))) ?_
      refine ja rfl ?_
      refine RG.nil (by kernel_rfl) ?_
      repeat (first | refine js ?_ | refine jb ?_)
      refine WpD.condT rfl ?_
      repeat (first | refine js ?_ | refine jb ?_)
      refine jr ?_
      refine jS (ru_fieldAddr rfl rfl) ?_
      refine jS (ru_load1 rfl rfl rfl) ?_
      refine jS (rt_bin_to rfl rfl (fun w => run_eqi w _ _ _ _ _ _) (vbool (beqT (by first | assumption | omega)))) ?_
      refine ja rfl ?_
      refine RG.nil (by kernel_rfl) ?_
      repeat (first | refine js ?_ | refine jb ?_)
      refine WpD.ret ?_
      exact ret1 rfl (.tmp rfl) (PLe.refl _)
    · rw [decide_eq_false (by omega)]
      refine fn_of_body Tryz.func26 rfl Tryz.ntmps26 rfl ?_
      intro w0 h0
      repeat (first | refine js ?_ | refine jb ?_)
      refine jr ?_
      refine jT (ru_boxR rfl rfl rfl) ?_
      refine ja rfl ?_
      refine RG.nil (by kernel_rfl) ?_
      repeat (first | refine js ?_ | refine jb ?_)
      refine jr ?_
      refine jS (ru_fieldAddr rfl rfl) ?_
      refine jS (ru_load1 rfl rfl rfl) ?_
      refine jS (rt_bin_to rfl rfl (fun w => run_lti w _ _ _ _ _ _) (vbool (decide_eq_false (by first | assumption | omega)))) ?_
      refine jm rfl ?_
      refine RG.S0 (LT.run rfl rfl rfl (ru_fieldAddr rfl rfl)) ?_
      refine RG.S0 (LT.run rfl rfl rfl (ru_load1 rfl rfl rfl)) ?_
      refine RG.S0 (LT.run rfl rfl rfl (rt_bin_to rfl rfl (fun w => run_gti w _ _ _ _ _ _) (vbool (decide_eq_false (by first | assumption | omega))))) ?_
      refine jS (rt_pick_false rfl rfl) ?_
      refine ja rfl ?_
      refine RG.nil (by kernel_rfl) ?_
      repeat (first | refine js ?_ | refine jb ?_)
      refine WpD.condF rfl ?_
      repeat (first | refine js ?_ | refine jb ?_)
      refine jr ?_
      refine jS (ru_fieldAddr rfl rfl) ?_
      refine jS (ru_load1 rfl rfl rfl) ?_
      refine jS (rt_bin_to rfl rfl (fun w => run_remi w _ _ _ _ _ _ (by first | decide | omega | assumption)) (vint em)) ?_
      refine jS (rt_bin_to rfl rfl (fun w => run_eqi w _ _ _ _ _ _) (vbool (beqT (by first | assumption | omega)))) ?_
      refine ja rfl ?_
      refine RG.nil (by kernel_rfl) ?_
      repeat (first | refine js ?_ | refine jb ?_)
      refine WpD.condT rfl ?_
      repeat (first | refine js ?_ | refine jb ?_)
      refine jr ?_
      refine jS (ru_fieldAddr rfl rfl) ?_
      refine jS (ru_load1 rfl rfl rfl) ?_
      refine jS (rt_bin_to rfl rfl (fun w => run_eqi w _ _ _ _ _ _) (vbool (beqF (by first | assumption | omega)))) ?_
      refine ja rfl ?_
      refine RG.nil (by kernel_rfl) ?_
      repeat (first | refine js ?_ | refine jb ?_)
      refine WpD.ret ?_
      exact ret1 rfl (.tmp rfl) (PLe.refl _)
  by_cases h5 : d = 0
  · by_cases h4 : c = 1
    · rw [decide_eq_true (by omega)]
      refine fn_of_body Tryz.func26 rfl Tryz.ntmps26 rfl ?_
      intro w0 h0
      repeat (first | refine js ?_ | refine jb ?_)
      refine jr ?_
      refine jT (ru_boxR rfl rfl rfl) ?_
      refine ja rfl ?_
      refine RG.nil (by kernel_rfl) ?_
      repeat (first | refine js ?_ | refine jb ?_)
      refine jr ?_
      refine jS (ru_fieldAddr rfl rfl) ?_
      refine jS (ru_load1 rfl rfl rfl) ?_
      refine jS (rt_bin_to rfl rfl (fun w => run_lti w _ _ _ _ _ _) (vbool (decide_eq_false (by first | assumption | omega)))) ?_
      refine jm rfl ?_
      refine RG.S0 (LT.run rfl rfl rfl (ru_fieldAddr rfl rfl)) ?_
      refine RG.S0 (LT.run rfl rfl rfl (ru_load1 rfl rfl rfl)) ?_
      refine RG.S0 (LT.run rfl rfl rfl (rt_bin_to rfl rfl (fun w => run_gti w _ _ _ _ _ _) (vbool (decide_eq_false (by first | assumption | omega))))) ?_
      refine jS (rt_pick_false rfl rfl) ?_
      refine ja rfl ?_
      refine RG.nil (by kernel_rfl) ?_
      repeat (first | refine js ?_ | refine jb ?_)
      refine WpD.condF rfl ?_
      repeat (first | refine js ?_ | refine jb ?_)
      refine jr ?_
      refine jS (ru_fieldAddr rfl rfl) ?_
      refine jS (ru_load1 rfl rfl rfl) ?_
      refine jS (rt_bin_to rfl rfl (fun w => run_remi w _ _ _ _ _ _ (by first | decide | omega | assumption)) (vint em)) ?_
      refine jS (rt_bin_to rfl rfl (fun w => run_eqi w _ _ _ _ _ _) (vbool (beqF (by first | assumption | omega)))) ?_
      refine ja rfl ?_
      refine RG.nil (by kernel_rfl) ?_
      repeat (first | refine js ?_ | refine jb ?_)
      refine WpD.condF rfl ?_
      repeat (first | refine js ?_ | refine jb ?_)
      refine jr ?_
      refine jS (ru_fieldAddr rfl rfl) ?_
      refine jS (ru_load1 rfl rfl rfl) ?_
      refine jS (rt_bin_to rfl rfl (fun w => run_eqi w _ _ _ _ _ _) (vbool (beqT (by first | assumption | omega)))) ?_
      refine ja rfl ?_
      refine RG.nil (by kernel_rfl) ?_
      repeat (first | refine js ?_ | refine jb ?_)
      refine WpD.condT rfl ?_
      repeat (first | refine js ?_ | refine jb ?_)
      refine jr ?_
      refine jS (ru_fieldAddr rfl rfl) ?_
      refine jS (ru_load1 rfl rfl rfl) ?_
      refine jS (rt_bin_to rfl rfl (fun w => run_eqi w _ _ _ _ _ _) (vbool (beqT (by first | assumption | omega)))) ?_
      refine ja rfl ?_
      refine RG.nil (by kernel_rfl) ?_
      repeat (first | refine js ?_ | refine jb ?_)
      refine WpD.ret ?_
      exact ret1 rfl (.tmp rfl) (PLe.refl _)
    · rw [decide_eq_false (by omega)]
      refine fn_of_body Tryz.func26 rfl Tryz.ntmps26 rfl ?_
      intro w0 h0
      repeat (first | refine js ?_ | refine jb ?_)
      refine jr ?_
      refine jT (ru_boxR rfl rfl rfl) ?_
      refine ja rfl ?_
      refine RG.nil (by kernel_rfl) ?_
      repeat (first | refine js ?_ | refine jb ?_)
      refine jr ?_
      refine jS (ru_fieldAddr rfl rfl) ?_
      refine jS (ru_load1 rfl rfl rfl) ?_
      refine jS (rt_bin_to rfl rfl (fun w => run_lti w _ _ _ _ _ _) (vbool (decide_eq_false (by first | assumption | omega)))) ?_
      refine jm rfl ?_
      refine RG.S0 (LT.run rfl rfl rfl (ru_fieldAddr rfl rfl)) ?_
      refine RG.S0 (LT.run rfl rfl rfl (ru_load1 rfl rfl rfl)) ?_
      refine RG.S0 (LT.run rfl rfl rfl (rt_bin_to rfl rfl (fun w => run_gti w _ _ _ _ _ _) (vbool (decide_eq_false (by first | assumption | omega))))) ?_
      refine jS (rt_pick_false rfl rfl) ?_
      refine ja rfl ?_
      refine RG.nil (by kernel_rfl) ?_
      repeat (first | refine js ?_ | refine jb ?_)
      refine WpD.condF rfl ?_
      repeat (first | refine js ?_ | refine jb ?_)
      refine jr ?_
      refine jS (ru_fieldAddr rfl rfl) ?_
      refine jS (ru_load1 rfl rfl rfl) ?_
      refine jS (rt_bin_to rfl rfl (fun w => run_remi w _ _ _ _ _ _ (by first | decide | omega | assumption)) (vint em)) ?_
      refine jS (rt_bin_to rfl rfl (fun w => run_eqi w _ _ _ _ _ _) (vbool (beqF (by first | assumption | omega)))) ?_
      refine ja rfl ?_
      refine RG.nil (by kernel_rfl) ?_
      repeat (first | refine js ?_ | refine jb ?_)
      refine WpD.condF rfl ?_
      repeat (first | refine js ?_ | refine jb ?_)
      refine jr ?_
      refine jS (ru_fieldAddr rfl rfl) ?_
      refine jS (ru_load1 rfl rfl rfl) ?_
      refine jS (rt_bin_to rfl rfl (fun w => run_eqi w _ _ _ _ _ _) (vbool (beqT (by first | assumption | omega)))) ?_
      refine ja rfl ?_
      refine RG.nil (by kernel_rfl) ?_
      repeat (first | refine js ?_ | refine jb ?_)
      refine WpD.condT rfl ?_
      repeat (first | refine js ?_ | refine jb ?_)
      refine jr ?_
      refine jS (ru_fieldAddr rfl rfl) ?_
      refine jS (ru_load1 rfl rfl rfl) ?_
      refine jS (rt_bin_to rfl rfl (fun w => run_eqi w _ _ _ _ _ _) (vbool (beqF (by first | assumption | omega)))) ?_
      refine ja rfl ?_
      refine RG.nil (by kernel_rfl) ?_
      repeat (first | refine js ?_ | refine jb ?_)
      refine WpD.ret ?_
      exact ret1 rfl (.tmp rfl) (PLe.refl _)
  by_cases h4 : c = 1
  · rw [decide_eq_true (by omega)]
    refine fn_of_body Tryz.func26 rfl Tryz.ntmps26 rfl ?_
    intro w0 h0
    repeat (first | refine js ?_ | refine jb ?_)
    refine jr ?_
    refine jT (ru_boxR rfl rfl rfl) ?_
    refine ja rfl ?_
    refine RG.nil (by kernel_rfl) ?_
    repeat (first | refine js ?_ | refine jb ?_)
    refine jr ?_
    refine jS (ru_fieldAddr rfl rfl) ?_
    refine jS (ru_load1 rfl rfl rfl) ?_
    refine jS (rt_bin_to rfl rfl (fun w => run_lti w _ _ _ _ _ _) (vbool (decide_eq_false (by first | assumption | omega)))) ?_
    refine jm rfl ?_
    refine RG.S0 (LT.run rfl rfl rfl (ru_fieldAddr rfl rfl)) ?_
    refine RG.S0 (LT.run rfl rfl rfl (ru_load1 rfl rfl rfl)) ?_
    refine RG.S0 (LT.run rfl rfl rfl (rt_bin_to rfl rfl (fun w => run_gti w _ _ _ _ _ _) (vbool (decide_eq_false (by first | assumption | omega))))) ?_
    refine jS (rt_pick_false rfl rfl) ?_
    refine ja rfl ?_
    refine RG.nil (by kernel_rfl) ?_
    repeat (first | refine js ?_ | refine jb ?_)
    refine WpD.condF rfl ?_
    repeat (first | refine js ?_ | refine jb ?_)
    refine jr ?_
    refine jS (ru_fieldAddr rfl rfl) ?_
    refine jS (ru_load1 rfl rfl rfl) ?_
    refine jS (rt_bin_to rfl rfl (fun w => run_remi w _ _ _ _ _ _ (by first | decide | omega | assumption)) (vint em)) ?_
    refine jS (rt_bin_to rfl rfl (fun w => run_eqi w _ _ _ _ _ _) (vbool (beqF (by first | assumption | omega)))) ?_
    refine ja rfl ?_
    refine RG.nil (by kernel_rfl) ?_
    repeat (first | refine js ?_ | refine jb ?_)
    refine WpD.condF rfl ?_
    repeat (first | refine js ?_ | refine jb ?_)
    refine jr ?_
    refine jS (ru_fieldAddr rfl rfl) ?_
    refine jS (ru_load1 rfl rfl rfl) ?_
    refine jS (rt_bin_to rfl rfl (fun w => run_eqi w _ _ _ _ _ _) (vbool (beqF (by first | assumption | omega)))) ?_
    refine ja rfl ?_
    refine RG.nil (by kernel_rfl) ?_
    repeat (first | refine js ?_ | refine jb ?_)
    refine WpD.condF rfl ?_
    repeat (first | refine js ?_ | refine jb ?_)
    refine WpD.skip ?_
    repeat (first | refine js ?_ | refine jb ?_)
    refine jr ?_
    refine jS (ru_fieldAddr rfl rfl) ?_
    refine jS (ru_load1 rfl rfl rfl) ?_
    refine jS (rt_bin_to rfl rfl (fun w => run_eqi w _ _ _ _ _ _) (vbool (beqT (by first | assumption | omega)))) ?_
    refine jm rfl ?_
    refine RG.S0 (LT.skip rfl rfl rfl) ?_
    refine RG.S0 (LT.skip rfl rfl rfl) ?_
    refine RG.S0 (LT.skip rfl rfl rfl) ?_
    refine jS (rt_pick_true rfl rfl) ?_
    refine ja rfl ?_
    refine RG.nil (by kernel_rfl) ?_
    repeat (first | refine js ?_ | refine jb ?_)
    refine WpD.ret ?_
    exact ret1 rfl (.tmp rfl) (PLe.refl _)
  by_cases h6 : c = -1
  · rw [decide_eq_true (by omega)]
    refine fn_of_body Tryz.func26 rfl Tryz.ntmps26 rfl ?_
    intro w0 h0
    repeat (first | refine js ?_ | refine jb ?_)
    refine jr ?_
    refine jT (ru_boxR rfl rfl rfl) ?_
    refine ja rfl ?_
    refine RG.nil (by kernel_rfl) ?_
    repeat (first | refine js ?_ | refine jb ?_)
    refine jr ?_
    refine jS (ru_fieldAddr rfl rfl) ?_
    refine jS (ru_load1 rfl rfl rfl) ?_
    refine jS (rt_bin_to rfl rfl (fun w => run_lti w _ _ _ _ _ _) (vbool (decide_eq_false (by first | assumption | omega)))) ?_
    refine jm rfl ?_
    refine RG.S0 (LT.run rfl rfl rfl (ru_fieldAddr rfl rfl)) ?_
    refine RG.S0 (LT.run rfl rfl rfl (ru_load1 rfl rfl rfl)) ?_
    refine RG.S0 (LT.run rfl rfl rfl (rt_bin_to rfl rfl (fun w => run_gti w _ _ _ _ _ _) (vbool (decide_eq_false (by first | assumption | omega))))) ?_
    refine jS (rt_pick_false rfl rfl) ?_
    refine ja rfl ?_
    refine RG.nil (by kernel_rfl) ?_
    repeat (first | refine js ?_ | refine jb ?_)
    refine WpD.condF rfl ?_
    repeat (first | refine js ?_ | refine jb ?_)
    refine jr ?_
    refine jS (ru_fieldAddr rfl rfl) ?_
    refine jS (ru_load1 rfl rfl rfl) ?_
    refine jS (rt_bin_to rfl rfl (fun w => run_remi w _ _ _ _ _ _ (by first | decide | omega | assumption)) (vint em)) ?_
    refine jS (rt_bin_to rfl rfl (fun w => run_eqi w _ _ _ _ _ _) (vbool (beqF (by first | assumption | omega)))) ?_
    refine ja rfl ?_
    refine RG.nil (by kernel_rfl) ?_
    repeat (first | refine js ?_ | refine jb ?_)
    refine WpD.condF rfl ?_
    repeat (first | refine js ?_ | refine jb ?_)
    refine jr ?_
    refine jS (ru_fieldAddr rfl rfl) ?_
    refine jS (ru_load1 rfl rfl rfl) ?_
    refine jS (rt_bin_to rfl rfl (fun w => run_eqi w _ _ _ _ _ _) (vbool (beqF (by first | assumption | omega)))) ?_
    refine ja rfl ?_
    refine RG.nil (by kernel_rfl) ?_
    repeat (first | refine js ?_ | refine jb ?_)
    refine WpD.condF rfl ?_
    repeat (first | refine js ?_ | refine jb ?_)
    refine WpD.skip ?_
    repeat (first | refine js ?_ | refine jb ?_)
    refine jr ?_
    refine jS (ru_fieldAddr rfl rfl) ?_
    refine jS (ru_load1 rfl rfl rfl) ?_
    refine jS (rt_bin_to rfl rfl (fun w => run_eqi w _ _ _ _ _ _) (vbool (beqF (by first | assumption | omega)))) ?_
    refine jm rfl ?_
    refine RG.S0 (LT.run rfl rfl rfl (ru_fieldAddr rfl rfl)) ?_
    refine RG.S0 (LT.run rfl rfl rfl (ru_load1 rfl rfl rfl)) ?_
    refine RG.S0 (LT.run rfl rfl rfl (rt_bin_to rfl rfl (fun w => run_eqi w _ _ _ _ _ _) (vbool (beqT (by first | assumption | omega))))) ?_
    refine jS (rt_pick_false rfl rfl) ?_
    refine ja rfl ?_
    refine RG.nil (by kernel_rfl) ?_
    repeat (first | refine js ?_ | refine jb ?_)
    refine WpD.ret ?_
    exact ret1 rfl (.tmp rfl) (PLe.refl _)
  · rw [decide_eq_false (by omega)]
    refine fn_of_body Tryz.func26 rfl Tryz.ntmps26 rfl ?_
    intro w0 h0
    repeat (first | refine js ?_ | refine jb ?_)
    refine jr ?_
    refine jT (ru_boxR rfl rfl rfl) ?_
    refine ja rfl ?_
    refine RG.nil (by kernel_rfl) ?_
    repeat (first | refine js ?_ | refine jb ?_)
    refine jr ?_
    refine jS (ru_fieldAddr rfl rfl) ?_
    refine jS (ru_load1 rfl rfl rfl) ?_
    refine jS (rt_bin_to rfl rfl (fun w => run_lti w _ _ _ _ _ _) (vbool (decide_eq_false (by first | assumption | omega)))) ?_
    refine jm rfl ?_
    refine RG.S0 (LT.run rfl rfl rfl (ru_fieldAddr rfl rfl)) ?_
    refine RG.S0 (LT.run rfl rfl rfl (ru_load1 rfl rfl rfl)) ?_
    refine RG.S0 (LT.run rfl rfl rfl (rt_bin_to rfl rfl (fun w => run_gti w _ _ _ _ _ _) (vbool (decide_eq_false (by first | assumption | omega))))) ?_
    refine jS (rt_pick_false rfl rfl) ?_
    refine ja rfl ?_
    refine RG.nil (by kernel_rfl) ?_
    repeat (first | refine js ?_ | refine jb ?_)
    refine WpD.condF rfl ?_
    repeat (first | refine js ?_ | refine jb ?_)
    refine jr ?_
    refine jS (ru_fieldAddr rfl rfl) ?_
    refine jS (ru_load1 rfl rfl rfl) ?_
    refine jS (rt_bin_to rfl rfl (fun w => run_remi w _ _ _ _ _ _ (by first | decide | omega | assumption)) (vint em)) ?_
    refine jS (rt_bin_to rfl rfl (fun w => run_eqi w _ _ _ _ _ _) (vbool (beqF (by first | assumption | omega)))) ?_
    refine ja rfl ?_
    refine RG.nil (by kernel_rfl) ?_
    repeat (first | refine js ?_ | refine jb ?_)
    refine WpD.condF rfl ?_
    repeat (first | refine js ?_ | refine jb ?_)
    refine jr ?_
    refine jS (ru_fieldAddr rfl rfl) ?_
    refine jS (ru_load1 rfl rfl rfl) ?_
    refine jS (rt_bin_to rfl rfl (fun w => run_eqi w _ _ _ _ _ _) (vbool (beqF (by first | assumption | omega)))) ?_
    refine ja rfl ?_
    refine RG.nil (by kernel_rfl) ?_
    repeat (first | refine js ?_ | refine jb ?_)
    refine WpD.condF rfl ?_
    repeat (first | refine js ?_ | refine jb ?_)
    refine WpD.skip ?_
    repeat (first | refine js ?_ | refine jb ?_)
    refine jr ?_
    refine jS (ru_fieldAddr rfl rfl) ?_
    refine jS (ru_load1 rfl rfl rfl) ?_
    refine jS (rt_bin_to rfl rfl (fun w => run_eqi w _ _ _ _ _ _) (vbool (beqF (by first | assumption | omega)))) ?_
    refine jm rfl ?_
    refine RG.S0 (LT.run rfl rfl rfl (ru_fieldAddr rfl rfl)) ?_
    refine RG.S0 (LT.run rfl rfl rfl (ru_load1 rfl rfl rfl)) ?_
    refine RG.S0 (LT.run rfl rfl rfl (rt_bin_to rfl rfl (fun w => run_eqi w _ _ _ _ _ _) (vbool (beqF (by first | assumption | omega))))) ?_
    refine jS (rt_pick_false rfl rfl) ?_
    refine ja rfl ?_
    refine RG.nil (by kernel_rfl) ?_
    repeat (first | refine js ?_ | refine jb ?_)
    refine WpD.ret ?_
    exact ret1 rfl (.tmp rfl) (PLe.refl _)
end
/-- What Diagonal answers. -/
def diaA (p d c : Int) : Pd := if smP p = true then (if psb d c = true then tupP [qC (dia p d.toNat c), ex (.int .i64 0)] else tupP [zero4, ex (.int .i64 1)]) else tupP [zero4, ex (.int .i64 20)]
theorem mDiagonal (p d c : Int) : Fn Tryz.prog TabE 11 [ex (.int .i64 p), aggP [ex (.int .i64 d), ex (.int .i64 c)]] (diaA p d c) := by
  have A1 := mallowed p
  unfold diaA
  cases hp : smP p with
  | false =>
    rw [hp] at A1
    rw [if_neg (by decide)]
    refine fn_of_body Tryz.func11 rfl Tryz.ntmps11 rfl ?_
    intro w0 h0
    repeat (first | refine js ?_ | refine jb ?_)
    refine jr ?_
    refine jT (ru_boxR rfl rfl rfl) ?_
    refine jT (ru_alloc rfl rfl rfl) ?_
    refine ja rfl ?_
    refine RG.nil (by kernel_rfl) ?_
    repeat (first | refine js ?_ | refine jb ?_)
    refine jr ?_
    refine jm rfl ?_
    refine jS (ru_call A1 ⟨rfl, trivial⟩) ?_
    refine jS (rt_un rfl (fun w => run_not w _)) ?_
    refine RG.nil (by kernel_rfl) ?_
    repeat (first | refine js ?_ | refine jb ?_)
    refine WpD.condT rfl ?_
    repeat (first | refine js ?_ | refine jb ?_)
    refine jr ?_
    refine jS (ru_build (ps := []) trivial rfl) ?_
    refine jO (ru_storeR rfl rfl rfl rfl rfl rfl) ?_
    refine ja rfl ?_
    refine RG.nil (by kernel_rfl) ?_
    repeat (first | refine js ?_ | refine jb ?_)
    refine WpD.ret ?_
    exact ret2 rfl (.cell rfl rfl CRow.ok rfl) (.tmp rfl) (PLe.refl _)
  | true =>
    rw [hp] at A1
    rw [if_pos rfl]
    have A2 := mpossible TabE d c
    cases hd : psb d c with
    | false =>
      rw [hd] at A2
      rw [if_neg (by decide)]
      refine fn_of_body Tryz.func11 rfl Tryz.ntmps11 rfl ?_
      intro w0 h0
      repeat (first | refine js ?_ | refine jb ?_)
      refine jr ?_
      refine jT (ru_boxR rfl rfl rfl) ?_
      refine jT (ru_alloc rfl rfl rfl) ?_
      refine ja rfl ?_
      refine RG.nil (by kernel_rfl) ?_
      repeat (first | refine js ?_ | refine jb ?_)
      refine jr ?_
      refine jm rfl ?_
      refine jS (ru_call A1 ⟨rfl, trivial⟩) ?_
      refine jS (rt_un rfl (fun w => run_not w _)) ?_
      refine RG.nil (by kernel_rfl) ?_
      repeat (first | refine js ?_ | refine jb ?_)
      refine WpD.condF rfl ?_
      repeat (first | refine js ?_ | refine jb ?_)
      refine WpD.skip ?_
      repeat (first | refine js ?_ | refine jb ?_)
      refine jr ?_
      refine jS (ru_loadR rfl rfl rfl rfl) ?_
      refine jS (ru_call A2 ⟨rfl, trivial⟩) ?_
      refine jS (rt_un rfl (fun w => run_not w _)) ?_
      refine RG.nil (by kernel_rfl) ?_
      repeat (first | refine js ?_ | refine jb ?_)
      refine WpD.condT rfl ?_
      repeat (first | refine js ?_ | refine jb ?_)
      refine jr ?_
      refine jS (ru_build (ps := []) trivial rfl) ?_
      refine jO (ru_storeR rfl rfl rfl rfl rfl rfl) ?_
      refine ja rfl ?_
      refine RG.nil (by kernel_rfl) ?_
      repeat (first | refine js ?_ | refine jb ?_)
      refine WpD.ret ?_
      exact ret2 rfl (.cell rfl rfl CRow.ok rfl) (.tmp rfl) (PLe.refl _)
    | true =>
      rw [hd] at A2
      rw [if_pos rfl]
      obtain ⟨p1, p2, _⟩ := smP_bd hp
      have hq := of_decide_eq_true hd
      obtain ⟨n, rfl⟩ : ∃ n : Nat, d = (n : Int) := ⟨d.toNat, by omega⟩
      rw [Int.toNat_natCast]
      have A3 := mdiagonal TabE p c n p1 p2 (by omega) (by omega) (by omega)
      refine fn_of_body Tryz.func11 rfl Tryz.ntmps11 rfl ?_
      intro w0 h0
      repeat (first | refine js ?_ | refine jb ?_)
      refine jr ?_
      refine jT (ru_boxR rfl rfl rfl) ?_
      refine jT (ru_alloc rfl rfl rfl) ?_
      refine ja rfl ?_
      refine RG.nil (by kernel_rfl) ?_
      repeat (first | refine js ?_ | refine jb ?_)
      refine jr ?_
      refine jm rfl ?_
      refine jS (ru_call A1 ⟨rfl, trivial⟩) ?_
      refine jS (rt_un rfl (fun w => run_not w _)) ?_
      refine RG.nil (by kernel_rfl) ?_
      repeat (first | refine js ?_ | refine jb ?_)
      refine WpD.condF rfl ?_
      repeat (first | refine js ?_ | refine jb ?_)
      refine WpD.skip ?_
      repeat (first | refine js ?_ | refine jb ?_)
      refine jr ?_
      refine jS (ru_loadR rfl rfl rfl rfl) ?_
      refine jS (ru_call A2 ⟨rfl, trivial⟩) ?_
      refine jS (rt_un rfl (fun w => run_not w _)) ?_
      refine RG.nil (by kernel_rfl) ?_
      repeat (first | refine js ?_ | refine jb ?_)
      refine WpD.condF rfl ?_
      repeat (first | refine js ?_ | refine jb ?_)
      refine WpD.skip ?_
      repeat (first | refine js ?_ | refine jb ?_)
      refine jr ?_
      refine jm rfl ?_
      refine jS (ru_loadR rfl rfl rfl rfl) ?_
      refine jS (ru_call A3 ⟨rfl, rfl, trivial⟩) ?_
      refine jO (ru_storeR rfl rfl rfl rfl rfl rfl) ?_
      refine ja rfl ?_
      refine RG.nil (by kernel_rfl) ?_
      repeat (first | refine js ?_ | refine jb ?_)
      refine WpD.ret ?_
      exact ret2 rfl (.cell rfl rfl CRow.ok rfl) (.tmp rfl) (PLe.refl _)
section
variable (En : Ev)
set_option maxHeartbeats 1000000 in
theorem rDiagonal (p d c : Int) : Fn Tryz.prog En 12 [ex (.int .i64 p), aggP [ex (.int .i64 d), ex (.int .i64 c)]] (diaA p d c) := by
  have A1 := rsmall En p
  unfold diaA
  cases hp : smP p with
  | false =>
    rw [hp] at A1
    rw [if_neg (by decide)]
    refine fn_of_body Tryz.func12 rfl Tryz.ntmps12 rfl ?_
    intro w0 h0
    repeat (first | refine js ?_ | refine jb ?_)
    refine jr ?_
    refine jT (ru_boxR rfl rfl rfl) ?_
    refine jT (ru_alloc rfl rfl rfl) ?_
    refine ja rfl ?_
    refine RG.nil (by kernel_rfl) ?_
    repeat (first | refine js ?_ | refine jb ?_)
    refine jr ?_
    refine jm rfl ?_
    refine jS (ru_call A1 ⟨rfl, trivial⟩) ?_
    refine jS (rt_un rfl (fun w => run_not w _)) ?_
    refine RG.nil (by kernel_rfl) ?_
    repeat (first | refine js ?_ | refine jb ?_)
    refine WpD.condT rfl ?_
    repeat (first | refine js ?_ | refine jb ?_)
    refine jr ?_
    refine jS (ru_build (ps := []) trivial rfl) ?_
    refine jO (ru_storeR rfl rfl rfl rfl rfl rfl) ?_
    refine ja rfl ?_
    refine RG.nil (by kernel_rfl) ?_
    repeat (first | refine js ?_ | refine jb ?_)
    refine WpD.ret ?_
    exact ret2 rfl (.cell rfl rfl CRow.ok rfl) (.tmp rfl) (PLe.refl _)
  | true =>
    rw [hp] at A1
    rw [if_pos rfl]
    obtain ⟨p1, p2, _⟩ := smP_bd hp
    unfold psb
    by_cases h1 : d < 0
    · rw [if_neg (by rw [decide_eq_true_eq]; omega)]
      refine fn_of_body Tryz.func12 rfl Tryz.ntmps12 rfl ?_
      intro w0 h0
      repeat (first | refine js ?_ | refine jb ?_)
      refine jr ?_
      refine jT (ru_boxR rfl rfl rfl) ?_
      refine jT (ru_alloc rfl rfl rfl) ?_
      refine ja rfl ?_
      refine RG.nil (by kernel_rfl) ?_
      repeat (first | refine js ?_ | refine jb ?_)
      refine jr ?_
      refine jm rfl ?_
      refine jS (ru_call A1 ⟨rfl, trivial⟩) ?_
      refine jS (rt_un rfl (fun w => run_not w _)) ?_
      refine RG.nil (by kernel_rfl) ?_
      repeat (first | refine js ?_ | refine jb ?_)
      refine WpD.condF rfl ?_
      repeat (first | refine js ?_ | refine jb ?_)
      refine WpD.skip ?_
      repeat (first | refine js ?_ | refine jb ?_)
      refine jr ?_
      refine jS (ru_fieldAddr rfl rfl) ?_
      refine jS (ru_load1 rfl rfl rfl) ?_
      refine jS (rt_bin_to rfl rfl (fun w => run_lti w _ _ _ _ _ _) (vbool (decide_eq_true (by first | assumption | omega)))) ?_
      refine jm rfl ?_
      refine RG.S0 (LT.skip rfl rfl rfl) ?_
      refine RG.S0 (LT.skip rfl rfl rfl) ?_
      refine RG.S0 (LT.skip rfl rfl rfl) ?_
      refine jS (rt_pick_true rfl rfl) ?_
      refine jm rfl ?_
      refine RG.S0 (LT.skip rfl rfl rfl) ?_
      refine RG.S0 (LT.skip rfl rfl rfl) ?_
      refine RG.S0 (LT.skip rfl rfl rfl) ?_
      refine RG.S0 (LT.skip rfl rfl rfl) ?_
      refine RG.S0 (LT.skip rfl rfl rfl) ?_
      refine RG.S0 (LT.skipU rfl rfl rfl) ?_
      refine RG.S0 (LT.skipU rfl rfl rfl) ?_
      refine RG.S0 (LT.skipU rfl rfl rfl) ?_
      refine RG.S0 (LT.skip rfl rfl rfl) ?_
      refine jS (rt_pick_true rfl rfl) ?_
      refine jm rfl ?_
      refine RG.S0 (LT.skip rfl rfl rfl) ?_
      refine RG.S0 (LT.skip rfl rfl rfl) ?_
      refine RG.S0 (LT.skip rfl rfl rfl) ?_
      refine RG.S0 (LT.skip rfl rfl rfl) ?_
      refine RG.S0 (LT.skip rfl rfl rfl) ?_
      refine RG.S0 (LT.skipU rfl rfl rfl) ?_
      refine RG.S0 (LT.skipU rfl rfl rfl) ?_
      refine RG.S0 (LT.skipU rfl rfl rfl) ?_
      refine RG.S0 (LT.skip rfl rfl rfl) ?_
      refine RG.S0 (LT.skip rfl rfl rfl) ?_
      refine RG.S0 (LT.skipU rfl rfl rfl) ?_
      refine RG.S0 (LT.skipU rfl rfl rfl) ?_
      refine RG.S0 (LT.skipU rfl rfl rfl) ?_
      refine RG.S0 (LT.skip rfl rfl rfl) ?_
      refine jS (rt_pick_true rfl rfl) ?_
      refine jm rfl ?_
      refine RG.S0 (LT.skip rfl rfl rfl) ?_
      refine RG.S0 (LT.skip rfl rfl rfl) ?_
      refine RG.S0 (LT.skip rfl rfl rfl) ?_
      refine RG.S0 (LT.skip rfl rfl rfl) ?_
      refine RG.S0 (LT.skipU rfl rfl rfl) ?_
      refine RG.S0 (LT.skipU rfl rfl rfl) ?_
      refine RG.S0 (LT.skipU rfl rfl rfl) ?_
      refine RG.S0 (LT.skip rfl rfl rfl) ?_
      refine jS (rt_pick_true rfl rfl) ?_
      refine RG.nil (by kernel_rfl) ?_
      repeat (first | refine js ?_ | refine jb ?_)
      refine WpD.condT rfl ?_
      repeat (first | refine js ?_ | refine jb ?_)
      refine jr ?_
      refine jS (ru_build (ps := []) trivial rfl) ?_
      refine jO (ru_storeR rfl rfl rfl rfl rfl rfl) ?_
      refine ja rfl ?_
      refine RG.nil (by kernel_rfl) ?_
      repeat (first | refine js ?_ | refine jb ?_)
      refine WpD.ret ?_
      exact ret2 rfl (.cell rfl rfl CRow.ok rfl) (.tmp rfl) (PLe.refl _)
    by_cases h2 : d > 9
    · rw [if_neg (by rw [decide_eq_true_eq]; omega)]
      refine fn_of_body Tryz.func12 rfl Tryz.ntmps12 rfl ?_
      intro w0 h0
      repeat (first | refine js ?_ | refine jb ?_)
      refine jr ?_
      refine jT (ru_boxR rfl rfl rfl) ?_
      refine jT (ru_alloc rfl rfl rfl) ?_
      refine ja rfl ?_
      refine RG.nil (by kernel_rfl) ?_
      repeat (first | refine js ?_ | refine jb ?_)
      refine jr ?_
      refine jm rfl ?_
      refine jS (ru_call A1 ⟨rfl, trivial⟩) ?_
      refine jS (rt_un rfl (fun w => run_not w _)) ?_
      refine RG.nil (by kernel_rfl) ?_
      repeat (first | refine js ?_ | refine jb ?_)
      refine WpD.condF rfl ?_
      repeat (first | refine js ?_ | refine jb ?_)
      refine WpD.skip ?_
      repeat (first | refine js ?_ | refine jb ?_)
      refine jr ?_
      refine jS (ru_fieldAddr rfl rfl) ?_
      refine jS (ru_load1 rfl rfl rfl) ?_
      refine jS (rt_bin_to rfl rfl (fun w => run_lti w _ _ _ _ _ _) (vbool (decide_eq_false (by first | assumption | omega)))) ?_
      refine jm rfl ?_
      refine RG.S0 (LT.run rfl rfl rfl (ru_fieldAddr rfl rfl)) ?_
      refine RG.S0 (LT.run rfl rfl rfl (ru_load1 rfl rfl rfl)) ?_
      refine RG.S0 (LT.run rfl rfl rfl (rt_bin_to rfl rfl (fun w => run_gti w _ _ _ _ _ _) (vbool (decide_eq_true (by first | assumption | omega))))) ?_
      refine jS (rt_pick_false rfl rfl) ?_
      refine jm rfl ?_
      refine RG.S0 (LT.skip rfl rfl rfl) ?_
      refine RG.S0 (LT.skip rfl rfl rfl) ?_
      refine RG.S0 (LT.skip rfl rfl rfl) ?_
      refine RG.S0 (LT.skip rfl rfl rfl) ?_
      refine RG.S0 (LT.skip rfl rfl rfl) ?_
      refine RG.S0 (LT.skipU rfl rfl rfl) ?_
      refine RG.S0 (LT.skipU rfl rfl rfl) ?_
      refine RG.S0 (LT.skipU rfl rfl rfl) ?_
      refine RG.S0 (LT.skip rfl rfl rfl) ?_
      refine jS (rt_pick_true rfl rfl) ?_
      refine jm rfl ?_
      refine RG.S0 (LT.skip rfl rfl rfl) ?_
      refine RG.S0 (LT.skip rfl rfl rfl) ?_
      refine RG.S0 (LT.skip rfl rfl rfl) ?_
      refine RG.S0 (LT.skip rfl rfl rfl) ?_
      refine RG.S0 (LT.skip rfl rfl rfl) ?_
      refine RG.S0 (LT.skipU rfl rfl rfl) ?_
      refine RG.S0 (LT.skipU rfl rfl rfl) ?_
      refine RG.S0 (LT.skipU rfl rfl rfl) ?_
      refine RG.S0 (LT.skip rfl rfl rfl) ?_
      refine RG.S0 (LT.skip rfl rfl rfl) ?_
      refine RG.S0 (LT.skipU rfl rfl rfl) ?_
      refine RG.S0 (LT.skipU rfl rfl rfl) ?_
      refine RG.S0 (LT.skipU rfl rfl rfl) ?_
      refine RG.S0 (LT.skip rfl rfl rfl) ?_
      refine jS (rt_pick_true rfl rfl) ?_
      refine jm rfl ?_
      refine RG.S0 (LT.skip rfl rfl rfl) ?_
      refine RG.S0 (LT.skip rfl rfl rfl) ?_
      refine RG.S0 (LT.skip rfl rfl rfl) ?_
      refine RG.S0 (LT.skip rfl rfl rfl) ?_
      refine RG.S0 (LT.skipU rfl rfl rfl) ?_
      refine RG.S0 (LT.skipU rfl rfl rfl) ?_
      refine RG.S0 (LT.skipU rfl rfl rfl) ?_
      refine RG.S0 (LT.skip rfl rfl rfl) ?_
      refine jS (rt_pick_true rfl rfl) ?_
      refine RG.nil (by kernel_rfl) ?_
      repeat (first | refine js ?_ | refine jb ?_)
      refine WpD.condT rfl ?_
      repeat (first | refine js ?_ | refine jb ?_)
      refine jr ?_
      refine jS (ru_build (ps := []) trivial rfl) ?_
      refine jO (ru_storeR rfl rfl rfl rfl rfl rfl) ?_
      refine ja rfl ?_
      refine RG.nil (by kernel_rfl) ?_
      repeat (first | refine js ?_ | refine jb ?_)
      refine WpD.ret ?_
      exact ret2 rfl (.cell rfl rfl CRow.ok rfl) (.tmp rfl) (PLe.refl _)
    have em : d.tmod 2 = d % 2 := Int.tmod_eq_emod_of_nonneg (by omega)
    obtain ⟨n, rfl⟩ : ∃ n : Nat, d = (n : Int) := ⟨d.toNat, by omega⟩
    by_cases h3 : (n : Int) % 2 = 1
    · by_cases h4 : c = 0
      · have A3 := rfactor En p c n p1 p2 (by omega) (by omega) (by omega)
        rw [Int.toNat_natCast]
        rw [if_pos (by rw [decide_eq_true_eq]; omega)]
        refine fn_of_body Tryz.func12 rfl Tryz.ntmps12 rfl ?_
        intro w0 h0
        repeat (first | refine js ?_ | refine jb ?_)
        refine jr ?_
        refine jT (ru_boxR rfl rfl rfl) ?_
        refine jT (ru_alloc rfl rfl rfl) ?_
        refine ja rfl ?_
        refine RG.nil (by kernel_rfl) ?_
        repeat (first | refine js ?_ | refine jb ?_)
        refine jr ?_
        refine jm rfl ?_
        refine jS (ru_call A1 ⟨rfl, trivial⟩) ?_
        refine jS (rt_un rfl (fun w => run_not w _)) ?_
        refine RG.nil (by kernel_rfl) ?_
        repeat (first | refine js ?_ | refine jb ?_)
        refine WpD.condF rfl ?_
        repeat (first | refine js ?_ | refine jb ?_)
        refine WpD.skip ?_
        repeat (first | refine js ?_ | refine jb ?_)
        refine jr ?_
        refine jS (ru_fieldAddr rfl rfl) ?_
        refine jS (ru_load1 rfl rfl rfl) ?_
        refine jS (rt_bin_to rfl rfl (fun w => run_lti w _ _ _ _ _ _) (vbool (decide_eq_false (by first | assumption | omega)))) ?_
        refine jm rfl ?_
        refine RG.S0 (LT.run rfl rfl rfl (ru_fieldAddr rfl rfl)) ?_
        refine RG.S0 (LT.run rfl rfl rfl (ru_load1 rfl rfl rfl)) ?_
        refine RG.S0 (LT.run rfl rfl rfl (rt_bin_to rfl rfl (fun w => run_gti w _ _ _ _ _ _) (vbool (decide_eq_false (by first | assumption | omega))))) ?_
        refine jS (rt_pick_false rfl rfl) ?_
        refine jm rfl ?_
        refine RG.S0 (LT.run rfl rfl rfl (ru_fieldAddr rfl rfl)) ?_
        refine RG.S0 (LT.run rfl rfl rfl (ru_load1 rfl rfl rfl)) ?_
        refine RG.S0 (LT.run rfl rfl rfl (rt_bin_to rfl rfl (fun w => run_remi w _ _ _ _ _ _ (by first | decide | omega | assumption)) (vint em))) ?_
        refine RG.S0 (LT.run rfl rfl rfl (rt_bin_to rfl rfl (fun w => run_eqi w _ _ _ _ _ _) (vbool (beqT (by first | assumption | omega))))) ?_
        refine RG.S0 (LT.run rfl rfl rfl (rt_move rfl)) ?_
        refine RG.S0 (LT.run rfl rfl rfl (ru_fieldAddr rfl rfl)) ?_
        refine RG.S0 (LT.run rfl rfl rfl (ru_load1 rfl rfl rfl)) ?_
        refine RG.S0 (LT.run rfl rfl rfl (rt_bin_to rfl rfl (fun w => run_nei w _ _ _ _ _ _) (vbool (bneF (by first | assumption | omega))))) ?_
        refine RG.S0 (LT.run rfl rfl rfl (rt_pick_true rfl rfl)) ?_
        refine jS (rt_pick_false rfl rfl) ?_
        refine jm rfl ?_
        refine RG.S0 (LT.run rfl rfl rfl (ru_fieldAddr rfl rfl)) ?_
        refine RG.S0 (LT.run rfl rfl rfl (ru_load1 rfl rfl rfl)) ?_
        refine RG.S0 (LT.run rfl rfl rfl (rt_bin_to rfl rfl (fun w => run_remi w _ _ _ _ _ _ (by first | decide | omega | assumption)) (vint em))) ?_
        refine RG.S0 (LT.run rfl rfl rfl (rt_bin_to rfl rfl (fun w => run_eqi w _ _ _ _ _ _) (vbool (beqF (by first | assumption | omega))))) ?_
        refine RG.S0 (LT.run rfl rfl rfl (rt_move rfl)) ?_
        refine RG.S0 (LT.skip rfl rfl rfl) ?_
        refine RG.S0 (LT.skip rfl rfl rfl) ?_
        refine RG.S0 (LT.skip rfl rfl rfl) ?_
        refine RG.S0 (LT.run rfl rfl rfl (rt_pick_false rfl rfl)) ?_
        refine RG.S0 (LT.run rfl rfl rfl (rt_move rfl)) ?_
        refine RG.S0 (LT.skip rfl rfl rfl) ?_
        refine RG.S0 (LT.skip rfl rfl rfl) ?_
        refine RG.S0 (LT.skip rfl rfl rfl) ?_
        refine RG.S0 (LT.run rfl rfl rfl (rt_pick_false rfl rfl)) ?_
        refine jS (rt_pick_false rfl rfl) ?_
        refine jm rfl ?_
        refine RG.S0 (LT.run rfl rfl rfl (ru_fieldAddr rfl rfl)) ?_
        refine RG.S0 (LT.run rfl rfl rfl (ru_load1 rfl rfl rfl)) ?_
        refine RG.S0 (LT.run rfl rfl rfl (rt_bin_to rfl rfl (fun w => run_eqi w _ _ _ _ _ _) (vbool (beqF (by first | assumption | omega))))) ?_
        refine RG.S0 (LT.run rfl rfl rfl (rt_move rfl)) ?_
        refine RG.S0 (LT.skip rfl rfl rfl) ?_
        refine RG.S0 (LT.skip rfl rfl rfl) ?_
        refine RG.S0 (LT.skip rfl rfl rfl) ?_
        refine RG.S0 (LT.run rfl rfl rfl (rt_pick_false rfl rfl)) ?_
        refine jS (rt_pick_false rfl rfl) ?_
        refine RG.nil (by kernel_rfl) ?_
        repeat (first | refine js ?_ | refine jb ?_)
        refine WpD.condF rfl ?_
        repeat (first | refine js ?_ | refine jb ?_)
        refine WpD.skip ?_
        repeat (first | refine js ?_ | refine jb ?_)
        refine jr ?_
        refine jm rfl ?_
        refine jS (ru_loadR rfl rfl rfl rfl) ?_
        refine jS (ru_call A3 ⟨rfl, rfl, trivial⟩) ?_
        refine jO (ru_storeR rfl rfl rfl rfl rfl rfl) ?_
        refine ja rfl ?_
        refine RG.nil (by kernel_rfl) ?_
        repeat (first | refine js ?_ | refine jb ?_)
        refine WpD.ret ?_
        exact ret2 rfl (.cell rfl rfl CRow.ok rfl) (.tmp rfl) (PLe.refl _)
      · rw [if_neg (by rw [decide_eq_true_eq]; omega)]
        refine fn_of_body Tryz.func12 rfl Tryz.ntmps12 rfl ?_
        intro w0 h0
        repeat (first | refine js ?_ | refine jb ?_)
        refine jr ?_
        refine jT (ru_boxR rfl rfl rfl) ?_
        refine jT (ru_alloc rfl rfl rfl) ?_
        refine ja rfl ?_
        refine RG.nil (by kernel_rfl) ?_
        repeat (first | refine js ?_ | refine jb ?_)
        refine jr ?_
        refine jm rfl ?_
        refine jS (ru_call A1 ⟨rfl, trivial⟩) ?_
        refine jS (rt_un rfl (fun w => run_not w _)) ?_
        refine RG.nil (by kernel_rfl) ?_
        repeat (first | refine js ?_ | refine jb ?_)
        refine WpD.condF rfl ?_
        repeat (first | refine js ?_ | refine jb ?_)
        refine WpD.skip ?_
        repeat (first | refine js ?_ | refine jb ?_)
        refine jr ?_
        refine jS (ru_fieldAddr rfl rfl) ?_
        refine jS (ru_load1 rfl rfl rfl) ?_
        refine jS (rt_bin_to rfl rfl (fun w => run_lti w _ _ _ _ _ _) (vbool (decide_eq_false (by first | assumption | omega)))) ?_
        refine jm rfl ?_
        refine RG.S0 (LT.run rfl rfl rfl (ru_fieldAddr rfl rfl)) ?_
        refine RG.S0 (LT.run rfl rfl rfl (ru_load1 rfl rfl rfl)) ?_
        refine RG.S0 (LT.run rfl rfl rfl (rt_bin_to rfl rfl (fun w => run_gti w _ _ _ _ _ _) (vbool (decide_eq_false (by first | assumption | omega))))) ?_
        refine jS (rt_pick_false rfl rfl) ?_
        refine jm rfl ?_
        refine RG.S0 (LT.run rfl rfl rfl (ru_fieldAddr rfl rfl)) ?_
        refine RG.S0 (LT.run rfl rfl rfl (ru_load1 rfl rfl rfl)) ?_
        refine RG.S0 (LT.run rfl rfl rfl (rt_bin_to rfl rfl (fun w => run_remi w _ _ _ _ _ _ (by first | decide | omega | assumption)) (vint em))) ?_
        refine RG.S0 (LT.run rfl rfl rfl (rt_bin_to rfl rfl (fun w => run_eqi w _ _ _ _ _ _) (vbool (beqT (by first | assumption | omega))))) ?_
        refine RG.S0 (LT.run rfl rfl rfl (rt_move rfl)) ?_
        refine RG.S0 (LT.run rfl rfl rfl (ru_fieldAddr rfl rfl)) ?_
        refine RG.S0 (LT.run rfl rfl rfl (ru_load1 rfl rfl rfl)) ?_
        refine RG.S0 (LT.run rfl rfl rfl (rt_bin_to rfl rfl (fun w => run_nei w _ _ _ _ _ _) (vbool (bneT (by first | assumption | omega))))) ?_
        refine RG.S0 (LT.run rfl rfl rfl (rt_pick_true rfl rfl)) ?_
        refine jS (rt_pick_false rfl rfl) ?_
        refine jm rfl ?_
        refine RG.S0 (LT.skip rfl rfl rfl) ?_
        refine RG.S0 (LT.skip rfl rfl rfl) ?_
        refine RG.S0 (LT.skip rfl rfl rfl) ?_
        refine RG.S0 (LT.skip rfl rfl rfl) ?_
        refine RG.S0 (LT.skip rfl rfl rfl) ?_
        refine RG.S0 (LT.skipU rfl rfl rfl) ?_
        refine RG.S0 (LT.skipU rfl rfl rfl) ?_
        refine RG.S0 (LT.skipU rfl rfl rfl) ?_
        refine RG.S0 (LT.skip rfl rfl rfl) ?_
        refine RG.S0 (LT.skip rfl rfl rfl) ?_
        refine RG.S0 (LT.skipU rfl rfl rfl) ?_
        refine RG.S0 (LT.skipU rfl rfl rfl) ?_
        refine RG.S0 (LT.skipU rfl rfl rfl) ?_
        refine RG.S0 (LT.skip rfl rfl rfl) ?_
        refine jS (rt_pick_true rfl rfl) ?_
        refine jm rfl ?_
        refine RG.S0 (LT.skip rfl rfl rfl) ?_
        refine RG.S0 (LT.skip rfl rfl rfl) ?_
        refine RG.S0 (LT.skip rfl rfl rfl) ?_
        refine RG.S0 (LT.skip rfl rfl rfl) ?_
        refine RG.S0 (LT.skipU rfl rfl rfl) ?_
        refine RG.S0 (LT.skipU rfl rfl rfl) ?_
        refine RG.S0 (LT.skipU rfl rfl rfl) ?_
        refine RG.S0 (LT.skip rfl rfl rfl) ?_
        refine jS (rt_pick_true rfl rfl) ?_
        refine RG.nil (by kernel_rfl) ?_
        repeat (first | refine js ?_ | refine jb ?_)
        refine WpD.condT rfl ?_
        repeat (first | refine js ?_ | refine jb ?_)
        refine jr ?_
        refine jS (ru_build (ps := []) trivial rfl) ?_
        refine jO (ru_storeR rfl rfl rfl rfl rfl rfl) ?_
        refine ja rfl ?_
        refine RG.nil (by kernel_rfl) ?_
        repeat (first | refine js ?_ | refine jb ?_)
        refine WpD.ret ?_
        exact ret2 rfl (.cell rfl rfl CRow.ok rfl) (.tmp rfl) (PLe.refl _)
    have h3' : (n : Int) % 2 = 0 := by omega
    by_cases h4 : c = 1
    · have A3 := rfactor En p c n p1 p2 (by omega) (by omega) (by omega)
      rw [Int.toNat_natCast]
      by_cases h5 : (n : Int) = 0
      · rw [if_pos (by rw [decide_eq_true_eq]; omega)]
        refine fn_of_body Tryz.func12 rfl Tryz.ntmps12 rfl ?_
        intro w0 h0
        repeat (first | refine js ?_ | refine jb ?_)
        refine jr ?_
        refine jT (ru_boxR rfl rfl rfl) ?_
        refine jT (ru_alloc rfl rfl rfl) ?_
        refine ja rfl ?_
        refine RG.nil (by kernel_rfl) ?_
        repeat (first | refine js ?_ | refine jb ?_)
        refine jr ?_
        refine jm rfl ?_
        refine jS (ru_call A1 ⟨rfl, trivial⟩) ?_
        refine jS (rt_un rfl (fun w => run_not w _)) ?_
        refine RG.nil (by kernel_rfl) ?_
        repeat (first | refine js ?_ | refine jb ?_)
        refine WpD.condF rfl ?_
        repeat (first | refine js ?_ | refine jb ?_)
        refine WpD.skip ?_
        repeat (first | refine js ?_ | refine jb ?_)
        refine jr ?_
        refine jS (ru_fieldAddr rfl rfl) ?_
        refine jS (ru_load1 rfl rfl rfl) ?_
        refine jS (rt_bin_to rfl rfl (fun w => run_lti w _ _ _ _ _ _) (vbool (decide_eq_false (by first | assumption | omega)))) ?_
        refine jm rfl ?_
        refine RG.S0 (LT.run rfl rfl rfl (ru_fieldAddr rfl rfl)) ?_
        refine RG.S0 (LT.run rfl rfl rfl (ru_load1 rfl rfl rfl)) ?_
        refine RG.S0 (LT.run rfl rfl rfl (rt_bin_to rfl rfl (fun w => run_gti w _ _ _ _ _ _) (vbool (decide_eq_false (by first | assumption | omega))))) ?_
        refine jS (rt_pick_false rfl rfl) ?_
        refine jm rfl ?_
        refine RG.S0 (LT.run rfl rfl rfl (ru_fieldAddr rfl rfl)) ?_
        refine RG.S0 (LT.run rfl rfl rfl (ru_load1 rfl rfl rfl)) ?_
        refine RG.S0 (LT.run rfl rfl rfl (rt_bin_to rfl rfl (fun w => run_remi w _ _ _ _ _ _ (by first | decide | omega | assumption)) (vint em))) ?_
        refine RG.S0 (LT.run rfl rfl rfl (rt_bin_to rfl rfl (fun w => run_eqi w _ _ _ _ _ _) (vbool (beqF (by first | assumption | omega))))) ?_
        refine RG.S0 (LT.run rfl rfl rfl (rt_move rfl)) ?_
        refine RG.S0 (LT.skip rfl rfl rfl) ?_
        refine RG.S0 (LT.skip rfl rfl rfl) ?_
        refine RG.S0 (LT.skip rfl rfl rfl) ?_
        refine RG.S0 (LT.run rfl rfl rfl (rt_pick_false rfl rfl)) ?_
        refine jS (rt_pick_false rfl rfl) ?_
        refine jm rfl ?_
        refine RG.S0 (LT.run rfl rfl rfl (ru_fieldAddr rfl rfl)) ?_
        refine RG.S0 (LT.run rfl rfl rfl (ru_load1 rfl rfl rfl)) ?_
        refine RG.S0 (LT.run rfl rfl rfl (rt_bin_to rfl rfl (fun w => run_remi w _ _ _ _ _ _ (by first | decide | omega | assumption)) (vint em))) ?_
        refine RG.S0 (LT.run rfl rfl rfl (rt_bin_to rfl rfl (fun w => run_eqi w _ _ _ _ _ _) (vbool (beqT (by first | assumption | omega))))) ?_
        refine RG.S0 (LT.run rfl rfl rfl (rt_move rfl)) ?_
        refine RG.S0 (LT.run rfl rfl rfl (ru_fieldAddr rfl rfl)) ?_
        refine RG.S0 (LT.run rfl rfl rfl (ru_load1 rfl rfl rfl)) ?_
        refine RG.S0 (LT.run rfl rfl rfl (rt_bin_to rfl rfl (fun w => run_nei w _ _ _ _ _ _) (vbool (bneF (by first | assumption | omega))))) ?_
        refine RG.S0 (LT.run rfl rfl rfl (rt_pick_true rfl rfl)) ?_
        refine RG.S0 (LT.run rfl rfl rfl (rt_move rfl)) ?_
        refine RG.S0 (LT.skip rfl rfl rfl) ?_
        refine RG.S0 (LT.skip rfl rfl rfl) ?_
        refine RG.S0 (LT.skip rfl rfl rfl) ?_
        refine RG.S0 (LT.run rfl rfl rfl (rt_pick_false rfl rfl)) ?_
        refine jS (rt_pick_false rfl rfl) ?_
        refine jm rfl ?_
        refine RG.S0 (LT.run rfl rfl rfl (ru_fieldAddr rfl rfl)) ?_
        refine RG.S0 (LT.run rfl rfl rfl (ru_load1 rfl rfl rfl)) ?_
        refine RG.S0 (LT.run rfl rfl rfl (rt_bin_to rfl rfl (fun w => run_eqi w _ _ _ _ _ _) (vbool (beqT (by first | assumption | omega))))) ?_
        refine RG.S0 (LT.run rfl rfl rfl (rt_move rfl)) ?_
        refine RG.S0 (LT.run rfl rfl rfl (ru_fieldAddr rfl rfl)) ?_
        refine RG.S0 (LT.run rfl rfl rfl (ru_load1 rfl rfl rfl)) ?_
        refine RG.S0 (LT.run rfl rfl rfl (rt_bin_to rfl rfl (fun w => run_eqi w _ _ _ _ _ _) (vbool (beqF (by first | assumption | omega))))) ?_
        refine RG.S0 (LT.run rfl rfl rfl (rt_pick_true rfl rfl)) ?_
        refine jS (rt_pick_false rfl rfl) ?_
        refine RG.nil (by kernel_rfl) ?_
        repeat (first | refine js ?_ | refine jb ?_)
        refine WpD.condF rfl ?_
        repeat (first | refine js ?_ | refine jb ?_)
        refine WpD.skip ?_
        repeat (first | refine js ?_ | refine jb ?_)
        refine jr ?_
        refine jm rfl ?_
        refine jS (ru_loadR rfl rfl rfl rfl) ?_
        refine jS (ru_call A3 ⟨rfl, rfl, trivial⟩) ?_
        refine jO (ru_storeR rfl rfl rfl rfl rfl rfl) ?_
        refine ja rfl ?_
        refine RG.nil (by kernel_rfl) ?_
        repeat (first | refine js ?_ | refine jb ?_)
        refine WpD.ret ?_
        exact ret2 rfl (.cell rfl rfl CRow.ok rfl) (.tmp rfl) (PLe.refl _)
      · rw [if_pos (by rw [decide_eq_true_eq]; omega)]
        refine fn_of_body Tryz.func12 rfl Tryz.ntmps12 rfl ?_
        intro w0 h0
        repeat (first | refine js ?_ | refine jb ?_)
        refine jr ?_
        refine jT (ru_boxR rfl rfl rfl) ?_
        refine jT (ru_alloc rfl rfl rfl) ?_
        refine ja rfl ?_
        refine RG.nil (by kernel_rfl) ?_
        repeat (first | refine js ?_ | refine jb ?_)
        refine jr ?_
        refine jm rfl ?_
        refine jS (ru_call A1 ⟨rfl, trivial⟩) ?_
        refine jS (rt_un rfl (fun w => run_not w _)) ?_
        refine RG.nil (by kernel_rfl) ?_
        repeat (first | refine js ?_ | refine jb ?_)
        refine WpD.condF rfl ?_
        repeat (first | refine js ?_ | refine jb ?_)
        refine WpD.skip ?_
        repeat (first | refine js ?_ | refine jb ?_)
        refine jr ?_
        refine jS (ru_fieldAddr rfl rfl) ?_
        refine jS (ru_load1 rfl rfl rfl) ?_
        refine jS (rt_bin_to rfl rfl (fun w => run_lti w _ _ _ _ _ _) (vbool (decide_eq_false (by first | assumption | omega)))) ?_
        refine jm rfl ?_
        refine RG.S0 (LT.run rfl rfl rfl (ru_fieldAddr rfl rfl)) ?_
        refine RG.S0 (LT.run rfl rfl rfl (ru_load1 rfl rfl rfl)) ?_
        refine RG.S0 (LT.run rfl rfl rfl (rt_bin_to rfl rfl (fun w => run_gti w _ _ _ _ _ _) (vbool (decide_eq_false (by first | assumption | omega))))) ?_
        refine jS (rt_pick_false rfl rfl) ?_
        refine jm rfl ?_
        refine RG.S0 (LT.run rfl rfl rfl (ru_fieldAddr rfl rfl)) ?_
        refine RG.S0 (LT.run rfl rfl rfl (ru_load1 rfl rfl rfl)) ?_
        refine RG.S0 (LT.run rfl rfl rfl (rt_bin_to rfl rfl (fun w => run_remi w _ _ _ _ _ _ (by first | decide | omega | assumption)) (vint em))) ?_
        refine RG.S0 (LT.run rfl rfl rfl (rt_bin_to rfl rfl (fun w => run_eqi w _ _ _ _ _ _) (vbool (beqF (by first | assumption | omega))))) ?_
        refine RG.S0 (LT.run rfl rfl rfl (rt_move rfl)) ?_
        refine RG.S0 (LT.skip rfl rfl rfl) ?_
        refine RG.S0 (LT.skip rfl rfl rfl) ?_
        refine RG.S0 (LT.skip rfl rfl rfl) ?_
        refine RG.S0 (LT.run rfl rfl rfl (rt_pick_false rfl rfl)) ?_
        refine jS (rt_pick_false rfl rfl) ?_
        refine jm rfl ?_
        refine RG.S0 (LT.run rfl rfl rfl (ru_fieldAddr rfl rfl)) ?_
        refine RG.S0 (LT.run rfl rfl rfl (ru_load1 rfl rfl rfl)) ?_
        refine RG.S0 (LT.run rfl rfl rfl (rt_bin_to rfl rfl (fun w => run_remi w _ _ _ _ _ _ (by first | decide | omega | assumption)) (vint em))) ?_
        refine RG.S0 (LT.run rfl rfl rfl (rt_bin_to rfl rfl (fun w => run_eqi w _ _ _ _ _ _) (vbool (beqT (by first | assumption | omega))))) ?_
        refine RG.S0 (LT.run rfl rfl rfl (rt_move rfl)) ?_
        refine RG.S0 (LT.run rfl rfl rfl (ru_fieldAddr rfl rfl)) ?_
        refine RG.S0 (LT.run rfl rfl rfl (ru_load1 rfl rfl rfl)) ?_
        refine RG.S0 (LT.run rfl rfl rfl (rt_bin_to rfl rfl (fun w => run_nei w _ _ _ _ _ _) (vbool (bneF (by first | assumption | omega))))) ?_
        refine RG.S0 (LT.run rfl rfl rfl (rt_pick_true rfl rfl)) ?_
        refine RG.S0 (LT.run rfl rfl rfl (rt_move rfl)) ?_
        refine RG.S0 (LT.skip rfl rfl rfl) ?_
        refine RG.S0 (LT.skip rfl rfl rfl) ?_
        refine RG.S0 (LT.skip rfl rfl rfl) ?_
        refine RG.S0 (LT.run rfl rfl rfl (rt_pick_false rfl rfl)) ?_
        refine jS (rt_pick_false rfl rfl) ?_
        refine jm rfl ?_
        refine RG.S0 (LT.run rfl rfl rfl (ru_fieldAddr rfl rfl)) ?_
        refine RG.S0 (LT.run rfl rfl rfl (ru_load1 rfl rfl rfl)) ?_
        refine RG.S0 (LT.run rfl rfl rfl (rt_bin_to rfl rfl (fun w => run_eqi w _ _ _ _ _ _) (vbool (beqF (by first | assumption | omega))))) ?_
        refine RG.S0 (LT.run rfl rfl rfl (rt_move rfl)) ?_
        refine RG.S0 (LT.skip rfl rfl rfl) ?_
        refine RG.S0 (LT.skip rfl rfl rfl) ?_
        refine RG.S0 (LT.skip rfl rfl rfl) ?_
        refine RG.S0 (LT.run rfl rfl rfl (rt_pick_false rfl rfl)) ?_
        refine jS (rt_pick_false rfl rfl) ?_
        refine RG.nil (by kernel_rfl) ?_
        repeat (first | refine js ?_ | refine jb ?_)
        refine WpD.condF rfl ?_
        repeat (first | refine js ?_ | refine jb ?_)
        refine WpD.skip ?_
        repeat (first | refine js ?_ | refine jb ?_)
        refine jr ?_
        refine jm rfl ?_
        refine jS (ru_loadR rfl rfl rfl rfl) ?_
        refine jS (ru_call A3 ⟨rfl, rfl, trivial⟩) ?_
        refine jO (ru_storeR rfl rfl rfl rfl rfl rfl) ?_
        refine ja rfl ?_
        refine RG.nil (by kernel_rfl) ?_
        repeat (first | refine js ?_ | refine jb ?_)
        refine WpD.ret ?_
        exact ret2 rfl (.cell rfl rfl CRow.ok rfl) (.tmp rfl) (PLe.refl _)
    by_cases h6 : c = -1
    · by_cases h5 : (n : Int) = 0
      · rw [if_neg (by rw [decide_eq_true_eq]; omega)]
        refine fn_of_body Tryz.func12 rfl Tryz.ntmps12 rfl ?_
        intro w0 h0
        repeat (first | refine js ?_ | refine jb ?_)
        refine jr ?_
        refine jT (ru_boxR rfl rfl rfl) ?_
        refine jT (ru_alloc rfl rfl rfl) ?_
        refine ja rfl ?_
        refine RG.nil (by kernel_rfl) ?_
        repeat (first | refine js ?_ | refine jb ?_)
        refine jr ?_
        refine jm rfl ?_
        refine jS (ru_call A1 ⟨rfl, trivial⟩) ?_
        refine jS (rt_un rfl (fun w => run_not w _)) ?_
        refine RG.nil (by kernel_rfl) ?_
        repeat (first | refine js ?_ | refine jb ?_)
        refine WpD.condF rfl ?_
        repeat (first | refine js ?_ | refine jb ?_)
        refine WpD.skip ?_
        repeat (first | refine js ?_ | refine jb ?_)
        refine jr ?_
        refine jS (ru_fieldAddr rfl rfl) ?_
        refine jS (ru_load1 rfl rfl rfl) ?_
        refine jS (rt_bin_to rfl rfl (fun w => run_lti w _ _ _ _ _ _) (vbool (decide_eq_false (by first | assumption | omega)))) ?_
        refine jm rfl ?_
        refine RG.S0 (LT.run rfl rfl rfl (ru_fieldAddr rfl rfl)) ?_
        refine RG.S0 (LT.run rfl rfl rfl (ru_load1 rfl rfl rfl)) ?_
        refine RG.S0 (LT.run rfl rfl rfl (rt_bin_to rfl rfl (fun w => run_gti w _ _ _ _ _ _) (vbool (decide_eq_false (by first | assumption | omega))))) ?_
        refine jS (rt_pick_false rfl rfl) ?_
        refine jm rfl ?_
        refine RG.S0 (LT.run rfl rfl rfl (ru_fieldAddr rfl rfl)) ?_
        refine RG.S0 (LT.run rfl rfl rfl (ru_load1 rfl rfl rfl)) ?_
        refine RG.S0 (LT.run rfl rfl rfl (rt_bin_to rfl rfl (fun w => run_remi w _ _ _ _ _ _ (by first | decide | omega | assumption)) (vint em))) ?_
        refine RG.S0 (LT.run rfl rfl rfl (rt_bin_to rfl rfl (fun w => run_eqi w _ _ _ _ _ _) (vbool (beqF (by first | assumption | omega))))) ?_
        refine RG.S0 (LT.run rfl rfl rfl (rt_move rfl)) ?_
        refine RG.S0 (LT.skip rfl rfl rfl) ?_
        refine RG.S0 (LT.skip rfl rfl rfl) ?_
        refine RG.S0 (LT.skip rfl rfl rfl) ?_
        refine RG.S0 (LT.run rfl rfl rfl (rt_pick_false rfl rfl)) ?_
        refine jS (rt_pick_false rfl rfl) ?_
        refine jm rfl ?_
        refine RG.S0 (LT.run rfl rfl rfl (ru_fieldAddr rfl rfl)) ?_
        refine RG.S0 (LT.run rfl rfl rfl (ru_load1 rfl rfl rfl)) ?_
        refine RG.S0 (LT.run rfl rfl rfl (rt_bin_to rfl rfl (fun w => run_remi w _ _ _ _ _ _ (by first | decide | omega | assumption)) (vint em))) ?_
        refine RG.S0 (LT.run rfl rfl rfl (rt_bin_to rfl rfl (fun w => run_eqi w _ _ _ _ _ _) (vbool (beqT (by first | assumption | omega))))) ?_
        refine RG.S0 (LT.run rfl rfl rfl (rt_move rfl)) ?_
        refine RG.S0 (LT.run rfl rfl rfl (ru_fieldAddr rfl rfl)) ?_
        refine RG.S0 (LT.run rfl rfl rfl (ru_load1 rfl rfl rfl)) ?_
        refine RG.S0 (LT.run rfl rfl rfl (rt_bin_to rfl rfl (fun w => run_nei w _ _ _ _ _ _) (vbool (bneT (by first | assumption | omega))))) ?_
        refine RG.S0 (LT.run rfl rfl rfl (rt_pick_true rfl rfl)) ?_
        refine RG.S0 (LT.run rfl rfl rfl (rt_move rfl)) ?_
        refine RG.S0 (LT.run rfl rfl rfl (ru_fieldAddr rfl rfl)) ?_
        refine RG.S0 (LT.run rfl rfl rfl (ru_load1 rfl rfl rfl)) ?_
        refine RG.S0 (LT.run rfl rfl rfl (rt_bin_to rfl rfl (fun w => run_nei w _ _ _ _ _ _) (vbool (bneF (by first | assumption | omega))))) ?_
        refine RG.S0 (LT.run rfl rfl rfl (rt_pick_true rfl rfl)) ?_
        refine jS (rt_pick_false rfl rfl) ?_
        refine jm rfl ?_
        refine RG.S0 (LT.run rfl rfl rfl (ru_fieldAddr rfl rfl)) ?_
        refine RG.S0 (LT.run rfl rfl rfl (ru_load1 rfl rfl rfl)) ?_
        refine RG.S0 (LT.run rfl rfl rfl (rt_bin_to rfl rfl (fun w => run_eqi w _ _ _ _ _ _) (vbool (beqT (by first | assumption | omega))))) ?_
        refine RG.S0 (LT.run rfl rfl rfl (rt_move rfl)) ?_
        refine RG.S0 (LT.run rfl rfl rfl (ru_fieldAddr rfl rfl)) ?_
        refine RG.S0 (LT.run rfl rfl rfl (ru_load1 rfl rfl rfl)) ?_
        refine RG.S0 (LT.run rfl rfl rfl (rt_bin_to rfl rfl (fun w => run_eqi w _ _ _ _ _ _) (vbool (beqT (by first | assumption | omega))))) ?_
        refine RG.S0 (LT.run rfl rfl rfl (rt_pick_true rfl rfl)) ?_
        refine jS (rt_pick_false rfl rfl) ?_
        refine RG.nil (by kernel_rfl) ?_
        repeat (first | refine js ?_ | refine jb ?_)
        refine WpD.condT rfl ?_
        repeat (first | refine js ?_ | refine jb ?_)
        refine jr ?_
        refine jS (ru_build (ps := []) trivial rfl) ?_
        refine jO (ru_storeR rfl rfl rfl rfl rfl rfl) ?_
        refine ja rfl ?_
        refine RG.nil (by kernel_rfl) ?_
        repeat (first | refine js ?_ | refine jb ?_)
        refine WpD.ret ?_
        exact ret2 rfl (.cell rfl rfl CRow.ok rfl) (.tmp rfl) (PLe.refl _)
      · have A3 := rfactor En p c n p1 p2 (by omega) (by omega) (by omega)
        rw [Int.toNat_natCast]
        rw [if_pos (by rw [decide_eq_true_eq]; omega)]
        refine fn_of_body Tryz.func12 rfl Tryz.ntmps12 rfl ?_
        intro w0 h0
        repeat (first | refine js ?_ | refine jb ?_)
        refine jr ?_
        refine jT (ru_boxR rfl rfl rfl) ?_
        refine jT (ru_alloc rfl rfl rfl) ?_
        refine ja rfl ?_
        refine RG.nil (by kernel_rfl) ?_
        repeat (first | refine js ?_ | refine jb ?_)
        refine jr ?_
        refine jm rfl ?_
        refine jS (ru_call A1 ⟨rfl, trivial⟩) ?_
        refine jS (rt_un rfl (fun w => run_not w _)) ?_
        refine RG.nil (by kernel_rfl) ?_
        repeat (first | refine js ?_ | refine jb ?_)
        refine WpD.condF rfl ?_
        repeat (first | refine js ?_ | refine jb ?_)
        refine WpD.skip ?_
        repeat (first | refine js ?_ | refine jb ?_)
        refine jr ?_
        refine jS (ru_fieldAddr rfl rfl) ?_
        refine jS (ru_load1 rfl rfl rfl) ?_
        refine jS (rt_bin_to rfl rfl (fun w => run_lti w _ _ _ _ _ _) (vbool (decide_eq_false (by first | assumption | omega)))) ?_
        refine jm rfl ?_
        refine RG.S0 (LT.run rfl rfl rfl (ru_fieldAddr rfl rfl)) ?_
        refine RG.S0 (LT.run rfl rfl rfl (ru_load1 rfl rfl rfl)) ?_
        refine RG.S0 (LT.run rfl rfl rfl (rt_bin_to rfl rfl (fun w => run_gti w _ _ _ _ _ _) (vbool (decide_eq_false (by first | assumption | omega))))) ?_
        refine jS (rt_pick_false rfl rfl) ?_
        refine jm rfl ?_
        refine RG.S0 (LT.run rfl rfl rfl (ru_fieldAddr rfl rfl)) ?_
        refine RG.S0 (LT.run rfl rfl rfl (ru_load1 rfl rfl rfl)) ?_
        refine RG.S0 (LT.run rfl rfl rfl (rt_bin_to rfl rfl (fun w => run_remi w _ _ _ _ _ _ (by first | decide | omega | assumption)) (vint em))) ?_
        refine RG.S0 (LT.run rfl rfl rfl (rt_bin_to rfl rfl (fun w => run_eqi w _ _ _ _ _ _) (vbool (beqF (by first | assumption | omega))))) ?_
        refine RG.S0 (LT.run rfl rfl rfl (rt_move rfl)) ?_
        refine RG.S0 (LT.skip rfl rfl rfl) ?_
        refine RG.S0 (LT.skip rfl rfl rfl) ?_
        refine RG.S0 (LT.skip rfl rfl rfl) ?_
        refine RG.S0 (LT.run rfl rfl rfl (rt_pick_false rfl rfl)) ?_
        refine jS (rt_pick_false rfl rfl) ?_
        refine jm rfl ?_
        refine RG.S0 (LT.run rfl rfl rfl (ru_fieldAddr rfl rfl)) ?_
        refine RG.S0 (LT.run rfl rfl rfl (ru_load1 rfl rfl rfl)) ?_
        refine RG.S0 (LT.run rfl rfl rfl (rt_bin_to rfl rfl (fun w => run_remi w _ _ _ _ _ _ (by first | decide | omega | assumption)) (vint em))) ?_
        refine RG.S0 (LT.run rfl rfl rfl (rt_bin_to rfl rfl (fun w => run_eqi w _ _ _ _ _ _) (vbool (beqT (by first | assumption | omega))))) ?_
        refine RG.S0 (LT.run rfl rfl rfl (rt_move rfl)) ?_
        refine RG.S0 (LT.run rfl rfl rfl (ru_fieldAddr rfl rfl)) ?_
        refine RG.S0 (LT.run rfl rfl rfl (ru_load1 rfl rfl rfl)) ?_
        refine RG.S0 (LT.run rfl rfl rfl (rt_bin_to rfl rfl (fun w => run_nei w _ _ _ _ _ _) (vbool (bneT (by first | assumption | omega))))) ?_
        refine RG.S0 (LT.run rfl rfl rfl (rt_pick_true rfl rfl)) ?_
        refine RG.S0 (LT.run rfl rfl rfl (rt_move rfl)) ?_
        refine RG.S0 (LT.run rfl rfl rfl (ru_fieldAddr rfl rfl)) ?_
        refine RG.S0 (LT.run rfl rfl rfl (ru_load1 rfl rfl rfl)) ?_
        refine RG.S0 (LT.run rfl rfl rfl (rt_bin_to rfl rfl (fun w => run_nei w _ _ _ _ _ _) (vbool (bneF (by first | assumption | omega))))) ?_
        refine RG.S0 (LT.run rfl rfl rfl (rt_pick_true rfl rfl)) ?_
        refine jS (rt_pick_false rfl rfl) ?_
        refine jm rfl ?_
        refine RG.S0 (LT.run rfl rfl rfl (ru_fieldAddr rfl rfl)) ?_
        refine RG.S0 (LT.run rfl rfl rfl (ru_load1 rfl rfl rfl)) ?_
        refine RG.S0 (LT.run rfl rfl rfl (rt_bin_to rfl rfl (fun w => run_eqi w _ _ _ _ _ _) (vbool (beqF (by first | assumption | omega))))) ?_
        refine RG.S0 (LT.run rfl rfl rfl (rt_move rfl)) ?_
        refine RG.S0 (LT.skip rfl rfl rfl) ?_
        refine RG.S0 (LT.skip rfl rfl rfl) ?_
        refine RG.S0 (LT.skip rfl rfl rfl) ?_
        refine RG.S0 (LT.run rfl rfl rfl (rt_pick_false rfl rfl)) ?_
        refine jS (rt_pick_false rfl rfl) ?_
        refine RG.nil (by kernel_rfl) ?_
        repeat (first | refine js ?_ | refine jb ?_)
        refine WpD.condF rfl ?_
        repeat (first | refine js ?_ | refine jb ?_)
        refine WpD.skip ?_
        repeat (first | refine js ?_ | refine jb ?_)
        refine jr ?_
        refine jm rfl ?_
        refine jS (ru_loadR rfl rfl rfl rfl) ?_
        refine jS (ru_call A3 ⟨rfl, rfl, trivial⟩) ?_
        refine jO (ru_storeR rfl rfl rfl rfl rfl rfl) ?_
        refine ja rfl ?_
        refine RG.nil (by kernel_rfl) ?_
        repeat (first | refine js ?_ | refine jb ?_)
        refine WpD.ret ?_
        exact ret2 rfl (.cell rfl rfl CRow.ok rfl) (.tmp rfl) (PLe.refl _)
    · rw [if_neg (by rw [decide_eq_true_eq]; omega)]
      refine fn_of_body Tryz.func12 rfl Tryz.ntmps12 rfl ?_
      intro w0 h0
      repeat (first | refine js ?_ | refine jb ?_)
      refine jr ?_
      refine jT (ru_boxR rfl rfl rfl) ?_
      refine jT (ru_alloc rfl rfl rfl) ?_
      refine ja rfl ?_
      refine RG.nil (by kernel_rfl) ?_
      repeat (first | refine js ?_ | refine jb ?_)
      refine jr ?_
      refine jm rfl ?_
      refine jS (ru_call A1 ⟨rfl, trivial⟩) ?_
      refine jS (rt_un rfl (fun w => run_not w _)) ?_
      refine RG.nil (by kernel_rfl) ?_
      repeat (first | refine js ?_ | refine jb ?_)
      refine WpD.condF rfl ?_
      repeat (first | refine js ?_ | refine jb ?_)
      refine WpD.skip ?_
      repeat (first | refine js ?_ | refine jb ?_)
      refine jr ?_
      refine jS (ru_fieldAddr rfl rfl) ?_
      refine jS (ru_load1 rfl rfl rfl) ?_
      refine jS (rt_bin_to rfl rfl (fun w => run_lti w _ _ _ _ _ _) (vbool (decide_eq_false (by first | assumption | omega)))) ?_
      refine jm rfl ?_
      refine RG.S0 (LT.run rfl rfl rfl (ru_fieldAddr rfl rfl)) ?_
      refine RG.S0 (LT.run rfl rfl rfl (ru_load1 rfl rfl rfl)) ?_
      refine RG.S0 (LT.run rfl rfl rfl (rt_bin_to rfl rfl (fun w => run_gti w _ _ _ _ _ _) (vbool (decide_eq_false (by first | assumption | omega))))) ?_
      refine jS (rt_pick_false rfl rfl) ?_
      refine jm rfl ?_
      refine RG.S0 (LT.run rfl rfl rfl (ru_fieldAddr rfl rfl)) ?_
      refine RG.S0 (LT.run rfl rfl rfl (ru_load1 rfl rfl rfl)) ?_
      refine RG.S0 (LT.run rfl rfl rfl (rt_bin_to rfl rfl (fun w => run_remi w _ _ _ _ _ _ (by first | decide | omega | assumption)) (vint em))) ?_
      refine RG.S0 (LT.run rfl rfl rfl (rt_bin_to rfl rfl (fun w => run_eqi w _ _ _ _ _ _) (vbool (beqF (by first | assumption | omega))))) ?_
      refine RG.S0 (LT.run rfl rfl rfl (rt_move rfl)) ?_
      refine RG.S0 (LT.skip rfl rfl rfl) ?_
      refine RG.S0 (LT.skip rfl rfl rfl) ?_
      refine RG.S0 (LT.skip rfl rfl rfl) ?_
      refine RG.S0 (LT.run rfl rfl rfl (rt_pick_false rfl rfl)) ?_
      refine jS (rt_pick_false rfl rfl) ?_
      refine jm rfl ?_
      refine RG.S0 (LT.run rfl rfl rfl (ru_fieldAddr rfl rfl)) ?_
      refine RG.S0 (LT.run rfl rfl rfl (ru_load1 rfl rfl rfl)) ?_
      refine RG.S0 (LT.run rfl rfl rfl (rt_bin_to rfl rfl (fun w => run_remi w _ _ _ _ _ _ (by first | decide | omega | assumption)) (vint em))) ?_
      refine RG.S0 (LT.run rfl rfl rfl (rt_bin_to rfl rfl (fun w => run_eqi w _ _ _ _ _ _) (vbool (beqT (by first | assumption | omega))))) ?_
      refine RG.S0 (LT.run rfl rfl rfl (rt_move rfl)) ?_
      refine RG.S0 (LT.run rfl rfl rfl (ru_fieldAddr rfl rfl)) ?_
      refine RG.S0 (LT.run rfl rfl rfl (ru_load1 rfl rfl rfl)) ?_
      refine RG.S0 (LT.run rfl rfl rfl (rt_bin_to rfl rfl (fun w => run_nei w _ _ _ _ _ _) (vbool (bneT (by first | assumption | omega))))) ?_
      refine RG.S0 (LT.run rfl rfl rfl (rt_pick_true rfl rfl)) ?_
      refine RG.S0 (LT.run rfl rfl rfl (rt_move rfl)) ?_
      refine RG.S0 (LT.run rfl rfl rfl (ru_fieldAddr rfl rfl)) ?_
      refine RG.S0 (LT.run rfl rfl rfl (ru_load1 rfl rfl rfl)) ?_
      refine RG.S0 (LT.run rfl rfl rfl (rt_bin_to rfl rfl (fun w => run_nei w _ _ _ _ _ _) (vbool (bneT (by first | assumption | omega))))) ?_
      refine RG.S0 (LT.run rfl rfl rfl (rt_pick_true rfl rfl)) ?_
      refine jS (rt_pick_false rfl rfl) ?_
      refine jm rfl ?_
      refine RG.S0 (LT.skip rfl rfl rfl) ?_
      refine RG.S0 (LT.skip rfl rfl rfl) ?_
      refine RG.S0 (LT.skip rfl rfl rfl) ?_
      refine RG.S0 (LT.skip rfl rfl rfl) ?_
      refine RG.S0 (LT.skipU rfl rfl rfl) ?_
      refine RG.S0 (LT.skipU rfl rfl rfl) ?_
      refine RG.S0 (LT.skipU rfl rfl rfl) ?_
      refine RG.S0 (LT.skip rfl rfl rfl) ?_
      refine jS (rt_pick_true rfl rfl) ?_
      refine RG.nil (by kernel_rfl) ?_
      repeat (first | refine js ?_ | refine jb ?_)
      refine WpD.condT rfl ?_
      repeat (first | refine js ?_ | refine jb ?_)
      refine jr ?_
      refine jS (ru_build (ps := []) trivial rfl) ?_
      refine jO (ru_storeR rfl rfl rfl rfl rfl rfl) ?_
      refine ja rfl ?_
      refine RG.nil (by kernel_rfl) ?_
      repeat (first | refine js ?_ | refine jb ?_)
      refine WpD.ret ?_
      exact ret2 rfl (.cell rfl rfl CRow.ok rfl) (.tmp rfl) (PLe.refl _)
end
end Go.Proofs.YtpiflllcjgpkhaaGreatDoor

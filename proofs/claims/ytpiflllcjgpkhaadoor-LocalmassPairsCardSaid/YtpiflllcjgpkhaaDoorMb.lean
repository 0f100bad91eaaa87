/- Diagonal and Standard: the program's and the reference's. (With LT.skipU.) -/
import Derived.Test.YtpiflllcjgpkhaaDoorMa
import Derived.Test.YtpiflllcjgpkhaaDoorMs
set_option maxRecDepth 3000
namespace Go.Proofs.YtpiflllcjgpkhaaDoor
open Go.RowKit Limb Num
instance cbody19 : CBody Tryd.prog 19 := ⟨⟨_, Tryd.func19, rfl, by rfl⟩⟩
/-- A prime number up to 9973. -/
def smP (p : Int) : Bool := decide (p ≤ 9973) && isP p.toNat
/-- A species that is possible. -/
def psb (d c : Int) : Bool := decide (0 ≤ d ∧ d ≤ 9 ∧ ((d % 2 = 1 ∧ c = 0) ∨ (d = 0 ∧ c = 1) ∨ (d % 2 = 0 ∧ d ≠ 0 ∧ (c = 1 ∨ c = -1))))
theorem smP_bd {p : Int} (h : smP p = true) : 2 ≤ p ∧ p ≤ 9973 ∧ isP p.toNat = true := by
  unfold smP at h
  rw [Bool.and_eq_true] at h
  obtain ⟨h1, h2⟩ := h
  have h1 := of_decide_eq_true h1
  refine ⟨?_, h1, h2⟩
  unfold isP at h2
  rw [Bool.and_eq_true, Bool.and_eq_true] at h2
  have := of_decide_eq_true h2.1.1
  omega
/-- The Rat that is all zeros. -/
def zero4 : Pd := aggP [ex (.bool false), ex (.slice none 0 0), ex (.bool false), ex (.slice none 0 0)]
section
variable (En : Ev)
theorem mpossible (d c : Int) : Fn Tryd.prog En 10 [aggP [ex (.int .i64 d), ex (.int .i64 c)]] (ex (.bool (psb d c))) := by
  unfold psb
  by_cases h1 : d < 0
  · rw [decide_eq_false (by omega)]
    refine fn_of_body Tryd.func10 rfl Tryd.ntmps10 rfl ?_
    intro w0 h0
    repeat (first | refine js ?_ | refine jb ?_)
    refine jr ?_
    refine jT (ru_boxR rfl rfl rfl) ?_
    refine ja rfl ?_
    refine RG.nil (by kernel_rfl) ?_
    repeat (first | refine js ?_ | refine jb ?_)
    refine jr ?_
    refine jS (ru_fieldAddr rfl rfl) ?_
    refine jS (ru_load1 rfl rfl rfl) ?_
    refine jS (rt_bin_to rfl rfl (fun w => run_lti w _ _ _ _ _ _) (vbool (decide_eq_true (by first | assumption | omega)))) ?_
    refine jm rfl ?_
    refine RG.S0 (LT.skip rfl rfl rfl) ?_
    refine RG.S0 (LT.skip rfl rfl rfl) ?_
    refine RG.S0 (LT.skip rfl rfl rfl) ?_
    refine jS (rt_pick_true rfl rfl) ?_
    refine ja rfl ?_
    refine RG.nil (by kernel_rfl) ?_
    repeat (first | refine js ?_ | refine jb ?_)
    refine WpD.condT rfl ?_
    repeat (first | refine js ?_ | refine jb ?_)
    refine jr ?_
    refine ja rfl ?_
    refine RG.nil (by kernel_rfl) ?_
    repeat (first | refine js ?_ | refine jb ?_)
    refine WpD.ret ?_
    exact ret1 rfl (.tmp rfl) (PLe.refl _)
  by_cases h2 : d > 9
  · rw [decide_eq_false (by omega)]
    refine fn_of_body Tryd.func10 rfl Tryd.ntmps10 rfl ?_
    intro w0 h0
    repeat (first | refine js ?_ | refine jb ?_)
    refine jr ?_
    refine jT (ru_boxR rfl rfl rfl) ?_
    refine ja rfl ?_
    refine RG.nil (by kernel_rfl) ?_
    repeat (first | refine js ?_ | refine jb ?_)
    refine jr ?_
    refine jS (ru_fieldAddr rfl rfl) ?_
    refine jS (ru_load1 rfl rfl rfl) ?_
    refine jS (rt_bin_to rfl rfl (fun w => run_lti w _ _ _ _ _ _) (vbool (decide_eq_false (by first | assumption | omega)))) ?_
    refine jm rfl ?_
    refine RG.S0 (LT.run rfl rfl rfl (ru_fieldAddr rfl rfl)) ?_
    refine RG.S0 (LT.run rfl rfl rfl (ru_load1 rfl rfl rfl)) ?_
    refine RG.S0 (LT.run rfl rfl rfl (rt_bin_to rfl rfl (fun w => run_gti w _ _ _ _ _ _) (vbool (decide_eq_true (by first | assumption | omega))))) ?_
    refine jS (rt_pick_false rfl rfl) ?_
    refine ja rfl ?_
    refine RG.nil (by kernel_rfl) ?_
    repeat (first | refine js ?_ | refine jb ?_)
    refine WpD.condT rfl ?_
    repeat (first | refine js ?_ | refine jb ?_)
    refine jr ?_
    refine ja rfl ?_
    refine RG.nil (by kernel_rfl) ?_
    repeat (first | refine js ?_ | refine jb ?_)
    refine WpD.ret ?_
    exact ret1 rfl (.tmp rfl) (PLe.refl _)
  have em : d.tmod 2 = d % 2 := Int.tmod_eq_emod_of_nonneg (by omega)
  by_cases h3 : d % 2 = 1
  · by_cases h4 : c = 0
    · rw [decide_eq_true (by omega)]
      refine fn_of_body Tryd.func10 rfl Tryd.ntmps10 rfl ?_
      intro w0 h0
      repeat (first | refine js ?_ | refine jb ?_)
      refine jr ?_
      refine jT (ru_boxR rfl rfl rfl) ?_
      refine ja rfl ?_
      refine RG.nil (by kernel_rfl) ?_
      repeat (first | refine js ?_ | refine jb ?_)
      refine jr ?_
      refine jS (ru_fieldAddr rfl rfl) ?_
      refine jS (ru_load1 rfl rfl rfl) ?_
      refine jS (rt_bin_to rfl rfl (fun w => run_lti w _ _ _ _ _ _) (vbool (decide_eq_false (by first | assumption | omega)))) ?_
      refine jm rfl ?_
      refine RG.S0 (LT.run rfl rfl rfl (ru_fieldAddr rfl rfl)) ?_
      refine RG.S0 (LT.run rfl rfl rfl (ru_load1 rfl rfl rfl)) ?_
      refine RG.S0 (LT.run rfl rfl rfl (rt_bin_to rfl rfl (fun w => run_gti w _ _ _ _ _ _) (vbool (decide_eq_false (by first | assumption | omega))))) ?_
      refine jS (rt_pick_false rfl rfl) ?_
      refine ja rfl ?_
      refine RG.nil (by kernel_rfl) ?_
      repeat (first | refine js ?_ | refine jb ?_)
      refine WpD.condF rfl ?_
      repeat (first | refine js ?_ | refine jb ?_)
      refine jr ?_
      refine jS (ru_fieldAddr rfl rfl) ?_
      refine jS (ru_load1 rfl rfl rfl) ?_
      refine jS (rt_bin_to rfl rfl (fun w => run_remi w _ _ _ _ _ _ (by first | decide | omega | assumption)) (vint em)) ?_
      refine jS (rt_bin_to rfl rfl (fun w => run_eqi w _ _ _ _ _ _) (vbool (beqT (by first | assumption | omega)))) ?_
      refine ja rfl ?_
      refine RG.nil (by kernel_rfl) ?_
      repeat (first | refine js ?_ | refine jb ?_)
      refine WpD.condT rfl ?_
      repeat (first | refine js ?_ | refine jb ?_)
      refine jr ?_
      refine jS (ru_fieldAddr rfl rfl) ?_
      refine jS (ru_load1 rfl rfl rfl) ?_
      refine jS (rt_bin_to rfl rfl (fun w => run_eqi w _ _ _ _ _ _) (vbool (beqT (by first | assumption | omega)))) ?_
      refine ja rfl ?_
      refine RG.nil (by kernel_rfl) ?_
      repeat (first | refine js ?_ | refine jb ?_)
      refine WpD.ret ?_
      exact ret1 rfl (.tmp rfl) (PLe.refl _)
    · rw [decide_eq_false (by omega)]
      refine fn_of_body Tryd.func10 rfl Tryd.ntmps10 rfl ?_
      intro w0 h0
      repeat (first | refine js ?_ | refine jb ?_)
      refine jr ?_
      refine jT (ru_boxR rfl rfl rfl) ?_
      refine ja rfl ?_
      refine RG.nil (by kernel_rfl) ?_
      repeat (first | refine js ?_ | refine jb ?_)
      refine jr ?_
      refine jS (ru_fieldAddr rfl rfl) ?_
      refine jS (ru_load1 rfl rfl rfl) ?_
      refine jS (rt_bin_to rfl rfl (fun w => run_lti w _ _ _ _ _ _) (vbool (decide_eq_false (by first | assumption | omega)))) ?_
      refine jm rfl ?_
      refine RG.S0 (LT.run rfl rfl rfl (ru_fieldAddr rfl rfl)) ?_
      refine RG.S0 (LT.run rfl rfl rfl (ru_load1 rfl rfl rfl)) ?_
      refine RG.S0 (LT.run rfl rfl rfl (rt_bin_to rfl rfl (fun w => run_gti w _ _ _ _ _ _) (vbool (decide_eq_false (by first | assumption | omega))))) ?_
      refine jS (rt_pick_false rfl rfl) ?_
      refine ja rfl ?_
      refine RG.nil (by kernel_rfl) ?_
      repeat (first | refine js ?_ | refine jb ?_)
      refine WpD.condF rfl ?_
      repeat (first | refine js ?_ | refine jb ?_)
      refine jr ?_
      refine jS (ru_fieldAddr rfl rfl) ?_
      refine jS (ru_load1 rfl rfl rfl) ?_
      refine jS (rt_bin_to rfl rfl (fun w => run_remi w _ _ _ _ _ _ (by first | decide | omega | assumption)) (vint em)) ?_
      refine jS (rt_bin_to rfl rfl (fun w => run_eqi w _ _ _ _ _ _) (vbool (beqT (by first | assumption | omega)))) ?_
      refine ja rfl ?_
      refine RG.nil (by kernel_rfl) ?_
      repeat (first | refine js ?_ | refine jb ?_)
      refine WpD.condT rfl ?_
      repeat (first | refine js ?_ | refine jb ?_)
      refine jr ?_
      refine jS (ru_fieldAddr rfl rfl) ?_
      refine jS (ru_load1 rfl rfl rfl) ?_
      refine jS (rt_bin_to rfl rfl (fun w => run_eqi w _ _ _ _ _ _) (vbool (beqF (by first | assumption | omega)))) ?_
      refine ja rfl ?_
      refine RG.nil (by kernel_rfl) ?_
      repeat (first | refine js ?_ | refine jb ?_)
      refine WpD.ret ?_
      exact ret1 rfl (.tmp rfl) (PLe.refl _)
  by_cases h5 : d = 0
  · by_cases h4 : c = 1
    · rw [decide_eq_true (by omega)]
      refine fn_of_body Tryd.func10 rfl Tryd.ntmps10 rfl ?_
      intro w0 h0
      repeat (first | refine js ?_ | refine jb ?_)
      refine jr ?_
      refine jT (ru_boxR rfl rfl rfl) ?_
      refine ja rfl ?_
      refine RG.nil (by kernel_rfl) ?_
      repeat (first | refine js ?_ | refine jb ?_)
      refine jr ?_
      refine jS (ru_fieldAddr rfl rfl) ?_
      refine jS (ru_load1 rfl rfl rfl) ?_
      refine jS (rt_bin_to rfl rfl (fun w => run_lti w _ _ _ _ _ _) (vbool (decide_eq_false (by first | assumption | omega)))) ?_
      refine jm rfl ?_
      refine RG.S0 (LT.run rfl rfl rfl (ru_fieldAddr rfl rfl)) ?_
      refine RG.S0 (LT.run rfl rfl rfl (ru_load1 rfl rfl rfl)) ?_
      refine RG.S0 (LT.run rfl rfl rfl (rt_bin_to rfl rfl (fun w => run_gti w _ _ _ _ _ _) (vbool (decide_eq_false (by first | assumption | omega))))) ?_
      refine jS (rt_pick_false rfl rfl) ?_
      refine ja rfl ?_
      refine RG.nil (by kernel_rfl) ?_
      repeat (first | refine js ?_ | refine jb ?_)
      refine WpD.condF rfl ?_
      repeat (first | refine js ?_ | refine jb ?_)
      refine jr ?_
      refine jS (ru_fieldAddr rfl rfl) ?_
      refine jS (ru_load1 rfl rfl rfl) ?_
      refine jS (rt_bin_to rfl rfl (fun w => run_remi w _ _ _ _ _ _ (by first | decide | omega | assumption)) (vint em)) ?_
      refine jS (rt_bin_to rfl rfl (fun w => run_eqi w _ _ _ _ _ _) (vbool (beqF (by first | assumption | omega)))) ?_
      refine ja rfl ?_
      refine RG.nil (by kernel_rfl) ?_
      repeat (first | refine js ?_ | refine jb ?_)
      refine WpD.condF rfl ?_
      repeat (first | refine js ?_ | refine jb ?_)
      refine jr ?_
      refine jS (ru_fieldAddr rfl rfl) ?_
      refine jS (ru_load1 rfl rfl rfl) ?_
      refine jS (rt_bin_to rfl rfl (fun w => run_eqi w _ _ _ _ _ _) (vbool (beqT (by first | assumption | omega)))) ?_
      refine ja rfl ?_
      refine RG.nil (by kernel_rfl) ?_
      repeat (first | refine js ?_ | refine jb ?_)
      refine WpD.condT rfl ?_
      repeat (first | refine js ?_ | refine jb ?_)
      refine jr ?_
      refine jS (ru_fieldAddr rfl rfl) ?_
      refine jS (ru_load1 rfl rfl rfl) ?_
      refine jS (rt_bin_to rfl rfl (fun w => run_eqi w _ _ _ _ _ _) (vbool (beqT (by first | assumption | omega)))) ?_
      refine ja rfl ?_
      refine RG.nil (by kernel_rfl) ?_
      repeat (first | refine js ?_ | refine jb ?_)
      refine WpD.ret ?_
      exact ret1 rfl (.tmp rfl) (PLe.refl _)
    · rw [decide_eq_false (by omega)]
      refine fn_of_body Tryd.func10 rfl Tryd.ntmps10 rfl ?_
      intro w0 h0
      repeat (first | refine js ?_ | refine jb ?_)
      refine jr ?_
      refine jT (ru_boxR rfl rfl rfl) ?_
      refine ja rfl ?_
      refine RG.nil (by kernel_rfl) ?_
      repeat (first | refine js ?_ | refine jb ?_)
      refine jr ?_
      refine jS (ru_fieldAddr rfl rfl) ?_
      refine jS (ru_load1 rfl rfl rfl) ?_
      refine jS (rt_bin_to rfl rfl (fun w => run_lti w _ _ _ _ _ _) (vbool (decide_eq_false (by first | assumption | omega)))) ?_
      refine jm rfl ?_
      refine RG.S0 (LT.run rfl rfl rfl (ru_fieldAddr rfl rfl)) ?_
      refine RG.S0 (LT.run rfl rfl rfl (ru_load1 rfl rfl rfl)) ?_
      refine RG.S0 (LT.run rfl rfl rfl (rt_bin_to rfl rfl (fun w => run_gti w _ _ _ _ _ _) (vbool (decide_eq_false (by first | assumption | omega))))) ?_
      refine jS (rt_pick_false rfl rfl) ?_
      refine ja rfl ?_
      refine RG.nil (by kernel_rfl) ?_
      repeat (first | refine js ?_ | refine jb ?_)
      refine WpD.condF rfl ?_
      repeat (first | refine js ?_ | refine jb ?_)
      refine jr ?_
      refine jS (ru_fieldAddr rfl rfl) ?_
      refine jS (ru_load1 rfl rfl rfl) ?_
      refine jS (rt_bin_to rfl rfl (fun w => run_remi w _ _ _ _ _ _ (by first | decide | omega | assumption)) (vint em)) ?_
      refine jS (rt_bin_to rfl rfl (fun w => run_eqi w _ _ _ _ _ _) (vbool (beqF (by first | assumption | omega)))) ?_
      refine ja rfl ?_
      refine RG.nil (by kernel_rfl) ?_
      repeat (first | refine js ?_ | refine jb ?_)
      refine WpD.condF rfl ?_
      repeat (first | refine js ?_ | refine jb ?_)
      refine jr ?_
      refine jS (ru_fieldAddr rfl rfl) ?_
      refine jS (ru_load1 rfl rfl rfl) ?_
      refine jS (rt_bin_to rfl rfl (fun w => run_eqi w _ _ _ _ _ _) (vbool (beqT (by first | assumption | omega)))) ?_
      refine ja rfl ?_
      refine RG.nil (by kernel_rfl) ?_
      repeat (first | refine js ?_ | refine jb ?_)
      refine WpD.condT rfl ?_
      repeat (first | refine js ?_ | refine jb ?_)
      refine jr ?_
      refine jS (ru_fieldAddr rfl rfl) ?_
      refine jS (ru_load1 rfl rfl rfl) ?_
      refine jS (rt_bin_to rfl rfl (fun w => run_eqi w _ _ _ _ _ _) (vbool (beqF (by first | assumption | omega)))) ?_
      refine ja rfl ?_
      refine RG.nil (by kernel_rfl) ?_
      repeat (first | refine js ?_ | refine jb ?_)
      refine WpD.ret ?_
      exact ret1 rfl (.tmp rfl) (PLe.refl _)
  by_cases h4 : c = 1
  · rw [decide_eq_true (by omega)]
    refine fn_of_body Tryd.func10 rfl Tryd.ntmps10 rfl ?_
    intro w0 h0
    repeat (first | refine js ?_ | refine jb ?_)
    refine jr ?_
    refine jT (ru_boxR rfl rfl rfl) ?_
    refine ja rfl ?_
    refine RG.nil (by kernel_rfl) ?_
    repeat (first | refine js ?_ | refine jb ?_)
    refine jr ?_
    refine jS (ru_fieldAddr rfl rfl) ?_
    refine jS (ru_load1 rfl rfl rfl) ?_
    refine jS (rt_bin_to rfl rfl (fun w => run_lti w _ _ _ _ _ _) (vbool (decide_eq_false (by first | assumption | omega)))) ?_
    refine jm rfl ?_
    refine RG.S0 (LT.run rfl rfl rfl (ru_fieldAddr rfl rfl)) ?_
    refine RG.S0 (LT.run rfl rfl rfl (ru_load1 rfl rfl rfl)) ?_
    refine RG.S0 (LT.run rfl rfl rfl (rt_bin_to rfl rfl (fun w => run_gti w _ _ _ _ _ _) (vbool (decide_eq_false (by first | assumption | omega))))) ?_
    refine jS (rt_pick_false rfl rfl) ?_
    refine ja rfl ?_
    refine RG.nil (by kernel_rfl) ?_
    repeat (first | refine js ?_ | refine jb ?_)
    refine WpD.condF rfl ?_
    repeat (first | refine js ?_ | refine jb ?_)
    refine jr ?_
    refine jS (ru_fieldAddr rfl rfl) ?_
    refine jS (ru_load1 rfl rfl rfl) ?_
    refine jS (rt_bin_to rfl rfl (fun w => run_remi w _ _ _ _ _ _ (by first | decide | omega | assumption)) (vint em)) ?_
    refine jS (rt_bin_to rfl rfl (fun w => run_eqi w _ _ _ _ _ _) (vbool (beqF (by first | assumption | omega)))) ?_
    refine ja rfl ?_
    refine RG.nil (by kernel_rfl) ?_
    repeat (first | refine js ?_ | refine jb ?_)
    refine WpD.condF rfl ?_
    repeat (first | refine js ?_ | refine jb ?_)
    refine jr ?_
    refine jS (ru_fieldAddr rfl rfl) ?_
    refine jS (ru_load1 rfl rfl rfl) ?_
    refine jS (rt_bin_to rfl rfl (fun w => run_eqi w _ _ _ _ _ _) (vbool (beqF (by first | assumption | omega)))) ?_
    refine ja rfl ?_
    refine RG.nil (by kernel_rfl) ?_
    repeat (first | refine js ?_ | refine jb ?_)
    refine WpD.condF rfl ?_
    repeat (first | refine js ?_ | refine jb ?_)
    refine WpD.skip ?_
    repeat (first | refine js ?_ | refine jb ?_)
    refine jr ?_
    refine jS (ru_fieldAddr rfl rfl) ?_
    refine jS (ru_load1 rfl rfl rfl) ?_
    refine jS (rt_bin_to rfl rfl (fun w => run_eqi w _ _ _ _ _ _) (vbool (beqT (by first | assumption | omega)))) ?_
    refine jm rfl ?_
    refine RG.S0 (LT.skip rfl rfl rfl) ?_
    refine RG.S0 (LT.skip rfl rfl rfl) ?_
    refine RG.S0 (LT.skip rfl rfl rfl) ?_
    refine jS (rt_pick_true rfl rfl) ?_
    refine ja rfl ?_
    refine RG.nil (by kernel_rfl) ?_
    repeat (first | refine js ?_ | refine jb ?_)
    refine WpD.ret ?_
    exact ret1 rfl (.tmp rfl) (PLe.refl _)
  by_cases h6 : c = -1
  · rw [decide_eq_true (by omega)]
    refine fn_of_body Tryd.func10 rfl Tryd.ntmps10 rfl ?_
    intro w0 h0
    repeat (first | refine js ?_ | refine jb ?_)
    refine jr ?_
    refine jT (ru_boxR rfl rfl rfl) ?_
    refine ja rfl ?_
    refine RG.nil (by kernel_rfl) ?_
    repeat (first | refine js ?_ | refine jb ?_)
    refine jr ?_
    refine jS (ru_fieldAddr rfl rfl) ?_
    refine jS (ru_load1 rfl rfl rfl) ?_
    refine jS (rt_bin_to rfl rfl (fun w => run_lti w _ _ _ _ _ _) (vbool (decide_eq_false (by first | assumption | omega)))) ?_
    refine jm rfl ?_
    refine RG.S0 (LT.run rfl rfl rfl (ru_fieldAddr rfl rfl)) ?_
    refine RG.S0 (LT.run rfl rfl rfl (ru_load1 rfl rfl rfl)) ?_
    refine RG.S0 (LT.run rfl rfl rfl (rt_bin_to rfl rfl (fun w => run_gti w _ _ _ _ _ _) (vbool (decide_eq_false (by first | assumption | omega))))) ?_
    refine jS (rt_pick_false rfl rfl) ?_
    refine ja rfl ?_
    refine RG.nil (by kernel_rfl) ?_
    repeat (first | refine js ?_ | refine jb ?_)
    refine WpD.condF rfl ?_
    repeat (first | refine js ?_ | refine jb ?_)
    refine jr ?_
    refine jS (ru_fieldAddr rfl rfl) ?_
    refine jS (ru_load1 rfl rfl rfl) ?_
    refine jS (rt_bin_to rfl rfl (fun w => run_remi w _ _ _ _ _ _ (by first | decide | omega | assumption)) (vint em)) ?_
    refine jS (rt_bin_to rfl rfl (fun w => run_eqi w _ _ _ _ _ _) (vbool (beqF (by first | assumption | omega)))) ?_
    refine ja rfl ?_
    refine RG.nil (by kernel_rfl) ?_
    repeat (first | refine js ?_ | refine jb ?_)
    refine WpD.condF rfl ?_
    repeat (first | refine js ?_ | refine jb ?_)
    refine jr ?_
    refine jS (ru_fieldAddr rfl rfl) ?_
    refine jS (ru_load1 rfl rfl rfl) ?_
    refine jS (rt_bin_to rfl rfl (fun w => run_eqi w _ _ _ _ _ _) (vbool (beqF (by first | assumption | omega)))) ?_
    refine ja rfl ?_
    refine RG.nil (by kernel_rfl) ?_
    repeat (first | refine js ?_ | refine jb ?_)
    refine WpD.condF rfl ?_
    repeat (first | refine js ?_ | refine jb ?_)
    refine WpD.skip ?_
    repeat (first | refine js ?_ | refine jb ?_)
    refine jr ?_
    refine jS (ru_fieldAddr rfl rfl) ?_
    refine jS (ru_load1 rfl rfl rfl) ?_
    refine jS (rt_bin_to rfl rfl (fun w => run_eqi w _ _ _ _ _ _) (vbool (beqF (by first | assumption | omega)))) ?_
    refine jm rfl ?_
    refine RG.S0 (LT.run rfl rfl rfl (ru_fieldAddr rfl rfl)) ?_
    refine RG.S0 (LT.run rfl rfl rfl (ru_load1 rfl rfl rfl)) ?_
    refine RG.S0 (LT.run rfl rfl rfl (rt_bin_to rfl rfl (fun w => run_eqi w _ _ _ _ _ _) (vbool (beqT (by first | assumption | omega))))) ?_
    refine jS (rt_pick_false rfl rfl) ?_
    refine ja rfl ?_
    refine RG.nil (by kernel_rfl) ?_
    repeat (first | refine js ?_ | refine jb ?_)
    refine WpD.ret ?_
    exact ret1 rfl (.tmp rfl) (PLe.refl _)
  · rw [decide_eq_false (by omega)]
    refine fn_of_body Tryd.func10 rfl Tryd.ntmps10 rfl ?_
    intro w0 h0
    repeat (first | refine js ?_ | refine jb ?_)
    refine jr ?_
    refine jT (ru_boxR rfl rfl rfl) ?_
    refine ja rfl ?_
    refine RG.nil (by kernel_rfl) ?_
    repeat (first | refine js ?_ | refine jb ?_)
    refine jr ?_
    refine jS (ru_fieldAddr rfl rfl) ?_
    refine jS (ru_load1 rfl rfl rfl) ?_
    refine jS (rt_bin_to rfl rfl (fun w => run_lti w _ _ _ _ _ _) (vbool (decide_eq_false (by first | assumption | omega)))) ?_
    refine jm rfl ?_
    refine RG.S0 (LT.run rfl rfl rfl (ru_fieldAddr rfl rfl)) ?_
    refine RG.S0 (LT.run rfl rfl rfl (ru_load1 rfl rfl rfl)) ?_
    refine RG.S0 (LT.run rfl rfl rfl (rt_bin_to rfl rfl (fun w => run_gti w _ _ _ _ _ _) (vbool (decide_eq_false (by first | assumption | omega))))) ?_
    refine jS (rt_pick_false rfl rfl) ?_
    refine ja rfl ?_
    refine RG.nil (by kernel_rfl) ?_
    repeat (first | refine js ?_ | refine jb ?_)
    refine WpD.condF rfl ?_
    repeat (first | refine js ?_ | refine jb ?_)
    refine jr ?_
    refine jS (ru_fieldAddr rfl rfl) ?_
    refine jS (ru_load1 rfl rfl rfl) ?_
    refine jS (rt_bin_to rfl rfl (fun w => run_remi w _ _ _ _ _ _ (by first | decide | omega | assumption)) (vint em)) ?_
    refine jS (rt_bin_to rfl rfl (fun w => run_eqi w _ _ _ _ _ _) (vbool (beqF (by first | assumption | omega)))) ?_
    refine ja rfl ?_
    refine RG.nil (by kernel_rfl) ?_
    repeat (first | refine js ?_ | refine jb ?_)
    refine WpD.condF rfl ?_
    repeat (first | refine js ?_ | refine jb ?_)
    refine jr ?_
    refine jS (ru_fieldAddr rfl rfl) ?_
    refine jS (ru_load1 rfl rfl rfl) ?_
    refine jS (rt_bin_to rfl rfl (fun w => run_eqi w _ _ _ _ _ _) (vbool (beqF (by first | assumption | omega)))) ?_
    refine ja rfl ?_
    refine RG.nil (by kernel_rfl) ?_
    repeat (first | refine js ?_ | refine jb ?_)
    refine WpD.condF rfl ?_
    repeat (first | refine js ?_ | refine jb ?_)
    refine WpD.skip ?_
    repeat (first | refine js ?_ | refine jb ?_)
    refine jr ?_
    refine jS (ru_fieldAddr rfl rfl) ?_
    refine jS (ru_load1 rfl rfl rfl) ?_
    refine jS (rt_bin_to rfl rfl (fun w => run_eqi w _ _ _ _ _ _) (vbool (beqF (by first | assumption | omega)))) ?_
    refine jm rfl ?_
    refine RG.S0 (LT.run rfl rfl rfl (ru_fieldAddr rfl rfl)) ?_
    refine RG.S0 (LT.run rfl rfl rfl (ru_load1 rfl rfl rfl)) ?_
    refine RG.S0 (LT.run rfl rfl rfl (rt_bin_to rfl rfl (fun w => run_eqi w _ _ _ _ _ _) (vbool (beqF (by first | assumption | omega))))) ?_
    refine jS (rt_pick_false rfl rfl) ?_
    refine ja rfl ?_
    refine RG.nil (by kernel_rfl) ?_
    repeat (first | refine js ?_ | refine jb ?_)
    refine WpD.ret ?_
    exact ret1 rfl (.tmp rfl) (PLe.refl _)
end
theorem mallowed (p : Int) : Fn Tryd.prog TabE 9 [ex (.int .i64 p)] (ex (.bool (smP p))) := by
  have C1 := fis p
  unfold smP
  by_cases h : p ≤ 9973
  · rw [decide_eq_true h, Bool.true_and]
    refine fn_of_body Tryd.func9 rfl Tryd.ntmps9 rfl ?_
    intro w0 h0
    repeat (first | refine js ?_ | refine jb ?_)
    refine jr ?_
    refine ja rfl ?_
    refine RG.nil (by kernel_rfl) ?_
    repeat (first | refine js ?_ | refine jb ?_)
    refine jr ?_
    refine jm rfl ?_
    refine jS (rt_bin_to rfl rfl (fun w => run_lei w _ _ _ _ _ _) (vbool (decide_eq_true (by first | assumption | omega)))) ?_
    refine jm rfl ?_
    refine RG.S0 (LT.run rfl rfl rfl (rt_move rfl)) ?_
    refine RG.S0 (LT.run rfl rfl rfl (ru_call C1 ⟨rfl, trivial⟩)) ?_
    refine jS (rt_pick_true rfl rfl) ?_
    refine ja rfl ?_
    refine RG.nil (by kernel_rfl) ?_
    repeat (first | refine js ?_ | refine jb ?_)
    refine WpD.ret ?_
    exact ret1 rfl (.tmp rfl) (PLe.refl _)
  · rw [decide_eq_false h, Bool.false_and]
    refine fn_of_body Tryd.func9 rfl Tryd.ntmps9 rfl ?_
    intro w0 h0
    repeat (first | refine js ?_ | refine jb ?_)
    refine jr ?_
    refine ja rfl ?_
    refine RG.nil (by kernel_rfl) ?_
    repeat (first | refine js ?_ | refine jb ?_)
    refine jr ?_
    refine jm rfl ?_
    refine jS (rt_bin_to rfl rfl (fun w => run_lei w _ _ _ _ _ _) (vbool (decide_eq_false (by first | assumption | omega)))) ?_
    refine jm rfl ?_
    refine RG.S0 (LT.skip rfl rfl rfl) ?_
    refine RG.S0 (LT.skip rfl rfl rfl) ?_
    refine jS (rt_pick_false rfl rfl) ?_
    refine ja rfl ?_
    refine RG.nil (by kernel_rfl) ?_
    repeat (first | refine js ?_ | refine jb ?_)
    refine WpD.ret ?_
    exact ret1 rfl (.tmp rfl) (PLe.refl _)
/-- What Diagonal answers. -/
def diaA (p d c : Int) : Pd := if smP p = true then (if psb d c = true then tupP [qC (dia p d.toNat c), ex (.int .i64 0)] else tupP [zero4, ex (.int .i64 1)]) else tupP [zero4, ex (.int .i64 20)]
theorem mDiagonal (p d c : Int) : Fn Tryd.prog TabE 5 [ex (.int .i64 p), aggP [ex (.int .i64 d), ex (.int .i64 c)]] (diaA p d c) := by
  have A1 := mallowed p
  unfold diaA
  cases hp : smP p with
  | false =>
    rw [hp] at A1
    rw [if_neg (by decide)]
    refine fn_of_body Tryd.func5 rfl Tryd.ntmps5 rfl ?_
    intro w0 h0
    repeat (first | refine js ?_ | refine jb ?_)
    refine jr ?_
    refine jT (ru_boxR rfl rfl rfl) ?_
    refine jT (ru_alloc rfl rfl rfl) ?_
    refine ja rfl ?_
    refine RG.nil (by kernel_rfl) ?_
    repeat (first | refine js ?_ | refine jb ?_)
    refine jr ?_
    refine jm rfl ?_
    refine jS (ru_call A1 ⟨rfl, trivial⟩) ?_
    refine jS (rt_un rfl (fun w => run_not w _)) ?_
    refine RG.nil (by kernel_rfl) ?_
    repeat (first | refine js ?_ | refine jb ?_)
    refine WpD.condT rfl ?_
    repeat (first | refine js ?_ | refine jb ?_)
    refine jr ?_
    refine jS (ru_build (ps := []) trivial rfl) ?_
    refine jO (ru_storeR rfl rfl rfl rfl rfl rfl) ?_
    refine ja rfl ?_
    refine RG.nil (by kernel_rfl) ?_
    repeat (first | refine js ?_ | refine jb ?_)
    refine WpD.ret ?_
    exact ret2 rfl (.cell rfl rfl CRow.ok rfl) (.tmp rfl) (PLe.refl _)
  | true =>
    rw [hp] at A1
    rw [if_pos rfl]
    have A2 := mpossible TabE d c
    cases hd : psb d c with
    | false =>
      rw [hd] at A2
      rw [if_neg (by decide)]
      refine fn_of_body Tryd.func5 rfl Tryd.ntmps5 rfl ?_
      intro w0 h0
      repeat (first | refine js ?_ | refine jb ?_)
      refine jr ?_
      refine jT (ru_boxR rfl rfl rfl) ?_
      refine jT (ru_alloc rfl rfl rfl) ?_
      refine ja rfl ?_
      refine RG.nil (by kernel_rfl) ?_
      repeat (first | refine js ?_ | refine jb ?_)
      refine jr ?_
      refine jm rfl ?_
      refine jS (ru_call A1 ⟨rfl, trivial⟩) ?_
      refine jS (rt_un rfl (fun w => run_not w _)) ?_
      refine RG.nil (by kernel_rfl) ?_
      repeat (first | refine js ?_ | refine jb ?_)
      refine WpD.condF rfl ?_
      repeat (first | refine js ?_ | refine jb ?_)
      refine WpD.skip ?_
      repeat (first | refine js ?_ | refine jb ?_)
      refine jr ?_
      refine jS (ru_loadR rfl rfl rfl rfl) ?_
      refine jS (ru_call A2 ⟨rfl, trivial⟩) ?_
      refine jS (rt_un rfl (fun w => run_not w _)) ?_
      refine RG.nil (by kernel_rfl) ?_
      repeat (first | refine js ?_ | refine jb ?_)
      refine WpD.condT rfl ?_
      repeat (first | refine js ?_ | refine jb ?_)
      refine jr ?_
      refine jS (ru_build (ps := []) trivial rfl) ?_
      refine jO (ru_storeR rfl rfl rfl rfl rfl rfl) ?_
      refine ja rfl ?_
      refine RG.nil (by kernel_rfl) ?_
      repeat (first | refine js ?_ | refine jb ?_)
      refine WpD.ret ?_
      exact ret2 rfl (.cell rfl rfl CRow.ok rfl) (.tmp rfl) (PLe.refl _)
    | true =>
      rw [hd] at A2
      rw [if_pos rfl]
      obtain ⟨p1, p2, _⟩ := smP_bd hp
      have hq := of_decide_eq_true hd
      obtain ⟨n, rfl⟩ : ∃ n : Nat, d = (n : Int) := ⟨d.toNat, by omega⟩
      rw [Int.toNat_natCast]
      have A3 := mdiagonal TabE p c n p1 p2 (by omega) (by omega) (by omega)
      refine fn_of_body Tryd.func5 rfl Tryd.ntmps5 rfl ?_
      intro w0 h0
      repeat (first | refine js ?_ | refine jb ?_)
      refine jr ?_
      refine jT (ru_boxR rfl rfl rfl) ?_
      refine jT (ru_alloc rfl rfl rfl) ?_
      refine ja rfl ?_
      refine RG.nil (by kernel_rfl) ?_
      repeat (first | refine js ?_ | refine jb ?_)
      refine jr ?_
      refine jm rfl ?_
      refine jS (ru_call A1 ⟨rfl, trivial⟩) ?_
      refine jS (rt_un rfl (fun w => run_not w _)) ?_
      refine RG.nil (by kernel_rfl) ?_
      repeat (first | refine js ?_ | refine jb ?_)
      refine WpD.condF rfl ?_
      repeat (first | refine js ?_ | refine jb ?_)
      refine WpD.skip ?_
      repeat (first | refine js ?_ | refine jb ?_)
      refine jr ?_
      refine jS (ru_loadR rfl rfl rfl rfl) ?_
      refine jS (ru_call A2 ⟨rfl, trivial⟩) ?_
      refine jS (rt_un rfl (fun w => run_not w _)) ?_
      refine RG.nil (by kernel_rfl) ?_
      repeat (first | refine js ?_ | refine jb ?_)
      refine WpD.condF rfl ?_
      repeat (first | refine js ?_ | refine jb ?_)
      refine WpD.skip ?_
      repeat (first | refine js ?_ | refine jb ?_)
      refine jr ?_
      refine jm rfl ?_
      refine jS (ru_loadR rfl rfl rfl rfl) ?_
      refine jS (ru_call A3 ⟨rfl, rfl, trivial⟩) ?_
      refine jO (ru_storeR rfl rfl rfl rfl rfl rfl) ?_
      refine ja rfl ?_
      refine RG.nil (by kernel_rfl) ?_
      repeat (first | refine js ?_ | refine jb ?_)
      refine WpD.ret ?_
      exact ret2 rfl (.cell rfl rfl CRow.ok rfl) (.tmp rfl) (PLe.refl _)
section
variable (En : Ev)
/-- The discriminant that belongs to a dimension and a determinant. -/
def fldZ (n d : Int) : Int := disc (if n % 4 = 2 then -d else d)
theorem disc_bd {d : Int} (h0 : d ≠ 0) (h1 : -10000 ≤ d) (h2 : d ≤ 10000) : -40000 ≤ disc d ∧ disc d ≤ 40000 := by
  have := (SqF.bound (sf_ok d h0)).1
  unfold disc
  split <;> omega
/-- The standard factor. -/
def stdQ (n : Nat) (d p : Int) : Rat := if n % 2 = 1 then dia p n 0 else dia p n (krZ (fldZ (n : Int) d) p)
theorem fld_in {n d : Int} (h1 : 1 ≤ d) (h2 : d ≤ 10000) : InR (fldZ n d) := by
  unfold fldZ
  split
  · have := disc_bd (d := -d) (by omega) (by omega) (by omega)
    exact ⟨by omega, by omega⟩
  · have := disc_bd (d := d) (by omega) (by omega) (by omega)
    exact ⟨by omega, by omega⟩
/-- What Standard answers. -/
def stdA (n d p : Int) : Pd := if 2 ≤ n ∧ n ≤ 8 ∧ 1 ≤ d ∧ d ≤ 10000 then (if smP p = true then tupP [qC (stdQ n.toNat d p), ex (.int .i64 0)] else tupP [zero4, ex (.int .i64 20)]) else tupP [zero4, ex (.int .i64 1)]
end
theorem mStandard (n d p : Int) : Fn Tryd.prog TabE 19 [ex (.int .i64 n), ex (.int .i64 d), ex (.int .i64 p)] (stdA n d p) := by
  have A1 := mallowed p
  unfold stdA
  by_cases g1 : n < 2
  · rw [if_neg (by omega)]
    refine fn_of_body Tryd.func19 rfl Tryd.ntmps19 rfl ?_
    intro w0 h0
    repeat (first | refine js ?_ | refine jb ?_)
    refine jr ?_
    refine jT (ru_alloc rfl rfl rfl) ?_
    refine ja rfl ?_
    refine RG.nil (by kernel_rfl) ?_
    repeat (first | refine js ?_ | refine jb ?_)
    refine jr ?_
    refine jm rfl ?_
    refine jS (rt_bin_to rfl rfl (fun w => run_lti w _ _ _ _ _ _) (vbool (decide_eq_true (by first | assumption | omega)))) ?_
    refine jm rfl ?_
    refine RG.S0 (LT.skip rfl rfl rfl) ?_
    refine RG.S0 (LT.skip rfl rfl rfl) ?_
    refine jS (rt_pick_true rfl rfl) ?_
    refine jm rfl ?_
    refine RG.S0 (LT.skip rfl rfl rfl) ?_
    refine RG.S0 (LT.skip rfl rfl rfl) ?_
    refine jS (rt_pick_true rfl rfl) ?_
    refine jm rfl ?_
    refine RG.S0 (LT.skip rfl rfl rfl) ?_
    refine RG.S0 (LT.skip rfl rfl rfl) ?_
    refine jS (rt_pick_true rfl rfl) ?_
    refine RG.nil (by kernel_rfl) ?_
    repeat (first | refine js ?_ | refine jb ?_)
    refine WpD.condT rfl ?_
    repeat (first | refine js ?_ | refine jb ?_)
    refine jr ?_
    refine jS (ru_build (ps := []) trivial rfl) ?_
    refine jO (ru_storeR rfl rfl rfl rfl rfl rfl) ?_
    refine ja rfl ?_
    refine RG.nil (by kernel_rfl) ?_
    repeat (first | refine js ?_ | refine jb ?_)
    refine WpD.ret ?_
    exact ret2 rfl (.cell rfl rfl CRow.ok rfl) (.tmp rfl) (PLe.refl _)
  by_cases g2 : n > 8
  · rw [if_neg (by omega)]
    refine fn_of_body Tryd.func19 rfl Tryd.ntmps19 rfl ?_
    intro w0 h0
    repeat (first | refine js ?_ | refine jb ?_)
    refine jr ?_
    refine jT (ru_alloc rfl rfl rfl) ?_
    refine ja rfl ?_
    refine RG.nil (by kernel_rfl) ?_
    repeat (first | refine js ?_ | refine jb ?_)
    refine jr ?_
    refine jm rfl ?_
    refine jS (rt_bin_to rfl rfl (fun w => run_lti w _ _ _ _ _ _) (vbool (decide_eq_false (by first | assumption | omega)))) ?_
    refine jm rfl ?_
    refine RG.S0 (LT.run rfl rfl rfl (rt_move rfl)) ?_
    refine RG.S0 (LT.run rfl rfl rfl (rt_bin_to rfl rfl (fun w => run_gti w _ _ _ _ _ _) (vbool (decide_eq_true (by first | assumption | omega))))) ?_
    refine jS (rt_pick_false rfl rfl) ?_
    refine jm rfl ?_
    refine RG.S0 (LT.skip rfl rfl rfl) ?_
    refine RG.S0 (LT.skip rfl rfl rfl) ?_
    refine jS (rt_pick_true rfl rfl) ?_
    refine jm rfl ?_
    refine RG.S0 (LT.skip rfl rfl rfl) ?_
    refine RG.S0 (LT.skip rfl rfl rfl) ?_
    refine jS (rt_pick_true rfl rfl) ?_
    refine RG.nil (by kernel_rfl) ?_
    repeat (first | refine js ?_ | refine jb ?_)
    refine WpD.condT rfl ?_
    repeat (first | refine js ?_ | refine jb ?_)
    refine jr ?_
    refine jS (ru_build (ps := []) trivial rfl) ?_
    refine jO (ru_storeR rfl rfl rfl rfl rfl rfl) ?_
    refine ja rfl ?_
    refine RG.nil (by kernel_rfl) ?_
    repeat (first | refine js ?_ | refine jb ?_)
    refine WpD.ret ?_
    exact ret2 rfl (.cell rfl rfl CRow.ok rfl) (.tmp rfl) (PLe.refl _)
  by_cases g3 : d < 1
  · rw [if_neg (by omega)]
    refine fn_of_body Tryd.func19 rfl Tryd.ntmps19 rfl ?_
    intro w0 h0
    repeat (first | refine js ?_ | refine jb ?_)
    refine jr ?_
    refine jT (ru_alloc rfl rfl rfl) ?_
    refine ja rfl ?_
    refine RG.nil (by kernel_rfl) ?_
    repeat (first | refine js ?_ | refine jb ?_)
    refine jr ?_
    refine jm rfl ?_
    refine jS (rt_bin_to rfl rfl (fun w => run_lti w _ _ _ _ _ _) (vbool (decide_eq_false (by first | assumption | omega)))) ?_
    refine jm rfl ?_
    refine RG.S0 (LT.run rfl rfl rfl (rt_move rfl)) ?_
    refine RG.S0 (LT.run rfl rfl rfl (rt_bin_to rfl rfl (fun w => run_gti w _ _ _ _ _ _) (vbool (decide_eq_false (by first | assumption | omega))))) ?_
    refine jS (rt_pick_false rfl rfl) ?_
    refine jm rfl ?_
    refine RG.S0 (LT.run rfl rfl rfl (rt_move rfl)) ?_
    refine RG.S0 (LT.run rfl rfl rfl (rt_bin_to rfl rfl (fun w => run_lti w _ _ _ _ _ _) (vbool (decide_eq_true (by first | assumption | omega))))) ?_
    refine jS (rt_pick_false rfl rfl) ?_
    refine jm rfl ?_
    refine RG.S0 (LT.skip rfl rfl rfl) ?_
    refine RG.S0 (LT.skip rfl rfl rfl) ?_
    refine jS (rt_pick_true rfl rfl) ?_
    refine RG.nil (by kernel_rfl) ?_
    repeat (first | refine js ?_ | refine jb ?_)
    refine WpD.condT rfl ?_
    repeat (first | refine js ?_ | refine jb ?_)
    refine jr ?_
    refine jS (ru_build (ps := []) trivial rfl) ?_
    refine jO (ru_storeR rfl rfl rfl rfl rfl rfl) ?_
    refine ja rfl ?_
    refine RG.nil (by kernel_rfl) ?_
    repeat (first | refine js ?_ | refine jb ?_)
    refine WpD.ret ?_
    exact ret2 rfl (.cell rfl rfl CRow.ok rfl) (.tmp rfl) (PLe.refl _)
  by_cases g4 : d > 10000
  · rw [if_neg (by omega)]
    refine fn_of_body Tryd.func19 rfl Tryd.ntmps19 rfl ?_
    intro w0 h0
    repeat (first | refine js ?_ | refine jb ?_)
    refine jr ?_
    refine jT (ru_alloc rfl rfl rfl) ?_
    refine ja rfl ?_
    refine RG.nil (by kernel_rfl) ?_
    repeat (first | refine js ?_ | refine jb ?_)
    refine jr ?_
    refine jm rfl ?_
    refine jS (rt_bin_to rfl rfl (fun w => run_lti w _ _ _ _ _ _) (vbool (decide_eq_false (by first | assumption | omega)))) ?_
    refine jm rfl ?_
    refine RG.S0 (LT.run rfl rfl rfl (rt_move rfl)) ?_
    refine RG.S0 (LT.run rfl rfl rfl (rt_bin_to rfl rfl (fun w => run_gti w _ _ _ _ _ _) (vbool (decide_eq_false (by first | assumption | omega))))) ?_
    refine jS (rt_pick_false rfl rfl) ?_
    refine jm rfl ?_
    refine RG.S0 (LT.run rfl rfl rfl (rt_move rfl)) ?_
    refine RG.S0 (LT.run rfl rfl rfl (rt_bin_to rfl rfl (fun w => run_lti w _ _ _ _ _ _) (vbool (decide_eq_false (by first | assumption | omega))))) ?_
    refine jS (rt_pick_false rfl rfl) ?_
    refine jm rfl ?_
    refine RG.S0 (LT.run rfl rfl rfl (rt_move rfl)) ?_
    refine RG.S0 (LT.run rfl rfl rfl (rt_bin_to rfl rfl (fun w => run_gti w _ _ _ _ _ _) (vbool (decide_eq_true (by first | assumption | omega))))) ?_
    refine jS (rt_pick_false rfl rfl) ?_
    refine RG.nil (by kernel_rfl) ?_
    repeat (first | refine js ?_ | refine jb ?_)
    refine WpD.condT rfl ?_
    repeat (first | refine js ?_ | refine jb ?_)
    refine jr ?_
    refine jS (ru_build (ps := []) trivial rfl) ?_
    refine jO (ru_storeR rfl rfl rfl rfl rfl rfl) ?_
    refine ja rfl ?_
    refine RG.nil (by kernel_rfl) ?_
    repeat (first | refine js ?_ | refine jb ?_)
    refine WpD.ret ?_
    exact ret2 rfl (.cell rfl rfl CRow.ok rfl) (.tmp rfl) (PLe.refl _)
  rw [if_pos (by omega)]
  cases hp : smP p with
  | false =>
    rw [hp] at A1
    rw [if_neg (by decide)]
    refine fn_of_body Tryd.func19 rfl Tryd.ntmps19 rfl ?_
    intro w0 h0
    repeat (first | refine js ?_ | refine jb ?_)
    refine jr ?_
    refine jT (ru_alloc rfl rfl rfl) ?_
    refine ja rfl ?_
    refine RG.nil (by kernel_rfl) ?_
    repeat (first | refine js ?_ | refine jb ?_)
    refine jr ?_
    refine jm rfl ?_
    refine jS (rt_bin_to rfl rfl (fun w => run_lti w _ _ _ _ _ _) (vbool (decide_eq_false (by first | assumption | omega)))) ?_
    refine jm rfl ?_
    refine RG.S0 (LT.run rfl rfl rfl (rt_move rfl)) ?_
    refine RG.S0 (LT.run rfl rfl rfl (rt_bin_to rfl rfl (fun w => run_gti w _ _ _ _ _ _) (vbool (decide_eq_false (by first | assumption | omega))))) ?_
    refine jS (rt_pick_false rfl rfl) ?_
    refine jm rfl ?_
    refine RG.S0 (LT.run rfl rfl rfl (rt_move rfl)) ?_
    refine RG.S0 (LT.run rfl rfl rfl (rt_bin_to rfl rfl (fun w => run_lti w _ _ _ _ _ _) (vbool (decide_eq_false (by first | assumption | omega))))) ?_
    refine jS (rt_pick_false rfl rfl) ?_
    refine jm rfl ?_
    refine RG.S0 (LT.run rfl rfl rfl (rt_move rfl)) ?_
    refine RG.S0 (LT.run rfl rfl rfl (rt_bin_to rfl rfl (fun w => run_gti w _ _ _ _ _ _) (vbool (decide_eq_false (by first | assumption | omega))))) ?_
    refine jS (rt_pick_false rfl rfl) ?_
    refine RG.nil (by kernel_rfl) ?_
    repeat (first | refine js ?_ | refine jb ?_)
    refine WpD.condF rfl ?_
    repeat (first | refine js ?_ | refine jb ?_)
    refine WpD.skip ?_
    repeat (first | refine js ?_ | refine jb ?_)
    refine jr ?_
    refine jm rfl ?_
    refine jS (ru_call A1 ⟨rfl, trivial⟩) ?_
    refine jS (rt_un rfl (fun w => run_not w _)) ?_
    refine RG.nil (by kernel_rfl) ?_
    repeat (first | refine js ?_ | refine jb ?_)
    refine WpD.condT rfl ?_
    repeat (first | refine js ?_ | refine jb ?_)
    refine jr ?_
    refine jS (ru_build (ps := []) trivial rfl) ?_
    refine jO (ru_storeR rfl rfl rfl rfl rfl rfl) ?_
    refine ja rfl ?_
    refine RG.nil (by kernel_rfl) ?_
    repeat (first | refine js ?_ | refine jb ?_)
    refine WpD.ret ?_
    exact ret2 rfl (.cell rfl rfl CRow.ok rfl) (.tmp rfl) (PLe.refl _)
  | true =>
    rw [hp] at A1
    rw [if_pos rfl]
    obtain ⟨p1, p2, _⟩ := smP_bd hp
    obtain ⟨m, rfl⟩ : ∃ m : Nat, n = (m : Int) := ⟨n.toNat, by omega⟩
    rw [Int.toNat_natCast]
    have em : ((m : Nat) : Int).tmod 2 = ((m % 2 : Nat) : Int) := (Int.ofNat_tmod _ _).symm
    have e4 : ((m : Nat) : Int).tmod 4 = ((m % 4 : Nat) : Int) := (Int.ofNat_tmod _ _).symm
    unfold stdQ
    by_cases hodd : m % 2 = 1
    · rw [if_pos hodd]
      have A2 := mdiagonal TabE p 0 m p1 p2 (by omega) (by omega) (by omega)
      refine fn_of_body Tryd.func19 rfl Tryd.ntmps19 rfl ?_
      intro w0 h0
      repeat (first | refine js ?_ | refine jb ?_)
      refine jr ?_
      refine jT (ru_alloc rfl rfl rfl) ?_
      refine ja rfl ?_
      refine RG.nil (by kernel_rfl) ?_
      repeat (first | refine js ?_ | refine jb ?_)
      refine jr ?_
      refine jm rfl ?_
      refine jS (rt_bin_to rfl rfl (fun w => run_lti w _ _ _ _ _ _) (vbool (decide_eq_false (by first | assumption | omega)))) ?_
      refine jm rfl ?_
      refine RG.S0 (LT.run rfl rfl rfl (rt_move rfl)) ?_
      refine RG.S0 (LT.run rfl rfl rfl (rt_bin_to rfl rfl (fun w => run_gti w _ _ _ _ _ _) (vbool (decide_eq_false (by first | assumption | omega))))) ?_
      refine jS (rt_pick_false rfl rfl) ?_
      refine jm rfl ?_
      refine RG.S0 (LT.run rfl rfl rfl (rt_move rfl)) ?_
      refine RG.S0 (LT.run rfl rfl rfl (rt_bin_to rfl rfl (fun w => run_lti w _ _ _ _ _ _) (vbool (decide_eq_false (by first | assumption | omega))))) ?_
      refine jS (rt_pick_false rfl rfl) ?_
      refine jm rfl ?_
      refine RG.S0 (LT.run rfl rfl rfl (rt_move rfl)) ?_
      refine RG.S0 (LT.run rfl rfl rfl (rt_bin_to rfl rfl (fun w => run_gti w _ _ _ _ _ _) (vbool (decide_eq_false (by first | assumption | omega))))) ?_
      refine jS (rt_pick_false rfl rfl) ?_
      refine RG.nil (by kernel_rfl) ?_
      repeat (first | refine js ?_ | refine jb ?_)
      refine WpD.condF rfl ?_
      repeat (first | refine js ?_ | refine jb ?_)
      refine WpD.skip ?_
      repeat (first | refine js ?_ | refine jb ?_)
      refine jr ?_
      refine jm rfl ?_
      refine jS (ru_call A1 ⟨rfl, trivial⟩) ?_
      refine jS (rt_un rfl (fun w => run_not w _)) ?_
      refine RG.nil (by kernel_rfl) ?_
      repeat (first | refine js ?_ | refine jb ?_)
      refine WpD.condF rfl ?_
      repeat (first | refine js ?_ | refine jb ?_)
      refine WpD.skip ?_
      repeat (first | refine js ?_ | refine jb ?_)
      refine jr ?_
      refine jm rfl ?_
      refine jS (rt_bin_to rfl rfl (fun w => run_remi w _ _ _ _ _ _ (by first | decide | omega | assumption)) (vint em)) ?_
      refine jS (rt_bin_to rfl rfl (fun w => run_eqi w _ _ _ _ _ _) (vbool (beqT (by first | assumption | omega)))) ?_
      refine RG.nil (by kernel_rfl) ?_
      repeat (first | refine js ?_ | refine jb ?_)
      refine WpD.condT rfl ?_
      repeat (first | refine js ?_ | refine jb ?_)
      refine jr ?_
      refine jm rfl ?_
      refine jm rfl ?_
      refine jS (ru_build (ps := [(_, _)]) ⟨rfl, Part.c rfl, trivial⟩ rfl) ?_
      refine jS (ru_call A2 ⟨rfl, rfl, trivial⟩) ?_
      refine jO (ru_storeR rfl rfl rfl rfl rfl rfl) ?_
      refine ja rfl ?_
      refine RG.nil (by kernel_rfl) ?_
      repeat (first | refine js ?_ | refine jb ?_)
      refine WpD.ret ?_
      exact ret2 rfl (.cell rfl rfl CRow.ok rfl) (.tmp rfl) (PLe.refl _)
    · rw [if_neg hodd]
      have A3 := fkron TabE (fldZ (m : Int) d) p (fld_in (by omega) (by omega)) ⟨by omega, by omega⟩
      have h3 := krZ_three (fldZ (m : Int) d) p
      by_cases h4 : (m : Int) % 4 = 2
      · have A2 := fdisc (-d) (by omega) ⟨by omega, by omega⟩
        rw [show disc (-d) = fldZ (m : Int) d by unfold fldZ; rw [if_pos h4]] at A2
        have en : IntKind.i64.wrap (-d) = -d := w64 (by omega) (by omega)
        generalize krZ (fldZ (m : Int) d) p = c at *
        have A4 := mdiagonal TabE p c m p1 p2 (by omega) (by omega) (by omega)
        refine fn_of_body Tryd.func19 rfl Tryd.ntmps19 rfl ?_
        intro w0 h0
        repeat (first | refine js ?_ | refine jb ?_)
        refine jr ?_
        refine jT (ru_alloc rfl rfl rfl) ?_
        refine ja rfl ?_
        refine RG.nil (by kernel_rfl) ?_
        repeat (first | refine js ?_ | refine jb ?_)
        refine jr ?_
        refine jm rfl ?_
        refine jS (rt_bin_to rfl rfl (fun w => run_lti w _ _ _ _ _ _) (vbool (decide_eq_false (by first | assumption | omega)))) ?_
        refine jm rfl ?_
        refine RG.S0 (LT.run rfl rfl rfl (rt_move rfl)) ?_
        refine RG.S0 (LT.run rfl rfl rfl (rt_bin_to rfl rfl (fun w => run_gti w _ _ _ _ _ _) (vbool (decide_eq_false (by first | assumption | omega))))) ?_
        refine jS (rt_pick_false rfl rfl) ?_
        refine jm rfl ?_
        refine RG.S0 (LT.run rfl rfl rfl (rt_move rfl)) ?_
        refine RG.S0 (LT.run rfl rfl rfl (rt_bin_to rfl rfl (fun w => run_lti w _ _ _ _ _ _) (vbool (decide_eq_false (by first | assumption | omega))))) ?_
        refine jS (rt_pick_false rfl rfl) ?_
        refine jm rfl ?_
        refine RG.S0 (LT.run rfl rfl rfl (rt_move rfl)) ?_
        refine RG.S0 (LT.run rfl rfl rfl (rt_bin_to rfl rfl (fun w => run_gti w _ _ _ _ _ _) (vbool (decide_eq_false (by first | assumption | omega))))) ?_
        refine jS (rt_pick_false rfl rfl) ?_
        refine RG.nil (by kernel_rfl) ?_
        repeat (first | refine js ?_ | refine jb ?_)
        refine WpD.condF rfl ?_
        repeat (first | refine js ?_ | refine jb ?_)
        refine WpD.skip ?_
        repeat (first | refine js ?_ | refine jb ?_)
        refine jr ?_
        refine jm rfl ?_
        refine jS (ru_call A1 ⟨rfl, trivial⟩) ?_
        refine jS (rt_un rfl (fun w => run_not w _)) ?_
        refine RG.nil (by kernel_rfl) ?_
        repeat (first | refine js ?_ | refine jb ?_)
        refine WpD.condF rfl ?_
        repeat (first | refine js ?_ | refine jb ?_)
        refine WpD.skip ?_
        repeat (first | refine js ?_ | refine jb ?_)
        refine jr ?_
        refine jm rfl ?_
        refine jS (rt_bin_to rfl rfl (fun w => run_remi w _ _ _ _ _ _ (by first | decide | omega | assumption)) (vint em)) ?_
        refine jS (rt_bin_to rfl rfl (fun w => run_eqi w _ _ _ _ _ _) (vbool (beqF (by first | assumption | omega)))) ?_
        refine RG.nil (by kernel_rfl) ?_
        repeat (first | refine js ?_ | refine jb ?_)
        refine WpD.condF rfl ?_
        repeat (first | refine js ?_ | refine jb ?_)
        refine WpD.skip ?_
        repeat (first | refine js ?_ | refine jb ?_)
        refine jr ?_
        refine jm rfl ?_
        refine jS (rt_bin_to rfl rfl (fun w => run_remi w _ _ _ _ _ _ (by first | decide | omega | assumption)) (vint e4)) ?_
        refine jS (rt_bin_to rfl rfl (fun w => run_eqi w _ _ _ _ _ _) (vbool (beqT (by first | assumption | omega)))) ?_
        refine RG.nil (by kernel_rfl) ?_
        repeat (first | refine js ?_ | refine jb ?_)
        refine WpD.condT rfl ?_
        repeat (first | refine js ?_ | refine jb ?_)
        refine jr ?_
        refine jm rfl ?_
        refine jS (rt_un_to rfl (fun w => run_negi w _ _) (vint en)) ?_
        refine ja rfl ?_
        refine RG.nil (by kernel_rfl) ?_
        repeat (first | refine js ?_ | refine jb ?_)
        refine jr ?_
        refine jm rfl ?_
        refine jS (ru_call A2 ⟨rfl, trivial⟩) ?_
        refine jm rfl ?_
        refine jS (rt_extract rfl rfl) ?_
        refine jS (rt_extract rfl rfl) ?_
        refine ja rfl ?_
        refine ja rfl ?_
        refine RG.nil (by kernel_rfl) ?_
        repeat (first | refine js ?_ | refine jb ?_)
        refine jr ?_
        refine jm rfl ?_
        refine jm rfl ?_
        refine jS (ru_call A3 ⟨rfl, rfl, trivial⟩) ?_
        refine jm rfl ?_
        refine jS (rt_extract rfl rfl) ?_
        refine jS (rt_extract rfl rfl) ?_
        refine ja rfl ?_
        refine ja rfl ?_
        refine RG.nil (by kernel_rfl) ?_
        repeat (first | refine js ?_ | refine jb ?_)
        refine jr ?_
        refine jm rfl ?_
        refine jm rfl ?_
        refine jm rfl ?_
        refine jS (ru_build (ps := [(_, _), (_, _)]) ⟨rfl, Part.c rfl, rfl, Part.c rfl, trivial⟩ rfl) ?_
        refine jS (ru_call A4 ⟨rfl, rfl, trivial⟩) ?_
        refine jO (ru_storeR rfl rfl rfl rfl rfl rfl) ?_
        refine ja rfl ?_
        refine RG.nil (by kernel_rfl) ?_
        repeat (first | refine js ?_ | refine jb ?_)
        refine WpD.ret ?_
        exact ret2 rfl (.cell rfl rfl CRow.ok rfl) (.tmp rfl) (PLe.refl _)
      · have A2 := fdisc d (by omega) ⟨by omega, by omega⟩
        rw [show disc d = fldZ (m : Int) d by unfold fldZ; rw [if_neg h4]] at A2
        generalize krZ (fldZ (m : Int) d) p = c at *
        have A4 := mdiagonal TabE p c m p1 p2 (by omega) (by omega) (by omega)
        refine fn_of_body Tryd.func19 rfl Tryd.ntmps19 rfl ?_
        intro w0 h0
        repeat (first | refine js ?_ | refine jb ?_)
        refine jr ?_
        refine jT (ru_alloc rfl rfl rfl) ?_
        refine ja rfl ?_
        refine RG.nil (by kernel_rfl) ?_
        repeat (first | refine js ?_ | refine jb ?_)
        refine jr ?_
        refine jm rfl ?_
        refine jS (rt_bin_to rfl rfl (fun w => run_lti w _ _ _ _ _ _) (vbool (decide_eq_false (by first | assumption | omega)))) ?_
        refine jm rfl ?_
        refine RG.S0 (LT.run rfl rfl rfl (rt_move rfl)) ?_
        refine RG.S0 (LT.run rfl rfl rfl (rt_bin_to rfl rfl (fun w => run_gti w _ _ _ _ _ _) (vbool (decide_eq_false (by first | assumption | omega))))) ?_
        refine jS (rt_pick_false rfl rfl) ?_
        refine jm rfl ?_
        refine RG.S0 (LT.run rfl rfl rfl (rt_move rfl)) ?_
        refine RG.S0 (LT.run rfl rfl rfl (rt_bin_to rfl rfl (fun w => run_lti w _ _ _ _ _ _) (vbool (decide_eq_false (by first | assumption | omega))))) ?_
        refine jS (rt_pick_false rfl rfl) ?_
        refine jm rfl ?_
        refine RG.S0 (LT.run rfl rfl rfl (rt_move rfl)) ?_
        refine RG.S0 (LT.run rfl rfl rfl (rt_bin_to rfl rfl (fun w => run_gti w _ _ _ _ _ _) (vbool (decide_eq_false (by first | assumption | omega))))) ?_
        refine jS (rt_pick_false rfl rfl) ?_
        refine RG.nil (by kernel_rfl) ?_
        repeat (first | refine js ?_ | refine jb ?_)
        refine WpD.condF rfl ?_
        repeat (first | refine js ?_ | refine jb ?_)
        refine WpD.skip ?_
        repeat (first | refine js ?_ | refine jb ?_)
        refine jr ?_
        refine jm rfl ?_
        refine jS (ru_call A1 ⟨rfl, trivial⟩) ?_
        refine jS (rt_un rfl (fun w => run_not w _)) ?_
        refine RG.nil (by kernel_rfl) ?_
        repeat (first | refine js ?_ | refine jb ?_)
        refine WpD.condF rfl ?_
        repeat (first | refine js ?_ | refine jb ?_)
        refine WpD.skip ?_
        repeat (first | refine js ?_ | refine jb ?_)
        refine jr ?_
        refine jm rfl ?_
        refine jS (rt_bin_to rfl rfl (fun w => run_remi w _ _ _ _ _ _ (by first | decide | omega | assumption)) (vint em)) ?_
        refine jS (rt_bin_to rfl rfl (fun w => run_eqi w _ _ _ _ _ _) (vbool (beqF (by first | assumption | omega)))) ?_
        refine RG.nil (by kernel_rfl) ?_
        repeat (first | refine js ?_ | refine jb ?_)
        refine WpD.condF rfl ?_
        repeat (first | refine js ?_ | refine jb ?_)
        refine WpD.skip ?_
        repeat (first | refine js ?_ | refine jb ?_)
        refine jr ?_
        refine jm rfl ?_
        refine jS (rt_bin_to rfl rfl (fun w => run_remi w _ _ _ _ _ _ (by first | decide | omega | assumption)) (vint e4)) ?_
        refine jS (rt_bin_to rfl rfl (fun w => run_eqi w _ _ _ _ _ _) (vbool (beqF (by first | assumption | omega)))) ?_
        refine RG.nil (by kernel_rfl) ?_
        repeat (first | refine js ?_ | refine jb ?_)
        refine WpD.condF rfl ?_
        repeat (first | refine js ?_ | refine jb ?_)
        refine WpD.skip ?_
        repeat (first | refine js ?_ | refine jb ?_)
        refine jr ?_
        refine jm rfl ?_
        refine jS (ru_call A2 ⟨rfl, trivial⟩) ?_
        refine jm rfl ?_
        refine jS (rt_extract rfl rfl) ?_
        refine jS (rt_extract rfl rfl) ?_
        refine ja rfl ?_
        refine ja rfl ?_
        refine RG.nil (by kernel_rfl) ?_
        repeat (first | refine js ?_ | refine jb ?_)
        refine jr ?_
        refine jm rfl ?_
        refine jm rfl ?_
        refine jS (ru_call A3 ⟨rfl, rfl, trivial⟩) ?_
        refine jm rfl ?_
        refine jS (rt_extract rfl rfl) ?_
        refine jS (rt_extract rfl rfl) ?_
        refine ja rfl ?_
        refine ja rfl ?_
        refine RG.nil (by kernel_rfl) ?_
        repeat (first | refine js ?_ | refine jb ?_)
        refine jr ?_
        refine jm rfl ?_
        refine jm rfl ?_
        refine jm rfl ?_
        refine jS (ru_build (ps := [(_, _), (_, _)]) ⟨rfl, Part.c rfl, rfl, Part.c rfl, trivial⟩ rfl) ?_
        refine jS (ru_call A4 ⟨rfl, rfl, trivial⟩) ?_
        refine jO (ru_storeR rfl rfl rfl rfl rfl rfl) ?_
        refine ja rfl ?_
        refine RG.nil (by kernel_rfl) ?_
        repeat (first | refine js ?_ | refine jb ?_)
        refine WpD.ret ?_
        exact ret2 rfl (.cell rfl rfl CRow.ok rfl) (.tmp rfl) (PLe.refl _)
end Go.Proofs.YtpiflllcjgpkhaaDoor

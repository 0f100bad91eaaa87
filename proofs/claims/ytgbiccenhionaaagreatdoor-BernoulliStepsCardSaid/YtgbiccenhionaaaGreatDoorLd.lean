/- Statements of chapter 31: Number, Denominator; the reference's list. -/
import Derived.Test.YtgbiccenhionaaaGreatDoorLc
set_option maxRecDepth 3000
namespace Go.Proofs.YtgbiccenhionaaaGreatDoor
open Go.RowKit Limb Num
section
variable (En : Ev)
/-- The Rat that is all zeros. -/
def zero4 : Pd := aggP [ex (.bool false), ex (.slice none 0 0), ex (.bool false), ex (.slice none 0 0)]
theorem bnumber_out (k : Int) (hk : ¬ (0 ≤ k ∧ k ≤ 20)) : Fn Tryz.prog En 31 [ex (.int .i64 k)] (tupP [zero4, ex (.int .i64 1)]) := by
  by_cases h : k < 0
  · refine fn_of_body Tryz.func31 rfl Tryz.ntmps31 rfl ?_
    intro w0 h0
    repeat (first | refine js ?_ | refine jb ?_)
    refine jr ?_
    refine jT (ru_alloc rfl rfl rfl) ?_
    refine ja rfl ?_
    refine RG.nil (by kernel_rfl) ?_
    repeat (first | refine js ?_ | refine jb ?_)
    refine jr ?_
    refine jm rfl ?_
    refine jS (rt_bin_to rfl rfl (fun w => run_lti w _ _ _ _ _ _) (vbool (decide_eq_true (by first | assumption | omega)))) ?_
    refine jm rfl ?_
    refine RG.S0 (LT.skip rfl rfl rfl) ?_
    refine RG.S0 (LT.skip rfl rfl rfl) ?_
    refine jS (rt_pick_true rfl rfl) ?_
    refine RG.nil (by kernel_rfl) ?_
    repeat (first | refine js ?_ | refine jb ?_)
    refine WpD.condT rfl ?_
    repeat (first | refine js ?_ | refine jb ?_)
    refine jr ?_
    refine jS (ru_build (ps := []) trivial rfl) ?_
    refine jO (ru_storeR rfl rfl rfl rfl rfl rfl) ?_
    refine ja rfl ?_
    refine RG.nil (by kernel_rfl) ?_
    repeat (first | refine js ?_ | refine jb ?_)
    refine WpD.ret ?_
    exact ret2 rfl (.cell rfl rfl CRow.ok rfl) (.tmp rfl) (PLe.refl _)
  · refine fn_of_body Tryz.func31 rfl Tryz.ntmps31 rfl ?_
    intro w0 h0
    repeat (first | refine js ?_ | refine jb ?_)
    refine jr ?_
    refine jT (ru_alloc rfl rfl rfl) ?_
    refine ja rfl ?_
    refine RG.nil (by kernel_rfl) ?_
    repeat (first | refine js ?_ | refine jb ?_)
    refine jr ?_
    refine jm rfl ?_
    refine jS (rt_bin_to rfl rfl (fun w => run_lti w _ _ _ _ _ _) (vbool (decide_eq_false (by first | assumption | omega)))) ?_
    refine jm rfl ?_
    refine RG.S0 (LT.run rfl rfl rfl (rt_move rfl)) ?_
    refine RG.S0 (LT.run rfl rfl rfl (rt_bin_to rfl rfl (fun w => run_gti w _ _ _ _ _ _) (vbool (decide_eq_true (by first | assumption | omega))))) ?_
    refine jS (rt_pick_false rfl rfl) ?_
    refine RG.nil (by kernel_rfl) ?_
    repeat (first | refine js ?_ | refine jb ?_)
    refine WpD.condT rfl ?_
    repeat (first | refine js ?_ | refine jb ?_)
    refine jr ?_
    refine jS (ru_build (ps := []) trivial rfl) ?_
    refine jO (ru_storeR rfl rfl rfl rfl rfl rfl) ?_
    refine ja rfl ?_
    refine RG.nil (by kernel_rfl) ?_
    repeat (first | refine js ?_ | refine jb ?_)
    refine WpD.ret ?_
    exact ret2 rfl (.cell rfl rfl CRow.ok rfl) (.tmp rfl) (PLe.refl _)
end
/-- The product of the primes p for which p - 1 divides n. -/
def dpr (n : Nat) : Nat → Nat
  | 0 => 1
  | i + 1 => if isP (i + 2) && n % (i + 1) == 0 then dpr n i * (i + 2) else dpr n i
theorem dpr_ok : ∀ m : Fin 10, ((bern (2 + 2 * m.1)).den : Nat) = dpr (2 + 2 * m.1) (2 + 2 * m.1) := by decide +kernel
theorem dpr_le : ∀ m : Fin 10, ∀ i : Fin 22, dpr (2 + 2 * m.1) i.1 ≤ 1000000000 := by decide +kernel
end Go.Proofs.YtgbiccenhionaaaGreatDoor

/- Chapter 31: the discriminant that a statement makes of a number. -/
import Derived.Test.YtgbiccenhionaaaDoorLc
set_option maxRecDepth 3000
namespace Go.Proofs.YtgbiccenhionaaaDoor
open Go.RowKit Limb Num
theorem u16_bd (n : Int) : 0 ≤ IntKind.u16.wrap n ∧ IntKind.u16.wrap n < 65536 := by rw [IntKind.wrap_u16]; omega
theorem ldisc (n : Int) : ∃ m : Int, -200 ≤ m ∧ m ≤ 200 ∧ m ≠ 0 ∧ Fn Tryd.prog TabE 21 [ex (.int .i16 n)] (ex (.int .i64 (disc m))) := by
  have hu := u16_bd n
  have t1 : -99 ≤ n.tmod 100 ∧ n.tmod 100 ≤ 99 := by
    have h1 := Int.tmod_lt_of_pos n (show (0 : Int) < 100 by omega)
    have h2 := Int.lt_tmod_of_pos n (show (0 : Int) < 100 by omega)
    omega
  have w1 : IntKind.i64.wrap (n.tmod 100) = n.tmod 100 := w64 (by omega) (by omega)
  generalize hs : n.tmod 100 = s at *
  generalize hU : IntKind.u16.wrap n = u at *
  have w2 : IntKind.i64.wrap u = u := w64 (by omega) (by omega)
  have w3 : IntKind.i64.wrap (u.tdiv 256) = u / 256 := by rw [Int.tdiv_eq_ediv_of_nonneg hu.1]; exact w64 (by omega) (by omega)
  obtain ⟨r, hr⟩ : ∃ r : Int, u / 256 % 2 = r := ⟨_, rfl⟩
  have w4 : (u / 256).tmod 2 = r := by rw [Int.tmod_eq_emod_of_nonneg (by omega)]; exact hr
  have w5 : IntKind.i64.wrap (2 * r) = 2 * r := w64 (by omega) (by omega)
  have w6 : IntKind.i64.wrap (1 - 2 * r) = 1 - 2 * r := w64 (by omega) (by omega)
  have w7 : IntKind.i64.wrap (101 * (1 - 2 * r)) = 101 * (1 - 2 * r) := w64 (by omega) (by omega)
  have w8 : IntKind.i64.wrap (s + 101 * (1 - 2 * r)) = s + 101 * (1 - 2 * r) := w64 (by omega) (by omega)
  refine ⟨s + 101 * (1 - 2 * r), by omega, by omega, by omega, ?_⟩
  have C1 := grdisc TabE (s + 101 * (1 - 2 * r)) (by omega) ⟨by omega, by omega⟩
  refine fn_of_body Tryd.func21 rfl Tryd.ntmps21 rfl ?_
  intro w0 h0
  repeat (first | refine js ?_ | refine jb ?_)
  refine jr ?_
  refine ja rfl ?_
  refine RG.nil (by kernel_rfl) ?_
  repeat (first | refine js ?_ | refine jb ?_)
  refine jr ?_
  refine jm rfl ?_
  refine jS (rt_bin_to rfl rfl (fun w => run_remi w _ _ _ _ _ _ (by first | decide | omega | assumption)) (vint hs)) ?_
  refine jS (rt_conv_to rfl (fun w => run_convi w CInt.ok CInt.ok _ _) (vint w1)) ?_
  refine jm rfl ?_
  refine jS (rt_conv_to rfl (fun w => run_convi w CInt.ok CInt.ok _ _) (vint hU)) ?_
  refine jS (rt_conv_to rfl (fun w => run_convi w CInt.ok CInt.ok _ _) (vint w2)) ?_
  refine jS (rt_bin_to rfl rfl (fun w => run_quoi w _ _ _ _ _ _ (by first | decide | omega | assumption)) (vint w3)) ?_
  refine jS (rt_bin_to rfl rfl (fun w => run_remi w _ _ _ _ _ _ (by first | decide | omega | assumption)) (vint w4)) ?_
  refine jS (rt_bin_to rfl rfl (fun w => run_muli w _ _ _ _ _ _) (vint w5)) ?_
  refine jS (rt_bin_to rfl rfl (fun w => run_subi w _ _ _ _ _ _) (vint w6)) ?_
  refine jS (rt_bin_to rfl rfl (fun w => run_muli w _ _ _ _ _ _) (vint w7)) ?_
  refine jS (rt_bin_to rfl rfl (fun w => run_addi w _ _ _ _ _ _) (vint w8)) ?_
  refine jS (ru_call C1 ⟨rfl, trivial⟩) ?_
  refine jm rfl ?_
  refine jS (rt_extract rfl rfl) ?_
  refine jS (rt_extract rfl rfl) ?_
  refine ja rfl ?_
  refine ja rfl ?_
  refine RG.nil (by kernel_rfl) ?_
  repeat (first | refine js ?_ | refine jb ?_)
  refine jr ?_
  refine jm rfl ?_
  refine ja rfl ?_
  refine RG.nil (by kernel_rfl) ?_
  repeat (first | refine js ?_ | refine jb ?_)
  refine WpD.ret ?_
  exact ret1 rfl (.tmp rfl) (PLe.refl _)
end Go.Proofs.YtgbiccenhionaaaDoor

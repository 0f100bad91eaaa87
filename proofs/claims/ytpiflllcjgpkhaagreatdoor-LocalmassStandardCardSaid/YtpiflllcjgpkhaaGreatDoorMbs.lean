/- The reference's Standard. -/
import Derived.Test.YtpiflllcjgpkhaaGreatDoorMb
set_option maxRecDepth 3000
namespace Go.Proofs.YtpiflllcjgpkhaaGreatDoor
open Go.RowKit Limb Num
section
variable (En : Ev)
theorem rfield (n : Nat) (d : Int) (hn : n ≤ 8) (he : n % 2 = 0) (h1 : 1 ≤ d) (h2 : d ≤ 10000) : Fn Tryz.prog En 47 [ex (.int .i64 (n : Int)), ex (.int .i64 d)] (ex (.int .i64 (fldZ (n : Int) d))) := by
  have eb : IntKind.i64.wrap (((n : Nat) : Int).tdiv 2) = ((n / 2 : Nat) : Int) := by
    rw [show ((n : Nat) : Int).tdiv 2 = ((n / 2 : Nat) : Int) from (Int.ofNat_tdiv _ _).symm]
    exact w64 (by omega) (by omega)
  have em : ((n / 2 : Nat) : Int).tmod 2 = ((n / 2 % 2 : Nat) : Int) := (Int.ofNat_tmod _ _).symm
  unfold fldZ
  by_cases h4 : (n : Int) % 4 = 2
  · rw [if_pos h4]
    have C1 := grdisc En (-d) (by omega) ⟨by omega, by omega⟩
    have en : IntKind.i64.wrap (-d) = -d := w64 (by omega) (by omega)
    refine fn_of_body Tryz.func47 rfl Tryz.ntmps47 rfl ?_
    intro w0 h0
    repeat (first | refine js ?_ | refine jb ?_)
    refine jr ?_
    refine ja rfl ?_
    refine RG.nil (by kernel_rfl) ?_
    repeat (first | refine js ?_ | refine jb ?_)
    refine jr ?_
    refine jm rfl ?_
    refine jS (rt_bin_to rfl rfl (fun w => run_quoi w _ _ _ _ _ _ (by first | decide | omega | assumption)) (vint eb)) ?_
    refine jS (rt_bin_to rfl rfl (fun w => run_remi w _ _ _ _ _ _ (by first | decide | omega | assumption)) (vint em)) ?_
    refine jS (rt_bin_to rfl rfl (fun w => run_eqi w _ _ _ _ _ _) (vbool (beqT (by first | assumption | omega)))) ?_
    refine RG.nil (by kernel_rfl) ?_
    repeat (first | refine js ?_ | refine jb ?_)
    refine WpD.condT rfl ?_
    repeat (first | refine js ?_ | refine jb ?_)
    refine jr ?_
    refine jm rfl ?_
    refine jS (rt_un_to rfl (fun w => run_negi w _ _) (vint en)) ?_
    refine ja rfl ?_
    refine RG.nil (by kernel_rfl) ?_
    repeat (first | refine js ?_ | refine jb ?_)
    refine jr ?_
    refine jm rfl ?_
    refine jS (ru_call C1 ⟨rfl, trivial⟩) ?_
    refine jm rfl ?_
    refine jS (rt_extract rfl rfl) ?_
    refine jS (rt_extract rfl rfl) ?_
    refine ja rfl ?_
    refine ja rfl ?_
    refine RG.nil (by kernel_rfl) ?_
    repeat (first | refine js ?_ | refine jb ?_)
    refine jr ?_
    refine jm rfl ?_
    refine ja rfl ?_
    refine RG.nil (by kernel_rfl) ?_
    repeat (first | refine js ?_ | refine jb ?_)
    refine WpD.ret ?_
    exact ret1 rfl (.tmp rfl) (PLe.refl _)
  · rw [if_neg h4]
    have C1 := grdisc En d (by omega) ⟨by omega, by omega⟩
    refine fn_of_body Tryz.func47 rfl Tryz.ntmps47 rfl ?_
    intro w0 h0
    repeat (first | refine js ?_ | refine jb ?_)
    refine jr ?_
    refine ja rfl ?_
    refine RG.nil (by kernel_rfl) ?_
    repeat (first | refine js ?_ | refine jb ?_)
    refine jr ?_
    refine jm rfl ?_
    refine jS (rt_bin_to rfl rfl (fun w => run_quoi w _ _ _ _ _ _ (by first | decide | omega | assumption)) (vint eb)) ?_
    refine jS (rt_bin_to rfl rfl (fun w => run_remi w _ _ _ _ _ _ (by first | decide | omega | assumption)) (vint em)) ?_
    refine jS (rt_bin_to rfl rfl (fun w => run_eqi w _ _ _ _ _ _) (vbool (beqF (by first | assumption | omega)))) ?_
    refine RG.nil (by kernel_rfl) ?_
    repeat (first | refine js ?_ | refine jb ?_)
    refine WpD.condF rfl ?_
    repeat (first | refine js ?_ | refine jb ?_)
    refine WpD.skip ?_
    repeat (first | refine js ?_ | refine jb ?_)
    refine jr ?_
    refine jm rfl ?_
    refine jS (ru_call C1 ⟨rfl, trivial⟩) ?_
    refine jm rfl ?_
    refine jS (rt_extract rfl rfl) ?_
    refine jS (rt_extract rfl rfl) ?_
    refine ja rfl ?_
    refine ja rfl ?_
    refine RG.nil (by kernel_rfl) ?_
    repeat (first | refine js ?_ | refine jb ?_)
    refine jr ?_
    refine jm rfl ?_
    refine ja rfl ?_
    refine RG.nil (by kernel_rfl) ?_
    repeat (first | refine js ?_ | refine jb ?_)
    refine WpD.ret ?_
    exact ret1 rfl (.tmp rfl) (PLe.refl _)
theorem rstandard (n : Nat) (d p : Int) (hp : 2 ≤ p) (hp2 : p ≤ 9973) (hn1 : 2 ≤ n) (hn : n ≤ 8) (h1 : 1 ≤ d) (h2 : d ≤ 10000) : Fn Tryz.prog En 22 [ex (.int .i64 (n : Int)), ex (.int .i64 d), ex (.int .i64 p)] (qC (stdQ n d p)) := by
  have ea : IntKind.i64.wrap ((n : Int) + 1) = ((n + 1 : Nat) : Int) := by rw [w64 (by omega) (by omega)]; rfl
  have eb : IntKind.i64.wrap (((n + 1 : Nat) : Int).tdiv 2) = (((n + 1) / 2 : Nat) : Int) := by
    rw [show ((n + 1 : Nat) : Int).tdiv 2 = (((n + 1) / 2 : Nat) : Int) from (Int.ofNat_tdiv _ _).symm]
    exact w64 (by omega) (by omega)
  have em : ((n : Nat) : Int).tmod 2 = ((n % 2 : Nat) : Int) := (Int.ofNat_tmod _ _).symm
  have C1 := rgroup En p ((n + 1) / 2) hp hp2 (by omega) (by omega)
  unfold stdQ
  by_cases hodd : n % 2 = 1
  · rw [if_pos hodd]
    have hd : dia p n 0 = grp p ((n + 1) / 2 - 1) := by
      unfold dia
      rw [if_neg (by omega), if_pos hodd, grp_dvs hp]
    rw [hd]
    refine fn_of_body Tryz.func22 rfl Tryz.ntmps22 rfl ?_
    intro w0 h0
    repeat (first | refine js ?_ | refine jb ?_)
    refine jr ?_
    refine jT (ru_alloc rfl rfl rfl) ?_
    refine RG.nil (by kernel_rfl) ?_
    repeat (first | refine js ?_ | refine jb ?_)
    refine jr ?_
    refine jm rfl ?_
    refine jS (rt_bin_to rfl rfl (fun w => run_addi w _ _ _ _ _ _) (vint ea)) ?_
    refine jS (rt_bin_to rfl rfl (fun w => run_quoi w _ _ _ _ _ _ (by first | decide | omega | assumption)) (vint eb)) ?_
    refine ja rfl ?_
    refine RG.nil (by kernel_rfl) ?_
    repeat (first | refine js ?_ | refine jb ?_)
    refine jr ?_
    refine jm rfl ?_
    refine jS (rt_bin_to rfl rfl (fun w => run_remi w _ _ _ _ _ _ (by first | decide | omega | assumption)) (vint em)) ?_
    refine jS (rt_bin_to rfl rfl (fun w => run_eqi w _ _ _ _ _ _) (vbool (beqT (by first | assumption | omega)))) ?_
    refine RG.nil (by kernel_rfl) ?_
    repeat (first | refine js ?_ | refine jb ?_)
    refine WpD.condT rfl ?_
    repeat (first | refine js ?_ | refine jb ?_)
    refine jr ?_
    refine jm rfl ?_
    refine jm rfl ?_
    refine jS (ru_call C1 ⟨rfl, rfl, trivial⟩) ?_
    refine jO (ru_storeR rfl rfl rfl rfl rfl rfl) ?_
    refine RG.nil (by kernel_rfl) ?_
    repeat (first | refine js ?_ | refine jb ?_)
    refine WpD.ret ?_
    exact ret1 rfl (.cell rfl rfl CRow.ok rfl) (PLe.refl _)
  · rw [if_neg hodd]
    have C2 := rfield En n d hn (by omega) h1 h2
    have C3 := gsymbol En (fldZ (n : Int) d) p ⟨by omega, by omega⟩
    have h3 := krZ_three (fldZ (n : Int) d) p
    generalize krZ (fldZ (n : Int) d) p = c at *
    have C4 := rsigned En (grp p ((n + 1) / 2 - 1)) p c ((n + 1) / 2) ((sz_grp hp hp2 (k := (n + 1) / 2 - 1) (by omega)).mono (by omega)) hp hp2 (by omega) (by omega) (by omega) (by omega)
    have hd : dia p n c = grp p ((n + 1) / 2 - 1) / fct p c ((n + 1) / 2) := by
      obtain ⟨k, hk⟩ : ∃ k, (n + 1) / 2 = k + 1 := ⟨(n + 1) / 2 - 1, by omega⟩
      unfold dia
      rw [if_neg (by omega), if_neg hodd, hk, Nat.add_sub_cancel]
      exact dia_even hp (by omega) (by omega)
    rw [hd]
    refine fn_of_body Tryz.func22 rfl Tryz.ntmps22 rfl ?_
    intro w0 h0
    repeat (first | refine js ?_ | refine jb ?_)
    refine jr ?_
    refine jT (ru_alloc rfl rfl rfl) ?_
    refine RG.nil (by kernel_rfl) ?_
    repeat (first | refine js ?_ | refine jb ?_)
    refine jr ?_
    refine jm rfl ?_
    refine jS (rt_bin_to rfl rfl (fun w => run_addi w _ _ _ _ _ _) (vint ea)) ?_
    refine jS (rt_bin_to rfl rfl (fun w => run_quoi w _ _ _ _ _ _ (by first | decide | omega | assumption)) (vint eb)) ?_
    refine ja rfl ?_
    refine RG.nil (by kernel_rfl) ?_
    repeat (first | refine js ?_ | refine jb ?_)
    refine jr ?_
    refine jm rfl ?_
    refine jS (rt_bin_to rfl rfl (fun w => run_remi w _ _ _ _ _ _ (by first | decide | omega | assumption)) (vint em)) ?_
    refine jS (rt_bin_to rfl rfl (fun w => run_eqi w _ _ _ _ _ _) (vbool (beqF (by first | assumption | omega)))) ?_
    refine RG.nil (by kernel_rfl) ?_
    repeat (first | refine js ?_ | refine jb ?_)
    refine WpD.condF rfl ?_
    repeat (first | refine js ?_ | refine jb ?_)
    refine WpD.skip ?_
    repeat (first | refine js ?_ | refine jb ?_)
    refine jr ?_
    refine jm rfl ?_
    refine jm rfl ?_
    refine jS (ru_call C1 ⟨rfl, rfl, trivial⟩) ?_
    refine jm rfl ?_
    refine jm rfl ?_
    refine jm rfl ?_
    refine jS (ru_call C2 ⟨rfl, rfl, trivial⟩) ?_
    refine jm rfl ?_
    refine jS (ru_call C3 ⟨rfl, rfl, trivial⟩) ?_
    refine jm rfl ?_
    refine jS (ru_call C4 ⟨rfl, rfl, rfl, rfl, trivial⟩) ?_
    refine jO (ru_storeR rfl rfl rfl rfl rfl rfl) ?_
    refine RG.nil (by kernel_rfl) ?_
    repeat (first | refine js ?_ | refine jb ?_)
    refine WpD.ret ?_
    exact ret1 rfl (.cell rfl rfl CRow.ok rfl) (PLe.refl _)
theorem rStandard (n d p : Int) : Fn Tryz.prog En 8 [ex (.int .i64 n), ex (.int .i64 d), ex (.int .i64 p)] (stdA n d p) := by
  have A1 := rsmall En p
  unfold stdA
  by_cases g1 : n < 2
  · rw [if_neg (by omega)]
    refine fn_of_body Tryz.func8 rfl Tryz.ntmps8 rfl ?_
    intro w0 h0
    repeat (first | refine js ?_ | refine jb ?_)
    refine jr ?_
    refine jT (ru_alloc rfl rfl rfl) ?_
    refine ja rfl ?_
    refine RG.nil (by kernel_rfl) ?_
    repeat (first | refine js ?_ | refine jb ?_)
    refine jr ?_
    refine jm rfl ?_
    refine jS (rt_bin_to rfl rfl (fun w => run_lti w _ _ _ _ _ _) (vbool (decide_eq_true (by first | assumption | omega)))) ?_
    refine jm rfl ?_
    refine RG.S0 (LT.skip rfl rfl rfl) ?_
    refine RG.S0 (LT.skip rfl rfl rfl) ?_
    refine jS (rt_pick_true rfl rfl) ?_
    refine jm rfl ?_
    refine RG.S0 (LT.skip rfl rfl rfl) ?_
    refine RG.S0 (LT.skip rfl rfl rfl) ?_
    refine jS (rt_pick_true rfl rfl) ?_
    refine jm rfl ?_
    refine RG.S0 (LT.skip rfl rfl rfl) ?_
    refine RG.S0 (LT.skip rfl rfl rfl) ?_
    refine jS (rt_pick_true rfl rfl) ?_
    refine RG.nil (by kernel_rfl) ?_
    repeat (first | refine js ?_ | refine jb ?_)
    refine WpD.condT rfl ?_
    repeat (first | refine js ?_ | refine jb ?_)
    refine jr ?_
    refine jS (ru_build (ps := []) trivial rfl) ?_
    refine jO (ru_storeR rfl rfl rfl rfl rfl rfl) ?_
    refine ja rfl ?_
    refine RG.nil (by kernel_rfl) ?_
    repeat (first | refine js ?_ | refine jb ?_)
    refine WpD.ret ?_
    exact ret2 rfl (.cell rfl rfl CRow.ok rfl) (.tmp rfl) (PLe.refl _)
  by_cases g2 : n > 8
  · rw [if_neg (by omega)]
    refine fn_of_body Tryz.func8 rfl Tryz.ntmps8 rfl ?_
    intro w0 h0
    repeat (first | refine js ?_ | refine jb ?_)
    refine jr ?_
    refine jT (ru_alloc rfl rfl rfl) ?_
    refine ja rfl ?_
    refine RG.nil (by kernel_rfl) ?_
    repeat (first | refine js ?_ | refine jb ?_)
    refine jr ?_
    refine jm rfl ?_
    refine jS (rt_bin_to rfl rfl (fun w => run_lti w _ _ _ _ _ _) (vbool (decide_eq_false (by first | assumption | omega)))) ?_
    refine jm rfl ?_
    refine RG.S0 (LT.run rfl rfl rfl (rt_move rfl)) ?_
    refine RG.S0 (LT.run rfl rfl rfl (rt_bin_to rfl rfl (fun w => run_gti w _ _ _ _ _ _) (vbool (decide_eq_true (by first | assumption | omega))))) ?_
    refine jS (rt_pick_false rfl rfl) ?_
    refine jm rfl ?_
    refine RG.S0 (LT.skip rfl rfl rfl) ?_
    refine RG.S0 (LT.skip rfl rfl rfl) ?_
    refine jS (rt_pick_true rfl rfl) ?_
    refine jm rfl ?_
    refine RG.S0 (LT.skip rfl rfl rfl) ?_
    refine RG.S0 (LT.skip rfl rfl rfl) ?_
    refine jS (rt_pick_true rfl rfl) ?_
    refine RG.nil (by kernel_rfl) ?_
    repeat (first | refine js ?_ | refine jb ?_)
    refine WpD.condT rfl ?_
    repeat (first | refine js ?_ | refine jb ?_)
    refine jr ?_
    refine jS (ru_build (ps := []) trivial rfl) ?_
    refine jO (ru_storeR rfl rfl rfl rfl rfl rfl) ?_
    refine ja rfl ?_
    refine RG.nil (by kernel_rfl) ?_
    repeat (first | refine js ?_ | refine jb ?_)
    refine WpD.ret ?_
    exact ret2 rfl (.cell rfl rfl CRow.ok rfl) (.tmp rfl) (PLe.refl _)
  by_cases g3 : d < 1
  · rw [if_neg (by omega)]
    refine fn_of_body Tryz.func8 rfl Tryz.ntmps8 rfl ?_
    intro w0 h0
    repeat (first | refine js ?_ | refine jb ?_)
    refine jr ?_
    refine jT (ru_alloc rfl rfl rfl) ?_
    refine ja rfl ?_
    refine RG.nil (by kernel_rfl) ?_
    repeat (first | refine js ?_ | refine jb ?_)
    refine jr ?_
    refine jm rfl ?_
    refine jS (rt_bin_to rfl rfl (fun w => run_lti w _ _ _ _ _ _) (vbool (decide_eq_false (by first | assumption | omega)))) ?_
    refine jm rfl ?_
    refine RG.S0 (LT.run rfl rfl rfl (rt_move rfl)) ?_
    refine RG.S0 (LT.run rfl rfl rfl (rt_bin_to rfl rfl (fun w => run_gti w _ _ _ _ _ _) (vbool (decide_eq_false (by first | assumption | omega))))) ?_
    refine jS (rt_pick_false rfl rfl) ?_
    refine jm rfl ?_
    refine RG.S0 (LT.run rfl rfl rfl (rt_move rfl)) ?_
    refine RG.S0 (LT.run rfl rfl rfl (rt_bin_to rfl rfl (fun w => run_lti w _ _ _ _ _ _) (vbool (decide_eq_true (by first | assumption | omega))))) ?_
    refine jS (rt_pick_false rfl rfl) ?_
    refine jm rfl ?_
    refine RG.S0 (LT.skip rfl rfl rfl) ?_
    refine RG.S0 (LT.skip rfl rfl rfl) ?_
    refine jS (rt_pick_true rfl rfl) ?_
    refine RG.nil (by kernel_rfl) ?_
    repeat (first | refine js ?_ | refine jb ?_)
    refine WpD.condT rfl ?_
    repeat (first | refine js ?_ | refine jb ?_)
    refine jr ?_
    refine jS (ru_build (ps := []) trivial rfl) ?_
    refine jO (ru_storeR rfl rfl rfl rfl rfl rfl) ?_
    refine ja rfl ?_
    refine RG.nil (by kernel_rfl) ?_
    repeat (first | refine js ?_ | refine jb ?_)
    refine WpD.ret ?_
    exact ret2 rfl (.cell rfl rfl CRow.ok rfl) (.tmp rfl) (PLe.refl _)
  by_cases g4 : d > 10000
  · rw [if_neg (by omega)]
    refine fn_of_body Tryz.func8 rfl Tryz.ntmps8 rfl ?_
    intro w0 h0
    repeat (first | refine js ?_ | refine jb ?_)
    refine jr ?_
    refine jT (ru_alloc rfl rfl rfl) ?_
    refine ja rfl ?_
    refine RG.nil (by kernel_rfl) ?_
    repeat (first | refine js ?_ | refine jb ?_)
    refine jr ?_
    refine jm rfl ?_
    refine jS (rt_bin_to rfl rfl (fun w => run_lti w _ _ _ _ _ _) (vbool (decide_eq_false (by first | assumption | omega)))) ?_
    refine jm rfl ?_
    refine RG.S0 (LT.run rfl rfl rfl (rt_move rfl)) ?_
    refine RG.S0 (LT.run rfl rfl rfl (rt_bin_to rfl rfl (fun w => run_gti w _ _ _ _ _ _) (vbool (decide_eq_false (by first | assumption | omega))))) ?_
    refine jS (rt_pick_false rfl rfl) ?_
    refine jm rfl ?_
    refine RG.S0 (LT.run rfl rfl rfl (rt_move rfl)) ?_
    refine RG.S0 (LT.run rfl rfl rfl (rt_bin_to rfl rfl (fun w => run_lti w _ _ _ _ _ _) (vbool (decide_eq_false (by first | assumption | omega))))) ?_
    refine jS (rt_pick_false rfl rfl) ?_
    refine jm rfl ?_
    refine RG.S0 (LT.run rfl rfl rfl (rt_move rfl)) ?_
    refine RG.S0 (LT.run rfl rfl rfl (rt_bin_to rfl rfl (fun w => run_gti w _ _ _ _ _ _) (vbool (decide_eq_true (by first | assumption | omega))))) ?_
    refine jS (rt_pick_false rfl rfl) ?_
    refine RG.nil (by kernel_rfl) ?_
    repeat (first | refine js ?_ | refine jb ?_)
    refine WpD.condT rfl ?_
    repeat (first | refine js ?_ | refine jb ?_)
    refine jr ?_
    refine jS (ru_build (ps := []) trivial rfl) ?_
    refine jO (ru_storeR rfl rfl rfl rfl rfl rfl) ?_
    refine ja rfl ?_
    refine RG.nil (by kernel_rfl) ?_
    repeat (first | refine js ?_ | refine jb ?_)
    refine WpD.ret ?_
    exact ret2 rfl (.cell rfl rfl CRow.ok rfl) (.tmp rfl) (PLe.refl _)
  rw [if_pos (by omega)]
  cases hp : smP p with
  | false =>
    rw [hp] at A1
    rw [if_neg (by decide)]
    refine fn_of_body Tryz.func8 rfl Tryz.ntmps8 rfl ?_
    intro w0 h0
    repeat (first | refine js ?_ | refine jb ?_)
    refine jr ?_
    refine jT (ru_alloc rfl rfl rfl) ?_
    refine ja rfl ?_
    refine RG.nil (by kernel_rfl) ?_
    repeat (first | refine js ?_ | refine jb ?_)
    refine jr ?_
    refine jm rfl ?_
    refine jS (rt_bin_to rfl rfl (fun w => run_lti w _ _ _ _ _ _) (vbool (decide_eq_false (by first | assumption | omega)))) ?_
    refine jm rfl ?_
    refine RG.S0 (LT.run rfl rfl rfl (rt_move rfl)) ?_
    refine RG.S0 (LT.run rfl rfl rfl (rt_bin_to rfl rfl (fun w => run_gti w _ _ _ _ _ _) (vbool (decide_eq_false (by first | assumption | omega))))) ?_
    refine jS (rt_pick_false rfl rfl) ?_
    refine jm rfl ?_
    refine RG.S0 (LT.run rfl rfl rfl (rt_move rfl)) ?_
    refine RG.S0 (LT.run rfl rfl rfl (rt_bin_to rfl rfl (fun w => run_lti w _ _ _ _ _ _) (vbool (decide_eq_false (by first | assumption | omega))))) ?_
    refine jS (rt_pick_false rfl rfl) ?_
    refine jm rfl ?_
    refine RG.S0 (LT.run rfl rfl rfl (rt_move rfl)) ?_
    refine RG.S0 (LT.run rfl rfl rfl (rt_bin_to rfl rfl (fun w => run_gti w _ _ _ _ _ _) (vbool (decide_eq_false (by first | assumption | omega))))) ?_
    refine jS (rt_pick_false rfl rfl) ?_
    refine RG.nil (by kernel_rfl) ?_
    repeat (first | refine js ?_ | refine jb ?_)
    refine WpD.condF rfl ?_
    repeat (first | refine js ?_ | refine jb ?_)
    refine WpD.skip ?_
    repeat (first | refine js ?_ | refine jb ?_)
    refine jr ?_
    refine jm rfl ?_
    refine jS (ru_call A1 ⟨rfl, trivial⟩) ?_
    refine jS (rt_un rfl (fun w => run_not w _)) ?_
    refine RG.nil (by kernel_rfl) ?_
    repeat (first | refine js ?_ | refine jb ?_)
    refine WpD.condT rfl ?_
    repeat (first | refine js ?_ | refine jb ?_)
    refine jr ?_
    refine jS (ru_build (ps := []) trivial rfl) ?_
    refine jO (ru_storeR rfl rfl rfl rfl rfl rfl) ?_
    refine ja rfl ?_
    refine RG.nil (by kernel_rfl) ?_
    repeat (first | refine js ?_ | refine jb ?_)
    refine WpD.ret ?_
    exact ret2 rfl (.cell rfl rfl CRow.ok rfl) (.tmp rfl) (PLe.refl _)
  | true =>
    rw [hp] at A1
    rw [if_pos rfl]
    obtain ⟨p1, p2, _⟩ := smP_bd hp
    obtain ⟨m, rfl⟩ : ∃ m : Nat, n = (m : Int) := ⟨n.toNat, by omega⟩
    rw [Int.toNat_natCast]
    have A2 := rstandard En m d p p1 p2 (by omega) (by omega) (by omega) (by omega)
    refine fn_of_body Tryz.func8 rfl Tryz.ntmps8 rfl ?_
    intro w0 h0
    repeat (first | refine js ?_ | refine jb ?_)
    refine jr ?_
    refine jT (ru_alloc rfl rfl rfl) ?_
    refine ja rfl ?_
    refine RG.nil (by kernel_rfl) ?_
    repeat (first | refine js ?_ | refine jb ?_)
    refine jr ?_
    refine jm rfl ?_
    refine jS (rt_bin_to rfl rfl (fun w => run_lti w _ _ _ _ _ _) (vbool (decide_eq_false (by first | assumption | omega)))) ?_
    refine jm rfl ?_
    refine RG.S0 (LT.run rfl rfl rfl (rt_move rfl)) ?_
    refine RG.S0 (LT.run rfl rfl rfl (rt_bin_to rfl rfl (fun w => run_gti w _ _ _ _ _ _) (vbool (decide_eq_false (by first | assumption | omega))))) ?_
    refine jS (rt_pick_false rfl rfl) ?_
    refine jm rfl ?_
    refine RG.S0 (LT.run rfl rfl rfl (rt_move rfl)) ?_
    refine RG.S0 (LT.run rfl rfl rfl (rt_bin_to rfl rfl (fun w => run_lti w _ _ _ _ _ _) (vbool (decide_eq_false (by first | assumption | omega))))) ?_
    refine jS (rt_pick_false rfl rfl) ?_
    refine jm rfl ?_
    refine RG.S0 (LT.run rfl rfl rfl (rt_move rfl)) ?_
    refine RG.S0 (LT.run rfl rfl rfl (rt_bin_to rfl rfl (fun w => run_gti w _ _ _ _ _ _) (vbool (decide_eq_false (by first | assumption | omega))))) ?_
    refine jS (rt_pick_false rfl rfl) ?_
    refine RG.nil (by kernel_rfl) ?_
    repeat (first | refine js ?_ | refine jb ?_)
    refine WpD.condF rfl ?_
    repeat (first | refine js ?_ | refine jb ?_)
    refine WpD.skip ?_
    repeat (first | refine js ?_ | refine jb ?_)
    refine jr ?_
    refine jm rfl ?_
    refine jS (ru_call A1 ⟨rfl, trivial⟩) ?_
    refine jS (rt_un rfl (fun w => run_not w _)) ?_
    refine RG.nil (by kernel_rfl) ?_
    repeat (first | refine js ?_ | refine jb ?_)
    refine WpD.condF rfl ?_
    repeat (first | refine js ?_ | refine jb ?_)
    refine WpD.skip ?_
    repeat (first | refine js ?_ | refine jb ?_)
    refine jr ?_
    refine jm rfl ?_
    refine jm rfl ?_
    refine jm rfl ?_
    refine jS (ru_call A2 ⟨rfl, rfl, rfl, trivial⟩) ?_
    refine jO (ru_storeR rfl rfl rfl rfl rfl rfl) ?_
    refine ja rfl ?_
    refine RG.nil (by kernel_rfl) ?_
    repeat (first | refine js ?_ | refine jb ?_)
    refine WpD.ret ?_
    exact ret2 rfl (.cell rfl rfl CRow.ok rfl) (.tmp rfl) (PLe.refl _)
end
end Go.Proofs.YtpiflllcjgpkhaaGreatDoor

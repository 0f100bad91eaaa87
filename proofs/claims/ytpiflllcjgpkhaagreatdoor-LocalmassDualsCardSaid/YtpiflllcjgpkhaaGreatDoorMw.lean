/- The sanity check of chapter 32. (With LT.skipU.) -/
import Derived.Test.YtpiflllcjgpkhaaGreatDoorMf
import Derived.Test.YtpiflllcjgpkhaaGreatDoorBa
set_option maxRecDepth 3000
namespace Go.Proofs.YtpiflllcjgpkhaaGreatDoor
open Go.RowKit Limb Num
/-- The symbol with one odd constituent of dimension d and oddity d. -/
def sy (d : Int) : Nat → Co := fun _ => ⟨0, d, 1, true, d⟩
section
variable (En : Ev)
theorem legal2 : Fn Tryz.prog En 112 [aggP (coc (sy 2 0))] (ex (.bool true)) := by
  have w1 : IntKind.i64.wrap ((2 : Int) - 2) = 0 := by decide
  have w2 : (0 : Int).tmod 2 = 0 := by decide
  unfold coc sy
  dsimp only
  refine fn_of_body Tryz.func112 rfl Tryz.ntmps112 rfl ?_
  intro w0 h0
  repeat (first | refine js ?_ | refine jb ?_)
  refine jr ?_
  refine jT (ru_boxR rfl rfl rfl) ?_
  refine ja rfl ?_
  refine RG.nil (by kernel_rfl) ?_
  repeat (first | refine js ?_ | refine jb ?_)
  refine jr ?_
  refine jS (ru_fieldAddr rfl rfl) ?_
  refine jS (ru_load1 rfl rfl rfl) ?_
  refine jS (rt_bin_to rfl rfl (fun w => run_lti w _ _ _ _ _ _) (vbool (decide_eq_false (by first | assumption | omega)))) ?_
  refine jm rfl ?_
  refine RG.S0 (LT.run rfl rfl rfl (ru_fieldAddr rfl rfl)) ?_
  refine RG.S0 (LT.run rfl rfl rfl (ru_load1 rfl rfl rfl)) ?_
  refine RG.S0 (LT.run rfl rfl rfl (rt_bin_to rfl rfl (fun w => run_gti w _ _ _ _ _ _) (vbool (decide_eq_false (by first | assumption | omega))))) ?_
  refine jS (rt_pick_false rfl rfl) ?_
  refine jm rfl ?_
  refine RG.S0 (LT.run rfl rfl rfl (ru_fieldAddr rfl rfl)) ?_
  refine RG.S0 (LT.run rfl rfl rfl (ru_load1 rfl rfl rfl)) ?_
  refine RG.S0 (LT.run rfl rfl rfl (rt_bin_to rfl rfl (fun w => run_lti w _ _ _ _ _ _) (vbool (decide_eq_false (by first | assumption | omega))))) ?_
  refine jS (rt_pick_false rfl rfl) ?_
  refine jm rfl ?_
  refine RG.S0 (LT.run rfl rfl rfl (ru_fieldAddr rfl rfl)) ?_
  refine RG.S0 (LT.run rfl rfl rfl (ru_load1 rfl rfl rfl)) ?_
  refine RG.S0 (LT.run rfl rfl rfl (rt_bin_to rfl rfl (fun w => run_gti w _ _ _ _ _ _) (vbool (decide_eq_false (by first | assumption | omega))))) ?_
  refine jS (rt_pick_false rfl rfl) ?_
  refine RG.nil (by kernel_rfl) ?_
  repeat (first | refine js ?_ | refine jb ?_)
  refine WpD.condF rfl ?_
  repeat (first | refine js ?_ | refine jb ?_)
  refine WpD.skip ?_
  repeat (first | refine js ?_ | refine jb ?_)
  refine jr ?_
  refine jS (ru_fieldAddr rfl rfl) ?_
  refine jS (ru_load1 rfl rfl rfl) ?_
  refine jS (rt_bin_to rfl rfl (fun w => run_nei w _ _ _ _ _ _) (vbool (bneF (by first | assumption | omega)))) ?_
  refine jm rfl ?_
  refine RG.S0 (LT.skip rfl rfl rfl) ?_
  refine RG.S0 (LT.skip rfl rfl rfl) ?_
  refine RG.S0 (LT.skip rfl rfl rfl) ?_
  refine jS (rt_pick_false rfl rfl) ?_
  refine jm rfl ?_
  refine RG.S0 (LT.run rfl rfl rfl (ru_fieldAddr rfl rfl)) ?_
  refine RG.S0 (LT.run rfl rfl rfl (ru_load1 rfl rfl rfl)) ?_
  refine RG.S0 (LT.run rfl rfl rfl (rt_bin_to rfl rfl (fun w => run_lti w _ _ _ _ _ _) (vbool (decide_eq_false (by first | assumption | omega))))) ?_
  refine jS (rt_pick_false rfl rfl) ?_
  refine jm rfl ?_
  refine RG.S0 (LT.run rfl rfl rfl (ru_fieldAddr rfl rfl)) ?_
  refine RG.S0 (LT.run rfl rfl rfl (ru_load1 rfl rfl rfl)) ?_
  refine RG.S0 (LT.run rfl rfl rfl (rt_bin_to rfl rfl (fun w => run_gti w _ _ _ _ _ _) (vbool (decide_eq_false (by first | assumption | omega))))) ?_
  refine jS (rt_pick_false rfl rfl) ?_
  refine RG.nil (by kernel_rfl) ?_
  repeat (first | refine js ?_ | refine jb ?_)
  refine WpD.condF rfl ?_
  repeat (first | refine js ?_ | refine jb ?_)
  refine WpD.skip ?_
  repeat (first | refine js ?_ | refine jb ?_)
  refine jr ?_
  refine jS (ru_fieldAddr rfl rfl) ?_
  refine jS (ru_load1 rfl rfl rfl) ?_
  refine jS (rt_un rfl (fun w => run_not w _)) ?_
  refine RG.nil (by kernel_rfl) ?_
  repeat (first | refine js ?_ | refine jb ?_)
  refine WpD.condF rfl ?_
  repeat (first | refine js ?_ | refine jb ?_)
  refine WpD.skip ?_
  repeat (first | refine js ?_ | refine jb ?_)
  refine jr ?_
  refine jS (ru_fieldAddr rfl rfl) ?_
  refine jS (ru_load1 rfl rfl rfl) ?_
  refine jS (ru_fieldAddr rfl rfl) ?_
  refine jS (ru_load1 rfl rfl rfl) ?_
  refine jS (rt_bin_to rfl rfl (fun w => run_subi w _ _ _ _ _ _) (vint w1)) ?_
  refine jS (rt_bin_to rfl rfl (fun w => run_remi w _ _ _ _ _ _ (by first | decide | omega | assumption)) (vint w2)) ?_
  refine jS (rt_bin_to rfl rfl (fun w => run_nei w _ _ _ _ _ _) (vbool (bneF (by first | assumption | omega)))) ?_
  refine RG.nil (by kernel_rfl) ?_
  repeat (first | refine js ?_ | refine jb ?_)
  refine WpD.condF rfl ?_
  repeat (first | refine js ?_ | refine jb ?_)
  refine WpD.skip ?_
  repeat (first | refine js ?_ | refine jb ?_)
  refine jr ?_
  refine jS (ru_fieldAddr rfl rfl) ?_
  refine jS (ru_load1 rfl rfl rfl) ?_
  refine jS (rt_bin_to rfl rfl (fun w => run_eqi w _ _ _ _ _ _) (vbool (beqF (by first | assumption | omega)))) ?_
  refine jm rfl ?_
  refine RG.S0 (LT.skip rfl rfl rfl) ?_
  refine RG.S0 (LT.skip rfl rfl rfl) ?_
  refine RG.S0 (LT.skip rfl rfl rfl) ?_
  refine jS (rt_pick_false rfl rfl) ?_
  refine ja rfl ?_
  refine RG.nil (by kernel_rfl) ?_
  repeat (first | refine js ?_ | refine jb ?_)
  refine WpD.condF rfl ?_
  repeat (first | refine js ?_ | refine jb ?_)
  refine jr ?_
  refine jS (ru_fieldAddr rfl rfl) ?_
  refine jS (ru_load1 rfl rfl rfl) ?_
  refine jS (rt_bin_to rfl rfl (fun w => run_eqi w _ _ _ _ _ _) (vbool (beqF (by first | assumption | omega)))) ?_
  refine ja rfl ?_
  refine RG.nil (by kernel_rfl) ?_
  repeat (first | refine js ?_ | refine jb ?_)
  refine WpD.condF rfl ?_
  repeat (first | refine js ?_ | refine jb ?_)
  refine jr ?_
  refine jS (ru_fieldAddr rfl rfl) ?_
  refine jS (ru_load1 rfl rfl rfl) ?_
  refine jS (rt_bin_to rfl rfl (fun w => run_eqi w _ _ _ _ _ _) (vbool (beqT (by first | assumption | omega)))) ?_
  refine jm rfl ?_
  refine RG.S0 (LT.run rfl rfl rfl (ru_fieldAddr rfl rfl)) ?_
  refine RG.S0 (LT.run rfl rfl rfl (ru_load1 rfl rfl rfl)) ?_
  refine RG.S0 (LT.run rfl rfl rfl (rt_bin_to rfl rfl (fun w => run_eqi w _ _ _ _ _ _) (vbool (beqT (by first | assumption | omega))))) ?_
  refine jS (rt_pick_true rfl rfl) ?_
  refine ja rfl ?_
  refine RG.nil (by kernel_rfl) ?_
  repeat (first | refine js ?_ | refine jb ?_)
  refine WpD.condT rfl ?_
  repeat (first | refine js ?_ | refine jb ?_)
  refine jr ?_
  refine jS (ru_fieldAddr rfl rfl) ?_
  refine jS (ru_load1 rfl rfl rfl) ?_
  refine jS (rt_bin_to rfl rfl (fun w => run_nei w _ _ _ _ _ _) (vbool (bneT (by first | assumption | omega)))) ?_
  refine ja rfl ?_
  refine RG.nil (by kernel_rfl) ?_
  repeat (first | refine js ?_ | refine jb ?_)
  refine WpD.ret ?_
  exact ret1 rfl (.tmp rfl) (PLe.refl _)
theorem shaped2 : Fn Tryz.prog En 111 [locP 2 (sy 2) 1] (ex (.bool true)) := by
  unfold locP
  refine fn_of_body Tryz.func111 rfl Tryz.ntmps111 rfl ?_
  intro w0 h0
  repeat (first | refine js ?_ | refine jb ?_)
  refine jr ?_
  refine jT (ru_boxR rfl rfl rfl) ?_
  refine ja rfl ?_
  refine RG.nil (by kernel_rfl) ?_
  repeat (first | refine js ?_ | refine jb ?_)
  refine jr ?_
  refine jS (ru_fieldAddr rfl rfl) ?_
  refine jS (ru_load1 rfl rfl rfl) ?_
  refine jS (rt_bin_to rfl rfl (fun w => run_nei w _ _ _ _ _ _) (vbool (bneF (by first | assumption | omega)))) ?_
  refine jm rfl ?_
  refine RG.S0 (LT.run rfl rfl rfl (ru_fieldAddr rfl rfl)) ?_
  refine RG.S0 (LT.run rfl rfl rfl (ru_load1 rfl rfl rfl)) ?_
  refine RG.S0 (LT.run rfl rfl rfl (ru_len rfl CSlice.ok)) ?_
  refine RG.S0 (LT.run rfl rfl rfl (rt_bin_to rfl rfl (fun w => run_eqi w _ _ _ _ _ _) (vbool (beqF (by first | assumption | omega))))) ?_
  refine jS (rt_pick_false rfl rfl) ?_
  refine RG.nil (by kernel_rfl) ?_
  repeat (first | refine js ?_ | refine jb ?_)
  refine WpD.condF rfl ?_
  repeat (first | refine js ?_ | refine jb ?_)
  refine WpD.skip ?_
  repeat (first | refine js ?_ | refine jb ?_)
  refine jr ?_
  refine ja rfl ?_
  refine ja rfl ?_
  refine RG.nil (by kernel_rfl) ?_
  repeat (first | refine js ?_ | refine jb ?_)
  refine jr ?_
  refine jS (ru_fieldAddr rfl rfl) ?_
  refine jS (ru_load1 rfl rfl rfl) ?_
  refine jS (ru_len rfl CSlice.ok) ?_
  refine jm rfl ?_
  refine RG.nil (by kernel_rfl) ?_
  repeat (first | refine js ?_ | refine jb ?_)
  refine WpD.loop (α := {i : Nat // i ≤ 1}) (fun i => ⟨[(1, .ptr 1 0), (2, .one (ex (.bool false))), (3, .one (ex (.int .i64 ((i.1 : Int) * 2)))), (4, .one (ex (.int .i64 ((i.1 : Int) - 1)))), (17, .one (slc 5 (rows (ccs (sy 2)) 1) 1)), (18, .one (ex (.int .i64 1))), (19, .one (ex (.int .i64 (i.1 : Int))))], [(1, [ex (.int .i64 2), slc 5 (rows (ccs (sy 2)) 1) 1])]⟩) (fun i => 1 - i.1) ⟨0, Nat.zero_le _⟩ ?_ ?_
  · refine Sub.mk ?_ ?_
    · repeat (first | exact trivial | refine jv rfl ?_ | refine jw rfl (js0 rfl) ?_ | refine jw rfl ⟨js0 rfl, js0 rfl⟩ ?_ | refine jx rfl ⟨js0 rfl, js0 rfl⟩ ?_ | refine jw rfl (clo_live (js0 rfl) (js0 rfl)) ?_ | refine ⟨⟨_, rfl, PLe.refl _⟩, trivial, ?_⟩)
    · repeat (first | exact trivial | refine jz ?_ | refine jy rfl ?_)
  rintro ⟨i, hi⟩
  dsimp only at hi ⊢
  by_cases hlt : i < 1
  · obtain rfl : i = 0 := by omega
    have hq : ((rows (ccs (sy 2)) 1).drop (0 * 5)).take 5 = [ex (.int .i64 0), ex (.int .i64 2), ex (.int .i64 1), ex (.bool true), ex (.int .i64 2)] := rows_get (ccs_len (sy 2)) hlt
    have w1 : IntKind.i64.wrap (((0 : Nat) : Int) + 1) = ((0 + 1 : Nat) : Int) := by decide
    have w2 : IntKind.i64.wrap (8 - ((0 : Nat) : Int) * 2) = 8 := by decide
    have w3 : IntKind.i64.wrap (((0 : Nat) : Int) * 2 + 2) = ((0 + 1 : Nat) : Int) * 2 := by decide
    repeat (first | refine js ?_ | refine jb ?_)
    refine jr ?_
    refine jS (rt_bin_to rfl rfl (fun w => run_lti w _ _ _ _ _ _) (vbool (decide_eq_true (by first | assumption | omega)))) ?_
    refine RG.nil (by kernel_rfl) ?_
    repeat (first | refine js ?_ | refine jb ?_)
    refine WpD.condT rfl ?_
    repeat (first | refine js ?_ | refine jb ?_)
    refine WpD.skip ?_
    repeat (first | refine js ?_ | refine jb ?_)
    refine jr ?_
    refine jS (rc_indexS rfl rfl hlt hq) ?_
    refine jS (rc_loadR rfl rfl rfl) ?_
    refine jT (ru_alloc rfl rfl rfl) ?_
    refine jO (ru_storeR rfl rfl rfl rfl rfl rfl) ?_
    refine RG.nil (by kernel_rfl) ?_
    repeat (first | refine js ?_ | refine jb ?_)
    refine jr ?_
    refine jS (ru_fieldAddr rfl rfl) ?_
    refine jS (ru_load1 rfl rfl rfl) ?_
    refine jm rfl ?_
    refine jS (rt_bin_to rfl rfl (fun w => run_lei w _ _ _ _ _ _) (vbool (decide_eq_false (by first | assumption | omega)))) ?_
    refine jm rfl ?_
    refine RG.S0 (LT.run rfl rfl rfl (ru_fieldAddr rfl rfl)) ?_
    refine RG.S0 (LT.run rfl rfl rfl (ru_load1 rfl rfl rfl)) ?_
    refine RG.S0 (LT.run rfl rfl rfl (rt_bin_to rfl rfl (fun w => run_gti w _ _ _ _ _ _) (vbool (decide_eq_false (by first | assumption | omega))))) ?_
    refine jS (rt_pick_false rfl rfl) ?_
    refine jm rfl ?_
    refine RG.S0 (LT.run rfl rfl rfl (ru_fieldAddr rfl rfl)) ?_
    refine RG.S0 (LT.run rfl rfl rfl (ru_load1 rfl rfl rfl)) ?_
    refine RG.S0 (LT.run rfl rfl rfl (rt_bin_to rfl rfl (fun w => run_lti w _ _ _ _ _ _) (vbool (decide_eq_false (by first | assumption | omega))))) ?_
    refine jS (rt_pick_false rfl rfl) ?_
    refine jm rfl ?_
    refine RG.S0 (LT.run rfl rfl rfl (ru_fieldAddr rfl rfl)) ?_
    refine RG.S0 (LT.run rfl rfl rfl (ru_load1 rfl rfl rfl)) ?_
    refine RG.S0 (LT.run rfl rfl rfl (rt_move rfl)) ?_
    refine RG.S0 (LT.run rfl rfl rfl (rt_bin_to rfl rfl (fun w => run_subi w _ _ _ _ _ _) (vint w2))) ?_
    refine RG.S0 (LT.run rfl rfl rfl (rt_bin_to rfl rfl (fun w => run_gti w _ _ _ _ _ _) (vbool (decide_eq_false (by first | assumption | omega))))) ?_
    refine jS (rt_pick_false rfl rfl) ?_
    refine RG.nil (by kernel_rfl) ?_
    repeat (first | refine js ?_ | refine jb ?_)
    refine WpD.condF rfl ?_
    repeat (first | refine js ?_ | refine jb ?_)
    refine WpD.skip ?_
    repeat (first | refine js ?_ | refine jb ?_)
    refine jr ?_
    refine jm rfl ?_
    refine jS (ru_fieldAddr rfl rfl) ?_
    refine jS (ru_load1 rfl rfl rfl) ?_
    refine jS (rt_bin_to rfl rfl (fun w => run_addi w _ _ _ _ _ _) (vint w3)) ?_
    refine ja rfl ?_
    refine RG.nil (by kernel_rfl) ?_
    repeat (first | refine js ?_ | refine jb ?_)
    refine jr ?_
    refine jS (ru_fieldAddr rfl rfl) ?_
    refine jS (ru_load1 rfl rfl rfl) ?_
    refine ja rfl ?_
    refine RG.nil (by kernel_rfl) ?_
    repeat (first | refine js ?_ | refine jb ?_)
    refine jr ?_
    refine jS (rt_bin_to rfl rfl (fun w => run_addi w _ _ _ _ _ _) (vint w1)) ?_
    refine jm rfl ?_
    refine RG.nil (by kernel_rfl) ?_
    refine ⟨⟨0 + 1, by omega⟩, ?_, by dsimp only; omega⟩
    refine Sub.mk ?_ ?_
    · repeat (first | exact trivial | refine jv rfl ?_ | refine jw rfl (js0 rfl) ?_ | refine jw rfl ⟨js0 rfl, js0 rfl⟩ ?_ | refine jx rfl ⟨js0 rfl, js0 rfl⟩ ?_ | refine jw rfl (clo_live (js0 rfl) (js0 rfl)) ?_ | refine ⟨⟨_, rfl, PLe.refl _⟩, trivial, ?_⟩)
    · repeat (first | exact trivial | refine jz ?_ | refine jy rfl ?_)
  · obtain rfl : i = 1 := by omega
    repeat (first | refine js ?_ | refine jb ?_)
    refine jr ?_
    refine jS (rt_bin_to rfl rfl (fun w => run_lti w _ _ _ _ _ _) (vbool (decide_eq_false (by first | assumption | omega)))) ?_
    refine RG.nil (by kernel_rfl) ?_
    repeat (first | refine js ?_ | refine jb ?_)
    refine WpD.condF rfl ?_
    repeat (first | refine js ?_ | refine jb ?_)
    refine WpD.exit ?_
    repeat (first | refine js ?_ | refine jb ?_)
    refine jr ?_
    refine ja rfl ?_
    refine RG.nil (by kernel_rfl) ?_
    repeat (first | refine js ?_ | refine jb ?_)
    refine WpD.ret ?_
    exact ret1 rfl (.tmp rfl) (PLe.refl _)
theorem valid2 : Fn Tryz.prog En 85 [locP 2 (sy 2) 1] (ex (.bool true)) := by
  have S1 := shaped2 En
  have L1 := legal2 En
  unfold locP at S1 ⊢
  refine fn_of_body Tryz.func85 rfl Tryz.ntmps85 rfl ?_
  intro w0 h0
  repeat (first | refine js ?_ | refine jb ?_)
  refine jr ?_
  refine jT (ru_boxR rfl rfl rfl) ?_
  refine ja rfl ?_
  refine RG.nil (by kernel_rfl) ?_
  repeat (first | refine js ?_ | refine jb ?_)
  refine jr ?_
  refine jS (ru_loadR rfl rfl rfl rfl) ?_
  refine jS (ru_call S1 ⟨rfl, trivial⟩) ?_
  refine jS (rt_un rfl (fun w => run_not w _)) ?_
  refine RG.nil (by kernel_rfl) ?_
  repeat (first | refine js ?_ | refine jb ?_)
  refine WpD.condF rfl ?_
  repeat (first | refine js ?_ | refine jb ?_)
  refine WpD.skip ?_
  repeat (first | refine js ?_ | refine jb ?_)
  refine jr ?_
  refine jS (ru_fieldAddr rfl rfl) ?_
  refine jS (ru_load1 rfl rfl rfl) ?_
  refine jS (ru_len rfl CSlice.ok) ?_
  refine jm rfl ?_
  refine RG.nil (by kernel_rfl) ?_
  repeat (first | refine js ?_ | refine jb ?_)
  refine WpD.loop (α := {i : Nat // i ≤ 1}) (fun i => ⟨[(1, .ptr 1 0), (2, .one (ex (.bool false))), (9, .one (slc 5 (rows (ccs (sy 2)) 1) 1)), (10, .one (ex (.int .i64 1))), (11, .one (ex (.int .i64 (i.1 : Int))))], [(1, [ex (.int .i64 2), slc 5 (rows (ccs (sy 2)) 1) 1])]⟩) (fun i => 1 - i.1) ⟨0, Nat.zero_le _⟩ ?_ ?_
  · refine Sub.mk ?_ ?_
    · repeat (first | exact trivial | refine jv rfl ?_ | refine jw rfl (js0 rfl) ?_ | refine jw rfl ⟨js0 rfl, js0 rfl⟩ ?_ | refine jx rfl ⟨js0 rfl, js0 rfl⟩ ?_ | refine jw rfl (clo_live (js0 rfl) (js0 rfl)) ?_ | refine ⟨⟨_, rfl, PLe.refl _⟩, trivial, ?_⟩)
    · repeat (first | exact trivial | refine jz ?_ | refine jy rfl ?_)
  rintro ⟨i, hi⟩
  dsimp only at hi ⊢
  by_cases hlt : i < 1
  · obtain rfl : i = 0 := by omega
    have hq : ((rows (ccs (sy 2)) 1).drop (0 * 5)).take 5 = coc (sy 2 0) := rows_get (ccs_len (sy 2)) hlt
    have w1 : IntKind.i64.wrap (((0 : Nat) : Int) + 1) = ((0 + 1 : Nat) : Int) := by decide
    repeat (first | refine js ?_ | refine jb ?_)
    refine jr ?_
    refine jS (rt_bin_to rfl rfl (fun w => run_lti w _ _ _ _ _ _) (vbool (decide_eq_true (by first | assumption | omega)))) ?_
    refine RG.nil (by kernel_rfl) ?_
    repeat (first | refine js ?_ | refine jb ?_)
    refine WpD.condT rfl ?_
    repeat (first | refine js ?_ | refine jb ?_)
    refine WpD.skip ?_
    repeat (first | refine js ?_ | refine jb ?_)
    refine jr ?_
    refine jS (rc_indexS rfl rfl hlt hq) ?_
    refine jS (rc_loadR rfl rfl rfl) ?_
    refine jT (ru_alloc rfl rfl rfl) ?_
    refine jO (ru_storeR rfl rfl rfl rfl rfl rfl) ?_
    refine RG.nil (by kernel_rfl) ?_
    repeat (first | refine js ?_ | refine jb ?_)
    refine jr ?_
    refine jS (ru_loadR rfl rfl rfl rfl) ?_
    refine jS (ru_call L1 ⟨rfl, trivial⟩) ?_
    refine jS (rt_un rfl (fun w => run_not w _)) ?_
    refine RG.nil (by kernel_rfl) ?_
    repeat (first | refine js ?_ | refine jb ?_)
    refine WpD.condF rfl ?_
    repeat (first | refine js ?_ | refine jb ?_)
    refine WpD.skip ?_
    repeat (first | refine js ?_ | refine jb ?_)
    refine jr ?_
    refine jS (rt_bin_to rfl rfl (fun w => run_addi w _ _ _ _ _ _) (vint w1)) ?_
    refine jm rfl ?_
    refine RG.nil (by kernel_rfl) ?_
    refine ⟨⟨0 + 1, by omega⟩, ?_, by dsimp only; omega⟩
    refine Sub.mk ?_ ?_
    · repeat (first | exact trivial | refine jv rfl ?_ | refine jw rfl (js0 rfl) ?_ | refine jw rfl ⟨js0 rfl, js0 rfl⟩ ?_ | refine jx rfl ⟨js0 rfl, js0 rfl⟩ ?_ | refine jw rfl (clo_live (js0 rfl) (js0 rfl)) ?_ | refine ⟨⟨_, rfl, PLe.refl _⟩, trivial, ?_⟩)
    · repeat (first | exact trivial | refine jz ?_ | refine jy rfl ?_)
  · obtain rfl : i = 1 := by omega
    repeat (first | refine js ?_ | refine jb ?_)
    refine jr ?_
    refine jS (rt_bin_to rfl rfl (fun w => run_lti w _ _ _ _ _ _) (vbool (decide_eq_false (by first | assumption | omega)))) ?_
    refine RG.nil (by kernel_rfl) ?_
    repeat (first | refine js ?_ | refine jb ?_)
    refine WpD.condF rfl ?_
    repeat (first | refine js ?_ | refine jb ?_)
    refine WpD.exit ?_
    repeat (first | refine js ?_ | refine jb ?_)
    refine jr ?_
    refine ja rfl ?_
    refine RG.nil (by kernel_rfl) ?_
    repeat (first | refine js ?_ | refine jb ?_)
    refine WpD.ret ?_
    exact ret1 rfl (.tmp rfl) (PLe.refl _)
theorem accept2 : Fn Tryz.prog En 56 [locP 2 (sy 2) 1] (ex (.bool true)) := by
  have S1 := valid2 En
  unfold locP at S1 ⊢
  refine fn_of_body Tryz.func56 rfl Tryz.ntmps56 rfl ?_
  intro w0 h0
  repeat (first | refine js ?_ | refine jb ?_)
  refine jr ?_
  refine jT (ru_boxR rfl rfl rfl) ?_
  refine ja rfl ?_
  refine RG.nil (by kernel_rfl) ?_
  repeat (first | refine js ?_ | refine jb ?_)
  refine jr ?_
  refine jS (ru_fieldAddr rfl rfl) ?_
  refine jS (ru_load1 rfl rfl rfl) ?_
  refine jS (rt_bin_to rfl rfl (fun w => run_eqi w _ _ _ _ _ _) (vbool (beqT (by first | assumption | omega)))) ?_
  refine RG.nil (by kernel_rfl) ?_
  repeat (first | refine js ?_ | refine jb ?_)
  refine WpD.condT rfl ?_
  repeat (first | refine js ?_ | refine jb ?_)
  refine jr ?_
  refine jS (ru_loadR rfl rfl rfl rfl) ?_
  refine jS (ru_call S1 ⟨rfl, trivial⟩) ?_
  refine jm rfl ?_
  first | refine RG.S0 (LT.run rfl rfl rfl (ru_loadR rfl rfl rfl rfl)) ?_ | refine RG.S0 (LT.skip rfl rfl rfl) ?_ | refine RG.S0 (LT.skipU rfl rfl rfl) ?_
  first | refine RG.S0 (LT.run rfl rfl rfl (ru_call missing_contract ⟨rfl, trivial⟩)) ?_ | refine RG.S0 (LT.skip rfl rfl rfl) ?_ | refine RG.S0 (LT.skipU rfl rfl rfl) ?_
  first | refine jS (rt_pick_true rfl rfl) ?_ | refine jS (rt_pick_false rfl rfl) ?_
  refine ja rfl ?_
  refine RG.nil (by kernel_rfl) ?_
  repeat (first | refine js ?_ | refine jb ?_)
  refine WpD.ret ?_
  exact ret1 rfl (.tmp rfl) (PLe.refl _)
theorem symb2 : Fn Tryz.prog En 24 [ex (.int .i64 2), ex (.int .i64 1), ex (.int .i64 2)] (locP 2 (sy 2) 1) := by
  unfold locP
  refine fn_of_body Tryz.func24 rfl Tryz.ntmps24 rfl ?_
  intro w0 h0
  repeat (first | refine js ?_ | refine jb ?_)
  refine jr ?_
  refine jT (ru_alloc rfl rfl rfl) ?_
  refine RG.nil (by kernel_rfl) ?_
  repeat (first | refine js ?_ | refine jb ?_)
  refine jr ?_
  refine jm rfl ?_
  refine jm rfl ?_
  refine jm rfl ?_
  refine jS (ru_build (ps := [(_, _), (_, _), (_, _), (_, _)]) ⟨rfl, Part.c rfl, rfl, Part.c rfl, rfl, Part.c rfl, rfl, Part.c rfl, trivial⟩ rfl) ?_
  refine jS (rc_buildR (ps := [(_, _)]) ⟨rfl, Part.c rfl, trivial⟩ rfl rfl rfl) ?_
  refine jS (ru_build (ps := [(_, _), (_, _)]) ⟨rfl, Part.c rfl, rfl, Part.c rfl, trivial⟩ rfl) ?_
  refine jO (ru_storeR rfl rfl rfl rfl rfl rfl) ?_
  refine RG.nil (by kernel_rfl) ?_
  repeat (first | refine js ?_ | refine jb ?_)
  refine WpD.ret ?_
  exact ret1 rfl (.cell rfl rfl CRow.ok rfl) (PLe.refl _)
end
theorem okl2 : OkL (sy 2) 1 := ⟨by omega, by omega, fun _ _ => by show (0 : Int) ≤ 0; omega, fun _ _ => by show (0 : Int) ≤ 100; omega, fun _ _ => by show (1 : Int) ≤ 2; omega, fun _ _ => by show (2 : Int) ≤ 8; omega, fun i j h1 h2 => by omega⟩
section
variable (En : Ev)
theorem legal3 : Fn Tryz.prog En 112 [aggP (coc (sy 3 0))] (ex (.bool true)) := by
  have w1 : IntKind.i64.wrap ((3 : Int) - 3) = 0 := by decide
  have w2 : (0 : Int).tmod 2 = 0 := by decide
  unfold coc sy
  dsimp only
  refine fn_of_body Tryz.func112 rfl Tryz.ntmps112 rfl ?_
  intro w0 h0
  repeat (first | refine js ?_ | refine jb ?_)
  refine jr ?_
  refine jT (ru_boxR rfl rfl rfl) ?_
  refine ja rfl ?_
  refine RG.nil (by kernel_rfl) ?_
  repeat (first | refine js ?_ | refine jb ?_)
  refine jr ?_
  refine jS (ru_fieldAddr rfl rfl) ?_
  refine jS (ru_load1 rfl rfl rfl) ?_
  refine jS (rt_bin_to rfl rfl (fun w => run_lti w _ _ _ _ _ _) (vbool (decide_eq_false (by first | assumption | omega)))) ?_
  refine jm rfl ?_
  refine RG.S0 (LT.run rfl rfl rfl (ru_fieldAddr rfl rfl)) ?_
  refine RG.S0 (LT.run rfl rfl rfl (ru_load1 rfl rfl rfl)) ?_
  refine RG.S0 (LT.run rfl rfl rfl (rt_bin_to rfl rfl (fun w => run_gti w _ _ _ _ _ _) (vbool (decide_eq_false (by first | assumption | omega))))) ?_
  refine jS (rt_pick_false rfl rfl) ?_
  refine jm rfl ?_
  refine RG.S0 (LT.run rfl rfl rfl (ru_fieldAddr rfl rfl)) ?_
  refine RG.S0 (LT.run rfl rfl rfl (ru_load1 rfl rfl rfl)) ?_
  refine RG.S0 (LT.run rfl rfl rfl (rt_bin_to rfl rfl (fun w => run_lti w _ _ _ _ _ _) (vbool (decide_eq_false (by first | assumption | omega))))) ?_
  refine jS (rt_pick_false rfl rfl) ?_
  refine jm rfl ?_
  refine RG.S0 (LT.run rfl rfl rfl (ru_fieldAddr rfl rfl)) ?_
  refine RG.S0 (LT.run rfl rfl rfl (ru_load1 rfl rfl rfl)) ?_
  refine RG.S0 (LT.run rfl rfl rfl (rt_bin_to rfl rfl (fun w => run_gti w _ _ _ _ _ _) (vbool (decide_eq_false (by first | assumption | omega))))) ?_
  refine jS (rt_pick_false rfl rfl) ?_
  refine RG.nil (by kernel_rfl) ?_
  repeat (first | refine js ?_ | refine jb ?_)
  refine WpD.condF rfl ?_
  repeat (first | refine js ?_ | refine jb ?_)
  refine WpD.skip ?_
  repeat (first | refine js ?_ | refine jb ?_)
  refine jr ?_
  refine jS (ru_fieldAddr rfl rfl) ?_
  refine jS (ru_load1 rfl rfl rfl) ?_
  refine jS (rt_bin_to rfl rfl (fun w => run_nei w _ _ _ _ _ _) (vbool (bneF (by first | assumption | omega)))) ?_
  refine jm rfl ?_
  refine RG.S0 (LT.skip rfl rfl rfl) ?_
  refine RG.S0 (LT.skip rfl rfl rfl) ?_
  refine RG.S0 (LT.skip rfl rfl rfl) ?_
  refine jS (rt_pick_false rfl rfl) ?_
  refine jm rfl ?_
  refine RG.S0 (LT.run rfl rfl rfl (ru_fieldAddr rfl rfl)) ?_
  refine RG.S0 (LT.run rfl rfl rfl (ru_load1 rfl rfl rfl)) ?_
  refine RG.S0 (LT.run rfl rfl rfl (rt_bin_to rfl rfl (fun w => run_lti w _ _ _ _ _ _) (vbool (decide_eq_false (by first | assumption | omega))))) ?_
  refine jS (rt_pick_false rfl rfl) ?_
  refine jm rfl ?_
  refine RG.S0 (LT.run rfl rfl rfl (ru_fieldAddr rfl rfl)) ?_
  refine RG.S0 (LT.run rfl rfl rfl (ru_load1 rfl rfl rfl)) ?_
  refine RG.S0 (LT.run rfl rfl rfl (rt_bin_to rfl rfl (fun w => run_gti w _ _ _ _ _ _) (vbool (decide_eq_false (by first | assumption | omega))))) ?_
  refine jS (rt_pick_false rfl rfl) ?_
  refine RG.nil (by kernel_rfl) ?_
  repeat (first | refine js ?_ | refine jb ?_)
  refine WpD.condF rfl ?_
  repeat (first | refine js ?_ | refine jb ?_)
  refine WpD.skip ?_
  repeat (first | refine js ?_ | refine jb ?_)
  refine jr ?_
  refine jS (ru_fieldAddr rfl rfl) ?_
  refine jS (ru_load1 rfl rfl rfl) ?_
  refine jS (rt_un rfl (fun w => run_not w _)) ?_
  refine RG.nil (by kernel_rfl) ?_
  repeat (first | refine js ?_ | refine jb ?_)
  refine WpD.condF rfl ?_
  repeat (first | refine js ?_ | refine jb ?_)
  refine WpD.skip ?_
  repeat (first | refine js ?_ | refine jb ?_)
  refine jr ?_
  refine jS (ru_fieldAddr rfl rfl) ?_
  refine jS (ru_load1 rfl rfl rfl) ?_
  refine jS (ru_fieldAddr rfl rfl) ?_
  refine jS (ru_load1 rfl rfl rfl) ?_
  refine jS (rt_bin_to rfl rfl (fun w => run_subi w _ _ _ _ _ _) (vint w1)) ?_
  refine jS (rt_bin_to rfl rfl (fun w => run_remi w _ _ _ _ _ _ (by first | decide | omega | assumption)) (vint w2)) ?_
  refine jS (rt_bin_to rfl rfl (fun w => run_nei w _ _ _ _ _ _) (vbool (bneF (by first | assumption | omega)))) ?_
  refine RG.nil (by kernel_rfl) ?_
  repeat (first | refine js ?_ | refine jb ?_)
  refine WpD.condF rfl ?_
  repeat (first | refine js ?_ | refine jb ?_)
  refine WpD.skip ?_
  repeat (first | refine js ?_ | refine jb ?_)
  refine jr ?_
  refine jS (ru_fieldAddr rfl rfl) ?_
  refine jS (ru_load1 rfl rfl rfl) ?_
  refine jS (rt_bin_to rfl rfl (fun w => run_eqi w _ _ _ _ _ _) (vbool (beqF (by first | assumption | omega)))) ?_
  refine jm rfl ?_
  refine RG.S0 (LT.skip rfl rfl rfl) ?_
  refine RG.S0 (LT.skip rfl rfl rfl) ?_
  refine RG.S0 (LT.skip rfl rfl rfl) ?_
  refine jS (rt_pick_false rfl rfl) ?_
  refine ja rfl ?_
  refine RG.nil (by kernel_rfl) ?_
  repeat (first | refine js ?_ | refine jb ?_)
  refine WpD.condF rfl ?_
  repeat (first | refine js ?_ | refine jb ?_)
  refine jr ?_
  refine jS (ru_fieldAddr rfl rfl) ?_
  refine jS (ru_load1 rfl rfl rfl) ?_
  refine jS (rt_bin_to rfl rfl (fun w => run_eqi w _ _ _ _ _ _) (vbool (beqF (by first | assumption | omega)))) ?_
  refine ja rfl ?_
  refine RG.nil (by kernel_rfl) ?_
  repeat (first | refine js ?_ | refine jb ?_)
  refine WpD.condF rfl ?_
  repeat (first | refine js ?_ | refine jb ?_)
  refine jr ?_
  refine jS (ru_fieldAddr rfl rfl) ?_
  refine jS (ru_load1 rfl rfl rfl) ?_
  refine jS (rt_bin_to rfl rfl (fun w => run_eqi w _ _ _ _ _ _) (vbool (beqF (by first | assumption | omega)))) ?_
  refine jm rfl ?_
  refine RG.S0 (LT.skip rfl rfl rfl) ?_
  refine RG.S0 (LT.skip rfl rfl rfl) ?_
  refine RG.S0 (LT.skip rfl rfl rfl) ?_
  refine jS (rt_pick_false rfl rfl) ?_
  refine ja rfl ?_
  refine RG.nil (by kernel_rfl) ?_
  repeat (first | refine js ?_ | refine jb ?_)
  refine WpD.condF rfl ?_
  repeat (first | refine js ?_ | refine jb ?_)
  refine jr ?_
  refine jS (ru_fieldAddr rfl rfl) ?_
  refine jS (ru_load1 rfl rfl rfl) ?_
  refine jS (rt_bin_to rfl rfl (fun w => run_eqi w _ _ _ _ _ _) (vbool (beqF (by first | assumption | omega)))) ?_
  refine ja rfl ?_
  refine RG.nil (by kernel_rfl) ?_
  repeat (first | refine js ?_ | refine jb ?_)
  refine WpD.condF rfl ?_
  repeat (first | refine js ?_ | refine jb ?_)
  refine WpD.skip ?_
  repeat (first | refine js ?_ | refine jb ?_)
  refine jr ?_
  refine ja rfl ?_
  refine RG.nil (by kernel_rfl) ?_
  repeat (first | refine js ?_ | refine jb ?_)
  refine WpD.ret ?_
  exact ret1 rfl (.tmp rfl) (PLe.refl _)
theorem shaped3 : Fn Tryz.prog En 111 [locP 2 (sy 3) 1] (ex (.bool true)) := by
  unfold locP
  refine fn_of_body Tryz.func111 rfl Tryz.ntmps111 rfl ?_
  intro w0 h0
  repeat (first | refine js ?_ | refine jb ?_)
  refine jr ?_
  refine jT (ru_boxR rfl rfl rfl) ?_
  refine ja rfl ?_
  refine RG.nil (by kernel_rfl) ?_
  repeat (first | refine js ?_ | refine jb ?_)
  refine jr ?_
  refine jS (ru_fieldAddr rfl rfl) ?_
  refine jS (ru_load1 rfl rfl rfl) ?_
  refine jS (rt_bin_to rfl rfl (fun w => run_nei w _ _ _ _ _ _) (vbool (bneF (by first | assumption | omega)))) ?_
  refine jm rfl ?_
  refine RG.S0 (LT.run rfl rfl rfl (ru_fieldAddr rfl rfl)) ?_
  refine RG.S0 (LT.run rfl rfl rfl (ru_load1 rfl rfl rfl)) ?_
  refine RG.S0 (LT.run rfl rfl rfl (ru_len rfl CSlice.ok)) ?_
  refine RG.S0 (LT.run rfl rfl rfl (rt_bin_to rfl rfl (fun w => run_eqi w _ _ _ _ _ _) (vbool (beqF (by first | assumption | omega))))) ?_
  refine jS (rt_pick_false rfl rfl) ?_
  refine RG.nil (by kernel_rfl) ?_
  repeat (first | refine js ?_ | refine jb ?_)
  refine WpD.condF rfl ?_
  repeat (first | refine js ?_ | refine jb ?_)
  refine WpD.skip ?_
  repeat (first | refine js ?_ | refine jb ?_)
  refine jr ?_
  refine ja rfl ?_
  refine ja rfl ?_
  refine RG.nil (by kernel_rfl) ?_
  repeat (first | refine js ?_ | refine jb ?_)
  refine jr ?_
  refine jS (ru_fieldAddr rfl rfl) ?_
  refine jS (ru_load1 rfl rfl rfl) ?_
  refine jS (ru_len rfl CSlice.ok) ?_
  refine jm rfl ?_
  refine RG.nil (by kernel_rfl) ?_
  repeat (first | refine js ?_ | refine jb ?_)
  refine WpD.loop (α := {i : Nat // i ≤ 1}) (fun i => ⟨[(1, .ptr 1 0), (2, .one (ex (.bool false))), (3, .one (ex (.int .i64 ((i.1 : Int) * 3)))), (4, .one (ex (.int .i64 ((i.1 : Int) - 1)))), (17, .one (slc 5 (rows (ccs (sy 3)) 1) 1)), (18, .one (ex (.int .i64 1))), (19, .one (ex (.int .i64 (i.1 : Int))))], [(1, [ex (.int .i64 2), slc 5 (rows (ccs (sy 3)) 1) 1])]⟩) (fun i => 1 - i.1) ⟨0, Nat.zero_le _⟩ ?_ ?_
  · refine Sub.mk ?_ ?_
    · repeat (first | exact trivial | refine jv rfl ?_ | refine jw rfl (js0 rfl) ?_ | refine jw rfl ⟨js0 rfl, js0 rfl⟩ ?_ | refine jx rfl ⟨js0 rfl, js0 rfl⟩ ?_ | refine jw rfl (clo_live (js0 rfl) (js0 rfl)) ?_ | refine ⟨⟨_, rfl, PLe.refl _⟩, trivial, ?_⟩)
    · repeat (first | exact trivial | refine jz ?_ | refine jy rfl ?_)
  rintro ⟨i, hi⟩
  dsimp only at hi ⊢
  by_cases hlt : i < 1
  · obtain rfl : i = 0 := by omega
    have hq : ((rows (ccs (sy 3)) 1).drop (0 * 5)).take 5 = [ex (.int .i64 0), ex (.int .i64 3), ex (.int .i64 1), ex (.bool true), ex (.int .i64 3)] := rows_get (ccs_len (sy 3)) hlt
    have w1 : IntKind.i64.wrap (((0 : Nat) : Int) + 1) = ((0 + 1 : Nat) : Int) := by decide
    have w2 : IntKind.i64.wrap (8 - ((0 : Nat) : Int) * 3) = 8 := by decide
    have w3 : IntKind.i64.wrap (((0 : Nat) : Int) * 3 + 3) = ((0 + 1 : Nat) : Int) * 3 := by decide
    repeat (first | refine js ?_ | refine jb ?_)
    refine jr ?_
    refine jS (rt_bin_to rfl rfl (fun w => run_lti w _ _ _ _ _ _) (vbool (decide_eq_true (by first | assumption | omega)))) ?_
    refine RG.nil (by kernel_rfl) ?_
    repeat (first | refine js ?_ | refine jb ?_)
    refine WpD.condT rfl ?_
    repeat (first | refine js ?_ | refine jb ?_)
    refine WpD.skip ?_
    repeat (first | refine js ?_ | refine jb ?_)
    refine jr ?_
    refine jS (rc_indexS rfl rfl hlt hq) ?_
    refine jS (rc_loadR rfl rfl rfl) ?_
    refine jT (ru_alloc rfl rfl rfl) ?_
    refine jO (ru_storeR rfl rfl rfl rfl rfl rfl) ?_
    refine RG.nil (by kernel_rfl) ?_
    repeat (first | refine js ?_ | refine jb ?_)
    refine jr ?_
    refine jS (ru_fieldAddr rfl rfl) ?_
    refine jS (ru_load1 rfl rfl rfl) ?_
    refine jm rfl ?_
    refine jS (rt_bin_to rfl rfl (fun w => run_lei w _ _ _ _ _ _) (vbool (decide_eq_false (by first | assumption | omega)))) ?_
    refine jm rfl ?_
    refine RG.S0 (LT.run rfl rfl rfl (ru_fieldAddr rfl rfl)) ?_
    refine RG.S0 (LT.run rfl rfl rfl (ru_load1 rfl rfl rfl)) ?_
    refine RG.S0 (LT.run rfl rfl rfl (rt_bin_to rfl rfl (fun w => run_gti w _ _ _ _ _ _) (vbool (decide_eq_false (by first | assumption | omega))))) ?_
    refine jS (rt_pick_false rfl rfl) ?_
    refine jm rfl ?_
    refine RG.S0 (LT.run rfl rfl rfl (ru_fieldAddr rfl rfl)) ?_
    refine RG.S0 (LT.run rfl rfl rfl (ru_load1 rfl rfl rfl)) ?_
    refine RG.S0 (LT.run rfl rfl rfl (rt_bin_to rfl rfl (fun w => run_lti w _ _ _ _ _ _) (vbool (decide_eq_false (by first | assumption | omega))))) ?_
    refine jS (rt_pick_false rfl rfl) ?_
    refine jm rfl ?_
    refine RG.S0 (LT.run rfl rfl rfl (ru_fieldAddr rfl rfl)) ?_
    refine RG.S0 (LT.run rfl rfl rfl (ru_load1 rfl rfl rfl)) ?_
    refine RG.S0 (LT.run rfl rfl rfl (rt_move rfl)) ?_
    refine RG.S0 (LT.run rfl rfl rfl (rt_bin_to rfl rfl (fun w => run_subi w _ _ _ _ _ _) (vint w2))) ?_
    refine RG.S0 (LT.run rfl rfl rfl (rt_bin_to rfl rfl (fun w => run_gti w _ _ _ _ _ _) (vbool (decide_eq_false (by first | assumption | omega))))) ?_
    refine jS (rt_pick_false rfl rfl) ?_
    refine RG.nil (by kernel_rfl) ?_
    repeat (first | refine js ?_ | refine jb ?_)
    refine WpD.condF rfl ?_
    repeat (first | refine js ?_ | refine jb ?_)
    refine WpD.skip ?_
    repeat (first | refine js ?_ | refine jb ?_)
    refine jr ?_
    refine jm rfl ?_
    refine jS (ru_fieldAddr rfl rfl) ?_
    refine jS (ru_load1 rfl rfl rfl) ?_
    refine jS (rt_bin_to rfl rfl (fun w => run_addi w _ _ _ _ _ _) (vint w3)) ?_
    refine ja rfl ?_
    refine RG.nil (by kernel_rfl) ?_
    repeat (first | refine js ?_ | refine jb ?_)
    refine jr ?_
    refine jS (ru_fieldAddr rfl rfl) ?_
    refine jS (ru_load1 rfl rfl rfl) ?_
    refine ja rfl ?_
    refine RG.nil (by kernel_rfl) ?_
    repeat (first | refine js ?_ | refine jb ?_)
    refine jr ?_
    refine jS (rt_bin_to rfl rfl (fun w => run_addi w _ _ _ _ _ _) (vint w1)) ?_
    refine jm rfl ?_
    refine RG.nil (by kernel_rfl) ?_
    refine ⟨⟨0 + 1, by omega⟩, ?_, by dsimp only; omega⟩
    refine Sub.mk ?_ ?_
    · repeat (first | exact trivial | refine jv rfl ?_ | refine jw rfl (js0 rfl) ?_ | refine jw rfl ⟨js0 rfl, js0 rfl⟩ ?_ | refine jx rfl ⟨js0 rfl, js0 rfl⟩ ?_ | refine jw rfl (clo_live (js0 rfl) (js0 rfl)) ?_ | refine ⟨⟨_, rfl, PLe.refl _⟩, trivial, ?_⟩)
    · repeat (first | exact trivial | refine jz ?_ | refine jy rfl ?_)
  · obtain rfl : i = 1 := by omega
    repeat (first | refine js ?_ | refine jb ?_)
    refine jr ?_
    refine jS (rt_bin_to rfl rfl (fun w => run_lti w _ _ _ _ _ _) (vbool (decide_eq_false (by first | assumption | omega)))) ?_
    refine RG.nil (by kernel_rfl) ?_
    repeat (first | refine js ?_ | refine jb ?_)
    refine WpD.condF rfl ?_
    repeat (first | refine js ?_ | refine jb ?_)
    refine WpD.exit ?_
    repeat (first | refine js ?_ | refine jb ?_)
    refine jr ?_
    refine ja rfl ?_
    refine RG.nil (by kernel_rfl) ?_
    repeat (first | refine js ?_ | refine jb ?_)
    refine WpD.ret ?_
    exact ret1 rfl (.tmp rfl) (PLe.refl _)
theorem valid3 : Fn Tryz.prog En 85 [locP 2 (sy 3) 1] (ex (.bool true)) := by
  have S1 := shaped3 En
  have L1 := legal3 En
  unfold locP at S1 ⊢
  refine fn_of_body Tryz.func85 rfl Tryz.ntmps85 rfl ?_
  intro w0 h0
  repeat (first | refine js ?_ | refine jb ?_)
  refine jr ?_
  refine jT (ru_boxR rfl rfl rfl) ?_
  refine ja rfl ?_
  refine RG.nil (by kernel_rfl) ?_
  repeat (first | refine js ?_ | refine jb ?_)
  refine jr ?_
  refine jS (ru_loadR rfl rfl rfl rfl) ?_
  refine jS (ru_call S1 ⟨rfl, trivial⟩) ?_
  refine jS (rt_un rfl (fun w => run_not w _)) ?_
  refine RG.nil (by kernel_rfl) ?_
  repeat (first | refine js ?_ | refine jb ?_)
  refine WpD.condF rfl ?_
  repeat (first | refine js ?_ | refine jb ?_)
  refine WpD.skip ?_
  repeat (first | refine js ?_ | refine jb ?_)
  refine jr ?_
  refine jS (ru_fieldAddr rfl rfl) ?_
  refine jS (ru_load1 rfl rfl rfl) ?_
  refine jS (ru_len rfl CSlice.ok) ?_
  refine jm rfl ?_
  refine RG.nil (by kernel_rfl) ?_
  repeat (first | refine js ?_ | refine jb ?_)
  refine WpD.loop (α := {i : Nat // i ≤ 1}) (fun i => ⟨[(1, .ptr 1 0), (2, .one (ex (.bool false))), (9, .one (slc 5 (rows (ccs (sy 3)) 1) 1)), (10, .one (ex (.int .i64 1))), (11, .one (ex (.int .i64 (i.1 : Int))))], [(1, [ex (.int .i64 2), slc 5 (rows (ccs (sy 3)) 1) 1])]⟩) (fun i => 1 - i.1) ⟨0, Nat.zero_le _⟩ ?_ ?_
  · refine Sub.mk ?_ ?_
    · repeat (first | exact trivial | refine jv rfl ?_ | refine jw rfl (js0 rfl) ?_ | refine jw rfl ⟨js0 rfl, js0 rfl⟩ ?_ | refine jx rfl ⟨js0 rfl, js0 rfl⟩ ?_ | refine jw rfl (clo_live (js0 rfl) (js0 rfl)) ?_ | refine ⟨⟨_, rfl, PLe.refl _⟩, trivial, ?_⟩)
    · repeat (first | exact trivial | refine jz ?_ | refine jy rfl ?_)
  rintro ⟨i, hi⟩
  dsimp only at hi ⊢
  by_cases hlt : i < 1
  · obtain rfl : i = 0 := by omega
    have hq : ((rows (ccs (sy 3)) 1).drop (0 * 5)).take 5 = coc (sy 3 0) := rows_get (ccs_len (sy 3)) hlt
    have w1 : IntKind.i64.wrap (((0 : Nat) : Int) + 1) = ((0 + 1 : Nat) : Int) := by decide
    repeat (first | refine js ?_ | refine jb ?_)
    refine jr ?_
    refine jS (rt_bin_to rfl rfl (fun w => run_lti w _ _ _ _ _ _) (vbool (decide_eq_true (by first | assumption | omega)))) ?_
    refine RG.nil (by kernel_rfl) ?_
    repeat (first | refine js ?_ | refine jb ?_)
    refine WpD.condT rfl ?_
    repeat (first | refine js ?_ | refine jb ?_)
    refine WpD.skip ?_
    repeat (first | refine js ?_ | refine jb ?_)
    refine jr ?_
    refine jS (rc_indexS rfl rfl hlt hq) ?_
    refine jS (rc_loadR rfl rfl rfl) ?_
    refine jT (ru_alloc rfl rfl rfl) ?_
    refine jO (ru_storeR rfl rfl rfl rfl rfl rfl) ?_
    refine RG.nil (by kernel_rfl) ?_
    repeat (first | refine js ?_ | refine jb ?_)
    refine jr ?_
    refine jS (ru_loadR rfl rfl rfl rfl) ?_
    refine jS (ru_call L1 ⟨rfl, trivial⟩) ?_
    refine jS (rt_un rfl (fun w => run_not w _)) ?_
    refine RG.nil (by kernel_rfl) ?_
    repeat (first | refine js ?_ | refine jb ?_)
    refine WpD.condF rfl ?_
    repeat (first | refine js ?_ | refine jb ?_)
    refine WpD.skip ?_
    repeat (first | refine js ?_ | refine jb ?_)
    refine jr ?_
    refine jS (rt_bin_to rfl rfl (fun w => run_addi w _ _ _ _ _ _) (vint w1)) ?_
    refine jm rfl ?_
    refine RG.nil (by kernel_rfl) ?_
    refine ⟨⟨0 + 1, by omega⟩, ?_, by dsimp only; omega⟩
    refine Sub.mk ?_ ?_
    · repeat (first | exact trivial | refine jv rfl ?_ | refine jw rfl (js0 rfl) ?_ | refine jw rfl ⟨js0 rfl, js0 rfl⟩ ?_ | refine jx rfl ⟨js0 rfl, js0 rfl⟩ ?_ | refine jw rfl (clo_live (js0 rfl) (js0 rfl)) ?_ | refine ⟨⟨_, rfl, PLe.refl _⟩, trivial, ?_⟩)
    · repeat (first | exact trivial | refine jz ?_ | refine jy rfl ?_)
  · obtain rfl : i = 1 := by omega
    repeat (first | refine js ?_ | refine jb ?_)
    refine jr ?_
    refine jS (rt_bin_to rfl rfl (fun w => run_lti w _ _ _ _ _ _) (vbool (decide_eq_false (by first | assumption | omega)))) ?_
    refine RG.nil (by kernel_rfl) ?_
    repeat (first | refine js ?_ | refine jb ?_)
    refine WpD.condF rfl ?_
    repeat (first | refine js ?_ | refine jb ?_)
    refine WpD.exit ?_
    repeat (first | refine js ?_ | refine jb ?_)
    refine jr ?_
    refine ja rfl ?_
    refine RG.nil (by kernel_rfl) ?_
    repeat (first | refine js ?_ | refine jb ?_)
    refine WpD.ret ?_
    exact ret1 rfl (.tmp rfl) (PLe.refl _)
theorem accept3 : Fn Tryz.prog En 56 [locP 2 (sy 3) 1] (ex (.bool true)) := by
  have S1 := valid3 En
  unfold locP at S1 ⊢
  refine fn_of_body Tryz.func56 rfl Tryz.ntmps56 rfl ?_
  intro w0 h0
  repeat (first | refine js ?_ | refine jb ?_)
  refine jr ?_
  refine jT (ru_boxR rfl rfl rfl) ?_
  refine ja rfl ?_
  refine RG.nil (by kernel_rfl) ?_
  repeat (first | refine js ?_ | refine jb ?_)
  refine jr ?_
  refine jS (ru_fieldAddr rfl rfl) ?_
  refine jS (ru_load1 rfl rfl rfl) ?_
  refine jS (rt_bin_to rfl rfl (fun w => run_eqi w _ _ _ _ _ _) (vbool (beqT (by first | assumption | omega)))) ?_
  refine RG.nil (by kernel_rfl) ?_
  repeat (first | refine js ?_ | refine jb ?_)
  refine WpD.condT rfl ?_
  repeat (first | refine js ?_ | refine jb ?_)
  refine jr ?_
  refine jS (ru_loadR rfl rfl rfl rfl) ?_
  refine jS (ru_call S1 ⟨rfl, trivial⟩) ?_
  refine jm rfl ?_
  first | refine RG.S0 (LT.run rfl rfl rfl (ru_loadR rfl rfl rfl rfl)) ?_ | refine RG.S0 (LT.skip rfl rfl rfl) ?_ | refine RG.S0 (LT.skipU rfl rfl rfl) ?_
  first | refine RG.S0 (LT.run rfl rfl rfl (ru_call missing_contract ⟨rfl, trivial⟩)) ?_ | refine RG.S0 (LT.skip rfl rfl rfl) ?_ | refine RG.S0 (LT.skipU rfl rfl rfl) ?_
  first | refine jS (rt_pick_true rfl rfl) ?_ | refine jS (rt_pick_false rfl rfl) ?_
  refine ja rfl ?_
  refine RG.nil (by kernel_rfl) ?_
  repeat (first | refine js ?_ | refine jb ?_)
  refine WpD.ret ?_
  exact ret1 rfl (.tmp rfl) (PLe.refl _)
theorem symb3 : Fn Tryz.prog En 24 [ex (.int .i64 3), ex (.int .i64 1), ex (.int .i64 3)] (locP 2 (sy 3) 1) := by
  unfold locP
  refine fn_of_body Tryz.func24 rfl Tryz.ntmps24 rfl ?_
  intro w0 h0
  repeat (first | refine js ?_ | refine jb ?_)
  refine jr ?_
  refine jT (ru_alloc rfl rfl rfl) ?_
  refine RG.nil (by kernel_rfl) ?_
  repeat (first | refine js ?_ | refine jb ?_)
  refine jr ?_
  refine jm rfl ?_
  refine jm rfl ?_
  refine jm rfl ?_
  refine jS (ru_build (ps := [(_, _), (_, _), (_, _), (_, _)]) ⟨rfl, Part.c rfl, rfl, Part.c rfl, rfl, Part.c rfl, rfl, Part.c rfl, trivial⟩ rfl) ?_
  refine jS (rc_buildR (ps := [(_, _)]) ⟨rfl, Part.c rfl, trivial⟩ rfl rfl rfl) ?_
  refine jS (ru_build (ps := [(_, _), (_, _)]) ⟨rfl, Part.c rfl, rfl, Part.c rfl, trivial⟩ rfl) ?_
  refine jO (ru_storeR rfl rfl rfl rfl rfl rfl) ?_
  refine RG.nil (by kernel_rfl) ?_
  repeat (first | refine js ?_ | refine jb ?_)
  refine WpD.ret ?_
  exact ret1 rfl (.cell rfl rfl CRow.ok rfl) (PLe.refl _)
end
theorem okl3 : OkL (sy 3) 1 := ⟨by omega, by omega, fun _ _ => by show (0 : Int) ≤ 0; omega, fun _ _ => by show (0 : Int) ≤ 100; omega, fun _ _ => by show (1 : Int) ≤ 3; omega, fun _ _ => by show (3 : Int) ≤ 8; omega, fun i j h1 h2 => by omega⟩
theorem fits_b : fits false true 0 1 := ⟨by decide, by decide, by decide, by decide, by decide⟩
theorem fits_n : fits false false 0 0 := ⟨by decide, by decide, by decide, by decide, by decide⟩
theorem fits2 : fits true false 2 7 := ⟨by decide, by decide, by decide, by decide, by decide⟩
theorem fits3 : fits true false 3 9 := ⟨by decide, by decide, by decide, by decide, by decide⟩
def sdW (a b : Nat) (e : Int) : Nat := if e = 0 then a else if e = -1 ∨ e = 1 then b else 0
def ssW (a b c : Int) (e : Int) : Int := if e = 0 then a else if e = -1 ∨ e = 1 then b else c
theorem spec2 (e : Int) (h1 : -1 ≤ e) (h2 : e ≤ 1000) : Fn Tryz.prog TabD 36 [locP 2 (sy 2) 1, ex (.int .i64 e)] (aggP [ex (.int .i64 ((sdW 1 1 e : Nat) : Int)), ex (.int .i64 (ssW 0 0 1 e))]) := by
  by_cases e0 : e = 0
  · subst e0
    have D := mdyadicO 0 2 1 2 7 (by omega) (by omega) (by omega) fits2
    exact mspecies2 (sy 2) 1 0 (by omega) (by omega) (by omega) _ ⟨_, _, rfl⟩ D
  · by_cases e1 : e = -1 ∨ e = 1
    · have D := mdyadicE e 0 1 0 true 1 (by omega) (by omega) fits_b
      have c1 : spC (sy 2) e 1 = ⟨e, 0, 1, false, 0⟩ := if_neg (fun h => e0 h.symm)
      have c2 : spB (sy 2) e 1 = true := by
        have h1 : ¬ (sy 2 0).e = e := fun h => e0 h.symm
        have h2 : (sy 2 0).e = e - 1 ∨ (sy 2 0).e = e + 1 := by show (0 : Int) = e - 1 ∨ (0 : Int) = e + 1; omega
        rw [spB, if_neg h1, if_pos h2]
        rfl
      rw [← c1, ← c2] at D
      rw [show sdW 1 1 e = 1 by unfold sdW; rw [if_neg e0, if_pos e1], show ssW 0 0 1 e = 0 by unfold ssW; rw [if_neg e0, if_pos e1]]
      exact mspecies2 (sy 2) 1 e (by omega) (by omega) (by omega) _ ⟨_, _, rfl⟩ D
    · have D := mdyadicE e 0 1 0 false 0 (by omega) (by omega) fits_n
      have c1 : spC (sy 2) e 1 = ⟨e, 0, 1, false, 0⟩ := if_neg (fun h => e0 h.symm)
      have c2 : spB (sy 2) e 1 = false := by
        have h1 : ¬ (sy 2 0).e = e := fun h => e0 h.symm
        have h2 : ¬ ((sy 2 0).e = e - 1 ∨ (sy 2 0).e = e + 1) := by show ¬ ((0 : Int) = e - 1 ∨ (0 : Int) = e + 1); omega
        rw [spB, if_neg h1, if_neg h2]
        rfl
      rw [← c1, ← c2] at D
      rw [show sdW 1 1 e = 0 by unfold sdW; rw [if_neg e0, if_neg e1], show ssW 0 0 1 e = 1 by unfold ssW; rw [if_neg e0, if_neg e1]]
      exact mspecies2 (sy 2) 1 e (by omega) (by omega) (by omega) _ ⟨_, _, rfl⟩ D
theorem mass2 : Fn Tryz.prog TabD 15 [locP 2 (sy 2) 1] (tupP [halfP (mkRat 1 8) false, ex (.int .i64 0)]) := by
  have A := accept2 TabD
  have X := mCross TabD 2 (sy 2) 1 okl2 (by omega) (by omega) A
  have M := mMass TabD 2 (sy 2) 1 okl2 (by omega) (by omega) (((2 : Int) : Rat) ^ 0) false ((szq_pow (sz_z (z := 2) (by omega) (by omega)) 0).mono (by omega)) X (mTypes1 TabD (sy 2) rfl A) (sdW 1 1) (ssW 0 0 1) (fun e => by unfold sdW; split <;> (try split) <;> omega) (fun e => by unfold ssW; split <;> (try split) <;> omega) spec2
  rw [show mpr 2 (sdW 1 1) (ssW 0 0 1) (((2 : Int) : Rat) ^ 0 * ((2 : Int) : Rat) ^ 0) (((sy 2 (1 - 1)).e).toNat + 3) = mkRat 1 8 by decide +kernel] at M
  exact M
theorem spec3 (e : Int) (h1 : -1 ≤ e) (h2 : e ≤ 1000) : Fn Tryz.prog TabD 36 [locP 2 (sy 3) 1, ex (.int .i64 e)] (aggP [ex (.int .i64 ((sdW 2 1 e : Nat) : Int)), ex (.int .i64 (ssW (-1) 0 1 e))]) := by
  by_cases e0 : e = 0
  · subst e0
    have D := mdyadicO 0 3 1 3 9 (by omega) (by omega) (by omega) fits3
    exact mspecies2 (sy 3) 1 0 (by omega) (by omega) (by omega) _ ⟨_, _, rfl⟩ D
  · by_cases e1 : e = -1 ∨ e = 1
    · have D := mdyadicE e 0 1 0 true 1 (by omega) (by omega) fits_b
      have c1 : spC (sy 3) e 1 = ⟨e, 0, 1, false, 0⟩ := if_neg (fun h => e0 h.symm)
      have c2 : spB (sy 3) e 1 = true := by
        have h1 : ¬ (sy 3 0).e = e := fun h => e0 h.symm
        have h2 : (sy 3 0).e = e - 1 ∨ (sy 3 0).e = e + 1 := by show (0 : Int) = e - 1 ∨ (0 : Int) = e + 1; omega
        rw [spB, if_neg h1, if_pos h2]
        rfl
      rw [← c1, ← c2] at D
      rw [show sdW 2 1 e = 1 by unfold sdW; rw [if_neg e0, if_pos e1], show ssW (-1) 0 1 e = 0 by unfold ssW; rw [if_neg e0, if_pos e1]]
      exact mspecies2 (sy 3) 1 e (by omega) (by omega) (by omega) _ ⟨_, _, rfl⟩ D
    · have D := mdyadicE e 0 1 0 false 0 (by omega) (by omega) fits_n
      have c1 : spC (sy 3) e 1 = ⟨e, 0, 1, false, 0⟩ := if_neg (fun h => e0 h.symm)
      have c2 : spB (sy 3) e 1 = false := by
        have h1 : ¬ (sy 3 0).e = e := fun h => e0 h.symm
        have h2 : ¬ ((sy 3 0).e = e - 1 ∨ (sy 3 0).e = e + 1) := by show ¬ ((0 : Int) = e - 1 ∨ (0 : Int) = e + 1); omega
        rw [spB, if_neg h1, if_neg h2]
        rfl
      rw [← c1, ← c2] at D
      rw [show sdW 2 1 e = 0 by unfold sdW; rw [if_neg e0, if_neg e1], show ssW (-1) 0 1 e = 1 by unfold ssW; rw [if_neg e0, if_neg e1]]
      exact mspecies2 (sy 3) 1 e (by omega) (by omega) (by omega) _ ⟨_, _, rfl⟩ D
theorem mass3 : Fn Tryz.prog TabD 15 [locP 2 (sy 3) 1] (tupP [halfP (mkRat 1 12) false, ex (.int .i64 0)]) := by
  have A := accept3 TabD
  have X := mCross TabD 2 (sy 3) 1 okl3 (by omega) (by omega) A
  have M := mMass TabD 2 (sy 3) 1 okl3 (by omega) (by omega) (((2 : Int) : Rat) ^ 0) false ((szq_pow (sz_z (z := 2) (by omega) (by omega)) 0).mono (by omega)) X (mTypes1 TabD (sy 3) rfl A) (sdW 2 1) (ssW (-1) 0 1) (fun e => by unfold sdW; split <;> (try split) <;> omega) (fun e => by unfold ssW; split <;> (try split) <;> omega) spec3
  rw [show mpr 2 (sdW 2 1) (ssW (-1) 0 1) (((2 : Int) : Rat) ^ 0 * ((2 : Int) : Rat) ^ 0) (((sy 3 (1 - 1)).e).toNat + 3) = mkRat 1 12 by decide +kernel] at M
  exact M
theorem std3 : stdA 3 1 2 = tupP [qC (mkRat 2 3), ex (.int .i64 0)] := by
  unfold stdA
  rw [if_pos (by omega), if_pos (by decide +kernel), show stdQ (3 : Int).toNat 1 2 = mkRat 2 3 by decide +kernel]
theorem awake32 : Fn Tryz.prog TabD 10 [] (ex (.bool true)) := by
  have A1 := symb2 TabD
  have A2 := mass2
  have B1 := symb3 TabD
  have B2 := mass3
  have D1 := (mStandard 3 1 2).tab
  rw [std3] at D1
  have F1 := rformat_frac TabD (mkRat 1 8) 1 1 ((sz_two (by decide +kernel)).mono (by omega)) (by decide +kernel) (by decide +kernel) (by omega) (by decide +kernel) (by omega) (by decide +kernel) (by omega) (by decide +kernel) (by omega)
  have F2 := rformat_frac TabD (mkRat 1 12) 1 2 ((sz_two (by decide +kernel)).mono (by omega)) (by decide +kernel) (by decide +kernel) (by omega) (by decide +kernel) (by omega) (by decide +kernel) (by omega) (by decide +kernel) (by omega)
  have F3 := rformat_frac TabD (mkRat 2 3) 1 1 ((sz_two (by decide +kernel)).mono (by omega)) (by decide +kernel) (by decide +kernel) (by omega) (by decide +kernel) (by omega) (by decide +kernel) (by omega) (by decide +kernel) (by omega)
  have t1 : ((txt (fmtL (mkRat 1 8).num 1) ++ (⟨#[47]⟩ : ByteArray) ++ txt (fmtL (mkRat 1 8).den 1)).toList == (⟨#[49, 47, 56]⟩ : ByteArray).toList) = true := eq_text (by rw [ByteArray.data_append, ByteArray.data_append]; decide +kernel)
  have t2 : ((txt (fmtL (mkRat 1 12).num 1) ++ (⟨#[47]⟩ : ByteArray) ++ txt (fmtL (mkRat 1 12).den 2)).toList == (⟨#[49, 47, 49, 50]⟩ : ByteArray).toList) = true := eq_text (by rw [ByteArray.data_append, ByteArray.data_append]; decide +kernel)
  have t3 : ((txt (fmtL (mkRat 2 3).num 1) ++ (⟨#[47]⟩ : ByteArray) ++ txt (fmtL (mkRat 2 3).den 1)).toList == (⟨#[50, 47, 51]⟩ : ByteArray).toList) = true := eq_text (by rw [ByteArray.data_append, ByteArray.data_append]; decide +kernel)
  unfold halfP at A2 B2
  refine fn_of_body Tryz.func10 rfl Tryz.ntmps10 rfl ?_
  intro w0 h0
  repeat (first | refine js ?_ | refine jb ?_)
  refine jr ?_
  refine ja rfl ?_
  refine RG.nil (by kernel_rfl) ?_
  repeat (first | refine js ?_ | refine jb ?_)
  refine jr ?_
  refine jS (ru_call A1 ⟨rfl, rfl, rfl, trivial⟩) ?_
  refine jS (ru_call A2 ⟨rfl, trivial⟩) ?_
  refine jm rfl ?_
  refine jS (rt_extract rfl rfl) ?_
  refine jS (rt_extract rfl rfl) ?_
  refine jT (ru_alloc rfl rfl rfl) ?_
  refine jO (ru_storeR rfl rfl rfl rfl rfl rfl) ?_
  refine ja rfl ?_
  refine RG.nil (by kernel_rfl) ?_
  repeat (first | refine js ?_ | refine jb ?_)
  refine jr ?_
  refine jS (ru_call B1 ⟨rfl, rfl, rfl, trivial⟩) ?_
  refine jS (ru_call B2 ⟨rfl, trivial⟩) ?_
  refine jm rfl ?_
  refine jS (rt_extract rfl rfl) ?_
  refine jS (rt_extract rfl rfl) ?_
  refine jT (ru_alloc rfl rfl rfl) ?_
  refine jO (ru_storeR rfl rfl rfl rfl rfl rfl) ?_
  refine ja rfl ?_
  refine RG.nil (by kernel_rfl) ?_
  repeat (first | refine js ?_ | refine jb ?_)
  refine jr ?_
  refine jS (ru_call D1 ⟨rfl, rfl, rfl, trivial⟩) ?_
  refine jm rfl ?_
  refine jS (rt_extract rfl rfl) ?_
  refine jS (rt_extract rfl rfl) ?_
  refine jT (ru_alloc rfl rfl rfl) ?_
  refine jO (ru_storeR rfl rfl rfl rfl rfl rfl) ?_
  refine ja rfl ?_
  refine RG.nil (by kernel_rfl) ?_
  repeat (first | refine js ?_ | refine jb ?_)
  refine jr ?_
  refine jm rfl ?_
  refine jS (rt_bin rfl rfl (fun w => run_eqi w _ _ _ _ _ _)) ?_
  refine jm rfl ?_
  first | refine RG.S0 (LT.run rfl rfl rfl (rt_move rfl)) ?_ | refine RG.S0 (LT.skip rfl rfl rfl) ?_ | refine RG.S0 (LT.skipU rfl rfl rfl) ?_
  first | refine RG.S0 (LT.run rfl rfl rfl (rt_bin rfl rfl (fun w => run_eqi w _ _ _ _ _ _))) ?_ | refine RG.S0 (LT.skip rfl rfl rfl) ?_ | refine RG.S0 (LT.skipU rfl rfl rfl) ?_
  first | refine jS (rt_pick_true rfl rfl) ?_ | refine jS (rt_pick_false rfl rfl) ?_
  refine jm rfl ?_
  first | refine RG.S0 (LT.run rfl rfl rfl (rt_move rfl)) ?_ | refine RG.S0 (LT.skip rfl rfl rfl) ?_ | refine RG.S0 (LT.skipU rfl rfl rfl) ?_
  first | refine RG.S0 (LT.run rfl rfl rfl (rt_bin rfl rfl (fun w => run_eqi w _ _ _ _ _ _))) ?_ | refine RG.S0 (LT.skip rfl rfl rfl) ?_ | refine RG.S0 (LT.skipU rfl rfl rfl) ?_
  first | refine jS (rt_pick_true rfl rfl) ?_ | refine jS (rt_pick_false rfl rfl) ?_
  refine jm rfl ?_
  first | refine RG.S0 (LT.run rfl rfl rfl (ru_fieldAddr rfl rfl)) ?_ | refine RG.S0 (LT.skip rfl rfl rfl) ?_ | refine RG.S0 (LT.skipU rfl rfl rfl) ?_
  first | refine RG.S0 (LT.run rfl rfl rfl (ru_loadR rfl rfl rfl rfl)) ?_ | refine RG.S0 (LT.skip rfl rfl rfl) ?_ | refine RG.S0 (LT.skipU rfl rfl rfl) ?_
  first | refine RG.S0 (LT.run rfl rfl rfl (ru_call F1 ⟨rfl, trivial⟩)) ?_ | refine RG.S0 (LT.skip rfl rfl rfl) ?_ | refine RG.S0 (LT.skipU rfl rfl rfl) ?_
  first | refine RG.S0 (LT.run rfl rfl rfl (rt_bin_to rfl rfl (fun w => run_eqs w CStr.ok _ _ _ _) (vbool t1))) ?_ | refine RG.S0 (LT.skip rfl rfl rfl) ?_ | refine RG.S0 (LT.skipU rfl rfl rfl) ?_
  first | refine jS (rt_pick_true rfl rfl) ?_ | refine jS (rt_pick_false rfl rfl) ?_
  refine jm rfl ?_
  first | refine RG.S0 (LT.run rfl rfl rfl (ru_fieldAddr rfl rfl)) ?_ | refine RG.S0 (LT.skip rfl rfl rfl) ?_ | refine RG.S0 (LT.skipU rfl rfl rfl) ?_
  first | refine RG.S0 (LT.run rfl rfl rfl (ru_loadR rfl rfl rfl rfl)) ?_ | refine RG.S0 (LT.skip rfl rfl rfl) ?_ | refine RG.S0 (LT.skipU rfl rfl rfl) ?_
  first | refine RG.S0 (LT.run rfl rfl rfl (ru_call F2 ⟨rfl, trivial⟩)) ?_ | refine RG.S0 (LT.skip rfl rfl rfl) ?_ | refine RG.S0 (LT.skipU rfl rfl rfl) ?_
  first | refine RG.S0 (LT.run rfl rfl rfl (rt_bin_to rfl rfl (fun w => run_eqs w CStr.ok _ _ _ _) (vbool t2))) ?_ | refine RG.S0 (LT.skip rfl rfl rfl) ?_ | refine RG.S0 (LT.skipU rfl rfl rfl) ?_
  first | refine jS (rt_pick_true rfl rfl) ?_ | refine jS (rt_pick_false rfl rfl) ?_
  refine jm rfl ?_
  first | refine RG.S0 (LT.run rfl rfl rfl (ru_loadR rfl rfl rfl rfl)) ?_ | refine RG.S0 (LT.skip rfl rfl rfl) ?_ | refine RG.S0 (LT.skipU rfl rfl rfl) ?_
  first | refine RG.S0 (LT.run rfl rfl rfl (ru_call F3 ⟨rfl, trivial⟩)) ?_ | refine RG.S0 (LT.skip rfl rfl rfl) ?_ | refine RG.S0 (LT.skipU rfl rfl rfl) ?_
  first | refine RG.S0 (LT.run rfl rfl rfl (rt_bin_to rfl rfl (fun w => run_eqs w CStr.ok _ _ _ _) (vbool t3))) ?_ | refine RG.S0 (LT.skip rfl rfl rfl) ?_ | refine RG.S0 (LT.skipU rfl rfl rfl) ?_
  first | refine jS (rt_pick_true rfl rfl) ?_ | refine jS (rt_pick_false rfl rfl) ?_
  refine jm rfl ?_
  first | refine RG.S0 (LT.run rfl rfl rfl (ru_fieldAddr rfl rfl)) ?_ | refine RG.S0 (LT.skip rfl rfl rfl) ?_ | refine RG.S0 (LT.skipU rfl rfl rfl) ?_
  first | refine RG.S0 (LT.run rfl rfl rfl (ru_load1 rfl rfl rfl)) ?_ | refine RG.S0 (LT.skip rfl rfl rfl) ?_ | refine RG.S0 (LT.skipU rfl rfl rfl) ?_
  first | refine RG.S0 (LT.run rfl rfl rfl (rt_un rfl (fun w => run_not w _))) ?_ | refine RG.S0 (LT.skip rfl rfl rfl) ?_ | refine RG.S0 (LT.skipU rfl rfl rfl) ?_
  first | refine jS (rt_pick_true rfl rfl) ?_ | refine jS (rt_pick_false rfl rfl) ?_
  refine ja rfl ?_
  refine RG.nil (by kernel_rfl) ?_
  repeat (first | refine js ?_ | refine jb ?_)
  refine WpD.ret ?_
  exact ret1 rfl (.tmp rfl) (PLe.refl _)
end Go.Proofs.YtpiflllcjgpkhaaGreatDoor

/- The classes of all units: the law's walk. -/
import Derived.Test.YtnhbdldchoepfaaDoorUb
namespace Go.Proofs.YtnhbdldchoepfaaDoor
open Go.RowKit Limb Num
theorem fUnitLaw (s : Bool) (l : List Nat) (k raw : Int) (wild : Bool) (hl : Lm l) (k1 : 0 ≤ k) (k2 : k ≤ 255) :
    Fn Tryd.prog TabE 3 [zR s l, ex (.int .u8 k), ex (.int .i64 raw), ex (.bool wild)] (ex (.bool true)) := by
  have C1 := flong TabE s l
  by_cases hlong : 20 < l.length
  · rw [decide_eq_true (by omega)] at C1
    refine fn_of_body Tryd.func3 rfl Tryd.ntmps3 rfl ?_
    intro w0 h0
    repeat (first | refine WpD.seq ?_ | refine WpD.block ?_)
    refine WpD.reg ?_
    refine RG.S1 (LT.plain rfl (ru_boxR rfl rfl rfl)) ?_
    refine RG.S0 (LT.plain rfl (rt_assign rfl)) ?_
    refine RG.nil (by kernel_rfl) ?_
    repeat (first | refine WpD.seq ?_ | refine WpD.block ?_)
    refine WpD.reg ?_
    first | refine RG.S0 (LT.plain rfl (ru_loadR rfl rfl rfl rfl)) ?_ | refine RG.S0 (LT.plain rfl (rc_loadR rfl rfl rfl)) ?_
    refine RG.S0 (LT.plain rfl (ru_call C1 ⟨rfl, trivial⟩)) ?_
    refine RG.nil (by kernel_rfl) ?_
    repeat (first | refine WpD.seq ?_ | refine WpD.block ?_)
    refine WpD.condT rfl ?_
    repeat (first | refine WpD.seq ?_ | refine WpD.block ?_)
    refine WpD.reg ?_
    refine RG.S0 (LT.plain rfl (ru_call fawake trivial)) ?_
    refine RG.S0 (LT.plain rfl (rt_assign rfl)) ?_
    refine RG.nil (by kernel_rfl) ?_
    repeat (first | refine WpD.seq ?_ | refine WpD.block ?_)
    refine WpD.ret ?_
    exact ret1 rfl (.tmp rfl) (PLe.refl _)
  · rw [decide_eq_false (by omega)] at C1
    have C2 := fprime TabE k k1 k2
    refine fn_of_body Tryd.func3 rfl Tryd.ntmps3 rfl ?_
    intro w0 h0
    repeat (first | refine WpD.seq ?_ | refine WpD.block ?_)
    refine WpD.reg ?_
    refine RG.S1 (LT.plain rfl (ru_boxR rfl rfl rfl)) ?_
    refine RG.S0 (LT.plain rfl (rt_assign rfl)) ?_
    refine RG.nil (by kernel_rfl) ?_
    repeat (first | refine WpD.seq ?_ | refine WpD.block ?_)
    refine WpD.reg ?_
    first | refine RG.S0 (LT.plain rfl (ru_loadR rfl rfl rfl rfl)) ?_ | refine RG.S0 (LT.plain rfl (rc_loadR rfl rfl rfl)) ?_
    refine RG.S0 (LT.plain rfl (ru_call C1 ⟨rfl, trivial⟩)) ?_
    refine RG.nil (by kernel_rfl) ?_
    repeat (first | refine WpD.seq ?_ | refine WpD.block ?_)
    refine WpD.condF rfl ?_
    repeat (first | refine WpD.seq ?_ | refine WpD.block ?_)
    refine WpD.skip ?_
    repeat (first | refine WpD.seq ?_ | refine WpD.block ?_)
    refine WpD.reg ?_
    refine RG.S0 (LT.plain rfl (rt_move rfl)) ?_
    refine RG.S0 (LT.plain rfl (ru_call C2 ⟨rfl, trivial⟩)) ?_
    refine RG.S0 (LT.plain rfl (rt_assign rfl)) ?_
    refine RG.nil (by kernel_rfl) ?_
    refine WpD.cut (α := Int) (fun p => ⟨[(4, .ptr 4 0), (9, .one (ex (.int .i64 p)))], [(4, [ex (.bool s), mag l])]⟩) ?_ ?_
    · cases wild with
      | true =>
        repeat (first | refine WpD.seq ?_ | refine WpD.block ?_)
        refine WpD.reg ?_
        refine RG.S0 (LT.plain rfl (rt_move rfl)) ?_
        refine RG.nil (by kernel_rfl) ?_
        repeat (first | refine WpD.seq ?_ | refine WpD.block ?_)
        refine WpD.condT rfl ?_
        repeat (first | refine WpD.seq ?_ | refine WpD.block ?_)
        refine WpD.reg ?_
        refine RG.S0 (LT.plain rfl (rt_move rfl)) ?_
        refine RG.S0 (LT.plain rfl (rt_assign rfl)) ?_
        refine RG.nil (by kernel_rfl) ?_
        refine ⟨raw, ?_⟩
        refine Sub.mk ?_ ?_
        · repeat (first | exact trivial | refine ⟨⟨_, rfl, ⟨rfl, rfl⟩⟩, Option.some_ne_none _, ?_⟩ | refine ⟨⟨_, rfl, ⟨rfl, rfl, rfl, rfl⟩⟩, Option.some_ne_none _, ?_⟩ | refine ⟨⟨_, rfl, PLe.refl _⟩, trivial, ?_⟩)
        · repeat (first | exact trivial | refine ⟨⟨_, rfl, PsLe.refl _⟩, ?_⟩)
      | false =>
        repeat (first | refine WpD.seq ?_ | refine WpD.block ?_)
        refine WpD.reg ?_
        refine RG.S0 (LT.plain rfl (rt_move rfl)) ?_
        refine RG.nil (by kernel_rfl) ?_
        repeat (first | refine WpD.seq ?_ | refine WpD.block ?_)
        refine WpD.condF rfl ?_
        repeat (first | refine WpD.seq ?_ | refine WpD.block ?_)
        refine WpD.skip ?_
        refine ⟨pr20 (k % 20).toNat, ?_⟩
        refine Sub.mk ?_ ?_
        · repeat (first | exact trivial | refine ⟨⟨_, rfl, ⟨rfl, rfl⟩⟩, Option.some_ne_none _, ?_⟩ | refine ⟨⟨_, rfl, ⟨rfl, rfl, rfl, rfl⟩⟩, Option.some_ne_none _, ?_⟩ | refine ⟨⟨_, rfl, PLe.refl _⟩, trivial, ?_⟩)
        · repeat (first | exact trivial | refine ⟨⟨_, rfl, PsLe.refl _⟩, ?_⟩)
    intro p
    have C3 := iunit s l p hl (by omega)
    have C4 := funit TabE s l p hl (by omega)
    generalize unitV (zv s l) p = V at *
    generalize unitE (zv s l) p = E at *
    have bv : (V == V) = true := beq_self_eq_true V
    have be : (E == E) = true := beq_self_eq_true E
    repeat (first | refine WpD.seq ?_ | refine WpD.block ?_)
    refine WpD.reg ?_
    first | refine RG.S0 (LT.plain rfl (ru_loadR rfl rfl rfl rfl)) ?_ | refine RG.S0 (LT.plain rfl (rc_loadR rfl rfl rfl)) ?_
    refine RG.S0 (LT.plain rfl (rt_move rfl)) ?_
    refine RG.S0 (LT.plain rfl (ru_call C3 ⟨rfl, rfl, trivial⟩)) ?_
    refine RG.S0 (LT.plain rfl (rt_move rfl)) ?_
    refine RG.S0 (LT.plain rfl (rt_extract rfl rfl)) ?_
    refine RG.S0 (LT.plain rfl (rt_extract rfl rfl)) ?_
    refine RG.S0 (LT.plain rfl (rt_assign rfl)) ?_
    refine RG.S0 (LT.plain rfl (rt_assign rfl)) ?_
    refine RG.nil (by kernel_rfl) ?_
    repeat (first | refine WpD.seq ?_ | refine WpD.block ?_)
    refine WpD.reg ?_
    first | refine RG.S0 (LT.plain rfl (ru_loadR rfl rfl rfl rfl)) ?_ | refine RG.S0 (LT.plain rfl (rc_loadR rfl rfl rfl)) ?_
    refine RG.S0 (LT.plain rfl (rt_move rfl)) ?_
    refine RG.S0 (LT.plain rfl (ru_call C4 ⟨rfl, rfl, trivial⟩)) ?_
    refine RG.S0 (LT.plain rfl (rt_move rfl)) ?_
    refine RG.S0 (LT.plain rfl (rt_extract rfl rfl)) ?_
    refine RG.S0 (LT.plain rfl (rt_extract rfl rfl)) ?_
    refine RG.S0 (LT.plain rfl (rt_assign rfl)) ?_
    refine RG.S0 (LT.plain rfl (rt_assign rfl)) ?_
    refine RG.nil (by kernel_rfl) ?_
    repeat (first | refine WpD.seq ?_ | refine WpD.block ?_)
    refine WpD.reg ?_
    refine RG.S0 (LT.plain rfl (rt_move rfl)) ?_
    refine RG.S0 (LT.plain rfl (rt_move rfl)) ?_
    refine RG.S0 (LT.plain rfl (rt_bin_to rfl rfl (fun w => run_eqi w _ _ _ _ _ _) (vbool bv))) ?_
    refine RG.S0 (LT.plain rfl (rt_move rfl)) ?_
    first | refine RG.S0 (LT.run rfl rfl rfl (rt_move rfl)) ?_ | refine RG.S0 (LT.skip rfl rfl rfl) ?_
    first | refine RG.S0 (LT.run rfl rfl rfl (rt_move rfl)) ?_ | refine RG.S0 (LT.skip rfl rfl rfl) ?_
    first | refine RG.S0 (LT.run rfl rfl rfl (rt_bin_to rfl rfl (fun w => run_eqi w _ _ _ _ _ _) (vbool be))) ?_ | refine RG.S0 (LT.skip rfl rfl rfl) ?_
    first | refine RG.S0 (LT.plain rfl (rt_pick_true rfl rfl)) ?_ | refine RG.S0 (LT.plain rfl (rt_pick_false rfl rfl)) ?_
    refine RG.S0 (LT.plain rfl (rt_move rfl)) ?_
    first | refine RG.S0 (LT.run rfl rfl rfl (ru_call fawake trivial)) ?_ | refine RG.S0 (LT.skip rfl rfl rfl) ?_
    first | refine RG.S0 (LT.plain rfl (rt_pick_true rfl rfl)) ?_ | refine RG.S0 (LT.plain rfl (rt_pick_false rfl rfl)) ?_
    refine RG.S0 (LT.plain rfl (rt_assign rfl)) ?_
    refine RG.nil (by kernel_rfl) ?_
    repeat (first | refine WpD.seq ?_ | refine WpD.block ?_)
    refine WpD.ret ?_
    exact ret1 rfl (.tmp rfl) (PLe.refl _)
end Go.Proofs.YtnhbdldchoepfaaDoor

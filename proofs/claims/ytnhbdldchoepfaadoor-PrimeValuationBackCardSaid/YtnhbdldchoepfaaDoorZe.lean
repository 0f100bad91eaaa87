/- Integers of the reference: Normalize, Neg, Mul, Quo, Gcd, Pow, Cmp. -/
import Derived.Test.YtnhbdldchoepfaaDoorZd
import Derived.Test.YtnhbdldchoepfaaDoorQ
import Derived.Test.YtnhbdldchoepfaaDoorIb
import Derived.Test.YtnhbdldchoepfaaDoorQv
set_option maxRecDepth 3000
namespace Go.Proofs.YtnhbdldchoepfaaDoor
open Go.RowKit Limb
section
variable (En : Ev)
theorem znorm (s : Bool) (l : List Nat) (hl : l.length ≤ 1099511627776) : Fn Tryd.prog En 37 [zR s l] (zC (zv s l)) := by
  have C1 := fmake En s l hl
  refine fn_of_body Tryd.func37 rfl Tryd.ntmps37 rfl ?_
  intro w0 h0
  repeat (first | refine js ?_ | refine jb ?_)
  refine jr ?_
  refine jT (ru_boxR rfl rfl rfl) ?_
  refine jT (ru_alloc rfl rfl rfl) ?_
  refine RG.nil (by kernel_rfl) ?_
  repeat (first | refine js ?_ | refine jb ?_)
  refine jr ?_
  refine jS (ru_fieldAddr rfl rfl) ?_
  refine jS (ru_load1 rfl rfl rfl) ?_
  refine jS (ru_fieldAddr rfl rfl) ?_
  refine jS (ru_load1 rfl rfl rfl) ?_
  refine jS (ru_call C1 ⟨rfl, rfl, trivial⟩) ?_
  refine jO (ru_storeR rfl rfl rfl rfl rfl rfl) ?_
  refine RG.nil (by kernel_rfl) ?_
  repeat (first | refine js ?_ | refine jb ?_)
  refine WpD.ret ?_
  exact ret1 rfl (.cell rfl rfl CRow.ok rfl) (PLe.refl _)
theorem zneg (s : Bool) (l : List Nat) (hl : l.length ≤ 1099511627776) : Fn Tryd.prog En 74 [zR s l] (zC (-(zv s l))) := by
  have C1 := fmake En (!s) l hl
  rw [show zv (!s) l = -(zv s l) by unfold zv sgnZ; cases s <;> simp] at C1
  refine fn_of_body Tryd.func74 rfl Tryd.ntmps74 rfl ?_
  intro w0 h0
  repeat (first | refine js ?_ | refine jb ?_)
  refine jr ?_
  refine jT (ru_boxR rfl rfl rfl) ?_
  refine jT (ru_alloc rfl rfl rfl) ?_
  refine RG.nil (by kernel_rfl) ?_
  repeat (first | refine js ?_ | refine jb ?_)
  refine jr ?_
  refine jS (ru_fieldAddr rfl rfl) ?_
  refine jS (ru_load1 rfl rfl rfl) ?_
  refine jS (rt_un rfl (fun w => run_not w _)) ?_
  refine jS (ru_fieldAddr rfl rfl) ?_
  refine jS (ru_load1 rfl rfl rfl) ?_
  refine jS (ru_call C1 ⟨rfl, rfl, trivial⟩) ?_
  refine jO (ru_storeR rfl rfl rfl rfl rfl rfl) ?_
  refine RG.nil (by kernel_rfl) ?_
  repeat (first | refine js ?_ | refine jb ?_)
  refine WpD.ret ?_
  exact ret1 rfl (.cell rfl rfl CRow.ok rfl) (PLe.refl _)
theorem zquo (s : Bool) (l : List Nat) (s' : Bool) (l' : List Nat) (hl : l.length ≤ 536870912) (hl' : l'.length ≤ 536870912) (hlm : Lm l) (hlm' : Lm l') (hy : zv s' l' ≠ 0) :
    Fn Tryd.prog En 40 [zR s l, zR s' l'] (zC (zv s l / zv s' l')) := by
  have C1 := fdivmod En s l s' l' hl hl' hlm hlm' hy
  refine fn_of_body Tryd.func40 rfl Tryd.ntmps40 rfl ?_
  intro w0 h0
  repeat (first | refine js ?_ | refine jb ?_)
  refine jr ?_
  refine jT (ru_boxR rfl rfl rfl) ?_
  refine jT (ru_boxR rfl rfl rfl) ?_
  refine jT (ru_alloc rfl rfl rfl) ?_
  refine RG.nil (by kernel_rfl) ?_
  repeat (first | refine js ?_ | refine jb ?_)
  refine jr ?_
  refine jS (ru_loadR rfl rfl rfl rfl) ?_
  refine jS (ru_loadR rfl rfl rfl rfl) ?_
  refine jS (ru_call C1 ⟨rfl, rfl, trivial⟩) ?_
  refine jm rfl ?_
  refine jS (rt_extract rfl rfl) ?_
  refine jS (rt_extract rfl rfl) ?_
  refine jS (rt_extract rfl rfl) ?_
  refine jT (ru_alloc rfl rfl rfl) ?_
  refine jT (ru_alloc rfl rfl rfl) ?_
  refine jO (ru_storeR rfl rfl rfl rfl rfl rfl) ?_
  refine jO (ru_storeR rfl rfl rfl rfl rfl rfl) ?_
  refine ja rfl ?_
  refine RG.nil (by kernel_rfl) ?_
  repeat (first | refine js ?_ | refine jb ?_)
  refine jr ?_
  refine jS (ru_loadR rfl rfl rfl rfl) ?_
  refine jO (ru_storeR rfl rfl rfl rfl rfl rfl) ?_
  refine RG.nil (by kernel_rfl) ?_
  repeat (first | refine js ?_ | refine jb ?_)
  refine WpD.ret ?_
  exact ret1 rfl (.cell rfl rfl CRow.ok rfl) (PLe.refl _)
theorem sg3_ne {z : Int} (h : z ≠ 0) : sg3 z ≠ 0 := by unfold sg3; rw [if_neg h]; split <;> decide
end
end Go.Proofs.YtnhbdldchoepfaaDoor

/- Rational numbers of the reference. -/
import Derived.Test.YtpiflllcjgpkhaaGreatDoorZe
import Derived.Test.YtpiflllcjgpkhaaGreatDoorRb
set_option maxRecDepth 3000
namespace Go.Proofs.YtpiflllcjgpkhaaGreatDoor
open Go.RowKit Limb
instance cbody98 : CBody Tryz.prog 98 := ⟨⟨_, Tryz.func98, rfl, by rfl⟩⟩
instance cbody82 : CBody Tryz.prog 82 := ⟨⟨_, Tryz.func82, rfl, by rfl⟩⟩
instance cbody52 : CBody Tryz.prog 52 := ⟨⟨_, Tryz.func52, rfl, by rfl⟩⟩
instance cbody103 : CBody Tryz.prog 103 := ⟨⟨_, Tryz.func103, rfl, by rfl⟩⟩
instance cbody9 : CBody Tryz.prog 9 := ⟨⟨_, Tryz.func9, rfl, by rfl⟩⟩
instance cbody101 : CBody Tryz.prog 101 := ⟨⟨_, Tryz.func101, rfl, by rfl⟩⟩
instance cbody100 : CBody Tryz.prog 100 := ⟨⟨_, Tryz.func100, rfl, by rfl⟩⟩
instance cbody69 : CBody Tryz.prog 69 := ⟨⟨_, Tryz.func69, rfl, by rfl⟩⟩
instance cbody71 : CBody Tryz.prog 71 := ⟨⟨_, Tryz.func71, rfl, by rfl⟩⟩
instance cbody99 : CBody Tryz.prog 99 := ⟨⟨_, Tryz.func99, rfl, by rfl⟩⟩
instance cbody102 : CBody Tryz.prog 102 := ⟨⟨_, Tryz.func102, rfl, by rfl⟩⟩
/-- Fewer limbs, for the reference. -/
structure RQ.okR (p : RQ) : Prop where
  l : Lm p.l
  m : Lm p.m
  ll : p.l.length ≤ 134217728
  ml : p.m.length ≤ 134217728
theorem RQ.okR.ok {p : RQ} (h : p.okR) : p.ok := ⟨h.l, h.m, Nat.le_trans h.ll (by omega), Nat.le_trans h.ml (by omega)⟩
section
variable (En : Ev)
theorem same_iff (r s : Rat) : decide (r = s) = (decide (r.num = s.num) && decide ((r.den : Int) = s.den)) := by
  rw [← Bool.decide_and]
  congr 1
  apply propext
  constructor
  · rintro rfl; exact ⟨rfl, rfl⟩
  · rintro ⟨h1, h2⟩; exact Rat.ext h1 (by exact_mod_cast h2)
theorem qsame (r s : Rat) (hr : Sz 134217728 r) (hs : Sz 134217728 s) : Fn Tryz.prog En 9 [qC r, qC s] (ex (.bool (decide (r = s)))) := by
  have C1 := fsame En r.num s.num (Nat.le_trans hr.1 (by omega)) (Nat.le_trans hs.1 (by omega))
  have C2 := fsame En r.den s.den (Nat.le_trans hr.2 (by omega)) (Nat.le_trans hs.2 (by omega))
  rw [same_iff]
  cases h : decide (r.num = s.num) with
  | true =>
    rw [h] at C1
    refine fn_of_body Tryz.func9 rfl Tryz.ntmps9 rfl ?_
    intro w0 h0
    repeat (first | refine js ?_ | refine jb ?_)
    refine jr ?_
    refine jT (ru_boxR rfl rfl rfl) ?_
    refine jT (ru_boxR rfl rfl rfl) ?_
    refine ja rfl ?_
    refine RG.nil (by kernel_rfl) ?_
    repeat (first | refine js ?_ | refine jb ?_)
    refine jr ?_
    refine jS (ru_fieldAddr rfl rfl) ?_
    refine jS (ru_loadR rfl rfl rfl rfl) ?_
    refine jS (ru_fieldAddr rfl rfl) ?_
    refine jS (ru_loadR rfl rfl rfl rfl) ?_
    refine jS (ru_call C1 ⟨rfl, rfl, trivial⟩) ?_
    refine jm rfl ?_
    first | refine RG.S0 (LT.run rfl rfl rfl (ru_fieldAddr rfl rfl)) ?_ | refine RG.S0 (LT.skip rfl rfl rfl) ?_
    first | refine RG.S0 (LT.run rfl rfl rfl (ru_loadR rfl rfl rfl rfl)) ?_ | refine RG.S0 (LT.skip rfl rfl rfl) ?_
    first | refine RG.S0 (LT.run rfl rfl rfl (ru_fieldAddr rfl rfl)) ?_ | refine RG.S0 (LT.skip rfl rfl rfl) ?_
    first | refine RG.S0 (LT.run rfl rfl rfl (ru_loadR rfl rfl rfl rfl)) ?_ | refine RG.S0 (LT.skip rfl rfl rfl) ?_
    first | refine RG.S0 (LT.run rfl rfl rfl (ru_call C2 ⟨rfl, rfl, trivial⟩)) ?_ | refine RG.S0 (LT.skip rfl rfl rfl) ?_
    first | refine jS (rt_pick_true rfl rfl) ?_ | refine jS (rt_pick_false rfl rfl) ?_
    refine ja rfl ?_
    refine RG.nil (by kernel_rfl) ?_
    repeat (first | refine js ?_ | refine jb ?_)
    refine WpD.ret ?_
    exact ret1 rfl (.tmp rfl) (PLe.refl _)
  | false =>
    rw [h] at C1
    refine fn_of_body Tryz.func9 rfl Tryz.ntmps9 rfl ?_
    intro w0 h0
    repeat (first | refine js ?_ | refine jb ?_)
    refine jr ?_
    refine jT (ru_boxR rfl rfl rfl) ?_
    refine jT (ru_boxR rfl rfl rfl) ?_
    refine ja rfl ?_
    refine RG.nil (by kernel_rfl) ?_
    repeat (first | refine js ?_ | refine jb ?_)
    refine jr ?_
    refine jS (ru_fieldAddr rfl rfl) ?_
    refine jS (ru_loadR rfl rfl rfl rfl) ?_
    refine jS (ru_fieldAddr rfl rfl) ?_
    refine jS (ru_loadR rfl rfl rfl rfl) ?_
    refine jS (ru_call C1 ⟨rfl, rfl, trivial⟩) ?_
    refine jm rfl ?_
    first | refine RG.S0 (LT.run rfl rfl rfl (ru_fieldAddr rfl rfl)) ?_ | refine RG.S0 (LT.skip rfl rfl rfl) ?_
    first | refine RG.S0 (LT.run rfl rfl rfl (ru_loadR rfl rfl rfl rfl)) ?_ | refine RG.S0 (LT.skip rfl rfl rfl) ?_
    first | refine RG.S0 (LT.run rfl rfl rfl (ru_fieldAddr rfl rfl)) ?_ | refine RG.S0 (LT.skip rfl rfl rfl) ?_
    first | refine RG.S0 (LT.run rfl rfl rfl (ru_loadR rfl rfl rfl rfl)) ?_ | refine RG.S0 (LT.skip rfl rfl rfl) ?_
    first | refine RG.S0 (LT.run rfl rfl rfl (ru_call C2 ⟨rfl, rfl, trivial⟩)) ?_ | refine RG.S0 (LT.skip rfl rfl rfl) ?_
    first | refine jS (rt_pick_true rfl rfl) ?_ | refine jS (rt_pick_false rfl rfl) ?_
    refine ja rfl ?_
    refine RG.nil (by kernel_rfl) ?_
    repeat (first | refine js ?_ | refine jb ?_)
    refine WpD.ret ?_
    exact ret1 rfl (.tmp rfl) (PLe.refl _)
end
end Go.Proofs.YtpiflllcjgpkhaaGreatDoor

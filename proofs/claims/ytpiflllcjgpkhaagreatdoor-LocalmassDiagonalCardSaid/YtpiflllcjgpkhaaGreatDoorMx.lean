/- What the statements of chapter 32 share. -/
import Derived.Test.YtpiflllcjgpkhaaGreatDoorMw
set_option maxRecDepth 3000
namespace Go.Proofs.YtpiflllcjgpkhaaGreatDoor
open Go.RowKit Limb Num
theorem beq_selfZ (x : Int) : (x == x) = true := by simp
theorem same_dia {p : Int} {n : Nat} {c : Int} (h1 : 2 ≤ p) (h2 : p ≤ 9973) (c1 : -1 ≤ c) (c2 : c ≤ 1) (hn : n ≤ 9) : Fn Tryz.prog TabD 9 [qC (dia p n c), qC (dia p n c)] (ex (.bool true)) := by
  have S := sz_dia h1 h2 c1 c2 hn
  have C3 := qsame TabD (dia p n c) (dia p n c) (S.mono (by omega)) (S.mono (by omega))
  rwa [decide_eq_true rfl] at C3
end Go.Proofs.YtpiflllcjgpkhaaGreatDoor

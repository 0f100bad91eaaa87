/- Integers of the reference: Normalize, Neg, Mul, Quo, Gcd, Pow, Cmp. -/
import Derived.Test.YtpiflllcjgpkhaaDoorZd
import Derived.Test.YtpiflllcjgpkhaaDoorQ
import Derived.Test.YtpiflllcjgpkhaaDoorIb
import Derived.Test.YtpiflllcjgpkhaaDoorQv
set_option maxRecDepth 3000
namespace Go.Proofs.YtpiflllcjgpkhaaDoor
open Go.RowKit Limb
section
variable (En : Ev)
theorem sg3_ne {z : Int} (h : z ≠ 0) : sg3 z ≠ 0 := by unfold sg3; rw [if_neg h]; split <;> decide
end
end Go.Proofs.YtpiflllcjgpkhaaDoor

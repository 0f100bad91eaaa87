/- Generalized Bernoulli numbers of the program. -/
import Derived.Test.YtpiflllcjgpkhaaGreatDoorBf
set_option maxRecDepth 3000
namespace Go.Proofs.YtpiflllcjgpkhaaGreatDoor
open Go.RowKit Limb Num
section
variable {P : Program} {En : Ev} {n : Nat} {sl : Sl} {bx : Bx} {dst : Option Tmp} {ty : TypeId} {pos : String} {after : Array Edge} {guard : Option (Nat × Bool)}
end
theorem szq_pow {b : Nat} {r : Rat} (h : Sz b r) (n : Nat) : Sz (n * b + 1) (r ^ n) := by
  refine ⟨by rw [Rat.num_pow]; exact zl_pow_le h.1, ?_⟩
  have := zl_pow_le (n := n) h.2
  rw [Rat.den_pow]
  exact_mod_cast this
end Go.Proofs.YtpiflllcjgpkhaaGreatDoor

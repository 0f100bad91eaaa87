/- Integers of the program: Neg, Add, Sub, Gcd. -/
import Derived.Test.YtnhbdldchoepfaaDoorIb
import Derived.Test.YtnhbdldchoepfaaDoorQ
set_option maxRecDepth 3000
namespace Go.Proofs.YtnhbdldchoepfaaDoor
open Go.RowKit Limb
theorem sgnZ_add (s : Bool) (x y : Nat) : sgnZ s x + sgnZ s y = sgnZ s (x + y) := by unfold sgnZ; cases s <;> simp <;> omega
theorem sgnZ_sub {s : Bool} {x y : Nat} (h : y ≤ x) : sgnZ s x + sgnZ (!s) y = sgnZ s (x - y) := by unfold sgnZ; cases s <;> simp <;> omega
theorem sgnZ_sub' {s : Bool} {x y : Nat} (h : x ≤ y) : sgnZ s x + sgnZ (!s) y = sgnZ (!s) (y - x) := by unfold sgnZ; cases s <;> simp <;> omega
theorem sgnZ_not (s : Bool) (x : Nat) : sgnZ (!s) x = -sgnZ s x := by unfold sgnZ; cases s <;> simp
section
variable (En : Ev)
theorem gcd_step (u v : Nat) : Nat.gcd v (u % v) = Nat.gcd u v := by rw [Nat.gcd_comm v, ← Nat.gcd_rec, Nat.gcd_comm]
theorem digs0 {v : Nat} : (digs v).length = 0 ↔ v = 0 := by
  constructor
  · intro h
    by_cases hv : v = 0
    · exact hv
    · rw [digs_step hv] at h; simp at h
  · rintro rfl; rfl
end
end Go.Proofs.YtnhbdldchoepfaaDoor

/- The reference's DivMod, Rem, Gcd, by the divide in full. -/
import Derived.Test.YtpiflllcjgpkhaaDoorZc
set_option maxRecDepth 3000
namespace Go.Proofs.YtpiflllcjgpkhaaDoor
open Go.RowKit Limb
section
variable (En : Ev)
theorem sg3_neg (z : Int) : decide (sg3 z < 0) = decide (z < 0) := by
  unfold sg3
  by_cases h : z < 0
  · simp [h]; split <;> omega
  · simp [h]; split <;> (try split) <;> omega
/-- The quotient and the rest, out of those of the absolute values. -/
def dmQ (s s' : Bool) (x y : Nat) : Int := if (s != s') then -((x / y : Nat) : Int) else ((x / y : Nat) : Int)
def dmR (s : Bool) (x y : Nat) : Int := if s then -((x % y : Nat) : Int) else ((x % y : Nat) : Int)
theorem dm_pos {s s' : Bool} {x y : Nat} (hy : y ≠ 0) (h : ¬ dmR s x y < 0) : sgnZ s x / sgnZ s' y = dmQ s s' x y ∧ sgnZ s x % sgnZ s' y = dmR s x y := by
  have e := Nat.div_add_mod x y
  have hlt := Nat.mod_lt x (Nat.pos_of_ne_zero hy)
  have ec : (x : Int) = (y : Int) * ((x / y : Nat) : Int) + ((x % y : Nat) : Int) := by exact_mod_cast e.symm
  unfold dmR at h
  refine divmod_unique (by unfold sgnZ; split <;> omega) ?_ (by unfold dmR; omega) (by unfold dmR sgnZ; split <;> split <;> omega)
  unfold sgnZ dmQ dmR
  generalize ((x / y : Nat) : Int) = q at *
  generalize ((x % y : Nat) : Int) = r at *
  cases s <;> cases s' <;> simp [Int.neg_mul, Int.mul_neg] <;> rw [ec] <;> omega
theorem dm_neg {s s' : Bool} {x y : Nat} (hy : y ≠ 0) (h : dmR s x y < 0) : sgnZ s x / sgnZ s' y = (if s' then dmQ s s' x y + 1 else dmQ s s' x y - 1) ∧ sgnZ s x % sgnZ s' y = dmR s x y + y := by
  have e := Nat.div_add_mod x y
  have hlt := Nat.mod_lt x (Nat.pos_of_ne_zero hy)
  have ec : (x : Int) = (y : Int) * ((x / y : Nat) : Int) + ((x % y : Nat) : Int) := by exact_mod_cast e.symm
  cases s with
  | false => unfold dmR at h; simp at h; omega
  | true =>
    unfold dmR at h ⊢
    simp only [if_true] at h ⊢
    refine divmod_unique (by unfold sgnZ; split <;> omega) ?_ (by omega) (by unfold sgnZ; split <;> omega)
    unfold sgnZ dmQ
    generalize ((x / y : Nat) : Int) = q at *
    generalize ((x % y : Nat) : Int) = r at *
    cases s' <;> simp [Int.mul_sub, Int.mul_add, Int.neg_mul, Int.mul_neg] <;> rw [ec] <;> omega
end
theorem sg3_zero (z : Int) : (sg3 z != 0) = decide (z ≠ 0) := by
  unfold sg3
  by_cases h : z = 0
  · simp [h]
  · rcases Int.lt_or_lt_of_ne h with h1 | h1 <;> simp [h] <;> (try split) <;> omega
end Go.Proofs.YtpiflllcjgpkhaaDoor

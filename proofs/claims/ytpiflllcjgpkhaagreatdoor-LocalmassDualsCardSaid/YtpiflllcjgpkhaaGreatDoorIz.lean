/- Integers as a sign and limbs. For any program. -/
import Derived.Test.YtpiflllcjgpkhaaGreatDoorM
import Derived.Test.YtpiflllcjgpkhaaGreatDoorL
set_option maxRecDepth 3000
namespace Go.Proofs.YtpiflllcjgpkhaaGreatDoor
open Go.RowKit Limb
/-- The number of a sign and limbs. -/
def sgnZ (s : Bool) (x : Nat) : Int := if s then -(x : Int) else (x : Int)
def zv (s : Bool) (l : List Nat) : Int := sgnZ s (val l)
def zR (s : Bool) (l : List Nat) : Pd := aggP [ex (.bool s), mag l]
def zC (z : Int) : Pd := zR (decide (z < 0)) (digs z.natAbs)
instance (s : Bool) (l : List Nat) : CPart (zR s l) [ex (.bool s), mag l] := ⟨.inr rfl⟩
instance (z : Int) : CPart (zC z) [ex (.bool (decide (z < 0))), mag (digs z.natAbs)] := ⟨.inr rfl⟩
/-- The cells of a canonical number. -/
def zCells (z : Int) : List Pd := [ex (.bool (decide (z < 0))), mag (digs z.natAbs)]
theorem zv_C (z : Int) : zv (decide (z < 0)) (digs z.natAbs) = z := by
  unfold zv sgnZ
  rw [val_digs]
  by_cases h : z < 0
  · rw [decide_eq_true h]; simp; omega
  · rw [decide_eq_false h]; simp; omega
theorem zC_nil : PLe (aggP [ex (.bool false), ex (.slice none 0 0)]) (zC 0) := by
  rintro h v ⟨vs, rfl, ha⟩
  obtain ⟨u, x, rfl, hu, hx⟩ := ha.two
  exact ⟨_, rfl, hu, hx.2.1, mag_nil _ _ hx.1, hx.2.2, trivial⟩
theorem sgnZ_abs (s : Bool) (x : Nat) : (sgnZ s x).natAbs = x := by unfold sgnZ; cases s <;> simp
theorem zv_abs (s : Bool) (l : List Nat) : (zv s l).natAbs = val l := sgnZ_abs s _
theorem sgnZ_neg {s : Bool} {x : Nat} (hx : x ≠ 0) : decide (sgnZ s x < 0) = s := by unfold sgnZ; cases s <;> simp <;> omega
theorem zC_sgn {s : Bool} {x : Nat} (hx : x ≠ 0) : zC (sgnZ s x) = aggP [ex (.bool s), mag (digs x)] := by
  unfold zC zR
  rw [sgnZ_neg hx, sgnZ_abs]
theorem digs_len0 (n : Nat) : (((digs n).length : Int) == 0) = decide (n = 0) := by
  by_cases h : n = 0
  · subst h; rfl
  · rw [decide_eq_false h, digs_step h]; simp; omega
theorem digs_lenle {l : List Nat} {k : Nat} (h : l.length ≤ k) (hl : Lm l) : (digs (val l)).length ≤ k := Nat.le_trans (digs_length_le (val_lt hl)) h
theorem sgnZ_mul (s t : Bool) (x y : Nat) : sgnZ s x * sgnZ t y = sgnZ (s != t) (x * y) := by
  unfold sgnZ; cases s <;> cases t <;> simp [Int.neg_mul, Int.mul_neg]
theorem divmod_unique {X Y q r : Int} (hY : Y ≠ 0) (h : X = Y * q + r) (h0 : 0 ≤ r) (h1 : r < Y.natAbs) : X / Y = q ∧ X % Y = r := by
  have hm : X % Y = r := by
    rw [h, Int.mul_add_emod_self_left]
    rcases Int.lt_or_lt_of_ne hY with hn | hp
    · rw [← Int.emod_neg]; exact Int.emod_eq_of_lt h0 (by omega)
    · exact Int.emod_eq_of_lt h0 (by omega)
  refine ⟨?_, hm⟩
  have h2 := Int.mul_ediv_add_emod X Y
  rw [hm, h] at h2
  have h3 : Y * ((Y * q + r) / Y) = Y * q := by omega
  rw [h]
  exact Int.eq_of_mul_eq_mul_left hY h3
/-- Division by sign and absolute value: an exact one, or of a number that is not negative. -/
theorem sdm_up {s s' : Bool} {x y : Nat} (hy : y ≠ 0) (h : s = false ∨ x % y = 0) : sgnZ s x / sgnZ s' y = sgnZ (s != s') (x / y) ∧ sgnZ s x % sgnZ s' y = ((x % y : Nat) : Int) := by
  have e := Nat.div_add_mod x y
  have hlt := Nat.mod_lt x (Nat.pos_of_ne_zero hy)
  have ec : (x : Int) = (y : Int) * ((x / y : Nat) : Int) + ((x % y : Nat) : Int) := by exact_mod_cast e.symm
  refine divmod_unique (by unfold sgnZ; split <;> omega) ?_ (by omega) (by rw [sgnZ_abs]; omega)
  unfold sgnZ
  generalize ((x / y : Nat) : Int) = q at *
  rcases h with rfl | h
  · generalize ((x % y : Nat) : Int) = r at *
    cases s' <;> simp [Int.neg_mul, Int.mul_neg] <;> omega
  · rw [h] at ec ⊢
    cases s <;> cases s' <;> simp [Int.neg_mul, Int.mul_neg] <;> omega
theorem sdm_down {s' : Bool} {x y : Nat} (hy : y ≠ 0) (h : x % y ≠ 0) : sgnZ true x / sgnZ s' y = sgnZ (!s') (x / y + 1) ∧ sgnZ true x % sgnZ s' y = ((y - x % y : Nat) : Int) := by
  have e := Nat.div_add_mod x y
  have hlt := Nat.mod_lt x (Nat.pos_of_ne_zero hy)
  have ec : (x : Int) = (y : Int) * ((x / y : Nat) : Int) + ((x % y : Nat) : Int) := by exact_mod_cast e.symm
  refine divmod_unique (by unfold sgnZ; split <;> omega) ?_ (by omega) (by rw [sgnZ_abs]; omega)
  rw [Int.ofNat_sub (by omega)]
  unfold sgnZ
  rw [show ((x / y + 1 : Nat) : Int) = ((x / y : Nat) : Int) + 1 from rfl]
  generalize ((x / y : Nat) : Int) = q at *
  generalize ((x % y : Nat) : Int) = r at *
  cases s' <;> simp [Int.neg_mul, Int.mul_neg, Int.mul_add] <;> omega
end Go.Proofs.YtpiflllcjgpkhaaGreatDoor

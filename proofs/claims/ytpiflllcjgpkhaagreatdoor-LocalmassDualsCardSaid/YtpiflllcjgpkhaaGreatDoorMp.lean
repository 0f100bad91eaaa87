/- The diagonal factor of a local mass. Plain. -/
import Derived.Test.YtpiflllcjgpkhaaGreatDoorBg
set_option maxRecDepth 3000
namespace Go.Proofs.YtpiflllcjgpkhaaGreatDoor
open Limb Num
/-- 1 - c p^(-e). -/
def fct (p : Int) (c : Int) (e : Nat) : Rat := ((1 : Int) : Rat) - ((c : Int) : Rat) * (((p : Int) : Rat)⁻¹) ^ e
def dvs (p : Int) : Nat → Rat
  | 0 => ((2 : Int) : Rat)
  | k + 1 => dvs p k * fct p 1 (2 * (k + 1))
/-- The diagonal factor of a species. -/
def dia (p : Int) (n : Nat) (c : Int) : Rat := if n = 0 then ((1 : Int) : Rat) else if n % 2 = 1 then ((1 : Int) : Rat) / dvs p ((n + 1) / 2 - 1) else ((1 : Int) : Rat) / (dvs p ((n + 1) / 2 - 1) * fct p c ((n + 1) / 2))
theorem pinv {p : Int} (hp : 2 ≤ p) (e : Nat) : (((p : Int) : Rat)⁻¹) ^ e * ((p ^ e : Int) : Rat) = 1 := by
  have h0 : ((p : Int) : Rat) ≠ 0 := by intro h; have := Rat.intCast_eq_zero_iff.1 h; omega
  induction e with
  | zero => rw [Rat.pow_zero, Int.pow_zero, Rat.one_mul]; rfl
  | succ e ih =>
    rw [Rat.pow_succ, Int.pow_succ, Rat.intCast_mul]
    have h1 : ((p : Int) : Rat)⁻¹ * ((p : Int) : Rat) = 1 := Rat.inv_mul_cancel _ h0
    generalize (((p : Int) : Rat)⁻¹) ^ e = a at *
    generalize ((p ^ e : Int) : Rat) = b at *
    generalize ((p : Int) : Rat)⁻¹ = c at *
    generalize ((p : Int) : Rat) = d at *
    grind
theorem ppow_big {p : Int} (hp : 2 ≤ p) : ∀ {e : Nat}, 1 ≤ e → 2 ≤ p ^ e
  | 0, h => by omega
  | 1, _ => by rw [Int.pow_succ, Int.pow_zero, Int.one_mul]; exact hp
  | e + 2, _ => by
    have := ppow_big hp (e := e + 1) (by omega)
    rw [Int.pow_succ]
    have h2 : 2 * 1 ≤ p ^ (e + 1) * p := Int.mul_le_mul this (by omega) (by omega) (by omega)
    omega
theorem fct_ne {p c : Int} (hp : 2 ≤ p) {e : Nat} (he : 1 ≤ e) (h1 : -1 ≤ c) (h2 : c ≤ 1) : fct p c e ≠ 0 := by
  intro h
  have hi := pinv hp e
  have hb := ppow_big hp he
  unfold fct at h
  have hk : ((p ^ e : Int) : Rat) = ((c : Int) : Rat) := by
    rw [show ((1 : Int) : Rat) = 1 from rfl] at h
    generalize (((p : Int) : Rat)⁻¹) ^ e = a at *
    generalize ((p ^ e : Int) : Rat) = b at *
    generalize ((c : Int) : Rat) = d at *
    grind
  have := Rat.intCast_inj.1 hk
  omega
theorem dvs_ne {p : Int} (hp : 2 ≤ p) : ∀ k, dvs p k ≠ 0
  | 0 => by show ((2 : Int) : Rat) ≠ 0; decide
  | k + 1 => by rw [dvs]; exact fun h => (Rat.mul_eq_zero.1 h).elim (dvs_ne hp k) (fct_ne hp (by omega) (by omega) (by omega))
/-! Sizes. -/
theorem sz_pinv {p : Int} (h1 : 2 ≤ p) (h2 : p ≤ 9973) (e : Nat) : Sz (e * 2 + 1) ((((p : Int) : Rat)⁻¹) ^ e) := szq_pow (szq_inv (sz_z (z := p) (by omega) (by omega)) (by omega)) e
theorem sz_sub {a b : Nat} {r s : Rat} (h : Sz a r) (k : Sz b s) : Sz (a + b + 1) (r - s) := by rw [Rat.sub_eq_add_neg]; exact szq_add h (szq_neg k)
theorem sz_fct {p c : Int} (h1 : 2 ≤ p) (h2 : p ≤ 9973) (c1 : -1 ≤ c) (c2 : c ≤ 1) {e : Nat} (he : e ≤ 10) : Sz 30 (fct p c e) :=
  (sz_sub (sz_z (z := 1) (by omega) (by omega)) (szq_mul (sz_z (z := c) (by omega) (by omega)) (sz_pinv h1 h2 e))).mono (by omega)
theorem sz_dvs {p : Int} (h1 : 2 ≤ p) (h2 : p ≤ 9973) : ∀ {k : Nat}, k ≤ 4 → Sz (k * 30 + 2) (dvs p k)
  | 0, _ => sz_z (by omega) (by omega)
  | k + 1, h => (szq_mul (sz_dvs h1 h2 (k := k) (by omega)) (sz_fct h1 h2 (c := 1) (by omega) (by omega) (by omega))).mono (by omega)
theorem sz_div {a b : Nat} {r s : Rat} (h : Sz a r) (k : Sz b s) (hb : 1 ≤ b) : Sz (a + b) (r / s) := by rw [Rat.div_def]; exact szq_mul h (szq_inv k hb)
theorem sz_dia {p c : Int} (h1 : 2 ≤ p) (h2 : p ≤ 9973) (c1 : -1 ≤ c) (c2 : c ≤ 1) {n : Nat} (hn : n ≤ 9) : Sz 200 (dia p n c) := by
  unfold dia
  split
  · exact (sz_z (z := 1) (by omega) (by omega)).mono (by omega)
  · split
    · exact (sz_div (sz_z (z := 1) (by omega) (by omega)) (sz_dvs h1 h2 (k := (n + 1) / 2 - 1) (by omega)) (by omega)).mono (by omega)
    · exact (sz_div (sz_z (z := 1) (by omega) (by omega)) (szq_mul (sz_dvs h1 h2 (k := (n + 1) / 2 - 1) (by omega)) (sz_fct h1 h2 c1 c2 (e := (n + 1) / 2) (by omega))) (by omega)).mono (by omega)
end Go.Proofs.YtpiflllcjgpkhaaGreatDoor

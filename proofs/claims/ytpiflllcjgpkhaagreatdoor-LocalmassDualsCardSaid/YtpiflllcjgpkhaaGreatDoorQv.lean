/- Rational numbers: sizes, lowest terms. Plain. -/
import Derived.Test.YtpiflllcjgpkhaaGreatDoorIz
set_option maxRecDepth 3000
namespace Go.Proofs.YtpiflllcjgpkhaaGreatDoor
open Go.RowKit Limb
/-- The limbs of an integer. -/
def zl (z : Int) : Nat := (digs z.natAbs).length
theorem zl_mul (a b : Int) : zl (a * b) ≤ zl a + zl b := by unfold zl; rw [Int.natAbs_mul]; exact digs_mul _ _
theorem zl_mono {a b : Int} (h : a.natAbs ≤ b.natAbs) : zl a ≤ zl b := digs_mono h
theorem zl_add (a b : Int) : zl (a + b) ≤ max (zl a) (zl b) + 1 := Nat.le_trans (digs_mono (Int.natAbs_add_le a b)) (digs_add _ _)
theorem zl_neg (a : Int) : zl (-a) = zl a := by unfold zl; rw [Int.natAbs_neg]
theorem zl_small {z : Int} (h1 : -18446744073709551616 < z) (h2 : z < 18446744073709551616) : zl z ≤ 2 := digs_length_le (by rw [B_def]; omega)
/-- A number whose numerator and denominator have at most so many limbs. -/
def Sz (b : Nat) (r : Rat) : Prop := zl r.num ≤ b ∧ zl (r.den : Int) ≤ b
theorem Sz.mono {a b : Nat} {r : Rat} (h : Sz a r) (hab : a ≤ b) : Sz b r := ⟨Nat.le_trans h.1 hab, Nat.le_trans h.2 hab⟩
theorem natAbs_ediv_le (a b : Int) (h : b ∣ a) : (a / b).natAbs ≤ a.natAbs := by
  obtain ⟨c, rfl⟩ := h
  by_cases hb : b = 0
  · subst hb; simp
  · rw [Int.mul_ediv_cancel_left _ hb, Int.natAbs_mul]
    exact Nat.le_mul_of_pos_left _ (Int.natAbs_pos.2 hb)
/-- The divisor that brings n / d to lowest terms. -/
def gd (n d : Int) : Int := if d < 0 then -((Nat.gcd n.natAbs d.natAbs : Nat) : Int) else ((Nat.gcd n.natAbs d.natAbs : Nat) : Int)
theorem gd_ne {n d : Int} (hd : d ≠ 0) : gd n d ≠ 0 := by
  have : 0 < Nat.gcd n.natAbs d.natAbs := Nat.gcd_pos_of_pos_right _ (Int.natAbs_pos.2 hd)
  unfold gd; split <;> omega
theorem gd_dvd (n d : Int) : gd n d ∣ n ∧ gd n d ∣ d := by
  have h1 : ((Nat.gcd n.natAbs d.natAbs : Nat) : Int) ∣ n := Int.dvd_natAbs.1 (Int.natCast_dvd_natCast.2 (Nat.gcd_dvd_left _ _))
  have h2 : ((Nat.gcd n.natAbs d.natAbs : Nat) : Int) ∣ d := Int.dvd_natAbs.1 (Int.natCast_dvd_natCast.2 (Nat.gcd_dvd_right _ _))
  unfold gd
  split
  · exact ⟨Int.neg_dvd.2 h1, Int.neg_dvd.2 h2⟩
  · exact ⟨h1, h2⟩
theorem low_num (n : Int) {d : Int} (hd : d ≠ 0) : (Rat.divInt n d).num = n / gd n d ∧ ((Rat.divInt n d).den : Int) = d / gd n d := by
  have h1 : ((Nat.gcd n.natAbs d.natAbs : Nat) : Int) ∣ n := Int.dvd_natAbs.1 (Int.natCast_dvd_natCast.2 (Nat.gcd_dvd_left _ _))
  have h2 : ((Nat.gcd n.natAbs d.natAbs : Nat) : Int) ∣ d := Int.dvd_natAbs.1 (Int.natCast_dvd_natCast.2 (Nat.gcd_dvd_right _ _))
  have hg : d.gcd n = Nat.gcd n.natAbs d.natAbs := by rw [Int.gcd_comm]; rfl
  rw [Rat.num_divInt, Rat.den_divInt, if_neg hd, hg]
  unfold gd
  generalize Nat.gcd n.natAbs d.natAbs = g at *
  by_cases h : d < 0
  · rw [if_pos h, Int.sign_eq_neg_one_of_neg h, Int.neg_mul, Int.one_mul, Int.ediv_neg, Int.ediv_neg, Int.neg_ediv_of_dvd h1]
    refine ⟨rfl, ?_⟩
    rw [← Int.neg_ediv_of_dvd h2, Int.natCast_ediv, Int.ofNat_natAbs_of_nonpos (by omega)]
  · rw [if_neg h, Int.sign_eq_one_of_pos (by omega), Int.one_mul]
    refine ⟨rfl, ?_⟩
    rw [Int.natCast_ediv, Int.natAbs_of_nonneg (by omega)]
theorem szq_divInt {b : Nat} {n d : Int} (hd : d ≠ 0) (h1 : zl n ≤ b) (h2 : zl d ≤ b) : Sz b (Rat.divInt n d) := by
  obtain ⟨e1, e2⟩ := low_num n hd
  obtain ⟨g1, g2⟩ := gd_dvd n d
  unfold Sz
  rw [e1, e2]
  exact ⟨Nat.le_trans (zl_mono (natAbs_ediv_le _ _ g1)) h1, Nat.le_trans (zl_mono (natAbs_ediv_le _ _ g2)) h2⟩
theorem szq_int {b : Nat} {n : Int} (h : zl n ≤ b) (hb : 1 ≤ b) : Sz b (n : Rat) := ⟨by rw [Rat.num_intCast]; exact h, by rw [Rat.den_intCast]; exact Nat.le_trans (show zl ((1 : Nat) : Int) ≤ 1 from by decide) hb⟩
theorem den_ne (r : Rat) : (r.den : Int) ≠ 0 := by have := r.den_pos; omega
theorem rat_add (r s : Rat) : r + s = Rat.divInt (r.num * s.den + s.num * r.den) (r.den * s.den) := by
  have := Rat.divInt_add_divInt r.num s.num (den_ne r) (den_ne s)
  rwa [Rat.num_divInt_den, Rat.num_divInt_den] at this
theorem rat_mul (r s : Rat) : r * s = Rat.divInt (r.num * s.num) (r.den * s.den) := by
  have := Rat.divInt_mul_divInt r.num s.num (d₁ := r.den) (d₂ := s.den)
  rwa [Rat.num_divInt_den, Rat.num_divInt_den] at this
theorem dd_ne (r s : Rat) : (r.den : Int) * s.den ≠ 0 := Int.mul_ne_zero (den_ne r) (den_ne s)
theorem szq_add {a b : Nat} {r s : Rat} (h : Sz a r) (k : Sz b s) : Sz (a + b + 1) (r + s) := by
  rw [rat_add]
  refine szq_divInt (dd_ne r s) ?_ ?_
  · have := zl_add (r.num * s.den) (s.num * r.den)
    have := zl_mul r.num s.den
    have := zl_mul s.num r.den
    have := h.1; have := h.2; have := k.1; have := k.2
    omega
  · have := zl_mul r.den s.den
    have := h.2; have := k.2
    omega
theorem szq_mul {a b : Nat} {r s : Rat} (h : Sz a r) (k : Sz b s) : Sz (a + b) (r * s) := by
  rw [rat_mul]
  refine szq_divInt (dd_ne r s) ?_ ?_
  · have := zl_mul r.num s.num
    have := h.1; have := k.1
    omega
  · have := zl_mul r.den s.den
    have := h.2; have := k.2
    omega
theorem szq_neg {a : Nat} {r : Rat} (h : Sz a r) : Sz a (-r) := ⟨by show zl (-r.num) ≤ a; rw [zl_neg]; exact h.1, h.2⟩
theorem szq_inv {a : Nat} {r : Rat} (h : Sz a r) (h1 : 1 ≤ a) : Sz a r⁻¹ := by
  rw [Rat.inv_def]
  by_cases hz : r.num = 0
  · rw [hz, Rat.divInt_zero]; exact ⟨by show zl 0 ≤ a; exact Nat.le_trans (by decide) h1, by show zl 1 ≤ a; exact Nat.le_trans (by decide) h1⟩
  · exact szq_divInt hz h.2 h.1
/-- A number as it lies in memory: two signs, two lists of limbs. -/
structure RQ where
  s : Bool
  l : List Nat
  t : Bool
  m : List Nat
def RQ.cells (p : RQ) : List Pd := [ex (.bool p.s), mag p.l, ex (.bool p.t), mag p.m]
def RQ.v (p : RQ) : Rat := Rat.divInt (zv p.s p.l) (zv p.t p.m)
structure RQ.ok (p : RQ) : Prop where
  l : Lm p.l
  m : Lm p.m
  ll : p.l.length ≤ 1073741824
  ml : p.m.length ≤ 1073741824
def RQ.of (r : Rat) : RQ := ⟨decide (r.num < 0), digs r.num.natAbs, decide ((r.den : Int) < 0), digs (r.den : Int).natAbs⟩
def qP (p : RQ) : Pd := aggP p.cells
def qC (r : Rat) : Pd := qP (RQ.of r)
def qCells (r : Rat) : List Pd := (RQ.of r).cells
instance (p : RQ) : CPart (qP p) p.cells := ⟨.inr rfl⟩
instance (r : Rat) : CPart (qC r) (qCells r) := ⟨.inr rfl⟩
theorem RQ.of_v (r : Rat) : (RQ.of r).v = r := by
  unfold RQ.v RQ.of
  simp only
  rw [zv_C, zv_C, Rat.num_divInt_den]
theorem RQ.of_ok {r : Rat} (h : Sz 1073741824 r) : (RQ.of r).ok := ⟨lm_digs _, lm_digs _, h.1, h.2⟩
theorem zl_zv (s : Bool) {l : List Nat} (hl : Lm l) : zl (zv s l) ≤ l.length := by unfold zl; rw [zv_abs]; exact digs_length_le (val_lt hl)
theorem RQ.sz {p : RQ} (h : p.ok) : Sz 1073741824 p.v := by
  unfold RQ.v
  by_cases hz : zv p.t p.m = 0
  · rw [hz, Rat.divInt_zero]; exact ⟨by show zl 0 ≤ _; exact Nat.le_trans (by decide) (show 1 ≤ 1073741824 by decide), by show zl 1 ≤ _; exact Nat.le_trans (by decide) (show 1 ≤ 1073741824 by decide)⟩
  · exact szq_divInt hz (Nat.le_trans (zl_zv _ h.l) h.ll) (Nat.le_trans (zl_zv _ h.m) h.ml)
theorem qC_low (n : Int) {d : Int} (hd : d ≠ 0) : qC (Rat.divInt n d) = aggP [ex (.bool (decide (n / gd n d < 0))), mag (digs (n / gd n d).natAbs), ex (.bool (decide (d / gd n d < 0))), mag (digs (d / gd n d).natAbs)] := by
  obtain ⟨e1, e2⟩ := low_num n hd
  unfold qC qP RQ.cells RQ.of
  rw [e1, e2]
end Go.Proofs.YtpiflllcjgpkhaaGreatDoor

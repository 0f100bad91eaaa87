/- Rational numbers of the reference. -/
import Derived.Test.YtpiflllcjgpkhaaDoorZe
import Derived.Test.YtpiflllcjgpkhaaDoorRb
set_option maxRecDepth 3000
namespace Go.Proofs.YtpiflllcjgpkhaaDoor
open Go.RowKit Limb
/-- Fewer limbs, for the reference. -/
structure RQ.okR (p : RQ) : Prop where
  l : Lm p.l
  m : Lm p.m
  ll : p.l.length ≤ 134217728
  ml : p.m.length ≤ 134217728
theorem RQ.of_okR {r : Rat} (h : Sz 134217728 r) : (RQ.of r).okR := ⟨lm_digs _, lm_digs _, h.1, h.2⟩
theorem RQ.okR.ok {p : RQ} (h : p.okR) : p.ok := ⟨h.l, h.m, Nat.le_trans h.ll (by omega), Nat.le_trans h.ml (by omega)⟩
theorem RQ.szR {p : RQ} (h : p.okR) : Sz 134217728 p.v := by
  unfold RQ.v
  by_cases hz : zv p.t p.m = 0
  · rw [hz, Rat.divInt_zero]; exact ⟨by show zl 0 ≤ _; exact Nat.le_trans (by decide) (show 1 ≤ 134217728 by decide), by show zl 1 ≤ _; exact Nat.le_trans (by decide) (show 1 ≤ 134217728 by decide)⟩
  · exact szq_divInt hz (Nat.le_trans (zl_zv _ h.l) h.ll) (Nat.le_trans (zl_zv _ h.m) h.ml)
section
variable (En : Ev)
theorem divInt_neg2 (n d : Int) : Rat.divInt (-n) (-d) = Rat.divInt n d := Rat.neg_divInt_neg n d
theorem qC_int (a : Int) : qC (a : Rat) = aggP [ex (.bool (decide (a < 0))), mag (digs a.natAbs), ex (.bool (decide ((1 : Int) < 0))), mag (digs (1 : Int).natAbs)] := by
  unfold qC qP RQ.cells RQ.of
  rw [Rat.num_intCast, Rat.den_intCast]
  rfl
theorem rat_div {r s : Rat} (h : s ≠ 0) : r / s = Rat.divInt (r.num * s.den) (r.den * s.num) ∧ (r.den : Int) * s.num ≠ 0 := by
  have hn : s.num ≠ 0 := fun h' => h (Rat.num_eq_zero.1 h')
  refine ⟨?_, Int.mul_ne_zero (den_ne r) hn⟩
  rw [Rat.div_def, Rat.inv_def]
  have := Rat.divInt_mul_divInt r.num s.den (d₁ := r.den) (d₂ := s.num)
  rwa [Rat.num_divInt_den] at this
theorem same_iff (r s : Rat) : decide (r = s) = (decide (r.num = s.num) && decide ((r.den : Int) = s.den)) := by
  rw [← Bool.decide_and]
  congr 1
  apply propext
  constructor
  · rintro rfl; exact ⟨rfl, rfl⟩
  · rintro ⟨h1, h2⟩; exact Rat.ext h1 (by exact_mod_cast h2)
end
end Go.Proofs.YtpiflllcjgpkhaaDoor

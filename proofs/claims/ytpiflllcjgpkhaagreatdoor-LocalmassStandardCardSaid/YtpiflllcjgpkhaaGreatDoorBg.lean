/- Generalized Bernoulli numbers of the program. -/
import Derived.Test.YtpiflllcjgpkhaaGreatDoorBf
set_option maxRecDepth 3000
namespace Go.Proofs.YtpiflllcjgpkhaaGreatDoor
open Go.RowKit Limb Num
section
variable {P : Program} {En : Ev} {n : Nat} {sl : Sl} {bx : Bx} {dst : Option Tmp} {ty : TypeId} {pos : String} {after : Array Edge} {guard : Option (Nat × Bool)}
theorem rt_max {x y : Operand} {k : IntKind} {a b : Int} {T : TypeId} (hx : osd sl x = some (.one (ex (.int k a)))) (hy : osd sl y = some (.one (ex (.int k b)))) {m : Int} (hm : (if b > a then b else a) = m) : RT P En n ⟨dst, .call ⟨.builtin .max, #[x, y], #[T, T]⟩, ty, pos, after, guard⟩ sl bx ⟨.one (ex (.int k m)), [], []⟩ :=
  RT.pure fun ρ h β bx' H => by
    subst hm
    have h1 : ρ x = .int k a := (H x (by simp [Op.operands, Call.operands]) _ hx).1
    have h2 : ρ y = .int k b := (H y (by simp [Op.operands, Call.operands]) _ hy).1
    refine ⟨_, fun w _ => ?_, rfl, trivial⟩
    simp [execOp, resolve, invoke, builtin, Builtin.max_, Builtin.max2, h1, h2]
end
theorem szq_pow {b : Nat} {r : Rat} (h : Sz b r) (n : Nat) : Sz (n * b + 1) (r ^ n) := by
  refine ⟨by rw [Rat.num_pow]; exact zl_pow_le h.1, ?_⟩
  have := zl_pow_le (n := n) h.2
  rw [Rat.den_pow]
  exact_mod_cast this
def gsc (f i : Nat) : Rat := if i = 0 then (((f : Int) : Rat)⁻¹) ^ 1 else ((f : Int) : Rat) ^ (i - 1)
def gterm (k : Nat) (d : Int) (f i : Nat) : Rat := (((bin k i : Int) : Rat) * bern i * ((psS d f (k - i) : Int) : Rat)) * gsc f i
def gsum (k : Nat) (d : Int) (f : Nat) : Nat → Rat
  | 0 => 0
  | i + 1 => gsum k d f i + gterm k d f i
theorem psS_zl {d : Int} {f j : Nat} (hf : f ≤ 40000) (hj : j ≤ 20) : zl (psS d f j) ≤ 11 := by
  have a1 := acc_le 1 d (j := j) (m := f) (F := 40000) hf
  have a2 := acc_le (-1) d (j := j) (m := f) (F := 40000) hf
  have b3 : f * 40000 ^ j ≤ 40000 * 40000 ^ j := Nat.mul_le_mul_right _ hf
  have b4 : 40000 * 40000 ^ j ≤ 40000 ^ 21 := by rw [← Nat.pow_succ']; exact Nat.pow_le_pow_right (by omega) (by omega)
  refine digs_length_le ?_
  have := big11
  unfold psS
  omega
theorem gsc_sz {f i : Nat} (hf : f ≤ 40000) (hi : i ≤ 20) : Sz 41 (gsc f i) := by
  have h := sz_z (z := (f : Int)) (by omega) (by omega)
  unfold gsc
  split
  · exact (szq_pow (szq_inv h (by omega)) 1).mono (by omega)
  · exact (szq_pow h (i - 1)).mono (by omega)
theorem gterm_sz {k : Nat} {d : Int} {f i : Nat} (hk : k ≤ 20) (hf : f ≤ 40000) (hi : i ≤ k) : Sz 56 (gterm k d f i) := by
  have hb := bin_le ⟨k, by omega⟩ ⟨i, by omega⟩
  dsimp only at hb
  exact (szq_mul (szq_mul (szq_mul (sz_z (by omega) (by omega)) (bern_sz (by omega))) (szq_int (psS_zl hf (by omega)) (by omega))) (gsc_sz hf (by omega))).mono (by omega)
theorem gsum_sz {k : Nat} {d : Int} {f : Nat} (hk : k ≤ 20) (hf : f ≤ 40000) : ∀ {i : Nat}, i ≤ k + 1 → Sz (i * 57 + 1) (gsum k d f i)
  | 0, _ => ⟨show zl (0 : Rat).num ≤ 1 by decide, show zl (((0 : Rat).den : Nat) : Int) ≤ 1 by decide⟩
  | i + 1, h => (szq_add (gsum_sz hk hf (i := i) (by omega)) (gterm_sz hk hf (by omega))).mono (by omega)
end Go.Proofs.YtpiflllcjgpkhaaGreatDoor

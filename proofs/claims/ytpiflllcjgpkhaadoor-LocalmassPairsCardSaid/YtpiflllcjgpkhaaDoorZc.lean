/- The reference's divide, in full. -/
import Derived.Test.YtpiflllcjgpkhaaDoorZa
import Derived.Test.YtpiflllcjgpkhaaDoorO
import Derived.Test.YtpiflllcjgpkhaaDoorIa
import Derived.Test.YtpiflllcjgpkhaaDoorL
set_option maxRecDepth 3000
namespace Go.Proofs.YtpiflllcjgpkhaaDoor
open Go.RowKit Limb
theorem and_one32 (a : Nat) : IntKind.u32.wrap ((BitVec.ofInt IntKind.u32.bits (a : Int) &&& BitVec.ofInt IntKind.u32.bits 1).toNat : Int) = ((a % 2 : Nat) : Int) := by
  have h1 : (BitVec.ofInt 32 (a : Int) &&& BitVec.ofInt 32 1).toNat = a % 2 := by
    rw [BitVec.toNat_and, BitVec.ofInt_natCast, BitVec.toNat_ofNat, show (BitVec.ofInt 32 1).toNat = 1 by decide, Nat.and_one_is_mod]
    omega
  show IntKind.u32.wrap (((BitVec.ofInt 32 (a : Int) &&& BitVec.ofInt 32 1).toNat : Nat) : Int) = _
  rw [h1, IntKind.wrap_u32]; omega
theorem or_bit32 {a c e : Nat} (ha : a = 2 ^ (e + 1) * c) (hlt : a + 2 ^ e < B) : IntKind.u32.wrap ((BitVec.ofInt IntKind.u32.bits (a : Int) ||| BitVec.ofInt IntKind.u32.bits ((2 ^ e : Nat) : Int)).toNat : Int) = ((a + 2 ^ e : Nat) : Int) := by
  rw [B_two] at hlt
  have hB : (2 : Nat) ^ 32 = 4294967296 := by decide
  have hp := Nat.two_pow_pos e
  have h1 : (BitVec.ofInt 32 (a : Int)).toNat = a := by rw [BitVec.ofInt_natCast, BitVec.toNat_ofNat]; exact Nat.mod_eq_of_lt (by omega)
  have h2 : (BitVec.ofInt 32 ((2 ^ e : Nat) : Int)).toNat = 2 ^ e := by rw [BitVec.ofInt_natCast, BitVec.toNat_ofNat]; exact Nat.mod_eq_of_lt (by omega)
  have h3 : a ||| 2 ^ e = a + 2 ^ e := by rw [ha, ← Nat.two_pow_add_eq_or_of_lt (Nat.pow_lt_pow_right (by decide) (Nat.lt_succ_self e))]
  show IntKind.u32.wrap (((BitVec.ofInt 32 (a : Int) ||| BitVec.ofInt 32 ((2 ^ e : Nat) : Int)).toNat : Nat) : Int) = _
  rw [BitVec.toNat_or, h1, h2, h3, IntKind.wrap_u32]
  omega
theorem dbl_len {r b k : Nat} (hb : b ≤ 1) (h : (digs r).length ≤ k) : (digs (2 * r + b)).length ≤ k + 1 := by
  refine digs_length_le ?_
  have a1 := lt_of_digs r
  have a2 : B ^ (digs r).length ≤ B ^ k := Nat.pow_le_pow_right B_pos h
  rw [Nat.pow_succ, B_def] at *
  generalize 4294967296 ^ k = Z at *
  omega
section
variable (En : Ev)
theorem cmp_geD {t y : Nat} : decide (cmpL (digs t) (digs y) ≥ 0) = decide (y ≤ t) := by
  rw [cmpL_digs]
  by_cases h : t < y
  · rw [if_pos h, decide_eq_false (by omega), decide_eq_false (by omega)]
  · rw [if_neg h, decide_eq_true (p := y ≤ t) (by omega)]
    split <;> rfl
end
end Go.Proofs.YtpiflllcjgpkhaaDoor

/- Power sums of the program: natural.add, natural.scale, powerSums. -/
import Derived.Test.YtpiflllcjgpkhaaGreatDoorBn
import Derived.Test.YtpiflllcjgpkhaaGreatDoorSymbol
import Derived.Test.YtpiflllcjgpkhaaGreatDoorDisc
set_option maxRecDepth 3000
namespace Go.Proofs.YtpiflllcjgpkhaaGreatDoor
open Go.RowKit Limb Num
instance crowz_int : CRowZ Tryz.prog 25 2 [.bool false, .slice none 0 0] 32 := ⟨by kernel_rfl, rfl, rfl⟩
/-- Limbs times a number. -/
def ScInv (X : List Nat) (a i : Nat) (O : List Nat) (c : Nat) : Prop := O.length = i ∧ Lm O ∧ c < B ∧ val O + B ^ i * c = val (X.take i) * a
theorem ScInv.step {X : List Nat} {a i x : Nat} {O : List Nat} {c : Nat} (hX : Lm X) (ha : a < 2147483648) (hx : X[i]? = some x) (h : ScInv X a i O c) : ScInv X a (i + 1) (O ++ [(c + x * a) % B]) ((c + x * a) / B) ∧ c + x * a < 18446744073709551616 := by
  obtain ⟨h1, h2, h3, h4⟩ := h
  have hxB := hX.get hx
  have hm : x * a ≤ 4294967295 * 2147483647 := Nat.mul_le_mul (by rw [B_def] at hxB; omega) (by omega)
  have hlt : c + x * a < 18446744073709551616 := by rw [B_def] at h3; omega
  refine ⟨⟨by simp [h1], lm_snoc h2 (Nat.mod_lt _ B_pos), ?_, ?_⟩, hlt⟩
  · rw [Nat.div_lt_iff_lt_mul B_pos, B_def]; omega
  · rw [val_snoc, h1, val_take_succ, hx, Option.getD_some, Nat.add_mul, ← h4]
    have e := Nat.div_add_mod (c + x * a) B
    have : B ^ i * (c + x * a) = B ^ i * (B * ((c + x * a) / B)) + B ^ i * ((c + x * a) % B) := by rw [← Nat.mul_add, e]
    rw [Nat.pow_succ, Nat.mul_assoc, Nat.mul_assoc (B ^ i) x a]
    rw [Nat.mul_add] at this
    omega
section
variable (En : Ev)
end
/-- The sums over the numbers whose symbol is s. -/
def acc (s d : Int) (j : Nat) : Nat → Nat
  | 0 => 0
  | m + 1 => acc s d j m + (if krZ d ((m + 1 : Nat) : Int) = s then (m + 1) ^ j else 0)
theorem fkron (En : Ev) (a n : Int) (ha : InR a) (hn : InR n) : Fn Tryz.prog En 20 [ex (.int .i64 a), ex (.int .i64 n)] (tupP [ex (.int .i64 (krZ a n)), ex (.int .i64 0)]) := by
  intro h w vs _ hh hv
  obtain ⟨v, u, rfl, h1, h2⟩ := hv.two
  have h1 : v = .int .i64 a := h1
  have h2 : u = .int .i64 n := h2
  subst h1 h2
  refine (kron_any a n w ha hn).mono ?_
  rintro e w' ⟨rfl, rfl⟩
  exact fn_post hh (Below.refl _ _) ⟨[_, _], rfl, rfl, rfl, trivial⟩
instance cbody20 : CBody Tryz.prog 20 := ⟨⟨_, Tryz.func20, rfl, by rfl⟩⟩
section
variable (En : Ev)
end
end Go.Proofs.YtpiflllcjgpkhaaGreatDoor

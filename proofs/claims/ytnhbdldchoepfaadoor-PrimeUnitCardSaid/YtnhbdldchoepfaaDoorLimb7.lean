/- Division bit by bit: plain. -/
import Derived.Test.YtnhbdldchoepfaaDoorLimb6
namespace Go.Proofs.YtnhbdldchoepfaaDoor.Limb
theorem B_two : B = 2 ^ 32 := rfl
theorem pd_get : ∀ (n k j : Nat), j < k → (pd n k)[j]? = some (n / B ^ j % B)
  | n, 0, j, h => absurd h (Nat.not_lt_zero _)
  | n, k + 1, 0, _ => by rw [pd, Nat.pow_zero, Nat.div_one]; rfl
  | n, k + 1, j + 1, h => by
    rw [pd, List.getElem?_cons_succ, pd_get _ _ _ (by omega), Nat.div_div_eq_div_mul, Nat.pow_succ, Nat.mul_comm B]
theorem digs_get {x j : Nat} (h : j < (digs x).length) : (digs x)[j]? = some (x / B ^ j % B) := by
  rw [pd_eq (lm_digs x) (val_digs x) rfl]
  exact pd_get _ _ _ h
theorem val_set : ∀ {l : List Nat} {j x : Nat} (y : Nat), l[j]? = some x → val (l.set j y) + B ^ j * x = val l + B ^ j * y
  | [], j, x, y, h => by simp at h
  | a :: l, 0, x, y, h => by
    simp at h; subst h
    simp only [List.set, val, Nat.pow_zero, Nat.one_mul]; omega
  | a :: l, j + 1, x, y, h => by
    have ih := val_set (l := l) (j := j) (x := x) y (by simpa using h)
    simp only [List.set, val]
    rw [Nat.pow_succ, Nat.mul_comm (B ^ j) B, Nat.mul_assoc, Nat.mul_assoc]
    have := congrArg (B * ·) ih
    simp only [Nat.mul_add] at this
    omega
theorem split_bit (i : Nat) : 2 ^ i = B ^ (i / 32) * 2 ^ (i % 32) := by
  rw [B_two, ← Nat.pow_mul, ← Nat.pow_add, Nat.div_add_mod]
theorem limb_bit (x i : Nat) : x / B ^ (i / 32) % B / 2 ^ (i % 32) % 2 = x / 2 ^ i % 2 := by
  rw [split_bit i, ← Nat.div_div_eq_div_mul]
  generalize x / B ^ (i / 32) = z
  have he : i % 32 < 32 := Nat.mod_lt _ (by decide)
  generalize i % 32 = e at *
  have h := Nat.testBit_mod_two_pow z 32 e
  rw [decide_eq_true he, Bool.true_and, Nat.testBit_eq_decide_div_mod_eq, Nat.testBit_eq_decide_div_mod_eq] at h
  rw [B_two]
  have h' := decide_eq_decide.1 h
  have a1 := Nat.mod_two_eq_zero_or_one (z % 2 ^ 32 / 2 ^ e)
  have a2 := Nat.mod_two_eq_zero_or_one (z / 2 ^ e)
  omega
/-- The quotient's bits from i upward. -/
def QV (x y i : Nat) : Nat := x / 2 ^ i / y * 2 ^ i
theorem half_step (x i : Nat) : x / 2 ^ i = 2 * (x / 2 ^ (i + 1)) + x / 2 ^ i % 2 := by
  rw [Nat.pow_succ, ← Nat.div_div_eq_div_mul]; omega
theorem dv_lo {x y i : Nat} (h : 2 * (x / 2 ^ (i + 1) % y) + x / 2 ^ i % 2 < y) : x / 2 ^ i % y = 2 * (x / 2 ^ (i + 1) % y) + x / 2 ^ i % 2 ∧ QV x y i = QV x y (i + 1) := by
  have e := half_step x i
  have d := Nat.div_add_mod (x / 2 ^ (i + 1)) y
  unfold QV
  rw [Nat.pow_succ (n := 2) (m := i)] at *
  generalize x / (2 ^ i * 2) = X' at *
  generalize x / 2 ^ i % 2 = b at *
  generalize x / 2 ^ i = X at *
  have hX : X = y * (2 * (X' / y)) + (2 * (X' % y) + b) := by
    rw [e]; have : y * (2 * (X' / y)) = 2 * (y * (X' / y)) := by rw [Nat.mul_left_comm]
    omega
  have hy : 0 < y := by omega
  refine ⟨by rw [hX, Nat.mul_add_mod, Nat.mod_eq_of_lt h], ?_⟩
  have : X / y = 2 * (X' / y) := by rw [hX, Nat.mul_add_div hy, Nat.div_eq_of_lt h, Nat.add_zero]
  rw [this, Nat.mul_comm 2, Nat.mul_assoc, Nat.mul_comm 2]
theorem dv_hi {x y i : Nat} (hy : 0 < y) (h : y ≤ 2 * (x / 2 ^ (i + 1) % y) + x / 2 ^ i % 2) : x / 2 ^ i % y = 2 * (x / 2 ^ (i + 1) % y) + x / 2 ^ i % 2 - y ∧ QV x y i = QV x y (i + 1) + 2 ^ i := by
  have e := half_step x i
  have d := Nat.div_add_mod (x / 2 ^ (i + 1)) y
  have lt := Nat.mod_lt (x / 2 ^ (i + 1)) hy
  have hb : x / 2 ^ i % 2 < 2 := Nat.mod_lt _ (by decide)
  unfold QV
  rw [Nat.pow_succ (n := 2) (m := i)] at *
  generalize x / (2 ^ i * 2) = X' at *
  generalize x / 2 ^ i % 2 = b at *
  generalize x / 2 ^ i = X at *
  have hX : X = y * (2 * (X' / y) + 1) + (2 * (X' % y) + b - y) := by
    rw [e]; have : y * (2 * (X' / y) + 1) = 2 * (y * (X' / y)) + y := by rw [Nat.mul_add, Nat.mul_left_comm, Nat.mul_one]
    omega
  have h' : 2 * (X' % y) + b - y < y := by omega
  refine ⟨by rw [hX, Nat.mul_add_mod, Nat.mod_eq_of_lt h'], ?_⟩
  have : X / y = 2 * (X' / y) + 1 := by rw [hX, Nat.mul_add_div hy, Nat.div_eq_of_lt h', Nat.add_zero]
  rw [this, Nat.add_mul, Nat.one_mul, Nat.mul_comm 2, Nat.mul_assoc, Nat.mul_comm 2]
theorem QV_dvd (x y i : Nat) : 2 ^ i ∣ QV x y i := ⟨_, Nat.mul_comm _ _⟩
theorem QV_le (x y i : Nat) : QV x y i ≤ x := by
  unfold QV
  exact Nat.le_trans (Nat.mul_le_mul_right _ (Nat.div_le_self _ _)) (Nat.div_mul_le_self _ _)
theorem QV_zero (x y : Nat) : QV x y 0 = x / y := by unfold QV; rw [Nat.pow_zero, Nat.div_one, Nat.mul_one]
theorem limb_free {V i : Nat} (hd : 2 ^ (i + 1) ∣ V) : ∃ c, V / B ^ (i / 32) % B = 2 ^ (i % 32 + 1) * c ∧ V / B ^ (i / 32) % B + 2 ^ (i % 32) < B := by
  have he : i % 32 + 1 ≤ 32 := Nat.mod_lt _ (by decide)
  have h1 : 2 ^ (i % 32 + 1) ∣ V / B ^ (i / 32) := by
    obtain ⟨c, rfl⟩ := hd
    refine ⟨c, ?_⟩
    rw [Nat.pow_succ, split_bit i, Nat.mul_assoc, Nat.mul_assoc, Nat.mul_div_cancel_left _ (Nat.pow_pos B_pos), ← Nat.mul_assoc, ← Nat.pow_succ]
  have h2 : 2 ^ (i % 32 + 1) ∣ B := by rw [B_two]; exact Nat.pow_dvd_pow 2 he
  have h3 : 2 ^ (i % 32 + 1) ∣ V / B ^ (i / 32) % B := (Nat.dvd_mod_iff h2).2 h1
  have hlt : V / B ^ (i / 32) % B < B := Nat.mod_lt _ B_pos
  generalize V / B ^ (i / 32) % B = a at *
  obtain ⟨c, rfl⟩ := h3
  refine ⟨c, rfl, ?_⟩
  obtain ⟨d, hd'⟩ := h2
  have hp := Nat.two_pow_pos (i % 32)
  have hcd : c < d := by
    rw [hd'] at hlt
    exact Nat.lt_of_mul_lt_mul_left hlt
  have := Nat.mul_le_mul_left (2 ^ (i % 32 + 1)) hcd
  rw [← hd', Nat.mul_succ, Nat.pow_succ] at this
  rw [Nat.pow_succ]
  omega
theorem pd_or {V i k : Nat} (hk : i / 32 < k) (hd : 2 ^ (i + 1) ∣ V) (hV : V < B ^ k) : (pd V k).set (i / 32) (V / B ^ (i / 32) % B + 2 ^ (i % 32)) = pd (V + 2 ^ i) k := by
  obtain ⟨c, _, hlt⟩ := limb_free hd
  refine pd_eq ?_ ?_ (by rw [List.length_set, pd_length])
  · intro y hy
    rcases List.mem_or_eq_of_mem_set hy with h | h
    · exact pd_lm _ _ y h
    · rw [h]; exact hlt
  · have := val_set (V / B ^ (i / 32) % B + 2 ^ (i % 32)) (pd_get V k _ hk)
    rw [pd_val _ _ hV, Nat.mul_add, ← split_bit] at this
    omega
end Go.Proofs.YtnhbdldchoepfaaDoor.Limb

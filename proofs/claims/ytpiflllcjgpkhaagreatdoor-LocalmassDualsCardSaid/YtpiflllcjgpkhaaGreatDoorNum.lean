/- Plain number theory, no program in sight: least factors, prime numbers, the wheel of 30. -/
namespace Go.Proofs.YtpiflllcjgpkhaaGreatDoor.Num

/-- No divisor from 2 to k - 1. -/
def NoDiv (n k : Nat) : Prop := ∀ d, 2 ≤ d → d < k → ¬ d ∣ n

def lfFrom : Nat → Nat → Nat → Nat
  | 0, _, n => n
  | f + 1, d, n => if n % d = 0 then d else lfFrom f (d + 1) n
/-- The least divisor from 2 on. -/
def lf (n : Nat) : Nat := lfFrom n 2 n

theorem lfFrom_spec : ∀ (f d n : Nat), 2 ≤ d → d ≤ n → n < d + f → NoDiv n d → 2 ≤ lfFrom f d n ∧ lfFrom f d n ∣ n ∧ NoDiv n (lfFrom f d n)
  | 0, d, n, h1, h2, h3, h4 => by omega
  | f + 1, d, n, h1, h2, h3, h4 => by
    unfold lfFrom
    by_cases h : n % d = 0
    · rw [if_pos h]; exact ⟨h1, Nat.dvd_of_mod_eq_zero h, h4⟩
    · rw [if_neg h]
      have hd : ¬ d ∣ n := fun hx => h (Nat.mod_eq_zero_of_dvd hx)
      have hne : d ≠ n := fun hx => hd (hx ▸ Nat.dvd_refl d)
      refine lfFrom_spec f (d + 1) n (by omega) (by omega) (by omega) ?_
      intro x hx1 hx2
      by_cases hxd : x = d
      · subst hxd; exact hd
      · exact h4 x hx1 (by omega)

theorem lf_spec (n : Nat) (h : 2 ≤ n) : 2 ≤ lf n ∧ lf n ∣ n ∧ NoDiv n (lf n) :=
  lfFrom_spec n 2 n (Nat.le_refl _) h (by omega) (fun d h1 h2 => by omega)

theorem lf_unique (n p : Nat) (h : 2 ≤ n) (h1 : 2 ≤ p) (h2 : p ∣ n) (h3 : NoDiv n p) : lf n = p := by
  obtain ⟨a, b, c⟩ := lf_spec n h
  rcases Nat.lt_trichotomy (lf n) p with hlt | heq | hgt
  · exact absurd b (h3 _ a hlt)
  · exact heq
  · exact absurd h2 (c p h1 hgt)

theorem lf_le (n : Nat) (h : 2 ≤ n) : lf n ≤ n := Nat.le_of_dvd (by omega) (lf_spec n h).2.1

/-- Without a divisor up to the root the number is its own least factor. -/
theorem lf_of_sq (n k : Nat) (h : 2 ≤ n) (h1 : NoDiv n k) (h2 : n < k * k) : lf n = n := by
  obtain ⟨a, ⟨c, hc⟩, b⟩ := lf_spec n h
  by_cases hk : lf n < k
  · exact absurd ⟨c, hc⟩ (h1 _ a hk)
  · have hkl : k ≤ lf n := by omega
    have hck : c < k := by
      rcases Nat.lt_or_ge c k with h' | h'
      · exact h'
      · have := Nat.mul_le_mul hkl h'
        omega
    have hc1 : ¬ 2 ≤ c := fun h2c => h1 c h2c hck ⟨lf n, by rw [Nat.mul_comm]; exact hc⟩
    have : c = 1 := by
      rcases Nat.eq_zero_or_pos c with h0 | h0
      · rw [h0] at hc; omega
      · omega
    rw [this] at hc; omega

def isP (n : Nat) : Bool := decide (2 ≤ n) && decide (n ≤ 2147483647) && (lf n == n)

/-- The wheel's offsets; the one behind the last is the next turn's first. -/
def off : Nat → Nat
  | 0 => 7 | 1 => 11 | 2 => 13 | 3 => 17 | 4 => 19 | 5 => 23 | 6 => 29 | 7 => 31 | _ => 37

theorem noDiv_gap {n a b : Nat} (h : NoDiv n a) (h2 : ¬ 2 ∣ n) (h3 : ¬ 3 ∣ n) (h5 : ¬ 5 ∣ n) (ha : ¬ a ∣ n)
    (hg : ∀ d, a < d → d < b → d % 2 = 0 ∨ d % 3 = 0 ∨ d % 5 = 0) : NoDiv n b := by
  intro d hd1 hd2 hdn
  rcases Nat.lt_trichotomy d a with hlt | heq | hgt
  · exact h d hd1 hlt hdn
  · exact ha (heq ▸ hdn)
  · rcases hg d hgt hd2 with h' | h' | h'
    · exact h2 (Nat.dvd_trans (Nat.dvd_of_mod_eq_zero h') hdn)
    · exact h3 (Nat.dvd_trans (Nat.dvd_of_mod_eq_zero h') hdn)
    · exact h5 (Nat.dvd_trans (Nat.dvd_of_mod_eq_zero h') hdn)

theorem wheel_step {n b k : Nat} (hk : k < 8) (h : NoDiv n (30 * b + off k)) (h2 : ¬ 2 ∣ n) (h3 : ¬ 3 ∣ n) (h5 : ¬ 5 ∣ n) (ha : ¬ (30 * b + off k) ∣ n) :
    NoDiv n (30 * b + off (k + 1)) := by
  refine noDiv_gap h h2 h3 h5 ha ?_
  intro d hd1 hd2
  match k, hk with
  | 0, _ => simp only [off] at hd1 hd2; omega
  | 1, _ => simp only [off] at hd1 hd2; omega
  | 2, _ => simp only [off] at hd1 hd2; omega
  | 3, _ => simp only [off] at hd1 hd2; omega
  | 4, _ => simp only [off] at hd1 hd2; omega
  | 5, _ =>
    simp only [off] at hd1 hd2
    have : d = 30 * b + 24 ∨ d = 30 * b + 25 ∨ d = 30 * b + 26 ∨ d = 30 * b + 27 ∨ d = 30 * b + 28 := by omega
    clear hd1 hd2
    rcases this with rfl | rfl | rfl | rfl | rfl <;> omega
  | 6, _ => simp only [off] at hd1 hd2; omega
  | 7, _ =>
    simp only [off] at hd1 hd2
    have : d = 30 * b + 32 ∨ d = 30 * b + 33 ∨ d = 30 * b + 34 ∨ d = 30 * b + 35 ∨ d = 30 * b + 36 := by omega
    clear hd1 hd2
    rcases this with rfl | rfl | rfl | rfl | rfl <;> omega

theorem off_bd (k : Nat) : 7 ≤ off k ∧ off k ≤ 37 := by
  unfold off; split <;> omega
theorem off_bd7 (k : Nat) (h : k < 8) : off k ≤ 31 := by
  match k, h with
  | 0, _ | 1, _ | 2, _ | 3, _ | 4, _ | 5, _ | 6, _ | 7, _ => simp [off]

theorem wheel_start {n : Nat} (h2 : ¬ 2 ∣ n) (h3 : ¬ 3 ∣ n) (h5 : ¬ 5 ∣ n) : NoDiv n 7 := by
  intro d hd1 hd2 hd
  have : d = 2 ∨ d = 3 ∨ d = 4 ∨ d = 5 ∨ d = 6 := by omega
  rcases this with rfl | rfl | rfl | rfl | rfl
  · exact h2 hd
  · exact h3 hd
  · exact h2 (Nat.dvd_trans ⟨2, rfl⟩ hd)
  · exact h5 hd
  · exact h2 (Nat.dvd_trans ⟨3, rfl⟩ hd)

end Go.Proofs.YtpiflllcjgpkhaaGreatDoor.Num

/- Plain number theory: the list of prime powers, as pairs (prime number, exponent). -/
import Derived.Test.YtpiflllcjgpkhaaGreatDoorJac
set_option maxRecDepth 3000
namespace Go.Proofs.YtpiflllcjgpkhaaGreatDoor.Num

/-- m without its factors p, and how many there were. -/
def strip : Nat → Nat → Nat → Nat × Nat
  | 0, _, m => (m, 0)
  | f + 1, p, m => if m % p = 0 then ((strip f p (m / p)).1, (strip f p (m / p)).2 + 1) else (m, 0)
theorem strip_spec : ∀ (f p m : Nat), 2 ≤ p → 1 ≤ m → m ≤ f → m = (strip f p m).1 * p ^ (strip f p m).2 ∧ ¬ p ∣ (strip f p m).1
  | 0, p, m, _, h1, h2 => by omega
  | f + 1, p, m, hp, h1, h2 => by
    unfold strip
    by_cases h : m % p = 0
    · rw [if_pos h]
      have e := Nat.mul_div_cancel' (Nat.dvd_of_mod_eq_zero h)
      have hpos : 1 ≤ m / p := by
        rcases Nat.eq_zero_or_pos (m / p) with h0 | h0
        · rw [h0] at e; omega
        · exact h0
      have hlt : m / p < m := Nat.div_lt_self (by omega) (by omega)
      obtain ⟨i1, i2⟩ := strip_spec f p (m / p) hp hpos (by omega)
      refine ⟨?_, i2⟩
      show m = (strip f p (m / p)).1 * p ^ ((strip f p (m / p)).2 + 1)
      rw [Nat.pow_succ, ← Nat.mul_assoc, ← i1, Nat.mul_comm]; exact e.symm
    · rw [if_neg h]
      exact ⟨by simp, fun hd => h (Nat.mod_eq_zero_of_dvd hd)⟩
theorem pow_pos' {p : Nat} (hp : 2 ≤ p) (e : Nat) : 1 ≤ p ^ e := Nat.pow_pos (by omega)
theorem strip_unique {p r s e f : Nat} (hp : 2 ≤ p) (h : r * p ^ e = s * p ^ f) (hr : ¬ p ∣ r) (hs : ¬ p ∣ s) : r = s ∧ e = f := by
  rcases Nat.lt_trichotomy e f with hlt | heq | hgt
  · obtain ⟨k, rfl⟩ : ∃ k, f = e + (k + 1) := ⟨f - e - 1, by omega⟩
    rw [Nat.pow_add, Nat.mul_left_comm, Nat.mul_comm r] at h
    have := Nat.eq_of_mul_eq_mul_left (pow_pos' hp e) h
    exact absurd ⟨s * p ^ k, by rw [this, Nat.pow_succ, ← Nat.mul_assoc, Nat.mul_comm]⟩ hr
  · subst heq
    exact ⟨Nat.eq_of_mul_eq_mul_right (pow_pos' hp e) h, rfl⟩
  · obtain ⟨k, rfl⟩ : ∃ k, e = f + (k + 1) := ⟨e - f - 1, by omega⟩
    rw [Nat.pow_add, Nat.mul_left_comm, Nat.mul_comm s] at h
    have := Nat.eq_of_mul_eq_mul_left (pow_pos' hp f) h
    exact absurd ⟨r * p ^ k, by rw [← this, Nat.pow_succ, ← Nat.mul_assoc, Nat.mul_comm]⟩ hs

def pwF : Nat → Nat → List (Nat × Nat)
  | 0, _ => []
  | f + 1, n => if n < 2 then [] else (lf n, (strip n (lf n) n).2) :: pwF f (strip n (lf n) n).1
def pw (n : Nat) : List (Nat × Nat) := pwF n n
/-- The rest after the least prime factor. -/
theorem rest_lt {n r e : Nat} (h : 2 ≤ n) (he : n = r * lf n ^ e) (hr : ¬ lf n ∣ r) : r < n ∧ 1 ≤ r ∧ 1 ≤ e := by
  obtain ⟨a, b, _⟩ := lf_spec n h
  have he1 : 1 ≤ e := by
    rcases Nat.eq_zero_or_pos e with h0 | h0
    · subst h0; rw [Nat.pow_zero, Nat.mul_one] at he; rw [← he] at hr; exact absurd b hr
    · exact h0
  have hr1 : 1 ≤ r := by
    rcases Nat.eq_zero_or_pos r with h0 | h0
    · subst h0; omega
    · exact h0
  refine ⟨?_, hr1, he1⟩
  have h2 : 2 ≤ lf n ^ e := by
    have := Nat.pow_le_pow_right (show 0 < lf n by omega) he1
    rw [Nat.pow_one] at this; omega
  have := Nat.mul_le_mul_left r h2
  omega
theorem pwF_fuel : ∀ (f g n : Nat), n ≤ f → n ≤ g → pwF f n = pwF g n
  | 0, 0, _, _, _ => rfl
  | 0, g + 1, n, h, _ => by unfold pwF; rw [if_pos (by omega)]
  | f + 1, 0, n, _, h => by unfold pwF; rw [if_pos (by omega)]
  | f + 1, g + 1, n, h1, h2 => by
    unfold pwF
    by_cases h : n < 2
    · rw [if_pos h, if_pos h]
    · rw [if_neg h, if_neg h]
      obtain ⟨s1, s2⟩ := strip_spec n (lf n) n (lf_spec n (by omega)).1 (by omega) (Nat.le_refl n)
      have := (rest_lt (by omega) s1 s2).1
      rw [pwF_fuel f g _ (by omega) (by omega)]
theorem pw_small {n : Nat} (h : n < 2) : pw n = [] := by
  unfold pw; cases n with
  | zero => rfl
  | succ n => unfold pwF; rw [if_pos h]
theorem pw_step {n r e : Nat} (h : 2 ≤ n) (he : n = r * lf n ^ e) (hr : ¬ lf n ∣ r) : pw n = (lf n, e) :: pw r := by
  obtain ⟨s1, s2⟩ := strip_spec n (lf n) n (lf_spec n (by omega)).1 (by omega) (Nat.le_refl n)
  obtain ⟨u1, u2⟩ := strip_unique (lf_spec n h).1 (s1.symm.trans he) s2 hr
  have hlt := rest_lt h he hr
  obtain ⟨k, hk⟩ : ∃ k, n = k + 1 := ⟨n - 1, by omega⟩
  have : pwF n n = (lf n, (strip n (lf n) n).2) :: pwF k (strip n (lf n) n).1 := by
    conv => lhs; rw [show pwF n n = pwF (k + 1) n by rw [← hk]]
    rw [pwF, if_neg (by omega)]
  unfold pw
  rw [this, u1, u2, pwF_fuel k r r (by omega) (Nat.le_refl r)]
/-- The prime factors with repetitions out of the powers. -/
def spread (l : List (Nat × Nat)) : List Nat := l.flatMap fun x => List.replicate x.2 x.1
theorem pf_power {n r e : Nat} (h : 2 ≤ n) (he : n = r * lf n ^ e) (hr : ¬ lf n ∣ r) : pf n = List.replicate e (lf n) ++ pf r := by
  have key : ∀ e n, 2 ≤ n → ∀ p, p = lf n → n = r * p ^ e → ¬ p ∣ r → pf n = List.replicate e p ++ pf r := by
    intro e
    induction e with
    | zero =>
      intro n hn p hp h1 h2
      rw [Nat.pow_zero, Nat.mul_one] at h1
      subst h1
      exact absurd (hp ▸ (lf_spec n hn).2.1) h2
    | succ e ih =>
      intro n hn p hp h1 h2
      have hp2 : 2 ≤ p := hp ▸ (lf_spec n hn).1
      have hdiv : n / lf n = r * p ^ e := by
        rw [← hp, h1, Nat.pow_succ, ← Nat.mul_assoc, Nat.mul_div_cancel _ (by omega)]
      rw [pf_step hn, hdiv, ← hp, List.replicate_succ, List.cons_append]
      congr 1
      rcases Nat.eq_zero_or_pos e with h0 | h0
      · subst h0; simp
      · have hr1 : 1 ≤ r := by
          rcases Nat.eq_zero_or_pos r with h0 | h0
          · subst h0; simp at h1; omega
          · exact h0
        have hm2 : 2 ≤ r * p ^ e := by
          obtain ⟨k, rfl⟩ : ∃ k, e = k + 1 := ⟨e - 1, by omega⟩
          have h3 := pow_pos' hp2 k
          rw [Nat.pow_succ]
          have := Nat.mul_le_mul h3 hp2
          have := Nat.mul_le_mul hr1 this
          omega
        refine ih (r * p ^ e) hm2 p ?_ rfl h2
        refine (lf_unique _ _ hm2 hp2 ?_ ?_).symm
        · obtain ⟨k, rfl⟩ : ∃ k, e = k + 1 := ⟨e - 1, by omega⟩
          rw [Nat.pow_succ, ← Nat.mul_assoc]; exact Nat.dvd_mul_left _ _
        · intro d hd1 hd2 hd
          refine (lf_spec n hn).2.2 d hd1 (hp ▸ hd2) ?_
          rw [h1, Nat.pow_succ, ← Nat.mul_assoc]
          exact Nat.dvd_mul_right_of_dvd hd _
  exact key e n h (lf n) rfl he hr
theorem spread_pw (n : Nat) (h : 1 ≤ n) : spread (pw n) = pf n := by
  induction n using Nat.strongRecOn with
  | _ n ih =>
    by_cases h2 : n < 2
    · rw [pw_small h2, pf_small h2]; rfl
    · obtain ⟨s1, s2⟩ := strip_spec n (lf n) n (lf_spec n (by omega)).1 (by omega) (Nat.le_refl n)
      have hlt := rest_lt (by omega) s1 s2
      rw [pw_step (by omega) s1 s2, pf_power (by omega) s1 s2, ← ih _ hlt.1 hlt.2.1]
      rfl

/-- What the loops of Factor keep: the list so far and the rest. -/
def FInv (L : List (Nat × Nat)) (m N : Nat) : Prop := 1 ≤ m ∧ L ++ pw m = pw N ∧ 2 ^ L.length * m ≤ N ∧ ∀ x ∈ L, x.1 ≤ N ∧ 2 ≤ x.1 ∧ 1 ≤ x.2 ∧ x.1 ^ x.2 ≤ N
theorem FInv.start (N : Nat) (h : 1 ≤ N) : FInv [] N N := ⟨h, rfl, by simp, by simp⟩
theorem FInv.step {L : List (Nat × Nat)} {m N r e : Nat} (hI : FInv L m N) (hm : 2 ≤ m) (he : m = r * lf m ^ e) (hr : ¬ lf m ∣ r) : FInv (L ++ [(lf m, e)]) r N := by
  obtain ⟨h1, h2, h3, h4⟩ := hI
  obtain ⟨q1, q2, q3⟩ := rest_lt hm he hr
  have hpos : 1 ≤ 2 ^ L.length := pow_pos' (Nat.le_refl 2) _
  have hmN : m ≤ N := by have := Nat.mul_le_mul_right m hpos; omega
  refine ⟨q2, ?_, ?_, ?_⟩
  · rw [List.append_assoc, ← h2, pw_step hm he hr]; rfl
  · rw [List.length_append, List.length_singleton, Nat.pow_succ, Nat.mul_assoc]
    refine Nat.le_trans (Nat.mul_le_mul_left _ ?_) h3
    have h2e : 2 ≤ lf m ^ e := by
      have := Nat.pow_le_pow_right (show 0 < lf m by have := (lf_spec m hm).1; omega) q3
      rw [Nat.pow_one] at this; have := (lf_spec m hm).1; omega
    have := Nat.mul_le_mul_left r h2e
    omega
  · intro x hx
    rcases List.mem_append.1 hx with hx | hx
    · exact h4 x hx
    · rw [List.mem_singleton] at hx
      subst hx
      refine ⟨by have := lf_le m hm; show lf m ≤ N; omega, (lf_spec m hm).1, q3, ?_⟩
      show lf m ^ e ≤ N
      have := Nat.mul_le_mul_right (lf m ^ e) q2
      omega
theorem FInv.len {L : List (Nat × Nat)} {m N : Nat} (hI : FInv L m N) (hN : N ≤ 2147483647) : L.length ≤ 30 := by
  obtain ⟨h1, _, h3, _⟩ := hI
  rcases Nat.lt_or_ge 30 L.length with h | h
  · have := Nat.pow_le_pow_right (show 0 < 2 by omega) h
    have h5 : 2 ^ 31 ≤ 2 ^ L.length * m := Nat.le_trans this (Nat.le_mul_of_pos_right _ h1)
    have : (2 : Nat) ^ 31 = 2147483648 := by decide
    omega
  · exact h
theorem FInv.done {L : List (Nat × Nat)} {m N : Nat} (hI : FInv L m N) (h : m < 2) : L = pw N := by
  have := hI.2.1
  rwa [pw_small h, List.append_nil] at this
theorem exp_bd {p e N : Nat} (hp : 2 ≤ p) (h : p ^ e ≤ N) (hN : N ≤ 2147483647) : e ≤ 30 := by
  rcases Nat.lt_or_ge 30 e with h' | h'
  · have h1 := Nat.pow_le_pow_right (show 0 < 2 by omega) h'
    have h2 : 2 ^ e ≤ p ^ e := Nat.pow_le_pow_left hp e
    have : (2 : Nat) ^ 31 = 2147483648 := by decide
    have h3 : 2 ^ (30 + 1) ≤ N := Nat.le_trans h1 (Nat.le_trans h2 h)
    omega
  · exact h'
theorem pw_bd (N : Nat) (h : 1 ≤ N) : (pw N).length ≤ N ∧ ∀ x ∈ pw N, x.1 ≤ N ∧ 2 ≤ x.1 ∧ 1 ≤ x.2 ∧ x.1 ^ x.2 ≤ N := by
  have key : ∀ n L, FInv L n N → ∃ m, FInv (pw N) m N := by
    intro n
    induction n using Nat.strongRecOn with
    | _ n ih =>
      intro L hI
      by_cases h2 : n < 2
      · exact ⟨n, hI.done h2 ▸ hI⟩
      · obtain ⟨s1, s2⟩ := strip_spec n (lf n) n (lf_spec n (by omega)).1 (by omega) (Nat.le_refl n)
        have hlt := rest_lt (by omega) s1 s2
        exact ih _ hlt.1 _ (hI.step (by omega) s1 s2)
  obtain ⟨m, h1, _, h3, h4⟩ := key N [] (FInv.start N h)
  refine ⟨?_, h4⟩
  have : (pw N).length < 2 ^ (pw N).length := Nat.lt_two_pow_self
  have := Nat.mul_le_mul_left (2 ^ (pw N).length) h1
  omega
end Go.Proofs.YtpiflllcjgpkhaaGreatDoor.Num

/- The Kronecker symbol computed fast; finite checks for the characters of chapter 31. Plain. -/
import Derived.Test.YtgbiccenhionaaaDoorBg
set_option maxRecDepth 3000
namespace Go.Proofs.YtgbiccenhionaaaDoor
open Limb Num
/-- The symbol by reciprocity: 0 for 0, 1 for 1, 2 for -1; b: the sign so far. -/
def jacB : Nat → Nat → Nat → Bool → Nat
  | 0, _, _, _ => 0
  | k + 1, a, n, b => cond (Nat.beq a 0) (cond (Nat.beq n 1) (cond b 2 1) 0) (cond (Nat.beq (a % 2) 0) (jacB k (a / 2) n (xor b (or (Nat.beq (n % 8) 3) (Nat.beq (n % 8) 5)))) (jacB k (n % a) a (xor b (and (Nat.beq (a % 4) 3) (Nat.beq (n % 4) 3)))))
def cod : Nat → Int
  | 1 => 1
  | 2 => -1
  | _ => 0
def sgB (b : Bool) : Int := cond b (-1) 1
theorem sgB_xor (b c : Bool) : sgB (xor b c) = sgB b * sgB c := by cases b <;> cases c <;> rfl
theorem beq_ne {a b : Nat} (h : a ≠ b) : Nat.beq a b = false := by cases hh : Nat.beq a b; rfl; exact absurd (Nat.eq_of_beq_eq_true hh) h
theorem beq_eq' {a b : Nat} (h : a = b) : Nat.beq a b = true := by subst h; simp
theorem chi8_B {n : Nat} (hn : n % 2 = 1) : sgB (or (Nat.beq (n % 8) 3) (Nat.beq (n % 8) 5)) = chi8 n := by
  unfold chi8
  have h : n % 8 = 1 ∨ n % 8 = 3 ∨ n % 8 = 5 ∨ n % 8 = 7 := by omega
  rcases h with h | h | h | h <;> rw [h] <;> rfl
theorem sg_B {a n : Nat} (ha : a % 2 = 1) (hn : n % 2 = 1) : sgB (and (Nat.beq (a % 4) 3) (Nat.beq (n % 4) 3)) = sg a n := by
  unfold sg eps
  have h1 : a % 4 = 1 ∨ a % 4 = 3 := by omega
  have h2 : n % 4 = 1 ∨ n % 4 = 3 := by omega
  have e : ((a - 1) / 2 * ((n - 1) / 2)) % 2 = ((a - 1) / 2 % 2) * ((n - 1) / 2 % 2) % 2 := Nat.mul_mod _ _ _
  rw [e]
  rcases h1 with h1 | h1 <;> rcases h2 with h2 | h2
  · rw [h1, h2, show (a - 1) / 2 % 2 = 0 by omega, show (n - 1) / 2 % 2 = 0 by omega]; rfl
  · rw [h1, h2, show (a - 1) / 2 % 2 = 0 by omega, show (n - 1) / 2 % 2 = 1 by omega]; rfl
  · rw [h1, h2, show (a - 1) / 2 % 2 = 1 by omega, show (n - 1) / 2 % 2 = 0 by omega]; rfl
  · rw [h1, h2, show (a - 1) / 2 % 2 = 1 by omega, show (n - 1) / 2 % 2 = 1 by omega]; rfl
theorem jacB_ok : ∀ (k a n : Nat) (b : Bool), a < k → n % 2 = 1 → cod (jacB k a n b) = sgB b * kr a n
  | 0, _, _, _, h, _ => by omega
  | k + 1, a, n, b, h, hn => by
    rw [jacB]
    by_cases h0 : a = 0
    · subst h0
      rw [beq_eq' rfl]
      by_cases h1 : n = 1
      · subst h1
        rw [beq_eq' rfl, show kr ((0 : Nat) : Int) 1 = 1 from kr_one _]
        cases b <;> rfl
      · rw [beq_ne h1, show kr ((0 : Nat) : Int) n = 0 from kr_zero_top hn h1, Int.mul_zero]; rfl
    · rw [beq_ne h0]
      by_cases h2 : a % 2 = 0
      · rw [beq_eq' h2]
        show cod (jacB k (a / 2) n _) = _
        rw [jacB_ok k (a / 2) n _ (by omega) hn, sgB_xor, chi8_B hn, Int.mul_assoc, ← kr_half a hn h2]
      · have ha : a % 2 = 1 := by omega
        have hlt := Nat.mod_lt n (Nat.pos_of_ne_zero h0)
        rw [beq_ne h2]
        show cod (jacB k (n % a) a _) = _
        rw [jacB_ok k (n % a) a _ (by omega) ha, sgB_xor, sg_B ha hn, Int.mul_assoc, ← kr_flip ha hn]
/-- The symbol of d and n; t, u: whether 2 has the symbol -1, 0. -/
def kfB (neg : Bool) (D : Nat) (t u : Bool) : Nat → Nat → Bool → Nat
  | 0, _, _ => 0
  | k + 1, n, b => cond (Nat.beq (n % 2) 0) (cond u 0 (kfB neg D t u k (n / 2) (xor b t))) (jacB (n + 1) (cond neg ((n - D % n) % n) (D % n)) n b)
def two1 (d : Int) : Bool := decide (two d = -1)
def two0 (d : Int) : Bool := decide (two d = 0)
theorem two_B (d : Int) : two d = cond (two0 d) 0 (sgB (two1 d)) := by
  unfold two0 two1 two
  split
  · rfl
  · split <;> rfl
theorem resid {d : Int} {neg : Bool} {D n : Nat} (hd : d = cond neg (-(D : Int)) (D : Int)) (hn : 0 < n) : (n : Int) ∣ d - ((cond neg ((n - D % n) % n) (D % n) : Nat) : Int) := by
  have e := Nat.div_add_mod D n
  have hlt := Nat.mod_lt D hn
  cases neg with
  | false =>
    refine ⟨(D / n : Nat), ?_⟩
    rw [hd]
    show (D : Int) - ((D % n : Nat) : Int) = _
    have : (D : Int) = (n : Int) * ((D / n : Nat) : Int) + ((D % n : Nat) : Int) := by exact_mod_cast e.symm
    omega
  | true =>
    rw [hd]
    show (n : Int) ∣ -(D : Int) - (((n - D % n) % n : Nat) : Int)
    have h1 : (D : Int) = (n : Int) * ((D / n : Nat) : Int) + ((D % n : Nat) : Int) := by exact_mod_cast e.symm
    by_cases hz : D % n = 0
    · rw [hz, Nat.sub_zero, Nat.mod_self]
      rw [hz] at h1
      exact ⟨-((D / n : Nat) : Int), by rw [Int.mul_neg]; omega⟩
    · rw [Nat.mod_eq_of_lt (show n - D % n < n by omega)]
      exact ⟨-((D / n : Nat) : Int) - 1, by rw [Int.mul_sub, Int.mul_neg]; omega⟩
theorem kfB_ok {d : Int} {neg : Bool} {D : Nat} (hd : d = cond neg (-(D : Int)) (D : Int)) : ∀ (k n : Nat) (b : Bool), n < k → 1 ≤ n → cod (kfB neg D (two1 d) (two0 d) k n b) = sgB b * kr d n
  | 0, _, _, h, _ => by omega
  | k + 1, n, b, h, h1 => by
    rw [kfB]
    by_cases h2 : n % 2 = 0
    · have hm : 1 ≤ n / 2 := by omega
      have ek : kr d n = two d * kr d (n / 2) := by rw [← kr_two d hm, show 2 * (n / 2) = n by omega]
      rw [beq_eq' h2, ek, two_B]
      show cod (cond (two0 d) 0 (kfB neg D (two1 d) (two0 d) k (n / 2) (xor b (two1 d)))) = _
      cases h0 : two0 d with
      | true => show (0 : Int) = sgB b * (0 * _); rw [Int.zero_mul, Int.mul_zero]
      | false =>
        show cod (kfB neg D (two1 d) false k (n / 2) (xor b (two1 d))) = sgB b * (sgB (two1 d) * kr d (n / 2))
        have := kfB_ok hd k (n / 2) (xor b (two1 d)) (by omega) hm
        rw [h0] at this
        rw [this, sgB_xor, Int.mul_assoc]
    · have ho : n % 2 = 1 := by omega
      rw [beq_ne h2]
      show cod (jacB (n + 1) _ n b) = _
      have hr : cond neg ((n - D % n) % n) (D % n) < n := by
        cases neg with
        | false => exact Nat.mod_lt _ (by omega)
        | true => exact Nat.mod_lt _ (by omega)
      rw [jacB_ok (n + 1) _ n b (by omega) ho]
      congr 1
      exact (kr_mod _ _ ho (resid hd (by omega))).symm
/-- The symbols' codes. -/
def kc (neg : Bool) (D : Nat) (t u : Bool) (n : Nat) : Nat := kfB neg D t u (n + 1) n false
theorem kc_ok {d : Int} {neg : Bool} {D : Nat} (hd : d = cond neg (-(D : Int)) (D : Int)) {n : Nat} (h : 1 ≤ n) : krZ d (n : Int) = cod (kc neg D (two1 d) (two0 d) n) := by
  unfold kc
  rw [kfB_ok hd _ _ _ (by omega) h]
  unfold krZ
  rw [if_neg (by omega), if_neg (by omega)]
  rfl
/-! ### All power sums at once -/
def XX : Nat := 2 ^ 120
def hS : List Nat → Nat
  | [] => 0
  | a :: l => a + XX * hS l
def addN : List Nat → List Nat → List Nat
  | a :: l, b :: m => (a + b) :: addN l m
  | _, _ => []
theorem hS_add : ∀ {l m : List Nat}, l.length = m.length → hS (addN l m) = hS l + hS m
  | [], [], _ => rfl
  | a :: l, b :: m, h => by
    rw [addN, hS, hS, hS, hS_add (by simpa using h), Nat.mul_add]; omega
  | [], _ :: _, h => by cases h
  | _ :: _, [], h => by cases h
def unp : Nat → Nat → Nat
  | 0, N => N % XX
  | i + 1, N => unp i (N / XX)
theorem unp_ok : ∀ {l : List Nat}, (∀ x ∈ l, x < XX) → ∀ {i x : Nat}, l[i]? = some x → unp i (hS l) = x
  | [], _, _, _, h => by simp at h
  | a :: l, hl, 0, x, h => by
    simp at h; subst h
    rw [unp, hS, Nat.add_mul_mod_self_left, Nat.mod_eq_of_lt (hl _ (by simp))]
  | a :: l, hl, i + 1, x, h => by
    have hX : 0 < XX := by decide
    rw [unp, hS, Nat.add_mul_div_left _ _ hX, Nat.div_eq_of_lt (hl _ (by simp)), Nat.zero_add]
    exact unp_ok (fun y hy => hl y (by simp [hy])) (by simpa using h)
def pl7 (a : Nat) : List Nat := [1, a, a ^ 2, a ^ 3, a ^ 4, a ^ 5, a ^ 6]
def ho (a : Nat) : Nat → Nat
  | 0 => 0
  | k + 1 => 1 + XX * a * ho a k
def pk (neg : Bool) (D : Nat) (t u : Bool) : Nat → Nat
  | 0 => 0
  | m + 1 => pk neg D t u m + (match kc neg D t u (m + 1) with
    | 0 => 0
    | 1 => ho (m + 1) 7
    | _ => XX ^ 7 * ho (m + 1) 7)
def accs (d : Int) (m : Nat) : List Nat := [acc 1 d 0 m, acc 1 d 1 m, acc 1 d 2 m, acc 1 d 3 m, acc 1 d 4 m, acc 1 d 5 m, acc 1 d 6 m, acc (-1) d 0 m, acc (-1) d 1 m, acc (-1) d 2 m, acc (-1) d 3 m, acc (-1) d 4 m, acc (-1) d 5 m, acc (-1) d 6 m]
theorem ho7 (a : Nat) : ho a 7 = hS ([a ^ 0, a ^ 1, a ^ 2, a ^ 3, a ^ 4, a ^ 5, a ^ 6, 0, 0, 0, 0, 0, 0, 0]) := by
  simp only [ho, hS, Nat.pow_zero, Nat.pow_one, Nat.mul_zero, Nat.add_zero]
  generalize XX = x
  grind
theorem ho7' (a : Nat) : XX ^ 7 * ho a 7 = hS ([0, 0, 0, 0, 0, 0, 0, a ^ 0, a ^ 1, a ^ 2, a ^ 3, a ^ 4, a ^ 5, a ^ 6]) := by
  simp only [ho, hS, Nat.pow_zero, Nat.pow_one, Nat.mul_zero, Nat.add_zero]
  generalize XX = x
  grind
theorem kc_cases (neg : Bool) (D : Nat) (t u : Bool) (n : Nat) : kc neg D t u n = 0 ∨ kc neg D t u n = 1 ∨ kc neg D t u n = 2 := by
  have h1 : ∀ (k a n : Nat) (b : Bool), jacB k a n b = 0 ∨ jacB k a n b = 1 ∨ jacB k a n b = 2 := by
    intro k
    induction k with
    | zero => intro a n b; exact .inl rfl
    | succ k ih =>
      intro a n b
      rw [jacB]
      cases Nat.beq a 0
      · cases Nat.beq (a % 2) 0
        · exact ih _ _ _
        · exact ih _ _ _
      · cases Nat.beq n 1
        · exact .inl rfl
        · cases b
          · exact .inr (.inl rfl)
          · exact .inr (.inr rfl)
  have h2 : ∀ (k n : Nat) (b : Bool), kfB neg D t u k n b = 0 ∨ kfB neg D t u k n b = 1 ∨ kfB neg D t u k n b = 2 := by
    intro k
    induction k with
    | zero => intro n b; exact .inl rfl
    | succ k ih =>
      intro n b
      rw [kfB]
      cases Nat.beq (n % 2) 0
      · exact h1 _ _ _ _
      · cases u
        · exact ih _ _
        · exact .inl rfl
  exact h2 _ _ _
theorem pk_ok {d : Int} {neg : Bool} {D : Nat} (hd : d = cond neg (-(D : Int)) (D : Int)) : ∀ m, pk neg D (two1 d) (two0 d) m = hS (accs d m)
  | 0 => by simp [pk, accs, acc, hS]
  | m + 1 => by
    have hk := kc_ok hd (n := m + 1) (by omega)
    rw [pk, pk_ok hd m]
    rcases kc_cases neg D (two1 d) (two0 d) (m + 1) with h | h | h
    · rw [h] at hk ⊢
      have e : ∀ j, acc 1 d j (m + 1) = acc 1 d j m := fun j => acc_neg (by rw [hk]; decide)
      have e' : ∀ j, acc (-1) d j (m + 1) = acc (-1) d j m := fun j => acc_neg (by rw [hk]; decide)
      simp only [accs, e, e', Nat.add_zero]
    · rw [h] at hk ⊢
      have e : ∀ j, acc 1 d j (m + 1) = acc 1 d j m + (m + 1) ^ j := fun j => acc_pos hk
      have e' : ∀ j, acc (-1) d j (m + 1) = acc (-1) d j m := fun j => acc_neg (by rw [hk]; decide)
      simp only []
      rw [ho7, ← hS_add (by simp [accs])]
      simp only [accs, e, e', addN, Nat.add_zero]
    · rw [h] at hk ⊢
      have e : ∀ j, acc 1 d j (m + 1) = acc 1 d j m := fun j => acc_neg (by rw [hk]; decide)
      have e' : ∀ j, acc (-1) d j (m + 1) = acc (-1) d j m + (m + 1) ^ j := fun j => acc_pos hk
      simp only []
      rw [ho7', ← hS_add (by simp [accs])]
      simp only [accs, e, e', addN, Nat.add_zero]
/-- The sum of a generalized Bernoulli number, the power sums given. -/
def gsT (k : Nat) (T : Nat → Int) (f : Nat) : Nat → Rat
  | 0 => 0
  | i + 1 => gsT k T f i + (((bin k i : Int) : Rat) * bern i * ((T (k - i) : Int) : Rat)) * gsc f i
theorem gsT_ok {k : Nat} {d : Int} {f : Nat} {T : Nat → Int} (hT : ∀ j, j ≤ k → T j = psS d f j) : ∀ i, gsum k d f i = gsT k T f i
  | 0 => rfl
  | i + 1 => by rw [gsum, gsT, gsT_ok hT i, gterm, hT (k - i) (by omega)]
def TT (N : Nat) (j : Nat) : Int := (unp j N : Int) - (unp (j + 7) N : Int)
theorem acc_bd (s d : Int) {j m : Nat} (hm : m ≤ 40000) (hj : j ≤ 6) : acc s d j m < XX := by
  have h1 := acc_le s d (j := j) (m := m) (F := 40000) hm
  have h2 : m * 40000 ^ j ≤ 40000 * 40000 ^ 6 := Nat.mul_le_mul hm (Nat.pow_le_pow_right (by omega) hj)
  have h3 : 40000 * 40000 ^ 6 < XX := by unfold XX; decide
  omega
theorem TT_ok {d : Int} {neg : Bool} {D : Nat} (hd : d = cond neg (-(D : Int)) (D : Int)) {m : Nat} (hm : m ≤ 40000) {j : Nat} (hj : j ≤ 6) : TT (pk neg D (two1 d) (two0 d) m) j = psS d m j := by
  unfold TT psS
  rw [pk_ok hd m]
  have hall : ∀ x ∈ accs d m, x < XX := by
    intro x hx
    simp only [accs, List.mem_cons, List.not_mem_nil, or_false] at hx
    rcases hx with rfl | rfl | rfl | rfl | rfl | rfl | rfl | rfl | rfl | rfl | rfl | rfl | rfl | rfl <;> exact acc_bd _ _ hm (by omega)
  have hj' : j = 0 ∨ j = 1 ∨ j = 2 ∨ j = 3 ∨ j = 4 ∨ j = 5 ∨ j = 6 := by omega
  rcases hj' with rfl | rfl | rfl | rfl | rfl | rfl | rfl <;> rw [unp_ok hall rfl, unp_ok hall rfl]
end Go.Proofs.YtgbiccenhionaaaDoor

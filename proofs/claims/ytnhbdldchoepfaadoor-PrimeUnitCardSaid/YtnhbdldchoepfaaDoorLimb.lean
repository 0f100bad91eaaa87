/- Plain arithmetic: lists of limbs of 32 bits, the least significant first. -/
namespace Go.Proofs.YtnhbdldchoepfaaDoor.Limb

/-- The base. -/
def B : Nat := 4294967296
theorem B_def : B = 4294967296 := rfl
theorem B_pos : 0 < B := by decide
def val : List Nat → Nat
  | [] => 0
  | x :: l => x + B * val l
/-- Each limb fits. -/
def Lm (l : List Nat) : Prop := ∀ x ∈ l, x < B
theorem Lm.nil : Lm [] := by simp [Lm]
theorem Lm.cons {x : Nat} {l : List Nat} (hx : x < B) (hl : Lm l) : Lm (x :: l) := by
  intro y hy
  rcases List.mem_cons.1 hy with rfl | hy
  · exact hx
  · exact hl y hy
theorem Lm.head {x : Nat} {l : List Nat} (h : Lm (x :: l)) : x < B := h x (by simp)
theorem Lm.tail {x : Nat} {l : List Nat} (h : Lm (x :: l)) : Lm l := fun y hy => h y (by simp [hy])
theorem Lm.append {a b : List Nat} (ha : Lm a) (hb : Lm b) : Lm (a ++ b) := by
  intro y hy
  rcases List.mem_append.1 hy with h | h
  · exact ha y h
  · exact hb y h
theorem Lm.sub {a b : List Nat} (hb : Lm b) (h : ∀ x ∈ a, x ∈ b) : Lm a := fun x hx => hb x (h x hx)
theorem Lm.take {l : List Nat} (h : Lm l) (n : Nat) : Lm (l.take n) := h.sub fun _ hx => List.mem_of_mem_take hx
theorem Lm.drop {l : List Nat} (h : Lm l) (n : Nat) : Lm (l.drop n) := h.sub fun _ hx => List.mem_of_mem_drop hx
theorem Lm.get {l : List Nat} (h : Lm l) {i x : Nat} (hx : l[i]? = some x) : x < B := h x (List.mem_of_getElem? hx)
theorem val_append (a b : List Nat) : val (a ++ b) = val a + B ^ a.length * val b := by
  induction a with
  | nil => simp [val]
  | cons x l ih => simp only [List.cons_append, val, ih, List.length_cons, Nat.pow_succ, Nat.mul_add]; rw [Nat.mul_comm (B ^ l.length) B, Nat.mul_assoc]; omega
theorem val_lt {l : List Nat} (h : Lm l) : val l < B ^ l.length := by
  induction l with
  | nil => simp [val]
  | cons x l ih =>
    have h1 := ih h.tail
    have h2 := h.head
    simp only [val, List.length_cons, Nat.pow_succ]
    have : B * (val l + 1) ≤ B * B ^ l.length := Nat.mul_le_mul_left _ h1
    rw [Nat.mul_comm (B ^ l.length)]
    rw [Nat.mul_add] at this
    omega
theorem val_zeros (n : Nat) : val (List.replicate n 0) = 0 := by
  induction n with
  | zero => rfl
  | succ n ih => rw [List.replicate_succ, val, ih]; rfl

/-! ### The digits of a number -/
def digF : Nat → Nat → List Nat
  | 0, _ => []
  | f + 1, n => if n = 0 then [] else n % B :: digF f (n / B)
def digs (n : Nat) : List Nat := digF n n
theorem digF_fuel : ∀ (f g n : Nat), n ≤ f → n ≤ g → digF f n = digF g n
  | 0, 0, _, _, _ => rfl
  | 0, g + 1, n, h, _ => by unfold digF; rw [if_pos (by omega)]
  | f + 1, 0, n, _, h => by unfold digF; rw [if_pos (by omega)]
  | f + 1, g + 1, n, h1, h2 => by
    unfold digF
    by_cases h : n = 0
    · rw [if_pos h, if_pos h]
    · rw [if_neg h, if_neg h]
      have : n / B < n := Nat.div_lt_self (by omega) (by decide)
      rw [digF_fuel f g _ (by omega) (by omega)]
theorem digs_zero : digs 0 = [] := rfl
theorem digs_step {n : Nat} (h : n ≠ 0) : digs n = n % B :: digs (n / B) := by
  obtain ⟨k, rfl⟩ : ∃ k, n = k + 1 := ⟨n - 1, by omega⟩
  have : (k + 1) / B < k + 1 := Nat.div_lt_self (by omega) (by decide)
  show digF (k + 1) (k + 1) = _
  rw [digF, if_neg (by omega)]
  unfold digs
  rw [digF_fuel k _ _ (by omega) (Nat.le_refl _)]
theorem digs_ok (n : Nat) : val (digs n) = n ∧ Lm (digs n) := by
  induction n using Nat.strongRecOn with
  | _ n ih =>
    by_cases h : n = 0
    · subst h; exact ⟨rfl, Lm.nil⟩
    · have hlt : n / B < n := Nat.div_lt_self (by omega) (by decide)
      obtain ⟨h1, h2⟩ := ih _ hlt
      rw [digs_step h]
      exact ⟨by simp only [val]; rw [h1]; exact Nat.mod_add_div n B, Lm.cons (Nat.mod_lt _ B_pos) h2⟩
theorem val_digs (n : Nat) : val (digs n) = n := (digs_ok n).1
theorem lm_digs (n : Nat) : Lm (digs n) := (digs_ok n).2
theorem digs_cons {x n : Nat} (hx : x < B) (h : x + B * n ≠ 0) : digs (x + B * n) = x :: digs n := by
  rw [digs_step h]
  have e1 : (x + B * n) % B = x := by rw [Nat.add_mul_mod_self_left, Nat.mod_eq_of_lt hx]
  have e2 : (x + B * n) / B = n := by rw [Nat.add_mul_div_left _ _ B_pos, Nat.div_eq_of_lt hx, Nat.zero_add]
  rw [e1, e2]
theorem digs_length_le {n k : Nat} (h : n < B ^ k) : (digs n).length ≤ k := by
  induction k generalizing n with
  | zero => simp at h; subst h; simp [digs_zero]
  | succ k ih =>
    by_cases h0 : n = 0
    · subst h0; simp [digs_zero]
    · rw [digs_step h0, List.length_cons]
      have : n / B < B ^ k := Nat.div_lt_of_lt_mul (by rw [Nat.pow_succ] at h; rw [Nat.mul_comm]; exact h)
      have := ih this
      omega
theorem lt_of_digs (n : Nat) : n < B ^ (digs n).length := by
  have := val_lt (lm_digs n)
  rwa [val_digs] at this
theorem digs_mono {a b : Nat} (h : a ≤ b) : (digs a).length ≤ (digs b).length := digs_length_le (Nat.lt_of_le_of_lt h (lt_of_digs b))
theorem digs_mul (a b : Nat) : (digs (a * b)).length ≤ (digs a).length + (digs b).length :=
  digs_length_le (by rw [Nat.pow_add]; exact Nat.mul_lt_mul'' (lt_of_digs a) (lt_of_digs b))
theorem digs_add (a b : Nat) : (digs (a + b)).length ≤ max (digs a).length (digs b).length + 1 := by
  refine digs_length_le ?_
  have h1 := lt_of_digs a
  have h2 := lt_of_digs b
  have p1 := Nat.pow_le_pow_right B_pos (Nat.le_max_left (digs a).length (digs b).length)
  have p2 := Nat.pow_le_pow_right B_pos (Nat.le_max_right (digs a).length (digs b).length)
  rw [Nat.pow_succ]
  have : B ^ max (digs a).length (digs b).length * 2 ≤ B ^ max (digs a).length (digs b).length * B := Nat.mul_le_mul_left _ (by decide)
  omega
/-- The last digit is not 0. -/
theorem digs_last {n x : Nat} (h : (digs n).getLast? = some x) : x ≠ 0 := by
  induction n using Nat.strongRecOn with
  | _ n ih =>
    by_cases h0 : n = 0
    · subst h0; simp [digs_zero] at h
    · rw [digs_step h0] at h
      by_cases h1 : n / B = 0
      · rw [h1, digs_zero, List.getLast?_singleton] at h
        have := Option.some.inj h
        have := Nat.mod_add_div n B
        rw [h1] at this
        omega
      · have hlt : n / B < n := Nat.div_lt_self (by omega) (by decide)
        refine ih _ hlt ?_
        rw [digs_step h1] at h ⊢
        rwa [List.getLast?_cons_cons] at h
/-- Without zeros at the end a list is the list of the digits. -/
theorem digs_val {l : List Nat} (hl : Lm l) (h : ∀ x, l.getLast? = some x → x ≠ 0) : digs (val l) = l := by
  induction l with
  | nil => rfl
  | cons x l ih =>
    cases l with
    | nil =>
      have hx : x ≠ 0 := h x rfl
      have := digs_cons (n := 0) hl.head (by simpa using hx)
      rw [digs_zero] at this
      simpa [val] using this
    | cons y t =>
      have h' : ∀ z, (y :: t).getLast? = some z → z ≠ 0 := fun z hz => h z (by simpa using hz)
      have i := ih hl.tail h'
      have hne : val (y :: t) ≠ 0 := by
        intro h0
        rw [h0, digs_zero] at i
        cases i
      show digs (x + B * val (y :: t)) = _
      rw [digs_cons hl.head (by have := Nat.mul_pos B_pos (Nat.pos_of_ne_zero hne); omega), i]
/-- The list up to k, all behind it being zero, has the same value. -/
theorem val_take {l : List Nat} {k : Nat} (h : ∀ i x, k ≤ i → l[i]? = some x → x = 0) : val (l.take k) = val l := by
  have hz : ∀ {l : List Nat}, (∀ x ∈ l, x = 0) → val l = 0 := by
    intro l
    induction l with
    | nil => intro _; rfl
    | cons x l ih => intro h; rw [val, h x (by simp), ih fun y hy => h y (by simp [hy])]; rfl
  conv => rhs; rw [← List.take_append_drop k l, val_append]
  rw [hz (l := l.drop k)]
  · simp
  · intro x hx
    obtain ⟨i, hi⟩ := List.getElem?_of_mem hx
    rw [List.getElem?_drop] at hi
    exact h (k + i) x (by omega) hi
/-- Trimming by hand: k is 0 or the limb ahead of k is not 0, and all from k on are 0. -/
theorem trim_digs {l : List Nat} {k : Nat} (hl : Lm l) (hk : k ≤ l.length) (h0 : ∀ i x, k ≤ i → l[i]? = some x → x = 0) (h1 : ∀ x, 0 < k → l[k - 1]? = some x → x ≠ 0) : l.take k = digs (val l) := by
  rw [← val_take h0]
  refine (digs_val (hl.take k) fun x hx => ?_).symm
  rcases Nat.eq_zero_or_pos k with hz | hz
  · subst hz; simp at hx
  · refine h1 x hz ?_
    rw [List.getLast?_eq_getElem?, List.length_take, Nat.min_eq_left hk, List.getElem?_take_of_lt (by omega)] at hx
    exact hx

/-! ### Comparing -/
theorem val_lt_of_length {a b : List Nat} (ha : Lm a) (h : a.length < b.length) (hb : ∀ x, b.getLast? = some x → x ≠ 0) : val a < val b := by
  have h1 := val_lt ha
  obtain ⟨i, z, rfl⟩ : ∃ i z, b = i ++ [z] := by
    have hne : b ≠ [] := by rintro rfl; simp at h
    exact ⟨b.dropLast, b.getLast hne, (List.dropLast_concat_getLast hne).symm⟩
  have hz : z ≠ 0 := hb z (by simp)
  rw [val_append]
  simp only [val, List.length_append, List.length_singleton] at *
  have p := Nat.pow_le_pow_right B_pos (show a.length ≤ i.length by omega)
  have : B ^ i.length * 1 ≤ B ^ i.length * z := Nat.mul_le_mul_left _ (by omega)
  have e : B ^ i.length * (z + B * 0) = B ^ i.length * z := by rw [Nat.mul_zero, Nat.add_zero]
  omega
/-- At the first place from the top where two lists differ the greater limb decides. -/
theorem val_lt_of_top {a b : List Nat} (hl : a.length = b.length) {k x y : Nat} (ha : Lm a) (hx : a[k]? = some x) (hy : b[k]? = some y) (hlt : x < y) (ht : a.drop (k + 1) = b.drop (k + 1)) : val a < val b := by
  have hk : k < a.length := (List.getElem?_eq_some_iff.1 hx).1
  have hk' : k < b.length := (List.getElem?_eq_some_iff.1 hy).1
  have ea : a = a.take k ++ (x :: a.drop (k + 1)) := by
    conv => lhs; rw [← List.take_append_drop k a, List.drop_eq_getElem_cons hk]
    rw [(List.getElem?_eq_some_iff.1 hx).2]
  have eb : b = b.take k ++ (y :: b.drop (k + 1)) := by
    conv => lhs; rw [← List.take_append_drop k b, List.drop_eq_getElem_cons hk']
    rw [(List.getElem?_eq_some_iff.1 hy).2]
  rw [ea, eb, val_append, val_append, ht]
  simp only [val, List.length_take]
  rw [Nat.min_eq_left (by omega), Nat.min_eq_left (by omega)]
  have h1 := val_lt (ha.take k)
  rw [List.length_take, Nat.min_eq_left (by omega)] at h1
  generalize val (b.drop (k + 1)) = D
  have : B ^ k * (x + B * D) + B ^ k * 1 ≤ B ^ k * (y + B * D) := by
    rw [← Nat.mul_add]; exact Nat.mul_le_mul_left _ (by omega)
  omega
end Go.Proofs.YtnhbdldchoepfaaDoor.Limb

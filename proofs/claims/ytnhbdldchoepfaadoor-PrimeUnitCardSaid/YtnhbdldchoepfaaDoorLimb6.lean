/- Plain arithmetic: long division. -/
import Derived.Test.YtnhbdldchoepfaaDoorLimb5
namespace Go.Proofs.YtnhbdldchoepfaaDoor.Limb
/-- The rest and the digits of the quotient so far. -/
def LdInv (X V n k : Nat) (R qs : List Nat) : Prop := R.length = n ∧ Lm R ∧ Lm qs ∧ val R + B ^ k * (val qs * V) = X ∧ val R < B ^ k * V
theorem val_zero_of {l : List Nat} (h : ∀ x ∈ l, x = 0) : val l = 0 := by
  induction l with
  | nil => rfl
  | cons x l ih => rw [val, h x (by simp), ih fun y hy => h y (by simp [hy])]; rfl
theorem val_split3 (Lo u Hi : List Nat) : val (Lo ++ (u ++ Hi)) = val Lo + B ^ Lo.length * val u + B ^ (Lo.length + u.length) * val Hi := by
  rw [val_append, val_append, Nat.mul_add, ← Nat.mul_assoc, ← Nat.pow_add, Nat.add_assoc]
theorem LdInv.step {X V n j : Nat} {Lo u Hi qs : List Nat} (hV : 0 < V) (hLo : Lo.length = j) (hVu : V < B ^ (u.length - 1)) (hu : 1 ≤ u.length) (h : LdInv X V n (j + 1) (Lo ++ (u ++ Hi)) qs) :
    val u < V * B ∧ LdInv X V n j (Lo ++ (pd (val u % V) u.length ++ Hi)) (val u / V :: qs) := by
  obtain ⟨h1, h2, h3, h4, h5⟩ := h
  have hs := val_split3 Lo u Hi
  rw [hLo] at hs
  have hHi : val Hi = 0 := by
    rcases Nat.eq_zero_or_pos (val Hi) with h0 | h0
    · exact h0
    · exfalso
      have e1 : B ^ (j + u.length) * 1 ≤ B ^ (j + u.length) * val Hi := Nat.mul_le_mul_left _ h0
      have e2 : B ^ (j + 1) * V ≤ B ^ (j + 1) * B ^ (u.length - 1) := Nat.mul_le_mul_left _ (Nat.le_of_lt hVu)
      rw [← Nat.pow_add, show j + 1 + (u.length - 1) = j + u.length by omega] at e2
      omega
  rw [hHi, Nat.mul_zero, Nat.add_zero] at hs
  have hult : val u < V * B := by
    have e1 : B ^ j * val u < B ^ j * (V * B) := by
      have e2 : B ^ (j + 1) * V = B ^ j * (V * B) := by rw [Nat.pow_succ, Nat.mul_assoc, Nat.mul_comm B V]
      omega
    exact Nat.lt_of_mul_lt_mul_left e1
  have hq : val u / V < B := Nat.div_lt_of_lt_mul hult
  have hr := Nat.mod_lt (val u) hV
  have hrB : val u % V < B ^ u.length := Nat.lt_of_lt_of_le (Nat.lt_trans hr hVu) (Nat.pow_le_pow_right B_pos (by omega))
  have hpv := pd_val _ _ hrB
  have hs' := val_split3 Lo (pd (val u % V) u.length) Hi
  rw [hLo, hHi, Nat.mul_zero, Nat.add_zero, hpv] at hs'
  have hLm : Lm Lo := h2.sub fun x hx => by simp [hx]
  have hHm : Lm Hi := h2.sub fun x hx => by simp [hx]
  have hLlt := val_lt hLm
  rw [hLo] at hLlt
  have hdm := Nat.div_add_mod (val u) V
  refine ⟨hult, by simp [pd_length] at h1 ⊢; omega, hLm.append ((pd_lm _ _).append hHm), Lm.cons hq h3, ?_, ?_⟩
  · rw [hs', ← h4, hs]
    simp only [val]
    have e1 : B ^ (j + 1) * (val qs * V) = B ^ j * (B * (val qs * V)) := by rw [Nat.pow_succ, Nat.mul_assoc]
    have e2 : B ^ j * ((val u / V + B * val qs) * V) = B ^ j * (V * (val u / V)) + B ^ j * (B * (val qs * V)) := by
      rw [Nat.add_mul, Nat.mul_add, Nat.mul_comm (val u / V) V, Nat.mul_assoc B]
    have e3 : B ^ j * val u = B ^ j * (V * (val u / V)) + B ^ j * (val u % V) := by rw [← Nat.mul_add, hdm]
    omega
  · rw [hs']
    have e1 : B ^ j * (val u % V + 1) ≤ B ^ j * V := Nat.mul_le_mul_left _ hr
    rw [Nat.mul_add, Nat.mul_one] at e1
    omega
theorem LdInv.done {x y s n : Nat} {R qs : List Nat} (hy : 0 < y) (h : LdInv (x * 2 ^ s) (y * 2 ^ s) n 0 R qs) : val qs = x / y ∧ val R / 2 ^ s = x % y := by
  obtain ⟨h1, h2, h3, h4, h5⟩ := h
  rw [Nat.pow_zero, Nat.one_mul] at h4 h5
  have hp := Nat.two_pow_pos s
  have hV : 0 < y * 2 ^ s := Nat.mul_pos hy hp
  have hq : x * 2 ^ s / (y * 2 ^ s) = val qs := by rw [← h4, Nat.add_mul_div_right _ _ hV, Nat.div_eq_of_lt h5, Nat.zero_add]
  have hr : x * 2 ^ s % (y * 2 ^ s) = val R := by rw [← h4, Nat.add_mul_mod_self_right, Nat.mod_eq_of_lt h5]
  rw [Nat.mul_div_mul_right _ _ hp] at hq
  rw [Nat.mul_mod_mul_right] at hr
  exact ⟨hq.symm, by rw [← hr, Nat.mul_div_cancel _ hp]⟩
theorem digs_ge {y : Nat} (hy : y ≠ 0) : B ^ ((digs y).length - 1) ≤ y := by
  obtain ⟨i, z, hz⟩ : ∃ i z, digs y = i ++ [z] := by
    have hne : digs y ≠ [] := by rw [digs_step hy]; simp
    exact ⟨(digs y).dropLast, (digs y).getLast hne, (List.dropLast_concat_getLast hne).symm⟩
  have hz0 : z ≠ 0 := digs_last (n := y) (by rw [hz]; simp)
  have := val_digs y
  rw [hz, val_snoc] at this
  rw [hz]
  simp only [List.length_append, List.length_singleton, Nat.add_sub_cancel]
  have : B ^ i.length * 1 ≤ B ^ i.length * z := Nat.mul_le_mul_left _ (by omega)
  omega
theorem LdInv.start {x y s : Nat} (hy : y ≠ 0) (hle : (digs y).length ≤ (digs x).length) (hs : s < 32) :
    LdInv (x * 2 ^ s) (y * 2 ^ s) ((digs x).length + 1) ((digs x).length - (digs y).length + 1) (pd (x * 2 ^ s) ((digs x).length + 1)) [] := by
  have hx := lt_of_digs x
  have hB : 2 ^ s ≤ B := by rw [show B = 2 ^ 32 from rfl]; exact Nat.pow_le_pow_right (by omega) (by omega)
  have h1 : x * 2 ^ s < B ^ ((digs x).length + 1) := by
    rw [Nat.pow_succ]
    exact Nat.lt_of_lt_of_le (Nat.mul_lt_mul_of_pos_right hx (Nat.two_pow_pos s)) (Nat.mul_le_mul_left _ hB)
  have hl : 1 ≤ (digs y).length := by rw [digs_step hy]; simp
  refine ⟨pd_length _ _, pd_lm _ _, Lm.nil, by rw [pd_val _ _ h1]; simp [val], ?_⟩
  rw [pd_val _ _ h1, ← Nat.mul_assoc]
  refine Nat.mul_lt_mul_of_pos_right (Nat.lt_of_lt_of_le hx ?_) (Nat.two_pow_pos s)
  have := Nat.mul_le_mul_left (B ^ ((digs x).length - (digs y).length + 1)) (digs_ge hy)
  rw [← Nat.pow_add, show (digs x).length - (digs y).length + 1 + ((digs y).length - 1) = (digs x).length by omega] at this
  exact this
theorem pd_take : ∀ (n k : Nat), (pd n (k + 1)).take k = pd n k
  | _, 0 => rfl
  | n, k + 1 => by
    show n % B :: (pd (n / B) (k + 1)).take k = n % B :: pd (n / B) k
    rw [pd_take (n / B) k]
/-- The leading zeros of a limb. -/
def lz (t : Nat) : Nat := 31 - Nat.log2 t
theorem lz_spec {t : Nat} (h0 : t ≠ 0) (hB : t < B) : lz t < 32 ∧ B ≤ 2 * (t * 2 ^ lz t) ∧ t * 2 ^ lz t < B := by
  have h1 : Nat.log2 t < 32 := (Nat.log2_lt h0).2 hB
  have h2 := Nat.log2_self_le h0
  have h3 : t < 2 ^ (Nat.log2 t + 1) := Nat.lt_log2_self
  unfold lz
  generalize Nat.log2 t = l at *
  have e : 2 ^ l * 2 ^ (31 - l) = 2 ^ 31 := by rw [← Nat.pow_add, show l + (31 - l) = 31 by omega]
  have e2 : 2 ^ (l + 1) * 2 ^ (31 - l) = 2 ^ 32 := by rw [← Nat.pow_add, show l + 1 + (31 - l) = 32 by omega]
  have a := Nat.mul_le_mul_right (2 ^ (31 - l)) h2
  have b := Nat.mul_lt_mul_of_pos_right h3 (Nat.two_pow_pos (31 - l))
  rw [e] at a
  rw [e2] at b
  refine ⟨by omega, ?_, b⟩
  rw [B_def]
  omega
/-- The shifted divisor. -/
theorem pd_shift {y s : Nat} {t : Nat} (hy : y ≠ 0) (ht : (digs y).getLast? = some t) (hB : t * 2 ^ s < B) (hn : B ≤ 2 * (t * 2 ^ s)) :
    y * 2 ^ s < B ^ (digs y).length ∧ ∀ z, (pd (y * 2 ^ s) (digs y).length)[(digs y).length - 1]? = some z → B ≤ 2 * z := by
  obtain ⟨i, hz⟩ : ∃ i, digs y = i ++ [t] := by
    have hne : digs y ≠ [] := by rw [digs_step hy]; simp
    refine ⟨(digs y).dropLast, ?_⟩
    have h1 := List.dropLast_concat_getLast hne
    rw [List.getLast?_eq_some_getLast hne] at ht
    rw [← Option.some.inj ht]
    exact h1.symm
  have hlm := lm_digs y
  rw [hz] at hlm
  have hv := val_digs y
  rw [hz, val_snoc] at hv
  have hi : val i < B ^ i.length := val_lt (hlm.sub fun x hx => by simp [hx])
  have hlen : (digs y).length = i.length + 1 := by rw [hz]; simp
  have hlt : y * 2 ^ s < B ^ (i.length + 1) := by
    have h1 : y < B ^ i.length * (t + 1) := by rw [← hv, Nat.mul_add, Nat.mul_one]; omega
    have h2 : (t + 1) * 2 ^ s ≤ B := by
      -- t 2^s < B and B is a multiple of 2^s
      have hs : s ≤ 32 := by
        rcases Nat.lt_or_ge 32 s with h | h
        · exfalso
          have ht0 : 1 ≤ t := by
            rcases Nat.eq_zero_or_pos t with h0 | h0
            · rw [h0] at hn; simp at hn; exact absurd hn (by decide)
            · exact h0
          have : B ≤ 2 ^ s := by rw [show B = 2 ^ 32 from rfl]; exact Nat.pow_le_pow_right (by omega) (by omega)
          have := Nat.mul_le_mul_right (2 ^ s) ht0
          omega
        · exact h
      have hBs : B = 2 ^ (32 - s) * 2 ^ s := by rw [← Nat.pow_add, show 32 - s + s = 32 by omega]; rfl
      rw [hBs] at hB ⊢
      exact Nat.mul_le_mul_right _ (Nat.lt_of_mul_lt_mul_right hB)
    have h3 := Nat.mul_lt_mul_of_pos_right h1 (Nat.two_pow_pos s)
    rw [Nat.mul_assoc] at h3
    rw [Nat.pow_succ]
    exact Nat.lt_of_lt_of_le h3 (Nat.mul_le_mul_left _ h2)
  refine ⟨by rw [hlen]; exact hlt, fun z hzz => ?_⟩
  rw [hlen] at hzz
  have hpv := pd_val _ _ hlt
  have hpl := pd_length (y * 2 ^ s) (i.length + 1)
  have hts := val_take_succ (pd (y * 2 ^ s) (i.length + 1)) i.length
  rw [List.take_of_length_le (by omega), hpv] at hts
  rw [show i.length + 1 - 1 = i.length by omega] at hzz
  rw [hzz, Option.getD_some] at hts
  have hlow := val_lt ((pd_lm (y * 2 ^ s) (i.length + 1)).take i.length)
  rw [List.length_take, hpl, Nat.min_eq_left (by omega)] at hlow
  have h5 : B ^ i.length * (t * 2 ^ s) ≤ y * 2 ^ s := by rw [← hv, Nat.add_mul, Nat.mul_assoc]; omega
  have h6 : B ^ i.length * (t * 2 ^ s) < B ^ i.length * (z + 1) := by rw [Nat.mul_add, Nat.mul_one]; omega
  have := Nat.lt_of_mul_lt_mul_left h6
  omega
end Go.Proofs.YtnhbdldchoepfaaDoor.Limb

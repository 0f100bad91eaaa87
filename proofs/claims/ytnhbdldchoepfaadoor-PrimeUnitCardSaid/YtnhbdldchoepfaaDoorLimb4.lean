/- Plain arithmetic: dividing by a limb, shifting. -/
import Derived.Test.YtnhbdldchoepfaaDoorLimb3
namespace Go.Proofs.YtnhbdldchoepfaaDoor.Limb
/-- The limbs of a number, so many. -/
def pd : Nat → Nat → List Nat
  | _, 0 => []
  | n, k + 1 => n % B :: pd (n / B) k
theorem pd_length : ∀ (n k : Nat), (pd n k).length = k
  | _, 0 => rfl
  | n, k + 1 => by simp [pd, pd_length (n / B) k]
theorem pd_lm : ∀ (n k : Nat), Lm (pd n k)
  | _, 0 => Lm.nil
  | n, k + 1 => Lm.cons (Nat.mod_lt _ B_pos) (pd_lm (n / B) k)
theorem pd_val : ∀ (n k : Nat), n < B ^ k → val (pd n k) = n
  | n, 0, h => by simp at h; subst h; rfl
  | n, k + 1, h => by
    simp only [pd, val]
    rw [pd_val (n / B) k (Nat.div_lt_of_lt_mul (by rw [Nat.pow_succ] at h; rw [Nat.mul_comm]; exact h))]
    exact Nat.mod_add_div n B
theorem pd_eq : ∀ {l : List Nat} {n k : Nat}, Lm l → val l = n → l.length = k → l = pd n k
  | [], n, k, _, _, hk => by simp at hk; subst hk; rfl
  | x :: l, n, k, hl, hv, hk => by
    subst hk hv
    have hx := hl.head
    show x :: l = (val (x :: l)) % B :: pd (val (x :: l) / B) l.length
    have e1 : val (x :: l) % B = x := by show (x + B * val l) % B = x; rw [Nat.add_mul_mod_self_left, Nat.mod_eq_of_lt hx]
    have e2 : val (x :: l) / B = val l := by show (x + B * val l) / B = val l; rw [Nat.add_mul_div_left _ _ B_pos, Nat.div_eq_of_lt hx, Nat.zero_add]
    rw [e1, e2, ← pd_eq hl.tail rfl rfl]
theorem val_drop_cons {l : List Nat} {k x : Nat} (hx : l[k]? = some x) : val (l.drop k) = x + B * val (l.drop (k + 1)) := by
  have hk := (List.getElem?_eq_some_iff.1 hx).1
  rw [List.drop_eq_getElem_cons hk, (List.getElem?_eq_some_iff.1 hx).2]; rfl
/-- Dividing by a limb, from the top down to k. -/
def DvInv (m : List Nat) (d k : Nat) (Q : List Nat) (r : Nat) : Prop := Q.length = m.length - k ∧ Lm Q ∧ r < d ∧ val (m.drop k) = val Q * d + r
theorem DvInv.start (m : List Nat) {d : Nat} (hd : 0 < d) : DvInv m d m.length [] 0 := ⟨by simp, Lm.nil, hd, by rw [List.drop_length]; simp [val]⟩
theorem DvInv.step {m : List Nat} {d k x : Nat} {Q : List Nat} {r : Nat} (hx : m[k]? = some x) (hm : Lm m) (h : DvInv m d (k + 1) Q r) :
    DvInv m d k ((r * B + x) / d :: Q) ((r * B + x) % d) ∧ (r * B + x) / d < B := by
  obtain ⟨h1, h2, h3, h4⟩ := h
  have hk := (List.getElem?_eq_some_iff.1 hx).1
  have hxB := hm.get hx
  have hlt : r * B + x < d * B := by
    have : (r + 1) * B ≤ d * B := Nat.mul_le_mul_right _ h3
    rw [Nat.add_mul] at this; omega
  have hq : (r * B + x) / d < B := Nat.div_lt_of_lt_mul hlt
  refine ⟨⟨by simp [h1]; omega, Lm.cons hq h2, Nat.mod_lt _ (by omega), ?_⟩, hq⟩
  rw [val_drop_cons hx, h4]
  simp only [val]
  have e := Nat.div_add_mod (r * B + x) d
  generalize (r * B + x) / d = q at *
  generalize (r * B + x) % d = s at *
  rw [Nat.mul_add, Nat.add_mul, Nat.mul_comm q d, ← Nat.mul_assoc B, Nat.mul_comm B r]
  omega
theorem DvInv.done {m : List Nat} {d : Nat} {Q : List Nat} {r : Nat} (h : DvInv m d 0 Q r) : Q = pd (val m / d) m.length ∧ r = val m % d := by
  obtain ⟨h1, h2, h3, h4⟩ := h
  rw [List.drop_zero] at h4
  have hv : val m / d = val Q := by rw [h4, Nat.mul_comm, Nat.mul_add_div (by omega), Nat.div_eq_of_lt h3, Nat.add_zero]
  have hr : val m % d = r := by rw [h4, Nat.mul_comm, Nat.mul_add_mod, Nat.mod_eq_of_lt h3]
  exact ⟨by rw [hv]; exact pd_eq h2 rfl (by rw [h1]; omega), hr.symm⟩
/-- Shifting left. -/
def ShlInv (m : List Nat) (s i : Nat) (N : List Nat) (c : Nat) : Prop := N.length = i ∧ Lm N ∧ c < 2 ^ s ∧ val N + B ^ i * c = val (m.take i) * 2 ^ s
theorem ShlInv.start (m : List Nat) (s : Nat) : ShlInv m s 0 [] 0 := ⟨rfl, Lm.nil, Nat.two_pow_pos s, by simp [val]⟩
theorem ShlInv.step {m : List Nat} {s i x : Nat} {N : List Nat} {c : Nat} (hx : m[i]? = some x) (hm : Lm m) (h : ShlInv m s i N c) :
    ShlInv m s (i + 1) (N ++ [(c + 2 ^ s * x) % B]) ((c + 2 ^ s * x) / B) ∧ c + 2 ^ s * x < 2 ^ s * B := by
  obtain ⟨a1, a2, a3, a4⟩ := h
  have hxB := hm.get hx
  have hlt : c + 2 ^ s * x < 2 ^ s * B := by
    have : 2 ^ s * (x + 1) ≤ 2 ^ s * B := Nat.mul_le_mul_left _ hxB
    rw [Nat.mul_add] at this; omega
  refine ⟨⟨by simp [a1], lm_snoc a2 (Nat.mod_lt _ B_pos), Nat.div_lt_of_lt_mul (by rw [Nat.mul_comm B]; exact hlt), ?_⟩, hlt⟩
  rw [val_snoc, val_take_succ, a1, hx, Option.getD_some]
  generalize ht : c + 2 ^ s * x = t
  have e := Nat.mod_add_div t B
  have : B ^ i * (t % B) + B ^ (i + 1) * (t / B) = B ^ i * t := by rw [Nat.pow_succ, Nat.mul_assoc, ← Nat.mul_add, e]
  rw [Nat.add_assoc, this, ← ht, Nat.mul_add, Nat.add_mul, ← a4, Nat.mul_assoc (B ^ i) x, Nat.mul_comm x]
  omega
theorem ShlInv.done {m : List Nat} {s : Nat} {N : List Nat} {c : Nat} (h : ShlInv m s m.length N c) (hs : s < 32) : N ++ [c] = pd (val m * 2 ^ s) (m.length + 1) ∧ c < B := by
  obtain ⟨a1, a2, a3, a4⟩ := h
  have hB : 2 ^ s ≤ B := by rw [show B = 2 ^ 32 from rfl]; exact Nat.pow_le_pow_right (by omega) (by omega)
  rw [List.take_length] at a4
  exact ⟨pd_eq (lm_snoc a2 (by omega)) (by rw [val_snoc, a1, a4]) (by simp [a1]), by omega⟩
/-- Shifting right. -/
def ShrInv (m : List Nat) (s i : Nat) (N : List Nat) : Prop := N.length = i ∧ Lm N ∧ val N + B ^ i * (val (m.drop i) / 2 ^ s) = val m / 2 ^ s
theorem ShrInv.start (m : List Nat) (s : Nat) : ShrInv m s 0 [] := ⟨rfl, Lm.nil, by simp [val]⟩
theorem ShrInv.step {m : List Nat} {s i x : Nat} {N : List Nat} (hs : s < 32) (hx : m[i]? = some x) (hm : Lm m) (h : ShrInv m s i N) : ShrInv m s (i + 1) (N ++ [(x + B * m[i + 1]?.getD 0) / 2 ^ s % B]) := by
  obtain ⟨a1, a2, a4⟩ := h
  have hxB := hm.get hx
  have hv := val_drop_cons hx
  refine ⟨by simp [a1], lm_snoc a2 (Nat.mod_lt _ B_pos), ?_⟩
  rw [val_snoc, a1, ← a4]
  have hB : B = 2 ^ s * 2 ^ (32 - s) := by rw [← Nat.pow_add, show s + (32 - s) = 32 by omega]; rfl
  have hdiv : val (m.drop i) / 2 ^ s / B = val (m.drop (i + 1)) / 2 ^ s := by
    rw [Nat.div_div_eq_div_mul, Nat.mul_comm, ← Nat.div_div_eq_div_mul, hv, Nat.add_mul_div_left _ _ B_pos, Nat.div_eq_of_lt hxB, Nat.zero_add]
  have hmod : (x + B * m[i + 1]?.getD 0) / 2 ^ s % B = val (m.drop i) / 2 ^ s % B := by
    obtain ⟨R, hR⟩ : ∃ R, val (m.drop (i + 1)) = m[i + 1]?.getD 0 + B * R := by
      cases hy : m[i + 1]? with
      | none => exact ⟨0, by rw [List.drop_eq_nil_of_le (List.getElem?_eq_none_iff.1 hy)]; rfl⟩
      | some y => exact ⟨_, val_drop_cons hy⟩
    rw [hv, hR]
    have e : x + B * (m[i + 1]?.getD 0 + B * R) = (x + B * m[i + 1]?.getD 0) + 2 ^ s * (B * (2 ^ (32 - s) * R)) := by
      rw [Nat.mul_add, ← Nat.add_assoc]
      congr 1
      conv => lhs; rw [← Nat.mul_assoc]; arg 1; arg 1; rw [hB]
      rw [Nat.mul_assoc (2 ^ s), Nat.mul_assoc (2 ^ s), Nat.mul_comm (2 ^ (32 - s)) B, Nat.mul_assoc]
    rw [e, Nat.add_mul_div_left _ _ (Nat.two_pow_pos s), Nat.add_mul_mod_self_left]
  rw [hmod, ← hdiv, Nat.pow_succ, Nat.mul_assoc, Nat.add_assoc, ← Nat.mul_add, Nat.mod_add_div]
theorem ShrInv.done {m : List Nat} {s : Nat} {N : List Nat} (h : ShrInv m s m.length N) : N = pd (val m / 2 ^ s) m.length := by
  obtain ⟨a1, a2, a4⟩ := h
  rw [List.drop_length] at a4
  exact pd_eq a2 (by simpa [val] using a4) a1
end Go.Proofs.YtnhbdldchoepfaaDoor.Limb

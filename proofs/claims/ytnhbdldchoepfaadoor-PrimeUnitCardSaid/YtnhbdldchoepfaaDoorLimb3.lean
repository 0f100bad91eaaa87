/- Plain arithmetic: products limb by limb. -/
import Derived.Test.YtnhbdldchoepfaaDoorLimb2
namespace Go.Proofs.YtnhbdldchoepfaaDoor.Limb
/-- A row of the product: N new limbs, a carry. -/
def MulInv (R b : List Nat) (x j : Nat) (N : List Nat) (c : Nat) : Prop := N.length = j ∧ Lm N ∧ c < B ∧ val N + B ^ j * c = val (R.take j) + x * val (b.take j)
theorem MulInv.start (R b : List Nat) (x : Nat) : MulInv R b x 0 [] 0 := ⟨rfl, Lm.nil, B_pos, by simp [val]⟩
theorem mul_bd {c x y r : Nat} (hc : c < B) (hx : x < B) (hy : y < B) (hr : r < B) : c + (x * y + r) < B * B ∧ x * y ≤ 18446744065119617025 := by
  have : x * y ≤ (B - 1) * (B - 1) := Nat.mul_le_mul (by omega) (by omega)
  rw [B_def] at *
  omega
theorem MulInv.step {R b : List Nat} {x j : Nat} {N : List Nat} {c y r : Nat} (hx : x < B) (hR : Lm R) (hb : Lm b) (hy : b[j]? = some y) (hr : R[j]? = some r) (h : MulInv R b x j N c) :
    MulInv R b x (j + 1) (N ++ [(c + (x * y + r)) % B]) ((c + (x * y + r)) / B) := by
  obtain ⟨a1, a2, a3, a4⟩ := h
  have hb1 := (mul_bd a3 hx (hb.get hy) (hR.get hr)).1
  refine ⟨by simp [a1], lm_snoc a2 (Nat.mod_lt _ B_pos), Nat.div_lt_of_lt_mul hb1, ?_⟩
  rw [val_snoc, val_take_succ, val_take_succ, a1, hy, hr, Option.getD_some, Option.getD_some]
  generalize ht : c + (x * y + r) = t
  have e := Nat.mod_add_div t B
  have : B ^ j * (t % B) + B ^ (j + 1) * (t / B) = B ^ j * t := by rw [Nat.pow_succ, Nat.mul_assoc, ← Nat.mul_add, e]
  rw [Nat.add_assoc, this, ← ht, Nat.mul_add, Nat.mul_add, Nat.mul_add]
  have e2 : x * (B ^ j * y) = B ^ j * (x * y) := by rw [← Nat.mul_assoc, Nat.mul_comm x, Nat.mul_assoc]
  rw [e2]
  omega
/-- The product so far: Q, of n + i limbs. -/
def ProdInv (a b : List Nat) (i : Nat) (Q : List Nat) : Prop := Q.length = i + b.length ∧ Lm Q ∧ val Q = val (a.take i) * val b
theorem ProdInv.start (a b : List Nat) : ProdInv a b 0 (List.replicate b.length 0) := ⟨by simp, fun x hx => by rw [(List.mem_replicate.1 hx).2]; exact B_pos, by rw [val_zeros]; simp [val]⟩
theorem ProdInv.zero {a b : List Nat} {i : Nat} {Q : List Nat} (h : ProdInv a b i Q) (hx : a[i]? = some 0) : ProdInv a b (i + 1) (Q ++ [0]) := by
  obtain ⟨h1, h2, h3⟩ := h
  refine ⟨by simp [h1]; omega, lm_snoc h2 B_pos, ?_⟩
  rw [val_snoc, val_take_succ, hx, Option.getD_some, Nat.mul_zero, Nat.mul_zero, Nat.add_zero, Nat.add_zero, h3]
theorem ProdInv.step {a b : List Nat} {i x : Nat} {Q N : List Nat} {c : Nat} (h : ProdInv a b i Q) (hx : a[i]? = some x) (hm : MulInv (Q.drop i) b x b.length N c) : ProdInv a b (i + 1) (Q.take i ++ N ++ [c]) := by
  obtain ⟨h1, h2, h3⟩ := h
  obtain ⟨a1, a2, a3, a4⟩ := hm
  have hl : (Q.take i).length = i := by simp; omega
  refine ⟨by simp [a1]; omega, lm_snoc ((h2.take i).append a2) a3, ?_⟩
  rw [List.take_length] at a4
  have hd : (Q.drop i).take b.length = Q.drop i := List.take_of_length_le (by simp; omega)
  rw [hd] at a4
  have hQ : val Q = val (Q.take i) + B ^ i * val (Q.drop i) := by
    conv => lhs; rw [← List.take_append_drop i Q, val_append, hl]
  rw [val_append, val_append, List.length_append, hl, a1, val_take_succ, hx, Option.getD_some, Nat.add_mul, ← h3, hQ]
  simp only [val, Nat.mul_zero, Nat.add_zero]
  rw [Nat.pow_add, Nat.mul_assoc (B ^ i) x, Nat.add_assoc, Nat.mul_assoc (B ^ i), ← Nat.mul_add, a4, Nat.mul_add]
  omega
theorem ProdInv.done {a b : List Nat} {Q : List Nat} (h : ProdInv a b a.length Q) : Lm Q ∧ val Q = val a * val b := ⟨h.2.1, by have := h.2.2; rwa [List.take_length] at this⟩
end Go.Proofs.YtnhbdldchoepfaaDoor.Limb

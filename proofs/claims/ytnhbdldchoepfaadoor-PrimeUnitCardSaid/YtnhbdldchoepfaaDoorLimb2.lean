/- Plain arithmetic: sums and differences limb by limb. -/
import Derived.Test.YtnhbdldchoepfaaDoorLimb
namespace Go.Proofs.YtnhbdldchoepfaaDoor.Limb
/-! ### Adding and subtracting limb by limb -/
theorem val_take_succ (l : List Nat) (i : Nat) : val (l.take (i + 1)) = val (l.take i) + B ^ i * (l[i]?.getD 0) := by
  by_cases h : i < l.length
  · rw [List.take_succ_eq_append_getElem h, val_append, List.length_take, Nat.min_eq_left (by omega), List.getElem?_eq_getElem h]
    simp [val]
  · rw [List.take_of_length_le (by omega), List.take_of_length_le (by omega), List.getElem?_eq_none (by omega)]
    simp
theorem getD_lt {l : List Nat} (h : Lm l) (i : Nat) : l[i]?.getD 0 < B := by
  cases hx : l[i]? with
  | none => exact B_pos
  | some x => exact h.get hx
theorem lm_snoc {l : List Nat} {x : Nat} (h : Lm l) (hx : x < B) : Lm (l ++ [x]) := h.append (Lm.cons hx Lm.nil)
theorem val_snoc (l : List Nat) (x : Nat) : val (l ++ [x]) = val l + B ^ l.length * x := by rw [val_append]; simp [val]
def SumInv (l1 l2 : List Nat) (i : Nat) (O : List Nat) (c : Nat) : Prop := O.length = i ∧ Lm O ∧ c ≤ 1 ∧ val O + B ^ i * c = val (l1.take i) + val (l2.take i)
theorem SumInv.start (l1 l2 : List Nat) : SumInv l1 l2 0 [] 0 := ⟨rfl, Lm.nil, by omega, by simp [val]⟩
theorem SumInv.step {l1 l2 : List Nat} {i : Nat} {O : List Nat} {c : Nat} (h1 : Lm l1) (h2 : Lm l2) (h : SumInv l1 l2 i O c) :
    SumInv l1 l2 (i + 1) (O ++ [(c + l1[i]?.getD 0 + l2[i]?.getD 0) % B]) ((c + l1[i]?.getD 0 + l2[i]?.getD 0) / B) := by
  obtain ⟨a1, a2, a3, a4⟩ := h
  have b1 := getD_lt h1 i
  have b2 := getD_lt h2 i
  refine ⟨by simp [a1], lm_snoc a2 (Nat.mod_lt _ B_pos), ?_, ?_⟩
  · rw [B_def] at *; omega
  · rw [val_snoc, val_take_succ, val_take_succ, a1]
    generalize l1[i]?.getD 0 = x at *
    generalize l2[i]?.getD 0 = y at *
    have e := Nat.mod_add_div (c + x + y) B
    have : B ^ i * ((c + x + y) % B) + B ^ (i + 1) * ((c + x + y) / B) = B ^ i * (c + x + y) := by
      rw [Nat.pow_succ, Nat.mul_assoc, ← Nat.mul_add, e]
    rw [Nat.add_assoc, this, Nat.mul_add, Nat.mul_add]
    omega
theorem SumInv.done {l1 l2 : List Nat} {i : Nat} {O : List Nat} {c : Nat} (h : SumInv l1 l2 i O c) (h1 : l1.length ≤ i) (h2 : l2.length ≤ i) : Lm (O ++ [c]) ∧ val (O ++ [c]) = val l1 + val l2 := by
  obtain ⟨a1, a2, a3, a4⟩ := h
  refine ⟨lm_snoc a2 (by rw [B_def]; omega), ?_⟩
  rw [val_snoc, a1, a4, List.take_of_length_le h1, List.take_of_length_le h2]
/-- Subtracting with a borrow. -/
def DifInv (l1 l2 : List Nat) (i : Nat) (O : List Nat) (b : Nat) : Prop := O.length = i ∧ Lm O ∧ b ≤ 1 ∧ val O + val (l2.take i) = val (l1.take i) + B ^ i * b
theorem DifInv.start (l1 l2 : List Nat) : DifInv l1 l2 0 [] 0 := ⟨rfl, Lm.nil, by omega, by simp [val]⟩
/-- The digit and the borrow of x - y. -/
def difD (x y : Nat) : Nat := if x < y then x + B - y else x - y
def difB (x y : Nat) : Nat := if x < y then 1 else 0
theorem DifInv.step {l1 l2 : List Nat} {i : Nat} {O : List Nat} {b : Nat} (h1 : Lm l1) (h2 : Lm l2) (h : DifInv l1 l2 i O b) :
    DifInv l1 l2 (i + 1) (O ++ [difD (l1[i]?.getD 0) (b + l2[i]?.getD 0)]) (difB (l1[i]?.getD 0) (b + l2[i]?.getD 0)) := by
  obtain ⟨a1, a2, a3, a4⟩ := h
  have b1 := getD_lt h1 i
  have b2 := getD_lt h2 i
  refine ⟨by simp [a1], lm_snoc a2 (by unfold difD; split <;> omega), by unfold difB; split <;> omega, ?_⟩
  rw [val_snoc, val_take_succ, val_take_succ, a1]
  generalize l1[i]?.getD 0 = x at *
  generalize l2[i]?.getD 0 = y at *
  have : B ^ i * difD x (b + y) + B ^ i * (b + y) = B ^ i * x + B ^ (i + 1) * difB x (b + y) := by
    rw [Nat.pow_succ, Nat.mul_assoc, ← Nat.mul_add, ← Nat.mul_add]
    congr 1
    unfold difD difB
    split <;> omega
  rw [Nat.mul_add] at this
  omega
theorem DifInv.done {l1 l2 : List Nat} {i : Nat} {O : List Nat} {b : Nat} (h : DifInv l1 l2 i O b) (h1 : l1.length ≤ i) (h2 : l2.length ≤ i) (hle : val l2 ≤ val l1) : Lm O ∧ val O = val l1 - val l2 := by
  obtain ⟨a1, a2, a3, a4⟩ := h
  refine ⟨a2, ?_⟩
  rw [List.take_of_length_le h1, List.take_of_length_le h2] at a4
  have := val_lt a2
  rw [a1] at this
  rcases Nat.eq_zero_or_pos b with h0 | h0
  · subst h0; omega
  · have hb : b = 1 := by omega
    subst hb; omega
theorem length_le_of_val {l1 l2 : List Nat} (hl1 : Lm l1) (hc : ∀ x, l2.getLast? = some x → x ≠ 0) (h : val l2 ≤ val l1) : l2.length ≤ l1.length := by
  rcases Nat.lt_or_ge l1.length l2.length with h' | h'
  · have := val_lt_of_length hl1 h' hc; omega
  · exact h'
end Go.Proofs.YtnhbdldchoepfaaDoor.Limb
namespace Go.Proofs.YtnhbdldchoepfaaDoor
open Limb
def sg3 (z : Int) : Int := if z = 0 then 0 else if z < 0 then -1 else 1
theorem sign_cases {s : Bool} {z : Int} {l : List Nat} (hz : z = if s then -(val l : Int) else (val l : Int)) :
    (val l = 0 ∧ sg3 z = 0) ∨ (0 < val l ∧ s = true ∧ sg3 z = -1) ∨ (0 < val l ∧ s = false ∧ sg3 z = 1) := by
  unfold sg3
  rcases Nat.eq_zero_or_pos (val l) with h | h
  · left; refine ⟨h, ?_⟩; rw [if_pos]; rw [hz, h]; cases s <;> simp
  · right
    cases s
    · right; simp at hz; exact ⟨h, rfl, by rw [if_neg (by omega), if_neg (by omega)]⟩
    · left; simp at hz; exact ⟨h, rfl, by rw [if_neg (by omega), if_pos (by omega)]⟩
/-! ### Comparing -/
def cmpL (a b : List Nat) : Int := if a.length < b.length then -1 else if b.length < a.length then 1 else if val a < val b then -1 else if val b < val a then 1 else 0
theorem cmpL_digs (a b : Nat) : cmpL (digs a) (digs b) = if a < b then -1 else if b < a then 1 else 0 := by
  unfold cmpL
  rw [val_digs, val_digs]
  have h1 := fun h : (digs a).length < (digs b).length => val_lt_of_length (lm_digs a) h (fun x hx => digs_last hx)
  have h2 := fun h : (digs b).length < (digs a).length => val_lt_of_length (lm_digs b) h (fun x hx => digs_last hx)
  rw [val_digs, val_digs] at h1 h2
  by_cases c1 : (digs a).length < (digs b).length
  · rw [if_pos c1, if_pos (h1 c1)]
  · rw [if_neg c1]
    by_cases c2 : (digs b).length < (digs a).length
    · have := h2 c2
      rw [if_pos c2, if_neg (by omega), if_pos this]
    · rw [if_neg c2]
theorem cmpL_same (a : List Nat) : cmpL a a = 0 := by unfold cmpL; simp
end Go.Proofs.YtnhbdldchoepfaaDoor

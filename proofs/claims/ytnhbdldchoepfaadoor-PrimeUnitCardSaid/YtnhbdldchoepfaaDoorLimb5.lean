/- Plain arithmetic: a step of long division. -/
import Derived.Test.YtnhbdldchoepfaaDoorLimb4
namespace Go.Proofs.YtnhbdldchoepfaaDoor.Limb
section
variable {E V U Lv Lu v1 v2 u0 u1 u2 : Nat}
/-- The highest limbs of a divisor and of what is divided. -/
structure Kn (E V U Lv Lu v1 v2 u0 u1 u2 : Nat) : Prop where
  hV : V = Lv + E * (v2 + B * v1)
  hU : U = Lu + E * (u2 + B * (u0 * B + u1))
  lv : Lv < E
  lu : Lu < E
  hv1 : v1 < B
  hv2 : v2 < B
  hu1 : u1 < B
  hu2 : u2 < B
  norm : B ≤ 2 * v1
  hlt : U < V * B
theorem Kn.Vpos (k : Kn E V U Lv Lu v1 v2 u0 u1 u2) : 0 < V := by
  rcases Nat.eq_zero_or_pos V with h | h
  · have := k.hlt; rw [h] at this; simp at this
  · exact h
theorem Kn.qlt (k : Kn E V U Lv Lu v1 v2 u0 u1 u2) : U / V < B := Nat.div_lt_of_lt_mul k.hlt
theorem Kn.Epos (k : Kn E V U Lv Lu v1 v2 u0 u1 u2) : 0 < E := Nat.lt_of_le_of_lt (Nat.zero_le _) k.lv
/-- q (v2 + B v1) is at most B H + u2. -/
theorem Kn.low (k : Kn E V U Lv Lu v1 v2 u0 u1 u2) : U / V * (v2 + B * v1) ≤ u2 + B * (u0 * B + u1) := by
  have h1 : U / V * V ≤ U := Nat.div_mul_le_self U V
  generalize U / V = q at *
  have h2 : E * (q * (v2 + B * v1)) ≤ q * V := by
    rw [k.hV, Nat.mul_add q Lv]
    have : E * (q * (v2 + B * v1)) = q * (E * (v2 + B * v1)) := by rw [← Nat.mul_assoc, Nat.mul_comm E q, Nat.mul_assoc]
    omega
  have h3 : U < E * (u2 + B * (u0 * B + u1) + 1) := by rw [k.hU, Nat.mul_add E _ 1, Nat.mul_one]; have := k.lu; omega
  have h4 : E * (q * (v2 + B * v1)) < E * (u2 + B * (u0 * B + u1) + 1) := by omega
  have := Nat.lt_of_mul_lt_mul_left h4
  omega
theorem Kn.top (k : Kn E V U Lv Lu v1 v2 u0 u1 u2) : u0 ≤ v1 := by
  have h1 := k.hlt
  have h2 : E * (B * (B * u0)) ≤ U := by
    rw [k.hU]
    have e : B * (u0 * B + u1) = B * (B * u0) + B * u1 := by rw [Nat.mul_add, Nat.mul_comm u0 B]
    rw [e, Nat.mul_add, Nat.mul_add]
    omega
  have h3 : V * B < E * (B * (B * (v1 + 1))) := by
    have h4 : V < E * (B * (v1 + 1)) := by
      rw [k.hV]
      have h5 := k.hv2
      have h6 := k.lv
      have h7 : E * (v2 + 1) ≤ E * B := Nat.mul_le_mul_left _ h5
      have e : E * (B * (v1 + 1)) = E * (B * v1) + E * B := by rw [Nat.mul_add B, Nat.mul_add E, Nat.mul_one]
      rw [e, Nat.mul_add E v2]
      rw [Nat.mul_add E v2 1, Nat.mul_one] at h7
      omega
    have h8 := Nat.mul_lt_mul_of_pos_right h4 B_pos
    have e : E * (B * (v1 + 1)) * B = E * (B * (B * (v1 + 1))) := by rw [Nat.mul_assoc, Nat.mul_comm (B * (v1 + 1)) B]
    rw [e] at h8
    exact h8
  have h9 : E * (B * (B * u0)) < E * (B * (B * (v1 + 1))) := by omega
  have := Nat.lt_of_mul_lt_mul_left (Nat.lt_of_mul_lt_mul_left (Nat.lt_of_mul_lt_mul_left h9))
  omega
theorem Kn.start (k : Kn E V U Lv Lu v1 v2 u0 u1 u2) : U / V ≤ (u0 * B + u1) / v1 ∧ (u0 * B + u1) / v1 ≤ B + 1 := by
  have hB := B_def
  have hv : 0 < v1 := by have := k.norm; omega
  constructor
  · rw [Nat.le_div_iff_mul_le hv]
    have h1 := k.low
    generalize U / V = q at *
    rw [Nat.mul_add] at h1
    have h2 : B * (q * v1) ≤ u2 + B * (u0 * B + u1) := by
      have : q * (B * v1) = B * (q * v1) := by rw [← Nat.mul_assoc, Nat.mul_comm q B, Nat.mul_assoc]
      omega
    have h3 := k.hu2
    have h4 : B * (q * v1) < B * (u0 * B + u1 + 1) := by rw [Nat.mul_add B _ 1]; omega
    have := Nat.lt_of_mul_lt_mul_left h4
    omega
  · have h0 := k.top
    have h1 : u0 * B ≤ v1 * B := Nat.mul_le_mul_right _ h0
    have h2 := k.hu1
    have h3 := k.norm
    have : (u0 * B + u1) / v1 < B + 2 := by
      refine Nat.div_lt_of_lt_mul ?_
      rw [Nat.mul_add]
      omega
    omega
theorem Kn.down (k : Kn E V U Lv Lu v1 v2 u0 u1 u2) {g r : Nat} (hg : g * v1 + r = u0 * B + u1) (h : B ≤ g ∨ r * B + u2 < g * v2) : U / V + 1 ≤ g := by
  rcases h with h | h
  · have := k.qlt; omega
  · have h1 := k.low
    have h2 : U / V * (v2 + B * v1) < g * (v2 + B * v1) := by
      have e : g * (v2 + B * v1) = g * v2 + B * (g * v1) := by rw [Nat.mul_add, ← Nat.mul_assoc, Nat.mul_comm g B, Nat.mul_assoc]
      rw [← hg, Nat.mul_add B (g * v1) r, Nat.mul_comm B r] at h1
      omega
    exact Nat.lt_of_mul_lt_mul_right h2
theorem Kn.up (k : Kn E V U Lv Lu v1 v2 u0 u1 u2) {g r : Nat} (hg : g * v1 + r = u0 * B + u1) (h1 : g < B) (h2 : g * v2 ≤ r * B + u2) : g ≤ U / V + 1 := by
  have hB := B_def
  have hE := k.Epos
  have h3 : g * (v2 + B * v1) ≤ u2 + B * (u0 * B + u1) := by
    have e : g * (v2 + B * v1) = g * v2 + B * (g * v1) := by rw [Nat.mul_add, ← Nat.mul_assoc, Nat.mul_comm g B, Nat.mul_assoc]
    rw [← hg, Nat.mul_add B (g * v1) r, Nat.mul_comm B r]
    omega
  have h4 : g * Lv < B * E := Nat.mul_lt_mul'' h1 k.lv
  have h5 : B * E ≤ V := by
    rw [k.hV, Nat.mul_add E v2]
    have h6 : 1 ≤ v1 := by have := k.norm; omega
    have : E * (B * 1) ≤ E * (B * v1) := Nat.mul_le_mul_left _ (Nat.mul_le_mul_left _ h6)
    rw [Nat.mul_one, Nat.mul_comm E B] at this
    omega
  have h7 : g * V < U + V := by
    rw [k.hV, Nat.mul_add g Lv]
    have e : g * (E * (v2 + B * v1)) = E * (g * (v2 + B * v1)) := by rw [← Nat.mul_assoc, Nat.mul_comm g E, Nat.mul_assoc]
    have h8 : E * (g * (v2 + B * v1)) ≤ E * (u2 + B * (u0 * B + u1)) := Nat.mul_le_mul_left _ h3
    have h9 := k.hU
    have h10 := k.hV
    omega
  have h8 : g < (U + V) / V + 1 := by
    rcases Nat.lt_or_ge g ((U + V) / V + 1) with h | h
    · exact h
    · have := Nat.lt_mul_of_div_lt (show (U + V) / V < g by omega) k.Vpos
      omega
  rw [Nat.add_div_right _ k.Vpos] at h8
  omega
end
/-- Multiplying and subtracting. -/
def MsInv (u v : List Nat) (g i : Nat) (N : List Nat) (c b : Nat) : Prop := N.length = i ∧ Lm N ∧ c < B ∧ b ≤ 1 ∧ val N + g * val (v.take i) = val (u.take i) + B ^ i * (c + b)
theorem MsInv.start (u v : List Nat) (g : Nat) : MsInv u v g 0 [] 0 0 := ⟨rfl, Lm.nil, B_pos, by omega, by simp [val]⟩
theorem MsInv.step {u v : List Nat} {g i x y : Nat} {N : List Nat} {c b : Nat} (hg : g < B) (hu : Lm u) (hv : Lm v) (hx : u[i]? = some x) (hy : v[i]? = some y) (h : MsInv u v g i N c b) :
    MsInv u v g (i + 1) (N ++ [difD x ((c + g * y) % B + b)]) ((c + g * y) / B) (difB x ((c + g * y) % B + b)) ∧ c + g * y < B * B := by
  obtain ⟨a1, a2, a3, a4, a5⟩ := h
  have hyB := hv.get hy
  have hxB := hu.get hx
  have hm := (mul_bd a3 hg hyB B_pos).1
  rw [Nat.add_zero] at hm
  have hlo : (c + g * y) % B < B := Nat.mod_lt _ B_pos
  refine ⟨⟨by simp [a1], lm_snoc a2 (by unfold difD; split <;> omega), Nat.div_lt_of_lt_mul hm, by unfold difB; split <;> omega, ?_⟩, hm⟩
  rw [val_snoc, val_take_succ, val_take_succ, a1, hx, hy, Option.getD_some, Option.getD_some]
  have e := Nat.mod_add_div (c + g * y) B
  generalize ht : c + g * y = t at *
  have key : difD x (t % B + b) + (t % B + b) = x + B * difB x (t % B + b) := by unfold difD difB; split <;> omega
  have k2 : B ^ i * difD x (t % B + b) + B ^ i * (g * y) + B ^ i * (c + b) = B ^ i * x + B ^ (i + 1) * (t / B + difB x (t % B + b)) := by
    rw [Nat.pow_succ, Nat.mul_assoc (B ^ i) B, ← Nat.mul_add, ← Nat.mul_add, ← Nat.mul_add]
    congr 1
    rw [Nat.mul_add B]
    omega
  have e3 : g * (val (v.take i) + B ^ i * y) = g * val (v.take i) + B ^ i * (g * y) := by
    rw [Nat.mul_add, ← Nat.mul_assoc g, Nat.mul_comm g (B ^ i), Nat.mul_assoc]
  rw [e3]
  rw [Nat.mul_add (B ^ i) c b] at *
  omega
/-- What is left: the guess was right. -/
theorem MsInv.right {u v : List Nat} {g n x : Nat} {N : List Nat} {c b : Nat} (h : MsInv u v g n N c b) (hv : v.length = n) (hu : u.length = n + 1) (hx : u[n]? = some x) (hum : Lm u) (hq1 : val u / val v ≤ g) (hV : 0 < val v) (hcb : c + b ≤ x) :
    g = val u / val v ∧ N ++ [x - (c + b)] = pd (val u % val v) (n + 1) := by
  obtain ⟨a1, a2, a3, a4, a5⟩ := h
  have hU : val u = val (u.take n) + B ^ n * x := by
    have := val_take_succ u n
    rw [List.take_of_length_le (by omega), hx, Option.getD_some] at this
    exact this
  rw [List.take_of_length_le (by omega)] at a5
  have e : val u = g * val v + val (N ++ [x - (c + b)]) := by
    rw [val_snoc, a1, hU]
    have : B ^ n * x = B ^ n * (c + b) + B ^ n * (x - (c + b)) := by rw [← Nat.mul_add]; congr 1; omega
    omega
  have hg : g ≤ val u / val v := by rw [Nat.le_div_iff_mul_le hV]; omega
  have hgq : g = val u / val v := by omega
  refine ⟨hgq, pd_eq (lm_snoc a2 (by have := hum.get hx; omega)) ?_ (by simp [a1])⟩
  have := Nat.div_add_mod (val u) (val v)
  rw [← hgq, Nat.mul_comm] at this
  omega
/-- What is left: the guess was too great by one. -/
theorem MsInv.wrong {u v : List Nat} {g n x : Nat} {N : List Nat} {c b : Nat} (h : MsInv u v g n N c b) (hv : v.length = n) (hu : u.length = n + 1) (hx : u[n]? = some x) (hvm : Lm v) (hq2 : g ≤ val u / val v + 1) (hV : 0 < val v) (hcb : x < c + b) :
    g = val u / val v + 1 ∧ c + b = x + 1 ∧ ∀ N2 cc, SumInv N v n N2 cc → cc = 1 ∧ N2 ++ [0] = pd (val u % val v) (n + 1) := by
  obtain ⟨a1, a2, a3, a4, a5⟩ := h
  have hU : val u = val (u.take n) + B ^ n * x := by
    have := val_take_succ u n
    rw [List.take_of_length_le (by omega), hx, Option.getD_some] at this
    exact this
  rw [List.take_of_length_le (by omega)] at a5
  have hN := val_lt a2
  rw [a1] at hN
  have hVB := val_lt hvm
  rw [hv] at hVB
  have e : val N + g * val v = val u + B ^ n * (c + b - x) := by
    have : B ^ n * (c + b) = B ^ n * x + B ^ n * (c + b - x) := by rw [← Nat.mul_add]; congr 1; omega
    omega
  have hR := Nat.div_add_mod (val u) (val v)
  have hRlt := Nat.mod_lt (val u) hV
  have hg : g = val u / val v + 1 := by
    rcases Nat.lt_or_ge (val u / val v) g with hlt | hge
    · omega
    · exfalso
      have h1 : g * val v ≤ val u := Nat.le_trans (Nat.mul_le_mul_right _ hge) (Nat.div_mul_le_self _ _)
      have h2 : B ^ n * 1 ≤ B ^ n * (c + b - x) := Nat.mul_le_mul_left _ (by omega)
      omega
  have e2 : val N + val v = val u % val v + B ^ n * (c + b - x) := by
    rw [hg, Nat.add_mul, Nat.one_mul, Nat.mul_comm (val u / val v)] at e
    omega
  have hk : c + b - x = 1 := by
    rcases Nat.lt_or_ge (c + b - x) 2 with h2 | h2
    · omega
    · exfalso
      have : B ^ n * 2 ≤ B ^ n * (c + b - x) := Nat.mul_le_mul_left _ h2
      omega
  refine ⟨hg, by omega, fun N2 cc hS => ?_⟩
  obtain ⟨s1, s2, s3, s4⟩ := hS
  rw [List.take_of_length_le (by omega), List.take_of_length_le (by omega), e2, hk, Nat.mul_one] at s4
  have hN2 := val_lt s2
  rw [s1] at hN2
  have hcc : cc = 1 := by
    rcases Nat.eq_zero_or_pos cc with h0 | h0
    · subst h0; simp at s4; omega
    · omega
  refine ⟨hcc, pd_eq (lm_snoc s2 B_pos) ?_ (by simp [s1])⟩
  rw [val_snoc, Nat.mul_zero, Nat.add_zero]
  rw [hcc] at s4
  omega
/-- The highest limbs. -/
theorem kn_of {u v : List Nat} {n : Nat} {v1 v2 u0 u1 u2 : Nat} (hn : 2 ≤ n) (hv : v.length = n) (hu : u.length = n + 1) (hvm : Lm v) (hum : Lm u)
    (h1 : v[n - 1]? = some v1) (h2 : v[n - 2]? = some v2) (g0 : u[n]? = some u0) (g1 : u[n - 1]? = some u1) (g2 : u[n - 2]? = some u2) (hnorm : B ≤ 2 * v1) (hlt : val u < val v * B) :
    Kn (B ^ (n - 2)) (val v) (val u) (val (v.take (n - 2))) (val (u.take (n - 2))) v1 v2 u0 u1 u2 := by
  obtain ⟨m, rfl⟩ : ∃ m, n = m + 2 := ⟨n - 2, by omega⟩
  simp only [show m + 2 - 1 = m + 1 by omega, show m + 2 - 2 = m by omega] at *
  have l1 := val_lt (hvm.take m)
  have l2 := val_lt (hum.take m)
  rw [List.length_take, Nat.min_eq_left (by omega)] at l1 l2
  have e1 := val_take_succ v m
  have e2 := val_take_succ v (m + 1)
  have f1 := val_take_succ u m
  have f2 := val_take_succ u (m + 1)
  have f3 := val_take_succ u (m + 2)
  rw [h2, Option.getD_some] at e1
  rw [h1, Option.getD_some, List.take_of_length_le (by omega)] at e2
  rw [g2, Option.getD_some] at f1
  rw [g1, Option.getD_some] at f2
  rw [g0, Option.getD_some, List.take_of_length_le (by omega)] at f3
  refine ⟨?_, ?_, l1, l2, hvm.get h1, hvm.get h2, hum.get g1, hum.get g2, hnorm, hlt⟩
  · rw [e2, e1, Nat.pow_succ, Nat.mul_add, Nat.mul_assoc]; omega
  · have p1 : B ^ (m + 2) * u0 = B ^ m * (B * (u0 * B)) := by rw [Nat.pow_succ, Nat.pow_succ, Nat.mul_assoc, Nat.mul_assoc, Nat.mul_comm B u0]
    have p2 : B ^ (m + 1) * u1 = B ^ m * (B * u1) := by rw [Nat.pow_succ, Nat.mul_assoc]
    rw [f3, f2, f1, p1, p2, Nat.mul_add (B ^ m) u2, Nat.mul_add B, Nat.mul_add (B ^ m) (B * (u0 * B))]
    omega
end Go.Proofs.YtnhbdldchoepfaaDoor.Limb

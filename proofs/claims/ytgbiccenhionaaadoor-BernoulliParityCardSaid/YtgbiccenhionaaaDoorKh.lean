/- Generalized Bernoulli numbers of small discriminants: a finite check. Plain. -/
import Derived.Test.YtgbiccenhionaaaDoorKf
set_option maxRecDepth 3000
namespace Go.Proofs.YtgbiccenhionaaaDoor
open Limb Num
def fitsB (e : Nat) (d : Int) : Bool := (Nat.beq (e % 2) 0 == decide (d > 0)) || (decide (d = 1) && Nat.beq e 1)
/-- Reduced forms: whether (a, b, c) is one, for b = t + 1 - a. -/
def bAbs (a t : Nat) : Nat := cond (Nat.ble a (t + 1)) (t + 1 - a) (a - (t + 1))
def fV (D a t : Nat) : Nat := bAbs a t * bAbs a t + D
def fQ (D a t : Nat) : Bool := Nat.beq (fV D a t % (4 * a)) 0 && (Nat.blt a (fV D a t / (4 * a)) || (Nat.beq (fV D a t / (4 * a)) a && Nat.ble a (t + 1)))
def cntB (D a : Nat) : Nat → Nat
  | 0 => 0
  | t + 1 => cntB D a t + cond (fQ D a t) 1 0
def cntA (D : Nat) : Nat → Nat
  | 0 => 0
  | a + 1 => cntA D a + cntB D (a + 1) (2 * (a + 1))
def a3 (D : Nat) : Nat → Nat
  | 0 => 0
  | k + 1 => cond (Nat.ble (3 * (k + 1) * (k + 1)) D) (k + 1) (a3 D k)
theorem a3_le (D : Nat) : ∀ k, a3 D k ≤ k
  | 0 => Nat.le_refl _
  | k + 1 => by
    rw [a3]
    cases Nat.ble (3 * (k + 1) * (k + 1)) D
    · have := a3_le D k; show a3 D k ≤ _; omega
    · exact Nat.le_refl _
theorem a3_iff (D : Nat) : ∀ {k p : Nat}, p < k → (p < a3 D k ↔ 3 * (p + 1) * (p + 1) ≤ D)
  | 0, _, h => by omega
  | k + 1, p, h => by
    rw [a3]
    cases hb : Nat.ble (3 * (k + 1) * (k + 1)) D with
    | true =>
      have hb := Nat.le_of_ble_eq_true hb
      have hm : (p + 1) * (p + 1) ≤ (k + 1) * (k + 1) := Nat.mul_le_mul (by omega) (by omega)
      show p < k + 1 ↔ _
      rw [Nat.mul_assoc] at hb ⊢
      exact ⟨fun _ => by omega, fun _ => h⟩
    | false =>
      have hb' : ¬ 3 * (k + 1) * (k + 1) ≤ D := fun hh => by rw [← Nat.ble_eq] at hh; rw [hh] at hb; cases hb
      show p < a3 D k ↔ _
      by_cases e : p = k
      · subst e
        have := a3_le D p
        exact ⟨fun h => by omega, fun h => absurd h hb'⟩
      · exact a3_iff D (by omega)
def cnt (D : Nat) : Nat := cntA D (a3 D 20)
def chkE (d : Int) (D N : Nat) (e : Nat) : Bool := decide (gsT e (TT N) D (e + 1) ≠ 0) == fitsB e d
def chkN (d : Int) (D : Nat) : Nat → Bool
  | 0 => false
  | n + 1 => chkE d D (n + 1) 1 && chkE d D (n + 1) 2 && chkE d D (n + 1) 3 && chkE d D (n + 1) 4 && chkE d D (n + 1) 5 && chkE d D (n + 1) 6 && (decide (d ≥ -4) || decide (gsT 1 (TT (n + 1)) D 2 = ((-(cnt D : Int) : Int) : Rat)))
def chkN3 (d : Int) (neg : Bool) (D : Nat) (t u : Bool) : Bool := chkN d D (pk neg D t u D)
def chk2N (d : Int) (neg : Bool) (D : Nat) : Bool :=
  Nat.ble D 800 && fund d && cond (two1 d) (cond (two0 d) (chkN3 d neg D true true) (chkN3 d neg D true false)) (cond (two0 d) (chkN3 d neg D false true) (chkN3 d neg D false false))
def chk1N : Int → Bool
  | .ofNat D => chk2N (.ofNat D) false D
  | .negSucc D => chk2N (.negSucc D) true (D + 1)
theorem chkN_0 : ∀ i : Fin 50, (Nat.beq (i.1 + 0) 200 || chk1N (disc (((i.1 + 0 : Nat) : Int) - 200))) = true := by decide +kernel
theorem chkN_1 : ∀ i : Fin 50, (Nat.beq (i.1 + 50) 200 || chk1N (disc (((i.1 + 50 : Nat) : Int) - 200))) = true := by decide +kernel
theorem chkN_2 : ∀ i : Fin 50, (Nat.beq (i.1 + 100) 200 || chk1N (disc (((i.1 + 100 : Nat) : Int) - 200))) = true := by decide +kernel
theorem chkN_3 : ∀ i : Fin 50, (Nat.beq (i.1 + 150) 200 || chk1N (disc (((i.1 + 150 : Nat) : Int) - 200))) = true := by decide +kernel
theorem chkN_4 : ∀ i : Fin 50, (Nat.beq (i.1 + 200) 200 || chk1N (disc (((i.1 + 200 : Nat) : Int) - 200))) = true := by decide +kernel
theorem chkN_5 : ∀ i : Fin 50, (Nat.beq (i.1 + 250) 200 || chk1N (disc (((i.1 + 250 : Nat) : Int) - 200))) = true := by decide +kernel
theorem chkN_6 : ∀ i : Fin 50, (Nat.beq (i.1 + 300) 200 || chk1N (disc (((i.1 + 300 : Nat) : Int) - 200))) = true := by decide +kernel
theorem chkN_7 : ∀ i : Fin 50, (Nat.beq (i.1 + 350) 200 || chk1N (disc (((i.1 + 350 : Nat) : Int) - 200))) = true := by decide +kernel
theorem chkN_get {m : Int} (h1 : -200 ≤ m) (h2 : m ≤ 199) (h0 : m ≠ 0) : chk1N (disc m) = true := by
  obtain ⟨i, hi, rfl⟩ : ∃ i : Nat, i < 400 ∧ m = ((i : Nat) : Int) - 200 := ⟨(m + 200).toNat, by omega, by omega⟩
  have hne : Nat.beq i 200 = false := beq_ne (by omega)
  have key : (Nat.beq i 200 || chk1N (disc (((i : Nat) : Int) - 200))) = true := by
    by_cases h0 : i < 50
    · have := chkN_0 ⟨i - 0, by omega⟩; simp only at this; rwa [show i - 0 + 0 = i by omega] at this
    by_cases h1 : i < 100
    · have := chkN_1 ⟨i - 50, by omega⟩; simp only at this; rwa [show i - 50 + 50 = i by omega] at this
    by_cases h2 : i < 150
    · have := chkN_2 ⟨i - 100, by omega⟩; simp only at this; rwa [show i - 100 + 100 = i by omega] at this
    by_cases h3 : i < 200
    · have := chkN_3 ⟨i - 150, by omega⟩; simp only at this; rwa [show i - 150 + 150 = i by omega] at this
    by_cases h4 : i < 250
    · have := chkN_4 ⟨i - 200, by omega⟩; simp only at this; rwa [show i - 200 + 200 = i by omega] at this
    by_cases h5 : i < 300
    · have := chkN_5 ⟨i - 250, by omega⟩; simp only at this; rwa [show i - 250 + 250 = i by omega] at this
    by_cases h6 : i < 350
    · have := chkN_6 ⟨i - 300, by omega⟩; simp only at this; rwa [show i - 300 + 300 = i by omega] at this
    have := chkN_7 ⟨i - 350, by omega⟩; simp only at this; rwa [show i - 350 + 350 = i by omega] at this
  rw [hne, Bool.false_or] at key
  exact key
theorem chkN_200 : chk1N (disc 200) = true := by decide +kernel
theorem chkN_all {m : Int} (h1 : -200 ≤ m) (h2 : m ≤ 200) (h0 : m ≠ 0) : chk1N (disc m) = true := by
  by_cases e : m = 200
  · subst e; exact chkN_200
  · exact chkN_get h1 (by omega) h0
theorem sgn_splitN (d : Int) : ∃ (neg : Bool) (D : Nat), d = cond neg (-(D : Int)) (D : Int) ∧ d.natAbs = D ∧ chk1N d = chk2N d neg D := by
  cases d with
  | ofNat D => exact ⟨false, D, rfl, rfl, rfl⟩
  | negSucc D => exact ⟨true, D + 1, rfl, rfl, rfl⟩
theorem chk2N_ok {d : Int} {neg : Bool} {D : Nat} (h : chk2N d neg D = true) : D ≤ 800 ∧ fund d = true ∧ chkN3 d neg D (two1 d) (two0 d) = true := by
  unfold chk2N at h
  rw [Bool.and_eq_true, Bool.and_eq_true] at h
  refine ⟨Nat.le_of_ble_eq_true h.1.1, h.1.2, ?_⟩
  have h3 := h.2
  cases h1 : two1 d <;> cases h2 : two0 d <;> rw [h1, h2] at h3 <;> exact h3
theorem chkN_ok {d : Int} {D : Nat} : ∀ {N : Nat}, chkN d D N = true → (∀ e, 1 ≤ e → e ≤ 6 → decide (gsT e (TT N) D (e + 1) ≠ 0) = fitsB e d) ∧ (d < -4 → gsT 1 (TT N) D 2 = ((-(cnt D : Int) : Int) : Rat))
  | 0, h => by cases h
  | N + 1, h => by
    rw [chkN] at h
    simp only [Bool.and_eq_true, Bool.or_eq_true, decide_eq_true_eq] at h
    obtain ⟨⟨⟨⟨⟨⟨e1, e2⟩, e3⟩, e4⟩, e5⟩, e6⟩, hc⟩ := h
    have cv : ∀ e, chkE d D (N + 1) e = true → decide (gsT e (TT (N + 1)) D (e + 1) ≠ 0) = fitsB e d := fun e he => eq_of_beq he
    refine ⟨fun e h1 h2 => ?_, fun hd => ?_⟩
    · have : e = 1 ∨ e = 2 ∨ e = 3 ∨ e = 4 ∨ e = 5 ∨ e = 6 := by omega
      rcases this with rfl | rfl | rfl | rfl | rfl | rfl
      · exact cv _ e1
      · exact cv _ e2
      · exact cv _ e3
      · exact cv _ e4
      · exact cv _ e5
      · exact cv _ e6
    · rcases hc with hc | hc
      · omega
      · exact hc
/-- The sums of the discriminants that the statements make. -/
theorem sums_ok {m : Int} (h1 : -200 ≤ m) (h2 : m ≤ 200) (h0 : m ≠ 0) : fund (disc m) = true ∧ (disc m).natAbs ≤ 800 ∧ (∀ e, 1 ≤ e → e ≤ 6 → decide (gsum e (disc m) (disc m).natAbs (e + 1) ≠ 0) = fitsB e (disc m)) ∧ (disc m < -4 → gsum 1 (disc m) (disc m).natAbs 2 = ((-(cnt (disc m).natAbs : Int) : Int) : Rat)) := by
  have h := chkN_all h1 h2 h0
  obtain ⟨neg, D, hd, hD, hc⟩ := sgn_splitN (disc m)
  rw [hc] at h
  obtain ⟨b1, b2, b3⟩ := chk2N_ok h
  obtain ⟨c1, c2⟩ := chkN_ok b3
  have ht : ∀ j, j ≤ 6 → TT (pk neg D (two1 (disc m)) (two0 (disc m)) D) j = psS (disc m) D j := fun j hj => TT_ok hd (by omega) hj
  refine ⟨b2, by omega, fun e he1 he2 => ?_, fun hlt => ?_⟩
  · rw [hD, gsT_ok (T := TT (pk neg D (two1 (disc m)) (two0 (disc m)) D)) (fun j hj => ht j (by omega))]; exact c1 e he1 he2
  · rw [hD, gsT_ok (T := TT (pk neg D (two1 (disc m)) (two0 (disc m)) D)) (fun j hj => ht j (by omega))]; exact c2 hlt
end Go.Proofs.YtgbiccenhionaaaDoor

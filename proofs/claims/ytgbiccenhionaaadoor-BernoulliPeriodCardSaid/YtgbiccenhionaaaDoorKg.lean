/- Characters are periodic: a finite check. Plain. -/
import Derived.Test.YtgbiccenhionaaaDoorKf
set_option maxRecDepth 3000
namespace Go.Proofs.YtgbiccenhionaaaDoor
open Limb Num
def perB (neg : Bool) (D : Nat) (t u : Bool) : Nat → Bool
  | 0 => true
  | a + 1 => Nat.beq (kc neg D t u (a + 1 + D)) (kc neg D t u (a + 1)) && perB neg D t u a
def chkP3 (_ : Int) (neg : Bool) (D : Nat) (t u : Bool) : Bool := perB neg D t u 256
def chk2P (d : Int) (neg : Bool) (D : Nat) : Bool :=
  Nat.ble D 800 && fund d && cond (two1 d) (cond (two0 d) (chkP3 d neg D true true) (chkP3 d neg D true false)) (cond (two0 d) (chkP3 d neg D false true) (chkP3 d neg D false false))
def chk1P : Int → Bool
  | .ofNat D => chk2P (.ofNat D) false D
  | .negSucc D => chk2P (.negSucc D) true (D + 1)
theorem chkP_0 : ∀ i : Fin 50, (Nat.beq (i.1 + 0) 200 || chk1P (disc (((i.1 + 0 : Nat) : Int) - 200))) = true := by decide +kernel
theorem chkP_1 : ∀ i : Fin 50, (Nat.beq (i.1 + 50) 200 || chk1P (disc (((i.1 + 50 : Nat) : Int) - 200))) = true := by decide +kernel
theorem chkP_2 : ∀ i : Fin 50, (Nat.beq (i.1 + 100) 200 || chk1P (disc (((i.1 + 100 : Nat) : Int) - 200))) = true := by decide +kernel
theorem chkP_3 : ∀ i : Fin 50, (Nat.beq (i.1 + 150) 200 || chk1P (disc (((i.1 + 150 : Nat) : Int) - 200))) = true := by decide +kernel
theorem chkP_4 : ∀ i : Fin 50, (Nat.beq (i.1 + 200) 200 || chk1P (disc (((i.1 + 200 : Nat) : Int) - 200))) = true := by decide +kernel
theorem chkP_5 : ∀ i : Fin 50, (Nat.beq (i.1 + 250) 200 || chk1P (disc (((i.1 + 250 : Nat) : Int) - 200))) = true := by decide +kernel
theorem chkP_6 : ∀ i : Fin 50, (Nat.beq (i.1 + 300) 200 || chk1P (disc (((i.1 + 300 : Nat) : Int) - 200))) = true := by decide +kernel
theorem chkP_7 : ∀ i : Fin 50, (Nat.beq (i.1 + 350) 200 || chk1P (disc (((i.1 + 350 : Nat) : Int) - 200))) = true := by decide +kernel
theorem chkP_get {m : Int} (h1 : -200 ≤ m) (h2 : m ≤ 199) (h0 : m ≠ 0) : chk1P (disc m) = true := by
  obtain ⟨i, hi, rfl⟩ : ∃ i : Nat, i < 400 ∧ m = ((i : Nat) : Int) - 200 := ⟨(m + 200).toNat, by omega, by omega⟩
  have hne : Nat.beq i 200 = false := beq_ne (by omega)
  have key : (Nat.beq i 200 || chk1P (disc (((i : Nat) : Int) - 200))) = true := by
    by_cases h0 : i < 50
    · have := chkP_0 ⟨i - 0, by omega⟩; simp only at this; rwa [show i - 0 + 0 = i by omega] at this
    by_cases h1 : i < 100
    · have := chkP_1 ⟨i - 50, by omega⟩; simp only at this; rwa [show i - 50 + 50 = i by omega] at this
    by_cases h2 : i < 150
    · have := chkP_2 ⟨i - 100, by omega⟩; simp only at this; rwa [show i - 100 + 100 = i by omega] at this
    by_cases h3 : i < 200
    · have := chkP_3 ⟨i - 150, by omega⟩; simp only at this; rwa [show i - 150 + 150 = i by omega] at this
    by_cases h4 : i < 250
    · have := chkP_4 ⟨i - 200, by omega⟩; simp only at this; rwa [show i - 200 + 200 = i by omega] at this
    by_cases h5 : i < 300
    · have := chkP_5 ⟨i - 250, by omega⟩; simp only at this; rwa [show i - 250 + 250 = i by omega] at this
    by_cases h6 : i < 350
    · have := chkP_6 ⟨i - 300, by omega⟩; simp only at this; rwa [show i - 300 + 300 = i by omega] at this
    have := chkP_7 ⟨i - 350, by omega⟩; simp only at this; rwa [show i - 350 + 350 = i by omega] at this
  rw [hne, Bool.false_or] at key
  exact key
theorem chkP_200 : chk1P (disc 200) = true := by decide +kernel
theorem chkP_all {m : Int} (h1 : -200 ≤ m) (h2 : m ≤ 200) (h0 : m ≠ 0) : chk1P (disc m) = true := by
  by_cases e : m = 200
  · subst e; exact chkP_200
  · exact chkP_get h1 (by omega) h0
theorem sgn_splitP (d : Int) : ∃ (neg : Bool) (D : Nat), d = cond neg (-(D : Int)) (D : Int) ∧ d.natAbs = D ∧ chk1P d = chk2P d neg D := by
  cases d with
  | ofNat D => exact ⟨false, D, rfl, rfl, rfl⟩
  | negSucc D => exact ⟨true, D + 1, rfl, rfl, rfl⟩
theorem chk2P_ok {d : Int} {neg : Bool} {D : Nat} (h : chk2P d neg D = true) : D ≤ 800 ∧ fund d = true ∧ chkP3 d neg D (two1 d) (two0 d) = true := by
  unfold chk2P at h
  rw [Bool.and_eq_true, Bool.and_eq_true] at h
  refine ⟨Nat.le_of_ble_eq_true h.1.1, h.1.2, ?_⟩
  have h3 := h.2
  cases h1 : two1 d <;> cases h2 : two0 d <;> rw [h1, h2] at h3 <;> exact h3
theorem perB_ok (neg : Bool) (D : Nat) (t u : Bool) : ∀ {k a : Nat}, perB neg D t u k = true → a < k → kc neg D t u (a + 1 + D) = kc neg D t u (a + 1)
  | 0, _, _, h => by omega
  | k + 1, a, h, ha => by
    rw [perB, Bool.and_eq_true] at h
    by_cases e : a = k
    · subst e; exact Nat.eq_of_beq_eq_true h.1
    · exact perB_ok neg D t u h.2 (by omega)
/-- Periodic for the arguments that a statement asks about. -/
theorem per_ok {m : Int} (h1 : -200 ≤ m) (h2 : m ≤ 200) (h0 : m ≠ 0) : fund (disc m) = true ∧ (disc m).natAbs ≤ 800 ∧ ∀ a : Nat, a < 256 → krZ (disc m) ((a + 1 + (disc m).natAbs : Nat) : Int) = krZ (disc m) ((a + 1 : Nat) : Int) := by
  have h := chkP_all h1 h2 h0
  obtain ⟨neg, D, hd, hD, hc⟩ := sgn_splitP (disc m)
  rw [hc] at h
  obtain ⟨b1, b2, b3⟩ := chk2P_ok h
  refine ⟨b2, by omega, fun a ha => ?_⟩
  rw [hD, kc_ok hd (by omega), kc_ok hd (by omega), perB_ok neg D _ _ b3 ha]
end Go.Proofs.YtgbiccenhionaaaDoor

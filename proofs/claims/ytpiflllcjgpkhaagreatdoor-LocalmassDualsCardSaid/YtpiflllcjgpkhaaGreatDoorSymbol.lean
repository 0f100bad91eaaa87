import Derived.Test.YtpiflllcjgpkhaaGreatDoorFactor
set_option maxRecDepth 3000
namespace Go.Proofs.YtpiflllcjgpkhaaGreatDoor
open Go.RowKit Num

theorem powCells_get : ∀ (L : List (Nat × Nat)) (i : Nat) (p e : Nat), L[i]? = some (p, e) → (powCells L)[i * 2]? = some (.int .i64 p) ∧ (powCells L)[i * 2 + 1]? = some (.int .i64 e)
  | [], i, p, e, h => by simp at h
  | x :: L, 0, p, e, h => by
    simp only [List.getElem?_cons_zero, Option.some.injEq] at h
    subst h
    simp [powCells]
  | x :: L, i + 1, p, e, h => by
    have := powCells_get L i p e (by simpa using h)
    simp only [powCells, List.flatMap_cons] at this ⊢
    rw [show (i + 1) * 2 = i * 2 + 2 by omega, show i * 2 + 2 + 1 = (i * 2 + 1) + 2 by omega]
    simpa using this
/-- The cells of element i of a list of powers that a slice holds. -/
theorem Rd.pow {w : World} {v : Value} {L : List (Nat × Nat)} (h : Rd w v L.length (powCells L)) {i p e : Nat} (hi : L[i]? = some (p, e)) :
    ∃ b off cap, v = .slice (some ⟨b, off, none⟩) L.length cap ∧ b < w.heap.size ∧ w.cell? ⟨b, off + i * 2, none⟩ = some (.int .i64 p) ∧ w.cell? ⟨b, off + i * 2 + 1, none⟩ = some (.int .i64 e) := by
  obtain ⟨h1, h2⟩ := powCells_get L i p e hi
  obtain ⟨a, cap, rfl, _, _, h3⟩ := h
  have hne : powCells L ≠ [] := fun hx => by rw [hx] at h1; simp at h1
  obtain ⟨b, off, rfl, hb, hc⟩ := h3 hne
  exact ⟨b, off, cap, rfl, hb, hc _ _ h1, by have := hc _ _ h2; rwa [← Nat.add_assoc] at this⟩

theorem lprod_replicate (k : Nat) (x : Int) : lprod (List.replicate k x) = x ^ k := by
  induction k with
  | zero => simp [lprod]
  | succ k ih => rw [List.replicate_succ, lprod, ih, Int.pow_succ, Int.mul_comm]
/-- The symbol over what is left of the list of powers. -/
def kl (a : Int) (L : List (Nat × Nat)) : Int := lprod ((spread L).map (ps a))
theorem kl_nil (a : Int) : kl a [] = 1 := rfl
theorem kl_cons (a : Int) (p e : Nat) (L : List (Nat × Nat)) : kl a ((p, e) :: L) = ps a p ^ e * kl a L := by
  unfold kl spread
  rw [List.flatMap_cons, List.map_append, lprod_append, List.map_replicate, lprod_replicate]
theorem kr_kl (a : Int) {n : Nat} (h : 1 ≤ n) : kr a n = kl a (pw n) := by
  unfold kr kl; rw [spread_pw n h]
def SInv (a : Int) (s : Int) (k : Nat) (p : Nat) (L : List (Nat × Nat)) (n : Int) : Prop := s * (ps a p ^ k * kl a L) = krZ a n
theorem SInv.step {a s : Int} {k p : Nat} {L : List (Nat × Nat)} {n : Int} (h : SInv a s (k + 1) p L n) : SInv a (s * ps a p) k p L n := by
  unfold SInv at *
  rw [Int.pow_succ, Int.mul_comm (ps a p ^ k)] at h
  rw [Int.mul_assoc, ← Int.mul_assoc (ps a p), h]
def SOut (a : Int) (s : Int) (L : List (Nat × Nat)) (n : Int) : Prop := s * kl a L = krZ a n
theorem SOut.open {a s : Int} {p e : Nat} {L : List (Nat × Nat)} {n : Int} (h : SOut a s ((p, e) :: L) n) : SInv a s e p L n := by
  unfold SOut at h; unfold SInv; rwa [kl_cons] at h
theorem SOut.start_neg {a n : Int} (hn : n < 0) (ha : a < 0) : SOut a (-1) (pw n.natAbs) n := by
  unfold SOut krZ; rw [if_neg (by omega), if_pos ⟨hn, ha⟩, kr_kl a (by omega)]
theorem SOut.start_pos {a n : Int} (hn : n ≠ 0) (ha : ¬ (n < 0 ∧ a < 0)) : SOut a 1 (pw n.natAbs) n := by
  unfold SOut krZ; rw [if_neg hn, if_neg ha, kr_kl a (by omega)]
theorem SOut.done {a s n : Int} (h : SOut a s [] n) : krZ a n = s := by
  unfold SOut at h; rw [kl_nil, Int.mul_one] at h; exact h.symm
end Go.Proofs.YtpiflllcjgpkhaaGreatDoor

/- Small facts on worlds, blocks and slices, for any program. -/
import Derived.WalkKit
import Derived.WalkSpells
import Derived.WalkLawsBesides
import Derived.Deep.LoopGhost
import Derived.Lib.LaidTab
import Derived.Lib.Hide
import Derived.IntWalk
set_option maxRecDepth 3000
namespace Go.Proofs.YtpiflllcjgpkhaaGreatDoor
open Go.RowKit

theorem addr_add (b o j : Nat) : (⟨b, o, none⟩ : Addr).add j = ⟨b, o + j, none⟩ := by
  unfold Addr.add
  by_cases h : j = 0
  · subst h; rfl
  · rw [if_neg h]
theorem cells_new (w : World) (b : Nat) (hb : b = w.heap.size) (xs : List Value) (t : TypeId) : ∀ j u, xs[j]? = some u → (w.alloc (.cells xs.toArray t)).cell? ((⟨b, 0, none⟩ : Addr).add j) = some u := by
  intro j u h
  subst hb
  rw [addr_add, World.cell?_alloc_new]
  simpa using h
theorem one_ints (l : List Value) (h : ∀ u ∈ l, ∃ k n, u = .int k n) : ∀ u ∈ l, u.oneCell' = true := by
  intro u hu
  obtain ⟨k, n, rfl⟩ := h u hu
  rfl
/-- A slice that holds these cells; n: its length. -/
def Rd (w : World) (v : Value) (n : Nat) (xs : List Value) : Prop :=
  ∃ a cap, v = .slice a n cap ∧ n ≤ cap ∧ (cap ≤ maxLen ∧ (a = none → cap = 0)) ∧ (xs ≠ [] → ∃ b off, a = some ⟨b, off, none⟩ ∧ b < w.heap.size ∧ ∀ j u, xs[j]? = some u → w.cell? ⟨b, off + j, none⟩ = some u)
theorem Rd.below {w w' : World} {v : Value} {n : Nat} {xs : List Value} (h : Rd w v n xs) (hb : Below w.heap.size w w') : Rd w' v n xs := by
  obtain ⟨a, cap, rfl, h1, h2, h3⟩ := h
  refine ⟨a, cap, rfl, h1, h2, fun hx => ?_⟩
  obtain ⟨b, off, rfl, hlt, hc⟩ := h3 hx
  refine ⟨b, off, rfl, Nat.lt_of_lt_of_le hlt hb.size, fun j u hj => ?_⟩
  rw [hb.cell (p := ⟨b, off + j, none⟩) hlt]
  exact hc j u hj
theorem Rd.of_owns {w : World} {base e size : Nat} {v : Value} {n : Nat} {xs : List Value} (h : w.ownsRow base e size v n xs) : Rd w v n xs := by
  have hc := @World.ownsRow.cells w base e size v n xs h
  obtain ⟨h1, h2⟩ := h
  rcases h2 with ⟨rfl, rfl⟩ | ⟨g, cap, cur, rfl, _, hg, hn, hm, hs, ht⟩
  · refine ⟨none, 0, rfl, by omega, ⟨by unfold maxLen; omega, fun _ => rfl⟩, fun hx => ?_⟩
    rw [Nat.zero_mul] at h1
    exact absurd (List.length_eq_zero_iff.1 h1) hx
  · refine ⟨some ⟨g, 0, none⟩, cap, rfl, hn, ⟨hm, fun h => by cases h⟩, fun _ => ⟨g, 0, rfl, (Array.getElem?_eq_some_iff.1 hg).1, fun j u hj => ?_⟩⟩
    have := hc rfl j u hj
    rwa [addr_add] at this
theorem Rd.nil (w : World) : Rd w (.slice none 0 0) 0 [] := ⟨none, 0, rfl, by omega, ⟨by unfold maxLen; omega, fun _ => rfl⟩, fun h => absurd rfl h⟩
theorem below_two {w w1 w2 : World} (h1 : Below w.heap.size w w1) (h2 : Below w1.heap.size w1 w2) : Below w.heap.size w w2 := h1.trans (h2.mono h1.size)
end Go.Proofs.YtpiflllcjgpkhaaGreatDoor

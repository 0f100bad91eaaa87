/- Plain number theory: squarefree parts, discriminants. -/
import Derived.Test.YtpiflllcjgpkhaaGreatDoorPow
set_option maxRecDepth 3000
namespace Go.Proofs.YtpiflllcjgpkhaaGreatDoor.Num

/-- Not divisible by a square other than 1. -/
def SF (m : Nat) : Prop := ∀ d, d * d ∣ m → d = 1
/-- n = s r^2, s squarefree. -/
def SqF (n s : Int) (r : Nat) : Prop := n = s * (r * r : Nat) ∧ n ≠ 0 ∧ SF s.natAbs

theorem SqF.pos {n s : Int} {r : Nat} (h : SqF n s r) : 1 ≤ r ∧ s ≠ 0 := by
  obtain ⟨h1, h2, _⟩ := h
  refine ⟨?_, ?_⟩
  · rcases Nat.eq_zero_or_pos r with h0 | h0
    · subst h0; simp at h1; exact absurd h1 h2
    · exact h0
  · rintro rfl; simp at h1; exact h2 h1
theorem SqF.abs {n s : Int} {r : Nat} (h : SqF n s r) : n.natAbs = s.natAbs * (r * r) := by
  rw [h.1, Int.natAbs_mul]; rfl
theorem SF.unique {a b r u : Nat} (ha : SF a) (hb : SF b) (hr : 1 ≤ r) (h : a * (r * r) = b * (u * u)) : a = b ∧ r = u := by
  obtain ⟨g, hg⟩ : ∃ g, Nat.gcd r u = g := ⟨_, rfl⟩
  have hgpos : 0 < g := hg ▸ Nat.gcd_pos_of_pos_left u hr
  obtain ⟨x, hx⟩ := hg ▸ Nat.gcd_dvd_left r u
  obtain ⟨y, hy⟩ := hg ▸ Nat.gcd_dvd_right r u
  have hc : Nat.Coprime x y := by
    have h1 : Nat.gcd (g * x) (g * y) = g * Nat.gcd x y := Nat.gcd_mul_left g x y
    rw [← hx, ← hy, hg] at h1
    have : g * 1 = g * Nat.gcd x y := by omega
    exact (Nat.eq_of_mul_eq_mul_left hgpos this).symm
  have e : a * (x * x) = b * (y * y) := by
    have h1 : (g * g) * (a * (x * x)) = (g * g) * (b * (y * y)) := by
      rw [hx, hy] at h
      have p1 : (g * g) * (a * (x * x)) = a * (g * x * (g * x)) := by
        rw [Nat.mul_mul_mul_comm g x g x, Nat.mul_left_comm]
      have p2 : (g * g) * (b * (y * y)) = b * (g * y * (g * y)) := by
        rw [Nat.mul_mul_mul_comm g y g y, Nat.mul_left_comm]
      rw [p1, p2, h]
    exact Nat.eq_of_mul_eq_mul_left (Nat.mul_pos hgpos hgpos) h1
  have hcc : Nat.Coprime (x * x) (y * y) := Nat.Coprime.mul_right (Nat.Coprime.mul_left hc hc) (Nat.Coprime.mul_left hc hc)
  have d1 : x * x ∣ b := hcc.dvd_of_dvd_mul_right (e ▸ Nat.dvd_mul_left (x * x) a)
  have d2 : y * y ∣ a := hcc.symm.dvd_of_dvd_mul_right (e ▸ Nat.dvd_mul_left (y * y) b)
  have hx1 := hb x d1
  have hy1 := ha y d2
  subst hx1 hy1
  exact ⟨by omega, by omega⟩
theorem SqF.unique {n s t : Int} {r u : Nat} (h1 : SqF n s r) (h2 : SqF n t u) : s = t ∧ r = u := by
  have e : s.natAbs * (r * r) = t.natAbs * (u * u) := h1.abs.symm.trans h2.abs
  obtain ⟨e1, e2⟩ := SF.unique h1.2.2 h2.2.2 h1.pos.1 e
  subst e2
  refine ⟨?_, rfl⟩
  have := h1.1.symm.trans h2.1
  exact Int.eq_of_mul_eq_mul_right (by have := Nat.mul_pos h1.pos.1 h1.pos.1; omega) this

/-! ### Over the list of powers -/
def sOf (L : List (Nat × Nat)) : Nat := nprod (L.map fun x => if x.2 % 2 = 1 then x.1 else 1)
def rOf (L : List (Nat × Nat)) : Nat := nprod (L.map fun x => x.1 ^ (x.2 / 2))
def pOf (L : List (Nat × Nat)) : Nat := nprod (L.map fun x => x.1 ^ x.2)
theorem sr_one (p e : Nat) : p ^ e = (if e % 2 = 1 then p else 1) * (p ^ (e / 2) * p ^ (e / 2)) := by
  rw [← Nat.pow_add]
  by_cases h : e % 2 = 1
  · rw [if_pos h, Nat.mul_comm, ← Nat.pow_succ]; congr 1; omega
  · rw [if_neg h, Nat.one_mul]; congr 1; omega
theorem pOf_sr (L : List (Nat × Nat)) : pOf L = sOf L * (rOf L * rOf L) := by
  induction L with
  | nil => simp [pOf, sOf, rOf, nprod]
  | cons x l ih =>
    simp only [pOf, sOf, rOf, List.map_cons, nprod] at *
    rw [ih, sr_one x.1 x.2]
    generalize (if x.2 % 2 = 1 then x.1 else 1) = A
    generalize x.1 ^ (x.2 / 2) = B
    generalize nprod (l.map fun x => if x.2 % 2 = 1 then x.1 else 1) = C
    generalize nprod (l.map fun x => x.1 ^ (x.2 / 2)) = D
    rw [Nat.mul_mul_mul_comm A (B * B) C (D * D), Nat.mul_mul_mul_comm B B D D]
theorem pOf_pw (n : Nat) (h : 1 ≤ n) : pOf (pw n) = n := by
  induction n using Nat.strongRecOn with
  | _ n ih =>
    by_cases h2 : n < 2
    · rw [pw_small h2]; simp [pOf, nprod]; omega
    · obtain ⟨s1, s2⟩ := strip_spec n (lf n) n (lf_spec n (by omega)).1 (by omega) (Nat.le_refl n)
      have hlt := rest_lt (by omega) s1 s2
      rw [pw_step (by omega) s1 s2]
      have := ih _ hlt.1 hlt.2.1
      simp only [pOf, List.map_cons, nprod] at this ⊢
      rw [this, Nat.mul_comm]; exact s1.symm
theorem pOf_append (a b : List (Nat × Nat)) : pOf (a ++ b) = pOf a * pOf b := by simp [pOf, nprod_append]
theorem sOf_append (a b : List (Nat × Nat)) : sOf (a ++ b) = sOf a * sOf b := by simp [sOf, nprod_append]
theorem rOf_append (a b : List (Nat × Nat)) : rOf (a ++ b) = rOf a * rOf b := by simp [rOf, nprod_append]
/-- The primes of the list: prime, ascending, dividing the number. -/
theorem pw_primes (n : Nat) (h : 1 ≤ n) : (∀ x ∈ pw n, Pr x.1 ∧ x.1 ∣ n) ∧ (pw n).Pairwise (fun x y => x.1 < y.1) := by
  induction n using Nat.strongRecOn with
  | _ n ih =>
    by_cases h2 : n < 2
    · rw [pw_small h2]; exact ⟨by simp, List.Pairwise.nil⟩
    · obtain ⟨s1, s2⟩ := strip_spec n (lf n) n (lf_spec n (by omega)).1 (by omega) (Nat.le_refl n)
      have hlt := rest_lt (by omega) s1 s2
      obtain ⟨i1, i2⟩ := ih _ hlt.1 hlt.2.1
      have hdv : (strip n (lf n) n).1 ∣ n := ⟨lf n ^ (strip n (lf n) n).2, s1⟩
      rw [pw_step (by omega) s1 s2]
      refine ⟨?_, ?_⟩
      · intro x hx
        rcases List.mem_cons.1 hx with rfl | hx
        · exact ⟨lf_pr n (by omega), (lf_spec n (by omega)).2.1⟩
        · exact ⟨(i1 x hx).1, Nat.dvd_trans (i1 x hx).2 hdv⟩
      · rw [List.pairwise_cons]
        refine ⟨fun y hy => ?_, i2⟩
        show lf n < y.1
        have hy1 := i1 y hy
        rcases Nat.lt_trichotomy (lf n) y.1 with hl | hl | hl
        · exact hl
        · exact absurd (hl ▸ hy1.2) s2
        · exact absurd (Nat.dvd_trans hy1.2 hdv) ((lf_spec n (by omega)).2.2 _ hy1.1.1 hl)
theorem sf_distinct : ∀ {P : List Nat}, (∀ q ∈ P, Pr q) → P.Nodup → SF (nprod P)
  | P, hP, hn, d, hd => by
    rcases Nat.lt_or_ge d 2 with h | h
    · rcases Nat.eq_zero_or_pos d with h0 | h0
      · subst h0
        have := Nat.eq_zero_of_zero_dvd (by simpa using hd)
        have := nprod_pos hP
        omega
      · omega
    · obtain ⟨_, hq, _⟩ := lf_spec d h
      have hqp := lf_pr d h
      have hqq : lf d * lf d ∣ nprod P := Nat.dvd_trans (Nat.mul_dvd_mul hq hq) hd
      have hm : lf d ∈ P := hqp.mem_of_dvd hP (Nat.dvd_trans (Nat.dvd_mul_right _ _) hqq)
      have hperm := List.perm_cons_erase hm
      rw [nprod_perm hperm] at hqq
      have h2 : lf d ∣ nprod (P.erase (lf d)) := Nat.dvd_of_mul_dvd_mul_left (by have := hqp.1; omega) hqq
      have hm2 := hqp.mem_of_dvd (fun q hq => hP q (List.mem_of_mem_erase hq)) h2
      have := (hperm.nodup_iff).1 hn
      rw [List.nodup_cons] at this
      exact absurd hm2 this.1
theorem sOf_filter (L : List (Nat × Nat)) : sOf L = nprod ((L.filter fun x => x.2 % 2 = 1).map (·.1)) := by
  unfold sOf
  induction L with
  | nil => rfl
  | cons x l ih =>
    by_cases h : x.2 % 2 = 1
    · simp [nprod, h, ih]
    · simp [nprod, h, ih]
theorem sOf_sf (n : Nat) (h : 1 ≤ n) : SF (sOf (pw n)) := by
  obtain ⟨h1, h2⟩ := pw_primes n h
  rw [sOf_filter]
  refine sf_distinct ?_ ?_
  · intro q hq
    obtain ⟨x, hx, rfl⟩ := List.mem_map.1 hq
    exact (h1 x (List.mem_filter.1 hx).1).1
  · rw [List.nodup_iff_pairwise_ne, List.pairwise_map]
    exact (h2.filter _).imp fun hlt => by omega
def sfS (n : Int) : Int := (if n < 0 then -1 else 1) * (sOf (pw n.natAbs) : Nat)
def sfR (n : Int) : Nat := rOf (pw n.natAbs)
theorem sf_ok (n : Int) (h : n ≠ 0) : SqF n (sfS n) (sfR n) := by
  have e := pOf_pw n.natAbs (by omega)
  rw [pOf_sr] at e
  refine ⟨?_, h, ?_⟩
  · unfold sfS sfR
    rw [Int.mul_assoc]
    rw [show ((sOf (pw n.natAbs) : Nat) : Int) * ((rOf (pw n.natAbs) * rOf (pw n.natAbs) : Nat) : Int) = ((sOf (pw n.natAbs) * (rOf (pw n.natAbs) * rOf (pw n.natAbs)) : Nat) : Int) by simp, e]
    split <;> omega
  · have : (sfS n).natAbs = sOf (pw n.natAbs) := by unfold sfS; split <;> omega
    rw [this]
    exact sOf_sf _ (by omega)
def disc (n : Int) : Int := if sfS n % 4 = 1 then sfS n else 4 * sfS n
theorem SqF.bound {n s : Int} {r : Nat} (h : SqF n s r) : s.natAbs ≤ n.natAbs ∧ r * r ≤ n.natAbs ∧ r ≤ n.natAbs := by
  have e := h.abs
  have h1 := h.pos.1
  have h2 : 1 ≤ s.natAbs := by have := h.pos.2; omega
  have p1 := Nat.le_mul_of_pos_right s.natAbs (Nat.mul_pos h1 h1)
  have p2 := Nat.le_mul_of_pos_left (r * r) h2
  have p3 := Nat.le_mul_of_pos_left r h1
  omega
end Go.Proofs.YtpiflllcjgpkhaaGreatDoor.Num

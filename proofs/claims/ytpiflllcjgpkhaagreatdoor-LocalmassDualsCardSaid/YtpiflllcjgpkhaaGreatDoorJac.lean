/- Plain number theory: factorization, the Kronecker symbol over it, its laws. -/
import Derived.Test.YtpiflllcjgpkhaaGreatDoorLeg
set_option maxRecDepth 3000
namespace Go.Proofs.YtpiflllcjgpkhaaGreatDoor.Num

/-! ### The prime factors, with repetitions, ascending -/
def pfF : Nat → Nat → List Nat
  | 0, _ => []
  | f + 1, n => if n < 2 then [] else lf n :: pfF f (n / lf n)
def pf (n : Nat) : List Nat := pfF n n
def nprod : List Nat → Nat
  | [] => 1
  | x :: l => x * nprod l
theorem nprod_append (a b : List Nat) : nprod (a ++ b) = nprod a * nprod b := by
  induction a with
  | nil => simp [nprod]
  | cons x l ih => simp [nprod, ih, Nat.mul_assoc]
theorem nprod_perm {a b : List Nat} (h : a.Perm b) : nprod a = nprod b := by
  induction h with
  | nil => rfl
  | cons x _ ih => simp [nprod, ih]
  | swap x y l => simp only [nprod]; rw [← Nat.mul_assoc, ← Nat.mul_assoc, Nat.mul_comm x y]
  | trans _ _ h1 h2 => exact h1.trans h2
theorem div_lf {n : Nat} (h : 2 ≤ n) : lf n * (n / lf n) = n ∧ 1 ≤ n / lf n ∧ n / lf n < n := by
  obtain ⟨a, b, _⟩ := lf_spec n h
  have e := Nat.mul_div_cancel' b
  refine ⟨e, ?_, Nat.div_lt_self (by omega) (by omega)⟩
  rcases Nat.eq_zero_or_pos (n / lf n) with h0 | h0
  · rw [h0] at e; omega
  · exact h0
theorem pfF_fuel : ∀ (f g n : Nat), n ≤ f → n ≤ g → pfF f n = pfF g n
  | 0, 0, _, _, _ => rfl
  | 0, g + 1, n, h, _ => by unfold pfF; rw [if_pos (by omega)]
  | f + 1, 0, n, _, h => by unfold pfF; rw [if_pos (by omega)]
  | f + 1, g + 1, n, h1, h2 => by
    unfold pfF
    by_cases h : n < 2
    · rw [if_pos h, if_pos h]
    · rw [if_neg h, if_neg h]
      have := (div_lf (n := n) (by omega)).2.2
      rw [pfF_fuel f g _ (by omega) (by omega)]
theorem pf_small {n : Nat} (h : n < 2) : pf n = [] := by
  unfold pf; cases n with
  | zero => rfl
  | succ n => unfold pfF; rw [if_pos h]
theorem pf_step {n : Nat} (h : 2 ≤ n) : pf n = lf n :: pf (n / lf n) := by
  obtain ⟨k, rfl⟩ : ∃ k, n = k + 1 := ⟨n - 1, by omega⟩
  have h3 := (div_lf h).2.2
  show pfF (k + 1) (k + 1) = _
  rw [pfF, if_neg (by omega)]
  unfold pf
  rw [pfF_fuel k _ _ (by omega) (Nat.le_refl _)]
theorem pf_spec (n : Nat) (h : 1 ≤ n) : nprod (pf n) = n ∧ ∀ q ∈ pf n, Pr q := by
  induction n using Nat.strongRecOn with
  | _ n ih =>
    by_cases h2 : n < 2
    · rw [pf_small h2]; exact ⟨by simp [nprod]; omega, by simp⟩
    · obtain ⟨e, h1, hlt⟩ := div_lf (n := n) (by omega)
      rw [pf_step (by omega)]
      obtain ⟨i1, i2⟩ := ih _ hlt h1
      refine ⟨by simp only [nprod]; rw [i1, e], ?_⟩
      intro q hq
      rcases List.mem_cons.1 hq with rfl | hq
      · exact lf_pr n (by omega)
      · exact i2 q hq
theorem Pr.mem_of_dvd {p : Nat} (hp : Pr p) : ∀ {l : List Nat}, (∀ q ∈ l, Pr q) → p ∣ nprod l → p ∈ l
  | [], _, h => by
    have := Nat.le_of_dvd (by decide) h
    have := hp.1; simp [nprod] at *; omega
  | x :: l, hl, h => by
    rcases hp.dvd_mul h with h | h
    · have := (hl x (by simp)).eq_of_dvd h (by have := hp.1; omega)
      simp [this]
    · exact List.mem_cons_of_mem _ (hp.mem_of_dvd (fun q hq => hl q (by simp [hq])) h)
theorem dvd_nprod {q : Nat} : ∀ {l : List Nat}, q ∈ l → q ∣ nprod l
  | x :: l, h => by
    rcases List.mem_cons.1 h with rfl | h
    · exact Nat.dvd_mul_right _ _
    · exact Nat.dvd_mul_left_of_dvd (dvd_nprod h) _
theorem nprod_pos {l : List Nat} (h : ∀ q ∈ l, Pr q) : 1 ≤ nprod l := by
  induction l with
  | nil => simp [nprod]
  | cons x l ih =>
    have h1 := (h x (by simp)).1
    have h2 := ih fun q hq => h q (by simp [hq])
    simp only [nprod]
    exact Nat.mul_pos (by omega) h2
/-- Unique factorization. -/
theorem uf : ∀ {a b : List Nat}, (∀ q ∈ a, Pr q) → (∀ q ∈ b, Pr q) → nprod a = nprod b → a.Perm b
  | [], b, _, hb, h => by
    cases b with
    | nil => exact List.Perm.nil
    | cons x l =>
      have h1 := (hb x (by simp)).1
      have h2 := nprod_pos (l := l) fun q hq => hb q (by simp [hq])
      simp only [nprod] at h
      have := Nat.mul_le_mul h1 h2
      omega
  | p :: a, b, ha, hb, h => by
    have hp := ha p (by simp)
    have hm : p ∈ b := hp.mem_of_dvd hb (h ▸ Nat.dvd_mul_right p (nprod a))
    have hperm := List.perm_cons_erase hm
    have e : nprod a = nprod (b.erase p) := by
      have := nprod_perm hperm
      rw [← h] at this
      simp only [nprod] at this
      exact Nat.eq_of_mul_eq_mul_left (by have := hp.1; omega) this
    exact (List.Perm.cons p (uf (fun q hq => ha q (by simp [hq])) (fun q hq => hb q (List.mem_of_mem_erase hq)) e)).trans hperm.symm
theorem pf_mul {m n : Nat} (hm : 1 ≤ m) (hn : 1 ≤ n) : (pf (m * n)).Perm (pf m ++ pf n) := by
  have h1 := pf_spec m hm
  have h2 := pf_spec n hn
  have h3 := pf_spec (m * n) (Nat.mul_pos hm hn)
  refine uf h3.2 ?_ ?_
  · intro q hq
    rcases List.mem_append.1 hq with h | h
    · exact h1.2 q h
    · exact h2.2 q h
  · rw [nprod_append, h1.1, h2.1, h3.1]

/-! ### The Kronecker symbol -/
/-- (a/2) -/
def two (a : Int) : Int := if a % 8 = 1 ∨ a % 8 = 7 then 1 else if a % 8 = 3 ∨ a % 8 = 5 then -1 else 0
/-- (a/q) for a prime number q. -/
def ps (a : Int) (q : Nat) : Int := if q = 2 then two a else legZ a q
/-- (a/n) for a positive n. -/
def kr (a : Int) (n : Nat) : Int := lprod ((pf n).map (ps a))
/-- (a/n) -/
def krZ (a n : Int) : Int := if n = 0 then (if a = 1 ∨ a = -1 then 1 else 0) else (if n < 0 ∧ a < 0 then -1 else 1) * kr a n.natAbs

theorem two_mul (a b : Int) : two (a * b) = two a * two b := by
  have e : (a * b) % 8 = ((a % 8) * (b % 8)) % 8 := Int.mul_emod a b 8
  have ha : a % 8 = 0 ∨ a % 8 = 1 ∨ a % 8 = 2 ∨ a % 8 = 3 ∨ a % 8 = 4 ∨ a % 8 = 5 ∨ a % 8 = 6 ∨ a % 8 = 7 := by omega
  have hb : b % 8 = 0 ∨ b % 8 = 1 ∨ b % 8 = 2 ∨ b % 8 = 3 ∨ b % 8 = 4 ∨ b % 8 = 5 ∨ b % 8 = 6 ∨ b % 8 = 7 := by omega
  unfold two
  rw [e]
  generalize a % 8 = x at *
  generalize b % 8 = y at *
  rcases ha with h | h | h | h | h | h | h | h <;> rcases hb with h' | h' | h' | h' | h' | h' | h' | h' <;> subst h <;> subst h' <;> decide
theorem two_three (a : Int) : two a = 0 ∨ two a = 1 ∨ two a = -1 := by
  unfold two; split
  · simp
  · split <;> simp
theorem Pr.op {q : Nat} (h : Pr q) (h2 : q ≠ 2) : OP q := by
  refine ⟨h, ?_⟩
  rcases Nat.mod_two_eq_zero_or_one q with h' | h'
  · have := h.eq_of_dvd (Nat.dvd_of_mod_eq_zero h') (by decide)
    omega
  · exact h'
theorem ps_three (a : Int) (q : Nat) : ps a q = 0 ∨ ps a q = 1 ∨ ps a q = -1 := by
  unfold ps; split
  · exact two_three a
  · exact legZ_three a q
theorem ps_mul {a b : Int} {q : Nat} (hq : Pr q) : ps (a * b) q = ps a q * ps b q := by
  unfold ps
  by_cases h : q = 2
  · rw [if_pos h, if_pos h, if_pos h, two_mul]
  · rw [if_neg h, if_neg h, if_neg h, legZ_mul (hq.op h)]
theorem lprod_three {l : List Int} (h : ∀ x ∈ l, x = 0 ∨ x = 1 ∨ x = -1) : lprod l = 0 ∨ lprod l = 1 ∨ lprod l = -1 := by
  induction l with
  | nil => simp [lprod]
  | cons x l ih =>
    simp only [lprod]
    rcases h x (by simp) with h1 | h1 | h1 <;> rcases ih (fun y hy => h y (by simp [hy])) with h2 | h2 | h2 <;> rw [h1, h2] <;> simp
theorem kr_three (a : Int) (n : Nat) : kr a n = 0 ∨ kr a n = 1 ∨ kr a n = -1 := by
  refine lprod_three fun x hx => ?_
  obtain ⟨q, _, rfl⟩ := List.mem_map.1 hx
  exact ps_three a q
theorem krZ_three (a n : Int) : krZ a n = 0 ∨ krZ a n = 1 ∨ krZ a n = -1 := by
  unfold krZ
  split
  · split <;> simp
  · rcases kr_three a n.natAbs with h | h | h <;> rw [h] <;> split <;> simp
theorem lprod_congr_eq {α : Type} {l : List α} {f g : α → Int} (h : ∀ x ∈ l, f x = g x) : lprod (l.map f) = lprod (l.map g) := by
  rw [List.map_congr_left h]
theorem kr_mul_top (a b : Int) {n : Nat} (hn : 1 ≤ n) : kr (a * b) n = kr a n * kr b n := by
  unfold kr
  rw [← lprod_mul]
  exact lprod_congr_eq fun q hq => ps_mul ((pf_spec n hn).2 q hq)
theorem kr_mul_bot (a : Int) {m n : Nat} (hm : 1 ≤ m) (hn : 1 ≤ n) : kr a (m * n) = kr a m * kr a n := by
  unfold kr
  rw [← lprod_append, ← List.map_append]
  exact lprod_perm ((pf_mul hm hn).map _)
theorem kr_one (a : Int) : kr a 1 = 1 := by unfold kr; rw [pf_small (by omega)]; rfl
theorem kr_two (a : Int) {m : Nat} (hm : 1 ≤ m) : kr a (2 * m) = two a * kr a m := by
  rw [kr_mul_bot a (by omega) hm]
  congr 1
  have : pf 2 = [2] := by
    have : lf 2 = 2 := lf_unique 2 2 (by omega) (by omega) (Nat.dvd_refl 2) (fun d h1 h2 => by omega)
    rw [pf_step (by omega), this, pf_small (by decide)]
  unfold kr; rw [this]; simp [lprod, ps]
theorem odd_of_mem {n q : Nat} (ho : n % 2 = 1) (hq : q ∈ pf n) : OP q := by
  have h := pf_spec n (by omega)
  have hp := h.2 q hq
  refine hp.op ?_
  rintro rfl
  have := dvd_nprod hq
  rw [h.1] at this
  have := Nat.mod_eq_zero_of_dvd this
  omega
theorem kr_odd (a : Int) {n : Nat} (ho : n % 2 = 1) : kr a n = lprod ((pf n).map (legZ a)) := by
  refine lprod_congr_eq fun q hq => ?_
  unfold ps
  have := odd_of_mem ho hq
  rw [if_neg]
  rintro rfl
  have := this.2
  omega
theorem kr_mod (a b : Int) {n : Nat} (ho : n % 2 = 1) (h : (n : Int) ∣ a - b) : kr a n = kr b n := by
  rw [kr_odd a ho, kr_odd b ho]
  refine lprod_congr_eq fun q hq => ?_
  have hd := dvd_nprod hq
  rw [(pf_spec n (by omega)).1] at hd
  exact legZ_congr (Int.dvd_trans (Int.ofNat_dvd.2 hd) h)
theorem lprod_zero : ∀ {l : List Int}, 0 ∈ l → lprod l = 0
  | x :: l, h => by
    rcases List.mem_cons.1 h with h | h
    · subst h; simp [lprod]
    · simp [lprod, lprod_zero h]
theorem kr_zero_of {a : Int} {n q : Nat} (ho : n % 2 = 1) (hq : Pr q) (h1 : q ∣ n) (h2 : (q : Int) ∣ a) : kr a n = 0 := by
  have hs := pf_spec n (by omega)
  have hm := hq.mem_of_dvd hs.2 (hs.1.symm ▸ h1)
  rw [kr_odd a ho]
  refine lprod_zero ?_
  rw [← (legZ_zero_iff (odd_of_mem ho hm)).2 h2]
  exact List.mem_map.2 ⟨q, hm, rfl⟩
theorem kr_zero_top {n : Nat} (ho : n % 2 = 1) (h : n ≠ 1) : kr 0 n = 0 :=
  kr_zero_of ho (lf_pr n (by omega)) (lf_spec n (by omega)).2.1 (Int.dvd_zero _)
theorem chi8_mul {a b : Nat} (ha : a % 2 = 1) (hb : b % 2 = 1) : chi8 (a * b) = chi8 a * chi8 b := by
  have e : (a * b) % 8 = ((a % 8) * (b % 8)) % 8 := Nat.mul_mod a b 8
  have ha' : a % 8 = 1 ∨ a % 8 = 3 ∨ a % 8 = 5 ∨ a % 8 = 7 := by omega
  have hb' : b % 8 = 1 ∨ b % 8 = 3 ∨ b % 8 = 5 ∨ b % 8 = 7 := by omega
  unfold chi8
  rw [e]
  rcases ha' with h | h | h | h <;> rcases hb' with h' | h' | h' | h' <;> rw [h, h'] <;> decide
theorem nprod_odd : ∀ {l : List Nat}, (∀ q ∈ l, OP q) → nprod l % 2 = 1
  | [], _ => by simp [nprod]
  | x :: l, h => by
    have h1 := (h x (by simp)).2
    have h2 := nprod_odd (l := l) fun q hq => h q (by simp [hq])
    simp only [nprod]
    rw [Nat.mul_mod, h1, h2]
theorem legs_two : ∀ {l : List Nat}, (∀ q ∈ l, OP q) → lprod (l.map (legZ 2)) = chi8 (nprod l)
  | [], _ => by simp [lprod, nprod, chi8]
  | x :: l, h => by
    have h2 : ∀ q ∈ l, OP q := fun q hq => h q (by simp [hq])
    simp only [List.map_cons, lprod, nprod]
    rw [chi8_mul (h x (by simp)).2 (nprod_odd h2), legZ_two (h x (by simp)), legs_two h2]
theorem kr_2 {n : Nat} (ho : n % 2 = 1) : kr 2 n = chi8 n := by
  rw [kr_odd 2 ho, legs_two fun q hq => odd_of_mem ho hq, (pf_spec n (by omega)).1]

/-! ### Reciprocity for odd numbers -/
def sg (a n : Nat) : Int := eps (((a - 1) / 2) * ((n - 1) / 2))
theorem half_mul {a b : Nat} (ha : a % 2 = 1) (hb : b % 2 = 1) : ((a * b - 1) / 2) % 2 = ((a - 1) / 2 + (b - 1) / 2) % 2 := by
  obtain ⟨k, rfl⟩ : ∃ k, a = 2 * k + 1 := ⟨a / 2, by omega⟩
  obtain ⟨l, rfl⟩ : ∃ l, b = 2 * l + 1 := ⟨b / 2, by omega⟩
  have : (2 * k + 1) * (2 * l + 1) = 2 * (2 * (k * l)) + 2 * k + 2 * l + 1 := by
    rw [Nat.add_mul, Nat.mul_add, Nat.mul_assoc, Nat.mul_left_comm k 2 l]; omega
  rw [this]; omega
theorem eps_mul_mod {a b c : Nat} (h : a % 2 = b % 2) : eps (c * a) = eps (c * b) := eps_mod (by rw [Nat.mul_mod, h, ← Nat.mul_mod])
theorem sg_mul_right {a b c : Nat} (hb : b % 2 = 1) (hc : c % 2 = 1) : sg a (b * c) = sg a b * sg a c := by
  unfold sg
  rw [eps_mul_mod (half_mul hb hc), Nat.mul_add, eps_add]
theorem sg_comm (a b : Nat) : sg a b = sg b a := by unfold sg; rw [Nat.mul_comm]
theorem sg_one (a : Nat) : sg a 1 = 1 := by unfold sg; simp [eps]
theorem rec2 {p : Nat} (hp : OP p) : ∀ {l : List Nat}, (∀ q ∈ l, OP q) → p ∉ l → lprod (l.map (legZ p)) * legZ (nprod l : Nat) p = sg p (nprod l)
  | [], _, _ => by
    simp only [List.map_nil, lprod, nprod, sg_one]
    have h := legZ_dvd (a := 1) hp
    have : legZ ((1 : Nat) : Int) p = 1 := by
      refine three_unique hp.half.2.1 (legZ_three _ _) (.inr (.inl rfl)) ?_
      have := (Int.dvd_neg).2 h
      rw [Int.one_pow] at this
      rwa [show -(1 - legZ 1 p) = legZ ((1 : Nat) : Int) p - 1 by show _ = legZ 1 p - 1; omega] at this
    rw [this]; rfl
  | q :: l, hl, hn => by
    have hq := hl q (by simp)
    have h2 : ∀ q ∈ l, OP q := fun q hq => hl q (by simp [hq])
    have hne : p ≠ q := fun e => hn (by simp [e])
    have ih := rec2 hp h2 (fun h => hn (by simp [h]))
    simp only [List.map_cons, lprod, nprod]
    rw [sg_mul_right hq.2 (nprod_odd h2), ← ih]
    have hr := reciprocity hp hq hne
    show _ = sg p q * _
    unfold sg
    rw [← hr]
    rw [show ((q * nprod l : Nat) : Int) = (q : Int) * (nprod l : Nat) by simp, legZ_mul hp]
    generalize legZ (↑p) q = A
    generalize legZ (↑q) p = B
    generalize lprod (l.map (legZ ↑p)) = C
    generalize legZ (↑(nprod l)) p = D
    rw [Int.mul_assoc A C, Int.mul_left_comm C B D, ← Int.mul_assoc, Int.mul_comm A B]
theorem rec3 {n : Nat} {b : List Nat} (hb : ∀ q ∈ b, OP q) (hn : n = nprod b) : ∀ {l : List Nat}, (∀ p ∈ l, OP p) → (∀ p ∈ l, p ∉ b) → lprod (b.map (legZ (nprod l : Nat))) * lprod (l.map (legZ n)) = sg (nprod l) n
  | [], _, _ => by
    simp only [List.map_nil, lprod, nprod]
    rw [sg_comm, sg_one]
    have : lprod (b.map (legZ ((1 : Nat) : Int))) = 1 := by
      have : ∀ q ∈ b, legZ ((1 : Nat) : Int) q = 1 := by
        intro q hq
        have hp := hb q hq
        have h := legZ_dvd (a := 1) hp
        refine three_unique hp.half.2.1 (legZ_three _ _) (.inr (.inl rfl)) ?_
        have := (Int.dvd_neg).2 h
        rw [Int.one_pow] at this
        rwa [show -(1 - legZ 1 q) = legZ ((1 : Nat) : Int) q - 1 by show _ = legZ 1 q - 1; omega] at this
      rw [lprod_congr_eq this, lprod_const, Int.one_pow]
    rw [this]; rfl
  | p :: l, hl, hd => by
    have hp := hl p (by simp)
    have h2 : ∀ q ∈ l, OP q := fun q hq => hl q (by simp [hq])
    have ih := rec3 hb hn h2 fun q hq => hd q (by simp [hq])
    have hr := rec2 hp hb (hd p (by simp))
    rw [← hn] at hr
    simp only [List.map_cons, lprod, nprod]
    rw [sg_comm, sg_mul_right hp.2 (nprod_odd h2), sg_comm n p, sg_comm n, ← ih, ← hr]
    have : lprod (b.map (legZ ((p * nprod l : Nat) : Int))) = lprod (b.map (legZ (p : Int))) * lprod (b.map (legZ (nprod l : Nat))) := by
      rw [← lprod_mul]
      refine lprod_congr_eq fun q hq => ?_
      rw [show ((p * nprod l : Nat) : Int) = (p : Int) * (nprod l : Nat) by simp, legZ_mul (hb q hq)]
    rw [this]
    generalize lprod (b.map (legZ ↑p)) = A
    generalize lprod (b.map (legZ ↑(nprod l))) = B
    generalize legZ (↑n) p = C
    generalize lprod (l.map (legZ ↑n)) = D
    rw [Int.mul_assoc A B, Int.mul_left_comm B C D, ← Int.mul_assoc]
theorem kr_rec {a n : Nat} (ha : a % 2 = 1) (hn : n % 2 = 1) (hc : ∀ q, Pr q → q ∣ a → ¬ q ∣ n) : kr a n * kr n a = sg a n := by
  have h1 := pf_spec a (by omega)
  have h2 := pf_spec n (by omega)
  have := rec3 (n := n) (b := pf n) (fun q hq => odd_of_mem hn hq) h2.1.symm (l := pf a) (fun q hq => odd_of_mem ha hq) (by
    intro p hp hq
    have d1 := dvd_nprod hp
    have d2 := dvd_nprod hq
    rw [h1.1] at d1
    rw [h2.1] at d2
    exact hc p (h1.2 p hp) d1 d2)
  rw [h1.1] at this
  rw [kr_odd _ hn, kr_odd _ ha]
  exact this
theorem sg_pm (a n : Nat) : sg a n = 1 ∨ sg a n = -1 := eps_pm _
theorem kr_swap {a n : Nat} (ha : a % 2 = 1) (hn : n % 2 = 1) : kr a n = sg a n * kr n a := by
  by_cases hc : ∀ q, Pr q → q ∣ a → ¬ q ∣ n
  · have h := kr_rec ha hn hc
    rcases kr_three a n with h1 | h1 | h1 <;> rcases kr_three n a with h2 | h2 | h2 <;> rw [h1, h2] at h <;> rw [h1, h2, ← h] <;> rcases sg_pm a n with h3 | h3 <;> rw [h3] at h <;> simp at h ⊢
  · have : ∃ q, Pr q ∧ q ∣ a ∧ q ∣ n := Classical.byContradiction fun h => hc fun q h1 h2 h3 => h ⟨q, h1, h2, h3⟩
    obtain ⟨q, hq, h1, h2⟩ := this
    rw [kr_zero_of hn hq h2 (Int.ofNat_dvd.2 h1), kr_zero_of ha hq h1 (Int.ofNat_dvd.2 h2)]; simp
theorem sg_eq {a n : Nat} (ha : a % 2 = 1) (hn : n % 2 = 1) : sg a n = if a % 4 = 3 ∧ n % 4 = 3 then -1 else 1 := by
  unfold sg eps
  have h : (((a - 1) / 2) * ((n - 1) / 2)) % 2 = ((((a - 1) / 2) % 2) * (((n - 1) / 2) % 2)) % 2 := Nat.mul_mod _ _ _
  rw [h]
  have ha' : a % 4 = 1 ∧ ((a - 1) / 2) % 2 = 0 ∨ a % 4 = 3 ∧ ((a - 1) / 2) % 2 = 1 := by omega
  have hn' : n % 4 = 1 ∧ ((n - 1) / 2) % 2 = 0 ∨ n % 4 = 3 ∧ ((n - 1) / 2) % 2 = 1 := by omega
  rcases ha' with ⟨h1, h2⟩ | ⟨h1, h2⟩ <;> rcases hn' with ⟨h3, h4⟩ | ⟨h3, h4⟩ <;> rw [h1, h2, h3, h4] <;> decide

end Go.Proofs.YtpiflllcjgpkhaaGreatDoor.Num

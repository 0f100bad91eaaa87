/- Plain number theory: the Legendre symbol by Euler's criterion, Gauss's lemma, the law of quadratic fZl for odd prime numbers. -/
import Derived.Test.YtfmjdlogjmofbaaGreatDoorLeast
import Derived.Test.YtfmjdlogjmofbaaGreatDoorW
set_option maxRecDepth 3000
namespace Go.Proofs.YtfmjdlogjmofbaaGreatDoor.Num
def Pr (p : Nat) : Prop := 2 ≤ p ∧ NoDiv p p
theorem Pr.eq_of_dvd {p d : Nat} (hp : Pr p) (h : d ∣ p) (h1 : d ≠ 1) : d = p := by
 have hp0 : 0 < p := by have := hp.1; omega
 have hle := Nat.le_of_dvd hp0 h
 have h0 : d ≠ 0 := by rintro rfl; have := Nat.eq_zero_of_zero_dvd h; omega
 rcases Nat.lt_or_ge d p with hlt | hge
 ·exact absurd h (hp.2 d oM hlt)
 ·omega
theorem Pr.coprime {p a : Nat} (hp : Pr p) (h : ¬ p ∣ a) : Nat.Coprime p a := by
 by_cases h1 : Nat.gcd p a = 1
 ·exact h1
 ·have := hp.eq_of_dvd (Nat.gcd_dvd_left p a) h1
  exact absurd (this ▸ Nat.gcd_dvd_right p a) h
theorem Pr.dvd_mul {p a b : Nat} (hp : Pr p) (h : p ∣ a * b) : p ∣ a ∨ p ∣ b := by
 by_cases ha : p ∣ a
 ·exact .inl ha
 ·exact .inr ((hp.coprime ha).dvd_of_dvd_mul_left h)
theorem Pr.dvd_mul_int {p : Nat} {a b : Int} (hp : Pr p) (h : (p : Int) ∣ a * b) : (p : Int) ∣ a ∨ (p : Int) ∣ b := by
 have h' : p ∣ (a * b).natAbs := Int.ofNat_dvd_left.1 h
 rw [Int.natAbs_mul] at h'
 rcases hp.dvd_mul h' with h | h
 ·exact .inl (Int.ofNat_dvd_left.2 h)
 ·exact .inr (Int.ofNat_dvd_left.2 h)
theorem mZ9 (n : Nat) (h : 2 ≤ n) : Pr (lf n) := by
 obtain ⟨a, b, c⟩ := aZU n h
 exact ⟨a, fun d h1 h2 hd => c d h1 h2 (Nat.dvd_trans hd b)⟩
theorem eZ2 (n : Nat) : isP n = true ↔ Pr n ∧ n ≤ 2147483647 := by
 unfold isP
 simp only [Bool.and_eq_true, decide_eq_true_eq, beq_iff_eq]
 constructor
 ·rintro ⟨⟨h1, h2⟩, h3⟩
  exact ⟨h3 ▸ mZ9 n h1, h2⟩
 ·rintro ⟨h1, h2⟩
  exact ⟨⟨h1.1, h2⟩, lf_unique n n h1.1 h1.1 (Nat.dvd_refl n) h1.2⟩
def aZz : List Int → Int
 | [] => 1
 | x :: l => x * aZz l
def nsum : List Nat → Nat
 | [] => 0
 | x :: l => x + nsum l
theorem eZH (a b : List Int) : aZz (a ++ b) = aZz a * aZz b := by
 induction a with
 | nil => simp [aZz]
 | cons x l ih => simp [aZz, ih, Int.mul_assoc]
theorem fZq (a b : List Nat) : nsum (a ++ b) = nsum a + nsum b := by
 induction a with
 | nil => simp [nsum]
 | cons x l ih => simp [nsum, ih]; omega
theorem gZf {a b : List Int} (h : a.Perm b) : aZz a = aZz b := by
 induction h with
 | nil => rfl
 | cons x _ ih => simp [aZz, ih]
 | swap x y l => simp only [aZz]; rw [← Int.mul_assoc, ← Int.mul_assoc, Int.mul_comm x y]
 | trans _ _ h1 h2 => exact h1.trans h2
theorem mZh {a b : List Nat} (h : a.Perm b) : nsum a = nsum b := by
 induction h with
 | nil => rfl
 | cons x _ ih => simp [nsum, ih]
 | swap x y l => simp only [nsum]; omega
 | trans _ _ h1 h2 => exact h1.trans h2
theorem eZe {α : Type} (l : List α) (f g : α → Int) : aZz (l.map fun j => f j * g j) = aZz (l.map f) * aZz (l.map g) := by
 induction l with
 | nil => simp [aZz]
 | cons x l ih =>
  simp only [List.map_cons, aZz, ih]
  rw [Int.mul_assoc, Int.mul_assoc, Int.mul_left_comm (g x)]
theorem fZw {α : Type} (l : List α) (c : Int) : aZz (l.map fun _ => c) = c ^ l.length := by
 induction l with
 | nil => simp [aZz]
 | cons x l ih => simp only [List.map_cons, aZz, ih, List.length_cons, Int.pow_succ]; rw [Int.mul_comm]
theorem iZC {α : Type} {m : Int} (l : List α) (f g : α → Int) (h : ∀ j ∈ l, m ∣ f j - g j) : m ∣ aZz (l.map f) - aZz (l.map g) := by
 induction l with
 | nil => simp [aZz]
 | cons x l ih =>
  simp only [List.map_cons, aZz]
  have h1 := h x (by simp)
  have h2 := ih fun j hj => h j (by simp [hj])
  have e : f x * aZz (l.map f) - g x * aZz (l.map g) = (f x - g x) * aZz (l.map f) + g x * (aZz (l.map f) - aZz (l.map g)) := by
   rw [Int.sub_mul, Int.mul_sub]; omega
  rw [e]
  exact Int.dvd_add (Int.dvd_mul_of_dvd_left h1) (Int.dvd_mul_of_dvd_right h2)
theorem eZa {α : Type} (l : List α) (f g : α → Nat) : nsum (l.map fun j => f j + g j) = nsum (l.map f) + nsum (l.map g) := by
 induction l with
 | nil => simp [nsum]
 | cons x l ih => simp only [List.map_cons, nsum, ih]; omega
theorem mZi {α : Type} (l : List α) (f g : α → Nat) (h : ∀ j ∈ l, f j % 2 = g j % 2) : nsum (l.map f) % 2 = nsum (l.map g) % 2 := by
 induction l with
 | nil => simp [nsum]
 | cons x l ih =>
  simp only [List.map_cons, nsum]
  have h1 := h x (by simp)
  have h2 := ih fun j hj => h j (by simp [hj])
  omega
theorem eZv {α : Type} (l : List α) (c : Nat) : nsum (l.map fun _ => c) = l.length * c := by
 induction l with
 | nil => simp [nsum]
 | cons x l ih => simp only [List.map_cons, nsum, ih, List.length_cons, Nat.add_mul]; omega
theorem mZg {α β : Type} (l : List α) (k : List β) (f : α → β → Nat) :
  nsum (l.map fun i => nsum (k.map fun j => f i j)) = nsum (k.map fun j => nsum (l.map fun i => f i j)) := by
 induction l with
 | nil => simp only [List.map_nil, nsum]; rw [eZv]; simp
 | cons x l ih => simp only [List.map_cons, nsum, ih]; rw [← eZa]
theorem dZZ {α : Type} (l : List α) (f g : α → Nat) (h : ∀ j ∈ l, f j = g j) : nsum (l.map f) = nsum (l.map g) := by
 rw [List.map_congr_left h]
def eps (k : Nat) : Int := if k % 2 = 0 then 1 else -1
theorem iZT (a b : Nat) : eps (a + b) = eps a * eps b := by
 unfold eps
 rcases Nat.mod_two_eq_zero_or_one a with h | h <;> rcases Nat.mod_two_eq_zero_or_one b with h' | h'
 ·rw [if_pos oM, if_pos h, if_pos h']; rfl
 ·rw [if_neg oM, if_pos h, if_neg oM]; rfl
 ·rw [if_neg oM, if_neg oM, if_pos h']; rfl
 ·rw [if_pos oM, if_neg oM, if_neg oM]; rfl
theorem iZS {a b : Nat} (h : a % 2 = b % 2) : eps a = eps b := by unfold eps; rw [h]
theorem hZY (k : Nat) : eps k = 1 ∨ eps k = -1 := by unfold eps; split <;> simp
theorem mZ6 {α : Type} (l : List α) (c : α → Nat) : aZz (l.map fun j => eps (c j)) = eps (nsum (l.map c)) := by
 induction l with
 | nil => simp [aZz, nsum, eps]
 | cons x l ih => simp only [List.map_cons, aZz, nsum, ih, iZT]
theorem dZX {α : Type} [BEq α] [LawfulBEq α] : ∀ {l l' : List α}, l.Nodup → (∀ x ∈ l, x ∈ l') → l'.length ≤ l.length → l.Perm l'
 | [], l', _, _, hl => by
  have : l' = [] := List.length_eq_zero_iff.1 (by simpa using hl)
  rw [this]
 | x :: t, l', hn, hs, hl => by
  have hx : x ∈ l' := hs x (by simp)
  have hp := List.perm_cons_erase hx
  rw [List.nodup_cons] at hn
  have ht : t.Perm (l'.erase x) := by
   refine dZX hn.2 (fun y hy => ?_) ?_
   ·have hne : y ≠ x := fun e => hn.1 (e ▸ hy)
    exact (List.mem_erase_of_ne hne).2 (hs y (by simp [hy]))
   ·have := List.length_erase_of_mem hx
    simp at hl; omega
  exact (List.Perm.cons x ht).trans hp.symm
def upto (h : Nat) : List Nat := List.range' 1 h
theorem cZj {h j : Nat} : j ∈ upto h ↔ 1 ≤ j ∧ j ≤ h := by
 unfold upto; rw [List.mem_range'_1]; omega
theorem hZm (h : Nat) : upto (h + 1) = upto h ++ [h + 1] := by
 unfold upto; rw [List.range'_1_concat]; simp [Nat.add_comm]
theorem dZ9 (h : Nat) : (upto h).length = h := by simp [upto]
theorem kZ4 (h : Nat) : (upto h).Nodup := List.nodup_range'
def gr (a p j : Nat) : Nat := (a * j) % p
def gm (a p h j : Nat) : Nat := if h < gr a p j then p - gr a p j else gr a p j
def gc (a p h j : Nat) : Nat := if h < gr a p j then 1 else 0
theorem cZi {p j : Nat} (h1 : 1 ≤ j) (h2 : j < p) : ¬ p ∣ j := fun h => by
 have := Nat.le_of_dvd oM h; omega
theorem mZO {a p h j : Nat} (hp : Pr p) (hh : p = 2 * h + 1) (ha : ¬ p ∣ a) (hj : j ∈ upto h) : 1 ≤ gr a p j ∧ gr a p j < p := by
 rw [cZj] at hj
 refine ⟨?_, Nat.mod_lt _ oM⟩
 rcases Nat.eq_zero_or_pos (gr a p j) with h0 | h0
 ·rcases hp.dvd_mul (Nat.dvd_of_mod_eq_zero h0) with h' | h'
  ·exact absurd h' ha
  ·exact absurd h' (cZi hj.1 oM)
 ·exact h0
theorem gm_mem {a p h j : Nat} (hp : Pr p) (hh : p = 2 * h + 1) (ha : ¬ p ∣ a) (hj : j ∈ upto h) : gm a p h j ∈ upto h := by
 obtain ⟨h1, h2⟩ := mZO hp hh ha hj
 rw [cZj]; unfold gm; split <;> omega
theorem iZN {a p h j : Nat} (hp : Pr p) (hh : p = 2 * h + 1) (ha : ¬ p ∣ a) (hj : j ∈ upto h) : (p : Int) ∣ (a : Int) * j - eps (gc a p h j) * (gm a p h j : Int) := by
 obtain ⟨h1, h2⟩ := mZO hp hh ha hj
 have e : a * j = p * (a * j / p) + gr a p j := (Nat.div_add_mod _ _).symm
 have e' : (a : Int) * j = p * ((a * j / p : Nat) : Int) + (gr a p j : Int) := by exact_mod_cast e
 unfold gc gm eps
 by_cases hc : h < gr a p j
 ·rw [if_pos hc, if_pos hc, if_neg aD, e']
  refine ⟨((a * j / p : Nat) : Int) + 1, ?_⟩
  rw [Int.mul_add, Int.natCast_sub oM]; omega
 ·rw [if_neg hc, if_neg hc, if_pos aD, e']
  exact ⟨((a * j / p : Nat) : Int), oM⟩
theorem gm_inj {a p h i j : Nat} (hp : Pr p) (hh : p = 2 * h + 1) (ha : ¬ p ∣ a) (hi : i ∈ upto h) (hj : j ∈ upto h) (he : gm a p h i = gm a p h j) : i = j := by
 have ci := iZN hp hh ha hi
 have cj := iZN hp hh ha hj
 rw [he] at ci
 rw [cZj] at hi hj
 have ha' : ¬ (p : Int) ∣ (a : Int) := fun h => ha (Int.ofNat_dvd.1 h)
 have key : (p : Int) ∣ (a : Int) * ((i : Int) - j) ∨ (p : Int) ∣ (a : Int) * ((i : Int) + j) := by
  rcases hZY (gc a p h i) with e1 | e1 <;> rcases hZY (gc a p h j) with e2 | e2
  ·left
   have := Int.dvd_sub ci cj
   rw [e1, e2] at this
   rwa [show (a : Int) * i - 1 * (gm a p h j : Int) - ((a : Int) * j - 1 * (gm a p h j : Int)) = a * ((i : Int) - j) by rw [Int.mul_sub]; omega] at this
  ·right
   have := Int.dvd_add ci cj
   rw [e1, e2] at this
   rwa [show (a : Int) * i - 1 * (gm a p h j : Int) + ((a : Int) * j - -1 * (gm a p h j : Int)) = a * ((i : Int) + j) by rw [Int.mul_add]; omega] at this
  ·right
   have := Int.dvd_add ci cj
   rw [e1, e2] at this
   rwa [show (a : Int) * i - -1 * (gm a p h j : Int) + ((a : Int) * j - 1 * (gm a p h j : Int)) = a * ((i : Int) + j) by rw [Int.mul_add]; omega] at this
  ·left
   have := Int.dvd_sub ci cj
   rw [e1, e2] at this
   rwa [show (a : Int) * i - -1 * (gm a p h j : Int) - ((a : Int) * j - -1 * (gm a p h j : Int)) = a * ((i : Int) - j) by rw [Int.mul_sub]; omega] at this
 rcases key with k | k
 ·rcases hp.dvd_mul_int k with k | k
  ·exact absurd k ha'
  ·have := Int.ofNat_dvd_left.1 k
   rcases Nat.eq_zero_or_pos ((i : Int) - j).natAbs with h0 | h0
   ·omega
   ·have := Nat.le_of_dvd h0 this; omega
 ·rcases hp.dvd_mul_int k with k | k
  ·exact absurd k ha'
  ·have := Int.ofNat_dvd_left.1 k
   have := Nat.le_of_dvd oM this; omega
theorem mZR {a p h : Nat} (hp : Pr p) (hh : p = 2 * h + 1) (ha : ¬ p ∣ a) : ((upto h).map (gm a p h)).Perm (upto h) := by
 refine dZX ?_ ?_ (by simp)
 ·rw [List.nodup_iff_pairwise_ne, List.pairwise_map]
  have := kZ4 h
  rw [List.nodup_iff_pairwise_ne] at this
  exact this.imp_of_mem fun ha' hb' hne he => hne (gm_inj hp hh ha ha' hb' he)
 ·intro x hx
  obtain ⟨j, hj, rfl⟩ := List.mem_map.1 hx
  exact gm_mem hp hh ha hj
def dZ7 (a p h : Nat) : Nat := nsum ((upto h).map (gc a p h))
theorem eZc {p : Nat} (hp : Pr p) : ∀ (l : List Nat), (∀ j ∈ l, ¬ p ∣ j) → ¬ (p : Int) ∣ aZz (l.map fun j : Nat => (j : Int))
 | [], _, h => by
  simp only [List.map_nil, aZz] at h
  have := Int.ofNat_dvd_left.1 h
  have := Nat.le_of_dvd aD this
  have := hp.1; omega
 | x :: l, hl, h => by
  simp only [List.map_cons, aZz] at h
  rcases hp.dvd_mul_int h with h | h
  ·exact hl x (by simp) (Int.ofNat_dvd.1 h)
  ·exact eZc hp l (fun j hj => hl j (by simp [hj])) h
theorem gauss {a p h : Nat} (hp : Pr p) (hh : p = 2 * h + 1) (ha : ¬ p ∣ a) : (p : Int) ∣ (a : Int) ^ h - eps (dZ7 a p h) := by
 have h1 := iZC (upto h) (fun j => (a : Int) * j) (fun j => eps (gc a p h j) * (gm a p h j : Int)) fun j hj => iZN hp hh ha hj
 rw [eZe, eZe, fZw, dZ9, mZ6] at h1
 have h2 : aZz ((upto h).map fun j => (gm a p h j : Int)) = aZz ((upto h).map fun j : Nat => (j : Int)) := by
  have := gZf ((mZR hp hh ha).map (fun j : Nat => (j : Int)))
  rw [List.map_map] at this
  exact this
 rw [h2, ← Int.sub_mul] at h1
 rcases hp.dvd_mul_int h1 with h | h
 ·exact h
 ·exact absurd h (eZc hp _ fun j hj => by rw [cZj] at hj; exact cZi hj.1 oM)
theorem gZl {a p h : Nat} (hp : Pr p) (hh : p = 2 * h + 1) (ha : ¬ p ∣ a) (ho : a % 2 = 1) : dZ7 a p h % 2 = nsum ((upto h).map fun j => a * j / p) % 2 := by
 have h1 : nsum ((upto h).map fun j => j) % 2 = nsum ((upto h).map fun j => (a * j / p) + (gm a p h j + gc a p h j)) % 2 := by
  refine mZi _ _ _ fun j hj => ?_
  obtain ⟨b1, b2⟩ := mZO hp hh ha hj
  have e : a * j = p * (a * j / p) + gr a p j := (Nat.div_add_mod _ _).symm
  have e2 : (a * j) % 2 = j % 2 := by rw [Nat.mul_mod, ho]; omega
  have e3 : (p * (a * j / p)) % 2 = (a * j / p) % 2 := by rw [Nat.mul_mod, show p % 2 = 1 by omega]; omega
  have e4 : gr a p j % 2 = (gm a p h j + gc a p h j) % 2 := by
   unfold gm gc; split <;> omega
  omega
 rw [eZa, eZa] at h1
 have h2 : nsum ((upto h).map (gm a p h)) = nsum ((upto h).map fun j => j) := by
  rw [mZh (mZR hp hh ha)]; simp
 have h3 : nsum ((upto h).map fun j => gm a p h j) = nsum ((upto h).map (gm a p h)) := rfl
 have h4 : nsum ((upto h).map fun j => gc a p h j) = dZ7 a p h := rfl
 rw [h3, h2, h4] at h1
 omega
theorem hZa (p x : Nat) (hp : 0 < p) : ∀ k, nsum ((upto k).map fun i => if p * i ≤ x then 1 else 0) = min k (x / p)
 | 0 => by simp [upto, nsum]
 | k + 1 => by
  rw [hZm, List.map_append, fZq, hZa p x hp k]
  simp only [List.map_cons, List.map_nil, nsum]
  have := Nat.le_div_iff_mul_le (x := k + 1) (y := x) hp
  by_cases h : p * (k + 1) ≤ x
  ·rw [if_pos h]
   have := this.2 (by rw [Nat.mul_comm]; exact h)
   omega
  ·rw [if_neg h]
   have : ¬ k + 1 ≤ x / p := fun h' => h (by rw [Nat.mul_comm]; exact this.1 h')
   omega
theorem lZT {q j p h k : Nat} (hp : p = 2 * h + 1) (hq : q = 2 * k + 1) (hj : j ≤ h) : q * j / p ≤ k := by
 have : q * j < p * (k + 1) := by
  have h1 : q * j ≤ q * h := Nat.mul_le_mul_left q hj
  have h2 : q * h < p * (k + 1) := by
   rw [hp, hq]
   have e1 : (2 * k + 1) * h = 2 * (k * h) + h := by rw [Nat.add_mul, Nat.mul_assoc]; omega
   have e2 : (2 * h + 1) * (k + 1) = 2 * (k * h) + 2 * h + k + 1 := by
    rw [Nat.add_mul, Nat.mul_add, Nat.mul_assoc, Nat.mul_comm h k]; omega
   omega
  omega
 have := Nat.div_lt_of_lt_mul this
 omega
theorem mZA {p q h k : Nat} (hp : p = 2 * h + 1) (hq : q = 2 * k + 1) (hc : ∀ i j, 1 ≤ i → i ≤ k → 1 ≤ j → j ≤ h → p * i ≠ q * j) :
  nsum ((upto h).map fun j => q * j / p) + nsum ((upto k).map fun i => p * i / q) = h * k := by
 have h1 : nsum ((upto h).map fun j => q * j / p) = nsum ((upto h).map fun j => nsum ((upto k).map fun i => if p * i ≤ q * j then 1 else 0)) := by
  refine dZZ _ _ _ fun j hj => ?_
  rw [cZj] at hj
  rw [hZa p _ oM]
  have := lZT hp hq hj.2
  omega
 have h2 : nsum ((upto k).map fun i => p * i / q) = nsum ((upto k).map fun i => nsum ((upto h).map fun j => if q * j ≤ p * i then 1 else 0)) := by
  refine dZZ _ _ _ fun i hi => ?_
  rw [cZj] at hi
  rw [hZa q _ oM]
  have := lZT hq hp hi.2
  omega
 rw [h1, h2, mZg (upto k), ← eZa]
 have h3 : nsum ((upto h).map fun j => nsum ((upto k).map fun i => if p * i ≤ q * j then 1 else 0) + nsum ((upto k).map fun i => if q * j ≤ p * i then 1 else 0)) = nsum ((upto h).map fun _ => k) := by
  refine dZZ _ _ _ fun j hj => ?_
  rw [cZj] at hj
  rw [← eZa]
  have : nsum ((upto k).map fun i => (if p * i ≤ q * j then 1 else 0) + (if q * j ≤ p * i then 1 else 0)) = nsum ((upto k).map fun _ => 1) := by
   refine dZZ _ _ _ fun i hi => ?_
   rw [cZj] at hi
   have hne := hc i j hi.1 hi.2 hj.1 hj.2
   rcases Nat.lt_or_ge (p * i) (q * j) with h' | h'
   ·rw [if_pos oM, if_neg oM]
   ·rw [if_neg oM, if_pos oM]
  rw [this, eZv, dZ9]; omega
 rw [h3, eZv, dZ9]
def leg (a p : Nat) : Int := if a ^ ((p - 1) / 2) % p = 0 then 0 else if a ^ ((p - 1) / 2) % p = 1 then 1 else -1
def legZ (a : Int) (p : Nat) : Int := leg (a % (p : Int)).toNat p
def OP (p : Nat) : Prop := Pr p ∧ p % 2 = 1
theorem OP.half {p : Nat} (h : OP p) : p = 2 * ((p - 1) / 2) + 1 ∧ 3 ≤ p ∧ 1 ≤ (p - 1) / 2 := by
 have := h.1.1; have := h.2; omega
theorem hZP (a p : Nat) : leg a p = 0 ∨ leg a p = 1 ∨ leg a p = -1 := by
 unfold leg; split
 ·simp
 ·split <;> simp
theorem fZH {p : Nat} (hp : 2 ≤ p) {x : Nat} (h : (p : Int) ∣ (x : Int) - 1) : x % p = 1 := by
 have h1 := Int.emod_emod_of_dvd ((x : Int) - 1) h
 have : ((x : Int) - 1) % p = 0 := Int.emod_eq_zero_of_dvd h
 have h2 : (x : Int) % p = 1 % p := by
  have := Int.emod_eq_emod_iff_emod_sub_eq_zero.2 this
  exact this
 have h3 : (1 : Int) % p = 1 := Int.emod_eq_of_lt oM oM
 rw [h3] at h2
 exact_mod_cast h2
theorem leg_dvd {a p : Nat} (hp : OP p) : (p : Int) ∣ (a : Int) ^ ((p - 1) / 2) - leg a p := by
 obtain ⟨hh, h3, _⟩ := hp.half
 have hmod : (a : Int) ^ ((p - 1) / 2) = ((a ^ ((p - 1) / 2) : Nat) : Int) := by simp
 unfold leg
 by_cases h0 : a ^ ((p - 1) / 2) % p = 0
 ·rw [if_pos h0, hmod]
  have := Nat.dvd_of_mod_eq_zero h0
  rw [Int.sub_zero]; exact Int.ofNat_dvd.2 this
 ·rw [if_neg h0]
  have ha : ¬ p ∣ a := fun h => h0 (Nat.mod_eq_zero_of_dvd (by
   obtain ⟨k, hk⟩ : ∃ k, (p - 1) / 2 = k + 1 := ⟨(p - 1) / 2 - 1, oM⟩
   rw [hk, Nat.pow_succ]; exact Nat.dvd_mul_left_of_dvd h _))
  have hg := gauss hp.1 hh ha
  by_cases h1 : a ^ ((p - 1) / 2) % p = 1
  ·rw [if_pos h1, hmod]
   have := Nat.div_add_mod (a ^ ((p - 1) / 2)) p
   exact ⟨((a ^ ((p - 1) / 2) / p : Nat) : Int), by rw [h1] at this; omega⟩
  ·rw [if_neg h1]
   rcases hZY (dZ7 a p ((p - 1) / 2)) with e | e
   ·rw [e, hmod] at hg
    exact absurd (fZH oM hg) h1
   ·rw [e] at hg; exact hg
theorem bZn (a : Int) (p : Nat) : legZ a p = 0 ∨ legZ a p = 1 ∨ legZ a p = -1 := hZP _ _
theorem hZ7 {m x y : Int} (h : m ∣ x - y) : ∀ k : Nat, m ∣ x ^ k - y ^ k
 | 0 => by simp
 | k + 1 => by
  rw [Int.pow_succ, Int.pow_succ]
  have e : x ^ k * x - y ^ k * y = (x ^ k - y ^ k) * x + y ^ k * (x - y) := by rw [Int.sub_mul, Int.mul_sub]; omega
  rw [e]
  exact Int.dvd_add (Int.dvd_mul_of_dvd_left (hZ7 h k)) (Int.dvd_mul_of_dvd_right h)
theorem cZ3 {a : Int} {p : Nat} (hp : OP p) : (p : Int) ∣ a ^ ((p - 1) / 2) - legZ a p := by
 obtain ⟨hh, h3, _⟩ := hp.half
 have h1 := leg_dvd (a := (a % (p : Int)).toNat) hp
 have h2 : (((a % (p : Int)).toNat : Nat) : Int) = a % (p : Int) := Int.toNat_of_nonneg (Int.emod_nonneg _ oM)
 rw [h2] at h1
 have h4 : (p : Int) ∣ a - a % (p : Int) := Int.dvd_self_sub_emod
 have h5 := hZ7 h4 ((p - 1) / 2)
 have := Int.dvd_add h5 h1
 rwa [show a ^ ((p - 1) / 2) - (a % (p : Int)) ^ ((p - 1) / 2) + ((a % (p : Int)) ^ ((p - 1) / 2) - leg (a % (p : Int)).toNat p) = a ^ ((p - 1) / 2) - legZ a p by unfold legZ; omega] at this
theorem bZC {p : Nat} (hp : 3 ≤ p) {x y : Int} (hx : x = 0 ∨ x = 1 ∨ x = -1) (hy : y = 0 ∨ y = 1 ∨ y = -1) (h : (p : Int) ∣ x - y) : x = y := by
 have := Int.ofNat_dvd_left.1 h
 rcases Nat.eq_zero_or_pos (x - y).natAbs with h0 | h0
 ·omega
 ·have := Nat.le_of_dvd h0 this; omega
theorem cZl {a b : Int} {p : Nat} (hp : OP p) : legZ (a * b) p = legZ a p * legZ b p := by
 refine bZC hp.half.2.1 (bZn _ _) ?_ ?_
 ·rcases bZn a p with h | h | h <;> rcases bZn b p with h' | h' | h' <;> rw [h, h'] <;> simp
 ·have h1 := cZ3 (a := a * b) hp
  have h2 := cZ3 (a := a) hp
  have h3 := cZ3 (a := b) hp
  rw [Int.mul_pow] at h1
  have e : legZ (a * b) p - legZ a p * legZ b p = -(a ^ ((p - 1) / 2) * b ^ ((p - 1) / 2) - legZ (a * b) p) + ((a ^ ((p - 1) / 2) - legZ a p) * b ^ ((p - 1) / 2) + legZ a p * (b ^ ((p - 1) / 2) - legZ b p)) := by
   rw [Int.sub_mul, Int.mul_sub]; omega
  rw [e]
  exact Int.dvd_add ((Int.dvd_neg).2 h1) (Int.dvd_add (Int.dvd_mul_of_dvd_left h2) (Int.dvd_mul_of_dvd_right h3))
theorem kZQ {a b : Int} {p : Nat} (h : (p : Int) ∣ a - b) : legZ a p = legZ b p := by
 unfold legZ
 rw [Int.emod_eq_emod_iff_emod_sub_eq_zero.2 (Int.emod_eq_zero_of_dvd h)]
theorem cZZ {a : Int} {p : Nat} (hp : OP p) : legZ a p = 0 ↔ (p : Int) ∣ a := by
 have h1 := cZ3 (a := a) hp
 obtain ⟨hh, h3, hk⟩ := hp.half
 obtain ⟨k, hk'⟩ : ∃ k, (p - 1) / 2 = k + 1 := ⟨(p - 1) / 2 - 1, oM⟩
 constructor
 ·intro h
  rw [h, Int.sub_zero] at h1
  have : ∀ n : Nat, (p : Int) ∣ a ^ n → (p : Int) ∣ a ∨ n = 0 := by
   intro n
   induction n with
   | zero => intro _; exact .inr rfl
   | succ n ih =>
    intro h
    rw [Int.pow_succ] at h
    rcases hp.1.dvd_mul_int h with h | h
    ·rcases ih h with h | h
     ·exact .inl h
     ·subst h
      rw [Int.pow_zero] at *
      have := Int.ofNat_dvd_left.1 ‹(p : Int) ∣ 1›
      have := Nat.le_of_dvd aD this
      omega
    ·exact .inl h
  rcases this _ h1 with h | h
  ·exact h
  ·omega
 ·intro h
  refine bZC h3 (bZn _ _) (.inl rfl) ?_
  rw [hk', Int.pow_succ] at h1
  have h2 : (p : Int) ∣ a ^ k * a := Int.dvd_mul_of_dvd_right h
  have := Int.dvd_sub h2 h1
  rwa [show a ^ k * a - (a ^ k * a - legZ a p) = legZ a p - 0 by omega] at this
theorem eZ0 {a p : Nat} (hp : OP p) (ha : ¬ p ∣ a) : legZ a p = eps (dZ7 a p ((p - 1) / 2)) := by
 obtain ⟨hh, h3, _⟩ := hp.half
 have h1 := gauss hp.1 hh ha
 have h2 := cZ3 (a := (a : Int)) hp
 refine bZC h3 (bZn _ _) ?_ ?_
 ·rcases hZY (dZ7 a p ((p - 1) / 2)) with h | h <;> simp [h]
 ·have := Int.dvd_sub h1 h2
  rwa [show (a : Int) ^ ((p - 1) / 2) - eps (dZ7 a p ((p - 1) / 2)) - ((a : Int) ^ ((p - 1) / 2) - legZ a p) = legZ a p - eps (dZ7 a p ((p - 1) / 2)) by omega] at this
theorem fZl {p q : Nat} (hp : OP p) (hq : OP q) (hne : p ≠ q) : legZ q p * legZ p q = eps (((p - 1) / 2) * ((q - 1) / 2)) := by
 obtain ⟨ep, p3, _⟩ := hp.half
 obtain ⟨eq, q3, _⟩ := hq.half
 have hpq : ¬ p ∣ q := fun h => hne (hq.1.eq_of_dvd h oM)
 have hqp : ¬ q ∣ p := fun h => hne (hp.1.eq_of_dvd h oM).symm
 rw [eZ0 hp hpq, eZ0 hq hqp, iZS (gZl hp.1 ep hpq hq.2), iZS (gZl hq.1 eq hqp hp.2), ← iZT]
 rw [mZA ep eq]
 intro i j hi1 hi2 hj1 hj2 he
 have : p ∣ q * j := ⟨i, he.symm⟩
 rcases hp.1.dvd_mul this with h | h
 ·exact hpq h
 ·exact cZi hj1 oM h
def chi8 (n : Nat) : Int := if n % 8 = 1 ∨ n % 8 = 7 then 1 else -1
theorem kZs (t : Nat) : ∀ k, nsum ((upto k).map fun i => if t < 2 * i then 1 else 0) = k - min k (t / 2)
 | 0 => by simp [upto, nsum]
 | k + 1 => by
  rw [hZm, List.map_append, fZq, kZs t k]
  simp only [List.map_cons, List.map_nil, nsum]
  by_cases h : t < 2 * (k + 1)
  ·rw [if_pos h]; omega
  ·rw [if_neg h]; omega
theorem oZG {p : Nat} (hp : OP p) : legZ 2 p = chi8 p := by
 obtain ⟨hh, h3, _⟩ := hp.half
 have h2 : ¬ p ∣ 2 := cZi oM oM
 have e : legZ ((2 : Nat) : Int) p = _ := eZ0 hp h2
 have hc : dZ7 2 p ((p - 1) / 2) = (p - 1) / 2 - (p - 1) / 2 / 2 := by
  have : dZ7 2 p ((p - 1) / 2) = nsum ((upto ((p - 1) / 2)).map fun i => if (p - 1) / 2 < 2 * i then 1 else 0) := by
   refine dZZ _ _ _ fun j hj => ?_
   rw [cZj] at hj
   unfold gc gr
   rw [Nat.mod_eq_of_lt oM]
  rw [this, kZs]; omega
 rw [hc] at e
 refine e.trans ?_
 unfold eps chi8
 have ho := hp.2
 by_cases h : p % 8 = 1 ∨ p % 8 = 7
 ·rw [if_pos h, if_pos oM]
 ·rw [if_neg h, if_neg oM]
end Go.Proofs.YtfmjdlogjmofbaaGreatDoor.Num
namespace Go.Proofs.YtfmjdlogjmofbaaGreatDoor.Num
def pfF : Nat → Nat → List Nat
 | 0, _ => []
 | f + 1, n => if n < 2 then [] else lf n :: pfF f (n / lf n)
def pf (n : Nat) : List Nat := pfF n n
def aZ2 : List Nat → Nat
 | [] => 1
 | x :: l => x * aZ2 l
theorem cZ2 (a b : List Nat) : aZ2 (a ++ b) = aZ2 a * aZ2 b := by
 induction a with
 | nil => simp [aZ2]
 | cons x l ih => simp [aZ2, ih, Nat.mul_assoc]
theorem fZZ {a b : List Nat} (h : a.Perm b) : aZ2 a = aZ2 b := by
 induction h with
 | nil => rfl
 | cons x _ ih => simp [aZ2, ih]
 | swap x y l => simp only [aZ2]; rw [← Nat.mul_assoc, ← Nat.mul_assoc, Nat.mul_comm x y]
 | trans _ _ h1 h2 => exact h1.trans h2
theorem mZY {n : Nat} (h : 2 ≤ n) : lf n * (n / lf n) = n ∧ 1 ≤ n / lf n ∧ n / lf n < n := by
 obtain ⟨a, b, _⟩ := aZU n h
 have e := Nat.mul_div_cancel' b
 refine ⟨e, ?_, Nat.div_lt_self oM oM⟩
 rcases Nat.eq_zero_or_pos (n / lf n) with h0 | h0
 ·rw [h0] at e; omega
 ·exact h0
theorem jZB : ∀ (f g n : Nat), n ≤ f → n ≤ g → pfF f n = pfF g n
 | 0, 0, _, _, _ => rfl
 | 0, g + 1, n, h, _ => by unfold pfF; rw [if_pos oM]
 | f + 1, 0, n, _, h => by unfold pfF; rw [if_pos oM]
 | f + 1, g + 1, n, h1, h2 => by
  unfold pfF
  by_cases h : n < 2
  ·rw [if_pos h, if_pos h]
  ·rw [if_neg h, if_neg h]
   have := (mZY (n := n) oM).2.2
   rw [jZB f g _ oM oM]
theorem dZW {n : Nat} (h : n < 2) : pf n = [] := by
 unfold pf; cases n with
 | zero => rfl
 | succ n => unfold pfF; rw [if_pos h]
theorem gZE {n : Nat} (h : 2 ≤ n) : pf n = lf n :: pf (n / lf n) := by
 obtain ⟨k, rfl⟩ : ∃ k, n = k + 1 := ⟨n - 1, oM⟩
 have h3 := (mZY h).2.2
 show pfF (k + 1) (k + 1) = _
 rw [pfF, if_neg oM]
 unfold pf
 rw [jZB k _ _ oM (Nat.le_refl _)]
theorem cZ7 (n : Nat) (h : 1 ≤ n) : aZ2 (pf n) = n ∧ ∀ q ∈ pf n, Pr q := by
 induction n using Nat.strongRecOn with
 | _ n ih =>
  by_cases h2 : n < 2
  ·rw [dZW h2]; exact ⟨by simp [aZ2]; omega, by simp⟩
  ·obtain ⟨e, h1, hlt⟩ := mZY (n := n) oM
   rw [gZE oM]
   obtain ⟨i1, i2⟩ := ih _ hlt h1
   refine ⟨by simp only [aZ2]; rw [i1, e], ?_⟩
   intro q hq
   rcases List.mem_cons.1 hq with rfl | hq
   ·exact mZ9 n oM
   ·exact i2 q hq
theorem Pr.mem_of_dvd {p : Nat} (hp : Pr p) : ∀ {l : List Nat}, (∀ q ∈ l, Pr q) → p ∣ aZ2 l → p ∈ l
 | [], _, h => by
  have := Nat.le_of_dvd aD h
  have := hp.1; simp [aZ2] at *; omega
 | x :: l, hl, h => by
  rcases hp.dvd_mul h with h | h
  ·have := (hl x (by simp)).eq_of_dvd h (by have := hp.1; omega)
   simp [this]
  ·exact List.mem_cons_of_mem _ (hp.mem_of_dvd (fun q hq => hl q (by simp [hq])) h)
theorem dZt {q : Nat} : ∀ {l : List Nat}, q ∈ l → q ∣ aZ2 l
 | x :: l, h => by
  rcases List.mem_cons.1 h with rfl | h
  ·exact Nat.dvd_mul_right _ _
  ·exact Nat.dvd_mul_left_of_dvd (dZt h) _
theorem hZC {l : List Nat} (h : ∀ q ∈ l, Pr q) : 1 ≤ aZ2 l := by
 induction l with
 | nil => simp [aZ2]
 | cons x l ih =>
  have h1 := (h x (by simp)).1
  have h2 := ih fun q hq => h q (by simp [hq])
  simp only [aZ2]
  exact Nat.mul_pos oM h2
theorem uf : ∀ {a b : List Nat}, (∀ q ∈ a, Pr q) → (∀ q ∈ b, Pr q) → aZ2 a = aZ2 b → a.Perm b
 | [], b, _, hb, h => by
  cases b with
  | nil => exact List.Perm.nil
  | cons x l =>
   have h1 := (hb x (by simp)).1
   have h2 := hZC (l := l) fun q hq => hb q (by simp [hq])
   simp only [aZ2] at h
   have := Nat.mul_le_mul h1 h2
   omega
 | p :: a, b, ha, hb, h => by
  have hp := ha p (by simp)
  have hm : p ∈ b := hp.mem_of_dvd hb (h ▸ Nat.dvd_mul_right p (aZ2 a))
  have hperm := List.perm_cons_erase hm
  have e : aZ2 a = aZ2 (b.erase p) := by
   have := fZZ hperm
   rw [← h] at this
   simp only [aZ2] at this
   exact Nat.eq_of_mul_eq_mul_left (by have := hp.1; omega) this
  exact (List.Perm.cons p (uf (fun q hq => ha q (by simp [hq])) (fun q hq => hb q (List.mem_of_mem_erase hq)) e)).trans hperm.symm
theorem pf_mul {m n : Nat} (hm : 1 ≤ m) (hn : 1 ≤ n) : (pf (m * n)).Perm (pf m ++ pf n) := by
 have h1 := cZ7 m hm
 have h2 := cZ7 n hn
 have h3 := cZ7 (m * n) (Nat.mul_pos hm hn)
 refine uf h3.2 ?_ ?_
 ·intro q hq
  rcases List.mem_append.1 hq with h | h
  ·exact h1.2 q h
  ·exact h2.2 q h
 ·rw [cZ2, h1.1, h2.1, h3.1]
def two (a : Int) : Int := if a % 8 = 1 ∨ a % 8 = 7 then 1 else if a % 8 = 3 ∨ a % 8 = 5 then -1 else 0
def ps (a : Int) (q : Nat) : Int := if q = 2 then two a else legZ a q
def kr (a : Int) (n : Nat) : Int := aZz ((pf n).map (ps a))
def krZ (a n : Int) : Int := if n = 0 then (if a = 1 ∨ a = -1 then 1 else 0) else (if n < 0 ∧ a < 0 then -1 else 1) * kr a n.natAbs
theorem two_mul (a b : Int) : two (a * b) = two a * two b := by
 have e : (a * b) % 8 = ((a % 8) * (b % 8)) % 8 := Int.mul_emod a b 8
 have ha : a % 8 = 0 ∨ a % 8 = 1 ∨ a % 8 = 2 ∨ a % 8 = 3 ∨ a % 8 = 4 ∨ a % 8 = 5 ∨ a % 8 = 6 ∨ a % 8 = 7 := oM
 have hb : b % 8 = 0 ∨ b % 8 = 1 ∨ b % 8 = 2 ∨ b % 8 = 3 ∨ b % 8 = 4 ∨ b % 8 = 5 ∨ b % 8 = 6 ∨ b % 8 = 7 := oM
 unfold two
 rw [e]
 generalize a % 8 = x at *
 generalize b % 8 = y at *
 rcases ha with h | h | h | h | h | h | h | h <;> rcases hb with h' | h' | h' | h' | h' | h' | h' | h' <;> subst h <;> subst h' <;> decide
theorem lZq (a : Int) : two a = 0 ∨ two a = 1 ∨ two a = -1 := by
 unfold two; split
 ·simp
 ·split <;> simp
theorem Pr.op {q : Nat} (h : Pr q) (h2 : q ≠ 2) : OP q := by
 refine ⟨h, ?_⟩
 rcases Nat.mod_two_eq_zero_or_one q with h' | h'
 ·have := h.eq_of_dvd (Nat.dvd_of_mod_eq_zero h') aD
  omega
 ·exact h'
theorem oZu (a : Int) (q : Nat) : ps a q = 0 ∨ ps a q = 1 ∨ ps a q = -1 := by
 unfold ps; split
 ·exact lZq a
 ·exact bZn a q
theorem ps_mul {a b : Int} {q : Nat} (hq : Pr q) : ps (a * b) q = ps a q * ps b q := by
 unfold ps
 by_cases h : q = 2
 ·rw [if_pos h, if_pos h, if_pos h, two_mul]
 ·rw [if_neg h, if_neg h, if_neg h, cZl (hq.op h)]
theorem iZB {l : List Int} (h : ∀ x ∈ l, x = 0 ∨ x = 1 ∨ x = -1) : aZz l = 0 ∨ aZz l = 1 ∨ aZz l = -1 := by
 induction l with
 | nil => simp [aZz]
 | cons x l ih =>
  simp only [aZz]
  rcases h x (by simp) with h1 | h1 | h1 <;> rcases ih (fun y hy => h y (by simp [hy])) with h2 | h2 | h2 <;> rw [h1, h2] <;> simp
theorem eZV (a : Int) (n : Nat) : kr a n = 0 ∨ kr a n = 1 ∨ kr a n = -1 := by
 refine iZB fun x hx => ?_
 obtain ⟨q, _, rfl⟩ := List.mem_map.1 hx
 exact oZu a q
theorem eZi (a n : Int) : krZ a n = 0 ∨ krZ a n = 1 ∨ krZ a n = -1 := by
 unfold krZ
 split
 ·split <;> simp
 ·rcases eZV a n.natAbs with h | h | h <;> rw [h] <;> split <;> simp
theorem bZ6 {α : Type} {l : List α} {f g : α → Int} (h : ∀ x ∈ l, f x = g x) : aZz (l.map f) = aZz (l.map g) := by
 rw [List.map_congr_left h]
theorem kZR (a b : Int) {n : Nat} (hn : 1 ≤ n) : kr (a * b) n = kr a n * kr b n := by
 unfold kr
 rw [← eZe]
 exact bZ6 fun q hq => ps_mul ((cZ7 n hn).2 q hq)
theorem kZS (a : Int) {m n : Nat} (hm : 1 ≤ m) (hn : 1 ≤ n) : kr a (m * n) = kr a m * kr a n := by
 unfold kr
 rw [← eZH, ← List.map_append]
 exact gZf ((pf_mul hm hn).map _)
theorem kr_one (a : Int) : kr a 1 = 1 := by unfold kr; rw [dZW oM]; rfl
theorem kr_two (a : Int) {m : Nat} (hm : 1 ≤ m) : kr a (2 * m) = two a * kr a m := by
 rw [kZS a oM hm]
 congr 1
 have : pf 2 = [2] := by
  have : lf 2 = 2 := lf_unique 2 2 oM oM (Nat.dvd_refl 2) (fun d h1 h2 => oM)
  rw [gZE oM, this, dZW aD]
 unfold kr; rw [this]; simp [aZz, ps]
theorem cZH {n q : Nat} (ho : n % 2 = 1) (hq : q ∈ pf n) : OP q := by
 have h := cZ7 n oM
 have hp := h.2 q hq
 refine hp.op ?_
 rintro rfl
 have := dZt hq
 rw [h.1] at this
 have := Nat.mod_eq_zero_of_dvd this
 omega
theorem fZz (a : Int) {n : Nat} (ho : n % 2 = 1) : kr a n = aZz ((pf n).map (legZ a)) := by
 refine bZ6 fun q hq => ?_
 unfold ps
 have := cZH ho hq
 rw [if_neg]
 rintro rfl
 have := this.2
 omega
theorem qZv (a b : Int) {n : Nat} (ho : n % 2 = 1) (h : (n : Int) ∣ a - b) : kr a n = kr b n := by
 rw [fZz a ho, fZz b ho]
 refine bZ6 fun q hq => ?_
 have hd := dZt hq
 rw [(cZ7 n oM).1] at hd
 exact kZQ (Int.dvd_trans (Int.ofNat_dvd.2 hd) h)
theorem gZe : ∀ {l : List Int}, 0 ∈ l → aZz l = 0
 | x :: l, h => by
  rcases List.mem_cons.1 h with h | h
  ·subst h; simp [aZz]
  ·simp [aZz, gZe h]
theorem eZ1 {a : Int} {n q : Nat} (ho : n % 2 = 1) (hq : Pr q) (h1 : q ∣ n) (h2 : (q : Int) ∣ a) : kr a n = 0 := by
 have hs := cZ7 n oM
 have hm := hq.mem_of_dvd hs.2 (hs.1.symm ▸ h1)
 rw [fZz a ho]
 refine gZe ?_
 rw [← (cZZ (cZH ho hm)).2 h2]
 exact List.mem_map.2 ⟨q, hm, rfl⟩
theorem iZG {n : Nat} (ho : n % 2 = 1) (h : n ≠ 1) : kr 0 n = 0 :=
 eZ1 ho (mZ9 n oM) (aZU n oM).2.1 (Int.dvd_zero _)
theorem pZl {a b : Nat} (ha : a % 2 = 1) (hb : b % 2 = 1) : chi8 (a * b) = chi8 a * chi8 b := by
 have e : (a * b) % 8 = ((a % 8) * (b % 8)) % 8 := Nat.mul_mod a b 8
 have ha' : a % 8 = 1 ∨ a % 8 = 3 ∨ a % 8 = 5 ∨ a % 8 = 7 := oM
 have hb' : b % 8 = 1 ∨ b % 8 = 3 ∨ b % 8 = 5 ∨ b % 8 = 7 := oM
 unfold chi8
 rw [e]
 rcases ha' with h | h | h | h <;> rcases hb' with h' | h' | h' | h' <;> rw [h, h'] <;> decide
theorem eZb : ∀ {l : List Nat}, (∀ q ∈ l, OP q) → aZ2 l % 2 = 1
 | [], _ => by simp [aZ2]
 | x :: l, h => by
  have h1 := (h x (by simp)).2
  have h2 := eZb (l := l) fun q hq => h q (by simp [hq])
  simp only [aZ2]
  rw [Nat.mul_mod, h1, h2]
theorem jZW : ∀ {l : List Nat}, (∀ q ∈ l, OP q) → aZz (l.map (legZ 2)) = chi8 (aZ2 l)
 | [], _ => by simp [aZz, aZ2, chi8]
 | x :: l, h => by
  have h2 : ∀ q ∈ l, OP q := fun q hq => h q (by simp [hq])
  simp only [List.map_cons, aZz, aZ2]
  rw [pZl (h x (by simp)).2 (eZb h2), oZG (h x (by simp)), jZW h2]
theorem kr_2 {n : Nat} (ho : n % 2 = 1) : kr 2 n = chi8 n := by
 rw [fZz 2 ho, jZW fun q hq => cZH ho hq, (cZ7 n oM).1]
def sg (a n : Nat) : Int := eps (((a - 1) / 2) * ((n - 1) / 2))
theorem oZL {a b : Nat} (ha : a % 2 = 1) (hb : b % 2 = 1) : ((a * b - 1) / 2) % 2 = ((a - 1) / 2 + (b - 1) / 2) % 2 := by
 obtain ⟨k, rfl⟩ : ∃ k, a = 2 * k + 1 := ⟨a / 2, oM⟩
 obtain ⟨l, rfl⟩ : ∃ l, b = 2 * l + 1 := ⟨b / 2, oM⟩
 have : (2 * k + 1) * (2 * l + 1) = 2 * (2 * (k * l)) + 2 * k + 2 * l + 1 := by
  rw [Nat.add_mul, Nat.mul_add, Nat.mul_assoc, Nat.mul_left_comm k 2 l]; omega
 rw [this]; omega
theorem iZR {a b c : Nat} (h : a % 2 = b % 2) : eps (c * a) = eps (c * b) := iZS (by rw [Nat.mul_mod, h, ← Nat.mul_mod])
theorem eZA {a b c : Nat} (hb : b % 2 = 1) (hc : c % 2 = 1) : sg a (b * c) = sg a b * sg a c := by
 unfold sg
 rw [iZR (oZL hb hc), Nat.mul_add, iZT]
theorem gZ3 (a b : Nat) : sg a b = sg b a := by unfold sg; rw [Nat.mul_comm]
theorem pZR (a : Nat) : sg a 1 = 1 := by unfold sg; simp [eps]
theorem rec2 {p : Nat} (hp : OP p) : ∀ {l : List Nat}, (∀ q ∈ l, OP q) → p ∉ l → aZz (l.map (legZ p)) * legZ (aZ2 l : Nat) p = sg p (aZ2 l)
 | [], _, _ => by
  simp only [List.map_nil, aZz, aZ2, pZR]
  have h := cZ3 (a := 1) hp
  have : legZ ((1 : Nat) : Int) p = 1 := by
   refine bZC hp.half.2.1 (bZn _ _) (.inr (.inl rfl)) ?_
   have := (Int.dvd_neg).2 h
   rw [Int.one_pow] at this
   rwa [show -(1 - legZ 1 p) = legZ ((1 : Nat) : Int) p - 1 by show _ = legZ 1 p - 1; omega] at this
  rw [this]; rfl
 | q :: l, hl, hn => by
  have hq := hl q (by simp)
  have h2 : ∀ q ∈ l, OP q := fun q hq => hl q (by simp [hq])
  have hne : p ≠ q := fun e => hn (by simp [e])
  have ih := rec2 hp h2 (fun h => hn (by simp [h]))
  simp only [List.map_cons, aZz, aZ2]
  rw [eZA hq.2 (eZb h2), ← ih]
  have hr := fZl hp hq hne
  show _ = sg p q * _
  unfold sg
  rw [← hr]
  rw [show ((q * aZ2 l : Nat) : Int) = (q : Int) * (aZ2 l : Nat) by simp, cZl hp]
  generalize legZ (↑p) q = A
  generalize legZ (↑q) p = B
  generalize aZz (l.map (legZ ↑p)) = C
  generalize legZ (↑(aZ2 l)) p = D
  rw [Int.mul_assoc A C, Int.mul_left_comm C B D, ← Int.mul_assoc, Int.mul_comm A B]
theorem rec3 {n : Nat} {b : List Nat} (hb : ∀ q ∈ b, OP q) (hn : n = aZ2 b) : ∀ {l : List Nat}, (∀ p ∈ l, OP p) → (∀ p ∈ l, p ∉ b) → aZz (b.map (legZ (aZ2 l : Nat))) * aZz (l.map (legZ n)) = sg (aZ2 l) n
 | [], _, _ => by
  simp only [List.map_nil, aZz, aZ2]
  rw [gZ3, pZR]
  have : aZz (b.map (legZ ((1 : Nat) : Int))) = 1 := by
   have : ∀ q ∈ b, legZ ((1 : Nat) : Int) q = 1 := by
    intro q hq
    have hp := hb q hq
    have h := cZ3 (a := 1) hp
    refine bZC hp.half.2.1 (bZn _ _) (.inr (.inl rfl)) ?_
    have := (Int.dvd_neg).2 h
    rw [Int.one_pow] at this
    rwa [show -(1 - legZ 1 q) = legZ ((1 : Nat) : Int) q - 1 by show _ = legZ 1 q - 1; omega] at this
   rw [bZ6 this, fZw, Int.one_pow]
  rw [this]; rfl
 | p :: l, hl, hd => by
  have hp := hl p (by simp)
  have h2 : ∀ q ∈ l, OP q := fun q hq => hl q (by simp [hq])
  have ih := rec3 hb hn h2 fun q hq => hd q (by simp [hq])
  have hr := rec2 hp hb (hd p (by simp))
  rw [← hn] at hr
  simp only [List.map_cons, aZz, aZ2]
  rw [gZ3, eZA hp.2 (eZb h2), gZ3 n p, gZ3 n, ← ih, ← hr]
  have : aZz (b.map (legZ ((p * aZ2 l : Nat) : Int))) = aZz (b.map (legZ (p : Int))) * aZz (b.map (legZ (aZ2 l : Nat))) := by
   rw [← eZe]
   refine bZ6 fun q hq => ?_
   rw [show ((p * aZ2 l : Nat) : Int) = (p : Int) * (aZ2 l : Nat) by simp, cZl (hb q hq)]
  rw [this]
  generalize aZz (b.map (legZ ↑p)) = A
  generalize aZz (b.map (legZ ↑(aZ2 l))) = B
  generalize legZ (↑n) p = C
  generalize aZz (l.map (legZ ↑n)) = D
  rw [Int.mul_assoc A B, Int.mul_left_comm B C D, ← Int.mul_assoc]
theorem kr_rec {a n : Nat} (ha : a % 2 = 1) (hn : n % 2 = 1) (hc : ∀ q, Pr q → q ∣ a → ¬ q ∣ n) : kr a n * kr n a = sg a n := by
 have h1 := cZ7 a oM
 have h2 := cZ7 n oM
 have := rec3 (n := n) (b := pf n) (fun q hq => cZH hn hq) h2.1.symm (l := pf a) (fun q hq => cZH ha hq) (by
  intro p hp hq
  have d1 := dZt hp
  have d2 := dZt hq
  rw [h1.1] at d1
  rw [h2.1] at d2
  exact hc p (h1.2 p hp) d1 d2)
 rw [h1.1] at this
 rw [fZz _ hn, fZz _ ha]
 exact this
theorem sg_pm (a n : Nat) : sg a n = 1 ∨ sg a n = -1 := hZY _
theorem kr_swap {a n : Nat} (ha : a % 2 = 1) (hn : n % 2 = 1) : kr a n = sg a n * kr n a := by
 by_cases hc : ∀ q, Pr q → q ∣ a → ¬ q ∣ n
 ·have h := kr_rec ha hn hc
  rcases eZV a n with h1 | h1 | h1 <;> rcases eZV n a with h2 | h2 | h2 <;> rw [h1, h2] at h <;> rw [h1, h2, ← h] <;> rcases sg_pm a n with h3 | h3 <;> rw [h3] at h <;> simp at h ⊢
 ·have : ∃ q, Pr q ∧ q ∣ a ∧ q ∣ n := Classical.byContradiction fun h => hc fun q h1 h2 h3 => h ⟨q, h1, h2, h3⟩
  obtain ⟨q, hq, h1, h2⟩ := this
  rw [eZ1 hn hq h2 (Int.ofNat_dvd.2 h1), eZ1 ha hq h1 (Int.ofNat_dvd.2 h2)]; simp
theorem sg_eq {a n : Nat} (ha : a % 2 = 1) (hn : n % 2 = 1) : sg a n = if a % 4 = 3 ∧ n % 4 = 3 then -1 else 1 := by
 unfold sg eps
 have h : (((a - 1) / 2) * ((n - 1) / 2)) % 2 = ((((a - 1) / 2) % 2) * (((n - 1) / 2) % 2)) % 2 := Nat.mul_mod _ _ _
 rw [h]
 have ha' : a % 4 = 1 ∧ ((a - 1) / 2) % 2 = 0 ∨ a % 4 = 3 ∧ ((a - 1) / 2) % 2 = 1 := oM
 have hn' : n % 4 = 1 ∧ ((n - 1) / 2) % 2 = 0 ∨ n % 4 = 3 ∧ ((n - 1) / 2) % 2 = 1 := oM
 rcases ha' with ⟨h1, h2⟩ | ⟨h1, h2⟩ <;> rcases hn' with ⟨h3, h4⟩ | ⟨h3, h4⟩ <;> rw [h1, h2, h3, h4] <;> decide
end Go.Proofs.YtfmjdlogjmofbaaGreatDoor.Num

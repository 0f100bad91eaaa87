/- Plain number theory: factorization, the Kronecker symbol over it, its laws. -/
import Derived.Test.YtdieokoenhncfaaGreatDoorLeg
import Derived.Test.YtdieokoenhncfaaGreatDoorMem
import Derived.Test.YtdieokoenhncfaaGreatDoorNum
set_option maxRecDepth 3000
namespace Go.Proofs.YtdieokoenhncfaaGreatDoor.Num
def pfF : Nat → Nat → List Nat
 | 0, _ => []
 | f + 1, n => if n < 2 then [] else lf n :: pfF f (n / lf n)
def pf (n : Nat) : List Nat := pfF n n
def aZX : List Nat → Nat
 | [] => 1
 | x :: l => x * aZX l
theorem fZZ (a b : List Nat) : aZX (a ++ b) = aZX a * aZX b := by
 induction a with
 | nil => simp [aZX]
 | cons x l ih => simp [aZX, ih, Nat.mul_assoc]
theorem eZJ {a b : List Nat} (h : a.Perm b) : aZX a = aZX b := by
 induction h with
 | nil => rfl
 | cons x _ ih => simp [aZX, ih]
 | swap x y l => simp only [aZX]; rw [← Nat.mul_assoc, ← Nat.mul_assoc, Nat.mul_comm x y]
 | trans _ _ h1 h2 => exact h1.trans h2
theorem kZk {n : Nat} (h : 2 ≤ n) : lf n * (n / lf n) = n ∧ 1 ≤ n / lf n ∧ n / lf n < n := by
 obtain ⟨a, b, _⟩ := bZk n h
 have e := Nat.mul_div_cancel' b
 refine ⟨e, ?_, Nat.div_lt_self (by omega) (by omega)⟩
 rcases Nat.eq_zero_or_pos (n / lf n) with h0 | h0
 ·rw [h0] at e; omega
 ·exact h0
theorem hZx : ∀ (f g n : Nat), n ≤ f → n ≤ g → pfF f n = pfF g n
 | 0, 0, _, _, _ => rfl
 | 0, g + 1, n, h, _ => by unfold pfF; rw [if_pos (by omega)]
 | f + 1, 0, n, _, h => by unfold pfF; rw [if_pos (by omega)]
 | f + 1, g + 1, n, h1, h2 => by
  unfold pfF
  by_cases h : n < 2
  ·rw [if_pos h, if_pos h]
  ·rw [if_neg h, if_neg h]
   have := (kZk (n := n) (by omega)).2.2
   rw [hZx f g _ (by omega) (by omega)]
theorem hZw {n : Nat} (h : n < 2) : pf n = [] := by
 unfold pf; cases n with
 | zero => rfl
 | succ n => unfold pfF; rw [if_pos h]
theorem jZv {n : Nat} (h : 2 ≤ n) : pf n = lf n :: pf (n / lf n) := by
 obtain ⟨k, rfl⟩ : ∃ k, n = k + 1 := ⟨n - 1, by omega⟩
 have h3 := (kZk h).2.2
 show pfF (k + 1) (k + 1) = _
 rw [pfF, if_neg (by omega)]
 unfold pf
 rw [hZx k _ _ (by omega) (Nat.le_refl _)]
theorem eZe (n : Nat) (h : 1 ≤ n) : aZX (pf n) = n ∧ ∀ q ∈ pf n, Pr q := by
 induction n using Nat.strongRecOn with
 | _ n ih =>
  by_cases h2 : n < 2
  ·rw [hZw h2]; exact ⟨by simp [aZX]; omega, by simp⟩
  ·obtain ⟨e, h1, hlt⟩ := kZk (n := n) (by omega)
   rw [jZv (by omega)]
   obtain ⟨i1, i2⟩ := ih _ hlt h1
   refine ⟨by simp only [aZX]; rw [i1, e], ?_⟩
   intro q hq
   rcases List.mem_cons.1 hq with rfl | hq
   ·exact lZo n (by omega)
   ·exact i2 q hq
theorem Pr.mem_of_dvd {p : Nat} (hp : Pr p) : ∀ {l : List Nat}, (∀ q ∈ l, Pr q) → p ∣ aZX l → p ∈ l
 | [], _, h => by
  have := Nat.le_of_dvd (by decide) h
  have := hp.1; simp [aZX] at *; omega
 | x :: l, hl, h => by
  rcases hp.dvd_mul h with h | h
  ·have := (hl x (by simp)).eq_of_dvd h (by have := hp.1; omega)
   simp [this]
  ·exact List.mem_cons_of_mem _ (hp.mem_of_dvd (fun q hq => hl q (by simp [hq])) h)
theorem eZv {q : Nat} : ∀ {l : List Nat}, q ∈ l → q ∣ aZX l
 | x :: l, h => by
  rcases List.mem_cons.1 h with rfl | h
  ·exact Nat.dvd_mul_right _ _
  ·exact Nat.dvd_mul_left_of_dvd (eZv h) _
theorem fZY {l : List Nat} (h : ∀ q ∈ l, Pr q) : 1 ≤ aZX l := by
 induction l with
 | nil => simp [aZX]
 | cons x l ih =>
  have h1 := (h x (by simp)).1
  have h2 := ih fun q hq => h q (by simp [hq])
  simp only [aZX]
  exact Nat.mul_pos (by omega) h2
theorem uf : ∀ {a b : List Nat}, (∀ q ∈ a, Pr q) → (∀ q ∈ b, Pr q) → aZX a = aZX b → a.Perm b
 | [], b, _, hb, h => by
  cases b with
  | nil => exact List.Perm.nil
  | cons x l =>
   have h1 := (hb x (by simp)).1
   have h2 := fZY (l := l) fun q hq => hb q (by simp [hq])
   simp only [aZX] at h
   have := Nat.mul_le_mul h1 h2
   omega
 | p :: a, b, ha, hb, h => by
  have hp := ha p (by simp)
  have hm : p ∈ b := hp.mem_of_dvd hb (h ▸ Nat.dvd_mul_right p (aZX a))
  have hperm := List.perm_cons_erase hm
  have e : aZX a = aZX (b.erase p) := by
   have := eZJ hperm
   rw [← h] at this
   simp only [aZX] at this
   exact Nat.eq_of_mul_eq_mul_left (by have := hp.1; omega) this
  exact (List.Perm.cons p (uf (fun q hq => ha q (by simp [hq])) (fun q hq => hb q (List.mem_of_mem_erase hq)) e)).trans hperm.symm
theorem pf_mul {m n : Nat} (hm : 1 ≤ m) (hn : 1 ≤ n) : (pf (m * n)).Perm (pf m ++ pf n) := by
 have h1 := eZe m hm
 have h2 := eZe n hn
 have h3 := eZe (m * n) (Nat.mul_pos hm hn)
 refine uf h3.2 ?_ ?_
 ·intro q hq
  rcases List.mem_append.1 hq with h | h
  ·exact h1.2 q h
  ·exact h2.2 q h
 ·rw [fZZ, h1.1, h2.1, h3.1]
def two (a : Int) : Int := if a % 8 = 1 ∨ a % 8 = 7 then 1 else if a % 8 = 3 ∨ a % 8 = 5 then -1 else 0
def ps (a : Int) (q : Nat) : Int := if q = 2 then two a else legZ a q
def kr (a : Int) (n : Nat) : Int := aZT ((pf n).map (ps a))
def krZ (a n : Int) : Int := if n = 0 then (if a = 1 ∨ a = -1 then 1 else 0) else (if n < 0 ∧ a < 0 then -1 else 1) * kr a n.natAbs
theorem Pr.op {q : Nat} (h : Pr q) (h2 : q ≠ 2) : OP q := by
 refine ⟨h, ?_⟩
 rcases Nat.mod_two_eq_zero_or_one q with h' | h'
 ·have := h.eq_of_dvd (Nat.dvd_of_mod_eq_zero h') (by decide)
  omega
 ·exact h'
theorem cZI {α : Type} {l : List α} {f g : α → Int} (h : ∀ x ∈ l, f x = g x) : aZT (l.map f) = aZT (l.map g) := by
 rw [List.map_congr_left h]
theorem iZ2 (a : Int) {m n : Nat} (hm : 1 ≤ m) (hn : 1 ≤ n) : kr a (m * n) = kr a m * kr a n := by
 unfold kr
 rw [← dZB, ← List.map_append]
 exact eZM ((pf_mul hm hn).map _)
theorem kr_two (a : Int) {m : Nat} (hm : 1 ≤ m) : kr a (2 * m) = two a * kr a m := by
 rw [iZ2 a (by omega) hm]
 congr 1
 have : pf 2 = [2] := by
  have : lf 2 = 2 := lf_unique 2 2 (by omega) (by omega) (Nat.dvd_refl 2) (fun d h1 h2 => by omega)
  rw [jZv (by omega), this, hZw (by decide)]
 unfold kr; rw [this]; simp [aZT, ps]
theorem iZw {n q : Nat} (ho : n % 2 = 1) (hq : q ∈ pf n) : OP q := by
 have h := eZe n (by omega)
 have hp := h.2 q hq
 refine hp.op ?_
 rintro rfl
 have := eZv hq
 rw [h.1] at this
 have := Nat.mod_eq_zero_of_dvd this
 omega
theorem mZA (a : Int) {n : Nat} (ho : n % 2 = 1) : kr a n = aZT ((pf n).map (legZ a)) := by
 refine cZI fun q hq => ?_
 unfold ps
 have := iZw ho hq
 rw [if_neg]
 rintro rfl
 have := this.2
 omega
theorem kr_mod (a b : Int) {n : Nat} (ho : n % 2 = 1) (h : (n : Int) ∣ a - b) : kr a n = kr b n := by
 rw [mZA a ho, mZA b ho]
 refine cZI fun q hq => ?_
 have hd := eZv hq
 rw [(eZe n (by omega)).1] at hd
 exact iZ1 (Int.dvd_trans (Int.ofNat_dvd.2 hd) h)
def sg (a n : Nat) : Int := eps (((a - 1) / 2) * ((n - 1) / 2))
end Go.Proofs.YtdieokoenhncfaaGreatDoor.Num
namespace Go.Proofs.YtdieokoenhncfaaGreatDoor
open Go.RowKit Num
def KInv (a : Int) (m : Nat) (s : Int) (n : Int) : Prop := s * kr a m = krZ a n
theorem eZp (a : Int) {m : Nat} (hm : 1 ≤ m) (h : m % 2 = 0) : kr a m = two a * kr a (m / 2) := by
 rw [← kr_two a (by omega)]
 congr 1
 omega
theorem KInv.zero {a n : Int} {m : Nat} {s : Int} (h : KInv a m s n) (hm : 1 ≤ m) (h2 : m % 2 = 0) (ha : a % 2 = 0) : krZ a n = 0 := by
 unfold KInv at h
 rw [eZp a hm h2, two, if_neg (by omega), if_neg (by omega), Int.zero_mul, Int.mul_zero] at h
 exact h.symm
theorem KInv.neg {a n : Int} {m : Nat} {s : Int} (h : KInv a m s n) (hm : 1 ≤ m) (h2 : m % 2 = 0) (ha : a % 8 = 3 ∨ a % 8 = 5) : KInv a (m / 2) (-s) n := by
 unfold KInv at *
 rw [eZp a hm h2, two, if_neg (by omega), if_pos ha] at h
 rw [← h, Int.neg_mul, Int.neg_one_mul, Int.mul_neg]
theorem KInv.same {a n : Int} {m : Nat} {s : Int} (h : KInv a m s n) (hm : 1 ≤ m) (h2 : m % 2 = 0) (ha : a % 8 = 1 ∨ a % 8 = 7) : KInv a (m / 2) s n := by
 unfold KInv at *
 rw [eZp a hm h2, two, if_pos ha, Int.one_mul] at h
 exact h
theorem KInv.fin {a n : Int} {m : Nat} {s : Int} (h : KInv a m s n) (h2 : m % 2 = 1) : s * kr ((a % (m : Int)).toNat : Nat) m = krZ a n := by
 unfold KInv at h
 rw [← h]
 congr 1
 refine kr_mod _ _ h2 ?_
 rw [Int.toNat_of_nonneg (Int.emod_nonneg _ (by omega))]
 have := Int.dvd_neg.2 (Int.dvd_self_sub_emod (x := a) (m := (m : Int)))
 rwa [Int.neg_sub] at this
end Go.Proofs.YtdieokoenhncfaaGreatDoor
/- Plain number theory: the list of prime powers, as pairs (prime number, exponent). -/
namespace Go.Proofs.YtdieokoenhncfaaGreatDoor.Num
def cZW : Nat → Nat → Nat → Nat × Nat
 | 0, _, m => (m, 0)
 | f + 1, p, m => if m % p = 0 then ((cZW f p (m / p)).1, (cZW f p (m / p)).2 + 1) else (m, 0)
theorem cZb : ∀ (f p m : Nat), 2 ≤ p → 1 ≤ m → m ≤ f → m = (cZW f p m).1 * p ^ (cZW f p m).2 ∧ ¬ p ∣ (cZW f p m).1
 | 0, p, m, _, h1, h2 => by omega
 | f + 1, p, m, hp, h1, h2 => by
  unfold cZW
  by_cases h : m % p = 0
  ·rw [if_pos h]
   have e := Nat.mul_div_cancel' (Nat.dvd_of_mod_eq_zero h)
   have hpos : 1 ≤ m / p := by
    rcases Nat.eq_zero_or_pos (m / p) with h0 | h0
    ·rw [h0] at e; omega
    ·exact h0
   have hlt : m / p < m := Nat.div_lt_self (by omega) (by omega)
   obtain ⟨i1, i2⟩ := cZb f p (m / p) hp hpos (by omega)
   refine ⟨?_, i2⟩
   show m = (cZW f p (m / p)).1 * p ^ ((cZW f p (m / p)).2 + 1)
   rw [Nat.pow_succ, ← Nat.mul_assoc, ← i1, Nat.mul_comm]; exact e.symm
  ·rw [if_neg h]
   exact ⟨by simp, fun hd => h (Nat.mod_eq_zero_of_dvd hd)⟩
theorem dZL {p : Nat} (hp : 2 ≤ p) (e : Nat) : 1 ≤ p ^ e := Nat.pow_pos (by omega)
theorem fZL {p r s e f : Nat} (hp : 2 ≤ p) (h : r * p ^ e = s * p ^ f) (hr : ¬ p ∣ r) (hs : ¬ p ∣ s) : r = s ∧ e = f := by
 rcases Nat.lt_trichotomy e f with hlt | heq | hgt
 ·obtain ⟨k, rfl⟩ : ∃ k, f = e + (k + 1) := ⟨f - e - 1, by omega⟩
  rw [Nat.pow_add, Nat.mul_left_comm, Nat.mul_comm r] at h
  have := Nat.eq_of_mul_eq_mul_left (dZL hp e) h
  exact absurd ⟨s * p ^ k, by rw [this, Nat.pow_succ, ← Nat.mul_assoc, Nat.mul_comm]⟩ hr
 ·subst heq
  exact ⟨Nat.eq_of_mul_eq_mul_right (dZL hp e) h, rfl⟩
 ·obtain ⟨k, rfl⟩ : ∃ k, e = f + (k + 1) := ⟨e - f - 1, by omega⟩
  rw [Nat.pow_add, Nat.mul_left_comm, Nat.mul_comm s] at h
  have := Nat.eq_of_mul_eq_mul_left (dZL hp f) h
  exact absurd ⟨r * p ^ k, by rw [← this, Nat.pow_succ, ← Nat.mul_assoc, Nat.mul_comm]⟩ hs
def pwF : Nat → Nat → List (Nat × Nat)
 | 0, _ => []
 | f + 1, n => if n < 2 then [] else (lf n, (cZW n (lf n) n).2) :: pwF f (cZW n (lf n) n).1
def pw (n : Nat) : List (Nat × Nat) := pwF n n
theorem dZZ {n r e : Nat} (h : 2 ≤ n) (he : n = r * lf n ^ e) (hr : ¬ lf n ∣ r) : r < n ∧ 1 ≤ r ∧ 1 ≤ e := by
 obtain ⟨a, b, _⟩ := bZk n h
 have he1 : 1 ≤ e := by
  rcases Nat.eq_zero_or_pos e with h0 | h0
  ·subst h0; rw [Nat.pow_zero, Nat.mul_one] at he; rw [← he] at hr; exact absurd b hr
  ·exact h0
 have hr1 : 1 ≤ r := by
  rcases Nat.eq_zero_or_pos r with h0 | h0
  ·subst h0; omega
  ·exact h0
 refine ⟨?_, hr1, he1⟩
 have h2 : 2 ≤ lf n ^ e := by
  have := Nat.pow_le_pow_right (show 0 < lf n by omega) he1
  rw [Nat.pow_one] at this; omega
 have := Nat.mul_le_mul_left r h2
 omega
theorem hZt : ∀ (f g n : Nat), n ≤ f → n ≤ g → pwF f n = pwF g n
 | 0, 0, _, _, _ => rfl
 | 0, g + 1, n, h, _ => by unfold pwF; rw [if_pos (by omega)]
 | f + 1, 0, n, _, h => by unfold pwF; rw [if_pos (by omega)]
 | f + 1, g + 1, n, h1, h2 => by
  unfold pwF
  by_cases h : n < 2
  ·rw [if_pos h, if_pos h]
  ·rw [if_neg h, if_neg h]
   obtain ⟨s1, s2⟩ := cZb n (lf n) n (bZk n (by omega)).1 (by omega) (Nat.le_refl n)
   have := (dZZ (by omega) s1 s2).1
   rw [hZt f g _ (by omega) (by omega)]
theorem fZo {n : Nat} (h : n < 2) : pw n = [] := by
 unfold pw; cases n with
 | zero => rfl
 | succ n => unfold pwF; rw [if_pos h]
theorem gZA {n r e : Nat} (h : 2 ≤ n) (he : n = r * lf n ^ e) (hr : ¬ lf n ∣ r) : pw n = (lf n, e) :: pw r := by
 obtain ⟨s1, s2⟩ := cZb n (lf n) n (bZk n (by omega)).1 (by omega) (Nat.le_refl n)
 obtain ⟨u1, u2⟩ := fZL (bZk n h).1 (s1.symm.trans he) s2 hr
 have hlt := dZZ h he hr
 obtain ⟨k, hk⟩ : ∃ k, n = k + 1 := ⟨n - 1, by omega⟩
 have : pwF n n = (lf n, (cZW n (lf n) n).2) :: pwF k (cZW n (lf n) n).1 := by
  conv => lhs; rw [show pwF n n = pwF (k + 1) n by rw [← hk]]
  rw [pwF, if_neg (by omega)]
 unfold pw
 rw [this, u1, u2, hZt k r r (by omega) (Nat.le_refl r)]
def mZq (l : List (Nat × Nat)) : List Nat := l.flatMap fun x => List.replicate x.2 x.1
def FInv (L : List (Nat × Nat)) (m N : Nat) : Prop := 1 ≤ m ∧ L ++ pw m = pw N ∧ 2 ^ L.length * m ≤ N ∧ ∀ x ∈ L, x.1 ≤ N ∧ 2 ≤ x.1 ∧ 1 ≤ x.2 ∧ x.1 ^ x.2 ≤ N
theorem FInv.start (N : Nat) (h : 1 ≤ N) : FInv [] N N := ⟨h, rfl, by simp, by simp⟩
theorem FInv.step {L : List (Nat × Nat)} {m N r e : Nat} (hI : FInv L m N) (hm : 2 ≤ m) (he : m = r * lf m ^ e) (hr : ¬ lf m ∣ r) : FInv (L ++ [(lf m, e)]) r N := by
 obtain ⟨h1, h2, h3, h4⟩ := hI
 obtain ⟨q1, q2, q3⟩ := dZZ hm he hr
 have hpos : 1 ≤ 2 ^ L.length := dZL (Nat.le_refl 2) _
 have hmN : m ≤ N := by have := Nat.mul_le_mul_right m hpos; omega
 refine ⟨q2, ?_, ?_, ?_⟩
 ·rw [List.append_assoc, ← h2, gZA hm he hr]; rfl
 ·rw [List.length_append, List.length_singleton, Nat.pow_succ, Nat.mul_assoc]
  refine Nat.le_trans (Nat.mul_le_mul_left _ ?_) h3
  have h2e : 2 ≤ lf m ^ e := by
   have := Nat.pow_le_pow_right (show 0 < lf m by have := (bZk m hm).1; omega) q3
   rw [Nat.pow_one] at this; have := (bZk m hm).1; omega
  have := Nat.mul_le_mul_left r h2e
  omega
 ·intro x hx
  rcases List.mem_append.1 hx with hx | hx
  ·exact h4 x hx
  ·rw [List.mem_singleton] at hx
   subst hx
   refine ⟨by have := lf_le m hm; show lf m ≤ N; omega, (bZk m hm).1, q3, ?_⟩
   show lf m ^ e ≤ N
   have := Nat.mul_le_mul_right (lf m ^ e) q2
   omega
theorem FInv.len {L : List (Nat × Nat)} {m N : Nat} (hI : FInv L m N) (hN : N ≤ 2147483647) : L.length ≤ 30 := by
 obtain ⟨h1, _, h3, _⟩ := hI
 rcases Nat.lt_or_ge 30 L.length with h | h
 ·have := Nat.pow_le_pow_right (show 0 < 2 by omega) h
  have h5 : 2 ^ 31 ≤ 2 ^ L.length * m := Nat.le_trans this (Nat.le_mul_of_pos_right _ h1)
  have : (2 : Nat) ^ 31 = 2147483648 := by decide
  omega
 ·exact h
theorem FInv.done {L : List (Nat × Nat)} {m N : Nat} (hI : FInv L m N) (h : m < 2) : L = pw N := by
 have := hI.2.1
 rwa [fZo h, List.append_nil] at this
end Go.Proofs.YtdieokoenhncfaaGreatDoor.Num
namespace Go.Proofs.YtdieokoenhncfaaGreatDoor
open Go.RowKit Num
theorem Tab.below {w w' : World} (h : Tab w) (hb : Below w.heap.size w w') : Tab w' := by
 obtain ⟨tt, fr, h⟩ := h
 refine ⟨tt, fr, ?_⟩
 rw [hb.block _ ?_]; exact h
 exact (Array.getElem?_eq_some_iff.1 h).1
end Go.Proofs.YtdieokoenhncfaaGreatDoor
namespace Go.Proofs.YtdieokoenhncfaaGreatDoor
open Go.RowKit Num
theorem eZm (k : Nat) (x : Int) : aZT (List.replicate k x) = x ^ k := by
 induction k with
 | zero => simp [aZT]
 | succ k ih => rw [List.replicate_succ, aZT, ih, Int.pow_succ, Int.mul_comm]
def kl (a : Int) (L : List (Nat × Nat)) : Int := aZT ((mZq L).map (ps a))
theorem kl_nil (a : Int) : kl a [] = 1 := rfl
theorem kl_cons (a : Int) (p e : Nat) (L : List (Nat × Nat)) : kl a ((p, e) :: L) = ps a p ^ e * kl a L := by
 unfold kl mZq
 rw [List.flatMap_cons, List.map_append, dZB, List.map_replicate, eZm]
def SInv (a : Int) (s : Int) (k : Nat) (p : Nat) (L : List (Nat × Nat)) (n : Int) : Prop := s * (ps a p ^ k * kl a L) = krZ a n
theorem SInv.step {a s : Int} {k p : Nat} {L : List (Nat × Nat)} {n : Int} (h : SInv a s (k + 1) p L n) : SInv a (s * ps a p) k p L n := by
 unfold SInv at *
 rw [Int.pow_succ, Int.mul_comm (ps a p ^ k)] at h
 rw [Int.mul_assoc, ← Int.mul_assoc (ps a p), h]
def SOut (a : Int) (s : Int) (L : List (Nat × Nat)) (n : Int) : Prop := s * kl a L = krZ a n
theorem SOut.open {a s : Int} {p e : Nat} {L : List (Nat × Nat)} {n : Int} (h : SOut a s ((p, e) :: L) n) : SInv a s e p L n := by
 unfold SOut at h; unfold SInv; rwa [kl_cons] at h
theorem SOut.done {a s n : Int} (h : SOut a s [] n) : krZ a n = s := by
 unfold SOut at h; rw [kl_nil, Int.mul_one] at h; exact h.symm
end Go.Proofs.YtdieokoenhncfaaGreatDoor
/- Plain number theory: squarefree parts, discriminants. -/
namespace Go.Proofs.YtdieokoenhncfaaGreatDoor.Num
def SF (m : Nat) : Prop := ∀ d, d * d ∣ m → d = 1
def SqF (n s : Int) (r : Nat) : Prop := n = s * (r * r : Nat) ∧ n ≠ 0 ∧ SF s.natAbs
theorem SqF.pos {n s : Int} {r : Nat} (h : SqF n s r) : 1 ≤ r ∧ s ≠ 0 := by
 obtain ⟨h1, h2, _⟩ := h
 refine ⟨?_, ?_⟩
 ·rcases Nat.eq_zero_or_pos r with h0 | h0
  ·subst h0; simp at h1; exact absurd h1 h2
  ·exact h0
 ·rintro rfl; simp at h1; exact h2 h1
theorem SqF.abs {n s : Int} {r : Nat} (h : SqF n s r) : n.natAbs = s.natAbs * (r * r) := by
 rw [h.1, Int.natAbs_mul]; rfl
theorem SF.unique {a b r u : Nat} (ha : SF a) (hb : SF b) (hr : 1 ≤ r) (h : a * (r * r) = b * (u * u)) : a = b ∧ r = u := by
 obtain ⟨g, hg⟩ : ∃ g, Nat.gcd r u = g := ⟨_, rfl⟩
 have hgpos : 0 < g := hg ▸ Nat.gcd_pos_of_pos_left u hr
 obtain ⟨x, hx⟩ := hg ▸ Nat.gcd_dvd_left r u
 obtain ⟨y, hy⟩ := hg ▸ Nat.gcd_dvd_right r u
 have hc : Nat.Coprime x y := by
  have h1 : Nat.gcd (g * x) (g * y) = g * Nat.gcd x y := Nat.gcd_mul_left g x y
  rw [← hx, ← hy, hg] at h1
  have : g * 1 = g * Nat.gcd x y := by omega
  exact (Nat.eq_of_mul_eq_mul_left hgpos this).symm
 have e : a * (x * x) = b * (y * y) := by
  have h1 : (g * g) * (a * (x * x)) = (g * g) * (b * (y * y)) := by
   rw [hx, hy] at h
   have p1 : (g * g) * (a * (x * x)) = a * (g * x * (g * x)) := by
    rw [Nat.mul_mul_mul_comm g x g x, Nat.mul_left_comm]
   have p2 : (g * g) * (b * (y * y)) = b * (g * y * (g * y)) := by
    rw [Nat.mul_mul_mul_comm g y g y, Nat.mul_left_comm]
   rw [p1, p2, h]
  exact Nat.eq_of_mul_eq_mul_left (Nat.mul_pos hgpos hgpos) h1
 have hcc : Nat.Coprime (x * x) (y * y) := Nat.Coprime.mul_right (Nat.Coprime.mul_left hc hc) (Nat.Coprime.mul_left hc hc)
 have d1 : x * x ∣ b := hcc.dvd_of_dvd_mul_right (e ▸ Nat.dvd_mul_left (x * x) a)
 have d2 : y * y ∣ a := hcc.symm.dvd_of_dvd_mul_right (e ▸ Nat.dvd_mul_left (y * y) b)
 have hx1 := hb x d1
 have hy1 := ha y d2
 subst hx1 hy1
 exact ⟨by omega, by omega⟩
theorem SqF.unique {n s t : Int} {r u : Nat} (h1 : SqF n s r) (h2 : SqF n t u) : s = t ∧ r = u := by
 have e : s.natAbs * (r * r) = t.natAbs * (u * u) := h1.abs.symm.trans h2.abs
 obtain ⟨e1, e2⟩ := SF.unique h1.2.2 h2.2.2 h1.pos.1 e
 subst e2
 refine ⟨?_, rfl⟩
 have := h1.1.symm.trans h2.1
 exact Int.eq_of_mul_eq_mul_right (by have := Nat.mul_pos h1.pos.1 h1.pos.1; omega) this
def sOf (L : List (Nat × Nat)) : Nat := aZX (L.map fun x => if x.2 % 2 = 1 then x.1 else 1)
def rOf (L : List (Nat × Nat)) : Nat := aZX (L.map fun x => x.1 ^ (x.2 / 2))
def pOf (L : List (Nat × Nat)) : Nat := aZX (L.map fun x => x.1 ^ x.2)
theorem sr_one (p e : Nat) : p ^ e = (if e % 2 = 1 then p else 1) * (p ^ (e / 2) * p ^ (e / 2)) := by
 rw [← Nat.pow_add]
 by_cases h : e % 2 = 1
 ·rw [if_pos h, Nat.mul_comm, ← Nat.pow_succ]; congr 1; omega
 ·rw [if_neg h, Nat.one_mul]; congr 1; omega
theorem pOf_sr (L : List (Nat × Nat)) : pOf L = sOf L * (rOf L * rOf L) := by
 induction L with
 | nil => simp [pOf, sOf, rOf, aZX]
 | cons x l ih =>
  simp only [pOf, sOf, rOf, List.map_cons, aZX] at *
  rw [ih, sr_one x.1 x.2]
  generalize (if x.2 % 2 = 1 then x.1 else 1) = A
  generalize x.1 ^ (x.2 / 2) = B
  generalize aZX (l.map fun x => if x.2 % 2 = 1 then x.1 else 1) = C
  generalize aZX (l.map fun x => x.1 ^ (x.2 / 2)) = D
  rw [Nat.mul_mul_mul_comm A (B * B) C (D * D), Nat.mul_mul_mul_comm B B D D]
theorem pOf_pw (n : Nat) (h : 1 ≤ n) : pOf (pw n) = n := by
 induction n using Nat.strongRecOn with
 | _ n ih =>
  by_cases h2 : n < 2
  ·rw [fZo h2]; simp [pOf, aZX]; omega
  ·obtain ⟨s1, s2⟩ := cZb n (lf n) n (bZk n (by omega)).1 (by omega) (Nat.le_refl n)
   have hlt := dZZ (by omega) s1 s2
   rw [gZA (by omega) s1 s2]
   have := ih _ hlt.1 hlt.2.1
   simp only [pOf, List.map_cons, aZX] at this ⊢
   rw [this, Nat.mul_comm]; exact s1.symm
theorem jZs (n : Nat) (h : 1 ≤ n) : (∀ x ∈ pw n, Pr x.1 ∧ x.1 ∣ n) ∧ (pw n).Pairwise (fun x y => x.1 < y.1) := by
 induction n using Nat.strongRecOn with
 | _ n ih =>
  by_cases h2 : n < 2
  ·rw [fZo h2]; exact ⟨by simp, List.Pairwise.nil⟩
  ·obtain ⟨s1, s2⟩ := cZb n (lf n) n (bZk n (by omega)).1 (by omega) (Nat.le_refl n)
   have hlt := dZZ (by omega) s1 s2
   obtain ⟨i1, i2⟩ := ih _ hlt.1 hlt.2.1
   have hdv : (cZW n (lf n) n).1 ∣ n := ⟨lf n ^ (cZW n (lf n) n).2, s1⟩
   rw [gZA (by omega) s1 s2]
   refine ⟨?_, ?_⟩
   ·intro x hx
    rcases List.mem_cons.1 hx with rfl | hx
    ·exact ⟨lZo n (by omega), (bZk n (by omega)).2.1⟩
    ·exact ⟨(i1 x hx).1, Nat.dvd_trans (i1 x hx).2 hdv⟩
   ·rw [List.pairwise_cons]
    refine ⟨fun y hy => ?_, i2⟩
    show lf n < y.1
    have hy1 := i1 y hy
    rcases Nat.lt_trichotomy (lf n) y.1 with hl | hl | hl
    ·exact hl
    ·exact absurd (hl ▸ hy1.2) s2
    ·exact absurd (Nat.dvd_trans hy1.2 hdv) ((bZk n (by omega)).2.2 _ hy1.1.1 hl)
theorem gZ2 : ∀ {P : List Nat}, (∀ q ∈ P, Pr q) → P.Nodup → SF (aZX P)
 | P, hP, hn, d, hd => by
  rcases Nat.lt_or_ge d 2 with h | h
  ·rcases Nat.eq_zero_or_pos d with h0 | h0
   ·subst h0
    have := Nat.eq_zero_of_zero_dvd (by simpa using hd)
    have := fZY hP
    omega
   ·omega
  ·obtain ⟨_, hq, _⟩ := bZk d h
   have hqp := lZo d h
   have hqq : lf d * lf d ∣ aZX P := Nat.dvd_trans (Nat.mul_dvd_mul hq hq) hd
   have hm : lf d ∈ P := hqp.mem_of_dvd hP (Nat.dvd_trans (Nat.dvd_mul_right _ _) hqq)
   have hperm := List.perm_cons_erase hm
   rw [eZJ hperm] at hqq
   have h2 : lf d ∣ aZX (P.erase (lf d)) := Nat.dvd_of_mul_dvd_mul_left (by have := hqp.1; omega) hqq
   have hm2 := hqp.mem_of_dvd (fun q hq => hP q (List.mem_of_mem_erase hq)) h2
   have := (hperm.nodup_iff).1 hn
   rw [List.nodup_cons] at this
   exact absurd hm2 this.1
theorem iZm (L : List (Nat × Nat)) : sOf L = aZX ((L.filter fun x => x.2 % 2 = 1).map (·.1)) := by
 unfold sOf
 induction L with
 | nil => rfl
 | cons x l ih =>
  by_cases h : x.2 % 2 = 1
  ·simp [aZX, h, ih]
  ·simp [aZX, h, ih]
theorem sOf_sf (n : Nat) (h : 1 ≤ n) : SF (sOf (pw n)) := by
 obtain ⟨h1, h2⟩ := jZs n h
 rw [iZm]
 refine gZ2 ?_ ?_
 ·intro q hq
  obtain ⟨x, hx, rfl⟩ := List.mem_map.1 hq
  exact (h1 x (List.mem_filter.1 hx).1).1
 ·rw [List.nodup_iff_pairwise_ne, List.pairwise_map]
  exact (h2.filter _).imp fun hlt => by omega
def sfS (n : Int) : Int := (if n < 0 then -1 else 1) * (sOf (pw n.natAbs) : Nat)
def sfR (n : Int) : Nat := rOf (pw n.natAbs)
theorem sf_ok (n : Int) (h : n ≠ 0) : SqF n (sfS n) (sfR n) := by
 have e := pOf_pw n.natAbs (by omega)
 rw [pOf_sr] at e
 refine ⟨?_, h, ?_⟩
 ·unfold sfS sfR
  rw [Int.mul_assoc]
  rw [show ((sOf (pw n.natAbs) : Nat) : Int) * ((rOf (pw n.natAbs) * rOf (pw n.natAbs) : Nat) : Int) = ((sOf (pw n.natAbs) * (rOf (pw n.natAbs) * rOf (pw n.natAbs)) : Nat) : Int) by simp, e]
  split <;> omega
 ·have : (sfS n).natAbs = sOf (pw n.natAbs) := by unfold sfS; split <;> omega
  rw [this]
  exact sOf_sf _ (by omega)
end Go.Proofs.YtdieokoenhncfaaGreatDoor.Num
namespace Go.Proofs.YtdieokoenhncfaaGreatDoor
open Go.RowKit Num
def QInv (n x : Int) (r d : Nat) : Prop := n = x * (r * r : Nat) ∧ n ≠ 0 ∧ ∀ t, 2 ≤ t → t < d → ¬ t * t ∣ x.natAbs
theorem QInv.pos {n x : Int} {r d : Nat} (h : QInv n x r d) : 1 ≤ r ∧ x ≠ 0 ∧ x.natAbs ≤ n.natAbs ∧ r ≤ n.natAbs := by
 obtain ⟨h1, h2, _⟩ := h
 have hr : 1 ≤ r := by
  rcases Nat.eq_zero_or_pos r with h0 | h0
  ·subst h0; simp at h1; exact absurd h1 h2
  ·exact h0
 have hx : x ≠ 0 := by rintro rfl; simp at h1; exact h2 h1
 have e : n.natAbs = x.natAbs * (r * r) := by rw [h1, Int.natAbs_mul]; rfl
 have p1 := Nat.le_mul_of_pos_right x.natAbs (Nat.mul_pos hr hr)
 have p2 := Nat.le_mul_of_pos_left (r * r) (show 0 < x.natAbs by omega)
 have p3 := Nat.le_mul_of_pos_left r hr
 exact ⟨hr, hx, by omega, by omega⟩
theorem QInv.fin {n x : Int} {r d : Nat} (h : QInv n x r d) (hd : x.natAbs < d * d) : sfS n = x ∧ sfR n = r := by
 have hx := h.pos.2.1
 refine (sf_ok n h.2.1).unique ⟨h.1, h.2.1, fun t ht => ?_⟩
 rcases Nat.lt_or_ge t 2 with h2 | h2
 ·rcases Nat.eq_zero_or_pos t with h0 | h0
  ·subst h0
   simp at ht
   exact absurd ht hx
  ·omega
 ·rcases Nat.lt_or_ge t d with h3 | h3
  ·exact absurd ht (h.2.2 t h2 h3)
  ·have := Nat.le_of_dvd (by omega) ht
   have := Nat.mul_le_mul h3 h3
   omega
theorem QInv.next {n x : Int} {r d : Nat} (h : QInv n x r d) (hd : ¬ d * d ∣ x.natAbs) : QInv n x r (d + 1) :=
 ⟨h.1, h.2.1, fun t h2 h3 => by
  by_cases e : t = d
  ·subst e; exact hd
  ·exact h.2.2 t h2 (by omega)⟩
end Go.Proofs.YtdieokoenhncfaaGreatDoor
/- Power sums of the program: natural.add, natural.scale, powerSums. -/
namespace Go.Proofs.YtdieokoenhncfaaGreatDoor
open Go.RowKit Limb Num
instance crowz_int : CRowZ Tryz.prog 34 2 [.bool false, .slice none 0 0] 32 := ⟨by kernel_rfl, rfl, rfl⟩
def ScInv (X : List Nat) (a i : Nat) (O : List Nat) (c : Nat) : Prop := O.length = i ∧ Lm O ∧ c < B ∧ val O + B ^ i * c = val (X.take i) * a
theorem ScInv.step {X : List Nat} {a i x : Nat} {O : List Nat} {c : Nat} (hX : Lm X) (ha : a < 2147483648) (hx : X[i]? = some x) (h : ScInv X a i O c) : ScInv X a (i + 1) (O ++ [(c + x * a) % B]) ((c + x * a) / B) ∧ c + x * a < 18446744073709551616 := by
 obtain ⟨h1, h2, h3, h4⟩ := h
 have hxB := hX.get hx
 have hm : x * a ≤ 4294967295 * 2147483647 := Nat.mul_le_mul (by rw [aZ0] at hxB; omega) (by omega)
 have hlt : c + x * a < 18446744073709551616 := by rw [aZ0] at h3; omega
 refine ⟨⟨by simp [h1], bZu h2 (Nat.mod_lt _ aZI), ?_, ?_⟩, hlt⟩
 ·rw [Nat.div_lt_iff_lt_mul aZI, aZ0]; omega
 ·rw [aZV, h1, aZr, hx, Option.getD_some, Nat.add_mul, ← h4]
  have e := Nat.div_add_mod (c + x * a) B
  have : B ^ i * (c + x * a) = B ^ i * (B * ((c + x * a) / B)) + B ^ i * ((c + x * a) % B) := by rw [← Nat.mul_add, e]
  rw [Nat.pow_succ, Nat.mul_assoc, Nat.mul_assoc (B ^ i) x a]
  rw [Nat.mul_add] at this
  omega
section
variable (En : Ev)
end
def acc (s d : Int) (j : Nat) : Nat → Nat
 | 0 => 0
 | m + 1 => acc s d j m + (if krZ d ((m + 1 : Nat) : Int) = s then (m + 1) ^ j else 0)
theorem cZf {f : Nat → List Pd} {k : Nat} (hf : ∀ i, (f i).length = k) : ∀ {n j : Nat}, j < n → ∃ Lo Hi, Lo.length = j * k ∧ rows f n = Lo ++ (f j ++ Hi) ∧ ∀ g : Nat → List Pd, (∀ t, t ≠ j → g t = f t) → rows g n = Lo ++ (g j ++ Hi)
 | 0, _, h => by omega
 | n + 1, j, h => by
  by_cases e : j = n
  ·subst e
   refine ⟨rows f j, [], aZ3 hf j, by rw [aZ9]; simp, fun g hg => ?_⟩
   rw [aZ9, eZG (g := f) fun i hi => hg i (by omega)]; simp
  ·obtain ⟨Lo, Hi, h1, h2, h3⟩ := cZf hf (n := n) (j := j) (by omega)
   refine ⟨Lo, Hi ++ f n, h1, by rw [aZ9, h2]; simp, fun g hg => ?_⟩
   rw [aZ9, h3 g hg, hg n (fun h => e h.symm)]; simp
instance cbody48 : CBody Tryz.prog 48 := ⟨⟨_, Tryz.func48, rfl, by rfl⟩⟩
section
variable (En : Ev)
end
end Go.Proofs.YtdieokoenhncfaaGreatDoor
/- Fundamental discriminants and characters: the program's and the reference's. -/
namespace Go.Proofs.YtdieokoenhncfaaGreatDoor
open Go.RowKit Limb Num
def TabE : Ev := ⟨Tab, fun k => k = 1, fun w ⟨t, fr, h⟩ k hk => by subst hk; exact aZU h, fun w w' hk ⟨t, fr, h⟩ => ⟨t, fr, by rw [hk _ rfl]; exact h⟩⟩
instance cint_errno : CInt Tryz.prog 39 .i64 := ⟨Tryz.underlying39⟩
instance cbody85 : CBody Tryz.prog 85 := ⟨⟨_, Tryz.func85, rfl, by rfl⟩⟩
instance cbody165 : CBody Tryz.prog 165 := ⟨⟨_, Tryz.func165, rfl, by rfl⟩⟩
section
variable (En : Ev)
theorem gris (n : Int) : Fn Tryz.prog En 165 [ex (.int .i64 n)] (ex (.bool (isP n.toNat))) := by
 intro h w vs _ hh hv
 obtain ⟨v, rfl, h1⟩ := hv.one
 have h1 : v = .int .i64 n := h1
 subst h1
 exact (ris_any n w).mono fun _ _ ⟨he, hb⟩ => by subst he; subst hb; exact bZU hh (Below.refl _ _) rfl
end
end Go.Proofs.YtdieokoenhncfaaGreatDoor
/- Generalized Bernoulli numbers of the program. -/
namespace Go.Proofs.YtdieokoenhncfaaGreatDoor
open Go.RowKit Limb Num
section
variable {P : Program} {En : Ev} {n : Nat} {sl : Sl} {bx : Bx} {dst : Option Tmp} {ty : TypeId} {pos : String} {after : Array Edge} {guard : Option (Nat × Bool)}
end
theorem fZe {b : Nat} {r : Rat} (h : Sz b r) (n : Nat) : Sz (n * b + 1) (r ^ n) := by
 refine ⟨by rw [Rat.num_pow]; exact bZZ h.1, ?_⟩
 have := bZZ (n := n) h.2
 rw [Rat.den_pow]
 exact_mod_cast this
end Go.Proofs.YtdieokoenhncfaaGreatDoor
/- The diagonal factor of a local mass. Plain. -/
namespace Go.Proofs.YtdieokoenhncfaaGreatDoor
open Limb Num
def fct (p : Int) (c : Int) (e : Nat) : Rat := ((1 : Int) : Rat) - ((c : Int) : Rat) * (((p : Int) : Rat)⁻¹) ^ e
def dvs (p : Int) : Nat → Rat
 | 0 => ((2 : Int) : Rat)
 | k + 1 => dvs p k * fct p 1 (2 * (k + 1))
def grp (p : Int) : Nat → Rat
 | 0 => Rat.divInt 1 2
 | k + 1 => grp p k / (((1 : Int) : Rat) - (((p : Int) : Rat)⁻¹) ^ (2 * (k + 1)))
def dia (p : Int) (n : Nat) (c : Int) : Rat := if n = 0 then ((1 : Int) : Rat) else if n % 2 = 1 then ((1 : Int) : Rat) / dvs p ((n + 1) / 2 - 1) else ((1 : Int) : Rat) / (dvs p ((n + 1) / 2 - 1) * fct p c ((n + 1) / 2))
theorem pinv {p : Int} (hp : 2 ≤ p) (e : Nat) : (((p : Int) : Rat)⁻¹) ^ e * ((p ^ e : Int) : Rat) = 1 := by
 have h0 : ((p : Int) : Rat) ≠ 0 := by intro h; have := Rat.intCast_eq_zero_iff.1 h; omega
 induction e with
 | zero => rw [Rat.pow_zero, Int.pow_zero, Rat.one_mul]; rfl
 | succ e ih =>
  rw [Rat.pow_succ, Int.pow_succ, Rat.intCast_mul]
  have h1 : ((p : Int) : Rat)⁻¹ * ((p : Int) : Rat) = 1 := Rat.inv_mul_cancel _ h0
  generalize (((p : Int) : Rat)⁻¹) ^ e = a at *
  generalize ((p ^ e : Int) : Rat) = b at *
  generalize ((p : Int) : Rat)⁻¹ = c at *
  generalize ((p : Int) : Rat) = d at *
  grind
theorem hZv {p : Int} (hp : 2 ≤ p) : ∀ {e : Nat}, 1 ≤ e → 2 ≤ p ^ e
 | 0, h => by omega
 | 1, _ => by rw [Int.pow_succ, Int.pow_zero, Int.one_mul]; exact hp
 | e + 2, _ => by
  have := hZv hp (e := e + 1) (by omega)
  rw [Int.pow_succ]
  have h2 : 2 * 1 ≤ p ^ (e + 1) * p := Int.mul_le_mul this (by omega) (by omega) (by omega)
  omega
theorem eZT {p c : Int} (hp : 2 ≤ p) {e : Nat} (he : 1 ≤ e) (h1 : -1 ≤ c) (h2 : c ≤ 1) : fct p c e ≠ 0 := by
 intro h
 have hi := pinv hp e
 have hb := hZv hp he
 unfold fct at h
 have hk : ((p ^ e : Int) : Rat) = ((c : Int) : Rat) := by
  rw [show ((1 : Int) : Rat) = 1 from rfl] at h
  generalize (((p : Int) : Rat)⁻¹) ^ e = a at *
  generalize ((p ^ e : Int) : Rat) = b at *
  generalize ((c : Int) : Rat) = d at *
  grind
 have := Rat.intCast_inj.1 hk
 omega
theorem kZf (p : Int) (e : Nat) : fct p 1 e = ((1 : Int) : Rat) - (((p : Int) : Rat)⁻¹) ^ e := by
 unfold fct
 rw [show ((1 : Int) : Rat) = 1 from rfl, Rat.one_mul]
theorem gZk {p : Int} (hp : 2 ≤ p) : ∀ k, dvs p k ≠ 0
 | 0 => by show ((2 : Int) : Rat) ≠ 0; decide
 | k + 1 => by rw [dvs]; exact fun h => (Rat.mul_eq_zero.1 h).elim (gZk hp k) (eZT hp (by omega) (by omega) (by omega))
theorem fZz {p : Int} (hp : 2 ≤ p) : ∀ k, grp p k = ((1 : Int) : Rat) / dvs p k
 | 0 => by show Rat.divInt 1 2 = ((1 : Int) : Rat) / ((2 : Int) : Rat); decide +kernel
 | k + 1 => by
  have h1 := gZk hp k
  have h2 : fct p 1 (2 * (k + 1)) ≠ 0 := eZT hp (by omega) (by omega) (by omega)
  rw [grp, dvs, fZz hp k, ← kZf]
  generalize fct p 1 (2 * (k + 1)) = a at *
  generalize dvs p k = b at *
  rw [show ((1 : Int) : Rat) = 1 from rfl]
  grind
theorem lZA {p c : Int} (hp : 2 ≤ p) (h1 : -1 ≤ c) (h2 : c ≤ 1) {k : Nat} : ((1 : Int) : Rat) / (dvs p k * fct p c (k + 1)) = grp p k / fct p c (k + 1) := by
 have h3 := gZk hp k
 have h4 : fct p c (k + 1) ≠ 0 := eZT hp (by omega) h1 h2
 rw [fZz hp k]
 generalize fct p c (k + 1) = a at *
 generalize dvs p k = b at *
 rw [show ((1 : Int) : Rat) = 1 from rfl]
 grind
theorem fZg {p : Int} (h1 : 2 ≤ p) (h2 : p ≤ 9973) (e : Nat) : Sz (e * 2 + 1) ((((p : Int) : Rat)⁻¹) ^ e) := fZe (fZf (sz_z (z := p) (by omega) (by omega)) (by omega)) e
theorem sz_sub {a b : Nat} {r s : Rat} (h : Sz a r) (k : Sz b s) : Sz (a + b + 1) (r - s) := by rw [Rat.sub_eq_add_neg]; exact szq_add h (gZy k)
theorem eZ9 {p c : Int} (h1 : 2 ≤ p) (h2 : p ≤ 9973) (c1 : -1 ≤ c) (c2 : c ≤ 1) {e : Nat} (he : e ≤ 10) : Sz 30 (fct p c e) :=
 (sz_sub (sz_z (z := 1) (by omega) (by omega)) (bZP (sz_z (z := c) (by omega) (by omega)) (fZg h1 h2 e))).mono (by omega)
theorem eZA {p : Int} (h1 : 2 ≤ p) (h2 : p ≤ 9973) : ∀ {k : Nat}, k ≤ 4 → Sz (k * 30 + 2) (dvs p k)
 | 0, _ => sz_z (by omega) (by omega)
 | k + 1, h => (bZP (eZA h1 h2 (k := k) (by omega)) (eZ9 h1 h2 (c := 1) (by omega) (by omega) (by omega))).mono (by omega)
theorem iZT {a b : Nat} {r s : Rat} (h : Sz a r) (k : Sz b s) (hb : 1 ≤ b) : Sz (a + b) (r / s) := by rw [Rat.div_def]; exact bZP h (fZf k hb)
theorem mZp {p : Int} (h1 : 2 ≤ p) (h2 : p ≤ 9973) {k : Nat} (hk : k ≤ 4) : Sz 130 (grp p k) := by
 rw [fZz h1]
 exact (iZT (sz_z (z := 1) (by omega) (by omega)) (eZA h1 h2 hk) (by omega)).mono (by omega)
theorem iZU {p c : Int} (h1 : 2 ≤ p) (h2 : p ≤ 9973) (c1 : -1 ≤ c) (c2 : c ≤ 1) {n : Nat} (hn : n ≤ 9) : Sz 200 (dia p n c) := by
 unfold dia
 split
 ·exact (sz_z (z := 1) (by omega) (by omega)).mono (by omega)
 ·split
  ·exact (iZT (sz_z (z := 1) (by omega) (by omega)) (eZA h1 h2 (k := (n + 1) / 2 - 1) (by omega)) (by omega)).mono (by omega)
  ·exact (iZT (sz_z (z := 1) (by omega) (by omega)) (bZP (eZA h1 h2 (k := (n + 1) / 2 - 1) (by omega)) (eZ9 h1 h2 c1 c2 (e := (n + 1) / 2) (by omega))) (by omega)).mono (by omega)
end Go.Proofs.YtdieokoenhncfaaGreatDoor

/- Plain arithmetic: lists of limbs of 32 bits, the least significant first. -/
import Derived.Test.YtfmjdlogjmofbaaGreatDoorW
namespace Go.Proofs.YtfmjdlogjmofbaaGreatDoor.Limb
def B : Nat := 4294967296
theorem aZv : B = 4294967296 := rfl
theorem aZY : 0 < B := by decide
def val : List Nat → Nat
 | [] => 0
 | x :: l => x + B * val l
def Lm (l : List Nat) : Prop := ∀ x ∈ l, x < B
theorem Lm.nil : Lm [] := by simp [Lm]
theorem Lm.cons {x : Nat} {l : List Nat} (hx : x < B) (hl : Lm l) : Lm (x :: l) := by
 intro y hy
 rcases List.mem_cons.1 hy with rfl | hy
 ·exact hx
 ·exact hl y hy
theorem Lm.head {x : Nat} {l : List Nat} (h : Lm (x :: l)) : x < B := h x (by simp)
theorem Lm.tail {x : Nat} {l : List Nat} (h : Lm (x :: l)) : Lm l := fun y hy => h y (by simp [hy])
theorem Lm.append {a b : List Nat} (ha : Lm a) (hb : Lm b) : Lm (a ++ b) := by
 intro y hy
 rcases List.mem_append.1 hy with h | h
 ·exact ha y h
 ·exact hb y h
theorem Lm.sub {a b : List Nat} (hb : Lm b) (h : ∀ x ∈ a, x ∈ b) : Lm a := fun x hx => hb x (h x hx)
theorem Lm.take {l : List Nat} (h : Lm l) (n : Nat) : Lm (l.take n) := h.sub fun _ hx => List.mem_of_mem_take hx
theorem Lm.drop {l : List Nat} (h : Lm l) (n : Nat) : Lm (l.drop n) := h.sub fun _ hx => List.mem_of_mem_drop hx
theorem Lm.get {l : List Nat} (h : Lm l) {i x : Nat} (hx : l[i]? = some x) : x < B := h x (List.mem_of_getElem? hx)
theorem bZl (a b : List Nat) : val (a ++ b) = val a + B ^ a.length * val b := by
 induction a with
 | nil => simp [val]
 | cons x l ih => simp only [List.cons_append, val, ih, List.length_cons, Nat.pow_succ, Nat.mul_add]; rw [Nat.mul_comm (B ^ l.length) B, Nat.mul_assoc]; omega
theorem bZ2 {l : List Nat} (h : Lm l) : val l < B ^ l.length := by
 induction l with
 | nil => simp [val]
 | cons x l ih =>
  have h1 := ih h.tail
  have h2 := h.head
  simp only [val, List.length_cons, Nat.pow_succ]
  have : B * (val l + 1) ≤ B * B ^ l.length := Nat.mul_le_mul_left _ h1
  rw [Nat.mul_comm (B ^ l.length)]
  rw [Nat.mul_add] at this
  omega
theorem lZn (n : Nat) : val (List.replicate n 0) = 0 := by
 induction n with
 | zero => rfl
 | succ n ih => rw [List.replicate_succ, val, ih]; rfl
def digF : Nat → Nat → List Nat
 | 0, _ => []
 | f + 1, n => if n = 0 then [] else n % B :: digF f (n / B)
def digs (n : Nat) : List Nat := digF n n
theorem iZa : ∀ (f g n : Nat), n ≤ f → n ≤ g → digF f n = digF g n
 | 0, 0, _, _, _ => rfl
 | 0, g + 1, n, h, _ => by unfold digF; rw [if_pos oM]
 | f + 1, 0, n, _, h => by unfold digF; rw [if_pos oM]
 | f + 1, g + 1, n, h1, h2 => by
  unfold digF
  by_cases h : n = 0
  ·rw [if_pos h, if_pos h]
  ·rw [if_neg h, if_neg h]
   have : n / B < n := Nat.div_lt_self oM aD
   rw [iZa f g _ oM oM]
theorem bZz : digs 0 = [] := rfl
theorem aZR {n : Nat} (h : n ≠ 0) : digs n = n % B :: digs (n / B) := by
 obtain ⟨k, rfl⟩ : ∃ k, n = k + 1 := ⟨n - 1, oM⟩
 have : (k + 1) / B < k + 1 := Nat.div_lt_self oM aD
 show digF (k + 1) (k + 1) = _
 rw [digF, if_neg oM]
 unfold digs
 rw [iZa k _ _ oM (Nat.le_refl _)]
theorem nZa (n : Nat) : val (digs n) = n ∧ Lm (digs n) := by
 induction n using Nat.strongRecOn with
 | _ n ih =>
  by_cases h : n = 0
  ·subst h; exact ⟨rfl, Lm.nil⟩
  ·have hlt : n / B < n := Nat.div_lt_self oM aD
   obtain ⟨h1, h2⟩ := ih _ hlt
   rw [aZR h]
   exact ⟨by simp only [val]; rw [h1]; exact Nat.mod_add_div n B, Lm.cons (Nat.mod_lt _ aZY) h2⟩
theorem aZi (n : Nat) : val (digs n) = n := (nZa n).1
theorem aZg (n : Nat) : Lm (digs n) := (nZa n).2
theorem hZZ {x n : Nat} (hx : x < B) (h : x + B * n ≠ 0) : digs (x + B * n) = x :: digs n := by
 rw [aZR h]
 have e1 : (x + B * n) % B = x := by rw [Nat.add_mul_mod_self_left, Nat.mod_eq_of_lt hx]
 have e2 : (x + B * n) / B = n := by rw [Nat.add_mul_div_left _ _ aZY, Nat.div_eq_of_lt hx, Nat.zero_add]
 rw [e1, e2]
theorem aZw {n k : Nat} (h : n < B ^ k) : (digs n).length ≤ k := by
 induction k generalizing n with
 | zero => simp at h; subst h; simp [bZz]
 | succ k ih =>
  by_cases h0 : n = 0
  ·subst h0; simp [bZz]
  ·rw [aZR h0, List.length_cons]
   have : n / B < B ^ k := Nat.div_lt_of_lt_mul (by rw [Nat.pow_succ] at h; rw [Nat.mul_comm]; exact h)
   have := ih this
   omega
theorem aZV (n : Nat) : n < B ^ (digs n).length := by
 have := bZ2 (aZg n)
 rwa [aZi] at this
theorem aZS {a b : Nat} (h : a ≤ b) : (digs a).length ≤ (digs b).length := aZw (Nat.lt_of_le_of_lt h (aZV b))
theorem oZW (a b : Nat) : (digs (a * b)).length ≤ (digs a).length + (digs b).length :=
 aZw (by rw [Nat.pow_add]; exact Nat.mul_lt_mul'' (aZV a) (aZV b))
theorem oZY (a b : Nat) : (digs (a + b)).length ≤ max (digs a).length (digs b).length + 1 := by
 refine aZw ?_
 have h1 := aZV a
 have h2 := aZV b
 have p1 := Nat.pow_le_pow_right aZY (Nat.le_max_left (digs a).length (digs b).length)
 have p2 := Nat.pow_le_pow_right aZY (Nat.le_max_right (digs a).length (digs b).length)
 rw [Nat.pow_succ]
 have : B ^ max (digs a).length (digs b).length * 2 ≤ B ^ max (digs a).length (digs b).length * B := Nat.mul_le_mul_left _ aD
 omega
theorem eZj {n x : Nat} (h : (digs n).getLast? = some x) : x ≠ 0 := by
 induction n using Nat.strongRecOn with
 | _ n ih =>
  by_cases h0 : n = 0
  ·subst h0; simp [bZz] at h
  ·rw [aZR h0] at h
   by_cases h1 : n / B = 0
   ·rw [h1, bZz, List.getLast?_singleton] at h
    have := Option.some.inj h
    have := Nat.mod_add_div n B
    rw [h1] at this
    omega
   ·have hlt : n / B < n := Nat.div_lt_self oM aD
    refine ih _ hlt ?_
    rw [aZR h1] at h ⊢
    rwa [List.getLast?_cons_cons] at h
theorem oZV {l : List Nat} (hl : Lm l) (h : ∀ x, l.getLast? = some x → x ≠ 0) : digs (val l) = l := by
 induction l with
 | nil => rfl
 | cons x l ih =>
  cases l with
  | nil =>
   have hx : x ≠ 0 := h x rfl
   have := hZZ (n := 0) hl.head (by simpa using hx)
   rw [bZz] at this
   simpa [val] using this
  | cons y t =>
   have h' : ∀ z, (y :: t).getLast? = some z → z ≠ 0 := fun z hz => h z (by simpa using hz)
   have i := ih hl.tail h'
   have hne : val (y :: t) ≠ 0 := by
    intro h0
    rw [h0, bZz] at i
    cases i
   show digs (x + B * val (y :: t)) = _
   rw [hZZ hl.head (by have := Nat.mul_pos aZY (Nat.pos_of_ne_zero hne); omega), i]
theorem nZS {l : List Nat} {k : Nat} (h : ∀ i x, k ≤ i → l[i]? = some x → x = 0) : val (l.take k) = val l := by
 have hz : ∀ {l : List Nat}, (∀ x ∈ l, x = 0) → val l = 0 := by
  intro l
  induction l with
  | nil => intro _; rfl
  | cons x l ih => intro h; rw [val, h x (by simp), ih fun y hy => h y (by simp [hy])]; rfl
 conv => rhs; rw [← List.take_append_drop k l, bZl]
 rw [hz (l := l.drop k)]
 ·simp
 ·intro x hx
  obtain ⟨i, hi⟩ := List.getElem?_of_mem hx
  rw [List.getElem?_drop] at hi
  exact h (k + i) x oM hi
theorem dZP {l : List Nat} {k : Nat} (hl : Lm l) (hk : k ≤ l.length) (h0 : ∀ i x, k ≤ i → l[i]? = some x → x = 0) (h1 : ∀ x, 0 < k → l[k - 1]? = some x → x ≠ 0) : l.take k = digs (val l) := by
 rw [← nZS h0]
 refine (oZV (hl.take k) fun x hx => ?_).symm
 rcases Nat.eq_zero_or_pos k with hz | hz
 ·subst hz; simp at hx
 ·refine h1 x hz ?_
  rw [List.getLast?_eq_getElem?, List.length_take, Nat.min_eq_left hk, List.getElem?_take_of_lt oM] at hx
  exact hx
theorem dZd {a b : List Nat} (ha : Lm a) (h : a.length < b.length) (hb : ∀ x, b.getLast? = some x → x ≠ 0) : val a < val b := by
 have h1 := bZ2 ha
 obtain ⟨i, z, rfl⟩ : ∃ i z, b = i ++ [z] := by
  have hne : b ≠ [] := by rintro rfl; simp at h
  exact ⟨b.dropLast, b.getLast hne, (List.dropLast_concat_getLast hne).symm⟩
 have hz : z ≠ 0 := hb z (by simp)
 rw [bZl]
 simp only [val, List.length_append, List.length_singleton] at *
 have p := Nat.pow_le_pow_right aZY (show a.length ≤ i.length by omega)
 have : B ^ i.length * 1 ≤ B ^ i.length * z := Nat.mul_le_mul_left _ oM
 have e : B ^ i.length * (z + B * 0) = B ^ i.length * z := by rw [Nat.mul_zero, Nat.add_zero]
 omega
theorem cZf {a b : List Nat} (hl : a.length = b.length) {k x y : Nat} (ha : Lm a) (hx : a[k]? = some x) (hy : b[k]? = some y) (hlt : x < y) (ht : a.drop (k + 1) = b.drop (k + 1)) : val a < val b := by
 have hk : k < a.length := (List.getElem?_eq_some_iff.1 hx).1
 have hk' : k < b.length := (List.getElem?_eq_some_iff.1 hy).1
 have ea : a = a.take k ++ (x :: a.drop (k + 1)) := by
  conv => lhs; rw [← List.take_append_drop k a, List.drop_eq_getElem_cons hk]
  rw [(List.getElem?_eq_some_iff.1 hx).2]
 have eb : b = b.take k ++ (y :: b.drop (k + 1)) := by
  conv => lhs; rw [← List.take_append_drop k b, List.drop_eq_getElem_cons hk']
  rw [(List.getElem?_eq_some_iff.1 hy).2]
 rw [ea, eb, bZl, bZl, ht]
 simp only [val, List.length_take]
 rw [Nat.min_eq_left oM, Nat.min_eq_left oM]
 have h1 := bZ2 (ha.take k)
 rw [List.length_take, Nat.min_eq_left oM] at h1
 generalize val (b.drop (k + 1)) = D
 have : B ^ k * (x + B * D) + B ^ k * 1 ≤ B ^ k * (y + B * D) := by
  rw [← Nat.mul_add]; exact Nat.mul_le_mul_left _ oM
 omega
end Go.Proofs.YtfmjdlogjmofbaaGreatDoor.Limb
namespace Go.Proofs.YtfmjdlogjmofbaaGreatDoor.Limb
theorem aZk (l : List Nat) (i : Nat) : val (l.take (i + 1)) = val (l.take i) + B ^ i * (l[i]?.getD 0) := by
 by_cases h : i < l.length
 ·rw [List.take_succ_eq_append_getElem h, bZl, List.length_take, Nat.min_eq_left oM, List.getElem?_eq_getElem h]
  simp [val]
 ·rw [List.take_of_length_le oM, List.take_of_length_le oM, List.getElem?_eq_none oM]
  simp
theorem cZ9 {l : List Nat} (h : Lm l) (i : Nat) : l[i]?.getD 0 < B := by
 cases hx : l[i]? with
 | none => exact aZY
 | some x => exact h.get hx
theorem bZB {l : List Nat} {x : Nat} (h : Lm l) (hx : x < B) : Lm (l ++ [x]) := h.append (Lm.cons hx Lm.nil)
theorem bZk (l : List Nat) (x : Nat) : val (l ++ [x]) = val l + B ^ l.length * x := by rw [bZl]; simp [val]
def SumInv (l1 l2 : List Nat) (i : Nat) (O : List Nat) (c : Nat) : Prop := O.length = i ∧ Lm O ∧ c ≤ 1 ∧ val O + B ^ i * c = val (l1.take i) + val (l2.take i)
theorem SumInv.start (l1 l2 : List Nat) : SumInv l1 l2 0 [] 0 := ⟨rfl, Lm.nil, oM, by simp [val]⟩
theorem SumInv.step {l1 l2 : List Nat} {i : Nat} {O : List Nat} {c : Nat} (h1 : Lm l1) (h2 : Lm l2) (h : SumInv l1 l2 i O c) :
  SumInv l1 l2 (i + 1) (O ++ [(c + l1[i]?.getD 0 + l2[i]?.getD 0) % B]) ((c + l1[i]?.getD 0 + l2[i]?.getD 0) / B) := by
 obtain ⟨a1, a2, a3, a4⟩ := h
 have b1 := cZ9 h1 i
 have b2 := cZ9 h2 i
 refine ⟨by simp [a1], bZB a2 (Nat.mod_lt _ aZY), ?_, ?_⟩
 ·rw [aZv] at *; omega
 ·rw [bZk, aZk, aZk, a1]
  generalize l1[i]?.getD 0 = x at *
  generalize l2[i]?.getD 0 = y at *
  have e := Nat.mod_add_div (c + x + y) B
  have : B ^ i * ((c + x + y) % B) + B ^ (i + 1) * ((c + x + y) / B) = B ^ i * (c + x + y) := by
   rw [Nat.pow_succ, Nat.mul_assoc, ← Nat.mul_add, e]
  rw [Nat.add_assoc, this, Nat.mul_add, Nat.mul_add]
  omega
theorem SumInv.done {l1 l2 : List Nat} {i : Nat} {O : List Nat} {c : Nat} (h : SumInv l1 l2 i O c) (h1 : l1.length ≤ i) (h2 : l2.length ≤ i) : Lm (O ++ [c]) ∧ val (O ++ [c]) = val l1 + val l2 := by
 obtain ⟨a1, a2, a3, a4⟩ := h
 refine ⟨bZB a2 (by rw [aZv]; omega), ?_⟩
 rw [bZk, a1, a4, List.take_of_length_le h1, List.take_of_length_le h2]
def DifInv (l1 l2 : List Nat) (i : Nat) (O : List Nat) (b : Nat) : Prop := O.length = i ∧ Lm O ∧ b ≤ 1 ∧ val O + val (l2.take i) = val (l1.take i) + B ^ i * b
theorem DifInv.start (l1 l2 : List Nat) : DifInv l1 l2 0 [] 0 := ⟨rfl, Lm.nil, oM, by simp [val]⟩
def difD (x y : Nat) : Nat := if x < y then x + B - y else x - y
def difB (x y : Nat) : Nat := if x < y then 1 else 0
theorem DifInv.step {l1 l2 : List Nat} {i : Nat} {O : List Nat} {b : Nat} (h1 : Lm l1) (h2 : Lm l2) (h : DifInv l1 l2 i O b) :
  DifInv l1 l2 (i + 1) (O ++ [difD (l1[i]?.getD 0) (b + l2[i]?.getD 0)]) (difB (l1[i]?.getD 0) (b + l2[i]?.getD 0)) := by
 obtain ⟨a1, a2, a3, a4⟩ := h
 have b1 := cZ9 h1 i
 have b2 := cZ9 h2 i
 refine ⟨by simp [a1], bZB a2 (by unfold difD; split <;> omega), by unfold difB; split <;> omega, ?_⟩
 rw [bZk, aZk, aZk, a1]
 generalize l1[i]?.getD 0 = x at *
 generalize l2[i]?.getD 0 = y at *
 have : B ^ i * difD x (b + y) + B ^ i * (b + y) = B ^ i * x + B ^ (i + 1) * difB x (b + y) := by
  rw [Nat.pow_succ, Nat.mul_assoc, ← Nat.mul_add, ← Nat.mul_add]
  congr 1
  unfold difD difB
  split <;> omega
 rw [Nat.mul_add] at this
 omega
theorem DifInv.done {l1 l2 : List Nat} {i : Nat} {O : List Nat} {b : Nat} (h : DifInv l1 l2 i O b) (h1 : l1.length ≤ i) (h2 : l2.length ≤ i) (hle : val l2 ≤ val l1) : Lm O ∧ val O = val l1 - val l2 := by
 obtain ⟨a1, a2, a3, a4⟩ := h
 refine ⟨a2, ?_⟩
 rw [List.take_of_length_le h1, List.take_of_length_le h2] at a4
 have := bZ2 a2
 rw [a1] at this
 rcases Nat.eq_zero_or_pos b with h0 | h0
 ·subst h0; omega
 ·have hb : b = 1 := oM
  subst hb; omega
end Go.Proofs.YtfmjdlogjmofbaaGreatDoor.Limb
namespace Go.Proofs.YtfmjdlogjmofbaaGreatDoor
open Limb
def sg3 (z : Int) : Int := if z = 0 then 0 else if z < 0 then -1 else 1
theorem kZ5 {s : Bool} {z : Int} {l : List Nat} (hz : z = if s then -(val l : Int) else (val l : Int)) :
  (val l = 0 ∧ sg3 z = 0) ∨ (0 < val l ∧ s = true ∧ sg3 z = -1) ∨ (0 < val l ∧ s = false ∧ sg3 z = 1) := by
 unfold sg3
 rcases Nat.eq_zero_or_pos (val l) with h | h
 ·left; refine ⟨h, ?_⟩; rw [if_pos]; rw [hz, h]; cases s <;> simp
 ·right
  cases s
  ·right; simp at hz; exact ⟨h, rfl, by rw [if_neg oM, if_neg oM]⟩
  ·left; simp at hz; exact ⟨h, rfl, by rw [if_neg oM, if_pos oM]⟩
def cmpL (a b : List Nat) : Int := if a.length < b.length then -1 else if b.length < a.length then 1 else if val a < val b then -1 else if val b < val a then 1 else 0
theorem bZY (a b : Nat) : cmpL (digs a) (digs b) = if a < b then -1 else if b < a then 1 else 0 := by
 unfold cmpL
 rw [aZi, aZi]
 have h1 := fun h : (digs a).length < (digs b).length => dZd (aZg a) h (fun x hx => eZj hx)
 have h2 := fun h : (digs b).length < (digs a).length => dZd (aZg b) h (fun x hx => eZj hx)
 rw [aZi, aZi] at h1 h2
 by_cases c1 : (digs a).length < (digs b).length
 ·rw [if_pos c1, if_pos (h1 c1)]
 ·rw [if_neg c1]
  by_cases c2 : (digs b).length < (digs a).length
  ·have := h2 c2
   rw [if_pos c2, if_neg oM, if_pos this]
  ·rw [if_neg c2]
theorem iZi (a : List Nat) : cmpL a a = 0 := by unfold cmpL; simp
end Go.Proofs.YtfmjdlogjmofbaaGreatDoor
namespace Go.Proofs.YtfmjdlogjmofbaaGreatDoor.Limb
def MulInv (R b : List Nat) (x j : Nat) (N : List Nat) (c : Nat) : Prop := N.length = j ∧ Lm N ∧ c < B ∧ val N + B ^ j * c = val (R.take j) + x * val (b.take j)
theorem MulInv.start (R b : List Nat) (x : Nat) : MulInv R b x 0 [] 0 := ⟨rfl, Lm.nil, aZY, by simp [val]⟩
theorem dZ6 {c x y r : Nat} (hc : c < B) (hx : x < B) (hy : y < B) (hr : r < B) : c + (x * y + r) < B * B ∧ x * y ≤ 18446744065119617025 := by
 have : x * y ≤ (B - 1) * (B - 1) := Nat.mul_le_mul oM oM
 rw [aZv] at *
 omega
theorem MulInv.step {R b : List Nat} {x j : Nat} {N : List Nat} {c y r : Nat} (hx : x < B) (hR : Lm R) (hb : Lm b) (hy : b[j]? = some y) (hr : R[j]? = some r) (h : MulInv R b x j N c) :
  MulInv R b x (j + 1) (N ++ [(c + (x * y + r)) % B]) ((c + (x * y + r)) / B) := by
 obtain ⟨a1, a2, a3, a4⟩ := h
 have hb1 := (dZ6 a3 hx (hb.get hy) (hR.get hr)).1
 refine ⟨by simp [a1], bZB a2 (Nat.mod_lt _ aZY), Nat.div_lt_of_lt_mul hb1, ?_⟩
 rw [bZk, aZk, aZk, a1, hy, hr, Option.getD_some, Option.getD_some]
 generalize ht : c + (x * y + r) = t
 have e := Nat.mod_add_div t B
 have : B ^ j * (t % B) + B ^ (j + 1) * (t / B) = B ^ j * t := by rw [Nat.pow_succ, Nat.mul_assoc, ← Nat.mul_add, e]
 rw [Nat.add_assoc, this, ← ht, Nat.mul_add, Nat.mul_add, Nat.mul_add]
 have e2 : x * (B ^ j * y) = B ^ j * (x * y) := by rw [← Nat.mul_assoc, Nat.mul_comm x, Nat.mul_assoc]
 rw [e2]
 omega
def ProdInv (a b : List Nat) (i : Nat) (Q : List Nat) : Prop := Q.length = i + b.length ∧ Lm Q ∧ val Q = val (a.take i) * val b
theorem ProdInv.start (a b : List Nat) : ProdInv a b 0 (List.replicate b.length 0) := ⟨by simp, fun x hx => by rw [(List.mem_replicate.1 hx).2]; exact aZY, by rw [lZn]; simp [val]⟩
theorem ProdInv.zero {a b : List Nat} {i : Nat} {Q : List Nat} (h : ProdInv a b i Q) (hx : a[i]? = some 0) : ProdInv a b (i + 1) (Q ++ [0]) := by
 obtain ⟨h1, h2, h3⟩ := h
 refine ⟨by simp [h1]; omega, bZB h2 aZY, ?_⟩
 rw [bZk, aZk, hx, Option.getD_some, Nat.mul_zero, Nat.mul_zero, Nat.add_zero, Nat.add_zero, h3]
theorem ProdInv.step {a b : List Nat} {i x : Nat} {Q N : List Nat} {c : Nat} (h : ProdInv a b i Q) (hx : a[i]? = some x) (hm : MulInv (Q.drop i) b x b.length N c) : ProdInv a b (i + 1) (Q.take i ++ N ++ [c]) := by
 obtain ⟨h1, h2, h3⟩ := h
 obtain ⟨a1, a2, a3, a4⟩ := hm
 have hl : (Q.take i).length = i := by simp; omega
 refine ⟨by simp [a1]; omega, bZB ((h2.take i).append a2) a3, ?_⟩
 rw [List.take_length] at a4
 have hd : (Q.drop i).take b.length = Q.drop i := List.take_of_length_le (by simp; omega)
 rw [hd] at a4
 have hQ : val Q = val (Q.take i) + B ^ i * val (Q.drop i) := by
  conv => lhs; rw [← List.take_append_drop i Q, bZl, hl]
 rw [bZl, bZl, List.length_append, hl, a1, aZk, hx, Option.getD_some, Nat.add_mul, ← h3, hQ]
 simp only [val, Nat.mul_zero, Nat.add_zero]
 rw [Nat.pow_add, Nat.mul_assoc (B ^ i) x, Nat.add_assoc, Nat.mul_assoc (B ^ i), ← Nat.mul_add, a4, Nat.mul_add]
 omega
theorem ProdInv.done {a b : List Nat} {Q : List Nat} (h : ProdInv a b a.length Q) : Lm Q ∧ val Q = val a * val b := ⟨h.2.1, by have := h.2.2; rwa [List.take_length] at this⟩
end Go.Proofs.YtfmjdlogjmofbaaGreatDoor.Limb
namespace Go.Proofs.YtfmjdlogjmofbaaGreatDoor.Limb
def pd : Nat → Nat → List Nat
 | _, 0 => []
 | n, k + 1 => n % B :: pd (n / B) k
theorem aZP : ∀ (n k : Nat), (pd n k).length = k
 | _, 0 => rfl
 | n, k + 1 => by simp [pd, aZP (n / B) k]
theorem fZn : ∀ (n k : Nat), Lm (pd n k)
 | _, 0 => Lm.nil
 | n, k + 1 => Lm.cons (Nat.mod_lt _ aZY) (fZn (n / B) k)
theorem dZ4 : ∀ (n k : Nat), n < B ^ k → val (pd n k) = n
 | n, 0, h => by simp at h; subst h; rfl
 | n, k + 1, h => by
  simp only [pd, val]
  rw [dZ4 (n / B) k (Nat.div_lt_of_lt_mul (by rw [Nat.pow_succ] at h; rw [Nat.mul_comm]; exact h))]
  exact Nat.mod_add_div n B
theorem gZF : ∀ {l : List Nat} {n k : Nat}, Lm l → val l = n → l.length = k → l = pd n k
 | [], n, k, _, _, hk => by simp at hk; subst hk; rfl
 | x :: l, n, k, hl, hv, hk => by
  subst hk hv
  have hx := hl.head
  show x :: l = (val (x :: l)) % B :: pd (val (x :: l) / B) l.length
  have e1 : val (x :: l) % B = x := by show (x + B * val l) % B = x; rw [Nat.add_mul_mod_self_left, Nat.mod_eq_of_lt hx]
  have e2 : val (x :: l) / B = val l := by show (x + B * val l) / B = val l; rw [Nat.add_mul_div_left _ _ aZY, Nat.div_eq_of_lt hx, Nat.zero_add]
  rw [e1, e2, ← gZF hl.tail rfl rfl]
theorem cZL {l : List Nat} {k x : Nat} (hx : l[k]? = some x) : val (l.drop k) = x + B * val (l.drop (k + 1)) := by
 have hk := (List.getElem?_eq_some_iff.1 hx).1
 rw [List.drop_eq_getElem_cons hk, (List.getElem?_eq_some_iff.1 hx).2]; rfl
def DvInv (m : List Nat) (d k : Nat) (Q : List Nat) (r : Nat) : Prop := Q.length = m.length - k ∧ Lm Q ∧ r < d ∧ val (m.drop k) = val Q * d + r
theorem DvInv.start (m : List Nat) {d : Nat} (hd : 0 < d) : DvInv m d m.length [] 0 := ⟨by simp, Lm.nil, hd, by rw [List.drop_length]; simp [val]⟩
theorem DvInv.step {m : List Nat} {d k x : Nat} {Q : List Nat} {r : Nat} (hx : m[k]? = some x) (hm : Lm m) (h : DvInv m d (k + 1) Q r) :
  DvInv m d k ((r * B + x) / d :: Q) ((r * B + x) % d) ∧ (r * B + x) / d < B := by
 obtain ⟨h1, h2, h3, h4⟩ := h
 have hk := (List.getElem?_eq_some_iff.1 hx).1
 have hxB := hm.get hx
 have hlt : r * B + x < d * B := by
  have : (r + 1) * B ≤ d * B := Nat.mul_le_mul_right _ h3
  rw [Nat.add_mul] at this; omega
 have hq : (r * B + x) / d < B := Nat.div_lt_of_lt_mul hlt
 refine ⟨⟨by simp [h1]; omega, Lm.cons hq h2, Nat.mod_lt _ oM, ?_⟩, hq⟩
 rw [cZL hx, h4]
 simp only [val]
 have e := Nat.div_add_mod (r * B + x) d
 generalize (r * B + x) / d = q at *
 generalize (r * B + x) % d = s at *
 rw [Nat.mul_add, Nat.add_mul, Nat.mul_comm q d, ← Nat.mul_assoc B, Nat.mul_comm B r]
 omega
theorem DvInv.done {m : List Nat} {d : Nat} {Q : List Nat} {r : Nat} (h : DvInv m d 0 Q r) : Q = pd (val m / d) m.length ∧ r = val m % d := by
 obtain ⟨h1, h2, h3, h4⟩ := h
 rw [List.drop_zero] at h4
 have hv : val m / d = val Q := by rw [h4, Nat.mul_comm, Nat.mul_add_div oM, Nat.div_eq_of_lt h3, Nat.add_zero]
 have hr : val m % d = r := by rw [h4, Nat.mul_comm, Nat.mul_add_mod, Nat.mod_eq_of_lt h3]
 exact ⟨by rw [hv]; exact gZF h2 rfl (by rw [h1]; omega), hr.symm⟩
def ShlInv (m : List Nat) (s i : Nat) (N : List Nat) (c : Nat) : Prop := N.length = i ∧ Lm N ∧ c < 2 ^ s ∧ val N + B ^ i * c = val (m.take i) * 2 ^ s
theorem ShlInv.start (m : List Nat) (s : Nat) : ShlInv m s 0 [] 0 := ⟨rfl, Lm.nil, Nat.two_pow_pos s, by simp [val]⟩
theorem ShlInv.step {m : List Nat} {s i x : Nat} {N : List Nat} {c : Nat} (hx : m[i]? = some x) (hm : Lm m) (h : ShlInv m s i N c) :
  ShlInv m s (i + 1) (N ++ [(c + 2 ^ s * x) % B]) ((c + 2 ^ s * x) / B) ∧ c + 2 ^ s * x < 2 ^ s * B := by
 obtain ⟨a1, a2, a3, a4⟩ := h
 have hxB := hm.get hx
 have hlt : c + 2 ^ s * x < 2 ^ s * B := by
  have : 2 ^ s * (x + 1) ≤ 2 ^ s * B := Nat.mul_le_mul_left _ hxB
  rw [Nat.mul_add] at this; omega
 refine ⟨⟨by simp [a1], bZB a2 (Nat.mod_lt _ aZY), Nat.div_lt_of_lt_mul (by rw [Nat.mul_comm B]; exact hlt), ?_⟩, hlt⟩
 rw [bZk, aZk, a1, hx, Option.getD_some]
 generalize ht : c + 2 ^ s * x = t
 have e := Nat.mod_add_div t B
 have : B ^ i * (t % B) + B ^ (i + 1) * (t / B) = B ^ i * t := by rw [Nat.pow_succ, Nat.mul_assoc, ← Nat.mul_add, e]
 rw [Nat.add_assoc, this, ← ht, Nat.mul_add, Nat.add_mul, ← a4, Nat.mul_assoc (B ^ i) x, Nat.mul_comm x]
 omega
theorem ShlInv.done {m : List Nat} {s : Nat} {N : List Nat} {c : Nat} (h : ShlInv m s m.length N c) (hs : s < 32) : N ++ [c] = pd (val m * 2 ^ s) (m.length + 1) ∧ c < B := by
 obtain ⟨a1, a2, a3, a4⟩ := h
 have hB : 2 ^ s ≤ B := by rw [show B = 2 ^ 32 from rfl]; exact Nat.pow_le_pow_right oM oM
 rw [List.take_length] at a4
 exact ⟨gZF (bZB a2 oM) (by rw [bZk, a1, a4]) (by simp [a1]), oM⟩
def ShrInv (m : List Nat) (s i : Nat) (N : List Nat) : Prop := N.length = i ∧ Lm N ∧ val N + B ^ i * (val (m.drop i) / 2 ^ s) = val m / 2 ^ s
theorem ShrInv.start (m : List Nat) (s : Nat) : ShrInv m s 0 [] := ⟨rfl, Lm.nil, by simp [val]⟩
theorem ShrInv.step {m : List Nat} {s i x : Nat} {N : List Nat} (hs : s < 32) (hx : m[i]? = some x) (hm : Lm m) (h : ShrInv m s i N) : ShrInv m s (i + 1) (N ++ [(x + B * m[i + 1]?.getD 0) / 2 ^ s % B]) := by
 obtain ⟨a1, a2, a4⟩ := h
 have hxB := hm.get hx
 have hv := cZL hx
 refine ⟨by simp [a1], bZB a2 (Nat.mod_lt _ aZY), ?_⟩
 rw [bZk, a1, ← a4]
 have hB : B = 2 ^ s * 2 ^ (32 - s) := by rw [← Nat.pow_add, show s + (32 - s) = 32 by omega]; rfl
 have hdiv : val (m.drop i) / 2 ^ s / B = val (m.drop (i + 1)) / 2 ^ s := by
  rw [Nat.div_div_eq_div_mul, Nat.mul_comm, ← Nat.div_div_eq_div_mul, hv, Nat.add_mul_div_left _ _ aZY, Nat.div_eq_of_lt hxB, Nat.zero_add]
 have hmod : (x + B * m[i + 1]?.getD 0) / 2 ^ s % B = val (m.drop i) / 2 ^ s % B := by
  obtain ⟨R, hR⟩ : ∃ R, val (m.drop (i + 1)) = m[i + 1]?.getD 0 + B * R := by
   cases hy : m[i + 1]? with
   | none => exact ⟨0, by rw [List.drop_eq_nil_of_le (List.getElem?_eq_none_iff.1 hy)]; rfl⟩
   | some y => exact ⟨_, cZL hy⟩
  rw [hv, hR]
  have e : x + B * (m[i + 1]?.getD 0 + B * R) = (x + B * m[i + 1]?.getD 0) + 2 ^ s * (B * (2 ^ (32 - s) * R)) := by
   rw [Nat.mul_add, ← Nat.add_assoc]
   congr 1
   conv => lhs; rw [← Nat.mul_assoc]; arg 1; arg 1; rw [hB]
   rw [Nat.mul_assoc (2 ^ s), Nat.mul_assoc (2 ^ s), Nat.mul_comm (2 ^ (32 - s)) B, Nat.mul_assoc]
  rw [e, Nat.add_mul_div_left _ _ (Nat.two_pow_pos s), Nat.add_mul_mod_self_left]
 rw [hmod, ← hdiv, Nat.pow_succ, Nat.mul_assoc, Nat.add_assoc, ← Nat.mul_add, Nat.mod_add_div]
theorem ShrInv.done {m : List Nat} {s : Nat} {N : List Nat} (h : ShrInv m s m.length N) : N = pd (val m / 2 ^ s) m.length := by
 obtain ⟨a1, a2, a4⟩ := h
 rw [List.drop_length] at a4
 exact gZF a2 (by simpa [val] using a4) a1
end Go.Proofs.YtfmjdlogjmofbaaGreatDoor.Limb
namespace Go.Proofs.YtfmjdlogjmofbaaGreatDoor.Limb
section
variable {E V U Lv Lu v1 v2 u0 u1 u2 : Nat}
structure Kn (E V U Lv Lu v1 v2 u0 u1 u2 : Nat) : Prop where
 hV : V = Lv + E * (v2 + B * v1)
 hU : U = Lu + E * (u2 + B * (u0 * B + u1))
 lv : Lv < E
 lu : Lu < E
 hv1 : v1 < B
 hv2 : v2 < B
 hu1 : u1 < B
 hu2 : u2 < B
 norm : B ≤ 2 * v1
 hlt : U < V * B
theorem Kn.Vpos (k : Kn E V U Lv Lu v1 v2 u0 u1 u2) : 0 < V := by
 rcases Nat.eq_zero_or_pos V with h | h
 ·have := k.hlt; rw [h] at this; simp at this
 ·exact h
theorem Kn.qlt (k : Kn E V U Lv Lu v1 v2 u0 u1 u2) : U / V < B := Nat.div_lt_of_lt_mul k.hlt
theorem Kn.Epos (k : Kn E V U Lv Lu v1 v2 u0 u1 u2) : 0 < E := Nat.lt_of_le_of_lt (Nat.zero_le _) k.lv
theorem Kn.low (k : Kn E V U Lv Lu v1 v2 u0 u1 u2) : U / V * (v2 + B * v1) ≤ u2 + B * (u0 * B + u1) := by
 have h1 : U / V * V ≤ U := Nat.div_mul_le_self U V
 generalize U / V = q at *
 have h2 : E * (q * (v2 + B * v1)) ≤ q * V := by
  rw [k.hV, Nat.mul_add q Lv]
  have : E * (q * (v2 + B * v1)) = q * (E * (v2 + B * v1)) := by rw [← Nat.mul_assoc, Nat.mul_comm E q, Nat.mul_assoc]
  omega
 have h3 : U < E * (u2 + B * (u0 * B + u1) + 1) := by rw [k.hU, Nat.mul_add E _ 1, Nat.mul_one]; have := k.lu; omega
 have h4 : E * (q * (v2 + B * v1)) < E * (u2 + B * (u0 * B + u1) + 1) := oM
 have := Nat.lt_of_mul_lt_mul_left h4
 omega
theorem Kn.top (k : Kn E V U Lv Lu v1 v2 u0 u1 u2) : u0 ≤ v1 := by
 have h1 := k.hlt
 have h2 : E * (B * (B * u0)) ≤ U := by
  rw [k.hU]
  have e : B * (u0 * B + u1) = B * (B * u0) + B * u1 := by rw [Nat.mul_add, Nat.mul_comm u0 B]
  rw [e, Nat.mul_add, Nat.mul_add]
  omega
 have h3 : V * B < E * (B * (B * (v1 + 1))) := by
  have h4 : V < E * (B * (v1 + 1)) := by
   rw [k.hV]
   have h5 := k.hv2
   have h6 := k.lv
   have h7 : E * (v2 + 1) ≤ E * B := Nat.mul_le_mul_left _ h5
   have e : E * (B * (v1 + 1)) = E * (B * v1) + E * B := by rw [Nat.mul_add B, Nat.mul_add E, Nat.mul_one]
   rw [e, Nat.mul_add E v2]
   rw [Nat.mul_add E v2 1, Nat.mul_one] at h7
   omega
  have h8 := Nat.mul_lt_mul_of_pos_right h4 aZY
  have e : E * (B * (v1 + 1)) * B = E * (B * (B * (v1 + 1))) := by rw [Nat.mul_assoc, Nat.mul_comm (B * (v1 + 1)) B]
  rw [e] at h8
  exact h8
 have h9 : E * (B * (B * u0)) < E * (B * (B * (v1 + 1))) := oM
 have := Nat.lt_of_mul_lt_mul_left (Nat.lt_of_mul_lt_mul_left (Nat.lt_of_mul_lt_mul_left h9))
 omega
theorem Kn.start (k : Kn E V U Lv Lu v1 v2 u0 u1 u2) : U / V ≤ (u0 * B + u1) / v1 ∧ (u0 * B + u1) / v1 ≤ B + 1 := by
 have hB := aZv
 have hv : 0 < v1 := by have := k.norm; omega
 constructor
 ·rw [Nat.le_div_iff_mul_le hv]
  have h1 := k.low
  generalize U / V = q at *
  rw [Nat.mul_add] at h1
  have h2 : B * (q * v1) ≤ u2 + B * (u0 * B + u1) := by
   have : q * (B * v1) = B * (q * v1) := by rw [← Nat.mul_assoc, Nat.mul_comm q B, Nat.mul_assoc]
   omega
  have h3 := k.hu2
  have h4 : B * (q * v1) < B * (u0 * B + u1 + 1) := by rw [Nat.mul_add B _ 1]; omega
  have := Nat.lt_of_mul_lt_mul_left h4
  omega
 ·have h0 := k.top
  have h1 : u0 * B ≤ v1 * B := Nat.mul_le_mul_right _ h0
  have h2 := k.hu1
  have h3 := k.norm
  have : (u0 * B + u1) / v1 < B + 2 := by
   refine Nat.div_lt_of_lt_mul ?_
   rw [Nat.mul_add]
   omega
  omega
theorem Kn.down (k : Kn E V U Lv Lu v1 v2 u0 u1 u2) {g r : Nat} (hg : g * v1 + r = u0 * B + u1) (h : B ≤ g ∨ r * B + u2 < g * v2) : U / V + 1 ≤ g := by
 rcases h with h | h
 ·have := k.qlt; omega
 ·have h1 := k.low
  have h2 : U / V * (v2 + B * v1) < g * (v2 + B * v1) := by
   have e : g * (v2 + B * v1) = g * v2 + B * (g * v1) := by rw [Nat.mul_add, ← Nat.mul_assoc, Nat.mul_comm g B, Nat.mul_assoc]
   rw [← hg, Nat.mul_add B (g * v1) r, Nat.mul_comm B r] at h1
   omega
  exact Nat.lt_of_mul_lt_mul_right h2
theorem Kn.up (k : Kn E V U Lv Lu v1 v2 u0 u1 u2) {g r : Nat} (hg : g * v1 + r = u0 * B + u1) (h1 : g < B) (h2 : g * v2 ≤ r * B + u2) : g ≤ U / V + 1 := by
 have hB := aZv
 have hE := k.Epos
 have h3 : g * (v2 + B * v1) ≤ u2 + B * (u0 * B + u1) := by
  have e : g * (v2 + B * v1) = g * v2 + B * (g * v1) := by rw [Nat.mul_add, ← Nat.mul_assoc, Nat.mul_comm g B, Nat.mul_assoc]
  rw [← hg, Nat.mul_add B (g * v1) r, Nat.mul_comm B r]
  omega
 have h4 : g * Lv < B * E := Nat.mul_lt_mul'' h1 k.lv
 have h5 : B * E ≤ V := by
  rw [k.hV, Nat.mul_add E v2]
  have h6 : 1 ≤ v1 := by have := k.norm; omega
  have : E * (B * 1) ≤ E * (B * v1) := Nat.mul_le_mul_left _ (Nat.mul_le_mul_left _ h6)
  rw [Nat.mul_one, Nat.mul_comm E B] at this
  omega
 have h7 : g * V < U + V := by
  rw [k.hV, Nat.mul_add g Lv]
  have e : g * (E * (v2 + B * v1)) = E * (g * (v2 + B * v1)) := by rw [← Nat.mul_assoc, Nat.mul_comm g E, Nat.mul_assoc]
  have h8 : E * (g * (v2 + B * v1)) ≤ E * (u2 + B * (u0 * B + u1)) := Nat.mul_le_mul_left _ h3
  have h9 := k.hU
  have h10 := k.hV
  omega
 have h8 : g < (U + V) / V + 1 := by
  rcases Nat.lt_or_ge g ((U + V) / V + 1) with h | h
  ·exact h
  ·have := Nat.lt_mul_of_div_lt (show (U + V) / V < g by omega) k.Vpos
   omega
 rw [Nat.add_div_right _ k.Vpos] at h8
 omega
end
def MsInv (u v : List Nat) (g i : Nat) (N : List Nat) (c b : Nat) : Prop := N.length = i ∧ Lm N ∧ c < B ∧ b ≤ 1 ∧ val N + g * val (v.take i) = val (u.take i) + B ^ i * (c + b)
theorem MsInv.start (u v : List Nat) (g : Nat) : MsInv u v g 0 [] 0 0 := ⟨rfl, Lm.nil, aZY, oM, by simp [val]⟩
theorem MsInv.step {u v : List Nat} {g i x y : Nat} {N : List Nat} {c b : Nat} (hg : g < B) (hu : Lm u) (hv : Lm v) (hx : u[i]? = some x) (hy : v[i]? = some y) (h : MsInv u v g i N c b) :
  MsInv u v g (i + 1) (N ++ [difD x ((c + g * y) % B + b)]) ((c + g * y) / B) (difB x ((c + g * y) % B + b)) ∧ c + g * y < B * B := by
 obtain ⟨a1, a2, a3, a4, a5⟩ := h
 have hyB := hv.get hy
 have hxB := hu.get hx
 have hm := (dZ6 a3 hg hyB aZY).1
 rw [Nat.add_zero] at hm
 have hlo : (c + g * y) % B < B := Nat.mod_lt _ aZY
 refine ⟨⟨by simp [a1], bZB a2 (by unfold difD; split <;> omega), Nat.div_lt_of_lt_mul hm, by unfold difB; split <;> omega, ?_⟩, hm⟩
 rw [bZk, aZk, aZk, a1, hx, hy, Option.getD_some, Option.getD_some]
 have e := Nat.mod_add_div (c + g * y) B
 generalize ht : c + g * y = t at *
 have key : difD x (t % B + b) + (t % B + b) = x + B * difB x (t % B + b) := by unfold difD difB; split <;> omega
 have k2 : B ^ i * difD x (t % B + b) + B ^ i * (g * y) + B ^ i * (c + b) = B ^ i * x + B ^ (i + 1) * (t / B + difB x (t % B + b)) := by
  rw [Nat.pow_succ, Nat.mul_assoc (B ^ i) B, ← Nat.mul_add, ← Nat.mul_add, ← Nat.mul_add]
  congr 1
  rw [Nat.mul_add B]
  omega
 have e3 : g * (val (v.take i) + B ^ i * y) = g * val (v.take i) + B ^ i * (g * y) := by
  rw [Nat.mul_add, ← Nat.mul_assoc g, Nat.mul_comm g (B ^ i), Nat.mul_assoc]
 rw [e3]
 rw [Nat.mul_add (B ^ i) c b] at *
 omega
theorem MsInv.right {u v : List Nat} {g n x : Nat} {N : List Nat} {c b : Nat} (h : MsInv u v g n N c b) (hv : v.length = n) (hu : u.length = n + 1) (hx : u[n]? = some x) (hum : Lm u) (hq1 : val u / val v ≤ g) (hV : 0 < val v) (hcb : c + b ≤ x) :
  g = val u / val v ∧ N ++ [x - (c + b)] = pd (val u % val v) (n + 1) := by
 obtain ⟨a1, a2, a3, a4, a5⟩ := h
 have hU : val u = val (u.take n) + B ^ n * x := by
  have := aZk u n
  rw [List.take_of_length_le oM, hx, Option.getD_some] at this
  exact this
 rw [List.take_of_length_le oM] at a5
 have e : val u = g * val v + val (N ++ [x - (c + b)]) := by
  rw [bZk, a1, hU]
  have : B ^ n * x = B ^ n * (c + b) + B ^ n * (x - (c + b)) := by rw [← Nat.mul_add]; congr 1; omega
  omega
 have hg : g ≤ val u / val v := by rw [Nat.le_div_iff_mul_le hV]; omega
 have hgq : g = val u / val v := oM
 refine ⟨hgq, gZF (bZB a2 (by have := hum.get hx; omega)) ?_ (by simp [a1])⟩
 have := Nat.div_add_mod (val u) (val v)
 rw [← hgq, Nat.mul_comm] at this
 omega
theorem MsInv.wrong {u v : List Nat} {g n x : Nat} {N : List Nat} {c b : Nat} (h : MsInv u v g n N c b) (hv : v.length = n) (hu : u.length = n + 1) (hx : u[n]? = some x) (hvm : Lm v) (hq2 : g ≤ val u / val v + 1) (hV : 0 < val v) (hcb : x < c + b) :
  g = val u / val v + 1 ∧ c + b = x + 1 ∧ ∀ N2 cc, SumInv N v n N2 cc → cc = 1 ∧ N2 ++ [0] = pd (val u % val v) (n + 1) := by
 obtain ⟨a1, a2, a3, a4, a5⟩ := h
 have hU : val u = val (u.take n) + B ^ n * x := by
  have := aZk u n
  rw [List.take_of_length_le oM, hx, Option.getD_some] at this
  exact this
 rw [List.take_of_length_le oM] at a5
 have hN := bZ2 a2
 rw [a1] at hN
 have hVB := bZ2 hvm
 rw [hv] at hVB
 have e : val N + g * val v = val u + B ^ n * (c + b - x) := by
  have : B ^ n * (c + b) = B ^ n * x + B ^ n * (c + b - x) := by rw [← Nat.mul_add]; congr 1; omega
  omega
 have hR := Nat.div_add_mod (val u) (val v)
 have hRlt := Nat.mod_lt (val u) hV
 have hg : g = val u / val v + 1 := by
  rcases Nat.lt_or_ge (val u / val v) g with hlt | hge
  ·omega
  ·exfalso
   have h1 : g * val v ≤ val u := Nat.le_trans (Nat.mul_le_mul_right _ hge) (Nat.div_mul_le_self _ _)
   have h2 : B ^ n * 1 ≤ B ^ n * (c + b - x) := Nat.mul_le_mul_left _ oM
   omega
 have e2 : val N + val v = val u % val v + B ^ n * (c + b - x) := by
  rw [hg, Nat.add_mul, Nat.one_mul, Nat.mul_comm (val u / val v)] at e
  omega
 have hk : c + b - x = 1 := by
  rcases Nat.lt_or_ge (c + b - x) 2 with h2 | h2
  ·omega
  ·exfalso
   have : B ^ n * 2 ≤ B ^ n * (c + b - x) := Nat.mul_le_mul_left _ h2
   omega
 refine ⟨hg, oM, fun N2 cc hS => ?_⟩
 obtain ⟨s1, s2, s3, s4⟩ := hS
 rw [List.take_of_length_le oM, List.take_of_length_le oM, e2, hk, Nat.mul_one] at s4
 have hN2 := bZ2 s2
 rw [s1] at hN2
 have hcc : cc = 1 := by
  rcases Nat.eq_zero_or_pos cc with h0 | h0
  ·subst h0; simp at s4; omega
  ·omega
 refine ⟨hcc, gZF (bZB s2 aZY) ?_ (by simp [s1])⟩
 rw [bZk, Nat.mul_zero, Nat.add_zero]
 rw [hcc] at s4
 omega
theorem kn_of {u v : List Nat} {n : Nat} {v1 v2 u0 u1 u2 : Nat} (hn : 2 ≤ n) (hv : v.length = n) (hu : u.length = n + 1) (hvm : Lm v) (hum : Lm u)
  (h1 : v[n - 1]? = some v1) (h2 : v[n - 2]? = some v2) (g0 : u[n]? = some u0) (g1 : u[n - 1]? = some u1) (g2 : u[n - 2]? = some u2) (hnorm : B ≤ 2 * v1) (hlt : val u < val v * B) :
  Kn (B ^ (n - 2)) (val v) (val u) (val (v.take (n - 2))) (val (u.take (n - 2))) v1 v2 u0 u1 u2 := by
 obtain ⟨m, rfl⟩ : ∃ m, n = m + 2 := ⟨n - 2, oM⟩
 simp only [show m + 2 - 1 = m + 1 by omega, show m + 2 - 2 = m by omega] at *
 have l1 := bZ2 (hvm.take m)
 have l2 := bZ2 (hum.take m)
 rw [List.length_take, Nat.min_eq_left oM] at l1 l2
 have e1 := aZk v m
 have e2 := aZk v (m + 1)
 have f1 := aZk u m
 have f2 := aZk u (m + 1)
 have f3 := aZk u (m + 2)
 rw [h2, Option.getD_some] at e1
 rw [h1, Option.getD_some, List.take_of_length_le oM] at e2
 rw [g2, Option.getD_some] at f1
 rw [g1, Option.getD_some] at f2
 rw [g0, Option.getD_some, List.take_of_length_le oM] at f3
 refine ⟨?_, ?_, l1, l2, hvm.get h1, hvm.get h2, hum.get g1, hum.get g2, hnorm, hlt⟩
 ·rw [e2, e1, Nat.pow_succ, Nat.mul_add, Nat.mul_assoc]; omega
 ·have p1 : B ^ (m + 2) * u0 = B ^ m * (B * (u0 * B)) := by rw [Nat.pow_succ, Nat.pow_succ, Nat.mul_assoc, Nat.mul_assoc, Nat.mul_comm B u0]
  have p2 : B ^ (m + 1) * u1 = B ^ m * (B * u1) := by rw [Nat.pow_succ, Nat.mul_assoc]
  rw [f3, f2, f1, p1, p2, Nat.mul_add (B ^ m) u2, Nat.mul_add B, Nat.mul_add (B ^ m) (B * (u0 * B))]
  omega
end Go.Proofs.YtfmjdlogjmofbaaGreatDoor.Limb
namespace Go.Proofs.YtfmjdlogjmofbaaGreatDoor.Limb
def LdInv (X V n k : Nat) (R qs : List Nat) : Prop := R.length = n ∧ Lm R ∧ Lm qs ∧ val R + B ^ k * (val qs * V) = X ∧ val R < B ^ k * V
theorem iZq {l : List Nat} (h : ∀ x ∈ l, x = 0) : val l = 0 := by
 induction l with
 | nil => rfl
 | cons x l ih => rw [val, h x (by simp), ih fun y hy => h y (by simp [hy])]; rfl
theorem fZO (Lo u Hi : List Nat) : val (Lo ++ (u ++ Hi)) = val Lo + B ^ Lo.length * val u + B ^ (Lo.length + u.length) * val Hi := by
 rw [bZl, bZl, Nat.mul_add, ← Nat.mul_assoc, ← Nat.pow_add, Nat.add_assoc]
theorem LdInv.step {X V n j : Nat} {Lo u Hi qs : List Nat} (hV : 0 < V) (hLo : Lo.length = j) (hVu : V < B ^ (u.length - 1)) (hu : 1 ≤ u.length) (h : LdInv X V n (j + 1) (Lo ++ (u ++ Hi)) qs) :
  val u < V * B ∧ LdInv X V n j (Lo ++ (pd (val u % V) u.length ++ Hi)) (val u / V :: qs) := by
 obtain ⟨h1, h2, h3, h4, h5⟩ := h
 have hs := fZO Lo u Hi
 rw [hLo] at hs
 have hHi : val Hi = 0 := by
  rcases Nat.eq_zero_or_pos (val Hi) with h0 | h0
  ·exact h0
  ·exfalso
   have e1 : B ^ (j + u.length) * 1 ≤ B ^ (j + u.length) * val Hi := Nat.mul_le_mul_left _ h0
   have e2 : B ^ (j + 1) * V ≤ B ^ (j + 1) * B ^ (u.length - 1) := Nat.mul_le_mul_left _ (Nat.le_of_lt hVu)
   rw [← Nat.pow_add, show j + 1 + (u.length - 1) = j + u.length by omega] at e2
   omega
 rw [hHi, Nat.mul_zero, Nat.add_zero] at hs
 have hult : val u < V * B := by
  have e1 : B ^ j * val u < B ^ j * (V * B) := by
   have e2 : B ^ (j + 1) * V = B ^ j * (V * B) := by rw [Nat.pow_succ, Nat.mul_assoc, Nat.mul_comm B V]
   omega
  exact Nat.lt_of_mul_lt_mul_left e1
 have hq : val u / V < B := Nat.div_lt_of_lt_mul hult
 have hr := Nat.mod_lt (val u) hV
 have hrB : val u % V < B ^ u.length := Nat.lt_of_lt_of_le (Nat.lt_trans hr hVu) (Nat.pow_le_pow_right aZY oM)
 have hpv := dZ4 _ _ hrB
 have hs' := fZO Lo (pd (val u % V) u.length) Hi
 rw [hLo, hHi, Nat.mul_zero, Nat.add_zero, hpv] at hs'
 have hLm : Lm Lo := h2.sub fun x hx => by simp [hx]
 have hHm : Lm Hi := h2.sub fun x hx => by simp [hx]
 have hLlt := bZ2 hLm
 rw [hLo] at hLlt
 have hdm := Nat.div_add_mod (val u) V
 refine ⟨hult, by simp [aZP] at h1 ⊢; omega, hLm.append ((fZn _ _).append hHm), Lm.cons hq h3, ?_, ?_⟩
 ·rw [hs', ← h4, hs]
  simp only [val]
  have e1 : B ^ (j + 1) * (val qs * V) = B ^ j * (B * (val qs * V)) := by rw [Nat.pow_succ, Nat.mul_assoc]
  have e2 : B ^ j * ((val u / V + B * val qs) * V) = B ^ j * (V * (val u / V)) + B ^ j * (B * (val qs * V)) := by
   rw [Nat.add_mul, Nat.mul_add, Nat.mul_comm (val u / V) V, Nat.mul_assoc B]
  have e3 : B ^ j * val u = B ^ j * (V * (val u / V)) + B ^ j * (val u % V) := by rw [← Nat.mul_add, hdm]
  omega
 ·rw [hs']
  have e1 : B ^ j * (val u % V + 1) ≤ B ^ j * V := Nat.mul_le_mul_left _ hr
  rw [Nat.mul_add, Nat.mul_one] at e1
  omega
theorem LdInv.done {x y s n : Nat} {R qs : List Nat} (hy : 0 < y) (h : LdInv (x * 2 ^ s) (y * 2 ^ s) n 0 R qs) : val qs = x / y ∧ val R / 2 ^ s = x % y := by
 obtain ⟨h1, h2, h3, h4, h5⟩ := h
 rw [Nat.pow_zero, Nat.one_mul] at h4 h5
 have hp := Nat.two_pow_pos s
 have hV : 0 < y * 2 ^ s := Nat.mul_pos hy hp
 have hq : x * 2 ^ s / (y * 2 ^ s) = val qs := by rw [← h4, Nat.add_mul_div_right _ _ hV, Nat.div_eq_of_lt h5, Nat.zero_add]
 have hr : x * 2 ^ s % (y * 2 ^ s) = val R := by rw [← h4, Nat.add_mul_mod_self_right, Nat.mod_eq_of_lt h5]
 rw [Nat.mul_div_mul_right _ _ hp] at hq
 rw [Nat.mul_mod_mul_right] at hr
 exact ⟨hq.symm, by rw [← hr, Nat.mul_div_cancel _ hp]⟩
theorem digs_ge {y : Nat} (hy : y ≠ 0) : B ^ ((digs y).length - 1) ≤ y := by
 obtain ⟨i, z, hz⟩ : ∃ i z, digs y = i ++ [z] := by
  have hne : digs y ≠ [] := by rw [aZR hy]; simp
  exact ⟨(digs y).dropLast, (digs y).getLast hne, (List.dropLast_concat_getLast hne).symm⟩
 have hz0 : z ≠ 0 := eZj (n := y) (by rw [hz]; simp)
 have := aZi y
 rw [hz, bZk] at this
 rw [hz]
 simp only [List.length_append, List.length_singleton, Nat.add_sub_cancel]
 have : B ^ i.length * 1 ≤ B ^ i.length * z := Nat.mul_le_mul_left _ oM
 omega
theorem LdInv.start {x y s : Nat} (hy : y ≠ 0) (hle : (digs y).length ≤ (digs x).length) (hs : s < 32) :
  LdInv (x * 2 ^ s) (y * 2 ^ s) ((digs x).length + 1) ((digs x).length - (digs y).length + 1) (pd (x * 2 ^ s) ((digs x).length + 1)) [] := by
 have hx := aZV x
 have hB : 2 ^ s ≤ B := by rw [show B = 2 ^ 32 from rfl]; exact Nat.pow_le_pow_right oM oM
 have h1 : x * 2 ^ s < B ^ ((digs x).length + 1) := by
  rw [Nat.pow_succ]
  exact Nat.lt_of_lt_of_le (Nat.mul_lt_mul_of_pos_right hx (Nat.two_pow_pos s)) (Nat.mul_le_mul_left _ hB)
 have hl : 1 ≤ (digs y).length := by rw [aZR hy]; simp
 refine ⟨aZP _ _, fZn _ _, Lm.nil, by rw [dZ4 _ _ h1]; simp [val], ?_⟩
 rw [dZ4 _ _ h1, ← Nat.mul_assoc]
 refine Nat.mul_lt_mul_of_pos_right (Nat.lt_of_lt_of_le hx ?_) (Nat.two_pow_pos s)
 have := Nat.mul_le_mul_left (B ^ ((digs x).length - (digs y).length + 1)) (digs_ge hy)
 rw [← Nat.pow_add, show (digs x).length - (digs y).length + 1 + ((digs y).length - 1) = (digs x).length by omega] at this
 exact this
theorem mZb : ∀ (n k : Nat), (pd n (k + 1)).take k = pd n k
 | _, 0 => rfl
 | n, k + 1 => by
  show n % B :: (pd (n / B) (k + 1)).take k = n % B :: pd (n / B) k
  rw [mZb (n / B) k]
def lz (t : Nat) : Nat := 31 - Nat.log2 t
theorem lz_spec {t : Nat} (h0 : t ≠ 0) (hB : t < B) : lz t < 32 ∧ B ≤ 2 * (t * 2 ^ lz t) ∧ t * 2 ^ lz t < B := by
 have h1 : Nat.log2 t < 32 := (Nat.log2_lt h0).2 hB
 have h2 := Nat.log2_self_le h0
 have h3 : t < 2 ^ (Nat.log2 t + 1) := Nat.lt_log2_self
 unfold lz
 generalize Nat.log2 t = l at *
 have e : 2 ^ l * 2 ^ (31 - l) = 2 ^ 31 := by rw [← Nat.pow_add, show l + (31 - l) = 31 by omega]
 have e2 : 2 ^ (l + 1) * 2 ^ (31 - l) = 2 ^ 32 := by rw [← Nat.pow_add, show l + 1 + (31 - l) = 32 by omega]
 have a := Nat.mul_le_mul_right (2 ^ (31 - l)) h2
 have b := Nat.mul_lt_mul_of_pos_right h3 (Nat.two_pow_pos (31 - l))
 rw [e] at a
 rw [e2] at b
 refine ⟨oM, ?_, b⟩
 rw [aZv]
 omega
theorem oZw {y s : Nat} {t : Nat} (hy : y ≠ 0) (ht : (digs y).getLast? = some t) (hB : t * 2 ^ s < B) (hn : B ≤ 2 * (t * 2 ^ s)) :
  y * 2 ^ s < B ^ (digs y).length ∧ ∀ z, (pd (y * 2 ^ s) (digs y).length)[(digs y).length - 1]? = some z → B ≤ 2 * z := by
 obtain ⟨i, hz⟩ : ∃ i, digs y = i ++ [t] := by
  have hne : digs y ≠ [] := by rw [aZR hy]; simp
  refine ⟨(digs y).dropLast, ?_⟩
  have h1 := List.dropLast_concat_getLast hne
  rw [List.getLast?_eq_some_getLast hne] at ht
  rw [← Option.some.inj ht]
  exact h1.symm
 have hlm := aZg y
 rw [hz] at hlm
 have hv := aZi y
 rw [hz, bZk] at hv
 have hi : val i < B ^ i.length := bZ2 (hlm.sub fun x hx => by simp [hx])
 have hlen : (digs y).length = i.length + 1 := by rw [hz]; simp
 have hlt : y * 2 ^ s < B ^ (i.length + 1) := by
  have h1 : y < B ^ i.length * (t + 1) := by rw [← hv, Nat.mul_add, Nat.mul_one]; omega
  have h2 : (t + 1) * 2 ^ s ≤ B := by
   -- t 2^s < B and B is a multiple of 2^s
   have hs : s ≤ 32 := by
    rcases Nat.lt_or_ge 32 s with h | h
    ·exfalso
     have ht0 : 1 ≤ t := by
      rcases Nat.eq_zero_or_pos t with h0 | h0
      ·rw [h0] at hn; simp at hn; exact absurd hn aD
      ·exact h0
     have : B ≤ 2 ^ s := by rw [show B = 2 ^ 32 from rfl]; exact Nat.pow_le_pow_right oM oM
     have := Nat.mul_le_mul_right (2 ^ s) ht0
     omega
    ·exact h
   have hBs : B = 2 ^ (32 - s) * 2 ^ s := by rw [← Nat.pow_add, show 32 - s + s = 32 by omega]; rfl
   rw [hBs] at hB ⊢
   exact Nat.mul_le_mul_right _ (Nat.lt_of_mul_lt_mul_right hB)
  have h3 := Nat.mul_lt_mul_of_pos_right h1 (Nat.two_pow_pos s)
  rw [Nat.mul_assoc] at h3
  rw [Nat.pow_succ]
  exact Nat.lt_of_lt_of_le h3 (Nat.mul_le_mul_left _ h2)
 refine ⟨by rw [hlen]; exact hlt, fun z hzz => ?_⟩
 rw [hlen] at hzz
 have hpv := dZ4 _ _ hlt
 have hpl := aZP (y * 2 ^ s) (i.length + 1)
 have hts := aZk (pd (y * 2 ^ s) (i.length + 1)) i.length
 rw [List.take_of_length_le oM, hpv] at hts
 rw [show i.length + 1 - 1 = i.length by omega] at hzz
 rw [hzz, Option.getD_some] at hts
 have hlow := bZ2 ((fZn (y * 2 ^ s) (i.length + 1)).take i.length)
 rw [List.length_take, hpl, Nat.min_eq_left oM] at hlow
 have h5 : B ^ i.length * (t * 2 ^ s) ≤ y * 2 ^ s := by rw [← hv, Nat.add_mul, Nat.mul_assoc]; omega
 have h6 : B ^ i.length * (t * 2 ^ s) < B ^ i.length * (z + 1) := by rw [Nat.mul_add, Nat.mul_one]; omega
 have := Nat.lt_of_mul_lt_mul_left h6
 omega
end Go.Proofs.YtfmjdlogjmofbaaGreatDoor.Limb
namespace Go.Proofs.YtfmjdlogjmofbaaGreatDoor.Limb
theorem pZI : B = 2 ^ 32 := rfl
theorem jZC : ∀ (n k j : Nat), j < k → (pd n k)[j]? = some (n / B ^ j % B)
 | n, 0, j, h => absurd h (Nat.not_lt_zero _)
 | n, k + 1, 0, _ => by rw [pd, Nat.pow_zero, Nat.div_one]; rfl
 | n, k + 1, j + 1, h => by
  rw [pd, List.getElem?_cons_succ, jZC _ _ _ oM, Nat.div_div_eq_div_mul, Nat.pow_succ, Nat.mul_comm B]
theorem oZX {x j : Nat} (h : j < (digs x).length) : (digs x)[j]? = some (x / B ^ j % B) := by
 rw [gZF (aZg x) (aZi x) rfl]
 exact jZC _ _ _ h
theorem lZo : ∀ {l : List Nat} {j x : Nat} (y : Nat), l[j]? = some x → val (l.set j y) + B ^ j * x = val l + B ^ j * y
 | [], j, x, y, h => by simp at h
 | a :: l, 0, x, y, h => by
  simp at h; subst h
  simp only [List.set, val, Nat.pow_zero, Nat.one_mul]; omega
 | a :: l, j + 1, x, y, h => by
  have ih := lZo (l := l) (j := j) (x := x) y (by simpa using h)
  simp only [List.set, val]
  rw [Nat.pow_succ, Nat.mul_comm (B ^ j) B, Nat.mul_assoc, Nat.mul_assoc]
  have := congrArg (B * ·) ih
  simp only [Nat.mul_add] at this
  omega
theorem fZf (i : Nat) : 2 ^ i = B ^ (i / 32) * 2 ^ (i % 32) := by
 rw [pZI, ← Nat.pow_mul, ← Nat.pow_add, Nat.div_add_mod]
theorem oZE (x i : Nat) : x / B ^ (i / 32) % B / 2 ^ (i % 32) % 2 = x / 2 ^ i % 2 := by
 rw [fZf i, ← Nat.div_div_eq_div_mul]
 generalize x / B ^ (i / 32) = z
 have he : i % 32 < 32 := Nat.mod_lt _ aD
 generalize i % 32 = e at *
 have h := Nat.testBit_mod_two_pow z 32 e
 rw [decide_eq_true he, Bool.true_and, Nat.testBit_eq_decide_div_mod_eq, Nat.testBit_eq_decide_div_mod_eq] at h
 rw [pZI]
 have h' := decide_eq_decide.1 h
 have a1 := Nat.mod_two_eq_zero_or_one (z % 2 ^ 32 / 2 ^ e)
 have a2 := Nat.mod_two_eq_zero_or_one (z / 2 ^ e)
 omega
def QV (x y i : Nat) : Nat := x / 2 ^ i / y * 2 ^ i
theorem hZU (x i : Nat) : x / 2 ^ i = 2 * (x / 2 ^ (i + 1)) + x / 2 ^ i % 2 := by
 rw [Nat.pow_succ, ← Nat.div_div_eq_div_mul]; omega
theorem dv_lo {x y i : Nat} (h : 2 * (x / 2 ^ (i + 1) % y) + x / 2 ^ i % 2 < y) : x / 2 ^ i % y = 2 * (x / 2 ^ (i + 1) % y) + x / 2 ^ i % 2 ∧ QV x y i = QV x y (i + 1) := by
 have e := hZU x i
 have d := Nat.div_add_mod (x / 2 ^ (i + 1)) y
 unfold QV
 rw [Nat.pow_succ (n := 2) (m := i)] at *
 generalize x / (2 ^ i * 2) = X' at *
 generalize x / 2 ^ i % 2 = b at *
 generalize x / 2 ^ i = X at *
 have hX : X = y * (2 * (X' / y)) + (2 * (X' % y) + b) := by
  rw [e]; have : y * (2 * (X' / y)) = 2 * (y * (X' / y)) := by rw [Nat.mul_left_comm]
  omega
 have hy : 0 < y := oM
 refine ⟨by rw [hX, Nat.mul_add_mod, Nat.mod_eq_of_lt h], ?_⟩
 have : X / y = 2 * (X' / y) := by rw [hX, Nat.mul_add_div hy, Nat.div_eq_of_lt h, Nat.add_zero]
 rw [this, Nat.mul_comm 2, Nat.mul_assoc, Nat.mul_comm 2]
theorem dv_hi {x y i : Nat} (hy : 0 < y) (h : y ≤ 2 * (x / 2 ^ (i + 1) % y) + x / 2 ^ i % 2) : x / 2 ^ i % y = 2 * (x / 2 ^ (i + 1) % y) + x / 2 ^ i % 2 - y ∧ QV x y i = QV x y (i + 1) + 2 ^ i := by
 have e := hZU x i
 have d := Nat.div_add_mod (x / 2 ^ (i + 1)) y
 have lt := Nat.mod_lt (x / 2 ^ (i + 1)) hy
 have hb : x / 2 ^ i % 2 < 2 := Nat.mod_lt _ aD
 unfold QV
 rw [Nat.pow_succ (n := 2) (m := i)] at *
 generalize x / (2 ^ i * 2) = X' at *
 generalize x / 2 ^ i % 2 = b at *
 generalize x / 2 ^ i = X at *
 have hX : X = y * (2 * (X' / y) + 1) + (2 * (X' % y) + b - y) := by
  rw [e]; have : y * (2 * (X' / y) + 1) = 2 * (y * (X' / y)) + y := by rw [Nat.mul_add, Nat.mul_left_comm, Nat.mul_one]
  omega
 have h' : 2 * (X' % y) + b - y < y := oM
 refine ⟨by rw [hX, Nat.mul_add_mod, Nat.mod_eq_of_lt h'], ?_⟩
 have : X / y = 2 * (X' / y) + 1 := by rw [hX, Nat.mul_add_div hy, Nat.div_eq_of_lt h', Nat.add_zero]
 rw [this, Nat.add_mul, Nat.one_mul, Nat.mul_comm 2, Nat.mul_assoc, Nat.mul_comm 2]
theorem QV_dvd (x y i : Nat) : 2 ^ i ∣ QV x y i := ⟨_, Nat.mul_comm _ _⟩
theorem QV_le (x y i : Nat) : QV x y i ≤ x := by
 unfold QV
 exact Nat.le_trans (Nat.mul_le_mul_right _ (Nat.div_le_self _ _)) (Nat.div_mul_le_self _ _)
theorem QV_zero (x y : Nat) : QV x y 0 = x / y := by unfold QV; rw [Nat.pow_zero, Nat.div_one, Nat.mul_one]
theorem hZN {V i : Nat} (hd : 2 ^ (i + 1) ∣ V) : ∃ c, V / B ^ (i / 32) % B = 2 ^ (i % 32 + 1) * c ∧ V / B ^ (i / 32) % B + 2 ^ (i % 32) < B := by
 have he : i % 32 + 1 ≤ 32 := Nat.mod_lt _ aD
 have h1 : 2 ^ (i % 32 + 1) ∣ V / B ^ (i / 32) := by
  obtain ⟨c, rfl⟩ := hd
  refine ⟨c, ?_⟩
  rw [Nat.pow_succ, fZf i, Nat.mul_assoc, Nat.mul_assoc, Nat.mul_div_cancel_left _ (Nat.pow_pos aZY), ← Nat.mul_assoc, ← Nat.pow_succ]
 have h2 : 2 ^ (i % 32 + 1) ∣ B := by rw [pZI]; exact Nat.pow_dvd_pow 2 he
 have h3 : 2 ^ (i % 32 + 1) ∣ V / B ^ (i / 32) % B := (Nat.dvd_mod_iff h2).2 h1
 have hlt : V / B ^ (i / 32) % B < B := Nat.mod_lt _ aZY
 generalize V / B ^ (i / 32) % B = a at *
 obtain ⟨c, rfl⟩ := h3
 refine ⟨c, rfl, ?_⟩
 obtain ⟨d, hd'⟩ := h2
 have hp := Nat.two_pow_pos (i % 32)
 have hcd : c < d := by
  rw [hd'] at hlt
  exact Nat.lt_of_mul_lt_mul_left hlt
 have := Nat.mul_le_mul_left (2 ^ (i % 32 + 1)) hcd
 rw [← hd', Nat.mul_succ, Nat.pow_succ] at this
 rw [Nat.pow_succ]
 omega
theorem pd_or {V i k : Nat} (hk : i / 32 < k) (hd : 2 ^ (i + 1) ∣ V) (hV : V < B ^ k) : (pd V k).set (i / 32) (V / B ^ (i / 32) % B + 2 ^ (i % 32)) = pd (V + 2 ^ i) k := by
 obtain ⟨c, _, hlt⟩ := hZN hd
 refine gZF ?_ ?_ (by rw [List.length_set, aZP])
 ·intro y hy
  rcases List.mem_or_eq_of_mem_set hy with h | h
  ·exact fZn _ _ y h
  ·rw [h]; exact hlt
 ·have := lZo (V / B ^ (i / 32) % B + 2 ^ (i % 32)) (jZC V k _ hk)
  rw [dZ4 _ _ hV, Nat.mul_add, ← fZf] at this
  omega
end Go.Proofs.YtfmjdlogjmofbaaGreatDoor.Limb

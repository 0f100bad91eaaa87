/- Signs that walk: which oddities of a compartment can be chosen. Plain. -/
import Derived.Test.YtdieokoenhncfaaGreatDoorAw
set_option maxRecDepth 3000
namespace Go.Proofs.YtdieokoenhncfaaGreatDoor
open Go.RowKit Limb Num
def al (two neg : Bool) (t : Fin 8) : Bool := if two then (if neg then t == 2 || t == 4 || t == 6 else t == 0 || t == 2 || t == 6) else (if neg then t == 3 || t == 5 else t == 1 || t == 7)
theorem pairW : ∀ (a b sa sb : Bool) (s : Fin 8), (a = true ∨ b = true) → (s.1 + a.toNat + b.toNat) % 2 = 0 → ∃ t u : Fin 8, al a sa t = true ∧ al b sb u = true ∧ (t.1 + u.1) % 8 = s.1 := by decide +kernel
theorem pairW1 : ∀ (sa sb : Bool) (s : Fin 8), s.1 % 4 = 2 → ∃ t u : Fin 8, al false sa t = true ∧ al false sb u = true ∧ (t.1 + u.1) % 8 = s.1 := by decide +kernel
theorem tripW : ∀ (a sa sb sc : Bool) (s : Fin 8), (s.1 + a.toNat + 1) % 2 = 0 → ∃ t u v : Fin 8, al a sa t = true ∧ al false sb u = true ∧ al false sc v = true ∧ (t.1 + u.1 + v.1) % 8 = s.1 := by decide +kernel
structure Okc (c : Co) : Prop where
 o : c.o = true
 e0 : 0 ≤ c.e
 e1 : c.e ≤ 60
 d0 : 1 ≤ c.d
 d1 : c.d ≤ 8
 s : c.s = 1 ∨ c.s = -1
theorem leg_al {c : Co} (h : Okc c) {two : Bool} (hd : c.d = 1 + (two.toNat : Int)) (t : Fin 8) (ht : al two (decide (c.s = -1)) t = true) : legP (wy c (t.1 : Int)) := by
 obtain ⟨h1, h2, h3, h4, h5, h6⟩ := h
 have ht7 := t.2
 unfold legP wy
 dsimp only
 rw [if_pos h1]
 unfold al at ht
 refine ⟨h2, h3, h4, h5, h6, by omega, by omega, ?_⟩
 cases two with
 | true =>
  have hd : c.d = 2 := hd
  rcases h6 with e | e
  ·rw [e, decide_eq_false (by decide)] at ht
   simp at ht
   rcases ht with (rfl | rfl) | rfl <;> (rw [hd, e]; decide)
  ·rw [e, decide_eq_true rfl] at ht
   simp at ht
   rcases ht with (rfl | rfl) | rfl <;> (rw [hd, e]; decide)
 | false =>
  have hd : c.d = 1 := hd
  rcases h6 with e | e
  ·rw [e, decide_eq_false (by decide)] at ht
   simp at ht
   rcases ht with rfl | rfl <;> (rw [hd, e]; decide)
  ·rw [e, decide_eq_true rfl] at ht
   simp at ht
   rcases ht with rfl | rfl <;> (rw [hd, e]; decide)
theorem leg_free {c : Co} (h : Okc c) (hd : 3 ≤ c.d) {t : Nat} (ht : t < 8) (hp : ((t : Int) - c.d) % 2 = 0) : legP (wy c (t : Int)) := by
 obtain ⟨h1, h2, h3, h4, h5, h6⟩ := h
 unfold legP wy
 dsimp only
 rw [if_pos h1]
 exact ⟨h2, h3, h4, h5, h6, by omega, by omega, hp, by omega, by omega, by omega, by omega⟩
theorem leg_ex {c : Co} (h : Okc c) : ∃ t : Nat, t < 8 ∧ ((t : Int) - c.d) % 2 = 0 ∧ legP (wy c (t : Int)) := by
 have h4 := h.d0
 by_cases d1 : c.d = 1
 ·rcases h.s with e | e
  ·exact ⟨1, by omega, by omega, leg_al h (two := false) d1 1 (by rw [e]; decide)⟩
  ·exact ⟨3, by omega, by omega, leg_al h (two := false) d1 3 (by rw [e]; decide)⟩
 ·by_cases d2 : c.d = 2
  ·rcases h.s with e | e
   ·exact ⟨2, by omega, by omega, leg_al h (two := true) d2 2 (by rw [e]; decide)⟩
   ·exact ⟨2, by omega, by omega, leg_al h (two := true) d2 2 (by rw [e]; decide)⟩
  ·exact ⟨(c.d % 2).toNat, by omega, by omega, leg_free h (by omega) (by omega) (by omega)⟩
theorem leg_par {c : Co} (h : c.o = true) {t : Nat} (hl : legP (wy c (t : Int))) : ((t : Int) - c.d) % 2 = 0 := by
 unfold legP wy at hl
 dsimp only at hl
 rw [if_pos h] at hl
 exact hl.2.2.2.2.2.2.2.1
def dS (h : Nat → Co) : List Nat → Int
 | [] => 0
 | i :: l => (h i).d + dS h l
theorem fea_par {h : Nat → Co} : ∀ {l : List Nat} {s : Nat}, (∀ i ∈ l, (h i).o = true) → fea h l s → ((s : Int) - dS h l) % 2 = 0
 | [], s, _, hf => by unfold fea at hf; unfold dS; omega
 | i :: l, s, ho, hf => by
  obtain ⟨t, ht, h1, h2⟩ := fea_cons.1 hf
  have p1 := leg_par (ho i (by simp)) h1
  have p2 := fea_par (fun j hj => ho j (by simp [hj])) h2
  unfold dS
  omega
def full (h : Nat → Co) (l : List Nat) : Prop := ∀ s : Nat, ((s : Int) - dS h l) % 2 = 0 → fea h l s
theorem full_cons {h : Nat → Co} {a : Nat} {l : List Nat} (ha : Okc (h a)) (hl : full h l) : full h (a :: l) := fun s hs => by
 obtain ⟨t, ht, hp, hg⟩ := leg_ex ha
 unfold dS at hs
 exact fea_cons.2 ⟨t, ht, hg, hl _ (by omega)⟩
theorem fea_some {h : Nat → Co} : ∀ {l : List Nat}, (∀ i ∈ l, Okc (h i)) → ∃ s, fea h l s
 | [], _ => ⟨0, by unfold fea; rfl⟩
 | i :: l, ho => by
  obtain ⟨t, ht, _, hg⟩ := leg_ex (ho i (by simp))
  obtain ⟨s, hs⟩ := fea_some (l := l) fun j hj => ho j (by simp [hj])
  exact ⟨s + t, fea_cons.2 ⟨t, ht, hg, (fea_mod (by omega)).1 hs⟩⟩
theorem full_free {h : Nat → Co} {a : Nat} {l : List Nat} (ha : Okc (h a)) (hd : 3 ≤ (h a).d) (hl : ∀ i ∈ l, Okc (h i)) : full h (a :: l) := fun s hs => by
 obtain ⟨s0, h0⟩ := fea_some hl
 have p0 := fea_par (fun i hi => (hl i hi).o) h0
 unfold dS at hs
 exact fea_cons.2 ⟨(s + 7 * s0) % 8, Nat.mod_lt _ (by decide), leg_free ha hd (Nat.mod_lt _ (by decide)) (by omega), (fea_mod (by omega)).1 h0⟩
theorem cls {c : Co} (h : Okc c) (hd : ¬ 3 ≤ c.d) : ∃ two : Bool, c.d = 1 + (two.toNat : Int) := by
 have := h.d0
 by_cases e : c.d = 1
 ·exact ⟨false, e⟩
 ·exact ⟨true, by show c.d = 1 + 1; omega⟩
theorem fea_two {h : Nat → Co} {a b : Nat} {s : Nat} {t u : Nat} (ht : t < 8) (hu : u < 8) (h1 : legP (wy (h a) (t : Int))) (h2 : legP (wy (h b) (u : Int))) (hs : (t + u) % 8 = s % 8) : fea h [a, b] s :=
 fea_cons.2 ⟨t, ht, h1, fea_cons.2 ⟨u, hu, h2, by unfold fea; omega⟩⟩
theorem full_pair {h : Nat → Co} {a b : Nat} (ha : Okc (h a)) (hb : Okc (h b)) (hn : ¬ ((h a).d = 1 ∧ (h b).d = 1)) : full h [a, b] := by
 by_cases d1 : 3 ≤ (h a).d
 ·exact full_free ha d1 (fun i hi => by simp at hi; rw [hi]; exact hb)
 ·by_cases d2 : 3 ≤ (h b).d
  ·exact full_cons ha (full_free hb d2 (fun i hi => by cases hi))
  ·intro s hs
   obtain ⟨x, hx⟩ := cls ha d1
   obtain ⟨y, hy⟩ := cls hb d2
   unfold dS dS dS at hs
   have hxy : x = true ∨ y = true := by
    cases x with
    | true => exact .inl rfl
    | false =>
     cases y with
     | true => exact .inr rfl
     | false => exact absurd ⟨hx, hy⟩ hn
   obtain ⟨t, u, h1, h2, h3⟩ := pairW x y (decide ((h a).s = -1)) (decide ((h b).s = -1)) ⟨s % 8, Nat.mod_lt _ (by decide)⟩ hxy (by dsimp only; omega)
   exact fea_two t.2 u.2 (leg_al ha hx t h1) (leg_al hb hy u h2) h3
theorem full_trip {h : Nat → Co} {a b c : Nat} (ha : Okc (h a)) (hb : Okc (h b)) (hc : Okc (h c)) (d2 : (h b).d = 1) (d3 : (h c).d = 1) : full h [a, b, c] := by
 by_cases d1 : 3 ≤ (h a).d
 ·refine full_free ha d1 (fun i hi => ?_)
  simp at hi
  rcases hi with rfl | rfl
  ·exact hb
  ·exact hc
 ·intro s hs
  obtain ⟨x, hx⟩ := cls ha d1
  unfold dS dS dS dS at hs
  obtain ⟨t, u, v, h1, h2, h3, h4⟩ := tripW x (decide ((h a).s = -1)) (decide ((h b).s = -1)) (decide ((h c).s = -1)) ⟨s % 8, Nat.mod_lt _ (by decide)⟩ (by dsimp only; omega)
  have h4 : (t.1 + u.1 + v.1) % 8 = s % 8 := h4
  have := t.2
  exact fea_cons.2 ⟨t.1, t.2, leg_al ha hx t h1, fea_two u.2 v.2 (leg_al hb (two := false) d2 u h2) (leg_al hc (two := false) d3 v h3) (by omega)⟩
theorem full_all {h : Nat → Co} : ∀ {l : List Nat}, (∀ i ∈ l, Okc (h i)) → 2 ≤ l.length → ¬ (l.length = 2 ∧ (h (l.getD 0 0)).d = 1 ∧ (h (l.getD 1 0)).d = 1) → full h l
 | [], _, h2, _ => by simp at h2
 | [_], _, h2, _ => by simp at h2
 | [a, b], ho, _, hn => full_pair (ho a (by simp)) (ho b (by simp)) (fun hd => hn ⟨rfl, hd⟩)
 | a :: b :: c :: r, ho, _, _ => by
  by_cases hb : (b :: c :: r).length = 2 ∧ (h ((b :: c :: r).getD 0 0)).d = 1 ∧ (h ((b :: c :: r).getD 1 0)).d = 1
  ·obtain ⟨h1, h2, h3⟩ := hb
   have hr : r = [] := by
    cases r with
    | nil => rfl
    | cons => simp at h1
   subst hr
   exact full_trip (ho a (by simp)) (ho b (by simp)) (ho c (by simp)) h2 h3
  ·exact full_cons (ho a (by simp)) (full_all (l := b :: c :: r) (fun i hi => ho i (List.mem_cons_of_mem _ hi)) (by simp) hb)
theorem fea_four {h : Nat → Co} {l : List Nat} {s : Nat} (ho : ∀ i ∈ l, Okc (h i)) (h2 : 2 ≤ l.length) (hg : l.length ≠ 2 ∨ (h (l.getD 0 0)).d ≠ 1 ∨ (h (l.getD 1 0)).d ≠ 1 ∨ s % 4 ≠ 0) (hf : fea h l s) : fea h l (s + 4) := by
 have hp := fea_par (fun i hi => (ho i hi).o) hf
 by_cases hn : l.length = 2 ∧ (h (l.getD 0 0)).d = 1 ∧ (h (l.getD 1 0)).d = 1
 ·obtain ⟨n1, n2, n3⟩ := hn
  match l, n1 with
  | [a, b], _ =>
   have n2 : (h a).d = 1 := n2
   have n3 : (h b).d = 1 := n3
   unfold dS dS dS at hp
   obtain ⟨t, u, q1, q2, q3⟩ := pairW1 (decide ((h a).s = -1)) (decide ((h b).s = -1)) ⟨(s + 4) % 8, Nat.mod_lt _ (by decide)⟩ (by
    dsimp only
    rcases hg with g | g | g | g
    ·exact absurd rfl g
    ·exact absurd n2 g
    ·exact absurd n3 g
    ·omega)
   exact fea_two t.2 u.2 (leg_al (ho a (by simp)) (two := false) n2 t q1) (leg_al (ho b (by simp)) (two := false) n3 u q2) q3
 ·exact full_all ho h2 hn (s + 4) (by omega)
theorem leg_flip {c c' : Co} (h : Okc c) (hc : c'.e = c.e ∧ c'.d = c.d ∧ c'.s = -c.s ∧ c'.o = c.o) {t : Nat} (ht : t < 8) (hl : legP (wy c (t : Int))) : legP (wy c' (((t + 4) % 8 : Nat) : Int)) := by
 obtain ⟨c1, c2, c3, c4⟩ := hc
 unfold legP wy at *
 dsimp only at *
 rw [c1, c2, c3, c4]
 rw [if_pos h.o] at hl ⊢
 obtain ⟨a1, a2, a3, a4, a5, a6, a7, a8, a9, a10, a11, a12⟩ := hl
 refine ⟨a1, a2, a3, a4, by omega, by omega, by omega, by omega, ?_, ?_, ?_, ?_⟩
 ·rintro ⟨x, y⟩; have := a10 ⟨x, by omega⟩; omega
 ·rintro ⟨x, y⟩; have := a9 ⟨x, by omega⟩; omega
 ·rintro ⟨x, y⟩; have := a12 ⟨x, by omega⟩; omega
 ·rintro ⟨x, y⟩; have := a11 ⟨x, by omega⟩; omega
theorem fea_flip {g h : Nat → Co} {x : Nat} (hx : Okc (g x)) (hc : (h x).e = (g x).e ∧ (h x).d = (g x).d ∧ (h x).s = -(g x).s ∧ (h x).o = (g x).o) : ∀ {l : List Nat} {s : Nat}, l.Pairwise (· < ·) → x ∈ l → (∀ j ∈ l, j ≠ x → ∀ t, wy (h j) t = wy (g j) t) → fea g l s → fea h l (s + 4)
 | a :: l, s, hp, hm, hw, hf => by
  obtain ⟨t, ht, h1, h2⟩ := fea_cons.1 hf
  obtain ⟨p1, p2⟩ := List.pairwise_cons.1 hp
  by_cases e : a = x
  ·subst e
   have hno : ∀ j ∈ l, j ≠ a := fun j hj e => by have := p1 j hj; omega
   refine fea_cons.2 ⟨(t + 4) % 8, Nat.mod_lt _ (by decide), leg_flip hx hc ht h1, ?_⟩
   have : fea h l (s + (8 - t)) := (fea_congr fun j hj u => hw j (by simp [hj]) (hno j hj) u).2 h2
   exact (fea_mod (by omega)).1 this
  ·have hm' : x ∈ l := (List.mem_cons.1 hm).resolve_left (fun e' => e e'.symm)
   refine fea_cons.2 ⟨t, ht, by rw [hw a (by simp) e]; exact h1, ?_⟩
   have := fea_flip hx hc p2 hm' (fun j hj => hw j (by simp [hj])) h2
   exact (fea_mod (by omega)).1 this
end Go.Proofs.YtdieokoenhncfaaGreatDoor

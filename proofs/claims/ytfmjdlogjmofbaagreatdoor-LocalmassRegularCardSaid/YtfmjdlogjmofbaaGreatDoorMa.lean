/- Plain number theory: squarefree parts, discriminants. -/
import Derived.Test.YtfmjdlogjmofbaaGreatDoorSymbol
import Derived.Test.YtfmjdlogjmofbaaGreatDoorLeast
import Derived.Test.YtfmjdlogjmofbaaGreatDoorRb
import Derived.Test.YtfmjdlogjmofbaaGreatDoorF
import Derived.Test.YtfmjdlogjmofbaaGreatDoorMem
import Derived.Test.YtfmjdlogjmofbaaGreatDoorW
set_option maxRecDepth 3000
namespace Go.Proofs.YtfmjdlogjmofbaaGreatDoor.Num
def SF (m : Nat) : Prop := ∀ d, d * d ∣ m → d = 1
def SqF (n s : Int) (r : Nat) : Prop := n = s * (r * r : Nat) ∧ n ≠ 0 ∧ SF s.natAbs
theorem SqF.pos {n s : Int} {r : Nat} (h : SqF n s r) : 1 ≤ r ∧ s ≠ 0 := by
 obtain ⟨h1, h2, _⟩ := h
 refine ⟨?_, ?_⟩
 ·rcases Nat.eq_zero_or_pos r with h0 | h0
  ·subst h0; simp at h1; exact absurd h1 h2
  ·exact h0
 ·rintro rfl; simp at h1; exact h2 h1
theorem SqF.abs {n s : Int} {r : Nat} (h : SqF n s r) : n.natAbs = s.natAbs * (r * r) := by
 rw [h.1, Int.natAbs_mul]; rfl
theorem SF.unique {a b r u : Nat} (ha : SF a) (hb : SF b) (hr : 1 ≤ r) (h : a * (r * r) = b * (u * u)) : a = b ∧ r = u := by
 obtain ⟨g, hg⟩ : ∃ g, Nat.gcd r u = g := ⟨_, rfl⟩
 have hgpos : 0 < g := hg ▸ Nat.gcd_pos_of_pos_left u hr
 obtain ⟨x, hx⟩ := hg ▸ Nat.gcd_dvd_left r u
 obtain ⟨y, hy⟩ := hg ▸ Nat.gcd_dvd_right r u
 have hc : Nat.Coprime x y := by
  have h1 : Nat.gcd (g * x) (g * y) = g * Nat.gcd x y := Nat.gcd_mul_left g x y
  rw [← hx, ← hy, hg] at h1
  have : g * 1 = g * Nat.gcd x y := oM
  exact (Nat.eq_of_mul_eq_mul_left hgpos this).symm
 have e : a * (x * x) = b * (y * y) := by
  have h1 : (g * g) * (a * (x * x)) = (g * g) * (b * (y * y)) := by
   rw [hx, hy] at h
   have p1 : (g * g) * (a * (x * x)) = a * (g * x * (g * x)) := by
    rw [Nat.mul_mul_mul_comm g x g x, Nat.mul_left_comm]
   have p2 : (g * g) * (b * (y * y)) = b * (g * y * (g * y)) := by
    rw [Nat.mul_mul_mul_comm g y g y, Nat.mul_left_comm]
   rw [p1, p2, h]
  exact Nat.eq_of_mul_eq_mul_left (Nat.mul_pos hgpos hgpos) h1
 have hcc : Nat.Coprime (x * x) (y * y) := Nat.Coprime.mul_right (Nat.Coprime.mul_left hc hc) (Nat.Coprime.mul_left hc hc)
 have d1 : x * x ∣ b := hcc.dvd_of_dvd_mul_right (e ▸ Nat.dvd_mul_left (x * x) a)
 have d2 : y * y ∣ a := hcc.symm.dvd_of_dvd_mul_right (e ▸ Nat.dvd_mul_left (y * y) b)
 have hx1 := hb x d1
 have hy1 := ha y d2
 subst hx1 hy1
 exact ⟨oM, oM⟩
theorem SqF.unique {n s t : Int} {r u : Nat} (h1 : SqF n s r) (h2 : SqF n t u) : s = t ∧ r = u := by
 have e : s.natAbs * (r * r) = t.natAbs * (u * u) := h1.abs.symm.trans h2.abs
 obtain ⟨e1, e2⟩ := SF.unique h1.2.2 h2.2.2 h1.pos.1 e
 subst e2
 refine ⟨?_, rfl⟩
 have := h1.1.symm.trans h2.1
 exact Int.eq_of_mul_eq_mul_right (by have := Nat.mul_pos h1.pos.1 h1.pos.1; omega) this
def sOf (L : List (Nat × Nat)) : Nat := aZ2 (L.map fun x => if x.2 % 2 = 1 then x.1 else 1)
def rOf (L : List (Nat × Nat)) : Nat := aZ2 (L.map fun x => x.1 ^ (x.2 / 2))
def pOf (L : List (Nat × Nat)) : Nat := aZ2 (L.map fun x => x.1 ^ x.2)
theorem sr_one (p e : Nat) : p ^ e = (if e % 2 = 1 then p else 1) * (p ^ (e / 2) * p ^ (e / 2)) := by
 rw [← Nat.pow_add]
 by_cases h : e % 2 = 1
 ·rw [if_pos h, Nat.mul_comm, ← Nat.pow_succ]; congr 1; omega
 ·rw [if_neg h, Nat.one_mul]; congr 1; omega
theorem qZa (L : List (Nat × Nat)) : pOf L = sOf L * (rOf L * rOf L) := by
 induction L with
 | nil => simp [pOf, sOf, rOf, aZ2]
 | cons x l ih =>
  simp only [pOf, sOf, rOf, List.map_cons, aZ2] at *
  rw [ih, sr_one x.1 x.2]
  generalize (if x.2 % 2 = 1 then x.1 else 1) = A
  generalize x.1 ^ (x.2 / 2) = B
  generalize aZ2 (l.map fun x => if x.2 % 2 = 1 then x.1 else 1) = C
  generalize aZ2 (l.map fun x => x.1 ^ (x.2 / 2)) = D
  rw [Nat.mul_mul_mul_comm A (B * B) C (D * D), Nat.mul_mul_mul_comm B B D D]
theorem qZb (n : Nat) (h : 1 ≤ n) : pOf (pw n) = n := by
 induction n using Nat.strongRecOn with
 | _ n ih =>
  by_cases h2 : n < 2
  ·rw [eZS h2]; simp [pOf, aZ2]; omega
  ·obtain ⟨s1, s2⟩ := bZN n (lf n) n (aZU n oM).1 oM (Nat.le_refl n)
   have hlt := dZn oM s1 s2
   rw [gZC oM s1 s2]
   have := ih _ hlt.1 hlt.2.1
   simp only [pOf, List.map_cons, aZ2] at this ⊢
   rw [this, Nat.mul_comm]; exact s1.symm
theorem kZK (a b : List (Nat × Nat)) : pOf (a ++ b) = pOf a * pOf b := by simp [pOf, cZ2]
theorem kZ8 (a b : List (Nat × Nat)) : sOf (a ++ b) = sOf a * sOf b := by simp [sOf, cZ2]
theorem kZG (a b : List (Nat × Nat)) : rOf (a ++ b) = rOf a * rOf b := by simp [rOf, cZ2]
theorem lZV (n : Nat) (h : 1 ≤ n) : (∀ x ∈ pw n, Pr x.1 ∧ x.1 ∣ n) ∧ (pw n).Pairwise (fun x y => x.1 < y.1) := by
 induction n using Nat.strongRecOn with
 | _ n ih =>
  by_cases h2 : n < 2
  ·rw [eZS h2]; exact ⟨by simp, List.Pairwise.nil⟩
  ·obtain ⟨s1, s2⟩ := bZN n (lf n) n (aZU n oM).1 oM (Nat.le_refl n)
   have hlt := dZn oM s1 s2
   obtain ⟨i1, i2⟩ := ih _ hlt.1 hlt.2.1
   have hdv : (dZQ n (lf n) n).1 ∣ n := ⟨lf n ^ (dZQ n (lf n) n).2, s1⟩
   rw [gZC oM s1 s2]
   refine ⟨?_, ?_⟩
   ·intro x hx
    rcases List.mem_cons.1 hx with rfl | hx
    ·exact ⟨mZ9 n oM, (aZU n oM).2.1⟩
    ·exact ⟨(i1 x hx).1, Nat.dvd_trans (i1 x hx).2 hdv⟩
   ·rw [List.pairwise_cons]
    refine ⟨fun y hy => ?_, i2⟩
    show lf n < y.1
    have hy1 := i1 y hy
    rcases Nat.lt_trichotomy (lf n) y.1 with hl | hl | hl
    ·exact hl
    ·exact absurd (hl ▸ hy1.2) s2
    ·exact absurd (Nat.dvd_trans hy1.2 hdv) ((aZU n oM).2.2 _ hy1.1.1 hl)
theorem iZw : ∀ {P : List Nat}, (∀ q ∈ P, Pr q) → P.Nodup → SF (aZ2 P)
 | P, hP, hn, d, hd => by
  rcases Nat.lt_or_ge d 2 with h | h
  ·rcases Nat.eq_zero_or_pos d with h0 | h0
   ·subst h0
    have := Nat.eq_zero_of_zero_dvd (by simpa using hd)
    have := hZC hP
    omega
   ·omega
  ·obtain ⟨_, hq, _⟩ := aZU d h
   have hqp := mZ9 d h
   have hqq : lf d * lf d ∣ aZ2 P := Nat.dvd_trans (Nat.mul_dvd_mul hq hq) hd
   have hm : lf d ∈ P := hqp.mem_of_dvd hP (Nat.dvd_trans (Nat.dvd_mul_right _ _) hqq)
   have hperm := List.perm_cons_erase hm
   rw [fZZ hperm] at hqq
   have h2 : lf d ∣ aZ2 (P.erase (lf d)) := Nat.dvd_of_mul_dvd_mul_left (by have := hqp.1; omega) hqq
   have hm2 := hqp.mem_of_dvd (fun q hq => hP q (List.mem_of_mem_erase hq)) h2
   have := (hperm.nodup_iff).1 hn
   rw [List.nodup_cons] at this
   exact absurd hm2 this.1
theorem kZ7 (L : List (Nat × Nat)) : sOf L = aZ2 ((L.filter fun x => x.2 % 2 = 1).map (·.1)) := by
 unfold sOf
 induction L with
 | nil => rfl
 | cons x l ih =>
  by_cases h : x.2 % 2 = 1
  ·simp [aZ2, h, ih]
  ·simp [aZ2, h, ih]
theorem sOf_sf (n : Nat) (h : 1 ≤ n) : SF (sOf (pw n)) := by
 obtain ⟨h1, h2⟩ := lZV n h
 rw [kZ7]
 refine iZw ?_ ?_
 ·intro q hq
  obtain ⟨x, hx, rfl⟩ := List.mem_map.1 hq
  exact (h1 x (List.mem_filter.1 hx).1).1
 ·rw [List.nodup_iff_pairwise_ne, List.pairwise_map]
  exact (h2.filter _).imp fun hlt => oM
def sfS (n : Int) : Int := (if n < 0 then -1 else 1) * (sOf (pw n.natAbs) : Nat)
def sfR (n : Int) : Nat := rOf (pw n.natAbs)
theorem oZc (n : Int) (h : n ≠ 0) : SqF n (sfS n) (sfR n) := by
 have e := qZb n.natAbs oM
 rw [qZa] at e
 refine ⟨?_, h, ?_⟩
 ·unfold sfS sfR
  rw [Int.mul_assoc]
  rw [show ((sOf (pw n.natAbs) : Nat) : Int) * ((rOf (pw n.natAbs) * rOf (pw n.natAbs) : Nat) : Int) = ((sOf (pw n.natAbs) * (rOf (pw n.natAbs) * rOf (pw n.natAbs)) : Nat) : Int) by simp, e]
  split <;> omega
 ·have : (sfS n).natAbs = sOf (pw n.natAbs) := by unfold sfS; split <;> omega
  rw [this]
  exact sOf_sf _ oM
def disc (n : Int) : Int := if sfS n % 4 = 1 then sfS n else 4 * sfS n
theorem SqF.bound {n s : Int} {r : Nat} (h : SqF n s r) : s.natAbs ≤ n.natAbs ∧ r * r ≤ n.natAbs ∧ r ≤ n.natAbs := by
 have e := h.abs
 have h1 := h.pos.1
 have h2 : 1 ≤ s.natAbs := by have := h.pos.2; omega
 have p1 := Nat.le_mul_of_pos_right s.natAbs (Nat.mul_pos h1 h1)
 have p2 := Nat.le_mul_of_pos_left (r * r) h2
 have p3 := Nat.le_mul_of_pos_left r h1
 omega
end Go.Proofs.YtfmjdlogjmofbaaGreatDoor.Num
namespace Go.Proofs.YtfmjdlogjmofbaaGreatDoor
section
open Go.RowKit Num
theorem mZd {L : List (Nat × Nat)} (h : ∀ x ∈ L, 2 ≤ x.1) : 1 ≤ pOf L ∧ 1 ≤ sOf L ∧ 1 ≤ rOf L := by
 induction L with
 | nil => simp [pOf, sOf, rOf, aZ2]
 | cons x l ih =>
  obtain ⟨i1, i2, i3⟩ := ih fun y hy => h y (by simp [hy])
  have hx := h x (by simp)
  simp only [pOf, sOf, rOf, List.map_cons, aZ2] at *
  refine ⟨Nat.mul_pos (cZW hx _) i1, Nat.mul_pos ?_ i2, Nat.mul_pos (cZW hx _) i3⟩
  split <;> omega
theorem sq_at {m i p e : Nat} {L : List (Nat × Nat)} (hm : pOf L = m) (h2 : ∀ x ∈ L, 2 ≤ x.1) (hi : L[i]? = some (p, e)) :
  sOf (L.take (i + 1)) = sOf (L.take i) * (if e % 2 = 1 then p else 1) ∧ rOf (L.take (i + 1)) = rOf (L.take i) * p ^ (e / 2) ∧ sOf (L.take (i + 1)) ≤ m ∧ rOf (L.take (i + 1)) ≤ m ∧
  ∀ j, j ≤ e / 2 → rOf (L.take i) * p ^ j ≤ m := by
 have hil : i < L.length := (List.getElem?_eq_some_iff.1 hi).1
 have ht : L.take (i + 1) = L.take i ++ [(p, e)] := by
  rw [List.take_succ_eq_append_getElem hil]
  congr 2
  exact (List.getElem?_eq_some_iff.1 hi).2
 have e1 : sOf (L.take (i + 1)) = sOf (L.take i) * (if e % 2 = 1 then p else 1) := by rw [ht, kZ8]; simp [sOf, aZ2]
 have e2 : rOf (L.take (i + 1)) = rOf (L.take i) * p ^ (e / 2) := by rw [ht, kZG]; simp [rOf, aZ2]
 have hle : sOf (L.take (i + 1)) ≤ m ∧ rOf (L.take (i + 1)) ≤ m := by
  have hsplit : pOf (L.take (i + 1)) * pOf (L.drop (i + 1)) = m := by rw [← kZK, List.take_append_drop]; exact hm
  have q1 := mZd (L := L.take (i + 1)) fun x hx => h2 x (List.mem_of_mem_take hx)
  have q2 := mZd (L := L.drop (i + 1)) fun x hx => h2 x (List.mem_of_mem_drop hx)
  have q3 := Nat.le_mul_of_pos_right (pOf (L.take (i + 1))) q2.1
  have q4 := qZa (L.take (i + 1))
  have q5 := Nat.le_mul_of_pos_right (sOf (L.take (i + 1))) (Nat.mul_pos q1.2.2 q1.2.2)
  have q6 := Nat.le_mul_of_pos_left (rOf (L.take (i + 1)) * rOf (L.take (i + 1))) q1.2.1
  have q7 := Nat.le_mul_of_pos_left (rOf (L.take (i + 1))) q1.2.2
  omega
 refine ⟨e1, e2, hle.1, hle.2, fun j hj => ?_⟩
 refine Nat.le_trans (Nat.mul_le_mul_left _ (Nat.pow_le_pow_right ?_ hj)) (e2 ▸ hle.2)
 have := h2 (p, e) (List.mem_of_getElem? hi)
 simp only at this; omega
def sgn (n : Int) : Int := if n < 0 then -1 else 1
theorem lZC (n : Int) : sgn n = 1 ∨ sgn n = -1 := by unfold sgn; split <;> simp
set_option maxHeartbeats 1000000 in
theorem sqf_any (n : Int) (w : World) (h0 : n ≠ 0) (hn : InR n) (ht : Tab w) :
  Calls Tryz.prog 90 #[.int .i64 n] w fun e w' => e = .returned (.tuple #[.int .i64 (sfS n), .int .i64 (sfR n), .int .i64 0]) ∧ Below w.heap.size w w' := by
 unfold InR at hn
 obtain ⟨n1, n2⟩ := hn
 have b0 : (n == 0) = false := by rw [beq_eq_false_iff_ne]; exact h0
 obtain ⟨m, hm⟩ : ∃ m : Nat, n.natAbs = m := ⟨_, rfl⟩
 have m1 : 1 ≤ m := oM
 have m2 : m ≤ 2147483647 := oM
 have cF := lZb m w m1 m2 ht
 have hp := qZb m m1
 have hb := (pw_bd m m1).2
 have hlen := (pw_bd m m1).1
 have HS : Hid (sfS n = sgn n * (sOf (pw m) : Nat) ∧ sfR n = rOf (pw m)) := by
  refine ⟨?_, ?_⟩
  ·unfold sfS sgn; rw [hm]
  ·unfold sfR; rw [hm]
 unfold gZs at cF
 obtain ⟨L, hL⟩ : ∃ L, pw m = L := ⟨_, rfl⟩
 rw [hL] at cF hp hb HS hlen
 have HP := Lib.hid hp
 have HB := Lib.hid hb
 have CF := Lib.hid cF
 have hways : ∃ c s : Int, c = (m : Int) ∧ s = sgn n ∧ ((n < 0 ∧ c = -n ∧ s = -1) ∨ (¬ n < 0 ∧ c = n ∧ s = 1)) := by
  by_cases h : n < 0
  ·exact ⟨m, -1, rfl, by rw [sgn, if_pos h], .inl ⟨h, oM, rfl⟩⟩
  ·exact ⟨m, 1, rfl, by rw [sgn, if_neg h], .inr ⟨h, oM, rfl⟩⟩
 obtain ⟨c, s, hcm, hs, hways⟩ := hways
 rw [← hcm] at CF
 have HSG := Lib.hid hs
 clear hcm hs hL hp hb cF hm
 rcases hways with ⟨hn0, hc, rfl⟩ | ⟨hn0, hc, rfl⟩
 all_goals
  rw [hc] at CF
  clear hc
  go_enter Tryz.func90, Tryz.ntmps90
  go_wp2_with (go_at_call 143; refine CF.out.mono ?_; rintro e w1 ⟨v, rfl, hown, hbel⟩; have HRd := Lib.hid (Rd.of_owns hown); obtain ⟨a0, cap, rfl, hcap, hcm, hrd⟩ := Rd.of_owns hown; have HB1 := Lib.hid hbel; clear hrd hown hbel hcap hcm)
  go_loopg [5, 6, 10, 32] L.length (fun g s5 s6 s10 s32 wr => ∃ (i R : Nat) (S : Int), i + g = L.length ∧ S.natAbs ≤ m ∧ R ≤ m ∧ s5 = .int .i64 S ∧ s6 = .int .i64 R ∧ s32 = .int .i64 i ∧ S = sgn n * (sOf (L.take i) : Nat) ∧ R = rOf (L.take i) ∧ Below w1.heap.size w1 wr)
  case atStart => exact ⟨0, 1, _, oM, oM, m1, rfl, rfl, rfl, by rw [← HSG.out]; simp [sOf, aZ2], by simp [rOf, aZ2], Below.refl _ _⟩
  case round =>
   obtain ⟨i, R, S, hig, hS, hR, rfl, rfl, rfl, eS, eR, hbx⟩ := hrel
   have HBX := Lib.hid hbx
   have ES := Lib.hid eS
   have ER := Lib.hid eR
   clear eS eR
   cases gk with
   | zero =>
    obtain rfl : i = L.length := oM
    have HE : Hid (sfS n = S ∧ sfR n = R) := by
     have h1 := ES.out
     have h2 := ER.out
     rw [List.take_length] at h1 h2
     exact ⟨HS.out.1.trans h1.symm, HS.out.2.trans h2.symm⟩
    clear hbx
    go_wp2_with fail
    go_ret3
    exact ⟨by rw [HE.out.1, HE.out.2]; rfl, nZx HB1.out HBX.out⟩
   | succ g =>
    obtain ⟨⟨p, e⟩, hpe⟩ : ∃ x, L[i]? = some x := ⟨_, List.getElem?_eq_getElem oM⟩
    obtain ⟨b, off, cap', hv, hb, hc1, hc2⟩ := (HRd.out.below hbx).pow hpe
    obtain ⟨q1, q2, q3, q4⟩ := HB.out (p, e) (List.mem_of_getElem? hpe)
    simp only at q1 q2 q3 q4
    have he30 := qZ5 q2 q4 m2
    injection hv with hv1 hv2 hv3
    subst hv1 hv3
    obtain ⟨t1, t2, t3, t4, t5⟩ := sq_at HP.out (fun x hx => (HB.out x hx).2.1) hpe
    have hlt : (i : Int) < (L.length : Int) := oM
    obtain ⟨S', hS'⟩ : ∃ S' : Int, S' = sgn n * (sOf (L.take (i + 1)) : Nat) := ⟨_, rfl⟩
    have hS'b : S'.natAbs ≤ m := by rw [hS']; rcases lZC n with h | h <;> rw [h] <;> omega
    have HT := Lib.hid (show S' = S * (if e % 2 = 1 then (p : Int) else 1) by
     rw [hS', t1, ES.out, Int.natCast_mul, ← Int.mul_assoc]; split <;> rfl)
    have HT2 : Hid (rOf (L.take (i + 1)) = R * p ^ (e / 2)) := by show _ = _; rw [t2, ER.out]
    have HT5 : Hid (∀ j, j ≤ e / 2 → R * p ^ j ≤ m) := by intro j hj; have := t5 j hj; rwa [← ER.out] at this
    have HS' := Lib.hid hS'
    have HT4 := Lib.hid t4
    clear hv2 hbx hpe q3 q4 t1 t2 t3 t4 t5 hS'
    obtain ⟨wo, rfl⟩ : ∃ wo : World, wo = wr := ⟨_, rfl⟩
    obtain ⟨go, rfl⟩ : ∃ go : Nat, go = g := ⟨_, rfl⟩
    have hodd : (((e : Int) % 2 == 1) = true ∧ S' = S * (p : Int)) ∨ (((e : Int) % 2 == 1) = false ∧ S' = S) := by
     rcases Nat.mod_two_eq_zero_or_one e with h | h
     ·right; exact ⟨by rw [beq_eq_false_iff_ne]; omega, by have := HT.out; rwa [if_neg oM, Int.mul_one] at this⟩
     ·left; exact ⟨by rw [beq_iff_eq]; omega, by have := HT.out; rwa [if_pos h] at this⟩
    rcases hodd with ⟨ho, hs'⟩ | ⟨ho, hs'⟩
    all_goals
     have hsb : -2147483647 ≤ S' ∧ S' ≤ 2147483647 := oM
     rw [hs'] at hsb HS' hS'b
     clear hs' HT
     obtain ⟨hsb1, hsb2⟩ := hsb
     go_wp2_with fail
     go_loopg [6, 47] (e / 2) (fun g s6 s47 wx => ∃ (j R' : Nat), j + g = e / 2 ∧ R' ≤ m ∧ s6 = .int .i64 R' ∧ s47 = .int .i64 j ∧ wx = wo.alloc (.cells #[.int .i64 p, .int .i64 e] 189) ∧ R' = R * p ^ j)
     case atStart => exact ⟨0, R, oM, hR, rfl, rfl, rfl, by rw [Nat.pow_zero, Nat.mul_one]⟩
     case round =>
      obtain ⟨j, R', hje, hR', rfl, rfl, rfl, eR'⟩ := hrel
      cases gk with
      | zero =>
       have hge : ¬ (j : Int) < (e : Int) / 2 := oM
       have HR' : Hid (R' = rOf (L.take (i + 1))) := by rw [HT2.out, show e / 2 = j by omega]; exact eR'
       clear eR'
       go_wp2_with fail
       go_roundg go
       case measure => omega
       case rel => exact ⟨i + 1, R', _, oM, hS'b, oM, rfl, rfl, by go_num, HS'.out, HR'.out, HBX.out.alloc HBX.out.size _⟩
      | succ k =>
       have hlt2 : (j : Int) < (e : Int) / 2 := oM
       have hR2 : R' * p = R * p ^ (j + 1) := by rw [eR', Nat.pow_succ, Nat.mul_assoc]
       have hb2 : R' * p ≤ m := by rw [hR2]; exact HT5.out (j + 1) oM
       have hb3 : (R' : Int) * (p : Int) ≤ 2147483647 := dZK (Nat.le_trans hb2 m2)
       have hb4 : 0 ≤ (R' : Int) * (p : Int) := Int.mul_nonneg oM oM
       have HR2 := Lib.hid hR2
       have HB2 := Lib.hid hb2
       clear eR' hR2 hb2
       go_wp2_with fail
       go_roundg k
       case measure => omega
       case rel => exact ⟨j + 1, R' * p, oM, HB2.out, by go_num, by go_num, rfl, HR2.out⟩
def QInv (n x : Int) (r d : Nat) : Prop := n = x * (r * r : Nat) ∧ n ≠ 0 ∧ ∀ t, 2 ≤ t → t < d → ¬ t * t ∣ x.natAbs
theorem QInv.pos {n x : Int} {r d : Nat} (h : QInv n x r d) : 1 ≤ r ∧ x ≠ 0 ∧ x.natAbs ≤ n.natAbs ∧ r ≤ n.natAbs := by
 obtain ⟨h1, h2, _⟩ := h
 have hr : 1 ≤ r := by
  rcases Nat.eq_zero_or_pos r with h0 | h0
  ·subst h0; simp at h1; exact absurd h1 h2
  ·exact h0
 have hx : x ≠ 0 := by rintro rfl; simp at h1; exact h2 h1
 have e : n.natAbs = x.natAbs * (r * r) := by rw [h1, Int.natAbs_mul]; rfl
 have p1 := Nat.le_mul_of_pos_right x.natAbs (Nat.mul_pos hr hr)
 have p2 := Nat.le_mul_of_pos_left (r * r) (show 0 < x.natAbs by omega)
 have p3 := Nat.le_mul_of_pos_left r hr
 exact ⟨hr, hx, oM, oM⟩
theorem QInv.fin {n x : Int} {r d : Nat} (h : QInv n x r d) (hd : x.natAbs < d * d) : sfS n = x ∧ sfR n = r := by
 have hx := h.pos.2.1
 refine (oZc n h.2.1).unique ⟨h.1, h.2.1, fun t ht => ?_⟩
 rcases Nat.lt_or_ge t 2 with h2 | h2
 ·rcases Nat.eq_zero_or_pos t with h0 | h0
  ·subst h0
   simp at ht
   exact absurd ht hx
  ·omega
 ·rcases Nat.lt_or_ge t d with h3 | h3
  ·exact absurd ht (h.2.2 t h2 h3)
  ·have := Nat.le_of_dvd oM ht
   have := Nat.mul_le_mul h3 h3
   omega
theorem QInv.next {n x : Int} {r d : Nat} (h : QInv n x r d) (hd : ¬ d * d ∣ x.natAbs) : QInv n x r (d + 1) :=
 ⟨h.1, h.2.1, fun t h2 h3 => by
  by_cases e : t = d
  ·subst e; exact hd
  ·exact h.2.2 t h2 oM⟩
end
section
open Go.RowKit Limb Num
instance cslice_ints : CSlice Tryz.prog 116 32 := ⟨Tryz.underlying116⟩
instance celem_ints : CElem Tryz.prog 116 32 2 := ⟨Tryz.underlying116, by kernel_rfl⟩
instance crowz_int : CRowZ Tryz.prog 32 2 [.bool false, .slice none 0 0] 32 := ⟨by kernel_rfl, rfl, rfl⟩
def ScInv (X : List Nat) (a i : Nat) (O : List Nat) (c : Nat) : Prop := O.length = i ∧ Lm O ∧ c < B ∧ val O + B ^ i * c = val (X.take i) * a
theorem ScInv.step {X : List Nat} {a i x : Nat} {O : List Nat} {c : Nat} (hX : Lm X) (ha : a < 2147483648) (hx : X[i]? = some x) (h : ScInv X a i O c) : ScInv X a (i + 1) (O ++ [(c + x * a) % B]) ((c + x * a) / B) ∧ c + x * a < 18446744073709551616 := by
 obtain ⟨h1, h2, h3, h4⟩ := h
 have hxB := hX.get hx
 have hm : x * a ≤ 4294967295 * 2147483647 := Nat.mul_le_mul (by rw [aZv] at hxB; omega) oM
 have hlt : c + x * a < 18446744073709551616 := by rw [aZv] at h3; omega
 refine ⟨⟨by simp [h1], bZB h2 (Nat.mod_lt _ aZY), ?_, ?_⟩, hlt⟩
 ·rw [Nat.div_lt_iff_lt_mul aZY, aZv]; omega
 ·rw [bZk, h1, aZk, hx, Option.getD_some, Nat.add_mul, ← h4]
  have e := Nat.div_add_mod (c + x * a) B
  have : B ^ i * (c + x * a) = B ^ i * (B * ((c + x * a) / B)) + B ^ i * ((c + x * a) % B) := by rw [← Nat.mul_add, e]
  rw [Nat.pow_succ, Nat.mul_assoc, Nat.mul_assoc (B ^ i) x a]
  rw [Nat.mul_add] at this
  omega
section
variable (En : Ev)
end
def acc (s d : Int) (j : Nat) : Nat → Nat
 | 0 => 0
 | m + 1 => acc s d j m + (if krZ d ((m + 1 : Nat) : Int) = s then (m + 1) ^ j else 0)
theorem fkron (En : Ev) (a n : Int) (ha : InR a) (hn : InR n) : Fn Tryz.prog En 35 [ex (.int .i64 a), ex (.int .i64 n)] (tupP [ex (.int .i64 (krZ a n)), ex (.int .i64 0)]) := by
 intro h w vs _ hh hv
 obtain ⟨v, u, rfl, h1, h2⟩ := hv.two
 have h1 : v = .int .i64 a := h1
 have h2 : u = .int .i64 n := h2
 subst h1 h2
 refine (oZJ a n w ha hn).mono ?_
 rintro e w' ⟨rfl, rfl⟩
 exact bZR hh (Below.refl _ _) ⟨[_, _], rfl, rfl, rfl, trivial⟩
instance cbody35 : CBody Tryz.prog 35 := ⟨⟨_, Tryz.func35, rfl, by rfl⟩⟩
section
variable (En : Ev)
end
end
section
open Go.RowKit Limb Num
def TabE : Ev := ⟨Tab, fun k => k = 1, fun w ⟨t, fr, h⟩ k hk => by subst hk; exact aZM h, fun w w' hk ⟨t, fr, h⟩ => ⟨t, fr, by rw [hk _ rfl]; exact h⟩⟩
instance cint_errno : CInt Tryz.prog 37 .i64 := ⟨Tryz.underlying37⟩
instance cbody90 : CBody Tryz.prog 90 := ⟨⟨_, Tryz.func90, rfl, by rfl⟩⟩
instance cbody139 : CBody Tryz.prog 139 := ⟨⟨_, Tryz.func139, rfl, by rfl⟩⟩
instance cbody175 : CBody Tryz.prog 175 := ⟨⟨_, Tryz.func175, rfl, by rfl⟩⟩
section
variable (En : Ev)
theorem gmod (a n : Int) (h3 : 1 ≤ n) (h4 : n ≤ 4294967296) : Fn Tryz.prog En 139 [ex (.int .i64 a), ex (.int .i64 n)] (ex (.int .i64 (a % n))) := by
 intro h w vs _ hh hv
 obtain ⟨v, u, rfl, h1, h2⟩ := hv.two
 have h1 : v = .int .i64 a := h1
 have h2 : u = .int .i64 n := h2
 subst h1 h2
 exact (mZx a n w h3 h4).mono fun _ _ ⟨he, hb⟩ => by subst he; subst hb; exact bZR hh (Below.refl _ _) rfl
theorem gris (n : Int) : Fn Tryz.prog En 175 [ex (.int .i64 n)] (ex (.bool (isP n.toNat))) := by
 intro h w vs _ hh hv
 obtain ⟨v, rfl, h1⟩ := hv.one
 have h1 : v = .int .i64 n := h1
 subst h1
 exact (ris_any n w).mono fun _ _ ⟨he, hb⟩ => by subst he; subst hb; exact bZR hh (Below.refl _ _) rfl
end
end
section
open Go.RowKit Limb Num
section
variable {P : Program} {En : Ev} {n : Nat} {sl : Sl} {bx : Bx} {dst : Option Tmp} {ty : TypeId} {pos : String} {after : Array Edge} {guard : Option (Nat × Bool)}
end
theorem eZn {b : Nat} {r : Rat} (h : Sz b r) (n : Nat) : Sz (n * b + 1) (r ^ n) := by
 refine ⟨by rw [Rat.num_pow]; exact cZC h.1, ?_⟩
 have := cZC (n := n) h.2
 rw [Rat.den_pow]
 exact_mod_cast this
end
section
open Limb Num
def fct (p : Int) (c : Int) (e : Nat) : Rat := ((1 : Int) : Rat) - ((c : Int) : Rat) * (((p : Int) : Rat)⁻¹) ^ e
def dvs (p : Int) : Nat → Rat
 | 0 => ((2 : Int) : Rat)
 | k + 1 => dvs p k * fct p 1 (2 * (k + 1))
def dia (p : Int) (n : Nat) (c : Int) : Rat := if n = 0 then ((1 : Int) : Rat) else if n % 2 = 1 then ((1 : Int) : Rat) / dvs p ((n + 1) / 2 - 1) else ((1 : Int) : Rat) / (dvs p ((n + 1) / 2 - 1) * fct p c ((n + 1) / 2))
theorem pinv {p : Int} (hp : 2 ≤ p) (e : Nat) : (((p : Int) : Rat)⁻¹) ^ e * ((p ^ e : Int) : Rat) = 1 := by
 have h0 : ((p : Int) : Rat) ≠ 0 := by intro h; have := Rat.intCast_eq_zero_iff.1 h; omega
 induction e with
 | zero => rw [Rat.pow_zero, Int.pow_zero, Rat.one_mul]; rfl
 | succ e ih =>
  rw [Rat.pow_succ, Int.pow_succ, Rat.intCast_mul]
  have h1 : ((p : Int) : Rat)⁻¹ * ((p : Int) : Rat) = 1 := Rat.inv_mul_cancel _ h0
  generalize (((p : Int) : Rat)⁻¹) ^ e = a at *
  generalize ((p ^ e : Int) : Rat) = b at *
  generalize ((p : Int) : Rat)⁻¹ = c at *
  generalize ((p : Int) : Rat) = d at *
  grind
theorem jZ9 {p : Int} (hp : 2 ≤ p) : ∀ {e : Nat}, 1 ≤ e → 2 ≤ p ^ e
 | 0, h => oM
 | 1, _ => by rw [Int.pow_succ, Int.pow_zero, Int.one_mul]; exact hp
 | e + 2, _ => by
  have := jZ9 hp (e := e + 1) oM
  rw [Int.pow_succ]
  have h2 : 2 * 1 ≤ p ^ (e + 1) * p := Int.mul_le_mul this oM oM oM
  omega
theorem qZ4 {p c : Int} (hp : 2 ≤ p) {e : Nat} (he : 1 ≤ e) (h1 : -1 ≤ c) (h2 : c ≤ 1) : fct p c e ≠ 0 := by
 intro h
 have hi := pinv hp e
 have hb := jZ9 hp he
 unfold fct at h
 have hk : ((p ^ e : Int) : Rat) = ((c : Int) : Rat) := by
  rw [show ((1 : Int) : Rat) = 1 from rfl] at h
  generalize (((p : Int) : Rat)⁻¹) ^ e = a at *
  generalize ((p ^ e : Int) : Rat) = b at *
  generalize ((c : Int) : Rat) = d at *
  grind
 have := Rat.intCast_inj.1 hk
 omega
theorem mZX {p : Int} (hp : 2 ≤ p) : ∀ k, dvs p k ≠ 0
 | 0 => by show ((2 : Int) : Rat) ≠ 0; decide
 | k + 1 => by rw [dvs]; exact fun h => (Rat.mul_eq_zero.1 h).elim (mZX hp k) (qZ4 hp oM oM oM)
theorem lZ0 {p : Int} (h1 : 2 ≤ p) (h2 : p ≤ 9973) (e : Nat) : Sz (e * 2 + 1) ((((p : Int) : Rat)⁻¹) ^ e) := eZn (lZx (sz_z (z := p) oM oM) oM) e
theorem sz_sub {a b : Nat} {r s : Rat} (h : Sz a r) (k : Sz b s) : Sz (a + b + 1) (r - s) := by rw [Rat.sub_eq_add_neg]; exact iZr h (lZw k)
theorem jZk {p c : Int} (h1 : 2 ≤ p) (h2 : p ≤ 9973) (c1 : -1 ≤ c) (c2 : c ≤ 1) {e : Nat} (he : e ≤ 10) : Sz 30 (fct p c e) :=
 (sz_sub (sz_z (z := 1) oM oM) (dZg (sz_z (z := c) oM oM) (lZ0 h1 h2 e))).mono oM
theorem hZo {p : Int} (h1 : 2 ≤ p) (h2 : p ≤ 9973) : ∀ {k : Nat}, k ≤ 4 → Sz (k * 30 + 2) (dvs p k)
 | 0, _ => sz_z oM oM
 | k + 1, h => (dZg (hZo h1 h2 (k := k) oM) (jZk h1 h2 (c := 1) oM oM oM)).mono oM
theorem pZO {a b : Nat} {r s : Rat} (h : Sz a r) (k : Sz b s) (hb : 1 ≤ b) : Sz (a + b) (r / s) := by rw [Rat.div_def]; exact dZg h (lZx k hb)
theorem jZl {p c : Int} (h1 : 2 ≤ p) (h2 : p ≤ 9973) (c1 : -1 ≤ c) (c2 : c ≤ 1) {n : Nat} (hn : n ≤ 9) : Sz 200 (dia p n c) := by
 unfold dia
 split
 ·exact (sz_z (z := 1) oM oM).mono oM
 ·split
  ·exact (pZO (sz_z (z := 1) oM oM) (hZo h1 h2 (k := (n + 1) / 2 - 1) oM) oM).mono oM
  ·exact (pZO (sz_z (z := 1) oM oM) (dZg (hZo h1 h2 (k := (n + 1) / 2 - 1) oM) (jZk h1 h2 c1 c2 (e := (n + 1) / 2) oM)) oM).mono oM
end
section
open Go.RowKit Limb
instance cone_int : COne Tryz.prog 3 := ⟨⟨_, Tryz.underlying3, rfl, by kernel_rfl⟩⟩
instance cone_int64 : COne Tryz.prog 2 := ⟨⟨_, Tryz.underlying2, rfl, by kernel_rfl⟩⟩
instance qZI : CRow Tryz.prog 71 2 := ⟨⟨_, Tryz.underlying71, rfl, by kernel_rfl⟩⟩
instance nZv : CField Tryz.prog 71 0 0 := ⟨⟨_, _, Tryz.underlying71, rfl, rfl, by kernel_rfl⟩⟩
instance lZe : CFieldT Tryz.prog 71 0 0 3 := ⟨⟨_, _, Tryz.underlying71, rfl, rfl, rfl⟩⟩
instance nZu : CField Tryz.prog 71 1 1 := ⟨⟨_, _, Tryz.underlying71, rfl, rfl, by kernel_rfl⟩⟩
instance lZd : CFieldT Tryz.prog 71 1 1 3 := ⟨⟨_, _, Tryz.underlying71, rfl, rfl, rfl⟩⟩
theorem eZ9 : cZw Tryz.prog 71 [.int .i64 0, .int .i64 0] := ⟨by kernel_rfl, by simp [Value.oneCell']⟩
instance pZd : CZero Tryz.prog 71 [.int .i64 0, .int .i64 0] := ⟨eZ9⟩
instance nZk : CStruct Tryz.prog 71 [(0, 1), (1, 1)] [.int .i64 0, .int .i64 0] := ⟨⟨eZ9, _, Tryz.underlying71, fun _ => by kernel_rfl⟩⟩
instance crow_cons : CRow Tryz.prog 69 5 := ⟨⟨_, Tryz.underlying69, rfl, by kernel_rfl⟩⟩
instance rZc : CField Tryz.prog 69 0 0 := ⟨⟨_, _, Tryz.underlying69, rfl, rfl, by kernel_rfl⟩⟩
instance pZy : CFieldT Tryz.prog 69 0 0 3 := ⟨⟨_, _, Tryz.underlying69, rfl, rfl, rfl⟩⟩
instance rZb : CField Tryz.prog 69 1 1 := ⟨⟨_, _, Tryz.underlying69, rfl, rfl, by kernel_rfl⟩⟩
instance pZx : CFieldT Tryz.prog 69 1 1 3 := ⟨⟨_, _, Tryz.underlying69, rfl, rfl, rfl⟩⟩
instance rZa : CField Tryz.prog 69 2 2 := ⟨⟨_, _, Tryz.underlying69, rfl, rfl, by kernel_rfl⟩⟩
instance pZw : CFieldT Tryz.prog 69 2 2 3 := ⟨⟨_, _, Tryz.underlying69, rfl, rfl, rfl⟩⟩
instance qZZ : CField Tryz.prog 69 3 3 := ⟨⟨_, _, Tryz.underlying69, rfl, rfl, by kernel_rfl⟩⟩
instance pZv : CFieldT Tryz.prog 69 3 3 4 := ⟨⟨_, _, Tryz.underlying69, rfl, rfl, rfl⟩⟩
instance qZY : CField Tryz.prog 69 4 4 := ⟨⟨_, _, Tryz.underlying69, rfl, rfl, by kernel_rfl⟩⟩
instance pZu : CFieldT Tryz.prog 69 4 4 3 := ⟨⟨_, _, Tryz.underlying69, rfl, rfl, rfl⟩⟩
theorem hZl : cZw Tryz.prog 69 [.int .i64 0, .int .i64 0, .int .i64 0, .bool false, .int .i64 0] := ⟨by kernel_rfl, by simp [Value.oneCell']⟩
instance czero_cons : CZero Tryz.prog 69 [.int .i64 0, .int .i64 0, .int .i64 0, .bool false, .int .i64 0] := ⟨hZl⟩
instance qZF : CStruct Tryz.prog 69 [(0, 1), (1, 1), (2, 1), (3, 1), (4, 1)] [.int .i64 0, .int .i64 0, .int .i64 0, .bool false, .int .i64 0] := ⟨⟨hZl, _, Tryz.underlying69, fun _ => by kernel_rfl⟩⟩
instance cslice_cons : CSlice Tryz.prog 40 69 := ⟨Tryz.underlying40⟩
instance celem_cons : CElem Tryz.prog 40 69 5 := ⟨Tryz.underlying40, by kernel_rfl⟩
instance cone_conss : COne Tryz.prog 40 := ⟨⟨_, Tryz.underlying40, rfl, by kernel_rfl⟩⟩
instance crowz_cons : CRowZ Tryz.prog 69 5 [.int .i64 0, .int .i64 0, .int .i64 0, .bool false, .int .i64 0] 40 := ⟨by kernel_rfl, rfl, rfl⟩
instance crow_local : CRow Tryz.prog 42 2 := ⟨⟨_, Tryz.underlying42, rfl, by kernel_rfl⟩⟩
instance pZ5 : CField Tryz.prog 42 0 0 := ⟨⟨_, _, Tryz.underlying42, rfl, rfl, by kernel_rfl⟩⟩
instance nZA : CFieldT Tryz.prog 42 0 0 2 := ⟨⟨_, _, Tryz.underlying42, rfl, rfl, rfl⟩⟩
instance pZ4 : CField Tryz.prog 42 1 1 := ⟨⟨_, _, Tryz.underlying42, rfl, rfl, by kernel_rfl⟩⟩
instance nZ9 : CFieldT Tryz.prog 42 1 1 40 := ⟨⟨_, _, Tryz.underlying42, rfl, rfl, rfl⟩⟩
theorem fZK : cZw Tryz.prog 42 [.int .i64 0, .slice none 0 0] := ⟨by kernel_rfl, by simp [Value.oneCell']⟩
instance czero_local : CZero Tryz.prog 42 [.int .i64 0, .slice none 0 0] := ⟨fZK⟩
instance pZf : CStruct Tryz.prog 42 [(0, 1), (1, 1)] [.int .i64 0, .slice none 0 0] := ⟨⟨fZK, _, Tryz.underlying42, fun _ => by kernel_rfl⟩⟩
instance crow_half : CRow Tryz.prog 36 5 := ⟨⟨_, Tryz.underlying36, rfl, by kernel_rfl⟩⟩
instance qZX : CField Tryz.prog 36 0 0 := ⟨⟨_, _, Tryz.underlying36, rfl, rfl, by kernel_rfl⟩⟩
instance pZt : CFieldT Tryz.prog 36 0 0 34 := ⟨⟨_, _, Tryz.underlying36, rfl, rfl, rfl⟩⟩
instance qZW : CField Tryz.prog 36 1 4 := ⟨⟨_, _, Tryz.underlying36, rfl, rfl, by kernel_rfl⟩⟩
instance pZs : CFieldT Tryz.prog 36 1 4 4 := ⟨⟨_, _, Tryz.underlying36, rfl, rfl, rfl⟩⟩
theorem hZk : cZw Tryz.prog 36 [.bool false, .slice none 0 0, .bool false, .slice none 0 0, .bool false] := ⟨by kernel_rfl, by simp [Value.oneCell']⟩
instance czero_half : CZero Tryz.prog 36 [.bool false, .slice none 0 0, .bool false, .slice none 0 0, .bool false] := ⟨hZk⟩
instance qZE : CStruct Tryz.prog 36 [(0, 4), (4, 1)] [.bool false, .slice none 0 0, .bool false, .slice none 0 0, .bool false] := ⟨⟨hZk, _, Tryz.underlying36, fun _ => by kernel_rfl⟩⟩
instance crow_mrow : CRow Tryz.prog 178 5 := ⟨⟨_, Tryz.underlying178, rfl, by kernel_rfl⟩⟩
instance qZS : CField Tryz.prog 178 0 0 := ⟨⟨_, _, Tryz.underlying178, rfl, rfl, by kernel_rfl⟩⟩
instance pZr : CFieldT Tryz.prog 178 0 0 4 := ⟨⟨_, _, Tryz.underlying178, rfl, rfl, rfl⟩⟩
instance qZR : CField Tryz.prog 178 1 1 := ⟨⟨_, _, Tryz.underlying178, rfl, rfl, by kernel_rfl⟩⟩
instance pZq : CFieldT Tryz.prog 178 1 1 4 := ⟨⟨_, _, Tryz.underlying178, rfl, rfl, rfl⟩⟩
instance qZQ : CField Tryz.prog 178 2 2 := ⟨⟨_, _, Tryz.underlying178, rfl, rfl, by kernel_rfl⟩⟩
instance pZp : CFieldT Tryz.prog 178 2 2 3 := ⟨⟨_, _, Tryz.underlying178, rfl, rfl, rfl⟩⟩
instance qZP : CField Tryz.prog 178 3 3 := ⟨⟨_, _, Tryz.underlying178, rfl, rfl, by kernel_rfl⟩⟩
instance pZo : CFieldT Tryz.prog 178 3 3 3 := ⟨⟨_, _, Tryz.underlying178, rfl, rfl, rfl⟩⟩
instance qZO : CField Tryz.prog 178 4 4 := ⟨⟨_, _, Tryz.underlying178, rfl, rfl, by kernel_rfl⟩⟩
instance pZn : CFieldT Tryz.prog 178 4 4 3 := ⟨⟨_, _, Tryz.underlying178, rfl, rfl, rfl⟩⟩
theorem hZj : cZw Tryz.prog 178 [.bool false, .bool false, .int .i64 0, .int .i64 0, .int .i64 0] := ⟨by kernel_rfl, by simp [Value.oneCell']⟩
instance czero_mrow : CZero Tryz.prog 178 [.bool false, .bool false, .int .i64 0, .int .i64 0, .int .i64 0] := ⟨hZj⟩
instance qZD : CStruct Tryz.prog 178 [(0, 1), (1, 1), (2, 1), (3, 1), (4, 1)] [.bool false, .bool false, .int .i64 0, .int .i64 0, .int .i64 0] := ⟨⟨hZj, _, Tryz.underlying178, fun _ => by kernel_rfl⟩⟩
instance carr_mrow : CArr Tryz.prog 179 12 178 5 := ⟨Tryz.underlying179, by kernel_rfl⟩
instance crow_mtab : CRow Tryz.prog 179 60 := ⟨⟨_, Tryz.underlying179, rfl, by kernel_rfl⟩⟩
end
section
open Go.RowKit Limb Num
instance cbody27 : CBody Tryz.prog 27 := ⟨⟨_, Tryz.func27, rfl, by rfl⟩⟩
instance cbody76 : CBody Tryz.prog 76 := ⟨⟨_, Tryz.func76, rfl, by rfl⟩⟩
instance cbody30 : CBody Tryz.prog 30 := ⟨⟨_, Tryz.func30, rfl, by rfl⟩⟩
instance cbody136 : CBody Tryz.prog 136 := ⟨⟨_, Tryz.func136, rfl, by rfl⟩⟩
instance cbody33 : CBody Tryz.prog 33 := ⟨⟨_, Tryz.func33, rfl, by rfl⟩⟩
section
variable (En : Ev)
theorem fZs (a : Int) (h1 : -9223372036854775808 ≤ a) (h2 : a ≤ 9223372036854775807) : Fn Tryz.prog En 27 [ex (.int .i64 a)] (qC (a : Rat)) := by
 have C1 := hZR En a h1 h2
 have C2 := qZu En a (Nat.le_trans (bZa oM oM) oM)
 refine aZb Tryz.func27 rfl Tryz.ntmps27 rfl ?_
 intro w0 h0
 refine js<|jr<|jA jj jj jj<|jn<|js<|jr<|jm jj<|jS (aZa C1 tA)<|jS (aZa C2 tA)<|jP jj jj jj jj<|jn<|ji ?_
 exact rtC rfl jj jj
theorem mZz (p c : Int) (e : Nat) (hp : 2 ≤ p) (hp2 : p ≤ 9973) (c1 : -1 ≤ c) (c2 : c ≤ 1) (he : 1 ≤ e) (he2 : e ≤ 10) : Fn Tryz.prog En 76 [ex (.int .i64 p), ex (.int .i64 c), ex (.int .i64 (e : Int))] (qC (fct p c e)) := by
 have hne : ((p : Int) : Rat) ≠ 0 := by intro h; have := Rat.intCast_eq_zero_iff.1 h; omega
 have Sp := sz_z (z := p) oM oM
 have Sc := sz_z (z := c) oM oM
 have S1 := sz_z (z := 1) oM oM
 have Si := lZ0 hp hp2 e
 have C1 := fZs En p oM oM
 have C2 := mZC En ((p : Int) : Rat) e (Sp.mono oM) oM oM hne
 have C3 := fZs En 1 oM oM
 have C4 := fZs En c oM oM
 have C5 := mZD En ((c : Int) : Rat) ((((p : Int) : Rat)⁻¹) ^ e) (Sc.mono oM) (Si.mono oM)
 have C6 := krsub En ((1 : Int) : Rat) (((c : Int) : Rat) * (((p : Int) : Rat)⁻¹) ^ e) (S1.mono oM) ((dZg Sc Si).mono oM)
 rw [show ((1 : Int) : Rat) - ((c : Int) : Rat) * (((p : Int) : Rat)⁻¹) ^ e = fct p c e from rfl] at C6
 have en : IntKind.i64.wrap (-(e : Int)) = -(e : Int) := w64 oM oM
 refine aZb Tryz.func76 rfl Tryz.ntmps76 rfl ?_
 intro w0 h0
 refine js<|jr<|jA jj jj jj<|jn<|js<|jr<|jm jj<|jS (aZa C1 ⟨jj, trivial⟩)<|jm jj<|jS (cZS jj (fun w => cZ0 w _ _) (vint en))<|jS (aZa C2 ⟨jj, jj, trivial⟩)<|jm jj<|jx' jj jj<|jx' jj jj<|jA jj jj jj<|jP jj jj jj jj<|ja jj<|jn<|js<|jr<|jS (aZa C3 ⟨jj, trivial⟩)<|jm jj<|jS (aZa C4 ⟨jj, trivial⟩)<|jL jj jj jj<|jS (aZa C5 ⟨jj, jj, trivial⟩)<|jS (aZa C6 ⟨jj, jj, trivial⟩)<|jP jj jj jj jj<|jn<|ji ?_
 exact rtC rfl jj jj
theorem oZS (p : Int) (k : Nat) : dvs p (k + 1) = dvs p k * fct p 1 (2 * (k + 1)) := rfl
set_option maxHeartbeats 1000000 in
theorem eZd (p c : Int) (n : Nat) (hp : 2 ≤ p) (hp2 : p ≤ 9973) (c1 : -1 ≤ c) (c2 : c ≤ 1) (hn : n ≤ 9) : Fn Tryz.prog En 30 [ex (.int .i64 p), aggP [ex (.int .i64 (n : Int)), ex (.int .i64 c)]] (qC (dia p n c)) := by
 have W1 := fZs En 1 oM oM
 have W2 := fZs En 2 oM oM
 by_cases hn0 : n = 0
 ·subst hn0
  unfold dia
  rw [if_pos rfl]
  refine aZb Tryz.func30 rfl Tryz.ntmps30 rfl ?_
  intro w0 h0
  refine js<|jr<|jB jj jj jj<|jA jj jj jj<|jn<|js<|js<|jr<|jF jj jj<|jl jj jj jj<|jS (bEt jj jj)<|jn<|jt jj<|js<|jr<|jS (aZa W1 ⟨jj, trivial⟩)<|jP jj jj jj jj<|jn<|ji ?_
  exact rtC rfl jj jj
 obtain ⟨m, hm⟩ : ∃ m, (n + 1) / 2 = m + 1 := ⟨(n + 1) / 2 - 1, oM⟩
 have ea := wS n oM
 have eb : IntKind.i64.wrap (((n + 1 : Nat) : Int).tdiv 2) = ((m + 1 : Nat) : Int) := by
  rw [show ((n + 1 : Nat) : Int).tdiv 2 = (((n + 1) / 2 : Nat) : Int) from (Int.ofNat_tdiv _ _).symm, hm]
  exact w64 oM oM
 have em : ((n : Nat) : Int).tmod 2 = ((n % 2 : Nat) : Int) := (Int.ofNat_tmod _ _).symm
 have S1 := sz_z (z := 1) oM oM
 have Sd := hZo hp hp2 (k := m) oM
 refine aZb Tryz.func30 rfl Tryz.ntmps30 rfl ?_
 intro w0 h0
 refine js<|jr<|jB jj jj jj<|jA jj jj jj<|jn<|js<|js<|jr<|jF jj jj<|jl jj jj jj<|jS (bEf jj jj)<|jn<|jf jj<|jp<|js<|jr<|jF jj jj<|jl jj jj jj<|jS (bAd jj jj ea)<|jS (bQu jj jj eb)<|ja jj<|jn<|js<|jr<|jS (aZa W2 ⟨jj, trivial⟩)<|jA jj jj jj<|jP jj jj jj jj<|jn<|js<|js<|jr<|ja jj<|jn<|jb ?_
 refine WpD.loop (α := {k : Nat // k ≤ m}) (fun k => ⟨[(0, .one (ex (.int .i64 p))), (3, .ptr 3 0), (4, .ptr 4 0), (5, .one (ex (.int .i64 ((m + 1 : Nat) : Int)))), (6, .ptr 6 0), (7, .one (ex (.int .i64 ((k.1 + 1 : Nat) : Int))))], [(3, [ex (.int .i64 (n : Int)), ex (.int .i64 c)]), (4, [ex (.bool false), ex (.slice none 0 0), ex (.bool false), ex (.slice none 0 0)]), (6, hZ4 (dvs p k.1))]⟩) (fun k => m - k.1) ⟨0, Nat.zero_le _⟩ ?_ ?_
 ·exact Sub.mk sJ sJ
 rintro ⟨k, hk⟩
 dsimp only at hk ⊢
 by_cases hlt : k < m
 ·have C1 := mZz En p 1 (2 * (k + 1)) hp hp2 oM oM oM oM
  have Sk := hZo hp hp2 (k := k) oM
  have C2 := mZD En (dvs p k) (fct p 1 (2 * (k + 1))) (Sk.mono oM) ((jZk hp hp2 (c := 1) oM oM oM).mono oM)
  rw [← oZS] at C2
  have e1 : IntKind.i64.wrap (2 * ((k + 1 : Nat) : Int)) = ((2 * (k + 1) : Nat) : Int) := by rw [w64 oM oM]; omega
  have e2 : IntKind.i64.wrap (((k + 1 : Nat) : Int) + 1) = ((k + 1 + 1 : Nat) : Int) := by rw [w64 oM oM]; omega
  refine js<|js<|jr<|jm jj<|jm jj<|jS (bLt jj jj)<|jn<|jt jj<|jp<|js<|jb<|jr<|jL jj jj jj<|jm jj<|jm jj<|jS (bMu jj jj e1)<|jS (aZa C1 ⟨jj, jj, jj, trivial⟩)<|jS (aZa C2 ⟨jj, jj, trivial⟩)<|jP jj jj jj jj<|jn<|jr<|jm jj<|jS (bAd jj jj e2)<|ja jj<|jn ?_
  refine ⟨⟨k + 1, oM⟩, ?_, oD⟩
  exact Sub.mk sJ sJ
 ·have : k = m := oM
  subst this
  by_cases hodd : n % 2 = 1
  ·have hd : dia p n c = ((1 : Int) : Rat) / dvs p k := by
    unfold dia
    rw [if_neg hn0, if_pos hodd, hm, Nat.add_sub_cancel]
   rw [hd]
   have Q1 := krquo En ((1 : Int) : Rat) (dvs p k) (S1.mono oM) (Sd.mono oM) (mZX hp k)
   refine js<|js<|jr<|jm jj<|jm jj<|jS (bLf jj jj)<|jn<|jf jj<|je<|js<|js<|jr<|jF jj jj<|jl jj jj jj<|jS (bRe jj jj em)<|jS (bEf jj jj)<|jn<|jf jj<|jp<|js<|jr<|jS (aZa W1 ⟨jj, trivial⟩)<|jL jj jj jj<|jS (aZa Q1 ⟨jj, jj, trivial⟩)<|jm jj<|jx' jj jj<|jx' jj jj<|jA jj jj jj<|jP jj jj jj jj<|ja jj<|jn<|js<|jr<|jL jj jj jj<|jP jj jj jj jj<|jn<|ji ?_
   exact rtC rfl jj jj
  ·have hd : dia p n c = ((1 : Int) : Rat) / (dvs p k * fct p c (k + 1)) := by
    unfold dia
    rw [if_neg hn0, if_neg hodd, hm, Nat.add_sub_cancel]
   rw [hd]
   have hev : n % 2 = 0 := oM
   have Sf := jZk hp hp2 c1 c2 (e := k + 1) oM
   have C1 := mZz En p c (k + 1) hp hp2 c1 c2 oM oM
   have C2 := mZD En (dvs p k) (fct p c (k + 1)) (Sd.mono oM) (Sf.mono oM)
   have hne : dvs p k * fct p c (k + 1) ≠ 0 := fun h => (Rat.mul_eq_zero.1 h).elim (mZX hp k) (qZ4 hp oM c1 c2)
   have Q1 := krquo En ((1 : Int) : Rat) (dvs p k * fct p c (k + 1)) (S1.mono oM) ((dZg Sd Sf).mono oM) hne
   refine js<|js<|jr<|jm jj<|jm jj<|jS (bLf jj jj)<|jn<|jf jj<|je<|js<|js<|jr<|jF jj jj<|jl jj jj jj<|jS (bRe jj jj em)<|jS (bEt jj jj)<|jn<|jt jj<|jr<|jL jj jj jj<|jm jj<|jF jj jj<|jl jj jj jj<|jm jj<|jS (aZa C1 ⟨jj, jj, jj, trivial⟩)<|jS (aZa C2 ⟨jj, jj, trivial⟩)<|jP jj jj jj jj<|jn<|js<|jr<|jS (aZa W1 ⟨jj, trivial⟩)<|jL jj jj jj<|jS (aZa Q1 ⟨jj, jj, trivial⟩)<|jm jj<|jx' jj jj<|jx' jj jj<|jA jj jj jj<|jP jj jj jj jj<|ja jj<|jn<|js<|jr<|jL jj jj jj<|jP jj jj jj jj<|jn ?_
   refine ji ?_
   exact rtC rfl jj jj
end
section
variable (En : Ev)
end
end
end Go.Proofs.YtfmjdlogjmofbaaGreatDoor

/- A decomposition at a prime that does not divide the determinant: the blocks. Plain. -/
import Derived.Test.YtfmjdlogjmofbaaGreatDoorHm
import Derived.Test.YtfmjdlogjmofbaaGreatDoorMdo
import Derived.Test.YtfmjdlogjmofbaaGreatDoorMem
import Derived.Test.YtfmjdlogjmofbaaGreatDoorMa
import Derived.Test.YtfmjdlogjmofbaaGreatDoorCs
import Derived.Test.YtfmjdlogjmofbaaGreatDoorF
import Derived.Test.YtfmjdlogjmofbaaGreatDoorW
namespace Go.Proofs.YtfmjdlogjmofbaaGreatDoor
section
open Go.RowKit Limb Det Num
def prdT (f : Nat → Int) : Nat → Int
 | 0 => 1
 | n + 1 => prdT f n * f n
theorem hZ6 (f : Nat → Int) : ∀ n, prdT f (n + 1) = f 0 * prdT (fun i => f (i + 1)) n
 | 0 => by rw [prdT, prdT, prdT]; omega
 | n + 1 => by rw [prdT, hZ6 f n, prdT, Int.mul_assoc]
theorem eZt {f g : Nat → Int} : ∀ {n : Nat}, (∀ i, i < n → f i = g i) → prdT f n = prdT g n
 | 0, _ => rfl
 | n + 1, h => by rw [prdT, prdT, eZt fun i hi => h i oM, h n oM]
theorem qZ8 : ∀ {n : Nat} {G : Nat → Nat → Int}, (∀ i x, i < n → x < n → x ≠ i → G i x = 0) → det n G = prdT (fun i => G i i) n
 | 0, _, _ => rfl
 | n + 1, G, h => by
  have e : det (n + 1) G = Det.sg 0 * G 0 0 * det n (mn 0 G) := jZn (f := fun i => Det.sg i * G i 0 * det n (mn i G)) (k := 0) oM fun i hi hne => by
   rw [h i 0 hi oM (fun e => hne e.symm)]
   simp
  have e2 : det n (mn 0 G) = prdT (fun i => G (i + 1) (i + 1)) n := by
   rw [qZ8 (G := mn 0 G) fun i x hi hx hne => by
    show G (sk 0 i) (x + 1) = 0
    rw [eZo]
    exact h (i + 1) (x + 1) oM oM oM]
   exact eZt fun i _ => by show G (sk 0 i) (i + 1) = _; rw [eZo]
  rw [e, e2, hZ6]
  have : Det.sg 0 = 1 := rfl
  rw [this, Int.one_mul]
theorem gcd_pr {p : Nat} (hp : Pr p) {x : Nat} (h0 : 0 < x) (hx : x < p) : Nat.gcd x p = 1 := by
 by_cases h : Nat.gcd x p = 1
 ·exact h
 ·have h1 := hp.eq_of_dvd (Nat.gcd_dvd_right x p) h
  have h2 := Nat.le_of_dvd h0 (Nat.gcd_dvd_left x p)
  omega
structure GoodD (p n : Nat) (d : Int) (A : Nat → Nat → Int) (r : Nat) : Prop where
 ri : RI p n r d (dcS p 1 p n A r).1
 u : ∀ i, i < r → (dcS p 1 p n A r).1 i i = dcU p 1 p n A i
 b : ∀ i, i < r → 0 < dcU p 1 p n A i ∧ dcU p 1 p n A i < p
 e : ∀ i, i < r → dcE p 1 p n A i = 0
theorem goodD {p n : Nat} {d : Int} {A : Nat → Nat → Int} (hp : OP p) (hd : ¬ (p : Int) ∣ d) (h0 : RI p n 0 d A) : ∀ {r : Nat}, r ≤ n → GoodD p n d A r
 | 0, _ => ⟨h0, fun i hi => oM, fun i hi => oM, fun i hi => oM⟩
 | r + 1, hr => by
  obtain ⟨h3, _, _⟩ := hp.half
  obtain ⟨k1, k2, k3⟩ := hp.half
  have hr' : r < n := oM
  have ih := goodD hp hd h0 (r := r) oM
  obtain ⟨p1, p2, p3⟩ := nZi (x := dcS p 1 p n A r) ih.ri k2 hp.2 hr' hd
  have hb := p1.mb r r hr' hr'
  have hv : dcE p 1 p n A r = 0 := pZL hb.1 hb.2 p2
  have hq : pvQ p 1 (dcA p 1 p n r (dcS p 1 p n A r)).1 r = 1 := by
   unfold pvQ
   have : vlZ p 1 ((dcA p 1 p n r (dcS p 1 p n A r)).1 r r) = 0 := hv
   rw [this, Nat.pow_zero]
  have hS : dcS p 1 p n A (r + 1) = oneL p n r 1 (pvU p 1 p (dcA p 1 p n r (dcS p 1 p n A r)).1 r) (n - (r + 1)) (r + 1) (dcA p 1 p n r (dcS p 1 p n A r)) := by
   show oneM p 1 p n r _ = _
   unfold oneM
   rw [hq]
  obtain ⟨k, hk⟩ : ∃ k : Int, pvU p 1 p (dcA p 1 p n r (dcS p 1 p n A r)).1 r * (dcA p 1 p n r (dcS p 1 p n A r)).1 r r = 1 + k * (p : Int) := by
   unfold pvU
   rw [hq, Nat.div_one, Nat.div_one]
   obtain ⟨k, hk⟩ := oZr (gcd_pr hp.1 (show 0 < ((dcA p 1 p n r (dcS p 1 p n A r)).1 r r).toNat by omega) oM)
   rw [Int.toNat_of_nonneg hb.1] at hk
   exact ⟨k, hk⟩
  have hU : dcU p 1 p n A r = (dcS p 1 p n A (r + 1)).1 r r := by
   unfold dcU
   rw [hq]
   exact Int.ediv_one _
  obtain ⟨a1, a2, a3, a4⟩ := fZY oM hr' (f := n - (r + 1)) (j := r + 1) (x := dcA p 1 p n r (dcS p 1 p n A r)) oM oM p1 hk (fun y h1 h2 => oM)
  rw [← hS] at a1 a2 a3 a4
  refine ⟨a1.next hr' a3, fun i hi => ?_, fun i hi => ?_, fun i hi => ?_⟩
  ·by_cases e : i = r
   ·subst e; exact hU.symm
   ·rw [a4 i oM, p3 i oM]; exact ih.u i oM
  ·by_cases e : i = r
   ·subst e; rw [hU, a2]; omega
   ·exact ih.b i oM
  ·by_cases e : i = r
   ·subst e; exact hv
   ·exact ih.e i oM
theorem mZP {p n : Nat} {d : Int} {A : Nat → Nat → Int} (h : GoodD p n d A n) : Mo (p : Int) (prdT (dcU p 1 p n A) n) d := by
 have h1 := qZ8 (G := (dcS p 1 p n A n).1) fun i x hi hx hne => h.ri.zr i x hi hx hne
 rw [eZt fun i hi => h.u i hi] at h1
 rw [← h1]
 exact h.ri.dt
theorem kZq {E : Nat → Nat} {a : Nat → Int} {p : Nat} : ∀ {n : Nat}, (∀ i, i < n + 1 → E i = 0) → (csF E a p (n + 1)).2 = 1 ∧ (csF E a p (n + 1)).1 0 = ⟨0, ((n + 1 : Nat) : Int), prdT (fun i => legZ (a i) p) (n + 1), false, 0⟩
 | 0, h => by
  have e : csF E a p 1 = cs2 (legZ (a 0) p) (cU (fun _ => ⟨0, 0, 1, false, 0⟩) 0 ⟨(E 0 : Int), 0, 1, false, 0⟩, 0 + 1) := rfl
  rw [e, h 0 oM]
  refine ⟨rfl, ?_⟩
  show (⟨_, _, _, _, _⟩ : Co) = _
  rw [prdT, prdT]
  rfl
 | n + 1, h => by
  obtain ⟨h1, h2⟩ := kZq (E := E) (a := a) (p := p) (n := n) fun i hi => h i oM
  have e : csF E a p (n + 1 + 1) = cs2 (legZ (a (n + 1)) p) (cs1 (E (n + 1)) (csF E a p (n + 1))) := rfl
  have e2 : cs1 (E (n + 1)) (csF E a p (n + 1)) = csF E a p (n + 1) := if_neg (by
   rw [h1, h (n + 1) oM]
   rintro (g | g)
   ·omega
   ·rw [show 1 - 1 = 0 from rfl, h2] at g; exact g rfl)
  rw [e, e2]
  unfold cs2
  rw [h1, show 1 - 1 = 0 from rfl, h2]
  refine ⟨rfl, ?_⟩
  show (cU (csF E a p (n + 1)).1 0 _) 0 = _
  unfold cU
  rw [if_pos rfl, prdT]
  rfl
end
end Go.Proofs.YtfmjdlogjmofbaaGreatDoor
set_option maxRecDepth 3000
namespace Go.Proofs.YtfmjdlogjmofbaaGreatDoor
section
open Go.RowKit Limb Det Num
theorem oZH {a b : Int} {p : Nat} (h : Mo (p : Int) a b) : legZ a p = legZ b p := by unfold legZ; rw [h.emod]
theorem jZY {a : Nat → Int} {p : Nat} (hp : OP p) : ∀ n, prdT (fun i => legZ (a i) p) (n + 1) = legZ (prdT a (n + 1)) p
 | 0 => by rw [prdT, prdT, prdT, prdT, Int.one_mul, Int.one_mul]
 | n + 1 => by
  show prdT (fun i => legZ (a i) p) (n + 1) * legZ (a (n + 1)) p = legZ (prdT a (n + 1) * a (n + 1)) p
  rw [jZY hp n, cZl hp]
theorem mZW {p n : Nat} (h : n % p ≠ 0) : expo p n = 0 := dZs fun g => h g.2
section
variable (En : Ev)
theorem hofGood (A : Nat → Nat → Int) (n p : Nat) (hF : Fm n A) (hp : smP (p : Int) = true) (hO : OP p) (hp2 : p ≤ 1000) (hd : ¬ (p : Int) ∣ det n A) : Fn Tryz.prog En 10 [imt A n n, ex (.int .i64 (p : Int))] (locP (p : Int) (fun _ => ⟨0, (n : Int), legZ (det n A) p, false, 0⟩) 1) := by
 obtain ⟨_, h3, _⟩ := hO.half
 have hn1 := hF.n1
 have hpo := hF.po n (Nat.le_refl n)
 have hk : 1 = dgs (det n A) p := by
  unfold dgs
  rw [if_neg oM, mZW]
  intro h
  apply hd
  have h2 : p ∣ (det n A).toNat := Nat.dvd_of_mod_eq_zero h
  have h3 : ((p : Nat) : Int) ∣ (((det n A).toNat : Nat) : Int) := Int.natCast_dvd_natCast.2 h2
  rwa [Int.toNat_of_nonneg oM] at h3
 have h0 : RI p n 0 (det n A) (remM A p) := ⟨fun r x _ _ => ⟨Int.emod_nonneg _ oM, Int.emod_lt_of_pos _ oM⟩, fun r x _ _ => by unfold remM; rw [hF.sy r x], gZZ fun r c _ _ => Mo.mod _ _, fun i x hi => oM⟩
 have G := goodD hO hd h0 (Nat.le_refl n)
 have hD : DcOK p 1 p n (remM A p) := ⟨fun i hi => by rw [G.e i hi]; omega, fun i hi => by rw [G.e i oM]; omega, fun i hi => by
  obtain ⟨b1, b2⟩ := G.b i hi
  rw [Int.tmod_eq_emod_of_nonneg oM, Int.emod_eq_of_lt oM b2]
  omega⟩
 have C := hof En A n p 1 p hF hp h3 hp2 hk (Nat.pow_one p).symm oM hD
 obtain ⟨m, rfl⟩ : ∃ m, n = m + 1 := ⟨n - 1, oM⟩
 obtain ⟨c1, c2⟩ := kZq (E := dcE p 1 p (m + 1) (remM A p)) (a := dcU p 1 p (m + 1) (remM A p)) (p := p) (n := m) G.e
 rw [jZY hO, oZH (mZP G)] at c2
 rw [c1] at C
 have e : locP (p : Int) (csF (dcE p 1 p (m + 1) (remM A p)) (dcU p 1 p (m + 1) (remM A p)) p (m + 1)).1 1 = locP (p : Int) (fun _ => ⟨0, ((m + 1 : Nat) : Int), legZ (det (m + 1) A) p, false, 0⟩) 1 := by
  unfold locP
  rw [dZU, dZU]
  rw [aZG (e := ccs (csF (dcE p 1 p (m + 1) (remM A p)) (dcU p 1 p (m + 1) (remM A p)) p (m + 1)).1) (e' := ccs fun _ => ⟨0, ((m + 1 : Nat) : Int), legZ (det (m + 1) A) p, false, 0⟩) fun i hi => by
   have : i = 0 := oM
   subst this
   show coc _ = coc _
   rw [c2]]
 rwa [e] at C
end
end
section
open Go.RowKit Limb Det Num
theorem qZs {a : Int} {p : Nat} (hp : OP p) (ha : ¬ (p : Int) ∣ a) : legZ a p * legZ a p = 1 := by
 have h0 : legZ a p ≠ 0 := fun h => ha ((cZZ hp).1 h)
 rcases bZn a p with h | h | h
 ·exact absurd h h0
 ·rw [h]; rfl
 ·rw [h]; rfl
theorem gZJ : ∀ k : Nat, (-1 : Int) ^ (2 * k) = 1
 | 0 => rfl
 | k + 1 => by rw [show 2 * (k + 1) = 2 * k + 1 + 1 by omega, Int.pow_succ, Int.pow_succ, gZJ k]; rfl
theorem oZF {p : Nat} (hp : OP p) : legZ (-1) p = if p % 4 = 1 then 1 else -1 := by
 obtain ⟨h1, h2, h3⟩ := hp.half
 refine bZC h2 (bZn _ _) (by split <;> simp) ?_
 have h := cZ3 (a := -1) hp
 have e : (-1 : Int) ^ ((p - 1) / 2) = if p % 4 = 1 then 1 else -1 := by
  by_cases c : p % 4 = 1
  ·rw [if_pos c, show (p - 1) / 2 = 2 * ((p - 1) / 4) by omega, gZJ]
  ·rw [if_neg c, show (p - 1) / 2 = 2 * ((p - 1) / 4) + 1 by omega, Int.pow_succ, gZJ]; rfl
 rw [e] at h
 obtain ⟨k, hk⟩ := h
 exact ⟨-k, by grind⟩
theorem mZH {p : Nat} (hp : isP p = true) : pf p = [p] := by
 have hb := (⟨((eZ2 p).1 hp).1.1, ((eZ2 p).1 hp).2⟩ : 2 ≤ p ∧ p ≤ 2147483647)
 unfold isP at hp
 simp only [Bool.and_eq_true, beq_iff_eq] at hp
 rw [gZE oM, hp.2, Nat.div_self oM, dZW oM]
theorem jleg_kr {p : Nat} (hp : isP p = true) (h2 : p ≠ 2) (a : Int) : legZ a p = krZ a p := by
 have hb := (⟨((eZ2 p).1 hp).1.1, ((eZ2 p).1 hp).2⟩ : 2 ≤ p ∧ p ≤ 2147483647)
 have hpr := ((eZ2 p).1 hp).1
 have ho : p % 2 = 1 := by
  have := hpr.2 2 oM oM
  omega
 unfold krZ
 rw [if_neg oM, if_neg oM, Int.one_mul, Int.natAbs_natCast, fZz a ho, mZH hp]
 simp [aZz]
set_option maxHeartbeats 1000000 in
theorem jZX {D : Int} {p : Nat} (hp : OP p) (h0 : D ≠ 0) (hD : ¬ (p : Int) ∣ D) : legZ (disc D) p = legZ D p := by
 obtain ⟨e, _, _⟩ := oZc D h0
 have e2 : D = sfS D * (((sfR D : Nat) : Int) * ((sfR D : Nat) : Int)) := by rw [← Int.natCast_mul]; exact e
 have hr : ¬ (p : Int) ∣ ((sfR D : Nat) : Int) := fun ⟨k, hk⟩ => hD (by rw [e2, hk]; exact ⟨sfS D * (k * (p * k)), by grind⟩)
 have h1 : legZ D p = legZ (sfS D) p := by
  have := congrArg (fun z => legZ z p) e2
  have this : legZ D p = legZ (sfS D * (((sfR D : Nat) : Int) * ((sfR D : Nat) : Int))) p := this
  rw [this, cZl hp, cZl hp, qZs hp hr, Int.mul_one]
 have h2 : ¬ (p : Int) ∣ 2 := fun h => by
  have := Int.le_of_dvd oM h
  have := hp.half.2.1
  omega
 rw [h1]
 unfold disc
 split
 ·rfl
 ·rw [show (4 : Int) * sfS D = (2 * 2) * sfS D from rfl, cZl hp, cZl hp, qZs hp h2, Int.one_mul]
theorem nZV {p n : Nat} {d : Int} (hp : OP p) (hpp : isP p = true) (hd0 : d ≠ 0) (hd : ¬ (p : Int) ∣ d) (hn : n % 2 = 0) : krZ (fldZ (n : Int) d) (p : Int) = spO (p : Int) (n : Int) (legZ d p) := by
 have hn0 : ¬ (n : Int) % 2 = 1 := oM
 have hpo := hp.2
 unfold fldZ spO
 rw [← jleg_kr hpp (by have := hp.half.2.1; omega), if_neg hn0]
 by_cases h : (n : Int) % 4 = 2
 ·rw [if_pos h, jZX hp oM (fun h => hd (by obtain ⟨k, hk⟩ := h; exact ⟨-k, by grind⟩)), show -d = (-1) * d by omega, cZl hp, oZF hp]
  by_cases c : p % 4 = 1
  ·rw [if_pos c, if_pos (.inl oM), Int.one_mul]
  ·rw [if_neg c, if_neg oM]; omega
 ·rw [if_neg h, jZX hp hd0 hd, if_pos (.inr oM)]
end
section
open Go.RowKit Limb Num
section
variable (En : Ev)
theorem gZx (l : List Nat) : (txt l).size = l.length := by
 have : ∀ (l : List Nat) (b : ByteArray), ((l.map fun (x : Nat) => (x : Int)).foldl (fun r n => r.push (UInt8.ofNat n.toNat)) b).size = b.size + l.length := by
  intro l
  induction l with
  | nil => intro b; rfl
  | cons x l ih => intro b; simp only [List.map_cons, List.foldl_cons, List.length_cons]; rw [ih, ByteArray.size_push]; omega
 have h := this l ByteArray.empty
 rw [show ByteArray.empty.size = 0 from rfl, Nat.zero_add] at h
 exact h
theorem kZi (z : Int) (k : Nat) : (fmtL z k).length ≤ k + 1 := by
 unfold fmtL
 rw [List.length_reverse, List.length_append, dZb]
 split <;> simp
theorem dZl (r : Rat) (k m : Nat) (hr : Sz 1073741824 r) (hd : r.den ≠ 1) (h1 : r.num.natAbs < 10 ^ k) (h2 : k ≤ 9) (h3 : 10 ^ (k - 1) ≤ r.num.natAbs) (h4 : 0 < k) (m1 : r.den < 10 ^ m) (m2 : m ≤ 9) (m3 : 10 ^ (m - 1) ≤ r.den) (m4 : 0 < m) :
  Fn Tryz.prog En 23 [qC r] (ex (.string (txt (fmtL r.num k) ++ ⟨#[47]⟩ ++ txt (fmtL r.den m)))) := by
 have C1 := bZg En (RQ.of r) (RQ.of_ok hr)
 have C2 := oZn En (RQ.of r) (RQ.of_ok hr)
 rw [RQ.of_v] at C1 C2
 rw [show (cmpZ r.den 1 == 0) = false by have := r.den_pos; unfold cmpZ; rw [if_neg oM, if_pos oM]; rfl] at C2
 have C3 := mZJ En r.num k h1 h2 h3 h4
 have C4 := mZJ En (r.den : Int) m m1 m2 m3 m4
 have l1 := kZi r.num k
 have l2 := kZi (r.den : Int) m
 have s1 : (txt (fmtL r.num k)).size + (⟨#[47]⟩ : ByteArray).size ≤ 1000000 := by rw [gZx]; show _ + 1 ≤ _; omega
 have s2 : (txt (fmtL r.num k) ++ (⟨#[47]⟩ : ByteArray)).size + (txt (fmtL r.den m)).size ≤ 1000000 := by rw [ByteArray.size_append, gZx, gZx]; show _ + 1 + _ ≤ _; omega
 refine aZb Tryz.func23 rfl Tryz.ntmps23 rfl ?_
 intro w0 h0
 refine js<|jr<|jB jj jj jj<|ja jj<|jn<|js<|jr<|jL jj jj jj<|jS (aZa C1 ⟨jj, trivial⟩)<|jA jj jj jj<|jP jj jj jj jj<|jn<|js<|js<|jr<|jL jj jj jj<|jS (aZa C2 ⟨jj, trivial⟩)<|jn<|jf jj<|jp<|js<|jr<|jF jj jj<|jL jj jj jj<|jS (aZa C3 ⟨jj, trivial⟩)<|jS (aZ6 jj jj (fun w => jZu w CStr.ok _ _ _ _ s1))<|jF jj jj<|jL jj jj jj<|jS (aZa C4 ⟨jj, trivial⟩)<|jS (aZ6 jj jj (fun w => jZu w CStr.ok _ _ _ _ s2))<|ja jj<|jn<|ji ?_
 exact rtT rfl jj
end
theorem iZQ {a b : ByteArray} (h : a.data = b.data) : (a.toList == b.toList) = true := by
 have : a = b := ByteArray.ext h
 rw [this]; simp
end
section
open Go.RowKit Limb Num
def sy (d : Int) : Nat → Co := fun _ => ⟨0, d, 1, true, d⟩
section
variable (En : Ev)
theorem legal2 : Fn Tryz.prog En 165 [aggP (coc (sy 2 0))] (ex (.bool true)) := by
 have w1 : IntKind.i64.wrap ((2 : Int) - 2) = 0 := by decide
 have w2 : (0 : Int).tmod 2 = 0 := by decide
 unfold coc sy
 dsimp only
 refine aZb Tryz.func165 rfl Tryz.ntmps165 rfl ?_
 intro w0 h0
 refine js<|jr<|jB jj jj jj<|ja jj<|jn<|js<|js<|jr<|jF jj jj<|jl jj jj jj<|jS (bLf jj jj)<|jm jj (jgf jj jj (jgl jj jj jj (jg (bGf jj jj) (jQ jj jj (jm jj (jgf jj jj (jgl jj jj jj (jg (bLf jj jj) (jQ jj jj (jm jj (jgf jj jj (jgl jj jj jj (jg (bGf jj jj) (jQ jj jj (jn (jf jj (jp (js (js (jr (jF jj jj (jl jj jj jj (jS (bNf jj jj) (jm jj (jk (jk (jk (jQ jj jj (jm jj (jgf jj jj (jgl jj jj jj (jg (bLf jj jj) (jQ jj jj (jm jj (jgf jj jj (jgl jj jj jj (jg (bGf jj jj) (jQ jj jj (jn ?_)))))))))))))))))))))))))))))))))))))))
 refine jf jj<|jp<|js<|js<|jr<|jF jj jj<|jl jj jj jj<|jS (bNo jj)<|jn<|jf jj<|jp<|js<|js<|jr<|jF jj jj<|jl jj jj jj<|jF jj jj<|jl jj jj jj<|jS (bSu jj jj w1)<|jS (bRe jj jj w2)<|jS (bNf jj jj)<|jn<|jf jj<|jp<|js<|jb<|js<|jr<|jF jj jj<|jl jj jj jj<|jS (bEf jj jj)<|jm jj<|jk<|jk<|jk<|jQ jj jj<|ja jj<|jn<|jf jj<|js<|jr<|jF jj jj<|jl jj jj jj<|jS (bEf jj jj)<|ja jj<|jn ?_
 refine jf jj<|js<|jr<|jF jj jj<|jl jj jj jj<|jS (bEt jj jj)<|jm jj (jgf jj jj (jgl jj jj jj (jg (bEt jj jj) (jq jj jj (ja jj (jn (jt jj (js (jr (jF jj jj (jl jj jj jj (jS (bNt jj jj) (ja jj (jn (ji ?_)))))))))))))))
 exact rtT rfl jj
theorem shaped2 : Fn Tryz.prog En 164 [locP 2 (sy 2) 1] (ex (.bool true)) := by
 unfold locP
 refine aZb Tryz.func164 rfl Tryz.ntmps164 rfl ?_
 intro w0 h0
 refine js<|jr<|jB jj jj jj<|ja jj<|jn<|js<|js<|jr<|jF jj jj<|jl jj jj jj<|jS (bNf jj jj)<|jm jj (jgf jj jj (jgl jj jj jj (jg (bZo jj CSlice.ok) (jg (bEf jj jj) (jQ jj jj (jn (jf jj (jp (js (jr (ja jj (ja jj (jn (js (js (jr (jF jj jj (jl jj jj jj (jE jj (jm jj (jn (jb ?_))))))))))))))))))))))
 refine WpD.loop (α := {i : Nat // i ≤ 1}) (fun i => ⟨[(1, .ptr 1 0), (2, .one (ex (.bool false))), (3, .one (ex (.int .i64 ((i.1 : Int) * 2)))), (4, .one (ex (.int .i64 ((i.1 : Int) - 1)))), (17, .one (slc 5 (rows (ccs (sy 2)) 1) 1)), (18, .one (ex (.int .i64 1))), (19, .one (ex (.int .i64 (i.1 : Int))))], [(1, [ex (.int .i64 2), slc 5 (rows (ccs (sy 2)) 1) 1])]⟩) (fun i => 1 - i.1) ⟨0, Nat.zero_le _⟩ ?_ ?_
 ·exact Sub.mk sJ sJ
 rintro ⟨i, hi⟩
 dsimp only at hi ⊢
 by_cases hlt : i < 1
 ·obtain rfl : i = 0 := oM
  have hq : ((rows (ccs (sy 2)) 1).drop (0 * 5)).take 5 = [ex (.int .i64 0), ex (.int .i64 2), ex (.int .i64 1), ex (.bool true), ex (.int .i64 2)] := bZt (cZb (sy 2)) hlt
  have w1 : IntKind.i64.wrap (((0 : Nat) : Int) + 1) = ((0 + 1 : Nat) : Int) := by decide
  have w2 : IntKind.i64.wrap (8 - ((0 : Nat) : Int) * 2) = 8 := by decide
  have w3 : IntKind.i64.wrap (((0 : Nat) : Int) * 2 + 2) = ((0 + 1 : Nat) : Int) * 2 := by decide
  refine js<|jr<|jS (bLt jj jj)<|jn<|js<|jt jj<|jp<|js<|jb<|js<|jr<|jS (aZm jj jj hlt hq)<|jS (aZq jj jj jj)<|jA jj jj jj<|jP jj jj jj jj<|jn<|js<|js<|jr<|jF jj jj<|jl jj jj jj<|jm jj<|jS (bMf jj jj)<|jm jj (jgf jj jj (jgl jj jj jj (jg (bGf jj jj) (jQ jj jj (jm jj (jgf jj jj (jgl jj jj jj (jg (bLf jj jj) (jQ jj jj (jm jj (jgf jj jj (jgl jj jj jj (jgm jj (jg (bSu jj jj w2) (jg (bGf jj jj) (jQ jj jj (jn ?_)))))))))))))))))
  refine jf jj<|jp<|js<|jr<|jm jj<|jF jj jj<|jl jj jj jj<|jS (bAd jj jj w3)<|ja jj<|jn<|jr<|jF jj jj<|jl jj jj jj<|ja jj<|jn<|jr<|jS (bAd jj jj w1)<|jm jj<|jn ?_
  refine ⟨⟨0 + 1, oM⟩, ?_, oD⟩
  exact Sub.mk sJ sJ
 ·obtain rfl : i = 1 := oM
  refine js<|jr<|jS (bLf jj jj)<|jn<|js<|jf jj<|je<|js<|jr<|ja jj<|jn<|ji ?_
  exact rtT rfl jj
theorem valid2 : Fn Tryz.prog En 127 [locP 2 (sy 2) 1] (ex (.bool true)) := by
 have S1 := shaped2 En
 have L1 := legal2 En
 unfold locP at S1 ⊢
 refine aZb Tryz.func127 rfl Tryz.ntmps127 rfl ?_
 intro w0 h0
 refine js<|jr<|jB jj jj jj<|ja jj<|jn<|js<|js<|jr<|jL jj jj jj<|jS (aZa S1 ⟨jj, trivial⟩)<|jS (bNo jj)<|jn<|jf jj<|jp<|js<|js<|jr<|jF jj jj<|jl jj jj jj<|jE jj<|jm jj<|jn<|jb ?_
 refine WpD.loop (α := {i : Nat // i ≤ 1}) (fun i => ⟨[(1, .ptr 1 0), (2, .one (ex (.bool false))), (9, .one (slc 5 (rows (ccs (sy 2)) 1) 1)), (10, .one (ex (.int .i64 1))), (11, .one (ex (.int .i64 (i.1 : Int))))], [(1, [ex (.int .i64 2), slc 5 (rows (ccs (sy 2)) 1) 1])]⟩) (fun i => 1 - i.1) ⟨0, Nat.zero_le _⟩ ?_ ?_
 ·exact Sub.mk sJ sJ
 rintro ⟨i, hi⟩
 dsimp only at hi ⊢
 by_cases hlt : i < 1
 ·obtain rfl : i = 0 := oM
  have hq : ((rows (ccs (sy 2)) 1).drop (0 * 5)).take 5 = coc (sy 2 0) := bZt (cZb (sy 2)) hlt
  have w1 : IntKind.i64.wrap (((0 : Nat) : Int) + 1) = ((0 + 1 : Nat) : Int) := by decide
  refine js<|jr<|jS (bLt jj jj)<|jn<|js<|jt jj<|jp<|js<|jb<|js<|jr<|jS (aZm jj jj hlt hq)<|jS (aZq jj jj jj)<|jA jj jj jj<|jP jj jj jj jj<|jn<|js<|jr<|jL jj jj jj<|jS (aZa L1 ⟨jj, trivial⟩)<|jS (bNo jj)<|jn<|jf jj<|jp<|jr<|jS (bAd jj jj w1)<|jm jj<|jn ?_
  refine ⟨⟨0 + 1, oM⟩, ?_, oD⟩
  exact Sub.mk sJ sJ
 ·obtain rfl : i = 1 := oM
  refine js<|jr<|jS (bLf jj jj)<|jn<|js<|jf jj<|je<|js<|jr<|ja jj<|jn<|ji ?_
  exact rtT rfl jj
theorem accept2 : Fn Tryz.prog En 69 [locP 2 (sy 2) 1] (ex (.bool true)) := by
 have S1 := valid2 En
 unfold locP at S1 ⊢
 refine aZb Tryz.func69 rfl Tryz.ntmps69 rfl ?_
 intro w0 h0
 refine js<|jr<|jB jj jj jj<|ja jj<|jn<|js<|js<|jr<|jF jj jj<|jl jj jj jj<|jS (bEt jj jj)<|jn<|jt jj<|js<|jr<|jL jj jj jj<|jS (aZa S1 ⟨jj, trivial⟩)<|jm jj ?_
 first | refine jg (bZ8 jj jj jj jj) ?_ | refine jk ?_ | refine ju ?_
 first | refine jg (aZa missing_contract ⟨jj, trivial⟩) ?_ | refine jk ?_ | refine ju ?_
 first | refine jq jj jj ?_ | refine jQ jj jj ?_
 refine ja jj<|jn<|ji ?_
 exact rtT rfl jj
theorem symb2 : Fn Tryz.prog En 22 [ex (.int .i64 2), ex (.int .i64 1), ex (.int .i64 2)] (locP 2 (sy 2) 1) := by
 unfold locP
 refine aZb Tryz.func22 rfl Tryz.ntmps22 rfl ?_
 intro w0 h0
 refine js<|jr<|jA jj jj jj<|jn<|js<|jr<|jm jj<|jm jj<|jm jj<|jS (aZj (ps := [(_, _), (_, _), (_, _), (_, _)]) ⟨jj, Part.c jj, jj, Part.c jj, jj, Part.c jj, jj, Part.c jj, trivial⟩ jj)<|jS (aZ5 (ps := [(_, _)]) ⟨jj, Part.c jj, trivial⟩ jj jj jj)<|jS (aZj (ps := [(_, _), (_, _)]) ⟨jj, Part.c jj, jj, Part.c jj, trivial⟩ jj)<|jP jj jj jj jj<|jn<|ji ?_
 exact rtC rfl jj jj
end
theorem okl2 : OkL (sy 2) 1 := ⟨oM, oM, fun _ _ => by show (0 : Int) ≤ 0; omega, fun _ _ => by show (0 : Int) ≤ 100; omega, fun _ _ => by show (1 : Int) ≤ 2; omega, fun _ _ => by show (2 : Int) ≤ 8; omega, fun i j h1 h2 => oM⟩
section
variable (En : Ev)
theorem legal3 : Fn Tryz.prog En 165 [aggP (coc (sy 3 0))] (ex (.bool true)) := by
 have w1 : IntKind.i64.wrap ((3 : Int) - 3) = 0 := by decide
 have w2 : (0 : Int).tmod 2 = 0 := by decide
 unfold coc sy
 dsimp only
 refine aZb Tryz.func165 rfl Tryz.ntmps165 rfl ?_
 intro w0 h0
 refine js<|jr<|jB jj jj jj<|ja jj<|jn<|js<|js<|jr<|jF jj jj<|jl jj jj jj<|jS (bLf jj jj)<|jm jj (jgf jj jj (jgl jj jj jj (jg (bGf jj jj) (jQ jj jj (jm jj (jgf jj jj (jgl jj jj jj (jg (bLf jj jj) (jQ jj jj (jm jj (jgf jj jj (jgl jj jj jj (jg (bGf jj jj) (jQ jj jj (jn (jf jj (jp (js (js (jr (jF jj jj (jl jj jj jj (jS (bNf jj jj) (jm jj (jk (jk (jk (jQ jj jj (jm jj (jgf jj jj (jgl jj jj jj (jg (bLf jj jj) (jQ jj jj (jm jj (jgf jj jj (jgl jj jj jj (jg (bGf jj jj) (jQ jj jj (jn ?_)))))))))))))))))))))))))))))))))))))))
 refine jf jj<|jp<|js<|js<|jr<|jF jj jj<|jl jj jj jj<|jS (bNo jj)<|jn<|jf jj<|jp<|js<|js<|jr<|jF jj jj<|jl jj jj jj<|jF jj jj<|jl jj jj jj<|jS (bSu jj jj w1)<|jS (bRe jj jj w2)<|jS (bNf jj jj)<|jn<|jf jj<|jp<|js<|jb<|js<|jr<|jF jj jj<|jl jj jj jj<|jS (bEf jj jj)<|jm jj<|jk<|jk<|jk<|jQ jj jj<|ja jj<|jn<|jf jj<|js<|jr<|jF jj jj<|jl jj jj jj<|jS (bEf jj jj)<|ja jj<|jn ?_
 refine jf jj<|js<|jr<|jF jj jj<|jl jj jj jj<|jS (bEf jj jj)<|jm jj<|jk<|jk<|jk<|jQ jj jj<|ja jj<|jn<|jf jj<|js<|jr<|jF jj jj<|jl jj jj jj<|jS (bEf jj jj)<|ja jj<|jn<|jf jj<|jp<|js<|jr<|ja jj<|jn<|ji ?_
 exact rtT rfl jj
theorem shaped3 : Fn Tryz.prog En 164 [locP 2 (sy 3) 1] (ex (.bool true)) := by
 unfold locP
 refine aZb Tryz.func164 rfl Tryz.ntmps164 rfl ?_
 intro w0 h0
 refine js<|jr<|jB jj jj jj<|ja jj<|jn<|js<|js<|jr<|jF jj jj<|jl jj jj jj<|jS (bNf jj jj)<|jm jj (jgf jj jj (jgl jj jj jj (jg (bZo jj CSlice.ok) (jg (bEf jj jj) (jQ jj jj (jn (jf jj (jp (js (jr (ja jj (ja jj (jn (js (js (jr (jF jj jj (jl jj jj jj (jE jj (jm jj (jn (jb ?_))))))))))))))))))))))
 refine WpD.loop (α := {i : Nat // i ≤ 1}) (fun i => ⟨[(1, .ptr 1 0), (2, .one (ex (.bool false))), (3, .one (ex (.int .i64 ((i.1 : Int) * 3)))), (4, .one (ex (.int .i64 ((i.1 : Int) - 1)))), (17, .one (slc 5 (rows (ccs (sy 3)) 1) 1)), (18, .one (ex (.int .i64 1))), (19, .one (ex (.int .i64 (i.1 : Int))))], [(1, [ex (.int .i64 2), slc 5 (rows (ccs (sy 3)) 1) 1])]⟩) (fun i => 1 - i.1) ⟨0, Nat.zero_le _⟩ ?_ ?_
 ·exact Sub.mk sJ sJ
 rintro ⟨i, hi⟩
 dsimp only at hi ⊢
 by_cases hlt : i < 1
 ·obtain rfl : i = 0 := oM
  have hq : ((rows (ccs (sy 3)) 1).drop (0 * 5)).take 5 = [ex (.int .i64 0), ex (.int .i64 3), ex (.int .i64 1), ex (.bool true), ex (.int .i64 3)] := bZt (cZb (sy 3)) hlt
  have w1 : IntKind.i64.wrap (((0 : Nat) : Int) + 1) = ((0 + 1 : Nat) : Int) := by decide
  have w2 : IntKind.i64.wrap (8 - ((0 : Nat) : Int) * 3) = 8 := by decide
  have w3 : IntKind.i64.wrap (((0 : Nat) : Int) * 3 + 3) = ((0 + 1 : Nat) : Int) * 3 := by decide
  refine js<|jr<|jS (bLt jj jj)<|jn<|js<|jt jj<|jp<|js<|jb<|js<|jr<|jS (aZm jj jj hlt hq)<|jS (aZq jj jj jj)<|jA jj jj jj<|jP jj jj jj jj<|jn<|js<|js<|jr<|jF jj jj<|jl jj jj jj<|jm jj<|jS (bMf jj jj)<|jm jj (jgf jj jj (jgl jj jj jj (jg (bGf jj jj) (jQ jj jj (jm jj (jgf jj jj (jgl jj jj jj (jg (bLf jj jj) (jQ jj jj (jm jj (jgf jj jj (jgl jj jj jj (jgm jj (jg (bSu jj jj w2) (jg (bGf jj jj) (jQ jj jj (jn ?_)))))))))))))))))
  refine jf jj<|jp<|js<|jr<|jm jj<|jF jj jj<|jl jj jj jj<|jS (bAd jj jj w3)<|ja jj<|jn<|jr<|jF jj jj<|jl jj jj jj<|ja jj<|jn<|jr<|jS (bAd jj jj w1)<|jm jj<|jn ?_
  refine ⟨⟨0 + 1, oM⟩, ?_, oD⟩
  exact Sub.mk sJ sJ
 ·obtain rfl : i = 1 := oM
  refine js<|jr<|jS (bLf jj jj)<|jn<|js<|jf jj<|je<|js<|jr<|ja jj<|jn<|ji ?_
  exact rtT rfl jj
theorem valid3 : Fn Tryz.prog En 127 [locP 2 (sy 3) 1] (ex (.bool true)) := by
 have S1 := shaped3 En
 have L1 := legal3 En
 unfold locP at S1 ⊢
 refine aZb Tryz.func127 rfl Tryz.ntmps127 rfl ?_
 intro w0 h0
 refine js<|jr<|jB jj jj jj<|ja jj<|jn<|js<|js<|jr<|jL jj jj jj<|jS (aZa S1 ⟨jj, trivial⟩)<|jS (bNo jj)<|jn<|jf jj<|jp<|js<|js<|jr<|jF jj jj<|jl jj jj jj<|jE jj<|jm jj<|jn<|jb ?_
 refine WpD.loop (α := {i : Nat // i ≤ 1}) (fun i => ⟨[(1, .ptr 1 0), (2, .one (ex (.bool false))), (9, .one (slc 5 (rows (ccs (sy 3)) 1) 1)), (10, .one (ex (.int .i64 1))), (11, .one (ex (.int .i64 (i.1 : Int))))], [(1, [ex (.int .i64 2), slc 5 (rows (ccs (sy 3)) 1) 1])]⟩) (fun i => 1 - i.1) ⟨0, Nat.zero_le _⟩ ?_ ?_
 ·exact Sub.mk sJ sJ
 rintro ⟨i, hi⟩
 dsimp only at hi ⊢
 by_cases hlt : i < 1
 ·obtain rfl : i = 0 := oM
  have hq : ((rows (ccs (sy 3)) 1).drop (0 * 5)).take 5 = coc (sy 3 0) := bZt (cZb (sy 3)) hlt
  have w1 : IntKind.i64.wrap (((0 : Nat) : Int) + 1) = ((0 + 1 : Nat) : Int) := by decide
  refine js<|jr<|jS (bLt jj jj)<|jn<|js<|jt jj<|jp<|js<|jb<|js<|jr<|jS (aZm jj jj hlt hq)<|jS (aZq jj jj jj)<|jA jj jj jj<|jP jj jj jj jj<|jn<|js<|jr<|jL jj jj jj<|jS (aZa L1 ⟨jj, trivial⟩)<|jS (bNo jj)<|jn<|jf jj<|jp<|jr<|jS (bAd jj jj w1)<|jm jj<|jn ?_
  refine ⟨⟨0 + 1, oM⟩, ?_, oD⟩
  exact Sub.mk sJ sJ
 ·obtain rfl : i = 1 := oM
  refine js<|jr<|jS (bLf jj jj)<|jn<|js<|jf jj<|je<|js<|jr<|ja jj<|jn<|ji ?_
  exact rtT rfl jj
theorem accept3 : Fn Tryz.prog En 69 [locP 2 (sy 3) 1] (ex (.bool true)) := by
 have S1 := valid3 En
 unfold locP at S1 ⊢
 refine aZb Tryz.func69 rfl Tryz.ntmps69 rfl ?_
 intro w0 h0
 refine js<|jr<|jB jj jj jj<|ja jj<|jn<|js<|js<|jr<|jF jj jj<|jl jj jj jj<|jS (bEt jj jj)<|jn<|jt jj<|js<|jr<|jL jj jj jj<|jS (aZa S1 ⟨jj, trivial⟩)<|jm jj ?_
 first | refine jg (bZ8 jj jj jj jj) ?_ | refine jk ?_ | refine ju ?_
 first | refine jg (aZa missing_contract ⟨jj, trivial⟩) ?_ | refine jk ?_ | refine ju ?_
 first | refine jq jj jj ?_ | refine jQ jj jj ?_
 refine ja jj<|jn<|ji ?_
 exact rtT rfl jj
theorem symb3 : Fn Tryz.prog En 22 [ex (.int .i64 3), ex (.int .i64 1), ex (.int .i64 3)] (locP 2 (sy 3) 1) := by
 unfold locP
 refine aZb Tryz.func22 rfl Tryz.ntmps22 rfl ?_
 intro w0 h0
 refine js<|jr<|jA jj jj jj<|jn<|js<|jr<|jm jj<|jm jj<|jm jj<|jS (aZj (ps := [(_, _), (_, _), (_, _), (_, _)]) ⟨jj, Part.c jj, jj, Part.c jj, jj, Part.c jj, jj, Part.c jj, trivial⟩ jj)<|jS (aZ5 (ps := [(_, _)]) ⟨jj, Part.c jj, trivial⟩ jj jj jj)<|jS (aZj (ps := [(_, _), (_, _)]) ⟨jj, Part.c jj, jj, Part.c jj, trivial⟩ jj)<|jP jj jj jj jj<|jn<|ji ?_
 exact rtC rfl jj jj
end
theorem okl3 : OkL (sy 3) 1 := ⟨oM, oM, fun _ _ => by show (0 : Int) ≤ 0; omega, fun _ _ => by show (0 : Int) ≤ 100; omega, fun _ _ => by show (1 : Int) ≤ 3; omega, fun _ _ => by show (3 : Int) ≤ 8; omega, fun i j h1 h2 => oM⟩
theorem qZ3 : fits false true 0 1 := ⟨by decide, by decide, by decide, by decide, by decide⟩
theorem qZ2 : fits false false 0 0 := ⟨by decide, by decide, by decide, by decide, by decide⟩
theorem fits2 : fits true false 2 7 := ⟨by decide, by decide, by decide, by decide, by decide⟩
theorem fits3 : fits true false 3 9 := ⟨by decide, by decide, by decide, by decide, by decide⟩
def sdW (a b : Nat) (e : Int) : Nat := if e = 0 then a else if e = -1 ∨ e = 1 then b else 0
def ssW (a b c : Int) (e : Int) : Int := if e = 0 then a else if e = -1 ∨ e = 1 then b else c
theorem spec2 (e : Int) (h1 : -1 ≤ e) (h2 : e ≤ 1000) : Fn Tryz.prog TabD 29 [locP 2 (sy 2) 1, ex (.int .i64 e)] (aggP [ex (.int .i64 ((sdW 1 1 e : Nat) : Int)), ex (.int .i64 (ssW 0 0 1 e))]) := by
 by_cases e0 : e = 0
 ·subst e0
  have D := jZQ 0 2 1 2 7 oM oM oM fits2
  exact cZI (sy 2) 1 0 oM oM oM _ ⟨_, _, rfl⟩ D
 ·by_cases e1 : e = -1 ∨ e = 1
  ·have D := eZU e 0 1 0 true 1 oM oM qZ3
   have c1 : spC (sy 2) e 1 = ⟨e, 0, 1, false, 0⟩ := if_neg (fun h => e0 h.symm)
   have c2 : spB (sy 2) e 1 = true := by
    have h1 : ¬ (sy 2 0).e = e := fun h => e0 h.symm
    have h2 : (sy 2 0).e = e - 1 ∨ (sy 2 0).e = e + 1 := by show (0 : Int) = e - 1 ∨ (0 : Int) = e + 1; omega
    rw [spB, if_neg h1, if_pos h2]
    rfl
   rw [← c1, ← c2] at D
   rw [show sdW 1 1 e = 1 by unfold sdW; rw [if_neg e0, if_pos e1], show ssW 0 0 1 e = 0 by unfold ssW; rw [if_neg e0, if_pos e1]]
   exact cZI (sy 2) 1 e oM oM oM _ ⟨_, _, rfl⟩ D
  ·have D := eZU e 0 1 0 false 0 oM oM qZ2
   have c1 : spC (sy 2) e 1 = ⟨e, 0, 1, false, 0⟩ := if_neg (fun h => e0 h.symm)
   have c2 : spB (sy 2) e 1 = false := by
    have h1 : ¬ (sy 2 0).e = e := fun h => e0 h.symm
    have h2 : ¬ ((sy 2 0).e = e - 1 ∨ (sy 2 0).e = e + 1) := by show ¬ ((0 : Int) = e - 1 ∨ (0 : Int) = e + 1); omega
    rw [spB, if_neg h1, if_neg h2]
    rfl
   rw [← c1, ← c2] at D
   rw [show sdW 1 1 e = 0 by unfold sdW; rw [if_neg e0, if_neg e1], show ssW 0 0 1 e = 1 by unfold ssW; rw [if_neg e0, if_neg e1]]
   exact cZI (sy 2) 1 e oM oM oM _ ⟨_, _, rfl⟩ D
theorem mass2 : Fn Tryz.prog TabD 9 [locP 2 (sy 2) 1] (tupP [gZS (mkRat 1 8) false, ex (.int .i64 0)]) := by
 have A := accept2 TabD
 have X := mZ3 TabD 2 (sy 2) 1 okl2 oM oM A
 have M := mMass TabD 2 (sy 2) 1 okl2 oM oM (((2 : Int) : Rat) ^ 0) false ((eZn (sz_z (z := 2) oM oM) 0).mono oM) X (mZ2 TabD (sy 2) rfl A) (sdW 1 1) (ssW 0 0 1) (fun e => by unfold sdW; split <;> (try split) <;> omega) (fun e => by unfold ssW; split <;> (try split) <;> omega) spec2
 rw [show mpr 2 (sdW 1 1) (ssW 0 0 1) (((2 : Int) : Rat) ^ 0 * ((2 : Int) : Rat) ^ 0) (((sy 2 (1 - 1)).e).toNat + 3) = mkRat 1 8 by decide +kernel] at M
 exact M
theorem spec3 (e : Int) (h1 : -1 ≤ e) (h2 : e ≤ 1000) : Fn Tryz.prog TabD 29 [locP 2 (sy 3) 1, ex (.int .i64 e)] (aggP [ex (.int .i64 ((sdW 2 1 e : Nat) : Int)), ex (.int .i64 (ssW (-1) 0 1 e))]) := by
 by_cases e0 : e = 0
 ·subst e0
  have D := jZQ 0 3 1 3 9 oM oM oM fits3
  exact cZI (sy 3) 1 0 oM oM oM _ ⟨_, _, rfl⟩ D
 ·by_cases e1 : e = -1 ∨ e = 1
  ·have D := eZU e 0 1 0 true 1 oM oM qZ3
   have c1 : spC (sy 3) e 1 = ⟨e, 0, 1, false, 0⟩ := if_neg (fun h => e0 h.symm)
   have c2 : spB (sy 3) e 1 = true := by
    have h1 : ¬ (sy 3 0).e = e := fun h => e0 h.symm
    have h2 : (sy 3 0).e = e - 1 ∨ (sy 3 0).e = e + 1 := by show (0 : Int) = e - 1 ∨ (0 : Int) = e + 1; omega
    rw [spB, if_neg h1, if_pos h2]
    rfl
   rw [← c1, ← c2] at D
   rw [show sdW 2 1 e = 1 by unfold sdW; rw [if_neg e0, if_pos e1], show ssW (-1) 0 1 e = 0 by unfold ssW; rw [if_neg e0, if_pos e1]]
   exact cZI (sy 3) 1 e oM oM oM _ ⟨_, _, rfl⟩ D
  ·have D := eZU e 0 1 0 false 0 oM oM qZ2
   have c1 : spC (sy 3) e 1 = ⟨e, 0, 1, false, 0⟩ := if_neg (fun h => e0 h.symm)
   have c2 : spB (sy 3) e 1 = false := by
    have h1 : ¬ (sy 3 0).e = e := fun h => e0 h.symm
    have h2 : ¬ ((sy 3 0).e = e - 1 ∨ (sy 3 0).e = e + 1) := by show ¬ ((0 : Int) = e - 1 ∨ (0 : Int) = e + 1); omega
    rw [spB, if_neg h1, if_neg h2]
    rfl
   rw [← c1, ← c2] at D
   rw [show sdW 2 1 e = 0 by unfold sdW; rw [if_neg e0, if_neg e1], show ssW (-1) 0 1 e = 1 by unfold ssW; rw [if_neg e0, if_neg e1]]
   exact cZI (sy 3) 1 e oM oM oM _ ⟨_, _, rfl⟩ D
theorem mass3 : Fn Tryz.prog TabD 9 [locP 2 (sy 3) 1] (tupP [gZS (mkRat 1 12) false, ex (.int .i64 0)]) := by
 have A := accept3 TabD
 have X := mZ3 TabD 2 (sy 3) 1 okl3 oM oM A
 have M := mMass TabD 2 (sy 3) 1 okl3 oM oM (((2 : Int) : Rat) ^ 0) false ((eZn (sz_z (z := 2) oM oM) 0).mono oM) X (mZ2 TabD (sy 3) rfl A) (sdW 2 1) (ssW (-1) 0 1) (fun e => by unfold sdW; split <;> (try split) <;> omega) (fun e => by unfold ssW; split <;> (try split) <;> omega) spec3
 rw [show mpr 2 (sdW 2 1) (ssW (-1) 0 1) (((2 : Int) : Rat) ^ 0 * ((2 : Int) : Rat) ^ 0) (((sy 3 (1 - 1)).e).toNat + 3) = mkRat 1 12 by decide +kernel] at M
 exact M
theorem std3 : stdA 3 1 2 = tupP [qC (mkRat 2 3), ex (.int .i64 0)] := by
 unfold stdA
 rw [if_pos oM, if_pos (by decide +kernel), show stdQ (3 : Int).toNat 1 2 = mkRat 2 3 by decide +kernel]
theorem awake32 : Fn Tryz.prog TabD 8 [] (ex (.bool true)) := by
 have A1 := symb2 TabD
 have A2 := mass2
 have B1 := symb3 TabD
 have B2 := mass3
 have D1 := (hZK 3 1 2).tab
 rw [std3] at D1
 have F1 := dZl TabD (mkRat 1 8) 1 1 ((lZz (by decide +kernel)).mono oM) (by decide +kernel) (by decide +kernel) oM (by decide +kernel) oM (by decide +kernel) oM (by decide +kernel) oM
 have F2 := dZl TabD (mkRat 1 12) 1 2 ((lZz (by decide +kernel)).mono oM) (by decide +kernel) (by decide +kernel) oM (by decide +kernel) oM (by decide +kernel) oM (by decide +kernel) oM
 have F3 := dZl TabD (mkRat 2 3) 1 1 ((lZz (by decide +kernel)).mono oM) (by decide +kernel) (by decide +kernel) oM (by decide +kernel) oM (by decide +kernel) oM (by decide +kernel) oM
 have t1 : ((txt (fmtL (mkRat 1 8).num 1) ++ (⟨#[47]⟩ : ByteArray) ++ txt (fmtL (mkRat 1 8).den 1)).toList == (⟨#[49, 47, 56]⟩ : ByteArray).toList) = true := iZQ (by rw [ByteArray.data_append, ByteArray.data_append]; decide +kernel)
 have t2 : ((txt (fmtL (mkRat 1 12).num 1) ++ (⟨#[47]⟩ : ByteArray) ++ txt (fmtL (mkRat 1 12).den 2)).toList == (⟨#[49, 47, 49, 50]⟩ : ByteArray).toList) = true := iZQ (by rw [ByteArray.data_append, ByteArray.data_append]; decide +kernel)
 have t3 : ((txt (fmtL (mkRat 2 3).num 1) ++ (⟨#[47]⟩ : ByteArray) ++ txt (fmtL (mkRat 2 3).den 1)).toList == (⟨#[50, 47, 51]⟩ : ByteArray).toList) = true := iZQ (by rw [ByteArray.data_append, ByteArray.data_append]; decide +kernel)
 unfold gZS at A2 B2
 refine aZb Tryz.func8 rfl Tryz.ntmps8 rfl ?_
 intro w0 h0
 refine kO ?_
 refine jr<|ja jj<|jn ?_
 refine kO ?_
 refine jr<|jS (aZa A1 tC)<|jS (aZa A2 tA)<|jm jj<|jx' jj jj<|jx' jj jj<|jA jj jj jj<|jP jj jj jj jj<|ja jj<|jn ?_
 refine kO ?_
 refine jr<|jS (aZa B1 tC)<|jS (aZa B2 tA)<|jm jj<|jx' jj jj<|jx' jj jj<|jA jj jj jj<|jP jj jj jj jj<|ja jj<|jn ?_
 refine kO ?_
 refine jr<|jS (aZa D1 tC)<|jm jj<|jx' jj jj<|jx' jj jj<|jA jj jj jj<|jP jj jj jj jj<|ja jj<|jn ?_
 refine kO ?_
 refine jr<|jm jj<|jS (aZ6 jj jj (fun w => cZ6 w _ _ _ _ _ _))<|jm jj ?_
 first | refine jgm jj ?_ | refine jk ?_ | refine ju ?_
 first | refine jg (aZ6 jj jj (fun w => cZ6 w _ _ _ _ _ _)) ?_ | refine jk ?_ | refine ju ?_
 first | refine jq jj jj ?_ | refine jQ jj jj ?_
 refine jm jj ?_
 first | refine jgm jj ?_ | refine jk ?_ | refine ju ?_
 first | refine jg (aZ6 jj jj (fun w => cZ6 w _ _ _ _ _ _)) ?_ | refine jk ?_ | refine ju ?_
 first | refine jq jj jj ?_ | refine jQ jj jj ?_
 refine jm jj ?_
 first | refine jgf jj jj ?_ | refine jk ?_ | refine ju ?_
 first | refine jg (bZ8 jj jj jj jj) ?_ | refine jk ?_ | refine ju ?_
 first | refine jg (aZa F1 tA) ?_ | refine jk ?_ | refine ju ?_
 first | refine jg (aZf jj jj (fun w => iZ0 w CStr.ok _ _ _ _) (bZe t1)) ?_ | refine jk ?_ | refine ju ?_
 first | refine jq jj jj ?_ | refine jQ jj jj ?_
 refine jm jj ?_
 first | refine jgf jj jj ?_ | refine jk ?_ | refine ju ?_
 first | refine jg (bZ8 jj jj jj jj) ?_ | refine jk ?_ | refine ju ?_
 first | refine jg (aZa F2 tA) ?_ | refine jk ?_ | refine ju ?_
 first | refine jg (aZf jj jj (fun w => iZ0 w CStr.ok _ _ _ _) (bZe t2)) ?_ | refine jk ?_ | refine ju ?_
 first | refine jq jj jj ?_ | refine jQ jj jj ?_
 refine jm jj ?_
 first | refine jg (bZ8 jj jj jj jj) ?_ | refine jk ?_ | refine ju ?_
 first | refine jg (aZa F3 tA) ?_ | refine jk ?_ | refine ju ?_
 first | refine jg (aZf jj jj (fun w => iZ0 w CStr.ok _ _ _ _) (bZe t3)) ?_ | refine jk ?_ | refine ju ?_
 first | refine jq jj jj ?_ | refine jQ jj jj ?_
 refine jm jj ?_
 first | refine jgf jj jj ?_ | refine jk ?_ | refine ju ?_
 first | refine jgl jj jj jj ?_ | refine jk ?_ | refine ju ?_
 first | refine jg (bNo jj) ?_ | refine jk ?_ | refine ju ?_
 first | refine jq jj jj ?_ | refine jQ jj jj ?_
 refine ja jj<|jn ?_
 refine kO ?_
 refine WpD.ret ?_
 exact rtT rfl jj
end
section
open Go.RowKit Limb Num
end
section
open Limb Num
def sdO (f : Nat → Co) (n : Nat) (e : Int) : Nat := (spC f e n).d.toNat
def ssO (p : Int) (f : Nat → Co) (n : Nat) (e : Int) : Int := spO p (spC f e n).d (spC f e n).s
end
section
open Go.RowKit Limb Num
end
end Go.Proofs.YtfmjdlogjmofbaaGreatDoor

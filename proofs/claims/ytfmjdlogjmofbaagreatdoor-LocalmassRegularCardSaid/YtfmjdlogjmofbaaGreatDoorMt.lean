/- Statement of chapter 32: Duals. -/
import Derived.Test.YtfmjdlogjmofbaaGreatDoorMem
import Derived.Test.YtfmjdlogjmofbaaGreatDoorDu
import Derived.Test.YtfmjdlogjmofbaaGreatDoorCs
import Derived.Lib.SmallJoins
import Derived.Test.YtfmjdlogjmofbaaGreatDoorMc
import Derived.Lib.LaidTab
import Derived.OpenShut
import Derived.Test.YtfmjdlogjmofbaaGreatDoorW
set_option maxRecDepth 3000
namespace Go.Proofs.YtfmjdlogjmofbaaGreatDoor
section
open Go.RowKit Limb Num
def nZN : Pd := aggP [ex (.bool false), ex (.slice none 0 0), ex (.bool false), ex (.slice none 0 0), ex (.bool false)]
section
variable (En : Ev)
theorem mMassX (p : Int) (f : Nat → Co) (n : Nat) (hX : Fn Tryz.prog En 24 [locP p f n] (tupP [nZN, ex (.int .i64 7)])) : Fn Tryz.prog En 9 [locP p f n] (tupP [nZN, ex (.int .i64 7)]) := by
 unfold locP nZN at *
 refine aZb Tryz.func9 rfl Tryz.ntmps9 rfl ?_
 intro w0 h0
 refine js<|jr<|jB jj jj jj<|jA jj jj jj<|ja jj<|jn<|js<|jr<|jL jj jj jj<|jS (aZa hX ⟨jj, trivial⟩)<|jm jj<|jx' jj jj<|jx' jj jj<|jA jj jj jj<|jP jj jj jj jj<|ja jj<|jn<|js<|js<|jr<|jm jj<|jS (bNt jj jj)<|jn<|jt jj<|js<|jr<|jS (aZj (ps := []) trivial jj)<|jm jj<|jP jj jj jj jj<|ja jj<|jn<|ji ?_
 exact rtD rfl jj jj jj
end
theorem hZr (f : Nat → Co) (e : Int) : ∀ n, spC f e n = ⟨e, 0, 1, false, 0⟩ ∨ ∃ i, i < n ∧ spC f e n = f i
 | 0 => .inl rfl
 | n + 1 => by
  rw [spC]
  by_cases h : (f n).e = e
  ·rw [if_pos h]
   exact .inr ⟨n, oM, rfl⟩
  ·rw [if_neg h]
   rcases hZr f e n with h1 | ⟨i, h1, h2⟩
   ·exact .inl h1
   ·exact .inr ⟨i, oM, h2⟩
theorem lZ7 {f : Nat → Co} {n : Nat} (H : OddL f n) (e : Int) : 0 ≤ (spC f e n).d ∧ (spC f e n).d ≤ 8 ∧ ((spC f e n).s = 1 ∨ (spC f e n).s = -1) := by
 rcases hZr f e n with h | ⟨i, h1, h2⟩
 ·rw [h]
  exact ⟨by show (0 : Int) ≤ 0; omega, by show (0 : Int) ≤ 8; omega, .inl rfl⟩
 ·rw [h2]
  have := H.d0 i h1
  exact ⟨oM, H.d8 i h1, H.sg i h1⟩
theorem ssO_bd {p : Int} {f : Nat → Co} {n : Nat} (H : OddL f n) (e : Int) : -1 ≤ ssO p f n e ∧ ssO p f n e ≤ 1 := by
 have := lZ7 H e
 unfold ssO spO
 split
 ·omega
 ·split <;> omega
theorem sdO_bd {f : Nat → Co} {n : Nat} (H : OddL f n) (e : Int) : sdO f n e ≤ 9 := by
 have := lZ7 H e
 unfold sdO
 omega
def mO (p : Int) (f : Nat → Co) (n : Nat) : Rat := mpr p (sdO f n) (ssO p f n) (((2 : Int) : Rat) ^ 0 * ((p : Int) : Rat) ^ ((crH f n).toNat / 2)) ((f (n - 1)).e.toNat + 3)
def masA (h : Int) (M : Rat) : Pd := if h ≤ 128 then tupP [gZS M (halfB h), ex (.int .i64 0)] else tupP [nZN, ex (.int .i64 7)]
theorem massO (p : Int) (f : Nat → Co) (n : Nat) (H : OddL f n) (hp : smP p = true) (h3 : 3 ≤ p) : Fn Tryz.prog TabD 9 [locP p f n] (masA (crH f n) (mO p f n)) := by
 obtain ⟨p1, p2, _⟩ := jZo hp
 have A := oaccept p f n H hp h3
 have X := mZ3 TabD p f n H.toOkL p1 p2 A
 unfold crA at X
 unfold masA
 by_cases h : crH f n ≤ 128
 ·rw [if_pos h] at X
  rw [if_pos h]
  have hb := nZm H.toOkL (j := n) (Nat.le_refl _)
  refine mMass TabD p f n H.toOkL p1 p2 _ _ ((eZn (sz_z (z := p) oM oM) _).mono oM) X (mTypesO TabD p f n oM A) (sdO f n) (ssO p f n) (sdO_bd H) (ssO_bd H) fun e e1 e2 => ?_
  obtain ⟨c1, c2, c3⟩ := lZ7 H e
  have S := mZs TabD p f n e h3 p2 (by have := H.n8; omega) e1 e2 c1 oM oM
  rw [show (spC f e n).d = ((sdO f n e : Nat) : Int) by unfold sdO; omega, show spO p ((sdO f n e : Nat) : Int) (spC f e n).s = ssO p f n e by unfold ssO; rw [show ((sdO f n e : Nat) : Int) = (spC f e n).d by unfold sdO; omega]] at S
  exact S
 ·rw [if_neg h] at X
  rw [if_neg h]
  exact mMassX TabD p f n X
end
section
open Go.RowKit Limb Det Num
def oneF (n : Nat) (s : Int) : Nat → Co := fun _ => ⟨0, (n : Int), s, false, 0⟩
theorem oneF_ok {n : Nat} {s : Int} (h1 : 1 ≤ n) (h8 : n ≤ 8) (hs : s = 1 ∨ s = -1) : OddL (oneF n s) 1 :=
 ⟨⟨Nat.le_refl 1, oM, fun _ _ => Int.le_refl 0, fun _ _ => by show (0 : Int) ≤ 100; omega, fun _ _ => by show (1 : Int) ≤ (n : Int); omega, fun _ _ => by show (n : Int) ≤ 8; omega, fun i j h1 h2 => oM⟩, fun _ _ => by show (0 : Int) ≤ 60; omega, fun _ _ => hs, fun _ _ => rfl, fun _ _ => rfl, by show (0 : Int) + (n : Int) ≤ 8; omega⟩
theorem mO_one {p n : Nat} {s : Int} (h1 : 1 ≤ n) : mO (p : Int) (oneF n s) 1 = dia (p : Int) n (spO (p : Int) (n : Int) s) := by
 have hc : crH (oneF n s) 1 = 0 := by
  show (0 : Int) + (0 : Int) = 0
  rfl
 have c : ∀ e : Int, e ≠ 0 → spC (oneF n s) e 1 = ⟨e, 0, 1, false, 0⟩ := fun e he => if_neg fun h => he h.symm
 have c0 : spC (oneF n s) 0 1 = ⟨0, (n : Int), s, false, 0⟩ := if_pos rfl
 have z1 : sdO (oneF n s) 1 (((2 : Nat) : Int) - 1) = 0 := by unfold sdO; rw [c _ oM]; rfl
 have z2 : sdO (oneF n s) 1 (((0 : Nat) : Int) - 1) = 0 := by unfold sdO; rw [c _ oM]; rfl
 have z3 : sdO (oneF n s) 1 (((1 : Nat) : Int) - 1) = n := by unfold sdO; rw [show ((1 : Nat) : Int) - 1 = 0 by omega, c0]; exact Int.toNat_natCast n
 have z4 : ssO (p : Int) (oneF n s) 1 (((1 : Nat) : Int) - 1) = spO (p : Int) (n : Int) s := by unfold ssO; rw [show ((1 : Nat) : Int) - 1 = 0 by omega, c0]
 unfold mO
 rw [hc]
 show mpr (p : Int) (sdO (oneF n s) 1) (ssO (p : Int) (oneF n s) 1) _ 3 = _
 rw [mpr, z1, if_neg oM, mpr, z3, if_pos oM, z4, mpr, z2, if_neg oM, mpr]
 show ((2 : Int) : Rat) ^ 0 * ((p : Int) : Rat) ^ 0 * _ = _
 rw [Rat.pow_zero, Rat.pow_zero, Rat.one_mul, Rat.one_mul]
theorem std_one {p n : Nat} {d : Int} (hp : OP p) (hpp : isP p = true) (h1 : 1 ≤ n) (hd0 : d ≠ 0) (hd : ¬ (p : Int) ∣ d) : mO (p : Int) (oneF n (legZ d p)) 1 = stdQ n d (p : Int) := by
 rw [mO_one h1]
 unfold stdQ
 by_cases h : n % 2 = 1
 ·rw [if_pos h]
  have : spO (p : Int) (n : Int) (legZ d p) = 0 := if_pos oM
  rw [this]
 ·rw [if_neg h, nZV hp hpp hd0 hd oM]
theorem oZ9 (p n : Nat) (d : Int) (hp : smP (p : Int) = true) (hO : OP p) (h1 : 1 ≤ n) (h8 : n ≤ 8) (hd0 : d ≠ 0) (hd : ¬ (p : Int) ∣ d) : Fn Tryz.prog TabD 9 [locP (p : Int) (oneF n (legZ d p)) 1] (tupP [gZS (stdQ n d (p : Int)) false, ex (.int .i64 0)]) := by
 obtain ⟨_, h3, _⟩ := hO.half
 obtain ⟨_, _, hpp⟩ := jZo hp
 rw [Int.toNat_natCast] at hpp
 have hs : legZ d p = 1 ∨ legZ d p = -1 := by
  rcases bZn d p with h | h
  ·exact absurd ((cZZ hO).1 h) hd
  ·exact h
 have M := massO (p : Int) (oneF n (legZ d p)) 1 (oneF_ok h1 h8 hs) hp oM
 have hc : crH (oneF n (legZ d p)) 1 = 0 := rfl
 rw [hc, std_one hO hpp h1 hd0 hd] at M
 exact M
end
section
open Go.RowKit Limb Det Num
theorem q_pos1 {p : Int} (hp : 2 ≤ p) (e : Nat) : (0 : Rat) < (((p : Int) : Rat)⁻¹) ^ e := by
 have h : (0 : Rat) < ((p : Int) : Rat)⁻¹ := Rat.inv_pos.2 (Rat.intCast_pos.2 oM)
 exact Rat.pow_pos h
theorem mZV {p c : Int} (hp : 2 ≤ p) (c1 : c ≤ 1) {e : Nat} (he : 1 ≤ e) : (0 : Rat) < fct p c e := by
 have h := pinv hp e
 have hq := q_pos1 hp e
 have hpe : 2 ≤ p ^ e := by
  obtain ⟨k, rfl⟩ : ∃ k, e = k + 1 := ⟨e - 1, oM⟩
  have : 0 < p ^ k := Int.pow_pos oM
  rw [Int.pow_succ]
  have h2 : 1 * 2 ≤ p ^ k * p := Int.mul_le_mul oM hp oM oM
  omega
 have e1 : fct p c e = (((p ^ e - c : Int)) : Rat) * (((p : Int) : Rat)⁻¹) ^ e := by
  unfold fct
  rw [Rat.intCast_sub]
  generalize (((p : Int) : Rat)⁻¹) ^ e = q at *
  generalize ((p ^ e : Int) : Rat) = P at *
  generalize ((c : Int) : Rat) = x at *
  have : ((1 : Int) : Rat) = 1 := rfl
  grind
 rw [e1]
 exact Rat.mul_pos (Rat.intCast_pos.2 oM) hq
theorem iZU {p : Int} (hp : 2 ≤ p) : ∀ k, (0 : Rat) < dvs p k
 | 0 => by show (0 : Rat) < ((2 : Int) : Rat); exact Rat.intCast_pos.2 oM
 | k + 1 => Rat.mul_pos (iZU hp k) (mZV hp oM oM)
theorem fZp {x : Rat} (h : (0 : Rat) < x) : (0 : Rat) < ((1 : Int) : Rat) / x := by
 rw [Rat.div_def]
 exact Rat.mul_pos (Rat.intCast_pos.2 oM) (Rat.inv_pos.2 h)
theorem nZb {p c : Int} (hp : 2 ≤ p) (c1 : c ≤ 1) (n : Nat) : (0 : Rat) < dia p n c := by
 unfold dia
 split
 ·exact Rat.intCast_pos.2 oM
 ·split
  ·exact fZp (iZU hp _)
  ·exact fZp (Rat.mul_pos (iZU hp _) (mZV hp c1 oM))
theorem std_pos {p : Int} (hp : 2 ≤ p) (n : Nat) (d : Int) : (0 : Rat) < stdQ n d p := by
 unfold stdQ
 split
 ·exact nZb hp oM n
 ·exact nZb hp (by rcases eZi (fldZ (n : Int) d) p with h | h | h <;> rw [h] <;> decide) n
theorem std_sg {p : Int} (hp : 2 ≤ p) (n : Nat) (d : Int) : sg3 (stdQ n d p).num = 1 := by
 have h0 := std_pos hp n d
 have h : 0 < (stdQ n d p).num := by
  have h1 := Rat.lt_iff 0 (stdQ n d p)
  have h2 := h1.1 h0
  simpa using h2
 unfold sg3
 grind
end
section
open Go.RowKit Limb Det Num
theorem oZ1 {j : Nat} (h : j < 8) : OP (od8 j) ∧ smP (od8 j : Int) = true ∧ od8 j ≤ 1000 := by
 have key : isP (od8 j) = true ∧ od8 j % 2 = 1 ∧ od8 j ≤ 1000 := by
  match j, h with
  | 0, _ => decide +kernel
  | 1, _ => decide +kernel
  | 2, _ => decide +kernel
  | 3, _ => decide +kernel
  | 4, _ => decide +kernel
  | 5, _ => decide +kernel
  | 6, _ => decide +kernel
  | 7, _ => decide +kernel
 refine ⟨⟨((eZ2 _).1 key.1).1, key.2.1⟩, ?_, key.2.2⟩
 unfold smP
 rw [Int.toNat_natCast, key.1, decide_eq_true oM]
 rfl
theorem pZk (a : Rat) : cmpQ a a = 0 := by unfold cmpQ cmpZ; simp
set_option maxHeartbeats 1000000 in
theorem oZC (dim kind : Nat) (f : Nat → Int) (N : Nat) (f' : Nat → Int) (N' : Nat) (k : Int) (hT : Tp f N) (hd : dim < 256) (k1 : 0 ≤ k) (k2 : k ≤ 255) : Fn Tryz.prog TabD 3 [latP dim kind f N f' N', ex (.int .u8 k)] (ex (.bool true)) := by
 have C1 := mform TabD dim kind f N f' N' hT hd
 have P1 := fodd TabD k k1 k2
 have AW := awake32
 obtain ⟨hO, hsm, hp3⟩ := oZ1 (j := (k % 8).toNat) oM
 have hF := fm_form f N (1 + dim % 7) (kind % 8) oM oM
 generalize od8 (k % 8).toNat = p at *
 generalize 1 + dim % 7 = n at *
 generalize oZO f N n (kind % 8) = A at *
 have hn1 := hF.n1
 have hn7 := hF.n7
 have hpo := hF.po n (Nat.le_refl n)
 have hdn := hF.dn
 have hI : ∀ i j, i < n → j < n → I64 (A i j) := fun i j hi hj => by
  have := hF.en i j hi hj
  exact ⟨oM, oM⟩
 have C2 := hdet TabD A n 2 hn1 oM oM (fun i j hi hj => by
  have := hF.en i j hi hj
  exact bZa oM oM) hI ⟨oM, oM⟩
 obtain ⟨_, hp33, _⟩ := hO.half
 have hp0 : (p : Int) ≠ 0 := oM
 by_cases hn2 : n < 2
 ·refine aZb Tryz.func3 rfl Tryz.ntmps3 rfl ?_
  intro w0 h0
  refine js<|jr<|jB jj jj jj<|ja jj<|jn<|js<|jr<|jL jj jj jj<|jS (aZa C1 ⟨jj, jj, trivial⟩)<|jm jj<|jS (aZa P1 ⟨jj, trivial⟩)<|ja jj<|ja jj<|jn<|js<|jr<|jm jj<|jS (aZa C2 ⟨jj, trivial⟩)<|ja jj<|jn<|js<|js<|jr<|jm jj<|jE jj<|jS (bLt jj jj)<|jm jj<|jk<|jk<|jk<|jk<|jq jj jj<|jn<|jt jj<|js<|jr<|jS (aZa AW trivial)<|ja jj<|jn<|ji ?_
  exact rtT rfl jj
 by_cases hdv : (p : Int) ∣ det n A
 ·have h0 : (det n A).tmod (p : Int) = 0 := Int.tmod_eq_zero_of_dvd hdv
  refine aZb Tryz.func3 rfl Tryz.ntmps3 rfl ?_
  intro w0 h0
  refine js<|jr<|jB jj jj jj<|ja jj<|jn<|js<|jr<|jL jj jj jj<|jS (aZa C1 ⟨jj, jj, trivial⟩)<|jm jj<|jS (aZa P1 ⟨jj, trivial⟩)<|ja jj<|ja jj<|jn<|js<|jr<|jm jj<|jS (aZa C2 ⟨jj, trivial⟩)<|ja jj<|jn<|js<|js<|jr<|jm jj<|jE jj<|jS (bLf jj jj)<|jm jj (jgm jj (jgm jj (jg (aZ6 jj jj (fun w => cZz w _ _ _ _ _ _ aW)) (jg (bEt jj jj) (jQ jj jj (jn (jt jj (js (jr (jS (aZa AW trivial) (ja jj (jn (ji ?_)))))))))))))
  exact rtT rfl jj
 ·have h0 : (det n A).tmod (p : Int) ≠ 0 := fun h => hdv (Int.dvd_of_tmod_eq_zero h)
  have C3 := hofGood TabD A n p hF hsm hO hp3 hdv
  have C4 := oZ9 p n (det n A) hsm hO hn1 oM oM hdv
  have C5 := (hZK (n : Int) (det n A) (p : Int)).tab
  have hst : stdA (n : Int) (det n A) (p : Int) = tupP [qC (stdQ n (det n A) (p : Int)), ex (.int .i64 0)] := by
   unfold stdA
   rw [if_pos oM, if_pos hsm, Int.toNat_natCast]
  rw [hst] at C5
  have hsz : Sz 1073741824 (stdQ n (det n A) (p : Int)) := by
   unfold stdQ
   split
   ·exact (jZl oM oM oM oM oM).mono oM
   ·exact (jZl oM oM (by rcases eZi (fldZ (n : Int) (det n A)) (p : Int) with h | h | h <;> rw [h] <;> decide) (by rcases eZi (fldZ (n : Int) (det n A)) (p : Int) with h | h | h <;> rw [h] <;> decide) oM).mono oM
  have C6 := krcmp TabD (stdQ n (det n A) (p : Int)) (stdQ n (det n A) (p : Int)) hsz hsz
  rw [pZk] at C6
  have C7 := krsign TabD (stdQ n (det n A) (p : Int)) hsz
  rw [std_sg oM] at C7
  refine aZb Tryz.func3 rfl Tryz.ntmps3 rfl ?_
  intro w0 h0
  refine js<|jr<|jB jj jj jj<|ja jj<|jn<|js<|jr<|jL jj jj jj<|jS (aZa C1 ⟨jj, jj, trivial⟩)<|jm jj<|jS (aZa P1 ⟨jj, trivial⟩)<|ja jj<|ja jj<|jn<|js<|jr<|jm jj<|jS (aZa C2 ⟨jj, trivial⟩)<|ja jj<|jn<|js<|js<|jr<|jm jj<|jE jj<|jS (bLf jj jj)<|jm jj (jgm jj (jgm jj (jg (aZ6 jj jj (fun w => cZz w _ _ _ _ _ _ aW)) (jg (bEf jj jj) (jQ jj jj (jn (jf jj (jp (js (jr (jm jj (jm jj (jS (aZa C3 ⟨jj, jj, trivial⟩) (jS (aZa C4 ⟨jj, trivial⟩) (jm jj (jx' jj jj (jx' jj jj (jA jj jj jj (jP jj jj jj jj (ja jj (jn ?_)))))))))))))))))))))
  refine js<|jr<|jm jj<|jE jj<|jm jj<|jm jj<|jS (aZa C5 ⟨jj, jj, jj, trivial⟩)<|jm jj<|jx' jj jj<|jx' jj jj<|jA jj jj jj<|jP jj jj jj jj<|ja jj<|jn<|js<|jr<|jm jj<|jS (bEt jj jj)<|jm jj (jgm jj (jg (bEt jj jj) (jq jj jj (jm jj (jgf jj jj (jgl jj jj jj (jg (cZS jj (fun w => lZG w _) (bZe (jj : (!false) = true))) (jq jj jj (jm jj (jgf jj jj (jg (bZ8 jj jj jj jj) (jg (bZ8 jj jj jj jj) (jg (aZa C6 ⟨jj, jj, trivial⟩) (jg (bEt jj jj) (jq jj jj (jm jj (jg (bZ8 jj jj jj jj) (jg (aZa C7 ⟨jj, trivial⟩) (jg (bGt jj jj) (jq jj jj (jm jj (jg (aZa AW trivial) (jq jj jj (ja jj (jn ?_)))))))))))))))))))))))))
  refine ji ?_
  exact rtT rfl jj
end
section
open Go.RowKit Limb Go.ChangeShapes Go.WideShapes Go.Joins
theorem hZA (f : Nat → Int) : ∀ n, outL (fun i => ex (.int .i8 (f i))) n = ((List.range n).map fun i => Value.int .i8 (f i)).map ex
 | 0 => rfl
 | n + 1 => by
  have ih := hZA f n
  unfold outL at ih ⊢
  rw [rowL, ih, List.range_succ, List.map_append, List.map_append]
  rfl
section
variable {H : Type} {enc : TypeId × Value → H} {P : Program} {W : World} {base : Nat} {T t8 ts ti : TypeId} {f0 f1 f2 f3 : Field}
theorem jZE {n : Nat} {u : Value} {y : DataW H × List MemPlace} (hs : P.underlying ts = some (.slice ti)) (hi : P.underlying ti = some (.int .i8)) (ci : P.cellsOf ti = 1) (h : DataW.trod enc P W 0 (fun _ => true) true n ts [u] = some y) : ∃ f N, Tp f N ∧ (tpL f N).p (wGH W) u := by
 rcases DataW.trod_slice hs h with ⟨e1, _⟩ | ⟨a, len, cap, elems, rest, m, _, e1, _, hb, hlc, hcm, hlen, hel, _, _⟩
 ·simp at e1
  subst e1
  exact ⟨fun _ => 0, 0, ⟨oM, fun _ => oM, fun _ => oM⟩, none, 0, rfl, Nat.le_refl _, Nat.zero_le _, fun _ => rfl, rfl, fun hn => absurd rfl hn⟩
 ·simp at e1
  subst e1
  have each : ∀ i, i < len → ∃ z : Int, (-128 ≤ z ∧ z < 128) ∧ W.cells? 0 (a.add (i * 1)) 1 = some [.int .i8 z] := by
   intro i hi'
   have h2 := hel i hi'
   rw [ci, List.getElem?_eq_getElem oM] at h2
   obtain ⟨cs', q1, q2⟩ := Option.bind_eq_some_iff.1 h2
   obtain ⟨z, e0, _, wz⟩ := DataW.trod_int hi q2
   have hb2 := bounds_i8 wz
   subst e0
   exact ⟨z, ⟨hb2.1, oM⟩, q1⟩
  have hch : ∃ f : Nat → Int, (∀ i, -128 ≤ f i ∧ f i < 128) ∧ ∀ i, i < len → W.cells? 0 (a.add (i * 1)) 1 = some [.int .i8 (f i)] := by
   refine ⟨fun i => if hi : i < len then (each i hi).choose else 0, fun i => ?_, fun i hi => ?_⟩
   ·dsimp only
    by_cases h : i < len
    ·rw [dif_pos h]; exact (each i h).choose_spec.1
    ·rw [dif_neg h]; omega
   ·dsimp only
    rw [dif_pos hi]
    exact (each i hi).choose_spec.2
  obtain ⟨f, hf, hxx⟩ := hch
  refine ⟨f, len, ⟨by have : cap ≤ 2 ^ 63 - 1 := hcm; omega, fun i => (hf i).1, fun i => (hf i).2⟩, some a, cap, rfl, hlc, hcm, (fun h => by cases h), by rw [bZc, Nat.mul_one], fun hne => ?_⟩
  have hpos : 0 < len := by
   rcases Nat.eq_zero_or_pos len with h | h
   ·subst h; exact absurd rfl hne
   ·exact h
  have hcell : ∀ i, i < len → W.cell? (a.add i) = some (.int .i8 (f i)) := by
   intro i hi'
   have := (World.cells?_some (hxx i hi')).2.2 0 oM
   rw [Nat.mul_one] at this
   simpa [Addr.add] using this
  obtain ⟨bb, off, spot⟩ := a
  have hspot : spot = none := by
   have := World.cell?_spot (hcell 0 hpos)
   simpa [Addr.add] using this
  subst hspot
  refine ⟨bb, off, (List.range len).map fun i => .int .i8 (f i), rfl, ?_, fun j v hv => ?_⟩
  ·rw [hZA f len]
   exact eZ7 fun v hv => by
    obtain ⟨i, _, rfl⟩ := List.mem_map.1 hv
    rfl
  ·rw [List.getElem?_map] at hv
   obtain ⟨i, h1, rfl⟩ := Option.map_eq_some_iff.1 hv
   have h2 := (List.getElem?_eq_some_iff.1 h1)
   obtain ⟨h3, h4⟩ := h2
   rw [List.getElem_range] at h4
   subst h4
   have := hcell j (by simpa using h3)
   rwa [Addr.add_mid] at this
theorem oZz {v : Value} {d : DataW H} {p : List MemPlace} (hT : P.underlying T = some (.struct #[f0, f1, f2, f3])) (h0 : f0.type = t8) (o0 : f0.offset = 0) (h1 : f1.type = t8) (o1 : f1.offset = 1) (h2 : f2.type = ts) (o2 : f2.offset = 2) (h3 : f3.type = ts) (o3 : f3.offset = 3) (cT : P.cellsOf T = 4) (c0 : P.cellsOf t8 = 1) (c1 : P.cellsOf ts = 1)
  (h8 : P.underlying t8 = some (.int .u8)) (hs : P.underlying ts = some (.slice ti)) (hi : P.underlying ti = some (.int .i8)) (ci : P.cellsOf ti = 1)
  (hval : Value.okWide P W .any base T v) (h : DataW.Trod enc P W 0 (fun _ => true) true T v d p) :
  ∃ dim kind f N f' N', Tp f N ∧ dim < 256 ∧ (latP dim kind f N f' N').p (wGH W) v := by
 obtain ⟨cs, rfl, hsz⟩ := okWide_struct hT hval
 obtain ⟨fuel, hf⟩ := h
 have hf : DataW.trod enc P W 0 (fun _ => true) true fuel T cs.toList = some (d, p) := hf
 obtain ⟨y0, y1, y2, y3, n, hx, hl, g0, g1, g2, g3⟩ := trod_struct4 hT hf
 rw [h0, o0, c0] at g0
 rw [h1, o1, c0] at g1
 rw [h2, o2, c1] at g2
 rw [h3, o3, c1] at g3
 obtain ⟨u0, u1, u2, u3, hcs⟩ : ∃ u0 u1 u2 u3, cs.toList = [u0, u1, u2, u3] := by
  rw [cT] at hl
  match hc : cs.toList, hl with
  | [u0, u1, u2, u3], _ => exact ⟨u0, u1, u2, u3, rfl⟩
 rw [hcs] at g0 g1 g2 g3
 obtain ⟨x0, e0, _, w0⟩ := DataW.trod_int h8 (show DataW.trod enc P W 0 (fun _ => true) true n t8 [u0] = some y0 from g0)
 obtain ⟨x1, e1, _, w1⟩ := DataW.trod_int h8 (show DataW.trod enc P W 0 (fun _ => true) true n t8 [u1] = some y1 from g1)
 simp at e0 e1
 subst e0 e1
 obtain ⟨f, N, hT1, hp2⟩ := jZE hs hi ci (show DataW.trod enc P W 0 (fun _ => true) true n ts [u2] = some y2 from g2)
 obtain ⟨f', N', _, hp3⟩ := jZE hs hi ci (show DataW.trod enc P W 0 (fun _ => true) true n ts [u3] = some y3 from g3)
 have b0 := bounds_u8 w0
 have b1 := bounds_u8 w1
 obtain ⟨a0, rfl⟩ := Int.eq_ofNat_of_zero_le b0.1
 obtain ⟨a1, rfl⟩ := Int.eq_ofNat_of_zero_le b1.1
 have hag : cs = #[.int .u8 (a0 : Int), .int .u8 (a1 : Int), u2, u3] := by rw [← Array.toList_inj]; exact hcs
 subst hag
 exact ⟨a0, a1, f, N, f', N', hT1, oM, [.int .u8 (a0 : Int), .int .u8 (a1 : Int), u2, u3], rfl, rfl, rfl, rfl, rfl, hp2, C1.c1 _ _ hp2, hp3, C1.c1 _ _ hp3, trivial⟩
end
end
section
open Go.RowKit Limb Go.ChangeShapes Go.WideShapes
theorem oZP {P : Program} {En : Ev} {f : FuncId} {ps : List Pd} {vs : List Value} (h : Fn P En f ps (ex (.bool true))) (w : World) (he : En.e w) (ha : AllV (wGH w) ps vs) : Calls P f vs.toArray w fun e w' => e = .returned (.bool true) ∧ Below w.heap.size w w' := by
 refine (h (wGH w) w vs he (lZm w) ha).mono ?_
 rintro e w' ⟨v, h', rfl, _, _, _, hb, hv⟩
 have hv : v = .bool true := hv
 exact ⟨by rw [hv], hb⟩
theorem dZ3 (k : Int) (w : World) (v : Value) (hv : ∃ dim kind f N f' N', Tp f N ∧ dim < 256 ∧ (latP dim kind f N f' N').p (wGH w) v) (wk : (Lit.int .u8 k).wf = true) (ht : TabD.e w) :
  Calls Tryz.prog 3 #[v, .int .u8 k] w fun e w' => e = .returned (.bool true) ∧ Below w.heap.size w w' := by
 obtain ⟨dim, kind, f, N, f', N', hT, hd, hv⟩ := hv
 obtain ⟨k1, k2⟩ := bounds_u8 wk
 exact oZP (oZC dim kind f N f' N' k hT hd oM oM) w ht ⟨hv, rfl, trivial⟩
end
section
open Go.RowKit Go.ChangeShapes Go.WideShapes
def rowD {H : Type} (r : Bool × Bool × Int × Int × Int) : DataW H := .agg [.lit (.bool r.1), .lit (.bool r.2.1), .lit (.int .i64 r.2.2.1), .lit (.int .i64 r.2.2.2.1), .lit (.int .i64 r.2.2.2.2)]
section
variable {H : Type} {enc : TypeId × Value → H} {P : Program} {w : World} {base : Nat} {sp : Nat → Bool} {held : Bool} {fuel : Nat} {e tb ti : TypeId} {f0 f1 f2 f3 f4 : Field}
theorem iZj {cs : List Value} {r : Bool × Bool × Int × Int × Int} {p : List MemPlace} (he : P.underlying e = some (.struct #[f0, f1, f2, f3, f4]))
  (t0 : f0.type = tb) (t1 : f1.type = tb) (t2 : f2.type = ti) (t3 : f3.type = ti) (t4 : f4.type = ti) (o0 : f0.offset = 0) (o1 : f1.offset = 1) (o2 : f2.offset = 2) (o3 : f3.offset = 3) (o4 : f4.offset = 4)
  (hb : P.underlying tb = some .bool) (hi : P.underlying ti = some (.int .i64)) (cb : P.cellsOf tb = 1) (ci : P.cellsOf ti = 1) (ce : P.cellsOf e = 5)
  (h : DataW.trod enc P w base sp held fuel e cs = some (rowD r, p)) : cs = jZR r := by
 obtain ⟨xs, n, _, hx, hl, hlen, hf⟩ := DataW.trod_struct he h
 have g0 := hf 0 f0 rfl
 have g1 := hf 1 f1 rfl
 have g2 := hf 2 f2 rfl
 have g3 := hf 3 f3 rfl
 have g4 := hf 4 f4 rfl
 rw [t0, o0, cb] at g0
 rw [t1, o1, cb] at g1
 rw [t2, o2, ci] at g2
 rw [t3, o3, ci] at g3
 rw [t4, o4, ci] at g4
 obtain ⟨y0, y1, y2, y3, y4, rfl⟩ : ∃ y0 y1 y2 y3 y4, xs = [y0, y1, y2, y3, y4] := by
  match xs, hlen with
  | [y0, y1, y2, y3, y4], _ => exact ⟨y0, y1, y2, y3, y4, rfl⟩
 obtain ⟨u0, u1, u2, u3, u4, rfl⟩ : ∃ u0 u1 u2 u3 u4, cs = [u0, u1, u2, u3, u4] := by
  rw [ce] at hl
  match cs, hl with
  | [u0, u1, u2, u3, u4], _ => exact ⟨u0, u1, u2, u3, u4, rfl⟩
 obtain ⟨b0, e0, k0⟩ := DataW.trod_bool hb (show DataW.trod enc P w base sp held n tb [u0] = some y0 from g0)
 obtain ⟨b1, e1, k1⟩ := DataW.trod_bool hb (show DataW.trod enc P w base sp held n tb [u1] = some y1 from g1)
 obtain ⟨z2, e2, k2, _⟩ := DataW.trod_int hi (show DataW.trod enc P w base sp held n ti [u2] = some y2 from g2)
 obtain ⟨z3, e3, k3, _⟩ := DataW.trod_int hi (show DataW.trod enc P w base sp held n ti [u3] = some y3 from g3)
 obtain ⟨z4, e4, k4, _⟩ := DataW.trod_int hi (show DataW.trod enc P w base sp held n ti [u4] = some y4 from g4)
 subst k0 k1 k2 k3 k4
 obtain ⟨r0, r1, r2, r3, r4⟩ := r
 simp [rowD] at hx
 simp at e0 e1 e2 e3 e4
 obtain ⟨⟨h0, h1, h2, h3, h4⟩, _⟩ := hx
 subst e0 e1 e2 e3 e4
 subst h0 h1 h2 h3 h4
 rfl
theorem mZT {f : (Bool × Bool × Int × Int × Int) → List Value} (hf : ∀ r, (f r).length = 5) : ∀ (l : List (Bool × Bool × Int × Int × Int)) (cs : List Value), cs.length = l.length * 5 → (∀ i r, l[i]? = some r → (cs.drop (i * 5)).take 5 = f r) → cs = l.flatMap f
 | [], cs, h, _ => by simp at h; simp [h]
 | r :: l, cs, h, H => by
  have h0 := H 0 r rfl
  rw [Nat.zero_mul, List.drop_zero] at h0
  have ih := mZT hf l (cs.drop 5) (by rw [List.length_drop, h, List.length_cons]; omega) (fun i r' hi => by
   have := H (i + 1) r' (by simpa using hi)
   rw [List.drop_drop, ← this]
   congr 2
   omega)
  rw [List.flatMap_cons, ← h0, ← ih, List.take_append_drop]
theorem hZb {t : TypeId} {n : Nat} {cs : List Value} {rs : List (Bool × Bool × Int × Int × Int)} {p : List MemPlace} (ht : P.underlying t = some (.array n e)) (he : P.underlying e = some (.struct #[f0, f1, f2, f3, f4]))
  (t0 : f0.type = tb) (t1 : f1.type = tb) (t2 : f2.type = ti) (t3 : f3.type = ti) (t4 : f4.type = ti) (o0 : f0.offset = 0) (o1 : f1.offset = 1) (o2 : f2.offset = 2) (o3 : f3.offset = 3) (o4 : f4.offset = 4)
  (hb : P.underlying tb = some .bool) (hi : P.underlying ti = some (.int .i64)) (cb : P.cellsOf tb = 1) (ci : P.cellsOf ti = 1) (ce : P.cellsOf e = 5) (ct : P.cellsOf t = n * 5)
  (h : DataW.trod enc P w base sp held fuel t cs = some (.agg (rs.map rowD), p)) : cs = rs.flatMap jZR := by
 obtain ⟨xs, m, _, hx, hl, hlen, hf⟩ := DataW.trod_array ht h
 have hxs : rs.map rowD = xs.map (·.1) := by
  have := congrArg Prod.fst hx
  simpa using this
 have hrl : rs.length = n := by
  have := congrArg List.length hxs
  simp at this
  omega
 refine mZT (fun _ => rfl) rs cs (by rw [hl, ct, hrl]) fun i r hr => ?_
 have hi' : i < n := by
  rw [← hrl]
  exact (List.getElem?_eq_some_iff.1 hr).1
 have g := hf i hi'
 rw [ce] at g
 have hxi : (xs[i]?).map (·.1) = some (rowD r) := by rw [← List.getElem?_map, ← hxs, List.getElem?_map, hr]; rfl
 obtain ⟨y, hy, hy1⟩ := Option.map_eq_some_iff.1 hxi
 rw [hy] at g
 exact iZj (r := r) (p := y.2) he t0 t1 t2 t3 t4 o0 o1 o2 o3 o4 hb hi cb ci ce (by rw [g, ← hy1])
end
end
end Go.Proofs.YtfmjdlogjmofbaaGreatDoor

/- The mass of every symbol: the program's and the reference's say the same. (With LT.skipU.) -/
import Derived.Test.YtdieokoenhncfaaGreatDoorMem
import Derived.Test.YtdieokoenhncfaaGreatDoorRu
import Derived.Test.YtdieokoenhncfaaGreatDoorSc
import Derived.Test.YtdieokoenhncfaaGreatDoorMp
import Derived.Test.YtdieokoenhncfaaGreatDoorMc
import Derived.Laws.StructEq
import Derived.Test.YtdieokoenhncfaaGreatDoorAc
set_option maxRecDepth 3000
namespace Go.Proofs.YtdieokoenhncfaaGreatDoor
open Go.RowKit Limb Num
def tw (t : Int) : Rat := if 0 ≤ t then ((2 : Int) : Rat) ^ t.toNat else (((2 : Int) : Rat)⁻¹) ^ (-t).toNat
theorem mZl : ((2 : Int) : Rat) ≠ 0 := by intro h; have := Rat.intCast_eq_zero_iff.1 h; omega
theorem kZI {t : Int} (h1 : -64 ≤ t) (h2 : t ≤ 64) : Sz 200 (tw t) := by
 have S2 := sz_z (z := 2) (by omega) (by omega)
 unfold tw
 split
 ·exact (fZe S2 _).mono (by omega)
 ·exact (fZe (fZf S2 (by omega)) _).mono (by omega)
section
variable (En : Ev)
theorem mpow2 (t : Int) (h1 : -64 ≤ t) (h2 : t ≤ 64) : Fn Tryz.prog En 28 [qC ((2 : Int) : Rat), ex (.int .i64 t)] (tupP [qC (tw t), ex (.bool true)]) := by
 have S2 := sz_z (z := 2) (by omega) (by omega)
 unfold tw
 by_cases h : 0 ≤ t
 ·rw [if_pos h]
  have := krpow En ((2 : Int) : Rat) t.toNat (S2.mono (by omega)) (by omega)
  rwa [Int.toNat_of_nonneg h] at this
 ·rw [if_neg h]
  have := gZf En ((2 : Int) : Rat) (-t).toNat (S2.mono (by omega)) (by omega) (by omega) mZl
  rwa [Int.toNat_of_nonneg (by omega), Int.neg_neg] at this
theorem rpow2 (t : Int) (h1 : -64 ≤ t) (h2 : t ≤ 64) : Fn Tryz.prog En 32 [ex (.int .i64 2), ex (.int .i64 t)] (qC (tw t)) := by
 have S2 := sz_z (z := 2) (by omega) (by omega)
 unfold tw
 by_cases h : 0 ≤ t
 ·rw [if_pos h]
  have := jZj En 2 t.toNat (by omega) (by omega) (by omega)
  rwa [Int.toNat_of_nonneg h] at this
 ·rw [if_neg h]
  have C1 := dZf En 2 (by omega) (by omega)
  have C2 := hZs En ((2 : Int) : Rat) (-t).toNat (S2.mono (by omega)) (by omega) (by omega) mZl
  rw [Int.toNat_of_nonneg (by omega), Int.neg_neg] at C2
  refine aZb Tryz.func32 rfl Tryz.ntmps32 rfl ?_
  intro w0 h0
  refine js (jr (jA jj jj jj (jn (js (jr (jm jj (jS (aZa C1 ⟨jj, trivial⟩) (jm jj (jS (aZa C2 ⟨jj, jj, trivial⟩) (jm jj (jx' jj jj (jx' jj jj (jA jj jj jj (jP jj jj jj jj (ja jj (jn (js (jr (jL jj jj jj (jP jj jj jj jj (jn (ji ?_))))))))))))))))))))))
  exact rtC rfl jj jj
set_option maxHeartbeats 2000000 in
theorem mMassG (p : Int) (f : Nat → Co) (n : Nat) (H : OkL f n) (hp : 2 ≤ p) (hp2 : p ≤ 9973) (R : Rat) (hb : Bool) (hR : Sz 700 R) (t : Int) (ht1 : -64 ≤ t) (ht2 : t ≤ 64)
  (hX : Fn Tryz.prog En 11 [locP p f n] (tupP [dZn R hb, ex (.int .i64 0)]))
  (hT : Fn Tryz.prog En 13 [locP p f n] (tupP [ex (.int .i64 t), ex (.int .i64 0)]))
  (sd : Int → Nat) (ss : Int → Int) (hd : ∀ e, sd e ≤ 9) (hs : ∀ e, -1 ≤ ss e ∧ ss e ≤ 1)
  (hS : ∀ e, -1 ≤ e → e ≤ 1000 → Fn Tryz.prog En 35 [locP p f n, ex (.int .i64 e)] (aggP [ex (.int .i64 (sd e : Int)), ex (.int .i64 (ss e))])) :
  Fn Tryz.prog En 18 [locP p f n] (tupP [dZn (mpr p sd ss (tw t * R) ((f (n - 1)).e.toNat + 3)) hb, ex (.int .i64 0)]) := by
 have hn1 := H.n1
 have hlt : n - 1 < n := by omega
 have he0 := H.e0 _ hlt
 have he1 := H.e1 _ hlt
 have hq : ((rows (ccs f) n).drop ((n - 1) * 5)).take 5 = coc (f (n - 1)) := aZo (aZp f) hlt
 have wz : IntKind.i64.wrap ((n : Int) - 1) = ((n - 1 : Nat) : Int) := by have := H.n8; rw [w64 (by omega) (by omega)]; omega
 have W2 := eZj En 2 (by omega) (by omega)
 have C1 := mpow2 En t ht1 ht2
 have C2 := jZN En (tw t) R ((kZI ht1 ht2).mono (by omega)) (hR.mono (by omega))
 have hR' : Sz 1000 (tw t * R) := (bZP (kZI ht1 ht2) hR).mono (by omega)
 generalize tw t = R1 at *
 generalize R1 * R = R0 at *
 obtain ⟨L, hL⟩ : ∃ L : Nat, (f (n - 1)).e = (L : Int) := ⟨(f (n - 1)).e.toNat, by omega⟩
 rw [show coc (f (n - 1)) = [ex (.int .i64 (L : Int)), ex (.int .i64 (f (n - 1)).d), ex (.int .i64 (f (n - 1)).s), ex (.bool (f (n - 1)).o), ex (.int .i64 (f (n - 1)).y)] by unfold coc; rw [hL]] at hq
 rw [hL] at he0 he1 ⊢
 rw [Int.toNat_natCast]
 unfold locP dZn at *
 refine aZb Tryz.func18 rfl Tryz.ntmps18 rfl ?_
 intro w0 h0
 refine js (jr (jB jj jj jj (jA jj jj jj (ja jj (jn (js (jr (jL jj jj jj (jS (aZa hX ⟨jj, trivial⟩) (jm jj (jx' jj jj (jx' jj jj (jA jj jj jj (jP jj jj jj jj (ja jj (jn (js (js (jr (jm jj (jS (bNf jj jj) (jn (jf jj (jp (js (jr (jL jj jj jj (jS (aZa hT ⟨jj, trivial⟩) (jm jj (jx' jj jj (jx' jj jj (ja jj (ja jj (jn (js (jr (jS (aZa W2 ⟨jj, trivial⟩) (jm jj (jS (aZa C1 ⟨jj, jj, trivial⟩) (jm jj (jx' jj jj (jx' jj jj (jA jj jj jj (jP jj jj jj jj (ja jj (jn ?_))))))))))))))))))))))))))))))))))))))))))))))
 refine js (jr (jL jj jj jj (jF jj jj (jL jj jj jj (jS (aZa C2 ⟨jj, jj, trivial⟩) (jP jj jj jj jj (jn (js (jr (jF jj jj (jl jj jj jj (jF jj jj (jl jj jj jj (jE jj (jS (bSu jj jj wz) (jS (aZc jj jj hlt hq) (jS (aZh jj jj) (jS (aZf jj jj) (ja jj (jn (js (js (jr (ja jj (jn (jb ?_))))))))))))))))))))))))))
 refine WpD.loop (α := {k : Nat // k ≤ L + 3}) (fun k => ⟨[(1, .ptr 1 0), (2, .ptr 2 0), (4, .ptr 4 0), (8, .ptr 8 0), (10, .one (ex (.int .i64 (L : Int)))), (11, .one (ex (.int .i64 ((k.1 : Int) - 1))))], [(1, [ex (.int .i64 p), slc 5 (rows (ccs f) n) n]), (2, [ex (.bool false), ex (.slice none 0 0), ex (.bool false), ex (.slice none 0 0), ex (.bool false)]), (4, eZb R ++ [ex (.bool hb)]), (8, eZb (mpr p sd ss R0 k.1))]⟩) (fun k => L + 3 - k.1) ⟨0, Nat.zero_le _⟩ ?_ ?_
 ·refine Sub.mk ?_ ?_ <;> repeat (first | exact trivial | refine jV jj ?_ | refine jy jj ?_ | refine jw jj (js0 jj) ?_)
 rintro ⟨k, hk⟩
 dsimp only at hk ⊢
 have w1 : IntKind.i64.wrap ((L : Int) + 1) = (L : Int) + 1 := w64 (by omega) (by omega)
 by_cases hlk : k < L + 3
 ·have w2 : IntKind.i64.wrap ((k : Int) - 1 + 1) = ((k + 1 : Nat) : Int) - 1 := by rw [w64 (by omega) (by omega)]; omega
  have C3 := hS ((k : Int) - 1) (by omega) (by omega)
  have Sk := eZL hp hp2 hd hs hR' k
  have hd' := hd ((k : Int) - 1)
  have hs' := hs ((k : Int) - 1)
  have hm : mpr p sd ss R0 (k + 1) = if 0 < sd ((k : Int) - 1) then mpr p sd ss R0 k * dia p (sd ((k : Int) - 1)) (ss ((k : Int) - 1)) else mpr p sd ss R0 k := rfl
  generalize sd ((k : Int) - 1) = D at *
  generalize ss ((k : Int) - 1) = S at *
  by_cases h0D : 0 < D
  ·rw [if_pos h0D] at hm
   have C4 := gZb En p S D hp hp2 hs'.1 hs'.2 hd'
   have C5 := jZN En (mpr p sd ss R0 k) (dia p D S) (Sk.mono (by omega)) ((iZU hp hp2 hs'.1 hs'.2 hd').mono (by omega))
   rw [← hm] at C5
   refine js (js (jr (jm jj (jm jj (jS (bAd jj jj w1) (jS (bMt jj jj) (jn (jt jj (jp (js (jb (js (jr (jL jj jj jj (jm jj (jS (aZa C3 ⟨jj, jj, trivial⟩) (jA jj jj jj (jP jj jj jj jj (jn (js (jr (jF jj jj (jl jj jj jj (jS (bGt jj jj) (jn (jt jj (jr (jL jj jj jj (jF jj jj (jl jj jj jj (jL jj jj jj (jS (aZa C4 ⟨jj, jj, trivial⟩) (jS (aZa C5 ⟨jj, jj, trivial⟩) (jP jj jj jj jj (jn (jr (jm jj (jS (bAd jj jj w2) (ja jj (jn ?_))))))))))))))))))))))))))))))))))))))))
   refine ⟨⟨k + 1, by omega⟩, ?_, by dsimp only; omega⟩
   refine Sub.mk ?_ ?_ <;> repeat (first | exact trivial | refine jV jj ?_ | refine jy jj ?_ | refine jw jj (js0 jj) ?_)
  ·rw [if_neg h0D] at hm
   refine js (js (jr (jm jj (jm jj (jS (bAd jj jj w1) (jS (bMt jj jj) (jn (jt jj (jp (js (jb (js (jr (jL jj jj jj (jm jj (jS (aZa C3 ⟨jj, jj, trivial⟩) (jA jj jj jj (jP jj jj jj jj (jn (js (jr (jF jj jj (jl jj jj jj (jS (bGf jj jj) (jn (jf jj (jp (jr (jm jj (jS (bAd jj jj w2) (ja jj (jn ?_))))))))))))))))))))))))))))))))
   refine ⟨⟨k + 1, by omega⟩, ?_, by dsimp only; omega⟩
   dsimp only
   rw [hm]
   refine Sub.mk ?_ ?_ <;> repeat (first | exact trivial | refine jV jj ?_ | refine jy jj ?_ | refine jw jj (js0 jj) ?_)
 ·have : k = L + 3 := by omega
  subst this
  refine js (js (jr (jm jj (jm jj (jS (bAd jj jj w1) (jS (bMf jj jj) (jn (jf jj (je (js (jr (jL jj jj jj (jF jj jj (jl jj jj jj (jS (aZl (ps := [(_, _), (_, _)]) ⟨jj, Part.c jj, jj, Part.c jj, trivial⟩ jj) (jP jj jj jj jj (ja jj (jn (ji ?_)))))))))))))))))))
  exact rtD rfl jj jj jj
theorem gZD (p : Int) (sd : Int → Nat) (ss : Int → Int) (R : Rat) (k : Nat) : mpr p sd ss R (k + 1) = mpr p sd ss R k * dia p (sd ((k : Int) - 1)) (ss ((k : Int) - 1)) := by
 rw [mpr]
 split
 ·rfl
 ·rename_i h
  rw [show sd ((k : Int) - 1) = 0 by omega]
  unfold dia
  rw [if_pos rfl, show ((1 : Int) : Rat) = 1 from rfl, Rat.mul_one]
theorem jZC (p : Int) (sd : Int → Nat) (ss : Int → Int) (T R : Rat) : ∀ k, mpr p sd ss (T * R) k = mpr p sd ss R k * T
 | 0 => by show T * R = R * T; exact Rat.mul_comm _ _
 | k + 1 => by
  rw [gZD, gZD, jZC p sd ss T R k, Rat.mul_assoc, Rat.mul_assoc, Rat.mul_comm T]
set_option maxHeartbeats 2000000 in
theorem rMassG (p : Int) (f : Nat → Co) (n : Nat) (H : OkL f n) (hp : 2 ≤ p) (hp2 : p ≤ 9973) (R : Rat) (hb : Bool) (hR : Sz 700 R) (t : Int) (ht1 : -64 ≤ t) (ht2 : t ≤ 64)
  (hX : Fn Tryz.prog En 12 [locP p f n] (tupP [dZn R hb, ex (.int .i64 0)]))
  (hT : Fn Tryz.prog En 33 [locP p f n] (ex (.int .i64 t)))
  (sd : Int → Nat) (ss : Int → Int) (hd : ∀ e, sd e ≤ 9) (hs : ∀ e, -1 ≤ ss e ∧ ss e ≤ 1)
  (hS : ∀ e, -1 ≤ e → e ≤ 1000 → Fn Tryz.prog En 36 [locP p f n, ex (.int .i64 e)] (aggP [ex (.int .i64 (sd e : Int)), ex (.int .i64 (ss e))])) :
  Fn Tryz.prog En 19 [locP p f n] (tupP [dZn (mpr p sd ss (tw t * R) ((f (n - 1)).e.toNat + 3)) hb, ex (.int .i64 0)]) := by
 rw [jZC]
 have hn1 := H.n1
 have hlt : n - 1 < n := by omega
 have he0 := H.e0 _ hlt
 have he1 := H.e1 _ hlt
 have hq : ((rows (ccs f) n).drop ((n - 1) * 5)).take 5 = coc (f (n - 1)) := aZo (aZp f) hlt
 have wz : IntKind.i64.wrap ((n : Int) - 1) = ((n - 1 : Nat) : Int) := by have := H.n8; rw [w64 (by omega) (by omega)]; omega
 have C1 := rpow2 En t ht1 ht2
 have St := kZI ht1 ht2
 generalize tw t = R1 at *
 obtain ⟨L, hL⟩ : ∃ L : Nat, (f (n - 1)).e = (L : Int) := ⟨(f (n - 1)).e.toNat, by omega⟩
 rw [show coc (f (n - 1)) = [ex (.int .i64 (L : Int)), ex (.int .i64 (f (n - 1)).d), ex (.int .i64 (f (n - 1)).s), ex (.bool (f (n - 1)).o), ex (.int .i64 (f (n - 1)).y)] by unfold coc; rw [hL]] at hq
 rw [hL] at he0 he1 ⊢
 rw [Int.toNat_natCast]
 have C2 := kqmul En (mpr p sd ss R (L + 3)) R1 ((eZL hp hp2 hd hs (hR.mono (by omega)) (L + 3)).mono (by omega)) (St.mono (by omega))
 unfold locP dZn at *
 refine aZb Tryz.func19 rfl Tryz.ntmps19 rfl ?_
 intro w0 h0
 refine js (jr (jB jj jj jj (jA jj jj jj (ja jj (jn (js (jr (jL jj jj jj (jS (aZa hX ⟨jj, trivial⟩) (jm jj (jx' jj jj (jx' jj jj (jA jj jj jj (jP jj jj jj jj (ja jj (jn (js (js (jr (jm jj (jS (bNf jj jj) (jn (jf jj (jp (js (jr (jF jj jj (jl jj jj jj (jF jj jj (jl jj jj jj (jE jj (jS (bSu jj jj wz) (jS (aZc jj jj hlt hq) (jS (aZh jj jj) (jS (aZf jj jj) (ja jj (jn (js (js (jr (ja jj (jn ?_))))))))))))))))))))))))))))))))))))))))))
 refine jb ?_
 refine WpD.loop (α := {k : Nat // k ≤ L + 3}) (fun k => ⟨[(1, .ptr 1 0), (2, .ptr 2 0), (4, .ptr 4 0), (6, .one (ex (.int .i64 (L : Int)))), (7, .one (ex (.int .i64 ((k.1 : Int) - 1))))], [(1, [ex (.int .i64 p), slc 5 (rows (ccs f) n) n]), (2, [ex (.bool false), ex (.slice none 0 0), ex (.bool false), ex (.slice none 0 0), ex (.bool false)]), (4, eZb (mpr p sd ss R k.1) ++ [ex (.bool hb)])]⟩) (fun k => L + 3 - k.1) ⟨0, Nat.zero_le _⟩ ?_ ?_
 ·refine Sub.mk ?_ ?_ <;> repeat (first | exact trivial | refine jV jj ?_ | refine jy jj ?_ | refine jw jj (js0 jj) ?_)
 rintro ⟨k, hk⟩
 dsimp only at hk ⊢
 have w1 : IntKind.i64.wrap ((L : Int) + 1) = (L : Int) + 1 := w64 (by omega) (by omega)
 by_cases hlk : k < L + 3
 ·have w2 : IntKind.i64.wrap ((k : Int) - 1 + 1) = ((k + 1 : Nat) : Int) - 1 := by rw [w64 (by omega) (by omega)]; omega
  have C3 := hS ((k : Int) - 1) (by omega) (by omega)
  have Sk := eZL hp hp2 hd hs (hR.mono (show 700 ≤ 1000 by omega)) k
  have hd' := hd ((k : Int) - 1)
  have hs' := hs ((k : Int) - 1)
  have hm := gZD p sd ss R k
  generalize sd ((k : Int) - 1) = D at *
  generalize ss ((k : Int) - 1) = S at *
  have C4 := rfactor En p S D hp hp2 hs'.1 hs'.2 hd'
  have C5 := kqmul En (mpr p sd ss R k) (dia p D S) (Sk.mono (by omega)) ((iZU hp hp2 hs'.1 hs'.2 hd').mono (by omega))
  rw [← hm] at C5
  refine js (js (jr (jm jj (jm jj (jS (bAd jj jj w1) (jS (bMt jj jj) (jn (jt jj (jp (js (jb (jr (jF jj jj (jL jj jj jj (jF jj jj (jl jj jj jj (jL jj jj jj (jm jj (jS (aZa C3 ⟨jj, jj, trivial⟩) (jS (aZa C4 ⟨jj, jj, trivial⟩) (jS (aZa C5 ⟨jj, jj, trivial⟩) (jF jj jj (jP jj jj jj jj (jn (jr (jm jj (jS (bAd jj jj w2) (ja jj (jn ?_)))))))))))))))))))))))))))))
  refine ⟨⟨k + 1, by omega⟩, ?_, by dsimp only; omega⟩
  refine Sub.mk ?_ ?_ <;> repeat (first | exact trivial | refine jV jj ?_ | refine jy jj ?_ | refine jw jj (js0 jj) ?_)
 ·have : k = L + 3 := by omega
  subst this
  refine js (js (jr (jm jj (jm jj (jS (bAd jj jj w1) (jS (bMf jj jj) (jn (jf jj (je (js (jr (jF jj jj (jL jj jj jj (jL jj jj jj (jS (aZa hT ⟨jj, trivial⟩) (jS (aZa C1 ⟨jj, jj, trivial⟩) (jS (aZa C2 ⟨jj, jj, trivial⟩) (jF jj jj (jP jj jj jj jj (jn (js (jr (jL jj jj jj (jP jj jj jj jj (ja jj (jn (ji ?_)))))))))))))))))))))))))))
  exact rtD rfl jj jj jj
end
theorem jZO {p : Int} {f : Nat → Co} {n : Nat} (ha : accP p f n) (e : Int) : 0 ≤ (kin p f n e).1 ∧ (kin p f n e).1 ≤ 9 ∧ -1 ≤ (kin p f n e).2 ∧ (kin p f n e).2 ≤ 1 := by
 have H := okA ha
 have hc := kZu H.toOkL H.rng e
 unfold kin
 by_cases hp : p = 2
 ·rw [if_pos hp]
  have key : (spC f e n).o = true → 1 ≤ (spC f e n).d ∧ (spB f e n = false → ((spC f e n).y - (spC f e n).d) % 2 = 0) := by
   intro ho
   obtain ⟨i, hi, he, hoi⟩ := (gZz H.toOkL).1 ho
   rw [fZh he hi fun j h1 h2 => by have := H.up i j h1 h2; omega]
   refine ⟨H.d0 i hi, fun hb => lZy ha hp hi hoi fun k hk hok => ?_⟩
   have hno : ¬ ∃ i, i < n ∧ ((f i).e = e - 1 ∨ (f i).e = e + 1) ∧ (f i).o = true := fun h => by
    have := gZ0.2 h
    rw [hb] at this
    exact Bool.noConfusion this
   rw [he]
   exact ⟨fun h => hno ⟨k, hk, .inl h, hok⟩, fun h => hno ⟨k, hk, .inr h, hok⟩⟩
  obtain ⟨d0, d8, s1, y0, y7⟩ := hc
  generalize spC f e n = c at *
  generalize spB f e n = b at *
  obtain ⟨ce, d, s, o, y⟩ := c
  dsimp only at *
  unfold dyP
  dsimp only
  cases o with
  | false =>
   rw [if_pos rfl]
   cases b with
   | false => rw [if_pos rfl]; dsimp only; omega
   | true => rw [if_neg (by decide)]; dsimp only; omega
  | true =>
   rw [if_neg (by decide)]
   obtain ⟨k1, k2⟩ := key rfl
   cases b with
   | true =>
    rw [if_pos rfl]
    split <;> (dsimp only; omega)
   | false =>
    have k2 := k2 rfl
    rw [if_neg (by decide)]
    have hv : (if s = -1 then (4 : Int) else 0) = 4 ∨ (if s = -1 then (4 : Int) else 0) = 0 := by split <;> simp
    generalize (if s = -1 then (4 : Int) else 0) = v at *
    split
    ·dsimp only; omega
    ·split
     ·dsimp only; omega
     ·split
      ·dsimp only; omega
      ·split <;> (dsimp only; omega)
 ·rw [if_neg hp]
  obtain ⟨d0, d8, s1, y0, y7⟩ := hc
  dsimp only
  unfold spO
  refine ⟨d0, by omega, ?_⟩
  split
  ·omega
  ·split <;> omega
def mG (p : Int) (f : Nat → Co) (n : Nat) : Rat := mpr p (fun e => (kin p f n e).1.toNat) (fun e => (kin p f n e).2) (tw (tyN p f n) * ((p : Int) : Rat) ^ ((crH f n).toNat / 2)) ((f (n - 1)).e.toNat + 3)
def maG (p : Int) (f : Nat → Co) (n : Nat) : Pd := if accP p f n then (if crH f n ≤ 128 then tupP [dZn (mG p f n) (lZr (crH f n)), ex (.int .i64 0)] else tupP [cZS, ex (.int .i64 7)]) else tupP [cZS, ex (.int .i64 22)]
theorem iZN {p : Int} {f : Nat → Co} {n : Nat} (H : OkL f n) : -64 ≤ tyN p f n ∧ tyN p f n ≤ 64 := by
 have := hZd H (Nat.le_refl n)
 have := H.n8
 unfold tyN
 split <;> omega
theorem lZF {p : Int} {h : Int} (h1 : 2 ≤ p) (h2 : p ≤ 9973) (hb : h ≤ 128) : Sz 700 (((p : Int) : Rat) ^ (h.toNat / 2)) := (fZe (sz_z (z := p) (by omega) (by omega)) _).mono (by omega)
theorem mG_sz {p : Int} {f : Nat → Co} {n : Nat} (ha : accP p f n) (hb : crH f n ≤ 128) : Sz 134217728 (mG p f n) := by
 have H := okA ha
 have := H.e1 (n - 1) (by have := H.n1; omega)
 have hk := fun e => jZO ha e
 obtain ⟨t1, t2⟩ := iZN (p := p) H.toOkL
 exact (eZL H.p2.1 H.p2.2 (fun e => by have := hk e; omega) (fun e => by have := hk e; omega) ((bZP (kZI t1 t2) (lZF H.p2.1 H.p2.2 hb)).mono (by omega)) _).mono (by omega)
theorem massX (En : Ev) (p : Int) (f : Nat → Co) (n : Nat) (c : Int) (hc : c ≠ 0) (hX : Fn Tryz.prog En 11 [locP p f n] (tupP [cZS, ex (.int .i64 c)])) : Fn Tryz.prog En 18 [locP p f n] (tupP [cZS, ex (.int .i64 c)]) := by
 unfold locP cZS at *
 refine aZb Tryz.func18 rfl Tryz.ntmps18 rfl ?_
 intro w0 h0
 refine js (jr (jB jj jj jj (jA jj jj jj (ja jj (jn (js (jr (jL jj jj jj (jS (aZa hX ⟨jj, trivial⟩) (jm jj (jx' jj jj (jx' jj jj (jA jj jj jj (jP jj jj jj jj (ja jj (jn (js (js (jr (jm jj (jS (bNt jj jj) (jn (jt jj (js (jr (jS (aZl (ps := []) trivial jj) (jm jj (jP jj jj jj jj (ja jj (jn (ji ?_)))))))))))))))))))))))))))))))
 exact rtD rfl jj jj jj
theorem mZz (En : Ev) (p : Int) (f : Nat → Co) (n : Nat) (c : Int) (hc : c ≠ 0) (hX : Fn Tryz.prog En 12 [locP p f n] (tupP [cZS, ex (.int .i64 c)])) : Fn Tryz.prog En 19 [locP p f n] (tupP [cZS, ex (.int .i64 c)]) := by
 unfold locP cZS at *
 refine aZb Tryz.func19 rfl Tryz.ntmps19 rfl ?_
 intro w0 h0
 refine js (jr (jB jj jj jj (jA jj jj jj (ja jj (jn (js (jr (jL jj jj jj (jS (aZa hX ⟨jj, trivial⟩) (jm jj (jx' jj jj (jx' jj jj (jA jj jj jj (jP jj jj jj jj (ja jj (jn (js (js (jr (jm jj (jS (bNt jj jj) (jn (jt jj (js (jr (jS (aZl (ps := []) trivial jj) (jm jj (jP jj jj jj jj (ja jj (jn (ji ?_)))))))))))))))))))))))))))))))
 exact rtD rfl jj jj jj
theorem tMass (p : Int) (f : Nat → Co) (n : Nat) (hn : n ≤ 20) : Fn Tryz.prog TabD 18 [locP p f n] (maG p f n) := by
 have CX := mZo p f n hn
 have CT := mZn p f n hn
 unfold crG at CX
 unfold tyT tyA at CT
 unfold maG
 by_cases ha : accP p f n
 ·rw [if_pos ha] at CX CT ⊢
  have H := okA ha
  obtain ⟨t1, t2⟩ := iZN (p := p) H.toOkL
  have hk := fun e => jZO ha e
  unfold crA at CX
  by_cases hb : crH f n ≤ 128
  ·rw [if_pos hb] at CX ⊢
   exact mMassG TabD p f n H.toOkL H.p2.1 H.p2.2 _ _ (lZF H.p2.1 H.p2.2 hb) _ t1 t2 CX CT (fun e => (kin p f n e).1.toNat) (fun e => (kin p f n e).2) (fun e => by have := hk e; omega) (fun e => by have := hk e; omega) (fun e h1 h2 => by
    have := kZJ p f n e H h1 h2
    rw [Int.toNat_of_nonneg (hk e).1]
    exact this)
  ·rw [if_neg hb] at CX ⊢
   exact massX TabD p f n 7 (by decide) CX
 ·rw [if_neg ha] at CX ⊢
  exact massX TabD p f n 22 (by decide) CX
theorem rMass (En : Ev) (p : Int) (f : Nat → Co) (n : Nat) (hn : n ≤ 20) : Fn Tryz.prog En 19 [locP p f n] (maG p f n) := by
 have CX := mZ3 En p f n hn
 unfold crG at CX
 unfold maG
 by_cases ha : accP p f n
 ·rw [if_pos ha] at CX ⊢
  have H := okA ha
  have CT := mZx En p f n H.toOkL
  obtain ⟨t1, t2⟩ := iZN (p := p) H.toOkL
  have hk := fun e => jZO ha e
  unfold crA at CX
  by_cases hb : crH f n ≤ 128
  ·rw [if_pos hb] at CX ⊢
   exact rMassG En p f n H.toOkL H.p2.1 H.p2.2 _ _ (lZF H.p2.1 H.p2.2 hb) _ t1 t2 CX CT (fun e => (kin p f n e).1.toNat) (fun e => (kin p f n e).2) (fun e => by have := hk e; omega) (fun e => by have := hk e; omega) (fun e h1 h2 => by
    have := rkind En p f n e H h1 h2
    rw [Int.toNat_of_nonneg (hk e).1]
    exact this)
  ·rw [if_neg hb] at CX ⊢
   exact mZz En p f n 7 (by decide) CX
 ·rw [if_neg ha] at CX ⊢
  exact mZz En p f n 22 (by decide) CX
end Go.Proofs.YtdieokoenhncfaaGreatDoor
/- The sanity check of chapter 31. -/
namespace Go.Proofs.YtdieokoenhncfaaGreatDoor
open Go.RowKit Limb Num
section
variable (En : Ev)
theorem fZc (l : List Nat) : (txt l).size = l.length := by
 have : ∀ (l : List Nat) (b : ByteArray), ((l.map fun (x : Nat) => (x : Int)).foldl (fun r n => r.push (UInt8.ofNat n.toNat)) b).size = b.size + l.length := by
  intro l
  induction l with
  | nil => intro b; rfl
  | cons x l ih => intro b; simp only [List.map_cons, List.foldl_cons, List.length_cons]; rw [ih, ByteArray.size_push]; omega
 have h := this l ByteArray.empty
 rw [show ByteArray.empty.size = 0 from rfl, Nat.zero_add] at h
 exact h
theorem hZP (z : Int) (k : Nat) : (fmtL z k).length ≤ k + 1 := by
 unfold fmtL
 rw [List.length_reverse, List.length_append, cZx]
 split <;> simp
theorem cZ4 (r : Rat) (k m : Nat) (hr : Sz 1073741824 r) (hd : r.den ≠ 1) (h1 : r.num.natAbs < 10 ^ k) (h2 : k ≤ 9) (h3 : 10 ^ (k - 1) ≤ r.num.natAbs) (h4 : 0 < k) (m1 : r.den < 10 ^ m) (m2 : m ≤ 9) (m3 : 10 ^ (m - 1) ≤ r.den) (m4 : 0 < m) :
  Fn Tryz.prog En 25 [qC r] (ex (.string (txt (fmtL r.num k) ++ ⟨#[47]⟩ ++ txt (fmtL r.den m)))) := by
 have C1 := bZe En (RQ.of r) (RQ.of_ok hr)
 have C2 := kZZ En (RQ.of r) (RQ.of_ok hr)
 rw [RQ.of_v] at C1 C2
 rw [show (cmpZ r.den 1 == 0) = false by have := r.den_pos; unfold cmpZ; rw [if_neg (by omega), if_pos (by omega)]; rfl] at C2
 have C3 := jZR En r.num k h1 h2 h3 h4
 have C4 := jZR En (r.den : Int) m m1 m2 m3 m4
 have l1 := hZP r.num k
 have l2 := hZP (r.den : Int) m
 have s1 : (txt (fmtL r.num k)).size + (⟨#[47]⟩ : ByteArray).size ≤ 1000000 := by rw [fZc]; show _ + 1 ≤ _; omega
 have s2 : (txt (fmtL r.num k) ++ (⟨#[47]⟩ : ByteArray)).size + (txt (fmtL r.den m)).size ≤ 1000000 := by rw [ByteArray.size_append, fZc, fZc]; show _ + 1 + _ ≤ _; omega
 refine aZb Tryz.func25 rfl Tryz.ntmps25 rfl ?_
 intro w0 h0
 refine js (jr (jB jj jj jj (ja jj (jn (js (jr (jL jj jj jj (jS (aZa C1 ⟨jj, trivial⟩) (jA jj jj jj (jP jj jj jj jj (jn (js (js (jr (jL jj jj jj (jS (aZa C2 ⟨jj, trivial⟩) (jn (jf jj (jp (js (jr (jF jj jj (jL jj jj jj (jS (aZa C3 ⟨jj, trivial⟩) (jS (aZu jj jj (fun w => hZk w CStr.ok _ _ _ _ s1)) (jF jj jj (jL jj jj jj (jS (aZa C4 ⟨jj, trivial⟩) (jS (aZu jj jj (fun w => hZk w CStr.ok _ _ _ _ s2)) (ja jj (jn (ji ?_))))))))))))))))))))))))))))))))
 exact rtT rfl jj
end
theorem gZQ {a b : ByteArray} (h : a.data = b.data) : (a.toList == b.toList) = true := by
 have : a = b := ByteArray.ext h
 rw [this]; simp
end Go.Proofs.YtdieokoenhncfaaGreatDoor
/- The sanity check of chapter 32, by the mass of every symbol. (With LT.skipU.) -/
namespace Go.Proofs.YtdieokoenhncfaaGreatDoor
open Go.RowKit Limb Num
def syA (d : Int) : Nat → Co := fun _ => ⟨0, d, 1, true, d⟩
theorem symbA (d : Int) : Fn Tryz.prog TabD 23 [ex (.int .i64 d), ex (.int .i64 1), ex (.int .i64 d)] (locP 2 (syA d) 1) := by
 unfold locP
 refine aZb Tryz.func23 rfl Tryz.ntmps23 rfl ?_
 intro w0 h0
 refine js (jr (jA jj jj jj (jn (js (jr (jm jj (jm jj (jm jj (jS (aZl (ps := [(_, _), (_, _), (_, _), (_, _)]) ⟨jj, Part.c jj, jj, Part.c jj, jj, Part.c jj, jj, Part.c jj, trivial⟩ jj) (jS (aZE (ps := [(_, _)]) ⟨jj, Part.c jj, trivial⟩ jj jj jj) (jS (aZl (ps := [(_, _), (_, _)]) ⟨jj, Part.c jj, jj, Part.c jj, trivial⟩ jj) (jP jj jj jj jj (jn (ji ?_))))))))))))))
 exact rtC rfl jj jj
theorem maA2 : maG 2 (syA 2) 1 = tupP [dZn (mkRat 1 8) false, ex (.int .i64 0)] := by
 unfold maG
 rw [if_pos (by decide +kernel), if_pos (by decide +kernel), show mG 2 (syA 2) 1 = mkRat 1 8 by decide +kernel]
 rfl
theorem maA3 : maG 2 (syA 3) 1 = tupP [dZn (mkRat 1 12) false, ex (.int .i64 0)] := by
 unfold maG
 rw [if_pos (by decide +kernel), if_pos (by decide +kernel), show mG 2 (syA 3) 1 = mkRat 1 12 by decide +kernel]
 rfl
theorem stdA3 : Fn Tryz.prog TabD 24 [ex (.int .i64 3), ex (.int .i64 1), ex (.int .i64 2)] (tupP [qC (mkRat 2 3), ex (.int .i64 0)]) := by
 have C1 := (lZi 2).tab
 rw [show smP 2 = true by decide +kernel] at C1
 have C2 := gZb TabD 2 0 3 (by omega) (by omega) (by omega) (by omega) (by omega)
 rw [show dia 2 3 0 = mkRat 2 3 by decide +kernel] at C2
 have e : (3 : Int).tmod 2 = 1 := by decide
 refine aZb Tryz.func24 rfl Tryz.ntmps24 rfl ?_
 intro w0 h0
 refine js (jr (jA jj jj jj (ja jj (jn (js (js (jr (jm jj (jS (bLf jj jj) (jm jj (jgm jj (jg (bGf jj jj) (jQ jj jj (jm jj (jgm jj (jg (bLf jj jj) (jQ jj jj (jm jj (jgm jj (jg (bGf jj jj) (jQ jj jj (jn (jf jj (jp (js (js (jr (jm jj (jS (aZa C1 ⟨jj, trivial⟩) (jS (bNo jj) (jn (jf jj (jp (js (js (jr (jm jj (jS (bRe jj jj e) (jS (bEt jj jj) (jn ?_))))))))))))))))))))))))))))))))))))))))
 refine jt jj (js (jr (jm jj (jm jj (jS (aZl (ps := [(_, _)]) ⟨jj, Part.c jj, trivial⟩ jj) (jS (aZa C2 ⟨jj, jj, trivial⟩) (jP jj jj jj jj (ja jj (jn (ji ?_))))))))))
 exact rtD rfl jj jj jj
set_option maxHeartbeats 1000000 in
theorem dZ5 : Fn Tryz.prog TabD 9 [] (ex (.bool true)) := by
 have A1 := symbA 2
 have A2 := tMass 2 (syA 2) 1 (by omega)
 rw [maA2] at A2
 have B1 := symbA 3
 have B2 := tMass 2 (syA 3) 1 (by omega)
 rw [maA3] at B2
 have D1 := stdA3
 have F1 := cZ4 TabD (mkRat 1 8) 1 1 ((iZS (by decide +kernel)).mono (by omega)) (by decide +kernel) (by decide +kernel) (by omega) (by decide +kernel) (by omega) (by decide +kernel) (by omega) (by decide +kernel) (by omega)
 have F2 := cZ4 TabD (mkRat 1 12) 1 2 ((iZS (by decide +kernel)).mono (by omega)) (by decide +kernel) (by decide +kernel) (by omega) (by decide +kernel) (by omega) (by decide +kernel) (by omega) (by decide +kernel) (by omega)
 have F3 := cZ4 TabD (mkRat 2 3) 1 1 ((iZS (by decide +kernel)).mono (by omega)) (by decide +kernel) (by decide +kernel) (by omega) (by decide +kernel) (by omega) (by decide +kernel) (by omega) (by decide +kernel) (by omega)
 have t1 : ((txt (fmtL (mkRat 1 8).num 1) ++ (⟨#[47]⟩ : ByteArray) ++ txt (fmtL (mkRat 1 8).den 1)).toList == (⟨#[49, 47, 56]⟩ : ByteArray).toList) = true := gZQ (by rw [ByteArray.data_append, ByteArray.data_append]; decide +kernel)
 have t2 : ((txt (fmtL (mkRat 1 12).num 1) ++ (⟨#[47]⟩ : ByteArray) ++ txt (fmtL (mkRat 1 12).den 2)).toList == (⟨#[49, 47, 49, 50]⟩ : ByteArray).toList) = true := gZQ (by rw [ByteArray.data_append, ByteArray.data_append]; decide +kernel)
 have t3 : ((txt (fmtL (mkRat 2 3).num 1) ++ (⟨#[47]⟩ : ByteArray) ++ txt (fmtL (mkRat 2 3).den 1)).toList == (⟨#[50, 47, 51]⟩ : ByteArray).toList) = true := gZQ (by rw [ByteArray.data_append, ByteArray.data_append]; decide +kernel)
 unfold dZn at A2 B2
 unfold locP at A1 A2 B1 B2
 refine aZb Tryz.func9 rfl Tryz.ntmps9 rfl ?_
 intro w0 h0
 repeat (first | apply js | apply jb)
 refine jr (ja jj (jn ?_))
 repeat (first | apply js | apply jb)
 refine jr (jS (aZa A1 ⟨jj, jj, jj, trivial⟩) (jS (aZa A2 ⟨jj, trivial⟩) (jm jj (jx' jj jj (jx' jj jj (jA jj jj jj (jP jj jj jj jj (ja jj (jn ?_)))))))))
 repeat (first | apply js | apply jb)
 refine jr (jS (aZa B1 ⟨jj, jj, jj, trivial⟩) (jS (aZa B2 ⟨jj, trivial⟩) (jm jj (jx' jj jj (jx' jj jj (jA jj jj jj (jP jj jj jj jj (ja jj (jn ?_)))))))))
 repeat (first | apply js | apply jb)
 refine jr (jS (aZa D1 ⟨jj, jj, jj, trivial⟩) (jm jj (jx' jj jj (jx' jj jj (jA jj jj jj (jP jj jj jj jj (ja jj (jn ?_))))))))
 repeat (first | apply js | apply jb)
 refine jr (jm jj (jS (aZu jj jj (fun w => aZ4 w _ _ _ _ _ _)) (jm jj ?_)))
 first | refine jgm jj ?_ | refine jk ?_ | refine ju ?_
 first | refine jg (aZu jj jj (fun w => aZ4 w _ _ _ _ _ _)) ?_ | refine jk ?_ | refine ju ?_
 first | refine jq jj jj ?_ | refine jQ jj jj ?_
 refine jm jj ?_
 first | refine jgm jj ?_ | refine jk ?_ | refine ju ?_
 first | refine jg (aZu jj jj (fun w => aZ4 w _ _ _ _ _ _)) ?_ | refine jk ?_ | refine ju ?_
 first | refine jq jj jj ?_ | refine jQ jj jj ?_
 refine jm jj ?_
 first | refine jgf jj jj ?_ | refine jk ?_ | refine ju ?_
 first | refine jg (aZ2 jj jj jj jj) ?_ | refine jk ?_ | refine ju ?_
 first | refine jg (aZa F1 ⟨jj, trivial⟩) ?_ | refine jk ?_ | refine ju ?_
 first | refine jg (aZd jj jj (fun w => gZ4 w CStr.ok _ _ _ _) (aZm t1)) ?_ | refine jk ?_ | refine ju ?_
 first | refine jq jj jj ?_ | refine jQ jj jj ?_
 refine jm jj ?_
 first | refine jgf jj jj ?_ | refine jk ?_ | refine ju ?_
 first | refine jg (aZ2 jj jj jj jj) ?_ | refine jk ?_ | refine ju ?_
 first | refine jg (aZa F2 ⟨jj, trivial⟩) ?_ | refine jk ?_ | refine ju ?_
 first | refine jg (aZd jj jj (fun w => gZ4 w CStr.ok _ _ _ _) (aZm t2)) ?_ | refine jk ?_ | refine ju ?_
 first | refine jq jj jj ?_ | refine jQ jj jj ?_
 refine jm jj ?_
 first | refine jg (aZ2 jj jj jj jj) ?_ | refine jk ?_ | refine ju ?_
 first | refine jg (aZa F3 ⟨jj, trivial⟩) ?_ | refine jk ?_ | refine ju ?_
 first | refine jg (aZd jj jj (fun w => gZ4 w CStr.ok _ _ _ _) (aZm t3)) ?_ | refine jk ?_ | refine ju ?_
 first | refine jq jj jj ?_ | refine jQ jj jj ?_
 refine jm jj ?_
 first | refine jgf jj jj ?_ | refine jk ?_ | refine ju ?_
 first | refine jgl jj jj jj ?_ | refine jk ?_ | refine ju ?_
 first | refine jg (bNo jj) ?_ | refine jk ?_ | refine ju ?_
 first | refine jq jj jj ?_ | refine jQ jj jj ?_
 refine ja jj (jn ?_)
 repeat (first | apply js | apply jb)
 refine WpD.ret ?_
 exact rtT rfl jj
end Go.Proofs.YtdieokoenhncfaaGreatDoor
/- Two species with the same numbers are equal. -/
namespace Go.Proofs.YtdieokoenhncfaaGreatDoor
open Go.RowKit Limb
end Go.Proofs.YtdieokoenhncfaaGreatDoor
/- Statements of chapter 32: Species, Cross, Mass. (With LT.skipU.) -/
namespace Go.Proofs.YtdieokoenhncfaaGreatDoor
open Go.RowKit Limb Num
instance cbody15 : CBody Tryz.prog 15 := ⟨⟨_, Tryz.func15, rfl, by rfl⟩⟩
instance cbody4 : CBody Tryz.prog 4 := ⟨⟨_, Tryz.func4, rfl, by rfl⟩⟩
instance cbody3 : CBody Tryz.prog 3 := ⟨⟨_, Tryz.func3, rfl, by rfl⟩⟩
instance cbody5 : CBody Tryz.prog 5 := ⟨⟨_, Tryz.func5, rfl, by rfl⟩⟩
section
variable (En : Ev)
theorem beqB (b : Bool) : (b == b) = true := by cases b <;> rfl
theorem shalf (M : Rat) (b : Bool) (hM : Sz 134217728 M) : Fn Tryz.prog En 15 [dZn M b, dZn M b] (ex (.bool true)) := by
 have C1 := qsame En M M hM hM
 rw [decide_eq_true rfl] at C1
 unfold dZn
 refine aZb Tryz.func15 rfl Tryz.ntmps15 rfl ?_
 intro w0 h0
 repeat (first | apply js | apply jb)
 refine jr (jB jj jj jj (jB jj jj jj (ja jj (jn ?_))))
 repeat (first | apply js | apply jb)
 refine jr (jF jj jj (jL jj jj jj (jF jj jj (jL jj jj jj (jS (aZa C1 ⟨jj, jj, trivial⟩) (jm jj ?_))))))
 first | refine jgf jj jj ?_ | refine jk ?_ | refine ju ?_
 first | refine jgl jj jj jj ?_ | refine jk ?_ | refine ju ?_
 first | refine jgf jj jj ?_ | refine jk ?_ | refine ju ?_
 first | refine jgl jj jj jj ?_ | refine jk ?_ | refine ju ?_
 first | refine jg (aZd jj jj (fun w => bZg w CBool.ok _ _ _ _) (aZm (beqB _))) ?_ | refine jk ?_ | refine ju ?_
 first | refine jq jj jj ?_ | refine jQ jj jj ?_
 refine ja jj (jn ?_)
 repeat (first | apply js | apply jb)
 refine WpD.ret ?_
 exact rtT rfl jj
theorem hZg : Fn Tryz.prog En 15 [cZS, cZS] (ex (.bool true)) := by
 have C1 := qsame0 En
 unfold cZS
 unfold zero4 at C1
 refine aZb Tryz.func15 rfl Tryz.ntmps15 rfl ?_
 intro w0 h0
 repeat (first | apply js | apply jb)
 refine jr (jB jj jj jj (jB jj jj jj (ja jj (jn ?_))))
 repeat (first | apply js | apply jb)
 refine jr (jF jj jj (jL jj jj jj (jF jj jj (jL jj jj jj (jS (aZa C1 ⟨jj, jj, trivial⟩) (jm jj ?_))))))
 first | refine jgf jj jj ?_ | refine jk ?_ | refine ju ?_
 first | refine jgl jj jj jj ?_ | refine jk ?_ | refine ju ?_
 first | refine jgf jj jj ?_ | refine jk ?_ | refine ju ?_
 first | refine jgl jj jj jj ?_ | refine jk ?_ | refine ju ?_
 first | refine jg (aZd jj jj (fun w => bZg w CBool.ok _ _ _ _) (aZm (beqB _))) ?_ | refine jk ?_ | refine ju ?_
 first | refine jq jj jj ?_ | refine jQ jj jj ?_
 refine ja jj (jn ?_)
 repeat (first | apply js | apply jb)
 refine WpD.ret ?_
 exact rtT rfl jj
def HalfA (X : Pd) : Prop := ∃ a b c d e k, X = tupP [aggP [a, b, c, d, e], ex (.int .i64 k)] ∧ Fn Tryz.prog En 15 [aggP [a, b, c, d, e], aggP [a, b, c, d, e]] (ex (.bool true))
theorem cr_form (p : Int) (f : Nat → Co) (n : Nat) : HalfA En (crG p f n) := by
 unfold crG
 by_cases ha : accP p f n
 ·rw [if_pos ha]
  obtain ⟨p1, p2⟩ := (okA ha).p2
  unfold crA
  by_cases hb : crH f n ≤ 128
  ·rw [if_pos hb]
   exact ⟨_, _, _, _, _, _, rfl, shalf En _ _ ((lZF p1 p2 hb).mono (by omega))⟩
  ·rw [if_neg hb]
   exact ⟨_, _, _, _, _, _, rfl, hZg En⟩
 ·rw [if_neg ha]
  exact ⟨_, _, _, _, _, _, rfl, hZg En⟩
theorem ma_form (p : Int) (f : Nat → Co) (n : Nat) : HalfA En (maG p f n) := by
 unfold maG
 by_cases ha : accP p f n
 ·rw [if_pos ha]
  by_cases hb : crH f n ≤ 128
  ·rw [if_pos hb]
   exact ⟨_, _, _, _, _, _, rfl, shalf En _ _ (mG_sz ha hb)⟩
  ·rw [if_neg hb]
   exact ⟨_, _, _, _, _, _, rfl, hZg En⟩
 ·rw [if_neg ha]
  exact ⟨_, _, _, _, _, _, rfl, hZg En⟩
end
section
variable (p : Int) (f : Nat → Co) (n : Nat) (pk : Int) (x : Nat → By) (m : Nat) (at' fl v : Int) (made : Bool) (k1 : 0 ≤ pk) (k2 : pk ≤ 255) (a1 : 0 ≤ at') (a2 : at' ≤ 255) (b1 : 0 ≤ fl)
include k1 k2 a1 a2 b1
set_option maxHeartbeats 2000000 in
theorem lcross : Fn Tryz.prog TabD 3 [locP p f n, aggP [ex (.int .u8 pk), slc 5 (rows (bys x) m) m], ex (.int .u8 at'), ex (.int .u8 fl), ex (.int .i8 v), ex (.bool made)] (ex (.bool true)) := by
 have C0 := llong TabD p f n
 by_cases hn : n ≤ 20
 ·rw [decide_eq_false (show ¬ (n : Int) > 20 by omega)] at C0
  by_cases hm : m ≤ 20
  ·obtain ⟨p', g, n', hn', CS⟩ := lsome TabD p f n hn pk x m hm k1 k2 at' fl v a1 a2 b1 made
   have C1 := mZo p' g n' hn'
   have C2 := mZ3 TabD p' g n' hn'
   have C3 := mZn p' g n' hn'
   have C4 := rTypes TabD p' g n' hn'
   obtain ⟨c0, c1, c2, c3, c4, k, e, CH⟩ := cr_form TabD p' g n'
   rw [e] at C1 C2
   unfold tyT at C3 C4
   generalize tyA p' g n' = ty at *
   unfold locP at *
   refine aZb Tryz.func3 rfl Tryz.ntmps3 rfl ?_
   intro w0 h0
   refine js (jr (jB jj jj jj (jB jj jj jj (ja jj (jn (js (js (jr (jL jj jj jj (jS (aZa C0 ⟨jj, trivial⟩) (jm jj (jgf jj jj (jgl jj jj jj (jg (bZd jj CSlice.ok) (jg (bGf jj jj) (jQ jj jj (jn (jf jj (jp (js (jr (jL jj jj jj (jL jj jj jj (jm jj (jm jj (jm jj (jm jj (jS (aZa CS ⟨jj, jj, jj, jj, jj, jj, trivial⟩) (jA jj jj jj (jP jj jj jj jj (jn (js (jr (jL jj jj jj (jS (aZa C1 ⟨jj, trivial⟩) (jm jj (jx' jj jj (jx' jj jj (jA jj jj jj (jP jj jj jj jj (ja jj (jn ?_))))))))))))))))))))))))))))))))))))))))))
   refine js (jr (jL jj jj jj (jS (aZa C2 ⟨jj, trivial⟩) (jm jj (jx' jj jj (jx' jj jj (jA jj jj jj (jP jj jj jj jj (ja jj (jn (js (jr (jL jj jj jj (jS (aZa C3 ⟨jj, trivial⟩) (jm jj (jx' jj jj (jx' jj jj (ja jj (ja jj (jn (js (jr (jL jj jj jj (jS (aZa C4 ⟨jj, trivial⟩) (jm jj (jx' jj jj (jx' jj jj (ja jj (ja jj (jn (js (jr (jm jj (jm jj (jS (bEt jj jj) (jm jj (jgm jj (jgm jj (jg (bEt jj jj) (jq jj jj (jm jj (jgm jj (jgm jj (jg (bEt jj jj) (jq jj jj (jm jj (jg (aZ2 jj jj jj jj) (jg (aZ2 jj jj jj jj) (jg (aZa CH ⟨jj, jj, trivial⟩) (jq jj jj (jm jj (jg (aZa dZ5 trivial) (jq jj jj (ja jj (jn ?_)))))))))))))))))))))))))))))))))))))))))))))))))))))))
   refine ji ?_
   exact rtT rfl jj
  ·have hm' : (m : Int) > 20 := by omega
   unfold locP at *
   refine aZb Tryz.func3 rfl Tryz.ntmps3 rfl ?_
   intro w0 h0
   refine js (jr (jB jj jj jj (jB jj jj jj (ja jj (jn (js (js (jr (jL jj jj jj (jS (aZa C0 ⟨jj, trivial⟩) (jm jj (jgf jj jj (jgl jj jj jj (jg (bZd jj CSlice.ok) (jg (bGt jj jj) (jQ jj jj (jn (jt jj (js (jr (jS (aZa dZ5 trivial) (ja jj (jn (ji ?_))))))))))))))))))))))))
   exact rtT rfl jj
 ·rw [decide_eq_true (show (n : Int) > 20 by omega)] at C0
  unfold locP at *
  refine aZb Tryz.func3 rfl Tryz.ntmps3 rfl ?_
  intro w0 h0
  refine js (jr (jB jj jj jj (jB jj jj jj (ja jj (jn (js (js (jr (jL jj jj jj (jS (aZa C0 ⟨jj, trivial⟩) (jm jj (jk (jk (jk (jk (jq jj jj (jn (jt jj (js (jr (jS (aZa dZ5 trivial) (ja jj (jn (ji ?_))))))))))))))))))))))))
  exact rtT rfl jj
set_option maxHeartbeats 2000000 in
theorem lmass : Fn Tryz.prog TabD 5 [locP p f n, aggP [ex (.int .u8 pk), slc 5 (rows (bys x) m) m], ex (.int .u8 at'), ex (.int .u8 fl), ex (.int .i8 v), ex (.bool made)] (ex (.bool true)) := by
 have C0 := llong TabD p f n
 by_cases hn : n ≤ 20
 ·rw [decide_eq_false (show ¬ (n : Int) > 20 by omega)] at C0
  by_cases hm : m ≤ 20
  ·obtain ⟨p', g, n', hn', CS⟩ := lsome TabD p f n hn pk x m hm k1 k2 at' fl v a1 a2 b1 made
   have C1 := tMass p' g n' hn'
   have C2 := rMass TabD p' g n' hn'
   obtain ⟨c0, c1, c2, c3, c4, k, e, CH⟩ := ma_form TabD p' g n'
   rw [e] at C1 C2
   unfold locP at *
   refine aZb Tryz.func5 rfl Tryz.ntmps5 rfl ?_
   intro w0 h0
   refine js (jr (jB jj jj jj (jB jj jj jj (ja jj (jn (js (js (jr (jL jj jj jj (jS (aZa C0 ⟨jj, trivial⟩) (jm jj (jgf jj jj (jgl jj jj jj (jg (bZd jj CSlice.ok) (jg (bGf jj jj) (jQ jj jj (jn (jf jj (jp (js (jr (jL jj jj jj (jL jj jj jj (jm jj (jm jj (jm jj (jm jj (jS (aZa CS ⟨jj, jj, jj, jj, jj, jj, trivial⟩) (jA jj jj jj (jP jj jj jj jj (jn (js (jr (jL jj jj jj (jS (aZa C1 ⟨jj, trivial⟩) (jm jj (jx' jj jj (jx' jj jj (jA jj jj jj (jP jj jj jj jj (ja jj (jn ?_))))))))))))))))))))))))))))))))))))))))))
   refine js (jr (jL jj jj jj (jS (aZa C2 ⟨jj, trivial⟩) (jm jj (jx' jj jj (jx' jj jj (jA jj jj jj (jP jj jj jj jj (ja jj (jn (js (jr (jm jj (jm jj (jS (bEt jj jj) (jm jj (jg (aZ2 jj jj jj jj) (jg (aZ2 jj jj jj jj) (jg (aZa CH ⟨jj, jj, trivial⟩) (jq jj jj (jm jj (jg (aZa dZ5 trivial) (jq jj jj (ja jj (jn (ji ?_))))))))))))))))))))))))))
   exact rtT rfl jj
  ·have hm' : (m : Int) > 20 := by omega
   unfold locP at *
   refine aZb Tryz.func5 rfl Tryz.ntmps5 rfl ?_
   intro w0 h0
   refine js (jr (jB jj jj jj (jB jj jj jj (ja jj (jn (js (js (jr (jL jj jj jj (jS (aZa C0 ⟨jj, trivial⟩) (jm jj (jgf jj jj (jgl jj jj jj (jg (bZd jj CSlice.ok) (jg (bGt jj jj) (jQ jj jj (jn (jt jj (js (jr (jS (aZa dZ5 trivial) (ja jj (jn (ji ?_))))))))))))))))))))))))
   exact rtT rfl jj
 ·rw [decide_eq_true (show (n : Int) > 20 by omega)] at C0
  unfold locP at *
  refine aZb Tryz.func5 rfl Tryz.ntmps5 rfl ?_
  intro w0 h0
  refine js (jr (jB jj jj jj (jB jj jj jj (ja jj (jn (js (js (jr (jL jj jj jj (jS (aZa C0 ⟨jj, trivial⟩) (jm jj (jk (jk (jk (jk (jq jj jj (jn (jt jj (js (jr (jS (aZa dZ5 trivial) (ja jj (jn (ji ?_))))))))))))))))))))))))
  exact rtT rfl jj
end
end Go.Proofs.YtdieokoenhncfaaGreatDoor

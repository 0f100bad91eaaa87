/- Symbols: species, cross term, types, mass. (With LT.skipU.) -/
import Derived.Test.YtfmjdlogjmofbaaGreatDoorMem
import Derived.Test.YtfmjdlogjmofbaaGreatDoorMc
import Derived.Test.YtfmjdlogjmofbaaGreatDoorW
set_option maxRecDepth 3000
namespace Go.Proofs.YtfmjdlogjmofbaaGreatDoor
section
open Go.RowKit Limb Num
def spC (f : Nat → Co) (e : Int) : Nat → Co
 | 0 => ⟨e, 0, 1, false, 0⟩
 | i + 1 => if (f i).e = e then f i else spC f e i
def spB (f : Nat → Co) (e : Int) : Nat → Bool
 | 0 => false
 | i + 1 => if (f i).e = e then spB f e i else if (f i).e = e - 1 ∨ (f i).e = e + 1 then (spB f e i || (f i).o) else spB f e i
set_option maxHeartbeats 1000000 in
theorem cZI (f : Nat → Co) (n : Nat) (e : Int) (hn : n ≤ 1000) (he1 : -1 ≤ e) (he2 : e ≤ 1000) (R : List Pd) (hl : ∃ a b, R = [a, b]) (hD : Fn Tryz.prog TabD 75 [aggP (coc (spC f e n)), ex (.bool (spB f e n))] (aggP R)) : Fn Tryz.prog TabD 29 [locP 2 f n, ex (.int .i64 e)] (aggP R) := by
 obtain ⟨r1, r2, rfl⟩ := hl
 unfold locP
 refine aZb Tryz.func29 rfl Tryz.ntmps29 rfl ?_
 intro w0 h0
 refine js<|jr<|jB jj jj jj<|jA jj jj jj<|jn<|js<|jr<|jm jj<|jS (aZj (ps := [(_, _), (_, _)]) ⟨jj, Part.c jj, jj, Part.c jj, trivial⟩ jj)<|jA jj jj jj<|jP jj jj jj jj<|jn<|js<|jr<|ja jj<|jn<|js<|js<|jr<|jF jj jj<|jl jj jj jj<|jE jj<|jm jj<|jn<|jb ?_
 refine WpD.loop (α := {i : Nat // i ≤ n}) (fun i => ⟨[(1, .one (ex (.int .i64 e))), (2, .ptr 2 0), (4, .ptr 4 0), (5, .ptr 5 0), (6, .one (ex (.bool (spB f e i.1)))), (12, .one (slc 5 (rows (ccs f) n) n)), (13, .one (ex (.int .i64 (n : Int)))), (14, .one (ex (.int .i64 (i.1 : Int))))], [(2, [ex (.int .i64 2), slc 5 (rows (ccs f) n) n]), (4, [ex (.int .i64 0), ex (.int .i64 0)]), (5, coc (spC f e i.1))]⟩) (fun i => n - i.1) ⟨0, Nat.zero_le _⟩ ?_ ?_
 ·exact Sub.mk sJ sJ
 rintro ⟨i, hi⟩
 dsimp only at hi ⊢
 by_cases hlt : i < n
 ·have hq : ((rows (ccs f) n).drop (i * 5)).take 5 = coc (f i) := bZt (cZb f) hlt
  have w1 := wS i oM
  have w2 : IntKind.i64.wrap (e - 1) = e - 1 := w64 oM oM
  have w3 : IntKind.i64.wrap (e + 1) = e + 1 := w64 oM oM
  by_cases q0 : (f i).e = e
  ·have c1 : spC f e (i + 1) = f i := if_pos q0
   have c2 : spB f e (i + 1) = spB f e i := if_pos q0
   refine js<|jr<|jS (bLt jj jj)<|jn<|js<|jt jj<|jp<|js<|jb<|js<|jr<|jS (aZm jj jj hlt hq)<|jS (aZq jj jj jj)<|jA jj jj jj<|jP jj jj jj jj<|jn<|js<|jr<|jF jj jj<|jl jj jj jj<|jn<|jb<|js<|jr<|jm jj<|jS (bEt jj jj)<|ja jj<|jn<|jt jj<|jr<|jL jj jj jj<|jP jj jj jj jj<|jn<|jr<|jS (bAd jj jj w1)<|jm jj<|jn ?_
   refine ⟨⟨i + 1, oM⟩, ?_, oD⟩
   dsimp only
   rw [c1, c2]
   exact Sub.mk sJ sJ
  ·have c1 : spC f e (i + 1) = spC f e i := if_neg q0
   by_cases q1 : (f i).e = e - 1
   ·have c2 : spB f e (i + 1) = (spB f e i || (f i).o) := by rw [spB, if_neg q0, if_pos (.inl q1)]
    cases hB : spB f e i with
    | true =>
     rw [hB, Bool.true_or] at c2
     refine js<|jr<|jS (bLt jj jj)<|jn<|js<|jt jj<|jp<|js<|jb<|js<|jr<|jS (aZm jj jj hlt hq)<|jS (aZq jj jj jj)<|jA jj jj jj<|jP jj jj jj jj<|jn<|js<|jr<|jF jj jj<|jl jj jj jj<|jn<|jb<|js<|jr<|jm jj<|jS (bEf jj jj)<|ja jj<|jn<|jf jj<|js<|js<|jr<|jm jj<|jS (bSu jj jj w2)<|jS (bEt jj jj)<|ja jj<|jn<|jt jj<|jp<|jt jj<|jr<|jm jj<|jm jj ?_
     first | refine jgf jj jj ?_ | refine jk ?_ | refine ju ?_
     first | refine jgl jj jj jj ?_ | refine jk ?_ | refine ju ?_
     first | refine jq jj jj ?_ | refine jQ jj jj ?_
     refine ja jj<|jn<|jr<|jS (bAd jj jj w1)<|jm jj<|jn ?_
     refine ⟨⟨i + 1, oM⟩, ?_, oD⟩
     dsimp only
     rw [c1, c2]
     exact Sub.mk sJ sJ
    | false =>
     rw [hB, Bool.false_or] at c2
     refine js<|jr<|jS (bLt jj jj)<|jn<|js<|jt jj<|jp<|js<|jb<|js<|jr<|jS (aZm jj jj hlt hq)<|jS (aZq jj jj jj)<|jA jj jj jj<|jP jj jj jj jj<|jn<|js<|jr<|jF jj jj<|jl jj jj jj<|jn<|jb<|js<|jr<|jm jj<|jS (bEf jj jj)<|ja jj<|jn<|jf jj<|js<|js<|jr<|jm jj<|jS (bSu jj jj w2)<|jS (bEt jj jj)<|ja jj<|jn<|jt jj<|jp<|jt jj<|jr<|jm jj<|jm jj ?_
     first | refine jgf jj jj ?_ | refine jk ?_ | refine ju ?_
     first | refine jgl jj jj jj ?_ | refine jk ?_ | refine ju ?_
     first | refine jq jj jj ?_ | refine jQ jj jj ?_
     refine ja jj<|jn<|jr<|jS (bAd jj jj w1)<|jm jj<|jn ?_
     refine ⟨⟨i + 1, oM⟩, ?_, oD⟩
     dsimp only
     rw [c1, c2]
     exact Sub.mk sJ sJ
   ·by_cases q2 : (f i).e = e + 1
    ·have c2 : spB f e (i + 1) = (spB f e i || (f i).o) := by rw [spB, if_neg q0, if_pos (.inr q2)]
     cases hB : spB f e i with
     | true =>
      rw [hB, Bool.true_or] at c2
      refine js<|jr<|jS (bLt jj jj)<|jn<|js<|jt jj<|jp<|js<|jb<|js<|jr<|jS (aZm jj jj hlt hq)<|jS (aZq jj jj jj)<|jA jj jj jj<|jP jj jj jj jj<|jn<|js<|jr<|jF jj jj<|jl jj jj jj<|jn<|jb<|js<|jr<|jm jj<|jS (bEf jj jj)<|ja jj<|jn<|jf jj<|js<|js<|jr<|jm jj<|jS (bSu jj jj w2)<|jS (bEf jj jj)<|ja jj<|jn<|jf jj<|jr<|jm jj<|jS (bAd jj jj w3)<|jS (bEt jj jj)<|ja jj<|jn ?_
      refine jt jj<|jr<|jm jj<|jm jj ?_
      first | refine jgf jj jj ?_ | refine jk ?_ | refine ju ?_
      first | refine jgl jj jj jj ?_ | refine jk ?_ | refine ju ?_
      first | refine jq jj jj ?_ | refine jQ jj jj ?_
      refine ja jj<|jn<|jr<|jS (bAd jj jj w1)<|jm jj<|jn ?_
      refine ⟨⟨i + 1, oM⟩, ?_, oD⟩
      dsimp only
      rw [c1, c2]
      exact Sub.mk sJ sJ
     | false =>
      rw [hB, Bool.false_or] at c2
      refine js<|jr<|jS (bLt jj jj)<|jn<|js<|jt jj<|jp<|js<|jb<|js<|jr<|jS (aZm jj jj hlt hq)<|jS (aZq jj jj jj)<|jA jj jj jj<|jP jj jj jj jj<|jn<|js<|jr<|jF jj jj<|jl jj jj jj<|jn<|jb<|js<|jr<|jm jj<|jS (bEf jj jj)<|ja jj<|jn<|jf jj<|js<|js<|jr<|jm jj<|jS (bSu jj jj w2)<|jS (bEf jj jj)<|ja jj<|jn<|jf jj<|jr<|jm jj<|jS (bAd jj jj w3)<|jS (bEt jj jj)<|ja jj<|jn ?_
      refine jt jj<|jr<|jm jj<|jm jj ?_
      first | refine jgf jj jj ?_ | refine jk ?_ | refine ju ?_
      first | refine jgl jj jj jj ?_ | refine jk ?_ | refine ju ?_
      first | refine jq jj jj ?_ | refine jQ jj jj ?_
      refine ja jj<|jn<|jr<|jS (bAd jj jj w1)<|jm jj<|jn ?_
      refine ⟨⟨i + 1, oM⟩, ?_, oD⟩
      dsimp only
      rw [c1, c2]
      exact Sub.mk sJ sJ
    ·have c2 : spB f e (i + 1) = spB f e i := by rw [spB, if_neg q0, if_neg oM]
     refine js<|jr<|jS (bLt jj jj)<|jn<|js<|jt jj<|jp<|js<|jb<|js<|jr<|jS (aZm jj jj hlt hq)<|jS (aZq jj jj jj)<|jA jj jj jj<|jP jj jj jj jj<|jn<|js<|jr<|jF jj jj<|jl jj jj jj<|jn<|jb<|js<|jr<|jm jj<|jS (bEf jj jj)<|ja jj<|jn<|jf jj<|js<|js<|jr<|jm jj<|jS (bSu jj jj w2)<|jS (bEf jj jj)<|ja jj<|jn<|jf jj<|jr<|jm jj<|jS (bAd jj jj w3)<|jS (bEf jj jj)<|ja jj<|jn ?_
     refine jf jj<|jp<|jr<|jS (bAd jj jj w1)<|jm jj<|jn ?_
     refine ⟨⟨i + 1, oM⟩, ?_, oD⟩
     dsimp only
     rw [c1, c2]
     exact Sub.mk sJ sJ
 ·have : i = n := oM
  subst this
  refine js<|jr<|jS (bLf jj jj)<|jn<|js<|jf jj<|je<|js<|js<|jr<|jF jj jj<|jl jj jj jj<|jS (bEt jj jj)<|jn<|jt jj<|js<|jr<|jL jj jj jj<|jm jj<|jS (aZa hD ⟨jj, jj, trivial⟩)<|jP jj jj jj jj<|jn<|ji ?_
  exact rtC rfl jj jj
end
section
open Go.RowKit Limb Num
def crI (f : Nat → Co) (j : Nat) : Nat → Int
 | 0 => 0
 | i + 1 => crI f j i + ((f j).e - (f i).e) * (f i).d * (f j).d
def crH (f : Nat → Co) : Nat → Int
 | 0 => 0
 | j + 1 => crH f j + crI f j j
theorem hZx {f : Nat → List Pd} {k : Nat} (hf : ∀ i, (f i).length = k) : ∀ {n j : Nat}, j ≤ n → (rows f n).take (j * k) = rows f j
 | 0, j, h => by obtain rfl : j = 0 := oM; rw [Nat.zero_mul]; rfl
 | n + 1, j, h => by
  rcases Nat.lt_or_ge n j with h1 | h1
  ·obtain rfl : j = n + 1 := oM
   rw [List.take_of_length_le (by rw [dZx hf]; exact Nat.le_refl _)]
  ·rw [dZT, List.take_append_of_le_length (by rw [dZx hf]; exact Nat.mul_le_mul_right _ h1), hZx hf h1]
structure OkL (f : Nat → Co) (n : Nat) : Prop where
 n1 : 1 ≤ n
 n8 : n ≤ 8
 e0 : ∀ i, i < n → 0 ≤ (f i).e
 e1 : ∀ i, i < n → (f i).e ≤ 100
 d0 : ∀ i, i < n → 1 ≤ (f i).d
 d8 : ∀ i, i < n → (f i).d ≤ 8
 up : ∀ i j, i < j → j < n → (f i).e < (f j).e
theorem lZu {a b c : Int} (h1 : 0 ≤ a) (h2 : a ≤ 100) (h3 : 0 ≤ b) (h4 : b ≤ 8) (h5 : 0 ≤ c) (h6 : c ≤ 8) : 0 ≤ a * b ∧ a * b ≤ 800 ∧ 0 ≤ a * b * c ∧ a * b * c ≤ 6400 := by
 have k1 : 0 ≤ a * b := Int.mul_nonneg h1 h3
 have k2 : a * b ≤ 100 * 8 := Int.mul_le_mul h2 h4 h3 oM
 have k3 : 0 ≤ a * b * c := Int.mul_nonneg k1 h5
 have k4 : a * b * c ≤ 800 * 8 := Int.mul_le_mul oM h6 h5 oM
 omega
theorem nZl {f : Nat → Co} {n : Nat} (H : OkL f n) {j : Nat} (hj : j < n) : ∀ {i : Nat}, i ≤ j → 0 ≤ crI f j i ∧ crI f j i ≤ (i : Int) * 6400
 | 0, _ => by simp [crI]
 | i + 1, h => by
  have ih := nZl H hj (i := i) oM
  have t := lZu (a := (f j).e - (f i).e) (b := (f i).d) (c := (f j).d) (by have := H.up i j oM hj; omega) (by have := H.e0 i oM; have := H.e1 j hj; omega)
   (by have := H.d0 i oM; omega) (H.d8 i oM) (by have := H.d0 j hj; omega) (H.d8 j hj)
  rw [crI]
  generalize crI f j i = x at *
  omega
theorem nZm {f : Nat → Co} {n : Nat} (H : OkL f n) : ∀ {j : Nat}, j ≤ n → 0 ≤ crH f j ∧ crH f j ≤ (j : Int) * 51200
 | 0, _ => by simp [crH]
 | j + 1, h => by
  have ih := nZm H (j := j) oM
  have t := nZl H (j := j) (i := j) oM oM
  have := H.n8
  rw [crH]
  generalize crH f j = x at *
  generalize crI f j j = y at *
  omega
def gZS (r : Rat) (b : Bool) : Pd := aggP (hZ4 r ++ [ex (.bool b)])
def halfB (h : Int) : Bool := decide (h % 2 = 1)
def crA (p h : Int) : Pd := if h ≤ 128 then tupP [gZS (((p : Int) : Rat) ^ (h.toNat / 2)) (halfB h), ex (.int .i64 0)] else tupP [aggP [ex (.bool false), ex (.slice none 0 0), ex (.bool false), ex (.slice none 0 0), ex (.bool false)], ex (.int .i64 7)]
set_option maxHeartbeats 1000000 in
theorem mZ3 (En : Ev) (p : Int) (f : Nat → Co) (n : Nat) (H : OkL f n) (hp : 2 ≤ p) (hp2 : p ≤ 9973) (hA : Fn Tryz.prog En 69 [locP p f n] (ex (.bool true))) : Fn Tryz.prog En 24 [locP p f n] (crA p (crH f n)) := by
 unfold locP at hA ⊢
 have hn8 := H.n8
 refine aZb Tryz.func24 rfl Tryz.ntmps24 rfl ?_
 intro w0 h0
 refine js<|jr<|jB jj jj jj<|jA jj jj jj<|ja jj<|jn<|js<|js<|jr<|jL jj jj jj<|jS (aZa hA ⟨jj, trivial⟩)<|jS (bNo jj)<|jn<|jf jj<|jp<|js<|jr<|ja jj<|jn<|js<|js<|jr<|jF jj jj<|jl jj jj jj<|jE jj<|jm jj<|jn<|jb ?_
 refine WpD.loop (α := {j : Nat // j ≤ n}) (fun j => ⟨[(1, .ptr 1 0), (2, .ptr 2 0), (4, .one (ex (.int .i64 (crH f j.1)))), (16, .one (slc 5 (rows (ccs f) n) n)), (17, .one (ex (.int .i64 (n : Int)))), (18, .one (ex (.int .i64 (j.1 : Int))))], [(1, [ex (.int .i64 p), slc 5 (rows (ccs f) n) n]), (2, [ex (.bool false), ex (.slice none 0 0), ex (.bool false), ex (.slice none 0 0), ex (.bool false)])]⟩) (fun j => n - j.1) ⟨0, Nat.zero_le _⟩ ?_ ?_
 ·exact Sub.mk sJ sJ
 rintro ⟨j, hj⟩
 dsimp only at hj ⊢
 obtain ⟨b1, b2⟩ := nZm H hj
 by_cases hlt : j < n
 ·have hq : ((rows (ccs f) n).drop (j * 5)).take 5 = coc (f j) := bZt (cZb f) hlt
  have w1 := wS j oM
  have hqs : (rows (ccs f) n).take (j * 5) = rows (ccs f) j := hZx (cZb f) oM
  have hjn : j ≤ n := oM
  refine js<|jr<|jS (bLt jj jj)<|jn<|js<|jt jj<|jp<|js<|jb<|js<|jr<|jm jj<|jS (aZm jj jj hlt hq)<|jS (aZq jj jj jj)<|jA jj jj jj<|ja jj<|jP jj jj jj jj<|jn<|js<|jr<|jF jj jj<|jl jj jj jj<|jm jj<|jS (kZE jj jj hjn hqs)<|jE jj<|jm jj<|jn<|jb ?_
  refine WpD.loop (α := {i : Nat // i ≤ j}) (fun i => ⟨[(1, .ptr 1 0), (2, .ptr 2 0), (4, .one (ex (.int .i64 (crH f j + crI f j i.1)))), (6, .ptr 6 0), (16, .one (slc 5 (rows (ccs f) n) n)), (17, .one (ex (.int .i64 (n : Int)))), (18, .one (ex (.int .i64 (j : Int)))), (26, .one (slc 5 (rows (ccs f) j) j)), (27, .one (ex (.int .i64 (j : Int)))), (28, .one (ex (.int .i64 (i.1 : Int))))], [(1, [ex (.int .i64 p), slc 5 (rows (ccs f) n) n]), (2, [ex (.bool false), ex (.slice none 0 0), ex (.bool false), ex (.slice none 0 0), ex (.bool false)]), (6, coc (f j))]⟩) (fun i => j - i.1) ⟨0, Nat.zero_le _⟩ ?_ ?_
  ·dsimp only
   rw [show crH f j + crI f j 0 = crH f j from Int.add_zero _]
   exact Sub.mk sJ sJ
  rintro ⟨i, hi⟩
  dsimp only at hi ⊢
  obtain ⟨b3, b4⟩ := nZl H hlt hi
  by_cases hil : i < j
  ·have hqi : ((rows (ccs f) j).drop (i * 5)).take 5 = coc (f i) := bZt (cZb f) hil
   have w2 := wS i oM
   have k1 : 0 ≤ (f j).e - (f i).e := by have := H.up i j hil hlt; omega
   have k2 : (f j).e - (f i).e ≤ 100 := by have := H.e0 i oM; have := H.e1 j hlt; omega
   have t := lZu (a := (f j).e - (f i).e) (b := (f i).d) (c := (f j).d) k1 k2 (by have := H.d0 i oM; omega) (H.d8 i oM) (by have := H.d0 j hlt; omega) (H.d8 j hlt)
   have a1 : IntKind.i64.wrap ((f j).e - (f i).e) = (f j).e - (f i).e := w64 oM oM
   have a2 : IntKind.i64.wrap (((f j).e - (f i).e) * (f i).d) = ((f j).e - (f i).e) * (f i).d := w64 oM oM
   have a3 : IntKind.i64.wrap (((f j).e - (f i).e) * (f i).d * (f j).d) = ((f j).e - (f i).e) * (f i).d * (f j).d := w64 oM oM
   have a4 : IntKind.i64.wrap (crH f j + crI f j i + ((f j).e - (f i).e) * (f i).d * (f j).d) = crH f j + crI f j (i + 1) := by
    rw [crI, ← Int.add_assoc]
    exact w64 oM oM
   refine js<|jr<|jS (bLt jj jj)<|jn<|js<|jt jj<|jp<|js<|jb<|js<|jr<|jS (aZm jj jj hil hqi)<|jS (aZq jj jj jj)<|jA jj jj jj<|jP jj jj jj jj<|jn<|jr<|jm jj<|jF jj jj<|jl jj jj jj<|jF jj jj<|jl jj jj jj<|jS (bSu jj jj a1)<|jF jj jj<|jl jj jj jj<|jS (bMu jj jj a2)<|jF jj jj<|jl jj jj jj<|jS (bMu jj jj a3)<|jS (bAd jj jj a4)<|ja jj<|jn<|jr<|jS (bAd jj jj w2)<|jm jj<|jn ?_
   refine ⟨⟨i + 1, oM⟩, ?_, oD⟩
   exact Sub.mk sJ sJ
  ·have : i = j := oM
   subst this
   refine js<|jr<|jS (bLf jj jj)<|jn<|js<|jf jj<|je<|jr<|jS (bAd jj jj w1)<|jm jj<|jn ?_
   refine ⟨⟨i + 1, oM⟩, ?_, oD⟩
   dsimp only
   rw [show crH f (i + 1) = crH f i + crI f i i from rfl]
   exact Sub.mk sJ sJ
 ·have : j = n := oM
  subst this
  unfold crA
  generalize crH f j = h at *
  obtain ⟨m, rfl⟩ : ∃ m : Nat, h = (m : Int) := ⟨h.toNat, oM⟩
  by_cases hb : (m : Int) ≤ 128
  ·rw [if_pos hb, Int.toNat_natCast]
   have Sp := sz_z (z := p) oM oM
   have C1 := fZs En p oM oM
   have C2 := krpow En ((p : Int) : Rat) (m / 2) (Sp.mono oM) oM
   have eb : IntKind.i64.wrap (((m : Nat) : Int).tdiv 2) = ((m / 2 : Nat) : Int) := by
    rw [show ((m : Nat) : Int).tdiv 2 = ((m / 2 : Nat) : Int) from (Int.ofNat_tdiv _ _).symm]
    exact w64 oM oM
   have em : (m : Int).tmod 2 = (m : Int) % 2 := Int.tmod_eq_emod_of_nonneg oM
   have hh : ((m : Int) % 2 == 1) = halfB m := rfl
   refine js<|jr<|jS (bLf jj jj)<|jn<|js<|jf jj<|je<|js<|js<|jr<|jm jj<|jS (bGf jj jj)<|jn<|jf jj<|jp<|js<|jr<|jF jj jj<|jl jj jj jj<|jS (aZa C1 ⟨jj, trivial⟩)<|jm jj<|jS (bQu jj jj eb)<|jS (aZa C2 ⟨jj, jj, trivial⟩)<|jm jj<|jx' jj jj<|jx' jj jj<|jA jj jj jj<|jP jj jj jj jj<|ja jj<|jn<|js<|jr<|jL jj jj jj<|jm jj<|jS (bRe jj jj em)<|jS (bVq jj jj hh)<|jS (aZj (ps := [(_, _), (_, _)]) ⟨jj, Part.c jj, jj, Part.c jj, trivial⟩ jj)<|jP jj jj jj jj<|ja jj<|jn<|ji ?_
   exact rtD rfl jj jj jj
  ·rw [if_neg hb]
   refine js<|jr<|jS (bLf jj jj)<|jn<|js<|jf jj<|je<|js<|js<|jr<|jm jj<|jS (bGt jj jj)<|jn<|jt jj<|js<|jr<|jS (aZj (ps := []) trivial jj)<|jP jj jj jj jj<|ja jj<|jn<|ji ?_
   exact rtD rfl jj jj jj
section
variable (En : Ev)
theorem mZ2 (f : Nat → Co) (ho : (f 0).o = true) (hA : Fn Tryz.prog En 69 [locP 2 f 1] (ex (.bool true))) : Fn Tryz.prog En 25 [locP 2 f 1] (tupP [ex (.int .i64 0), ex (.int .i64 0)]) := by
 unfold locP at hA ⊢
 refine aZb Tryz.func25 rfl Tryz.ntmps25 rfl ?_
 intro w0 h0
 refine js<|jr<|jB jj jj jj<|ja jj<|ja jj<|jn<|js<|js<|jr<|jL jj jj jj<|jS (aZa hA ⟨jj, trivial⟩)<|jS (bNo jj)<|jn<|jf jj<|jp<|js<|js<|jr<|jF jj jj<|jl jj jj jj<|jS (bNf jj jj)<|jn<|jf jj<|jp<|js<|jr<|ja jj<|jn<|js<|js<|jr<|jF jj jj<|jl jj jj jj<|jE jj<|jm jj<|jn<|jb ?_
 refine WpD.loop (α := {i : Nat // i ≤ 1}) (fun i => ⟨[(1, .ptr 1 0), (4, .one (ex (.int .i64 0))), (14, .one (slc 5 (rows (ccs f) 1) 1)), (15, .one (ex (.int .i64 1))), (16, .one (ex (.int .i64 (i.1 : Int))))], [(1, [ex (.int .i64 2), slc 5 (rows (ccs f) 1) 1])]⟩) (fun i => 1 - i.1) ⟨0, Nat.zero_le _⟩ ?_ ?_
 ·exact Sub.mk sJ sJ
 rintro ⟨i, hi⟩
 dsimp only at hi ⊢
 by_cases hlt : i < 1
 ·obtain rfl : i = 0 := oM
  have hq : ((rows (ccs f) 1).drop (0 * 5)).take 5 = [ex (.int .i64 (f 0).e), ex (.int .i64 (f 0).d), ex (.int .i64 (f 0).s), ex (.bool true), ex (.int .i64 (f 0).y)] := by
   rw [← ho]
   exact bZt (cZb f) hlt
  have w1 : IntKind.i64.wrap (((0 : Nat) : Int) + 1) = ((0 + 1 : Nat) : Int) := by decide
  refine js<|jr<|jS (bLt jj jj)<|jn<|js<|jt jj<|jp<|js<|jb<|js<|jr<|jm jj<|jS (aZm jj jj hlt hq)<|jS (aZq jj jj jj)<|jA jj jj jj<|ja jj<|jP jj jj jj jj<|jn<|jb<|js<|jr<|jF jj jj<|jl jj jj jj<|jS (bNo jj)<|ja jj<|jn<|jf jj<|js<|jr<|jm jj<|jS (bGf jj jj)<|jm jj<|jk<|jk<|jk<|jk<|jk<|jk<|jk<|jQ jj jj<|jm jj<|jk<|jk<|jk<|jk<|jk<|jk<|jk<|jk<|jk<|jk<|jk<|jQ jj jj<|ja jj<|jn ?_
  refine jf jj<|jp<|jr<|jS (bAd jj jj w1)<|jm jj<|jn ?_
  refine ⟨⟨0 + 1, oM⟩, ?_, oD⟩
  exact Sub.mk sJ sJ
 ·obtain rfl : i = 1 := oM
  refine js<|jr<|jS (bLf jj jj)<|jn<|js<|jf jj<|je<|js<|jr<|jm jj<|ja jj<|ja jj<|jn<|ji ?_
  exact ret2 rfl (.tmp rfl) (.tmp rfl) (PLe.refl _)
end
end
section
open Go.RowKit Limb Num
def spO (p d s : Int) : Int := if d % 2 = 1 then 0 else if p % 4 = 1 ∨ d % 4 = 0 then s else -s
set_option maxHeartbeats 1000000 in
theorem mZs (En : Ev) (p : Int) (f : Nat → Co) (n : Nat) (e : Int) (hp : 3 ≤ p) (hp2 : p ≤ 9973) (hn : n ≤ 1000) (he1 : -1 ≤ e) (he2 : e ≤ 1000) (hd : 0 ≤ (spC f e n).d) (hs1 : -1 ≤ (spC f e n).s) (hs2 : (spC f e n).s ≤ 1) : Fn Tryz.prog En 29 [locP p f n, ex (.int .i64 e)] (aggP [ex (.int .i64 (spC f e n).d), ex (.int .i64 (spO p (spC f e n).d (spC f e n).s))]) := by
 unfold locP
 refine aZb Tryz.func29 rfl Tryz.ntmps29 rfl ?_
 intro w0 h0
 refine js<|jr<|jB jj jj jj<|jA jj jj jj<|jn<|js<|jr<|jm jj<|jS (aZj (ps := [(_, _), (_, _)]) ⟨jj, Part.c jj, jj, Part.c jj, trivial⟩ jj)<|jA jj jj jj<|jP jj jj jj jj<|jn<|js<|jr<|ja jj<|jn<|js<|js<|jr<|jF jj jj<|jl jj jj jj<|jE jj<|jm jj<|jn<|jb ?_
 refine WpD.loop (α := {i : Nat // i ≤ n}) (fun i => ⟨[(1, .one (ex (.int .i64 e))), (2, .ptr 2 0), (4, .ptr 4 0), (5, .ptr 5 0), (6, .one (ex (.bool (spB f e i.1)))), (12, .one (slc 5 (rows (ccs f) n) n)), (13, .one (ex (.int .i64 (n : Int)))), (14, .one (ex (.int .i64 (i.1 : Int))))], [(2, [ex (.int .i64 p), slc 5 (rows (ccs f) n) n]), (4, [ex (.int .i64 0), ex (.int .i64 0)]), (5, coc (spC f e i.1))]⟩) (fun i => n - i.1) ⟨0, Nat.zero_le _⟩ ?_ ?_
 ·exact Sub.mk sJ sJ
 rintro ⟨i, hi⟩
 dsimp only at hi ⊢
 by_cases hlt : i < n
 ·have hq : ((rows (ccs f) n).drop (i * 5)).take 5 = coc (f i) := bZt (cZb f) hlt
  have w1 := wS i oM
  have w2 : IntKind.i64.wrap (e - 1) = e - 1 := w64 oM oM
  have w3 : IntKind.i64.wrap (e + 1) = e + 1 := w64 oM oM
  by_cases q0 : (f i).e = e
  ·have c1 : spC f e (i + 1) = f i := if_pos q0
   have c2 : spB f e (i + 1) = spB f e i := if_pos q0
   refine js<|jr<|jS (bLt jj jj)<|jn<|js<|jt jj<|jp<|js<|jb<|js<|jr<|jS (aZm jj jj hlt hq)<|jS (aZq jj jj jj)<|jA jj jj jj<|jP jj jj jj jj<|jn<|js<|jr<|jF jj jj<|jl jj jj jj<|jn<|jb<|js<|jr<|jm jj<|jS (bEt jj jj)<|ja jj<|jn<|jt jj<|jr<|jL jj jj jj<|jP jj jj jj jj<|jn<|jr<|jS (bAd jj jj w1)<|jm jj<|jn ?_
   refine ⟨⟨i + 1, oM⟩, ?_, oD⟩
   dsimp only
   rw [c1, c2]
   exact Sub.mk sJ sJ
  ·have c1 : spC f e (i + 1) = spC f e i := if_neg q0
   by_cases q1 : (f i).e = e - 1
   ·have c2 : spB f e (i + 1) = (spB f e i || (f i).o) := by rw [spB, if_neg q0, if_pos (.inl q1)]
    cases hB : spB f e i with
    | true =>
     rw [hB, Bool.true_or] at c2
     refine js<|jr<|jS (bLt jj jj)<|jn<|js<|jt jj<|jp<|js<|jb<|js<|jr<|jS (aZm jj jj hlt hq)<|jS (aZq jj jj jj)<|jA jj jj jj<|jP jj jj jj jj<|jn<|js<|jr<|jF jj jj<|jl jj jj jj<|jn<|jb<|js<|jr<|jm jj<|jS (bEf jj jj)<|ja jj<|jn<|jf jj<|js<|js<|jr<|jm jj<|jS (bSu jj jj w2)<|jS (bEt jj jj)<|ja jj<|jn<|jt jj<|jp<|jt jj<|jr<|jm jj<|jm jj ?_
     first | refine jgf jj jj ?_ | refine jk ?_ | refine ju ?_
     first | refine jgl jj jj jj ?_ | refine jk ?_ | refine ju ?_
     first | refine jq jj jj ?_ | refine jQ jj jj ?_
     refine ja jj<|jn<|jr<|jS (bAd jj jj w1)<|jm jj<|jn ?_
     refine ⟨⟨i + 1, oM⟩, ?_, oD⟩
     dsimp only
     rw [c1, c2]
     exact Sub.mk sJ sJ
    | false =>
     rw [hB, Bool.false_or] at c2
     refine js<|jr<|jS (bLt jj jj)<|jn<|js<|jt jj<|jp<|js<|jb<|js<|jr<|jS (aZm jj jj hlt hq)<|jS (aZq jj jj jj)<|jA jj jj jj<|jP jj jj jj jj<|jn<|js<|jr<|jF jj jj<|jl jj jj jj<|jn<|jb<|js<|jr<|jm jj<|jS (bEf jj jj)<|ja jj<|jn<|jf jj<|js<|js<|jr<|jm jj<|jS (bSu jj jj w2)<|jS (bEt jj jj)<|ja jj<|jn<|jt jj<|jp<|jt jj<|jr<|jm jj<|jm jj ?_
     first | refine jgf jj jj ?_ | refine jk ?_ | refine ju ?_
     first | refine jgl jj jj jj ?_ | refine jk ?_ | refine ju ?_
     first | refine jq jj jj ?_ | refine jQ jj jj ?_
     refine ja jj<|jn<|jr<|jS (bAd jj jj w1)<|jm jj<|jn ?_
     refine ⟨⟨i + 1, oM⟩, ?_, oD⟩
     dsimp only
     rw [c1, c2]
     exact Sub.mk sJ sJ
   ·by_cases q2 : (f i).e = e + 1
    ·have c2 : spB f e (i + 1) = (spB f e i || (f i).o) := by rw [spB, if_neg q0, if_pos (.inr q2)]
     cases hB : spB f e i with
     | true =>
      rw [hB, Bool.true_or] at c2
      refine js<|jr<|jS (bLt jj jj)<|jn<|js<|jt jj<|jp<|js<|jb<|js<|jr<|jS (aZm jj jj hlt hq)<|jS (aZq jj jj jj)<|jA jj jj jj<|jP jj jj jj jj<|jn<|js<|jr<|jF jj jj<|jl jj jj jj<|jn<|jb<|js<|jr<|jm jj<|jS (bEf jj jj)<|ja jj<|jn<|jf jj<|js<|js<|jr<|jm jj<|jS (bSu jj jj w2)<|jS (bEf jj jj)<|ja jj<|jn<|jf jj<|jr<|jm jj<|jS (bAd jj jj w3)<|jS (bEt jj jj)<|ja jj<|jn ?_
      refine jt jj<|jr<|jm jj<|jm jj ?_
      first | refine jgf jj jj ?_ | refine jk ?_ | refine ju ?_
      first | refine jgl jj jj jj ?_ | refine jk ?_ | refine ju ?_
      first | refine jq jj jj ?_ | refine jQ jj jj ?_
      refine ja jj<|jn<|jr<|jS (bAd jj jj w1)<|jm jj<|jn ?_
      refine ⟨⟨i + 1, oM⟩, ?_, oD⟩
      dsimp only
      rw [c1, c2]
      exact Sub.mk sJ sJ
     | false =>
      rw [hB, Bool.false_or] at c2
      refine js<|jr<|jS (bLt jj jj)<|jn<|js<|jt jj<|jp<|js<|jb<|js<|jr<|jS (aZm jj jj hlt hq)<|jS (aZq jj jj jj)<|jA jj jj jj<|jP jj jj jj jj<|jn<|js<|jr<|jF jj jj<|jl jj jj jj<|jn<|jb<|js<|jr<|jm jj<|jS (bEf jj jj)<|ja jj<|jn<|jf jj<|js<|js<|jr<|jm jj<|jS (bSu jj jj w2)<|jS (bEf jj jj)<|ja jj<|jn<|jf jj<|jr<|jm jj<|jS (bAd jj jj w3)<|jS (bEt jj jj)<|ja jj<|jn ?_
      refine jt jj<|jr<|jm jj<|jm jj ?_
      first | refine jgf jj jj ?_ | refine jk ?_ | refine ju ?_
      first | refine jgl jj jj jj ?_ | refine jk ?_ | refine ju ?_
      first | refine jq jj jj ?_ | refine jQ jj jj ?_
      refine ja jj<|jn<|jr<|jS (bAd jj jj w1)<|jm jj<|jn ?_
      refine ⟨⟨i + 1, oM⟩, ?_, oD⟩
      dsimp only
      rw [c1, c2]
      exact Sub.mk sJ sJ
    ·have c2 : spB f e (i + 1) = spB f e i := by rw [spB, if_neg q0, if_neg oM]
     refine js<|jr<|jS (bLt jj jj)<|jn<|js<|jt jj<|jp<|js<|jb<|js<|jr<|jS (aZm jj jj hlt hq)<|jS (aZq jj jj jj)<|jA jj jj jj<|jP jj jj jj jj<|jn<|js<|jr<|jF jj jj<|jl jj jj jj<|jn<|jb<|js<|jr<|jm jj<|jS (bEf jj jj)<|ja jj<|jn<|jf jj<|js<|js<|jr<|jm jj<|jS (bSu jj jj w2)<|jS (bEf jj jj)<|ja jj<|jn<|jf jj<|jr<|jm jj<|jS (bAd jj jj w3)<|jS (bEf jj jj)<|ja jj<|jn ?_
     refine jf jj<|jp<|jr<|jS (bAd jj jj w1)<|jm jj<|jn ?_
     refine ⟨⟨i + 1, oM⟩, ?_, oD⟩
     dsimp only
     rw [c1, c2]
     exact Sub.mk sJ sJ
 ·have : i = n := oM
  subst this
  have m1 : (spC f e i).d.tmod 2 = (spC f e i).d % 2 := Int.tmod_eq_emod_of_nonneg hd
  have m2 : (spC f e i).d.tmod 4 = (spC f e i).d % 4 := Int.tmod_eq_emod_of_nonneg hd
  have m3 : p.tmod 4 = p % 4 := Int.tmod_eq_emod_of_nonneg oM
  have m4 : IntKind.i64.wrap (-(spC f e i).s) = -(spC f e i).s := w64 oM oM
  unfold spO
  by_cases h1 : (spC f e i).d % 2 = 1
  ·rw [if_pos h1]
   refine js<|jr<|jS (bLf jj jj)<|jn<|js<|jf jj<|je<|js<|js<|jr<|jF jj jj<|jl jj jj jj<|jS (bEf jj jj)<|jn<|jf jj<|jp<|js<|js<|jr<|jF jj jj<|jl jj jj jj<|jS (bRe jj jj m1)<|jS (bEt jj jj)<|jn<|jt jj<|js<|jr<|jF jj jj<|jl jj jj jj<|jS (aZj (ps := [(_, _)]) ⟨jj, Part.c jj, trivial⟩ jj)<|jP jj jj jj jj<|jn<|ji ?_
   exact rtC rfl jj jj
  ·rw [if_neg h1]
   by_cases h2 : p % 4 = 1
   ·rw [if_pos (.inl h2)]
    refine js<|jr<|jS (bLf jj jj)<|jn<|js<|jf jj<|je<|js<|js<|jr<|jF jj jj<|jl jj jj jj<|jS (bEf jj jj)<|jn<|jf jj<|jp<|js<|js<|jr<|jF jj jj<|jl jj jj jj<|jS (bRe jj jj m1)<|jS (bEf jj jj)<|jn<|jf jj<|jp<|js<|js<|jr<|jF jj jj<|jl jj jj jj<|jS (bRe jj jj m3)<|jS (bEt jj jj)<|jm jj<|jk<|jk<|jk<|jk<|jq jj jj<|jn<|jt jj<|js<|jr<|jF jj jj<|jl jj jj jj<|jF jj jj<|jl jj jj jj<|jS (aZj (ps := [(_, _), (_, _)]) ⟨jj, Part.c jj, jj, Part.c jj, trivial⟩ jj)<|jP jj jj jj jj<|jn ?_
    refine ji ?_
    exact rtC rfl jj jj
   ·by_cases h3 : (spC f e i).d % 4 = 0
    ·rw [if_pos (.inr h3)]
     refine js<|jr<|jS (bLf jj jj)<|jn<|js<|jf jj<|je<|js<|js<|jr<|jF jj jj<|jl jj jj jj<|jS (bEf jj jj)<|jn<|jf jj<|jp<|js<|js<|jr<|jF jj jj<|jl jj jj jj<|jS (bRe jj jj m1)<|jS (bEf jj jj)<|jn<|jf jj<|jp<|js<|js<|jr<|jF jj jj<|jl jj jj jj<|jS (bRe jj jj m3)<|jS (bEf jj jj)<|jm jj (jgf jj jj (jgl jj jj jj (jg (bRe jj jj m2) (jg (bEt jj jj) (jQ jj jj (jn (jt jj (js (jr (jF jj jj (jl jj jj jj (jF jj jj (jl jj jj jj (jS (aZj (ps := [(_, _), (_, _)]) ⟨jj, Part.c jj, jj, Part.c jj, trivial⟩ jj) (jP jj jj jj jj (jn ?_))))))))))))))))
     refine ji ?_
     exact rtC rfl jj jj
    ·rw [if_neg oM]
     refine js<|jr<|jS (bLf jj jj)<|jn<|js<|jf jj<|je<|js<|js<|jr<|jF jj jj<|jl jj jj jj<|jS (bEf jj jj)<|jn<|jf jj<|jp<|js<|js<|jr<|jF jj jj<|jl jj jj jj<|jS (bRe jj jj m1)<|jS (bEf jj jj)<|jn<|jf jj<|jp<|js<|js<|jr<|jF jj jj<|jl jj jj jj<|jS (bRe jj jj m3)<|jS (bEf jj jj)<|jm jj (jgf jj jj (jgl jj jj jj (jg (bRe jj jj m2) (jg (bEf jj jj) (jQ jj jj (jn (jf jj (jp (js (jr (jF jj jj (jl jj jj jj (jF jj jj (jl jj jj jj (jS (cZS jj (fun w => cZ0 w _ _) (vint m4)) (jS (aZj (ps := [(_, _), (_, _)]) ⟨jj, Part.c jj, jj, Part.c jj, trivial⟩ jj) (jP jj jj jj jj (jn ?_))))))))))))))))))
     refine ji ?_
     exact rtC rfl jj jj
section
variable (En : Ev)
theorem mTypesO (p : Int) (f : Nat → Co) (n : Nat) (hp : p ≠ 2) (hA : Fn Tryz.prog En 69 [locP p f n] (ex (.bool true))) : Fn Tryz.prog En 25 [locP p f n] (tupP [ex (.int .i64 0), ex (.int .i64 0)]) := by
 unfold locP at hA ⊢
 refine aZb Tryz.func25 rfl Tryz.ntmps25 rfl ?_
 intro w0 h0
 refine js<|jr<|jB jj jj jj<|ja jj<|ja jj<|jn<|js<|js<|jr<|jL jj jj jj<|jS (aZa hA ⟨jj, trivial⟩)<|jS (bNo jj)<|jn<|jf jj<|jp<|js<|js<|jr<|jF jj jj<|jl jj jj jj<|jS (bNt jj jj)<|jn<|jt jj<|js<|jr<|ja jj<|ja jj<|jn<|ji ?_
 exact ret2 rfl (.tmp rfl) (.tmp rfl) (PLe.refl _)
end
end
end Go.Proofs.YtfmjdlogjmofbaaGreatDoor

/- Rational numbers of the reference. -/
import Derived.Test.YtfmjdlogjmofbaaGreatDoorMem
import Derived.Test.YtfmjdlogjmofbaaGreatDoorIc
import Derived.Test.YtfmjdlogjmofbaaGreatDoorRb
import Derived.Test.YtfmjdlogjmofbaaGreatDoorProg
import Derived.WalkKit
import Derived.WalkSpells
import Derived.WalkLawsBesides
import Derived.Deep.LoopGhost
import Derived.Lib.LaidTab
import Derived.Lib.Hide
import Derived.IntWalk
import Derived.Test.YtfmjdlogjmofbaaGreatDoorW
set_option maxRecDepth 3000
namespace Go.Proofs.YtfmjdlogjmofbaaGreatDoor
section
open Go.RowKit Limb
instance cbody44 : CBody Tryz.prog 44 := ⟨⟨_, Tryz.func44, rfl, by rfl⟩⟩
instance cbody193 : CBody Tryz.prog 193 := ⟨⟨_, Tryz.func193, rfl, by rfl⟩⟩
instance cbody179 : CBody Tryz.prog 179 := ⟨⟨_, Tryz.func179, rfl, by rfl⟩⟩
instance cbody159 : CBody Tryz.prog 159 := ⟨⟨_, Tryz.func159, rfl, by rfl⟩⟩
instance cbody157 : CBody Tryz.prog 157 := ⟨⟨_, Tryz.func157, rfl, by rfl⟩⟩
structure RQ.okR (p : RQ) : Prop where
 l : Lm p.l
 m : Lm p.m
 ll : p.l.length ≤ 134217728
 ml : p.m.length ≤ 134217728
theorem RQ.of_okR {r : Rat} (h : Sz 134217728 r) : (RQ.of r).okR := ⟨aZg _, aZg _, h.1, h.2⟩
theorem RQ.okR.ok {p : RQ} (h : p.okR) : p.ok := ⟨h.l, h.m, Nat.le_trans h.ll oM, Nat.le_trans h.ml oM⟩
theorem RQ.szR {p : RQ} (h : p.okR) : Sz 134217728 p.v := by
 unfold RQ.v
 by_cases hz : zv p.t p.m = 0
 ·rw [hz, Rat.divInt_zero]; exact ⟨by show zl 0 ≤ _; exact Nat.le_trans aD (show 1 ≤ 134217728 by decide), by show zl 1 ≤ _; exact Nat.le_trans aD (show 1 ≤ 134217728 by decide)⟩
 ·exact bZ0 hz (Nat.le_trans (gZu _ h.l) h.ll) (Nat.le_trans (gZu _ h.m) h.ml)
section
variable (En : Ev)
theorem cneg (a : Int) (ha : zl a ≤ 1099511627776) : Fn Tryz.prog En 66 [zC a] (zC (-a)) := by
 have := zneg En (decide (a < 0)) (digs a.natAbs) ha
 rwa [zv_C] at this
theorem cmul (a b : Int) (ha : zl a ≤ 1073741824) (hb : zl b ≤ 1073741824) : Fn Tryz.prog En 65 [zC a, zC b] (zC (a * b)) := by
 have := zmul En (decide (a < 0)) _ (decide (b < 0)) _ (aZg a.natAbs) (aZg b.natAbs) ha hb
 rwa [zv_C, zv_C] at this
theorem cquo (a b : Int) (ha : zl a ≤ 536870912) (hb : zl b ≤ 536870912) (h : b ≠ 0) : Fn Tryz.prog En 63 [zC a, zC b] (zC (a / b)) := by
 have := zquo En (decide (a < 0)) _ (decide (b < 0)) _ ha hb (aZg a.natAbs) (aZg b.natAbs) (by rw [zv_C]; exact h)
 rwa [zv_C, zv_C] at this
theorem ccmp (a b : Int) (ha : zl a ≤ 1073741824) (hb : zl b ≤ 1073741824) : Fn Tryz.prog En 107 [zC a, zC b] (ex (.int .i64 (cmpZ a b))) := by
 have := zcmp En (decide (a < 0)) _ (decide (b < 0)) _ (aZg a.natAbs) (aZg b.natAbs) (Nat.le_trans ha oM) (Nat.le_trans hb oM)
 rwa [zv_C, zv_C] at this
theorem cgcdz (a b : Int) (ha : zl a ≤ 536870912) (hb : zl b ≤ 536870912) : Fn Tryz.prog En 102 [zC a, zC b] (zC (Nat.gcd a.natAbs b.natAbs : Nat)) := by
 have := zgcd En (decide (a < 0)) _ (decide (b < 0)) _ (aZg a.natAbs) (aZg b.natAbs) ha hb
 rwa [zv_C, zv_C] at this
theorem iZV (n d : Int) : Rat.divInt (-n) (-d) = Rat.divInt n d := Rat.neg_divInt_neg n d
theorem qnew (s : Bool) (l : List Nat) (s' : Bool) (l' : List Nat) (hl : Lm l) (hl' : Lm l') (hlen : l.length ≤ 536870912) (hlen' : l'.length ≤ 536870912) (hd : zv s' l' ≠ 0) :
  Fn Tryz.prog En 44 [zR s l, zR s' l'] (tupP [qC (Rat.divInt (zv s l) (zv s' l')), ex (.bool true)]) := by
 have C1 := kZY En s' l' oM
 have h0 : sg3 (zv s' l') ≠ 0 := pZT hd
 have z1 := Nat.le_trans (gZu s hl) hlen
 have z2 := Nat.le_trans (gZu s' hl') hlen'
 by_cases hn : zv s' l' < 0
 ·have hs : sg3 (zv s' l') < 0 := by unfold sg3; rw [if_neg hd, if_pos hn]; decide
  rw [← iZV]
  have C2 := zneg En s l oM
  have C3 := zneg En s' l' oM
  have hd' : -(zv s' l') ≠ 0 := oM
  rw [← hZi] at z1 z2
  generalize -(zv s l) = a at *
  generalize hb : -(zv s' l') = b at *
  have hbp : ¬ b < 0 := oM
  have hg0 := gd_ne (n := a) hd'
  have e : gd a b = ((Nat.gcd a.natAbs b.natAbs : Nat) : Int) := by unfold gd; rw [if_neg hbp]
  have hgl : zl (gd a b) ≤ 536870912 := Nat.le_trans (dZ8 (Nat.le_of_dvd (Int.natAbs_pos.2 hd') (Int.natAbs_dvd_natAbs.2 (kZd _ _).2))) z2
  have C4 := cgcdz En a b z1 z2
  rw [← e] at C4
  have C5 := cquo En a (gd a b) z1 hgl hg0
  have C6 := cquo En b (gd a b) z2 hgl hg0
  rw [lZU _ hd']
  refine aZb Tryz.func44 rfl Tryz.ntmps44 rfl ?_
  intro w0 h0
  refine js<|jr<|jB jj jj jj<|jB jj jj jj<|jA jj jj jj<|ja jj<|jn<|js<|js<|jr<|jL jj jj jj<|jS (aZa C1 ⟨jj, trivial⟩)<|jS (bEf jj jj)<|jn<|jf jj<|jp<|js<|js<|jr<|jL jj jj jj<|jS (aZa C1 ⟨jj, trivial⟩)<|jS (bLt jj jj)<|jn<|jt jj<|jr<|jL jj jj jj<|jS (aZa C2 ⟨jj, trivial⟩)<|jL jj jj jj<|jS (aZa C3 ⟨jj, trivial⟩)<|jP jj jj jj jj<|jP jj jj jj jj<|jn<|js<|jr<|jL jj jj jj<|jL jj jj jj<|jS (aZa C4 ⟨jj, jj, trivial⟩)<|jA jj jj jj<|jP jj jj jj jj<|jn<|js<|jr<|jL jj jj jj<|jL jj jj jj<|jS (aZa C5 ⟨jj, jj, trivial⟩)<|jL jj jj jj<|jL jj jj jj<|jS (aZa C6 ⟨jj, jj, trivial⟩)<|jS (aZj (ps := [(_, _), (_, _)]) ⟨jj, Part.c jj, jj, Part.c jj, trivial⟩ jj)<|jP jj jj jj jj<|ja jj<|jn ?_
  refine ji ?_
  exact rtD rfl jj jj jj
 ·have hs : ¬ sg3 (zv s' l') < 0 := by unfold sg3; rw [if_neg hd, if_neg hn]; decide
  have e : gd (zv s l) (zv s' l') = ((Nat.gcd (zv s l).natAbs (zv s' l').natAbs : Nat) : Int) := by unfold gd; rw [if_neg hn]
  have hg0 := gd_ne (n := zv s l) hd
  have hgl : zl (gd (zv s l) (zv s' l')) ≤ 536870912 := Nat.le_trans (dZ8 (Nat.le_of_dvd (Int.natAbs_pos.2 hd) (Int.natAbs_dvd_natAbs.2 (kZd _ _).2))) z2
  have C4 := zgcd En s l s' l' hl hl' hlen hlen'
  rw [← e] at C4
  have C5 := zquo En s l (decide (gd (zv s l) (zv s' l') < 0)) (digs (gd (zv s l) (zv s' l')).natAbs) hlen hgl hl (aZg _) (by rw [zv_C]; exact hg0)
  have C6 := zquo En s' l' (decide (gd (zv s l) (zv s' l') < 0)) (digs (gd (zv s l) (zv s' l')).natAbs) hlen' hgl hl' (aZg _) (by rw [zv_C]; exact hg0)
  rw [zv_C] at C5 C6
  rw [lZU _ hd]
  refine aZb Tryz.func44 rfl Tryz.ntmps44 rfl ?_
  intro w0 h0
  refine js<|jr<|jB jj jj jj<|jB jj jj jj<|jA jj jj jj<|ja jj<|jn<|js<|js<|jr<|jL jj jj jj<|jS (aZa C1 ⟨jj, trivial⟩)<|jS (bEf jj jj)<|jn<|jf jj<|jp<|js<|js<|jr<|jL jj jj jj<|jS (aZa C1 ⟨jj, trivial⟩)<|jS (bLf jj jj)<|jn<|jf jj<|jp<|js<|jr<|jL jj jj jj<|jL jj jj jj<|jS (aZa C4 ⟨jj, jj, trivial⟩)<|jA jj jj jj<|jP jj jj jj jj<|jn<|js<|jr<|jL jj jj jj<|jL jj jj jj<|jS (aZa C5 ⟨jj, jj, trivial⟩)<|jL jj jj jj<|jL jj jj jj<|jS (aZa C6 ⟨jj, jj, trivial⟩)<|jS (aZj (ps := [(_, _), (_, _)]) ⟨jj, Part.c jj, jj, Part.c jj, trivial⟩ jj)<|jP jj jj jj jj<|ja jj<|jn ?_
  refine ji ?_
  exact rtD rfl jj jj jj
theorem knew (a b : Int) (ha : zl a ≤ 536870912) (hb : zl b ≤ 536870912) (h : b ≠ 0) : Fn Tryz.prog En 44 [zC a, zC b] (tupP [qC (Rat.divInt a b), ex (.bool true)]) := by
 have := qnew En (decide (a < 0)) _ (decide (b < 0)) _ (aZg a.natAbs) (aZg b.natAbs) ha hb (by rw [zv_C]; exact h)
 rwa [zv_C, zv_C] at this
theorem qC_int (a : Int) : qC (a : Rat) = aggP [ex (.bool (decide (a < 0))), mag (digs a.natAbs), ex (.bool (decide ((1 : Int) < 0))), mag (digs (1 : Int).natAbs)] := by
 unfold qC qP RQ.cells RQ.of
 rw [Rat.num_intCast, Rat.den_intCast]
 rfl
theorem qwhole (a : Int) (ha : zl a ≤ 1099511627776) : Fn Tryz.prog En 193 [zC a] (qC (a : Rat)) := by
 have C1 := znorm En (decide (a < 0)) (digs a.natAbs) ha
 rw [zv_C] at C1
 have C2 := cZ5 En 1 oM oM
 rw [qC_int]
 refine aZb Tryz.func193 rfl Tryz.ntmps193 rfl ?_
 intro w0 h0
 refine js<|jr<|jB jj jj jj<|jA jj jj jj<|jn<|js<|jr<|jL jj jj jj<|jS (aZa C1 ⟨jj, trivial⟩)<|jS (aZa C2 ⟨jj, trivial⟩)<|jS (aZj (ps := [(_, _), (_, _)]) ⟨jj, Part.c jj, jj, Part.c jj, trivial⟩ jj)<|jP jj jj jj jj<|jn<|ji ?_
 exact rtC rfl jj jj
theorem qsmall (a : Int) (h1 : -9223372036854775808 ≤ a) (h2 : a ≤ 9223372036854775807) : Fn Tryz.prog En 179 [ex (.int .i64 a)] (qC (a : Rat)) := by
 have C1 := cZ5 En a h1 h2
 have C2 := qwhole En a (Nat.le_trans (bZa oM oM) oM)
 refine aZb Tryz.func179 rfl Tryz.ntmps179 rfl ?_
 intro w0 h0
 refine js<|jr<|jA jj jj jj<|jn<|js<|jr<|jm jj<|jS (aZa C1 tA)<|jS (aZa C2 tA)<|jP jj jj jj jj<|jn<|ji ?_
 exact rtC rfl jj jj
theorem dZy (p : RQ) (hp : p.okR) : Fn Tryz.prog En 159 [qP p] (qC p.v) := by
 have hll := hp.ll
 have hml := hp.ml
 by_cases hz : zv p.t p.m = 0
 ·have e : p.v = ((0 : Int) : Rat) := by unfold RQ.v; rw [hz, Rat.divInt_zero]; rfl
  rw [e]
  have C1 := kZY En p.t p.m oM
  have h0 : sg3 (zv p.t p.m) = 0 := by rw [hz]; rfl
  have C2 := qsmall En 0 oM oM
  have C3 : Fn Tryz.prog En 44 [zR p.s p.l, zR p.t p.m] (tupP [aggP [ex (.bool false), ex (.slice none 0 0), ex (.bool false), ex (.slice none 0 0)], ex (.bool false)]) := by
   refine aZb Tryz.func44 rfl Tryz.ntmps44 rfl ?_
   intro w0 h0
   refine js<|jr<|jB jj jj jj<|jB jj jj jj<|jA jj jj jj<|ja jj<|jn<|js<|js<|jr<|jL jj jj jj<|jS (aZa C1 ⟨jj, trivial⟩)<|jS (bEt jj jj)<|jn<|jt jj<|js<|jr<|jS (aZj (ps := []) trivial jj)<|jP jj jj jj jj<|ja jj<|jn<|ji ?_
   exact rtD rfl jj jj jj
  refine aZb Tryz.func159 rfl Tryz.ntmps159 rfl ?_
  intro w0 h0
  refine js<|jr<|jB jj jj jj<|jA jj jj jj<|jn<|js<|jr<|jF jj jj<|jL jj jj jj<|jF jj jj<|jL jj jj jj<|jS (aZa C3 ⟨jj, jj, trivial⟩)<|jm jj<|jx' jj jj<|jx' jj jj<|jA jj jj jj<|jP jj jj jj jj<|ja jj<|jn<|js<|js<|jr<|jm jj<|jS (bNo jj)<|jn<|jt jj<|js<|jr<|jS (aZa C2 ⟨jj, trivial⟩)<|jP jj jj jj jj<|jn<|ji ?_
  exact rtC rfl jj jj
 ·have C2 := qnew En p.s p.l p.t p.m hp.l hp.m oM oM hz
  refine aZb Tryz.func159 rfl Tryz.ntmps159 rfl ?_
  intro w0 h0
  refine js<|jr<|jB jj jj jj<|jA jj jj jj<|jn<|js<|jr<|jF jj jj<|jL jj jj jj<|jF jj jj<|jL jj jj jj<|jS (aZa C2 ⟨jj, jj, trivial⟩)<|jm jj<|jx' jj jj<|jx' jj jj<|jA jj jj jj<|jP jj jj jj jj<|ja jj<|jn<|js<|js<|jr<|jm jj<|jS (bNo jj)<|jn<|jf jj<|jp<|js<|jr<|jL jj jj jj<|jP jj jj jj jj<|jn<|ji ?_
  exact rtC rfl jj jj
theorem qadd (p q : RQ) (hp : p.okR) (hq : q.okR) : Fn Tryz.prog En 157 [qP p, qP q] (qC (p.v + q.v)) := by
 have hr := RQ.szR hp
 have hs := RQ.szR hq
 have K1 := dZy En p hp
 have K2 := dZy En q hq
 generalize p.v = r at *
 generalize q.v = s at *
 obtain ⟨r1, r2⟩ := hr
 obtain ⟨s1, s2⟩ := hs
 have A1 := bZh r.num s.den
 have A2 := bZh s.num r.den
 have A3 := bZh r.den s.den
 have A4 := eZ8 (r.num * s.den) (s.num * r.den)
 have m1 := cmul En r.num s.den oM oM
 have m2 := cmul En s.num r.den oM oM
 have m3 := cadd En (r.num * s.den) (s.num * r.den) (Nat.le_trans A1 oM) (Nat.le_trans A2 oM)
 have m4 := cmul En r.den s.den oM oM
 have F := knew En (r.num * s.den + s.num * r.den) (r.den * s.den) oM oM (nZg r s)
 rw [← iZ6] at F
 refine aZb Tryz.func157 rfl Tryz.ntmps157 rfl ?_
 intro w0 h0
 refine js<|jr<|jB jj jj jj<|jB jj jj jj<|jA jj jj jj<|jn<|js<|jr<|jL jj jj jj<|jS (aZa K1 ⟨jj, trivial⟩)<|jL jj jj jj<|jS (aZa K2 ⟨jj, trivial⟩)<|jA jj jj jj<|jA jj jj jj<|jP jj jj jj jj<|jP jj jj jj jj<|jn<|js<|jr<|jF jj jj<|jL jj jj jj<|jF jj jj<|jL jj jj jj<|jS (aZa m1 ⟨jj, jj, trivial⟩)<|jF jj jj<|jL jj jj jj<|jF jj jj<|jL jj jj jj<|jS (aZa m2 ⟨jj, jj, trivial⟩)<|jS (aZa m3 ⟨jj, jj, trivial⟩)<|jF jj jj<|jL jj jj jj<|jF jj jj<|jL jj jj jj<|jS (aZa m4 ⟨jj, jj, trivial⟩)<|jS (aZa F ⟨jj, jj, trivial⟩)<|jm jj<|jx' jj jj<|jx' jj jj<|jA jj jj jj<|jP jj jj jj jj<|ja jj<|jn ?_
 refine js<|jr<|jL jj jj jj<|jP jj jj jj jj<|jn<|ji ?_
 exact rtC rfl jj jj
end
end
section
open Go.RowKit Limb
instance cbody16 : CBody Tryz.prog 16 := ⟨⟨_, Tryz.func16, rfl, by rfl⟩⟩
section
variable (En : Ev)
theorem krsub (a b : Rat) (ha : Sz 1073741824 a) (hb : Sz 1073741824 b) : Fn Tryz.prog En 135 [qC a, qC b] (qC (a - b)) := by
 have := rsub En (RQ.of a) (RQ.of b) (RQ.of_ok ha) (RQ.of_ok hb)
 rwa [RQ.of_v, RQ.of_v] at this
theorem mZD (a b : Rat) (ha : Sz 1073741824 a) (hb : Sz 1073741824 b) : Fn Tryz.prog En 28 [qC a, qC b] (qC (a * b)) := by
 have := rmul En (RQ.of a) (RQ.of b) (RQ.of_ok ha) (RQ.of_ok hb)
 rwa [RQ.of_v, RQ.of_v] at this
theorem krquo (a b : Rat) (ha : Sz 1073741824 a) (hb : Sz 1073741824 b) (h : b ≠ 0) : Fn Tryz.prog En 77 [qC a, qC b] (tupP [qC (a / b), ex (.bool true)]) := by
 have := rquo En (RQ.of a) (RQ.of b) (RQ.of_ok ha) (RQ.of_ok hb) (by rw [RQ.of_v]; exact h)
 rwa [RQ.of_v, RQ.of_v] at this
theorem krcmp (a b : Rat) (ha : Sz 1073741824 a) (hb : Sz 1073741824 b) : Fn Tryz.prog En 12 [qC a, qC b] (ex (.int .i64 (cmpQ a b))) := by
 have := rcmp En (RQ.of a) (RQ.of b) (RQ.of_ok ha) (RQ.of_ok hb)
 rwa [RQ.of_v, RQ.of_v] at this
theorem krsign (a : Rat) (ha : Sz 1073741824 a) : Fn Tryz.prog En 13 [qC a] (ex (.int .i64 (sg3 a.num))) := by
 have := rsign En (RQ.of a) (RQ.of_ok ha)
 unfold RQ.of at this
 simp only at this
 rw [zv_C, zv_C] at this
 have e : sg3 (a.den : Int) = 1 := by have := a.den_pos; unfold sg3; rw [if_neg oM, if_neg oM]
 rwa [e, Int.mul_one] at this
theorem krpow (a : Rat) (n : Nat) (ha : Sz 1073741824 a) (hn : n ≤ 64) : Fn Tryz.prog En 26 [qC a, ex (.int .i64 (n : Int))] (tupP [qC (a ^ n), ex (.bool true)]) := by
 have := rpow En (RQ.of a) n (RQ.of_ok ha) hn
 rwa [RQ.of_v] at this
theorem mZC (a : Rat) (n : Nat) (ha : Sz 1073741824 a) (hn : n ≤ 64) (hn0 : 0 < n) (h : a ≠ 0) : Fn Tryz.prog En 26 [qC a, ex (.int .i64 (-(n : Int)))] (tupP [qC (a⁻¹ ^ n), ex (.bool true)]) := by
 have := oZm En (RQ.of a) n (RQ.of_ok ha) hn hn0 (by rw [RQ.of_v]; exact h)
 rwa [RQ.of_v] at this
end
theorem lZz {r : Rat} (h : r.num.natAbs < 18446744073709551616 ∧ r.den < 18446744073709551616) : Sz 2 r := ⟨bZa oM oM, bZa oM oM⟩
theorem sz_z {z : Int} (h1 : -9223372036854775808 ≤ z) (h2 : z ≤ 9223372036854775807) : Sz 2 (z : Rat) := szq_int (bZa oM oM) oM
def rows (f : Nat → List Pd) (n : Nat) : List Pd := (List.range n).flatMap f
theorem dZT (f : Nat → List Pd) (n : Nat) : rows f (n + 1) = rows f n ++ f n := by unfold rows; rw [List.range_succ, List.flatMap_append]; simp
theorem dZx {f : Nat → List Pd} {k : Nat} (hf : ∀ i, (f i).length = k) : ∀ n, (rows f n).length = n * k
 | 0 => by simp [rows]
 | n + 1 => by rw [dZT, List.length_append, dZx hf n, hf, Nat.succ_mul]
theorem bZt {f : Nat → List Pd} {k : Nat} (hf : ∀ i, (f i).length = k) : ∀ {n i : Nat}, i < n → ((rows f n).drop (i * k)).take k = f i
 | 0, i, h => oM
 | n + 1, i, h => by
  rw [dZT]
  by_cases e : i = n
  ·subst e
   rw [← dZx hf i, List.drop_left, ← hf i, List.take_length]
  ·have hlt : i < n := oM
   have hle : i * k + k ≤ n * k := by rw [← Nat.succ_mul]; exact Nat.mul_le_mul_right _ hlt
   rw [List.drop_append_of_le_length (by rw [dZx hf]; omega), List.take_append_of_le_length (by rw [List.length_drop, dZx hf]; omega)]
   exact bZt hf hlt
section
variable (En : Ev)
end
end
end Go.Proofs.YtfmjdlogjmofbaaGreatDoor
namespace Go.Proofs.YtfmjdlogjmofbaaGreatDoor.Num
def NoDiv (n k : Nat) : Prop := ∀ d, 2 ≤ d → d < k → ¬ d ∣ n
def gZi : Nat → Nat → Nat → Nat
 | 0, _, n => n
 | f + 1, d, n => if n % d = 0 then d else gZi f (d + 1) n
def lf (n : Nat) : Nat := gZi n 2 n
theorem fZx : ∀ (f d n : Nat), 2 ≤ d → d ≤ n → n < d + f → NoDiv n d → 2 ≤ gZi f d n ∧ gZi f d n ∣ n ∧ NoDiv n (gZi f d n)
 | 0, d, n, h1, h2, h3, h4 => oM
 | f + 1, d, n, h1, h2, h3, h4 => by
  unfold gZi
  by_cases h : n % d = 0
  ·rw [if_pos h]; exact ⟨h1, Nat.dvd_of_mod_eq_zero h, h4⟩
  ·rw [if_neg h]
   have hd : ¬ d ∣ n := fun hx => h (Nat.mod_eq_zero_of_dvd hx)
   have hne : d ≠ n := fun hx => hd (hx ▸ Nat.dvd_refl d)
   refine fZx f (d + 1) n oM oM oM ?_
   intro x hx1 hx2
   by_cases hxd : x = d
   ·subst hxd; exact hd
   ·exact h4 x hx1 oM
theorem aZU (n : Nat) (h : 2 ≤ n) : 2 ≤ lf n ∧ lf n ∣ n ∧ NoDiv n (lf n) :=
 fZx n 2 n (Nat.le_refl _) h oM (fun d h1 h2 => oM)
theorem lf_unique (n p : Nat) (h : 2 ≤ n) (h1 : 2 ≤ p) (h2 : p ∣ n) (h3 : NoDiv n p) : lf n = p := by
 obtain ⟨a, b, c⟩ := aZU n h
 rcases Nat.lt_trichotomy (lf n) p with hlt | heq | hgt
 ·exact absurd b (h3 _ a hlt)
 ·exact heq
 ·exact absurd h2 (c p h1 hgt)
theorem lf_le (n : Nat) (h : 2 ≤ n) : lf n ≤ n := Nat.le_of_dvd oM (aZU n h).2.1
theorem lf_of_sq (n k : Nat) (h : 2 ≤ n) (h1 : NoDiv n k) (h2 : n < k * k) : lf n = n := by
 obtain ⟨a, ⟨c, hc⟩, b⟩ := aZU n h
 by_cases hk : lf n < k
 ·exact absurd ⟨c, hc⟩ (h1 _ a hk)
 ·have hkl : k ≤ lf n := oM
  have hck : c < k := by
   rcases Nat.lt_or_ge c k with h' | h'
   ·exact h'
   ·have := Nat.mul_le_mul hkl h'
    omega
  have hc1 : ¬ 2 ≤ c := fun h2c => h1 c h2c hck ⟨lf n, by rw [Nat.mul_comm]; exact hc⟩
  have : c = 1 := by
   rcases Nat.eq_zero_or_pos c with h0 | h0
   ·rw [h0] at hc; omega
   ·omega
  rw [this] at hc; omega
def isP (n : Nat) : Bool := decide (2 ≤ n) && decide (n ≤ 2147483647) && (lf n == n)
def off : Nat → Nat
 | 0 => 7 | 1 => 11 | 2 => 13 | 3 => 17 | 4 => 19 | 5 => 23 | 6 => 29 | 7 => 31 | _ => 37
theorem mZj {n a b : Nat} (h : NoDiv n a) (h2 : ¬ 2 ∣ n) (h3 : ¬ 3 ∣ n) (h5 : ¬ 5 ∣ n) (ha : ¬ a ∣ n)
  (hg : ∀ d, a < d → d < b → d % 2 = 0 ∨ d % 3 = 0 ∨ d % 5 = 0) : NoDiv n b := by
 intro d hd1 hd2 hdn
 rcases Nat.lt_trichotomy d a with hlt | heq | hgt
 ·exact h d hd1 hlt hdn
 ·exact ha (heq ▸ hdn)
 ·rcases hg d hgt hd2 with h' | h' | h'
  ·exact h2 (Nat.dvd_trans (Nat.dvd_of_mod_eq_zero h') hdn)
  ·exact h3 (Nat.dvd_trans (Nat.dvd_of_mod_eq_zero h') hdn)
  ·exact h5 (Nat.dvd_trans (Nat.dvd_of_mod_eq_zero h') hdn)
theorem wheel_step {n b k : Nat} (hk : k < 8) (h : NoDiv n (30 * b + off k)) (h2 : ¬ 2 ∣ n) (h3 : ¬ 3 ∣ n) (h5 : ¬ 5 ∣ n) (ha : ¬ (30 * b + off k) ∣ n) :
  NoDiv n (30 * b + off (k + 1)) := by
 refine mZj h h2 h3 h5 ha ?_
 intro d hd1 hd2
 match k, hk with
 | 0, _ => simp only [off] at hd1 hd2; omega
 | 1, _ => simp only [off] at hd1 hd2; omega
 | 2, _ => simp only [off] at hd1 hd2; omega
 | 3, _ => simp only [off] at hd1 hd2; omega
 | 4, _ => simp only [off] at hd1 hd2; omega
 | 5, _ =>
  simp only [off] at hd1 hd2
  have : d = 30 * b + 24 ∨ d = 30 * b + 25 ∨ d = 30 * b + 26 ∨ d = 30 * b + 27 ∨ d = 30 * b + 28 := oM
  clear hd1 hd2
  rcases this with rfl | rfl | rfl | rfl | rfl <;> omega
 | 6, _ => simp only [off] at hd1 hd2; omega
 | 7, _ =>
  simp only [off] at hd1 hd2
  have : d = 30 * b + 32 ∨ d = 30 * b + 33 ∨ d = 30 * b + 34 ∨ d = 30 * b + 35 ∨ d = 30 * b + 36 := oM
  clear hd1 hd2
  rcases this with rfl | rfl | rfl | rfl | rfl <;> omega
theorem off_bd (k : Nat) : 7 ≤ off k ∧ off k ≤ 37 := by
 unfold off; split <;> omega
theorem off_bd7 (k : Nat) (h : k < 8) : off k ≤ 31 := by
 match k, h with
 | 0, _ | 1, _ | 2, _ | 3, _ | 4, _ | 5, _ | 6, _ | 7, _ => simp [off]
theorem wheel_start {n : Nat} (h2 : ¬ 2 ∣ n) (h3 : ¬ 3 ∣ n) (h5 : ¬ 5 ∣ n) : NoDiv n 7 := by
 intro d hd1 hd2 hd
 have : d = 2 ∨ d = 3 ∨ d = 4 ∨ d = 5 ∨ d = 6 := oM
 rcases this with rfl | rfl | rfl | rfl | rfl
 ·exact h2 hd
 ·exact h3 hd
 ·exact h2 (Nat.dvd_trans ⟨2, rfl⟩ hd)
 ·exact h5 hd
 ·exact h2 (Nat.dvd_trans ⟨3, rfl⟩ hd)
end Go.Proofs.YtfmjdlogjmofbaaGreatDoor.Num
namespace Go.Proofs.YtfmjdlogjmofbaaGreatDoor
section
open Go.RowKit Num
theorem gZB {a b : Bool} (h : a = b) : Ending.returned (.bool a) = .returned (.bool b) := by rw [h]
theorem cZV {k : IntKind} {a b : Int} (h : a = b) : Ending.returned (.int k a) = .returned (.int k b) := by rw [h]
theorem pZD (a b : Nat) : ((a : Int) == (b : Int)) = decide (a = b) := by
 rw [Bool.eq_iff_iff, beq_iff_eq, decide_eq_true_eq]; omega
def offsV : Array Value := #[.int .i64 7, .int .i64 11, .int .i64 13, .int .i64 17, .int .i64 19, .int .i64 23, .int .i64 29, .int .i64 31]
def Tab (w : World) : Prop := ∃ t fr, w.heap[1]? = some (.cells offsV t fr)
def three : Nat → Nat | 0 => 2 | 1 => 3 | _ => 5
theorem idx3 (k : Nat) (h : k < 3) (w : World) : (Instr.index 206 (.agg #[.int .i64 2, .int .i64 3, .int .i64 5]) (.int .i64 k)).run Tryz.prog w = .ok (.int .i64 (three k : Nat)) w := by
 obtain rfl | rfl | rfl : k = 0 ∨ k = 1 ∨ k = 2 := oM
 all_goals kernel_rfl
theorem idx8 (k : Nat) (h : k < 8) (w : World) : (Instr.index 207 (.agg offsV) (.int .i64 k)).run Tryz.prog w = .ok (.int .i64 (off k : Nat)) w := by
 obtain rfl | rfl | rfl | rfl | rfl | rfl | rfl | rfl : k = 0 ∨ k = 1 ∨ k = 2 ∨ k = 3 ∨ k = 4 ∨ k = 5 ∨ k = 6 ∨ k = 7 := oM
 all_goals kernel_rfl
theorem cZM (k : Nat) (h : k < 3) : (k = 0 ∧ three k = 2) ∨ (k = 1 ∧ three k = 3) ∨ (k = 2 ∧ three k = 5) := by
 obtain rfl | rfl | rfl : k = 0 ∨ k = 1 ∨ k = 2 := oM
 all_goals simp [three]
def Past (n k : Nat) : Prop := (0 < k → ¬ 2 ∣ n) ∧ (1 < k → ¬ 3 ∣ n) ∧ (2 < k → ¬ 5 ∣ n)
theorem oZx {n k : Nat} (h2 : 2 ≤ n) (h : k < 3) (hp : Past n k) (hd : n % three k = 0) : lf n = three k := by
 obtain ⟨a, b, c⟩ := hp
 have hd' := Nat.dvd_of_mod_eq_zero hd
 refine lf_unique n _ h2 (by rcases cZM k h with h | h | h <;> omega) hd' ?_
 intro d hd1 hd2 hdn
 rcases cZM k h with ⟨rfl, e⟩ | ⟨rfl, e⟩ | ⟨rfl, e⟩
 ·omega
 ·have : d = 2 := oM
  subst this; exact a oM hdn
 ·have : d = 2 ∨ d = 3 ∨ d = 4 := oM
  rcases this with rfl | rfl | rfl
  ·exact a oM hdn
  ·exact b oM hdn
  ·exact a oM (Nat.dvd_trans ⟨2, rfl⟩ hdn)
theorem mZc {n k : Nat} (h : k < 3) (hp : Past n k) (hd : n % three k ≠ 0) : Past n (k + 1) := by
 obtain ⟨a, b, c⟩ := hp
 unfold Past
 rcases cZM k h with ⟨rfl, e⟩ | ⟨rfl, e⟩ | ⟨rfl, e⟩
 ·rw [e] at hd; exact ⟨fun _ hx => hd (Nat.mod_eq_zero_of_dvd hx), oM, oM⟩
 ·rw [e] at hd; exact ⟨fun _ => a oM, fun _ hx => hd (Nat.mod_eq_zero_of_dvd hx), oM⟩
 ·rw [e] at hd; exact ⟨fun _ => a oM, fun _ => b oM, fun _ hx => hd (Nat.mod_eq_zero_of_dvd hx)⟩
theorem sq_bd {a n : Nat} (h : a * a ≤ n) (hn : n ≤ 2147483647) : a ≤ 46340 := by
 rcases Nat.lt_or_ge 46340 a with h' | h'
 ·have := Nat.mul_le_mul h' h'
  omega
 ·exact h'
theorem gZq {d m : Nat} (h : d * d ≤ m) : (d : Int) * (d : Int) ≤ (m : Int) := by exact_mod_cast h
theorem fZC {d m : Nat} (h : (d : Int) * (d : Int) ≤ (m : Int)) : d * d ≤ m := by exact_mod_cast h
theorem gZp {d m : Nat} (h : (m : Int) < (d : Int) * (d : Int)) : m < d * d := by exact_mod_cast h
theorem fZB (d : Nat) : 0 ≤ (d : Int) * (d : Int) := by exact_mod_cast Nat.zero_le (d * d)
theorem le_sq (a : Nat) {n : Nat} (h : a * a ≤ n) : a ≤ n := by
 rcases Nat.eq_zero_or_pos a with h' | h'
 ·omega
 ·exact Nat.le_trans (Nat.le_mul_of_pos_left a h') h
set_option maxHeartbeats 400000 in
theorem hZQ (n : Nat) (w : World) (h1 : 2 ≤ n) (h2 : n ≤ 2147483647) (ht : Tab w) :
  Calls Tryz.prog 142 #[.int .i64 n] w fun e w' => e = .returned (.int .i64 (lf n)) ∧ w = w' := by
 go_enter Tryz.func142, Tryz.ntmps142
 go_wp2
 go_step3
 go_wp2
 go_loopg [2, 4, 11] 3 (fun g t u i wr => ∃ k : Nat, k + g = 3 ∧ i = .int .i64 k ∧ w = wr ∧ Past n k)
 case atStart => exact ⟨0, rfl, rfl, rfl, oM, oM, oM⟩
 case round =>
  obtain ⟨k, hk, rfl, rfl, HP⟩ := hrel
  cases gk with
  | succ g =>
   have hlt : (k : Int) < 3 := oM
   have hx := idx3 k oM w
   have h3 : 2 ≤ three k := by rcases cZM k oM with h | h | h <;> omega
   by_cases hd : n % three k = 0
   ·have hb : ((n : Int) % (three k : Int) == 0) = true := by rw [beq_iff_eq]; omega
    have HL := Lib.hid (oZx h1 oM HP hd)
    clear HP hd
    go_wp2
    rw [Exit.noGoto_ret]
    go_ret
    exact ⟨by rw [HL.out]; rfl, rfl⟩
   ·have hb : ((n : Int) % (three k : Int) == 0) = false := by rw [beq_eq_false_iff_ne]; omega
    have HL := Lib.hid (mZc oM HP hd)
    clear HP hd
    go_wp2
    go_roundg g
    case measure => omega
    case rel => exact ⟨k + 1, oM, by go_num, rfl, HL.out⟩
  | zero =>
   obtain rfl : k = 3 := oM
   have E2 := Lib.hid (HP.1 oM)
   have E3 := Lib.hid (HP.2.1 oM)
   have E5 := Lib.hid (HP.2.2 oM)
   obtain ⟨tt, fr, htab⟩ := ht
   clear HP
   go_wp2
   go_step3
   go_wp2
   go_loopg [5, 6] n (fun g s5 s6 wr => ∃ b : Nat, b + g = n ∧ s5 = .int .i64 n ∧ s6 = .int .i64 (30 * (b : Int)) ∧ w = wr ∧ Num.NoDiv n (30 * b + 7) ∧ (30 * b) * (30 * b) ≤ n)
   case atStart => exact ⟨0, oM, rfl, rfl, rfl, Num.wheel_start E2.out E3.out E5.out, oM⟩
   case round =>
    obtain ⟨b, hbg, rfl, rfl, rfl, HN, hsq⟩ := hrel
    obtain ⟨go, rfl⟩ : ∃ go : Nat, go = gk := ⟨_, rfl⟩
    have hb : 30 * b ≤ 46340 := sq_bd hsq h2
    have HS := Lib.hid hsq
    clear hsq
    go_wp2_with (refine wpList_load_row rfl _ _ rfl 1 rfl tt offsV fr _ htab Tryz.underlying207 rfl (by kernel_rfl) ?_)
    go_loopg [5, 24] 8 (fun g s5 s24 wr => ∃ k : Nat, k + g = 8 ∧ s5 = .int .i64 n ∧ s24 = .int .i64 k ∧ w = wr ∧ Num.NoDiv n (30 * b + off k) ∧ (30 * b) * (30 * b) ≤ n ∧ (k = 8 → (30 * (b + 1)) * (30 * (b + 1)) ≤ n))
    case atStart => exact ⟨0, oM, rfl, rfl, rfl, HN, HS.out, oM⟩
    case round =>
     obtain ⟨k, hk8, rfl, rfl, rfl, HK, hs1, hs2⟩ := hrel
     have HS1 := Lib.hid hs1
     have HS2 := Lib.hid hs2
     clear hs1 hs2
     cases gk with
     | zero =>
      obtain rfl : k = 8 := oM
      have hq := HS2.out rfl
      have hq1 := le_sq (30 * (b + 1)) hq
      have HQ := Lib.hid hq
      clear hq HS2
      go_wp2
      go_roundg (n - (b + 1))
      case measure => omega
      case rel => exact ⟨b + 1, oM, rfl, by go_num, rfl, HK, HQ.out⟩
     | succ g =>
      have hlt : (k : Int) < 8 := oM
      have hx := idx8 k oM w
      have ho := Num.off_bd k
      have ho7 := Num.off_bd7 k oM
      obtain ⟨d, hd⟩ : ∃ d : Nat, 30 * b + off k = d := ⟨_, rfl⟩
      have hdi : (30 * (b : Int) + (off k : Int)) = (d : Int) := oM
      have hdb : d ≤ 46371 := oM
      have hd7 : 7 ≤ d := oM
      rw [hd] at HK
      have HD := Lib.hid hd
      have hdd : d * d ≤ 2150269641 := Nat.mul_le_mul hdb hdb
      have hddi : (d : Int) * (d : Int) ≤ 2150269641 := by have := gZq hdd; omega
      have hddp : 0 ≤ (d : Int) * (d : Int) := fZB d
      clear hd hdd
      by_cases hsq : (n : Int) < (d : Int) * (d : Int)
      ·have HL := Lib.hid (Num.lf_of_sq n d h1 HK (gZp hsq))
       go_wp2
       rw [Exit.noGoto_ret]
       go_ret
       exact ⟨by rw [HL.out]; rfl, rfl⟩
      ·have hsq' : (d : Int) * (d : Int) ≤ (n : Int) := oM
       by_cases hdv : n % d = 0
       ·have hb : ((n : Int) % (d : Int) == 0) = true := by rw [beq_iff_eq]; omega
        have HL := Lib.hid (Num.lf_unique n d h1 oM (Nat.dvd_of_mod_eq_zero hdv) HK)
        clear hdv hsq
        go_wp2
        rw [Exit.noGoto_ret]
        go_ret
        exact ⟨by rw [HL.out]; rfl, rfl⟩
       ·have hb : ((n : Int) % (d : Int) == 0) = false := by rw [beq_eq_false_iff_ne]; omega
        have HL := Lib.hid (show Num.NoDiv n (30 * b + off (k + 1)) from Num.wheel_step oM (by rw [HD.out]; exact HK) E2.out E3.out E5.out (by rw [HD.out]; exact fun hx => hdv (Nat.mod_eq_zero_of_dvd hx)))
        clear hdv hsq
        go_wp2
        go_roundg g
        case measure => omega
        case rel => exact ⟨k + 1, oM, rfl, by go_num, rfl, HL.out, HS1.out, fun h => by
         obtain rfl : k = 7 := oM
         have e := HD.out
         simp only [off] at e
         have : 30 * (b + 1) ≤ d := oM
         exact Nat.le_trans (Nat.mul_le_mul this this) (fZC hsq')⟩
theorem iZJ {n : Nat} (h : 2147483647 < n) : isP n = false := by
 unfold isP; rw [decide_eq_false (p := n ≤ 2147483647) oM]; simp
theorem hZS {n : Nat} (h : n < 2) : isP n = false := by
 unfold isP; rw [decide_eq_false (p := 2 ≤ n) oM]; simp
theorem iZI {n : Nat} (h1 : 2 ≤ n) (h2 : n ≤ 2147483647) : isP n = decide (lf n = n) := by
 unfold isP; rw [decide_eq_true h1, decide_eq_true h2]; simp only [Bool.true_and]; rfl
set_option maxHeartbeats 400000 in
theorem is_any (n : Int) (w : World) (ht : Tab w) :
  Calls Tryz.prog 89 #[.int .i64 n] w fun e w' => e = .returned (.bool (isP n.toNat)) ∧ w = w' := by
 by_cases h1 : 2 ≤ n
 ·by_cases h2 : n ≤ 2147483647
  ·obtain ⟨m, rfl⟩ := Int.eq_ofNat_of_zero_le (show 0 ≤ n by omega)
   have HP := Lib.hid (iZI (n := m) oM oM)
   go_enter Tryz.func89, Tryz.ntmps89
   go_wp2_with (go_at_call 142; refine (hZQ m _ oM oM ht).mono ?_; rintro e w' ⟨rfl, rfl⟩)
   go_ret
   refine ⟨?_, rfl⟩
   rw [Int.toNat_natCast, HP.out]
   exact gZB (pZD _ _)
  ·have h2' : ¬ n ≤ 2147483647 := h2
   have HP := Lib.hid (iZJ (n := n.toNat) oM)
   go_enter Tryz.func89, Tryz.ntmps89
   go_wp2_with fail
   go_ret
   exact ⟨by rw [HP.out]; rfl, rfl⟩
 ·have HP := Lib.hid (hZS (n := n.toNat) oM)
  go_enter Tryz.func89, Tryz.ntmps89
  go_wp2_with fail
  go_ret
  exact ⟨by rw [HP.out]; rfl, rfl⟩
set_option maxHeartbeats 400000 in
theorem ris_any (n : Int) (w : World) :
  Calls Tryz.prog 175 #[.int .i64 n] w fun e w' => e = .returned (.bool (isP n.toNat)) ∧ w = w' := by
 by_cases h1 : 2 ≤ n
 ·by_cases h2 : n ≤ 2147483647
  ·obtain ⟨m, rfl⟩ := Int.eq_ofNat_of_zero_le (show 0 ≤ n by omega)
   have h1n : 2 ≤ m := oM
   have h2n : m ≤ 2147483647 := oM
   go_enter Tryz.func175, Tryz.ntmps175
   go_wp2
   go_loopg [2, 3] m (fun g s2 s3 wr => ∃ d : Nat, d + g = m + 2 ∧ 2 ≤ d ∧ (d - 1) * (d - 1) ≤ m ∧ s3 = .int .i64 d ∧ w = wr ∧ NoDiv m d)
   case atStart => exact ⟨2, oM, oM, oM, rfl, rfl, fun d h1 h2 => oM⟩
   case round =>
    obtain ⟨d, hdg, hd2, hs, rfl, rfl, HN⟩ := hrel
    have hdb : d ≤ 46341 := by have := sq_bd hs h2n; omega
    have hdd : d * d ≤ 2147488281 := Nat.mul_le_mul hdb hdb
    have hddi : (d : Int) * (d : Int) ≤ 2147488281 := by have := gZq hdd; omega
    have hddp : 0 ≤ (d : Int) * (d : Int) := fZB d
    clear hs hdd
    by_cases hsq : (d : Int) * (d : Int) ≤ (m : Int)
    ·have hsq' := fZC hsq
     have hdm := le_sq d hsq'
     have HSQ := Lib.hid hsq'
     clear hsq'
     by_cases hdv : m % d = 0
     ·have hb : ((m : Int) % (d : Int) == 0) = true := by rw [beq_iff_eq]; omega
      have HL := Lib.hid (lf_unique m d h1n hd2 (Nat.dvd_of_mod_eq_zero hdv) HN)
      have HNE : Hid (d ≠ m) := by
       show d ≠ m
       rintro rfl
       have := HSQ.out
       have := Nat.mul_le_mul_left d hd2
       omega
      have HP := Lib.hid (iZI h1n h2n)
      clear hdv
      go_wp2
      go_ret
      exact ⟨gZB (by rw [Int.toNat_natCast, HP.out, HL.out, decide_eq_false HNE.out]), rfl⟩
     ·have hb : ((m : Int) % (d : Int) == 0) = false := by rw [beq_eq_false_iff_ne]; omega
      have HL : Hid (NoDiv m (d + 1)) := by
       intro x hx1 hx2
       by_cases hxd : x = d
       ·subst hxd; exact fun h => hdv (Nat.mod_eq_zero_of_dvd h)
       ·exact HN x hx1 oM
      clear hdv
      go_wp2
      go_roundg (m + 2 - (d + 1))
      case measure => omega
      case rel => exact ⟨d + 1, oM, oM, HSQ.out, by go_num, rfl, HL.out⟩
    ·have HL := Lib.hid (lf_of_sq m d h1n HN (gZp oM))
     have HP := Lib.hid (iZI h1n h2n)
     go_wp2
     go_ret
     exact ⟨gZB (by (try rw [Int.toNat_natCast]); rw [HP.out, HL.out, decide_eq_true rfl]), rfl⟩
  ·have HP := Lib.hid (iZJ (n := n.toNat) oM)
   go_enter Tryz.func175, Tryz.ntmps175
   go_wp2_with fail
   go_ret
   exact ⟨by rw [HP.out]; rfl, rfl⟩
 ·have HP := Lib.hid (hZS (n := n.toNat) oM)
  go_enter Tryz.func175, Tryz.ntmps175
  go_wp2_with fail
  go_ret
  exact ⟨by rw [HP.out]; rfl, rfl⟩
def NextIs (n p : Int) (ok : Bool) : Prop :=
 (ok = true ∧ isP p.toNat = true ∧ n < p ∧ ∀ k : Int, n < k → k < p → isP k.toNat = false) ∨ (ok = false ∧ p = 0 ∧ ∀ k : Int, n < k → isP k.toNat = false)
theorem NextIs.unique {n p q : Int} {a b : Bool} (h1 : NextIs n p a) (h2 : NextIs n q b) : p = q ∧ a = b := by
 rcases h1 with ⟨rfl, i1, l1, m1⟩ | ⟨rfl, rfl, m1⟩ <;> rcases h2 with ⟨rfl, i2, l2, m2⟩ | ⟨rfl, rfl, m2⟩
 ·refine ⟨?_, rfl⟩
  rcases Int.lt_trichotomy p q with h | h | h
  ·rw [m2 p l1 h] at i1; cases i1
  ·exact h
  ·rw [m1 q l2 h] at i2; cases i2
 ·rw [m2 p l1] at i1; cases i1
 ·rw [m1 q l2] at i2; cases i2
 ·exact ⟨rfl, rfl⟩
def NoP (lo hi : Int) : Prop := ∀ k : Int, lo < k → k ≤ hi → isP k.toNat = false
theorem NoP.succ {lo hi : Int} (h : NoP lo hi) (hp : isP (hi + 1).toNat = false) : NoP lo (hi + 1) := fun k h1 h2 => by
 by_cases e : k = hi + 1
 ·rw [e]; exact hp
 ·exact h k h1 oM
theorem NoP.none {lo hi : Int} (h : NoP lo hi) (hb : 2147483647 ≤ hi) : NextIs lo 0 false := .inr ⟨rfl, rfl, fun k h1 => by
 by_cases e : k ≤ hi
 ·exact h k h1 e
 ·exact iZJ oM⟩
end
end Go.Proofs.YtfmjdlogjmofbaaGreatDoor

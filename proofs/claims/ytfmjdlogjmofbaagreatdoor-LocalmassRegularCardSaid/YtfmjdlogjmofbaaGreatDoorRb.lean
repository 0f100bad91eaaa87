/- Rational numbers of the program: lowest, Whole, Normalize, sum, product, Add, Sub, Mul, Quo, Neg, Sign, Pow, Cmp. -/
import Derived.Test.YtfmjdlogjmofbaaGreatDoorMem
import Derived.Test.YtfmjdlogjmofbaaGreatDoorIc
import Derived.Test.YtfmjdlogjmofbaaGreatDoorQv
import Derived.Test.YtfmjdlogjmofbaaGreatDoorW
set_option maxRecDepth 3000
namespace Go.Proofs.YtfmjdlogjmofbaaGreatDoor
section
open Go.RowKit Limb
instance crow_rat : CRow Tryz.prog 34 4 := ⟨⟨_, Tryz.underlying34, rfl, by kernel_rfl⟩⟩
instance cfield_rat0 : CField Tryz.prog 34 0 0 := ⟨⟨_, _, Tryz.underlying34, rfl, rfl, by kernel_rfl⟩⟩
instance cfield_rat1 : CField Tryz.prog 34 1 2 := ⟨⟨_, _, Tryz.underlying34, rfl, rfl, by kernel_rfl⟩⟩
instance qZL : CFieldT Tryz.prog 34 0 0 32 := ⟨⟨_, _, Tryz.underlying34, rfl, rfl, rfl⟩⟩
instance qZK : CFieldT Tryz.prog 34 1 2 32 := ⟨⟨_, _, Tryz.underlying34, rfl, rfl, rfl⟩⟩
theorem jZf : cZw Tryz.prog 34 [.bool false, .slice none 0 0, .bool false, .slice none 0 0] := ⟨by kernel_rfl, by simp [Value.oneCell']⟩
instance czero_rat : CZero Tryz.prog 34 [.bool false, .slice none 0 0, .bool false, .slice none 0 0] := ⟨jZf⟩
instance cstruct_rat : CStruct Tryz.prog 34 [(0, 2), (2, 2)] [.bool false, .slice none 0 0, .bool false, .slice none 0 0] := ⟨⟨jZf, _, Tryz.underlying34, fun _ => by kernel_rfl⟩⟩
instance crow_fr : CRow Tryz.prog 86 4 := ⟨⟨_, Tryz.underlying86, rfl, by kernel_rfl⟩⟩
instance cfield_fr0 : CField Tryz.prog 86 0 0 := ⟨⟨_, _, Tryz.underlying86, rfl, rfl, by kernel_rfl⟩⟩
instance cfield_fr1 : CField Tryz.prog 86 1 2 := ⟨⟨_, _, Tryz.underlying86, rfl, rfl, by kernel_rfl⟩⟩
instance cfieldt_fr0 : CFieldT Tryz.prog 86 0 0 32 := ⟨⟨_, _, Tryz.underlying86, rfl, rfl, rfl⟩⟩
instance cfieldt_fr1 : CFieldT Tryz.prog 86 1 2 32 := ⟨⟨_, _, Tryz.underlying86, rfl, rfl, rfl⟩⟩
instance czero_fr : CZero Tryz.prog 86 [.bool false, .slice none 0 0, .bool false, .slice none 0 0] := ⟨⟨by kernel_rfl, by simp [Value.oneCell']⟩⟩
instance cslice_rat : CSlice Tryz.prog 176 34 := ⟨Tryz.underlying176⟩
instance celem_rat : CElem Tryz.prog 176 34 4 := ⟨Tryz.underlying176, by kernel_rfl⟩
instance crowz_rat : CRowZ Tryz.prog 34 4 [.bool false, .slice none 0 0, .bool false, .slice none 0 0] 64 := ⟨by kernel_rfl, rfl, rfl⟩
instance cbody71 : CBody Tryz.prog 71 := ⟨⟨_, Tryz.func71, rfl, by rfl⟩⟩
instance cbody72 : CBody Tryz.prog 72 := ⟨⟨_, Tryz.func72, rfl, by rfl⟩⟩
instance cbody93 : CBody Tryz.prog 93 := ⟨⟨_, Tryz.func93, rfl, by rfl⟩⟩
instance cbody37 : CBody Tryz.prog 37 := ⟨⟨_, Tryz.func37, rfl, by rfl⟩⟩
instance cbody173 : CBody Tryz.prog 173 := ⟨⟨_, Tryz.func173, rfl, by rfl⟩⟩
instance cbody74 : CBody Tryz.prog 74 := ⟨⟨_, Tryz.func74, rfl, by rfl⟩⟩
instance cbody135 : CBody Tryz.prog 135 := ⟨⟨_, Tryz.func135, rfl, by rfl⟩⟩
instance cbody28 : CBody Tryz.prog 28 := ⟨⟨_, Tryz.func28, rfl, by rfl⟩⟩
instance cbody77 : CBody Tryz.prog 77 := ⟨⟨_, Tryz.func77, rfl, by rfl⟩⟩
instance cbody174 : CBody Tryz.prog 174 := ⟨⟨_, Tryz.func174, rfl, by rfl⟩⟩
instance cbody13 : CBody Tryz.prog 13 := ⟨⟨_, Tryz.func13, rfl, by rfl⟩⟩
instance cbody26 : CBody Tryz.prog 26 := ⟨⟨_, Tryz.func26, rfl, by rfl⟩⟩
instance cbody12 : CBody Tryz.prog 12 := ⟨⟨_, Tryz.func12, rfl, by rfl⟩⟩
instance cbody67 : CBody Tryz.prog 67 := ⟨⟨_, Tryz.func67, rfl, by rfl⟩⟩
instance cbody36 : CBody Tryz.prog 36 := ⟨⟨_, Tryz.func36, rfl, by rfl⟩⟩
section
variable (En : Ev)
theorem hZR (n : Int) (h1 : -9223372036854775808 ≤ n) (h2 : n ≤ 9223372036854775807) : Fn Tryz.prog En 73 [ex (.int .i64 n)] (zC n) := qZy En n h1 h2
theorem ksign (a : Int) (ha : zl a ≤ 274877906944) : Fn Tryz.prog En 40 [zC a] (ex (.int .i64 (sg3 a))) := by
 have := iZH En (decide (a < 0)) _ (aZg a.natAbs) (Nat.le_trans ha oM)
 rwa [zv_C] at this
theorem kneg (a : Int) (ha : zl a ≤ 274877906944) : Fn Tryz.prog En 131 [zC a] (zC (-a)) := by
 have := ineg En (decide (a < 0)) _ (aZg a.natAbs) ha
 rwa [zv_C] at this
theorem kmul (a b : Int) (ha : zl a ≤ 274877906944) (hb : zl b ≤ 274877906944) : Fn Tryz.prog En 39 [zC a, zC b] (zC (a * b)) := by
 have := imul En (decide (a < 0)) _ (decide (b < 0)) _ (aZg a.natAbs) (aZg b.natAbs) ha hb
 rwa [zv_C, zv_C] at this
theorem kadd (a b : Int) (ha : zl a ≤ 274877906944) (hb : zl b ≤ 274877906944) : Fn Tryz.prog En 192 [zC a, zC b] (zC (a + b)) := by
 have := iadd En (decide (a < 0)) _ (decide (b < 0)) _ (aZg a.natAbs) (aZg b.natAbs) ha hb
 rwa [zv_C, zv_C] at this
theorem kcmp (a b : Int) (ha : zl a ≤ 274877906944) (hb : zl b ≤ 274877906944) : Fn Tryz.prog En 38 [zC a, zC b] (ex (.int .i64 (cmpZ a b))) := by
 have := icmp En (decide (a < 0)) _ (decide (b < 0)) _ (aZg a.natAbs) (aZg b.natAbs) ha hb
 rwa [zv_C, zv_C] at this
theorem kpow (a : Int) (n : Nat) (ha : zl a ≤ 1073741824) (hn : n ≤ 64) : Fn Tryz.prog En 70 [zC a, ex (.int .i64 (n : Int))] (tupP [zC (a ^ n), ex (.bool true)]) := by
 have := ipow En (decide (a < 0)) _ n (aZg a.natAbs) ha hn
 rwa [zv_C] at this
theorem lZQ (s : Bool) (l : List Nat) (s' : Bool) (l' : List Nat) (hl : Lm l) (hl' : Lm l') (hlen : l.length ≤ 274877906944) (hlen' : l'.length ≤ 274877906944) (hd : zv s' l' ≠ 0) :
  Fn Tryz.prog En 71 [zR s l, zR s' l'] (qC (Rat.divInt (zv s l) (zv s' l'))) := by
 rw [lZU _ hd]
 have hg0 := gd_ne (n := zv s l) hd
 have hgl : zl (gd (zv s l) (zv s' l')) ≤ 274877906944 := by
  have h1 : (gd (zv s l) (zv s' l')).natAbs ≤ (zv s' l').natAbs := Nat.le_of_dvd (Int.natAbs_pos.2 hd) (Int.natAbs_dvd_natAbs.2 (kZd _ _).2)
  exact Nat.le_trans (dZ8 h1) (Nat.le_trans (gZu _ hl') hlen')
 have C1 := igcd En s l s' l' hl hl' hlen hlen'
 have C2 := iZH En s' l' hl' oM
 have C3 := mZK En s l (decide (gd (zv s l) (zv s' l') < 0)) (digs (gd (zv s l) (zv s' l')).natAbs) hl (aZg _) hlen hgl (by rw [zv_C]; exact hg0)
 have C4 := mZK En s' l' (decide (gd (zv s l) (zv s' l') < 0)) (digs (gd (zv s l) (zv s' l')).natAbs) hl' (aZg _) hlen' hgl (by rw [zv_C]; exact hg0)
 rw [zv_C] at C3 C4
 by_cases hn : zv s' l' < 0
 ·have e : gd (zv s l) (zv s' l') = -((Nat.gcd (zv s l).natAbs (zv s' l').natAbs : Nat) : Int) := by unfold gd; rw [if_pos hn]
  have C5 := kneg En ((Nat.gcd (zv s l).natAbs (zv s' l').natAbs : Nat) : Int) (by rw [← hZi, ← e]; exact hgl)
  rw [← e] at C5
  have hs : sg3 (zv s' l') < 0 := by unfold sg3; rw [if_neg hd, if_pos hn]; decide
  refine aZb Tryz.func71 rfl Tryz.ntmps71 rfl ?_
  intro w0 h0
  refine js<|jr<|jB jj jj jj<|jB jj jj jj<|jA jj jj jj<|jn<|js<|jr<|jL jj jj jj<|jL jj jj jj<|jS (aZa C1 ⟨jj, jj, trivial⟩)<|jA jj jj jj<|jP jj jj jj jj<|jn<|js<|js<|jr<|jL jj jj jj<|jS (aZa C2 ⟨jj, trivial⟩)<|jS (bLt jj jj)<|jn<|jt jj<|jr<|jL jj jj jj<|jS (aZa C5 ⟨jj, trivial⟩)<|jP jj jj jj jj<|jn<|js<|jr<|jL jj jj jj<|jL jj jj jj<|jS (aZa C3 ⟨jj, jj, trivial⟩)<|jm jj<|jx' jj jj<|jx' jj jj<|jx' jj jj<|jP jj jj jj jj<|jn<|js<|jr<|jL jj jj jj<|jL jj jj jj<|jS (aZa C4 ⟨jj, jj, trivial⟩)<|jm jj<|jx' jj jj<|jx' jj jj<|jx' jj jj<|jP jj jj jj jj<|jn ?_
  refine js<|jr<|jL jj jj jj<|jL jj jj jj<|jS (aZj (ps := [(_, _), (_, _)]) ⟨jj, Part.c jj, jj, Part.c jj, trivial⟩ jj)<|jP jj jj jj jj<|jn<|ji ?_
  exact rtC rfl jj jj
 ·have e : gd (zv s l) (zv s' l') = ((Nat.gcd (zv s l).natAbs (zv s' l').natAbs : Nat) : Int) := by unfold gd; rw [if_neg hn]
  rw [← e] at C1
  have hs : ¬ sg3 (zv s' l') < 0 := by unfold sg3; rw [if_neg hd, if_neg hn]; decide
  refine aZb Tryz.func71 rfl Tryz.ntmps71 rfl ?_
  intro w0 h0
  refine js<|jr<|jB jj jj jj<|jB jj jj jj<|jA jj jj jj<|jn<|js<|jr<|jL jj jj jj<|jL jj jj jj<|jS (aZa C1 ⟨jj, jj, trivial⟩)<|jA jj jj jj<|jP jj jj jj jj<|jn<|js<|js<|jr<|jL jj jj jj<|jS (aZa C2 ⟨jj, trivial⟩)<|jS (bLf jj jj)<|jn<|jf jj<|jp<|js<|jr<|jL jj jj jj<|jL jj jj jj<|jS (aZa C3 ⟨jj, jj, trivial⟩)<|jm jj<|jx' jj jj<|jx' jj jj<|jx' jj jj<|jP jj jj jj jj<|jn<|js<|jr<|jL jj jj jj<|jL jj jj jj<|jS (aZa C4 ⟨jj, jj, trivial⟩)<|jm jj<|jx' jj jj<|jx' jj jj<|jx' jj jj<|jP jj jj jj jj<|jn ?_
  refine js<|jr<|jL jj jj jj<|jL jj jj jj<|jS (aZj (ps := [(_, _), (_, _)]) ⟨jj, Part.c jj, jj, Part.c jj, trivial⟩ jj)<|jP jj jj jj jj<|jn<|ji ?_
  exact rtC rfl jj jj
theorem gZO (a b : Int) (ha : zl a ≤ 274877906944) (hb : zl b ≤ 274877906944) (h : b ≠ 0) : Fn Tryz.prog En 71 [zC a, zC b] (qC (Rat.divInt a b)) := by
 have := lZQ En (decide (a < 0)) _ (decide (b < 0)) _ (aZg a.natAbs) (aZg b.natAbs) ha hb (by rw [zv_C]; exact h)
 rwa [zv_C, zv_C] at this
theorem rwhole (s : Bool) (l : List Nat) (hl : Lm l) (hlen : l.length ≤ 274877906944) : Fn Tryz.prog En 72 [zR s l] (qC (zv s l : Rat)) := by
 have C1 := kZU En s l hl hlen
 have C2 := hZR En 1 oM oM
 have e : qC ((zv s l : Int) : Rat) = aggP [ex (.bool (decide (zv s l < 0))), mag (digs (zv s l).natAbs), ex (.bool (decide ((1 : Int) < 0))), mag (digs (1 : Int).natAbs)] := by
  unfold qC qP RQ.cells RQ.of
  rw [Rat.num_intCast, Rat.den_intCast]
  rfl
 rw [e]
 refine aZb Tryz.func72 rfl Tryz.ntmps72 rfl ?_
 intro w0 h0
 refine js<|jr<|jB jj jj jj<|jA jj jj jj<|jn<|js<|jr<|jL jj jj jj<|jS (aZa C1 ⟨jj, trivial⟩)<|jS (aZa C2 ⟨jj, trivial⟩)<|jS (aZj (ps := [(_, _), (_, _)]) ⟨jj, Part.c jj, jj, Part.c jj, trivial⟩ jj)<|jP jj jj jj jj<|jn<|ji ?_
 exact rtC rfl jj jj
theorem qZu (a : Int) (ha : zl a ≤ 274877906944) : Fn Tryz.prog En 72 [zC a] (qC (a : Rat)) := by
 have := rwhole En (decide (a < 0)) _ (aZg a.natAbs) ha
 rwa [zv_C] at this
theorem kZD (p : RQ) (hp : p.ok) : Fn Tryz.prog En 93 [qP p] (qC p.v) := by
 have hll := hp.ll
 have hml := hp.ml
 have C1 := iZH En p.t p.m hp.m oM
 by_cases hz : zv p.t p.m = 0
 ·have e : p.v = ((0 : Int) : Rat) := by unfold RQ.v; rw [hz, Rat.divInt_zero]; rfl
  rw [e]
  have hs : sg3 (zv p.t p.m) = 0 := by rw [hz]; rfl
  have C2 := (qZu En 0 aD).arg (ps := [aggP [ex (.bool false), ex (.slice none 0 0)]]) ⟨lZl, trivial⟩
  refine aZb Tryz.func93 rfl Tryz.ntmps93 rfl ?_
  intro w0 h0
  refine js<|jr<|jB jj jj jj<|jA jj jj jj<|jn<|js<|js<|jr<|jF jj jj<|jL jj jj jj<|jS (aZa C1 ⟨jj, trivial⟩)<|jS (bEt jj jj)<|jn<|jt jj<|js<|jr<|jS (aZj (ps := []) trivial jj)<|jS (aZa C2 ⟨jj, trivial⟩)<|jP jj jj jj jj<|jn<|ji ?_
  exact rtC rfl jj jj
 ·have hs : sg3 (zv p.t p.m) ≠ 0 := by unfold sg3; rw [if_neg hz]; split <;> decide
  have C2 := lZQ En p.s p.l p.t p.m hp.l hp.m oM oM hz
  refine aZb Tryz.func93 rfl Tryz.ntmps93 rfl ?_
  intro w0 h0
  refine js<|jr<|jB jj jj jj<|jA jj jj jj<|jn<|js<|js<|jr<|jF jj jj<|jL jj jj jj<|jS (aZa C1 ⟨jj, trivial⟩)<|jS (bEf jj jj)<|jn<|jf jj<|jp<|js<|jr<|jF jj jj<|jL jj jj jj<|jF jj jj<|jL jj jj jj<|jS (aZa C2 ⟨jj, jj, trivial⟩)<|jP jj jj jj jj<|jn<|ji ?_
  exact rtC rfl jj jj
theorem bZg (p : RQ) (hp : p.ok) : Fn Tryz.prog En 37 [qP p] (qC p.v) := by
 have C1 := kZD En p hp
 refine aZb Tryz.func37 rfl Tryz.ntmps37 rfl ?_
 intro w0 h0
 refine js<|jr<|jB jj jj jj<|jA jj jj jj<|jn<|js<|jr<|jL jj jj jj<|jS (aZa C1 ⟨jj, trivial⟩)<|jP jj jj jj jj<|jn<|ji ?_
 exact rtC rfl jj jj
theorem rsgn (r : Rat) (hr : Sz 1073741824 r) : Fn Tryz.prog En 36 [qC r] (ex (.int .i64 (sg3 r.num))) := by
 have C1 := ksign En r.num (Nat.le_trans hr.1 oM)
 refine aZb Tryz.func36 rfl Tryz.ntmps36 rfl ?_
 intro w0 h0
 refine js<|jr<|jB jj jj jj<|ja jj<|jn<|js<|jr<|jF jj jj<|jL jj jj jj<|jS (aZa C1 ⟨jj, trivial⟩)<|ja jj<|jn<|ji ?_
 exact rtT rfl jj
theorem rsum (p q : RQ) (hp : p.ok) (hq : q.ok) : Fn Tryz.prog En 173 [slc 4 (p.cells ++ q.cells) 2] (qC (p.v + q.v)) := by
 have hr := RQ.sz hp
 have hs := RQ.sz hq
 have K1 := bZg En p hp
 have K2 := bZg En q hq
 generalize p.v = r at *
 generalize q.v = s at *
 obtain ⟨r1, r2⟩ := hr
 obtain ⟨s1, s2⟩ := hs
 have S1 := hZR En 1 oM oM
 have z0 : zl 0 ≤ 1 := by decide
 have z1 : zl 1 ≤ 1 := by decide
 have A1 := bZh r.num s.den
 have A2 := bZh s.num r.den
 have A3 := bZh r.den s.den
 have A4 := eZ8 (r.num * s.den) (s.num * r.den)
 let N : Nat → Int := fun i => if i = 0 then 0 else if i = 1 then r.num else r.num * s.den + s.num * r.den
 let D : Nat → Int := fun i => if i = 0 then 1 else if i = 1 then r.den else r.den * s.den
 have F := gZO En (r.num * s.den + s.num * r.den) (r.den * s.den) oM oM (nZg r s)
 rw [← iZ6] at F
 have hw1 : IntKind.i64.wrap (((0 : Nat) : Int) + 1) = ((1 : Nat) : Int) := by decide
 have hw2 : IntKind.i64.wrap (((1 : Nat) : Int) + 1) = ((2 : Nat) : Int) := by decide
 have q0 : ((p.cells ++ q.cells).drop (0 * 4)).take 4 = p.cells := rfl
 have q1 : ((p.cells ++ q.cells).drop (1 * 4)).take 4 = q.cells := rfl
 refine aZb Tryz.func173 rfl Tryz.ntmps173 rfl ?_
 intro w0 h0
 refine js<|jr<|jA jj jj jj<|jn<|js<|jr<|jS (aZj (ps := []) trivial jj)<|jS (aZa S1 ⟨jj, trivial⟩)<|jA jj jj jj<|jA jj jj jj<|jP jj jj jj jj<|jP jj jj jj jj<|jn<|js<|js<|jr<|jm jj<|jE jj<|jm jj<|jn<|jb ?_
 refine WpD.loop (α := {i : Nat // i ≤ 2}) (fun i => ⟨[(2, .ptr 2 0), (3, .ptr 3 0), (4, .ptr 4 0), (10, .one (slc 4 (p.cells ++ q.cells) 2)), (11, .one (ex (.int .i64 ((2 : Nat) : Int)))), (12, .one (ex (.int .i64 ((i.1 : Nat) : Int))))], [(3, aZL (N i.1)), (4, aZL (D i.1)), (2, [ex (.bool false), ex (.slice none 0 0), ex (.bool false), ex (.slice none 0 0)])]⟩) (fun i => 2 - i.1) ⟨0, oM⟩ ?_ ?_
 ·exact Sub.mk sJ ⟨.inl ⟨_, jj, ⟨PLe.refl _, eZx, trivial⟩⟩, .inl pQ, .inl pQ, trivial⟩
 rintro ⟨i, hi⟩
 dsimp only
 have hcase : i = 0 ∨ i = 1 ∨ i = 2 := oM
 rcases hcase with rfl | rfl | rfl
 ·have m1 := kmul En 0 r.den oM oM
  have m2 := kmul En r.num 1 oM oM
  have m3 := kadd En (0 * r.den) (r.num * 1) (by rw [Int.zero_mul]; omega) (by rw [Int.mul_one]; omega)
  have m4 := kmul En 1 r.den oM oM
  rw [Int.zero_mul] at m1 m3
  rw [Int.mul_one] at m2 m3
  rw [Int.zero_add] at m3
  rw [Int.one_mul] at m4
  refine js<|jr<|jS (bLt jj jj)<|jn<|js<|jt jj<|jp<|js<|jb<|js<|jr<|jS (aZm jj jj aO aM)<|jS (aZq jj jj jj)<|jA jj jj jj<|jP jj jj jj jj<|jn<|js<|jr<|jL jj jj jj<|jS (aZa K1 ⟨jj, trivial⟩)<|jA jj jj jj<|jP jj jj jj jj<|jn<|js<|jr<|jL jj jj jj<|jF jj jj<|jL jj jj jj<|jS (aZa m1 ⟨jj, jj, trivial⟩)<|jF jj jj<|jL jj jj jj<|jL jj jj jj<|jS (aZa m2 ⟨jj, jj, trivial⟩)<|jS (aZa m3 ⟨jj, jj, trivial⟩)<|jP jj jj jj jj<|jn<|jr<|jL jj jj jj<|jF jj jj<|jL jj jj jj<|jS (aZa m4 ⟨jj, jj, trivial⟩)<|jP jj jj jj jj<|jn ?_
  refine jr<|jS (bAd jj jj hw1)<|jm jj<|jn ?_
  refine ⟨⟨1, oM⟩, ?_, oD⟩
  exact Sub.mk sJ sJ
 ·have m1 := kmul En r.num s.den oM oM
  have m2 := kmul En s.num r.den oM oM
  have m3 := kadd En (r.num * s.den) (s.num * r.den) oM oM
  have m4 := kmul En r.den s.den oM oM
  refine js<|jr<|jS (bLt jj jj)<|jn<|js<|jt jj<|jp<|js<|jb<|js<|jr<|jS (aZm jj jj aO aM)<|jS (aZq jj jj jj)<|jA jj jj jj<|jP jj jj jj jj<|jn<|js<|jr<|jL jj jj jj<|jS (aZa K2 ⟨jj, trivial⟩)<|jA jj jj jj<|jP jj jj jj jj<|jn<|js<|jr<|jL jj jj jj<|jF jj jj<|jL jj jj jj<|jS (aZa m1 ⟨jj, jj, trivial⟩)<|jF jj jj<|jL jj jj jj<|jL jj jj jj<|jS (aZa m2 ⟨jj, jj, trivial⟩)<|jS (aZa m3 ⟨jj, jj, trivial⟩)<|jP jj jj jj jj<|jn<|jr<|jL jj jj jj<|jF jj jj<|jL jj jj jj<|jS (aZa m4 ⟨jj, jj, trivial⟩)<|jP jj jj jj jj<|jn ?_
  refine jr<|jS (bAd jj jj hw2)<|jm jj<|jn ?_
  refine ⟨⟨2, oM⟩, ?_, oD⟩
  exact Sub.mk sJ sJ
 ·refine js<|jr<|jS (bLf jj jj)<|jn<|js<|jf jj<|je<|js<|jr<|jL jj jj jj<|jL jj jj jj<|jS (aZa F ⟨jj, jj, trivial⟩)<|jP jj jj jj jj<|jn<|ji ?_
  exact rtC rfl jj jj
theorem jZx (p q : RQ) (hp : p.ok) (hq : q.ok) : Fn Tryz.prog En 74 [slc 4 (p.cells ++ q.cells) 2] (qC (p.v * q.v)) := by
 have hr := RQ.sz hp
 have hs := RQ.sz hq
 have K1 := bZg En p hp
 have K2 := bZg En q hq
 generalize p.v = r at *
 generalize q.v = s at *
 obtain ⟨r1, r2⟩ := hr
 obtain ⟨s1, s2⟩ := hs
 have S1 := hZR En 1 oM oM
 have z1 : zl 1 ≤ 1 := by decide
 have A1 := bZh r.num s.num
 have A3 := bZh r.den s.den
 let N : Nat → Int := fun i => if i = 0 then 1 else if i = 1 then r.num else r.num * s.num
 let D : Nat → Int := fun i => if i = 0 then 1 else if i = 1 then r.den else r.den * s.den
 have F := gZO En (r.num * s.num) (r.den * s.den) oM oM (nZg r s)
 rw [← lZS] at F
 have hw1 : IntKind.i64.wrap (((0 : Nat) : Int) + 1) = ((1 : Nat) : Int) := by decide
 have hw2 : IntKind.i64.wrap (((1 : Nat) : Int) + 1) = ((2 : Nat) : Int) := by decide
 have q0 : ((p.cells ++ q.cells).drop (0 * 4)).take 4 = p.cells := rfl
 have q1 : ((p.cells ++ q.cells).drop (1 * 4)).take 4 = q.cells := rfl
 refine aZb Tryz.func74 rfl Tryz.ntmps74 rfl ?_
 intro w0 h0
 refine js<|jr<|jA jj jj jj<|jn<|js<|jr<|jS (aZa S1 ⟨jj, trivial⟩)<|jS (aZa S1 ⟨jj, trivial⟩)<|jA jj jj jj<|jA jj jj jj<|jP jj jj jj jj<|jP jj jj jj jj<|jn<|js<|js<|jr<|jm jj<|jE jj<|jm jj<|jn<|jb ?_
 refine WpD.loop (α := {i : Nat // i ≤ 2}) (fun i => ⟨[(2, .ptr 2 0), (3, .ptr 3 0), (4, .ptr 4 0), (10, .one (slc 4 (p.cells ++ q.cells) 2)), (11, .one (ex (.int .i64 ((2 : Nat) : Int)))), (12, .one (ex (.int .i64 ((i.1 : Nat) : Int))))], [(3, aZL (N i.1)), (4, aZL (D i.1)), (2, [ex (.bool false), ex (.slice none 0 0), ex (.bool false), ex (.slice none 0 0)])]⟩) (fun i => 2 - i.1) ⟨0, oM⟩ ?_ ?_
 ·exact Sub.mk sJ sJ
 rintro ⟨i, hi⟩
 dsimp only
 have hcase : i = 0 ∨ i = 1 ∨ i = 2 := oM
 rcases hcase with rfl | rfl | rfl
 ·have m1 := kmul En 1 r.num oM oM
  have m4 := kmul En 1 r.den oM oM
  rw [Int.one_mul] at m1 m4
  refine js<|jr<|jS (bLt jj jj)<|jn<|js<|jt jj<|jp<|js<|jb<|js<|jr<|jS (aZm jj jj aO aM)<|jS (aZq jj jj jj)<|jA jj jj jj<|jP jj jj jj jj<|jn<|js<|jr<|jL jj jj jj<|jS (aZa K1 ⟨jj, trivial⟩)<|jA jj jj jj<|jP jj jj jj jj<|jn<|jr<|jL jj jj jj<|jF jj jj<|jL jj jj jj<|jS (aZa m1 ⟨jj, jj, trivial⟩)<|jL jj jj jj<|jF jj jj<|jL jj jj jj<|jS (aZa m4 ⟨jj, jj, trivial⟩)<|jP jj jj jj jj<|jP jj jj jj jj<|jn<|jr<|jS (bAd jj jj hw1)<|jm jj<|jn ?_
  refine ⟨⟨1, oM⟩, ?_, oD⟩
  exact Sub.mk sJ sJ
 ·have m1 := kmul En r.num s.num oM oM
  have m4 := kmul En r.den s.den oM oM
  refine js<|jr<|jS (bLt jj jj)<|jn<|js<|jt jj<|jp<|js<|jb<|js<|jr<|jS (aZm jj jj aO aM)<|jS (aZq jj jj jj)<|jA jj jj jj<|jP jj jj jj jj<|jn<|js<|jr<|jL jj jj jj<|jS (aZa K2 ⟨jj, trivial⟩)<|jA jj jj jj<|jP jj jj jj jj<|jn<|jr<|jL jj jj jj<|jF jj jj<|jL jj jj jj<|jS (aZa m1 ⟨jj, jj, trivial⟩)<|jL jj jj jj<|jF jj jj<|jL jj jj jj<|jS (aZa m4 ⟨jj, jj, trivial⟩)<|jP jj jj jj jj<|jP jj jj jj jj<|jn<|jr<|jS (bAd jj jj hw2)<|jm jj<|jn ?_
  refine ⟨⟨2, oM⟩, ?_, oD⟩
  exact Sub.mk sJ sJ
 ·refine js<|jr<|jS (bLf jj jj)<|jn<|js<|jf jj<|je<|js<|jr<|jL jj jj jj<|jL jj jj jj<|jS (aZa F ⟨jj, jj, trivial⟩)<|jP jj jj jj jj<|jn<|ji ?_
  exact rtC rfl jj jj
theorem rmul (p q : RQ) (hp : p.ok) (hq : q.ok) : Fn Tryz.prog En 28 [qP p, qP q] (qC (p.v * q.v)) := by
 have C1 := jZx En p q hp hq
 refine aZb Tryz.func28 rfl Tryz.ntmps28 rfl ?_
 intro w0 h0
 refine js<|jr<|jB jj jj jj<|jB jj jj jj<|jA jj jj jj<|jn<|js<|jr<|jL jj jj jj<|jL jj jj jj<|jS (aZ5 (ps := [(_, _), (_, _)]) ⟨jj, Part.c jj, jj, Part.c jj, trivial⟩ jj jj jj)<|jS (aZa C1 tA)<|jP jj jj jj jj<|jn<|ji ?_
 exact rtC rfl jj jj
theorem qC_mk (r : Rat) {a b : Int} (h1 : r.num = a) (h2 : (r.den : Int) = b) : qC r = aggP [ex (.bool (decide (a < 0))), mag (digs a.natAbs), ex (.bool (decide (b < 0))), mag (digs b.natAbs)] := by
 subst h1; subst h2; rfl
theorem rneg (p : RQ) (hp : p.ok) : Fn Tryz.prog En 174 [qP p] (qC (-p.v)) := by
 have hr := RQ.sz hp
 have C1 := bZg En p hp
 generalize p.v = r at *
 have C2 := kneg En r.num (Nat.le_trans hr.1 oM)
 rw [qC_mk (-r) (a := -r.num) (b := r.den) rfl rfl]
 refine aZb Tryz.func174 rfl Tryz.ntmps174 rfl ?_
 intro w0 h0
 refine js<|jr<|jB jj jj jj<|jA jj jj jj<|jn<|js<|jr<|jL jj jj jj<|jS (aZa C1 ⟨jj, trivial⟩)<|jA jj jj jj<|jP jj jj jj jj<|jn<|js<|jr<|jF jj jj<|jL jj jj jj<|jS (aZa C2 ⟨jj, trivial⟩)<|jF jj jj<|jL jj jj jj<|jS (aZj (ps := [(_, _), (_, _)]) ⟨jj, Part.c jj, jj, Part.c jj, trivial⟩ jj)<|jP jj jj jj jj<|jn<|ji ?_
 exact rtC rfl jj jj
theorem rsub (p q : RQ) (hp : p.ok) (hq : q.ok) : Fn Tryz.prog En 135 [qP p, qP q] (qC (p.v - q.v)) := by
 have C1 := rneg En q hq
 have C2 := rsum En p (RQ.of (-q.v)) hp (RQ.of_ok (lZw (RQ.sz hq)))
 rw [RQ.of_v, ← Rat.sub_eq_add_neg] at C2
 refine aZb Tryz.func135 rfl Tryz.ntmps135 rfl ?_
 intro w0 h0
 refine js<|jr<|jB jj jj jj<|jB jj jj jj<|jA jj jj jj<|jn<|js<|jr<|jL jj jj jj<|jL jj jj jj<|jS (aZa C1 ⟨jj, trivial⟩)<|jS (aZ5 (ps := [(_, _), (_, _)]) ⟨jj, Part.c jj, jj, Part.c jj, trivial⟩ jj jj jj)<|jS (aZa C2 ⟨jj, trivial⟩)<|jP jj jj jj jj<|jn<|ji ?_
 exact rtC rfl jj jj
theorem rquo (p q : RQ) (hp : p.ok) (hq : q.ok) (h0 : q.v ≠ 0) : Fn Tryz.prog En 77 [qP p, qP q] (tupP [qC (p.v / q.v), ex (.bool true)]) := by
 have hs := RQ.sz hq
 have C1 := bZg En q hq
 generalize q.v = s at *
 have hn : s.num ≠ 0 := fun h => h0 (Rat.num_eq_zero.1 h)
 have hsg : sg3 s.num ≠ 0 := by unfold sg3; rw [if_neg hn]; split <;> decide
 have C2 := rsgn En s hs
 have C3 := jZx En p ⟨decide ((s.den : Int) < 0), digs (s.den : Int).natAbs, decide (s.num < 0), digs s.num.natAbs⟩ hp ⟨aZg _, aZg _, hs.2, hs.1⟩
 have e : (⟨decide ((s.den : Int) < 0), digs (s.den : Int).natAbs, decide (s.num < 0), digs s.num.natAbs⟩ : RQ).v = s⁻¹ := by
  unfold RQ.v
  simp only
  rw [zv_C, zv_C, Rat.inv_def]
 rw [e, ← Rat.div_def] at C3
 refine aZb Tryz.func77 rfl Tryz.ntmps77 rfl ?_
 intro w0 h0
 refine js<|jr<|jB jj jj jj<|jB jj jj jj<|jA jj jj jj<|ja jj<|jn<|js<|jr<|jL jj jj jj<|jS (aZa C1 ⟨jj, trivial⟩)<|jA jj jj jj<|jP jj jj jj jj<|jn<|js<|js<|jr<|jL jj jj jj<|jS (aZa C2 ⟨jj, trivial⟩)<|jS (bEf jj jj)<|jn<|jf jj<|jp<|js<|jr<|jL jj jj jj<|jF jj jj<|jL jj jj jj<|jF jj jj<|jL jj jj jj<|jS (aZj (ps := [(_, _), (_, _)]) ⟨jj, Part.c jj, jj, Part.c jj, trivial⟩ jj)<|jS (aZ5 (ps := [(_, _), (_, _)]) ⟨jj, Part.c jj, jj, Part.c jj, trivial⟩ jj jj jj)<|jS (aZa C3 ⟨jj, trivial⟩)<|jP jj jj jj jj<|ja jj<|jn<|ji ?_
 exact rtD rfl jj jj jj
theorem rsign (p : RQ) (hp : p.ok) : Fn Tryz.prog En 13 [qP p] (ex (.int .i64 (sg3 (zv p.s p.l) * sg3 (zv p.t p.m)))) := by
 have hll := hp.ll
 have hml := hp.ml
 have C1 := iZH En p.s p.l hp.l oM
 have C2 := iZH En p.t p.m hp.m oM
 have b1 := pZU (zv p.s p.l)
 have b2 := pZU (zv p.t p.m)
 have e : IntKind.i64.wrap (sg3 (zv p.s p.l) * sg3 (zv p.t p.m)) = sg3 (zv p.s p.l) * sg3 (zv p.t p.m) := by
  have h1 : sg3 (zv p.s p.l) = -1 ∨ sg3 (zv p.s p.l) = 0 ∨ sg3 (zv p.s p.l) = 1 := oM
  have h2 : sg3 (zv p.t p.m) = -1 ∨ sg3 (zv p.t p.m) = 0 ∨ sg3 (zv p.t p.m) = 1 := oM
  rcases h1 with h1 | h1 | h1 <;> rcases h2 with h2 | h2 | h2 <;> rw [h1, h2] <;> decide
 refine aZb Tryz.func13 rfl Tryz.ntmps13 rfl ?_
 intro w0 h0
 refine js<|jr<|jB jj jj jj<|ja jj<|jn<|js<|jr<|jF jj jj<|jL jj jj jj<|jS (aZa C1 ⟨jj, trivial⟩)<|jF jj jj<|jL jj jj jj<|jS (aZa C2 ⟨jj, trivial⟩)<|jS (bMu jj jj e)<|ja jj<|jn<|ji ?_
 exact rtT rfl jj
end
end
section
open Go.RowKit Limb
theorem eZ4 (a b : Int) : ∀ n : Nat, Rat.divInt (a ^ n) (b ^ n) = (Rat.divInt a b) ^ n
 | 0 => by simp; rfl
 | n + 1 => by rw [Int.pow_succ, Int.pow_succ, ← Rat.divInt_mul_divInt, eZ4 a b n, Rat.pow_succ]
theorem pZJ (a : Int) : ∀ n : Nat, 1 ≤ zl a → zl (a ^ n) ≤ n * zl a + 1
 | 0, _ => by rw [Int.pow_zero]; exact Nat.le_trans (show zl 1 ≤ 1 by decide) oM
 | n + 1, h => by
  rw [Int.pow_succ]
  have h1 := bZh (a ^ n) a
  have h2 := pZJ a n h
  rw [Nat.succ_mul]; omega
theorem zl_pos {a : Int} (h : a ≠ 0) : 1 ≤ zl a := by
 unfold zl
 rw [aZR oM]
 simp
theorem cZC {a : Int} {b n : Nat} (h : zl a ≤ b) : zl (a ^ n) ≤ n * b + 1 := by
 by_cases ha : a = 0
 ·subst ha
  cases n with
  | zero => rw [Int.pow_zero]; exact Nat.le_trans (show zl 1 ≤ 1 by decide) oM
  | succ n => rw [Int.zero_pow oM]; exact Nat.le_trans (show zl 0 ≤ 0 by decide) oM
 ·have := pZJ a n (zl_pos ha)
  have : n * zl a ≤ n * b := Nat.mul_le_mul_left _ h
  omega
def cmpQ (r s : Rat) : Int := cmpZ (r.num * s.den) (s.num * r.den)
theorem pZS {r s : Rat} (h : sg3 r.num < sg3 s.num) : cmpQ r s = -1 := by
 have h1 := r.den_pos
 have h2 := s.den_pos
 unfold cmpQ cmpZ
 have key : r.num * s.den < s.num * r.den := by
  unfold sg3 at h
  have hr : r.num < 0 ∧ 0 ≤ s.num ∨ r.num ≤ 0 ∧ 0 < s.num := by
   repeat' split at h
   all_goals omega
  rcases hr with ⟨a, b⟩ | ⟨a, b⟩
  ·have : r.num * s.den < 0 := Int.mul_neg_of_neg_of_pos a oM
   have : 0 ≤ s.num * r.den := Int.mul_nonneg b oM
   omega
  ·have : r.num * s.den ≤ 0 := Int.mul_nonpos_of_nonpos_of_nonneg a oM
   have : 0 < s.num * r.den := Int.mul_pos b oM
   omega
 rw [if_pos key]
theorem sg_cmp' {r s : Rat} (h : sg3 s.num < sg3 r.num) : cmpQ r s = 1 := by
 have := pZS h
 unfold cmpQ cmpZ at *
 repeat' split at this
 all_goals (repeat' split) <;> omega
section
variable (En : Ev)
theorem rpow (p : RQ) (n : Nat) (hp : p.ok) (hn : n ≤ 64) : Fn Tryz.prog En 26 [qP p, ex (.int .i64 (n : Int))] (tupP [qC (p.v ^ n), ex (.bool true)]) := by
 have hr := RQ.sz hp
 have C1 := bZg En p hp
 generalize p.v = r at *
 have h1 := cZC (n := n) hr.1
 have h2 := cZC (n := n) hr.2
 have hm : n * 1073741824 ≤ 64 * 1073741824 := Nat.mul_le_mul_right _ hn
 have C2 := kpow En r.num n hr.1 hn
 have C3 := kpow En r.den n hr.2 hn
 have C4 := gZO En (r.num ^ n) ((r.den : Int) ^ n) oM oM (Int.pow_ne_zero (iZh r))
 rw [eZ4, Rat.num_divInt_den] at C4
 refine aZb Tryz.func26 rfl Tryz.ntmps26 rfl ?_
 intro w0 h0
 refine js<|jr<|jB jj jj jj<|jA jj jj jj<|ja jj<|jn<|js<|jr<|jL jj jj jj<|jS (aZa C1 ⟨jj, trivial⟩)<|jA jj jj jj<|jP jj jj jj jj<|jn<|js<|js<|jr<|jm jj<|jS (bLf jj jj)<|jm jj (jgm jj (jg (bGf jj jj) (jQ jj jj (jm jj (jgm jj (jg (bLf jj jj) (jgm jj (jk (jk (jk (jg (cZT jj jj) (jQ jj jj (jn (jf jj (jp (js (jr (jF jj jj (jL jj jj jj (jF jj jj (jL jj jj jj (jA jj jj jj (jA jj jj jj (jP jj jj jj jj (jP jj jj jj jj (jn ?_))))))))))))))))))))))))))
 refine js<|js<|jr<|jm jj<|jS (bLf jj jj)<|jn<|jf jj<|jp<|js<|jr<|jL jj jj jj<|jm jj<|jS (aZa C2 ⟨jj, jj, trivial⟩)<|jm jj<|jx' jj jj<|jx' jj jj<|jP jj jj jj jj<|jn<|js<|jr<|jL jj jj jj<|jm jj<|jS (aZa C3 ⟨jj, jj, trivial⟩)<|jm jj<|jx' jj jj<|jx' jj jj<|jP jj jj jj jj<|jn<|js<|jr<|jL jj jj jj<|jL jj jj jj<|jS (aZa C4 ⟨jj, jj, trivial⟩)<|jP jj jj jj jj<|ja jj<|jn<|ji ?_
 exact rtD rfl jj jj jj
theorem oZm (p : RQ) (n : Nat) (hp : p.ok) (hn : n ≤ 64) (hn0 : 0 < n) (h0 : p.v ≠ 0) : Fn Tryz.prog En 26 [qP p, ex (.int .i64 (-(n : Int)))] (tupP [qC (p.v⁻¹ ^ n), ex (.bool true)]) := by
 have hr := RQ.sz hp
 have C1 := bZg En p hp
 generalize p.v = r at *
 have hnum : r.num ≠ 0 := fun h => h0 (Rat.num_eq_zero.1 h)
 have hsg : sg3 r.num ≠ 0 := by unfold sg3; rw [if_neg hnum]; split <;> decide
 have S1 := rsgn En r hr
 have h1 := cZC (n := n) hr.1
 have h2 := cZC (n := n) hr.2
 have hm : n * 1073741824 ≤ 64 * 1073741824 := Nat.mul_le_mul_right _ hn
 have C2 := kpow En r.num n hr.1 hn
 have C3 := kpow En r.den n hr.2 hn
 have C4 := gZO En ((r.den : Int) ^ n) (r.num ^ n) oM oM (Int.pow_ne_zero hnum)
 rw [eZ4, ← Rat.inv_def] at C4
 have e : IntKind.i64.wrap (-(-(n : Int))) = (n : Int) := by rw [Int.neg_neg]; exact w64 oM oM
 refine aZb Tryz.func26 rfl Tryz.ntmps26 rfl ?_
 intro w0 h0
 refine js<|jr<|jB jj jj jj<|jA jj jj jj<|ja jj<|jn<|js<|jr<|jL jj jj jj<|jS (aZa C1 ⟨jj, trivial⟩)<|jA jj jj jj<|jP jj jj jj jj<|jn<|js<|js<|jr<|jm jj<|jS (bLf jj jj)<|jm jj (jgm jj (jg (bGf jj jj) (jQ jj jj (jm jj (jgm jj (jg (bLt jj jj) (jgm jj (jg (bZ8 jj jj jj jj) (jg (aZa S1 ⟨jj, trivial⟩) (jg (bEf jj jj) (jg (dZj jj jj) (jQ jj jj (jn (jf jj (jp (js (jr (jF jj jj (jL jj jj jj (jF jj jj (jL jj jj jj (jA jj jj jj (jA jj jj jj (jP jj jj jj jj (jP jj jj jj jj (jn ?_))))))))))))))))))))))))))
 refine js<|js<|jr<|jm jj<|jS (bLt jj jj)<|jn<|jt jj<|jr<|jm jj<|jS (cZS jj (fun w => cZ0 w _ _) (vint e))<|jL jj jj jj<|jL jj jj jj<|ja jj<|jP jj jj jj jj<|jP jj jj jj jj<|jn<|js<|jr<|jL jj jj jj<|jm jj<|jS (aZa C3 ⟨jj, jj, trivial⟩)<|jm jj<|jx' jj jj<|jx' jj jj<|jP jj jj jj jj<|jn<|js<|jr<|jL jj jj jj<|jm jj<|jS (aZa C2 ⟨jj, jj, trivial⟩)<|jm jj<|jx' jj jj<|jx' jj jj<|jP jj jj jj jj<|jn<|js<|jr<|jL jj jj jj<|jL jj jj jj<|jS (aZa C4 ⟨jj, jj, trivial⟩)<|jP jj jj jj jj<|ja jj<|jn ?_
 refine ji ?_
 exact rtD rfl jj jj jj
theorem rcmp (p q : RQ) (hp : p.ok) (hq : q.ok) : Fn Tryz.prog En 12 [qP p, qP q] (ex (.int .i64 (cmpQ p.v q.v))) := by
 have hr := RQ.sz hp
 have hs := RQ.sz hq
 have K1 := bZg En p hp
 have K2 := bZg En q hq
 generalize p.v = r at *
 generalize q.v = s at *
 have S1 := rsgn En r hr
 have S2 := rsgn En s hs
 obtain ⟨r1, r2⟩ := hr
 obtain ⟨s1, s2⟩ := hs
 have A1 := bZh r.num s.den
 have A2 := bZh s.num r.den
 have m1 := kmul En r.num s.den oM oM
 have m2 := kmul En s.num r.den oM oM
 have m3 := kcmp En (r.num * s.den) (s.num * r.den) oM oM
 by_cases h1 : sg3 r.num < sg3 s.num
 ·rw [pZS h1]
  refine aZb Tryz.func12 rfl Tryz.ntmps12 rfl ?_
  intro w0 h0
  refine js<|jr<|jB jj jj jj<|jB jj jj jj<|ja jj<|jn<|js<|jr<|ja jj<|jn<|js<|jr<|jL jj jj jj<|jS (aZa K1 ⟨jj, trivial⟩)<|jL jj jj jj<|jS (aZa K2 ⟨jj, trivial⟩)<|jA jj jj jj<|jA jj jj jj<|jP jj jj jj jj<|jP jj jj jj jj<|jn<|js<|js<|jr<|jm jj<|jL jj jj jj<|jS (dZw jj S1 ⟨jj, trivial⟩)<|jm jj<|jL jj jj jj<|jS (dZw jj S2 ⟨jj, trivial⟩)<|ja jj<|ja jj<|jn<|jb<|js<|jr<|jm jj<|jm jj<|jS (bLt jj jj)<|ja jj<|jn ?_
  refine jt jj<|js<|jr<|ja jj<|jn<|ji ?_
  exact rtT rfl jj
 ·by_cases h2 : sg3 r.num > sg3 s.num
  ·rw [sg_cmp' h2]
   refine aZb Tryz.func12 rfl Tryz.ntmps12 rfl ?_
   intro w0 h0
   refine js<|jr<|jB jj jj jj<|jB jj jj jj<|ja jj<|jn<|js<|jr<|ja jj<|jn<|js<|jr<|jL jj jj jj<|jS (aZa K1 ⟨jj, trivial⟩)<|jL jj jj jj<|jS (aZa K2 ⟨jj, trivial⟩)<|jA jj jj jj<|jA jj jj jj<|jP jj jj jj jj<|jP jj jj jj jj<|jn<|js<|js<|jr<|jm jj<|jL jj jj jj<|jS (dZw jj S1 ⟨jj, trivial⟩)<|jm jj<|jL jj jj jj<|jS (dZw jj S2 ⟨jj, trivial⟩)<|ja jj<|ja jj<|jn<|jb<|js<|jr<|jm jj<|jm jj<|jS (bLf jj jj)<|ja jj<|jn ?_
   refine jf jj<|js<|jr<|jm jj<|jm jj<|jS (bGt jj jj)<|ja jj<|jn<|jt jj<|js<|jr<|ja jj<|jn<|ji ?_
   exact rtT rfl jj
  ·refine aZb Tryz.func12 rfl Tryz.ntmps12 rfl ?_
   intro w0 h0
   refine js<|jr<|jB jj jj jj<|jB jj jj jj<|ja jj<|jn<|js<|jr<|ja jj<|jn<|js<|jr<|jL jj jj jj<|jS (aZa K1 ⟨jj, trivial⟩)<|jL jj jj jj<|jS (aZa K2 ⟨jj, trivial⟩)<|jA jj jj jj<|jA jj jj jj<|jP jj jj jj jj<|jP jj jj jj jj<|jn<|js<|js<|jr<|jm jj<|jL jj jj jj<|jS (dZw jj S1 ⟨jj, trivial⟩)<|jm jj<|jL jj jj jj<|jS (dZw jj S2 ⟨jj, trivial⟩)<|ja jj<|ja jj<|jn<|jb<|js<|jr<|jm jj<|jm jj<|jS (bLf jj jj)<|ja jj<|jn ?_
   refine jf jj<|js<|jr<|jm jj<|jm jj<|jS (bGf jj jj)<|ja jj<|jn<|jf jj<|jp<|js<|jr<|jF jj jj<|jL jj jj jj<|jF jj jj<|jL jj jj jj<|jS (aZa m1 ⟨jj, jj, trivial⟩)<|jF jj jj<|jL jj jj jj<|jF jj jj<|jL jj jj jj<|jS (aZa m2 ⟨jj, jj, trivial⟩)<|jS (aZa m3 ⟨jj, jj, trivial⟩)<|ja jj<|jn<|ji ?_
   exact rtT rfl jj
theorem oZn (p : RQ) (hp : p.ok) : Fn Tryz.prog En 67 [qP p] (ex (.bool (cmpZ p.v.den 1 == 0))) := by
 have hr := RQ.sz hp
 have K1 := bZg En p hp
 generalize p.v = r at *
 have S1 := hZR En 1 oM oM
 have m3 := kcmp En r.den 1 (Nat.le_trans hr.2 oM) aD
 refine aZb Tryz.func67 rfl Tryz.ntmps67 rfl ?_
 intro w0 h0
 refine js<|jr<|jB jj jj jj<|ja jj<|jn<|js<|jr<|jL jj jj jj<|jS (aZa K1 ⟨jj, trivial⟩) ?_
 first | refine jS (lZK jj jj) ?_ | refine jS (lZJ jj jj) ?_
 refine jS (aZa S1 ⟨jj, trivial⟩)<|jS (aZa m3 ⟨jj, jj, trivial⟩)<|jS (aZ6 jj jj (fun w => cZ6 w _ _ _ _ _ _))<|ja jj<|jn<|ji ?_
 exact rtT rfl jj
end
end
end Go.Proofs.YtfmjdlogjmofbaaGreatDoor

/- Rational numbers of the program: lowest, Whole, Normalize, sum, product, Add, Sub, Mul, Quo, Neg, Sign, Pow, Cmp. -/
import Derived.Test.YtdieokoenhncfaaGreatDoorMem
import Derived.Test.YtdieokoenhncfaaGreatDoorIc
import Derived.Test.YtdieokoenhncfaaGreatDoorQv
set_option maxRecDepth 3000
namespace Go.Proofs.YtdieokoenhncfaaGreatDoor
open Go.RowKit Limb
instance crow_rat : CRow Tryz.prog 36 4 := ⟨⟨_, Tryz.underlying36, rfl, by kernel_rfl⟩⟩
instance cfield_rat0 : CField Tryz.prog 36 0 0 := ⟨⟨_, _, Tryz.underlying36, rfl, rfl, by kernel_rfl⟩⟩
instance cfield_rat1 : CField Tryz.prog 36 1 2 := ⟨⟨_, _, Tryz.underlying36, rfl, rfl, by kernel_rfl⟩⟩
instance mZV : CFieldT Tryz.prog 36 0 0 34 := ⟨⟨_, _, Tryz.underlying36, rfl, rfl, rfl⟩⟩
instance mZU : CFieldT Tryz.prog 36 1 2 34 := ⟨⟨_, _, Tryz.underlying36, rfl, rfl, rfl⟩⟩
theorem gZY : bZO Tryz.prog 36 [.bool false, .slice none 0 0, .bool false, .slice none 0 0] := ⟨by kernel_rfl, by simp [Value.oneCell']⟩
instance czero_rat : CZero Tryz.prog 36 [.bool false, .slice none 0 0, .bool false, .slice none 0 0] := ⟨gZY⟩
instance cstruct_rat : CStruct Tryz.prog 36 [(0, 2), (2, 2)] [.bool false, .slice none 0 0, .bool false, .slice none 0 0] := ⟨⟨gZY, _, Tryz.underlying36, fun _ => by kernel_rfl⟩⟩
instance crow_fr : CRow Tryz.prog 78 4 := ⟨⟨_, Tryz.underlying78, rfl, by kernel_rfl⟩⟩
instance cfield_fr0 : CField Tryz.prog 78 0 0 := ⟨⟨_, _, Tryz.underlying78, rfl, rfl, by kernel_rfl⟩⟩
instance cfield_fr1 : CField Tryz.prog 78 1 2 := ⟨⟨_, _, Tryz.underlying78, rfl, rfl, by kernel_rfl⟩⟩
instance cfieldt_fr0 : CFieldT Tryz.prog 78 0 0 34 := ⟨⟨_, _, Tryz.underlying78, rfl, rfl, rfl⟩⟩
instance cfieldt_fr1 : CFieldT Tryz.prog 78 1 2 34 := ⟨⟨_, _, Tryz.underlying78, rfl, rfl, rfl⟩⟩
instance czero_fr : CZero Tryz.prog 78 [.bool false, .slice none 0 0, .bool false, .slice none 0 0] := ⟨⟨by kernel_rfl, by simp [Value.oneCell']⟩⟩
instance cslice_rat : CSlice Tryz.prog 133 36 := ⟨Tryz.underlying133⟩
instance celem_rat : CElem Tryz.prog 133 36 4 := ⟨Tryz.underlying133, by kernel_rfl⟩
instance crowz_rat : CRowZ Tryz.prog 36 4 [.bool false, .slice none 0 0, .bool false, .slice none 0 0] 64 := ⟨by kernel_rfl, rfl, rfl⟩
instance cbody57 : CBody Tryz.prog 57 := ⟨⟨_, Tryz.func57, rfl, by rfl⟩⟩
instance cbody58 : CBody Tryz.prog 58 := ⟨⟨_, Tryz.func58, rfl, by rfl⟩⟩
instance cbody88 : CBody Tryz.prog 88 := ⟨⟨_, Tryz.func88, rfl, by rfl⟩⟩
instance cbody49 : CBody Tryz.prog 49 := ⟨⟨_, Tryz.func49, rfl, by rfl⟩⟩
instance cbody148 : CBody Tryz.prog 148 := ⟨⟨_, Tryz.func148, rfl, by rfl⟩⟩
instance cbody69 : CBody Tryz.prog 69 := ⟨⟨_, Tryz.func69, rfl, by rfl⟩⟩
instance cbody118 : CBody Tryz.prog 118 := ⟨⟨_, Tryz.func118, rfl, by rfl⟩⟩
instance cbody37 : CBody Tryz.prog 37 := ⟨⟨_, Tryz.func37, rfl, by rfl⟩⟩
instance cbody71 : CBody Tryz.prog 71 := ⟨⟨_, Tryz.func71, rfl, by rfl⟩⟩
instance cbody149 : CBody Tryz.prog 149 := ⟨⟨_, Tryz.func149, rfl, by rfl⟩⟩
instance cbody28 : CBody Tryz.prog 28 := ⟨⟨_, Tryz.func28, rfl, by rfl⟩⟩
instance cbody50 : CBody Tryz.prog 50 := ⟨⟨_, Tryz.func50, rfl, by rfl⟩⟩
instance cbody55 : CBody Tryz.prog 55 := ⟨⟨_, Tryz.func55, rfl, by rfl⟩⟩
section
variable (En : Ev)
theorem gZe (n : Int) (h1 : -9223372036854775808 ≤ n) (h2 : n ≤ 9223372036854775807) : Fn Tryz.prog En 59 [ex (.int .i64 n)] (zC n) := mZC En n h1 h2
theorem ksign (a : Int) (ha : zl a ≤ 274877906944) : Fn Tryz.prog En 99 [zC a] (ex (.int .i64 (sg3 a))) := by
 have := jZQ En (decide (a < 0)) _ (aZk a.natAbs) (Nat.le_trans ha (by omega))
 rwa [zv_C] at this
theorem kneg (a : Int) (ha : zl a ≤ 274877906944) : Fn Tryz.prog En 102 [zC a] (zC (-a)) := by
 have := ineg En (decide (a < 0)) _ (aZk a.natAbs) ha
 rwa [zv_C] at this
theorem kmul (a b : Int) (ha : zl a ≤ 274877906944) (hb : zl b ≤ 274877906944) : Fn Tryz.prog En 100 [zC a, zC b] (zC (a * b)) := by
 have := imul En (decide (a < 0)) _ (decide (b < 0)) _ (aZk a.natAbs) (aZk b.natAbs) ha hb
 rwa [zv_C, zv_C] at this
theorem kadd (a b : Int) (ha : zl a ≤ 274877906944) (hb : zl b ≤ 274877906944) : Fn Tryz.prog En 166 [zC a, zC b] (zC (a + b)) := by
 have := iadd En (decide (a < 0)) _ (decide (b < 0)) _ (aZk a.natAbs) (aZk b.natAbs) ha hb
 rwa [zv_C, zv_C] at this
theorem kcmp (a b : Int) (ha : zl a ≤ 274877906944) (hb : zl b ≤ 274877906944) : Fn Tryz.prog En 89 [zC a, zC b] (ex (.int .i64 (cmpZ a b))) := by
 have := icmp En (decide (a < 0)) _ (decide (b < 0)) _ (aZk a.natAbs) (aZk b.natAbs) ha hb
 rwa [zv_C, zv_C] at this
theorem kpow (a : Int) (n : Nat) (ha : zl a ≤ 1073741824) (hn : n ≤ 64) : Fn Tryz.prog En 56 [zC a, ex (.int .i64 (n : Int))] (tupP [zC (a ^ n), ex (.bool true)]) := by
 have := ipow En (decide (a < 0)) _ n (aZk a.natAbs) ha hn
 rwa [zv_C] at this
theorem jZn (s : Bool) (l : List Nat) (s' : Bool) (l' : List Nat) (hl : Lm l) (hl' : Lm l') (hlen : l.length ≤ 274877906944) (hlen' : l'.length ≤ 274877906944) (hd : zv s' l' ≠ 0) :
  Fn Tryz.prog En 57 [zR s l, zR s' l'] (qC (Rat.divInt (zv s l) (zv s' l'))) := by
 rw [jZr _ hd]
 have hg0 := gd_ne (n := zv s l) hd
 have hgl : zl (gd (zv s l) (zv s' l')) ≤ 274877906944 := by
  have h1 : (gd (zv s l) (zv s' l')).natAbs ≤ (zv s' l').natAbs := Nat.le_of_dvd (Int.natAbs_pos.2 hd) (Int.natAbs_dvd_natAbs.2 (hZJ _ _).2)
  exact Nat.le_trans (dZS h1) (Nat.le_trans (eZ3 _ hl') hlen')
 have C1 := igcd En s l s' l' hl hl' hlen hlen'
 have C2 := jZQ En s' l' hl' (by omega)
 have C3 := jZS En s l (decide (gd (zv s l) (zv s' l') < 0)) (digs (gd (zv s l) (zv s' l')).natAbs) hl (aZk _) hlen hgl (by rw [zv_C]; exact hg0)
 have C4 := jZS En s' l' (decide (gd (zv s l) (zv s' l') < 0)) (digs (gd (zv s l) (zv s' l')).natAbs) hl' (aZk _) hlen' hgl (by rw [zv_C]; exact hg0)
 rw [zv_C] at C3 C4
 by_cases hn : zv s' l' < 0
 ·have e : gd (zv s l) (zv s' l') = -((Nat.gcd (zv s l).natAbs (zv s' l').natAbs : Nat) : Int) := by unfold gd; rw [if_pos hn]
  have C5 := kneg En ((Nat.gcd (zv s l).natAbs (zv s' l').natAbs : Nat) : Int) (by rw [← iZF, ← e]; exact hgl)
  rw [← e] at C5
  have hs : sg3 (zv s' l') < 0 := by unfold sg3; rw [if_neg hd, if_pos hn]; decide
  refine aZb Tryz.func57 rfl Tryz.ntmps57 rfl ?_
  intro w0 h0
  refine js (jr (jB jj jj jj (jB jj jj jj (jA jj jj jj (jn (js (jr (jL jj jj jj (jL jj jj jj (jS (aZa C1 ⟨jj, jj, trivial⟩) (jA jj jj jj (jP jj jj jj jj (jn (js (js (jr (jL jj jj jj (jS (aZa C2 ⟨jj, trivial⟩) (jS (bLt jj jj) (jn (jt jj (jr (jL jj jj jj (jS (aZa C5 ⟨jj, trivial⟩) (jP jj jj jj jj (jn (js (jr (jL jj jj jj (jL jj jj jj (jS (aZa C3 ⟨jj, jj, trivial⟩) (jm jj (jx' jj jj (jx' jj jj (jx' jj jj (jP jj jj jj jj (jn (js (jr (jL jj jj jj (jL jj jj jj (jS (aZa C4 ⟨jj, jj, trivial⟩) (jm jj (jx' jj jj (jx' jj jj (jx' jj jj (jP jj jj jj jj (jn ?_))))))))))))))))))))))))))))))))))))))))))))))))
  refine js (jr (jL jj jj jj (jL jj jj jj (jS (aZl (ps := [(_, _), (_, _)]) ⟨jj, Part.c jj, jj, Part.c jj, trivial⟩ jj) (jP jj jj jj jj (jn (ji ?_)))))))
  exact rtC rfl jj jj
 ·have e : gd (zv s l) (zv s' l') = ((Nat.gcd (zv s l).natAbs (zv s' l').natAbs : Nat) : Int) := by unfold gd; rw [if_neg hn]
  rw [← e] at C1
  have hs : ¬ sg3 (zv s' l') < 0 := by unfold sg3; rw [if_neg hd, if_neg hn]; decide
  refine aZb Tryz.func57 rfl Tryz.ntmps57 rfl ?_
  intro w0 h0
  refine js (jr (jB jj jj jj (jB jj jj jj (jA jj jj jj (jn (js (jr (jL jj jj jj (jL jj jj jj (jS (aZa C1 ⟨jj, jj, trivial⟩) (jA jj jj jj (jP jj jj jj jj (jn (js (js (jr (jL jj jj jj (jS (aZa C2 ⟨jj, trivial⟩) (jS (bLf jj jj) (jn (jf jj (jp (js (jr (jL jj jj jj (jL jj jj jj (jS (aZa C3 ⟨jj, jj, trivial⟩) (jm jj (jx' jj jj (jx' jj jj (jx' jj jj (jP jj jj jj jj (jn (js (jr (jL jj jj jj (jL jj jj jj (jS (aZa C4 ⟨jj, jj, trivial⟩) (jm jj (jx' jj jj (jx' jj jj (jx' jj jj (jP jj jj jj jj (jn ?_))))))))))))))))))))))))))))))))))))))))))))
  refine js (jr (jL jj jj jj (jL jj jj jj (jS (aZl (ps := [(_, _), (_, _)]) ⟨jj, Part.c jj, jj, Part.c jj, trivial⟩ jj) (jP jj jj jj jj (jn (ji ?_)))))))
  exact rtC rfl jj jj
theorem fZw (a b : Int) (ha : zl a ≤ 274877906944) (hb : zl b ≤ 274877906944) (h : b ≠ 0) : Fn Tryz.prog En 57 [zC a, zC b] (qC (Rat.divInt a b)) := by
 have := jZn En (decide (a < 0)) _ (decide (b < 0)) _ (aZk a.natAbs) (aZk b.natAbs) ha hb (by rw [zv_C]; exact h)
 rwa [zv_C, zv_C] at this
theorem rwhole (s : Bool) (l : List Nat) (hl : Lm l) (hlen : l.length ≤ 274877906944) : Fn Tryz.prog En 58 [zR s l] (qC (zv s l : Rat)) := by
 have C1 := iZ3 En s l hl hlen
 have C2 := gZe En 1 (by omega) (by omega)
 have e : qC ((zv s l : Int) : Rat) = aggP [ex (.bool (decide (zv s l < 0))), mag (digs (zv s l).natAbs), ex (.bool (decide ((1 : Int) < 0))), mag (digs (1 : Int).natAbs)] := by
  unfold qC qP RQ.cells RQ.of
  rw [Rat.num_intCast, Rat.den_intCast]
  rfl
 rw [e]
 refine aZb Tryz.func58 rfl Tryz.ntmps58 rfl ?_
 intro w0 h0
 refine js (jr (jB jj jj jj (jA jj jj jj (jn (js (jr (jL jj jj jj (jS (aZa C1 ⟨jj, trivial⟩) (jS (aZa C2 ⟨jj, trivial⟩) (jS (aZl (ps := [(_, _), (_, _)]) ⟨jj, Part.c jj, jj, Part.c jj, trivial⟩ jj) (jP jj jj jj jj (jn (ji ?_)))))))))))))
 exact rtC rfl jj jj
theorem mZ9 (a : Int) (ha : zl a ≤ 274877906944) : Fn Tryz.prog En 58 [zC a] (qC (a : Rat)) := by
 have := rwhole En (decide (a < 0)) _ (aZk a.natAbs) ha
 rwa [zv_C] at this
theorem iZr (p : RQ) (hp : p.ok) : Fn Tryz.prog En 88 [qP p] (qC p.v) := by
 have hll := hp.ll
 have hml := hp.ml
 have C1 := jZQ En p.t p.m hp.m (by omega)
 by_cases hz : zv p.t p.m = 0
 ·have e : p.v = ((0 : Int) : Rat) := by unfold RQ.v; rw [hz, Rat.divInt_zero]; rfl
  rw [e]
  have hs : sg3 (zv p.t p.m) = 0 := by rw [hz]; rfl
  have C2 := (mZ9 En 0 (by decide)).arg (ps := [aggP [ex (.bool false), ex (.slice none 0 0)]]) ⟨hZb, trivial⟩
  refine aZb Tryz.func88 rfl Tryz.ntmps88 rfl ?_
  intro w0 h0
  refine js (jr (jB jj jj jj (jA jj jj jj (jn (js (js (jr (jF jj jj (jL jj jj jj (jS (aZa C1 ⟨jj, trivial⟩) (jS (bEt jj jj) (jn (jt jj (js (jr (jS (aZl (ps := []) trivial jj) (jS (aZa C2 ⟨jj, trivial⟩) (jP jj jj jj jj (jn (ji ?_))))))))))))))))))))
  exact rtC rfl jj jj
 ·have hs : sg3 (zv p.t p.m) ≠ 0 := by unfold sg3; rw [if_neg hz]; split <;> decide
  have C2 := jZn En p.s p.l p.t p.m hp.l hp.m (by omega) (by omega) hz
  refine aZb Tryz.func88 rfl Tryz.ntmps88 rfl ?_
  intro w0 h0
  refine js (jr (jB jj jj jj (jA jj jj jj (jn (js (js (jr (jF jj jj (jL jj jj jj (jS (aZa C1 ⟨jj, trivial⟩) (jS (bEf jj jj) (jn (jf jj (jp (js (jr (jF jj jj (jL jj jj jj (jF jj jj (jL jj jj jj (jS (aZa C2 ⟨jj, jj, trivial⟩) (jP jj jj jj jj (jn (ji ?_))))))))))))))))))))))))
  exact rtC rfl jj jj
theorem bZe (p : RQ) (hp : p.ok) : Fn Tryz.prog En 49 [qP p] (qC p.v) := by
 have C1 := iZr En p hp
 refine aZb Tryz.func49 rfl Tryz.ntmps49 rfl ?_
 intro w0 h0
 refine js (jr (jB jj jj jj (jA jj jj jj (jn (js (jr (jL jj jj jj (jS (aZa C1 ⟨jj, trivial⟩) (jP jj jj jj jj (jn (ji ?_)))))))))))
 exact rtC rfl jj jj
theorem rsgn (r : Rat) (hr : Sz 1073741824 r) : Fn Tryz.prog En 55 [qC r] (ex (.int .i64 (sg3 r.num))) := by
 have C1 := ksign En r.num (Nat.le_trans hr.1 (by omega))
 refine aZb Tryz.func55 rfl Tryz.ntmps55 rfl ?_
 intro w0 h0
 refine js (jr (jB jj jj jj (ja jj (jn (js (jr (jF jj jj (jL jj jj jj (jS (aZa C1 ⟨jj, trivial⟩) (ja jj (jn (ji ?_))))))))))))
 exact rtT rfl jj
theorem rsum (p q : RQ) (hp : p.ok) (hq : q.ok) : Fn Tryz.prog En 148 [slc 4 (p.cells ++ q.cells) 2] (qC (p.v + q.v)) := by
 have hr := RQ.sz hp
 have hs := RQ.sz hq
 have K1 := bZe En p hp
 have K2 := bZe En q hq
 generalize p.v = r at *
 generalize q.v = s at *
 obtain ⟨r1, r2⟩ := hr
 obtain ⟨s1, s2⟩ := hs
 have S1 := gZe En 1 (by omega) (by omega)
 have z0 : zl 0 ≤ 1 := by decide
 have z1 : zl 1 ≤ 1 := by decide
 have A1 := bZw r.num s.den
 have A2 := bZw s.num r.den
 have A3 := bZw r.den s.den
 have A4 := iZG (r.num * s.den) (s.num * r.den)
 let N : Nat → Int := fun i => if i = 0 then 0 else if i = 1 then r.num else r.num * s.den + s.num * r.den
 let D : Nat → Int := fun i => if i = 0 then 1 else if i = 1 then r.den else r.den * s.den
 have F := fZw En (r.num * s.den + s.num * r.den) (r.den * s.den) (by omega) (by omega) (iZ6 r s)
 rw [← gZ9] at F
 have hw1 : IntKind.i64.wrap (((0 : Nat) : Int) + 1) = ((1 : Nat) : Int) := by decide
 have hw2 : IntKind.i64.wrap (((1 : Nat) : Int) + 1) = ((2 : Nat) : Int) := by decide
 have q0 : ((p.cells ++ q.cells).drop (0 * 4)).take 4 = p.cells := rfl
 have q1 : ((p.cells ++ q.cells).drop (1 * 4)).take 4 = q.cells := rfl
 refine aZb Tryz.func148 rfl Tryz.ntmps148 rfl ?_
 intro w0 h0
 refine js (jr (jA jj jj jj (jn (js (jr (jS (aZl (ps := []) trivial jj) (jS (aZa S1 ⟨jj, trivial⟩) (jA jj jj jj (jA jj jj jj (jP jj jj jj jj (jP jj jj jj jj (jn (js (js (jr (jm jj (jE jj (jm jj (jn (jb ?_))))))))))))))))))))
 refine WpD.loop (α := {i : Nat // i ≤ 2}) (fun i => ⟨[(2, .ptr 2 0), (3, .ptr 3 0), (4, .ptr 4 0), (10, .one (slc 4 (p.cells ++ q.cells) 2)), (11, .one (ex (.int .i64 ((2 : Nat) : Int)))), (12, .one (ex (.int .i64 ((i.1 : Nat) : Int))))], [(3, dZ8 (N i.1)), (4, dZ8 (D i.1)), (2, [ex (.bool false), ex (.slice none 0 0), ex (.bool false), ex (.slice none 0 0)])]⟩) (fun i => 2 - i.1) ⟨0, by omega⟩ ?_ ?_
 ·refine Sub.mk ?_ ⟨.inl ⟨_, jj, ⟨PLe.refl _, eZl, trivial⟩⟩, .inl ⟨_, jj, PsLe.refl _⟩, .inl ⟨_, jj, PsLe.refl _⟩, trivial⟩
  repeat (first | exact trivial | refine jV jj ?_ | refine jw jj (js0 jj) ?_)
 rintro ⟨i, hi⟩
 dsimp only
 have hcase : i = 0 ∨ i = 1 ∨ i = 2 := by omega
 rcases hcase with rfl | rfl | rfl
 ·have m1 := kmul En 0 r.den (by omega) (by omega)
  have m2 := kmul En r.num 1 (by omega) (by omega)
  have m3 := kadd En (0 * r.den) (r.num * 1) (by rw [Int.zero_mul]; omega) (by rw [Int.mul_one]; omega)
  have m4 := kmul En 1 r.den (by omega) (by omega)
  rw [Int.zero_mul] at m1 m3
  rw [Int.mul_one] at m2 m3
  rw [Int.zero_add] at m3
  rw [Int.one_mul] at m4
  refine js (jr (jS (bLt jj jj) (jn (js (jt jj (jp (js (jb (js (jr (jS (aZc jj jj (by first | assumption | omega) (by assumption)) (jS (aZg jj jj jj) (jA jj jj jj (jP jj jj jj jj (jn (js (jr (jL jj jj jj (jS (aZa K1 ⟨jj, trivial⟩) (jA jj jj jj (jP jj jj jj jj (jn (js (jr (jL jj jj jj (jF jj jj (jL jj jj jj (jS (aZa m1 ⟨jj, jj, trivial⟩) (jF jj jj (jL jj jj jj (jL jj jj jj (jS (aZa m2 ⟨jj, jj, trivial⟩) (jS (aZa m3 ⟨jj, jj, trivial⟩) (jP jj jj jj jj (jn (jr (jL jj jj jj (jF jj jj (jL jj jj jj (jS (aZa m4 ⟨jj, jj, trivial⟩) (jP jj jj jj jj (jn ?_))))))))))))))))))))))))))))))))))))))))))
  refine jr (jS (bAd jj jj hw1) (jm jj (jn ?_)))
  refine ⟨⟨1, by omega⟩, ?_, by dsimp only; omega⟩
  refine Sub.mk ?_ ?_ <;> repeat (first | exact trivial | refine jV jj ?_ | refine jy jj ?_ | refine jw jj (js0 jj) ?_)
 ·have m1 := kmul En r.num s.den (by omega) (by omega)
  have m2 := kmul En s.num r.den (by omega) (by omega)
  have m3 := kadd En (r.num * s.den) (s.num * r.den) (by omega) (by omega)
  have m4 := kmul En r.den s.den (by omega) (by omega)
  refine js (jr (jS (bLt jj jj) (jn (js (jt jj (jp (js (jb (js (jr (jS (aZc jj jj (by first | assumption | omega) (by assumption)) (jS (aZg jj jj jj) (jA jj jj jj (jP jj jj jj jj (jn (js (jr (jL jj jj jj (jS (aZa K2 ⟨jj, trivial⟩) (jA jj jj jj (jP jj jj jj jj (jn (js (jr (jL jj jj jj (jF jj jj (jL jj jj jj (jS (aZa m1 ⟨jj, jj, trivial⟩) (jF jj jj (jL jj jj jj (jL jj jj jj (jS (aZa m2 ⟨jj, jj, trivial⟩) (jS (aZa m3 ⟨jj, jj, trivial⟩) (jP jj jj jj jj (jn (jr (jL jj jj jj (jF jj jj (jL jj jj jj (jS (aZa m4 ⟨jj, jj, trivial⟩) (jP jj jj jj jj (jn ?_))))))))))))))))))))))))))))))))))))))))))
  refine jr (jS (bAd jj jj hw2) (jm jj (jn ?_)))
  refine ⟨⟨2, by omega⟩, ?_, by dsimp only; omega⟩
  refine Sub.mk ?_ ?_ <;> repeat (first | exact trivial | refine jV jj ?_ | refine jy jj ?_ | refine jw jj (js0 jj) ?_)
 ·refine js (jr (jS (bLf jj jj) (jn (js (jf jj (je (js (jr (jL jj jj jj (jL jj jj jj (jS (aZa F ⟨jj, jj, trivial⟩) (jP jj jj jj jj (jn (ji ?_))))))))))))))
  exact rtC rfl jj jj
theorem hZn (p q : RQ) (hp : p.ok) (hq : q.ok) : Fn Tryz.prog En 69 [slc 4 (p.cells ++ q.cells) 2] (qC (p.v * q.v)) := by
 have hr := RQ.sz hp
 have hs := RQ.sz hq
 have K1 := bZe En p hp
 have K2 := bZe En q hq
 generalize p.v = r at *
 generalize q.v = s at *
 obtain ⟨r1, r2⟩ := hr
 obtain ⟨s1, s2⟩ := hs
 have S1 := gZe En 1 (by omega) (by omega)
 have z1 : zl 1 ≤ 1 := by decide
 have A1 := bZw r.num s.num
 have A3 := bZw r.den s.den
 let N : Nat → Int := fun i => if i = 0 then 1 else if i = 1 then r.num else r.num * s.num
 let D : Nat → Int := fun i => if i = 0 then 1 else if i = 1 then r.den else r.den * s.den
 have F := fZw En (r.num * s.num) (r.den * s.den) (by omega) (by omega) (iZ6 r s)
 rw [← gZ8] at F
 have hw1 : IntKind.i64.wrap (((0 : Nat) : Int) + 1) = ((1 : Nat) : Int) := by decide
 have hw2 : IntKind.i64.wrap (((1 : Nat) : Int) + 1) = ((2 : Nat) : Int) := by decide
 have q0 : ((p.cells ++ q.cells).drop (0 * 4)).take 4 = p.cells := rfl
 have q1 : ((p.cells ++ q.cells).drop (1 * 4)).take 4 = q.cells := rfl
 refine aZb Tryz.func69 rfl Tryz.ntmps69 rfl ?_
 intro w0 h0
 refine js (jr (jA jj jj jj (jn (js (jr (jS (aZa S1 ⟨jj, trivial⟩) (jS (aZa S1 ⟨jj, trivial⟩) (jA jj jj jj (jA jj jj jj (jP jj jj jj jj (jP jj jj jj jj (jn (js (js (jr (jm jj (jE jj (jm jj (jn (jb ?_))))))))))))))))))))
 refine WpD.loop (α := {i : Nat // i ≤ 2}) (fun i => ⟨[(2, .ptr 2 0), (3, .ptr 3 0), (4, .ptr 4 0), (10, .one (slc 4 (p.cells ++ q.cells) 2)), (11, .one (ex (.int .i64 ((2 : Nat) : Int)))), (12, .one (ex (.int .i64 ((i.1 : Nat) : Int))))], [(3, dZ8 (N i.1)), (4, dZ8 (D i.1)), (2, [ex (.bool false), ex (.slice none 0 0), ex (.bool false), ex (.slice none 0 0)])]⟩) (fun i => 2 - i.1) ⟨0, by omega⟩ ?_ ?_
 ·refine Sub.mk ?_ ?_ <;> repeat (first | exact trivial | refine jV jj ?_ | refine jy jj ?_ | refine jw jj (js0 jj) ?_)
 rintro ⟨i, hi⟩
 dsimp only
 have hcase : i = 0 ∨ i = 1 ∨ i = 2 := by omega
 rcases hcase with rfl | rfl | rfl
 ·have m1 := kmul En 1 r.num (by omega) (by omega)
  have m4 := kmul En 1 r.den (by omega) (by omega)
  rw [Int.one_mul] at m1 m4
  refine js (jr (jS (bLt jj jj) (jn (js (jt jj (jp (js (jb (js (jr (jS (aZc jj jj (by first | assumption | omega) (by assumption)) (jS (aZg jj jj jj) (jA jj jj jj (jP jj jj jj jj (jn (js (jr (jL jj jj jj (jS (aZa K1 ⟨jj, trivial⟩) (jA jj jj jj (jP jj jj jj jj (jn (jr (jL jj jj jj (jF jj jj (jL jj jj jj (jS (aZa m1 ⟨jj, jj, trivial⟩) (jL jj jj jj (jF jj jj (jL jj jj jj (jS (aZa m4 ⟨jj, jj, trivial⟩) (jP jj jj jj jj (jP jj jj jj jj (jn (jr (jS (bAd jj jj hw1) (jm jj (jn ?_))))))))))))))))))))))))))))))))))))))
  refine ⟨⟨1, by omega⟩, ?_, by dsimp only; omega⟩
  refine Sub.mk ?_ ?_ <;> repeat (first | exact trivial | refine jV jj ?_ | refine jy jj ?_ | refine jw jj (js0 jj) ?_)
 ·have m1 := kmul En r.num s.num (by omega) (by omega)
  have m4 := kmul En r.den s.den (by omega) (by omega)
  refine js (jr (jS (bLt jj jj) (jn (js (jt jj (jp (js (jb (js (jr (jS (aZc jj jj (by first | assumption | omega) (by assumption)) (jS (aZg jj jj jj) (jA jj jj jj (jP jj jj jj jj (jn (js (jr (jL jj jj jj (jS (aZa K2 ⟨jj, trivial⟩) (jA jj jj jj (jP jj jj jj jj (jn (jr (jL jj jj jj (jF jj jj (jL jj jj jj (jS (aZa m1 ⟨jj, jj, trivial⟩) (jL jj jj jj (jF jj jj (jL jj jj jj (jS (aZa m4 ⟨jj, jj, trivial⟩) (jP jj jj jj jj (jP jj jj jj jj (jn (jr (jS (bAd jj jj hw2) (jm jj (jn ?_))))))))))))))))))))))))))))))))))))))
  refine ⟨⟨2, by omega⟩, ?_, by dsimp only; omega⟩
  refine Sub.mk ?_ ?_ <;> repeat (first | exact trivial | refine jV jj ?_ | refine jy jj ?_ | refine jw jj (js0 jj) ?_)
 ·refine js (jr (jS (bLf jj jj) (jn (js (jf jj (je (js (jr (jL jj jj jj (jL jj jj jj (jS (aZa F ⟨jj, jj, trivial⟩) (jP jj jj jj jj (jn (ji ?_))))))))))))))
  exact rtC rfl jj jj
theorem rmul (p q : RQ) (hp : p.ok) (hq : q.ok) : Fn Tryz.prog En 37 [qP p, qP q] (qC (p.v * q.v)) := by
 have C1 := hZn En p q hp hq
 refine aZb Tryz.func37 rfl Tryz.ntmps37 rfl ?_
 intro w0 h0
 refine js (jr (jB jj jj jj (jB jj jj jj (jA jj jj jj (jn (js (jr (jL jj jj jj (jL jj jj jj (jS (aZE (ps := [(_, _), (_, _)]) ⟨jj, Part.c jj, jj, Part.c jj, trivial⟩ jj jj jj) (jS (aZa C1 ⟨jj, trivial⟩) (jP jj jj jj jj (jn (ji ?_))))))))))))))
 exact rtC rfl jj jj
theorem lZb (r : Rat) {a b : Int} (h1 : r.num = a) (h2 : (r.den : Int) = b) : qC r = aggP [ex (.bool (decide (a < 0))), mag (digs a.natAbs), ex (.bool (decide (b < 0))), mag (digs b.natAbs)] := by
 subst h1; subst h2; rfl
theorem rneg (p : RQ) (hp : p.ok) : Fn Tryz.prog En 149 [qP p] (qC (-p.v)) := by
 have hr := RQ.sz hp
 have C1 := bZe En p hp
 generalize p.v = r at *
 have C2 := kneg En r.num (Nat.le_trans hr.1 (by omega))
 rw [lZb (-r) (a := -r.num) (b := r.den) rfl rfl]
 refine aZb Tryz.func149 rfl Tryz.ntmps149 rfl ?_
 intro w0 h0
 refine js (jr (jB jj jj jj (jA jj jj jj (jn (js (jr (jL jj jj jj (jS (aZa C1 ⟨jj, trivial⟩) (jA jj jj jj (jP jj jj jj jj (jn (js (jr (jF jj jj (jL jj jj jj (jS (aZa C2 ⟨jj, trivial⟩) (jF jj jj (jL jj jj jj (jS (aZl (ps := [(_, _), (_, _)]) ⟨jj, Part.c jj, jj, Part.c jj, trivial⟩ jj) (jP jj jj jj jj (jn (ji ?_))))))))))))))))))))))
 exact rtC rfl jj jj
theorem rsub (p q : RQ) (hp : p.ok) (hq : q.ok) : Fn Tryz.prog En 118 [qP p, qP q] (qC (p.v - q.v)) := by
 have C1 := rneg En q hq
 have C2 := rsum En p (RQ.of (-q.v)) hp (RQ.of_ok (gZy (RQ.sz hq)))
 rw [RQ.of_v, ← Rat.sub_eq_add_neg] at C2
 refine aZb Tryz.func118 rfl Tryz.ntmps118 rfl ?_
 intro w0 h0
 refine js (jr (jB jj jj jj (jB jj jj jj (jA jj jj jj (jn (js (jr (jL jj jj jj (jL jj jj jj (jS (aZa C1 ⟨jj, trivial⟩) (jS (aZE (ps := [(_, _), (_, _)]) ⟨jj, Part.c jj, jj, Part.c jj, trivial⟩ jj jj jj) (jS (aZa C2 ⟨jj, trivial⟩) (jP jj jj jj jj (jn (ji ?_)))))))))))))))
 exact rtC rfl jj jj
theorem rquo (p q : RQ) (hp : p.ok) (hq : q.ok) (h0 : q.v ≠ 0) : Fn Tryz.prog En 71 [qP p, qP q] (tupP [qC (p.v / q.v), ex (.bool true)]) := by
 have hs := RQ.sz hq
 have C1 := bZe En q hq
 generalize q.v = s at *
 have hn : s.num ≠ 0 := fun h => h0 (Rat.num_eq_zero.1 h)
 have hsg : sg3 s.num ≠ 0 := by unfold sg3; rw [if_neg hn]; split <;> decide
 have C2 := rsgn En s hs
 have C3 := hZn En p ⟨decide ((s.den : Int) < 0), digs (s.den : Int).natAbs, decide (s.num < 0), digs s.num.natAbs⟩ hp ⟨aZk _, aZk _, hs.2, hs.1⟩
 have e : (⟨decide ((s.den : Int) < 0), digs (s.den : Int).natAbs, decide (s.num < 0), digs s.num.natAbs⟩ : RQ).v = s⁻¹ := by
  unfold RQ.v
  simp only
  rw [zv_C, zv_C, Rat.inv_def]
 rw [e, ← Rat.div_def] at C3
 refine aZb Tryz.func71 rfl Tryz.ntmps71 rfl ?_
 intro w0 h0
 refine js (jr (jB jj jj jj (jB jj jj jj (jA jj jj jj (ja jj (jn (js (jr (jL jj jj jj (jS (aZa C1 ⟨jj, trivial⟩) (jA jj jj jj (jP jj jj jj jj (jn (js (js (jr (jL jj jj jj (jS (aZa C2 ⟨jj, trivial⟩) (jS (bEf jj jj) (jn (jf jj (jp (js (jr (jL jj jj jj (jF jj jj (jL jj jj jj (jF jj jj (jL jj jj jj (jS (aZl (ps := [(_, _), (_, _)]) ⟨jj, Part.c jj, jj, Part.c jj, trivial⟩ jj) (jS (aZE (ps := [(_, _), (_, _)]) ⟨jj, Part.c jj, jj, Part.c jj, trivial⟩ jj jj jj) (jS (aZa C3 ⟨jj, trivial⟩) (jP jj jj jj jj (ja jj (jn (ji ?_))))))))))))))))))))))))))))))))))))
 exact rtD rfl jj jj jj
end
end Go.Proofs.YtdieokoenhncfaaGreatDoor
/- Rational numbers of the program: Pow, Cmp, IsWhole. -/
namespace Go.Proofs.YtdieokoenhncfaaGreatDoor
open Go.RowKit Limb
theorem dZ3 (a b : Int) : ∀ n : Nat, Rat.divInt (a ^ n) (b ^ n) = (Rat.divInt a b) ^ n
 | 0 => by simp; rfl
 | n + 1 => by rw [Int.pow_succ, Int.pow_succ, ← Rat.divInt_mul_divInt, dZ3 a b n, Rat.pow_succ]
theorem mZi (a : Int) : ∀ n : Nat, 1 ≤ zl a → zl (a ^ n) ≤ n * zl a + 1
 | 0, _ => by rw [Int.pow_zero]; exact Nat.le_trans (show zl 1 ≤ 1 by decide) (by omega)
 | n + 1, h => by
  rw [Int.pow_succ]
  have h1 := bZw (a ^ n) a
  have h2 := mZi a n h
  rw [Nat.succ_mul]; omega
theorem zl_pos {a : Int} (h : a ≠ 0) : 1 ≤ zl a := by
 unfold zl
 rw [aZF (by omega)]
 simp
theorem bZZ {a : Int} {b n : Nat} (h : zl a ≤ b) : zl (a ^ n) ≤ n * b + 1 := by
 by_cases ha : a = 0
 ·subst ha
  cases n with
  | zero => rw [Int.pow_zero]; exact Nat.le_trans (show zl 1 ≤ 1 by decide) (by omega)
  | succ n => rw [Int.zero_pow (by omega)]; exact Nat.le_trans (show zl 0 ≤ 0 by decide) (by omega)
 ·have := mZi a n (zl_pos ha)
  have : n * zl a ≤ n * b := Nat.mul_le_mul_left _ h
  omega
section
variable (En : Ev)
theorem rpow (p : RQ) (n : Nat) (hp : p.ok) (hn : n ≤ 64) : Fn Tryz.prog En 28 [qP p, ex (.int .i64 (n : Int))] (tupP [qC (p.v ^ n), ex (.bool true)]) := by
 have hr := RQ.sz hp
 have C1 := bZe En p hp
 generalize p.v = r at *
 have h1 := bZZ (n := n) hr.1
 have h2 := bZZ (n := n) hr.2
 have hm : n * 1073741824 ≤ 64 * 1073741824 := Nat.mul_le_mul_right _ hn
 have C2 := kpow En r.num n hr.1 hn
 have C3 := kpow En r.den n hr.2 hn
 have C4 := fZw En (r.num ^ n) ((r.den : Int) ^ n) (by omega) (by omega) (Int.pow_ne_zero (eZW r))
 rw [dZ3, Rat.num_divInt_den] at C4
 refine aZb Tryz.func28 rfl Tryz.ntmps28 rfl ?_
 intro w0 h0
 refine js (jr (jB jj jj jj (jA jj jj jj (ja jj (jn (js (jr (jL jj jj jj (jS (aZa C1 ⟨jj, trivial⟩) (jA jj jj jj (jP jj jj jj jj (jn (js (js (jr (jm jj (jS (bLf jj jj) (jm jj (jgm jj (jg (bGf jj jj) (jQ jj jj (jm jj (jgm jj (jg (bLf jj jj) (jgm jj (jk (jk (jk (jg (aZj jj jj) (jQ jj jj (jn (jf jj (jp (js (jr (jF jj jj (jL jj jj jj (jF jj jj (jL jj jj jj (jA jj jj jj (jA jj jj jj (jP jj jj jj jj (jP jj jj jj jj (jn ?_))))))))))))))))))))))))))))))))))))))))))))
 refine js (js (jr (jm jj (jS (bLf jj jj) (jn (jf jj (jp (js (jr (jL jj jj jj (jm jj (jS (aZa C2 ⟨jj, jj, trivial⟩) (jm jj (jx' jj jj (jx' jj jj (jP jj jj jj jj (jn (js (jr (jL jj jj jj (jm jj (jS (aZa C3 ⟨jj, jj, trivial⟩) (jm jj (jx' jj jj (jx' jj jj (jP jj jj jj jj (jn (js (jr (jL jj jj jj (jL jj jj jj (jS (aZa C4 ⟨jj, jj, trivial⟩) (jP jj jj jj jj (ja jj (jn (ji ?_))))))))))))))))))))))))))))))))))))
 exact rtD rfl jj jj jj
theorem kZY (p : RQ) (n : Nat) (hp : p.ok) (hn : n ≤ 64) (hn0 : 0 < n) (h0 : p.v ≠ 0) : Fn Tryz.prog En 28 [qP p, ex (.int .i64 (-(n : Int)))] (tupP [qC (p.v⁻¹ ^ n), ex (.bool true)]) := by
 have hr := RQ.sz hp
 have C1 := bZe En p hp
 generalize p.v = r at *
 have hnum : r.num ≠ 0 := fun h => h0 (Rat.num_eq_zero.1 h)
 have hsg : sg3 r.num ≠ 0 := by unfold sg3; rw [if_neg hnum]; split <;> decide
 have S1 := rsgn En r hr
 have h1 := bZZ (n := n) hr.1
 have h2 := bZZ (n := n) hr.2
 have hm : n * 1073741824 ≤ 64 * 1073741824 := Nat.mul_le_mul_right _ hn
 have C2 := kpow En r.num n hr.1 hn
 have C3 := kpow En r.den n hr.2 hn
 have C4 := fZw En ((r.den : Int) ^ n) (r.num ^ n) (by omega) (by omega) (Int.pow_ne_zero hnum)
 rw [dZ3, ← Rat.inv_def] at C4
 have e : IntKind.i64.wrap (-(-(n : Int))) = (n : Int) := by rw [Int.neg_neg]; exact w64 (by omega) (by omega)
 refine aZb Tryz.func28 rfl Tryz.ntmps28 rfl ?_
 intro w0 h0
 refine js (jr (jB jj jj jj (jA jj jj jj (ja jj (jn (js (jr (jL jj jj jj (jS (aZa C1 ⟨jj, trivial⟩) (jA jj jj jj (jP jj jj jj jj (jn (js (js (jr (jm jj (jS (bLf jj jj) (jm jj (jgm jj (jg (bGf jj jj) (jQ jj jj (jm jj (jgm jj (jg (bLt jj jj) (jgm jj (jg (aZ2 jj jj jj jj) (jg (aZa S1 ⟨jj, trivial⟩) (jg (bEf jj jj) (jg (aZn jj jj) (jQ jj jj (jn (jf jj (jp (js (jr (jF jj jj (jL jj jj jj (jF jj jj (jL jj jj jj (jA jj jj jj (jA jj jj jj (jP jj jj jj jj (jP jj jj jj jj (jn ?_))))))))))))))))))))))))))))))))))))))))))))
 refine js (js (jr (jm jj (jS (bLt jj jj) (jn (jt jj (jr (jm jj (jS (bZB jj (fun w => bZA w _ _) (vint e)) (jL jj jj jj (jL jj jj jj (ja jj (jP jj jj jj jj (jP jj jj jj jj (jn (js (jr (jL jj jj jj (jm jj (jS (aZa C3 ⟨jj, jj, trivial⟩) (jm jj (jx' jj jj (jx' jj jj (jP jj jj jj jj (jn (js (jr (jL jj jj jj (jm jj (jS (aZa C2 ⟨jj, jj, trivial⟩) (jm jj (jx' jj jj (jx' jj jj (jP jj jj jj jj (jn (js (jr (jL jj jj jj (jL jj jj jj (jS (aZa C4 ⟨jj, jj, trivial⟩) (jP jj jj jj jj (ja jj (jn ?_)))))))))))))))))))))))))))))))))))))))))))
 refine ji ?_
 exact rtD rfl jj jj jj
theorem kZZ (p : RQ) (hp : p.ok) : Fn Tryz.prog En 50 [qP p] (ex (.bool (cmpZ p.v.den 1 == 0))) := by
 have hr := RQ.sz hp
 have K1 := bZe En p hp
 generalize p.v = r at *
 have S1 := gZe En 1 (by omega) (by omega)
 have m3 := kcmp En r.den 1 (Nat.le_trans hr.2 (by omega)) (by decide)
 refine aZb Tryz.func50 rfl Tryz.ntmps50 rfl ?_
 intro w0 h0
 refine js (jr (jB jj jj jj (ja jj (jn (js (jr (jL jj jj jj (jS (aZa K1 ⟨jj, trivial⟩) ?_))))))))
 first | refine jS (dZa jj jj) ?_ | refine jS (cZZ jj jj) ?_
 refine jS (aZa S1 ⟨jj, trivial⟩) (jS (aZa m3 ⟨jj, jj, trivial⟩) (jS (aZu jj jj (fun w => aZ4 w _ _ _ _ _ _)) (ja jj (jn (ji ?_)))))
 exact rtT rfl jj
end
end Go.Proofs.YtdieokoenhncfaaGreatDoor

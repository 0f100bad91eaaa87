/- Rational numbers of the reference. -/
import Derived.Test.YtdieokoenhncfaaGreatDoorMem
import Derived.Test.YtdieokoenhncfaaGreatDoorIc
import Derived.Test.YtdieokoenhncfaaGreatDoorRb
set_option maxRecDepth 3000
namespace Go.Proofs.YtdieokoenhncfaaGreatDoor
open Go.RowKit Limb
instance cbody73 : CBody Tryz.prog 73 := ⟨⟨_, Tryz.func73, rfl, by rfl⟩⟩
instance cbody115 : CBody Tryz.prog 115 := ⟨⟨_, Tryz.func115, rfl, by rfl⟩⟩
instance cbody64 : CBody Tryz.prog 64 := ⟨⟨_, Tryz.func64, rfl, by rfl⟩⟩
instance cbody72 : CBody Tryz.prog 72 := ⟨⟨_, Tryz.func72, rfl, by rfl⟩⟩
instance cbody34 : CBody Tryz.prog 34 := ⟨⟨_, Tryz.func34, rfl, by rfl⟩⟩
instance cbody155 : CBody Tryz.prog 155 := ⟨⟨_, Tryz.func155, rfl, by rfl⟩⟩
instance cbody154 : CBody Tryz.prog 154 := ⟨⟨_, Tryz.func154, rfl, by rfl⟩⟩
instance cbody126 : CBody Tryz.prog 126 := ⟨⟨_, Tryz.func126, rfl, by rfl⟩⟩
instance cbody39 : CBody Tryz.prog 39 := ⟨⟨_, Tryz.func39, rfl, by rfl⟩⟩
instance cbody113 : CBody Tryz.prog 113 := ⟨⟨_, Tryz.func113, rfl, by rfl⟩⟩
instance cbody63 : CBody Tryz.prog 63 := ⟨⟨_, Tryz.func63, rfl, by rfl⟩⟩
structure RQ.okR (p : RQ) : Prop where
 l : Lm p.l
 m : Lm p.m
 ll : p.l.length ≤ 134217728
 ml : p.m.length ≤ 134217728
theorem RQ.of_okR {r : Rat} (h : Sz 134217728 r) : (RQ.of r).okR := ⟨aZk _, aZk _, h.1, h.2⟩
theorem RQ.okR.ok {p : RQ} (h : p.okR) : p.ok := ⟨h.l, h.m, Nat.le_trans h.ll (by omega), Nat.le_trans h.ml (by omega)⟩
theorem RQ.szR {p : RQ} (h : p.okR) : Sz 134217728 p.v := by
 unfold RQ.v
 by_cases hz : zv p.t p.m = 0
 ·rw [hz, Rat.divInt_zero]; exact ⟨by show zl 0 ≤ _; exact Nat.le_trans (by decide) (show 1 ≤ 134217728 by decide), by show zl 1 ≤ _; exact Nat.le_trans (by decide) (show 1 ≤ 134217728 by decide)⟩
 ·exact cZa hz (Nat.le_trans (eZ3 _ h.l) h.ll) (Nat.le_trans (eZ3 _ h.m) h.ml)
section
variable (En : Ev)
theorem cneg (a : Int) (ha : zl a ≤ 1099511627776) : Fn Tryz.prog En 120 [zC a] (zC (-a)) := by
 have := zneg En (decide (a < 0)) (digs a.natAbs) ha
 rwa [zv_C] at this
theorem cmul (a b : Int) (ha : zl a ≤ 1073741824) (hb : zl b ≤ 1073741824) : Fn Tryz.prog En 74 [zC a, zC b] (zC (a * b)) := by
 have := zmul En (decide (a < 0)) _ (decide (b < 0)) _ (aZk a.natAbs) (aZk b.natAbs) ha hb
 rwa [zv_C, zv_C] at this
theorem cquo (a b : Int) (ha : zl a ≤ 536870912) (hb : zl b ≤ 536870912) (h : b ≠ 0) : Fn Tryz.prog En 122 [zC a, zC b] (zC (a / b)) := by
 have := zquo En (decide (a < 0)) _ (decide (b < 0)) _ ha hb (aZk a.natAbs) (aZk b.natAbs) (by rw [zv_C]; exact h)
 rwa [zv_C, zv_C] at this
theorem cgcdz (a b : Int) (ha : zl a ≤ 536870912) (hb : zl b ≤ 536870912) : Fn Tryz.prog En 121 [zC a, zC b] (zC (Nat.gcd a.natAbs b.natAbs : Nat)) := by
 have := zgcd En (decide (a < 0)) _ (decide (b < 0)) _ (aZk a.natAbs) (aZk b.natAbs) ha hb
 rwa [zv_C, zv_C] at this
theorem cpow (a : Int) (n : Nat) (ha : zl a ≤ 8388608) (hn : n ≤ 64) : Fn Tryz.prog En 114 [zC a, ex (.int .i64 (n : Int))] (tupP [zC (a ^ n), ex (.bool true)]) := by
 have := zpow En (decide (a < 0)) _ n (aZk a.natAbs) ha hn
 rwa [zv_C] at this
theorem gZR (n d : Int) : Rat.divInt (-n) (-d) = Rat.divInt n d := Rat.neg_divInt_neg n d
theorem qnew (s : Bool) (l : List Nat) (s' : Bool) (l' : List Nat) (hl : Lm l) (hl' : Lm l') (hlen : l.length ≤ 536870912) (hlen' : l'.length ≤ 536870912) (hd : zv s' l' ≠ 0) :
  Fn Tryz.prog En 73 [zR s l, zR s' l'] (tupP [qC (Rat.divInt (zv s l) (zv s' l')), ex (.bool true)]) := by
 have C1 := lZx En s' l' (by omega)
 have h0 : sg3 (zv s' l') ≠ 0 := mZs hd
 have z1 := Nat.le_trans (eZ3 s hl) hlen
 have z2 := Nat.le_trans (eZ3 s' hl') hlen'
 by_cases hn : zv s' l' < 0
 ·have hs : sg3 (zv s' l') < 0 := by unfold sg3; rw [if_neg hd, if_pos hn]; decide
  rw [← gZR]
  have C2 := zneg En s l (by omega)
  have C3 := zneg En s' l' (by omega)
  have hd' : -(zv s' l') ≠ 0 := by omega
  rw [← iZF] at z1 z2
  generalize -(zv s l) = a at *
  generalize hb : -(zv s' l') = b at *
  have hbp : ¬ b < 0 := by omega
  have hg0 := gd_ne (n := a) hd'
  have e : gd a b = ((Nat.gcd a.natAbs b.natAbs : Nat) : Int) := by unfold gd; rw [if_neg hbp]
  have hgl : zl (gd a b) ≤ 536870912 := Nat.le_trans (dZS (Nat.le_of_dvd (Int.natAbs_pos.2 hd') (Int.natAbs_dvd_natAbs.2 (hZJ _ _).2))) z2
  have C4 := cgcdz En a b z1 z2
  rw [← e] at C4
  have C5 := cquo En a (gd a b) z1 hgl hg0
  have C6 := cquo En b (gd a b) z2 hgl hg0
  rw [jZr _ hd']
  refine aZb Tryz.func73 rfl Tryz.ntmps73 rfl ?_
  intro w0 h0
  refine js (jr (jB jj jj jj (jB jj jj jj (jA jj jj jj (ja jj (jn (js (js (jr (jL jj jj jj (jS (aZa C1 ⟨jj, trivial⟩) (jS (bEf jj jj) (jn (jf jj (jp (js (js (jr (jL jj jj jj (jS (aZa C1 ⟨jj, trivial⟩) (jS (bLt jj jj) (jn (jt jj (jr (jL jj jj jj (jS (aZa C2 ⟨jj, trivial⟩) (jL jj jj jj (jS (aZa C3 ⟨jj, trivial⟩) (jP jj jj jj jj (jP jj jj jj jj (jn (js (jr (jL jj jj jj (jL jj jj jj (jS (aZa C4 ⟨jj, jj, trivial⟩) (jA jj jj jj (jP jj jj jj jj (jn (js (jr (jL jj jj jj (jL jj jj jj (jS (aZa C5 ⟨jj, jj, trivial⟩) (jL jj jj jj (jL jj jj jj (jS (aZa C6 ⟨jj, jj, trivial⟩) (jS (aZl (ps := [(_, _), (_, _)]) ⟨jj, Part.c jj, jj, Part.c jj, trivial⟩ jj) (jP jj jj jj jj (ja jj (jn ?_)))))))))))))))))))))))))))))))))))))))))))))))))))
  refine ji ?_
  exact rtD rfl jj jj jj
 ·have hs : ¬ sg3 (zv s' l') < 0 := by unfold sg3; rw [if_neg hd, if_neg hn]; decide
  have e : gd (zv s l) (zv s' l') = ((Nat.gcd (zv s l).natAbs (zv s' l').natAbs : Nat) : Int) := by unfold gd; rw [if_neg hn]
  have hg0 := gd_ne (n := zv s l) hd
  have hgl : zl (gd (zv s l) (zv s' l')) ≤ 536870912 := Nat.le_trans (dZS (Nat.le_of_dvd (Int.natAbs_pos.2 hd) (Int.natAbs_dvd_natAbs.2 (hZJ _ _).2))) z2
  have C4 := zgcd En s l s' l' hl hl' hlen hlen'
  rw [← e] at C4
  have C5 := zquo En s l (decide (gd (zv s l) (zv s' l') < 0)) (digs (gd (zv s l) (zv s' l')).natAbs) hlen hgl hl (aZk _) (by rw [zv_C]; exact hg0)
  have C6 := zquo En s' l' (decide (gd (zv s l) (zv s' l') < 0)) (digs (gd (zv s l) (zv s' l')).natAbs) hlen' hgl hl' (aZk _) (by rw [zv_C]; exact hg0)
  rw [zv_C] at C5 C6
  rw [jZr _ hd]
  refine aZb Tryz.func73 rfl Tryz.ntmps73 rfl ?_
  intro w0 h0
  refine js (jr (jB jj jj jj (jB jj jj jj (jA jj jj jj (ja jj (jn (js (js (jr (jL jj jj jj (jS (aZa C1 ⟨jj, trivial⟩) (jS (bEf jj jj) (jn (jf jj (jp (js (js (jr (jL jj jj jj (jS (aZa C1 ⟨jj, trivial⟩) (jS (bLf jj jj) (jn (jf jj (jp (js (jr (jL jj jj jj (jL jj jj jj (jS (aZa C4 ⟨jj, jj, trivial⟩) (jA jj jj jj (jP jj jj jj jj (jn (js (jr (jL jj jj jj (jL jj jj jj (jS (aZa C5 ⟨jj, jj, trivial⟩) (jL jj jj jj (jL jj jj jj (jS (aZa C6 ⟨jj, jj, trivial⟩) (jS (aZl (ps := [(_, _), (_, _)]) ⟨jj, Part.c jj, jj, Part.c jj, trivial⟩ jj) (jP jj jj jj jj (ja jj (jn ?_))))))))))))))))))))))))))))))))))))))))))))
  refine ji ?_
  exact rtD rfl jj jj jj
theorem knew (a b : Int) (ha : zl a ≤ 536870912) (hb : zl b ≤ 536870912) (h : b ≠ 0) : Fn Tryz.prog En 73 [zC a, zC b] (tupP [qC (Rat.divInt a b), ex (.bool true)]) := by
 have := qnew En (decide (a < 0)) _ (decide (b < 0)) _ (aZk a.natAbs) (aZk b.natAbs) ha hb (by rw [zv_C]; exact h)
 rwa [zv_C, zv_C] at this
theorem qC_int (a : Int) : qC (a : Rat) = aggP [ex (.bool (decide (a < 0))), mag (digs a.natAbs), ex (.bool (decide ((1 : Int) < 0))), mag (digs (1 : Int).natAbs)] := by
 unfold qC qP RQ.cells RQ.of
 rw [Rat.num_intCast, Rat.den_intCast]
 rfl
theorem qwhole (a : Int) (ha : zl a ≤ 1099511627776) : Fn Tryz.prog En 115 [zC a] (qC (a : Rat)) := by
 have C1 := znorm En (decide (a < 0)) (digs a.natAbs) ha
 rw [zv_C] at C1
 have C2 := eZR En 1 (by omega) (by omega)
 rw [qC_int]
 refine aZb Tryz.func115 rfl Tryz.ntmps115 rfl ?_
 intro w0 h0
 refine js (jr (jB jj jj jj (jA jj jj jj (jn (js (jr (jL jj jj jj (jS (aZa C1 ⟨jj, trivial⟩) (jS (aZa C2 ⟨jj, trivial⟩) (jS (aZl (ps := [(_, _), (_, _)]) ⟨jj, Part.c jj, jj, Part.c jj, trivial⟩ jj) (jP jj jj jj jj (jn (ji ?_)))))))))))))
 exact rtC rfl jj jj
theorem dZf (a : Int) (h1 : -9223372036854775808 ≤ a) (h2 : a ≤ 9223372036854775807) : Fn Tryz.prog En 64 [ex (.int .i64 a)] (qC (a : Rat)) := by
 have C1 := eZR En a h1 h2
 have C2 := qwhole En a (Nat.le_trans (cZl (by omega) (by omega)) (by omega))
 refine aZb Tryz.func64 rfl Tryz.ntmps64 rfl ?_
 intro w0 h0
 refine js (jr (jA jj jj jj (jn (js (jr (jm jj (jS (aZa C1 ⟨jj, trivial⟩) (jS (aZa C2 ⟨jj, trivial⟩) (jP jj jj jj jj (jn (ji ?_)))))))))))
 exact rtC rfl jj jj
theorem bZo (p : RQ) (hp : p.okR) : Fn Tryz.prog En 72 [qP p] (qC p.v) := by
 have hll := hp.ll
 have hml := hp.ml
 by_cases hz : zv p.t p.m = 0
 ·have e : p.v = ((0 : Int) : Rat) := by unfold RQ.v; rw [hz, Rat.divInt_zero]; rfl
  rw [e]
  have C1 := lZx En p.t p.m (by omega)
  have h0 : sg3 (zv p.t p.m) = 0 := by rw [hz]; rfl
  have C2 := dZf En 0 (by omega) (by omega)
  have C3 : Fn Tryz.prog En 73 [zR p.s p.l, zR p.t p.m] (tupP [aggP [ex (.bool false), ex (.slice none 0 0), ex (.bool false), ex (.slice none 0 0)], ex (.bool false)]) := by
   refine aZb Tryz.func73 rfl Tryz.ntmps73 rfl ?_
   intro w0 h0
   refine js (jr (jB jj jj jj (jB jj jj jj (jA jj jj jj (ja jj (jn (js (js (jr (jL jj jj jj (jS (aZa C1 ⟨jj, trivial⟩) (jS (bEt jj jj) (jn (jt jj (js (jr (jS (aZl (ps := []) trivial jj) (jP jj jj jj jj (ja jj (jn (ji ?_)))))))))))))))))))))
   exact rtD rfl jj jj jj
  refine aZb Tryz.func72 rfl Tryz.ntmps72 rfl ?_
  intro w0 h0
  refine js (jr (jB jj jj jj (jA jj jj jj (jn (js (jr (jF jj jj (jL jj jj jj (jF jj jj (jL jj jj jj (jS (aZa C3 ⟨jj, jj, trivial⟩) (jm jj (jx' jj jj (jx' jj jj (jA jj jj jj (jP jj jj jj jj (ja jj (jn (js (js (jr (jm jj (jS (bNo jj) (jn (jt jj (js (jr (jS (aZa C2 ⟨jj, trivial⟩) (jP jj jj jj jj (jn (ji ?_)))))))))))))))))))))))))))))))
  exact rtC rfl jj jj
 ·have C2 := qnew En p.s p.l p.t p.m hp.l hp.m (by omega) (by omega) hz
  refine aZb Tryz.func72 rfl Tryz.ntmps72 rfl ?_
  intro w0 h0
  refine js (jr (jB jj jj jj (jA jj jj jj (jn (js (jr (jF jj jj (jL jj jj jj (jF jj jj (jL jj jj jj (jS (aZa C2 ⟨jj, jj, trivial⟩) (jm jj (jx' jj jj (jx' jj jj (jA jj jj jj (jP jj jj jj jj (ja jj (jn (js (js (jr (jm jj (jS (bNo jj) (jn (jf jj (jp (js (jr (jL jj jj jj (jP jj jj jj jj (jn (ji ?_))))))))))))))))))))))))))))))))
  exact rtC rfl jj jj
theorem qadd (p q : RQ) (hp : p.okR) (hq : q.okR) : Fn Tryz.prog En 154 [qP p, qP q] (qC (p.v + q.v)) := by
 have hr := RQ.szR hp
 have hs := RQ.szR hq
 have K1 := bZo En p hp
 have K2 := bZo En q hq
 generalize p.v = r at *
 generalize q.v = s at *
 obtain ⟨r1, r2⟩ := hr
 obtain ⟨s1, s2⟩ := hs
 have A1 := bZw r.num s.den
 have A2 := bZw s.num r.den
 have A3 := bZw r.den s.den
 have A4 := iZG (r.num * s.den) (s.num * r.den)
 have m1 := cmul En r.num s.den (by omega) (by omega)
 have m2 := cmul En s.num r.den (by omega) (by omega)
 have m3 := cadd En (r.num * s.den) (s.num * r.den) (Nat.le_trans A1 (by omega)) (Nat.le_trans A2 (by omega))
 have m4 := cmul En r.den s.den (by omega) (by omega)
 have F := knew En (r.num * s.den + s.num * r.den) (r.den * s.den) (by omega) (by omega) (iZ6 r s)
 rw [← gZ9] at F
 refine aZb Tryz.func154 rfl Tryz.ntmps154 rfl ?_
 intro w0 h0
 refine js (jr (jB jj jj jj (jB jj jj jj (jA jj jj jj (jn (js (jr (jL jj jj jj (jS (aZa K1 ⟨jj, trivial⟩) (jL jj jj jj (jS (aZa K2 ⟨jj, trivial⟩) (jA jj jj jj (jA jj jj jj (jP jj jj jj jj (jP jj jj jj jj (jn (js (jr (jF jj jj (jL jj jj jj (jF jj jj (jL jj jj jj (jS (aZa m1 ⟨jj, jj, trivial⟩) (jF jj jj (jL jj jj jj (jF jj jj (jL jj jj jj (jS (aZa m2 ⟨jj, jj, trivial⟩) (jS (aZa m3 ⟨jj, jj, trivial⟩) (jF jj jj (jL jj jj jj (jF jj jj (jL jj jj jj (jS (aZa m4 ⟨jj, jj, trivial⟩) (jS (aZa F ⟨jj, jj, trivial⟩) (jm jj (jx' jj jj (jx' jj jj (jA jj jj jj (jP jj jj jj jj (ja jj (jn ?_))))))))))))))))))))))))))))))))))))))))))
 refine js (jr (jL jj jj jj (jP jj jj jj jj (jn (ji ?_)))))
 exact rtC rfl jj jj
theorem qmul (p q : RQ) (hp : p.okR) (hq : q.okR) : Fn Tryz.prog En 39 [qP p, qP q] (qC (p.v * q.v)) := by
 have hr := RQ.szR hp
 have hs := RQ.szR hq
 have K1 := bZo En p hp
 have K2 := bZo En q hq
 generalize p.v = r at *
 generalize q.v = s at *
 obtain ⟨r1, r2⟩ := hr
 obtain ⟨s1, s2⟩ := hs
 have A1 := bZw r.num s.num
 have A3 := bZw r.den s.den
 have m1 := cmul En r.num s.num (by omega) (by omega)
 have m4 := cmul En r.den s.den (by omega) (by omega)
 have F := knew En (r.num * s.num) (r.den * s.den) (by omega) (by omega) (iZ6 r s)
 rw [← gZ8] at F
 refine aZb Tryz.func39 rfl Tryz.ntmps39 rfl ?_
 intro w0 h0
 refine js (jr (jB jj jj jj (jB jj jj jj (jA jj jj jj (jn (js (jr (jL jj jj jj (jS (aZa K1 ⟨jj, trivial⟩) (jL jj jj jj (jS (aZa K2 ⟨jj, trivial⟩) (jA jj jj jj (jA jj jj jj (jP jj jj jj jj (jP jj jj jj jj (jn (js (jr (jF jj jj (jL jj jj jj (jF jj jj (jL jj jj jj (jS (aZa m1 ⟨jj, jj, trivial⟩) (jF jj jj (jL jj jj jj (jF jj jj (jL jj jj jj (jS (aZa m4 ⟨jj, jj, trivial⟩) (jS (aZa F ⟨jj, jj, trivial⟩) (jm jj (jx' jj jj (jx' jj jj (jA jj jj jj (jP jj jj jj jj (ja jj (jn (js (jr (jL jj jj jj (jP jj jj jj jj (jn ?_)))))))))))))))))))))))))))))))))))))))))
 refine ji ?_
 exact rtC rfl jj jj
theorem rat_div {r s : Rat} (h : s ≠ 0) : r / s = Rat.divInt (r.num * s.den) (r.den * s.num) ∧ (r.den : Int) * s.num ≠ 0 := by
 have hn : s.num ≠ 0 := fun h' => h (Rat.num_eq_zero.1 h')
 refine ⟨?_, Int.mul_ne_zero (eZW r) hn⟩
 rw [Rat.div_def, Rat.inv_def]
 have := Rat.divInt_mul_divInt r.num s.den (d₁ := r.den) (d₂ := s.num)
 rwa [Rat.num_divInt_den] at this
theorem qquo (p q : RQ) (hp : p.okR) (hq : q.okR) (h0 : q.v ≠ 0) : Fn Tryz.prog En 113 [qP p, qP q] (tupP [qC (p.v / q.v), ex (.bool true)]) := by
 have hr := RQ.szR hp
 have hs := RQ.szR hq
 have K1 := bZo En p hp
 have K2 := bZo En q hq
 generalize p.v = r at *
 generalize q.v = s at *
 obtain ⟨e, hne⟩ := rat_div (r := r) h0
 obtain ⟨r1, r2⟩ := hr
 obtain ⟨s1, s2⟩ := hs
 have A1 := bZw r.num s.den
 have A3 := bZw r.den s.num
 have m1 := cmul En r.num s.den (by omega) (by omega)
 have m4 := cmul En r.den s.num (by omega) (by omega)
 have F := knew En (r.num * s.den) (r.den * s.num) (by omega) (by omega) hne
 rw [← e] at F
 refine aZb Tryz.func113 rfl Tryz.ntmps113 rfl ?_
 intro w0 h0
 refine js (jr (jB jj jj jj (jB jj jj jj (jA jj jj jj (ja jj (jn (js (jr (jL jj jj jj (jS (aZa K1 ⟨jj, trivial⟩) (jL jj jj jj (jS (aZa K2 ⟨jj, trivial⟩) (jA jj jj jj (jA jj jj jj (jP jj jj jj jj (jP jj jj jj jj (jn (js (jr (jF jj jj (jL jj jj jj (jF jj jj (jL jj jj jj (jS (aZa m1 ⟨jj, jj, trivial⟩) (jF jj jj (jL jj jj jj (jF jj jj (jL jj jj jj (jS (aZa m4 ⟨jj, jj, trivial⟩) (jS (aZa F ⟨jj, jj, trivial⟩) (jx' jj jj (jx' jj jj (jP jj jj jj jj (ja jj (jn (ji ?_))))))))))))))))))))))))))))))))))))
 exact rtD rfl jj jj jj
theorem qneg (p : RQ) (hp : p.okR) : Fn Tryz.prog En 155 [qP p] (qC (-p.v)) := by
 have hr := RQ.szR hp
 have C1 := bZo En p hp
 generalize p.v = r at *
 have C2 := cneg En r.num (Nat.le_trans hr.1 (by omega))
 rw [lZb (-r) (a := -r.num) (b := r.den) rfl rfl]
 refine aZb Tryz.func155 rfl Tryz.ntmps155 rfl ?_
 intro w0 h0
 refine js (jr (jB jj jj jj (jA jj jj jj (jn (js (jr (jL jj jj jj (jS (aZa C1 ⟨jj, trivial⟩) (jA jj jj jj (jP jj jj jj jj (jn (js (jr (jF jj jj (jL jj jj jj (jS (aZa C2 ⟨jj, trivial⟩) (jF jj jj (jL jj jj jj (jS (aZl (ps := [(_, _), (_, _)]) ⟨jj, Part.c jj, jj, Part.c jj, trivial⟩ jj) (jP jj jj jj jj (jn (ji ?_))))))))))))))))))))))
 exact rtC rfl jj jj
theorem qsub (p q : RQ) (hp : p.okR) (hq : q.okR) : Fn Tryz.prog En 126 [qP p, qP q] (qC (p.v - q.v)) := by
 have C1 := qneg En q hq
 have C2 := qadd En p (RQ.of (-q.v)) hp (RQ.of_okR (gZy (RQ.szR hq)))
 rw [RQ.of_v, ← Rat.sub_eq_add_neg] at C2
 refine aZb Tryz.func126 rfl Tryz.ntmps126 rfl ?_
 intro w0 h0
 refine js (jr (jB jj jj jj (jB jj jj jj (jA jj jj jj (jn (js (jr (jL jj jj jj (jL jj jj jj (jS (aZa C1 ⟨jj, trivial⟩) (jS (aZa C2 ⟨jj, jj, trivial⟩) (jP jj jj jj jj (jn (ji ?_))))))))))))))
 exact rtC rfl jj jj
theorem qpow (r : Rat) (n : Nat) (hr : Sz 8388608 r) (hn : n ≤ 64) : Fn Tryz.prog En 63 [qC r, ex (.int .i64 (n : Int))] (tupP [qC (r ^ n), ex (.bool true)]) := by
 have K1 := bZo En (RQ.of r) (RQ.of_okR (hr.mono (by omega)))
 rw [RQ.of_v] at K1
 have C2 := cpow En r.num n hr.1 hn
 have C3 := cpow En r.den n hr.2 hn
 rw [lZb (r ^ n) (a := r.num ^ n) (b := (r.den : Int) ^ n) (Rat.num_pow r n) (by rw [Rat.den_pow]; exact_mod_cast rfl)]
 refine aZb Tryz.func63 rfl Tryz.ntmps63 rfl ?_
 intro w0 h0
 refine js (jr (jB jj jj jj (jA jj jj jj (ja jj (jn (js (js (jr (jm jj (jS (bLf jj jj) (jm jj (jgm jj (jg (bGf jj jj) (jQ jj jj (jn (jf jj (jp (js (jr (jL jj jj jj (jS (aZa K1 ⟨jj, trivial⟩) (jA jj jj jj (jP jj jj jj jj (jn (js (js (jr (jm jj (jS (bLf jj jj) (jn (jf jj (jp (js (jr (jF jj jj (jL jj jj jj (jm jj (jS (aZa C2 ⟨jj, jj, trivial⟩) (jm jj (jx' jj jj (jx' jj jj (jA jj jj jj (jP jj jj jj jj (ja jj (jn ?_)))))))))))))))))))))))))))))))))))))))))))))
 refine js (jr (jF jj jj (jL jj jj jj (jm jj (jS (aZa C3 ⟨jj, jj, trivial⟩) (jm jj (jx' jj jj (jx' jj jj (jA jj jj jj (jP jj jj jj jj (ja jj (jn (js (jr (jL jj jj jj (jL jj jj jj (jS (aZl (ps := [(_, _), (_, _)]) ⟨jj, Part.c jj, jj, Part.c jj, trivial⟩ jj) (jP jj jj jj jj (ja jj (jn (ji ?_)))))))))))))))))))))
 exact rtD rfl jj jj jj
theorem kZR (r s : Rat) : decide (r = s) = (decide (r.num = s.num) && decide ((r.den : Int) = s.den)) := by
 rw [← Bool.decide_and]
 congr 1
 apply propext
 constructor
 ·rintro rfl; exact ⟨rfl, rfl⟩
 ·rintro ⟨h1, h2⟩; exact Rat.ext h1 (by exact_mod_cast h2)
theorem qsame (r s : Rat) (hr : Sz 134217728 r) (hs : Sz 134217728 s) : Fn Tryz.prog En 34 [qC r, qC s] (ex (.bool (decide (r = s)))) := by
 have C1 := fsame En r.num s.num (Nat.le_trans hr.1 (by omega)) (Nat.le_trans hs.1 (by omega))
 have C2 := fsame En r.den s.den (Nat.le_trans hr.2 (by omega)) (Nat.le_trans hs.2 (by omega))
 rw [kZR]
 cases h : decide (r.num = s.num) with
 | true =>
  rw [h] at C1
  refine aZb Tryz.func34 rfl Tryz.ntmps34 rfl ?_
  intro w0 h0
  repeat (first | apply js | apply jb)
  refine jr (jB jj jj jj (jB jj jj jj (ja jj (jn ?_))))
  repeat (first | apply js | apply jb)
  refine jr (jF jj jj (jL jj jj jj (jF jj jj (jL jj jj jj (jS (aZa C1 ⟨jj, jj, trivial⟩) (jm jj ?_))))))
  first | refine jgf jj jj ?_ | refine jk ?_
  first | refine jg (aZ2 jj jj jj jj) ?_ | refine jk ?_
  first | refine jgf jj jj ?_ | refine jk ?_
  first | refine jg (aZ2 jj jj jj jj) ?_ | refine jk ?_
  first | refine jg (aZa C2 ⟨jj, jj, trivial⟩) ?_ | refine jk ?_
  first | refine jq jj jj ?_ | refine jQ jj jj ?_
  refine ja jj (jn ?_)
  repeat (first | apply js | apply jb)
  refine WpD.ret ?_
  exact rtT rfl jj
 | false =>
  rw [h] at C1
  refine aZb Tryz.func34 rfl Tryz.ntmps34 rfl ?_
  intro w0 h0
  repeat (first | apply js | apply jb)
  refine jr (jB jj jj jj (jB jj jj jj (ja jj (jn ?_))))
  repeat (first | apply js | apply jb)
  refine jr (jF jj jj (jL jj jj jj (jF jj jj (jL jj jj jj (jS (aZa C1 ⟨jj, jj, trivial⟩) (jm jj ?_))))))
  first | refine jgf jj jj ?_ | refine jk ?_
  first | refine jg (aZ2 jj jj jj jj) ?_ | refine jk ?_
  first | refine jgf jj jj ?_ | refine jk ?_
  first | refine jg (aZ2 jj jj jj jj) ?_ | refine jk ?_
  first | refine jg (aZa C2 ⟨jj, jj, trivial⟩) ?_ | refine jk ?_
  first | refine jq jj jj ?_ | refine jQ jj jj ?_
  refine ja jj (jn ?_)
  repeat (first | apply js | apply jb)
  refine WpD.ret ?_
  exact rtT rfl jj
end
end Go.Proofs.YtdieokoenhncfaaGreatDoor
/- Bernoulli numbers: plain, and the program's and the reference's lists. -/
namespace Go.Proofs.YtdieokoenhncfaaGreatDoor
open Go.RowKit Limb
instance cbody125 : CBody Tryz.prog 125 := ⟨⟨_, Tryz.func125, rfl, by rfl⟩⟩
instance cbody124 : CBody Tryz.prog 124 := ⟨⟨_, Tryz.func124, rfl, by rfl⟩⟩
section
variable (En : Ev)
theorem krsub (a b : Rat) (ha : Sz 1073741824 a) (hb : Sz 1073741824 b) : Fn Tryz.prog En 118 [qC a, qC b] (qC (a - b)) := by
 have := rsub En (RQ.of a) (RQ.of b) (RQ.of_ok ha) (RQ.of_ok hb)
 rwa [RQ.of_v, RQ.of_v] at this
theorem jZN (a b : Rat) (ha : Sz 1073741824 a) (hb : Sz 1073741824 b) : Fn Tryz.prog En 37 [qC a, qC b] (qC (a * b)) := by
 have := rmul En (RQ.of a) (RQ.of b) (RQ.of_ok ha) (RQ.of_ok hb)
 rwa [RQ.of_v, RQ.of_v] at this
theorem krquo (a b : Rat) (ha : Sz 1073741824 a) (hb : Sz 1073741824 b) (h : b ≠ 0) : Fn Tryz.prog En 71 [qC a, qC b] (tupP [qC (a / b), ex (.bool true)]) := by
 have := rquo En (RQ.of a) (RQ.of b) (RQ.of_ok ha) (RQ.of_ok hb) (by rw [RQ.of_v]; exact h)
 rwa [RQ.of_v, RQ.of_v] at this
theorem krpow (a : Rat) (n : Nat) (ha : Sz 1073741824 a) (hn : n ≤ 64) : Fn Tryz.prog En 28 [qC a, ex (.int .i64 (n : Int))] (tupP [qC (a ^ n), ex (.bool true)]) := by
 have := rpow En (RQ.of a) n (RQ.of_ok ha) hn
 rwa [RQ.of_v] at this
theorem gZf (a : Rat) (n : Nat) (ha : Sz 1073741824 a) (hn : n ≤ 64) (hn0 : 0 < n) (h : a ≠ 0) : Fn Tryz.prog En 28 [qC a, ex (.int .i64 (-(n : Int)))] (tupP [qC (a⁻¹ ^ n), ex (.bool true)]) := by
 have := kZY En (RQ.of a) n (RQ.of_ok ha) hn hn0 (by rw [RQ.of_v]; exact h)
 rwa [RQ.of_v] at this
theorem kqsub (a b : Rat) (ha : Sz 134217728 a) (hb : Sz 134217728 b) : Fn Tryz.prog En 126 [qC a, qC b] (qC (a - b)) := by
 have := qsub En (RQ.of a) (RQ.of b) (RQ.of_okR ha) (RQ.of_okR hb)
 rwa [RQ.of_v, RQ.of_v] at this
theorem kqmul (a b : Rat) (ha : Sz 134217728 a) (hb : Sz 134217728 b) : Fn Tryz.prog En 39 [qC a, qC b] (qC (a * b)) := by
 have := qmul En (RQ.of a) (RQ.of b) (RQ.of_okR ha) (RQ.of_okR hb)
 rwa [RQ.of_v, RQ.of_v] at this
theorem kqquo (a b : Rat) (ha : Sz 134217728 a) (hb : Sz 134217728 b) (h : b ≠ 0) : Fn Tryz.prog En 113 [qC a, qC b] (tupP [qC (a / b), ex (.bool true)]) := by
 have := qquo En (RQ.of a) (RQ.of b) (RQ.of_okR ha) (RQ.of_okR hb) (by rw [RQ.of_v]; exact h)
 rwa [RQ.of_v, RQ.of_v] at this
end
theorem iZS {r : Rat} (h : r.num.natAbs < 18446744073709551616 ∧ r.den < 18446744073709551616) : Sz 2 r := ⟨cZl (by omega) (by omega), cZl (by omega) (by omega)⟩
theorem sz_z {z : Int} (h1 : -9223372036854775808 ≤ z) (h2 : z ≤ 9223372036854775807) : Sz 2 (z : Rat) := szq_int (cZl (by omega) (by omega)) (by omega)
def rows (f : Nat → List Pd) (n : Nat) : List Pd := (List.range n).flatMap f
theorem aZ9 (f : Nat → List Pd) (n : Nat) : rows f (n + 1) = rows f n ++ f n := by unfold rows; rw [List.range_succ, List.flatMap_append]; simp
theorem aZ3 {f : Nat → List Pd} {k : Nat} (hf : ∀ i, (f i).length = k) : ∀ n, (rows f n).length = n * k
 | 0 => by simp [rows]
 | n + 1 => by rw [aZ9, List.length_append, aZ3 hf n, hf, Nat.succ_mul]
theorem aZo {f : Nat → List Pd} {k : Nat} (hf : ∀ i, (f i).length = k) : ∀ {n i : Nat}, i < n → ((rows f n).drop (i * k)).take k = f i
 | 0, i, h => by omega
 | n + 1, i, h => by
  rw [aZ9]
  by_cases e : i = n
  ·subst e
   rw [← aZ3 hf i, List.drop_left, ← hf i, List.take_length]
  ·have hlt : i < n := by omega
   have hle : i * k + k ≤ n * k := by rw [← Nat.succ_mul]; exact Nat.mul_le_mul_right _ hlt
   rw [List.drop_append_of_le_length (by rw [aZ3 hf]; omega), List.take_append_of_le_length (by rw [List.length_drop, aZ3 hf]; omega)]
   exact aZo hf hlt
theorem eZG {f g : Nat → List Pd} : ∀ {n : Nat}, (∀ i, i < n → f i = g i) → rows f n = rows g n
 | 0, _ => rfl
 | n + 1, h => by rw [aZ9, aZ9, eZG fun i hi => h i (by omega), h n (by omega)]
section
variable (En : Ev)
end
end Go.Proofs.YtdieokoenhncfaaGreatDoor
/- Plain number theory, no program in sight: least factors, prime numbers, the wheel of 30. -/
namespace Go.Proofs.YtdieokoenhncfaaGreatDoor.Num
def NoDiv (n k : Nat) : Prop := ∀ d, 2 ≤ d → d < k → ¬ d ∣ n
def eZP : Nat → Nat → Nat → Nat
 | 0, _, n => n
 | f + 1, d, n => if n % d = 0 then d else eZP f (d + 1) n
def lf (n : Nat) : Nat := eZP n 2 n
theorem eZn : ∀ (f d n : Nat), 2 ≤ d → d ≤ n → n < d + f → NoDiv n d → 2 ≤ eZP f d n ∧ eZP f d n ∣ n ∧ NoDiv n (eZP f d n)
 | 0, d, n, h1, h2, h3, h4 => by omega
 | f + 1, d, n, h1, h2, h3, h4 => by
  unfold eZP
  by_cases h : n % d = 0
  ·rw [if_pos h]; exact ⟨h1, Nat.dvd_of_mod_eq_zero h, h4⟩
  ·rw [if_neg h]
   have hd : ¬ d ∣ n := fun hx => h (Nat.mod_eq_zero_of_dvd hx)
   have hne : d ≠ n := fun hx => hd (hx ▸ Nat.dvd_refl d)
   refine eZn f (d + 1) n (by omega) (by omega) (by omega) ?_
   intro x hx1 hx2
   by_cases hxd : x = d
   ·subst hxd; exact hd
   ·exact h4 x hx1 (by omega)
theorem bZk (n : Nat) (h : 2 ≤ n) : 2 ≤ lf n ∧ lf n ∣ n ∧ NoDiv n (lf n) :=
 eZn n 2 n (Nat.le_refl _) h (by omega) (fun d h1 h2 => by omega)
theorem lf_unique (n p : Nat) (h : 2 ≤ n) (h1 : 2 ≤ p) (h2 : p ∣ n) (h3 : NoDiv n p) : lf n = p := by
 obtain ⟨a, b, c⟩ := bZk n h
 rcases Nat.lt_trichotomy (lf n) p with hlt | heq | hgt
 ·exact absurd b (h3 _ a hlt)
 ·exact heq
 ·exact absurd h2 (c p h1 hgt)
theorem lf_le (n : Nat) (h : 2 ≤ n) : lf n ≤ n := Nat.le_of_dvd (by omega) (bZk n h).2.1
theorem lf_of_sq (n k : Nat) (h : 2 ≤ n) (h1 : NoDiv n k) (h2 : n < k * k) : lf n = n := by
 obtain ⟨a, ⟨c, hc⟩, b⟩ := bZk n h
 by_cases hk : lf n < k
 ·exact absurd ⟨c, hc⟩ (h1 _ a hk)
 ·have hkl : k ≤ lf n := by omega
  have hck : c < k := by
   rcases Nat.lt_or_ge c k with h' | h'
   ·exact h'
   ·have := Nat.mul_le_mul hkl h'
    omega
  have hc1 : ¬ 2 ≤ c := fun h2c => h1 c h2c hck ⟨lf n, by rw [Nat.mul_comm]; exact hc⟩
  have : c = 1 := by
   rcases Nat.eq_zero_or_pos c with h0 | h0
   ·rw [h0] at hc; omega
   ·omega
  rw [this] at hc; omega
def isP (n : Nat) : Bool := decide (2 ≤ n) && decide (n ≤ 2147483647) && (lf n == n)
def off : Nat → Nat
 | 0 => 7 | 1 => 11 | 2 => 13 | 3 => 17 | 4 => 19 | 5 => 23 | 6 => 29 | 7 => 31 | _ => 37
theorem jZ3 {n a b : Nat} (h : NoDiv n a) (h2 : ¬ 2 ∣ n) (h3 : ¬ 3 ∣ n) (h5 : ¬ 5 ∣ n) (ha : ¬ a ∣ n)
  (hg : ∀ d, a < d → d < b → d % 2 = 0 ∨ d % 3 = 0 ∨ d % 5 = 0) : NoDiv n b := by
 intro d hd1 hd2 hdn
 rcases Nat.lt_trichotomy d a with hlt | heq | hgt
 ·exact h d hd1 hlt hdn
 ·exact ha (heq ▸ hdn)
 ·rcases hg d hgt hd2 with h' | h' | h'
  ·exact h2 (Nat.dvd_trans (Nat.dvd_of_mod_eq_zero h') hdn)
  ·exact h3 (Nat.dvd_trans (Nat.dvd_of_mod_eq_zero h') hdn)
  ·exact h5 (Nat.dvd_trans (Nat.dvd_of_mod_eq_zero h') hdn)
theorem wheel_step {n b k : Nat} (hk : k < 8) (h : NoDiv n (30 * b + off k)) (h2 : ¬ 2 ∣ n) (h3 : ¬ 3 ∣ n) (h5 : ¬ 5 ∣ n) (ha : ¬ (30 * b + off k) ∣ n) :
  NoDiv n (30 * b + off (k + 1)) := by
 refine jZ3 h h2 h3 h5 ha ?_
 intro d hd1 hd2
 match k, hk with
 | 0, _ => simp only [off] at hd1 hd2; omega
 | 1, _ => simp only [off] at hd1 hd2; omega
 | 2, _ => simp only [off] at hd1 hd2; omega
 | 3, _ => simp only [off] at hd1 hd2; omega
 | 4, _ => simp only [off] at hd1 hd2; omega
 | 5, _ =>
  simp only [off] at hd1 hd2
  have : d = 30 * b + 24 ∨ d = 30 * b + 25 ∨ d = 30 * b + 26 ∨ d = 30 * b + 27 ∨ d = 30 * b + 28 := by omega
  clear hd1 hd2
  rcases this with rfl | rfl | rfl | rfl | rfl <;> omega
 | 6, _ => simp only [off] at hd1 hd2; omega
 | 7, _ =>
  simp only [off] at hd1 hd2
  have : d = 30 * b + 32 ∨ d = 30 * b + 33 ∨ d = 30 * b + 34 ∨ d = 30 * b + 35 ∨ d = 30 * b + 36 := by omega
  clear hd1 hd2
  rcases this with rfl | rfl | rfl | rfl | rfl <;> omega
theorem off_bd (k : Nat) : 7 ≤ off k ∧ off k ≤ 37 := by
 unfold off; split <;> omega
theorem off_bd7 (k : Nat) (h : k < 8) : off k ≤ 31 := by
 match k, h with
 | 0, _ | 1, _ | 2, _ | 3, _ | 4, _ | 5, _ | 6, _ | 7, _ => simp [off]
theorem wheel_start {n : Nat} (h2 : ¬ 2 ∣ n) (h3 : ¬ 3 ∣ n) (h5 : ¬ 5 ∣ n) : NoDiv n 7 := by
 intro d hd1 hd2 hd
 have : d = 2 ∨ d = 3 ∨ d = 4 ∨ d = 5 ∨ d = 6 := by omega
 rcases this with rfl | rfl | rfl | rfl | rfl
 ·exact h2 hd
 ·exact h3 hd
 ·exact h2 (Nat.dvd_trans ⟨2, rfl⟩ hd)
 ·exact h5 hd
 ·exact h2 (Nat.dvd_trans ⟨3, rfl⟩ hd)
end Go.Proofs.YtdieokoenhncfaaGreatDoor.Num

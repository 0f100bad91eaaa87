/- Rational numbers of the program: lowest, Whole, Normalize, sum, product, Add, Sub, Mul, Quo, Neg, Sign, Pow, Cmp. -/
import Derived.Test.YtdieokoenhncfaaGreatDoorZa
import Derived.Test.YtdieokoenhncfaaGreatDoorIc
set_option maxRecDepth 3000
namespace Go.Proofs.YtdieokoenhncfaaGreatDoor
open Go.RowKit Limb
instance crow_rat : CRow Tryz.prog 36 4 := ⟨⟨_, Tryz.underlying36, rfl, by kernel_rfl⟩⟩
instance cfield_rat0 : CField Tryz.prog 36 0 0 := ⟨⟨_, _, Tryz.underlying36, rfl, rfl, by kernel_rfl⟩⟩
instance cfield_rat1 : CField Tryz.prog 36 1 2 := ⟨⟨_, _, Tryz.underlying36, rfl, rfl, by kernel_rfl⟩⟩
instance cfieldt_rat0 : CFieldT Tryz.prog 36 0 0 34 := ⟨⟨_, _, Tryz.underlying36, rfl, rfl, rfl⟩⟩
instance cfieldt_rat1 : CFieldT Tryz.prog 36 1 2 34 := ⟨⟨_, _, Tryz.underlying36, rfl, rfl, rfl⟩⟩
theorem zero_rat : ZeroOf Tryz.prog 36 [.bool false, .slice none 0 0, .bool false, .slice none 0 0] := ⟨by kernel_rfl, by simp [Value.oneCell']⟩
instance czero_rat : CZero Tryz.prog 36 [.bool false, .slice none 0 0, .bool false, .slice none 0 0] := ⟨zero_rat⟩
instance cstruct_rat : CStruct Tryz.prog 36 [(0, 2), (2, 2)] [.bool false, .slice none 0 0, .bool false, .slice none 0 0] := ⟨⟨zero_rat, _, Tryz.underlying36, fun _ => by kernel_rfl⟩⟩
instance crow_fr : CRow Tryz.prog 78 4 := ⟨⟨_, Tryz.underlying78, rfl, by kernel_rfl⟩⟩
instance cfield_fr0 : CField Tryz.prog 78 0 0 := ⟨⟨_, _, Tryz.underlying78, rfl, rfl, by kernel_rfl⟩⟩
instance cfield_fr1 : CField Tryz.prog 78 1 2 := ⟨⟨_, _, Tryz.underlying78, rfl, rfl, by kernel_rfl⟩⟩
instance cfieldt_fr0 : CFieldT Tryz.prog 78 0 0 34 := ⟨⟨_, _, Tryz.underlying78, rfl, rfl, rfl⟩⟩
instance cfieldt_fr1 : CFieldT Tryz.prog 78 1 2 34 := ⟨⟨_, _, Tryz.underlying78, rfl, rfl, rfl⟩⟩
instance czero_fr : CZero Tryz.prog 78 [.bool false, .slice none 0 0, .bool false, .slice none 0 0] := ⟨⟨by kernel_rfl, by simp [Value.oneCell']⟩⟩
instance cslice_rat : CSlice Tryz.prog 133 36 := ⟨Tryz.underlying133⟩
instance celem_rat : CElem Tryz.prog 133 36 4 := ⟨Tryz.underlying133, by kernel_rfl⟩
instance crowz_rat : CRowZ Tryz.prog 36 4 [.bool false, .slice none 0 0, .bool false, .slice none 0 0] 64 := ⟨by kernel_rfl, rfl, rfl⟩
instance cbody57 : CBody Tryz.prog 57 := ⟨⟨_, Tryz.func57, rfl, by rfl⟩⟩
instance cbody58 : CBody Tryz.prog 58 := ⟨⟨_, Tryz.func58, rfl, by rfl⟩⟩
instance cbody88 : CBody Tryz.prog 88 := ⟨⟨_, Tryz.func88, rfl, by rfl⟩⟩
instance cbody49 : CBody Tryz.prog 49 := ⟨⟨_, Tryz.func49, rfl, by rfl⟩⟩
instance cbody148 : CBody Tryz.prog 148 := ⟨⟨_, Tryz.func148, rfl, by rfl⟩⟩
instance cbody69 : CBody Tryz.prog 69 := ⟨⟨_, Tryz.func69, rfl, by rfl⟩⟩
instance cbody118 : CBody Tryz.prog 118 := ⟨⟨_, Tryz.func118, rfl, by rfl⟩⟩
instance cbody37 : CBody Tryz.prog 37 := ⟨⟨_, Tryz.func37, rfl, by rfl⟩⟩
instance cbody71 : CBody Tryz.prog 71 := ⟨⟨_, Tryz.func71, rfl, by rfl⟩⟩
instance cbody149 : CBody Tryz.prog 149 := ⟨⟨_, Tryz.func149, rfl, by rfl⟩⟩
instance cbody28 : CBody Tryz.prog 28 := ⟨⟨_, Tryz.func28, rfl, by rfl⟩⟩
instance cbody50 : CBody Tryz.prog 50 := ⟨⟨_, Tryz.func50, rfl, by rfl⟩⟩
instance cbody55 : CBody Tryz.prog 55 := ⟨⟨_, Tryz.func55, rfl, by rfl⟩⟩
section
variable (En : Ev)
theorem ksmall (n : Int) (h1 : -9223372036854775808 ≤ n) (h2 : n ≤ 9223372036854775807) : Fn Tryz.prog En 59 [ex (.int .i64 n)] (zC n) := ismall En n h1 h2
theorem ksign (a : Int) (ha : zl a ≤ 274877906944) : Fn Tryz.prog En 99 [zC a] (ex (.int .i64 (sg3 a))) := by
 have := isign En (decide (a < 0)) _ (lm_digs a.natAbs) (Nat.le_trans ha (by omega))
 rwa [zv_C] at this
theorem kneg (a : Int) (ha : zl a ≤ 274877906944) : Fn Tryz.prog En 102 [zC a] (zC (-a)) := by
 have := ineg En (decide (a < 0)) _ (lm_digs a.natAbs) ha
 rwa [zv_C] at this
theorem kmul (a b : Int) (ha : zl a ≤ 274877906944) (hb : zl b ≤ 274877906944) : Fn Tryz.prog En 100 [zC a, zC b] (zC (a * b)) := by
 have := imul En (decide (a < 0)) _ (decide (b < 0)) _ (lm_digs a.natAbs) (lm_digs b.natAbs) ha hb
 rwa [zv_C, zv_C] at this
theorem kadd (a b : Int) (ha : zl a ≤ 274877906944) (hb : zl b ≤ 274877906944) : Fn Tryz.prog En 166 [zC a, zC b] (zC (a + b)) := by
 have := iadd En (decide (a < 0)) _ (decide (b < 0)) _ (lm_digs a.natAbs) (lm_digs b.natAbs) ha hb
 rwa [zv_C, zv_C] at this
theorem kcmp (a b : Int) (ha : zl a ≤ 274877906944) (hb : zl b ≤ 274877906944) : Fn Tryz.prog En 89 [zC a, zC b] (ex (.int .i64 (cmpZ a b))) := by
 have := icmp En (decide (a < 0)) _ (decide (b < 0)) _ (lm_digs a.natAbs) (lm_digs b.natAbs) ha hb
 rwa [zv_C, zv_C] at this
theorem kpow (a : Int) (n : Nat) (ha : zl a ≤ 1073741824) (hn : n ≤ 64) : Fn Tryz.prog En 56 [zC a, ex (.int .i64 (n : Int))] (tupP [zC (a ^ n), ex (.bool true)]) := by
 have := ipow En (decide (a < 0)) _ n (lm_digs a.natAbs) ha hn
 rwa [zv_C] at this
theorem rlowest (s : Bool) (l : List Nat) (s' : Bool) (l' : List Nat) (hl : Lm l) (hl' : Lm l') (hlen : l.length ≤ 274877906944) (hlen' : l'.length ≤ 274877906944) (hd : zv s' l' ≠ 0) :
  Fn Tryz.prog En 57 [zR s l, zR s' l'] (qC (Rat.divInt (zv s l) (zv s' l'))) := by
 rw [qC_low _ hd]
 have hg0 := gd_ne (n := zv s l) hd
 have hgl : zl (gd (zv s l) (zv s' l')) ≤ 274877906944 := by
  have h1 : (gd (zv s l) (zv s' l')).natAbs ≤ (zv s' l').natAbs := Nat.le_of_dvd (Int.natAbs_pos.2 hd) (Int.natAbs_dvd_natAbs.2 (gd_dvd _ _).2)
  exact Nat.le_trans (zl_mono h1) (Nat.le_trans (zl_zv _ hl') hlen')
 have C1 := igcd En s l s' l' hl hl' hlen hlen'
 have C2 := isign En s' l' hl' (by omega)
 have C3 := idivmod En s l (decide (gd (zv s l) (zv s' l') < 0)) (digs (gd (zv s l) (zv s' l')).natAbs) hl (lm_digs _) hlen hgl (by rw [zv_C]; exact hg0)
 have C4 := idivmod En s' l' (decide (gd (zv s l) (zv s' l') < 0)) (digs (gd (zv s l) (zv s' l')).natAbs) hl' (lm_digs _) hlen' hgl (by rw [zv_C]; exact hg0)
 rw [zv_C] at C3 C4
 by_cases hn : zv s' l' < 0
 ·have e : gd (zv s l) (zv s' l') = -((Nat.gcd (zv s l).natAbs (zv s' l').natAbs : Nat) : Int) := by unfold gd; rw [if_pos hn]
  have C5 := kneg En ((Nat.gcd (zv s l).natAbs (zv s' l').natAbs : Nat) : Int) (by rw [← zl_neg, ← e]; exact hgl)
  rw [← e] at C5
  have hs : sg3 (zv s' l') < 0 := by unfold sg3; rw [if_neg hd, if_pos hn]; decide
  refine fn_of_body Tryz.func57 rfl Tryz.ntmps57 rfl ?_
  intro w0 h0
  refine js (jr (jB jj jj jj (jB jj jj jj (jA jj jj jj (jn (js (jr (jL jj jj jj (jL jj jj jj (jS (ru_call C1 ⟨jj, jj, trivial⟩) (jA jj jj jj (jP jj jj jj jj (jn (js (js (jr (jL jj jj jj (jS (ru_call C2 ⟨jj, trivial⟩) (jS (bLt jj jj) (jn (jt jj (jr (jL jj jj jj (jS (ru_call C5 ⟨jj, trivial⟩) (jP jj jj jj jj (jn (js (jr (jL jj jj jj (jL jj jj jj (jS (ru_call C3 ⟨jj, jj, trivial⟩) (jm jj (jx' jj jj (jx' jj jj (jx' jj jj (jP jj jj jj jj (jn (js (jr (jL jj jj jj (jL jj jj jj (jS (ru_call C4 ⟨jj, jj, trivial⟩) (jm jj (jx' jj jj (jx' jj jj (jx' jj jj (jP jj jj jj jj (jn ?_))))))))))))))))))))))))))))))))))))))))))))))))
  refine js (jr (jL jj jj jj (jL jj jj jj (jS (ru_build (ps := [(_, _), (_, _)]) ⟨jj, Part.c jj, jj, Part.c jj, trivial⟩ jj) (jP jj jj jj jj (jn (ji ?_)))))))
  exact ret1 rfl (.cell rfl rfl CRow.ok rfl) (PLe.refl _)
 ·have e : gd (zv s l) (zv s' l') = ((Nat.gcd (zv s l).natAbs (zv s' l').natAbs : Nat) : Int) := by unfold gd; rw [if_neg hn]
  rw [← e] at C1
  have hs : ¬ sg3 (zv s' l') < 0 := by unfold sg3; rw [if_neg hd, if_neg hn]; decide
  refine fn_of_body Tryz.func57 rfl Tryz.ntmps57 rfl ?_
  intro w0 h0
  refine js (jr (jB jj jj jj (jB jj jj jj (jA jj jj jj (jn (js (jr (jL jj jj jj (jL jj jj jj (jS (ru_call C1 ⟨jj, jj, trivial⟩) (jA jj jj jj (jP jj jj jj jj (jn (js (js (jr (jL jj jj jj (jS (ru_call C2 ⟨jj, trivial⟩) (jS (bLf jj jj) (jn (jf jj (jp (js (jr (jL jj jj jj (jL jj jj jj (jS (ru_call C3 ⟨jj, jj, trivial⟩) (jm jj (jx' jj jj (jx' jj jj (jx' jj jj (jP jj jj jj jj (jn (js (jr (jL jj jj jj (jL jj jj jj (jS (ru_call C4 ⟨jj, jj, trivial⟩) (jm jj (jx' jj jj (jx' jj jj (jx' jj jj (jP jj jj jj jj (jn ?_))))))))))))))))))))))))))))))))))))))))))))
  refine js (jr (jL jj jj jj (jL jj jj jj (jS (ru_build (ps := [(_, _), (_, _)]) ⟨jj, Part.c jj, jj, Part.c jj, trivial⟩ jj) (jP jj jj jj jj (jn (ji ?_)))))))
  exact ret1 rfl (.cell rfl rfl CRow.ok rfl) (PLe.refl _)
theorem klowest (a b : Int) (ha : zl a ≤ 274877906944) (hb : zl b ≤ 274877906944) (h : b ≠ 0) : Fn Tryz.prog En 57 [zC a, zC b] (qC (Rat.divInt a b)) := by
 have := rlowest En (decide (a < 0)) _ (decide (b < 0)) _ (lm_digs a.natAbs) (lm_digs b.natAbs) ha hb (by rw [zv_C]; exact h)
 rwa [zv_C, zv_C] at this
theorem rwhole (s : Bool) (l : List Nat) (hl : Lm l) (hlen : l.length ≤ 274877906944) : Fn Tryz.prog En 58 [zR s l] (qC (zv s l : Rat)) := by
 have C1 := inormalize En s l hl hlen
 have C2 := ksmall En 1 (by omega) (by omega)
 have e : qC ((zv s l : Int) : Rat) = aggP [ex (.bool (decide (zv s l < 0))), mag (digs (zv s l).natAbs), ex (.bool (decide ((1 : Int) < 0))), mag (digs (1 : Int).natAbs)] := by
  unfold qC qP RQ.cells RQ.of
  rw [Rat.num_intCast, Rat.den_intCast]
  rfl
 rw [e]
 refine fn_of_body Tryz.func58 rfl Tryz.ntmps58 rfl ?_
 intro w0 h0
 refine js (jr (jB jj jj jj (jA jj jj jj (jn (js (jr (jL jj jj jj (jS (ru_call C1 ⟨jj, trivial⟩) (jS (ru_call C2 ⟨jj, trivial⟩) (jS (ru_build (ps := [(_, _), (_, _)]) ⟨jj, Part.c jj, jj, Part.c jj, trivial⟩ jj) (jP jj jj jj jj (jn (ji ?_)))))))))))))
 exact ret1 rfl (.cell rfl rfl CRow.ok rfl) (PLe.refl _)
theorem kwhole (a : Int) (ha : zl a ≤ 274877906944) : Fn Tryz.prog En 58 [zC a] (qC (a : Rat)) := by
 have := rwhole En (decide (a < 0)) _ (lm_digs a.natAbs) ha
 rwa [zv_C] at this
theorem rnormalize (p : RQ) (hp : p.ok) : Fn Tryz.prog En 88 [qP p] (qC p.v) := by
 have hll := hp.ll
 have hml := hp.ml
 have C1 := isign En p.t p.m hp.m (by omega)
 by_cases hz : zv p.t p.m = 0
 ·have e : p.v = ((0 : Int) : Rat) := by unfold RQ.v; rw [hz, Rat.divInt_zero]; rfl
  rw [e]
  have hs : sg3 (zv p.t p.m) = 0 := by rw [hz]; rfl
  have C2 := (kwhole En 0 (by decide)).arg (ps := [aggP [ex (.bool false), ex (.slice none 0 0)]]) ⟨zC_nil, trivial⟩
  refine fn_of_body Tryz.func88 rfl Tryz.ntmps88 rfl ?_
  intro w0 h0
  refine js (jr (jB jj jj jj (jA jj jj jj (jn (js (js (jr (jF jj jj (jL jj jj jj (jS (ru_call C1 ⟨jj, trivial⟩) (jS (bEt jj jj) (jn (jt jj (js (jr (jS (ru_build (ps := []) trivial jj) (jS (ru_call C2 ⟨jj, trivial⟩) (jP jj jj jj jj (jn (ji ?_))))))))))))))))))))
  exact ret1 rfl (.cell rfl rfl CRow.ok rfl) (PLe.refl _)
 ·have hs : sg3 (zv p.t p.m) ≠ 0 := by unfold sg3; rw [if_neg hz]; split <;> decide
  have C2 := rlowest En p.s p.l p.t p.m hp.l hp.m (by omega) (by omega) hz
  refine fn_of_body Tryz.func88 rfl Tryz.ntmps88 rfl ?_
  intro w0 h0
  refine js (jr (jB jj jj jj (jA jj jj jj (jn (js (js (jr (jF jj jj (jL jj jj jj (jS (ru_call C1 ⟨jj, trivial⟩) (jS (bEf jj jj) (jn (jf jj (jp (js (jr (jF jj jj (jL jj jj jj (jF jj jj (jL jj jj jj (jS (ru_call C2 ⟨jj, jj, trivial⟩) (jP jj jj jj jj (jn (ji ?_))))))))))))))))))))))))
  exact ret1 rfl (.cell rfl rfl CRow.ok rfl) (PLe.refl _)
theorem rcanonical (p : RQ) (hp : p.ok) : Fn Tryz.prog En 49 [qP p] (qC p.v) := by
 have C1 := rnormalize En p hp
 refine fn_of_body Tryz.func49 rfl Tryz.ntmps49 rfl ?_
 intro w0 h0
 refine js (jr (jB jj jj jj (jA jj jj jj (jn (js (jr (jL jj jj jj (jS (ru_call C1 ⟨jj, trivial⟩) (jP jj jj jj jj (jn (ji ?_)))))))))))
 exact ret1 rfl (.cell rfl rfl CRow.ok rfl) (PLe.refl _)
theorem rsgn (r : Rat) (hr : Sz 1073741824 r) : Fn Tryz.prog En 55 [qC r] (ex (.int .i64 (sg3 r.num))) := by
 have C1 := ksign En r.num (Nat.le_trans hr.1 (by omega))
 refine fn_of_body Tryz.func55 rfl Tryz.ntmps55 rfl ?_
 intro w0 h0
 refine js (jr (jB jj jj jj (ja jj (jn (js (jr (jF jj jj (jL jj jj jj (jS (ru_call C1 ⟨jj, trivial⟩) (ja jj (jn (ji ?_))))))))))))
 exact ret1 rfl (.tmp rfl) (PLe.refl _)
theorem rsum (p q : RQ) (hp : p.ok) (hq : q.ok) : Fn Tryz.prog En 148 [slc 4 (p.cells ++ q.cells) 2] (qC (p.v + q.v)) := by
 have hr := RQ.sz hp
 have hs := RQ.sz hq
 have K1 := rcanonical En p hp
 have K2 := rcanonical En q hq
 generalize p.v = r at *
 generalize q.v = s at *
 obtain ⟨r1, r2⟩ := hr
 obtain ⟨s1, s2⟩ := hs
 have S1 := ksmall En 1 (by omega) (by omega)
 have z0 : zl 0 ≤ 1 := by decide
 have z1 : zl 1 ≤ 1 := by decide
 have A1 := zl_mul r.num s.den
 have A2 := zl_mul s.num r.den
 have A3 := zl_mul r.den s.den
 have A4 := zl_add (r.num * s.den) (s.num * r.den)
 let N : Nat → Int := fun i => if i = 0 then 0 else if i = 1 then r.num else r.num * s.den + s.num * r.den
 let D : Nat → Int := fun i => if i = 0 then 1 else if i = 1 then r.den else r.den * s.den
 have F := klowest En (r.num * s.den + s.num * r.den) (r.den * s.den) (by omega) (by omega) (dd_ne r s)
 rw [← rat_add] at F
 have hw1 : IntKind.i64.wrap (((0 : Nat) : Int) + 1) = ((1 : Nat) : Int) := by decide
 have hw2 : IntKind.i64.wrap (((1 : Nat) : Int) + 1) = ((2 : Nat) : Int) := by decide
 have q0 : ((p.cells ++ q.cells).drop (0 * 4)).take 4 = p.cells := rfl
 have q1 : ((p.cells ++ q.cells).drop (1 * 4)).take 4 = q.cells := rfl
 refine fn_of_body Tryz.func148 rfl Tryz.ntmps148 rfl ?_
 intro w0 h0
 refine js (jr (jA jj jj jj (jn (js (jr (jS (ru_build (ps := []) trivial jj) (jS (ru_call S1 ⟨jj, trivial⟩) (jA jj jj jj (jA jj jj jj (jP jj jj jj jj (jP jj jj jj jj (jn (js (js (jr (jm jj (jE jj (jm jj (jn (jb ?_))))))))))))))))))))
 refine WpD.loop (α := {i : Nat // i ≤ 2}) (fun i => ⟨[(2, .ptr 2 0), (3, .ptr 3 0), (4, .ptr 4 0), (10, .one (slc 4 (p.cells ++ q.cells) 2)), (11, .one (ex (.int .i64 ((2 : Nat) : Int)))), (12, .one (ex (.int .i64 ((i.1 : Nat) : Int))))], [(3, zCells (N i.1)), (4, zCells (D i.1)), (2, [ex (.bool false), ex (.slice none 0 0), ex (.bool false), ex (.slice none 0 0)])]⟩) (fun i => 2 - i.1) ⟨0, by omega⟩ ?_ ?_
 ·refine Sub.mk ?_ ⟨.inl ⟨_, jj, ⟨PLe.refl _, mag_nil, trivial⟩⟩, .inl ⟨_, jj, PsLe.refl _⟩, .inl ⟨_, jj, PsLe.refl _⟩, trivial⟩
  repeat (first | exact trivial | refine jv jj ?_ | refine jw jj (js0 jj) ?_ | refine ⟨⟨_, jj, PLe.refl _⟩, trivial, ?_⟩)
 rintro ⟨i, hi⟩
 dsimp only
 have hcase : i = 0 ∨ i = 1 ∨ i = 2 := by omega
 rcases hcase with rfl | rfl | rfl
 ·have m1 := kmul En 0 r.den (by omega) (by omega)
  have m2 := kmul En r.num 1 (by omega) (by omega)
  have m3 := kadd En (0 * r.den) (r.num * 1) (by rw [Int.zero_mul]; omega) (by rw [Int.mul_one]; omega)
  have m4 := kmul En 1 r.den (by omega) (by omega)
  rw [Int.zero_mul] at m1 m3
  rw [Int.mul_one] at m2 m3
  rw [Int.zero_add] at m3
  rw [Int.one_mul] at m4
  refine js (jr (jS (bLt jj jj) (jn (js (jt jj (jp (js (jb (js (jr (jS (rc_indexS jj jj (by first | assumption | omega) (by assumption)) (jS (rc_loadR jj jj jj) (jA jj jj jj (jP jj jj jj jj (jn (js (jr (jL jj jj jj (jS (ru_call K1 ⟨jj, trivial⟩) (jA jj jj jj (jP jj jj jj jj (jn (js (jr (jL jj jj jj (jF jj jj (jL jj jj jj (jS (ru_call m1 ⟨jj, jj, trivial⟩) (jF jj jj (jL jj jj jj (jL jj jj jj (jS (ru_call m2 ⟨jj, jj, trivial⟩) (jS (ru_call m3 ⟨jj, jj, trivial⟩) (jP jj jj jj jj (jn (jr (jL jj jj jj (jF jj jj (jL jj jj jj (jS (ru_call m4 ⟨jj, jj, trivial⟩) (jP jj jj jj jj (jn ?_))))))))))))))))))))))))))))))))))))))))))
  refine jr (jS (bAd jj jj hw1) (jm jj (jn ?_)))
  refine ⟨⟨1, by omega⟩, ?_, by dsimp only; omega⟩
  refine Sub.mk ?_ ?_ <;> repeat (first | exact trivial | refine jv jj ?_ | refine jy jj ?_ | refine jw jj (js0 jj) ?_ | refine ⟨⟨_, jj, PLe.refl _⟩, trivial, ?_⟩)
 ·have m1 := kmul En r.num s.den (by omega) (by omega)
  have m2 := kmul En s.num r.den (by omega) (by omega)
  have m3 := kadd En (r.num * s.den) (s.num * r.den) (by omega) (by omega)
  have m4 := kmul En r.den s.den (by omega) (by omega)
  refine js (jr (jS (bLt jj jj) (jn (js (jt jj (jp (js (jb (js (jr (jS (rc_indexS jj jj (by first | assumption | omega) (by assumption)) (jS (rc_loadR jj jj jj) (jA jj jj jj (jP jj jj jj jj (jn (js (jr (jL jj jj jj (jS (ru_call K2 ⟨jj, trivial⟩) (jA jj jj jj (jP jj jj jj jj (jn (js (jr (jL jj jj jj (jF jj jj (jL jj jj jj (jS (ru_call m1 ⟨jj, jj, trivial⟩) (jF jj jj (jL jj jj jj (jL jj jj jj (jS (ru_call m2 ⟨jj, jj, trivial⟩) (jS (ru_call m3 ⟨jj, jj, trivial⟩) (jP jj jj jj jj (jn (jr (jL jj jj jj (jF jj jj (jL jj jj jj (jS (ru_call m4 ⟨jj, jj, trivial⟩) (jP jj jj jj jj (jn ?_))))))))))))))))))))))))))))))))))))))))))
  refine jr (jS (bAd jj jj hw2) (jm jj (jn ?_)))
  refine ⟨⟨2, by omega⟩, ?_, by dsimp only; omega⟩
  refine Sub.mk ?_ ?_ <;> repeat (first | exact trivial | refine jv jj ?_ | refine jy jj ?_ | refine jw jj (js0 jj) ?_ | refine ⟨⟨_, jj, PLe.refl _⟩, trivial, ?_⟩)
 ·refine js (jr (jS (bLf jj jj) (jn (js (jf jj (je (js (jr (jL jj jj jj (jL jj jj jj (jS (ru_call F ⟨jj, jj, trivial⟩) (jP jj jj jj jj (jn (ji ?_))))))))))))))
  exact ret1 rfl (.cell rfl rfl CRow.ok rfl) (PLe.refl _)
theorem rproduct (p q : RQ) (hp : p.ok) (hq : q.ok) : Fn Tryz.prog En 69 [slc 4 (p.cells ++ q.cells) 2] (qC (p.v * q.v)) := by
 have hr := RQ.sz hp
 have hs := RQ.sz hq
 have K1 := rcanonical En p hp
 have K2 := rcanonical En q hq
 generalize p.v = r at *
 generalize q.v = s at *
 obtain ⟨r1, r2⟩ := hr
 obtain ⟨s1, s2⟩ := hs
 have S1 := ksmall En 1 (by omega) (by omega)
 have z1 : zl 1 ≤ 1 := by decide
 have A1 := zl_mul r.num s.num
 have A3 := zl_mul r.den s.den
 let N : Nat → Int := fun i => if i = 0 then 1 else if i = 1 then r.num else r.num * s.num
 let D : Nat → Int := fun i => if i = 0 then 1 else if i = 1 then r.den else r.den * s.den
 have F := klowest En (r.num * s.num) (r.den * s.den) (by omega) (by omega) (dd_ne r s)
 rw [← rat_mul] at F
 have hw1 : IntKind.i64.wrap (((0 : Nat) : Int) + 1) = ((1 : Nat) : Int) := by decide
 have hw2 : IntKind.i64.wrap (((1 : Nat) : Int) + 1) = ((2 : Nat) : Int) := by decide
 have q0 : ((p.cells ++ q.cells).drop (0 * 4)).take 4 = p.cells := rfl
 have q1 : ((p.cells ++ q.cells).drop (1 * 4)).take 4 = q.cells := rfl
 refine fn_of_body Tryz.func69 rfl Tryz.ntmps69 rfl ?_
 intro w0 h0
 refine js (jr (jA jj jj jj (jn (js (jr (jS (ru_call S1 ⟨jj, trivial⟩) (jS (ru_call S1 ⟨jj, trivial⟩) (jA jj jj jj (jA jj jj jj (jP jj jj jj jj (jP jj jj jj jj (jn (js (js (jr (jm jj (jE jj (jm jj (jn (jb ?_))))))))))))))))))))
 refine WpD.loop (α := {i : Nat // i ≤ 2}) (fun i => ⟨[(2, .ptr 2 0), (3, .ptr 3 0), (4, .ptr 4 0), (10, .one (slc 4 (p.cells ++ q.cells) 2)), (11, .one (ex (.int .i64 ((2 : Nat) : Int)))), (12, .one (ex (.int .i64 ((i.1 : Nat) : Int))))], [(3, zCells (N i.1)), (4, zCells (D i.1)), (2, [ex (.bool false), ex (.slice none 0 0), ex (.bool false), ex (.slice none 0 0)])]⟩) (fun i => 2 - i.1) ⟨0, by omega⟩ ?_ ?_
 ·refine Sub.mk ?_ ?_ <;> repeat (first | exact trivial | refine jv jj ?_ | refine jy jj ?_ | refine jw jj (js0 jj) ?_ | refine ⟨⟨_, jj, PLe.refl _⟩, trivial, ?_⟩)
 rintro ⟨i, hi⟩
 dsimp only
 have hcase : i = 0 ∨ i = 1 ∨ i = 2 := by omega
 rcases hcase with rfl | rfl | rfl
 ·have m1 := kmul En 1 r.num (by omega) (by omega)
  have m4 := kmul En 1 r.den (by omega) (by omega)
  rw [Int.one_mul] at m1 m4
  refine js (jr (jS (bLt jj jj) (jn (js (jt jj (jp (js (jb (js (jr (jS (rc_indexS jj jj (by first | assumption | omega) (by assumption)) (jS (rc_loadR jj jj jj) (jA jj jj jj (jP jj jj jj jj (jn (js (jr (jL jj jj jj (jS (ru_call K1 ⟨jj, trivial⟩) (jA jj jj jj (jP jj jj jj jj (jn (jr (jL jj jj jj (jF jj jj (jL jj jj jj (jS (ru_call m1 ⟨jj, jj, trivial⟩) (jL jj jj jj (jF jj jj (jL jj jj jj (jS (ru_call m4 ⟨jj, jj, trivial⟩) (jP jj jj jj jj (jP jj jj jj jj (jn (jr (jS (bAd jj jj hw1) (jm jj (jn ?_))))))))))))))))))))))))))))))))))))))
  refine ⟨⟨1, by omega⟩, ?_, by dsimp only; omega⟩
  refine Sub.mk ?_ ?_ <;> repeat (first | exact trivial | refine jv jj ?_ | refine jy jj ?_ | refine jw jj (js0 jj) ?_ | refine ⟨⟨_, jj, PLe.refl _⟩, trivial, ?_⟩)
 ·have m1 := kmul En r.num s.num (by omega) (by omega)
  have m4 := kmul En r.den s.den (by omega) (by omega)
  refine js (jr (jS (bLt jj jj) (jn (js (jt jj (jp (js (jb (js (jr (jS (rc_indexS jj jj (by first | assumption | omega) (by assumption)) (jS (rc_loadR jj jj jj) (jA jj jj jj (jP jj jj jj jj (jn (js (jr (jL jj jj jj (jS (ru_call K2 ⟨jj, trivial⟩) (jA jj jj jj (jP jj jj jj jj (jn (jr (jL jj jj jj (jF jj jj (jL jj jj jj (jS (ru_call m1 ⟨jj, jj, trivial⟩) (jL jj jj jj (jF jj jj (jL jj jj jj (jS (ru_call m4 ⟨jj, jj, trivial⟩) (jP jj jj jj jj (jP jj jj jj jj (jn (jr (jS (bAd jj jj hw2) (jm jj (jn ?_))))))))))))))))))))))))))))))))))))))
  refine ⟨⟨2, by omega⟩, ?_, by dsimp only; omega⟩
  refine Sub.mk ?_ ?_ <;> repeat (first | exact trivial | refine jv jj ?_ | refine jy jj ?_ | refine jw jj (js0 jj) ?_ | refine ⟨⟨_, jj, PLe.refl _⟩, trivial, ?_⟩)
 ·refine js (jr (jS (bLf jj jj) (jn (js (jf jj (je (js (jr (jL jj jj jj (jL jj jj jj (jS (ru_call F ⟨jj, jj, trivial⟩) (jP jj jj jj jj (jn (ji ?_))))))))))))))
  exact ret1 rfl (.cell rfl rfl CRow.ok rfl) (PLe.refl _)
theorem rmul (p q : RQ) (hp : p.ok) (hq : q.ok) : Fn Tryz.prog En 37 [qP p, qP q] (qC (p.v * q.v)) := by
 have C1 := rproduct En p q hp hq
 refine fn_of_body Tryz.func37 rfl Tryz.ntmps37 rfl ?_
 intro w0 h0
 refine js (jr (jB jj jj jj (jB jj jj jj (jA jj jj jj (jn (js (jr (jL jj jj jj (jL jj jj jj (jS (rc_buildR (ps := [(_, _), (_, _)]) ⟨jj, Part.c jj, jj, Part.c jj, trivial⟩ jj jj jj) (jS (ru_call C1 ⟨jj, trivial⟩) (jP jj jj jj jj (jn (ji ?_))))))))))))))
 exact ret1 rfl (.cell rfl rfl CRow.ok rfl) (PLe.refl _)
theorem qC_mk (r : Rat) {a b : Int} (h1 : r.num = a) (h2 : (r.den : Int) = b) : qC r = aggP [ex (.bool (decide (a < 0))), mag (digs a.natAbs), ex (.bool (decide (b < 0))), mag (digs b.natAbs)] := by
 subst h1; subst h2; rfl
theorem rneg (p : RQ) (hp : p.ok) : Fn Tryz.prog En 149 [qP p] (qC (-p.v)) := by
 have hr := RQ.sz hp
 have C1 := rcanonical En p hp
 generalize p.v = r at *
 have C2 := kneg En r.num (Nat.le_trans hr.1 (by omega))
 rw [qC_mk (-r) (a := -r.num) (b := r.den) rfl rfl]
 refine fn_of_body Tryz.func149 rfl Tryz.ntmps149 rfl ?_
 intro w0 h0
 refine js (jr (jB jj jj jj (jA jj jj jj (jn (js (jr (jL jj jj jj (jS (ru_call C1 ⟨jj, trivial⟩) (jA jj jj jj (jP jj jj jj jj (jn (js (jr (jF jj jj (jL jj jj jj (jS (ru_call C2 ⟨jj, trivial⟩) (jF jj jj (jL jj jj jj (jS (ru_build (ps := [(_, _), (_, _)]) ⟨jj, Part.c jj, jj, Part.c jj, trivial⟩ jj) (jP jj jj jj jj (jn (ji ?_))))))))))))))))))))))
 exact ret1 rfl (.cell rfl rfl CRow.ok rfl) (PLe.refl _)
theorem rsub (p q : RQ) (hp : p.ok) (hq : q.ok) : Fn Tryz.prog En 118 [qP p, qP q] (qC (p.v - q.v)) := by
 have C1 := rneg En q hq
 have C2 := rsum En p (RQ.of (-q.v)) hp (RQ.of_ok (szq_neg (RQ.sz hq)))
 rw [RQ.of_v, ← Rat.sub_eq_add_neg] at C2
 refine fn_of_body Tryz.func118 rfl Tryz.ntmps118 rfl ?_
 intro w0 h0
 refine js (jr (jB jj jj jj (jB jj jj jj (jA jj jj jj (jn (js (jr (jL jj jj jj (jL jj jj jj (jS (ru_call C1 ⟨jj, trivial⟩) (jS (rc_buildR (ps := [(_, _), (_, _)]) ⟨jj, Part.c jj, jj, Part.c jj, trivial⟩ jj jj jj) (jS (ru_call C2 ⟨jj, trivial⟩) (jP jj jj jj jj (jn (ji ?_)))))))))))))))
 exact ret1 rfl (.cell rfl rfl CRow.ok rfl) (PLe.refl _)
theorem rquo (p q : RQ) (hp : p.ok) (hq : q.ok) (h0 : q.v ≠ 0) : Fn Tryz.prog En 71 [qP p, qP q] (tupP [qC (p.v / q.v), ex (.bool true)]) := by
 have hs := RQ.sz hq
 have C1 := rcanonical En q hq
 generalize q.v = s at *
 have hn : s.num ≠ 0 := fun h => h0 (Rat.num_eq_zero.1 h)
 have hsg : sg3 s.num ≠ 0 := by unfold sg3; rw [if_neg hn]; split <;> decide
 have C2 := rsgn En s hs
 have C3 := rproduct En p ⟨decide ((s.den : Int) < 0), digs (s.den : Int).natAbs, decide (s.num < 0), digs s.num.natAbs⟩ hp ⟨lm_digs _, lm_digs _, hs.2, hs.1⟩
 have e : (⟨decide ((s.den : Int) < 0), digs (s.den : Int).natAbs, decide (s.num < 0), digs s.num.natAbs⟩ : RQ).v = s⁻¹ := by
  unfold RQ.v
  simp only
  rw [zv_C, zv_C, Rat.inv_def]
 rw [e, ← Rat.div_def] at C3
 refine fn_of_body Tryz.func71 rfl Tryz.ntmps71 rfl ?_
 intro w0 h0
 refine js (jr (jB jj jj jj (jB jj jj jj (jA jj jj jj (ja jj (jn (js (jr (jL jj jj jj (jS (ru_call C1 ⟨jj, trivial⟩) (jA jj jj jj (jP jj jj jj jj (jn (js (js (jr (jL jj jj jj (jS (ru_call C2 ⟨jj, trivial⟩) (jS (bEf jj jj) (jn (jf jj (jp (js (jr (jL jj jj jj (jF jj jj (jL jj jj jj (jF jj jj (jL jj jj jj (jS (ru_build (ps := [(_, _), (_, _)]) ⟨jj, Part.c jj, jj, Part.c jj, trivial⟩ jj) (jS (rc_buildR (ps := [(_, _), (_, _)]) ⟨jj, Part.c jj, jj, Part.c jj, trivial⟩ jj jj jj) (jS (ru_call C3 ⟨jj, trivial⟩) (jP jj jj jj jj (ja jj (jn (ji ?_))))))))))))))))))))))))))))))))))))
 exact ret2 rfl (.cell rfl rfl CRow.ok rfl) (.tmp rfl) (PLe.refl _)
end
end Go.Proofs.YtdieokoenhncfaaGreatDoor
/- Rational numbers of the program: Pow, Cmp, IsWhole. -/
namespace Go.Proofs.YtdieokoenhncfaaGreatDoor
open Go.RowKit Limb
theorem divInt_pow (a b : Int) : ∀ n : Nat, Rat.divInt (a ^ n) (b ^ n) = (Rat.divInt a b) ^ n
 | 0 => by simp; rfl
 | n + 1 => by rw [Int.pow_succ, Int.pow_succ, ← Rat.divInt_mul_divInt, divInt_pow a b n, Rat.pow_succ]
theorem zl_pow (a : Int) : ∀ n : Nat, 1 ≤ zl a → zl (a ^ n) ≤ n * zl a + 1
 | 0, _ => by rw [Int.pow_zero]; exact Nat.le_trans (show zl 1 ≤ 1 by decide) (by omega)
 | n + 1, h => by
  rw [Int.pow_succ]
  have h1 := zl_mul (a ^ n) a
  have h2 := zl_pow a n h
  rw [Nat.succ_mul]; omega
theorem zl_pos {a : Int} (h : a ≠ 0) : 1 ≤ zl a := by
 unfold zl
 rw [digs_step (by omega)]
 simp
theorem zl_pow_le {a : Int} {b n : Nat} (h : zl a ≤ b) : zl (a ^ n) ≤ n * b + 1 := by
 by_cases ha : a = 0
 ·subst ha
  cases n with
  | zero => rw [Int.pow_zero]; exact Nat.le_trans (show zl 1 ≤ 1 by decide) (by omega)
  | succ n => rw [Int.zero_pow (by omega)]; exact Nat.le_trans (show zl 0 ≤ 0 by decide) (by omega)
 ·have := zl_pow a n (zl_pos ha)
  have : n * zl a ≤ n * b := Nat.mul_le_mul_left _ h
  omega
section
variable (En : Ev)
theorem rpow (p : RQ) (n : Nat) (hp : p.ok) (hn : n ≤ 64) : Fn Tryz.prog En 28 [qP p, ex (.int .i64 (n : Int))] (tupP [qC (p.v ^ n), ex (.bool true)]) := by
 have hr := RQ.sz hp
 have C1 := rcanonical En p hp
 generalize p.v = r at *
 have h1 := zl_pow_le (n := n) hr.1
 have h2 := zl_pow_le (n := n) hr.2
 have hm : n * 1073741824 ≤ 64 * 1073741824 := Nat.mul_le_mul_right _ hn
 have C2 := kpow En r.num n hr.1 hn
 have C3 := kpow En r.den n hr.2 hn
 have C4 := klowest En (r.num ^ n) ((r.den : Int) ^ n) (by omega) (by omega) (Int.pow_ne_zero (den_ne r))
 rw [divInt_pow, Rat.num_divInt_den] at C4
 refine fn_of_body Tryz.func28 rfl Tryz.ntmps28 rfl ?_
 intro w0 h0
 refine js (jr (jB jj jj jj (jA jj jj jj (ja jj (jn (js (jr (jL jj jj jj (jS (ru_call C1 ⟨jj, trivial⟩) (jA jj jj jj (jP jj jj jj jj (jn (js (js (jr (jm jj (jS (bLf jj jj) (jm jj (jg (rt_move jj) (jg (bGf jj jj) (jQ jj jj (jm jj (jg (rt_move jj) (jg (bLf jj jj) (jg (rt_move jj) (jk (jk (jk (jg (rt_pick_false jj jj) (jQ jj jj (jn (jf jj (jp (js (jr (jF jj jj (jL jj jj jj (jF jj jj (jL jj jj jj (jA jj jj jj (jA jj jj jj (jP jj jj jj jj (jP jj jj jj jj (jn ?_))))))))))))))))))))))))))))))))))))))))))))
 refine js (js (jr (jm jj (jS (bLf jj jj) (jn (jf jj (jp (js (jr (jL jj jj jj (jm jj (jS (ru_call C2 ⟨jj, jj, trivial⟩) (jm jj (jx' jj jj (jx' jj jj (jP jj jj jj jj (jn (js (jr (jL jj jj jj (jm jj (jS (ru_call C3 ⟨jj, jj, trivial⟩) (jm jj (jx' jj jj (jx' jj jj (jP jj jj jj jj (jn (js (jr (jL jj jj jj (jL jj jj jj (jS (ru_call C4 ⟨jj, jj, trivial⟩) (jP jj jj jj jj (ja jj (jn (ji ?_))))))))))))))))))))))))))))))))))))
 exact ret2 rfl (.cell rfl rfl CRow.ok rfl) (.tmp rfl) (PLe.refl _)
theorem rpow_neg (p : RQ) (n : Nat) (hp : p.ok) (hn : n ≤ 64) (hn0 : 0 < n) (h0 : p.v ≠ 0) : Fn Tryz.prog En 28 [qP p, ex (.int .i64 (-(n : Int)))] (tupP [qC (p.v⁻¹ ^ n), ex (.bool true)]) := by
 have hr := RQ.sz hp
 have C1 := rcanonical En p hp
 generalize p.v = r at *
 have hnum : r.num ≠ 0 := fun h => h0 (Rat.num_eq_zero.1 h)
 have hsg : sg3 r.num ≠ 0 := by unfold sg3; rw [if_neg hnum]; split <;> decide
 have S1 := rsgn En r hr
 have h1 := zl_pow_le (n := n) hr.1
 have h2 := zl_pow_le (n := n) hr.2
 have hm : n * 1073741824 ≤ 64 * 1073741824 := Nat.mul_le_mul_right _ hn
 have C2 := kpow En r.num n hr.1 hn
 have C3 := kpow En r.den n hr.2 hn
 have C4 := klowest En ((r.den : Int) ^ n) (r.num ^ n) (by omega) (by omega) (Int.pow_ne_zero hnum)
 rw [divInt_pow, ← Rat.inv_def] at C4
 have e : IntKind.i64.wrap (-(-(n : Int))) = (n : Int) := by rw [Int.neg_neg]; exact w64 (by omega) (by omega)
 refine fn_of_body Tryz.func28 rfl Tryz.ntmps28 rfl ?_
 intro w0 h0
 refine js (jr (jB jj jj jj (jA jj jj jj (ja jj (jn (js (jr (jL jj jj jj (jS (ru_call C1 ⟨jj, trivial⟩) (jA jj jj jj (jP jj jj jj jj (jn (js (js (jr (jm jj (jS (bLf jj jj) (jm jj (jg (rt_move jj) (jg (bGf jj jj) (jQ jj jj (jm jj (jg (rt_move jj) (jg (bLt jj jj) (jg (rt_move jj) (jg (ru_loadR jj jj jj jj) (jg (ru_call S1 ⟨jj, trivial⟩) (jg (bEf jj jj) (jg (rt_pick_true jj jj) (jQ jj jj (jn (jf jj (jp (js (jr (jF jj jj (jL jj jj jj (jF jj jj (jL jj jj jj (jA jj jj jj (jA jj jj jj (jP jj jj jj jj (jP jj jj jj jj (jn ?_))))))))))))))))))))))))))))))))))))))))))))
 refine js (js (jr (jm jj (jS (bLt jj jj) (jn (jt jj (jr (jm jj (jS (rt_un_to jj (fun w => run_negi w _ _) (vint e)) (jL jj jj jj (jL jj jj jj (ja jj (jP jj jj jj jj (jP jj jj jj jj (jn (js (jr (jL jj jj jj (jm jj (jS (ru_call C3 ⟨jj, jj, trivial⟩) (jm jj (jx' jj jj (jx' jj jj (jP jj jj jj jj (jn (js (jr (jL jj jj jj (jm jj (jS (ru_call C2 ⟨jj, jj, trivial⟩) (jm jj (jx' jj jj (jx' jj jj (jP jj jj jj jj (jn (js (jr (jL jj jj jj (jL jj jj jj (jS (ru_call C4 ⟨jj, jj, trivial⟩) (jP jj jj jj jj (ja jj (jn ?_)))))))))))))))))))))))))))))))))))))))))))
 refine ji ?_
 exact ret2 rfl (.cell rfl rfl CRow.ok rfl) (.tmp rfl) (PLe.refl _)
theorem riswhole (p : RQ) (hp : p.ok) : Fn Tryz.prog En 50 [qP p] (ex (.bool (cmpZ p.v.den 1 == 0))) := by
 have hr := RQ.sz hp
 have K1 := rcanonical En p hp
 generalize p.v = r at *
 have S1 := ksmall En 1 (by omega) (by omega)
 have m3 := kcmp En r.den 1 (Nat.le_trans hr.2 (by omega)) (by decide)
 refine fn_of_body Tryz.func50 rfl Tryz.ntmps50 rfl ?_
 intro w0 h0
 refine js (jr (jB jj jj jj (ja jj (jn (js (jr (jL jj jj jj (jS (ru_call K1 ⟨jj, trivial⟩) ?_))))))))
 first | refine jS (ru_field1 jj jj) ?_ | refine jS (ru_fieldR jj jj) ?_
 refine jS (ru_call S1 ⟨jj, trivial⟩) (jS (ru_call m3 ⟨jj, jj, trivial⟩) (jS (rt_bin jj jj (fun w => run_eqi w _ _ _ _ _ _)) (ja jj (jn (ji ?_)))))
 exact ret1 rfl (.tmp rfl) (PLe.refl _)
end
end Go.Proofs.YtdieokoenhncfaaGreatDoor
/- Rational numbers of the reference. -/
namespace Go.Proofs.YtdieokoenhncfaaGreatDoor
open Go.RowKit Limb
instance cbody73 : CBody Tryz.prog 73 := ⟨⟨_, Tryz.func73, rfl, by rfl⟩⟩
instance cbody115 : CBody Tryz.prog 115 := ⟨⟨_, Tryz.func115, rfl, by rfl⟩⟩
instance cbody64 : CBody Tryz.prog 64 := ⟨⟨_, Tryz.func64, rfl, by rfl⟩⟩
instance cbody72 : CBody Tryz.prog 72 := ⟨⟨_, Tryz.func72, rfl, by rfl⟩⟩
instance cbody34 : CBody Tryz.prog 34 := ⟨⟨_, Tryz.func34, rfl, by rfl⟩⟩
instance cbody155 : CBody Tryz.prog 155 := ⟨⟨_, Tryz.func155, rfl, by rfl⟩⟩
instance cbody154 : CBody Tryz.prog 154 := ⟨⟨_, Tryz.func154, rfl, by rfl⟩⟩
instance cbody126 : CBody Tryz.prog 126 := ⟨⟨_, Tryz.func126, rfl, by rfl⟩⟩
instance cbody39 : CBody Tryz.prog 39 := ⟨⟨_, Tryz.func39, rfl, by rfl⟩⟩
instance cbody113 : CBody Tryz.prog 113 := ⟨⟨_, Tryz.func113, rfl, by rfl⟩⟩
instance cbody63 : CBody Tryz.prog 63 := ⟨⟨_, Tryz.func63, rfl, by rfl⟩⟩
structure RQ.okR (p : RQ) : Prop where
 l : Lm p.l
 m : Lm p.m
 ll : p.l.length ≤ 134217728
 ml : p.m.length ≤ 134217728
theorem RQ.okR.ok {p : RQ} (h : p.okR) : p.ok := ⟨h.l, h.m, Nat.le_trans h.ll (by omega), Nat.le_trans h.ml (by omega)⟩
section
variable (En : Ev)
theorem same_iff (r s : Rat) : decide (r = s) = (decide (r.num = s.num) && decide ((r.den : Int) = s.den)) := by
 rw [← Bool.decide_and]
 congr 1
 apply propext
 constructor
 ·rintro rfl; exact ⟨rfl, rfl⟩
 ·rintro ⟨h1, h2⟩; exact Rat.ext h1 (by exact_mod_cast h2)
theorem qsame (r s : Rat) (hr : Sz 134217728 r) (hs : Sz 134217728 s) : Fn Tryz.prog En 34 [qC r, qC s] (ex (.bool (decide (r = s)))) := by
 have C1 := fsame En r.num s.num (Nat.le_trans hr.1 (by omega)) (Nat.le_trans hs.1 (by omega))
 have C2 := fsame En r.den s.den (Nat.le_trans hr.2 (by omega)) (Nat.le_trans hs.2 (by omega))
 rw [same_iff]
 cases h : decide (r.num = s.num) with
 | true =>
  rw [h] at C1
  refine fn_of_body Tryz.func34 rfl Tryz.ntmps34 rfl ?_
  intro w0 h0
  repeat (first | refine js ?_ | refine jb ?_)
  refine jr (jB jj jj jj (jB jj jj jj (ja jj (jn ?_))))
  repeat (first | refine js ?_ | refine jb ?_)
  refine jr (jF jj jj (jL jj jj jj (jF jj jj (jL jj jj jj (jS (ru_call C1 ⟨jj, jj, trivial⟩) (jm jj ?_))))))
  first | refine jg (ru_fieldAddr jj jj) ?_ | refine jk ?_
  first | refine jg (ru_loadR jj jj jj jj) ?_ | refine jk ?_
  first | refine jg (ru_fieldAddr jj jj) ?_ | refine jk ?_
  first | refine jg (ru_loadR jj jj jj jj) ?_ | refine jk ?_
  first | refine jg (ru_call C2 ⟨jj, jj, trivial⟩) ?_ | refine jk ?_
  first | refine jq jj jj ?_ | refine jQ jj jj ?_
  refine ja jj (jn ?_)
  repeat (first | refine js ?_ | refine jb ?_)
  refine WpD.ret ?_
  exact ret1 rfl (.tmp rfl) (PLe.refl _)
 | false =>
  rw [h] at C1
  refine fn_of_body Tryz.func34 rfl Tryz.ntmps34 rfl ?_
  intro w0 h0
  repeat (first | refine js ?_ | refine jb ?_)
  refine jr (jB jj jj jj (jB jj jj jj (ja jj (jn ?_))))
  repeat (first | refine js ?_ | refine jb ?_)
  refine jr (jF jj jj (jL jj jj jj (jF jj jj (jL jj jj jj (jS (ru_call C1 ⟨jj, jj, trivial⟩) (jm jj ?_))))))
  first | refine jg (ru_fieldAddr jj jj) ?_ | refine jk ?_
  first | refine jg (ru_loadR jj jj jj jj) ?_ | refine jk ?_
  first | refine jg (ru_fieldAddr jj jj) ?_ | refine jk ?_
  first | refine jg (ru_loadR jj jj jj jj) ?_ | refine jk ?_
  first | refine jg (ru_call C2 ⟨jj, jj, trivial⟩) ?_ | refine jk ?_
  first | refine jq jj jj ?_ | refine jQ jj jj ?_
  refine ja jj (jn ?_)
  repeat (first | refine js ?_ | refine jb ?_)
  refine WpD.ret ?_
  exact ret1 rfl (.tmp rfl) (PLe.refl _)
end
end Go.Proofs.YtdieokoenhncfaaGreatDoor
/- Bernoulli numbers: plain, and the program's and the reference's lists. -/
namespace Go.Proofs.YtdieokoenhncfaaGreatDoor
open Go.RowKit Limb
instance cbody125 : CBody Tryz.prog 125 := ⟨⟨_, Tryz.func125, rfl, by rfl⟩⟩
instance cbody124 : CBody Tryz.prog 124 := ⟨⟨_, Tryz.func124, rfl, by rfl⟩⟩
section
variable (En : Ev)
theorem krsub (a b : Rat) (ha : Sz 1073741824 a) (hb : Sz 1073741824 b) : Fn Tryz.prog En 118 [qC a, qC b] (qC (a - b)) := by
 have := rsub En (RQ.of a) (RQ.of b) (RQ.of_ok ha) (RQ.of_ok hb)
 rwa [RQ.of_v, RQ.of_v] at this
theorem krmul (a b : Rat) (ha : Sz 1073741824 a) (hb : Sz 1073741824 b) : Fn Tryz.prog En 37 [qC a, qC b] (qC (a * b)) := by
 have := rmul En (RQ.of a) (RQ.of b) (RQ.of_ok ha) (RQ.of_ok hb)
 rwa [RQ.of_v, RQ.of_v] at this
theorem krquo (a b : Rat) (ha : Sz 1073741824 a) (hb : Sz 1073741824 b) (h : b ≠ 0) : Fn Tryz.prog En 71 [qC a, qC b] (tupP [qC (a / b), ex (.bool true)]) := by
 have := rquo En (RQ.of a) (RQ.of b) (RQ.of_ok ha) (RQ.of_ok hb) (by rw [RQ.of_v]; exact h)
 rwa [RQ.of_v, RQ.of_v] at this
theorem krpow (a : Rat) (n : Nat) (ha : Sz 1073741824 a) (hn : n ≤ 64) : Fn Tryz.prog En 28 [qC a, ex (.int .i64 (n : Int))] (tupP [qC (a ^ n), ex (.bool true)]) := by
 have := rpow En (RQ.of a) n (RQ.of_ok ha) hn
 rwa [RQ.of_v] at this
theorem krpow_neg (a : Rat) (n : Nat) (ha : Sz 1073741824 a) (hn : n ≤ 64) (hn0 : 0 < n) (h : a ≠ 0) : Fn Tryz.prog En 28 [qC a, ex (.int .i64 (-(n : Int)))] (tupP [qC (a⁻¹ ^ n), ex (.bool true)]) := by
 have := rpow_neg En (RQ.of a) n (RQ.of_ok ha) hn hn0 (by rw [RQ.of_v]; exact h)
 rwa [RQ.of_v] at this
end
theorem sz_two {r : Rat} (h : r.num.natAbs < 18446744073709551616 ∧ r.den < 18446744073709551616) : Sz 2 r := ⟨zl_small (by omega) (by omega), zl_small (by omega) (by omega)⟩
theorem sz_z {z : Int} (h1 : -9223372036854775808 ≤ z) (h2 : z ≤ 9223372036854775807) : Sz 2 (z : Rat) := szq_int (zl_small (by omega) (by omega)) (by omega)
def rows (f : Nat → List Pd) (n : Nat) : List Pd := (List.range n).flatMap f
theorem rows_succ (f : Nat → List Pd) (n : Nat) : rows f (n + 1) = rows f n ++ f n := by unfold rows; rw [List.range_succ, List.flatMap_append]; simp
theorem rows_len {f : Nat → List Pd} {k : Nat} (hf : ∀ i, (f i).length = k) : ∀ n, (rows f n).length = n * k
 | 0 => by simp [rows]
 | n + 1 => by rw [rows_succ, List.length_append, rows_len hf n, hf, Nat.succ_mul]
theorem rows_get {f : Nat → List Pd} {k : Nat} (hf : ∀ i, (f i).length = k) : ∀ {n i : Nat}, i < n → ((rows f n).drop (i * k)).take k = f i
 | 0, i, h => by omega
 | n + 1, i, h => by
  rw [rows_succ]
  by_cases e : i = n
  ·subst e
   rw [← rows_len hf i, List.drop_left, ← hf i, List.take_length]
  ·have hlt : i < n := by omega
   have hle : i * k + k ≤ n * k := by rw [← Nat.succ_mul]; exact Nat.mul_le_mul_right _ hlt
   rw [List.drop_append_of_le_length (by rw [rows_len hf]; omega), List.take_append_of_le_length (by rw [List.length_drop, rows_len hf]; omega)]
   exact rows_get hf hlt
theorem rows_congr {f g : Nat → List Pd} : ∀ {n : Nat}, (∀ i, i < n → f i = g i) → rows f n = rows g n
 | 0, _ => rfl
 | n + 1, h => by rw [rows_succ, rows_succ, rows_congr fun i hi => h i (by omega), h n (by omega)]
section
variable (En : Ev)
end
end Go.Proofs.YtdieokoenhncfaaGreatDoor
/- Plain number theory, no program in sight: least factors, prime numbers, the wheel of 30. -/
namespace Go.Proofs.YtdieokoenhncfaaGreatDoor.Num
def NoDiv (n k : Nat) : Prop := ∀ d, 2 ≤ d → d < k → ¬ d ∣ n
def lfFrom : Nat → Nat → Nat → Nat
 | 0, _, n => n
 | f + 1, d, n => if n % d = 0 then d else lfFrom f (d + 1) n
def lf (n : Nat) : Nat := lfFrom n 2 n
theorem lfFrom_spec : ∀ (f d n : Nat), 2 ≤ d → d ≤ n → n < d + f → NoDiv n d → 2 ≤ lfFrom f d n ∧ lfFrom f d n ∣ n ∧ NoDiv n (lfFrom f d n)
 | 0, d, n, h1, h2, h3, h4 => by omega
 | f + 1, d, n, h1, h2, h3, h4 => by
  unfold lfFrom
  by_cases h : n % d = 0
  ·rw [if_pos h]; exact ⟨h1, Nat.dvd_of_mod_eq_zero h, h4⟩
  ·rw [if_neg h]
   have hd : ¬ d ∣ n := fun hx => h (Nat.mod_eq_zero_of_dvd hx)
   have hne : d ≠ n := fun hx => hd (hx ▸ Nat.dvd_refl d)
   refine lfFrom_spec f (d + 1) n (by omega) (by omega) (by omega) ?_
   intro x hx1 hx2
   by_cases hxd : x = d
   ·subst hxd; exact hd
   ·exact h4 x hx1 (by omega)
theorem lf_spec (n : Nat) (h : 2 ≤ n) : 2 ≤ lf n ∧ lf n ∣ n ∧ NoDiv n (lf n) :=
 lfFrom_spec n 2 n (Nat.le_refl _) h (by omega) (fun d h1 h2 => by omega)
theorem lf_unique (n p : Nat) (h : 2 ≤ n) (h1 : 2 ≤ p) (h2 : p ∣ n) (h3 : NoDiv n p) : lf n = p := by
 obtain ⟨a, b, c⟩ := lf_spec n h
 rcases Nat.lt_trichotomy (lf n) p with hlt | heq | hgt
 ·exact absurd b (h3 _ a hlt)
 ·exact heq
 ·exact absurd h2 (c p h1 hgt)
theorem lf_le (n : Nat) (h : 2 ≤ n) : lf n ≤ n := Nat.le_of_dvd (by omega) (lf_spec n h).2.1
theorem lf_of_sq (n k : Nat) (h : 2 ≤ n) (h1 : NoDiv n k) (h2 : n < k * k) : lf n = n := by
 obtain ⟨a, ⟨c, hc⟩, b⟩ := lf_spec n h
 by_cases hk : lf n < k
 ·exact absurd ⟨c, hc⟩ (h1 _ a hk)
 ·have hkl : k ≤ lf n := by omega
  have hck : c < k := by
   rcases Nat.lt_or_ge c k with h' | h'
   ·exact h'
   ·have := Nat.mul_le_mul hkl h'
    omega
  have hc1 : ¬ 2 ≤ c := fun h2c => h1 c h2c hck ⟨lf n, by rw [Nat.mul_comm]; exact hc⟩
  have : c = 1 := by
   rcases Nat.eq_zero_or_pos c with h0 | h0
   ·rw [h0] at hc; omega
   ·omega
  rw [this] at hc; omega
def isP (n : Nat) : Bool := decide (2 ≤ n) && decide (n ≤ 2147483647) && (lf n == n)
def off : Nat → Nat
 | 0 => 7 | 1 => 11 | 2 => 13 | 3 => 17 | 4 => 19 | 5 => 23 | 6 => 29 | 7 => 31 | _ => 37
theorem noDiv_gap {n a b : Nat} (h : NoDiv n a) (h2 : ¬ 2 ∣ n) (h3 : ¬ 3 ∣ n) (h5 : ¬ 5 ∣ n) (ha : ¬ a ∣ n)
  (hg : ∀ d, a < d → d < b → d % 2 = 0 ∨ d % 3 = 0 ∨ d % 5 = 0) : NoDiv n b := by
 intro d hd1 hd2 hdn
 rcases Nat.lt_trichotomy d a with hlt | heq | hgt
 ·exact h d hd1 hlt hdn
 ·exact ha (heq ▸ hdn)
 ·rcases hg d hgt hd2 with h' | h' | h'
  ·exact h2 (Nat.dvd_trans (Nat.dvd_of_mod_eq_zero h') hdn)
  ·exact h3 (Nat.dvd_trans (Nat.dvd_of_mod_eq_zero h') hdn)
  ·exact h5 (Nat.dvd_trans (Nat.dvd_of_mod_eq_zero h') hdn)
theorem wheel_step {n b k : Nat} (hk : k < 8) (h : NoDiv n (30 * b + off k)) (h2 : ¬ 2 ∣ n) (h3 : ¬ 3 ∣ n) (h5 : ¬ 5 ∣ n) (ha : ¬ (30 * b + off k) ∣ n) :
  NoDiv n (30 * b + off (k + 1)) := by
 refine noDiv_gap h h2 h3 h5 ha ?_
 intro d hd1 hd2
 match k, hk with
 | 0, _ => simp only [off] at hd1 hd2; omega
 | 1, _ => simp only [off] at hd1 hd2; omega
 | 2, _ => simp only [off] at hd1 hd2; omega
 | 3, _ => simp only [off] at hd1 hd2; omega
 | 4, _ => simp only [off] at hd1 hd2; omega
 | 5, _ =>
  simp only [off] at hd1 hd2
  have : d = 30 * b + 24 ∨ d = 30 * b + 25 ∨ d = 30 * b + 26 ∨ d = 30 * b + 27 ∨ d = 30 * b + 28 := by omega
  clear hd1 hd2
  rcases this with rfl | rfl | rfl | rfl | rfl <;> omega
 | 6, _ => simp only [off] at hd1 hd2; omega
 | 7, _ =>
  simp only [off] at hd1 hd2
  have : d = 30 * b + 32 ∨ d = 30 * b + 33 ∨ d = 30 * b + 34 ∨ d = 30 * b + 35 ∨ d = 30 * b + 36 := by omega
  clear hd1 hd2
  rcases this with rfl | rfl | rfl | rfl | rfl <;> omega
theorem off_bd (k : Nat) : 7 ≤ off k ∧ off k ≤ 37 := by
 unfold off; split <;> omega
theorem off_bd7 (k : Nat) (h : k < 8) : off k ≤ 31 := by
 match k, h with
 | 0, _ | 1, _ | 2, _ | 3, _ | 4, _ | 5, _ | 6, _ | 7, _ => simp [off]
theorem wheel_start {n : Nat} (h2 : ¬ 2 ∣ n) (h3 : ¬ 3 ∣ n) (h5 : ¬ 5 ∣ n) : NoDiv n 7 := by
 intro d hd1 hd2 hd
 have : d = 2 ∨ d = 3 ∨ d = 4 ∨ d = 5 ∨ d = 6 := by omega
 rcases this with rfl | rfl | rfl | rfl | rfl
 ·exact h2 hd
 ·exact h3 hd
 ·exact h2 (Nat.dvd_trans ⟨2, rfl⟩ hd)
 ·exact h5 hd
 ·exact h2 (Nat.dvd_trans ⟨3, rfl⟩ hd)
end Go.Proofs.YtdieokoenhncfaaGreatDoor.Num

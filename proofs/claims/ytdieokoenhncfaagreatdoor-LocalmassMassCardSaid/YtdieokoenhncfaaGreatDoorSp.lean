/- The species of every constituent: the program's and the reference's say the same. (With LT.skipU.) -/
import Derived.Test.YtdieokoenhncfaaGreatDoorMem
import Derived.Test.YtdieokoenhncfaaGreatDoorAc
import Derived.Test.YtdieokoenhncfaaGreatDoorFv
import Derived.Test.YtdieokoenhncfaaGreatDoorMdo
set_option maxRecDepth 3000
namespace Go.Proofs.YtdieokoenhncfaaGreatDoor
open Go.RowKit Limb Num
instance cbody67 : CBody Tryz.prog 67 := ⟨⟨_, Tryz.func67, rfl, by rfl⟩⟩
instance cbody68 : CBody Tryz.prog 68 := ⟨⟨_, Tryz.func68, rfl, by rfl⟩⟩
instance cbody36 : CBody Tryz.prog 36 := ⟨⟨_, Tryz.func36, rfl, by rfl⟩⟩
instance cbody17 : CBody Tryz.prog 17 := ⟨⟨_, Tryz.func17, rfl, by rfl⟩⟩
instance cbody16 : CBody Tryz.prog 16 := ⟨⟨_, Tryz.func16, rfl, by rfl⟩⟩
def kyP (c : Co) (b : Bool) : Int := if c.o = true then (if b = true then c.d % 2 else if c.s = -1 then (c.y + 4) % 8 else c.y) else 0
def rwO (o b : Bool) (k : Int) : Nat := if o = false then (if b = false then 0 else 1) else if b = true then (if k = 1 then 2 else 3) else if k = 0 then 4 else if k = 1 then 5 else if k = 7 then 6 else if k = 2 then 7 else if k = 6 then 8 else if k = 3 then 9 else if k = 5 then 10 else 11
def dyP (c : Co) (b : Bool) : Int × Int :=
 if c.o = false then (if b = false then (c.d, c.s) else (c.d + 1, 0))
 else if b = true then (if c.d % 2 = 1 then (c.d, 0) else (c.d - 1, 0))
 else if (c.y + (if c.s = -1 then 4 else 0)) % 8 = 0 then (c.d - 2, 1)
 else if (c.y + (if c.s = -1 then 4 else 0)) % 8 = 1 ∨ (c.y + (if c.s = -1 then 4 else 0)) % 8 = 7 then (c.d - 1, 1)
 else if (c.y + (if c.s = -1 then 4 else 0)) % 8 = 2 ∨ (c.y + (if c.s = -1 then 4 else 0)) % 8 = 6 then (c.d - 1, 0)
 else if (c.y + (if c.s = -1 then 4 else 0)) % 8 = 4 then (c.d - 2, -1) else (c.d - 1, -1)
structure Ck (c : Co) : Prop where
 d0 : 0 ≤ c.d
 d8 : c.d ≤ 8
 s1 : c.s = 1 ∨ c.s = -1
 y0 : 0 ≤ c.y
 y7 : c.y ≤ 7
theorem lZ1 : ∀ (o b : Bool) (k : Fin 8), (o = false → k = 0) → (b = true → k.1 < 2) → fits o b (k.1 : Int) (rwO o b (k.1 : Int)) := by unfold fits; decide +kernel
theorem lZ0 {c : Co} (h : Ck c) (b : Bool) : fits c.o b (kyP c b) (rwO c.o b (kyP c b)) := by
 obtain ⟨_, _, _, y0, y7⟩ := h
 obtain ⟨k, hk, h1, h2⟩ : ∃ k : Fin 8, kyP c b = (k.1 : Int) ∧ (c.o = false → k = 0) ∧ (b = true → k.1 < 2) := by
  unfold kyP
  by_cases ho : c.o = true
  ·rw [if_pos ho]
   have hno : c.o = false → False := fun h => by rw [ho] at h; exact Bool.noConfusion h
   by_cases hb : b = true
   ·rw [if_pos hb]
    exact ⟨⟨(c.d % 2).toNat, by omega⟩, by dsimp only; omega, fun h => (hno h).elim, fun _ => by dsimp only; omega⟩
   ·rw [if_neg hb]
    by_cases hs : c.s = -1
    ·rw [if_pos hs]
     exact ⟨⟨((c.y + 4) % 8).toNat, by omega⟩, by dsimp only; omega, fun h => (hno h).elim, fun h => absurd h hb⟩
    ·rw [if_neg hs]
     exact ⟨⟨c.y.toNat, by omega⟩, by dsimp only; omega, fun h => (hno h).elim, fun h => absurd h hb⟩
  ·rw [if_neg ho]
   exact ⟨0, rfl, fun _ => rfl, fun _ => by decide⟩
 rw [hk]
 exact lZ1 c.o b k h1 h2
theorem rowS_dy {c : Co} (h : Ck c) (b : Bool) : rowS c.d c.s (rwO c.o b (kyP c b)) = aggP [ex (.int .i64 (dyP c b).1), ex (.int .i64 (dyP c b).2)] := by
 obtain ⟨_, _, hs, y0, y7⟩ := h
 unfold dyP kyP rowS
 cases c.o with
 | false =>
  cases b with
  | false => rw [if_pos rfl, if_pos rfl]; simp [rwO, mro, mrow]
  | true => rw [if_pos rfl, if_neg (by decide)]; simp [rwO, mro, mrow]
 | true =>
  rw [if_pos rfl, if_neg (show ¬ (true = false) by decide)]
  cases b with
  | true =>
   rw [if_pos rfl, if_pos rfl]
   by_cases hd : c.d % 2 = 1
   ·rw [if_pos hd, hd]; simp [rwO, mro, mrow]
   ·rw [if_neg hd, show c.d % 2 = 0 by omega]; simp [rwO, mro, mrow]; rfl
  | false =>
   rw [if_neg (show ¬ (false = true) by decide), if_neg (show ¬ (false = true) by decide)]
   have key : (if c.s = -1 then (c.y + 4) % 8 else c.y) = (c.y + (if c.s = -1 then 4 else 0)) % 8 := by split <;> omega
   rw [key]
   have hk : 0 ≤ (c.y + (if c.s = -1 then 4 else 0)) % 8 ∧ (c.y + (if c.s = -1 then 4 else 0)) % 8 < 8 := by omega
   generalize (c.y + (if c.s = -1 then 4 else 0)) % 8 = k at *
   have hk8 : k = 0 ∨ k = 1 ∨ k = 2 ∨ k = 3 ∨ k = 4 ∨ k = 5 ∨ k = 6 ∨ k = 7 := by omega
   rcases hk8 with rfl | rfl | rfl | rfl | rfl | rfl | rfl | rfl <;> simp [rwO, mro, mrow] <;> rfl
set_option maxHeartbeats 2000000 in
theorem mdyad (c : Co) (bnd : Bool) (hc : Ck c) : Fn Tryz.prog TabD 66 [aggP (coc c), ex (.bool bnd)] (aggP [ex (.int .i64 (dyP c bnd).1), ex (.int .i64 (dyP c bnd).2)]) := by
 rw [← rowS_dy hc]
 obtain ⟨hm, ho, hb, hk, hno⟩ := lZ0 hc bnd
 obtain ⟨d0, d8, s1, y0, y7⟩ := hc
 have hky : kyP c bnd = kyP c bnd := rfl
 generalize hK : kyP c bnd = K at *
 clear hky
 generalize rwO c.o bnd K = m at *
 obtain ⟨ce, d, s, o, y⟩ := c
 unfold coc
 dsimp only at *
 refine aZb Tryz.func66 rfl Tryz.ntmps66 rfl ?_
 intro w0 h0
 refine js (jr (jB jj jj jj (jA jj jj jj (jn (js (jr (ja jj (jn ?_))))))))
 refine WpD.cut (α := Unit) (fun _ => ⟨[(1, .one (ex (.bool bnd))), (2, .ptr 2 0), (4, .ptr 4 0), (5, .one (ex (.int .i64 K)))], [(2, [ex (.int .i64 ce), ex (.int .i64 d), ex (.int .i64 s), ex (.bool o), ex (.int .i64 y)]), (4, [ex (.int .i64 0), ex (.int .i64 0)])]⟩) ?_ ?_
 ·unfold kyP at hK
  dsimp only at hK
  cases o with
  | false =>
   rw [if_neg (by decide)] at hK
   subst hK
   repeat (first | apply js | apply jb)
   refine jr (jF jj jj (jl jj jj jj (jm jj ?_)))
   first | refine jgm jj ?_ | refine jk ?_ | refine ju ?_
   first | refine jq jj jj ?_ | refine jQ jj jj ?_
   refine ja jj (jn (jf jj (js (jr (jF jj jj (jl jj jj jj (ja jj (jn (jf jj (jp ?_))))))))))
   refine ⟨(), ?_⟩
   refine Sub.mk ?_ ?_ <;> repeat (first | exact trivial | refine jV jj ?_ | refine jy jj ?_ | refine jw jj (js0 jj) ?_)
  | true =>
   rw [if_pos rfl] at hK
   cases bnd with
   | true =>
    rw [if_pos rfl] at hK
    have m1 : d.tmod 2 = K := by rw [← hK]; exact Int.tmod_eq_emod_of_nonneg d0
    repeat (first | apply js | apply jb)
    refine jr (jF jj jj (jl jj jj jj (jm jj ?_)))
    first | refine jgm jj ?_ | refine jk ?_ | refine ju ?_
    first | refine jq jj jj ?_ | refine jQ jj jj ?_
    refine ja jj (jn (jt jj (jr (jF jj jj (jl jj jj jj (jS (bRe jj jj m1) (ja jj (jn ?_))))))))
    refine ⟨(), ?_⟩
    refine Sub.mk ?_ ?_ <;> repeat (first | exact trivial | refine jV jj ?_ | refine jy jj ?_ | refine jw jj (js0 jj) ?_)
   | false =>
    rw [if_neg (by decide)] at hK
    by_cases hs : s = -1
    ·rw [if_pos hs] at hK
     have m1 : IntKind.i64.wrap (y + 4) = y + 4 := w64 (by omega) (by omega)
     have m2 : (y + 4).tmod 8 = K := by rw [← hK]; exact Int.tmod_eq_emod_of_nonneg (by omega)
     repeat (first | apply js | apply jb)
     refine jr (jF jj jj (jl jj jj jj (jm jj ?_)))
     first | refine jgm jj ?_ | refine jk ?_ | refine ju ?_
     first | refine jq jj jj ?_ | refine jQ jj jj ?_
     refine ja jj (jn (jf jj (js (jr (jF jj jj (jl jj jj jj (ja jj (jn (jt jj (js (jr (jF jj jj (jl jj jj jj (ja jj (jn (js (jr (jF jj jj (jl jj jj jj (jS (bEt jj jj) (jn (jt jj (jr (jm jj (jS (bAd jj jj m1) (jS (bRe jj jj m2) (ja jj (jn ?_))))))))))))))))))))))))))))
     refine ⟨(), ?_⟩
     refine Sub.mk ?_ ?_ <;> repeat (first | exact trivial | refine jV jj ?_ | refine jy jj ?_ | refine jw jj (js0 jj) ?_)
    ·rw [if_neg hs] at hK
     subst hK
     repeat (first | apply js | apply jb)
     refine jr (jF jj jj (jl jj jj jj (jm jj ?_)))
     first | refine jgm jj ?_ | refine jk ?_ | refine ju ?_
     first | refine jq jj jj ?_ | refine jQ jj jj ?_
     refine ja jj (jn (jf jj (js (jr (jF jj jj (jl jj jj jj (ja jj (jn (jt jj (js (jr (jF jj jj (jl jj jj jj (ja jj (jn (js (jr (jF jj jj (jl jj jj jj (jS (bEf jj jj) (jn (jf jj (jp ?_)))))))))))))))))))))))
     refine ⟨(), ?_⟩
     refine Sub.mk ?_ ?_ <;> repeat (first | exact trivial | refine jV jj ?_ | refine jy jj ?_ | refine jw jj (js0 jj) ?_)
 intro _
 repeat (first | apply js | apply jb)
 refine jr (jS (lZa (vs := mtabV.toList) jj mtab_at jj lZh) (jm jj (jn (jb ?_))))
 rw [jZ9]
 refine WpD.loop (α := {i : Nat // i ≤ m}) (fun i => ⟨[(1, .one (ex (.bool bnd))), (2, .ptr 2 0), (4, .ptr 4 0), (5, .one (ex (.int .i64 K))), (29, .one (aggP (rows mtc 12))), (30, .one (ex (.int .i64 (i.1 : Int))))], [(2, [ex (.int .i64 ce), ex (.int .i64 d), ex (.int .i64 s), ex (.bool o), ex (.int .i64 y)]), (4, [ex (.int .i64 0), ex (.int .i64 0)])]⟩) (fun i => m - i.1) ⟨0, Nat.zero_le _⟩ ?_ ?_
 ·refine Sub.mk ?_ ?_ <;> repeat (first | exact trivial | refine jV jj ?_ | refine jy jj ?_ | refine jw jj (js0 jj) ?_)
 rintro ⟨i, hi⟩
 dsimp only at hi ⊢
 have hq : ((rows mtc 12).drop (i * 5)).take 5 = mtc i := aZo (f := mtc) (fun _ => rfl) (by omega)
 have hi12 : i < 12 := by omega
 have e1 := wS i (by omega)
 obtain ⟨hb1, hb2⟩ := mrow_bd ⟨i, hi12⟩
 dsimp only at hb1 hb2
 by_cases hlt : i < m
 ·have hn := hno i hlt
  rw [show mtc i = [ex (.bool (mro i).1), ex (.bool (mro i).2.1), ex (.int .i64 (mro i).2.2.1), ex (.int .i64 (mro i).2.2.2.1), ex (.int .i64 (mro i).2.2.2.2)] from rfl] at hq
  generalize mro i = r at *
  obtain ⟨r0, r1, r2, r3, r4⟩ := r
  dsimp only at hn hq
  by_cases q0 : r0 = o
  ·have v0 : (r0 == o) = true := by rw [q0]; exact beq_self_eq_true _
   by_cases q1 : r1 = bnd
   ·have v1 : (r1 == bnd) = true := by rw [q1]; exact beq_self_eq_true _
    have q2 : r2 ≠ K := fun h => hn ⟨q0, q1, h⟩
    refine js (jr (jS (bLt jj jj) (jn (js (jt jj (jp (js (jb (js (jr (jS (cZ3 jj jj hi12 hq) (jA jj jj jj (jP jj jj jj jj (jn (js (jr (jF jj jj (jl jj jj jj (jF jj jj (jl jj jj jj (jS (aZd jj jj (fun w => bZg w CBool.ok _ _ _ _) (aZm v0)) (jm jj ?_))))))))))))))))))))))
    first | refine jgf jj jj ?_ | refine jk ?_ | refine ju ?_
    first | refine jgl jj jj jj ?_ | refine jk ?_ | refine ju ?_
    first | refine jgm jj ?_ | refine jk ?_ | refine ju ?_
    first | refine jg (aZd jj jj (fun w => bZg w CBool.ok _ _ _ _) (aZm v1)) ?_ | refine jk ?_ | refine ju ?_
    first | refine jq jj jj ?_ | refine jQ jj jj ?_
    refine jm jj ?_
    first | refine jgf jj jj ?_ | refine jk ?_ | refine ju ?_
    first | refine jgl jj jj jj ?_ | refine jk ?_ | refine ju ?_
    first | refine jgm jj ?_ | refine jk ?_ | refine ju ?_
    first | refine jg (bEf jj jj) ?_ | refine jk ?_ | refine ju ?_
    first | refine jq jj jj ?_ | refine jQ jj jj ?_
    refine jn (jf jj (jp (jr (jS (bAd jj jj e1) (jm jj (jn ?_))))))
    refine ⟨⟨i + 1, by omega⟩, ?_, by dsimp only; omega⟩
    refine Sub.mk ?_ ?_ <;> repeat (first | exact trivial | refine jV jj ?_ | refine jy jj ?_ | refine jw jj (js0 jj) ?_)
   ·have v1 : (r1 == bnd) = false := by rw [beq_eq_false_iff_ne]; exact q1
    refine js (jr (jS (bLt jj jj) (jn (js (jt jj (jp (js (jb (js (jr (jS (cZ3 jj jj hi12 hq) (jA jj jj jj (jP jj jj jj jj (jn (js (jr (jF jj jj (jl jj jj jj (jF jj jj (jl jj jj jj (jS (aZd jj jj (fun w => bZg w CBool.ok _ _ _ _) (aZm v0)) (jm jj ?_))))))))))))))))))))))
    first | refine jgf jj jj ?_ | refine jk ?_ | refine ju ?_
    first | refine jgl jj jj jj ?_ | refine jk ?_ | refine ju ?_
    first | refine jgm jj ?_ | refine jk ?_ | refine ju ?_
    first | refine jg (aZd jj jj (fun w => bZg w CBool.ok _ _ _ _) (aZm v1)) ?_ | refine jk ?_ | refine ju ?_
    first | refine jq jj jj ?_ | refine jQ jj jj ?_
    refine jm jj ?_
    first | refine jgf jj jj ?_ | refine jk ?_ | refine ju ?_
    first | refine jgl jj jj jj ?_ | refine jk ?_ | refine ju ?_
    first | refine jgm jj ?_ | refine jk ?_ | refine ju ?_
    first | refine jg (bEf jj jj) ?_ | refine jk ?_ | refine ju ?_
    first | refine jq jj jj ?_ | refine jQ jj jj ?_
    refine jn (jf jj (jp (jr (jS (bAd jj jj e1) (jm jj (jn ?_))))))
    refine ⟨⟨i + 1, by omega⟩, ?_, by dsimp only; omega⟩
    refine Sub.mk ?_ ?_ <;> repeat (first | exact trivial | refine jV jj ?_ | refine jy jj ?_ | refine jw jj (js0 jj) ?_)
  ·have v0 : (r0 == o) = false := by rw [beq_eq_false_iff_ne]; exact q0
   refine js (jr (jS (bLt jj jj) (jn (js (jt jj (jp (js (jb (js (jr (jS (cZ3 jj jj hi12 hq) (jA jj jj jj (jP jj jj jj jj (jn (js (jr (jF jj jj (jl jj jj jj (jF jj jj (jl jj jj jj (jS (aZd jj jj (fun w => bZg w CBool.ok _ _ _ _) (aZm v0)) (jm jj ?_))))))))))))))))))))))
   first | refine jgf jj jj ?_ | refine jk ?_ | refine ju ?_
   first | refine jgl jj jj jj ?_ | refine jk ?_ | refine ju ?_
   first | refine jgm jj ?_ | refine jk ?_ | refine ju ?_
   first | refine jg (aZu jj jj (fun w => bZg w CBool.ok _ _ _ _)) ?_ | refine jk ?_ | refine ju ?_
   first | refine jq jj jj ?_ | refine jQ jj jj ?_
   refine jm jj ?_
   first | refine jgf jj jj ?_ | refine jk ?_ | refine ju ?_
   first | refine jgl jj jj jj ?_ | refine jk ?_ | refine ju ?_
   first | refine jgm jj ?_ | refine jk ?_ | refine ju ?_
   first | refine jg (bEf jj jj) ?_ | refine jk ?_ | refine ju ?_
   first | refine jq jj jj ?_ | refine jQ jj jj ?_
   refine jn (jf jj (jp (jr (jS (bAd jj jj e1) (jm jj (jn ?_))))))
   refine ⟨⟨i + 1, by omega⟩, ?_, by dsimp only; omega⟩
   refine Sub.mk ?_ ?_ <;> repeat (first | exact trivial | refine jV jj ?_ | refine jy jj ?_ | refine jw jj (js0 jj) ?_)
 ·have : i = m := by omega
  subst this
  rw [show mtc i = [ex (.bool (mro i).1), ex (.bool (mro i).2.1), ex (.int .i64 (mro i).2.2.1), ex (.int .i64 (mro i).2.2.2.1), ex (.int .i64 (mro i).2.2.2.2)] from rfl] at hq
  unfold rowS
  generalize mro i = r at *
  obtain ⟨r0, r1, r2, r3, r4⟩ := r
  dsimp only at hq ho hb hk hb1 hb2 ⊢
  have v0 : (r0 == o) = true := by rw [ho]; exact beq_self_eq_true _
  have v1 : (r1 == bnd) = true := by rw [hb]; exact beq_self_eq_true _
  have e2 : IntKind.i64.wrap (d + r3) = d + r3 := w64 (by omega) (by omega)
  by_cases h2 : r4 = 2
  ·rw [if_pos h2]
   refine js (jr (jS (bLt jj jj) (jn (js (jt jj (jp (js (jb (js (jr (jS (cZ3 jj jj hi12 hq) (jA jj jj jj (jP jj jj jj jj (jn (js (jr (jF jj jj (jl jj jj jj (jF jj jj (jl jj jj jj (jS (aZd jj jj (fun w => bZg w CBool.ok _ _ _ _) (aZm v0)) (jm jj ?_))))))))))))))))))))))
   first | refine jgf jj jj ?_ | refine jk ?_ | refine ju ?_
   first | refine jgl jj jj jj ?_ | refine jk ?_ | refine ju ?_
   first | refine jgm jj ?_ | refine jk ?_ | refine ju ?_
   first | refine jg (aZd jj jj (fun w => bZg w CBool.ok _ _ _ _) (aZm v1)) ?_ | refine jk ?_ | refine ju ?_
   first | refine jq jj jj ?_ | refine jQ jj jj ?_
   refine jm jj ?_
   first | refine jgf jj jj ?_ | refine jk ?_ | refine ju ?_
   first | refine jgl jj jj jj ?_ | refine jk ?_ | refine ju ?_
   first | refine jgm jj ?_ | refine jk ?_ | refine ju ?_
   first | refine jg (bEt jj jj) ?_ | refine jk ?_ | refine ju ?_
   first | refine jq jj jj ?_ | refine jQ jj jj ?_
   refine jn (jt jj (js (jr (jF jj jj (jl jj jj jj (jF jj jj (jl jj jj jj (jS (bAd jj jj e2) (jF jj jj (jl jj jj jj (jS (aZl (ps := [(_, _), (_, _)]) ⟨jj, Part.c jj, jj, Part.c jj, trivial⟩ jj) (jA jj jj jj (jP jj jj jj jj (jn (js (js (jr (jF jj jj (jl jj jj jj (jS (bEt jj jj) (jn (jt jj (jr (jF jj jj (jl jj jj jj (jF jj jj (jO (bZc jj jj jj jj jj) (jn (js (jr (jL jj jj jj (jP jj jj jj jj (jn (ji ?_))))))))))))))))))))))))))))))))))
   exact rtC rfl jj jj
  ·rw [if_neg h2]
   refine js (jr (jS (bLt jj jj) (jn (js (jt jj (jp (js (jb (js (jr (jS (cZ3 jj jj hi12 hq) (jA jj jj jj (jP jj jj jj jj (jn (js (jr (jF jj jj (jl jj jj jj (jF jj jj (jl jj jj jj (jS (aZd jj jj (fun w => bZg w CBool.ok _ _ _ _) (aZm v0)) (jm jj ?_))))))))))))))))))))))
   first | refine jgf jj jj ?_ | refine jk ?_ | refine ju ?_
   first | refine jgl jj jj jj ?_ | refine jk ?_ | refine ju ?_
   first | refine jgm jj ?_ | refine jk ?_ | refine ju ?_
   first | refine jg (aZd jj jj (fun w => bZg w CBool.ok _ _ _ _) (aZm v1)) ?_ | refine jk ?_ | refine ju ?_
   first | refine jq jj jj ?_ | refine jQ jj jj ?_
   refine jm jj ?_
   first | refine jgf jj jj ?_ | refine jk ?_ | refine ju ?_
   first | refine jgl jj jj jj ?_ | refine jk ?_ | refine ju ?_
   first | refine jgm jj ?_ | refine jk ?_ | refine ju ?_
   first | refine jg (bEt jj jj) ?_ | refine jk ?_ | refine ju ?_
   first | refine jq jj jj ?_ | refine jQ jj jj ?_
   refine jn (jt jj (js (jr (jF jj jj (jl jj jj jj (jF jj jj (jl jj jj jj (jS (bAd jj jj e2) (jF jj jj (jl jj jj jj (jS (aZl (ps := [(_, _), (_, _)]) ⟨jj, Part.c jj, jj, Part.c jj, trivial⟩ jj) (jA jj jj jj (jP jj jj jj jj (jn (js (js (jr (jF jj jj (jl jj jj jj (jS (bEf jj jj) (jn (jf jj (jp (js (jr (jL jj jj jj (jP jj jj jj jj (jn (ji ?_)))))))))))))))))))))))))))))
   exact rtC rfl jj jj
theorem hZf {f : Nat → Co} {e : Int} : ∀ {n : Nat}, (∀ j, j < n → (f j).e ≠ e) → spC f e n = ⟨e, 0, 1, false, 0⟩
 | 0, _ => rfl
 | n + 1, h => by rw [spC, if_neg (h n (by omega))]; exact hZf fun j hj => h j (by omega)
theorem fZh {f : Nat → Co} {e : Int} {i : Nat} (he : (f i).e = e) : ∀ {n : Nat}, i < n → (∀ j, i < j → j < n → (f j).e ≠ e) → spC f e n = f i
 | n + 1, hi, h => by
  rw [spC]
  by_cases hn : i = n
  ·subst hn; rw [if_pos he]
  ·rw [if_neg (h n (by omega) (by omega))]
   exact fZh he (by omega) fun j h1 h2 => h j h1 (by omega)
theorem gZ0 {f : Nat → Co} {e : Int} : ∀ {n : Nat}, spB f e n = true ↔ ∃ i, i < n ∧ ((f i).e = e - 1 ∨ (f i).e = e + 1) ∧ (f i).o = true
 | 0 => by simp [spB]
 | n + 1 => by
  have ih := gZ0 (f := f) (e := e) (n := n)
  have ex : (∃ i, i < n + 1 ∧ ((f i).e = e - 1 ∨ (f i).e = e + 1) ∧ (f i).o = true) ↔ (∃ i, i < n ∧ ((f i).e = e - 1 ∨ (f i).e = e + 1) ∧ (f i).o = true) ∨ (((f n).e = e - 1 ∨ (f n).e = e + 1) ∧ (f n).o = true) := by
   constructor
   ·rintro ⟨i, hi, h⟩
    rcases Nat.lt_or_ge i n with q | q
    ·exact .inl ⟨i, q, h⟩
    ·rw [show i = n by omega] at h; exact .inr h
   ·rintro (⟨i, hi, h⟩ | h)
    ·exact ⟨i, by omega, h⟩
    ·exact ⟨n, by omega, h⟩
  rw [ex, ← ih, spB]
  split
  ·rename_i h
   exact ⟨.inl, fun q => q.elim id fun q => by omega⟩
  ·split
   ·rename_i h
    rw [Bool.or_eq_true]
    exact ⟨fun q => q.elim .inl fun q => .inr ⟨h, q⟩, fun q => q.elim .inl fun q => .inr q.2⟩
   ·rename_i h
    exact ⟨.inl, fun q => q.elim id fun q => absurd q.1 h⟩
theorem gZz {f : Nat → Co} {n : Nat} (H : OkL f n) {e : Int} : (spC f e n).o = true ↔ ∃ i, i < n ∧ (f i).e = e ∧ (f i).o = true := by
 constructor
 ·intro h
  have : ∀ m, (spC f e m).o = true → ∃ i, i < m ∧ (f i).e = e ∧ (f i).o = true := by
   intro m
   induction m with
   | zero => intro h; exact Bool.noConfusion (show false = true from h)
   | succ m ih =>
    intro h
    rw [spC] at h
    split at h
    ·rename_i he; exact ⟨m, by omega, he, h⟩
    ·obtain ⟨i, a, b⟩ := ih h; exact ⟨i, by omega, b⟩
  exact this n h
 ·rintro ⟨i, hi, he, ho⟩
  rw [fZh he hi fun j h1 h2 => by have := H.up i j h1 h2; omega]
  exact ho
theorem spB_eq {f : Nat → Co} {n : Nat} (H : OkL f n) (e : Int) : spB f e n = ((spC f (e - 1) n).o || (spC f (e + 1) n).o) := by
 rw [Bool.eq_iff_iff, gZ0, Bool.or_eq_true, gZz H, gZz H]
 constructor
 ·rintro ⟨i, hi, h | h, ho⟩
  ·exact .inl ⟨i, hi, h, ho⟩
  ·exact .inr ⟨i, hi, h, ho⟩
 ·rintro (⟨i, hi, h, ho⟩ | ⟨i, hi, h, ho⟩)
  ·exact ⟨i, hi, .inl h, ho⟩
  ·exact ⟨i, hi, .inr h, ho⟩
section
variable (En : Ev)
theorem rat (p : Int) (f : Nat → Co) (n : Nat) (e : Int) (H : OkL f n) : Fn Tryz.prog En 67 [locP p f n, ex (.int .i64 e)] (aggP (coc (spC f e n))) := by
 have hn8 := H.n8
 unfold locP
 refine aZb Tryz.func67 rfl Tryz.ntmps67 rfl ?_
 intro w0 h0
 refine js (jr (jB jj jj jj (jA jj jj jj (jn (js (js (jr (jF jj jj (jl jj jj jj (jE jj (jm jj (jn (jb ?_)))))))))))))
 refine WpD.loop (α := {i : Nat // i ≤ n ∧ ∀ j, j < i → (f j).e ≠ e}) (fun i => ⟨[(1, .one (ex (.int .i64 e))), (4, .ptr 4 0), (8, .one (slc 5 (rows (ccs f) n) n)), (9, .one (ex (.int .i64 (n : Int)))), (10, .one (ex (.int .i64 (i.1 : Int))))], [(4, [ex (.int .i64 0), ex (.int .i64 0), ex (.int .i64 0), ex (.bool false), ex (.int .i64 0)])]⟩) (fun i => n - i.1) ⟨0, Nat.zero_le _, fun j h => absurd h (Nat.not_lt_zero _)⟩ ?_ ?_
 ·refine Sub.mk ?_ ?_ <;> repeat (first | exact trivial | refine jV jj ?_ | refine jy jj ?_ | refine jw jj (js0 jj) ?_)
 rintro ⟨i, hi, hno⟩
 dsimp only at hi hno ⊢
 by_cases hlt : i < n
 ·have hq : ((rows (ccs f) n).drop (i * 5)).take 5 = coc (f i) := aZo (aZp f) hlt
  have w1 := wS i (by omega)
  by_cases he : (f i).e = e
  ·rw [fZh he hlt fun j h1 h2 => by have := H.up i j h1 h2; omega]
   refine js (jr (jS (bLt jj jj) (jn (js (jt jj (jp (js (jb (js (jr (jS (aZc jj jj hlt hq) (jS (aZg jj jj jj) (jA jj jj jj (jP jj jj jj jj (jn (js (jr (jF jj jj (jl jj jj jj (jm jj (jS (bEt jj jj) (jn (jt jj (js (jr (jL jj jj jj (jP jj jj jj jj (jn (ji ?_)))))))))))))))))))))))))))))
   exact rtC rfl jj jj
  ·refine js (jr (jS (bLt jj jj) (jn (js (jt jj (jp (js (jb (js (jr (jS (aZc jj jj hlt hq) (jS (aZg jj jj jj) (jA jj jj jj (jP jj jj jj jj (jn (js (jr (jF jj jj (jl jj jj jj (jm jj (jS (bEf jj jj) (jn (jf jj (jp (jr (jS (bAd jj jj w1) (jm jj (jn ?_))))))))))))))))))))))))))))
   refine ⟨⟨i + 1, by omega, fun j hj => ?_⟩, ?_, by dsimp only; omega⟩
   ·rcases Nat.lt_or_ge j i with q | q
    ·exact hno j q
    ·rw [show j = i by omega]; exact he
   refine Sub.mk ?_ ?_ <;> repeat (first | exact trivial | refine jV jj ?_ | refine jy jj ?_ | refine jw jj (js0 jj) ?_)
 ·have : i = n := by omega
  subst this
  rw [hZf hno]
  refine js (jr (jS (bLf jj jj) (jn (js (jf jj (je (js (jr (jm jj (jS (aZl (ps := [(_, _), (_, _)]) ⟨jj, Part.c jj, jj, Part.c jj, trivial⟩ jj) (jP jj jj jj jj (jn (ji ?_)))))))))))))
  exact rtC rfl jj jj
set_option maxHeartbeats 2000000 in
theorem rdyad (c : Co) (bnd : Bool) (hc : Ck c) : Fn Tryz.prog En 68 [aggP (coc c), ex (.bool bnd)] (aggP [ex (.int .i64 (dyP c bnd).1), ex (.int .i64 (dyP c bnd).2)]) := by
 obtain ⟨d0, d8, s1, y0, y7⟩ := hc
 obtain ⟨ce, d, s, o, y⟩ := c
 have wp : IntKind.i64.wrap (d + 1) = d + 1 := by dsimp only at d0 d8; exact w64 (by omega) (by omega)
 have wm : IntKind.i64.wrap (d - 1) = d - 1 := by dsimp only at d0 d8; exact w64 (by omega) (by omega)
 have wn : IntKind.i64.wrap (d - 2) = d - 2 := by dsimp only at d0 d8; exact w64 (by omega) (by omega)
 have mt : d.tmod 2 = d % 2 := Int.tmod_eq_emod_of_nonneg d0
 unfold coc dyP
 dsimp only at *
 cases o with
 | false =>
  rw [if_pos rfl]
  cases bnd with
  | false =>
   rw [if_pos rfl]
   refine aZb Tryz.func68 rfl Tryz.ntmps68 rfl ?_
   intro w0 h0
   refine js (jr (jB jj jj jj (jA jj jj jj (jn (js (jb (js (jr (jF jj jj (jl jj jj jj (jS (bNo jj) (jm jj (jgm jj (jg (bNo jj) (jq jj jj (ja jj (jn (jt jj (js (jr (jF jj jj (jl jj jj jj (jF jj jj (jl jj jj jj (jS (aZl (ps := [(_, _), (_, _)]) ⟨jj, Part.c jj, jj, Part.c jj, trivial⟩ jj) (jP jj jj jj jj (jn (ji ?_))))))))))))))))))))))))))))
   exact rtC rfl jj jj
  | true =>
   rw [if_neg (by decide)]
   refine aZb Tryz.func68 rfl Tryz.ntmps68 rfl ?_
   intro w0 h0
   refine js (jr (jB jj jj jj (jA jj jj jj (jn (js (jb (js (jr (jF jj jj (jl jj jj jj (jS (bNo jj) (jm jj (jgm jj (jg (bNo jj) (jq jj jj (ja jj (jn (jf jj (js (jr (jF jj jj (jl jj jj jj (jS (bNo jj) (ja jj (jn (jt jj (js (jr (jF jj jj (jl jj jj jj (jS (bAd jj jj wp) (jS (aZl (ps := [(_, _)]) ⟨jj, Part.c jj, trivial⟩ jj) (jP jj jj jj jj (jn (ji ?_)))))))))))))))))))))))))))))))))))
   exact rtC rfl jj jj
 | true =>
  rw [if_neg (by decide)]
  cases bnd with
  | true =>
   rw [if_pos rfl]
   by_cases hd : d % 2 = 1
   ·rw [if_pos hd]
    refine aZb Tryz.func68 rfl Tryz.ntmps68 rfl ?_
    intro w0 h0
    refine js (jr (jB jj jj jj (jA jj jj jj (jn (js (jb (js (jr (jF jj jj (jl jj jj jj (jS (bNo jj) (jm jj (jk (jk (jQ jj jj (ja jj (jn (jf jj (js (jr (jF jj jj (jl jj jj jj (jS (bNo jj) (ja jj (jn (jf jj (js (jr (jm jj (jm jj (jgf jj jj (jgl jj jj jj (jg (bRe jj jj mt) (jg (bEt jj jj) (jq jj jj (ja jj (jn (jt jj (js (jr (jF jj jj (jl jj jj jj (jS (aZl (ps := [(_, _)]) ⟨jj, Part.c jj, trivial⟩ jj) (jP jj jj jj jj (jn ?_)))))))))))))))))))))))))))))))))))))))))))))
    refine ji ?_
    exact rtC rfl jj jj
   ·rw [if_neg hd]
    refine aZb Tryz.func68 rfl Tryz.ntmps68 rfl ?_
    intro w0 h0
    refine js (jr (jB jj jj jj (jA jj jj jj (jn (js (jb (js (jr (jF jj jj (jl jj jj jj (jS (bNo jj) (jm jj (jk (jk (jQ jj jj (ja jj (jn (jf jj (js (jr (jF jj jj (jl jj jj jj (jS (bNo jj) (ja jj (jn (jf jj (js (jr (jm jj (jm jj (jgf jj jj (jgl jj jj jj (jg (bRe jj jj mt) (jg (bEf jj jj) (jq jj jj (ja jj (jn (jf jj (js (jr (jm jj (ja jj (jn ?_)))))))))))))))))))))))))))))))))))))))))))
    refine jt jj (js (jr (jF jj jj (jl jj jj jj (jS (bSu jj jj wm) (jS (aZl (ps := [(_, _)]) ⟨jj, Part.c jj, trivial⟩ jj) (jP jj jj jj jj (jn (ji ?_)))))))))
    exact rtC rfl jj jj
  | false =>
   rw [if_neg (by decide)]
   refine aZb Tryz.func68 rfl Tryz.ntmps68 rfl ?_
   intro w0 h0
   refine js (jr (jB jj jj jj (jA jj jj jj (jn (js (jb (js (jr (jF jj jj (jl jj jj jj (jS (bNo jj) (jm jj (jk (jk (jQ jj jj (ja jj (jn (jf jj (js (jr (jF jj jj (jl jj jj jj (jS (bNo jj) (ja jj (jn (jf jj (js (jr (jm jj (jm jj (jk (jk (jk (jk (jQ jj jj (ja jj (jn (jf jj (js (jr (jm jj (ja jj (jn ?_)))))))))))))))))))))))))))))))))))))))))))
   refine jf jj (jp (js (jr (jF jj jj (jl jj jj jj (ja jj (jn ?_)))))))
   refine WpD.cut (α := Unit) (fun _ => ⟨[(2, .ptr 2 0), (4, .ptr 4 0), (5, .one (ex (.int .i64 (y + (if s = -1 then 4 else 0)))))], [(2, [ex (.int .i64 ce), ex (.int .i64 d), ex (.int .i64 s), ex (.bool true), ex (.int .i64 y)]), (4, [ex (.int .i64 0), ex (.int .i64 0)])]⟩) ?_ ?_
   ·by_cases hs : s = -1
    ·rw [if_pos hs]
     have w4 : IntKind.i64.wrap (y + 4) = y + 4 := w64 (by omega) (by omega)
     repeat (first | apply js | apply jb)
     refine jr (jF jj jj (jl jj jj jj (jS (bEt jj jj) (jn (jt jj (jr (jm jj (jS (bAd jj jj w4) (ja jj (jn ?_))))))))))
     refine ⟨(), ?_⟩
     refine Sub.mk ?_ ?_ <;> repeat (first | exact trivial | refine jV jj ?_ | refine jy jj ?_ | refine jw jj (js0 jj) ?_)
    ·rw [if_neg hs, Int.add_zero]
     repeat (first | apply js | apply jb)
     refine jr (jF jj jj (jl jj jj jj (jS (bEf jj jj) (jn (jf jj (jp ?_))))))
     refine ⟨(), ?_⟩
     refine Sub.mk ?_ ?_ <;> repeat (first | exact trivial | refine jV jj ?_ | refine jy jj ?_ | refine jw jj (js0 jj) ?_)
   intro _
   have hk0 : 0 ≤ y + (if s = -1 then 4 else 0) := by split <;> omega
   generalize y + (if s = -1 then 4 else 0) = k at *
   have mk : k.tmod 8 = k % 8 := Int.tmod_eq_emod_of_nonneg hk0
   generalize k % 8 = q at *
   by_cases h : q = 0
   ·rw [if_pos h]
    repeat (first | apply js | apply jb)
    refine jr (jm jj (jS (bRe jj jj mk) (jn (jb (js (jr (jS (bEt jj jj) (ja jj (jn (jt jj (js (jr (jF jj jj (jl jj jj jj (jS (bSu jj jj wn) (jS (aZl (ps := [(_, _), (_, _)]) ⟨jj, Part.c jj, jj, Part.c jj, trivial⟩ jj) (jP jj jj jj jj (jn (ji ?_)))))))))))))))))))
    exact rtC rfl jj jj
   have g0 := h
   clear h
   by_cases h : q = 1
   ·rw [if_neg (by omega), if_pos (.inl h)]
    repeat (first | apply js | apply jb)
    refine jr (jm jj (jS (bRe jj jj mk) (jn (jb (js (jr (jS (bEf jj jj) (ja jj (jn (jf jj (js (js (jr (jS (bEt jj jj) (ja jj (jn (jt jj (jp (jt jj (js (jr (jF jj jj (jl jj jj jj (jS (bSu jj jj wm) (jS (aZl (ps := [(_, _), (_, _)]) ⟨jj, Part.c jj, jj, Part.c jj, trivial⟩ jj) (jP jj jj jj jj (jn (ji ?_))))))))))))))))))))))))))))
    exact rtC rfl jj jj
   have g1 := h
   clear h
   by_cases h : q = 7
   ·rw [if_neg (by omega), if_pos (.inr h)]
    repeat (first | apply js | apply jb)
    refine jr (jm jj (jS (bRe jj jj mk) (jn (jb (js (jr (jS (bEf jj jj) (ja jj (jn (jf jj (js (js (jr (jS (bEf jj jj) (ja jj (jn (jf jj (jr (jS (bEt jj jj) (ja jj (jn (jt jj (js (jr (jF jj jj (jl jj jj jj (jS (bSu jj jj wm) (jS (aZl (ps := [(_, _), (_, _)]) ⟨jj, Part.c jj, jj, Part.c jj, trivial⟩ jj) (jP jj jj jj jj (jn (ji ?_)))))))))))))))))))))))))))))))
    exact rtC rfl jj jj
   have g2 := h
   clear h
   by_cases h : q = 2
   ·rw [if_neg (by omega), if_neg (by omega), if_pos (.inl h)]
    repeat (first | apply js | apply jb)
    refine jr (jm jj (jS (bRe jj jj mk) (jn (jb (js (jr (jS (bEf jj jj) (ja jj (jn (jf jj (js (js (jr (jS (bEf jj jj) (ja jj (jn (jf jj (jr (jS (bEf jj jj) (ja jj (jn (jf jj (js (js (jr (jS (bEt jj jj) (ja jj (jn (jt jj (jp (jt jj (js (jr (jF jj jj (jl jj jj jj (jS (bSu jj jj wm) (jS (aZl (ps := [(_, _)]) ⟨jj, Part.c jj, trivial⟩ jj) (jP jj jj jj jj (jn (ji ?_))))))))))))))))))))))))))))))))))))))))
    exact rtC rfl jj jj
   have g3 := h
   clear h
   by_cases h : q = 6
   ·rw [if_neg (by omega), if_neg (by omega), if_pos (.inr h)]
    repeat (first | apply js | apply jb)
    refine jr (jm jj (jS (bRe jj jj mk) (jn (jb (js (jr (jS (bEf jj jj) (ja jj (jn (jf jj (js (js (jr (jS (bEf jj jj) (ja jj (jn (jf jj (jr (jS (bEf jj jj) (ja jj (jn (jf jj (js (js (jr (jS (bEf jj jj) (ja jj (jn (jf jj (jr (jS (bEt jj jj) (ja jj (jn (jt jj (js (jr (jF jj jj (jl jj jj jj (jS (bSu jj jj wm) (jS (aZl (ps := [(_, _)]) ⟨jj, Part.c jj, trivial⟩ jj) (jP jj jj jj jj (jn ?_))))))))))))))))))))))))))))))))))))))))))
    refine ji ?_
    exact rtC rfl jj jj
   have g4 := h
   clear h
   by_cases h : q = 4
   ·rw [if_neg (by omega), if_neg (by omega), if_neg (by omega), if_pos h]
    repeat (first | apply js | apply jb)
    refine jr (jm jj (jS (bRe jj jj mk) (jn (jb (js (jr (jS (bEf jj jj) (ja jj (jn (jf jj (js (js (jr (jS (bEf jj jj) (ja jj (jn (jf jj (jr (jS (bEf jj jj) (ja jj (jn (jf jj (js (js (jr (jS (bEf jj jj) (ja jj (jn (jf jj (jr (jS (bEf jj jj) (ja jj (jn (jf jj (js (jr (jS (bEt jj jj) (ja jj (jn (jt jj (js (jr (jF jj jj (jl jj jj jj (jS (bSu jj jj wn) (jS (aZl (ps := [(_, _), (_, _)]) ⟨jj, Part.c jj, jj, Part.c jj, trivial⟩ jj) (jP jj jj jj jj (jn ?_))))))))))))))))))))))))))))))))))))))))))))))))
    refine ji ?_
    exact rtC rfl jj jj
   have g5 := h
   clear h
   rw [if_neg (by omega), if_neg (by omega), if_neg (by omega), if_neg (by omega)]
   repeat (first | apply js | apply jb)
   refine jr (jm jj (jS (bRe jj jj mk) (jn (jb (js (jr (jS (bEf jj jj) (ja jj (jn (jf jj (js (js (jr (jS (bEf jj jj) (ja jj (jn (jf jj (jr (jS (bEf jj jj) (ja jj (jn (jf jj (js (js (jr (jS (bEf jj jj) (ja jj (jn (jf jj (jr (jS (bEf jj jj) (ja jj (jn (jf jj (js (jr (jS (bEf jj jj) (ja jj (jn (jf jj (jp (js (jr (jF jj jj (jl jj jj jj (jS (bSu jj jj wm) (jS (aZl (ps := [(_, _), (_, _)]) ⟨jj, Part.c jj, jj, Part.c jj, trivial⟩ jj) (jP jj jj jj jj (jn ?_)))))))))))))))))))))))))))))))))))))))))))))))))
   refine ji ?_
   exact rtC rfl jj jj
def kin (p : Int) (f : Nat → Co) (n : Nat) (e : Int) : Int × Int := if p = 2 then dyP (spC f e n) (spB f e n) else ((spC f e n).d, spO p (spC f e n).d (spC f e n).s)
structure OkA (p : Int) (f : Nat → Co) (n : Nat) : Prop extends OkL f n where
 rng : Rng f n
 pr : p = 2 ∨ (3 ≤ p ∧ p ≤ 9973 ∧ p % 2 = 1)
theorem kZu {f : Nat → Co} {n : Nat} (H : OkL f n) (hR : Rng f n) (e : Int) : Ck (spC f e n) := by
 have key : ∀ m, m ≤ n → Ck (spC f e m) := by
  intro m
  induction m with
  | zero => intro _; exact ⟨by show (0 : Int) ≤ 0; omega, by show (0 : Int) ≤ 8; omega, .inl rfl, by show (0 : Int) ≤ 0; omega, by show (0 : Int) ≤ 7; omega⟩
  | succ m ih =>
   intro h
   rw [spC]
   split
   ·have := H.d0 m (by omega)
    exact ⟨by omega, H.d8 m (by omega), (hR m (by omega)).1, (hR m (by omega)).2.1, (hR m (by omega)).2.2⟩
   ·exact ih (by omega)
 exact key n (Nat.le_refl _)
theorem kZJ (p : Int) (f : Nat → Co) (n : Nat) (e : Int) (H : OkA p f n) (he1 : -1 ≤ e) (he2 : e ≤ 1000) : Fn Tryz.prog TabD 35 [locP p f n, ex (.int .i64 e)] (aggP [ex (.int .i64 (kin p f n e).1), ex (.int .i64 (kin p f n e).2)]) := by
 have hc := kZu H.toOkL H.rng e
 have hn8 := H.n8
 unfold kin
 rcases H.pr with h | ⟨h1, h2, h3⟩
 ·rw [if_pos h, h]
  exact jZB f n e (by omega) he1 he2 _ ⟨_, _, rfl⟩ (mdyad _ _ hc)
 ·rw [if_neg (by omega)]
  have := hc.s1
  exact jZA TabD p f n e h1 h2 (by omega) he1 he2 hc.d0 (by omega) (by omega)
set_option maxHeartbeats 2000000 in
theorem rkind (p : Int) (f : Nat → Co) (n : Nat) (e : Int) (H : OkA p f n) (he1 : -1 ≤ e) (he2 : e ≤ 1000) : Fn Tryz.prog En 36 [locP p f n, ex (.int .i64 e)] (aggP [ex (.int .i64 (kin p f n e).1), ex (.int .i64 (kin p f n e).2)]) := by
 have hc := kZu H.toOkL H.rng e
 have C0 := rat En p f n e H.toOkL
 have CD := rdyad En _ (spB f e n) hc
 have C1 := rat En p f n (e - 1) H.toOkL
 have C2 := rat En p f n (e + 1) H.toOkL
 have hB := spB_eq H.toOkL e
 have w1 : IntKind.i64.wrap (e - 1) = e - 1 := w64 (by omega) (by omega)
 have w2 : IntKind.i64.wrap (e + 1) = e + 1 := w64 (by omega) (by omega)
 unfold kin
 generalize spC f e n = c at *
 rcases H.pr with h | ⟨h1, h2, h3⟩
 ·rw [if_pos h]
  generalize spB f e n = b at *
  generalize spC f (e - 1) n = c1 at *
  generalize spC f (e + 1) n = c2 at *
  generalize dyP c b = r at *
  unfold locP coc at *
  cases ho : c1.o with
  | true =>
   rw [ho, Bool.true_or] at hB
   rw [ho] at C1
   subst hB
   refine aZb Tryz.func36 rfl Tryz.ntmps36 rfl ?_
   intro w0 h0
   refine js (jr (jB jj jj jj (jA jj jj jj (jn (js (jr (jL jj jj jj (jm jj (jS (aZa C0 ⟨jj, jj, trivial⟩) (jA jj jj jj (jP jj jj jj jj (jn (js (js (jr (jF jj jj (jl jj jj jj (jS (bEt jj jj) (jn (jt jj (js (jr (jL jj jj jj (jL jj jj jj (jm jj (jS (bSu jj jj w1) (jS (aZa C1 ⟨jj, jj, trivial⟩) ?_)))))))))))))))))))))))))))
   first | refine jS (dZa jj jj) ?_ | refine jS (cZZ jj jj) ?_
   refine jm jj (jk (jk (jk (jk (jk (jq jj jj (jS (aZa CD ⟨jj, jj, trivial⟩) (jP jj jj jj jj (jn (ji ?_))))))))))
   exact rtC rfl jj jj
  | false =>
   rw [ho, Bool.false_or] at hB
   rw [ho] at C1
   subst hB
   refine aZb Tryz.func36 rfl Tryz.ntmps36 rfl ?_
   intro w0 h0
   refine js (jr (jB jj jj jj (jA jj jj jj (jn (js (jr (jL jj jj jj (jm jj (jS (aZa C0 ⟨jj, jj, trivial⟩) (jA jj jj jj (jP jj jj jj jj (jn (js (js (jr (jF jj jj (jl jj jj jj (jS (bEt jj jj) (jn (jt jj (js (jr (jL jj jj jj (jL jj jj jj (jm jj (jS (bSu jj jj w1) (jS (aZa C1 ⟨jj, jj, trivial⟩) ?_)))))))))))))))))))))))))))
   first | refine jS (dZa jj jj) ?_ | refine jS (cZZ jj jj) ?_
   refine jm jj (jg (aZ2 jj jj jj jj) (jgm jj (jg (bAd jj jj w2) (jg (aZa C2 ⟨jj, jj, trivial⟩) ?_))))
   first | refine jg (dZa jj jj) ?_ | refine jg (cZZ jj jj) ?_
   refine jQ jj jj (jS (aZa CD ⟨jj, jj, trivial⟩) (jP jj jj jj jj (jn (ji ?_))))
   exact rtC rfl jj jj
 ·rw [if_neg (by omega)]
  have hp2 : p ≠ 2 := by omega
  obtain ⟨d0, d8, s1, y0, y7⟩ := hc
  have m1 : c.d.tmod 2 = c.d % 2 := Int.tmod_eq_emod_of_nonneg d0
  have m2 : c.d.tmod 4 = c.d % 4 := Int.tmod_eq_emod_of_nonneg d0
  have m3 : p.tmod 4 = p % 4 := Int.tmod_eq_emod_of_nonneg (by omega)
  have m4 : IntKind.i64.wrap (-c.s) = -c.s := w64 (by omega) (by omega)
  unfold locP coc at *
  unfold spO
  dsimp only
  by_cases hd : c.d % 2 = 1
  ·rw [if_pos hd]
   refine aZb Tryz.func36 rfl Tryz.ntmps36 rfl ?_
   intro w0 h0
   refine js (jr (jB jj jj jj (jA jj jj jj (jn (js (jr (jL jj jj jj (jm jj (jS (aZa C0 ⟨jj, jj, trivial⟩) (jA jj jj jj (jP jj jj jj jj (jn (js (js (jr (jF jj jj (jl jj jj jj (jS (bEf jj jj) (jn (jf jj (jp (js (js (jr (jF jj jj (jl jj jj jj (jS (bRe jj jj m1) (jS (bEt jj jj) (jn (jt jj (js (jr (jF jj jj (jl jj jj jj (jS (aZl (ps := [(_, _)]) ⟨jj, Part.c jj, trivial⟩ jj) (jP jj jj jj jj (jn (ji ?_))))))))))))))))))))))))))))))))))))))
   exact rtC rfl jj jj
  ·rw [if_neg hd]
   by_cases hp : p % 4 = 3
   ·by_cases hd4 : c.d % 4 = 2
    ·rw [if_neg (by omega)]
     refine aZb Tryz.func36 rfl Tryz.ntmps36 rfl ?_
     intro w0 h0
     refine js (jr (jB jj jj jj (jA jj jj jj (jn (js (jr (jL jj jj jj (jm jj (jS (aZa C0 ⟨jj, jj, trivial⟩) (jA jj jj jj (jP jj jj jj jj (jn (js (js (jr (jF jj jj (jl jj jj jj (jS (bEf jj jj) (jn (jf jj (jp (js (js (jr (jF jj jj (jl jj jj jj (jS (bRe jj jj m1) (jS (bEf jj jj) (jn (jf jj (jp (js (js (jr (jF jj jj (jl jj jj jj (jS (bRe jj jj m3) (jS (bEt jj jj) (jm jj (jgf jj jj (jgl jj jj jj (jg (bRe jj jj m2) (jg (bEt jj jj) (jq jj jj (jn ?_)))))))))))))))))))))))))))))))))))))))))))))
     refine jt jj (js (jr (jF jj jj (jl jj jj jj (jF jj jj (jl jj jj jj (jS (bZB jj (fun w => bZA w _ _) (vint m4)) (jS (aZl (ps := [(_, _), (_, _)]) ⟨jj, Part.c jj, jj, Part.c jj, trivial⟩ jj) (jP jj jj jj jj (jn (ji ?_)))))))))))
     exact rtC rfl jj jj
    ·rw [if_pos (by omega)]
     refine aZb Tryz.func36 rfl Tryz.ntmps36 rfl ?_
     intro w0 h0
     refine js (jr (jB jj jj jj (jA jj jj jj (jn (js (jr (jL jj jj jj (jm jj (jS (aZa C0 ⟨jj, jj, trivial⟩) (jA jj jj jj (jP jj jj jj jj (jn (js (js (jr (jF jj jj (jl jj jj jj (jS (bEf jj jj) (jn (jf jj (jp (js (js (jr (jF jj jj (jl jj jj jj (jS (bRe jj jj m1) (jS (bEf jj jj) (jn (jf jj (jp (js (js (jr (jF jj jj (jl jj jj jj (jS (bRe jj jj m3) (jS (bEt jj jj) (jm jj (jgf jj jj (jgl jj jj jj (jg (bRe jj jj m2) (jg (bEf jj jj) (jq jj jj (jn ?_)))))))))))))))))))))))))))))))))))))))))))))
     refine jf jj (jp (js (jr (jF jj jj (jl jj jj jj (jF jj jj (jl jj jj jj (jS (aZl (ps := [(_, _), (_, _)]) ⟨jj, Part.c jj, jj, Part.c jj, trivial⟩ jj) (jP jj jj jj jj (jn (ji ?_)))))))))))
     exact rtC rfl jj jj
   ·rw [if_pos (by omega)]
    refine aZb Tryz.func36 rfl Tryz.ntmps36 rfl ?_
    intro w0 h0
    refine js (jr (jB jj jj jj (jA jj jj jj (jn (js (jr (jL jj jj jj (jm jj (jS (aZa C0 ⟨jj, jj, trivial⟩) (jA jj jj jj (jP jj jj jj jj (jn (js (js (jr (jF jj jj (jl jj jj jj (jS (bEf jj jj) (jn (jf jj (jp (js (js (jr (jF jj jj (jl jj jj jj (jS (bRe jj jj m1) (jS (bEf jj jj) (jn (jf jj (jp (js (js (jr (jF jj jj (jl jj jj jj (jS (bRe jj jj m3) (jS (bEf jj jj) (jm jj (jk (jk (jk (jk (jQ jj jj (jn ?_)))))))))))))))))))))))))))))))))))))))))))))
    refine jf jj (jp (js (jr (jF jj jj (jl jj jj jj (jF jj jj (jl jj jj jj (jS (aZl (ps := [(_, _), (_, _)]) ⟨jj, Part.c jj, jj, Part.c jj, trivial⟩ jj) (jP jj jj jj jj (jn (ji ?_)))))))))))
    exact rtC rfl jj jj
end
theorem iZX {f : Nat → Co} : ∀ {n i j : Nat}, shU f n → i < j → j < n → (f i).e < (f j).e
 | n + 1, i, j, h, hij, hj => by
  by_cases hjn : j = n
  ·subst hjn
   have h1 := h.2.1
   rcases Nat.lt_or_ge i (j - 1) with q | q
   ·have := iZX (n := j) h.1 q (by omega)
    unfold bZS at h1
    rw [if_neg (by omega)] at h1
    omega
   ·unfold bZS at h1
    rw [if_neg (by omega)] at h1
    rw [show i = j - 1 by omega]
    exact h1
  ·exact iZX h.1 hij (by omega)
theorem jZz {f : Nat → Co} {n : Nat} (h0 : n ≠ 0) (h : shU f n) : OkL f n :=
 ⟨by omega, shU_n h, fun i hi => (aZD h hi).1, fun i hi => by have := (aZD h hi).2.1; omega, fun i hi => (aZD h hi).2.2.1, fun i hi => (aZD h hi).2.2.2, fun _ _ a b => iZX h a b⟩
theorem pr_odd {p : Nat} (h : isP p = true) (h2 : p ≠ 2) : p % 2 = 1 := by
 have hp := ((isP_iff p).1 h).1
 rcases Nat.mod_two_eq_zero_or_one p with q | q
 ·have h3 := hp.1
  exact absurd (Nat.dvd_of_mod_eq_zero q) (hp.2 2 (by omega) (by omega))
 ·exact q
theorem okA {p : Int} {f : Nat → Co} {n : Nat} (h : accP p f n) : OkA p f n := by
 rcases h with h | h | h
 ·obtain ⟨h1, h2, ⟨h3, h4, h5⟩, h6⟩ := h
  obtain ⟨b1, b2, b3⟩ := iZW h1
  have ho := pr_odd b3 (by omega)
  refine ⟨jZz h3 h4, fun i hi => ⟨gZ1.1 h5 i hi, ?_⟩, .inr ⟨by omega, b2, by omega⟩⟩
  have hz : ∀ m, m ≤ n → zU f m → ∀ i, i < m → (f i).o = false ∧ (f i).y = 0 := by
   intro m
   induction m with
   | zero => intro _ _ i hi; exact absurd hi (Nat.not_lt_zero _)
   | succ m ih =>
    intro hm h i hi
    by_cases e : i = m
    ·subst e; exact h.2
    ·exact ih (by omega) h.1 i (by omega)
  have := (hz n (Nat.le_refl _) h6 i hi).2
  omega
 ·exact ⟨jZz h.1.2.1 h.1.2.2, fun i hi => by have := fZu h.2 hi; unfold legP at this; omega, .inl h.1.1⟩
 ·exact ⟨jZz h.1.1.2.1 h.1.1.2.2, fun i hi => ⟨(bZ7 h.1.2.1 hi).1, (bZ7 h.1.2.1 hi).2.1, (bZ7 h.1.2.1 hi).2.2.1⟩, .inl h.1.1.1⟩
end Go.Proofs.YtdieokoenhncfaaGreatDoor

/- The scene's symbols at 2, changed symbols. (With LT.skipU.) -/
import Derived.Test.YtdieokoenhncfaaGreatDoorMem
import Derived.Test.YtdieokoenhncfaaGreatDoorSc
import Derived.Test.YtdieokoenhncfaaGreatDoorFv
import Derived.Test.YtdieokoenhncfaaGreatDoorTo
set_option maxRecDepth 3000
namespace Go.Proofs.YtdieokoenhncfaaGreatDoor
open Go.RowKit Limb Num
instance cbody127 : CBody Tryz.prog 127 := ⟨⟨_, Tryz.func127, rfl, by rfl⟩⟩
instance cbody21 : CBody Tryz.prog 21 := ⟨⟨_, Tryz.func21, rfl, by rfl⟩⟩
instance cbody20 : CBody Tryz.prog 20 := ⟨⟨_, Tryz.func20, rfl, by rfl⟩⟩
instance cbody26 : CBody Tryz.prog 26 := ⟨⟨_, Tryz.func26, rfl, by rfl⟩⟩
instance cbody10 : CBody Tryz.prog 10 := ⟨⟨_, Tryz.func10, rfl, by rfl⟩⟩
instance cbody8 : CBody Tryz.prog 8 := ⟨⟨_, Tryz.func8, rfl, by rfl⟩⟩
def odT (d k : Int) : Int := if (k % 8 - d) % 2 = 0 then k % 8 else (k % 8 + 1) % 8
def odF (d s k : Int) : Int :=
 if d = 1 then (if odT d k = 1 ∨ odT d k = 7 then (if s = 1 then odT d k else (odT d k + 4) % 8) else (if s = 1 then (odT d k + 4) % 8 else odT d k))
 else if d = 2 then (if s = 1 then (if odT d k = 4 then 2 else odT d k) else if s = -1 then (if odT d k = 0 then 2 else odT d k) else odT d k)
 else odT d k
section
variable (En : Ev)
set_option maxHeartbeats 2000000 in
theorem soddity (d s k : Int) (h1 : 1 ≤ d) (h2 : d ≤ 8) (k1 : 0 ≤ k) : Fn Tryz.prog En 127 [ex (.int .i64 d), ex (.int .i64 s), ex (.int .u8 k)] (ex (.int .i64 (odF d s k))) := by
 have wz : k.tmod 8 = k % 8 := Int.tmod_eq_emod_of_nonneg k1
 have w1 : IntKind.i64.wrap (k % 8) = k % 8 := w64 (by omega) (by omega)
 have w2 : IntKind.i64.wrap (k % 8 - d) = k % 8 - d := w64 (by omega) (by omega)
 have w3 : IntKind.i64.wrap (k % 8 + 1) = k % 8 + 1 := w64 (by omega) (by omega)
 have w4 : (k % 8 + 1).tmod 8 = (k % 8 + 1) % 8 := Int.tmod_eq_emod_of_nonneg (by omega)
 refine aZb Tryz.func127 rfl Tryz.ntmps127 rfl ?_
 intro w0 h0
 refine js (jr (ja jj (jn (js (jr (jm jj (jS (bRe jj jj wz) (jS (bCv jj w1) (ja jj (jn ?_))))))))))
 refine WpD.cut (α := Unit) (fun _ => ⟨[(0, .one (ex (.int .i64 d))), (1, .one (ex (.int .i64 s))), (7, .one (ex (.int .i64 (odT d k))))], []⟩) ?_ ?_
 ·unfold odT
  by_cases hp : (k % 8 - d) % 2 = 0
  ·have hm : ((k % 8 - d).tmod 2 != 0) = false := by rw [tm2]; exact decide_eq_false (fun h => h hp)
   rw [if_pos hp]
   repeat (first | apply js | apply jb)
   refine jr (jm jj (jm jj (jS (bSu jj jj w2) (jS (aZu jj jj (fun w => bZn w _ _ _ _ _ _ (by first | decide | omega | assumption))) (jS (aZd jj jj (fun w => bZs w _ _ _ _ _ _) (aZm hm)) (jn (jf jj (jp ?_))))))))
   refine ⟨(), ?_⟩
   refine Sub.mk ?_ ?_ <;> repeat (first | exact trivial | refine jV jj ?_ | refine jy jj ?_ | refine jw jj (js0 jj) ?_ | refine jz ?_ | refine jw jj ⟨js0 jj, js0 jj⟩ ?_ | refine jx jj ⟨js0 jj, js0 jj⟩ ?_)
  ·have hm : ((k % 8 - d).tmod 2 != 0) = true := by rw [tm2]; exact decide_eq_true hp
   rw [if_neg hp]
   repeat (first | apply js | apply jb)
   refine jr (jm jj (jm jj (jS (bSu jj jj w2) (jS (aZu jj jj (fun w => bZn w _ _ _ _ _ _ (by first | decide | omega | assumption))) (jS (aZd jj jj (fun w => bZs w _ _ _ _ _ _) (aZm hm)) (jn (jt jj (jr (jm jj (jS (bAd jj jj w3) (jS (bRe jj jj w4) (ja jj (jn ?_)))))))))))))
   refine ⟨(), ?_⟩
   refine Sub.mk ?_ ?_ <;> repeat (first | exact trivial | refine jV jj ?_ | refine jy jj ?_ | refine jw jj (js0 jj) ?_ | refine jz ?_ | refine jw jj ⟨js0 jj, js0 jj⟩ ?_ | refine jx jj ⟨js0 jj, js0 jj⟩ ?_)
 intro _
 have ht : 0 ≤ odT d k ∧ odT d k ≤ 7 := by unfold odT; split <;> omega
 unfold odF
 generalize odT d k = t at *
 have w5 : IntKind.i64.wrap (t + 4) = t + 4 := w64 (by omega) (by omega)
 have w6 : (t + 4).tmod 8 = (t + 4) % 8 := Int.tmod_eq_emod_of_nonneg (by omega)
 by_cases d1 : d = 1
 ·have d2 : ¬ d = 2 := by omega
  rw [if_pos d1]
  by_cases t1 : t = 1
  ·rw [if_pos (.inl t1)]
   by_cases s1 : s = 1
   ·rw [if_pos s1]
    repeat (first | apply js | apply jb)
    refine jr (jm jj (jS (bEt jj jj) (jm jj (jgm jj (jg (bEt jj jj) (jgm jj (jk (jk (jg (aZn jj jj) (jgm jj (jg (bEt jj jj) (jg (aZu jj jj (fun w => bZz w CBool.ok _ _ _ _)) (jq jj jj (ja jj (jn (jf jj (js (jr (jm jj (jS (bEf jj jj) (jm jj (jk (jk (jk (ju (ju (jk (jk (ju (ju (ju (ju (ju (ju (jk (jQ jj jj (ja jj (jn (jf jj (jp (js (jr (jm jj (ja jj (jn ?_)))))))))))))))))))))))))))))))))))))))))))))
    refine ji ?_
    exact rtT rfl jj
   ·rw [if_neg s1]
    repeat (first | apply js | apply jb)
    refine jr (jm jj (jS (bEt jj jj) (jm jj (jgm jj (jg (bEt jj jj) (jgm jj (jk (jk (jg (aZn jj jj) (jgm jj (jg (bEf jj jj) (jg (aZu jj jj (fun w => bZz w CBool.ok _ _ _ _)) (jq jj jj (ja jj (jn (jt jj (js (jr (jm jj (jS (bAd jj jj w5) (jS (bRe jj jj w6) (ja jj (jn (ji ?_))))))))))))))))))))))))
    exact rtT rfl jj
  ·by_cases t7 : t = 7
   ·rw [if_pos (.inr t7)]
    by_cases s1 : s = 1
    ·rw [if_pos s1]
     repeat (first | apply js | apply jb)
     refine jr (jm jj (jS (bEt jj jj) (jm jj (jgm jj (jg (bEf jj jj) (jgm jj (jgm jj (jg (bEt jj jj) (jg (aZj jj jj) (jgm jj (jg (bEt jj jj) (jg (aZu jj jj (fun w => bZz w CBool.ok _ _ _ _)) (jq jj jj (ja jj (jn (jf jj (js (jr (jm jj (jS (bEf jj jj) (jm jj (jk (jk (jk (ju (ju (jk (jk (ju (ju (ju (ju (ju (ju (jk (jQ jj jj (ja jj (jn (jf jj (jp (js (jr (jm jj (ja jj (jn ?_)))))))))))))))))))))))))))))))))))))))))))))
     refine ji ?_
     exact rtT rfl jj
    ·rw [if_neg s1]
     repeat (first | apply js | apply jb)
     refine jr (jm jj (jS (bEt jj jj) (jm jj (jgm jj (jg (bEf jj jj) (jgm jj (jgm jj (jg (bEt jj jj) (jg (aZj jj jj) (jgm jj (jg (bEf jj jj) (jg (aZu jj jj (fun w => bZz w CBool.ok _ _ _ _)) (jq jj jj (ja jj (jn (jt jj (js (jr (jm jj (jS (bAd jj jj w5) (jS (bRe jj jj w6) (ja jj (jn (ji ?_))))))))))))))))))))))))
     exact rtT rfl jj
   ·rw [if_neg (by omega)]
    by_cases s1 : s = 1
    ·rw [if_pos s1]
     repeat (first | apply js | apply jb)
     refine jr (jm jj (jS (bEt jj jj) (jm jj (jgm jj (jg (bEf jj jj) (jgm jj (jgm jj (jg (bEf jj jj) (jg (aZj jj jj) (jgm jj (jg (bEt jj jj) (jg (aZu jj jj (fun w => bZz w CBool.ok _ _ _ _)) (jq jj jj (ja jj (jn (jt jj (js (jr (jm jj (jS (bAd jj jj w5) (jS (bRe jj jj w6) (ja jj (jn (ji ?_))))))))))))))))))))))))
     exact rtT rfl jj
    ·rw [if_neg s1]
     repeat (first | apply js | apply jb)
     refine jr (jm jj (jS (bEt jj jj) (jm jj (jgm jj (jg (bEf jj jj) (jgm jj (jgm jj (jg (bEf jj jj) (jg (aZj jj jj) (jgm jj (jg (bEf jj jj) (jg (aZu jj jj (fun w => bZz w CBool.ok _ _ _ _)) (jq jj jj (ja jj (jn (jf jj (js (jr (jm jj (jS (bEf jj jj) (jm jj (jk (jk (jk (ju (ju (jk (jk (ju (ju (ju (ju (ju (ju (jk (jQ jj jj (ja jj (jn (jf jj (jp (js (jr (jm jj (ja jj (jn ?_)))))))))))))))))))))))))))))))))))))))))))))
     refine ji ?_
     exact rtT rfl jj
 ·rw [if_neg d1]
  by_cases d2 : d = 2
  ·rw [if_pos d2]
   by_cases s1 : s = 1
   ·rw [if_pos s1]
    have s2 : ¬ s = -1 := by omega
    by_cases t4 : t = 4
    ·rw [if_pos t4]
     repeat (first | apply js | apply jb)
     refine jr (jm jj (jS (bEf jj jj) (jm jj (jk (jk (jk (ju (ju (jk (jk (jk (jk (jQ jj jj (ja jj (jn (jf jj (js (jr (jm jj (jS (bEt jj jj) (jm jj (jgm jj (jg (bEt jj jj) (jgm jj (jgm jj (jg (bEt jj jj) (jg (aZn jj jj) (jgm jj (jk (jk (jk (ju (ju (jk (jg (aZn jj jj) (jq jj jj (ja jj (jn (jt jj (js (jr (ja jj (jn ?_)))))))))))))))))))))))))))))))))))))))))))
     refine ji ?_
     exact rtT rfl jj
    ·rw [if_neg t4]
     repeat (first | apply js | apply jb)
     refine jr (jm jj (jS (bEf jj jj) (jm jj (jk (jk (jk (ju (ju (jk (jk (jk (jk (jQ jj jj (ja jj (jn (jf jj (js (jr (jm jj (jS (bEt jj jj) (jm jj (jgm jj (jg (bEt jj jj) (jgm jj (jgm jj (jg (bEf jj jj) (jg (aZn jj jj) (jgm jj (jgm jj (jg (bEf jj jj) (jgm jj (jk (jk (jg (aZj jj jj) (jg (aZj jj jj) (jq jj jj (ja jj (jn (jf jj (jp (js (jr (jm jj (ja jj (jn ?_)))))))))))))))))))))))))))))))))))))))))))))
     refine ji ?_
     exact rtT rfl jj
   ·rw [if_neg s1]
    by_cases s2 : s = -1
    ·rw [if_pos s2]
     by_cases t0 : t = 0
     ·rw [if_pos t0]
      repeat (first | apply js | apply jb)
      refine jr (jm jj (jS (bEf jj jj) (jm jj (jk (jk (jk (ju (ju (jk (jk (jk (jk (jQ jj jj (ja jj (jn (jf jj (js (jr (jm jj (jS (bEt jj jj) (jm jj (jgm jj (jg (bEf jj jj) (jgm jj (jk (jk (jg (aZj jj jj) (jgm jj (jgm jj (jg (bEt jj jj) (jgm jj (jgm jj (jg (bEt jj jj) (jg (aZn jj jj) (jg (aZj jj jj) (jq jj jj (ja jj (jn (jt jj (js (jr (ja jj (jn ?_)))))))))))))))))))))))))))))))))))))))))))
      refine ji ?_
      exact rtT rfl jj
     ·rw [if_neg t0]
      repeat (first | apply js | apply jb)
      refine jr (jm jj (jS (bEf jj jj) (jm jj (jk (jk (jk (ju (ju (jk (jk (jk (jk (jQ jj jj (ja jj (jn (jf jj (js (jr (jm jj (jS (bEt jj jj) (jm jj (jgm jj (jg (bEf jj jj) (jgm jj (jk (jk (jg (aZj jj jj) (jgm jj (jgm jj (jg (bEt jj jj) (jgm jj (jgm jj (jg (bEf jj jj) (jg (aZn jj jj) (jg (aZj jj jj) (jq jj jj (ja jj (jn (jf jj (jp (js (jr (jm jj (ja jj (jn ?_)))))))))))))))))))))))))))))))))))))))))))))
      refine ji ?_
      exact rtT rfl jj
    ·rw [if_neg s2]
     repeat (first | apply js | apply jb)
     refine jr (jm jj (jS (bEf jj jj) (jm jj (jk (jk (jk (ju (ju (jk (jk (jk (jk (jQ jj jj (ja jj (jn (jf jj (js (jr (jm jj (jS (bEt jj jj) (jm jj (jgm jj (jg (bEf jj jj) (jgm jj (jk (jk (jg (aZj jj jj) (jgm jj (jgm jj (jg (bEf jj jj) (jgm jj (jk (jk (jg (aZj jj jj) (jg (aZj jj jj) (jq jj jj (ja jj (jn (jf jj (jp (js (jr (jm jj (ja jj (jn ?_)))))))))))))))))))))))))))))))))))))))))))))
     refine ji ?_
     exact rtT rfl jj
  ·rw [if_neg d2]
   repeat (first | apply js | apply jb)
   refine jr (jm jj (jS (bEf jj jj) (jm jj (jk (jk (jk (ju (ju (jk (jk (jk (jk (jQ jj jj (ja jj (jn (jf jj (js (jr (jm jj (jS (bEf jj jj) (jm jj (jk (jk (jk (ju (ju (jk (jk (ju (ju (ju (ju (ju (ju (jk (jQ jj jj (ja jj (jn (jf jj (jp (js (jr (jm jj (ja jj (jn ?_)))))))))))))))))))))))))))))))))))))))))))))
   refine ji ?_
   exact rtT rfl jj
def coT (x : By) (e r : Int) : Co :=
 ⟨e, 1 + x.b 1 % mn3 r, 1 - 2 * (x.b 2 % 2), decide ((1 + x.b 1 % mn3 r) % 2 = 1 ∨ x.b 3 % 3 > 0), if (1 + x.b 1 % mn3 r) % 2 = 1 ∨ x.b 3 % 3 > 0 then odF (1 + x.b 1 % mn3 r) (1 - 2 * (x.b 2 % 2)) (x.b 4) else 0⟩
set_option maxHeartbeats 2000000 in
theorem mZv (x : By) (e r : Int) (hr : 1 ≤ r) (hr2 : r ≤ 8) : Fn Tryz.prog En 81 [aggP (byc x), ex (.int .i64 e), ex (.int .i64 r), ex (.bool true)] (aggP (coc (coT x e r))) := by
 have a1 := x.lo 1
 have a2 := x.hi 1
 have a3 := x.lo 2
 have a4 := x.hi 2
 have hm1 : 1 ≤ mn3 r := by unfold mn3; split <;> omega
 have hm2 : mn3 r ≤ 3 := by unfold mn3; split <;> omega
 have hmn : (if r < 3 then r else 3) = mn3 r := rfl
 unfold coT
 generalize mn3 r = q at *
 have hq0 : q ≠ 0 := by omega
 have r1 := Int.emod_nonneg (x.b 1) hq0
 have r2 := Int.emod_lt_of_pos (x.b 1) (show 0 < q by omega)
 have w1 : IntKind.i64.wrap (x.b 1) = x.b 1 := w64 (by omega) (by omega)
 have w2 : (x.b 1).tmod q = x.b 1 % q := Int.tmod_eq_emod_of_nonneg a1
 have w3 : IntKind.i64.wrap (1 + x.b 1 % q) = 1 + x.b 1 % q := w64 (by omega) (by omega)
 have w4 : (x.b 2).tmod 2 = x.b 2 % 2 := Int.tmod_eq_emod_of_nonneg a3
 have w5 : IntKind.i64.wrap (x.b 2 % 2) = x.b 2 % 2 := w64 (by omega) (by omega)
 have w6 : IntKind.i64.wrap (2 * (x.b 2 % 2)) = 2 * (x.b 2 % 2) := w64 (by omega) (by omega)
 have w7 : IntKind.i64.wrap (1 - 2 * (x.b 2 % 2)) = 1 - 2 * (x.b 2 % 2) := w64 (by omega) (by omega)
 have C1 := soddity En (1 + x.b 1 % q) (1 - 2 * (x.b 2 % 2)) (x.b 4) (by omega) (by omega) (x.lo 4)
 have w8 : (1 + x.b 1 % q).tmod 2 = (1 + x.b 1 % q) % 2 := Int.tmod_eq_emod_of_nonneg (by omega)
 have w9 : (x.b 3).tmod 3 = x.b 3 % 3 := Int.tmod_eq_emod_of_nonneg (x.lo 3)
 unfold byc coc
 dsimp only
 by_cases hd : (1 + x.b 1 % q) % 2 = 1
 ·rw [if_pos (.inl hd), decide_eq_true (.inl hd)]
  refine aZb Tryz.func81 rfl Tryz.ntmps81 rfl ?_
  intro w0 h0
  refine js (jr (jB jj jj jj (jA jj jj jj (jn (js (jr (jm jj (jS (aZ1 (i := 1) jj jj (by decide) jj) (jl jj jj jj (jS (bCv jj w1) (jm jj (jS (hZl jj jj hmn) (jS (bRe jj jj w2) (jS (bAd jj jj w3) (jS (aZ1 (i := 2) jj jj (by decide) jj) (jl jj jj jj (jS (bRe jj jj w4) (jS (bCv jj w5) (jS (bMu jj jj w6) (jS (bSu jj jj w7) (jS (aZl (ps := [(_, _), (_, _), (_, _)]) ⟨jj, Part.c jj, jj, Part.c jj, jj, Part.c jj, trivial⟩ jj) (jA jj jj jj (jP jj jj jj jj (jn (js (js (jr (jm jj (jn (jt jj (js (jr (jF jj jj (jl jj jj jj (jS (bRe jj jj w8) (jS (bEt jj jj) (jm jj (jk (jk (jk (jk (jq jj jj (jF jj jj (jO (bZc jj jj jj jj jj) (jn ?_)))))))))))))))))))))))))))))))))))))))))))))
  refine js (jr (jF jj jj (jl jj jj jj (jn (jt jj (jr (jF jj jj (jl jj jj jj (jF jj jj (jl jj jj jj (jS (aZ1 (i := 4) jj jj (by decide) jj) (jl jj jj jj (jS (aZa C1 ⟨jj, jj, jj, trivial⟩) (jF jj jj (jO (bZc jj jj jj jj jj) (jn (js (jr (jL jj jj jj (jP jj jj jj jj (jn (ji ?_))))))))))))))))))))))
  exact rtC rfl jj jj
 ·by_cases h3 : x.b 3 % 3 > 0
  ·rw [if_pos (.inr h3), decide_eq_true (.inr h3)]
   refine aZb Tryz.func81 rfl Tryz.ntmps81 rfl ?_
   intro w0 h0
   refine js (jr (jB jj jj jj (jA jj jj jj (jn (js (jr (jm jj (jS (aZ1 (i := 1) jj jj (by decide) jj) (jl jj jj jj (jS (bCv jj w1) (jm jj (jS (hZl jj jj hmn) (jS (bRe jj jj w2) (jS (bAd jj jj w3) (jS (aZ1 (i := 2) jj jj (by decide) jj) (jl jj jj jj (jS (bRe jj jj w4) (jS (bCv jj w5) (jS (bMu jj jj w6) (jS (bSu jj jj w7) (jS (aZl (ps := [(_, _), (_, _), (_, _)]) ⟨jj, Part.c jj, jj, Part.c jj, jj, Part.c jj, trivial⟩ jj) (jA jj jj jj (jP jj jj jj jj (jn (js (js (jr (jm jj (jn (jt jj (js (jr (jF jj jj (jl jj jj jj (jS (bRe jj jj w8) (jS (bEf jj jj) (jm jj (jg (aZ1 (i := 3) jj jj (by decide) jj) (jgl jj jj jj (jg (bRe jj jj w9) (jg (bGt jj jj) (jQ jj jj (jF jj jj (jO (bZc jj jj jj jj jj) (jn ?_)))))))))))))))))))))))))))))))))))))))))))))
   refine js (jr (jF jj jj (jl jj jj jj (jn (jt jj (jr (jF jj jj (jl jj jj jj (jF jj jj (jl jj jj jj (jS (aZ1 (i := 4) jj jj (by decide) jj) (jl jj jj jj (jS (aZa C1 ⟨jj, jj, jj, trivial⟩) (jF jj jj (jO (bZc jj jj jj jj jj) (jn (js (jr (jL jj jj jj (jP jj jj jj jj (jn (ji ?_))))))))))))))))))))))
   exact rtC rfl jj jj
  ·have hn : ¬ ((1 + x.b 1 % q) % 2 = 1 ∨ x.b 3 % 3 > 0) := fun h => h.elim hd h3
   rw [if_neg hn, decide_eq_false hn]
   refine aZb Tryz.func81 rfl Tryz.ntmps81 rfl ?_
   intro w0 h0
   refine js (jr (jB jj jj jj (jA jj jj jj (jn (js (jr (jm jj (jS (aZ1 (i := 1) jj jj (by decide) jj) (jl jj jj jj (jS (bCv jj w1) (jm jj (jS (hZl jj jj hmn) (jS (bRe jj jj w2) (jS (bAd jj jj w3) (jS (aZ1 (i := 2) jj jj (by decide) jj) (jl jj jj jj (jS (bRe jj jj w4) (jS (bCv jj w5) (jS (bMu jj jj w6) (jS (bSu jj jj w7) (jS (aZl (ps := [(_, _), (_, _), (_, _)]) ⟨jj, Part.c jj, jj, Part.c jj, jj, Part.c jj, trivial⟩ jj) (jA jj jj jj (jP jj jj jj jj (jn (js (js (jr (jm jj (jn (jt jj (js (jr (jF jj jj (jl jj jj jj (jS (bRe jj jj w8) (jS (bEf jj jj) (jm jj (jg (aZ1 (i := 3) jj jj (by decide) jj) (jgl jj jj jj (jg (bRe jj jj w9) (jg (bGf jj jj) (jQ jj jj (jF jj jj (jO (bZc jj jj jj jj jj) (jn ?_)))))))))))))))))))))))))))))))))))))))))))))
   refine js (jr (jF jj jj (jl jj jj jj (jn (jf jj (jp (js (jr (jL jj jj jj (jP jj jj jj jj (jn (ji ?_))))))))))))
   exact rtC rfl jj jj
end
theorem odF_leg {d s k : Int} (h1 : 1 ≤ d) (hs : s = 1 ∨ s = -1) : 0 ≤ odF d s k ∧ odF d s k ≤ 7 ∧ (odF d s k - d) % 2 = 0 ∧ (d = 1 ∧ s = 1 → odF d s k = 1 ∨ odF d s k = 7) ∧ (d = 1 ∧ s = -1 → odF d s k = 3 ∨ odF d s k = 5) ∧ (d = 2 ∧ s = 1 → odF d s k ≠ 4) ∧ (d = 2 ∧ s = -1 → odF d s k ≠ 0) := by
 have ht : 0 ≤ odT d k ∧ odT d k ≤ 7 ∧ (odT d k - d) % 2 = 0 := by unfold odT; split <;> omega
 unfold odF
 generalize odT d k = t at *
 by_cases d1 : d = 1
 ·subst d1
  rw [if_pos rfl]
  rcases hs with rfl | rfl
  ·split
   ·rw [if_pos rfl]; omega
   ·rw [if_pos rfl]; omega
  ·split
   ·rw [if_neg (by omega)]; omega
   ·rw [if_neg (by omega)]; omega
 ·rw [if_neg d1]
  by_cases d2 : d = 2
  ·subst d2
   rw [if_pos rfl]
   rcases hs with rfl | rfl
   ·rw [if_pos rfl]
    split <;> omega
   ·rw [if_neg (by omega), if_pos rfl]
    split <;> omega
  ·rw [if_neg d2]; omega
def sfT (x : Nat → By) (i : Nat) : Co := coT (x i) (se x (i + 1)) (8 - sn x i)
def scT (x : Nat → By) (m : Nat) : Nat → Co := if m = 0 then (fun _ => ⟨0, 1, 1, true, 1⟩) else sfT x
theorem mZK (f : Nat → Co) : ∀ i, dsm f i = dsm2 f i
 | 0 => rfl
 | i + 1 => by rw [dsm, dsm2, mZK f i]
theorem mZ7 {f : Nat → Co} {n : Nat} (H : OddL f n) : ∀ {i : Nat}, i ≤ n → shU f i
 | 0, _ => trivial
 | i + 1, h => by
  obtain ⟨a, b⟩ := lZ5 H (i := i) (by omega)
  rw [mZK] at a b
  refine ⟨mZ7 H (by omega), ?_, H.e6 i (by omega), H.d0 i (by omega), by omega⟩
  unfold bZS
  split
  ·have := H.e0 i (by omega); omega
  ·exact H.up (i - 1) i (by omega) (by omega)
theorem kZi {f g : Nat → Co} : ∀ {n : Nat}, (∀ i, i < n → (g i).d = (f i).d) → dsm2 g n = dsm2 f n
 | 0, _ => rfl
 | n + 1, h => by rw [dsm2, dsm2, kZi fun i hi => h i (by omega), h n (by omega)]
theorem mZr {f g : Nat → Co} : ∀ {n : Nat}, (∀ i, i < n → (g i).e = (f i).e ∧ (g i).d = (f i).d) → shU f n → shU g n
 | 0, _, _ => trivial
 | n + 1, h, hs => by
  have hl : bZS g n = bZS f n := by
   unfold bZS
   split
   ·rfl
   ·exact (h (n - 1) (by omega)).1
  refine ⟨mZr (fun i hi => h i (by omega)) hs.1, ?_⟩
  rw [hl, (h n (by omega)).1, (h n (by omega)).2, kZi fun i hi => (h i (by omega)).2]
  exact hs.2
theorem jZI {f : Nat → Co} : ∀ {m : Nat}, lgU f m ↔ ∀ i, i < m → legP (f i)
 | 0 => by unfold lgU; exact ⟨fun _ k h => absurd h (Nat.not_lt_zero _), fun _ => trivial⟩
 | m + 1 => by
  unfold lgU
  rw [jZI]
  constructor
  ·rintro ⟨a, b⟩ k hk
   rcases Nat.lt_or_ge k m with h | h
   ·exact a k h
   ·rw [show k = m by omega]; exact b
  ·intro h; exact ⟨fun k hk => h k (by omega), h m (by omega)⟩
theorem mZw (x : Nat → By) (m i : Nat) : (scT x m i).e = (scF x m i).e ∧ (scT x m i).d = (scF x m i).d := by
 unfold scT scF
 split <;> exact ⟨rfl, rfl⟩
theorem scRaw (x : Nat → By) (m : Nat) : rawP 2 (scT x m) (scN x m) := by
 have H := kZQ x m
 have h1 := H.n1
 refine ⟨⟨rfl, by omega, mZr (fun i _ => mZw x m i) (mZ7 H (Nat.le_refl _))⟩, jZI.2 fun i hi => ?_⟩
 obtain ⟨e1, e2⟩ := mZw x m i
 have b1 := H.e0 i hi
 have b2 := H.e6 i hi
 have b3 := H.d0 i hi
 have b4 := H.d8 i hi
 rw [← e1] at b1 b2
 rw [← e2] at b3 b4
 refine ⟨b1, b2, b3, b4, ?_⟩
 unfold scT at b3 ⊢
 by_cases hm : m = 0
 ·rw [if_pos hm]
  exact ⟨.inl rfl, by decide, by decide, by decide⟩
 ·rw [if_neg hm] at b3 ⊢
  unfold sfT coT at b3 ⊢
  dsimp only at b3 ⊢
  have hs : 1 - 2 * ((x i).b 2 % 2) = 1 ∨ 1 - 2 * ((x i).b 2 % 2) = -1 := by omega
  have ho := odF_leg (k := (x i).b 4) b3 hs
  generalize 1 + (x i).b 1 % mn3 (8 - sn x i) = d at *
  generalize 1 - 2 * ((x i).b 2 % 2) = s at *
  by_cases h : d % 2 = 1 ∨ (x i).b 3 % 3 > 0
  ·rw [if_pos h, decide_eq_true h]
   refine ⟨hs, ho.1, ho.2.1, ?_⟩
   rw [if_pos rfl]
   exact ho.2.2
  ·rw [if_neg h, decide_eq_false h]
   refine ⟨hs, by omega, by omega, ?_⟩
   rw [if_neg (by decide)]
   omega
set_option maxHeartbeats 1000000 in
theorem slistT (En : Ev) (pk : Int) (x : Nat → By) (m : Nat) (hm : m ≤ 20) : Fn Tryz.prog En 43 [aggP [ex (.int .u8 pk), slc 5 (rows (bys x) m) m], ex (.int .i64 8), ex (.bool true)] (slc 5 (rows (ccs (scT x m)) (scN x m)) (scN x m)) := by
 refine aZb Tryz.func43 rfl Tryz.ntmps43 rfl ?_
 intro w0 h0
 refine js (jr (jB jj jj jj (ja jj (jn (js (jr (ja jj (jn (js (jr (ja jj (ja jj (jn (js (js (jr (jF jj jj (jl jj jj jj (jE jj (jm jj (jn (jb ?_))))))))))))))))))))))
 refine WpD.loop (α := {i : Nat // i ≤ m ∧ ∀ j, j < i → j < m ∧ sn x j < 8}) (fun i => ⟨[(1, .one (ex (.int .i64 8))), (2, .one (ex (.bool true))), (7, .app 507 5 i.1), (8, .one (ex (.int .i64 (se x i.1)))), (9, .one (ex (.int .i64 (sn x i.1)))), (14, .one (slc 5 (rows (bys x) m) m)), (15, .one (ex (.int .i64 (m : Int)))), (16, .one (ex (.int .i64 (i.1 : Int))))], [(507, rows (ccs (sfT x)) i.1), (757, [])]⟩) (fun i => m - i.1) ⟨0, Nat.zero_le _, fun j hj => by omega⟩ ?_ ?_
 ·refine Sub.mk ?_ ?_ <;> repeat (first | exact trivial | refine jV jj ?_ | refine jy jj ?_ | refine jw jj (js0 jj) ?_ | refine jz ?_ | refine jw jj ⟨js0 jj, js0 jj⟩ ?_ | refine jx jj ⟨js0 jj, js0 jj⟩ ?_)
 rintro ⟨i, hi, hc⟩
 dsimp only at hi hc ⊢
 have hb := iZV x (i := i) fun j hj => (hc j hj).2
 have hse := iZl x i
 have w9 := wS i (by omega)
 have hlen := aZ3 (aZp (sfT x)) i
 by_cases hlt : i < m
 ·have hq : ((rows (bys x) m).drop (i * 5)).take 5 = byc (x i) := aZo (gZT x) hlt
  by_cases h8 : sn x i < 8
  ·have a1 := (x i).lo 0
   have a2 := (x i).hi 0
   have hd := kZj (x i) (r := 8 - sn x i) (by omega)
   have w1 : IntKind.i64.wrap ((x i).b 0) = (x i).b 0 := w64 (by omega) (by omega)
   have w2 : ((x i).b 0).tmod 4 = (x i).b 0 % 4 := Int.tmod_eq_emod_of_nonneg a1
   have w3 : ((x i).b 0 % 4).tmod 3 = (x i).b 0 % 4 % 3 := Int.tmod_eq_emod_of_nonneg (by omega)
   have w4 : IntKind.i64.wrap (1 + (x i).b 0 % 4 % 3) = 1 + (x i).b 0 % 4 % 3 := w64 (by omega) (by omega)
   have w5 : IntKind.i64.wrap (se x i + (1 + (x i).b 0 % 4 % 3)) = se x (i + 1) := w64 (by omega) (by omega)
   have w6 : IntKind.i64.wrap (8 - sn x i) = 8 - sn x i := w64 (by omega) (by omega)
   have w7 : IntKind.i64.wrap (sn x i + (1 + (x i).b 1 % mn3 (8 - sn x i))) = sn x (i + 1) := w64 (by omega) (by omega)
   have C1 := mZv En (x i) (se x (i + 1)) (8 - sn x i) (by omega) (by omega)
   have hr : rows (ccs (sfT x)) i ++ coc (sfT x i) = rows (ccs (sfT x)) (i + 1) := (aZ9 (ccs (sfT x)) i).symm
   have hc' : ∀ j, j < i + 1 → j < m ∧ sn x j < 8 := fun j hj => by
    rcases Nat.lt_or_ge j i with h | h
    ·exact hc j h
    ·rw [show j = i by omega]; exact ⟨hlt, h8⟩
   refine js (jr (jS (bLt jj jj) (jn (js (jt jj (jp (js (jb (js (jr (jS (aZc jj jj hlt hq) (jS (aZg jj jj jj) (jA jj jj jj (jP jj jj jj jj (jn (js (js (jr (jm jj (jm jj (jS (bHf jj jj) (jn (jf jj (jp (js (jr (jm jj (jS (aZ1 (i := 0) jj jj (by decide) jj) (jl jj jj jj (jS (bCv jj w1) (jS (bRe jj jj w2) (jS (bRe jj jj w3) (jS (bAd jj jj w4) (jS (bAd jj jj w5) (ja jj (jn (js (jr (jL jj jj jj (jm jj (jm jj (jm jj (jS (bSu jj jj w6) (jm jj (jS (aZa C1 ⟨jj, jj, jj, jj, trivial⟩) (jA jj jj jj (jP jj jj jj jj (jn ?_))))))))))))))))))))))))))))))))))))))))))))))))
   refine js (jr (jm jj (jF jj jj (jl jj jj jj (jS (bAd jj jj w7) (ja jj (jn (jr (jm jj (jL jj jj jj (jS (aZE (ps := [(_, _)]) ⟨jj, Part.c jj, trivial⟩ jj jj jj) (RG.SW (LT.plain jj (aZN 545 jj jj hlen jj (by omega) (by omega) jj jj jj jj jj hr)) jj (ja jj (jn (jr (jS (bAd jj jj w9) (jm jj (jn ?_))))))))))))))))))
   refine ⟨⟨i + 1, by omega, hc'⟩, ?_, by dsimp only; omega⟩
   refine Sub.ren 507 545 rfl ?_ ?_ rfl
   ·repeat (first | exact trivial | refine ⟨.inl ⟨⟨_, rfl, PLe.refl _⟩, trivial, trivial⟩, ?_⟩ | refine ⟨.inr ⟨_, _, rfl, .inl rfl, ⟨Option.some_ne_none _, Option.some_ne_none _⟩⟩, ?_⟩ | refine ⟨.inl ⟨⟨_, rfl, rfl⟩, Option.some_ne_none _, ⟨(by decide), (by decide)⟩⟩, ?_⟩ | refine ⟨.inl ⟨⟨_, rfl, rfl⟩, ⟨Option.some_ne_none _, Option.some_ne_none _⟩, ⟨(by decide), (by decide), (by decide), (by decide)⟩⟩, ?_⟩ | refine ⟨.inl ⟨⟨_, rfl, rfl⟩, dZs (Option.some_ne_none _) (Option.some_ne_none _), cZ9 (by decide) (by decide) (by decide) (by decide)⟩, ?_⟩ | refine ⟨.inr ⟨_, _, rfl, .inr ⟨(by omega), rfl⟩, Option.some_ne_none _⟩, ?_⟩)
   ·repeat (first | exact trivial | refine ⟨.inr ⟨(by decide), .inr rfl⟩, ?_⟩ | refine ⟨.inl ⟨rfl, _, rfl, PsLe.refl _⟩, ?_⟩ | refine ⟨.inr ⟨(by decide), .inl ⟨(by decide), _, rfl, PsLe.refl _⟩⟩, ?_⟩)
  ·have hn := dZ4 (x := x) (m := m) (i := i) (fun h => h8 h.2) (u := m) (k := 0) (by omega) (by omega) hc
   have hm0 : m ≠ 0 := by omega
   have e1 : scN x m = i := by unfold scN; rw [if_neg hm0]; exact hn
   have e2 : scT x m = sfT x := by unfold scT; rw [if_neg hm0]
   rw [e1, e2]
   refine js (jr (jS (bLt jj jj) (jn (js (jt jj (jp (js (jb (js (jr (jS (aZc jj jj hlt hq) (jS (aZg jj jj jj) (jA jj jj jj (jP jj jj jj jj (jn (js (js (jr (jm jj (jm jj (jS (bHt jj jj) (jn (jt jj (je (js (js (jr (jm jj (jS (bEf jj jj) (jn (jf jj (jp (js ?_)))))))))))))))))))))))))))))))))
   refine WpD.sub (τ := ⟨[(7, .one (slc 5 (rows (ccs (sfT x)) i) i))], []⟩) ?_ ?_
   ·refine Sub.pub 507 rfl rfl ⟨.inr (.inr (.inl ⟨_, _, _, rfl, rfl, hlen, PLe.refl _⟩)), trivial⟩ trivial rfl
   repeat (first | apply js | apply jb)
   refine jr (jm jj (ja jj (jn (ji ?_))))
   exact rtT rfl jj
 ·have him : i = m := by omega
  have hn := dZ4 (x := x) (m := m) (i := i) (fun h => hlt h.1) (u := m) (k := 0) (by omega) (by omega) hc
  by_cases hm0 : m = 0
  ·have hi0 : i = 0 := by omega
   subst hi0
   have e1 : scN x m = 1 := by unfold scN; rw [if_pos hm0]
   have e2 : scT x m = fun _ => ⟨0, 1, 1, true, 1⟩ := by unfold scT; rw [if_pos hm0]
   rw [e1, e2]
   have C1 := mZv En ⟨fun _ => 0, fun _ => by omega, fun _ => by omega⟩ 0 1 (by omega) (by omega)
   have hsn : sn x 0 = 0 := rfl
   have hlen0 : (rows (ccs (sfT x)) 0).length = 0 * 5 := hlen
   have hr : rows (ccs (sfT x)) 0 ++ coc (coT ⟨fun _ => 0, fun _ => by omega, fun _ => by omega⟩ 0 1) = rows (ccs (fun _ => ⟨0, 1, 1, true, 1⟩)) 1 := rfl
   refine js (jr (jS (bLf jj jj) (jn (js (jf jj (je (js (js (jr (jm jj (jS (bEt jj jj) (jn (jt jj (jr (jm jj (jS (cZM (ps := []) trivial jj) (jm jj (jS (aZa C1 ⟨jj, jj, jj, jj, trivial⟩) (jS (aZE (ps := [(_, _)]) ⟨jj, Part.c jj, trivial⟩ jj jj jj) (RG.SW (LT.plain jj (aZN 554 jj jj hlen0 jj (by omega) (by omega) jj jj jj jj jj hr)) jj (ja jj (jn (js ?_)))))))))))))))))))))))
   refine WpD.sub (τ := ⟨[(7, .one (slc 5 (rows (ccs (fun _ => ⟨0, 1, 1, true, 1⟩)) 1) 1))], []⟩) ?_ ?_
   ·refine Sub.pub 554 rfl rfl ⟨.inr (.inr (.inl ⟨_, _, _, rfl, rfl, rfl, PLe.refl _⟩)), trivial⟩ trivial rfl
   repeat (first | apply js | apply jb)
   refine jr (jm jj (ja jj (jn (ji ?_))))
   exact rtT rfl jj
  ·have e1 : scN x m = i := by unfold scN; rw [if_neg hm0]; exact hn
   have e2 : scT x m = sfT x := by unfold scT; rw [if_neg hm0]
   rw [e1, e2]
   have hpos : sn x i ≠ 0 := by omega
   refine js (jr (jS (bLf jj jj) (jn (js (jf jj (je (js (js (jr (jm jj (jS (bEf jj jj) (jn (jf jj (jp (js ?_)))))))))))))))
   refine WpD.sub (τ := ⟨[(7, .one (slc 5 (rows (ccs (sfT x)) i) i))], []⟩) ?_ ?_
   ·refine Sub.pub 507 rfl rfl ⟨.inr (.inr (.inl ⟨_, _, _, rfl, rfl, hlen, PLe.refl _⟩)), trivial⟩ trivial rfl
   repeat (first | apply js | apply jb)
   refine jr (jm jj (ja jj (jn (ji ?_))))
   exact rtT rfl jj
theorem sraw (En : Ev) (pk : Int) (x : Nat → By) (m : Nat) (hm : m ≤ 20) : Fn Tryz.prog En 21 [aggP [ex (.int .u8 pk), slc 5 (rows (bys x) m) m], ex (.int .i64 8)] (locP 2 (scT x m) (scN x m)) := by
 have C1 := slistT En pk x m hm
 unfold locP
 refine aZb Tryz.func21 rfl Tryz.ntmps21 rfl ?_
 intro w0 h0
 refine js (jr (jB jj jj jj (jA jj jj jj (jn (js (jr (jL jj jj jj (jm jj (jS (aZa C1 ⟨jj, jj, jj, trivial⟩) (jS (aZl (ps := [(_, _), (_, _)]) ⟨jj, Part.c jj, jj, Part.c jj, trivial⟩ jj) (jP jj jj jj jj (jn (ji ?_)))))))))))))
 exact rtC rfl jj jj
def anP (pk : Int) : Int := if pk % 8 < 3 then (od8 (pk % 8).toNat : Int) else 2
def anF (pk : Int) (x : Nat → By) (m : Nat) : Nat → Co := if pk % 8 < 3 then scF x m else if pk % 8 < 5 then scT x m else if pk % 8 = 5 then fzf (scT x m) (scN x m) else canf (scT x m) (scN x m)
set_option maxHeartbeats 1000000 in
theorem sany (En : Ev) (pk : Int) (x : Nat → By) (m : Nat) (hm : m ≤ 20) (k1 : 0 ≤ pk) (k2 : pk ≤ 255) : Fn Tryz.prog En 20 [aggP [ex (.int .u8 pk), slc 5 (rows (bys x) m) m], ex (.int .i64 8)] (locP (anP pk) (anF pk x m) (scN x m)) := by
 have CL := slocal En pk x m hm k1 k2
 have CR := sraw En pk x m hm
 have hraw := scRaw x m
 have hn8 := (kZQ x m).n8
 have CF := rfuse En 2 (scT x m) (scN x m) (by omega) hraw
 have CC := rcanon En 2 (scT x m) (scN x m) (by omega) hraw
 have wm : pk.tmod 8 = pk % 8 := Int.tmod_eq_emod_of_nonneg k1
 have hq : 0 ≤ pk % 8 ∧ pk % 8 < 8 := by omega
 unfold anP anF
 unfold locP at *
 generalize fzf (scT x m) (scN x m) = fz at *
 generalize canf (scT x m) (scN x m) = cf at *
 generalize scT x m = ft at *
 generalize scF x m = ff at *
 generalize scN x m = n at *
 generalize pk % 8 = q at *
 by_cases h : q = 0
 ·rw [if_pos (show q < 3 by omega), if_pos (show q < 3 by omega)]
  refine aZb Tryz.func20 rfl Tryz.ntmps20 rfl ?_
  intro w0 h0
  refine js (jr (jB jj jj jj (jA jj jj jj (jn (js (js (jr (jF jj jj (jl jj jj jj (jS (bRe jj jj wm) (jn (jb (js (js (jr (jS (bEt jj jj) (ja jj (jn (jt jj (jp (jt jj (js (jr (jL jj jj jj (jm jj (jS (aZa CL ⟨jj, jj, trivial⟩) (jP jj jj jj jj (jn (ji ?_)))))))))))))))))))))))))))))
  exact rtC rfl jj jj
 have g0 := h
 clear h
 by_cases h : q = 1
 ·rw [if_pos (show q < 3 by omega), if_pos (show q < 3 by omega)]
  refine aZb Tryz.func20 rfl Tryz.ntmps20 rfl ?_
  intro w0 h0
  refine js (jr (jB jj jj jj (jA jj jj jj (jn (js (js (jr (jF jj jj (jl jj jj jj (jS (bRe jj jj wm) (jn (jb (js (js (jr (jS (bEf jj jj) (ja jj (jn (jf jj (js (jr (jS (bEt jj jj) (ja jj (jn (jt jj (jp (jt jj (js (jr (jL jj jj jj (jm jj (jS (aZa CL ⟨jj, jj, trivial⟩) (jP jj jj jj jj (jn (ji ?_)))))))))))))))))))))))))))))))))))
  exact rtC rfl jj jj
 have g1 := h
 clear h
 by_cases h : q = 2
 ·rw [if_pos (show q < 3 by omega), if_pos (show q < 3 by omega)]
  refine aZb Tryz.func20 rfl Tryz.ntmps20 rfl ?_
  intro w0 h0
  refine js (jr (jB jj jj jj (jA jj jj jj (jn (js (js (jr (jF jj jj (jl jj jj jj (jS (bRe jj jj wm) (jn (jb (js (js (jr (jS (bEf jj jj) (ja jj (jn (jf jj (js (jr (jS (bEf jj jj) (ja jj (jn (jf jj (jr (jS (bEt jj jj) (ja jj (jn (jt jj (js (jr (jL jj jj jj (jm jj (jS (aZa CL ⟨jj, jj, trivial⟩) (jP jj jj jj jj (jn (ji ?_))))))))))))))))))))))))))))))))))))))
  exact rtC rfl jj jj
 have g2 := h
 clear h
 by_cases h : q = 3
 ·rw [if_neg (show ¬ q < 3 by omega), if_neg (show ¬ q < 3 by omega), if_pos (show q < 5 by omega)]
  refine aZb Tryz.func20 rfl Tryz.ntmps20 rfl ?_
  intro w0 h0
  refine js (jr (jB jj jj jj (jA jj jj jj (jn (js (js (jr (jF jj jj (jl jj jj jj (jS (bRe jj jj wm) (jn (jb (js (js (jr (jS (bEf jj jj) (ja jj (jn (jf jj (js (jr (jS (bEf jj jj) (ja jj (jn (jf jj (jr (jS (bEf jj jj) (ja jj (jn (jf jj (js (js (jr (jS (bEt jj jj) (ja jj (jn (jt jj (jp (jt jj (js (jr (jL jj jj jj (jm jj (jS (aZa CR ⟨jj, jj, trivial⟩) (jP jj jj jj jj (jn ?_))))))))))))))))))))))))))))))))))))))))))))))
  refine ji ?_
  exact rtC rfl jj jj
 have g3 := h
 clear h
 by_cases h : q = 4
 ·rw [if_neg (show ¬ q < 3 by omega), if_neg (show ¬ q < 3 by omega), if_pos (show q < 5 by omega)]
  refine aZb Tryz.func20 rfl Tryz.ntmps20 rfl ?_
  intro w0 h0
  refine js (jr (jB jj jj jj (jA jj jj jj (jn (js (js (jr (jF jj jj (jl jj jj jj (jS (bRe jj jj wm) (jn (jb (js (js (jr (jS (bEf jj jj) (ja jj (jn (jf jj (js (jr (jS (bEf jj jj) (ja jj (jn (jf jj (jr (jS (bEf jj jj) (ja jj (jn (jf jj (js (js (jr (jS (bEf jj jj) (ja jj (jn (jf jj (jr (jS (bEt jj jj) (ja jj (jn ?_)))))))))))))))))))))))))))))))))))))))))
  refine jt jj (js (jr (jL jj jj jj (jm jj (jS (aZa CR ⟨jj, jj, trivial⟩) (jP jj jj jj jj (jn (ji ?_))))))))
  exact rtC rfl jj jj
 have g4 := h
 clear h
 by_cases h : q = 5
 ·rw [if_neg (show ¬ q < 3 by omega), if_neg (show ¬ q < 3 by omega), if_neg (show ¬ q < 5 by omega), if_pos h]
  refine aZb Tryz.func20 rfl Tryz.ntmps20 rfl ?_
  intro w0 h0
  refine js (jr (jB jj jj jj (jA jj jj jj (jn (js (js (jr (jF jj jj (jl jj jj jj (jS (bRe jj jj wm) (jn (jb (js (js (jr (jS (bEf jj jj) (ja jj (jn (jf jj (js (jr (jS (bEf jj jj) (ja jj (jn (jf jj (jr (jS (bEf jj jj) (ja jj (jn (jf jj (js (js (jr (jS (bEf jj jj) (ja jj (jn (jf jj (jr (jS (bEf jj jj) (ja jj (jn ?_)))))))))))))))))))))))))))))))))))))))))
  refine jf jj (js (jr (jS (bEt jj jj) (ja jj (jn (jt jj (js (jr (jL jj jj jj (jm jj (jS (aZa CR ⟨jj, jj, trivial⟩) (jS (aZa CF ⟨jj, trivial⟩) (jm jj (jx' jj jj (jx' jj jj (jA jj jj jj (jP jj jj jj jj (ja jj (jn (js (jr (jL jj jj jj (jP jj jj jj jj (jn (ji ?_)))))))))))))))))))))))))
  exact rtC rfl jj jj
 have g5 := h
 clear h
 rw [if_neg (show ¬ q < 3 by omega), if_neg (show ¬ q < 3 by omega), if_neg (show ¬ q < 5 by omega), if_neg g5]
 refine aZb Tryz.func20 rfl Tryz.ntmps20 rfl ?_
 intro w0 h0
 refine js (jr (jB jj jj jj (jA jj jj jj (jn (js (js (jr (jF jj jj (jl jj jj jj (jS (bRe jj jj wm) (jn (jb (js (js (jr (jS (bEf jj jj) (ja jj (jn (jf jj (js (jr (jS (bEf jj jj) (ja jj (jn (jf jj (jr (jS (bEf jj jj) (ja jj (jn (jf jj (js (js (jr (jS (bEf jj jj) (ja jj (jn (jf jj (jr (jS (bEf jj jj) (ja jj (jn ?_)))))))))))))))))))))))))))))))))))))))))
 refine jf jj (js (jr (jS (bEf jj jj) (ja jj (jn (jf jj (jp (js (jr (jL jj jj jj (jm jj (jS (aZa CR ⟨jj, jj, trivial⟩) (jS (aZa CC ⟨jj, trivial⟩) (jm jj (jx' jj jj (jx' jj jj (jA jj jj jj (jP jj jj jj jj (ja jj (jn (js (jr (jL jj jj jj (jP jj jj jj jj (jn (ji ?_))))))))))))))))))))))))))
 exact rtC rfl jj jj
end Go.Proofs.YtdieokoenhncfaaGreatDoor

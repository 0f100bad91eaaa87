/- Symbols at odd primes: species and types. (With LT.skipU.) -/
import Derived.Test.YtdieokoenhncfaaGreatDoorZa
import Derived.Test.YtdieokoenhncfaaGreatDoorMe
import Derived.Test.YtdieokoenhncfaaGreatDoorNum
set_option maxRecDepth 3000
namespace Go.Proofs.YtdieokoenhncfaaGreatDoor
open Go.RowKit Limb Num
def spO (p d s : Int) : Int := if d % 2 = 1 then 0 else if p % 4 = 1 ∨ d % 4 = 0 then s else -s
set_option maxHeartbeats 1000000 in
theorem mspeciesO (En : Ev) (p : Int) (f : Nat → Co) (n : Nat) (e : Int) (hp : 3 ≤ p) (hp2 : p ≤ 9973) (hn : n ≤ 1000) (he1 : -1 ≤ e) (he2 : e ≤ 1000) (hd : 0 ≤ (spC f e n).d) (hs1 : -1 ≤ (spC f e n).s) (hs2 : (spC f e n).s ≤ 1) : Fn Tryz.prog En 35 [locP p f n, ex (.int .i64 e)] (aggP [ex (.int .i64 (spC f e n).d), ex (.int .i64 (spO p (spC f e n).d (spC f e n).s))]) := by
 unfold locP
 refine fn_of_body Tryz.func35 rfl Tryz.ntmps35 rfl ?_
 intro w0 h0
 refine js (jr (jB jj jj jj (jA jj jj jj (jn (js (jr (jm jj (jS (ru_build (ps := [(_, _), (_, _)]) ⟨jj, Part.c jj, jj, Part.c jj, trivial⟩ jj) (jA jj jj jj (jP jj jj jj jj (jn (js (jr (ja jj (jn (js (js (jr (jF jj jj (jl jj jj jj (jE jj (jm jj (jn (jb ?_))))))))))))))))))))))))
 refine WpD.loop (α := {i : Nat // i ≤ n}) (fun i => ⟨[(1, .one (ex (.int .i64 e))), (2, .ptr 2 0), (4, .ptr 4 0), (5, .ptr 5 0), (6, .one (ex (.bool (spB f e i.1)))), (12, .one (slc 5 (rows (ccs f) n) n)), (13, .one (ex (.int .i64 (n : Int)))), (14, .one (ex (.int .i64 (i.1 : Int))))], [(2, [ex (.int .i64 p), slc 5 (rows (ccs f) n) n]), (4, [ex (.int .i64 0), ex (.int .i64 0)]), (5, coc (spC f e i.1))]⟩) (fun i => n - i.1) ⟨0, Nat.zero_le _⟩ ?_ ?_
 ·refine Sub.mk ?_ ?_ <;> repeat (first | exact trivial | refine jv jj ?_ | refine jy jj ?_ | refine jw jj (js0 jj) ?_ | refine ⟨⟨_, jj, PLe.refl _⟩, trivial, ?_⟩)
 rintro ⟨i, hi⟩
 dsimp only at hi ⊢
 by_cases hlt : i < n
 ·have hq : ((rows (ccs f) n).drop (i * 5)).take 5 = coc (f i) := rows_get (ccs_len f) hlt
  have w1 := wS i (by omega)
  have w2 : IntKind.i64.wrap (e - 1) = e - 1 := w64 (by omega) (by omega)
  have w3 : IntKind.i64.wrap (e + 1) = e + 1 := w64 (by omega) (by omega)
  by_cases q0 : (f i).e = e
  ·have c1 : spC f e (i + 1) = f i := if_pos q0
   have c2 : spB f e (i + 1) = spB f e i := if_pos q0
   refine js (jr (jS (bLt jj jj) (jn (js (jt jj (jp (js (jb (js (jr (jS (rc_indexS jj jj hlt hq) (jS (rc_loadR jj jj jj) (jA jj jj jj (jP jj jj jj jj (jn (js (jr (jF jj jj (jl jj jj jj (jn (jb (js (jr (jm jj (jS (bEt jj jj) (ja jj (jn (jt jj (jr (jL jj jj jj (jP jj jj jj jj (jn (jr (jS (bAd jj jj w1) (jm jj (jn ?_))))))))))))))))))))))))))))))))))))
   refine ⟨⟨i + 1, by omega⟩, ?_, by dsimp only; omega⟩
   dsimp only
   rw [c1, c2]
   refine Sub.mk ?_ ?_ <;> repeat (first | exact trivial | refine jv jj ?_ | refine jy jj ?_ | refine jw jj (js0 jj) ?_ | refine ⟨⟨_, jj, PLe.refl _⟩, trivial, ?_⟩)
  ·have c1 : spC f e (i + 1) = spC f e i := if_neg q0
   by_cases q1 : (f i).e = e - 1
   ·have c2 : spB f e (i + 1) = (spB f e i || (f i).o) := by rw [spB, if_neg q0, if_pos (.inl q1)]
    cases hB : spB f e i with
    | true =>
     rw [hB, Bool.true_or] at c2
     refine js (jr (jS (bLt jj jj) (jn (js (jt jj (jp (js (jb (js (jr (jS (rc_indexS jj jj hlt hq) (jS (rc_loadR jj jj jj) (jA jj jj jj (jP jj jj jj jj (jn (js (jr (jF jj jj (jl jj jj jj (jn (jb (js (jr (jm jj (jS (bEf jj jj) (ja jj (jn (jf jj (js (js (jr (jm jj (jS (bSu jj jj w2) (jS (bEt jj jj) (ja jj (jn (jt jj (jp (jt jj (jr (jm jj (jm jj ?_))))))))))))))))))))))))))))))))))))))))))
     first | refine jg (ru_fieldAddr jj jj) ?_ | refine jk ?_ | refine ju ?_
     first | refine jg (ru_load1 jj jj jj) ?_ | refine jk ?_ | refine ju ?_
     first | refine jq jj jj ?_ | refine jQ jj jj ?_
     refine ja jj (jn (jr (jS (bAd jj jj w1) (jm jj (jn ?_)))))
     refine ⟨⟨i + 1, by omega⟩, ?_, by dsimp only; omega⟩
     dsimp only
     rw [c1, c2]
     refine Sub.mk ?_ ?_ <;> repeat (first | exact trivial | refine jv jj ?_ | refine jy jj ?_ | refine jw jj (js0 jj) ?_ | refine ⟨⟨_, jj, PLe.refl _⟩, trivial, ?_⟩)
    | false =>
     rw [hB, Bool.false_or] at c2
     refine js (jr (jS (bLt jj jj) (jn (js (jt jj (jp (js (jb (js (jr (jS (rc_indexS jj jj hlt hq) (jS (rc_loadR jj jj jj) (jA jj jj jj (jP jj jj jj jj (jn (js (jr (jF jj jj (jl jj jj jj (jn (jb (js (jr (jm jj (jS (bEf jj jj) (ja jj (jn (jf jj (js (js (jr (jm jj (jS (bSu jj jj w2) (jS (bEt jj jj) (ja jj (jn (jt jj (jp (jt jj (jr (jm jj (jm jj ?_))))))))))))))))))))))))))))))))))))))))))
     first | refine jg (ru_fieldAddr jj jj) ?_ | refine jk ?_ | refine ju ?_
     first | refine jg (ru_load1 jj jj jj) ?_ | refine jk ?_ | refine ju ?_
     first | refine jq jj jj ?_ | refine jQ jj jj ?_
     refine ja jj (jn (jr (jS (bAd jj jj w1) (jm jj (jn ?_)))))
     refine ⟨⟨i + 1, by omega⟩, ?_, by dsimp only; omega⟩
     dsimp only
     rw [c1, c2]
     refine Sub.mk ?_ ?_ <;> repeat (first | exact trivial | refine jv jj ?_ | refine jy jj ?_ | refine jw jj (js0 jj) ?_ | refine ⟨⟨_, jj, PLe.refl _⟩, trivial, ?_⟩)
   ·by_cases q2 : (f i).e = e + 1
    ·have c2 : spB f e (i + 1) = (spB f e i || (f i).o) := by rw [spB, if_neg q0, if_pos (.inr q2)]
     cases hB : spB f e i with
     | true =>
      rw [hB, Bool.true_or] at c2
      refine js (jr (jS (bLt jj jj) (jn (js (jt jj (jp (js (jb (js (jr (jS (rc_indexS jj jj hlt hq) (jS (rc_loadR jj jj jj) (jA jj jj jj (jP jj jj jj jj (jn (js (jr (jF jj jj (jl jj jj jj (jn (jb (js (jr (jm jj (jS (bEf jj jj) (ja jj (jn (jf jj (js (js (jr (jm jj (jS (bSu jj jj w2) (jS (bEf jj jj) (ja jj (jn (jf jj (jr (jm jj (jS (bAd jj jj w3) (jS (bEt jj jj) (ja jj (jn ?_)))))))))))))))))))))))))))))))))))))))))))
      refine jt jj (jr (jm jj (jm jj ?_)))
      first | refine jg (ru_fieldAddr jj jj) ?_ | refine jk ?_ | refine ju ?_
      first | refine jg (ru_load1 jj jj jj) ?_ | refine jk ?_ | refine ju ?_
      first | refine jq jj jj ?_ | refine jQ jj jj ?_
      refine ja jj (jn (jr (jS (bAd jj jj w1) (jm jj (jn ?_)))))
      refine ⟨⟨i + 1, by omega⟩, ?_, by dsimp only; omega⟩
      dsimp only
      rw [c1, c2]
      refine Sub.mk ?_ ?_ <;> repeat (first | exact trivial | refine jv jj ?_ | refine jy jj ?_ | refine jw jj (js0 jj) ?_ | refine ⟨⟨_, jj, PLe.refl _⟩, trivial, ?_⟩)
     | false =>
      rw [hB, Bool.false_or] at c2
      refine js (jr (jS (bLt jj jj) (jn (js (jt jj (jp (js (jb (js (jr (jS (rc_indexS jj jj hlt hq) (jS (rc_loadR jj jj jj) (jA jj jj jj (jP jj jj jj jj (jn (js (jr (jF jj jj (jl jj jj jj (jn (jb (js (jr (jm jj (jS (bEf jj jj) (ja jj (jn (jf jj (js (js (jr (jm jj (jS (bSu jj jj w2) (jS (bEf jj jj) (ja jj (jn (jf jj (jr (jm jj (jS (bAd jj jj w3) (jS (bEt jj jj) (ja jj (jn ?_)))))))))))))))))))))))))))))))))))))))))))
      refine jt jj (jr (jm jj (jm jj ?_)))
      first | refine jg (ru_fieldAddr jj jj) ?_ | refine jk ?_ | refine ju ?_
      first | refine jg (ru_load1 jj jj jj) ?_ | refine jk ?_ | refine ju ?_
      first | refine jq jj jj ?_ | refine jQ jj jj ?_
      refine ja jj (jn (jr (jS (bAd jj jj w1) (jm jj (jn ?_)))))
      refine ⟨⟨i + 1, by omega⟩, ?_, by dsimp only; omega⟩
      dsimp only
      rw [c1, c2]
      refine Sub.mk ?_ ?_ <;> repeat (first | exact trivial | refine jv jj ?_ | refine jy jj ?_ | refine jw jj (js0 jj) ?_ | refine ⟨⟨_, jj, PLe.refl _⟩, trivial, ?_⟩)
    ·have c2 : spB f e (i + 1) = spB f e i := by rw [spB, if_neg q0, if_neg (by omega)]
     refine js (jr (jS (bLt jj jj) (jn (js (jt jj (jp (js (jb (js (jr (jS (rc_indexS jj jj hlt hq) (jS (rc_loadR jj jj jj) (jA jj jj jj (jP jj jj jj jj (jn (js (jr (jF jj jj (jl jj jj jj (jn (jb (js (jr (jm jj (jS (bEf jj jj) (ja jj (jn (jf jj (js (js (jr (jm jj (jS (bSu jj jj w2) (jS (bEf jj jj) (ja jj (jn (jf jj (jr (jm jj (jS (bAd jj jj w3) (jS (bEf jj jj) (ja jj (jn ?_)))))))))))))))))))))))))))))))))))))))))))
     refine jf jj (jp (jr (jS (bAd jj jj w1) (jm jj (jn ?_)))))
     refine ⟨⟨i + 1, by omega⟩, ?_, by dsimp only; omega⟩
     dsimp only
     rw [c1, c2]
     refine Sub.mk ?_ ?_ <;> repeat (first | exact trivial | refine jv jj ?_ | refine jy jj ?_ | refine jw jj (js0 jj) ?_ | refine ⟨⟨_, jj, PLe.refl _⟩, trivial, ?_⟩)
 ·have : i = n := by omega
  subst this
  have m1 : (spC f e i).d.tmod 2 = (spC f e i).d % 2 := Int.tmod_eq_emod_of_nonneg hd
  have m2 : (spC f e i).d.tmod 4 = (spC f e i).d % 4 := Int.tmod_eq_emod_of_nonneg hd
  have m3 : p.tmod 4 = p % 4 := Int.tmod_eq_emod_of_nonneg (by omega)
  have m4 : IntKind.i64.wrap (-(spC f e i).s) = -(spC f e i).s := w64 (by omega) (by omega)
  unfold spO
  by_cases h1 : (spC f e i).d % 2 = 1
  ·rw [if_pos h1]
   refine js (jr (jS (bLf jj jj) (jn (js (jf jj (je (js (js (jr (jF jj jj (jl jj jj jj (jS (bEf jj jj) (jn (jf jj (jp (js (js (jr (jF jj jj (jl jj jj jj (jS (bRe jj jj m1) (jS (bEt jj jj) (jn (jt jj (js (jr (jF jj jj (jl jj jj jj (jS (ru_build (ps := [(_, _)]) ⟨jj, Part.c jj, trivial⟩ jj) (jP jj jj jj jj (jn (ji ?_))))))))))))))))))))))))))))))))
   exact ret1 rfl (.cell rfl rfl CRow.ok rfl) (PLe.refl _)
  ·rw [if_neg h1]
   by_cases h2 : p % 4 = 1
   ·rw [if_pos (.inl h2)]
    refine js (jr (jS (bLf jj jj) (jn (js (jf jj (je (js (js (jr (jF jj jj (jl jj jj jj (jS (bEf jj jj) (jn (jf jj (jp (js (js (jr (jF jj jj (jl jj jj jj (jS (bRe jj jj m1) (jS (bEf jj jj) (jn (jf jj (jp (js (js (jr (jF jj jj (jl jj jj jj (jS (bRe jj jj m3) (jS (bEt jj jj) (jm jj (jk (jk (jk (jk (jq jj jj (jn (jt jj (js (jr (jF jj jj (jl jj jj jj (jF jj jj (jl jj jj jj (jS (ru_build (ps := [(_, _), (_, _)]) ⟨jj, Part.c jj, jj, Part.c jj, trivial⟩ jj) (jP jj jj jj jj (jn ?_)))))))))))))))))))))))))))))))))))))))))))))))))
    refine ji ?_
    exact ret1 rfl (.cell rfl rfl CRow.ok rfl) (PLe.refl _)
   ·by_cases h3 : (spC f e i).d % 4 = 0
    ·rw [if_pos (.inr h3)]
     refine js (jr (jS (bLf jj jj) (jn (js (jf jj (je (js (js (jr (jF jj jj (jl jj jj jj (jS (bEf jj jj) (jn (jf jj (jp (js (js (jr (jF jj jj (jl jj jj jj (jS (bRe jj jj m1) (jS (bEf jj jj) (jn (jf jj (jp (js (js (jr (jF jj jj (jl jj jj jj (jS (bRe jj jj m3) (jS (bEf jj jj) (jm jj (jg (ru_fieldAddr jj jj) (jg (ru_load1 jj jj jj) (jg (bRe jj jj m2) (jg (bEt jj jj) (jQ jj jj (jn (jt jj (js (jr (jF jj jj (jl jj jj jj (jF jj jj (jl jj jj jj (jS (ru_build (ps := [(_, _), (_, _)]) ⟨jj, Part.c jj, jj, Part.c jj, trivial⟩ jj) (jP jj jj jj jj (jn ?_)))))))))))))))))))))))))))))))))))))))))))))))))
     refine ji ?_
     exact ret1 rfl (.cell rfl rfl CRow.ok rfl) (PLe.refl _)
    ·rw [if_neg (by omega)]
     refine js (jr (jS (bLf jj jj) (jn (js (jf jj (je (js (js (jr (jF jj jj (jl jj jj jj (jS (bEf jj jj) (jn (jf jj (jp (js (js (jr (jF jj jj (jl jj jj jj (jS (bRe jj jj m1) (jS (bEf jj jj) (jn (jf jj (jp (js (js (jr (jF jj jj (jl jj jj jj (jS (bRe jj jj m3) (jS (bEf jj jj) (jm jj (jg (ru_fieldAddr jj jj) (jg (ru_load1 jj jj jj) (jg (bRe jj jj m2) (jg (bEf jj jj) (jQ jj jj (jn (jf jj (jp (js (jr (jF jj jj (jl jj jj jj (jF jj jj (jl jj jj jj (jS (rt_un_to jj (fun w => run_negi w _ _) (vint m4)) (jS (ru_build (ps := [(_, _), (_, _)]) ⟨jj, Part.c jj, jj, Part.c jj, trivial⟩ jj) (jP jj jj jj jj (jn ?_)))))))))))))))))))))))))))))))))))))))))))))))))))
     refine ji ?_
     exact ret1 rfl (.cell rfl rfl CRow.ok rfl) (PLe.refl _)
section
variable (En : Ev)
theorem mTypesO (p : Int) (f : Nat → Co) (n : Nat) (hp : p ≠ 2) (hA : Fn Tryz.prog En 27 [locP p f n] (ex (.bool true))) : Fn Tryz.prog En 13 [locP p f n] (tupP [ex (.int .i64 0), ex (.int .i64 0)]) := by
 unfold locP at hA ⊢
 refine fn_of_body Tryz.func13 rfl Tryz.ntmps13 rfl ?_
 intro w0 h0
 refine js (jr (jB jj jj jj (ja jj (ja jj (jn (js (js (jr (jL jj jj jj (jS (ru_call hA ⟨jj, trivial⟩) (jS (bNo jj) (jn (jf jj (jp (js (js (jr (jF jj jj (jl jj jj jj (jS (bNt jj jj) (jn (jt jj (js (jr (ja jj (ja jj (jn (ji ?_))))))))))))))))))))))))))))
 exact ret2 rfl (.tmp rfl) (.tmp rfl) (PLe.refl _)
end
end Go.Proofs.YtdieokoenhncfaaGreatDoor
/- Texts of small numbers: slices.Reverse, integer.Format, rational.Format. -/
namespace Go.Proofs.YtdieokoenhncfaaGreatDoor
open Go.RowKit Limb
instance cint_u8 : CInt Tryz.prog 5 .u8 := ⟨Tryz.underlying5⟩
instance cone_u8 : COne Tryz.prog 5 := ⟨⟨_, Tryz.underlying5, rfl, by kernel_rfl⟩⟩
instance cslice_u8 : CSlice Tryz.prog 116 5 := ⟨Tryz.underlying116⟩
instance celem_u8 : CElem Tryz.prog 116 5 1 := ⟨Tryz.underlying116, by kernel_rfl⟩
instance crowz_u8 : CRowZ Tryz.prog 5 1 [.int .u8 0] 1 := ⟨by kernel_rfl, rfl, rfl⟩
instance cstr : CStr Tryz.prog 9 := ⟨Tryz.underlying9⟩
instance cbody93 : CBody Tryz.prog 93 := ⟨⟨_, Tryz.func93, rfl, by rfl⟩⟩
instance cbody51 : CBody Tryz.prog 51 := ⟨⟨_, Tryz.func51, rfl, by rfl⟩⟩
instance cbody25 : CBody Tryz.prog 25 := ⟨⟨_, Tryz.func25, rfl, by rfl⟩⟩
def RevI (l : List Nat) (i : Nat) (m : List Nat) : Prop := m.length = l.length ∧ ∀ j, j < l.length → m[j]? = if j < i ∨ l.length - i ≤ j then l[l.length - 1 - j]? else l[j]?
theorem RevI.step {l m : List Nat} {i x y : Nat} (h : RevI l i m) (hi : i < l.length - 1 - i) (hx : m[l.length - 1 - i]? = some x) (hy : m[i]? = some y) : RevI l (i + 1) ((m.set i x).set (l.length - 1 - i) y) := by
 obtain ⟨h1, h2⟩ := h
 refine ⟨by simp [h1], fun j hj => ?_⟩
 have gx := h2 (l.length - 1 - i) (by omega)
 rw [if_neg (by omega), hx] at gx
 have gy := h2 i (by omega)
 rw [if_neg (by omega), hy] at gy
 by_cases e1 : j = l.length - 1 - i
 ·subst e1
  rw [List.getElem?_set_self (by simp [h1]; omega), if_pos (by omega), show l.length - 1 - (l.length - 1 - i) = i by omega, ← gy]
 ·rw [List.getElem?_set_ne (by omega)]
  by_cases e2 : j = i
  ·subst e2
   rw [List.getElem?_set_self (by omega), if_pos (by omega), ← gx]
  ·rw [List.getElem?_set_ne (by omega), h2 j hj]
   by_cases e3 : j < i ∨ l.length - i ≤ j
   ·rw [if_pos e3, if_pos (by omega)]
   ·rw [if_neg e3, if_neg (by omega)]
theorem RevI.done {l m : List Nat} {i : Nat} (h : RevI l i m) (hi : ¬ ((i : Int) < (l.length : Int) - 1 - i)) : m = l.reverse := by
 obtain ⟨h1, h2⟩ := h
 apply List.ext_getElem?
 intro j
 by_cases hj : j < l.length
 ·rw [h2 j hj, List.getElem?_reverse hj]
  by_cases e : j < i ∨ l.length - i ≤ j
  ·rw [if_pos e]
  ·rw [if_neg e]; congr 1; omega
 ·rw [List.getElem?_eq_none (by omega), List.getElem?_eq_none (by simp; omega)]
section
variable (En : Ev)
theorem breverse (l : List Nat) (cap : Nat) (hl : l.length ≤ 1000000) : FnG Tryz.prog En 93 [.own 1000 0 l.length cap] [(1000, l.map byt)] (.one (ex (.tuple #[]))) [(1000, l.reverse.map byt)] := by
 have e0 : IntKind.i64.wrap ((l.length : Int) - 1) = (l.length : Int) - 1 - (0 : Nat) := by rw [w64 (by omega) (by omega)]; simp
 refine fn_of_bodyG Tryz.func93 rfl Tryz.ntmps93 rfl ?_
 intro w0 h0 c
 refine js (jr (jm jj (jS (ru_lenO jj CSlice.ok) (jS (bSu jj jj e0) (ja jj (ja jj (jn (jb ?_))))))))
 refine WpD.loop (α := {p : Nat × List Nat // p.1 ≤ l.length ∧ RevI l p.1 p.2}) (fun p => ⟨[(0, .own 1000 0 l.length cap), (2, .one (ex (.int .i64 ((p.1.1 : Nat) : Int)))), (3, .one (ex (.int .i64 ((l.length : Int) - 1 - (p.1.1 : Nat)))))], [(1000, p.1.2.map byt)]⟩) (fun p => l.length - p.1.1) ⟨(0, l), by omega, rfl, fun j hj => by rw [if_neg (by omega)]⟩ ?_ ?_
 ·refine Sub.mk ?_ ?_ <;> repeat (first | exact trivial | refine jv jj ?_ | refine jy jj ?_ | refine jw jj (js0 jj) ?_ | refine jz ?_ | refine jw jj ⟨js0 jj, js0 jj⟩ ?_ | refine jx jj ⟨js0 jj, js0 jj⟩ ?_ | refine ⟨⟨_, jj, PLe.refl _⟩, trivial, ?_⟩)
 rintro ⟨⟨i, m⟩, hi, hm⟩
 dsimp only at hi hm ⊢
 by_cases hlt : (i : Int) < (l.length : Int) - 1 - i
 ·have hml := hm.1
  have i1 : i < l.length - 1 - i := by omega
  obtain ⟨x, hx⟩ : ∃ x, m[l.length - 1 - i]? = some x := ⟨m[l.length - 1 - i]'(by omega), List.getElem?_eq_getElem (by omega)⟩
  obtain ⟨y, hy⟩ : ∃ y, m[i]? = some y := ⟨m[i]'(by omega), List.getElem?_eq_getElem (by omega)⟩
  have hst := hm.step i1 hx hy
  have ei : (l.length : Int) - 1 - (i : Nat) = ((l.length - 1 - i : Nat) : Int) := by omega
  have gx : (m.map byt)[l.length - 1 - i]? = some (byt x) := by rw [List.getElem?_map, hx]; rfl
  have gy : (m.map byt)[i]? = some (byt y) := by rw [List.getElem?_map, hy]; rfl
  have s1 : (m.map byt).set i (byt x) = (m.set i x).map byt := by rw [List.map_set]
  have s2 : ((m.set i x).map byt).set (l.length - 1 - i) (byt y) = ((m.set i x).set (l.length - 1 - i) y).map byt := by rw [List.map_set, List.map_set, List.map_set]
  have l1 : i < (m.map byt).length := by simp; omega
  have l2 : l.length - 1 - i < ((m.set i x).map byt).length := by simp; omega
  have e2 := wS i (by omega)
  have e3 : IntKind.i64.wrap (((l.length - 1 - i : Nat) : Int) - 1) = (l.length : Int) - 1 - ((i + 1 : Nat) : Int) := by rw [w64 (by omega) (by omega)]; omega
  rw [ei] at hlt ⊢
  refine js (js (jr (jm jj (jm jj (jS (bLt jj jj) (jn (jt jj (jp (js (jb (jr (jm jj (jm jj (jm jj (jm jj (jm jj (jm jj (jS (ru_indexR jj jj (by omega) (o' := l.length - 1 - i) (by omega)) (jS (ru_load1 jj jj (by assumption)) (jm jj (jm jj (jS (ru_indexR jj jj (by omega) (o' := i) (by omega)) (jS (ru_load1 jj jj (by assumption)) (jS (ru_indexR jj jj (by omega) (o' := i) (by omega)) (jO (ru_set1 jj jj jj (by assumption) (by assumption)) (jS (ru_indexR jj jj (by omega) (o' := l.length - 1 - i) (by omega)) (jO (ru_set1 jj jj jj (by assumption) (by assumption)) (jn (jr (jm jj (jS (bAd jj jj e2) (jm jj (jS (bSu jj jj e3) (ja jj (ja jj (jn ?_))))))))))))))))))))))))))))))))))))
  refine ⟨⟨(i + 1, (m.set i x).set (l.length - 1 - i) y), by omega, hst⟩, ?_, by dsimp only; omega⟩
  refine Sub.mk ?_ ?_ <;> repeat (first | exact trivial | refine jv jj ?_ | refine jy jj ?_ | refine jw jj (js0 jj) ?_ | refine jz ?_ | refine jw jj ⟨js0 jj, js0 jj⟩ ?_ | refine jx jj ⟨js0 jj, js0 jj⟩ ?_ | refine ⟨⟨_, jj, PLe.refl _⟩, trivial, ?_⟩)
 ·have hd := hm.done hlt
  subst hd
  refine js (js (jr (jm jj (jm jj (jS (bLf jj jj) (jn (jf jj (je ?_))))))))
  exact retG0 rfl ⟨.inl ⟨_, rfl, PsLe.refl _⟩, trivial⟩
def dgt (n j : Nat) : Nat := 48 + n / 10 ^ j % 10
def dgts (n i : Nat) : List Nat := (List.range i).map (dgt n)
theorem dgts_succ (n i : Nat) : dgts n (i + 1) = dgts n i ++ [dgt n i] := by unfold dgts; rw [List.range_succ, List.map_append]; rfl
theorem dgts_len (n i : Nat) : (dgts n i).length = i := by simp [dgts]
def fmtL (z : Int) (k : Nat) : List Nat := (dgts z.natAbs k ++ (if z < 0 then [45] else [])).reverse
theorem dgts_take (n : Nat) {i j : Nat} (h : i ≤ j) : (dgts n j).take i = dgts n i := by
 unfold dgts
 rw [← List.map_take, List.take_range, Nat.min_eq_left h]
theorem PsLe.take : ∀ (ps : List Pd) (k : Nat), PsLe ps (ps.take k)
 | [], k => by rw [List.take_nil]; trivial
 | _ :: _, 0 => by trivial
 | p :: ps, k + 1 => ⟨PLe.refl p, PsLe.take ps k⟩
set_option maxHeartbeats 2000000 in
theorem iformat (z : Int) (k : Nat) (hz : z.natAbs < 10 ^ k) (hk : k ≤ 9) (hk1 : 10 ^ (k - 1) ≤ z.natAbs) (hk0 : 0 < k) : Fn Tryz.prog En 51 [zC z] (ex (.string (txt (fmtL z k)))) := by
 have hpow : 10 ^ k ≤ 10 ^ 9 := Nat.pow_le_pow_right (by omega) hk
 have hpos : 0 < 10 ^ (k - 1) := Nat.pow_pos (by omega)
 unfold zC zR fmtL
 have hsb : (if z < 0 then [45] else []) = (if decide (z < 0) then [45] else [] : List Nat) := by simp
 rw [hsb]
 generalize z.natAbs = n at *
 generalize decide (z < 0) = sb
 have h9 : n < 1000000000 := by omega
 have hn0 : n ≠ 0 := by omega
 have hd : digs n = [n] := by rw [digs_step hn0, Nat.mod_eq_of_lt (by rw [B_def]; omega), show n / B = 0 from Nat.div_eq_of_lt (by rw [B_def]; omega)]; rfl
 have hlm1 : Lm [n] := by rw [← hd]; exact lm_digs n
 have hlm0 : Lm [0] := Lm.cons (by rw [B_def]; omega) Lm.nil
 have v1 : val [n] = n := by simp [val]
 rw [hd]
 have C1 := ntrim En [n] hlm1 (by simp)
 rw [v1, hd] at C1
 have C2 := nclone_own En [n] (by simp) (by simp)
 have C3 := ndivLimb En [n] [] 1000000000 1 (by simp) hlm1 (by omega) (by rw [B_def]; omega)
 rw [v1, Nat.mod_eq_of_lt h9, Nat.div_eq_of_lt h9, List.append_nil, List.append_nil, show pd 0 [n].length = [0] from rfl] at C3
 have C4 := ntrim En [0] hlm0 (by simp)
 rw [show val [0] = 0 from rfl, digs_zero] at C4
 have hp0 := arr_mag0 (l := [0]) (cap := 1) (by simp) hlm0
 have e00 : n / 10 ^ 0 = n := by simp
 refine fn_of_body Tryz.func51 rfl Tryz.ntmps51 rfl ?_
 intro w0 h0
 refine js (jr (jB jj jj jj (ja jj (jn (js (jr (jF jj jj (jl jj jj jj (jS (ru_call C1 ⟨jj, trivial⟩) (jT (ru_callO C2 jj ⟨jj, trivial⟩ jj jj) (ja jj (jn (js (js (jr (jm jj (jS (ru_lenO jj CSlice.ok) (jS (bEf jj jj (by simp)) (jn (jf jj (jp (js (jr (ja jj (jn (js (jb ?_)))))))))))))))))))))))))))
 refine WpD.loop (α := Bool) (fun b => cond b ⟨[(1, .ptr 1 0), (3, .own 9 0 1 1), (4, .one (ex (.slice none 0 0)))], [(1, [ex (.bool sb), mag [n]]), (9, [lb n])]⟩ ⟨[(1, .ptr 1 0), (3, .one (mag [])), (4, .app 504 1 9)], [(1, [ex (.bool sb), mag [n]]), (504, (dgts n 9).map byt), (754, [])]⟩) (fun b => cond b 1 0) true ?_ ?_
 ·refine Sub.mk ?_ ?_ <;> repeat (first | exact trivial | refine jv jj ?_ | refine jy jj ?_ | refine jw jj (js0 jj) ?_ | refine jz ?_ | refine jw jj ⟨js0 jj, js0 jj⟩ ?_ | refine jx jj ⟨js0 jj, js0 jj⟩ ?_ | refine ⟨⟨_, jj, PLe.refl _⟩, trivial, ?_⟩)
 rintro (_ | _)
 ·dsimp only [cond]
  refine js (js (jr (jm jj (jE jj (jS (bGf jj jj (by simp)) (jn (jf jj (je (js (jb ?_))))))))))
  refine WpD.loop (α := {j : Nat // k ≤ j ∧ j ≤ 9}) (fun j => ⟨[(1, .ptr 1 0), (4, .app 504 1 j.1)], [(1, [ex (.bool sb), mag [n]]), (504, (dgts n 9).map byt), (754, [])]⟩) (fun j => j.1) ⟨9, hk, by omega⟩ ?_ ?_
  ·refine Sub.mk ?_ ?_ <;> repeat (first | exact trivial | refine jv jj ?_ | refine jy jj ?_ | refine jw jj (js0 jj) ?_ | refine jz ?_ | refine jw jj ⟨js0 jj, js0 jj⟩ ?_ | refine jx jj ⟨js0 jj, js0 jj⟩ ?_ | refine ⟨⟨_, jj, PLe.refl _⟩, trivial, ?_⟩)
  rintro ⟨j, hj1, hj2⟩
  dsimp only at hj1 hj2 ⊢
  have e5 : IntKind.i64.wrap ((j : Int) - 1) = ((j - 1 : Nat) : Int) := by rw [w64 (by omega) (by omega)]; omega
  have hget : ((dgts n 9).map byt)[j - 1]? = some (byt (dgt n (j - 1))) := by unfold dgts; rw [List.getElem?_map, List.getElem?_map, List.getElem?_range (by omega)]; rfl
  by_cases hjk : k < j
  ·have hdz : ((dgt n (j - 1) : Nat) : Int) = 48 := by
    unfold dgt
    rw [Nat.div_eq_of_lt (Nat.lt_of_lt_of_le hz (Nat.pow_le_pow_right (by omega) (by omega)))]
    rfl
   refine js (js (jr (jm jj (jm jj (jS (ru_lenA jj CSlice.ok) (jS (bSu jj jj e5) (jS (ru_indexA jj jj (by omega) (o := j - 1) (by omega)) (jS (ru_load1 jj jj (by assumption)) (jS (bEt jj jj) (jn (jt jj (jp (jb (jr (jm jj (jm jj (jS (ru_lenA jj CSlice.ok) (jS (bSu jj jj e5) (jS (ru_sliceHA jj jj (by omega) (by omega)) (ja jj (jn ?_)))))))))))))))))))))
   refine ⟨⟨j - 1, by omega, by omega⟩, ?_, by dsimp only; omega⟩
   refine Sub.mk ?_ ?_ <;> repeat (first | exact trivial | refine jv jj ?_ | refine jy jj ?_ | refine jw jj (js0 jj) ?_ | refine jz ?_ | refine jw jj ⟨js0 jj, js0 jj⟩ ?_ | refine jx jj ⟨js0 jj, js0 jj⟩ ?_ | refine ⟨⟨_, jj, PLe.refl _⟩, trivial, ?_⟩)
  ·have hjk : j = k := by omega
   subst hjk
   have hdz : ((dgt n (j - 1) : Nat) : Int) ≠ 48 := by
    unfold dgt
    have hq1 : 1 ≤ n / 10 ^ (j - 1) := (Nat.le_div_iff_mul_le hpos).2 (by omega)
    have hq2 : n / 10 ^ (j - 1) < 10 := by
     rw [Nat.div_lt_iff_lt_mul hpos]
     have : 10 ^ j = 10 * 10 ^ (j - 1) := by rw [← Nat.pow_succ']; congr 1; omega
     omega
    rw [Nat.mod_eq_of_lt hq2]; omega
   refine js (js (jr (jm jj (jm jj (jS (ru_lenA jj CSlice.ok) (jS (bSu jj jj e5) (jS (ru_indexA jj jj (by omega) (o := j - 1) (by omega)) (jS (ru_load1 jj jj (by assumption)) (jS (bEf jj jj) (jn (jf jj (je (js (js ?_))))))))))))))
   have hps : PsLe ((dgts n 9).map byt) ((dgts n j).map byt) := by
    have := PsLe.take ((dgts n 9).map byt) j
    rwa [← List.map_take, dgts_take n hj2] at this
   refine WpD.sub (τ := ⟨[(1, .ptr 1 0), (4, .app 504 1 j)], [(1, [ex (.bool sb), mag [n]]), (504, (dgts n j).map byt), (754, [])]⟩) ?_ ?_
   ·refine Sub.mk ?_ ⟨.inl ⟨_, jj, PsLe.refl _⟩, .inl ⟨_, jj, hps⟩, .inr jj, trivial⟩
    repeat (first | exact trivial | refine jv jj ?_ | refine jw jj (js0 jj) ?_ | refine jw jj ⟨js0 jj, js0 jj⟩ ?_ | refine jx jj ⟨js0 jj, js0 jj⟩ ?_ | refine ⟨⟨_, jj, PLe.refl _⟩, trivial, ?_⟩)
   have hlen : ((dgts n j).map byt).length = j * 1 := by simp [dgts_len]
   cases sb with
   | true =>
    have hL : (dgts n j ++ [45]).length = j + 1 := by simp [dgts_len]
    have hr2 : (dgts n j).map byt ++ [ex (.int .u8 45)] = (dgts n j ++ [45]).map byt := by rw [List.map_append]; rfl
    have C7 := breverse En (dgts n j ++ [45]) (j + 1) (by omega)
    rw [hL] at C7
    have hL2 : (dgts n j ++ [45]).reverse.length = j + 1 := by simp [dgts_len]
    repeat (first | refine js ?_ | refine jb ?_)
    refine jr (jF jj jj (jl jj jj jj (jn (jt jj (jr (jm jj (jS (rc_buildR (ps := [(_, _)]) ⟨jj, Part.c jj, trivial⟩ jj jj jj) (RG.SW (LT.plain jj (ru_appendA 548 jj jj hlen jj (by omega) (by omega) jj jj jj jj jj hr2)) jj (ja jj (jn (js ?_)))))))))))
    refine WpD.sub (τ := ⟨[(4, .own 400 0 (j + 1) (j + 1))], [(400, (dgts n j ++ [45]).map byt)]⟩) ?_ ?_
    ·refine Sub.ren 400 548 rfl ?_ ?_ rfl
     ·repeat (first | exact trivial | refine ⟨.inl ⟨⟨_, rfl, PLe.refl _⟩, trivial, trivial⟩, ?_⟩ | refine ⟨.inr ⟨_, _, rfl, .inl rfl, ⟨Option.some_ne_none _, Option.some_ne_none _⟩⟩, ?_⟩ | refine ⟨.inl ⟨⟨_, rfl, rfl⟩, Option.some_ne_none _, ⟨(by decide), (by decide)⟩⟩, ?_⟩ | refine ⟨.inl ⟨⟨_, rfl, rfl⟩, ⟨Option.some_ne_none _, Option.some_ne_none _⟩, ⟨(by decide), (by decide), (by decide), (by decide)⟩⟩, ?_⟩ | refine ⟨.inl ⟨⟨_, rfl, rfl⟩, clo_live (Option.some_ne_none _) (Option.some_ne_none _), clo_avoid (by decide) (by decide) (by decide) (by decide)⟩, ?_⟩ | refine ⟨.inr ⟨_, _, rfl, .inr ⟨(by omega), rfl⟩, Option.some_ne_none _⟩, ?_⟩)
     ·repeat (first | exact trivial | refine ⟨.inr ⟨(by decide), .inr rfl⟩, ?_⟩ | refine ⟨.inl ⟨rfl, _, rfl, PsLe.refl _⟩, ?_⟩ | refine ⟨.inr ⟨(by decide), .inl ⟨(by decide), _, rfl, PsLe.refl _⟩⟩, ?_⟩)
    repeat (first | refine js ?_ | refine jb ?_)
    refine jr (jm jj (jT (ru_callM (fun _ => 400) C7 ⟨⟨jj, Option.some_ne_none _⟩, trivial⟩ ⟨jj, trivial⟩ jj jj jj) (jn (js (jr (jm jj (jS (ru_strO Tryz.underlying116 Tryz.underlying5 Tryz.underlying9 jj jj hL2 (by omega)) (ja jj (jn (ji ?_))))))))))
    exact ret1 rfl (.tmp rfl) (PLe.refl _)
   | false =>
    have hL : (dgts n j).length = j := dgts_len n j
    have C7 := breverse En (dgts n j) j (by omega)
    rw [hL] at C7
    have hL2 : (dgts n j).reverse.length = j := by simp [dgts_len]
    have hfin : (dgts n j ++ (if (false : Bool) = true then [45] else [])).reverse = (dgts n j).reverse := by simp
    rw [hfin]
    repeat (first | refine js ?_ | refine jb ?_)
    refine jr (jF jj jj (jl jj jj jj (jn (jf jj (jp (js ?_))))))
    refine WpD.sub (τ := ⟨[(4, .own 400 0 j j)], [(400, (dgts n j).map byt)]⟩) ?_ ?_
    ·refine Sub.ren 400 504 rfl ?_ ?_ rfl
     ·repeat (first | exact trivial | refine ⟨.inl ⟨⟨_, rfl, PLe.refl _⟩, trivial, trivial⟩, ?_⟩ | refine ⟨.inr ⟨_, _, rfl, .inl rfl, ⟨Option.some_ne_none _, Option.some_ne_none _⟩⟩, ?_⟩ | refine ⟨.inl ⟨⟨_, rfl, rfl⟩, Option.some_ne_none _, ⟨(by decide), (by decide)⟩⟩, ?_⟩ | refine ⟨.inl ⟨⟨_, rfl, rfl⟩, ⟨Option.some_ne_none _, Option.some_ne_none _⟩, ⟨(by decide), (by decide), (by decide), (by decide)⟩⟩, ?_⟩ | refine ⟨.inl ⟨⟨_, rfl, rfl⟩, clo_live (Option.some_ne_none _) (Option.some_ne_none _), clo_avoid (by decide) (by decide) (by decide) (by decide)⟩, ?_⟩ | refine ⟨.inr ⟨_, _, rfl, .inr ⟨(by omega), rfl⟩, Option.some_ne_none _⟩, ?_⟩)
     ·repeat (first | exact trivial | refine ⟨.inr ⟨(by decide), .inr rfl⟩, ?_⟩ | refine ⟨.inl ⟨rfl, _, rfl, PsLe.refl _⟩, ?_⟩ | refine ⟨.inr ⟨(by decide), .inl ⟨(by decide), _, rfl, PsLe.refl _⟩⟩, ?_⟩)
    repeat (first | refine js ?_ | refine jb ?_)
    refine jr (jm jj (jT (ru_callM (fun _ => 400) C7 ⟨⟨jj, Option.some_ne_none _⟩, trivial⟩ ⟨jj, trivial⟩ jj jj jj) (jn (js (jr (jm jj (jS (ru_strO Tryz.underlying116 Tryz.underlying5 Tryz.underlying9 jj jj hL2 (by omega)) (ja jj (jn (ji ?_))))))))))
    exact ret1 rfl (.tmp rfl) (PLe.refl _)
 ·dsimp only [cond]
  refine js (js (jr (jm jj (jS (ru_lenO jj CSlice.ok) (jS (bGt jj jj) (jn (jt jj (jp (jb (js (jr (jm jj (jT (ru_callM (fun _ => 9) C3 ⟨⟨jj, Option.some_ne_none _⟩, jj, trivial⟩ ⟨jj, trivial⟩ jj jj jj) (ja jj (jn (js ?_))))))))))))))))
  refine WpD.sub (τ := ⟨[(1, .ptr 1 0), (3, .one (mag [0])), (4, .one (ex (.slice none 0 0))), (5, .one (lb n))], [(1, [ex (.bool sb), mag [n]])]⟩) ?_ ?_
  ·refine Sub.pub 9 rfl rfl ?_ ?_ rfl
   ·repeat (first | exact trivial | refine ⟨.inl ⟨⟨_, rfl, PLe.refl _⟩, trivial⟩, ?_⟩ | refine ⟨.inl ⟨⟨_, rfl, rfl⟩, Option.some_ne_none _⟩, ?_⟩ | refine ⟨.inl ⟨⟨_, rfl, rfl⟩, ⟨Option.some_ne_none _, Option.some_ne_none _⟩⟩, ?_⟩ | refine ⟨.inr (.inl ⟨_, _, _, _, rfl, rfl, hp0⟩), ?_⟩ | refine ⟨.inr (.inr (.inl ⟨_, _, _, rfl, rfl, hp0⟩)), ?_⟩)
   ·repeat (first | exact trivial | refine jz ?_ | refine jy rfl ?_)
  repeat (first | refine js ?_ | refine jb ?_)
  refine jr (jm jj (jS (ru_call C4 ⟨jj, trivial⟩) (ja jj (jn (js (jr (jm jj (jn (jb ?_)))))))))
  refine WpD.loop (α := {i : Nat // i ≤ 9}) (fun i => ⟨[(1, .ptr 1 0), (3, .one (mag [])), (4, .app 504 1 i.1), (5, .one (lb (n / 10 ^ i.1))), (20, .one (ex (.int .i64 ((i.1 : Nat) : Int))))], [(1, [ex (.bool sb), mag [n]]), (504, (dgts n i.1).map byt), (754, [])]⟩) (fun i => 9 - i.1) ⟨0, by omega⟩ ?_ ?_
  ·dsimp only
   rw [e00]
   refine Sub.mk ?_ ?_ <;> repeat (first | exact trivial | refine jv jj ?_ | refine jy jj ?_ | refine jw jj (js0 jj) ?_ | refine jz ?_ | refine jw jj ⟨js0 jj, js0 jj⟩ ?_ | refine jx jj ⟨js0 jj, js0 jj⟩ ?_ | refine ⟨⟨_, jj, PLe.refl _⟩, trivial, ?_⟩)
  rintro ⟨i, hi⟩
  dsimp only at hi ⊢
  by_cases hi9 : i < 9
  ·have e1 : ((n / 10 ^ i : Nat) : Int).tmod 10 = ((n / 10 ^ i % 10 : Nat) : Int) := (Int.ofNat_tmod _ 10).symm
   have hlt : n / 10 ^ i % 10 < 10 := Nat.mod_lt _ (by omega)
   have e2 : IntKind.u32.wrap (48 + ((n / 10 ^ i % 10 : Nat) : Int)) = ((dgt n i : Nat) : Int) := by rw [IntKind.wrap_u32]; unfold dgt; omega
   have e3 : IntKind.u8.wrap ((dgt n i : Nat) : Int) = ((dgt n i : Nat) : Int) := by unfold dgt; rw [IntKind.wrap_u8]; omega
   have hq : n / 10 ^ i / 10 = n / 10 ^ (i + 1) := by rw [Nat.div_div_eq_div_mul, Nat.pow_succ]
   have hle : n / 10 ^ (i + 1) ≤ n := Nat.div_le_self _ _
   have e4 : IntKind.u32.wrap (((n / 10 ^ i : Nat) : Int).tdiv 10) = ((n / 10 ^ (i + 1) : Nat) : Int) := by
    rw [show ((n / 10 ^ i : Nat) : Int).tdiv 10 = ((n / 10 ^ i / 10 : Nat) : Int) from (Int.ofNat_tdiv _ 10).symm, hq, IntKind.wrap_u32]
    have h0 := Int.natCast_nonneg (n / 10 ^ (i + 1))
    have h1 : ((n / 10 ^ (i + 1) : Nat) : Int) ≤ (n : Int) := by exact_mod_cast hle
    generalize ((n / 10 ^ (i + 1) : Nat) : Int) = q at h0 h1 ⊢
    omega
   have e6 := wS i (by omega)
   have hlen : ((dgts n i).map byt).length = i * 1 := by simp [dgts_len]
   have hr : (dgts n i).map byt ++ [ex (.int .u8 ((dgt n i : Nat) : Int))] = (dgts n (i + 1)).map byt := by rw [dgts_succ, List.map_append]; rfl
   refine js (jr (jS (bLt jj jj) (jn (js (jt jj (jp (js (jb (js (jr (jm jj (jm jj (jS (bRe jj jj e1) (jS (bAd jj jj e2) (jS (bCv jj e3) (jS (rc_buildR (ps := [(_, _)]) ⟨jj, Part.c jj, trivial⟩ jj jj jj) (RG.SW (LT.plain jj (ru_appendA 528 jj jj hlen jj (by omega) (by omega) jj jj jj jj jj hr)) jj (ja jj (jn (jr (jm jj (jS (bQu jj jj e4) (ja jj (jn (jr (jS (bAd jj jj e6) (jm jj (jn ?_))))))))))))))))))))))))))))
   refine ⟨⟨i + 1, by omega⟩, ?_, by dsimp only; omega⟩
   refine Sub.ren 504 528 rfl ?_ ?_ rfl
   ·repeat (first | exact trivial | refine ⟨.inl ⟨⟨_, rfl, PLe.refl _⟩, trivial, trivial⟩, ?_⟩ | refine ⟨.inr ⟨_, _, rfl, .inl rfl, ⟨Option.some_ne_none _, Option.some_ne_none _⟩⟩, ?_⟩ | refine ⟨.inl ⟨⟨_, rfl, rfl⟩, Option.some_ne_none _, ⟨(by decide), (by decide)⟩⟩, ?_⟩ | refine ⟨.inl ⟨⟨_, rfl, rfl⟩, ⟨Option.some_ne_none _, Option.some_ne_none _⟩, ⟨(by decide), (by decide), (by decide), (by decide)⟩⟩, ?_⟩ | refine ⟨.inl ⟨⟨_, rfl, rfl⟩, clo_live (Option.some_ne_none _) (Option.some_ne_none _), clo_avoid (by decide) (by decide) (by decide) (by decide)⟩, ?_⟩ | refine ⟨.inr ⟨_, _, rfl, .inr ⟨(by omega), rfl⟩, Option.some_ne_none _⟩, ?_⟩)
   ·repeat (first | exact trivial | refine ⟨.inr ⟨(by decide), .inr rfl⟩, ?_⟩ | refine ⟨.inl ⟨rfl, _, rfl, PsLe.refl _⟩, ?_⟩ | refine ⟨.inr ⟨(by decide), .inl ⟨(by decide), _, rfl, PsLe.refl _⟩⟩, ?_⟩)
  ·have hi9 : i = 9 := by omega
   subst hi9
   refine js (jr (jS (bLf jj jj) (jn (js (jf jj (je ?_))))))
   refine ⟨false, ?_, by decide⟩
   dsimp only [cond]
   refine Sub.mk ?_ ?_ <;> repeat (first | exact trivial | refine jv jj ?_ | refine jy jj ?_ | refine jw jj (js0 jj) ?_ | refine jz ?_ | refine jw jj ⟨js0 jj, js0 jj⟩ ?_ | refine jx jj ⟨js0 jj, js0 jj⟩ ?_ | refine ⟨⟨_, jj, PLe.refl _⟩, trivial, ?_⟩)
end
end Go.Proofs.YtdieokoenhncfaaGreatDoor
/- The mass of a symbol; the sanity check of chapter 32. (With LT.skipU.) -/
namespace Go.Proofs.YtdieokoenhncfaaGreatDoor
open Go.RowKit Limb Num
instance cbody23 : CBody Tryz.prog 23 := ⟨⟨_, Tryz.func23, rfl, by rfl⟩⟩
instance cbody9 : CBody Tryz.prog 9 := ⟨⟨_, Tryz.func9, rfl, by rfl⟩⟩
def mpr (p : Int) (sd : Int → Nat) (ss : Int → Int) (R : Rat) : Nat → Rat
 | 0 => R
 | k + 1 => if 0 < sd ((k : Int) - 1) then mpr p sd ss R k * dia p (sd ((k : Int) - 1)) (ss ((k : Int) - 1)) else mpr p sd ss R k
theorem mpr_sz {p : Int} {sd : Int → Nat} {ss : Int → Int} {R : Rat} (h1 : 2 ≤ p) (h2 : p ≤ 9973) (hd : ∀ e, sd e ≤ 9) (hs : ∀ e, -1 ≤ ss e ∧ ss e ≤ 1) (hR : Sz 1000 R) : ∀ k, Sz (k * 200 + 1000) (mpr p sd ss R k)
 | 0 => hR.mono (by omega)
 | k + 1 => by
  rw [mpr]
  split
  ·exact (szq_mul (mpr_sz h1 h2 hd hs hR k) (sz_dia h1 h2 (hs _).1 (hs _).2 (hd _))).mono (by omega)
  ·exact (mpr_sz h1 h2 hd hs hR k).mono (by omega)
end Go.Proofs.YtdieokoenhncfaaGreatDoor
/- Symbols at odd primes: what is valid; the mass. (With LT.skipU.) -/
namespace Go.Proofs.YtdieokoenhncfaaGreatDoor
open Go.RowKit Limb Num
instance cbody108 : CBody Tryz.prog 108 := ⟨⟨_, Tryz.func108, rfl, by rfl⟩⟩
instance cbody60 : CBody Tryz.prog 60 := ⟨⟨_, Tryz.func60, rfl, by rfl⟩⟩
instance cbody107 : CBody Tryz.prog 107 := ⟨⟨_, Tryz.func107, rfl, by rfl⟩⟩
instance cbody54 : CBody Tryz.prog 54 := ⟨⟨_, Tryz.func54, rfl, by rfl⟩⟩
def dsm (f : Nat → Co) : Nat → Int
 | 0 => 0
 | i + 1 => dsm f i + (f i).d
structure OddL (f : Nat → Co) (n : Nat) : Prop extends OkL f n where
 e6 : ∀ i, i < n → (f i).e ≤ 60
 sg : ∀ i, i < n → (f i).s = 1 ∨ (f i).s = -1
 od : ∀ i, i < n → (f i).o = false
 oy : ∀ i, i < n → (f i).y = 0
 sm : dsm f n ≤ 8
theorem dsm_bd {f : Nat → Co} {n : Nat} (H : OddL f n) : ∀ {i : Nat}, i ≤ n → (i : Int) ≤ dsm f i
 | 0, _ => by simp [dsm]
 | i + 1, h => by
  have := dsm_bd H (i := i) (by omega)
  have := H.d0 i (by omega)
  rw [dsm]
  omega
theorem dsm_le {f : Nat → Co} {n : Nat} (H : OddL f n) : ∀ (j : Nat) {i : Nat}, i + j = n → dsm f i ≤ dsm f n
 | 0, i, h => by rw [show i = n by omega]; exact Int.le_refl _
 | j + 1, i, h => by
  have := dsm_le H j (i := i + 1) (by omega)
  have := H.d0 i (by omega)
  have h2 : dsm f (i + 1) = dsm f i + (f i).d := rfl
  omega
theorem dsm_room {f : Nat → Co} {n i : Nat} (H : OddL f n) (h : i < n) : 0 ≤ dsm f i ∧ dsm f i + (f i).d ≤ 8 := by
 have h1 := dsm_bd H (i := i) (by omega)
 have h2 := dsm_le H (n - (i + 1)) (i := i + 1) (by omega)
 have h3 := H.sm
 have h4 : dsm f (i + 1) = dsm f i + (f i).d := rfl
 omega
section
variable (En : Ev)
end
end Go.Proofs.YtdieokoenhncfaaGreatDoor

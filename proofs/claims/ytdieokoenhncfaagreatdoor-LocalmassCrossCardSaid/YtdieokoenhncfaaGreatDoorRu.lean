/- Cross term and type factor of every symbol: the program's and the reference's say the same. (With LT.skipU.) -/
import Derived.Test.YtdieokoenhncfaaGreatDoorMem
import Derived.Test.YtdieokoenhncfaaGreatDoorSp
set_option maxRecDepth 3000
namespace Go.Proofs.YtdieokoenhncfaaGreatDoor
open Go.RowKit Limb Num
instance cbody31 : CBody Tryz.prog 31 := ⟨⟨_, Tryz.func31, rfl, by rfl⟩⟩
instance cbody33 : CBody Tryz.prog 33 := ⟨⟨_, Tryz.func33, rfl, by rfl⟩⟩
instance cbody14 : CBody Tryz.prog 14 := ⟨⟨_, Tryz.func14, rfl, by rfl⟩⟩
instance cbody12 : CBody Tryz.prog 12 := ⟨⟨_, Tryz.func12, rfl, by rfl⟩⟩
instance cbody19 : CBody Tryz.prog 19 := ⟨⟨_, Tryz.func19, rfl, by rfl⟩⟩
def cZS : Pd := aggP [ex (.bool false), ex (.slice none 0 0), ex (.bool false), ex (.slice none 0 0), ex (.bool false)]
def tyS (f : Nat → Co) (i : Nat) : Int := if (f i).o = false then -(f i).d else if 0 < i ∧ (f (i - 1)).o = true ∧ (f (i - 1)).e = (f i).e - 1 then 1 else 0
def tyU (f : Nat → Co) : Nat → Int
 | 0 => 0
 | i + 1 => tyU f i + tyS f i
theorem tyS_bd {f : Nat → Co} {n i : Nat} (H : OkL f n) (hi : i < n) : -8 ≤ tyS f i ∧ tyS f i ≤ 1 := by
 have := H.d0 i hi
 have := H.d8 i hi
 unfold tyS
 split
 ·omega
 ·split <;> omega
theorem hZd {f : Nat → Co} {n : Nat} (H : OkL f n) : ∀ {i : Nat}, i ≤ n → -8 * (i : Int) ≤ tyU f i ∧ tyU f i ≤ (i : Int)
 | 0, _ => by simp [tyU]
 | i + 1, h => by
  have ih := hZd H (i := i) (by omega)
  have := tyS_bd H (i := i) (by omega)
  rw [tyU]
  generalize tyU f i = x at *
  generalize tyS f i = y at *
  omega
section
variable (En : Ev)
set_option maxHeartbeats 2000000 in
theorem mTypesG (f : Nat → Co) (n : Nat) (H : OkL f n) (hA : Fn Tryz.prog En 27 [locP 2 f n] (ex (.bool true))) : Fn Tryz.prog En 13 [locP 2 f n] (tupP [ex (.int .i64 (tyU f n)), ex (.int .i64 0)]) := by
 have hn8 := H.n8
 unfold locP at hA ⊢
 refine aZb Tryz.func13 rfl Tryz.ntmps13 rfl ?_
 intro w0 h0
 refine js (jr (jB jj jj jj (ja jj (ja jj (jn (js (js (jr (jL jj jj jj (jS (aZa hA ⟨jj, trivial⟩) (jS (bNo jj) (jn (jf jj (jp (js (js (jr (jF jj jj (jl jj jj jj (jS (bNf jj jj) (jn (jf jj (jp (js (jr (ja jj (jn (js (js (jr (jF jj jj (jl jj jj jj (jE jj (jm jj (jn (jb ?_))))))))))))))))))))))))))))))))))))
 refine WpD.loop (α := {i : Nat // i ≤ n}) (fun i => ⟨[(1, .ptr 1 0), (4, .one (ex (.int .i64 (tyU f i.1)))), (14, .one (slc 5 (rows (ccs f) n) n)), (15, .one (ex (.int .i64 (n : Int)))), (16, .one (ex (.int .i64 (i.1 : Int))))], [(1, [ex (.int .i64 2), slc 5 (rows (ccs f) n) n])]⟩) (fun i => n - i.1) ⟨0, Nat.zero_le _⟩ ?_ ?_
 ·refine Sub.mk ?_ ?_ <;> repeat (first | exact trivial | refine jV jj ?_ | refine jy jj ?_ | refine jw jj (js0 jj) ?_)
 rintro ⟨i, hi⟩
 dsimp only at hi ⊢
 obtain ⟨t1, t2⟩ := hZd H hi
 by_cases hlt : i < n
 ·have hq : ((rows (ccs f) n).drop (i * 5)).take 5 = [ex (.int .i64 (f i).e), ex (.int .i64 (f i).d), ex (.int .i64 (f i).s), ex (.bool (f i).o), ex (.int .i64 (f i).y)] := aZo (aZp f) hlt
  have w1 := wS i (by omega)
  have b1 := H.d0 i hlt
  have b2 := H.d8 i hlt
  have b3 := H.e0 i hlt
  have b4 := H.e1 i hlt
  have hu : tyU f (i + 1) = tyU f i + tyS f i := rfl
  have hz : tyU f i + 0 = tyU f i := Int.add_zero _
  unfold tyS at hu
  by_cases hi0 : i = 0
  ·have hi0' : ¬ (i : Int) > 0 := by omega
   cases ho : (f i).o with
   | false =>
    rw [ho] at hq
    rw [if_pos ho] at hu
    have ws : IntKind.i64.wrap (tyU f i - (f i).d) = tyU f (i + 1) := by rw [hu]; exact w64 (by omega) (by omega)
    refine js (jr (jS (bLt jj jj) (jn (js (jt jj (jp (js (jb (js (jr (jm jj (jS (aZc jj jj hlt hq) (jS (aZg jj jj jj) (jA jj jj jj (ja jj (jP jj jj jj jj (jn (jb (js (jr (jF jj jj (jl jj jj jj (jS (bNo jj) (ja jj (jn (jt jj (jr (jm jj (jF jj jj (jl jj jj jj (jS (bSu jj jj ws) (ja jj (jn (jr (jS (bAd jj jj w1) (jm jj (jn ?_)))))))))))))))))))))))))))))))))))))
    refine ⟨⟨i + 1, by omega⟩, ?_, by dsimp only; omega⟩
    refine Sub.mk ?_ ?_ <;> repeat (first | exact trivial | refine jV jj ?_ | refine jy jj ?_ | refine jw jj (js0 jj) ?_)
   | true =>
    rw [ho] at hq
    rw [if_neg (by rw [ho]; decide), if_neg (by omega), hz] at hu
    refine js (jr (jS (bLt jj jj) (jn (js (jt jj (jp (js (jb (js (jr (jm jj (jS (aZc jj jj hlt hq) (jS (aZg jj jj jj) (jA jj jj jj (ja jj (jP jj jj jj jj (jn (jb (js (jr (jF jj jj (jl jj jj jj (jS (bNo jj) (ja jj (jn (jf jj (js (jr (jm jj (jS (bGf jj jj) (jm jj (jk (jk (jk (jk (jk (jk (jk (jQ jj jj (jm jj (jk (jk (jk (jk (jk (jk (jk (jk (jk (jk (jk (jQ jj jj (ja jj (jn ?_))))))))))))))))))))))))))))))))))))))))))))))))))))))
    refine jf jj (jp (jr (jS (bAd jj jj w1) (jm jj (jn ?_)))))
    refine ⟨⟨i + 1, by omega⟩, ?_, by dsimp only; omega⟩
    dsimp only
    rw [hu]
    refine Sub.mk ?_ ?_ <;> repeat (first | exact trivial | refine jV jj ?_ | refine jy jj ?_ | refine jw jj (js0 jj) ?_)
  ·have hi0' : (i : Int) > 0 := by omega
   have hi1 : i - 1 < n := by omega
   have hq1 : ((rows (ccs f) n).drop ((i - 1) * 5)).take 5 = [ex (.int .i64 (f (i - 1)).e), ex (.int .i64 (f (i - 1)).d), ex (.int .i64 (f (i - 1)).s), ex (.bool (f (i - 1)).o), ex (.int .i64 (f (i - 1)).y)] := aZo (aZp f) hi1
   have wi : IntKind.i64.wrap ((i : Int) - 1) = ((i - 1 : Nat) : Int) := by rw [w64 (by omega) (by omega)]; omega
   have we : IntKind.i64.wrap ((f i).e - 1) = (f i).e - 1 := w64 (by omega) (by omega)
   cases ho : (f i).o with
   | false =>
    rw [ho] at hq
    rw [if_pos ho] at hu
    have ws : IntKind.i64.wrap (tyU f i - (f i).d) = tyU f (i + 1) := by rw [hu]; exact w64 (by omega) (by omega)
    refine js (jr (jS (bLt jj jj) (jn (js (jt jj (jp (js (jb (js (jr (jm jj (jS (aZc jj jj hlt hq) (jS (aZg jj jj jj) (jA jj jj jj (ja jj (jP jj jj jj jj (jn (jb (js (jr (jF jj jj (jl jj jj jj (jS (bNo jj) (ja jj (jn (jt jj (jr (jm jj (jF jj jj (jl jj jj jj (jS (bSu jj jj ws) (ja jj (jn (jr (jS (bAd jj jj w1) (jm jj (jn ?_)))))))))))))))))))))))))))))))))))))
    refine ⟨⟨i + 1, by omega⟩, ?_, by dsimp only; omega⟩
    refine Sub.mk ?_ ?_ <;> repeat (first | exact trivial | refine jV jj ?_ | refine jy jj ?_ | refine jw jj (js0 jj) ?_)
   | true =>
    rw [ho] at hq
    rw [if_neg (by rw [ho]; decide)] at hu
    cases hp : (f (i - 1)).o with
    | false =>
     rw [hp] at hq1
     rw [if_neg (by rw [hp]; intro h; exact Bool.noConfusion h.2.1), hz] at hu
     refine js (jr (jS (bLt jj jj) (jn (js (jt jj (jp (js (jb (js (jr (jm jj (jS (aZc jj jj hlt hq) (jS (aZg jj jj jj) (jA jj jj jj (ja jj (jP jj jj jj jj (jn (jb (js (jr (jF jj jj (jl jj jj jj (jS (bNo jj) (ja jj (jn (jf jj (js (jr (jm jj (jS (bGt jj jj) (jm jj (jgf jj jj (jgl jj jj jj (jgm jj (jg (bSu jj jj wi) (jg (aZc jj jj hi1 hq1) (jg (aZh jj jj) (jg (aZf jj jj) (jq jj jj (jm jj (jk (jk (jk (jk (jk (jk (jk (jk (jk (jk (jk (jQ jj jj (ja jj (jn ?_))))))))))))))))))))))))))))))))))))))))))))))))))))))
     refine jf jj (jp (jr (jS (bAd jj jj w1) (jm jj (jn ?_)))))
     refine ⟨⟨i + 1, by omega⟩, ?_, by dsimp only; omega⟩
     dsimp only
     rw [hu]
     refine Sub.mk ?_ ?_ <;> repeat (first | exact trivial | refine jV jj ?_ | refine jy jj ?_ | refine jw jj (js0 jj) ?_)
    | true =>
     rw [hp] at hq1
     by_cases he : (f (i - 1)).e = (f i).e - 1
     ·rw [if_pos ⟨by omega, hp, he⟩] at hu
      have wa : IntKind.i64.wrap (tyU f i + 1) = tyU f (i + 1) := by rw [hu]; exact w64 (by omega) (by omega)
      refine js (jr (jS (bLt jj jj) (jn (js (jt jj (jp (js (jb (js (jr (jm jj (jS (aZc jj jj hlt hq) (jS (aZg jj jj jj) (jA jj jj jj (ja jj (jP jj jj jj jj (jn (jb (js (jr (jF jj jj (jl jj jj jj (jS (bNo jj) (ja jj (jn (jf jj (js (jr (jm jj (jS (bGt jj jj) (jm jj (jgf jj jj (jgl jj jj jj (jgm jj (jg (bSu jj jj wi) (jg (aZc jj jj hi1 hq1) (jg (aZh jj jj) (jg (aZf jj jj) (jq jj jj (jm jj (jgf jj jj (jgl jj jj jj (jgm jj (jg (bSu jj jj wi) (jg (aZc jj jj hi1 hq1) (jg (aZh jj jj) (jg (aZf jj jj) (jgf jj jj (jgl jj jj jj (jg (bSu jj jj we) (jg (bEt jj jj) (jq jj jj (ja jj (jn ?_))))))))))))))))))))))))))))))))))))))))))))))))))))))
      refine jt jj (jr (jm jj (jS (bAd jj jj wa) (ja jj (jn (jr (jS (bAd jj jj w1) (jm jj (jn ?_)))))))))
      refine ⟨⟨i + 1, by omega⟩, ?_, by dsimp only; omega⟩
      refine Sub.mk ?_ ?_ <;> repeat (first | exact trivial | refine jV jj ?_ | refine jy jj ?_ | refine jw jj (js0 jj) ?_)
     ·rw [if_neg (fun h => he h.2.2), hz] at hu
      refine js (jr (jS (bLt jj jj) (jn (js (jt jj (jp (js (jb (js (jr (jm jj (jS (aZc jj jj hlt hq) (jS (aZg jj jj jj) (jA jj jj jj (ja jj (jP jj jj jj jj (jn (jb (js (jr (jF jj jj (jl jj jj jj (jS (bNo jj) (ja jj (jn (jf jj (js (jr (jm jj (jS (bGt jj jj) (jm jj (jgf jj jj (jgl jj jj jj (jgm jj (jg (bSu jj jj wi) (jg (aZc jj jj hi1 hq1) (jg (aZh jj jj) (jg (aZf jj jj) (jq jj jj (jm jj (jgf jj jj (jgl jj jj jj (jgm jj (jg (bSu jj jj wi) (jg (aZc jj jj hi1 hq1) (jg (aZh jj jj) (jg (aZf jj jj) (jgf jj jj (jgl jj jj jj (jg (bSu jj jj we) (jg (bEf jj jj) (jq jj jj (ja jj (jn ?_))))))))))))))))))))))))))))))))))))))))))))))))))))))
      refine jf jj (jp (jr (jS (bAd jj jj w1) (jm jj (jn ?_)))))
      refine ⟨⟨i + 1, by omega⟩, ?_, by dsimp only; omega⟩
      dsimp only
      rw [hu]
      refine Sub.mk ?_ ?_ <;> repeat (first | exact trivial | refine jV jj ?_ | refine jy jj ?_ | refine jw jj (js0 jj) ?_)
 ·have : i = n := by omega
  subst this
  refine js (jr (jS (bLf jj jj) (jn (js (jf jj (je (js (jr (jm jj (ja jj (ja jj (jn (ji ?_)))))))))))))
  exact ret2 rfl (.tmp rfl) (.tmp rfl) (PLe.refl _)
set_option maxHeartbeats 2000000 in
theorem mZx (p : Int) (f : Nat → Co) (n : Nat) (H : OkL f n) : Fn Tryz.prog En 33 [locP p f n] (ex (.int .i64 (if p = 2 then tyU f n else 0))) := by
 have hn8 := H.n8
 unfold locP
 refine aZb Tryz.func33 rfl Tryz.ntmps33 rfl ?_
 intro w0 h0
 refine js (jr (jB jj jj jj (ja jj (jn (js (jr (ja jj (jn (js (js (jr (jF jj jj (jl jj jj jj (jE jj (jm jj (jn (jb ?_)))))))))))))))))
 refine WpD.loop (α := {i : Nat // i ≤ n}) (fun i => ⟨[(1, .ptr 1 0), (3, .one (ex (.int .i64 (tyU f i.1)))), (7, .one (slc 5 (rows (ccs f) n) n)), (8, .one (ex (.int .i64 (n : Int)))), (9, .one (ex (.int .i64 (i.1 : Int))))], [(1, [ex (.int .i64 p), slc 5 (rows (ccs f) n) n])]⟩) (fun i => n - i.1) ⟨0, Nat.zero_le _⟩ ?_ ?_
 ·refine Sub.mk ?_ ?_ <;> repeat (first | exact trivial | refine jV jj ?_ | refine jy jj ?_ | refine jw jj (js0 jj) ?_)
 rintro ⟨i, hi⟩
 dsimp only at hi ⊢
 obtain ⟨t1, t2⟩ := hZd H hi
 by_cases hlt : i < n
 ·have hq : ((rows (ccs f) n).drop (i * 5)).take 5 = [ex (.int .i64 (f i).e), ex (.int .i64 (f i).d), ex (.int .i64 (f i).s), ex (.bool (f i).o), ex (.int .i64 (f i).y)] := aZo (aZp f) hlt
  have w1 := wS i (by omega)
  have b1 := H.d0 i hlt
  have b2 := H.d8 i hlt
  have b3 := H.e0 i hlt
  have b4 := H.e1 i hlt
  have hu : tyU f (i + 1) = tyU f i + tyS f i := rfl
  have hz : tyU f i + 0 = tyU f i := Int.add_zero _
  unfold tyS at hu
  by_cases hi0 : i = 0
  ·have hi0' : ¬ (i : Int) > 0 := by omega
   cases ho : (f i).o with
   | false =>
    rw [ho] at hq
    rw [if_pos ho] at hu
    have ws : IntKind.i64.wrap (tyU f i - (f i).d) = tyU f (i + 1) := by rw [hu]; exact w64 (by omega) (by omega)
    refine js (jr (jS (bLt jj jj) (jn (js (jt jj (jp (js (jb (js (jr (jm jj (jS (aZc jj jj hlt hq) (jS (aZg jj jj jj) (jA jj jj jj (ja jj (jP jj jj jj jj (jn (js (js (jr (jF jj jj (jl jj jj jj (jS (bNo jj) (jn (jt jj (jr (jm jj (jF jj jj (jl jj jj jj (jS (bSu jj jj ws) (ja jj (jn (js (jr (jm jj (jS (bGf jj jj) (jm jj (jk (jk (jQ jj jj (jm jj (jk (jk (jk (jk (jk (jk (jk (jQ jj jj (jm jj (jk (jk (jk (jk (jk (jk (jk (jk (jk (jk (jk (jQ jj jj (jn ?_)))))))))))))))))))))))))))))))))))))))))))))))))))))))))))))))
    refine jf jj (jp (jr (jS (bAd jj jj w1) (jm jj (jn ?_)))))
    refine ⟨⟨i + 1, by omega⟩, ?_, by dsimp only; omega⟩
    refine Sub.mk ?_ ?_ <;> repeat (first | exact trivial | refine jV jj ?_ | refine jy jj ?_ | refine jw jj (js0 jj) ?_)
   | true =>
    rw [ho] at hq
    rw [if_neg (by rw [ho]; decide), if_neg (by omega), hz] at hu
    refine js (jr (jS (bLt jj jj) (jn (js (jt jj (jp (js (jb (js (jr (jm jj (jS (aZc jj jj hlt hq) (jS (aZg jj jj jj) (jA jj jj jj (ja jj (jP jj jj jj jj (jn (js (js (jr (jF jj jj (jl jj jj jj (jS (bNo jj) (jn (jf jj (jp (js (jr (jm jj (jS (bGf jj jj) (jm jj (jk (jk (jQ jj jj (jm jj (jk (jk (jk (jk (jk (jk (jk (jQ jj jj (jm jj (jk (jk (jk (jk (jk (jk (jk (jk (jk (jk (jk (jQ jj jj (jn ?_)))))))))))))))))))))))))))))))))))))))))))))))))))))))))
    refine jf jj (jp (jr (jS (bAd jj jj w1) (jm jj (jn ?_)))))
    refine ⟨⟨i + 1, by omega⟩, ?_, by dsimp only; omega⟩
    dsimp only
    rw [hu]
    refine Sub.mk ?_ ?_ <;> repeat (first | exact trivial | refine jV jj ?_ | refine jy jj ?_ | refine jw jj (js0 jj) ?_)
  ·have hi0' : (i : Int) > 0 := by omega
   have hi1 : i - 1 < n := by omega
   have hq1 : ((rows (ccs f) n).drop ((i - 1) * 5)).take 5 = [ex (.int .i64 (f (i - 1)).e), ex (.int .i64 (f (i - 1)).d), ex (.int .i64 (f (i - 1)).s), ex (.bool (f (i - 1)).o), ex (.int .i64 (f (i - 1)).y)] := aZo (aZp f) hi1
   have wi : IntKind.i64.wrap ((i : Int) - 1) = ((i - 1 : Nat) : Int) := by rw [w64 (by omega) (by omega)]; omega
   have we : IntKind.i64.wrap ((f i).e - 1) = (f i).e - 1 := w64 (by omega) (by omega)
   cases ho : (f i).o with
   | false =>
    rw [ho] at hq
    rw [if_pos ho] at hu
    have ws : IntKind.i64.wrap (tyU f i - (f i).d) = tyU f (i + 1) := by rw [hu]; exact w64 (by omega) (by omega)
    refine js (jr (jS (bLt jj jj) (jn (js (jt jj (jp (js (jb (js (jr (jm jj (jS (aZc jj jj hlt hq) (jS (aZg jj jj jj) (jA jj jj jj (ja jj (jP jj jj jj jj (jn (js (js (jr (jF jj jj (jl jj jj jj (jS (bNo jj) (jn (jt jj (jr (jm jj (jF jj jj (jl jj jj jj (jS (bSu jj jj ws) (ja jj (jn (js (jr (jm jj (jS (bGt jj jj) (jm jj (jgf jj jj (jgl jj jj jj (jq jj jj (jm jj (jk (jk (jk (jk (jk (jk (jk (jQ jj jj (jm jj (jk (jk (jk (jk (jk (jk (jk (jk (jk (jk (jk (jQ jj jj (jn ?_)))))))))))))))))))))))))))))))))))))))))))))))))))))))))))))))
    refine jf jj (jp (jr (jS (bAd jj jj w1) (jm jj (jn ?_)))))
    refine ⟨⟨i + 1, by omega⟩, ?_, by dsimp only; omega⟩
    refine Sub.mk ?_ ?_ <;> repeat (first | exact trivial | refine jV jj ?_ | refine jy jj ?_ | refine jw jj (js0 jj) ?_)
   | true =>
    rw [ho] at hq
    rw [if_neg (by rw [ho]; decide)] at hu
    cases hp : (f (i - 1)).o with
    | false =>
     rw [hp] at hq1
     rw [if_neg (by rw [hp]; intro h; exact Bool.noConfusion h.2.1), hz] at hu
     refine js (jr (jS (bLt jj jj) (jn (js (jt jj (jp (js (jb (js (jr (jm jj (jS (aZc jj jj hlt hq) (jS (aZg jj jj jj) (jA jj jj jj (ja jj (jP jj jj jj jj (jn (js (js (jr (jF jj jj (jl jj jj jj (jS (bNo jj) (jn (jf jj (jp (js (jr (jm jj (jS (bGt jj jj) (jm jj (jgf jj jj (jgl jj jj jj (jq jj jj (jm jj (jgf jj jj (jgl jj jj jj (jgm jj (jg (bSu jj jj wi) (jg (aZc jj jj hi1 hq1) (jg (aZh jj jj) (jg (aZf jj jj) (jq jj jj (jm jj (jk (jk (jk (jk (jk (jk (jk (jk (jk (jk (jk (jQ jj jj (jn ?_)))))))))))))))))))))))))))))))))))))))))))))))))))))))))
     refine jf jj (jp (jr (jS (bAd jj jj w1) (jm jj (jn ?_)))))
     refine ⟨⟨i + 1, by omega⟩, ?_, by dsimp only; omega⟩
     dsimp only
     rw [hu]
     refine Sub.mk ?_ ?_ <;> repeat (first | exact trivial | refine jV jj ?_ | refine jy jj ?_ | refine jw jj (js0 jj) ?_)
    | true =>
     rw [hp] at hq1
     by_cases he : (f (i - 1)).e = (f i).e - 1
     ·rw [if_pos ⟨by omega, hp, he⟩] at hu
      have wa : IntKind.i64.wrap (tyU f i + 1) = tyU f (i + 1) := by rw [hu]; exact w64 (by omega) (by omega)
      refine js (jr (jS (bLt jj jj) (jn (js (jt jj (jp (js (jb (js (jr (jm jj (jS (aZc jj jj hlt hq) (jS (aZg jj jj jj) (jA jj jj jj (ja jj (jP jj jj jj jj (jn (js (js (jr (jF jj jj (jl jj jj jj (jS (bNo jj) (jn (jf jj (jp (js (jr (jm jj (jS (bGt jj jj) (jm jj (jgf jj jj (jgl jj jj jj (jq jj jj (jm jj (jgf jj jj (jgl jj jj jj (jgm jj (jg (bSu jj jj wi) (jg (aZc jj jj hi1 hq1) (jg (aZh jj jj) (jg (aZf jj jj) (jq jj jj (jm jj (jgf jj jj (jgl jj jj jj (jgm jj (jg (bSu jj jj wi) (jg (aZc jj jj hi1 hq1) (jg (aZh jj jj) (jg (aZf jj jj) (jgf jj jj (jgl jj jj jj (jg (bSu jj jj we) (jg (bEt jj jj) (jq jj jj (jn ?_)))))))))))))))))))))))))))))))))))))))))))))))))))))))))
      refine jt jj (jr (jm jj (jS (bAd jj jj wa) (ja jj (jn (jr (jS (bAd jj jj w1) (jm jj (jn ?_)))))))))
      refine ⟨⟨i + 1, by omega⟩, ?_, by dsimp only; omega⟩
      refine Sub.mk ?_ ?_ <;> repeat (first | exact trivial | refine jV jj ?_ | refine jy jj ?_ | refine jw jj (js0 jj) ?_)
     ·rw [if_neg (fun h => he h.2.2), hz] at hu
      refine js (jr (jS (bLt jj jj) (jn (js (jt jj (jp (js (jb (js (jr (jm jj (jS (aZc jj jj hlt hq) (jS (aZg jj jj jj) (jA jj jj jj (ja jj (jP jj jj jj jj (jn (js (js (jr (jF jj jj (jl jj jj jj (jS (bNo jj) (jn (jf jj (jp (js (jr (jm jj (jS (bGt jj jj) (jm jj (jgf jj jj (jgl jj jj jj (jq jj jj (jm jj (jgf jj jj (jgl jj jj jj (jgm jj (jg (bSu jj jj wi) (jg (aZc jj jj hi1 hq1) (jg (aZh jj jj) (jg (aZf jj jj) (jq jj jj (jm jj (jgf jj jj (jgl jj jj jj (jgm jj (jg (bSu jj jj wi) (jg (aZc jj jj hi1 hq1) (jg (aZh jj jj) (jg (aZf jj jj) (jgf jj jj (jgl jj jj jj (jg (bSu jj jj we) (jg (bEf jj jj) (jq jj jj (jn ?_)))))))))))))))))))))))))))))))))))))))))))))))))))))))))
      refine jf jj (jp (jr (jS (bAd jj jj w1) (jm jj (jn ?_)))))
      refine ⟨⟨i + 1, by omega⟩, ?_, by dsimp only; omega⟩
      dsimp only
      rw [hu]
      refine Sub.mk ?_ ?_ <;> repeat (first | exact trivial | refine jV jj ?_ | refine jy jj ?_ | refine jw jj (js0 jj) ?_)
 ·have : i = n := by omega
  subst this
  by_cases hp : p = 2
  ·rw [if_pos hp]
   refine js (jr (jS (bLf jj jj) (jn (js (jf jj (je (js (js (jr (jF jj jj (jl jj jj jj (jS (bNf jj jj) (jn (jf jj (jp (js (jr (jm jj (ja jj (jn (ji ?_)))))))))))))))))))))
   exact rtT rfl jj
  ·rw [if_neg hp]
   refine js (jr (jS (bLf jj jj) (jn (js (jf jj (je (js (js (jr (jF jj jj (jl jj jj jj (jS (bNt jj jj) (jn (jt jj (js (jr (ja jj (jn (ji ?_)))))))))))))))))))
   exact rtT rfl jj
def hvI (f : Nat → Co) (i : Nat) : Nat → Int
 | 0 => 0
 | k + 1 => hvI f i k + ((f (i + 1 + k)).e - (f i).e) * (f i).d * (f (i + 1 + k)).d
def hvH (f : Nat → Co) (n : Nat) : Nat → Int
 | 0 => 0
 | i + 1 => hvH f n i + hvI f i (n - 1 - i)
theorem hZE (f : Nat → Co) (n : Nat) : ∀ {i : Nat}, i ≤ n → hvH f (n + 1) i = hvH f n i + crI f n i
 | 0, _ => rfl
 | i + 1, h => by
  rw [hvH, hvH, crI, hZE f n (by omega)]
  have e : n + 1 - 1 - i = (n - 1 - i) + 1 := by omega
  rw [e, hvI, show i + 1 + (n - 1 - i) = n by omega]
  omega
theorem hv_cr (f : Nat → Co) : ∀ n, hvH f n n = crH f n
 | 0 => rfl
 | n + 1 => by
  rw [hvH, hZE f n (Nat.le_refl _), hv_cr f n, crH, show n + 1 - 1 - n = 0 by omega, hvI]
  omega
theorem jZT {f : Nat → Co} {n : Nat} (H : OkL f n) {i : Nat} : ∀ {k : Nat}, i + k < n → 0 ≤ hvI f i k ∧ hvI f i k ≤ (k : Int) * 6400
 | 0, _ => by simp [hvI]
 | k + 1, h => by
  have ih := jZT H (i := i) (k := k) (by omega)
  have t := fZd (a := (f (i + 1 + k)).e - (f i).e) (b := (f i).d) (c := (f (i + 1 + k)).d) (by have := H.up i (i + 1 + k) (by omega) (by omega); omega) (by have := H.e0 i (by omega); have := H.e1 (i + 1 + k) (by omega); omega)
   (by have := H.d0 i (by omega); omega) (H.d8 i (by omega)) (by have := H.d0 (i + 1 + k) (by omega); omega) (H.d8 (i + 1 + k) (by omega))
  rw [hvI]
  generalize hvI f i k = x at *
  omega
theorem mZD {f : Nat → Co} {n : Nat} (H : OkL f n) : ∀ {i : Nat}, i ≤ n → 0 ≤ hvH f n i ∧ hvH f n i ≤ (i : Int) * 51200
 | 0, _ => by simp [hvH]
 | i + 1, h => by
  have ih := mZD H (i := i) (by omega)
  have t := jZT H (i := i) (k := n - 1 - i) (by omega)
  have := H.n8
  rw [hvH]
  generalize hvH f n i = x at *
  generalize hvI f i (n - 1 - i) = y at *
  omega
theorem fZT {f : Nat → List Pd} {k : Nat} (hf : ∀ i, (f i).length = k) : ∀ {n j : Nat}, j ≤ n → (rows f n).drop (j * k) = rows (fun i => f (j + i)) (n - j)
 | 0, j, h => by obtain rfl : j = 0 := (by omega); simp [rows]
 | n + 1, j, h => by
  rcases Nat.lt_or_ge n j with h1 | h1
  ·obtain rfl : j = n + 1 := by omega
   rw [List.drop_of_length_le (by rw [aZ3 hf]; exact Nat.le_refl _), Nat.sub_self]; rfl
  ·rw [aZ9, List.drop_append_of_le_length (by rw [aZ3 hf]; exact Nat.mul_le_mul_right _ h1), fZT hf h1, show n + 1 - j = (n - j) + 1 by omega, aZ9, show j + (n - j) = n by omega]
set_option maxHeartbeats 2000000 in
theorem rhalves (p : Int) (f : Nat → Co) (n : Nat) (H : OkL f n) : Fn Tryz.prog En 31 [locP p f n] (ex (.int .i64 (crH f n))) := by
 rw [← hv_cr]
 have hn8 := H.n8
 unfold locP
 refine aZb Tryz.func31 rfl Tryz.ntmps31 rfl ?_
 intro w0 h0
 refine js (jr (jB jj jj jj (ja jj (jn (js (jr (ja jj (jn (js (js (jr (jF jj jj (jl jj jj jj (jE jj (jm jj (jn (jb ?_)))))))))))))))))
 refine WpD.loop (α := {i : Nat // i ≤ n}) (fun i => ⟨[(1, .ptr 1 0), (3, .one (ex (.int .i64 (hvH f n i.1)))), (9, .one (slc 5 (rows (ccs f) n) n)), (10, .one (ex (.int .i64 (n : Int)))), (11, .one (ex (.int .i64 (i.1 : Int))))], [(1, [ex (.int .i64 p), slc 5 (rows (ccs f) n) n])]⟩) (fun i => n - i.1) ⟨0, Nat.zero_le _⟩ ?_ ?_
 ·refine Sub.mk ?_ ?_ <;> repeat (first | exact trivial | refine jV jj ?_ | refine jy jj ?_ | refine jw jj (js0 jj) ?_)
 rintro ⟨i, hi⟩
 dsimp only at hi ⊢
 obtain ⟨b1, b2⟩ := mZD H hi
 by_cases hlt : i < n
 ·have hq : ((rows (ccs f) n).drop (i * 5)).take 5 = coc (f i) := aZo (aZp f) hlt
  have w1 := wS i (by omega)
  have hqs : (rows (ccs f) n).drop ((i + 1) * 5) = rows (ccs fun k => f (i + 1 + k)) (n - (i + 1)) := fZT (aZp f) hlt
  have hjn : i + 1 ≤ n := hlt
  refine js (jr (jS (bLt jj jj) (jn (js (jt jj (jp (js (jb (js (jr (jm jj (jS (aZc jj jj hlt hq) (jS (aZg jj jj jj) (jA jj jj jj (ja jj (jP jj jj jj jj (jn (js (jr (jF jj jj (jl jj jj jj (jm jj (jS (bAd jj jj w1) (jS (cZi jj jj hjn hqs) (jE jj (jm jj (jn (jb ?_))))))))))))))))))))))))))))
  refine WpD.loop (α := {k : Nat // k ≤ n - (i + 1)}) (fun k => ⟨[(1, .ptr 1 0), (3, .one (ex (.int .i64 (hvH f n i + hvI f i k.1)))), (5, .ptr 5 0), (9, .one (slc 5 (rows (ccs f) n) n)), (10, .one (ex (.int .i64 (n : Int)))), (11, .one (ex (.int .i64 (i : Int)))), (20, .one (slc 5 (rows (ccs fun k => f (i + 1 + k)) (n - (i + 1))) (n - (i + 1)))), (21, .one (ex (.int .i64 ((n - (i + 1) : Nat) : Int)))), (22, .one (ex (.int .i64 (k.1 : Int))))], [(1, [ex (.int .i64 p), slc 5 (rows (ccs f) n) n]), (5, coc (f i))]⟩) (fun k => n - (i + 1) - k.1) ⟨0, Nat.zero_le _⟩ ?_ ?_
  ·dsimp only
   rw [show hvH f n i + hvI f i 0 = hvH f n i from Int.add_zero _]
   refine Sub.mk ?_ ?_ <;> repeat (first | exact trivial | refine jV jj ?_ | refine jy jj ?_ | refine jw jj (js0 jj) ?_)
  rintro ⟨k, hk⟩
  dsimp only at hk ⊢
  obtain ⟨b3, b4⟩ := jZT H (i := i) (k := k) (by omega)
  by_cases hil : k < n - (i + 1)
  ·have hqi : ((rows (ccs fun k => f (i + 1 + k)) (n - (i + 1))).drop (k * 5)).take 5 = coc (f (i + 1 + k)) := aZo (aZp fun k => f (i + 1 + k)) hil
   have hjl : i + 1 + k < n := by omega
   have w2 := wS k (by omega)
   have k1 : 0 ≤ (f (i + 1 + k)).e - (f i).e := by have := H.up i (i + 1 + k) (by omega) hjl; omega
   have k2 : (f (i + 1 + k)).e - (f i).e ≤ 100 := by have := H.e0 i hlt; have := H.e1 (i + 1 + k) hjl; omega
   have t := fZd (a := (f (i + 1 + k)).e - (f i).e) (b := (f i).d) (c := (f (i + 1 + k)).d) k1 k2 (by have := H.d0 i hlt; omega) (H.d8 i hlt) (by have := H.d0 (i + 1 + k) hjl; omega) (H.d8 (i + 1 + k) hjl)
   have hst : hvI f i (k + 1) = hvI f i k + ((f (i + 1 + k)).e - (f i).e) * (f i).d * (f (i + 1 + k)).d := rfl
   generalize f (i + 1 + k) = cj at *
   have a1 : IntKind.i64.wrap (cj.e - (f i).e) = cj.e - (f i).e := w64 (by omega) (by omega)
   have a2 : IntKind.i64.wrap ((cj.e - (f i).e) * (f i).d) = (cj.e - (f i).e) * (f i).d := w64 (by omega) (by omega)
   have a3 : IntKind.i64.wrap ((cj.e - (f i).e) * (f i).d * cj.d) = (cj.e - (f i).e) * (f i).d * cj.d := w64 (by omega) (by omega)
   have a4 : IntKind.i64.wrap (hvH f n i + hvI f i k + (cj.e - (f i).e) * (f i).d * cj.d) = hvH f n i + hvI f i (k + 1) := by
    rw [hst, ← Int.add_assoc]
    exact w64 (by omega) (by omega)
   refine js (jr (jS (bLt jj jj) (jn (js (jt jj (jp (js (jb (js (jr (jS (aZc jj jj hil hqi) (jS (aZg jj jj jj) (jA jj jj jj (jP jj jj jj jj (jn (jr (jm jj (jF jj jj (jl jj jj jj (jF jj jj (jl jj jj jj (jS (bSu jj jj a1) (jF jj jj (jl jj jj jj (jS (bMu jj jj a2) (jF jj jj (jl jj jj jj (jS (bMu jj jj a3) (jS (bAd jj jj a4) (ja jj (jn (jr (jS (bAd jj jj w2) (jm jj (jn ?_)))))))))))))))))))))))))))))))))))
   refine ⟨⟨k + 1, by omega⟩, ?_, by dsimp only; omega⟩
   refine Sub.mk ?_ ?_ <;> repeat (first | exact trivial | refine jV jj ?_ | refine jy jj ?_ | refine jw jj (js0 jj) ?_)
  ·have : k = n - (i + 1) := by omega
   subst this
   refine js (jr (jS (bLf jj jj) (jn (js (jf jj (je (jr (jS (bAd jj jj w1) (jm jj (jn ?_))))))))))
   refine ⟨⟨i + 1, by omega⟩, ?_, by dsimp only; omega⟩
   dsimp only
   rw [show hvH f n (i + 1) = hvH f n i + hvI f i (n - 1 - i) from rfl, show n - 1 - i = n - (i + 1) by omega]
   refine Sub.mk ?_ ?_ <;> repeat (first | exact trivial | refine jV jj ?_ | refine jy jj ?_ | refine jw jj (js0 jj) ?_)
 ·have : i = n := by omega
  subst this
  refine js (jr (jS (bLf jj jj) (jn (js (jf jj (je (js (jr (jm jj (ja jj (jn (ji ?_))))))))))))
  exact rtT rfl jj
theorem jZj (p : Int) (e : Nat) (hp : 2 ≤ p) (hp2 : p ≤ 9973) (he : e ≤ 64) : Fn Tryz.prog En 32 [ex (.int .i64 p), ex (.int .i64 (e : Int))] (qC (((p : Int) : Rat) ^ e)) := by
 have C1 := dZf En p (by omega) (by omega)
 have C2 := qpow En ((p : Int) : Rat) e ((sz_z (z := p) (by omega) (by omega)).mono (by omega)) he
 refine aZb Tryz.func32 rfl Tryz.ntmps32 rfl ?_
 intro w0 h0
 refine js (jr (jA jj jj jj (jn (js (jr (jm jj (jS (aZa C1 ⟨jj, trivial⟩) (jm jj (jS (aZa C2 ⟨jj, jj, trivial⟩) (jm jj (jx' jj jj (jx' jj jj (jA jj jj jj (jP jj jj jj jj (ja jj (jn (js (jr (jL jj jj jj (jP jj jj jj jj (jn (ji ?_))))))))))))))))))))))
 exact rtC rfl jj jj
end
theorem OkA.p2 {p : Int} {f : Nat → Co} {n : Nat} (H : OkA p f n) : 2 ≤ p ∧ p ≤ 9973 := by
 rcases H.pr with h | h <;> omega
def crG (p : Int) (f : Nat → Co) (n : Nat) : Pd := if accP p f n then crA p (crH f n) else tupP [cZS, ex (.int .i64 22)]
theorem mZo (p : Int) (f : Nat → Co) (n : Nat) (hn : n ≤ 20) : Fn Tryz.prog TabD 11 [locP p f n] (crG p f n) := by
 have C0 := iZR p f n hn
 unfold crG
 by_cases ha : accP p f n
 ·rw [decide_eq_true ha] at C0
  rw [if_pos ha]
  have H := okA ha
  exact mCross TabD p f n H.toOkL H.p2.1 H.p2.2 C0
 ·rw [decide_eq_false ha] at C0
  rw [if_neg ha]
  unfold locP cZS at *
  refine aZb Tryz.func11 rfl Tryz.ntmps11 rfl ?_
  intro w0 h0
  refine js (jr (jB jj jj jj (jA jj jj jj (ja jj (jn (js (js (jr (jL jj jj jj (jS (aZa C0 ⟨jj, trivial⟩) (jS (bNo jj) (jn (jt jj (js (jr (jS (aZl (ps := []) trivial jj) (jP jj jj jj jj (ja jj (jn (ji ?_))))))))))))))))))))
  exact rtD rfl jj jj jj
section
variable (En : Ev)
theorem mZ3 (p : Int) (f : Nat → Co) (n : Nat) (hn : n ≤ 20) : Fn Tryz.prog En 12 [locP p f n] (crG p f n) := by
 have C0 := jZp En p f n hn
 unfold crG
 by_cases ha : accP p f n
 ·rw [decide_eq_true ha] at C0
  rw [if_pos ha]
  have H := okA ha
  have C1 := rhalves En p f n H.toOkL
  obtain ⟨b1, b2⟩ := kZq H.toOkL (Nat.le_refl n)
  obtain ⟨p1, p2⟩ := H.p2
  have hn8 := H.n8
  unfold crA
  generalize crH f n = h at *
  obtain ⟨m, rfl⟩ : ∃ m : Nat, h = (m : Int) := ⟨h.toNat, by omega⟩
  by_cases hb : (m : Int) ≤ 128
  ·rw [if_pos hb, Int.toNat_natCast]
   have C2 := jZj En p (m / 2) p1 p2 (by omega)
   have eb : IntKind.i64.wrap (((m : Nat) : Int).tdiv 2) = ((m / 2 : Nat) : Int) := by
    rw [show ((m : Nat) : Int).tdiv 2 = ((m / 2 : Nat) : Int) from (Int.ofNat_tdiv _ _).symm]
    exact w64 (by omega) (by omega)
   have em : (m : Int).tmod 2 = (m : Int) % 2 := Int.tmod_eq_emod_of_nonneg (by omega)
   have hh : ((m : Int) % 2 == 1) = lZr m := rfl
   unfold locP at *
   refine aZb Tryz.func12 rfl Tryz.ntmps12 rfl ?_
   intro w0 h0
   refine js (jr (jB jj jj jj (jA jj jj jj (ja jj (jn (js (js (jr (jL jj jj jj (jS (aZa C0 ⟨jj, trivial⟩) (jS (bNo jj) (jn (jf jj (jp (js (jr (jL jj jj jj (jS (aZa C1 ⟨jj, trivial⟩) (ja jj (jn (js (js (jr (jm jj (jS (bGf jj jj) (jn (jf jj (jp (js (jr (jF jj jj (jl jj jj jj (jm jj (jS (bQu jj jj eb) (jS (aZa C2 ⟨jj, jj, trivial⟩) (jm jj (jS (bRe jj jj em) (jS (aZd jj jj (fun w => aZ4 w _ _ _ _ _ _) (aZm hh)) (jS (aZl (ps := [(_, _), (_, _)]) ⟨jj, Part.c jj, jj, Part.c jj, trivial⟩ jj) (jP jj jj jj jj (ja jj (jn ?_))))))))))))))))))))))))))))))))))))))))))
   refine ji ?_
   exact rtD rfl jj jj jj
  ·rw [if_neg hb]
   unfold locP at *
   refine aZb Tryz.func12 rfl Tryz.ntmps12 rfl ?_
   intro w0 h0
   refine js (jr (jB jj jj jj (jA jj jj jj (ja jj (jn (js (js (jr (jL jj jj jj (jS (aZa C0 ⟨jj, trivial⟩) (jS (bNo jj) (jn (jf jj (jp (js (jr (jL jj jj jj (jS (aZa C1 ⟨jj, trivial⟩) (ja jj (jn (js (js (jr (jm jj (jS (bGt jj jj) (jn (jt jj (js (jr (jS (aZl (ps := []) trivial jj) (jP jj jj jj jj (ja jj (jn (ji ?_))))))))))))))))))))))))))))))))))
   exact rtD rfl jj jj jj
 ·rw [decide_eq_false ha] at C0
  rw [if_neg ha]
  unfold locP cZS at *
  refine aZb Tryz.func12 rfl Tryz.ntmps12 rfl ?_
  intro w0 h0
  refine js (jr (jB jj jj jj (jA jj jj jj (ja jj (jn (js (js (jr (jL jj jj jj (jS (aZa C0 ⟨jj, trivial⟩) (jS (bNo jj) (jn (jt jj (js (jr (jS (aZl (ps := []) trivial jj) (jP jj jj jj jj (ja jj (jn (ji ?_))))))))))))))))))))
  exact rtD rfl jj jj jj
end
def tyN (p : Int) (f : Nat → Co) (n : Nat) : Int := if p = 2 then tyU f n else 0
def tyA (p : Int) (f : Nat → Co) (n : Nat) : Int × Int := if accP p f n then (tyN p f n, 0) else (0, 22)
def tyT (r : Int × Int) : Pd := tupP [ex (.int .i64 r.1), ex (.int .i64 r.2)]
theorem mZn (p : Int) (f : Nat → Co) (n : Nat) (hn : n ≤ 20) : Fn Tryz.prog TabD 13 [locP p f n] (tyT (tyA p f n)) := by
 have C0 := iZR p f n hn
 unfold tyT tyA
 by_cases ha : accP p f n
 ·rw [decide_eq_true ha] at C0
  rw [if_pos ha]
  have H := okA ha
  unfold tyN
  by_cases hp : p = 2
  ·rw [if_pos hp]
   subst hp
   exact mTypesG TabD f n H.toOkL C0
  ·rw [if_neg hp]
   exact mTypesO TabD p f n hp C0
 ·rw [decide_eq_false ha] at C0
  rw [if_neg ha]
  unfold locP at *
  refine aZb Tryz.func13 rfl Tryz.ntmps13 rfl ?_
  intro w0 h0
  refine js (jr (jB jj jj jj (ja jj (ja jj (jn (js (js (jr (jL jj jj jj (jS (aZa C0 ⟨jj, trivial⟩) (jS (bNo jj) (jn (jt jj (js (jr (ja jj (ja jj (jn (ji ?_)))))))))))))))))))
  exact ret2 rfl (.tmp rfl) (.tmp rfl) (PLe.refl _)
theorem rTypes (En : Ev) (p : Int) (f : Nat → Co) (n : Nat) (hn : n ≤ 20) : Fn Tryz.prog En 14 [locP p f n] (tyT (tyA p f n)) := by
 have C0 := jZp En p f n hn
 unfold tyT tyA
 by_cases ha : accP p f n
 ·rw [decide_eq_true ha] at C0
  rw [if_pos ha]
  have C1 := mZx En p f n (okA ha).toOkL
  unfold tyN
  generalize (if p = 2 then tyU f n else 0) = t at *
  unfold locP at *
  refine aZb Tryz.func14 rfl Tryz.ntmps14 rfl ?_
  intro w0 h0
  refine js (jr (jB jj jj jj (ja jj (ja jj (jn (js (js (jr (jL jj jj jj (jS (aZa C0 ⟨jj, trivial⟩) (jS (bNo jj) (jn (jf jj (jp (js (jr (jL jj jj jj (jS (aZa C1 ⟨jj, trivial⟩) (ja jj (ja jj (jn (ji ?_))))))))))))))))))))))
  exact ret2 rfl (.tmp rfl) (.tmp rfl) (PLe.refl _)
 ·rw [decide_eq_false ha] at C0
  rw [if_neg ha]
  unfold locP at *
  refine aZb Tryz.func14 rfl Tryz.ntmps14 rfl ?_
  intro w0 h0
  refine js (jr (jB jj jj jj (ja jj (ja jj (jn (js (js (jr (jL jj jj jj (jS (aZa C0 ⟨jj, trivial⟩) (jS (bNo jj) (jn (jt jj (js (jr (ja jj (ja jj (jn (ji ?_)))))))))))))))))))
  exact ret2 rfl (.tmp rfl) (.tmp rfl) (PLe.refl _)
end Go.Proofs.YtdieokoenhncfaaGreatDoor
/- Compartments are runs; a free odd constituent is a compartment by itself. Plain. -/
namespace Go.Proofs.YtdieokoenhncfaaGreatDoor
open Go.RowKit Limb Num
def Run (j : Nat → Bool) (g : List Nat) : Prop := ∀ k, k + 1 < g.length → g.getD (k + 1) 0 = g.getD k 0 + 1 ∧ j (g.getD (k + 1) 0) = true
theorem run_one (j : Nat → Bool) (i : Nat) : Run j [i] := fun k hk => by simp at hk
theorem kZS {j : Nat → Bool} {g : List Nat} {i : Nat} (h : Run j g) (hl : ∀ x ∈ g.getLast?, x + 1 = i) (hj : j i = true) : Run j (g ++ [i]) := fun k hk => by
 rw [List.length_append, List.length_singleton] at hk
 by_cases e : k + 1 = g.length
 ·have h1 : (g ++ [i]).getD (k + 1) 0 = i := by rw [e]; simp [List.getD]
  have h2 : (g ++ [i]).getD k 0 = g.getD k 0 := by simp only [List.getD, List.getElem?_append_left (show k < g.length by omega)]
  rw [h1, h2]
  have h3 : g.getLast? = some (g.getD k 0) := by
   rw [List.getLast?_eq_getElem?, show g.length - 1 = k by omega]
   simp [List.getD, List.getElem?_eq_getElem (show k < g.length by omega)]
  have := hl _ h3
  exact ⟨by omega, hj⟩
 ·have h1 : (g ++ [i]).getD (k + 1) 0 = g.getD (k + 1) 0 := by simp only [List.getD, List.getElem?_append_left (show k + 1 < g.length by omega)]
  have h2 : (g ++ [i]).getD k 0 = g.getD k 0 := by simp only [List.getD, List.getElem?_append_left (show k < g.length by omega)]
  rw [h1, h2]
  exact h k (by omega)
theorem jZW {b j : Nat → Bool} {i : Nat} (h : b i = true) : (grps b j (i + 1)).2.getLast? = some i := by
 rw [grps, if_neg (by rw [h]; decide)]
 split <;> simp
theorem hZG (b j : Nat → Bool) : ∀ n, (∀ g ∈ (grps b j n).1, Run j g) ∧ Run j (grps b j n).2
 | 0 => by
  rw [grps]
  exact ⟨fun g hg => (by cases hg), fun k hk => (by simp at hk)⟩
 | n + 1 => by
  obtain ⟨h1, h2⟩ := hZG b j n
  rw [grps]
  split
  ·exact ⟨h1, h2⟩
  ·split
   ·rename_i hc
    obtain ⟨c1, c2, c3⟩ := hc
    refine ⟨h1, kZS h2 (fun x hx => ?_) c3⟩
    have := jZW (b := b) (j := j) (i := n - 1) c2
    rw [show n - 1 + 1 = n by omega] at this
    rw [this] at hx
    cases hx
    omega
   ·refine ⟨fun g hg => ?_, run_one j n⟩
    dsimp only at hg
    split at hg
    ·exact h1 g hg
    ·rcases List.mem_append.1 hg with h | h
     ·exact h1 g h
     ·simp at h; subst h; exact h2
theorem mZe {b j : Nat → Bool} {n : Nat} : ∀ g ∈ allG (grps b j n), Run j g := by
 obtain ⟨h1, h2⟩ := hZG b j n
 intro g hg
 unfold allG at hg
 split at hg
 ·exact h1 g hg
 ·rcases List.mem_append.1 hg with h | h
  ·exact h1 g h
  ·simp at h; subst h; exact h2
theorem lZz {f : Nat → Co} {n i : Nat} (hi : i < n) (ho : (f i).o = true) (hfr : ∀ k, k < n → (f k).o = true → (f k).e ≠ (f i).e - 1 ∧ (f k).e ≠ (f i).e + 1) : cof (comp f n) i = [i] := by
 obtain ⟨a, b⟩ := dZP (cZE.2 ⟨hi, ho⟩)
 have hr : Run (fZr f) (cof (comp f n) i) := mZe _ a
 have hm : ∀ x ∈ cof (comp f n) i, x < n ∧ (f x).o = true := fun x hx => cZE.1 (List.mem_flatten.2 ⟨_, a, hx⟩)
 generalize cof (comp f n) i = g at *
 obtain ⟨k, hk, e⟩ := List.getElem_of_mem b
 have e' : g.getD k 0 = i := by simp [List.getD, List.getElem?_eq_getElem hk, e]
 have hl : g.length = 1 := by
  apply Classical.byContradiction
  intro hne
  rcases Nat.eq_zero_or_pos k with h0 | h0
  ·subst h0
   obtain ⟨r1, r2⟩ := hr 0 (by omega)
   have hx : g.getD (0 + 1) 0 ∈ g := by simp [List.getD, List.getElem?_eq_getElem (show 0 + 1 < g.length by omega)]
   obtain ⟨m1, m2⟩ := hm _ hx
   unfold fZr at r2
   have r2 := of_decide_eq_true r2
   rw [r1, e', Nat.add_sub_cancel] at r2
   rw [r1, e'] at m1 m2
   exact (hfr _ m1 m2).2 r2
  ·obtain ⟨r1, r2⟩ := hr (k - 1) (by omega)
   rw [show k - 1 + 1 = k by omega, e'] at r1 r2
   have hx : g.getD (k - 1) 0 ∈ g := by simp [List.getD, List.getElem?_eq_getElem (show k - 1 < g.length by omega)]
   obtain ⟨m1, m2⟩ := hm _ hx
   unfold fZr at r2
   have r2 := of_decide_eq_true r2
   rw [show i - 1 = g.getD (k - 1) 0 by omega] at r2
   exact (hfr _ m1 m2).1 (by omega)
 match g, hl with
 | [x], _ =>
  have : x = i := (List.mem_singleton.1 b).symm
  rw [this]
theorem lZy {p : Int} {f : Nat → Co} {n i : Nat} (h : accP p f n) (hp : p = 2) (hi : i < n) (ho : (f i).o = true) (hfr : ∀ k, k < n → (f k).o = true → (f k).e ≠ (f i).e - 1 ∧ (f k).e ≠ (f i).e + 1) : ((f i).y - (f i).d) % 2 = 0 := by
 rcases h with h | h | h
 ·exact absurd hp h.2.1
 ·have := fZu h.2 hi
  unfold legP at this
  obtain ⟨_, _, _, _, _, _, _, h8⟩ := this
  rw [if_pos ho] at h8
  exact h8.1
 ·have hc := lZz hi ho hfr
  obtain ⟨a, _⟩ := dZP (cZE.2 ⟨hi, ho⟩)
  have hg := ((fZ0 (Nat.le_refl _)).1 h.1.2.2) _ (by rw [List.take_length]; exact a)
  rw [hc] at hg
  have := hg.2
  simpa [gsm, List.getD] using this
end Go.Proofs.YtdieokoenhncfaaGreatDoor
